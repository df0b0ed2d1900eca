/-
  Texts joined by program: BlockU, BlockV, BlockW, GraphC, GraphD, BlockX, WkA, WkB, WkR, WkN, WkT, WkF, WkP, WkG, WkX, WkW, WkY, WkZ, WkGa, WkGb, VZ, VZ2, VY, SetsU.
-/
import Derived.Test.YtnfdimfepbbbpaaGreatJAuditAgrees3
import Derived.Lib.RowBridge
set_option linter.unusedSimpArgs false
set_option linter.unusedVariables false
set_option maxRecDepth 100000
set_option maxHeartbeats 8000000
namespace Go.Proofs.YtnfdimfepbbbpaaGreat.Deep
section
variable {G:Gr}{D:Int->List Int}{T:Int->Int}{Y:Int->Prop}{o s s1:St}{v via:Int}{dn S S1:List Int}{Bs B1:List (List Int)}
abbrev EA (Y:Int->Prop)(v x:Int):Prop:=Y x\/x=v
abbrev lg (s:St)(e:Int):St:={s with pJ:=s.pJ++[e]}
theorem mQ.N0 (C:Ctx G Y o v via)(R:mQ G T Y o v via dn s S Bs){e w:Int}(hi:G.inc e w)(hw:s.met w=0)(cO:e≠via):e∉s.pJ:=by
 intro h
 rw[R.pJ,List.mem_append] at h
 rcases h with h|h
 .rcases C.sv _ h with q|q
  .exact cO q
  exact q w hi (by
   have:=R.old w
   exact Classical.byContradiction fun hh=>hh (by have:=this hh;omega))
 obtain⟨_,_,_,x,y,hx,hy,hj⟩:=R.sE e h
 rcases hj.of hi with rfl|rfl
 .exact hx.2 hw
 rcases hy with hy|hy
 .exact hy.2 hw
 have h1:=C.mP _ hy
 have:=R.old _ h1
 omega
theorem mQ.child (HD:pn G D T)(C:Ctx G Y o v via)(R:mQ G T Y o v via dn s S Bs){d:Int}(hd:d∈D v)(h1:T d≠v)(h2:d/2≠via)(h3:s.met (T d)=0):
  Ctx G (EA Y v) (lg s (d/2)) (T d) (d/2):=by
 obtain⟨hL,hj⟩:=HD.mem v d hd
 have F5:=R.Ez C
 have hns:d/2∉s.pJ:=R.N0 C hj.right h3 h2
 have hnb:d/2∉s.dM.flatten:=fun h=>R.eW.bv _ h _ hj.right h3
 refine⟨⟨R.eW.NY,R.eW.inj,R.eW.bv,?_,R.eW.b7,R.eW.KQ,R.eW.KR,R.eW.ne⟩,h3,fun x hx=>?_,fun x y hx hn ha=>?_,.inr ⟨hL,v,.inr rfl,hj,fun x hx=>?_⟩,fun f hf=>?_⟩
 .show(s.dM.flatten++(s.pJ++[d/2])).Nodup
  rw[<-List.append_assoc,List.nodup_append]
  refine⟨R.eW.nd,by simp,fun a ha b hb=>?_⟩
  rw[List.mem_singleton.1 hb]
  rintro rfl
  exact(List.mem_append.1 ha).elim hnb hns
 .rcases hx with hx|rfl
  .have:=C.mP x hx
   show s.met x≠0
   rw[R.old x this];exact this
  exact F5.2
 .show s.met y≠0
  have hx:s.met x≠0:=hx
  by_cases ho:o.met x=0
  .exact R.seen x y ⟨ho,hx⟩ (fun e=>hn (.inr e)) ha
  have hy:=C.black x y ho (fun e=>hn (.inl e)) ha
  rw[R.old y hy];exact hy
 .rcases hx with hx|rfl
  .have h:=C.mP x hx
   show s.met x<=s.met v
   rw[R.old x h,R.CM]
   have:=(C.eW.NY x).2;omega
  exact Int.le_refl _
 rcases List.mem_append.1 hf with h|h
 .refine .inr fun x hi=>?_
  show s.met x≠0
  intro h0
  by_cases e:f=via
  .rcases C.up with⟨_,_,hs⟩|⟨_,p,hp,hjp,_⟩
   .rw[R.pJ,hs,List.nil_append] at h
    exact(R.sE f h).2.2.1 e
   rw[e] at hi
   rcases hjp.of hi with rfl|rfl
   .have h1:=C.mP _ hp
    have:=R.old _ h1
    omega
   exact F5.2 h0
  exact R.N0 C hi h0 e h
 exact .inl (List.mem_singleton.1 h)
structure aaY (G:Gr)(Y:Int->Prop)(o s s1:St)(v e w:Int)(S1:List Int)(B1:List (List Int)):Prop where
 nw:∀x,gy o s1 x↔gy o s x\/gy s s1 x
 met:∀x,s.met x≠0->s1.met x=s.met x
 old:∀x,o.met x≠0->s1.met x=o.met x
 vs:s1.met v=s.met v
 lv:s1.low v=s.low v
 N1:gy s s1 w
 lt:s1.met v<s1.met w
theorem mQ.behind (HD:pn G D T)(C:Ctx G Y o v via)(R:mQ G T Y o v via dn s S Bs){d:Int}(hd:d∈D v)(h1:T d≠v)(h2:d/2≠via)(h3:s.met (T d)=0)
  (R1:mQ G T (EA Y v) (lg s (d/2)) (T d) (d/2) (D (T d)) s1 S1 B1):aaY G Y o s s1 v (d/2) (T d) S1 B1:=by
 have C1:=R.child HD C hd h1 h2 h3
 have F5:=R.Ez C
 have hm:∀x,s.met x≠0->s1.met x=s.met x:=R1.old
 have hw:=R1.Ez C1
 refine⟨fun x=>⟨fun⟨a,b⟩=>?_,fun h=>?_⟩,hm,fun x hx=>?_,hm v F5.2,R1.KS v F5.2,hw,?_⟩
 .by_cases q:s.met x=0
  .exact .inr ⟨q,b⟩
  exact .inl ⟨a,q⟩
 .rcases h with⟨a,b⟩|⟨a,b⟩
  .exact⟨a,by rw[hm x b];exact b⟩
  refine⟨Classical.byContradiction fun q=>?_,b⟩
  have:=R.old x q
  omega
 .have:=R.old x hx
  rw[hm x (by omega)];exact this
 rw[hm v F5.2]
 have:=R1.new _ hw
 have h4:(lg s (d/2)).cnt=s.cnt:=rfl
 have:=(R.eW.NY v).2
 omega
theorem mQ.RW (HD:pn G D T)(R:mQ G T Y o v via (D v) s S Bs)(x:Int)(hx:gy o s x)(f:Int)(hf:f∈G.L)(hi:G.inc f x):(G.lp f/\(f,[f])∈s.ins)\/f=via\/f∈S\/f∈Bs.flatten:=by
 by_cases e:x=v
 .subst e
  obtain⟨d,hd,rfl⟩:=HD.all f x hf hi
  exact R.Ey d hd
 rcases R.LO x hx e f hf hi with h|h
 .exact .inl h
 exact .inr (.inr h)
theorem mQ.N2 (HD:pn G D T)(R:mQ G T Y o v via (D v) s S Bs)(x y:Int)(hx:gy o s x)(ha:G.Ad x y):s.met y≠0:=by
 by_cases e:x=v
 .subst e
  obtain⟨f,hf,hj⟩:=ha
  obtain⟨d,hd,rfl⟩:=HD.all f x hf hj.left
  obtain⟨_,J8⟩:=HD.mem x d hd
  have:=R.Bb d hd
  rcases J8.of hj.right with rfl|rfl
  .exact hx.2
  exact this
 exact R.seen x y hx e ha
theorem mQ.nbr (HD:pn G D T)(C:Ctx G Y o v via)(R:mQ G T Y o v via (D v) s S Bs){x y:Int}(hx:gy o s x)(ha:G.Ad x y):gy o s y\/Y y:=by
 have hy:=R.N2 HD x y hx ha
 by_cases ho:o.met y=0
 .exact .inl ⟨ho,hy⟩
 exact .inr (Classical.byContradiction fun hn=>C.black y x ho hn ha.symm hx.1)
theorem mQ.N3 (HD:pn G D T)(C:Ctx G Y o v via)(R:mQ G T Y o v via dn s S Bs){d:Int}(hd:d∈D v)(h1:T d≠v)(h2:d/2≠via)(h3:s.met (T d)=0)
  (R1:mQ G T (EA Y v) (lg s (d/2)) (T d) (d/2) (D (T d)) s1 S1 B1) (AL:¬s1.low (T d)<s1.met v) {f y:Int} (hf:f∈S1) (hy:EA Y v y) (hi:G.inc f y):y=v:=by
 have B:=R.behind HD C hd h1 h2 h3 R1
 rcases hy with hy|hy
 .have h4:=R1.NZ f hf y (.inl hy) hi
  have h5:=C.mP y hy
  rw[B.old y h5] at h4
  rw[B.vs,R.CM] at AL
  have:=(C.eW.NY y).2
  omega
 exact hy
theorem mQ.stays (HD:pn G D T)(C:Ctx G Y o v via)(R:mQ G T Y o v via dn s S Bs){d:Int}(hd:d∈D v)(h1:T d≠v)(h2:d/2≠via)(h3:s.met (T d)=0)
  (R1:mQ G T (EA Y v) (lg s (d/2)) (T d) (d/2) (D (T d)) s1 S1 B1) (AL:¬s1.low (T d)<s1.met v) {x y:Int} (hx:gy s s1 x) (ha:G.Ad x y):gy s s1 y\/y=v:=by
 have C1:=R.child HD C hd h1 h2 h3
 rcases R1.nbr HD C1 hx ha with h|h
 .exact .inl h
 refine .inr ?_
 obtain⟨f,hf,hj⟩:=ha
 have hyx:y≠x:=fun e=>by
  have:=C1.mP y h
  rw[e] at this
  exact this hx.1
 rcases R1.RW HD x hx f hf hj.left with q|q|q|q
 .exfalso
  have:G.A f=G.B f:=q.1
  rcases hj with⟨a,b⟩|⟨a,b⟩
  .exact hyx (by rw[<-a,<-b,this])
  exact hyx (by rw[<-a,<-b,this])
 .obtain⟨_,hjd⟩:=HD.mem v d hd
  rw[q] at hj
  rcases hjd.of hj.right with e|e
  .exact e
  exfalso
  have:=C1.mP y h
  rw[e] at this
  exact this h3
 .exact R.N3 HD C hd h1 h2 h3 R1 AL q h hj.right
 exfalso
 exact C1.mP y h (R1.bE f q y hj.right).1
theorem mQ.block (HD:pn G D T)(C:Ctx G Y o v via)(R:mQ G T Y o v via dn s S Bs){d:Int}(hd:d∈D v)(h1:T d≠v)(h2:d/2≠via)(h3:s.met (T d)=0)
  (R1:mQ G T (EA Y v) (lg s (d/2)) (T d) (d/2) (D (T d)) s1 S1 B1) (AL:¬s1.low (T d)<s1.met v):Good G ([]++s1.dM.flatten) (d/2::S1):=by
 obtain⟨hL,hj⟩:=HD.mem v d hd
 have C1:=R.child HD C hd h1 h2 h3
 have hw:=R1.Ez C1
 have hnv:¬gy s s1 v:=fun h=>(R.Ez C).2 h.1
 have Uy:¬G.lp (d/2):=fun h=>by
  rcases hj with⟨a,b⟩|⟨a,b⟩
  .exact h1 (by rw[<-a,<-b];exact h.symm)
  exact h1 (by rw[<-a,<-b];exact h)
 have vS:∀f∈d/2::S1,f∈G.L/\¬G.lp f/\∃x y,gy s s1 x/\(gy s s1 y\/y=v)/\G.iV f x y:=by
  intro f hf
  rcases List.mem_cons.1 hf with rfl|hf
  .exact⟨hL,Uy,T d,v,hw,.inr rfl,hj.symm⟩
  obtain⟨a,b,_,x,y,hx,hy,yD⟩:=R1.sE f hf
  refine⟨a,b,x,y,hx,?_,yD⟩
  rcases hy with hy|hy
  .exact .inl hy
  exact .inr (R.N3 HD C hd h1 h2 h3 R1 AL hf hy yD.right)
 have hstay:∀x y,gy s s1 x->G.Ad x y->gy s s1 y\/y=v:=fun x y hx ha=>R.stays HD C hd h1 h2 h3 R1 AL hx ha
 have lZ:∀f∈d/2::S1,∀z,∃a,G.inc f a/\a≠z/\G.iC (· ≠z) a (if gy s s1 z then v else T d):=by
  intro f hf z
  by_cases hz:gy s s1 z
  .rw[if_pos hz]
   have LP:v≠z:=fun e=>hnv (e▸hz)
   rcases List.mem_cons.1 hf with rfl|hf'
   .exact⟨v,hj.left,LP,.refl LP⟩
   obtain⟨a,y,VJ,haz,hy,hr⟩:=R1.out f hf' z hz
   refine⟨a,VJ,haz,?_⟩
   have wB:G.iC (· ≠z) a y:=hr.mono fun x hx=>hx.2
   have hQ:(gy s s1 a\/G.iC (· ≠z) a v):=by
    obtain⟨_,_,x,y',hx,GL,yD⟩:=vS f hf
    rcases yD.of VJ with e|e
    .rw[e];exact .inl hx
    rcases GL with GL|GL
    .rw[e];exact .inl GL
    rw[e,GL];exact .inr (.refl LP)
   have aaZ:=Gr.iC.closed (P:=(· ≠z)) (Q:=fun x=>G.iC (· ≠z) a x/\(gy s s1 x\/G.iC (· ≠z) a v)) (fun x y ⟨hx,wj⟩ ha hp=>by
    refine⟨.step hx ha hp,?_⟩
    rcases wj with wj|wj
    .rcases hstay x y wj ha with h|h
     .exact .inl h
     exact .inr (h▸.step hx ha hp)
    exact .inr wj) wB ⟨.refl haz,hQ⟩
   rcases aaZ.2 with h|h
   .exact absurd h.1 (C1.mP y hy)
   exact h
  rw[if_neg hz]
  obtain⟨_,_,x,y,hx,hy,yD⟩:=vS f hf
  refine⟨x,yD.left,fun e=>hz (e▸hx),(Gr.iC.mono (P:=gy s s1) (P':=(· ≠z)) (fun u hu=>fun e:u=z=>hz (e▸hu)) (R1.conn x hx)).symm⟩
 refine⟨v,gy s s1,hnv,⟨d/2,by simp,hj.left⟩,vS,hstay,fun x hx f hf hi=>?_,fun f hf g hg z=>?_⟩
 .rcases R1.RW HD x hx f hf hi with q|q|q|q
  .exact .inl q.1
  .exact .inr (.inl (by rw[q];simp))
  .exact .inr (.inl (List.mem_cons_of_mem _ q))
  refine .inr (.inr ?_)
  rw[List.nil_append,R1.dM,List.flatten_append]
  exact List.mem_append_right _ q
 obtain⟨a,ha,haz,hra⟩:=lZ f hf z
 obtain⟨b,hb,hbz,Uz⟩:=lZ g hg z
 exact⟨a,b,ha,haz,hb,hbz,hra.trans Uz.symm⟩
end
end Go.Proofs.YtnfdimfepbbbpaaGreat.Deep
namespace Go.Proofs.YtnfdimfepbbbpaaGreat.Deep
section
variable {G:Gr}{D:Int->List Int}{T:Int->Int}{Y:Int->Prop}{o s s1:St}{v via:Int}{dn S S1:List Int}{Bs B1:List (List Int)}
theorem mQ.keep (HD:pn G D T)(C:Ctx G Y o v via)(R:mQ G T Y o v via dn s S Bs){d:Int}(hd:d∈D v)(h1:T d≠v)(h2:d/2≠via)(h3:s.met (T d)=0)
  (R1:mQ G T (EA Y v) (lg s (d/2)) (T d) (d/2) (D (T d)) s1 S1 B1) (iL:s1.low (T d)<s1.met v):
  mQ G T Y o v via (dn++[d]) {s1 with low:=mV s1.low v (min (s1.low v) (s1.low (T d)))} (S++d/2::S1) (Bs++B1):=by
 obtain⟨hL,hj⟩:=HD.mem v d hd
 have C1:=R.child HD C hd h1 h2 h3
 have B:=R.behind HD C hd h1 h2 h3 R1
 have F5:=R.Ez C
 have zY:gy o s1 v:=(B.nw v).2 (.inl F5)
 have Bd:gy o s1 (T d):=(B.nw _).2 (.inr B.N1)
 have Zb:∀y,Y y->s1.met y=s.met y:=fun y hy=>B.met y (C1.mP y (.inl hy))
 have Uy:¬G.lp (d/2):=fun h=>by
  rcases hj with⟨a,b⟩|⟨a,b⟩
  .exact h1 (by rw[<-a,<-b];exact h.symm)
  exact h1 (by rw[<-a,<-b];exact h)
 have Cf:mV s1.low v (min (s1.low v) (s1.low (T d))) v=min (s1.low v) (s1.low (T d)):=yB _ _ _
 have hold:∀x,o.met x≠0->mV s1.low v (min (s1.low v) (s1.low (T d))) x=o.low x:=fun x hx=>by
  rw[GR _ _ (fun e=>hx (by rw[e];exact C.new))]
  exact(R1.KS x (by have:=R.old x hx;show s.met x≠0;omega)).trans (R.KS x hx)
 have uH:∀x,gy o s1 x->o.cnt<s1.met x:=fun x hx=>by
  rcases(B.nw x).1 hx with h|h
  .rw[B.met x h.2];exact R.new x h
  have h4:=R1.new x h
  have h5:(lg s (d/2)).cnt=s.cnt:=rfl
  have:=(R.eW.NY v).2
  have:=R.CM
  omega
 have N4:∀x y,gy o s1 x->x≠v->G.Ad x y->s1.met y≠0:=fun x y hx cO ha=>by
  rcases(B.nw x).1 hx with h|h
  .have:=R.seen x y h cO ha
   rw[B.met y this];exact this
  exact R1.N2 HD x y h ha
 have GU:∀d'∈dn++[d],s1.met (T d')≠0:=fun d' pO=>by
  rcases List.mem_append.1 pO with h|h
  .have:=R.Bb d' h
   rw[B.met _ this];exact this
  rw[List.mem_singleton.1 h];exact B.N1.2
 have hbE:∀f∈(Bs++B1).flatten,∀x,G.inc f x->gy o s1 x:=fun f hf x hi=>by
  rw[List.flatten_append,List.mem_append] at hf
  rcases hf with h|h
  .exact(B.nw x).2 (.inl (R.bE f h x hi))
  exact(B.nw x).2 (.inr (R1.bE f h x hi))
 have N5:∀f∈S,G.inc f v->∀y,G.inc f y->Y y->∃d'∈dn++[d],d'/2=f:=fun f hf hv y hy zP=>by
  obtain⟨d',pO,e⟩:=R.src f hf hv y hy zP
  exact⟨d',List.mem_append_left _ pO,e⟩
 have N6:min (s1.low v) (s1.low (T d))<=s1.met v:=by
  have:=R.RT
  rw[B.vs,B.lv];omega
 have N7:∀f∈S,∀z,gy o s1 z->∃a y,G.inc f a/\a≠z/\Y y/\G.iC (fun x=>(gy o s1 x\/Y x)/\x≠z) a y:=fun f hf z hz=>by
  rcases(B.nw z).1 hz with h|h
  .obtain⟨a,y,k1,k2,k3,k4⟩:=R.out f hf z h
   exact⟨a,y,k1,k2,k3,k4.mono fun x hx=>⟨hx.1.imp_left fun q=>(B.nw x).2 (.inl q),hx.2⟩⟩
  obtain⟨a,y,k1,k2,k3,k4⟩:=R.out f hf v F5
  have pE:∀x,gy o s x\/Y x->x≠z:=fun x hx e=>by
   have h0:s.met z=0:=h.1
   rw[<-e] at h0
   rcases hx with hx|hx
   .exact hx.2 h0
   exact C1.mP x (.inl hx) h0
  exact⟨a,y,k1,pE a k4.first.1,k3,k4.mono fun x hx=>⟨hx.1.imp_left fun q=>(B.nw x).2 (.inl q),pE x hx.1⟩⟩
 have hvw:G.Ad v (T d):=⟨_,hL,hj⟩
 have N8:∀x,gy o s1 x->G.iC (gy o s1) v x:=fun x hx=>by
  rcases(B.nw x).1 hx with h|h
  .exact(R.conn x h).mono fun y hy=>(B.nw y).2 (.inl hy)
  exact(Gr.iC.one zY hvw Bd).trans (Gr.iC.mono (P:=gy s s1) (fun y hy=>(B.nw y).2 (.inr hy)) (R1.conn x h))
 have VQ:∀q∈o.ins,q∈s1.ins:=fun q hq=>R1.yC q (R.yC q hq)
 have VR:∀f∈S,f∈G.L/\¬G.lp f/\f≠via/\∃x y,gy o s1 x/\(gy o s1 y\/Y y)/\G.iV f x y:=fun f hf=>by
  obtain⟨k1,k2,k3,x,y,hx,hy,yD⟩:=R.sE f hf
  exact⟨k1,k2,k3,x,y,(B.nw x).2 (.inl hx),hy.imp_left fun q=>(B.nw y).2 (.inl q),yD⟩
 obtain⟨f0,Dy,x0,y0,MX,hy0,rZ,aa0⟩:=R1.RU (by have:=B.lt;omega)
 have MX:gy s s1 x0:=MX
 have UA:Y y0:=by
  rcases hy0 with h|h
  .exact h
  rw[h] at aa0;omega
 have hp:∃p,Y p/\G.Ad v p:=by
  rcases C.up with⟨_,h,_⟩|⟨hvL,p,hp,hjp,_⟩
  .exact absurd UA (h _)
  exact⟨p,hp,via,hvL,hjp.symm⟩
 obtain⟨p,Zc,hvp⟩:=hp
 have XL:∀f∈S1,f∈G.L:=fun f hf=>(R1.sE f hf).1
 have RX:¬gy s s1 v:=fun h=>F5.2 h.1
 have hYn:∀y,Y y->¬gy o s1 y:=fun y hy h=>C.mP y hy h.1
 have Zd:∀y,Y y->¬gy s s1 y:=fun y hy h=>C1.mP y (.inl hy) h.1
 refine⟨⟨R1.eW.NY,R1.eW.inj,R1.eW.bv,R1.eW.nd,R1.eW.b7,R1.eW.KQ,R1.eW.KR,R1.eW.ne⟩,B.old,hold,uH,B.vs.trans R.CM,?_,?_,N4,GU,fun f hf=>?_,hbE,fun x hx cO f hf hi=>?_,fun d' pO=>?_,fun f hf hv y hy zP=>?_,?_,fun f hf y zP hi=>?_,fun h=>?_,fun f hf z hz=>?_,N8,VQ⟩
 .show s1.pJ=_
  rw[R1.pJ]
  show s.pJ++[d/2]++S1=_
  rw[R.pJ];simp
 .show s1.dM=_
  rw[R1.dM]
  show s.dM++B1=_
  rw[R.dM];simp
 .rcases List.mem_append.1 hf with hf|hf
  .exact VR f hf
  rcases List.mem_cons.1 hf with rfl|hf
  .exact⟨hL,Uy,h2,v,T d,zY,.inl Bd,hj⟩
  obtain⟨k1,k2,k3,x,y,hx,hy,yD⟩:=R1.sE f hf
  have hx:gy s s1 x:=hx
  refine⟨k1,k2,fun e=>?_,x,y,(B.nw x).2 (.inr hx),?_,yD⟩
  .rcases C.up with⟨h,_⟩|⟨_,q,hq,hjq,_⟩
   .exact h (e▸k1)
   rw[e] at yD
   rcases hjq.of yD.left with e'|e'
   .exact Zd q hq (e'▸hx)
   exact RX (e'▸hx)
  rcases hy with hy|hy|hy
  .exact .inl ((B.nw y).2 (.inr hy))
  .exact .inr hy
  exact .inl (hy▸zY)
 .rcases(B.nw x).1 hx with h|h
  .rcases R.LO x h cO f hf hi with q|q|q
   .exact .inl ⟨q.1,R1.yC _ q.2⟩
   .exact .inr (.inl (List.mem_append_left _ q))
   exact .inr (.inr (by rw[List.flatten_append];exact List.mem_append_left _ q))
  rcases R1.RW HD x h f hf hi with q|q|q|q
  .exact .inl q
  .exact .inr (.inl (by rw[q];simp))
  .exact .inr (.inl (List.mem_append_right _ (List.mem_cons_of_mem _ q)))
  exact .inr (.inr (by rw[List.flatten_append];exact List.mem_append_right _ q))
 .rcases List.mem_append.1 pO with h|h
  .rcases R.Ey d' h with q|q|q|q
   .exact .inl ⟨q.1,R1.yC _ q.2⟩
   .exact .inr (.inl q)
   .exact .inr (.inr (.inl (List.mem_append_left _ q)))
   exact .inr (.inr (.inr (by rw[List.flatten_append];exact List.mem_append_left _ q)))
  rw[List.mem_singleton.1 h];exact .inr (.inr (.inl (by simp)))
 .rcases List.mem_append.1 hf with hf|hf
  .exact N5 f hf hv y hy zP
  rcases List.mem_cons.1 hf with rfl|hf
  .exact⟨d,by simp,rfl⟩
  exfalso
  obtain⟨k1,k2,k3,x,y',hx,GL,yD⟩:=R1.sE f hf
  have hx:gy s s1 x:=hx
  have hvy:v=y':=by
   rcases yD.of hv with e|e
   .exact absurd (e▸hx) RX
   exact e
  have:y=y':=by
   rcases yD.of hy with e|e
   .exact absurd (e▸hx) (Zd y zP)
   exact e
  rw[this,<-hvy] at zP
  exact C.mP v zP C.new
 .show mV s1.low v _ v<=s1.met v
  rw[Cf];exact N6
 .show mV s1.low v _ v<=s1.met y
  rw[Cf]
  rcases List.mem_append.1 hf with hf|hf
  .have:=R.NZ f hf y zP hi
   rw[Zb y zP,B.lv];omega
  rcases List.mem_cons.1 hf with rfl|hf
  .exfalso
   rcases hj.of hi with e|e
   .exact C.mP y zP (by rw[e];exact C.new)
   exact C1.mP y (.inl zP) (by rw[e];exact h3)
  have:=R1.NZ f hf y (.inl zP) hi
  omega
 .have h:mV s1.low v (min (s1.low v) (s1.low (T d))) v<s1.met v:=h
  show ∃f∈_,∃x y,_/\_/\_/\s1.met y<=mV s1.low v _ v
  rw[Cf] at h ⊢
  by_cases hm:s1.low v<=s1.low (T d)
  .obtain⟨f,hf,x,y,k1,k2,k3,k4⟩:=R.RU (by rw[<-B.lv,<-B.vs];omega)
   exact⟨f,List.mem_append_left _ hf,x,y,(B.nw x).2 (.inl k1),k2,k3,by rw[Zb y k2];have:=B.lv;omega⟩
  exact⟨f0,List.mem_append_right _ (List.mem_cons_of_mem _ Dy),x0,y0,(B.nw x0).2 (.inr MX),UA,rZ,by omega⟩
 rcases List.mem_append.1 hf with hf|hf
 .exact N7 f hf z hz
 have hup:v≠z->G.iC (fun x=>(gy o s1 x\/Y x)/\x≠z) v p:=fun cO=>Gr.iC.one ⟨.inl zY,cO⟩ hvp ⟨.inr Zc,fun e=>hYn p Zc (e▸hz)⟩
 have eS:¬gy s s1 z->∀x,gy s s1 x->G.iC (fun x=>(gy o s1 x\/Y x)/\x≠z) (T d) x:=fun hnz x hx=>
  Gr.iC.mono (P:=gy s s1) (fun y hy=>⟨.inl ((B.nw y).2 (.inr hy)),fun e=>hnz (e▸hy)⟩) (R1.conn x hx)
 have Ze:G.Ad x0 y0:=⟨f0,XL f0 Dy,rZ⟩
 rcases List.mem_cons.1 hf with rfl|hf
 .by_cases LP:v=z
  .have hnz:¬gy s s1 z:=LP▸RX
   exact⟨T d,y0,hj.right,fun e=>hnz (e▸B.N1),UA,(eS hnz x0 MX).step Ze ⟨.inr UA,fun e=>hYn y0 UA (e▸hz)⟩⟩
  exact⟨v,p,hj.left,LP,Zc,hup LP⟩
 by_cases XM:gy s s1 z
 .obtain⟨a,y,k1,k2,k3,k4⟩:=R1.out f hf z XM
  have LP:v≠z:=fun e=>RX (e▸XM)
  have k4':G.iC (fun x=>(gy o s1 x\/Y x)/\x≠z) a y:=k4.mono fun x hx=>by
   refine⟨?_,hx.2⟩
   rcases hx.1 with h|h|h
   .exact .inl ((B.nw x).2 (.inr h))
   .exact .inr h
   exact .inl (h▸zY)
  rcases k3 with k3|k3
  .exact⟨a,y,k1,k2,k3,k4'⟩
  rw[k3] at k4'
  exact⟨a,p,k1,k2,Zc,k4'.trans (hup LP)⟩
 obtain⟨_,_,_,x,y,hx,hy,yD⟩:=R1.sE f hf
 have hx:gy s s1 x:=hx
 have hxz:x≠z:=fun e=>XM (e▸hx)
 have UB:=(eS XM x hx).symm
 by_cases LP:v=z
 .exact⟨x,y0,yD.left,hxz,UA,(UB.trans (eS XM x0 MX)).step Ze ⟨.inr UA,fun e=>hYn y0 UA (e▸hz)⟩⟩
 exact⟨x,p,yD.left,hxz,Zc,(UB.step hvw.symm ⟨.inl zY,LP⟩).trans (hup LP)⟩
theorem mQ.take (HD:pn G D T)(C:Ctx G Y o v via)(R:mQ G T Y o v via dn s S Bs){d:Int}(hd:d∈D v)(h1:T d≠v)(h2:d/2≠via)(h3:s.met (T d)=0)
  (R1:mQ G T (EA Y v) (lg s (d/2)) (T d) (d/2) (D (T d)) s1 S1 B1) (AL:¬s1.low (T d)<s1.met v):
  mQ G T Y o v via (dn++[d]) {s1 with low:=mV s1.low v (min (s1.low v) (s1.low (T d))),pJ:=s.pJ,dM:=s1.dM++[d/2::S1],ins:=s1.ins++[key (d/2::S1)]} S (Bs++B1++[d/2::S1]):=by
 obtain⟨hL,hj⟩:=HD.mem v d hd
 have C1:=R.child HD C hd h1 h2 h3
 have B:=R.behind HD C hd h1 h2 h3 R1
 have F5:=R.Ez C
 have zY:gy o s1 v:=(B.nw v).2 (.inl F5)
 have Bd:gy o s1 (T d):=(B.nw _).2 (.inr B.N1)
 have Zb:∀y,Y y->s1.met y=s.met y:=fun y hy=>B.met y (C1.mP y (.inl hy))
 have Uy:¬G.lp (d/2):=fun h=>by
  rcases hj with⟨a,b⟩|⟨a,b⟩
  .exact h1 (by rw[<-a,<-b];exact h.symm)
  exact h1 (by rw[<-a,<-b];exact h)
 have Cf:mV s1.low v (min (s1.low v) (s1.low (T d))) v=min (s1.low v) (s1.low (T d)):=yB _ _ _
 have hold:∀x,o.met x≠0->mV s1.low v (min (s1.low v) (s1.low (T d))) x=o.low x:=fun x hx=>by
  rw[GR _ _ (fun e=>hx (by rw[e];exact C.new))]
  exact(R1.KS x (by have:=R.old x hx;show s.met x≠0;omega)).trans (R.KS x hx)
 have uH:∀x,gy o s1 x->o.cnt<s1.met x:=fun x hx=>by
  rcases(B.nw x).1 hx with h|h
  .rw[B.met x h.2];exact R.new x h
  have h4:=R1.new x h
  have h5:(lg s (d/2)).cnt=s.cnt:=rfl
  have:=(R.eW.NY v).2
  have:=R.CM
  omega
 have N4:∀x y,gy o s1 x->x≠v->G.Ad x y->s1.met y≠0:=fun x y hx cO ha=>by
  rcases(B.nw x).1 hx with h|h
  .have:=R.seen x y h cO ha
   rw[B.met y this];exact this
  exact R1.N2 HD x y h ha
 have GU:∀d'∈dn++[d],s1.met (T d')≠0:=fun d' pO=>by
  rcases List.mem_append.1 pO with h|h
  .have:=R.Bb d' h
   rw[B.met _ this];exact this
  rw[List.mem_singleton.1 h];exact B.N1.2
 have hbE:∀f∈(Bs++B1).flatten,∀x,G.inc f x->gy o s1 x:=fun f hf x hi=>by
  rw[List.flatten_append,List.mem_append] at hf
  rcases hf with h|h
  .exact(B.nw x).2 (.inl (R.bE f h x hi))
  exact(B.nw x).2 (.inr (R1.bE f h x hi))
 have N5:∀f∈S,G.inc f v->∀y,G.inc f y->Y y->∃d'∈dn++[d],d'/2=f:=fun f hf hv y hy zP=>by
  obtain⟨d',pO,e⟩:=R.src f hf hv y hy zP
  exact⟨d',List.mem_append_left _ pO,e⟩
 have N6:min (s1.low v) (s1.low (T d))<=s1.met v:=by
  have:=R.RT
  rw[B.vs,B.lv];omega
 have N7:∀f∈S,∀z,gy o s1 z->∃a y,G.inc f a/\a≠z/\Y y/\G.iC (fun x=>(gy o s1 x\/Y x)/\x≠z) a y:=fun f hf z hz=>by
  rcases(B.nw z).1 hz with h|h
  .obtain⟨a,y,k1,k2,k3,k4⟩:=R.out f hf z h
   exact⟨a,y,k1,k2,k3,k4.mono fun x hx=>⟨hx.1.imp_left fun q=>(B.nw x).2 (.inl q),hx.2⟩⟩
  obtain⟨a,y,k1,k2,k3,k4⟩:=R.out f hf v F5
  have pE:∀x,gy o s x\/Y x->x≠z:=fun x hx e=>by
   have h0:s.met z=0:=h.1
   rw[<-e] at h0
   rcases hx with hx|hx
   .exact hx.2 h0
   exact C1.mP x (.inl hx) h0
  exact⟨a,y,k1,pE a k4.first.1,k3,k4.mono fun x hx=>⟨hx.1.imp_left fun q=>(B.nw x).2 (.inl q),pE x hx.1⟩⟩
 have hvw:G.Ad v (T d):=⟨_,hL,hj⟩
 have N8:∀x,gy o s1 x->G.iC (gy o s1) v x:=fun x hx=>by
  rcases(B.nw x).1 hx with h|h
  .exact(R.conn x h).mono fun y hy=>(B.nw y).2 (.inl hy)
  exact(Gr.iC.one zY hvw Bd).trans (Gr.iC.mono (P:=gy s s1) (fun y hy=>(B.nw y).2 (.inr hy)) (R1.conn x h))
 have VQ:∀q∈o.ins,q∈s1.ins:=fun q hq=>R1.yC q (R.yC q hq)
 have VR:∀f∈S,f∈G.L/\¬G.lp f/\f≠via/\∃x y,gy o s1 x/\(gy o s1 y\/Y y)/\G.iV f x y:=fun f hf=>by
  obtain⟨k1,k2,k3,x,y,hx,hy,yD⟩:=R.sE f hf
  exact⟨k1,k2,k3,x,y,(B.nw x).2 (.inl hx),hy.imp_left fun q=>(B.nw y).2 (.inl q),yD⟩
 have Ec:=R.block HD C hd h1 h2 h3 R1 AL
 have vS:∀f∈d/2::S1,∀x,G.inc f x->gy o s1 x:=fun f hf x hi=>by
  rcases List.mem_cons.1 hf with rfl|hf
  .rcases hj.of hi with e|e
   .rw[e];exact zY
   rw[e];exact Bd
  obtain⟨_,_,_,x',y',hx,hy,yD⟩:=R1.sE f hf
  rcases yD.of hi with e|e
  .rw[e];exact(B.nw x').2 (.inr hx)
  rcases hy with hy|hy
  .rw[e];exact(B.nw y').2 (.inr hy)
  rw[e,R.N3 HD C hd h1 h2 h3 R1 AL hf hy yD.right];exact zY
 have Bc:(s1.dM.flatten++(s.pJ++d/2::S1)).Nodup:=by
  have:=R1.eW.nd
  rw[R1.pJ] at this
  simpa[lg] using this
 have RJ:min (s1.low v) (s1.low (T d))=s.low v:=by
  have:=R.RT
  rw[B.vs] at AL
  rw[B.lv];omega
 refine⟨⟨R1.eW.NY,R1.eW.inj,fun f hf x hi=>?_,?_,R1.eW.b7.snoc Ec,fun q hq=>?_,fun b hb=>?_,fun b hb=>?_⟩,B.old,hold,uH,B.vs.trans R.CM,R.pJ,?_,N4,GU,VR,fun f hf x hi=>?_,fun x hx cO f hf hi=>?_,fun d' pO=>?_,N5,?_,fun f hf y zP hi=>?_,fun h=>?_,N7,N8,fun q hq=>List.mem_append_left _ (VQ q hq)⟩
 .have hf:f∈(s1.dM++[d/2::S1]).flatten:=hf
  rw[List.flatten_append,List.mem_append] at hf
  rcases hf with hf|hf
  .exact R1.eW.bv f hf x hi
  exact(vS f (by simpa using hf) x hi).2
 .show((s1.dM++[d/2::S1]).flatten++s.pJ).Nodup
  rw[List.flatten_append,List.append_assoc]
  refine(List.Perm.nodup_iff (List.Perm.append_left _ ?_)).2 Bc
  simp only[List.flatten_cons,List.flatten_nil,List.append_nil]
  exact List.perm_append_comm
 .rcases List.mem_append.1 hq with h|h
  .rcases R1.eW.KQ q h with h|⟨b,hb,e⟩
   .exact .inl h
   exact .inr ⟨b,List.mem_append_left _ hb,e⟩
  exact .inr ⟨_,List.mem_append_right _ (by simp),List.mem_singleton.1 h⟩
 .rcases List.mem_append.1 hb with h|h
  .exact List.mem_append_left _ (R1.eW.KR b h)
  rw[List.mem_singleton.1 h];exact List.mem_append_right _ (by simp)
 .rcases List.mem_append.1 hb with h|h
  .exact R1.eW.ne b h
  rw[List.mem_singleton.1 h];simp
 .show s1.dM++[d/2::S1]=_
  rw[R1.dM]
  show s.dM++B1++_=_
  rw[R.dM];simp
 .rw[List.flatten_append,List.mem_append] at hf
  rcases hf with hf|hf
  .exact hbE f hf x hi
  exact vS f (by simpa using hf) x hi
 .rcases(B.nw x).1 hx with h|h
  .rcases R.LO x h cO f hf hi with q|q|q
   .exact .inl ⟨q.1,List.mem_append_left _ (R1.yC _ q.2)⟩
   .exact .inr (.inl q)
   exact .inr (.inr (by simp only[List.flatten_append,List.mem_append];exact .inl (.inl q)))
  rcases R1.RW HD x h f hf hi with q|q|q|q
  .exact .inl ⟨q.1,List.mem_append_left _ q.2⟩
  .exact .inr (.inr (by rw[q];simp))
  .exact .inr (.inr (by simp[q]))
  exact .inr (.inr (by simp only[List.flatten_append,List.mem_append];exact .inl (.inr q)))
 .rcases List.mem_append.1 pO with h|h
  .rcases R.Ey d' h with q|q|q|q
   .exact .inl ⟨q.1,List.mem_append_left _ (R1.yC _ q.2)⟩
   .exact .inr (.inl q)
   .exact .inr (.inr (.inl q))
   exact .inr (.inr (.inr (by simp only[List.flatten_append,List.mem_append];exact .inl (.inl q))))
  rw[List.mem_singleton.1 h];exact .inr (.inr (.inr (by simp)))
 .show mV s1.low v _ v<=s1.met v
  rw[Cf];exact N6
 .show mV s1.low v _ v<=s1.met y
  rw[Cf,RJ,Zb y zP];exact R.NZ f hf y zP hi
 have h:mV s1.low v (min (s1.low v) (s1.low (T d))) v<s1.met v:=h
 show ∃f∈_,∃x y,_/\_/\_/\s1.met y<=mV s1.low v _ v
 rw[Cf,RJ] at h ⊢
 rw[B.vs] at h
 obtain⟨f,hf,x,y,k1,k2,k3,k4⟩:=R.RU h
 exact⟨f,hf,x,y,(B.nw x).2 (.inl k1),k2,k3,by rw[Zb y k2];exact k4⟩
end
end Go.Proofs.YtnfdimfepbbbpaaGreat.Deep
namespace Go.Proofs.YtnfdimfepbbbpaaGreat.Deep
section
variable {G:Gr}{D:Int->List Int}{T:Int->Int}
def left (U:List Int)(s:St):Nat:=(U.filter fun x=>decide (s.met x=0)).length
end
end Go.Proofs.YtnfdimfepbbbpaaGreat.Deep
namespace Go.Proofs.YtnfdimfepbbbpaaGreat
open Go.RowKit
abbrev EB (l:List Int):Prop:=l.Pairwise (· < ·)
theorem aA {l:List Int}{n:Int}:cH l n↔EB l/\∀x∈l,0<=x/\x<n:=by
 constructor
 .intro h
  refine⟨List.pairwise_iff_getElem.2 fun i j hi hj wD=>?_,fun x hx=>?_⟩
  .have:=tM h wD hj
   simpa[List.getD_eq_getElem?_getD,List.getElem?_eq_getElem hi,List.getElem?_eq_getElem hj] using this
  obtain⟨j,hj,rfl⟩:=gm.1 hx
  have:=h j hj;omega
 rintro⟨h1,h2⟩ j hj
 have hm:=h2 (l.getD j 0) (gm.2 ⟨j,hj,rfl⟩)
 refine⟨hm.1,hm.2,fun h0=>?_⟩
 have:=List.pairwise_iff_getElem.1 h1 (j-1) j (by omega) hj (by omega)
 simpa[List.getD_eq_getElem?_getD,List.getElem?_eq_getElem hj,List.getElem?_eq_getElem (show j-1<l.length by omega)] using this
theorem IN {l m:List Int}(hl:EB l)(hm:EB m)(h:∀x,x∈l↔x∈m):l=m:=by
 induction l generalizing m with
 |nil=>
  cases m with
  |nil=>rfl
  |cons b m=>exact absurd ((h b).2 List.mem_cons_self) (by simp)
 |cons a l ih=>
  cases m with
  |nil=>exact absurd ((h a).1 List.mem_cons_self) (by simp)
  |cons b m=>
   obtain⟨a1,a2⟩:=List.pairwise_cons.1 hl
   obtain⟨b1,b2⟩:=List.pairwise_cons.1 hm
   have e:a=b:=by
    rcases List.mem_cons.1 ((h a).1 List.mem_cons_self) with q|q
    .exact q
    rcases List.mem_cons.1 ((h b).2 List.mem_cons_self) with p|p
    .exact p.symm
    have:=b1 a q;have:=a1 b p;omega
   subst e
   congr 1
   refine ih a2 b2 fun x=>⟨fun hx=>?_,fun hx=>?_⟩
   .rcases List.mem_cons.1 ((h x).1 (List.mem_cons_of_mem _ hx)) with q|q
    .subst q;have:=a1 x hx;omega
    exact q
   rcases List.mem_cons.1 ((h x).2 (List.mem_cons_of_mem _ hx)) with q|q
   .subst q;have:=b1 x hx;omega
   exact q
theorem XN {E:List (Int×Int)}{L:List Int}{x:Int}:x∈Ux E L↔∃e∈L,CL E e x:=by
 unfold Ux CL
 simp only[List.mem_flatMap,List.mem_cons,List.not_mem_nil,or_false]
 constructor<;>rintro⟨e,he,h⟩<;>exact⟨e,he,by rcases h with h|h;exact .inl h.symm;exact .inr h.symm⟩
theorem gM {E:List (Int×Int)}{L:List Int}{v d:Int}:d∈gL E L v↔d/2∈L/\ah E d=v:=by
 unfold gL fJ
 simp only[List.mem_flatMap,List.mem_append]
 constructor
 .rintro⟨e,he,h⟩
  rcases h with h|h
  .split at h
   .rename_i q;simp at h;subst h;refine⟨by rw[show(2*e)/2=e by omega];exact he,?_⟩
    have:=q.2;rw[show 2*e+0=2*e by omega] at this;exact this
   simp at h
  split at h
  .rename_i q;simp at h;subst h;exact⟨by rw[show(2*e+1)/2=e by omega];exact he,q.2⟩
  simp at h
 rintro⟨he,h⟩
 refine⟨d/2,he,?_⟩
 by_cases c:d%2=0
 .left;rw[if_pos ⟨by omega,by rw[show 2*(d/2)+0=d by omega];exact h⟩];simp;omega
 right;rw[if_pos ⟨by omega,by rw[show 2*(d/2)+1=d by omega];exact h⟩];simp;omega
theorem r9 {E:List (Int×Int)}{e v s d:Int}(h:d∈fJ E e v s):d=2*e\/d=2*e+1:=by
 unfold fJ at h
 rcases List.mem_append.1 h with h|h<;>split at h<;>simp at h<;>omega
theorem Ae (E:List (Int×Int))(e v s:Int):EB (fJ E e v s):=by
 unfold fJ
 split<;>split<;>simp<;>omega
theorem CN {E:List (Int×Int)}{L:List Int}{v m:Int}(h:cH L m):cH (gL E L v) (2*m):=by
 obtain⟨h1,h2⟩:=aA.1 h
 refine aA.2 ⟨?_,fun x hx=>by have:=h2 _ (gM.1 hx).1;omega⟩
 unfold gL
 rw[EB,List.pairwise_flatMap]
 refine⟨fun e _=>Ae E e v 0,h1.imp fun j9 x hx y hy=>?_⟩
 have:=r9 hx;have:=r9 hy;omega
theorem tN {l m:List Int}{n:Int}(h:cH m n):ja l m↔∀x∈l,x∈m:=by
 unfold ja
 constructor
 .intro q x hx
  obtain⟨j,hj,rfl⟩:=gm.1 hx
  have:=q j hj
  rw[fk h] at this
  exact of_decide_eq_true this
 intro q j hj
 rw[fk h]
 exact decide_eq_true (q _ (gm.2 ⟨j,hj,rfl⟩))
end Go.Proofs.YtnfdimfepbbbpaaGreat
namespace Go.Proofs.YtnfdimfepbbbpaaGreat
open Go.Proofs.YtnfdimfepbbbpaaGreat.Deep
def eA (E:List (Int×Int))(f:Int):Int:=(E.getD f.toNat (0,0)).1
def eB (E:List (Int×Int))(f:Int):Int:=(E.getD f.toNat (0,0)).2
abbrev grE (E:List (Int×Int))(L:List Int):Gr:=⟨L,eA E,eB E⟩
def bM (E:List (Int×Int))(d:Int):Int:=if d%2=0 then eB E (d/2) else eA E (d/2)
theorem wR {E:List (Int×Int)}{d:Int}:ah E d=if d%2=0 then eA E (d/2) else eB E (d/2):=rfl
theorem gq {l:List Int}(h:EB l):l.Nodup:=h.imp fun h e=>by omega
theorem EC {E:List (Int×Int)}{L:List Int}{m:Int}(hL:cH L m):pn (grE E L) (gL E L) (bM E):=by
 have hj:∀v d,d∈gL E L v->(grE E L).iV (d/2) v (bM E d):=fun v d hd=>by
  obtain⟨h1,h2⟩:=gM.1 hd
  rw[wR] at h2
  unfold bM Gr.iV
  split at h2
  .rename_i h;rw[if_pos h];exact .inl ⟨h2,rfl⟩
  rename_i h;rw[if_neg h];exact .inr ⟨rfl,h2⟩
 refine⟨fun v d hd=>⟨(gM.1 hd).1,hj v d hd⟩,fun f x hf hi=>?_,fun v d d' h1 h2 he cO=>?_,fun v=>gq (aA.1 (CN hL)).1⟩
 .rcases hi with h|h
  .refine⟨2*f,gM.2 ⟨by rw[show 2*f/2=f by omega];exact hf,?_⟩,by omega⟩
   rw[wR,if_pos (by omega),show 2*f/2=f by omega];exact h
  refine⟨2*f+1,gM.2 ⟨by rw[show(2*f+1)/2=f by omega];exact hf,?_⟩,by omega⟩
  rw[wR,if_neg (by omega),show(2*f+1)/2=f by omega];exact h
 refine Classical.byContradiction fun hd=>cO ?_
 have t1:=(gM.1 h1).2
 have t2:=(gM.1 h2).2
 rw[wR] at t1 t2
 unfold bM
 by_cases c:d%2=0
 .rw[if_neg (by omega),<-he] at t2
  rw[if_pos c];exact t2
 rw[if_pos (by omega),<-he] at t2
 rw[if_neg c];exact t2
def VS (E:List (Int×Int))(but:Int)(i:Nat)(m:List Int)(e:Int):List Int:=
 let m1:=if eA E e=m.getD i 0/\eB E e≠but/\eB E e∉m then m++[eB E e] else m
 if eB E e=m1.getD i 0/\eA E e≠but/\eA E e∉m1 then m1++[eA E e] else m1
def RY (E:List (Int×Int))(but:Int)(i:Nat)(l:List Int)(m:List Int):List Int:=l.foldl (VS E but i) m
def spF (E:List (Int×Int))(L:List Int)(but:Int):Nat->Nat->List Int->List Int
 |0,_,m=>m
 |f+1,i,m=>if i<m.length then spF E L but f (i+1) (RY E but i L m) else m
def spread (E:List (Int×Int))(L:List Int)(a but:Int):List Int:=spF E L but (2*L.length+1) 0 [a]
theorem N9 {m r:List Int}{i:Nat}(h:i<m.length):(m++r).getD i 0=m.getD i 0:=by
 rw[List.getD_eq_getElem?_getD,List.getD_eq_getElem?_getD,List.getElem?_append_left h]
section
variable {n:Int}{E:List (Int×Int)}{V L:List Int}{s:St}
end
def sg (E:List (Int×Int))(m:List (Int×List Int))(e:Int):List (Int×List Int):=
 b9 (b9 m (E.getD e.toNat (0,0)).1 ((af m (E.getD e.toNat (0,0)).1).getD []++[2*e])) (E.getD e.toNat (0,0)).2
  ((af (b9 m (E.getD e.toNat (0,0)).1 ((af m (E.getD e.toNat (0,0)).1).getD []++[2*e])) (E.getD e.toNat (0,0)).2).getD []++[2*e+1])
def bW (E:List (Int×Int))(L:List Int):List (Int×List Int):=L.foldl (sg E) []
theorem KT {E:List (Int×Int)}{L M:List Int}{x:Int}:gL E (L++M) x=gL E L x++gL E M x:=by unfold gL;rw[List.flatMap_append]
theorem GV {E:List (Int×Int)}{L:List Int}{i:Int}(h0:0<=i)(h:i<(L.length:Int)):bW E (L.take (i+1).toNat)=sg E (bW E (L.take i.toNat)) (L.getD i.toNat 0):=by
 unfold bW
 rw[show(i+1).toNat=i.toNat+1 by omega,List.take_succ_eq_append_getElem (by omega),List.foldl_append,List.getD_eq_getElem?_getD,List.getElem?_eq_getElem (show i.toNat<L.length by omega)]
 rfl
theorem GX {E:List (Int×Int)}{m:List (Int×List Int)}{e v:Int}:(af (sg E m e) v).getD []=(af m v).getD []++fJ E e v 0:=by
 unfold sg fJ
 rw[bK,bK,bK,RR,RS]
 generalize (E.getD e.toNat (0,0)).1=A
 generalize (E.getD e.toNat (0,0)).2=B
 by_cases h1:A=v<;>by_cases h2:B=v
 .simp[h1,h2]
 .simp[h1,h2]
 .have:¬A=B:=fun q=>h1 (q.trans h2)
  simp[h1,h2,this]
 simp[h1,h2]
theorem yE (E:List (Int×Int))(v:Int):∀(L M:List Int),(∀x,(af (M.foldl (sg E) []) x).getD []=gL E M x)->(af ((L.foldl (sg E) (M.foldl (sg E) []))) v).getD []=gL E (M++L) v
 |[],M,h=>by rw[List.append_nil];exact h v
 |e::L,M,h=>by
  have:=yE E v L (M++[e]) fun x=>by
   rw[List.foldl_append,List.foldl_cons,List.foldl_nil,GX,h x,KT]
   simp[gL]
  rw[List.foldl_append,List.foldl_cons,List.foldl_nil] at this
  rw[List.foldl_cons,this,List.append_assoc];rfl
theorem qZ {E:List (Int×Int)}{L:List Int}{v:Int}:(af (bW E L) v).getD []=gL E L v:=by
 have:=yE E v L [] fun x=>rfl
 exact this
theorem Af (E:List (Int×Int))(e v s:Int):(fJ E e v s).length<=2:=by
 unfold fJ;split<;>split<;>simp
theorem yF (E:List (Int×Int))(v:Int):∀L:List Int,(gL E L v).length<=2*L.length
 |[]=>by simp[gL]
 |e::L=>by
  have h1:=Af E e v 0
  have h2:=yF E v L
  show(fJ E e v 0++gL E L v).length<=_
  rw[List.length_append,List.length_cons];omega
theorem Be (E:List (Int×Int)):∀(L:List Int) (m:List (Int×List Int)),(L.foldl (sg E) m).length<=m.length+2*L.length
 |[],m=>by simp
 |e::L,m=>by
  have h1:=Be E L (sg E m e)
  have h2:(sg E m e).length<=m.length+2:=Nat.le_trans (cQ _ _ _) (Nat.succ_le_succ (cQ _ _ _))
  rw[List.foldl_cons,List.length_cons];omega
theorem IP {n:Int}{E:List (Int×Int)}(hr:bS n E=0){e:Int}(h0:0<=e)(h1:e<(E.length:Int)):0<=(E.getD e.toNat (0,0)).1/\(E.getD e.toNat (0,0)).1<n/\0<=(E.getD e.toNat (0,0)).2/\(E.getD e.toNat (0,0)).2<n:=by
 obtain⟨_,_,_,h⟩:=bz hr
 obtain⟨a,b,c,d⟩:=h e.toNat (by omega)
 exact⟨a,b,c,d⟩
theorem yG {n:Int}{E:List (Int×Int)}{V L:List Int}(hp:aS n E V L=0){i:Int}{m:List (Int×List Int)}(hm:m=bW E (L.take i.toNat))(h0:0<=i)(h1:i<(L.length:Int)):
  (0<=L.getD i.toNat 0/\L.getD i.toNat 0<(E.length:Int)/\(E.length:Int)<=1024)/\
  (0<=(E.getD (L.getD i.toNat 0).toNat (0,0)).1/\(E.getD (L.getD i.toNat 0).toNat (0,0)).1<1024/\0<=(E.getD (L.getD i.toNat 0).toNat (0,0)).2/\(E.getD (L.getD i.toNat 0).toNat (0,0)).2<1024)/\
  ((af m (E.getD (L.getD i.toNat 0).toNat (0,0)).1).getD []).length<=4096/\
  m.length<=4096/\
  ((af (b9 m (E.getD (L.getD i.toNat 0).toNat (0,0)).1 ((af m (E.getD (L.getD i.toNat 0).toNat (0,0)).1).getD []++[2*L.getD i.toNat 0])) (E.getD (L.getD i.toNat 0).toNat (0,0)).2).getD []).length<=4096/\
  (b9 m (E.getD (L.getD i.toNat 0).toNat (0,0)).1 ((af m (E.getD (L.getD i.toNat 0).toNat (0,0)).1).getD []++[2*L.getD i.toNat 0])).length<=4096:=by
 subst hm
 obtain⟨hr,hV,hL,_⟩:=aJ hp
 obtain⟨r1,r2,r3,r4⟩:=bz hr
 have hlen:=aO hL (by omega)
 obtain⟨k1,k2,_⟩:=hL i.toNat (by omega)
 obtain⟨e1,e2,e3,e4⟩:=IP hr k1 k2
 have A7:(L.take i.toNat).length<=1024:=by rw[List.length_take];omega
 have hd:∀v,((af (bW E (L.take i.toNat)) v).getD []).length<=2048:=fun v=>by
  rw[qZ]
  exact Nat.le_trans (yF E v _) (by omega)
 have hl:=Be E (L.take i.toNat) []
 have hl:(bW E (L.take i.toNat)).length<=2048:=by
  unfold bW
  simp only[List.length_nil] at hl;omega
 refine⟨⟨k1,k2,by omega⟩,⟨e1,by omega,e3,by omega⟩,Nat.le_trans (hd _) (by omega),by omega,?_,Nat.le_trans (cQ _ _ _) (by omega)⟩
 rw[bK]
 split
 .have:=hd (E.getD (L.getD i.toNat 0).toNat (0,0)).1
  simp only[Option.getD_some,List.length_append,List.length_singleton];omega
 exact Nat.le_trans (hd _) (by omega)
def eC (E:List (Int×Int))(v shut:Int)(s:List (Int×Int)×List Int)(d:Int):List (Int×Int)×List Int:=
 if(af s.1 (bM E d)).isSome=true\/bM E d=shut then s else(b9 s.1 (bM E d) ((af s.1 v).getD 0+1),s.2++[bM E d])
def fA (E:List (Int×Int))(M:List (Int×List Int))(v shut:Int)(s:List (Int×Int)×List Int):List (Int×Int)×List Int:=((af M v).getD []).foldl (eC E v shut) s
def uY (E:List (Int×Int))(M:List (Int×List Int))(shut:Int):Nat->Int->List (Int×Int)×List Int->List (Int×Int)
 |0,_,s=>s.1
 |f+1,v,s=>match(fA E M v shut s).2 with
  |[]=>(fA E M v shut s).1
  |x::q=>uY E M shut f x ((fA E M v shut s).1,q)
def dI (E:List (Int×Int))(M:List (Int×List Int))(a shut:Int):List (Int×Int):=uY E M shut (2*E.length+2) a ([(a,0)],[])
theorem ED {α:Type}{l:List (Int×α)}{x:Int}{v:α}(h:af l x=none):(b9 l x v).length=l.length+1:=by
 rw[(DN h).length_eq];rfl
structure KU (U:List Int)(s:List (Int×Int)×List Int):Prop where
 nd:(s.1.map (·.1)).Nodup
 sub:∀p∈s.1,p.1∈U
theorem KU.len {U:List Int}{s:List (Int×Int)×List Int}(h:KU U s):s.1.length<=U.length:=by
 have:=List.Nodup.length_le_of_subset h.nd (l₂:=U) (fun x hx=>by obtain⟨p,hp,rfl⟩:=List.mem_map.1 hx;exact h.sub p hp)
 rwa[List.length_map] at this
theorem GY {U:List Int}{E:List (Int×Int)}{v shut d:Int}{s:List (Int×Int)×List Int}(h:KU U s)(hd:bM E d∈U):KU U (eC E v shut s d)/\(eC E v shut s d).1.length+s.2.length=s.1.length+(eC E v shut s d).2.length:=by
 unfold eC
 split
 .exact⟨h,rfl⟩
 rename_i q
 have hn:af s.1 (bM E d)=none:=by
  cases hl:af s.1 (bM E d) with
  |none=>rfl
  |some z=>exact(q (.inl (by rw[hl];rfl))).elim
 refine⟨⟨?_,fun p hp=>?_⟩,?_⟩
 .have:=(DN (v:=(af s.1 v).getD 0+1) hn).map (·.1)
  refine this.nodup_iff.2 (List.nodup_cons.2 ⟨fun hm=>?_,h.nd⟩)
  obtain⟨p,hp,e⟩:=List.mem_map.1 hm
  exact mZ.1 hn p.2 (by rw[show(bM E d,p.2)=p from Prod.ext e.symm rfl];exact hp)
 .rcases Ij.1 hp with rfl|⟨hp,_⟩
  .exact hd
  exact h.sub p hp
 show(b9 s.1 _ _).length+s.2.length=s.1.length+(s.2++[bM E d]).length
 rw[ED hn,List.length_append];simp;omega
theorem Zf {a:Bool}{p:Prop}(h:a=false/\¬p):¬(a=true\/p):=fun q=>q.elim (fun z=>by rw[h.1] at z;cases z) h.2
theorem RZ {l:List Int}(h:¬l=[]):l=l.getD 0 0::l.drop 1:=by
 cases l with
 |nil=>exact(h rfl).elim
 |cons x l=>rfl
theorem EE {n:Int}{E:List (Int×Int)}(hr:bS n E=0){d:Int}(h0:0<=d)(h1:d/2<(E.length:Int)):0<=bM E d/\bM E d<1024/\bM E d∈E.flatMap fun e=>[e.1,e.2]:=by
 have hn:=(bz hr).2.1
 obtain⟨a,b,c,e⟩:=IP hr (e:=d/2) (by omega) h1
 have hm:E.getD (d/2).toNat (0,0)∈E:=by
  rw[List.getD_eq_getElem?_getD,List.getElem?_eq_getElem (show(d/2).toNat<E.length by omega)]
  exact List.getElem_mem _
 unfold bM eA eB
 split
 .exact⟨c,by omega,List.mem_flatMap.2 ⟨_,hm,by simp⟩⟩
 exact⟨a,by omega,List.mem_flatMap.2 ⟨_,hm,by simp⟩⟩
def Zg (E:List (Int×Int))(M:List (Int×List Int)):Prop:=∀v,∀d∈(af M v).getD [],0<=d/\d/2<(E.length:Int)
def univ (E:List (Int×Int))(a:Int):List Int:=a::E.flatMap fun e=>[e.1,e.2]
theorem EF (E:List (Int×Int))(a:Int):(univ E a).length=2*E.length+1:=by
 have:∀E:List (Int×Int),(E.flatMap fun e=>[e.1,e.2]).length=2*E.length:=fun E=>by
  induction E with
  |nil=>rfl
  |cons e E ih=>rw[List.flatMap_cons,List.length_append,ih];simp;omega
 show(E.flatMap fun e=>[e.1,e.2]).length+1=_
 rw[this]
theorem R4 {n:Int}{E:List (Int×Int)}(hr:bS n E=0){a:Int}(h0:0<=a)(h1:a<1024):∀x∈univ E a,0<=x/\x<1024:=fun x hx=>by
 have hn:=(bz hr).2.1
 rcases List.mem_cons.1 hx with rfl|hx
 .exact⟨h0,h1⟩
 obtain⟨e,he,hx⟩:=List.mem_flatMap.1 hx
 obtain⟨j,hj,rfl⟩:=List.getElem_of_mem he
 have:=(bz hr).2.2.2 j hj
 rw[List.getD_eq_getElem?_getD,List.getElem?_eq_getElem hj] at this
 obtain⟨p,q,r,t⟩:=this
 simp only[Option.getD_some] at p q r t
 rcases List.mem_cons.1 hx with rfl|hx
 .exact⟨p,by omega⟩
 rw[List.mem_singleton.1 hx];exact⟨r,by omega⟩
structure GZ (E:List (Int×Int))(a:Int)(v:Int)(k:Nat)(m:List (Int×Int))(q:List Int):Prop where
 s:KU (univ E a) (m,q)
 vU:v∈univ E a
 qU:∀x∈q,x∈univ E a
 n:m.length=k+1+q.length
 b:∀p∈m,0<=p.2/\p.2<=(k:Int)+1
 vM:(af m v).isSome=true
 qM:∀x∈q,(af m x).isSome=true
 c:0<=(af m v).getD 0/\(af m v).getD 0<=(k:Int)
structure CO (E:List (Int×Int))(M:List (Int×List Int))(a shut v:Int)(ok:Bool)(q:List Int)(m:List (Int×Int))(k:Nat):Prop where
 go:ok=true->GZ E a v k m q/\(∀p∈m,p.2<=(k:Int))/\dI E M a shut=uY E M shut (2*E.length+2-k) v (m,q)
 done:ok=false->m=dI E M a shut
 kB:k<=2*E.length+1
theorem oD {m:List (Int×Int)}{P:Int->Prop}(h0:P 0)(h:∀p∈m,P p.2)(v:Int):P ((af m v).getD 0):=by
 cases hl:af m v with
 |none=>exact h0
 |some z=>exact h _ (mw hl)
theorem IQ {α:Type}(a:Int)(y:α):af [(a,y)] a=some y:=by
 cases h:af [(a,y)] a with
 |none=>exact(mZ.1 h y List.mem_cons_self).elim
 |some z=>have:=List.mem_singleton.1 (mw h);cases this;rfl
theorem CO.init (E:List (Int×Int))(M:List (Int×List Int))(a shut:Int):CO E M a shut a true [] [(a,0)] 0:=by
 refine⟨fun _=>⟨⟨⟨by simp,fun p hp=>?_⟩,List.mem_cons_self,fun x hx=>(by cases hx),rfl,fun p hp=>?_,by rw[IQ];rfl,fun x hx=>(by cases hx),oD (P:=fun y=>0<=y/\y<=((0:Nat):Int)) ⟨by omega,by omega⟩ (fun p hp=>by rw[List.mem_singleton.1 hp];exact⟨by simp,by simp⟩) a⟩,fun p hp=>?_,rfl⟩,(fun q=>by cases q),by omega⟩
 .rw[List.mem_singleton.1 hp];exact List.mem_cons_self
 .rw[List.mem_singleton.1 hp];exact⟨by simp,by simp⟩
 rw[List.mem_singleton.1 hp];simp
theorem GZ.bd {E:List (Int×Int)}{a v:Int}{k:Nat}{m:List (Int×Int)}{q:List Int}(h:GZ E a v k m q):m.length<=2*E.length+1/\k<=2*E.length:=by
 have h1:=h.s.len
 rw[EF] at h1
 have h2:=h.n
 simp only at h1
 exact⟨h1,by omega⟩
theorem GZ.jb {E:List (Int×Int)}{a v shut d:Int}{k:Nat}{m:List (Int×Int)}{q:List Int}(h:GZ E a v k m q)(hd:bM E d∈univ E a)(hn:¬((af m (bM E d)).isSome=true\/bM E d=shut)):
  GZ E a v k (b9 m (bM E d) ((af m v).getD 0+1)) (q++[bM E d]):=by
 have hv:=h.vM
 have e:eC E v shut (m,q) d=(b9 m (bM E d) ((af m v).getD 0+1),q++[bM E d]):=by unfold eC;rw[if_neg hn]
 obtain⟨k1,k2⟩:=GY (v:=v) (shut:=shut) h.s hd
 rw[e] at k1 k2
 have cO:¬bM E d=v:=fun z=>hn (.inl (by rw[z];exact hv))
 refine⟨k1,h.vU,fun x hx=>?_,?_,fun p hp=>?_,?_,fun x hx=>?_,?_⟩
 .rcases List.mem_append.1 hx with hx|hx
  .exact h.qU x hx
  rw[List.mem_singleton.1 hx];exact hd
 .have:=h.n
  simp only at k2
  omega
 .have hc:=h.c
  rcases Ij.1 hp with rfl|⟨hp,_⟩
  .exact⟨by show 0<=(af m v).getD 0+1;omega,by show(af m v).getD 0+1<=(k:Int)+1;omega⟩
  exact h.b p hp
 .rw[bK,if_neg cO];exact hv
 .rw[bK]
  split
  .rfl
  rename_i z
  rcases List.mem_append.1 hx with hx|hx
  .exact h.qM x hx
  rw[List.mem_singleton.1 hx] at z;exact(z rfl).elim
 rw[bK,if_neg cO];exact h.c
theorem lq {α:Type}(f:α->Int->α){l:List Int}{i:Int}(s:α)(h0:0<=i)(h:i<(l.length:Int)):(l.take (i+1).toNat).foldl f s=f ((l.take i.toNat).foldl f s) (l.getD i.toNat 0):=by
 rw[show(i+1).toNat=i.toNat+1 by omega,List.take_succ_eq_append_getElem (by omega),List.foldl_append,List.getD_eq_getElem?_getD,List.getElem?_eq_getElem (show i.toNat<l.length by omega)]
 rfl
theorem CO.step {E:List (Int×Int)}{M:List (Int×List Int)}{a shut v:Int}{ok:Bool}{q q' q2:List Int}{m m':List (Int×Int)}{k:Nat}(h:CO E M a shut v ok q m k)(fq:ok=true)(he:fA E M v shut (m,q)=(m',q'))(hm:GZ E a v k m' q'):
  (q'=[]->CO E M a shut 0 false q2 m' (k+1))/\(∀x t,q'=x::t->CO E M a shut x true t m' (k+1)):=by
 obtain⟨h1,h2,h3⟩:=h.go fq
 obtain⟨b1,b2⟩:=hm.bd
 have hf:2*E.length+2-k=(2*E.length+2-(k+1))+1:=by omega
 have bY:dI E M a shut=(match(m',q').2 with
  |[]=>(m',q').1
  |x::t=>uY E M shut (2*E.length+2-(k+1)) x ((m',q').1,t)):=by
  rw[h3,hf,<-he];rfl
 refine⟨fun z=>?_,fun x t z=>?_⟩
 .subst z
  exact⟨fun w=>(by cases w),fun _=>bY.symm,by omega⟩
 subst z
 refine⟨fun _=>⟨⟨⟨hm.s.nd,hm.s.sub⟩,hm.qU x List.mem_cons_self,fun y hy=>hm.qU y (List.mem_cons_of_mem _ hy),?_,fun p hp=>?_,?_,?_,?_⟩,fun p hp=>?_,bY⟩,fun w=>(by cases w),by omega⟩
 .have:=hm.n;rw[List.length_cons] at this;omega
 .have:=hm.b p hp;exact⟨this.1,by omega⟩
 .exact hm.qM x List.mem_cons_self
 .exact fun y hy=>hm.qM y (List.mem_cons_of_mem _ hy)
 .exact oD (P:=fun y=>0<=y/\y<=((k+1:Nat):Int)) ⟨by omega,by omega⟩ (fun p hp=>by have:=hm.b p hp;exact⟨this.1,by omega⟩) x
 have:=hm.b p hp;omega
end Go.Proofs.YtnfdimfepbbbpaaGreat
namespace Go.Proofs.YtnfdimfepbbbpaaGreat
open Go.RowKit
open Go.Proofs.YtnfdimfepbbbpaaGreat.Deep
section
variable {E:List (Int×Int)}{M:List (Int×List Int)}{a shut v d:Int}{k f:Nat}{m:List (Int×Int)}{q:List Int}{n:Int}
theorem KV (h:GZ E a v k m q)(hd:bM E d∈univ E a):GZ E a v k (eC E v shut (m,q) d).1 (eC E v shut (m,q) d).2:=by
 by_cases hn:(af m (bM E d)).isSome=true\/bM E d=shut
 .have e:eC E v shut (m,q) d=(m,q):=by unfold eC;rw[if_pos hn]
  rw[e];exact h
 have e:eC E v shut (m,q) d=(b9 m (bM E d) ((af m v).getD 0+1),q++[bM E d]):=by unfold eC;rw[if_neg hn]
 rw[e];exact h.jb hd hn
theorem Bf:∀ {l:List Int} {m:List (Int×Int)} {q:List Int},GZ E a v k m q->(∀d∈l,bM E d∈univ E a)->GZ E a v k (l.foldl (eC E v shut) (m,q)).1 (l.foldl (eC E v shut) (m,q)).2
 |[],m,q,h,_=>h
 |d::l,m,q,h,hd=>by
  rw[List.foldl_cons]
  exact Bf (KV h (hd d List.mem_cons_self)) fun x hx=>hd x (List.mem_cons_of_mem _ hx)
theorem G0 {s:List (Int×Int)×List Int}{x:Int}(h:(af s.1 x).isSome=true):(af (eC E v shut s d).1 x).isSome=true:=by
 unfold eC
 split
 .exact h
 show(af (b9 s.1 _ _) x).isSome=true
 rw[bK];split
 .rfl
 exact h
theorem qh:∀ {l:List Int} {s:List (Int×Int)×List Int} {x:Int},(af s.1 x).isSome=true->(af (l.foldl (eC E v shut) s).1 x).isSome=true
 |[],_,_,h=>h
 |d::l,s,x,h=>by rw[List.foldl_cons];exact qh (G0 h)
theorem vT:∀ {l:List Int} {s:List (Int×Int)×List Int},∀d∈l,bM E d≠shut->(af (l.foldl (eC E v shut) s).1 (bM E d)).isSome=true
 |e::l,s,d,hd,hs=>by
  rw[List.foldl_cons]
  rcases List.mem_cons.1 hd with rfl|hd
  .refine qh ?_
   unfold eC
   split
   .rename_i h;exact h.resolve_right hs
   show(af (b9 s.1 _ _) _).isSome=true
   rw[bK,if_pos rfl];rfl
  exact vT d hd hs
theorem tO:∀ {l:List Int} {s:List (Int×Int)×List Int} {x:Int},(af (l.foldl (eC E v shut) s).1 x).isSome=true->(af s.1 x).isSome=true\/x∈(l.foldl (eC E v shut) s).2
 |[],_,_,h=>.inl h
 |d::l,s,x,h=>by
  rw[List.foldl_cons] at h ⊢
  rcases tO h with h1|h1
  .unfold eC at h1
   split at h1
   .exact .inl h1
   rename_i hn
   have h1:(af (b9 s.1 (bM E d) _) x).isSome=true:=h1
   rw[bK] at h1
   split at h1
   .rename_i e
    refine .inr ?_
    have mono:∀ {l:List Int} {s:List (Int×Int)×List Int} {y:Int},y∈s.2->y∈(l.foldl (eC E v shut) s).2:=by
     intro l
     induction l with
     |nil=>intro s y h;exact h
     |cons e l ih=>
      intro s y h
      rw[List.foldl_cons]
      refine ih ?_
      unfold eC
      split
      .exact h
      exact List.mem_append_left _ h
    refine mono ?_
    unfold eC
    rw[if_neg hn]
    exact List.mem_append_right _ (by rw[e];exact List.mem_singleton.2 rfl)
   exact .inl h1
  exact .inr h1
theorem vV:∀ {l:List Int} {s:List (Int×Int)×List Int} {y:Int},y∈s.2->y∈(l.foldl (eC E v shut) s).2
 |[],_,_,h=>h
 |d::l,s,y,h=>by
  rw[List.foldl_cons]
  refine vV ?_
  unfold eC
  split
  .exact h
  exact List.mem_append_left _ h
theorem Oa (hD:∀v,∀d∈(af M v).getD [],bM E d∈univ E a):∀(f:Nat) (k:Nat) (v:Int) (m:List (Int×Int)) (q:List Int),GZ E a v k m q->(∀p∈m,p.2<=(k:Int))->f+k=2*E.length+2->
  (∀x,(af m x).isSome=true->x=v\/x∈q\/∀d∈(af M x).getD [],bM E d≠shut->(af m (bM E d)).isSome=true)->
  KU (univ E a) (uY E M shut f v (m,q),[])/\(∀x,(af m x).isSome=true->(af (uY E M shut f v (m,q)) x).isSome=true)/\
   ∀x,(af (uY E M shut f v (m,q)) x).isSome=true->∀d∈(af M x).getD [],bM E d≠shut->(af (uY E M shut f v (m,q)) (bM E d)).isSome=true
 |0,k,v,m,q,h,_,hf,_=>by have:=h.bd;omega
 |f+1,k,v,m,q,h,uE,hf,hc=>by
  have h1:GZ E a v k (fA E M v shut (m,q)).1 (fA E M v shut (m,q)).2:=Bf h (hD v)
  have Ob:∀x,(af m x).isSome=true->(af (fA E M v shut (m,q)).1 x).isSome=true:=fun x hx=>qh (s:=(m,q)) hx
  have Zh:∀x,(af (fA E M v shut (m,q)).1 x).isSome=true->x∈(fA E M v shut (m,q)).2\/∀d∈(af M x).getD [],bM E d≠shut->(af (fA E M v shut (m,q)).1 (bM E d)).isSome=true:=fun x hx=>by
   rcases tO (s:=(m,q)) hx with h2|h2
   .rcases hc x h2 with rfl|h3|h3
    .exact .inr fun d hd hs=>vT d hd hs
    .exact .inl (vV (s:=(m,q)) h3)
    exact .inr fun d hd hs=>Ob _ (h3 d hd hs)
   exact .inl h2
  have bY:uY E M shut (f+1) v (m,q)=(match(fA E M v shut (m,q)).2 with
   |[]=>(fA E M v shut (m,q)).1
   |x::t=>uY E M shut f x ((fA E M v shut (m,q)).1,t)):=rfl
  rw[bY]
  generalize hs:fA E M v shut (m,q)=s at*
  obtain⟨m',q'⟩:=s
  cases q' with
  |nil=>
   refine⟨⟨h1.s.nd,h1.s.sub⟩,Ob,fun x hx d hd hs=>?_⟩
   rcases Zh x hx with h2|h2
   .cases h2
   exact h2 d hd hs
  |cons x t=>
   have hM:GZ E a x (k+1) m' t:=by
    refine⟨⟨h1.s.nd,h1.s.sub⟩,h1.qU x List.mem_cons_self,fun y hy=>h1.qU y (List.mem_cons_of_mem _ hy),?_,fun p hp=>?_,h1.qM x List.mem_cons_self,fun y hy=>h1.qM y (List.mem_cons_of_mem _ hy),?_⟩
    .have:=h1.n;simp only[List.length_cons] at this;omega
    .have:=h1.b p hp;exact⟨this.1,by omega⟩
    exact oD (P:=fun y=>0<=y/\y<=((k+1:Nat):Int)) ⟨by omega,by omega⟩ (fun p hp=>by have:=h1.b p hp;exact⟨this.1,by omega⟩) x
   obtain⟨r1,r2,r3⟩:=Oa hD f (k+1) x m' t hM (fun p hp=>by have:=h1.b p hp;omega) (by omega) (fun y hy=>by
    rcases Zh y hy with h2|h2
    .rcases List.mem_cons.1 h2 with rfl|h2
     .exact .inl rfl
     exact .inr (.inl h2)
    exact .inr (.inr h2))
   exact⟨r1,fun y hy=>r2 y (Ob y hy),r3⟩
theorem EG (hD:∀v,∀d∈(af M v).getD [],bM E d∈univ E a):(dI E M a shut).length<=2*E.length+1/\(∀p∈dI E M a shut,p.1∈univ E a)/\(af (dI E M a shut) a).isSome=true/\
  ∀x,(af (dI E M a shut) x).isSome=true->∀d∈(af M x).getD [],bM E d≠shut->(af (dI E M a shut) (bM E d)).isSome=true:=by
 obtain⟨h1,h2,_⟩:=(CO.init E M a shut).go rfl
 obtain⟨r1,r2,r3⟩:=Oa (shut:=shut) hD (2*E.length+2) 0 a [(a,0)] [] h1 (fun p hp=>by have:=h2 p hp;simpa using this) (by omega) (fun x hx=>by
  left
  cases hl:af [(a,(0:Int))] x with
  |none=>rw[hl] at hx;cases hx
  |some z=>have:=List.mem_singleton.1 (mw hl);cases this;rfl)
 have hlen:=r1.len
 rw[EF] at hlen
 exact⟨hlen,r1.sub,r2 a (by rw[IQ];rfl),r3⟩
theorem yH {V L:List Int}(hp:aS n E V L=0):Zg E (bW E L):=fun v d hd=>by
 rw[qZ] at hd
 obtain⟨h1,h2⟩:=gM.1 hd
 have:=(aA.1 (aJ hp).2.2.1).2 _ h1
 constructor
 .omega
 exact this.2
theorem EH (hr:bS n E=0)(hD:Zg E M)(a:Int):∀v,∀d∈(af M v).getD [],bM E d∈univ E a:=fun v d hd=>by
 obtain⟨h1,h2⟩:=hD v d hd
 exact List.mem_cons_of_mem _ (EE hr h1 h2).2.2
theorem KW {V L:List Int}(hp:aS n E V L=0){x:Int}(h:(grE E L).iC (· ≠-1) a x):(af (dI E (bW E L) a (-1)) x).isSome=true:=by
 have hr:=(aJ hp).1
 obtain⟨_,_,h1,h2⟩:=EG (shut:= -1) (EH hr (yH hp) a)
 have hdk:=EC (E:=E) (aJ hp).2.2.1
 refine h.closed (Q:=fun x=>(af (dI E (bW E L) a (-1)) x).isSome=true) (fun x y hx ha hy=>?_) h1
 obtain⟨f,hf,hj⟩:=ha
 obtain⟨d,hd,hdf⟩:=hdk.all f x hf hj.left
 obtain⟨_,o8⟩:=hdk.mem x d hd
 rw[hdf] at o8
 have LG:d∈(af (bW E L) x).getD []:=by rw[qZ];exact hd
 by_cases e:bM E d=y
 .subst e;exact h2 x hx d LG hy
 have h3:=o8.of (z:=y) hj.right
 rcases h3 with rfl|h3
 .exact hx
 exact(e h3.symm).elim
end
def oE (pm m:List (Int×Int))(c:Int):List (Int×Int):=m.foldl (fun p q=>b9 p q.1 c) pm
open Classical in
theorem tP {c:Int}:∀ {m pm:List (Int×Int)} {x:Int},af (oE pm m c) x=if(af m x).isSome=true then some c else af pm x:=by
 have key:∀(m pm:List (Int×Int)) (x:Int),af (oE pm m c) x=if ∃v,(x,v)∈m then some c else af pm x:=by
  intro m
  induction m with
  |nil=>intro pm x;show af pm x=_;rw[if_neg (by rintro⟨v,h⟩;cases h)]
  |cons p m ih=>
   intro pm x
   show af (oE (b9 pm p.1 c) m c) x=_
   rw[ih,bK]
   by_cases h1:∃v,(x,v)∈m
   .obtain⟨v,hv⟩:=h1
    rw[if_pos ⟨v,hv⟩,if_pos ⟨v,List.mem_cons_of_mem _ hv⟩]
   rw[if_neg h1]
   by_cases h2:p.1=x
   .rw[if_pos h2,if_pos ⟨p.2,by rw[<-h2];exact List.mem_cons_self⟩]
   rw[if_neg h2,if_neg]
   rintro⟨v,hv⟩
   rcases List.mem_cons.1 hv with e|hv
   .rw[<-e] at h2;exact h2 rfl
   exact h1 ⟨v,hv⟩
 intro m pm x
 rw[key]
 by_cases h:∃v,(x,v)∈m
 .rw[if_pos h,if_pos]
  cases hl:af m x with
  |none=>obtain⟨v,hv⟩:=h;exact(mZ.1 hl v hv).elim
  |some z=>rfl
 rw[if_neg h,if_neg]
 intro q
 obtain⟨z,hz⟩:=Option.isSome_iff_exists.1 q
 exact h ⟨z,mw hz⟩
abbrev mW:=List (List Int×List Int)
def EI (out:mW)(i v:Int):mW:=out.set i.toNat ((out.getD i.toNat ([],[])).1++[v],(out.getD i.toNat ([],[])).2)
def Oc (out:mW)(i e:Int):mW:=out.set i.toNat ((out.getD i.toNat ([],[])).1,(out.getD i.toNat ([],[])).2++[e])
def fK (E:List (Int×Int))(M:List (Int×List Int))(s:List (Int×Int)×mW)(v:Int):List (Int×Int)×mW:=
 if(af s.1 v).isSome=true then(s.1,EI s.2 ((af s.1 v).getD 0) v)
 else(oE s.1 (dI E M v (-1)) (s.2.length:Int),EI (s.2++[([],[])]) (s.2.length:Int) v)
def yI (E:List (Int×Int))(pm:List (Int×Int))(out:mW)(e:Int):mW:=Oc out ((af pm (E.getD e.toNat (0,0)).1).getD 0) e
def oF (E:List (Int×Int))(V L:List Int):mW:=L.foldl (yI E (V.foldl (fK E (bW E L)) ([],[])).1) (V.foldl (fK E (bW E L)) ([],[])).2
structure R5 (R pm:List (Int×Int))(c:Int)(lf:Int->Bool)(cnt:Nat)(nY:List (Int×Int)):Prop where
 a:∀z,lf z=true->(af R z).isSome=true
 b:∀z,af nY z=if(af R z).isSome=true/\lf z=false then some c else af pm z
 n:nY.length+cnt<=pm.length+R.length
theorem R5.start (R pm:List (Int×Int))(c:Int):R5 R pm c (fun z=>(af R z).isSome) R.length pm:=
 ⟨fun z h=>h,fun z=>by rw[if_neg (by rintro⟨h1,h2⟩;rw[h1] at h2;cases h2)],Nat.le_refl _⟩
theorem R5.step {R pm nY:List (Int×Int)}{c:Int}{lf:Int->Bool}{cnt jR:Nat}(h:R5 R pm c lf cnt nY){k v:Int}(hl:lf k=true)(hk:af R k=some v)(hc:jR<cnt):
  R5 R pm c (fun z=>lf z && !decide (z=k)) jR (b9 nY k c):=by
 refine⟨fun z hz=>?_,fun z=>?_,?_⟩
 .rw[Bool.and_eq_true] at hz;exact h.a z hz.1
 .rw[bK,h.b]
  by_cases e:k=z
  .subst e
   rw[if_pos rfl,if_pos ⟨by rw[hk];rfl,by simp⟩]
  rw[if_neg e]
  have cO:¬z=k:=fun q=>e q.symm
  have:(lf z && !decide (z=k))=lf z:=by simp[cO]
  rw[this]
 have:=h.n
 have:=cQ nY k c
 omega
theorem R5.fin {R pm nY:List (Int×Int)}{c:Int}{lf:Int->Bool}{cnt:Nat}(h:R5 R pm c lf cnt nY)(hl:∀z,lf z=false):(∀z,af nY z=if(af R z).isSome=true then some c else af pm z)/\nY.length<=pm.length+R.length:=by
 refine⟨fun z=>?_,by have:=h.n;omega⟩
 rw[h.b]
 by_cases e:(af R z).isSome=true
 .rw[if_pos ⟨e,hl z⟩,if_pos e]
 rw[if_neg (fun q=>e q.1),if_neg e]
structure pK (E:List (Int×Int))(V L:List Int)(i:Int)(pm:List (Int×Int))(out:mW):Prop where
 f:∃p',(V.take i.toNat).foldl (fK E (bW E L)) ([],[])=(p',out)/\∀x,af pm x=af p' x
 b:∀x c,af pm x=some c->0<=c/\c<(out.length:Int)
 n:pm.length<=i.toNat*3000
 o:out.length<=i.toNat
 r:∀x∈out,x.1.length<=i.toNat/\x.2=[]
 d:∀j:Nat,(j:Int)<i->(af pm (V.getD j 0)).isSome=true
theorem pK.zero (E:List (Int×Int))(V L:List Int):pK E V L 0 [] []:=⟨⟨[],rfl,fun _=>rfl⟩,(fun x c h=>by cases h),Nat.zero_le _,Nat.zero_le _,(fun x h=>by cases h),fun j h=>by omega⟩
theorem tQ (out:mW)(i v:Int):(EI out i v).length=out.length:=List.length_set
theorem Od (out:mW)(i v:Int):(Oc out i v).length=out.length:=List.length_set
theorem EJ {out:mW}{i v:Int}{k:Nat}(h:∀x∈out,x.1.length<=k/\x.2=[]):∀x∈EI out i v,x.1.length<=k+1/\x.2=[]:=fun x hx=>by
 rcases List.mem_or_eq_of_mem_set hx with q|rfl
 .exact⟨Nat.le_succ_of_le (h x q).1,(h x q).2⟩
 have:∀j,(out.getD j ([],[])).1.length<=k/\(out.getD j ([],[])).2=[]:=fun j=>by
  rw[List.getD_eq_getElem?_getD]
  cases hj:out[j]? with
  |none=>exact⟨by simp,rfl⟩
  |some y=>exact h y (List.mem_of_getElem? hj)
 obtain⟨q1,q2⟩:=this i.toNat
 exact⟨by show(_++[v]).length<=_;rw[List.length_append];simp;exact q1,q2⟩
section
variable {E:List (Int×Int)}{V L:List Int}{i:Int}{pm nY:List (Int×Int)}{out:mW}
theorem pK.met (h:pK E V L i pm out)(h0:0<=i)(h1:i<(V.length:Int))(hm:(af pm (V.getD i.toNat 0)).isSome=true):pK E V L (i+1) pm (EI out ((af pm (V.getD i.toNat 0)).getD 0) (V.getD i.toNat 0)):=by
 obtain⟨p',f1,f2⟩:=h.f
 have hi:(i+1).toNat=i.toNat+1:=by omega
 refine⟨⟨p',?_,f2⟩,fun x c hx=>by rw[tQ];exact h.b x c hx,Nat.le_trans h.n (Nat.mul_le_mul_right _ (by omega)),by rw[tQ];have:=h.o;omega,by rw[hi];exact EJ h.r,fun j hj=>?_⟩
 .rw[lq _ _ h0 h1,f1]
  unfold fK
  simp only
  rw[<-f2,if_pos hm]
 by_cases e:(j:Int)<i
 .exact h.d j e
 rw[show j=i.toNat by omega];exact hm
theorem pK.new (h:pK E V L i pm out)(h0:0<=i)(h1:i<(V.length:Int))(hm:(af pm (V.getD i.toNat 0)).isSome=false)(hR:(af (dI E (bW E L) (V.getD i.toNat 0) (-1)) (V.getD i.toNat 0)).isSome=true)(hlen:(dI E (bW E L) (V.getD i.toNat 0) (-1)).length<=3000)
  (hp:(∀z,af nY z=if(af (dI E (bW E L) (V.getD i.toNat 0) (-1)) z).isSome=true then some (out.length:Int) else af pm z)/\nY.length<=pm.length+(dI E (bW E L) (V.getD i.toNat 0) (-1)).length):
  pK E V L (i+1) nY (EI (out++[([],[])]) ((af nY (V.getD i.toNat 0)).getD 0) (V.getD i.toNat 0))/\af nY (V.getD i.toNat 0)=some (out.length:Int):=by
 obtain⟨p',f1,f2⟩:=h.f
 obtain⟨p1,p2⟩:=hp
 have hi:(i+1).toNat=i.toNat+1:=by omega
 have hv:af nY (V.getD i.toNat 0)=some (out.length:Int):=by rw[p1,if_pos hR]
 refine⟨⟨⟨oE p' (dI E (bW E L) (V.getD i.toNat 0) (-1)) (out.length:Int),?_,fun x=>?_⟩,fun x c hx=>?_,?_,?_,?_,fun j hj=>?_⟩,hv⟩
 .rw[lq _ _ h0 h1,f1,hv]
  unfold fK
  simp only
  rw[<-f2,if_neg (by rw[hm];decide)];rfl
 .rw[p1,tP,f2]
 .rw[tQ,List.length_append]
  rw[p1] at hx
  split at hx
  .cases hx
   simp only[List.length_singleton];omega
  have:=h.b x c hx
  simp only[List.length_singleton];omega
 .have:=h.n;rw[hi,Nat.succ_mul];omega
 .rw[tQ,List.length_append];have:=h.o;simp only[List.length_singleton];omega
 .rw[hi]
  refine EJ fun x hx=>?_
  rcases List.mem_append.1 hx with hx|hx
  .exact h.r x hx
  rw[List.mem_singleton.1 hx];exact⟨by simp,rfl⟩
 rw[p1]
 split
 .rfl
 by_cases e:(j:Int)<i
 .exact h.d j e
 rename_i q
 rw[show j=i.toNat by omega] at q;exact(q hR).elim
theorem pK.at_ (h:pK E V L i pm out)(h0:0<=i)(h1:i<=(V.length:Int)){x:Int}(hm:(af pm x).isSome=true):(0<=(af pm x).getD 0/\(af pm x).getD 0<(out.length:Int))/\(out.getD ((af pm x).getD 0).toNat ([],[])).1.length<=V.length:=by
 obtain⟨c,hc⟩:=Option.isSome_iff_exists.1 hm
 rw[hc]
 refine⟨h.b x c hc,?_⟩
 rw[List.getD_eq_getElem?_getD]
 cases hj:out[c.toNat]? with
 |none=>simp[hj]
 |some y=>
  have:=(h.r y (List.mem_of_getElem? hj)).1
  simp[hj];omega
structure G2 (E:List (Int×Int))(V L:List Int)(j:Int)(m:Nat)(o2:mW):Prop where
 f:(L.take j.toNat).foldl (yI E (V.foldl (fK E (bW E L)) ([],[])).1) (V.foldl (fK E (bW E L)) ([],[])).2=o2
 n:o2.length=m
 r:∀x∈o2,x.2.length<=j.toNat
theorem pK.fin (h:pK E V L i pm out)(h1:¬i<(V.length:Int)):(∀x,af pm x=af (V.foldl (fK E (bW E L)) ([],[])).1 x)/\(V.foldl (fK E (bW E L)) ([],[])).2=out/\G2 E V L 0 out.length out:=by
 obtain⟨p',f1,f2⟩:=h.f
 rw[List.take_of_length_le (by omega)] at f1
 refine⟨fun x=>by rw[f1];exact f2 x,by rw[f1],by rw[f1];rfl,rfl,fun x hx=>by rw[(h.r x hx).2];simp⟩
theorem G2.step {j:Int}{m:Nat}{o2:mW}(h:G2 E V L j m o2)(hp:∀x,af pm x=af (V.foldl (fK E (bW E L)) ([],[])).1 x)(h0:0<=j)(h1:j<(L.length:Int)):
  G2 E V L (j+1) m (Oc o2 ((af pm (E.getD (L.getD j.toNat 0).toNat (0,0)).1).getD 0) (L.getD j.toNat 0)):=by
 have hi:(j+1).toNat=j.toNat+1:=by omega
 refine⟨?_,by rw[Od];exact h.n,fun x hx=>?_⟩
 .rw[lq _ _ h0 h1,h.f,hp];rfl
 rw[hi]
 rcases List.mem_or_eq_of_mem_set hx with q|rfl
 .exact Nat.le_succ_of_le (h.r x q)
 show(_++[_]).length<=_
 rw[List.length_append]
 have:∀k,(o2.getD k ([],[])).2.length<=j.toNat:=fun k=>by
  rw[List.getD_eq_getElem?_getD]
  cases hk:o2[k]? with
  |none=>simp
  |some y=>exact h.r y (List.mem_of_getElem? hk)
 simp only[List.length_singleton]
 exact Nat.succ_le_succ (this _)
theorem G2.at_ {j:Int}{m:Nat}{o2:mW}(h:G2 E V L j m o2)(k:Nat):(o2.getD k ([],[])).2.length<=j.toNat:=by
 rw[List.getD_eq_getElem?_getD]
 cases hk:o2[k]? with
 |none=>simp
 |some y=>exact h.r y (List.mem_of_getElem? hk)
theorem pK.at2 {x:Int}(h:af nY x=some (out.length:Int)):(0<=(af nY x).getD 0/\(af nY x).getD 0<((out++[([],[])]).length:Int))/\((out++[([],[])]).getD ((af nY x).getD 0).toNat ([],[])).1.length<=0:=by
 rw[h]
 refine⟨by simp only[Option.getD_some,List.length_append,List.length_singleton];omega,?_⟩
 simp
theorem pK.all (h:pK E V L i pm out)(h1:¬i<(V.length:Int)){x:Int}(hx:x∈V):(af pm x).isSome=true:=by
 obtain⟨j,hj,rfl⟩:=gm.1 hx
 exact h.d j (by omega)
theorem G3 {n:Int}{o2:mW}(hp:aS n E V L=0)(e:L.foldl (yI E (V.foldl (fK E (bW E L)) ([],[])).1) (V.foldl (fK E (bW E L)) ([],[])).2=o2):((o2,(0:Int),()):mW×Int×Unit)=(if aS n E V L≠0 then[] else oF E V L,aS n E V L,()):=by
 rw[if_neg (fun q=>q hp),hp,<-e];rfl
theorem uZ {n j:Int}(hp:aS n E V L=0)(h0:0<=j)(h1:j<(L.length:Int)):(E.getD (L.getD j.toNat 0).toNat (0,0)).1∈V/\(E.getD (L.getD j.toNat 0).toNat (0,0)).2∈V:=by
 obtain⟨hr,hV,hL,fq⟩:=aJ hp
 obtain⟨a,b⟩:=fq j.toNat (by omega)
 rw[fk hV] at a b
 exact⟨of_decide_eq_true a,of_decide_eq_true b⟩
end
def aa1 (V l:List Int):List Int:=V.filter fun v=>decide (v∈l)
def aa2 (E:List (Int×Int))(L l:List Int):List Int:=L.filter fun e=>decide ((E.getD e.toNat (0,0)).1∈l) && decide ((E.getD e.toNat (0,0)).2∈l)
def cW (l:List Int)(i:Int):List Int:=l.drop i.toNat++l.take i.toNat
def gN (l:List Int):Nat->Int
 |0=>0
 |k+1=>if l.getD k 0<l.getD (gN l k).toNat 0 then(k:Int) else gN l k
def aI (l:List Int):List Int:=cW l (gN l l.length)
theorem lz (l:List Int):∀k:Nat,0<=gN l k/\(gN l k=0\/gN l k<(k:Int))
 |0=>⟨Int.le_refl _,.inl rfl⟩
 |k+1=>by
  obtain⟨h1,h2⟩:=lz l k
  unfold gN
  split
  .exact⟨by omega,.inr (by omega)⟩
  exact⟨h1,h2.imp id fun h=>by omega⟩
theorem vW (l:List Int){i:Int}(h:0<=i):gN l (i+1).toNat=if l.getD i.toNat 0<l.getD (gN l i.toNat).toNat 0 then i else gN l i.toNat:=by
 rw[show(i+1).toNat=i.toNat+1 by omega]
 show(if _ then((i.toNat:Nat):Int) else _)=_
 rw[Int.toNat_of_nonneg h]
theorem di (l:List Int):(aI l).length=l.length:=by
 unfold aI cW
 rw[List.length_append,List.length_drop,List.length_take]
 have:=lz l l.length
 omega
theorem sI {l:List Int}{x:Int}(h:x∈aI l):x∈l:=by
 unfold aI cW at h
 rcases List.mem_append.1 h with h|h
 .exact List.mem_of_mem_drop h
 exact List.mem_of_mem_take h
def tR (P:List (Int×Int))(t:List Int):Nat->List (Int×Int)
 |0=>P
 |k+1=>b9 (tR P t k) (t.getD k 0) (k:Int)
def lB (T:List (List Int)):Nat->List (Int×Int)
 |0=>[]
 |v+1=>tR (lB T v) (aI (T.getD v [])) (aI (T.getD v [])).length
theorem KX {P:List (Int×Int)}{t:List Int}{i:Int}(h:0<=i):tR P t (i+1).toNat=b9 (tR P t i.toNat) (t.getD i.toNat 0) i:=by
 rw[show(i+1).toNat=i.toNat+1 by omega]
 show b9 _ _ ((i.toNat:Nat):Int)=_
 rw[Int.toNat_of_nonneg h]
theorem KY {T:List (List Int)}{i:Int}(h:0<=i):lB T (i+1).toNat=tR (lB T i.toNat) (aI (T.getD i.toNat [])) (aI (T.getD i.toNat [])).length:=by
 rw[show(i+1).toNat=i.toNat+1 by omega];rfl
theorem yJ (P:List (Int×Int))(t:List Int):∀k,(tR P t k).length<=P.length+k
 |0=>Nat.le_refl _
 |k+1=>by
  have:=yJ P t k
  have:=cQ (tR P t k) (t.getD k 0) (k:Int)
  show(b9 _ _ _).length<=_
  omega
theorem u0 {α β:Type}{f:α->β}{T:List α}{i:Int}(d:α)(h0:0<=i)(h1:i<(T.length:Int)):(T.take (i+1).toNat).map f=(T.take i.toNat).map f++[f (T.getD i.toNat d)]:=by
 rw[show(i+1).toNat=i.toNat+1 by omega,List.take_add_one,List.map_append,List.getElem?_eq_getElem (by omega)]
 congr 1
 rw[List.getD_eq_getElem?_getD,List.getElem?_eq_getElem (by omega)]
 rfl
theorem ag {α:Type}{l:List α}{i:Nat}{d:α}(h:i<l.length):l.getD i d∈l:=by
 rw[List.getD_eq_getElem?_getD,List.getElem?_eq_getElem h];exact List.getElem_mem _
def aC (T:List (List Int)):Prop:=∀l∈T,∀d∈l,-9223372036854775808<=d/\d<=9223372036854775807
def az (T:List (List Int)):Prop:=T.length<=10000/\∀l∈T,l.length<=10000
theorem EK {T:List (List Int)}(h:az T):∀v,(lB T v).length<=v*10000
 |0=>by simp[lB]
 |v+1=>by
  have h1:=EK h v
  have h2:=yJ (lB T v) (aI (T.getD v [])) (aI (T.getD v [])).length
  have h3:(T.getD v []).length<=10000:=by
   by_cases q:v<T.length
   .exact h.2 _ (ag q)
   rw[List.getD_eq_getElem?_getD,List.getElem?_eq_none (by omega)];simp
  rw[di] at h2
  show(tR _ _ _).length<=_
  rw[Nat.succ_mul,di]
  omega
abbrev oG:Type:=List (List Int)×(List (Int×Int)×(List (Int×Int)×List Int))
def cT (r:Option oG)(d s:Int):Int×Bool:=match r with
 |none=>(0,false)
 |some (T,lv,pl,ds)=>match af lv d with
  |none=>(0,false)
  |some v=>((T.getD v.toNat []).getD (((af pl d).getD 0+s+((T.getD v.toNat []).length:Int))%((T.getD v.toNat []).length:Int)).toNat 0,true)
def yK (r:Option oG)(d:Int):Prop:=match r with
 |none=>False
 |some (T,lv,pl,ds)=> ∀v,af lv d=some v->0<=v/\v<(T.length:Int)/\(T.getD v.toNat []).length<=10000/\0<=(af pl d).getD 0/\(af pl d).getD 0<((T.getD v.toNat []).length:Int)
theorem yK.some {r:Option oG}{d:Int}(h:yK r d):∃x,r=Option.some x:=by
 cases r with
 |none=>exact h.elim
 |some x=>exact⟨x,rfl⟩
def wo (M:List (Int×Int))(k v:Int):List (Int×Int):=b9 (b9 M k ((af M k).getD 0)) k v
theorem yL (M:List (Int×Int))(k v:Int):(wo M k v).length<=M.length+2:=by
 have h1:=cQ M k ((af M k).getD 0)
 have h2:=cQ (b9 M k ((af M k).getD 0)) k v
 unfold wo;omega
def lv1 (E:List (Int×Int))(M:List (Int×Int))(e:Int):List (Int×Int):=wo (wo M (2*e) (E.getD e.toNat (0,0)).1) (2*e+1) (E.getD e.toNat (0,0)).2
def uD (E:List (Int×Int))(L:List Int):Nat->List (Int×Int)
 |0=>[]
 |k+1=>lv1 E (uD E L k) (L.getD k 0)
def b8 (L:List Int):Nat->List Int
 |0=>[]
 |k+1=>b8 L k++[2*L.getD k 0,2*L.getD k 0+1]
theorem Oe {E:List (Int×Int)}{L:List Int}{i:Int}(h:0<=i):uD E L (i+1).toNat=lv1 E (uD E L i.toNat) (L.getD i.toNat 0):=by
 rw[show(i+1).toNat=i.toNat+1 by omega];rfl
theorem Of {L:List Int}{i:Int}(h:0<=i):b8 L (i+1).toNat=b8 L i.toNat++[2*L.getD i.toNat 0,2*L.getD i.toNat 0+1]:=by
 rw[show(i+1).toNat=i.toNat+1 by omega];rfl
theorem IS (E:List (Int×Int))(L:List Int):∀k,(uD E L k).length<=4*k
 |0=>Nat.le_refl _
 |k+1=>by
  have h:=IS E L k
  have h1:=yL (uD E L k) (2*L.getD k 0) (E.getD (L.getD k 0).toNat (0,0)).1
  have h2:=yL (wo (uD E L k) (2*L.getD k 0) (E.getD (L.getD k 0).toNat (0,0)).1) (2*L.getD k 0+1) (E.getD (L.getD k 0).toNat (0,0)).2
  show(wo _ _ _).length<=_
  omega
theorem ru (L:List Int):∀k,(b8 L k).length=2*k
 |0=>rfl
 |k+1=>by
  have:=ru L k
  show(b8 L k++[2*L.getD k 0,2*L.getD k 0+1]).length=_
  rw[List.length_append]
  simp;omega
def Dz (lv:List (Int×Int))(v:Int)(t:List Int)(P:List (Int×Int)):Nat->Option (List (Int×Int))
 |0=>some P
 |k+1=>match Dz lv v t P k with
  |none=>none
  |some Q=>if(af lv (t.getD k 0)).isSome=true/\(af lv (t.getD k 0)).getD 0=v/\(af Q (t.getD k 0)).isSome=false then some (b9 Q (t.getD k 0) (k:Int)) else none
def CP (lv:List (Int×Int))(T:List (List Int)):Nat->Option (List (Int×Int))
 |0=>some []
 |v+1=>match CP lv T v with
  |none=>none
  |some P=>Dz lv (v:Int) (T.getD v []) P (T.getD v []).length
theorem EL {lv:List (Int×Int)}{v:Int}{t:List Int}{P:List (Int×Int)}{k:Nat}(h:Dz lv v t P k=none):∀ {m:Nat},k<=m->Dz lv v t P m=none
 |0,hm=>by rw[show k=0 by omega] at h;exact h
 |m+1,hm=>by
  by_cases q:k=m+1
  .rw[<-q];exact h
  have:=EL h (m:=m) (by omega)
  unfold Dz;rw[this]
theorem EM {lv:List (Int×Int)}{T:List (List Int)}{k:Nat}(h:CP lv T k=none):∀ {m:Nat},k<=m->CP lv T m=none
 |0,hm=>by rw[show k=0 by omega] at h;exact h
 |m+1,hm=>by
  by_cases q:k=m+1
  .rw[<-q];exact h
  have:=EM h (m:=m) (by omega)
  unfold CP;rw[this]
theorem EN {lv:List (Int×Int)}{v:Int}{t:List Int}{P Q:List (Int×Int)}{i:Int}(h:0<=i)(hQ:Dz lv v t P i.toNat=some Q):
  Dz lv v t P (i+1).toNat=if(af lv (t.getD i.toNat 0)).isSome=true/\(af lv (t.getD i.toNat 0)).getD 0=v/\(af Q (t.getD i.toNat 0)).isSome=false then some (b9 Q (t.getD i.toNat 0) i) else none:=by
 rw[show(i+1).toNat=i.toNat+1 by omega]
 conv=>lhs;unfold Dz
 rw[hQ]
 show(if _ then some (b9 Q _ ((i.toNat:Nat):Int)) else none)=_
 rw[Int.toNat_of_nonneg h]
theorem EO {lv:List (Int×Int)}{T:List (List Int)}{P:List (Int×Int)}{v:Int}(h:0<=v)(hP:CP lv T v.toNat=some P):CP lv T (v+1).toNat=Dz lv v (T.getD v.toNat []) P (T.getD v.toNat []).length:=by
 rw[show(v+1).toNat=v.toNat+1 by omega]
 conv=>lhs;unfold CP
 rw[hP]
 show Dz lv ((v.toNat:Nat):Int) _ _ _=_
 rw[Int.toNat_of_nonneg h]
theorem CQ {lv:List (Int×Int)}{v:Int}{t:List Int}{P:List (Int×Int)}:∀ {k:Nat} {Q:List (Int×Int)},Dz lv v t P k=some Q->Q.length<=P.length+k
 |0,Q,h=>by cases h;omega
 |k+1,Q,h=>by
  unfold Dz at h
  split at h
  .cases h
  rename_i R hR
  have:=CQ hR
  split at h
  .cases h
   have:=cQ R (t.getD k 0) (k:Int)
   omega
  cases h
theorem CR {lv:List (Int×Int)}{T:List (List Int)}(hs:az T):∀ {v:Nat} {Q:List (Int×Int)},CP lv T v=some Q->Q.length<=v*10000
 |0,Q,h=>by cases h;simp
 |v+1,Q,h=>by
  unfold CP at h
  split at h
  .cases h
  rename_i R hR
  have h1:=CR hs hR
  have h2:=CQ h
  have h3:(T.getD v []).length<=10000:=by
   by_cases q:v<T.length
   .exact hs.2 _ (ag q)
   rw[List.getD_eq_getElem?_getD,List.getElem?_eq_none (by omega)];simp
  rw[Nat.succ_mul];omega
def eD (n:Int)(E:List (Int×Int))(V L:List Int)(T:List (List Int)):Option oG×Int:=
 if aS n E V L≠0 then(none,aS n E V L) else if(T.length:Int)≠n then(none,5) else match CP (uD E L L.length) T T.length with
  |none=>(none,5)
  |some P=>if(P.length:Int)≠((uD E L L.length).length:Int) then(none,5) else(some (T.map aI,uD E L L.length,lB T T.length,b8 L L.length),0)
theorem Og {n:Int}{E:List (Int×Int)}{V L:List Int}{T:List (List Int)}(h1:aS n E V L=0)(h2:(T.length:Int)=n)(h3:CP (uD E L L.length) T T.length=none):eD n E V L T=(none,5):=by
 unfold eD;rw[if_neg (by omega),if_neg (by omega),h3]
theorem Oh {n:Int}{E:List (Int×Int)}{V L:List Int}{T:List (List Int)}(h1:aS n E V L=0)(h2:¬(T.length:Int)=n):eD n E V L T=(none,5):=by
 unfold eD;rw[if_neg (by omega),if_pos h2]
theorem Oi {n:Int}{E:List (Int×Int)}{V L:List Int}{T:List (List Int)}{P:List (Int×Int)}(h1:aS n E V L=0)(h2:(T.length:Int)=n)(h3:CP (uD E L L.length) T T.length=some P)(h4:¬(P.length:Int)=((uD E L L.length).length:Int)):eD n E V L T=(none,5):=by
 unfold eD;rw[if_neg (by omega),if_neg (by omega),h3];exact if_pos h4
theorem IT {n:Int}{E:List (Int×Int)}{V L:List Int}{T:List (List Int)}{P:List (Int×Int)}(h1:aS n E V L=0)(h2:(T.length:Int)=n)(h3:CP (uD E L L.length) T T.length=some P)(h4:(P.length:Int)=((uD E L L.length).length:Int)):eD n E V L T=(some (T.map aI,uD E L L.length,lB T T.length,b8 L L.length),0):=by
 unfold eD;rw[if_neg (by omega),if_neg (by omega),h3];exact if_neg (by omega)
theorem cover {α:Type}[DecidableEq α]{l m:List α}(hl:l.Nodup)(hs:∀x∈l,x∈m)(h:m.length<=l.length):∀x∈m,x∈l:=fun x hx=>Classical.byContradiction fun q=>by
 have h1:(x::l).Nodup:=List.nodup_cons.2 ⟨q,hl⟩
 have:=h1.length_le_of_subset (l₂:=m) fun y hy=>(List.mem_cons.1 hy).elim (fun e=>e▸hx) (hs y)
 simp at this;omega
theorem dW {α:Type}{l:List α}{z:α}(h:l.Nodup){i j:Nat}(hi:i<l.length)(hj:j<l.length)(e:l.getD i z=l.getD j z):i=j:=by
 rw[List.getD_eq_getElem?_getD,List.getD_eq_getElem?_getD,List.getElem?_eq_getElem hi,List.getElem?_eq_getElem hj] at e
 exact(List.getElem_inj h).1 e
theorem aB {α:Type}{l:List α}{z x:α}:x∈l↔∃j,j<l.length/\l.getD j z=x:=by
 constructor
 .intro h
  obtain⟨j,hj,e⟩:=List.getElem_of_mem h
  exact⟨j,hj,by rw[List.getD_eq_getElem?_getD,List.getElem?_eq_getElem hj];exact e⟩
 rintro⟨j,hj,e⟩
 rw[List.getD_eq_getElem?_getD,List.getElem?_eq_getElem hj] at e
 exact e▸List.getElem_mem hj
def ak (L:List Int)(d:Int):Prop:=d/2∈L
theorem ck {L:List Int}{d:Int}:ak L d↔∃e∈L,d=2*e\/d=2*e+1:=by
 constructor
 .exact fun h=>⟨d/2,h,by omega⟩
 rintro⟨e,he,q⟩
 have:d/2=e:=by omega
 unfold ak;rw[this];exact he
theorem wS {L:List Int}:∀ {k:Nat},k<=L.length->∀d,d∈b8 L k↔ak (L.take k) d
 |0,_,d=>by simp[b8,ak]
 |k+1,h,d=>by
  have ih:=wS (L:=L) (k:=k) (by omega) d
  have e:L.take (k+1)=L.take k++[L.getD k 0]:=by
   rw[List.take_add_one,List.getD_eq_getElem?_getD,List.getElem?_eq_getElem (by omega)];rfl
  unfold ak at ih ⊢
  rw[e,b8,List.mem_append,ih,List.mem_append]
  simp only[List.mem_cons,List.not_mem_nil,or_false]
  constructor
  .rintro(q|q|q)
   .exact .inl q
   .exact .inr (by omega)
   exact .inr (by omega)
  rintro(q|q)
  .exact .inl q
  exact .inr (by omega)
theorem aN {L:List Int}(d:Int):d∈b8 L L.length↔ak L d:=by rw[wS (Nat.le_refl _),List.take_length]
theorem rz {L:List Int}(h:L.Nodup):∀ {k:Nat},k<=L.length->(b8 L k).Nodup
 |0,_=>List.nodup_nil
 |k+1,hk=>by
  have hn:L.getD k 0∉L.take k:=fun q=>by
   obtain⟨j,hj,e⟩:=aB (z:=0).1 q
   rw[List.length_take] at hj
   rw[List.getD_eq_getElem?_getD,List.getElem?_take,if_pos (by omega),<-List.getD_eq_getElem?_getD] at e
   have:=dW h (by omega) (by omega) e
   omega
  have Bc:∀d,d/2=L.getD k 0->d∉b8 L k:=fun d hd q=>hn (by have:=(wS (by omega) d).1 q;unfold ak at this;rwa[hd] at this)
  rw[b8,List.nodup_append]
  refine⟨rz h (by omega),?_,?_⟩
  .simp only[List.nodup_cons,List.mem_singleton,List.not_mem_nil,not_false_eq_true,List.nodup_nil,and_true];omega
  intro a ha b hb e
  subst e
  simp only[List.mem_cons,List.not_mem_nil,or_false] at hb
  exact Bc a (by omega) ha
theorem EP {M:List (Int×Int)}{k v x:Int}:af (wo M k v) x=if k=x then some v else af M x:=by
 unfold wo;rw[bK,bK];split<;>rfl
theorem lC {E:List (Int×Int)}{L:List Int}:∀ {k:Nat},k<=L.length->∀d,af (uD E L k) d=if d∈b8 L k then some (ah E d) else none
 |0,_,d=>by simp[b8,uD];rfl
 |k+1,h,d=>by
  have ih:=lC (E:=E) (L:=L) (k:=k) (by omega) d
  show af (lv1 E (uD E L k) (L.getD k 0)) d=_
  unfold lv1
  rw[EP,EP,ih,b8]
  by_cases h1:2*L.getD k 0+1=d
  .rw[if_pos h1,if_pos (List.mem_append_right _ (by simp[<-h1]))]
   rw[<-h1];congr 1;unfold ah
   rw[if_neg (by omega),show(2*L.getD k 0+1)/2=L.getD k 0 by omega]
  rw[if_neg h1]
  by_cases h2:2*L.getD k 0=d
  .rw[if_pos h2,if_pos (List.mem_append_right _ (by simp[<-h2]))]
   rw[<-h2];congr 1;unfold ah
   rw[if_pos (by omega),show(2*L.getD k 0)/2=L.getD k 0 by omega]
  rw[if_neg h2]
  have e:(d∈b8 L k++[2*L.getD k 0,2*L.getD k 0+1])↔d∈b8 L k:=by
   rw[List.mem_append]
   constructor
   .rintro(q|q)
    .exact q
    simp only[List.mem_cons,List.not_mem_nil,or_false] at q;omega
   exact .inl
  by_cases h3:d∈b8 L k
  .rw[if_pos h3,if_pos (e.2 h3)]
  rw[if_neg h3,if_neg fun q=>h3 (e.1 q)]
def KN {α:Type}(m:List (Int×α)):Prop:=(m.map (·.1)).Nodup
theorem Oj {α:Type}{m:List (Int×α)}(h:KN m)(x:Int):KN (xJ m x):=h.sublist (List.Sublist.map _ List.filter_sublist)
theorem Bg {α:Type}{m:List (Int×α)}(h:KN m)(x:Int)(v:α):KN (b9 m x v):=by
 have hp:(b9 m x v).Perm ((x,v)::xJ m x):=uF (k:=.int) (x,v) (lU (k:=.int) m x)
 unfold KN
 rw[(hp.map (·.1)).nodup_iff,List.map_cons,List.nodup_cons]
 refine⟨fun q=>?_,Oj h x⟩
 obtain⟨p,hp,e⟩:=List.mem_map.1 q
 have:af (xJ m x) x=none:=by rw[xK,if_pos rfl]
 have e:p.1=x:=e
 exact mZ.1 this p.2 (by obtain⟨p1,p2⟩:=p;subst e;exact hp)
theorem yM {α:Type}:KN ([]:List (Int×α)):=List.nodup_nil
theorem mem_keys {α:Type}{m:List (Int×α)}{x:Int}:x∈m.map (·.1)↔(af m x).isSome=true:=by
 constructor
 .intro h
  obtain⟨p,hp,e⟩:=List.mem_map.1 h
  cases hq:af m x with
  |some _=>rfl
  |none=>exact(mZ.1 hq p.2 (by obtain⟨p1,p2⟩:=p;have e:p1=x:=e;subst e;exact hp)).elim
 intro h
 obtain⟨v,hv⟩:=Option.isSome_iff_exists.1 h
 exact List.mem_map.2 ⟨_,mw hv,rfl⟩
theorem CS {α:Type}{m:List (Int×α)}(h:KN m){l:List Int}(hl:l.Nodup)(he:∀x,x∈l↔(af m x).isSome=true):m.length=l.length:=by
 have h1:=hl.length_le_of_subset (l₂:=m.map (·.1)) fun x hx=>mem_keys.2 ((he x).1 hx)
 have h2:=h.length_le_of_subset (l₂:=l) fun x hx=>(he x).2 (mem_keys.1 hx)
 rw[List.length_map] at h1 h2;omega
theorem Bh {α:Type}{m:List (Int×α)}(h:KN m){x:Int}(hx:(af m x).isSome=true):(xJ m x).length+1=m.length:=by
 have hn:x∉(xJ m x).map (·.1):=fun q=>by
  have:=mem_keys.1 q
  rw[xK,if_pos rfl] at this;cases this
 have hc:(x::(xJ m x).map (·.1)).Nodup:=List.nodup_cons.2 ⟨hn,Oj h x⟩
 have:=CS h hc fun y=>by
  rw[List.mem_cons,mem_keys,xK]
  constructor
  .rintro(rfl|q)
   .exact hx
   split at q
   .cases q
   exact q
  intro q
  by_cases e:x=y
  .exact .inl e.symm
  exact .inr (by rw[if_neg e];exact q)
 simp at this;omega
theorem Ol {M:List (Int×Int)}(h:KN M)(k v:Int):KN (wo M k v):=Bg (Bg h _ _) _ _
theorem UC (E:List (Int×Int))(L:List Int):∀k,KN (uD E L k)
 |0=>yM
 |k+1=>Ol (Ol (UC E L k) _ _) _ _
theorem yN {E:List (Int×Int)}{L:List Int}(h:L.Nodup):(uD E L L.length).length=(b8 L L.length).length:=
 CS (UC E L _) (rz h (Nat.le_refl _)) fun d=>by
  rw[lC (Nat.le_refl _)]
  by_cases q:d∈b8 L L.length
  .rw[if_pos q];exact⟨fun _=>rfl,fun _=>q⟩
  rw[if_neg q];exact⟨fun z=>(q z).elim,fun z=>by cases z⟩
theorem bU {α:Type}{l:List α}{k:Nat}(h:k<l.length)(z:α):l.take (k+1)=l.take k++[l.getD k z]:=by
 rw[List.take_add_one,List.getD_eq_getElem?_getD,List.getElem?_eq_getElem h];rfl
structure Gd (lv:List (Int×Int))(v:Int)(l:List Int)(P:List (Int×Int))(Q:List (Int×Int)):Prop where
 nd:l.Nodup
 fr:∀d∈l,af P d=none
 lk:∀d∈l,af lv d=some v
 ks:∀d,(af Q d).isSome=true↔(af P d).isSome=true\/d∈l
 kn:KN Q
theorem yO {lv:List (Int×Int)}{v:Int}{t:List Int}{P:List (Int×Int)}(hP:KN P):∀ {k:Nat} {Q:List (Int×Int)},k<=t.length->Dz lv v t P k=some Q->Gd lv v (t.take k) P Q
 |0,Q,_,h=>by
  have h:some P=some Q:=h
  cases h
  exact⟨by rw[List.take_zero];exact List.nodup_nil,fun d hd=>by simp at hd,fun d hd=>by simp at hd,fun d=>by simp,hP⟩
 |k+1,Q,hk,h=>by
  unfold Dz at h
  split at h
  .cases h
  rename_i R hR
  obtain⟨g1,g2,g3,g4,g5⟩:=yO hP (k:=k) (by omega) hR
  split at h
  .rename_i hc
   cases h
   obtain⟨c1,c2,c3⟩:=hc
   have hn:¬(af R (t.getD k 0)).isSome=true:=by rw[c3];simp
   have hx:¬((af P (t.getD k 0)).isSome=true\/t.getD k 0∈t.take k):=fun q=>hn ((g4 _).2 q)
   rw[bU (by omega) 0]
   refine⟨?_,fun d hd=>?_,fun d hd=>?_,fun d=>?_,Bg g5 _ _⟩
   .rw[List.nodup_append]
    exact⟨g1,by simp,fun a ha b hb e=>by subst e;have:=List.mem_singleton.1 hb;subst this;exact hx (.inr ha)⟩
   .rcases List.mem_append.1 hd with hd|hd
    .exact g2 d hd
    have:=List.mem_singleton.1 hd
    subst this
    cases hq:af P (t.getD k 0) with
    |none=>rfl
    |some _=>exact(hx (.inl (by rw[hq];rfl))).elim
   .rcases List.mem_append.1 hd with hd|hd
    .exact g3 d hd
    have:=List.mem_singleton.1 hd
    subst this
    obtain⟨u,hu⟩:=Option.isSome_iff_exists.1 c1
    rw[hu] at c2 ⊢
    exact congrArg some c2
   rw[bK,List.mem_append,List.mem_singleton]
   by_cases e:t.getD k 0=d
   .rw[if_pos e];exact⟨fun _=>.inr (.inr e.symm),fun _=>rfl⟩
   rw[if_neg e,g4]
   exact⟨fun q=>q.elim .inl fun q=>.inr (.inl q),fun q=>q.elim .inl fun q=>q.elim .inr fun q=>(e q.symm).elim⟩
  cases h
theorem Om {lv:List (Int×Int)}{v:Int}{t:List Int}{P:List (Int×Int)}(hP:KN P)(h1:t.Nodup)(h2:∀d∈t,af P d=none)(h3:∀d∈t,af lv d=some v):∀ {k:Nat},k<=t.length->∃Q,Dz lv v t P k=some Q
 |0,_=>⟨P,rfl⟩
 |k+1,hk=>by
  obtain⟨R,hR⟩:=Om hP h1 h2 h3 (k:=k) (by omega)
  have g:=yO hP (k:=k) (by omega) hR
  have hm:t.getD k 0∈t:=aB.2 ⟨k,by omega,rfl⟩
  have hnt:t.getD k 0∉t.take k:=fun q=>by
   obtain⟨j,hj,e⟩:=aB (z:=0).1 q
   rw[List.length_take] at hj
   rw[List.getD_eq_getElem?_getD,List.getElem?_take,if_pos (by omega),<-List.getD_eq_getElem?_getD] at e
   have:=dW h1 (by omega) (by omega) e
   omega
  have Zi:(af R (t.getD k 0)).isSome=false:=by
   cases hq:(af R (t.getD k 0)).isSome with
   |false=>rfl
   |true=>
    rcases(g.ks _).1 hq with z|z
    .rw[h2 _ hm] at z;cases z
    exact(hnt z).elim
  refine⟨b9 R (t.getD k 0) (k:Int),?_⟩
  unfold Dz
  rw[hR]
  exact if_pos ⟨by rw[h3 _ hm];rfl,by rw[h3 _ hm];rfl,Zi⟩
structure GdF (lv:List (Int×Int))(T:List (List Int))(v:Nat)(Q:List (Int×Int)):Prop where
 nd:(T.take v).flatten.Nodup
 lk:∀u,u<v->∀d∈T.getD u [],af lv d=some (u:Int)
 ks:∀d,(af Q d).isSome=true↔d∈(T.take v).flatten
 kn:KN Q
theorem kO {T:List (List Int)}{v:Nat}(h:v<=T.length){d:Int}:d∈(T.take v).flatten↔∃u,u<v/\d∈T.getD u []:=by
 rw[List.mem_flatten]
 constructor
 .rintro⟨l,hl,hd⟩
  obtain⟨j,hj,e⟩:=aB (z:=[]).1 hl
  rw[List.length_take] at hj
  rw[List.getD_eq_getElem?_getD,List.getElem?_take,if_pos (by omega),<-List.getD_eq_getElem?_getD] at e
  exact⟨j,by omega,by rw[e];exact hd⟩
 rintro⟨u,hu,hd⟩
 refine⟨T.getD u [],aB (z:=[]).2 ⟨u,by rw[List.length_take];omega,?_⟩,hd⟩
 rw[List.getD_eq_getElem?_getD,List.getElem?_take,if_pos hu,<-List.getD_eq_getElem?_getD]
theorem tS {lv:List (Int×Int)}{T:List (List Int)}:∀ {v:Nat} {Q:List (Int×Int)},v<=T.length->CP lv T v=some Q->GdF lv T v Q
 |0,Q,_,h=>by
  have h:some []=some Q:=h
  cases h
  exact⟨by simp,fun u hu=>by omega,fun d=>by simp;rfl,yM⟩
 |v+1,Q,hv,h=>by
  unfold CP at h
  split at h
  .cases h
  rename_i P hP
  obtain⟨f1,f2,f3,f4⟩:=tS (v:=v) (by omega) hP
  obtain⟨g1,g2,g3,g4,g5⟩:=yO f4 (Nat.le_refl _) h
  rw[List.take_length] at g1 g2 g3 g4
  refine⟨?_,fun u hu d hd=>?_,fun d=>?_,g5⟩
  .rw[bU (by omega) [],List.flatten_append,List.flatten_cons,List.flatten_nil,List.append_nil,List.nodup_append]
   exact⟨f1,g1,fun a ha b hb e=>by subst e;have:=(f3 a).2 ha;rw[g2 a hb] at this;cases this⟩
  .by_cases q:u=v
   .subst q;exact g3 d hd
   exact f2 u (by omega) d hd
  rw[g4,f3,bU (by omega) [],List.flatten_append,List.flatten_cons,List.flatten_nil,List.append_nil,List.mem_append]
theorem Oo {lv:List (Int×Int)}{T:List (List Int)}(h1:∀u,u<T.length->(T.getD u []).Nodup)(h2:∀u,u<T.length->∀d∈T.getD u [],af lv d=some (u:Int)):∀ {v:Nat},v<=T.length->∃Q,CP lv T v=some Q
 |0,_=>⟨[],rfl⟩
 |v+1,hv=>by
  obtain⟨P,hP⟩:=Oo h1 h2 (v:=v) (by omega)
  have g:=tS (v:=v) (by omega) hP
  unfold CP
  rw[hP]
  refine Om g.kn (h1 v (by omega)) (fun d hd=>?_) (h2 v (by omega)) (Nat.le_refl _)
  cases hq:af P d with
  |none=>rfl
  |some _=>
   obtain⟨u,hu,UD⟩:=(kO (by omega)).1 ((g.ks d).1 (by rw[hq];rfl))
   have e1:=h2 u (by omega) d UD
   rw[h2 v (by omega) d hd] at e1
   injection e1 with e1
   omega
structure fB (n:Int)(E:List (Int×Int))(L:List Int)(T:List (List Int)):Prop where
 len:(T.length:Int)=n
 nd:∀v,v<T.length->(T.getD v []).Nodup
 mem:∀v,v<T.length->∀d,d∈T.getD v []↔ak L d/\ah E d=(v:Int)
theorem ER {L:List Int}{n:Int}(h:cH L n):L.Nodup:=gq (aA.1 h).1
theorem lD {n:Int}{E:List (Int×Int)}{V L:List Int}{T:List (List Int)}(h:(eD n E V L T).2=0):
  aS n E V L=0/\fB n E L T/\(eD n E V L T).1=some (T.map aI,uD E L L.length,lB T T.length,b8 L L.length):=by
 unfold eD at h ⊢
 split at h
 .rename_i q;exact(q h).elim
 rename_i hp
 rw[if_neg hp]
 split at h
 .cases h
 rename_i hlen
 rw[if_neg hlen]
 split at h
 .cases h
 rename_i P hP
 split at h
 .cases h
 rename_i VT
 have gX:aS n E V L=0:=by omega
 obtain⟨_,_,hL,_⟩:=aJ gX
 have KZ:=ER hL
 obtain⟨f1,f2,f3,f4⟩:=tS (Nat.le_refl _) hP
 rw[List.take_length] at f1 f3
 have e1:P.length=T.flatten.length:=CS f4 f1 fun d=>(f3 d).symm
 have e2:=yN (E:=E) KZ
 have pG:∀d∈T.flatten,d∈b8 L L.length:=fun d hd=>by
  obtain⟨u,hu,UD⟩:=(kO (Nat.le_refl T.length)).1 (by rw[List.take_length];exact hd)
  have:=f2 u hu d UD
  rw[lC (Nat.le_refl _)] at this
  split at this
  .rename_i q;exact q
  cases this
 have aa3:=cover f1 pG (by omega)
 refine⟨gX,⟨by omega,fun v hv=>?_,fun v hv d=>⟨fun hd=>?_,fun⟨hd,ht⟩=>?_⟩⟩,by rw[if_neg VT]⟩
 .have hm:T.getD v []∈T:=aB.2 ⟨v,hv,rfl⟩
  exact f1.sublist (List.sublist_flatten_of_mem hm)
 .have:=f2 v hv d hd
  rw[lC (Nat.le_refl _)] at this
  split at this
  .rename_i q
   exact⟨(aN d).1 q,by injection this⟩
  cases this
 have hdf:=aa3 d ((aN d).2 hd)
 obtain⟨u,hu,UD⟩:=(kO (Nat.le_refl T.length)).1 (by rw[List.take_length];exact hdf)
 have:=f2 u hu d UD
 rw[lC (Nat.le_refl _),if_pos ((aN d).2 hd),ht] at this
 injection this with this
 have:u=v:=by omega
 subst this;exact UD
theorem sJ {n:Int}{E:List (Int×Int)}{V L:List Int}{T:List (List Int)}(hp:aS n E V L=0)(h:fB n E L T):(eD n E V L T).2=0:=by
 obtain⟨hr,_,hL,_⟩:=aJ hp
 have KZ:=ER hL
 have zV:∀u,u<T.length->∀d∈T.getD u [],af (uD E L L.length) d=some (u:Int):=fun u hu d hd=>by
  obtain⟨h1,h2⟩:=(h.mem u hu d).1 hd
  rw[lC (Nat.le_refl _),if_pos ((aN d).2 h1),h2]
 obtain⟨P,hP⟩:=Oo h.nd zV (Nat.le_refl T.length)
 obtain⟨f1,f2,f3,f4⟩:=tS (Nat.le_refl _) hP
 rw[List.take_length] at f1 f3
 have si:=rz KZ (Nat.le_refl L.length)
 have A7:∀d,ak L d->0<=ah E d/\(ah E d).toNat<T.length:=fun d hd=>by
  obtain⟨e,he,q⟩:=ck.1 hd
  obtain⟨r1,r2,r3,r4⟩:=bz hr
  have hb:=(aA.1 hL).2 e he
  have fq:=r4 e.toNat (by omega)
  unfold KO at fq
  have hlen:=h.len
  rcases q with rfl|rfl
  .have e0:ah E (2*e)=(E.getD e.toNat (0,0)).1:=by unfold ah;rw[if_pos (by omega),show 2*e/2=e by omega]
   rw[e0];omega
  have e0:ah E (2*e+1)=(E.getD e.toNat (0,0)).2:=by unfold ah;rw[if_neg (by omega),show(2*e+1)/2=e by omega]
  rw[e0];omega
 have e1:P.length=(b8 L L.length).length:=CS f4 si fun d=>by
  rw[f3]
  constructor
  .intro hd
   have hd:=(aN d).1 hd
   obtain⟨t0,t1⟩:=A7 d hd
   have:=(h.mem _ t1 d).2 ⟨hd,by omega⟩
   have:=(kO (Nat.le_refl T.length)).2 ⟨_,t1,this⟩
   rwa[List.take_length] at this
  intro hd
  obtain⟨u,hu,UD⟩:=(kO (Nat.le_refl T.length)).1 (by rw[List.take_length];exact hd)
  exact(aN d).2 ((h.mem u hu d).1 UD).1
 have e2:=yN (E:=E) KZ
 rw[IT hp h.len hP (by omega)]
theorem gr {l:List Int}{i:Int}(h0:0<=i)(h1:i<=(l.length:Int)):(cW l i).length=l.length:=by
 unfold cW;rw[List.length_append,List.length_drop,List.length_take];omega
theorem jW {l:List Int}{i:Int}(h0:0<=i)(h1:i<=(l.length:Int)){j:Nat}(hj:j<l.length):(cW l i).getD j 0=l.getD ((j+i.toNat)%l.length) 0:=by
 unfold cW
 have hi:i.toNat<=l.length:=by omega
 rw[List.getD_eq_getElem?_getD,List.getD_eq_getElem?_getD,List.getElem?_append]
 rw[List.length_drop]
 split
 .rename_i q
  rw[List.getElem?_drop,Nat.mod_eq_of_lt (by omega),Nat.add_comm]
 rename_i q
 rw[List.getElem?_take,if_pos (by omega)]
 have e:(j+i.toNat)%l.length=j-(l.length-i.toNat):=by
  rw[show j+i.toNat=(j-(l.length-i.toNat))+l.length by omega,Nat.add_mod_right,Nat.mod_eq_of_lt (by omega)]
 rw[e]
def kD (l:List Int)(x y:Int):Prop:=∃j,j<l.length/\l.getD j 0=x/\y=l.getD ((j+l.length-1)%l.length) 0
theorem u5 {l:List Int}{i:Int}(h0:0<=i)(h1:i<=(l.length:Int)){x y:Int}(h:kD (cW l i) x y):kD l x y:=by
 obtain⟨j,hj,e1,e2⟩:=h
 rw[gr h0 h1] at hj e2
 have hl:0<l.length:=by omega
 have hm:(j+l.length-1)%l.length<l.length:=Nat.mod_lt _ hl
 rw[jW h0 h1 hj] at e1
 rw[jW h0 h1 hm] at e2
 refine⟨(j+i.toNat)%l.length,Nat.mod_lt _ hl,e1,?_⟩
 rw[e2]
 congr 1
 rw[Nat.mod_add_mod,show(j+i.toNat)%l.length+l.length-1=(j+i.toNat)%l.length+(l.length-1) by omega,Nat.mod_add_mod]
 congr 1
 omega
theorem qj {l:List Int}(hn:l.Nodup){x y z:Int}(h:kD l x y)(k:kD l x z):y=z:=by
 obtain⟨i,hi,e1,rfl⟩:=h
 obtain⟨j,hj,e2,rfl⟩:=k
 rw[dW hn hi hj (e1.trans e2.symm)]
theorem pred_inj {l:List Int}(hn:l.Nodup){x y z:Int}(h:kD l x z)(k:kD l y z):x=y:=by
 obtain⟨i,hi,rfl,e1⟩:=h
 obtain⟨j,hj,rfl,e2⟩:=k
 have hl:0<l.length:=by omega
 have:=dW hn (Nat.mod_lt _ hl) (Nat.mod_lt _ hl) (e1.symm.trans e2)
 have e:i=j:=by
  have key:∀a,a<l.length->(a+l.length-1)%l.length=if a=0 then l.length-1 else a-1:=fun a ha=>by
   split
   .rename_i q;subst q;rw[Nat.zero_add,Nat.mod_eq_of_lt (by omega)]
   rw[show a+l.length-1=(a-1)+l.length by omega,Nat.add_mod_right,Nat.mod_eq_of_lt (by omega)]
  rw[key i hi,key j hj] at this
  split at this<;>split at this<;>omega
 rw[e]
theorem Oq {l:List Int}{x y:Int}(h:kD l x y):y∈l:=by
 obtain⟨i,hi,_,rfl⟩:=h
 exact aB.2 ⟨_,Nat.mod_lt _ (by omega),rfl⟩
theorem Bi {t:List Int}(hn:t.Nodup){P:List (Int×Int)}:∀ {k:Nat},k<=t.length->(∀j,j<k->af (tR P t k) (t.getD j 0)=some (j:Int))/\∀x,(∀j,j<k->t.getD j 0≠x)->af (tR P t k) x=af P x
 |0,_=>⟨fun j hj=>by omega,fun x _=>rfl⟩
 |k+1,hk=>by
  obtain⟨h1,h2⟩:=Bi hn (P:=P) (k:=k) (by omega)
  refine⟨fun j hj=>?_,fun x hx=>?_⟩
  .show af (b9 (tR P t k) (t.getD k 0) (k:Int)) _=_
   rw[bK]
   by_cases q:j=k
   .rw[q,if_pos rfl]
   rw[if_neg fun e=>q (dW hn (by omega) (by omega) e.symm),h1 j (by omega)]
  show af (b9 (tR P t k) (t.getD k 0) (k:Int)) _=_
  rw[bK,if_neg (hx k (by omega)),h2 x fun j hj=>hx j (by omega)]
theorem jG (l:List Int):∃i:Int,0<=i/\i<=(l.length:Int)/\aI l=cW l i:=by
 have:=lz l l.length
 exact⟨gN l l.length,this.1,by omega,rfl⟩
theorem ny {l:List Int}{x:Int}:x∈aI l↔x∈l:=by
 constructor
 .exact sI
 intro h
 unfold aI cW
 rw[List.mem_append]
 rw[<-List.take_append_drop (gN l l.length).toNat l,List.mem_append] at h
 exact h.symm
theorem qm {l:List Int}(h:l.Nodup):(aI l).Nodup:=by
 unfold aI cW
 rw[<-List.take_append_drop (gN l l.length).toNat l] at h
 exact(List.perm_append_comm.nodup_iff).1 h
theorem Bj {T:List (List Int)}(hn:∀v,v<T.length->(T.getD v []).Nodup)(hd:∀u v,u<T.length->v<T.length->∀d,d∈T.getD u []->d∈T.getD v []->u=v):∀ {k:Nat},k<=T.length->∀v,v<k->∀j,j<(T.getD v []).length->af (lB T k) ((aI (T.getD v [])).getD j 0)=some (j:Int)
 |0,_,v,hv,_,_=>by omega
 |k+1,hk,v,hv,j,hj=>by
  have Zj:=qm (hn k (by omega))
  obtain⟨h1,h2⟩:=Bi Zj (P:=lB T k) (Nat.le_refl _)
  show af (tR (lB T k) (aI (T.getD k [])) (aI (T.getD k [])).length) _=_
  by_cases q:v=k
  .subst q
   exact h1 j (by rw[di];exact hj)
  rw[h2 _ fun i hi e=>?_]
  .exact Bj hn hd (k:=k) (by omega) v (by omega) j hj
  have m1:(aI (T.getD v [])).getD j 0∈T.getD v []:=ny.1 (aB.2 ⟨j,by rw[di];exact hj,rfl⟩)
  have m2:(aI (T.getD k [])).getD i 0∈T.getD k []:=ny.1 (aB.2 ⟨i,hi,rfl⟩)
  rw[e] at m2
  exact q (hd v k (by omega) (by omega) _ m1 m2)
theorem jX (d:Int):an (an d)=d:=by unfold an;split<;>split<;>omega
theorem jI (d:Int):an d/2=d/2:=by unfold an;split<;>omega
theorem bI {L:List Int}{d:Int}:ak L (an d)↔ak L d:=by unfold ak;rw[jI]
theorem G4 {n:Int}{E:List (Int×Int)}{L:List Int}{T:List (List Int)}(h:fB n E L T):∀u v,u<T.length->v<T.length->∀d,d∈T.getD u []->d∈T.getD v []->u=v:=fun u v hu hv d h1 h2=>by
 have e1:=((h.mem u hu d).1 h1).2
 have e2:=((h.mem v hv d).1 h2).2
 omega
theorem fU {n:Int}{E:List (Int×Int)}{V L:List Int}{T:List (List Int)}(hp:aS n E V L=0)(h:fB n E L T){d:Int}(hd:ak L d):0<=ah E d/\(ah E d).toNat<T.length/\d∈T.getD (ah E d).toNat []:=by
 obtain⟨hr,_,hL,_⟩:=aJ hp
 obtain⟨r1,r2,r3,r4⟩:=bz hr
 obtain⟨e,he,q⟩:=ck.1 hd
 have hb:=(aA.1 hL).2 e he
 have fq:=r4 e.toNat (by omega)
 unfold KO at fq
 have hlen:=h.len
 have key:0<=ah E d/\(ah E d).toNat<T.length:=by
  rcases q with rfl|rfl
  .have e0:ah E (2*e)=(E.getD e.toNat (0,0)).1:=by unfold ah;rw[if_pos (by omega),show 2*e/2=e by omega]
   rw[e0];omega
  have e0:ah E (2*e+1)=(E.getD e.toNat (0,0)).2:=by unfold ah;rw[if_neg (by omega),show(2*e+1)/2=e by omega]
  rw[e0];omega
 exact⟨key.1,key.2,(h.mem _ key.2 d).2 ⟨hd,by omega⟩⟩
def Ot (E:List (Int×Int))(L:List Int)(T:List (List Int)):Option oG:=some (T.map aI,uD E L L.length,lB T T.length,b8 L L.length)
def dA (E:List (Int×Int))(L:List Int)(T:List (List Int))(d:Int):Int:=(cT (Ot E L T) (an d) (-1)).1
theorem lE {α β:Type}{f:α->β}{l:List α}{k:Nat}(h:k<l.length)(z:α)(y:β):(l.map f).getD k y=f (l.getD k z):=by
 rw[List.getD_eq_getElem?_getD,List.getElem?_map,List.getD_eq_getElem?_getD,List.getElem?_eq_getElem h];rfl
theorem Bk {n:Int}{E:List (Int×Int)}{V L:List Int}{T:List (List Int)}(hp:aS n E V L=0)(h:fB n E L T){t:Int}(ht:ak L t):
  ∃j:Nat,j<(T.getD (ah E t).toNat []).length/\af (uD E L L.length) t=some (ah E t)/\af (lB T T.length) t=some (j:Int)/\(aI (T.getD (ah E t).toNat [])).getD j 0=t:=by
 obtain⟨h0,h1,h2⟩:=fU hp h ht
 obtain⟨j,hj,e⟩:=aB (z:=0).1 (ny.2 h2)
 rw[di] at hj
 refine⟨j,hj,?_,?_,e⟩
 .rw[lC (Nat.le_refl _),if_pos ((aN t).2 ht)]
 have:=Bj h.nd (G4 h) (Nat.le_refl _) _ h1 j hj
 rwa[e] at this
theorem ia {n:Int}{E:List (Int×Int)}{V L:List Int}{T:List (List Int)}(hp:aS n E V L=0)(h:fB n E L T){d:Int}(hd:ak L d):kD (T.getD (ah E (an d)).toNat []) (an d) (dA E L T d):=by
 have ht:=bI.2 hd
 obtain⟨h0,h1,h2⟩:=fU hp h ht
 obtain⟨j,hj,e1,e2,e3⟩:=Bk hp h ht
 obtain⟨i,i0,i1,ei⟩:=jG (T.getD (ah E (an d)).toNat [])
 refine u5 i0 i1 ?_
 rw[<-ei]
 refine⟨j,by rw[di];exact hj,e3,?_⟩
 have eT:(T.map aI).getD (ah E (an d)).toNat []=aI (T.getD (ah E (an d)).toNat []):=lE h1 _ _
 unfold dA cT Ot
 simp only[e1,e2,eT,di,Option.getD_some]
 congr 1
 have:((j:Int)+ -1+((T.getD (ah E (an d)).toNat []).length:Int))=((j+(T.getD (ah E (an d)).toNat []).length-1:Nat):Int):=by omega
 rw[this,<-Int.natCast_emod]
 rfl
theorem tT {n:Int}{E:List (Int×Int)}{V L:List Int}{T:List (List Int)}(hp:aS n E V L=0)(h:fB n E L T)(hs:az T){d:Int}(hd:ak L d):yK (Ot E L T) (an d)/\0<=d/\d<=1000000:=by
 have ht:=bI.2 hd
 obtain⟨h0,h1,h2⟩:=fU hp h ht
 obtain⟨j,hj,e1,e2,e3⟩:=Bk hp h ht
 obtain⟨hr,_,hL,_⟩:=aJ hp
 obtain⟨r1,r2,r3,r4⟩:=bz hr
 obtain⟨e,he,q⟩:=ck.1 hd
 have hb:=(aA.1 hL).2 e he
 refine⟨fun v hv=>?_,by omega,by omega⟩
 have hv:af (uD E L L.length) (an d)=some v:=hv
 rw[e1] at hv
 injection hv with hv
 subst hv
 have eT:(T.map aI).getD (ah E (an d)).toNat []=aI (T.getD (ah E (an d)).toNat []):=lE h1 _ _
 have hz:=hs.2 _ (aB (z:=[]).2 ⟨_,h1,rfl⟩)
 refine⟨h0,by rw[List.length_map];omega,?_,?_,?_⟩
 .rw[eT,di];exact hz
 .show 0<=(af (lB T T.length) (an d)).getD 0
  rw[e2];exact Int.natCast_nonneg _
 show(af (lB T T.length) (an d)).getD 0<_
 rw[e2,eT,di]
 show(j:Int)<_
 omega
theorem dJ {n:Int}{E:List (Int×Int)}{V L:List Int}{T:List (List Int)}(hp:aS n E V L=0)(h:fB n E L T){d:Int}(hd:ak L d):ak L (dA E L T d)/\ah E (dA E L T d)=ah E (an d):=by
 obtain⟨h0,h1,h2⟩:=fU hp h (bI.2 hd)
 have:=(h.mem _ h1 _).1 (Oq (ia hp h hd))
 exact⟨this.1,by omega⟩
theorem jY {n:Int}{E:List (Int×Int)}{V L:List Int}{T:List (List Int)}(hp:aS n E V L=0)(h:fB n E L T){d e:Int}(hd:ak L d)(he:ak L e)(q:dA E L T d=dA E L T e):d=e:=by
 have p1:=ia hp h hd
 have p2:=ia hp h he
 have t1:=(dJ hp h hd).2
 have t2:=(dJ hp h he).2
 rw[q] at t1 p1
 rw[<-t1,t2] at p1
 have:=pred_inj (h.nd _ (fU hp h (bI.2 he)).2.1) p1 p2
 rw[<-jX d,this,jX]
def sK (V:List Int)(T:List (List Int)):Nat->List (Int×List Int)
 |0=>[]
 |k+1=>if(T.getD (V.getD (V.length-1-k) 0).toNat []).length=0 then sK V T k++[(-1-V.getD (V.length-1-k) 0,[])] else sK V T k
theorem wT (V:List Int)(T:List (List Int)):∀k,(sK V T k).length<=k
 |0=>Nat.le_refl _
 |k+1=>by
  have:=wT V T k
  unfold sK
  split
  .rw[List.length_append];simp;omega
  omega
def jl (r:Option oG):Nat->List (Int×Int)->Int->List Int->List (Int×Int)×List Int
 |0,m,_,acc=>(m,acc)
 |k+1,m,x,acc=>if(af (xJ m x) (cT r (an x) (-1)).1).isSome=true then jl r k (xJ m x) (cT r (an x) (-1)).1 (acc++[x]) else(xJ m x,acc++[x])
def jv (r:Option oG)(s:List (Int×Int)×List (Int×List Int))(d:Int):List (Int×Int)×List (Int×List Int):=
 if(af s.1 d).isSome=true then((jl r s.1.length s.1 d []).1,s.2++[(d,(jl r s.1.length s.1 d []).2)]) else s
def Ou (ds:List Int):Nat->List (Int×Int)
 |0=>[]
 |k+1=>b9 (Ou ds k) (ds.getD k 0) (ds.getD k 0)
def dK (r:Option oG)(ds:List Int)(out:List (Int×List Int)):Nat->List (Int×Int)×List (Int×List Int)
 |0=>(Ou ds ds.length,out)
 |k+1=>jv r (dK r ds out k) (ds.getD k 0)
def aa (n:Int)(E:List (Int×Int))(V L:List Int)(T:List (List Int)):List (Int×List Int)×Int:=
 if(eD n E V L T).2≠0 then([],(eD n E V L T).2) else((dK (eD n E V L T).1 (b8 L L.length) (sK V T V.length) (b8 L L.length).length).2,0)
theorem UE (ds:List Int):∀k,KN (Ou ds k)
 |0=>yM
 |k+1=>Bg (UE ds k) _ _
theorem wU {ds:List Int}:∀ {k:Nat},k<=ds.length->∀x,(af (Ou ds k) x).isSome=true↔x∈ds.take k
 |0,_,x=>by simp[Ou];rfl
 |k+1,h,x=>by
  show(af (b9 (Ou ds k) (ds.getD k 0) (ds.getD k 0)) x).isSome=true↔_
  rw[bK,bU (by omega) 0,List.mem_append,List.mem_singleton]
  split
  .rename_i e;exact⟨fun _=>.inr e.symm,fun _=>rfl⟩
  rename_i e
  rw[wU (k:=k) (by omega)]
  exact⟨.inl,fun q=>q.elim id fun q=>(e q.symm).elim⟩
theorem CT (ds:List Int):∀k,(Ou ds k).length<=k
 |0=>Nat.le_refl _
 |k+1=>by
  have:=CT ds k
  have:=cQ (Ou ds k) (ds.getD k 0) (ds.getD k 0)
  show(b9 _ _ _).length<=_
  omega
theorem ES {V:List Int}{T:List (List Int)}{i:Int}(h0:0<=i)(h1:i<(V.length:Int)):sK V T (V.length-(i-1+1).toNat)=if(T.getD (V.getD i.toNat 0).toNat []).length=0 then sK V T (V.length-(i+1).toNat)++[(-1-V.getD i.toNat 0,[])] else sK V T (V.length-(i+1).toNat):=by
 rw[show V.length-(i-1+1).toNat=(V.length-(i+1).toNat)+1 by omega]
 show(if(T.getD (V.getD (V.length-1-(V.length-(i+1).toNat)) 0).toNat []).length=0 then _ else _)=_
 rw[show V.length-1-(V.length-(i+1).toNat)=i.toNat by omega]
theorem R6 {r:Option oG}{m:List (Int×Int)}{x:Int}{acc:List Int}{R:List (Int×Int)×List Int}(hk:KN m)(hs:(af m x).isSome=true)(ho:jl r m.length m x acc=R):
  ((af (xJ m x) (cT r (an x) (-1)).1).isSome=true/\(af (xJ m x) (cT r (an x) (-1)).1).isSome=true/\jl r (xJ m x).length (xJ m x) (cT r (an x) (-1)).1 (acc++[x])=R)\/((af (xJ m x) (cT r (an x) (-1)).1).isSome=false/\(xJ m x,acc++[x])=R):=by
 have e:=Bh hk hs
 rw[<-e] at ho
 unfold jl at ho
 split at ho
 .rename_i q;exact .inl ⟨q,q,ho⟩
 rename_i q;exact .inr ⟨by simpa using q,ho⟩
theorem wV {L:List Int}{m:List (Int×Int)}(h:∀y,(af m y).isSome=true->ak L y)(x:Int):∀y,(af (xJ m x) y).isSome=true->ak L y:=fun y hy=>by
 rw[xK] at hy
 split at hy
 .cases hy
 exact h y hy
def yP (L:List Int)(r:Option oG)(ds:List Int)(out:List (Int×List Int))(k:Nat)(m2:List (Int×Int))(o2:List (Int×List Int)):Prop:=
 m2=(dK r ds out k).1/\o2=(dK r ds out k).2/\KN m2/\(∀y,(af m2 y).isSome=true->ak L y)/\o2.length<=out.length+k
theorem R7 {L:List Int}{r:Option oG}{ds:List Int}{out:List (Int×List Int)}{k:Nat}{m2:List (Int×Int)}{o2:List (Int×List Int)}(h:(af (dK r ds out k).1 (ds.getD k 0)).isSome=false)(hI:yP L r ds out k m2 o2):yP L r ds out (k+1) m2 o2:=by
 obtain⟨h1,h2,h3,h4,h5⟩:=hI
 have e:dK r ds out (k+1)=dK r ds out k:=by
  show jv r (dK r ds out k) (ds.getD k 0)=_
  unfold jv;rw[if_neg (by rw[h];simp)]
 exact⟨by rw[e];exact h1,by rw[e];exact h2,h3,h4,by omega⟩
theorem Ov {L:List Int}{r:Option oG}{ds:List Int}{out:List (Int×List Int)}{k:Nat}{m2 mm:List (Int×Int)}{o2:List (Int×List Int)}{acc:List Int}(hk:k<ds.length)(h:(af (dK r ds out k).1 (ds.getD k 0)).isSome=true)
  (hR:(mm,acc)=jl r (dK r ds out k).1.length (dK r ds out k).1 (ds.getD k 0) []) (kk:KN mm) (kd:∀y,(af mm y).isSome=true->ak L y) (hI:yP L r ds out k m2 o2):yP L r ds out (k+1) mm (o2++[(ds.getD k 0,acc)]):=by
 obtain⟨h1,h2,h3,h4,h5⟩:=hI
 have e:dK r ds out (k+1)=(mm,(dK r ds out k).2++[(ds.getD k 0,acc)]):=by
  show jv r (dK r ds out k) (ds.getD k 0)=_
  unfold jv;rw[if_pos h,<-hR]
 exact⟨by rw[e],by rw[e,h2],kk,kd,by rw[List.length_append];simp;omega⟩
theorem Ow {L:List Int}{m:List (Int×Int)}(h:KN m)(hd:∀y,(af m y).isSome=true->ak L y):m.length<=(b8 L L.length).length:=by
 have:=h.length_le_of_subset (l₂:=b8 L L.length) fun x hx=>(aN x).2 (hd x (mem_keys.1 hx))
 rwa[List.length_map] at this
theorem nA {n:Int}{E:List (Int×Int)}{V L:List Int}{T:List (List Int)}(h:(eD n E V L T).2=0):aa n E V L T=((dK (eD n E V L T).1 (b8 L L.length) (sK V T V.length) (b8 L L.length).length).2,0):=by
 unfold aa;rw[if_neg (by rw[h];exact fun q=>q rfl)]
end Go.Proofs.YtnfdimfepbbbpaaGreat
namespace Go.Proofs.YtnfdimfepbbbpaaGreat
open Go.RowKit
open Go.Proofs.YtnfdimfepbbbpaaGreat.Deep
attribute [local instance 10] Classical.propDecidable
section
variable {E:List (Int×Int)}{M:List (Int×List Int)}{V L:List Int}{a shut:Int}{n:Int}
theorem yQ {Q:Int->Prop}{v:Int}:∀ {l:List Int} {s:List (Int×Int)×List Int},(∀d∈l,bM E d≠shut->Q (bM E d))->(∀x,(af s.1 x).isSome=true->Q x)->(∀x∈s.2,Q x)->
  (∀x,(af (l.foldl (eC E v shut) s).1 x).isSome=true->Q x)/\∀x∈(l.foldl (eC E v shut) s).2,Q x
 |[],s,_,h1,h2=>⟨h1,h2⟩
 |d::l,s,hd,h1,h2=>by
  rw[List.foldl_cons]
  refine yQ (fun e he=>hd e (List.mem_cons_of_mem _ he)) (fun x hx=>?_) fun x hx=>?_
  .unfold eC at hx
   split at hx
   .exact h1 x hx
   rename_i hn
   have hx:(af (b9 s.1 (bM E d) _) x).isSome=true:=hx
   rw[bK] at hx
   split at hx
   .rename_i e;rw[<-e];exact hd d List.mem_cons_self fun e=>hn (.inr e)
   exact h1 x hx
  unfold eC at hx
  split at hx
  .exact h2 x hx
  rename_i hn
  rcases List.mem_append.1 hx with hx|hx
  .exact h2 x hx
  rw[List.mem_singleton.1 hx];exact hd d List.mem_cons_self fun e=>hn (.inr e)
theorem IU {Q:Int->Prop}(hQ:∀v,Q v->∀d∈(af M v).getD [],bM E d≠shut->Q (bM E d)):∀(f:Nat) (v:Int) (m:List (Int×Int)) (q:List Int),Q v->(∀x,(af m x).isSome=true->Q x)->(∀x∈q,Q x)->∀x,(af (uY E M shut f v (m,q)) x).isSome=true->Q x
 |0,v,m,q,_,h1,_,x,hx=>h1 x hx
 |f+1,v,m,q,hv,h1,h2,x,hx=>by
  obtain⟨k1,k2⟩:=yQ (Q:=Q) (v:=v) (s:=(m,q)) (hQ v hv) h1 h2
  have bY:uY E M shut (f+1) v (m,q)=(match(fA E M v shut (m,q)).2 with
   |[]=>(fA E M v shut (m,q)).1
   |x::t=>uY E M shut f x ((fA E M v shut (m,q)).1,t)):=rfl
  rw[bY] at hx
  have k1:∀x,(af (fA E M v shut (m,q)).1 x).isSome=true->Q x:=k1
  have k2:∀x∈(fA E M v shut (m,q)).2,Q x:=k2
  generalize fA E M v shut (m,q)=s at*
  obtain⟨m',q'⟩:=s
  cases q' with
  |nil=>exact k1 x hx
  |cons y t=>exact IU hQ f y m' t (k2 y List.mem_cons_self) k1 (fun z hz=>k2 z (List.mem_cons_of_mem _ hz)) x hx
def Cn (E:List (Int×Int))(L:List Int)(x y:Int):Prop:=(grE E L).iC (· ≠-1) x y
theorem u6 (hp:aS n E V L=0)(ha:a≠-1){x:Int}:(af (dI E (bW E L) a (-1)) x).isSome=true↔Cn E L a x:=by
 refine⟨fun h=>?_,KW hp⟩
 have hdk:=EC (E:=E) (aJ hp).2.2.1
 refine IU (Q:=fun x=>Cn E L a x) (fun v hv d hd hs=>?_) _ a [(a,0)] [] (.refl ha) (fun x hx=>?_) (fun x hx=>by cases hx) x h
 .rw[qZ] at hd
  obtain⟨h1,h2⟩:=hdk.mem v d hd
  exact .step hv ⟨_,h1,h2⟩ hs
 cases hl:af [(a,(0:Int))] x with
 |none=>rw[hl] at hx;cases hx
 |some z=>
  have:=List.mem_singleton.1 (mw hl)
  cases this
  exact .refl ha
noncomputable def bJ (E:List (Int×Int)) (L:List Int):List Int->List Int:=fun V=>V.foldl (fun r v=>if ∃a∈r,Cn E L a v then r else r++[v]) []
theorem Bl (V:List Int)(v:Int):bJ E L (V++[v])=if ∃a∈bJ E L V,Cn E L a v then bJ E L V else bJ E L V++[v]:=by
 unfold bJ;rw[List.foldl_append];rfl
theorem wW {P:List Int->Prop}(h0:P [])(h1:∀l x,P l->P (l++[x])):∀l,P l:=fun l=>by
 have key:∀l:List Int,P l.reverse:=by
  intro l
  induction l with
  |nil=>exact h0
  |cons x l ih=>rw[List.reverse_cons];exact h1 _ _ ih
 have:=key l.reverse
 rwa[List.reverse_reverse] at this
theorem tU:∀V:List Int,(∀v∈V,v≠-1)->(∀a∈bJ E L V,a∈V)/\(∀v∈V,∃a∈bJ E L V,Cn E L a v)/\(bJ E L V).Nodup/\∀a∈bJ E L V,∀b∈bJ E L V,Cn E L a b->a=b:=by
 refine wW (fun _=>⟨fun a h=>(by cases h),fun a h=>(by cases h),List.nodup_nil,fun a h=>(by cases h)⟩) fun V v ih hV=>?_
 obtain⟨h1,h2,h3,h4⟩:=ih fun x hx=>hV x (List.mem_append_left _ hx)
 have hv:=hV v (List.mem_append_right _ (List.mem_singleton.2 rfl))
 rw[Bl]
 split
 .rename_i q
  refine⟨fun a ha=>List.mem_append_left _ (h1 a ha),fun x hx=>?_,h3,h4⟩
  rcases List.mem_append.1 hx with hx|hx
  .exact h2 x hx
  rw[List.mem_singleton.1 hx];exact q
 rename_i q
 refine⟨fun a ha=>?_,fun x hx=>?_,?_,fun a ha b hb j9=>?_⟩
 .rcases List.mem_append.1 ha with ha|ha
  .exact List.mem_append_left _ (h1 a ha)
  exact List.mem_append_right _ ha
 .rcases List.mem_append.1 hx with hx|hx
  .obtain⟨a,ha,hc⟩:=h2 x hx
   exact⟨a,List.mem_append_left _ ha,hc⟩
  rw[List.mem_singleton.1 hx];exact⟨v,List.mem_append_right _ (List.mem_singleton.2 rfl),.refl hv⟩
 .rw[List.nodup_append]
  exact⟨h3,by simp,fun x hx y hy e=>by subst e;rw[List.mem_singleton.1 hy] at hx;exact q ⟨v,hx,.refl hv⟩⟩
 rcases List.mem_append.1 ha with ha|ha<;>rcases List.mem_append.1 hb with hb|hb
 .exact h4 a ha b hb j9
 .rw[List.mem_singleton.1 hb] at j9;exact(q ⟨a,ha,j9⟩).elim
 .rw[List.mem_singleton.1 ha] at j9;exact(q ⟨b,hb,Gr.iC.symm j9⟩).elim
 rw[List.mem_singleton.1 ha,List.mem_singleton.1 hb]
noncomputable def fV (E:List (Int×Int)) (L V:List Int) (a:Int):List Int:=V.filter fun v=>decide (Cn E L a v)
noncomputable def G5 (E:List (Int×Int)) (L:List Int) (a:Int):List Int:=L.filter fun e=>decide (Cn E L a (eA E e))
theorem lF {v:Int}:v∈fV E L V a↔v∈V/\Cn E L a v:=by unfold fV;rw[List.mem_filter];simp
theorem yR {α:Type}{r:List α}{f g:α->List Int×List Int}{i:Nat}(hi:i<r.length)(z:α)(h:∀j,j<r.length->j≠i->f (r.getD j z)=g (r.getD j z)):(r.map f).set i (g (r.getD i z))=r.map g:=by
 apply List.ext_getElem?
 intro j
 rw[List.getElem?_set]
 by_cases e:i=j
 .subst e
  rw[if_pos rfl,List.length_map,if_pos hi,List.getElem?_map,List.getD_eq_getElem?_getD,List.getElem?_eq_getElem hi];rfl
 rw[if_neg e,List.getElem?_map,List.getElem?_map]
 by_cases hj:j<r.length
 .have:=h j hj fun q=>e q.symm
  rw[List.getD_eq_getElem?_getD,List.getElem?_eq_getElem hj] at this
  rw[List.getElem?_eq_getElem hj]
  exact congrArg some this
 rw[List.getElem?_eq_none (by omega)];rfl
theorem qn {α:Type}{r:List α}{f:α->List Int×List Int}{i:Nat}(hi:i<r.length)(z:α):(r.map f).getD i ([],[])=f (r.getD i z):=lE hi z _
theorem Zk (hp:aS n E V L=0):∀W:List Int,(∀v∈W,v≠-1)->
  (W.foldl (fK E (bW E L)) ([],[])).2=(bJ E L W).map (fun a=>(fV E L W a,[]))/\
  (∀x,(∀i,i<(bJ E L W).length->Cn E L ((bJ E L W).getD i 0) x->af (W.foldl (fK E (bW E L)) ([],[])).1 x=some (i:Int))/\((¬ ∃a∈bJ E L W,Cn E L a x)->af (W.foldl (fK E (bW E L)) ([],[])).1 x=none)):=by
 refine wW (fun _=>⟨rfl,fun x=>⟨fun i hi=>by simp[bJ] at hi,fun _=>rfl⟩⟩) fun W v ih hW=>?_
 have VU:∀x∈W,x≠-1:=fun x hx=>hW x (List.mem_append_left _ hx)
 obtain⟨h1,h2⟩:=ih VU
 have hv:=hW v (List.mem_append_right _ (List.mem_singleton.2 rfl))
 obtain⟨r1,r2,r3,r4⟩:=tU (E:=E) (L:=L) W VU
 rw[List.foldl_append]
 show(fK E (bW E L) (W.foldl (fK E (bW E L)) ([],[])) v).2=_/\∀x,(∀i,i<_->_->af (fK E (bW E L) (W.foldl (fK E (bW E L)) ([],[])) v).1 x=_)/\(_->af (fK E (bW E L) (W.foldl (fK E (bW E L)) ([],[])) v).1 x=none)
 generalize W.foldl (fK E (bW E L)) ([],[])=s at*
 obtain⟨pm,out⟩:=s
 dsimp only at h1 h2
 subst h1
 rw[Bl]
 have CU:∀a,fV E L (W++[v]) a=if Cn E L a v then fV E L W a++[v] else fV E L W a:=fun a=>by
  unfold fV
  rw[List.filter_append]
  split
  .rename_i q;rw[List.filter_cons_of_pos (by simpa using q)];rfl
  rename_i q;rw[List.filter_cons_of_neg (by simpa using q)];simp
 by_cases hc:∃a∈bJ E L W,Cn E L a v
 .rw[if_pos hc]
  obtain⟨a,ha,hav⟩:=hc
  obtain⟨i,hi,rfl⟩:=aB (z:=0).1 ha
  have zV:=(h2 v).1 i hi hav
  have e:fK E (bW E L) (pm,(bJ E L W).map fun a=>(fV E L W a,[])) v=(pm,EI ((bJ E L W).map fun a=>(fV E L W a,[])) (i:Int) v):=by
   unfold fK;dsimp only;rw[if_pos (by rw[zV];rfl),zV];rfl
  rw[e]
  refine⟨?_,h2⟩
  show((bJ E L W).map fun a=>(fV E L W a,[])).set (i:Int).toNat _=_
  rw[Int.toNat_natCast,qn hi 0]
  have:(fV E L W ((bJ E L W).getD i 0)++[v],([]:List Int))=(fun a=>(fV E L (W++[v]) a,([]:List Int))) ((bJ E L W).getD i 0):=by
   show _=(fV E L (W++[v]) _,[])
   rw[CU,if_pos hav]
  show((bJ E L W).map fun a=>(fV E L W a,[])).set i (fV E L W ((bJ E L W).getD i 0)++[v],[])=_
  rw[this]
  refine yR (f:=fun a=>(fV E L W a,[])) (g:=fun a=>(fV E L (W++[v]) a,[])) hi 0 fun j hj cO=>?_
  rw[CU,if_neg]
  intro q
  have:=r4 _ (aB.2 ⟨j,hj,rfl⟩) _ ha ((Gr.iC.trans q (Gr.iC.symm hav)))
  exact cO (dW r3 hj hi this)
 rw[if_neg hc]
 have zV:=(h2 v).2 hc
 have e:fK E (bW E L) (pm,(bJ E L W).map fun a=>(fV E L W a,[])) v=(oE pm (dI E (bW E L) v (-1)) ((bJ E L W).length:Int),EI (((bJ E L W).map fun a=>(fV E L W a,[]))++[([],[])]) ((bJ E L W).length:Int) v):=by
  unfold fK;dsimp only;rw[if_neg (by rw[zV];decide),List.length_map]
 rw[e]
 have lZ:∀x,af (oE pm (dI E (bW E L) v (-1)) ((bJ E L W).length:Int)) x=if(af (dI E (bW E L) v (-1)) x).isSome=true then some ((bJ E L W).length:Int) else af pm x:=fun x=>tP
 refine⟨?_,fun x=>⟨fun i hi hx=>?_,fun hx=>?_⟩⟩
 .have ye:∀a∈bJ E L W,fV E L (W++[v]) a=fV E L W a:=fun a ha=>by rw[CU,if_neg fun q=>hc ⟨a,ha,q⟩]
  have uH:fV E L W v=[]:=by
   unfold fV
   rw[List.filter_eq_nil_iff]
   intro x hx q
   have q:Cn E L v x:=by simpa using q
   obtain⟨a,ha,Zl⟩:=r2 x hx
   exact hc ⟨a,ha,Gr.iC.trans Zl (Gr.iC.symm q)⟩
  show(((bJ E L W).map fun a=>(fV E L W a,[]))++[([],[])]).set ((bJ E L W).length:Int).toNat _=_
  rw[Int.toNat_natCast]
  have hlen:((bJ E L W).map fun a=>(fV E L W a,([]:List Int))).length=(bJ E L W).length:=List.length_map ..
  have eg:(((bJ E L W).map fun a=>(fV E L W a,([]:List Int)))++[([],[])]).getD (bJ E L W).length ([],[])=([],[]):=by
   rw[List.getD_eq_getElem?_getD,List.getElem?_append_right (by omega),hlen,Nat.sub_self];rfl
  rw[eg,List.set_append_right _ _ (by omega),hlen,Nat.sub_self,List.map_append]
  congr 1
  .exact List.map_congr_left fun a ha=>by rw[ye a ha]
  show[(([]:List Int)++[v],([]:List Int))]=[(fV E L (W++[v]) v,[])]
  rw[CU,if_pos (.refl hv),uH]
 .rw[lZ]
  rw[List.length_append] at hi
  by_cases q:i<(bJ E L W).length
  .have eg:(bJ E L W++[v]).getD i 0=(bJ E L W).getD i 0:=N9 q
   rw[eg] at hx
   rw[if_neg,(h2 x).1 i q hx]
   intro z
   exact hc ⟨_,aB.2 ⟨i,q,rfl⟩,Gr.iC.trans hx (Gr.iC.symm ((u6 hp hv).1 z))⟩
  have zM:i=(bJ E L W).length:=by simp at hi;omega
  subst zM
  have eg:(bJ E L W++[v]).getD (bJ E L W).length 0=v:=by
   rw[List.getD_eq_getElem?_getD,List.getElem?_append_right (Nat.le_refl _),Nat.sub_self];rfl
  rw[eg] at hx
  rw[if_pos ((u6 hp hv).2 hx)]
 rw[lZ,if_neg,(h2 x).2]
 .rintro⟨a,ha,q⟩;exact hx ⟨a,List.mem_append_left _ ha,q⟩
 intro z;exact hx ⟨v,List.mem_append_right _ (List.mem_singleton.2 rfl),(u6 hp hv).1 z⟩
noncomputable def mH (E:List (Int×Int)) (V L:List Int):mW:=(bJ E L V).map fun a=>(fV E L V a,G5 E L a)
theorem nB {V:List Int}(h:cH V n):∀v∈V,v≠-1:=fun v hv=>by have:=(aA.1 h).2 v hv;omega
theorem rA (hp:aS n E V L=0):oF E V L=mH E V L:=by
 obtain⟨hr,hV,hL,fq⟩:=aJ hp
 have hV1:=nB hV
 obtain⟨h1,h2⟩:=Zk hp V hV1
 obtain⟨r1,r2,r3,r4⟩:=tU (E:=E) (L:=L) V hV1
 unfold oF
 generalize V.foldl (fK E (bW E L)) ([],[])=s at*
 obtain⟨pm,out⟩:=s
 dsimp only at h1 h2 ⊢
 subst h1
 have key:∀W:List Int,(∀e∈W,e∈L)->W.foldl (yI E pm) ((bJ E L V).map fun a=>(fV E L V a,[]))=(bJ E L V).map fun a=>(fV E L V a,W.filter fun e=>decide (Cn E L a (eA E e))):=by
  refine wW (fun _=>rfl) fun W e ih hW=>?_
  rw[List.foldl_append,ih fun x hx=>hW x (List.mem_append_left _ hx)]
  show yI E pm _ e=_
  have he:=hW e (List.mem_append_right _ (List.mem_singleton.2 rfl))
  obtain⟨j,hj,rfl⟩:=gm.1 he
  obtain⟨ka,kb⟩:=uZ (j:=(j:Int)) hp (by omega) (by omega)
  rw[Int.toNat_natCast] at ka
  have ka:eA E (L.getD j 0)∈V:=ka
  generalize L.getD j 0=e at*
  obtain⟨a,ha,Zl⟩:=r2 _ ka
  obtain⟨i,hi,rfl⟩:=aB (z:=0).1 ha
  have zV:=(h2 (eA E e)).1 i hi Zl
  have ee:yI E pm ((bJ E L V).map fun a=>(fV E L V a,W.filter fun e=>decide (Cn E L a (eA E e)))) e=Oc ((bJ E L V).map fun a=>(fV E L V a,W.filter fun e=>decide (Cn E L a (eA E e)))) (i:Int) e:=by
   unfold yI
   rw[show(E.getD e.toNat (0,0)).1=eA E e from rfl,zV];rfl
  rw[ee]
  unfold Oc
  rw[Int.toNat_natCast,qn hi 0]
  have hf:∀a,(W++[e]).filter (fun e=>decide (Cn E L a (eA E e)))=if Cn E L a (eA E e) then W.filter (fun e=>decide (Cn E L a (eA E e)))++[e] else W.filter (fun e=>decide (Cn E L a (eA E e))):=fun a=>by
   rw[List.filter_append]
   split
   .rename_i q;rw[List.filter_cons_of_pos (by simpa using q)];rfl
   rename_i q;rw[List.filter_cons_of_neg (by simpa using q)];simp
  have:=yR (f:=fun a=>(fV E L V a,W.filter fun e=>decide (Cn E L a (eA E e)))) (g:=fun a=>(fV E L V a,(W++[e]).filter fun e=>decide (Cn E L a (eA E e)))) hi 0 fun j hj cO=>by
   rw[hf,if_neg]
   intro q
   have:=r4 _ (aB.2 ⟨j,hj,rfl⟩) _ ha ((Gr.iC.trans q (Gr.iC.symm Zl)))
   exact cO (dW r3 hj hi this)
  rw[<-this]
  dsimp only
  rw[hf,if_pos Zl]
 exact key L fun _ h=>h
end
end Go.Proofs.YtnfdimfepbbbpaaGreat
namespace Go.Proofs.YtnfdimfepbbbpaaGreat
open Go.RowKit
open Go.Proofs.YtnfdimfepbbbpaaGreat.Deep
def qo (m:List (Int×Int))(vs:List Int)(c:Int):Nat->List (Int×Int)
 |0=>m
 |k+1=>b9 (qo m vs c k) (vs.getD k 0) c
def u7 (P:mW):Nat->List (Int×Int)
 |0=>[]
 |k+1=>qo (u7 P k) (P.getD k ([],[])).1 (k:Int) (P.getD k ([],[])).1.length
theorem lG {m:List (Int×Int)}{vs:List Int}{c i:Int}(h:0<=i):qo m vs c (i+1).toNat=b9 (qo m vs c i.toNat) (vs.getD i.toNat 0) c:=by
 rw[show(i+1).toNat=i.toNat+1 by omega];rfl
theorem ET {P:mW}{i:Int}(h:0<=i):u7 P (i+1).toNat=qo (u7 P i.toNat) (P.getD i.toNat ([],[])).1 i (P.getD i.toNat ([],[])).1.length:=by
 rw[show(i+1).toNat=i.toNat+1 by omega]
 show qo _ _ ((i.toNat:Nat):Int) _=_
 rw[Int.toNat_of_nonneg h]
theorem ic {m:List (Int×Int)}{vs:List Int}{c:Int}:∀k,(qo m vs c k).length<=m.length+k
 |0=>Nat.le_refl _
 |k+1=>by
  have h:=ic (m:=m) (vs:=vs) (c:=c) k
  have:=cQ (qo m vs c k) (vs.getD k 0) c
  show(b9 _ _ _).length<=_
  omega
theorem mI {P:mW}{N:Nat}(hP:∀k,(P.getD k ([],[])).1.length<=N):∀k,(u7 P k).length<=k*N
 |0=>by simp[u7]
 |k+1=>by
  have h:=mI hP k
  have h1:=ic (m:=u7 P k) (vs:=(P.getD k ([],[])).1) (c:=(k:Int)) (P.getD k ([],[])).1.length
  have h2:=hP k
  show(qo _ _ _ _).length<=_
  rw[Nat.succ_mul];omega
theorem lH {m:List (Int×Int)}{vs:List Int}{c:Int}:∀ {k:Nat},k<=vs.length->∀x,af (qo m vs c k) x=if x∈vs.take k then some c else af m x
 |0,_,x=>by simp[qo]
 |k+1,h,x=>by
  show af (b9 (qo m vs c k) (vs.getD k 0) c) x=_
  rw[bK,lH (k:=k) (by omega),bU (by omega) 0]
  by_cases q:vs.getD k 0=x
  .rw[if_pos q,if_pos (List.mem_append_right _ (by simp only[List.mem_singleton];exact q.symm))]
  rw[if_neg q]
  by_cases z:x∈vs.take k
  .rw[if_pos z,if_pos (List.mem_append_left _ z)]
  rw[if_neg z,if_neg]
  intro y
  rcases List.mem_append.1 y with y|y
  .exact z y
  exact q (List.mem_singleton.1 y).symm
structure Bm (E:List (Int×Int))(V L:List Int)(P:mW):Prop where
 len:P.length<=V.length
 bd:∀k,(P.getD k ([],[])).1.length<=V.length/\(P.getD k ([],[])).2.length<=L.length
 sub:∀k,∀v∈(P.getD k ([],[])).1,v∈V
 LO:∀v∈V,∃i,i<P.length/\v∈(P.getD i ([],[])).1
 uq:∀i j,i<P.length->j<P.length->∀v,v∈(P.getD i ([],[])).1->v∈(P.getD j ([],[])).1->i=j
theorem EU {E:List (Int×Int)}{V L:List Int}{P:mW}(h:Bm E V L P):∀ {k:Nat},k<=P.length->∀i,i<k->∀x∈(P.getD i ([],[])).1,af (u7 P k) x=some (i:Int)
 |k+1,hk,i,hi,x,hx=>by
  show af (qo (u7 P k) (P.getD k ([],[])).1 (k:Int) (P.getD k ([],[])).1.length) x=_
  rw[lH (Nat.le_refl _),List.take_length]
  by_cases q:i=k
  .subst q;rw[if_pos hx]
  rw[if_neg fun z=>q (h.uq i k (by omega) (by omega) x hx z)]
  exact EU h (k:=k) (by omega) i (by omega) x hx
theorem CV {E:List (Int×Int)}{V L:List Int}{P:mW}(h:Bm E V L P){v:Int}(hv:v∈V):∃i:Nat,i<P.length/\v∈(P.getD i ([],[])).1/\af (u7 P P.length) v=some (i:Int):=by
 obtain⟨i,hi,hx⟩:=h.LO v hv
 exact⟨i,hi,hx,EU h (Nat.le_refl _) i hi v hx⟩
theorem EV {α:Type}{l:List α}{k:Nat}{z:α}(h:l.length<=k):l.getD k z=z:=by
 rw[List.getD_eq_getElem?_getD,List.getElem?_eq_none h];rfl
theorem K0 {n:Int}{E:List (Int×Int)}{V L:List Int}(hp:aS n E V L=0):Bm E V L (oF E V L):=by
 obtain⟨hr,hV,hL,fq⟩:=aJ hp
 obtain⟨r1,r2,r3,r4⟩:=tU (E:=E) (L:=L) V (nB hV)
 rw[rA hp]
 have hlen:(mH E V L).length=(bJ E L V).length:=List.length_map ..
 have kG:∀k,k<(mH E V L).length->(mH E V L).getD k ([],[])=(fV E L V ((bJ E L V).getD k 0),G5 E L ((bJ E L V).getD k 0)):=fun k hk=>qn (by omega) 0
 refine⟨?_,fun k=>?_,fun k v hv=>?_,fun v hv=>?_,fun i j hi hj v h1 h2=>?_⟩
 .rw[hlen];exact r3.length_le_of_subset r1
 .by_cases hk:k<(mH E V L).length
  .rw[kG k hk];exact⟨List.length_filter_le _ _,List.length_filter_le _ _⟩
  rw[EV (by omega)];exact⟨Nat.zero_le _,Nat.zero_le _⟩
 .by_cases hk:k<(mH E V L).length
  .rw[kG k hk] at hv;exact(lF.1 hv).1
  rw[EV (by omega)] at hv;cases hv
 .obtain⟨a,ha,hc⟩:=r2 v hv
  obtain⟨i,hi,rfl⟩:=aB (z:=0).1 ha
  exact⟨i,by omega,by rw[kG i (by omega)];exact lF.2 ⟨hv,hc⟩⟩
 rw[kG i hi] at h1
 rw[kG j hj] at h2
 have h1:=(lF.1 h1).2
 have h2:=(lF.1 h2).2
 exact dW r3 (by omega) (by omega) (r4 _ (aB.2 ⟨i,by omega,rfl⟩) _ (aB.2 ⟨j,by omega,rfl⟩) ((Gr.iC.trans h1 (Gr.iC.symm h2))))
def ay (n:Int)(E:List (Int×Int))(V L:List Int):mW:=if aS n E V L≠0 then[] else oF E V L
theorem wY {n:Int}{E:List (Int×Int)}{V L:List Int}(hp:aS n E V L=0):ay n E V L=oF E V L:=if_neg (by rw[hp];exact fun q=>q rfl)
theorem iJ {n:Int}{E:List (Int×Int)}{V L:List Int}(hp:aS n E V L=0):Bm E V L (ay n E V L):=by rw[wY hp];exact K0 hp
def cZ (E:List (Int×Int))(w:Int×List Int):Int:=if w.2.length=0 then -1-w.1 else ah E w.1
theorem mJ {V:List Int}{T:List (List Int)}:∀ {k:Nat},k<=V.length->∀w∈sK V T k,w.2.length=0/\-1-w.1∈V
 |0,_,w,h=>by cases h
 |k+1,hk,w,h=>by
  unfold sK at h
  split at h
  .rcases List.mem_append.1 h with h|h
   .exact mJ (by omega) w h
   rw[List.mem_singleton.1 h]
   exact⟨rfl,by rw[show -1-(-1-V.getD (V.length-1-k) 0)=V.getD (V.length-1-k) 0 by omega];exact aB.2 ⟨_,by omega,rfl⟩⟩
  exact mJ (by omega) w h
theorem IV {r:Option oG}:∀ {k:Nat} {m:List (Int×Int)} {x:Int} {acc:List Int},acc.length<=(jl r k m x acc).2.length/\(0<k->acc.length<(jl r k m x acc).2.length)/\(jl r k m x acc).2.length<=acc.length+k
 |0,m,x,acc=>⟨Nat.le_refl _,fun h=>(by omega),Nat.le_refl _⟩
 |k+1,m,x,acc=>by
  unfold jl
  split
  .obtain⟨h1,_,h2⟩:=IV (r:=r) (k:=k) (m:=xJ m x) (x:=(cT r (an x) (-1)).1) (acc:=acc++[x])
   rw[List.length_append,List.length_singleton] at h1 h2
   exact⟨by omega,fun _=>by omega,by omega⟩
  simp only[List.length_append,List.length_singleton]
  omega
theorem IW {r:Option oG}{L:List Int}{ds:List Int}{out:List (Int×List Int)}(hd:∀d∈ds,ak L d):∀ {k:Nat},k<=ds.length->∀w∈(dK r ds out k).2,w∈out\/(w.2.length≠0/\ak L w.1)
 |0,_,w,h=>.inl h
 |k+1,hk,w,h=>by
  have ih:=IW (r:=r) (out:=out) hd (k:=k) (by omega)
  have h:w∈(jv r (dK r ds out k) (ds.getD k 0)).2:=h
  unfold jv at h
  split at h
  .rename_i hs
   rcases List.mem_append.1 h with h|h
   .exact ih w h
   rw[List.mem_singleton.1 h]
   refine .inr ⟨?_,hd _ (aB.2 ⟨k,by omega,rfl⟩)⟩
   have L7:0<(dK r ds out k).1.length:=by
    cases hm:(dK r ds out k).1 with
    |nil=>rw[hm] at hs;cases hs
    |cons _ _=>simp
   have:=IV (r:=r) (k:=(dK r ds out k).1.length) (m:=(dK r ds out k).1) (x:=ds.getD k 0) (acc:=[])
   have:=this.2.1 L7
   simp only[List.length_nil] at this
   show(jl r _ _ _ []).2.length≠0
   omega
  exact ih w h
theorem IX {r:Option oG}{ds:List Int}{out:List (Int×List Int)}:∀k,(dK r ds out k).2.length<=out.length+k
 |0=>Nat.le_refl _
 |k+1=>by
  have ih:=IX (r:=r) (ds:=ds) (out:=out) k
  show(jv r (dK r ds out k) (ds.getD k 0)).2.length<=_
  unfold jv
  split
  .rw[List.length_append,List.length_singleton];omega
  omega
theorem fm {n:Int}{E:List (Int×Int)}{V L:List Int}{T:List (List Int)}:(aa n E V L T).2=(eD n E V L T).2:=by
 unfold aa
 split
 .rfl
 rename_i q
 have:(eD n E V L T).2=0:=Classical.byContradiction fun z=>q z
 rw[this]
structure vX (E:List (Int×Int))(V L:List Int)(W:List (Int×List Int)):Prop where
 len:W.length<=V.length+2*L.length
 key:∀w∈W,(w.2.length=0/\-1-w.1∈V)\/(w.2.length≠0/\ak L w.1)
theorem aU {n:Int}{E:List (Int×Int)}{V L:List Int}{T:List (List Int)}(h:(aa n E V L T).2=0):aS n E V L=0/\fB n E L T/\vX E V L (aa n E V L T).1:=by
 rw[fm] at h
 obtain⟨h1,h2,h3⟩:=lD h
 refine⟨h1,h2,?_⟩
 rw[nA h]
 have hl:=wT V T V.length
 have hr:=IX (r:=(eD n E V L T).1) (ds:=b8 L L.length) (out:=sK V T V.length) (b8 L L.length).length
 have hd:=ru L L.length
 refine⟨by show(dK _ _ _ _).2.length<=_;omega,fun w hw=>?_⟩
 rcases IW (fun d hd=>(aN d).1 hd) (Nat.le_refl _) w hw with q|q
 .exact .inl (mJ (Nat.le_refl _) w q)
 exact .inr q
theorem bf {n:Int}{E:List (Int×Int)}{V L:List Int}(hp:aS n E V L=0){d:Int}(hd:ak L d):ah E d∈V/\0<=d/\d/2<(E.length:Int)/\d<=1000000:=by
 obtain⟨hr,hV,hL,fq⟩:=aJ hp
 obtain⟨r1,r2,r3,r4⟩:=bz hr
 have hb:=(aA.1 hL).2 _ hd
 obtain⟨j,hj,e⟩:=gm.1 hd
 obtain⟨ka,kb⟩:=uZ (j:=(j:Int)) hp (by omega) (by omega)
 rw[Int.toNat_natCast,e] at ka kb
 refine⟨?_,by omega,by omega,by omega⟩
 unfold ah
 split
 .exact ka
 exact kb
theorem rB {n:Int}{E:List (Int×Int)}{V L:List Int}(hp:aS n E V L=0){W:List (Int×List Int)}(h:vX E V L W){w:Int×List Int}(hw:w∈W):cZ E w∈V:=by
 unfold cZ
 rcases h.key w hw with⟨q,z⟩|⟨q,z⟩
 .rw[if_pos q];exact z
 rw[if_neg q];exact(bf hp z).1
theorem vY {n:Int}{E:List (Int×Int)}{V L:List Int}(hp:aS n E V L=0){W:List (Int×List Int)}(h:vX E V L W){w:Int×List Int}(hw:w∈W): -1024<=w.1/\w.1<=1000000:=by
 obtain⟨hr,hV,hL,fq⟩:=aJ hp
 obtain⟨r1,r2,r3,r4⟩:=bz hr
 rcases h.key w hw with⟨q,z⟩|⟨q,z⟩
 .have:=(aA.1 hV).2 _ z;omega
 have:=bf hp z;omega
def oH (E:List (Int×Int))(P:mW)(W:List (Int×List Int)):Nat->List Int
 |0=>List.replicate P.length 0
 |k+1=>(oH E P W k).set ((af (u7 P P.length) (cZ E (W.getD k (0,[])))).getD 0).toNat ((oH E P W k).getD ((af (u7 P P.length) (cZ E (W.getD k (0,[])))).getD 0).toNat 0+1)
theorem wZ {E:List (Int×Int)}{P:mW}{W:List (Int×List Int)}:∀k,(oH E P W k).length=P.length
 |0=>List.length_replicate
 |k+1=>by unfold oH;rw[List.length_set];exact wZ k
theorem Ox {E:List (Int×Int)}{P:mW}{W:List (Int×List Int)}:∀k j,0<=(oH E P W k).getD j 0/\(oH E P W k).getD j 0<=(k:Int)
 |0,j=>by
  unfold oH
  rw[List.getD_eq_getElem?_getD,List.getElem?_replicate]
  split<;>simp
 |k+1,j=>by
  have h1:=Ox (E:=E) (P:=P) (W:=W) k
  unfold oH
  rw[List.getD_eq_getElem?_getD,List.getElem?_set]
  split
  .split
   .have:=h1 ((af (u7 P P.length) (cZ E (W.getD k (0,[])))).getD 0).toNat
    simp only[Option.getD_some]
    omega
   simp only[Option.getD_none];omega
  have:=h1 j
  rw[List.getD_eq_getElem?_getD] at this
  omega
theorem Bn {E:List (Int×Int)}{P:mW}{W:List (Int×List Int)}{i:Int}(h:0<=i):oH E P W (i+1).toNat=(oH E P W i.toNat).set ((af (u7 P P.length) (cZ E (W.getD i.toNat (0,[])))).getD 0).toNat ((oH E P W i.toNat).getD ((af (u7 P P.length) (cZ E (W.getD i.toNat (0,[])))).getD 0).toNat 0+1):=by
 rw[show(i+1).toNat=i.toNat+1 by omega];rfl
def yS (P:mW)(fs:List Int):Nat->List Int
 |0=>[]
 |k+1=>yS P fs k++[Int.tdiv (2-((P.getD k ([],[])).1.length:Int)+((P.getD k ([],[])).2.length:Int)-fs.getD k 0) 2]
theorem oI {P:mW}{fs:List Int}:∀k,(yS P fs k).length=k
 |0=>rfl
 |k+1=>by unfold yS;rw[List.length_append,oI k];rfl
theorem K3 {P:mW}{fs:List Int}{i:Int}(h:0<=i):yS P fs (i+1).toNat=yS P fs i.toNat++[Int.tdiv (2-((P.getD i.toNat ([],[])).1.length:Int)+((P.getD i.toNat ([],[])).2.length:Int)-fs.getD i.toNat 0) 2]:=by
 rw[show(i+1).toNat=i.toNat+1 by omega];rfl
def cn (n:Int)(E:List (Int×Int))(V L:List Int)(T:List (List Int)):List Int×Int:=
 if(aa n E V L T).2≠0 then([],(aa n E V L T).2) else(yS (ay n E V L) (oH E (ay n E V L) (aa n E V L T).1 (aa n E V L T).1.length) (ay n E V L).length,0)
def iD (n:Int)(E:List (Int×Int))(V L:List Int)(T:List (List Int)):Int:=
 if(cn n E V L T).2≠0 then(cn n E V L T).2 else if(cn n E V L T).1.all (fun g=>decide (g=0)) then 0 else 6
theorem xb {n:Int}{E:List (Int×Int)}{V L:List Int}{T:List (List Int)}:(cn n E V L T).2=(eD n E V L T).2:=by
 unfold cn
 split
 .exact fm
 rename_i q
 rw[<-fm]
 exact(Classical.not_not.1 q).symm
theorem K5 {n:Int}{E:List (Int×Int)}{V L:List Int}{T:List (List Int)}(h:(cn n E V L T).2=0):(cn n E V L T).1.length<=V.length:=by
 rw[xb,<-fm] at h
 obtain⟨hp,_,_⟩:=aU h
 unfold cn
 rw[if_neg (by rw[h];exact fun q=>q rfl)]
 show(yS _ _ _).length<=_
 rw[oI]
 exact(iJ hp).len
theorem G6 {n:Int}{E:List (Int×Int)}{V L:List Int}{T:List (List Int)}(h:(cn n E V L T).2=0):V.length<=1024:=by
 rw[xb,<-fm] at h
 obtain⟨hp,_,_⟩:=aU h
 obtain⟨hr,hV,hL,fq⟩:=aJ hp
 obtain⟨r1,r2,r3,r4⟩:=bz hr
 have:=aO hV r1
 omega
theorem Oy {n:Int}{E:List (Int×Int)}{V L:List Int}{T:List (List Int)}{i:Int}(h:(cn n E V L T).2=0)(h0:0<=i)(h1:i<((cn n E V L T).1.length:Int))(h2:¬(cn n E V L T).1.getD i.toNat 0=0):iD n E V L T=6:=by
 unfold iD
 rw[if_neg (by rw[h];exact fun q=>q rfl),if_neg]
 intro q
 exact h2 (of_decide_eq_true (List.all_eq_true.1 q _ (aB.2 ⟨i.toNat,by omega,rfl⟩)))
theorem R8 {n:Int}{E:List (Int×Int)}{V L:List Int}{T:List (List Int)}(h:(cn n E V L T).2=0)(h1:∀j,j<(cn n E V L T).1.length->(cn n E V L T).1.getD j 0=0):iD n E V L T=0:=by
 unfold iD
 rw[if_neg (by rw[h];exact fun q=>q rfl),if_pos]
 rw[List.all_eq_true]
 intro x hx
 obtain⟨j,hj,rfl⟩:=aB (z:=0).1 hx
 exact decide_eq_true (h1 j hj)
def bP (E:List (Int×Int))(P:mW)(W:List (Int×List Int)):Nat->List (Int×Int)
 |0=>[]
 |k+1=>b9 (bP E P W k) (W.getD k (0,[])).1 ((af (u7 P P.length) (cZ E (W.getD k (0,[])))).getD 0)
theorem K6 {E:List (Int×Int)}{P:mW}{W:List (Int×List Int)}{i:Int}(h:0<=i):bP E P W (i+1).toNat=b9 (bP E P W i.toNat) (W.getD i.toNat (0,[])).1 ((af (u7 P P.length) (cZ E (W.getD i.toNat (0,[])))).getD 0):=by
 rw[show(i+1).toNat=i.toNat+1 by omega];rfl
theorem xd {E:List (Int×Int)}{P:mW}{W:List (Int×List Int)}:∀k,(bP E P W k).length<=k
 |0=>Nat.le_refl _
 |k+1=>by
  have:=xd (E:=E) (P:=P) (W:=W) k
  have:=cQ (bP E P W k) (W.getD k (0,[])).1 ((af (u7 P P.length) (cZ E (W.getD k (0,[])))).getD 0)
  show(b9 _ _ _).length<=_
  omega
theorem Zm {l m:List Int}{i:Int}(h0:0<=i)(h:¬l.getD i.toNat 0=m.getD i.toNat 0):false=decide (l=m):=(decide_eq_false fun e=>h (by rw[e])).symm
theorem VV {l m:List Int}(h:¬(l.length:Int)=(m.length:Int)):false=decide (l=m):=(decide_eq_false fun e=>h (by rw[e])).symm
theorem VW {l m:List Int}(h1:(l.length:Int)=(m.length:Int)){i:Int}(hi:(l.length:Int)<=i)(h:∀j:Nat,(j:Int)<i->l.getD j 0=m.getD j 0):true=decide (l=m):=by
 refine(decide_eq_true ?_).symm
 apply List.ext_getElem (by omega)
 intro j h2 h3
 have:=h j (by omega)
 rwa[List.getD_eq_getElem?_getD,List.getElem?_eq_getElem h2,List.getD_eq_getElem?_getD,List.getElem?_eq_getElem h3] at this
def Zn (l:List Int)(x:Int):Int:=if l.findIdx (fun y=>decide (y=x))<l.length then((l.findIdx fun y=>decide (y=x):Nat):Int) else -1
section
variable {l:List Int}{x:Int}
theorem getD_eq {α:Type}{l:List α}{j:Nat}(h:j<l.length)(d:α):l.getD j d=l[j]:=by rw[List.getD_eq_getElem?_getD,List.getElem?_eq_getElem h];rfl
theorem VX {j:Nat}(hj:j<l.length)(e:l.getD j 0=x):∃i:Nat,Zn l x=(i:Int)/\i<=j/\l.getD i 0=x:=by
 have hx:x∈l:=e▸(by rw[getD_eq hj];exact List.getElem_mem hj)
 have iL:l.findIdx (fun y=>decide (y=x))<l.length:=List.findIdx_lt_length_of_exists ⟨x,hx,by simp⟩
 refine⟨l.findIdx fun y=>decide (y=x),if_pos iL,?_,?_⟩
 .refine Nat.le_of_not_lt fun q=>?_
  have:=List.not_of_lt_findIdx q
  rw[getD_eq hj] at e
  simp[e] at this
 rw[getD_eq iL]
 have:=List.findIdx_getElem (w:=iL)
 simpa using this
def Zo (l:List Int)(a:Int):Nat->List Int
 |0=>[]
 |k+1=>Zo l a k++[l.getD ((a+(k:Int))%(l.length:Int)).toNat 0]
end
def UF (a b:List Int):Prop:=a.length=b.length/\(a.length=0\/∃i,i<b.length/\a=Zo b (i:Int) b.length)
instance (a b:List Int):Decidable (UF a b):=by unfold UF;infer_instance
def Zp (E:List (Int×Int))(T:List (List Int))(d n:Int):Int:=
 (T.getD (ah E d).toNat []).getD ((Zn (T.getD (ah E d).toNat []) d+n+((T.getD (ah E d).toNat []).length:Int))%((T.getD (ah E d).toNat []).length:Int)).toNat 0
def eF (E:List (Int×Int))(T:List (List Int))(d:Int):Int:=Zp E T (an d) (-1)
section
variable {n:Int}{E:List (Int×Int)}{V L:List Int}{T:List (List Int)}
theorem fL (hp:aS n E V L=0)(h:fB n E L T){d:Int}(hd:ak L d):eF E T d=dA E L T d:=by
 have ht:=bI.2 hd
 obtain⟨h0,h1,h2⟩:=fU hp h ht
 obtain⟨j,hj,e⟩:=aB (z:=(0:Int)).1 h2
 obtain⟨i,i1,i2,i3⟩:=VX hj e
 refine qj (h.nd _ h1) ⟨i,by omega,i3,?_⟩ (ia hp h hd)
 unfold eF Zp
 rw[i1]
 congr 1
 rw[show(i:Int)+ -1+((T.getD (ah E (an d)).toNat []).length:Int)=((i+(T.getD (ah E (an d)).toNat []).length-1:Nat):Int) by omega,<-Int.natCast_emod]
 rfl
end
def dx (f:Int->Int):Nat->Int->Int
 |0,d=>d
 |k+1,d=>f (dx f k d)
def dZ (f:Int->Int)(d:Int)(N:Nat):Nat:=((List.range N).find? fun k=>decide (dx f (k+1) d=d)).getD 0+1
def jm (f:Int->Int)(d:Int)(p:Nat):List Int:=(List.range p).map fun i=>dx f i d
section
variable {f:Int->Int}{D:List Int}{d:Int}
theorem qp (a:Nat):∀b,dx f (a+b) d=dx f b (dx f a d)
 |0=>rfl
 |b+1=>by
  show f (dx f (a+b) d)=f _
  rw[qp a b]
theorem gO (hc:∀x∈D,f x∈D)(hd:d∈D):∀k,dx f k d∈D
 |0=>hd
 |k+1=>hc _ (gO hc hd k)
theorem G7 (hc:∀x∈D,f x∈D)(hi:∀x∈D,∀y∈D,f x=f y->x=y){x y:Int}(hx:x∈D)(hy:y∈D):∀ {k:Nat},dx f k x=dx f k y->x=y
 |0,h=>h
 |k+1,h=>G7 hc hi hx hy (k:=k) (hi _ (gO hc hx k) _ (gO hc hy k) h)
theorem fM (p:Nat):(jm f d p).length=p:=by unfold jm;rw[List.length_map,List.length_range]
theorem iE {p i:Nat}(h:i<p):(jm f d p).getD i 0=dx f i d:=by
 unfold jm
 rw[lE (z:=0) (by rw[List.length_range];exact h),getD_eq (by rw[List.length_range];exact h),List.getElem_range]
theorem K7 (p:Nat):jm f d (p+1)=jm f d p++[dx f p d]:=by
 unfold jm;rw[List.range_succ,List.map_append];rfl
theorem IY (hc:∀x∈D,f x∈D)(hi:∀x∈D,∀y∈D,f x=f y->x=y)(hd:d∈D):∃k,k<D.length/\dx f (k+1) d=d:=by
 have hn:¬(jm f d (D.length+1)).Nodup:=fun hn=>by
  have:=hn.length_le_of_subset (l₂:=D) fun x hx=>by
   obtain⟨i,_,rfl⟩:=List.mem_map.1 hx
   exact gO hc hd i
  rw[fM] at this;omega
 have hx:∃a b,a<b/\b<D.length+1/\dx f a d=dx f b d:=by
  refine Classical.byContradiction fun hx=>hn ?_
  rw[List.nodup_iff_pairwise_ne,List.pairwise_iff_getElem]
  intro a b ha hb j9 e
  rw[fM] at ha hb
  rw[<-getD_eq (by rw[fM];exact ha) 0,<-getD_eq (by rw[fM];exact hb) 0,iE ha,iE hb] at e
  exact hx ⟨a,b,j9,hb,e⟩
 obtain⟨a,b,j9,hb,e⟩:=hx
 refine⟨b-a-1,by omega,?_⟩
 have e2:dx f b d=dx f a (dx f (b-a) d):=by rw[<-qp];congr 1;omega
 have:=G7 hc hi hd (gO hc hd (b-a)) (e.trans e2)
 rw[show b-a-1+1=b-a by omega];exact this.symm
theorem mR (hc:∀x∈D,f x∈D)(hi:∀x∈D,∀y∈D,f x=f y->x=y)(hd:d∈D):0<dZ f d D.length/\dZ f d D.length<=D.length/\dx f (dZ f d D.length) d=d/\∀k,0<k->k<dZ f d D.length->dx f k d≠d:=by
 obtain⟨k,hk,e⟩:=IY hc hi hd
 cases hq:(List.range D.length).find? fun k=>decide (dx f (k+1) d=d) with
 |none=>
  rw[List.find?_eq_none] at hq
  exact absurd e (by simpa using hq k (List.mem_range.2 hk))
 |some m=>
  have hm:=List.find?_range_eq_some.1 hq
  have e1:dZ f d D.length=m+1:=by unfold dZ;rw[hq];rfl
  rw[e1]
  have h1:=List.mem_range.1 hm.2.1
  refine⟨by omega,by omega,by simpa using hm.1,fun k h0 h1=>?_⟩
  have:=hm.2.2 (k-1) (by omega)
  rw[show k-1+1=k by omega] at this
  simpa using this
theorem G8 {p:Nat}(hp:dx f p d=d):∀q,dx f (p*q) d=d
 |0=>rfl
 |q+1=>by rw[Nat.mul_succ,Nat.add_comm,qp,hp,G8 hp q]
theorem G9 {p:Nat}(h0:0<p)(hp:dx f p d=d)(k:Nat):dx f k d=dx f (k%p) d:=by
 conv=>lhs;rw[<-Nat.div_add_mod k p,qp,G8 hp]
theorem sL (hc:∀x∈D,f x∈D)(hi:∀x∈D,∀y∈D,f x=f y->x=y)(hd:d∈D):(jm f d (dZ f d D.length)).Nodup:=by
 obtain⟨p0,p1,p2,p3⟩:=mR hc hi hd
 rw[List.nodup_iff_pairwise_ne,List.pairwise_iff_getElem]
 intro a b ha hb j9 e
 rw[fM] at ha hb
 rw[<-getD_eq (by rw[fM];exact ha) 0,<-getD_eq (by rw[fM];exact hb) 0,iE ha,iE hb] at e
 have e2:dx f b d=dx f a (dx f (b-a) d):=by rw[<-qp];congr 1;omega
 exact p3 (b-a) (by omega) (by omega) (G7 hc hi hd (gO hc hd (b-a)) (e.trans e2)).symm
def gP (f:Int->Int)(x y:Int):Prop:=∃k,dx f k x=y
theorem gP.refl (x:Int):gP f x x:=⟨0,rfl⟩
theorem gP.trans {x y z:Int}(h:gP f x y)(k:gP f y z):gP f x z:=by
 obtain⟨a,rfl⟩:=h
 obtain⟨b,rfl⟩:=k
 exact⟨a+b,qp a b⟩
theorem gP.symm (hc:∀x∈D,f x∈D)(hi:∀x∈D,∀y∈D,f x=f y->x=y){x y:Int}(hx:x∈D)(h:gP f x y):gP f y x:=by
 obtain⟨a,rfl⟩:=h
 obtain⟨p0,p1,p2,p3⟩:=mR hc hi hx
 refine⟨dZ f x D.length*a-a,?_⟩
 rw[<-qp]
 have:a<=dZ f x D.length*a:=Nat.le_mul_of_pos_left a p0
 rw[show a+(dZ f x D.length*a-a)=dZ f x D.length*a by omega]
 exact G8 p2 a
theorem gQ (hc:∀x∈D,f x∈D)(hi:∀x∈D,∀y∈D,f x=f y->x=y)(hd:d∈D){x:Int}:x∈jm f d (dZ f d D.length)↔gP f d x:=by
 obtain⟨p0,p1,p2,p3⟩:=mR hc hi hd
 constructor
 .intro h
  obtain⟨i,_,rfl⟩:=List.mem_map.1 h
  exact⟨i,rfl⟩
 rintro⟨k,rfl⟩
 rw[G9 p0 p2 k]
 exact List.mem_map.2 ⟨_,List.mem_range.2 (Nat.mod_lt _ p0),rfl⟩
end
def lI (f:Int->Int)(d:Int)(p:Nat):Bool:=(List.range p).all fun j=>decide (j=0)||decide (d<dx f j d)
def Bo (f:Int->Int)(ds:List Int)(N:Nat):Nat->List (Int×List Int)
 |0=>[]
 |k+1=>if lI f (ds.getD k 0) (dZ f (ds.getD k 0) N)=true then Bo f ds N k++[(ds.getD k 0,jm f (ds.getD k 0) (dZ f (ds.getD k 0) N))] else Bo f ds N k
theorem rC {f:Int->Int}{d:Int}{p:Nat}:lI f d p=true↔∀j,0<j->j<p->d<dx f j d:=by
 unfold lI
 rw[List.all_eq_true]
 constructor
 .intro h j h0 h1
  have:=h j (List.mem_range.2 h1)
  simp only[Bool.or_eq_true,decide_eq_true_eq] at this
  rcases this with q|q
  .omega
  exact q
 intro h j hj
 by_cases q:j=0
 .rw[decide_eq_true q];rfl
 rw[decide_eq_true (h j (by omega) (List.mem_range.1 hj)),Bool.or_true]
theorem CW {L:List Int}(h:EB L):∀ {k:Nat},k<=L.length->EB (b8 L k)
 |0,_=>List.Pairwise.nil
 |k+1,hk=>by
  have ht:L.take (k+1)=L.take k++[L.getD k 0]:=bU (by omega) 0
  have ha:EB (L.take (k+1)):=h.sublist (List.take_sublist _ _)
  rw[ht] at ha
  have hb:=(List.pairwise_append.1 ha).2.2
  refine List.pairwise_append.2 ⟨CW h (by omega),?_,fun a IZ b Mm=>?_⟩
  .refine List.pairwise_cons.2 ⟨fun y hy=>?_,List.pairwise_singleton _ _⟩
   rw[List.mem_singleton.1 hy];omega
  have:=hb _ ((wS (by omega) a).1 IZ) _ (List.mem_singleton.2 rfl)
  rcases List.mem_cons.1 Mm with rfl|Mm
  .omega
  rw[List.mem_singleton.1 Mm];omega
section
variable {f:Int->Int}{D:List Int}{d:Int}{r:Option oG}{m:List (Int×Int)}
theorem EW (hf:∀x∈D,(cT r (an x) (-1)).1=f x)(hc:∀x∈D,f x∈D)(hi:∀x∈D,∀y∈D,f x=f y->x=y)(hd:d∈D)(hm:∀i,i<dZ f d D.length->(af m (dx f i d)).isSome=true):
  ∀ {k i:Nat} {mi:List (Int×Int)},i<dZ f d D.length->dZ f d D.length<=i+k->(∀y,(af mi y).isSome=true↔(af m y).isSome=true/\∀j,j<i->dx f j d≠y)->
   (jl r k mi (dx f i d) (jm f d i)).2=jm f d (dZ f d D.length)/\∀y,(af (jl r k mi (dx f i d) (jm f d i)).1 y).isSome=true↔(af m y).isSome=true/\∀j,j<dZ f d D.length->dx f j d≠y
 |0,i,mi,h1,h2,_=>by omega
 |k+1,i,mi,h1,h2,hmi=>by
  obtain⟨p0,p1,p2,p3⟩:=mR hc hi hd
  have hn:=sL hc hi hd
  have hx:=gO hc hd i
  have e:(cT r (an (dx f i d)) (-1)).1=dx f (i+1) d:=hf _ hx
  have zO:∀y,(af (xJ mi (dx f i d)) y).isSome=true↔(af m y).isSome=true/\∀j,j<i+1->dx f j d≠y:=fun y=>by
   rw[xK]
   by_cases q:dx f i d=y
   .rw[if_pos q]
    exact⟨fun z=>(by cases z),fun z=>absurd q (z.2 i (Nat.lt_succ_self _))⟩
   rw[if_neg q,hmi]
   exact⟨fun z=>⟨z.1,fun j hj=>(Nat.lt_succ_iff_lt_or_eq.1 hj).elim (z.2 j) fun w=>w▸q⟩,fun z=>⟨z.1,fun j hj=>z.2 j (by omega)⟩⟩
  unfold jl
  rw[e,<-K7]
  by_cases hl:i+1<dZ f d D.length
  .have hs:(af (xJ mi (dx f i d)) (dx f (i+1) d)).isSome=true:=(zO _).2 ⟨hm _ hl,fun j hj q=>by
    have:=dW (z:=(0:Int)) hn (i:=j) (j:=i+1) (by rw[fM];omega) (by rw[fM];exact hl) (by rw[iE (by omega),iE hl];exact q)
    omega⟩
   rw[if_pos hs]
   exact EW hf hc hi hd hm hl (by omega) zO
  have ep:i+1=dZ f d D.length:=by omega
  have hs:¬(af (xJ mi (dx f i d)) (dx f (i+1) d)).isSome=true:=fun z=>((zO _).1 z).2 0 (by omega) (by rw[ep,p2];rfl)
  rw[if_neg hs,ep]
  rw[ep] at zO
  exact⟨rfl,zO⟩
theorem I1 {out:List (Int×List Int)}(ha:EB D)(hf:∀x∈D,(cT r (an x) (-1)).1=f x)(hc:∀x∈D,f x∈D)(hi:∀x∈D,∀y∈D,f x=f y->x=y):∀ {k:Nat},k<=D.length->
  (∀y,(af (dK r D out k).1 y).isSome=true↔y∈D/\∀j,j<k->¬gP f (D.getD j 0) y)/\(dK r D out k).2=out++Bo f D D.length k
 |0,_=>⟨fun y=>by
  show(af (Ou D D.length) y).isSome=true↔_
  rw[wU (Nat.le_refl _),List.take_length]
  exact⟨fun h=>⟨h,fun j hj=>by omega⟩,fun h=>h.1⟩,(List.append_nil _).symm⟩
 |k+1,hk=>by
  obtain⟨h1,h2⟩:=I1 ha hf hc hi (k:=k) (by omega)
  have hd:D.getD k 0∈D:=ag (by omega)
  obtain⟨p0,p1,p2,p3⟩:=mR hc hi hd
  have iL:∀a b,a<b->b<D.length->D.getD a 0<D.getD b 0:=fun a b j9 hb=>by
   rw[getD_eq (show a<D.length by omega),getD_eq hb]
   exact List.pairwise_iff_getElem.1 ha a b (by omega) hb j9
  show(∀y,(af (jv r (dK r D out k) (D.getD k 0)).1 y).isSome=true↔_)/\(jv r (dK r D out k) (D.getD k 0)).2=_
  unfold jv Bo
  by_cases hs:(af (dK r D out k).1 (D.getD k 0)).isSome=true
  .have ye:=((h1 _).1 hs).2
   have VY:lI f (D.getD k 0) (dZ f (D.getD k 0) D.length)=true:=rC.2 fun j j0 j1=>by
    obtain⟨q,hq,e⟩:=aB (z:=(0:Int)).1 (gO hc hd j)
    rcases Nat.lt_trichotomy q k with z|z|z
    .exact absurd (gP.symm hc hi hd ⟨j,rfl⟩) (by rw[<-e];exact ye q z)
    .subst z;exact absurd e.symm (p3 j j0 j1)
    rw[<-e];exact iL k q z hq
   have eS:∀i,i<dZ f (D.getD k 0) D.length->(af (dK r D out k).1 (dx f i (D.getD k 0))).isSome=true:=fun i zM=>(h1 _).2 ⟨gO hc hd i,fun j hj z=>ye j hj (z.trans (gP.symm hc hi hd ⟨i,rfl⟩))⟩
   have abL:dZ f (D.getD k 0) D.length<=(dK r D out k).1.length:=by
    have:=(sL hc hi hd).length_le_of_subset (l₂:=(dK r D out k).1.map (·.1)) fun x hx=>by
     obtain⟨i,zM,rfl⟩:=List.mem_map.1 hx
     exact mem_keys.2 (eS i (List.mem_range.1 zM))
    rwa[fM,List.length_map] at this
   obtain⟨o1,o2⟩:=EW hf hc hi hd eS (k:=(dK r D out k).1.length) (i:=0) p0 (by omega) (mi:=(dK r D out k).1) fun y=>⟨fun z=>⟨z,fun j hj=>by omega⟩,fun z=>z.1⟩
   have o1:(jl r (dK r D out k).1.length (dK r D out k).1 (D.getD k 0) []).2=jm f (D.getD k 0) (dZ f (D.getD k 0) D.length):=o1
   have o2:∀y,(af (jl r (dK r D out k).1.length (dK r D out k).1 (D.getD k 0) []).1 y).isSome=true↔(af (dK r D out k).1 y).isSome=true/\∀j,j<dZ f (D.getD k 0) D.length->dx f j (D.getD k 0)≠y:=o2
   rw[if_pos hs,if_pos VY,o1,h2,List.append_assoc]
   refine⟨fun y=>?_,rfl⟩
   show(af (jl r (dK r D out k).1.length (dK r D out k).1 (D.getD k 0) []).1 y).isSome=true↔_
   rw[o2,h1]
   constructor
   .rintro⟨⟨z1,z2⟩,z3⟩
    refine⟨z1,fun j hj=>?_⟩
    rcases Nat.lt_succ_iff_lt_or_eq.1 hj with w|w
    .exact z2 j w
    subst w
    rintro⟨q,rfl⟩
    exact z3 _ (Nat.mod_lt _ p0) (G9 p0 p2 q).symm
   rintro⟨z1,z2⟩
   exact⟨⟨z1,fun j hj=>z2 j (by omega)⟩,fun j hj e=>z2 k (Nat.lt_succ_self _) ⟨j,e⟩⟩
  have ye:∃j,j<k/\gP f (D.getD j 0) (D.getD k 0):=by
   refine Classical.byContradiction fun z=>hs ((h1 _).2 ⟨hd,fun j hj w=>z ⟨j,hj,w⟩⟩)
  obtain⟨j,hj,hw⟩:=ye
  have o8:D.getD j 0∈D:=ag (by omega)
  have Uy:¬lI f (D.getD k 0) (dZ f (D.getD k 0) D.length)=true:=fun z=>by
   have hb:=(gQ hc hi hd).2 (gP.symm hc hi o8 hw)
   obtain⟨i,zM,e⟩:=List.mem_map.1 hb
   have zM:=List.mem_range.1 zM
   have h3:=iL j k hj (by omega)
   by_cases q:i=0
   .subst q
    have e:D.getD k 0=D.getD j 0:=e
    omega
   have:=rC.1 z i (by omega) zM
   rw[e] at this;omega
  rw[if_neg hs,if_neg Uy]
  refine⟨fun y=>?_,h2⟩
  rw[h1]
  constructor
  .rintro⟨z1,z2⟩
   refine⟨z1,fun q hq=>?_⟩
   rcases Nat.lt_succ_iff_lt_or_eq.1 hq with w|w
   .exact z2 q w
   subst w;exact fun z=>z2 j hj (hw.trans z)
  rintro⟨z1,z2⟩
  exact⟨z1,fun q hq=>z2 q (by omega)⟩
end
theorem iW {n:Int}{E:List (Int×Int)}{V L:List Int}{T:List (List Int)}(h:(eD n E V L T).2=0):
  aa n E V L T=(sK V T V.length++Bo (eF E T) (b8 L L.length) (b8 L L.length).length (b8 L L.length).length,0):=by
 obtain⟨hp,hT,hr⟩:=lD h
 obtain⟨sj,hV,hL,_⟩:=aJ hp
 rw[nA h]
 have hD:∀x∈b8 L L.length,ak L x:=fun x hx=>(aN x).1 hx
 rw[(I1 (r:=(eD n E V L T).1) (D:=b8 L L.length) (f:=eF E T) (CW (aA.1 hL).1 (Nat.le_refl _)) (fun x hx=>by
  rw[fL hp hT (hD x hx),hr];rfl) (fun x hx=>by
  rw[fL hp hT (hD x hx)];exact(aN _).2 (dJ hp hT (hD x hx)).1) (fun x hx y hy e=>by
  rw[fL hp hT (hD x hx),fL hp hT (hD y hy)] at e;exact jY hp hT (hD x hx) (hD y hy) e) (Nat.le_refl _)).2]
section
variable {n:Int}{E:List (Int×Int)}{V L:List Int}{T:List (List Int)}
end
def aa4 (E:List (Int×Int))(V L:List Int)(T:List (List Int)):List (Int×List Int):=sK V T V.length++Bo (eF E T) (b8 L L.length) (b8 L L.length).length (b8 L L.length).length
theorem Oz {n:Int}{E:List (Int×Int)}{V L:List Int}{T:List (List Int)}(hp:aS n E V L=0)(hT:fB n E L T){d:Int}(hd:ak L d):
  0<dZ (eF E T) d (b8 L L.length).length/\dZ (eF E T) d (b8 L L.length).length<=2*L.length/\dx (eF E T) (dZ (eF E T) d (b8 L L.length).length) d=d/\(∀k,0<k->k<dZ (eF E T) d (b8 L L.length).length->dx (eF E T) k d≠d)/\∀k,ak L (dx (eF E T) k d):=by
 have hD:∀x∈b8 L L.length,ak L x:=fun x hx=>(aN x).1 hx
 have hc:∀x∈b8 L L.length,eF E T x∈b8 L L.length:=fun x hx=>by
  rw[fL hp hT (hD x hx)];exact(aN _).2 (dJ hp hT (hD x hx)).1
 have hi:∀x∈b8 L L.length,∀y∈b8 L L.length,eF E T x=eF E T y->x=y:=fun x hx y hy e=>by
  rw[fL hp hT (hD x hx),fL hp hT (hD y hy)] at e;exact jY hp hT (hD x hx) (hD y hy) e
 have LG:=(aN d).2 hd
 obtain⟨p0,p1,p2,p3⟩:=mR hc hi LG
 exact⟨p0,by rw[<-ru L L.length];exact p1,p2,p3,fun k=>hD _ (gO hc LG k)⟩
end Go.Proofs.YtnfdimfepbbbpaaGreat
namespace Go.Proofs.YtnfdimfepbbbpaaGreat
open Go.RowKit
open Go.Proofs.YtnfdimfepbbbpaaGreat.Deep
section
variable {n:Int}{E:List (Int×Int)}{V L:List Int}{a but x:Int}
def rpS (E:List (Int×Int))(V L:List Int)(s:List Int×List (List Int×List Int))(v:Int):List Int×List (List Int×List Int):=
 if v∈s.1 then s else(s.1++spread E L v (-1),s.2++[(aa1 V (spread E L v (-1)),aa2 E L (spread E L v (-1)))])
def rpF (E:List (Int×Int))(V L:List Int):Nat->List Int×List (List Int×List Int)
 |0=>([],[])
 |k+1=>rpS E V L (rpF E V L k) (V.getD k 0)
end
end Go.Proofs.YtnfdimfepbbbpaaGreat
namespace Go.Proofs.YtnfdimfepbbbpaaGreat
open Go.RowKit
open Go.Proofs.YtnfdimfepbbbpaaGreat.Deep
section
variable {n:Int}{E:List (Int×Int)}{V L:List Int}
open Classical in
end
def vZ (E:List (Int×Int))(w:Int×List Int):Int:=if w.1<0 then -1-w.1 else ah E w.1
def Bp (E:List (Int×Int))(W:List (Int×List Int))(vs:List Int):Nat->Int
 |0=>0
 |k+1=>Bp E W vs k+if vZ E (W.getD k (0,[]))∈vs then 1 else 0
def gnR (E:List (Int×Int))(P:List (List Int×List Int))(W:List (Int×List Int)):Nat->List Int
 |0=>[]
 |k+1=>gnR E P W k++[Int.tdiv (2-((P.getD k ([],[])).1.length:Int)+((P.getD k ([],[])).2.length:Int)-Bp E W (P.getD k ([],[])).1 W.length) 2]
section
variable {E:List (Int×Int)}{P:List (List Int×List Int)}{W:List (Int×List Int)}{vs:List Int}{i:Int}
end
def gnA (E:List (Int×Int))(V L:List Int)(T:List (List Int)):List Int:=gnR E (rpF E V L V.length).2 (aa4 E V L T) (rpF E V L V.length).2.length
def Zq (n:Int)(E:List (Int×Int))(V L:List Int)(T:List (List Int)):Prop:=(eD n E V L T).2=0/\∀x∈gnA E V L T,x=0
instance (n:Int) (E:List (Int×Int)) (V L:List Int) (T:List (List Int)):Decidable (Zq n E V L T):=by unfold Zq;infer_instance
end Go.Proofs.YtnfdimfepbbbpaaGreat
namespace Go.Proofs.YtnfdimfepbbbpaaGreat
open Go.RowKit
open Go.Proofs.YtnfdimfepbbbpaaGreat.Deep
section
variable {n:Int}{E:List (Int×Int)}{V L:List Int}{T:List (List Int)}{P:mW}{W:List (Int×List Int)}
theorem I2 (hp:aS n E V L=0)(hW:vX E V L W){w:Int×List Int}(hw:w∈W):vZ E w=cZ E w:=by
 obtain⟨hr,hV,hL,_⟩:=aJ hp
 unfold vZ cZ
 rcases hW.key w hw with⟨h1,h2⟩|⟨h1,h2⟩
 .have:=(aA.1 hV).2 _ h2
  rw[if_pos (by omega),if_pos h1]
 have:=(bf hp h2).2.1
 rw[if_neg (by omega),if_neg h1]
theorem I3 (hp:aS n E V L=0)(hP:Bm E V L P)(hW:vX E V L W){i:Nat}(hi:i<P.length):∀ {k:Nat},k<=W.length->(oH E P W k).getD i 0=Bp E W (P.getD i ([],[])).1 k
 |0,_=>by
  show(List.replicate P.length 0).getD i 0=0
  rw[getD_eq (by rw[List.length_replicate];exact hi),List.getElem_replicate]
 |k+1,hk=>by
  have ih:=I3 hp hP hW hi (k:=k) (by omega)
  have wq:W.getD k (0,[])∈W:=ag (by omega)
  have R9:=rB hp hW wq
  obtain⟨pi,p0,p1,p2⟩:=CV hP R9
  have he:=I2 hp hW wq
  show((oH E P W k).set ((af (u7 P P.length) (cZ E (W.getD k (0,[])))).getD 0).toNat ((oH E P W k).getD ((af (u7 P P.length) (cZ E (W.getD k (0,[])))).getD 0).toNat 0+1)).getD i 0=Bp E W _ k+if vZ E (W.getD k (0,[]))∈(P.getD i ([],[])).1 then 1 else 0
  rw[p2,he,<-ih]
  show((oH E P W k).set ((pi:Int)).toNat ((oH E P W k).getD ((pi:Int)).toNat 0+1)).getD i 0=_
  rw[Int.toNat_natCast,List.getD_eq_getElem?_getD,List.getElem?_set]
  by_cases q:pi=i
  .subst q
   rw[if_pos rfl,if_pos (by rw[wZ];exact p0),if_pos p1];rfl
  rw[if_neg q,<-List.getD_eq_getElem?_getD,if_neg fun z=>q (hP.uq pi i p0 hi _ p1 z)]
  omega
end
inductive Cp where
 |int
 |bool
 |str
 |own (j:Nat)
 |mp (j:Nat)
 |ptr (j off:Nat)
 |mA (f:FuncId) (cr:List (Nat×Nat))
def Zr:Cp->Type
 | .int=>Int
 | .bool=>Bool
 | .str=>ByteArray
 |_=>Unit
def Cp.sc:(c:Cp)->Zr c->Sc
 | .int,n=>.v (.int .i64 n)
 | .bool,b=>.b (.raw b)
 | .str,s=>.v (.string s)
 | .own j,_=>.own j
 | .mp j,_=>.mp j
 | .ptr j off,_=>.ptr j off
 | .mA f cr,_=>.mA f cr
def Cp.below (k:Nat):Cp->Bool
 | .own j=>Nat.blt j k
 | .mp j=>Nat.blt j k
 | .ptr j _=>Nat.blt j k
 | .mA _ cr=>cr.all fun c=>Nat.blt c.1 k
 |_=>true
def Ag:List Cp->Type
 |[]=>Unit
 |c::cs=>Zr c×Ag cs
def iF:(cs:List Cp)->Ag cs->List Sc
 |[],_=>[]
 |c::cs,x=>c.sc x.1::iF cs x.2
inductive Pc where
 |box (t:TypeId) (cs:List Cp)
 |row (e:TypeId) (t:Ty)
 |map (k:Kc) (t:Ty)
 |rd (t:Ty)
def Pc.Sa:Pc->Bool
 | .rd _=>true
 |_=>false
def Bq (l:List Pc)(j:Nat):Bool:=match l[j]? with
 |some s=>s.Sa
 |none=>false
def PcV:Pc->Type
 | .box _ cs=>Ag cs
 | .row _ t=>List (El t)
 | .map k t=>bh k (El t)
 | .rd t=>List (El t)
def Pc.r2:(s:Pc)->PcV s->R2
 | .box t cs,x=>.box t (iF cs x)
 | .row e t,l=>.row e t l
 | .map k t,m=>.map k t m
 | .rd t,l=>.ar t l
def Pc.below (k:Nat):Pc->Bool
 | .box _ cs=>cs.all (Cp.below k)
 |_=>true
def wu:List Pc->Type
 |[]=>Unit
 |s::l=>PcV s×wu l
def ig:Nat->(l:List Pc)->wu l->List (Nat×Option R2)
 |_,[],_=>[]
 |i,s::l,x=>(i,some (s.r2 x.1))::ig (i+1) l x.2
structure rD where
 sh:List Pc
 ar:List Cp
 qt:List Pc
 rs:List Cp
 kp:Nat
def rD.X (m:rD):Type:=wu m.sh×Ag m.ar
def rD.Y (m:rD):Type:=wu m.qt×Ag m.rs
def bC.Sb (o:bC)(A:bF)(kp:Nat):bC:={o with pF:=fun j=>j<kp,pA:=A,kp:=kp}
def K8 (o:bC)(A:bF)(m:rD)(y:m.Y)(e:Ending)(w':World):Prop:=
 ∃v,e= .returned v/\∃A' S',cR (· <m.kp) A A'/\gp (o.Sb A m.kp) w' S' (bw A' (aQ (fun _=>none) (ig 0 m.qt y.1)))/\v=GO ((iF m.rs y.2).map (Sc.den A'))
def eO (P:Program)(f:FuncId)(m:rD)(rY:m.X->Prop)(fx:m.X->m.Y):Prop:=
 ∀(o:bC) (A:bF) (x:m.X),gp (o.Sb A m.kp) o.w o.S (bw A (aQ (fun _=>none) (ig 0 m.sh x.1)))->(∀j y,aQ (fun _=>none) (ig 0 m.sh x.1) j=some y->tj (o.Sb A m.kp) A j y)->rY x->
  Calls P f ((iF m.ar x.2).map (Sc.den A)).toArray o.w (K8 o A m (fx x))
section
variable {P:Program}{o:bC}{n:Nat}{A A':bF}{S S':aL}{F G:Nat->Prop}{s:Nat->Option E2}{r:Nat->Option R2}{a:Act}{w w':World}{T:List (dy P)}
theorem lJ:∀ {l:List Pc} {i:Nat} {x:wu l} {j:Nat} {z:Option R2},(j,z)∈ig i l x->i<=j/\j<i+l.length
 |[],_,_,_,_,h=>by cases h
 |s::l,i,x,j,z,h=>by
  rcases List.mem_cons.1 h with e|h
  .cases e;simp
  have:=lJ h
  simp only[List.length_cons];omega
theorem u9:∀ {l:List Pc} {i:Nat} {x:wu l} {j:Nat},i<=j->j<i+l.length->∃s v,s∈l/\(j,some (Pc.r2 s v))∈ig i l x
 |[],i,_,j,h1,h2=>by simp only[List.length_nil] at h2;omega
 |s::l,i,x,j,h1,h2=>by
  by_cases q:j=i
  .subst q;exact⟨s,x.1,List.mem_cons_self,List.mem_cons_self⟩
  simp only[List.length_cons] at h2
  obtain⟨s',v,k1,k2⟩:=u9 (x:=x.2) (show i+1<=j by omega) (by omega)
  exact⟨s',v,List.mem_cons_of_mem _ k1,List.mem_cons_of_mem _ k2⟩
theorem yT:∀ {l:List Pc} {i:Nat} {x:wu l} {j:Nat} {z:Option R2},(j,z)∈ig i l x->∃s v,s∈l/\z=some (Pc.r2 s v)
 |[],_,_,_,_,h=>by cases h
 |s::l,i,x,j,z,h=>by
  rcases List.mem_cons.1 h with e|h
  .cases e;exact⟨s,x.1,List.mem_cons_self,rfl⟩
  obtain⟨s',v,k1,k2⟩:=yT h;exact⟨s',v,List.mem_cons_of_mem _ k1,k2⟩
theorem jJ:∀ {re:List (Nat×Option R2)} {j:Nat} {x:R2},aQ (fun _=>none) re j=some x->(j,some x)∈re:=by
 intro re
 induction re with
 |nil=>intro j x h;cases h
 |cons p re ih=>
  intro j x h
  have h:jg (aQ (fun _=>none) re) p.1 p.2 j=some x:=h
  by_cases q:p.1=j
  .subst q;rw[cB] at h;rw[<-h];exact List.mem_cons_self
  rw[cS q] at h;exact List.mem_cons_of_mem _ (ih h)
theorem Br:∀ {l:List Pc} {i:Nat} {x:wu l} {j:Nat} {z:Option R2} {r0:Nat->Option R2},(j,z)∈ig i l x->aQ r0 (ig i l x) j=z
 |[],_,_,_,_,_,h=>by cases h
 |s::l,i,x,j,z,r0,h=>by
  show jg (aQ r0 (ig (i+1) l x.2)) i (some (s.r2 x.1)) j=z
  rcases List.mem_cons.1 h with e|h
  .cases e;rw[cB]
  have:=lJ h
  rw[cS (by omega)]
  exact Br h
theorem nC {k:Nat}:∀ {cs:List Cp} {x:Ag cs},cs.all (Cp.below k)=true->∀c∈iF cs x,c.all (· <k)/\∀A,c.b7 A
 |[],_,_,_,h=>by cases h
 |c::cs,x,h,d,hd=>by
  rw[List.all_cons,Bool.and_eq_true] at h
  rcases List.mem_cons.1 hd with rfl|hd
  .cases c with
   |mA f cr=>exact⟨fun c hc=>by have:=List.all_eq_true.1 h.1 c hc;simpa[Nat.blt_eq] using this,fun _=>trivial⟩
   |own j=>exact⟨by have:=h.1;show j<k;simpa[Cp.below,Nat.blt_eq] using this,fun _=>trivial⟩
   |mp j=>exact⟨by have:=h.1;show j<k;simpa[Cp.below,Nat.blt_eq] using this,fun _=>trivial⟩
   |ptr j off=>exact⟨by have:=h.1;show j<k;simpa[Cp.below,Nat.blt_eq] using this,fun _=>trivial⟩
   |_=>exact⟨tv,fun _=>trivial⟩
  exact nC h.2 d hd
theorem Pc.OA {k:Nat}{s:Pc}{v:PcV s}(h:s.below k=true):(s.r2 v).all (· <k)/\(∀A,(s.r2 v).b7 A)/\kH (s.r2 v)=s.Sa:=by
 cases s with
 |box t cs=>exact⟨fun c hc=>(nC h c hc).1,fun A c hc=>(nC h c hc).2 A,rfl⟩
 |row e t=>exact⟨tv,fun _=>trivial,rfl⟩
 |map k t=>exact⟨tv,fun _=>trivial,rfl⟩
 |rd t=>exact⟨tv,fun _=>trivial,rfl⟩
theorem gp.gv {f:Nat->Option Rs}{kp:Nat}(h:gp o w S f):gp (o.Sb A kp) w S f:=⟨h.pT,h.src,h.iI,h.ok,h.own,h.apart⟩
theorem gp.aa5 {f:Nat->Option Rs}{kp:Nat}(h:gp (o.Sb A kp) w S f):gp o w S f:=⟨h.pT,h.src,h.iI,h.ok,h.own,h.apart⟩
def stM (m:rD)(x:m.X):gW:=⟨r8 0 ((iF m.ar x.2).map Sy.one),ig 0 m.sh x.1,m.sh.length⟩
theorem fo {f:FuncId}(fn:Func)(n:Nat)(T:List (dy P))(m:rD){rY:m.X->Prop}{fx:m.X->m.Y}(hf:P.funcs[f]?=some fn)
  (k:∀(o:bC) (A:bF) (x:m.X),rY x->∀a w,iZ (o.Sb A m.kp) n (stM m x) a w->At pl P T (fn.body.getD .skip) (bodyPost P fn (K8 o A m (fx x))) [.run []] a w)
  (hb:fn.body.isSome=true:=by kernel_rfl) (hn:fn.ntmps=n:=by kernel_rfl) (hl:decide (m.ar.length<=n)=true:=by kernel_rfl)
  (hw:(decide (m.kp<=m.sh.length) && (m.ar.all (Cp.below m.sh.length) && m.sh.all (Pc.below m.sh.length)))=true:=by kernel_rfl):eO P f m rY fx:=by
 intro o A x aa6 har Cl
 simp only[Bool.and_eq_true,decide_eq_true_eq] at hw
 obtain⟨kf,Bd,Ah⟩:=hw
 have hlen:(iF m.ar x.2).length=m.ar.length:=by
  have:∀(cs:List Cp) (x:Ag cs),(iF cs x).length=cs.length:=by
   intro cs
   induction cs with
   |nil=>intro _;rfl
   |cons c cs ih=>intro x;simp[iF,ih]
  exact this _ _
 refine enter fn n hf (fun a ha=>?_) hb hn (by rw[List.length_map,hlen];exact hl)
 have ji:∀t e,nX (stM m x) t=some e->e.ch=[]/\∃c,(iF m.ar x.2)[t]?=some c/\e=⟨[],.one c⟩:=fun t e he=>by
  obtain⟨_,y,q1,q2⟩:=kN he
  have q1:((iF m.ar x.2).map Sy.one)[t-0]?=some y:=q1
  rw[List.getElem?_map,Nat.sub_zero] at q1
  obtain⟨c,hc,rfl⟩:=Option.map_eq_some_iff.1 q1
  exact⟨by rw[q2],c,hc,q2⟩
 have qd:iZ (o.Sb A m.kp) n (stM m x) a o.w:=by
  refine⟨⟨A,o.S,ha.1,ha.2.1,fun t e he=>?_,fun t e he _=>?_,fun j y hj=>?_,aa6,har,⟨fun j q=>Nat.lt_of_lt_of_le (show j<m.kp from q) kf,cR.refl _ _⟩⟩,fun t e he=>(ji t e he).1,fun _ q=>q⟩
  .obtain⟨_,c,q1,rfl⟩:=ji t e he
   have A7:=(List.getElem?_eq_some_iff.1 q1).1
   refine ha.2.2 ⟨t,[],c.den A⟩ (List.mem_map.2 ⟨(t,c.den A),?_,rfl⟩)
   refine List.mem_iff_getElem?.2 ⟨t,?_⟩
   rw[List.getElem?_zip_eq_some]
   exact⟨by simp[A7],by rw[List.getElem?_map,q1];rfl⟩
  .obtain⟨_,c,q1,rfl⟩:=ji t e he
   have:=nC Bd c (List.mem_of_getElem? q1)
   exact⟨this.1,this.2 A⟩
  have hm:=jJ hj
  have hk:=lJ hm
  obtain⟨s,v,q1,q2⟩:=yT hm
  cases q2
  have:=Pc.OA (v:=v) (List.all_eq_true.1 Ah s q1)
  exact⟨by have:=hk.2;rwa[Nat.zero_add] at this,this.1,this.2.1 A⟩
 have:=(k o A x Cl a o.w qd).get
 have this:(sub (fn.body.getD .skip) []).j7 pl P (post pl P (fn.body.getD .skip) (bodyPost P fn (K8 o A m (fx x))) []) a o.w:=this
 exact yj.1 this
def OB:List ResultVar->List Sc->List (Nat×Option E2)
 | .tmp t::l,c::cs=>(t,some ⟨[],.one c⟩)::OB l cs
 |_,_=>[]
def I4 (fn:Func)(m:rD)(y:m.Y):gW:=⟨OB fn.results.toList (iF m.rs y.2),ig 0 m.qt y.1,m.qt.length⟩
def Sd (s:Nat->Option E2):List ResultVar->Option (List Sc)
 |[]=>some []
 | .tmp t::l=>match s t with
  |some ⟨[],.one c⟩=>(Sd s l).map (c:: ·)
  |_=>none
 | .cell _ _::_=>none
theorem EX (H:cv o n A S F s r a w):∀ {l:List ResultVar} {cs:List Sc},Sd s l=some cs->∀acc:Array Value,(iQ a l acc).run P w= .ok (acc++(cs.map (Sc.den A)).toArray) w
 |[],cs,h,acc=>by cases h;simp[iQ]
 | .tmp t::l,cs,h,acc=>by
  simp only[Sd] at h
  split at h
  .rename_i c he
   obtain⟨tc,h1,rfl⟩:=Option.map_eq_some_iff.1 h
   have hv:=(H.env t _ he).1 (fun l hl=>by cases hl)
   have hv:a.tmps.getD t undef=c.den A:=by
    rw[Array.getD_eq_getD_getElem?,show a.tmps[t]?=some (c.den A) from hv];rfl
   rw[jV (v:=c.den A) (by simp only[sG,hv,Sem.run_pure]),EX H h1]
   simp
  cases h
 | .cell _ _::_,_,h,_=>by cases h
theorem kJ {mo:Mode}{fn:Func}{m:rD}{fx:m.Y}{B:Code}{st:List It}{σ:gW}(y:m.Y)(ρ:List (Nat×Option Nat))(h:iZ (o.Sb A m.kp) n σ a w)(e:y=fx)(ht:Ev B st=true:=by kernel_rfl)
  (h1:eL ρ σ (I4 fn m y):=by delta eL;kernel_rfl) (h2:gl ρ σ (I4 fn m y):=by delta gl;kernel_rfl) (h3:jh ρ (I4 fn m y)=true:=by kernel_rfl) (h4:rS ρ m.kp=true:=by kernel_rfl)
  (h5:Sd (nX (I4 fn m y)) fn.results.toList=some (iF m.rs y.2):=by kernel_rfl):At mo P T B (bodyPost P fn (K8 o A m fx)) st a w:=by
 have hs:=uT ρ h h1 h2 h3 h4
 obtain⟨⟨A',S',H⟩,h0,_⟩:=hs
 subst e
 have n9:=mF (EX (P:=P) H h5)
 have Zs:K8 o A m y (.returned (GO ((iF m.rs y.2).map (Sc.den A')))) w:=⟨_,rfl,A',S',H.s8.2,H.bB,rfl⟩
 unfold Ev at ht
 split at ht
 .rename_i p r
  refine⟨?_⟩
  show(sub B p).j7 mo P (post mo P B _ r) a w
  have hc:sub B p= .ret:=by
   cases hc:sub B p<;>rw[hc] at ht<;>first|rfl|cases ht
  rw[hc]
  exact wP (k9 (bodyPost_ret n9 H.fh Zs))
 .exact⟨bodyPost_end n9 H.fh Zs⟩
 cases ht
def He (ρ fQ:List (Nat×Option Nat)):Prop:=∀j v,bO ρ j=some v->bO fQ j=some v
theorem He.trans {a b c:List (Nat×Option Nat)}(h:He a b)(k:He b c):He a c:=fun j v q=>k j v (h j v q)
theorem OC {ρ:List (Nat×Option Nat)}{j:Nat}{v:Option Nat}(h:bO ρ j=none):He ρ ((j,v)::ρ):=fun i u q=>by
 unfold bO
 cases hb:Nat.beq j i with
 |true=>have:=b6 hb;subst this;rw[h] at q;cases q
 |false=>exact q
theorem nD (ρ:List (Nat×Option Nat))(j:Nat)(v:Option Nat):bO ((j,v)::ρ) j=some v:=by
 unfold bO;rw[Nat.beq_refl]
def yU {α:Type 1}(ρ:List (Nat×Option Nat))(j:Nat)(v:Option Nat)(k:List (Nat×Option Nat)->Tr α):Tr α:=match bO ρ j with
 |none=>k ((j,v)::ρ)
 |some _=>.fail
def I5 {α:Type 1}:List (Nat×Nat)->List (Nat×Nat)->List (Nat×Option Nat)->(List (Nat×Option Nat)->Tr α)->Tr α
 |[],[],ρ,k=>k ρ
 |c::l,d::l',ρ,k=>match Nat.beq c.2 d.2 with
  |true=>yU ρ c.1 (some d.1) fun ρ=>I5 l l' ρ k
  |false=>.fail
 |_,_,_,_=>.fail
def mS {α:Type 1}:(c:Cp)->Sc->List (Nat×Option Nat)->(Zr c->List (Nat×Option Nat)->Tr α)->Tr α
 | .int,d,ρ,k=>match d with
  | .v (.int .i64 n)=>k n ρ
  |_=>.fail
 | .bool,d,ρ,k=>match d with
  | .b e=>k e.den ρ
  |_=>.fail
 | .str,d,ρ,k=>match d with
  | .v (.string z)=>k z ρ
  |_=>.fail
 | .own j,d,ρ,k=>match d with
  | .own q=>yU ρ j (some q) (k ())
  | .v (.slice none 0 0)=>yU ρ j none (k ())
  |_=>.fail
 | .mp j,d,ρ,k=>match d with
  | .mp q=>yU ρ j (some q) (k ())
  |_=>.fail
 | .ptr j off,d,ρ,k=>match d with
  | .ptr q aa7=>match Nat.beq off aa7 with
   |true=>yU ρ j (some q) (k ())
   |false=>.fail
  |_=>.fail
 | .mA f cr,d,ρ,k=>match d with
  | .mA f' Uq=>bg (Nat.beq f f') (I5 cr Uq ρ (k ()))
  |_=>.fail
def EY {α:Type 1}:(cs:List Cp)->List Sc->List (Nat×Option Nat)->(Ag cs->List (Nat×Option Nat)->Tr α)->Tr α
 |[],[],ρ,k=>k () ρ
 |c::cs,d::l,ρ,k=>mS c d ρ fun v ρ=>EY cs l ρ fun x=>k (v,x)
 |_,_,_,_=>.fail
def pq {α:Type 1}:Nat->(sh:List Pc)->List (Nat×Option Nat)->(wu sh->List (Nat×Option Nat)->Tr α)->Tr α
 |_,[],ρ,k=>k () ρ
 |i,.box t cs::sh,ρ,k=>match bO ρ i with
  |some (some q)=>.res q fun z=>match z with
   | .box t' l=>bg (Nat.beq t t') (EY cs l ρ fun x ρ=>pq (i+1) sh ρ fun xs=>k (x,xs))
   |_=>.fail
  |_=>.fail
 |i,.row e t::sh,ρ,k=>match bO ρ i with
  |some (some q)=>.res q fun z=>match z with
   | .row e' t' l=>match iN (t:=.list t') (s:=.list t) (show El (.list t') from l) with
    |some l'=>bg (Nat.beq e e') (pq (i+1) sh ρ fun xs=>k (l',xs))
    |none=>.fail
   |_=>.fail
  |some none=>pq (i+1) sh ρ fun xs=>k ([],xs)
  |none=>.fail
 |i,.map kc t::sh,ρ,k=>match bO ρ i with
  |some (some q)=>.res q fun z=>match z with
   | .map kc' t' l=>match iN (t:=.map kc' t') (s:=.map kc t) (show El (.map kc' t') from l) with
    |some l'=>pq (i+1) sh ρ fun xs=>k (l',xs)
    |none=>.fail
   |_=>.fail
  |_=>.fail
 |i,.rd t::sh,ρ,k=>match bO ρ i with
  |some (some q)=>.res q fun z=>match iu z with
   |some ⟨t',l⟩=>match iN (t:=.list t') (s:=.list t) (show El (.list t') from l) with
    |some l'=>pq (i+1) sh ρ fun xs=>k (l',xs)
    |none=>.fail
   |none=>.fail
  |some none=>pq (i+1) sh ρ fun xs=>k ([],xs)
  |none=>.fail
theorem nE {α:Type 1}{ρ:List (Nat×Option Nat)}{j:Nat}{v:Option Nat}{k:List (Nat×Option Nat)->Tr α}{out:α}(h:(yU ρ j v k).run s r=some out):He ρ ((j,v)::ρ)/\(k ((j,v)::ρ)).run s r=some out:=by
 unfold yU at h
 split at h
 .rename_i hn;exact⟨OC hn,h⟩
 cases h
theorem Bt {α:Type 1}:∀ {l l':List (Nat×Nat)} {ρ:List (Nat×Option Nat)} {k:List (Nat×Option Nat)->Tr α} {out:α},(I5 l l' ρ k).run s r=some out->
  ∃fQ,(k fQ).run s r=some out/\He ρ fQ/\∀A iw,He fQ iw->(l.map fun c=>Value.pointer (some ⟨(dY A iw).b c.1,c.2,none⟩))=l'.map fun c=>Value.pointer (some ⟨A.b c.1,c.2,none⟩)
 |[],[],ρ,k,out,h=>⟨ρ,h,fun _ _ q=>q,fun _ _ _=>rfl⟩
 |c::l,d::l',ρ,k,out,h=>by
  simp only[I5] at h
  split at h
  .rename_i e
   have e:=b6 e
   obtain⟨q1,h2⟩:=nE h
   obtain⟨fQ,h3,h4,h5⟩:=Bt h2
   refine⟨fQ,h3,q1.trans h4,fun A iw q=>?_⟩
   rw[List.map_cons,List.map_cons,h5 A iw q,(eN (A:=A) (q _ _ (h4 _ _ (nD _ _ _)))).2.1,e]
  cases h
 |[],_::_,_,_,_,h=>by cases h
 |_::_,[],_,_,_,h=>by cases h
theorem Hf {α:Type 1}{c:Cp}{d:Sc}{ρ:List (Nat×Option Nat)}{k:Zr c->List (Nat×Option Nat)->Tr α}{out:α}(h:(mS c d ρ k).run s r=some out):
  ∃v fQ,(k v fQ).run s r=some out/\He ρ fQ/\∀A iw,He fQ iw->(c.sc v).den (dY A iw)=d.den A:=by
 cases c with
 |int=>
  simp only[mS] at h
  split at h
  .exact⟨_,ρ,h,fun _ _ q=>q,fun _ _ _=>rfl⟩
  cases h
 |bool=>
  simp only[mS] at h
  split at h
  .exact⟨_,ρ,h,fun _ _ q=>q,fun _ _ _=>rfl⟩
  cases h
 |str=>
  simp only[mS] at h
  split at h
  .exact⟨_,ρ,h,fun _ _ q=>q,fun _ _ _=>rfl⟩
  cases h
 |own j=>
  simp only[mS] at h
  split at h
  .obtain⟨q1,h2⟩:=nE h
   exact⟨(),_,h2,q1,fun A iw q=>(eN (A:=A) (q _ _ (nD _ _ _))).1⟩
  .obtain⟨q1,h2⟩:=nE h
   exact⟨(),_,h2,q1,fun A iw q=>yq (A:=A) (q _ _ (nD _ _ _))⟩
  cases h
 |mp j=>
  simp only[mS] at h
  split at h
  .obtain⟨q1,h2⟩:=nE h
   exact⟨(),_,h2,q1,fun A iw q=>by simp only[Cp.sc,Sc.den,(eN (A:=A) (q _ _ (nD _ _ _))).2.2.1]⟩
  cases h
 |ptr j off=>
  simp only[mS] at h
  split at h
  .split at h
   .rename_i e
    have e:=b6 e
    subst e
    obtain⟨q1,h2⟩:=nE h
    exact⟨(),_,h2,q1,fun A iw q=>by simp only[Cp.sc,Sc.den,(eN (A:=A) (q _ _ (nD _ _ _))).2.1]⟩
   cases h
  cases h
 |mA f cr=>
  simp only[mS] at h
  split at h
  .obtain⟨e,h1⟩:=ax h
   have e:=b6 e
   subst e
   obtain⟨fQ,h2,h3,h4⟩:=Bt h1
   exact⟨(),fQ,h2,h3,fun A iw q=>by simp only[Cp.sc,Sc.den,h4 A iw q]⟩
  cases h
theorem Bu {α:Type 1}:∀(cs:List Cp) (l:List Sc) (ρ:List (Nat×Option Nat)) (k:Ag cs->List (Nat×Option Nat)->Tr α) {out:α},(EY cs l ρ k).run s r=some out->
  ∃x fQ,(k x fQ).run s r=some out/\He ρ fQ/\∀A iw,He fQ iw->(iF cs x).map (Sc.den (dY A iw))=l.map (Sc.den A):=by
 intro cs
 induction cs with
 |nil=>
  intro l ρ k out h
  cases l with
  |nil=>exact⟨(),ρ,h,fun _ _ q=>q,fun _ _ _=>rfl⟩
  |cons _ _=>cases h
 |cons c cs ih=>
  intro l ρ k out h
  cases l with
  |nil=>cases h
  |cons d l=>
   obtain⟨v,ρ1,h1,h2,h3⟩:=Hf (show(mS c d ρ fun v ρ=>EY cs l ρ fun x=>k (v,x)).run s r=some out from h)
   obtain⟨x,fQ,h4,h5,h6⟩:=ih _ _ _ h1
   exact⟨(v,x),fQ,h4,h2.trans h5,fun A iw q=>by simp only[iF,List.map_cons,h6 A iw q,h3 A iw (h5.trans q)]⟩
def Se (r:Nat->Option R2)(fQ:List (Nat×Option Nat))(j:Nat)(z:R2):Prop:=∀A iw,He fQ iw->
 (kH z=false/\((∃q y,bO iw j=some (some q)/\r q=some y/\z.den (dY A iw) j=y.den A q)\/(bO iw j=some none/\∃e t,z= .row e t ([]:List (El t)))))\/
  ∃(t:Ty) (l:List (El t)),z= .ar t l/\((∃q y,bO iw j=some (some q)/\r q=some y/\iu y=some ⟨t,l⟩)\/(bO iw j=some none/\l=[]))
theorem K9 {α:Type 1}:∀(sh:List Pc) (i:Nat) (ρ:List (Nat×Option Nat)) (k:wu sh->List (Nat×Option Nat)->Tr α) {out:α},(pq i sh ρ k).run s r=some out->
  ∃xs fQ,(k xs fQ).run s r=some out/\He ρ fQ/\∀j z,(j,some z)∈ig i sh xs->Se r fQ j z:=by
 intro sh
 induction sh with
 |nil=>intro i ρ k out h;exact⟨(),ρ,h,fun _ _ q=>q,fun _ _ q=>by cases q⟩
 |cons sp sh ih=>
  intro i ρ k out h
  cases sp with
  |box t cs=>
   simp only[pq] at h
   split at h
   .rename_i q hq
    obtain⟨y,hy,h⟩:=aY h
    split at h
    .rename_i t' l
     obtain⟨e,h0⟩:=ax h
     clear h
     have e:=b6 e
     subst e
     obtain⟨x,ρ1,h1,h2,h3⟩:=Bu _ _ _ _ h0
     obtain⟨xs,fQ,h4,h5,h6⟩:=ih _ _ _ h1
     refine⟨(x,xs),fQ,h4,h2.trans h5,fun j z hj=>?_⟩
     rcases List.mem_cons.1 hj with e|hj
     .cases e
      refine fun A iw hle=>.inl ⟨rfl,.inl ⟨q,_,hle _ _ (h5 _ _ (h2 _ _ hq)),hy,?_⟩⟩
      simp only[Pc.r2,R2.den,h3 A iw (h5.trans hle),(eN (A:=A) (hle _ _ (h5 _ _ (h2 _ _ hq)))).2.1]
     exact h6 j z hj
    cases h
   cases h
  |row e t=>
   simp only[pq] at h
   split at h
   .rename_i q hq
    obtain⟨y,hy,h⟩:=aY h
    split at h
    .rename_i e' t' l
     split at h
     .rename_i l' hl
      obtain⟨ee,rfl⟩:=eE hl
      cases ee
      obtain⟨e,h0⟩:=ax h
      clear h
      have e:=b6 e
      subst e
      obtain⟨xs,fQ,h4,h5,h6⟩:=ih _ _ _ h0
      refine⟨(_,xs),fQ,h4,h5,fun j z hj=>?_⟩
      rcases List.mem_cons.1 hj with e|hj
      .cases e
       refine fun A iw hle=>.inl ⟨rfl,.inl ⟨q,_,hle _ _ (h5 _ _ hq),hy,?_⟩⟩
       simp only[Pc.r2,R2.den,(eN (A:=A) (hle _ _ (h5 _ _ hq))).1]
      exact h6 j z hj
     cases h
    cases h
   .rename_i hq
    obtain⟨xs,fQ,h4,h5,h6⟩:=ih _ _ _ h
    refine⟨(_,xs),fQ,h4,h5,fun j z hj=>?_⟩
    rcases List.mem_cons.1 hj with e|hj
    .cases e
     exact fun A iw hle=>.inl ⟨rfl,.inr ⟨hle _ _ (h5 _ _ hq),_,_,rfl⟩⟩
    exact h6 j z hj
   cases h
  |map kc t=>
   simp only[pq] at h
   split at h
   .rename_i q hq
    obtain⟨y,hy,h⟩:=aY h
    split at h
    .rename_i kc' t' l
     split at h
     .rename_i l' hl
      obtain⟨ee,rfl⟩:=eE hl
      cases ee
      obtain⟨xs,fQ,h4,h5,h6⟩:=ih _ _ _ h
      refine⟨(_,xs),fQ,h4,h5,fun j z hj=>?_⟩
      rcases List.mem_cons.1 hj with e|hj
      .cases e
       refine fun A iw hle=>.inl ⟨rfl,.inl ⟨q,_,hle _ _ (h5 _ _ hq),hy,?_⟩⟩
       simp only[Pc.r2,R2.den,(eN (A:=A) (hle _ _ (h5 _ _ hq))).2.2.1]
      exact h6 j z hj
     cases h
    cases h
   cases h
  |rd t=>
   simp only[pq] at h
   split at h
   .rename_i q hq
    obtain⟨y,hy,h⟩:=aY h
    split at h
    .rename_i t' l xe
     split at h
     .rename_i l' hl
      obtain⟨ee,rfl⟩:=eE hl
      cases ee
      obtain⟨xs,fQ,h4,h5,h6⟩:=ih _ _ _ h
      refine⟨(_,xs),fQ,h4,h5,fun j z hj=>?_⟩
      rcases List.mem_cons.1 hj with e|hj
      .cases e
       exact fun A iw hle=>.inr ⟨_,_,rfl,.inl ⟨q,y,hle _ _ (h5 _ _ hq),hy,xe⟩⟩
      exact h6 j z hj
     cases h
    cases h
   .rename_i hq
    obtain⟨xs,fQ,h4,h5,h6⟩:=ih _ _ _ h
    refine⟨(_,xs),fQ,h4,h5,fun j z hj=>?_⟩
    rcases List.mem_cons.1 hj with e|hj
    .cases e
     exact fun A iw hle=>.inr ⟨_,_,rfl,.inr ⟨hle _ _ (h5 _ _ hq),rfl⟩⟩
    exact h6 j z hj
   cases h
end
def EZ (kp:Nat)(ρ:List (Nat×Option Nat))(b i:Nat):Option Nat:=match Nat.blt i kp with
 |true=>match bO ρ i with
  |some v=>v
  |none=>none
 |false=>some (b+i)
def E0 (g:Nat->Option Nat):Nat->List (Nat×Option Nat)
 |0=>[]
 |k+1=>(k,g k)::E0 g k
def XO (τ:List (Nat×Option Nat)):List (Nat×Option R2)->Option (List (Nat×Option R2))
 |[]=>some []
 |(i,some x)::l=>match bO τ i,x.rn τ,XO τ l with
  |some (some k),some t,some l'=>some ((k,some t)::l')
  |_,_,_=>none
 |(_,none)::_=>none
def Zt (sh:List Pc)(l:List (Nat×Option R2)):List (Nat×Option R2):=l.filter fun p=>!Bq sh p.1
def yV (sh:List Pc)(ρ:List (Nat×Option Nat)):List Nat:=(ρ.filter fun p=>!Bq sh p.1).filterMap (·.2)
def Zu:Sy->Bool
 | .one _=>true
 |_=>false
def Zv (m:rD)(ρ:List (Nat×Option Nat))(ys:List Sy):Bool:=
 ys.all Zu && ((ρ.all fun p=>ρ.all fun q=>Nat.beq p.1 q.1||(match p.2,q.2 with|some a,some b=>!Nat.beq a b|_,_=>true)) && (decide (m.kp<=m.sh.length) && (m.qt.all (Pc.below m.qt.length) && (m.rs.all (Cp.below m.qt.length) && (((List.range m.kp).all fun i=>match bO ρ i with|some (some _)=>true|_=>false) && (List.range m.qt.length).all fun i=>!Bq m.qt i||(Nat.blt i m.kp && Bq m.sh i))))))
def VZ (m:rD)(rY:m.X->Prop)(fx:m.X->m.Y)(b:Nat)(cr:List (Nat×Nat))(ys:List Sy):Tr Out:=
 EY m.ar ((ys++cr.map fun c=>Sy.one (.ptr c.1 c.2)).flatMap aH) [] fun xa ρ=>pq 0 m.sh ρ fun xs fQ=>
  match XO (E0 (EZ m.kp fQ b) m.qt.length) (Zt m.qt (ig 0 m.qt (fx (xs,xa)).1)),RO (E0 (EZ m.kp fQ b) m.qt.length) (iF m.rs (fx (xs,xa)).2) with
  |some re,some cs=>bg (Zv m fQ (ys++cr.map fun c=>Sy.one (.ptr c.1 c.2))) (.ret ⟨[rY (xs,xa)],[],vQ (cs.map Sy.one),re++(yV m.sh fQ).map fun q=>(q,none)⟩)
  |_,_=>.fail
def nF (A B:bF)(b k l:Nat):bF:=
 ⟨fun j=>if b+k<=j/\j<b+l then B.p (j-b) else A.p j,fun j=>if b+k<=j/\j<b+l then B.n (j-b) else A.n j,fun j=>if b+k<=j/\j<b+l then B.c (j-b) else A.c j,fun j=>if b+k<=j/\j<b+l then B.b (j-b) else A.b j,fun j=>if b+k<=j/\j<b+l then B.f (j-b) else A.f j,fun j=>if b+k<=j/\j<b+l then B.m (j-b) else A.m j⟩
section
variable {P:Program}{o:bC}{n:Nat}{A A':bF}{S S':aL}{F G:Nat->Prop}{s:Nat->Option E2}{r:Nat->Option R2}{a:Act}{w w':World}{T:List (dy P)}
theorem I6 {g:Nat->Option Nat}:∀ {l i:Nat},i<l->bO (E0 g l) i=some (g i)
 |0,i,h=>by omega
 |l+1,i,h=>by
  unfold E0 bO
  cases hb:Nat.beq l i with
  |true=>have:=b6 hb;subst this;rfl
  |false=>exact I6 (by have:=MJ hb;omega)
theorem I7 {g:Nat->Option Nat}:∀ {l i:Nat} {v:Option Nat},bO (E0 g l) i=some v->i<l
 |0,i,v,h=>by cases h
 |l+1,i,v,h=>by
  unfold E0 bO at h
  cases hb:Nat.beq l i with
  |true=>have:=b6 hb;omega
  |false=>rw[hb] at h;have:=I7 h;omega
theorem OD {τ:List (Nat×Option Nat)}:∀ {l re:List (Nat×Option R2)},XO τ l=some re->∀i z,(i,z)∈l->∃k x t,z=some x/\bO τ i=some (some k)/\x.rn τ=some t/\(k,some t)∈re
 |[],re,h,i,z,hz=>by cases hz
 |(i0,some x)::l,re,h,i,z,hz=>by
  simp only[XO] at h
  split at h
  .rename_i k t l' h1 h2 h3
   cases h
   rcases List.mem_cons.1 hz with e|hz
   .cases e;exact⟨k,x,t,rfl,h1,h2,List.mem_cons_self⟩
   obtain⟨k',x',t',q1,q2,q3,q4⟩:=OD h3 i z hz
   exact⟨k',x',t',q1,q2,q3,List.mem_cons_of_mem _ q4⟩
  cases h
 |(i0,none)::l,re,h,i,z,hz=>by cases h
theorem OE {τ:List (Nat×Option Nat)}:∀ {l re:List (Nat×Option R2)},XO τ l=some re->∀k z,(k,z)∈re->∃i x t,(i,some x)∈l/\bO τ i=some (some k)/\x.rn τ=some t/\z=some t
 |[],re,h,k,z,hz=>by cases h;cases hz
 |(i0,some x)::l,re,h,k,z,hz=>by
  simp only[XO] at h
  split at h
  .rename_i k0 t l' h1 h2 h3
   cases h
   rcases List.mem_cons.1 hz with e|hz
   .cases e;exact⟨i0,x,t,List.mem_cons_self,h1,h2,rfl⟩
   obtain⟨i',x',t',q1,q2,q3,q4⟩:=OE h3 k z hz
   exact⟨i',x',t',List.mem_cons_of_mem _ q1,q2,q3,q4⟩
  cases h
 |(i0,none)::l,re,h,k,z,hz=>by cases h
theorem Bv {τ:List (Nat×Option Nat)}:∀ {cr cs:List (Nat×Nat)},Sc.rn.sD τ cr=some cs->∀c∈cs,∃j,bO τ j=some (some c.1)
 |[],cs,h,c,hc=>by cases h;cases hc
 |d::cr,cs,h,c,hc=>by
  simp only[Sc.rn.sD] at h
  split at h
  .rename_i k l h1 h2
   cases h
   rcases List.mem_cons.1 hc with rfl|hc
   .exact⟨_,h1⟩
   exact Bv h2 c hc
  cases h
theorem Zw {τ:List (Nat×Option Nat)}{c:Cp}{v:Zr c}{d:Sc}(h:(c.sc v).rn τ=some d)(hG:∀j k,bO τ j=some (some k)->G k):d.all G/\∀A,d.b7 A:=by
 cases c with
 |int=>cases h;exact⟨tv,fun _=>trivial⟩
 |bool=>cases h;exact⟨tv,fun _=>trivial⟩
 |str=>cases h;exact⟨tv,fun _=>trivial⟩
 |mA f cr=>
  have h:(Sc.rn.sD τ cr).map (.mA f)=some d:=h
  obtain⟨cs,h1,rfl⟩:=Option.map_eq_some_iff.1 h
  exact⟨fun c hc=>by obtain⟨j,hj⟩:=Bv h1 c hc;exact hG j _ hj,fun _=>trivial⟩
 |own j=>
  simp only[Cp.sc,Sc.rn] at h
  split at h
  .rename_i k hk;cases h;exact⟨hG j k hk,fun _=>trivial⟩
  .cases h;exact⟨tv,fun _=>trivial⟩
  cases h
 |mp j=>
  simp only[Cp.sc,Sc.rn] at h
  split at h
  .rename_i k hk;cases h;exact⟨hG j k hk,fun _=>trivial⟩
  .cases h;exact⟨tv,fun _=>trivial⟩
  cases h
 |ptr j off=>
  simp only[Cp.sc,Sc.rn] at h
  split at h
  .rename_i k hk;cases h;exact⟨hG j k hk,fun _=>trivial⟩
  cases h
theorem Hg {τ:List (Nat×Option Nat)}(hG:∀j k,bO τ j=some (some k)->G k):∀ {cs:List Cp} {x:Ag cs} {ds:List Sc},RO τ (iF cs x)=some ds->∀d∈ds,d.all G/\∀A,d.b7 A
 |[],x,ds,h,d,hd=>by cases h;cases hd
 |c::cs,x,ds,h,d,hd=>by
  simp only[iF,RO] at h
  split at h
  .rename_i c' l' h1 h2
   cases h
   rcases List.mem_cons.1 hd with rfl|hd
   .exact Zw h1 hG
   exact Hg hG h2 d hd
  cases h
theorem Zx {τ:List (Nat×Option Nat)}(hG:∀j k,bO τ j=some (some k)->G k){p:Pc}{v:PcV p}{i k:Nat}{z:R2}(h:(p.r2 v).rn τ=some z)(hk:bO τ i=some (some k))(gF:p.Sa=false)(A:bF):
  z.den A k=(p.r2 v).den (dY A τ) i/\z.all G/\z.b7 A/\kH z=false:=by
 obtain⟨e1,e2,e3,_⟩:=eN (A:=A) hk
 cases p with
 |box t cs=>
  have h:(RO τ (iF cs v)).map (R2.box t)=some z:=h
  obtain⟨ds,h1,rfl⟩:=Option.map_eq_some_iff.1 h
  have h2:=Hg hG h1
  refine⟨?_,fun c hc=>(h2 c hc).1,fun c hc=>(h2 c hc).2 A,rfl⟩
  simp only[Pc.r2,R2.den,e2,(yt (A:=A) h1).1]
 |row e t=>
  have h:some (R2.row e t v)=some z:=h
  cases h
  exact⟨by simp only[Pc.r2,R2.den,e1],tv,tv,rfl⟩
 |map kc t=>
  have h:some (R2.map kc t v)=some z:=h
  cases h
  exact⟨by simp only[Pc.r2,R2.den,e3],tv,tv,rfl⟩
 |rd t=>cases gF
theorem Bw:∀ {l:List Pc} {i:Nat} {x:wu l} {j:Nat} {z:R2},(j,some z)∈ig i l x->∃s,l[j-i]?=some s/\∃v,z=Pc.r2 s v
 |[],_,_,_,_,h=>by cases h
 |s::l,i,x,j,z,h=>by
  rcases List.mem_cons.1 h with e|h
  .cases e;exact⟨s,by rw[Nat.sub_self];rfl,x.1,rfl⟩
  have hk:=lJ h
  obtain⟨s',h1,h2⟩:=Bw h
  exact⟨s',by rw[show j-i=(j-(i+1))+1 by omega];exact h1,h2⟩
theorem yW {l:List Pc}{x:wu l}{j:Nat}{z:R2}(h:(j,some z)∈ig 0 l x):Bq l j=kH z:=by
 obtain⟨s,h1,v,rfl⟩:=Bw h
 unfold Bq
 rw[show l[j]?=some s from h1]
 cases s<;>rfl
theorem Hh (H:cv o n A S F s r a w){j:Nat}{x:R2}(hj:r j=some x){t:Ty}{l:List (El t)}(hx:iu x=some ⟨t,l⟩){K:Nat->Prop}(hK:¬K j):Rd (fun k=>k<w.heap.size/\¬gK A r K k) w (A.v j) l:=by
 have hm:bw A r j=some (x.den A j):=by simp[bw,hj]
 cases x with
 |ro t' l'=>cases hx;exact Rd.up (fun k hk=>⟨H.bB.iI k hk,fun q=>(H.kX q).2.2 hk⟩) (H.bB.ok j _ hm)
 |ar t' l'=>
  cases hx
  refine(Rd.keep H.bB.old (H.args j _ hj)).up fun k hk=>⟨Nat.lt_of_lt_of_le hk.1 H.bB.pT.size,fun q=>?_⟩
  rcases(H.kX q).1 with z|z
  .have:=hk.1;omega
  exact hk.2 z
 |row e t' l'=>
  cases hx
  refine(dg.rd (H.bB.ok j _ hm)).up fun k hk=>?_
  rcases hk with hk|hk
  .exact⟨H.bB.iI k hk,fun q=>(H.kX q).2.2 hk⟩
  refine⟨(H.bB.own j _ k hm hk).2.1,fun⟨i,y,q1,q2,q3⟩=>?_⟩
  have Vx:bw A r i=some (y.den A i):=by simp[bw,q2]
  have:=H.bB.apart j i _ _ k hm Vx hk q3
  subst this
  exact hK q1
 |ext y=>
  cases y with
  |vw q lo e t' l'=>
   cases hx
   have fq:dg S w e (A.v q) l'/\mM (A.v j) (A.v q) lo (Data.size (El t)):=H.bB.ok j _ hm
   refine(th fq.1 fq.2).1.up fun k hk=>?_
   rcases hk with hk|hk
   .exact⟨H.bB.iI k hk,fun q=>(H.kX q).2.2 hk⟩
   refine⟨(H.bB.own j _ k hm hk).2.1,fun⟨i,y,q1,q2,q3⟩=>?_⟩
   have Vx:bw A r i=some (y.den A i):=by simp[bw,q2]
   have:=H.bB.apart j i _ _ k hm Vx hk q3
   subst this
   exact hK q1
  |_=>cases hx
 |_=>cases hx
theorem Sf {A B:bF}{b k l i:Nat}(h1:k<=i)(h2:i<l):(nF A B b k l).v (b+i)=B.v i/\(nF A B b k l).b (b+i)=B.b i/\(nF A B b k l).f (b+i)=B.f i/\(nF A B b k l).m (b+i)=B.m i:=by
 have q:b+k<=b+i/\b+i<b+l:=⟨by omega,by omega⟩
 have e:b+i-b=i:=by omega
 unfold nF bF.v
 simp only[if_pos q,e]
 exact⟨tv,tv,tv,tv⟩
theorem Sg {A B:bF}{b k l j:Nat}(h:¬(b+k<=j/\j<b+l)):A.v j=(nF A B b k l).v j/\A.b j=(nF A B b k l).b j/\A.f j=(nF A B b k l).f j/\A.m j=(nF A B b k l).m j:=by
 unfold nF bF.v
 simp only[if_neg h]
 exact⟨tv,tv,tv,tv⟩
theorem E1:∀ {ys:List Sy},ys.all Zu=true->ys.map (Sy.den A)=(ys.flatMap aH).map (Sc.den A)
 |[],_=>rfl
 |y::ys,h=>by
  rw[List.all_cons,Bool.and_eq_true] at h
  cases y with
  |one c=>rw[List.flatMap_cons,List.map_cons,E1 h.2];rfl
  |agg _=>cases h.1
  |mU _=>cases h.1
theorem Sh {f:FuncId}{m:rD}{rY:m.X->Prop}{fx:m.X->m.Y}(ok:eO P f m rY fx):x4 P f (VZ m rY fx):=by
 intro o n A S F s r a w b B cr ys out H hF Uh _ h cE _ hB
 unfold VZ at h
 have Xz:ys.map (Sy.den A)++cr.map (fun c=>Value.pointer (some ⟨A.b c.1,c.2,none⟩))=(ys++cr.map fun c=>Sy.one (.ptr c.1 c.2)).map (Sy.den A):=by
  rw[List.map_append,List.map_map];rfl
 generalize (ys++cr.map fun c=>Sy.one (.ptr c.1 c.2))=zs at*
 obtain⟨xa,ρ,h1,_,hC⟩:=Bu _ _ _ _ h
 clear h
 obtain⟨xs,fQ,h2,hle,hP⟩:=K9 _ _ _ _ h1
 clear h1
 split at h2
 .rename_i re cs zX Zy
  obtain⟨hg,h3⟩:=ax h2
  clear h2
  have e:=aW h3
  subst e
  clear h3
  unfold Zv at hg
  simp only[Bool.and_eq_true,decide_eq_true_eq] at hg
  obtain⟨g1,g2,g3,g4,g5,g6,g7⟩:=hg
  have aa8:∀i,Bq m.qt i=true->i<m.kp/\Bq m.sh i=true:=fun i hi=>by
   have hl:i<m.qt.length:=by
    unfold Bq at hi
    split at hi
    .rename_i sp hsp;exact(List.getElem?_eq_some_iff.1 hsp).1
    cases hi
   have:=List.all_eq_true.1 g7 i (List.mem_range.2 hl)
   rw[hi] at this
   simp only[Bool.not_true,Bool.false_or,Bool.and_eq_true,Nat.blt_eq] at this
   exact this
  have Cl:rY (xs,xa):=cE _ (List.mem_singleton.2 rfl)
  generalize hy:fx (xs,xa)=y at*
  generalize hτ:E0 (EZ m.kp fQ b) m.qt.length=τ at*
  have refl:He fQ fQ:=fun _ _ q=>q
  have fE:∀j rr,bw (dY A fQ) (aQ (fun _=>none) (ig 0 m.sh xs)) j=some rr->(∃q z,bO fQ j=some (some q)/\Bq m.sh j=false/\r q=some z/\bw A r q=some rr/\rr=z.den A q)\/((∀c,¬rr.has c)/\rr.ok S w):=fun j rr hj=>by
   obtain⟨z,hz,rfl⟩:=Option.map_eq_some_iff.1 hj
   have QX:=yW (jJ hz)
   rcases hP j z (jJ hz) A fQ refl with⟨k0,⟨q,t,k1,k2,k3⟩|⟨k1,e,t,rfl⟩⟩|⟨t,l,rfl,_⟩
   .exact .inl ⟨q,t,k1,QX.trans k0,k2,by show(r q).map _=_;rw[k2,k3];rfl,k3⟩
   .have ev:=yq (A:=A) k1
    refine .inr ⟨fun c q=>?_,?_⟩
    .have q:((dY A fQ).v j).ownBlock=some c:=q
     rw[ev] at q;cases q
    show dg S w e ((dY A fQ).v j) ([]:List (El t))
    rw[ev];exact dg.nil
   exact .inr ⟨fun c q=>q,tv⟩
  have Nk:∀ {i j q:Nat},bO fQ i=some (some q)->bO fQ j=some (some q)->i=j:=fun {i j q} hi hj=>by
   have:=List.all_eq_true.1 (List.all_eq_true.1 g2 _ (nu hi)) _ (nu hj)
   rw[Bool.or_eq_true] at this
   rcases this with k|k
   .exact b6 k
   simp at k
  have hK:∀ {q:Nat},(∃j,(j,some q)∈fQ/\Bq m.sh j=false)->∃x,(q,x)∈re++(yV m.sh fQ).map fun q=>(q,(none:Option R2)):=fun {q} ⟨j,hj,hjr⟩=>
   ⟨none,List.mem_append_right _ (List.mem_map.2 ⟨q,List.mem_filterMap.2 ⟨_,List.mem_filter.2 ⟨hj,by rw[hjr];rfl⟩,rfl⟩,rfl⟩)⟩
  have o2c:∃o2:bC,o2.w=w/\o2.S=S/\o2.G=gK A r (fun q=> ∃j,(j,some q)∈fQ/\Bq m.sh j=false):=⟨⟨⟨w,S,H.bB.iI⟩,gK A r (fun q=> ∃j,(j,some q)∈fQ/\Bq m.sh j=false),fun k hk=>(H.kX hk).2.2,fun k hk=>(H.kX hk).2.1,fun _=>False,Mq,0⟩,rfl,rfl,rfl⟩
  obtain⟨o2,Ah,Zz,ZA⟩:=o2c
  have eS:gp o2 w S (bw (dY A fQ) (aQ (fun _=>none) (ig 0 m.sh xs))):=by
   refine⟨by rw[Ah];exact jZ.refl _ _,fun k hk=>.inl (by rw[Zz];exact hk),H.bB.iI,fun j rr hj=>?_,fun j rr c hj hc=>?_,fun i j ri rj c hi hj ei ej=>?_⟩
   .rcases fE j rr hj with⟨q,z,k1,_,k2,k3,k4⟩|⟨_,k2⟩
    .exact H.bB.ok q rr k3
    exact k2
   .rcases fE j rr hj with⟨q,z,k1,k0,k2,k3,k4⟩|⟨k1,_⟩
    .have:=H.bB.own q rr c k3 hc
     refine⟨.inr ?_,this.2⟩
     rw[ZA]
     exact⟨q,z,⟨j,nu k1,k0⟩,k2,by rw[<-k4];exact hc⟩
    exact(k1 c hc).elim
   rcases fE i ri hi with⟨q,z,k1,_,k2,k3,k4⟩|⟨k1,_⟩
   .rcases fE j rj hj with⟨q',z',l1,_,l2,l3,l4⟩|⟨l1,_⟩
    .have:=H.bB.apart q q' ri rj c k3 l3 ei ej
     subst this
     exact Nk k1 l1
    exact(l1 c ej).elim
   exact(k1 c ei).elim
  have dD:(ys.map (Sy.den A)++cr.map fun c=>Value.pointer (some ⟨A.b c.1,c.2,none⟩))=(iF m.ar xa).map (Sc.den (dY A fQ)):=by
   rw[Xz,hC A fQ hle,E1 g1]
  rw[dD]
  have har:∀j y,aQ (fun _=>none) (ig 0 m.sh xs) j=some y->tj (o2.Sb (dY A fQ) m.kp) (dY A fQ) j y:=fun j y hy=>by
   have QX:=yW (jJ hy)
   rcases hP j y (jJ hy) A fQ refl with⟨k0,_⟩|⟨t,l,rfl,⟨q,z,k1,k2,k3⟩|⟨k1,rfl⟩⟩
   .exact gJ k0
   .have hnK:¬(fun q=> ∃j,(j,some q)∈fQ/\Bq m.sh j=false) q:=fun⟨j',m1,m2⟩=>by
     have:=List.all_eq_true.1 (List.all_eq_true.1 g2 _ m1) _ (nu k1)
     rw[Bool.or_eq_true] at this
     rcases this with e|e
     .have e:=b6 e
      dsimp only at e
      rw[e,QX] at m2;cases m2
     simp at e
    have gF:=Hh (K:=fun q=> ∃j,(j,some q)∈fQ/\Bq m.sh j=false) H k2 k3 hnK
    show Rd o2.old o2.w ((dY A fQ).v j) l
    rw[(eN (A:=A) k1).1]
    unfold bC.old
    rw[ZA,Ah]
    exact gF
   show Rd o2.old o2.w ((dY A fQ).v j) ([]:List (El t))
   rw[yq (A:=A) k1]
   exact F9
  have Au:=ok o2 (dY A fQ) (xs,xa) (by rw[Ah,Zz];exact eS.gv) har Cl
  rw[Ah] at Au
  refine Au.mono fun e w' ⟨v,he,A2,S2,hA2,F2',hv⟩=>⟨v,he,?_⟩
  have F2:=F2'.aa5
  rw[hy] at F2 hv
  clear F2'
  have ZB:jZ w w' (gK A r (fun q=> ∃j,(j,some q)∈fQ/\Bq m.sh j=false)):=by have:=F2.pT;rwa[Ah,ZA] at this
  have OF:∀ {i:Nat},i<m.qt.length->bO τ i=some (EZ m.kp fQ b i):=fun {i} hi=>by rw[<-hτ];exact I6 hi
  have ZC:∀ {i:Nat} {v:Option Nat},bO τ i=some v->i<m.qt.length:=fun {i v} hi=>by rw[<-hτ] at hi;exact I7 hi
  have Hi:∀ {i:Nat},m.kp<=i->i<m.qt.length->bO τ i=some (some (b+i)):=fun {i} h1 h2=>by
   rw[OF h2];unfold EZ
   have:Nat.blt i m.kp=false:=by
    cases hb:Nat.blt i m.kp with
    |true=>
     have:i<m.kp:=by simpa using Nat.blt_eq▸hb
     omega
    |false=>rfl
   rw[this]
  have ZD:∀ {i:Nat},i<m.kp->∃q,bO fQ i=some (some q)/\F q/\EZ m.kp fQ b i=some q:=fun {i} hi=>by
   obtain⟨sp,v,q1,q2⟩:=u9 (x:=xs) (i:=0) (Nat.zero_le i) (by rw[Nat.zero_add];omega)
   have hb:Nat.blt i m.kp=true:=by simpa[Nat.blt_eq] using hi
   have h6:=List.all_eq_true.1 g6 i (List.mem_range.2 hi)
   rcases hP i _ q2 A fQ refl with⟨_,⟨q,t,k1,k2,k3⟩|⟨k1,_⟩⟩|⟨_,_,_,⟨q,t,k1,k2,k3⟩|⟨k1,_⟩⟩
   .exact⟨q,k1,(H.dB q t k2).1,by unfold EZ;rw[hb,k1]⟩
   .rw[k1] at h6;cases h6
   .exact⟨q,k1,(H.dB q t k2).1,by unfold EZ;rw[hb,k1]⟩
   rw[k1] at h6;cases h6
  have lZ:∀ {i:Nat},m.kp<=i->i<m.qt.length->∃t,(b+i,some t)∈re:=fun {i} h1 h2=>by
   obtain⟨sp,v,q1,q2⟩:=u9 (x:=y.1) (i:=0) (Nat.zero_le i) (by rw[Nat.zero_add];exact h2)
   have ZE:Bq m.qt i=false:=by
    cases hq:Bq m.qt i with
    |false=>rfl
    |true=>have:=(aa8 i hq).1;omega
   obtain⟨k,x,t,_,k2,_,k4⟩:=OD zX i _ (List.mem_filter.2 ⟨q2,by dsimp only;rw[ZE];rfl⟩)
   rw[Hi h1 h2] at k2
   cases k2
   exact⟨t,k4⟩
  have hA:cR F A (nF A A2 b m.kp m.qt.length):=fun j hj=>Sg fun⟨q1,q2⟩=>by
   obtain⟨t,ht⟩:=lZ (i:=j-b) (by omega) (by omega)
   have:=hB _ (List.mem_append_left _ ht)
   have e:b+(j-b)=j:=by omega
   simp only[e] at this
   exact hF j (by omega) this hj
  have ZF:∀i k,bO τ i=some (some k)->FU F (re++(yV m.sh fQ).map fun q=>(q,(none:Option R2))) k:=fun i k hi=>by
   have hl:=ZC hi
   by_cases q:i<m.kp
   .obtain⟨q',_,k2,k3⟩:=ZD q
    rw[OF hl,k3] at hi
    cases hi
    exact .inl k2
   rw[Hi (by omega) hl] at hi
   cases hi
   obtain⟨t,ht⟩:=lZ (i:=i) (by omega) hl
   exact .inr ⟨_,List.mem_append_left _ ht⟩
  have ZG:cR (· <m.qt.length) A2 (dY (nF A A2 b m.kp m.qt.length) τ):=fun i hi=>by
   by_cases q:i<m.kp
   .obtain⟨q',k1,k2,k3⟩:=ZD q
    obtain⟨e1,e2,e3,_,e5⟩:=eN (A:=nF A A2 b m.kp m.qt.length) (show bO τ i=some (some q') by rw[OF hi,k3])
    obtain⟨d1,d2,d3,_,d5⟩:=eN (A:=A) k1
    obtain⟨a1,a2,a3,a4⟩:=hA q' k2
    obtain⟨c1,c2,c3,c4⟩:=hA2 i q
    exact⟨by rw[e1,<-a1,<-d1,<-c1],by rw[e2,<-a2,<-d2,<-c2],by rw[e5,<-a3,<-d5,<-c3],by rw[e3,<-a4,<-d3,<-c4]⟩
   obtain⟨e1,e2,e3,_,e5⟩:=eN (A:=nF A A2 b m.kp m.qt.length) (Hi (show m.kp<=i by omega) hi)
   obtain⟨a1,a2,a3,a4⟩:=Sf (A:=A) (B:=A2) (b:=b) (show m.kp<=i by omega) hi
   exact⟨by rw[e1,a1],by rw[e2,a2],by rw[e5,a3],by rw[e3,a4]⟩
  have XP:∀k z,(k,some z)∈re++(yV m.sh fQ).map (fun q=>(q,(none:Option R2)))->∃i,z.den (nF A A2 b m.kp m.qt.length) k=(z.den (nF A A2 b m.kp m.qt.length) k)/\bO τ i=some (some k)/\bw A2 (aQ (fun _=>none) (ig 0 m.qt y.1)) i=some (z.den (nF A A2 b m.kp m.qt.length) k)/\z.all (FU F (re++(yV m.sh fQ).map fun q=>(q,(none:Option R2))))/\z.b7 (nF A A2 b m.kp m.qt.length)/\kH z=false:=fun k z hz=>by
   rcases List.mem_append.1 hz with hz|hz
   .obtain⟨i,x,t,k1,k2,k3,k4⟩:=OE zX k _ hz
    cases k4
    obtain⟨k1,k1r⟩:=List.mem_filter.1 k1
    have k1s:Bq m.qt i=false:=by simpa using k1r
    have QX:=yW k1
    obtain⟨sp,v,q1,q2⟩:=yT k1
    cases q2
    have aa9:sp.Sa=false:=by
     have MH:=k1s.symm.trans QX
     cases sp<;>first|rfl|cases MH
    obtain⟨p1,p2,p3,p4⟩:=Zx ZF k3 k2 aa9 (nF A A2 b m.kp m.qt.length)
    have xe:=Pc.OA (v:=v) (List.all_eq_true.1 g4 sp q1)
    have hl:=(lJ k1).2
    rw[Nat.zero_add] at hl
    refine⟨i,rfl,k2,?_,p2,p3,p4⟩
    show(aQ _ _ i).map _=_
    rw[Br k1,p1,<-R2.congr ZG hl xe.1]
    rfl
   obtain⟨q,_,hq⟩:=List.mem_map.1 hz
   cases hq
  have hsw:=H.swap hA (w':=w') (S':=fun k=>S k\/S2 k) (re:=re++(yV m.sh fQ).map fun q=>(q,(none:Option R2))) (fun q=> ∃j,(j,some q)∈fQ/\Bq m.sh j=false) (fun q hq=>hK hq) ZB (fun k hk=>.inl hk) (fun k hk=>by
   rcases hk with hk|hk
   .exact .inl hk
   .rcases F2.src k hk with q|q
    .exact .inl (by rw[Zz] at q;exact q)
    refine .inr ⟨?_,F2.iI k hk,fun j z hz=>?_⟩
    .rcases q with q|q
     .exact .inr (by rw[Ah] at q;exact q)
     exact .inl (by rw[ZA] at q;exact q)
    obtain⟨i,_,_,k2,_⟩:=XP j z hz
    exact fun hh=>(F2.own i _ k k2 hh).2.2 hk) (fun j z hz=>by
   obtain⟨i,_,_,k2,k3,k4,k5⟩:=XP j z hz
   refine⟨k3,k4,k5,(z.den _ j).up _ _ _ (F2.ok i _ k2) fun _ q=>.inr q,fun c hc=>?_⟩
   obtain⟨q1,q2,_⟩:=F2.own i _ c k2 hc
   refine⟨?_,q2⟩
   rcases q1 with q|q
   .exact .inr (by rw[Ah] at q;exact q)
   .exact .inl (by rw[ZA] at q;exact q)) (fun i j zi zj c hi hj ei ej=>by
   obtain⟨i',_,ki,k2,_⟩:=XP i zi hi
   obtain⟨j',_,kj,l2,_⟩:=XP j zj hj
   have:=F2.apart i' j' _ _ c k2 l2 ei ej
   subst this
   rw[ki] at kj
   cases kj;rfl)
  have Ng:((cs.map Sy.one).all fun y=>match y with| .mU _=>false|_=>true)=true:=by
   rw[List.all_map];exact List.all_eq_true.2 fun _ _=>rfl
  have dL:∀z∈cs.map Sy.one,z.all (FU F (re++(yV m.sh fQ).map fun q=>(q,(none:Option R2))))/\z.b7 (nF A A2 b m.kp m.qt.length):=fun z hz=>by
   obtain⟨c,hc,rfl⟩:=List.mem_map.1 hz
   have:=Hg ZF Zy c hc
   exact⟨this.1,this.2 _⟩
  refine⟨_,_,hsw,?_,(uW dL).1,(uW dL).2⟩
  show v=(vQ (cs.map Sy.one)).den _
  rw[A8 Ng,List.map_map,hv]
  congr 1
  rw[jB ZG fun c hc=>(nC g5 c hc).1,(yt Zy).1]
  exact List.map_congr_left fun _ _=>rfl
 cases h2
def oJ {f:FuncId}{m:rD}{rY:m.X->Prop}{fx:m.X->m.Y}(ok:eO P f m rY fx):dy P:=⟨f,VZ m rY fx,Sh ok⟩
end
section
variable {P:Program}{T':aL}{v:Value}
def V0 (c9:List (Bool×Ty))(x:jE c9)(raw:List Value):gW:=⟨r8 0 ((cU c9 x 0).1++raw.map fun u=>.one (l7 u)),(cU c9 x 0).2,(cU c9 x 0).2.length⟩
theorem Si {f:FuncId}(fn:Func)(n:Nat)(T:List (dy P)){c9:List (Bool×Ty)}{rs:List Ty}{fx:iX rs}(raw:List Value)(o:Orig)(vs:List Value)(x:jE c9)(hx:vG o.S (· <o.w.heap.size) o.w c9 vs x)(hf:P.funcs[f]?=some fn)
  (k:∀a w,iZ (bC.of o) n (V0 c9 x raw) a w->At pl P T (fn.body.getD .skip) (bodyPost P fn (Ie o fun S v w'=>kA S w' rs v fx)) [.run []] a w)
  (hb:fn.body.isSome=true:=by kernel_rfl) (hn:fn.ntmps=n:=by kernel_rfl) (hl:decide (c9.length+raw.length<=n)=true:=by kernel_rfl):Calls P f (vs++raw).toArray o.w (Ie o fun S v w'=>kA S w' rs v fx):=by
 have hlen:=qV hx
 refine enter fn n hf (fun a ha=>?_) hb hn (by rw[List.length_append,hlen];exact hl)
 obtain⟨A,h1,h2,h3,h5,h4⟩:=qT (o:=bC.of o) c9 x vs 0 Mq (fun _=>False) (qc (fun k hk=>⟨hk,fun q=>q⟩) hx) fun _ _ q=>q
 have dL:((cU c9 x 0).1++raw.map fun u=>Sy.one (l7 u)).map (Sy.den A)=vs++raw:=by
  rw[List.map_append,h2,List.map_map]
  congr 1
  exact(List.map_congr_left fun u _=>pU A u).trans (List.map_id raw)
 have Ec:∀y∈(cU c9 x 0).1++raw.map fun u=>Sy.one (l7 u),y.all (FU (fun _=>False) (cU c9 x 0).2)/\y.b7 A:=fun y hy=>by
  rcases List.mem_append.1 hy with hy|hy
  .exact h4 y hy
  obtain⟨u,_,rfl⟩:=List.mem_map.1 hy
  exact⟨pV _ u,nc A u⟩
 have ji:∀t e,nX (V0 c9 x raw) t=some e->e.ch=[]/\∃y,((cU c9 x 0).1++raw.map fun u=>Sy.one (l7 u))[t]?=some y/\e=⟨[],y⟩:=fun t e he=>by
  obtain⟨_,y,q1,q2⟩:=kN he
  exact⟨by rw[q2],y,by simpa using q1,q2⟩
 have H0:cv (bC.of o) n A o.S (fun _=>False) (fun _=>none) (fun _=>none) a o.w:=⟨ha.1,ha.2.1,fun _ _ q=>(by cases q),fun _ _ q=>(by cases q),fun _ _ q=>(by cases q),gp.start (bC.of o),fun _ _ q=>(by cases q),⟨fun _ q=>q.elim,fun _ q=>q.elim⟩⟩
 have H1:=H0.ro (cR.refl _ _) h3
 have hle:∀j,FU (fun _=>False) (cU c9 x 0).2 j->j<(cU c9 x 0).2.length:=fun j hj=>by
  rcases hj with hj|⟨z,hz⟩
  .exact hj.elim
  have:=h5 _ hz;simpa using this
 have qd:iZ (bC.of o) n (V0 c9 x raw) a o.w:=by
  refine⟨⟨A,o.S,H1.size,H1.fh,fun t e he=>?_,fun t e he _=>?_,fun j y hj=>?_,H1.bB,H1.args,⟨fun _ q=>q.elim,fun _ q=>q.elim⟩⟩,fun t e he=>(ji t e he).1,fun _ q=>q.elim⟩
  .obtain⟨_,y,q1,rfl⟩:=ji t e he
   have hv:(vs++raw)[t]?=some (y.den A):=by rw[<-dL,List.getElem?_map,q1];rfl
   have A7:=(List.getElem?_eq_some_iff.1 hv).1
   refine ha.2.2 ⟨t,[],y.den A⟩ (List.mem_map.2 ⟨(t,y.den A),?_,rfl⟩)
   refine List.mem_iff_getElem?.2 ⟨t,?_⟩
   rw[List.getElem?_zip_eq_some]
   exact⟨by rw[List.getElem?_range A7],hv⟩
  .obtain⟨_,y,q1,rfl⟩:=ji t e he
   have:=Ec y (List.mem_of_getElem? q1)
   exact⟨Sy.mono hle this.1,this.2⟩
  have:=H1.dB j y hj
  exact⟨hle j this.1,R2.mono hle this.2.1,this.2.2⟩
 have:=k a o.w qd
 have this:(sub (fn.body.getD .skip) []).j7 pl P (post pl P (fn.body.getD .skip) (bodyPost P fn (Ie o fun S v w'=>kA S w' rs v fx)) []) a o.w:=this.get
 have this:=yj.1 this
 exact this
def V1 (w:World):Orig:=⟨w,fun k=>k<w.heap.size,fun _ h=>h⟩
theorem La {f:FuncId}{args:Array Value}{w:World}{b:Bool}(h:Calls P f args w (Ie (V1 w) fun S v w'=>kA S w' [.bool] v ((b,()):iX [.bool]))):Calls P f args w (Ans (.bool b) w):=
 h.mono fun e w' ⟨v,h1,h2,h3⟩=>by
  obtain⟨cs,q1,q2⟩:Rd (rT (V1 w) w') w' v (show Bool from b):=h2
  have q1:cs=[.bool b]:=q1
  subst q1
  exact⟨by rw[h1,q2];rfl,h3⟩
end
def fW (u:List Int):Prop:=∀j:Nat,j<u.length->0<=u.getD j 0/\u.getD j 0<=(j:Int)
def Bx (u:List Int):Nat->Int->Int
 |0,i=>i
 |f+1,i=>if u.getD i.toNat 0=i then i else Bx u f (u.getD i.toNat 0)
def aD (u:List Int)(i:Int):Int:=Bx u (i.toNat+1) i
theorem dX {u:List Int}(h:fW u){i:Int}(h0:0<=i)(h1:i<(u.length:Int)):0<=u.getD i.toNat 0/\u.getD i.toNat 0<=i:=by
 have:=h i.toNat (by omega);omega
theorem By {u:List Int}(h:fW u):∀(f g:Nat) (i:Int),0<=i->i<(u.length:Int)->i.toNat<f->i.toNat<g->Bx u f i=Bx u g i
 |0,_,_,_,_,h,_=>by omega
 |_+1,0,_,_,_,_,h=>by omega
 |f+1,g+1,i,h0,h1,hf,hg=>by
  unfold Bx
  split
  .rfl
  rename_i cO
  have:=dX h h0 h1
  exact By h f g _ this.1 (by omega) (by omega) (by omega)
theorem fZ {u:List Int}(h:fW u){i:Int}(h0:0<=i)(h1:i<(u.length:Int)):aD u i=if u.getD i.toNat 0=i then i else aD u (u.getD i.toNat 0):=by
 unfold aD
 conv=>lhs;unfold Bx
 split
 .rfl
 rename_i cO
 have:=dX h h0 h1
 exact By h _ _ _ this.1 (by omega) (by omega) (by omega)
theorem dm {u:List Int}(h:fW u){i:Int}(h0:0<=i)(h1:i<(u.length:Int))(hr:u.getD i.toNat 0=i):aD u i=i:=by rw[fZ h h0 h1,if_pos hr]
theorem tV {u:List Int}(h:fW u){i:Int}(h0:0<=i)(h1:i<(u.length:Int)):aD u (u.getD i.toNat 0)=aD u i:=by
 rw[fZ h h0 h1]
 split
 .rename_i e;rw[e];exact dm h h0 h1 e
 rfl
theorem OG {u:List Int}(h:fW u):∀(n:Nat) (i:Int),i.toNat<=n->0<=i->i<(u.length:Int)->0<=aD u i/\aD u i<=i/\u.getD (aD u i).toNat 0=aD u i:=by
 intro n
 induction n with
 |zero=>
  intro i hn h0 h1
  have:=dX h h0 h1
  rw[dm h h0 h1 (by omega)]
  exact⟨h0,Int.le_refl _,by omega⟩
 |succ n ih=>
  intro i hn h0 h1
  have hu:=dX h h0 h1
  rw[fZ h h0 h1]
  split
  .rename_i e;exact⟨h0,Int.le_refl _,e⟩
  rename_i e
  obtain⟨a,b,c⟩:=ih (u.getD i.toNat 0) (by omega) hu.1 (by omega)
  exact⟨a,by omega,c⟩
theorem eP {u:List Int}(h:fW u){i:Int}(h0:0<=i)(h1:i<(u.length:Int)):0<=aD u i/\aD u i<=i/\u.getD (aD u i).toNat 0=aD u i:=OG h _ i (Nat.le_refl _) h0 h1
theorem iR {u:List Int}(h:fW u){i:Int}(h0:0<=i)(h1:i<(u.length:Int)):aD u (aD u i)=aD u i:=by
 obtain⟨a,b,c⟩:=eP h h0 h1
 exact dm h a (by omega) c
theorem lK {u:List Int}{i j:Nat}{x:Int}(hi:i<u.length):(u.set i x).getD j 0=if i=j then x else u.getD j 0:=by
 rw[List.getD_eq_getElem?_getD,List.getElem?_set,List.getD_eq_getElem?_getD]
 split
 .rename_i e;subst e;simp[hi]
 rfl
theorem CX {u:List Int}(h:fW u){i:Int}(h0:0<=i)(h1:i<(u.length:Int)):
  fW (u.set i.toNat (u.getD (u.getD i.toNat 0).toNat 0))/\∀j,0<=j->j<(u.length:Int)->aD (u.set i.toNat (u.getD (u.getD i.toNat 0).toNat 0)) j=aD u j:=by
 have hu:=dX h h0 h1
 have hz:=dX h hu.1 (show u.getD i.toNat 0<(u.length:Int) by omega)
 have fq:fW (u.set i.toNat (u.getD (u.getD i.toNat 0).toNat 0)):=by
  intro j hj
  rw[List.length_set] at hj
  rw[lK (by omega)]
  split
  .rename_i e;subst e;omega
  exact h j hj
 refine⟨fq,?_⟩
 have key:∀(n:Nat) (j:Int),j.toNat<=n->0<=j->j<(u.length:Int)->aD (u.set i.toNat (u.getD (u.getD i.toNat 0).toNat 0)) j=aD u j:=by
  intro n
  induction n with
  |zero=>
   intro j hn rZ oC
   have a:=dX h rZ oC
   have b:=dX fq rZ (by rw[List.length_set];exact oC)
   rw[dm h rZ oC (by omega),dm fq rZ (by rw[List.length_set];exact oC) (by omega)]
  |succ n ih=>
   intro j hn rZ oC
   have a:=dX h rZ oC
   have V2:j<((u.set i.toNat (u.getD (u.getD i.toNat 0).toNat 0)).length:Int):=by rw[List.length_set];exact oC
   rw[fZ fq rZ V2,lK (by omega)]
   by_cases e:i.toNat=j.toNat
   .have e:i=j:=by omega
    subst e
    rw[if_pos rfl]
    by_cases c:u.getD (u.getD i.toNat 0).toNat 0=i
    .rw[if_pos c,dm h h0 h1 (by omega)]
    rw[if_neg c,ih _ (by omega) hz.1 (by omega),tV h hu.1 (by omega),tV h h0 h1]
   rw[if_neg e]
   rw[fZ h rZ oC]
   split
   .rfl
   exact ih _ (by omega) a.1 (by omega)
 exact fun j=>key j.toNat j (Nat.le_refl _)
theorem Sj {u:List Int}(h:fW u){r s:Int}(hr:0<=r)(hs:0<=s)(hr1:r<(u.length:Int))(hs1:s<(u.length:Int))(er:u.getD r.toNat 0=r)(es:u.getD s.toNat 0=s)(cO:r≠s):
  fW (u.set (max r s).toNat (min r s))/\∀j,0<=j->j<(u.length:Int)->aD (u.set (max r s).toNat (min r s)) j=if aD u j=max r s then min r s else aD u j:=by
 have fq:fW (u.set (max r s).toNat (min r s)):=by
  intro j hj
  rw[List.length_set] at hj
  rw[lK (by omega)]
  split
  .rename_i e;subst e;omega
  exact h j hj
 refine⟨fq,?_⟩
 have rM:u.getD (max r s).toNat 0=max r s:=by
  rcases Int.le_total r s with q|q
  .rw[Int.max_eq_right q];exact es
  rw[Int.max_eq_left q];exact er
 have rm:u.getD (min r s).toNat 0=min r s:=by
  rcases Int.le_total r s with q|q
  .rw[Int.min_eq_left q];exact er
  rw[Int.min_eq_right q];exact es
 have key:∀(n:Nat) (j:Int),j.toNat<=n->0<=j->j<(u.length:Int)->aD (u.set (max r s).toNat (min r s)) j=if aD u j=max r s then min r s else aD u j:=by
  intro n
  induction n with
  |zero=>
   intro j hn rZ oC
   have a:=dX h rZ oC
   have b:=dX fq rZ (by rw[List.length_set];exact oC)
   rw[dm h rZ oC (by omega),dm fq rZ (by rw[List.length_set];exact oC) (by omega),if_neg (by omega)]
  |succ n ih=>
   intro j hn rZ oC
   have a:=dX h rZ oC
   have V2:j<((u.set (max r s).toNat (min r s)).length:Int):=by rw[List.length_set];exact oC
   rw[fZ fq rZ V2,lK (by omega)]
   by_cases e:(max r s).toNat=j.toNat
   .have e:j=max r s:=by omega
    subst e
    rw[if_pos rfl,if_neg (by omega),ih (min r s) (by omega) (by omega) (by omega),dm h (by omega) (by omega) rm,dm h rZ oC rM,if_neg (by omega),if_pos rfl]
   rw[if_neg e,fZ h rZ oC]
   split
   .rename_i c;rw[if_neg (by omega)]
   exact ih _ (by omega) a.1 (by omega)
 exact fun j=>key j.toNat j (Nat.le_refl _)
theorem mK {u:List Int}{j:Nat}{x:Int}:(u++[x]).getD j 0=if j<u.length then u.getD j 0 else if j=u.length then x else 0:=by
 rw[List.getD_eq_getElem?_getD,List.getD_eq_getElem?_getD,List.getElem?_append]
 split
 .rfl
 by_cases e:j=u.length
 .rw[if_pos e];simp[e]
 rw[if_neg e,List.getElem?_eq_none (by simp;omega)];rfl
theorem Hj {u:List Int}(h:fW u):fW (u++[(u.length:Int)])/\(∀j,0<=j->j<(u.length:Int)->aD (u++[(u.length:Int)]) j=aD u j)/\aD (u++[(u.length:Int)]) (u.length:Int)=(u.length:Int):=by
 have fq:fW (u++[(u.length:Int)]):=by
  intro j hj
  rw[List.length_append,List.length_singleton] at hj
  rw[mK]
  split
  .exact h j (by assumption)
  rw[if_pos (by omega)];omega
 have hl:((u++[(u.length:Int)]).length:Int)=(u.length:Int)+1:=by simp
 refine⟨fq,?_,dm fq (by omega) (by omega) (by rw[mK,if_neg (by omega),if_pos (by omega)])⟩
 have key:∀(n:Nat) (j:Int),j.toNat<=n->0<=j->j<(u.length:Int)->aD (u++[(u.length:Int)]) j=aD u j:=by
  intro n
  induction n with
  |zero=>
   intro j hn rZ oC
   have a:=dX h rZ oC
   rw[dm h rZ oC (by omega),dm fq rZ (by omega) (by rw[mK,if_pos (by omega)];omega)]
  |succ n ih=>
   intro j hn rZ oC
   have a:=dX h rZ oC
   have e9:(u++[(u.length:Int)]).getD j.toNat 0=u.getD j.toNat 0:=by rw[mK,if_pos (by omega)]
   rw[fZ fq rZ (by omega),fZ h rZ oC,e9]
   split
   .rfl
   exact ih _ (by omega) a.1 (by omega)
 exact fun j=>key j.toNat j (Nat.le_refl _)
end Go.Proofs.YtnfdimfepbbbpaaGreat
