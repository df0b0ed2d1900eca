/-
  Texts joined by program: VZ2, DartsJ, VRF, VPD, VRL, VRL2, FlC, VY, SetsU, WkS, GraphA, GraphB, BlockT, BlockU, BlockV, BlockW, GraphC, GraphD, BlockX, WkA.
-/
import Derived.Test.YtnfdimfepbbbpaaGreatDoorJFileCases4
import Derived.RangeFuncNested
import Derived.RangeFuncBound
import Derived.RangeFuncCalls
import Derived.RangeFuncLeaves
import Derived.Shelf.Abstract
import Derived.Shelf.RegionOpen
import Derived.WalkKit
import Derived.OwnWalkIn
import Derived.TacticsInMore
import Derived.LoopNIn
import Derived.LoopIn
import Derived.Test.YtnfdimfepbbbpaaGreatDoorProg
import Derived.RangeFuncRecord
import Derived.RecoverIn
import Derived.Tactics
import Derived.Tactics2
import Derived.Defers
import Derived.Recover
import Derived.Laws.Pointers
import Derived.Lib.SlicesCompact
import Derived.Lib.RowBridge
set_option linter.unusedSimpArgs false
set_option linter.unusedVariables false
set_option maxRecDepth 100000
set_option maxHeartbeats 8000000
namespace Go.Proofs.YtnfdimfepbbbpaaGreatDoor
open Go.RowKit
def tauF (kp:Nat)(ρ:List (Nat×Option Nat))(b i:Nat):Option Nat:=match Nat.blt i kp with
 |true=>match rnOf ρ i with
  |some v=>v
  |none=>none
 |false=>some (b+i)
def tauL (g:Nat->Option Nat):Nat->List (Nat×Option Nat)
 |0=>[]
 |k+1=>(k,g k)::tauL g k
def rnP (τ:List (Nat×Option Nat)):List (Nat×Option R2)->Option (List (Nat×Option R2))
 |[]=>some []
 |(i,some x)::l=>match rnOf τ i,x.rn τ,rnP τ l with
  |some (some k),some t,some l'=>some ((k,some t)::l')
  |_,_,_=>none
 |(_,none)::_=>none
def keepL (sh:List Pc)(l:List (Nat×Option R2)):List (Nat×Option R2):=l.filter fun p=>!rdB sh p.1
def goneL (sh:List Pc)(ρ:List (Nat×Option Nat)):List Nat:=(ρ.filter fun p=>!rdB sh p.1).filterMap (·.2)
def oneB:Sy->Bool
 | .one _=>true
 |_=>false
def shG:List (Option Nat)->List Sy->Bool
 |none::g,.one _::ys=>shG g ys
 |some k::g,.agg cs::ys=>Nat.beq cs.length k && shG g ys
 |[],ys=>ys.all oneB
 |_,_=>false
def okMB (m:MSh)(ρ:List (Nat×Option Nat))(ys:List Sy):Bool:=
 shG m.ga ys && ((ρ.all fun p=>ρ.all fun q=>Nat.beq p.1 q.1||(match p.2,q.2 with|some a,some b=>!Nat.beq a b|_,_=>true)) && (decide (m.kp<=m.sh.length) && (m.sh'.all (Pc.below m.sh'.length) && (m.rs.all (Cp.below m.sh'.length) && (((List.range m.kp).all fun i=>match rnOf ρ i with|some (some _)=>true|_=>false) && (List.range m.sh'.length).all fun i=>!rdB m.sh' i||(Nat.blt i m.kp && rdB m.sh i))))))
def memT (m:MSh)(dom:m.X->Prop)(fx:m.X->m.Y)(b:Nat)(caps:List (Nat×Nat))(ys:List Sy):Tr Out:=
 gathC m.ar ((ys++caps.map fun c=>Sy.one (.ptr c.1 c.2)).flatMap syCells) [] fun xa ρ=>gathP 0 m.sh ρ fun xs ρ'=>
  match rnP (tauL (tauF m.kp ρ' b) m.sh'.length) (keepL m.sh' (memOf 0 m.sh' (fx (xs,xa)).1)),rnL (tauL (tauF m.kp ρ' b) m.sh'.length) (scsOf m.rs (fx (xs,xa)).2) with
  |some re,some cs=>guardT (okMB m ρ' (ys++caps.map fun c=>Sy.one (.ptr c.1 c.2))) (.ret ⟨[dom (xs,xa)],[],oneSy (syl m.ag cs),re++(goneL m.sh ρ').map fun q=>(q,none)⟩)
  |_,_=>.fail
def mixA (A B:Asg)(b k l:Nat):Asg:=
 ⟨fun j=>if b+k<=j/\j<b+l then B.p (j-b) else A.p j,fun j=>if b+k<=j/\j<b+l then B.n (j-b) else A.n j,fun j=>if b+k<=j/\j<b+l then B.c (j-b) else A.c j,fun j=>if b+k<=j/\j<b+l then B.b (j-b) else A.b j,fun j=>if b+k<=j/\j<b+l then B.f (j-b) else A.f j,fun j=>if b+k<=j/\j<b+l then B.m (j-b) else A.m j⟩
section
variable {P:Program}{o:OrgG}{n:Nat}{A A':Asg}{S S':Stab}{F G:Nat->Prop}{s:Nat->Option E2}{r:Nat->Option R2}{a:Act}{w w':World}{T:List (Con P)}
theorem tauL_in {g:Nat->Option Nat}:∀ {l i:Nat},i<l->rnOf (tauL g l) i=some (g i)
 |0,i,h=>by omega
 |l+1,i,h=>by
  unfold tauL rnOf
  cases hb:Nat.beq l i with
  |true=>have:=beq_t hb;subst this;rfl
  |false=>exact tauL_in (by have:=beq_f hb;omega)
theorem tauL_lt {g:Nat->Option Nat}:∀ {l i:Nat} {v:Option Nat},rnOf (tauL g l) i=some v->i<l
 |0,i,v,h=>by cases h
 |l+1,i,v,h=>by
  unfold tauL rnOf at h
  cases hb:Nat.beq l i with
  |true=>have:=beq_t hb;omega
  |false=>rw[hb] at h;have:=tauL_lt h;omega
theorem rnP_to {τ:List (Nat×Option Nat)}:∀ {l re:List (Nat×Option R2)},rnP τ l=some re->∀i z,(i,z)∈l->∃k x t,z=some x/\rnOf τ i=some (some k)/\x.rn τ=some t/\(k,some t)∈re
 |[],re,h,i,z,hz=>by cases hz
 |(i0,some x)::l,re,h,i,z,hz=>by
  simp only[rnP] at h
  split at h
  .rename_i k t l' h1 h2 h3
   cases h
   rcases List.mem_cons.1 hz with e|hz
   .cases e;exact⟨k,x,t,rfl,h1,h2,List.mem_cons_self⟩
   obtain⟨k',x',t',q1,q2,q3,q4⟩:=rnP_to h3 i z hz
   exact⟨k',x',t',q1,q2,q3,List.mem_cons_of_mem _ q4⟩
  cases h
 |(i0,none)::l,re,h,i,z,hz=>by cases h
theorem rnP_of {τ:List (Nat×Option Nat)}:∀ {l re:List (Nat×Option R2)},rnP τ l=some re->∀k z,(k,z)∈re->∃i x t,(i,some x)∈l/\rnOf τ i=some (some k)/\x.rn τ=some t/\z=some t
 |[],re,h,k,z,hz=>by cases h;cases hz
 |(i0,some x)::l,re,h,k,z,hz=>by
  simp only[rnP] at h
  split at h
  .rename_i k0 t l' h1 h2 h3
   cases h
   rcases List.mem_cons.1 hz with e|hz
   .cases e;exact⟨i0,x,t,List.mem_cons_self,h1,h2,rfl⟩
   obtain⟨i',x',t',q1,q2,q3,q4⟩:=rnP_of h3 k z hz
   exact⟨i',x',t',List.mem_cons_of_mem _ q1,q2,q3,q4⟩
  cases h
 |(i0,none)::l,re,h,k,z,hz=>by cases h
theorem rnCaps_of {τ:List (Nat×Option Nat)}:∀ {caps cs:List (Nat×Nat)},Sc.rn.rnCaps τ caps=some cs->∀c∈cs,∃j,rnOf τ j=some (some c.1)
 |[],cs,h,c,hc=>by cases h;cases hc
 |d::caps,cs,h,c,hc=>by
  simp only[Sc.rn.rnCaps] at h
  split at h
  .rename_i k l h1 h2
   cases h
   rcases List.mem_cons.1 hc with rfl|hc
   .exact⟨_,h1⟩
   exact rnCaps_of h2 c hc
  cases h
theorem rn_cp {τ:List (Nat×Option Nat)}{c:Cp}{v:CpV c}{d:Sc}(h:(c.sc v).rn τ=some d)(hG:∀j k,rnOf τ j=some (some k)->G k):d.all G/\∀A,d.good A:=by
 cases c with
 |int=>cases h;exact⟨tv,fun _=>trivial⟩
 |bool=>cases h;exact⟨tv,fun _=>trivial⟩
 |nilp=>cases h;exact⟨tv,fun _=>trivial⟩
 |nils=>cases h;exact⟨tv,fun _=>trivial⟩
 |str=>cases h;exact⟨tv,fun _=>trivial⟩
 |clo f caps=>
  have h:(Sc.rn.rnCaps τ caps).map (.clo f)=some d:=h
  obtain⟨cs,h1,rfl⟩:=Option.map_eq_some_iff.1 h
  exact⟨fun c hc=>by obtain⟨j,hj⟩:=rnCaps_of h1 c hc;exact hG j _ hj,fun _=>trivial⟩
 |own j=>
  simp only[Cp.sc,Sc.rn] at h
  split at h
  .rename_i k hk;cases h;exact⟨hG j k hk,fun _=>trivial⟩
  .cases h;exact⟨tv,fun _=>trivial⟩
  cases h
 |mp j=>
  simp only[Cp.sc,Sc.rn] at h
  split at h
  .rename_i k hk;cases h;exact⟨hG j k hk,fun _=>trivial⟩
  .cases h;exact⟨tv,fun _=>trivial⟩
  cases h
 |ptr j off=>
  simp only[Cp.sc,Sc.rn] at h
  split at h
  .rename_i k hk;cases h;exact⟨hG j k hk,fun _=>trivial⟩
  cases h
theorem rn_cps {τ:List (Nat×Option Nat)}(hG:∀j k,rnOf τ j=some (some k)->G k):∀ {cs:List Cp} {x:CpsV cs} {ds:List Sc},rnL τ (scsOf cs x)=some ds->∀d∈ds,d.all G/\∀A,d.good A
 |[],x,ds,h,d,hd=>by cases h;cases hd
 |c::cs,x,ds,h,d,hd=>by
  simp only[scsOf,rnL] at h
  split at h
  .rename_i c' l' h1 h2
   cases h
   rcases List.mem_cons.1 hd with rfl|hd
   .exact rn_cp h1 hG
   exact rn_cps hG h2 d hd
  cases h
theorem rn_pc {τ:List (Nat×Option Nat)}(hG:∀j k,rnOf τ j=some (some k)->G k){p:Pc}{v:PcV p}{i k:Nat}{z:R2}(h:(p.r2 v).rn τ=some z)(hk:rnOf τ i=some (some k))(hrd:p.isRd=false)(A:Asg):
  z.den A k=(p.r2 v).den (asgR A τ) i/\z.all G/\z.good A/\isAr z=false:=by
 obtain⟨e1,e2,e3,_⟩:=asgR_v (A:=A) hk
 cases p with
 |box t cs=>
  have h:(rnL τ (scsOf cs v)).map (R2.box t)=some z:=h
  obtain⟨ds,h1,rfl⟩:=Option.map_eq_some_iff.1 h
  have h2:=rn_cps hG h1
  refine⟨?_,fun c hc=>(h2 c hc).1,fun c hc=>(h2 c hc).2 A,rfl⟩
  simp only[Pc.r2,R2.den,e2,(rnL_ok (A:=A) h1).1]
 |row e t=>
  have h:some (R2.row e t v)=some z:=h
  cases h
  exact⟨by simp only[Pc.r2,R2.den,e1],tv,tv,rfl⟩
 |map kc t=>
  have h:some (R2.map kc t v)=some z:=h
  cases h
  exact⟨by simp only[Pc.r2,R2.den,e3],tv,tv,rfl⟩
 |rd t=>cases hrd
 |byt e=>
  have h:some (R2.ext (.byt e v))=some z:=h
  cases h
  exact⟨by simp only[Pc.r2,R2.den,X2.den,e1],tv,tv,rfl⟩
theorem memOf_rd':∀ {l:List Pc} {i:Nat} {x:PcsV l} {j:Nat} {z:R2},(j,some z)∈memOf i l x->∃s,l[j-i]?=some s/\∃v,z=Pc.r2 s v
 |[],_,_,_,_,h=>by cases h
 |s::l,i,x,j,z,h=>by
  rcases List.mem_cons.1 h with e|h
  .cases e;exact⟨s,by rw[Nat.sub_self];rfl,x.1,rfl⟩
  have hk:=memOf_keys h
  obtain⟨s',h1,h2⟩:=memOf_rd' h
  exact⟨s',by rw[show j-i=(j-(i+1))+1 by omega];exact h1,h2⟩
theorem memOf_rd {l:List Pc}{x:PcsV l}{j:Nat}{z:R2}(h:(j,some z)∈memOf 0 l x):rdB l j=isAr z:=by
 obtain⟨s,h1,v,rfl⟩:=memOf_rd' h
 unfold rdB
 rw[show l[j]?=some s from h1]
 cases s<;>rfl
theorem asList_rdK (H:OkF o n A S F s r a w){j:Nat}{x:R2}(hj:r j=some x){t:Ty}{l:List (El t)}(hx:asList x=some ⟨t,l⟩){K:Nat->Prop}(hK:¬K j):Rd (fun k=>k<w.heap.size/\¬HasK A r K k) w (A.v j) l:=by
 have hm:memF A r j=some (x.den A j):=by simp[memF,hj]
 cases x with
 |ro t' l'=>cases hx;exact Rd.up (fun k hk=>⟨H.frm.inb k hk,fun q=>(H.hasK q).2.2 hk⟩) (H.frm.ok j _ hm)
 |ar t' l'=>
  cases hx
  refine(Rd.keep H.frm.old (H.args j _ hj)).up fun k hk=>⟨Nat.lt_of_lt_of_le hk.1 H.frm.chg.size,fun q=>?_⟩
  rcases(H.hasK q).1 with z|z
  .have:=hk.1;omega
  exact hk.2 z
 |row e t' l'=>
  cases hx
  refine(OwnD.rd (H.frm.ok j _ hm)).up fun k hk=>?_
  rcases hk with hk|hk
  .exact⟨H.frm.inb k hk,fun q=>(H.hasK q).2.2 hk⟩
  refine⟨(H.frm.own j _ k hm hk).2.1,fun⟨i,y,q1,q2,q3⟩=>?_⟩
  have hm':memF A r i=some (y.den A i):=by simp[memF,q2]
  have:=H.frm.apart j i _ _ k hm hm' hk q3
  subst this
  exact hK q1
 |ext y=>
  cases y with
  |vw q lo e t' l'=>
   cases hx
   have hok:OwnD S w e (A.v q) l'/\ViewOf (A.v j) (A.v q) lo (Data.size (El t)):=H.frm.ok j _ hm
   refine(view_rd hok.1 hok.2).1.up fun k hk=>?_
   rcases hk with hk|hk
   .exact⟨H.frm.inb k hk,fun q=>(H.hasK q).2.2 hk⟩
   refine⟨(H.frm.own j _ k hm hk).2.1,fun⟨i,y,q1,q2,q3⟩=>?_⟩
   have hm':memF A r i=some (y.den A i):=by simp[memF,q2]
   have:=H.frm.apart j i _ _ k hm hm' hk q3
   subst this
   exact hK q1
  |_=>cases hx
 |_=>cases hx
theorem mix_new {A B:Asg}{b k l i:Nat}(h1:k<=i)(h2:i<l):(mixA A B b k l).v (b+i)=B.v i/\(mixA A B b k l).b (b+i)=B.b i/\(mixA A B b k l).f (b+i)=B.f i/\(mixA A B b k l).m (b+i)=B.m i:=by
 have q:b+k<=b+i/\b+i<b+l:=⟨by omega,by omega⟩
 have e:b+i-b=i:=by omega
 unfold mixA Asg.v
 simp only[if_pos q,e]
 exact⟨tv,tv,tv,tv⟩
theorem mix_old {A B:Asg}{b k l j:Nat}(h:¬(b+k<=j/\j<b+l)):A.v j=(mixA A B b k l).v j/\A.b j=(mixA A B b k l).b j/\A.f j=(mixA A B b k l).f j/\A.m j=(mixA A B b k l).m j:=by
 unfold mixA Asg.v
 simp only[if_neg h]
 exact⟨tv,tv,tv,tv⟩
theorem ones_map:∀ {ys:List Sy},ys.all oneB=true->ys.map (Sy.den A)=(ys.flatMap syCells).map (Sc.den A)
 |[],_=>rfl
 |y::ys,h=>by
  rw[List.all_cons,Bool.and_eq_true] at h
  cases y with
  |one c=>rw[List.flatMap_cons,List.map_cons,ones_map h.2];rfl
  |agg _=>cases h.1
  |tup _=>cases h.1
theorem shG_den:∀ {g:List (Option Nat)} {ys:List Sy} {cs:List Sc},shG g ys=true->cs.map (Sc.den A')=(ys.flatMap syCells).map (Sc.den A)->ys.map (Sy.den A)=(syG g cs).map (Sy.den A')
 |[],ys,cs,h,e=>by
  rw[ones_map h,<-e];show _=(cs.map Sy.one).map _;rw[List.map_map];rfl
 |none::g,[],cs,h,e=>by cases h
 |none::g,.one c::ys,cs,h,e=>by
  rw[List.flatMap_cons,List.map_append] at e
  match cs,e with
  |c'::cs,e=>
   have e1:c'.den A'=c.den A:=(List.cons.inj e).1
   have e2:cs.map (Sc.den A')=(ys.flatMap syCells).map (Sc.den A):=(List.cons.inj e).2
   show c.den A::ys.map _=c'.den A'::(syG g cs).map _
   rw[shG_den (g:=g) h e2,e1]
 |none::g,.agg _::ys,cs,h,e=>by cases h
 |none::g,.tup _::ys,cs,h,e=>by cases h
 |some k::g,[],cs,h,e=>by cases h
 |some k::g,.one _::ys,cs,h,e=>by cases h
 |some k::g,.tup _::ys,cs,h,e=>by cases h
 |some k::g,.agg l::ys,cs,h,e=>by
  have h:(Nat.beq l.length k && shG g ys)=true:=h
  rw[Bool.and_eq_true] at h
  have hk:=beq_t h.1
  subst hk
  rw[List.flatMap_cons,List.map_append] at e
  have e1:(cs.take l.length).map (Sc.den A')=l.map (Sc.den A):=by
   rw[List.map_take,e];show(l.map _++_).take _=_
   rw[List.take_left' (by simp)]
  have e2:(cs.drop l.length).map (Sc.den A')=(ys.flatMap syCells).map (Sc.den A):=by
   rw[List.map_drop,e];show(l.map _++_).drop _=_
   rw[List.drop_left' (by simp)]
  show Value.agg (l.map (Sc.den A)).toArray::ys.map _=Value.agg ((cs.take l.length).map (Sc.den A')).toArray::(syG g (cs.drop l.length)).map _
  rw[shG_den (g:=g) h.2 e2,e1]
theorem memT_ok {f:FuncId}{m:MSh}{dom:m.X->Prop}{fx:m.X->m.Y}(ok:ConMOk P f m dom fx):ConTr P f (memT m dom fx):=by
 intro o n A S F s r a w b B caps ys out H hF hys _ h hcs _ hB
 unfold memT at h
 have hzs:ys.map (Sy.den A)++caps.map (fun c=>Value.pointer (some ⟨A.b c.1,c.2,none⟩))=(ys++caps.map fun c=>Sy.one (.ptr c.1 c.2)).map (Sy.den A):=by
  rw[List.map_append,List.map_map];rfl
 generalize (ys++caps.map fun c=>Sy.one (.ptr c.1 c.2))=zs at*
 obtain⟨xa,ρ,h1,_,hC⟩:=gathC_run _ _ _ _ h
 clear h
 obtain⟨xs,ρ',h2,hle,hP⟩:=gathP_run _ _ _ _ h1
 clear h1
 split at h2
 .rename_i re cs hre hcs2
  obtain⟨hg,h3⟩:=guardT_run h2
  clear h2
  have e:=ret_run h3
  subst e
  clear h3
  unfold okMB at hg
  simp only[Bool.and_eq_true,decide_eq_true_eq] at hg
  obtain⟨g1,g2,g3,g4,g5,g6,g7⟩:=hg
  have hrd':∀i,rdB m.sh' i=true->i<m.kp/\rdB m.sh i=true:=fun i hi=>by
   have hl:i<m.sh'.length:=by
    unfold rdB at hi
    split at hi
    .rename_i sp hsp;exact(List.getElem?_eq_some_iff.1 hsp).1
    cases hi
   have:=List.all_eq_true.1 g7 i (List.mem_range.2 hl)
   rw[hi] at this
   simp only[Bool.not_true,Bool.false_or,Bool.and_eq_true,Nat.blt_eq] at this
   exact this
  have hdom:dom (xs,xa):=hcs _ (List.mem_singleton.2 rfl)
  generalize hy:fx (xs,xa)=y at*
  generalize hτ:tauL (tauF m.kp ρ' b) m.sh'.length=τ at*
  have refl:LeR ρ' ρ':=fun _ _ q=>q
  have hmem:∀j rr,memF (asgR A ρ') (setM (fun _=>none) (memOf 0 m.sh xs)) j=some rr->(∃q z,rnOf ρ' j=some (some q)/\rdB m.sh j=false/\r q=some z/\memF A r q=some rr/\rr=z.den A q)\/((∀c,¬rr.has c)/\rr.ok S w):=fun j rr hj=>by
   obtain⟨z,hz,rfl⟩:=Option.map_eq_some_iff.1 hj
   have hkr:=memOf_rd (setM_from0 hz)
   rcases hP j z (setM_from0 hz) A ρ' refl with⟨k0,⟨q,t,k1,k2,k3⟩|⟨k1,e,t,rfl⟩⟩|⟨t,l,rfl,_⟩
   .exact .inl ⟨q,t,k1,hkr.trans k0,k2,by show(r q).map _=_;rw[k2,k3];rfl,k3⟩
   .have ev:=asgR_n (A:=A) k1
    refine .inr ⟨fun c q=>?_,?_⟩
    .have q:((asgR A ρ').v j).ownBlock=some c:=q
     rw[ev] at q;cases q
    show OwnD S w e ((asgR A ρ').v j) ([]:List (El t))
    rw[ev];exact OwnD.nil
   exact .inr ⟨fun c q=>q,tv⟩
  have hinj:∀ {i j q:Nat},rnOf ρ' i=some (some q)->rnOf ρ' j=some (some q)->i=j:=fun {i j q} hi hj=>by
   have:=List.all_eq_true.1 (List.all_eq_true.1 g2 _ (rnOf_mem hi)) _ (rnOf_mem hj)
   rw[Bool.or_eq_true] at this
   rcases this with k|k
   .exact beq_t k
   simp at k
  have hK:∀ {q:Nat},(∃j,(j,some q)∈ρ'/\rdB m.sh j=false)->∃x,(q,x)∈re++(goneL m.sh ρ').map fun q=>(q,(none:Option R2)):=fun {q} ⟨j,hj,hjr⟩=>
   ⟨none,List.mem_append_right _ (List.mem_map.2 ⟨q,List.mem_filterMap.2 ⟨_,List.mem_filter.2 ⟨hj,by rw[hjr];rfl⟩,rfl⟩,rfl⟩)⟩
  have o2c:∃o2:OrgG,o2.w=w/\o2.S=S/\o2.G=HasK A r (fun q=> ∃j,(j,some q)∈ρ'/\rdB m.sh j=false):=⟨⟨⟨w,S,H.frm.inb⟩,HasK A r (fun q=> ∃j,(j,some q)∈ρ'/\rdB m.sh j=false),fun k hk=>(H.hasK hk).2.2,fun k hk=>(H.hasK hk).2.1,fun _=>False,asg0,0⟩,rfl,rfl,rfl⟩
  obtain⟨o2,hw2,hS2,hG2⟩:=o2c
  have hin:Frm o2 w S (memF (asgR A ρ') (setM (fun _=>none) (memOf 0 m.sh xs))):=by
   refine⟨by rw[hw2];exact Chg.refl _ _,fun k hk=>.inl (by rw[hS2];exact hk),H.frm.inb,fun j rr hj=>?_,fun j rr c hj hc=>?_,fun i j ri rj c hi hj ei ej=>?_⟩
   .rcases hmem j rr hj with⟨q,z,k1,_,k2,k3,k4⟩|⟨_,k2⟩
    .exact H.frm.ok q rr k3
    exact k2
   .rcases hmem j rr hj with⟨q,z,k1,k0,k2,k3,k4⟩|⟨k1,_⟩
    .have:=H.frm.own q rr c k3 hc
     refine⟨.inr ?_,this.2⟩
     rw[hG2]
     exact⟨q,z,⟨j,rnOf_mem k1,k0⟩,k2,by rw[<-k4];exact hc⟩
    exact(k1 c hc).elim
   rcases hmem i ri hi with⟨q,z,k1,_,k2,k3,k4⟩|⟨k1,_⟩
   .rcases hmem j rj hj with⟨q',z',l1,_,l2,l3,l4⟩|⟨l1,_⟩
    .have:=H.frm.apart q q' ri rj c k3 l3 ei ej
     subst this
     exact hinj k1 l1
    exact(l1 c ej).elim
   exact(k1 c ei).elim
  have hargs:(ys.map (Sy.den A)++caps.map fun c=>Value.pointer (some ⟨A.b c.1,c.2,none⟩))=(syG m.ga (scsOf m.ar xa)).map (Sy.den (asgR A ρ')):=by
   rw[hzs];exact shG_den g1 (hC A ρ' hle)
  rw[hargs]
  have har:∀j y,setM (fun _=>none) (memOf 0 m.sh xs) j=some y->ArOk (o2.giv (asgR A ρ') m.kp) (asgR A ρ') j y:=fun j y hy=>by
   have hkr:=memOf_rd (setM_from0 hy)
   rcases hP j y (setM_from0 hy) A ρ' refl with⟨k0,_⟩|⟨t,l,rfl,⟨q,z,k1,k2,k3⟩|⟨k1,rfl⟩⟩
   .exact arOk_not k0
   .have hnK:¬(fun q=> ∃j,(j,some q)∈ρ'/\rdB m.sh j=false) q:=fun⟨j',m1,m2⟩=>by
     have:=List.all_eq_true.1 (List.all_eq_true.1 g2 _ m1) _ (rnOf_mem k1)
     rw[Bool.or_eq_true] at this
     rcases this with e|e
     .have e:=beq_t e
      dsimp only at e
      rw[e,hkr] at m2;cases m2
     simp at e
    have hrd:=asList_rdK (K:=fun q=> ∃j,(j,some q)∈ρ'/\rdB m.sh j=false) H k2 k3 hnK
    show Rd o2.old o2.w ((asgR A ρ').v j) l
    rw[(asgR_v (A:=A) k1).1]
    unfold OrgG.old
    rw[hG2,hw2]
    exact hrd
   show Rd o2.old o2.w ((asgR A ρ').v j) ([]:List (El t))
   rw[asgR_n (A:=A) k1]
   exact rd_nil
  have hcall:=ok o2 (asgR A ρ') (xs,xa) (by rw[hw2,hS2];exact hin.gv) har hdom
  rw[hw2] at hcall
  refine hcall.mono fun e w' ⟨v,he,A2,S2,hA2,F2',hv⟩=>⟨v,he,?_⟩
  have F2:=F2'.ungv
  rw[hy] at F2 hv
  clear F2'
  have hc2:Chg w w' (HasK A r (fun q=> ∃j,(j,some q)∈ρ'/\rdB m.sh j=false)):=by have:=F2.chg;rwa[hw2,hG2] at this
  have hτin:∀ {i:Nat},i<m.sh'.length->rnOf τ i=some (tauF m.kp ρ' b i):=fun {i} hi=>by rw[<-hτ];exact tauL_in hi
  have hτlt:∀ {i:Nat} {v:Option Nat},rnOf τ i=some v->i<m.sh'.length:=fun {i v} hi=>by rw[<-hτ] at hi;exact tauL_lt hi
  have hτnew:∀ {i:Nat},m.kp<=i->i<m.sh'.length->rnOf τ i=some (some (b+i)):=fun {i} h1 h2=>by
   rw[hτin h2];unfold tauF
   have:Nat.blt i m.kp=false:=by
    cases hb:Nat.blt i m.kp with
    |true=>
     have:i<m.kp:=by simpa using Nat.blt_eq▸hb
     omega
    |false=>rfl
   rw[this]
  have hpin:∀ {i:Nat},i<m.kp->∃q,rnOf ρ' i=some (some q)/\F q/\tauF m.kp ρ' b i=some q:=fun {i} hi=>by
   obtain⟨sp,v,q1,q2⟩:=memOf_has (x:=xs) (i:=0) (Nat.zero_le i) (by rw[Nat.zero_add];omega)
   have hb:Nat.blt i m.kp=true:=by simpa[Nat.blt_eq] using hi
   have h6:=List.all_eq_true.1 g6 i (List.mem_range.2 hi)
   rcases hP i _ q2 A ρ' refl with⟨_,⟨q,t,k1,k2,k3⟩|⟨k1,_⟩⟩|⟨_,_,_,⟨q,t,k1,k2,k3⟩|⟨k1,_⟩⟩
   .exact⟨q,k1,(H.rall q t k2).1,by unfold tauF;rw[hb,k1]⟩
   .rw[k1] at h6;cases h6
   .exact⟨q,k1,(H.rall q t k2).1,by unfold tauF;rw[hb,k1]⟩
   rw[k1] at h6;cases h6
  have hkey:∀ {i:Nat},m.kp<=i->i<m.sh'.length->∃t,(b+i,some t)∈re:=fun {i} h1 h2=>by
   obtain⟨sp,v,q1,q2⟩:=memOf_has (x:=y.1) (i:=0) (Nat.zero_le i) (by rw[Nat.zero_add];exact h2)
   have hnr:rdB m.sh' i=false:=by
    cases hq:rdB m.sh' i with
    |false=>rfl
    |true=>have:=(hrd' i hq).1;omega
   obtain⟨k,x,t,_,k2,_,k4⟩:=rnP_to hre i _ (List.mem_filter.2 ⟨q2,by dsimp only;rw[hnr];rfl⟩)
   rw[hτnew h1 h2] at k2
   cases k2
   exact⟨t,k4⟩
  have hA:Agr F A (mixA A A2 b m.kp m.sh'.length):=fun j hj=>mix_old fun⟨q1,q2⟩=>by
   obtain⟨t,ht⟩:=hkey (i:=j-b) (by omega) (by omega)
   have:=hB _ (List.mem_append_left _ ht)
   have e:b+(j-b)=j:=by omega
   simp only[e] at this
   exact hF j (by omega) this hj
  have hnum:∀i k,rnOf τ i=some (some k)->FU F (re++(goneL m.sh ρ').map fun q=>(q,(none:Option R2))) k:=fun i k hi=>by
   have hl:=hτlt hi
   by_cases q:i<m.kp
   .obtain⟨q',_,k2,k3⟩:=hpin q
    rw[hτin hl,k3] at hi
    cases hi
    exact .inl k2
   rw[hτnew (by omega) hl] at hi
   cases hi
   obtain⟨t,ht⟩:=hkey (i:=i) (by omega) hl
   exact .inr ⟨_,List.mem_append_left _ ht⟩
  have hagr:Agr (· <m.sh'.length) A2 (asgR (mixA A A2 b m.kp m.sh'.length) τ):=fun i hi=>by
   by_cases q:i<m.kp
   .obtain⟨q',k1,k2,k3⟩:=hpin q
    obtain⟨e1,e2,e3,_,e5⟩:=asgR_v (A:=mixA A A2 b m.kp m.sh'.length) (show rnOf τ i=some (some q') by rw[hτin hi,k3])
    obtain⟨d1,d2,d3,_,d5⟩:=asgR_v (A:=A) k1
    obtain⟨a1,a2,a3,a4⟩:=hA q' k2
    obtain⟨c1,c2,c3,c4⟩:=hA2 i q
    exact⟨by rw[e1,<-a1,<-d1,<-c1],by rw[e2,<-a2,<-d2,<-c2],by rw[e5,<-a3,<-d5,<-c3],by rw[e3,<-a4,<-d3,<-c4]⟩
   obtain⟨e1,e2,e3,_,e5⟩:=asgR_v (A:=mixA A A2 b m.kp m.sh'.length) (hτnew (show m.kp<=i by omega) hi)
   obtain⟨a1,a2,a3,a4⟩:=mix_new (A:=A) (B:=A2) (b:=b) (show m.kp<=i by omega) hi
   exact⟨by rw[e1,a1],by rw[e2,a2],by rw[e5,a3],by rw[e3,a4]⟩
  have hpc:∀k z,(k,some z)∈re++(goneL m.sh ρ').map (fun q=>(q,(none:Option R2)))->∃i,z.den (mixA A A2 b m.kp m.sh'.length) k=(z.den (mixA A A2 b m.kp m.sh'.length) k)/\rnOf τ i=some (some k)/\memF A2 (setM (fun _=>none) (memOf 0 m.sh' y.1)) i=some (z.den (mixA A A2 b m.kp m.sh'.length) k)/\z.all (FU F (re++(goneL m.sh ρ').map fun q=>(q,(none:Option R2))))/\z.good (mixA A A2 b m.kp m.sh'.length)/\isAr z=false:=fun k z hz=>by
   rcases List.mem_append.1 hz with hz|hz
   .obtain⟨i,x,t,k1,k2,k3,k4⟩:=rnP_of hre k _ hz
    cases k4
    obtain⟨k1,k1r⟩:=List.mem_filter.1 k1
    have k1s:rdB m.sh' i=false:=by simpa using k1r
    have hkr:=memOf_rd k1
    obtain⟨sp,v,q1,q2⟩:=memOf_at k1
    cases q2
    have hspr:sp.isRd=false:=by
     have hkk:=k1s.symm.trans hkr
     cases sp<;>first|rfl|cases hkk
    obtain⟨p1,p2,p3,p4⟩:=rn_pc hnum k3 k2 hspr (mixA A A2 b m.kp m.sh'.length)
    have hal:=Pc.r2_all (v:=v) (List.all_eq_true.1 g4 sp q1)
    have hl:=(memOf_keys k1).2
    rw[Nat.zero_add] at hl
    refine⟨i,rfl,k2,?_,p2,p3,p4⟩
    show(setM _ _ i).map _=_
    rw[memOf_set k1,p1,<-R2.congr hagr hl hal.1]
    rfl
   obtain⟨q,_,hq⟩:=List.mem_map.1 hz
   cases hq
  have hsw:=H.swap hA (w':=w') (S':=fun k=>S k\/S2 k) (re:=re++(goneL m.sh ρ').map fun q=>(q,(none:Option R2))) (fun q=> ∃j,(j,some q)∈ρ'/\rdB m.sh j=false) (fun q hq=>hK hq) hc2 (fun k hk=>.inl hk) (fun k hk=>by
   rcases hk with hk|hk
   .exact .inl hk
   .rcases F2.src k hk with q|q
    .exact .inl (by rw[hS2] at q;exact q)
    refine .inr ⟨?_,F2.inb k hk,fun j z hz=>?_⟩
    .rcases q with q|q
     .exact .inr (by rw[hw2] at q;exact q)
     exact .inl (by rw[hG2] at q;exact q)
    obtain⟨i,_,_,k2,_⟩:=hpc j z hz
    exact fun hh=>(F2.own i _ k k2 hh).2.2 hk) (fun j z hz=>by
   obtain⟨i,_,_,k2,k3,k4,k5⟩:=hpc j z hz
   refine⟨k3,k4,k5,(z.den _ j).up _ _ _ (F2.ok i _ k2) fun _ q=>.inr q,fun c hc=>?_⟩
   obtain⟨q1,q2,_⟩:=F2.own i _ c k2 hc
   refine⟨?_,q2⟩
   rcases q1 with q|q
   .exact .inr (by rw[hw2] at q;exact q)
   .exact .inl (by rw[hG2] at q;exact q)) (fun i j zi zj c hi hj ei ej=>by
   obtain⟨i',_,ki,k2,_⟩:=hpc i zi hi
   obtain⟨j',_,kj,l2,_⟩:=hpc j zj hj
   have:=F2.apart i' j' _ _ c k2 l2 ei ej
   subst this
   rw[ki] at kj
   cases kj;rfl)
  have hone:((syl m.ag cs).all fun y=>match y with| .tup _=>false|_=>true)=true:=by
   cases m.ag with
   |false=>show(cs.map Sy.one).all _=true;rw[List.all_map];exact List.all_eq_true.2 fun _ _=>rfl
   |true=>rfl
  have hall:∀z∈syl m.ag cs,z.all (FU F (re++(goneL m.sh ρ').map fun q=>(q,(none:Option R2))))/\z.good (mixA A A2 b m.kp m.sh'.length):=fun z hz=>by
   cases hg:m.ag with
   |false=>
    rw[hg] at hz
    obtain⟨c,hc,rfl⟩:=List.mem_map.1 hz
    have:=rn_cps hnum hcs2 c hc
    exact⟨this.1,this.2 _⟩
   |true=>
    rw[hg] at hz
    have:=List.mem_singleton.1 hz
    subst this
    exact⟨fun c hc=>(rn_cps hnum hcs2 c hc).1,fun c hc=>(rn_cps hnum hcs2 c hc).2 _⟩
  refine⟨_,_,hsw,?_,(oneSy_all hall).1,(oneSy_all hall).2⟩
  show v=(oneSy (syl m.ag cs)).den _
  have hmm:(scsOf m.rs y.2).map (Sc.den A2)=cs.map (Sc.den (mixA A A2 b m.kp m.sh'.length)):=by
   rw[scs_congr hagr fun c hc=>(scsOf_all g5 c hc).1,(rnL_ok hcs2).1]
  rw[oneSy_den hone,hv]
  congr 1
  unfold MSh.rsy
  cases m.ag with
  |false=>show(List.map Sy.one _).map _=(cs.map Sy.one).map _;rw[List.map_map,List.map_map];exact hmm
  |true=>show[Value.agg (List.map (Sc.den A2) _).toArray]=[Value.agg (List.map _ cs).toArray];rw[hmm]
 cases h2
def memc {f:FuncId}{m:MSh}{dom:m.X->Prop}{fx:m.X->m.Y}(ok:ConMOk P f m dom fx):Con P:=⟨f,memT m dom fx,memT_ok ok⟩
end
end Go.Proofs.YtnfdimfepbbbpaaGreatDoor
namespace Go.Proofs.YtnfdimfepbbbpaaGreatDoor
open Go.RowKit Go.Shelf
attribute [local go_sem] Oper.semAt_some
theorem darts2_some (F:Fence)(n:Nat)(h7:F.fn 119)(hro:F.round=none)(hn:1<=n)(l Bs rb b off cap:Nat)(zs:List Int)(hreach:zs.length<=9223372036854775807)(J:Nat->World->Prop)
  (hBs:∀k W,J k W->W.cell? ⟨Bs,0,none⟩=some (.pointer (some ⟨rb,0,none⟩))) (hrb:∀k W,J k W->W.cell? ⟨rb,3,none⟩=some (.slice (some ⟨b,off,none⟩) zs.length cap))
  (hc:∀k W,J k W->∀j,j<zs.length->W.cell? ⟨b,off+j,none⟩=some (.int .i64 (zs.getD j 0)))
  (hY:∀k W,J k W->k<zs.length->YieldAt F (n-1) Tryz.prog l #[.int .i64 (zs.getD k 0)] W fun e W'=>e= .returned (.bool true)/\J (k+1) W')
  (W:World) (h0:J 0 W):
  CallsIn F n Tryz.prog 119 #[.func (.yield l) #[] #[],.pointer (some ⟨Bs,0,none⟩)] W fun e W'=>(∃v,e= .returned v)/\J zs.length W':=by
 have hBs0:=hBs _ _ h0
 have hrb0:=hrb _ _ h0
 refine callsIn_of_wp Tryz.func119 rfl h7 ?_ hro
 simp only[Tryz.ntmps119,List.size_toArray,List.length_cons,List.length_nil,Nat.reduceAdd,Nat.reduceSub,Array.replicate_succ,Array.replicate_zero,List.push_toArray,List.append_toArray,List.nil_append,List.cons_append]
 gi_wp2
 gi_loopw [12] (fun i wr=> ∃k:Nat,k<=zs.length/\i= .int .i64 k/\J k wr)
  (fun i _=>zs.length-(Go.RowKit.intOf i).toNat)
 case atStart=>exact⟨0,Nat.zero_le _,rfl,h0⟩
 case round=>
  obtain⟨k,hk,rfl,hJs⟩:=hrel
  have hcx:k<zs.length->wr.cell? ⟨b,off+k,none⟩=some (.int .i64 (zs.getD k 0)):=fun h=>hc k wr hJs k h
  by_cases hlt:k<zs.length
  .obtain⟨fn,tmps,assign,body,hy,hR⟩:=hY _ wr hJs hlt
   have hcx':=hcx hlt
   generalize zs.getD k 0=x at hy hR hcx'
   clear hcx
   gi_wp2
   refine hR.mono ?_
   rintro e W3 ⟨rfl,hJ3⟩
   gi_wp2
   go_roundw
   case rel=>exact⟨k+1,by omega,by simp,hJ3⟩
   case measure=>simp[Go.RowKit.intOf];omega
  obtain rfl:k=zs.length:=by omega
  gi_wp2
  go_end0
  exact⟨⟨_,rfl⟩,hJs⟩
theorem darts2_any (F:Fence)(n:Nat)(h7:F.fn 119)(hro:F.round=none)(hn:1<=n)(l Bs rb cap:Nat)(p:Option Addr)(J:Nat->World->Prop)
  (hBs:∀k W,J k W->W.cell? ⟨Bs,0,none⟩=some (.pointer (some ⟨rb,0,none⟩))) (hrb:∀k W,J k W->W.cell? ⟨rb,3,none⟩=some (.slice p 0 cap))
  (W:World) (h0:J 0 W):
  CallsIn F n Tryz.prog 119 #[.func (.yield l) #[] #[],.pointer (some ⟨Bs,0,none⟩)] W fun e W'=>(∃v,e= .returned v)/\J 0 W':=by
 have hBs0:=hBs _ _ h0
 have hrb0:=hrb _ _ h0
 refine callsIn_of_wp Tryz.func119 rfl h7 ?_ hro
 simp only[Tryz.ntmps119,List.size_toArray,List.length_cons,List.length_nil,Nat.reduceAdd,Nat.reduceSub,Array.replicate_succ,Array.replicate_zero,List.push_toArray,List.append_toArray,List.nil_append,List.cons_append]
 gi_wp2
 gi_loopw [12] (fun i wr=>i= .int .i64 0/\J 0 wr)
  (fun i _=>0)
 case atStart=>exact⟨rfl,h0⟩
 case round=>
  obtain⟨rfl,hJs⟩:=hrel
  gi_wp2
  go_end0
  exact⟨⟨_,rfl⟩,hJs⟩
def DartsIt (P:Program) (f:FuncId):Prop:=(∃fn,P.funcs[f]?=some fn/\fn.body.isSome=true/\(fn.name== "runtime.NumGoroutine")=false)/\∀(l Bs rb cap:Nat) (p:Option Addr) (zs:List Int) (J:Nat->World->Prop),zs.length<=9223372036854775807->
 (∀k W,J k W->W.cell? ⟨Bs,0,none⟩=some (.pointer (some ⟨rb,0,none⟩)))->(∀k W,J k W->W.cell? ⟨rb,3,none⟩=some (.slice p zs.length cap))->
 (zs=[]\/∃b off,p=some ⟨b,off,none⟩/\∀k W,J k W->∀j,j<zs.length->W.cell? ⟨b,off+j,none⟩=some (.int .i64 (zs.getD j 0)))->
 (∀k W,J k W->k<zs.length->YieldAt Fence.wide 0 P l #[.int .i64 (zs.getD k 0)] W fun e W'=>e= .returned (.bool true)/\J (k+1) W')->
 ∀W,J 0 W->CallsIn Fence.wide 0 P f #[.func (.yield l) #[] #[],.pointer (some ⟨Bs,0,none⟩)] W fun e W'=>(∃v,e= .returned v)/\J zs.length W'
theorem darts_it:DartsIt Tryz.prog 119:=by
 refine⟨⟨Tryz.f119,Tryz.func119,by kernel_rfl,by kernel_rfl⟩,fun l Bs rb cap p zs J hz hBs hrb hc hY W h0=>?_⟩
 refine callsIn_wide.2 ((callsIn_wide (n:=1)).1 ?_)
 rcases hc with rfl|⟨b,off,rfl,hc⟩
 .exact darts2_any Fence.wide 1 tv rfl (Nat.le_refl _) l Bs rb cap p J hBs hrb W h0
 exact darts2_some Fence.wide 1 tv rfl (Nat.le_refl _) l Bs rb b off cap zs hz J hBs hrb hc hY W h0
abbrev rotT:Ty:=.pair (.list (.list .int)) (.pair (.map .int .int) (.pair (.map .int .int) (.list .int)))
def cD (D:Nat):Deferred:={target:=.collected D,args:= #[]}
def putQ (D:Nat)(Q:Post):Post:=fun e a w=>Q e (actD a [cD D]) w
def noLp:List It->Bool
 |[]=>true
 | .lp _::_=>false
 |_::r=>noLp r
structure RGI where
 pt:List Nat
 r:List It
 p:Nat
 f:FuncId
 q:Nat
 j:Nat
 t:Nat
def topG (B:Code)(n:Nat)(σ:St2):List It->Option RGI
 | .run p::r=>match sub B p with
  | .rangeFunc (.tmp t) ps _ _=>match ps.toList,stE σ t with
   |[x],some ⟨[],.one (.clo f [(q,0)])⟩=>match stR σ q with
    |some (.box _ [.pd j])=>match Nat.blt x n && noLp r with
     |true=>some ⟨p,r,x,f,q,j,t⟩
     |false=>none
    |_=>none
   |_,_=>none
  |_=>none
 |_=>none
def gI:Option RGI->RGI
 |some x=>x
 |none=>⟨[],[],0,0,0,0,0⟩
def qB (I:RGI)(σ:St2):Bool:=match stR σ I.q with
 |some (.box _ [.pd j])=>Nat.beq j I.j
 |_=>false
def scB (k:Nat):Sc->Bool
 | .v _=>true
 | .b _=>true
 | .own j=>Nat.blt j k
 | .mp j=>Nat.blt j k
 | .ptr j _=>Nat.blt j k
 | .pd j=>Nat.blt j k
 | .clo _ caps=>caps.all fun c=>Nat.blt c.1 k
 |_=>false
def syB (k:Nat):Sy->Bool
 | .one c=>scB k c
 | .agg cs=>cs.all (scB k)
 | .tup ps=>ps.all fun p=>p.2.all (scB k)
def envB (k:Nat)(env:List (Nat×Option E2)):Bool:=env.all fun p=>match p.2 with
 |some e=>e.ch.isEmpty && syB k e.sy
 |none=>true
def noArB (rs:List (Nat×Option R2)):Bool:=rs.all fun p=>match p.2 with
 |some x=>!isAr x
 |none=>true
def rndS (p:Nat)(x:Int)(σ:St2):St2:=⟨(p,some ⟨[],.one (.v (.int .i64 x))⟩)::σ.env,σ.rs,σ.nx⟩
def dfrS (D:Nat)(σ:St2):St2:=⟨σ.env,(σ.nx,some (.ext (.dfr D)))::σ.rs,σ.nx+1⟩
def accM (σ:St2):St2:=⟨[],σ.rs,σ.nx⟩
def nilI:List It->Bool
 |[]=>true
 |_=>false
def asgB:Option ExR->Bool
 |some x=>x.cs.isEmpty && (x.hs.isEmpty && (nilI x.st && noArB x.σ.rs))
 |none=>false
theorem noArB_ok {σ:St2}(h:noArB σ.rs=true){j:Nat}{x:R2}(hj:stR σ j=some x):isAr x=false:=by
 have:=List.all_eq_true.1 h _ (setM_from0 hj)
 simpa using this
theorem sub_range0 (g:Operand)(ps:Array Tmp)(x y:Code):sub (.rangeFunc g ps x y) [0]=x:=by simp only[sub];cases x<;>rfl
theorem sub_range1 (g:Operand)(ps:Array Tmp)(x y:Code):sub (.rangeFunc g ps x y) [1]=y:=by simp only[sub];cases y<;>rfl
theorem blt_lt {a b:Nat}(h:Nat.blt a b=true):a<b:=by simpa[Nat.blt_eq] using h
theorem scB_ok {k:Nat}:∀ {c:Sc},scB k c=true->c.all (· <k)/\∀A,c.good A
 | .v _,_=>⟨tv,fun _=>trivial⟩
 | .b _,_=>⟨tv,fun _=>trivial⟩
 | .own j,h=>⟨blt_lt h,fun _=>trivial⟩
 | .mp j,h=>⟨blt_lt h,fun _=>trivial⟩
 | .ptr j _,h=>⟨blt_lt h,fun _=>trivial⟩
 | .pd j,h=>⟨blt_lt h,fun _=>trivial⟩
 | .clo _ caps,h=>⟨fun c hc=>blt_lt (List.all_eq_true.1 h c hc),fun _=>trivial⟩
 | .el _ _ _ _,h=>by cases h
 | .hd _ _ _,h=>by cases h
theorem syB_ok {k:Nat}:∀ {y:Sy},syB k y=true->y.all (· <k)/\∀A,y.good A
 | .one c,h=>scB_ok h
 | .agg cs,h=>⟨fun c hc=>(scB_ok (List.all_eq_true.1 h c hc)).1,fun A c hc=>(scB_ok (List.all_eq_true.1 h c hc)).2 A⟩
 | .tup ps,h=>⟨fun p hp c hc=>(scB_ok (List.all_eq_true.1 (List.all_eq_true.1 h p hp) c hc)).1,fun A p hp c hc=>(scB_ok (List.all_eq_true.1 (List.all_eq_true.1 h p hp) c hc)).2 A⟩
theorem actD_app (a:Act)(x y:List Deferred):actD (actD a x) y=actD a (x++y):=by unfold actD;rw[List.append_assoc]
section
variable {o:OrgG}{n:Nat}{A A' A0:Asg}{S S' S0:Stab}{F:Nat->Prop}{s:Nat->Option E2}{f g:Nat->Option Rs}{w w' W:World}{a:Act}{kp l D:Nat}{σ σ2:St2}
def Frm.org (H:Frm o w S f)(kp:Nat)(A:Asg):OrgG:=
 ⟨⟨w,S,H.inb⟩,fun b=> ∃j rr,f j=some rr/\rr.has b,fun k ⟨j,rr,h1,h2⟩=>(H.own j rr k h1 h2).2.2,fun k ⟨j,rr,h1,h2⟩=>(H.own j rr k h1 h2).2.1,(· <kp),A,kp⟩
theorem Frm.anew (H:Frm o w S f)(kp:Nat)(A:Asg):Frm (H.org kp A) w S f:=
 ⟨Chg.refl _ _,fun _ h=>.inl h,H.inb,H.ok,fun j r b h1 h2=>⟨.inr ⟨j,r,h1,h2⟩,(H.own j r b h1 h2).2⟩,H.apart⟩
theorem Frm.org_new (H:Frm o w S f){b:Nat}(h:(H.org kp A).new b):o.new b:=h.elim (fun q=>OrgG.newer H.chg q) fun⟨j,rr,h1,h2⟩=>(H.own j rr b h1 h2).1
theorem Frm.back (H:Frm o w S f)(H2:Frm (H.org kp A) w' S' g):Frm o w' S' g:=by
 refine⟨H.chg.trans H2.chg fun j hj q=>?_,fun k hk=>?_,H2.inb,H2.ok,fun j r b h1 h2=>?_,H2.apart⟩
 .rcases H.org_new (kp:=kp) (A:=A) (.inr q) with q|q
  .omega
  exact q
 .rcases H2.src k hk with q|q
  .exact H.src k q
  exact .inr (H.org_new q)
 obtain⟨x,y⟩:=H2.own j r b h1 h2
 exact⟨H.org_new x,y⟩
theorem Frm.other (H:Frm o w S f)(hl:o.new l)(hS:¬S l)(hn:∀j r,f j=some r->¬r.has l)(hg:Chg w w' (· =l)):Frm o w' S f where
 chg:=H.chg.trans hg fun j hj q=>by
  subst q
  rcases hl with q|q
  .omega
  exact q
 src:=H.src
 inb k hk:=Nat.lt_of_lt_of_le (H.inb k hk) hg.size
 ok j r hj:=r.keep _ _ _ (H.ok j r hj) (fun k hk=>hg.block k (H.inb k hk) fun e=>hS (e▸hk)) fun b hb=>hg.block b (H.own j r b hj hb).2.1 fun e=>hn j r hj (e▸hb)
 own j r b hj hb:=let⟨x,y,z⟩:=H.own j r b hj hb;⟨x,Nat.lt_of_lt_of_le y hg.size,z⟩
 apart:=H.apart
theorem chg_put (w:World)(l:Nat)(x:Obj):Chg w (w.putObj l x) (· =l):=⟨rfl,rfl,rfl,by rw[World.putObj_size];exact Nat.le_refl _,fun k _ hn=>World.putObj_heap_other hn⟩
def Lone (o:OrgG)(S:Stab)(f:Nat->Option Rs)(w:World)(l:Nat):Prop:=o.new l/\¬S l/\(∀j r,f j=some r->¬r.has l)/\l<w.heap.size
structure MS (o:OrgG)(kp:Nat)(A0:Asg)(S0:Stab)(l D:Nat)(σ:St2)(A:Asg)(S:Stab)(W:World):Prop where
 frm:Frm o W S (memF A (stR σ))
 rall:∀j x,stR σ j=some x->j<σ.nx/\x.all (· <σ.nx)/\x.good A
 agr:Agr (· <kp) A0 A
 s0:∀k,S0 k->(∀j r,memF A (stR σ) j=some r->¬r.has k)/\k<W.heap.size
 l1:Lone o S (memF A (stR σ)) W l
 d1:Lone o S (memF A (stR σ)) W D
theorem MS.lone (m:MS o kp A0 S0 l D σ A S W){k:Nat}(hk:Lone o S (memF A (stR σ)) W k)(H2:Frm (m.frm.org kp A) w' S' g):Lone o S' g w' k/\w'.heap[k]?=W.heap[k]?:=by
 obtain⟨h1,h2,h3,h4⟩:=hk
 have hno:¬(m.frm.org kp A).new k:=fun q=>q.elim (fun q=>by have q:W.heap.size<=k:=q;omega) fun⟨j,r,q1,q2⟩=>h3 j r q1 q2
 refine⟨⟨h1,fun q=>?_,fun j r q1 q2=>hno (H2.own j r k q1 q2).1,Nat.lt_of_lt_of_le h4 H2.chg.size⟩,H2.chg.block k h4 fun q=>hno (.inr q)⟩
 rcases H2.src k q with q|q
 .exact h2 q
 exact hno q
theorem MS.keeps (m:MS o kp A0 S0 l D σ A S W)(H2:Frm (m.frm.org kp A) w' S' g):Keeps S0 W w':=fun k hk=>H2.chg.block k (m.s0 k hk).2 fun⟨j,r,q1,q2⟩=>(m.s0 k hk).1 j r q1 q2
theorem MS.next (m:MS o kp A0 S0 l D σ A S W){a:Act}(H2:OkF (m.frm.org kp A) n A' S' (· <σ2.nx) s (stR σ2) a w'):MS o kp A0 S0 l D σ2 A' S' w' where
 frm:=m.frm.back H2.frm
 rall:=H2.rall
 agr:=m.agr.trans H2.pin.2
 s0 k hk:=by
  obtain⟨h1,h2⟩:=m.s0 k hk
  refine⟨fun j r q1 q2=>?_,Nat.lt_of_lt_of_le h2 H2.frm.chg.size⟩
  rcases(H2.frm.own j r k q1 q2).1 with q|⟨j,r,q1,q2⟩
  .have q:W.heap.size<=k:=q
   omega
  exact h1 j r q1 q2
 l1:=(m.lone m.l1 H2.frm).1
 d1:=(m.lone m.d1 H2.frm).1
theorem MS.put (m:MS o kp A0 S0 l D σ A S W)(x:Obj)(hlD:l≠D):MS o kp A0 S0 l D σ A S (W.putObj l x) where
 frm:=m.frm.other m.l1.1 m.l1.2.1 m.l1.2.2.1 (chg_put W l x)
 rall:=m.rall
 agr:=m.agr
 s0 k hk:=⟨(m.s0 k hk).1,by rw[World.putObj_size];exact(m.s0 k hk).2⟩
 l1:=⟨m.l1.1,m.l1.2.1,m.l1.2.2.1,by rw[World.putObj_size];exact m.l1.2.2.2⟩
 d1:=⟨m.d1.1,m.d1.2.1,m.d1.2.2.1,by rw[World.putObj_size];exact m.d1.2.2.2⟩
end
theorem keeps_put {S:Stab}{w W:World}{l:Nat}(x:Obj)(h:Keeps S w W)(hl:∀k,S k->k≠l):Keeps S w (W.putObj l x):=fun k hk=>(World.putObj_heap_other (hl k hk)).trans (h k hk)
theorem actD_D {a:Act}(ha:a.defers=[])(D:Nat)(ds:List Deferred):({actD a ds with defers:=[cD D]++(actD a ds).defers}:Act)=actD (actD a [cD D]) ds:=by
 unfold actD;rw[ha];simp
section
variable {mo:Mode}{P:Program}{o:OrgG}{n:Nat}{σ:St2}{a:Act}{w:World}{T:List (Con P)}{B:Code}{Q:Post}{st:List It}
theorem post_put {ds:List Deferred}(D:Nat):∀ {r:List It} (e:Exit) (a:Act) (w:World),noLp r=true->post ⟨none,cD D::ds⟩ P B (putQ D Q) r e a w->post ⟨none,ds⟩ P B Q r e (actD a [cD D]) w
 |[],e,a,w,_,h=>h
 | .lp _::_,_,_,_,hr,_=>by cases hr
 | .blk i::r,e,a,w,hr,h=>by
  have ih:=fun e a w=>post_put (ds:=ds) D (r:=r) e a w hr
  cases e with
  |exit j=>
   have h:if j=i then post ⟨none,cD D::ds⟩ P B (putQ D Q) r .normal a w else post ⟨none,cD D::ds⟩ P B (putQ D Q) r (.exit j) a w:=h
   show if j=i then post ⟨none,ds⟩ P B Q r .normal _ w else post ⟨none,ds⟩ P B Q r (.exit j) _ w
   split
   .rename_i q;rw[if_pos q] at h;exact ih _ _ _ h
   rename_i q;rw[if_neg q] at h;exact ih _ _ _ h
  |_=>exact ih _ _ _ h
 | .run p::r,e,a,w,hr,h=>by
  have ih:=fun e a w=>post_put (ds:=ds) D (r:=r) e a w hr
  cases e with
  |normal=>
   have h:(sub B p).wpIn Fence.wide 0 P (postD ⟨none,cD D::ds⟩ (post ⟨none,cD D::ds⟩ P B (putQ D Q) r)) (actD a (cD D::ds)) w:=h
   show(sub B p).wpIn Fence.wide 0 P (postD ⟨none,ds⟩ (post ⟨none,ds⟩ P B Q r)) (actD (actD a [cD D]) ds) w
   rw[actD_app]
   refine wpIn_mono h fun e a w ⟨a0,h1,h2⟩=>⟨actD a0 [cD D],?_,ih _ _ _ h2⟩
   rw[h1,actD_app];rfl
  |_=>exact ih _ _ _ h
theorem go_range {Y:Type}{f:FuncId}(hit:DartsIt P f)(acc:Y->St2)(kp:Nat)(Inv:Nat->Y->Prop)(y0:Y)(ρ:List (Nat×Option Nat))(pd:PtrD (El rotT))(d:List (List Int)×(List (Int×Int)×(List (Int×Int)×List Int)))
  (h:Okx o n σ a w) (hpd:pd=(some d:Option (El rotT))) (hI:Inv 0 y0)
  (round:∀(k:Nat) (y:Y) (og:Orig) (G:Nat->Prop) (gS:∀b,G b->¬og.S b) (gin:∀b,G b->b<og.w.heap.size) (A:Asg) (l:Nat) (a:Act) (w:World) (K:Post),
   (∀(y':Y) (ρ:List (Nat×Option Nat)) {σ1:St2} {a:Act} {w:World},Okx ⟨og,G,gS,gin,(· <kp),A,kp⟩ n σ1 a w->Inv (k+1) y'->(h2:rsOkB ρ σ1 (accM (acc y')):=by delta rsOkB;kernel_rfl)->(h3:idsOkB ρ (accM (acc y'))=true:=by kernel_rfl)->(h4:pinB ρ kp=true:=by kernel_rfl)->K .normal a w)->
   k<d.2.2.2.length->Inv k y->Okx ⟨og,G,gS,gin,(· <kp),A,kp⟩ n (xS (exq P T [] n B [.run ((gI (topG B n (acc y0) st)).pt++[0])] (rndS (gI (topG B n (acc y0) st)).p (d.2.2.2.getD k 0) (acc y)))) a w->
   At ⟨some l,[]⟩ P T B K [.run ((gI (topG B n (acc y0) st)).pt++[1])] a w)
  (after:∀(y:Y) (D:Nat) (a:Act) (w:World),Inv d.2.2.2.length y->Okx o n (dfrS D (acc y)) a w->At ⟨none,cD D::mo.ds⟩ P T B (putQ D Q) (gI (topG B n (acc y0) st)).r a w)
  (hro:mo.ro=none:=by rfl) (ht:(topG B n (acc y0) st).isSome=true:=by kernel_rfl) (hf:(gI (topG B n (acc y0) st)).f=f:=by kernel_rfl)
  (hj:stR (acc y0) (gI (topG B n (acc y0) st)).j=some (.ext (.pro rotT pd)):=by kernel_rfl)
  (c1:∀y,(acc y).env=(acc y0).env:=by intro y;kernel_rfl) (c2:envB kp (acc y0).env=true:=by kernel_rfl) (c3:∀y,noArB (acc y).rs=true:=by intro y;kernel_rfl)
  (c4:∀y,Nat.ble kp (acc y).nx=true:=by intro y;kernel_rfl) (c5:Nat.ble o.kp kp=true:=by kernel_rfl)
  (c6:(Nat.blt (gI (topG B n (acc y0) st)).q kp && Nat.blt (gI (topG B n (acc y0) st)).j kp)=true:=by kernel_rfl) (c7:∀y,qB (gI (topG B n (acc y0) st)) (acc y)=true:=by intro y;kernel_rfl)
  (c8:∀y x,asgB (exq P T [] n B [.run ((gI (topG B n (acc y0) st)).pt++[0])] (rndS (gI (topG B n (acc y0) st)).p x (acc y)))=true:=by intro y x;kernel_rfl)
  (h1:envOkB ρ σ (acc y0):=by delta envOkB;kernel_rfl) (h2:rsOkB ρ σ (acc y0):=by delta rsOkB;kernel_rfl) (h3:idsOkB ρ (acc y0)=true:=by kernel_rfl) (h4:pinB ρ o.kp=true:=by kernel_rfl):At mo P T B Q st a w:=by
 have hs:=sub_ok ρ h h1 h2 h3 h4
 clear h h1 h2 h3 h4
 subst hpd
 obtain⟨I,hI0⟩:=Option.isSome_iff_exists.1 ht
 simp only[hI0,gI] at round after hf hj c6 c7 c8
 clear ht
 unfold topG at hI0
 split at hI0
 .rename_i pt r
  split at hI0
  .rename_i t ps asg body hcode
   split at hI0
   .rename_i x f' q hps he
    split at hI0
    .rename_i bt j hR
     split at hI0
     .rename_i hg
      cases hI0
      dsimp only at round after hf hj c6 c7 c8
      subst hf
      obtain⟨⟨A0,S0,H⟩,hch0,np⟩:=hs
      rw[Bool.and_eq_true] at hg c6
      have hxn:=blt_lt hg.1
      have hq:=blt_lt c6.1
      have hjk:=blt_lt c6.2
      have hps':ps= #[x]:=by rw[<-Array.toList_inj,hps]
      have hv:a.eval (.tmp t)= .func (.func f') #[] #[.pointer (some ⟨A0.b q,0,none⟩)]:=by
       have hv:=(H.env t _ he).1 (fun l hl=>by cases hl)
       simp only[Act.eval,Array.getD_eq_getD_getElem?]
       rw[show a.tmps[t]?=some (.func (.func f') #[] #[.pointer (some ⟨A0.b q,0,none⟩)]) from hv];rfl
      have hent:∀y t e,stE (acc y) t=some e->e.ch=[]/\e.sy.all (· <kp)/\(∀A,e.sy.good A)/\∀A,Agr (· <kp) A0 A->EntOk a ⟨t,e.ch,e.sy.den A⟩:=fun y t e ht=>by
       have ht:stE (acc y0) t=some e:=by unfold stE at ht ⊢;rw[<-c1 y];exact ht
       have hm:(t,some e)∈(acc y0).env:=(setE_from ht).resolve_left fun q=>by cases q
       have:=List.all_eq_true.1 c2 _ hm
       simp only[Bool.and_eq_true] at this
       obtain⟨k1,k2⟩:=syB_ok this.2
       exact⟨List.isEmpty_iff.1 this.1,k1,k2,fun A hA=>by rw[<-Sy.congr hA k1];exact H.env t e ht⟩
      have hnx:∀y j,j<kp->j<(acc y).nx:=fun y j hj=>Nat.lt_of_lt_of_le hj (Nat.le_of_ble_eq_true (c4 y))
      have hm:memF A0 (stR (acc y0)) j=some (R2.den A0 j (.ext (.pro rotT (show PtrD (El rotT) from(some d:Option (El rotT)))))):=by show(stR (acc y0) j).map _=_;rw[hj];rfl
      have hrd:Rd S0 w (.pointer (A0.p j)) (show PtrD (El rotT) from(some d:Option (El rotT))):=H.frm.ok j _ hm
      obtain⟨rb,cur,ct,fz,cs,e1,e2,e3,e4,e5⟩:=(show PtrRd S0 w (.pointer (A0.p j)) (some d:Option (El rotT)) from rd_ptr hrd)
      obtain⟨v3,hv3,hl3⟩:=(rd_cels rotT e4).get (j:=3) (c:=.l .int d.2.2.2) rfl
      have hl3:Rd S0 w v3 (show List Int from d.2.2.2):=hl3
      obtain⟨pp,cap,rfl,z1,z2,z3⟩:=rd_slice hl3
      have e53:=(e5 3 (by decide)).trans hv3
      generalize hzs:d.2.2.2=zs at*
      refine⟨?_⟩
      show(sub B pt).wpM mo P (post mo P B Q r) a w
      rw[hcode]
      obtain⟨ro,ds⟩:=mo
      have hro:ro=none:=hro
      subst hro
      show(Code.rangeFunc (.tmp t) ps asg body).wpIn Fence.wide 0 P (postD ⟨none,ds⟩ (post ⟨none,ds⟩ P B Q r)) (actD a ds) w
      refine wpIn_rangeFunc fun fn _=>?_
      obtain⟨rec,hrec⟩:∃rec:LoopState->Option Code->Loop,rec=fun st pe=>{state:=st,pending:=pe,fn,tmps:=a.tmps,params:=ps,assign:=asg,body,defers:=w.heap.size}:=⟨_,rfl⟩
      obtain⟨W1,hW1⟩:∃W1,(w.alloc (.deferred (some []))).alloc (.loop (rec .ready none))=W1:=⟨_,rfl⟩
      have hL1:W1.heap[w.heap.size+1]?=some (.loop (rec .ready none)):=by
       rw[<-hW1];have:=World.alloc_heap_new (w.alloc (.deferred (some []))) (.loop (rec .ready none));rwa[World.size_alloc] at this
      have hK1:W1.heap[w.heap.size]?=some (.deferred (some [])):=by
       rw[<-hW1];exact(Below.heap_alloc _ _ _ (by simp)).trans (World.alloc_heap_new w _)
      have hb1:Below w.heap.size w W1:=by
       rw[<-hW1];exact((Below.refl _ w).alloc (Nat.le_refl _) _).alloc (by simp) _
      have hsz:W1.heap.size=w.heap.size+2:=by rw[<-hW1];simp
      have hSl:∀k,S0 k->k≠w.heap.size+1:=fun k hk e=>by have:=H.frm.inb k hk;omega
      have eg:∀args w,(callFunc f' args).run P w= .ok (.enter f' args) w:=by
       obtain⟨⟨fn,q1,q2,q3⟩,_⟩:=hit
       intro args w
       have hn':¬fn.name= "runtime.NumGoroutine" :=by simpa using q3
       have hb':¬fn.body=none:=by
        intro e;rw[e] at q2;cases q2
       simp[callFunc,program,Sem.run,q1,hn',hb']
      refine⟨w.heap.size+1,[cD w.heap.size],W1,{target:=.fn (.func f') #[.pointer (some ⟨A0.b q,0,none⟩)],args:= #[.func (.yield (w.heap.size+1)) #[] #[]]},W1,f',
       #[.func (.yield (w.heap.size+1)) #[] #[]]++ #[.pointer (some ⟨A0.b q,0,none⟩)],W1,?_,?_,?_,?_,(fun q=>by cases q),?_⟩
      .rw[<-hW1,hrec];exact run_enterLoop_outer _ _ _ _ _
      .simp only[resolve,eval_actD,hv]
       simp[go_sem]
      .intro _ _;trivial
      .simp[invoke,go_sem,eg]
      obtain⟨J,hJ⟩:∃J:Nat->World->Prop,J=fun k W=> ∃y A S,Inv k y/\MS o kp A0 S0 (w.heap.size+1) w.heap.size (acc y) A S W/\Keeps S0 w W/\W.heap[w.heap.size+1]?=some (.loop (rec .ready none))/\W.heap[w.heap.size]?=some (.deferred (some [])):=⟨_,rfl⟩
      refine(hit.2 (w.heap.size+1) (A0.b q) rb cap pp zs J (Nat.le_trans z1 (Nat.le_trans z2 (by decide))) ?_ ?_ ?_ ?_ W1 ?_).mono ?_
      .rw[hJ]
       rintro k W ⟨y,A,S,_,m,_,_,_⟩
       have h7:=c7 y
       unfold qB at h7
       dsimp only at h7
       split at h7
       .rename_i bt' j' hR'
        have:=beq_t h7
        subst this
        have hmm:memF A (stR (acc y)) q=some (Rs.of (.box (A.b q) bt' [.pointer (A.p j')])):=by simp[memF,hR',R2.den,Sc.den]
        have hb:W.heap[A.b q]?=some (.cells #[.pointer (A.p j')] bt' (0,0)):=m.frm.ok q _ hmm
        have eb:A0.b q=A.b q:=(m.agr q hq).2.1
        have ep:A0.p j'=A.p j':=by
         have:=(m.agr j' hjk).1
         unfold Asg.v at this
         injection this
        rw[eb,cell_of_row W _ 0 _ _ _ hb]
        show some (Value.pointer (A.p j'))=_
        rw[<-ep];exact congrArg some e1
       cases h7
      .rw[hJ]
       rintro k W ⟨y,A,S,_,m,hk,_,_⟩
       rw[cell_of_row W rb 3 cur ct fz ((hk rb e2).trans e3)]
       exact e53
      .rcases z3 with z3|⟨g,off,cur',t',fz',z4,z5,z6,z7⟩
       .exact .inl z3
       refine .inr ⟨g,off,z4,?_⟩
       rw[hJ]
       rintro k W ⟨y,A,S,_,m,hk,_,_⟩ i hi
       obtain⟨cs',q1,q2⟩:=z7 i hi
       have q1:cs'=[.int .i64 zs[i]]:=q1
       have q2:=q2 0 (by decide)
       rw[cell_of_row W g (off+i) cur' t' fz' ((hk g z5).trans z6)]
       have q2:cur'[off+i*1+0]?=cs'[0]?:=q2
       rw[Nat.mul_one,Nat.add_zero] at q2
       rw[q2,q1,List.getD_eq_getElem?_getD,List.getElem?_eq_getElem hi];rfl
      ·
       subst hJ
       rintro k W ⟨y,A,S,hi,m,hk,hl,hD⟩ hlt
       have hy:=run_yield (P:=P) (args:= #[.int .i64 (zs.getD k 0)]) hl (by rw[hrec,hps'];rfl)
       rw[hrec] at hy
       refine⟨fn,_,asg,body,hy,roundIn_of_wpIn tv ?_⟩
       have hact:({tmps:=(ps.zip #[.int .i64 (zs.getD k 0)]).foldl (fun t (p,v)=>t.setIfInBounds p v) a.tmps,defers:=[]}:Act)=a.put (some x) (.int .i64 (zs.getD k 0)):=by
        have hd:=H.nodef
        obtain⟨tm,df⟩:=a
        simp only at hd
        subst hd hps'
        simp[Act.put]
       have H1:OkF (m.frm.org kp A) n A S (· <(acc y).nx) (stE (acc y)) (stR (acc y)) a W:=
        ⟨H.size,H.nodef,fun t e he=>(hent y t e he).2.2.2 A m.agr,fun t e he _=>⟨Sy.mono (hnx y) (hent y t e he).2.1,(hent y t e he).2.2.1 A⟩,m.rall,m.frm.anew kp A,fun j x hj=>arOk_not (noArB_ok (c3 y) hj),⟨hnx y,Agr.refl _ _⟩⟩
       have H2:=H1.put (C:=[]) (d:=x) (y:=.one (.v (.int .i64 (zs.getD k 0)))) (u:=.int .i64 (zs.getD k 0)) hxn (fun t e he l hl=>by rw[(hent y t e he).1] at hl;cases hl) (fun l hl=>by cases hl) (fun _=>⟨tv,tv⟩) ⟨fun _=>rfl,fun q=>(q fun l hl=>by cases hl).elim⟩
       have O2:Okx (m.frm.org kp A) n (rndS x (zs.getD k 0) (acc y)) (a.put (some x) (.int .i64 (zs.getD k 0))) W:=by
        refine⟨⟨A,S,H2⟩,fun t e he=>?_,fun j q=>q⟩
        have he:updE (stE (acc y)) x (some ⟨[],.one (.v (.int .i64 (zs.getD k 0)))⟩) t=some e:=he
        by_cases q:x=t
        .subst q;rw[updE_same] at he;cases he;rfl
        rw[updE_ne q] at he;exact(hent y t e he).1
       have h8:=c8 y (zs.getD k 0)
       have hrd:=round k y
       cases hE:exq P T [] n B [.run (pt++[0])] (rndS x (zs.getD k 0) (acc y)) with
       |none=>rw[hE] at h8;cases h8
       |some ex=>
       rw[hE] at h8 hrd
       unfold asgB at h8
       simp only[Bool.and_eq_true] at h8
       obtain⟨a1,a2,a3,a4⟩:=h8
       have a1:=List.isEmpty_iff.1 a1
       have a2:=List.isEmpty_iff.1 a2
       have a3:ex.st=[]:=by cases hst:ex.st<;>rw[hst] at a3<;>first|rfl|cases a3
       have G1:=(go (mo:=⟨some (w.heap.size+1),[]⟩) (T:=T) (B:=B) (st:=[.run (pt++[0])]) (pr:=True) (Q:=fun e a1 w1=>e= .normal/\Okx (m.frm.org kp A) n ex.σ a1 w1) [] O2 tv
        (fun a w h=>by rw[hE] at h ⊢;show At _ P T B _ ex.st a w;rw[a3];exact⟨⟨rfl,h⟩⟩) (by rw[hE];rfl) (by rw[hE];show All ex.cs=True;rw[a1];rfl) (fun A w=>by rw[hE];show ex.hs.map _=_;rw[show xH (some ex)=ex.hs from rfl,a2];rfl)).get
       have G1:(sub B (pt++[0])).wpM ⟨some (w.heap.size+1),[]⟩ P (fun e a1 w1=>e= .normal/\Okx (m.frm.org kp A) n ex.σ a1 w1) (a.put (some x) (.int .i64 (zs.getD k 0))) W:=by
        refine wpM_mono G1 fun e a w h=>?_
        cases e with
        |normal=>exact h
        |_=>exact h
       rw[sub_snoc,hcode,sub_range0] at G1
       have G1:asg.wpIn (Fence.wide.inRound (w.heap.size+1)) 0 P (postD ⟨some (w.heap.size+1),[]⟩ (fun e a1 w1=>e= .normal/\Okx (m.frm.org kp A) n ex.σ a1 w1)) (actD (a.put (some x) (.int .i64 (zs.getD k 0))) []) W:=G1
       rw[actD_nil] at G1
       rw[hact]
       refine wpIn_mono G1 ?_
       rintro e a1' w1 ⟨a0,ea,rfl,hq⟩
       have ea:a1'=actD a0 []:=ea
       rw[actD_nil] at ea
       subst ea
       obtain⟨⟨A1,S1,K2⟩,ch1,_⟩:=hq
       have m1:=m.next K2
       have hl1:=(m.lone m.l1 K2.frm).2.trans hl
       have hD1:=(m.lone m.d1 K2.frm).2.trans hD
       have hk1:Keeps S0 w w1:=fun i hi=>(m.keeps K2.frm i hi).trans (hk i hi)
       refine⟨_,run_beginRound hl1 (by rw[hrec]),?_⟩
       have m2:=m1.put (.loop {rec .ready none with state:=.busy}) (by omega)
       have hl2:(w1.putObj (w.heap.size+1) (.loop {rec .ready none with state:=.busy})).heap[w.heap.size+1]?=some (.loop {rec .ready none with state:=.busy}):=World.putObj_heap_same m1.l1.2.2.2
       have hD2:(w1.putObj (w.heap.size+1) (.loop {rec .ready none with state:=.busy})).heap[w.heap.size]?=some (.deferred (some [])):=(World.putObj_heap_other (by omega)).trans hD1
       have hk2:=keeps_put (.loop {rec .ready none with state:=.busy}) hk1 hSl
       have H3:OkF (m2.frm.org kp A1) n A1 S1 (· <ex.σ.nx) (stE ex.σ) (stR ex.σ) a1' _:=
        ⟨K2.size,K2.nodef,K2.env,K2.sall,m2.rall,m2.frm.anew kp A1,fun j x hj=>arOk_not (noArB_ok a4 hj),⟨K2.pin.1,Agr.refl _ _⟩⟩
       have B2:=(hrd (m2.frm.org kp A1).toOrig (m2.frm.org kp A1).G (m2.frm.org kp A1).gS (m2.frm.org kp A1).gin A1 (w.heap.size+1) a1' _ (fun e a3 w3=>e= .normal/\∃y',Inv (k+1) y'/\Okx (m2.frm.org kp A1) n (accM (acc y')) a3 w3)
        (fun y' ρ' _ _ _ hk hi' h2 h3 h4=>⟨rfl,y',hi',sub_ok ρ' hk rfl h2 h3 h4⟩) hlt hi ⟨⟨A1,S1,H3⟩,ch1,fun j q=>q⟩).get
       have B2:(sub B (pt++[1])).wpM ⟨some (w.heap.size+1),[]⟩ P (fun e a3 w3=>e= .normal/\∃y',Inv (k+1) y'/\Okx (m2.frm.org kp A1) n (accM (acc y')) a3 w3) a1' (w1.putObj (w.heap.size+1) (.loop {rec .ready none with state:=.busy})):=by
        refine wpM_mono B2 fun e a w h=>?_
        cases e with
        |normal=>exact h
        |_=>exact h
       rw[sub_snoc,hcode,sub_range1] at B2
       have B2:body.wpIn (Fence.wide.inRound (w.heap.size+1)) 0 P (postD ⟨some (w.heap.size+1),[]⟩ (fun e a3 w3=>e= .normal/\∃y',Inv (k+1) y'/\Okx (m2.frm.org kp A1) n (accM (acc y')) a3 w3)) (actD a1' []) (w1.putObj (w.heap.size+1) (.loop {rec .ready none with state:=.busy})):=B2
       rw[actD_nil] at B2
       refine wpIn_mono B2 ?_
       rintro e a3 w3 ⟨a4',_,rfl,y',hi',⟨A3,S3,K4⟩,_,_⟩
       have m3:MS o kp A0 S0 (w.heap.size+1) w.heap.size (acc y') A3 S3 w3:=m2.next (σ2:=acc y') K4
       have hl3:=(m2.lone m2.l1 K4.frm).2.trans hl2
       have hD3:=(m2.lone m2.d1 K4.frm).2.trans hD2
       have hk3:Keeps S0 w w3:=fun i hi=>(m2.keeps K4.frm i hi).trans (hk2 i hi)
       refine⟨_,_,run_endRound (P:=P) none hl3,rfl,y',A3,S3,hi',m3.put _ (by omega),keeps_put _ hk3 hSl,?_,(World.putObj_heap_other (by omega)).trans hD3⟩
       rw[World.putObj_heap_same m3.l1.2.2.2,hrec];rfl
      ·
       rw[hJ]
       have hS:∀k,S0 k->k<w.heap.size:=H.frm.inb
       have hown:∀j r b,memF A0 (stR (acc y0)) j=some r->r.has b->b<w.heap.size:=fun j r b q1 q2=>(H.frm.own j r b q1 q2).2.1
       have hosz:=H.frm.chg.size
       refine⟨y0,A0,S0,hI,⟨H.frm.on hb1,H.rall,Agr.refl _ _,fun k hk=>⟨fun j r q1 q2=>(H.frm.own j r k q1 q2).2.2 hk,by have:=hS k hk;omega⟩,⟨.inl (by omega),fun q=>by have:=hS _ q;omega,fun j r q1 q2=>by have:=hown j r _ q1 q2;omega,by omega⟩,
        ⟨.inl (by omega),fun q=>by have:=hS _ q;omega,fun j r q1 q2=>by have:=hown j r _ q1 q2;omega,by omega⟩⟩,fun k hk=>hb1.block k (hS k hk),hL1,hK1⟩
      rw[hJ]
      rintro e W2 ⟨⟨v,rfl⟩,y,A,S,hi,m,hk,hl,hD⟩
      refine⟨none,W2.putObj (w.heap.size+1) (.loop {rec .ready none with state:=.exhausted}),by have:=run_endLoop (P:=P) hl (by rw[hrec];simp);rw[hrec] at this ⊢;exact this,?_⟩
      have m4:=m.put (.loop {rec .ready none with state:=.exhausted}) (by omega)
      have hD4:(W2.putObj (w.heap.size+1) (.loop {rec .ready none with state:=.exhausted})).heap[w.heap.size]?=some (.deferred (some [])):=(World.putObj_heap_other (by omega)).trans hD
      have hkp:=Nat.le_of_ble_eq_true c5
      have H5:OkF o n A S (· <(acc y).nx+1) (stE (acc y)) (stR (acc y)) a (W2.putObj (w.heap.size+1) (.loop {rec .ready none with state:=.exhausted})):=
       ⟨H.size,H.nodef,fun t e he=>(hent y t e he).2.2.2 A m.agr,fun t e he _=>⟨Sy.mono (fun j hj=>Nat.lt_succ_of_lt (hnx y j hj)) (hent y t e he).2.1,(hent y t e he).2.2.1 A⟩,
        fun j x hj=>⟨Nat.lt_succ_of_lt (m4.rall j x hj).1,R2.mono (fun j hj=>Nat.lt_succ_of_lt hj) (m4.rall j x hj).2.1,(m4.rall j x hj).2.2⟩,m4.frm,fun j x hj=>arOk_not (noArB_ok (c3 y) hj),
        ⟨fun j hj=>Nat.lt_succ_of_lt (hnx y j (Nat.lt_of_lt_of_le (np j hj) hkp)),H.pin.2.trans (m.agr.mono fun j hj=>Nat.lt_of_lt_of_le (np j hj) hkp)⟩⟩
      have H6:=H5.upd (w':=W2.putObj (w.heap.size+1) (.loop {rec .ready none with state:=.exhausted})) (S':=S) (acc y).nx (some (.ext (.dfr w.heap.size))) (fun y e=>by cases e;exact⟨Nat.lt_succ_self _,tv,tv⟩) (fun y e=>by cases e;exact arOk_not rfl)
       (m4.frm.put _ (dfrRs w.heap.size) hD4 fun b e=>by
        have e:b=w.heap.size:=e
        subst e
        exact⟨m4.d1.1,m4.d1.2.2.2,m4.d1.2.1,fun i ri _ hi=>m4.d1.2.2.1 i ri hi⟩)
      refine⟨actD a [cD w.heap.size],actD_D H.nodef _ _,post_put w.heap.size _ _ _ hg.2 (after y w.heap.size a _ hi ⟨⟨A,S,H6⟩,fun t e he=>(hent y t e he).1,np⟩).get⟩
     cases hI0
    cases hI0
   cases hI0
  cases hI0
 cases hI0
theorem rg_ (k:Q .normal a w)(ht:nilI st=true:=by kernel_rfl):At mo P T B Q st a w:=by
 unfold nilI at ht
 split at ht
 .exact⟨k⟩
 cases ht
def putQs:List Nat->Post->Post
 |[],Q=>Q
 |D::Ds,Q=>putQ D (putQs Ds Q)
theorem putQs_eq:∀ {Ds:List Nat} {e:Exit} {a:Act} {w:World},putQs Ds Q e a w↔Q e (actD a (Ds.map cD)) w
 |[],e,a,w=>by rw[List.map_nil,actD_nil];exact Iff.rfl
 |D::Ds,e,a,w=>by
  show putQs Ds Q e (actD a [cD D]) w↔_
  rw[putQs_eq,actD_app];rfl
def undS (σ:St2)(j:Nat):St2:=⟨σ.env,(j,none)::σ.rs,σ.nx⟩
def lkD:List Nat->List Nat->St2->Prop
 |[],[],_=>True
 |j::js,D::Ds,σ=>stR σ j=some (.ext (.dfr D))/\lkD js Ds (undS σ j)
 |_,_,_=>False
theorem und {D j:Nat}(h:Okx o n σ a w)(hj:stR σ j=some (.ext (.dfr D))):w.heap[D]?=some (.deferred (some []))/\Okx o n (undS σ j) a (w.putObj D (.deferred none)):=by
 obtain⟨⟨A,S,H⟩,h0,np⟩:=h
 have hm:memF A (stR σ) j=some (dfrRs D):=by show(stR σ j).map _=_;rw[hj];rfl
 refine⟨H.frm.ok j _ hm,⟨A,S,?_⟩,h0,np⟩
 exact H.upd j none (fun y e=>by cases e) (fun y e=>by cases e) (H.frm.mut j hm ⟨rfl,rfl,rfl,by rw[World.putObj_size];exact Nat.le_refl _,fun k _ hn=>World.putObj_heap_other fun e=>hn e⟩)
theorem leaves_D {fn:Func}{R:Ending->World->Prop}:∀ {js Ds:List Nat} {σ:St2} {w:World},Okx o n σ a w->lkD js Ds σ->(∀w',Okx o n (js.foldl undS σ) a w'->LeavesInM Fence.wide 2 P fn a.tmps R [] .returning w')->LeavesInM Fence.wide 2 P fn a.tmps R (Ds.map cD) .returning w
 |[],[],σ,w,h,_,k=>k w h
 |j::js,D::Ds,σ,w,h,hl,k=>by
  obtain⟨h1,h2⟩:=und h hl.1
  exact⟨by simp,.inl ⟨D,_,rfl,run_takeDeferred h1,leaves_D h2 hl.2 k⟩⟩
 |[],_::_,_,_,_,hl,_=>hl.elim
 |_::_,[],_,_,_,hl,_=>hl.elim
theorem outD {o:Orig}{fn:Func}{rs:List Ty}{fx:Vals rs}(js Ds:List Nat)(y:Vals rs)(h:Okx (OrgG.of o) n σ a w)(e:y=fx)(hl:lkD js Ds σ:=by first|exact tv|exact⟨by kernel_rfl,tv⟩|exact⟨by kernel_rfl,by kernel_rfl,tv⟩)(ht:topR B st=true:=by kernel_rfl)(hy:retV P fn rs (js.foldl undS σ)=some ⟨y⟩:=by kernel_rfl):At ⟨none,Ds.map cD⟩ P T B (putQs Ds (bodyPostM Fence.wide 2 P fn (Giv o fun S v w'=>RetOk S w' rs v fx))) st a w:=by
 subst e
 have hnd:=h.ok.choose_spec.choose_spec.nodef
 have key:LeavesInM Fence.wide 2 P fn a.tmps (Giv o fun S v w'=>RetOk S w' rs v y) (Ds.map cD) .returning w:=by
  refine leaves_D h hl fun w' h'=>?_
  obtain⟨⟨A,S,H⟩,h0⟩:=h'
  obtain⟨ys,h1,hy⟩:=resT_run H hy
  obtain⟨h2,hy⟩:=noAr_run hy
  obtain⟨x,h3,hy⟩:=gathV_run H (T':=Since o w') (fun k hk=>since_of hk) (fun c hc j hj z hz=>(reads_since H h2 c hc j hj z hz).up fun k hk=>since_of hk) hy
  have hx:x=y:=by have:=Option.some.inj hy;exact congrArg ULift.down this
  subst hx
  exact⟨_,results_run (ys:=ys.map (Sy.den A)) h1,_,rfl,ret_of h3,below_of H.frm.chg⟩
 have e1:∀e,(e= .normal\/e= .ret)->putQs Ds (bodyPostM Fence.wide 2 P fn (Giv o fun S v w'=>RetOk S w' rs v y)) e a w:=fun e he=>by
  rw[putQs_eq]
  have:LeavesInM Fence.wide 2 P fn (actD a (Ds.map cD)).tmps (Giv o fun S v w'=>RetOk S w' rs v y) (actD a (Ds.map cD)).defers .returning w:=by
   show LeavesInM Fence.wide 2 P fn a.tmps _ (a.defers++Ds.map cD) .returning w
   rw[hnd];exact key
  rcases he with rfl|rfl<;>exact this
 unfold topR at ht
 split at ht
 .rename_i p r
  refine⟨?_⟩
  show(sub B p).wpM ⟨none,Ds.map cD⟩ P (post ⟨none,Ds.map cD⟩ P B _ r) a w
  have hc:sub B p= .ret:=by
   cases hc:sub B p<;>rw[hc] at ht<;>first|rfl|cases ht
  rw[hc]
  exact wpM_ret (post_ret (e1 _ (.inr rfl)))
 .exact⟨e1 _ (.inl rfl)⟩
 cases ht
theorem enterM {f:FuncId}(fn:Func)(n:Nat){args:List Value}{R:Ending->World->Prop}(hf:P.funcs[f]?=some fn)
  (k:∀a,EnvOk n a (keepEnv ((List.range args.length).zip args))->(sub (fn.body.getD .skip) []).wp P (bodyPostM Fence.wide 2 P fn R) a w) (hb:fn.body.isSome=true:=by kernel_rfl) (hn:fn.ntmps=n:=by kernel_rfl) (hl:decide (args.length<=n)=true:=by kernel_rfl):Calls P f args.toArray w R:=by
 obtain⟨B,hb⟩:=Option.isSome_iff_exists.1 hb
 rw[hb] at k
 have hl:=of_decide_eq_true hl
 refine callsIn_wide.1 (callsIn_of_wp_marks (F:=Fence.wide) (n:=2) hf hb tv (wpIn_wide.2 ?_) rfl)
 rw[<-sub_nil B]
 refine k _ ⟨?_,rfl,fun e he=>?_⟩
 .simp;omega
 obtain⟨x,hx,rfl⟩:=List.mem_map.1 he
 obtain⟨j,hj,rfl⟩:=List.getElem_of_mem hx
 have hj':j<args.length:=by simp at hj;exact hj
 refine⟨fun _=>?_,fun hn=>(hn (fun l hl=>by simp at hl)).elim⟩
 simp only[List.getElem_zip,List.getElem_range]
 rw[Array.getElem?_append_left (by simpa using hj')]
 simp[hj']
theorem con_ofD {f:FuncId}(fn:Func)(n:Nat)(T:List (Con P)){ags:List (Bool×Ty)}{rs:List Ty}{dom:ArgV ags->Prop}{fx:ArgV ags->Vals rs}(hf:P.funcs[f]?=some fn)
  (k:∀(o:Orig) (x:ArgV ags),dom x->∀a w,Okx (OrgG.of o) n (st0 ags x) a w->At ⟨none,([]:List Nat).map cD⟩ P T (fn.body.getD .skip) (putQs [] (bodyPostM Fence.wide 2 P fn (Giv o fun S v w'=>RetOk S w' rs v (fx x)))) [.run []] a w)
  (hb:fn.body.isSome=true:=by kernel_rfl) (hn:fn.ntmps=n:=by kernel_rfl) (hl:decide (ags.length<=n)=true:=by kernel_rfl):ConOk P f ags rs dom fx:=by
 intro o vs x hx hdom
 have hlen:=argOk_len hx
 refine enterM fn n hf (fun a ha=>?_) hb hn (by rw[hlen];exact hl)
 obtain⟨A,h1,h2,h3,h5,h4⟩:=argsSy_ok (o:=OrgG.of o) ags x vs 0 asg0 (fun _=>False) (argOk_up (fun k hk=>⟨hk,fun q=>q⟩) hx) fun _ _ q=>q
 have hslot:∀t e,stE (st0 ags x) t=some e->e.ch=[]/\∃y,(argsSy ags x 0).1[t]?=some y/\e=⟨[],y⟩:=fun t e he=>by
  obtain⟨_,y,q1,q2⟩:=envOf_get he
  exact⟨by rw[q2],y,by simpa using q1,q2⟩
 have H0:OkF (OrgG.of o) n A o.S (fun _=>False) (fun _=>none) (fun _=>none) a o.w:=⟨ha.1,ha.2.1,fun _ _ q=>(by cases q),fun _ _ q=>(by cases q),fun _ _ q=>(by cases q),Frm.start (OrgG.of o),fun _ _ q=>(by cases q),⟨fun _ q=>q.elim,fun _ q=>q.elim⟩⟩
 have H1:=H0.ro (Agr.refl _ _) h3
 have hle:∀j,FU (fun _=>False) (argsSy ags x 0).2 j->j<(argsSy ags x 0).2.length:=fun j hj=>by
  rcases hj with hj|⟨z,hz⟩
  .exact hj.elim
  have:=h5 _ hz;simpa using this
 have hfin:Okx (OrgG.of o) n (st0 ags x) a o.w:=by
  refine⟨⟨A,o.S,H1.size,H1.nodef,fun t e he=>?_,fun t e he _=>?_,fun j y hj=>?_,H1.frm,H1.args,⟨fun _ q=>q.elim,fun _ q=>q.elim⟩⟩,fun t e he=>(hslot t e he).1,fun _ q=>q.elim⟩
  .obtain⟨_,y,q1,rfl⟩:=hslot t e he
   have hv:vs[t]?=some (y.den A):=by rw[<-h2,List.getElem?_map,q1];rfl
   have htl:=(List.getElem?_eq_some_iff.1 hv).1
   refine ha.2.2 ⟨t,[],y.den A⟩ (List.mem_map.2 ⟨(t,y.den A),?_,rfl⟩)
   refine List.mem_iff_getElem?.2 ⟨t,?_⟩
   rw[List.getElem?_zip_eq_some]
   exact⟨by simp[htl],hv⟩
  .obtain⟨_,y,q1,rfl⟩:=hslot t e he
   have:=h4 y (List.mem_of_getElem? q1)
   exact⟨Sy.mono hle this.1,this.2⟩
  have:=H1.rall j y hj
  exact⟨hle j this.1,R2.mono hle this.2.1,this.2.2⟩
 have:=(k o x hdom a o.w hfin).get
 have this:(sub (fn.body.getD .skip) []).wpM pl P (post pl P (fn.body.getD .skip) (bodyPostM Fence.wide 2 P fn (Giv o fun S v w'=>RetOk S w' rs v (fx x))) []) a o.w:=this
 exact wpM_pl.1 this
end
def putC (d:Deferred)(Q:Post):Post:=fun e a w=>Q e (actD a [d]) w
def Quiet1 (P:Program)(d:Deferred):Prop:=∀w,∃fv cap f args,d.target= .fn fv cap/\(invoke d.target d.args).run P w= .ok (.enter f args) w/\CallsDIn Fence.wide 1 P f args .returning w fun e u w'=>(∃v,e= .returned v)/\u= .returning/\w'=w
def topD (B:Code)(f m n:Nat)(σ:St2):List It->Option (List It)
 | .run p::r=>match sub B p with
  | .region _ ops false=>match ops.toList with
   |[⟨some t,.makeFunc (.func f') fi ca,_,_,_,none⟩,⟨none,.defer ⟨.value (.tmp t'),ar,_⟩,_,_,_,none⟩]=>
    match(Nat.beq f' f && Nat.beq t' t) && ((fi.toList.isEmpty && ar.toList.isEmpty) && (Nat.beq ca.size m && ((stE σ t).isNone && (Nat.blt t n && noLp r)))) with
    |true=>some r
    |false=>none
   |_=>none
  |_=>none
 |_=>none
section
variable {mo:Mode}{P:Program}{o:OrgG}{n:Nat}{σ:St2}{a:Act}{w:World}{T:List (Con P)}{B:Code}{Q:Post}{st:List It}
theorem post_putC {ds:List Deferred}(d:Deferred):∀ {r:List It} (e:Exit) (a:Act) (w:World),noLp r=true->post ⟨none,d::ds⟩ P B (putC d Q) r e a w->post ⟨none,ds⟩ P B Q r e (actD a [d]) w
 |[],e,a,w,_,h=>h
 | .lp _::_,_,_,_,hr,_=>by cases hr
 | .blk i::r,e,a,w,hr,h=>by
  have ih:=fun e a w=>post_putC (ds:=ds) d (r:=r) e a w hr
  cases e with
  |exit j=>
   have h:if j=i then post ⟨none,d::ds⟩ P B (putC d Q) r .normal a w else post ⟨none,d::ds⟩ P B (putC d Q) r (.exit j) a w:=h
   show if j=i then post ⟨none,ds⟩ P B Q r .normal _ w else post ⟨none,ds⟩ P B Q r (.exit j) _ w
   split
   .rename_i q;rw[if_pos q] at h;exact ih _ _ _ h
   rename_i q;rw[if_neg q] at h;exact ih _ _ _ h
  |_=>exact ih _ _ _ h
 | .run p::r,e,a,w,hr,h=>by
  have ih:=fun e a w=>post_putC (ds:=ds) d (r:=r) e a w hr
  cases e with
  |normal=>
   have h:(sub B p).wpIn Fence.wide 0 P (postD ⟨none,d::ds⟩ (post ⟨none,d::ds⟩ P B (putC d Q) r)) (actD a (d::ds)) w:=h
   show(sub B p).wpIn Fence.wide 0 P (postD ⟨none,ds⟩ (post ⟨none,ds⟩ P B Q r)) (actD (actD a [d]) ds) w
   rw[actD_app]
   refine wpIn_mono h fun e a w ⟨a0,h1,h2⟩=>⟨actD a0 [d],?_,ih _ _ _ h2⟩
   rw[h1,actD_app];rfl
  |_=>exact ih _ _ _ h
theorem go_defer (f m:Nat)(hq:∀cv:Array Value,cv.size=m->Quiet1 P {target:=.fn (.func f) cv,args:= #[]})(h:Okx o n σ a w)
  (k:∀(d:Deferred) (a:Act) (w:World),Quiet1 P d->Okx o n σ a w->At ⟨none,d::mo.ds⟩ P T B (putC d Q) ((topD B f m n σ st).getD []) a w)
  (hro:mo.ro=none:=by rfl) (ht:(topD B f m n σ st).isSome=true:=by kernel_rfl):At mo P T B Q st a w:=by
 obtain⟨r0,hr0⟩:=Option.isSome_iff_exists.1 ht
 rw[hr0] at k
 clear ht
 unfold topD at hr0
 split at hr0
 .rename_i p r
  split at hr0
  .rename_i id ops hcode
   split at hr0
   .rename_i t0 f' fi ca ty1 po1 af1 t ar at1 ty2 po2 af2 hops
    split at hr0
    .rename_i hg
     cases hr0
     simp only[Bool.and_eq_true] at hg
     obtain⟨⟨g1,g2⟩,⟨g3,g4⟩,g5,g6,g7,g8⟩:=hg
     have g1:=beq_t g1;have g2:=beq_t g2;have g5:=beq_t g5
     subst g1 g2
     have g3:fi= #[]:=by rw[<-Array.toList_inj];exact List.isEmpty_iff.1 g3
     have g4:ar= #[]:=by rw[<-Array.toList_inj];exact List.isEmpty_iff.1 g4
     subst g3 g4
     have hops':ops= #[⟨some t,.makeFunc (.func f') #[] ca,ty1,po1,af1,none⟩,⟨none,.defer ⟨.value (.tmp t),#[],at1⟩,ty2,po2,af2,none⟩]:=by rw[<-Array.toList_inj,hops]
     subst hops'
     obtain⟨ro,ds⟩:=mo
     have hro:ro=none:=hro
     subst hro
     obtain⟨⟨A,S,H⟩,h0,np⟩:=h
     have htn:t<n:=blt_lt g7
     have hse:stE σ t=none:=by cases hz:stE σ t<;>rw[hz] at g6<;>first|rfl|cases g6
     obtain⟨cv,hcv⟩:∃cv,ca.map a.eval=cv:=⟨_,rfl⟩
     have hcs:cv.size=m:=by rw[<-hcv,Array.size_map];exact g5
     obtain⟨v,hv⟩:∃v:Value,.func (.func f') #[] cv=v:=⟨_,rfl⟩
     have hput:Okx o n σ (a.put (some t) v) w:=by
      refine⟨⟨A,S,?_,?_,fun q e he=>?_,fun q e he _=>H.sall q e he (fun l hl=>by rw[h0 q e he] at hl;cases hl),H.rall,H.frm,H.args,H.pin⟩,h0,np⟩
      .show(a.tmps.setIfInBounds t v).size=n;rw[Array.size_setIfInBounds];exact H.size
      .exact H.nodef
      have hne:t≠q:=fun z=>by rw[<-z,hse] at he;cases he
      exact entOk_put (by rw[h0 q e he];simpa using fun z:q=t=>hne z.symm) (H.env q e he)
     have key:=(k {target:=.fn (.func f') cv,args:= #[]} (a.put (some t) v) w (hq cv hcs) hput).get
     have hnd:=H.nodef
     refine⟨?_⟩
     show(sub B p).wpM ⟨none,ds⟩ P (post ⟨none,ds⟩ P B Q _) a w
     rw[hcode]
     refine wpIn_region_list ?_
     have hev:∀x,(actD a ds).eval x=a.eval x:=fun x=>eval_actD x ds
     have e1:(execOp (actD a ds).eval ⟨some t,.makeFunc (.func f') #[] ca,ty1,po1,af1,none⟩).run P w= .ok (.value v) w:=by
      have:ca.map (actD a ds).eval=cv:=by rw[<-hcv];congr 1
      simp[execOp,this,hv,Instr.makeFunc,go_sem]
     have e2:(execOp ((actD a ds).put (some t) v).eval ⟨none,.defer ⟨.value (.tmp t),#[],at1⟩,ty2,po2,af2,none⟩).run P w= .ok (.defer {target:=.fn (.func f') cv,args:= #[]}) w:=by
      have:((actD a ds).put (some t) v).eval (.tmp t)= .func (.func f') #[] cv:=by
       show((actD a ds).put (some t) v).tmps.getD t undef=_
       rw[Array.getD_eq_getD_getElem?]
       show((a.tmps.setIfInBounds t v)[t]?).getD undef=_
       rw[Array.getElem?_setIfInBounds,if_pos rfl,if_pos (by rw[H.size];exact htn),hv];rfl
      simp only[execOp,resolve,this]
      simp[go_sem]
     show wpListIn Fence.wide 0 P _ _ [_,_] (actD a ds) w
     simp only[wpListIn]
     rw[if_pos (by simp[Region.wanted])]
     refine⟨fun _ _=>trivial,?_⟩
     rw[show(Fence.wide).round=none from rfl,Oper.semAt_none,e1]
     simp only[Oper.uponIn_value]
     rw[if_pos (by simp[Region.wanted])]
     refine⟨fun _ _=>trivial,?_⟩
     rw[show(Fence.wide).round=none from rfl,Oper.semAt_none,e2]
     simp only[Oper.uponIn_defer]
     refine⟨actD (a.put (some t) v) [_],?_,post_putC _ _ _ _ g8 key⟩
     simp[actD,Act.put,hnd]
    cases hr0
   cases hr0
  cases hr0
 cases hr0
theorem outE {o:Orig}{fn:Func}{rs:List Ty}{fx:Vals rs}(js Ds:List Nat)(d:Deferred)(hd:Quiet1 P d)(y:Vals rs)(h:Okx (OrgG.of o) n σ a w)(e:y=fx)(hl:lkD js Ds σ:=by first|exact tv|exact⟨by kernel_rfl,tv⟩|exact⟨by kernel_rfl,by kernel_rfl,tv⟩)(ht:topR B st=true:=by kernel_rfl)(hy:retV P fn rs (js.foldl undS σ)=some ⟨y⟩:=by kernel_rfl):
  At ⟨none,Ds.map cD++[d]⟩ P T B (putQs Ds (putC d (bodyPostM Fence.wide 2 P fn (Giv o fun S v w'=>RetOk S w' rs v fx)))) st a w:=by
 subst e
 have hnd:=h.ok.choose_spec.choose_spec.nodef
 have key:LeavesInM Fence.wide 2 P fn a.tmps (Giv o fun S v w'=>RetOk S w' rs v y) (Ds.map cD++[d]) .returning w:=by
  have aux:∀ {js Ds:List Nat} {σ:St2} {w:World} {R:Ending->World->Prop},Okx (OrgG.of o) n σ a w->lkD js Ds σ->(∀w',Okx (OrgG.of o) n (js.foldl undS σ) a w'->LeavesInM Fence.wide 2 P fn a.tmps R [d] .returning w')->LeavesInM Fence.wide 2 P fn a.tmps R (Ds.map cD++[d]) .returning w:=by
   intro js
   induction js with
   |nil=>intro Ds σ w R h hl k;cases Ds with
    |nil=>exact k w h
    |cons _ _=>exact hl.elim
   |cons j js ih=>intro Ds σ w R h hl k;cases Ds with
    |nil=>exact hl.elim
    |cons D Ds=>
     obtain⟨h1,h2⟩:=und h hl.1
     exact⟨by simp,.inl ⟨D,_,rfl,run_takeDeferred h1,ih h2 hl.2 k⟩⟩
  refine aux h hl fun w' h'=>?_
  obtain⟨fv,cap,f,args,q1,q2,q3⟩:=hd w'
  refine⟨by simp,.inr ⟨(fun z=>by cases z),fv,cap,f,args,q1,q2,fun _ _=>trivial,q3.mono ?_⟩⟩
  rintro e u w2 ⟨⟨v,rfl⟩,rfl,rfl⟩
  obtain⟨⟨A,S,H⟩,h0⟩:=h'
  obtain⟨ys,h1,hy⟩:=resT_run H hy
  obtain⟨h2,hy⟩:=noAr_run hy
  obtain⟨x,h3,hy⟩:=gathV_run H (T':=Since o w2) (fun k hk=>since_of hk) (fun c hc j hj z hz=>(reads_since H h2 c hc j hj z hz).up fun k hk=>since_of hk) hy
  have hx:x=y:=by have:=Option.some.inj hy;exact congrArg ULift.down this
  subst hx
  exact⟨_,results_run (ys:=ys.map (Sy.den A)) h1,_,rfl,ret_of h3,below_of H.frm.chg⟩
 have e1:∀e,(e= .normal\/e= .ret)->putQs Ds (putC d (bodyPostM Fence.wide 2 P fn (Giv o fun S v w'=>RetOk S w' rs v y))) e a w:=fun e he=>by
  rw[putQs_eq]
  have:LeavesInM Fence.wide 2 P fn (actD (actD a (Ds.map cD)) [d]).tmps (Giv o fun S v w'=>RetOk S w' rs v y) (actD (actD a (Ds.map cD)) [d]).defers .returning w:=by
   show LeavesInM Fence.wide 2 P fn a.tmps _ ((a.defers++Ds.map cD)++[d]) .returning w
   rw[hnd];exact key
  rcases he with rfl|rfl<;>exact this
 unfold topR at ht
 split at ht
 .rename_i p r
  refine⟨?_⟩
  show(sub B p).wpM ⟨none,Ds.map cD++[d]⟩ P (post ⟨none,Ds.map cD++[d]⟩ P B _ r) a w
  have hc:sub B p= .ret:=by
   cases hc:sub B p<;>rw[hc] at ht<;>first|rfl|cases ht
  rw[hc]
  exact wpM_ret (post_ret (e1 _ (.inr rfl)))
 .exact⟨e1 _ (.inl rfl)⟩
 cases ht
end
def LinesIt (P:Program) (f:FuncId) (ts:TypeId):Prop:=(∃fn,P.funcs[f]?=some fn/\fn.body.isSome=true/\(fn.name== "runtime.NumGoroutine")=false)/\∀(l b:Nat) (s:ByteArray) (J:List (Int×ByteArray)->World->Prop) (w:World),s.size<=1000000000->
 w.heap[b]?=some (.cells #[.string s] ts (0,0))->AbS w.heap.size J->
 (∀(pre:List (Int×ByteArray)) (x:Int×ByteArray) (W1:World),J pre W1->(∃rest,pre++x::rest=linesS s)->YieldAt Fence.wide 0 P l #[.int .i64 x.1,.string x.2] W1 fun e W'=>e= .returned (.bool true)/\J (pre++[x]) W'/\KpB b W1 W')->
 J [] w->CallsIn Fence.wide 0 P f #[.func (.yield l) #[] #[],.pointer (some ⟨b,0,none⟩)] w fun e W'=>(∃v,e= .returned v)/\J (linesS s) W'
def NwS (S:Stab)(w:World):Stab:=fun k=>S k/\∀s p,w.heap[k]?≠some (Obj.stringIter s p)
section
variable {S:Stab}{w:World}
theorem nw_cells {g:Nat}{cur:Array Value}{t:TypeId}{fz:Nat×Nat}(hS:S g)(h:w.heap[g]?=some (.cells cur t fz)):NwS S w g:=⟨hS,fun s p e=>by rw[h] at e;cases e⟩
def NwOk (α:Type)[Data α]:Prop:=∀(S:Stab) (w:World) (cs:List Value) (x:α),Data.rd S w cs x->Data.rd (NwS S w) w cs x
theorem NwOk.row {α:Type}[Data α](h:NwOk α){xs:List Value}{l:List α}(k:RowRd S w xs l):RowRd (NwS S w) w xs l:=⟨k.1,fun i hi=>h _ _ _ _ (k.2 i hi)⟩
theorem NwOk.rd {α:Type}[Data α](h:NwOk α){v:Value}{x:α}(k:Rd S w v x):Rd (NwS S w) w v x:=let⟨cs,h1,h2⟩:=k;⟨cs,h _ _ _ _ h1,h2⟩
theorem NwOk.map {k:Kc}{α:Type}[Data α](h:NwOk α){b:Nat}{m:MapD k α}(q:MapAt S w b m):MapAt (NwS S w) w b m:=let⟨zs,h1,h2,h3⟩:=q;⟨zs,h1,h2,fun z hz=>h.rd (h3 z hz)⟩
theorem mapAt_not {k:Kc}{α:Type}[Data α]{b:Nat}{m:MapD k α}(q:MapAt S w b m):∀s p,w.heap[b]?≠some (Obj.stringIter s p):=by
 obtain⟨zs,⟨P,kt,_,es,clock,h1,_⟩,_⟩:=q
 intro s p e;rw[h1] at e;cases e
theorem nw_ok:∀t:Ty,NwOk (El t)
 | .int=>fun _ _ _ _ h=>h
 | .bool=>fun _ _ _ _ h=>h
 | .str=>fun _ _ _ _ h=>h
 | .unit=>fun _ _ _ _ h=>h
 | .list t=>by
  intro S w cs x ⟨v,e,p,c,e2,h1,h2,h3⟩
  refine⟨v,e,p,c,e2,h1,h2,h3.imp id ?_⟩
  rintro⟨g,off,cur,ty,fz,rfl,h4,h5,h6⟩
  exact⟨g,off,cur,ty,fz,rfl,nw_cells h4 h5,h5,fun i hi=>let⟨cs,k1,k2⟩:=h6 i hi;⟨cs,nw_ok t _ _ _ _ k1,k2⟩⟩
 | .pair a b=>by
  intro S w cs x ⟨c1,c2,e,h1,h2⟩
  exact⟨c1,c2,e,nw_ok a _ _ _ _ h1,nw_ok b _ _ _ _ h2⟩
 | .map k t=>by
  intro S w cs x ⟨v,e,y,e2,h⟩
  refine⟨v,e,y,e2,?_⟩
  cases y with
  |none=>exact h
  |some b=>exact⟨⟨h.1,mapAt_not h.2⟩,(nw_ok t).map h.2⟩
 | .ptr t=>by
  intro S w cs x ⟨v,e,h⟩
  refine⟨v,e,?_⟩
  cases x with
  |none=>exact h
  |some y=>obtain⟨b,cur,ty,fz,cs,h1,h2,h3,h4,h5⟩:=h;exact⟨b,cur,ty,fz,cs,h1,nw_cells h2 h3,h3,nw_ok t _ _ _ _ h4,h5⟩
end
def calmR:R2->Bool
 | .ro _ _=>true
 | .row _ _ _=>true
 | .box _ _=>true
 | .mro _ _ _=>true
 | .map _ _ _=>true
 | .ext (.pro _ _)=>true
 | .ext (.dfr _)=>true
 |_=>false
def calmB2 (rs:List (Nat×Option R2)):Bool:=rs.all fun p=>match p.2 with
 |some x=>calmR x
 |none=>true
theorem calmB2_ok {σ:St2}(h:calmB2 σ.rs=true){j:Nat}{x:R2}(hj:stR σ j=some x):calmR x=true:=by
 have:=List.all_eq_true.1 h _ (setM_from0 hj)
 simpa using this
theorem calmR_nw {A:Asg}{j:Nat}{S:Stab}{w:World}:∀ {x:R2},calmR x=true->(x.den A j).ok S w->(x.den A j).ok (NwS S w) w
 | .ro t l,_,h=>(nw_ok (.list t)).rd (show Rd S w (A.v j) l from h)
 | .row e t l,_,h=>by
  obtain⟨xs,h1,h2⟩:=(show OwnD S w e (A.v j) l from h)
  exact(show OwnD (NwS S w) w e (A.v j) l from⟨xs,h1,(nw_ok t).row h2⟩)
 | .box _ _,_,h=>h
 | .mro k t m,_,h=>(nw_ok (.map k t)).rd (show Rd S w (.map (A.m j)) m from h)
 | .map k t m,_,h=>let⟨b,e,h1⟩:=(show ∃b,A.m j=some b/\MapAt S w b m from h);⟨b,e,(nw_ok t).map h1⟩
 | .ext (.pro t x),_,h=>(nw_ok (.ptr t)).rd (show Rd S w (.pointer (A.p j)) x from h)
 | .ext (.dfr _),_,h=>h
 | .ar _ _,h,_=>by cases h
 | .mar _ _ _,h,_=>by cases h
 | .iter _ _ _ _ _ _,h,_=>by cases h
 | .ext (.nest _ _ _ _ _ _),h,_=>by cases h
 | .ext (.nmap _ _ _ _ _ _),h,_=>by cases h
 | .ext (.par _ _),h,_=>by cases h
 | .ext (.prs _ _),h,_=>by cases h
 | .ext (.pas _ _),h,_=>by cases h
 | .ext (.ent _ _ _ _ _),h,_=>by cases h
 | .ext (.vw _ _ _ _ _),h,_=>by cases h
 | .ext (.fwd _),h,_=>by cases h
 | .ext (.byt _ _),h,_=>by cases h
theorem calmR_has {A:Asg}{j:Nat}{S:Stab}{w:World}{b:Nat}:∀ {x:R2},calmR x=true->(x.den A j).ok S w->(x.den A j).has b->∀s p,w.heap[b]?≠some (Obj.stringIter s p)
 | .ro t l,_,_,hb=>by cases hb
 | .row e t l,_,h,hb=>by
  obtain⟨xs,h1,h2⟩:=(show OwnD S w e (A.v j) l from h)
  have hb:(A.v j).ownBlock=some b:=hb
  intro s p q
  rcases h1.2 with⟨z,_⟩|⟨g,d,cap,cur,z,hg,_⟩
  .rw[z] at hb;cases hb
  rw[z] at hb;cases hb;rw[hg] at q;cases q
 | .box t cs,_,h,hb=>by
  have h:w.heap[A.b j]?=some (.cells _ t (0,0)):=h
  have hb:some (A.b j)=some b:=hb
  cases hb
  intro s p q;rw[h] at q;cases q
 | .mro k t m,_,_,hb=>by cases hb
 | .map k t m,_,h,hb=>by
  obtain⟨b',e,h1⟩:=(show ∃b,A.m j=some b/\MapAt S w b m from h)
  have hb:A.m j=some b:=hb
  rw[e] at hb;cases hb
  exact mapAt_not h1
 | .ext (.pro t x),_,_,hb=>by cases hb
 | .ext (.dfr D),_,h,hb=>by
  have h:w.heap[D]?=some (.deferred (some [])):=h
  have hb:b=D:=hb
  subst hb
  intro s p q;rw[h] at q;cases q
 | .ar _ _,h,_,_=>by cases h
 | .mar _ _ _,h,_,_=>by cases h
 | .iter _ _ _ _ _ _,h,_,_=>by cases h
 | .ext (.nest _ _ _ _ _ _),h,_,_=>by cases h
 | .ext (.nmap _ _ _ _ _ _),h,_,_=>by cases h
 | .ext (.par _ _),h,_,_=>by cases h
 | .ext (.prs _ _),h,_,_=>by cases h
 | .ext (.pas _ _),h,_,_=>by cases h
 | .ext (.ent _ _ _ _ _),h,_,_=>by cases h
 | .ext (.vw _ _ _ _ _),h,_,_=>by cases h
 | .ext (.fwd _),h,_,_=>by cases h
 | .ext (.byt _ _),h,_,_=>by cases h
structure RLI where
 pt:List Nat
 r:List It
 p1:Nat
 p2:Nat
 f:FuncId
 q:Nat
def topN (B:Code)(n:Nat)(σ:St2):List It->Option RLI
 | .run p::r=>match sub B p with
  | .rangeFunc (.tmp t) ps _ _=>match ps.toList,stE σ t with
   |[x,y],some ⟨[],.one (.clo f [(q,0)])⟩=>match(Nat.blt x n && Nat.blt y n) && (!Nat.beq x y && noLp r) with
    |true=>some ⟨p,r,x,y,f,q⟩
    |false=>none
   |_,_=>none
  |_=>none
 |_=>none
def lI:Option RLI->RLI
 |some x=>x
 |none=>⟨[],[],0,0,0,0⟩
def rndN (p1 p2:Nat)(x:Int×ByteArray)(σ:St2):St2:=⟨(p2,some ⟨[],.one (.v (.string x.2))⟩)::(p1,some ⟨[],.one (.v (.int .i64 x.1))⟩)::σ.env,σ.rs,σ.nx⟩
section
variable {o:OrgG}{n:Nat}{A A' A0:Asg}{S S' S0:Stab}{F:Nat->Prop}{s:Nat->Option E2}{f g:Nat->Option Rs}{w w' W:World}{a:Act}{kp l D:Nat}{σ σ2:St2}
theorem Frm.nw (H:Frm o w S (memF A (stR σ)))(hc:calmB2 σ.rs=true):Frm o w (NwS S w) (memF A (stR σ)) where
 chg:=H.chg
 src k hk:=H.src k hk.1
 inb k hk:=H.inb k hk.1
 ok j r hj:=by
  obtain⟨x,hx,rfl⟩:=Option.map_eq_some_iff.1 hj
  exact calmR_nw (calmB2_ok hc hx) (H.ok j _ hj)
 own j r b hj hb:=let⟨x,y,z⟩:=H.own j r b hj hb;⟨x,y,fun q=>z q.1⟩
 apart:=H.apart
theorem MS.still {S00:Stab}(m:MS o kp A0 S00 l D σ A S W){k:Nat}(h2:¬S k)(h3:∀j r,memF A (stR σ) j=some r->¬r.has k)(h4:k<W.heap.size)(H2:Frm (m.frm.org kp A) w' S' g):
  (¬S' k/\(∀j r,g j=some r->¬r.has k)/\k<w'.heap.size)/\w'.heap[k]?=W.heap[k]?:=by
 have hno:¬(m.frm.org kp A).new k:=fun q=>q.elim (fun q=>by have q:W.heap.size<=k:=q;omega) fun⟨j,r,q1,q2⟩=>h3 j r q1 q2
 refine⟨⟨fun q=>?_,fun j r q1 q2=>hno (H2.own j r k q1 q2).1,Nat.lt_of_lt_of_le h4 H2.chg.size⟩,H2.chg.block k h4 fun q=>hno (.inr q)⟩
 rcases H2.src k q with q|q
 .exact h2 q
 exact hno q
abbrev noS:Stab:=fun _=>False
def NoIt (S:Stab)(W:World):Prop:=∀k,S k->∀s p,W.heap[k]?≠some (Obj.stringIter s p)
theorem MS.nw (m:MS o kp A0 noS l D σ A S W)(hc:calmB2 σ.rs=true):MS o kp A0 noS l D σ A (NwS S W) W/\NoIt (NwS S W) W:=
 ⟨⟨m.frm.nw hc,m.rall,m.agr,fun _ h=>h.elim,⟨m.l1.1,fun q=>m.l1.2.1 q.1,m.l1.2.2⟩,⟨m.d1.1,fun q=>m.d1.2.1 q.1,m.d1.2.2⟩⟩,fun k hk=>hk.2⟩
theorem MS.iter (m:MS o kp A0 noS l D σ A S W)(hi:NoIt S W)(hc:calmB2 σ.rs=true){row:Option Nat}(hg:W.grownBy w' row)(hr:∀r,row=some r->o.w.heap.size<=r/\∃s p,W.heap[r]?=some (Obj.stringIter s p))
  (hl:∀s p,W.heap[l]?≠some (Obj.stringIter s p)) (hD:∀s p,W.heap[D]?≠some (Obj.stringIter s p)):(MS o kp A0 noS l D σ A S w'/\NoIt S w')/\w'.heap[l]?=W.heap[l]?/\w'.heap[D]?=W.heap[D]?:=by
 have hne:∀k,(∀s p,W.heap[k]?≠some (Obj.stringIter s p))->row≠some k:=fun k hk e=>let⟨_,s,p,q⟩:=hr k e;hk s p q
 have hown:∀j rr b,memF A (stR σ) j=some rr->rr.has b->row≠some b:=fun j rr b h1 h2=>by
  obtain⟨x,hx,rfl⟩:=Option.map_eq_some_iff.1 h1
  exact hne b (calmR_has (calmB2_ok hc hx) (m.frm.ok j _ h1) h2)
 have hfrm:Frm o w' S (memF A (stR σ)):=by
  refine⟨m.frm.chg.trans (Chg.of hg) fun j hj q=>?_,m.frm.src,fun k hk=>Nat.lt_of_lt_of_le (m.frm.inb k hk) hg.size,fun j r hj=>?_,fun j r b hj hb=>?_,m.frm.apart⟩
  .have:=(hr j q).1;omega
  .exact r.keep _ _ _ (m.frm.ok j r hj) (fun k hk=>hg.block k (m.frm.inb k hk) fun e=>hne k (hi k hk) e.symm) fun b hb=>hg.block b (m.frm.own j r b hj hb).2.1 fun e=>hown j r b hj hb e.symm
  obtain⟨x,y,z⟩:=m.frm.own j r b hj hb;exact⟨x,Nat.lt_of_lt_of_le y hg.size,z⟩
 have lone:∀k,Lone o S (memF A (stR σ)) W k->Lone o S (memF A (stR σ)) w' k:=fun k hk=>⟨hk.1,hk.2.1,hk.2.2.1,Nat.lt_of_lt_of_le hk.2.2.2 hg.size⟩
 refine⟨⟨⟨hfrm,m.rall,m.agr,fun _ h=>h.elim,lone l m.l1,lone D m.d1⟩,fun k hk s p=>?_⟩,hg.block l m.l1.2.2.2 fun e=>hne l hl e.symm,hg.block D m.d1.2.2.2 fun e=>hne D hD e.symm⟩
 rw[hg.block k (m.frm.inb k hk) fun e=>hne k (hi k hk) e.symm]
 exact hi k hk s p
end
theorem blt_lt' {a b:Nat}(h:Nat.blt a b=true):a<b:=by simpa[Nat.blt_eq] using h
section
variable {mo:Mode}{P:Program}{o:OrgG}{n:Nat}{σ:St2}{a:Act}{w:World}{T:List (Con P)}{B:Code}{Q:Post}{st:List It}
theorem go_lines {Y:Type}{f:FuncId}{ts:TypeId}(hit:LinesIt P f ts)(acc:Y->St2)(kp:Nat)(s:ByteArray)(hsz:s.size<=1000000000)(Inv:List (Int×ByteArray)->Y->Prop)(y0:Y)(ρ:List (Nat×Option Nat))
  (h:Okx o n σ a w) (hI:Inv [] y0)
  (round:∀(pre:List (Int×ByteArray)) (x:Int×ByteArray) (y:Y) (og:Orig) (G:Nat->Prop) (gS:∀b,G b->¬og.S b) (gin:∀b,G b->b<og.w.heap.size) (A:Asg) (l:Nat) (a:Act) (w:World) (K:Post),
   (∀(y':Y) (ρ:List (Nat×Option Nat)) {σ1:St2} {a:Act} {w:World},Okx ⟨og,G,gS,gin,(· <kp),A,kp⟩ n σ1 a w->Inv (pre++[x]) y'->(h2:rsOkB ρ σ1 (accM (acc y')):=by delta rsOkB;kernel_rfl)->(h3:idsOkB ρ (accM (acc y'))=true:=by kernel_rfl)->(h4:pinB ρ kp=true:=by kernel_rfl)->K .normal a w)->
   (∃rest,pre++x::rest=linesS s)->Inv pre y->Okx ⟨og,G,gS,gin,(· <kp),A,kp⟩ n (xS (exq P T [] n B [.run ((lI (topN B n (acc y0) st)).pt++[0])] (rndN (lI (topN B n (acc y0) st)).p1 (lI (topN B n (acc y0) st)).p2 x (acc y)))) a w->
   At ⟨some l,[]⟩ P T B K [.run ((lI (topN B n (acc y0) st)).pt++[1])] a w)
  (after:∀(y:Y) (D:Nat) (a:Act) (w:World),Inv (linesS s) y->Okx o n (dfrS D (acc y)) a w->At ⟨none,cD D::mo.ds⟩ P T B (putQ D Q) (lI (topN B n (acc y0) st)).r a w)
  (hro:mo.ro=none:=by rfl) (ht:(topN B n (acc y0) st).isSome=true:=by kernel_rfl) (hf:(lI (topN B n (acc y0) st)).f=f:=by kernel_rfl)
  (c1:∀y,(acc y).env=(acc y0).env:=by intro y;kernel_rfl) (c2:envB kp (acc y0).env=true:=by kernel_rfl) (c3:∀y,noArB (acc y).rs=true:=by intro y;kernel_rfl)
  (c4:∀y,Nat.ble kp (acc y).nx=true:=by intro y;kernel_rfl) (c5:Nat.ble o.kp kp=true:=by kernel_rfl)
  (c6:Nat.blt (lI (topN B n (acc y0) st)).q kp=true:=by kernel_rfl) (c7:∀y,stR (acc y) (lI (topN B n (acc y0) st)).q=some (.box ts [.v (.string s)]):=by intro y;kernel_rfl)
  (c8:∀y x,asgB (exq P T [] n B [.run ((lI (topN B n (acc y0) st)).pt++[0])] (rndN (lI (topN B n (acc y0) st)).p1 (lI (topN B n (acc y0) st)).p2 x (acc y)))=true:=by intro y x;kernel_rfl)
  (c9:∀y,calmB2 (acc y).rs=true:=by intro y;kernel_rfl)
  (h1:envOkB ρ σ (acc y0):=by delta envOkB;kernel_rfl) (h2:rsOkB ρ σ (acc y0):=by delta rsOkB;kernel_rfl) (h3:idsOkB ρ (acc y0)=true:=by kernel_rfl) (h4:pinB ρ o.kp=true:=by kernel_rfl):At mo P T B Q st a w:=by
 have hs:=sub_ok ρ h h1 h2 h3 h4
 clear h h1 h2 h3 h4
 obtain⟨I,hI0⟩:=Option.isSome_iff_exists.1 ht
 simp only[hI0,lI] at round after hf c6 c7 c8
 clear ht
 unfold topN at hI0
 split at hI0
 .rename_i pt r
  split at hI0
  .rename_i t ps asg body hcode
   split at hI0
   .rename_i x1 x2 f' q hps he
    split at hI0
    .rename_i hg
     cases hI0
     dsimp only at round after hf c6 c7 c8
     subst hf
     obtain⟨⟨A0,S00,H0⟩,hch0,np⟩:=hs
     have H:OkF o n A0 (NwS S00 w) (· <(acc y0).nx) (stE (acc y0)) (stR (acc y0)) a w:=⟨H0.size,H0.nodef,H0.env,H0.sall,H0.rall,H0.frm.nw (c9 y0),H0.args,H0.pin⟩
     have hni:NoIt (NwS S00 w) w:=fun k hk=>hk.2
     clear H0
     generalize NwS S00 w=S0 at H hni
     simp only[Bool.and_eq_true,Bool.not_eq_true'] at hg
     obtain⟨⟨g1,g2⟩,g3,g4⟩:=hg
     have hxn:=blt_lt' g1
     have hyn:=blt_lt' g2
     have hxy:x1≠x2:=fun e=>by rw[e] at g3;simp at g3
     have hq:=blt_lt' c6
     have hps':ps= #[x1,x2]:=by rw[<-Array.toList_inj,hps]
     have hv:a.eval (.tmp t)= .func (.func f') #[] #[.pointer (some ⟨A0.b q,0,none⟩)]:=by
      have hv:=(H.env t _ he).1 (fun l hl=>by cases hl)
      simp only[Act.eval,Array.getD_eq_getD_getElem?]
      rw[show a.tmps[t]?=some (.func (.func f') #[] #[.pointer (some ⟨A0.b q,0,none⟩)]) from hv];rfl
     have hent:∀y t e,stE (acc y) t=some e->e.ch=[]/\e.sy.all (· <kp)/\(∀A,e.sy.good A)/\∀A,Agr (· <kp) A0 A->EntOk a ⟨t,e.ch,e.sy.den A⟩:=fun y t e ht=>by
      have ht:stE (acc y0) t=some e:=by unfold stE at ht ⊢;rw[<-c1 y];exact ht
      have hm:(t,some e)∈(acc y0).env:=(setE_from ht).resolve_left fun q=>by cases q
      have:=List.all_eq_true.1 c2 _ hm
      simp only[Bool.and_eq_true] at this
      obtain⟨k1,k2⟩:=syB_ok this.2
      exact⟨List.isEmpty_iff.1 this.1,k1,k2,fun A hA=>by rw[<-Sy.congr hA k1];exact H.env t e ht⟩
     have hnx:∀y j,j<kp->j<(acc y).nx:=fun y j hj=>Nat.lt_of_lt_of_le hj (Nat.le_of_ble_eq_true (c4 y))
     have hbox:∀ {y:Y} {A:Asg} {S:Stab} {W:World} {l D:Nat} {A1:Asg},MS o kp A1 noS l D (acc y) A S W->Agr (· <kp) A0 A->W.heap[A0.b q]?=some (.cells #[.string s] ts (0,0)):=by
      intro y A S W l D A1 m hA
      have hmm:memF A (stR (acc y)) q=some (R2.den A q (.box ts [.v (.string s)])):=by show(stR (acc y) q).map _=_;rw[c7 y];rfl
      have:=m.frm.ok q _ hmm
      rw[(hA q hq).2.1];exact this
     refine⟨?_⟩
     show(sub B pt).wpM mo P (post mo P B Q r) a w
     rw[hcode]
     obtain⟨ro,ds⟩:=mo
     have hro:ro=none:=hro
     subst hro
     show(Code.rangeFunc (.tmp t) ps asg body).wpIn Fence.wide 0 P (postD ⟨none,ds⟩ (post ⟨none,ds⟩ P B Q r)) (actD a ds) w
     refine wpIn_rangeFunc fun fn _=>?_
     obtain⟨rec,hrec⟩:∃rec:LoopState->Option Code->Loop,rec=fun st pe=>{state:=st,pending:=pe,fn,tmps:=a.tmps,params:=ps,assign:=asg,body,defers:=w.heap.size}:=⟨_,rfl⟩
     obtain⟨W1,hW1⟩:∃W1,(w.alloc (.deferred (some []))).alloc (.loop (rec .ready none))=W1:=⟨_,rfl⟩
     have hL1:W1.heap[w.heap.size+1]?=some (.loop (rec .ready none)):=by
      rw[<-hW1];have:=World.alloc_heap_new (w.alloc (.deferred (some []))) (.loop (rec .ready none));rwa[World.size_alloc] at this
     have hK1:W1.heap[w.heap.size]?=some (.deferred (some [])):=by
      rw[<-hW1];exact(Below.heap_alloc _ _ _ (by simp)).trans (World.alloc_heap_new w _)
     have hb1:Below w.heap.size w W1:=by
      rw[<-hW1];exact((Below.refl _ w).alloc (Nat.le_refl _) _).alloc (by simp) _
     have hsz1:W1.heap.size=w.heap.size+2:=by rw[<-hW1];simp
     have eg:∀args w,(callFunc f' args).run P w= .ok (.enter f' args) w:=by
      obtain⟨⟨fn,q1,q2,q3⟩,_⟩:=hit
      intro args w
      have hn':¬fn.name= "runtime.NumGoroutine" :=by simpa using q3
      have hb':¬fn.body=none:=by
       intro e;rw[e] at q2;cases q2
      simp[callFunc,program,Sem.run,q1,hn',hb']
     refine⟨w.heap.size+1,[cD w.heap.size],W1,{target:=.fn (.func f') #[.pointer (some ⟨A0.b q,0,none⟩)],args:= #[.func (.yield (w.heap.size+1)) #[] #[]]},W1,f',
      #[.func (.yield (w.heap.size+1)) #[] #[]]++ #[.pointer (some ⟨A0.b q,0,none⟩)],W1,?_,?_,?_,?_,(fun q=>by cases q),?_⟩
     .rw[<-hW1,hrec];exact run_enterLoop_outer _ _ _ _ _
     .simp only[resolve,eval_actD,hv]
      simp[go_sem]
     .intro _ _;trivial
     .simp[invoke,go_sem,eg]
     obtain⟨J,hJ⟩:∃J:List (Int×ByteArray)->World->Prop,J=fun pre W=> ∃y A S,Inv pre y/\MS o kp A0 noS (w.heap.size+1) w.heap.size (acc y) A S W/\NoIt S W/\W.heap[w.heap.size+1]?=some (.loop (rec .ready none))/\W.heap[w.heap.size]?=some (.deferred (some [])):=⟨_,rfl⟩
     have hosz:=H.frm.chg.size
     have hJ0:J [] W1:=by
      rw[hJ]
      have hS:∀k,S0 k->k<w.heap.size:=H.frm.inb
      have hown:∀j r b,memF A0 (stR (acc y0)) j=some r->r.has b->b<w.heap.size:=fun j r b q1 q2=>(H.frm.own j r b q1 q2).2.1
      refine⟨y0,A0,S0,hI,⟨H.frm.on hb1,H.rall,Agr.refl _ _,fun k hk=>hk.elim,⟨.inl (by omega),fun q=>by have:=hS _ q;omega,fun j r q1 q2=>by have:=hown j r _ q1 q2;omega,by omega⟩,
       ⟨.inl (by omega),fun q=>by have:=hS _ q;omega,fun j r q1 q2=>by have:=hown j r _ q1 q2;omega,by omega⟩⟩,fun k hk s' p=>by rw[hb1.block k (hS k hk)];exact hni k hk s' p,hL1,hK1⟩
     have hb0:W1.heap[A0.b q]?=some (.cells #[.string s] ts (0,0)):=by
      have:=hJ0
      rw[hJ] at this
      obtain⟨y,A,S,_,m,_⟩:=this
      exact hbox m m.agr
     refine(hit.2 (w.heap.size+1) (A0.b q) s J W1 hsz hb0 ?_ ?_ hJ0).mono ?_
     ·
      rw[hJ]
      rintro pre W W' row ⟨y,A,S,hi,m,hno,hl,hD⟩ hg hr
      obtain⟨⟨m2,hno2⟩,el,eD⟩:=m.iter hno (c9 y) hg (fun r e=>⟨by have:=(hr r e).1;omega,(hr r e).2⟩) (fun s' p e=>by rw[hl] at e;cases e) (fun s' p e=>by rw[hD] at e;cases e)
      exact⟨y,A,S,hi,m2,hno2,el.trans hl,eD.trans hD⟩
     ·
      subst hJ
      rintro pre x W ⟨y,A,S,hi,m,hno,hl,hD⟩ hx
      have hy:=run_yield (P:=P) (args:= #[.int .i64 x.1,.string x.2]) hl (by rw[hrec,hps'];rfl)
      rw[hrec] at hy
      refine⟨fn,_,asg,body,hy,roundIn_of_wpIn tv ?_⟩
      have hact:({tmps:=(ps.zip #[.int .i64 x.1,.string x.2]).foldl (fun t (p,v)=>t.setIfInBounds p v) a.tmps,defers:=[]}:Act)=(a.put (some x1) (.int .i64 x.1)).put (some x2) (.string x.2):=by
       have hd:=H.nodef
       obtain⟨tm,df⟩:=a
       simp only at hd
       subst hd hps'
       simp[Act.put]
      have H1:OkF (m.frm.org kp A) n A S (· <(acc y).nx) (stE (acc y)) (stR (acc y)) a W:=
       ⟨H.size,H.nodef,fun t e he=>(hent y t e he).2.2.2 A m.agr,fun t e he _=>⟨Sy.mono (hnx y) (hent y t e he).2.1,(hent y t e he).2.2.1 A⟩,m.rall,m.frm.anew kp A,fun j x hj=>arOk_not (noArB_ok (c3 y) hj),⟨hnx y,Agr.refl _ _⟩⟩
      have H2:=H1.put (C:=[]) (d:=x1) (y:=.one (.v (.int .i64 x.1))) (u:=.int .i64 x.1) hxn (fun t e he l hl=>by rw[(hent y t e he).1] at hl;cases hl) (fun l hl=>by cases hl) (fun _=>⟨tv,tv⟩) ⟨fun _=>rfl,fun q=>(q fun l hl=>by cases hl).elim⟩
      have hch1:∀t e,updE (stE (acc y)) x1 (some ⟨[],.one (.v (.int .i64 x.1))⟩) t=some e->e.ch=[]:=fun t e he=>by
       by_cases q:x1=t
       .subst q;rw[updE_same] at he;cases he;rfl
       rw[updE_ne q] at he;exact(hent y t e he).1
      have H2:=H2.put (C:=[]) (d:=x2) (y:=.one (.v (.string x.2))) (u:=.string x.2) hyn (fun t e he l hl=>by rw[hch1 t e he] at hl;cases hl) (fun l hl=>by cases hl) (fun _=>⟨tv,tv⟩) ⟨fun _=>rfl,fun q=>(q fun l hl=>by cases hl).elim⟩
      have O2:Okx (m.frm.org kp A) n (rndN x1 x2 x (acc y)) ((a.put (some x1) (.int .i64 x.1)).put (some x2) (.string x.2)) W:=by
       refine⟨⟨A,S,H2⟩,fun t e he=>?_,fun j q=>q⟩
       have he:updE (updE (stE (acc y)) x1 (some ⟨[],.one (.v (.int .i64 x.1))⟩)) x2 (some ⟨[],.one (.v (.string x.2))⟩) t=some e:=he
       by_cases q:x2=t
       .subst q;rw[updE_same] at he;cases he;rfl
       rw[updE_ne q] at he;exact hch1 t e he
      have h8:=c8 y x
      have hrd:=round pre x y
      cases hE:exq P T [] n B [.run (pt++[0])] (rndN x1 x2 x (acc y)) with
      |none=>rw[hE] at h8;cases h8
      |some ex=>
      rw[hE] at h8 hrd
      unfold asgB at h8
      simp only[Bool.and_eq_true] at h8
      obtain⟨a1,a2,a3,a4⟩:=h8
      have a1:=List.isEmpty_iff.1 a1
      have a2:=List.isEmpty_iff.1 a2
      have a3:ex.st=[]:=by cases hst:ex.st<;>rw[hst] at a3<;>first|rfl|cases a3
      have G1:=(go (mo:=⟨some (w.heap.size+1),[]⟩) (T:=T) (B:=B) (st:=[.run (pt++[0])]) (pr:=True) (Q:=fun e a1 w1=>e= .normal/\Okx (m.frm.org kp A) n ex.σ a1 w1) [] O2 tv
       (fun a w h=>by rw[hE] at h ⊢;show At _ P T B _ ex.st a w;rw[a3];exact⟨⟨rfl,h⟩⟩) (by rw[hE];rfl) (by rw[hE];show All ex.cs=True;rw[a1];rfl) (fun A w=>by rw[hE];show ex.hs.map _=_;rw[show xH (some ex)=ex.hs from rfl,a2];rfl)).get
      have G1:(sub B (pt++[0])).wpM ⟨some (w.heap.size+1),[]⟩ P (fun e a1 w1=>e= .normal/\Okx (m.frm.org kp A) n ex.σ a1 w1) ((a.put (some x1) (.int .i64 x.1)).put (some x2) (.string x.2)) W:=by
       refine wpM_mono G1 fun e a w h=>?_
       cases e with
       |normal=>exact h
       |_=>exact h
      rw[sub_snoc,hcode,sub_range0] at G1
      have G1:asg.wpIn (Fence.wide.inRound (w.heap.size+1)) 0 P (postD ⟨some (w.heap.size+1),[]⟩ (fun e a1 w1=>e= .normal/\Okx (m.frm.org kp A) n ex.σ a1 w1)) (actD ((a.put (some x1) (.int .i64 x.1)).put (some x2) (.string x.2)) []) W:=G1
      rw[actD_nil] at G1
      rw[hact]
      refine wpIn_mono G1 ?_
      rintro e a1' w1 ⟨a0,ea,rfl,hq1⟩
      have ea:a1'=actD a0 []:=ea
      rw[actD_nil] at ea
      subst ea
      obtain⟨⟨A1,S1,K2⟩,ch1,_⟩:=hq1
      have m1:=m.next K2
      have hl1:=(m.lone m.l1 K2.frm).2.trans hl
      have hD1:=(m.lone m.d1 K2.frm).2.trans hD
      refine⟨_,run_beginRound hl1 (by rw[hrec]),?_⟩
      have m2:=m1.put (.loop {rec .ready none with state:=.busy}) (by omega)
      have hl2:(w1.putObj (w.heap.size+1) (.loop {rec .ready none with state:=.busy})).heap[w.heap.size+1]?=some (.loop {rec .ready none with state:=.busy}):=World.putObj_heap_same m1.l1.2.2.2
      have hD2:(w1.putObj (w.heap.size+1) (.loop {rec .ready none with state:=.busy})).heap[w.heap.size]?=some (.deferred (some [])):=(World.putObj_heap_other (by omega)).trans hD1
      have H3:OkF (m2.frm.org kp A1) n A1 S1 (· <ex.σ.nx) (stE ex.σ) (stR ex.σ) a1' _:=
       ⟨K2.size,K2.nodef,K2.env,K2.sall,m2.rall,m2.frm.anew kp A1,fun j x hj=>arOk_not (noArB_ok a4 hj),⟨K2.pin.1,Agr.refl _ _⟩⟩
      have B2:=(hrd (m2.frm.org kp A1).toOrig (m2.frm.org kp A1).G (m2.frm.org kp A1).gS (m2.frm.org kp A1).gin A1 (w.heap.size+1) a1' _ (fun e a3 w3=>e= .normal/\∃y',Inv (pre++[x]) y'/\Okx (m2.frm.org kp A1) n (accM (acc y')) a3 w3)
       (fun y' ρ' _ _ _ hk hi' h2 h3 h4=>⟨rfl,y',hi',sub_ok ρ' hk rfl h2 h3 h4⟩) hx hi ⟨⟨A1,S1,H3⟩,ch1,fun j q=>q⟩).get
      have B2:(sub B (pt++[1])).wpM ⟨some (w.heap.size+1),[]⟩ P (fun e a3 w3=>e= .normal/\∃y',Inv (pre++[x]) y'/\Okx (m2.frm.org kp A1) n (accM (acc y')) a3 w3) a1' (w1.putObj (w.heap.size+1) (.loop {rec .ready none with state:=.busy})):=by
       refine wpM_mono B2 fun e a w h=>?_
       cases e with
       |normal=>exact h
       |_=>exact h
      rw[sub_snoc,hcode,sub_range1] at B2
      have B2:body.wpIn (Fence.wide.inRound (w.heap.size+1)) 0 P (postD ⟨some (w.heap.size+1),[]⟩ (fun e a3 w3=>e= .normal/\∃y',Inv (pre++[x]) y'/\Okx (m2.frm.org kp A1) n (accM (acc y')) a3 w3)) (actD a1' []) (w1.putObj (w.heap.size+1) (.loop {rec .ready none with state:=.busy})):=B2
      rw[actD_nil] at B2
      refine wpIn_mono B2 ?_
      rintro e a3 w3 ⟨a4',_,rfl,y',hi',⟨A3,S3,K4⟩,_,_⟩
      have m3:MS o kp A0 noS (w.heap.size+1) w.heap.size (acc y') A3 S3 w3:=m2.next (σ2:=acc y') K4
      have hl3:=(m2.lone m2.l1 K4.frm).2.trans hl2
      have hD3:=(m2.lone m2.d1 K4.frm).2.trans hD2
      have m4:=m3.put (.loop (rec .ready none)) (by omega)
      obtain⟨m5,hno5⟩:=m4.nw (c9 y')
      have hend:=run_endRound (P:=P) none hl3
      have hsz4:W.heap.size<=w3.heap.size:=by
       have z1:W.heap.size<=w1.heap.size:=K2.frm.chg.size
       have z2:(w1.putObj (w.heap.size+1) (.loop {rec .ready none with state:=.busy})).heap.size<=w3.heap.size:=K4.frm.chg.size
       rw[World.putObj_size] at z2
       omega
      have hwend:∀W',W'=w3.putObj (w.heap.size+1) (.loop (rec .ready none))->(∃y A S,Inv (pre++[x]) y/\MS o kp A0 noS (w.heap.size+1) w.heap.size (acc y) A S W'/\NoIt S W'/\W'.heap[w.heap.size+1]?=some (.loop (rec .ready none))/\W'.heap[w.heap.size]?=some (.deferred (some [])))/\KpB (A0.b q) W W':=by
       rintro W' rfl
       refine⟨⟨y',A3,_,hi',m5,hno5,World.putObj_heap_same m3.l1.2.2.2,(World.putObj_heap_other (by omega)).trans hD3⟩,?_,?_,?_,?_,?_,?_⟩
       .exact m4.frm.chg.os.trans m.frm.chg.os.symm
       .exact m4.frm.chg.tape.trans m.frm.chg.tape.symm
       .exact m4.frm.chg.output.trans m.frm.chg.output.symm
       .rw[hbox m m.agr,hbox m4 m4.agr]
       .rw[World.putObj_size];exact hsz4
       intro r s' p hr
       have hrl:r≠w.heap.size+1:=fun e=>by rw[e,hl] at hr;cases hr
       have hrW:r<W.heap.size:=(Array.getElem?_eq_some_iff.1 hr).1
       obtain⟨⟨k1,k2,k3⟩,k4⟩:=m.still (fun z=>hno r z s' p hr) (fun j rr z1 z2=>by
        obtain⟨y2,hy2,rfl⟩:=Option.map_eq_some_iff.1 z1
        exact calmR_has (calmB2_ok (c9 y) hy2) (m.frm.ok j _ z1) z2 s' p hr) hrW K2.frm
       obtain⟨_,k8⟩:=m2.still (k:=r) k1 k2 (by rw[World.putObj_size];exact k3) K4.frm
       rw[World.putObj_heap_other hrl,k8,World.putObj_heap_other hrl,k4]
       exact hr
      have hw4:=hwend _ rfl
      refine⟨_,_,hend,rfl,?_,?_⟩
      .rw[hrec] at hw4 ⊢;exact hw4.1
      rw[hrec] at hw4 ⊢;exact hw4.2
     rw[hJ]
     rintro e W2 ⟨⟨v,rfl⟩,y,A,S,hi,m,hno,hl,hD⟩
     refine⟨none,W2.putObj (w.heap.size+1) (.loop {rec .ready none with state:=.exhausted}),by have:=run_endLoop (P:=P) hl (by rw[hrec];simp);rw[hrec] at this ⊢;exact this,?_⟩
     have m4:=m.put (.loop {rec .ready none with state:=.exhausted}) (by omega)
     have hD4:(W2.putObj (w.heap.size+1) (.loop {rec .ready none with state:=.exhausted})).heap[w.heap.size]?=some (.deferred (some [])):=(World.putObj_heap_other (by omega)).trans hD
     have hkp:=Nat.le_of_ble_eq_true c5
     have H5:OkF o n A S (· <(acc y).nx+1) (stE (acc y)) (stR (acc y)) a (W2.putObj (w.heap.size+1) (.loop {rec .ready none with state:=.exhausted})):=
      ⟨H.size,H.nodef,fun t e he=>(hent y t e he).2.2.2 A m.agr,fun t e he _=>⟨Sy.mono (fun j hj=>Nat.lt_succ_of_lt (hnx y j hj)) (hent y t e he).2.1,(hent y t e he).2.2.1 A⟩,
       fun j x hj=>⟨Nat.lt_succ_of_lt (m4.rall j x hj).1,R2.mono (fun j hj=>Nat.lt_succ_of_lt hj) (m4.rall j x hj).2.1,(m4.rall j x hj).2.2⟩,m4.frm,fun j x hj=>arOk_not (noArB_ok (c3 y) hj),
       ⟨fun j hj=>Nat.lt_succ_of_lt (hnx y j (Nat.lt_of_lt_of_le (np j hj) hkp)),H.pin.2.trans (m.agr.mono fun j hj=>Nat.lt_of_lt_of_le (np j hj) hkp)⟩⟩
     have H6:=H5.upd (w':=W2.putObj (w.heap.size+1) (.loop {rec .ready none with state:=.exhausted})) (S':=S) (acc y).nx (some (.ext (.dfr w.heap.size))) (fun y e=>by cases e;exact⟨Nat.lt_succ_self _,tv,tv⟩) (fun y e=>by cases e;exact arOk_not rfl)
      (m4.frm.put _ (dfrRs w.heap.size) hD4 fun b e=>by
       have e:b=w.heap.size:=e
       subst e
       exact⟨m4.d1.1,m4.d1.2.2.2,m4.d1.2.1,fun i ri _ hi=>m4.d1.2.2.1 i ri hi⟩)
     refine⟨actD a [cD w.heap.size],actD_D H.nodef _ _,post_put w.heap.size _ _ _ g4 (after y w.heap.size a _ hi ⟨⟨A,S,H6⟩,fun t e he=>(hent y t e he).1,np⟩).get⟩
    cases hI0
   cases hI0
  cases hI0
 cases hI0
end
theorem lines_it:LinesIt Tryz.prog 57 9:=by
 refine⟨⟨Tryz.f57,Tryz.func57,by kernel_rfl,by kernel_rfl⟩,fun l b s J w hs hb hJ hY h0=>?_⟩
 refine callsIn_wide.2 ((lines1_any l b s J (fun _ _=>False) w hs hb hJ (fun _ _ _ _ h _ _=>h) (fun pre x W1 h1 h2=>?_) h0).mono ?_)
 .obtain⟨fn,tmps,assign,body,h3,h4⟩:=hY pre x W1 h1 h2
  exact⟨fn,tmps,assign,body,h3,h4.mono fun e W' h=>.inl h⟩
 rintro e W' ⟨h1,⟨xs,rfl,h2⟩|⟨_,_,h2⟩⟩
 .exact⟨h1,h2⟩
 exact h2.elim
theorem rd_strV {S:Stab}{w:World}{v:Value}{s:ByteArray}(h:Rd S w v s):v= .string s:=by
 obtain⟨cs,h,rfl⟩:=h
 have h:cs=[.string s]:=h
 subst h;rfl
theorem name_c:ConOk Tryz.prog 40 [(false,.str)] [.bool] (fun _=>True) (fun x=>(nameB (show ByteArray from x.1),())):=by
 intro o vs x hx hd
 match vs,hx with
 |[v],hx=>
  have e:=rd_strV hx.1
  subst e
  exact(name_any _ o.w).mono fun e w' ⟨h1,h2⟩=>⟨_,h1,⟨[.bool _],rfl,rfl⟩,h2⟩
def C_name:Con Tryz.prog:=plain name_c
theorem bad_c:ConOk Tryz.prog 33 [(false,.str)] [.int,.bool] (fun _=>True) (fun x=>((badB (show ByteArray from x.1)).1,(badB (show ByteArray from x.1)).2,())):=by
 intro o vs x hx hd
 match vs,hx with
 |[v],hx=>
  have e:=rd_strV hx.1
  subst e
  exact(bad_any _ o.w).mono fun e w' ⟨h1,h2⟩=>⟨_,h1,⟨[.int .i64 _,.bool _],rfl,⟨[_],rfl,rfl⟩,⟨[_],rfl,rfl⟩,tv⟩,h2⟩
def C_bad:Con Tryz.prog:=plain bad_c
theorem split_c:ConOk Tryz.prog 36 [(false,.str)] [.list (.pair .int .str)] (fun x=>(show ByteArray from x.1).size<=1000000000) (fun x=>(wordsB (show ByteArray from x.1),())):=by
 intro o vs x hx hd
 match vs,hx with
 |[v],hx=>
  have e:=rd_strV hx.1
  subst e
  exact split_any _ o hd
def C_split:Con Tryz.prog:=plain split_c
section
variable {P:Program}{T':Stab}{v:Value}
def stR0 (ags:List (Bool×Ty))(x:ArgV ags)(raw:List Value):St2:=⟨envOf 0 ((argsSy ags x 0).1++raw.map fun u=>.one (scOf u)),(argsSy ags x 0).2,(argsSy ags x 0).2.length⟩
theorem con_ofR {f:FuncId}(fn:Func)(n:Nat)(T:List (Con P)){ags:List (Bool×Ty)}{rs:List Ty}{fx:Vals rs}(raw:List Value)(o:Orig)(vs:List Value)(x:ArgV ags)(hx:ArgOk o.S (· <o.w.heap.size) o.w ags vs x)(hf:P.funcs[f]?=some fn)
  (k:∀a w,Okx (OrgG.of o) n (stR0 ags x raw) a w->At pl P T (fn.body.getD .skip) (bodyPost P fn (Giv o fun S v w'=>RetOk S w' rs v fx)) [.run []] a w)
  (hb:fn.body.isSome=true:=by kernel_rfl) (hn:fn.ntmps=n:=by kernel_rfl) (hl:decide (ags.length+raw.length<=n)=true:=by kernel_rfl):Calls P f (vs++raw).toArray o.w (Giv o fun S v w'=>RetOk S w' rs v fx):=by
 have hlen:=argOk_len hx
 refine enter fn n hf (fun a ha=>?_) hb hn (by rw[List.length_append,hlen];exact hl)
 obtain⟨A,h1,h2,h3,h5,h4⟩:=argsSy_ok (o:=OrgG.of o) ags x vs 0 asg0 (fun _=>False) (argOk_up (fun k hk=>⟨hk,fun q=>q⟩) hx) fun _ _ q=>q
 have hall:((argsSy ags x 0).1++raw.map fun u=>Sy.one (scOf u)).map (Sy.den A)=vs++raw:=by
  rw[List.map_append,h2,List.map_map]
  congr 1
  exact(List.map_congr_left fun u _=>scOf_den A u).trans (List.map_id raw)
 have hgood:∀y∈(argsSy ags x 0).1++raw.map fun u=>Sy.one (scOf u),y.all (FU (fun _=>False) (argsSy ags x 0).2)/\y.good A:=fun y hy=>by
  rcases List.mem_append.1 hy with hy|hy
  .exact h4 y hy
  obtain⟨u,_,rfl⟩:=List.mem_map.1 hy
  exact⟨scOf_all _ u,scOf_good A u⟩
 have hslot:∀t e,stE (stR0 ags x raw) t=some e->e.ch=[]/\∃y,((argsSy ags x 0).1++raw.map fun u=>Sy.one (scOf u))[t]?=some y/\e=⟨[],y⟩:=fun t e he=>by
  obtain⟨_,y,q1,q2⟩:=envOf_get he
  exact⟨by rw[q2],y,by simpa using q1,q2⟩
 have H0:OkF (OrgG.of o) n A o.S (fun _=>False) (fun _=>none) (fun _=>none) a o.w:=⟨ha.1,ha.2.1,fun _ _ q=>(by cases q),fun _ _ q=>(by cases q),fun _ _ q=>(by cases q),Frm.start (OrgG.of o),fun _ _ q=>(by cases q),⟨fun _ q=>q.elim,fun _ q=>q.elim⟩⟩
 have H1:=H0.ro (Agr.refl _ _) h3
 have hle:∀j,FU (fun _=>False) (argsSy ags x 0).2 j->j<(argsSy ags x 0).2.length:=fun j hj=>by
  rcases hj with hj|⟨z,hz⟩
  .exact hj.elim
  have:=h5 _ hz;simpa using this
 have hfin:Okx (OrgG.of o) n (stR0 ags x raw) a o.w:=by
  refine⟨⟨A,o.S,H1.size,H1.nodef,fun t e he=>?_,fun t e he _=>?_,fun j y hj=>?_,H1.frm,H1.args,⟨fun _ q=>q.elim,fun _ q=>q.elim⟩⟩,fun t e he=>(hslot t e he).1,fun _ q=>q.elim⟩
  .obtain⟨_,y,q1,rfl⟩:=hslot t e he
   have hv:(vs++raw)[t]?=some (y.den A):=by rw[<-hall,List.getElem?_map,q1];rfl
   have htl:=(List.getElem?_eq_some_iff.1 hv).1
   refine ha.2.2 ⟨t,[],y.den A⟩ (List.mem_map.2 ⟨(t,y.den A),?_,rfl⟩)
   refine List.mem_iff_getElem?.2 ⟨t,?_⟩
   rw[List.getElem?_zip_eq_some]
   exact⟨by rw[List.getElem?_range htl],hv⟩
  .obtain⟨_,y,q1,rfl⟩:=hslot t e he
   have:=hgood y (List.mem_of_getElem? q1)
   exact⟨Sy.mono hle this.1,this.2⟩
  have:=H1.rall j y hj
  exact⟨hle j this.1,R2.mono hle this.2.1,this.2.2⟩
 have:=k a o.w hfin
 have this:(sub (fn.body.getD .skip) []).wpM pl P (post pl P (fn.body.getD .skip) (bodyPost P fn (Giv o fun S v w'=>RetOk S w' rs v fx)) []) a o.w:=this.get
 have this:=wpM_pl.1 this
 exact this
def org0 (w:World):Orig:=⟨w,fun _=>False,fun _ h=>h.elim⟩
def org1 (w:World):Orig:=⟨w,fun k=>k<w.heap.size,fun _ h=>h⟩
theorem ans_bool1 {f:FuncId}{args:Array Value}{w:World}{b:Bool}(h:Calls P f args w (Giv (org1 w) fun S v w'=>RetOk S w' [.bool] v ((b,()):Vals [.bool]))):Calls P f args w (Ans (.bool b) w):=
 h.mono fun e w' ⟨v,h1,h2,h3⟩=>by
  obtain⟨cs,q1,q2⟩:Rd (Since (org1 w) w') w' v (show Bool from b):=h2
  have q1:cs=[.bool b]:=q1
  subst q1
  exact⟨by rw[h1,q2];rfl,h3⟩
end
def OkUp (u:List Int):Prop:=∀j:Nat,j<u.length->0<=u.getD j 0/\u.getD j 0<=(j:Int)
def rootF (u:List Int):Nat->Int->Int
 |0,i=>i
 |f+1,i=>if u.getD i.toNat 0=i then i else rootF u f (u.getD i.toNat 0)
def rootL (u:List Int)(i:Int):Int:=rootF u (i.toNat+1) i
theorem okUp_at {u:List Int}(h:OkUp u){i:Int}(h0:0<=i)(h1:i<(u.length:Int)):0<=u.getD i.toNat 0/\u.getD i.toNat 0<=i:=by
 have:=h i.toNat (by omega);omega
theorem rootF_any {u:List Int}(h:OkUp u):∀(f g:Nat) (i:Int),0<=i->i<(u.length:Int)->i.toNat<f->i.toNat<g->rootF u f i=rootF u g i
 |0,_,_,_,_,h,_=>by omega
 |_+1,0,_,_,_,_,h=>by omega
 |f+1,g+1,i,h0,h1,hf,hg=>by
  unfold rootF
  split
  .rfl
  rename_i hne
  have:=okUp_at h h0 h1
  exact rootF_any h f g _ this.1 (by omega) (by omega) (by omega)
theorem rootL_step {u:List Int}(h:OkUp u){i:Int}(h0:0<=i)(h1:i<(u.length:Int)):rootL u i=if u.getD i.toNat 0=i then i else rootL u (u.getD i.toNat 0):=by
 unfold rootL
 conv=>lhs;unfold rootF
 split
 .rfl
 rename_i hne
 have:=okUp_at h h0 h1
 exact rootF_any h _ _ _ this.1 (by omega) (by omega) (by omega)
theorem rootL_root {u:List Int}(h:OkUp u){i:Int}(h0:0<=i)(h1:i<(u.length:Int))(hr:u.getD i.toNat 0=i):rootL u i=i:=by rw[rootL_step h h0 h1,if_pos hr]
theorem rootL_up {u:List Int}(h:OkUp u){i:Int}(h0:0<=i)(h1:i<(u.length:Int)):rootL u (u.getD i.toNat 0)=rootL u i:=by
 rw[rootL_step h h0 h1]
 split
 .rename_i e;rw[e];exact rootL_root h h0 h1 e
 rfl
theorem rootL_ok {u:List Int}(h:OkUp u):∀(n:Nat) (i:Int),i.toNat<=n->0<=i->i<(u.length:Int)->0<=rootL u i/\rootL u i<=i/\u.getD (rootL u i).toNat 0=rootL u i:=by
 intro n
 induction n with
 |zero=>
  intro i hn h0 h1
  have:=okUp_at h h0 h1
  rw[rootL_root h h0 h1 (by omega)]
  exact⟨h0,Int.le_refl _,by omega⟩
 |succ n ih=>
  intro i hn h0 h1
  have hu:=okUp_at h h0 h1
  rw[rootL_step h h0 h1]
  split
  .rename_i e;exact⟨h0,Int.le_refl _,e⟩
  rename_i e
  obtain⟨a,b,c⟩:=ih (u.getD i.toNat 0) (by omega) hu.1 (by omega)
  exact⟨a,by omega,c⟩
theorem rootL_of {u:List Int}(h:OkUp u){i:Int}(h0:0<=i)(h1:i<(u.length:Int)):0<=rootL u i/\rootL u i<=i/\u.getD (rootL u i).toNat 0=rootL u i:=rootL_ok h _ i (Nat.le_refl _) h0 h1
theorem rootL_idem {u:List Int}(h:OkUp u){i:Int}(h0:0<=i)(h1:i<(u.length:Int)):rootL u (rootL u i)=rootL u i:=by
 obtain⟨a,b,c⟩:=rootL_of h h0 h1
 exact rootL_root h a (by omega) c
theorem getD_set {u:List Int}{i j:Nat}{x:Int}(hi:i<u.length):(u.set i x).getD j 0=if i=j then x else u.getD j 0:=by
 rw[List.getD_eq_getElem?_getD,List.getElem?_set,List.getD_eq_getElem?_getD]
 split
 .rename_i e;subst e;simp[hi]
 rfl
theorem half_ok {u:List Int}(h:OkUp u){i:Int}(h0:0<=i)(h1:i<(u.length:Int)):
  OkUp (u.set i.toNat (u.getD (u.getD i.toNat 0).toNat 0))/\∀j,0<=j->j<(u.length:Int)->rootL (u.set i.toNat (u.getD (u.getD i.toNat 0).toNat 0)) j=rootL u j:=by
 have hu:=okUp_at h h0 h1
 have hz:=okUp_at h hu.1 (show u.getD i.toNat 0<(u.length:Int) by omega)
 have hok:OkUp (u.set i.toNat (u.getD (u.getD i.toNat 0).toNat 0)):=by
  intro j hj
  rw[List.length_set] at hj
  rw[getD_set (by omega)]
  split
  .rename_i e;subst e;omega
  exact h j hj
 refine⟨hok,?_⟩
 have key:∀(n:Nat) (j:Int),j.toNat<=n->0<=j->j<(u.length:Int)->rootL (u.set i.toNat (u.getD (u.getD i.toNat 0).toNat 0)) j=rootL u j:=by
  intro n
  induction n with
  |zero=>
   intro j hn hj0 hj1
   have a:=okUp_at h hj0 hj1
   have b:=okUp_at hok hj0 (by rw[List.length_set];exact hj1)
   rw[rootL_root h hj0 hj1 (by omega),rootL_root hok hj0 (by rw[List.length_set];exact hj1) (by omega)]
  |succ n ih=>
   intro j hn hj0 hj1
   have a:=okUp_at h hj0 hj1
   have hj1':j<((u.set i.toNat (u.getD (u.getD i.toNat 0).toNat 0)).length:Int):=by rw[List.length_set];exact hj1
   rw[rootL_step hok hj0 hj1',getD_set (by omega)]
   by_cases e:i.toNat=j.toNat
   .have e:i=j:=by omega
    subst e
    rw[if_pos rfl]
    by_cases c:u.getD (u.getD i.toNat 0).toNat 0=i
    .rw[if_pos c,rootL_root h h0 h1 (by omega)]
    rw[if_neg c,ih _ (by omega) hz.1 (by omega),rootL_up h hu.1 (by omega),rootL_up h h0 h1]
   rw[if_neg e]
   rw[rootL_step h hj0 hj1]
   split
   .rfl
   exact ih _ (by omega) a.1 (by omega)
 exact fun j=>key j.toNat j (Nat.le_refl _)
def joinR (R:Int->Int)(x y:Int):Int->Int:=fun j=>if R j=max (R x) (R y) then min (R x) (R y) else R j
theorem join_ok {u:List Int}(h:OkUp u){r s:Int}(hr:0<=r)(hs:0<=s)(hr1:r<(u.length:Int))(hs1:s<(u.length:Int))(er:u.getD r.toNat 0=r)(es:u.getD s.toNat 0=s)(hne:r≠s):
  OkUp (u.set (max r s).toNat (min r s))/\∀j,0<=j->j<(u.length:Int)->rootL (u.set (max r s).toNat (min r s)) j=if rootL u j=max r s then min r s else rootL u j:=by
 have hok:OkUp (u.set (max r s).toNat (min r s)):=by
  intro j hj
  rw[List.length_set] at hj
  rw[getD_set (by omega)]
  split
  .rename_i e;subst e;omega
  exact h j hj
 refine⟨hok,?_⟩
 have rM:u.getD (max r s).toNat 0=max r s:=by
  rcases Int.le_total r s with q|q
  .rw[Int.max_eq_right q];exact es
  rw[Int.max_eq_left q];exact er
 have rm:u.getD (min r s).toNat 0=min r s:=by
  rcases Int.le_total r s with q|q
  .rw[Int.min_eq_left q];exact er
  rw[Int.min_eq_right q];exact es
 have key:∀(n:Nat) (j:Int),j.toNat<=n->0<=j->j<(u.length:Int)->rootL (u.set (max r s).toNat (min r s)) j=if rootL u j=max r s then min r s else rootL u j:=by
  intro n
  induction n with
  |zero=>
   intro j hn hj0 hj1
   have a:=okUp_at h hj0 hj1
   have b:=okUp_at hok hj0 (by rw[List.length_set];exact hj1)
   rw[rootL_root h hj0 hj1 (by omega),rootL_root hok hj0 (by rw[List.length_set];exact hj1) (by omega),if_neg (by omega)]
  |succ n ih=>
   intro j hn hj0 hj1
   have a:=okUp_at h hj0 hj1
   have hj1':j<((u.set (max r s).toNat (min r s)).length:Int):=by rw[List.length_set];exact hj1
   rw[rootL_step hok hj0 hj1',getD_set (by omega)]
   by_cases e:(max r s).toNat=j.toNat
   .have e:j=max r s:=by omega
    subst e
    rw[if_pos rfl,if_neg (by omega),ih (min r s) (by omega) (by omega) (by omega),rootL_root h (by omega) (by omega) rm,rootL_root h hj0 hj1 rM,if_neg (by omega),if_pos rfl]
   rw[if_neg e,rootL_step h hj0 hj1]
   split
   .rename_i c;rw[if_neg (by omega)]
   exact ih _ (by omega) a.1 (by omega)
 exact fun j=>key j.toNat j (Nat.le_refl _)
theorem getD_append {u:List Int}{j:Nat}{x:Int}:(u++[x]).getD j 0=if j<u.length then u.getD j 0 else if j=u.length then x else 0:=by
 rw[List.getD_eq_getElem?_getD,List.getD_eq_getElem?_getD,List.getElem?_append]
 split
 .rfl
 by_cases e:j=u.length
 .rw[if_pos e];simp[e]
 rw[if_neg e,List.getElem?_eq_none (by simp;omega)];rfl
theorem add_ok {u:List Int}(h:OkUp u):OkUp (u++[(u.length:Int)])/\(∀j,0<=j->j<(u.length:Int)->rootL (u++[(u.length:Int)]) j=rootL u j)/\rootL (u++[(u.length:Int)]) (u.length:Int)=(u.length:Int):=by
 have hok:OkUp (u++[(u.length:Int)]):=by
  intro j hj
  rw[List.length_append,List.length_singleton] at hj
  rw[getD_append]
  split
  .exact h j (by assumption)
  rw[if_pos (by omega)];omega
 have hl:((u++[(u.length:Int)]).length:Int)=(u.length:Int)+1:=by simp
 refine⟨hok,?_,rootL_root hok (by omega) (by omega) (by rw[getD_append,if_neg (by omega),if_pos (by omega)])⟩
 have key:∀(n:Nat) (j:Int),j.toNat<=n->0<=j->j<(u.length:Int)->rootL (u++[(u.length:Int)]) j=rootL u j:=by
  intro n
  induction n with
  |zero=>
   intro j hn hj0 hj1
   have a:=okUp_at h hj0 hj1
   rw[rootL_root h hj0 hj1 (by omega),rootL_root hok hj0 (by omega) (by rw[getD_append,if_pos (by omega)];omega)]
  |succ n ih=>
   intro j hn hj0 hj1
   have a:=okUp_at h hj0 hj1
   have e9:(u++[(u.length:Int)]).getD j.toNat 0=u.getD j.toNat 0:=by rw[getD_append,if_pos (by omega)]
   rw[rootL_step hok hj0 (by omega),rootL_step h hj0 hj1,e9]
   split
   .rfl
   exact ih _ (by omega) a.1 (by omega)
 exact fun j=>key j.toNat j (Nat.le_refl _)
theorem canI (p:Addr)(w:World)(hc:∃x,w.cell? p=some (.bool x))(hz:w.frozen? p=false):
  CallsD Tryz.prog 166 #[.pointer (some p)] .returning w fun e u' w'=>e= .returned (.tuple #[])/\u'= .returning/\w'=w.setCell p (.bool true):=by
 obtain⟨x,hc⟩:=hc
 refine callsD_of_wpS Tryz.func166 rfl fun c₀ cs hu=>?_
 apply wpS_region
 simp[wpOpsS,go_sem,recoverD,hu,Tryz.ntmps166,Exit.thenS,hc,hz,bodyPostS,results,Tryz.results166]
 cases c₀
 simp_all
theorem canA (sb pb:Nat)(x:Int)(w:World)(hc1:(w.alloc (.cells #[.bool false] 4)).cell? ⟨sb,0,none⟩=some (.map (some pb)))(hl:∃v,(Instr.lookup 140 (.map (some pb)) (.int .i64 x) false).run Tryz.prog (w.alloc (.cells #[.bool false] 4))= .ok v (w.alloc (.cells #[.bool false] 4))):
  Calls Tryz.prog 138 #[.pointer (some ⟨sb,0,none⟩),.int .i64 x] w (Ans (.bool true) w):=by
 obtain⟨v,hl⟩:=hl
 have hmf:∀(fn:Fn) (first cap:Array Value) (w:World),(Instr.makeFunc fn first cap).run Tryz.prog w= .ok (.func fn first cap) w:=fun _ _ _ _=>rfl
 go_enter_defers Tryz.func138,Tryz.ntmps138
 go_wp2
 refine leaves_cons (f:=166) (args:= #[.pointer (some ⟨w.heap.size,0,none⟩)]) (by simp) (by simp[go_sem]) ?_
 refine(canI ⟨w.heap.size,0,none⟩ _ ⟨true,by simp[go_sem]⟩ (by simp[go_sem])).mono ?_
 rintro e u' w'' ⟨rfl,rfl,rfl⟩
 simp[Leaves,settle,results,Tryz.results138,go_sem]
 exact⟨rfl,below_new _ _⟩
def canT (b:Nat)(caps:List (Nat×Nat))(ys:List Sy):Tr Out:=match caps,ys with
 |[],[.one (.ptr j 0),.one (.v (.int .i64 x))]=>.res j fun z=>match z with
  | .box _ (.mp q::_)=>.res q fun y=>match y with
   | .map .int .int _=>.ret ⟨[kwf .int (show Int from x)],[],.one (.b (.lit true)),[]⟩
   |_=>.fail
  |_=>.fail
 |_,_=>.fail
theorem canT_ok:ConTr Tryz.prog 138 canT:=by
 intro o n A S F s r a w b B caps ys out H hF hys hcaps h hcs hhs hB
 unfold canT at h
 split at h
 .rename_i j x
  obtain⟨z,hz,h⟩:=res_run h
  split at h
  .rename_i bt q l
   obtain⟨y,hy,h⟩:=res_run h
   split at h
   .rename_i m
    have e:=ret_run h
    subst e
    have hx:kwf .int (show Int from x):=hcs _ (List.mem_singleton.2 rfl)
    have hm:memF A r j=some (Rs.of (.box (A.b j) bt ((Sc.mp q::l).map (Sc.den A)))):=by simp[memF,hz,R2.den]
    have hb:w.heap[A.b j]?=some (.cells (((Sc.mp q::l).map (Sc.den A)).toArray) bt (0,0)):=H.frm.ok j _ hm
    obtain⟨_,hbl,_⟩:=H.frm.own j _ (A.b j) hm rfl
    have hq:memF A r q=some (mapRs (A.m q) m):=by simp[memF,hy,R2.den]
    obtain⟨pb,hpb,hat⟩:∃pb,A.m q=some pb/\MapAt S w pb m:=H.frm.ok q _ hq
    obtain⟨_,hpl,_⟩:=H.frm.own q _ pb hq hpb
    have hbelow:=below_new w (.cells #[.bool false] 4)
    obtain⟨zs,hown,_,_⟩:=hat.keep (w':=w.alloc (.cells #[.bool false] 4)) (fun k hk=>hbelow.block k (H.frm.inb k hk)) (hbelow.block pb hpl)
    have hlk:=hown.look (P:=Tryz.prog) (t:=140) (kt:=3) (et:=3) (by kernel_rfl) (by kernel_rfl) (z:=.int .i64 0) (by kernel_rfl) hx
    have hcell:(w.alloc (.cells #[.bool false] 4)).cell? ⟨A.b j,0,none⟩=some (.map (some pb)):=by
     rw[cell_of_row _ _ _ _ _ _ ((hbelow.block _ hbl).trans hb)]
     show some (Value.map (A.m q))=_
     rw[hpb]
    refine(canA (A.b j) pb x w hcell ⟨_,hlk⟩).mono fun e w' hw=>?_
    obtain⟨rfl,hbw⟩:=hw
    refine⟨_,rfl,A,S,?_,rfl,tv,tv⟩
    exact⟨H.size,H.nodef,H.env,fun t e he hc=>⟨Sy.mono (fun _=>.inl) (H.sall t e he hc).1,(H.sall t e he hc).2⟩,fun j x hj=>⟨.inl (H.rall j x hj).1,R2.mono (fun _=>.inl) (H.rall j x hj).2.1,(H.rall j x hj).2.2⟩,H.frm.on hbw,H.args,⟨fun j hj=>.inl (H.pin.1 j hj),H.pin.2⟩⟩
   cases h
  cases h
 cases h
def C_can:Con Tryz.prog:=⟨_,canT,canT_ok⟩
abbrev MII:=List (Int×Int)
def putM (M:MII)(L:List Int)(x:Int):MII:=if(lkI M x).isSome then M else ptI M x (L.length:Int)
def putL (M:MII)(L:List Int)(x:Int):List Int:=if(lkI M x).isSome then L else L++[x]
def putU (M:MII)(L U:List Int)(x:Int):List Int:=if(lkI M x).isSome then U else U++[(L.length:Int)]
def putG (M:MII)(g x:Int):Int:=if(lkI M x).isSome then g else g+1
def putI (M:MII)(L:List Int)(x:Int):Int:=(lkI M x).getD (L.length:Int)
def hvF:Nat->List Int->Int->List Int×Int
 |0,U,i=>(U,i)
 |f+1,U,i=>if U.getD i.toNat 0=i then(U,i) else hvF f (U.set i.toNat (U.getD (U.getD i.toNat 0).toNat 0)) ((U.set i.toNat (U.getD (U.getD i.toNat 0).toNat 0)).getD i.toNat 0)
theorem hvS {f:Nat}{c:List Int}{k:Int}(hf:0<f)(h:¬c.getD k.toNat 0=k):hvF f c k=hvF (f-1) (c.set k.toNat (c.getD (c.getD k.toNat 0).toNat 0)) ((c.set k.toNat (c.getD (c.getD k.toNat 0).toNat 0)).getD k.toNat 0):=by
 obtain⟨q,rfl⟩:∃q,f=q+1:=⟨f-1,by omega⟩
 rw[show q+1-1=q by omega]
 conv=>lhs;unfold hvF
 rw[if_neg h]
theorem hvE {f:Nat}{c:List Int}{k:Int}(hf:0<f)(h:c.getD k.toNat 0=k):hvF f c k=(c,k):=by
 obtain⟨q,rfl⟩:∃q,f=q+1:=⟨f-1,by omega⟩
 unfold hvF
 rw[if_pos h]
def hvU (U:List Int)(i:Int):List Int:=(hvF (i.toNat+1) U i).1
def hvI (U:List Int)(i:Int):Int:=(hvF (i.toNat+1) U i).2
theorem hvF_ok:∀(f:Nat) (U:List Int) (i:Int),OkUp U->0<=i->i<(U.length:Int)->i.toNat<f->
  (hvF f U i).2=rootL U i/\OkUp (hvF f U i).1/\(hvF f U i).1.length=U.length/\∀j,0<=j->j<(U.length:Int)->rootL (hvF f U i).1 j=rootL U j
 |0,_,_,_,_,_,h=>by omega
 |f+1,U,i,hU,h0,h1,hf=>by
  unfold hvF
  split
  .rename_i he
   exact⟨(rootL_root hU h0 h1 he).symm,hU,rfl,fun _ _ _=>rfl⟩
  rename_i he
  have hy:=okUp_at hU h0 h1
  have hz:=okUp_at hU hy.1 (show U.getD i.toNat 0<(U.length:Int) by omega)
  obtain⟨k1,k2⟩:=half_ok hU h0 h1
  have hn:(U.set i.toNat (U.getD (U.getD i.toNat 0).toNat 0)).getD i.toNat 0=U.getD (U.getD i.toNat 0).toNat 0:=by rw[getD_set (by omega),if_pos rfl]
  have hl:(U.set i.toNat (U.getD (U.getD i.toNat 0).toNat 0)).length=U.length:=List.length_set ..
  rw[hn]
  obtain⟨q1,q2,q3,q4⟩:=hvF_ok f (U.set i.toNat (U.getD (U.getD i.toNat 0).toNat 0)) (U.getD (U.getD i.toNat 0).toNat 0) k1 hz.1 (by omega) (by omega)
  refine⟨?_,q2,by omega,fun j j0 j1=>by rw[q4 j j0 (by omega),k2 j j0 j1]⟩
  rw[q1,k2 _ hz.1 (by omega),rootL_up hU hy.1 (by omega),rootL_up hU h0 h1]
def jnM (M:MII)(L:List Int)(x y:Int):MII:=putM (putM M L x) (putL M L x) y
def jnL (M:MII)(L:List Int)(x y:Int):List Int:=putL (putM M L x) (putL M L x) y
def jnU0 (M:MII)(L U:List Int)(x y:Int):List Int:=putU (putM M L x) (putL M L x) (putU M L U x) y
def jnJ (M:MII)(L:List Int)(x y:Int):Int:=putI (putM M L x) (putL M L x) y
def jnU2 (M:MII)(L U:List Int)(x y:Int):List Int:=hvU (hvU (putU (putM M L x) (putL M L x) (putU M L U x) y) (putI M L x)) (putI (putM M L x) (putL M L x) y)
def jnRi (M:MII)(L U:List Int)(x y:Int):Int:=hvI (putU (putM M L x) (putL M L x) (putU M L U x) y) (putI M L x)
def jnRj (M:MII)(L U:List Int)(x y:Int):Int:=hvI (hvU (putU (putM M L x) (putL M L x) (putU M L U x) y) (putI M L x)) (putI (putM M L x) (putL M L x) y)
def jnU (M:MII)(L U:List Int)(x y:Int):List Int:=if jnRi M L U x y=jnRj M L U x y then jnU2 M L U x y else(jnU2 M L U x y).set (max (jnRi M L U x y) (jnRj M L U x y)).toNat (min (jnRi M L U x y) (jnRj M L U x y))
def jnG (M:MII)(L U:List Int)(g x y:Int):Int:=if jnRi M L U x y=jnRj M L U x y then putG (putM M L x) (putG M g x) y else putG (putM M L x) (putG M g x) y-1
def jnB (M:MII)(L U:List Int)(x y:Int):Bool:=if jnRi M L U x y=jnRj M L U x y then false else true
structure RepS (M:MII)(L U:List Int):Prop where
 ok:OkUp U
 len:U.length=L.length
 at_:∀x i,lkI M x=some i->0<=i/\i<(L.length:Int)/\L.getD i.toNat 0=x
 mlen:M.length<=L.length
 ex:∀i:Nat,i<L.length->lkI M (L.getD i 0)=some (i:Int)
theorem putL_len (M:MII)(L:List Int)(x:Int):L.length<=(putL M L x).length/\(putL M L x).length<=L.length+1:=by
 unfold putL;split
 .omega
 simp
theorem putG_b (M:MII)(g x:Int):g<=putG M g x/\putG M g x<=g+1:=by unfold putG;split<;>omega
theorem RepS.nil:RepS [] [] []:=⟨fun j h=>(by simp at h),rfl,fun x i h=>(by cases h),Nat.le_refl _,fun i h=>(by simp at h)⟩
theorem RepS.put {M:MII}{L U:List Int}(h:RepS M L U)(x:Int):RepS (putM M L x) (putL M L x) (putU M L U x)/\0<=putI M L x/\putI M L x<((putL M L x).length:Int)/\lkI (putM M L x) x=some (putI M L x):=by
 cases hx:lkI M x with
 |some i=>
  have e1:putM M L x=M:=by unfold putM;rw[hx];rfl
  have e2:putL M L x=L:=by unfold putL;rw[hx];rfl
  have e3:putU M L U x=U:=by unfold putU;rw[hx];rfl
  have e4:putI M L x=i:=by unfold putI;rw[hx];rfl
  rw[e1,e2,e3,e4]
  obtain⟨h1,h2,_⟩:=h.at_ x i hx
  exact⟨h,h1,h2,hx⟩
 |none=>
  have e1:putM M L x=ptI M x (L.length:Int):=by unfold putM;rw[hx];rfl
  have e2:putL M L x=L++[x]:=by unfold putL;rw[hx];rfl
  have e3:putU M L U x=U++[(L.length:Int)]:=by unfold putU;rw[hx];rfl
  have e4:putI M L x=(L.length:Int):=by unfold putI;rw[hx];rfl
  rw[e1,e2,e3,e4]
  have hlen:=h.len
  have hnew:∀i:Nat,i<L.length->L.getD i 0≠x:=fun i hi q=>by
   have:=h.ex i hi
   rw[q,hx] at this;cases this
  refine⟨⟨?_,by simp[hlen],fun z i hz=>?_,?_,fun i hi=>?_⟩,by omega,by simp;omega,by rw[lkI_pt,if_pos rfl]⟩
  .have:=(add_ok h.ok).1
   rwa[hlen] at this
  .rw[lkI_pt] at hz
   split at hz
   .rename_i q
    cases hz
    subst q
    refine⟨by omega,by simp;omega,?_⟩
    rw[Int.toNat_natCast]
    simp
   obtain⟨k1,k2,k3⟩:=h.at_ z i hz
   refine⟨k1,by simp;omega,?_⟩
   rw[List.getD_eq_getElem?_getD,List.getElem?_append_left (by omega),<-List.getD_eq_getElem?_getD];exact k3
  .have:=ptI_len M x (L.length:Int)
   have:=h.mlen
   simp;omega
  rw[lkI_pt]
  simp at hi
  by_cases q:i<L.length
  .rw[List.getD_eq_getElem?_getD,List.getElem?_append_left q,<-List.getD_eq_getElem?_getD,if_neg fun e=>hnew i q e.symm]
   exact h.ex i q
  have:i=L.length:=by omega
  subst this
  simp
theorem root2 {U:List Int}{i j:Int}(hU:OkUp U)(i0:0<=i)(i1:i<(U.length:Int))(j0:0<=j)(j1:j<(U.length:Int)):
  OkUp (hvU U i)/\(hvU U i).length=U.length/\OkUp (hvU (hvU U i) j)/\(hvU (hvU U i) j).length=U.length/\0<=hvI U i/\hvI U i<(U.length:Int)/\0<=hvI (hvU U i) j/\hvI (hvU U i) j<(U.length:Int):=by
 obtain⟨a1,a2,a3,_⟩:=hvF_ok (i.toNat+1) U i hU i0 i1 (Nat.lt_succ_self _)
 have a3:(hvU U i).length=U.length:=a3
 have a2:OkUp (hvU U i):=a2
 obtain⟨b1,b2,b3,_⟩:=hvF_ok (j.toNat+1) (hvU U i) j a2 j0 (by omega) (Nat.lt_succ_self _)
 have b3:(hvU (hvU U i) j).length=(hvU U i).length:=b3
 have a1:hvI U i=rootL U i:=a1
 have b1:hvI (hvU U i) j=rootL (hvU U i) j:=b1
 obtain⟨q1,q2,_⟩:=rootL_of hU i0 i1
 obtain⟨r1,r2,_⟩:=rootL_of a2 j0 (show j<((hvU U i).length:Int) by omega)
 exact⟨a2,a3,b2,by omega,by rw[a1];exact q1,by rw[a1];omega,by rw[b1];exact r1,by rw[b1];omega⟩
def okE (n:Int)(e:Int×Int):Prop:=0<=e.1/\e.1<n/\0<=e.2/\e.2<n
instance (n:Int) (e:Int×Int):Decidable (okE n e):=by unfold okE;infer_instance
def okEs (n:Int)(E:List (Int×Int)):Prop:=∀j,j<E.length->okE n (E.getD j (0,0))
instance (n:Int) (E:List (Int×Int)):Decidable (okEs n E):=by unfold okEs;infer_instance
def rightE (n:Int)(E:List (Int×Int)):Int:=if n<0 then 3 else if 1024<n\/1024-n<(E.length:Int) then 2 else if okEs n E then 0 else 3
theorem rightE_bad {n:Int}{E:List (Int×Int)}(h0:0<=n)(h1:n<=1024)(h2:(E.length:Int)<=1024-n){i:Int}(hi:0<=i)(hl:i<(E.length:Int))(h:¬okE n (E.getD i.toNat (0,0))):rightE n E=3:=by
 unfold rightE
 rw[if_neg (by omega),if_neg (by omega),if_neg (fun q:okEs n E=>h (q i.toNat (by omega)))]
theorem rightE_ok {n:Int}{E:List (Int×Int)}(h0:0<=n)(h1:n<=1024)(h2:(E.length:Int)<=1024-n){i:Int}(hl:¬i<(E.length:Int))(h:∀j:Nat,(j:Int)<i->okE n (E.getD j (0,0))):rightE n E=0:=by
 unfold rightE
 rw[if_neg (by omega),if_neg (by omega),if_pos (show okEs n E from fun j hj=>h j (by omega))]
def risesP (l:List Int)(n:Int):Prop:=∀j,j<l.length->0<=l.getD j 0/\l.getD j 0<n/\(0<j->l.getD (j-1) 0<l.getD j 0)
instance (l:List Int) (n:Int):Decidable (risesP l n):=by unfold risesP;infer_instance
def bsGo (l:List Int)(x:Int):Nat->Int->Int->Int
 |0,lo,_=>lo
 |f+1,lo,hi=>if lo<hi then(if l.getD ((lo+hi)/2).toNat 0<x then bsGo l x f ((lo+hi)/2+1) hi else bsGo l x f lo ((lo+hi)/2)) else lo
def bsI (l:List Int)(x:Int):Int:=bsGo l x l.length 0 (l.length:Int)
def hasB (l:List Int)(x:Int):Bool:=decide (bsI l x<(l.length:Int)) && decide (l.getD (bsI l x).toNat 0=x)
theorem bsGo_end {l:List Int}{x lo hi:Int}(h:¬lo<hi):∀f,bsGo l x f lo hi=lo
 |0=>rfl
 |f+1=>by unfold bsGo;rw[if_neg h]
theorem bsGo_fuel {l:List Int}{x:Int}:∀(f g:Nat) (lo hi:Int),(hi-lo).toNat<=f->(hi-lo).toNat<=g->bsGo l x f lo hi=bsGo l x g lo hi
 |0,g,lo,hi,h1,h2=>by rw[bsGo_end (by omega),bsGo_end (by omega)]
 |f+1,0,lo,hi,h1,h2=>by rw[bsGo_end (by omega),bsGo_end (by omega)]
 |f+1,g+1,lo,hi,h1,h2=>by
  unfold bsGo
  by_cases h:lo<hi
  .rw[if_pos h,if_pos h]
   split
   .exact bsGo_fuel f g _ _ (by omega) (by omega)
   exact bsGo_fuel f g _ _ (by omega) (by omega)
  rw[if_neg h,if_neg h]
def bsW (l:List Int)(x lo hi:Int):Int:=bsGo l x (hi-lo).toNat lo hi
theorem bsW_T {l:List Int}{x lo hi:Int}(h:lo<hi)(hx:l.getD ((lo+hi)/2).toNat 0<x):bsW l x lo hi=bsW l x ((lo+hi)/2+1) hi:=by
 unfold bsW
 obtain⟨f,hf⟩:∃f,(hi-lo).toNat=f+1:=⟨(hi-lo).toNat-1,by omega⟩
 rw[hf]
 conv=>lhs;unfold bsGo
 rw[if_pos h,if_pos hx]
 exact bsGo_fuel _ _ _ _ (by omega) (by omega)
theorem bsW_F {l:List Int}{x lo hi:Int}(h:lo<hi)(hx:¬l.getD ((lo+hi)/2).toNat 0<x):bsW l x lo hi=bsW l x lo ((lo+hi)/2):=by
 unfold bsW
 obtain⟨f,hf⟩:∃f,(hi-lo).toNat=f+1:=⟨(hi-lo).toNat-1,by omega⟩
 rw[hf]
 conv=>lhs;unfold bsGo
 rw[if_pos h,if_neg hx]
 exact bsGo_fuel _ _ _ _ (by omega) (by omega)
theorem bsW_end {l:List Int}{x lo hi:Int}(h:¬lo<hi):bsW l x lo hi=lo:=bsGo_end h _
theorem bsI_W (l:List Int)(x:Int):bsW l x 0 (l.length:Int)=bsI l x:=by unfold bsW bsI;congr 1
def endsE (n:Int)(E:List (Int×Int))(d:Int):Int×Int×Bool:=
 if rightE n E≠0\/d<0\/(E.length:Int)<=d/2 then(0,0,false)
 else if d%2=0 then((E.getD (d/2).toNat (0,0)).1,(E.getD (d/2).toNat (0,0)).2,true) else((E.getD (d/2).toNat (0,0)).2,(E.getD (d/2).toNat (0,0)).1,true)
theorem rises_bound {l:List Int}{n:Int}(h:risesP l n):∀j,j<l.length->(j:Int)<=l.getD j 0
 |0,hj=>by have:=h 0 hj;omega
 |j+1,hj=>by
  have ih:=rises_bound h j (by omega)
  have:=(h (j+1) hj).2.2 (by omega)
  rw[show j+1-1=j by omega] at this
  omega
theorem rises_len {l:List Int}{n:Int}(h:risesP l n)(hn:0<=n):(l.length:Int)<=n:=by
 cases hl:l.length with
 |zero=>omega
 |succ m=>
  have h1:=rises_bound h m (by omega)
  have h2:=h m (by omega)
  omega
def okPart (E:List (Int×Int))(V L:List Int):Prop:=∀j,j<L.length->hasB V (E.getD (L.getD j 0).toNat (0,0)).1=true/\hasB V (E.getD (L.getD j 0).toNat (0,0)).2=true
instance (E:List (Int×Int)) (V L:List Int):Decidable (okPart E V L):=by unfold okPart;infer_instance
def partE (n:Int)(E:List (Int×Int))(V L:List Int):Int:=
 if rightE n E≠0 then rightE n E else if ¬risesP V n\/¬risesP L (E.length:Int) then 4 else if okPart E V L then 0 else 4
theorem rightE_0 {n:Int}{E:List (Int×Int)}(h:rightE n E=0):0<=n/\n<=1024/\(E.length:Int)<=1024-n/\okEs n E:=by
 unfold rightE at h
 split at h
 .omega
 split at h
 .omega
 split at h
 .rename_i q;exact⟨by omega,by omega,by omega,q⟩
 omega
def mgF:Nat->List Int->List Int->Int->List Int
 |0,_,_,_=>[]
 |f+1,a,b,n=>if a=[]/\b=[] then[] else
  if b=[]\/(a≠[]/\a.getD 0 0<b.getD 0 0) then(if n=1 then[a.getD 0 0] else[])++mgF f (a.drop 1) b n
  else if a=[]\/b.getD 0 0<a.getD 0 0 then(if n=1 then[b.getD 0 0] else[])++mgF f a (b.drop 1) n
  else[a.getD 0 0]++mgF f (a.drop 1) (b.drop 1) n
def mergeL (a b:List Int)(n:Int):List Int:=mgF (a.length+b.length) a b n
theorem eq_of_getD {l m:List Int}(hl:(l.length:Int)=(m.length:Int))(h:∀j:Nat,j<l.length->l.getD j 0=m.getD j 0):l=m:=by
 apply List.ext_getElem (by omega)
 intro i h1 h2
 have:=h i h1
 simpa[List.getD_eq_getElem?_getD,List.getElem?_eq_getElem h1,List.getElem?_eq_getElem h2] using this
theorem mem_getD {l:List Int}{x:Int}:x∈l↔∃j,j<l.length/\l.getD j 0=x:=by
 constructor
 .intro h
  obtain⟨j,hj,e⟩:=List.getElem_of_mem h
  exact⟨j,hj,by rw[List.getD_eq_getElem?_getD,List.getElem?_eq_getElem hj];exact e⟩
 rintro⟨j,hj,e⟩
 rw[List.getD_eq_getElem?_getD,List.getElem?_eq_getElem hj] at e
 exact e▸List.getElem_mem hj
theorem drop_round {l:List Int}{i:Int}(h0:0<=i)(h:i<(l.length:Int)):l.drop i.toNat=l.getD i.toNat 0::l.drop (i+1).toNat:=by
 have hi:i.toNat<l.length:=by omega
 rw[List.drop_eq_getElem_cons hi,List.getD_eq_getElem?_getD,List.getElem?_eq_getElem hi,show(i+1).toNat=i.toNat+1 by omega]
 rfl
theorem drop_end {l:List Int}{i:Int}(h:¬i<(l.length:Int)):l.drop i.toNat=[]:=List.drop_of_length_le (by omega)
def allP (a b:List Int):Prop:=∀j,j<a.length->hasB b (a.getD j 0)=true
instance (a b:List Int):Decidable (allP a b):=by unfold allP;infer_instance
theorem partE_0 {n:Int}{E:List (Int×Int)}{V L:List Int}(h:partE n E V L=0):rightE n E=0/\risesP V n/\risesP L (E.length:Int)/\okPart E V L:=by
 unfold partE at h
 split at h
 .rename_i q;exact(q h).elim
 rename_i q
 split at h
 .omega
 rename_i q2
 split at h
 .rename_i q3
  exact⟨by omega,by have:=not_or.1 q2;exact Classical.not_not.1 this.1,by have:=not_or.1 q2;exact Classical.not_not.1 this.2,q3⟩
 omega
def tailE (E:List (Int×Int))(d:Int):Int:=if d%2=0 then(E.getD (d/2).toNat (0,0)).1 else(E.getD (d/2).toNat (0,0)).2
def twinE (d:Int):Int:=if d%2=0 then d+1 else d-1
def dartsFrom (E:List (Int×Int))(e v s:Int):List Int:=
 (if s<=0/\tailE E (2*e+0)=v then[2*e+0] else[])++(if s<=1/\tailE E (2*e+1)=v then[2*e+1] else[])
theorem dartsFrom_round {E:List (Int×Int)}{e v s:Int}(h0:0<=s)(h:s<2):dartsFrom E e v s=(if tailE E (2*e+s)=v then[2*e+s] else[])++dartsFrom E e v (s+1):=by
 rcases(show s=0\/s=1 by omega) with rfl|rfl
 .simp[dartsFrom]
 simp[dartsFrom]
theorem dartsFrom_end {E:List (Int×Int)}{e v s:Int}(h:¬s<2):dartsFrom E e v s=[]:=by
 unfold dartsFrom;rw[if_neg (by omega),if_neg (by omega)];rfl
def dartsL (E:List (Int×Int))(L:List Int)(v:Int):List Int:=L.flatMap fun e=>dartsFrom E e v 0
theorem dartsL_round {E:List (Int×Int)}{L:List Int}{v i:Int}(h0:0<=i)(h:i<(L.length:Int)):dartsL E (L.drop i.toNat) v=dartsFrom E (L.getD i.toNat 0) v 0++dartsL E (L.drop (i+1).toNat) v:=by
 rw[drop_round h0 h];rfl
theorem dartsL_end {E:List (Int×Int)}{L:List Int}{v i:Int}(h:¬i<(L.length:Int)):dartsL E (L.drop i.toNat) v=[]:=by rw[drop_end h];rfl
theorem tailE_0 {E:List (Int×Int)}{e:Int}:tailE E (2*e+0)=(E.getD e.toNat (0,0)).1:=by
 unfold tailE;rw[if_pos (by omega),show(2*e+0)/2=e by omega]
theorem tailE_1 {E:List (Int×Int)}{e:Int}:tailE E (2*e+1)=(E.getD e.toNat (0,0)).2:=by
 unfold tailE;rw[if_neg (by omega),show(2*e+1)/2=e by omega]
def dartsE (n:Int)(E:List (Int×Int))(V L:List Int)(v:Int):List Int:=if partE n E V L≠0 then[] else dartsL E L v
def upto (n:Int):List Int:=(List.range n.toNat).map fun j:Nat=>(j:Int)
def wholeE (n:Int)(E:List (Int×Int)):List Int×List Int:=if rightE n E≠0 then([],[]) else(upto n,upto (E.length:Int))
def dropL (L:List Int)(x:Int):List Int:=L.filter fun y=>decide (y≠x)
def endsL (E:List (Int×Int))(L:List Int):List Int:=L.flatMap fun e=>[(E.getD e.toNat (0,0)).1,(E.getD e.toNat (0,0)).2]
abbrev sortL (l:List Int):List Int:=l.mergeSort fun x y=>decide (x<=y)
def spanE (n:Int)(E:List (Int×Int))(L:List Int):(List Int×List Int)×Int:=
 if rightE n E≠0 then(([],[]),rightE n E) else if ¬risesP L (E.length:Int) then(([],[]),4) else((Lib.compact (sortL (endsL E L)),L),0)
def touchP (E:List (Int×Int))(e v:Int):Prop:=(E.getD e.toNat (0,0)).1=v\/(E.getD e.toNat (0,0)).2=v
instance (E:List (Int×Int)) (e v:Int):Decidable (touchP E e v):=by unfold touchP;infer_instance
def touchB (E:List (Int×Int))(L:List Int)(v:Int):Bool:=decide (∃j,j<L.length/\touchP E (L.getD j 0) v)
def touchL (E:List (Int×Int))(L:List Int)(n:Int):List Int:=(upto n).filter (touchB E L)
def smallI (n:Int)(E:List (Int×Int))(V L:List Int):Int:=
 if(60<(E.length:Int)\/60<(V.length:Int))\/60<(L.length:Int)\/(60<n/\n<=1024) then 0 else 1
def andL (a b:List Int):List Int:=a.filter fun x=>decide (x∈b)
theorem rises_lt {l:List Int}{n:Int}(h:risesP l n):∀ {i j:Nat},i<j->j<l.length->l.getD i 0<l.getD j 0:=by
 intro i j hij hj
 induction j with
 |zero=>omega
 |succ j ih=>
  have h1:=(h (j+1) hj).2.2 (by omega)
  rw[show j+1-1=j by omega] at h1
  by_cases e:i=j
  .subst e;exact h1
  have:=ih (by omega) (by omega);omega
theorem bsW_spec {l:List Int}{n x:Int}(h:risesP l n):∀(f:Nat) (lo hi:Int),(hi-lo).toNat<=f->0<=lo->lo<=hi->hi<=(l.length:Int)->(∀j:Nat,(j:Int)<lo->l.getD j 0<x)->(∀j:Nat,hi<=(j:Int)->j<l.length->x<=l.getD j 0)->
  0<=bsW l x lo hi/\bsW l x lo hi<=(l.length:Int)/\(∀j:Nat,(j:Int)<bsW l x lo hi->l.getD j 0<x)/\(∀j:Nat,bsW l x lo hi<=(j:Int)->j<l.length->x<=l.getD j 0)
 |0,lo,hi,hf,h0,h1,h2,ha,hb=>by
  rw[bsW_end (by omega)]
  exact⟨h0,by omega,ha,fun j hj=>hb j (by omega)⟩
 |f+1,lo,hi,hf,h0,h1,h2,ha,hb=>by
  by_cases hlt:lo<hi
  .by_cases hx:l.getD ((lo+hi)/2).toNat 0<x
   .rw[bsW_T hlt hx]
    refine bsW_spec h f _ _ (by omega) (by omega) (by omega) h2 (fun j hj=>?_) hb
    by_cases e:j=((lo+hi)/2).toNat
    .rw[e];exact hx
    have:=rises_lt h (i:=j) (j:=((lo+hi)/2).toNat) (by omega) (by omega);omega
   rw[bsW_F hlt hx]
   refine bsW_spec h f _ _ (by omega) h0 (by omega) (by omega) ha (fun j hj hl=>?_)
   by_cases e:j=((lo+hi)/2).toNat
   .rw[e];omega
   have:=rises_lt h (i:=((lo+hi)/2).toNat) (j:=j) (by omega) hl;omega
  rw[bsW_end hlt]
  exact⟨h0,by omega,ha,fun j hj=>hb j (by omega)⟩
theorem hasB_mem {l:List Int}{n x:Int}(h:risesP l n):hasB l x=decide (x∈l):=by
 obtain⟨h0,h1,h2,h3⟩:=bsW_spec (x:=x) h l.length 0 (l.length:Int) (by omega) (by omega) (by omega) (Int.le_refl _) (fun j hj=>by omega) (fun j hj hl=>by omega)
 rw[bsI_W] at h0 h1 h2 h3
 unfold hasB
 rw[<-Bool.decide_and]
 refine decide_eq_decide.2 ⟨fun⟨a,b⟩=>mem_getD.2 ⟨_,by omega,b⟩,fun hm=>?_⟩
 obtain⟨j,hj,e⟩:=mem_getD.1 hm
 have h4:¬(j:Int)<bsI l x:=fun q=>by have:=h2 j q;omega
 have h5:=h3 (bsI l x).toNat (by omega) (by omega)
 refine⟨by omega,?_⟩
 by_cases e2:(bsI l x).toNat=j
 .rw[e2];exact e
 have:=rises_lt h (i:=(bsI l x).toNat) (j:=j) (by omega) hj;omega
def orW (a b:List Int)(i k:Int):List Int:=mergeL (a.drop i.toNat) (b.drop k.toNat) 1
end Go.Proofs.YtnfdimfepbbbpaaGreatDoor
namespace Go.Proofs.YtnfdimfepbbbpaaGreatDoor.Deep
structure Gr where
 L:List Int
 A:Int->Int
 B:Int->Int
namespace Gr
variable (G:Gr)
def inc (f x:Int):Prop:=G.A f=x\/G.B f=x
def lp (f:Int):Prop:=G.A f=G.B f
def joins (f x y:Int):Prop:=(G.A f=x/\G.B f=y)\/(G.A f=y/\G.B f=x)
def adj (x y:Int):Prop:=∃f∈G.L,G.joins f x y
inductive Rch (P:Int->Prop):Int->Int->Prop
 |refl {x}:P x->Rch P x x
 |step {x y z}:Rch P x y->G.adj y z->P z->Rch P x z
variable {G}
theorem joins.symm {f x y:Int}(h:G.joins f x y):G.joins f y x:=h.elim .inr .inl
theorem joins.left {f x y:Int}(h:G.joins f x y):G.inc f x:=h.elim (fun h=>.inl h.1) (fun h=>.inr h.2)
theorem joins.right {f x y:Int}(h:G.joins f x y):G.inc f y:=h.symm.left
theorem joins.of {f x y:Int}(h:G.joins f x y){z:Int}(hz:G.inc f z):z=x\/z=y:=by
 rcases h with⟨h1,h2⟩|⟨h1,h2⟩<;>rcases hz with e|e<;>simp_all
theorem adj.symm {x y:Int}(h:G.adj x y):G.adj y x:=let⟨f,hf,hj⟩:=h;⟨f,hf,hj.symm⟩
theorem Rch.mono {P P':Int->Prop}(hp:∀x,P x->P' x){x y:Int}(h:G.Rch P x y):G.Rch P' x y:=by
 induction h with
 |refl h=>exact .refl (hp _ h)
 |step _ ha hz ih=>exact .step ih ha (hp _ hz)
theorem Rch.first {P:Int->Prop}{x y:Int}(h:G.Rch P x y):P x:=by
 induction h with
 |refl h=>exact h
 |step _ _ _ ih=>exact ih
theorem Rch.last {P:Int->Prop}{x y:Int}(h:G.Rch P x y):P y:=by
 cases h with
 |refl h=>exact h
 |step _ _ h=>exact h
theorem Rch.trans {P:Int->Prop}{x y z:Int}(h:G.Rch P x y)(k:G.Rch P y z):G.Rch P x z:=by
 induction k with
 |refl _=>exact h
 |step _ ha hz ih=>exact .step ih ha hz
theorem Rch.one {P:Int->Prop}{x y:Int}(hx:P x)(h:G.adj x y)(hy:P y):G.Rch P x y:=.step (.refl hx) h hy
theorem Rch.symm {P:Int->Prop}{x y:Int}(h:G.Rch P x y):G.Rch P y x:=by
 induction h with
 |refl h=>exact .refl h
 |step h ha hz ih=>exact(Rch.one hz ha.symm h.last).trans ih
theorem Rch.closed {P Q:Int->Prop}(hc:∀x y,Q x->G.adj x y->P y->Q y){x y:Int}(h:G.Rch P x y)(hx:Q x):Q y:=by
 induction h with
 |refl _=>exact hx
 |step _ ha hz ih=>exact hc _ _ ih ha hz
end Gr
def Tog (G:Gr)(z f g:Int):Prop:=∃a b,G.inc f a/\a≠z/\G.inc g b/\b≠z/\G.Rch (· ≠z) a b
structure St where
 met:Int->Int
 low:Int->Int
 cnt:Int
 stk:List Int
 blk:List (List Int)
 ins:List (Int×List Int)
def upd (f:Int->Int)(x y:Int):Int->Int:=fun z=>if z=x then y else f z
theorem upd_same (f:Int->Int)(x y:Int):upd f x y x=y:=by simp[upd]
theorem upd_ne (f:Int->Int){x z:Int}(y:Int)(h:z≠x):upd f x y z=f z:=by simp[upd,h]
def enter (v:Int)(s:St):St:={s with cnt:=s.cnt+1,met:=upd s.met v (s.cnt+1),low:=upd s.low v (s.cnt+1)}
def key (b:List Int):Int×List Int:=((sortL b).headD 0,sortL b)
inductive Loop (D:Int->List Int)(T:Int->Int):Int->Int->List Int->St->St->Prop
 |nil {v via s}:Loop D T v via [] s s
 |lp {v via d ds s s'}:T d=v->Loop D T v via ds {s with ins:=s.ins++[(d/2,[d/2])]} s'->Loop D T v via (d::ds) s s'
 |via {v via d ds s s'}:T d≠v->d/2=via->Loop D T v via ds s s'->Loop D T v via (d::ds) s s'
 |keep {v via d ds s s1 s'}:T d≠v->d/2≠via->s.met (T d)=0->Loop D T (T d) (d/2) (D (T d)) (enter (T d) {s with stk:=s.stk++[d/2]}) s1->s1.low (T d)<s1.met v->
  Loop D T v via ds {s1 with low:=upd s1.low v (min (s1.low v) (s1.low (T d)))} s'->Loop D T v via (d::ds) s s'
 |take {v via d ds s s1 s' pre S}:T d≠v->d/2≠via->s.met (T d)=0->Loop D T (T d) (d/2) (D (T d)) (enter (T d) {s with stk:=s.stk++[d/2]}) s1->¬s1.low (T d)<s1.met v->s1.stk=pre++d/2::S->d/2∉pre->
  Loop D T v via ds {s1 with low:=upd s1.low v (min (s1.low v) (s1.low (T d))),stk:=pre,blk:=s1.blk++[d/2::S],ins:=s1.ins++[key (d/2::S)]} s'->Loop D T v via (d::ds) s s'
 |back {v via d ds s s'}:T d≠v->d/2≠via->s.met (T d)≠0->s.met (T d)<s.met v->Loop D T v via ds {s with stk:=s.stk++[d/2],low:=upd s.low v (min (s.low v) (s.met (T d)))} s'->Loop D T v via (d::ds) s s'
 |skip {v via d ds s s'}:T d≠v->d/2≠via->s.met (T d)≠0->¬s.met (T d)<s.met v->Loop D T v via ds s s'->Loop D T v via (d::ds) s s'
def Good (G:Gr)(earlier:List Int)(b:List Int):Prop:=∃(p:Int) (N:Int->Prop),¬N p/\(∃f∈b,G.inc f p)/\(∀f∈b,f∈G.L/\¬G.lp f/\∃x y,N x/\(N y\/y=p)/\G.joins f x y)/\
 (∀x y,N x->G.adj x y->N y\/y=p)/\(∀x,N x->∀f∈G.L,G.inc f x->G.lp f\/f∈b\/f∈earlier)/\(∀f∈b,∀g∈b,∀z,Tog G z f g)
def AllGood (G:Gr):List Int->List (List Int)->Prop
 |_,[]=>True
 |earlier,b::bs=>Good G earlier b/\AllGood G (earlier++b) bs
theorem AllGood.snoc {G:Gr}{b:List Int}:∀ {earlier:List Int} {bs:List (List Int)},AllGood G earlier bs->Good G (earlier++bs.flatten) b->AllGood G earlier (bs++[b])
 |e,[],_,h=>⟨by simpa using h,tv⟩
 |e,c::bs,h,hb=>⟨h.1,AllGood.snoc h.2 (by simpa[List.append_assoc] using hb)⟩
structure Darts (G:Gr)(D:Int->List Int)(T:Int->Int):Prop where
 mem:∀v d,d∈D v->d/2∈G.L/\G.joins (d/2) v (T d)
 all:∀f x,f∈G.L->G.inc f x->∃d∈D x,d/2=f
 one:∀v d d',d∈D v->d'∈D v->d/2=d'/2->T d≠v->d=d'
 nodup:∀v,(D v).Nodup
structure Glob (G:Gr)(s:St):Prop where
 bnd:∀x,0<=s.met x/\s.met x<=s.cnt
 inj:∀x y,s.met x≠0->s.met x=s.met y->x=y
 bv:∀f∈s.blk.flatten,∀x,G.inc f x->s.met x≠0
 nd:(s.blk.flatten++s.stk).Nodup
 good:AllGood G [] s.blk
 ins1:∀q∈s.ins,(q.2=[q.1]/\q.1∈G.L/\G.lp q.1)\/∃b∈s.blk,q=key b
 ins2:∀b∈s.blk,key b∈s.ins
 ne:∀b∈s.blk,b≠[]
structure Ctx (G:Gr)(Y:Int->Prop)(o:St)(v via:Int):Prop where
 glob:Glob G o
 new:o.met v=0
 gray:∀x,Y x->o.met x≠0
 black:∀x y,o.met x≠0->¬Y x->G.adj x y->o.met y≠0
 up:(via∉G.L/\(∀x,¬Y x)/\o.stk=[])\/(via∈G.L/\∃p,Y p/\G.joins via p v/\∀x,Y x->o.met x<=o.met p)
 sv:∀f∈o.stk,f=via\/∀x,G.inc f x->o.met x≠0
abbrev New (o s:St)(x:Int):Prop:=o.met x=0/\s.met x≠0
structure Run (G:Gr)(T:Int->Int)(Y:Int->Prop)(o:St)(v via:Int)(dn:List Int)(s:St)(S:List Int)(Bs:List (List Int)):Prop where
 glob:Glob G s
 old:∀x,o.met x≠0->s.met x=o.met x
 olow:∀x,o.met x≠0->s.low x=o.low x
 new:∀x,New o s x->o.cnt<s.met x
 vmet:s.met v=o.cnt+1
 stk:s.stk=o.stk++S
 blk:s.blk=o.blk++Bs
 seen:∀x y,New o s x->x≠v->G.adj x y->s.met y≠0
 vseen:∀d∈dn,s.met (T d)≠0
 sE:∀f∈S,f∈G.L/\¬G.lp f/\f≠via/\∃x y,New o s x/\(New o s y\/Y y)/\G.joins f x y
 bE:∀f∈Bs.flatten,∀x,G.inc f x->New o s x
 cov:∀x,New o s x->x≠v->∀f∈G.L,G.inc f x->(G.lp f/\(f,[f])∈s.ins)\/f∈S\/f∈Bs.flatten
 vcov:∀d∈dn,(G.lp (d/2)/\(d/2,[d/2])∈s.ins)\/d/2=via\/d/2∈S\/d/2∈Bs.flatten
 src:∀f∈S,G.inc f v->∀y,G.inc f y->Y y->∃d∈dn,d/2=f
 lowv:s.low v<=s.met v
 lowA:∀f∈S,∀y,Y y->G.inc f y->s.low v<=s.met y
 lowB:s.low v<s.met v->∃f∈S,∃x y,New o s x/\Y y/\G.joins f x y/\s.met y<=s.low v
 out:∀f∈S,∀z,New o s z->∃a y,G.inc f a/\a≠z/\Y y/\G.Rch (fun x=>(New o s x\/Y x)/\x≠z) a y
 conn:∀x,New o s x->G.Rch (New o s) v x
 insO:∀q∈o.ins,q∈s.ins
section
variable {G:Gr}{D:Int->List Int}{T:Int->Int}{Y:Int->Prop}{o s:St}{v via:Int}{dn S:List Int}{Bs:List (List Int)}
theorem Run.newv (C:Ctx G Y o v via)(R:Run G T Y o v via dn s S Bs):New o s v:=⟨C.new,by rw[R.vmet];have:=(C.glob.bnd v).1;have:=(C.glob.bnd v).2;omega⟩
theorem enter_run (C:Ctx G Y o v via):Run G T Y o v via [] (enter v o) [] []:=by
 have hc:0<=o.cnt:=by have:=C.glob.bnd v;omega
 have hN:∀x,New o (enter v o) x↔x=v:=by
  intro x
  constructor
  .rintro⟨h1,h2⟩
   by_cases e:x=v
   .exact e
   exact absurd h1 (by rw[show(enter v o).met x=o.met x from upd_ne _ _ e] at h2;exact h2)
  rintro rfl
  refine⟨C.new,?_⟩
  rw[show(enter x o).met x=o.cnt+1 from upd_same _ _ _];omega
 have hm:∀x,o.met x≠0->(enter v o).met x=o.met x:=fun x hx=>upd_ne _ _ (fun e=>hx (by rw[e];exact C.new))
 have hv:(enter v o).met v=o.cnt+1:=upd_same _ _ _
 have hlv:(enter v o).low v=o.cnt+1:=upd_same _ _ _
 refine⟨⟨fun x=>?_,fun x y hx he=>?_,fun f hf x hx=>?_,C.glob.nd,C.glob.good,C.glob.ins1,C.glob.ins2,C.glob.ne⟩,hm,fun x hx=>upd_ne _ _ (fun e=>hx (by rw[e];exact C.new)),fun x hx=>?_,hv,by simp[enter],by simp[enter],fun x y hx hne=>absurd ((hN x).1 hx) hne,
  fun _ h=>by simp at h,fun _ h=>by simp at h,fun _ h=>by simp at h,fun x hx hne=>absurd ((hN x).1 hx) hne,fun _ h=>by simp at h,fun _ h=>by simp at h,by rw[hv,hlv];exact Int.le_refl _,fun _ h=>by simp at h,fun h=>by rw[hv,hlv] at h;omega,fun _ h=>by simp at h,fun x hx=>?_,fun q h=>h⟩
 .by_cases e:x=v
  .subst e;rw[hv];show _/\_<=o.cnt+1;omega
  rw[show(enter v o).met x=o.met x from upd_ne _ _ e];have:=C.glob.bnd x;show _/\_<=o.cnt+1;omega
 .by_cases e:x=v
  .by_cases e':y=v
   .rw[e,e']
   rw[e,hv,show(enter v o).met y=o.met y from upd_ne _ _ e'] at he
   have:=C.glob.bnd y;omega
  rw[show(enter v o).met x=o.met x from upd_ne _ _ e] at hx he
  by_cases e':y=v
  .rw[e',hv] at he
   have:=C.glob.bnd x;omega
  rw[show(enter v o).met y=o.met y from upd_ne _ _ e'] at he
  exact C.glob.inj x y hx he
 .rw[hm x (C.glob.bv f hf x hx)];exact C.glob.bv f hf x hx
 .rw[(hN x).1 hx,hv];omega
 rw[(hN x).1 hx];exact .refl ((hN v).2 rfl)
theorem Run.more (R:Run G T Y o v via dn s S Bs){d:Int}(h1:s.met (T d)≠0)(h2:(G.lp (d/2)/\(d/2,[d/2])∈s.ins)\/d/2=via\/d/2∈S\/d/2∈Bs.flatten):Run G T Y o v via (dn++[d]) s S Bs:=
 {R with
  vseen:=fun d' hd'=>by
   rcases List.mem_append.1 hd' with h|h
   .exact R.vseen d' h
   rw[List.mem_singleton.1 h];exact h1
  vcov:=fun d' hd'=>by
   rcases List.mem_append.1 hd' with h|h
   .exact R.vcov d' h
   rw[List.mem_singleton.1 h];exact h2
  src:=fun f hf hv y hy hY=>by
   obtain⟨d',hd',e⟩:=R.src f hf hv y hy hY
   exact⟨d',List.mem_append_left _ hd',e⟩}
theorem Run.lp (R:Run G T Y o v via dn s S Bs){e:Int}(hL:e∈G.L)(hl:G.lp e):Run G T Y o v via dn {s with ins:=s.ins++[(e,[e])]} S Bs:=
 {R with
  glob:={R.glob with
   ins1:=fun q hq=>by
    rcases List.mem_append.1 hq with h|h
    .exact R.glob.ins1 q h
    rw[List.mem_singleton.1 h];exact .inl ⟨rfl,hL,hl⟩
   ins2:=fun b hb=>List.mem_append_left _ (R.glob.ins2 b hb)}
  cov:=fun x hx hne f hf hi=>(R.cov x hx hne f hf hi).imp_left fun h=>⟨h.1,List.mem_append_left _ h.2⟩
  vcov:=fun d hd=>(R.vcov d hd).imp_left fun h=>⟨h.1,List.mem_append_left _ h.2⟩
  insO:=fun q hq=>List.mem_append_left _ (R.insO q hq)}
theorem Run.gray_of (C:Ctx G Y o v via)(R:Run G T Y o v via dn s S Bs){w:Int}(hw:s.met w≠0)(hlt:s.met w<s.met v)(hadj:G.adj w v):Y w:=by
 have ho:o.met w≠0:=fun h0=>by
  have:=R.new w ⟨h0,hw⟩
  rw[R.vmet] at hlt;omega
 exact Classical.byContradiction fun hn=>C.black w v ho hn hadj C.new
theorem Run.back (HD:Darts G D T)(C:Ctx G Y o v via)(R:Run G T Y o v via dn s S Bs){d:Int}(hd:d∈D v)(hdn:∀x∈dn,x∈D v)(hnd:d∉dn)(h1:T d≠v)(h2:d/2≠via)(h3:s.met (T d)≠0)(h4:s.met (T d)<s.met v):
  Run G T Y o v via (dn++[d]) {s with stk:=s.stk++[d/2],low:=upd s.low v (min (s.low v) (s.met (T d)))} (S++[d/2]) Bs:=by
 obtain⟨hL,hj⟩:=HD.mem v d hd
 have hadj:G.adj v (T d):=⟨_,hL,hj⟩
 have hY:Y (T d):=R.gray_of C h3 h4 hadj.symm
 have hNv:=R.newv C
 have hnl:¬G.lp (d/2):=fun h=>by
  rcases hj with⟨a,b⟩|⟨a,b⟩
  .exact h1 (by rw[<-a,<-b];exact h.symm)
  exact h1 (by rw[<-a,<-b];exact h)
 have hnb:d/2∉s.blk.flatten:=fun h=>by
  rw[R.blk,List.flatten_append,List.mem_append] at h
  rcases h with h|h
  .exact C.glob.bv _ h v hj.left C.new
  exact C.gray _ hY (R.bE _ h (T d) hj.right).1
 have hns:d/2∉s.stk:=fun h=>by
  rw[R.stk,List.mem_append] at h
  rcases h with h|h
  .rcases C.sv _ h with e|e
   .exact h2 e
   exact e v hj.left C.new
  obtain⟨d',hd',e⟩:=R.src _ h hj.left _ hj.right hY
  exact hnd (HD.one v d d' hd (hdn d' hd') e.symm h1▸hd')
 have hlow:∀x,o.met x≠0->upd s.low v (min (s.low v) (s.met (T d))) x=s.low x:=fun x hx=>upd_ne _ _ (fun e=>hx (by rw[e];exact C.new))
 have hlv:upd s.low v (min (s.low v) (s.met (T d))) v=min (s.low v) (s.met (T d)):=upd_same _ _ _
 refine⟨⟨R.glob.bnd,R.glob.inj,R.glob.bv,?_,R.glob.good,R.glob.ins1,R.glob.ins2,R.glob.ne⟩,R.old,fun x hx=>(hlow x hx).trans (R.olow x hx),R.new,R.vmet,by simp only[R.stk,List.append_assoc],R.blk,R.seen,fun d' hd'=>?_,fun f hf=>?_,R.bE,fun x hx hne f hf hi=>?_,fun d' hd'=>?_,fun f hf hv y hy hYy=>?_,?_,fun f hf y hYy hi=>?_,fun h=>?_,fun f hf z hz=>?_,R.conn,R.insO⟩
 .show(s.blk.flatten++(s.stk++[d/2])).Nodup
  rw[<-List.append_assoc,List.nodup_append]
  refine⟨R.glob.nd,by simp,fun a ha b hb=>?_⟩
  rw[List.mem_singleton.1 hb]
  rintro rfl
  exact(List.mem_append.1 ha).elim hnb hns
 .rcases List.mem_append.1 hd' with h|h
  .exact R.vseen d' h
  rw[List.mem_singleton.1 h];exact h3
 .rcases List.mem_append.1 hf with h|h
  .exact R.sE f h
  rw[List.mem_singleton.1 h];exact⟨hL,hnl,h2,v,T d,hNv,.inr hY,hj⟩
 .rcases R.cov x hx hne f hf hi with h|h|h
  .exact .inl h
  .exact .inr (.inl (List.mem_append_left _ h))
  exact .inr (.inr h)
 .rcases List.mem_append.1 hd' with h|h
  .rcases R.vcov d' h with h|h|h|h
   .exact .inl h
   .exact .inr (.inl h)
   .exact .inr (.inr (.inl (List.mem_append_left _ h)))
   exact .inr (.inr (.inr h))
  exact .inr (.inr (.inl (List.mem_append_right _ (by rw[List.mem_singleton.1 h];simp))))
 .rcases List.mem_append.1 hf with h|h
  .obtain⟨d',hd',e⟩:=R.src f h hv y hy hYy
   exact⟨d',List.mem_append_left _ hd',e⟩
  exact⟨d,by simp,(List.mem_singleton.1 h).symm⟩
 .show upd s.low v _ v<=s.met v
  rw[hlv];have:=R.lowv;omega
 .show upd s.low v _ v<=s.met y
  rw[hlv]
  rcases List.mem_append.1 hf with h|h
  .have:=R.lowA f h y hYy hi;omega
  rw[List.mem_singleton.1 h] at hi
  rcases hj.of hi with rfl|rfl
  .exact absurd C.new (C.gray _ hYy)
  omega
 .have h:upd s.low v (min (s.low v) (s.met (T d))) v<s.met v:=h
  show ∃f∈_,∃x y,_/\_/\_/\s.met y<=upd s.low v _ v
  rw[hlv] at h ⊢
  by_cases hm:s.low v<s.met (T d)
  .obtain⟨f,hf,x,y,a,b,c,e⟩:=R.lowB (by omega)
   exact⟨f,List.mem_append_left _ hf,x,y,a,b,c,by omega⟩
  exact⟨d/2,by simp,v,T d,hNv,hY,hj,by omega⟩
 rcases List.mem_append.1 hf with h|h
 .exact R.out f h z hz
 rw[List.mem_singleton.1 h]
 have hne:T d≠z:=fun e=>C.gray _ hY (by rw[e];exact hz.1)
 exact⟨T d,T d,hj.right,hne,hY,.refl ⟨.inr hY,hne⟩⟩
end
end Go.Proofs.YtnfdimfepbbbpaaGreatDoor.Deep
namespace Go.Proofs.YtnfdimfepbbbpaaGreatDoor.Deep
section
variable {G:Gr}{D:Int->List Int}{T:Int->Int}{Y:Int->Prop}{o s s1:St}{v via:Int}{dn S S1:List Int}{Bs B1:List (List Int)}
abbrev And1 (Y:Int->Prop)(v x:Int):Prop:=Y x\/x=v
abbrev pushed (s:St)(e:Int):St:={s with stk:=s.stk++[e]}
theorem Run.notStk (C:Ctx G Y o v via)(R:Run G T Y o v via dn s S Bs){e w:Int}(hi:G.inc e w)(hw:s.met w=0)(hne:e≠via):e∉s.stk:=by
 intro h
 rw[R.stk,List.mem_append] at h
 rcases h with h|h
 .rcases C.sv _ h with q|q
  .exact hne q
  exact q w hi (by
   have:=R.old w
   exact Classical.byContradiction fun hh=>hh (by have:=this hh;omega))
 obtain⟨_,_,_,x,y,hx,hy,hj⟩:=R.sE e h
 rcases hj.of hi with rfl|rfl
 .exact hx.2 hw
 rcases hy with hy|hy
 .exact hy.2 hw
 have h1:=C.gray _ hy
 have:=R.old _ h1
 omega
theorem Run.child (HD:Darts G D T)(C:Ctx G Y o v via)(R:Run G T Y o v via dn s S Bs){d:Int}(hd:d∈D v)(h1:T d≠v)(h2:d/2≠via)(h3:s.met (T d)=0):
  Ctx G (And1 Y v) (pushed s (d/2)) (T d) (d/2):=by
 obtain⟨hL,hj⟩:=HD.mem v d hd
 have hNv:=R.newv C
 have hns:d/2∉s.stk:=R.notStk C hj.right h3 h2
 have hnb:d/2∉s.blk.flatten:=fun h=>R.glob.bv _ h _ hj.right h3
 refine⟨⟨R.glob.bnd,R.glob.inj,R.glob.bv,?_,R.glob.good,R.glob.ins1,R.glob.ins2,R.glob.ne⟩,h3,fun x hx=>?_,fun x y hx hn ha=>?_,.inr ⟨hL,v,.inr rfl,hj,fun x hx=>?_⟩,fun f hf=>?_⟩
 .show(s.blk.flatten++(s.stk++[d/2])).Nodup
  rw[<-List.append_assoc,List.nodup_append]
  refine⟨R.glob.nd,by simp,fun a ha b hb=>?_⟩
  rw[List.mem_singleton.1 hb]
  rintro rfl
  exact(List.mem_append.1 ha).elim hnb hns
 .rcases hx with hx|rfl
  .have:=C.gray x hx
   show s.met x≠0
   rw[R.old x this];exact this
  exact hNv.2
 .show s.met y≠0
  have hx:s.met x≠0:=hx
  by_cases ho:o.met x=0
  .exact R.seen x y ⟨ho,hx⟩ (fun e=>hn (.inr e)) ha
  have hy:=C.black x y ho (fun e=>hn (.inl e)) ha
  rw[R.old y hy];exact hy
 .rcases hx with hx|rfl
  .have h:=C.gray x hx
   show s.met x<=s.met v
   rw[R.old x h,R.vmet]
   have:=(C.glob.bnd x).2;omega
  exact Int.le_refl _
 rcases List.mem_append.1 hf with h|h
 .refine .inr fun x hi=>?_
  show s.met x≠0
  intro h0
  by_cases e:f=via
  .rcases C.up with⟨_,_,hs⟩|⟨_,p,hp,hjp,_⟩
   .rw[R.stk,hs,List.nil_append] at h
    exact(R.sE f h).2.2.1 e
   rw[e] at hi
   rcases hjp.of hi with rfl|rfl
   .have h1:=C.gray _ hp
    have:=R.old _ h1
    omega
   exact hNv.2 h0
  exact R.notStk C hi h0 e h
 exact .inl (List.mem_singleton.1 h)
structure Back (G:Gr)(Y:Int->Prop)(o s s1:St)(v e w:Int)(S1:List Int)(B1:List (List Int)):Prop where
 nw:∀x,New o s1 x↔New o s x\/New s s1 x
 met:∀x,s.met x≠0->s1.met x=s.met x
 old:∀x,o.met x≠0->s1.met x=o.met x
 vs:s1.met v=s.met v
 lv:s1.low v=s.low v
 wnew:New s s1 w
 lt:s1.met v<s1.met w
theorem Run.behind (HD:Darts G D T)(C:Ctx G Y o v via)(R:Run G T Y o v via dn s S Bs){d:Int}(hd:d∈D v)(h1:T d≠v)(h2:d/2≠via)(h3:s.met (T d)=0)
  (R1:Run G T (And1 Y v) (pushed s (d/2)) (T d) (d/2) (D (T d)) s1 S1 B1):Back G Y o s s1 v (d/2) (T d) S1 B1:=by
 have C1:=R.child HD C hd h1 h2 h3
 have hNv:=R.newv C
 have hm:∀x,s.met x≠0->s1.met x=s.met x:=R1.old
 have hw:=R1.newv C1
 refine⟨fun x=>⟨fun⟨a,b⟩=>?_,fun h=>?_⟩,hm,fun x hx=>?_,hm v hNv.2,R1.olow v hNv.2,hw,?_⟩
 .by_cases q:s.met x=0
  .exact .inr ⟨q,b⟩
  exact .inl ⟨a,q⟩
 .rcases h with⟨a,b⟩|⟨a,b⟩
  .exact⟨a,by rw[hm x b];exact b⟩
  refine⟨Classical.byContradiction fun q=>?_,b⟩
  have:=R.old x q
  omega
 .have:=R.old x hx
  rw[hm x (by omega)];exact this
 rw[hm v hNv.2]
 have:=R1.new _ hw
 have h4:(pushed s (d/2)).cnt=s.cnt:=rfl
 have:=(R.glob.bnd v).2
 omega
theorem Run.covL (HD:Darts G D T)(R:Run G T Y o v via (D v) s S Bs)(x:Int)(hx:New o s x)(f:Int)(hf:f∈G.L)(hi:G.inc f x):(G.lp f/\(f,[f])∈s.ins)\/f=via\/f∈S\/f∈Bs.flatten:=by
 by_cases e:x=v
 .subst e
  obtain⟨d,hd,rfl⟩:=HD.all f x hf hi
  exact R.vcov d hd
 rcases R.cov x hx e f hf hi with h|h
 .exact .inl h
 exact .inr (.inr h)
theorem Run.seenL (HD:Darts G D T)(R:Run G T Y o v via (D v) s S Bs)(x y:Int)(hx:New o s x)(ha:G.adj x y):s.met y≠0:=by
 by_cases e:x=v
 .subst e
  obtain⟨f,hf,hj⟩:=ha
  obtain⟨d,hd,rfl⟩:=HD.all f x hf hj.left
  obtain⟨_,hj'⟩:=HD.mem x d hd
  have:=R.vseen d hd
  rcases hj'.of hj.right with rfl|rfl
  .exact hx.2
  exact this
 exact R.seen x y hx e ha
theorem Run.nbr (HD:Darts G D T)(C:Ctx G Y o v via)(R:Run G T Y o v via (D v) s S Bs){x y:Int}(hx:New o s x)(ha:G.adj x y):New o s y\/Y y:=by
 have hy:=R.seenL HD x y hx ha
 by_cases ho:o.met y=0
 .exact .inl ⟨ho,hy⟩
 exact .inr (Classical.byContradiction fun hn=>C.black y x ho hn ha.symm hx.1)
theorem Run.onlyv (HD:Darts G D T)(C:Ctx G Y o v via)(R:Run G T Y o v via dn s S Bs){d:Int}(hd:d∈D v)(h1:T d≠v)(h2:d/2≠via)(h3:s.met (T d)=0)
  (R1:Run G T (And1 Y v) (pushed s (d/2)) (T d) (d/2) (D (T d)) s1 S1 B1) (hge:¬s1.low (T d)<s1.met v) {f y:Int} (hf:f∈S1) (hy:And1 Y v y) (hi:G.inc f y):y=v:=by
 have B:=R.behind HD C hd h1 h2 h3 R1
 rcases hy with hy|hy
 .have h4:=R1.lowA f hf y (.inl hy) hi
  have h5:=C.gray y hy
  rw[B.old y h5] at h4
  rw[B.vs,R.vmet] at hge
  have:=(C.glob.bnd y).2
  omega
 exact hy
theorem Run.stays (HD:Darts G D T)(C:Ctx G Y o v via)(R:Run G T Y o v via dn s S Bs){d:Int}(hd:d∈D v)(h1:T d≠v)(h2:d/2≠via)(h3:s.met (T d)=0)
  (R1:Run G T (And1 Y v) (pushed s (d/2)) (T d) (d/2) (D (T d)) s1 S1 B1) (hge:¬s1.low (T d)<s1.met v) {x y:Int} (hx:New s s1 x) (ha:G.adj x y):New s s1 y\/y=v:=by
 have C1:=R.child HD C hd h1 h2 h3
 rcases R1.nbr HD C1 hx ha with h|h
 .exact .inl h
 refine .inr ?_
 obtain⟨f,hf,hj⟩:=ha
 have hyx:y≠x:=fun e=>by
  have:=C1.gray y h
  rw[e] at this
  exact this hx.1
 rcases R1.covL HD x hx f hf hj.left with q|q|q|q
 .exfalso
  have:G.A f=G.B f:=q.1
  rcases hj with⟨a,b⟩|⟨a,b⟩
  .exact hyx (by rw[<-a,<-b,this])
  exact hyx (by rw[<-a,<-b,this])
 .obtain⟨_,hjd⟩:=HD.mem v d hd
  rw[q] at hj
  rcases hjd.of hj.right with e|e
  .exact e
  exfalso
  have:=C1.gray y h
  rw[e] at this
  exact this h3
 .exact R.onlyv HD C hd h1 h2 h3 R1 hge q h hj.right
 exfalso
 exact C1.gray y h (R1.bE f q y hj.right).1
theorem Run.block (HD:Darts G D T)(C:Ctx G Y o v via)(R:Run G T Y o v via dn s S Bs){d:Int}(hd:d∈D v)(h1:T d≠v)(h2:d/2≠via)(h3:s.met (T d)=0)
  (R1:Run G T (And1 Y v) (pushed s (d/2)) (T d) (d/2) (D (T d)) s1 S1 B1) (hge:¬s1.low (T d)<s1.met v):Good G ([]++s1.blk.flatten) (d/2::S1):=by
 obtain⟨hL,hj⟩:=HD.mem v d hd
 have C1:=R.child HD C hd h1 h2 h3
 have hw:=R1.newv C1
 have hnv:¬New s s1 v:=fun h=>(R.newv C).2 h.1
 have hnl:¬G.lp (d/2):=fun h=>by
  rcases hj with⟨a,b⟩|⟨a,b⟩
  .exact h1 (by rw[<-a,<-b];exact h.symm)
  exact h1 (by rw[<-a,<-b];exact h)
 have hends:∀f∈d/2::S1,f∈G.L/\¬G.lp f/\∃x y,New s s1 x/\(New s s1 y\/y=v)/\G.joins f x y:=by
  intro f hf
  rcases List.mem_cons.1 hf with rfl|hf
  .exact⟨hL,hnl,T d,v,hw,.inr rfl,hj.symm⟩
  obtain⟨a,b,_,x,y,hx,hy,hjj⟩:=R1.sE f hf
  refine⟨a,b,x,y,hx,?_,hjj⟩
  rcases hy with hy|hy
  .exact .inl hy
  exact .inr (R.onlyv HD C hd h1 h2 h3 R1 hge hf hy hjj.right)
 have hstay:∀x y,New s s1 x->G.adj x y->New s s1 y\/y=v:=fun x y hx ha=>R.stays HD C hd h1 h2 h3 R1 hge hx ha
 have hkey:∀f∈d/2::S1,∀z,∃a,G.inc f a/\a≠z/\G.Rch (· ≠z) a (if New s s1 z then v else T d):=by
  intro f hf z
  by_cases hz:New s s1 z
  .rw[if_pos hz]
   have hvz:v≠z:=fun e=>hnv (e▸hz)
   rcases List.mem_cons.1 hf with rfl|hf'
   .exact⟨v,hj.left,hvz,.refl hvz⟩
   obtain⟨a,y,hia,haz,hy,hr⟩:=R1.out f hf' z hz
   refine⟨a,hia,haz,?_⟩
   have hr':G.Rch (· ≠z) a y:=hr.mono fun x hx=>hx.2
   have hQ:(New s s1 a\/G.Rch (· ≠z) a v):=by
    obtain⟨_,_,x,y',hx,hy',hjj⟩:=hends f hf
    rcases hjj.of hia with e|e
    .rw[e];exact .inl hx
    rcases hy' with hy'|hy'
    .rw[e];exact .inl hy'
    rw[e,hy'];exact .inr (.refl hvz)
   have hend:=Gr.Rch.closed (P:=(· ≠z)) (Q:=fun x=>G.Rch (· ≠z) a x/\(New s s1 x\/G.Rch (· ≠z) a v)) (fun x y ⟨hx,hx'⟩ ha hp=>by
    refine⟨.step hx ha hp,?_⟩
    rcases hx' with hx'|hx'
    .rcases hstay x y hx' ha with h|h
     .exact .inl h
     exact .inr (h▸.step hx ha hp)
    exact .inr hx') hr' ⟨.refl haz,hQ⟩
   rcases hend.2 with h|h
   .exact absurd h.1 (C1.gray y hy)
   exact h
  rw[if_neg hz]
  obtain⟨_,_,x,y,hx,hy,hjj⟩:=hends f hf
  refine⟨x,hjj.left,fun e=>hz (e▸hx),(Gr.Rch.mono (P:=New s s1) (P':=(· ≠z)) (fun u hu=>fun e:u=z=>hz (e▸hu)) (R1.conn x hx)).symm⟩
 refine⟨v,New s s1,hnv,⟨d/2,by simp,hj.left⟩,hends,hstay,fun x hx f hf hi=>?_,fun f hf g hg z=>?_⟩
 .rcases R1.covL HD x hx f hf hi with q|q|q|q
  .exact .inl q.1
  .exact .inr (.inl (by rw[q];simp))
  .exact .inr (.inl (List.mem_cons_of_mem _ q))
  refine .inr (.inr ?_)
  rw[List.nil_append,R1.blk,List.flatten_append]
  exact List.mem_append_right _ q
 obtain⟨a,ha,haz,hra⟩:=hkey f hf z
 obtain⟨b,hb,hbz,hrb⟩:=hkey g hg z
 exact⟨a,b,ha,haz,hb,hbz,hra.trans hrb.symm⟩
end
end Go.Proofs.YtnfdimfepbbbpaaGreatDoor.Deep
namespace Go.Proofs.YtnfdimfepbbbpaaGreatDoor.Deep
section
variable {G:Gr}{D:Int->List Int}{T:Int->Int}{Y:Int->Prop}{o s s1:St}{v via:Int}{dn S S1:List Int}{Bs B1:List (List Int)}
theorem Run.keep (HD:Darts G D T)(C:Ctx G Y o v via)(R:Run G T Y o v via dn s S Bs){d:Int}(hd:d∈D v)(h1:T d≠v)(h2:d/2≠via)(h3:s.met (T d)=0)
  (R1:Run G T (And1 Y v) (pushed s (d/2)) (T d) (d/2) (D (T d)) s1 S1 B1) (hlt:s1.low (T d)<s1.met v):
  Run G T Y o v via (dn++[d]) {s1 with low:=upd s1.low v (min (s1.low v) (s1.low (T d)))} (S++d/2::S1) (Bs++B1):=by
 obtain⟨hL,hj⟩:=HD.mem v d hd
 have C1:=R.child HD C hd h1 h2 h3
 have B:=R.behind HD C hd h1 h2 h3 R1
 have hNv:=R.newv C
 have hv1:New o s1 v:=(B.nw v).2 (.inl hNv)
 have hw1:New o s1 (T d):=(B.nw _).2 (.inr B.wnew)
 have hYm:∀y,Y y->s1.met y=s.met y:=fun y hy=>B.met y (C1.gray y (.inl hy))
 have hnl:¬G.lp (d/2):=fun h=>by
  rcases hj with⟨a,b⟩|⟨a,b⟩
  .exact h1 (by rw[<-a,<-b];exact h.symm)
  exact h1 (by rw[<-a,<-b];exact h)
 have hlv:upd s1.low v (min (s1.low v) (s1.low (T d))) v=min (s1.low v) (s1.low (T d)):=upd_same _ _ _
 have hold:∀x,o.met x≠0->upd s1.low v (min (s1.low v) (s1.low (T d))) x=o.low x:=fun x hx=>by
  rw[upd_ne _ _ (fun e=>hx (by rw[e];exact C.new))]
  exact(R1.olow x (by have:=R.old x hx;show s.met x≠0;omega)).trans (R.olow x hx)
 have hnew:∀x,New o s1 x->o.cnt<s1.met x:=fun x hx=>by
  rcases(B.nw x).1 hx with h|h
  .rw[B.met x h.2];exact R.new x h
  have h4:=R1.new x h
  have h5:(pushed s (d/2)).cnt=s.cnt:=rfl
  have:=(R.glob.bnd v).2
  have:=R.vmet
  omega
 have hseen:∀x y,New o s1 x->x≠v->G.adj x y->s1.met y≠0:=fun x y hx hne ha=>by
  rcases(B.nw x).1 hx with h|h
  .have:=R.seen x y h hne ha
   rw[B.met y this];exact this
  exact R1.seenL HD x y h ha
 have hvseen:∀d'∈dn++[d],s1.met (T d')≠0:=fun d' hd'=>by
  rcases List.mem_append.1 hd' with h|h
  .have:=R.vseen d' h
   rw[B.met _ this];exact this
  rw[List.mem_singleton.1 h];exact B.wnew.2
 have hbE:∀f∈(Bs++B1).flatten,∀x,G.inc f x->New o s1 x:=fun f hf x hi=>by
  rw[List.flatten_append,List.mem_append] at hf
  rcases hf with h|h
  .exact(B.nw x).2 (.inl (R.bE f h x hi))
  exact(B.nw x).2 (.inr (R1.bE f h x hi))
 have hsrcS:∀f∈S,G.inc f v->∀y,G.inc f y->Y y->∃d'∈dn++[d],d'/2=f:=fun f hf hv y hy hYy=>by
  obtain⟨d',hd',e⟩:=R.src f hf hv y hy hYy
  exact⟨d',List.mem_append_left _ hd',e⟩
 have hlowv:min (s1.low v) (s1.low (T d))<=s1.met v:=by
  have:=R.lowv
  rw[B.vs,B.lv];omega
 have houtS:∀f∈S,∀z,New o s1 z->∃a y,G.inc f a/\a≠z/\Y y/\G.Rch (fun x=>(New o s1 x\/Y x)/\x≠z) a y:=fun f hf z hz=>by
  rcases(B.nw z).1 hz with h|h
  .obtain⟨a,y,k1,k2,k3,k4⟩:=R.out f hf z h
   exact⟨a,y,k1,k2,k3,k4.mono fun x hx=>⟨hx.1.imp_left fun q=>(B.nw x).2 (.inl q),hx.2⟩⟩
  obtain⟨a,y,k1,k2,k3,k4⟩:=R.out f hf v hNv
  have hz':∀x,New o s x\/Y x->x≠z:=fun x hx e=>by
   have h0:s.met z=0:=h.1
   rw[<-e] at h0
   rcases hx with hx|hx
   .exact hx.2 h0
   exact C1.gray x (.inl hx) h0
  exact⟨a,y,k1,hz' a k4.first.1,k3,k4.mono fun x hx=>⟨hx.1.imp_left fun q=>(B.nw x).2 (.inl q),hz' x hx.1⟩⟩
 have hvw:G.adj v (T d):=⟨_,hL,hj⟩
 have hconn:∀x,New o s1 x->G.Rch (New o s1) v x:=fun x hx=>by
  rcases(B.nw x).1 hx with h|h
  .exact(R.conn x h).mono fun y hy=>(B.nw y).2 (.inl hy)
  exact(Gr.Rch.one hv1 hvw hw1).trans (Gr.Rch.mono (P:=New s s1) (fun y hy=>(B.nw y).2 (.inr hy)) (R1.conn x h))
 have hins:∀q∈o.ins,q∈s1.ins:=fun q hq=>R1.insO q (R.insO q hq)
 have hsES:∀f∈S,f∈G.L/\¬G.lp f/\f≠via/\∃x y,New o s1 x/\(New o s1 y\/Y y)/\G.joins f x y:=fun f hf=>by
  obtain⟨k1,k2,k3,x,y,hx,hy,hjj⟩:=R.sE f hf
  exact⟨k1,k2,k3,x,y,(B.nw x).2 (.inl hx),hy.imp_left fun q=>(B.nw y).2 (.inl q),hjj⟩
 obtain⟨f0,hf0,x0,y0,hx0,hy0,hj0,hle0⟩:=R1.lowB (by have:=B.lt;omega)
 have hx0:New s s1 x0:=hx0
 have hY0:Y y0:=by
  rcases hy0 with h|h
  .exact h
  rw[h] at hle0;omega
 have hp:∃p,Y p/\G.adj v p:=by
  rcases C.up with⟨_,h,_⟩|⟨hvL,p,hp,hjp,_⟩
  .exact absurd hY0 (h _)
  exact⟨p,hp,via,hvL,hjp.symm⟩
 obtain⟨p,hYp,hvp⟩:=hp
 have hL1:∀f∈S1,f∈G.L:=fun f hf=>(R1.sE f hf).1
 have hnv1:¬New s s1 v:=fun h=>hNv.2 h.1
 have hYn:∀y,Y y->¬New o s1 y:=fun y hy h=>C.gray y hy h.1
 have hYn1:∀y,Y y->¬New s s1 y:=fun y hy h=>C1.gray y (.inl hy) h.1
 refine⟨⟨R1.glob.bnd,R1.glob.inj,R1.glob.bv,R1.glob.nd,R1.glob.good,R1.glob.ins1,R1.glob.ins2,R1.glob.ne⟩,B.old,hold,hnew,B.vs.trans R.vmet,?_,?_,hseen,hvseen,fun f hf=>?_,hbE,fun x hx hne f hf hi=>?_,fun d' hd'=>?_,fun f hf hv y hy hYy=>?_,?_,fun f hf y hYy hi=>?_,fun h=>?_,fun f hf z hz=>?_,hconn,hins⟩
 .show s1.stk=_
  rw[R1.stk]
  show s.stk++[d/2]++S1=_
  rw[R.stk];simp
 .show s1.blk=_
  rw[R1.blk]
  show s.blk++B1=_
  rw[R.blk];simp
 .rcases List.mem_append.1 hf with hf|hf
  .exact hsES f hf
  rcases List.mem_cons.1 hf with rfl|hf
  .exact⟨hL,hnl,h2,v,T d,hv1,.inl hw1,hj⟩
  obtain⟨k1,k2,k3,x,y,hx,hy,hjj⟩:=R1.sE f hf
  have hx:New s s1 x:=hx
  refine⟨k1,k2,fun e=>?_,x,y,(B.nw x).2 (.inr hx),?_,hjj⟩
  .rcases C.up with⟨h,_⟩|⟨_,q,hq,hjq,_⟩
   .exact h (e▸k1)
   rw[e] at hjj
   rcases hjq.of hjj.left with e'|e'
   .exact hYn1 q hq (e'▸hx)
   exact hnv1 (e'▸hx)
  rcases hy with hy|hy|hy
  .exact .inl ((B.nw y).2 (.inr hy))
  .exact .inr hy
  exact .inl (hy▸hv1)
 .rcases(B.nw x).1 hx with h|h
  .rcases R.cov x h hne f hf hi with q|q|q
   .exact .inl ⟨q.1,R1.insO _ q.2⟩
   .exact .inr (.inl (List.mem_append_left _ q))
   exact .inr (.inr (by rw[List.flatten_append];exact List.mem_append_left _ q))
  rcases R1.covL HD x h f hf hi with q|q|q|q
  .exact .inl q
  .exact .inr (.inl (by rw[q];simp))
  .exact .inr (.inl (List.mem_append_right _ (List.mem_cons_of_mem _ q)))
  exact .inr (.inr (by rw[List.flatten_append];exact List.mem_append_right _ q))
 .rcases List.mem_append.1 hd' with h|h
  .rcases R.vcov d' h with q|q|q|q
   .exact .inl ⟨q.1,R1.insO _ q.2⟩
   .exact .inr (.inl q)
   .exact .inr (.inr (.inl (List.mem_append_left _ q)))
   exact .inr (.inr (.inr (by rw[List.flatten_append];exact List.mem_append_left _ q)))
  rw[List.mem_singleton.1 h];exact .inr (.inr (.inl (by simp)))
 .rcases List.mem_append.1 hf with hf|hf
  .exact hsrcS f hf hv y hy hYy
  rcases List.mem_cons.1 hf with rfl|hf
  .exact⟨d,by simp,rfl⟩
  exfalso
  obtain⟨k1,k2,k3,x,y',hx,hy',hjj⟩:=R1.sE f hf
  have hx:New s s1 x:=hx
  have hvy:v=y':=by
   rcases hjj.of hv with e|e
   .exact absurd (e▸hx) hnv1
   exact e
  have:y=y':=by
   rcases hjj.of hy with e|e
   .exact absurd (e▸hx) (hYn1 y hYy)
   exact e
  rw[this,<-hvy] at hYy
  exact C.gray v hYy C.new
 .show upd s1.low v _ v<=s1.met v
  rw[hlv];exact hlowv
 .show upd s1.low v _ v<=s1.met y
  rw[hlv]
  rcases List.mem_append.1 hf with hf|hf
  .have:=R.lowA f hf y hYy hi
   rw[hYm y hYy,B.lv];omega
  rcases List.mem_cons.1 hf with rfl|hf
  .exfalso
   rcases hj.of hi with e|e
   .exact C.gray y hYy (by rw[e];exact C.new)
   exact C1.gray y (.inl hYy) (by rw[e];exact h3)
  have:=R1.lowA f hf y (.inl hYy) hi
  omega
 .have h:upd s1.low v (min (s1.low v) (s1.low (T d))) v<s1.met v:=h
  show ∃f∈_,∃x y,_/\_/\_/\s1.met y<=upd s1.low v _ v
  rw[hlv] at h ⊢
  by_cases hm:s1.low v<=s1.low (T d)
  .obtain⟨f,hf,x,y,k1,k2,k3,k4⟩:=R.lowB (by rw[<-B.lv,<-B.vs];omega)
   exact⟨f,List.mem_append_left _ hf,x,y,(B.nw x).2 (.inl k1),k2,k3,by rw[hYm y k2];have:=B.lv;omega⟩
  exact⟨f0,List.mem_append_right _ (List.mem_cons_of_mem _ hf0),x0,y0,(B.nw x0).2 (.inr hx0),hY0,hj0,by omega⟩
 rcases List.mem_append.1 hf with hf|hf
 .exact houtS f hf z hz
 have hup:v≠z->G.Rch (fun x=>(New o s1 x\/Y x)/\x≠z) v p:=fun hne=>Gr.Rch.one ⟨.inl hv1,hne⟩ hvp ⟨.inr hYp,fun e=>hYn p hYp (e▸hz)⟩
 have hin:¬New s s1 z->∀x,New s s1 x->G.Rch (fun x=>(New o s1 x\/Y x)/\x≠z) (T d) x:=fun hnz x hx=>
  Gr.Rch.mono (P:=New s s1) (fun y hy=>⟨.inl ((B.nw y).2 (.inr hy)),fun e=>hnz (e▸hy)⟩) (R1.conn x hx)
 have hf0L:G.adj x0 y0:=⟨f0,hL1 f0 hf0,hj0⟩
 rcases List.mem_cons.1 hf with rfl|hf
 .by_cases hvz:v=z
  .have hnz:¬New s s1 z:=hvz▸hnv1
   exact⟨T d,y0,hj.right,fun e=>hnz (e▸B.wnew),hY0,(hin hnz x0 hx0).step hf0L ⟨.inr hY0,fun e=>hYn y0 hY0 (e▸hz)⟩⟩
  exact⟨v,p,hj.left,hvz,hYp,hup hvz⟩
 by_cases hz1:New s s1 z
 .obtain⟨a,y,k1,k2,k3,k4⟩:=R1.out f hf z hz1
  have hvz:v≠z:=fun e=>hnv1 (e▸hz1)
  have k4':G.Rch (fun x=>(New o s1 x\/Y x)/\x≠z) a y:=k4.mono fun x hx=>by
   refine⟨?_,hx.2⟩
   rcases hx.1 with h|h|h
   .exact .inl ((B.nw x).2 (.inr h))
   .exact .inr h
   exact .inl (h▸hv1)
  rcases k3 with k3|k3
  .exact⟨a,y,k1,k2,k3,k4'⟩
  rw[k3] at k4'
  exact⟨a,p,k1,k2,hYp,k4'.trans (hup hvz)⟩
 obtain⟨_,_,_,x,y,hx,hy,hjj⟩:=R1.sE f hf
 have hx:New s s1 x:=hx
 have hxz:x≠z:=fun e=>hz1 (e▸hx)
 have hback:=(hin hz1 x hx).symm
 by_cases hvz:v=z
 .exact⟨x,y0,hjj.left,hxz,hY0,(hback.trans (hin hz1 x0 hx0)).step hf0L ⟨.inr hY0,fun e=>hYn y0 hY0 (e▸hz)⟩⟩
 exact⟨x,p,hjj.left,hxz,hYp,(hback.step hvw.symm ⟨.inl hv1,hvz⟩).trans (hup hvz)⟩
theorem Run.take (HD:Darts G D T)(C:Ctx G Y o v via)(R:Run G T Y o v via dn s S Bs){d:Int}(hd:d∈D v)(h1:T d≠v)(h2:d/2≠via)(h3:s.met (T d)=0)
  (R1:Run G T (And1 Y v) (pushed s (d/2)) (T d) (d/2) (D (T d)) s1 S1 B1) (hge:¬s1.low (T d)<s1.met v):
  Run G T Y o v via (dn++[d]) {s1 with low:=upd s1.low v (min (s1.low v) (s1.low (T d))),stk:=s.stk,blk:=s1.blk++[d/2::S1],ins:=s1.ins++[key (d/2::S1)]} S (Bs++B1++[d/2::S1]):=by
 obtain⟨hL,hj⟩:=HD.mem v d hd
 have C1:=R.child HD C hd h1 h2 h3
 have B:=R.behind HD C hd h1 h2 h3 R1
 have hNv:=R.newv C
 have hv1:New o s1 v:=(B.nw v).2 (.inl hNv)
 have hw1:New o s1 (T d):=(B.nw _).2 (.inr B.wnew)
 have hYm:∀y,Y y->s1.met y=s.met y:=fun y hy=>B.met y (C1.gray y (.inl hy))
 have hnl:¬G.lp (d/2):=fun h=>by
  rcases hj with⟨a,b⟩|⟨a,b⟩
  .exact h1 (by rw[<-a,<-b];exact h.symm)
  exact h1 (by rw[<-a,<-b];exact h)
 have hlv:upd s1.low v (min (s1.low v) (s1.low (T d))) v=min (s1.low v) (s1.low (T d)):=upd_same _ _ _
 have hold:∀x,o.met x≠0->upd s1.low v (min (s1.low v) (s1.low (T d))) x=o.low x:=fun x hx=>by
  rw[upd_ne _ _ (fun e=>hx (by rw[e];exact C.new))]
  exact(R1.olow x (by have:=R.old x hx;show s.met x≠0;omega)).trans (R.olow x hx)
 have hnew:∀x,New o s1 x->o.cnt<s1.met x:=fun x hx=>by
  rcases(B.nw x).1 hx with h|h
  .rw[B.met x h.2];exact R.new x h
  have h4:=R1.new x h
  have h5:(pushed s (d/2)).cnt=s.cnt:=rfl
  have:=(R.glob.bnd v).2
  have:=R.vmet
  omega
 have hseen:∀x y,New o s1 x->x≠v->G.adj x y->s1.met y≠0:=fun x y hx hne ha=>by
  rcases(B.nw x).1 hx with h|h
  .have:=R.seen x y h hne ha
   rw[B.met y this];exact this
  exact R1.seenL HD x y h ha
 have hvseen:∀d'∈dn++[d],s1.met (T d')≠0:=fun d' hd'=>by
  rcases List.mem_append.1 hd' with h|h
  .have:=R.vseen d' h
   rw[B.met _ this];exact this
  rw[List.mem_singleton.1 h];exact B.wnew.2
 have hbE:∀f∈(Bs++B1).flatten,∀x,G.inc f x->New o s1 x:=fun f hf x hi=>by
  rw[List.flatten_append,List.mem_append] at hf
  rcases hf with h|h
  .exact(B.nw x).2 (.inl (R.bE f h x hi))
  exact(B.nw x).2 (.inr (R1.bE f h x hi))
 have hsrcS:∀f∈S,G.inc f v->∀y,G.inc f y->Y y->∃d'∈dn++[d],d'/2=f:=fun f hf hv y hy hYy=>by
  obtain⟨d',hd',e⟩:=R.src f hf hv y hy hYy
  exact⟨d',List.mem_append_left _ hd',e⟩
 have hlowv:min (s1.low v) (s1.low (T d))<=s1.met v:=by
  have:=R.lowv
  rw[B.vs,B.lv];omega
 have houtS:∀f∈S,∀z,New o s1 z->∃a y,G.inc f a/\a≠z/\Y y/\G.Rch (fun x=>(New o s1 x\/Y x)/\x≠z) a y:=fun f hf z hz=>by
  rcases(B.nw z).1 hz with h|h
  .obtain⟨a,y,k1,k2,k3,k4⟩:=R.out f hf z h
   exact⟨a,y,k1,k2,k3,k4.mono fun x hx=>⟨hx.1.imp_left fun q=>(B.nw x).2 (.inl q),hx.2⟩⟩
  obtain⟨a,y,k1,k2,k3,k4⟩:=R.out f hf v hNv
  have hz':∀x,New o s x\/Y x->x≠z:=fun x hx e=>by
   have h0:s.met z=0:=h.1
   rw[<-e] at h0
   rcases hx with hx|hx
   .exact hx.2 h0
   exact C1.gray x (.inl hx) h0
  exact⟨a,y,k1,hz' a k4.first.1,k3,k4.mono fun x hx=>⟨hx.1.imp_left fun q=>(B.nw x).2 (.inl q),hz' x hx.1⟩⟩
 have hvw:G.adj v (T d):=⟨_,hL,hj⟩
 have hconn:∀x,New o s1 x->G.Rch (New o s1) v x:=fun x hx=>by
  rcases(B.nw x).1 hx with h|h
  .exact(R.conn x h).mono fun y hy=>(B.nw y).2 (.inl hy)
  exact(Gr.Rch.one hv1 hvw hw1).trans (Gr.Rch.mono (P:=New s s1) (fun y hy=>(B.nw y).2 (.inr hy)) (R1.conn x h))
 have hins:∀q∈o.ins,q∈s1.ins:=fun q hq=>R1.insO q (R.insO q hq)
 have hsES:∀f∈S,f∈G.L/\¬G.lp f/\f≠via/\∃x y,New o s1 x/\(New o s1 y\/Y y)/\G.joins f x y:=fun f hf=>by
  obtain⟨k1,k2,k3,x,y,hx,hy,hjj⟩:=R.sE f hf
  exact⟨k1,k2,k3,x,y,(B.nw x).2 (.inl hx),hy.imp_left fun q=>(B.nw y).2 (.inl q),hjj⟩
 have hgood:=R.block HD C hd h1 h2 h3 R1 hge
 have hends:∀f∈d/2::S1,∀x,G.inc f x->New o s1 x:=fun f hf x hi=>by
  rcases List.mem_cons.1 hf with rfl|hf
  .rcases hj.of hi with e|e
   .rw[e];exact hv1
   rw[e];exact hw1
  obtain⟨_,_,_,x',y',hx,hy,hjj⟩:=R1.sE f hf
  rcases hjj.of hi with e|e
  .rw[e];exact(B.nw x').2 (.inr hx)
  rcases hy with hy|hy
  .rw[e];exact(B.nw y').2 (.inr hy)
  rw[e,R.onlyv HD C hd h1 h2 h3 R1 hge hf hy hjj.right];exact hv1
 have hnd:(s1.blk.flatten++(s.stk++d/2::S1)).Nodup:=by
  have:=R1.glob.nd
  rw[R1.stk] at this
  simpa[pushed] using this
 have hmin:min (s1.low v) (s1.low (T d))=s.low v:=by
  have:=R.lowv
  rw[B.vs] at hge
  rw[B.lv];omega
 refine⟨⟨R1.glob.bnd,R1.glob.inj,fun f hf x hi=>?_,?_,R1.glob.good.snoc hgood,fun q hq=>?_,fun b hb=>?_,fun b hb=>?_⟩,B.old,hold,hnew,B.vs.trans R.vmet,R.stk,?_,hseen,hvseen,hsES,fun f hf x hi=>?_,fun x hx hne f hf hi=>?_,fun d' hd'=>?_,hsrcS,?_,fun f hf y hYy hi=>?_,fun h=>?_,houtS,hconn,fun q hq=>List.mem_append_left _ (hins q hq)⟩
 .have hf:f∈(s1.blk++[d/2::S1]).flatten:=hf
  rw[List.flatten_append,List.mem_append] at hf
  rcases hf with hf|hf
  .exact R1.glob.bv f hf x hi
  exact(hends f (by simpa using hf) x hi).2
 .show((s1.blk++[d/2::S1]).flatten++s.stk).Nodup
  rw[List.flatten_append,List.append_assoc]
  refine(List.Perm.nodup_iff (List.Perm.append_left _ ?_)).2 hnd
  simp only[List.flatten_cons,List.flatten_nil,List.append_nil]
  exact List.perm_append_comm
 .rcases List.mem_append.1 hq with h|h
  .rcases R1.glob.ins1 q h with h|⟨b,hb,e⟩
   .exact .inl h
   exact .inr ⟨b,List.mem_append_left _ hb,e⟩
  exact .inr ⟨_,List.mem_append_right _ (by simp),List.mem_singleton.1 h⟩
 .rcases List.mem_append.1 hb with h|h
  .exact List.mem_append_left _ (R1.glob.ins2 b h)
  rw[List.mem_singleton.1 h];exact List.mem_append_right _ (by simp)
 .rcases List.mem_append.1 hb with h|h
  .exact R1.glob.ne b h
  rw[List.mem_singleton.1 h];simp
 .show s1.blk++[d/2::S1]=_
  rw[R1.blk]
  show s.blk++B1++_=_
  rw[R.blk];simp
 .rw[List.flatten_append,List.mem_append] at hf
  rcases hf with hf|hf
  .exact hbE f hf x hi
  exact hends f (by simpa using hf) x hi
 .rcases(B.nw x).1 hx with h|h
  .rcases R.cov x h hne f hf hi with q|q|q
   .exact .inl ⟨q.1,List.mem_append_left _ (R1.insO _ q.2)⟩
   .exact .inr (.inl q)
   exact .inr (.inr (by simp only[List.flatten_append,List.mem_append];exact .inl (.inl q)))
  rcases R1.covL HD x h f hf hi with q|q|q|q
  .exact .inl ⟨q.1,List.mem_append_left _ q.2⟩
  .exact .inr (.inr (by rw[q];simp))
  .exact .inr (.inr (by simp[q]))
  exact .inr (.inr (by simp only[List.flatten_append,List.mem_append];exact .inl (.inr q)))
 .rcases List.mem_append.1 hd' with h|h
  .rcases R.vcov d' h with q|q|q|q
   .exact .inl ⟨q.1,List.mem_append_left _ (R1.insO _ q.2)⟩
   .exact .inr (.inl q)
   .exact .inr (.inr (.inl q))
   exact .inr (.inr (.inr (by simp only[List.flatten_append,List.mem_append];exact .inl (.inl q))))
  rw[List.mem_singleton.1 h];exact .inr (.inr (.inr (by simp)))
 .show upd s1.low v _ v<=s1.met v
  rw[hlv];exact hlowv
 .show upd s1.low v _ v<=s1.met y
  rw[hlv,hmin,hYm y hYy];exact R.lowA f hf y hYy hi
 have h:upd s1.low v (min (s1.low v) (s1.low (T d))) v<s1.met v:=h
 show ∃f∈_,∃x y,_/\_/\_/\s1.met y<=upd s1.low v _ v
 rw[hlv,hmin] at h ⊢
 rw[B.vs] at h
 obtain⟨f,hf,x,y,k1,k2,k3,k4⟩:=R.lowB h
 exact⟨f,hf,x,y,(B.nw x).2 (.inl k1),k2,k3,by rw[hYm y k2];exact k4⟩
end
end Go.Proofs.YtnfdimfepbbbpaaGreatDoor.Deep
namespace Go.Proofs.YtnfdimfepbbbpaaGreatDoor.Deep
section
variable {G:Gr}{D:Int->List Int}{T:Int->Int}
theorem split_one {e:Int}{a b c d:List Int}(h:a++e::b=c++e::d)(ha:e∉a)(hc:e∉c):a=c/\b=d:=by
 induction a generalizing c with
 |nil=>
  cases c with
  |nil=>simp at h;exact⟨rfl,h⟩
  |cons x c=>simp at h;exact absurd (by rw[h.1];simp) hc
 |cons x a ih=>
  cases c with
  |nil=>simp at h;exact absurd (by rw[h.1];simp) ha
  |cons y c=>
   simp only[List.cons_append,List.cons.injEq] at h
   obtain⟨h1,h2⟩:=ih h.2 (fun q=>ha (List.mem_cons_of_mem _ q)) (fun q=>hc (List.mem_cons_of_mem _ q))
   exact⟨by rw[h.1,h1],h2⟩
theorem dn_mem {v d:Int}{dn ds:List Int}(h:dn++d::ds=D v):d∈D v/\(∀x∈dn,x∈D v):=by rw[<-h];exact⟨by simp,fun x hx=>List.mem_append_left _ hx⟩
theorem dn_new (HD:Darts G D T){v d:Int}{dn ds:List Int}(h:dn++d::ds=D v):d∉dn:=by
 have:=HD.nodup v
 rw[<-h,List.nodup_append] at this
 intro hd
 exact this.2.2 d hd d (by simp) rfl
theorem joins_lp {f x:Int}(h:G.joins f x x):G.lp f:=by rcases h with⟨a,b⟩|⟨a,b⟩<;>exact a.trans b.symm
theorem loop_run (HD:Darts G D T){v via:Int}{ds:List Int}{s s':St}(h:Loop D T v via ds s s'):
  ∀(Y:Int->Prop) (o:St) (dn S:List Int) (Bs:List (List Int)),Ctx G Y o v via->Run G T Y o v via dn s S Bs->dn++ds=D v->∃S' Bs',Run G T Y o v via (D v) s' S' Bs':=by
 induction h with
 |nil=>intro Y o dn S Bs C R e;rw[List.append_nil] at e;subst e;exact⟨S,Bs,R⟩
 | @lp v via d ds s s' h1 _ ih=>
  intro Y o dn S Bs C R e
  obtain⟨hd,_⟩:=dn_mem e
  obtain⟨hL,hj⟩:=HD.mem v d hd
  rw[h1] at hj
  have hl:=joins_lp hj
  refine ih Y o (dn++[d]) S Bs C ((R.lp hL hl).more ?_ (.inl ⟨hl,List.mem_append_right _ (by simp)⟩)) (by simpa using e)
  rw[h1];exact(R.newv C).2
 | @via v via d ds s s' h1 h2 _ ih=>
  intro Y o dn S Bs C R e
  obtain⟨hd,_⟩:=dn_mem e
  obtain⟨hL,hj⟩:=HD.mem v d hd
  refine ih Y o (dn++[d]) S Bs C (R.more ?_ (.inr (.inl h2))) (by simpa using e)
  rcases C.up with⟨h,_⟩|⟨_,p,hp,hjp,_⟩
  .exact absurd (h2▸hL) h
  rw[h2] at hj
  rcases hjp.of hj.right with q|q
  .rw[q]
   have:=C.gray p hp
   rw[R.old p this];exact this
  exact absurd q h1
 | @keep v via d ds s s1 s' h1 h2 h3 _ h4 _ ih1 ih2=>
  intro Y o dn S Bs C R e
  obtain⟨hd,_⟩:=dn_mem e
  have C1:=R.child HD C hd h1 h2 h3
  obtain⟨S1,B1,R1⟩:=ih1 _ _ [] [] [] C1 (enter_run C1) rfl
  exact ih2 Y o (dn++[d]) _ _ C (R.keep HD C hd h1 h2 h3 R1 h4) (by simpa using e)
 | @take v via d ds s s1 s' pre S0 h1 h2 h3 _ h4 h5 h6 _ ih1 ih2=>
  intro Y o dn S Bs C R e
  obtain⟨hd,_⟩:=dn_mem e
  have C1:=R.child HD C hd h1 h2 h3
  obtain⟨S1,B1,R1⟩:=ih1 _ _ [] [] [] C1 (enter_run C1) rfl
  have hst:pre++d/2::S0=s.stk++d/2::S1:=by rw[<-h5,R1.stk];simp
  obtain⟨rfl,rfl⟩:=split_one hst h6 (R.notStk C (HD.mem v d hd).2.right h3 h2)
  exact ih2 Y o (dn++[d]) _ _ C (R.take HD C hd h1 h2 h3 R1 h4) (by simpa using e)
 | @back v via d ds s s' h1 h2 h3 h4 _ ih=>
  intro Y o dn S Bs C R e
  obtain⟨hd,hdn⟩:=dn_mem e
  exact ih Y o (dn++[d]) _ _ C (R.back HD C hd hdn (dn_new HD e) h1 h2 h3 h4) (by simpa using e)
 | @skip v via d ds s s' h1 h2 h3 h4 _ ih=>
  intro Y o dn S Bs C R e
  obtain⟨hd,_⟩:=dn_mem e
  obtain⟨hL,hj⟩:=HD.mem v d hd
  have hn:New o s (T d):=by
   refine⟨Classical.byContradiction fun q=>h4 ?_,h3⟩
   rw[R.old _ q,R.vmet]
   have:=(C.glob.bnd (T d)).2;omega
  refine ih Y o (dn++[d]) S Bs C (R.more h3 ?_) (by simpa using e)
  rcases R.cov (T d) hn h1 _ hL hj.right with q|q|q
  .exact .inl q
  .exact .inr (.inr (.inl q))
  exact .inr (.inr (.inr q))
def left (U:List Int)(s:St):Nat:=(U.filter fun x=>decide (s.met x=0)).length
inductive Roots (D:Int->List Int)(T:Int->Int):List Int->St->St->Prop
 |nil {s}:Roots D T [] s s
 |met {v vs s s'}:s.met v≠0->Roots D T vs s s'->Roots D T (v::vs) s s'
 |go {v vs s s1 s'}:s.met v=0->Loop D T v (-1) (D v) (enter v s) s1->Roots D T vs s1 s'->Roots D T (v::vs) s s'
structure Rest (G:Gr)(s:St):Prop where
 glob:Glob G s
 stk:s.stk=[]
 seen:∀x y,s.met x≠0->G.adj x y->s.met y≠0
 cov:∀x,s.met x≠0->∀f∈G.L,G.inc f x->(G.lp f/\(f,[f])∈s.ins)\/f∈s.blk.flatten
theorem Rest.ctx {s:St}(R:Rest G s)(h0:(-1:Int)∉G.L){v:Int}(hv:s.met v=0):Ctx G (fun _=>False) s v (-1):=
 ⟨R.glob,hv,fun _ h=>h.elim,fun x y hx _ ha=>R.seen x y hx ha,.inl ⟨h0,fun _ h=>h,R.stk⟩,fun f hf=>by rw[R.stk] at hf;simp at hf⟩
theorem Rest.next (HD:Darts G D T){s s1:St}(R:Rest G s)(h0:(-1:Int)∉G.L){v:Int}(hv:s.met v=0)(h:Loop D T v (-1) (D v) (enter v s) s1):Rest G s1/\s1.met v≠0/\∀x,s.met x≠0->s1.met x≠0:=by
 have C:=R.ctx h0 hv
 obtain⟨S,Bs,Q⟩:=loop_run HD h _ _ [] [] [] C (enter_run C) rfl
 have hNv:=Q.newv C
 have hS:S=[]:=by
  cases S with
  |nil=>rfl
  |cons f S=>obtain⟨_,y,_,_,hy,_⟩:=Q.out f (by simp) v hNv;exact hy.elim
 have hmono:∀x,s.met x≠0->s1.met x≠0:=fun x hx=>by rw[Q.old x hx];exact hx
 refine⟨⟨Q.glob,by rw[Q.stk,hS,R.stk];rfl,fun x y hx ha=>?_,fun x hx f hf hi=>?_⟩,hNv.2,hmono⟩
 .by_cases ho:s.met x=0
  .exact Q.seenL HD x y ⟨ho,hx⟩ ha
  exact hmono y (R.seen x y ho ha)
 by_cases ho:s.met x=0
 .rcases Q.covL HD x ⟨ho,hx⟩ f hf hi with q|q|q|q
  .exact .inl q
  .exact absurd (q▸hf) h0
  .rw[hS] at q;simp at q
  exact .inr (by rw[Q.blk,List.flatten_append];exact List.mem_append_right _ q)
 rcases R.cov x ho f hf hi with q|q
 .exact .inl ⟨q.1,Q.insO _ q.2⟩
 exact .inr (by rw[Q.blk,List.flatten_append];exact List.mem_append_left _ q)
def St.zero:St:=⟨fun _=>0,fun _=>0,0,[],[],[]⟩
end
end Go.Proofs.YtnfdimfepbbbpaaGreatDoor.Deep
namespace Go.Proofs.YtnfdimfepbbbpaaGreatDoor
open Go.RowKit
abbrev Asc (l:List Int):Prop:=l.Pairwise (· < ·)
theorem rises_iff {l:List Int}{n:Int}:risesP l n↔Asc l/\∀x∈l,0<=x/\x<n:=by
 constructor
 .intro h
  refine⟨List.pairwise_iff_getElem.2 fun i j hi hj hij=>?_,fun x hx=>?_⟩
  .have:=rises_lt h hij hj
   simpa[List.getD_eq_getElem?_getD,List.getElem?_eq_getElem hi,List.getElem?_eq_getElem hj] using this
  obtain⟨j,hj,rfl⟩:=mem_getD.1 hx
  have:=h j hj;omega
 rintro⟨h1,h2⟩ j hj
 have hm:=h2 (l.getD j 0) (mem_getD.2 ⟨j,hj,rfl⟩)
 refine⟨hm.1,hm.2,fun h0=>?_⟩
 have:=List.pairwise_iff_getElem.1 h1 (j-1) j (by omega) hj (by omega)
 simpa[List.getD_eq_getElem?_getD,List.getElem?_eq_getElem hj,List.getElem?_eq_getElem (show j-1<l.length by omega)] using this
theorem mem_dartsL {E:List (Int×Int)}{L:List Int}{v d:Int}:d∈dartsL E L v↔d/2∈L/\tailE E d=v:=by
 unfold dartsL dartsFrom
 simp only[List.mem_flatMap,List.mem_append]
 constructor
 .rintro⟨e,he,h⟩
  rcases h with h|h
  .split at h
   .rename_i q;simp at h;subst h;refine⟨by rw[show(2*e)/2=e by omega];exact he,?_⟩
    have:=q.2;rw[show 2*e+0=2*e by omega] at this;exact this
   simp at h
  split at h
  .rename_i q;simp at h;subst h;exact⟨by rw[show(2*e+1)/2=e by omega];exact he,q.2⟩
  simp at h
 rintro⟨he,h⟩
 refine⟨d/2,he,?_⟩
 by_cases c:d%2=0
 .left;rw[if_pos ⟨by omega,by rw[show 2*(d/2)+0=d by omega];exact h⟩];simp;omega
 right;rw[if_pos ⟨by omega,by rw[show 2*(d/2)+1=d by omega];exact h⟩];simp;omega
theorem mem_dartsFrom {E:List (Int×Int)}{e v s d:Int}(h:d∈dartsFrom E e v s):d=2*e\/d=2*e+1:=by
 unfold dartsFrom at h
 rcases List.mem_append.1 h with h|h<;>split at h<;>simp at h<;>omega
theorem dartsFrom_asc (E:List (Int×Int))(e v s:Int):Asc (dartsFrom E e v s):=by
 unfold dartsFrom
 split<;>split<;>simp<;>omega
theorem dartsL_rises {E:List (Int×Int)}{L:List Int}{v m:Int}(h:risesP L m):risesP (dartsL E L v) (2*m):=by
 obtain⟨h1,h2⟩:=rises_iff.1 h
 refine rises_iff.2 ⟨?_,fun x hx=>by have:=h2 _ (mem_dartsL.1 hx).1;omega⟩
 unfold dartsL
 rw[Asc,List.pairwise_flatMap]
 refine⟨fun e _=>dartsFrom_asc E e v 0,h1.imp fun hab x hx y hy=>?_⟩
 have:=mem_dartsFrom hx;have:=mem_dartsFrom hy;omega
abbrev awE:List (Int×Int):=[(0,1),(1,1)]
end Go.Proofs.YtnfdimfepbbbpaaGreatDoor
namespace Go.Proofs.YtnfdimfepbbbpaaGreatDoor
open Go.RowKit
end Go.Proofs.YtnfdimfepbbbpaaGreatDoor
namespace Go.Proofs.YtnfdimfepbbbpaaGreatDoor
open Go.Proofs.YtnfdimfepbbbpaaGreatDoor.Deep
def eA (E:List (Int×Int))(f:Int):Int:=(E.getD f.toNat (0,0)).1
def eB (E:List (Int×Int))(f:Int):Int:=(E.getD f.toNat (0,0)).2
abbrev grE (E:List (Int×Int))(L:List Int):Gr:=⟨L,eA E,eB E⟩
def headE (E:List (Int×Int))(d:Int):Int:=if d%2=0 then eB E (d/2) else eA E (d/2)
theorem tail_eA {E:List (Int×Int)}{d:Int}:tailE E d=if d%2=0 then eA E (d/2) else eB E (d/2):=rfl
theorem asc_nodup {l:List Int}(h:Asc l):l.Nodup:=h.imp fun h e=>by omega
theorem darts_ok {E:List (Int×Int)}{L:List Int}{m:Int}(hL:risesP L m):Darts (grE E L) (dartsL E L) (headE E):=by
 have hj:∀v d,d∈dartsL E L v->(grE E L).joins (d/2) v (headE E d):=fun v d hd=>by
  obtain⟨h1,h2⟩:=mem_dartsL.1 hd
  rw[tail_eA] at h2
  unfold headE Gr.joins
  split at h2
  .rename_i h;rw[if_pos h];exact .inl ⟨h2,rfl⟩
  rename_i h;rw[if_neg h];exact .inr ⟨rfl,h2⟩
 refine⟨fun v d hd=>⟨(mem_dartsL.1 hd).1,hj v d hd⟩,fun f x hf hi=>?_,fun v d d' h1 h2 he hne=>?_,fun v=>asc_nodup (rises_iff.1 (dartsL_rises hL)).1⟩
 .rcases hi with h|h
  .refine⟨2*f,mem_dartsL.2 ⟨by rw[show 2*f/2=f by omega];exact hf,?_⟩,by omega⟩
   rw[tail_eA,if_pos (by omega),show 2*f/2=f by omega];exact h
  refine⟨2*f+1,mem_dartsL.2 ⟨by rw[show(2*f+1)/2=f by omega];exact hf,?_⟩,by omega⟩
  rw[tail_eA,if_neg (by omega),show(2*f+1)/2=f by omega];exact h
 refine Classical.byContradiction fun hd=>hne ?_
 have t1:=(mem_dartsL.1 h1).2
 have t2:=(mem_dartsL.1 h2).2
 rw[tail_eA] at t1 t2
 unfold headE
 by_cases c:d%2=0
 .rw[if_neg (by omega),<-he] at t2
  rw[if_pos c];exact t2
 rw[if_pos (by omega),<-he] at t2
 rw[if_neg c];exact t2
def spStep (E:List (Int×Int))(but:Int)(i:Nat)(m:List Int)(e:Int):List Int:=
 let m1:=if eA E e=m.getD i 0/\eB E e≠but/\eB E e∉m then m++[eB E e] else m
 if eB E e=m1.getD i 0/\eA E e≠but/\eA E e∉m1 then m1++[eA E e] else m1
def spRound (E:List (Int×Int))(but:Int)(i:Nat)(l:List Int)(m:List Int):List Int:=l.foldl (spStep E but i) m
def spF (E:List (Int×Int))(L:List Int)(but:Int):Nat->Nat->List Int->List Int
 |0,_,m=>m
 |f+1,i,m=>if i<m.length then spF E L but f (i+1) (spRound E but i L m) else m
def spread (E:List (Int×Int))(L:List Int)(a but:Int):List Int:=spF E L but (2*L.length+1) 0 [a]
def spAdd (but:Int)(i:Nat)(m:List Int)(x y:Int):List Int:=if x=m.getD i 0/\y≠but/\y∉m then m++[y] else m
structure Sp (G:Gr)(a but:Int)(U:List Int)(m:List Int):Prop where
 nd:m.Nodup
 fst:a∈m
 rch:∀x∈m,G.Rch (· ≠but) a x
 sub:∀x∈m,x∈U
theorem getD_app {m r:List Int}{i:Nat}(h:i<m.length):(m++r).getD i 0=m.getD i 0:=by
 rw[List.getD_eq_getElem?_getD,List.getD_eq_getElem?_getD,List.getElem?_append_left h]
def otherE (E:List (Int×Int))(e v:Int):Int:=if eA E e=v then eB E e else eA E e
def apartB (E:List (Int×Int))(L:List Int)(v e f:Int):Bool:=
 if e=f then false else if(eA E e=v/\eB E e=v)\/(eA E f=v/\eB E f=v) then true else !(decide (otherE E f v∈spread E L (otherE E e v) v))
def togB (E:List (Int×Int))(V L:List Int)(e f:Int):Bool:=decide (∀j,j<V.length->apartB E L (V.getD j 0) e f=false)
def classL (E:List (Int×Int))(V L:List Int)(e:Int):List Int:=L.filter (togB E V L e)
def blocksL (n:Int)(E:List (Int×Int))(V L:List Int):List (List Int×List Int):=
 (L.filter fun e=>decide ((classL E V L e).getD 0 0=e)).map fun e=>(touchL E (classL E V L e) n,classL E V L e)
section
variable {n:Int}{E:List (Int×Int)}{V L:List Int}{s:St}
end
def leav1 (E:List (Int×Int))(m:List (Int×List Int))(e:Int):List (Int×List Int):=
 ptI (ptI m (E.getD e.toNat (0,0)).1 ((lkI m (E.getD e.toNat (0,0)).1).getD []++[2*e])) (E.getD e.toNat (0,0)).2
  ((lkI (ptI m (E.getD e.toNat (0,0)).1 ((lkI m (E.getD e.toNat (0,0)).1).getD []++[2*e])) (E.getD e.toNat (0,0)).2).getD []++[2*e+1])
def leavF (E:List (Int×Int))(L:List Int):List (Int×List Int):=L.foldl (leav1 E) []
theorem dartsL_ap {E:List (Int×Int)}{L M:List Int}{x:Int}:dartsL E (L++M) x=dartsL E L x++dartsL E M x:=by unfold dartsL;rw[List.flatMap_append]
theorem leavF_snoc {E:List (Int×Int)}{L:List Int}{i:Int}(h0:0<=i)(h:i<(L.length:Int)):leavF E (L.take (i+1).toNat)=leav1 E (leavF E (L.take i.toNat)) (L.getD i.toNat 0):=by
 unfold leavF
 rw[show(i+1).toNat=i.toNat+1 by omega,List.take_succ_eq_append_getElem (by omega),List.foldl_append,List.getD_eq_getElem?_getD,List.getElem?_eq_getElem (show i.toNat<L.length by omega)]
 rfl
theorem leav1_look {E:List (Int×Int)}{m:List (Int×List Int)}{e v:Int}:(lkI (leav1 E m e) v).getD []=(lkI m v).getD []++dartsFrom E e v 0:=by
 unfold leav1 dartsFrom
 rw[lkI_pt,lkI_pt,lkI_pt,tailE_0,tailE_1]
 generalize (E.getD e.toNat (0,0)).1=A
 generalize (E.getD e.toNat (0,0)).2=B
 by_cases h1:A=v<;>by_cases h2:B=v
 .simp[h1,h2]
 .simp[h1,h2]
 .have:¬A=B:=fun q=>h1 (q.trans h2)
  simp[h1,h2,this]
 simp[h1,h2]
theorem leavF_look (E:List (Int×Int))(v:Int):∀(L M:List Int),(∀x,(lkI (M.foldl (leav1 E) []) x).getD []=dartsL E M x)->(lkI ((L.foldl (leav1 E) (M.foldl (leav1 E) []))) v).getD []=dartsL E (M++L) v
 |[],M,h=>by rw[List.append_nil];exact h v
 |e::L,M,h=>by
  have:=leavF_look E v L (M++[e]) fun x=>by
   rw[List.foldl_append,List.foldl_cons,List.foldl_nil,leav1_look,h x,dartsL_ap]
   simp[dartsL]
  rw[List.foldl_append,List.foldl_cons,List.foldl_nil] at this
  rw[List.foldl_cons,this,List.append_assoc];rfl
theorem leav_look {E:List (Int×Int)}{L:List Int}{v:Int}:(lkI (leavF E L) v).getD []=dartsL E L v:=by
 have:=leavF_look E v L [] fun x=>rfl
 exact this
theorem dartsFrom_len (E:List (Int×Int))(e v s:Int):(dartsFrom E e v s).length<=2:=by
 unfold dartsFrom;split<;>split<;>simp
theorem dartsL_len (E:List (Int×Int))(v:Int):∀L:List Int,(dartsL E L v).length<=2*L.length
 |[]=>by simp[dartsL]
 |e::L=>by
  have h1:=dartsFrom_len E e v 0
  have h2:=dartsL_len E v L
  show(dartsFrom E e v 0++dartsL E L v).length<=_
  rw[List.length_append,List.length_cons];omega
theorem leavF_len (E:List (Int×Int)):∀(L:List Int) (m:List (Int×List Int)),(L.foldl (leav1 E) m).length<=m.length+2*L.length
 |[],m=>by simp
 |e::L,m=>by
  have h1:=leavF_len E L (leav1 E m e)
  have h2:(leav1 E m e).length<=m.length+2:=Nat.le_trans (ptI_len _ _ _) (Nat.succ_le_succ (ptI_len _ _ _))
  rw[List.foldl_cons,List.length_cons];omega
theorem ends_in {n:Int}{E:List (Int×Int)}(hr:rightE n E=0){e:Int}(h0:0<=e)(h1:e<(E.length:Int)):0<=(E.getD e.toNat (0,0)).1/\(E.getD e.toNat (0,0)).1<n/\0<=(E.getD e.toNat (0,0)).2/\(E.getD e.toNat (0,0)).2<n:=by
 obtain⟨_,_,_,h⟩:=rightE_0 hr
 obtain⟨a,b,c,d⟩:=h e.toNat (by omega)
 exact⟨a,b,c,d⟩
theorem leav_facts {n:Int}{E:List (Int×Int)}{V L:List Int}(hp:partE n E V L=0){i:Int}{m:List (Int×List Int)}(hm:m=leavF E (L.take i.toNat))(h0:0<=i)(h1:i<(L.length:Int)):
  (0<=L.getD i.toNat 0/\L.getD i.toNat 0<(E.length:Int)/\(E.length:Int)<=1024)/\
  (0<=(E.getD (L.getD i.toNat 0).toNat (0,0)).1/\(E.getD (L.getD i.toNat 0).toNat (0,0)).1<1024/\0<=(E.getD (L.getD i.toNat 0).toNat (0,0)).2/\(E.getD (L.getD i.toNat 0).toNat (0,0)).2<1024)/\
  ((lkI m (E.getD (L.getD i.toNat 0).toNat (0,0)).1).getD []).length<=4096/\
  m.length<=4096/\
  ((lkI (ptI m (E.getD (L.getD i.toNat 0).toNat (0,0)).1 ((lkI m (E.getD (L.getD i.toNat 0).toNat (0,0)).1).getD []++[2*L.getD i.toNat 0])) (E.getD (L.getD i.toNat 0).toNat (0,0)).2).getD []).length<=4096/\
  (ptI m (E.getD (L.getD i.toNat 0).toNat (0,0)).1 ((lkI m (E.getD (L.getD i.toNat 0).toNat (0,0)).1).getD []++[2*L.getD i.toNat 0])).length<=4096:=by
 subst hm
 obtain⟨hr,hV,hL,_⟩:=partE_0 hp
 obtain⟨r1,r2,r3,r4⟩:=rightE_0 hr
 have hlen:=rises_len hL (by omega)
 obtain⟨k1,k2,_⟩:=hL i.toNat (by omega)
 obtain⟨e1,e2,e3,e4⟩:=ends_in hr k1 k2
 have htl:(L.take i.toNat).length<=1024:=by rw[List.length_take];omega
 have hd:∀v,((lkI (leavF E (L.take i.toNat)) v).getD []).length<=2048:=fun v=>by
  rw[leav_look]
  exact Nat.le_trans (dartsL_len E v _) (by omega)
 have hl:=leavF_len E (L.take i.toNat) []
 have hl:(leavF E (L.take i.toNat)).length<=2048:=by
  unfold leavF
  simp only[List.length_nil] at hl;omega
 refine⟨⟨k1,k2,by omega⟩,⟨e1,by omega,e3,by omega⟩,Nat.le_trans (hd _) (by omega),by omega,?_,Nat.le_trans (ptI_len _ _ _) (by omega)⟩
 rw[lkI_pt]
 split
 .have:=hd (E.getD (L.getD i.toNat 0).toNat (0,0)).1
  simp only[Option.getD_some,List.length_append,List.length_singleton];omega
 exact Nat.le_trans (hd _) (by omega)
def rdart (E:List (Int×Int))(v shut:Int)(s:List (Int×Int)×List Int)(d:Int):List (Int×Int)×List Int:=
 if(lkI s.1 (headE E d)).isSome=true\/headE E d=shut then s else(ptI s.1 (headE E d) ((lkI s.1 v).getD 0+1),s.2++[headE E d])
def rdarts (E:List (Int×Int))(M:List (Int×List Int))(v shut:Int)(s:List (Int×Int)×List Int):List (Int×Int)×List Int:=((lkI M v).getD []).foldl (rdart E v shut) s
def runR (E:List (Int×Int))(M:List (Int×List Int))(shut:Int):Nat->Int->List (Int×Int)×List Int->List (Int×Int)
 |0,_,s=>s.1
 |f+1,v,s=>match(rdarts E M v shut s).2 with
  |[]=>(rdarts E M v shut s).1
  |x::q=>runR E M shut f x ((rdarts E M v shut s).1,q)
def reachF (E:List (Int×Int))(M:List (Int×List Int))(a shut:Int):List (Int×Int):=runR E M shut (2*E.length+2) a ([(a,0)],[])
theorem ptI_new_len {α:Type}{l:List (Int×α)}{x:Int}{v:α}(h:lkI l x=none):(ptI l x v).length=l.length+1:=by
 rw[(ptI_perm h).length_eq];rfl
structure Srch (U:List Int)(s:List (Int×Int)×List Int):Prop where
 nd:(s.1.map (·.1)).Nodup
 sub:∀p∈s.1,p.1∈U
theorem Srch.len {U:List Int}{s:List (Int×Int)×List Int}(h:Srch U s):s.1.length<=U.length:=by
 have:=List.Nodup.length_le_of_subset h.nd (l₂:=U) (fun x hx=>by obtain⟨p,hp,rfl⟩:=List.mem_map.1 hx;exact h.sub p hp)
 rwa[List.length_map] at this
theorem rdart_srch {U:List Int}{E:List (Int×Int)}{v shut d:Int}{s:List (Int×Int)×List Int}(h:Srch U s)(hd:headE E d∈U):Srch U (rdart E v shut s d)/\(rdart E v shut s d).1.length+s.2.length=s.1.length+(rdart E v shut s d).2.length:=by
 unfold rdart
 split
 .exact⟨h,rfl⟩
 rename_i q
 have hn:lkI s.1 (headE E d)=none:=by
  cases hl:lkI s.1 (headE E d) with
  |none=>rfl
  |some z=>exact(q (.inl (by rw[hl];rfl))).elim
 refine⟨⟨?_,fun p hp=>?_⟩,?_⟩
 .have:=(ptI_perm (v:=(lkI s.1 v).getD 0+1) hn).map (·.1)
  refine this.nodup_iff.2 (List.nodup_cons.2 ⟨fun hm=>?_,h.nd⟩)
  obtain⟨p,hp,e⟩:=List.mem_map.1 hm
  exact lkI_none.1 hn p.2 (by rw[show(headE E d,p.2)=p from Prod.ext e.symm rfl];exact hp)
 .rcases mem_ptI.1 hp with rfl|⟨hp,_⟩
  .exact hd
  exact h.sub p hp
 show(ptI s.1 _ _).length+s.2.length=s.1.length+(s.2++[headE E d]).length
 rw[ptI_new_len hn,List.length_append];simp;omega
theorem nor_ {a:Bool}{p:Prop}(h:a=false/\¬p):¬(a=true\/p):=fun q=>q.elim (fun z=>by rw[h.1] at z;cases z) h.2
theorem cons_of {l:List Int}(h:¬l=[]):l=l.getD 0 0::l.drop 1:=by
 cases l with
 |nil=>exact(h rfl).elim
 |cons x l=>rfl
theorem headE_in {n:Int}{E:List (Int×Int)}(hr:rightE n E=0){d:Int}(h0:0<=d)(h1:d/2<(E.length:Int)):0<=headE E d/\headE E d<1024/\headE E d∈E.flatMap fun e=>[e.1,e.2]:=by
 have hn:=(rightE_0 hr).2.1
 obtain⟨a,b,c,e⟩:=ends_in hr (e:=d/2) (by omega) h1
 have hm:E.getD (d/2).toNat (0,0)∈E:=by
  rw[List.getD_eq_getElem?_getD,List.getElem?_eq_getElem (show(d/2).toNat<E.length by omega)]
  exact List.getElem_mem _
 unfold headE eA eB
 split
 .exact⟨c,by omega,List.mem_flatMap.2 ⟨_,hm,by simp⟩⟩
 exact⟨a,by omega,List.mem_flatMap.2 ⟨_,hm,by simp⟩⟩
def DOk (E:List (Int×Int))(M:List (Int×List Int)):Prop:=∀v,∀d∈(lkI M v).getD [],0<=d/\d/2<(E.length:Int)
def univ (E:List (Int×Int))(a:Int):List Int:=a::E.flatMap fun e=>[e.1,e.2]
theorem univ_len (E:List (Int×Int))(a:Int):(univ E a).length=2*E.length+1:=by
 have:∀E:List (Int×Int),(E.flatMap fun e=>[e.1,e.2]).length=2*E.length:=fun E=>by
  induction E with
  |nil=>rfl
  |cons e E ih=>rw[List.flatMap_cons,List.length_append,ih];simp;omega
 show(E.flatMap fun e=>[e.1,e.2]).length+1=_
 rw[this]
theorem univ_bd {n:Int}{E:List (Int×Int)}(hr:rightE n E=0){a:Int}(h0:0<=a)(h1:a<1024):∀x∈univ E a,0<=x/\x<1024:=fun x hx=>by
 have hn:=(rightE_0 hr).2.1
 rcases List.mem_cons.1 hx with rfl|hx
 .exact⟨h0,h1⟩
 obtain⟨e,he,hx⟩:=List.mem_flatMap.1 hx
 obtain⟨j,hj,rfl⟩:=List.getElem_of_mem he
 have:=(rightE_0 hr).2.2.2 j hj
 rw[List.getD_eq_getElem?_getD,List.getElem?_eq_getElem hj] at this
 obtain⟨p,q,r,t⟩:=this
 simp only[Option.getD_some] at p q r t
 rcases List.mem_cons.1 hx with rfl|hx
 .exact⟨p,by omega⟩
 rw[List.mem_singleton.1 hx];exact⟨r,by omega⟩
structure Mid (E:List (Int×Int))(a:Int)(v:Int)(k:Nat)(m:List (Int×Int))(q:List Int):Prop where
 s:Srch (univ E a) (m,q)
 vU:v∈univ E a
 qU:∀x∈q,x∈univ E a
 n:m.length=k+1+q.length
 b:∀p∈m,0<=p.2/\p.2<=(k:Int)+1
 vM:(lkI m v).isSome=true
 qM:∀x∈q,(lkI m x).isSome=true
 c:0<=(lkI m v).getD 0/\(lkI m v).getD 0<=(k:Int)
structure RInv (E:List (Int×Int))(M:List (Int×List Int))(a shut v:Int)(ok:Bool)(q:List Int)(m:List (Int×Int))(k:Nat):Prop where
 go:ok=true->Mid E a v k m q/\(∀p∈m,p.2<=(k:Int))/\reachF E M a shut=runR E M shut (2*E.length+2-k) v (m,q)
 done:ok=false->m=reachF E M a shut
 kB:k<=2*E.length+1
theorem lkI_getD_mem {m:List (Int×Int)}{P:Int->Prop}(h0:P 0)(h:∀p∈m,P p.2)(v:Int):P ((lkI m v).getD 0):=by
 cases hl:lkI m v with
 |none=>exact h0
 |some z=>exact h _ (lkI_mem hl)
theorem lkI_one {α:Type}(a:Int)(y:α):lkI [(a,y)] a=some y:=by
 cases h:lkI [(a,y)] a with
 |none=>exact(lkI_none.1 h y List.mem_cons_self).elim
 |some z=>have:=List.mem_singleton.1 (lkI_mem h);cases this;rfl
theorem RInv.init (E:List (Int×Int))(M:List (Int×List Int))(a shut:Int):RInv E M a shut a true [] [(a,0)] 0:=by
 refine⟨fun _=>⟨⟨⟨by simp,fun p hp=>?_⟩,List.mem_cons_self,fun x hx=>(by cases hx),rfl,fun p hp=>?_,by rw[lkI_one];rfl,fun x hx=>(by cases hx),lkI_getD_mem (P:=fun y=>0<=y/\y<=((0:Nat):Int)) ⟨by omega,by omega⟩ (fun p hp=>by rw[List.mem_singleton.1 hp];exact⟨by simp,by simp⟩) a⟩,fun p hp=>?_,rfl⟩,(fun q=>by cases q),by omega⟩
 .rw[List.mem_singleton.1 hp];exact List.mem_cons_self
 .rw[List.mem_singleton.1 hp];exact⟨by simp,by simp⟩
 rw[List.mem_singleton.1 hp];simp
theorem Mid.bd {E:List (Int×Int)}{a v:Int}{k:Nat}{m:List (Int×Int)}{q:List Int}(h:Mid E a v k m q):m.length<=2*E.length+1/\k<=2*E.length:=by
 have h1:=h.s.len
 rw[univ_len] at h1
 have h2:=h.n
 simp only at h1
 exact⟨h1,by omega⟩
theorem Mid.dart {E:List (Int×Int)}{a v shut d:Int}{k:Nat}{m:List (Int×Int)}{q:List Int}(h:Mid E a v k m q)(hd:headE E d∈univ E a)(hn:¬((lkI m (headE E d)).isSome=true\/headE E d=shut)):
  Mid E a v k (ptI m (headE E d) ((lkI m v).getD 0+1)) (q++[headE E d]):=by
 have hv:=h.vM
 have e:rdart E v shut (m,q) d=(ptI m (headE E d) ((lkI m v).getD 0+1),q++[headE E d]):=by unfold rdart;rw[if_neg hn]
 obtain⟨k1,k2⟩:=rdart_srch (v:=v) (shut:=shut) h.s hd
 rw[e] at k1 k2
 have hne:¬headE E d=v:=fun z=>hn (.inl (by rw[z];exact hv))
 refine⟨k1,h.vU,fun x hx=>?_,?_,fun p hp=>?_,?_,fun x hx=>?_,?_⟩
 .rcases List.mem_append.1 hx with hx|hx
  .exact h.qU x hx
  rw[List.mem_singleton.1 hx];exact hd
 .have:=h.n
  simp only at k2
  omega
 .have hc:=h.c
  rcases mem_ptI.1 hp with rfl|⟨hp,_⟩
  .exact⟨by show 0<=(lkI m v).getD 0+1;omega,by show(lkI m v).getD 0+1<=(k:Int)+1;omega⟩
  exact h.b p hp
 .rw[lkI_pt,if_neg hne];exact hv
 .rw[lkI_pt]
  split
  .rfl
  rename_i z
  rcases List.mem_append.1 hx with hx|hx
  .exact h.qM x hx
  rw[List.mem_singleton.1 hx] at z;exact(z rfl).elim
 rw[lkI_pt,if_neg hne];exact h.c
theorem foldl_snoc {α:Type}(f:α->Int->α){l:List Int}{i:Int}(s:α)(h0:0<=i)(h:i<(l.length:Int)):(l.take (i+1).toNat).foldl f s=f ((l.take i.toNat).foldl f s) (l.getD i.toNat 0):=by
 rw[show(i+1).toNat=i.toNat+1 by omega,List.take_succ_eq_append_getElem (by omega),List.foldl_append,List.getD_eq_getElem?_getD,List.getElem?_eq_getElem (show i.toNat<l.length by omega)]
 rfl
theorem RInv.step {E:List (Int×Int)}{M:List (Int×List Int)}{a shut v:Int}{ok:Bool}{q q' q2:List Int}{m m':List (Int×Int)}{k:Nat}(h:RInv E M a shut v ok q m k)(hok:ok=true)(he:rdarts E M v shut (m,q)=(m',q'))(hm:Mid E a v k m' q'):
  (q'=[]->RInv E M a shut 0 false q2 m' (k+1))/\(∀x t,q'=x::t->RInv E M a shut x true t m' (k+1)):=by
 obtain⟨h1,h2,h3⟩:=h.go hok
 obtain⟨b1,b2⟩:=hm.bd
 have hf:2*E.length+2-k=(2*E.length+2-(k+1))+1:=by omega
 have hrun:reachF E M a shut=(match(m',q').2 with
  |[]=>(m',q').1
  |x::t=>runR E M shut (2*E.length+2-(k+1)) x ((m',q').1,t)):=by
  rw[h3,hf,<-he];rfl
 refine⟨fun z=>?_,fun x t z=>?_⟩
 .subst z
  exact⟨fun w=>(by cases w),fun _=>hrun.symm,by omega⟩
 subst z
 refine⟨fun _=>⟨⟨⟨hm.s.nd,hm.s.sub⟩,hm.qU x List.mem_cons_self,fun y hy=>hm.qU y (List.mem_cons_of_mem _ hy),?_,fun p hp=>?_,?_,?_,?_⟩,fun p hp=>?_,hrun⟩,fun w=>(by cases w),by omega⟩
 .have:=hm.n;rw[List.length_cons] at this;omega
 .have:=hm.b p hp;exact⟨this.1,by omega⟩
 .exact hm.qM x List.mem_cons_self
 .exact fun y hy=>hm.qM y (List.mem_cons_of_mem _ hy)
 .exact lkI_getD_mem (P:=fun y=>0<=y/\y<=((k+1:Nat):Int)) ⟨by omega,by omega⟩ (fun p hp=>by have:=hm.b p hp;exact⟨this.1,by omega⟩) x
 have:=hm.b p hp;omega
end Go.Proofs.YtnfdimfepbbbpaaGreatDoor
