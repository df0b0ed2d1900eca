/-
  Texts joined by program: AgQ, VTC8, VZ3, VTC3, VTC1, VTC2, VTC4, WkM2, VTC5, VTC6, VTC7, VTC9.
-/
import Derived.Test.YtnfdimfepbbbpaaGreatJAuditAgrees7
import Derived.Test.YtnfdimfepbbbpaaGreatProg
import Derived.Tactics
import Derived.Tactics2
set_option linter.unusedSimpArgs false
set_option linter.unusedVariables false
set_option maxRecDepth 100000
set_option maxHeartbeats 8000000
namespace Go.Proofs.YtnfdimfepbbbpaaGreat
open Go.RowKit
open Go.Proofs.YtnfdimfepbbbpaaGreat.Deep
section
variable {n:Int}{E:List (Int×Int)}{V L Q H:List Int}{T S U R:List (List Int)}
theorem Xj (h:jw n E V H T S=0):(decide (fN n E V H T S U R=0)==vu n E (aR n E).1 (aR n E).2 U R V H T S)=true:=by
 have h2:fN n E V H T S U R=0↔vu n E (aR n E).1 (aR n E).2 U R V H T S=true:=FN.trans ⟨fun q=>q.2,fun q=>⟨h,q⟩⟩
 cases he:vu n E (aR n E).1 (aR n E).2 U R V H T S with
 |true=>rw[decide_eq_true (h2.2 he)];rfl
 |false=>rw[decide_eq_false fun q=>by rw[h2.1 q] at he;cases he];rfl
theorem aar (h:¬jw n E V H T S=0):(decide (fN n E V H T S U R=0)==false)=true:=by
 rw[decide_eq_false fun q=>h (FN.1 q).1];rfl
theorem toX_sz (h:(toX n E V L T S Q H).2=0)(hT:az T):az (toX n E V L T S Q H).1.1/\az (toX n E V L T S Q H).1.2:=by
 unfold toX at h ⊢
 split at h
 .rename_i q;exact absurd h q
 rename_i q
 rw[if_neg q]
 split at h
 .cases h
 rename_i q2
 rw[if_neg q2]
 refine⟨toT_sz hT,?_⟩
 have hx:aM n E V L T S=0:=Classical.not_not.1 q
 have hp:aS n E Q H=0:=Classical.byContradiction fun z=>q2 (.inl z)
 have hw:ja Q V/\ja H L:=Classical.byContradiction fun z=>q2 (.inr z)
 have hq:=B5.of hx hp hw
 obtain⟨_,_,hW⟩:=aU hq.w0
 obtain⟨hr,hV,hL,_⟩:=aJ hp
 obtain⟨r1,r2,r3,_⟩:=bz hr
 have h1:=aO hV r1
 have h2:=aO hL (by omega)
 have h3:=hW.len
 have LS:(aa n E Q H (toT H T)).1.length<=10000:=by omega
 show az (toG _ (aa n E Q H (toT H T)).1)
 generalize (aa n E Q H (toT H T)).1=W at*
 refine⟨?_,fun l hl=>?_⟩
 .unfold toG
  rw[List.length_map]
  exact Nat.le_trans (List.length_filter_le _ _) LS
 unfold toG at hl
 obtain⟨w,_,rfl⟩:=List.mem_map.1 hl
 unfold jo
 rw[List.length_map]
 exact Nat.le_trans (List.length_filter_le _ _) LS
end
def FO (x:List Int):List (List Int)->List (List Int)
 |[]=>[x]
 |y::l=>if x.getD 0 0<y.getD 0 0 then x::y::l else y::FO x l
def QE:List (List Int)->List (List Int)
 |[]=>[]
 |x::l=>FO x (QE l)
theorem zH {x y:List Int}:∀ {l:List (List Int)},y∈FO x l↔y=x\/y∈l
 |[]=>by unfold FO;simp
 |z::l=>by
  unfold FO
  split
  .simp
  rw[List.mem_cons,zH,List.mem_cons]
  exact⟨fun q=>q.elim (fun q=>.inr (.inl q)) fun q=>q.elim .inl fun q=>.inr (.inr q),fun q=>q.elim (fun q=>.inr (.inl q)) fun q=>q.elim .inl fun q=>.inr (.inr q)⟩
theorem zI {y:List Int}:∀ {l:List (List Int)},y∈QE l↔y∈l
 |[]=>Iff.rfl
 |x::l=>by unfold QE;rw[zH,zI,List.mem_cons]
theorem FP {x:List Int}:∀ {l:List (List Int)},l.Pairwise (fun a b=>a.getD 0 0<b.getD 0 0)->(∀y∈l,y.getD 0 0≠x.getD 0 0)->(FO x l).Pairwise fun a b=>a.getD 0 0<b.getD 0 0
 |[],_,_=>by unfold FO;simp
 |z::l,h,hn=>by
  obtain⟨h1,h2⟩:=List.pairwise_cons.1 h
  unfold FO
  split
  .rename_i q
   refine List.pairwise_cons.2 ⟨fun y hy=>?_,h⟩
   rcases List.mem_cons.1 hy with e|hy
   .rw[e];exact q
   have:=h1 y hy;omega
  rename_i q
  refine List.pairwise_cons.2 ⟨fun y hy=>?_,FP h2 fun y hy=>hn y (List.mem_cons_of_mem _ hy)⟩
  rcases zH.1 hy with e|hy
  .have:=hn z List.mem_cons_self
   rw[e];omega
  exact h1 y hy
theorem FQ:∀ {l:List (List Int)},(l.map fun x=>x.getD 0 0).Nodup->(QE l).Pairwise fun a b=>a.getD 0 0<b.getD 0 0
 |[],_=>List.Pairwise.nil
 |x::l,h=>by
  rw[List.map_cons] at h
  obtain⟨n1,n2⟩:=List.nodup_cons.1 h
  exact FP (FQ n2) fun y hy e=>n1 (List.mem_map.2 ⟨y,zI.1 hy,e⟩)
section
variable (n:Int)(E:List (Int×Int))(V L:List Int)(T S U R:List (List Int))(ds:List Int)
def TQ:List (List Int):=if aM n E V L T S≠0 then[] else QE (Ak (aa n E V L T).1 S)
theorem aas:aV n E V L T S=TQ n E V L T S:=by
 unfold TQ
 by_cases h:aM n E V L T S=0
 .rw[if_neg (fun q=>q h),jN h]
  have hh:=rI h
  exact uj (f:=fun x:List Int=>x.getD 0 0) (JX hh) (FQ hh.2) fun x=>by rw[rJ,zI]
 rw[if_pos h,E9 h]
def FR:List (Int×Int):=if aM n E V L T S=0 then xm (dG (TQ n E V L T S) (TQ n E V L T S).length) (aa n E V L T).1 (aa n E V L T).1.length else[]
theorem Xk:aq n E V L T S=FR n E V L T S:=by
 unfold FR
 by_cases h:aM n E V L T S=0
 .rw[if_pos h,nJ h,aas]
 rw[if_neg h,nK h]
def Ya:List (Int×Int):=if ue n E V L T S ds=true then Q2 E ds (Jm T (if mu n E V L ds=true/\aM n E V L T S=0 then(FR n E V L T S).map fun q=>(q.1,Jh (dF (FR n E V L T S) L ds) ((af (FR n E V L T S) (ds.getD 0 0)).getD 0) q.2) else[]) V V.length) ds.length else[]
theorem abG:sS n E V L T S ds=Ya n E V L T S ds:=by
 unfold sS Ya
 rw[<-Xk]
 by_cases h:mu n E V L ds=true/\aM n E V L T S=0
 .rw[if_pos (c:=mu n E V L ds=true/\_) h,vn h.1 h.2]
 rw[if_neg (c:=mu n E V L ds=true/\_) h,sR h]
theorem abH (h:cC n E V L T S U R=0)(h2:(ec n E V L T S U R).2=false):(gb n E V L T S U R).2.2=((List.range (aT n E V L T S).length).find? fun i=>(XT (Ya n E V L T S ((aT n E V L T S).getD i [])) (Ya n E (aR n E).1 (aR n E).2 U R ((aT n E V L T S).getD i []))).2).isSome:=by
 unfold gb Jv
 rw[if_neg (by rw[h,h2];rintro(q|q);exact q rfl;cases q)]
 simp only[abG]
 split
 .rename_i i hi;rw[hi];rfl
 rename_i hi;rw[hi];rfl
end
abbrev Aq:List (Int×Int):=[(0,1),(1,2),(2,0)]
abbrev QF:List (List Int):=[[0,5],[1,2],[3,4],[]]
theorem U3 {U R:List (List Int)}(h:cC 4 Aq (upto 4) (upto (Aq.length:Int)) QF [[-4,0]] U R=0)(h2:(ec 4 Aq (upto 4) (upto (Aq.length:Int)) QF [[-4,0]] U R).2=false)(b:Bool)
  (h3:((List.range (aT 4 Aq (upto 4) (upto (Aq.length:Int)) QF [[-4,0]]).length).find? fun i=>(XT (Ya 4 Aq (upto 4) (upto (Aq.length:Int)) QF [[-4,0]] ((aT 4 Aq (upto 4) (upto (Aq.length:Int)) QF [[-4,0]]).getD i [])) (Ya 4 Aq (aR 4 Aq).1 (aR 4 Aq).2 U R ((aT 4 Aq (upto 4) (upto (Aq.length:Int)) QF [[-4,0]]).getD i []))).2).isSome=b):fN 4 Aq (upto 4) (upto (Aq.length:Int)) QF [[-4,0]] U R=if b=true then 7 else 0:=by
 unfold fN
 rw[if_neg (by rw[h];exact fun q=>q rfl),if_neg (by rw[h2];decide),abH _ _ _ _ _ _ _ _ h h2,h3]
theorem aat:fN 4 Aq (upto 4) (upto (Aq.length:Int)) QF [[-4,0]] QF [[-4,0]]=0:=U3 (by decide+kernel) (by decide+kernel) false (by decide+kernel)
theorem aau:fN 4 Aq (upto 4) (upto (Aq.length:Int)) QF [[-4,0]] QF [[-4,1]]=7:=U3 (by decide+kernel) (by decide+kernel) true (by decide+kernel)
theorem TR:bG Tryz.prog 5 [] [.bool] (fun _=>True) (fun x=>(true,())):=by
 refine bn Tryz.f5 37 [JE,OV] Tryz.func5 fun o x hd _ _ h=>?_
 have hn:cF 4:=by decide
 refine go (pr:=(cF (4:Int)/\(4:Int)<=1000000/\([((0:Int),(1:Int)),((1:Int),(2:Int)),((2:Int),(0:Int))]:List (Int×Int)).length<=1000000)/\(cF 4/\aC ([([(0:Int),(5:Int)]:List Int),([(1:Int),(2:Int)]:List Int),([(3:Int),(4:Int)]:List Int),[]]:List (List Int))/\az ([([(0:Int),(5:Int)]:List Int),([(1:Int),(2:Int)]:List Int),([(3:Int),(4:Int)]:List Int),[]]:List (List Int))/\aC ([([(-4:Int),(0:Int)]:List Int)]:List (List Int))/\az ([([(-4:Int),(0:Int)]:List Int)]:List (List Int))/\aC ([([(0:Int),(5:Int)]:List Int),([(1:Int),(2:Int)]:List Int),([(3:Int),(4:Int)]:List Int),[]]:List (List Int))/\az ([([(0:Int),(5:Int)]:List Int),([(1:Int),(2:Int)]:List Int),([(3:Int),(4:Int)]:List Int),[]]:List (List Int))/\aC ([([(-4:Int),(0:Int)]:List Int)]:List (List Int))/\az ([([(-4:Int),(0:Int)]:List Int)]:List (List Int)))/\((fN (4:Int) ([((0:Int),(1:Int)),((1:Int),(2:Int)),((2:Int),(0:Int))]:List (Int×Int)) (upto (4:Int)) (upto (([((0:Int),(1:Int)),((1:Int),(2:Int)),((2:Int),(0:Int))]:List (Int×Int)).length:Int)) ([([(0:Int),(5:Int)]:List Int),([(1:Int),(2:Int)]:List Int),([(3:Int),(4:Int)]:List Int),[]]:List (List Int)) ([([(-4:Int),(0:Int)]:List Int)]:List (List Int)) ([([(0:Int),(5:Int)]:List Int),([(1:Int),(2:Int)]:List Int),([(3:Int),(4:Int)]:List Int),[]]:List (List Int)) ([([(-4:Int),(0:Int)]:List Int)]:List (List Int))=0)->(cF 4/\aC ([([(0:Int),(5:Int)]:List Int),([(1:Int),(2:Int)]:List Int),([(3:Int),(4:Int)]:List Int),[]]:List (List Int))/\az ([([(0:Int),(5:Int)]:List Int),([(1:Int),(2:Int)]:List Int),([(3:Int),(4:Int)]:List Int),[]]:List (List Int))/\aC ([([(-4:Int),(0:Int)]:List Int)]:List (List Int))/\az ([([(-4:Int),(0:Int)]:List Int)]:List (List Int))/\aC ([([(0:Int),(5:Int)]:List Int),([(1:Int),(2:Int)]:List Int),([(3:Int),(4:Int)]:List Int),[]]:List (List Int))/\az ([([(0:Int),(5:Int)]:List Int),([(1:Int),(2:Int)]:List Int),([(3:Int),(4:Int)]:List Int),[]]:List (List Int))/\aC ([([(-4:Int),(1:Int)]:List Int)]:List (List Int))/\az ([([(-4:Int),(1:Int)]:List Int)]:List (List Int))))) [] h ⟨⟨hn,by decide,by decide⟩,by unfold aC az;decide,fun _=>by unfold aC az;decide⟩ fun _ _ h=>?_
 exact out (((decide (fN (4:Int) ([((0:Int),(1:Int)),((1:Int),(2:Int)),((2:Int),(0:Int))]:List (Int×Int)) (upto (4:Int)) (upto (([((0:Int),(1:Int)),((1:Int),(2:Int)),((2:Int),(0:Int))]:List (Int×Int)).length:Int)) ([([(0:Int),(5:Int)]:List Int),([(1:Int),(2:Int)]:List Int),([(3:Int),(4:Int)]:List Int),[]]:List (List Int)) ([([(-4:Int),(0:Int)]:List Int)]:List (List Int)) ([([(0:Int),(5:Int)]:List Int),([(1:Int),(2:Int)]:List Int),([(3:Int),(4:Int)]:List Int),[]]:List (List Int)) ([([(-4:Int),(0:Int)]:List Int)]:List (List Int))=0)) && (decide (fN (4:Int) ([((0:Int),(1:Int)),((1:Int),(2:Int)),((2:Int),(0:Int))]:List (Int×Int)) (upto (4:Int)) (upto (([((0:Int),(1:Int)),((1:Int),(2:Int)),((2:Int),(0:Int))]:List (Int×Int)).length:Int)) ([([(0:Int),(5:Int)]:List Int),([(1:Int),(2:Int)]:List Int),([(3:Int),(4:Int)]:List Int),[]]:List (List Int)) ([([(-4:Int),(0:Int)]:List Int)]:List (List Int)) ([([(0:Int),(5:Int)]:List Int),([(1:Int),(2:Int)]:List Int),([(3:Int),(4:Int)]:List Int),[]]:List (List Int)) ([([(-4:Int),(1:Int)]:List Int)]:List (List Int))=7)):Bool),()) h (congrArg (·,()) ((Bool.and_eq_true _ _).mpr ⟨decide_eq_true aat,decide_eq_true aau⟩))
def TS:dy Tryz.prog:=plain TR
def J1 (q:Nat):List (Nat×Option R2)->Option (Option R2)
 |[]=>none
 |p::l=>match Nat.beq p.1 q with
  |true=>some p.2
  |false=>J1 q l
def J2 (q:Nat)(l:List (Nat×Option R2)):List (Nat×Option R2):=l.filter fun p=>!Nat.beq p.1 q
def QG (b:Nat):List Nat->Out->Tr Out
 |[],out=>.ret out
 |q::qs,out=>.res q fun z=>match J1 q out.re,Nat.blt q b with
  |some (some z'),true=>QG b qs ⟨out.cs++[z'=z],out.hs,out.sy,J2 q out.re⟩
  |_,_=>.fail
def aav:Sc->List Nat
 | .mp q=>[q]
 | .own q=>[q]
 |_=>[]
def QH (tr:Nat->List (Nat×Nat)->List Sy->Tr Out)(ks:List Nat)(b:Nat)(cr:List (Nat×Nat))(ys:List Sy):Tr Out:=match ys with
 | .one (.ptr j 0)::_=>.res j fun z=>match z with
  | .box _ cs=>(tr b cr ys).bind (QG b (j::ks.flatMap fun k=>match cs[k]? with|some c=>aav c|none=>[]))
  |_=>.fail
 |_=>.fail
section
variable {P:Program}{o:bC}{n:Nat}{A A':bF}{S S':aL}{F G:Nat->Prop}{s:Nat->Option E2}{r:Nat->Option R2}{a:Act}{w w':World}
theorem B6 {q:Nat}{x:Option R2}:∀ {l:List (Nat×Option R2)},J1 q l=some x->aQ r l q=x/\∃x,(q,x)∈l
 |[],h=>by cases h
 |p::l,h=>by
  unfold J1 at h
  show jg (aQ r l) p.1 p.2 q=x/\_
  split at h
  .rename_i e
   have:=b6 e
   subst this
   cases h
   exact⟨cB _ _ _,_,List.mem_cons_self⟩
  rename_i e
  obtain⟨h1,y,h2⟩:=B6 h
  exact⟨by rw[cS (MJ e)];exact h1,y,List.mem_cons_of_mem _ h2⟩
theorem B7 {q:Nat}:∀(l:List (Nat×Option R2)) (j:Nat),aQ r (J2 q l) j=if j=q then r q else aQ r l j
 |[],j=>by
  show r j=_
  split
  .rename_i e;rw[e]
  rfl
 |p::l,j=>by
  have ih:=B7 (q:=q) l
  unfold J2 at ih ⊢
  rw[List.filter_cons]
  show _=if j=q then r q else jg (aQ r l) p.1 p.2 j
  by_cases e:p.1=q
  .have:Nat.beq p.1 q=true:=by rw[e];exact Nat.beq_refl _
   rw[this]
   show aQ r (l.filter _) j=_
   rw[ih]
   by_cases z:j=q
   .rw[if_pos z,if_pos z]
   rw[if_neg z,if_neg z,cS (by omega)]
  have:Nat.beq p.1 q=false:=by
   cases hb:Nat.beq p.1 q with
   |false=>rfl
   |true=>exact absurd (b6 hb) e
  rw[this]
  show jg (aQ r (l.filter _)) p.1 p.2 j=_
  by_cases z:p.1=j
  .rw[<-z,cB,if_neg e,cB]
  rw[cS z,ih]
  by_cases y:j=q
  .rw[if_pos y,if_pos y]
  rw[if_neg y,if_neg y,cS z]
theorem FT (H:cv o n A S F s r a w){b B:Nat}(hF:∀j,b<=j->j<B->¬F j):∀ {qs:List Nat} {uA out:Out},(QG b qs uA).run s r=some out->(∀p∈out.cs,p)->(∀p∈out.re,p.1<B\/p.1<b)->
  (∀p∈uA.cs,p)/\uA.hs=out.hs/\(∀p∈uA.re,p.1<B\/p.1<b)/\uA.sy=out.sy/\aQ r uA.re=aQ r out.re/\∀j,FU F uA.re j↔FU F out.re j
 |[],uA,out,h,hc,hB=>by
  have:=aW h
  subst this
  exact⟨hc,rfl,hB,rfl,rfl,fun _=>Iff.rfl⟩
 |q::qs,uA,out,h,hc,hB=>by
  obtain⟨z,hz,h⟩:=aY h
  split at h
  .rename_i z' hl hb
   obtain⟨h1,h2,h3,h4,h5,h6⟩:=FT H hF h hc hB
   have e:z'=z:=h1 _ (List.mem_append_right _ (List.mem_singleton.2 rfl))
   obtain⟨k1,x,k2⟩:=B6 (r:=r) hl
   have MF:F q:=(H.dB q z hz).1
   have iL:q<b:=by simpa[Nat.blt_eq] using hb
   refine⟨fun p hp=>h1 p (List.mem_append_left _ hp),h2,fun p hp=>?_,h4,?_,fun j=>?_⟩
   .by_cases y:p.1=q
    .exact .inr (by omega)
    refine h3 p (List.mem_filter.2 ⟨hp,?_⟩)
    cases hb:Nat.beq p.1 q with
    |false=>rfl
    |true=>exact absurd (b6 hb) y
   .rw[<-h5]
    funext j
    show aQ r uA.re j=aQ r (J2 q uA.re) j
    rw[B7]
    split
    .rename_i y;rw[y,k1,e,hz]
    rfl
   rw[<-h6]
   constructor
   .rintro(y|⟨x,y⟩)
    .exact .inl y
    by_cases z:j=q
    .exact .inl (z▸MF)
    refine .inr ⟨x,List.mem_filter.2 ⟨y,?_⟩⟩
    cases hb:Nat.beq j q with
    |false=>rfl
    |true=>exact absurd (b6 hb) z
   rintro(y|⟨x,y⟩)
   .exact .inl y
   exact .inr ⟨x,(List.mem_filter.1 y).1⟩
  cases h
theorem TU {f:FuncId}{tr:Nat->List (Nat×Nat)->List Sy->Tr Out}(ok:x4 P f tr)(ks:List Nat):x4 P f (QH tr ks):=by
 intro o n A S F s r a w b B cr ys out H hF Uh AK h cE mN hB
 unfold QH at h
 split at h
 .rename_i j ys'
  obtain⟨z,hz,h⟩:=aY h
  split at h
  .obtain⟨uA,h0,h1⟩:=Tr.p6 h
   obtain⟨k1,k2,k3,k4,k5,k6⟩:=FT H hF h1 cE fun p hp=>.inl (hB p hp)
   refine(ok o n A S F s r a w b (max B b) cr _ uA H (fun j h1 h2=>hF j h1 (by omega)) Uh AK h0 k1 (by rw[k2];exact mN) fun p hp=>by have:=k3 p hp;omega).mono ?_
   rintro e w' ⟨v,he,A',S',g1,g2,g3,g4⟩
   have VO:FU F uA.re=FU F out.re:=funext fun j=>propext (k6 j)
   rw[VO,k5] at g1
   rw[k4] at g2 g3 g4
   rw[VO] at g3
   exact⟨v,he,A',S',g1,g2,g3,g4⟩
  cases h
 cases h
def thin (c:dy P)(ks:List Nat):dy P:=⟨c.f,QH c.tr ks,TU c.ok ks⟩
end
abbrev FV:rD:=⟨[.box 138 [.mp 1,.own 2,.own 3,.int],.map .int .int,.row 3 .int,.row 3 .int],[.ptr 0 0,.int],[.box 138 [.mp 1,.own 2,.own 3,.int],.map .int .int,.row 3 .int,.row 3 .int],[.int],4⟩
theorem TV:eO Tryz.prog 107 FV (fun x=>fW (J_ x.1.2.2.2.1)/\0<=(I_ x.2.2.1)/\(I_ x.2.2.1)<((J_ x.1.2.2.2.1).length:Int)/\(J_ x.1.2.2.2.1).length<=1000000) (fun x=>((((),(),(),(I_ x.1.1.2.2.2.1),()),(show bh .int Int from x.1.2.1),(J_ x.1.2.2.1),gu (J_ x.1.2.2.2.1) (I_ x.2.2.1),()),(iq (J_ x.1.2.2.2.1) (I_ x.2.2.1),()))):=by
 refine fo Tryz.f107 41 [] FV Tryz.func107 fun o A x hd _ _ h=>?_
 obtain⟨⟨⟨_,_,_,(g:Int),_⟩,(M:bh .int Int),(L:List Int),(U:List Int),_⟩,⟨_,(i:Int),_⟩⟩:=x
 have gH:=dh h 2 L
 have lT:=dh h 3 U
 change fW U/\0<=i/\i<(U.length:Int)/\U.length<=1000000 at hd
 obtain⟨hU,i0,i1,hUl⟩:=hd
 refine aZ [] h fun _ _ h=>?_
 refine jk Int (List Int) Nat (fun k c f=>⟨[(0,ep 0),(1,en k)],[(0,some (.box 138 [.mp 1,.own 2,.own 3,.v (.int .i64 g)])),(1,some (.map .int .int M)),(2,some (.row 3 .int L)),(3,some (.row 3 .int c))],4⟩) (fun k c f=>0<=k/\k<(c.length:Int)/\fW c/\c.length=U.length/\k.toNat<f/\CY f c k=CY (i.toNat+1) U i) (fun k c f=>f) i U (i.toNat+1) (ir 4) h ⟨i0,i1,hU,rfl,Nat.lt_succ_self _,rfl⟩ fun k c f _ _ _ eH hI h=>?_
 obtain⟨k0,k1,k2,k3,k4,k5⟩:=hI
 refine go (pr:=(bX k c.length)) [] h bx fun _ _ h=>?_
 refine av h (fun(q1:¬((c.getD k.toNat 0)=k))=>?_) (fun(q1:(c.getD k.toNat 0)=k)=>?_)
 .have hy:=dX k2 k0 (show k<(c.length:Int) by omega)
  have hz:=dX k2 hy.1 (show c.getD k.toNat 0<(c.length:Int) by omega)
  have KG:(c.set k.toNat (c.getD (c.getD k.toNat 0).toNat 0)).length=c.length:=List.length_set ..
  have hn:(c.set k.toNat (c.getD (c.getD k.toNat 0).toNat 0)).getD k.toNat 0=c.getD (c.getD k.toNat 0).toNat 0:=by rw[lK (by omega),if_pos rfl]
  refine go (pr:=(bX k c.length)/\(bX (c.getD k.toNat 0) c.length)/\(bX k c.length)/\(bX k c.length)/\(bX k (c.set k.toNat (c.getD (c.getD k.toNat 0).toNat 0)).length)) [] h ⟨bx,bx,bx,bx,bx⟩ fun _ _ h=>?_
  exact dR (eH ((c.set k.toNat (c.getD (c.getD k.toNat 0).toNat 0)).getD k.toNat 0) (c.set k.toNat (c.getD (c.getD k.toNat 0).toNat 0)) (f-1) (ir 4) h ⟨by rw[hn];exact hz.1,by rw[hn,KG];omega,(CX k2 k0 (by omega)).1,by omega,by rw[hn];omega,by rw[<-k5,hvS (by omega) q1]⟩ (by omega))
 refine aZ [] h fun _ _ h=>?_
 have he:CY (i.toNat+1) U i=(c,k):=by rw[<-k5];exact hvE (by omega) q1
 exact kJ ((((),(),(),g,()),M,L,c,()),(k,())) (ir 4) h (by simp only[gu,iq,he];rfl)
def TW:dy Tryz.prog:=oJ TV
abbrev J3:rD:=⟨[.box 138 [.mp 1,.own 2,.own 3,.int],.map .int .int,.row 3 .int,.row 3 .int],[.ptr 0 0,.int],[.box 138 [.mp 1,.own 2,.own 3,.int],.map .int .int,.row 3 .int,.row 3 .int],[.int,.bool],1⟩
theorem Xl:eO Tryz.prog 70 J3 (fun x=>(-9223372036854775808<=(I_ x.2.2.1)/\(I_ x.2.2.1)<=9223372036854775807)/\gT (show bh .int Int from x.1.2.1) (J_ x.1.2.2.1) (J_ x.1.2.2.2.1)/\(J_ x.1.2.2.1).length<=900000/\-900000<=(I_ x.1.1.2.2.2.1)/\(I_ x.1.1.2.2.2.1)<=900000/\(af (show bh .int Int from x.1.2.1) (I_ x.2.2.1)).isSome=true) (fun x=>((((),(),(),(I_ x.1.1.2.2.2.1),()),(show bh .int Int from x.1.2.1),(J_ x.1.2.2.1),gu (J_ x.1.2.2.2.1) ((af (show bh .int Int from x.1.2.1) (I_ x.2.2.1)).getD 0),()),((J_ x.1.2.2.1).getD (iq (J_ x.1.2.2.2.1) ((af (show bh .int Int from x.1.2.1) (I_ x.2.2.1)).getD 0)).toNat 0,true,()))):=by
 refine fo Tryz.f70 35 [(thin TW [0,1]),I8] J3 Tryz.func70 fun o A x hd _ _ h=>?_
 obtain⟨⟨⟨_,_,_,(g:Int),_⟩,(M:bh .int Int),(L:List Int),(U:List Int),_⟩,⟨_,(x:Int),_⟩⟩:=x
 have gH:=dh h 2 L
 have lT:=dh h 3 U
 change (-9223372036854775808<=x/\x<=9223372036854775807)/\gT M L U/\L.length<=900000/\-900000<=g/\g<=900000/\(af M x).isSome=true at hd
 obtain⟨⟨x0,x1⟩,hR,hL,g0,g1,hx⟩:=hd
 have w1:=hR.len
 obtain⟨i,hi⟩:=Option.isSome_iff_exists.1 hx
 have gi:((af M x).getD 0)=i:=by rw[hi];rfl
 obtain⟨a0,a1,_⟩:=hR.at_ _ _ hi
 obtain⟨c1,c2,c3,c4,c5,c6,c7,c8⟩:=OJ hR.ok (i:=((af M x).getD 0)) (j:=((af M x).getD 0)) (by omega) (by omega) (by omega) (by omega)
 refine go (pr:=(cA .int x)) [] h wk fun _ _ h=>?_
 refine av h (fun(q1:true=false)=>?_) (fun(q1:true=true)=>?_)
 .cases q1
 refine go (pr:=(cA .int x)) [] h wk fun _ _ h=>?_
 refine av h (fun(q2:((af M x).isSome)=false)=>?_) (fun(q2:((af M x).isSome)=true)=>?_)
 .first|cases q2|(rw[hx] at q2;cases q2)
 refine go (pr:=(fW U/\0<=((af M x).getD 0)/\((af M x).getD 0)<(U.length:Int)/\U.length<=1000000)/\((R2.box 138 [.mp 1,.own 2,.own 3,.v (.int .i64 g)])=R2.box 138 [.mp 1,.own 2,.own 3,.v (.int .i64 g)])/\((R2.map .int .int M)=R2.map .int .int M)/\((R2.row 3 .int L)=R2.row 3 .int L)/\(bX (iq U ((af M x).getD 0)) L.length)) [] h ⟨⟨hR.ok,by omega,by omega,by omega⟩,rfl,rfl,rfl,bx⟩ fun _ _ h=>?_
 exact kJ ((((),(),(),g,()),M,L,gu U ((af M x).getD 0),()),((L.getD (iq U ((af M x).getD 0)).toNat 0),true,())) (ir 4) h rfl
def Xm:dy Tryz.prog:=oJ Xl
theorem TX:bG Tryz.prog 66 [(false,nv),(false,kI),(false,(.pair (.list (.list .int)) (.list (.list .int))))] [(.map .int .int),.int] (fun x=>cF (I_ x.1.1)/\aC (K_ x.2.2.1.1)/\az (K_ x.2.2.1.1)/\aC (K_ x.2.2.1.2)/\az (K_ x.2.2.1.2)) (fun x=>(aq (I_ x.1.1) (E_ x.1.2) (J_ x.2.1.1) (J_ x.2.1.2) (K_ x.2.2.1.1) (K_ x.2.2.1.2),aM (I_ x.1.1) (E_ x.1.2) (J_ x.2.1.1) (J_ x.2.1.2) (K_ x.2.2.1.1) (K_ x.2.2.1.2),())):=by
 refine bn Tryz.f66 93 [BP,oN] Tryz.func66 fun o x hd _ _ h=>?_
 obtain⟨⟨(n:Int),(E:List (Int×Int))⟩,⟨(V:List Int),(L:List Int)⟩,⟨(T:List (List Int)),(S:List (List Int))⟩,_⟩:=x
 have jt:=mh h 0 E
 have gE:=dh h 1 V
 have gH:=dh h 2 L
 have lT:=gC h 3 T
 have Am:=gC h 4 S
 change cF n/\aC T/\az T/\aC S/\az S at hd
 obtain⟨hn,eS,dc,e6,dO⟩:=hd
 have nQ:=dO.1
 refine go (pr:=(cF n/\aC T/\az T/\aC S/\az S)) [] h (⟨hn,eS,dc,e6,dO⟩) fun _ _ h=>?_
 refine av h (fun(q1:¬(aM n E V L T S=0))=>?_) (fun(q1:aM n E V L T S=0)=>?_)
 .refine aZ [] h fun _ _ h=>?_
  exact out (([]:bh .int Int),(aM n E V L T S:Int),()) h (by rw[nK q1];rfl)
 have gz:=q1
 obtain⟨Dy,sx,hsx,_⟩:=aX gz
 have kf:=aK Dy
 obtain⟨gX,hT,hW⟩:=aU kf
 have hP:=iJ gX
 obtain⟨sj,hV,hL,_⟩:=aJ gX
 obtain⟨r1,r2,r3,_⟩:=bz sj
 have PA:=aO hV r1
 have Fi:=aO hL (by omega)
 have SZ:=hP.len
 have LS:=hW.len
 have UO:=mI (fun k=>(hP.bd k).1) (P:=(ay n E V L))
 have US:=fS kf
 have hRl:=C6 gz
 have hRm:∀l∈(aV n E V L T S),l.length<=10000:=fun l hl=>(rK gz hl).elim (fun q=>dO.2 l q) fun⟨w,hw,e⟩=>by rw[e];show 1<=10000;decide
 have hRk:=Je hRm
 have hRi:∀l∈(aV n E V L T S),∀x∈l,-9223372036854775808<=x/\x<=9223372036854775807:=fun l hl x hx=>(rK gz hl).elim (fun q=>e6 l q x hx) fun⟨w,hw,e⟩=>by rw[e] at hx;rw[List.mem_singleton.1 hx];have:=vY gX hW hw;omega
 have hWk:=qy (fun w hw=>(US w hw).2)
 refine aZ [] h fun _ _ h=>?_
 refine bq Int (List (Int×Int)) (fun i m=>⟨[(3,ep 0),(4,ep 1),(5,ep 2),(10,em 3),(33,eo 4),(34,en ((aV n E V L T S).length:Int)),(35,en i)],[(0,some (.box 24 [.v (.int .i64 n),.own 5])),(1,some (.box 27 [.own 6,.own 7])),(2,some (.box 30 [.own 8,.own 9])),(3,some (.map .int .int m)),(4,some (.ro (.list .int) (aV n E V L T S))),(5,some (.ar j8 E)),(6,some (.ar .int V)),(7,some (.ar .int L)),(8,some (.ar (.list .int) T)),(9,some (.ar (.list .int) S))],10⟩) (fun i m=>0<=i/\i<=((aV n E V L T S).length:Int)/\m=dG (aV n E V L T S) i.toNat) (fun i m=>(((aV n E V L T S).length:Int)-i).toNat) 0 [] (rk [5,4101,8197,65541,32773,0,1,2,3,4]) h ⟨Int.le_refl _,Int.natCast_nonneg _,rfl⟩ fun i m _ _ _ eH hI h=>?_
 obtain⟨i0,i1,i3⟩:=hI
 refine aZ [] h fun _ _ h=>?_
 refine av h (fun(q2:i<((aV n E V L T S).length:Int))=>?_) (fun(q2:¬(i<((aV n E V L T S).length:Int)))=>?_)
 .have hm:((aV n E V L T S).getD i.toNat [])∈(aV n E V L T S):=ag (by omega)
  have QZ:=hRm _ hm
  have wJ:=tZ hRk i.toNat
  rw[<-i3] at wJ
  have WK:i.toNat*10000<=1000000000:=Nat.mul_le_mul_right 10000 (show i.toNat<=100000 by omega)
  refine go (pr:=(bX i (aV n E V L T S).length)) [] h bx fun _ _ h=>?_
  refine bq Int (List (Int×Int)) (fun j mm=>⟨[(3,ep 0),(4,ep 1),(5,ep 2),(10,em 3),(11,en i),(33,eo 4),(34,en ((aV n E V L T S).length:Int)),(35,en i),(40,eo 5),(41,en (((aV n E V L T S).getD i.toNat []).length:Int)),(42,en j)],[(0,some (.box 24 [.v (.int .i64 n),.own 6])),(1,some (.box 27 [.own 7,.own 8])),(2,some (.box 30 [.own 9,.own 10])),(3,some (.map .int .int mm)),(4,some (.ro (.list .int) (aV n E V L T S))),(5,some (.ro .int ((aV n E V L T S).getD i.toNat []))),(6,some (.ar j8 E)),(7,some (.ar .int V)),(8,some (.ar .int L)),(9,some (.ar (.list .int) T)),(10,some (.ar (.list .int) S))],11⟩) (fun j mm=>0<=j/\j<=(((aV n E V L T S).getD i.toNat []).length:Int)/\mm=qo (dG (aV n E V L T S) i.toNat) ((aV n E V L T S).getD i.toNat []) i j.toNat) (fun j mm=>((((aV n E V L T S).getD i.toNat []).length:Int)-j).toNat) 0 m (rk [0,1,2,3,4,12298,5,6,7,8,9]) h ⟨Int.le_refl _,Int.natCast_nonneg _,i3⟩ fun j mm _ _ _ lS hI h=>?_
  obtain⟨j0,j1,j2⟩:=hI
  refine aZ [] h fun _ _ h=>?_
  refine av h (fun(q3:j<(((aV n E V L T S).getD i.toNat []).length:Int))=>?_) (fun(q3:¬(j<(((aV n E V L T S).getD i.toNat []).length:Int)))=>?_)
  .have QX:=hRi _ hm _ (ag (l:=((aV n E V L T S).getD i.toNat [])) (i:=j.toNat) (d:=0) (by omega))
   have xe:=ic (m:=dG (aV n E V L T S) i.toNat) (vs:=((aV n E V L T S).getD i.toNat [])) (c:=i) j.toNat
   rw[<-j2,<-i3] at xe
   refine go (pr:=(bX j ((aV n E V L T S).getD i.toNat []).length)/\(cA .int (((aV n E V L T S).getD i.toNat []).getD j.toNat 0))/\(mm.length<=2147483647)/\(bR .i64 (j+1))) [] h ⟨bx,wk,ln,cz⟩ fun _ _ h=>?_
   exact dR (lS (j+1) (b9 mm (((aV n E V L T S).getD i.toNat []).getD j.toNat 0) i) (ir 11) h ⟨by omega,by omega,by rw[lG j0,<-j2]⟩ (by omega))
  have HC:j.toNat=((aV n E V L T S).getD i.toNat []).length:=by omega
  have o8:=j2
  rw[HC] at o8
  refine go (pr:=(bR .i64 (i+1))) [] h cz fun _ _ h=>?_
  exact dR (eH (i+1) mm (rk [0,1,2,3,4,6,7,8,9,10]) h ⟨by omega,by omega,by rw[vj i0,<-o8]⟩ (by omega))
 have uP:i.toNat=(aV n E V L T S).length:=by omega
 rw[uP] at i3
 refine go (pr:=(cF n/\aC T/\az T)) [] h (⟨hn,eS,dc⟩) fun _ _ h=>?_
 refine bq Int (List (Int×Int)) (fun i lm=>⟨[(10,em 0),(15,em 1),(60,eo 2),(61,en (((aa n E V L T).1).length:Int)),(62,en i)],[(0,some (.map .int .int m)),(1,some (.map .int .int lm)),(2,some (.ro (.pair .int (.list .int)) ((aa n E V L T).1)))],3⟩) (fun i lm=>0<=i/\i<=((aa n E V L T).1.length:Int)/\lm=xm (dG (aV n E V L T S) (aV n E V L T S).length) (aa n E V L T).1 i.toNat) (fun i lm=>(((aa n E V L T).1.length:Int)-i).toNat) 0 [] (rk [3,4106,28682]) h ⟨Int.le_refl _,Int.natCast_nonneg _,rfl⟩ fun i lm _ _ _ uf hI h=>?_
 obtain⟨k0,k1,k2⟩:=hI
 refine aZ [] h fun _ _ h=>?_
 refine av h (fun(q4:i<(((aa n E V L T).1).length:Int))=>?_) (fun(q4:¬(i<(((aa n E V L T).1).length:Int)))=>?_)
 .have wq:((aa n E V L T).1.getD i.toNat (0,[]))∈(aa n E V L T).1:=ag (by omega)
  have F1:=vY gX hW wq
  have PY:=US _ wq
  have wJ:=xo (num:=(dG (aV n E V L T S) (aV n E V L T S).length)) hWk i.toNat
  rw[<-k2] at wJ
  have WK:i.toNat*(2*L.length+1)<=100000*10000:=Nat.mul_le_mul (show i.toNat<=100000 by omega) (show 2*L.length+1<=10000 by omega)
  refine go (pr:=(bX i ((aa n E V L T).1).length)) [] h bx fun _ _ h=>?_
  refine bq Int (List (Int×Int)) (fun j m2=>⟨[(10,em 0),(15,em 1),(19,ep 2),(60,eo 3),(61,en (((aa n E V L T).1).length:Int)),(62,en i),(67,eo 4),(68,en (((((aa n E V L T).1).getD i.toNat (0,[])).2).length:Int)),(69,en j)],[(0,some (.map .int .int m)),(1,some (.map .int .int m2)),(2,some (.box 75 [.v (.int .i64 ((((aa n E V L T).1).getD i.toNat (0,[])).1)),.own 4])),(3,some (.ro (.pair .int (.list .int)) ((aa n E V L T).1))),(4,some (.ro .int ((((aa n E V L T).1).getD i.toNat (0,[])).2)))],5⟩) (fun j m2=>0<=j/\j<=(((aa n E V L T).1.getD i.toNat (0,[])).2.length:Int)/\m2=qo (xm (dG (aV n E V L T S) (aV n E V L T S).length) (aa n E V L T).1 i.toNat) ((aa n E V L T).1.getD i.toNat (0,[])).2 ((af (dG (aV n E V L T S) (aV n E V L T S).length) ((aa n E V L T).1.getD i.toNat (0,[])).1).getD 0) j.toNat) (fun j m2=>((((aa n E V L T).1.getD i.toNat (0,[])).2.length:Int)-j).toNat) 0 lm (rk [0,1,12291,2,8195]) h ⟨Int.le_refl _,Int.natCast_nonneg _,k2⟩ fun j m2 _ _ _ DA hI h=>?_
  obtain⟨j0,j1,j2⟩:=hI
  refine aZ [] h fun _ _ h=>?_
  refine av h (fun(q5:j<(((((aa n E V L T).1).getD i.toNat (0,[])).2).length:Int))=>?_) (fun(q5:¬(j<(((((aa n E V L T).1).getD i.toNat (0,[])).2).length:Int)))=>?_)
  .have vP:=PY.1 _ (ag (l:=((aa n E V L T).1.getD i.toNat (0,[])).2) (i:=j.toNat) (d:=0) (by omega))
   obtain⟨_,dx0,dx1,dx2⟩:=bf gX vP
   have xe:=ic (m:=xm (dG (aV n E V L T S) (aV n E V L T S).length) (aa n E V L T).1 i.toNat) (vs:=((aa n E V L T).1.getD i.toNat (0,[])).2) (c:=((af (dG (aV n E V L T S) (aV n E V L T S).length) ((aa n E V L T).1.getD i.toNat (0,[])).1).getD 0)) j.toNat
   rw[<-j2,<-k2] at xe
   refine go (pr:=(bX j ((((aa n E V L T).1).getD i.toNat (0,[])).2).length)/\(cA .int ((((aa n E V L T).1).getD i.toNat (0,[])).1))/\(cA .int (((((aa n E V L T).1).getD i.toNat (0,[])).2).getD j.toNat 0))/\(m2.length<=2147483647)/\(bR .i64 (j+1))) [] h ⟨bx,wk,wk,ln,cz⟩ fun _ _ h=>?_
   exact dR (DA (j+1) (b9 m2 (((((aa n E V L T).1).getD i.toNat (0,[])).2).getD j.toNat 0) ((af m ((((aa n E V L T).1).getD i.toNat (0,[])).1)).getD 0)) (ir 5) h ⟨by omega,by omega,by rw[lG j0,<-j2,<-i3]⟩ (by omega))
  have HC:j.toNat=((aa n E V L T).1.getD i.toNat (0,[])).2.length:=by omega
  have o8:=j2
  rw[HC] at o8
  have xe:=ic (m:=xm (dG (aV n E V L T S) (aV n E V L T S).length) (aa n E V L T).1 i.toNat) (vs:=((aa n E V L T).1.getD i.toNat (0,[])).2) (c:=((af (dG (aV n E V L T S) (aV n E V L T S).length) ((aa n E V L T).1.getD i.toNat (0,[])).1).getD 0)) ((aa n E V L T).1.getD i.toNat (0,[])).2.length
  rw[<-o8,<-k2] at xe
  refine aZ [] h fun _ _ h=>?_
  refine av h (fun(q6:(((((aa n E V L T).1).getD i.toNat (0,[])).2).length:Int)=0)=>?_) (fun(q6:¬((((((aa n E V L T).1).getD i.toNat (0,[])).2).length:Int)=0))=>?_)
  .refine go (pr:=(cA .int ((((aa n E V L T).1).getD i.toNat (0,[])).1))/\(cA .int ((((aa n E V L T).1).getD i.toNat (0,[])).1))/\(m2.length<=2147483647)/\(bR .i64 (i+1))) [] h ⟨wk,wk,ln,cz⟩ fun _ _ h=>?_
   exact dR (uf (i+1) (b9 m2 ((((aa n E V L T).1).getD i.toNat (0,[])).1) ((af m ((((aa n E V L T).1).getD i.toNat (0,[])).1)).getD 0)) (rk [0,1,3]) h ⟨by omega,by omega,by rw[uc k0,UI (show((aa n E V L T).1.getD i.toNat (0,[])).2.length=0 by omega),<-o8,<-i3]⟩ (by omega))
  refine go (pr:=(bR .i64 (i+1))) [] h cz fun _ _ h=>?_
  exact dR (uf (i+1) m2 (rk [0,1,3]) h ⟨by omega,by omega,by rw[uc k0,UJ (show ¬((aa n E V L T).1.getD i.toNat (0,[])).2.length=0 by omega),<-o8]⟩ (by omega))
 have zm:i.toNat=(aa n E V L T).1.length:=by omega
 rw[zm] at k2
 refine aZ [] h fun _ _ h=>?_
 exact out ((lm:bh .int Int),((0:Int):Int),()) h (by rw[nJ gz,gz,<-k2])
def TY:dy Tryz.prog:=plain TX
theorem Xn:bG Tryz.prog 109 [(false,(.list .int)),(false,(.list .int))] [.bool] (fun x=>(J_ x.2.1).length<=1000000) (fun x=>(decide (ja (J_ x.1) (J_ x.2.1)),())):=by
 refine bn Tryz.f109 18 [BD] Tryz.func109 fun o x hd _ _ h=>?_
 obtain⟨(l:List Int),(m:List Int),_⟩:=x
 have jt:=dh h 0 l
 have gE:=dh h 1 m
 change m.length<=1000000 at hd
 have hm:=hd
 refine aZ [] h fun _ _ h=>?_
 refine go_loop (Int) (fun i=>⟨[(1,eo 0),(7,eo 1),(8,en (l.length:Int)),(9,en i)],[(0,some (.ar .int m)),(1,some (.ar .int l))],2⟩) (fun i=>0<=i/\i<=(l.length:Int)/\∀j:Nat,(j:Int)<i->hasB m (l.getD j 0)=true) (fun i=>((l.length:Int)-i).toNat) (0) (rk [1,0]) h ⟨Int.le_refl _,Int.natCast_nonneg _,fun j hj=>by omega⟩ fun i _ _ _ eH hI h=>?_
 obtain⟨i0,i1,i2⟩:=hI
 refine aZ [] h fun _ _ h=>?_
 refine av h (fun(q1:i<(l.length:Int))=>?_) (fun(q1:¬(i<(l.length:Int)))=>?_)
 .refine go (pr:=(bX i l.length)/\(m.length<=1000000)) [] h ⟨bx,hm⟩ fun _ _ h=>?_
  refine av h (fun(q2:(hasB m (l.getD i.toNat 0))=false)=>?_) (fun(q2:(hasB m (l.getD i.toNat 0))=true)=>?_)
  .refine aZ [] h fun _ _ h=>?_
   exact out ((false:Bool),()) h (congrArg (·,()) (show(false)=decide (ja l m) from(decide_eq_false fun q=>by have z:=q i.toNat (by omega);rw[q2] at z;cases z).symm))
  refine go (pr:=(bR .i64 (i+1))) [] h cz fun _ _ h=>?_
  exact dR (eH (i+1) (ir 2) h ⟨by omega,by omega,fun j hj=>if z:(j:Int)<i then i2 j z else by rw[show j=i.toNat by omega];exact q2⟩ (by omega))
 refine aZ [] h fun _ _ h=>?_
 exact out ((true:Bool),()) h (congrArg (·,()) (show(true)=decide (ja l m) from(decide_eq_true fun j hj=>i2 j (by omega)).symm))
def Xo:dy Tryz.prog:=plain Xn
theorem QI:bG Tryz.prog 67 [(false,kI),(false,kI)] [.bool] (fun x=>(J_ x.2.1.1).length<=1000000/\(J_ x.2.1.2).length<=1000000) (fun x=>(decide (ja (J_ x.1.1) (J_ x.2.1.1)) && decide (ja (J_ x.1.2) (J_ x.2.1.2)),())):=by
 refine bn Tryz.f67 17 [Xo] Tryz.func67 fun o x hd _ _ h=>?_
 obtain⟨⟨(A:List Int),(B:List Int)⟩,⟨(V:List Int),(L:List Int)⟩,_⟩:=x
 have jt:=dh h 0 A
 have gE:=dh h 1 B
 have gH:=dh h 2 V
 have lT:=dh h 3 L
 change V.length<=1000000/\L.length<=1000000 at hd
 obtain⟨hv,hl⟩:=hd
 refine go (pr:=(V.length<=1000000)/\(((decide (ja A V))=true)->(L.length<=1000000))) [] h ⟨hv,fun _=>hl⟩ fun _ _ h=>?_
 exact out (((decide (ja A V)) && (decide (ja B L)):Bool),()) h rfl
def QJ:dy Tryz.prog:=plain QI
abbrev U4:rD:=⟨[.box 27 [.own 1,.own 2],.rd .int,.rd .int],[.int,.ptr 0 0],[.box 27 [.own 1,.own 2],.rd .int,.rd .int],[.bool],3⟩
theorem aaw:eO Tryz.prog 68 U4 (fun x=>0<=(I_ x.2.1)/\(I_ x.2.1)<=1000000/\(J_ x.1.2.2.1).length<=1000000) (fun x=>((((),(),()),(J_ x.1.2.1),(J_ x.1.2.2.1),()),(hasB (J_ x.1.2.2.1) ((I_ x.2.1)/2),()))):=by
 refine fo Tryz.f68 9 [BD] U4 Tryz.func68 fun o A x hd _ _ h=>?_
 obtain⟨⟨⟨_,_,_⟩,(Q:List Int),(H:List Int),_⟩,⟨(d:Int),_,_⟩⟩:=x
 have gE:=dh h 1 Q
 have gH:=dh h 2 H
 change 0<=d/\d<=1000000/\H.length<=1000000 at hd
 obtain⟨d0,d1,d2⟩:=hd
 refine go (pr:=(0<=d/\0<(2:Int)/\bR .i64 d)/\(H.length<=1000000)) [] h ⟨⟨by omega,by omega,⟨by omega,by omega⟩⟩,by omega⟩ fun _ _ h=>?_
 exact kJ ((((),(),()),Q,H,()),(hasB H (d/2),())) (ir 3) h rfl
def aax:dy Tryz.prog:=oJ aaw
abbrev FW:rD:=⟨[.box 27 [.own 1,.own 2],.rd .int,.rd .int,.rd .int],[.own 3,.mA 68 [(0,0)]],[.box 27 [.own 1,.own 2],.rd .int,.rd .int,.rd .int,.row 3 .int],[.own 4],4⟩
theorem TZ:eO Tryz.prog 21 FW (fun x=>(∀d∈(J_ x.1.2.2.2.1),0<=d/\d<=1000000)/\(J_ x.1.2.2.2.1).length<=1000000/\(J_ x.1.2.2.1).length<=1000000) (fun x=>((((),(),()),(J_ x.1.2.1),(J_ x.1.2.2.1),(J_ x.1.2.2.2.1),Dc (J_ x.1.2.2.1) (J_ x.1.2.2.2.1) (J_ x.1.2.2.2.1).length,()),((),()))):=by
 refine fo Tryz.f21 25 [aax] FW Tryz.func21 fun o A x hd _ _ h=>?_
 obtain⟨⟨⟨_,_,_⟩,(Q:List Int),(H:List Int),(l:List Int),_⟩,⟨_,_,_⟩⟩:=x
 have gE:=dh h 1 Q
 have gH:=dh h 2 H
 have lT:=dh h 3 l
 change (∀d∈l,0<=d/\d<=1000000)/\l.length<=1000000/\H.length<=1000000 at hd
 obtain⟨Pq,Nf,Fi⟩:=hd
 refine aZ [] h fun _ _ h=>?_
 refine bq Int (List Int) (fun i ou=>⟨[(1,some ⟨[],.one (.mA 68 [(0,0)])⟩),(5,eo 4),(10,eo 3),(11,en (l.length:Int)),(12,en i)],[(0,some (.box 27 [.own 1,.own 2])),(1,some (.ar .int Q)),(2,some (.ar .int H)),(3,some (.ar .int l)),(4,some (.row 3 .int ou))],5⟩) (fun i ou=>0<=i/\i<=(l.length:Int)/\ou=Dc H l i.toNat) (fun i ou=>((l.length:Int)-i).toNat) 0 [] [(0,some 0),(1,some 1),(2,some 2),(3,some 3),(4,none)] h ⟨Int.le_refl _,Int.natCast_nonneg _,rfl⟩ fun i ou _ _ _ eH hI h=>?_
 obtain⟨i0,i1,i2⟩:=hI
 refine aZ [] h fun _ _ h=>?_
 refine av h (fun(q1:i<(l.length:Int))=>?_) (fun(q1:¬(i<(l.length:Int)))=>?_)
 .have vP:=Pq _ (ag (l:=l) (i:=i.toNat) (d:=0) (by omega))
  have XU:=Dd H l i.toNat
  rw[<-i2] at XU
  refine go (pr:=(bX i l.length)/\(0<=(l.getD i.toNat 0)/\(l.getD i.toNat 0)<=1000000/\H.length<=1000000)) [] h ⟨bx,⟨vP.1,vP.2,Fi⟩⟩ fun _ _ h=>?_
  refine av h (fun(q2:(hasB H ((l.getD i.toNat 0)/2))=true)=>?_) (fun(q2:(hasB H ((l.getD i.toNat 0)/2))=false)=>?_)
  .refine go (pr:=(ou.length+([(l.getD i.toNat 0)]:List Int).length<=2147483647)/\(bR .i64 (i+1))) [] h ⟨ln,cz⟩ fun _ _ h=>?_
   exact dR (eH (i+1) (ou++([(l.getD i.toNat 0)]:List Int)) (rk [0,1,2,3,40965]) h ⟨by omega,by omega,by rw[Jp i0 (by omega) q2,<-i2]⟩ (by omega))
  refine go (pr:=(bR .i64 (i+1))) [] h cz fun _ _ h=>?_
  exact dR (eH (i+1) ou (ir 5) h ⟨by omega,by omega,by rw[Ph i0 (by omega) q2,<-i2]⟩ (by omega))
 have uP:i.toNat=l.length:=by omega
 rw[uP] at i2
 refine aZ [] h fun _ _ h=>?_
 exact kJ ((((),(),()),Q,H,l,ou,()),((),())) (ir 5) h (by rw[i2])
def T0:dy Tryz.prog:=oJ TZ
end Go.Proofs.YtnfdimfepbbbpaaGreat
namespace Go.Proofs.YtnfdimfepbbbpaaGreat
open Go.RowKit Go.Sort Go.Lib Go.Proofs.YtnfdimfepbbbpaaGreat.Deep
theorem LF (g1 o1 n1 c1 g2 o2 n2 c2:Nat)(x y:Int)(W:World)(h1:0<n1)(h2:0<n2)(k1:W.cell? ⟨g1,o1,none⟩=some (.int .i64 x))(k2:W.cell? ⟨g2,o2,none⟩=some (.int .i64 y)):
  Calls Tryz.prog 72 #[.slice (some ⟨g1,o1,none⟩) n1 c1,.slice (some ⟨g2,o2,none⟩) n2 c2] W fun e w'=>e= .returned (.int .i64 (Lib.compareInt x y))/\∃q,w'=W.drewN q:=by
 have y6:=fun W=>AnyG.cmp_Compare_int Tryz.ZL x y W
 change ∀W,Calls Tryz.prog 73 _ _ _ at y6
 generalize Lib.compareInt x y=r at y6 ⊢
 go_enter Tryz.func72,Tryz.ntmps72
 go_wp2
 go_region_with (go_at_call 73;refine(y6 _).mono ?_;rintro e w' ⟨rfl,rfl⟩)
 all_goals (go_wp2;go_ret;exact⟨rfl,1,rfl⟩)
abbrev QK:rD:=vh 72
theorem T1:eO Tryz.prog 71 QK (fun x=>ga (show List (List Int) from x.1.1)/\(show List (List Int) from x.1.1).length<=1000000) (fun x=>((iT (show List (List Int) from x.1.1),()),())):=
 E7 (enters_of Tryz.func72 (by kernel_rfl) rfl) LF
def T2:dy Tryz.prog:=oJ T1
section
attribute [local irreducible] aa aM aq aS toT eD bS gu iq L5
theorem abI:bG Tryz.prog 35 [(false,nv),(false,kI),(false,(.pair (.list (.list .int)) (.list (.list .int)))),(false,kI)] [(.pair (.list (.list .int)) (.list (.list .int))),.int] (fun x=>cF (I_ x.1.1)/\aC (K_ x.2.2.1.1)/\az (K_ x.2.2.1.1)/\aC (K_ x.2.2.1.2)/\az (K_ x.2.2.1.2)) (fun x=>((toX (I_ x.1.1) (E_ x.1.2) (J_ x.2.1.1) (J_ x.2.1.2) (K_ x.2.2.1.1) (K_ x.2.2.1.2) (J_ x.2.2.2.1.1) (J_ x.2.2.2.1.2)).1,(toX (I_ x.1.1) (E_ x.1.2) (J_ x.2.1.1) (J_ x.2.1.2) (K_ x.2.2.1.1) (K_ x.2.2.1.2) (J_ x.2.2.2.1.1) (J_ x.2.2.2.1.2)).2,())):=by
 refine bn Tryz.f35 186 [PL,Dh,BD,Xm,HE,T0,PN,TY,tY,T2,oN,QJ] Tryz.func35 fun o x hd _ _ h=>?_
 obtain⟨⟨(n:Int),(E:List (Int×Int))⟩,⟨(V:List Int),(L:List Int)⟩,⟨(T:List (List Int)),(S:List (List Int))⟩,⟨(Q:List Int),(H:List Int)⟩,_⟩:=x
 have jt:=mh h 0 E
 have gE:=dh h 1 V
 have gH:=dh h 2 L
 have lT:=gC h 3 T
 have Am:=gC h 4 S
 have L1:=dh h 5 Q
 have SQ:=dh h 6 H
 change cF n/\aC T/\az T/\aC S/\az S at hd
 obtain⟨hn,eS,dc,e6,dO⟩:=hd
 have nQ:=dO.1
 refine go (pr:=(cF n/\aC T/\az T/\aC S/\az S)) [] h (⟨hn,eS,dc,e6,dO⟩) fun _ _ h=>?_
 refine av h (fun(q1:¬(aM n E V L T S=0))=>?_) (fun(q1:aM n E V L T S=0)=>?_)
 .refine aZ [] h fun _ _ h=>?_
  exact out ((([],[]):(List (List Int))×List (List Int)),(aM n E V L T S:Int),()) h (by rw[toX_bad q1])
 have gz:=q1
 obtain⟨gX,hT,hW⟩:=aU (aK (aX gz).1)
 obtain⟨sj,hV,hL,_⟩:=aJ gX
 obtain⟨r1,r2,r3,_⟩:=bz sj
 have PA:=aO hV r1
 have Fi:=aO hL (by omega)
 have hTl:=hT.len
 have Ls:=O7 (n:=n) (E:=E) (V:=V) (L:=L) (T:=T) nQ
 by_cases z1:aS n E Q H=0
 .refine go (pr:=(cF n)/\(aS n E Q H=0)/\(V.length<=1000000/\L.length<=1000000)) [(46,false)] h ⟨hn,z1,⟨by omega,by omega⟩⟩ fun _ _ h=>?_
  refine av h (fun(q2:(decide (ja Q V) && decide (ja H L))=false)=>?_) (fun(q2:(decide (ja Q V) && decide (ja H L))=true)=>?_)
  .refine aZ [] h fun _ _ h=>?_
   exact out ((([],[]):(List (List Int))×List (List Int)),((4:Int):Int),()) h (by rw[toX_part gz (.inr (by simpa using q2))])
  have X4:aS n E Q H=0:=z1
  have hwi:ja Q V/\ja H L:=by simpa using q2
  have Q8:=B5.of gz X4 hwi
  obtain⟨_,hQ,hH,_⟩:=aJ X4
  have acd:=aO hH (by omega)
  clear gz q1 gX sj X4 z1
  refine go (pr:=(([]:List Int)=[])) [] h rfl fun _ _ h=>?_
  refine go_loop ((Int->Bool)×Nat×(Option (Int×Int))×(List (Int×Int))×List Int×List Int×Int) (fun x_=>(fun(lf:Int->Bool) (cnt:Nat) (cur:Option (Int×Int)) (M:List (Int×Int)) (K:List Int) (U:List Int) (c:Int)=>⟨[(4,ep 0),(5,ep 1),(6,ep 2),(7,ep 3),(8,ep 4),(10,em 5),(12,ep 6),(55,ep 7)],[(0,some (.box 24 [.v (.int .i64 n),.own 8])),(1,some (.box 27 [.own 9,.own 10])),(2,some (.box 30 [.own 11,.own 12])),(3,some (.box 27 [.own 13,.own 14])),(4,some (.box 30 [.v (.slice none 0 0),.v (.slice none 0 0)])),(5,some (.mL .int .int (aq n E V L T S))),(6,some (.box 138 [.mp 15,.own 16,.own 17,.v (.int .i64 c)])),(7,some (.iter .int .int (aq n E V L T S) lf cnt cur)),(8,some (.ar j8 E)),(9,some (.ar .int V)),(10,some (.ar .int L)),(11,some (.ar (.list .int) T)),(12,some (.ar (.list .int) S)),(13,some (.ar .int Q)),(14,some (.ar .int H)),(15,some (.map .int .int M)),(16,some (.row 3 .int K)),(17,some (.row 3 .int U))],18⟩) x_.1 x_.2.1 x_.2.2.1 x_.2.2.2.1 x_.2.2.2.2.1 x_.2.2.2.2.2.1 x_.2.2.2.2.2.2) (fun x_=>(fun(lf:Int->Bool) (cnt:Nat) (cur:Option (Int×Int)) (M:List (Int×Int)) (K:List Int) (U:List Int) (c:Int)=>L4 (aq n E V L T S) lf (M,K,U,c)/\True) x_.1 x_.2.1 x_.2.2.1 x_.2.2.2.1 x_.2.2.2.2.1 x_.2.2.2.2.2.1 x_.2.2.2.2.2.2) (fun x_=>(fun(lf:Int->Bool) (cnt:Nat) (cur:Option (Int×Int)) (M:List (Int×Int)) (K:List Int) (U:List Int) (c:Int)=>cnt) x_.1 x_.2.1 x_.2.2.1 x_.2.2.2.1 x_.2.2.2.2.1 x_.2.2.2.2.2.1 x_.2.2.2.2.2.2) ((fun z=>(af (aq n E V L T S) z).isSome),(aq n E V L T S).length,none,[],[],[],0) (rk [7,4103,8199,12295,16391,36871,110599,122887,0,1,2,3,4,5,6,110600,110601,110602]) h ⟨L4.start,tv⟩ fun x_ _ _ _ eH hI h=>?_
  obtain⟨lf,cnt,cur,M,K,U,c⟩:=x_
  obtain⟨hI,_⟩:=hI
  dsimp only at hI
  refine aZ [] h fun _ _ h=>?_
  refine tK ⟨.int,.int,(aq n E V L T S),lf,cnt,cur,7,56⟩ h (fun(gE:∀x:Int,lf x=false) _ _ h=>?_) (fun(k1:Int) (v1:Int) (c1:Nat) (gE:lf k1=true) (Bd: -9223372036854775808<=k1/\k1<=9223372036854775807) (Ac:af (aq n E V L T S) k1=some v1) (vI:c1<cnt) _ _ h=>?_)
  .have RQ:=gE
   obtain⟨hed,X9⟩:=Q8.alk hI RQ
   have QU:=hI.len
   change K.length<=100001 at QU
   refine aZ [] h fun _ _ h=>?_
   refine go_loop (Int×(List (Int×Int))×List Int×List Int×Int) (fun x_=>(fun(i:Int) (M1:List (Int×Int)) (K1:List Int) (U1:List Int) (c1:Int)=>⟨[(4,ep 0),(6,ep 1),(7,ep 2),(8,ep 3),(10,em 4),(12,ep 5),(64,eo 6),(65,en (L.length:Int)),(66,en i)],[(0,some (.box 24 [.v (.int .i64 n),.own 7])),(1,some (.box 30 [.own 8,.own 9])),(2,some (.box 27 [.own 10,.own 11])),(3,some (.box 30 [.v (.slice none 0 0),.v (.slice none 0 0)])),(4,some (.mL .int .int (aq n E V L T S))),(5,some (.box 138 [.mp 12,.own 13,.own 14,.v (.int .i64 c1)])),(6,some (.ar .int L)),(7,some (.ar j8 E)),(8,some (.ar (.list .int) T)),(9,some (.ar (.list .int) S)),(10,some (.ar .int Q)),(11,some (.ar .int H)),(12,some (.map .int .int M1)),(13,some (.row 3 .int K1)),(14,some (.row 3 .int U1))],15⟩) x_.1 x_.2.1 x_.2.2.1 x_.2.2.2.1 x_.2.2.2.2) (fun x_=>(fun(i:Int) (M1:List (Int×Int)) (K1:List Int) (U1:List Int) (c1:Int)=>0<=i/\i<=(L.length:Int)/\jH (aq n E V L T S) H L (M,K,U,c) i.toNat=(M1,K1,U1,c1)) x_.1 x_.2.1 x_.2.2.1 x_.2.2.2.1 x_.2.2.2.2) (fun x_=>(fun(i:Int) (M1:List (Int×Int)) (K1:List Int) (U1:List Int) (c1:Int)=>((L.length:Int)-i).toNat) x_.1 x_.2.1 x_.2.2.1 x_.2.2.2.1 x_.2.2.2.2) (0,M,K,U,c) (rk [0,2,3,4,5,6,10,8,11,12,13,14,15,16,17]) h ⟨Int.le_refl _,Int.natCast_nonneg _,rfl⟩ fun x_ _ _ _ lS hI h=>?_
   obtain⟨i,M1,K1,U1,c1⟩:=x_
   obtain⟨k0,k1,k2⟩:=hI
   dsimp only at k0 k1 k2
   refine aZ [] h fun _ _ h=>?_
   refine av h (fun(q3:i<(L.length:Int))=>?_) (fun(q3:¬(i<(L.length:Int)))=>?_)
   .obtain⟨Q9,_,_⟩:=FK (H:=H) hI.ok hI.rl hed (k:=i.toNat) (by omega)
    rw[k2] at Q9
    have gh:gT M1 K1 U1:=Q9.ok.rep
    have zL:M1.length<=K1.length:=gh.nG
    have UT:U1.length=K1.length:=gh.len
    have M4:0<=c1/\c1<=(K1.length:Int):=Q9.ok.bd
    have hKe:K1=K:=Q9.l
    rw[hKe] at zL UT M4
    have hle:=(aA.1 hL).2 _ (ag (l:=L) (i:=i.toNat) (d:=0) (by omega))
    have XD:=Ls (2*(L.getD i.toNat 0))
    have Rr:=Ls (2*(L.getD i.toNat 0)+1)
    have ace:K1.length<=100001:=by rw[hKe];exact QU
    refine go (pr:=(bX i L.length)/\(H.length<=1000000)) [] h ⟨bx,by omega⟩ fun _ _ h=>?_
    refine av h (fun(q4:(hasB H (L.getD i.toNat 0))=false)=>?_) (fun(q4:(hasB H (L.getD i.toNat 0))=true)=>?_)
    .refine go (pr:=(bR .i64 (2*(L.getD i.toNat 0)))/\(cA .int (2*(L.getD i.toNat 0)))/\(bR .i64 (2*(L.getD i.toNat 0)))/\(bR .i64 ((2*(L.getD i.toNat 0))+1))/\(cA .int ((2*(L.getD i.toNat 0))+1))/\((-9223372036854775808<=((af (aq n E V L T S) (2*(L.getD i.toNat 0))).getD 0)/\((af (aq n E V L T S) (2*(L.getD i.toNat 0))).getD 0)<=9223372036854775807)/\(-9223372036854775808<=((af (aq n E V L T S) ((2*(L.getD i.toNat 0))+1)).getD 0)/\((af (aq n E V L T S) ((2*(L.getD i.toNat 0))+1)).getD 0)<=9223372036854775807)/\gT M1 K1 U1/\K1.length<=900000/\-900000<=c1/\c1<=900000)/\(bR .i64 (i+1))) [] h ⟨cz,wk,cz,cz,wk,⟨⟨by omega,by omega⟩,⟨by omega,by omega⟩,gh,by omega,by omega,by omega⟩,cz⟩ fun _ _ h=>?_
     exact dR (lS (i+1,QY M1 K1 ((af (aq n E V L T S) (2*(L.getD i.toNat 0))).getD 0) ((af (aq n E V L T S) ((2*(L.getD i.toNat 0))+1)).getD 0),LQ M1 K1 ((af (aq n E V L T S) (2*(L.getD i.toNat 0))).getD 0) ((af (aq n E V L T S) ((2*(L.getD i.toNat 0))+1)).getD 0),I9 M1 K1 U1 ((af (aq n E V L T S) (2*(L.getD i.toNat 0))).getD 0) ((af (aq n E V L T S) ((2*(L.getD i.toNat 0))+1)).getD 0),E3 M1 K1 U1 c1 ((af (aq n E V L T S) (2*(L.getD i.toNat 0))).getD 0) ((af (aq n E V L T S) ((2*(L.getD i.toNat 0))+1)).getD 0)) (rk [0,1,2,3,4,5,6,7,8,9,10,11,77840,77841,77842]) h ⟨by dsimp only;omega,by dsimp only;omega,by dsimp only;rw[aan k0 q4,k2];rfl⟩ (by dsimp only;omega))
    refine go (pr:=(bR .i64 (i+1))) [] h cz fun _ _ h=>?_
    exact dR (lS (i+1,M1,K1,U1,c1) (ir 15) h ⟨by dsimp only;omega,by dsimp only;omega,by dsimp only;rw[Xh k0 q4,k2]⟩ (by dsimp only;omega))
   have zm:i.toNat=L.length:=by omega
   rw[zm] at k2
   obtain⟨Q9,_,_⟩:=FK (H:=H) hI.ok hI.rl hed (Nat.le_refl _)
   rw[k2] at Q9
   have oC:lM (M1,K1,U1,c1):=Q9.ok
   have Xp:K1.length<=100001:=by rw[show K1=K from Q9.l];exact QU
   have Xq:0<=c1/\c1<=100001:=by have:0<=c1/\c1<=(K1.length:Int):=oC.bd;omega
   have Xr:∀x∈K1,0<=x/\x<=100000:=by rw[show K1=K from Q9.l];exact hI.bd
   have Xs:∀k,s9 V L T k->(af M1 ((af (aq n E V L T S) k).getD 0)).isSome=true:=fun k hk=>by rw[show M1=M from Q9.m];exact X9 k hk
   refine aZ [] h fun _ _ h=>?_
   refine bq Int (List (List Int)) (fun i tu=>⟨[(4,ep 0),(6,ep 1),(7,ep 2),(8,ep 3),(10,em 4),(12,ep 5),(17,ep 6),(88,eo 7),(89,en (T.length:Int)),(90,en i)],[(0,some (.box 24 [.v (.int .i64 n),.own 8])),(1,some (.box 30 [.own 7,.own 9])),(2,some (.box 27 [.own 10,.own 11])),(3,some (.box 30 [.v (.slice none 0 0),.v (.slice none 0 0)])),(4,some (.mL .int .int (aq n E V L T S))),(5,some (.box 138 [.mp 12,.own 13,.own 14,.v (.int .i64 c1)])),(6,some (.box 30 [.own 15,.v (.slice none 0 0)])),(7,some (.ar (.list .int) T)),(8,some (.ar j8 E)),(9,some (.ar (.list .int) S)),(10,some (.ar .int Q)),(11,some (.ar .int H)),(12,some (.map .int .int M1)),(13,some (.row 3 .int K1)),(14,some (.row 3 .int U1)),(15,some (.row 25 (.list .int) tu))],16⟩) (fun i tu=>0<=i/\i<=(T.length:Int)/\tu=(T.take i.toNat).map (fun l=>aI (Ap H l))) (fun i tu=>((T.length:Int)-i).toNat) 0 [] [(0,some 0),(1,some 1),(2,some 2),(3,some 3),(4,some 4),(5,some 5),(6,some 4111),(7,some 8),(8,some 7),(9,some 9),(10,some 10),(11,some 11),(12,some 12),(13,some 13),(14,some 14),(15,none)] h ⟨Int.le_refl _,Int.natCast_nonneg _,rfl⟩ fun i tu _ _ _ uf hI h=>?_
   obtain⟨m0,m1,m2⟩:=hI
   refine aZ [] h fun _ _ h=>?_
   refine av h (fun(q5:i<(T.length:Int))=>?_) (fun(q5:¬(i<(T.length:Int)))=>?_)
   .have WY:(T.getD i.toNat [])∈T:=ag (by omega)
    have LL:=dc.2 _ WY
    have hud:∀d∈(T.getD i.toNat []),0<=d/\d<=1000000:=fun d hd=>by obtain⟨_,y1,_,y2⟩:=bf Q8.hp ((hT.mem i.toNat (by omega) d).1 hd).1;exact⟨y1,y2⟩
    have XU:=Dd H (T.getD i.toNat []) (T.getD i.toNat []).length
    have abJ:tu.length=i.toNat:=by rw[m2,List.length_map,List.length_take];omega
    refine go (pr:=(bX i T.length)/\((∀d∈(T.getD i.toNat []),0<=d/\d<=1000000)/\(T.getD i.toNat []).length<=1000000/\H.length<=1000000)/\((Dc H (T.getD i.toNat []) (T.getD i.toNat []).length).length<=1000000)/\(tu.length+([aI (Dc H (T.getD i.toNat []) (T.getD i.toNat []).length)]:List (List Int)).length<=2147483647)/\(bR .i64 (i+1))) [] h ⟨bx,⟨hud,by omega,by omega⟩,by omega,ln,cz⟩ fun _ _ h=>?_
    exact dR (uf (i+1) (tu++([aI (Dc H (T.getD i.toNat []) (T.getD i.toNat []).length)]:List (List Int))) (rk [0,1,2,3,4,5,6,7,8,9,10,11,12,13,14,53264]) h ⟨by omega,by omega,by rw[u0 [] m0 (by omega),<-m2,Jq]⟩ (by omega))
   have XX:i.toNat=T.length:=by omega
   rw[XX,List.take_length] at m2
   have Yb:tu=toT H T:=by unfold toT;exact m2
   have Ah:(aa n E Q H tu).2=0:=by rw[Yb];exact Q8.w0
   have hW2:vX E Q H (aa n E Q H tu).1:=(aU Ah).2.2
   have acf:=hW2.len
   have acg:=aO hQ r1
   refine go (pr:=(cF n/\aC tu/\az tu)) [] h (⟨hn,by rw[Yb];exact toT_in eS,by rw[Yb];exact toT_sz dc⟩) fun _ _ h=>?_
   refine av h (fun(q6:¬((aa n E Q H tu).2=0))=>?_) (fun(q6:(aa n E Q H tu).2=0)=>?_)
   .exact(q6 Ah).elim
   clear Ah q6
   refine aZ [(117,true)] h fun _ _ h=>?_
   refine go_loop (Int×(List (Int×Int))×List Int×List Int×Int×(List (Int×List Int))) (fun x_=>(fun(i:Int) (M2:List (Int×Int)) (K2:List Int) (U2:List Int) (c2:Int) (tg:List (Int×List Int))=>⟨[(6,ep 0),(8,ep 1),(10,em 2),(12,ep 3),(17,ep 4),(22,em 5),(118,eo 6),(119,en (((aa n E Q H tu).1).length:Int)),(120,en i)],[(0,some (.box 30 [.own 7,.own 8])),(1,some (.box 30 [.v (.slice none 0 0),.v (.slice none 0 0)])),(2,some (.mL .int .int (aq n E V L T S))),(3,some (.box 138 [.mp 9,.own 10,.own 11,.v (.int .i64 c2)])),(4,some (.box 30 [.own 12,.v (.slice none 0 0)])),(5,some (.ext (.ff 13 .int none .int 3 tg))),(6,some (.ro (.pair .int (.list .int)) ((aa n E Q H tu).1))),(7,some (.ar (.list .int) T)),(8,some (.ar (.list .int) S)),(9,some (.map .int .int M2)),(10,some (.row 3 .int K2)),(11,some (.row 3 .int U2)),(12,some (.row 25 (.list .int) tu))],14⟩) x_.1 x_.2.1 x_.2.2.1 x_.2.2.2.1 x_.2.2.2.2.1 x_.2.2.2.2.2) (fun x_=>(fun(i:Int) (M2:List (Int×Int)) (K2:List Int) (U2:List Int) (c2:Int) (tg:List (Int×List Int))=>0<=i/\i<=((aa n E Q H tu).1.length:Int)/\Q7 (M1,K1,U1,c1) M2 K2 U2/\c2=c1/\tg=FL (L6 (aq n E V L T S) T (M1,K1,U1,c1)) (aa n E Q H tu).1 i.toNat) x_.1 x_.2.1 x_.2.2.1 x_.2.2.2.1 x_.2.2.2.2.1 x_.2.2.2.2.2) (fun x_=>(fun(i:Int) (M2:List (Int×Int)) (K2:List Int) (U2:List Int) (c2:Int) (tg:List (Int×List Int))=>(((aa n E Q H tu).1.length:Int)-i).toNat) x_.1 x_.2.1 x_.2.2.1 x_.2.2.2.1 x_.2.2.2.2.1 x_.2.2.2.2.2) (0,M1,K1,U1,c1,[]) (rk [1,3,4,5,6,53264,20496,7,9,12,13,14,15,53264]) h ⟨Int.le_refl _,Int.natCast_nonneg _,Q7.start oC,rfl,rfl⟩ fun x_ _ _ _ DA hI h=>?_
   obtain⟨i,M2,K2,U2,c2,tg⟩:=x_
   obtain⟨w0,w1,w2,w3,w4⟩:=hI
   dsimp only at w0 w1 w2 w3 w4
   refine aZ [] h fun _ _ h=>?_
   refine av h (fun(q7:i<(((aa n E Q H tu).1).length:Int))=>?_) (fun(q7:¬(i<(((aa n E Q H tu).1).length:Int)))=>?_)
   .have wq:((aa n E Q H tu).1.getD i.toNat (0,[]))∈(aa n E Q H (toT H T)).1:=by rw[<-Yb];exact ag (by omega)
    have hky:=Q8.key wq
    by_cases z1:(((aa n E Q H tu).1.getD i.toNat (0,[])).2.length:Int)=0
    .have Ac:=hky.1 (by omega)
     have wC:=Ac.1
     have B9:=Ac.2.1
     have hn3:=Ac.2.2
     have WY:(T.getD (-1-((aa n E Q H tu).1.getD i.toNat (0,[])).1).toNat [])∈T:=ag (by omega)
     refine go (pr:=(bX i ((aa n E Q H tu).1).length)/\(bR .i64 ((-1)-((((aa n E Q H tu).1).getD i.toNat (0,[])).1)))/\((((((aa n E Q H tu).1).getD i.toNat (0,[])).2).length:Int)=0)/\(bX ((-1)-((((aa n E Q H tu).1).getD i.toNat (0,[])).1)) T.length)) [(133,true)] h ⟨bx,cz,z1,bx⟩ fun _ _ h=>?_
     refine av h (fun(q8:(0:Int)<((T.getD ((-1)-((((aa n E Q H tu).1).getD i.toNat (0,[])).1)).toNat []).length:Int))=>?_) (fun(q8:¬((0:Int)<((T.getD ((-1)-((((aa n E Q H tu).1).getD i.toNat (0,[])).1)).toNat []).length:Int)))=>?_)
     .have pQ:(qI T ((aa n E Q H tu).1.getD i.toNat (0,[])).1)=(T.getD (-1-((aa n E Q H tu).1.getD i.toNat (0,[])).1).toNat []).getD 0 0:=by rw[JZ wC,if_pos (by omega)]
      have hTd:=eS _ WY _ (ag (l:=(T.getD (-1-((aa n E Q H tu).1.getD i.toNat (0,[])).1).toNat [])) (i:=0) (d:=0) (by omega))
      have QL:=Xs _ (Q8.pt wq)
      rw[pQ] at QL
      have aay:=Ls ((T.getD (-1-((aa n E Q H tu).1.getD i.toNat (0,[])).1).toNat []).getD 0 0)
      have hh:=w2.head oC (x:=((af (aq n E V L T S) ((T.getD (-1-((aa n E Q H tu).1.getD i.toNat (0,[])).1).toNat []).getD 0 0)).getD 0)) QL
      have hh1:=hh.1
      have hh2:=hh.2
      have gh:gT M2 K2 U2:=w2.rep oC
      have zL:M2.length<=K2.length:=gh.nG
      have UT:U2.length=K2.length:=gh.len
      have aaz:K2.length<=100001:=by rw[w2.l];exact Xp
      have aaA:0<=c2/\c2<=100001:=by rw[w3];exact Xq
      have A7:=uz (h:=(L6 (aq n E V L T S) T (M1,K1,U1,c1))) (W:=(aa n E Q H tu).1) i.toNat
      rw[<-w4] at A7
      have aaB:tg.length<=1000000:=by omega
      have htg:∀x,((af tg x).getD []).length<=i.toNat:=fun x=>by rw[w4];exact QA (by omega) x
      have Q3:(af M2 ((af (aq n E V L T S) ((T.getD (-1-((aa n E Q H tu).1.getD i.toNat (0,[])).1).toNat []).getD 0 0)).getD 0)).isSome=true:=by rw[w2.m];exact QL
      have F1:=Dr (by decide) Xr (iq U2 ((af M2 ((af (aq n E V L T S) ((T.getD (-1-((aa n E Q H tu).1.getD i.toNat (0,[])).1).toNat []).getD 0 0)).getD 0)).getD 0)).toNat
      rw[<-show K2=K1 from w2.l] at F1
      have hwv:(L6 (aq n E V L T S) T (M1,K1,U1,c1)) ((aa n E Q H tu).1.getD i.toNat (0,[]))=K2.getD (iq U2 ((af M2 ((af (aq n E V L T S) ((T.getD (-1-((aa n E Q H tu).1.getD i.toNat (0,[])).1).toNat []).getD 0 0)).getD 0)).getD 0)).toNat 0:=by show L5 (M1,K1,U1,c1) ((af (aq n E V L T S) (qI T ((aa n E Q H tu).1.getD i.toNat (0,[])).1)).getD 0)=_;rw[pQ,hh2]
      have aaC:=htg (K2.getD (iq U2 ((af M2 ((af (aq n E V L T S) ((T.getD (-1-((aa n E Q H tu).1.getD i.toNat (0,[])).1).toNat []).getD 0 0)).getD 0)).getD 0)).toNat 0)
      refine go (pr:=(bX ((-1)-((((aa n E Q H tu).1).getD i.toNat (0,[])).1)) T.length)/\(bX (0:Int) (T.getD ((-1)-((((aa n E Q H tu).1).getD i.toNat (0,[])).1)).toNat []).length)/\(cA .int ((T.getD ((-1)-((((aa n E Q H tu).1).getD i.toNat (0,[])).1)).toNat []).getD 0 0))/\((-9223372036854775808<=((af (aq n E V L T S) ((T.getD ((-1)-((((aa n E Q H tu).1).getD i.toNat (0,[])).1)).toNat []).getD 0 0)).getD 0)/\((af (aq n E V L T S) ((T.getD ((-1)-((((aa n E Q H tu).1).getD i.toNat (0,[])).1)).toNat []).getD 0 0)).getD 0)<=9223372036854775807)/\gT M2 K2 U2/\K2.length<=900000/\-900000<=c2/\c2<=900000/\(af M2 ((af (aq n E V L T S) ((T.getD ((-1)-((((aa n E Q H tu).1).getD i.toNat (0,[])).1)).toNat []).getD 0 0)).getD 0)).isSome=true)/\(cA .int (K2.getD (iq U2 ((af M2 ((af (aq n E V L T S) ((T.getD ((-1)-((((aa n E Q H tu).1).getD i.toNat (0,[])).1)).toNat []).getD 0 0)).getD 0)).getD 0)).toNat 0))/\(((af tg (K2.getD (iq U2 ((af M2 ((af (aq n E V L T S) ((T.getD ((-1)-((((aa n E Q H tu).1).getD i.toNat (0,[])).1)).toNat []).getD 0 0)).getD 0)).getD 0)).toNat 0)).getD []).length+([(((aa n E Q H tu).1).getD i.toNat (0,[])).1]:List Int).length<=2147483647)/\(cA .int (K2.getD (iq U2 ((af M2 ((af (aq n E V L T S) ((T.getD ((-1)-((((aa n E Q H tu).1).getD i.toNat (0,[])).1)).toNat []).getD 0 0)).getD 0)).getD 0)).toNat 0))/\(tA (k:=.int) (some (K2.getD (iq U2 ((af M2 ((af (aq n E V L T S) ((T.getD ((-1)-((((aa n E Q H tu).1).getD i.toNat (0,[])).1)).toNat []).getD 0 0)).getD 0)).getD 0)).toNat 0)) (K2.getD (iq U2 ((af M2 ((af (aq n E V L T S) ((T.getD ((-1)-((((aa n E Q H tu).1).getD i.toNat (0,[])).1)).toNat []).getD 0 0)).getD 0)).getD 0)).toNat 0))/\(tg.length<=2147483647)/\(bR .i64 (i+1))) [] h ⟨bx,bx,wk,⟨⟨by omega,by omega⟩,gh,by omega,by omega,by omega,Q3⟩,wk,ln,wk,rfl,ln,cz⟩ fun _ _ h=>?_
      exact dR (DA (i+1,M2,K2,gu U2 ((af M2 ((af (aq n E V L T S) ((T.getD ((-1)-((((aa n E Q H tu).1).getD i.toNat (0,[])).1)).toNat []).getD 0 0)).getD 0)).getD 0),c2,(b9 tg (K2.getD (iq U2 ((af M2 ((af (aq n E V L T S) ((T.getD ((-1)-((((aa n E Q H tu).1).getD i.toNat (0,[])).1)).toNat []).getD 0 0)).getD 0)).getD 0)).toNat 0) (((af tg (K2.getD (iq U2 ((af M2 ((af (aq n E V L T S) ((T.getD ((-1)-((((aa n E Q H tu).1).getD i.toNat (0,[])).1)).toNat []).getD 0 0)).getD 0)).getD 0)).toNat 0)).getD [])++([(((aa n E Q H tu).1).getD i.toNat (0,[])).1]:List Int)))) (rk [0,1,2,3,4,5,6,7,8,151567,151568,151569,12,213006]) h ⟨by dsimp only;omega,by dsimp only;omega,by dsimp only;exact hh1,by dsimp only;exact w3,by dsimp only;rw[zD w0,<-w4,hwv]⟩ (by dsimp only;omega))
     have pQ:(qI T ((aa n E Q H tu).1.getD i.toNat (0,[])).1)=((aa n E Q H tu).1.getD i.toNat (0,[])).1:=by rw[JZ wC,if_neg (by omega)]
     have QL:=Xs _ (Q8.pt wq)
     rw[pQ] at QL
     have aay:=Ls ((aa n E Q H tu).1.getD i.toNat (0,[])).1
     have hh:=w2.head oC (x:=((af (aq n E V L T S) (((aa n E Q H tu).1.getD i.toNat (0,[])).1)).getD 0)) QL
     have hh1:=hh.1
     have hh2:=hh.2
     have gh:gT M2 K2 U2:=w2.rep oC
     have zL:M2.length<=K2.length:=gh.nG
     have UT:U2.length=K2.length:=gh.len
     have aaz:K2.length<=100001:=by rw[w2.l];exact Xp
     have aaA:0<=c2/\c2<=100001:=by rw[w3];exact Xq
     have A7:=uz (h:=(L6 (aq n E V L T S) T (M1,K1,U1,c1))) (W:=(aa n E Q H tu).1) i.toNat
     rw[<-w4] at A7
     have aaB:tg.length<=1000000:=by omega
     have htg:∀x,((af tg x).getD []).length<=i.toNat:=fun x=>by rw[w4];exact QA (by omega) x
     have Q3:(af M2 ((af (aq n E V L T S) (((aa n E Q H tu).1.getD i.toNat (0,[])).1)).getD 0)).isSome=true:=by rw[w2.m];exact QL
     have F1:=Dr (by decide) Xr (iq U2 ((af M2 ((af (aq n E V L T S) (((aa n E Q H tu).1.getD i.toNat (0,[])).1)).getD 0)).getD 0)).toNat
     rw[<-show K2=K1 from w2.l] at F1
     have hwv:(L6 (aq n E V L T S) T (M1,K1,U1,c1)) ((aa n E Q H tu).1.getD i.toNat (0,[]))=K2.getD (iq U2 ((af M2 ((af (aq n E V L T S) (((aa n E Q H tu).1.getD i.toNat (0,[])).1)).getD 0)).getD 0)).toNat 0:=by show L5 (M1,K1,U1,c1) ((af (aq n E V L T S) (qI T ((aa n E Q H tu).1.getD i.toNat (0,[])).1)).getD 0)=_;rw[pQ,hh2]
     have aaC:=htg (K2.getD (iq U2 ((af M2 ((af (aq n E V L T S) (((aa n E Q H tu).1.getD i.toNat (0,[])).1)).getD 0)).getD 0)).toNat 0)
     refine go (pr:=(cA .int ((((aa n E Q H tu).1).getD i.toNat (0,[])).1))/\((-9223372036854775808<=((af (aq n E V L T S) ((((aa n E Q H tu).1).getD i.toNat (0,[])).1)).getD 0)/\((af (aq n E V L T S) ((((aa n E Q H tu).1).getD i.toNat (0,[])).1)).getD 0)<=9223372036854775807)/\gT M2 K2 U2/\K2.length<=900000/\-900000<=c2/\c2<=900000/\(af M2 ((af (aq n E V L T S) ((((aa n E Q H tu).1).getD i.toNat (0,[])).1)).getD 0)).isSome=true)/\(cA .int (K2.getD (iq U2 ((af M2 ((af (aq n E V L T S) ((((aa n E Q H tu).1).getD i.toNat (0,[])).1)).getD 0)).getD 0)).toNat 0))/\(((af tg (K2.getD (iq U2 ((af M2 ((af (aq n E V L T S) ((((aa n E Q H tu).1).getD i.toNat (0,[])).1)).getD 0)).getD 0)).toNat 0)).getD []).length+([(((aa n E Q H tu).1).getD i.toNat (0,[])).1]:List Int).length<=2147483647)/\(cA .int (K2.getD (iq U2 ((af M2 ((af (aq n E V L T S) ((((aa n E Q H tu).1).getD i.toNat (0,[])).1)).getD 0)).getD 0)).toNat 0))/\(tA (k:=.int) (some (K2.getD (iq U2 ((af M2 ((af (aq n E V L T S) ((((aa n E Q H tu).1).getD i.toNat (0,[])).1)).getD 0)).getD 0)).toNat 0)) (K2.getD (iq U2 ((af M2 ((af (aq n E V L T S) ((((aa n E Q H tu).1).getD i.toNat (0,[])).1)).getD 0)).getD 0)).toNat 0))/\(tg.length<=2147483647)/\(bR .i64 (i+1))) [] h ⟨wk,⟨⟨by omega,by omega⟩,gh,by omega,by omega,by omega,Q3⟩,wk,ln,wk,rfl,ln,cz⟩ fun _ _ h=>?_
     exact dR (DA (i+1,M2,K2,gu U2 ((af M2 ((af (aq n E V L T S) ((((aa n E Q H tu).1).getD i.toNat (0,[])).1)).getD 0)).getD 0),c2,(b9 tg (K2.getD (iq U2 ((af M2 ((af (aq n E V L T S) ((((aa n E Q H tu).1).getD i.toNat (0,[])).1)).getD 0)).getD 0)).toNat 0) (((af tg (K2.getD (iq U2 ((af M2 ((af (aq n E V L T S) ((((aa n E Q H tu).1).getD i.toNat (0,[])).1)).getD 0)).getD 0)).toNat 0)).getD [])++([(((aa n E Q H tu).1).getD i.toNat (0,[])).1]:List Int)))) (rk [0,1,2,3,4,5,6,7,8,118799,118800,118801,12,180238]) h ⟨by dsimp only;omega,by dsimp only;omega,by dsimp only;exact hh1,by dsimp only;exact w3,by dsimp only;rw[zD w0,<-w4,hwv]⟩ (by dsimp only;omega))
    have wC:=hky.2.1 (by omega)
    have pQ:(qI T ((aa n E Q H tu).1.getD i.toNat (0,[])).1)=((aa n E Q H tu).1.getD i.toNat (0,[])).1:=by rw[TP wC]
    have QL:=Xs _ (Q8.pt wq)
    rw[pQ] at QL
    have aay:=Ls ((aa n E Q H tu).1.getD i.toNat (0,[])).1
    have hh:=w2.head oC (x:=((af (aq n E V L T S) (((aa n E Q H tu).1.getD i.toNat (0,[])).1)).getD 0)) QL
    have hh1:=hh.1
    have hh2:=hh.2
    have gh:gT M2 K2 U2:=w2.rep oC
    have zL:M2.length<=K2.length:=gh.nG
    have UT:U2.length=K2.length:=gh.len
    have aaz:K2.length<=100001:=by rw[w2.l];exact Xp
    have aaA:0<=c2/\c2<=100001:=by rw[w3];exact Xq
    have A7:=uz (h:=(L6 (aq n E V L T S) T (M1,K1,U1,c1))) (W:=(aa n E Q H tu).1) i.toNat
    rw[<-w4] at A7
    have aaB:tg.length<=1000000:=by omega
    have htg:∀x,((af tg x).getD []).length<=i.toNat:=fun x=>by rw[w4];exact QA (by omega) x
    have Q3:(af M2 ((af (aq n E V L T S) (((aa n E Q H tu).1.getD i.toNat (0,[])).1)).getD 0)).isSome=true:=by rw[w2.m];exact QL
    have F1:=Dr (by decide) Xr (iq U2 ((af M2 ((af (aq n E V L T S) (((aa n E Q H tu).1.getD i.toNat (0,[])).1)).getD 0)).getD 0)).toNat
    rw[<-show K2=K1 from w2.l] at F1
    have hwv:(L6 (aq n E V L T S) T (M1,K1,U1,c1)) ((aa n E Q H tu).1.getD i.toNat (0,[]))=K2.getD (iq U2 ((af M2 ((af (aq n E V L T S) (((aa n E Q H tu).1.getD i.toNat (0,[])).1)).getD 0)).getD 0)).toNat 0:=by show L5 (M1,K1,U1,c1) ((af (aq n E V L T S) (qI T ((aa n E Q H tu).1.getD i.toNat (0,[])).1)).getD 0)=_;rw[pQ,hh2]
    have aaC:=htg (K2.getD (iq U2 ((af M2 ((af (aq n E V L T S) (((aa n E Q H tu).1.getD i.toNat (0,[])).1)).getD 0)).getD 0)).toNat 0)
    refine go (pr:=(bX i ((aa n E Q H tu).1).length)/\(bR .i64 ((-1)-((((aa n E Q H tu).1).getD i.toNat (0,[])).1)))/\(¬((((((aa n E Q H tu).1).getD i.toNat (0,[])).2).length:Int)=0))/\(cA .int ((((aa n E Q H tu).1).getD i.toNat (0,[])).1))/\((-9223372036854775808<=((af (aq n E V L T S) ((((aa n E Q H tu).1).getD i.toNat (0,[])).1)).getD 0)/\((af (aq n E V L T S) ((((aa n E Q H tu).1).getD i.toNat (0,[])).1)).getD 0)<=9223372036854775807)/\gT M2 K2 U2/\K2.length<=900000/\-900000<=c2/\c2<=900000/\(af M2 ((af (aq n E V L T S) ((((aa n E Q H tu).1).getD i.toNat (0,[])).1)).getD 0)).isSome=true)/\(cA .int (K2.getD (iq U2 ((af M2 ((af (aq n E V L T S) ((((aa n E Q H tu).1).getD i.toNat (0,[])).1)).getD 0)).getD 0)).toNat 0))/\(((af tg (K2.getD (iq U2 ((af M2 ((af (aq n E V L T S) ((((aa n E Q H tu).1).getD i.toNat (0,[])).1)).getD 0)).getD 0)).toNat 0)).getD []).length+([(((aa n E Q H tu).1).getD i.toNat (0,[])).1]:List Int).length<=2147483647)/\(cA .int (K2.getD (iq U2 ((af M2 ((af (aq n E V L T S) ((((aa n E Q H tu).1).getD i.toNat (0,[])).1)).getD 0)).getD 0)).toNat 0))/\(tA (k:=.int) (some (K2.getD (iq U2 ((af M2 ((af (aq n E V L T S) ((((aa n E Q H tu).1).getD i.toNat (0,[])).1)).getD 0)).getD 0)).toNat 0)) (K2.getD (iq U2 ((af M2 ((af (aq n E V L T S) ((((aa n E Q H tu).1).getD i.toNat (0,[])).1)).getD 0)).getD 0)).toNat 0))/\(tg.length<=2147483647)/\(bR .i64 (i+1))) [(133,false)] h ⟨bx,cz,z1,wk,⟨⟨by omega,by omega⟩,gh,by omega,by omega,by omega,Q3⟩,wk,ln,wk,rfl,ln,cz⟩ fun _ _ h=>?_
    exact dR (DA (i+1,M2,K2,gu U2 ((af M2 ((af (aq n E V L T S) ((((aa n E Q H tu).1).getD i.toNat (0,[])).1)).getD 0)).getD 0),c2,(b9 tg (K2.getD (iq U2 ((af M2 ((af (aq n E V L T S) ((((aa n E Q H tu).1).getD i.toNat (0,[])).1)).getD 0)).getD 0)).toNat 0) (((af tg (K2.getD (iq U2 ((af M2 ((af (aq n E V L T S) ((((aa n E Q H tu).1).getD i.toNat (0,[])).1)).getD 0)).getD 0)).toNat 0)).getD [])++([(((aa n E Q H tu).1).getD i.toNat (0,[])).1]:List Int)))) (rk [0,1,2,3,4,5,6,7,8,118799,118800,118801,12,180238]) h ⟨by dsimp only;omega,by dsimp only;omega,by dsimp only;exact hh1,by dsimp only;exact w3,by dsimp only;rw[zD w0,<-w4,hwv]⟩ (by dsimp only;omega))
   have uP:i.toNat=(aa n E Q H tu).1.length:=by omega
   rw[uP] at w4
   have A7:=uz (h:=(L6 (aq n E V L T S) T (M1,K1,U1,c1))) (W:=(aa n E Q H tu).1) (aa n E Q H tu).1.length
   rw[<-w4] at A7
   have W9:KN tg:=by rw[w4];exact U0 _
   refine aZ [] h fun _ _ h=>?_
   refine tI (Int->Bool) Nat (Option (Int×List Int)) (List (List Int)) (fun LD cnt cur ou=>⟨[(8,ep 0),(17,ep 1),(168,ep 2)],[(0,some (.box 30 [.v (.slice none 0 0),.v (.slice none 0 0)])),(1,some (.box 30 [.own 3,.own 4])),(2,some (.iter .int (.list .int) tg LD cnt cur)),(3,some (.row 25 (.list .int) tu)),(4,some (.row 25 (.list .int) ou))],5⟩) (fun LD cnt cur ou=>HU tg LD ou/\True) (fun LD cnt cur ou=>cnt) (fun z=>(af tg z).isSome) tg.length none [] [(0,some 1),(1,some 4),(2,some 8206),(3,some 12),(4,none)] h ⟨HU.start,tv⟩ fun LD cnt cur ou _ _ _ hK5 hI h=>?_
   obtain⟨hO,_⟩:=hI
   refine aZ [] h fun _ _ h=>?_
   refine tK ⟨.int,(.list .int),tg,LD,cnt,cur,2,169⟩ h (fun(gH:∀x:Int,LD x=false) _ _ h=>?_) (fun(k2:Int) (v2:List Int) (c2:Nat) (gH:LD k2=true) (Ah: -9223372036854775808<=k2/\k2<=9223372036854775807) (hk2:af tg k2=some v2) (ZB:c2<cnt) _ _ h=>?_)
   .have qd:=Q8.fin hI RQ (by rw[k2,<-Yb,<-w4];exact hO) gH
    have Q4:=hO.len W9
    refine go (pr:=(ga ou/\ou.length<=1000000)) [] h (⟨qd.1,by omega⟩) fun _ _ h=>?_
    exact out (((tu,iT ou):(List (List Int))×List (List Int)),((0:Int):Int),()) h (by rw[B5.ok Q8.x Q8.p hwi,<-qd.2,Yb])
   have Q4:=hO.len W9
   refine aZ [] h fun _ _ h=>?_
   refine av h (fun(q9:(1:Int)<(v2.length:Int))=>?_) (fun(q9:¬((1:Int)<(v2.length:Int)))=>?_)
   .refine go (pr:=(ou.length+([v2]:List (List Int)).length<=2147483647)) [] h ln fun _ _ h=>?_
    exact dR (hK5 (fun z=>LD z && !decide (z=k2)) c2 (some (k2,v2)) (ou++([v2]:List (List Int))) (rk [0,1,2,3,49157]) h ⟨hO.take gH hk2 (by have:=q9;omega),tv⟩ (ZB))
   refine aZ [] h fun _ _ h=>?_
   exact dR (hK5 (fun z=>LD z && !decide (z=k2)) c2 (some (k2,v2)) ou (ir 5) h ⟨hO.stay hk2 (by have:=q9;omega),tv⟩ (ZB))
  have Ef:=Db nQ Ac
  have gh:gT M K U:=hI.ok.rep
  have zL:M.length<=K.length:=gh.nG
  have UT:U.length=K.length:=gh.len
  have M4:0<=c/\c<=(K.length:Int):=hI.ok.bd
  have QU:=hI.len
  change K.length<=100001 at QU
  refine go (pr:=((-9223372036854775808<=v1/\v1<=9223372036854775807)/\M.length<=900000/\K.length<=900000/\U.length<=900000/\-900000<=c/\c<=900000)) [] h (⟨⟨by omega,by omega⟩,by omega,by omega,by omega,by omega,by omega⟩) fun _ _ h=>?_
  exact dR (eH ((fun z=>lf z && !decide (z=k1)),c1,some (k1,v1),bD M K v1,bT M K v1,cg M K U v1,gR M c v1) (rk [0,1,2,3,4,5,6,7,8,9,10,11,12,13,14,28691,28692,28693]) h ⟨hI.step Ac (Db nQ Ac),tv⟩ (vI))
 refine go (pr:=(cF n)/\(¬(aS n E Q H=0))) [(46,true)] h ⟨hn,z1⟩ fun _ _ h=>?_
 exact out ((([],[]):(List (List Int))×List (List Int)),((4:Int):Int),()) h (by rw[toX_part gz (.inl z1)])
noncomputable def abK:dy Tryz.prog:=plain abI
end
theorem T3:bG Tryz.prog 74 [(false,(.pair (.list (.list .int)) (.list (.list .int))))] [(.pair (.list (.list .int)) (.list (.list .int)))] (fun x=>az (K_ x.1.1)/\az (K_ x.1.2)) (fun x=>(((K_ x.1.1).map aI,(K_ x.1.2)),())):=by
 refine bn Tryz.f74 39 [C5,Dh] Tryz.func74 fun o x hd _ _ h=>?_
 obtain⟨⟨(T:List (List Int)),(S:List (List Int))⟩,_⟩:=x
 have jt:=gC h 0 T
 have gE:=gC h 1 S
 change az T/\az S at hd
 obtain⟨dc,dO⟩:=hd
 have nQ:=dO.1
 have WD:=dc.1
 refine aZ [] h fun _ _ h=>?_
 refine bq Int (List (List Int)) (fun i tu=>⟨[(1,ep 0),(2,ep 1),(3,ep 2),(9,eo 3),(10,en (T.length:Int)),(11,en i)],[(0,some (.box 30 [.own 3,.own 4])),(1,some (.box 30 [.v (.slice none 0 0),.v (.slice none 0 0)])),(2,some (.box 30 [.own 5,.v (.slice none 0 0)])),(3,some (.ar (.list .int) T)),(4,some (.ar (.list .int) S)),(5,some (.row 25 (.list .int) tu))],6⟩) (fun i tu=>0<=i/\i<=(T.length:Int)/\tu=(T.take i.toNat).map aI) (fun i tu=>((T.length:Int)-i).toNat) 0 [] [(0,some 2),(1,some 4098),(2,some 8194),(3,some 0),(4,some 1),(5,none)] h ⟨Int.le_refl _,Int.natCast_nonneg _,rfl⟩ fun i tu _ _ _ eH hI h=>?_
 obtain⟨m0,m1,m2⟩:=hI
 refine aZ [] h fun _ _ h=>?_
 refine av h (fun(q1:i<(T.length:Int))=>?_) (fun(q1:¬(i<(T.length:Int)))=>?_)
 .have WY:(T.getD i.toNat [])∈T:=ag (by omega)
  have LL:=dc.2 _ WY
  have abJ:tu.length=i.toNat:=by rw[m2,List.length_map,List.length_take];omega
  refine go (pr:=(bX i T.length)/\((T.getD i.toNat []).length<=1000000)/\(tu.length+([aI (T.getD i.toNat [])]:List (List Int)).length<=2147483647)/\(bR .i64 (i+1))) [] h ⟨bx,by omega,ln,cz⟩ fun _ _ h=>?_
  exact dR (eH (i+1) (tu++([aI (T.getD i.toNat [])]:List (List Int))) (rk [0,1,2,3,4,36870]) h ⟨by omega,by omega,by rw[u0 [] m0 (by omega),<-m2]⟩ (by omega))
 have XX:i.toNat=T.length:=by omega
 rw[XX,List.take_length] at m2
 refine aZ [] h fun _ _ h=>?_
 refine bq Int (List (List Int)) (fun i ou=>⟨[(2,ep 0),(3,ep 1),(24,eo 2),(25,en (S.length:Int)),(26,en i)],[(0,some (.box 30 [.v (.slice none 0 0),.v (.slice none 0 0)])),(1,some (.box 30 [.own 3,.own 4])),(2,some (.ar (.list .int) S)),(3,some (.row 25 (.list .int) tu)),(4,some (.row 25 (.list .int) ou))],5⟩) (fun i ou=>0<=i/\i<=(S.length:Int)/\ou=S.take i.toNat) (fun i ou=>((S.length:Int)-i).toNat) 0 [] [(0,some 1),(1,some 2),(2,some 4),(3,some 5),(4,none)] h ⟨Int.le_refl _,Int.natCast_nonneg _,rfl⟩ fun i ou _ _ _ lS hI h=>?_
 obtain⟨k0,k1,k2⟩:=hI
 refine aZ [] h fun _ _ h=>?_
 refine av h (fun(q2:i<(S.length:Int))=>?_) (fun(q2:¬(i<(S.length:Int)))=>?_)
 .have hSm:(S.getD i.toNat [])∈S:=ag (by omega)
  have F7:=dO.2 _ hSm
  have ach:ou.length=i.toNat:=by rw[k2,List.length_take];omega
  refine go (pr:=(bX i S.length)/\((S.getD i.toNat []).length<=1000000)/\(ou.length+([(S.getD i.toNat [])]:List (List Int)).length<=2147483647)/\(bR .i64 (i+1))) [] h ⟨bx,by omega,ln,cz⟩ fun _ _ h=>?_
  exact dR (lS (i+1) (ou++([(S.getD i.toNat [])]:List (List Int))) (rk [0,1,2,3,36869]) h ⟨by omega,by omega,by rw[show(i+1).toNat=i.toNat+1 by omega,bU (show i.toNat<S.length by omega) [],<-k2]⟩ (by omega))
 have zm:i.toNat=S.length:=by omega
 rw[zm,List.take_length] at k2
 refine aZ [] h fun _ _ h=>?_
 exact out (((tu,ou):(List (List Int))×List (List Int)),()) h (by rw[m2,k2];rfl)
def T4:dy Tryz.prog:=plain T3
abbrev QM:rD:=⟨[.rd (.list .int),.rd (.list .int)],[.own 0,.own 1,.mA 41 []],[.rd (.list .int),.rd (.list .int)],[.bool],2⟩
theorem aaD:eO Tryz.prog 75 QM (fun _=>True) (fun x=>(((K_ x.1.1),(K_ x.1.2.1),()),(decide ((K_ x.1.1)=(K_ x.1.2.1)),()))):=by
 refine fo Tryz.f75 32 [JB] QM Tryz.func75 fun o A x hd _ _ h=>?_
 obtain⟨⟨(la:List (List Int)),(lb:List (List Int)),_⟩,⟨_,_,_,_⟩⟩:=x
 have jt:=gC h 0 la
 have gE:=gC h 1 lb
 refine aZ [] h fun _ _ h=>?_
 refine av h (fun(q1:¬((la.length:Int)=(lb.length:Int)))=>?_) (fun(q1:(la.length:Int)=(lb.length:Int))=>?_)
 .refine aZ [] h fun _ _ h=>?_
  exact kJ ((la,lb,()),(false,())) (ir 2) h (by rw[show decide (la=lb)=false from decide_eq_false fun e=>q1 (by rw[e])])
 have hle:=q1
 refine aZ [] h fun _ _ h=>?_
 refine go_loop (Int) (fun i=>⟨[(1,eo 1),(2,some ⟨[],.one (.mA 41 [])⟩),(15,eo 0),(16,en (la.length:Int)),(17,en i)],[(0,some (.ar (.list .int) la)),(1,some (.ar (.list .int) lb))],2⟩) (fun i=>0<=i/\i<=(la.length:Int)/\∀j:Nat,(j:Int)<i->la.getD j []=lb.getD j []) (fun i=>((la.length:Int)-i).toNat) (0) (ir 2) h ⟨Int.le_refl _,Int.natCast_nonneg _,fun j hj=>by omega⟩ fun i _ _ _ eH hI h=>?_
 obtain⟨i0,i1,i2⟩:=hI
 refine aZ [] h fun _ _ h=>?_
 refine av h (fun(q2:i<(la.length:Int))=>?_) (fun(q2:¬(i<(la.length:Int)))=>?_)
 .refine go (pr:=(bX i la.length)/\(bX i lb.length)/\True) [] h ⟨bx,bx,tv⟩ fun _ _ h=>?_
  refine av h (fun(q3:(decide ((la.getD i.toNat [])=(lb.getD i.toNat [])))=false)=>?_) (fun(q3:(decide ((la.getD i.toNat [])=(lb.getD i.toNat [])))=true)=>?_)
  .refine aZ [] h fun _ _ h=>?_
   exact kJ ((la,lb,()),(false,())) (ir 2) h (by rw[show decide (la=lb)=false from decide_eq_false fun e=>(of_decide_eq_false q3) (by rw[e])])
  refine go (pr:=(bR .i64 (i+1))) [] h cz fun _ _ h=>?_
  exact dR (eH (i+1) (ir 2) h ⟨by omega,by omega,fun j hj=>if z:(j:Int)<i then i2 j z else by rw[show j=i.toNat by omega];exact of_decide_eq_true q3⟩ (by omega))
 refine aZ [] h fun _ _ h=>?_
 exact kJ ((la,lb,()),(true,())) (ir 2) h (by rw[show decide (la=lb)=true from decide_eq_true (List.ext_getElem (by omega) fun j h1 h2=>by have:=i2 j (by omega);rwa[getD_eq h1,getD_eq h2] at this)])
def aaE:dy Tryz.prog:=oJ aaD
theorem T5:bG Tryz.prog 36 [(false,(.pair (.list (.list .int)) (.list (.list .int)))),(false,(.pair (.list (.list .int)) (.list (.list .int))))] [.bool] (fun x=>az (K_ x.1.1)/\az (K_ x.1.2)/\az (K_ x.2.1.1)/\az (K_ x.2.1.2)) (fun x=>(QB (K_ x.1.1) (K_ x.1.2) (K_ x.2.1.1) (K_ x.2.1.2),())):=by
 refine bn Tryz.f36 21 [T4,aaE] Tryz.func36 fun o x hd _ _ h=>?_
 obtain⟨⟨(T:List (List Int)),(S:List (List Int))⟩,⟨(U:List (List Int)),(R:List (List Int))⟩,_⟩:=x
 have jt:=gC h 0 T
 have gE:=gC h 1 S
 have gH:=gC h 2 U
 have lT:=gC h 3 R
 change az T/\az S/\az U/\az R at hd
 obtain⟨hs1,QZ,hs3,hs4⟩:=hd
 refine go (pr:=(az T/\az S)/\(az U/\az R)/\True/\(((decide (T.map aI=U.map aI))=true)->True)) [] h ⟨⟨hs1,QZ⟩,⟨hs3,hs4⟩,tv,fun _=>trivial⟩ fun _ _ h=>?_
 exact out (((decide (T.map aI=U.map aI)) && (decide (S=R)):Bool),()) h rfl
def T6:dy Tryz.prog:=plain T5
section
attribute [local irreducible] toX QB aM
theorem aaF:bG Tryz.prog 15 [(false,nv),(false,kI),(false,(.pair (.list (.list .int)) (.list (.list .int)))),(false,kI),(false,(.pair (.list (.list .int)) (.list (.list .int))))] [.bool] (fun x=>cF (I_ x.1.1)/\aC (K_ x.2.2.1.1)/\az (K_ x.2.2.1.1)/\aC (K_ x.2.2.1.2)/\az (K_ x.2.2.1.2)/\aC (K_ x.2.2.2.2.1.1)/\az (K_ x.2.2.2.2.1.1)/\aC (K_ x.2.2.2.2.1.2)/\az (K_ x.2.2.2.2.1.2)) (fun x=>(vu (I_ x.1.1) (E_ x.1.2) (J_ x.2.1.1) (J_ x.2.1.2) (K_ x.2.2.1.1) (K_ x.2.2.1.2) (J_ x.2.2.2.1.1) (J_ x.2.2.2.1.2) (K_ x.2.2.2.2.1.1) (K_ x.2.2.2.2.1.2),())):=by
 refine bn Tryz.f15 33 [qA,T6,abK] Tryz.func15 fun o x hd _ _ h=>?_
 obtain⟨⟨(n:Int),(E:List (Int×Int))⟩,⟨(V:List Int),(L:List Int)⟩,⟨(T:List (List Int)),(S:List (List Int))⟩,⟨(Q:List Int),(H:List Int)⟩,⟨(U:List (List Int)),(R:List (List Int))⟩,_⟩:=x
 have jt:=mh h 0 E
 have gE:=dh h 1 V
 have gH:=dh h 2 L
 have lT:=gC h 3 T
 have Am:=gC h 4 S
 have L1:=dh h 5 Q
 have SQ:=dh h 6 H
 have hl7:=gC h 7 U
 have hl8:=gC h 8 R
 change cF n/\aC T/\az T/\aC S/\az S/\aC U/\az U/\aC R/\az R at hd
 obtain⟨hn,eS,dc,e6,dO,qC,oO,qD,pL⟩:=hd
 refine go (pr:=(cF n/\aC U/\az U/\aC R/\az R)) [] h (⟨hn,qC,oO,qD,pL⟩) fun _ _ h=>?_
 refine av h (fun(q1:¬(aM n E Q H U R=0))=>?_) (fun(q1:aM n E Q H U R=0)=>?_)
 .refine aZ [] h fun _ _ h=>?_
  exact out ((false:Bool),()) h (by unfold vu;rw[decide_eq_false q1];rfl)
 have Y0:aM n E Q H U R=0:=q1
 by_cases z1:(toX n E V L T S Q H).2=0
 .refine go (pr:=(cF n/\aC T/\az T/\aC S/\az S)/\((toX n E V L T S Q H).2=0)/\(az (toX n E V L T S Q H).1.1/\az (toX n E V L T S Q H).1.2/\az U/\az R)) [(28,true)] h ⟨⟨hn,eS,dc,e6,dO⟩,z1,⟨(toX_sz z1 dc).1,(toX_sz z1 dc).2,oO,pL⟩⟩ fun _ _ h=>?_
  exact out ((QB (toX n E V L T S Q H).1.1 (toX n E V L T S Q H).1.2 U R:Bool),()) h (by unfold vu;rw[decide_eq_true Y0,decide_eq_true z1];rfl)
 refine go (pr:=(cF n/\aC T/\az T/\aC S/\az S)/\(¬((toX n E V L T S Q H).2=0))) [(28,false)] h ⟨⟨hn,eS,dc,e6,dO⟩,z1⟩ fun _ _ h=>?_
 exact out ((false:Bool),()) h (by unfold vu;rw[decide_eq_true Y0,decide_eq_false z1];rfl)
noncomputable def aaG:dy Tryz.prog:=plain aaF
end
theorem wA (w:World)(n:Int)(E:List (Int×Int))(V:List Int)(L:List Int)(T:List (List Int))(S:List (List Int))(U:List (List Int))(R:List (List Int))(v0:Value)(v1:Value)(g0:Rd (· <w.heap.size) w v0 (((n,E),((V,L),(T,S))):(Int×List (Int×Int))×((List Int)×List Int)×(List (List Int))×List (List Int)))(g1:Rd (· <w.heap.size) w v1 ((U,R):(List (List Int))×List (List Int)))(hn:cF n)(eS:aC T)(e6:aC S)(qC:aC U)(qD:aC R):Calls Tryz.prog 4 [v0,v1].toArray w (Ans (.bool true) w):=by
 refine La (Si Tryz.f4 37 [TS,JE,aaG,Fs,Wu,C4] (c9:=[(true,(.pair nv (.pair kI (.pair (.list (.list .int)) (.list (.list .int)))))),(true,(.pair (.list (.list .int)) (.list (.list .int))))]) (rs:=[.bool]) [] (V1 w) [v0,v1] (((n,E),((V,L),(T,S))),(U,R),()) ⟨g0,g1,tv⟩ Tryz.func4 fun _ _ h=>?_)
 have jt:=mh h 0 E
 have gE:=dh h 1 V
 have gH:=dh h 2 L
 have lT:=gC h 3 T
 have Am:=gC h 4 S
 have L1:=gC h 5 U
 have SQ:=gC h 6 R
 refine go (pr:=True/\((true=true)->(cF n))) [] h ⟨tv,fun _=>hn⟩ fun _ _ h=>?_
 refine av h (fun(q1:(true=false)\/((ZS n E V L T S U R)=false))=>?_) (fun(q1:(true=true)/\((ZS n E V L T S U R)=true))=>?_)
 .refine go (pr:=True) [] h tv fun _ _ h=>?_
  exact out ((true:Bool),()) h rfl
 obtain⟨dc,dO,oO,pL⟩:=Wl q1.2
 by_cases z1:jw n E V L T S=0
 .refine go (pr:=(cF n/\aC T/\az T/\aC S/\az S/\aC U/\az U/\aC R/\az R)/\(cF n/\aC T/\az T/\aC S/\az S)/\(jw n E V L T S=0)/\(cF n)/\(cF n/\aC U/\az U/\aC R/\az R/\aC T/\az T/\aC S/\az S)) [(23,true)] h ⟨⟨hn,eS,dc,e6,dO,qC,oO,qD,pL⟩,⟨hn,eS,dc,e6,dO⟩,z1,hn,⟨hn,qC,oO,qD,pL,eS,dc,e6,dO⟩⟩ fun _ _ h=>?_
  exact out (((decide (fN n E V L T S U R=0))==(vu n E (aR n E).1 (aR n E).2 U R V L T S):Bool),()) h (by rw[Xj z1])
 refine go (pr:=(cF n/\aC T/\az T/\aC S/\az S/\aC U/\az U/\aC R/\az R)/\(cF n/\aC T/\az T/\aC S/\az S)/\(¬(jw n E V L T S=0))) [(23,false)] h ⟨⟨hn,eS,dc,e6,dO,qC,oO,qD,pL⟩,⟨hn,eS,dc,e6,dO⟩,z1⟩ fun _ _ h=>?_
 exact out (((decide (fN n E V L T S U R=0))==false:Bool),()) h (by rw[aar z1])
end Go.Proofs.YtnfdimfepbbbpaaGreat
