/-
  Texts joined by program: VI, VIA, VI1, VI2, VJ1, VJ, VJ2, VJ3, VJ4, VJ5, VJ6.
-/
import Derived.Test.YtnfdimfepbbbpaaGreatDoorJFileCases2
import Derived.Deep.AppendSrc
import Derived.Laws.MakeOwn
import Derived.Laws.Slices
set_option linter.unusedSimpArgs false
set_option linter.unusedVariables false
set_option maxRecDepth 100000
set_option maxHeartbeats 8000000
namespace Go.Proofs.YtnfdimfepbbbpaaGreatDoor
open Go.RowKit
def argsT:(ags:List (Bool×Ty))->List Sy->(ArgV ags->Tr Out)->Tr Out
 |[],[],k=>k ()
 |p::ags,y::ys,k=>gathSy p.2 y fun x=>argsT ags ys fun xs=>k (x,xs)
 |_,_,_=>.fail
def keepCs:List (Bool×Ty)->List Sy->List Sc
 |(true,_)::ags,y::ys=>syCells y++keepCs ags ys
 |(false,_)::ags,_::ys=>keepCs ags ys
 |_,_=>[]
def callP {ags:List (Bool×Ty)}{rs:List Ty}(dom:ArgV ags->Prop)(fn:ArgV ags->Vals rs)(b:Nat)(caps:List (Nat×Nat))(ys:List Sy):Tr Out:=
 match caps with
 |[]=>frz (keepCs ags ys) fun re=>argsT ags ys fun x=>.ret ⟨[dom x],[],(retSy rs (fn x) b).1,(retSy rs (fn x) b).2++re⟩
 |_=>.fail
section
variable {P:Program}{o:OrgG}{n:Nat}
def After (o:OrgG)(n:Nat)(F:Nat->Prop)(s:Nat->Option E2)(r:Nat->Option R2)(a:Act)(out:Out)(v:Value)(w':World):Prop:=
 ∃A' S',OkF o n A' S' (FU F out.re) s (setM r out.re) a w'/\v=out.sy.den A'/\out.sy.all (FU F out.re)/\out.sy.good A'
end
def ConTr (P:Program)(f:FuncId)(tr:Nat->List (Nat×Nat)->List Sy->Tr Out):Prop:=
 ∀(o:OrgG) (n:Nat) (A:Asg) (S:Stab) (F:Nat->Prop) (s:Nat->Option E2) (r:Nat->Option R2) (a:Act) (w:World) (b B:Nat) (caps:List (Nat×Nat)) (ys:List Sy) (out:Out),
  OkF o n A S F s r a w->(∀j,b<=j->j<B->¬F j)->(∀y∈ys,y.all F/\y.good A)->(∀c∈caps,F c.1)->(tr b caps ys).run s r=some out->(∀p∈out.cs,p)->(∀h∈out.hs,∀A w,h.lhs A w=h.rhs A w)->(∀p∈out.re,p.1<B)->
  Calls P f (ys.map (Sy.den A)++caps.map (fun c=>Value.pointer (some ⟨A.b c.1,c.2,none⟩))).toArray w (fun e w'=> ∃v,e= .returned v/\After o n F s r a out v w')
structure Con (P:Program) where
 f:FuncId
 tr:Nat->List (Nat×Nat)->List Sy->Tr Out
 ok:ConTr P f tr
def boxHid (P:Program)(t:TypeId)(y:Sy)(cs:List Sc):Hid:=
 ⟨fun A w=>(Instr.box t (y.den A)).run P w,fun A w=>.ok (.pointer (some ⟨w.heap.size,0,none⟩)) (w.alloc (.cells (cs.map (Sc.den A)).toArray t))⟩
def allocHid (P:Program)(t:TypeId)(cs:List Sc):Hid:=
 ⟨fun _ w=>(Instr.alloc t true (.tuple #[])).run P w,fun A w=>.ok (.pointer (some ⟨w.heap.size,0,none⟩)) (w.alloc (.cells (cs.map (Sc.den A)).toArray t))⟩
def litHid (P:Program)(t len:Nat)(e:TypeId)(ys:List (Nat×Sy))(cs:List Sc):Hid:=
 ⟨fun A w=>(Instr.buildSlice t len (ys.map fun y=>(y.1,y.2.den A)).toArray).run P w,fun A w=>.ok (.slice (some ⟨w.heap.size,0,none⟩) len len) (w.alloc (.cells (cs.map (Sc.den A)).toArray e))⟩
def buildHid (P:Program)(t:TypeId)(ys:List (Nat×Sy))(cs:List Sc):Hid:=
 ⟨fun A w=>(Instr.build t (ys.map fun y=>(y.1,y.2.den A)).toArray).run P w,fun A w=>.ok (.agg (cs.map (Sc.den A)).toArray) w⟩
def codeOf (P:Program):Nat->TypeId->Option Ty
 |0,_=>none
 |k+1,t=>match P.underlying t with
  |some (.int .i64)=>some .int
  |some .bool=>some .bool
  |some .string=>some .str
  |some (.slice e)=>(codeOf P k e).map .list
  |some (.map q e)=>match P.underlying q with
   |some (.int .i64)=>(codeOf P k e).map (.map .int)
   |some .string=>(codeOf P k e).map (.map .str)
   |_=>none
  |some (.struct fs)=>pairs (fs.toList.map fun f=>codeOf P k f.type)
  |_=>none
where pairs:List (Option Ty)->Option Ty
 |[some t]=>some t
 |some t::r=>(pairs r).map (.pair t)
 |[]=>some .unit
 |_=>none
def elemB (P:Program)(t e:TypeId)(sz:Nat):Bool:=
 match P.underlying t,P.info? e with
 |some (.slice e'),some i=>match i.zero with
  |some z=>Nat.beq e' e && Nat.beq i.size sz && Nat.beq z.cells.size sz && Nat.blt 0 sz && Nat.ble i.bytes 1000
  |none=>false
 |_,_=>false
theorem elemB_ok {P:Program}{t e:TypeId}{sz:Nat}(h:elemB P t e sz=true):∃bytes,bytes<=1000/\Elem P t e sz bytes:=by
 unfold elemB at h
 split at h
 .rename_i e' i hu hi
  split at h
  .rename_i z hz
   simp only[Bool.and_eq_true] at h
   obtain⟨⟨⟨⟨h1,h2⟩,h3⟩,h4⟩,h5⟩:=h
   have h1:=beq_t h1;have h2:=beq_t h2;have h3:=beq_t h3
   subst h1
   exact⟨i.bytes,by simpa using Nat.le_of_ble_eq_true h5,hu,⟨i,z,hi,hz,h2,rfl,h3⟩,by simpa using Nat.blt_eq▸h4⟩
  cases h
 cases h
def gathAll (t:Ty):List Sy->(List (El t)->Tr Out)->Tr Out
 |[],k=>k []
 |y::ys,k=>gathSy t y fun x=>gathAll t ys fun xs=>k (x::xs)
def rangeB:Nat->List Nat->Bool
 |_,[]=>true
 |k,i::l=>Nat.beq i k && rangeB (k+1) l
def litT (P:Program)(b t len:Nat)(is:List Nat)(ys:List Sy):Tr Out:=
 match codeOf P 9 (P.elem t) with
 |some ty=>guardT (rangeB 0 is && (Nat.beq is.length len && Nat.beq ys.length len && elemB P t (P.elem t) (tsz ty)) && Nat.ble len 1000)
  (frz (ys.flatMap syCells) fun re=>gathAll ty ys fun l=>.ret ⟨[],[litHid P t len (P.elem t) (is.zip ys) (ys.flatMap syCells)],.one (.own b),[(b,some (.row (P.elem t) ty l))]++re⟩)
 |none=>.fail
def placeC (fs:Array Field):List (Nat×Sy)->List Sc->Option (List Sc)
 |[],cs=>some cs
 |(i,y)::l,cs=>match fs[i]? with
  |some fd=>placeC fs l (cs.take fd.offset++syCells y++cs.drop (fd.offset+(syCells y).length))
  |none=>none
def buildT (P:Program)(t:TypeId)(ys:List (Nat×Sy)):Tr Out:=
 match P.info? t,P.underlying t with
 |some i,some (.struct fs)=>match i.zero with
  |some z=>match placeC fs ys (z.cells.toList.map scOf) with
   |some cs=>.ret ⟨[],[buildHid P t ys cs],.agg cs,[]⟩
   |none=>.fail
  |none=>.fail
 |_,_=>.fail
def scOne:Sc->Bool
 | .v x=>x.oneCell'
 | .hd _ _ _=>false
 |_=>true
def storeT (P:Program)(t:TypeId):Sy->Sy->Tr Out
 | .one (.ptr j off),y=>.res j fun x=>match x with
  | .box bt cs=>guardT (Nat.ble (off+(syCells y).length) cs.length && Nat.beq (P.cellsOf t) (syCells y).length && (P.info? t).isSome && (syCells y).all scOne && (match y with| .tup _=>false|_=>true))
   (.ret ⟨[],[],.one (.v undef),[(j,some (.box bt (cs.take off++syCells y++cs.drop (off+(syCells y).length))))]⟩)
  |_=>.fail
 |_,_=>.fail
def makeMapT (P:Program)(b:Nat)(t:TypeId):Tr Out:=
 match P.underlying t,codeOf P 9 t with
 |some (.map kt _),some (.map k ty)=>guardT (kindB P kt k) (.ret ⟨[],[],.one (.mp b),[(b,some (.map k ty ([]:List (KEl k×El ty))))]⟩)
 |_,_=>.fail
def putT (P:Program)(t:TypeId)(p q y:Sy):Tr Out:=
 match P.underlying t,p with
 |some (.map kt et),.one (.mp j)=>.res j fun r=>match r with
  | .map k ty m=>match keySc k q with
   |some x=>guardT (kindB P kt k) (frz (syCells y) fun re=>guardT (re.all fun p=>!Nat.beq p.1 j) (gathSy ty y fun v=>.ret ⟨[kwf k x,(show List (KEl k×El ty) from m).length<=2147483647],[],.one (.v undef),(j,some (.map k ty (putK m x v)))::re⟩))
   |none=>.fail
  |_=>.fail
 |_,_=>.fail
def dropT (P:Program)(t kt':TypeId)(p q:Sy):Tr Out:=
 match P.underlying t,p with
 |some (.map kt et),.one (.mp j)=>.res j fun r=>match r with
  | .map k ty m=>match keySc k q with
   |some x=>guardT (kindB P kt k && Nat.beq kt kt') (.ret ⟨[kwf k x],[],.tup [],[(j,some (.map k ty (delK m x)))]⟩)
   |none=>.fail
  |_=>.fail
 |_,_=>.fail
def lenMT (P:Program)(t:TypeId)(p:Sy):Tr Out:=
 match P.underlying t,p with
 |some (.map kt et),.one (.mp j)=>.res j fun r=>match asMap r with
  |some ⟨k,t',m⟩=>guardT (kindB P kt k) (one (num ((show List (KEl k×El t') from m).length:Int)))
  |none=>.fail
 |_,_=>.fail
def isMapT (P:Program)(t:Option TypeId):Bool:=match t.bind P.underlying with
 |some (.map _ _)=>true
 |_=>false
section
variable {P:Program}{o:OrgG}{n:Nat}{A A':Asg}{S S' T:Stab}{F G:Nat->Prop}{s:Nat->Option E2}{r:Nat->Option R2}{a:Act}{w w':World}{C:List (Nat×Bool)}{b:Nat}
theorem setM_append (r:Nat->Option R2):∀x y:List (Nat×Option R2),setM r (x++y)=setM (setM r y) x
 |[],_=>rfl
 |p::x,y=>by show updR (setM r (x++y)) p.1 p.2=_;rw[setM_append r x y];rfl
theorem opds_run {α:Type 1}(H:OkF o n A S F s r a w)(hC:chOk a C):∀ {l:List Operand} {k:List Sy->Tr α} {out:α},(opds C l k).run s r=some out->∃ys:List Sy,l.map a.eval=ys.map (Sy.den A)/\(∀y∈ys,y.all F/\y.good A)/\(k ys).run s r=some out
 |[],k,out,h=>⟨[],rfl,fun _ q=>(by cases q),h⟩
 |x::l,k,out,h=>by
  obtain⟨y,e1,e2,e3,h⟩:=opd_run H hC h
  obtain⟨ys,f1,f2,h⟩:=opds_run H hC h
  refine⟨y::ys,by rw[List.map_cons,List.map_cons,e1,f1],fun z hz=>?_,h⟩
  rcases List.mem_cons.1 hz with rfl|hz
  .exact⟨e2,e3⟩
  exact f2 z hz
theorem frz_reads (H:OkF o n A S F s r a w){re:List (Nat×Option R2)}(hz:Frz r re)(hS:∀k,S k->S' k)(H':OkF o n A S' F s (setM r re) a w){l:List Sc}(hl:FrzL r re l):ReadsL S' w A r l:=by
 intro c hc j hcj x hx
 obtain⟨ha,hf⟩:=hl c hc j hcj x hx
 cases hz':frzOf x with
 |some z=>
  have h1:=reads_ro H' (frz_get hz (hf z hz')) ⟨x,hz'⟩
  cases x with
  |row e t l=>cases hz';exact⟨(fun t l q=>by cases q;exact h1.l _ _ rfl),(fun _ _ _ q=>by cases q),(fun _ _ q=>by cases q),(fun _ _ q=>by cases q)⟩
  |map k t m=>cases hz';exact⟨(fun _ _ q=>by cases q),(fun k t m q=>by cases q;exact h1.m _ _ _ rfl),(fun _ _ q=>by cases q),(fun _ _ q=>by cases q)⟩
  |ext y=>
   cases y with
   |nest q hh e t ie l=>
    cases hh with
    |none=>cases hz';exact⟨(fun t l q=>by cases q;exact h1.l _ _ rfl),(fun _ _ _ q=>by cases q),(fun _ _ q=>by cases q),(fun _ _ q=>by cases q)⟩
    |some _=>cases hz'
   |nmap q k hh t ie m=>
    cases hh with
    |none=>cases hz';exact⟨(fun _ _ q=>by cases q),(fun k t m q=>by cases q;exact h1.m _ _ _ rfl),(fun _ _ q=>by cases q),(fun _ _ q=>by cases q)⟩
    |some _=>cases hz'
   |vw _ _ _ _ _=>cases hz';exact⟨(fun t l q=>by cases q;exact h1.l _ _ rfl),(fun _ _ _ q=>by cases q),(fun _ _ q=>by cases q),(fun _ _ q=>by cases q)⟩
   |_=>cases hz'
  |_=>cases hz'
 |none=>
  have h1:=rdAt_own H hx ha
  have low:(∀k,(x.den A j).has k->S' k)->RdAt S' w A j x:=fun q=>h1.up fun k hk=>hk.elim (hS k) (q k)
  cases x with
  |ro t' l'=>exact low fun k q=>by cases q
  |mro k' t' l'=>exact low fun k q=>by cases q
  |box _ _=>exact⟨(fun _ _ q=>by cases q),(fun _ _ _ q=>by cases q),(fun _ _ q=>by cases q),(fun _ _ q=>by cases q)⟩
  |ar _ _=>cases ha
  |mar _ _ _=>cases ha
  |row _ _ _=>cases hz'
  |map _ _ _=>cases hz'
  |iter _ _ _ _ _ _=>exact⟨(fun _ _ q=>by cases q),(fun _ _ _ q=>by cases q),(fun _ _ q=>by cases q),(fun _ _ q=>by cases q)⟩
  |ext y=>
   cases y with
   |nest q hh e t ie l=>
    cases hh with
    |none=>cases hz'
    |some _=>exact⟨(fun _ _ q=>by cases q),(fun _ _ _ q=>by cases q),(fun _ _ q=>by cases q),(fun _ _ q=>by cases q)⟩
   |nmap q k hh t ie m=>
    cases hh with
    |none=>cases hz'
    |some _=>exact⟨(fun _ _ q=>by cases q),(fun _ _ _ q=>by cases q),(fun _ _ q=>by cases q),(fun _ _ q=>by cases q)⟩
   |pro t x=>exact low fun k q=>by cases q
   |prs t x=>exact low fun k q=>q.elim
   |par _ _=>cases ha
   |pas _ _=>cases ha
   |ent _ _ _ _ _=>exact⟨(fun _ _ q=>by cases q),(fun _ _ _ q=>by cases q),(fun _ _ q=>by cases q),(fun _ _ q=>by cases q)⟩
   |dfr _=>exact⟨(fun _ _ q=>by cases q),(fun _ _ _ q=>by cases q),(fun _ _ q=>by cases q),(fun _ _ q=>by cases q)⟩
   |vw _ _ _ _ _=>cases hz'
   |fwd _=>exact⟨(fun _ _ q=>by cases q),(fun _ _ _ q=>by cases q),(fun _ _ q=>by cases q),(fun _ _ q=>by cases q)⟩
   |byt _ _=>exact⟨(fun _ _ q=>by cases q),(fun _ _ _ q=>by cases q),(fun _ _ q=>by cases q),(fun _ _ q=>by cases q)⟩
theorem argsT_run (hr:Reads T w A r):∀ {ags:List (Bool×Ty)} {ys:List Sy} {k:ArgV ags->Tr Out} {out:Out},ReadsL S' w A r (keepCs ags ys)->(argsT ags ys k).run s r=some out->∃x:ArgV ags,ArgOk S' T w ags (ys.map (Sy.den A)) x/\(k x).run s r=some out
 |[],[],k,out,_,h=>⟨(),tv,h⟩
 |[],_::_,_,_,_,h=>by cases h
 |_::_,[],_,_,_,h=>by cases h
 |(true,t)::ags,y::ys,k,out,hk,h=>by
  obtain⟨x,h1,h⟩:=gathSy_run (T:=S') (fun c hc=>hk c (List.mem_append_left _ hc)) h
  obtain⟨xs,h2,h⟩:=argsT_run hr (fun c hc=>hk c (List.mem_append_right _ hc)) h
  exact⟨(x,xs),⟨h1,h2⟩,h⟩
 |(false,t)::ags,y::ys,k,out,hk,h=>by
  obtain⟨x,h1,h⟩:=gathSy_run (T:=T) (fun c _ j _=>hr j) h
  obtain⟨xs,h2,h⟩:=argsT_run (ags:=ags) (ys:=ys) hr hk h
  exact⟨(x,xs),⟨h1,h2⟩,h⟩
theorem wp_value {op:Oper}{v:Value}{K:Act->World->Prop}{Q:Exit->Act->World->Prop}(e:(execOp a.eval op).run P w= .ok (.value v) w')(k:K (a.put op.dst v) w'):op.wp P a w K Q:=by
 unfold Oper.wp;rw[e];exact k
theorem OkF.new (H:OkF o n A S F s r a w)(hF:¬F b){p:Option Addr}{m c:Nat}{x:Obj}{y:R2}(hok:(y.den (A.set b p m c w.heap.size) b).ok S (w.alloc x))(hb:∀k,(y.den (A.set b p m c w.heap.size) b).has k->k=w.heap.size)(hall:y.all (FU F [(b,some y)]))(hne:isAr y=false)(hg:y.good (A.set b p m c w.heap.size)):
  OkF o n (A.set b p m c w.heap.size) S (FU F [(b,some y)]) s (setM r [(b,some y)]) a (w.alloc x):=by
 have H1:=H.agree (Agr.set (A:=A) hF p m c w.heap.size) (G:=FU F [(b,some y)]) fun j h=>.inl h
 refine OkF.upd H1 b (some y) (fun z hz=>?_) (fun z e=>by cases e;exact arOk_not hne) (H1.frm.putNew b x _ hok hb)
 cases hz
 exact⟨.inr ⟨_,List.mem_singleton.2 rfl⟩,hall,hg⟩
theorem con_plain {f:FuncId}{ags:List (Bool×Ty)}{rs:List Ty}{dom:ArgV ags->Prop}{fn:ArgV ags->Vals rs}(ok:ConOk P f ags rs dom fn):ConTr P f (callP dom fn):=by
 intro o n A S F s r a w b B caps ys out H hF hys _ h hcs _ hB0
 unfold callP at h
 cases caps with
 |cons _ _=>cases h
 |nil=>
  obtain⟨re,hz,hl,h⟩:=frz_run _ _ h
  obtain⟨S',hS,H'⟩:=H.freeze hz
  obtain⟨xs,hxs,h⟩:=argsT_run (T:=(· <w.heap.size)) (S':=S') (reads_any H) (frz_reads H hz hS H' hl) h
  have e:=ret_run h
  subst e
  have hdom:dom xs:=hcs _ (List.mem_singleton.2 rfl)
  have hco:=ok H'.frm.at (ys.map (Sy.den A)) xs hxs hdom
  rw[List.map_nil,List.append_nil]
  refine hco.mono fun e w' ⟨v,he,hR,hB⟩=>⟨v,he,?_⟩
  obtain⟨A',k1,k2,k3,k4,k5⟩:=retSy_ok (o:=o) (S:=Since H'.frm.at w') (w:=w') (b:=b) (A:=A) (F:=F) hR hF fun p hp=>hB0 p (List.mem_append_left _ hp)
  have H2:OkF o n A (Since H'.frm.at w') F s (setM r re) a w':=⟨H'.size,H'.nodef,H'.env,H'.sall,H'.rall,H'.frm.call hB,H'.args,H'.pin⟩
  have H3:=H2.ro k1 k3
  rw[<-setM_append] at H3
  refine⟨A',_,⟨H3.size,H3.nodef,H3.env,fun t e he hc=>⟨Sy.mono ?_ (H3.sall t e he hc).1,(H3.sall t e he hc).2⟩,fun j x hj=>⟨?_,R2.mono ?_ (H3.rall j x hj).2.1,(H3.rall j x hj).2.2⟩,H3.frm,H3.args,⟨fun j hj=>(H3.pin.1 j hj).imp id fun⟨z,hz⟩=>⟨z,List.mem_append_left _ hz⟩,H3.pin.2⟩⟩,k2.symm,Sy.mono ?_ k4,k5⟩
  all_goals first
   |(intro j hj;rcases hj with hj|⟨z,hz⟩;exact .inl hj;exact .inr ⟨z,List.mem_append_left _ hz⟩)
   |(rcases(H3.rall j x hj).1 with hj|⟨z,hz⟩;exact .inl hj;exact .inr ⟨z,List.mem_append_left _ hz⟩)
theorem call2_step {B:Nat}{T:List (Con P)}(H:OkF o n A S F s r a w)(hF:∀j,b<=j->j<B->¬F j){op:Oper}{c:Call}{x:Operand}{f:FuncId}{caps:List (Nat×Nat)}{con:Con P}{out:Out}(ho:op.op= .call c)(hcal:c.callee= .value x)(hx:a.eval x=(Sc.clo f caps).den A)(hf:con.f=f)
  (hcall:((P.funcs[f]?).map (fun fn=>((fn.name== "runtime.NumGoroutine")||fn.body.isNone)))=some false) {ys:List Sy} (hargs:c.args.toList.map a.eval=ys.map (Sy.den A)) (hys:∀y∈ys,y.all F/\y.good A) (hcaps:∀c∈caps,F c.1) (h:(con.tr b caps ys).run s r=some out) (hcs:∀p∈out.cs,p) (hhs:∀h∈out.hs,∀A w,h.lhs A w=h.rhs A w) (hB0:∀p∈out.re,p.1<B)
  {K:Act->World->Prop} {Q:Exit->Act->World->Prop} (k:∀v w',After o n F s r a out v w'->K (a.put op.dst v) w'):op.wp P a w K Q:=by
 have hco:=con.ok o n A S F s r a w b B caps ys out H hF hys hcaps h hcs hhs hB0
 obtain⟨fn,hfn,hb⟩:=Option.map_eq_some_iff.1 hcall
 simp only[Bool.or_eq_false_iff] at hb
 have hn':fn.name≠ "runtime.NumGoroutine" :=by simpa using hb.1
 have hb':fn.body≠none:=by intro e;rw[e] at hb;cases hb.2
 have hx:a.eval x= .func (.func f) #[] (caps.map fun c=>.pointer (some ⟨A.b c.1,c.2,none⟩)).toArray:=hx
 have hargs':c.args.map a.eval=(ys.map (Sy.den A)).toArray:=by rw[<-hargs];apply Array.ext';rw[Array.toList_map]
 have e:(execOp a.eval op).run P w= .ok (.enter f (ys.map (Sy.den A)++caps.map (fun c=>Value.pointer (some ⟨A.b c.1,c.2,none⟩))).toArray) w:=by
  simp[execOp,ho,resolve,hcal,hargs',hx,Deferred.ofValue,invoke,callFunc,program,Sem.run,hfn,hn',hb']
 unfold Oper.wp
 rw[e]
 rw[hf] at hco
 refine hco.mono fun e w' ⟨v,he,hR⟩=>?_
 subst he
 exact k v w' hR
end
theorem kindB_ok {P:Program}{kt:TypeId}{k:Kc}(h:kindB P kt k=true):P.underlying kt=some (kdesc k):=by
 unfold kindB at h
 split at h
 .split at h
  .assumption
  cases h
 split at h
 .assumption
 cases h
theorem keySc_ok {A:Asg}{k:Kc}{q:Sy}{x:KEl k}(h:keySc k q=some x):q.den A=kval k x:=by
 unfold keySc at h
 split at h
 .cases h;rfl
 .cases h;rfl
 cases h
theorem numOf_scOf (v:Value):numOf (scOf v)=none:=by unfold scOf;split<;>rfl
theorem zero_cells {P:Program}{t:TypeId}{z:Sy}(h:zeroSy P t=some z):∀c∈syCells z,numOf c=none:=by
 unfold zeroSy at h
 split at h
 .rename_i i _
  obtain⟨v,_,rfl⟩:=Option.map_eq_some_iff.1 h
  intro c hc
  unfold syOf at hc
  split at hc
  .obtain⟨u,_,rfl⟩:=List.mem_map.1 hc;exact numOf_scOf u
  have:=List.mem_singleton.1 hc;subst this;exact numOf_scOf _
 cases h
section
variable {P:Program}{o:OrgG}{n:Nat}{A A':Asg}{S S':Stab}{F G:Nat->Prop}{s:Nat->Option E2}{r:Nat->Option R2}{a:Act}{w w':World}{C:List (Nat×Bool)}{b:Nat}
theorem look_step {B:Nat}(H:OkF o n A S F s r a w)(hF:∀j,b<=j->j<B->¬F j){op:Oper}{t:TypeId}{m x:Operand}{ok:Bool}{p q:Sy}{out:Out}(ho:op.op= .lookup t m x ok)(hm:a.eval m=p.den A)(hx:a.eval x=q.den A)
  (h:(lookT P b t ok p q).run s r=some out) (hcs:∀p∈out.cs,p) (hhs:∀h∈out.hs,∀A w,h.lhs A w=h.rhs A w) (hB:∀p∈out.re,p.1<B)
  {K:Act->World->Prop} {Q:Exit->Act->World->Prop} (k:∀v w',After o n F s r a out v w'->K (a.put op.dst v) w'):op.wp P a w K Q:=by
 unfold lookT at h
 split at h
 .rename_i kt et hu
  split at h
  .rename_i j
   obtain⟨R,hR,h⟩:=res_run h
   split at h
   .rename_i qf kc tn ie mm
    split at h
    .rename_i kx hkx
     obtain⟨hk,h⟩:=guardT_run h
     have hk:=kindB_ok hk
     have hq:q.den A=kval kc kx:=keySc_ok hkx
     have hm:a.eval m= .map (A.m j):=hm
     obtain⟨hFj,hFq,_⟩:=H.rall j _ hR
     have hFq:F qf:=hFq
     obtain⟨blk,hblk,N⟩:∃blk,A.m j=some blk/\NMapAt S w blk (A.f qf) none ie mm:=H.frm.ok j _ (show memF A r j=some _ by simp[memF,hR];rfl)
     obtain⟨zs,n1,n2,n3⟩:=N.map
     have e1:lookK (zs.map fun q=>(q.1,q.2.1)) kx=(lookK zs kx).map (·.1):=map_lookK (fun y:Value×List (El tn)=>y.1) zs kx
     have e2:lookK mm kx=(lookK zs kx).map (·.2):=by rw[n2];exact map_lookK (fun y:Value×List (El tn)=>y.2) zs kx
     have e3:(lookK (zs.map fun q=>(q.1,q.2.1)) kx).isSome=(lookK mm kx).isSome:=by rw[e1,e2];cases lookK zs kx<;>rfl
     have e4:(lookK (zs.map fun q=>(q.1,q.2.1)) kx).getD (.slice none 0 0)=A.f qf (klit kc kx):=by
      rw[e1]
      cases hl:lookK zs kx with
      |none=>rw[N.non kx (by rw[e2,hl];rfl) (by simp)];rfl
      |some y=>exact(n3 _ (lookK_mem hl) (by simp)).1
     have main:(zeroHid P et (.one (.v (.slice none 0 0)))).lhs A w=(zeroHid P et (.one (.v (.slice none 0 0)))).rhs A w->kwf kc kx->(execOp a.eval op).run P w= .ok (.value (if ok then .tuple #[A.f qf (klit kc kx),.bool (lookK mm kx).isSome] else A.f qf (klit kc kx))) w:=by
      intro hz hw
      have hz:(zeroValue et).run P w= .ok (.slice none 0 0) w:=hz
      have hrun:(Instr.lookup t (.map (A.m j)) (kval kc kx) ok).run P w= .ok (if ok then .tuple #[A.f qf (klit kc kx),.bool (lookK mm kx).isSome] else A.f qf (klit kc kx)) w:=by
       rw[hblk]
       cases ok
       .rw[n1.look hu hk hz hw,e4];rfl
       rw[n1.lookT hu hk hz hw,e3,e4];rfl
      simp only[execOp,ho,Sem.run_bind,hm,hx,hq,hrun]
      rfl
     cases ok with
     |true=>
      have e:=ret_run h
      subst e
      refine wp_value (main (hhs _ (List.mem_singleton.2 rfl) A w) (hcs _ (List.mem_singleton.2 rfl))) (k _ _ ⟨A,S,H.agree (Agr.refl _ _) fun _ q=>.inl q,rfl,fun p hp c hc=>?_,fun p hp c hc=>?_⟩)
      .rcases List.mem_cons.1 hp with rfl|hp
       .have:=List.mem_singleton.1 hc;subst this;exact⟨.inl hFj,.inl hFq⟩
       have:=List.mem_singleton.1 hp;subst this
       have:=List.mem_singleton.1 hc;subst this;trivial
      rcases List.mem_cons.1 hp with rfl|hp
      .have:=List.mem_singleton.1 hc;subst this;trivial
      have:=List.mem_singleton.1 hp;subst this
      have:=List.mem_singleton.1 hc;subst this;trivial
     |false=>
      have e:=ret_run h
      subst e
      exact wp_value (main (hhs _ (List.mem_singleton.2 rfl) A w) (hcs _ (List.mem_singleton.2 rfl))) (k _ _ ⟨A,S,H.agree (Agr.refl _ _) fun _ q=>.inl q,rfl,⟨.inl hFj,.inl hFq⟩,tv⟩)
    cases h
   split at h
   .rename_i kc ty mm hmm
    split at h
    .rename_i kx z hkx hz
     obtain⟨hk,h⟩:=guardT_run h
     have hk:=kindB_ok hk
     have hq:q.den A=kval kc kx:=keySc_ok hkx
     have hm:a.eval m= .map (A.m j):=hm
     have hzc:=zero_cells hz
     obtain⟨x0,hx0,h⟩:∃x0:El ty,(match keepsB R with|true=>Rd S w (z.den A) x0|false=>Rd o.old o.w (z.den A) x0)/\_:=by
      cases keepsB R with
      |true=>exact gathSy_run (T:=S) (w:=w) (fun c hc j hj=>by rw[hzc c hc] at hj;cases hj) h
      |false=>exact gathSy_run (T:=o.old) (w:=o.w) (fun c hc j hj=>by rw[hzc c hc] at hj;cases hj) h
     have main:(zeroHid P et z).lhs A w=(zeroHid P et z).rhs A w->kwf kc kx->∃v,(Instr.lookup t (.map (A.m j)) (kval kc kx) ok).run P w= .ok (if ok then .tuple #[v,.bool (lookK mm kx).isSome] else v) w/\
       (match keepsB R with|true=>Rd S w v ((lookK mm kx).getD x0)|false=>Rd o.old o.w v ((lookK mm kx).getD x0)):=by
      intro hz hw
      have hz:(zeroValue et).run P w= .ok (z.den A) w:=hz
      rcases asMap_at H hR hmm with⟨h1,h2⟩|⟨blk,zs,h1,h2,h3,h4⟩
      .subst h2
       refine⟨z.den A,?_,?_⟩
       .rw[h1,Maps.look_nil ok (kkeyed hk) hu hz (kkey_of hk hw)];rfl
       exact hx0
      have e1:lookK (zs.map fun q=>(q.1,q.2.1)) kx=(lookK zs kx).map (·.1):=map_lookK (fun y:Value×El ty=>y.1) zs kx
      have e2:lookK mm kx=(lookK zs kx).map (·.2):=by rw[h3];exact map_lookK (fun y:Value×El ty=>y.2) zs kx
      have e3:(lookK (zs.map fun q=>(q.1,q.2.1)) kx).isSome=(lookK mm kx).isSome:=by rw[e1,e2];cases lookK zs kx<;>rfl
      refine⟨(lookK (zs.map fun q=>(q.1,q.2.1)) kx).getD (z.den A),?_,?_⟩
      .rw[h1]
       cases ok
       .exact h2.look hu hk hz hw
       rw[h2.lookT hu hk hz hw,e3];rfl
      rw[e1,e2]
      cases hl:lookK zs kx with
      |none=>exact hx0
      |some y=>exact h4 _ (lookK_mem hl)
     have fin:∀(sy:Sy),(∀v (A':Asg),v=(if isPair ty then .agg ((celSc (keepsB R) b (cels ty ((lookK mm kx).getD x0))).1.map (Sc.den A')).toArray else((celSc (keepsB R) b (cels ty ((lookK mm kx).getD x0))).1.map (Sc.den A')).headD undef)->(if ok then Value.tuple #[v,.bool (lookK mm kx).isSome] else v)=sy.den A')->
       (∀(G:Nat->Prop) (A':Asg),(∀c∈(celSc (keepsB R) b (cels ty ((lookK mm kx).getD x0))).1,c.all G/\c.good A')->sy.all G/\sy.good A')->
       out=⟨[kwf kc kx],[zeroHid P et z],sy,(celSc (keepsB R) b (cels ty ((lookK mm kx).getD x0))).2⟩->op.wp P a w K Q:=by
      intro sy hval hall e
      subst e
      obtain⟨v,hrun,hrd⟩:=main (hhs _ (List.mem_singleton.2 rfl) A w) (hcs _ (List.mem_singleton.2 rfl))
      obtain⟨vs,hvs,hv⟩:∃vs,KOk o S w (keepsB R) vs (cels ty ((lookK mm kx).getD x0))/\v=(if isPair ty then .agg vs.toArray else vs.headD undef):=by
       cases hkb:keepsB R with
       |true=>rw[hkb] at hrd;exact rd_cells hrd
       |false=>rw[hkb] at hrd;exact rd_cells hrd
      obtain⟨A',k1,k2,k3,k4⟩:=celSc_ok _ vs b A F hvs hF hB
      have e2:(execOp a.eval op).run P w= .ok (.value (if ok then .tuple #[v,.bool (lookK mm kx).isSome] else v)) w:=by
       simp only[execOp,ho,Sem.run_bind,hm,hx,hq,hrun]
       rfl
      refine wp_value e2 (k _ _ ⟨A',S,H.ro k1 k3,hval v A' ?_,(hall _ _ k4).1,(hall _ _ k4).2⟩)
      rw[k2];exact hv
     cases ok with
     |true=>
      have e:=ret_run h
      refine fin (.tup [(isPair ty,(celSc (keepsB R) b (cels ty ((lookK mm kx).getD x0))).1),(false,[.b (.raw (lookK mm kx).isSome)])]) (fun v A' hv=>?_) (fun G A' hc=>⟨fun p hp c hcm=>?_,fun p hp c hcm=>?_⟩) e
      .show Value.tuple #[v,_]= .tuple #[partDen A' (isPair ty,_),_]
       rw[hv];rfl
      .rcases List.mem_cons.1 hp with rfl|hp
       .exact(hc c hcm).1
       have:=List.mem_singleton.1 hp;subst this
       have:=List.mem_singleton.1 hcm;subst this;trivial
      rcases List.mem_cons.1 hp with rfl|hp
      .exact(hc c hcm).2
      have:=List.mem_singleton.1 hp;subst this
      have:=List.mem_singleton.1 hcm;subst this;trivial
     |false=>
      dsimp only at h
      split at h
      .rename_i cs hp
       have e:=ret_run h
       refine fin (.agg (celSc (keepsB R) b (cels ty ((lookK mm kx).getD x0))).1) (fun v A' hv=>?_) (fun G A' hc=>⟨fun c hcm=>(hc c hcm).1,fun c hcm=>(hc c hcm).2⟩) e
       show v=_
       rw[hv,if_pos hp];rfl
      .rename_i c hp hcs'
       have e:=ret_run h
       refine fin (.one c) (fun v A' hv=>?_) (fun G A' hc=>hc c (by rw[hcs'];exact List.mem_singleton.2 rfl)) e
       show v=_
       rw[hv,if_neg (by rw[hp];decide),hcs'];rfl
      cases h
    cases h
   cases h
  cases h
 cases h
theorem lenM_step (H:OkF o n A S F s r a w){op:Oper}{c:Call}{t:TypeId}{x:Operand}{p:Sy}{out:Out}(ho:op.op= .call c)(hcal:c.callee= .builtin .len)(hargs:c.args.toList=[x])(hat:c.argTypes.toList=[t])(hx:a.eval x=p.den A)
  (h:(lenMT P t p).run s r=some out) {K:Act->World->Prop} {Q:Exit->Act->World->Prop} (k:∀v w',After o n F s r a out v w'->K (a.put op.dst v) w'):op.wp P a w K Q:=by
 have ha:c.args= #[x]:=by apply Array.ext';exact hargs
 have hb:c.argTypes= #[t]:=by apply Array.ext';exact hat
 unfold lenMT at h
 split at h
 .rename_i kt et j hu
  obtain⟨R,hR,h⟩:=res_run h
  split at h
  .rename_i kc ty mm hmm
   obtain⟨hk,h⟩:=guardT_run h
   have hk:=kindB_ok hk
   have e:=one_run h
   subst e
   have hx:a.eval x= .map (A.m j):=hx
   have hrun:(Builtin.len_ #[t] op.type #[.map (A.m j)]).run P w= .ok (.int .i64 ((show List (KEl kc×El ty) from mm).length:Int)) w:=by
    rcases asMap_at H hR hmm with⟨h1,h2⟩|⟨blk,zs,h1,h2,h3,h4⟩
    .subst h2;rw[h1];exact Maps.len_nil hu op.type
    have:=h2.len hu hk op.type
    rw[h1,this,h3]
    simp only[List.length_map]
   have e2:(execOp a.eval op).run P w= .ok (.value (.int .i64 ((show List (KEl kc×El ty) from mm).length:Int))) w:=by
    unfold execOp
    simp only[ho,resolve,hcal,ha,hb,invoke,builtin,Sem.run_bind,Sem.run_pure,Result.andThen_ok,List.map_toArray,List.map_cons,List.map_nil,hx,hrun]
   exact wp_value e2 (k _ _ ⟨A,S,H.agree (Agr.refl _ _) fun _ q=>.inl q,rfl,tv,tv⟩)
  cases h
 cases h
theorem OkF.newM (H:OkF o n A S F s r a w)(hF:¬F b){kc:Kc}{ty:Ty}{kt:TypeId}(hk:P.underlying kt=some (kdesc kc)):
  OkF o n (A.setM b (some w.heap.size)) S (FU F [(b,some (.map kc ty ([]:List (KEl kc×El ty))))]) s (setM r [(b,some (.map kc ty ([]:List (KEl kc×El ty))))]) a (w.alloc (.map #[] 0)):=by
 have H1:=H.agree (Agr.setM (A:=A) hF (some w.heap.size)) (G:=FU F [(b,some (.map kc ty ([]:List (KEl kc×El ty))))]) fun j h=>.inl h
 refine OkF.upd H1 b _ (fun z hz=>?_) (fun z e=>by cases e;trivial) (H1.frm.putNew b _ _ ⟨w.heap.size,by rw[Asg.setM_m],[],OwnsK.new w hk,rfl,fun _ q=>by cases q⟩ fun q hq=>?_)
 .cases hz
  exact⟨.inr ⟨_,List.mem_singleton.2 rfl⟩,tv,tv⟩
 have hq:(A.setM b (some w.heap.size)).m b=some q:=hq
 rw[Asg.setM_m] at hq;cases hq;rfl
theorem makeM_step {B:Nat}(H:OkF o n A S F s r a w)(hF:∀j,b<=j->j<B->¬F j){op:Oper}{t:TypeId}{x:Option Operand}{out:Out}(ho:op.op= .makeMap t x)(hx:∀y,x=some y->∃k m,a.eval y= .int k m)
  (h:(makeMapT P b t).run s r=some out) (hB:∀p∈out.re,p.1<B) {K:Act->World->Prop} {Q:Exit->Act->World->Prop} (k:∀v w',After o n F s r a out v w'->K (a.put op.dst v) w'):op.wp P a w K Q:=by
 unfold makeMapT at h
 split at h
 .rename_i kt et kc ty hu hc
  obtain⟨hk,h⟩:=guardT_run h
  have hk:=kindB_ok hk
  have e:=ret_run h
  subst e
  have e2:(execOp a.eval op).run P w= .ok (.value (.map (some w.heap.size))) (w.alloc (.map #[] 0)):=by
   cases x with
   |none=>
    simp only[execOp,ho,Sem.run_bind,Option.map_none,run_makeMap]
    rfl
   |some y=>
    obtain⟨ik,m,hy⟩:=hx y rfl
    simp[execOp,ho,Sem.run_bind,Option.map_some,hy,Instr.makeMap,run_underlying hu,asInt,asIntOf,newObj,Result.andThen,Sem.run,Sem.run_pure]
  have H2:=H.newM (hF b (Nat.le_refl _) (hB _ (List.mem_singleton.2 rfl))) (ty:=ty) hk
  refine wp_value e2 (k _ _ ⟨_,S,H2,?_,.inr ⟨_,List.mem_singleton.2 rfl⟩,tv⟩)
  show _=Value.map ((A.setM b (some w.heap.size)).m b)
  rw[Asg.setM_m]
 cases h
theorem OkF.mapTo (H:OkF o n A S F s r a w){j:Nat}{kc:Kc}{ty:Ty}{m m':MapD kc (El ty)}(hj:r j=some (.map kc ty m)){blk:Nat}(hb:A.m j=some blk)(hG:w.grownBy w' (some blk))(hm:MapAt S w' blk m'):
  OkF o n A S F s (updR r j (some (.map kc ty m'))) a w':=by
 have hmem:memF A r j=some (mapRs (A.m j) m):=by show(r j).map _=_;rw[hj];rfl
 have hg:Chg w w' (mapRs (A.m j) m).has:=⟨hG.os,hG.tape,hG.output,hG.size,fun k hk hn=>hG.block k hk fun e=>hn (by show A.m j=some k;rw[hb,<-e])⟩
 have hf1:=H.frm.mut j hmem hg
 have hown:=H.frm.own j _ blk hmem hb
 have hf2:=hf1.put j (mapRs (A.m j) m') ⟨blk,hb,hm⟩ (fun b' hb'=>by
  have hb':A.m j=some b':=hb'
  rw[hb] at hb';cases hb'
  refine⟨hown.1,Nat.lt_of_lt_of_le hown.2.1 hG.size,hown.2.2,fun i ri hi hri e=>?_⟩
  unfold updF2 at hri
  rw[if_neg hi] at hri
  exact hi (H.frm.apart i j ri _ blk hri hmem e hb))
 have hsame:updF2 (updF2 (memF A r) j none) j (some (mapRs (A.m j) m'))=updF2 (memF A r) j (some (mapRs (A.m j) m')):=by
  funext i;unfold updF2;split<;>rfl
 rw[hsame] at hf2
 exact OkF.upd H j (some (.map kc ty m')) (fun z hz'=>by cases hz';exact⟨(H.rall j _ hj).1,tv,tv⟩) (fun z e=>by cases e;trivial) hf2
theorem putM_step (H:OkF o n A S F s r a w){op:Oper}{t:TypeId}{m x y:Operand}{p q z:Sy}{out:Out}(ho:op.op= .mapUpdate t m x y\/op.op= .insert t m x y)(hdst:True)(hm:a.eval m=p.den A)(hx:a.eval x=q.den A)(hy:a.eval y=z.den A)
  (h:(putT P t p q z).run s r=some out) (hcs:∀p∈out.cs,p) {K:Act->World->Prop} {Q:Exit->Act->World->Prop} (k:∀v w',After o n F s r a out v w'->K (a.put op.dst v) w'):op.wp P a w K Q:=by
 unfold putT at h
 split at h
 .rename_i kt et j hu
  obtain⟨R,hR,h⟩:=res_run h
  split at h
  .rename_i kc ty mm
   split at h
   .rename_i kx hkx
    obtain⟨hk,h⟩:=guardT_run h
    have hk:=kindB_ok hk
    obtain⟨re,hz,hl,h⟩:=frz_run _ _ h
    obtain⟨S',hS,H'⟩:=H.freeze hz
    obtain⟨hre,h⟩:=guardT_run h
    obtain⟨d,hd,h⟩:=gathSy_run (frz_reads H hz hS H' hl) h
    have e:=ret_run h
    subst e
    have hq:q.den A=kval kc kx:=keySc_ok hkx
    have hm:a.eval m= .map (A.m j):=hm
    have hw:kwf kc kx:=hcs _ List.mem_cons_self
    have hlen:(show List (KEl kc×El ty) from mm).length<=2147483647:=hcs _ (List.mem_cons_of_mem _ List.mem_cons_self)
    have hR':setM r re j=some (.map kc ty mm):=by
     have key:∀l:List (Nat×Option R2),(l.all fun p=>!Nat.beq p.1 j)=true->setM r l j=r j:=by
      intro l
      induction l with
      |nil=>intro _;rfl
      |cons p l ih=>
       intro hl
       rw[List.all_cons,Bool.and_eq_true] at hl
       have hne:p.1≠j:=fun e=>by have:=hl.1;rw[e,Nat.beq_refl] at this;cases this
       show updR (setM r l) p.1 p.2 j=_
       rw[updR_ne hne];exact ih hl.2
     rw[key re hre];exact hR
    have hmem:memF A (setM r re) j=some (mapRs (A.m j) mm):=by show(setM r re j).map _=_;rw[hR'];rfl
    obtain⟨blk,hb,zs,h2,h3,h4⟩:=H'.frm.ok j _ hmem
    obtain⟨w',hrun,ho',hG,_⟩:=h2.put hu hk (by rw[List.length_map];rw[h3] at hlen;simpa using hlen) hw (z.den A)
    have hrun':(execOp a.eval op).run P w= .ok .skip w':=by
     rcases ho with ho|ho<;>(simp only[execOp,ho,Sem.run_bind,hm,hx,hy,hq,hb,hrun];rfl)
    unfold Oper.wp
    rw[hrun']
    refine k undef _ ?_
    have hkeep:Keeps S' w w':=fun q hq=>hG.block q (H'.frm.inb q hq) fun e=>by cases e;exact(H'.frm.own j _ blk hmem hb).2.2 hq
    have H2:=H'.mapTo hR' hb hG (m':=putK mm kx d) ⟨putK zs kx (z.den A,d),by rw[map_putK (fun y:Value×El ty=>y.1)];exact ho',by rw[map_putK (fun y:Value×El ty=>y.2),h3],fun y hy=>by
     rcases mem_putK.1 hy with rfl|⟨hy,_⟩
     .exact hd.keep hkeep
     exact(h4 y hy).keep hkeep⟩
    exact⟨A,S',H2.agree (Agr.refl _ _) fun _ q=>.inl q,rfl,tv,tv⟩
   cases h
  cases h
 cases h
theorem dropM_step (H:OkF o n A S F s r a w){op:Oper}{c:Call}{t kt':TypeId}{x y:Operand}{p q:Sy}{out:Out}(ho:op.op= .call c)(hcal:c.callee= .builtin .delete)(hargs:c.args.toList=[x,y])(hat:c.argTypes.toList=[t,kt'])
  (hx:a.eval x=p.den A) (hy:a.eval y=q.den A) (h:(dropT P t kt' p q).run s r=some out) (hcs:∀p∈out.cs,p) {K:Act->World->Prop} {Q:Exit->Act->World->Prop} (k:∀v w',After o n F s r a out v w'->K (a.put op.dst v) w'):op.wp P a w K Q:=by
 have ha:c.args= #[x,y]:=by apply Array.ext';exact hargs
 have hb0:c.argTypes= #[t,kt']:=by apply Array.ext';exact hat
 unfold dropT at h
 split at h
 .rename_i kt et j hu
  obtain⟨R,hR,h⟩:=res_run h
  split at h
  .rename_i kc ty mm
   split at h
   .rename_i kx hkx
    obtain⟨hg,h2⟩:=guardT_run h
    clear h
    rw[Bool.and_eq_true] at hg
    have hk:=kindB_ok hg.1
    have hkt:=beq_t hg.2
    subst hkt
    have e:=ret_run h2
    subst e
    have hq:q.den A=kval kc kx:=keySc_ok hkx
    have hx:a.eval x= .map (A.m j):=hx
    have hw:kwf kc kx:=hcs _ List.mem_cons_self
    have hmem:memF A r j=some (mapRs (A.m j) mm):=by show(r j).map _=_;rw[hR];rfl
    obtain⟨blk,hb,zs,h6,h3,h4⟩:=H.frm.ok j _ hmem
    obtain⟨w',hrun,ho',hG⟩:=h6.drop hu hk hw op.type
    have e2:(execOp a.eval op).run P w= .ok (.value (.tuple #[])) w':=by
     unfold execOp
     simp only[ho,resolve,hcal,ha,hb0,invoke,builtin,Sem.run_bind,Sem.run_pure,Result.andThen_ok,List.map_toArray,List.map_cons,List.map_nil,hx,hy,hq,hb,hrun]
    have hkeep:Keeps S w w':=fun q hq=>hG.block q (H.frm.inb q hq) fun e=>by cases e;exact(H.frm.own j _ blk hmem hb).2.2 hq
    have H2:=H.mapTo hR hb hG (m':=delK mm kx) ⟨delK zs kx,by rw[map_delK (fun y:Value×El ty=>y.1)];exact ho',by rw[map_delK (fun y:Value×El ty=>y.2),h3],fun y hy=>(h4 y (List.mem_filter.1 hy).1).keep hkeep⟩
    exact wp_value e2 (k _ _ ⟨A,S,H2.agree (Agr.refl _ _) fun _ q=>.inl q,rfl,(fun _ q=>by cases q),(fun _ q=>by cases q)⟩)
   cases h
  cases h
 cases h
end
section
variable {P:Program}{w w':World}{t tx ty e:TypeId}{size bytes:Nat}{v:Value}{n:Nat}{xs:List Value}
theorem take_drop_put {α:Type}(cur us:List α)(a c n:Nat)(h:a+n<=cur.length)(hc:c+us.length<=n):
  ((cur.take (a+c)++us++cur.drop (a+c+us.length)).drop a).take n=((cur.drop a).take n).take c++us++((cur.drop a).take n).drop (c+us.length):=by
 apply List.ext_getElem?
 intro j
 simp only[List.getElem?_take,List.getElem?_drop,List.getElem?_append,List.length_append,List.length_take,List.length_drop]
 repeat' split
 all_goals first|rfl|omega|(congr 1;omega)|(exfalso;omega)|(symm;apply List.getElem?_eq_none;omega)|(apply List.getElem?_eq_none;omega)
theorem push_hd (E:Elem P t e size bytes)(hd:HdAt w e size v n xs){x:Value}{m:Nat}{news:List Value}(hs:Src P size tx x m news w)(h63:n+m<=maxLen)(hbytes:(n+m)*bytes<=140737488355328):
  ∃v' w',(Builtin.append_ #[t,tx] ty #[v,x]).run P w= .ok v' w'/\HdAt w' e size v' (n+m) (xs++news)/\w.grownBy w' v.ownBlock/\(∀b,v'.ownBlock=some b->v.ownBlock=some b\/(w.heap.size<=b/\b<w'.heap.size)):=by
 obtain⟨i,z,hi,hz,hsize,hby,hzs⟩:=E.info
 subst hsize
 subst hby
 have hlen:(xs++news).length=(n+m)*i.size:=by rw[List.length_append,hd.1,hs.newsLen,Nat.add_mul]
 have h63':n+m<=9223372036854775807:=by simp only[maxLen] at h63;omega
 have grown:∀(old:Nat),old<n+m->∀row:Option Nat,
   HdAt (w.drew.alloc (.cells ((xs++news).toArray++Builtin.zeroCells z.cells (grownCap w (n+m) old e-(n+m))) e)) e i.size (.slice (some ⟨w.heap.size,0,none⟩) (n+m) (grownCap w (n+m) old e)) (n+m) (xs++news)/\
   w.grownBy (w.drew.alloc (.cells ((xs++news).toArray++Builtin.zeroCells z.cells (grownCap w (n+m) old e-(n+m))) e)) row:=by
  intro old ho row
  have hge:=grownCap_ge w (n+m) old e
  have hcm:grownCap w (n+m) old e<=maxLen:=grownCap_le_maxLen w (n+m) old e h63
  refine⟨⟨hlen,.inr ⟨w.heap.size,0,_,_,by rw[Nat.zero_mul],heap_alloc_new w.drew _,hge,hcm,?_,?_⟩⟩,⟨rfl,rfl,rfl,by simp,fun k hk _=>heap_alloc_old w.drew _ hk⟩⟩
  .rw[Array.size_append,List.size_toArray,size_zeroCells,hzs,hlen,<-Nat.add_mul]
   exact Nat.mul_le_mul_right _ (by omega)
  rw[Nat.zero_mul,List.drop_zero,Array.toList_append,<-hlen]
  exact List.take_left
 rcases hd.2 with⟨rfl,rfl⟩|⟨g,d,cap,cur,rfl,hg,hnc,hcm,hcs,htake⟩
 .have hx:xs=[]:=List.eq_nil_of_length_eq_zero (by simpa using hd.1)
  subst hx
  by_cases hm:m=0
  .subst hm
   have hn:news=[]:=List.eq_nil_of_length_eq_zero (by simpa using hs.newsLen)
   subst hn
   refine⟨.slice none 0 0,w,?_,HdAt.nil w e i.size,⟨rfl,rfl,rfl,Nat.le_refl _,fun _ _ _=>rfl⟩,fun b q=>by cases q⟩
   have hc:=hs.cells
   rcases hs.kind with⟨e',hk⟩|hk<;>simp[Builtin.append_,run_underlying E.under,run_underlying hk,sizeOf,typeInfo,hi,hs.len,hc]
  have hr:=run_append_grow_src (P:=P) w t tx ty e i z E.under hi hz none 0 0 [] (run_firstCells_none w.drew i.size 0 0 0) x m news hs (by omega) (by omega) (growslice_fits (by omega) hbytes)
  have hgr:=grown 0 (by omega) none
  rw[List.nil_append] at hgr ⊢
  exact⟨_,_,hr,hgr.1,hgr.2,fun b q=>by cases q;exact .inr ⟨Nat.le_refl _,by simp⟩⟩
 by_cases hroom:n+m<=cap
 .have hfit:d*i.size+n*i.size+news.length<=cur.size:=by
   rw[hs.newsLen,Nat.add_assoc,<-Nat.add_mul,<-Nat.add_mul]
   exact Nat.le_trans (Nat.mul_le_mul_right _ (by omega)) hcs
  have hst:=run_storeCells_at P g (d*i.size+n*i.size) e news 0 cur w hg (by simpa using hfit) hs.one
  simp only[Nat.add_zero] at hst
  have hr:(Builtin.append_ #[t,tx] ty #[.slice (some ⟨g,d*i.size,none⟩) n cap,x]).run P w= .ok (.slice (some ⟨g,d*i.size,none⟩) (n+m) cap) (w.setRow g (cur.toList.take (d*i.size+n*i.size)++news++cur.toList.drop (d*i.size+n*i.size+news.length)).toArray):=by
   rcases hs.kind with⟨e',hk⟩|hk<;>simp[Builtin.append_,run_underlying E.under,run_underlying hk,sizeOf,typeInfo,hi,hs.len,hroom,hs.cells,Addr.add_lit,hst]
  refine⟨_,_,hr,⟨hlen,.inr ⟨g,d,cap,_,rfl,setRow_heap w g cur _ e _ hg,hroom,hcm,?_,?_⟩⟩,⟨rfl,rfl,rfl,by simp,fun k _ hk=>setRow_other w g k _ (fun e=>hk (by simp[Value.ownBlock,e]))⟩,fun b q=>.inl q⟩
  .simp only[List.size_toArray,List.length_append,List.length_take,List.length_drop,Array.length_toList]
   omega
  have:=take_drop_put cur.toList news (d*i.size) (n*i.size) ((n+m)*i.size) (by rw[Array.length_toList,<-Nat.add_mul];exact Nat.le_trans (Nat.mul_le_mul_right _ (by omega)) hcs) (by rw[hs.newsLen,<-Nat.add_mul];exact Nat.le_refl _)
  have e1:((cur.toList.drop (d*i.size)).take ((n+m)*i.size)).drop (n*i.size+news.length)=[]:=List.drop_of_length_le (by rw[List.length_take,hs.newsLen,<-Nat.add_mul];exact Nat.min_le_left _ _)
  rw[this,e1,List.append_nil,List.take_take,Nat.min_eq_left (by rw[Nat.add_mul];omega),htake]
 have hold:(Builtin.firstCells i.size n (.slice (some ⟨g,d*i.size,none⟩) n cap)).run P w.drew= .ok xs.toArray w.drew:=by
  refine run_firstCells_some w.drew i.size n ⟨g,d*i.size,none⟩ n cap xs hd.1 fun j u hu=>?_
  have this:w.cell? ⟨g,d*i.size+j,none⟩=some u:=hd.cell hu
  have hadd:(⟨g,d*i.size,none⟩:Addr).add j=⟨g,d*i.size+j,none⟩:=Addr.add_lit _ _ _
  rw[hadd]
  simpa using this
 have hr:=run_append_grow_src (P:=P) w t tx ty e i z E.under hi hz (some ⟨g,d*i.size,none⟩) n cap xs hold x m news hs (by omega) (by omega) (growslice_fits (by omega) hbytes)
 have hgr:=grown cap (by omega) (Value.ownBlock (.slice (some ⟨g,d*i.size,none⟩) n cap))
 exact⟨_,_,hr,hgr.1,hgr.2,fun b q=>by cases q;exact .inr ⟨Nat.le_refl _,by simp⟩⟩
theorem put_hd (hd:HdAt w e size v n xs){c:Nat}{us:List Value}{u:Value}(hcu:u.cells.toList=us)(hc:c+us.length<=n*size)(hp:0<us.length)(hsz:(P.info? t).map (·.size)=some us.length)(h1:∀v∈us,v.oneCell'=true):
  ∃w',(Instr.storeAt t (.pointer (some ⟨hdB v,hdO v+c,none⟩)) u).run P w= .ok () w'/\HdAt w' e size v n (xs.take c++us++xs.drop (c+us.length))/\w.grownBy w' v.ownBlock/\w'.heap.size=w.heap.size:=by
 rcases hd.2 with⟨_,rfl⟩|⟨g,d,cap,cur,rfl,hg,hnc,hcm,hcs,htake⟩
 .rw[Nat.zero_mul] at hc;omega
 have hfit:d*size+n*size<=cur.size:=by rw[<-Nat.add_mul];exact Nat.le_trans (Nat.mul_le_mul_right _ (by omega)) hcs
 have hrun:=run_storeAt_box (P:=P) w t e g (d*size+c) cur.toList us u (by simpa using hg) hcu (by have:cur.toList.length=cur.size:=Array.length_toList;omega) hsz h1
 refine⟨_,hrun,⟨?_,.inr ⟨g,d,cap,_,rfl,setRow_heap w g cur _ e _ hg,hnc,hcm,?_,?_⟩⟩,⟨rfl,rfl,rfl,by simp,fun k _ hk=>setRow_other w g k _ (fun e=>hk (by simp[Value.ownBlock,e]))⟩,by simp⟩
 .rw[List.length_append,List.length_append,List.length_take,List.length_drop,hd.1];omega
 .simp only[List.size_toArray,List.length_append,List.length_take,List.length_drop,Array.length_toList]
  omega
 have:=take_drop_put cur.toList us (d*size) c (n*size) (by rw[Array.length_toList];exact hfit) hc
 rw[htake] at this
 exact this
theorem made_at (z:Array Value)(k i j:Nat)(hj:j<z.size)(hi:i<k):(madeCells z (k*z.size))[i*z.size+j]?=z[j]?:=by
 have hlt:i*z.size+j<k*z.size:=by
  have:=Nat.mul_le_mul_right z.size (show i+1<=k from hi)
  rw[Nat.succ_mul] at this;omega
 unfold madeCells
 rw[Array.getElem?_map,Array.getElem?_range,if_pos hlt]
 simp only[Option.map_some]
 have:(i*z.size+j)%z.size=j:=by
  rw[Nat.add_comm,Nat.add_mul_mod_self_right];exact Nat.mod_eq_of_lt hj
 rw[this,getElem!_pos z j hj,Array.getElem?_eq_getElem hj]
theorem make_hd (E:Elem P t e size bytes){kl kc:IntKind}{l c:Int}(h0:0<=l)(hlc:l<=c)(hb:bytes<=1000)(hc:c<=2147483647):
  ∃w' z,(P.info? e).bind (·.zero)=some z/\z.cells.size=size/\(Instr.makeSlice t (.int kl l) (.int kc c)).run P w= .ok (.slice (some ⟨w.heap.size,0,none⟩) l.toNat c.toNat) w'/\w'=w.alloc (.cells (madeCells z.cells (c.toNat*size)) e)/\
   HdAt w' e size (.slice (some ⟨w.heap.size,0,none⟩) l.toNat c.toNat) l.toNat ((madeCells z.cells (c.toNat*size)).toList.take (l.toNat*size)):=by
 obtain⟨i,z,hi,hz,hsize,hby,hzs⟩:=E.info
 subst hsize
 subst hby
 have hcb:(i.bytes:Int)*c<=281474976710656:=by
  have h2:(i.bytes:Int)*c<=1000*2147483647:=Int.mul_le_mul (by omega) hc (by omega) (by omega)
  omega
 have hr:=run_make (P:=P) w t e i z E.under hi hz kl kc l c h0 hlc hcb (by omega)
 refine⟨_,z,by rw[hi];exact hz,hzs,hr,rfl,⟨?_,.inr ⟨w.heap.size,0,c.toNat,_,by rw[Nat.zero_mul],heap_alloc_new w _,by omega,by simp only[maxLen];omega,?_,by rw[Nat.zero_mul,List.drop_zero]⟩⟩⟩
 .rw[List.length_take,Array.length_toList,size_madeCells]
  exact Nat.min_eq_left (Nat.mul_le_mul_right _ (by omega))
 rw[size_madeCells,Nat.zero_add];exact Nat.le_refl _
theorem made_row {S:Stab}{ty:Ty}{x0:El ty}{z:Array Value}{l c:Nat}(hlc:l<=c)(hz:Data.rd S w z.toList x0):RowRd S w ((madeCells z (c*z.size)).toList.take (l*z.size)) (List.replicate l x0):=by
 have hsz:Data.size (El ty)=z.size:=by rw[<-Data.len hz,Array.length_toList]
 refine⟨?_,fun i hi=>?_⟩
 .rw[List.length_take,Array.length_toList,size_madeCells,List.length_replicate,hsz]
  exact Nat.min_eq_left (Nat.mul_le_mul_right _ hlc)
 rw[List.length_replicate] at hi
 have e:(((madeCells z (c*z.size)).toList.take (l*z.size)).drop (i*Data.size (El ty))).take (Data.size (El ty))=z.toList:=by
  apply List.ext_getElem?
  intro j
  rw[hsz,List.getElem?_take]
  by_cases hj:j<z.size
  .have hlt:i*z.size+j<l*z.size:=by
    have:=Nat.mul_le_mul_right z.size (show i+1<=l from hi)
    rw[Nat.succ_mul] at this;omega
   rw[if_pos hj,List.getElem?_drop,List.getElem?_take,if_pos hlt,Array.getElem?_toList,made_at z c i j hj (by omega),Array.getElem?_toList]
  rw[if_neg hj,List.getElem?_eq_none (by rw[Array.length_toList];omega)]
 rw[e,List.getElem_replicate]
 exact hz
theorem cut_hd {p:Option Addr}{cap:Nat}(hd:HdAt w e size (.slice p n cap) n xs){lo hi m:Nat}(h1:lo<=hi)(h2:hi<=n)(h3:hi<=m)(h4:m<=cap):
  HdAt w e size (sliced p lo hi m size) (hi-lo) ((xs.drop (lo*size)).take ((hi-lo)*size))/\∀b,(sliced p lo hi m size).ownBlock=some b->(Value.slice p n cap).ownBlock=some b:=by
 have hlen:((xs.drop (lo*size)).take ((hi-lo)*size)).length=(hi-lo)*size:=by
  rw[List.length_take,List.length_drop,hd.1,<-Nat.sub_mul]
  exact Nat.min_eq_left (Nat.mul_le_mul_right _ (by omega))
 rcases hd.2 with⟨hv,rfl⟩|⟨g,d,cap',cur,hv,hg,hnc,hcm,hcs,htake⟩
 .cases hv
  have e1:lo=0:=by omega
  have e2:hi=0:=by omega
  have e3:m=0:=by omega
  subst e1;subst e2;subst e3
  exact⟨⟨hlen,.inl ⟨rfl,rfl⟩⟩,fun b q=>by cases q⟩
 cases hv
 by_cases q:m=lo
 .subst q
  have e2:hi=m:=by omega
  subst e2
  refine⟨⟨hlen,.inr ⟨g,d,0,cur,by simp[sliced],hg,by omega,by simp[maxLen],?_,?_⟩⟩,fun b q=>by simpa[sliced,Value.ownBlock] using q⟩
  .exact Nat.le_trans (Nat.mul_le_mul_right _ (by omega)) hcs
  simp
 refine⟨⟨hlen,.inr ⟨g,d+lo,m-lo,cur,by simp[sliced,q,Addr.add_lit,Nat.add_mul],hg,by omega,by omega,?_,?_⟩⟩,fun b z=>by simpa[sliced,q,Addr.add_lit,Value.ownBlock] using z⟩
 .exact Nat.le_trans (Nat.mul_le_mul_right _ (by omega)) hcs
 rw[<-htake,List.drop_take,List.take_take,List.drop_drop,Nat.add_mul,Nat.min_eq_left ?_]
 rw[<-Nat.sub_mul]
 exact Nat.mul_le_mul_right _ (by omega)
end
def flatTy:Ty->Bool
 | .int=>true
 | .bool=>true
 | .str=>true
 | .unit=>true
 | .pair a b=>flatTy a && flatTy b
 |_=>false
structure HdI where
 t:Ty
 ie:TypeId
 l:List (El t)
 p:List Prop
 z:R2
def hdI (q:Nat):Hx->R2->Option HdI
 | .el i sz off,.ext (.nest q' none e t ie l)=>match Nat.beq q' q && Nat.beq (tsz0 t) sz with
  |true=>match(cels t (l.getD i.toNat (dfl t)))[off]? with
   |some (.l t' l')=>some ⟨t',ie,l',[Bnd i l.length],.ext (.nest q (some (i.toNat*sz+off)) e t ie l)⟩
   |_=>none
  |false=>none
 | .ky .int x,.ext (.nmap q' .int none t ie m)=>match Nat.beq q' q with
  |true=>some ⟨t,ie,(lookK (show List (KEl .int×List (El t)) from m) x).getD [],[],.ext (.nmap q .int (some x) t ie m)⟩
  |false=>none
 | .ky .str x,.ext (.nmap q' .str none t ie m)=>match Nat.beq q' q with
  |true=>some ⟨t,ie,(lookK (show List (KEl .str×List (El t)) from m) x).getD [],[],.ext (.nmap q .str (some x) t ie m)⟩
  |false=>none
 |_,_=>none
def srcT (ty:Ty)(k:List Prop->List (El ty)->Tr Out):Sy->Tr Out
 | .one (.own q)=>.res q fun y=>match asList y with
  |some ⟨t',m⟩=>match castEl (t:=.list t') (s:=.list ty) m with
   |some m'=>guardT (keepsB y||flatTy ty) (k [] m')
   |none=>.fail
  |none=>.fail
 | .one (.hd p q x)=>.res p fun y=>match hdI q x y with
  |some I=>match castEl (t:=.list I.t) (s:=.list ty) I.l with
   |some m'=>guardT (flatTy ty) (k I.p m')
   |none=>.fail
  |none=>.fail
 | .one (.v (.slice none 0 0))=>k [] []
 |_=>.fail
def srcTy (k:Ty->Tr Out):Sy->Tr Out
 | .one (.own q)=>.res q fun y=>match asList y with
  |some ⟨t',_⟩=>k t'
  |none=>.fail
 | .one (.hd p q x)=>.res p fun y=>match hdI q x y with
  |some I=>k I.t
  |none=>.fail
 |_=>.fail
def isNest:R2->Bool
 | .ext (.nest _ none _ _ _ _)=>true
 |_=>false
def appP (P:Program)(b t:Nat)(ty:Ty)(e:TypeId)(l:List (El ty))(ps:List Prop)(old:List (Nat×Option R2))(q:Sy):Tr Out:=
 srcT ty (fun qs m=>guardT (elemB P t e (tsz ty)) (.ret ⟨(l.length+m.length<=2147483647)::(ps++qs),[],.one (.own b),(b,some (.row e ty (l++m)))::old⟩)) q
def appT (P:Program)(b t:Nat)(p q:Sy):Tr Out:=
 match p with
 | .one (.v (.slice none 0 0))=>match q with
  | .one (.own i)=>.res i fun y=>match y with
   | .ext (.nest _ none e ty ie m)=>guardT (elemB P t e (tsz ty)) (.ret ⟨[m.length<=2147483647],[],.one (.own b),[(b,some (.ext (.nest b none e ty ie m))),(i,none)]⟩)
   |_=>srcTy (fun ty=>appP P b t ty (P.elem t) [] [] [] q) q
  |q=>srcTy (fun ty=>appP P b t ty (P.elem t) [] [] [] q) q
 | .one (.own j)=>.res j fun x=>match x with
  | .row e ty l=>appP P b t ty e l [] [(j,none)] q
  | .ext (.nest _ none e ty ie l)=>match q with
   | .one (.own i)=>.res i fun y=>match y with
    | .ext (.nest _ none _ ty' ie' m)=>match castEl (t:=.list ty') (s:=.list ty) m with
     |some m'=>guardT (elemB P t e (tsz ty) && (Nat.beq ie' ie && !Nat.beq j i)) (.ret ⟨[l.length+(show List (El ty) from m').length<=2147483647],[],.one (.own b),[(b,some (.ext (.nest b none e ty ie (l++(show List (El ty) from m'))))),(j,none),(i,none)]⟩)
     |none=>.fail
    |_=>.fail
   |_=>.fail
  |_=>.fail
 | .one (.hd j qf hx)=>.res j fun y=>match hdI qf hx y with
  |some I=>appP P b t I.t I.ie I.l I.p [(j,some I.z)] q
  |none=>.fail
 |_=>.fail
def wholeAt {t':Ty}(t:Ty)(off:Nat)(v:El t'):Option (El t):=match off with
 |0=>castEl (t:=t') (s:=t) v
 |_=>none
def setAt:(t:Ty)->Nat->(t':Ty)->El t'->El t->Option (El t)
 | .pair a b,off,t',v,x=>match wholeAt (.pair a b) off v with
  |some y=>some y
  |none=>match Nat.blt off (tsz0 a) with
   |true=>(setAt a off t' v x.1).map fun y=>(y,x.2)
   |false=>(setAt b (off-tsz0 a) t' v x.2).map fun y=>(x.1,y)
 |t,off,t',v,_=>wholeAt t off v
def nestV (P:Program)(cell:Option Cel)(ie:TypeId)(k:(t':Ty)->El t'->List Nat->Tr Out):Sy->Tr Out
 | .one (.own i)=>.res i fun z=>match z with
  | .row ie' ty m=>guardT (Nat.beq ie' ie) (k (.list ty) m [i])
  |_=>.fail
 | .one (.v (.slice none 0 0))=>match cell with
  |some (.l ty _)=>k (.list ty) ([]:List (El ty)) []
  |_=>.fail
 | .one (.v (.int .i64 n))=>k .int (show Int from n) []
 | .one (.b e)=>k .bool (show Bool from e.den) []
 | .one (.v (.string s))=>k .str (show ByteArray from s) []
 |_=>.fail
def holeP (h:Option Nat)(c:Nat):Prop:=match h with
 |none=>True
 |some c'=>c'=c
def storeElT (P:Program)(b:Nat)(t:TypeId)(j:Nat)(i:Int)(sz off:Nat)(y:Sy):Tr Out:=
 .res j fun x=>match x with
 | .row e ty l=>match codeOf P 9 t with
  |some ty'=>guardT (Nat.beq (tsz0 ty) sz && (Nat.beq (P.cellsOf t) (tsz0 ty') && ((P.info? t).isSome && (syCells y).all scOne)) && Nat.blt 0 (tsz0 ty')) (frz (syCells y) fun re=>guardT (re.all fun p=>!Nat.beq p.1 j) (gathSy ty' y fun v=>
   match setAt ty off ty' v (l.getD i.toNat (dfl ty)) with
   |some u=>.ret ⟨[Bnd i l.length],[],.one (.v undef),(j,some (.row e ty (l.set i.toNat u)))::re⟩
   |none=>.fail))
  |none=>.fail
 | .ext (.nest q h e ty ie l)=>nestV P ((cels ty (l.getD i.toNat (dfl ty)))[off]?) ie (fun t' v ks=>match setAt ty off t' v (l.getD i.toNat (dfl ty)) with
  |some u=>guardT (Nat.beq (tsz0 ty) sz && (Nat.beq (P.cellsOf t) 1 && (Nat.beq (tsz0 t') 1 && ((P.info? t).isSome && ks.all fun k=>!Nat.beq k j))))
   (.ret ⟨[Bnd i l.length,holeP h (i.toNat*sz+off)],[],.one (.v undef),(j,some (.ext (.nest b none e ty ie (l.set i.toNat u))))::(b,none)::ks.map fun k=>(k,none)⟩)
  |none=>.fail) y
 |_=>.fail
def storeT2 (P:Program)(b:Nat)(t:TypeId)(p y:Sy):Tr Out:=match p with
 | .one (.el j i sz off)=>storeElT P b t j i sz off y
 |p=>storeT P t p y
def holeK {k:Kc}(h:Option (KEl k))(x:KEl k):Prop:=match h with
 |none=>True
 |some y=>y=x
def putNT (P:Program)(b:Nat)(t:TypeId)(p q y:Sy):Tr Out:=
 match P.underlying t,p with
 |some (.map kt et),.one (.mp j)=>.res j fun r=>match r with
  | .ext (.nmap _ k h ty ie m)=>match keySc k q with
   |some x=>guardT (kindB P kt k) (match y with
    | .one (.own i)=>.res i fun z=>match z with
     | .row ie' ty' l=>match castEl (t:=.list ty') (s:=.list ty) l with
      |some l'=>guardT (Nat.beq ie' ie && !Nat.beq i j) (.ret ⟨[kwf k x,holeK h x,(show List (KEl k×List (El ty)) from m).length<=2147483647],[],.one (.v undef),[(j,some (.ext (.nmap b k none ty ie (putK (show List (KEl k×List (El ty)) from m) x (show List (El ty) from l'))))),(b,none),(i,none)]⟩)
      |none=>.fail
     |_=>.fail
    | .one (.v (.slice none 0 0))=>.ret ⟨[kwf k x,holeK h x,(show List (KEl k×List (El ty)) from m).length<=2147483647],[],.one (.v undef),[(j,some (.ext (.nmap b k none ty ie (putK (show List (KEl k×List (El ty)) from m) x [])))),(b,none)]⟩
    |_=>.fail)
   |none=>.fail
  |_=>putT P t p q y
 |_,_=>.fail
def ieOf (P:Program):Nat->TypeId->Option TypeId
 |0,_=>none
 |k+1,t=>match P.underlying t with
  |some (.slice e)=>some e
  |some (.struct fs)=>fs.toList.findSome? fun f=>ieOf P k f.type
  |_=>none
def makeMapT2 (P:Program)(md:Bool)(b:Nat)(t:TypeId):Tr Out:=match md with
 |false=>makeMapT P b t
 |true=>match P.underlying t,codeOf P 9 t with
  |some (.map kt et),some (.map k (.list ty))=>match P.underlying et with
   |some (.slice ie)=>guardT (kindB P kt k) (.ret ⟨[],[],.one (.mp b),[(b,some (.ext (.nmap b k none ty ie ([]:List (KEl k×List (El ty))))))]⟩)
   |_=>.fail
  |_,_=>.fail
def flat1:Cel->Sc->Bool
 | .l _ _,.v (.slice none 0 0)=>true
 | .i _,.v (.int .i64 _)=>true
 | .b _,.b _=>true
 | .s _,.v (.string _)=>true
 |_,_=>false
def nestL (ie:TypeId):List Cel->List Sc->(List Prop->List Nat->Tr Out)->Tr Out
 |[],[],k=>k [] []
 |x::cs,c::l,k=>match c with
  | .own i=>match x with
   | .l t l'=>.res i fun z=>match z with
    | .row ie' ty m=>match castEl (t:=.list ty) (s:=.list t) m with
     |some m'=>guardT (Nat.beq ie' ie) (nestL ie cs l fun ps ks=>guardT (ks.all fun q=>!Nat.beq i q) (k (((show List (El t) from m')=l')::ps) (i::ks)))
     |none=>.fail
    |_=>.fail
   |_=>.fail
  |c=>guardT (flat1 x c) (nestL ie cs l k)
 |_,_,_=>.fail
def litT2 (P:Program)(md:Bool)(b t len:Nat)(is:List Nat)(ys:List Sy):Tr Out:=match md with
 |false=>litT P b t len is ys
 |true=>match codeOf P 9 (P.elem t),ieOf P 9 (P.elem t) with
  |some ty,some ie=>guardT (rangeB 0 is && (Nat.beq is.length len && Nat.beq ys.length len && elemB P t (P.elem t) (tsz ty)) && Nat.ble len 1000)
   (gathAll ty ys fun l=>nestL ie (flatC ty l) (ys.flatMap syCells) fun ps ks=>.ret ⟨ps,[litHid P t len (P.elem t) (is.zip ys) (ys.flatMap syCells)],.one (.own b),(b,some (.ext (.nest b none (P.elem t) ty ie l)))::ks.map fun k=>(k,none)⟩)
  |_,_=>.fail
def capsOf:List Sy->Option (List (Nat×Nat))
 |[]=>some []
 | .one (.ptr j off)::l=>(capsOf l).map ((j,off):: ·)
 |_=>none
def intOp {α:Type 1}(C:List (Nat×Bool)):Option Operand->(Option Int->Tr α)->Tr α
 |none,k=>k none
 |some x,k=>opd C x fun s=>match s with
  | .one (.v (.int .i64 n))=>k (some n)
  |_=>.fail
def cutL {α:Type}(l:List α):Option Int->Option Int->List α
 |none,none=>l
 |some lo,none=>l.drop lo.toNat
 |none,some hi=>l.take hi.toNat
 |some lo,some hi=>(l.take hi.toNat).drop lo.toNat
def cutP (n:Nat):Option Int->Option Int->Prop
 |none,none=>True
 |some lo,none=>0<=lo/\lo<=(n:Int)
 |none,some hi=>0<=hi/\hi<=(n:Int)
 |some lo,some hi=>0<=lo/\lo<=hi/\hi<=(n:Int)
def sliceT (P:Program)(b:Nat)(t:TypeId)(lo hi:Option Int):Sy->Tr Out
 | .one (.own j)=>match P.underlying t with
  |some (.slice e)=>.res j fun x=>match x with
   | .row e' ty l=>guardT (elemB P t e' (tsz0 ty)) (.ret ⟨[cutP l.length lo hi],[],.one (.own b),[(b,some (.row e' ty (cutL l lo hi))),(j,none)]⟩)
   | .ro ty l=>guardT (elemB P t e (tsz0 ty)) (.ret ⟨[cutP l.length lo hi],[],.one (.own b),[(b,some (.ro ty (cutL l lo hi)))]⟩)
   | .ar ty l=>guardT (elemB P t e (tsz0 ty)) (.ret ⟨[cutP l.length lo hi],[],.one (.own b),[(b,some (.ar ty (cutL l lo hi)))]⟩)
   |_=>.fail
  |_=>.fail
 | .one (.v (.string s))=>match P.underlying t with
  |some .string=>.ret ⟨[cutP s.size lo hi],[],.one (.v (.string (s.extract (lo.getD 0).toNat (hi.getD s.size).toNat))),[]⟩
  |_=>.fail
 | .one (.v (.slice none 0 0))=>match P.underlying t with
  |some (.slice e)=>guardT (P.info? e).isSome (.ret ⟨[cutP 0 lo hi],[],.one (.v (.slice none 0 0)),[]⟩)
  |_=>.fail
 |_=>.fail
def entT (P:Program)(b:Nat)(t:TypeId)(p q:Sy):Tr Out:=match P.underlying t,p with
 |some (.map kt et),.one (.mp j)=>.res j fun R=>match R with
  | .map k .int m=>match keySc k q with
   |some kx=>guardT (kindB P kt k) (.ret ⟨[kwf k kx,(show List (KEl k×Int) from m).length<=2147483647],[zeroHid P et (.one (.v (.int .i64 0)))],.tup [(false,[.v (.int .i64 ((lookK (show List (KEl k×Int) from m) kx).getD 0))]),(false,[.hd j b (.ky k kx)])],[(j,some (.ext (.ent b k .int (putK (show List (KEl k×Int) from m) kx ((lookK (show List (KEl k×Int) from m) kx).getD 0)) kx))),(b,none)]⟩)
   |none=>.fail
  |_=>.fail
 |_,_=>.fail
def entStT (P:Program)(t:TypeId)(p s v:Sy):Tr Out:=match P.underlying t,p,s,v with
 |some (.map kt et),.one (.mp j),.one (.hd _ q (.ky k kx)),.one (.v (.int .i64 n))=>.res j fun R=>match R with
  | .ext (.ent q' k' .int m kx')=>guardT (kindB P kt k' && Nat.beq q q') (.ret ⟨[klit k kx=klit k' kx',kwf k' kx',(show List (KEl k'×Int) from m).length<=2147483647],[],.one (.v undef),[(j,some (.map k' .int (putK (show List (KEl k'×Int) from m) kx' (show Int from n))))]⟩)
  |_=>.fail
 |_,_,_,_=>.fail
def viewT (P:Program)(b:Nat)(t:TypeId)(lo:Int):Sy->Tr Out
 | .one (.own j)=>match P.underlying t with
  |some (.slice _)=>.res j fun x=>match x with
   | .row e' ty l=>guardT (elemB P t e' (tsz0 ty)) (.ret ⟨[0<=lo/\lo<=(l.length:Int)],[],.one (.own b),[(b,some (.ext (.vw j lo.toNat e' ty l))),(j,some (.ext (.fwd b)))]⟩)
   |_=>.fail
  |_=>.fail
 |_=>.fail
def sliceMT (P:Program)(b:Nat)(t:TypeId)(h m:Int):Sy->Tr Out
 | .one (.own j)=>match P.underlying t with
  |some (.slice e)=>.res j fun x=>match x with
   | .row e' ty l=>guardT (elemB P t e' (tsz0 ty)) (.ret ⟨[0<=h/\h<=m/\m<=(l.length:Int)],[],.one (.own b),[(b,some (.row e' ty (l.take h.toNat))),(j,none)]⟩)
   | .ro ty l=>guardT (elemB P t e (tsz0 ty)) (.ret ⟨[0<=h/\h<=m/\m<=(l.length:Int)],[],.one (.own b),[(b,some (.ro ty (l.take h.toNat)))]⟩)
   | .ar ty l=>guardT (elemB P t e (tsz0 ty)) (.ret ⟨[0<=h/\h<=m/\m<=(l.length:Int)],[],.one (.own b),[(b,some (.ar ty (l.take h.toNat)))]⟩)
   | .ext (.fwd b')=>.res b' fun y=>match y with
    | .ext (.vw q _ e' ty l)=>guardT (Nat.beq q j && elemB P t e' (tsz0 ty)) (.ret ⟨[0<=h/\h<=m/\m<=(l.length:Int)],[],.one (.own b),[(b,some (.row e' ty (l.take h.toNat))),(b',none),(j,none)]⟩)
    |_=>.fail
   |_=>.fail
  |_=>.fail
 |_=>.fail
def makeSliceT (P:Program)(b:Nat)(t:TypeId):Sy->Sy->Tr Out
 | .one (.v (.int .i64 l)),.one (.v (.int .i64 c))=>match codeOf P 9 (P.elem t),zeroSy P (P.elem t) with
  |some ty,some z=>guardT (elemB P t (P.elem t) (tsz ty)) (gathSy ty z fun x0=>.ret ⟨[0<=l/\l<=c/\c<=2147483647],[],.one (.own b),[(b,some (.row (P.elem t) ty (List.replicate l.toNat x0)))]⟩)
  |_,_=>.fail
 |_,_=>.fail
def rangeT (P:Program)(b:Nat)(t:TypeId):Sy->Tr Out
 | .one (.mp j)=>match P.underlying t with
  |some (.map kt et)=>frz [.mp j] fun re=>.res j fun x=>match asDatM x with
   |some ⟨k,ty,m⟩=>guardT (kindB P kt k && keepsB x && (re.all fun p=>Nat.beq p.1 j)) (.ret ⟨[],[],.one (.ptr b 0),(b,some (.iter k ty m (fun x=>(lookK (show List (KEl k×El ty) from m) x).isSome) (show List (KEl k×El ty) from m).length none))::re⟩)
   |none=>.fail
  |_=>.fail
 | .one (.v (.map none))=>match P.underlying t,codeOf P 9 t with
  |some (.map kt et),some (.map k ty)=>.ret ⟨[],[],.one (.ptr b 0),[(b,some (.iter k ty ([]:List (KEl k×El ty)) (fun _=>false) 0 none))]⟩
  |_,_=>.fail
 |_=>.fail
def keySy:(k:Kc)->KEl k->Sc
 | .int,x=>.v (.int .i64 (show Int from x))
 | .str,x=>.v (.string (show ByteArray from x))
def entryT (b:Nat):Sy->Tr Out
 | .one (.ptr j 0)=>.res j fun x=>match x with
  | .iter k ty _ _ _ (some e)=>.ret ⟨[],[],.tup [(false,[keySy k e.1]),(isPair ty,(celSc true b (cels ty e.2)).1)],(celSc true b (cels ty e.2)).2⟩
  |_=>.fail
 |_=>.fail
def tdivT:Sy->Sy->Tr Out
 | .one (.v (.int .i64 a)),.one (.v (.int .i64 b))=>oneIf (0<b/\InR .i64 a) (.v (.int .i64 (a.tdiv b)))
 |_,_=>.fail
def opT (P:Program)(T:List (Con P))(C:List (Nat×Bool))(md:Bool)(b:Nat):Op->Tr Out
 | .box t x=>opd C x fun y=>.ret ⟨[],[boxHid P t y (syCells y)],.one (.ptr b 0),[(b,some (.box t (syCells y)))]⟩
 | .alloc t=>match P.info? t with
  |some i=>match i.zero with
   |some z=>.ret ⟨[],[allocHid P t (z.cells.toList.map scOf)],.one (.ptr b 0),[(b,some (.box t (z.cells.toList.map scOf)))]⟩
   |none=>.fail
  |none=>.fail
 | .buildSlice t len parts=>opds C (parts.toList.map (·.2)) fun ys=>litT2 P md b t len (parts.toList.map (·.1)) ys
 | .store t x y=>opd C x fun p=>opd C y fun q=>storeT2 P b t p q
 | .build t parts=>opds C (parts.toList.map (·.2)) fun ys=>buildT P t ((parts.toList.map (·.1)).zip ys)
 | .call c=>match c.callee with
  | .value x=>opd C x fun p=>match p with
   | .one (.clo f caps)=>match T.find? (fun c=>Nat.beq c.f f) with
    |some con=>guardT (((P.funcs[f]?).map (fun fn=>((fn.name== "runtime.NumGoroutine")||fn.body.isNone)))==some false) (opds C c.args.toList fun ys=>con.tr b caps ys)
    |none=>.fail
   |_=>.fail
  | .builtin .append=>match c.args.toList,c.argTypes.toList with
   |[x,y],[t,t']=>guardT (Nat.beq t t') (opd C x fun p=>opd C y fun q=>appT P b t p q)
   |_,_=>.fail
  | .builtin .len=>match c.args.toList,c.argTypes.toList,isMapT P c.argTypes[0]? with
   |[x],[t],true=>opd C x fun p=>lenMT P t p
   |_,_,_=>quiet2 P C b (.call c)
  | .builtin .delete=>match c.args.toList,c.argTypes.toList with
   |[x,y],[t,kt]=>opd C x fun p=>opd C y fun q=>dropT P t kt p q
   |_,_=>.fail
  |_=>quiet2 P C b (.call c)
 | .makeMap t none=>makeMapT2 P md b t
 | .makeMap t (some x)=>opd C x fun p=>match p with
  | .one (.v (.int _ _))=>makeMapT2 P md b t
  |_=>.fail
 | .mapEntry t m x=>opd C m fun p=>opd C x fun q=>entT P b t p q
 | .entryStore t m x y=>opd C m fun p=>opd C x fun q=>opd C y fun z=>entStT P t p q z
 | .mapUpdate t m x y=>opd C m fun p=>opd C x fun q=>opd C y fun z=>putNT P b t p q z
 | .insert t m x y=>opd C m fun p=>opd C x fun q=>opd C y fun z=>putNT P b t p q z
 | .lookup t m x ok=>opd C m fun p=>opd C x fun q=>lookT P b t ok p q
 | .makeFunc f first caps=>match f,first.toList with
  | .func f,[]=>opds C caps.toList fun ys=>match capsOf ys with
   |some cs=>one (.clo f cs)
   |none=>.fail
  |_,_=>.fail
 | .slice t x (some lo) none none=>match md with
  |true=>opd C x fun p=>opd C lo fun q=>match q with
   | .one (.v (.int .i64 i))=>viewT P b t i p
   |_=>.fail
  |false=>opd C x fun p=>intOp C (some lo) fun i=>intOp C none fun k=>sliceT P b t i k p
 | .slice t x lo hi none=>opd C x fun p=>intOp C lo fun i=>intOp C hi fun k=>sliceT P b t i k p
 | .slice t x none (some hi) (some mx)=>opd C x fun p=>opd C hi fun q=>match q with
  | .one (.v (.int .i64 h))=>opd C mx fun q'=>match q' with
   | .one (.v (.int .i64 m))=>sliceMT P b t h m p
   |_=>.fail
  |_=>.fail
 | .makeSlice t l c=>opd C l fun p=>opd C c fun q=>makeSliceT P b t p q
 | .range t x=>opd C x fun p=>rangeT P b t p
 | .entry x=>opd C x fun p=>entryT b p
 | .binOp op t x y t'=>match md,op with
  |true,.quo=>opd C x fun p=>opd C y fun q=>tdivT p q
  |_,_=>quiet2 P C b (.binOp op t x y t')
 |op=>quiet2 P C b op
section
variable {P:Program}{o:OrgG}{n:Nat}{A A':Asg}{S S' T:Stab}{F G:Nat->Prop}{s:Nat->Option E2}{r:Nat->Option R2}{a:Act}{w w':World}{C:List (Nat×Bool)}{b:Nat}
theorem setM_in {re:List (Nat×Option R2)}{j:Nat}(h:∃x,(j,x)∈re)(r1 r2:Nat->Option R2):setM r1 re j=setM r2 re j:=by
 induction re with
 |nil=>obtain⟨x,hx⟩:=h;cases hx
 |cons p re ih=>
  show updR (setM r1 re) p.1 p.2 j=updR (setM r2 re) p.1 p.2 j
  by_cases q:p.1=j
  .subst q;rw[updR_same,updR_same]
  rw[updR_ne q,updR_ne q]
  refine ih ?_
  obtain⟨x,hx⟩:=h
  rcases List.mem_cons.1 hx with e|e
  .rw[<-e] at q;exact(q rfl).elim
  exact⟨x,e⟩
theorem setM_out {re:List (Nat×Option R2)}{j:Nat}(h:¬ ∃x,(j,x)∈re)(r1:Nat->Option R2):setM r1 re j=r1 j:=by
 induction re with
 |nil=>rfl
 |cons p re ih=>
  show updR (setM r1 re) p.1 p.2 j=_
  rw[updR_ne fun q=>h ⟨p.2,by rw[<-q];exact List.mem_cons_self⟩]
  exact ih fun⟨x,hx⟩=>h ⟨x,List.mem_cons_of_mem _ hx⟩
theorem setM_mem {re:List (Nat×Option R2)}{j:Nat}{z:R2}(h:∃x,(j,x)∈re)(hz:setM r re j=some z):(j,some z)∈re:=by
 induction re with
 |nil=>obtain⟨x,hx⟩:=h;cases hx
 |cons p re ih=>
  have hz:updR (setM r re) p.1 p.2 j=some z:=hz
  by_cases q:p.1=j
  .subst q;rw[updR_same] at hz;rw[<-hz];exact List.mem_cons_self
  rw[updR_ne q] at hz
  refine List.mem_cons_of_mem _ (ih ?_ hz)
  obtain⟨x,hx⟩:=h
  rcases List.mem_cons.1 hx with e|e
  .rw[<-e] at q;exact(q rfl).elim
  exact⟨x,e⟩
def HasK (A:Asg)(r:Nat->Option R2)(K:Nat->Prop)(c:Nat):Prop:=∃j x,K j/\r j=some x/\(x.den A j).has c
theorem Chg.mono {w w':World}{H H':Nat->Prop}(h:Chg w w' H)(k:∀c,H c->H' c):Chg w w' H':=⟨h.os,h.tape,h.output,h.size,fun c hc hn=>h.block c hc fun q=>hn (k c q)⟩
theorem OkF.hasK (H:OkF o n A S F s r a w){K:Nat->Prop}{c:Nat}(h:HasK A r K c):o.new c/\c<w.heap.size/\¬S c:=by
 obtain⟨j,x,_,h2,h3⟩:=h
 exact H.frm.own j _ c (show memF A r j=some _ by simp[memF,h2]) h3
theorem OkF.swap (H:OkF o n A S F s r a w)(hA:Agr F A A'){re:List (Nat×Option R2)}(K:Nat->Prop)(hK:∀j,K j->∃x,(j,x)∈re)
  (hc:Chg w w' (HasK A r K)) (hS:∀k,S k->S' k)
  (hS':∀k,S' k->S k\/((HasK A r K k\/w.heap.size<=k)/\k<w'.heap.size/\∀j z,(j,some z)∈re->¬(z.den A' j).has k))
  (hz:∀j z,(j,some z)∈re->z.all (FU F re)/\z.good A'/\isAr z=false/\(z.den A' j).ok S' w'/\∀c,(z.den A' j).has c->(HasK A r K c\/w.heap.size<=c)/\c<w'.heap.size)
  (ha:∀i j zi zj c,(i,some zi)∈re->(j,some zj)∈re->(zi.den A' i).has c->(zj.den A' j).has c->i=j):
  OkF o n A' S' (FU F re) s (setM r re) a w':=by
 have H1:=H.agree hA (G:=FU F re) fun j h=>.inl h
 have hden:∀j x,r j=some x->x.den A j=x.den A' j:=fun j x hx=>R2.congr hA (H.rall j x hx).1 (H.rall j x hx).2.1
 have hH:∀c,HasK A r K c↔∃j rr,K j/\memF A' r j=some rr/\rr.has c:=fun c=>by
  constructor
  .rintro⟨j,x,h1,h2,h3⟩
   exact⟨j,_,h1,by simp[memF,h2];rfl,by rw[<-hden j x h2];exact h3⟩
  rintro⟨j,rr,h1,h2,h3⟩
  obtain⟨x,hx,rfl⟩:=Option.map_eq_some_iff.1 h2
  exact⟨j,x,h1,hx,by rw[hden j x hx];exact h3⟩
 refine⟨H1.size,H1.nodef,H1.env,H1.sall,fun j x hx=>?_,H1.frm.swap (N:=fun j=> ∃x,(j,x)∈re) (K:=K) (hc.mono fun c q=>(hH c).1 q) hS (fun k hk=>?_) (fun j rr hj hr=>?_) (fun j rr hj hr=>?_) (fun j rr c hj hr hcc=>?_) (fun i j ri rj c hi hj ei ej q1 q2=>?_),fun j x hx=>?_,H1.pin⟩
 .by_cases q:∃x,(j,x)∈re
  .have h2:=hz j x (setM_mem q hx)
   obtain⟨y,hy⟩:=q
   exact⟨.inr ⟨y,hy⟩,h2.1,h2.2.1⟩
  rw[setM_out q] at hx;exact H1.rall j x hx
 .rcases hS' k hk with q|⟨q1,q2,q3⟩
  .exact .inl q
  refine .inr ⟨q1.imp (hH k).1 id,q2,fun j rr hj hr=>?_⟩
  obtain⟨x,hx,rfl⟩:=Option.map_eq_some_iff.1 hr
  exact q3 j x (setM_mem hj hx)
 .refine⟨fun q=>hj (hK j q),?_⟩
  have hr:(setM r re j).map (R2.den A' j)=some rr:=hr
  rw[setM_out hj] at hr;exact hr
 .obtain⟨x,hx,rfl⟩:=Option.map_eq_some_iff.1 hr
  exact(hz j x (setM_mem hj hx)).2.2.2.1
 .obtain⟨x,hx,rfl⟩:=Option.map_eq_some_iff.1 hr
  obtain⟨q1,q2⟩:=(hz j x (setM_mem hj hx)).2.2.2.2 c hcc
  exact⟨q1.imp (hH c).1 id,q2⟩
 .obtain⟨x,hx,rfl⟩:=Option.map_eq_some_iff.1 ei
  obtain⟨y,hy,rfl⟩:=Option.map_eq_some_iff.1 ej
  exact ha i j x y c (setM_mem hi hx) (setM_mem hj hy) q1 q2
 by_cases q:∃x,(j,x)∈re
 .exact arOk_not (hz j x (setM_mem q hx)).2.2.1
 rw[setM_out q] at hx;exact H1.args j x hx
theorem flat_rd:∀ {t:Ty} {cs:List Value} {x:El t},flatTy t=true->Data.rd T w cs x->Data.rd S w' cs x
 | .int,_,_,_,h=>h
 | .bool,_,_,_,h=>h
 | .str,_,_,_,h=>h
 | .unit,_,_,_,h=>h
 | .pair p q,cs,x,hf,h=>by
  have hf:(flatTy p && flatTy q)=true:=hf
  rw[Bool.and_eq_true] at hf
  obtain⟨c1,c2,rfl,h1,h2⟩:=h
  exact⟨c1,c2,rfl,flat_rd hf.1 h1,flat_rd hf.2 h2⟩
 | .list _,_,_,hf,_=>by cases hf
 | .map _ _,_,_,hf,_=>by cases hf
 | .ptr _,_,_,hf,_=>by cases hf
theorem flat_row {t:Ty}{xs:List Value}{l:List (El t)}(hf:flatTy t=true)(h:RowRd T w xs l):RowRd S w' xs l:=⟨h.1,fun i hi=>flat_rd hf (h.2 i hi)⟩
theorem src_slice {α:Type}[Data α]{tx e':TypeId}(hk:P.underlying tx=some (.slice e')){v:Value}{l:List α}(h:SliceRd T w v l):∃news,Src P (Data.size α) tx v l.length news w/\RowRd T w news l:=by
 obtain⟨p,c,rfl,h1,h2,h3⟩:=h
 rcases h3 with rfl|⟨g,off,cur,t,fz,rfl,hg,hw,hc⟩
 .refine⟨[],?_,RowRd.nil _ _⟩
  cases p with
  |none=>exact Src.ofNil w hk c
  |some a=>exact Src.ofSlice w hk a 0 c [] (by simp) (fun j u q=>by cases q) fun u q=>by cases q
 have hlen:0<l.length*Data.size α->off+l.length*Data.size α<=cur.size:=fun hp=>by
  have hl:0<l.length:=Nat.pos_of_ne_zero fun q=>by rw[q,Nat.zero_mul] at hp;omega
  have hs:0<Data.size α:=Nat.pos_of_ne_zero fun q=>by rw[q,Nat.mul_zero] at hp;omega
  obtain⟨cs,k1,k2⟩:=hc (l.length-1) (by omega)
  have:=k2 (Data.size α-1) (by omega)
  rw[List.getElem?_eq_getElem (by rw[Data.len k1];omega)] at this
  have:=(Array.getElem?_eq_some_iff.1 this).1
  have e:l.length*Data.size α=(l.length-1)*Data.size α+Data.size α:=by rw[<-Nat.succ_mul];congr 1;omega
  omega
 have hR:RowRd T w ((cur.toList.drop off).take (l.length*Data.size α)) l:=by
  refine⟨?_,fun i hi=>?_⟩
  .have hcl:cur.toList.length=cur.size:=Array.length_toList
   rw[List.length_take,List.length_drop,hcl]
   by_cases q:0<l.length*Data.size α
   .have:=hlen q;omega
   omega
  obtain⟨cs,k1,k2⟩:=hc i hi
  have e:((((cur.toList.drop off).take (l.length*Data.size α)).drop (i*Data.size α)).take (Data.size α))=cs:=by
   apply List.ext_getElem?
   intro j
   rw[List.getElem?_take]
   split
   .rename_i hj
    have:=Nat.mul_le_mul_right (Data.size α) (show i+1<=l.length from hi)
    rw[Nat.succ_mul] at this
    rw[List.getElem?_drop,List.getElem?_take,if_pos (by omega),List.getElem?_drop,Array.getElem?_toList,<-k2 j hj,Nat.add_assoc]
   rename_i hj
   rw[List.getElem?_eq_none (by rw[Data.len k1];omega)]
  rw[e];exact k1
 refine⟨_,Src.ofSlice w hk ⟨g,off,none⟩ l.length c _ hR.1 (fun j u hu=>?_) hR.one,hR⟩
 rw[Addr.add_lit,cell_of_row w g _ cur t fz hw]
 rw[List.getElem?_take] at hu
 split at hu
 .rw[List.getElem?_drop,Array.getElem?_toList] at hu;exact hu
 cases hu
theorem src_hd {tx e' e:TypeId}(hk:P.underlying tx=some (.slice e')){size:Nat}{v:Value}{m:Nat}{xs:List Value}(hd:HdAt w e size v m xs)(h1:∀u∈xs,u.oneCell'=true):Src P size tx v m xs w:=by
 rcases hd.2 with⟨rfl,rfl⟩|⟨g,d,cap,cur,rfl,hg,hnc,hcm,hcs,htake⟩
 .have:xs=[]:=List.eq_nil_of_length_eq_zero (by simpa using hd.1)
  subst this
  exact Src.ofNil w hk 0
 refine Src.ofSlice w hk _ _ _ _ hd.1 (fun j u hu=>?_) h1
 rw[Addr.add_lit]
 exact hd.cell hu
theorem src_list (H:OkF o n A S F s r a w){tx e':TypeId}(hk:P.underlying tx=some (.slice e')){j:Nat}{y:R2}(hj:r j=some y){t:Ty}{m:List (El t)}(hy:asList y=some ⟨t,m⟩)(hf:keepsB y=true\/flatTy t=true):
  ∃news,Src P (Data.size (El t)) tx (A.v j) m.length news w/\RowRd S w news m:=by
 have hok:(y.den A j).ok S w:=H.frm.ok j _ (show memF A r j=some _ by simp[memF,hj])
 cases y with
 |ro t' l'=>cases hy;exact src_slice hk (rd_slice hok)
 |ar t' l'=>
  cases hy
  obtain⟨news,h1,h2⟩:=src_slice hk (rd_slice (asList_rd H hj rfl))
  rcases hf with hf|hf
  .cases hf
  exact⟨news,h1,flat_row hf h2⟩
 |row e t' l'=>
  cases hy
  obtain⟨xs,h1,h2⟩:=hok
  exact⟨xs,src_hd hk h1 h2.one,h2⟩
 |ext z=>
  cases z with
  |vw q lo e t' l'=>
   cases hy
   obtain⟨⟨xs,hd,hrow⟩,pp,n,c,hv,h1,h2,hu⟩:OwnD S w e (A.v q) l'/\ViewOf (A.v j) (A.v q) lo (Data.size (El t)):=hok
   rw[hv] at hd
   obtain⟨p',c',e',_⟩:=hd.slice
   cases e'
   obtain⟨d1,d2⟩:=cut_hd hd h1 (Nat.le_refl _) h2 (Nat.le_refl _)
   have hr:=row_cut hrow h1 (Nat.le_refl _)
   have e9:(l'.drop lo).take (l'.length-lo)=l'.drop lo:=List.take_of_length_le (by rw[List.length_drop];exact Nat.le_refl _)
   rw[e9] at hr
   rw[<-hu] at d1
   exact⟨_,src_hd hk (by rw[List.length_drop];exact d1) hr.one,hr⟩
  |_=>cases hy
 |_=>cases hy
theorem hd_at (H:OkF o n A S F s r a w){j q:Nat}{y:R2}{x:Hx}{I:HdI}(hj:r j=some y)(h:hdI q x y=some I)(hp:∀p∈I.p,p):
  (∃xs,HdAt w I.ie (Data.size (El I.t)) (A.f q x.lit) I.l.length xs/\RowRd S w xs I.l)/\(∀c,(A.f q x.lit).ownBlock=some c->(y.den A j).has c)/\
   I.z.all F/\I.z.good A/\isAr I.z=false/\(I.z.den A j).ok S w/\∀c,(I.z.den A j).has c->(y.den A j).has c/\(A.f q x.lit).ownBlock≠some c:=by
 have hok:(y.den A j).ok S w:=H.frm.ok j _ (show memF A r j=some _ by simp[memF,hj])
 have hall:=(H.rall j y hj).2.1
 have nm:∀ {k:Kc} {t:Ty} {ie:TypeId} {m:MapD k (List (El t))} {x:KEl k},y= .ext (.nmap q k none t ie m)->(∃xs,HdAt w ie (Data.size (El t)) (A.f q (klit k x)) ((lookK (show List (KEl k×List (El t)) from m) x).getD []).length xs/\RowRd S w xs ((lookK (show List (KEl k×List (El t)) from m) x).getD []))/\(∀c,(A.f q (klit k x)).ownBlock=some c->(y.den A j).has c)/\
   F q/\((R2.ext (.nmap q k (some x) t ie m)).den A j).ok S w/\∀c,((R2.ext (.nmap q k (some x) t ie m)).den A j).has c->(y.den A j).has c/\(A.f q (klit k x)).ownBlock≠some c:=by
  intro k t ie m x e
  subst e
  obtain⟨blk,hb,N⟩:∃blk,A.m j=some blk/\NMapAt S w blk (A.f q) none ie m:=hok
  obtain⟨zs,n1,n2,n3⟩:=N.map
  have e2:lookK (show List (KEl k×List (El t)) from m) x=(lookK zs x).map (·.2):=by rw[n2];exact map_lookK (fun y:Value×List (El t)=>y.2) zs x
  have hO:OwnD S w ie (A.f q (klit k x)) ((lookK (show List (KEl k×List (El t)) from m) x).getD []):=by
   rw[e2]
   cases hl:lookK zs x with
   |none=>
    rw[N.non x (by rw[e2,hl];rfl) (by simp)]
    exact OwnD.nil
   |some z=>
    obtain⟨q1,q2⟩:=n3 _ (lookK_mem hl) (by simp)
    rw[<-q1];exact q2
  refine⟨hO,fun c hc=>.inr ⟨x,by simp,hc⟩,hall,⟨blk,hb,⟨zs,n1,n2,fun z hz _=>n3 z hz (by simp)⟩,fun z hz _=>N.non z hz (by simp),fun u v c _ _=>N.inj u v c (by simp) (by simp),fun u c _=>N.out u c (by simp)⟩,fun c hc=>?_⟩
  rcases hc with hc|⟨u,hu,hc⟩
  .refine⟨.inl hc,fun q=>?_⟩
   have hc:A.m j=some c:=hc
   rw[hb] at hc;cases hc
   exact N.out x _ (by simp) q rfl
  refine⟨.inr ⟨u,by simp,hc⟩,fun q=>hu ?_⟩
  rw[N.inj u x c (by simp) (by simp) hc q]
 unfold hdI at h
 split at h
 .rename_i i sz off q' e t ie l
  split at h
  .rename_i hg
   rw[Bool.and_eq_true] at hg
   have h1:=beq_t hg.1;have h2:=beq_t hg.2
   subst h1;subst h2
   split at h
   .rename_i t' l' hc
    cases h
    obtain⟨h0,h1⟩:Bnd i l.length:=hp _ (List.mem_singleton.2 rfl)
    have hN:NestAt S w (A.v j) (A.f q') none e t ie l:=hok
    have hi:i.toNat<l.length:=by omega
    have hoff:off<tsz0 t:=by have:=(List.getElem?_eq_some_iff.1 hc).1;rwa[cels_len0] at this
    have hfl:=flatC_at (t:=t) (l:=l) hi hoff
    rw[hc] at hfl
    have hlt:i.toNat*tsz0 t+off<l.length*tsz0 t:=by
     have:=(List.getElem?_eq_some_iff.1 hfl).1
     rwa[flatC_len] at this
    obtain⟨xs,k1,k2,k3⟩:=hN.row
    obtain⟨k4,k5⟩:=k3 _ _ hfl (by simp)
    refine⟨k5,fun c hcc=>.inr ⟨_,hlt,by simp,hcc⟩,hall,tv,rfl,⟨⟨xs,k1,k2,fun c x hx _=>k3 c x hx (by simp)⟩,fun c d bb h1 h2 _ _=>hN.inj c d bb h1 h2 (by simp) (by simp),fun c bb h1 _=>hN.out c bb h1 (by simp)⟩,fun c hcc=>?_⟩
    rcases hcc with hcc|⟨d,hd1,hd2,hd3⟩
    .exact⟨.inl hcc,fun q=>hN.out _ c hlt (by simp) q hcc⟩
    refine⟨.inr ⟨d,hd1,by simp,hd3⟩,fun q=>hd2 ?_⟩
    rw[hN.inj _ d c hlt hd1 (by simp) (by simp) q hd3]
   cases h
  cases h
 .rename_i x q' t ie m
  split at h
  .rename_i hg
   have h1:=beq_t hg
   subst h1
   cases h
   obtain⟨k1,k2,k3,k4,k5⟩:=nm (k:=.int) (x:=x) rfl
   exact⟨k1,k2,k3,tv,rfl,k4,k5⟩
  cases h
 .rename_i x q' t ie m
  split at h
  .rename_i hg
   have h1:=beq_t hg
   subst h1
   cases h
   obtain⟨k1,k2,k3,k4,k5⟩:=nm (k:=.str) (x:=x) rfl
   exact⟨k1,k2,k3,tv,rfl,k4,k5⟩
  cases h
 cases h
theorem srcT_run (H:OkF o n A S F s r a w){tx e':TypeId}(hk:P.underlying tx=some (.slice e')){ty:Ty}{k:List Prop->List (El ty)->Tr Out}{q:Sy}{out:Out}(h:(srcT ty k q).run s r=some out):
  ∃qs m,(k qs m).run s r=some out/\((∀p∈qs,p)->∃news,Src P (Data.size (El ty)) tx (q.den A) m.length news w/\RowRd S w news m):=by
 unfold srcT at h
 split at h
 .obtain⟨y,hy,h⟩:=res_run h
  split at h
  .rename_i t' m ha
   split at h
   .rename_i m' hm
    obtain⟨hg,h⟩:=guardT_run h
    obtain⟨e,hm2⟩:=castEl_ok hm
    cases e
    have hm2:m=m':=hm2
    subst hm2
    rw[Bool.or_eq_true] at hg
    exact⟨[],m,h,fun _=>src_list H hk hy ha hg⟩
   cases h
  cases h
 .obtain⟨y,hy,h⟩:=res_run h
  split at h
  .rename_i I hI
   split at h
   .rename_i m' hm
    obtain⟨hg,h⟩:=guardT_run h
    obtain⟨t,ie,l,ps,z⟩:=I
    obtain⟨e,hm2⟩:=castEl_ok hm
    have e:t=ty:=by injection e
    subst e
    have hm2:l=m':=hm2
    subst hm2
    refine⟨ps,l,h,fun hp=>?_⟩
    obtain⟨⟨xs,k1,k2⟩,_⟩:=hd_at H hy hI hp
    exact⟨xs,src_hd hk k1 k2.one,k2⟩
   cases h
  cases h
 .exact⟨[],[],h,fun _=>⟨[],Src.ofNil w hk 0,RowRd.nil _ _⟩⟩
 cases h
def OldOk (A:Asg)(S:Stab)(F:Nat->Prop)(w:World)(r:Nat->Option R2)(v:Value):Option (Nat×Option R2)->Prop
 |none=>v.ownBlock=none
 |some (j,y)=> ∃x,r j=some x/\(∀c,v.ownBlock=some c->(x.den A j).has c)/\∀z,y=some z->z.all F/\z.good A/\isAr z=false/\(z.den A j).ok S w/\∀c,(z.den A j).has c->(x.den A j).has c/\v.ownBlock≠some c
theorem OldOk.has {v:Value}{old:Option (Nat×Option R2)}(h:OldOk A S F w r v old){c:Nat}(hc:v.ownBlock=some c):HasK A r (fun i=> ∃y,old=some (i,y)) c:=by
 cases old with
 |none=>have h:v.ownBlock=none:=h;rw[h] at hc;cases hc
 |some p=>obtain⟨x,h1,h2,_⟩:=h;exact⟨p.1,x,⟨p.2,rfl⟩,h1,h2 c hc⟩
theorem OkF.keepS (H:OkF o n A S F s r a w){K:Nat->Prop}(hc:Chg w w' (HasK A r K)):Keeps S w w':=fun k hk=>hc.block k (H.frm.inb k hk) fun q=>(H.hasK q).2.2 hk
theorem OkF.rowTo (H:OkF o n A S F s r a w)(hF:¬F b){e:TypeId}{ty:Ty}{m:List (El ty)}{v v':Value}{xs:List Value}{old:Option (Nat×Option R2)}(hold:OldOk A S F w r v old)
  (hc:w.grownBy w' v.ownBlock) (hv:HdAt w' e (Data.size (El ty)) v' m.length xs) (hR:Keeps S w w'->RowRd S w' xs m) (hb:∀c,v'.ownBlock=some c->v.ownBlock=some c\/(w.heap.size<=c/\c<w'.heap.size)):
  ∃A',OkF o n A' S (FU F ((b,some (.row e ty m))::old.toList)) s (setM r ((b,some (.row e ty m))::old.toList)) a w'/\v'=A'.v b:=by
 obtain⟨p',c',hv',_⟩:=hv.slice
 have hag:=Agr.set (A:=A) hF p' m.length c' 0
 have hch:Chg w w' (HasK A r fun i=> ∃y,old=some (i,y)):=(Chg.of hc).mono fun c q=>hold.has q
 have hS:=H.keepS hch
 have hsub:∀p,p∈old.toList->old=some p:=fun p hp=>by simpa using hp
 refine⟨A.set b p' m.length c' 0,H.swap hag (fun i=> ∃y,old=some (i,y)) (fun j ⟨y,hy⟩=>⟨y,List.mem_cons_of_mem _ (by rw[hy];simp)⟩) hch (fun _ h=>h) (fun _ h=>.inl h) (fun j z hj=>?_) (fun i j zi zj c hi hj h1 h2=>?_),by rw[Asg.set_v];exact hv'⟩
 .rcases List.mem_cons.1 hj with hj|hj
  .cases hj
   refine⟨tv,tv,rfl,?_,fun c hcc=>?_⟩
   .show OwnD S w' e (Asg.v _ b) m
    rw[Asg.set_v,<-hv'];exact⟨xs,hv,hR hS⟩
   have hcc:(Asg.v _ b).ownBlock=some c:=hcc
   rw[Asg.set_v,<-hv'] at hcc
   rcases hb c hcc with q|q
   .exact⟨.inl (hold.has q),Nat.lt_of_lt_of_le (H.hasK (hold.has q)).2.1 hc.size⟩
   exact⟨.inr q.1,q.2⟩
  have ho:=hsub _ hj
  subst ho
  obtain⟨x,h1,h2,h3⟩:=hold
  obtain⟨k1,k2,k3,k4,k5⟩:=h3 z rfl
  have hFj:=(H.rall j x h1).1
  have hd:z.den A j=z.den (A.set b p' m.length c' 0) j:=R2.congr hag hFj k1
  rw[<-hd]
  refine⟨R2.mono (fun _ q=>.inl q) k1,R2.good_congr hag k1 k2,k3,(z.den A j).keep S w w' k4 hS fun c hcc=>?_,fun c hcc=>?_⟩
  .obtain⟨q1,q2⟩:=k5 c hcc
   exact hc.block c (H.hasK (K:=fun i=>i=j) ⟨j,x,rfl,h1,q1⟩).2.1 fun z=>q2 z.symm
  obtain⟨q1,q2⟩:=k5 c hcc
  have hk:HasK A r (fun i=> ∃y,some (j,some z)=some (i,y)) c:=⟨j,x,⟨_,rfl⟩,h1,q1⟩
  exact⟨.inl hk,Nat.lt_of_lt_of_le (H.hasK hk).2.1 hc.size⟩
 have key:∀j z c,(j,some z)∈old.toList->(z.den (A.set b p' m.length c' 0) j).has c->v'.ownBlock=some c->False:=fun j z c hj h1 h2=>by
  have ho:=hsub _ hj
  subst ho
  obtain⟨x,q1,q2,q3⟩:=hold
  obtain⟨k1,k2,k3,k4,k5⟩:=q3 z rfl
  rw[<-R2.congr hag (H.rall j x q1).1 k1] at h1
  obtain⟨k6,k7⟩:=k5 c h1
  rcases hb c h2 with q|q
  .exact k7 q
  have:=(H.hasK (K:=fun i=>i=j) ⟨j,x,rfl,q1,k6⟩).2.1
  omega
 rcases List.mem_cons.1 hi with hi|hi<;>rcases List.mem_cons.1 hj with hj|hj
 .cases hi;cases hj;rfl
 .cases hi
  have h1:(Asg.v _ b).ownBlock=some c:=h1
  rw[Asg.set_v,<-hv'] at h1
  exact(key j zj c hj h2 h1).elim
 .cases hj
  have h2:(Asg.v _ b).ownBlock=some c:=h2
  rw[Asg.set_v,<-hv'] at h2
  exact(key i zi c hi h1 h2).elim
 have e1:=hsub _ hi
 rw[hsub _ hj] at e1
 cases e1;rfl
theorem app_gen (H:OkF o n A S F s r a w)(hF:¬F b){t tx e:TypeId}{ty:Ty}{bytes:Nat}(E:Elem P t e (Data.size (El ty)) bytes)(hby:bytes<=1000){l m:List (El ty)}{v x:Value}(hd:∃xs,HdAt w e (Data.size (El ty)) v l.length xs/\RowRd S w xs l)
  {old:Option (Nat×Option R2)} (hold:OldOk A S F w r v old) (hs:∃news,Src P (Data.size (El ty)) tx x m.length news w/\RowRd S w news m) (hlen:l.length+m.length<=2147483647) (rty:TypeId):
  ∃v' w',(Builtin.append_ #[t,tx] rty #[v,x]).run P w= .ok v' w'/\∃A',OkF o n A' S (FU F ((b,some (.row e ty (l++m)))::old.toList)) s (setM r ((b,some (.row e ty (l++m)))::old.toList)) a w'/\v'=A'.v b:=by
 obtain⟨xs,hx1,hx2⟩:=hd
 obtain⟨news,hn1,hn2⟩:=hs
 obtain⟨v',w',hr,k1,k2,k3⟩:=push_hd (ty:=rty) E hx1 hn1 (by simp only[maxLen];omega) (by have:=Nat.mul_le_mul hlen hby;omega)
 refine⟨v',w',hr,H.rowTo hF hold k2 (xs:=xs++news) (by rw[List.length_append];exact k1) (fun hS=>(hx2.keep hS).append (hn2.keep hS)) k3⟩
end
section
variable {P:Program}{o:OrgG}{n:Nat}{A A':Asg}{S S' T:Stab}{F G:Nat->Prop}{s:Nat->Option E2}{r:Nat->Option R2}{a:Act}{w w':World}{C:List (Nat×Bool)}{b:Nat}
theorem wp_quiet {op:Oper}{v:Value}{K:Act->World->Prop}{Q:Exit->Act->World->Prop}(h:Oper.quietUpon P (· =w) w v ((execOp a.eval op).run P w))(k:K (a.put op.dst v) w):op.wp P a w K Q:=by
 unfold Oper.wp
 generalize (execOp a.eval op).run P w=res at h
 cases res with
 |ok x w'=>
  cases x<;>first|(exact h.elim)|skip
  .obtain⟨rfl,rfl⟩:=h;exact k
  .obtain⟨rfl,rfl⟩:=h;exact k
  obtain⟨rfl,h⟩:=h
  refine h.mono fun e w2 ⟨he,hw⟩=>?_
  subst he;subst hw;exact k
 |halt x w'=>exact h.elim
theorem gathSy_cells {α:Type 1}{t:Ty}{y:Sy}{k:El t->Tr α}{out:α}(hR:ReadsL T w A r (syCells y))(h:(gathSy t y k).run s r=some out):∃x:El t,Data.rd T w ((syCells y).map (Sc.den A)) x/\(∀ps,y≠.tup ps)/\(k x).run s r=some out:=by
 unfold gathSy at h
 split at h
 .obtain⟨x,u,rest,hu,h1,h⟩:=gath_run t _ _ hR h
  split at h
  .rw[List.append_nil] at hu;subst hu;exact⟨x,h1,(fun _ q=>by cases q),h⟩
  cases h
 .obtain⟨x,u,rest,hu,h1,h⟩:=gath_run t _ _ hR h
  split at h
  .rw[List.append_nil] at hu;subst hu;exact⟨x,h1,(fun _ q=>by cases q),h⟩
  cases h
 cases h
theorem gathAll_run {t:Ty}:∀ {ys:List Sy} {k:List (El t)->Tr Out} {out:Out},ReadsL T w A r (ys.flatMap syCells)->(gathAll t ys k).run s r=some out->∃l:List (El t),l.length=ys.length/\RowRd T w ((ys.flatMap syCells).map (Sc.den A)) l/\CelsOk T w ((ys.flatMap syCells).map (Sc.den A)) (flatC t l)/\(k l).run s r=some out
 |[],k,out,_,h=>⟨[],rfl,RowRd.nil _ _,tv,h⟩
 |y::ys,k,out,hR,h=>by
  have hR1:ReadsL T w A r (syCells y):=fun c hc=>hR c (by rw[List.flatMap_cons];exact List.mem_append_left _ hc)
  have hR2:ReadsL T w A r (ys.flatMap syCells):=fun c hc=>hR c (by rw[List.flatMap_cons];exact List.mem_append_right _ hc)
  obtain⟨x,hx,_,h⟩:=gathSy_cells hR1 h
  obtain⟨l,h1,h2,h3,h⟩:=gathAll_run hR2 h
  refine⟨x::l,by simp[h1],?_,?_,h⟩
  .rw[List.flatMap_cons,List.map_append]
   exact(RowRd.single hx).append h2
  rw[List.flatMap_cons,List.map_append]
  exact(rd_cels t hx).append h3
theorem own_new {w:World}{S:Stab}{t:Ty}{e:TypeId}{cs:List Value}{l:List (El t)}(h:RowRd S w cs l)(hS:∀k,S k->k<w.heap.size)(hl:l.length<=2147483647):
  Own S (w.alloc (.cells cs.toArray e)) e (.slice (some ⟨w.heap.size,0,none⟩) l.length l.length) l:=by
 refine⟨cs,⟨h.1,.inr ⟨w.heap.size,l.length,_,rfl,Nat.zero_le _,heap_alloc_new w _,Nat.le_refl _,by simp only[maxLen];omega,by simpa using h.1,?_⟩⟩,h.keep fun k hk=>(below_new w _).block k (hS k hk)⟩
 simp only[List.toList_toArray]
 rw[<-h.1,List.take_length]
theorem lit_step {B:Nat}(H:OkF o n A S F s r a w)(hF:∀j,b<=j->j<B->¬F j){op:Oper}{t len:Nat}{parts:Array (Nat×Operand)}{ys:List Sy}{out:Out}(ho:op.op= .buildSlice t len parts)(hargs:parts.toList.map (fun p=>a.eval p.2)=ys.map (Sy.den A))
  (h:(litT P b t len (parts.toList.map (·.1)) ys).run s r=some out) (hhs:∀h∈out.hs,∀A w,h.lhs A w=h.rhs A w) (hB:∀p∈out.re,p.1<B)
  {K:Act->World->Prop} {Q:Exit->Act->World->Prop} (k:∀v w',After o n F s r a out v w'->K (a.put op.dst v) w'):op.wp P a w K Q:=by
 unfold litT at h
 split at h
 .rename_i ty hty
  obtain⟨hg,h⟩:=guardT_run h
  simp only[Bool.and_eq_true] at hg
  obtain⟨⟨hr,⟨hl1,hl2⟩,hel⟩,hle⟩:=hg
  have hl1:=beq_t hl1;have hl2:=beq_t hl2;have hle:=Nat.le_of_ble_eq_true hle
  obtain⟨re,hz,hlz,h⟩:=frz_run _ _ h
  obtain⟨S',hS,H'⟩:=H.freeze hz
  obtain⟨l,hll,hrow,_,h⟩:=gathAll_run (T:=S') (frz_reads H hz hS H' hlz) h
  have e:=ret_run h
  subst e
  have hrun:=hhs _ (List.mem_singleton.2 rfl) A w
  simp only[litHid] at hrun
  have ep:parts.map (fun x=>(x.1,a.eval x.2))=(((parts.toList.map (·.1)).zip ys).map fun y=>(y.1,y.2.den A)).toArray:=by
   apply Array.ext'
   rw[Array.toList_map]
   show _=((parts.toList.map (·.1)).zip ys).map fun y=>(y.1,y.2.den A)
   have:(((parts.toList.map (·.1)).zip ys).map fun y=>(y.1,y.2.den A))=(parts.toList.map (·.1)).zip (ys.map (Sy.den A)):=by
    rw[List.zip_map_right]
    rfl
   rw[this,<-hargs,List.zip_map']
  have e2:(execOp a.eval op).run P w= .ok (.value (.slice (some ⟨w.heap.size,0,none⟩) len len)) (w.alloc (.cells (((ys.flatMap syCells).map (Sc.den A))).toArray (P.elem t))):=by
   rw[<-ep] at hrun
   simp only[execOp,ho,Sem.run_bind]
   rw[show(Array.map (fun x=>match x with|(i,x)=>(i,a.eval x)) parts)=parts.map (fun x=>(x.1,a.eval x.2)) from rfl,hrun]
   rfl
  refine wp_value e2 (k _ _ ?_)
  have hlen:l.length=len:=by rw[hll,hl2]
  have hown:=own_new (e:=P.elem t) hrow H'.frm.inb (by omega)
  rw[hlen] at hown
  have hFb:¬F b:=hF b (Nat.le_refl _) (hB (b,some (.row (P.elem t) ty l)) (List.mem_append_left _ (List.mem_singleton.2 rfl)))
  have H2:=H'.new (p:=some ⟨w.heap.size,0,none⟩) (m:=len) (c:=len) (x:=.cells (((ys.flatMap syCells).map (Sc.den A))).toArray (P.elem t)) (y:=.row (P.elem t) ty l) hFb (by show OwnD _ _ _ (Asg.v _ b) l;rw[Asg.set_v];exact OwnD.of hown) (fun k hk=>by have hk:(Asg.v _ b).ownBlock=some k:=hk;rw[Asg.set_v] at hk;cases hk;rfl) tv rfl tv
  rw[<-setM_append] at H2
  refine⟨_,S',H2.agree (Agr.refl _ _) fun j hj=>?_,by show _=Asg.v _ b;rw[Asg.set_v],.inr ⟨_,List.mem_append_left _ (List.mem_singleton.2 rfl)⟩,tv⟩
  rcases hj with hj|⟨z,hz⟩
  .exact .inl hj
  exact .inr ⟨z,List.mem_append_left _ hz⟩
 cases h
theorem box_step (H:OkF o n A S F s r a w)(hF:¬F b){op:Oper}{t:TypeId}{cs:List Sc}(hall:∀c∈cs,c.all F)(hgood:∀c∈cs,c.good A)
  (e2:(execOp a.eval op).run P w= .ok (.value (.pointer (some ⟨w.heap.size,0,none⟩))) (w.alloc (.cells (cs.map (Sc.den A)).toArray t))) {hs:List Hid}
  {K:Act->World->Prop} {Q:Exit->Act->World->Prop} (k:∀v w',After o n F s r a ⟨[],hs,.one (.ptr b 0),[(b,some (.box t cs))]⟩ v w'->K (a.put op.dst v) w'):op.wp P a w K Q:=by
 refine wp_value e2 (k _ _ ?_)
 have hFb:¬F b:=hF
 have hag:=Agr.set (A:=A) hFb none 0 0 w.heap.size
 have H2:=H.new (p:=none) (m:=0) (c:=0) (x:=.cells (cs.map (Sc.den A)).toArray t) (y:=.box t cs) hFb (by
  show(w.alloc _).heap[(A.set b none 0 0 w.heap.size).b b]?=_
  rw[Asg.set_b,<-scs_congr hag hall]
  exact heap_alloc_new w _) (fun k hk=>by have hk:some ((A.set b none 0 0 w.heap.size).b b)=some k:=hk;rw[Asg.set_b] at hk;cases hk;rfl) (fun c hc=>Sc.mono (fun j hj=>.inl hj) (hall c hc)) rfl (fun c hc=>Sc.good_congr hag (hall c hc) (hgood c hc))
 refine⟨_,S,H2,?_,.inr ⟨_,List.mem_singleton.2 rfl⟩,tv⟩
 show _=Value.pointer (some ⟨(A.set b none 0 0 w.heap.size).b b,0,none⟩)
 rw[Asg.set_b]
theorem store_val {q:Sy}(h4:(syCells q).all scOne=true)(h5:∀ps,q≠.tup ps):(q.den A).cells.toList=(syCells q).map (Sc.den A)/\∀u∈(syCells q).map (Sc.den A),u.oneCell'=true:=by
 refine⟨?_,fun u hu=>?_⟩
 .cases q with
  |one c=>
   have h4:scOne c=true:=by simpa[syCells] using h4
   show(Sc.den A c).cells.toList=[Sc.den A c]
   cases c with
   |v u=>
    have h4:u.oneCell'=true:=h4
    show u.cells.toList=[u]
    cases u<;>first|rfl|(simp[Value.oneCell'] at h4)
   |hd p q x=>cases h4
   |_=>rfl
  |agg ds=>rfl
  |tup ps=>exact(h5 ps rfl).elim
 obtain⟨c,hc,rfl⟩:=List.mem_map.1 hu
 have:=List.all_eq_true.1 h4 c hc
 cases c<;>first|exact this|rfl|cases this
theorem store_step (H:OkF o n A S F s r a w){op:Oper}{t:TypeId}{x y:Operand}{p q:Sy}{out:Out}(ho:op.op= .store t x y)(hx:a.eval x=p.den A)(hy:a.eval y=q.den A)(hq:q.all F/\q.good A)
  (h:(storeT P t p q).run s r=some out) {K:Act->World->Prop} {Q:Exit->Act->World->Prop} (k:∀v w',After o n F s r a out v w'->K (a.put op.dst v) w'):op.wp P a w K Q:=by
 unfold storeT at h
 split at h
 .rename_i j off
  obtain⟨z,hz,h⟩:=res_run h
  split at h
  .rename_i bt cs
   obtain⟨hg,h⟩:=guardT_run h
   simp only[Bool.and_eq_true] at hg
   obtain⟨⟨⟨⟨h1,h2⟩,h3⟩,h4⟩,h5⟩:=hg
   have h1:=Nat.le_of_ble_eq_true h1;have h2:=beq_t h2
   have e:=ret_run h
   subst e
   have hm:memF A r j=some (Rs.of (.box (A.b j) bt (cs.map (Sc.den A)))):=by show(r j).map _=_;rw[hz];rfl
   have hb:w.heap[A.b j]?=some (.cells (cs.map (Sc.den A)).toArray bt (0,0)):=H.frm.ok j _ hm
   obtain⟨inf,hinf⟩:=Option.isSome_iff_exists.1 h3
   obtain⟨hcells,hone⟩:=store_val (A:=A) h4 (fun ps e=>by subst e;cases h5)
   have hrun:=run_storeAt_box (P:=P) w t bt (A.b j) off (cs.map (Sc.den A)) ((syCells q).map (Sc.den A)) (q.den A) hb hcells (by simpa using h1) (by rw[hinf];simp only[Option.map_some,List.length_map];simp only[Program.cellsOf,hinf,Option.map_some,Option.getD_some] at h2;rw[h2]) hone
   have hx:a.eval x= .pointer (some ⟨A.b j,off,none⟩):=hx
   have e2:(execOp a.eval op).run P w= .ok .skip (w.setRow (A.b j) ((cs.map (Sc.den A)).take off++(syCells q).map (Sc.den A)++(cs.map (Sc.den A)).drop (off+((syCells q).map (Sc.den A)).length)).toArray):=by
    simp only[execOp,ho,Sem.run_bind,hx,hy,hrun]
    rfl
   have hnew:((cs.map (Sc.den A)).take off++(syCells q).map (Sc.den A)++(cs.map (Sc.den A)).drop (off+((syCells q).map (Sc.den A)).length))=(cs.take off++syCells q++cs.drop (off+(syCells q).length)).map (Sc.den A):=by
    rw[List.map_append,List.map_append,List.map_take,List.map_drop,List.length_map]
   rw[hnew] at e2
   unfold Oper.wp
   rw[e2]
   refine k undef _ ?_
   have hr:=H.rall j _ hz
   have hgb:w.grownBy (w.setRow (A.b j) ((cs.take off++syCells q++cs.drop (off+(syCells q).length)).map (Sc.den A)).toArray) (some (A.b j)):=⟨rfl,rfl,rfl,by simp,fun k _ hk=>setRow_other w (A.b j) k _ (fun e=>hk (by rw[e]))⟩
   have hf1:=H.frm.mut j hm (Chg.of hgb)
   have hown:=H.frm.own j _ (A.b j) hm rfl
   have hf2:=hf1.put j (Rs.of (.box (A.b j) bt ((cs.take off++syCells q++cs.drop (off+(syCells q).length)).map (Sc.den A)))) (setRow_heap w (A.b j) _ _ bt _ hb) (fun b' hb'=>by
    cases hb'
    refine⟨hown.1,by simpa using hown.2.1,hown.2.2,fun i ri hi hri e=>?_⟩
    unfold updF2 at hri
    rw[if_neg hi] at hri
    exact hi (H.frm.apart i j ri _ (A.b j) hri hm e rfl))
   have hsame:updF2 (updF2 (memF A r) j none) j (some (Rs.of (.box (A.b j) bt ((cs.take off++syCells q++cs.drop (off+(syCells q).length)).map (Sc.den A)))))=updF2 (memF A r) j (some (Rs.of (.box (A.b j) bt ((cs.take off++syCells q++cs.drop (off+(syCells q).length)).map (Sc.den A))))):=by
    funext i;unfold updF2;split<;>rfl
   rw[hsame] at hf2
   have hin:∀c∈cs.take off++syCells q++cs.drop (off+(syCells q).length),c.all F/\c.good A:=by
    intro c hc
    rcases List.mem_append.1 hc with hc|hc
    .rcases List.mem_append.1 hc with hc|hc
     .exact⟨hr.2.1 c (List.mem_of_mem_take hc),hr.2.2 c (List.mem_of_mem_take hc)⟩
     cases q with
     |one c'=>have:=List.mem_singleton.1 hc;subst this;exact hq
     |agg ds=>exact⟨hq.1 c hc,hq.2 c hc⟩
     |tup ps=>cases hc
    exact⟨hr.2.1 c (List.mem_of_mem_drop hc),hr.2.2 c (List.mem_of_mem_drop hc)⟩
   have H2:=OkF.upd H j (some (.box bt (cs.take off++syCells q++cs.drop (off+(syCells q).length)))) (fun z hz'=>by cases hz';exact⟨hr.1,fun c hc=>(hin c hc).1,fun c hc=>(hin c hc).2⟩) (fun z e=>by cases e;trivial) hf2
   exact⟨A,S,H2.agree (Agr.refl _ _) fun _ h=>.inl h,rfl,tv,tv⟩
  cases h
 cases h
end
section
variable {P:Program}{o:OrgG}{n:Nat}{A A':Asg}{S S' T:Stab}{F G:Nat->Prop}{s:Nat->Option E2}{r:Nat->Option R2}{a:Act}{w w':World}{C:List (Nat×Bool)}{b:Nat}
theorem put_left {α:Type}{u v a b:List α}{off k:Nat}(h:off+k<=a.length)(e:u=a.take off++v++a.drop (off+k)):u++b=(a++b).take off++v++(a++b).drop (off+k):=by
 rw[e,List.take_append_of_le_length (by omega),List.drop_append_of_le_length (by omega)]
 simp only[List.append_assoc]
theorem put_right {α:Type}{u v a b:List α}{off m k:Nat}(h:a.length+m=off)(e:u=b.take m++v++b.drop (m+k)):a++u=(a++b).take off++v++(a++b).drop (off+k):=by
 subst h
 rw[e,List.take_append,List.drop_append,List.take_of_length_le (l:=a) (i:=a.length+m) (by omega),List.drop_of_length_le (l:=a) (i:=a.length+m+k) (by omega),List.nil_append]
 have e1:a.length+m-a.length=m:=by omega
 have e2:a.length+m+k-a.length=m+k:=by omega
 rw[e1,e2]
 simp only[List.append_assoc]
theorem setAt_len:∀ {t:Ty} {off:Nat} {t':Ty} {v:El t'} {x u:El t},setAt t off t' v x=some u->off+tsz0 t'<=tsz0 t/\cels t u=(cels t x).take off++cels t' v++(cels t x).drop (off+tsz0 t'):=by
 have whole:∀ {t t':Ty} {off:Nat} {v:El t'} {x u:El t},wholeAt t off v=some u->off+tsz0 t'<=tsz0 t/\cels t u=(cels t x).take off++cels t' v++(cels t x).drop (off+tsz0 t'):=fun {t t' off v x u} h=>by
  cases off with
  |succ _=>cases h
  |zero=>
  obtain⟨e,h⟩:=castEl_ok h
  subst e
  have h:v=u:=h
  subst h
  exact⟨by omega,by rw[List.take_zero,List.nil_append,Nat.zero_add,<-cels_len0 t' x,List.drop_length,List.append_nil]⟩
 intro t
 induction t with
 |pair p q ihp ihq=>
  intro off t' v x u h
  simp only[setAt] at h
  split at h
  .rename_i y hy;cases h;exact whole hy
  split at h
  .rename_i hlt
   have hlt:off<tsz0 p:=by simpa using Nat.blt_eq▸hlt
   obtain⟨y,hy,rfl⟩:=Option.map_eq_some_iff.1 h
   obtain⟨k1,k2⟩:=ihp hy
   refine⟨by show _<=tsz0 p+tsz0 q;omega,?_⟩
   show cels p y++cels q x.2=(cels p x.1++cels q x.2).take off++cels t' v++(cels p x.1++cels q x.2).drop (off+tsz0 t')
   exact put_left (by rw[cels_len0];omega) k2
  rename_i hlt
  have hlt:¬off<tsz0 p:=fun q=>by rw[<-Nat.blt_eq] at q;rw[q] at hlt;cases hlt
  obtain⟨y,hy,rfl⟩:=Option.map_eq_some_iff.1 h
  obtain⟨k1,k2⟩:=ihq hy
  refine⟨by show _<=tsz0 p+tsz0 q;omega,?_⟩
  show cels p x.1++cels q y=(cels p x.1++cels q x.2).take off++cels t' v++(cels p x.1++cels q x.2).drop (off+tsz0 t')
  exact put_right (by rw[cels_len0];omega) k2
 |int=>intro off t' v x u h;exact whole h
 |bool=>intro off t' v x u h;exact whole h
 |str=>intro off t' v x u h;exact whole h
 |unit=>intro off t' v x u h;exact whole h
 |list _ _=>intro off t' v x u h;exact whole h
 |map _ _ _=>intro off t' v x u h;exact whole h
 |ptr _ _=>intro off t' v x u h;exact whole h
theorem row_put {ty t':Ty}{xs us:List Value}{l:List (El ty)}{i off:Nat}{v:El t'}{u:El ty}(h:RowRd S w xs l)(hi:i<l.length)(hu:CelsOk S w us (cels t' v))(hs:setAt ty off t' v (l.getD i (dfl ty))=some u):
  RowRd S w (xs.take (i*tsz0 ty+off)++us++xs.drop (i*tsz0 ty+off+us.length)) (l.set i u):=by
 obtain⟨k1,k2⟩:=setAt_len hs
 have hul:us.length=tsz0 t':=by rw[hu.len,cels_len0]
 have hxl:xs.length=l.length*tsz0 ty:=by rw[h.1,<-tsz0_eq]
 have hile:(i+1)*tsz0 ty<=xs.length:=by rw[hxl];exact Nat.mul_le_mul_right _ hi
 rw[Nat.succ_mul] at hile
 refine⟨by rw[List.length_append,List.length_append,List.length_take,List.length_drop,List.length_set,<-tsz0_eq,<-hxl];omega,fun j hj=>?_⟩
 rw[List.length_set] at hj
 rw[<-tsz0_eq]
 have hold:=h.2 j hj
 rw[<-tsz0_eq] at hold
 have hjle:(j+1)*tsz0 ty<=xs.length:=by rw[hxl];exact Nat.mul_le_mul_right _ hj
 rw[Nat.succ_mul] at hjle
 by_cases e:j=i
 .subst e
  rw[List.getElem_set_self]
  have:=take_drop_put xs us (j*tsz0 ty) off (tsz0 ty) hile (by omega)
  rw[this]
  have hx:l.getD j (dfl ty)=l[j]'hi:=by rw[List.getD_eq_getElem?_getD,List.getElem?_eq_getElem hi];rfl
  rw[hx] at k2
  refine cels_rd ty ?_
  rw[k2,hul]
  have hc:=rd_cels ty hold
  exact((hc.take off).append hu).append (hc.drop _)
 rw[List.getElem_set_ne (fun q=>e q.symm)]
 have he:((xs.take (i*tsz0 ty+off)++us++xs.drop (i*tsz0 ty+off+us.length)).drop (j*tsz0 ty)).take (tsz0 ty)=(xs.drop (j*tsz0 ty)).take (tsz0 ty):=by
  apply List.ext_getElem?
  intro q
  rw[List.getElem?_take,List.getElem?_take]
  split
  .rename_i hq
   rw[List.getElem?_drop,List.getElem?_drop]
   rcases Nat.lt_or_gt_of_ne e with hlt|hgt
   .have:=Nat.mul_le_mul_right (tsz0 ty) (show j+1<=i from hlt)
    rw[Nat.succ_mul] at this
    rw[List.append_assoc,List.getElem?_append_left (by rw[List.length_take];omega),List.getElem?_take,if_pos (by omega)]
   have:=Nat.mul_le_mul_right (tsz0 ty) (show i+1<=j from hgt)
   rw[Nat.succ_mul] at this
   rw[List.getElem?_append_right (by rw[List.length_append,List.length_take];omega),List.getElem?_drop]
   congr 1
   rw[List.length_append,List.length_take];omega
  rfl
 rw[he];exact hold
theorem CelsOk.keep {w w':World}(hk:Keeps S w w'):∀ {vs:List Value} {cs:List Cel},CelsOk S w vs cs->CelsOk S w' vs cs
 |[],[],_=>trivial
 |_::_,_::_,h=>⟨h.1.keep hk,h.2.keep hk⟩
 |[],_::_,h=>h.elim
 |_::_,[],h=>h.elim
theorem HdAt.as {e:TypeId}{k k' m m':Nat}{v:Value}{xs:List Value}(h:HdAt w e k v m xs)(e1:k=k')(e2:m=m'):HdAt w e k' v m' xs:=by subst e1;subst e2;exact h
theorem beqf {re:List (Nat×Option R2)}{j:Nat}(h:(re.all fun p=>!Nat.beq p.1 j)=true):¬ ∃x,(j,x)∈re:=fun⟨x,hx⟩=>by
 have:=List.all_eq_true.1 h _ hx
 simp at this
theorem FU.mono {re re':List (Nat×Option R2)}(h:∀p∈re,p∈re'){j:Nat}(q:FU F re j):FU F re' j:=q.imp id fun⟨x,hx⟩=>⟨x,h _ hx⟩
theorem elAt_store {t:TypeId}{x y:Operand}{op:Oper}(ho:op.op= .store t x y){g d:Nat}{u:Value}(hx:a.eval x= .pointer (some ⟨g,d,none⟩))(hy:a.eval y=u)(hr:(Instr.storeAt t (.pointer (some ⟨g,d,none⟩)) u).run P w= .ok () w'):(execOp a.eval op).run P w= .ok .skip w':=by
 simp only[execOp,ho,Sem.run_bind,hx,hy,hr];rfl
theorem cellsOf_map {t:TypeId}{k:Nat}(h1:P.cellsOf t=k)(h2:(P.info? t).isSome=true):(P.info? t).map (·.size)=some k:=by
 obtain⟨inf,hinf⟩:=Option.isSome_iff_exists.1 h2
 rw[hinf];simp only[Option.map_some]
 simp only[Program.cellsOf,hinf,Option.map_some,Option.getD_some] at h1;rw[h1]
theorem storeEl_row (H:OkF o n A S F s r a w){op:Oper}{t:TypeId}{x y:Operand}{j:Nat}{i:Int}{sz off:Nat}{q:Sy}{e:TypeId}{ty ty':Ty}{l:List (El ty)}{out:Out}(ho:op.op= .store t x y)(hx:a.eval x=(Sc.el j i sz off).den A)(hy:a.eval y=q.den A)(hj:r j=some (.row e ty l))
  (hg:(Nat.beq (tsz0 ty) sz && (Nat.beq (P.cellsOf t) (tsz0 ty') && ((P.info? t).isSome && (syCells q).all scOne)) && Nat.blt 0 (tsz0 ty'))=true)
  (h:(frz (syCells q) fun re=>guardT (re.all fun p=>!Nat.beq p.1 j) (gathSy ty' q fun v=>
   match setAt ty off ty' v (l.getD i.toNat (dfl ty)) with
   |some u=>.ret ⟨[Bnd i l.length],[],.one (.v undef),(j,some (.row e ty (l.set i.toNat u)))::re⟩
   |none=>.fail)).run s r=some out) (hcs:∀p∈out.cs,p) {K:Act->World->Prop} {Q:Exit->Act->World->Prop} (k:∀v w',After o n F s r a out v w'->K (a.put op.dst v) w'):op.wp P a w K Q:=by
 simp only[Bool.and_eq_true] at hg
 obtain⟨⟨g1,g2,g3,g4⟩,g5⟩:=hg
 have g1:=beq_t g1;have g2:=beq_t g2
 have g5:0<tsz0 ty':=by simpa using Nat.blt_eq▸g5
 obtain⟨re,hz,hl,h⟩:=frz_run _ _ h
 obtain⟨S',hS,H'⟩:=H.freeze hz
 obtain⟨hre,h⟩:=guardT_run h
 obtain⟨v,hv,htup,h⟩:=gathSy_cells (frz_reads H hz hS H' hl) h
 split at h
 .rename_i u hu
  have e:=ret_run h
  subst e
  obtain⟨h0,h1⟩:Bnd i l.length:=hcs _ (List.mem_singleton.2 rfl)
  have hi:i.toNat<l.length:=by omega
  have hj':setM r re j=some (.row e ty l):=by rw[setM_out (beqf hre)];exact hj
  have hm:memF A (setM r re) j=some (rowRs e (A.v j) l):=by show(setM r re j).map _=_;rw[hj'];rfl
  obtain⟨xs,hd,hR⟩:OwnD S' w e (A.v j) l:=H'.frm.ok j _ hm
  obtain⟨hv1,hv2⟩:=store_val (A:=A) g4 htup
  have hlen:((syCells q).map (Sc.den A)).length=tsz0 ty':=by rw[Data.len hv,tsz0_eq]
  obtain⟨k1,_⟩:=setAt_len hu
  have hile:(i.toNat+1)*tsz0 ty<=l.length*tsz0 ty:=Nat.mul_le_mul_right _ hi
  rw[Nat.succ_mul] at hile
  rw[<-tsz0_eq] at hd
  obtain⟨w',hrun,hd',hG,hsz⟩:=put_hd (P:=P) (t:=t) (c:=i.toNat*tsz0 ty+off) hd hv1 (by omega) (by omega) (by rw[hlen];exact cellsOf_map g2 g3) hv2
  have hx:a.eval x= .pointer (some ⟨hdB (A.v j),hdO (A.v j)+(i.toNat*tsz0 ty+off),none⟩):=by
   rw[hx,<-Nat.add_assoc,g1];rfl
  have e2:=elAt_store (P:=P) ho hx hy hrun
  unfold Oper.wp
  rw[e2]
  refine k undef _ ?_
  have hch:Chg w w' (HasK A (setM r re) fun c=>c=j):=(Chg.of hG).mono fun c hc=>⟨j,_,rfl,hj',hc⟩
  have hk:=H'.keepS hch
  have H2:=H'.swap (Agr.refl _ _) (re:=[(j,some (.row e ty (l.set i.toNat u)))]) (S':=S') (fun c=>c=j) (fun c hc=>by rw[show c=j from hc];exact⟨_,List.mem_singleton.2 rfl⟩) hch (fun _ q=>q) (fun _ q=>.inl q) (fun c z hz=>by
   cases List.mem_singleton.1 hz
   refine⟨tv,tv,rfl,⟨_,hd'.as (tsz0_eq ty) List.length_set.symm,row_put (hR.keep hk) hi ((rd_cels ty' hv).keep hk) hu⟩,fun c hc=>?_⟩
   have hk:HasK A (setM r re) (fun i=>i=j) c:=⟨j,_,rfl,hj',hc⟩
   exact⟨.inl hk,by rw[hsz];exact(H'.hasK hk).2.1⟩) (fun c d zc zd b h1 h2 _ _=>by
   cases List.mem_singleton.1 h1;cases List.mem_singleton.1 h2;rfl)
  refine⟨A,S',H2.agree (Agr.refl _ _) fun c hc=>?_,rfl,tv,tv⟩
  exact FU.mono (fun p hp=>by rw[List.mem_singleton.1 hp];exact List.mem_cons_self) hc
 cases h
theorem flatC_set {t:Ty}{x0:Cel}:∀ {l:List (El t)} {i off:Nat} {u:El t},i<l.length->off<tsz0 t->cels t u=(cels t (l.getD i (dfl t))).set off x0->flatC t (l.set i u)=(flatC t l).set (i*tsz0 t+off) x0
 |y::l,0,off,u,_,ho,h=>by
  show cels t u++flatC t l=(cels t y++flatC t l).set (0*tsz0 t+off) x0
  have h:cels t u=(cels t y).set off x0:=h
  rw[Nat.zero_mul,Nat.zero_add,List.set_append_left _ _ (by rw[cels_len0];exact ho),h]
 |y::l,i+1,off,u,hi,ho,h=>by
  show cels t y++flatC t (l.set i u)=(cels t y++flatC t l).set ((i+1)*tsz0 t+off) x0
  have ih:=flatC_set (l:=l) (i:=i) (u:=u) (by simpa using hi) ho h
  rw[ih,Nat.succ_mul,List.set_append_right _ _ (by rw[cels_len0];omega),cels_len0]
  congr 2;omega
theorem set_one {α:Type}{xs:List α}{c:Nat}{u:α}(h:c<xs.length):xs.take c++[u]++xs.drop (c+1)=xs.set c u:=by
 rw[List.set_eq_take_append_cons_drop,if_pos h,List.append_assoc];rfl
theorem nestV_run (H:OkF o n A S F s r a w){cell:Option Cel}{ie:TypeId}{k:(t':Ty)->El t'->List Nat->Tr Out}{q:Sy}{out:Out}(h:(nestV P cell ie k q).run s r=some out):
  ∃t' v ks x0 c,(k t' v ks).run s r=some out/\q= .one c/\scOne c=true/\(tsz0 t'=1->cels t' v=[x0])/\OCel S w ie (c.den A) x0/\(∀i∈ks,∃x,r i=some x)/\(∀b,(c.den A).ownBlock=some b->HasK A r (fun i=>i∈ks) b)/\(∀i∈ks,∀x,r i=some x->∀b,(x.den A i).has b->(c.den A).ownBlock=some b):=by
 unfold nestV at h
 split at h
 .rename_i i
  obtain⟨z,hz,h⟩:=res_run h
  split at h
  .rename_i ie' ty m
   obtain⟨hg,h2⟩:=guardT_run h
   clear h
   have:=beq_t hg;subst this
   have hm:memF A r i=some (rowRs ie' (A.v i) m):=by show(r i).map _=_;rw[hz];rfl
   refine⟨_,_,_,.l ty m,.own i,h2,rfl,rfl,fun _=>rfl,H.frm.ok i _ hm,fun i' hi=>?_,fun b hb=>⟨i,_,List.mem_singleton.2 rfl,hz,hb⟩,fun i' hi x hx b hb=>?_⟩
   .rw[List.mem_singleton.1 hi];exact⟨_,hz⟩
   have:=List.mem_singleton.1 hi;subst this
   rw[hz] at hx;cases hx;exact hb
  cases h
 .split at h
  .rename_i ty _
   exact⟨_,_,_,.l ty ([]:List (El ty)),.v (.slice none 0 0),h,rfl,rfl,fun _=>rfl,OwnD.nil,fun _ q=>(by cases q),fun b q=>(by cases q),fun _ q=>(by cases q)⟩
  cases h
 .rename_i m
  exact⟨_,_,_,.i m,_,h,rfl,rfl,fun _=>rfl,⟨rfl,rfl⟩,fun _ q=>(by cases q),fun b q=>(by cases q),fun _ q=>(by cases q)⟩
 .rename_i m
  exact⟨_,_,_,.b m.den,_,h,rfl,rfl,fun _=>rfl,⟨rfl,rfl⟩,fun _ q=>(by cases q),fun b q=>(by cases q),fun _ q=>(by cases q)⟩
 .rename_i m
  exact⟨_,_,_,.s m,_,h,rfl,rfl,fun _=>rfl,⟨rfl,rfl⟩,fun _ q=>(by cases q),fun b q=>(by cases q),fun _ q=>(by cases q)⟩
 cases h
theorem storeEl_nest {B:Nat}(H:OkF o n A S F s r a w)(hF:∀j,b<=j->j<B->¬F j){op:Oper}{t:TypeId}{x y:Operand}{j:Nat}{i:Int}{sz off:Nat}{q:Sy}{qf:Nat}{hh:Option Nat}{e ie:TypeId}{ty:Ty}{l:List (El ty)}{out:Out}(ho:op.op= .store t x y)(hx:a.eval x=(Sc.el j i sz off).den A)(hy:a.eval y=q.den A)(hj:r j=some (.ext (.nest qf hh e ty ie l)))
  (h:(nestV P ((cels ty (l.getD i.toNat (dfl ty)))[off]?) ie (fun t' v ks=>match setAt ty off t' v (l.getD i.toNat (dfl ty)) with
   |some u=>guardT (Nat.beq (tsz0 ty) sz && (Nat.beq (P.cellsOf t) 1 && (Nat.beq (tsz0 t') 1 && ((P.info? t).isSome && ks.all fun k=>!Nat.beq k j))))
    (.ret ⟨[Bnd i l.length,holeP hh (i.toNat*sz+off)],[],.one (.v undef),(j,some (.ext (.nest b none e ty ie (l.set i.toNat u))))::(b,none)::ks.map fun k=>(k,none)⟩)
   |none=>.fail) q).run s r=some out) (hcs:∀p∈out.cs,p) (hB:∀p∈out.re,p.1<B) {K:Act->World->Prop} {Q:Exit->Act->World->Prop} (k:∀v w',After o n F s r a out v w'->K (a.put op.dst v) w'):op.wp P a w K Q:=by
 classical
 obtain⟨t',v,ks,x0,c,h2,hq,hone,hcel,hO,hks,hkb,hkb2⟩:=nestV_run H h
 clear h
 subst hq
 split at h2
 .rename_i u hu
  obtain⟨hg,h⟩:=guardT_run h2
  clear h2
  simp only[Bool.and_eq_true] at hg
  obtain⟨g1,g2,g3,g4,g5⟩:=hg
  have g1:=beq_t g1;have g2:=beq_t g2;have g3:=beq_t g3
  have e0:=ret_run h
  subst e0
  obtain⟨h0,h1⟩:Bnd i l.length:=hcs _ List.mem_cons_self
  have hho:holeP hh (i.toNat*sz+off):=hcs _ (List.mem_cons_of_mem _ List.mem_cons_self)
  have hFb:¬F b:=hF b (Nat.le_refl _) (hB (b,none) (List.mem_cons_of_mem _ List.mem_cons_self))
  subst g1
  have hi:i.toNat<l.length:=by omega
  obtain⟨k1,k2⟩:=setAt_len hu
  rw[g3] at k1 k2
  rw[hcel g3] at k2
  have hoff:off<tsz0 ty:=by omega
  rw[set_one (by rw[cels_len0];exact hoff)] at k2
  have hfl:=flatC_set (t:=ty) hi hoff k2
  generalize hcc:i.toNat*tsz0 ty+off=cc at hho hfl
  have hile:(i.toNat+1)*tsz0 ty<=l.length*tsz0 ty:=Nat.mul_le_mul_right _ hi
  rw[Nat.succ_mul] at hile
  have hclt:cc<l.length*tsz0 ty:=by omega
  have hm:memF A r j=some ((X2.nest qf hh e ty ie l).den A j):=by show(r j).map _=_;rw[hj];rfl
  have hN:NestAt S w (A.v j) (A.f qf) hh e ty ie l:=H.frm.ok j _ hm
  obtain⟨xs,n1,n2,n3⟩:=hN.row
  have hone':((c.den A).cells.toList=[c.den A])/\(c.den A).oneCell'=true:=by
   obtain⟨z1,z2⟩:=store_val (A:=A) (q:=.one c) (by simp[syCells,hone]) (fun ps q=>by cases q)
   exact⟨z1,z2 _ (by simp[syCells])⟩
  obtain⟨w',hrun,hd',hG,hsz⟩:=put_hd (P:=P) (t:=t) (c:=cc) n1 hone'.1 (by simp;omega) (by simp) (by simpa using cellsOf_map g2 g4) (by simpa using hone'.2)
  have hx:a.eval x= .pointer (some ⟨hdB (A.v j),hdO (A.v j)+cc,none⟩):=by
   rw[hx,<-hcc,<-Nat.add_assoc];rfl
  have e2:=elAt_store (P:=P) ho hx hy hrun
  unfold Oper.wp
  rw[show(execOp a.eval op).run P w=_ from e2]
  refine k undef _ ?_
  have hxl:xs.length=l.length*tsz0 ty:=n1.1
  simp only[List.length_singleton] at hd'
  rw[set_one (by omega)] at hd'
  let g:Lit->Value:=fun x=>if x=ix cc then c.den A else A.f qf x
  have gc:g (ix cc)=c.den A:=if_pos rfl
  have gn:∀d,d≠cc->g (ix d)=A.f qf (ix d):=fun d hd=>if_neg fun q=>hd (ix_inj q)
  have hag:Agr F A (A.setF b g):=Agr.setF hFb g
  have hjF:=(H.rall j _ hj).1
  have hvj:(A.setF b g).v j=A.v j:=((hag j hjF).1).symm
  let K:Nat->Prop:=fun c=>c=j\/c∈ks
  have hjK:∀bb,(A.v j).ownBlock=some bb->HasK A r K bb:=fun bb hb=>⟨j,_,.inl rfl,hj,.inl hb⟩
  have hnh:∀d bb,d<l.length*tsz0 ty->d≠cc->(A.f qf (ix d)).ownBlock=some bb->((R2.ext (.nest qf hh e ty ie l)).den A j).has bb:=fun d bb hd hne hb=>by
   refine .inr ⟨d,hd,fun q=>?_,hb⟩
   subst q;exact hne hho
  have hne:∀d,d≠cc->hh≠some d:=fun d hd q=>by subst q;exact hd hho
  have hkK:∀bb,(c.den A).ownBlock=some bb->HasK A r K bb:=fun bb hb=>let⟨i,x,h1,h2,h3⟩:=hkb bb hb;⟨i,x,.inr h1,h2,h3⟩
  have hap:∀bb,(c.den A).ownBlock=some bb->((R2.ext (.nest qf hh e ty ie l)).den A j).has bb->False:=fun bb hb hb2=>by
   obtain⟨i,x,h1,h2,h3⟩:=hkb bb hb
   have:=H.frm.apart i j _ _ bb (show memF A r i=some (x.den A i) by simp[memF,h2]) hm h3 hb2
   subst this
   have:=List.all_eq_true.1 g5 _ h1
   simp at this
  have hch:Chg w w' (HasK A r K):=(Chg.of hG).mono fun bb hb=>hjK bb hb
  have hk:=H.keepS hch
  have hcell:∀bb,((R2.ext (.nest qf hh e ty ie l)).den A j).has bb->(A.v j).ownBlock≠some bb->w'.heap[bb]?=w.heap[bb]?:=fun bb hb hne=>hG.block bb (H.frm.own j _ bb hm hb).2.1 fun z=>hne z.symm
  have hH2:=H.swap hag (re:=(j,some (.ext (.nest b none e ty ie (l.set i.toNat u))))::(b,none)::ks.map fun k=>(k,none)) (S':=S) K (fun d hd=>by
   rcases hd with rfl|hd
   .exact⟨_,List.mem_cons_self⟩
   exact⟨none,List.mem_cons_of_mem _ (List.mem_cons_of_mem _ (List.mem_map.2 ⟨d,hd,rfl⟩))⟩) hch (fun _ q=>q) (fun _ q=>.inl q) (fun d z hz=>?_) (fun d d' z z' bb h1 h2 _ _=>?_)
  .refine⟨_,S,hH2,rfl,tv,tv⟩
  .have hz:(d,some z)=(j,some (.ext (.nest b none e ty ie (l.set i.toNat u)))):=by
    rcases List.mem_cons.1 hz with hz|hz
    .exact hz
    rcases List.mem_cons.1 hz with hz|hz
    .cases hz
    obtain⟨_,_,q⟩:=List.mem_map.1 hz;cases q
   cases hz
   have hlen:(l.set i.toNat u).length=l.length:=List.length_set
   refine⟨.inr ⟨none,List.mem_cons_of_mem _ List.mem_cons_self⟩,tv,rfl,?_,fun bb hb=>?_⟩
   .show NestAt S w' ((A.setF b g).v j) ((A.setF b g).f b) none e ty ie (l.set i.toNat u)
    rw[hvj,Asg.setF_f]
    refine⟨⟨xs.set cc (c.den A),by rw[hlen];exact hd',fun u' hu'=>?_,fun d x hdx _=>?_⟩,fun d1 d2 bb h1 h2 _ _ h3 h4=>?_,fun d bb h1 _ h3=>?_⟩
    .rcases List.mem_or_eq_of_mem_set hu' with q|rfl
     .exact n2 u' q
     exact hone'.2
    .rw[hfl] at hdx
     by_cases q:d=cc
     .subst q
      rw[List.getElem?_set_self (by rw[flatC_len];exact hclt)] at hdx
      cases hdx
      rw[gc,List.getElem?_set_self (by omega)]
      refine⟨rfl,hO.keep hk fun bb hb=>?_⟩
      exact hG.block bb (H.hasK (hkK bb hb)).2.1 fun q=>hap bb hb (.inl q.symm)
     rw[List.getElem?_set_ne (fun z=>q z.symm)] at hdx
     rw[gn d q,List.getElem?_set_ne (fun z=>q z.symm)]
     obtain⟨m1,m2⟩:=n3 d x hdx (hne d q)
     refine⟨m1,m2.keep hk fun bb hb=>?_⟩
     have hdl:=(List.getElem?_eq_some_iff.1 hdx).1
     rw[flatC_len] at hdl
     exact hcell bb (hnh d bb hdl q hb) fun z=>hN.out d bb hdl (hne d q) hb z
    .rw[hlen] at h1 h2
     by_cases q1:d1=cc<;>by_cases q2:d2=cc
     .rw[q1,q2]
     .subst q1;rw[gc] at h3;rw[gn d2 q2] at h4
      exact(hap bb h3 (hnh d2 bb h2 q2 h4)).elim
     .subst q2;rw[gc] at h4;rw[gn d1 q1] at h3
      exact(hap bb h4 (hnh d1 bb h1 q1 h3)).elim
     rw[gn d1 q1] at h3;rw[gn d2 q2] at h4
     exact hN.inj d1 d2 bb h1 h2 (hne d1 q1) (hne d2 q2) h3 h4
    rw[hlen] at h1
    by_cases q:d=cc
    .subst q;rw[gc] at h3;exact fun z=>hap bb h3 (.inl z)
    rw[gn d q] at h3;exact hN.out d bb h1 (hne d q) h3
   have hb:(((A.setF b g).v j).ownBlock=some bb)\/∃d,d<(l.set i.toNat u).length*tsz0 ty/\none≠some d/\(((A.setF b g).f b) (ix d)).ownBlock=some bb:=hb
   have hres:HasK A r K bb:=by
    rcases hb with hb|⟨d,hd,_,hb⟩
    .rw[hvj] at hb;exact hjK bb hb
    rw[Asg.setF_f] at hb
    rw[hlen] at hd
    by_cases q:d=cc
    .subst q;rw[gc] at hb;exact hkK bb hb
    rw[gn d q] at hb;exact⟨j,_,.inl rfl,hj,hnh d bb hd q hb⟩
   exact⟨.inl hres,by rw[hsz];exact(H.hasK hres).2.1⟩
  have key:∀ {d:Nat} {z:R2},(d,some z)∈(j,some (.ext (.nest b none e ty ie (l.set i.toNat u))))::(b,none)::(ks.map fun k=>(k,(none:Option R2)))->d=j:=fun hz=>by
   rcases List.mem_cons.1 hz with hz|hz
   .cases hz;rfl
   rcases List.mem_cons.1 hz with hz|hz
   .cases hz
   obtain⟨_,_,q⟩:=List.mem_map.1 hz;cases q
  rw[key h1,key h2]
 cases h2
theorem storeEl_step {B:Nat}(H:OkF o n A S F s r a w)(hF:∀j,b<=j->j<B->¬F j){op:Oper}{t:TypeId}{x y:Operand}{p q:Sy}{out:Out}(ho:op.op= .store t x y)(hx:a.eval x=p.den A)(hy:a.eval y=q.den A)(hq:q.all F/\q.good A)
  (h:(storeT2 P b t p q).run s r=some out) (hcs:∀p∈out.cs,p) (hB:∀p∈out.re,p.1<B) {K:Act->World->Prop} {Q:Exit->Act->World->Prop} (k:∀v w',After o n F s r a out v w'->K (a.put op.dst v) w'):op.wp P a w K Q:=by
 unfold storeT2 at h
 split at h
 .unfold storeElT at h
  obtain⟨R,hR,h⟩:=res_run h
  split at h
  .split at h
   .obtain⟨hg,h⟩:=guardT_run h
    exact storeEl_row H ho hx hy hR hg h hcs k
   cases h
  .exact storeEl_nest H hF ho hx hy hR h hcs hB k
  cases h
 exact store_step H ho hx hy hq h k
end
section
variable {P:Program}{o:OrgG}{n:Nat}{A A':Asg}{S S' T:Stab}{F G:Nat->Prop}{s:Nat->Option E2}{r:Nat->Option R2}{a:Act}{w w':World}{C:List (Nat×Bool)}{b:Nat}
theorem nest_mem (H:OkF o n A S F s r a w){j qf:Nat}{hh:Option Nat}{e ie:TypeId}{ty:Ty}{l:List (El ty)}(hj:r j=some (.ext (.nest qf hh e ty ie l))):NestAt S w (A.v j) (A.f qf) hh e ty ie l:=
 H.frm.ok j ((X2.nest qf hh e ty ie l).den A j) (by show(r j).map _=_;rw[hj];rfl)
theorem flatC_app (t:Ty)(l m:List (El t)):flatC t (l++m)=flatC t l++flatC t m:=List.flatMap_append
theorem nestApp (H:OkF o n A S F s r a w)(hF:¬F b){t e:TypeId}{ty:Ty}{bytes:Nat}(E:Elem P t e (tsz0 ty) bytes)(hby:bytes<=1000){ie:TypeId}{l m:List (El ty)}{v:Value}{old:Option Nat}
  (hold:match old with
   |some j=>v=A.v j/\∃qf,r j=some (.ext (.nest qf none e ty ie l))
   |none=>v= .slice none 0 0/\l=[])
  {i qi:Nat} {e':TypeId} (hi:r i=some (.ext (.nest qi none e' ty ie m))) (hne:old≠some i) (hlen:l.length+m.length<=2147483647) (rty:TypeId):
  ∃v' w',(Builtin.append_ #[t,t] rty #[v,A.v i]).run P w= .ok v' w'/\∃A',OkF o n A' S (FU F ((b,some (.ext (.nest b none e ty ie (l++m))))::(old.toList.map (fun j=>(j,none))++[(i,none)]))) s (setM r ((b,some (.ext (.nest b none e ty ie (l++m))))::(old.toList.map (fun j=>(j,none))++[(i,none)]))) a w'/\v'=A'.v b:=by
 have hNi:=nest_mem H hi
 obtain⟨ys,i1,i2,i3⟩:=hNi.row
 obtain⟨f0,xs,x1,x2,x3,hinj,hout,hKl⟩:∃f0:Lit->Value,∃xs,HdAt w e (tsz0 ty) v l.length xs/\(∀u∈xs,u.oneCell'=true)/\(∀c x,(flatC ty l)[c]?=some x->xs[c]?=some (f0 (ix c))/\OCel S w ie (f0 (ix c)) x)/\
   (∀c d bb,c<l.length*tsz0 ty->d<l.length*tsz0 ty->(f0 (ix c)).ownBlock=some bb->(f0 (ix d)).ownBlock=some bb->c=d)/\(∀c bb,c<l.length*tsz0 ty->(f0 (ix c)).ownBlock=some bb->v.ownBlock≠some bb)/\
   (∀bb,(v.ownBlock=some bb\/∃c,c<l.length*tsz0 ty/\(f0 (ix c)).ownBlock=some bb)->∃j x,old=some j/\r j=some x/\(x.den A j).has bb):=by
  cases old with
  |some j=>
   obtain⟨rfl,qf,hj⟩:=hold
   have hN:=nest_mem H hj
   obtain⟨xs,n1,n2,n3⟩:=hN.row
   refine⟨A.f qf,xs,n1,n2,fun c x hc=>n3 c x hc (by simp),fun c d bb h1 h2=>hN.inj c d bb h1 h2 (by simp) (by simp),fun c bb h1=>hN.out c bb h1 (by simp),fun bb hb=>⟨j,_,rfl,hj,?_⟩⟩
   rcases hb with hb|⟨c,h1,h2⟩
   .exact .inl hb
   exact .inr ⟨c,h1,by simp,h2⟩
  |none=>
   obtain⟨rfl,rfl⟩:=hold
   refine⟨fun _=>undef,[],HdAt.nil w e _,fun _ q=>(by cases q),fun c x hc=>by simp[flatC] at hc,fun c d bb h1=>by simp at h1,fun c bb h1=>by simp at h1,fun bb hb=>?_⟩
   rcases hb with hb|⟨c,h1,_⟩
   .cases hb
   simp at h1
 have hapart:∀bb,(v.ownBlock=some bb\/∃c,c<l.length*tsz0 ty/\(f0 (ix c)).ownBlock=some bb)->∀c,c<m.length*tsz0 ty->(A.f qi (ix c)).ownBlock=some bb->False:=fun bb hb c hc h2=>by
  obtain⟨j,x,q1,q2,q3⟩:=hKl bb hb
  have:=H.frm.apart j i _ _ bb (show memF A r j=some (x.den A j) by simp[memF,q2]) (show memF A r i=some ((R2.ext (.nest qi none e' ty ie m)).den A i) by simp[memF,hi]) q3 (.inr ⟨c,hc,by simp,h2⟩)
  subst this;exact hne q1
 obtain⟨v',w',hr,k1,k2,k3⟩:=push_hd (ty:=rty) E x1 (src_hd E.under i1 i2) (by simp only[maxLen];omega) (by have:=Nat.mul_le_mul hlen hby;omega)
 refine⟨v',w',hr,?_⟩
 obtain⟨p',c',hv',_⟩:=k1.slice
 let g:Lit->Value:=fun x=>match x with
  | .int _ z=>if z<(l.length*tsz0 ty:Nat) then f0 x else A.f qi (ix (z-(l.length*tsz0 ty:Nat)).toNat)
  |_=>undef
 have g1:∀c,c<l.length*tsz0 ty->g (ix c)=f0 (ix c):=fun c hc=>by
  show(if((c:Int)<(l.length*tsz0 ty:Nat)) then _ else _)=_
  rw[if_pos (by omega)]
 have g2:∀c,l.length*tsz0 ty<=c->g (ix c)=A.f qi (ix (c-l.length*tsz0 ty)):=fun c hc=>by
  show(if((c:Int)<(l.length*tsz0 ty:Nat)) then _ else _)=_
  rw[if_neg (by omega)]
  congr 2;omega
 have hag:Agr F A ((A.set b p' (l.length+m.length) c' 0).setF b g):=(Agr.set hF _ _ _ _).trans (Agr.setF hF g)
 have hvb:((A.set b p' (l.length+m.length) c' 0).setF b g).v b=v':=by rw[hv'];exact Asg.set_v A b p' (l.length+m.length) c' 0
 let K:Nat->Prop:=fun c=>old=some c\/c=i
 have hl:∀bb,(v.ownBlock=some bb\/∃c,c<l.length*tsz0 ty/\(f0 (ix c)).ownBlock=some bb)->HasK A r K bb:=fun bb hb=>let⟨j,x,q1,q2,q3⟩:=hKl bb hb;⟨j,x,.inl q1,q2,q3⟩
 have hm:∀bb c,c<m.length*tsz0 ty->(A.f qi (ix c)).ownBlock=some bb->HasK A r K bb:=fun bb c h1 h2=>⟨i,_,.inr rfl,hi,.inr ⟨c,h1,by simp,h2⟩⟩
 have hch:Chg w w' (HasK A r K):=(Chg.of k2).mono fun bb hb=>hl bb (.inl hb)
 have hk:=H.keepS hch
 have hsub:∀ {d:Nat} {z:R2},(d,some z)∈(b,some (.ext (.nest b none e ty ie (l++m))))::(old.toList.map (fun j=>(j,(none:Option R2)))++[(i,none)])->(d,some z)=(b,some (.ext (.nest b none e ty ie (l++m)))):=fun hz=>by
  rcases List.mem_cons.1 hz with hz|hz
  .exact hz
  rcases List.mem_append.1 hz with hz|hz
  .obtain⟨_,_,q⟩:=List.mem_map.1 hz;cases q
  cases List.mem_singleton.1 hz
 have hll:(l++m).length*tsz0 ty=l.length*tsz0 ty+m.length*tsz0 ty:=by rw[List.length_append,Nat.add_mul]
 have hcl:∀c bb,c<(l++m).length*tsz0 ty->(g (ix c)).ownBlock=some bb->HasK A r K bb/\v.ownBlock≠some bb:=fun c bb hc hb=>by
  rw[hll] at hc
  by_cases q:c<l.length*tsz0 ty
  .rw[g1 c q] at hb;exact⟨hl bb (.inr ⟨c,q,hb⟩),hout c bb q hb⟩
  rw[g2 c (by omega)] at hb
  exact⟨hm bb _ (by omega) hb,fun z=>hapart bb (.inl z) _ (by omega) hb⟩
 have hstay:∀c bb,c<(l++m).length*tsz0 ty->(g (ix c)).ownBlock=some bb->w'.heap[bb]?=w.heap[bb]?:=fun c bb hc hb=>by
  obtain⟨q1,q2⟩:=hcl c bb hc hb
  exact k2.block bb (H.hasK q1).2.1 fun z=>q2 z.symm
 refine⟨(A.set b p' (l.length+m.length) c' 0).setF b g,H.swap hag (S':=S) K (fun d hd=>⟨none,?_⟩) hch (fun _ q=>q) (fun _ q=>.inl q) (fun d z hz=>?_) (fun d d' z z' bb h1 h2 _ _=>?_),hvb.symm⟩
 .rcases hd with hd|rfl
  .exact List.mem_cons_of_mem _ (List.mem_append_left _ (List.mem_map.2 ⟨d,by rw[hd];simp,rfl⟩))
  exact List.mem_cons_of_mem _ (List.mem_append_right _ (List.mem_singleton.2 rfl))
 .cases hsub hz
  refine⟨.inr ⟨_,List.mem_cons_self⟩,tv,rfl,?_,fun bb hb=>?_⟩
  .show NestAt S w' (((A.set b p' (l.length+m.length) c' 0).setF b g).v b) (((A.set b p' (l.length+m.length) c' 0).setF b g).f b) none e ty ie (l++m)
   rw[hvb,Asg.setF_f]
   refine⟨⟨xs++ys,by rw[List.length_append];exact k1,fun u hu=>(List.mem_append.1 hu).elim (x2 u) (i2 u),fun c x hc _=>?_⟩,fun c d bb h1 h2 _ _ h3 h4=>?_,fun c bb h1 _ h3 h4=>?_⟩
   .have hclt:=(List.getElem?_eq_some_iff.1 hc).1
    rw[flatC_len] at hclt
    rw[flatC_app] at hc
    have hst:=hstay c
    by_cases q:c<l.length*tsz0 ty
    .rw[List.getElem?_append_left (by rw[flatC_len];exact q)] at hc
     obtain⟨m1,m2⟩:=x3 c x hc
     rw[List.getElem?_append_left (by rw[x1.1];exact q)]
     rw[g1 c q] at hst ⊢
     exact⟨m1,m2.keep hk fun bb hb=>hst bb hclt hb⟩
    rw[List.getElem?_append_right (by rw[flatC_len];omega),flatC_len] at hc
    obtain⟨m1,m2⟩:=i3 _ x hc (by simp)
    rw[List.getElem?_append_right (by rw[x1.1];omega),x1.1]
    rw[g2 c (by omega)] at hst ⊢
    exact⟨m1,m2.keep hk fun bb hb=>hst bb hclt hb⟩
   .rw[hll] at h1 h2
    by_cases q1:c<l.length*tsz0 ty<;>by_cases q2:d<l.length*tsz0 ty
    .rw[g1 c q1] at h3;rw[g1 d q2] at h4;exact hinj c d bb q1 q2 h3 h4
    .rw[g1 c q1] at h3;rw[g2 d (by omega)] at h4;exact(hapart bb (.inr ⟨c,q1,h3⟩) _ (by omega) h4).elim
    .rw[g2 c (by omega)] at h3;rw[g1 d q2] at h4;exact(hapart bb (.inr ⟨d,q2,h4⟩) _ (by omega) h3).elim
    rw[g2 c (by omega)] at h3;rw[g2 d (by omega)] at h4
    have:=hNi.inj _ _ bb (by omega) (by omega) (by simp) (by simp) h3 h4
    omega
   obtain⟨q1,q2⟩:=hcl c bb h1 h3
   rcases k3 bb h4 with q|q
   .exact q2 q
   have:=(H.hasK q1).2.1;omega
  have hb:(((A.set b p' (l.length+m.length) c' 0).setF b g).v b).ownBlock=some bb\/∃d,d<(l++m).length*tsz0 ty/\none≠some d/\((((A.set b p' (l.length+m.length) c' 0).setF b g).f b) (ix d)).ownBlock=some bb:=hb
  rcases hb with hb|⟨d,hd,_,hb⟩
  .rw[hvb] at hb
   rcases k3 bb hb with q|q
   .have:=hl bb (.inl q)
    exact⟨.inl this,Nat.lt_of_lt_of_le (H.hasK this).2.1 k2.size⟩
   exact⟨.inr q.1,q.2⟩
  rw[Asg.setF_f] at hb
  have:=(hcl d bb hd hb).1
  exact⟨.inl this,Nat.lt_of_lt_of_le (H.hasK this).2.1 k2.size⟩
 cases hsub h1;cases hsub h2;rfl
theorem flat1_ok {ie:TypeId}{x:Cel}{c:Sc}(h:flat1 x c=true)(hc:CelOk T w (c.den A) x):(∀i,c≠.own i)/\OCel S w ie (c.den A) x/\(c.den A).oneCell'=true/\∀bb,(c.den A).ownBlock≠some bb:=by
 unfold flat1 at h
 split at h
 .rename_i t l
  have hl:l=[]:=by
   obtain⟨p,cc,e,_⟩:=slice_header (rd_slice (show Rd T w (.slice none 0 0) l from hc))
   injection e with _ e2 _
   exact List.eq_nil_of_length_eq_zero e2.symm
  subst hl
  exact⟨(fun i q=>by cases q),OwnD.nil,rfl,fun bb q=>by cases q⟩
 .exact⟨(fun i q=>by cases q),⟨hc,rfl⟩,rfl,fun bb q=>by cases q⟩
 .exact⟨(fun i q=>by cases q),⟨hc,rfl⟩,rfl,fun bb q=>by cases q⟩
 .exact⟨(fun i q=>by cases q),⟨hc,rfl⟩,rfl,fun bb q=>by cases q⟩
 cases h
theorem nestL_run (H:OkF o n A S F s r a w){ie:TypeId}:∀ {cs:List Cel} {l:List Sc} {k:List Prop->List Nat->Tr Out} {out:Out},(nestL ie cs l k).run s r=some out->CelsOk T w (l.map (Sc.den A)) cs->
  ∃ps ks,(k ps ks).run s r=some out/\((∀p∈ps,p)->(∀i∈ks,∃x,r i=some x)/\(∀(d:Nat) (x:Cel) (c:Sc),cs[d]?=some x->l[d]?=some c->OCel S w ie (c.den A) x/\(c.den A).oneCell'=true/\∀bb,(c.den A).ownBlock=some bb->∃i x,c= .own i/\i∈ks/\r i=some x/\(x.den A i).has bb))/\
   (∀(d i:Nat),l[d]?=some (Sc.own i)->i∈ks)/\∀(d d' i:Nat),l[d]?=some (Sc.own i)->l[d']?=some (Sc.own i)->d=d':=by
 intro cs
 induction cs with
 |nil=>
  intro l k out h hc
  cases l with
  |nil=>exact⟨[],[],h,fun _=>⟨fun _ q=>(by cases q),fun d x c q=>by simp at q⟩,fun d i q=>by simp at q,fun d d' i q=>by simp at q⟩
  |cons _ _=>cases h
 |cons x cs ih=>
  intro l k out h hc
  cases l with
  |nil=>cases h
  |cons c l=>
   have hc1:CelOk T w (c.den A) x:=hc.1
   simp only[nestL] at h
   split at h
   .rename_i i
    split at h
    .rename_i t' l'
     obtain⟨z,hz,h⟩:=res_run h
     split at h
     .rename_i ie' ty m
      split at h
      .rename_i m' hm
       obtain⟨hg,h⟩:=guardT_run h
       have:=beq_t hg;subst this
       obtain⟨e,hm2⟩:=castEl_ok hm
       have e:ty=t':=by injection e
       subst e
       have hm2:m=m':=hm2
       subst hm2
       obtain⟨ps,ks,q1,q2,q5,q4⟩:=ih h hc.2
       obtain⟨hg2,q1⟩:=guardT_run q1
       have hO:OwnD S w ie' (A.v i) m:=H.frm.ok i (rowRs ie' (A.v i) m) (by show(r i).map _=_;rw[hz];rfl)
       have hno:∀(d:Nat),l[d]?=some (Sc.own i)->False:=fun d hd=>by
        have:=List.all_eq_true.1 hg2 _ (q5 d i hd)
        simp at this
       refine⟨_,i::ks,q1,fun hp=>?_,fun d i' e1=>?_,fun d d' i' e1 e2=>?_⟩
       .have hml:m=l':=hp _ List.mem_cons_self
        subst hml
        obtain⟨q2,q3⟩:=q2 fun p hpp=>hp p (List.mem_cons_of_mem _ hpp)
        refine⟨fun i' hi'=>?_,fun d x' c' e1 e2=>?_⟩
        .rcases List.mem_cons.1 hi' with rfl|hi'
         .exact⟨_,hz⟩
         exact q2 i' hi'
        cases d with
        |zero=>
         simp only[List.getElem?_cons_zero,Option.some.injEq] at e1 e2
         subst e1;subst e2
         exact⟨hO,rfl,fun bb hb=>⟨i,_,rfl,List.mem_cons_self,hz,hb⟩⟩
        |succ d=>
         simp only[List.getElem?_cons_succ] at e1 e2
         obtain⟨z1,z2,z3⟩:=q3 d x' c' e1 e2
         exact⟨z1,z2,fun bb hb=>let⟨i',x,y1,y2,y3⟩:=z3 bb hb;⟨i',x,y1,List.mem_cons_of_mem _ y2,y3⟩⟩
       .cases d with
        |zero=>simp only[List.getElem?_cons_zero,Option.some.injEq,Sc.own.injEq] at e1;subst e1;exact List.mem_cons_self
        |succ d=>simp only[List.getElem?_cons_succ] at e1;exact List.mem_cons_of_mem _ (q5 d i' e1)
       cases d with
       |zero=>
        cases d' with
        |zero=>rfl
        |succ d'=>
         simp only[List.getElem?_cons_zero,List.getElem?_cons_succ,Option.some.injEq,Sc.own.injEq] at e1 e2
         subst e1;exact(hno d' e2).elim
       |succ d=>
        cases d' with
        |zero=>
         simp only[List.getElem?_cons_zero,List.getElem?_cons_succ,Option.some.injEq,Sc.own.injEq] at e1 e2
         subst e2;exact(hno d e1).elim
        |succ d'=>simp only[List.getElem?_cons_succ] at e1 e2;rw[q4 d d' i' e1 e2]
      cases h
     cases h
    cases h
   obtain⟨hf,h⟩:=guardT_run h
   obtain⟨hne,hO,h1,hno⟩:=flat1_ok (ie:=ie) (S:=S) hf hc1
   obtain⟨ps,ks,q1,q2,q5,q4⟩:=ih h hc.2
   refine⟨ps,ks,q1,fun hp=>?_,fun d i e1=>?_,fun d d' i e1 e2=>?_⟩
   .obtain⟨q2,q3⟩:=q2 hp
    refine⟨q2,fun d x' c' e1 e2=>?_⟩
    cases d with
    |zero=>
     simp only[List.getElem?_cons_zero,Option.some.injEq] at e1 e2
     subst e1;subst e2
     exact⟨hO,h1,fun bb hb=>(hno bb hb).elim⟩
    |succ d=>simp only[List.getElem?_cons_succ] at e1 e2;exact q3 d x' c' e1 e2
   .cases d with
    |zero=>simp only[List.getElem?_cons_zero,Option.some.injEq] at e1;exact(hne i e1).elim
    |succ d=>simp only[List.getElem?_cons_succ] at e1;exact q5 d i e1
   cases d with
   |zero=>simp only[List.getElem?_cons_zero,Option.some.injEq] at e1;exact(hne i e1).elim
   |succ d=>
    cases d' with
    |zero=>simp only[List.getElem?_cons_zero,Option.some.injEq] at e2;exact(hne i e2).elim
    |succ d'=>simp only[List.getElem?_cons_succ] at e1 e2;rw[q4 d d' i e1 e2]
theorem lit_run {op:Oper}{t len:Nat}{parts:Array (Nat×Operand)}{ys:List Sy}(ho:op.op= .buildSlice t len parts)(hargs:parts.toList.map (fun p=>a.eval p.2)=ys.map (Sy.den A)){u:Value}
  (hrun:(litHid P t len (P.elem t) ((parts.toList.map (·.1)).zip ys) (ys.flatMap syCells)).lhs A w= .ok u w'):(execOp a.eval op).run P w= .ok (.value u) w':=by
 simp only[litHid] at hrun
 have ep:parts.map (fun x=>(x.1,a.eval x.2))=(((parts.toList.map (·.1)).zip ys).map fun y=>(y.1,y.2.den A)).toArray:=by
  apply Array.ext'
  rw[Array.toList_map]
  show _=((parts.toList.map (·.1)).zip ys).map fun y=>(y.1,y.2.den A)
  have:(((parts.toList.map (·.1)).zip ys).map fun y=>(y.1,y.2.den A))=(parts.toList.map (·.1)).zip (ys.map (Sy.den A)):=by
   rw[List.zip_map_right]
   rfl
  rw[this,<-hargs,List.zip_map']
 rw[<-ep] at hrun
 simp only[execOp,ho,Sem.run_bind]
 rw[show(Array.map (fun x=>match x with|(i,x)=>(i,a.eval x)) parts)=parts.map (fun x=>(x.1,a.eval x.2)) from rfl,hrun]
 rfl
theorem litN_step {B:Nat}(H:OkF o n A S F s r a w)(hF:∀j,b<=j->j<B->¬F j){op:Oper}{t len:Nat}{parts:Array (Nat×Operand)}{ys:List Sy}{md:Bool}{out:Out}(ho:op.op= .buildSlice t len parts)(hargs:parts.toList.map (fun p=>a.eval p.2)=ys.map (Sy.den A)) 
  (h:(litT2 P md b t len (parts.toList.map (·.1)) ys).run s r=some out) (hcs:∀p∈out.cs,p) (hhs:∀h∈out.hs,∀A w,h.lhs A w=h.rhs A w) (hB:∀p∈out.re,p.1<B)
  {K:Act->World->Prop} {Q:Exit->Act->World->Prop} (k:∀v w',After o n F s r a out v w'->K (a.put op.dst v) w'):op.wp P a w K Q:=by
 classical
 cases md with
 |false=>exact lit_step H hF ho hargs h hhs hB k
 |true=>
  simp only[litT2] at h
  split at h
  .rename_i ty ie hty hie
   obtain⟨hg,h⟩:=guardT_run h
   simp only[Bool.and_eq_true] at hg
   obtain⟨⟨hr,⟨hl1,hl2⟩,hel⟩,hle⟩:=hg
   have hl1:=beq_t hl1;have hl2:=beq_t hl2;have hle:=Nat.le_of_ble_eq_true hle
   obtain⟨l,hll,hrow,hcels,h⟩:=gathAll_run (T:=(· <w.heap.size)) (fun c _ j _=>reads_any H j) h
   obtain⟨ps,ks,h,q1,q2,q3⟩:=nestL_run H h hcels
   have e:=ret_run h
   subst e
   obtain⟨q4,q5⟩:=q1 hcs
   have hrun:=hhs _ (List.mem_singleton.2 rfl) A w
   have e2:=lit_run (P:=P) (w:=w) ho hargs (hrun.trans rfl)
   refine wp_value e2 (k _ _ ?_)
   have hlen:l.length=len:=by rw[hll,hl2]
   have hFb:¬F b:=hF b (Nat.le_refl _) (hB _ List.mem_cons_self)
   generalize hcsl:ys.flatMap syCells=cl at*
   let g:Lit->Value:=fun x=>match x with
    | .int _ z=>(cl.map (Sc.den A)).getD z.toNat undef
    |_=>undef
   have hg:∀d c,cl[d]?=some c->g (ix d)=c.den A:=fun d c hc=>by
    show(cl.map (Sc.den A)).getD (d:Int).toNat undef=_
    rw[Int.toNat_natCast,List.getD_eq_getElem?_getD,List.getElem?_map,hc];rfl
   have hag:Agr F A ((A.set b (some ⟨w.heap.size,0,none⟩) len len 0).setF b g):=(Agr.set hFb _ _ _ _).trans (Agr.setF hFb g)
   have hvb:((A.set b (some ⟨w.heap.size,0,none⟩) len len 0).setF b g).v b= .slice (some ⟨w.heap.size,0,none⟩) len len:=Asg.set_v A b (some ⟨w.heap.size,0,none⟩) len len 0
   let K:Nat->Prop:=fun c=>c∈ks
   have hcllen:cl.length=l.length*tsz0 ty:=by
    have:=hcels.len
    rw[List.length_map,flatC_len] at this;exact this
   have hget:∀d,d<l.length*tsz0 ty->∃c x,cl[d]?=some c/\(flatC ty l)[d]?=some x:=fun d hd=>⟨cl[d],(flatC ty l)[d]'(by rw[flatC_len];exact hd),List.getElem?_eq_getElem (by omega),List.getElem?_eq_getElem (by rw[flatC_len];exact hd)⟩
   have hown:∀d bb,d<l.length*tsz0 ty->(g (ix d)).ownBlock=some bb->∃i x,cl[d]?=some (.own i)/\i∈ks/\r i=some x/\(x.den A i).has bb:=fun d bb hd hb=>by
    obtain⟨c,x,hc,hx⟩:=hget d hd
    rw[hg d c hc] at hb
    obtain⟨_,_,z⟩:=q5 d x c hx hc
    obtain⟨i,y,y1,y2,y3,y4⟩:=z bb hb
    exact⟨i,y,by rw[hc,y1],y2,y3,y4⟩
   have hhas:∀d bb,d<l.length*tsz0 ty->(g (ix d)).ownBlock=some bb->HasK A r K bb:=fun d bb hd hb=>let⟨i,x,_,y2,y3,y4⟩:=hown d bb hd hb;⟨i,x,y2,y3,y4⟩
   have hch:Chg w (w.alloc (.cells (cl.map (Sc.den A)).toArray (P.elem t))) (HasK A r K):=(Chg.below (H:=fun _=>False) (below_new w _)).mono fun _ q=>q.elim
   have hk:=H.keepS hch
   have hsub:∀ {d:Nat} {z:R2},(d,some z)∈(b,some (.ext (.nest b none (P.elem t) ty ie l)))::(ks.map fun k=>(k,(none:Option R2)))->(d,some z)=(b,some (.ext (.nest b none (P.elem t) ty ie l))):=fun hz=>by
    rcases List.mem_cons.1 hz with hz|hz
    .exact hz
    obtain⟨_,_,q⟩:=List.mem_map.1 hz;cases q
   refine⟨(A.set b (some ⟨w.heap.size,0,none⟩) len len 0).setF b g,S,H.swap hag (S':=S) K (fun d hd=>⟨none,List.mem_cons_of_mem _ (List.mem_map.2 ⟨d,hd,rfl⟩)⟩) hch (fun _ q=>q) (fun _ q=>.inl q) (fun d z hz=>?_) (fun d d' z z' bb h1 h2 _ _=>by cases hsub h1;cases hsub h2;rfl),hvb.symm,.inr ⟨_,List.mem_cons_self⟩,tv⟩
   cases hsub hz
   refine⟨.inr ⟨_,List.mem_cons_self⟩,tv,rfl,?_,fun bb hb=>?_⟩
   .show NestAt S _ (((A.set b (some ⟨w.heap.size,0,none⟩) len len 0).setF b g).v b) (((A.set b (some ⟨w.heap.size,0,none⟩) len len 0).setF b g).f b) none (P.elem t) ty ie l
    rw[hvb,Asg.setF_f]
    refine⟨⟨cl.map (Sc.den A),⟨by rw[List.length_map,hcllen],.inr ⟨w.heap.size,0,len,_,by rw[Nat.zero_mul,hlen],heap_alloc_new w _,by omega,by simp only[maxLen];omega,by simp[hcllen,hlen],?_⟩⟩,fun u hu=>?_,fun d x hd _=>?_⟩,fun c d bb h1 h2 _ _ h3 h4=>?_,fun c bb h1 _ h3 h4=>?_⟩
    .rw[Nat.zero_mul,List.drop_zero,<-hcllen,List.toList_toArray,<-List.length_map (f:=Sc.den A),List.take_length]
    .obtain⟨c,hc,rfl⟩:=List.mem_map.1 hu
     obtain⟨d,hd⟩:=List.mem_iff_getElem?.1 hc
     have hdl:=(List.getElem?_eq_some_iff.1 hd).1
     obtain⟨_,x,_,hx⟩:=hget d (by omega)
     exact(q5 d x c hx hd).2.1
    .have hdl:=(List.getElem?_eq_some_iff.1 hd).1
     rw[flatC_len] at hdl
     obtain⟨c,_,hc,_⟩:=hget d hdl
     obtain⟨z1,_,_⟩:=q5 d x c hd hc
     rw[hg d c hc]
     refine⟨by rw[List.getElem?_map,hc];rfl,z1.keep hk fun bb hb=>?_⟩
     exact heap_alloc_old w _ (H.hasK (hhas d bb hdl (by rw[hg d c hc];exact hb))).2.1
    .obtain⟨i,x,y1,y2,y3,y4⟩:=hown c bb h1 h3
     obtain⟨i',x',z1,z2,z3,z4⟩:=hown d bb h2 h4
     have:=H.frm.apart i i' _ _ bb (show memF A r i=some (x.den A i) by simp[memF,y3]) (show memF A r i'=some (x'.den A i') by simp[memF,z3]) y4 z4
     subst this
     exact q3 c d i y1 z1
    have:=(H.hasK (hhas c bb h1 h3)).2.1
    cases h4
    exact Nat.lt_irrefl _ this
   have hb:(((A.set b (some ⟨w.heap.size,0,none⟩) len len 0).setF b g).v b).ownBlock=some bb\/∃d,d<l.length*tsz0 ty/\none≠some d/\((((A.set b (some ⟨w.heap.size,0,none⟩) len len 0).setF b g).f b) (ix d)).ownBlock=some bb:=hb
   rcases hb with hb|⟨d,hd,_,hb⟩
   .rw[hvb] at hb;cases hb
    exact⟨.inr (Nat.le_refl _),by simp⟩
   rw[Asg.setF_f] at hb
   have:=hhas d bb hd hb
   exact⟨.inl this,Nat.lt_of_lt_of_le (H.hasK this).2.1 hch.size⟩
  cases h
end
section
variable {P:Program}{o:OrgG}{n:Nat}{A A':Asg}{S S' T:Stab}{F G:Nat->Prop}{s:Nat->Option E2}{r:Nat->Option R2}{a:Act}{w w':World}{C:List (Nat×Bool)}{b:Nat}
theorem nmapPut (H:OkF o n A S F s r a w)(hF:¬F b){j qf:Nat}{kc:Kc}{hh:Option (KEl kc)}{ty:Ty}{ie:TypeId}{m:MapD kc (List (El ty))}(hj:r j=some (.ext (.nmap qf kc hh ty ie m))){kx:KEl kc}(hho:holeK hh kx)
  {t kt et:TypeId} (hu:P.underlying t=some (.map kt et)) (hk:P.underlying kt=some (kdesc kc)) (hw:kwf kc kx) (hlen:(show List (KEl kc×List (El ty)) from m).length<=2147483647) {v:Value} {l:List (El ty)} (hO:OwnD S w ie v l)
  {ks:List Nat} (hne:∀i∈ks,i≠j) (hks:∀c,v.ownBlock=some c->HasK A r (fun i=>i∈ks) c):
  ∃w',(Instr.mapUpdate t (.map (A.m j)) (kval kc kx) v).run P w= .ok () w'/\∃A',Agr F A A'/\OkF o n A' S (FU F ((j,some (.ext (.nmap b kc none ty ie (putK (show List (KEl kc×List (El ty)) from m) kx l))))::(b,none)::ks.map fun i=>(i,none))) s (setM r ((j,some (.ext (.nmap b kc none ty ie (putK (show List (KEl kc×List (El ty)) from m) kx l))))::(b,none)::ks.map fun i=>(i,none))) a w':=by
 classical
 have hm:memF A r j=some ((X2.nmap qf kc hh ty ie m).den A j):=by show(r j).map _=_;rw[hj];rfl
 obtain⟨blk,hb,N⟩:∃blk,A.m j=some blk/\NMapAt S w blk (A.f qf) hh ie m:=H.frm.ok j _ hm
 obtain⟨zs,n1,n2,n3⟩:=N.map
 obtain⟨w',hrun,ho',hG,hsz⟩:=n1.put hu hk (by rw[List.length_map];rw[n2] at hlen;simpa using hlen) hw v
 refine⟨w',by rw[hb];exact hrun,?_⟩
 let g:Lit->Value:=fun x=>if x=klit kc kx then v else A.f qf x
 have gc:g (klit kc kx)=v:=if_pos rfl
 have gn:∀y,y≠kx->g (klit kc y)=A.f qf (klit kc y):=fun y hy=>if_neg fun q=>hy (klit_inj kc q)
 have hag:Agr F A (A.setF b g):=Agr.setF hF g
 let K:Nat->Prop:=fun c=>c=j\/c∈ks
 have hne':∀y,y≠kx->hh≠some y:=fun y hy q=>by subst q;exact hy hho
 have hvK:∀c,v.ownBlock=some c->HasK A r K c:=fun c hc=>let⟨i,x,h1,h2,h3⟩:=hks c hc;⟨i,x,.inr h1,h2,h3⟩
 have hoK:∀y c,y≠kx->(A.f qf (klit kc y)).ownBlock=some c->HasK A r K c:=fun y c hy hc=>⟨j,_,.inl rfl,hj,.inr ⟨y,hne' y hy,hc⟩⟩
 have hbK:HasK A r K blk:=⟨j,_,.inl rfl,hj,.inl hb⟩
 have hap:∀c,v.ownBlock=some c->((R2.ext (.nmap qf kc hh ty ie m)).den A j).has c->False:=fun c hc h2=>by
  obtain⟨i,x,h3,h4,h5⟩:=hks c hc
  exact hne i h3 (H.frm.apart i j _ _ c (show memF A r i=some (x.den A i) by simp[memF,h4]) hm h5 h2)
 have hch:Chg w w' (HasK A r K):=(Chg.of hG).mono fun c hc=>by
  have hc:some blk=some c:=hc
  cases hc;exact hbK
 have hkS:=H.keepS hch
 have hstay:∀c,c≠blk->HasK A r K c->w'.heap[c]?=w.heap[c]?:=fun c hc hK=>hG.block c (H.hasK hK).2.1 fun q=>hc (by cases q;rfl)
 have hsub:∀ {d:Nat} {z:R2},(d,some z)∈(j,some (.ext (.nmap b kc none ty ie (putK (show List (KEl kc×List (El ty)) from m) kx l))))::(b,none)::(ks.map fun i=>(i,(none:Option R2)))->(d,some z)=(j,some (.ext (.nmap b kc none ty ie (putK (show List (KEl kc×List (El ty)) from m) kx l)))):=fun hz=>by
  rcases List.mem_cons.1 hz with hz|hz
  .exact hz
  rcases List.mem_cons.1 hz with hz|hz
  .cases hz
  obtain⟨_,_,q⟩:=List.mem_map.1 hz;cases q
 refine⟨A.setF b g,hag,H.swap hag (S':=S) K (fun d hd=>?_) hch (fun _ q=>q) (fun _ q=>.inl q) (fun d z hz=>?_) (fun d d' z z' bb h1 h2 _ _=>by cases hsub h1;cases hsub h2;rfl)⟩
 .rcases hd with rfl|hd
  .exact⟨_,List.mem_cons_self⟩
  exact⟨none,List.mem_cons_of_mem _ (List.mem_cons_of_mem _ (List.mem_map.2 ⟨d,hd,rfl⟩))⟩
 cases hsub hz
 refine⟨.inr ⟨none,List.mem_cons_of_mem _ List.mem_cons_self⟩,tv,rfl,?_,fun c hc=>?_⟩
 .show ∃bb,(A.setF b g).m j=some bb/\NMapAt S w' bb ((A.setF b g).f b) none ie (putK (show List (KEl kc×List (El ty)) from m) kx l)
  rw[Asg.setF_f]
  refine⟨blk,hb,⟨putK zs kx (v,l),by rw[map_putK (fun y:Value×List (El ty)=>y.1)];exact ho',by rw[map_putK (fun y:Value×List (El ty)=>y.2),n2],fun z hz _=>?_⟩,fun y hy _=>?_,fun x y c _ _ h1 h2=>?_,fun x c _ h1 h2=>?_⟩
  .rcases mem_putK.1 hz with rfl|⟨hz,hne2⟩
   .exact⟨gc.symm,hO.keep hkS fun c hc=>hstay c (fun q=>by subst q;exact hap _ hc (.inl hb)) (hvK c hc)⟩
   obtain⟨m1,m2⟩:=n3 z hz (hne' _ hne2)
   refine⟨by rw[gn _ hne2];exact m1,m2.keep hkS fun c hc=>?_⟩
   rw[m1] at hc
   exact hstay c (fun q=>N.out z.1 c (hne' _ hne2) hc q) (hoK _ c hne2 hc)
  .rw[lookK_put] at hy
   split at hy
   .cases hy
   rename_i hxy
   rw[gn y fun q=>hxy q.symm]
   exact N.non y hy (hne' y fun q=>hxy q.symm)
  .by_cases q1:x=kx<;>by_cases q2:y=kx
   .rw[q1,q2]
   .subst q1;rw[gc] at h1;rw[gn y q2] at h2
    exact(hap c h1 (.inr ⟨y,hne' y q2,h2⟩)).elim
   .subst q2;rw[gc] at h2;rw[gn x q1] at h1
    exact(hap c h2 (.inr ⟨x,hne' x q1,h1⟩)).elim
   rw[gn x q1] at h1;rw[gn y q2] at h2
   exact N.inj x y c (hne' x q1) (hne' y q2) h1 h2
  by_cases q:x=kx
  .subst q;rw[gc] at h1;subst h2;exact hap _ h1 (.inl hb)
  rw[gn x q] at h1;exact N.out x c (hne' x q) h1 h2
 have hc:(A.setF b g).m j=some c\/∃x,none≠some x/\(((A.setF b g).f b) (klit kc x)).ownBlock=some c:=hc
 have hres:HasK A r K c:=by
  rcases hc with hc|⟨x,_,hc⟩
  .have hc:A.m j=some c:=hc
   rw[hb] at hc;cases hc;exact hbK
  rw[Asg.setF_f] at hc
  by_cases q:x=kx
  .subst q;rw[gc] at hc;exact hvK c hc
  rw[gn x q] at hc;exact hoK x c q hc
 exact⟨.inl hres,Nat.lt_of_lt_of_le (H.hasK hres).2.1 hch.size⟩
theorem putN_step {B:Nat}(H:OkF o n A S F s r a w)(hF:∀j,b<=j->j<B->¬F j){op:Oper}{t:TypeId}{m x y:Operand}{p q z:Sy}{out:Out}(ho:op.op= .mapUpdate t m x y\/op.op= .insert t m x y)(hm:a.eval m=p.den A)(hx:a.eval x=q.den A)(hy:a.eval y=z.den A)
  (h:(putNT P b t p q z).run s r=some out) (hcs:∀p∈out.cs,p) (hB:∀p∈out.re,p.1<B) {K:Act->World->Prop} {Q:Exit->Act->World->Prop} (k:∀v w',After o n F s r a out v w'->K (a.put op.dst v) w'):op.wp P a w K Q:=by
 unfold putNT at h
 split at h
 .rename_i kt et j hu
  obtain⟨R,hR,h2⟩:=res_run h
  split at h2
  .rename_i qf kc hh ty ie mm
   split at h2
   .rename_i kx hkx
    obtain⟨hk,h3⟩:=guardT_run h2
    clear h2
    have hk:=kindB_ok hk
    have hq:q.den A=kval kc kx:=keySc_ok hkx
    have fin:∀ {v:Value} {l:List (El ty)} {ks:List Nat},OwnD S w ie v l->(∀i∈ks,i≠j)->(∀c,v.ownBlock=some c->HasK A r (fun i=>i∈ks) c)->a.eval y=v->
      out=⟨[kwf kc kx,holeK hh kx,(show List (KEl kc×List (El ty)) from mm).length<=2147483647],[],.one (.v undef),(j,some (.ext (.nmap b kc none ty ie (putK (show List (KEl kc×List (El ty)) from mm) kx l))))::(b,none)::ks.map fun i=>(i,none)⟩->op.wp P a w K Q:=by
     intro v l ks hO h1 h2 hv e
     subst e
     obtain⟨w',hrun,A',_,H2⟩:=nmapPut (P:=P) H (hF b (Nat.le_refl _) (hB (b,none) (List.mem_cons_of_mem _ List.mem_cons_self))) hR (hcs _ (List.mem_cons_of_mem _ List.mem_cons_self)) hu hk (hcs _ List.mem_cons_self) (hcs _ (List.mem_cons_of_mem _ (List.mem_cons_of_mem _ List.mem_cons_self))) hO h1 h2
     have hrun':(execOp a.eval op).run P w= .ok .skip w':=by
      have hm:a.eval m= .map (A.m j):=hm
      rcases ho with ho|ho<;>(simp only[execOp,ho,Sem.run_bind,hm,hx,hv,hq,hrun];rfl)
     unfold Oper.wp
     rw[hrun']
     exact k undef _ ⟨A',S,H2,rfl,tv,tv⟩
    split at h3
    .rename_i i
     obtain⟨Z,hZ,h3⟩:=res_run h3
     split at h3
     .rename_i ie' ty' l
      split at h3
      .rename_i l' hl
       obtain⟨hg,h4⟩:=guardT_run h3
       clear h3
       rw[Bool.and_eq_true] at hg
       have:=beq_t hg.1;subst this
       obtain⟨e,hl2⟩:=castEl_ok hl
       have e:ty'=ty:=by injection e
       subst e
       have hl2:l=l':=hl2
       subst hl2
       have e:=ret_run h4
       refine fin (ks:=[i]) (H.frm.ok i (rowRs ie' (A.v i) l) (by show(r i).map _=_;rw[hZ];rfl)) (fun i' hi' q=>?_) (fun c hc=>⟨i,_,List.mem_singleton.2 rfl,hZ,hc⟩) hy e
       rw[List.mem_singleton] at hi'
       subst hi';subst q
       simp at hg
      cases h3
     cases h3
    .have e:=ret_run h3
     exact fin (ks:=[]) OwnD.nil (fun _ q=>by cases q) (fun c q=>by cases q) hy e
    cases h3
   cases h2
  exact putM_step H ho tv hm hx hy h2 hcs k
 cases h
theorem makeMN_step {B:Nat}(H:OkF o n A S F s r a w)(hF:∀j,b<=j->j<B->¬F j){op:Oper}{t:TypeId}{x:Option Operand}{md:Bool}{out:Out}(ho:op.op= .makeMap t x)(hx:∀y,x=some y->∃k m,a.eval y= .int k m)
  (h:(makeMapT2 P md b t).run s r=some out) (hB:∀p∈out.re,p.1<B) {K:Act->World->Prop} {Q:Exit->Act->World->Prop} (k:∀v w',After o n F s r a out v w'->K (a.put op.dst v) w'):op.wp P a w K Q:=by
 cases md with
 |false=>exact makeM_step H hF ho hx h hB k
 |true=>
  simp only[makeMapT2] at h
  split at h
  .rename_i kt et kc ty hu hc
   split at h
   .rename_i ie hie
    obtain⟨hk,h⟩:=guardT_run h
    have hk:=kindB_ok hk
    have e:=ret_run h
    subst e
    have e2:(execOp a.eval op).run P w= .ok (.value (.map (some w.heap.size))) (w.alloc (.map #[] 0)):=by
     cases x with
     |none=>
      simp only[execOp,ho,Sem.run_bind,Option.map_none,run_makeMap]
      rfl
     |some y=>
      obtain⟨ik,m,hy⟩:=hx y rfl
      simp[execOp,ho,Sem.run_bind,Option.map_some,hy,Instr.makeMap,run_underlying hu,asInt,asIntOf,newObj,Result.andThen,Sem.run,Sem.run_pure]
    have hFb:=hF b (Nat.le_refl _) (hB _ (List.mem_singleton.2 rfl))
    let g:Lit->Value:=fun _=>.slice none 0 0
    have hag:Agr F A ((A.setM b (some w.heap.size)).setF b g):=(Agr.setM hFb _).trans (Agr.setF hFb g)
    have hm:((A.setM b (some w.heap.size)).setF b g).m b=some w.heap.size:=Asg.setM_m A b (some w.heap.size)
    have hch:Chg w (w.alloc (.map #[] 0)) (HasK A r fun _=>False):=(Chg.below (H:=fun _=>False) (below_new w _)).mono fun _ q=>q.elim
    refine wp_value e2 (k _ _ ⟨(A.setM b (some w.heap.size)).setF b g,S,H.swap hag (S':=S) (fun _=>False) (fun _ q=>q.elim) hch (fun _ q=>q) (fun _ q=>.inl q) (fun d z hz=>?_) (fun d d' z z' bb h1 h2 _ _=>by cases List.mem_singleton.1 h1;cases List.mem_singleton.1 h2;rfl),?_,.inr ⟨_,List.mem_singleton.2 rfl⟩,tv⟩)
    .cases List.mem_singleton.1 hz
     refine⟨.inr ⟨_,List.mem_singleton.2 rfl⟩,tv,rfl,⟨w.heap.size,hm,?_⟩,fun c hc=>?_⟩
     .rw[Asg.setF_f]
      exact⟨⟨[],OwnsK.new w hk,rfl,fun _ q=>by cases q⟩,fun x _ _=>rfl,fun x y c _ _ q=>(by cases q),fun x c _ q=>(by cases q)⟩
     rcases hc with hc|⟨x,_,hc⟩
     .have hc:((A.setM b (some w.heap.size)).setF b g).m b=some c:=hc
      rw[hm] at hc;cases hc
      exact⟨.inr (Nat.le_refl _),by simp⟩
     rw[Asg.setF_f] at hc;cases hc
    show _=Value.map (((A.setM b (some w.heap.size)).setF b g).m b)
    rw[hm]
   cases h
  cases h
theorem intOp_run {α:Type 1}(H:OkF o n A S F s r a w)(hC:chOk a C){x:Option Operand}{k:Option Int->Tr α}{out:α}(h:(intOp C x k).run s r=some out):∃i,x.map a.eval=i.map (Value.int .i64)/\(k i).run s r=some out:=by
 cases x with
 |none=>exact⟨none,rfl,h⟩
 |some x=>
  obtain⟨y,e1,e2,e3,h1⟩:=opd_run H hC h
  clear h e2 e3
  split at h1
  .rename_i m
   exact⟨some m,by rw[Option.map_some,e1];rfl,h1⟩
  cases h1
def cutLo (i:Option Int):Nat:=(i.getD 0).toNat
def cutHi (n:Nat)(k:Option Int):Nat:=match k with
 |none=>n
 |some k=>k.toNat
theorem cutP_ok {n:Nat}:∀ {i k:Option Int},cutP n i k->cutLo i<=cutHi n k/\cutHi n k<=n
 |none,none,_=>⟨Nat.zero_le _,Nat.le_refl _⟩
 |some lo,none,h=>by obtain⟨h1,h2⟩:0<=lo/\lo<=(n:Int):=h;exact⟨by show lo.toNat<=n;omega,Nat.le_refl _⟩
 |none,some hi,h=>by obtain⟨h1,h2⟩:0<=hi/\hi<=(n:Int):=h;exact⟨Nat.zero_le _,by show hi.toNat<=n;omega⟩
 |some lo,some hi,h=>by obtain⟨h1,h2,h3⟩:0<=lo/\lo<=hi/\hi<=(n:Int):=h;exact⟨by show lo.toNat<=hi.toNat;omega,by show hi.toNat<=n;omega⟩
theorem cutL_eq {α:Type}{l:List α}:∀ {i k:Option Int},cutP l.length i k->cutL l i k=(l.drop (cutLo i)).take (cutHi l.length k-cutLo i)
 |none,none,_=>by show l=(l.drop 0).take (l.length-0);simp
 |some lo,none,h=>by show l.drop lo.toNat=(l.drop lo.toNat).take (l.length-lo.toNat);rw[List.take_of_length_le (by rw[List.length_drop];exact Nat.le_refl _)]
 |none,some hi,h=>by show l.take hi.toNat=(l.drop 0).take (hi.toNat-0);simp
 |some lo,some hi,h=>by show(l.take hi.toNat).drop lo.toNat=(l.drop lo.toNat).take (hi.toNat-lo.toNat);rw[List.drop_take]
theorem cutL_len {α:Type}{l:List α}{i k:Option Int}(h:cutP l.length i k):(cutL l i k).length=cutHi l.length k-cutLo i:=by
 rw[cutL_eq h,List.length_take,List.length_drop]
 have:=cutP_ok h
 omega
theorem slice_run {t:TypeId}{size:Nat}(ht:P.underlying t=some (.slice (P.elem t)))(hs:(P.info? (P.elem t)).map (·.size)=some size){base:Option Addr}{len cap:Nat}(hlc:len<=cap){i k:Option Int}(h:cutP len i k):
  (Instr.sliceAt t (.slice base len cap) (i.map (Value.int .i64)) (k.map (Value.int .i64)) none).run P w= .ok (sliced base (cutLo i) (cutHi len k) cap size) w:=by
 obtain⟨inf,hinf,rfl⟩:=Option.map_eq_some_iff.1 hs
 have hsz:(sizeOf (P.elem t)).run P w= .ok inf.size w:=by simp[sizeOf,typeInfo,hinf]
 rw[run_sliceAt_slice w t _ _ _ _ ht]
 match i,k,h with
 |none,none,h=>simp only[Option.map_none];rw[run_slice_all w t base len cap ht,hsz];rfl
 |some lo,none,h=>
  obtain⟨h1,h2⟩:0<=lo/\lo<=(len:Int):=h
  simp only[Option.map_none,Option.map_some];rw[run_slice_l w t base len cap ht .i64 lo h1 h2,hsz];rfl
 |none,some hi,h=>
  obtain⟨h1,h2⟩:0<=hi/\hi<=(len:Int):=h
  simp only[Option.map_none,Option.map_some];rw[run_slice_h w t base len cap ht .i64 hi h1 (by omega),hsz];rfl
 |some lo,some hi,h=>
  obtain⟨h1,h2,h3⟩:0<=lo/\lo<=hi/\hi<=(len:Int):=h
  simp only[Option.map_some];rw[run_slice_lh w t base len cap ht .i64 .i64 lo hi h1 h2 (by omega),hsz];rfl
theorem sliceM_run {t:TypeId}{size:Nat}(ht:P.underlying t=some (.slice (P.elem t)))(hs:(P.info? (P.elem t)).map (·.size)=some size){base:Option Addr}{len cap:Nat}{h m:Int}(h0:0<=h)(h1:h<=m)(h2:m.toNat<=cap):
  (Instr.sliceAt t (.slice base len cap) none (some (Value.int .i64 h)) (some (Value.int .i64 m))).run P w= .ok (sliced base 0 h.toNat m.toNat size) w:=by
 obtain⟨inf,hinf,rfl⟩:=Option.map_eq_some_iff.1 hs
 have hsz:(sizeOf (P.elem t)).run P w= .ok inf.size w:=by simp[sizeOf,typeInfo,hinf]
 rw[run_sliceAt_slice w t _ _ _ _ ht,run_slice_hm w t base len cap ht .i64 .i64 h m h0 h1 (by omega),hsz];rfl
theorem slice_cutM {α:Type}[Data α]{p:Option Addr}{len cap lo hi m:Nat}{l:List α}(h:SliceRd T w (.slice p len cap) l)(h1:lo<=hi)(h2:hi<=l.length)(h3:hi<=m)(h4:m<=cap):SliceRd T w (sliced p lo hi m (Data.size α)) ((l.drop lo).take (hi-lo)):=by
 obtain⟨p',c',e,k1,k2,k3⟩:=h
 cases e
 have hlen:((l.drop lo).take (hi-lo)).length=hi-lo:=by rw[List.length_take,List.length_drop];omega
 refine⟨_,m-lo,by unfold sliced;rw[hlen],by rw[hlen];omega,by omega,?_⟩
 rcases k3 with rfl|⟨g,off,cur,t,fz,rfl,hg,hw,hc⟩
 .exact .inl (by simp)
 by_cases q:m=lo
 .exact .inl (List.eq_nil_of_length_eq_zero (by rw[hlen];omega))
 refine .inr ⟨g,off+lo*Data.size α,cur,t,fz,by rw[if_neg q];simp[Addr.add_lit],hg,hw,fun i hi2=>?_⟩
 rw[hlen] at hi2
 obtain⟨cs,q1,q2⟩:=hc (lo+i) (by omega)
 have e1:((l.drop lo).take (hi-lo))[i]'(by rw[hlen];exact hi2)=l[lo+i]:=by simp
 refine⟨cs,by rw[e1];exact q1,fun j hj=>?_⟩
 rw[<-q2 j hj,Nat.add_mul]
 congr 1;omega
theorem sliceM_step {B:Nat}(H:OkF o n A S F s r a w)(hF:∀j,b<=j->j<B->¬F j){op:Oper}{t:TypeId}{x:Operand}{hi mx:Operand}{p:Sy}{k' m':Int}{out:Out}(ho:op.op= .slice t x none (some hi) (some mx))(hx:a.eval x=p.den A)(hhi:a.eval hi= .int .i64 k')(hmx:a.eval mx= .int .i64 m')
  (h:(sliceMT P b t k' m' p).run s r=some out) (hcs:∀p∈out.cs,p) (hB:∀p∈out.re,p.1<B) {K:Act->World->Prop} {Q:Exit->Act->World->Prop} (k:∀v w',After o n F s r a out v w'->K (a.put op.dst v) w'):op.wp P a w K Q:=by
 have exec:∀ {u v:Value},a.eval x=u->(Instr.sliceAt t u none (some (Value.int .i64 k')) (some (Value.int .i64 m'))).run P w= .ok v w->(execOp a.eval op).run P w= .ok (.value v) w:=by
  intro u v h1 h2
  simp only[execOp,ho,Sem.run_bind,h1,hhi,hmx,Option.map_none,Option.map_some,h2];rfl
 have elem:∀ {e e':TypeId} {ty:Ty},P.underlying t=some (.slice e)->elemB P t e' (tsz0 ty)=true->P.underlying t=some (.slice (P.elem t))/\(P.info? (P.elem t)).map (·.size)=some (tsz0 ty):=fun {e e' ty} hu hg=>by
  obtain⟨bytes,_,E⟩:=elemB_ok hg
  obtain⟨inf,z,h1,h2,h3,_⟩:=E.info
  have he:P.elem t=e':=by have:=E.under;simp[Program.elem,this]
  rw[he]
  exact⟨E.under,by rw[h1,Option.map_some,h3]⟩
 unfold sliceMT at h
 split at h
 .rename_i j
  split at h
  .rename_i e hu
   obtain⟨R,hR,h⟩:=res_run h
   have hx:a.eval x=A.v j:=hx
   split at h
   .rename_i e' ty l
    obtain⟨hg,h⟩:=guardT_run h
    obtain⟨g1,g2⟩:=elem hu hg
    have e0:=ret_run h
    subst e0
    obtain⟨u1,u2,u3⟩:0<=k'/\k'<=m'/\m'<=(l.length:Int):=hcs _ (List.mem_singleton.2 rfl)
    have c1:0<=k'.toNat:=Nat.zero_le _
    have c2:k'.toNat<=l.length:=by omega
    have c3:k'.toNat<=m'.toNat:=by omega
    have c4:m'.toNat<=l.length:=by omega
    have e9:l.take k'.toNat=(l.drop 0).take (k'.toNat-0):=by simp
    obtain⟨xs,hd,hrow⟩:OwnD S w e' (A.v j) l:=H.frm.ok j (rowRs e' (A.v j) l) (by show(r j).map _=_;rw[hR];rfl)
    obtain⟨pp,cap,hv,hc3,_⟩:=hd.slice
    rw[hv] at hd hx
    obtain⟨d1,d2⟩:=cut_hd hd c1 c2 c3 (Nat.le_trans c4 hc3)
    have e2:=exec hx (sliceM_run (P:=P) (w:=w) g1 g2 (base:=pp) (len:=l.length) u1 u2 (show m'.toNat<=cap by omega))
    rw[<-tsz0_eq] at d1 d2
    have hFb:=hF b (Nat.le_refl _) (hB _ List.mem_cons_self)
    obtain⟨A',k1,k2⟩:=H.rowTo (b:=b) (v:=A.v j) (v':=sliced pp 0 k'.toNat m'.toNat (tsz0 ty)) (w':=w) (e:=e') (m:=l.take k'.toNat) (xs:=(xs.drop (0*tsz0 ty)).take ((k'.toNat-0)*tsz0 ty)) (old:=some (j,none)) hFb ⟨_,hR,fun c hc=>hc,fun z q=>by cases q⟩
     ⟨rfl,rfl,rfl,Nat.le_refl _,fun _ _ _=>rfl⟩ (by rw[e9,List.length_take,List.length_drop,<-tsz0_eq,Nat.min_eq_left (by omega)];exact d1) (fun _=>by rw[e9,tsz0_eq];exact row_cut hrow c1 c2) (fun c hc=>.inl (by rw[hv];exact d2 c hc))
    exact wp_value e2 (k _ _ ⟨A',S,k1,k2,.inr ⟨_,List.mem_cons_self⟩,tv⟩)
   .rename_i ty l
    obtain⟨hg,h⟩:=guardT_run h
    obtain⟨g1,g2⟩:=elem hu hg
    have e0:=ret_run h
    subst e0
    obtain⟨u1,u2,u3⟩:0<=k'/\k'<=m'/\m'<=(l.length:Int):=hcs _ (List.mem_singleton.2 rfl)
    have c1:0<=k'.toNat:=Nat.zero_le _
    have c2:k'.toNat<=l.length:=by omega
    have c3:k'.toNat<=m'.toNat:=by omega
    have c4:m'.toNat<=l.length:=by omega
    have e9:l.take k'.toNat=(l.drop 0).take (k'.toNat-0):=by simp
    have hrd:Rd S w (A.v j) l:=H.frm.ok j (Rs.of (@Res.ro (List (El ty)) _ (A.v j) l)) (by show(r j).map _=_;rw[hR];rfl)
    obtain⟨pp,cap,hv,hc3,_⟩:=slice_header (rd_slice hrd)
    rw[hv] at hrd hx
    have e2:=exec hx (sliceM_run (P:=P) (w:=w) g1 g2 (base:=pp) (len:=l.length) u1 u2 (show m'.toNat<=cap by omega))
    have hrd2:=slice_rd (slice_cutM (rd_slice hrd) c1 c2 c3 (Nat.le_trans c4 hc3))
    rw[<-e9,<-tsz0_eq] at hrd2
    have hFb:=hF b (Nat.le_refl _) (hB _ List.mem_cons_self)
    have hs:sliced pp 0 k'.toNat m'.toNat (tsz0 ty)=(A.set b (if m'.toNat=0 then pp else pp.map (·.add (0*tsz0 ty))) (k'.toNat-0) (m'.toNat-0) 0).v b:=by rw[Asg.set_v];rfl
    refine wp_value e2 (k _ _ ⟨_,S,H.ro (b:=b) (Agr.set hFb (if m'.toNat=0 then pp else pp.map (·.add (0*tsz0 ty))) (k'.toNat-0) (m'.toNat-0) 0) ⟨Nat.le_refl _,⟨_,rfl,?_⟩,tv⟩,hs,.inr ⟨_,List.mem_cons_self⟩,tv⟩)
    show Rd S w (Asg.v _ b) _
    rw[<-hs];exact hrd2
   .rename_i ty l
    obtain⟨hg,h⟩:=guardT_run h
    obtain⟨g1,g2⟩:=elem hu hg
    have e0:=ret_run h
    subst e0
    obtain⟨u1,u2,u3⟩:0<=k'/\k'<=m'/\m'<=(l.length:Int):=hcs _ (List.mem_singleton.2 rfl)
    have c1:0<=k'.toNat:=Nat.zero_le _
    have c2:k'.toNat<=l.length:=by omega
    have c3:k'.toNat<=m'.toNat:=by omega
    have c4:m'.toNat<=l.length:=by omega
    have e9:l.take k'.toNat=(l.drop 0).take (k'.toNat-0):=by simp
    have hrd:Rd o.old o.w (A.v j) l:=H.args j _ hR
    obtain⟨pp,cap,hv,hc3,_⟩:=slice_header (rd_slice hrd)
    rw[hv] at hrd hx
    have e2:=exec hx (sliceM_run (P:=P) (w:=w) g1 g2 (base:=pp) (len:=l.length) u1 u2 (show m'.toNat<=cap by omega))
    have hrd2:=slice_rd (slice_cutM (rd_slice hrd) c1 c2 c3 (Nat.le_trans c4 hc3))
    rw[<-e9,<-tsz0_eq] at hrd2
    have hFb:=hF b (Nat.le_refl _) (hB _ List.mem_cons_self)
    have hs:sliced pp 0 k'.toNat m'.toNat (tsz0 ty)=(A.set b (if m'.toNat=0 then pp else pp.map (·.add (0*tsz0 ty))) (k'.toNat-0) (m'.toNat-0) 0).v b:=by rw[Asg.set_v];rfl
    refine wp_value e2 (k _ _ ⟨_,S,H.ro (b:=b) (Agr.set hFb (if m'.toNat=0 then pp else pp.map (·.add (0*tsz0 ty))) (k'.toNat-0) (m'.toNat-0) 0) ⟨Nat.le_refl _,⟨_,rfl,?_⟩,tv⟩,hs,.inr ⟨_,List.mem_cons_self⟩,tv⟩)
    show Rd o.old o.w (Asg.v _ b) _
    rw[<-hs];exact hrd2
   .rename_i b'
    obtain⟨R',hR',h⟩:=res_run h
    split at h
    .rename_i q lo e' ty l
     obtain⟨hg,h⟩:=guardT_run h
     rw[Bool.and_eq_true] at hg
     obtain⟨hq,hg⟩:=hg
     have hq:=beq_t hq
     subst hq
     obtain⟨g1,g2⟩:=elem hu hg
     have e0:=ret_run h
     subst e0
     obtain⟨u1,u2,u3⟩:0<=k'/\k'<=m'/\m'<=(l.length:Int):=hcs _ (List.mem_singleton.2 rfl)
     have c1:0<=k'.toNat:=Nat.zero_le _
     have c2:k'.toNat<=l.length:=by omega
     have c3:k'.toNat<=m'.toNat:=by omega
     have c4:m'.toNat<=l.length:=by omega
     have e9:l.take k'.toNat=(l.drop 0).take (k'.toNat-0):=by simp
     have hm':memF A r b'=some (vwRs (A.v b') (A.v q) lo e' l):=by show(r b').map _=_;rw[hR'];rfl
     obtain⟨⟨xs,hd,hrow⟩,_⟩:OwnD S w e' (A.v q) l/\ViewOf (A.v b') (A.v q) lo (Data.size (El ty)):=H.frm.ok b' _ hm'
     obtain⟨pp,cap,hv,hc3,_⟩:=hd.slice
     rw[hv] at hd hx
     obtain⟨d1,d2⟩:=cut_hd hd c1 c2 c3 (Nat.le_trans c4 hc3)
     have e2:=exec hx (sliceM_run (P:=P) (w:=w) g1 g2 (base:=pp) (len:=l.length) u1 u2 (show m'.toNat<=cap by omega))
     rw[<-tsz0_eq] at d1 d2
     have hFb:=hF b (Nat.le_refl _) (hB _ List.mem_cons_self)
     have hne:q≠b':=fun e=>by rw[e,hR'] at hR;cases hR
     have H':OkF o n A S F s (updR r q none) a w:=H.upd (S':=S) q none (fun y e=>by cases e) (fun y e=>by cases e) (H.frm.sub fun i ri hi=>by
      unfold updF2 at hi
      split at hi
      .cases hi
      exact hi)
     have hR2:updR r q none b'=some (.ext (.vw q lo e' ty l)):=by rw[updR_ne hne];exact hR'
     obtain⟨A',k1,k2⟩:=H'.rowTo (b:=b) (v:=A.v q) (v':=sliced pp 0 k'.toNat m'.toNat (tsz0 ty)) (w':=w) (e:=e') (m:=l.take k'.toNat) (xs:=(xs.drop (0*tsz0 ty)).take ((k'.toNat-0)*tsz0 ty)) (old:=some (b',none)) hFb ⟨_,hR2,fun c hc=>hc,fun z q=>by cases q⟩
      ⟨rfl,rfl,rfl,Nat.le_refl _,fun _ _ _=>rfl⟩ (by rw[e9,List.length_take,List.length_drop,<-tsz0_eq,Nat.min_eq_left (by omega)];exact d1) (fun _=>by rw[e9,tsz0_eq];exact row_cut hrow c1 c2) (fun c hc=>.inl (by rw[hv];exact d2 c hc))
     exact wp_value e2 (k _ _ ⟨A',S,k1.agree (Agr.refl _ _) fun i hi=>by
      rcases hi with hi|⟨y,hy⟩
      .exact .inl hi
      rcases List.mem_cons.1 hy with e|hy
      .cases e;exact .inr ⟨_,List.mem_cons_self⟩
      have:=List.mem_singleton.1 hy
      cases this
      exact .inr ⟨_,List.mem_cons_of_mem _ List.mem_cons_self⟩,k2,.inr ⟨_,List.mem_cons_self⟩,tv⟩)
    cases h
   cases h
  cases h
 cases h
theorem view_step {B:Nat}(H:OkF o n A S F s r a w)(hF:∀j,b<=j->j<B->¬F j){op:Oper}{t:TypeId}{x lo:Operand}{p:Sy}{i:Int}{out:Out}(ho:op.op= .slice t x (some lo) none none)(hx:a.eval x=p.den A)(hlo:a.eval lo= .int .i64 i)
  (h:(viewT P b t i p).run s r=some out) (hcs:∀p∈out.cs,p) (hB:∀p∈out.re,p.1<B) {K:Act->World->Prop} {Q:Exit->Act->World->Prop} (k:∀v w',After o n F s r a out v w'->K (a.put op.dst v) w'):op.wp P a w K Q:=by
 unfold viewT at h
 split at h
 .rename_i j
  split at h
  .rename_i e hu
   obtain⟨R,hR,h⟩:=res_run h
   have hx:a.eval x=A.v j:=hx
   split at h
   .rename_i e' ty l
    obtain⟨hg,h⟩:=guardT_run h
    obtain⟨bytes,_,E⟩:=elemB_ok hg
    obtain⟨inf,z,h1,h2,h3,_⟩:=E.info
    have he:P.elem t=e':=by have:=E.under;simp[Program.elem,this]
    have g1:P.underlying t=some (.slice (P.elem t)):=by rw[he];exact E.under
    have g2:(P.info? (P.elem t)).map (·.size)=some (tsz0 ty):=by rw[he,h1,Option.map_some,h3]
    have e0:=ret_run h
    subst e0
    obtain⟨u1,u2⟩:0<=i/\i<=(l.length:Int):=hcs _ (List.mem_singleton.2 rfl)
    have hFb:¬F b:=hF b (Nat.le_refl _) (hB _ List.mem_cons_self)
    have hFj:=(H.rall j _ hR).1
    have hne:b≠j:=fun e=>hFb (e▸hFj)
    have hmj:memF A r j=some (rowRs e' (A.v j) l):=by show(r j).map _=_;rw[hR];rfl
    have hrow:OwnD S w e' (A.v j) l:=H.frm.ok j _ hmj
    obtain⟨pp,cap,hv,hc3,_⟩:∃pp cap,A.v j= .slice pp l.length cap/\l.length<=cap/\True:=by
     obtain⟨xs,hd,_⟩:=hrow
     obtain⟨pp,cap,hv,hc3,_⟩:=hd.slice
     exact⟨pp,cap,hv,hc3,tv⟩
    have hcut:cutP l.length (some i) none:=⟨u1,u2⟩
    have hrun:=slice_run (P:=P) (w:=w) g1 g2 (base:=pp) (len:=l.length) (cap:=cap) hc3 hcut
    have e2:(execOp a.eval op).run P w= .ok (.value (sliced pp i.toNat l.length cap (tsz0 ty))) w:=by
     simp only[execOp,ho,Sem.run_bind,hx,hv,Option.map_some,Option.map_none,hlo]
     rw[show(Instr.sliceAt t (.slice pp l.length cap) (some (Value.int .i64 i)) none none).run P w=_ from hrun];rfl
    have hag:Agr F A (A.set b (if cap=i.toNat then pp else pp.map (·.add (i.toNat*tsz0 ty))) (l.length-i.toNat) (cap-i.toNat) 0):=Agr.set hFb _ _ _ _
    have hvb:(A.set b (if cap=i.toNat then pp else pp.map (·.add (i.toNat*tsz0 ty))) (l.length-i.toNat) (cap-i.toNat) 0).v b=sliced pp i.toNat l.length cap (tsz0 ty):=by rw[Asg.set_v];rfl
    have hvj:=(hag j hFj).1
    generalize A.set b (if cap=i.toNat then pp else pp.map (·.add (i.toNat*tsz0 ty))) (l.length-i.toNat) (cap-i.toNat) 0=A' at*
    have H1:=H.agree hag (G:=FU F [(b,some (.ext (.vw j i.toNat e' ty l))),(j,some (.ext (.fwd b)))]) fun q hq=>.inl hq
    have hmj':memF A' r j=some (rowRs e' (A'.v j) l):=by show(r j).map _=_;rw[hR];rfl
    have hb0:FU F [(b,some (.ext (.vw j i.toNat e' ty l))),(j,some (.ext (.fwd b)))] b:=.inr ⟨_,List.mem_cons_self⟩
    have hj0:FU F [(b,some (.ext (.vw j i.toNat e' ty l))),(j,some (.ext (.fwd b)))] j:=.inl hFj
    have H2:=H1.upd (S':=S) j (some (.ext (.fwd b))) (fun y e=>by cases e;exact⟨hj0,hb0,tv⟩) (fun y e=>by cases e;exact arOk_not rfl) (H1.frm.putT j (r:=trivRs) tv fun _ q=>q)
    have hrow':OwnD S w e' (A'.v j) l:=H1.frm.ok j _ hmj'
    have hview:ViewOf (A'.v b) (A'.v j) i.toNat (Data.size (El ty)):=⟨pp,l.length,cap,by rw[<-hvj];exact hv,by omega,hc3,by rw[hvb,tsz0_eq]⟩
    have H3:=H2.upd (S':=S) b (some (.ext (.vw j i.toNat e' ty l))) (fun y e=>by cases e;exact⟨hb0,hj0,tv⟩) (fun y e=>by cases e;exact arOk_not rfl) (H2.frm.put b (vwRs (A'.v b) (A'.v j) i.toNat e' l) ⟨hrow',hview⟩ fun blk hblk=>by
     have hblk:(A'.v j).ownBlock=some blk:=hblk
     obtain⟨k1,k2,k3⟩:=H1.frm.own j _ blk hmj' hblk
     refine⟨k1,k2,k3,fun q rq hq hmq hh=>?_⟩
     rw[memF_upd] at hmq
     unfold updF2 at hmq
     split at hmq
     .rename_i e
      have:rq=trivRs:=(Option.some.inj hmq).symm
      subst this
      exact hh
     rename_i e
     exact e (H1.frm.apart q j rq _ blk hmq hmj' hh hblk))
    exact wp_value e2 (k _ _ ⟨A',S,H3,hvb.symm,hb0,tv⟩)
   cases h
  cases h
 cases h
theorem slice_step {B:Nat}(H:OkF o n A S F s r a w)(hF:∀j,b<=j->j<B->¬F j){op:Oper}{t:TypeId}{x:Operand}{lo hi:Option Operand}{p:Sy}{i k':Option Int}{out:Out}(ho:op.op= .slice t x lo hi none)(hx:a.eval x=p.den A)(hlo:lo.map a.eval=i.map (Value.int .i64))(hhi:hi.map a.eval=k'.map (Value.int .i64))
  (h:(sliceT P b t i k' p).run s r=some out) (hcs:∀p∈out.cs,p) (hB:∀p∈out.re,p.1<B) {K:Act->World->Prop} {Q:Exit->Act->World->Prop} (k:∀v w',After o n F s r a out v w'->K (a.put op.dst v) w'):op.wp P a w K Q:=by
 have exec:∀ {u v:Value},a.eval x=u->(Instr.sliceAt t u (i.map (Value.int .i64)) (k'.map (Value.int .i64)) none).run P w= .ok v w->(execOp a.eval op).run P w= .ok (.value v) w:=by
  intro u v h1 h2
  simp only[execOp,ho,Sem.run_bind,h1,hlo,hhi,Option.map_none,h2];rfl
 have elem:∀ {e e':TypeId} {ty:Ty},P.underlying t=some (.slice e)->elemB P t e' (tsz0 ty)=true->P.underlying t=some (.slice (P.elem t))/\(P.info? (P.elem t)).map (·.size)=some (tsz0 ty):=fun {e e' ty} hu hg=>by
  obtain⟨bytes,_,E⟩:=elemB_ok hg
  obtain⟨inf,z,h1,h2,h3,_⟩:=E.info
  have he:P.elem t=e':=by have:=E.under;simp[Program.elem,this]
  rw[he]
  exact⟨E.under,by rw[h1,Option.map_some,h3]⟩
 unfold sliceT at h
 split at h
 .rename_i j
  split at h
  .rename_i e hu
   obtain⟨R,hR,h⟩:=res_run h
   have hx:a.eval x=A.v j:=hx
   split at h
   .rename_i e' ty l
    obtain⟨hg,h⟩:=guardT_run h
    obtain⟨g1,g2⟩:=elem hu hg
    have e0:=ret_run h
    subst e0
    have hcut:cutP l.length i k':=hcs _ (List.mem_singleton.2 rfl)
    obtain⟨c1,c2⟩:=cutP_ok hcut
    obtain⟨xs,hd,hrow⟩:OwnD S w e' (A.v j) l:=H.frm.ok j (rowRs e' (A.v j) l) (by show(r j).map _=_;rw[hR];rfl)
    obtain⟨pp,cap,hv,hc3,_⟩:=hd.slice
    rw[hv] at hd hx
    obtain⟨d1,d2⟩:=cut_hd hd c1 c2 (Nat.le_trans c2 hc3) (Nat.le_refl _)
    have e2:=exec hx (slice_run (P:=P) (w:=w) g1 g2 hc3 hcut)
    rw[<-tsz0_eq] at d1 d2
    have hFb:=hF b (Nat.le_refl _) (hB _ List.mem_cons_self)
    obtain⟨A',k1,k2⟩:=H.rowTo (b:=b) (v:=A.v j) (v':=sliced pp (cutLo i) (cutHi l.length k') cap (tsz0 ty)) (w':=w) (e:=e') (m:=cutL l i k') (xs:=(xs.drop (cutLo i*tsz0 ty)).take ((cutHi l.length k'-cutLo i)*tsz0 ty)) (old:=some (j,none)) hFb ⟨_,hR,fun c hc=>hc,fun z q=>by cases q⟩
     ⟨rfl,rfl,rfl,Nat.le_refl _,fun _ _ _=>rfl⟩ (by rw[cutL_len hcut,<-tsz0_eq];exact d1) (fun _=>by rw[cutL_eq hcut,tsz0_eq];exact row_cut hrow c1 c2) (fun c hc=>.inl (by rw[hv];exact d2 c hc))
    exact wp_value e2 (k _ _ ⟨A',S,k1,k2,.inr ⟨_,List.mem_cons_self⟩,tv⟩)
   .rename_i ty l
    obtain⟨hg,h⟩:=guardT_run h
    obtain⟨g1,g2⟩:=elem hu hg
    have e0:=ret_run h
    subst e0
    have hcut:cutP l.length i k':=hcs _ (List.mem_singleton.2 rfl)
    obtain⟨c1,c2⟩:=cutP_ok hcut
    have hrd:Rd S w (A.v j) l:=H.frm.ok j (Rs.of (@Res.ro (List (El ty)) _ (A.v j) l)) (by show(r j).map _=_;rw[hR];rfl)
    obtain⟨pp,cap,hv,hc3,_⟩:=slice_header (rd_slice hrd)
    rw[hv] at hrd hx
    have e2:=exec hx (slice_run (P:=P) (w:=w) g1 g2 hc3 hcut)
    have hrd2:=slice_rd (slice_cut (rd_slice hrd) c1 c2)
    rw[<-cutL_eq hcut,<-tsz0_eq] at hrd2
    have hFb:=hF b (Nat.le_refl _) (hB _ List.mem_cons_self)
    have hs:sliced pp (cutLo i) (cutHi l.length k') cap (tsz0 ty)=(A.set b (if cap=cutLo i then pp else pp.map (·.add (cutLo i*tsz0 ty))) (cutHi l.length k'-cutLo i) (cap-cutLo i) 0).v b:=by rw[Asg.set_v];rfl
    refine wp_value e2 (k _ _ ⟨_,S,H.ro (b:=b) (Agr.set hFb (if cap=cutLo i then pp else pp.map (·.add (cutLo i*tsz0 ty))) (cutHi l.length k'-cutLo i) (cap-cutLo i) 0) ⟨Nat.le_refl _,⟨_,rfl,?_⟩,tv⟩,hs,.inr ⟨_,List.mem_cons_self⟩,tv⟩)
    show Rd S w (Asg.v _ b) _
    rw[<-hs];exact hrd2
   .rename_i ty l
    obtain⟨hg,h⟩:=guardT_run h
    obtain⟨g1,g2⟩:=elem hu hg
    have e0:=ret_run h
    subst e0
    have hcut:cutP l.length i k':=hcs _ (List.mem_singleton.2 rfl)
    obtain⟨c1,c2⟩:=cutP_ok hcut
    have hrd:Rd o.old o.w (A.v j) l:=H.args j _ hR
    obtain⟨pp,cap,hv,hc3,_⟩:=slice_header (rd_slice hrd)
    rw[hv] at hrd hx
    have e2:=exec hx (slice_run (P:=P) (w:=w) g1 g2 hc3 hcut)
    have hrd2:=slice_rd (slice_cut (rd_slice hrd) c1 c2)
    rw[<-cutL_eq hcut,<-tsz0_eq] at hrd2
    have hFb:=hF b (Nat.le_refl _) (hB _ List.mem_cons_self)
    have hs:sliced pp (cutLo i) (cutHi l.length k') cap (tsz0 ty)=(A.set b (if cap=cutLo i then pp else pp.map (·.add (cutLo i*tsz0 ty))) (cutHi l.length k'-cutLo i) (cap-cutLo i) 0).v b:=by rw[Asg.set_v];rfl
    refine wp_value e2 (k _ _ ⟨_,S,H.ro (b:=b) (Agr.set hFb (if cap=cutLo i then pp else pp.map (·.add (cutLo i*tsz0 ty))) (cutHi l.length k'-cutLo i) (cap-cutLo i) 0) ⟨Nat.le_refl _,⟨_,rfl,?_⟩,tv⟩,hs,.inr ⟨_,List.mem_cons_self⟩,tv⟩)
    show Rd o.old o.w (Asg.v _ b) _
    rw[<-hs];exact hrd2
   cases h
  cases h
 .rename_i sb
  split at h
  .rename_i hu
   have e0:=ret_run h
   subst e0
   have hcut:cutP sb.size i k':=hcs _ (List.mem_singleton.2 rfl)
   have hrun:(Instr.sliceAt t (.string sb) (i.map (Value.int .i64)) (k'.map (Value.int .i64)) none).run P w= .ok (.string (sb.extract (i.getD 0).toNat (k'.getD sb.size).toNat)) w:=by
    rw[run_sliceAt_string w t _ _ _ _ hu]
    match i,k',hcut with
    |none,none,h=>simp[Instr.slice,run_underlying hu,Instr.sliceBounds]
    |some lo,none,h=>
     obtain⟨h1,h2⟩:0<=lo/\lo<=(sb.size:Int):=h
     simp[Instr.slice,run_underlying hu,Instr.sliceBounds,run_sliceBound,h1,h2]
    |none,some hi,h=>
     obtain⟨h1,h2⟩:0<=hi/\hi<=(sb.size:Int):=h
     simp[Instr.slice,run_underlying hu,Instr.sliceBounds,run_sliceBound,h1,h2]
    |some lo,some hi,h=>
     obtain⟨h1,h2,h3⟩:0<=lo/\lo<=hi/\hi<=(sb.size:Int):=h
     have h4:0<=hi:=by omega
     have h5:(hi.toNat:Int)=hi:=Int.toNat_of_nonneg h4
     simp[Instr.slice,run_underlying hu,Instr.sliceBounds,run_sliceBound,h1,h2,h3,h4,h5]
   exact wp_value (exec hx hrun) (k _ _ ⟨A,S,H.agree (Agr.refl _ _) fun _ q=>.inl q,rfl,tv,tv⟩)
  cases h
 .split at h
  .rename_i e hu
   obtain⟨hg,h⟩:=guardT_run h
   have e0:=ret_run h
   subst e0
   have hcut:cutP 0 i k':=hcs _ (List.mem_singleton.2 rfl)
   obtain⟨c1,c2⟩:=cutP_ok hcut
   have he:P.elem t=e:=by simp[Program.elem,hu]
   obtain⟨inf,hinf⟩:=Option.isSome_iff_exists.1 hg
   have hrun:=slice_run (P:=P) (w:=w) (t:=t) (size:=inf.size) (by rw[he];exact hu) (by rw[he,hinf];rfl) (base:=none) (Nat.le_refl 0) hcut
   have e1:sliced none (cutLo i) (cutHi 0 k') 0 inf.size= .slice none 0 0:=by
    unfold sliced
    have h1:cutHi 0 k'-cutLo i=0:=by omega
    rw[h1];simp
   rw[e1] at hrun
   exact wp_value (exec hx hrun) (k _ _ ⟨A,S,H.agree (Agr.refl _ _) fun _ q=>.inl q,rfl,tv,tv⟩)
  cases h
 cases h
end
section
variable {P:Program}{o:OrgG}{n:Nat}{A A':Asg}{S S' T:Stab}{F G:Nat->Prop}{s:Nat->Option E2}{r:Nat->Option R2}{a:Act}{w w':World}{C:List (Nat×Bool)}{b:Nat}
theorem makeS_step {B:Nat}(H:OkF o n A S F s r a w)(hF:∀j,b<=j->j<B->¬F j){op:Oper}{t:TypeId}{x y:Operand}{p q:Sy}{out:Out}(ho:op.op= .makeSlice t x y)(hx:a.eval x=p.den A)(hy:a.eval y=q.den A)
  (h:(makeSliceT P b t p q).run s r=some out) (hcs:∀p∈out.cs,p) (hB:∀p∈out.re,p.1<B) {K:Act->World->Prop} {Q:Exit->Act->World->Prop} (k:∀v w',After o n F s r a out v w'->K (a.put op.dst v) w'):op.wp P a w K Q:=by
 unfold makeSliceT at h
 split at h
 .rename_i l c
  split at h
  .rename_i ty z hty hz
   obtain⟨hg,h1⟩:=guardT_run h
   clear h
   obtain⟨bytes,hby,E⟩:=elemB_ok hg
   have hzc:=zero_cells hz
   obtain⟨x0,hx0,htup,h2⟩:=gathSy_cells (T:=S) (w:=w) (A:=A) (fun c hc j hj=>by rw[hzc c hc] at hj;cases hj) h1
   clear h1
   have e:=ret_run h2
   subst e
   obtain⟨c1,c2,c3⟩:0<=l/\l<=c/\c<=2147483647:=hcs _ (List.mem_singleton.2 rfl)
   obtain⟨w',zv,m1,m2,m3,m4,m5⟩:=make_hd (P:=P) (w:=w) E (kl:=.i64) (kc:=.i64) c1 c2 hby c3
   have hcells:(syCells z).map (Sc.den A)=zv.cells.toList:=by
    obtain⟨inf,hinf,hzv⟩:=Option.bind_eq_some_iff.1 m1
    unfold zeroSy at hz
    rw[hinf] at hz
    simp only at hz
    rw[hzv] at hz
    cases hz
    cases zv with
    |agg cs=>show(cs.toList.map scOf).map (Sc.den A)=_;rw[List.map_map,show(Sc.den A∘scOf)=id from funext fun v=>scOf_den A v];simp[Value.cells]
    |_=>first|(show[Sc.den A (scOf _)]=_;rw[scOf_den];rfl)
   rw[hcells] at hx0
   have hx:a.eval x= .int .i64 l:=hx
   have hy:a.eval y= .int .i64 c:=hy
   have e2:(execOp a.eval op).run P w= .ok (.value (.slice (some ⟨w.heap.size,0,none⟩) l.toNat c.toNat)) w':=by
    simp only[execOp,ho,Sem.run_bind,hx,hy,m3];rfl
   have hFb:=hF b (Nat.le_refl _) (hB _ (List.mem_singleton.2 rfl))
   have hlc:l.toNat<=c.toNat:=by omega
   have hsz:zv.cells.size=tsz0 ty:=m2
   subst m4
   have hrow:RowRd S w ((madeCells zv.cells (c.toNat*tsz0 ty)).toList.take (l.toNat*tsz0 ty)) (List.replicate l.toNat x0):=by
    have:=made_row hlc hx0
    rw[hsz] at this;exact this
   obtain⟨A',k1,k2⟩:=H.rowTo (b:=b) (w':=w.alloc (.cells (madeCells zv.cells (c.toNat*tsz ty)) (P.elem t))) (v:=.slice none 0 0) (v':=.slice (some ⟨w.heap.size,0,none⟩) l.toNat c.toNat) (e:=P.elem t) (m:=List.replicate l.toNat x0) (old:=none) hFb rfl
    ⟨rfl,rfl,rfl,by simp,fun k hk _=>heap_alloc_old w _ hk⟩ (m5.as (tsz0_eq ty) (List.length_replicate (n:=l.toNat) (a:=x0)).symm) (fun hk=>hrow.keep hk) (fun c hc=>.inr (by cases hc;exact⟨Nat.le_refl _,by simp⟩))
   exact wp_value e2 (k _ _ ⟨A',S,k1,k2,.inr ⟨_,List.mem_cons_self⟩,tv⟩)
  cases h
 cases h
theorem OkF.iterTo (H:OkF o n A S F s r a w)(hF:¬F b){k:Kc}{ty:Ty}{m:MapD k (El ty)}{lf:KEl k->Bool}{cnt:Nat}(hw:w.grownBy w' none)(hsz:w'.heap.size=w.heap.size+1)(hi:IterOn S w' w.heap.size m lf cnt none\/IterNone w' w.heap.size m lf (none:Option (KEl k×El ty))):
  ∃A',OkF o n A' S (FU F [(b,some (.iter k ty m lf cnt none))]) s (setM r [(b,some (.iter k ty m lf cnt none))]) a w'/\A'.b b=w.heap.size:=by
 have hag:=Agr.set (A:=A) hF none 0 0 w.heap.size
 have hbb:(A.set b none 0 0 w.heap.size).b b=w.heap.size:=Asg.set_b A b none 0 0 w.heap.size
 refine⟨A.set b none 0 0 w.heap.size,H.swap hag (S':=S) (fun _=>False) (fun _ q=>q.elim) ((Chg.of hw).mono fun _ q=>by cases q) (fun _ q=>q) (fun _ q=>.inl q) (fun d z hz=>?_) (fun d d' z z' bb h1 h2 _ _=>by cases List.mem_singleton.1 h1;cases List.mem_singleton.1 h2;rfl),hbb⟩
 cases List.mem_singleton.1 hz
 refine⟨tv,tv,rfl,?_,fun c hc=>?_⟩
 .show IterOn S w' ((A.set b none 0 0 w.heap.size).b b) m lf cnt none\/IterNone w' ((A.set b none 0 0 w.heap.size).b b) m lf none
  rw[hbb];exact hi
 have hc:c=(A.set b none 0 0 w.heap.size).b b:=hc
 rw[hbb] at hc
 exact⟨.inr (by omega),by omega⟩
theorem rangeV_step {B:Nat}(H:OkF o n A S F s r a w)(hF:∀j,b<=j->j<B->¬F j){op:Oper}{t:TypeId}{x:Operand}{p:Sy}{out:Out}(ho:op.op= .range t x)(hx:a.eval x=p.den A)
  (h:(rangeT P b t p).run s r=some out) (hB:∀p∈out.re,p.1<B) {K:Act->World->Prop} {Q:Exit->Act->World->Prop} (k:∀v w',After o n F s r a out v w'->K (a.put op.dst v) w'):op.wp P a w K Q:=by
 have exec:∀ {u:Value} {w'':World},a.eval x=u->(Instr.range t u).run P w= .ok (.pointer (some ⟨w.heap.size,0,none⟩)) w''->(execOp a.eval op).run P w= .ok (.value (.pointer (some ⟨w.heap.size,0,none⟩))) w'':=fun h1 h2=>by
  simp only[execOp,ho,Sem.run_bind,h1,h2];rfl
 unfold rangeT at h
 split at h
 .rename_i j
  split at h
  .rename_i kt et hu
   obtain⟨re,hz,hl,h1⟩:=frz_run _ _ h
   clear h
   obtain⟨S',hS,H'⟩:=H.freeze hz
   obtain⟨R,hR,h2⟩:=res_run h1
   clear h1
   split at h2
   .rename_i kc ty m hm
    obtain⟨hg,h3⟩:=guardT_run h2
    clear h2
    simp only[Bool.and_eq_true] at hg
    obtain⟨⟨g1,g2⟩,g3⟩:=hg
    have hk:=kindB_ok g1
    have e:=ret_run h3
    subst e
    have hx:a.eval x= .map (A.m j):=hx
    have hFb:=hF b (Nat.le_refl _) (hB _ List.mem_cons_self)
    have hrd:Rd S' w (.map (A.m j)) m:=by
     exact(frz_reads H hz hS H' hl _ List.mem_cons_self j rfl R hR).m kc ty m hm
    obtain⟨x',hx',hrd2⟩:=rd_map hrd
    have hx':A.m j=x':=by injection hx'
    have fin:∀ {w'':World},w.grownBy w'' none->w''.heap.size=w.heap.size+1->(Instr.range t (.map (A.m j))).run P w= .ok (.pointer (some ⟨w.heap.size,0,none⟩)) w''->
      (IterOn S' w'' w.heap.size m (fun x=>(lookK (show List (KEl kc×El ty) from m) x).isSome) (show List (KEl kc×El ty) from m).length none\/IterNone w'' w.heap.size m (fun x=>(lookK (show List (KEl kc×El ty) from m) x).isSome) (none:Option (KEl kc×El ty)))->op.wp P a w K Q:=by
     intro w'' q1 q2 q3 q4
     obtain⟨A',k1,k2⟩:=H'.iterTo (b:=b) hFb q1 q2 q4
     rw[<-setM_append] at k1
     refine wp_value (exec hx q3) (k _ _ ⟨A',S',k1.agree (Agr.refl _ _) fun c hc=>FU.mono (fun p hp=>by rw[List.mem_singleton.1 hp];exact List.mem_cons_self) hc,?_,.inr ⟨_,List.mem_cons_self⟩,tv⟩)
     show _=Value.pointer (some ⟨A'.b b,0,none⟩)
     rw[k2]
    subst hx'
    cases hmj:A.m j with
    |none=>
     rw[hmj] at hrd2
     have hrd2:m=([]:List (KEl kc×El ty)):=hrd2
     subst hrd2
     refine fin (w'':=w.alloc (.mapIter none 0 #[] 0)) ⟨rfl,rfl,rfl,by simp,fun k hk _=>heap_alloc_old w _ hk⟩ (by simp) (by rw[hmj];exact range_nil hu) (.inr ⟨rfl,rfl,fun _=>rfl,0,#[],0,heap_alloc_new w _⟩)
    |some blk=>
     rw[hmj] at hrd2
     obtain⟨hSb,zs,n1,n2,n3⟩:=hrd2
     obtain⟨w'',q1,q2,q3,q4⟩:=n1.range hu hk
     have hlook:(fun x=>(lookK (zs.map fun q=>(q.1,q.2.1)) x).isSome)=fun x=>(lookK (show List (KEl kc×El ty) from m) x).isSome:=by
      funext x
      have e1:lookK (zs.map fun q=>(q.1,q.2.1)) x=(lookK zs x).map (·.1):=map_lookK (fun y:Value×El ty=>y.1) zs x
      have e2:lookK (show List (KEl kc×El ty) from m) x=(lookK zs x).map (·.2):=by rw[n2];exact map_lookK (fun y:Value×El ty=>y.2) zs x
      rw[e1,e2];cases lookK zs x<;>rfl
     have hlen:(zs.map fun q=>(q.1,q.2.1)).length=(show List (KEl kc×El ty) from m).length:=by rw[n2];simp
     rw[hlook,hlen] at q2
     have hkS:Keeps S' w w'':=fun c hc=>q3.block c (H'.frm.inb c hc) fun q=>by cases q
     exact fin q3 q4 (by rw[hmj];exact q1) (.inl ⟨blk,zs,none,hSb,q2,n2,fun z hz=>(n3 z hz).keep hkS,rfl,fun _ q=>by cases q⟩)
   cases h2
  cases h
 .split at h
  .rename_i kt et kc ty hu hc
   have e:=ret_run h
   subst e
   have hFb:=hF b (Nat.le_refl _) (hB _ List.mem_cons_self)
   have hx:a.eval x= .map none:=hx
   obtain⟨A',k1,k2⟩:=H.iterTo (b:=b) (w':=w.alloc (.mapIter none 0 #[] 0)) (k:=kc) (ty:=ty) (m:=([]:List (KEl kc×El ty))) (lf:=fun _=>false) (cnt:=0) hFb ⟨rfl,rfl,rfl,by simp,fun k hk _=>heap_alloc_old w _ hk⟩ (by simp) (.inr ⟨rfl,rfl,fun _=>rfl,0,#[],0,heap_alloc_new w _⟩)
   refine wp_value (exec hx (range_nil hu)) (k _ _ ⟨A',S,k1,?_,.inr ⟨_,List.mem_cons_self⟩,tv⟩)
   show _=Value.pointer (some ⟨A'.b b,0,none⟩)
   rw[k2]
  cases h
 cases h
theorem keySy_den {k:Kc}(x:KEl k):(keySy k x).den A=kval k x:=by cases k<;>rfl
theorem keySy_all {k:Kc}(x:KEl k):(keySy k x).all F/\(keySy k x).good A:=by cases k<;>exact⟨tv,tv⟩
theorem entry_step {B:Nat}(H:OkF o n A S F s r a w)(hF:∀j,b<=j->j<B->¬F j){op:Oper}{x:Operand}{p:Sy}{out:Out}(ho:op.op= .entry x)(hx:a.eval x=p.den A)
  (h:(entryT b p).run s r=some out) (hB:∀p∈out.re,p.1<B) {K:Act->World->Prop} {Q:Exit->Act->World->Prop} (k:∀v w',After o n F s r a out v w'->K (a.put op.dst v) w'):op.wp P a w K Q:=by
 unfold entryT at h
 split at h
 .rename_i j
  obtain⟨R,hR,h2⟩:=res_run h
  clear h
  split at h2
  .rename_i kc ty m lf cnt e
   have e0:=ret_run h2
   subst e0
   have hm:memF A r j=some (iterRs (A.b j) m lf cnt (some e)):=by show(r j).map _=_;rw[hR];rfl
   rcases H.frm.ok j _ hm with⟨mb,zs,cu,h1,h3,h4,h5,h6,h7⟩|⟨_,h6,_⟩
   .cases hcu:cu with
    |none=>rw[hcu] at h6;cases h6
    |some q=>
     rw[hcu] at h6 h3
     have hq:e=(q.1,q.2.2):=by simpa using h6
     have hrd:=h7 q hcu
     have hrun:=h3.2 q.1 q.2.1 rfl P w rfl rfl
     obtain⟨vs,hvs,hv⟩:=rd_cells hrd
     subst hq
     obtain⟨A',k1,k2,k3,k4⟩:=celSc_ok (o:=o) (S:=S) (w:=w) (k:=true) _ vs b A F hvs hF hB
     have hx:a.eval x= .pointer (some ⟨A.b j,0,none⟩):=hx
     have e2:(execOp a.eval op).run P w= .ok (.value (.tuple #[kval kc q.1,q.2.1])) w:=by
      simp only[execOp,ho,Sem.run_bind,hx,hrun];rfl
     refine wp_value e2 (k _ _ ⟨A',S,H.ro k1 k3,?_,fun p hp c hc=>?_,fun p hp c hc=>?_⟩)
     .show Value.tuple #[_,_]=Value.tuple #[partDen A' (false,[keySy kc q.1]),partDen A' (isPair ty,(celSc true b (cels ty q.2.2)).1)]
      unfold partDen
      simp only[List.map_cons,List.map_nil,keySy_den,k2,Bool.false_eq_true,if_false,List.headD_cons]
      rw[hv]
     .rcases List.mem_cons.1 hp with rfl|hp
      .have:=List.mem_singleton.1 hc;subst this;exact(keySy_all (A:=A) q.1).1
      have:=List.mem_singleton.1 hp;subst this;exact(k4 c hc).1
     rcases List.mem_cons.1 hp with rfl|hp
     .have:=List.mem_singleton.1 hc;subst this;exact(keySy_all (F:=F) q.1).2
     have:=List.mem_singleton.1 hp;subst this;exact(k4 c hc).2
   cases h6
  cases h2
 cases h
end
section
variable {P:Program}{o:OrgG}{n:Nat}{A A':Asg}{S S' T:Stab}{F G:Nat->Prop}{s:Nat->Option E2}{r:Nat->Option R2}{a:Act}{w w':World}{C:List (Nat×Bool)}{b:Nat}
theorem rdInt {S:Stab}{w:World}{v:Value}{x:Int}(h:Rd S w v x):v= .int .i64 x:=by
 obtain⟨cs,h1,rfl⟩:=h
 have h1:cs=[.int .i64 x]:=h1
 subst h1;rfl
theorem intRd {S:Stab}{w:World}(x:Int):Rd S w (.int .i64 x) x:=⟨[.int .i64 x],rfl,rfl⟩
theorem ent_step {B:Nat}(H:OkF o n A S F s r a w)(hF:∀j,b<=j->j<B->¬F j){op:Oper}{t:TypeId}{m x:Operand}{p q:Sy}{out:Out}(ho:op.op= .mapEntry t m x)(hm:a.eval m=p.den A)(hx:a.eval x=q.den A)
  (h:(entT P b t p q).run s r=some out) (hcs:∀p∈out.cs,p) (hhs:∀h∈out.hs,∀A w,h.lhs A w=h.rhs A w) (hB:∀p∈out.re,p.1<B) {K:Act->World->Prop} {Q:Exit->Act->World->Prop} (k:∀v w',After o n F s r a out v w'->K (a.put op.dst v) w'):op.wp P a w K Q:=by
 unfold entT at h
 split at h
 .rename_i kt et j hu
  obtain⟨R,hR,h⟩:=res_run h
  split at h
  .rename_i kc mm
   split at h
   .rename_i kx hkx
    obtain⟨hk,h2⟩:=guardT_run h
    clear h
    have hk:=kindB_ok hk
    have e:=ret_run h2
    subst e
    have hq:q.den A=kval kc kx:=keySc_ok hkx
    have hm:a.eval m= .map (A.m j):=hm
    have hw:kwf kc kx:=hcs _ List.mem_cons_self
    have hlen:(show List (KEl kc×Int) from mm).length<=2147483647:=hcs _ (List.mem_cons_of_mem _ List.mem_cons_self)
    have hz:(zeroValue et).run P w= .ok (.int .i64 0) w:=hhs _ List.mem_cons_self A w
    have hmem:memF A r j=some (mapRs (A.m j) (show MapD kc Int from mm)):=by show(r j).map _=_;rw[hR];rfl
    obtain⟨blk,hb,zs,h2,h3,h4⟩:=H.frm.ok j _ hmem
    have h3:(show List (KEl kc×Int) from mm)=zs.map fun q=>(q.1,q.2.2):=h3
    have hown:=H.frm.own j _ blk hmem hb
    obtain⟨st,w',hrun,ho',hE,hG,hsz⟩:=h2.entry hu hk (by rw[List.length_map];rw[h3] at hlen;simpa using hlen) hz hw
    generalize hd:(lookK (show List (KEl kc×Int) from mm) kx).getD 0=d at*
    have hold:(lookK (zs.map fun q=>(q.1,q.2.1)) kx).getD (.int .i64 0)= .int .i64 d:=by
     have e1:lookK (zs.map fun q=>(q.1,q.2.1)) kx=(lookK zs kx).map (·.1):=map_lookK (fun y:Value×Int=>y.1) zs kx
     have e2:lookK (show List (KEl kc×Int) from mm) kx=(lookK zs kx).map (·.2):=by rw[h3];exact map_lookK (fun y:Value×Int=>y.2) zs kx
     rw[<-hd,e1,e2]
     cases hl:lookK zs kx with
     |none=>rfl
     |some z=>exact rdInt (h4 _ (lookK_mem hl))
    rw[hold] at hrun ho'
    have hFb:=hF b (Nat.le_refl _) (hB _ (List.mem_cons_of_mem _ List.mem_cons_self))
    have hrun':(execOp a.eval op).run P w= .ok (.value (.tuple #[.int .i64 d,.int .i64 st])) w':=by
     simp only[execOp,ho,Sem.run_bind,hm,hx,hq,hb,hrun];rfl
    have hkeep:Keeps S w w':=fun q hq=>hG.block q (H.frm.inb q hq) fun e=>by cases e;exact hown.2.2 hq
    have hA:=Agr.setF (A:=A) hFb (fun _=>Value.int .i64 st)
    have hmap:MapAt S w' blk (show MapD kc Int from putK (show List (KEl kc×Int) from mm) kx d):=⟨putK zs kx (.int .i64 d,d),by rw[map_putK (fun y:Value×Int=>y.1)];exact ho',by rw[map_putK (fun y:Value×Int=>y.2),h3],fun y hy=>by
     rcases mem_putK.1 hy with rfl|⟨hy,_⟩
     .exact intRd d
     exact(h4 y hy).keep hkeep⟩
    have H2:=H.swap hA (w':=w') (S':=S) (re:=[(j,some (.ext (.ent b kc .int (putK (show List (KEl kc×Int) from mm) kx d) kx))),(b,none)]) (fun c=>c=j) (fun c hc=>by rw[show c=j from hc];exact⟨_,List.mem_cons_self⟩)
     ((Chg.of hG).mono fun c hc=>⟨j,_,rfl,hR,by cases hc;exact hb⟩) (fun _ q=>q) (fun _ q=>.inl q) (fun c y hy=>by
      rcases List.mem_cons.1 hy with e|hy
      .cases e
       refine⟨.inr ⟨none,List.mem_cons_of_mem _ List.mem_cons_self⟩,tv,rfl,⟨blk,hb,hmap,st,by rw[Asg.setF_f],hE⟩,fun c hc=>?_⟩
       have hc:A.m j=some c:=hc
       rw[hb] at hc;cases hc
       exact⟨.inl ⟨j,_,rfl,hR,hb⟩,by rw[hsz];exact hown.2.1⟩
      .cases List.mem_singleton.1 hy) (fun c c' y y' bb q1 q2 _ _=>by
      rcases List.mem_cons.1 q1 with e|q1
      .rcases List.mem_cons.1 q2 with e'|q2
       .cases e;cases e';rfl
       cases List.mem_singleton.1 q2
      cases List.mem_singleton.1 q1)
    refine wp_value hrun' (k _ _ ⟨_,S,H2,?_,?_,?_⟩)
    .show Value.tuple #[.int .i64 d,.int .i64 st]=Value.tuple #[.int .i64 d,(A.setF b (fun _=>Value.int .i64 st)).f b _]
     rw[Asg.setF_f]
    .intro q hq c hc
     rcases List.mem_cons.1 hq with rfl|hq
     .have:=List.mem_singleton.1 hc;subst this;trivial
     have:=List.mem_singleton.1 hq;subst this
     have:=List.mem_singleton.1 hc;subst this
     exact⟨.inl (H.rall j _ hR).1,.inr ⟨none,List.mem_cons_of_mem _ List.mem_cons_self⟩⟩
    intro q hq c hc
    rcases List.mem_cons.1 hq with rfl|hq
    .have:=List.mem_singleton.1 hc;subst this;trivial
    have:=List.mem_singleton.1 hq;subst this
    have:=List.mem_singleton.1 hc;subst this
    trivial
   cases h
  cases h
 cases h
theorem entSt_step (H:OkF o n A S F s r a w){op:Oper}{t:TypeId}{m x y:Operand}{p q z:Sy}{out:Out}(ho:op.op= .entryStore t m x y)(hm:a.eval m=p.den A)(hx:a.eval x=q.den A)(hy:a.eval y=z.den A)
  (h:(entStT P t p q z).run s r=some out) (hcs:∀p∈out.cs,p) {K:Act->World->Prop} {Q:Exit->Act->World->Prop} (k:∀v w',After o n F s r a out v w'->K (a.put op.dst v) w'):op.wp P a w K Q:=by
 unfold entStT at h
 split at h
 .rename_i kt et j jj qq kc kx nn hu
  obtain⟨R,hR,h⟩:=res_run h
  split at h
  .rename_i q' k' mm kx'
   obtain⟨hg,h2⟩:=guardT_run h
   clear h
   rw[Bool.and_eq_true] at hg
   have hk:=kindB_ok hg.1
   have hqq:=beq_t hg.2
   subst hqq
   have e:=ret_run h2
   subst e
   have hkk:klit kc kx=klit k' kx':=hcs _ List.mem_cons_self
   have hw:kwf k' kx':=hcs _ (List.mem_cons_of_mem _ List.mem_cons_self)
   have hlen:(show List (KEl k'×Int) from mm).length<=2147483647:=hcs _ (List.mem_cons_of_mem _ (List.mem_cons_of_mem _ List.mem_cons_self))
   have hm:a.eval m= .map (A.m j):=hm
   have hy:a.eval y= .int .i64 nn:=hy
   have hmem:memF A r j=some (entRs (A.m j) (A.f qq) (show MapD k' Int from mm) kx'):=by show(r j).map _=_;rw[hR];rfl
   obtain⟨blk,hb,⟨zs,h2,h3,h4⟩,st,hf,hE⟩:=H.frm.ok j _ hmem
   have h3:(show List (KEl k'×Int) from mm)=zs.map fun q=>(q.1,q.2.2):=h3
   have hown:=H.frm.own j _ blk hmem hb
   have hx:a.eval x= .int .i64 st:=by
    rw[hx]
    show A.f qq (klit kc kx)=_
    rw[hkk];exact hf
   obtain⟨w',hrun,ho',hG,hsz⟩:=h2.entryStore hu hk (by rw[List.length_map];rw[h3] at hlen;simpa using hlen) hw hE (.int .i64 nn)
   have hrun':(execOp a.eval op).run P w= .ok .skip w':=by
    simp only[execOp,ho,Sem.run_bind,hm,hx,hy,hb,hrun];rfl
   have hkeep:Keeps S w w':=fun q hq=>hG.block q (H.frm.inb q hq) fun e=>by cases e;exact hown.2.2 hq
   have hmap:MapAt S w' blk (show MapD k' Int from putK (show List (KEl k'×Int) from mm) kx' (show Int from nn)):=⟨putK zs kx' (.int .i64 nn,nn),by rw[map_putK (fun y:Value×Int=>y.1)];exact ho',by rw[map_putK (fun y:Value×Int=>y.2),h3],fun y hy=>by
    rcases mem_putK.1 hy with rfl|⟨hy,_⟩
    .exact intRd nn
    exact(h4 y hy).keep hkeep⟩
   unfold Oper.wp
   rw[hrun']
   refine k undef _ ?_
   have H2:=H.swap (Agr.refl _ _) (w':=w') (S':=S) (re:=[(j,some (.map k' .int (putK (show List (KEl k'×Int) from mm) kx' (show Int from nn))))]) (fun c=>c=j) (fun c hc=>by rw[show c=j from hc];exact⟨_,List.mem_singleton.2 rfl⟩)
    ((Chg.of hG).mono fun c hc=>⟨j,_,rfl,hR,by cases hc;exact hb⟩) (fun _ q=>q) (fun _ q=>.inl q) (fun c y hy=>by
     cases List.mem_singleton.1 hy
     refine⟨tv,tv,rfl,⟨blk,hb,hmap⟩,fun c hc=>?_⟩
     have hc:A.m j=some c:=hc
     rw[hb] at hc;cases hc
     exact⟨.inl ⟨j,_,rfl,hR,hb⟩,by rw[hsz];exact hown.2.1⟩) (fun c c' y y' bb q1 q2 _ _=>by cases List.mem_singleton.1 q1;cases List.mem_singleton.1 q2;rfl)
   exact⟨A,S,H2,rfl,tv,tv⟩
  cases h
 cases h
end
end Go.Proofs.YtnfdimfepbbbpaaGreatDoor
