/- Texts joined by program: lemmas. -/
import Derived.Test.YtnfdimfepbbbpaaGreatDoorJFileAgain1
import Derived.RangeFuncNested
import Derived.RangeFuncLeaves
import Derived.RangeFuncCalls
import Derived.OrdersIn
import Derived.TacticsIn
set_option linter.unusedSimpArgs false
set_option linter.unusedVariables false
set_option maxRecDepth 100000
set_option maxHeartbeats 8000000
open Array renaming ext'->cJ,getD_eq_getD_getElem?->cP,getElem?_eq_getElem->anO,getElem?_eq_some_iff->di,getElem?_toList->anV,length_toList->cU,map->aph,replicate->eN,toList_map->dZ
open Bool renaming true->aC,false->aD,and_eq_true->bB,false_eq_true->aom,or_eq_true->e7,or_false->aoU
open Classical renaming byContradiction->dg
open Decidable renaming decide->aE
open Go renaming execOp->aG,run_underlying->aH,bodyPost->aJ,cell_of_row->aK,undef->aL,World->aN,Value->aO,TypeId->aV,Program->aY,Operand->bu,Oper->bf,Ending->bY,FuncId->bI,Deferred->cR
open Go.Act renaming eval->dH
open Go.Addr renaming add_lit->anW
open Go.Builtin renaming append_->anz
open Go.Code renaming cond->aps,region->aoz
open Go.ComesIn renaming of_steps->ap8
open Go.Exit renaming inBlock->ape
open Go.Fence renaming wide->bK
open Go.Frame renaming atR->arc,enter->arb,round->are
open Go.Instr renaming loadAt->aoj,range->aoO,slice->aoo,sliceAt->cX,sliceBounds->aop
open Go.IntKind renaming i64->aqV
open Go.Machine renaming fenced->apr
open Go.Oper renaming upon->an2,uponIn->an3
open Go.Outgrown renaming of_steps->ar3
open Go.Program renaming cellsOf->aoH,elem->ap4
open Go.Region renaming ready->aq9,wanted->dh
open Go.Result renaming andThen->cy,andThen_ok->cG
open Go.Sem renaming run->cM,run_bind->bw,run_pure->bZ
open Go.Src renaming ofNil->ap0,ofSlice->ap1
open Go.StepsIn renaming trans->anE
open Go.Value renaming bool->anT,int->cj,pointer->cO,tuple->anD
open Go.Value.bool renaming inj->ar2
open Int renaming le_refl->bM,natCast_nonneg->dB
open List renaming length->aM,all_eq_true->bG,any_eq_false->ara,append_assoc->cx,append_nil->bW,eq_nil_of_length_eq_zero->cH,ext_getElem?->aow,find?_some->apb,flatMap_cons->dc,getD_eq_getElem?_getD->bD,getElem?_append_left->eY,getElem?_append_right->dP,getElem?_cons_succ->an1,getElem?_cons_zero->an0,getElem?_drop->cI,getElem?_eq_getElem->bN,getElem?_eq_some_iff->cF,getElem?_map->cY,getElem?_set_ne->aq5,getElem?_set_self->aq4,getElem?_take->cE,getElem?_toArray->anA,getElem?_zip_eq_some->aoW,headD_cons->aq6,isEmpty_iff->anF,length_append->bA,length_cons->b7,length_drop->b9,length_map->bH,length_nil->cK,length_replicate->anY,length_set->cq,length_take->bJ,map_append->cA,map_congr_left->dm,map_cons->bO,map_map->cz,map_nil->cC,map_take->aoR,map_toArray->aoq,mem_append->bE,mem_append_left->bU,mem_append_right->bV,mem_cons->bg,mem_cons_of_mem->bl,mem_cons_self->aZ,mem_filter->bX,mem_flatMap->cQ,mem_iff_getElem?->anw,mem_map->bz,mem_of_getElem?->cn,mem_of_mem_drop->anB,mem_of_mem_take->dQ,mem_range->de,mem_singleton->aU,nil_append->dK,range->bT,replicate->dA,take_length->cg,take_of_length_le->dI,toList_toArray->aq1,zip_map'->ap3,zip_map_right->ap2
open Nat renaming add_assoc->dz,add_mul->cB,beq->bp,beq_refl->dR,blt->bP,blt_eq->cw,le_of_ble_eq_true->anC,le_of_not_lt->aon,le_refl->aW,le_trans->bC,lor->ap6,lt_of_lt_of_le->bR,mul_le_mul->aoL,mul_le_mul_left->aoV,mul_le_mul_right->cm,mul_succ->apq,pos_of_ne_zero->aq0,shiftLeft->aq7,strongRecOn->apd,sub_self->dx,succ_mul->cL,zero_add->cZ,zero_le->bQ,zero_mul->dG
open Option renaming some->az,none->aA,bind_eq_some_iff->aok,bind_some->apc,getD_some->eV,isSome_iff_exists->bS,map_eq_some_iff->bF,map_none->dN,map_some->cN
open Option.some renaming inj->b5,injEq->cr
open Prod.mk renaming injEq->cW
open _root_ renaming List->aa,Int->af,Nat->ah,Option->ai,ByteArray->aj,Bool->ak,Array->aq,True->av
open Go.Proofs.Tryz
namespace Go.Proofs.YtnfdimfepbbbpaaGreatDoor
open Go.RowKit
def xG:Ty->ak
 | .int=>aC
 | .bool=>aC
 | .str=>aC
 | .unit=>aC
 | .pair a b=>xG a && xG b
 |_=>aD
structure HdI where
 t:Ty
 ie:aV
 l:aa (El t)
 p:aa Prop
 z:R2
def hdI (q:ah):Hx->R2->ai HdI
 | .el i sz off,.ext (.nest q' aA e t ie l)=>match bp q' q && bp (jD t) sz with
  |true=>match(jT t (l.getD i.toNat (Bd t)))[off]? with
   |some (.l t' l')=>az ⟨t',ie,l',[j8 i l.length],.ext (.nest q (az (i.toNat*sz+off)) e t ie l)⟩
   |_=>aA
  |false=>aA
 | .ky .int x,.ext (.mj q' .int aA t ie m)=>match bp q' q with
  |true=>az ⟨t,ie,(jo (show aa (ko .int×aa (El t)) from m) x).getD [],[],.ext (.mj q .int (az x) t ie m)⟩
  |false=>aA
 | .ky .str x,.ext (.mj q' .str aA t ie m)=>match bp q' q with
  |true=>az ⟨t,ie,(jo (show aa (ko .str×aa (El t)) from m) x).getD [],[],.ext (.mj q .str (az x) t ie m)⟩
  |false=>aA
 |_,_=>aA
def Ue (ty:Ty)(k:aa Prop->aa (El ty)->Tr Out):Sy->Tr Out
 | .one (.own q)=>.res q λy=>match pU y with
  |some ⟨t',m⟩=>match qh (t:=.list t') (s:=.list ty) m with
   |some m'=>jK (pV y||xG ty) (k [] m')
   |none=>.fail
  |none=>.fail
 | .one (.hd p q x)=>.res p λy=>match hdI q x y with
  |some I=>match qh (t:=.list I.t) (s:=.list ty) I.l with
   |some m'=>jK (xG ty) (k I.p m')
   |none=>.fail
  |none=>.fail
 | .one (.v (.slice aA 0 0))=>k [] []
 |_=>.fail
def Rm (k:Ty->Tr Out):Sy->Tr Out
 | .one (.own q)=>.res q λy=>match pU y with
  |some ⟨t',_⟩=>k t'
  |none=>.fail
 | .one (.hd p q x)=>.res p λy=>match hdI q x y with
  |some I=>k I.t
  |none=>.fail
 |_=>.fail
def alB:R2->ak
 | .ext (.nest _ aA _ _ _ _)=>aC
 |_=>aD
def Pr (P:aY)(b t:ah)(ty:Ty)(e:aV)(l:aa (El ty))(ps:aa Prop)(old:aa (ah×ai R2))(q:Sy):Tr Out:=
 Ue ty (λqs m=>jK (qO P t e (Re ty)) (.ret ⟨(l.length+m.length<=2147483647)::(ps++qs),[],.one (.own b),(b,az (.row e ty (l++m)))::old⟩)) q
def agj (P:aY)(b t:ah)(p q:Sy):Tr Out:=
 match p with
 | .one (.v (.slice aA 0 0))=>match q with
  | .one (.own i)=>.res i λy=>match y with
   | .ext (.nest _ aA e ty ie m)=>jK (qO P t e (Re ty)) (.ret ⟨[m.length<=2147483647],[],.one (.own b),[(b,az (.ext (.nest b aA e ty ie m))),(i,aA)]⟩)
   |_=>Rm (λty=>Pr P b t ty (P.elem t) [] [] [] q) q
  |q=>Rm (λty=>Pr P b t ty (P.elem t) [] [] [] q) q
 | .one (.own j)=>.res j λx=>match x with
  | .row e ty l=>Pr P b t ty e l [] [(j,aA)] q
  | .ext (.nest _ aA e ty ie l)=>match q with
   | .one (.own i)=>.res i λy=>match y with
    | .ext (.nest _ aA _ Ik Hq m)=>match qh (t:=.list Ik) (s:=.list ty) m with
     |some m'=>jK (qO P t e (Re ty) && (bp Hq ie && !Nat.beq j i)) (.ret ⟨[l.length+(show aa (El ty) from m').length<=2147483647],[],.one (.own b),[(b,az (.ext (.nest b aA e ty ie (l++(show aa (El ty) from m'))))),(j,aA),(i,aA)]⟩)
     |none=>.fail
    |_=>.fail
   |_=>.fail
  |_=>.fail
 | .one (.hd j qf hx)=>.res j λy=>match hdI qf hx y with
  |some I=>Pr P b t I.t I.ie I.l I.p [(j,az I.z)] q
  |none=>.fail
 |_=>.fail
def wholeAt {t':Ty}(t:Ty)(off:ah)(v:El t'):ai (El t):=match off with
 |0=>qh (t:=t') (s:=t) v
 |_=>aA
def setAt:(t:Ty)->ah->(t':Ty)->El t'->El t->ai (El t)
 | .pair a b,off,t',v,x=>match wholeAt (.pair a b) off v with
  |some y=>az y
  |none=>match bP off (jD a) with
   |true=>(setAt a off t' v x.1).map λy=>(y,x.2)
   |false=>(setAt b (off-jD a) t' v x.2).map λy=>(x.1,y)
 |t,off,t',v,_=>wholeAt t off v
def Rn (P:aY)(cell:ai uT)(ie:aV)(k:(t':Ty)->El t'->aa ah->Tr Out):Sy->Tr Out
 | .one (.own i)=>.res i λz=>match z with
  | .row Hq ty m=>jK (bp Hq ie) (k (.list ty) m [i])
  |_=>.fail
 | .one (.v (.slice aA 0 0))=>match cell with
  |some (.l ty _)=>k (.list ty) ([]:aa (El ty)) []
  |_=>.fail
 | .one (.v (.int .i64 n))=>k .int (show af from n) []
 | .one (.b e)=>k .bool (show ak from e.den) []
 | .one (.v (.string s))=>k .str (show aj from s) []
 |_=>.fail
def Il (h:ai ah)(c:ah):Prop:=match h with
 |none=>av
 |some c'=>c'=c
def Mv (P:aY)(b:ah)(t:aV)(j:ah)(i:af)(sz off:ah)(y:Sy):Tr Out:=
 .res j λx=>match x with
 | .row e ty l=>match codeOf P 9 t with
  |some Ik=>jK (bp (jD ty) sz && (bp (P.cellsOf t) (jD Ik) && ((P.info? t).isSome && (jA y).all Ij)) && bP 0 (jD Ik)) (WQ (jA y) λre=>jK (re.all λp=>!Nat.beq p.1 j) (rZ Ik y λv=>
   match setAt ty off Ik v (l.getD i.toNat (Bd ty)) with
   |some u=>.ret ⟨[j8 i l.length],[],.one (.v aL),(j,az (.row e ty (l.set i.toNat u)))::re⟩
   |none=>.fail))
  |none=>.fail
 | .ext (.nest q h e ty ie l)=>Rn P ((jT ty (l.getD i.toNat (Bd ty)))[off]?) ie (λt' v ks=>match setAt ty off t' v (l.getD i.toNat (Bd ty)) with
  |some u=>jK (bp (jD ty) sz && (bp (P.cellsOf t) 1 && (bp (jD t') 1 && ((P.info? t).isSome && ks.all λk=>!Nat.beq k j))))
   (.ret ⟨[j8 i l.length,Il h (i.toNat*sz+off)],[],.one (.v aL),(j,az (.ext (.nest b aA e ty ie (l.set i.toNat u))))::(b,aA)::ks.map λk=>(k,aA)⟩)
  |none=>.fail) y
 |_=>.fail
def JY (P:aY)(b:ah)(t:aV)(p y:Sy):Tr Out:=match p with
 | .one (.el j i sz off)=>Mv P b t j i sz off y
 |p=>storeT P t p y
def DA {k:Kc}(h:ai (ko k))(x:ko k):Prop:=match h with
 |none=>av
 |some y=>y=x
def Ro (P:aY)(b:ah)(t:aV)(p q y:Sy):Tr Out:=
 match P.underlying t,p with
 |some (.map kt et),.one (.mp j)=>.res j λr=>match r with
  | .ext (.mj _ k h ty ie m)=>match Dx k q with
   |some x=>jK (vF P kt k) (match y with
    | .one (.own i)=>.res i λz=>match z with
     | .row Hq Ik l=>match qh (t:=.list Ik) (s:=.list ty) l with
      |some l'=>jK (bp Hq ie && !Nat.beq i j) (.ret ⟨[nv k x,DA h x,(show aa (ko k×aa (El ty)) from m).length<=2147483647],[],.one (.v aL),[(j,az (.ext (.mj b k aA ty ie (nG (show aa (ko k×aa (El ty)) from m) x (show aa (El ty) from l'))))),(b,aA),(i,aA)]⟩)
      |none=>.fail
     |_=>.fail
    | .one (.v (.slice aA 0 0))=>.ret ⟨[nv k x,DA h x,(show aa (ko k×aa (El ty)) from m).length<=2147483647],[],.one (.v aL),[(j,az (.ext (.mj b k aA ty ie (nG (show aa (ko k×aa (El ty)) from m) x [])))),(b,aA)]⟩
    |_=>.fail)
   |none=>.fail
  |_=>Hh P t p q y
 |_,_=>.fail
def aiT (P:aY):ah->aV->ai aV
 |0,_=>aA
 |k+1,t=>match P.underlying t with
  |some (.slice e)=>az e
  |some (.struct fs)=>fs.toList.findSome? λf=>aiT P k f.type
  |_=>aA
def zw (P:aY)(md:ak)(b:ah)(t:aV):Tr Out:=match md with
 |false=>Fh P b t
 |true=>match P.underlying t,codeOf P 9 t with
  |some (.map kt et),az (.map k (.list ty))=>match P.underlying et with
   |some (.slice ie)=>jK (vF P kt k) (.ret ⟨[],[],.one (.mp b),[(b,az (.ext (.mj b k aA ty ie ([]:aa (ko k×aa (El ty))))))]⟩)
   |_=>.fail
  |_,_=>.fail
def W9:uT->Sc->ak
 | .l _ _,.v (.slice aA 0 0)=>aC
 | .i _,.v (.int .i64 _)=>aC
 | .b _,.b _=>aC
 | .s _,.v (.string _)=>aC
 |_,_=>aD
def Mw (ie:aV):aa uT->aa Sc->(aa Prop->aa ah->Tr Out)->Tr Out
 |[],[],k=>k [] []
 |x::cs,c::l,k=>match c with
  | .own i=>match x with
   | .l t l'=>.res i λz=>match z with
    | .row Hq ty m=>match qh (t:=.list ty) (s:=.list t) m with
     |some m'=>jK (bp Hq ie) (Mw ie cs l λps ks=>jK (ks.all λq=>!Nat.beq i q) (k (((show aa (El t) from m')=l')::ps) (i::ks)))
     |none=>.fail
    |_=>.fail
   |_=>.fail
  |c=>jK (W9 x c) (Mw ie cs l k)
 |_,_,_=>.fail
def Xa (P:aY)(md:ak)(b t len:ah)(is:aa ah)(ys:aa Sy):Tr Out:=match md with
 |false=>agf P b t len is ys
 |true=>match codeOf P 9 (P.elem t),aiT P 9 (P.elem t) with
  |some ty,az ie=>jK (Pm 0 is && (bp is.length len && bp ys.length len && qO P t (P.elem t) (Re ty)) && Nat.ble len 1000)
   (Ej ty ys λl=>Mw ie (oW ty l) (ys.flatMap jA) λps ks=>.ret ⟨ps,[Fg P t len (P.elem t) (is.zip ys) (ys.flatMap jA)],.one (.own b),(b,az (.ext (.nest b aA (P.elem t) ty ie l)))::ks.map λk=>(k,aA)⟩)
  |_,_=>.fail
def CE:aa Sy->ai (aa (ah×ah))
 |[]=>az []
 | .one (.ptr j off)::l=>(CE l).map ((j,off):: ·)
 |_=>aA
def Mx {α:Type 1}(C:aa (ah×ak)):ai bu->(ai af->Tr α)->Tr α
 |none,k=>k aA
 |some x,k=>qm C x λs=>match s with
  | .one (.v (.int .i64 n))=>k (az n)
  |_=>.fail
def Uf {α:Type}(l:aa α):ai af->ai af->aa α
 |none,aA=>l
 |some lo,aA=>l.drop lo.toNat
 |none,az hi=>l.take hi.toNat
 |some lo,az hi=>(l.take hi.toNat).drop lo.toNat
def Bz (n:ah):ai af->ai af->Prop
 |none,aA=>av
 |some lo,aA=>0<=lo/\lo<=(n:af)
 |none,az hi=>0<=hi/\hi<=(n:af)
 |some lo,az hi=>0<=lo/\lo<=hi/\hi<=(n:af)
def JZ (P:aY)(b:ah)(t:aV)(lo hi:ai af):Sy->Tr Out
 | .one (.own j)=>match P.underlying t with
  |some (.slice e)=>.res j λx=>match x with
   | .row e' ty l=>jK (qO P t e' (jD ty)) (.ret ⟨[Bz l.length lo hi],[],.one (.own b),[(b,az (.row e' ty (Uf l lo hi))),(j,aA)]⟩)
   | .ro ty l=>jK (qO P t e (jD ty)) (.ret ⟨[Bz l.length lo hi],[],.one (.own b),[(b,az (.ro ty (Uf l lo hi)))]⟩)
   | .ar ty l=>jK (qO P t e (jD ty)) (.ret ⟨[Bz l.length lo hi],[],.one (.own b),[(b,az (.ar ty (Uf l lo hi)))]⟩)
   |_=>.fail
  |_=>.fail
 | .one (.v (.string s))=>match P.underlying t with
  |some .string=>.ret ⟨[Bz s.size lo hi],[],.one (.v (.string (s.extract (lo.getD 0).toNat (hi.getD s.size).toNat))),[]⟩
  |_=>.fail
 | .one (.v (.slice aA 0 0))=>match P.underlying t with
  |some (.slice e)=>jK (P.info? e).isSome (.ret ⟨[Bz 0 lo hi],[],.one (.v (.slice aA 0 0)),[]⟩)
  |_=>.fail
 |_=>.fail
def agk (P:aY)(b:ah)(t:aV)(p q:Sy):Tr Out:=match P.underlying t,p with
 |some (.map kt et),.one (.mp j)=>.res j λR=>match R with
  | .map k .int m=>match Dx k q with
   |some kx=>jK (vF P kt k) (.ret ⟨[nv k kx,(show aa (ko k×af) from m).length<=2147483647],[r5 P et (.one (.v (.int .i64 0)))],.vt [(aD,[.v (.int .i64 ((jo (show aa (ko k×af) from m) kx).getD 0))]),(aD,[.hd j b (.ky k kx)])],[(j,az (.ext (.JN b k .int (nG (show aa (ko k×af) from m) kx ((jo (show aa (ko k×af) from m) kx).getD 0)) kx))),(b,aA)]⟩)
   |none=>.fail
  |_=>.fail
 |_,_=>.fail
def Pt (P:aY)(t:aV)(p s v:Sy):Tr Out:=match P.underlying t,p,s,v with
 |some (.map kt et),.one (.mp j),.one (.hd _ q (.ky k kx)),.one (.v (.int .i64 n))=>.res j λR=>match R with
  | .ext (.JN q' k' .int m kx')=>jK (vF P kt k' && bp q q') (.ret ⟨[mD k kx=mD k' kx',nv k' kx',(show aa (ko k'×af) from m).length<=2147483647],[],.one (.v aL),[(j,az (.map k' .int (nG (show aa (ko k'×af) from m) kx' (show af from n))))]⟩)
  |_=>.fail
 |_,_,_,_=>.fail
def J0 (P:aY)(b:ah)(t:aV)(h m:af):Sy->Tr Out
 | .one (.own j)=>match P.underlying t with
  |some (.slice e)=>.res j λx=>match x with
   | .row e' ty l=>jK (qO P t e' (jD ty)) (.ret ⟨[0<=h/\h<=m/\m<=(aM l:af)],[],.one (.own b),[(b,az (.row e' ty (l.take h.toNat))),(j,aA)]⟩)
   | .ro ty l=>jK (qO P t e (jD ty)) (.ret ⟨[0<=h/\h<=m/\m<=(aM l:af)],[],.one (.own b),[(b,az (.ro ty (l.take h.toNat)))]⟩)
   | .ar ty l=>jK (qO P t e (jD ty)) (.ret ⟨[0<=h/\h<=m/\m<=(aM l:af)],[],.one (.own b),[(b,az (.ar ty (l.take h.toNat)))]⟩)
   |_=>.fail
  |_=>.fail
 |_=>.fail
def AI (P:aY)(b:ah)(t:aV):Sy->Sy->Tr Out
 | .one (.v (.int .i64 l)),.one (.v (.int .i64 c))=>match codeOf P 9 (P.elem t),E5 P (P.elem t) with
  |some ty,az z=>jK (qO P t (P.elem t) (Re ty)) (rZ ty z λx0=>.ret ⟨[0<=l/\l<=c/\c<=2147483647],[],.one (.own b),[(b,az (.row (P.elem t) ty (dA l.toNat x0)))]⟩)
  |_,_=>.fail
 |_,_=>.fail
def Pu (P:aY)(b:ah)(t:aV):Sy->Tr Out
 | .one (.mp j)=>match P.underlying t with
  |some (.map kt et)=>WQ [.mp j] λre=>.res j λx=>match Pe x with
   |some ⟨k,ty,m⟩=>jK (vF P kt k && pV x && (re.all λp=>bp p.1 j)) (.ret ⟨[],[],.one (.ptr b 0),(b,az (.iter k ty m (λx=>(jo (show aa (ko k×El ty) from m) x).isSome) (show aa (ko k×El ty) from m).length aA))::re⟩)
   |none=>.fail
  |_=>.fail
 | .one (.v (.map aA))=>match P.underlying t,codeOf P 9 t with
  |some (.map kt et),az (.map k ty)=>.ret ⟨[],[],.one (.ptr b 0),[(b,az (.iter k ty ([]:aa (ko k×El ty)) (λ_=>aD) 0 aA))]⟩
  |_,_=>.fail
 |_=>.fail
def DB:(k:Kc)->ko k->Sc
 | .int,x=>.v (.int .i64 (show af from x))
 | .str,x=>.v (.string (show aj from x))
def Pv (b:ah):Sy->Tr Out
 | .one (.ptr j 0)=>.res j λx=>match x with
  | .iter k ty _ _ _ (az e)=>.ret ⟨[],[],.vt [(aD,[DB k e.1]),(l8 ty,(j4 aC b (jT ty e.2)).1)],(j4 aC b (jT ty e.2)).2⟩
  |_=>.fail
 |_=>.fail
def aeM:Sy->Sy->Tr Out
 | .one (.v (.int .i64 a)),.one (.v (.int .i64 b))=>ya (0<b/\jX .i64 a) (.v (.int .i64 (a.tdiv b)))
 |_,_=>.fail
def Xb:aa Sc->ai (aa aO)
 |[]=>az []
 | .v u::l=>(Xb l).map (u:: ·)
 |_=>aA
def aeN:Sy->ai aO
 | .one (.v u)=>az u
 | .agg cs=>(Xb cs).map λvs=>.agg vs.toArray
 |_=>aA
theorem My {A:jU}:∀ {cs:aa Sc} {vs:aa aO},Xb cs=az vs->cs.map (Sc.den A)=vs
 |[],_,h=>by cases h;rfl
 | .v u::l,vs,h=>by
  obtain⟨ws,h1,rfl⟩:=bF.1 h;rw[bO,My h1];rfl
theorem Xc {A:jU}:∀ {y:Sy} {v:aO},aeN y=az v->y.den A=v
 | .one (.v u),_,h=>by cases h;rfl
 | .agg cs,v,h=>by
  obtain⟨ws,h1,rfl⟩:=bF.1 h;show Value.agg (cs.map (Sc.den A)).toArray=_;rw[My h1]
def aeO (P:aY)(t:aV)(v:aO):Hid:=⟨λ_ w=>(Instr.makeInterface t v).run P w,λ_ w=>.ok (.iface t v) w⟩
def opT (P:aY)(T:aa (lM P))(C:aa (ah×ak))(md:ak)(b:ah):Op->Tr Out
 | .box t x=>qm C x λy=>.ret ⟨[],[WV P t y (jA y)],.one (.ptr b 0),[(b,az (.box t (jA y)))]⟩
 | .panic _=>.ret ⟨[False],[],.one (.v (.bool aC)),[]⟩
 | .makeInterface t x=>qm C x λy=>match aeN y with
  |some v=>.ret ⟨[],[aeO P t v],.one (.v (.iface t v)),[]⟩
  |none=>.fail
 | .alloc t=>match P.info? t with
  |some i=>match i.zero with
   |some z=>.ret ⟨[],[Ms P t (z.cells.toList.map vA)],.one (.ptr b 0),[(b,az (.box t (z.cells.toList.map vA)))]⟩
   |none=>.fail
  |none=>.fail
 | .buildSlice t len parts=>Mk C (parts.toList.map (·.2)) λys=>Xa P md b t len (parts.toList.map (·.1)) ys
 | .store t x y=>qm C x λp=>qm C y λq=>JY P b t p q
 | .build t parts=>Mk C (parts.toList.map (·.2)) λys=>WW P t ((parts.toList.map (·.1)).zip ys)
 | .call c=>match c.callee with
  | .value x=>qm C x λp=>match p with
   | .one (.sR f kH)=>match T.find? (λc=>bp c.f f) with
    |some con=>jK (((P.funcs[f]?).map (λfn=>((fn.name== "runtime.NumGoroutine")||fn.body.isNone)))==az aD) (Mk C c.args.toList λys=>con.tr b kH ys)
    |none=>.fail
   |_=>.fail
  | .builtin .append=>match c.args.toList,c.argTypes.toList with
   |[x,y],[t,t']=>jK (bp t t') (qm C x λp=>qm C y λq=>agj P b t p q)
   |_,_=>.fail
  | .builtin .len=>match c.args.toList,c.argTypes.toList,agh P c.argTypes[0]? with
   |[x],[t],aC=>qm C x λp=>WY P t p
   |_,_,_=>sV P C b (.call c)
  | .builtin .delete=>match c.args.toList,c.argTypes.toList with
   |[x,y],[t,kt]=>qm C x λp=>qm C y λq=>WX P t kt p q
   |_,_=>.fail
  |_=>sV P C b (.call c)
 | .makeMap t aA=>zw P md b t
 | .makeMap t (az x)=>qm C x λp=>match p with
  | .one (.v (.int _ _))=>zw P md b t
  |_=>.fail
 | .mapEntry t m x=>qm C m λp=>qm C x λq=>agk P b t p q
 | .entryStore t m x y=>qm C m λp=>qm C x λq=>qm C y λz=>Pt P t p q z
 | .mapUpdate t m x y=>qm C m λp=>qm C x λq=>qm C y λz=>Ro P b t p q z
 | .insert t m x y=>qm C m λp=>qm C x λq=>qm C y λz=>Ro P b t p q z
 | .lookup t m x ok=>qm C m λp=>qm C x λq=>HZ P b t ok p q
 | .makeFunc f first kH=>match f,first.toList with
  | .func f,[]=>Mk C kH.toList λys=>match CE ys with
   |some cs=>one (.sR f cs)
   |none=>.fail
  |_,_=>.fail
 | .slice t x lo hi aA=>qm C x λp=>Mx C lo λi=>Mx C hi λk=>JZ P b t i k p
 | .slice t x aA (az hi) (az mx)=>qm C x λp=>qm C hi λq=>match q with
  | .one (.v (.int .i64 h))=>qm C mx λq'=>match q' with
   | .one (.v (.int .i64 m))=>J0 P b t h m p
   |_=>.fail
  |_=>.fail
 | .makeSlice t l c=>qm C l λp=>qm C c λq=>AI P b t p q
 | .range t x=>qm C x λp=>Pu P b t p
 | .entry x=>qm C x λp=>Pv b p
 | .binOp op t x y t'=>match md,op with
  |true,.quo=>qm C x λp=>qm C y λq=>aeM p q
  |_,_=>sV P C b (.binOp op t x y t')
 |op=>sV P C b op
section
variable {P:aY}{o:jO}{n:ah}{A A':jU}{S S' T:jv}{F G:ah->Prop}{s:ah->ai E2}{r:ah->ai R2}{a:Act}{w w':aN}{C:aa (ah×ak)}{b:ah}
theorem J1 {re:aa (ah×ai R2)}{j:ah}(h:∃x,(j,x)∈re)(r1 r2:ah->ai R2):jB r1 re j=jB r2 re j:=by
 induction re with
 |nil=>have⟨x,hx⟩:=h;cases hx
 |cons p re ih=>
  show sG (jB r1 re) p.1 p.2 j=sG (jB r2 re) p.1 p.2 j
  grind [mu,m9]
theorem qt {re:aa (ah×ai R2)}{j:ah}(h:¬ ∃x,(j,x)∈re)(r1:ah->ai R2):jB r1 re j=r1 j:=by
 induction re with
 |nil=>rfl
 |cons p re ih=>
  show sG (jB r1 re) p.1 p.2 j=_
  grind [m9,aZ,bl]
theorem tO {re:aa (ah×ai R2)}{j:ah}{z:R2}(h:∃x,(j,x)∈re)(hz:jB r re j=az z):(j,az z)∈re:=by
 induction re with
 |nil=>have⟨x,hx⟩:=h;cases hx
 |cons p re ih=>
  have hz:sG (jB r re) p.1 p.2 j=az z:=hz
  grind [mu,aZ,m9,bl]
def oD (A:jU)(r:ah->ai R2)(K:ah->Prop)(c:ah):Prop:=∃j x,K j/\r j=az x/\(x.den A j).has c
theorem rE.mono {w w':aN}{H H':ah->Prop}(h:rE w w' H)(k:∀c,H c->H' c):rE w w' H':=⟨h.os,h.tape,h.output,h.size,λc hc hn=>h.block c hc λq=>hn (k c q)⟩
theorem kW.sX (H:kW o n A S F s r a w){K:ah->Prop}{c:ah}(h:oD A r K c):o.new c/\c<w.heap.size/\¬S c:=by
 have⟨j,x,_,h2,h3⟩:=h;exact H.jM.own j _ c (show jL A r j=az _ by simp[jL,h2]) h3
theorem kW.swap (H:kW o n A S F s r a w)(hA:lQ F A A'){re:aa (ah×ai R2)}(K:ah->Prop)(hK:∀j,K j->∃x,(j,x)∈re)
  (hc:rE w w' (oD A r K)) (hS:∀k,S k->S' k)
  (hS':∀k,S' k->S k\/((oD A r K k\/w.heap.size<=k)/\k<w'.heap.size/\∀j z,(j,az z)∈re->¬(z.den A' j).has k))
  (hz:∀j z,(j,az z)∈re->z.all (FU F re)/\z.lu A'/\uW z=aD/\(z.den A' j).ok S' w'/\∀c,(z.den A' j).has c->(oD A r K c\/w.heap.size<=c)/\c<w'.heap.size)
  (ha:∀i j zi zj c,(i,az zi)∈re->(j,az zj)∈re->(zi.den A' i).has c->(zj.den A' j).has c->i=j):
  kW o n A' S' (FU F re) s (jB r re) a w':=by
 have H1:=H.agree hA (G:=FU F re) λj h=>.inl h;have abK:∀j x,r j=az x->x.den A j=x.den A' j:=λj x hx=>R2.congr hA (H.lq j x hx).1 (H.lq j x hx).2.1;have hH:∀c,oD A r K c↔∃j rr,K j/\jL A' r j=az rr/\rr.has c:=λc=>by
  constructor
  .rintro⟨j,x,h1,h2,h3⟩;exact⟨j,_,h1,by simp[jL,h2];rfl,by rw[<-abK j x h2];exact h3⟩
  rintro⟨j,rr,h1,h2,h3⟩;obtain⟨x,hx,rfl⟩:=bF.1 h2;exact⟨j,x,h1,hx,by rw[abK j x hx];exact h3⟩
 refine⟨H1.size,H1.lK,H1.env,H1.rH,λj x hx=>?_,H1.jM.swap (N:=λj=> ∃x,(j,x)∈re) (K:=K) (hc.mono λc q=>(hH c).1 q) hS (λk hk=>?_) (λj rr hj hr=>?_) (λj rr hj hr=>?_) (λj rr c hj hr J2=>?_) (λi j ri rj c hi hj ei ej q1 q2=>?_),λj x hx=>?_,H1.wj⟩
 .by_cases q:∃x,(j,x)∈re
  .have h2:=hz j x (tO q hx);obtain⟨y,hy⟩:=q;exact⟨.inr ⟨y,hy⟩,h2.1,h2.2.1⟩
  rw[qt q] at hx;exact H1.lq j x hx
 .rcases hS' k hk with q|⟨q1,q2,q3⟩
  .exact .inl q
  refine .inr ⟨q1.imp (hH k).1 id,q2,λj rr hj hr=>?_⟩;obtain⟨x,hx,rfl⟩:=bF.1 hr;exact q3 j x (tO hj hx)
 .refine⟨λq=>hj (hK j q),?_⟩;have hr:(jB r re j).map (R2.den A' j)=az rr:=hr;rw[qt hj] at hr;exact hr
 .obtain⟨x,hx,rfl⟩:=bF.1 hr;exact(hz j x (tO hj hx)).2.2.2.1
 .obtain⟨x,hx,rfl⟩:=bF.1 hr;obtain⟨q1,q2⟩:=(hz j x (tO hj hx)).2.2.2.2 c J2;exact⟨q1.imp (hH c).1 id,q2⟩
 .obtain⟨x,hx,rfl⟩:=bF.1 ei;obtain⟨y,hy,rfl⟩:=bF.1 ej;exact ha i j x y c (tO hi hx) (tO hj hy) q1 q2
 by_cases q:∃x,(j,x)∈re
 .exact oh (hz j x (tO q hx)).2.2.1
 rw[qt q] at hx;exact H1.args j x hx
theorem J3:∀ {t:Ty} {cs:aa aO} {x:El t},xG t=aC->Data.rd T w cs x->Data.rd S w' cs x
 | .int,_,_,_,h=>h
 | .bool,_,_,_,h=>h
 | .str,_,_,_,h=>h
 | .unit,_,_,_,h=>h
 | .pair p q,cs,x,hf,h=>by
  have hf:(xG p && xG q)=aC:=hf;rw[bB] at hf;obtain⟨c1,c2,rfl,h1,h2⟩:=h;exact⟨c1,c2,rfl,J3 hf.1 h1,J3 hf.2 h2⟩
 | .list _,_,_,hf,_=>by cases hf
 | .map _ _,_,_,hf,_=>by cases hf
 | .ptr _,_,_,hf,_=>by cases hf
theorem Xd {t:Ty}{xs:aa aO}{l:aa (El t)}(hf:xG t=aC)(h:kR T w xs l):kR S w' xs l:=⟨h.1,λi hi=>J3 hf (h.2 i hi)⟩
theorem Im {α:Type}[Data α]{tx e':aV}(hk:P.underlying tx=az (.slice e')){v:aO}{l:aa α}(h:ux T w v l):∃news,Src P (Data.size α) tx v l.length news w/\kR T w news l:=by
 obtain⟨p,c,rfl,h1,h2,h3⟩:=h;rcases h3 with rfl|⟨g,off,cur,t,fz,rfl,hg,hw,hc⟩
 .refine⟨[],?_,kR.nil _ _⟩;cases p with
  |none=>exact ap0 w hk c
  |some a=>exact ap1 w hk a 0 c [] (by simp) (λj u q=>by cases q) λu q=>by cases q
 have hlen:0<l.length*Data.size α->off+l.length*Data.size α<=cur.size:=λhp=>by
  have hl:0<l.length:=aq0 λq=>by rw[q,dG] at hp;omega
  have hs:0<Data.size α:=aq0 λq=>by rw[q,Nat.mul_zero] at hp;omega
  obtain⟨cs,k1,k2⟩:=hc (l.length-1) (by omega);have:=k2 (Data.size α-1) (by omega);rw[bN (by rw[Data.len k1];omega)] at this;have:=(di.1 this).1;have e:l.length*Data.size α=(l.length-1)*Data.size α+Data.size α:=by rw[<-cL];congr 1;omega
  omega
 have hR:kR T w ((cur.toList.drop off).take (l.length*Data.size α)) l:=by
  refine⟨?_,λi hi=>?_⟩
  .have TX:cur.toList.length=cur.size:=cU;rw[bJ,b9,TX]
   by_cases q:0<l.length*Data.size α
   .have:=hlen q;omega
   omega
  obtain⟨cs,k1,k2⟩:=hc i hi;have e:((((cur.toList.drop off).take (l.length*Data.size α)).drop (i*Data.size α)).take (Data.size α))=cs:=by
   apply aow;intro j;rw[cE];split
   .rename_i hj;have:=cm (Data.size α) (show i+1<=l.length from hi);rw[cL] at this;rw[cI,cE,aQ (by omega),cI,anV,<-k2 j hj,dz]
   rename_i hj;rw[List.getElem?_eq_none (by rw[Data.len k1];omega)]
  rw[e];exact k1
 refine⟨_,ap1 w hk ⟨g,off,aA⟩ l.length c _ hR.1 (λj u hu=>?_) hR.one,hR⟩;rw[anW,aK w g _ cur t fz hw];rw[cE] at hu;split at hu
 .rw[cI,anV] at hu;exact hu
 cases hu
theorem Pw {tx e' e:aV}(hk:P.underlying tx=az (.slice e')){size:ah}{v:aO}{m:ah}{xs:aa aO}(hd:oM w e size v m xs)(h1:∀u∈xs,u.oneCell'=aC):Src P size tx v m xs w:=by
 rcases hd.2 with⟨rfl,rfl⟩|⟨g,d,cap,cur,rfl,hg,O0,vR,kO,rW⟩
 .have:xs=[]:=cH (by simpa using hd.1);subst this;exact ap0 w hk 0
 refine ap1 w hk _ _ _ _ hd.1 (λj u hu=>?_) h1;rw[anW];exact hd.cell hu
theorem Xe (H:kW o n A S F s r a w){tx e':aV}(hk:P.underlying tx=az (.slice e')){j:ah}{y:R2}(hj:r j=az y){t:Ty}{m:aa (El t)}(hy:pU y=az ⟨t,m⟩)(hf:pV y=aC\/xG t=aC):
  ∃news,Src P (Data.size (El t)) tx (A.v j) m.length news w/\kR S w news m:=by
 have p9:(y.den A j).ok S w:=H.jM.ok j _ (show jL A r j=az _ by simp[jL,hj]);cases y with
 |ro t' l'=>cases hy;exact Im hk (lz p9)
 |ar t' l'=>
  cases hy;obtain⟨news,h1,h2⟩:=Im hk (lz (zq H hj rfl));rcases hf with hf|hf
  .cases hf
  exact⟨news,h1,Xd hf h2⟩
 |row e t' l'=>
  cases hy;have⟨xs,h1,h2⟩:=p9;exact⟨xs,Pw hk h1 h2.one,h2⟩
 |ext z=>
  cases z with
  |_=>cases hy
 |_=>cases hy
theorem aeP (H:kW o n A S F s r a w){j q:ah}{y:R2}{x:Hx}{I:HdI}(hj:r j=az y)(h:hdI q x y=az I)(hp:∀p∈I.p,p):
  (∃xs,oM w I.ie (Data.size (El I.t)) (A.f q x.lit) I.l.length xs/\kR S w xs I.l)/\(∀c,(A.f q x.lit).ownBlock=az c->(y.den A j).has c)/\
   I.z.all F/\I.z.lu A/\uW I.z=aD/\(I.z.den A j).ok S w/\∀c,(I.z.den A j).has c->(y.den A j).has c/\(A.f q x.lit).ownBlock≠az c:=by
 have p9:(y.den A j).ok S w:=H.jM.ok j _ (show jL A r j=az _ by simp[jL,hj]);have nH:=(H.lq j y hj).2.1;have nm:∀ {k:Kc} {t:Ty} {ie:aV} {m:jw k (aa (El t))} {x:ko k},y= .ext (.mj q k aA t ie m)->(∃xs,oM w ie (Data.size (El t)) (A.f q (mD k x)) ((jo (show aa (ko k×aa (El t)) from m) x).getD []).length xs/\kR S w xs ((jo (show aa (ko k×aa (El t)) from m) x).getD []))/\(∀c,(A.f q (mD k x)).ownBlock=az c->(y.den A j).has c)/\
   F q/\((R2.ext (.mj q k (az x) t ie m)).den A j).ok S w/\∀c,((R2.ext (.mj q k (az x) t ie m)).den A j).has c->(y.den A j).has c/\(A.f q (mD k x)).ownBlock≠az c:=by
  intro k t ie m x e;subst e;obtain⟨oN,hb,N⟩:∃oN,A.m j=az oN/\xE S w oN (A.f q) aA ie m:=p9;have⟨zs,n1,n2,n3⟩:=N.map;have e2:jo (show aa (ko k×aa (El t)) from m) x=(jo zs x).map (·.2):=by rw[n2];exact oU (λy:aO×aa (El t)=>y.2) zs x
  have hO:mI S w ie (A.f q (mD k x)) ((jo (show aa (ko k×aa (El t)) from m) x).getD []):=by
   rw[e2];cases hl:jo zs x with
   |none=>
    rw[N.non x (by rw[e2,hl];rfl) (by simp)];exact mI.nil
   |some z=>
    obtain⟨q1,q2⟩:=n3 _ (qE hl) (by simp);rw[<-q1];exact q2
  refine⟨hO,λc hc=>.inr ⟨x,by simp,hc⟩,nH,⟨oN,hb,⟨zs,n1,n2,λz hz _=>n3 z hz (by simp)⟩,λz hz _=>N.non z hz (by simp),λu v c _ _=>N.inj u v c (by simp) (by simp),λu c _=>N.out u c (by simp)⟩,λc hc=>?_⟩;rcases hc with hc|⟨u,hu,hc⟩
  .refine⟨.inl hc,λq=>?_⟩;have hc:A.m j=az c:=hc;rw[hb] at hc;cases hc;exact N.out x _ (by simp) q rfl
  refine⟨.inr ⟨u,by simp,hc⟩,λq=>hu ?_⟩;rw[N.inj u x c (by simp) (by simp) hc q]
 unfold hdI at h;split at h
 .rename_i i sz off q' e t ie l;split at h
  .rename_i hg;rw[bB] at hg;have h1:=j9 hg.1;have h2:=j9 hg.2;subst h1;subst h2;split at h
   .rename_i t' l' hc;cases h;obtain⟨h0,h1⟩:j8 i l.length:=hp _ (aU.2 rfl);have hN:ot S w (A.v j) (A.f q') aA e t ie l:=p9;have hi:i.toNat<l.length:=by omega
    have abP:off<jD t:=by have:=(cF.1 hc).1;rwa[mV] at this
    have Ri:=Bv (t:=t) (l:=l) hi abP;rw[hc] at Ri;have rG:i.toNat*jD t+off<l.length*jD t:=by
     have:=(cF.1 Ri).1;rwa[nK] at this
    have⟨xs,k1,k2,k3⟩:=hN.row;obtain⟨k4,k5⟩:=k3 _ _ Ri (by simp);refine⟨k5,λc J2=>.inr ⟨_,rG,by simp,J2⟩,nH,tv,rfl,⟨⟨xs,k1,k2,λc x hx _=>k3 c x hx (by simp)⟩,λc d bb h1 h2 _ _=>hN.inj c d bb h1 h2 (by simp) (by simp),λc bb h1 _=>hN.out c bb h1 (by simp)⟩,λc J2=>?_⟩;rcases J2 with J2|⟨d,hd1,hd2,hd3⟩
    .exact⟨.inl J2,λq=>hN.out _ c rG (by simp) q J2⟩
    refine⟨.inr ⟨d,hd1,by simp,hd3⟩,λq=>hd2 ?_⟩;rw[hN.inj _ d c rG hd1 (by simp) (by simp) q hd3]
   cases h
  cases h
 .rename_i x q' t ie m;split at h
  .rename_i hg;have h1:=j9 hg;subst h1;cases h;obtain⟨k1,k2,k3,k4,k5⟩:=nm (k:=.int) (x:=x) rfl;exact⟨k1,k2,k3,tv,rfl,k4,k5⟩
  cases h
 .rename_i x q' t ie m;split at h
  .rename_i hg;have h1:=j9 hg;subst h1;cases h;obtain⟨k1,k2,k3,k4,k5⟩:=nm (k:=.str) (x:=x) rfl;exact⟨k1,k2,k3,tv,rfl,k4,k5⟩
  cases h
 cases h
theorem Xf (H:kW o n A S F s r a w){tx e':aV}(hk:P.underlying tx=az (.slice e')){ty:Ty}{k:aa Prop->aa (El ty)->Tr Out}{q:Sy}{out:Out}(h:(Ue ty k q).run s r=az out):
  ∃qs m,(k qs m).run s r=az out/\((∀p∈qs,p)->∃news,Src P (Data.size (El ty)) tx (q.den A) m.length news w/\kR S w news m):=by
 unfold Ue at h;split at h
 .obtain⟨y,hy,h⟩:=jI h;split at h
  .rename_i t' m ha;split at h
   .rename_i m' hm;obtain⟨hg,h⟩:=jt h;obtain⟨e,OT⟩:=ni hm;cases e;have OT:m=m':=OT;subst OT;rw[e7] at hg;exact⟨[],m,h,λ_=>Xe H hk hy ha hg⟩
   cases h
  cases h
 .obtain⟨y,hy,h⟩:=jI h;split at h
  .rename_i I hI;split at h
   .rename_i m' hm;obtain⟨hg,h⟩:=jt h;obtain⟨t,ie,l,ps,z⟩:=I;obtain⟨e,OT⟩:=ni hm;have e:t=ty:=by injection e
    subst e;have OT:l=m':=OT;subst OT;refine⟨ps,l,h,λhp=>?_⟩;obtain⟨⟨xs,k1,k2⟩,_⟩:=aeP H hy hI hp;exact⟨xs,Pw hk k1 k2.one,k2⟩
   cases h
  cases h
 .exact⟨[],[],h,λ_=>⟨[],ap0 w hk 0,kR.nil _ _⟩⟩
 cases h
def Mz (A:jU)(S:jv)(F:ah->Prop)(w:aN)(r:ah->ai R2)(v:aO):ai (ah×ai R2)->Prop
 |none=>v.ownBlock=aA
 |some (j,y)=> ∃x,r j=az x/\(∀c,v.ownBlock=az c->(x.den A j).has c)/\∀z,y=az z->z.all F/\z.lu A/\uW z=aD/\(z.den A j).ok S w/\∀c,(z.den A j).has c->(x.den A j).has c/\v.ownBlock≠az c
theorem Mz.has {v:aO}{old:ai (ah×ai R2)}(h:Mz A S F w r v old){c:ah}(hc:v.ownBlock=az c):oD A r (λi=> ∃y,old=az (i,y)) c:=by
 cases old with
 |none=>have h:v.ownBlock=aA:=h;rw[h] at hc;cases hc
 |some p=>have⟨x,h1,h2,_⟩:=h;exact⟨p.1,x,⟨p.2,rfl⟩,h1,h2 c hc⟩
theorem kW.Io (H:kW o n A S F s r a w){K:ah->Prop}(hc:rE w w' (oD A r K)):nC S w w':=λk hk=>hc.block k (H.jM.pT k hk) λq=>(H.sX q).2.2 hk
theorem kW.Ip (H:kW o n A S F s r a w)(hF:¬F b){e:aV}{ty:Ty}{m:aa (El ty)}{v v':aO}{xs:aa aO}{old:ai (ah×ai R2)}(hold:Mz A S F w r v old)
  (hc:w.grownBy w' v.ownBlock) (hv:oM w' e (Data.size (El ty)) v' m.length xs) (hR:nC S w w'->kR S w' xs m) (hb:∀c,v'.ownBlock=az c->v.ownBlock=az c\/(w.heap.size<=c/\c<w'.heap.size)):
  ∃A',kW o n A' S (FU F ((b,az (.row e ty m))::old.toList)) s (jB r ((b,az (.row e ty m))::old.toList)) a w'/\v'=A'.v b:=by
 have⟨p',c',V5,_⟩:=hv.slice;have Dt:=lQ.set (A:=A) hF p' m.length c' 0;have rB:rE w w' (oD A r λi=> ∃y,old=az (i,y)):=(rE.of hc).mono λc q=>hold.has q;have hS:=H.Io rB;have yt:∀p,p∈old.toList->old=az p:=λp hp=>by simpa using hp
 refine⟨A.set b p' m.length c' 0,H.swap Dt (λi=> ∃y,old=az (i,y)) (λj ⟨y,hy⟩=>⟨y,bl _ (by rw[hy];simp)⟩) rB (λ_ h=>h) (λ_ h=>.inl h) (λj z hj=>?_) (λi j zi zj c hi hj h1 h2=>?_),by rw[jU.tL];exact V5⟩
 .rcases bg.1 hj with hj|hj
  .cases hj;refine⟨tv,tv,rfl,?_,λc J2=>?_⟩
   .show mI S w' e (jU.v _ b) m;rw[jU.tL,<-V5];exact⟨xs,hv,hR hS⟩
   have J2:(jU.v _ b).ownBlock=az c:=J2;rw[jU.tL,<-V5] at J2;rcases hb c J2 with q|q
   .exact⟨.inl (hold.has q),bR (H.sX (hold.has q)).2.1 hc.size⟩
   exact⟨.inr q.1,q.2⟩
  have ho:=yt _ hj;subst ho;have⟨x,h1,h2,h3⟩:=hold;obtain⟨k1,k2,k3,k4,k5⟩:=h3 z rfl;have Co:=(H.lq j x h1).1;have hd:z.den A j=z.den (A.set b p' m.length c' 0) j:=R2.congr Dt Co k1;rw[<-hd];refine⟨R2.mono (λ_ q=>.inl q) k1,R2.nj Dt k1 k2,k3,(z.den A j).keep S w w' k4 hS λc J2=>?_,λc J2=>?_⟩
  .obtain⟨q1,q2⟩:=k5 c J2;exact hc.block c (H.sX (K:=λi=>i=j) ⟨j,x,rfl,h1,q1⟩).2.1 λz=>q2 z.symm
  obtain⟨q1,q2⟩:=k5 c J2;have hk:oD A r (λi=> ∃y,az (j,az z)=az (i,y)) c:=⟨j,x,⟨_,rfl⟩,h1,q1⟩;exact⟨.inl hk,bR (H.sX hk).2.1 hc.size⟩
 have key:∀j z c,(j,az z)∈old.toList->(z.den (A.set b p' m.length c' 0) j).has c->v'.ownBlock=az c->False:=λj z c hj h1 h2=>by
  have ho:=yt _ hj;subst ho;have⟨x,q1,q2,q3⟩:=hold;obtain⟨k1,k2,k3,k4,k5⟩:=q3 z rfl;rw[<-R2.congr Dt (H.lq j x q1).1 k1] at h1;obtain⟨k6,k7⟩:=k5 c h1;rcases hb c h2 with q|q
  .exact k7 q
  have:=(H.sX (K:=λi=>i=j) ⟨j,x,rfl,q1,k6⟩).2.1;omega
 rcases bg.1 hi with hi|hi<;>rcases bg.1 hj with hj|hj
 .cases hi;cases hj;rfl
 .cases hi;have h1:(jU.v _ b).ownBlock=az c:=h1;rw[jU.tL,<-V5] at h1;exact(key j zj c hj h2 h1).elim
 .cases hj;have h2:(jU.v _ b).ownBlock=az c:=h2;rw[jU.tL,<-V5] at h2;exact(key i zi c hi h1 h2).elim
 have e1:=yt _ hi;rw[yt _ hj] at e1;cases e1;rfl
theorem abQ (H:kW o n A S F s r a w)(hF:¬F b){t tx e:aV}{ty:Ty}{bytes:ah}(E:G8 P t e (Data.size (El ty)) bytes)(G4:bytes<=1000){l m:aa (El ty)}{v x:aO}(hd:∃xs,oM w e (Data.size (El ty)) v l.length xs/\kR S w xs l)
  {old:ai (ah×ai R2)} (hold:Mz A S F w r v old) (hs:∃news,Src P (Data.size (El ty)) tx x m.length news w/\kR S w news m) (hlen:l.length+m.length<=2147483647) (rty:aV):
  ∃v' w',(anz #[t,tx] rty #[v,x]).run P w= .ok v' w'/\∃A',kW o n A' S (FU F ((b,az (.row e ty (l++m)))::old.toList)) s (jB r ((b,az (.row e ty (l++m)))::old.toList)) a w'/\v'=A'.v b:=by
 have⟨xs,hx1,hx2⟩:=hd;have⟨news,JH,JI⟩:=hs;obtain⟨v',w',hr,k1,k2,k3⟩:=Rk (ty:=rty) E hx1 JH (by simp only[maxLen];omega) (by have:=aoL hlen G4;omega);refine⟨v',w',hr,H.Ip hF hold k2 (xs:=xs++news) (by rw[bA];exact k1) (λhS=>(hx2.keep hS).append (JI.keep hS)) k3⟩
end
section
variable {P:aY}{o:jO}{n:ah}{A A':jU}{S S' T:jv}{F G:ah->Prop}{s:ah->ai E2}{r:ah->ai R2}{a:Act}{w w':aN}{C:aa (ah×ak)}{b:ah}
theorem Xg {op:bf}{v:aO}{K:Act->aN->Prop}{Q:Exit->Act->aN->Prop}(h:Oper.quietUpon P (· =w) w v ((aG a.eval op).run P w))(k:K (a.put op.dst v) w):op.wp P a w K Q:=by
 unfold Oper.wp;generalize (aG a.eval op).run P w=res at h;cases res with
 |ok x w'=>
  cases x<;>first|(exact h.elim)|skip
  .obtain⟨rfl,rfl⟩:=h;exact k
  .obtain⟨rfl,rfl⟩:=h;exact k
  obtain⟨rfl,h⟩:=h;refine h.mono λe w2 ⟨he,hw⟩=>?_;subst he;subst hw;exact k
 |halt x w'=>exact h.elim
theorem xJ {α:Type 1}{t:Ty}{y:Sy}{k:El t->Tr α}{out:α}(hR:uX T w A r (jA y))(h:(rZ t y k).run s r=az out):∃x:El t,Data.rd T w ((jA y).map (Sc.den A)) x/\(∀ps,y≠.vt ps)/\(k x).run s r=az out:=by
 unfold rZ at h;split at h
 .obtain⟨x,u,rest,hu,h1,h⟩:=uY t _ _ hR h;split at h
  .rw[bW] at hu;subst hu;exact⟨x,h1,(λ_ q=>by cases q),h⟩
  cases h
 .obtain⟨x,u,rest,hu,h1,h⟩:=uY t _ _ hR h;split at h
  .rw[bW] at hu;subst hu;exact⟨x,h1,(λ_ q=>by cases q),h⟩
  cases h
 cases h
theorem yO {t:Ty}:∀ {ys:aa Sy} {k:aa (El t)->Tr Out} {out:Out},uX T w A r (ys.flatMap jA)->(Ej t ys k).run s r=az out->∃l:aa (El t),l.length=ys.length/\kR T w ((ys.flatMap jA).map (Sc.den A)) l/\kQ T w ((ys.flatMap jA).map (Sc.den A)) (oW t l)/\(k l).run s r=az out
 |[],k,out,_,h=>⟨[],rfl,kR.nil _ _,tv,h⟩
 |y::ys,k,out,hR,h=>by
  have hR1:uX T w A r (jA y):=λc hc=>hR c (by rw[dc];exact bU _ hc);have hR2:uX T w A r (ys.flatMap jA):=λc hc=>hR c (by rw[dc];exact bV _ hc);obtain⟨x,hx,_,h⟩:=xJ hR1 h;obtain⟨l,h1,h2,h3,h⟩:=yO hR2 h;refine⟨x::l,by simp[h1],?_,?_,h⟩
  .rw[dc,cA];exact(kR.single hx).append h2
  rw[dc,cA];exact(rD t hx).append h3
theorem abR {w:aN}{S:jv}{t:Ty}{e:aV}{cs:aa aO}{l:aa (El t)}(h:kR S w cs l)(hS:∀k,S k->k<w.heap.size)(hl:l.length<=2147483647):
  Own S (w.alloc (.cells cs.toArray e)) e (.slice (az ⟨w.heap.size,0,aA⟩) l.length l.length) l:=by
 refine⟨cs,⟨h.1,.inr ⟨w.heap.size,l.length,_,rfl,bQ _,heap_alloc_new w _,aW _,by simp only[maxLen];omega,by simpa using h.1,?_⟩⟩,h.keep λk hk=>(qC w _).block k (hS k hk)⟩;simp only[aq1];rw[<-h.1,cg]
theorem Xh {B:ah}(H:kW o n A S F s r a w)(hF:∀j,b<=j->j<B->¬F j){op:bf}{t len:ah}{parts:aq (ah×bu)}{ys:aa Sy}{out:Out}(ho:op.op= .buildSlice t len parts)(mg:parts.toList.map (λp=>a.eval p.2)=ys.map (Sy.den A))
  (h:(agf P b t len (parts.toList.map (·.1)) ys).run s r=az out) (qG:∀h∈out.hs,∀A w,h.lhs A w=h.rhs A w) (hB:∀p∈out.re,p.1<B)
  {K:Act->aN->Prop} {Q:Exit->Act->aN->Prop} (k:∀v w',nI o n F s r a out v w'->K (a.put op.dst v) w'):op.wp P a w K Q:=by
 unfold agf at h;split at h
 .rename_i ty hty;obtain⟨hg,h⟩:=jt h;simp only[bB] at hg;obtain⟨⟨hr,⟨uB,rI⟩,hel⟩,hle⟩:=hg;have uB:=j9 uB;have rI:=j9 rI;have hle:=anC hle;obtain⟨re,hz,hlz,h⟩:=vG _ _ h;obtain⟨S',hS,H'⟩:=H.freeze hz;obtain⟨l,Ug,pX,_,h⟩:=yO (T:=S') (wF H hz hS H' hlz) h;have e:=jH h;subst e;have kT:=qG _ (aU.2 rfl) A w;simp only[Fg] at kT;have ep:parts.map (λx=>(x.1,a.eval x.2))=(((parts.toList.map (·.1)).zip ys).map λy=>(y.1,y.2.den A)).toArray:=by
   apply cJ;rw[dZ];show _=((parts.toList.map (·.1)).zip ys).map λy=>(y.1,y.2.den A);have:(((parts.toList.map (·.1)).zip ys).map λy=>(y.1,y.2.den A))=(parts.toList.map (·.1)).zip (ys.map (Sy.den A)):=by
    rw[ap2];rfl
   rw[this,<-mg,ap3]
  have e2:(aG a.eval op).run P w= .ok (.value (.slice (az ⟨w.heap.size,0,aA⟩) len len)) (w.alloc (.cells (((ys.flatMap jA).map (Sc.den A))).toArray (P.elem t))):=by
   rw[<-ep] at kT;simp only[aG,ho,bw];rw[show(aph (λx=>match x with|(i,x)=>(i,a.eval x)) parts)=parts.map (λx=>(x.1,a.eval x.2)) from rfl,kT];rfl
  refine kD e2 (k _ _ ?_);have hlen:l.length=len:=by rw[Ug,rI]
  have lU:=abR (e:=P.elem t) pX H'.jM.pT (by omega);rw[hlen] at lU;have zu:¬F b:=hF b (aW _) (hB (b,az (.row (P.elem t) ty l)) (bU _ (aU.2 rfl)));have H2:=H'.new (p:=az ⟨w.heap.size,0,aA⟩) (m:=len) (c:=len) (x:=.cells (((ys.flatMap jA).map (Sc.den A))).toArray (P.elem t)) (y:=.row (P.elem t) ty l) zu (by show mI _ _ _ (jU.v _ b) l;rw[jU.tL];exact mI.of lU) (λk hk=>by have hk:(jU.v _ b).ownBlock=az k:=hk;rw[jU.tL] at hk;cases hk;rfl) tv rfl tv;rw[<-mh] at H2;refine⟨_,S',H2.agree (lQ.refl _ _) λj hj=>?_,by show _=jU.v _ b;rw[jU.tL],.inr ⟨_,bU _ (aU.2 rfl)⟩,tv⟩;rcases hj with hj|⟨z,hz⟩
  .exact .inl hj
  exact .inr ⟨z,bU _ hz⟩
 cases h
theorem MA (H:kW o n A S F s r a w)(hF:¬F b){op:bf}{t:aV}{cs:aa Sc}(nH:∀c∈cs,c.all F)(MB:∀c∈cs,c.lu A)
  (e2:(aG a.eval op).run P w= .ok (.value (.pointer (az ⟨w.heap.size,0,aA⟩))) (w.alloc (.cells (cs.map (Sc.den A)).toArray t))) {hs:aa Hid}
  {K:Act->aN->Prop} {Q:Exit->Act->aN->Prop} (k:∀v w',nI o n F s r a ⟨[],hs,.one (.ptr b 0),[(b,az (.box t cs))]⟩ v w'->K (a.put op.dst v) w'):op.wp P a w K Q:=by
 refine kD e2 (k _ _ ?_);have zu:¬F b:=hF;have Dt:=lQ.set (A:=A) zu aA 0 0 w.heap.size;have H2:=H.new (p:=aA) (m:=0) (c:=0) (x:=.cells (cs.map (Sc.den A)).toArray t) (y:=.box t cs) zu (by
  show(w.alloc _).heap[(A.set b aA 0 0 w.heap.size).b b]?=_;rw[jU.Al,<-sU Dt nH];exact heap_alloc_new w _) (λk hk=>by have hk:az ((A.set b aA 0 0 w.heap.size).b b)=az k:=hk;rw[jU.Al] at hk;cases hk;rfl) (λc hc=>Sc.mono (λj hj=>.inl hj) (nH c hc)) rfl (λc hc=>Sc.nj Dt (nH c hc) (MB c hc))
 refine⟨_,S,H2,?_,.inr ⟨_,aU.2 rfl⟩,tv⟩;show _=cO (az ⟨(A.set b aA 0 0 w.heap.size).b b,0,aA⟩);rw[jU.Al]
theorem CF {q:Sy}(h4:(jA q).all Ij=aC)(h5:∀ps,q≠.vt ps):(q.den A).cells.toList=(jA q).map (Sc.den A)/\∀u∈(jA q).map (Sc.den A),u.oneCell'=aC:=by
 refine⟨?_,λu hu=>?_⟩
 .cases q with
  |one c=>
   have h4:Ij c=aC:=by simpa[jA] using h4
   show(Sc.den A c).cells.toList=[Sc.den A c];cases c with
   |v u=>
    have h4:u.oneCell'=aC:=h4;show u.cells.toList=[u];cases u<;>first|rfl|(simp[Value.oneCell'] at h4)
   |hd p q x=>cases h4
   |_=>rfl
  |agg ds=>rfl
  |vt ps=>exact(h5 ps rfl).elim
 obtain⟨c,hc,rfl⟩:=bz.1 hu;have:=bG.1 h4 c hc;cases c<;>first|exact this|rfl|cases this
theorem Py (H:kW o n A S F s r a w){op:bf}{t:aV}{x y:bu}{p q:Sy}{out:Out}(ho:op.op= .store t x y)(hx:a.eval x=p.den A)(hy:a.eval y=q.den A)(hq:q.all F/\q.lu A)
  (h:(storeT P t p q).run s r=az out) {K:Act->aN->Prop} {Q:Exit->Act->aN->Prop} (k:∀v w',nI o n F s r a out v w'->K (a.put op.dst v) w'):op.wp P a w K Q:=by
 unfold storeT at h;split at h
 .rename_i j off;obtain⟨z,hz,h⟩:=jI h;split at h
  .rename_i bt cs;obtain⟨hg,h⟩:=jt h;simp only[bB] at hg;obtain⟨⟨⟨⟨h1,h2⟩,h3⟩,h4⟩,h5⟩:=hg;have h1:=anC h1;have h2:=j9 h2;have e:=jH h;subst e;have hm:jL A r j=az (Rs.of (.box (A.b j) bt (cs.map (Sc.den A)))):=by show(r j).map _=_;rw[hz];rfl
   have hb:w.heap[A.b j]?=az (.cells (cs.map (Sc.den A)).toArray bt (0,0)):=H.jM.ok j _ hm;obtain⟨inf,CG⟩:=bS.1 h3;obtain⟨AJ,Xi⟩:=CF (A:=A) h4 (λps e=>by subst e;cases h5);have kT:=x9 (P:=P) w t bt (A.b j) off (cs.map (Sc.den A)) ((jA q).map (Sc.den A)) (q.den A) hb AJ (by simpa using h1) (by rw[CG];simp only[cN,bH];simp only[aoH,CG,cN,eV] at h2;rw[h2]) Xi;have hx:a.eval x= .pointer (az ⟨A.b j,off,aA⟩):=hx;have e2:(aG a.eval op).run P w= .ok .skip (w.setRow (A.b j) ((cs.map (Sc.den A)).take off++(jA q).map (Sc.den A)++(cs.map (Sc.den A)).drop (off+((jA q).map (Sc.den A)).length)).toArray):=by
    simp only[aG,ho,bw,hx,hy,kT];rfl
   have yB:((cs.map (Sc.den A)).take off++(jA q).map (Sc.den A)++(cs.map (Sc.den A)).drop (off+((jA q).map (Sc.den A)).length))=(cs.take off++jA q++cs.drop (off+(jA q).length)).map (Sc.den A):=by
    rw[cA,cA,aoR,List.map_drop,bH]
   rw[yB] at e2;unfold Oper.wp;rw[e2];refine k aL _ ?_;have hr:=H.lq j _ hz;have hgb:w.grownBy (w.setRow (A.b j) ((cs.take off++jA q++cs.drop (off+(jA q).length)).map (Sc.den A)).toArray) (az (A.b j)):=⟨rfl,rfl,rfl,by simp,λk _ hk=>setRow_other w (A.b j) k _ (λe=>hk (by rw[e]))⟩;have hf1:=H.jM.mut j hm (rE.of hgb);have lU:=H.jM.own j _ (A.b j) hm rfl;have hf2:=hf1.put j (Rs.of (.box (A.b j) bt ((cs.take off++jA q++cs.drop (off+(jA q).length)).map (Sc.den A)))) (setRow_heap w (A.b j) _ _ bt _ hb) (λb' rN=>by
    cases rN;refine⟨lU.1,by simpa using lU.2.1,lU.2.2,λi ri hi QZ e=>?_⟩;unfold oH at QZ;rw[aP hi] at QZ;exact hi (H.jM.apart i j ri _ (A.b j) QZ hm e rfl))
   have Mu:oH (oH (jL A r) j aA) j (az (Rs.of (.box (A.b j) bt ((cs.take off++jA q++cs.drop (off+(jA q).length)).map (Sc.den A)))))=oH (jL A r) j (az (Rs.of (.box (A.b j) bt ((cs.take off++jA q++cs.drop (off+(jA q).length)).map (Sc.den A))))):=by
    funext i;unfold oH;split<;>rfl
   rw[Mu] at hf2;have yd:∀c∈cs.take off++jA q++cs.drop (off+(jA q).length),c.all F/\c.lu A:=by
    intro c hc;rcases bE.1 hc with hc|hc
    .rcases bE.1 hc with hc|hc
     .exact⟨hr.2.1 c (dQ hc),hr.2.2 c (dQ hc)⟩
     cases q with
     |one c'=>have:=aU.1 hc;subst this;exact hq
     |agg ds=>exact⟨hq.1 c hc,hq.2 c hc⟩
     |vt ps=>cases hc
    exact⟨hr.2.1 c (anB hc),hr.2.2 c (anB hc)⟩
   have H2:=kW.Rh H j (az (.box bt (cs.take off++jA q++cs.drop (off+(jA q).length)))) (λz Bw=>by cases Bw;exact⟨hr.1,λc hc=>(yd c hc).1,λc hc=>(yd c hc).2⟩) (λz e=>by cases e;trivial) hf2;exact⟨A,S,H2.agree (lQ.refl _ _) λ_ h=>.inl h,rfl,tv,tv⟩
  cases h
 cases h
end
section
variable {P:aY}{o:jO}{n:ah}{A A':jU}{S S' T:jv}{F G:ah->Prop}{s:ah->ai E2}{r:ah->ai R2}{a:Act}{w w':aN}{C:aa (ah×ak)}{b:ah}
theorem Xj {α:Type}{u v a b:aa α}{off k:ah}(h:off+k<=a.length)(e:u=a.take off++v++a.drop (off+k)):u++b=(a++b).take off++v++(a++b).drop (off+k):=by
 grind
theorem Uh {α:Type}{u v a b:aa α}{off m k:ah}(h:a.length+m=off)(e:u=b.take m++v++b.drop (m+k)):a++u=(a++b).take off++v++(a++b).drop (off+k):=by
 subst h;rw[e,List.take_append,List.drop_append,dI (l:=a) (i:=a.length+m) (by omega),List.drop_of_length_le (l:=a) (i:=a.length+m+k) (by omega),dK]
 grind
theorem CH:∀ {t:Ty} {off:ah} {t':Ty} {v:El t'} {x u:El t},setAt t off t' v x=az u->off+jD t'<=jD t/\jT t u=(jT t x).take off++jT t' v++(jT t x).drop (off+jD t'):=by
 have whole:∀ {t t':Ty} {off:ah} {v:El t'} {x u:El t},wholeAt t off v=az u->off+jD t'<=jD t/\jT t u=(jT t x).take off++jT t' v++(jT t x).drop (off+jD t'):=λ{t t' off v x u} h=>by
  cases off with
  |succ _=>cases h
  |zero=>
  obtain⟨e,h⟩:=ni h;subst e;have h:v=u:=h;subst h;exact⟨by omega,by rw[List.take_zero,dK,cZ,<-mV t' x,List.drop_length,bW]⟩
 intro t
 induction t with
 |pair p q ihp ihq=>
  intro off t' v x u h;simp only[setAt] at h;split at h
  .rename_i y hy;cases h;exact whole hy
  split at h
  .rename_i rG;have rG:off<jD p:=by simpa using cw▸rG
   obtain⟨y,hy,rfl⟩:=bF.1 h;obtain⟨k1,k2⟩:=ihp hy;refine⟨by show _<=jD p+jD q;omega,?_⟩;show jT p y++jT q x.2=(jT p x.1++jT q x.2).take off++jT t' v++(jT p x.1++jT q x.2).drop (off+jD t');exact Xj (by rw[mV];omega) k2
  rename_i rG;have rG:¬off<jD p:=λq=>by rw[<-cw] at q;rw[q] at rG;cases rG
  obtain⟨y,hy,rfl⟩:=bF.1 h;obtain⟨k1,k2⟩:=ihq hy;refine⟨by show _<=jD p+jD q;omega,?_⟩;show jT p x.1++jT q y=(jT p x.1++jT q x.2).take off++jT t' v++(jT p x.1++jT q x.2).drop (off+jD t');exact Uh (by rw[mV];omega) k2
 |int=>intro off t' v x u h;exact whole h
 |bool=>intro off t' v x u h;exact whole h
 |str=>intro off t' v x u h;exact whole h
 |unit=>intro off t' v x u h;exact whole h
 |list _ _=>intro off t' v x u h;exact whole h
 |map _ _ _=>intro off t' v x u h;exact whole h
 |ptr _ _=>intro off t' v x u h;exact whole h
theorem abS {ty t':Ty}{xs us:aa aO}{l:aa (El ty)}{i off:ah}{v:El t'}{u:El ty}(h:kR S w xs l)(hi:i<l.length)(hu:kQ S w us (jT t' v))(hs:setAt ty off t' v (l.getD i (Bd ty))=az u):
  kR S w (xs.take (i*jD ty+off)++us++xs.drop (i*jD ty+off+us.length)) (l.set i u):=by
 obtain⟨k1,k2⟩:=CH hs;have hul:us.length=jD t':=by rw[hu.len,mV]
 have MC:xs.length=l.length*jD ty:=by rw[h.1,<-lZ]
 have Ui:(i+1)*jD ty<=xs.length:=by rw[MC];exact cm _ hi
 rw[cL] at Ui;refine⟨by rw[bA,bA,bJ,b9,cq,<-lZ,<-MC];omega,λj hj=>?_⟩;rw[cq] at hj;rw[<-lZ];have hold:=h.2 j hj;rw[<-lZ] at hold;have alC:(j+1)*jD ty<=xs.length:=by rw[MC];exact cm _ hj
 rw[cL] at alC
 by_cases e:j=i
 .subst e;rw[List.getElem_set_self];have:=vT xs us (j*jD ty) off (jD ty) Ui (by omega);rw[this];have hx:l.getD j (Bd ty)=l[j]'hi:=by rw[bD,bN hi];rfl
  rw[hx] at k2;refine Eg ty ?_;rw[k2,hul];have hc:=rD ty hold;exact((hc.take off).append hu).append (hc.drop _)
 rw[List.getElem_set_ne (λq=>e q.symm)];have he:((xs.take (i*jD ty+off)++us++xs.drop (i*jD ty+off+us.length)).drop (j*jD ty)).take (jD ty)=(xs.drop (j*jD ty)).take (jD ty):=by
  apply aow;intro q;rw[cE,cE];split
  .rename_i hq;rw[cI,cI];rcases Nat.lt_or_gt_of_ne e with rG|hgt
   .have:=cm (jD ty) (show j+1<=i from rG);rw[cL] at this;rw[cx,eY (by rw[bJ];omega),cE,aQ (by omega)]
   have:=cm (jD ty) (show i+1<=j from hgt);rw[cL] at this;rw[dP (by rw[bA,bJ];omega),cI]
   congr 1
   rw[bA,bJ];omega
  rfl
 rw[he];exact hold
theorem kQ.keep {w w':aN}(hk:nC S w w'):∀ {vs:aa aO} {cs:aa uT},kQ S w vs cs->kQ S w' vs cs
 |[],[],_=>trivial
 |_::_,_::_,h=>⟨h.1.keep hk,h.2.keep hk⟩
 |[],_::_,h=>h.elim
 |_::_,[],h=>h.elim
theorem oM.as {e:aV}{k k' m m':ah}{v:aO}{xs:aa aO}(h:oM w e k v m xs)(e1:k=k')(e2:m=m'):oM w e k' v m' xs:=by grind
theorem alD {re:aa (ah×ai R2)}{j:ah}(h:(re.all λp=>!Nat.beq p.1 j)=aC):¬ ∃x,(j,x)∈re:=λ⟨x,hx⟩=>by
 have:=bG.1 h _ hx;simp at this
theorem FU.mono {re re':aa (ah×ai R2)}(h:∀p∈re,p∈re'){j:ah}(q:FU F re j):FU F re' j:=q.imp id λ⟨x,hx⟩=>⟨x,h _ hx⟩
theorem Fo {t:aV}{x y:bu}{op:bf}(ho:op.op= .store t x y){g d:ah}{u:aO}(hx:a.eval x= .pointer (az ⟨g,d,aA⟩))(hy:a.eval y=u)(hr:(Instr.storeAt t (.pointer (az ⟨g,d,aA⟩)) u).run P w= .ok () w'):(aG a.eval op).run P w= .ok .skip w':=by
 simp only[aG,ho,bw,hx,hy,hr];rfl
theorem DC {t:aV}{k:ah}(h1:P.cellsOf t=k)(h2:(P.info? t).isSome=aC):(P.info? t).map (·.size)=az k:=by
 obtain⟨inf,CG⟩:=bS.1 h2;rw[CG];simp only[cN];simp only[aoH,CG,cN,eV] at h1;rw[h1]
theorem MD (H:kW o n A S F s r a w){op:bf}{t:aV}{x y:bu}{j:ah}{i:af}{sz off:ah}{q:Sy}{e:aV}{ty Ik:Ty}{l:aa (El ty)}{out:Out}(ho:op.op= .store t x y)(hx:a.eval x=(Sc.el j i sz off).den A)(hy:a.eval y=q.den A)(hj:r j=az (.row e ty l))
  (hg:(bp (jD ty) sz && (bp (P.cellsOf t) (jD Ik) && ((P.info? t).isSome && (jA q).all Ij)) && bP 0 (jD Ik))=aC)
  (h:(WQ (jA q) λre=>jK (re.all λp=>!Nat.beq p.1 j) (rZ Ik q λv=>
   match setAt ty off Ik v (l.getD i.toNat (Bd ty)) with
   |some u=>.ret ⟨[j8 i l.length],[],.one (.v aL),(j,az (.row e ty (l.set i.toNat u)))::re⟩
   |none=>.fail)).run s r=az out) (kO:∀p∈out.cs,p) {K:Act->aN->Prop} {Q:Exit->Act->aN->Prop} (k:∀v w',nI o n F s r a out v w'->K (a.put op.dst v) w'):op.wp P a w K Q:=by
 simp only[bB] at hg;obtain⟨⟨g1,g2,g3,g4⟩,g5⟩:=hg;have g1:=j9 g1;have g2:=j9 g2;have g5:0<jD Ik:=by simpa using cw▸g5
 obtain⟨re,hz,hl,h⟩:=vG _ _ h;obtain⟨S',hS,H'⟩:=H.freeze hz;obtain⟨DZ,h⟩:=jt h;obtain⟨v,hv,aiU,h⟩:=xJ (wF H hz hS H' hl) h;split at h
 .rename_i u hu;have e:=jH h;subst e;obtain⟨h0,h1⟩:j8 i l.length:=kO _ (aU.2 rfl);have hi:i.toNat<l.length:=by omega
  have Wg:jB r re j=az (.row e ty l):=by rw[qt (alD DZ)];exact hj
  have hm:jL A (jB r re) j=az (yF e (A.v j) l):=by show(jB r re j).map _=_;rw[Wg];rfl
  obtain⟨xs,hd,hR⟩:mI S' w e (A.v j) l:=H'.jM.ok j _ hm;obtain⟨hv1,hv2⟩:=CF (A:=A) g4 aiU;have hlen:((jA q).map (Sc.den A)).length=jD Ik:=by rw[Data.len hv,lZ]
  obtain⟨k1,_⟩:=CH hu;have Ui:(i.toNat+1)*jD ty<=l.length*jD ty:=cm _ hi;rw[cL] at Ui;rw[<-lZ] at hd;obtain⟨w',kT,hd',hG,oC⟩:=W5 (P:=P) (t:=t) (c:=i.toNat*jD ty+off) hd hv1 (by omega) (by omega) (by rw[hlen];exact DC g2 g3) hv2;have hx:a.eval x= .pointer (az ⟨OP (A.v j),OQ (A.v j)+(i.toNat*jD ty+off),aA⟩):=by
   rw[hx,<-dz,g1];rfl
  have e2:=Fo (P:=P) ho hx hy kT;unfold Oper.wp;rw[e2];refine k aL _ ?_;have rB:rE w w' (oD A (jB r re) λc=>c=j):=(rE.of hG).mono λc hc=>⟨j,_,rfl,Wg,hc⟩;have hk:=H'.Io rB;have H2:=H'.swap (lQ.refl _ _) (re:=[(j,az (.row e ty (l.set i.toNat u)))]) (S':=S') (λc=>c=j) (λc hc=>by rw[show c=j from hc];exact⟨_,aU.2 rfl⟩) rB (λ_ q=>q) (λ_ q=>.inl q) (λc z hz=>by
   cases aU.1 hz;refine⟨tv,tv,rfl,⟨_,hd'.as (lZ ty) cq.symm,abS (hR.keep hk) hi ((rD Ik hv).keep hk) hu⟩,λc hc=>?_⟩;have hk:oD A (jB r re) (λi=>i=j) c:=⟨j,_,rfl,Wg,hc⟩;exact⟨.inl hk,by rw[oC];exact(H'.sX hk).2.1⟩) (λc d zc zd b h1 h2 _ _=>by
   cases aU.1 h1;cases aU.1 h2;rfl)
  refine⟨A,S',H2.agree (lQ.refl _ _) λc hc=>?_,rfl,tv,tv⟩;exact FU.mono (λp hp=>by rw[aU.1 hp];exact aZ) hc
 cases h
theorem Iq {t:Ty}{x0:uT}:∀ {l:aa (El t)} {i off:ah} {u:El t},i<l.length->off<jD t->jT t u=(jT t (l.getD i (Bd t))).set off x0->oW t (l.set i u)=(oW t l).set (i*jD t+off) x0
 |y::l,0,off,u,_,ho,h=>by
  show jT t u++oW t l=(jT t y++oW t l).set (0*jD t+off) x0;have h:jT t u=(jT t y).set off x0:=h;rw[dG,cZ,List.set_append_left _ _ (by rw[mV];exact ho),h]
 |y::l,i+1,off,u,hi,ho,h=>by
  show jT t y++oW t (l.set i u)=(jT t y++oW t l).set ((i+1)*jD t+off) x0;have ih:=Iq (l:=l) (i:=i) (u:=u) (by simpa using hi) ho h;rw[ih,cL,List.set_append_right _ _ (by rw[mV];omega),mV]
  congr 2;omega
theorem Rp {α:Type}{xs:aa α}{c:ah}{u:α}(h:c<xs.length):xs.take c++[u]++xs.drop (c+1)=xs.set c u:=by
 grind [List.set_eq_take_append_cons_drop,cx]
theorem Uj (H:kW o n A S F s r a w){cell:ai uT}{ie:aV}{k:(t':Ty)->El t'->aa ah->Tr Out}{q:Sy}{out:Out}(h:(Rn P cell ie k q).run s r=az out):
  ∃t' v ks x0 c,(k t' v ks).run s r=az out/\q= .one c/\Ij c=aC/\(jD t'=1->jT t' v=[x0])/\Aa S w ie (c.den A) x0/\(∀i∈ks,∃x,r i=az x)/\(∀b,(c.den A).ownBlock=az b->oD A r (λi=>i∈ks) b)/\(∀i∈ks,∀x,r i=az x->∀b,(x.den A i).has b->(c.den A).ownBlock=az b):=by
 unfold Rn at h;split at h
 .rename_i i;obtain⟨z,hz,h⟩:=jI h;split at h
  .rename_i Hq ty m;obtain⟨hg,h2⟩:=jt h;clear h;have:=j9 hg;subst this;have hm:jL A r i=az (yF Hq (A.v i) m):=by show(r i).map _=_;rw[hz];rfl
   refine⟨_,_,_,.l ty m,.own i,h2,rfl,rfl,λ_=>rfl,H.jM.ok i _ hm,λi' hi=>?_,λb hb=>⟨i,_,aU.2 rfl,hz,hb⟩,λi' hi x hx b hb=>?_⟩
   .rw[aU.1 hi];exact⟨_,hz⟩
   have:=aU.1 hi;subst this;rw[hz] at hx;cases hx;exact hb
  cases h
 .split at h
  .rename_i ty _;exact⟨_,_,_,.l ty ([]:aa (El ty)),.v (.slice aA 0 0),h,rfl,rfl,λ_=>rfl,mI.nil,λ_ q=>(by cases q),λb q=>(by cases q),λ_ q=>(by cases q)⟩
  cases h
 .rename_i m;exact⟨_,_,_,.i m,_,h,rfl,rfl,λ_=>rfl,⟨rfl,rfl⟩,λ_ q=>(by cases q),λb q=>(by cases q),λ_ q=>(by cases q)⟩
 .rename_i m;exact⟨_,_,_,.b m.den,_,h,rfl,rfl,λ_=>rfl,⟨rfl,rfl⟩,λ_ q=>(by cases q),λb q=>(by cases q),λ_ q=>(by cases q)⟩
 .rename_i m;exact⟨_,_,_,.s m,_,h,rfl,rfl,λ_=>rfl,⟨rfl,rfl⟩,λ_ q=>(by cases q),λb q=>(by cases q),λ_ q=>(by cases q)⟩
 cases h
theorem J4 {B:ah}(H:kW o n A S F s r a w)(hF:∀j,b<=j->j<B->¬F j){op:bf}{t:aV}{x y:bu}{j:ah}{i:af}{sz off:ah}{q:Sy}{qf:ah}{hh:ai ah}{e ie:aV}{ty:Ty}{l:aa (El ty)}{out:Out}(ho:op.op= .store t x y)(hx:a.eval x=(Sc.el j i sz off).den A)(hy:a.eval y=q.den A)(hj:r j=az (.ext (.nest qf hh e ty ie l)))
  (h:(Rn P ((jT ty (l.getD i.toNat (Bd ty)))[off]?) ie (λt' v ks=>match setAt ty off t' v (l.getD i.toNat (Bd ty)) with
   |some u=>jK (bp (jD ty) sz && (bp (P.cellsOf t) 1 && (bp (jD t') 1 && ((P.info? t).isSome && ks.all λk=>!Nat.beq k j))))
    (.ret ⟨[j8 i l.length,Il hh (i.toNat*sz+off)],[],.one (.v aL),(j,az (.ext (.nest b aA e ty ie (l.set i.toNat u))))::(b,aA)::ks.map λk=>(k,aA)⟩)
   |none=>.fail) q).run s r=az out) (kO:∀p∈out.cs,p) (hB:∀p∈out.re,p.1<B) {K:Act->aN->Prop} {Q:Exit->Act->aN->Prop} (k:∀v w',nI o n F s r a out v w'->K (a.put op.dst v) w'):op.wp P a w K Q:=by
 classical
 obtain⟨t',v,ks,x0,c,h2,hq,Xi,alE,hO,Xk,VM,anj⟩:=Uj H h;clear h;subst hq;split at h2
 .rename_i u hu;obtain⟨hg,h⟩:=jt h2;clear h2;simp only[bB] at hg;have⟨g1,g2,g3,g4,g5⟩:=hg;have g1:=j9 g1;have g2:=j9 g2;have g3:=j9 g3;have e0:=jH h;subst e0;obtain⟨h0,h1⟩:j8 i l.length:=kO _ aZ;have hho:Il hh (i.toNat*sz+off):=kO _ (bl _ aZ);have zu:¬F b:=hF b (aW _) (hB (b,aA) (bl _ aZ));subst g1;have hi:i.toNat<l.length:=by omega
  obtain⟨k1,k2⟩:=CH hu;rw[g3] at k1 k2;rw[alE g3] at k2;have abP:off<jD ty:=by omega
  rw[Rp (by rw[mV];exact abP)] at k2;have Ri:=Iq (t:=ty) hi abP k2;generalize J2:i.toNat*jD ty+off=cc at hho Ri;have Ui:(i.toNat+1)*jD ty<=l.length*jD ty:=cm _ hi;rw[cL] at Ui;have Xl:cc<l.length*jD ty:=by omega
  have hm:jL A r j=az ((X2.nest qf hh e ty ie l).den A j):=by show(r j).map _=_;rw[hj];rfl
  have hN:ot S w (A.v j) (A.f qf) hh e ty ie l:=H.jM.ok j _ hm;have⟨xs,n1,n2,n3⟩:=hN.row;have Xm:((c.den A).cells.toList=[c.den A])/\(c.den A).oneCell'=aC:=by
   obtain⟨z1,z2⟩:=CF (A:=A) (q:=.one c) (by simp[jA,Xi]) (λps q=>by cases q);exact⟨z1,z2 _ (by simp[jA])⟩
  obtain⟨w',kT,hd',hG,oC⟩:=W5 (P:=P) (t:=t) (c:=cc) n1 Xm.1 (by simp;omega) (by simp) (by simpa using DC g2 g4) (by simpa using Xm.2);have hx:a.eval x= .pointer (az ⟨OP (A.v j),OQ (A.v j)+cc,aA⟩):=by
   rw[hx,<-J2,<-dz];rfl
  have e2:=Fo (P:=P) ho hx hy kT;unfold Oper.wp;rw[show(aG a.eval op).run P w=_ from e2];refine k aL _ ?_;have MC:xs.length=l.length*jD ty:=n1.1;simp only[List.length_singleton] at hd';rw[Rp (by omega)] at hd'
  let g:Lit->aO:=λx=>if x=ix cc then c.den A else A.f qf x
  have gc:g (ix cc)=c.den A:=aQ rfl;have gn:∀d,d≠cc->g (ix d)=A.f qf (ix d):=λd hd=>aP λq=>hd (af8 q);have Dt:lQ F A (A.ox b g):=lQ.ox zu g;have hjF:=(H.lq j _ hj).1;have hvj:(A.ox b g).v j=A.v j:=((Dt j hjF).1).symm
  let K:ah->Prop:=λc=>c=j\/c∈ks
  have hjK:∀bb,(A.v j).ownBlock=az bb->oD A r K bb:=λbb hb=>⟨j,_,.inl rfl,hj,.inl hb⟩;have hnh:∀d bb,d<l.length*jD ty->d≠cc->(A.f qf (ix d)).ownBlock=az bb->((R2.ext (.nest qf hh e ty ie l)).den A j).has bb:=λd bb hd qD hb=>by
   refine .inr ⟨d,hd,λq=>?_,hb⟩;subst q;exact qD hho
  have qD:∀d,d≠cc->hh≠az d:=λd hd q=>by subst q;exact hd hho
  have hkK:∀bb,(c.den A).ownBlock=az bb->oD A r K bb:=λbb hb=>let⟨i,x,h1,h2,h3⟩:=VM bb hb;⟨i,x,.inr h1,h2,h3⟩
  have Ww:∀bb,(c.den A).ownBlock=az bb->((R2.ext (.nest qf hh e ty ie l)).den A j).has bb->False:=λbb hb G3=>by
   obtain⟨i,x,h1,h2,h3⟩:=VM bb hb;have:=H.jM.apart i j _ _ bb (show jL A r i=az (x.den A i) by simp[jL,h2]) hm h3 G3;subst this;have:=bG.1 g5 _ h1;simp at this
  have rB:rE w w' (oD A r K):=(rE.of hG).mono λbb hb=>hjK bb hb;have hk:=H.Io rB;have uk:∀bb,((R2.ext (.nest qf hh e ty ie l)).den A j).has bb->(A.v j).ownBlock≠az bb->w'.heap[bb]?=w.heap[bb]?:=λbb hb qD=>hG.block bb (H.jM.own j _ bb hm hb).2.1 λz=>qD z.symm;have hH2:=H.swap Dt (re:=(j,az (.ext (.nest b aA e ty ie (l.set i.toNat u))))::(b,aA)::ks.map λk=>(k,aA)) (S':=S) K (λd hd=>by
   rcases hd with rfl|hd
   .exact⟨_,aZ⟩
   exact⟨aA,bl _ (bl _ (bz.2 ⟨d,hd,rfl⟩))⟩) rB (λ_ q=>q) (λ_ q=>.inl q) (λd z hz=>?_) (λd d' z z' bb h1 h2 _ _=>?_)
  .refine⟨_,S,hH2,rfl,tv,tv⟩
  .have hz:(d,az z)=(j,az (.ext (.nest b aA e ty ie (l.set i.toNat u)))):=by
    rcases bg.1 hz with hz|hz
    .exact hz
    rcases bg.1 hz with hz|hz
    .cases hz
    obtain⟨_,_,q⟩:=bz.1 hz;cases q
   cases hz;have hlen:(l.set i.toNat u).length=l.length:=cq;refine⟨.inr ⟨aA,bl _ aZ⟩,tv,rfl,?_,λbb hb=>?_⟩
   .show ot S w' ((A.ox b g).v j) ((A.ox b g).f b) aA e ty ie (l.set i.toNat u);rw[hvj,jU.tZ];refine⟨⟨xs.set cc (c.den A),by rw[hlen];exact hd',λu' hu'=>?_,λd x hdx _=>?_⟩,λd1 d2 bb h1 h2 _ _ h3 h4=>?_,λd bb h1 _ h3=>?_⟩
    .rcases List.mem_or_eq_of_mem_set hu' with q|rfl
     .exact n2 u' q
     exact Xm.2
    .rw[Ri] at hdx
     by_cases q:d=cc
     .subst q;rw[aq4 (by rw[nK];exact Xl)] at hdx;cases hdx;rw[gc,aq4 (by omega)];refine⟨rfl,hO.keep hk λbb hb=>?_⟩;exact hG.block bb (H.sX (hkK bb hb)).2.1 λq=>Ww bb hb (.inl q.symm)
     rw[aq5 (λz=>q z.symm)] at hdx;rw[gn d q,aq5 (λz=>q z.symm)];obtain⟨m1,m2⟩:=n3 d x hdx (qD d q);refine⟨m1,m2.keep hk λbb hb=>?_⟩;have Ig:=(cF.1 hdx).1;rw[nK] at Ig;exact uk bb (hnh d bb Ig q hb) λz=>hN.out d bb Ig (qD d q) hb z
    .rw[hlen] at h1 h2
     by_cases q1:d1=cc<;>by_cases q2:d2=cc
     .rw[q1,q2]
     .subst q1;rw[gc] at h3;rw[gn d2 q2] at h4;exact(Ww bb h3 (hnh d2 bb h2 q2 h4)).elim
     .subst q2;rw[gc] at h4;rw[gn d1 q1] at h3;exact(Ww bb h4 (hnh d1 bb h1 q1 h3)).elim
     rw[gn d1 q1] at h3;rw[gn d2 q2] at h4;exact hN.inj d1 d2 bb h1 h2 (qD d1 q1) (qD d2 q2) h3 h4
    rw[hlen] at h1
    by_cases q:d=cc
    .subst q;rw[gc] at h3;exact λz=>Ww bb h3 (.inl z)
    rw[gn d q] at h3;exact hN.out d bb h1 (qD d q) h3
   have hb:(((A.ox b g).v j).ownBlock=az bb)\/∃d,d<(l.set i.toNat u).length*jD ty/\aA≠az d/\(((A.ox b g).f b) (ix d)).ownBlock=az bb:=hb;have vS:oD A r K bb:=by
    rcases hb with hb|⟨d,hd,_,hb⟩
    .rw[hvj] at hb;exact hjK bb hb
    rw[jU.tZ] at hb;rw[hlen] at hd
    by_cases q:d=cc
    .subst q;rw[gc] at hb;exact hkK bb hb
    rw[gn d q] at hb;exact⟨j,_,.inl rfl,hj,hnh d bb hd q hb⟩
   exact⟨.inl vS,by rw[oC];exact(H.sX vS).2.1⟩
  have key:∀ {d:ah} {z:R2},(d,az z)∈(j,az (.ext (.nest b aA e ty ie (l.set i.toNat u))))::(b,aA)::(ks.map λk=>(k,(aA:ai R2)))->d=j:=λhz=>by
   rcases bg.1 hz with hz|hz
   .cases hz;rfl
   rcases bg.1 hz with hz|hz
   .cases hz
   obtain⟨_,_,q⟩:=bz.1 hz;cases q
  rw[key h1,key h2]
 cases h2
theorem J5 {B:ah}(H:kW o n A S F s r a w)(hF:∀j,b<=j->j<B->¬F j){op:bf}{t:aV}{x y:bu}{p q:Sy}{out:Out}(ho:op.op= .store t x y)(hx:a.eval x=p.den A)(hy:a.eval y=q.den A)(hq:q.all F/\q.lu A)
  (h:(JY P b t p q).run s r=az out) (kO:∀p∈out.cs,p) (hB:∀p∈out.re,p.1<B) {K:Act->aN->Prop} {Q:Exit->Act->aN->Prop} (k:∀v w',nI o n F s r a out v w'->K (a.put op.dst v) w'):op.wp P a w K Q:=by
 unfold JY at h;split at h
 .unfold Mv at h;obtain⟨R,hR,h⟩:=jI h;split at h
  .split at h
   .obtain⟨hg,h⟩:=jt h;exact MD H ho hx hy hR hg h kO k
   cases h
  .exact J4 H hF ho hx hy hR h kO hB k
  cases h
 exact Py H ho hx hy hq h k
end
section
variable {P:aY}{o:jO}{n:ah}{A A':jU}{S S' T:jv}{F G:ah->Prop}{s:ah->ai E2}{r:ah->ai R2}{a:Act}{w w':aN}{C:aa (ah×ak)}{b:ah}
theorem ME (H:kW o n A S F s r a w){j qf:ah}{hh:ai ah}{e ie:aV}{ty:Ty}{l:aa (El ty)}(hj:r j=az (.ext (.nest qf hh e ty ie l))):ot S w (A.v j) (A.f qf) hh e ty ie l:=
 H.jM.ok j ((X2.nest qf hh e ty ie l).den A j) (by show(r j).map _=_;rw[hj];rfl)
theorem Uk (t:Ty)(l m:aa (El t)):oW t (l++m)=oW t l++oW t m:=List.flatMap_append
theorem abT (H:kW o n A S F s r a w)(hF:¬F b){t e:aV}{ty:Ty}{bytes:ah}(E:G8 P t e (jD ty) bytes)(G4:bytes<=1000){ie:aV}{l m:aa (El ty)}{v:aO}{old:ai ah}
  (hold:match old with
   |some j=>v=A.v j/\∃qf,r j=az (.ext (.nest qf aA e ty ie l))
   |none=>v= .slice aA 0 0/\l=[])
  {i qi:ah} {e':aV} (hi:r i=az (.ext (.nest qi aA e' ty ie m))) (qD:old≠az i) (hlen:l.length+m.length<=2147483647) (rty:aV):
  ∃v' w',(anz #[t,t] rty #[v,A.v i]).run P w= .ok v' w'/\∃A',kW o n A' S (FU F ((b,az (.ext (.nest b aA e ty ie (l++m))))::(old.toList.map (λj=>(j,aA))++[(i,aA)]))) s (jB r ((b,az (.ext (.nest b aA e ty ie (l++m))))::(old.toList.map (λj=>(j,aA))++[(i,aA)]))) a w'/\v'=A'.v b:=by
 have hNi:=ME H hi;have⟨ys,i1,i2,i3⟩:=hNi.row;obtain⟨f0,xs,x1,x2,x3,MF,qH,hKl⟩:∃f0:Lit->aO,∃xs,oM w e (jD ty) v l.length xs/\(∀u∈xs,u.oneCell'=aC)/\(∀c x,(oW ty l)[c]?=az x->xs[c]?=az (f0 (ix c))/\Aa S w ie (f0 (ix c)) x)/\
   (∀c d bb,c<l.length*jD ty->d<l.length*jD ty->(f0 (ix c)).ownBlock=az bb->(f0 (ix d)).ownBlock=az bb->c=d)/\(∀c bb,c<l.length*jD ty->(f0 (ix c)).ownBlock=az bb->v.ownBlock≠az bb)/\
   (∀bb,(v.ownBlock=az bb\/∃c,c<l.length*jD ty/\(f0 (ix c)).ownBlock=az bb)->∃j x,old=az j/\r j=az x/\(x.den A j).has bb):=by
  cases old with
  |some j=>
   obtain⟨rfl,qf,hj⟩:=hold;have hN:=ME H hj;have⟨xs,n1,n2,n3⟩:=hN.row;refine⟨A.f qf,xs,n1,n2,λc x hc=>n3 c x hc (by simp),λc d bb h1 h2=>hN.inj c d bb h1 h2 (by simp) (by simp),λc bb h1=>hN.out c bb h1 (by simp),λbb hb=>⟨j,_,rfl,hj,?_⟩⟩;rcases hb with hb|⟨c,h1,h2⟩
   .exact .inl hb
   exact .inr ⟨c,h1,by simp,h2⟩
  |none=>
   obtain⟨rfl,rfl⟩:=hold;refine⟨λ_=>aL,[],oM.nil w e _,λ_ q=>(by cases q),λc x hc=>by simp[oW] at hc,λc d bb h1=>by simp at h1,λc bb h1=>by simp at h1,λbb hb=>?_⟩;rcases hb with hb|⟨c,h1,_⟩
   .cases hb
   simp at h1
 have Pz:∀bb,(v.ownBlock=az bb\/∃c,c<l.length*jD ty/\(f0 (ix c)).ownBlock=az bb)->∀c,c<m.length*jD ty->(A.f qi (ix c)).ownBlock=az bb->False:=λbb hb c hc h2=>by
  obtain⟨j,x,q1,q2,q3⟩:=hKl bb hb;have:=H.jM.apart j i _ _ bb (show jL A r j=az (x.den A j) by simp[jL,q2]) (show jL A r i=az ((R2.ext (.nest qi aA e' ty ie m)).den A i) by simp[jL,hi]) q3 (.inr ⟨c,hc,by simp,h2⟩);subst this;exact qD q1
 obtain⟨v',w',hr,k1,k2,k3⟩:=Rk (ty:=rty) E x1 (Pw E.under i1 i2) (by simp only[maxLen];omega) (by have:=aoL hlen G4;omega);refine⟨v',w',hr,?_⟩;have⟨p',c',V5,_⟩:=k1.slice
 let g:Lit->aO:=λx=>match x with
  | .int _ z=>if z<(l.length*jD ty:ah) then f0 x else A.f qi (ix (z-(l.length*jD ty:ah)).toNat)
  |_=>aL
 have g1:∀c,c<l.length*jD ty->g (ix c)=f0 (ix c):=λc hc=>by
  show(if((c:af)<(l.length*jD ty:ah)) then _ else _)=_;rw[aQ (by omega)]
 have g2:∀c,l.length*jD ty<=c->g (ix c)=A.f qi (ix (c-l.length*jD ty)):=λc hc=>by
  show(if((c:af)<(l.length*jD ty:ah)) then _ else _)=_;rw[aP (by omega)]
  congr 2;omega
 have Dt:lQ F A ((A.set b p' (l.length+m.length) c' 0).ox b g):=(lQ.set hF _ _ _ _).trans (lQ.ox hF g);have LP:((A.set b p' (l.length+m.length) c' 0).ox b g).v b=v':=by rw[V5];exact jU.tL A b p' (l.length+m.length) c' 0
 let K:ah->Prop:=λc=>old=az c\/c=i
 have hl:∀bb,(v.ownBlock=az bb\/∃c,c<l.length*jD ty/\(f0 (ix c)).ownBlock=az bb)->oD A r K bb:=λbb hb=>let⟨j,x,q1,q2,q3⟩:=hKl bb hb;⟨j,x,.inl q1,q2,q3⟩
 have hm:∀bb c,c<m.length*jD ty->(A.f qi (ix c)).ownBlock=az bb->oD A r K bb:=λbb c h1 h2=>⟨i,_,.inr rfl,hi,.inr ⟨c,h1,by simp,h2⟩⟩;have rB:rE w w' (oD A r K):=(rE.of k2).mono λbb hb=>hl bb (.inl hb);have hk:=H.Io rB;have yt:∀ {d:ah} {z:R2},(d,az z)∈(b,az (.ext (.nest b aA e ty ie (l++m))))::(old.toList.map (λj=>(j,(aA:ai R2)))++[(i,aA)])->(d,az z)=(b,az (.ext (.nest b aA e ty ie (l++m)))):=λhz=>by
  rcases bg.1 hz with hz|hz
  .exact hz
  rcases bE.1 hz with hz|hz
  .obtain⟨_,_,q⟩:=bz.1 hz;cases q
  cases aU.1 hz
 have Ug:(l++m).length*jD ty=l.length*jD ty+m.length*jD ty:=by rw[bA,cB]
 have TX:∀c bb,c<(l++m).length*jD ty->(g (ix c)).ownBlock=az bb->oD A r K bb/\v.ownBlock≠az bb:=λc bb hc hb=>by
  rw[Ug] at hc
  by_cases q:c<l.length*jD ty
  .rw[g1 c q] at hb;exact⟨hl bb (.inr ⟨c,q,hb⟩),qH c bb q hb⟩
  rw[g2 c (by omega)] at hb;exact⟨hm bb _ (by omega) hb,λz=>Pz bb (.inl z) _ (by omega) hb⟩
 have hstay:∀c bb,c<(l++m).length*jD ty->(g (ix c)).ownBlock=az bb->w'.heap[bb]?=w.heap[bb]?:=λc bb hc hb=>by
  obtain⟨q1,q2⟩:=TX c bb hc hb;exact k2.block bb (H.sX q1).2.1 λz=>q2 z.symm
 refine⟨(A.set b p' (l.length+m.length) c' 0).ox b g,H.swap Dt (S':=S) K (λd hd=>⟨aA,?_⟩) rB (λ_ q=>q) (λ_ q=>.inl q) (λd z hz=>?_) (λd d' z z' bb h1 h2 _ _=>?_),LP.symm⟩
 .rcases hd with hd|rfl
  .exact bl _ (bU _ (bz.2 ⟨d,by rw[hd];simp,rfl⟩))
  exact bl _ (bV _ (aU.2 rfl))
 .cases yt hz;refine⟨.inr ⟨_,aZ⟩,tv,rfl,?_,λbb hb=>?_⟩
  .show ot S w' (((A.set b p' (l.length+m.length) c' 0).ox b g).v b) (((A.set b p' (l.length+m.length) c' 0).ox b g).f b) aA e ty ie (l++m);rw[LP,jU.tZ];refine⟨⟨xs++ys,by rw[bA];exact k1,λu hu=>(bE.1 hu).elim (x2 u) (i2 u),λc x hc _=>?_⟩,λc d bb h1 h2 _ _ h3 h4=>?_,λc bb h1 _ h3 h4=>?_⟩
   .have Xl:=(cF.1 hc).1;rw[nK] at Xl;rw[Uk] at hc;have G9:=hstay c
    by_cases q:c<l.length*jD ty
    .rw[eY (by rw[nK];exact q)] at hc;obtain⟨m1,m2⟩:=x3 c x hc;rw[eY (by rw[x1.1];exact q)];rw[g1 c q] at G9 ⊢;exact⟨m1,m2.keep hk λbb hb=>G9 bb Xl hb⟩
    rw[dP (by rw[nK];omega),nK] at hc;obtain⟨m1,m2⟩:=i3 _ x hc (by simp);rw[dP (by rw[x1.1];omega),x1.1];rw[g2 c (by omega)] at G9 ⊢;exact⟨m1,m2.keep hk λbb hb=>G9 bb Xl hb⟩
   .rw[Ug] at h1 h2
    by_cases q1:c<l.length*jD ty<;>by_cases q2:d<l.length*jD ty
    .rw[g1 c q1] at h3;rw[g1 d q2] at h4;exact MF c d bb q1 q2 h3 h4
    .rw[g1 c q1] at h3;rw[g2 d (by omega)] at h4;exact(Pz bb (.inr ⟨c,q1,h3⟩) _ (by omega) h4).elim
    .rw[g2 c (by omega)] at h3;rw[g1 d q2] at h4;exact(Pz bb (.inr ⟨d,q2,h4⟩) _ (by omega) h3).elim
    rw[g2 c (by omega)] at h3;rw[g2 d (by omega)] at h4;have:=hNi.inj _ _ bb (by omega) (by omega) (by simp) (by simp) h3 h4;omega
   obtain⟨q1,q2⟩:=TX c bb h1 h3;rcases k3 bb h4 with q|q
   .exact q2 q
   have:=(H.sX q1).2.1;omega
  have hb:(((A.set b p' (l.length+m.length) c' 0).ox b g).v b).ownBlock=az bb\/∃d,d<(l++m).length*jD ty/\aA≠az d/\((((A.set b p' (l.length+m.length) c' 0).ox b g).f b) (ix d)).ownBlock=az bb:=hb;rcases hb with hb|⟨d,hd,_,hb⟩
  .rw[LP] at hb;rcases k3 bb hb with q|q
   .have:=hl bb (.inl q);exact⟨.inl this,bR (H.sX this).2.1 k2.size⟩
   exact⟨.inr q.1,q.2⟩
  rw[jU.tZ] at hb;have:=(TX d bb hd hb).1;exact⟨.inl this,bR (H.sX this).2.1 k2.size⟩
 cases yt h1;cases yt h2;rfl
theorem Xn {ie:aV}{x:uT}{c:Sc}(h:W9 x c=aC)(hc:uU T w (c.den A) x):(∀i,c≠.own i)/\Aa S w ie (c.den A) x/\(c.den A).oneCell'=aC/\∀bb,(c.den A).ownBlock≠az bb:=by
 unfold W9 at h;split at h
 .rename_i t l;have hl:l=[]:=by
   obtain⟨p,cc,e,_⟩:=qA (lz (show Rd T w (.slice aA 0 0) l from hc));injection e with _ e2 _
   exact cH e2.symm
  subst hl;exact⟨(λi q=>by cases q),mI.nil,rfl,λbb q=>by cases q⟩
 .exact⟨(λi q=>by cases q),⟨hc,rfl⟩,rfl,λbb q=>by cases q⟩
 .exact⟨(λi q=>by cases q),⟨hc,rfl⟩,rfl,λbb q=>by cases q⟩
 .exact⟨(λi q=>by cases q),⟨hc,rfl⟩,rfl,λbb q=>by cases q⟩
 cases h
theorem Ul (H:kW o n A S F s r a w){ie:aV}:∀ {cs:aa uT} {l:aa Sc} {k:aa Prop->aa ah->Tr Out} {out:Out},(Mw ie cs l k).run s r=az out->kQ T w (l.map (Sc.den A)) cs->
  ∃ps ks,(k ps ks).run s r=az out/\((∀p∈ps,p)->(∀i∈ks,∃x,r i=az x)/\(∀(d:ah) (x:uT) (c:Sc),cs[d]?=az x->l[d]?=az c->Aa S w ie (c.den A) x/\(c.den A).oneCell'=aC/\∀bb,(c.den A).ownBlock=az bb->∃i x,c= .own i/\i∈ks/\r i=az x/\(x.den A i).has bb))/\
   (∀(d i:ah),l[d]?=az (Sc.own i)->i∈ks)/\∀(d d' i:ah),l[d]?=az (Sc.own i)->l[d']?=az (Sc.own i)->d=d':=by
 intro cs
 induction cs with
 |nil=>
  intro l k out h hc;cases l with
  |nil=>exact⟨[],[],h,λ_=>⟨λ_ q=>(by cases q),λd x c q=>by simp at q⟩,λd i q=>by simp at q,λd d' i q=>by simp at q⟩
  |cons _ _=>cases h
 |cons x cs ih=>
  intro l k out h hc;cases l with
  |nil=>cases h
  |cons c l=>
   have Ho:uU T w (c.den A) x:=hc.1;simp only[Mw] at h;split at h
   .rename_i i;split at h
    .rename_i t' l';obtain⟨z,hz,h⟩:=jI h;split at h
     .rename_i Hq ty m;split at h
      .rename_i m' hm;obtain⟨hg,h⟩:=jt h;have:=j9 hg;subst this;obtain⟨e,OT⟩:=ni hm;have e:ty=t':=by injection e
       subst e;have OT:m=m':=OT;subst OT;obtain⟨ps,ks,q1,q2,q5,q4⟩:=ih h hc.2;obtain⟨hg2,q1⟩:=jt q1;have hO:mI S w Hq (A.v i) m:=H.jM.ok i (yF Hq (A.v i) m) (by show(r i).map _=_;rw[hz];rfl);have Be:∀(d:ah),l[d]?=az (Sc.own i)->False:=λd hd=>by
        have:=bG.1 hg2 _ (q5 d i hd);simp at this
       refine⟨_,i::ks,q1,λhp=>?_,λd i' e1=>?_,λd d' i' e1 e2=>?_⟩
       .have OU:m=l':=hp _ aZ;subst OU;obtain⟨q2,q3⟩:=q2 λp hpp=>hp p (bl _ hpp);refine⟨λi' Cx=>?_,λd x' c' e1 e2=>?_⟩
        .rcases bg.1 Cx with rfl|Cx
         .exact⟨_,hz⟩
         exact q2 i' Cx
        cases d with
        |zero=>
         simp only[an0,cr] at e1 e2;subst e1;subst e2;exact⟨hO,rfl,λbb hb=>⟨i,_,rfl,aZ,hz,hb⟩⟩
        |succ d=>
         simp only[an1] at e1 e2;obtain⟨z1,z2,z3⟩:=q3 d x' c' e1 e2;exact⟨z1,z2,λbb hb=>let⟨i',x,y1,y2,y3⟩:=z3 bb hb;⟨i',x,y1,bl _ y2,y3⟩⟩
       .cases d with
        |zero=>simp only[an0,cr,Sc.own.injEq] at e1;subst e1;exact aZ
        |succ d=>simp only[an1] at e1;exact bl _ (q5 d i' e1)
       cases d with
       |zero=>
        cases d' with
        |zero=>rfl
        |succ d'=>
         simp only[an0,an1,cr,Sc.own.injEq] at e1 e2;subst e1;exact(Be d' e2).elim
       |succ d=>
        cases d' with
        |zero=>
         simp only[an0,an1,cr,Sc.own.injEq] at e1 e2;subst e2;exact(Be d e1).elim
        |succ d'=>simp only[an1] at e1 e2;rw[q4 d d' i' e1 e2]
      cases h
     cases h
    cases h
   obtain⟨hf,h⟩:=jt h;obtain⟨qD,hO,h1,Be⟩:=Xn (ie:=ie) (S:=S) hf Ho;obtain⟨ps,ks,q1,q2,q5,q4⟩:=ih h hc.2;refine⟨ps,ks,q1,λhp=>?_,λd i e1=>?_,λd d' i e1 e2=>?_⟩
   .obtain⟨q2,q3⟩:=q2 hp;refine⟨q2,λd x' c' e1 e2=>?_⟩;cases d with
    |zero=>
     simp only[an0,cr] at e1 e2;subst e1;subst e2;exact⟨hO,h1,λbb hb=>(Be bb hb).elim⟩
    |succ d=>simp only[an1] at e1 e2;exact q3 d x' c' e1 e2
   .cases d with
    |zero=>simp only[an0,cr] at e1;exact(qD i e1).elim
    |succ d=>simp only[an1] at e1;exact q5 d i e1
   cases d with
   |zero=>simp only[an0,cr] at e1;exact(qD i e1).elim
   |succ d=>
    cases d' with
    |zero=>simp only[an0,cr] at e2;exact(qD i e2).elim
    |succ d'=>simp only[an1] at e1 e2;rw[q4 d d' i e1 e2]
theorem abU {op:bf}{t len:ah}{parts:aq (ah×bu)}{ys:aa Sy}(ho:op.op= .buildSlice t len parts)(mg:parts.toList.map (λp=>a.eval p.2)=ys.map (Sy.den A)){u:aO}
  (kT:(Fg P t len (P.elem t) ((parts.toList.map (·.1)).zip ys) (ys.flatMap jA)).lhs A w= .ok u w'):(aG a.eval op).run P w= .ok (.value u) w':=by
 simp only[Fg] at kT;have ep:parts.map (λx=>(x.1,a.eval x.2))=(((parts.toList.map (·.1)).zip ys).map λy=>(y.1,y.2.den A)).toArray:=by
  apply cJ;rw[dZ];show _=((parts.toList.map (·.1)).zip ys).map λy=>(y.1,y.2.den A);have:(((parts.toList.map (·.1)).zip ys).map λy=>(y.1,y.2.den A))=(parts.toList.map (·.1)).zip (ys.map (Sy.den A)):=by
   rw[ap2];rfl
  rw[this,<-mg,ap3]
 rw[<-ep] at kT;simp only[aG,ho,bw];rw[show(aph (λx=>match x with|(i,x)=>(i,a.eval x)) parts)=parts.map (λx=>(x.1,a.eval x.2)) from rfl,kT];rfl
theorem Um {B:ah}(H:kW o n A S F s r a w)(hF:∀j,b<=j->j<B->¬F j){op:bf}{t len:ah}{parts:aq (ah×bu)}{ys:aa Sy}{md:ak}{out:Out}(ho:op.op= .buildSlice t len parts)(mg:parts.toList.map (λp=>a.eval p.2)=ys.map (Sy.den A)) 
  (h:(Xa P md b t len (parts.toList.map (·.1)) ys).run s r=az out) (kO:∀p∈out.cs,p) (qG:∀h∈out.hs,∀A w,h.lhs A w=h.rhs A w) (hB:∀p∈out.re,p.1<B)
  {K:Act->aN->Prop} {Q:Exit->Act->aN->Prop} (k:∀v w',nI o n F s r a out v w'->K (a.put op.dst v) w'):op.wp P a w K Q:=by
 classical
 cases md with
 |false=>exact Xh H hF ho mg h qG hB k
 |true=>
  simp only[Xa] at h;split at h
  .rename_i ty ie hty hie;obtain⟨hg,h⟩:=jt h;simp only[bB] at hg;obtain⟨⟨hr,⟨uB,rI⟩,hel⟩,hle⟩:=hg;have uB:=j9 uB;have rI:=j9 rI;have hle:=anC hle;obtain⟨l,Ug,pX,Ff,h⟩:=yO (T:=(· <w.heap.size)) (λc _ j _=>CB H j) h;obtain⟨ps,ks,h,q1,q2,q3⟩:=Ul H h Ff;have e:=jH h;subst e;obtain⟨q4,q5⟩:=q1 kO;have kT:=qG _ (aU.2 rfl) A w;have e2:=abU (P:=P) (w:=w) ho mg (kT.trans rfl);refine kD e2 (k _ _ ?_);have hlen:l.length=len:=by rw[Ug,rI]
   have zu:¬F b:=hF b (aW _) (hB _ aZ);generalize ank:ys.flatMap jA=cl at*
   let g:Lit->aO:=λx=>match x with
    | .int _ z=>(cl.map (Sc.den A)).getD z.toNat aL
    |_=>aL
   have hg:∀d c,cl[d]?=az c->g (ix d)=c.den A:=λd c hc=>by
    show(cl.map (Sc.den A)).getD (d:af).toNat aL=_;rw[Int.toNat_natCast,bD,cY,hc];rfl
   have Dt:lQ F A ((A.set b (az ⟨w.heap.size,0,aA⟩) len len 0).ox b g):=(lQ.set zu _ _ _ _).trans (lQ.ox zu g);have LP:((A.set b (az ⟨w.heap.size,0,aA⟩) len len 0).ox b g).v b= .slice (az ⟨w.heap.size,0,aA⟩) len len:=jU.tL A b (az ⟨w.heap.size,0,aA⟩) len len 0
   let K:ah->Prop:=λc=>c∈ks
   have PA:cl.length=l.length*jD ty:=by
    have:=Ff.len;rw[bH,nK] at this;exact this
   have wC:∀d,d<l.length*jD ty->∃c x,cl[d]?=az c/\(oW ty l)[d]?=az x:=λd hd=>⟨cl[d],(oW ty l)[d]'(by rw[nK];exact hd),bN (by omega),bN (by rw[nK];exact hd)⟩;have lU:∀d bb,d<l.length*jD ty->(g (ix d)).ownBlock=az bb->∃i x,cl[d]?=az (.own i)/\i∈ks/\r i=az x/\(x.den A i).has bb:=λd bb hd hb=>by
    obtain⟨c,x,hc,hx⟩:=wC d hd;rw[hg d c hc] at hb;obtain⟨_,_,z⟩:=q5 d x c hx hc;obtain⟨i,y,y1,y2,y3,y4⟩:=z bb hb;exact⟨i,y,by rw[hc,y1],y2,y3,y4⟩
   have Hr:∀d bb,d<l.length*jD ty->(g (ix d)).ownBlock=az bb->oD A r K bb:=λd bb hd hb=>let⟨i,x,_,y2,y3,y4⟩:=lU d bb hd hb;⟨i,x,y2,y3,y4⟩
   have rB:rE w (w.alloc (.cells (cl.map (Sc.den A)).toArray (P.elem t))) (oD A r K):=(rE.below (H:=λ_=>False) (qC w _)).mono λ_ q=>q.elim;have hk:=H.Io rB;have yt:∀ {d:ah} {z:R2},(d,az z)∈(b,az (.ext (.nest b aA (P.elem t) ty ie l)))::(ks.map λk=>(k,(aA:ai R2)))->(d,az z)=(b,az (.ext (.nest b aA (P.elem t) ty ie l))):=λhz=>by
    rcases bg.1 hz with hz|hz
    .exact hz
    obtain⟨_,_,q⟩:=bz.1 hz;cases q
   refine⟨(A.set b (az ⟨w.heap.size,0,aA⟩) len len 0).ox b g,S,H.swap Dt (S':=S) K (λd hd=>⟨aA,bl _ (bz.2 ⟨d,hd,rfl⟩)⟩) rB (λ_ q=>q) (λ_ q=>.inl q) (λd z hz=>?_) (λd d' z z' bb h1 h2 _ _=>by cases yt h1;cases yt h2;rfl),LP.symm,.inr ⟨_,aZ⟩,tv⟩;cases yt hz;refine⟨.inr ⟨_,aZ⟩,tv,rfl,?_,λbb hb=>?_⟩
   .show ot S _ (((A.set b (az ⟨w.heap.size,0,aA⟩) len len 0).ox b g).v b) (((A.set b (az ⟨w.heap.size,0,aA⟩) len len 0).ox b g).f b) aA (P.elem t) ty ie l;rw[LP,jU.tZ];refine⟨⟨cl.map (Sc.den A),⟨by rw[bH,PA],.inr ⟨w.heap.size,0,len,_,by rw[dG,hlen],heap_alloc_new w _,by omega,by simp only[maxLen];omega,by simp[PA,hlen],?_⟩⟩,λu hu=>?_,λd x hd _=>?_⟩,λc d bb h1 h2 _ _ h3 h4=>?_,λc bb h1 _ h3 h4=>?_⟩
    .rw[dG,List.drop_zero,<-PA,aq1,<-bH (f:=Sc.den A),cg]
    .obtain⟨c,hc,rfl⟩:=bz.1 hu;obtain⟨d,hd⟩:=anw.1 hc;have Ig:=(cF.1 hd).1;obtain⟨_,x,_,hx⟩:=wC d (by omega);exact(q5 d x c hx hd).2.1
    .have Ig:=(cF.1 hd).1;rw[nK] at Ig;obtain⟨c,_,hc,_⟩:=wC d Ig;obtain⟨z1,_,_⟩:=q5 d x c hd hc;rw[hg d c hc];refine⟨by rw[cY,hc];rfl,z1.keep hk λbb hb=>?_⟩;exact heap_alloc_old w _ (H.sX (Hr d bb Ig (by rw[hg d c hc];exact hb))).2.1
    .obtain⟨i,x,y1,y2,y3,y4⟩:=lU c bb h1 h3;obtain⟨i',x',z1,z2,z3,z4⟩:=lU d bb h2 h4;have:=H.jM.apart i i' _ _ bb (show jL A r i=az (x.den A i) by simp[jL,y3]) (show jL A r i'=az (x'.den A i') by simp[jL,z3]) y4 z4;subst this;exact q3 c d i y1 z1
    have:=(H.sX (Hr c bb h1 h3)).2.1;cases h4;exact Nat.lt_irrefl _ this
   have hb:(((A.set b (az ⟨w.heap.size,0,aA⟩) len len 0).ox b g).v b).ownBlock=az bb\/∃d,d<l.length*jD ty/\aA≠az d/\((((A.set b (az ⟨w.heap.size,0,aA⟩) len len 0).ox b g).f b) (ix d)).ownBlock=az bb:=hb;rcases hb with hb|⟨d,hd,_,hb⟩
   .rw[LP] at hb;cases hb;exact⟨.inr (aW _),by simp⟩
   rw[jU.tZ] at hb;have:=Hr d bb hd hb;exact⟨.inl this,bR (H.sX this).2.1 rB.size⟩
  cases h
end
section
variable {P:aY}{o:jO}{n:ah}{A A':jU}{S S' T:jv}{F G:ah->Prop}{s:ah->ai E2}{r:ah->ai R2}{a:Act}{w w':aN}{C:aa (ah×ak)}{b:ah}
theorem abV (H:kW o n A S F s r a w)(hF:¬F b){j qf:ah}{kc:Kc}{hh:ai (ko kc)}{ty:Ty}{ie:aV}{m:jw kc (aa (El ty))}(hj:r j=az (.ext (.mj qf kc hh ty ie m))){kx:ko kc}(hho:DA hh kx)
  {t kt et:aV} (hu:P.underlying t=az (.map kt et)) (hk:P.underlying kt=az (qV kc)) (hw:nv kc kx) (hlen:(show aa (ko kc×aa (El ty)) from m).length<=2147483647) {v:aO} {l:aa (El ty)} (hO:mI S w ie v l)
  {ks:aa ah} (qD:∀i∈ks,i≠j) (Xk:∀c,v.ownBlock=az c->oD A r (λi=>i∈ks) c):
  ∃w',(Instr.mapUpdate t (.map (A.m j)) (pn kc kx) v).run P w= .ok () w'/\∃A',lQ F A A'/\kW o n A' S (FU F ((j,az (.ext (.mj b kc aA ty ie (nG (show aa (ko kc×aa (El ty)) from m) kx l))))::(b,aA)::ks.map λi=>(i,aA))) s (jB r ((j,az (.ext (.mj b kc aA ty ie (nG (show aa (ko kc×aa (El ty)) from m) kx l))))::(b,aA)::ks.map λi=>(i,aA))) a w':=by
 classical
 have hm:jL A r j=az ((X2.mj qf kc hh ty ie m).den A j):=by show(r j).map _=_;rw[hj];rfl
 obtain⟨oN,hb,N⟩:∃oN,A.m j=az oN/\xE S w oN (A.f qf) hh ie m:=H.jM.ok j _ hm;have⟨zs,n1,n2,n3⟩:=N.map;obtain⟨w',kT,LM,hG,oC⟩:=n1.put hu hk (by rw[bH];rw[n2] at hlen;simpa using hlen) hw v;refine⟨w',by rw[hb];exact kT,?_⟩
 let g:Lit->aO:=λx=>if x=mD kc kx then v else A.f qf x
 have gc:g (mD kc kx)=v:=aQ rfl;have gn:∀y,y≠kx->g (mD kc y)=A.f qf (mD kc y):=λy hy=>aP λq=>hy (Mb kc q);have Dt:lQ F A (A.ox b g):=lQ.ox hF g
 let K:ah->Prop:=λc=>c=j\/c∈ks
 have D3:∀y,y≠kx->hh≠az y:=λy hy q=>by subst q;exact hy hho
 have hvK:∀c,v.ownBlock=az c->oD A r K c:=λc hc=>let⟨i,x,h1,h2,h3⟩:=Xk c hc;⟨i,x,.inr h1,h2,h3⟩
 have hoK:∀y c,y≠kx->(A.f qf (mD kc y)).ownBlock=az c->oD A r K c:=λy c hy hc=>⟨j,_,.inl rfl,hj,.inr ⟨y,D3 y hy,hc⟩⟩;have hbK:oD A r K oN:=⟨j,_,.inl rfl,hj,.inl hb⟩;have Ww:∀c,v.ownBlock=az c->((R2.ext (.mj qf kc hh ty ie m)).den A j).has c->False:=λc hc h2=>by
  obtain⟨i,x,h3,h4,h5⟩:=Xk c hc;exact qD i h3 (H.jM.apart i j _ _ c (show jL A r i=az (x.den A i) by simp[jL,h4]) hm h5 h2)
 have rB:rE w w' (oD A r K):=(rE.of hG).mono λc hc=>by
  have hc:az oN=az c:=hc;cases hc;exact hbK
 have hkS:=H.Io rB;have hstay:∀c,c≠oN->oD A r K c->w'.heap[c]?=w.heap[c]?:=λc hc hK=>hG.block c (H.sX hK).2.1 λq=>hc (by cases q;rfl);have yt:∀ {d:ah} {z:R2},(d,az z)∈(j,az (.ext (.mj b kc aA ty ie (nG (show aa (ko kc×aa (El ty)) from m) kx l))))::(b,aA)::(ks.map λi=>(i,(aA:ai R2)))->(d,az z)=(j,az (.ext (.mj b kc aA ty ie (nG (show aa (ko kc×aa (El ty)) from m) kx l)))):=λhz=>by
  rcases bg.1 hz with hz|hz
  .exact hz
  rcases bg.1 hz with hz|hz
  .cases hz
  obtain⟨_,_,q⟩:=bz.1 hz;cases q
 refine⟨A.ox b g,Dt,H.swap Dt (S':=S) K (λd hd=>?_) rB (λ_ q=>q) (λ_ q=>.inl q) (λd z hz=>?_) (λd d' z z' bb h1 h2 _ _=>by cases yt h1;cases yt h2;rfl)⟩
 .rcases hd with rfl|hd
  .exact⟨_,aZ⟩
  exact⟨aA,bl _ (bl _ (bz.2 ⟨d,hd,rfl⟩))⟩
 cases yt hz;refine⟨.inr ⟨aA,bl _ aZ⟩,tv,rfl,?_,λc hc=>?_⟩
 .show ∃bb,(A.ox b g).m j=az bb/\xE S w' bb ((A.ox b g).f b) aA ie (nG (show aa (ko kc×aa (El ty)) from m) kx l);rw[jU.tZ];refine⟨oN,hb,⟨nG zs kx (v,l),by rw[tK (λy:aO×aa (El ty)=>y.1)];exact LM,by rw[tK (λy:aO×aa (El ty)=>y.2),n2],λz hz _=>?_⟩,λy hy _=>?_,λx y c _ _ h1 h2=>?_,λx c _ h1 h2=>?_⟩
  .rcases yC.1 hz with rfl|⟨hz,abW⟩
   .exact⟨gc.symm,hO.keep hkS λc hc=>hstay c (λq=>by subst q;exact Ww _ hc (.inl hb)) (hvK c hc)⟩
   obtain⟨m1,m2⟩:=n3 z hz (D3 _ abW);refine⟨by rw[gn _ abW];exact m1,m2.keep hkS λc hc=>?_⟩;rw[m1] at hc;exact hstay c (λq=>N.out z.1 c (D3 _ abW) hc q) (hoK _ c abW hc)
  .rw[Cy] at hy;split at hy
   .cases hy
   rename_i hxy;rw[gn y λq=>hxy q.symm];exact N.non y hy (D3 y λq=>hxy q.symm)
  .by_cases q1:x=kx<;>by_cases q2:y=kx
   .rw[q1,q2]
   .subst q1;rw[gc] at h1;rw[gn y q2] at h2;exact(Ww c h1 (.inr ⟨y,D3 y q2,h2⟩)).elim
   .subst q2;rw[gc] at h2;rw[gn x q1] at h1;exact(Ww c h2 (.inr ⟨x,D3 x q1,h1⟩)).elim
   rw[gn x q1] at h1;rw[gn y q2] at h2;exact N.inj x y c (D3 x q1) (D3 y q2) h1 h2
  by_cases q:x=kx
  .subst q;rw[gc] at h1;subst h2;exact Ww _ h1 (.inl hb)
  rw[gn x q] at h1;exact N.out x c (D3 x q) h1 h2
 have hc:(A.ox b g).m j=az c\/∃x,aA≠az x/\(((A.ox b g).f b) (mD kc x)).ownBlock=az c:=hc;have vS:oD A r K c:=by
  rcases hc with hc|⟨x,_,hc⟩
  .have hc:A.m j=az c:=hc;rw[hb] at hc;cases hc;exact hbK
  rw[jU.tZ] at hc
  by_cases q:x=kx
  .subst q;rw[gc] at hc;exact hvK c hc
  rw[gn x q] at hc;exact hoK x c q hc
 exact⟨.inl vS,bR (H.sX vS).2.1 rB.size⟩
theorem Ir {B:ah}(H:kW o n A S F s r a w)(hF:∀j,b<=j->j<B->¬F j){op:bf}{t:aV}{m x y:bu}{p q z:Sy}{out:Out}(ho:op.op= .mapUpdate t m x y\/op.op= .insert t m x y)(hm:a.eval m=p.den A)(hx:a.eval x=q.den A)(hy:a.eval y=z.den A)
  (h:(Ro P b t p q z).run s r=az out) (kO:∀p∈out.cs,p) (hB:∀p∈out.re,p.1<B) {K:Act->aN->Prop} {Q:Exit->Act->aN->Prop} (k:∀v w',nI o n F s r a out v w'->K (a.put op.dst v) w'):op.wp P a w K Q:=by
 unfold Ro at h;split at h
 .rename_i kt et j hu;obtain⟨R,hR,h2⟩:=jI h;split at h2
  .rename_i qf kc hh ty ie mm;split at h2
   .rename_i kx WZ;obtain⟨hk,h3⟩:=jt h2;clear h2;have hk:=pN hk;have hq:q.den A=pn kc kx:=wG WZ;have fin:∀ {v:aO} {l:aa (El ty)} {ks:aa ah},mI S w ie v l->(∀i∈ks,i≠j)->(∀c,v.ownBlock=az c->oD A r (λi=>i∈ks) c)->a.eval y=v->
      out=⟨[nv kc kx,DA hh kx,(show aa (ko kc×aa (El ty)) from mm).length<=2147483647],[],.one (.v aL),(j,az (.ext (.mj b kc aA ty ie (nG (show aa (ko kc×aa (El ty)) from mm) kx l))))::(b,aA)::ks.map λi=>(i,aA)⟩->op.wp P a w K Q:=by
     intro v l ks hO h1 h2 hv e;subst e;obtain⟨w',kT,A',_,H2⟩:=abV (P:=P) H (hF b (aW _) (hB (b,aA) (bl _ aZ))) hR (kO _ (bl _ aZ)) hu hk (kO _ aZ) (kO _ (bl _ (bl _ aZ))) hO h1 h2;have Fm:(aG a.eval op).run P w= .ok .skip w':=by
      have hm:a.eval m= .map (A.m j):=hm;rcases ho with ho|ho<;>(simp only[aG,ho,bw,hm,hx,hv,hq,kT];rfl)
     unfold Oper.wp;rw[Fm];exact k aL _ ⟨A',S,H2,rfl,tv,tv⟩
    split at h3
    .rename_i i;obtain⟨Z,hZ,h3⟩:=jI h3;split at h3
     .rename_i Hq Ik l;split at h3
      .rename_i l' hl;obtain⟨hg,h4⟩:=jt h3;clear h3;rw[bB] at hg;have:=j9 hg.1;subst this;obtain⟨e,rI⟩:=ni hl;have e:Ik=ty:=by injection e
       subst e;have rI:l=l':=rI;subst rI;have e:=jH h4;refine fin (ks:=[i]) (H.jM.ok i (yF Hq (A.v i) l) (by show(r i).map _=_;rw[hZ];rfl)) (λi' Cx q=>?_) (λc hc=>⟨i,_,aU.2 rfl,hZ,hc⟩) hy e;rw[aU] at Cx;subst Cx;subst q;simp at hg
      cases h3
     cases h3
    .have e:=jH h3;exact fin (ks:=[]) mI.nil (λ_ q=>by cases q) (λc q=>by cases q) hy e
    cases h3
   cases h2
  exact Ud H ho tv hm hx hy h2 kO k
 cases h
theorem DD {B:ah}(H:kW o n A S F s r a w)(hF:∀j,b<=j->j<B->¬F j){op:bf}{t:aV}{x:ai bu}{md:ak}{out:Out}(ho:op.op= .makeMap t x)(hx:∀y,x=az y->∃k m,a.eval y= .int k m)
  (h:(zw P md b t).run s r=az out) (hB:∀p∈out.re,p.1<B) {K:Act->aN->Prop} {Q:Exit->Act->aN->Prop} (k:∀v w',nI o n F s r a out v w'->K (a.put op.dst v) w'):op.wp P a w K Q:=by
 cases md with
 |false=>exact Pp H hF ho hx h hB k
 |true=>
  simp only[zw] at h;split at h
  .rename_i kt et kc ty hu hc;split at h
   .rename_i ie hie;obtain⟨hk,h⟩:=jt h;have hk:=pN hk;have e:=jH h;subst e;have e2:(aG a.eval op).run P w= .ok (.value (.map (az w.heap.size))) (w.alloc (.map #[] 0)):=by
     cases x with
     |none=>
      simp only[aG,ho,bw,dN,run_makeMap];rfl
     |some y=>
      obtain⟨ik,m,hy⟩:=hx y rfl;simp[aG,ho,bw,cN,hy,Instr.makeMap,aH hu,asInt,asIntOf,newObj,cy,cM,bZ]
    have zu:=hF b (aW _) (hB _ (aU.2 rfl))
    let g:Lit->aO:=λ_=>.slice aA 0 0
    have Dt:lQ F A ((A.jB b (az w.heap.size)).ox b g):=(lQ.jB zu _).trans (lQ.ox zu g);have hm:((A.jB b (az w.heap.size)).ox b g).m b=az w.heap.size:=jU.E4 A b (az w.heap.size);have rB:rE w (w.alloc (.map #[] 0)) (oD A r λ_=>False):=(rE.below (H:=λ_=>False) (qC w _)).mono λ_ q=>q.elim;refine kD e2 (k _ _ ⟨(A.jB b (az w.heap.size)).ox b g,S,H.swap Dt (S':=S) (λ_=>False) (λ_ q=>q.elim) rB (λ_ q=>q) (λ_ q=>.inl q) (λd z hz=>?_) (λd d' z z' bb h1 h2 _ _=>by cases aU.1 h1;cases aU.1 h2;rfl),?_,.inr ⟨_,aU.2 rfl⟩,tv⟩)
    .cases aU.1 hz;refine⟨.inr ⟨_,aU.2 rfl⟩,tv,rfl,⟨w.heap.size,hm,?_⟩,λc hc=>?_⟩
     .rw[jU.tZ];exact⟨⟨[],nc.new w hk,rfl,λ_ q=>by cases q⟩,λx _ _=>rfl,λx y c _ _ q=>(by cases q),λx c _ q=>(by cases q)⟩
     rcases hc with hc|⟨x,_,hc⟩
     .have hc:((A.jB b (az w.heap.size)).ox b g).m b=az c:=hc;rw[hm] at hc;cases hc;exact⟨.inr (aW _),by simp⟩
     rw[jU.tZ] at hc;cases hc
    show _=Value.map (((A.jB b (az w.heap.size)).ox b g).m b);rw[hm]
   cases h
  cases h
theorem Is {α:Type 1}(H:kW o n A S F s r a w)(hC:oK a C){x:ai bu}{k:ai af->Tr α}{out:α}(h:(Mx C x k).run s r=az out):∃i,x.map a.eval=i.map (cj .i64)/\(k i).run s r=az out:=by
 cases x with
 |none=>exact⟨aA,rfl,h⟩
 |some x=>
  obtain⟨y,e1,e2,e3,h1⟩:=jE H hC h;clear h e2 e3;split at h1
  .rename_i m;exact⟨az m,by rw[cN,e1];rfl,h1⟩
  cases h1
def oI (i:ai af):ah:=(i.getD 0).toNat
def u5 (n:ah)(k:ai af):ah:=match k with
 |none=>n
 |some k=>k.toNat
theorem BA {n:ah}:∀ {i k:ai af},Bz n i k->oI i<=u5 n k/\u5 n k<=n
 |none,aA,_=>⟨bQ _,aW _⟩
 |some lo,aA,h=>by obtain⟨h1,h2⟩:0<=lo/\lo<=(n:af):=h;exact⟨by show lo.toNat<=n;omega,aW _⟩
 |none,az hi,h=>by obtain⟨h1,h2⟩:0<=hi/\hi<=(n:af):=h;exact⟨bQ _,by show hi.toNat<=n;omega⟩
 |some lo,az hi,h=>by obtain⟨h1,h2,h3⟩:0<=lo/\lo<=hi/\hi<=(n:af):=h;exact⟨by show lo.toNat<=hi.toNat;omega,by show hi.toNat<=n;omega⟩
theorem Ek {α:Type}{l:aa α}:∀ {i k:ai af},Bz l.length i k->Uf l i k=(l.drop (oI i)).take (u5 l.length k-oI i)
 |none,aA,_=>by show l=(l.drop 0).take (l.length-0);simp
 |some lo,aA,h=>by show l.drop lo.toNat=(l.drop lo.toNat).take (l.length-lo.toNat);rw[dI (by rw[b9];exact aW _)]
 |none,az hi,h=>by show l.take hi.toNat=(l.drop 0).take (hi.toNat-0);simp
 |some lo,az hi,h=>by show(l.take hi.toNat).drop lo.toNat=(l.drop lo.toNat).take (hi.toNat-lo.toNat);rw[List.drop_take]
theorem Xo {α:Type}{l:aa α}{i k:ai af}(h:Bz l.length i k):(Uf l i k).length=u5 l.length k-oI i:=by
 rw[Ek h,bJ,b9];have:=BA h;omega
theorem zz {t:aV}{size:ah}(ht:P.underlying t=az (.slice (P.elem t)))(hs:(P.info? (P.elem t)).map (·.size)=az size){base:ai Addr}{len cap:ah}(hlc:len<=cap){i k:ai af}(h:Bz len i k):
  (cX t (.slice base len cap) (i.map (cj .i64)) (k.map (cj .i64)) aA).run P w= .ok (sliced base (oI i) (u5 len k) cap size) w:=by
 obtain⟨inf,CG,rfl⟩:=bF.1 hs;have oC:(sizeOf (P.elem t)).run P w= .ok inf.size w:=by simp[sizeOf,typeInfo,CG]
 rw[run_sliceAt_slice w t _ _ _ _ ht]
 match i,k,h with
 |none,aA,h=>simp only[dN];rw[run_slice_all w t base len cap ht,oC];rfl
 |some lo,aA,h=>
  obtain⟨h1,h2⟩:0<=lo/\lo<=(len:af):=h;simp only[dN,cN];rw[run_slice_l w t base len cap ht .i64 lo h1 h2,oC];rfl
 |none,az hi,h=>
  obtain⟨h1,h2⟩:0<=hi/\hi<=(len:af):=h;simp only[dN,cN];rw[run_slice_h w t base len cap ht .i64 hi h1 (by omega),oC];rfl
 |some lo,az hi,h=>
  obtain⟨h1,h2,h3⟩:0<=lo/\lo<=hi/\hi<=(len:af):=h;simp only[cN];rw[run_slice_lh w t base len cap ht .i64 .i64 lo hi h1 h2 (by omega),oC];rfl
theorem AK {t:aV}{size:ah}(ht:P.underlying t=az (.slice (P.elem t)))(hs:(P.info? (P.elem t)).map (·.size)=az size){base:ai Addr}{len cap:ah}{h m:af}(h0:0<=h)(h1:h<=m)(h2:m.toNat<=cap):
  (cX t (.slice base len cap) aA (az (cj .i64 h)) (az (cj .i64 m))).run P w= .ok (sliced base 0 h.toNat m.toNat size) w:=by
 obtain⟨inf,CG,rfl⟩:=bF.1 hs;have oC:(sizeOf (P.elem t)).run P w= .ok inf.size w:=by simp[sizeOf,typeInfo,CG]
 rw[run_sliceAt_slice w t _ _ _ _ ht,run_slice_hm w t base len cap ht .i64 .i64 h m h0 h1 (by omega),oC];rfl
theorem Fp {α:Type}[Data α]{p:ai Addr}{len cap lo hi m:ah}{l:aa α}(h:ux T w (.slice p len cap) l)(h1:lo<=hi)(h2:hi<=l.length)(h3:hi<=m)(h4:m<=cap):ux T w (sliced p lo hi m (Data.size α)) ((l.drop lo).take (hi-lo)):=by
 have⟨p',c',e,k1,k2,k3⟩:=h;cases e;have hlen:((l.drop lo).take (hi-lo)).length=hi-lo:=by rw[bJ,b9];omega
 refine⟨_,m-lo,by unfold sliced;rw[hlen],by rw[hlen];omega,by omega,?_⟩;rcases k3 with rfl|⟨g,off,cur,t,fz,rfl,hg,hw,hc⟩
 .exact .inl (by simp)
 by_cases q:m=lo
 .exact .inl (cH (by rw[hlen];omega))
 refine .inr ⟨g,off+lo*Data.size α,cur,t,fz,by rw[aP q];simp[anW],hg,hw,λi rR=>?_⟩;rw[hlen] at rR;obtain⟨cs,q1,q2⟩:=hc (lo+i) (by omega);have e1:((l.drop lo).take (hi-lo))[i]'(by rw[hlen];exact rR)=l[lo+i]:=by simp
 refine⟨cs,by rw[e1];exact q1,λj hj=>?_⟩;rw[<-q2 j hj,cB]
 congr 1;omega
theorem MG {B:ah}(H:kW o n A S F s r a w)(hF:∀j,b<=j->j<B->¬F j){op:bf}{t:aV}{x:bu}{hi mx:bu}{p:Sy}{k' m':af}{out:Out}(ho:op.op= .slice t x aA (az hi) (az mx))(hx:a.eval x=p.den A)(hhi:a.eval hi= .int .i64 k')(hmx:a.eval mx= .int .i64 m')
  (h:(J0 P b t k' m' p).run s r=az out) (kO:∀p∈out.cs,p) (hB:∀p∈out.re,p.1<B) {K:Act->aN->Prop} {Q:Exit->Act->aN->Prop} (k:∀v w',nI o n F s r a out v w'->K (a.put op.dst v) w'):op.wp P a w K Q:=by
 have exec:∀ {u v:aO},a.eval x=u->(cX t u aA (az (cj .i64 k')) (az (cj .i64 m'))).run P w= .ok v w->(aG a.eval op).run P w= .ok (.value v) w:=by
  intro u v h1 h2;simp only[aG,ho,bw,h1,hhi,hmx,dN,cN,h2];rfl
 have elem:∀ {e e':aV} {ty:Ty},P.underlying t=az (.slice e)->qO P t e' (jD ty)=aC->P.underlying t=az (.slice (P.elem t))/\(P.info? (P.elem t)).map (·.size)=az (jD ty):=λ{e e' ty} hu hg=>by
  obtain⟨bytes,_,E⟩:=yN hg;have⟨inf,z,h1,h2,h3,_⟩:=E.info;have he:P.elem t=e':=by have:=E.under;simp[ap4,this]
  rw[he];exact⟨E.under,by rw[h1,cN,h3]⟩
 unfold J0 at h;split at h
 .rename_i j;split at h
  .rename_i e hu;obtain⟨R,hR,h⟩:=jI h;have hx:a.eval x=A.v j:=hx;split at h
   .rename_i e' ty l;obtain⟨hg,h⟩:=jt h;obtain⟨g1,g2⟩:=elem hu hg;have e0:=jH h;subst e0;obtain⟨u1,u2,u3⟩:0<=k'/\k'<=m'/\m'<=(aM l:af):=kO _ (aU.2 rfl);have c1:0<=k'.toNat:=bQ _;have c2:k'.toNat<=l.length:=by omega
    have c3:k'.toNat<=m'.toNat:=by omega
    have c4:m'.toNat<=l.length:=by omega
    have e9:l.take k'.toNat=(l.drop 0).take (k'.toNat-0):=by simp
    obtain⟨xs,hd,pX⟩:mI S w e' (A.v j) l:=H.jM.ok j (yF e' (A.v j) l) (by show(r j).map _=_;rw[hR];rfl);have⟨pp,cap,hv,VN,_⟩:=hd.slice;rw[hv] at hd hx;obtain⟨d1,d2⟩:=W8 hd c1 c2 c3 (bC c4 VN);have e2:=exec hx (AK (P:=P) (w:=w) g1 g2 (base:=pp) (len:=l.length) u1 u2 (show m'.toNat<=cap by omega));rw[<-lZ] at d1 d2;have zu:=hF b (aW _) (hB _ aZ);obtain⟨A',k1,k2⟩:=H.Ip (b:=b) (v:=A.v j) (v':=sliced pp 0 k'.toNat m'.toNat (jD ty)) (w':=w) (e:=e') (m:=l.take k'.toNat) (xs:=(xs.drop (0*jD ty)).take ((k'.toNat-0)*jD ty)) (old:=az (j,aA)) zu ⟨_,hR,λc hc=>hc,λz q=>by cases q⟩
     ⟨rfl,rfl,rfl,aW _,λ_ _ _=>rfl⟩ (by rw[e9,bJ,b9,<-lZ,Nat.min_eq_left (by omega)];exact d1) (λ_=>by rw[e9,lZ];exact Rc pX c1 c2) (λc hc=>.inl (by rw[hv];exact d2 c hc))
    exact kD e2 (k _ _ ⟨A',S,k1,k2,.inr ⟨_,aZ⟩,tv⟩)
   .rename_i ty l;obtain⟨hg,h⟩:=jt h;obtain⟨g1,g2⟩:=elem hu hg;have e0:=jH h;subst e0;obtain⟨u1,u2,u3⟩:0<=k'/\k'<=m'/\m'<=(aM l:af):=kO _ (aU.2 rfl);have c1:0<=k'.toNat:=bQ _;have c2:k'.toNat<=l.length:=by omega
    have c3:k'.toNat<=m'.toNat:=by omega
    have c4:m'.toNat<=l.length:=by omega
    have e9:l.take k'.toNat=(l.drop 0).take (k'.toNat-0):=by simp
    have pg:Rd S w (A.v j) l:=H.jM.ok j (Rs.of (@sD.ro (aa (El ty)) _ (A.v j) l)) (by show(r j).map _=_;rw[hR];rfl);obtain⟨pp,cap,hv,VN,_⟩:=qA (lz pg);rw[hv] at pg hx;have e2:=exec hx (AK (P:=P) (w:=w) g1 g2 (base:=pp) (len:=l.length) u1 u2 (show m'.toNat<=cap by omega));have yu:=tF (Fp (lz pg) c1 c2 c3 (bC c4 VN));rw[<-e9,<-lZ] at yu;have zu:=hF b (aW _) (hB _ aZ);have hs:sliced pp 0 k'.toNat m'.toNat (jD ty)=(A.set b (if m'.toNat=0 then pp else pp.map (·.add (0*jD ty))) (k'.toNat-0) (m'.toNat-0) 0).v b:=by rw[jU.tL];rfl
    refine kD e2 (k _ _ ⟨_,S,H.ro (b:=b) (lQ.set zu (if m'.toNat=0 then pp else pp.map (·.add (0*jD ty))) (k'.toNat-0) (m'.toNat-0) 0) ⟨aW _,⟨_,rfl,?_⟩,tv⟩,hs,.inr ⟨_,aZ⟩,tv⟩);show Rd S w (jU.v _ b) _;rw[<-hs];exact yu
   .rename_i ty l;obtain⟨hg,h⟩:=jt h;obtain⟨g1,g2⟩:=elem hu hg;have e0:=jH h;subst e0;obtain⟨u1,u2,u3⟩:0<=k'/\k'<=m'/\m'<=(aM l:af):=kO _ (aU.2 rfl);have c1:0<=k'.toNat:=bQ _;have c2:k'.toNat<=l.length:=by omega
    have c3:k'.toNat<=m'.toNat:=by omega
    have c4:m'.toNat<=l.length:=by omega
    have e9:l.take k'.toNat=(l.drop 0).take (k'.toNat-0):=by simp
    have pg:Rd o.old o.w (A.v j) l:=H.args j _ hR;obtain⟨pp,cap,hv,VN,_⟩:=qA (lz pg);rw[hv] at pg hx;have e2:=exec hx (AK (P:=P) (w:=w) g1 g2 (base:=pp) (len:=l.length) u1 u2 (show m'.toNat<=cap by omega));have yu:=tF (Fp (lz pg) c1 c2 c3 (bC c4 VN));rw[<-e9,<-lZ] at yu;have zu:=hF b (aW _) (hB _ aZ);have hs:sliced pp 0 k'.toNat m'.toNat (jD ty)=(A.set b (if m'.toNat=0 then pp else pp.map (·.add (0*jD ty))) (k'.toNat-0) (m'.toNat-0) 0).v b:=by rw[jU.tL];rfl
    refine kD e2 (k _ _ ⟨_,S,H.ro (b:=b) (lQ.set zu (if m'.toNat=0 then pp else pp.map (·.add (0*jD ty))) (k'.toNat-0) (m'.toNat-0) 0) ⟨aW _,⟨_,rfl,?_⟩,tv⟩,hs,.inr ⟨_,aZ⟩,tv⟩);show Rd o.old o.w (jU.v _ b) _;rw[<-hs];exact yu
   cases h
  cases h
 cases h
theorem PB {B:ah}(H:kW o n A S F s r a w)(hF:∀j,b<=j->j<B->¬F j){op:bf}{t:aV}{x:bu}{lo hi:ai bu}{p:Sy}{i k':ai af}{out:Out}(ho:op.op= .slice t x lo hi aA)(hx:a.eval x=p.den A)(hlo:lo.map a.eval=i.map (cj .i64))(hhi:hi.map a.eval=k'.map (cj .i64))
  (h:(JZ P b t i k' p).run s r=az out) (kO:∀p∈out.cs,p) (hB:∀p∈out.re,p.1<B) {K:Act->aN->Prop} {Q:Exit->Act->aN->Prop} (k:∀v w',nI o n F s r a out v w'->K (a.put op.dst v) w'):op.wp P a w K Q:=by
 have exec:∀ {u v:aO},a.eval x=u->(cX t u (i.map (cj .i64)) (k'.map (cj .i64)) aA).run P w= .ok v w->(aG a.eval op).run P w= .ok (.value v) w:=by
  intro u v h1 h2;simp only[aG,ho,bw,h1,hlo,hhi,dN,h2];rfl
 have elem:∀ {e e':aV} {ty:Ty},P.underlying t=az (.slice e)->qO P t e' (jD ty)=aC->P.underlying t=az (.slice (P.elem t))/\(P.info? (P.elem t)).map (·.size)=az (jD ty):=λ{e e' ty} hu hg=>by
  obtain⟨bytes,_,E⟩:=yN hg;have⟨inf,z,h1,h2,h3,_⟩:=E.info;have he:P.elem t=e':=by have:=E.under;simp[ap4,this]
  rw[he];exact⟨E.under,by rw[h1,cN,h3]⟩
 unfold JZ at h;split at h
 .rename_i j;split at h
  .rename_i e hu;obtain⟨R,hR,h⟩:=jI h;have hx:a.eval x=A.v j:=hx;split at h
   .rename_i e' ty l;obtain⟨hg,h⟩:=jt h;obtain⟨g1,g2⟩:=elem hu hg;have e0:=jH h;subst e0;have yP:Bz l.length i k':=kO _ (aU.2 rfl);obtain⟨c1,c2⟩:=BA yP;obtain⟨xs,hd,pX⟩:mI S w e' (A.v j) l:=H.jM.ok j (yF e' (A.v j) l) (by show(r j).map _=_;rw[hR];rfl);have⟨pp,cap,hv,VN,_⟩:=hd.slice;rw[hv] at hd hx;obtain⟨d1,d2⟩:=W8 hd c1 c2 (bC c2 VN) (aW _);have e2:=exec hx (zz (P:=P) (w:=w) g1 g2 VN yP);rw[<-lZ] at d1 d2;have zu:=hF b (aW _) (hB _ aZ);obtain⟨A',k1,k2⟩:=H.Ip (b:=b) (v:=A.v j) (v':=sliced pp (oI i) (u5 l.length k') cap (jD ty)) (w':=w) (e:=e') (m:=Uf l i k') (xs:=(xs.drop (oI i*jD ty)).take ((u5 l.length k'-oI i)*jD ty)) (old:=az (j,aA)) zu ⟨_,hR,λc hc=>hc,λz q=>by cases q⟩
     ⟨rfl,rfl,rfl,aW _,λ_ _ _=>rfl⟩ (by rw[Xo yP,<-lZ];exact d1) (λ_=>by rw[Ek yP,lZ];exact Rc pX c1 c2) (λc hc=>.inl (by rw[hv];exact d2 c hc))
    exact kD e2 (k _ _ ⟨A',S,k1,k2,.inr ⟨_,aZ⟩,tv⟩)
   .rename_i ty l;obtain⟨hg,h⟩:=jt h;obtain⟨g1,g2⟩:=elem hu hg;have e0:=jH h;subst e0;have yP:Bz l.length i k':=kO _ (aU.2 rfl);obtain⟨c1,c2⟩:=BA yP;have pg:Rd S w (A.v j) l:=H.jM.ok j (Rs.of (@sD.ro (aa (El ty)) _ (A.v j) l)) (by show(r j).map _=_;rw[hR];rfl);obtain⟨pp,cap,hv,VN,_⟩:=qA (lz pg);rw[hv] at pg hx;have e2:=exec hx (zz (P:=P) (w:=w) g1 g2 VN yP);have yu:=tF (H9 (lz pg) c1 c2);rw[<-Ek yP,<-lZ] at yu;have zu:=hF b (aW _) (hB _ aZ);have hs:sliced pp (oI i) (u5 l.length k') cap (jD ty)=(A.set b (if cap=oI i then pp else pp.map (·.add (oI i*jD ty))) (u5 l.length k'-oI i) (cap-oI i) 0).v b:=by rw[jU.tL];rfl
    refine kD e2 (k _ _ ⟨_,S,H.ro (b:=b) (lQ.set zu (if cap=oI i then pp else pp.map (·.add (oI i*jD ty))) (u5 l.length k'-oI i) (cap-oI i) 0) ⟨aW _,⟨_,rfl,?_⟩,tv⟩,hs,.inr ⟨_,aZ⟩,tv⟩);show Rd S w (jU.v _ b) _;rw[<-hs];exact yu
   .rename_i ty l;obtain⟨hg,h⟩:=jt h;obtain⟨g1,g2⟩:=elem hu hg;have e0:=jH h;subst e0;have yP:Bz l.length i k':=kO _ (aU.2 rfl);obtain⟨c1,c2⟩:=BA yP;have pg:Rd o.old o.w (A.v j) l:=H.args j _ hR;obtain⟨pp,cap,hv,VN,_⟩:=qA (lz pg);rw[hv] at pg hx;have e2:=exec hx (zz (P:=P) (w:=w) g1 g2 VN yP);have yu:=tF (H9 (lz pg) c1 c2);rw[<-Ek yP,<-lZ] at yu;have zu:=hF b (aW _) (hB _ aZ);have hs:sliced pp (oI i) (u5 l.length k') cap (jD ty)=(A.set b (if cap=oI i then pp else pp.map (·.add (oI i*jD ty))) (u5 l.length k'-oI i) (cap-oI i) 0).v b:=by rw[jU.tL];rfl
    refine kD e2 (k _ _ ⟨_,S,H.ro (b:=b) (lQ.set zu (if cap=oI i then pp else pp.map (·.add (oI i*jD ty))) (u5 l.length k'-oI i) (cap-oI i) 0) ⟨aW _,⟨_,rfl,?_⟩,tv⟩,hs,.inr ⟨_,aZ⟩,tv⟩);show Rd o.old o.w (jU.v _ b) _;rw[<-hs];exact yu
   cases h
  cases h
 .rename_i sb;split at h
  .rename_i hu;have e0:=jH h;subst e0;have yP:Bz sb.size i k':=kO _ (aU.2 rfl);have kT:(cX t (.string sb) (i.map (cj .i64)) (k'.map (cj .i64)) aA).run P w= .ok (.string (sb.extract (i.getD 0).toNat (k'.getD sb.size).toNat)) w:=by
    rw[run_sliceAt_string w t _ _ _ _ hu]
    match i,k',yP with
    |none,aA,h=>simp[aoo,aH hu,aop]
    |some lo,aA,h=>
     obtain⟨h1,h2⟩:0<=lo/\lo<=(sb.size:af):=h;simp[aoo,aH hu,aop,run_sliceBound,h1,h2]
    |none,az hi,h=>
     obtain⟨h1,h2⟩:0<=hi/\hi<=(sb.size:af):=h;simp[aoo,aH hu,aop,run_sliceBound,h1,h2]
    |some lo,az hi,h=>
     obtain⟨h1,h2,h3⟩:0<=lo/\lo<=hi/\hi<=(sb.size:af):=h;have h4:0<=hi:=by omega
     have h5:(hi.toNat:af)=hi:=Int.toNat_of_nonneg h4;simp[aoo,aH hu,aop,run_sliceBound,h1,h2,h3,h4,h5]
   exact kD (exec hx kT) (k _ _ ⟨A,S,H.agree (lQ.refl _ _) λ_ q=>.inl q,rfl,tv,tv⟩)
  cases h
 .split at h
  .rename_i e hu;obtain⟨hg,h⟩:=jt h;have e0:=jH h;subst e0;have yP:Bz 0 i k':=kO _ (aU.2 rfl);obtain⟨c1,c2⟩:=BA yP;have he:P.elem t=e:=by simp[ap4,hu]
   obtain⟨inf,CG⟩:=bS.1 hg;have kT:=zz (P:=P) (w:=w) (t:=t) (size:=inf.size) (by rw[he];exact hu) (by rw[he,CG];rfl) (base:=aA) (aW 0) yP;have e1:sliced aA (oI i) (u5 0 k') 0 inf.size= .slice aA 0 0:=by
    unfold sliced;have h1:u5 0 k'-oI i=0:=by omega
    rw[h1];simp
   rw[e1] at kT;exact kD (exec hx kT) (k _ _ ⟨A,S,H.agree (lQ.refl _ _) λ_ q=>.inl q,rfl,tv,tv⟩)
  cases h
 cases h
end
section
variable {P:aY}{o:jO}{n:ah}{A A':jU}{S S' T:jv}{F G:ah->Prop}{s:ah->ai E2}{r:ah->ai R2}{a:Act}{w w':aN}{C:aa (ah×ak)}{b:ah}
theorem PC {B:ah}(H:kW o n A S F s r a w)(hF:∀j,b<=j->j<B->¬F j){op:bf}{t:aV}{x y:bu}{p q:Sy}{out:Out}(ho:op.op= .makeSlice t x y)(hx:a.eval x=p.den A)(hy:a.eval y=q.den A)
  (h:(AI P b t p q).run s r=az out) (kO:∀p∈out.cs,p) (hB:∀p∈out.re,p.1<B) {K:Act->aN->Prop} {Q:Exit->Act->aN->Prop} (k:∀v w',nI o n F s r a out v w'->K (a.put op.dst v) w'):op.wp P a w K Q:=by
 unfold AI at h;split at h
 .rename_i l c;split at h
  .rename_i ty z hty hz;obtain⟨hg,h1⟩:=jt h;clear h;obtain⟨bytes,G4,E⟩:=yN hg;have hzc:=Fk hz;obtain⟨x0,hx0,aiU,h2⟩:=xJ (T:=S) (w:=w) (A:=A) (λc hc j hj=>by rw[hzc c hc] at hj;cases hj) h1;clear h1;have e:=jH h2;subst e;obtain⟨c1,c2,c3⟩:0<=l/\l<=c/\c<=2147483647:=kO _ (aU.2 rfl);obtain⟨w',zv,m1,m2,m3,m4,m5⟩:=abO (P:=P) (w:=w) E (kl:=.i64) (kc:=.i64) c1 c2 G4 c3;have AJ:(jA z).map (Sc.den A)=zv.cells.toList:=by
    obtain⟨inf,CG,hzv⟩:=aok.1 m1;unfold E5 at hz;rw[CG] at hz;simp only at hz;rw[hzv] at hz;cases hz;cases zv with
    |agg cs=>show(cs.toList.map vA).map (Sc.den A)=_;rw[cz,show(Sc.den A∘vA)=id from funext λv=>yG A v];simp[Value.cells]
    |_=>first|(show[Sc.den A (vA _)]=_;rw[yG];rfl)
   rw[AJ] at hx0;have hx:a.eval x= .int .i64 l:=hx;have hy:a.eval y= .int .i64 c:=hy;have e2:(aG a.eval op).run P w= .ok (.value (.slice (az ⟨w.heap.size,0,aA⟩) l.toNat c.toNat)) w':=by
    simp only[aG,ho,bw,hx,hy,m3];rfl
   have zu:=hF b (aW _) (hB _ (aU.2 rfl));have hlc:l.toNat<=c.toNat:=by omega
   have oC:zv.cells.size=jD ty:=m2;subst m4;have pX:kR S w ((madeCells zv.cells (c.toNat*jD ty)).toList.take (l.toNat*jD ty)) (dA l.toNat x0):=by
    have:=W7 hlc hx0;rw[oC] at this;exact this
   obtain⟨A',k1,k2⟩:=H.Ip (b:=b) (w':=w.alloc (.cells (madeCells zv.cells (c.toNat*Re ty)) (P.elem t))) (v:=.slice aA 0 0) (v':=.slice (az ⟨w.heap.size,0,aA⟩) l.toNat c.toNat) (e:=P.elem t) (m:=dA l.toNat x0) (old:=aA) zu rfl
    ⟨rfl,rfl,rfl,by simp,λk hk _=>heap_alloc_old w _ hk⟩ (m5.as (lZ ty) (anY (n:=l.toNat) (a:=x0)).symm) (λhk=>pX.keep hk) (λc hc=>.inr (by cases hc;exact⟨aW _,by simp⟩))
   exact kD e2 (k _ _ ⟨A',S,k1,k2,.inr ⟨_,aZ⟩,tv⟩)
  cases h
 cases h
theorem kW.Xp (H:kW o n A S F s r a w)(hF:¬F b){k:Kc}{ty:Ty}{m:jw k (El ty)}{lf:ko k->ak}{cnt:ah}(hw:w.grownBy w' aA)(oC:w'.heap.size=w.heap.size+1)(hi:JO S w' w.heap.size m lf cnt aA\/Bt w' w.heap.size m lf (aA:ai (ko k×El ty))):
  ∃A',kW o n A' S (FU F [(b,az (.iter k ty m lf cnt aA))]) s (jB r [(b,az (.iter k ty m lf cnt aA))]) a w'/\A'.b b=w.heap.size:=by
 have Dt:=lQ.set (A:=A) hF aA 0 0 w.heap.size;have hbb:(A.set b aA 0 0 w.heap.size).b b=w.heap.size:=jU.Al A b aA 0 0 w.heap.size;refine⟨A.set b aA 0 0 w.heap.size,H.swap Dt (S':=S) (λ_=>False) (λ_ q=>q.elim) ((rE.of hw).mono λ_ q=>by cases q) (λ_ q=>q) (λ_ q=>.inl q) (λd z hz=>?_) (λd d' z z' bb h1 h2 _ _=>by cases aU.1 h1;cases aU.1 h2;rfl),hbb⟩;cases aU.1 hz;refine⟨tv,tv,rfl,?_,λc hc=>?_⟩
 .show JO S w' ((A.set b aA 0 0 w.heap.size).b b) m lf cnt aA\/Bt w' ((A.set b aA 0 0 w.heap.size).b b) m lf aA;rw[hbb];exact hi
 have hc:c=(A.set b aA 0 0 w.heap.size).b b:=hc;rw[hbb] at hc;exact⟨.inr (by omega),by omega⟩
theorem MH {B:ah}(H:kW o n A S F s r a w)(hF:∀j,b<=j->j<B->¬F j){op:bf}{t:aV}{x:bu}{p:Sy}{out:Out}(ho:op.op= .range t x)(hx:a.eval x=p.den A)
  (h:(Pu P b t p).run s r=az out) (hB:∀p∈out.re,p.1<B) {K:Act->aN->Prop} {Q:Exit->Act->aN->Prop} (k:∀v w',nI o n F s r a out v w'->K (a.put op.dst v) w'):op.wp P a w K Q:=by
 have exec:∀ {u:aO} {w'':aN},a.eval x=u->(aoO t u).run P w= .ok (.pointer (az ⟨w.heap.size,0,aA⟩)) w''->(aG a.eval op).run P w= .ok (.value (.pointer (az ⟨w.heap.size,0,aA⟩))) w'':=λh1 h2=>by
  simp only[aG,ho,bw,h1,h2];rfl
 unfold Pu at h;split at h
 .rename_i j;split at h
  .rename_i kt et hu;obtain⟨re,hz,hl,h1⟩:=vG _ _ h;clear h;obtain⟨S',hS,H'⟩:=H.freeze hz;obtain⟨R,hR,h2⟩:=jI h1;clear h1;split at h2
   .rename_i kc ty m hm;obtain⟨hg,h3⟩:=jt h2;clear h2;simp only[bB] at hg;obtain⟨⟨g1,g2⟩,g3⟩:=hg;have hk:=pN g1;have e:=jH h3;subst e;have hx:a.eval x= .map (A.m j):=hx;have zu:=hF b (aW _) (hB _ aZ);have pg:Rd S' w (.map (A.m j)) m:=by
     exact(wF H hz hS H' hl _ aZ j rfl R hR).m kc ty m hm
    obtain⟨x',O7,yu⟩:=AF pg;have O7:A.m j=x':=by injection O7
    have fin:∀ {w'':aN},w.grownBy w'' aA->w''.heap.size=w.heap.size+1->(aoO t (.map (A.m j))).run P w= .ok (.pointer (az ⟨w.heap.size,0,aA⟩)) w''->
      (JO S' w'' w.heap.size m (λx=>(jo (show aa (ko kc×El ty) from m) x).isSome) (show aa (ko kc×El ty) from m).length aA\/Bt w'' w.heap.size m (λx=>(jo (show aa (ko kc×El ty) from m) x).isSome) (aA:ai (ko kc×El ty)))->op.wp P a w K Q:=by
     intro w'' q1 q2 q3 q4;obtain⟨A',k1,k2⟩:=H'.Xp (b:=b) zu q1 q2 q4;rw[<-mh] at k1;refine kD (exec hx q3) (k _ _ ⟨A',S',k1.agree (lQ.refl _ _) λc hc=>FU.mono (λp hp=>by rw[aU.1 hp];exact aZ) hc,?_,.inr ⟨_,aZ⟩,tv⟩);show _=cO (az ⟨A'.b b,0,aA⟩);rw[k2]
    subst O7;cases hmj:A.m j with
    |none=>
     rw[hmj] at yu;have yu:m=([]:aa (ko kc×El ty)):=yu;subst yu;refine fin (w'':=w.alloc (.mapIter aA 0 #[] 0)) ⟨rfl,rfl,rfl,by simp,λk hk _=>heap_alloc_old w _ hk⟩ (by simp) (by rw[hmj];exact H8 hu) (.inr ⟨rfl,rfl,λ_=>rfl,0,#[],0,heap_alloc_new w _⟩)
    |some oN=>
     rw[hmj] at yu;have⟨hSb,zs,n1,n2,n3⟩:=yu;obtain⟨w'',q1,q2,q3,q4⟩:=n1.range hu hk;have Rb:(λx=>(jo (zs.map λq=>(q.1,q.2.1)) x).isSome)=λx=>(jo (show aa (ko kc×El ty) from m) x).isSome:=by
      funext x;have e1:jo (zs.map λq=>(q.1,q.2.1)) x=(jo zs x).map (·.1):=oU (λy:aO×El ty=>y.1) zs x;have e2:jo (show aa (ko kc×El ty) from m) x=(jo zs x).map (·.2):=by rw[n2];exact oU (λy:aO×El ty=>y.2) zs x
      rw[e1,e2];cases jo zs x<;>rfl
     have hlen:(zs.map λq=>(q.1,q.2.1)).length=(show aa (ko kc×El ty) from m).length:=by rw[n2];simp
     rw[Rb,hlen] at q2;have hkS:nC S' w w'':=λc hc=>q3.block c (H'.jM.pT c hc) λq=>by cases q
     exact fin q3 q4 (by rw[hmj];exact q1) (.inl ⟨oN,zs,aA,hSb,q2,n2,λz hz=>(n3 z hz).keep hkS,rfl,λ_ q=>by cases q⟩)
   cases h2
  cases h
 .split at h
  .rename_i kt et kc ty hu hc;have e:=jH h;subst e;have zu:=hF b (aW _) (hB _ aZ);have hx:a.eval x= .map aA:=hx;obtain⟨A',k1,k2⟩:=H.Xp (b:=b) (w':=w.alloc (.mapIter aA 0 #[] 0)) (k:=kc) (ty:=ty) (m:=([]:aa (ko kc×El ty))) (lf:=λ_=>aD) (cnt:=0) zu ⟨rfl,rfl,rfl,by simp,λk hk _=>heap_alloc_old w _ hk⟩ (by simp) (.inr ⟨rfl,rfl,λ_=>rfl,0,#[],0,heap_alloc_new w _⟩);refine kD (exec hx (H8 hu)) (k _ _ ⟨A',S,k1,?_,.inr ⟨_,aZ⟩,tv⟩);show _=cO (az ⟨A'.b b,0,aA⟩);rw[k2]
  cases h
 cases h
theorem Iu {k:Kc}(x:ko k):(DB k x).den A=pn k x:=by cases k<;>rfl
theorem zA {k:Kc}(x:ko k):(DB k x).all F/\(DB k x).lu A:=by cases k<;>exact⟨tv,tv⟩
theorem PD {B:ah}(H:kW o n A S F s r a w)(hF:∀j,b<=j->j<B->¬F j){op:bf}{x:bu}{p:Sy}{out:Out}(ho:op.op= .entry x)(hx:a.eval x=p.den A)
  (h:(Pv b p).run s r=az out) (hB:∀p∈out.re,p.1<B) {K:Act->aN->Prop} {Q:Exit->Act->aN->Prop} (k:∀v w',nI o n F s r a out v w'->K (a.put op.dst v) w'):op.wp P a w K Q:=by
 unfold Pv at h;split at h
 .rename_i j;obtain⟨R,hR,h2⟩:=jI h;clear h;split at h2
  .rename_i kc ty m lf cnt e;have e0:=jH h2;subst e0;have hm:jL A r j=az (Pd (A.b j) m lf cnt (az e)):=by show(r j).map _=_;rw[hR];rfl
   rcases H.jM.ok j _ hm with⟨mb,zs,cu,h1,h3,h4,h5,h6,h7⟩|⟨_,h6,_⟩
   .cases hcu:cu with
    |none=>rw[hcu] at h6;cases h6
    |some q=>
     rw[hcu] at h6 h3;have hq:e=(q.1,q.2.2):=by simpa using h6
     have pg:=h7 q hcu;have kT:=h3.2 q.1 q.2.1 rfl P w rfl rfl;obtain⟨vs,O1,hv⟩:=tN pg;subst hq;obtain⟨A',k1,k2,k3,k4⟩:=oX (o:=o) (S:=S) (w:=w) (k:=aC) _ vs b A F O1 hF hB;have hx:a.eval x= .pointer (az ⟨A.b j,0,aA⟩):=hx;have e2:(aG a.eval op).run P w= .ok (.value (.tuple #[pn kc q.1,q.2.1])) w:=by
      simp only[aG,ho,bw,hx,kT];rfl
     refine kD e2 (k _ _ ⟨A',S,H.ro k1 k3,?_,λp hp c hc=>?_,λp hp c hc=>?_⟩)
     .show anD #[_,_]=anD #[oy A' (aD,[DB kc q.1]),oy A' (l8 ty,(j4 aC b (jT ty q.2.2)).1)];unfold oy;simp only[bO,cC,Iu,k2,aom,if_false,aq6];rw[hv]
     .rcases bg.1 hp with rfl|hp
      .have:=aU.1 hc;subst this;exact(zA (A:=A) q.1).1
      have:=aU.1 hp;subst this;exact(k4 c hc).1
     rcases bg.1 hp with rfl|hp
     .have:=aU.1 hc;subst this;exact(zA (F:=F) q.1).2
     have:=aU.1 hp;subst this;exact(k4 c hc).2
   cases h6
  cases h2
 cases h
end
section
variable {P:aY}{o:jO}{n:ah}{A A':jU}{S S' T:jv}{F G:ah->Prop}{s:ah->ai E2}{r:ah->ai R2}{a:Act}{w w':aN}{C:aa (ah×ak)}{b:ah}
theorem aiV {S:jv}{w:aN}{v:aO}{x:af}(h:Rd S w v x):v= .int .i64 x:=by
 obtain⟨cs,h1,rfl⟩:=h;have h1:cs=[.int .i64 x]:=h1;subst h1;rfl
theorem aeQ {S:jv}{w:aN}(x:af):Rd S w (.int .i64 x) x:=⟨[.int .i64 x],rfl,rfl⟩
theorem Xq {B:ah}(H:kW o n A S F s r a w)(hF:∀j,b<=j->j<B->¬F j){op:bf}{t:aV}{m x:bu}{p q:Sy}{out:Out}(ho:op.op= .mapEntry t m x)(hm:a.eval m=p.den A)(hx:a.eval x=q.den A)
  (h:(agk P b t p q).run s r=az out) (kO:∀p∈out.cs,p) (qG:∀h∈out.hs,∀A w,h.lhs A w=h.rhs A w) (hB:∀p∈out.re,p.1<B) {K:Act->aN->Prop} {Q:Exit->Act->aN->Prop} (k:∀v w',nI o n F s r a out v w'->K (a.put op.dst v) w'):op.wp P a w K Q:=by
 unfold agk at h;split at h
 .rename_i kt et j hu;obtain⟨R,hR,h⟩:=jI h;split at h
  .rename_i kc mm;split at h
   .rename_i kx WZ;obtain⟨hk,h2⟩:=jt h;clear h;have hk:=pN hk;have e:=jH h2;subst e;have hq:q.den A=pn kc kx:=wG WZ;have hm:a.eval m= .map (A.m j):=hm;have hw:nv kc kx:=kO _ aZ;have hlen:(show aa (ko kc×af) from mm).length<=2147483647:=kO _ (bl _ aZ);have hz:(zeroValue et).run P w= .ok (.int .i64 0) w:=qG _ aZ A w;have qn:jL A r j=az (Am (A.m j) (show jw kc af from mm)):=by show(r j).map _=_;rw[hR];rfl
    obtain⟨oN,hb,zs,h2,h3,h4⟩:=H.jM.ok j _ qn;have h3:(show aa (ko kc×af) from mm)=zs.map λq=>(q.1,q.2.2):=h3;have lU:=H.jM.own j _ oN qn hb;obtain⟨st,w',kT,LM,hE,hG,oC⟩:=h2.entry hu hk (by rw[bH];rw[h3] at hlen;simpa using hlen) hz hw;generalize hd:(jo (show aa (ko kc×af) from mm) kx).getD 0=d at*
    have hold:(jo (zs.map λq=>(q.1,q.2.1)) kx).getD (.int .i64 0)= .int .i64 d:=by
     have e1:jo (zs.map λq=>(q.1,q.2.1)) kx=(jo zs kx).map (·.1):=oU (λy:aO×af=>y.1) zs kx;have e2:jo (show aa (ko kc×af) from mm) kx=(jo zs kx).map (·.2):=by rw[h3];exact oU (λy:aO×af=>y.2) zs kx
     rw[<-hd,e1,e2];cases hl:jo zs kx with
     |none=>rfl
     |some z=>exact aiV (h4 _ (qE hl))
    rw[hold] at kT LM;have zu:=hF b (aW _) (hB _ (bl _ aZ));have Fm:(aG a.eval op).run P w= .ok (.value (.tuple #[.int .i64 d,.int .i64 st])) w':=by
     simp only[aG,ho,bw,hm,hx,hq,hb,kT];rfl
    have x8:nC S w w':=λq hq=>hG.block q (H.jM.pT q hq) λe=>by cases e;exact lU.2.2 hq
    have hA:=lQ.ox (A:=A) zu (λ_=>cj .i64 st);have agl:rO S w' oN (show jw kc af from nG (show aa (ko kc×af) from mm) kx d):=⟨nG zs kx (.int .i64 d,d),by rw[tK (λy:aO×af=>y.1)];exact LM,by rw[tK (λy:aO×af=>y.2),h3],λy hy=>by
     rcases yC.1 hy with rfl|⟨hy,_⟩
     .exact aeQ d
     exact(h4 y hy).keep x8⟩
    have H2:=H.swap hA (w':=w') (S':=S) (re:=[(j,az (.ext (.JN b kc .int (nG (show aa (ko kc×af) from mm) kx d) kx))),(b,aA)]) (λc=>c=j) (λc hc=>by rw[show c=j from hc];exact⟨_,aZ⟩)
     ((rE.of hG).mono λc hc=>⟨j,_,rfl,hR,by cases hc;exact hb⟩) (λ_ q=>q) (λ_ q=>.inl q) (λc y hy=>by
      rcases bg.1 hy with e|hy
      .cases e;refine⟨.inr ⟨aA,bl _ aZ⟩,tv,rfl,⟨oN,hb,agl,st,by rw[jU.tZ],hE⟩,λc hc=>?_⟩;have hc:A.m j=az c:=hc;rw[hb] at hc;cases hc;exact⟨.inl ⟨j,_,rfl,hR,hb⟩,by rw[oC];exact lU.2.1⟩
      .cases aU.1 hy) (λc c' y y' bb q1 q2 _ _=>by
      rcases bg.1 q1 with e|q1
      .rcases bg.1 q2 with e'|q2
       .cases e;cases e';rfl
       cases aU.1 q2
      cases aU.1 q1)
    refine kD Fm (k _ _ ⟨_,S,H2,?_,?_,?_⟩)
    .show anD #[.int .i64 d,.int .i64 st]=anD #[.int .i64 d,(A.ox b (λ_=>cj .i64 st)).f b _];rw[jU.tZ]
    .intro q hq c hc;rcases bg.1 hq with rfl|hq
     .have:=aU.1 hc;subst this;trivial
     have:=aU.1 hq;subst this;have:=aU.1 hc;subst this;exact⟨.inl (H.lq j _ hR).1,.inr ⟨aA,bl _ aZ⟩⟩
    intro q hq c hc;rcases bg.1 hq with rfl|hq
    .have:=aU.1 hc;subst this;trivial
    have:=aU.1 hq;subst this;have:=aU.1 hc;subst this;trivial
   cases h
  cases h
 cases h
theorem PE (H:kW o n A S F s r a w){op:bf}{t:aV}{m x y:bu}{p q z:Sy}{out:Out}(ho:op.op= .entryStore t m x y)(hm:a.eval m=p.den A)(hx:a.eval x=q.den A)(hy:a.eval y=z.den A)
  (h:(Pt P t p q z).run s r=az out) (kO:∀p∈out.cs,p) {K:Act->aN->Prop} {Q:Exit->Act->aN->Prop} (k:∀v w',nI o n F s r a out v w'->K (a.put op.dst v) w'):op.wp P a w K Q:=by
 unfold Pt at h;split at h
 .rename_i kt et j jj qq kc kx nn hu;obtain⟨R,hR,h⟩:=jI h;split at h
  .rename_i q' k' mm kx';obtain⟨hg,h2⟩:=jt h;clear h;rw[bB] at hg;have hk:=pN hg.1;have hqq:=j9 hg.2;subst hqq;have e:=jH h2;subst e;have WK:mD kc kx=mD k' kx':=kO _ aZ;have hw:nv k' kx':=kO _ (bl _ aZ);have hlen:(show aa (ko k'×af) from mm).length<=2147483647:=kO _ (bl _ (bl _ aZ));have hm:a.eval m= .map (A.m j):=hm;have hy:a.eval y= .int .i64 nn:=hy;have qn:jL A r j=az (aeG (A.m j) (A.f qq) (show jw k' af from mm) kx'):=by show(r j).map _=_;rw[hR];rfl
   obtain⟨oN,hb,⟨zs,h2,h3,h4⟩,st,hf,hE⟩:=H.jM.ok j _ qn;have h3:(show aa (ko k'×af) from mm)=zs.map λq=>(q.1,q.2.2):=h3;have lU:=H.jM.own j _ oN qn hb;have hx:a.eval x= .int .i64 st:=by
    rw[hx];show A.f qq (mD kc kx)=_;rw[WK];exact hf
   obtain⟨w',kT,LM,hG,oC⟩:=h2.entryStore hu hk (by rw[bH];rw[h3] at hlen;simpa using hlen) hw hE (.int .i64 nn);have Fm:(aG a.eval op).run P w= .ok .skip w':=by
    simp only[aG,ho,bw,hm,hx,hy,hb,kT];rfl
   have x8:nC S w w':=λq hq=>hG.block q (H.jM.pT q hq) λe=>by cases e;exact lU.2.2 hq
   have agl:rO S w' oN (show jw k' af from nG (show aa (ko k'×af) from mm) kx' (show af from nn)):=⟨nG zs kx' (.int .i64 nn,nn),by rw[tK (λy:aO×af=>y.1)];exact LM,by rw[tK (λy:aO×af=>y.2),h3],λy hy=>by
    rcases yC.1 hy with rfl|⟨hy,_⟩
    .exact aeQ nn
    exact(h4 y hy).keep x8⟩
   unfold Oper.wp;rw[Fm];refine k aL _ ?_;have H2:=H.swap (lQ.refl _ _) (w':=w') (S':=S) (re:=[(j,az (.map k' .int (nG (show aa (ko k'×af) from mm) kx' (show af from nn))))]) (λc=>c=j) (λc hc=>by rw[show c=j from hc];exact⟨_,aU.2 rfl⟩)
    ((rE.of hG).mono λc hc=>⟨j,_,rfl,hR,by cases hc;exact hb⟩) (λ_ q=>q) (λ_ q=>.inl q) (λc y hy=>by
     cases aU.1 hy;refine⟨tv,tv,rfl,⟨oN,hb,agl⟩,λc hc=>?_⟩;have hc:A.m j=az c:=hc;rw[hb] at hc;cases hc;exact⟨.inl ⟨j,_,rfl,hR,hb⟩,by rw[oC];exact lU.2.1⟩) (λc c' y y' bb q1 q2 _ _=>by cases aU.1 q1;cases aU.1 q2;rfl)
   exact⟨A,S,H2,rfl,tv,tv⟩
  cases h
 cases h
end
section
variable {P:aY}{o:jO}{n:ah}{A A':jU}{S S':jv}{F G:ah->Prop}{s:ah->ai E2}{r:ah->ai R2}{a:Act}{w w':aN}{C:aa (ah×ak)}{b:ah}
theorem CI {B:ah}(H:kW o n A S F s r a w)(hF:∀j,b<=j->j<B->¬F j){op:bf}{c:Call}{t:aV}{x y:bu}{q:Sy}{ty:Ty}{e:aV}{l:aa (El ty)}{ps:aa Prop}{old:ai (ah×ai R2)}{v:aO}{out:Out}(ho:op.op= .call c)(qo:c.callee= .builtin .append)(mg:c.args.toList=[x,y])(DY:c.argTypes.toList=[t,t])
  (hx:a.eval x=v) (hy:a.eval y=q.den A) (hv:(∀p∈ps,p)->(∃xs,oM w e (Data.size (El ty)) v l.length xs/\kR S w xs l)/\Mz A S F w r v old) (h:(Pr P b t ty e l ps old.toList q).run s r=az out) (kO:∀p∈out.cs,p) (hB:∀p∈out.re,p.1<B)
  {K:Act->aN->Prop} {Q:Exit->Act->aN->Prop} (k:∀v w',nI o n F s r a out v w'->K (a.put op.dst v) w'):op.wp P a w K Q:=by
 have ha:c.args= #[x,y]:=by apply cJ;exact mg
 have hb:c.argTypes= #[t,t]:=by apply cJ;exact DY
 unfold Pr at h;cases hu:P.underlying t with
 |none=>
  exfalso;have key:∀ {q:Sy} {out:Out},(Ue ty (λqs m=>jK (qO P t e (Re ty)) (.ret ⟨(l.length+m.length<=2147483647)::(ps++qs),[],.one (.own b),(b,az (.row e ty (l++m)))::old.toList⟩)) q).run s r=az out->False:=by
   intro q out h;have hg:qO P t e (Re ty)=aD:=by unfold qO;rw[hu]
   rw[hg] at h;unfold Ue at h;split at h
   .obtain⟨Y,hY,h⟩:=jI h;split at h
    .split at h
     .obtain⟨_,h⟩:=jt h;cases h
     cases h
    cases h
   .obtain⟨Y,hY,h⟩:=jI h;split at h
    .split at h
     .obtain⟨_,h⟩:=jt h;cases h
     cases h
    cases h
   .cases h
   cases h
  exact key h
 |some d=>
  have main:∀ {e':aV},d= .slice e'->op.wp P a w K Q:=by
   intro e' hd;subst hd;obtain⟨qs,m,h1,h2⟩:=Xf H hu h;clear h;obtain⟨hg,h3⟩:=jt h1;clear h1;have e0:=jH h3;subst e0;obtain⟨bytes,G4,E⟩:=yN hg;rw[Wx] at E;have Ma:∀p∈ps,p:=λp hp=>kO p (bl _ (bU _ hp));have hqs:∀p∈qs,p:=λp hp=>kO p (bl _ (bV _ hp));obtain⟨k1,k2⟩:=hv Ma;obtain⟨v',w',r1,A',r2,r3⟩:=abQ H (hF b (aW _) (hB _ aZ)) E G4 k1 k2 (h2 hqs) (kO _ aZ) op.type;have e2:(aG a.eval op).run P w= .ok (.value v') w':=by
    unfold execOp;simp only[ho,resolve,qo,ha,hb,invoke,builtin,bw,bZ,cG,aoq,bO,cC,hx,hy,r1]
   exact kD e2 (k _ _ ⟨A',S,r2,r3,.inr ⟨_,aZ⟩,tv⟩)
  cases d with
  |slice e'=>exact main rfl
  |_=>
   exfalso;have hg:qO P t e (Re ty)=aD:=by unfold qO;rw[hu]
   rw[hg] at h;unfold Ue at h;split at h
   .obtain⟨Y,hY,h⟩:=jI h;split at h
    .split at h
     .obtain⟨_,h⟩:=jt h;cases h
     cases h
    cases h
   .obtain⟨Y,hY,h⟩:=jI h;split at h
    .split at h
     .obtain⟨_,h⟩:=jt h;cases h
     cases h
    cases h
   .cases h
   cases h
theorem Iv {k:Ty->Tr Out}{q:Sy}{out:Out}(h:(Rm k q).run s r=az out):∃ty,(k ty).run s r=az out:=by
 unfold Rm at h;split at h
 .obtain⟨Y,hY,h⟩:=jI h;split at h
  .exact⟨_,h⟩
  cases h
 .obtain⟨Y,hY,h⟩:=jI h;split at h
  .exact⟨_,h⟩
  cases h
 cases h
theorem Xr {B:ah}(H:kW o n A S F s r a w)(hF:∀j,b<=j->j<B->¬F j){op:bf}{c:Call}{t:aV}{x y:bu}{p q:Sy}{out:Out}(ho:op.op= .call c)(qo:c.callee= .builtin .append)(mg:c.args.toList=[x,y])(DY:c.argTypes.toList=[t,t])
  (hx:a.eval x=p.den A) (hy:a.eval y=q.den A) (h:(agj P b t p q).run s r=az out) (kO:∀p∈out.cs,p) (hB:∀p∈out.re,p.1<B)
  {K:Act->aN->Prop} {Q:Exit->Act->aN->Prop} (k:∀v w',nI o n F s r a out v w'->K (a.put op.dst v) w'):op.wp P a w K Q:=by
 have ha:c.args= #[x,y]:=by apply cJ;exact mg
 have hb:c.argTypes= #[t,t]:=by apply cJ;exact DY
 have aiW:∀ {ty:Ty} {q:Sy},p= .one (.v (.slice aA 0 0))->a.eval y=q.den A->(Pr P b t ty (P.elem t) [] [] [] q).run s r=az out->op.wp P a w K Q:=λ{ty q'} e hy' h'=>by
  subst e;exact CI (q:=q') (old:=aA) H hF ho qo mg DY hx hy' (λ_=>⟨⟨[],oM.nil w _ _,kR.nil _ _⟩,rfl⟩) h' kO hB k
 have nest:∀ {v:aO} {old:ai ah} {i qi:ah} {e e' ie:aV} {ty:Ty} {l m:aa (El ty)},a.eval x=v->a.eval y=A.v i->qO P t e (Re ty)=aC->
   (match old with
   |some j=>v=A.v j/\∃qf,r j=az (.ext (.nest qf aA e ty ie l))
   |none=>v= .slice aA 0 0/\l=[])->r i=az (.ext (.nest qi aA e' ty ie m))->old≠az i->l.length+m.length<=2147483647->∀cs hs,out=⟨cs,hs,.one (.own b),(b,az (.ext (.nest b aA e ty ie (l++m))))::(old.toList.map (λj=>(j,aA))++[(i,aA)])⟩->op.wp P a w K Q:=by
  intro v old i qi e e' ie ty l m hx hy hg hold hi qD hlen cs hs e0;subst e0;obtain⟨bytes,G4,E⟩:=yN hg;obtain⟨v',w',r1,A',r2,r3⟩:=abT H (hF b (aW _) (hB _ aZ)) E G4 hold hi qD hlen op.type;have e2:(aG a.eval op).run P w= .ok (.value v') w':=by
   unfold execOp;simp only[ho,resolve,qo,ha,hb,invoke,builtin,bw,bZ,cG,aoq,bO,cC,hx,hy,r1]
  exact kD e2 (k _ _ ⟨A',S,r2,r3,.inr ⟨_,aZ⟩,tv⟩)
 unfold agj at h;split at h
 .split at h
  .rename_i i;obtain⟨Y,hY,h2⟩:=jI h;clear h;split at h2
   .rename_i qi e ty ie m;obtain⟨hg,h3⟩:=jt h2;have e0:=jH h3;have hlen:m.length<=2147483647:=kO _ (by rw[e0];exact aU.2 rfl);exact nest (old:=aA) (l:=[]) hx hy hg ⟨rfl,rfl⟩ hY (by simp) (by simpa using hlen) _ _ e0
   obtain⟨ty,h3⟩:=Iv h2;exact aiW rfl hy h3
  obtain⟨ty,h3⟩:=Iv h;exact aiW rfl hy h3
 .rename_i j;obtain⟨X,hX,h2⟩:=jI h;clear h;split at h2
  .rename_i e ty l;refine CI (old:=az (j,aA)) (v:=A.v j) H hF ho qo mg DY hx hy (λ_=>⟨H.jM.ok j (yF e (A.v j) l) (by show(r j).map _=_;rw[hX];rfl),⟨_,hX,λc hc=>hc,λz q=>by cases q⟩⟩) h2 kO hB k
  .rename_i qf e ty ie l;split at h2
   .rename_i i;obtain⟨Y,hY,h3⟩:=jI h2;clear h2;split at h3
    .rename_i qi e' Ik Hq m;split at h3
     .rename_i m' hm';obtain⟨hg,h4⟩:=jt h3;clear h3;obtain⟨et,OT⟩:=ni hm';have et:Ik=ty:=by injection et
      subst et;have OT:m=m':=OT;subst OT;simp only[bB] at hg;have⟨g1,g2,g3⟩:=hg;have g2:=j9 g2;subst g2;have e0:=jH h4;have hlen:l.length+m.length<=2147483647:=kO _ (by rw[e0];exact aU.2 rfl);exact nest (old:=az j) hx hy g1 ⟨rfl,qf,hX⟩ hY (λq=>by cases q;simp at g3) hlen _ _ e0
     cases h3
    cases h3
   cases h2
  cases h2
 .rename_i j qf O7;obtain⟨Y,hY,h2⟩:=jI h;clear h;split at h2
  .rename_i I hI;refine CI (old:=az (j,az I.z)) (v:=A.f qf O7.lit) H hF ho qo mg DY hx hy (λhp=>?_) h2 kO hB k;obtain⟨q1,q2,q3,q4,q5,q6,q7⟩:=aeP H hY hI hp;exact⟨q1,_,hY,q2,λz e=>by cases e;exact⟨q3,q4,q5,q6,q7⟩⟩
  cases h2
 cases h
theorem MI {R:Sc->Prop}{fs:aq Field}:∀ {l:aa (ah×Sy)} {cs Ii:aa Sc},(∀p∈l,∀c∈jA p.2,R c)->(∀c∈cs,R c)->JW fs l cs=az Ii->∀c∈Ii,R c
 |[],cs,Ii,_,h,e=>by cases e;exact h
 |(i,y)::l,cs,Ii,hl,h,e=>by
  simp only[JW] at e;split at e
  .rename_i fd _;refine MI (λp hp=>hl p (bl _ hp)) (λc hc=>?_) e;rcases bE.1 hc with hc|hc
   .rcases bE.1 hc with hc|hc
    .exact h c (dQ hc)
    exact hl (i,y) (by simp) c hc
   exact h c (anB hc)
  cases e
theorem Xs {B:ah}{T:aa (lM P)}{md:ak}(H:kW o n A S F s r a w)(hC:oK a C)(hF:∀j,b<=j->j<B->¬F j){op:bf}{out:Out}(h:(opT P T C md b op.op).run s r=az out)(kO:∀p∈out.cs,p)(qG:∀h∈out.hs,∀A w,h.lhs A w=h.rhs A w)(hB:∀p∈out.re,p.1<B)
  {K:Act->aN->Prop} {Q:Exit->Act->aN->Prop} (k:∀v w',nI o n F s r a out v w'->K (a.put op.dst v) w'):op.wp P a w K Q:=by
 have quiet:(sV P C b op.op).run s r=az out->op.wp P a w K Q:=by
  intro h;obtain⟨⟨A',h1,h2,h3,h4,h5⟩,_⟩:=T8 H hC hF h kO hB;exact Xg (h2 op rfl) (k _ _ ⟨A',S,H.ro h1 h5,rfl,h3,h4⟩)
 cases nN:op.op
 case box t x=>
  rw[nN] at h;obtain⟨y,e1,e2,e3,h⟩:=jE H hC h;have e:=jH h;subst e;have kT:=qG _ (aU.2 rfl) A w;have e4:(aG a.eval op).run P w= .ok (.value (.pointer (az ⟨w.heap.size,0,aA⟩))) (w.alloc (.cells ((jA y).map (Sc.den A)).toArray t)):=by
   simp only[WV] at kT;simp only[aG,nN,bw,e1,kT];rfl
  have yd:∀c∈jA y,c.all F/\c.lu A:=by
   intro c hc;cases y with
   |one c'=>have:=aU.1 hc;subst this;exact⟨e2,e3⟩
   |agg ds=>exact⟨e2 c hc,e3 c hc⟩
   |vt ps=>cases hc
  exact MA H (hF b (aW _) (hB _ (aU.2 rfl))) (λc hc=>(yd c hc).1) (λc hc=>(yd c hc).2) e4 k
 case alloc t=>
  rw[nN] at h;simp only[opT] at h;split at h
  .split at h
   .rename_i z hz;have e:=jH h;subst e;have kT:=qG _ (aU.2 rfl) A w;have e4:(aG a.eval op).run P w= .ok (.value (.pointer (az ⟨w.heap.size,0,aA⟩))) (w.alloc (.cells ((z.cells.toList.map vA).map (Sc.den A)).toArray t)):=by
     simp only[Ms] at kT;simp only[aG,nN,bw,kT];rfl
    exact MA H (hF b (aW _) (hB _ (aU.2 rfl))) (λc hc=>by obtain⟨u,_,rfl⟩:=bz.1 hc;exact yH F u) (λc hc=>by obtain⟨u,_,rfl⟩:=bz.1 hc;exact wD A u) e4 k
   cases h
  cases h
 case panic x=>
  rw[nN] at h;have e:=jH h;subst e;exact(kO _ (aU.2 rfl):False).elim
 case makeInterface t x=>
  rw[nN] at h;obtain⟨y,e1,e2,e3,h⟩:=jE H hC h;split at h
  .rename_i v hv;have e:=jH h;subst e;have kT:=qG _ (aU.2 rfl) A w;have e4:(aG a.eval op).run P w= .ok (.value (.iface t v)) w:=by
    simp only[aeO] at kT;simp only[aG,nN,bw,e1,Xc hv,kT];rfl
   exact kD e4 (k _ _ ⟨A,S,H.agree (lQ.refl _ _) λ_ q=>.inl q,rfl,tv,tv⟩)
  cases h
 case buildSlice t len parts=>
  rw[nN] at h;obtain⟨ys,f1,f2,h⟩:=uZ H hC h;refine Um H hF nN ?_ h kO qG hB k;rw[<-f1,cz];rfl
 case build t parts=>
  rw[nN] at h;obtain⟨ys,f1,f2,h⟩:=uZ H hC h;unfold WW at h;split at h
  .split at h
   .rename_i z hz;split at h
    .rename_i cs Fl;have e:=jH h;subst e;have kT:=qG _ (aU.2 rfl) A w;simp only[Mt] at kT;have ep:parts.map (λx=>(x.1,a.eval x.2))=(((parts.toList.map (·.1)).zip ys).map λy=>(y.1,y.2.den A)).toArray:=by
      apply cJ;rw[dZ];show _=((parts.toList.map (·.1)).zip ys).map λy=>(y.1,y.2.den A);have:(((parts.toList.map (·.1)).zip ys).map λy=>(y.1,y.2.den A))=(parts.toList.map (·.1)).zip (ys.map (Sy.den A)):=by
       rw[ap2];rfl
      rw[this,<-f1,cz,ap3];rfl
     have e4:(aG a.eval op).run P w= .ok (.value (.agg (cs.map (Sc.den A)).toArray)) w:=by
      rw[<-ep] at kT;simp only[aG,nN,bw];rw[show(aph (λx=>match x with|(i,x)=>(i,a.eval x)) parts)=parts.map (λx=>(x.1,a.eval x.2)) from rfl,kT];rfl
     have yd:∀c∈cs,c.all F/\c.lu A:=MI (l:=(parts.toList.map (·.1)).zip ys) (λp hp c hc=>by
      have hy:=f2 p.2 (List.of_mem_zip hp).2;obtain⟨i,y⟩:=p;cases y with
      |one c'=>have:=aU.1 hc;subst this;exact hy
      |agg ds=>exact⟨hy.1 c hc,hy.2 c hc⟩
      |vt ps=>cases hc) (λc hc=>by obtain⟨u,_,rfl⟩:=bz.1 hc;exact⟨yH F u,wD A u⟩) Fl
     exact kD e4 (k _ _ ⟨A,S,H.agree (lQ.refl _ _) λ_ q=>.inl q,rfl,λc hc=>Sc.mono (λ_ q=>.inl q) (yd c hc).1,λc hc=>(yd c hc).2⟩)
    cases h
   cases h
  cases h
 case store t x y=>
  rw[nN] at h;obtain⟨p,e1,e2,e3,h⟩:=jE H hC h;obtain⟨q,f1,f2,f3,h⟩:=jE H hC h;exact J5 H hF nN e1 f1 ⟨f2,f3⟩ h kO hB k
 case call c=>
  rw[nN] at h;simp only[opT] at h;split at h
  .rename_i x qo;obtain⟨p,e1,e2,e3,h⟩:=jE H hC h;split at h
   .rename_i f kH;split at h
    .rename_i con alF;obtain⟨hg,h⟩:=jt h;obtain⟨ys,f1,f2,h⟩:=uZ H hC h;have hf:con.f=f:=j9 (by have:=apb alF;exact this);exact Po (T:=T) H hF nN qo e1 hf (by simpa using hg) f1 f2 e2 h kO qG hB k
    cases h
   cases h
  .rename_i qo;split at h
   .rename_i x y t t' mg DY;obtain⟨hg,h2⟩:=jt h;have hg:=j9 hg;subst hg;obtain⟨p,e1,e2,e3,h3⟩:=jE H hC h2;obtain⟨q,f1,f2,f3,h⟩:=jE H hC h3;exact Xr H hF nN qo mg DY e1 f1 h kO hB k
   cases h
  .rename_i qo;split at h
   .rename_i x t mg DY _;obtain⟨p,e1,e2,e3,h⟩:=jE H hC h;exact Uc H nN qo mg DY e1 h k
   exact quiet (by rw[nN];exact h)
  .rename_i qo;split at h
   .rename_i x y t kt mg DY;obtain⟨p,e1,e2,e3,h⟩:=jE H hC h;obtain⟨q,f1,f2,f3,h⟩:=jE H hC h;exact Pq H nN qo mg DY e1 f1 h kO k
   cases h
  exact quiet (by rw[nN];exact h)
 case makeMap t x=>
  rw[nN] at h;cases x with
  |none=>exact DD H hF nN (λy q=>by cases q) h hB k
  |some x=>
   obtain⟨p,e1,e2,e3,h⟩:=jE H hC h;split at h
   .rename_i ik m;exact DD H hF nN (λy q=>by cases q;exact⟨ik,m,e1⟩) h hB k
   cases h
 case mapEntry t m x=>
  rw[nN] at h;obtain⟨p,e1,e2,e3,h⟩:=jE H hC h;obtain⟨q,f1,f2,f3,h⟩:=jE H hC h;exact Xq H hF nN e1 f1 h kO qG hB k
 case entryStore t m x y=>
  rw[nN] at h;obtain⟨p,e1,e2,e3,h⟩:=jE H hC h;obtain⟨q,f1,f2,f3,h⟩:=jE H hC h;obtain⟨z,g1,g2,g3,h⟩:=jE H hC h;exact PE H nN e1 f1 g1 h kO k
 case mapUpdate t m x y=>
  rw[nN] at h;obtain⟨p,e1,e2,e3,h⟩:=jE H hC h;obtain⟨q,f1,f2,f3,h⟩:=jE H hC h;obtain⟨z,g1,g2,g3,h⟩:=jE H hC h;exact Ir H hF (.inl nN) e1 f1 g1 h kO hB k
 case insert t m x y=>
  rw[nN] at h;obtain⟨p,e1,e2,e3,h⟩:=jE H hC h;obtain⟨q,f1,f2,f3,h⟩:=jE H hC h;obtain⟨z,g1,g2,g3,h⟩:=jE H hC h;exact Ir H hF (.inr nN) e1 f1 g1 h kO hB k
 case lookup t m x ok=>
  rw[nN] at h;obtain⟨p,e1,e2,e3,h⟩:=jE H hC h;obtain⟨q,f1,f2,f3,h⟩:=jE H hC h;exact Ub H hF nN e1 f1 h kO qG hB k
 case makeFunc f first kH=>
  rw[nN] at h;simp only[opT] at h;split at h
  .rename_i f' agm;obtain⟨ys,f1,f2,h2⟩:=uZ H hC h;clear h;split at h2
   .rename_i cs Fl;have e0:=kg h2;subst e0;have hc:∀ {ys:aa Sy} {cs:aa (ah×ah)},CE ys=az cs->ys.map (Sy.den A)=cs.map λc=>cO (az ⟨A.b c.1,c.2,aA⟩):=by
     intro ys
     induction ys with
     |nil=>intro cs h;cases h;rfl
     |cons y ys ih=>
      intro cs h;unfold CE at h;split at h
      .rename_i heq;cases heq
      .rename_i j off l heq;cases heq;obtain⟨Ii,h1,rfl⟩:=bF.1 h;rw[bO,bO,ih h1];rfl
      cases h
    have nH:∀ {ys:aa Sy} {cs:aa (ah×ah)},CE ys=az cs->(∀y∈ys,y.all F/\y.lu A)->∀c∈cs,F c.1:=by
     intro ys
     induction ys with
     |nil=>intro cs h _ c hc;cases h;cases hc
     |cons y ys ih=>
      intro cs h hy c hc;unfold CE at h;split at h
      .rename_i heq;cases heq
      .rename_i j off l heq;cases heq;obtain⟨Ii,h1,rfl⟩:=bF.1 h;rcases bg.1 hc with rfl|hc
       .exact(hy _ aZ).1
       exact ih h1 (λz hz=>hy z (bl _ hz)) c hc
      cases h
    have hfa:first= #[]:=by apply cJ;exact agm
    have hca:kH.map a.eval=(cs.map λc=>cO (az ⟨A.b c.1,c.2,aA⟩)).toArray:=by
     apply cJ;rw[dZ,f1,hc Fl]
    have e4:(aG a.eval op).run P w= .ok (.value (.func (.func f') #[] (cs.map λc=>cO (az ⟨A.b c.1,c.2,aA⟩)).toArray)) w:=by
     simp only[aG,nN,bw,hfa,hca,Instr.makeFunc,bZ,Array.map_empty];rfl
    exact kD e4 (k _ _ ⟨A,S,H.agree (lQ.refl _ _) λ_ q=>.inl q,rfl,λc hc=>.inl (nH Fl f2 c hc),tv⟩)
   cases h2
  cases h
 case slice t x lo hi mx=>
  rw[nN] at h;cases mx with
  |none=>
   obtain⟨p,e1,e2,e3,h1⟩:=jE H hC (show((qm C x λp=>Mx C lo λi=>Mx C hi λk=>JZ P b t i k p):Tr Out).run s r=az out from h);obtain⟨i,f1,h2⟩:=Is H hC h1;obtain⟨k',g1,h3⟩:=Is H hC h2;exact PB H hF nN e1 f1 g1 h3 kO hB k
  |some mx=>
   cases lo with
   |some _=>cases hi<;>exact quiet (by rw[nN];exact h)
   |none=>
    cases hi with
    |none=>exact quiet (by rw[nN];exact h)
    |some hi=>
     obtain⟨p,e1,e2,e3,h1⟩:=jE H hC h;obtain⟨q,f1,f2,f3,h2⟩:=jE H hC h1;split at h2
     .obtain⟨q',g1,g2,g3,h3⟩:=jE H hC h2;split at h3
      .exact MG H hF nN e1 f1 g1 h3 kO hB k
      cases h3
     cases h2
 case makeSlice t l c=>
  rw[nN] at h;obtain⟨p,e1,e2,e3,h1⟩:=jE H hC h;obtain⟨q,f1,f2,f3,h2⟩:=jE H hC h1;exact PC H hF nN e1 f1 h2 kO hB k
 case range t x=>
  rw[nN] at h;obtain⟨p,e1,e2,e3,h1⟩:=jE H hC h;exact MH H hF nN e1 h1 hB k
 case entry x=>
  rw[nN] at h;obtain⟨p,e1,e2,e3,h1⟩:=jE H hC h;exact PD H hF nN e1 h1 hB k
 case binOp op' t x y t'=>
  rw[nN] at h;cases md with
  |false=>exact quiet (by rw[nN];exact h)
  |true=>
   cases op' with
   |quo=>
    obtain⟨p,e1,e2,e3,h1⟩:=jE H hC h;obtain⟨q,f1,f2,f3,h2⟩:=jE H hC h1;unfold aeM at h2;split at h2
    .rename_i a' b';obtain⟨rfl,hp⟩:=oY h2 kO;have e1:a.eval x= .int .i64 a':=e1;have f1:a.eval y= .int .i64 b':=f1;have yd:jX .i64 (a'.tdiv b'):=by
      have⟨q1,q2⟩:=hp;have q2: -9223372036854775808<=a'/\a'<=9223372036854775807:=q2;have hn:(a'.tdiv b').natAbs<=a'.natAbs:=by rw[Int.natAbs_tdiv];exact Nat.div_le_self _ _
      show -9223372036854775808<=a'.tdiv b'/\a'.tdiv b'<=9223372036854775807
      by_cases hz:a'= -9223372036854775808
      .subst hz;have:Int.tdiv (-9223372036854775808) b'<=0:=by
        rw[Int.neg_tdiv];have:=Int.tdiv_nonneg (a:=9223372036854775808) (b:=b') (by decide) (by omega);omega
       omega
      omega
     have h2':(eqGuard .quo t x y (.int .i64 a') (.int .i64 b')).run P w= .ok () w:=by simp[eqGuard,bZ]
     have e4:(aG a.eval op).run P w= .ok (.value (.int .i64 (a'.tdiv b'))) w:=by
      simp only[aG,nN,bw,e1,f1,h2',cG];have h3:(binOp .quo t (.int .i64 a') (.int .i64 b'))=Op.intDiv .quo .i64 a' b':=rfl;rw[h3];unfold Op.intDiv;rw[aP (by omega)];show cM P (do let x <-(pure (cj .i64 (aqV.wrap (a'.tdiv b'))):Sem aO);_) w=_;rw[yd.wrap];rfl
     exact kD e4 (k _ _ ⟨A,S,H.agree (lQ.refl _ _) λ_ q=>.inl q,rfl,tv,tv⟩)
    cases h2
   |_=>exact quiet (by rw[nN];exact h)
 all_goals (rw[nN] at h;exact quiet (by rw[nN];exact h))
end
def Tr.bind {α β:Type 1}:Tr α->(α->Tr β)->Tr β
 | .ret a,k=>k a
 | .fail,_=>.fail
 | .slot t f,k=>.slot t λe=>(f e).bind k
 | .res j f,k=>.res j λx=>(f x).bind k
theorem Tr.yQ {α β:Type 1}{s:ah->ai E2}{r:ah->ai R2}:∀ {T:Tr α} {k:α->Tr β} {out:β},(T.bind k).run s r=az out->∃a,T.run s r=az a/\(k a).run s r=az out
 | .ret a,k,out,h=>⟨a,rfl,h⟩
 | .fail,k,out,h=>by cases h
 | .slot t f,k,out,h=>by
  simp only[Tr.bind,Tr.run] at h ⊢;split at h
  .rename_i e he;obtain⟨a,h1,h2⟩:=Tr.yQ h;exact⟨a,h1,h2⟩
  cases h
 | .res j f,k,out,h=>by
  simp only[Tr.bind,Tr.run] at h ⊢;split at h
  .rename_i e he;obtain⟨a,h1,h2⟩:=Tr.yQ h;exact⟨a,h1,h2⟩
  cases h
structure um:Type 1 where
 cs:aa Prop
 hs:aa Hid
 sl:ai (ah×ai E2)
 re:aa (ah×ai R2)
def mN (s:ah->ai E2):aa (ah×ai E2)->ah->ai E2
 |[]=>s
 |p::l=>ua (mN s l) p.1 p.2
def imp:aa Prop->Prop->Prop
 |[],p=>p
 |g::gs,p=>g->imp gs p
def aiX:aO->ak
 | .tuple a=>a.toList.isEmpty
 |_=>aD
def PF (ops:aq bf)(o:bf)(k:ai (aa (ah×ak))->Tr um):Tr um:=
 match o.guard with
 |none=>k (az [])
 |some (i,bv)=>match(ops[i]?).bind (·.dst) with
  |some j=>.slot j λe=>match e.sy with
   | .one (.b (.lit c))=>match Bool.xor c bv with
    |false=>k (az e.ch)
    |true=>k aA
   | .one (.b _)=>k (az (e.ch++[(j,bv)]))
   | .one (.v u)=>match aiX u with
    |true=>k aA
    |false=>.fail
   |_=>.fail
  |none=>.fail
def Rq:aa (ah×ak)->(aa Prop->Tr um)->Tr um
 |[],k=>k []
 |l::C,k=>.slot l.1 λe=>match e.sy with
  | .one (.b be)=>Rq C λps=>k (be.is l.2::ps)
  |_=>.fail
def hintOf:aa (ah×ak)->ah->ai ak
 |[],_=>aA
 |p::l,d=>match bp p.1 d with
  |true=>az p.2
  |false=>hintOf l d
def aiY (hn:aa (ah×ak))(d:ai ah)(out:Out):um:=
 match d with
 |none=>⟨out.cs,out.hs,aA,out.re⟩
 |some d=>match hintOf hn d,out.sy with
  |some v,.one (.b e)=>⟨out.cs++[e.is v],out.hs,az (d,az ⟨[],.one (.b (.lit v))⟩),out.re⟩
  |_,y=>⟨out.cs,out.hs,az (d,az ⟨[],y⟩),out.re⟩
def stepG (P:aY)(T:aa (lM P))(sd:ah)(hn:aa (ah×ak))(n:ah)(ops:aq bf)(b:ah)(o:bf):Tr um:=
 jK (match o.dst with|some d=>bP d n|none=>aC) (PF ops o λoc=>match oc with
  |none=>.ret ⟨[],[],o.dst.map λd=>(d,az ⟨[],.one (.v (.tuple #[]))⟩),[]⟩
  |some []=>(opT P T [] (match o.dst with|some d=>hintOf hn d==az aC|none=>aD) b o.op).bind λout=>jK (out.re.all λp=>bP p.1 (b+sd)) (.ret (aiY hn o.dst out))
  |some (l::C)=>(opT P T (l::C) aD b o.op).bind λout=>match out.re,o.dst with
   |[],az d=>jK ((l::C).all λl=>!Nat.beq l.1 d) (Rq (l::C) λps=>.ret ⟨out.cs.map (imp ps),out.hs,az (d,az ⟨l::C,out.sy⟩),[]⟩)
   |_,_=>.fail)
section
variable {P:aY}{o:jO}{n:ah}{A A':jU}{S S':jv}{F G:ah->Prop}{s:ah->ai E2}{r:ah->ai R2}{a:Act}{w w':aN}{C:aa (ah×ak)}{b:ah}
theorem Fq {u u':um}(h:(Tr.ret u').run s r=az u):u=u':=(b5 h).symm
theorem PG (H:kW o n A S F s r a w){ops:aq bf}{op:bf}{k:ai (aa (ah×ak))->Tr um}{out:um}(h:(PF ops op k).run s r=az out):
  (∃C,(dh op (yielded ops a.tmps)=aC↔oK a C)/\(k (az C)).run s r=az out)\/(dh op (yielded ops a.tmps)=aD/\(k aA).run s r=az out):=by
 unfold PF at h;unfold Region.wanted;split at h
 .rename_i hg;refine .inl ⟨[],?_,h⟩;simp[hg,oK]
 rename_i i bv hg;split at h
 .rename_i j hj;simp only[Tr.run] at h;split at h
  .rename_i e he;have VK:=H.env j e he;have hy:yielded ops a.tmps i=az bv↔a.tmps[j]?=az (.bool bv):=by
    unfold yielded;rw[hj];simp only[apc];constructor
    .intro hh;split at hh
     .rename_i c hc;cases hh;exact hc
     cases hh
    intro hh;rw[hh]
   have J6:a.tmps[j]?=az (.bool bv)->oK a e.ch:=λhh=>dg λhn=>by
    have:=VK.2 hn;rw[show(⟨j,e.ch,e.sy.den A⟩:VJ).slot=j from rfl,hh] at this;simp[aL] at this
   split at h
   .rename_i c OS;have Hp:oK a e.ch->a.tmps[j]?=az (.bool c):=λq=>by have:=VK.1 q;rw[OS] at this;exact this
    split at h
    .rename_i hx;have hcb:c=bv:=by cases c<;>cases bv<;>first|rfl|cases hx
     subst hcb;refine .inl ⟨e.ch,?_,h⟩;simp only[hg,beq_iff_eq];rw[hy];exact⟨J6,Hp⟩
    rename_i hx;refine .inr ⟨?_,h⟩;simp only[hg,beq_eq_false_iff_ne,ne_eq];rw[hy];intro hh;rw[Hp (J6 hh)] at hh;cases hh;cases bv<;>cases hx
   .rename_i be _ OS;refine .inl ⟨e.ch++[(j,bv)],?_,h⟩;simp only[hg,beq_iff_eq];rw[hy];constructor
    .intro hh l hl;rcases bE.1 hl with hl|hl
     .exact J6 hh l hl
     rw[aU] at hl;subst hl;exact hh
    intro hh;exact hh (j,bv) (bV _ (by simp))
   .rename_i u OS;split at h
    .rename_i hu;refine .inr ⟨?_,h⟩;simp only[hg,beq_eq_false_iff_ne,ne_eq];rw[hy];intro hh;have:=VK.1 (J6 hh);rw[show(⟨j,e.ch,e.sy.den A⟩:VJ).slot=j from rfl,hh,OS] at this;have:u= .bool bv:=(b5 this).symm;rw[this] at hu;cases hu
    cases h
   cases h
  cases h
 cases h
theorem Iw (H:kW o n A S F s r a w):∀ {C:aa (ah×ak)} {k:aa Prop->Tr um} {out:um},(Rq C k).run s r=az out->∃ps,(oK a C->∀p∈ps,p)/\(k ps).run s r=az out
 |[],k,out,h=>⟨[],λ_ _ q=>(by cases q),h⟩
 |l::C,k,out,h=>by
  simp only[Rq,Tr.run] at h;split at h
  .rename_i e he;split at h
   .rename_i be OS;obtain⟨ps,h1,h2⟩:=Iw H h;refine⟨be.is l.2::ps,λhc p hp=>?_,h2⟩;have hl:a.tmps[l.1]?=az (.bool l.2):=hc l (by simp);rcases bg.1 hp with rfl|hp
    .have VK:=H.env l.1 e he;have rB:oK a e.ch:=dg λhn=>by
      have:=VK.2 hn;rw[show(⟨l.1,e.ch,e.sy.den A⟩:VJ).slot=l.1 from rfl,hl] at this;simp[aL] at this
     have hv:=VK.1 rB;rw[show(⟨l.1,e.ch,e.sy.den A⟩:VJ).slot=l.1 from rfl,hl,OS] at hv;have hv:anT l.2= .bool be.den:=b5 hv;exact(BE.rY be l.2).2 (ar2 hv).symm
    exact h1 (λz hz=>hc z (bl _ hz)) p hp
   cases h
  cases h
theorem imp_elim:∀ {ps:aa Prop} {p:Prop},imp ps p->(∀q∈ps,q)->p
 |[],p,h,_=>h
 |g::gs,p,h,k=>imp_elim (h (k g (by simp))) λq hq=>k q (bl _ hq)
def abX (s:ah->ai E2):ai (ah×ai E2)->ah->ai E2
 |none=>s
 |some p=>ua s p.1 p.2
theorem J7 (a:Act)(v:aO):a.put aA v=a:=rfl
theorem MJ {T:aa (lM P)}{sd:ah}{hn:aa (ah×ak)}{ops:aq bf}(H:kW o n A S F s r a w)(hF:∀j,b<=j->j<b+sd->¬F j){op:bf}{u:um}(h:(stepG P T sd hn n ops b op).run s r=az u)(kO:∀p∈u.cs,p)(qG:∀h∈u.hs,∀A w,h.lhs A w=h.rhs A w)
  (rB:∀d,op.dst=az d->∀t e,s t=az e->∀l∈e.ch,l.1≠d) {K:Act->aN->Prop} {Q:Exit->Act->aN->Prop} (k:∀A' S' a' w',kW o n A' S' (FU F u.re) (abX s u.sl) (jB r u.re) a' w'->(∀p∈u.re,p.1<b+sd)->K a' w'):
  if dh op (yielded ops a.tmps) then op.wp P a w K Q else K (a.put op.dst aL) w:=by
 unfold stepG at h;obtain⟨hd,h⟩:=jt h;have hdn:∀d,op.dst=az d->d<n:=λd e=>by rw[e] at hd;simpa using cw▸hd
 rcases PG H h with⟨C,hw,h⟩|⟨hw,h⟩
 .cases C with
  |nil=>
   have hw:dh op (yielded ops a.tmps)=aC:=hw.2 λl hl=>by cases hl
   rw[aQ hw];obtain⟨out,ho,h⟩:=Tr.yQ h;obtain⟨DZ,h⟩:=jt h;have hB:∀p∈out.re,p.1<b+sd:=λp hp=>by have:=bG.1 DZ p hp;simpa using cw▸this
   have e:=Fq h;subst e;unfold aiY at kO qG k;have hC:oK a []:=λl hl=>by cases hl
   have fin:(∀p∈out.cs,p)->(∀h∈out.hs,∀A w,h.lhs A w=h.rhs A w)->(∀v w',nI o n F s r a out v w'->K (a.put op.dst v) w')->op.wp P a w K Q:=λh1 h2 h3=>Xs H hC hF ho h1 h2 hB h3;cases pM:op.dst with
   |none=>
    rw[pM] at kO qG k fin;refine fin kO qG λv w' ⟨A',S',h1,h2,h3,h4⟩=>?_;rw[J7];exact k A' S' a w' h1 hB
   |some d=>
    rw[pM] at kO qG k fin;have plain:(∀p∈out.cs,p)->(∀h∈out.hs,∀A w,h.lhs A w=h.rhs A w)->(∀A' S' a' w',kW o n A' S' (FU F out.re) (ua s d (az ⟨[],out.sy⟩)) (jB r out.re) a' w'->K a' w')->op.wp P a w K Q:=λh1 h2 k'=>by
     refine fin h1 h2 λv w' ⟨A',S',h1,h2,h3,h4⟩=>?_;have h5:=h1.put (C:=[]) (d:=d) (y:=out.sy) (u:=v) (hdn d pM) (rB d pM) (λl hl=>by cases hl) (λ_=>⟨h3,h4⟩) ⟨λ_=>h2,λq=>(q λl hl=>by cases hl).elim⟩;exact k' A' S' _ w' h5
    simp only at kO qG k;split at kO
    .rename_i v e hv he;rw[hv,he] at qG k;refine fin (λp hp=>kO p (bU _ hp)) qG λv' w' ⟨A',S',h1,h2,h3,h4⟩=>?_;have Hl:e.den=v:=(BE.rY e v).1 (kO _ (bV _ (aU.2 rfl)));have h5:=h1.put (C:=[]) (d:=d) (y:=.one (.b (.lit v))) (u:=v') (hdn d pM) (rB d pM) (λl hl=>by cases hl) (λ_=>⟨tv,tv⟩) ⟨λ_=>by rw[h2,he];show anT e.den= .bool v;rw[Hl],λq=>(q λl hl=>by cases hl).elim⟩;exact k A' S' _ w' h5 hB
    rename_i qD;have e:(match hintOf hn d,out.sy with
     |some v,.one (.b e)=>(⟨out.cs++[e.is v],out.hs,az (d,az ⟨[],.one (.b (.lit v))⟩),out.re⟩:um)
     |_,y=>⟨out.cs,out.hs,az (d,az ⟨[],y⟩),out.re⟩)=⟨out.cs,out.hs,az (d,az ⟨[],out.sy⟩),out.re⟩:=by
     split
     .rename_i v e hv he;exact(qD v e hv he).elim
     rfl
    rw[e] at qG k;exact plain kO qG λA' S' a' w' q=>k A' S' a' w' q hB
  |cons l C=>
   obtain⟨out,ho,h⟩:=Tr.yQ h;split at h
   .rename_i d DZ pM;obtain⟨hCd,h⟩:=jt h;have hCd:∀z∈l::C,z.1≠d:=λz hz e=>by
     have:=bG.1 hCd z hz;rw[e,dR] at this;cases this
    obtain⟨ps,Ma,h⟩:=Iw H h;have e:=Fq h;subst e
    by_cases hC:oK a (l::C)
    .rw[aQ (hw.2 hC)];refine Xs H hC hF ho (λp hp=>imp_elim (kO _ (bz.2 ⟨p,hp,rfl⟩)) (Ma hC)) qG (λp hp=>by rw[DZ] at hp;cases hp) λv w' ⟨A',S',h1,h2,h3,h4⟩=>?_;rw[DZ] at h1 h3;have h5:=h1.put (C:=l::C) (d:=d) (y:=out.sy) (u:=v) (hdn d pM) (rB d pM) hCd (λ_=>⟨h3,h4⟩) ⟨λ_=>h2,λq=>(q hC).elim⟩;rw[pM];exact k A' S' _ w' (h5.agree (lQ.refl _ _) λj hj=>hj) (λp hp=>by cases hp)
    rw[aP (λq=>hC (hw.1 q)),pM];have h5:=H.put (C:=l::C) (d:=d) (y:=out.sy) (u:=aL) (hdn d pM) (rB d pM) hCd (λq=>(hC q).elim) ⟨λq=>(hC q).elim,λ_=>rfl⟩;exact k A S _ w (h5.agree (lQ.refl _ _) λj hj=>.inl hj) (λp hp=>by cases hp)
   cases h
 rw[aP (by rw[hw];decide)];have e:=Fq h;subst e;cases pM:op.dst with
 |none=>
  rw[pM] at k;exact k A S _ w (H.agree (lQ.refl _ _) λj hj=>.inl hj) (λp hp=>by cases hp)
 |some d=>
  rw[pM] at k;have h5:=H.put (C:=[]) (d:=d) (y:=.one (.v (.tuple #[]))) (u:=aL) (hdn d pM) (rB d pM) (λl hl=>by cases hl) (λ_=>⟨tv,tv⟩) ⟨λ_=>rfl,λq=>(q λl hl=>by cases hl).elim⟩;exact k A S _ w (h5.agree (lQ.refl _ _) λj hj=>.inl hj) (λp hp=>by cases hp)
end
def Xt (x:ai (ah×ai E2))(en:aa (ah×ai E2)):aa (ah×ai E2):=match x with
 |none=>en
 |some p=>p::en
def J8 (en:aa (ah×ai E2))(d:ai ah):ak:=match d with
 |none=>aC
 |some d=>en.all λp=>match p.2 with
  |some ⟨[],_⟩=>aC
  |some e=>e.ch.all λl=>!Nat.beq l.1 d
  |none=>aC
section
variable (P:aY)(T:aa (lM P))(sd:ah)(hn:aa (ah×ak))(n:ah)(ops:aq bf)(s0:ah->ai E2)(r0:ah->ai R2)
def Ac:aa bf->ah->aa (ah×ai E2)->aa (ah×ai R2)->ai (aa um)
 |[],_,_,_=>az []
 |o::l,b,en,re=>match J8 en o.dst with
  |true=>match(stepG P T sd hn n ops b o).run (mN s0 en) (jB r0 re) with
   |some u=>match Ac l (b+sd) (Xt u.sl en) (u.re++re) with
    |some us=>az (u::us)
    |none=>aA
   |none=>aA
  |false=>aA
end
def sK:aa um->aa (ah×ai E2)->aa (ah×ai E2)
 |[],en=>en
 |u::us,en=>sK us (Xt u.sl en)
def sL:aa um->aa (ah×ai R2)->aa (ah×ai R2)
 |[],re=>re
 |u::us,re=>sL us (u.re++re)
section
variable {P:aY}{o:jO}{n:ah}{A A':jU}{S S':jv}{F G:ah->Prop}{s s' s0:ah->ai E2}{r r0:ah->ai R2}{a:Act}{w w':aN}{b:ah}{T:aa (lM P)}{sd:ah}{hn:aa (ah×ak)}{ops:aq bf}{Q:Exit->Act->aN->Prop}
theorem kW.less (H:kW o n A S F s r a w)(hs:∀t e,s' t=az e->s t=az e):kW o n A S F s' r a w:=
 ⟨H.size,H.lK,λt e he=>H.env t e (hs t e he),λt e he=>H.rH t e (hs t e he),H.lq,H.jM,H.args,H.wj⟩
theorem u6 (s:ah->ai E2)(x:ai (ah×ai E2))(en:aa (ah×ai E2)):mN s (Xt x en)=abX (mN s en) x:=by cases x<;>rfl
theorem DE (s:ah->ai E2):∀x y:aa (ah×ai E2),mN s (x++y)=mN (mN s y) x
 |[],_=>rfl
 |p::x,y=>by show ua (mN s (x++y)) p.1 p.2=_;rw[DE s x y];rfl
theorem uJ:∀ {en:aa (ah×ai E2)} {t:ah} {e:E2},mN s0 en t=az e->s0 t=az e\/(t,az e)∈en
 |[],t,e,h=>.inl h
 |p::en,t,e,h=>by
  have h:ua (mN s0 en) p.1 p.2 t=az e:=h
  by_cases q:p.1=t
  .grind [nM,aZ]
  rw[tA q] at h;exact(uJ h).imp id (bl _)
theorem Iy {en:aa (ah×ai E2)}{d:ai ah}(h0:∀t e,s0 t=az e->e.ch=[])(h:J8 en d=aC):∀d',d=az d'->∀t e,mN s0 en t=az e->∀l∈e.ch,l.1≠d':=by
 intro d' hd t e he l hl;subst hd;rcases uJ he with h1|h1
 .rw[h0 t e h1] at hl;cases hl
 have:=bG.1 h _ h1;intro q;obtain⟨ch,y⟩:=e;cases ch with
 |nil=>cases hl
 |cons c ch=>
  have:=bG.1 this l hl;rw[q,dR] at this;cases this
theorem Iz {p:ah×ai R2}:∀ {us:aa um} {re:aa (ah×ai R2)},p∈re->p∈sL us re
 |[],_,h=>h
 |u::us,re,h=>Iz (us:=us) (bV _ h)
theorem J9 {r r':ah->ai R2}(h:∀j x,r j=az x->r' j=az x):∀ {re:aa (ah×ai R2)} {j:ah} {x:R2},jB r re j=az x->jB r' re j=az x
 |[],j,x,k=>h j x k
 |p::re,j,x,k=>by
  have k:sG (jB r re) p.1 p.2 j=az x:=k;show sG (jB r' re) p.1 p.2 j=az x
  by_cases q:p.1=j
  .subst q;rw[mu] at k ⊢;exact k
  rw[m9 q] at k ⊢;exact J9 h k
theorem IA {r0':ah->ai R2}(h:∀j x,r0 j=az x->r0' j=az x):∀ {l:aa bf} {b:ah} {en:aa (ah×ai E2)} {re:aa (ah×ai R2)} {us:aa um},Ac P T sd hn n ops s0 r0 l b en re=az us->Ac P T sd hn n ops s0 r0' l b en re=az us
 |[],b,en,re,us,k=>k
 |op::l,b,en,re,us,k=>by
  simp only[Ac] at k ⊢;split at k
  .split at k
   .rename_i u hu;split at k
    .rename_i us' TS;cases k;have h1:=Tr.mono (λ_ _ q=>q) (λj x q=>J9 (re:=re) h q) _ hu;simp only[h1,IA h TS]
    cases k
   cases k
  cases k
theorem BB {L:ah->Prop}{rest:aa bf}(h0:∀t e,s0 t=az e->e.ch=[]):∀ {l:aa bf} {b:ah} {en:aa (ah×ai E2)} {re:aa (ah×ai R2)} {us:aa um} {A:jU} {S:jv} {F:ah->Prop} {a:Act} {w:aN},
  Ac P T sd hn n ops s0 r0 l b en re=az us->kW o n A S F (mN s0 en) (jB r0 re) a w->(∀j,b<=j->L j->¬F j)->(∀j,j<b+sd*l.length->L j)->(∀u∈us,∀p∈u.cs,p)->(∀u∈us,∀h∈u.hs,∀A w,h.lhs A w=h.rhs A w)->
  (∀A' S' F' a' w',kW o n A' S' F' (mN s0 (sK us en)) (jB r0 (sL us re)) a' w'->(∀j,b+sd*l.length<=j->L j->¬F' j)->(∀j,F' j->F j\/∃x,(j,x)∈sL us re)->wpList P ops Q rest a' w')->wpList P ops Q (l++rest) a w
 |[],b,en,re,us,A,S,F,a,w,h,H,hF,_,_,_,k=>by
  cases h;exact k A S F a w H (by simpa using hF) λj hj=>.inl hj
 |op::l,b,en,re,us,A,S,F,a,w,h,H,hF,hL,kO,qG,k=>by
  simp only[Ac] at h;have hlen:sd*(op::l).length=sd*l.length+sd:=by rw[b7,apq]
  split at h
  .rename_i Xu;split at h
   .rename_i u hu;split at h
    .rename_i us' TS;cases h;simp only[List.cons_append,wpList];have BC:=MJ (Q:=Q) (K:=wpList P ops Q (l++rest)) H (λj h1 h2=>hF j h1 (hL j (by omega))) hu (kO u (by simp)) (qG u (by simp)) (Iy h0 Xu) λA' S' a' w' H' hB=>by
      refine BB h0 TS (by rw[u6,mh];exact H') (λj hj hLj hn=>?_) (λj hj=>hL j (by omega)) (λv hv=>kO v (bl _ hv)) (λv hv=>qG v (bl _ hv)) λA2 S2 F2 a2 w2 H2 hF2 hF3=>k A2 S2 F2 a2 w2 H2 (λj hj=>hF2 j (by omega)) λj hj=>?_
      .rcases hn with hn|⟨x,hx⟩
       .exact hF j (by omega) hLj hn
       have:=hB _ hx;omega
      rcases hF3 j hj with(q|⟨x,hx⟩)|q
      .exact .inl q
      .exact .inr ⟨x,Iz (us:=us') (bU _ hx)⟩
      exact .inr q
     split
     .rename_i hw;rw[aQ hw] at BC;exact .inl BC
     rename_i hw;rw[aP hw] at BC;exact BC
    cases h
   cases h
  cases h
def yR:aa (ah×ai E2)->aa (ah×ai E2)
 |[]=>[]
 |(t,az ⟨[],y⟩)::l=>(t,az ⟨[],y⟩)::yR l
 |(t,_)::l=>(t,aA)::yR l
theorem zB (h0:∀t e,s0 t=az e->e.ch=[]):∀ {en:aa (ah×ai E2)} {t:ah} {e:E2},mN s0 (yR en) t=az e->mN s0 en t=az e/\e.ch=[]
 |[],t,e,h=>⟨h,h0 t e h⟩
 |(d,x)::en,t,e,h=>by
  have ih:mN s0 (yR en) t=az e->mN s0 en t=az e/\e.ch=[]:=zB h0;have gone:ua (mN s0 (yR en)) d aA t=az e->ua (mN s0 en) d x t=az e/\e.ch=[]:=λh=>by
   by_cases q:d=t
   .subst q;rw[nM] at h;cases h
   rw[tA q] at h ⊢;exact ih h
  match x,h with
  |none,h=>exact gone h
  |some ⟨_::_,y⟩,h=>exact gone h
  |some ⟨[],y⟩,h=>
   have h:ua (mN s0 (yR en)) d (az ⟨[],y⟩) t=az e:=h;show ua (mN s0 en) d (az ⟨[],y⟩) t=az e/\e.ch=[]
   by_cases q:d=t
   .subst q;rw[nM] at h ⊢;cases h;exact⟨rfl,rfl⟩
   rw[tA q] at h ⊢;exact ih h
end
def qu (ops:aa bf)(i:ah):aa ah:=match ops[i]? with
 |some o=>(o.after.toList.filter (Region.binds .any)).map (·.on)
 |none=>[]
def CJ (ms:aa ah):aa ah->ah
 |[]=>0
 |d::l=>ap6 (ap6 (aq7 1 d) (ms.getD d 0)) (CJ ms l)
def Ka (dp:ah->aa ah):ah->aa ah
 |0=>[]
 |k+1=>Ka dp k++[CJ (Ka dp k) (dp k)]
theorem Em (dp:ah->aa ah):∀k,(Ka dp k).length=k
 |0=>rfl
 |k+1=>by simp[Ka,Em dp k]
theorem xK (dp:ah->aa ah){i:ah}:∀ {k:ah},i<k->(Ka dp k).getD i 0=CJ (Ka dp i) (dp i)
 |k+1,h=>by
  rw[Ka,bD]
  by_cases q:i<k
  .rw[eY (by rw[Em];exact q),<-bD,xK dp q]
  have:i=k:=by omega
  subst this;rw[dP (by rw[Em];exact aW _),Em,dx];rfl
theorem Xv (a b j:ah):(ap6 a b).testBit j=(a.testBit j||b.testBit j):=Nat.testBit_or a b j
theorem abY {d j:ah}(h:(aq7 1 d).testBit j=aC):j=d:=by
 have:(1<<<d).testBit j=aC:=h;rw[Nat.shiftLeft_eq,Nat.one_mul,Nat.testBit_two_pow] at this
 grind
theorem AL {ms:aa ah}{j:ah}:∀ {l:aa ah},(CJ ms l).testBit j=aC->∃d∈l,j=d\/(ms.getD d 0).testBit j=aC
 |[],h=>by simp[CJ] at h
 |d::l,h=>by
  rw[CJ,Xv,e7,Xv,e7] at h;rcases h with(h|h)|h
  .exact⟨d,by simp,.inl (abY h)⟩
  .exact⟨d,by simp,.inr h⟩
  obtain⟨e,he,q⟩:=AL h
  grind
theorem abZ {dp:ah->aa ah}{N:ah}(hd:∀i,i<N->∀d∈dp i,d<i):∀ {i j:ah},i<N->((Ka dp N).getD i 0).testBit j=aC->j<i:=by
 intro i
 induction i using apd with
 |_ i ih=>
  intro j hi h;rw[xK dp hi] at h;obtain⟨d,Rr,h⟩:=AL h;have:=hd i hi d Rr;rcases h with h|h
  .omega
  have h2:=ih d this (by omega) (j:=j) (by rw[xK dp (by omega)];rwa[xK dp this] at h);omega
theorem Rt {dp:ah->aa ah}{N:ah}(hd:∀i,i<N->∀d∈dp i,d<i){X:ah->ak}(hX:∀i,i<N->X i=aC->∀d∈dp i,X d=aC):∀ {i j:ah},i<N->(∀d∈dp i,X d=aC)->((Ka dp N).getD i 0).testBit j=aC->X j=aC:=by
 intro i
 induction i using apd with
 |_ i ih=>
  intro j hi rR h;rw[xK dp hi] at h;obtain⟨d,Rr,h⟩:=AL h;have:=hd i hi d Rr;rcases h with h|h
  .subst h;exact rR j Rr
  exact ih d this (by omega) (hX d (by omega) (rR d Rr)) (by rw[xK dp (by omega)];rwa[xK dp this] at h)
def yw (us:aa um)(k:ah):ai (ah×ai E2):=(us[k]?).bind (·.sl)
def xL (us:aa um)(k:ah):aa (ah×ai R2):=match us[k]? with
 |some u=>u.re
 |none=>[]
def xM (us:aa um)(X:ah->ak):ah->aa (ah×ai E2)
 |0=>[]
 |k+1=>match X k with
  |true=>Xt (yw us k) (xM us X k)
  |false=>xM us X k
def xN (us:aa um)(X:ah->ak):ah->aa (ah×ai R2)
 |0=>[]
 |k+1=>match X k with
  |true=>xL us k++xN us X k
  |false=>xN us X k
section
variable {s0:ah->ai E2}{r0:ah->ai R2}{us:aa um}{X Y:ah->ak}
theorem xO {s:ah->ai E2}{x:ai (ah×ai E2)}{t:ah}(h:∀e,x≠az (t,e)):abX s x t=s t:=by
 cases x with
 |none=>rfl
 |some p=>exact tA λq=>h p.2 (by rw[<-q])
theorem wH {t:ah}:∀ {K:ah},(∀k,k<K->∀e,yw us k=az (t,e)->X k=Y k)->mN s0 (xM us X K) t=mN s0 (xM us Y K) t
 |0,_=>rfl
 |K+1,h=>by
  have ih:=wH (K:=K) λk hk=>h k (by omega)
  by_cases q:∃e,yw us K=az (t,e)
  .obtain⟨e,he⟩:=q;have hxy:=h K (by omega) e he;simp only[xM,hxy];split
   .rw[u6,u6,he];show ua _ t e t=ua _ t e t;rw[nM,nM]
   exact ih
  have h1:∀(Z:ah->ak),mN s0 (xM us Z (K+1)) t=mN s0 (xM us Z K) t:=λZ=>by
   simp only[xM];split
   .rw[u6];exact xO λe he=>q ⟨e,he⟩
   rfl
  rw[h1,h1,ih]
theorem wJ {j:ah}:∀ {K:ah},(∀k,k<K->(∃x,(j,x)∈xL us k)->X k=Y k)->jB r0 (xN us X K) j=jB r0 (xN us Y K) j
 |0,_=>rfl
 |K+1,h=>by
  have ih:=wJ (K:=K) λk hk=>h k (by omega)
  by_cases q:∃x,(j,x)∈xL us K
  .have hxy:=h K (by omega) q;simp only[xN,hxy];split
   .rw[mh,mh];exact J1 q _ _
   exact ih
  have h1:∀(Z:ah->ak),jB r0 (xN us Z (K+1)) j=jB r0 (xN us Z K) j:=λZ=>by
   simp only[xN];split
   .rw[mh];exact qt q _
   rfl
  rw[h1,h1,ih]
theorem En {t i:ah}:∀ {K:ah},i<=K->(∀k,i<=k->k<K->∀e,yw us k=az (t,e)->X k=aD)->mN s0 (xM us X K) t=mN s0 (xM us X i) t
 |0,h,_=>by rw[show i=0 by omega]
 |K+1,h,hk=>by
  by_cases q:i=K+1
  .rw[q]
  rw[<-En (K:=K) (by omega) λk h1 h2=>hk k h1 (by omega)];simp only[xM];split
  .rename_i hx;rw[u6];refine xO λe he=>?_;have:=hk K (by omega) (by omega) e he;rw[hx] at this;cases this
  rfl
theorem Eo {j i:ah}:∀ {K:ah},i<=K->(∀k,i<=k->k<K->(∃x,(j,x)∈xL us k)->X k=aD)->jB r0 (xN us X K) j=jB r0 (xN us X i) j
 |0,h,_=>by rw[show i=0 by omega]
 |K+1,h,hk=>by
  by_cases q:i=K+1
  .rw[q]
  rw[<-Eo (K:=K) (by omega) λk h1 h2=>hk k h1 (by omega)];simp only[xN];split
  .rename_i hx;rw[mh];refine qt (λhe=>?_) _;have:=hk K (by omega) (by omega) he;rw[hx] at this;cases this
  rfl
theorem Xw {i N:ah}(hi:i<N)(hX:X i=aD)(hY:∀k,Y k=(X k||decide (k=i)))(hc:∀k,k<N->X k=aC->i<k->∀t e e',yw us i=az (t,e)->yw us k≠az (t,e')):abX (mN s0 (xM us X N)) (yw us i)=mN s0 (xM us Y N):=by
 funext t
 by_cases q:∃e,yw us i=az (t,e)
 .obtain⟨e,he⟩:=q;rw[En (i:=i+1) (X:=Y) (by omega) λk h1 h2 e' VO=>?_]
  .have hy:Y i=aC:=by rw[hY];simp
   simp only[xM,hy];rw[u6,he];show ua _ t e t=ua _ t e t;rw[nM,nM]
  rw[hY];cases hx:X k with
  |true=>exact(hc k h2 hx (by omega) t e e' he VO).elim
  |false=>simp;omega
 rw[xO λe he=>q ⟨e,he⟩];refine wH λk hk e he=>?_;have:k≠i:=λz=>q ⟨e,by rw[<-z];exact he⟩;rw[hY,cV this,aoU]
theorem Xx {i N:ah}(hi:i<N)(hX:X i=aD)(hY:∀k,Y k=(X k||decide (k=i)))(hc:∀k,k<N->X k=aC->i<k->∀j x x',(j,x)∈xL us i->(j,x')∉xL us k):jB (jB r0 (xN us X N)) (xL us i)=jB r0 (xN us Y N):=by
 funext j
 by_cases q:∃x,(j,x)∈xL us i
 .rw[Eo (i:=i+1) (X:=Y) (by omega) λk h1 h2 O7=>?_]
  .have hy:Y i=aC:=by rw[hY];simp
   have e:xN us Y (i+1)=xL us i++xN us Y i:=by simp only[xN,hy]
   rw[e,mh r0 (xL us i) (xN us Y i)];exact J1 q _ _
  grind
 rw[qt q];refine wJ λk hk he=>?_;have:k≠i:=λz=>q (by rw[<-z];exact he);rw[hY,cV this,aoU]
end
def IB (M:aa ah)(i j:ah):ak:=!Nat.beq i j && (!(M.getD i 0).testBit j && !(M.getD j 0).testBit i)
def Xy (U:aa ah)(us:aa um)(t:ah):ak:=U.any λj=>match yw us j with
 |some p=>bp p.1 t
 |none=>aD
def Xz (U:aa ah)(us:aa um)(j:ah):ak:=U.any λk=>(xL us k).any λp=>bp p.1 j
def MK {α:Type}(h:ah->ak)(f:ah->ai α):ah->ai α:=λt=>match h t with
 |true=>aA
 |false=>f t
def XA (N:ah)(f:ah->ak):ak:=(bT N).all f
theorem zC {N:ah}{f:ah->ak}(h:XA N f=aC){i:ah}(hi:i<N):f i=aC:=bG.1 h i (de.2 hi)
def Kb (us:aa um)(k:ah):aa ah:=match yw us k with
 |some (_,az e)=>e.ch.map (·.1)
 |_=>[]
section
variable (P:aY)(T:aa (lM P))(sd:ah)(hn:aa (ah×ak))(n:ah)(ops:aq bf)(s0:ah->ai E2)(r0:ah->ai R2)(b:ah)(us:aa um)
def XB (M:aa ah)(i:ah):ak:=
 match ops[i]? with
 |some o=>((stepG P T sd hn n ops (b+sd*i) o).run (MK (Xy ((bT ops.size).filter (IB M i)) us) (mN s0 (xM us (M.getD i 0).testBit ops.size))) (MK (Xz ((bT ops.size).filter (IB M i)) us) (jB r0 (xN us (M.getD i 0).testBit ops.size)))).isSome
 |none=>aD
def Ke (i j:ah):ak:=
 (match yw us i,yw us j with
  |some p,az q=>!Nat.beq p.1 q.1
  |_,_=>aC) && (xL us i).all λp=>(xL us j).all λq=>!Nat.beq p.1 q.1
def aiZ (M:aa ah)(i:ah):ak:=(xL us i).all λp=>bP p.1 b||(let k:=(p.1-b)/sd;bp k i||(M.getD i 0).testBit k)
def ML (M:aa ah):ak:=
 (bP 0 sd && XA ops.size (λi=>(qu ops.toList i).all λd=>bP d i)) && (XA ops.size (λi=>XB P T sd hn n ops s0 r0 b us M i && aiZ sd b us M i) && XA ops.size λi=>XA ops.size λj=>(!IB M i j||Ke us i j) && ((Kb us j).all λt=>(match(ops[i]?).bind (·.dst) with
  |some d=>!Nat.beq d t||((M.getD j 0).testBit i)
  |none=>aC)))
end
def cnt (X:ah->ak):ah->ah
 |0=>0
 |k+1=>cnt X k+(match X k with|true=>0|false=>1)
theorem MM:∀N,cnt (λ_=>aD) N=N
 |0=>rfl
 |k+1=>by rw[cnt,MM k]
theorem MN {X:ah->ak}:∀ {N:ah},cnt X N=0->∀k,k<N->X k=aC
 |N+1,h,k,hk=>by
  rw[cnt] at h
  by_cases q:k=N
  .grind
  exact MN (N:=N) (by omega) k (by omega)
theorem BD {X Y:ah->ak}:∀ {N:ah},(∀k,k<N->X k=Y k)->cnt X N=cnt Y N
 |0,_=>rfl
 |N+1,h=>by rw[cnt,cnt,BD λk hk=>h k (by omega),h N (by omega)]
theorem MO {X Y:ah->ak}{i:ah}(hX:X i=aD)(hY:∀k,Y k=(X k||decide (k=i))):∀ {N:ah},i<N->cnt Y N+1=cnt X N
 |N+1,h=>by
  rw[cnt,cnt]
  by_cases q:i=N
  .subst q;have e:cnt Y i=cnt X i:=BD λk hk=>by rw[hY,cV (by omega),aoU]
   rw[e,hX,hY i];simp
  have:=MO hX hY (N:=N) (by omega);have e:Y N=X N:=by rw[hY,cV (λz=>q z.symm),aoU]
  rw[e];omega
section
variable {P:aY}{o:jO}{n:ah}{A A':jU}{S S':jv}{F G:ah->Prop}{s0:ah->ai E2}{r0:ah->ai R2}{a:Act}{w w':aN}{b:ah}{T:aa (lM P)}{sd:ah}{hn:aa (ah×ak)}{ops:aq bf}{Q:Exit->Act->aN->Prop}
theorem IC {full:aa um}:∀ {l:aa bf} {k:ah} {us pre:aa um},full=pre++us->pre.length=k->Ac P T sd hn n ops s0 r0 l (b+sd*k) (xM full (λ_=>aC) k) (xN full (λ_=>aC) k)=az us->
  us.length=l.length/\∀i op,l[i]?=az op->∃u,full[k+i]?=az u/\(stepG P T sd hn n ops (b+sd*(k+i)) op).run (mN s0 (xM full (λ_=>aC) (k+i))) (jB r0 (xN full (λ_=>aC) (k+i)))=az u
 |[],k,us,pre,_,_,h=>by
  cases h;exact⟨rfl,λi op hi=>by simp at hi⟩
 |op::l,k,us,pre,aeR,hk,h=>by
  simp only[Ac] at h;split at h
  .split at h
   .rename_i u hu;split at h
    .rename_i us' TS;cases h;have wC:full[k]?=az u:=by rw[aeR,dP (by omega),hk,dx];rfl
     have VK:xM full (λ_=>aC) (k+1)=Xt u.sl (xM full (λ_=>aC) k):=by simp only[xM,yw,wC,apc]
     have DZ:xN full (λ_=>aC) (k+1)=u.re++xN full (λ_=>aC) k:=by simp only[xN,xL,wC]
     obtain⟨h1,h2⟩:=IC (full:=full) (l:=l) (k:=k+1) (us:=us') (pre:=pre++[u]) (by rw[aeR];simp) (by simp[hk]) (by rw[VK,DZ,show b+sd*(k+1)=b+sd*k+sd by rw[apq];omega];exact TS);refine⟨by simp[h1],λi op' hi=>?_⟩;cases i with
     |zero=>
      have:op=op':=by simpa using hi
      subst this;exact⟨u,by simpa using wC,by simpa using hu⟩
     |succ i=>
      obtain⟨u',k1,k2⟩:=h2 i op' (by simpa using hi);exact⟨u',by rw[show k+(i+1)=k+1+i by omega];exact k1,by rw[show k+(i+1)=k+1+i by omega];exact k2⟩
    cases h
   cases h
  cases h
theorem zD {α:Type}{h:ah->ak}{f g:ah->ai α}(k:∀t,h t=aD->f t=g t):∀t e,MK h f t=az e->g t=az e:=by
 grind [MK]
theorem Ru {sd b i q j:ah}(h1:b+sd*q<=j)(h2:j<b+sd*q+sd)(h3:b+sd*i<=j)(h4:j<b+sd*i+sd):q=i:=by
 rcases Nat.lt_trichotomy q i with h|h|h
 .have:=aoV sd (show q+1<=i from h)
  grind
 .exact h
 have:=aoV sd (show i+1<=q from h)
 grind
theorem ID {us:aa um}(h0:∀t e,s0 t=az e->e.ch=[])(D4:Ac P T sd hn n ops s0 r0 ops.toList b [] []=az us){M:aa ah}(hM:M=Ka (qu ops.toList) ops.size)(LQ:ML P T sd hn n ops s0 r0 b us M=aC)
  (pz:ah) (kO:∀i u,us[i]?=az u->i≠pz->(M.getD i 0).testBit pz=aD->(∀p∈u.cs,p)/\∀h∈u.hs,∀A w,h.lhs A w=h.rhs A w)
  (k:ops.size<=pz->∀A' S' F' a' w',kW o n A' S' F' (mN s0 (xM us (λ_=>aC) ops.size)) (jB r0 (xN us (λ_=>aC) ops.size)) a' w'->(∀j,b+sd*ops.size<=j->¬F' j)->Q .normal a' w')
  (pan:∀i,i=pz->∀op,ops[i]?=az op->∀(A:jU) (S:jv) (F:ah->Prop) (X:ah->ak) (a:Act) (w:aN),kW o n A S F (mN s0 (xM us X ops.size)) (jB r0 (xN us X ops.size)) a w->(∀j,b+sd*i<=j->j<b+sd*i+sd->¬F j)->
   (∀t e,MK (Xy ((bT ops.size).filter (IB M i)) us) (mN s0 (xM us (M.getD i 0).testBit ops.size)) t=az e->mN s0 (xM us X ops.size) t=az e)->(∀t e,MK (Xz ((bT ops.size).filter (IB M i)) us) (jB r0 (xN us (M.getD i 0).testBit ops.size)) t=az e->jB r0 (xN us X ops.size) t=az e)->
   op.guard=aA/\∀K,op.wp P a w K Q)
  (H:kW o n A S F s0 r0 a w) (hF:∀j,b<=j->¬F j):wpAny P .any ops Q ops.size (eN ops.size aD) a w:=by
 obtain⟨hlen,ai0⟩:=IC (b:=b) (full:=us) (us:=us) (k:=0) (pre:=[]) (by simp) rfl (by simpa[xM,xN] using D4);rw[cU] at hlen;unfold ML at LQ;simp only[bB] at LQ;obtain⟨⟨hsd,hd⟩,hv,hu⟩:=LQ;have hsd:0<sd:=by simpa using cw▸hsd
 have ab0:∀i,i<ops.size->∀d∈qu ops.toList i,d<i:=λi hi d Rr=>by
  have:=bG.1 (zC hd hi) d Rr;simpa using cw▸this
 have mlt:∀ {i j:ah},i<ops.size->(M.getD i 0).testBit j=aC->j<i:=λhi h=>abZ ab0 hi (by rw[<-hM];exact h);have apart:∀ {i j:ah},i<ops.size->j<ops.size->IB M i j=aC->Ke us i j=aC:=λ{i j} hi hj VP=>by
  have:=zC (zC hu hi) hj;rw[bB,VP] at this;simpa using this.1
 have agn:∀ {i j d t:ah},i<ops.size->j<ops.size->(ops[i]?).bind (·.dst)=az d->t∈Kb us j->d=t->(M.getD j 0).testBit i=aC:=λ{i j d t} hi hj pM ht e=>by
  have:=zC (zC hu hi) hj;rw[bB] at this;have:=bG.1 this.2 t ht;rw[pM] at this;subst e;simpa[dR] using this
 have core:∀(fuel:ah) (listed:aq ak) (a:Act) (w:aN) (A:jU) (S:jv) (F:ah->Prop),listed.size=ops.size->cnt (λi=>listed.getD i aD) ops.size=fuel->
   (∀i,i<ops.size->listed.getD i aD=aC->∀d∈qu ops.toList i,listed.getD d aD=aC)->(pz<ops.size->listed.getD pz aD=aD)->
   kW o n A S F (mN s0 (xM us (λi=>listed.getD i aD) ops.size)) (jB r0 (xN us (λi=>listed.getD i aD) ops.size)) a w->
   (∀j,b<=j->F j->∃i,i<ops.size/\listed.getD i aD=aC/\b+sd*i<=j/\j<b+sd*i+sd)->wpAny P .any ops Q fuel listed a w:=by
  intro fuel
  induction fuel with
  |zero=>
   intro listed a w A S F oC hc TX hpz H hFX;have nH:=MN hc;have ago:aq9 .any ops listed=[]:=by
    refine List.eq_nil_iff_forall_not_mem.2 λi hi=>?_;obtain⟨h1,op,nN,_⟩:=mem_ready.1 hi;have rR:i<ops.size:=(di.1 nN).1;have h3:=nH i rR;rw[cP] at h1 h3;rw[anO (by omega)] at h1 h3;simp only[eV] at h1 h3;rw[h1] at h3;cases h3
   refine⟨ago,?_⟩;have e1:mN s0 (xM us (λi=>listed.getD i aD) ops.size)=mN s0 (xM us (λ_=>aC) ops.size):=funext λt=>wH λi hi _ _=>nH i hi;have e2:jB r0 (xN us (λi=>listed.getD i aD) ops.size)=jB r0 (xN us (λ_=>aC) ops.size):=funext λt=>wJ λi hi _=>nH i hi;rw[e1,e2] at H;refine k (aon λq=>by have:=hpz q;rw[nH pz q] at this;cases this) A S F a w H λj hj hn=>?_;obtain⟨i,h1,_,h3,h4⟩:=hFX j (by omega) hn;have:=aoV sd (show i+1<=ops.size from h1);rw[apq] at this;omega
  |succ fuel ih=>
   intro listed a w A S F oC hc TX hpz H hFX;constructor
   ·
    intro yp;exfalso;have hex:∃i,i<ops.size/\listed.getD i aD=aD:=by
     refine dg λq=>?_;have:cnt (λi=>listed.getD i aD) ops.size=cnt (λ_=>aC) ops.size:=BD λi hi=>by
      cases hx:listed.getD i aD with
      |true=>rfl
      |false=>exact(q ⟨i,hi,hx⟩).elim
     have z:∀N,cnt (λ_=>aC) N=0:=λN=>by
      induction N with
      |zero=>rfl
      |succ N ih=>exact ih
     rw[this,z] at hc;cases hc
    obtain⟨i,⟨hi,hx⟩,alG⟩:=L9 (p:=λi=>i<ops.size/\listed.getD i aD=aD) hex.choose hex.choose_spec;have qn:i∈aq9 .any ops listed:=by
     refine mem_ready.2 ⟨?_,ops[i],anO hi,λe he hb=>?_⟩
     .rw[cP,anO (by omega)] at hx ⊢;exact hx
     have alH:e.on∈qu ops.toList i:=by
      unfold qu;rw[show ops.toList[i]?=az ops[i] by simp[anO hi]];exact bz.2 ⟨e,bX.2 ⟨by simpa using he,hb⟩,rfl⟩
     have rG:=ab0 i hi _ alH;cases hy:listed.getD e.on aD with
     |true=>rfl
     |false=>have:=alG e.on ⟨by omega,hy⟩;omega
    rw[yp] at qn;cases qn
   intro i hir;obtain⟨h1,op,nN,ai1⟩:=mem_ready.1 hir;have hi:i<ops.size:=(di.1 nN).1;have ai2:ops.toList[i]?=az op:=by simpa using nN
   have hXi:listed.getD i aD=aD:=by
    rw[cP,anO (by omega)] at h1 ⊢;exact h1
   have hdX:∀d∈qu ops.toList i,listed.getD d aD=aC:=λd Rr=>by
    unfold qu at Rr;rw[ai2] at Rr;obtain⟨e,he,rfl⟩:=bz.1 Rr;obtain⟨he1,he2⟩:=bX.1 he;exact ai1 e (by simpa using he1) he2
   have min:∀ {j:ah},(M.getD i 0).testBit j=aC->listed.getD j aD=aC:=λh=>Rt ab0 (X:=λj=>listed.getD j aD) TX hi hdX (by rw[<-hM];exact h);have mno:∀ {j:ah},j<ops.size->listed.getD j aD=aC->(M.getD j 0).testBit i=aD:=λ{j} hj hl=>by
    cases hx:(M.getD j 0).testBit i with
    |false=>rfl
    |true=>
     have:=Rt ab0 (X:=λj=>listed.getD j aD) TX hj (TX j hj hl) (by rw[<-hM];exact hx);rw[hXi] at this;cases this
   have ne:∀ {j:ah},listed.getD j aD=aC->i≠j:=λhl e=>by subst e;rw[hXi] at hl;cases hl
   have un:∀ {j:ah},j<ops.size->listed.getD j aD=aC->(M.getD i 0).testBit j=aD->IB M i j=aC:=λ{j} hj hl hb=>by
    unfold IB;rw[hb,mno hj hl];have:bp i j=aD:=by
     cases hx:bp i j with
     |false=>rfl
     |true=>exact(ne hl (j9 hx)).elim
    rw[this];rfl
   obtain⟨u,hu1,hu2⟩:=ai0 i op ai2;rw[cZ] at hu1 hu2;have hvk:=zC hv hi;rw[bB] at hvk;have⟨XC,yb⟩:=hvk;unfold XB at XC;rw[nN] at XC;obtain⟨u',hu'⟩:=bS.1 XC;have Rw:∀ {t j:ah} {e:ai E2},Xy ((bT ops.size).filter (IB M i)) us t=aD->j<ops.size->yw us j=az (t,e)->IB M i j=aD:=λ{t j e} hh hj hs=>by
    cases hx:IB M i j with
    |false=>rfl
    |true=>
     have:=ara.1 hh j (bX.2 ⟨de.2 hj,hx⟩);rw[hs] at this;exact(this (dR _)).elim
   have Rx:∀ {t j:ah},Xz ((bT ops.size).filter (IB M i)) us t=aD->j<ops.size->(∃x,(t,x)∈xL us j)->IB M i j=aD:=λ{t j} hh hj ⟨x,hs⟩=>by
    cases hx:IB M i j with
    |false=>rfl
    |true=>
     have:=ara.1 hh j (bX.2 ⟨de.2 hj,hx⟩);exact(this (List.any_eq_true.2 ⟨_,hs,dR _⟩)).elim
   have order:∀ {j:ah},j<ops.size->IB M i j=aD->j≠i->(M.getD i 0).testBit j=aC\/(M.getD j 0).testBit i=aC:=λ{j} hj VP qD=>by
    unfold IB at VP;have:bp i j=aD:=by
     cases hx:bp i j with
     |false=>rfl
     |true=>exact(qD (j9 hx).symm).elim
    rw[this] at VP;cases h1:(M.getD i 0).testBit j with
    |true=>exact .inl rfl
    |false=>
     cases h2:(M.getD j 0).testBit i with
     |true=>exact .inr rfl
     |false=>rw[h1,h2] at VP;cases VP
   have ai3:∀t,Xy ((bT ops.size).filter (IB M i)) us t=aD->mN s0 (xM us (M.getD i 0).testBit ops.size) t=mN s0 (xM us (λi=>listed.getD i aD) ops.size) t:=λt ht=>by
    refine wH λj hj e he=>?_;have VP:=Rw ht hj he;cases hx:listed.getD j aD with
    |true=>
     cases hb:(M.getD i 0).testBit j with
     |true=>rfl
     |false=>rw[un hj hx hb] at VP;cases VP
    |false=>
     cases hb:(M.getD i 0).testBit j with
     |true=>have:=min hb;rw[hx] at this;cases this
     |false=>rfl
   have ai4:∀t,Xz ((bT ops.size).filter (IB M i)) us t=aD->jB r0 (xN us (M.getD i 0).testBit ops.size) t=jB r0 (xN us (λi=>listed.getD i aD) ops.size) t:=λt ht=>by
    refine wJ λj hj he=>?_;have VP:=Rx ht hj he;cases hx:listed.getD j aD with
    |true=>
     cases hb:(M.getD i 0).testBit j with
     |true=>rfl
     |false=>rw[un hj hx hb] at VP;cases VP
    |false=>
     cases hb:(M.getD i 0).testBit j with
     |true=>have:=min hb;rw[hx] at this;cases this
     |false=>rfl
   by_cases hip:i=pz
   .obtain⟨hgd,alI⟩:=pan i hip op nN A S F (λi=>listed.getD i aD) a w H (λj Bf Kf Co=>by
     obtain⟨q,q1,q2,q3,q4⟩:=hFX j (by omega) Co;have:q=i:=Ru q3 q4 Bf Kf;subst this;rw[hXi] at q2;cases q2) (zD ai3) (zD ai4)
    unfold wpOp;rw[nN];simp only;rw[aQ (by simp[dh,hgd])];exact .inl (alI _)
   have hnd:(M.getD i 0).testBit pz=aD:=by
    cases hx:(M.getD i 0).testBit pz with
    |false=>rfl
    |true=>
     have h2:=min hx;have h3:=mlt hi hx;rw[hpz (by omega)] at h2;cases h2
   have ai5:u'=u:=by
    have:=Tr.mono (zD λt ht=>?_) (zD λt ht=>?_) _ hu' (s':=mN s0 (xM us (λ_=>aC) i)) (r':=jB r0 (xN us (λ_=>aC) i))
    .rw[hu2] at this;exact(b5 this).symm
    .rw[En (i:=i) (X:=(M.getD i 0).testBit) (by omega) λj Bf Kf e he=>?_]
     .refine wH λj hj e he=>?_;rcases order (by omega) (Rw ht (by omega) he) (by omega) with q|q
      .exact q
      have:=mlt (by omega) q;omega
     cases hx:(M.getD i 0).testBit j with
     |false=>rfl
     |true=>have:=mlt hi hx;omega
    rw[Eo (i:=i) (X:=(M.getD i 0).testBit) (by omega) λj Bf Kf he=>?_]
    .refine wJ λj hj he=>?_;rcases order (by omega) (Rx ht (by omega) he) (by omega) with q|q
     .exact q
     have:=mlt (by omega) q;omega
    cases hx:(M.getD i 0).testBit j with
    |false=>rfl
    |true=>have:=mlt hi hx;omega
   subst ai5;have ai6:(stepG P T sd hn n ops (b+sd*i) op).run (mN s0 (xM us (λi=>listed.getD i aD) ops.size)) (jB r0 (xN us (λi=>listed.getD i aD) ops.size))=az u':=Tr.mono (zD ai3) (zD ai4) _ hu';have qn:u'∈us:=cn hu1;have hsl:yw us i=u'.sl:=by unfold yw;rw[hu1];rfl
   have DZ:xL us i=u'.re:=by unfold xL;rw[hu1]
   have Xu:∀d,op.dst=az d->∀t e,mN s0 (xM us (λi=>listed.getD i aD) ops.size) t=az e->∀l∈e.ch,l.1≠d:=by
    intro d pM t e he l hl q;have ai7:∀K,mN s0 (xM us (λi=>listed.getD i aD) K) t=az e->K<=ops.size->s0 t=az e\/∃j,j<ops.size/\listed.getD j aD=aC/\yw us j=az (t,az e):=by
     intro K
     induction K with
     |zero=>intro h _;exact .inl h
     |succ K ihK=>
      intro h hK;simp only[xM] at h;split at h
      .rename_i hx;rw[u6] at h
       by_cases z:∃e',yw us K=az (t,e')
       .obtain⟨e',VO⟩:=z;rw[VO] at h;have h:ua _ t e' t=az e:=h;rw[nM] at h;subst h;exact .inr ⟨K,by omega,hx,VO⟩
       rw[xO λe' VO=>z ⟨e',VO⟩] at h;exact ihK h (by omega)
      exact ihK h (by omega)
    rcases ai7 _ he (aW _) with h3|⟨j,hj,hjX,hjs⟩
    .rw[h0 t e h3] at hl;cases hl
    have:=agn (i:=i) (j:=j) (d:=d) (t:=l.1) hi hj (by rw[nN];exact pM) (by unfold Kb;rw[hjs];exact bz.2 ⟨l,hl,rfl⟩) q.symm;rw[mno hj hjX] at this;cases this
   unfold wpOp;rw[nN];simp only;have hY:∀q,(listed.setIfInBounds i aC).getD q aD=(listed.getD q aD||decide (q=i)):=λq=>by
    rw[cP,cP,Array.getElem?_setIfInBounds]
    by_cases e:i=q
    .subst e;rw[aQ rfl,aQ (by omega)];simp
    rw[aP e,cV (λz=>e z.symm),aoU]
   have BC:=MJ (Q:=Q) (K:=wpAny P .any ops Q fuel (listed.setIfInBounds i aC)) H (λj Bf Kf Co=>by
     obtain⟨q,q1,q2,q3,q4⟩:=hFX j (by omega) Co;have:q=i:=Ru q3 q4 Bf Kf;subst this;rw[hXi] at q2;cases q2) ai6 (kO i u' hu1 hip hnd).1 (kO i u' hu1 hip hnd).2 Xu λA' S' a' w' H' hB=>by
    refine ih _ a' w' A' S' (FU F u'.re) (by simp[oC]) ?_ (λq hq hql d Rr=>?_) (λq=>by rw[hY,hpz q,cV (λz=>hip z.symm)];rfl) ?_ λj hj Co=>?_
    .have:=MO (X:=λi=>listed.getD i aD) (Y:=λq=>(listed.setIfInBounds i aC).getD q aD) hXi hY hi;rw[hc] at this;omega
    .rw[hY] at hql ⊢;rw[e7] at hql ⊢;rcases hql with hql|hql
     .exact .inl (TX q hq hql d Rr)
     have:=bq hql;subst this;exact .inl (hdX d Rr)
    .rw[<-hsl,<-DZ] at H';rw[Xw (X:=λi=>listed.getD i aD) (Y:=λq=>(listed.setIfInBounds i aC).getD q aD) hi hXi hY λj hj hjX hij t e e' h1 h2=>?_,Xx (X:=λi=>listed.getD i aD) (Y:=λq=>(listed.setIfInBounds i aC).getD q aD) hi hXi hY λj hj hjX hij t e e' h1 h2=>?_] at H'
     .rw[<-DZ];exact H'
     .have hb:(M.getD i 0).testBit j=aD:=by
       cases hx:(M.getD i 0).testBit j with
       |false=>rfl
       |true=>have:=mlt hi hx;omega
      have:=apart hi hj (un hj hjX hb);unfold Ke at this;rw[bB] at this;have:=bG.1 (bG.1 this.2 _ h1) _ h2;rw[dR] at this;cases this
     have hb:(M.getD i 0).testBit j=aD:=by
      cases hx:(M.getD i 0).testBit j with
      |false=>rfl
      |true=>have:=mlt hi hx;omega
     have:=apart hi hj (un hj hjX hb);unfold Ke at this;rw[bB,h1,h2] at this;have:=this.1;simp only[dR] at this;cases this
    rcases Co with Co|⟨x,hx⟩
    .obtain⟨q,q1,q2,q3,q4⟩:=hFX j hj Co;exact⟨q,q1,by rw[hY,q2];rfl,q3,q4⟩
    have hk:=bG.1 (show(xL us i).all _=aC from yb) (j,x) (by rw[DZ];exact hx);simp only[e7] at hk;have hd1:=Nat.div_add_mod (j-b) sd;have hd2:=Nat.mod_lt (j-b) hsd;rcases hk with hk|hk|hk
    .have:j<b:=by simpa using cw▸hk
     omega
    .have:=j9 hk;rw[this] at hd1;refine⟨i,hi,by rw[hY];simp,by omega,by omega⟩
    have hl:=min hk;have rG:=mlt hi hk;exact⟨(j-b)/sd,by omega,by rw[hY,hl];rfl,by omega,by omega⟩
   split
   .rename_i hw;rw[aQ hw] at BC;exact .inl BC
   rename_i hw;rw[aP hw] at BC;exact BC
 have Kg:∀i,(eN ops.size aD).getD i aD=aD:=λi=>by
  rw[cP,Array.getElem?_replicate];split<;>rfl
 have e1:mN s0 (xM us (λi=>(eN ops.size aD).getD i aD) ops.size)=s0:=funext λt=>by
  rw[En (i:=0) (bQ _) λj _ _ _ _=>Kg j];rfl
 have e2:jB r0 (xN us (λi=>(eN ops.size aD).getD i aD) ops.size)=r0:=funext λt=>by
  rw[Eo (i:=0) (bQ _) λj _ _ _=>Kg j];rfl
 refine core ops.size _ a w A S F (by simp) ?_ (λi _ hl=>by rw[Kg] at hl;cases hl) (λ_=>Kg _) (by rw[e1,e2];exact H) λj hj Co=>(hF j hj Co).elim;rw[BD (Y:=λ_=>aD) λi _=>Kg i,MM]
theorem XD {us:aa um}(h0:∀t e,s0 t=az e->e.ch=[])(D4:Ac P T sd hn n ops s0 r0 ops.toList b [] []=az us){M:aa ah}(hM:M=Ka (qu ops.toList) ops.size)(LQ:ML P T sd hn n ops s0 r0 b us M=aC)
  (kO:∀u∈us,∀p∈u.cs,p) (qG:∀u∈us,∀h∈u.hs,∀A w,h.lhs A w=h.rhs A w)
  (k:∀A' S' F' a' w',kW o n A' S' F' (mN s0 (xM us (λ_=>aC) ops.size)) (jB r0 (xN us (λ_=>aC) ops.size)) a' w'->(∀j,b+sd*ops.size<=j->¬F' j)->Q .normal a' w')
  (H:kW o n A S F s0 r0 a w) (hF:∀j,b<=j->¬F j):wpAny P .any ops Q ops.size (eN ops.size aD) a w:=
 ID h0 D4 hM LQ ops.size (λi u hu _ _=>⟨kO u (cn hu),qG u (cn hu)⟩) (λ_=>k) (λi hi op nN=>absurd (di.1 nN).1 (by omega)) H hF
end
structure Mode where
 ro:ai ah
 ds:aa cR
def pl:Mode:=⟨aA,[]⟩
def Mode.F (m:Mode):Fence:={bK with round:=m.ro}
def lG (a:Act)(ds:aa cR):Act:={a with defers:=a.defers++ds}
theorem yS (a:Act):lG a []=a:=by unfold lG;rw[bW]
def ye (m:Mode)(Q:oL):oL:=λe a w=> ∃a0,a=lG a0 m.ds/\Q e a0 w
def _root_.Go.Code.qP (m:Mode)(P:aY)(c:Code)(Q:oL)(a:Act)(w:aN):Prop:=
 ∀(b:Frame) (k:aa Item) (cs:aa Frame),b.roundOf=m.ro->(P.funcs[b.fn]?).isSome=aC->
  ∃e a' w',ye m Q e a' w'/\ArrivesIn (apr P m.F) P (lone (b.atR (lG a m.ds) (.code c::k)) cs w) b k cs e a' w'
section
variable {m:Mode}{P:aY}{Q Q':oL}{a:Act}{w:aN}
theorem qT (n:ah):m.F.room n:=λ_ h=>by cases h
theorem AM {c:Code}(h:c.wpIn m.F 0 P (ye m Q) (lG a m.ds) w):c.qP m P Q a w:=λb k cs yJ _=>h b k cs yJ tv (qT _)
theorem qv {c:Code}(h:c.qP m P Q a w)(k:∀e a w,Q e a w->Q' e a w):c.qP m P Q' a w:=λb k' cs h1 h2=>
 let⟨e,a',w',⟨a0,q1,q2⟩,r⟩:=h b k' cs h1 h2
 ⟨e,a',w',⟨a0,q1,k _ _ _ q2⟩,r⟩
theorem Fs (a:Act)(x y:aa cR):lG (lG a x) y=lG a (x++y):=by simp[lG]
theorem ab1 {c:Code}{ro:ai ah}{d:cR}{ds:aa cR}(h:c.qP ⟨ro,d::ds⟩ P Q a w)(k:∀e a w,Q e a w->Q' e (lG a [d]) w):c.qP ⟨ro,ds⟩ P Q' (lG a [d]) w:=λb k' cs h1 h2=>
 let⟨e,a',w',⟨a0,q1,q2⟩,r⟩:=h b k' cs h1 h2
 ⟨e,a',w',⟨lG a0 [d],by rw[q1,Fs];rfl,k _ _ _ q2⟩,by rw[Fs];exact r⟩
theorem XE (h:Q .normal a w):Code.skip.qP m P Q a w:=AM (wpIn_skip ⟨a,rfl,h⟩)
theorem XF {i:ah}(h:Q (.exit i) a w):(Code.exit i).qP m P Q a w:=AM (wpIn_exit ⟨a,rfl,h⟩)
theorem Ep (h:Q .ret a w):Code.ret.qP m P Q a w:=AM (wpIn_ret ⟨a,rfl,h⟩)
theorem ab2 {x y:Code}(h:x.qP m P (Exit.then (y.qP m P Q) Q) a w):(Code.seq x y).qP m P Q a w:=by
 intro b k cs yJ hb;have h0:(lone (b.atR (lG a m.ds) (.code (.seq x y)::k)) cs w).fenced P m.F:=fenced_calm (n:=0) tv (qT _) rfl;obtain⟨e,AN,vV,⟨a0,q1,hq⟩,r6⟩:=h b (.code y::k) cs yJ hb;cases e with
 |normal=>
  obtain⟨XG,XH,D5,Ft,uC⟩:=(show y.qP m P Q a0 vV from hq) b k cs yJ hb;rw[<-q1] at uC;exact⟨XG,XH,D5,Ft,.of_steps (.head h0 stepR_seq r6) uC⟩
 |_=>exact⟨_,AN,vV,⟨a0,q1,hq⟩,.of_steps (.one h0 stepR_seq) (.pass (x:=.code y) rfl (λ_ _=>.inl (by simp)) r6)⟩
theorem Un {i:ah}{x:Code}(h:x.qP m P (ape i Q) a w):(Code.block i x).qP m P Q a w:=by
 intro b k cs yJ hb;have h0:(lone (b.atR (lG a m.ds) (.code (.block i x)::k)) cs w).fenced P m.F:=fenced_calm (n:=0) tv (qT _) rfl;obtain⟨e,AN,vV,⟨a0,q1,hq⟩,r6⟩:=h b (.inBlock i::k) cs yJ hb;cases e with
 |normal=>exact⟨.normal,AN,vV,⟨a0,q1,hq⟩,.head h0 stepR_block (anE r6 (.one (fenced_calm (n:=0) tv (qT _) rfl) stepR_inBlock))⟩
 |exit j=>
  have hq:if j=i then Q .normal a0 vV else Q (.exit j) a0 vV:=hq
  by_cases hid:j=i
  .rw[aQ hid] at hq;exact⟨.normal,AN,vV,⟨a0,q1,hq⟩,.head h0 stepR_block (r6.1 k (by simp[exitTo,hid]))⟩
  rw[aP hid] at hq;have this:(i==j)=aD:=by simp;exact λh=>hid h.symm
  have hx:exitTo j (.inBlock i::k)=exitTo j k:=by simp[exitTo,this]
  exact⟨.exit j,AN,vV,⟨a0,q1,hq⟩,λk' hk=>.head h0 stepR_block (r6.1 k' (by rw[hx];exact hk)),
   λOO hk=>let⟨k₁,h1,h2⟩:=r6.2 OO (by rw[hx];exact hk);⟨k₁,h1,.head h0 stepR_block h2⟩⟩
 |goto l=>
  have hx:gotoIn l (.inBlock i::k)=gotoIn l k:=by simp[gotoIn]
  exact⟨_,AN,vV,⟨a0,q1,hq⟩,λk' hk=>.head h0 stepR_block (r6.1 k' (by rw[hx];exact hk)),
   λOO hk=>let⟨k₁,h1,h2⟩:=r6.2 OO (by rw[hx];exact hk);⟨k₁,h1,.head h0 stepR_block h2⟩⟩
 |_=>exact⟨_,AN,vV,⟨a0,q1,hq⟩,.of_steps (.one h0 stepR_block) r6⟩
theorem CK (c:bu)(ds:aa cR):(lG a ds).eval c=a.eval c:=by cases c<;>rfl
theorem MP {c:bu}{x y:Code}{t:ak}(hc:a.eval c= .bool t)(h:(if t then x else y).qP m P Q a w):(aps c x y).qP m P Q a w:=
 λb k cs yJ hb=>let⟨e,a',w',q,r⟩:=h b k cs yJ hb;⟨e,a',w',q,.of_steps (.one (fenced_calm (n:=0) tv (qT _) rfl) (stepR_cond (by rw[CK];exact hc))) r⟩
theorem Ao {c:bu}{x y:Code}(hc:a.eval c= .bool aC)(h:x.qP m P Q a w):(aps c x y).qP m P Q a w:=MP hc h
theorem yT {c:bu}{x y:Code}(hc:a.eval c= .bool aD)(h:y.qP m P Q a w):(aps c x y).qP m P Q a w:=MP hc h
theorem Fu {c:bu}{x y:Code}{b:ak}(hc:a.eval c= .bool b)(h1:b=aC->x.qP m P Q a w)(h2:b=aD->y.qP m P Q a w):(aps c x y).qP m P Q a w:=by
 cases b with
 |true=>exact Ao hc (h1 rfl)
 |false=>exact yT hc (h2 rfl)
theorem XI {f:bI}(fn:Func)(n:ah){args:aa aO}{R:bY->aN->Prop}(hf:P.funcs[f]?=az fn)
  (k:∀a,kP n a (lY ((bT args.length).zip args))->(sub (fn.body.getD .skip) []).qP pl P (bodyPostM bK 2 P fn R) a w) (hb:fn.body.isSome=aC:=by kernel_rfl) (hn:fn.ntmps=n:=by kernel_rfl) (hl:aE (args.length<=n)=aC:=by kernel_rfl):Calls P f args.toArray w R:=by
 obtain⟨B,hb⟩:=bS.1 hb;rw[hb] at k;have hl:=bq hl;obtain⟨act,Uo⟩:∃act:Act,act={tmps:=args.toArray++eN (fn.ntmps-args.toArray.size) aL,defers:=[]}:=⟨_,rfl⟩;have PI:kP n act (lY ((bT args.length).zip args)):=by
  rw[Uo];refine⟨by simp;omega,rfl,λe he=>?_⟩;obtain⟨x,hx,rfl⟩:=bz.1 he;obtain⟨j,hj,rfl⟩:=List.getElem_of_mem hx;have Wg:j<args.length:=by simp at hj;exact hj
  refine⟨λ_=>?_,λhn=>(hn (λl hl=>by simp at hl)).elim⟩;simp only[List.getElem_zip,List.getElem_range];rw[Array.getElem?_append_left (by simpa using Wg)];simp[Wg]
 refine(callsIn_wide (n:=2)).1 ⟨tv,λcs hr=>?_⟩
 let b:Frame:={(default:Frame) with fn:=f,kind:=.normal,roundOf:=aA}
 have Fv:arb P f args.toArray .normal=b.atR act [.code B]:=by
  rw[Uo];simp[arb,arc,hf,hb,b]
 obtain⟨e,a',w',⟨a0,ea,hq⟩,r6⟩:=k act PI b [] cs rfl (by show(P.funcs[f]?).isSome=aC;rw[hf];rfl);rw[show pl.ds=[] from rfl,yS] at ea r6;subst ea;rw[show(Option.some B).getD .skip=B from rfl,Q4,<-Fv] at r6;cases e with
 |normal=>
  obtain⟨e',w'',fr',hR,hs,By,hl⟩:=leaves_stepsInM a'.defers .returning w' {b.atR a' [] with mode:=.returning} cs rfl rfl rfl hf rfl tv hr hq;exact⟨e',w'',fr',hR,ap8 (anE r6 (.one (fenced_calm (fr:=b.atR a' []) tv hr rfl) (stepR_end rfl))) hs,By,hl⟩
 |ret=>
  obtain⟨todo,XJ⟩:=r6.1 rfl;obtain⟨e',w'',fr',hR,hs,By,hl⟩:=leaves_stepsInM a'.defers .returning w' {b.atR a' todo with mode:=.returning} cs rfl rfl rfl hf rfl tv hr hq;exact⟨e',w'',fr',hR,ap8 XJ hs,By,hl⟩
 |panic chain=>
  have⟨todo,XJ⟩:=r6;obtain⟨e',w'',fr',hR,hs,By,hl⟩:=leaves_stepsInM a'.defers (.panicking chain) w' {b.atR a' todo with mode:=.panicking chain} cs rfl rfl rfl hf rfl tv hr hq;exact⟨e',w'',fr',hR,ap8 XJ hs,By,hl⟩
 |exit id=>exact hq.elim
 |goto l=>exact hq.elim
 |outgrown=>exact⟨.outgrown,w',b,hq,r6.resolve_left (by simp[b]),rfl,tv⟩
theorem Kh {f:bI}(fn:Func)(n:ah){args:aa aO}{R:bY->aN->Prop}(hf:P.funcs[f]?=az fn)
  (k:∀a,kP n a (lY ((bT args.length).zip args))->(sub (fn.body.getD .skip) []).qP pl P (aJ P fn R) a w) (hb:fn.body.isSome=aC:=by kernel_rfl) (hn:fn.ntmps=n:=by kernel_rfl) (hl:aE (args.length<=n)=aC:=by kernel_rfl):Calls P f args.toArray w R:=
 XI fn n hf (λa ha=>qv (k a ha) λe a w h=>by
  cases e with
  |normal=>have⟨h1,h2⟩:=h;show LeavesInM _ _ _ _ _ _ a.defers _ _;rw[h1];exact h2
  |ret=>have⟨h1,h2⟩:=h;show LeavesInM _ _ _ _ _ _ a.defers _ _;rw[h1];exact h2
  |panic ch=>have⟨h1,h2⟩:=h;show LeavesInM _ _ _ _ _ _ a.defers _ _;rw[h1];exact h2
  |outgrown=>exact h
  |_=>exact h.elim) hb hn hl
def PJ (P:aY)(l:ah)(R:bY->aN->Prop):oL
 | .normal,_,w=> ∃v w',(Instr.endRound l aA).run P w= .ok v w'/\R (.returned v) w'
 | .panic ch,a,w=>a.defers=[]/\R (.panicked ch) w
 |_,_,_=>False
theorem XK {l:ah}{f:bI}{tmps:aq aO}{assign body:Code}{R:bY->aN->Prop}(hf:(P.funcs[f]?).isSome=aC)
  (h:assign.qP ⟨az l,[]⟩ P (λe AN vV=>e= .normal/\∃D5,(Instr.beginRound l).run P vV= .ok () D5/\body.qP ⟨az l,[]⟩ P (PJ P l R) AN D5) {tmps:=tmps,defers:=[]} w):RoundIn bK 0 P l f tmps assign body w R:=by
 refine⟨tv,λc cs hr=>?_⟩
 let b:Frame:={(default:Frame) with fn:=f,kind:=.normal,roundOf:=az l}
 have hb0:are l f tmps assign body .normal=b.atR {tmps:=tmps,defers:=[]} [.code assign,.beginRound,.code body]:=by
  simp[are,arc,b]
 obtain⟨e,AN,vV,⟨a0,q1,rfl,D5,hbr,ai8⟩,r6⟩:=h b [.beginRound,.code body] (c::cs) rfl hf;rw[show(⟨az l,[]⟩:Mode).ds=[] from rfl,yS] at q1 r6;subst q1;rw[<-hb0] at r6;have s1:StepsIn (apr P (⟨az l,[]⟩:Mode).F) P (lone (b.atR AN [.beginRound,.code body]) (c::cs) vV) (lone (b.atR AN [.code body]) (c::cs) D5):=
  .one (fenced_calm (n:=0) (fr:=b.atR AN [.beginRound,.code body]) tv (qT _) rfl) (stepR_beginRound rfl hbr)
 obtain⟨XG,XH,XL,⟨a3,q2,Ft⟩,uC⟩:=ai8 b [] (c::cs) rfl hf;rw[show(⟨az l,[]⟩:Mode).ds=[] from rfl,yS] at q2 uC;subst q2;cases XG with
 |normal=>
  have⟨v,ab3,D6,hR⟩:=Ft;exact⟨.returned v,ab3,hR,(anE r6 s1).trans (anE uC (.one (fenced_calm (n:=0) (fr:=b.atR XH []) tv (qT _) rfl) (stepR_round_end rfl rfl D6)))⟩
 |panic ch=>
  have⟨hd,hR⟩:=Ft;have⟨todo,hs⟩:=uC;obtain⟨fn,By⟩:=bS.1 hf;exact⟨.panicked ch,XL,hR,(anE r6 s1).trans (anE hs (.one (fenced_leaving (n:=0) (P:=P) (F:=(⟨az l,[]⟩:Mode).F) (e:=.panicked ch) tv (qT _) ⟨rfl,hd,fn,By⟩) (step_leave_panicked ⟨rfl,hd,fn,By⟩)))⟩
 |_=>exact Ft.elim
theorem Ap {g:bu}{ps:aq Tmp}{assign body:Code}
  (h:∀fn,(P.funcs[fn]?).isSome=aC->∃(l:ah) (mark:aa cR) (vV:aN) (d:cR) (XM:aN) (f:bI) (args:aq aO) (D5:aN),
   (Instr.enterLoop fn (lG a m.ds).tmps ps assign body m.ro).run P w= .ok (l,mark) vV/\(resolve (lG a m.ds).eval (rangeCall g l) 0).run P vV= .ok d XM/\(invoke d.target d.args).run P XM= .ok (.enter f args) D5/\
   CallsIn m.F 0 P f args D5 (rangePost m.F 0 P l (ye m Q) {lG a m.ds with defers:=mark++(lG a m.ds).defers})):(Code.rangeFunc g ps assign body).qP m P Q a w:=by
 intro b k cs yJ hb;obtain⟨l,mark,vV,d,XM,f,args,D5,he,vS,hinv,hF,uO⟩:=h b.fn hb;rw[<-yJ] at he;have h0:(lone (b.atR (lG a m.ds) (.code (.rangeFunc g ps assign body)::k)) cs w).fenced P m.F:=fenced_lone (.inl tv) (λf' hf'=>trivial) (qT _);have Fv:=stepR_rangeFunc (P:=P) (b:=b) (a:=lG a m.ds) (k:=k) (cs:=cs) (w:=w) he vS hinv;obtain⟨e,XL,fr,hR,PK,By,Ki⟩:=uO (b.atR {lG a m.ds with defers:=mark++(lG a m.ds).defers} (.inRangeFunc l::k)::cs) (qT _);cases e with
 |outgrown=>
  have⟨alJ,alK,hq⟩:=hR;exact⟨.outgrown,alJ,alK,hq,.inr (ar3 (.one Fv) PK)⟩
 |returned v=>
  have hl:(lone fr (b.atR {lG a m.ds with defers:=mark++(lG a m.ds).defers} (.inRangeFunc l::k)::cs) XL).fenced P m.F:=fenced_leaving (n:=0) (By▸hF) (qT _) Ki;have⟨jump,ab3,D6,hj⟩:=hR;have aeS:StepsIn (apr P m.F) P (lone (b.atR (lG a m.ds) (.code (.rangeFunc g ps assign body)::k)) cs w) (lone (b.atR {lG a m.ds with defers:=mark++(lG a m.ds).defers} ((jump.map Item.code).toList++k)) cs ab3):=by
   refine .head h0 Fv (anE PK (.head hl ?_ (.one (fenced_calm (n:=0) (fr:=b.atR {lG a m.ds with defers:=mark++(lG a m.ds).defers} (.endRangeFunc l::k)) tv (qT _) rfl) (stepR_endRangeFunc D6))));rw[<-finish_atR_inRangeFunc l v];exact step_leave_returned Ki
  cases jump with
  |none=>exact⟨.normal,_,ab3,hj,aeS⟩
  |some c=>
   obtain⟨e',a'',alL,hq,r6⟩:=hj b k cs yJ tv (qT _);exact⟨e',a'',alL,hq,.of_steps aeS r6⟩
 |panicked chain=>
  have hl:(lone fr (b.atR {lG a m.ds with defers:=mark++(lG a m.ds).defers} (.inRangeFunc l::k)::cs) XL).fenced P m.F:=fenced_leaving (n:=0) (By▸hF) (qT _) Ki;refine⟨.panic chain,_,XL,hR,.inRangeFunc l::k,.head h0 Fv (anE PK (.one hl ?_))⟩;rw[<-Frame.raise_atR];exact step_leave_panicked Ki
def yU (Q:oL):oL:=λe a w=>match e with
 | .normal=>Q .normal a w
 | .panic ch=>Q (.panic ch) a w
 |_=>False
def BF (ops:aq bf):ak:=ops.toList.all λo=>match o.op with| .defer _=>aD|_=>aC
theorem MQ {ops:aq bf}(h:BF ops=aC){o:bf}(ho:o∈ops.toList):∀c,o.op≠.defer c:=by
 intro c e;have:=bG.1 h o ho
 grind
theorem wK (d:ai Tmp)(v:aO)(ds:aa cR):(lG a ds).put d v=lG (a.put d v) ds:=by unfold Act.put lG;cases d<;>rfl
theorem agp {n:ah}{f:bI}{args:aq aO}{R:bY->aN->Prop}(h:Calls P f args w R):CallsIn m.F n P f args w R:=by
 have:=callsIn_wide (n:=n).2 h;cases m with
 |mk ro ds=>exact this
theorem ai9 {n:ah}{row:String}{args:aq aO}{R:aO->aN->Prop}(h:Rows P row args w R):RowsIn m.F n P row args w R:=by
 cases m with
 |mk ro ds=>
  cases ro with
  |none=>exact λc cs _=>let⟨v,w',r,s⟩:=h c cs;⟨v,w',r,stepsIn_wide.2 s⟩
  |some l=>exact λc cs _=>let⟨v,w',r,s⟩:=h c cs;⟨v,w',r,stepsIn_wide.2 s⟩
theorem XN {o:bf}{K K':Act->aN->Prop}(hd:∀c,o.op≠.defer c)(hK:∀a w,K a w->K' (lG a m.ds) w)(h:o.wp P a w K (yU Q)\/(o.asks P a w/\LetsOut (yU Q))):o.wpIn m.F 0 P (lG a m.ds) w K' (ye m Q):=by
 rcases h with h|⟨_,a0,w0,hq⟩
 .refine⟨λf _=>trivial,?_⟩;rw[Oper.semAt_eq _ _ _ hd];have he:aG (lG a m.ds).eval o=aG a.eval o:=by
   congr 1
  rw[he];unfold Oper.wp at h;generalize (aG a.eval o).run P w=r at*
  cases r with
  |ok x w'=>
   cases x with
   |value v=>simp only[an2,an3] at h ⊢;rw[wK];exact hK _ _ h
   |skip=>simp only[an2,an3] at h ⊢;rw[wK];exact hK _ _ h
   |enter f args=>
    simp only[an2,an3] at h ⊢;refine⟨λe=>(by cases e),(agp (m:=m) h).mono λe w'' he=>?_⟩;cases e with
    |returned v=>simp only at he ⊢;rw[wK];exact hK _ _ he
    |panicked ch=>exact⟨a,rfl,he⟩
    |outgrown=>have⟨a0,w0,hq⟩:=he;exact(hq:False).elim
   |row rw_ args=>
    simp only[an2,an3] at h ⊢;refine⟨λe=>(by cases e),RowsIn.mono (ai9 (m:=m) h) λv w'' he=>?_⟩;rw[wK];exact hK _ _ he
   |defer d=>simp only[an2,an3] at h ⊢;have:=hK _ _ h;unfold Act.put lG at this ⊢;cases pM:o.dst<;>rw[pM] at this<;>exact this
   |_=>exact(h:False).elim
  |halt x w'=>cases x<;>simp only[an2,an3] at h ⊢ <;>first|exact(h:False).elim|exact⟨a,rfl,h⟩
 exact(hq:False).elim
theorem XO {ops:aq bf}:∀(l:aa bf) (a:Act) (w:aN),(∀o∈l,∀c,o.op≠.defer c)->wpList P ops (yU Q) l a w->wpListIn m.F 0 P ops (ye m Q) l (lG a m.ds) w
 |[],a,w,_,h=>⟨a,rfl,h⟩
 |o::l,a,w,hl,h=>by
  simp only[wpList] at h;simp only[wpListIn];have ih:=λa w=>XO (ops:=ops) l a w (λo' LM=>hl o' (bl _ LM));have ew:(lG a m.ds).tmps=a.tmps:=rfl;rw[ew]
  by_cases hw:dh o (yielded ops a.tmps)=aC
  .rw[aQ hw] at h ⊢;exact XN (hl o aZ) ih h
  rw[aP hw] at h ⊢;exact⟨λf _=>trivial,by rw[wK];exact ih _ _ h⟩
theorem Ry {ops:aq bf}(D7:∀o∈ops.toList,∀c,o.op≠.defer c):∀(k:ah) (listed:aq ak) (a:Act) (w:aN),wpAny P .any ops (yU Q) k listed a w->wpAnyIn m.F 0 P .any ops (ye m Q) k listed (lG a m.ds) w
 |0,_,a,_,h=>⟨h.1,a,rfl,h.2⟩
 |k+1,listed,a,w,h=>by
  refine⟨λq=>⟨a,rfl,h.1 q⟩,λi hi=>?_⟩;have h2:=h.2 i hi;unfold wpOp at h2;unfold wpOpIn;have ew:(lG a m.ds).tmps=a.tmps:=rfl;cases ho:ops[i]? with
  |none=>rw[ho] at h2;exact Ry D7 k _ a w h2
  |some o=>
   rw[ho] at h2;simp only at h2 ⊢;rw[ew]
   by_cases hw:dh o (yielded ops a.tmps)=aC
   .rw[aQ hw] at h2 ⊢;exact XN (D7 o (by have:=cn (l:=ops.toList) (i:=i) (by simpa using ho);exact this)) (λa w=>Ry D7 k _ a w) h2
   rw[aP hw] at h2 ⊢;exact⟨λf _=>trivial,by rw[wK];exact Ry D7 k _ _ w h2⟩
theorem yf {id:ah}{ops:aq bf}(hc:BF ops=aC)(h:wpList P ops (yU Q) ops.toList a w):(aoz id ops aD).wpIn m.F 0 P (ye m Q) (lG a m.ds) w:=
 wpIn_region_list (XO _ a w (λo ho=>MQ hc ho) h)
theorem yV {id:ah}{ops:aq bf}(hc:BF ops=aC)(hm:P.follows .mixedOrders=aC)(h:wpAny P .any ops (yU Q) ops.size (eN ops.size aD) a {w with drawn:=w.drawn+1}):(aoz id ops aC).wpIn m.F 0 P (ye m Q) (lG a m.ds) w:=
 wpIn_region_any hm (Ry (λo ho=>MQ hc ho) _ _ a _ h)
theorem yg {id:ah}{ops:aq bf}(hc:BF ops=aC)(h:wpList P ops (yU Q) ops.toList a w):(aoz id ops aD).qP m P Q a w:=AM (yf hc h)
theorem Fw {id:ah}{ops:aq bf}(hc:BF ops=aC)(hm:P.follows .mixedOrders=aC)(h:wpAny P .any ops (yU Q) ops.size (eN ops.size aD) a {w with drawn:=w.drawn+1}):(aoz id ops aC).qP m P Q a w:=AM (yV hc hm h)
theorem XP (X:Type)(I:X->Act->aN->Prop)(μ:X->ah)(x0:X){c:Code}(h0:I x0 a w)
  (round:∀x a w,I x a w->c.qP m P (Exit.then (λa' w'=> ∃x',I x' a' w'/\μ x'<μ x) Q) a w):(Code.loop c).qP m P Q a w:=by
 intro b k cs yJ hb;have key:∀j x a w,μ x=j->I x a w->∃e a' w',ye m Q e a' w'/\ArrivesIn (apr P m.F) P (lone (b.atR (lG a m.ds) (.code c:: .inLoop c::k)) cs w) b k cs e a' w':=by
  intro j
  induction j using apd with
  |_ j ih=>
   intro x a w hn hI;obtain⟨e,AN,vV,⟨a0,q1,hq⟩,r6⟩:=round x a w hI b (.inLoop c::k) cs yJ hb;cases e with
   |normal=>
    have⟨y,aja,rG⟩:=hq;obtain⟨XG,XH,D5,Ft,uC⟩:=ih (μ y) (hn▸rG) y a0 vV rfl aja;rw[<-q1] at uC;exact⟨XG,XH,D5,Ft,.of_steps (anE r6 (.one (fenced_calm (n:=0) tv (qT _) rfl) stepR_inLoop)) uC⟩
   |_=>exact⟨_,AN,vV,⟨a0,q1,hq⟩,.pass (x:=.inLoop c) rfl (λ_ _=>.inl (by simp)) r6⟩
 obtain⟨e,a',w',hq,r6⟩:=key _ x0 a w rfl h0;exact⟨e,a',w',hq,.of_steps (.one (fenced_calm (n:=0) tv (qT _) rfl) stepR_loop) r6⟩
end
structure mX:Type where
 env:aa (ah×ai E2)
 rs:aa (ah×ai R2)
 nx:ah
def p7 (σ:mX):ah->ai E2:=mN (λ_=>aA) σ.env
def mH (σ:mX):ah->ai R2:=jB (λ_=>aA) σ.rs
structure lH (o:jO)(n:ah)(σ:mX)(a:Act)(w:aN):Prop where
 ok:∃A S,kW o n A S (· <σ.nx) (p7 σ) (mH σ) a w
 ch:∀t e,p7 σ t=az e->e.ch=[]
 np:∀j,o.pF j->j<o.kp
structure OV (o:jO)(n:ah)(r0:ah->ai R2)(F0 L:ah->Prop)(σ:mX)(a:Act)(w:aN):Prop where
 ok:∃A S F,kW o n A S F (p7 σ) (jB r0 σ.rs) a w/\(∀j,σ.nx<=j->L j->¬F j)/\∀j,F j->F0 j\/∃x,(j,x)∈σ.rs
 ch:∀t e,p7 σ t=az e->e.ch=[]
theorem lH.i {o:jO}{n:ah}{σ:mX}{a:Act}{w:aN}(h:lH o n σ a w):OV o n (λ_=>aA) (λ_=>av) (λ_=>av) σ a w:=by
 obtain⟨⟨A,S,H⟩,h0,_⟩:=h;exact⟨⟨A,S,_,H,λj h1 _ h2=>by omega,λ_ _=>.inl tv⟩,h0⟩
theorem OV.x {o:jO}{n:ah}{σ:mX}{a:Act}{w:aN}(h:OV o n (λ_=>aA) (λ_=>av) (λ_=>av) σ a w)(np:∀j,o.pF j->j<o.kp):lH o n σ a w:=by
 obtain⟨⟨A,S,F,H,h1,_⟩,h0⟩:=h;exact⟨⟨A,S,H.agree (lQ.refl _ _) λj hj=>dg λq=>h1 j (aon q) tv hj⟩,h0,np⟩
inductive It where
 |run (p:aa ah)
 |oN (i:ah)
 |lp (K:Act->aN->Prop)
def post (mo:Mode)(P:aY)(B:Code)(Q:oL):aa It->oL
 |[]=>Q
 | .run p::r=>Exit.then (λa w=>(sub B p).qP mo P (post mo P B Q r) a w) (post mo P B Q r)
 | .oN i::r=>ape i (post mo P B Q r)
 | .lp K::r=>Exit.then K (post mo P B Q r)
def unw (i:ah):aa It->ai (aa It)
 |[]=>aA
 | .run _::r=>unw i r
 | .lp _::r=>unw i r
 | .oN j::r=>match bp i j with
  |true=>az r
  |false=>unw i r
section
variable (P:aY)(T:aa (lM P))(sd:ah)(dr:ak)(hn:aa (ah×ak))(n:ah)
def npB (ops:aq bf):ak:=ops.toList.all λo=>match o.op with| .panic _=>aD|_=>aC
def Hs (ops:aq bf)(d:ak)(σ:mX):ai (aa um×mX):=
 match BF ops && npB ops with
 |false=>aA
 |true=>match Ac P T sd hn n ops (p7 σ) (mH σ) ops.toList σ.nx [] [] with
 |some us=>match d with
  |false=>az (us,⟨yR (sK us [])++σ.env,sL us []++σ.rs,σ.nx+sd*ops.size⟩)
  |true=>match dr && (ML P T sd hn n ops (p7 σ) (mH σ) σ.nx us (Ka (qu ops.toList) ops.size) && P.follows .mixedOrders) with
   |true=>az (us,⟨yR (xM us (λ_=>aC) ops.size)++σ.env,xN us (λ_=>aC) ops.size++σ.rs,σ.nx+sd*ops.size⟩)
   |false=>aA
 |none=>aA
def XQ (σ:mX):bu->ai ak
 | .tmp t=>match p7 σ t with
  |some ⟨[],.one (.b (.lit b))⟩=>az b
  |_=>aA
 | .const (.bool b)=>az b
 |_=>aA
structure ExR:Type 1 where
 cs:aa Prop
 hs:aa Hid
 st:aa It
 σ:mX
def XR {α:Type 1}(hn:aa (ah×ak))(id:ah)(x:ai α):ai α:=match hn.any λh=>bp h.1 (1000000+id) with
 |true=>aA
 |false=>x
def exec (B:Code):ah->aa It->mX->aa Prop->aa Hid->ai ExR
 |0,_,_,_,_=>aA
 |f+1,st,σ,cs,hs=>match st with
  | .oN _::r=>exec B f r σ cs hs
  | .run p::r=>match sub B p with
   | .seq _ _=>exec B f (.run (p++[0]):: .run (p++[1])::r) σ cs hs
   | .block i _=>exec B f (.run (p++[0]):: .oN i::r) σ cs hs
   | .skip=>exec B f r σ cs hs
   | .exit i=>match unw i r with
    |some r'=>exec B f r' σ cs hs
    |none=>aA
   | .region id ops d=>match XR hn id (Hs P T sd dr hn n ops d σ) with
    |some x=>exec B f r x.2 (cs++x.1.flatMap (·.cs)) (hs++x.1.flatMap (·.hs))
    |none=>az ⟨cs,hs,.run p::r,σ⟩
   | .cond c _ _=>match XQ σ c with
    |some aC=>exec B f (.run (p++[0])::r) σ cs hs
    |some aD=>exec B f (.run (p++[1])::r) σ cs hs
    |none=>az ⟨cs,hs,.run p::r,σ⟩
   |_=>az ⟨cs,hs,.run p::r,σ⟩
  |st=>az ⟨cs,hs,st,σ⟩
end
section
variable {mo:Mode}{P:aY}{o:jO}{n:ah}{σ σ':mX}{a:Act}{w w':aN}{T:aa (lM P)}{sd:ah}{dr:ak}{hn:aa (ah×ak)}{B:Code}{Q:oL}{st:aa It}{r0:ah->ai R2}{F0 L:ah->Prop}
theorem PL {α:Type 1}{id:ah}{x:ai α}{y:α}(h:XR hn id x=az y):x=az y:=by
 grind [XR]
theorem Kj {i:ah}:∀ {st r:aa It},unw i st=az r->post mo P B Q r .normal a w->post mo P B Q st (.exit i) a w
 |[],r,h,_=>by cases h
 | .run _::st,r,h,k=>Kj (st:=st) h k
 | .lp _::st,r,h,k=>Kj (st:=st) h k
 | .oN j::st,r,h,k=>by
  simp only[unw] at h;split at h
  .rename_i e;cases h;have:=j9 e;subst this;show(if i=i then post mo P B Q st .normal a w else _);rw[aQ rfl];exact k
  rename_i e;show(if i=j then post mo P B Q st .normal a w else post mo P B Q st (.exit i) a w);rw[aP (WM e)];exact Kj h k
theorem u7:∀ {st:aa It},Q .ret a w->post mo P B Q st .ret a w
 |[],h=>h
 | .run _::st,h=>u7 (st:=st) h
 | .oN _::st,h=>u7 (st:=st) h
 | .lp _::st,h=>u7 (st:=st) h
theorem vH (x:aa (ah×ai E2))(σ:mX)(rs:aa (ah×ai R2))(k:ah):p7 ⟨x++σ.env,rs,k⟩=mN (p7 σ) x:=DE _ _ _
theorem Rz (x:aa (ah×ai R2))(σ:mX)(env:aa (ah×ai E2))(k:ah):mH ⟨env,x++σ.rs,k⟩=jB (mH σ) x:=mh _ _ _
theorem XS (r0:ah->ai R2)(σ:mX):∀j x,mH σ j=az x->jB r0 σ.rs j=az x:=λj x h=>J9 (λ_ _ q=>by cases q) h
theorem XT {id:ah}{ops:aq bf}{d:ak}{us:aa um}(h:OV o n r0 F0 L σ a w)(hr:Hs P T sd dr hn n ops d σ=az (us,σ'))(hL:∀j,j<σ'.nx->L j)(LQ:dr=aC->(∀j,L j)/\(∀j,F0 j)/\r0=λ_=>aA)(kO:∀p∈us.flatMap (·.cs),p)(qG:∀h∈us.flatMap (·.hs),∀A w,h.lhs A w=h.rhs A w)
  (k:∀a' w',OV o n r0 F0 L σ' a' w'->Q .normal a' w'):(aoz id ops d).wpIn mo.F 0 P (ye mo Q) (lG a mo.ds) w:=by
 obtain⟨⟨A,S,F,H,hF,hF0⟩,h0⟩:=h;have Fl:∀u∈us,∀p∈u.cs,p:=λu hu p hp=>kO p (cQ.2 ⟨u,hu,hp⟩);have ajb:∀u∈us,∀h∈u.hs,∀A w,h.lhs A w=h.rhs A w:=λu hu p hp=>qG p (cQ.2 ⟨u,hu,hp⟩);unfold Hs at hr;split at hr
 .cases hr
 rename_i vR;rw[bB] at vR;have vR:=vR.1;have fin:∀ {en:aa (ah×ai E2)} {re:aa (ah×ai R2)} {A':jU} {S':jv} {F':ah->Prop} {a':Act} {w':aN},kW o n A' S' F' (mN (p7 σ) en) (jB (jB r0 σ.rs) re) a' w'->(∀j,σ.nx+sd*ops.size<=j->L j->¬F' j)->(∀j,F' j->F0 j\/∃x,(j,x)∈re++σ.rs)->
   OV o n r0 F0 L ⟨yR en++σ.env,re++σ.rs,σ.nx+sd*ops.size⟩ a' w':=by
  intro en re A' S' F' a' w' H' LR hF2;refine⟨⟨A',S',F',?_,LR,hF2⟩,?_⟩
  .show kW o n A' S' F' (p7 ⟨yR en++σ.env,re++σ.rs,_⟩) (jB r0 (re++σ.rs)) a' w';rw[vH,mh];exact H'.less λt e he=>(zB h0 he).1
  rw[vH];exact λt e he=>(zB h0 he).2
 split at hr
 .rename_i us' D4;split at hr
  .cases hr;refine yf vR ?_;have:=BB (Q:=yU Q) (L:=L) (rest:=[]) h0 (IA (XS r0 σ) D4) H hF (λj hj=>hL j (by rw[cU] at hj;exact hj)) Fl ajb λA' S' F' a' w' H' LR hF2=>k a' w' (fin H' (by rw[cU] at LR;exact LR) λj hj=>?_)
   .rwa[bW] at this
   rcases hF2 j hj with q|⟨x,hx⟩
   .exact(hF0 j q).imp (λz=>z) λ⟨x,hx⟩=>⟨x,bV _ hx⟩
   exact .inr ⟨x,bU _ hx⟩
  split at hr
  .rename_i hb;cases hr;rw[bB,bB] at hb;obtain⟨d1,d2,d3⟩:=LQ hb.1;subst d3;refine yV vR hb.2.2 ?_;have H1:kW o n A S F (p7 σ) (mH σ) a {w with drawn:=w.drawn+1}:=⟨H.size,H.lK,H.env,H.rH,H.lq,H.jM.on ⟨rfl,rfl,rfl,aW _,λ_ _=>rfl⟩,H.args,H.wj⟩;exact XD h0 D4 rfl hb.2.1 Fl ajb (λA' S' F' a' w' H' LR=>k a' w' (fin H' (λj hj _=>LR j hj) λj _=>.inl (d2 j))) H1 λj hj=>hF j hj (d1 j)
  cases hr
 cases hr
theorem ab4 {ops:aq bf}{d:ak}{us:aa um}(hr:Hs P T sd dr hn n ops d σ=az (us,σ')):σ.nx<=σ'.nx:=by
 unfold Hs at hr
 grind
theorem MR (h:OV o n r0 F0 L σ a w){c:bu}{b:ak}(hb:XQ σ c=az b):a.eval c= .bool b:=by
 obtain⟨⟨A,S,F,H,_⟩,h0⟩:=h;unfold XQ at hb;split at hb
 .rename_i t;split at hb
  .rename_i b' he;cases hb;have:=(H.env t _ he).1 (λl hl=>by cases hl);simp only[dH,cP];rw[show a.tmps[t]?=az (.bool b) from this];rfl
  cases hb
 .cases hb;rfl
 cases hb
theorem RA {x:ExR}(hL:∀j,j<x.σ.nx->L j)(LQ:dr=aC->(∀j,L j)/\(∀j,F0 j)/\r0=λ_=>aA):∀ {f:ah} {st:aa It} {σ:mX} {cs:aa Prop} {hs:aa Hid} {a:Act} {w:aN},exec P T sd dr hn n B f st σ cs hs=az x->((∀p∈cs,p∈x.cs)/\(∀p∈hs,p∈x.hs)/\σ.nx<=x.σ.nx)/\(OV o n r0 F0 L σ a w->(∀p∈x.cs,p)->(∀h∈x.hs,∀A w,h.lhs A w=h.rhs A w)->(∀a' w',OV o n r0 F0 L x.σ a' w'->post mo P B Q x.st .normal a' w')->post mo P B Q st .normal a w):=by
 intro f
 induction f with
 |zero=>intro st σ cs hs a w h;cases h
 |succ f ih=>
  intro st σ cs hs a w h;have stop:az (⟨cs,hs,st,σ⟩:ExR)=az x->((∀p∈cs,p∈x.cs)/\(∀p∈hs,p∈x.hs)/\σ.nx<=x.σ.nx)/\(OV o n r0 F0 L σ a w->(∀p∈x.cs,p)->(∀h∈x.hs,∀A w,h.lhs A w=h.rhs A w)->(∀a' w',OV o n r0 F0 L x.σ a' w'->post mo P B Q x.st .normal a' w')->post mo P B Q st .normal a w):=λe=>by
   cases e;exact⟨⟨λ_ h=>h,λ_ h=>h,aW _⟩,λh _ _ k=>k a w h⟩
  unfold exec at h;split at h
  .rename_i i r;obtain⟨h1,h2⟩:=ih (a:=a) (w:=w) h;exact⟨h1,h2⟩
  .rename_i p r;have inner:∀ {R:Prop},R->(OV o n r0 F0 L σ a w->(∀p∈x.cs,p)->(∀h∈x.hs,∀A w,h.lhs A w=h.rhs A w)->(∀a' w',OV o n r0 F0 L x.σ a' w'->post mo P B Q x.st .normal a' w')->(sub B p).qP mo P (post mo P B Q r) a w)->R/\(OV o n r0 F0 L σ a w->(∀p∈x.cs,p)->(∀h∈x.hs,∀A w,h.lhs A w=h.rhs A w)->(∀a' w',OV o n r0 F0 L x.σ a' w'->post mo P B Q x.st .normal a' w')->post mo P B Q (.run p::r) .normal a w):=λh1 h2=>⟨h1,h2⟩;split at h
   .rename_i c1 c2 hc;obtain⟨h1,h2⟩:=ih (a:=a) (w:=w) h;refine inner h1 λq1 q2 q3 q4=>?_;have:=h2 q1 q2 q3 q4;have this:(sub B (p++[0])).qP mo P (Exit.then (λa w=>(sub B (p++[1])).qP mo P (post mo P B Q r) a w) (post mo P B Q r)) a w:=this;rw[lJ,hc,L7] at this;rw[hc];refine ab2 (qv this λe a w z=>?_);cases e<;>first|exact z|skip
    have z:(sub B (p++[1])).qP mo P (post mo P B Q r) a w:=z;rw[lJ,hc,L8] at z;exact z
   .rename_i i c1 hc;obtain⟨h1,h2⟩:=ih (a:=a) (w:=w) h;refine inner h1 λq1 q2 q3 q4=>?_;have this:(sub B (p++[0])).qP mo P (ape i (post mo P B Q r)) a w:=h2 q1 q2 q3 q4;rw[lJ,hc,ET] at this;rw[hc];exact Un this
   .rename_i hc;obtain⟨h1,h2⟩:=ih (a:=a) (w:=w) h;refine inner h1 λq1 q2 q3 q4=>?_;rw[hc];exact XE (h2 q1 q2 q3 q4)
   .rename_i i hc;split at h
    .rename_i r' hu;obtain⟨h1,h2⟩:=ih (a:=a) (w:=w) h;refine inner h1 λq1 q2 q3 q4=>?_;rw[hc];exact XF (Kj hu (h2 q1 q2 q3 q4))
    cases h
   .rename_i id ops d hc;split at h
    .rename_i y hy;have hy:=PL hy;have hm:=(ih (a:=a) (w:=w) h).1;refine inner ⟨λq hq=>hm.1 q (bU _ hq),λq hq=>hm.2.1 q (bU _ hq),bC (ab4 (σ':=y.2) hy) hm.2.2⟩ λq1 q2 q3 q4=>?_;rw[hc];exact AM (XT (σ':=y.2) q1 hy (λj hj=>hL j (bR hj hm.2.2)) LQ (λq hq=>q2 q (hm.1 q (bV _ hq))) (λq hq=>q3 q (hm.2.1 q (bV _ hq))) λa' w' h'=>(ih (a:=a') (w:=w') h).2 h' q2 q3 q4)
    exact stop h
   .rename_i c c1 c2 hc;split at h
    .rename_i hb;obtain⟨h1,h2⟩:=ih (a:=a) (w:=w) h;refine inner h1 λq1 q2 q3 q4=>?_;have this:(sub B (p++[0])).qP mo P (post mo P B Q r) a w:=h2 q1 q2 q3 q4;rw[lJ,hc,Cv] at this;rw[hc];exact Ao (MR q1 hb) this
    .rename_i hb;obtain⟨h1,h2⟩:=ih (a:=a) (w:=w) h;refine inner h1 λq1 q2 q3 q4=>?_;have this:(sub B (p++[1])).qP mo P (post mo P B Q r) a w:=h2 q1 q2 q3 q4;rw[lJ,hc,Cw] at this;rw[hc];exact yT (MR q1 hb) this
    exact stop h
   exact stop h
  exact stop h
end
structure At (mo:Mode)(P:aY)(T:aa (lM P))(B:Code)(Q:oL)(st:aa It)(a:Act)(w:aN):Prop where
 get:post mo P B Q st .normal a w
def xS:ai ExR->mX
 |some x=>x.σ
 |none=>⟨[],[],0⟩
def xI:ai ExR->aa It
 |some x=>x.st
 |none=>[]
def xC:ai ExR->aa Prop
 |some x=>x.cs
 |none=>[False]
def xH:ai ExR->aa Hid
 |some x=>x.hs
 |none=>[]
abbrev rT (P:aY)(T:aa (lM P))(hn:aa (ah×ak))(n:ah)(B:Code)(st:aa It)(σ:mX):ai ExR:=exec P T 4096 aC hn n B 5000 st σ [] []
def sY (B:Code)(σ:mX):aa It->ai (BE×aa ah×aa It)
 | .run p::r=>match sub B p with
  | .cond (.tmp t) _ _=>match p7 σ t with
   |some ⟨[],.one (.b e)⟩=>az (e,p,r)
   |_=>aA
  |_=>aA
 |_=>aA
def sH (B:Code):aa It->ai (aa ah×aa It)
 | .run p::r=>match sub B p with
  | .loop _=>az (p,r)
  |_=>aA
 |_=>aA
def oP {α β:Type}(x:ai (α×aa ah×β)):aa ah:=match x with
 |some y=>y.2.1
 |none=>[]
def oR {α:Type}(x:ai (α×aa ah×aa It)):aa It:=match x with
 |some y=>y.2.2
 |none=>[]
def lP (x:ai (aa ah×aa It)):aa ah:=match x with
 |some y=>y.1
 |none=>[]
def lR (x:ai (aa ah×aa It)):aa It:=match x with
 |some y=>y.2
 |none=>[]
def j5:aa (ah×ai ah)->ah->ai (ai ah)
 |[],_=>aA
 |p::l,j=>match bp p.1 j with
  |true=>az p.2
  |false=>j5 l j
def Sc.rn (ρ:aa (ah×ai ah)):Sc->ai Sc
 | .v x=>az (.v x)
 | .b e=>az (.b (.raw e.den))
 | .own j=>match j5 ρ j with
  |some (az k)=>az (.own k)
  |some aA=>az (.v (.slice aA 0 0))
  |none=>aA
 | .mp j=>match j5 ρ j with
  |some (az k)=>az (.mp k)
  |some aA=>az (.v (.map aA))
  |none=>aA
 | .ptr j off=>match j5 ρ j with
  |some (az k)=>az (.ptr k off)
  |_=>aA
 | .el _ _ _ _=>aA
 | .sR f kH=>(AO ρ kH).map (.sR f)
 | .hd _ _ _=>aA
 | .pd j=>match j5 ρ j with
  |some (az k)=>az (.pd k)
  |some aA=>az (.v (.pointer aA))
  |none=>aA
where AO (ρ:aa (ah×ai ah)):aa (ah×ah)->ai (aa (ah×ah))
 |[]=>az []
 |c::l=>match j5 ρ c.1,AO ρ l with
  |some (az k),az l'=>az ((k,c.2)::l')
  |_,_=>aA
def Sc.nrm:Sc->Sc
 | .b e=>.b (.raw e.den)
 |s=>s
def rnL (ρ:aa (ah×ai ah)):aa Sc->ai (aa Sc)
 |[]=>az []
 |c::l=>match c.rn ρ,rnL ρ l with
  |some c',az l'=>az (c'::l')
  |_,_=>aA
def Sy.rn (ρ:aa (ah×ai ah)):Sy->ai Sy
 | .one s=>(s.rn ρ).map .one
 | .agg cs=>(rnL ρ cs).map .agg
 | .vt _=>aA
def Sy.nrm:Sy->Sy
 | .one s=>.one s.nrm
 | .agg cs=>.agg (cs.map Sc.nrm)
 | .vt ps=>.vt ps
theorem Sc.BG (A:jU):∀s:Sc,s.nrm.den A=s.den A
 | .b _=>rfl
 | .v _=>rfl
 | .own _=>rfl
 | .mp _=>rfl
 | .ptr _ _=>rfl
 | .el _ _ _ _=>rfl
 | .sR _ _=>rfl
 | .hd _ _ _=>rfl
 | .pd _=>rfl
theorem Sy.BG (A:jU):∀s:Sy,s.nrm.den A=s.den A
 | .one s=>Sc.BG A s
 | .agg cs=>by simp only[nrm,den,cz];congr 2;exact dm λc _=>Sc.BG A c
 | .vt _=>rfl
def alM:R2->ak
 | .ro _ _=>aC
 | .yq _ _ _=>aC
 |_=>aD
def Fx (r:ah->ai R2)(ρ:aa (ah×ai ah)):aa (ah×ai R2)->aa (ah×ai R2)
 |[]=>[]
 |(j,az x)::l=>match alM x,j5 ρ j with
  |true,az (az k)=>match r k with
   |some y=>match An y with
    |some z=>(k,az z)::Fx r ρ l
    |none=>Fx r ρ l
   |none=>Fx r ρ l
  |_,_=>Fx r ρ l
 |(_,aA)::l=>Fx r ρ l
def R2.rn (ρ:aa (ah×ai ah)):R2->ai R2
 | .box t cs=>(rnL ρ cs).map (.box t)
 | .ext (.nest q h e t ie l)=>match j5 ρ q with
  |some (az k)=>az (.ext (.nest k h e t ie l))
  |_=>aA
 | .ext (.mj q k h t ie m)=>match j5 ρ q with
  |some (az p)=>az (.ext (.mj p k h t ie m))
  |_=>aA
 | .ext (.JN q k t m x)=>match j5 ρ q with
  |some (az p)=>az (.ext (.JN p k t m x))
  |_=>aA
 | .ext (.nb q k i e t ie l)=>match j5 ρ q,j5 ρ k with
  |some (az p),az (az z)=>az (.ext (.nb p z i e t ie l))
  |_,_=>aA
 |x=>az x
def R2.nrm:R2->R2
 | .box t cs=>.box t (cs.map Sc.nrm)
 |x=>x
def vB:R2->ai R2
 | .row e t []=>az (.row e t [])
 | .ro t []=>az (.ro t [])
 | .ext (.nest q aA e t ie [])=>az (.ext (.nest q aA e t ie []))
 | .ext (.Br t x)=>match(show ai (El t) from x) with
  |none=>az (.ext (.Br t (aA:ai (El t))))
  |some _=>aA
 | .yq k t m=>match(show aa (ko k×El t) from m) with
  |[]=>az (.yq k t ([]:aa (ko k×El t)))
  |_=>aA
 |_=>aA
def lN (ρ:aa (ah×ai ah))(σ σ':mX):Prop:=(σ'.env.map λp=>p.2.map λe=>(e.ch,e.sy.rn ρ))=σ'.env.map λp=>(p7 σ p.1).map λe=>(e.ch,az e.sy.nrm)
def R2.rnJ (ρ:aa (ah×ai ah))(j:ah)(x:R2):ai R2:=match j5 ρ j with
 |some aA=>az x
 |_=>x.rn ρ
def mQ (ρ:aa (ah×ai ah))(σ σ':mX):Prop:=(σ'.rs.map λp=>p.2.bind (R2.rnJ ρ p.1))=σ'.rs.map λp=>match j5 ρ p.1 with
 |some (az k)=>(jB (mH σ) (Fx (mH σ) ρ σ'.rs) k).map R2.nrm
 |some aA=>p.2.bind vB
 |none=>aA
def R2.agq (k:ah):R2->ak
 | .ext (.nest q _ _ _ _ _)=>bP q k
 | .ext (.mj q _ _ _ _ _)=>bP q k
 | .box _ _=>aD
 |_=>aC
def uc (ρ:aa (ah×ai ah))(σ':mX):ak:=
 ρ.all (λp=>bP p.1 σ'.nx) && (σ'.env.all (λp=>match p.2 with|some e=>e.ch.isEmpty|none=>aD) && (σ'.rs.all (λp=>match p.2 with|some x=>(match j5 ρ p.1 with|some (az _)=>(x.rn ρ).isSome|some aA=>x.agq σ'.nx|none=>aD)|none=>aD) && σ'.rs.all λp=>σ'.rs.all λq=>bp p.1 q.1||(match j5 ρ p.1,j5 ρ q.1 with|some (az j),az (az k)=>!Nat.beq j k|_,_=>aC)))
theorem wL:∀ {ρ:aa (ah×ai ah)} {j:ah} {x:ai ah},j5 ρ j=az x->(j,x)∈ρ
 |[],_,_,h=>by cases h
 |p::l,j,x,h=>by
  simp only[j5] at h;split at h
  .grind [j9,aZ]
  exact bl _ (wL h)
theorem zE {r:ah->ai R2}{ρ:aa (ah×ai ah)}:∀ {l:aa (ah×ai R2)},Frz r (Fx r ρ l)
 |[]=>λ_ h=>by cases h
 |(j,aA)::l=>zE (l:=l)
 |(j,az x)::l=>by
  simp only[Fx];split
  .rename_i k _ _;split
   .rename_i y hr;split
    .rename_i z hz;intro p hp;rcases bg.1 hp with rfl|hp
     .exact⟨y,z,hr,hz,rfl⟩
     exact zE p hp
    exact zE
   exact zE
  exact zE
def nO (A:jU)(ρ:aa (ah×ai ah)):jU:=
 ⟨λj=>match j5 ρ j with|some (az k)=>A.p k|_=>aA,λj=>match j5 ρ j with|some (az k)=>A.n k|_=>0,λj=>match j5 ρ j with|some (az k)=>A.c k|_=>0,λj=>match j5 ρ j with|some (az k)=>A.b k|_=>0,λj=>match j5 ρ j with|some (az k)=>A.f k|_=>λ_=>aL,λj=>match j5 ρ j with|some (az k)=>A.m k|_=>aA⟩
section
variable {A:jU}{ρ:aa (ah×ai ah)}
theorem mz {j k:ah}(h:j5 ρ j=az (az k)):(nO A ρ).v j=A.v k/\(nO A ρ).b j=A.b k/\(nO A ρ).m j=A.m k/\(nO A ρ).p j=A.p k/\(nO A ρ).f j=A.f k:=by
 unfold nO jU.v;simp only[h];exact⟨tv,tv,tv,tv,tv⟩
theorem XU {j:ah}(h:j5 ρ j=az aA):(nO A ρ).p j=aA:=by
 grind [nO]
theorem IE:∀ {l l':aa (ah×ah)},Sc.rn.AO ρ l=az l'->(l.map λc=>cO (az ⟨(nO A ρ).b c.1,c.2,aA⟩))=(l'.map λc=>cO (az ⟨A.b c.1,c.2,aA⟩))/\∀c∈l,(j5 ρ c.1).isSome=aC
 |[],l',h=>by cases h;exact⟨rfl,λ_ q=>by cases q⟩
 |c::l,l',h=>by
  simp only[Sc.rn.AO] at h;split at h
  .rename_i k l2 h1 h2;cases h;obtain⟨k1,k2⟩:=IE h2;refine⟨by rw[bO,bO,k1,(mz (A:=A) h1).2.1],λz hz=>?_⟩;rcases bg.1 hz with rfl|hz
   .rw[h1];rfl
   exact k2 z hz
  cases h
theorem Fy {j:ah}(h:j5 ρ j=az aA):(nO A ρ).v j= .slice aA 0 0:=by
 unfold nO jU.v;simp only[h]
theorem XV {j:ah}(h:j5 ρ j=az aA):(nO A ρ).m j=aA:=by
 grind [nO]
theorem Sc.MT {s t:Sc}(h:s.rn ρ=az t):s.den (nO A ρ)=t.den A/\s.all (λj=>(j5 ρ j).isSome=aC)/\s.lu (nO A ρ):=by
 cases s with
 |v x=>cases h;exact⟨rfl,tv,tv⟩
 |b e=>cases h;exact⟨rfl,tv,tv⟩
 |own j=>
  simp only[rn] at h;split at h
  .rename_i k hk;cases h;exact⟨(mz hk).1,by show(j5 ρ j).isSome=aC;rw[hk];rfl,tv⟩
  .rename_i hk;cases h;exact⟨Fy hk,by show(j5 ρ j).isSome=aC;rw[hk];rfl,tv⟩
  cases h
 |mp j=>
  simp only[rn] at h;split at h
  .rename_i k hk;cases h;exact⟨by simp only[den];rw[(mz hk).2.2.1],by show(j5 ρ j).isSome=aC;rw[hk];rfl,tv⟩
  .rename_i hk;cases h;exact⟨by simp only[den];rw[XV hk],by show(j5 ρ j).isSome=aC;rw[hk];rfl,tv⟩
  cases h
 |ptr j off=>
  simp only[rn] at h;split at h
  .rename_i k hk;cases h;exact⟨by simp only[den];rw[(mz hk).2.1],by show(j5 ρ j).isSome=aC;rw[hk];rfl,tv⟩
  cases h
 |el _ _ _ _=>cases h
 |sR f kH=>
  obtain⟨aeT,h1,rfl⟩:=bF.1 h;obtain⟨k1,k2⟩:=IE (A:=A) h1;exact⟨by simp only[den];rw[k1],k2,tv⟩
 |hd _ _ _=>cases h
 |pd j=>
  simp only[rn] at h;split at h
  .rename_i k hk;cases h;exact⟨by simp only[den];rw[(mz hk).2.2.2.1],by show(j5 ρ j).isSome=aC;rw[hk];rfl,tv⟩
  .rename_i hk;cases h;exact⟨by simp only[den];rw[XU hk],by show(j5 ρ j).isSome=aC;rw[hk];rfl,tv⟩
  cases h
theorem Fz:∀ {l l':aa Sc},rnL ρ l=az l'->l.map (Sc.den (nO A ρ))=l'.map (Sc.den A)/\∀c∈l,c.all (λj=>(j5 ρ j).isSome=aC)/\c.lu (nO A ρ)
 |[],l',h=>by cases h;exact⟨rfl,λ_ q=>by cases q⟩
 |c::l,l',h=>by
  simp only[rnL] at h;split at h
  .rename_i c' l2 h1 h2;cases h;obtain⟨k1,k2,k3⟩:=Sc.MT (A:=A) h1;obtain⟨k4,k5⟩:=Fz h2;refine⟨by rw[bO,bO,k1,k4],λz hz=>?_⟩;rcases bg.1 hz with rfl|hz
   .exact⟨k2,k3⟩
   exact k5 z hz
  cases h
theorem Sy.MT {s t:Sy}(h:s.rn ρ=az t):s.den (nO A ρ)=t.den A/\s.all (λj=>(j5 ρ j).isSome=aC)/\s.lu (nO A ρ):=by
 cases s with
 |one c=>obtain⟨c',h1,rfl⟩:=bF.1 h;exact Sc.MT h1
 |agg cs=>
  obtain⟨Ii,h1,rfl⟩:=bF.1 h;obtain⟨k1,k2⟩:=Fz (A:=A) h1;exact⟨by simp only[den,k1],λc hc=>(k2 c hc).1,λc hc=>(k2 c hc).2⟩
 |vt _=>cases h
end
theorem oE {α β:Type}{l:aa α}{f g:α->β}(h:l.map f=l.map g){x:α}(hx:x∈l):f x=g x:=List.map_inj_left.1 h x hx
theorem Kk {x:R2}(h:az x=vB x){T:jv}{w:aN}{A:jU}{ρ:aa (ah×ai ah)}{j:ah}(hk:j5 ρ j=az aA):uW x=aD/\(∀b,¬(x.den (nO A ρ) j).has b)/\(x.den (nO A ρ) j).ok T w/\x.lu (nO A ρ)/\∀F:ah->Prop,(∀k,x.agq k=aC->(∀i,i<k->F i)->x.all F):=by
 have ev:=Fy (A:=A) hk;cases x with
 |Dv k' t l=>simp[vB] at h
 |iter k' t l lf cnt cur=>simp[vB] at h
 |map k' t l=>simp[vB] at h
 |ar t l=>simp[vB] at h
 |box t cs=>simp[vB] at h
 |yq k' t l=>
  have key:∀m:aa (ko k'×El t),az (R2.yq k' t m)=vB (.yq k' t m)->m=[]:=λm=>by
   cases m with
   |nil=>exact λ_=>rfl
   |cons _ _=>intro q;cases q
  have e:=key l h;subst e;refine⟨rfl,(λb q=>by cases q),?_,tv,λF k _ _=>trivial⟩;show Rd T w (.map ((nO A ρ).m j)) (show jw k' (El t) from([]:aa (ko k'×El t)));rw[XV hk];exact JL ⟨aA,rfl,rfl⟩
 |ro t l=>
  cases l with
  |nil=>
   refine⟨rfl,(λb q=>by cases q),?_,tv,λF k _ _=>trivial⟩;show Rd T w ((nO A ρ).v j) ([]:aa (El t));rw[ev];exact O8
  |cons _ _=>simp[vB] at h
 |row e t l=>
  cases l with
  |nil=>
   refine⟨rfl,(λb q=>by have q:((nO A ρ).v j).ownBlock=az b:=q;rw[ev] at q;cases q),?_,tv,λF k _ _=>trivial⟩;show mI T w e ((nO A ρ).v j) ([]:aa (El t));rw[ev];exact mI.nil
  |cons _ _=>simp[vB] at h
 |ext y=>
  cases y with
  |nest q hh e t ie l=>
   cases hh with
   |some _=>simp[vB] at h
   |none=>
    cases l with
    |cons _ _=>simp[vB] at h
    |nil=>
     refine⟨rfl,(λb z=>?_),?_,tv,λF k h1 h2=>h2 q (by simpa using cw▸h1)⟩
     .have z:((nO A ρ).v j).ownBlock=az b\/∃c,c<([]:aa (El t)).length*jD t/\_:=z;rcases z with z|⟨c,hc,_⟩
      .rw[ev] at z;cases z
      simp at hc
     show ot T w ((nO A ρ).v j) ((nO A ρ).f q) aA e t ie ([]:aa (El t));rw[ev];exact⟨⟨[],oM.nil w e _,λ_ q=>(by cases q),λc x hc=>by simp[oW] at hc⟩,λc d b hc=>by simp at hc,λc b hc=>by simp at hc⟩
  |mj q k hh t ie m=>simp[vB] at h
  |Br t x=>
   have key:∀m:ai (El t),az (R2.ext (.Br t m))=vB (.ext (.Br t m))->m=aA:=λm=>by
    cases m with
    |none=>exact λ_=>rfl
    |some _=>intro q;cases q
   have e:=key x h;subst e;refine⟨rfl,(λb q=>by cases q),?_,tv,λF k _ _=>trivial⟩;show Rd T w (.pointer ((nO A ρ).p j)) (show vz (El t) from(aA:ai (El t)));rw[XU hk];exact Pa rfl
  |par _ _=>simp[vB] at h
  |JM _ _=>simp[vB] at h
  |Eh _ _=>simp[vB] at h
  |JN _ _ _ _ _=>simp[vB] at h
  |Ia _=>simp[vB] at h
  |uV _ _=>simp[vB] at h
  |nb _ _ _ _ _ _ _=>simp[vB] at h
def BH (ρ:aa (ah×ai ah)):ah->ak
 |0=>aC
 |k+1=>(match j5 ρ k with|some (az i)=>bp i k|_=>aD) && BH ρ k
theorem Kl {ρ:aa (ah×ai ah)}:∀ {n:ah},BH ρ n=aC->∀j,j<n->j5 ρ j=az (az j)
 |n+1,h,j,hj=>by
  unfold BH at h;rw[bB] at h
  by_cases q:j=n
  .grind [j9]
  exact Kl h.2 j (by omega)
theorem ud {o:jO}{n:ah}{σ σ':mX}{a:Act}{w:aN}(ρ:aa (ah×ai ah))(h:lH o n σ a w)(h1:lN ρ σ σ')(h2:mQ ρ σ σ')(h3:uc ρ σ'=aC)(h4:BH ρ o.kp=aC):lH o n σ' a w:=by
 obtain⟨⟨A,S,H⟩,h0,np⟩:=h;obtain⟨S1,hS,H1⟩:=H.freeze (zE (r:=mH σ) (ρ:=ρ) (l:=σ'.rs));unfold uc at h3;simp only[bB] at h3;have⟨i1,i2,i3,i4⟩:=h3;have rG:∀j,(j5 ρ j).isSome=aC->j<σ'.nx:=λj hj=>by
  obtain⟨x,hx⟩:=bS.1 hj;have:=bG.1 i1 _ (wL hx);simpa using cw▸this
 have PI:∀t e,p7 σ' t=az e->e.ch=[]/\∃e',p7 σ t=az e'/\e'.ch=[]/\e.sy.rn ρ=az e'.sy.nrm:=λt e he=>by
  have hm:(t,az e)∈σ'.env:=(uJ he).resolve_left λq=>by cases q
  have rB:e.ch=[]:=by
   have:=bG.1 i2 _ hm;simpa using this
  have:=oE h1 hm;simp only[cN] at this;cases VO:p7 σ t with
  |none=>rw[VO] at this;cases this
  |some e'=>
   rw[VO] at this;simp only[cN,cr,cW] at this;exact⟨rB,e',rfl,by rw[<-this.1];exact rB,this.2⟩
 have CL:∀ {re:aa (ah×ai R2)} {j:ah} {x:R2},jB (λ_=>aA) re j=az x->(j,az x)∈re:=by
  intro re
  induction re with
  |nil=>intro j x h;cases h
  |cons p re ih=>
   intro j x h;have h:sG (jB (λ_=>aA) re) p.1 p.2 j=az x:=h
   by_cases q:p.1=j
   .subst q;rw[mu] at h;rw[<-h];exact aZ
   rw[m9 q] at h;exact bl _ (ih h)
 have MF:∀ {i j k:ah} {x y:R2},mH σ' i=az x->mH σ' j=az y->j5 ρ i=az (az k)->j5 ρ j=az (az k)->i=j:=λ{i j k x y} hx hy hi hj=>by
  have:=bG.1 (bG.1 i4 _ (CL hx)) _ (CL hy);rw[e7] at this;rcases this with q|q
  .exact j9 q
  rw[hi,hj] at q;simp at q
 have vS:∀j x,mH σ' j=az x->(∃k y,j5 ρ j=az (az k)/\jB (mH σ) (Fx (mH σ) ρ σ'.rs) k=az y/\x.den (nO A ρ) j=y.den A k/\(uW x=aC->y=x)/\x.all (λj=>(j5 ρ j).isSome=aC)/\x.lu (nO A ρ))\/(j5 ρ j=az aA/\az x=vB x/\x.agq σ'.nx=aC):=λj x hx=>by
  have hm:(j,az x)∈σ'.rs:=CL hx;have hs:=bG.1 i3 _ hm;have:=oE h2 hm;simp only[apc] at this;dsimp only at hs;split at this
  .rename_i k hk;have hk:j5 ρ j=az (az k):=hk;have eJ:R2.rnJ ρ j x=x.rn ρ:=by unfold R2.rnJ;rw[hk]
   rw[eJ] at this;clear eJ;rw[hk] at hs;cases hy:jB (mH σ) (Fx (mH σ) ρ σ'.rs) k with
   |none=>
    rw[hy] at this;simp only[dN] at this;rw[this] at hs;cases hs
   |some y=>
    rw[hy] at this;simp only[cN] at this;refine .inl ⟨k,y,hk,hy,?_⟩;obtain⟨ev,eb,em,ep,ef⟩:=mz (A:=A) hk;cases x with
    |ro t l=>
     cases y<;>first|(simp[R2.rn,R2.nrm] at this;done)|skip
     have this:R2.ro t l=R2.ro _ _:=b5 this;cases this;exact⟨by simp only[R2.den,ev],λq=>(by cases q),tv,tv⟩
    |ar t l=>
     cases y<;>first|(simp[R2.rn,R2.nrm] at this;done)|skip
     have this:R2.ar t l=R2.ar _ _:=b5 this;cases this;exact⟨rfl,λ_=>rfl,tv,tv⟩
    |row e t l=>
     cases y<;>first|(simp[R2.rn,R2.nrm] at this;done)|skip
     have this:R2.row e t l=R2.row _ _ _:=b5 this;cases this;exact⟨by simp only[R2.den,ev],λq=>(by cases q),tv,tv⟩
    |box t cs=>
     obtain⟨Ii,hc,hy2⟩:=bF.1 this;cases y<;>first|(simp[R2.nrm] at hy2;done)|skip
     rename_i t2 cs2;simp only[R2.nrm,R2.box.injEq] at hy2;obtain⟨rfl,rfl⟩:=hy2;obtain⟨k1,k2⟩:=Fz (A:=A) hc;refine⟨?_,λq=>(by cases q),λc hc=>(k2 c hc).1,λc hc=>(k2 c hc).2⟩;simp only[R2.den,eb,k1,cz]
     congr 2
     exact dm λc _=>Sc.BG A c
    |yq k' t l=>
     cases y<;>first|(simp[R2.rn,R2.nrm] at this;done)|skip
     have this:R2.yq k' t l=R2.yq _ _ _:=b5 this;cases this;exact⟨by simp only[R2.den,em],λq=>(by cases q),tv,tv⟩
    |Dv k' t l=>
     cases y<;>first|(simp[R2.rn,R2.nrm] at this;done)|skip
     have this:R2.Dv k' t l=R2.Dv _ _ _:=b5 this;cases this;exact⟨rfl,λ_=>rfl,tv,tv⟩
    |map k' t l=>
     cases y<;>first|(simp[R2.rn,R2.nrm] at this;done)|skip
     have this:R2.map k' t l=R2.map _ _ _:=b5 this;cases this;exact⟨by simp only[R2.den,em],λq=>(by cases q),tv,tv⟩
    |iter k' t l lf cnt cur=>
     cases y<;>first|(simp[R2.rn,R2.nrm] at this;done)|skip
     have this:R2.iter k' t l lf cnt cur=R2.iter _ _ _ _ _ _:=b5 this;cases this;exact⟨by simp only[R2.den,eb],λq=>(by cases q),tv,tv⟩
    |ext z=>
     cases z with
     |nest q hh e t ie l=>
      simp only[R2.rn] at this;split at this
      .rename_i q' hq;cases y<;>first|(simp[R2.nrm] at this;done)|skip
       have this:R2.ext (.nest q' hh e t ie l)=R2.ext _:=b5 this;cases this;exact⟨by simp only[R2.den,X2.den,ev,(mz (A:=A) hq).2.2.2.2],λq=>(by cases q),by show(j5 ρ q).isSome=aC;rw[hq];rfl,tv⟩
      cases this
     |mj q kc hh t ie m=>
      simp only[R2.rn] at this;split at this
      .rename_i q' hq;cases y<;>first|(simp[R2.nrm] at this;done)|skip
       have this:R2.ext (.mj q' kc hh t ie m)=R2.ext _:=b5 this;cases this;exact⟨by simp only[R2.den,X2.den,em,(mz (A:=A) hq).2.2.2.2],λq=>(by cases q),by show(j5 ρ q).isSome=aC;rw[hq];rfl,tv⟩
      cases this
     |Br t l=>
      cases y<;>first|(simp[R2.rn,R2.nrm] at this;done)|skip
      have this:R2.ext (.Br t l)=R2.ext _:=b5 this;cases this;exact⟨by simp only[R2.den,X2.den,ep],λq=>(by cases q),tv,tv⟩
     |par t l=>
      cases y<;>first|(simp[R2.rn,R2.nrm] at this;done)|skip
      have this:R2.ext (.par t l)=R2.ext _:=b5 this;cases this;exact⟨rfl,λ_=>rfl,tv,tv⟩
     |JM t l=>
      cases y<;>first|(simp[R2.rn,R2.nrm] at this;done)|skip
      have this:R2.ext (.JM t l)=R2.ext _:=b5 this;cases this;exact⟨by simp only[R2.den,X2.den,eb],λq=>(by cases q),tv,tv⟩
     |Eh t l=>
      cases y<;>first|(simp[R2.rn,R2.nrm] at this;done)|skip
      have this:R2.ext (.Eh t l)=R2.ext _:=b5 this;cases this;exact⟨rfl,λ_=>rfl,tv,tv⟩
     |JN q kc t m kx=>
      simp only[R2.rn] at this;split at this
      .rename_i q' hq;cases y<;>first|(simp[R2.nrm] at this;done)|skip
       have this:R2.ext (.JN q' kc t m kx)=R2.ext _:=b5 this;cases this;exact⟨by simp only[R2.den,X2.den,em,(mz (A:=A) hq).2.2.2.2],λq=>(by cases q),by show(j5 ρ q).isSome=aC;rw[hq];rfl,tv⟩
      cases this
     |Ia D=>
      cases y<;>first|(simp[R2.rn,R2.nrm] at this;done)|skip
      have this:R2.ext (.Ia D)=R2.ext _:=b5 this;cases this;exact⟨rfl,λq=>(by cases q),tv,tv⟩
     |uV e t=>
      cases y<;>first|(simp[R2.rn,R2.nrm] at this;done)|skip
      have this:R2.ext (.uV e t)=R2.ext _:=b5 this;cases this;exact⟨by simp only[R2.den,X2.den,ev],λq=>(by cases q),tv,tv⟩
     |nb q k i e t ie l=>
      simp only[R2.rn] at this;split at this
      .rename_i q' k' hq hk';cases y<;>first|(simp[R2.nrm] at this;done)|skip
       have this:R2.ext (.nb q' k' i e t ie l)=R2.ext _:=b5 this;cases this;exact⟨by simp only[R2.den,X2.den,ev,(mz (A:=A) hq).2.2.2.2,(mz (A:=A) hk').1],λq=>(by cases q),⟨by show(j5 ρ q).isSome=aC;rw[hq];rfl,by show(j5 ρ k).isSome=aC;rw[hk'];rfl⟩,tv⟩
      cases this
  .rename_i hk;have hk:j5 ρ j=az aA:=hk;rw[hk] at hs;have e:R2.rnJ ρ j x=az x:=by unfold R2.rnJ;rw[hk]
   rw[e] at this;exact .inr ⟨hk,this,hs⟩
  rename_i hk;have hk:j5 ρ j=aA:=hk;rw[hk] at hs;cases hs
 refine⟨⟨nO A ρ,S1,?_⟩,λt e he=>(PI t e he).1,np⟩;refine⟨H1.size,H1.lK,λt e he=>?_,λt e he _=>?_,λj x hj=>?_,?_,λj x hj=>?_,⟨λj hj=>rG j (by rw[Kl h4 j (np j hj)];rfl),λj hj=>by
  obtain⟨e1,e2,e3⟩:=H1.wj.2 j hj;obtain⟨q1,q2,q3,q4,q5⟩:=mz (A:=A) (Kl h4 j (np j hj));exact⟨e1.trans q1.symm,e2.trans q2.symm,e3.1.trans q5.symm,e3.2.trans q3.symm⟩⟩⟩
 .obtain⟨rB,e',VO,ajc,hrn⟩:=PI t e he;have hv:=(H1.env t e' VO).1 (by rw[ajc];exact λl hl=>by cases hl);refine⟨λ_=>?_,λq=>(q (by rw[rB];exact λl hl=>by cases hl)).elim⟩;show a.tmps[t]?=az (e.sy.den (nO A ρ));rw[(Sy.MT hrn).1,Sy.BG];exact hv
 .obtain⟨rB,e',VO,ajc,hrn⟩:=PI t e he;obtain⟨_,k2,k3⟩:=Sy.MT (A:=A) hrn;exact⟨Sy.mono rG k2,k3⟩
 .rcases vS j x hj with⟨k,y,hk,hy,hd,_,ha,hg⟩|⟨hk,hx,hfb⟩
  .exact⟨rG j (by rw[hk];rfl),R2.mono rG ha,hg⟩
  obtain⟨_,_,_,q4,q5⟩:=Kk (A:=A) (T:=S1) (w:=w) hx hk;exact⟨rG j (by rw[hk];rfl),q5 _ _ hfb λi hi=>hi,q4⟩
 .have qn:∀ {j:ah} {r:Rs},jL (nO A ρ) (mH σ') j=az r->(∃k x,mH σ' j=az x/\j5 ρ j=az (az k)/\jL A (jB (mH σ) (Fx (mH σ) ρ σ'.rs)) k=az r)\/((∀b,¬r.has b)/\r.ok S1 w):=λ{j r} hj=>by
   obtain⟨x,hx,rfl⟩:=bF.1 hj;rcases vS j x hx with⟨k,y,hk,hy,hd,_,ha,hg⟩|⟨hk,hx2,_⟩
   .exact .inl ⟨k,x,hx,hk,by show(jB (mH σ) _ k).map _=_;rw[hy,hd];rfl⟩
   obtain⟨_,q2,q3,_⟩:=Kk (A:=A) (T:=S1) (w:=w) hx2 hk;exact .inr ⟨q2,q3⟩
  refine⟨H1.jM.sJ,H1.jM.src,H1.jM.pT,λj r hj=>?_,λj r b hj hb=>?_,λi j ri rj b hi hj ei ej=>?_⟩
  .rcases qn hj with⟨k,_,_,_,hk⟩|⟨_,hk⟩
   .exact H1.jM.ok k r hk
   exact hk
  .rcases qn hj with⟨k,_,_,_,hk⟩|⟨hk,_⟩
   .exact H1.jM.own k r b hk hb
   exact(hk b hb).elim
  rcases qn hi with⟨k,x,hx,hk1,hk⟩|⟨hk,_⟩
  .rcases qn hj with⟨l,y,hy,uB,hl⟩|⟨hl,_⟩
   .have:=H1.jM.apart k l ri rj b hk hl ei ej;subst this;exact MF hx hy hk1 uB
   exact(hl b ej).elim
  exact(hk b ei).elim
 rcases vS j _ hj with⟨k,y,hk,hy,hd,hr,ha,hg⟩|⟨hk,hx,_⟩
 .cases hia:uW x with
  |false=>exact oh hia
  |true=>
   have:=hr hia;subst this;obtain⟨ev,eb,em,ep,ef⟩:=mz (A:=A) hk;have:=H1.args k y hy;cases y with
   |ar t l=>show Rd _ _ _ _;rw[ev];exact this
   |Dv k' t l=>show Rd _ _ _ _;rw[em];exact this
   |ext z=>
    cases z with
    |par t l=>show Rd _ _ _ _;rw[ep];exact this
    |Eh t l=>show qj _ _ _ _;rw[eb];exact this
    |_=>cases hia
   |_=>cases hia
 exact oh (Kk (A:=A) (T:=S1) (w:=w) hx hk).1
section
variable {mo:Mode}{P:aY}{o:jO}{n:ah}{σ σ':mX}{a:Act}{w:aN}{T:aa (lM P)}{B:Code}{Q:oL}{st:aa It}
theorem go {pr:Prop}(hn:aa (ah×ak))(h:lH o n σ a w)(hp:pr)(k:∀a w,lH o n (xS (rT P T hn n B st σ)) a w->At mo P T B Q (xI (rT P T hn n B st σ)) a w)
  (h1:(rT P T hn n B st σ).isSome=aC:=by delta rT;kernel_rfl) (h2:Cm (xC (rT P T hn n B st σ))=pr:=by delta rT;kernel_rfl)
  (h3:∀A w,(xH (rT P T hn n B st σ)).map (λh=>h.lhs A w)=(xH (rT P T hn n B st σ)).map λh=>h.rhs A w:=by delta rT;intro A w;kernel_rfl):At mo P T B Q st a w:=by
 obtain⟨x,hx⟩:=bS.1 h1;rw[hx] at h2 h3 k;refine⟨(RA (Q:=Q) (λ_ _=>trivial) (λ_=>⟨λ_=>trivial,λ_=>trivial,rfl⟩) hx).2 h.i (vE.1 (by show Cm x.cs;rw[show Cm x.cs=pr from h2];exact hp)) (λy hy A w=>?_) λa w h'=>(k a w (h'.x h.np)).get⟩;exact oE (h3 A w) hy
theorem tY (hn:aa (ah×ak))(h:lH o n σ a w)(k:∀a w,lH o n (xS (rT P T hn n B st σ)) a w->At mo P T B Q (xI (rT P T hn n B st σ)) a w)
 (h1:(rT P T hn n B st σ).isSome=aC:=by delta rT;kernel_rfl) (h2:Cm (xC (rT P T hn n B st σ))=av:=by delta rT;kernel_rfl)
 (h3:∀A w,(xH (rT P T hn n B st σ)).map (λh=>h.lhs A w)=(xH (rT P T hn n B st σ)).map λh=>h.rhs A w:=by delta rT;intro A w;kernel_rfl):At mo P T B Q st a w:=go hn h tv k h1 h2 h3
theorem aeU {p q:Prop}(h:lH o n σ a w)(k1:p->At mo P T B Q (.run (oP (sY B σ st)++[0])::oR (sY B σ st)) a w)(k2:q->At mo P T B Q (.run (oP (sY B σ st)++[1])::oR (sY B σ st)) a w)
  (hc:(sY B σ st).map (λx=>(x.1.is aC,x.1.is aD))=az (p,q):=by kernel_rfl):At mo P T B Q st a w:=by
 obtain⟨⟨A,S,H⟩,h0,np⟩:=h;obtain⟨⟨e,pt,r⟩,hx,hpq⟩:=bF.1 hc;rw[hx] at k1 k2;simp only[cW] at hpq;obtain⟨rfl,rfl⟩:=hpq;unfold sY at hx;split at hx
 .rename_i p' r';split at hx
  .rename_i t c1 c2 pG;split at hx
   .rename_i e' he;cases hx;have hv:=(H.env t _ he).1 (λl hl=>by cases hl);have hv:a.eval (.tmp t)= .bool e.den:=by
     simp only[dH,cP];rw[show a.tmps[t]?=az (.bool e.den) from hv];rfl
    refine⟨?_⟩;show(sub B pt).qP mo P (post mo P B Q r) a w;rw[pG];refine Fu hv (λz=>?_) (λz=>?_)
    .have:=k1 ((BE.rY e aC).2 z);have this:(sub B (pt++[0])).qP mo P (post mo P B Q r) a w:=this.get;rw[lJ,pG,Cv] at this;exact this
    have:=k2 ((BE.rY e aD).2 z);have this:(sub B (pt++[1])).qP mo P (post mo P B Q r) a w:=this.get;rw[lJ,pG,Cw] at this;exact this
   cases hx
  cases hx
 cases hx
theorem agt {p q:Prop}(X:Type)(σ':X->mX)(I:X->Prop)(h:lH o n σ a w)
  (k1:∀K:Act->aN->Prop,(∀(y:X) (ρ:aa (ah×ai ah)) {wm:mX} {a:Act} {w:aN},lH o n wm a w->I y->(h1:lN ρ wm (σ' y):=by delta lN;kernel_rfl)->(h2:mQ ρ wm (σ' y):=by delta mQ;kernel_rfl)->(h3:uc ρ (σ' y)=aC:=by kernel_rfl)->(h4:BH ρ o.kp=aC:=by kernel_rfl)->K a w)->p->At mo P T B Q (.run (oP (sY B σ st)++[0]):: .lp K::oR (sY B σ st)) a w)
  (k2:∀K:Act->aN->Prop,(∀(y:X) (ρ:aa (ah×ai ah)) {wm:mX} {a:Act} {w:aN},lH o n wm a w->I y->(h1:lN ρ wm (σ' y):=by delta lN;kernel_rfl)->(h2:mQ ρ wm (σ' y):=by delta mQ;kernel_rfl)->(h3:uc ρ (σ' y)=aC:=by kernel_rfl)->(h4:BH ρ o.kp=aC:=by kernel_rfl)->K a w)->q->At mo P T B Q (.run (oP (sY B σ st)++[1]):: .lp K::oR (sY B σ st)) a w)
  (k:∀(x:X) (a:Act) (w:aN),I x->lH o n (σ' x) a w->At mo P T B Q (oR (sY B σ st)) a w)
  (hc:(sY B σ st).map (λx=>(x.1.is aC,x.1.is aD))=az (p,q):=by kernel_rfl):At mo P T B Q st a w:=by
 have e:∀(i:aa ah) (R:aa It),At mo P T B Q (.run i:: .lp (λa w=>At mo P T B Q R a w)::R) a w->At mo P T B Q (.run i::R) a w:=λi R hA=>by
  have hp:Exit.then (λa w=>At mo P T B Q R a w) (post mo P B Q R)=post mo P B Q R:=by
   funext e a w;cases e with
   |normal=>exact propext ⟨λh=>h.get,λh=>⟨h⟩⟩
   |_=>rfl
  have hg:(sub B i).qP mo P (Exit.then (λa w=>At mo P T B Q R a w) (post mo P B Q R)) a w:=hA.get;rw[hp] at hg;exact⟨hg⟩
 exact aeU h (λz=>e _ _ (k1 _ (λy ρ _ _ _ h hI h1 h2 h3 h4=>k y _ _ hI (ud ρ h h1 h2 h3 h4)) z)) (λz=>e _ _ (k2 _ (λy ρ _ _ _ h hI h1 h2 h3 h4=>k y _ _ hI (ud ρ h h1 h2 h3 h4)) z)) hc
theorem go_loop (X:Type)(σ':X->mX)(I:X->Prop)(μ:X->ah)(x0:X)(ρ:aa (ah×ai ah))(h:lH o n σ a w)(h0:I x0)
  (round:∀(x:X) (a:Act) (w:aN) (K:Act->aN->Prop),(∀(y:X) (ρ:aa (ah×ai ah)) {wm:mX} {a:Act} {w:aN},lH o n wm a w->I y->μ y<μ x->
    (h1:lN ρ wm (σ' y):=by delta lN;kernel_rfl)->(h2:mQ ρ wm (σ' y):=by delta mQ;kernel_rfl)->(h3:uc ρ (σ' y)=aC:=by kernel_rfl)->(h4:BH ρ o.kp=aC:=by kernel_rfl)->K a w)->
   I x->lH o n (σ' x) a w->At mo P T B Q (.run (lP (sH B st)++[0]):: .lp K::lR (sH B st)) a w)
  (ht:(sH B st).isSome=aC:=by kernel_rfl) (h1:lN ρ σ (σ' x0):=by delta lN;kernel_rfl) (h2:mQ ρ σ (σ' x0):=by delta mQ;kernel_rfl) (h3:uc ρ (σ' x0)=aC:=by kernel_rfl) (h4:BH ρ o.kp=aC:=by kernel_rfl):At mo P T B Q st a w:=by
 obtain⟨⟨pt,r⟩,hx⟩:=bS.1 ht;rw[hx] at round;unfold sH at hx;split at hx
 .rename_i p' r';split at hx
  .rename_i b pG;cases hx;refine⟨?_⟩;show(sub B pt).qP mo P (post mo P B Q r) a w;rw[pG];refine XP X (λx a w=>lH o n (σ' x) a w/\I x) μ x0 ⟨ud ρ h h1 h2 h3 h4,h0⟩ λx a w hI=>?_;have:=(round x a w (λa w=> ∃y,(lH o n (σ' y) a w/\I y)/\μ y<μ x) (λy ρ _ _ _ h hI hμ h1 h2 h3 h4=>⟨y,⟨ud ρ h h1 h2 h3 h4,hI⟩,hμ⟩) hI.2 hI.1).get;have this:(sub B (pt++[0])).qP mo P (Exit.then _ (post mo P B Q r)) a w:=this;rw[lJ,pG,HU] at this;exact this
  cases hx
 cases hx
theorem VQ {K:Act->aN->Prop}(k:K a w)(ht:(match st with| .lp K::_=>az K|_=>aA)=az K:=by kernel_rfl):At mo P T B Q st a w:=by
 split at ht
 .cases ht;exact⟨k⟩
 cases ht
theorem tP (h:lH o n σ a w)(j:ah){t:Ty}{l:aa (El t)}(hj:(mH σ j).bind pU=az ⟨t,l⟩:=by kernel_rfl):(aM l:af)<=9223372036854775807:=by
 have⟨A,S,H⟩:=h.ok;obtain⟨x,hx,hl⟩:=aok.1 hj;obtain⟨p,c,_,h1,h2⟩:=qA (lz (zq H hx hl));have:maxLen<=9223372036854775807:=by decide
 omega
end
def Up {α:Type 1}:aa Sc->Tr α->Tr α
 |[],k=>k
 |c::l,k=>match numOf c with
  |some j=>.res j λx=>match uW x with
   |true=>.fail
   |false=>Up l k
  |none=>Up l k
def XW {α:Type 1}(t:Ty)(y:Sy)(k:El t->Tr α):Tr α:=match t,y,k with
 | .ptr t,.one (.ptr j 0),k=>.res j λx=>match x with
  | .box _ cs=>Up cs (Pf t cs λd l=>match l with
   |[]=>k (az d:ai (El t))
   |_=>.fail)
  |_=>rZ (.ptr t) (.one (.ptr j 0)) k
 |t,y,k=>rZ t y k
def XX {rs:aa Ty}:(ts:aa Ty)->aa Sy->(pq ts->Tr (ULift.{1} (pq rs)))->Tr (ULift.{1} (pq rs))
 |[],[],k=>k ()
 |t::ts,y::ys,k=>XW t y λx=>XX ts ys λxs=>k (x,xs)
 |_,_,_=>.fail
def CM (a:Act):ResultVar->Sem aO
 | .tmp t=>pure (a.tmps.getD t aL)
 | .cell b t=>do loadVar t (<-asAddr (a.tmps.getD b aL))
def sZ (a:Act)(l:aa ResultVar)(acc:aq aO):Sem (aq aO):=l.foldlM (λ(acc:aq aO) (x:ResultVar)=>do let v <-CM a x;pure (acc.push v)) acc
theorem vI {P:aY}{a:Act}{w:aN}{x:ResultVar}{v:aO}(h:(CM a x).run P w= .ok v w)(l:aa ResultVar)(acc:aq aO):(sZ a (x::l) acc).run P w=(sZ a l (acc.push v)).run P w:=by
 unfold sZ;rw[List.foldlM_cons,bw,bw,h];rfl
def D8 {α:Type 1}(P:aY):aa ResultVar->(aa Sy->Tr α)->Tr α
 |[],k=>k []
 | .tmp t::l,k=>.slot t λe=>match e.ch with
  |[]=>D8 P l λys=>k (e.sy::ys)
  |_=>.fail
 | .cell t ty::l,k=>.slot t λe=>match e.ch,e.sy with
  |[],.one (.ptr j 0)=>.res j λx=>match x with
   | .box _ cs=>match P.underlying ty with
    |some (.struct _)=>jK ((P.info? ty).isSome && bp (cs.take (P.cellsOf ty)).length (P.cellsOf ty)) (D8 P l λys=>k (.agg (cs.take (P.cellsOf ty))::ys))
    |some (.array _ _)=>.fail
    |some _=>match cs with
     |c::_=>D8 P l λys=>k (.one c::ys)
     |[]=>.fail
    |none=>.fail
   |_=>.fail
  |_,_=>.fail
def FA (B:Code):aa It->ak
 | .run p::_=>aeC (sub B p)
 |[]=>aC
 |_=>aD
def XY (P:aY)(fn:Func)(rs:aa Ty)(σ:mX):ai (ULift.{1} (pq rs)):=
 (D8 P fn.results.toList λys=>Up (ys.flatMap jA) (XX rs ys λx=>.ret ⟨x⟩)).run (p7 σ) (mH σ)
section
variable {P:aY}{o:jO}{n:ah}{A:jU}{S T':jv}{F:ah->Prop}{s:ah->ai E2}{r:ah->ai R2}{σ:mX}{a:Act}{w:aN}{T:aa (lM P)}{B:Code}{Q:oL}{st:aa It}
theorem yW {α:Type 1}:∀ {l:aa Sc} {k:Tr α} {out:α},(Up l k).run s r=az out->(∀c∈l,∀j,numOf c=az j->∀y,r j=az y->uW y=aD)/\k.run s r=az out
 |[],k,out,h=>⟨λ_ q=>(by cases q),h⟩
 |c::l,k,out,h=>by
  simp only[Up] at h;split at h
  .rename_i j hc;obtain⟨x,hx,h⟩:=jI h;split at h
   .cases h
   rename_i ha;obtain⟨h1,h2⟩:=yW h;refine⟨λc' Ab i hi y hy=>?_,h2⟩;rcases bg.1 Ab with rfl|Ab
   .rw[hc] at hi;cases hi;rw[hx] at hy;cases hy;exact ha
   exact h1 c' Ab i hi y hy
  rename_i hc;obtain⟨h1,h2⟩:=yW h;refine⟨λc' Ab i hi y hy=>?_,h2⟩;rcases bg.1 Ab with rfl|Ab
  .rw[hc] at hi;cases hi
  exact h1 c' Ab i hi y hy
theorem Uq {α:Type 1}(H:kW o n A S F s r a w)(hT:∀k,JP o w k->T' k){t:Ty}{y:Sy}{k:El t->Tr α}{out:α}(hR:uX T' w A r (jA y))(h:(XW t y k).run s r=az out):∃x:El t,Rd T' w (y.den A) x/\(k x).run s r=az out:=by
 unfold XW at h;split at h
 .rename_i t j k;obtain⟨x,hx,h⟩:=jI h;split at h
  .rename_i bt cs;obtain⟨h1,h⟩:=yW h;obtain⟨d,u,rest,hu,hd,h⟩:=uY (T:=T') t _ _ (λc hc i hi z hz=>(yL H h1 c hc i hi z hz).up hT) h;split at h
   .rw[bW] at hu;subst hu;have hm:jL A r j=az (Rs.of (.box (A.b j) bt (cs.map (Sc.den A)))):=by simp[jL,hx,R2.den]
    have hb:w.heap[A.b j]?=az (.cells (cs.map (Sc.den A)).toArray bt (0,0)):=H.jM.ok j _ hm;obtain⟨o1,o2,_⟩:=H.jM.own j _ (A.b j) hm rfl;refine⟨(az d:ai (El t)),Pa (x:=(az d:ai (El t))) (show uR T' w _ (az d:ai (El t)) from⟨A.b j,_,_,_,_,rfl,hT _ (.inr ⟨o1,o2⟩),hb,hd,λq _=>?_⟩),h⟩;rw[anA]
   cases h
  exact qp hR h
 exact qp hR h
theorem CN (H:kW o n A S F s r a w)(hT:∀k,JP o w k->T' k){rs:aa Ty}:∀ {ts:aa Ty} {ys:aa Sy} {k:pq ts->Tr (ULift.{1} (pq rs))} {out:ULift.{1} (pq rs)},uX T' w A r (ys.flatMap jA)->(XX ts ys k).run s r=az out->∃x:pq ts,CC T' w ts (ys.map (Sy.den A)) x/\(k x).run s r=az out
 |[],[],k,out,_,h=>⟨(),tv,h⟩
 |[],_::_,_,_,_,h=>by cases h
 |_::_,[],_,_,_,h=>by cases h
 |t::ts,y::ys,k,out,hR,h=>by
  obtain⟨x,h1,h⟩:=Uq H hT (λc hc=>hR c (by rw[dc];exact bU _ hc)) h;obtain⟨xs,h2,h⟩:=CN H hT (ts:=ts) (ys:=ys) (λc hc=>hR c (by rw[dc];exact bV _ hc)) h;exact⟨(x,xs),⟨h1,h2⟩,h⟩
theorem BI (H:kW o n A S F s r a w){j:ah}{bt:aV}{cs:aa Sc}(hj:r j=az (.box bt cs)){ty:aV}{v:aO}
  (hv:(∃fs,P.underlying ty=az (.struct fs)/\(P.info? ty).isSome=aC/\(cs.take (P.cellsOf ty)).length=P.cellsOf ty/\v= .agg ((cs.take (P.cellsOf ty)).map (Sc.den A)).toArray)\/
   ∃d c l,P.underlying ty=az d/\(∀fs,d≠.struct fs)/\(∀k e,d≠.array k e)/\cs=c::l/\v=c.den A):(loadVar ty ⟨A.b j,0,aA⟩).run P w= .ok v w:=by
 have hm:jL A r j=az (Rs.of (.box (A.b j) bt (cs.map (Sc.den A)))):=by simp[jL,hj,R2.den]
 have hb:w.heap[A.b j]?=az (.cells (cs.map (Sc.den A)).toArray bt (0,0)):=H.jM.ok j _ hm;have uk:∀q,w.cell? ⟨A.b j,q,aA⟩=(cs.map (Sc.den A))[q]?:=λq=>by rw[aK w _ q _ _ _ hb];simp
 have key:(aoj ty (.pointer (az ⟨A.b j,0,aA⟩))).run P w= .ok v w:=by
  rcases hv with⟨fs,h1,h2,h3,rfl⟩|⟨d,c,l,h1,h2,h3,rfl,rfl⟩
  .refine L5 (C:=(· =w)) w rfl h1 ⟨fs,rfl⟩ h2 ⟨?_,λw' Bc q hq=>?_⟩
   .rw[bJ] at h3;simp;exact h3
   subst Bc;rw[cZ,uk,anA,aoR,cE,aQ hq]
  exact L6 w h1 (λfs q=>h2 fs q) (λk e q=>h3 k e q) (by rw[uk];rfl)
 simpa[aoj,Instr.sureAddr] using key
theorem wM {α:Type 1}(H:kW o n A S F s r a w):∀ {l:aa ResultVar} {k:aa Sy->Tr α} {out:α},(D8 P l k).run s r=az out->
  ∃ys:aa Sy,(∀(acc:aq aO),(sZ a l acc).run P w= .ok (acc++(ys.map (Sy.den A)).toArray) w)/\(k ys).run s r=az out
 |[],k,out,h=>⟨[],λacc=>by simp[sZ],h⟩
 | .tmp t::l,k,out,h=>by
  simp only[D8,Tr.run] at h;split at h
  .rename_i e he;split at h
   .rename_i rB;obtain⟨ys,h1,h2⟩:=wM H h;have hv:=(H.env t e he).1 (by rw[rB];exact λl hl=>by cases hl);have hv:a.tmps.getD t aL=e.sy.den A:=by
     rw[cP,show a.tmps[t]?=az (e.sy.den A) from hv];rfl
    refine⟨e.sy::ys,λacc=>?_,h2⟩;rw[vI (v:=e.sy.den A) (by simp only[CM,hv,bZ]),h1];simp
   cases h
  cases h
 | .cell t ty::l,k,out,h=>by
  simp only[D8,Tr.run] at h;split at h
  .rename_i e he;split at h
   .rename_i j rB OS;have hv:=(H.env t e he).1 (by rw[rB];exact λl hl=>by cases hl);rw[show(⟨t,e.ch,e.sy.den A⟩:VJ).val=e.sy.den A from rfl,OS] at hv;have hv:a.tmps.getD t aL= .pointer (az ⟨A.b j,0,aA⟩):=by
     rw[cP,show a.tmps[t]?=az (.pointer (az ⟨A.b j,0,aA⟩)) from hv];rfl
    obtain⟨x,hx,h⟩:=jI h;have fin:∀(y:Sy) (ys:aa Sy),(loadVar ty ⟨A.b j,0,aA⟩).run P w= .ok (y.den A) w->(∀(acc:aq aO),(sZ a l acc).run P w= .ok (acc++(ys.map (Sy.den A)).toArray) w)->
      ∀(acc:aq aO),(sZ a (.cell t ty::l) acc).run P w= .ok (acc++((y::ys).map (Sy.den A)).toArray) w:=by
     intro y ys hl h1 acc;rw[vI (v:=y.den A) (by simp only[CM,bw,hv,asAddr,bZ,cG,hl]),h1];simp
    split at h
    .rename_i bt cs;split at h
     .rename_i fs hu;obtain⟨hg,h⟩:=jt h;rw[bB] at hg;obtain⟨ys,h1,h2⟩:=wM H h;exact⟨_,fin _ ys (BI H hx (.inl ⟨fs,hu,hg.1,j9 hg.2,rfl⟩)) h1,h2⟩
     .cases h
     .rename_i d JH JI hu;split at h
      .rename_i c Ii;obtain⟨ys,h1,h2⟩:=wM H h;exact⟨_,fin (.one c) ys (BI H hx (.inr ⟨d,c,Ii,hu,λfs q=>JH fs q,λk e q=>JI k e q,rfl,rfl⟩)) h1,h2⟩
      cases h
     cases h
    cases h
   cases h
  cases h
end
def XZ (p:ak)(cs:aa Sc):Sy:=match p,cs with
 |false,[c]=>.one c
 |_,cs=>.agg cs
def mO:(lS:aa (ak×Ty))->pW lS->ah->aa Sy×aa (ah×ai R2)
 |[],_,_=>([],[])
 |p::lS,x,b=>let c:=j4 p.1 b (jT p.2 x.1);let r:=mO lS x.2 (b+c.2.length);(XZ (l8 p.2) c.1::r.1,c.2++r.2)
def Aq:ah->aa Sy->aa (ah×ai E2)
 |_,[]=>[]
 |i,y::l=>(i,az ⟨[],y⟩)::Aq (i+1) l
def st0 (lS:aa (ak×Ty))(x:pW lS):mX:=⟨Aq 0 (mO lS x 0).1,(mO lS x 0).2,(mO lS x 0).2.length⟩
def Km:aa aO->aO
 |[y]=>y
 |ys=>.tuple ys.toArray
section
variable {mo:Mode}{P:aY}{o:jO}{n:ah}{A:jU}{S:jv}{F:ah->Prop}{s:ah->ai E2}{r:ah->ai R2}{σ:mX}{a:Act}{w:aN}{T:aa (lM P)}{B:Code}{Q:oL}{st:aa It}
theorem vJ {fn:Func}{ys:aa aO}(h:∀acc:aq aO,(sZ a fn.results.toList acc).run P w= .ok (acc++ys.toArray) w):(results fn a.tmps).run P w= .ok (Km ys) w:=by
 have e:(fn.results.mapM (λx=>match x with
   | .tmp t=>pure (a.tmps.getD t aL)
   | .cell b t=>do loadVar t (<-asAddr (a.tmps.getD b aL)):ResultVar->Sem aO)).run P w= .ok ys.toArray w:=by
  rw[Array.mapM_eq_foldlM,<-Array.foldlM_toList];have:=h #[];simp only[Array.empty_append] at this;rw[<-this];unfold sZ
  congr 2
  all_goals (funext acc x;cases x<;>rfl)
 have hb:(results fn a.tmps).run P w=((fn.results.mapM (λx=>match x with
   | .tmp t=>pure (a.tmps.getD t aL)
   | .cell b t=>do loadVar t (<-asAddr (a.tmps.getD b aL)):ResultVar->Sem aO)).run P w).andThen (λvs w=>(pure (if h:vs.size=1 then vs[0] else .tuple vs):Sem aO).run P w):=by
  unfold results;rw[bw];rfl
 rw[hb,e]
 match ys with
 |[]=>rfl
 |[y]=>rfl
 |y::z::l=>simp[Km]
theorem PM:∀ {rs:aa Ty} {vs:aa aO} {x:pq rs},CC S w rs vs x->qN S w rs (Km vs) x
 |[],[],_,h=>⟨[],rfl,h⟩
 |[t],[y],_,h=>h.1
 |_::_::_,y::z::l,_,h=>⟨y::z::l,rfl,h⟩
 |[_],_::_::_,_,h=>h.2.elim
 |[],_::_,_,h=>h.elim
 |_::_,[],_,h=>h.elim
 |_::_::_,[_],_,h=>h.2.elim
theorem BJ {o:Orig}{k:ah}(h:JP (jO.of o) w k):yA o w k:=h.imp id λ⟨h1,h2⟩=>⟨h1.elim id λq=>q.elim,h2⟩
theorem FB {o:Orig}(h:rE o.w w (jO.of o).G):Below o.w.heap.size o.w w:=⟨h.os,h.tape,h.output,h.size,λk hk=>h.block k hk λq=>q⟩
theorem out {o:Orig}{fn:Func}{rs:aa Ty}{fx:pq rs}(y:pq rs)(h:lH (jO.of o) n σ a w)(e:y=fx)(ht:FA B st=aC:=by kernel_rfl)(hy:XY P fn rs σ=az ⟨y⟩:=by kernel_rfl):At mo P T B (aJ P fn (He o λS v w'=>qN S w' rs v fx)) st a w:=by
 obtain⟨⟨A,S,H⟩,h0⟩:=h;subst e;obtain⟨ys,h1,hy⟩:=wM H hy;obtain⟨h2,hy⟩:=yW hy;obtain⟨x,h3,hy⟩:=CN H (T':=yA o w) (λk hk=>BJ hk) (λc hc j hj z hz=>(yL H h2 c hc j hj z hz).up λk hk=>BJ hk) hy;have hx:x=y:=by have:=b5 hy;exact bh ULift.down this
 subst hx;have vS:=vJ (ys:=ys.map (Sy.den A)) h1;unfold FA at ht;split at ht
 .rename_i p r;refine⟨?_⟩;show(sub B p).qP mo P (post mo P B _ r) a w;have hc:sub B p= .ret:=by
   cases hc:sub B p<;>rw[hc] at ht<;>first|rfl|cases ht
  rw[hc];refine Ep (u7 ?_);refine bodyPost_ret vS H.lK ⟨_,rfl,?_,FB H.jM.sJ⟩;exact PM h3
 .exact⟨bodyPost_end vS H.lK ⟨_,rfl,PM h3,FB H.jM.sJ⟩⟩
 cases ht
theorem Ur {k:ak}{t:Ty}(h:l8 t=aD)(b:ah)(x:El t):∃c,(j4 k b (jT t x)).1=[c]:=by
 cases t<;>first|exact⟨_,rfl⟩|cases h
theorem zG:∀(lS:aa (ak×Ty)) (x:pW lS) (vs:aa aO) (b:ah) (A:jU) (F:ah->Prop),Bx o.S o.old o.w lS vs x->(∀j,b<=j->¬F j)->
  ∃A',lQ F A A'/\(mO lS x b).1.map (Sy.den A')=vs/\tM o o.S o.w A' b (mO lS x b).2/\(∀p∈(mO lS x b).2,p.1<b+(mO lS x b).2.length)/\∀y∈(mO lS x b).1,y.all (FU F (mO lS x b).2)/\y.lu A'
 |[],_,[],b,A,F,_,_=>⟨A,lQ.refl _ _,rfl,tv,λ_ h=>(by cases h),λ_ h=>(by cases h)⟩
 |[],_,_::_,_,_,_,h,_=>h.elim
 |_::_,_,[],_,_,_,h,_=>by cases h
 |(k,t)::lS,x,v::vs,b,A,F,h,hF=>by
  have AJ:∃cs,Ei o o.S o.w k cs (jT t x.1)/\v=(if l8 t then .agg cs.toArray else cs.headD aL):=by
   cases k with
   |true=>exact tN (S:=o.S) (w:=o.w) h.1
   |false=>exact tN (S:=o.old) (w:=o.w) h.1
  have⟨cs,kO,hv⟩:=AJ;have yb:=pJ (k:=k) (jT t x.1) b;obtain⟨A1,h1,h2,h3,h4⟩:=oX (B:=b+(j4 k b (jT t x.1)).2.length) _ cs b A F kO (λj hj _=>hF j hj) λp hp=>(yb p hp).2;obtain⟨A2,k1,k2,k3,k5,k4⟩:=zG lS x.2 vs (b+(j4 k b (jT t x.1)).2.length) A1 (FU F (j4 k b (jT t x.1)).2) h.2 λj hj hn=>by
   rcases hn with hn|⟨z,hz⟩
   .exact hF j (by omega) hn
   have:=yb _ hz;omega
  have nH:∀c∈(j4 k b (jT t x.1)).1,c.all (FU F (j4 k b (jT t x.1)).2):=λc hc=>(h4 c hc).1;have hfu:∀j,FU F (j4 k b (jT t x.1)).2 j->FU F (mO ((k,t)::lS) x b).2 j:=λj hj=>by
   rcases hj with hj|⟨x,hx⟩
   .exact .inl hj
   exact .inr ⟨x,bU _ hx⟩
  have Rj:(l8 t=aC/\XZ (l8 t) (j4 k b (jT t x.1)).1= .agg (j4 k b (jT t x.1)).1)\/∃c,l8 t=aD/\(j4 k b (jT t x.1)).1=[c]/\XZ (l8 t) (j4 k b (jT t x.1)).1= .one c:=by
   cases hp:l8 t with
   |true=>exact .inl ⟨rfl,rfl⟩
   |false=>
    obtain⟨c,hc⟩:=Ur hp b x.1 (k:=k);exact .inr ⟨c,rfl,hc,by rw[hc];rfl⟩
  refine⟨A2,h1.trans (k1.mono λj hj=>.inl hj),?_,?_,λp hp=>?_,λy hy=>?_⟩
  .show Sy.den A2 (XZ (l8 t) (j4 k b (jT t x.1)).1)::(mO lS x.2 _).1.map (Sy.den A2)=_;rw[k2]
   congr 1
   rcases Rj with⟨hp,e⟩|⟨c,hp,hc,e⟩
   .rw[e,hv,hp];simp only[Sy.den];rw[<-sU k1 nH,h2];rfl
   rw[e,hv,hp];rw[hc] at h2 nH;simp only[Sy.den];rw[<-Sc.congr k1 (nH c (aU.2 rfl))];have:[Sc.den A1 c]=cs:=h2;rw[<-this];rfl
  .exact tM.append (tM.agree k1 (λp hp=>.inr ⟨p.2,hp⟩) h3) (λp hp=>(yb p hp).2) (by omega) k3
  .show p.1<b+((j4 k b (jT t x.1)).2++(mO lS x.2 (b+(j4 k b (jT t x.1)).2.length)).2).length;rw[bA];have hp:p∈(j4 k b (jT t x.1)).2++(mO lS x.2 (b+(j4 k b (jT t x.1)).2.length)).2:=hp;rcases bE.1 hp with hp|hp
   .have:=(yb p hp).2;omega
   have:=k5 p hp;omega
  have hy:y=XZ (l8 t) (j4 k b (jT t x.1)).1\/y∈(mO lS x.2 (b+(j4 k b (jT t x.1)).2.length)).1:=bg.1 hy;rcases hy with rfl|hy
  .rcases Rj with⟨hp,e⟩|⟨c,hp,hc,e⟩
   .rw[e];exact⟨λc hc=>Sc.mono hfu (nH c hc),λc hc=>Sc.nj k1 (nH c hc) (h4 c hc).2⟩
   rw[e];have hm:c∈(j4 k b (jT t x.1)).1:=by rw[hc];exact aU.2 rfl
   exact⟨Sc.mono hfu (nH c hm),Sc.nj k1 (nH c hm) (h4 c hm).2⟩
  refine⟨Sy.mono (λj hj=>?_) (k4 y hy).1,(k4 y hy).2⟩;rcases hj with hj|⟨z,hz⟩
  .exact hfu j hj
  exact .inr ⟨z,bV _ hz⟩
theorem uK:∀ {l:aa Sy} {i t:ah} {e:E2},mN (λ_=>aA) (Aq i l) t=az e->i<=t/\∃y,l[t-i]?=az y/\e=⟨[],y⟩
 |[],i,t,e,h=>by cases h
 |y::l,i,t,e,h=>by
  have h:ua (mN (λ_=>aA) (Aq (i+1) l)) i (az ⟨[],y⟩) t=az e:=h
  by_cases q:i=t
  .subst q;rw[nM] at h;cases h;exact⟨aW _,y,by rw[dx];rfl,rfl⟩
  rw[tA q] at h;obtain⟨h1,z,h2,h3⟩:=uK h;exact⟨by omega,z,by rw[show t-i=t-(i+1)+1 by omega];exact h2,h3⟩
theorem zH:∀ {lS:aa (ak×Ty)} {vs:aa aO} {x:pW lS} {S T:jv},Bx S T w lS vs x->vs.length=lS.length
 |[],[],_,_,_,_=>rfl
 |[],_::_,_,_,_,h=>h.elim
 |_::_,[],_,_,_,h=>by cases h
 |(k,t)::lS,v::vs,x,S,T,h=>by simp[zH h.2]
theorem yX {S T T':jv}(hT:∀k,T k->T' k):∀ {lS:aa (ak×Ty)} {vs:aa aO} {x:pW lS},Bx S T w lS vs x->Bx S T' w lS vs x
 |[],[],_,_=>trivial
 |[],_::_,_,h=>h.elim
 |_::_,[],_,h=>by cases h
 |(aC,t)::lS,v::vs,x,h=>⟨h.1,yX hT h.2⟩
 |(aD,t)::lS,v::vs,x,h=>⟨Rd.up hT h.1,yX hT h.2⟩
theorem kJ {f:bI}(fn:Func)(n:ah)(T:aa (lM P)){lS:aa (ak×Ty)}{rs:aa Ty}{rF:pW lS->Prop}{fx:pW lS->pq rs}(hf:P.funcs[f]?=az fn)
  (k:∀(o:Orig) (x:pW lS),rF x->∀a w,lH (jO.of o) n (st0 lS x) a w->At pl P T (fn.body.getD .skip) (aJ P fn (He o λS v w'=>qN S w' rs v (fx x))) [.run []] a w)
  (hb:fn.body.isSome=aC:=by kernel_rfl) (hn:fn.ntmps=n:=by kernel_rfl) (hl:aE (lS.length<=n)=aC:=by kernel_rfl):kr P f lS rs rF fx:=by
 intro o vs x hx JX;have hlen:=zH hx;refine Kh fn n hf (λa ha=>?_) hb hn (by rw[hlen];exact hl);obtain⟨A,h1,h2,h3,h5,h4⟩:=zG (o:=jO.of o) lS x vs 0 Wt (λ_=>False) (yX (λk hk=>⟨hk,λq=>q⟩) hx) λ_ _ q=>q;have r7:∀t e,p7 (st0 lS x) t=az e->e.ch=[]/\∃y,(mO lS x 0).1[t]?=az y/\e=⟨[],y⟩:=λt e he=>by
  obtain⟨_,y,q1,q2⟩:=uK he;exact⟨by rw[q2],y,by simpa using q1,q2⟩
 have H0:kW (jO.of o) n A o.S (λ_=>False) (λ_=>aA) (λ_=>aA) a o.w:=⟨ha.1,ha.2.1,λ_ _ q=>(by cases q),λ_ _ q=>(by cases q),λ_ _ q=>(by cases q),oz.start (jO.of o),λ_ _ q=>(by cases q),⟨λ_ q=>q.elim,λ_ q=>q.elim⟩⟩;have H1:=H0.ro (lQ.refl _ _) h3;have hle:∀j,FU (λ_=>False) (mO lS x 0).2 j->j<(mO lS x 0).2.length:=λj hj=>by
  rcases hj with hj|⟨z,hz⟩
  .exact hj.elim
  have:=h5 _ hz;simpa using this
 have ue:lH (jO.of o) n (st0 lS x) a o.w:=by
  refine⟨⟨A,o.S,H1.size,H1.lK,λt e he=>?_,λt e he _=>?_,λj y hj=>?_,H1.jM,H1.args,⟨λ_ q=>q.elim,λ_ q=>q.elim⟩⟩,λt e he=>(r7 t e he).1,λ_ q=>q.elim⟩
  .obtain⟨_,y,q1,rfl⟩:=r7 t e he;have hv:vs[t]?=az (y.den A):=by rw[<-h2,cY,q1];rfl
   have MU:=(cF.1 hv).1;refine ha.2.2 ⟨t,[],y.den A⟩ (bz.2 ⟨(t,y.den A),?_,rfl⟩);refine anw.2 ⟨t,?_⟩;rw[aoW];exact⟨by simp[MU],hv⟩
  .obtain⟨_,y,q1,rfl⟩:=r7 t e he;have:=h4 y (cn q1);exact⟨Sy.mono hle this.1,this.2⟩
  have:=H1.lq j y hj;exact⟨hle j this.1,R2.mono hle this.2.1,this.2.2⟩
 have:=k o x JX a o.w ue;have this:(sub (fn.body.getD .skip) []).qP pl P (post pl P (fn.body.getD .skip) (aJ P fn (He o λS v w'=>qN S w' rs v (fx x))) []) a o.w:=this.get;exact this
end
abbrev CO:Ty:=.pair .int .int
abbrev D9:Ty:=.pair .int (.list CO)
abbrev CP:Ty:=.pair (.list .int) (.list .int)
abbrev yx:Ty:=.pair .str (.pair .int CO)
abbrev plT:Ty:=.pair (.list (.list .int)) (.list (.list .int))
abbrev CQ:Ty:=.pair .int (.pair (.list .str) (.pair (.list yx) (.pair CP plT)))
abbrev VR:Ty:=.pair .int (.list .int)
abbrev mS:=aj×af×af×af
abbrev sA (a b:aj):Prop:=a.size+b.size<=9223372036854775807
abbrev eo (j:ah):ai E2:=az ⟨[],.one (.own j)⟩
abbrev em (j:ah):ai E2:=az ⟨[],.one (.mp j)⟩
abbrev ep (j:ah):ai E2:=az ⟨[],.one (.ptr j 0)⟩
abbrev en (n:af):ai E2:=az ⟨[],.one (.v (.int .i64 n))⟩
theorem sa_ {a b:aj}(h:a.size+b.size<=9223372036854775807:=by omega):sA a b:=h
theorem ct {p:Prop}(h:p:=by first|omega|(simp only[List.length_append,List.length_cons,List.length_nil,List.length_replicate,List.length_drop,List.length_take,List.length_set];omega)):p:=h
theorem bx {i:af}{n:ah}(h:0<=i/\i<(n:af):=by first|omega|(simp only[List.length_append,List.length_cons,List.length_nil,List.length_replicate,List.length_drop,List.length_take,List.length_set];omega)):j8 i n:=h
theorem ln {m n:ah}(h:m<=n:=by first|omega|(simp only[List.length_append,List.length_cons,List.length_nil,List.length_replicate,List.length_drop,List.length_take,List.length_set];omega)):m<=n:=h
theorem wk {x:af}(h: -9223372036854775808<=x/\x<=9223372036854775807:=by omega):nv .int x:=h
theorem lt_ {m n:ah}(h:m<n:=by first|omega|(simp only[List.length_append,List.length_cons,List.length_nil,List.length_replicate,List.length_drop,List.length_take,List.length_set];omega)):m<n:=by grind
def ir (n:ah):aa (ah×ai ah):=(bT n).map λi=>(i,az i)
def rk (l:aa ah):aa (ah×ai ah):=(bT l.length).zip (l.map az)
abbrev I_ (x:af):af:=x
abbrev J_ (x:aa af):aa af:=x
abbrev K_ (x:aa (aa af)):aa (aa af):=x
abbrev E_ (x:aa (af×af)):aa (af×af):=x
abbrev B_ (x:aa aj):aa aj:=x
abbrev N_ (x:aa mS):aa mS:=x
abbrev S_ (x:aj):aj:=x
section
variable {mo:Mode}{P:aY}{o:jO}{n:ah}{σ:mX}{a:Act}{w:aN}{T:aa (lM P)}{B:Code}{Q:oL}{st:aa It}
theorem pP (h:lH o n σ a w)(j:ah)(l:aa af)(hj:(mH σ j).bind pU=az ⟨.int,l⟩:=by kernel_rfl):(aM l:af)<=9223372036854775807:=tP h j hj
theorem LS (h:lH o n σ a w)(j:ah)(l:aa (af×af))(hj:(mH σ j).bind pU=az ⟨CO,l⟩:=by kernel_rfl):(aM l:af)<=9223372036854775807:=tP h j hj
theorem vK (h:lH o n σ a w)(j:ah)(l:aa (aa af))(hj:(mH σ j).bind pU=az ⟨.list .int,l⟩:=by kernel_rfl):(aM l:af)<=9223372036854775807:=tP h j hj
theorem LU (h:lH o n σ a w)(j:ah)(l:aa aj)(hj:(mH σ j).bind pU=az ⟨.str,l⟩:=by kernel_rfl):(aM l:af)<=9223372036854775807:=tP h j hj
theorem OW (h:lH o n σ a w)(j:ah)(l:aa mS)(hj:(mH σ j).bind pU=az ⟨yx,l⟩:=by kernel_rfl):(aM l:af)<=9223372036854775807:=tP h j hj
theorem AP {pr:Prop}(hn:aa (ah×ak))(hp:pr)(k:∀a w,lH o n (xS (rT P T hn n B st σ)) a w->At mo P T B Q (xI (rT P T hn n B st σ)) a w)
 (h1:(rT P T hn n B st σ).isSome=aC:=by delta rT;kernel_rfl) (h2:Cm (xC (rT P T hn n B st σ))=pr:=by delta rT;kernel_rfl)
 (h3:∀A w,(xH (rT P T hn n B st σ)).map (λh=>h.lhs A w)=(xH (rT P T hn n B st σ)).map λh=>h.rhs A w:=by delta rT;intro A w;kernel_rfl):∀a w,lH o n σ a w->At mo P T B Q st a w:=λ_ _ h=>go hn h hp k h1 h2 h3
theorem jY {pr:Prop}(hp:pr)(k:∀a w,lH o n (xS (rT P T [] n B st σ)) a w->At mo P T B Q (xI (rT P T [] n B st σ)) a w)
 (h1:(rT P T [] n B st σ).isSome=aC:=by delta rT;kernel_rfl) (h2:Cm (xC (rT P T [] n B st σ))=pr:=by delta rT;kernel_rfl)
 (h3:∀A w,(xH (rT P T [] n B st σ)).map (λh=>h.lhs A w)=(xH (rT P T [] n B st σ)).map λh=>h.rhs A w:=by delta rT;intro A w;kernel_rfl):∀a w,lH o n σ a w->At mo P T B Q st a w:=AP [] hp k h1 h2 h3
theorem FC (hn:aa (ah×ak))(k:∀a w,lH o n (xS (rT P T hn n B st σ)) a w->At mo P T B Q (xI (rT P T hn n B st σ)) a w)
 (h1:(rT P T hn n B st σ).isSome=aC:=by delta rT;kernel_rfl) (h2:Cm (xC (rT P T hn n B st σ))=av:=by delta rT;kernel_rfl)
 (h3:∀A w,(xH (rT P T hn n B st σ)).map (λh=>h.lhs A w)=(xH (rT P T hn n B st σ)).map λh=>h.rhs A w:=by delta rT;intro A w;kernel_rfl):∀a w,lH o n σ a w->At mo P T B Q st a w:=AP hn tv k h1 h2 h3
theorem jQ (k:∀a w,lH o n (xS (rT P T [] n B st σ)) a w->At mo P T B Q (xI (rT P T [] n B st σ)) a w)
 (h1:(rT P T [] n B st σ).isSome=aC:=by delta rT;kernel_rfl) (h2:Cm (xC (rT P T [] n B st σ))=av:=by delta rT;kernel_rfl)
 (h3:∀A w,(xH (rT P T [] n B st σ)).map (λh=>h.lhs A w)=(xH (rT P T [] n B st σ)).map λh=>h.rhs A w:=by delta rT;intro A w;kernel_rfl):∀a w,lH o n σ a w->At mo P T B Q st a w:=AP [] tv k h1 h2 h3
theorem jZ {p q:Prop}(k1:p->∀a w,lH o n σ a w->At mo P T B Q (.run (oP (sY B σ st)++[0])::oR (sY B σ st)) a w)(k2:q->∀a w,lH o n σ a w->At mo P T B Q (.run (oP (sY B σ st)++[1])::oR (sY B σ st)) a w)
 (hc:(sY B σ st).map (λx=>(x.1.is aC,x.1.is aD))=az (p,q):=by kernel_rfl):∀a w,lH o n σ a w->At mo P T B Q st a w:=λa w h=>aeU h (λz=>k1 z a w h) (λz=>k2 z a w h) hc
theorem jR {p:Prop}(k1:p->∀a w,lH o n σ a w->At mo P T B Q (.run (oP (sY B σ st)++[0])::oR (sY B σ st)) a w)(k2:¬p->∀a w,lH o n σ a w->At mo P T B Q (.run (oP (sY B σ st)++[1])::oR (sY B σ st)) a w)
 (hc:(sY B σ st).map (λx=>(x.1.is aC,x.1.is aD))=az (p,¬p):=by kernel_rfl):∀a w,lH o n σ a w->At mo P T B Q st a w:=jZ k1 k2 hc
theorem pY {p:Prop}(k1:¬p->∀a w,lH o n σ a w->At mo P T B Q (.run (oP (sY B σ st)++[0])::oR (sY B σ st)) a w)(k2:p->∀a w,lH o n σ a w->At mo P T B Q (.run (oP (sY B σ st)++[1])::oR (sY B σ st)) a w)
 (hc:(sY B σ st).map (λx=>(x.1.is aC,x.1.is aD))=az (¬p,p):=by kernel_rfl):∀a w,lH o n σ a w->At mo P T B Q st a w:=jZ k1 k2 hc
theorem oa {K:Act->aN->Prop}(k:∀a w,lH o n σ a w->K a w)(ht:(match st with| .lp K::_=>az K|_=>aA)=az K:=by kernel_rfl):∀a w,lH o n σ a w->At mo P T B Q st a w:=λa w h=>VQ (k a w h) ht
def qW (ρ:aa (ah×ai ah))(σ τ:mX)(k:ah):Prop:=lN ρ σ τ/\mQ ρ σ τ/\uc ρ τ=aC/\BH ρ k=aC
theorem IF (X0:Type)(σ':X0->mX)(I:X0->Prop)(μ:X0->ah)(x0:X0)(ρ:aa (ah×ai ah))(h0:I x0)
  (rd:∀x0 (K:Act->aN->Prop),(∀y0 (ρ:aa (ah×ai ah)) {wm:mX},I y0->μ y0<μ x0->(hf:qW ρ wm (σ' y0) o.kp:=by delta qW lN mQ;refine⟨?_,?_,?_,?_⟩<;>kernel_rfl)->∀a w,lH o n wm a w->K a w)->I x0->∀a w,lH o n (σ' x0) a w->At mo P T B Q (.run (lP (sH B st)++[0]):: .lp K::lR (sH B st)) a w)
  (ht:(sH B st).isSome=aC:=by kernel_rfl) (hf:qW ρ σ (σ' x0) o.kp:=by delta qW lN mQ;refine⟨?_,?_,?_,?_⟩<;>kernel_rfl):∀a w,lH o n σ a w->At mo P T B Q st a w:=
 λ_ _ h=>go_loop X0 σ' I μ x0 ρ h h0 (λx0 a w K hK hI h=>rd x0 K (λy0 ρ _ k2 k3 k _ _ k1=>hK y0 ρ k1 k2 k3 k.1 k.2.1 k.2.2.1 k.2.2.2) hI a w h) ht hf.1 hf.2.1 hf.2.2.1 hf.2.2.2
theorem uf (X0 X1:Type)(σ':X0->X1->mX)(I:X0->X1->Prop)(μ:X0->X1->ah)(x0:X0)(x1:X1)(ρ:aa (ah×ai ah))(h0:I x0 x1)
  (rd:∀x0 x1 (K:Act->aN->Prop),(∀y0 y1 (ρ:aa (ah×ai ah)) {wm:mX},I y0 y1->μ y0 y1<μ x0 x1->(hf:qW ρ wm (σ' y0 y1) o.kp:=by delta qW lN mQ;refine⟨?_,?_,?_,?_⟩<;>kernel_rfl)->∀a w,lH o n wm a w->K a w)->I x0 x1->∀a w,lH o n (σ' x0 x1) a w->At mo P T B Q (.run (lP (sH B st)++[0]):: .lp K::lR (sH B st)) a w)
  (ht:(sH B st).isSome=aC:=by kernel_rfl) (hf:qW ρ σ (σ' x0 x1) o.kp:=by delta qW lN mQ;refine⟨?_,?_,?_,?_⟩<;>kernel_rfl):∀a w,lH o n σ a w->At mo P T B Q st a w:=
 IF (X0×X1) (λz=>σ' z.1 z.2) (λz=>I z.1 z.2) (λz=>μ z.1 z.2) (x0,x1) ρ h0 (λz K hK hI=>rd z.1 z.2 K (λy0 y1 ρ _ k l f=>hK (y0,y1) ρ k l f) hI) ht hf
theorem vW (X0 X1 X2:Type)(σ':X0->X1->X2->mX)(I:X0->X1->X2->Prop)(μ:X0->X1->X2->ah)(x0:X0)(x1:X1)(x2:X2)(ρ:aa (ah×ai ah))(h0:I x0 x1 x2)
  (rd:∀x0 x1 x2 (K:Act->aN->Prop),(∀y0 y1 y2 (ρ:aa (ah×ai ah)) {wm:mX},I y0 y1 y2->μ y0 y1 y2<μ x0 x1 x2->(hf:qW ρ wm (σ' y0 y1 y2) o.kp:=by delta qW lN mQ;refine⟨?_,?_,?_,?_⟩<;>kernel_rfl)->∀a w,lH o n wm a w->K a w)->I x0 x1 x2->∀a w,lH o n (σ' x0 x1 x2) a w->At mo P T B Q (.run (lP (sH B st)++[0]):: .lp K::lR (sH B st)) a w)
  (ht:(sH B st).isSome=aC:=by kernel_rfl) (hf:qW ρ σ (σ' x0 x1 x2) o.kp:=by delta qW lN mQ;refine⟨?_,?_,?_,?_⟩<;>kernel_rfl):∀a w,lH o n σ a w->At mo P T B Q st a w:=
 IF (X0×X1×X2) (λz=>σ' z.1 z.2.1 z.2.2) (λz=>I z.1 z.2.1 z.2.2) (λz=>μ z.1 z.2.1 z.2.2) (x0,x1,x2) ρ h0 (λz K hK hI=>rd z.1 z.2.1 z.2.2 K (λy0 y1 y2 ρ _ k l f=>hK (y0,y1,y2) ρ k l f) hI) ht hf
theorem CR (X0 X1 X2 X3:Type)(σ':X0->X1->X2->X3->mX)(I:X0->X1->X2->X3->Prop)(μ:X0->X1->X2->X3->ah)(x0:X0)(x1:X1)(x2:X2)(x3:X3)(ρ:aa (ah×ai ah))(h0:I x0 x1 x2 x3)
  (rd:∀x0 x1 x2 x3 (K:Act->aN->Prop),(∀y0 y1 y2 y3 (ρ:aa (ah×ai ah)) {wm:mX},I y0 y1 y2 y3->μ y0 y1 y2 y3<μ x0 x1 x2 x3->(hf:qW ρ wm (σ' y0 y1 y2 y3) o.kp:=by delta qW lN mQ;refine⟨?_,?_,?_,?_⟩<;>kernel_rfl)->∀a w,lH o n wm a w->K a w)->I x0 x1 x2 x3->∀a w,lH o n (σ' x0 x1 x2 x3) a w->At mo P T B Q (.run (lP (sH B st)++[0]):: .lp K::lR (sH B st)) a w)
  (ht:(sH B st).isSome=aC:=by kernel_rfl) (hf:qW ρ σ (σ' x0 x1 x2 x3) o.kp:=by delta qW lN mQ;refine⟨?_,?_,?_,?_⟩<;>kernel_rfl):∀a w,lH o n σ a w->At mo P T B Q st a w:=
 IF (X0×X1×X2×X3) (λz=>σ' z.1 z.2.1 z.2.2.1 z.2.2.2) (λz=>I z.1 z.2.1 z.2.2.1 z.2.2.2) (λz=>μ z.1 z.2.1 z.2.2.1 z.2.2.2) (x0,x1,x2,x3) ρ h0 (λz K hK hI=>rd z.1 z.2.1 z.2.2.1 z.2.2.2 K (λy0 y1 y2 y3 ρ _ k l f=>hK (y0,y1,y2,y3) ρ k l f) hI) ht hf
theorem Ar {α:Type}(l:aa α)(σ':af->mX)(I:af->Prop)(ρ:aa (ah×ai ah))(h0:I 0)
  (rd:∀i (K:Act->aN->Prop),(∀(ρ:aa (ah×ai ah)) {wm:mX},I (i+1)->(lt:i<(aM l:af):=by omega)->(hf:qW ρ wm (σ' (i+1)) o.kp:=by delta qW lN mQ;refine⟨?_,?_,?_,?_⟩<;>kernel_rfl)->∀a w,lH o n wm a w->K a w)->0<=i->i<=(aM l:af)->I i->∀a w,lH o n (σ' i) a w->At mo P T B Q (.run (lP (sH B st)++[0]):: .lp K::lR (sH B st)) a w)
  (ht:(sH B st).isSome=aC:=by kernel_rfl) (hf:qW ρ σ (σ' 0) o.kp:=by delta qW lN mQ;refine⟨?_,?_,?_,?_⟩<;>kernel_rfl):∀a w,lH o n σ a w->At mo P T B Q st a w:=
 IF af σ' (λi=>0<=i/\i<=(aM l:af)/\I i) (λi=>((aM l:af)-i).toNat) 0 ρ ⟨bM _,dB _,h0⟩ (λi K hK hI=>rd i K (λρ _ k lt f=>hK (i+1) ρ ⟨by omega,by omega,k⟩ (by omega) f) hI.1 hI.2.1 hI.2.2) ht hf
theorem oJ (X0:Type){α:Type}(l:aa α)(σ':af->X0->mX)(I:af->X0->Prop)(x0:X0)(ρ:aa (ah×ai ah))(h0:I 0 x0)
  (rd:∀i x0 (K:Act->aN->Prop),(∀y0 (ρ:aa (ah×ai ah)) {wm:mX},I (i+1) y0->(lt:i<(aM l:af):=by omega)->(hf:qW ρ wm (σ' (i+1) y0) o.kp:=by delta qW lN mQ;refine⟨?_,?_,?_,?_⟩<;>kernel_rfl)->∀a w,lH o n wm a w->K a w)->0<=i->i<=(aM l:af)->I i x0->∀a w,lH o n (σ' i x0) a w->At mo P T B Q (.run (lP (sH B st)++[0]):: .lp K::lR (sH B st)) a w)
  (ht:(sH B st).isSome=aC:=by kernel_rfl) (hf:qW ρ σ (σ' 0 x0) o.kp:=by delta qW lN mQ;refine⟨?_,?_,?_,?_⟩<;>kernel_rfl):∀a w,lH o n σ a w->At mo P T B Q st a w:=
 uf af X0 σ' (λi x0=>0<=i/\i<=(aM l:af)/\I i x0) (λi x0=>((aM l:af)-i).toNat) 0 x0 ρ ⟨bM _,dB _,h0⟩ (λi x0 K hK hI=>rd i x0 K (λy0 ρ _ k lt f=>hK (i+1) y0 ρ ⟨by omega,by omega,k⟩ (by omega) f) hI.1 hI.2.1 hI.2.2) ht hf
theorem X4 (X0 X1:Type){α:Type}(l:aa α)(σ':af->X0->X1->mX)(I:af->X0->X1->Prop)(x0:X0)(x1:X1)(ρ:aa (ah×ai ah))(h0:I 0 x0 x1)
  (rd:∀i x0 x1 (K:Act->aN->Prop),(∀y0 y1 (ρ:aa (ah×ai ah)) {wm:mX},I (i+1) y0 y1->(lt:i<(aM l:af):=by omega)->(hf:qW ρ wm (σ' (i+1) y0 y1) o.kp:=by delta qW lN mQ;refine⟨?_,?_,?_,?_⟩<;>kernel_rfl)->∀a w,lH o n wm a w->K a w)->0<=i->i<=(aM l:af)->I i x0 x1->∀a w,lH o n (σ' i x0 x1) a w->At mo P T B Q (.run (lP (sH B st)++[0]):: .lp K::lR (sH B st)) a w)
  (ht:(sH B st).isSome=aC:=by kernel_rfl) (hf:qW ρ σ (σ' 0 x0 x1) o.kp:=by delta qW lN mQ;refine⟨?_,?_,?_,?_⟩<;>kernel_rfl):∀a w,lH o n σ a w->At mo P T B Q st a w:=
 vW af X0 X1 σ' (λi x0 x1=>0<=i/\i<=(aM l:af)/\I i x0 x1) (λi x0 x1=>((aM l:af)-i).toNat) 0 x0 x1 ρ ⟨bM _,dB _,h0⟩ (λi x0 x1 K hK hI=>rd i x0 x1 K (λy0 y1 ρ _ k lt f=>hK (i+1) y0 y1 ρ ⟨by omega,by omega,k⟩ (by omega) f) hI.1 hI.2.1 hI.2.2) ht hf
theorem aeV (X0 X1 X2:Type){α:Type}(l:aa α)(σ':af->X0->X1->X2->mX)(I:af->X0->X1->X2->Prop)(x0:X0)(x1:X1)(x2:X2)(ρ:aa (ah×ai ah))(h0:I 0 x0 x1 x2)
  (rd:∀i x0 x1 x2 (K:Act->aN->Prop),(∀y0 y1 y2 (ρ:aa (ah×ai ah)) {wm:mX},I (i+1) y0 y1 y2->(lt:i<(aM l:af):=by omega)->(hf:qW ρ wm (σ' (i+1) y0 y1 y2) o.kp:=by delta qW lN mQ;refine⟨?_,?_,?_,?_⟩<;>kernel_rfl)->∀a w,lH o n wm a w->K a w)->0<=i->i<=(aM l:af)->I i x0 x1 x2->∀a w,lH o n (σ' i x0 x1 x2) a w->At mo P T B Q (.run (lP (sH B st)++[0]):: .lp K::lR (sH B st)) a w)
  (ht:(sH B st).isSome=aC:=by kernel_rfl) (hf:qW ρ σ (σ' 0 x0 x1 x2) o.kp:=by delta qW lN mQ;refine⟨?_,?_,?_,?_⟩<;>kernel_rfl):∀a w,lH o n σ a w->At mo P T B Q st a w:=
 CR af X0 X1 X2 σ' (λi x0 x1 x2=>0<=i/\i<=(aM l:af)/\I i x0 x1 x2) (λi x0 x1 x2=>((aM l:af)-i).toNat) 0 x0 x1 x2 ρ ⟨bM _,dB _,h0⟩ (λi x0 x1 x2 K hK hI=>rd i x0 x1 x2 K (λy0 y1 y2 ρ _ k lt f=>hK (i+1) y0 y1 y2 ρ ⟨by omega,by omega,k⟩ (by omega) f) hI.1 hI.2.1 hI.2.2) ht hf
theorem jW {o:Orig}{fn:Func}{rs:aa Ty}{fx:pq rs}(y:pq rs)(e:y=fx)(ht:FA B st=aC:=by kernel_rfl)(hy:XY P fn rs σ=az ⟨y⟩:=by kernel_rfl):∀a w,lH (jO.of o) n σ a w->At mo P T B (aJ P fn (He o λS v w'=>qN S w' rs v fx)) st a w:=λ_ _ h=>out y h e ht hy
theorem IG (T':aa (lM P))(h:∀a w,lH o n σ a w->At mo P T' B Q st a w):∀a w,lH o n σ a w->At mo P T B Q st a w:=λa w k=>⟨(h a w k).get⟩
end
def X5:Sc->aa ah
 | .own j=>[j]
 | .mp j=>[j]
 | .ptr j _=>[j]
 | .pd j=>[j]
 | .el j _ _ _=>[j]
 | .sR _ kH=>kH.map (·.1)
 | .hd p _ _=>[p]
 |_=>[]
def FD {α:Type 1}(ks:aa ah):ah->aa ah->aa (ah×ai R2)->(aa (ah×ai R2)->Tr α)->Tr α
 |0,_,_,_=>.fail
 |_+1,[],acc,k=>k acc
 |f+1,j::l,acc,k=>match(acc.any λp=>bp p.1 j)||ks.any λi=>bp i j with
  |true=>FD ks f l acc k
  |false=>.res j λx=>FD ks f ((match x with| .box _ cs=>cs.flatMap X5|_=>[])++l) ((j,az x)::acc) k
def partOf:Sy->ak×aa Sc
 | .one c=>(aD,[c])
 | .agg cs=>(aC,cs)
 | .vt _=>(aD,[])
def DF:aa Sy->Sy
 |[y]=>y
 |ys=>.vt (ys.map partOf)
def agu (P:aY)(ks:aa ah)(T:aa (lM P))(hn:aa (ah×ak))(fn:Func)(b:ah)(kH:aa (ah×ah))(ys:aa Sy):Tr Out:=
 FD ks 300 ((ys.flatMap jA).flatMap X5++kH.map (·.1)) [] λMV=>
  match exec P T 64 aD hn fn.ntmps (fn.body.getD .skip) 3000 [.run []] ⟨Aq 0 (ys++kH.map λc=>.one (.ptr c.1 c.2)),MV,b⟩ [] [] with
  |some x=>match FA (fn.body.getD .skip) x.st,(D8 P fn.results.toList λys=>.ret (ULift.up.{1} ys)).run (p7 x.σ) (mH x.σ) with
   |true,az zs=>jK (fn.body.isSome && (aE ((ys++kH.map λc=>Sy.one (.ptr c.1 c.2)).length<=fn.ntmps) && (zs.down.all λy=>match y with| .vt _=>aD|_=>aC))) (.ret ⟨x.cs,x.hs,DF zs.down,(x.σ.nx,aA)::x.σ.rs⟩)
   |_,_=>.fail
  |none=>.fail
section
variable {P:aY}{o:jO}{n:ah}{A A':jU}{S S':jv}{F:ah->Prop}{s:ah->ai E2}{r:ah->ai R2}{a:Act}{w w':aN}{T:aa (lM P)}
theorem AQ {α:Type 1}{ks:aa ah}:∀ {f:ah} {l:aa ah} {acc:aa (ah×ai R2)} {k:aa (ah×ai R2)->Tr α} {out:α},(∀p∈acc,r p.1=p.2)->(FD ks f l acc k).run s r=az out->∃rs,(∀p∈rs,r p.1=p.2)/\(k rs).run s r=az out
 |0,_,_,_,_,_,h=>by cases h
 |_+1,[],acc,k,out,ha,h=>⟨acc,ha,h⟩
 |f+1,j::l,acc,k,out,ha,h=>by
  simp only[FD] at h;split at h
  .exact AQ ha h
  obtain⟨x,hx,h2⟩:=jI h;refine AQ (λp hp=>?_) h2;rcases bg.1 hp with rfl|hp
  .exact hx
  exact ha p hp
theorem Us {rs:aa (ah×ai R2)}(h:∀p∈rs,r p.1=p.2):jB r rs=r:=by
 funext j
 induction rs with
 |nil=>rfl
 |cons p rs ih=>
  show sG (jB r rs) p.1 p.2 j=_
  grind [mu,aZ,m9,bl]
theorem oz.pins {f:ah->ai Rs}(h:oz o w S f)(F:ah->Prop)(A:jU):oz {o with pF:=F,pA:=A} w S f:=⟨h.sJ,h.src,h.pT,h.ok,h.own,h.apart⟩
theorem oz.X6 {f:ah->ai Rs}{F:ah->Prop}{A:jU}(h:oz {o with pF:=F,pA:=A} w S f):oz o w S f:=⟨h.sJ,h.src,h.pT,h.ok,h.own,h.apart⟩
theorem yI.pins {F:ah->Prop}{B:jU}{j:ah}{x:R2}(h:yI o A j x):yI {o with pF:=F,pA:=B} A j x:=by
 cases x with
 |ext z=>cases z<;>exact h
 |_=>exact h
theorem yI.X6 {F:ah->Prop}{B:jU}{j:ah}{x:R2}(h:yI {o with pF:=F,pA:=B} A j x):yI o A j x:=by
 cases x with
 |ext z=>cases z<;>exact h
 |_=>exact h
theorem BK {α:Type 1}(H:kW o n A S F s r a w):∀ {l:aa ResultVar} {k:aa Sy->Tr α} {out:α},(D8 P l k).run s r=az out->
  ∃ys:aa Sy,(∀(acc:aq aO),(sZ a l acc).run P w= .ok (acc++(ys.map (Sy.den A)).toArray) w)/\(∀y∈ys,y.all F/\y.lu A)/\(k ys).run s r=az out
 |[],k,out,h=>⟨[],λacc=>by simp[sZ],λ_ q=>(by cases q),h⟩
 | .tmp t::l,k,out,h=>by
  simp only[D8,Tr.run] at h;split at h
  .rename_i e he;split at h
   .rename_i rB;obtain⟨ys,h1,h3,h2⟩:=BK H h;have hv:=(H.env t e he).1 (by rw[rB];exact λl hl=>by cases hl);have hv:a.tmps.getD t aL=e.sy.den A:=by
     rw[cP,show a.tmps[t]?=az (e.sy.den A) from hv];rfl
    refine⟨e.sy::ys,λacc=>?_,λy hy=>?_,h2⟩
    .rw[vI (v:=e.sy.den A) (by simp only[CM,hv,bZ]),h1];simp
    rcases bg.1 hy with rfl|hy
    .exact H.rH t e he (by rw[rB];exact λl hl=>by cases hl)
    exact h3 y hy
   cases h
  cases h
 | .cell t ty::l,k,out,h=>by
  simp only[D8,Tr.run] at h;split at h
  .rename_i e he;split at h
   .rename_i j rB OS;have hv:=(H.env t e he).1 (by rw[rB];exact λl hl=>by cases hl);rw[show(⟨t,e.ch,e.sy.den A⟩:VJ).val=e.sy.den A from rfl,OS] at hv;have hv:a.tmps.getD t aL= .pointer (az ⟨A.b j,0,aA⟩):=by
     rw[cP,show a.tmps[t]?=az (.pointer (az ⟨A.b j,0,aA⟩)) from hv];rfl
    obtain⟨x,hx,h⟩:=jI h;have fin:∀(y:Sy) (ys:aa Sy),(loadVar ty ⟨A.b j,0,aA⟩).run P w= .ok (y.den A) w->(∀(acc:aq aO),(sZ a l acc).run P w= .ok (acc++(ys.map (Sy.den A)).toArray) w)->
      ∀(acc:aq aO),(sZ a (.cell t ty::l) acc).run P w= .ok (acc++((y::ys).map (Sy.den A)).toArray) w:=by
     intro y ys hl h1 acc;rw[vI (v:=y.den A) (by simp only[CM,bw,hv,asAddr,bZ,cG,hl]),h1];simp
    split at h
    .rename_i bt cs;have nH:=(H.lq j _ hx).2;split at h
     .rename_i fs hu;obtain⟨hg,h⟩:=jt h;rw[bB] at hg;obtain⟨ys,h1,h3,h2⟩:=BK H h;refine⟨_,fin _ ys (BI H hx (.inl ⟨fs,hu,hg.1,j9 hg.2,rfl⟩)) h1,λy hy=>?_,h2⟩;rcases bg.1 hy with rfl|hy
      .exact⟨λc hc=>nH.1 c (dQ hc),λc hc=>nH.2 c (dQ hc)⟩
      exact h3 y hy
     .cases h
     .rename_i d JH JI hu;split at h
      .rename_i c Ii;obtain⟨ys,h1,h3,h2⟩:=BK H h;refine⟨_,fin (.one c) ys (BI H hx (.inr ⟨d,c,Ii,hu,λfs q=>JH fs q,λk e q=>JI k e q,rfl,rfl⟩)) h1,λy hy=>?_,h2⟩;rcases bg.1 hy with rfl|hy
       .exact⟨nH.1 c aZ,nH.2 c aZ⟩
       exact h3 y hy
      cases h
     cases h
    cases h
   cases h
  cases h
theorem II {ys:aa Sy}(h:(ys.all λy=>match y with| .vt _=>aD|_=>aC)=aC)(A:jU):(DF ys).den A=Km (ys.map (Sy.den A)):=by
 have hp:∀y∈ys,oy A (partOf y)=y.den A:=λy hy=>by
  have:=bG.1 h y hy;cases y with
  |one c=>rfl
  |agg cs=>rfl
  |vt ps=>cases this
 match ys,hp with
 |[],_=>rfl
 |[y],_=>rfl
 |y::z::l,hp=>
  show anD (((y::z::l).map partOf).map (oy A)).toArray= .tuple ((y::z::l).map (Sy.den A)).toArray;rw[cz]
  congr 2
  exact dm λq hq=>hp q hq
theorem CS {ys:aa Sy}(h:∀y∈ys,y.all F/\y.lu A):(DF ys).all F/\(DF ys).lu A:=by
 have hp:∀y∈ys,∀c∈(partOf y).2,c.all F/\c.lu A:=λy hy c hc=>by
  have:=h y hy;cases y with
  |one c'=>have:=aU.1 hc;subst this;exact h _ hy
  |agg cs=>exact⟨this.1 c hc,this.2 c hc⟩
  |vt ps=>cases hc
 match ys,h,hp with
 |[],_,_=>exact⟨(λp q=>by cases q),(λp q=>by cases q)⟩
 |[y],h,_=>exact h y aZ
 |y::z::l,_,hp=>
  refine⟨λp hp' c hc=>?_,λp hp' c hc=>?_⟩
  .grind
  grind
theorem agv {f:bI}(ks:aa ah)(hn:aa (ah×ak)){fn:Func}(hf:P.funcs[f]?=az fn):yM P f (agu P ks T hn fn):=by
 intro o n A S F s r a w b B kH ys out H hF Pn yc h kO qG hB;unfold agu at h;obtain⟨MV,hrs,h1⟩:=AQ (λp q=>by cases q) h;clear h;split at h1
 .rename_i x hx;split at h1
  .rename_i zs X7 vS;obtain⟨hg,h2⟩:=jt h1;clear h1;simp only[bB,decide_eq_true_eq] at hg;have⟨g1,g2,g3⟩:=hg;have e:=jH h2;subst e;clear h2;have ajd:ys.map (Sy.den A)++kH.map (λc=>cO (az ⟨A.b c.1,c.2,aA⟩))=(ys++kH.map λc=>Sy.one (.ptr c.1 c.2)).map (Sy.den A):=by
    rw[cA,cz];rfl
   have hva:∀y∈ys++kH.map λc=>Sy.one (.ptr c.1 c.2),y.all F/\y.lu A:=λy hy=>by
    rcases bE.1 hy with hy|hy
    .exact Pn y hy
    obtain⟨c,hc,rfl⟩:=bz.1 hy;exact⟨yc c hc,tv⟩
   generalize hvv:(ys++kH.map λc=>Sy.one (.ptr c.1 c.2))=vv at*
   rw[ajd];have Ut:x.σ.nx<B:=hB (x.σ.nx,aA) aZ;refine Kh fn fn.ntmps hf (λa' ha=>?_) g1 rfl (by rw[bH];exact cT g2);have r7:∀t e,p7 ⟨Aq 0 vv,MV,b⟩ t=az e->e.ch=[]/\∃y,vv[t]?=az y/\e=⟨[],y⟩:=λt e he=>by
    obtain⟨_,y,q1,q2⟩:=uK he;exact⟨by rw[q2],y,by simpa using q1,q2⟩
   have aje:jB r MV=r:=Us hrs;have H0:kW {o with pF:=F,pA:=A} fn.ntmps A S F (p7 ⟨Aq 0 vv,MV,b⟩) (jB r MV) a' w:=by
    rw[aje];refine⟨ha.1,ha.2.1,λt e he=>?_,λt e he _=>?_,H.lq,H.jM.pins F A,λj y hy=>(H.args j y hy).pins,⟨λ_ q=>q,lQ.refl _ _⟩⟩
    .obtain⟨_,y,q1,rfl⟩:=r7 t e he;have hv:(vv.map (Sy.den A))[t]?=az (y.den A):=by rw[cY,q1];rfl
     have MU:=(cF.1 hv).1;refine ha.2.2 ⟨t,[],y.den A⟩ (bz.2 ⟨(t,y.den A),?_,rfl⟩);refine anw.2 ⟨t,?_⟩;rw[aoW];exact⟨by rw[List.getElem?_range MU],hv⟩
    obtain⟨_,y,q1,rfl⟩:=r7 t e he;exact hva y (cn q1)
   have hI:OV {o with pF:=F,pA:=A} fn.ntmps r F (· <B) ⟨Aq 0 vv,MV,b⟩ a' w:=⟨⟨A,S,F,H0,hF,λj hj=>.inl hj⟩,λt e he=>(r7 t e he).1⟩;refine(RA (mo:=pl) (Q:=aJ P fn λe w'=> ∃v,e= .returned v/\nI o n F s r a ⟨x.cs,x.hs,DF zs.down,(x.σ.nx,aA)::x.σ.rs⟩ v w') (r0:=r) (F0:=F) (L:=(· <B)) (λj hj=>Nat.lt_trans hj Ut) (λq=>by cases q) hx).2 hI kO qG λa2 w2 h2=>?_;obtain⟨⟨A2,S2,F2,H2,f1,f2⟩,ch⟩:=h2;obtain⟨zs',r1,r2,r3⟩:=BK H2 (Tr.mono (λ_ _ q=>q) (XS r x.σ) _ vS);have hz:zs'=zs.down:=by have:=b5 r3;exact bh ULift.down this
   subst hz;have aeW:=vJ (ys:=zs.down.map (Sy.den A2)) r1;have ajf:nI o n F s r a ⟨x.cs,x.hs,DF zs.down,(x.σ.nx,aA)::x.σ.rs⟩ (Km (zs.down.map (Sy.den A2))) w2:=by
    refine⟨A2,S2,?_,(II g3 A2).symm,?_⟩
    .have hFU:∀j,F2 j->FU F ((x.σ.nx,aA)::x.σ.rs) j:=λj hj=>(f2 j hj).imp id λ⟨y,hy⟩=>⟨y,bl _ hy⟩;have H1:=H.agree H2.wj.2 (G:=FU F ((x.σ.nx,aA)::x.σ.rs)) λj hj=>.inl hj;have hle:∀j y,jB r ((x.σ.nx,aA)::x.σ.rs) j=az y->jB r x.σ.rs j=az y:=λj y hy=>by
      have hy:sG (jB r x.σ.rs) x.σ.nx aA j=az y:=hy
      by_cases q:x.σ.nx=j
      .subst q;rw[mu] at hy;cases hy
      rwa[m9 q] at hy
     refine⟨H1.size,H1.lK,H1.env,H1.rH,λj y hy=>?_,H2.jM.X6.sub λj rr hj=>?_,λj y hy=>(H2.args j y (hle j y hy)).X6,H1.wj⟩
     .have:=H2.lq j y (hle j y hy);exact⟨hFU j this.1,R2.mono hFU this.2.1,this.2.2⟩
     obtain⟨y,hy,rfl⟩:=bF.1 hj;show(jB r x.σ.rs j).map _=_;rw[hle j y hy];rfl
    have hFU:∀j,F2 j->FU F ((x.σ.nx,aA)::x.σ.rs) j:=λj hj=>(f2 j hj).imp id λ⟨y,hy⟩=>⟨y,bl _ hy⟩;have:=CS r2;exact⟨Sy.mono hFU this.1,this.2⟩
   unfold FA at X7;split at X7
   .rename_i p rr G9;rw[G9];show(sub _ p).qP pl P (post pl P _ _ rr) a2 w2;have hc:sub (fn.body.getD .skip) p= .ret:=by
     cases hc:sub (fn.body.getD .skip) p<;>rw[hc] at X7<;>first|rfl|cases X7
    rw[hc];exact Ep (u7 (bodyPost_ret aeW H2.lK ⟨_,rfl,ajf⟩))
   .rename_i G9;rw[G9];exact bodyPost_end aeW H2.lK ⟨_,rfl,ajf⟩
   cases X7
  cases h1
 cases h1
def inl {f:bI}(T:aa (lM P))(hn:aa (ah×ak)){fn:Func}(hf:P.funcs[f]?=az fn):lM P:=⟨f,agu P [] T hn fn,agv (T:=T) [] hn hf⟩
theorem aeX {mo:Mode}{T:aa (lM P)}{B:Code}{Q:oL}{st:aa It}(T':aa (lM P))(h:At mo P T' B Q st a w):At mo P T B Q st a w:=⟨h.get⟩
def plain {f:bI}{lS:aa (ak×Ty)}{rs:aa Ty}{rF:pW lS->Prop}{fn:pW lS->pq rs}(ok:kr P f lS rs rF fn):lM P:=⟨f,WU rF fn,T9 ok⟩
end
def ajg (P:aY)(k:Kc):ai aV:=(bT 4000).find? λt=>vF P t k
theorem ab5 {P:aY}{k:Kc}{t:aV}(h:ajg P k=az t):P.underlying t=az (qV k):=pN (by have:=apb h;exact this)
structure NX where
 k:Kc
 ty:Ty
 m:jw k (El ty)
 lf:ko k->ak
 cnt:ah
 cur:ai (ko k×El ty)
 j:ah
 d:ah
def aeY (P:aY)(n:ah)(B:Code)(σ:mX):aa It->ai NX
 | .run p::r=>match sub B p with
  | .region _ ops aD=>match ops.toList with
   |op::_=>match op.op,op.dst,op.guard with
    | .next (.tmp t) aD,az d,aA=>match p7 σ t with
     |some ⟨[],.one (.ptr j 0)⟩=>match mH σ j with
      |some (.iter k ty m lf cnt cur)=>match BF ops && (bP d n && (ajg P k).isSome) with
       |true=>az ⟨k,ty,m,lf,cnt,cur,j,d⟩
       |false=>aA
      |_=>aA
     |_=>aA
    |_,_,_=>aA
   |_=>aA
  |_=>aA
 |_=>aA
def RB (P:aY)(T:aa (lM P))(n:ah)(B:Code)(σ:mX)(y:Sy)(re:aa (ah×ai R2))(d:ah):aa It->ai mX
 | .run p::_=>match sub B p with
  | .region _ ops aD=>match Ac P T 4096 [] n ops (p7 σ) (mH σ) (ops.toList.drop 1) (σ.nx+4096) [(d,az ⟨[],y⟩)] re with
   |some us=>match(us.all λu=>u.cs.isEmpty && u.hs.isEmpty) && (re.all λq=>bP q.1 (σ.nx+4096)) with
    |true=>az ⟨yR (sK us [(d,az ⟨[],y⟩)])++σ.env,sL us re++σ.rs,σ.nx+4096*(ops.toList.drop 1).length+4096⟩
    |false=>aA
   |none=>aA
  |_=>aA
 |_=>aA
def tlI:aa It->aa It
 |_::r=>r
 |[]=>[]
def nx1 (P:aY)(T:aa (lM P))(n:ah)(B:Code)(σ:mX)(st:aa It)(x:ai NX):ai mX:=match x with
 |some I=>RB P T n B σ (.vt [(aD,[.b (.lit aD)])]) [] I.d st
 |none=>aA
def nx2 (P:aY)(T:aa (lM P))(n:ah)(B:Code)(σ:mX)(st:aa It)(I:NX)(kx:ko I.k)(v:El I.ty)(uA:ah):ai mX:=
 RB P T n B σ (.vt [(aD,[.b (.lit aC)]),(aD,[DB I.k kx]),(l8 I.ty,(j4 aC σ.nx (jT I.ty v)).1)]) ((I.j,az (.iter I.k I.ty I.m (λz=>I.lf z && !decide (z=kx)) uA (az (kx,v))))::(j4 aC σ.nx (jT I.ty v)).2) I.d st
def stG (x:ai mX):mX:=match x with
 |some y=>y
 |none=>⟨[],[],0⟩
section
variable {mo:Mode}{P:aY}{o:jO}{n:ah}{σ σ':mX}{a:Act}{w:aN}{T:aa (lM P)}{B:Code}{Q:oL}{st:aa It}
theorem RC {p:aa ah}(r:aa It){id:ah}{ops:aq bf}{y:Sy}{re:aa (ah×ai R2)}{d:ah}{A:jU}{S:jv}{a:Act}{w:aN}{op0:bf}{l:aa bf}(pG:sub B p= .region id ops aD)(D7:ops.toList=op0::l)
  (h0:∀t e,p7 σ t=az e->e.ch=[]) (np:∀j,o.pF j->j<o.kp) (hr:RB P T n B σ y re d (.run p::r)=az σ')
  (H:kW o n A S (FU (· <σ.nx) re) (ua (p7 σ) d (az ⟨[],y⟩)) (jB (mH σ) re) a w) (k:∀a w,lH o n σ' a w->Q .normal a w):wpList P ops Q l a w:=by
 unfold RB at hr;simp only[pG,D7,List.drop_one,List.tail_cons] at hr;split at hr
 .rename_i us TS;split at hr
  .rename_i nH;cases hr;rw[bB] at nH;have ajh:∀u∈us,u.cs=[]/\u.hs=[]:=λu hu=>by
    have:=bG.1 nH.1 u hu;rw[bB] at this;exact⟨anF.1 this.1,anF.1 this.2⟩
   have DZ:∀q∈re,q.1<σ.nx+4096:=λq hq=>by
    have:=bG.1 nH.2 q hq;simpa using cw▸this
   have fin:∀ {A':jU} {S':jv} {F':ah->Prop} {a':Act} {w':aN},kW o n A' S' F' (mN (p7 σ) (sK us [(d,az ⟨[],y⟩)])) (jB (mH σ) (sL us re)) a' w'->(∀j,σ.nx+4096+4096*l.length<=j->av->¬F' j)->lH o n ⟨yR (sK us [(d,az ⟨[],y⟩)])++σ.env,sL us re++σ.rs,σ.nx+4096*l.length+4096⟩ a' w':=by
    intro A' S' F' a' w' H' LR;refine⟨⟨A',S',?_⟩,?_,np⟩
    .rw[vH,Rz];exact(H'.less λt e he=>(zB h0 he).1).agree (lQ.refl _ _) λj hj=>dg λq=>LR j (by have q:¬j<σ.nx+4096*l.length+4096:=q;omega) tv hj
    rw[vH];exact λt e he=>(zB h0 he).2
   have key:=BB (Q:=Q) (L:=λ_=>av) (rest:=[]) h0 TS H (λj hj _ hn=>by
    rcases hn with hn|⟨x,hx⟩
    .omega
    have:=DZ _ hx;simp only at this;omega) (λ_ _=>trivial) (λu hu p hp=>by rw[(ajh u hu).1] at hp;cases hp) (λu hu p hp=>by rw[(ajh u hu).2] at hp;cases hp) λA' S' F' a' w' H' LR _=>k a' w' (fin H' LR)
   rwa[bW] at key
  cases hr
 cases hr
theorem RD (I:NX)(h:lH o n σ a w)(k1:(∀x,I.lf x=aD)->∀a w,lH o n (stG (nx1 P T n B σ st (az I))) a w->At mo P T B Q (tlI st) a w)
  (k2:∀(x:ko I.k) (v:El I.ty) (uA:ah),I.lf x=aC->nv I.k x->jo (show aa (ko I.k×El I.ty) from I.m) x=az v->uA<I.cnt->∀a w,lH o n (stG (nx2 P T n B σ st I x v uA)) a w->At mo P T B Q (tlI st) a w)
  (hI:aeY P n B σ st=az I:=by kernel_rfl) (h1:(nx1 P T n B σ st (az I)).isSome=aC:=by kernel_rfl) (h2:∀x v uA,(nx2 P T n B σ st I x v uA).isSome=aC:=by intro x v uA;kernel_rfl):At mo P T B Q st a w:=by
 obtain⟨⟨A,S,H⟩,h0,np⟩:=h;have DG:=hI;unfold aeY at hI;split at hI
 .rename_i p r;split at hI
  .rename_i id ops pG;split at hI
   .rename_i op l D7;split at hI
    .rename_i t d nN pM hg;split at hI
     .rename_i j he;split at hI
      .rename_i kc ty m lf cnt cur hR;split at hI
       .rename_i X8;cases hI;rw[bB,bB] at X8;have⟨vR,g1,g2⟩:=X8;have g1:d<n:=by simpa using cw▸g1
        obtain⟨kt,hkt⟩:=bS.1 g2;have hu:=ab5 hkt;obtain⟨wm,aji⟩:=bS.1 h1;rw[aji] at k1;refine⟨?_⟩;show(sub B p).qP mo P (post mo P B Q r) a w;rw[pG];refine yg vR ?_;rw[D7];simp only[wpList];have hw:dh op (yielded ops a.tmps)=aC:=by unfold Region.wanted;rw[hg]
        rw[aQ hw];have hv:=(H.env t _ he).1 (λl hl=>by cases hl);have hx:a.eval (.tmp t)= .pointer (az ⟨A.b j,0,aA⟩):=by
         simp only[dH,cP];rw[show a.tmps[t]?=az (.pointer (az ⟨A.b j,0,aA⟩)) from hv];rfl
        have hm:jL A (mH σ) j=az (Pd (A.b j) m lf cnt cur):=by show(mH σ j).map _=_;rw[hR];rfl
        have rB:∀t e,p7 σ t=az e->∀l∈e.ch,l.1≠d:=λt e he l hl=>by rw[h0 t e he] at hl;cases hl
        have over:(∀x,lf x=aD)->(Instr.next (.pointer (az ⟨A.b j,0,aA⟩)) aD op.type).run P w= .ok (.tuple #[.bool aD]) w->op.wp P a w (wpList P ops (yU (post mo P B Q r)) l) (yU (post mo P B Q r)):=by
         intro hlf kT;have e2:(aG a.eval op).run P w= .ok (.value (.tuple #[.bool aD])) w:=by
          simp only[aG,nN,bw,hx,kT];rfl
         refine kD e2 ?_;rw[pM];have H1:=H.put (C:=[]) (d:=d) (y:=.vt [(aD,[.b (.lit aD)])]) (u:=.tuple #[.bool aD]) g1 rB (λl hl=>by cases hl) (λ_=>⟨λq hq c hc=>by have:=aU.1 hq;subst this;have:=aU.1 hc;subst this;trivial,λq hq c hc=>by have:=aU.1 hq;subst this;have:=aU.1 hc;subst this;trivial⟩) ⟨λ_=>rfl,λq=>(q λl hl=>by cases hl).elim⟩;exact RC r pG D7 h0 np (re:=[]) aji (H1.agree (lQ.refl _ _) λc hc=>.inl hc) λa w h=>(k1 hlf a w h).get
        rcases H.jM.ok j _ hm with⟨mb,zs,cu,s1,s3,s4,s5,s6,s7⟩|⟨s1,s2,s3,since,seen,c0,s4⟩
        .rcases s3.next hu op.type with⟨hlf,kT⟩|⟨x,v,w',uA,n1,n2,n3,n4,n5,n6,n7,n8⟩
         .exact .inl (over hlf kT)
         have OR:∃z,jo zs x=az z/\z.1=v:=by
          have e1:jo (zs.map λq=>(q.1,q.2.1)) x=(jo zs x).map (·.1):=oU (λy:aO×El ty=>y.1) zs x;rw[e1] at n3;obtain⟨z,hz,rfl⟩:=bF.1 n3;exact⟨z,hz,rfl⟩
         obtain⟨z,hz,rfl⟩:=OR;have Uu:jo (show aa (ko kc×El ty) from m) x=az z.2:=by
          have e2:jo (show aa (ko kc×El ty) from m) x=(jo zs x).map (·.2):=by rw[s4];exact oU (λy:aO×El ty=>y.2) zs x
          rw[e2,hz];rfl
         obtain⟨σ2,ajj⟩:=bS.1 (h2 x z.2 uA);have k2':=k2 x z.2 uA n1 n2 Uu n4;rw[ajj] at k2';refine .inl ?_;have kT:=n5;have e2:(aG a.eval op).run P w= .ok (.value (.tuple #[.bool aC,pn kc x,z.1])) w':=by
          simp only[aG,nN,bw,hx,kT];rfl
         refine kD e2 ?_;rw[pM];have hj:=(H.lq j _ hR).1;have hkS:nC S w w':=λc hc=>n7.block c (H.jM.pT c hc) λq=>by cases q;exact(H.jM.own j _ _ hm rfl).2.2 hc
         have hbn:(A.b j)<w.heap.size:=(H.jM.own j _ _ hm rfl).2.1;have H1:=H.swap (lQ.refl _ _) (w':=w') (S':=S) (re:=[(j,az (.iter kc ty m (λz=>lf z && !decide (z=x)) uA (az (x,z.2))))]) (λc=>c=j) (λc hc=>by rw[show c=j from hc];exact⟨_,aU.2 rfl⟩)
          ((rE.of n7).mono λc hc=>⟨j,_,rfl,hR,by cases hc;rfl⟩) (λ_ q=>q) (λ_ q=>.inl q) (λc y hy=>by
           cases aU.1 hy;refine⟨tv,tv,rfl,.inl ⟨mb,zs,az (x,z),s1,n6,s4,λz hz=>(s5 z hz).keep hkS,rfl,λq hq=>?_⟩,λc hc=>?_⟩
           .cases hq;exact(s5 _ (qE hz)).keep hkS
           have hc:c=A.b j:=hc;subst hc;exact⟨.inl ⟨j,_,rfl,hR,rfl⟩,by rw[n8];exact hbn⟩) (λc c' y y' bb q1 q2 _ _=>by cases aU.1 q1;cases aU.1 q2;rfl)
         have pg:Rd S w' z.1 z.2:=(s5 _ (qE hz)).keep hkS;obtain⟨vs,O1,hv⟩:=tN pg;have yb:=pJ (k:=aC) (jT ty z.2) σ.nx;have hF:∀i,σ.nx<=i->¬FU (· <σ.nx) [(j,az (R2.iter kc ty m (λz=>lf z && !decide (z=x)) uA (az (x,z.2))))] i:=λi hi hn=>by
          rcases hn with hn|⟨q,hq⟩
          .omega
          cases aU.1 hq;omega
         obtain⟨A',c1,c2,c3,c4⟩:=oX (o:=o) (S:=S) (w:=w') (k:=aC) (B:=σ.nx+(j4 aC σ.nx (jT ty z.2)).2.length) _ vs σ.nx A _ O1 (λi hi _=>hF i hi) λq hq=>(yb q hq).2;have H2:=H1.ro c1 c3;have hfu:∀i,FU (FU (· <σ.nx) [(j,az (R2.iter kc ty m (λz=>lf z && !decide (z=x)) uA (az (x,z.2))))]) (j4 aC σ.nx (jT ty z.2)).2 i->FU (· <σ.nx) ((j,az (R2.iter kc ty m (λz=>lf z && !decide (z=x)) uA (az (x,z.2))))::(j4 aC σ.nx (jT ty z.2)).2) i:=λi hi=>by
          rcases hi with(hi|⟨q,hq⟩)|⟨q,hq⟩
          .exact .inl hi
          .exact .inr ⟨q,by rw[aU.1 hq];exact aZ⟩
          exact .inr ⟨q,bl _ hq⟩
         have Mu:jB (jB (mH σ) [(j,az (R2.iter kc ty m (λz=>lf z && !decide (z=x)) uA (az (x,z.2))))]) (j4 aC σ.nx (jT ty z.2)).2=jB (mH σ) ((j,az (R2.iter kc ty m (λz=>lf z && !decide (z=x)) uA (az (x,z.2))))::(j4 aC σ.nx (jT ty z.2)).2):=by
          funext i;show jB (sG (mH σ) j _) _ i=sG (jB (mH σ) _) j _ i
          by_cases q:j=i
          .subst q;rw[mu,qt,mu];rintro⟨y,hy⟩;have:=(yb _ hy).1;omega
          rw[m9 q]
          by_cases q2:∃y,(i,y)∈(j4 aC σ.nx (jT ty z.2)).2
          .exact J1 q2 _ _
          rw[qt q2,qt q2,m9 q]
         rw[Mu] at H2;have H3:=H2.agree (lQ.refl _ _) hfu;have H4:=H3.put (C:=[]) (d:=d) (y:=.vt [(aD,[.b (.lit aC)]),(aD,[DB kc x]),(l8 ty,(j4 aC σ.nx (jT ty z.2)).1)]) (u:=.tuple #[.bool aC,pn kc x,z.1]) g1 rB (λl hl=>by cases hl) (λ_=>by
          refine⟨λq hq c hc=>?_,λq hq c hc=>?_⟩
          .rcases bg.1 hq with rfl|hq
           .have:=aU.1 hc;subst this;trivial
           rcases bg.1 hq with rfl|hq
           .have:=aU.1 hc;subst this;exact(zA (A:=A) x).1
           have:=aU.1 hq;subst this;exact Sc.mono hfu (c4 c hc).1
          rcases bg.1 hq with rfl|hq
          .have:=aU.1 hc;subst this;trivial
          .rcases bg.1 hq with rfl|hq
           .have:=aU.1 hc;subst this;exact(zA (F:=λ_=>av) x).2
           have:=aU.1 hq;subst this;exact(c4 c hc).2) ⟨λ_=>by
          show anD #[_,_,_]=anD #[oy A' (aD,[.b (.lit aC)]),oy A' (aD,[DB kc x]),oy A' (l8 ty,(j4 aC σ.nx (jT ty z.2)).1)];unfold oy;simp only[bO,cC,Iu,c2,aom,if_false,aq6];rw[hv];rfl,λq=>(q λl hl=>by cases hl).elim⟩
         exact RC r pG D7 h0 np ajj H4 λa w h=>(k2' a w h).get
        refine .inl (over s3 (Wo s4 op.type))
       cases hI
      cases hI
     cases hI
    cases hI
   cases hI
  cases hI
 cases hI
end
end Go.Proofs.YtnfdimfepbbbpaaGreatDoor
