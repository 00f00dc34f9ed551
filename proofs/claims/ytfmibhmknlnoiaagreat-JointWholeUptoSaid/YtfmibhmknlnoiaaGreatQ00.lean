import Derived.Test.YtfmibhmknlnoiaaGreatProg
import GoSem.Machine.Exec
import Derived.Conc.Own
import Derived.Laws.World
import GoSem.Dispatch
import Derived.Control
import Derived.DyingOn
import Derived.Conc.CrowdComm
import Derived.Conc.Token
import Derived.Conc.CrowdStepW
import Derived.Defers
import Derived.Conc.Own4
import Derived.Orders
import Derived.Conc.CrowdBase
import Derived.Lib.Hide
import Derived.Laws.AppendOwn
import Derived.Laws.BitsLemmas
import Derived.Below
import Derived.Calls
import Derived.Deep.AppendLies
import Derived.Deep.RegionHeld
import Derived.Conc.Pipeline
import GoSem.Core.Value
import GoSem.Core.World
import Derived.IntWalk
set_option linter.all false
set_option maxRecDepth 100000
set_option maxHeartbeats 4000000
namespace Go.Proofs.YtfmibhmknlnoiaaGreat
open _root_.Go.Proofs.Tryz
open _root_.Option renaming some→ae,none→ah
open _root_.Bool renaming true→au,false→aw
open _root_.Go.Value renaming pointer→aI
open _root_.Go.Obj renaming cells→aK
open _root_.Go.Item renaming inRegion→bI
open _root_.Go renaming World→aj,Value→ay,Frame→aB,Goroutine→aY,Program→bh,Oper→aZ,Addr→aP,TypeId→bq,Event→cK,undef→aO,yielded→dW,execOp→bT,Question→iz,Calls→b9,results→eL,stepG→bn,runNT_succ_next→pB
open _root_.Go.Conc renaming goes_go→cG,Deaf_other→ig,getElem?_append_cases→tG,woken_of_again→mi,offersAt_of_not_blocked→tH,runT_crowd_go→mj,again_running→nB,rcase→dh,crowd→bS,mem_ofEvents→iK
open _root_.Go.ConcN renaming WgLive→dG,sumTo→cZ,upd_same→gR
open _root_.Go.ConcR renaming Payload→fQ,wgBlock→qi
open _root_.Go.Proofs.Tryz renaming prog→aC
open _root_.Go.Region renaming wanted→dF,binds→fq,ready→ki
open _root_.Go.MemOp renaming ofEvents→eM
open _root_.Go.MemAct renaming ofEvent→fH,touch?→ly
open _root_.Go.World renaming setCell→fF,cell?→fG
open _root_.Go.Frame renaming enter→gL
open _root_.Go.stepG renaming exec→fJ,apply→gB
open _root_.Go.Sem renaming runT→gJ
open _root_.Go.CallKind renaming early→gA
open _root_.List renaming range→dx
abbrev aT:=@absurd
abbrev aU:=@if_neg
abbrev aX:=@if_pos
abbrev bF:=@Array.getElem?_eq_some_iff
abbrev aA:=@Go.Lib.hid
abbrev bj:=@Option.some.inj
abbrev dO:=@Array.getD_eq_getD_getElem?
abbrev dr:=@Go.World.cell?_of_block
abbrev dz:=@Array.getElem?_push
abbrev cN:=@Option.getD_some
abbrev eQ:=@List.getElem?_eq_getElem
abbrev gG:=@Array.getElem?_setIfInBounds_ne
abbrev bJ:=@Nat.le_refl
abbrev eF:=@List.getD_eq_getElem?_getD
abbrev iw:=@Array.getElem?_setIfInBounds_self_of_lt
abbrev ez:=@Go.World.block_lt_of_cell?
abbrev bQ:=@Nat.zero_le
abbrev eX:=@List.getElem?_eq_some_iff
abbrev eV:=@Classical.byContradiction
abbrev cM:=@Go.World.size_alloc
abbrev cR:=@Bool.and_eq_true
abbrev dD:=@Option.some.injEq
abbrev fP:=@Array.getElem?_eq_getElem
abbrev dt:=@Go.World.alloc_eq
abbrev dm:=@Nat.le_trans
abbrev mI:=@True.intro
abbrev cn:=@Go.Conc.Goes.step
abbrev fO:=@List.length_cons
abbrev fN:=@Array.size_push
abbrev gq:=@Go.IntKind.wrap_i64
abbrev fR:=@Nat.not_lt_zero
abbrev iy:=@Bool.false_eq_true
abbrev eB:=@Nat.zero_add
abbrev lz:=@List.getElem?_append_left
abbrev gT:=@Go.RowKit.Below.heap_alloc
abbrev iR:=@Nat.lt_of_lt_of_le
abbrev ib:=@Array.mem_append
abbrev gK:=@List.length_nil
abbrev nE:=@Option.ne_none_iff_exists'
abbrev nI:=@List.getElem?_append_right
abbrev kJ:=@List.getElem?_toArray
abbrev kH:=@List.mem_cons_of_mem
abbrev oF:=@List.setIfInBounds_toArray
abbrev fU:=@List.mem_cons
abbrev bZ:=@Ne.symm
abbrev iT:=@List.all_eq_true
abbrev iB:=@Go.Frame.finish_at
abbrev mb:=@Option.map_eq_some_iff
abbrev nK:=@List.getElem?_cons_succ
abbrev jf:=@Array.mem_push
abbrev np:=@Array.getElem?_eq_none
abbrev j9:=@List.size_toArray
abbrev oP:=@List.getElem?_cons_zero
abbrev gw:=@Go.RowKit.Below.refl
abbrev jZ:=@List.cons_append
abbrev nJ:=@List.mem_of_getElem?
abbrev mr:=@Nat.eq_zero_or_pos
abbrev mo:=@List.length_append
abbrev rO:=@Array.getElem?_replicate
abbrev nt:=@List.mem_cons_self
abbrev pd:=@Go.World.news_of_block
abbrev sQ:=@Go.World.cell?_setCell_other
abbrev kU:=@List.nil_append
abbrev qf:=@Array.mem_of_getElem?
abbrev nM:=@List.getElem?_map
abbrev oH:=@Array.getElem?_map
abbrev afx:=@Go.World.cell?_alloc_some
abbrev ji:=@Nat.lt_or_ge
abbrev rS:=@List.mem_iff_getElem?
abbrev si:=@List.length_replicate
abbrev qA:=@List.take_succ_cons
abbrev pL:=@Go.World.ownsRow_nil
abbrev nC:=@Option.map_some
abbrev kh:=@Go.Conc.Goes.running
abbrev gM:=@Go.Conc.Goes.stop
abbrev vz:=@List.getElem?_eq_none
abbrev sS:=@List.set_cons_zero
abbrev zP:=@Array.size_setIfInBounds
abbrev EL:=@Array.all_eq_true_iff_forall_mem
abbrev rP:=@List.not_mem_nil
abbrev pz:=@List.mem_range
abbrev rV:=@List.getElem_mem
abbrev uX:=@List.set_cons_succ
abbrev rY:=@Go.World.size_drew
abbrev sr:=@Go.Value.slice.inj
abbrev qB:=@List.take_zero
abbrev r9:=@List.length_set
abbrev zW:=@Go.World.cell?_alloc_new
abbrev vq:=@List.append_assoc
abbrev EH:=@Array.getElem?_setIfInBounds
abbrev tD:=@List.range_succ
abbrev uC:=@List.length_map
abbrev xw:=@Array.append_empty
abbrev lx:=@Go.Conc.Goes.cases
abbrev pA:=@List.mem_map
abbrev J9:=@List.take_succ_eq_append_getElem
abbrev xu:=@Bool.not_eq_true'
abbrev xi:=@Array.size_modify
abbrev vw:=@Go.Obj.cells.injEq
abbrev vE:=@List.map_append
abbrev kX:=@Go.Conc.Goes.rely
abbrev xS:=@List.range'_succ
abbrev CQ:=@List.range_eq_range'
abbrev yH:=@List.length_eq_zero_iff
abbrev uj:=@Go.Value.slice.injEq
abbrev wT:=@List.getElem?_range
abbrev qX:=@List.foldl_cons
abbrev wY:=@List.flatMap_append
abbrev qQ:=@Bool.or_eq_true
theorem ai{p:Prop}(h:p:=by omega):p:=h
theorem aQ{p:Prop}(h:p:=by kernel_rfl):p:=h
theorem aN{p:Prop}(h:p:=by decide):p:=h
theorem aJ{p:Prop}(h:p:=by simp):p:=h
theorem dS{p:Prop}(h:p:=by simp[Act.eval]):p:=h
theorem dp{p:Prop}(h:p:=by simp;omega):p:=h
theorem jT{p:Prop}(h:p:=by simp[results,go_sem]):p:=h
theorem jM{p:Prop}(h:p:=by simp[World.setCell]):p:=h
theorem dB{p:Prop}(h:p:=by cases h):p:=h
theorem jk{p:Prop}(h:p:=by unfold maxLen;omega):p:=h
theorem cQ{p:Prop}(h:p:=by rfl):p:=h
theorem nD{p:Prop}(h:p:=by simp only;omega):p:=h
theorem qz{p:Prop}(h:p:=by simp[S3,iq]):p:=h
theorem pI{p:Prop}(h:p:=by simp[Value.oneCell']):p:=h
theorem nG{p:Prop}(h:p:=by simpa using h1):p:=h
theorem rW{p:Prop}(h:p:=by simpa using h2):p:=h
theorem J7{p:Prop}(h:p:=by cases hk):p:=h
theorem zC{p:Prop}(h:p:=by subst h;cases hy):p:=h
theorem vy{p:Prop}(h:p:=by simp only[phi];omega):p:=h
theorem UD{p:Prop}(h:p:=by rw[ax hW];rfl):p:=h
theorem oM{p:Prop}(h:p:=by rw[e];simp):p:=h
theorem fY{p:Prop}(h:p:=by go_num):p:=h
theorem Zf{p:Prop}(h:p:=by exact(Array.mem_push.1 he).imp id fun h y hy=>by subst h;cases hy):p:=h
theorem ZU{p:Prop}(h:p:=by rw[if_neg (by omega),if_neg (by omega),if_pos trivial]):p:=h
theorem JQ{p:Prop}(h:p:=by first|exact True.intro|((try dsimp only);(refine⟨?_,?_⟩ <;>first|(simp[*];done)|(go_simp;done)))):p:=h
theorem acL{p:Prop}(h:p:=by first|exact True.intro|((try dsimp only);(refine⟨?_,?_,?_,?_⟩ <;>first|(simp[*];done)|(go_simp;done)))):p:=h
theorem acM{p:Prop}(h:p:=by first|exact True.intro|((try dsimp only);(refine⟨?_,?_,?_,?_,?_,?_,?_,?_,?_,?_,?_⟩ <;>first|(simp[*];done)|(go_simp;done)|(rw[hgrow.cell_far _ (by simp;omega) (by first|exact hrW|exact hrn|exact hr8)];first|(simp[*];done)|(go_simp;done))))):p:=h
theorem QY{p:Prop}(h:p:=by first|exact True.intro|((try dsimp only);trivial)):p:=h
theorem Z8{p:Prop}(h:p:=by first|exact True.intro|((try dsimp only);simp[*])):p:=h
theorem Z9{p:Prop}(h:p:=by first|exact True.intro|((try dsimp only);(refine⟨?_,?_⟩ <;>simp[*,World.cell?_alloc_some]))):p:=h
theorem aae{p:Prop}(h:p:=by first|exact True.intro|((try dsimp only);(refine⟨?_,?_⟩ <;>first|(simp[*];done)|(go_simp;done)|(rw[hgrow.cell_far _ (by simp;omega) (by first|exact hr1|exact hr2)];first|(simp[*];done)|(go_simp;done))))):p:=h
theorem aaf{p:Prop}(h:p:=by first|exact True.intro|((try dsimp only);(refine⟨?_,?_⟩ <;>first|(simp[*];done)|(go_simp;done)|(rw[wR.cell_far _ (by simp;omega) (by simp[Value.ownBlock])];first|(simp[*];done)|(go_simp;done))|(rw[hgrow.cell_far _ (by simp;omega) (by first|exact hr1|exact hr2)];first|(simp[*];done)|(go_simp;done))))):p:=h
theorem Vo{p:Prop}(h:p:=by first|exact True.intro|((try dsimp only);(refine⟨?_,?_,?_⟩ <;>first|(simp[*];done)|(go_simp;done)|(rw[hgrow.cell_far _ (by simp;omega) (by first|exact hr1|exact hr2)];first|(simp[*];done)|(go_simp;done))))):p:=h
theorem C9{p:Prop}(h:p:=by first|exact True.intro|((try dsimp only);first|(simp[*,World.cell?_alloc_some];done)|(rw[hgrow.cell_far _ (by simp;omega) hpu];assumption)|(rw[hgrow2.cell_far _ (by simp;omega) hpo];assumption))):p:=h
theorem yf{p:Prop}(h:p:=by first|exact True.intro|((try dsimp only);(refine afP _ ?_;first|exact(Below.refl _ _).drew|exact aF.1.alloc aF.1.size _|exact aF.1.grown g8 aF.1.size (fun k hk=>by cases hk)|exact aF.1.grown pY aF.1.size (fun k hk=>by cases hk)))):p:=h
variable{ι α:Type}{e1 e2 er:Array cK}{gs gs':Array aY}{ps:Array Tmp}{xs:Array ay}{it rd:Bool}{cJ:ConcN.CTag}{Hs:ConcN.CTag->aY->aj->Prop}{d:Deferred}{c fr cB cz:aB}{At At':aB->List aB->aj->Prop}{fn:FuncId}{g':aY}{Q:aY->aj->Prop}{h:Halt}{ds:List Deferred}{cs cs' fs dg dC:List aB}{k:List Item}{X:Loc->Prop}{C Wg b d0 f i j m s t:Nat}{mQ:Nat->Bool}{S S':Nat->Loc->Prop}{q q':Nat->Nat}{F:Nat->Option (Nat×Nat)}{Inb:Nat->Option Conc.Seat}{H Dy N:Nat->Prop}{τ qc:Nat->iz->Nat}{D':Nat->ConcN.WD}{ρ:Operand->ay}{κ:Option (List Item)}{sl:Option (Nat×Nat)}{x:Sem α}{T:Trace}{β γ δ:Type}{e ty:bq}{u:Unsupported}{v:ay}{Post:ay->aj->Prop}{a a' a1 a₁ a₂ r' dJ r₁ w' w2 w₁:aj}{D B7:aj->aj->Array cK->Prop}{R:aj->aj->Prop}{y:α×Nat}{p p':α->Prop}
section
open Go
def Bw(P:bh)(t:bq):Bool:=match P.underlying t with
 |some (.struct _)=>aw
 |some (.array ..)=>aw
 |some (.interface _)=>aw
 |some .unsafePointer=>aw
 |_=>au
def Bz(P:bh)(t:bq):Bool:=match P.underlying t with
 |some (.pointer _)=>au
 |_=>aw
def uF(P:bh)(t:bq):Bool:=match P.underlying t with
 |some (.int _)=>au
 |_=>aw
def Oo(P:bh)(t:bq):Bool:=match P.underlying t with
 |some (.struct fs)=>fs.all λf=>uF P f.type
 |some (.array _ e)=>uF P e
 |_=>aw
def ID(P:bh)(t:bq):Bool:=Bw P t||(Oo P t&&!P.eqGuardType P.depth t)
def xg(P:bh)(t:bq):Bool:=match P.underlying t with
 |some (.int _)=>au
 |some (.float _)=>au
 |_=>aw
structure bN where
 L:Nat->Bool
 C:Nat->Bool
 X:Nat->Bool
 ft:Nat->Nat->Bool
 V:String->Bool:=λ_=>aw
 fi:Nat->Nat->Bool:=λ_ _=>aw
 I:Nat->Bool:=λ_=>aw
 rt:Nat->Bool:=λ_=>aw
 R:Bool:=aw
def VF(S:bN):ay->Bool
 |.func (.func g) first _=>S.C g&&first.isEmpty
 |.func (.yield _) first _=>S.R&&first.isEmpty
 |.func .. =>aw
 |_=>au
def VI(S:bN):ay->Bool
 |.func (.func g) first cap=>S.I g&&first.isEmpty&&decide (cap.size<=7)
 |.func .. =>aw
 |_=>au
def VS(S:bN)(f t:Nat)(v:ay):Bool:=bif S.fi f t then VI S v else VF S v
def qN(S:bN)(f:Nat)(it:Bool):Operand->Bool
 |.tmp t=>S.ft f t&&(S.fi f t==it)
 |.const .nilFunc=>au
 |.func g=>bif it then S.I g else S.C g
 |_=>aw
def BA(S:bN)(f g:Nat)(n:Nat)(args:Array Operand):Bool:=(dx n).all λt=>!S.ft g t||((args[t]?).all (qN S f (S.fi g t)))
def EE:Builtin->Bool
 |.append=>au
 |.cap=>au
 |.copy=>au
 |.len=>au
 |.max=>au
 |.min=>au
 |.recover=>au
 |_=>aw
def Tg(P:bh)(S:bN)(f:Nat)(c:Call):Bool:=match c.callee with
 |.value (.func g)=>S.X g||(S.L g&&BA S f g (((P.funcs[g]?).map (·.ntmps)).getD 0) c.args&&(c.args.size<=((P.funcs[g]?).map (·.ntmps)).getD 0))
 |.value x=>qN S f aw x
 |.builtin b=>EE b
 |.invoke _ m=>S.V m
def Oq(P:bh)(S:bN)(f:Nat)(c:Call):Bool:=match c.callee with
 |.value (.func g)=>S.L g&&BA S f g (((P.funcs[g]?).map (·.ntmps)).getD 0) c.args&&(c.args.size<=((P.funcs[g]?).map (·.ntmps)).getD 0)
 |.value (.tmp t)=>S.ft f t&&!S.fi f t&&!S.R
 |_=>aw
def uG:Operand->Bool
 |.const (aI ah)=>au
 |_=>aw
def BB:Operand->Bool
 |.const (.int _ 0)=>au
 |_=>aw
def Th:BinOp->Bool
 |.eql=>au
 |.neq=>au
 |_=>aw
def LB(P:bh)(S:bN)(f:Nat)(free it:Bool):Op->Bool
 |.move x=>free||qN S f it x
 |.assign x=>free||qN S f it x
 |.makeFunc (.func g) first cap=>free||((bif it then S.I g&&decide (cap.size<=7)else S.C g) &&first.isEmpty)
 |.makeFunc .. =>free
 |.call c=>free&&Tg P S f c
 |.binOp op t x y _=>free&&(!Th op||(ID P t&&(!Bz P t||uG x||uG y)))
 |.convert s d _=>free&&xg P s&&xg P d
 |.pick .. =>free
 |.alloc _=>free
 |.box .. =>free
 |.build .. =>free
 |.buildSlice .. =>free
 |.load .. =>free
 |.store .. =>free
 |.nilCheck _=>free
 |.unOp .. =>free
 |.makeMap .. =>free
 |.makeSlice .. =>free
 |.slice .. =>free
 |.fieldAddr .. =>free
 |.field .. =>free
 |.indexAddr .. =>free
 |.index .. =>free
 |.extract .. =>free
 |.makeInterface .. =>free
 |.panic _=>free
 |.typeAssert .. =>free
 |.makeChan _ x=>free&&BB x
 |.defer c=>free&&Oq P S f c
 |.select _ b=>b
 |_=>aw
def Ti(P:bh)(S:bN)(f:Nat)(o:aZ):Bool:=match o.op,o.dst with
 |.call {callee:=.value (.func g),args:=xs,..},ae d=>S.fi f d&&S.rt g&&!S.X g&&S.L g&&BA S f g (((P.funcs[g]?).map (·.ntmps)).getD 0) xs&&(xs.size<=((P.funcs[g]?).map (·.ntmps)).getD 0)
 |_,_=>aw
def lB(S:bN)(f:Nat):Option Nat->Bool
 |some d=>!S.ft f d
 |none=>au
def Za(S:bN)(f:Nat):Option Nat->Bool
 |some d=>S.fi f d
 |none=>aw
def iu(P:bh)(S:bN)(f:Nat)(o:aZ):Bool:=LB P S f (lB S f o.dst) (Za S f o.dst) o.op||Ti P S f o
def kz(o:aZ):Bool:=match o.op with
 |.defer _=>aw
 |.call {callee:=.builtin .recover,..}=>aw
 |_=>au
def iL:Code->Bool
 |.region _ ops _=>ops.all kz
 |.seq a b=>iL a&&iL b
 |.cond _ a b=>iL a&&iL b
 |.block _ b=>iL b
 |.loop b=>iL b
 |.scope b=>iL b
 |.rangeFunc .. =>aw
 |_=>au
def dZ(P:bh)(S:bN)(f:Nat):Code->Bool
 |.region _ ops _=>ops.all (iu P S f)
 |.seq a b=>dZ P S f a&&dZ P S f b
 |.cond _ a b=>dZ P S f a&&dZ P S f b
 |.block _ b=>dZ P S f b
 |.loop b=>dZ P S f b
 |.scope b=>dZ P S f b
 |.rangeFunc g ps a b=>S.R&&qN S f au g&&ps.all (λt=>!S.ft f t) &&iL a&&iL b&&dZ P S f a&&dZ P S f b
 |_=>au
def lkL:List Nat:=[7,9,12,14,15,16,17,18,36,37,38,39,40,41,42,43,46,49,50,51,52,53,70,78,79,80,82,83,84,85,87,88,90,91,92,93,94,95,129,130,131,132,133,134,136,137,138,154,155,156,157,161,163,164,182,183,184]
def lkX:List Nat:=[81,126,152,153,162]
def lkC:List Nat:=[37,51,95]
def lkI:List Nat:=[92,184]
def aeg:List Nat:=[50,183]
def BC:List (Nat×Nat):=[(19,38),(20,10),(21,13),(21,23),(36,1),(36,6),(43,0),(43,7),(49,0),(49,1),(49,6),(49,9),(50,2),(50,3),(78,1),(78,11),(90,0),(90,3),(91,1),(91,7),(92,0),(92,11),(94,1),(94,6),(136,1),(136,6),(137,2),(137,17),(137,26),(137,42),(137,59),(138,1),(138,11),(156,3),(156,22),(157,4),(157,40),(157,92),(157,158),(157,204),(157,218),(182,7),(183,4),(183,8),(184,0),(184,19)]
def abO:List (Nat×Nat):=[(21,13),(49,0),(49,6),(50,2),(50,3),(90,0),(90,3),(136,1),(136,6),(182,7),(183,4),(183,8)]
noncomputable def zB:bh:=aC
def hZ:bN:={L:=λg=>lkL.contains g,C:=λg=>lkC.contains g,X:=λg=>lkX.contains g,ft:=λg t=>BC.contains (g,t),fi:=λg t=>abO.contains (g,t),I:=λg=>lkI.contains g,rt:=λg=>aeg.contains g,R:=au}
def uH:Code->Bool
 |.ret=>au
 |.exit _=>au
 |.goto _=>au
 |_=>aw
def qO(P:bh)(S:bN)(l:Loop):Bool:=l.params.all (λt=>!S.ft l.fn t) &&iL l.assign&&iL l.body&&dZ P S l.fn l.assign&&dZ P S l.fn l.body&&(dx l.tmps.size).all (λt=>!S.ft l.fn t||VS S l.fn t (l.tmps.getD t aO)) &&(match l.pending with
 |none=>au
 |some c=>uH c)
noncomputable def Zb(l:Loop):Bool:=qO zB hZ l
noncomputable def gI:Obj->Bool
 |.view .. =>aw
 |.pending .. =>aw
 |.loop l=>Zb l
 |.deferred (ae ds)=>ds.isEmpty
 |.chan cap buf cl _ _ _=>cap==0&&buf.isEmpty&&!cl
 |_=>au
def di:Obj->Bool
 |.number .. =>aw
 |_=>au
def NE(_:List aB):Prop:=True
def eh:Obj:=.view ⟨0,0,ae 0⟩ 0
def BD(x y:Option Obj):Prop:=x=y\/∃c e f,x=ae (aK c e f)/\y=ae (aK c e (0,0))
structure Rel(H:Nat->Prop)(a r:aj):Prop where
 size:a.heap.size=r.heap.size
 same:∀b,¬H b->BD a.heap[b]? r.heap[b]?
 hid:∀b,H b->a.heap[b]? =ae eh/\∃o,r.heap[b]? =ae o/\di o=au
 objs:∀(b:Nat),¬H b->∀o,a.heap[b]? =ae o->gI o=au
 os:a.os=r.os
 output:a.output=r.output
def IE(H:Nat->Prop)(e:cK):Prop:=match e.loc with
 |.cell a=>¬H a.block
 |.obj b=>¬H b\/e.write=aw
 |.mark (.extern _)=>True
 |.mark .noRoom=>True
 |.output=>True
 |_=>False
def rL(a a' r:aj):Prop:=∀i q,a.drawn+i<a'.drawn->a.tape (a.drawn+i) q=r.tape (r.drawn+i) q
def Ot(w w':aj):Prop:=(∀(b:Nat) c e f,w.heap[b]? =ae (aK c e f)->∃c',c'.size=c.size/\w'.heap[b]? =ae (aK c' e f))/\∀(b:Nat) x l,w.heap[b]? =ae (.number x l)->w'.heap[b]? =ae (.number x l)
theorem eG(w:aj):Ot w w:=⟨λ_ c _ _ h=>⟨c,rfl,h⟩,λ_ _ _ h=>h⟩
theorem Ot.trans{b c:aj}(h:Ot a b)(k:Ot b c):Ot a c:=⟨λx y e f hx=>by obtain⟨_,h0,h1⟩:=h.1 x y e f hx;obtain⟨c2,h2,h3⟩:=k.1 _ _ _ _ h1;exact⟨c2,h2.trans h0,h3⟩,λx y l hx=>k.2 _ _ _ (h.2 x y l hx)⟩
theorem Ou(w:aj)(x:aP)(v:ay):Ot w (w.setCell x v):=by
 refine⟨λb c e f h=>?_,λb y l h=>?_⟩;all_goals simp only[fF,Array.getElem?_modify]
 all_goals split
 all_goals rw[h]
 .refine⟨_,?_,rfl⟩;split<;>simp
 .exact⟨_,rfl,rfl⟩
 .rfl
theorem IG(w:aj)(o:Obj):Ot w {w with heap:=w.heap.push o}:=by
 have:∀(b:Nat) o',w.heap[b]? =ae o'->(w.heap.push o)[b]? =ae o':=λb o' h=>by have hlt:=(bF.1 h).1;rw[dz,aU ai];exact h
 exact⟨λb c e f h=>⟨c,rfl,this b _ h⟩,λb y l h=>this b _ h⟩
structure Went(H:Nat->Prop)(es:Array cK)(a a' r r':aj)(er:Array cK):Prop where
 rel:Rel H a' r'
 tape:r'.tape=r.tape
 drawn:r'.drawn=r.drawn+(a'.drawn-a.drawn)
 hidden:∀b,H b->r'.heap[b]? =r.heap[b]?
 evs:∀e∈er,e∈es\/IE H e
 evin:∀e∈er,e∈es\/∀x,e.loc=.cell x->x.block<r'.heap.size
 grow:r.heap.size<=r'.heap.size
 eqk:∀b,¬H b->(b<a.heap.size->a.heap[b]? =r.heap[b]?)->a'.heap[b]? =r'.heap[b]?
 kept:∀x,a.frozen? x=au->r'.cell? x=r.cell? x/\a'.frozen? x=au
 rov:∀e∈er,e∈es\/∀x,e.loc=.cell x->e.write=au->a.frozen? x=aw
 growa:a.heap.size<=a'.heap.size
 shp:Ot a a'
 shpr:Ot r r'
 same:r'.os=r.os/\r'.output=r.output
def j8:Halt->Bool
 |.unsupported (.initOrder _)=>aw
 |.unsupported _=>au
 |.stuck _=>au
 |_=>aw
def Match(H:Nat->Prop)(post:α->Prop)(a r:aj)(es:Array cK)(x y:Result α×Array cK):Prop:=match x.1 with
 |.ok v a'=>post v/\a'.tape=a.tape/\a.drawn<=a'.drawn/\(rL a a' r->∃r' er,y=(.ok v r',er)/\Went H es a a' r r' er)
 |.halt (.panic v) a'=>a'.tape=a.tape/\a.drawn<=a'.drawn/\(rL a a' r->∃r' er,y=(.halt (.panic v) r',er)/\Went H es a a' r r' er)
 |.halt h _=>j8 h=au
def Simu(H:Nat->Prop)(P:bh)(post:α->Prop)(x:Sem α):Prop:=∀a r ea es,Rel H a r->Match H post a r es (x.runT P a ea) (x.runT P r es)
def jq(H:Nat->Prop)(P:bh)(x:Sem α):Prop:=∀a r ea,Rel H a r->∃hh a' e',x.runT P a ea=(.halt hh a',e')/\j8 hh=au
section
variable{P:bh}{q:β->Prop}
theorem od(x:Sem α)(f:α->Sem β):∀(w:aj) (es:Array cK),(x >>= f).runT P w es=match x.runT P w es with
  |(.ok v w',es')=>(f v).runT P w' es'
  |(.halt h w',es')=>(.halt h w',es'):=by
 show∀(w:aj) (es:Array cK),(x.bind f).runT P w es=_;induction x with
 |pure a=>intro w es;rfl
 |halt h=>intro w es;rfl
 |load m a k ih=>
  intro w es;simp only[Sem.bind,gJ];split
  .exact ih _ _ _
  .split
   .exact ih _ _ _
   .rfl
 |store m a v k ih=>intro w es;cases v<;>simp only[Sem.bind,gJ] <;>(first|rfl|skip) <;>(split<;>(first|(split<;>first|rfl|exact ih _ _)|rfl))
 |new o k ih=>intro w es;exact ih _ _ _
 |shape r k ih=>intro w es;exact ih _ _ _
 |freeze a n k ih=>intro w es;exact ih _ _
 |frozen a k ih=>intro w es;exact ih _ _ _
 |getObj r k ih=>intro w es;simp only[Sem.bind,gJ];split<;>first|rfl|exact ih _ _ _
 |setObj r o k ih=>intro w es;simp only[Sem.bind,gJ];split<;>first|rfl|exact ih _ _
 |choose q k ih=>intro w es;simp only[Sem.bind,gJ];split<;>exact ih _ _ _
 |sys c k ih=>intro w es;exact ih _ _ _
 |program k ih=>intro w es;exact ih _ _ _
 |mark m k ih=>intro w es;exact ih _ _
theorem jq.match(h:jq H P x){r:aj}(hR:Rel H a r)(ea es:Array cK)(y:Result α×Array cK):Match H p a r es (x.runT P a ea) y:=by
 obtain⟨hh,a',e',e,hd⟩:=h a r ea hR;rw[e];cases hh with
 |panic v=>cases hd
 |_=>exact hd
theorem jq.p5(h:jq H P x):Simu H P p x:=λ_ _ _ _ hR=>h.match hR _ _ _
theorem jq.bind{f:α->Sem β}(hx:jq H P x):jq H P (x >>= f):=by intro a r ea hR;obtain⟨hh,a',e',e,hd⟩:=hx a r ea hR;rw[od,e];exact⟨_,_,_,rfl,hd⟩
theorem Simu.PX{f:α->Sem β}(hx:Simu H P p x)(hnp:∀a ea v a' e',x.runT P a ea≠(.halt (.panic v) a',e'))(hf:∀v,p v->jq H P (f v)):jq H P (x >>= f):=by
 intro a r ea hR;have hm:=hx a a ea ea ⟨rfl,λ_ _=>.inl rfl,λb hb=>⟨(hR.hid b hb).1,_,(hR.hid b hb).1,rfl⟩,hR.objs,rfl,rfl⟩;rw[od];have aeh:=hnp a ea;generalize x.runT P a ea=X at hm aeh;obtain⟨rx,ex⟩:=X;cases rx with
 |ok v a'=>obtain⟨hv,h1,h2,h3⟩:=hm;obtain⟨r',er,hr,hw⟩:=h3 (λ_ _ _=>rfl);exact hf v hv a' r' ex hw.rel
 |halt hh a'=>
  cases hh with
  |panic v=>exact aT rfl (aeh v a' ex)
  |_=>exact⟨_,_,_,rfl,hm⟩
theorem rL.left{r:aj}(h:rL a a₂ r)(hle:a₁.drawn<=a₂.drawn):rL a a₁ r:=λi q hi=>h i q ai
theorem rL.right{r:aj}{es:Array cK}(h:rL a a₂ r)(h0:a.drawn<=a₁.drawn)(ht:a₁.tape=a.tape)(hw:Went H es a a₁ r r₁ er):rL a₁ a₂ r₁:=λi q hi=>by rw[ht,hw.tape,hw.drawn];have:=h (a₁.drawn-a.drawn+i) q ai;rw[show a.drawn+(a₁.drawn-a.drawn+i)=a₁.drawn+i by omega]at this;rw[this,Nat.add_assoc]
theorem Went.trans{r r₂:aj}{es aaV:Array cK}(h0:a.drawn<=a₁.drawn)(Zc:a₁.drawn<=a₂.drawn)(h1:Went H es a a₁ r r₁ er)(h2:Went H er a₁ a₂ r₁ r₂ aaV):Went H es a a₂ r r₂ aaV:=
 ⟨h2.rel,h2.tape.trans h1.tape,by rw[h2.drawn,h1.drawn];omega,λb hb=>(h2.hidden b hb).trans (h1.hidden b hb),λe he=>(h2.evs e he).elim (h1.evs e) .inr,λe he=>(h2.evin e he).elim (λhe=>(h1.evin e he).imp id λh x hx=>iR (h x hx) h2.grow) .inr,dm h1.grow h2.grow,
  λb hb h=>h2.eqk b hb λ_=>h1.eqk b hb h,λx hx=>⟨(h2.kept x (h1.kept x hx).2).1.trans (h1.kept x hx).1,(h2.kept x (h1.kept x hx).2).2⟩,
  λe he=>(h2.rov e he).elim (h1.rov e) (λh=>.inr λx h1' BF=>by
   cases hf:a.frozen? x with
   |false=>rfl
   |true=>have:=(h1.kept x hf).2;rw[h x h1' BF]at this;cases this),dm h1.growa h2.growa,h1.shp.trans h2.shp,h1.shpr.trans h2.shpr,h2.same.1.trans h1.same.1,h2.same.2.trans h1.same.2⟩
theorem Simu.bind{f:α->Sem β}(hx:Simu H P p x)(hf:∀v,p v->Simu H P q (f v)):Simu H P q (x >>= f):=by
 intro a r Ov es h;have h1:=hx a r Ov es h;have h1s:=hx a a Ov Ov ⟨rfl,λ_ _=>.inl rfl,λb hb=>⟨(h.hid b hb).1,_,(h.hid b hb).1,rfl⟩,h.objs,rfl,rfl⟩;rw[od,od];generalize x.runT P a Ov=X at h1 h1s;obtain⟨ra,ea⟩:=X;cases ra with
 |ok v a'=>
  obtain⟨hv,ht,hd,hr⟩:=h1;obtain⟨_,_,_,hs⟩:=h1s;obtain⟨rs,_,_,PY⟩:=hs (λ_ _ _=>rfl);have bY:Rel H a' a':=⟨rfl,λ_ _=>.inl rfl,λb hb=>⟨(PY.rel.hid b hb).1,_,(PY.rel.hid b hb).1,rfl⟩,PY.rel.objs,rfl,rfl⟩;have h2s:=hf v hv a' a' ea ea bY;have h2:=λr' er (hw:Went H es a a' r r' er)=>hf v hv a' r' ea er hw.rel;simp only;generalize (f v).runT P a' ea=Y at h2 h2s;obtain⟨rb,eb⟩:=Y;cases rb with
  |ok u a2=>obtain⟨hu,Zd,Il,_⟩:=h2s;refine⟨hu,Zd.trans ht,ai,λim=>?_⟩;obtain⟨r',er,e,hw⟩:=hr (im.left Il);rw[e];obtain⟨_,_,_,h3⟩:=h2 r' er hw;obtain⟨r2,Ze,e2,hw2⟩:=h3 (im.right hd ht hw);exact⟨r2,Ze,e2,hw.trans hd Il hw2⟩
  |halt hh a2=>
   cases hh with
   |panic u=>obtain⟨Zd,Il,_⟩:=h2s;refine⟨Zd.trans ht,ai,λim=>?_⟩;obtain⟨r',er,e,hw⟩:=hr (im.left Il);rw[e];obtain⟨_,_,h3⟩:=h2 r' er hw;obtain⟨r2,Ze,e2,hw2⟩:=h3 (im.right hd ht hw);exact⟨r2,Ze,e2,hw.trans hd Il hw2⟩
   |_=>exact h2s
 |halt hh a'=>
  cases hh with
  |panic u=>obtain⟨ht,hd,hr⟩:=h1;refine⟨ht,hd,λim=>?_⟩;obtain⟨r',er,e,hw⟩:=hr im;rw[e];exact⟨r',er,rfl,hw⟩
  |_=>exact h1
theorem Simu.mono(hx:Simu H P p x)(h:∀v,p v->p' v):Simu H P p' x:=by
 intro a r ea es hR;have h1:=hx a r ea es hR;generalize x.runT P a ea=X at h1⊢;obtain⟨ra,ea⟩:=X;cases ra with
 |ok v a'=>exact⟨h v h1.1,h1.2⟩
 |halt hh a'=>cases hh<;>exact h1
theorem Ox{r:aj}{x:aP}(h:BD a.heap[x.block]? r.heap[x.block]?):a.cell? x=r.cell? x:=by
 rcases h with h|⟨c,e,f,h1,h2⟩
 .simp[fG,h]
 .simp[fG,h1,h2]
theorem EF{r:aj}{x:aP}(h:BD a.heap[x.block]? r.heap[x.block]?)(hf:a.frozen? x=aw):r.frozen? x=aw:=by
 rcases h with h|⟨c,e,f,h1,h2⟩
 .simpa[World.frozen?,h]using hf
 .simp[World.frozen?,h2]
theorem BG{r:aj}(h:BD a.heap[b]? r.heap[b]?):a.shape? b=r.shape? b:=by
 rcases h with h|⟨c,e,f,h1,h2⟩
 .simp[World.shape?,h]
 .simp[World.shape?,h1,h2]
theorem Rel.cell{r:aj}(h:Rel H a r)(x:aP)(hx:H x.block):a.cell? x=ah:=by simp[fG,(h.hid _ hx).1,eh]
theorem EG{x:aP}{u:bq}{at_:Bool}{s:aP}(hs:s.spot.isSome=au):∃why,a.seen P s u x at_=.error why:=by unfold World.seen;simp only[hs,Bool.or_true,if_true];exact⟨_,rfl⟩
theorem Rel.far{r:aj}(h:Rel H a r)(x:aP)(at_:Bool):∃hh,a.farLoad P x at_=.error hh/\j8 hh=au:=by
 unfold World.farLoad;split
 .rename_i s u e;by_cases hx:H x.block
  .rw[(h.hid _ hx).1]at e;have e1:(⟨0,0,ae 0⟩:aP)=s:=(by injection e with e;injection e);obtain⟨why,hw⟩:=EG (P:=P) (a:=a) (x:=x) (u:=u) (at_:=at_) (s:=s) (by rw[←e1];rfl);simp only[World.viewLoad,hw];exact⟨_,rfl,rfl⟩
  .have:=h.objs _ hx _ e;cases this
 .refine⟨_,rfl,?_⟩;unfold World.noCell;split
  .rename_i e;by_cases hx:H x.block
   .rw[(h.hid _ hx).1]at e;cases e
   .have:=h.objs _ hx _ e;cases this
  .rfl
  .rfl
theorem Rel.agz{r:aj}(h:Rel H a r)(x:aP)(v:ay)(at_:Bool):∃hh,a.farStore P x v at_=.error hh/\j8 hh=au:=by
 unfold World.farStore;split
 .rename_i s u e;by_cases hx:H x.block
  .rw[(h.hid _ hx).1]at e;have e1:(⟨0,0,ae 0⟩:aP)=s:=(by injection e with e;injection e);obtain⟨why,hw⟩:=EG (P:=P) (a:=a) (x:=x) (u:=u) (at_:=at_) (s:=s) (by rw[←e1];rfl);simp only[World.viewStore,hw];by_cases ht:tight P P.depth u=au
   .simp only[ht];exact⟨_,rfl,rfl⟩
   .simp only[ht];exact⟨_,rfl,rfl⟩
  .have:=h.objs _ hx _ e;cases this
 .refine⟨_,rfl,?_⟩;unfold World.noCell;split
  .rename_i e;by_cases hx:H x.block
   .rw[(h.hid _ hx).1]at e;cases e
   .have:=h.objs _ hx _ e;cases this
  .rfl
  .rfl
theorem Rel.set{r:aj}(h:Rel H a r){x:aP}(hx:¬H x.block)(v:ay):Rel H (a.setCell x v) (r.setCell x v):=by
 have hg:∀(w:aj) b,(w.setCell x v).heap[b]? =if x.block=b then(w.heap[b]?).map (fun|aK c elem frozen=>aK (if x.spot.isSome then c else c.setIfInBounds x.off v) elem frozen|o=>o)else w.heap[b]? :=by intro w b;simp only[fF,Array.getElem?_modify];split<;>rfl
 have hn:∀b,H b->x.block≠b:=λb hb e=>hx (by rw[e];exact hb);refine⟨by simp[fF,h.size],λb hb=>?_,λb hb=>?_,λb hb o ho=>?_,h.os,h.output⟩
 .rw[hg,hg];split
  .rcases h.same b hb with h|⟨c,e,f,h1,h2⟩
   .exact .inl (by rw[h])
   .exact .inr ⟨_,e,f,by rw[h1];rfl,by rw[h2];rfl⟩
  .exact h.same b hb
 .rw[hg,hg,aU (hn b hb),aU (hn b hb)];exact h.hid b hb
 .rw[hg]at ho;split at ho
  .obtain⟨o',h1,rfl⟩:=mb.1 ho;have:=h.objs b hb o' h1;cases o'<;>simp_all [gI]
  .exact h.objs b hb o ho
theorem Rel.obj{r:aj}(h:Rel H a r)(hb:¬H b){o:Obj}(ho:gI o=au):Rel H {a with heap:=a.heap.setIfInBounds b o} {r with heap:=r.heap.setIfInBounds b o}:=by
 have hg:∀(w:aj) x,x≠b->(w.heap.setIfInBounds b o)[x]? =w.heap[x]? :=λw x hx=>gG (λe=>hx e.symm);have hb':∀x,H x->x≠b:=λx hx e=>hb (e▸hx);refine⟨by simp[h.size],λx hx=>?_,λx hx=>?_,λx hx o' hxo=>?_,h.os,h.output⟩
 .by_cases e:x=b
  .subst e;exact .inl (by simp[EH,h.size])
  .show BD (a.heap.setIfInBounds b o)[x]? (r.heap.setIfInBounds b o)[x]?;rw[hg a x e,hg r x e];exact h.same x hx
 .show(a.heap.setIfInBounds b o)[x]? =_/\∃o',(r.heap.setIfInBounds b o)[x]? =_/\_;rw[hg a x (hb' x hx),hg r x (hb' x hx)];exact h.hid x hx
 .by_cases e:x=b
  .subst e;have hlt:=(bF.1 hxo).1;have:(a.heap.setIfInBounds x o)[x]? =ae o:=iw (by simpa using hlt);rw[this]at hxo;exact(bj hxo)▸ho
  .have pw:(a.heap.setIfInBounds b o)[x]? =ae o':=hxo;rw[hg a x e]at pw;exact h.objs x hx o' pw
theorem Rel.lt{r:aj}(h:Rel H a r)(hb:H b):b<r.heap.size:=by rw[←h.size];exact(bF.1 (h.hid b hb).1).1
theorem Rel.new{r:aj}(h:Rel H a r){o:Obj}(ho:gI o=au):Rel H {a with heap:=a.heap.push o} {r with heap:=r.heap.push o}:=by
 have hg:∀(w:aj) x,x<w.heap.size->(w.heap.push o)[x]? =w.heap[x]? :=λw x hx=>by rw[dz];simp[show x≠w.heap.size by omega]
 refine⟨by simp[h.size],λx hx=>?_,λx hx=>?_,λx hx o' hxo=>?_,h.os,h.output⟩
 .show BD (a.heap.push o)[x]? (r.heap.push o)[x]?;rw[dz,dz,h.size];split
  .exact .inl rfl
  .exact h.same x hx
 .show(a.heap.push o)[x]? =_/\∃o',(r.heap.push o)[x]? =_/\_;rw[hg a x (by rw[h.size];exact h.lt hx),hg r x (h.lt hx)];exact h.hid x hx
 .have pw:(a.heap.push o)[x]? =ae o':=hxo;rw[dz]at pw;split at pw
  .exact(bj pw)▸ho
  .exact h.objs x hx o' pw
theorem jr{r:aj}(h:Rel H a r):∀b,¬H b->(b<a.heap.size->a.heap[b]? =r.heap[b]?)->a.heap[b]? =r.heap[b]? :=λb _ hb=>by
 by_cases e:b<a.heap.size
 .exact hb e
 .rw[np ai,np (by rw[←h.size];omega)]
theorem kF{r:aj}(h:Rel H a r)(es:Array cK):Went H es a a r r es:=⟨h,rfl,aJ,λ_ _=>rfl,λ_ h=>.inl h,λ_ h=>.inl h,bJ _,jr h,λx hx=>⟨rfl,hx⟩,λ_ h=>.inl h,bJ _,eG _,eG _,rfl,rfl⟩
theorem kA{w:aj}{x:aP}(h:w.cell? x=ae v):x.block<w.heap.size:=by
 unfold fG at h;cases e:w.heap[x.block]? with
 |none=>rw[e]at h;simp at h
 |some o=>exact(bF.1 e).1
theorem simu_pure{v:α}(h:p v):Simu H P p (pure v):=λ_ r _ es hR=>⟨h,rfl,bJ _,λ_=>⟨r,es,rfl,kF hR es⟩⟩
theorem dead_halt(hd:j8 h=au):jq H P (.halt h:Sem α):=λ_ _ _ _=>⟨_,_,_,rfl,hd⟩
theorem simu_panic(v:ay):Simu H P p (.halt (.panic v):Sem α):=λ_ r _ es hR=>⟨rfl,bJ _,λ_=>⟨r,es,rfl,kF hR es⟩⟩
theorem simu_program:Simu H P (· =P) program:=λ_ r _ es hR=>⟨rfl,rfl,bJ _,λ_=>⟨r,es,rfl,kF hR es⟩⟩
theorem EI{x:aP}{m:Mode}(hx:H x.block):jq H P (load x m):=by intro a r ea hR;obtain⟨hh,e,hd⟩:=hR.far (P:=P) x (m==.atomic);simp only[load,gJ,hR.cell x hx,e];exact⟨_,_,_,rfl,hd⟩
theorem yt(x:aP)(m:Mode):Simu H P (λ_=>True) (load x m):=by
 by_cases hx:H x.block
 .exact(EI hx).p5
 .intro a r ea es hR;have e:=Ox (hR.same _ hx);simp only[load,gJ,←e];cases hc:a.cell? x with
  |some v=>exact⟨trivial,rfl,bJ _,λ_=>⟨_,_,rfl,hR,rfl,aJ,λ_ _=>rfl,λe he=>(jf.1 he).imp id (λh=>by subst h;exact hx),λe he=>(jf.1 he).imp id (λh y hy=>by subst h;cases hy;rw[←hR.size];exact kA hc),bJ _,jr hR,λy hy=>⟨rfl,hy⟩,λe he=>(jf.1 he).imp id (λh y hy hw=>by subst h;cases hw),bJ _,eG _,eG _,rfl,rfl⟩⟩
  |none=>
   obtain⟨hh,e,hd⟩:=hR.far (P:=P) x (m==.atomic);simp only[e];cases hh with
   |panic v=>cases hd
   |_=>exact hd
theorem oC(x:aP)(v:ay)(m:Mode):Simu H P (λ_=>True) (store x v m):=by
 intro a r ea es hR;have far:∀y,Match H (λ_:Unit=>True) a r es (match a.farStore P x v (m==.atomic)with
     |.ok (w,xh)=>(Sem.pure ()).runT P w (ea++xh.toArray.map (⟨.cell ·,au,m==.atomic⟩))
     |.error h=>(.halt h a,ea)) y:=by
  intro y;obtain⟨hh,e,hd⟩:=hR.agz (P:=P) x v (m==.atomic);simp only[e];cases hh with
  |panic v=>cases hd
  |_=>exact hd
 have key:Match H (λ_:Unit=>True) a r es (match a.cell? x with
   |some _=>if a.frozen? x then(.halt (.unsupported (.unsafePointer "a write to bytes that a string shares")) a,ea)else(Sem.pure ()).runT P (a.setCell x v) (ea.push ⟨.cell x,au,m==.atomic⟩)
   |none=>match a.farStore P x v (m==.atomic)with
    |.ok (w,xh)=>(Sem.pure ()).runT P w (ea++xh.toArray.map (⟨.cell ·,au,m==.atomic⟩))
    |.error h=>(.halt h a,ea)) (match r.cell? x with
   |some _=>if r.frozen? x then(.halt (.unsupported (.unsafePointer "a write to bytes that a string shares")) r,es)else(Sem.pure ()).runT P (r.setCell x v) (es.push ⟨.cell x,au,m==.atomic⟩)
   |none=>match r.farStore P x v (m==.atomic)with
    |.ok (w,xh)=>(Sem.pure ()).runT P w (es++xh.toArray.map (⟨.cell ·,au,m==.atomic⟩))
    |.error h=>(.halt h r,es)):=by
  by_cases hx:H x.block
  .simp only[hR.cell x hx];exact far _
  .have e:=Ox (hR.same _ hx);simp only[←e];cases hc:a.cell? x with
   |some aiI=>
    by_cases hf:a.frozen? x=au
    .simp only[hf,if_true];exact rfl
    .have hf0:a.frozen? x=aw:=(by simpa using hf);have hf1:=EF (hR.same _ hx) hf0;simp only[hf,hf1,if_false,iy];refine⟨trivial,rfl,bJ _,λ_=>⟨_,_,rfl,hR.set hx v,rfl,jM,λb hb=>?_,λe he=>(jf.1 he).imp id (λh=>by subst h;exact hx),λe he=>(jf.1 he).imp id (λh y hy=>by subst h;cases hy;simp only[fF,xi];rw[←hR.size];exact kA hc),jM,λb hb Lj=>?_,λy hy=>⟨sQ _ _ _ _ (λe=>by subst e;rw[hf0]at hy;cases hy),by rw[World.frozen?_setCell];exact hy⟩,λe he=>(jf.1 he).imp id (λh y hy hw=>by subst h;cases hy;exact hf0),jM,Ou _ _ _,Ou _ _ _,rfl,rfl⟩⟩;rotate_left
     .simp only[fF,Array.getElem?_modify];rw[jr hR b hb Lj]
     simp only[fF,Array.getElem?_modify];rw[aU (λe=>hx (by rw[e];exact hb))]
   |none=>exact far _
 cases v<;>first|exact key|exact rfl
theorem mf{o:Obj}(ho:gI o=au):Simu H P (λ_=>True) (newObj o):=by
 intro a r ea es hR;have hn:=hR.new ho;have e:a.heap.size=r.heap.size:=hR.size;refine⟨trivial,rfl,bJ _,λ_=>⟨{r with heap:=r.heap.push o},es,by rw[e];rfl,hn,rfl,aJ,λb hb=>?_,λ_ h=>.inl h,λ_ h=>.inl h,aJ,λb hb Lj=>?_,λx hx=>?_,λ_ h=>.inl h,aJ,IG _ _,IG _ _,rfl,rfl⟩⟩;rotate_left
 .show(a.heap.push o)[b]? =(r.heap.push o)[b]?;rw[dz,dz,e,jr hR b hb Lj]
 .have hlt:x.block<a.heap.size:=by
   unfold World.frozen? at hx;cases e:a.heap[x.block]? with
   |none=>rw[e]at hx;simp at hx
   |some o=>exact(bF.1 e).1
  have ha:(a.heap.push o)[x.block]? =a.heap[x.block]? :=by rw[dz,aU ai]
  have hr:(r.heap.push o)[x.block]? =r.heap[x.block]? :=by rw[dz,aU ai]
  refine⟨?_,?_⟩
  .simp only[fG,hr]
  .rw[←hx];simp only[World.frozen?,ha]
 have:=hR.lt hb;show(r.heap.push o)[b]? =_;rw[dz];simp[show b≠r.heap.size by omega]
theorem yu{m:Mark}(hm:IE H ⟨.mark m,aw,au⟩):Simu H P (λ_=>True) (mark m):=λ_ r _ es hR=>⟨trivial,rfl,bJ _,λ_=>⟨r,_,rfl,hR,rfl,aJ,λ_ _=>rfl,λe he=>(jf.1 he).imp id (λh=>by subst h;exact hm),λe he=>(jf.1 he).imp id (λh y hy=>zC),bJ _,jr hR,λy hy=>⟨rfl,hy⟩,λe he=>(jf.1 he).imp id (λh y hy=>zC),bJ _,eG _,eG _,rfl,rfl⟩⟩
theorem kG(q:iz):Simu H P (λ_=>True) (choose q):=by
 intro a r ea es hR;by_cases hq:q.forced=au
 .simp only[choose,gJ,hq,if_true];exact simu_pure (P:=P) (p:=λ_=>True) trivial a r ea es hR
 .simp only[choose,gJ,hq,if_false,iy];refine⟨trivial,rfl,Nat.le_succ _,λim=>⟨{r with drawn:=r.drawn+1},es,?_,⟨hR.size,hR.same,hR.hid,hR.objs,hR.os,hR.output⟩,rfl,?_,λ_ _=>rfl,λ_ h=>.inl h,λ_ h=>.inl h,bJ _,jr hR,λy hy=>⟨rfl,hy⟩,λ_ h=>.inl h,bJ _,eG _,eG _,rfl,rfl⟩⟩
  .have:=im 0 q aJ;simp only[Nat.add_zero]at this;rw[this]
  .show r.drawn+1=r.drawn+(a.drawn+1-a.drawn);omega
theorem simu_shape{k:Option (bq×Nat)->Sem α}(h:¬H b->∀s,Simu H P p (k s))(hd:H b->jq H P (k ah)):Simu H P p (shape b >>= k):=by
 by_cases hx:H b
 .intro a r ea es hR;have e:a.shape? b=ah:=by simp[World.shape?,(hR.hid b hx).1,eh]
  have e2:∀w es,(shape b >>= k).runT P w es=(k (w.shape? b)).runT P w es:=λ_ _=>rfl;rw[e2,e];exact(hd hx).match hR _ _ _
 .intro a r ea es hR;have e2:∀w es,(shape b >>= k).runT P w es=(k (w.shape? b)).runT P w es:=λ_ _=>rfl;rw[e2,e2,BG (hR.same _ hx)];exact h hx _ a r ea es hR
theorem IH{x:aP}{k:Bool->Sem α}(h:¬H x.block->Simu H P p (k aw))(ht:¬H x.block->jq H P (k au))(hd:H x.block->jq H P (k aw)):Simu H P p (frozen x >>= k):=by
 have e2:∀w es,(frozen x >>= k).runT P w es=(k (w.frozen? x)).runT P w es:=λ_ _=>rfl;by_cases hx:H x.block
 .intro a r ea es hR;have e:a.frozen? x=aw:=by simp[World.frozen?,(hR.hid _ hx).1,eh]
  rw[e2,e];exact(hd hx).match hR _ _ _
 .intro a r ea es hR;rw[e2,e2];cases hf:a.frozen? x with
  |true=>exact(ht hx).match hR _ _ _
  |false=>rw[EF (hR.same _ hx) hf];exact h hx a r ea es hR
theorem mg{k:Obj->Sem α}(h:¬H b->∀s,gI s=au->Simu H P p (k s))(hd:H b->jq H P (k eh)):Simu H P p (getObj b >>= k):=by
 have e2:∀w es,(getObj b >>= k).runT P w es=match w.heap[b]? with
  |some (aK ..)=>(.halt (.stuck "getObj: a row of cells") w,es)
  |some o=>(k o).runT P w (es.push ⟨.obj b,aw,o.isChan⟩)
  |none=>(.halt (.stuck "getObj: no such block") w,es):=λw es=>by
  show gJ P (.getObj b λo=>k o) w es=_;simp only[gJ];rfl
 by_cases hx:H b
 .intro a r ea es hR;rw[e2,(hR.hid _ hx).1];exact(hd hx).match hR _ _ _
 .intro a r ea es hR;have oD:∀c e f,a.heap[b]? =ae (aK c e f)->Match H p a r es ((getObj b >>= k).runT P a ea) ((getObj b >>= k).runT P r es):=λc e f ho=>by rw[e2,ho];exact rfl
  rcases hR.same _ hx with hsame|⟨c,e,f,h1,_⟩
  rotate_left
  .exact oD _ _ _ h1
  rw[e2,e2,←hsame];cases ho:a.heap[b]? with
  |none=>exact rfl
  |some o=>
   have key:Match H p a r es ((k o).runT P a (ea.push ⟨.obj b,aw,o.isChan⟩)) ((k o).runT P r (es.push ⟨.obj b,aw,o.isChan⟩)):=by
    have h1:=h hx o (hR.objs b hx o ho) a r (ea.push ⟨.obj b,aw,o.isChan⟩) (es.push ⟨.obj b,aw,o.isChan⟩) hR;generalize (k o).runT P a (ea.push ⟨.obj b,aw,o.isChan⟩)=X at h1;have hw:∀a' r' er,Went H (es.push ⟨.obj b,aw,o.isChan⟩) a a' r r' er->Went H es a a' r r' er:=λa' r' er hw=>⟨hw.rel,hw.tape,hw.drawn,hw.hidden,λe he=>by
     rcases hw.evs e he with he|he
     .exact(jf.1 he).imp id λh=>by subst h;exact .inl hx
     .exact .inr he,λe he=>by
     rcases hw.evin e he with he|he
     .exact Zf
     .exact .inr he,hw.grow,hw.eqk,hw.kept,λe he=>by
     rcases hw.rov e he with he|he
     .exact Zf
     .exact .inr he,hw.growa,hw.shp,hw.shpr,hw.same⟩
    obtain⟨rx,ex⟩:=X;cases rx with
    |ok v a'=>exact⟨h1.1,h1.2.1,h1.2.2.1,λim=>(h1.2.2.2 im).imp λr' ⟨er,e,h⟩=>⟨er,e,hw _ _ _ h⟩⟩
    |halt hh a'=>
     cases hh with
     |panic v=>exact⟨h1.1,h1.2.1,λim=>(h1.2.2 im).imp λr' ⟨er,e,h⟩=>⟨er,e,hw _ _ _ h⟩⟩
     |_=>exact h1
   cases o<;>first|exact rfl|exact key
theorem lZ(b:Nat):Simu H P (λ_=>True) (numberAt b):=by
 by_cases hx:H b
 .intro a r ea es hR;obtain⟨h1,o,h2,h3⟩:=hR.hid b hx;have e2:∀(w:aj) es,w.shape? b=ah->(numberAt b).runT P w es=(getObj b >>= λo=>match o with
    |.number a lost=>pure (ae (a,lost))
    |_=>pure ah:Sem (Option (aP×Bool))).runT P w es:=λw es e=>by
   show gJ P (if(w.shape? b).isSome=au then _ else _) w es=_;rw[e];rfl
  have ea':(numberAt b).runT P a ea=(.ok ah a,ea.push ⟨.obj b,aw,aw⟩):=by
   rw[e2 a ea (by simp[World.shape?,h1,eh])];show gJ P (.getObj b λo=>match o with
    |.number a lost=>pure (ae (a,lost))
    |_=>pure ah) a ea=_
   simp only[gJ,h1];rfl
  have er':∃er,(numberAt b).runT P r es=(.ok ah r,er)/\(∀e∈er,e∈es\/IE H e)/\(∀e∈er,e∈es\/∀x,e.loc=.cell x->x.block<r.heap.size)/\∀e∈er,e∈es\/∀x,e.loc=.cell x->e.write=au->a.frozen? x=aw:=by
   cases hs:r.shape? b with
   |some s=>refine⟨es,?_,λe he=>.inl he,λe he=>.inl he,λe he=>.inl he⟩;show gJ P (if(r.shape? b).isSome=au then _ else _) r es=_;rw[hs];rfl
   |none=>
    rw[e2 r es hs];refine⟨es.push ⟨.obj b,aw,o.isChan⟩,?_,λe he=>(jf.1 he).imp id (λh=>by subst h;exact .inr rfl),λe he=>(jf.1 he).imp id (λh y hy=>zC),λe he=>(jf.1 he).imp id (λh y hy=>zC)⟩;show gJ P (.getObj b λo=>match o with
     |.number a lost=>pure (ae (a,lost))
     |_=>pure ah) r es=_
    simp only[gJ,h2];cases o<;>first|rfl|(simp[World.shape?,h2]at hs;done)|cases h3
  obtain⟨er,h4,h5,h6,h7⟩:=er';rw[ea'];exact⟨trivial,rfl,bJ _,λ_=>⟨r,er,h4,hR,rfl,aJ,λ_ _=>rfl,h5,h6,bJ _,jr hR,λy hy=>⟨rfl,hy⟩,h7,bJ _,eG _,eG _,rfl,rfl⟩⟩
 .unfold numberAt;refine simu_shape (λ_ s=>?_) (λh=>aT h hx);split
  .exact simu_pure trivial
  .refine mg (λ_ o _=>?_) (λh=>aT h hx);split<;>exact simu_pure trivial
theorem zD{x:aP}(hx:H x.block):jq H P (noView x):=by
 intro a r ea hR;have hs:a.shape? x.block=ah:=by simp[World.shape?,(hR.hid _ hx).1,eh]
 have:(noView x).runT P a ea=(.halt (.unsupported (.unsafePointer "memory seen as another type")) a,ea.push ⟨.obj x.block,aw,aw⟩):=by
  show gJ P (Sem.bind (if(a.shape? x.block).isSome=au then _ else _) _) a ea=_;rw[hs];show gJ P (.getObj x.block λo=>Sem.bind (match o with
    |.view a t=>pure (ae (a,t))
    |_=>pure ah) λv=>if v.isSome=au then unsupported (.unsafePointer "memory seen as another type")else pure ()) a ea=_
  simp only[gJ,(hR.hid _ hx).1];rfl
 exact⟨_,_,_,this,rfl⟩
theorem sR(x:aP):Simu H P (λ_=>True) (noView x):=by
 by_cases hx:H x.block
 .exact(zD hx).p5
 .unfold noView viewAt;refine Simu.bind (p:=λ_=>True) (simu_shape (λ_ s=>?_) (λh=>aT h hx)) λv _=>?_
  .split
   .exact simu_pure trivial
   .refine mg (λ_ o _=>?_) (λh=>aT h hx);split<;>exact simu_pure trivial
  .split
   .exact(dead_halt rfl).p5
   .exact simu_pure trivial
end
section
variable{P:bh}
abbrev ST(H:Nat->Prop)(P:bh)(x:Sem α):Prop:=Simu H P (λ_=>True) x
structure Hq(p:Prop):Prop where
 o:p
theorem rg{p q:Prop}(h:q)(t:Hq q->p:=by intro hq;simp only[j9,fO,gK,Nat.reduceAdd,eB,List.range,List.range.loop];exact hq.o):p:=t ⟨h⟩
theorem pt{p q:Prop}(h:q)(t:Hq q->p:=by intro hq;simp only[Act.put,oF,sS,uX];exact hq.o):p:=t ⟨h⟩
theorem sA{p:Prop}(h:p:=by first|exact st_pure _|exact cF _|exact kB _|exact simu_program.st|exact yt _ _|exact oC _ _ _|exact kG _|exact lZ _|exact sR _|exact js _|exact fo _|exact kP _|exact jN _|exact BH _|exact xj _ _|exact l6 _ _ _|exact vM _ _|exact zE _ _ _|exact EJ _ _|exact p6 _ _|exact xk _ _ _|exact dY _|exact BI _ _ _ _|exact BJ _|exact II _|exact yv _|exact Tj _|exact oh _|exact LC _|exact eK _|exact zF _ _|exact Dm _ _|exact sU _|exact dM λ_=>by simp|assumption):p:=h
theorem sC{p:Prop}(h:p:=by first|exact st_pure _|exact cF _|exact dM (λ_=>aJ)|exact kB _|exact simu_program.st|exact yt _ _|exact oC _ _ _|exact kG _|exact lZ _|exact sR _|exact yu trivial|exact mf rfl):p:=h
theorem sT{p:Prop}(h:p:=by(repeat' (with_reducible first|exact sA|(refine Simu.then (p:=λ_=>True) ?_ λ_=>?_)|(refine ite_st ?_ ?_)|dsimp only|split))):p:=h
theorem uS{p:Prop}(h:p:=by intro e he;have hm:=mem_listed he;simp[go_sem]at hm):p:=h
theorem st_pure(a:α):ST H P (pure a:Sem α):=simu_pure trivial
theorem cF(s:String):ST H P (stuck s:Sem α):=(dead_halt rfl).p5
theorem dead_unsup(h:∀g,u≠.initOrder g):jq H P (unsupported u:Sem α):=dead_halt (by cases u<;>first|rfl|exact aT rfl (h _))
theorem dM(h:∀g,u≠.initOrder g):ST H P (unsupported u:Sem α):=(dead_unsup h).p5
theorem kB(v:ay):ST H P (goPanic v:Sem α):=simu_panic v
theorem Simu.then{q:β->Prop}{f:α->Sem β}(hx:Simu H P p x)(hf:∀v,Simu H P q (f v)):Simu H P q (x >>= f):=hx.bind λv _=>hf v
theorem ite_st{c:Prop} [Decidable c]{y:Sem α}(hx:ST H P x)(hy:ST H P y):ST H P (if c then x else y):=by split<;>assumption
theorem js(t:bq):ST H P (typeInfo t):=by unfold typeInfo;refine simu_program.then λ_=>?_;split<;>(exact sC)
theorem fo(t:bq):ST H P (underlying t):=by unfold underlying;refine simu_program.then λ_=>?_;split<;>(exact sC)
theorem iY(t:bq):Simu H P (λd=>P.underlying t=ae d) (underlying t):=by
 unfold underlying;refine simu_program.bind λP' h=>?_;subst h;split
 .rename_i e;exact simu_pure e
 .exact(dead_halt rfl).p5
theorem IJ(t:bq):Simu H P (λd=>P.info? t=ae d) (typeInfo t):=by
 unfold typeInfo;refine simu_program.bind λP' h=>?_;subst h;split
 .rename_i e;exact simu_pure e
 .exact(dead_halt rfl).p5
theorem kP(t:bq):ST H P (zeroValue t):=by unfold zeroValue;refine(js t).then λ_=>?_;split<;>(exact sC)
theorem jN(t:bq):ST H P (sizeOf t):=(js t).then λ_=>st_pure _
theorem BH(t:bq):ST H P (isAgg t):=by unfold isAgg;refine(fo t).then λ_=>?_;split<;>(exact sC)
theorem p7(a:aP):∀(n i:Nat) (acc:Array ay),ST H P (loadCellsFrom a i n acc)
 |0,_,_=>st_pure _
 |n+1,i,acc=>(yt _ _).then λ_=>p7 a n (i+1) _
theorem xj(a:aP)(n:Nat):ST H P (loadCells a n):=p7 a n 0 #[]
theorem l6(a:aP):∀(vs:List ay) (i:Nat),ST H P (storeCells a vs i)
 |[],_=>st_pure _
 |v::rest,i=>(oC _ _ _).then λ_=>l6 a rest (i+1)
theorem vM(t:bq)(a:aP):ST H P (loadVar t a):=by
 unfold loadVar;refine(BH t).then λ_=>?_;split
 .exact(jN t).then λ_=>(xj _ _).then λ_=>st_pure _
 ·(exact sC)
theorem zE(t:bq)(a:aP)(v:ay):ST H P (storeVar t a v):=by
 unfold storeVar;refine(jN t).then λ_=>?_;split
 .exact(cF _).then λ_=>l6 _ _ _
 .exact(st_pure _).then λ_=>l6 _ _ _
theorem EJ(t:bq)(cs:Array ay):ST H P (newRow t cs):=(mf rfl).then λ_=>st_pure _
theorem p6(t:bq)(v:ay):ST H P (newVar t v):=EJ _ _
theorem EK(t:bq):ST H P (elemOf t):=by unfold elemOf;refine(fo t).then λ_=>?_;split<;>(exact sC)
theorem xk(t:bq)(cs:Array ay)(off:Nat):ST H P (part t cs off):=by
 unfold part;refine(BH t).then λ_=>?_;split
 .exact(jN t).then λ_=>st_pure _
 .split<;>(exact sC)
theorem dY(e:RuntimeError):ST H P (runtimePanic e:Sem α):=by
 unfold runtimePanic;refine simu_program.then λ_=>?_;cases e with
 |typeAssertion i c a m=>exact(EK _).then λ_=>(p6 _ _).then λ_=>kB _
 |panicNil=>exact(EK _).then λ_=>(p6 _ _).then λ_=>kB _
 |_=>exact kB _
theorem BI(k:IntKind)(x y:Int)(c:BoundsCode):ST H P (boundsPanic k x y c:Sem α):=by
 unfold boundsPanic;simp only;split
 .exact((kG _).then λ_=>st_pure _:ST H P _).then λ_=>dY _
 .exact(st_pure _).then λ_=>dY _
theorem BJ(v:ay):ST H P (asIntOf v):=by unfold asIntOf;split<;>(exact sC)
theorem II(v:ay):ST H P (asInt v):=(BJ v).then λ_=>st_pure _
theorem yv(v:ay):ST H P (asBool v):=by unfold asBool;split<;>(exact sC)
theorem Tj(v:ay):ST H P (asAgg v):=by unfold asAgg;split<;>(exact sC)
theorem oh(v:ay):ST H P (asAddr v):=by unfold asAddr;split<;>first|(exact sC)|exact dY _
theorem LC(n:Nat):ST H P (askRoom n):=by unfold askRoom;split<;>(exact sC)
theorem eK(a:aP):ST H P (behindNumber a):=(lZ _).then λ_=>st_pure _
theorem zF(a:aP)(lost:Bool):ST H P (asNumber a lost):=(mf rfl).then λ_=>st_pure _
theorem bind_assoc'(x:Sem α)(f:α->Sem β)(g:β->Sem γ):(x.bind f).bind g=x.bind λa=>(f a).bind g:=by induction x<;>(simp only[Sem.bind];try(first|rfl|(congr 1;try(funext z;apply_assumption))|skip)) <;>first|rfl|assumption|(funext z;rename_i ih;exact ih z)|skip
theorem bind_pure'(x:Sem α):x.bind .pure=x:=by induction x<;>(simp only[Sem.bind];try(first|rfl|(congr 1;try(funext z;apply_assumption))|skip)) <;>first|rfl|assumption|(funext z;rename_i ih;exact ih z)|skip
instance:LawfulMonad Sem:=LawfulMonad.mk' Sem (id_map:=λx=>bind_pure' x) (pure_bind:=λ_ _=>rfl) (bind_assoc:=λx f g=>bind_assoc' x f g)
theorem uI(f:δ->γ->Sem δ)(hf:∀y x,ST H P (f y x)):∀(l:List γ) (y:δ),ST H P (l.foldlM f y)
 |[],_=>st_pure _
 |x::l,y=>by rw[List.foldlM_cons];exact(hf y x).then λ_=>uI f hf l _
theorem LD(f:γ->Sem δ)(hf:∀x,ST H P (f x))(xs:Array γ):ST H P (xs.mapM f):=by rw[Array.mapM_eq_foldlM,←Array.foldlM_toList];exact uI _ (λy x=>(hf x).then λ_=>st_pure _) _ _
end
section
variable{P:bh}
theorem IK{k:Option (aP×bq)->Sem α}(h:¬H b->∀v,Simu H P p (k v))(hd:H b->jq H P (k (ae (⟨0,0,ae 0⟩,0)))):Simu H P p (viewAt b >>= k):=by
 by_cases hx:H b
 .intro a r ea es hR;have hs:a.shape? b=ah:=by simp[World.shape?,(hR.hid _ hx).1,eh]
  have:(viewAt b >>= k).runT P a ea=(k (ae (⟨0,0,ae 0⟩,0))).runT P a (ea.push ⟨.obj b,aw,aw⟩):=by
   show gJ P (Sem.bind (if(a.shape? b).isSome=au then _ else _) _) a ea=_;rw[hs];show gJ P (.getObj b λo=>Sem.bind (match o with
     |.view a t=>pure (ae (a,t))
     |_=>pure ah) k) a ea=_
   simp only[gJ,(hR.hid _ hx).1];rfl
  rw[this];exact(hd hx).match hR _ _ _
 .refine Simu.then (p:=λ_=>True) ?_ λv=>h hx v;unfold viewAt;refine simu_shape (λ_ s=>?_) (λh=>aT h hx);split
  .exact st_pure _
  .refine mg (λ_ o _=>?_) (λh=>aT h hx);split<;>exact st_pure _
theorem iZ(a:aP):ST H P (byteOf a):=by
 unfold byteOf;split
 .exact st_pure _
 .refine simu_program.then λp=>?_;by_cases hx:H a.block
  .exact(zD hx).bind.p5
  .refine(sR a).then λ_=>simu_shape (λ_ s=>?_) (λh=>aT h hx);split
   .simp only;split
    .exact st_pure _
    .split
     .exact st_pure _
     .exact cF _
   .exact cF _
theorem PZ(a:aP)(c b:Nat):ST H P (partAt a c b):=(iZ a).then λ_=>(iZ _).then λ_=>st_pure _
theorem Dm(a:aP)(f:Field):ST H P (fieldPlace a f):=by
 unfold fieldPlace;refine(jN _).then λ_=>?_;split
 .exact PZ _ _ _
 .exact st_pure _
theorem kQ(a:Array bq)(t:bq)(x y:ay):ST H P (Builtin.unsafeAdd_ a t #[x,y]):=by
 have rest:∀(ptr:Option aP) (n:Int),ST H P (match ptr with
   |some a=>do
    let __x←shape a.block;match __x with
     |some (e,cells)=>do
      let p←program;match cellAtBytes p p.depth e (cells / p.cellsOf e) a.off n with
       |some off=>pure (Value.pointer (ae {block:=a.block,off:=off,spot:=a.spot}))
       |none=>unsupported (Unsupported.unsafePointer "Add")
     |x=>unsupported (Unsupported.unsafePointer "Add")
   |x=>unsupported (Unsupported.unsafePointer "Add"):Sem ay):=λptr n=>by
  split
  .refine simu_shape (λ_ s=>?_) (λ_=>dead_halt rfl);split
   .refine simu_program.then λp=>?_;split
    .exact st_pure _
    .exact dM λ_=>aJ
   .exact dM λ_=>aJ
  .exact dM λ_=>aJ
 cases x with
 |pointer ptr=>
  show ST H P ((asInt y).bind _);refine(II y).then λn=>?_;simp only;split
  .split
   .refine IK (λ_ v=>?_) (λ_=>dead_halt rfl);split
    .exact(dM λ_=>aJ).then λ_=>st_pure _
    .exact st_pure _
   .refine(dM λ_=>aJ).then λ_=>?_;split
    .exact(dM λ_=>aJ).then λ_=>rest _ _
    .exact rest _ _
  .split
   .exact(dM λ_=>aJ).then λ_=>rest _ _
   .exact rest _ _
 |_=>exact cF _
end
section
variable{P:bh}
theorem zG(op:BinOp)(k:IntKind)(x y:Int):ST H P (Op.intArith op k x y):=by unfold Op.intArith;split<;>(exact sC)
theorem P0(op:BinOp)(k:IntKind)(x y:Int):ST H P (Op.intDiv op k x y):=by
 unfold Op.intDiv;split
 .exact dY _
 .split<;>(exact sC)
theorem BK(op:BinOp)(k:IntKind)(x y:Int):ST H P (Op.intBits op k x y):=by unfold Op.intBits;simp only;split<;>(exact sC)
theorem Tk(op:BinOp)(k k':IntKind)(x y:Int):ST H P (Op.shift op k x k' y):=by
 unfold Op.shift;split
 .exact dY _
 .simp only;split<;>(exact sC)
theorem P5(op:BinOp)(x y:Int):ST H P (Op.intCmp op x y):=by unfold Op.intCmp;split<;>(exact sC)
theorem uY(op:BinOp)(k:FloatKind)(x y:Nat):ST H P (Op.floatArith op k x y):=by
 have rest:∀result:Option Nat,ST H P (match result with
   |some r=>pure (Value.float k r)
   |none=>do pure (Value.float k (←choose (.nanBits k x y))):Sem ay):=λr=>by
  cases r with
  |some r=>exact st_pure _
  |none=>exact(kG _).then λ_=>st_pure _
 unfold Op.floatArith;simp only;split<;>exact Simu.then (p:=λ_=>True) (by(exact sC)) λr=>rest r
theorem zH(op:BinOp)(k:FloatKind)(x y:Nat):ST H P (Op.floatCmp op k x y):=by unfold Op.floatCmp;simp only;split<;>(exact sC)
theorem sV(op:BinOp)(x y:ByteArray):ST H P (Op.stringOp op x y):=by unfold Op.stringOp;simp only;split<;>(first|(exact sC)|(split<;>first|(exact sC)|exact dM λ_=>aJ))
theorem xl(a b:aP):ST H P (Op.twoPlaces a b):=by
 unfold Op.twoPlaces;refine simu_program.then λp=>?_;simp only;split
 .exact(dM λ_=>aJ).then λ_=>(iZ _).then λ_=>(iZ _).then λ_=>st_pure _
 .exact(iZ _).then λ_=>(iZ _).then λ_=>st_pure _
theorem LG(k:IntKind)(a b:aP):ST H P (Op.addrSub k a b):=(xl a b).then λ_=>st_pure _
theorem LH(op:BinOp)(a b:aP):ST H P (Op.addrCmp op a b):=by unfold Op.addrCmp;refine(xl a b).then λx=>?_;obtain⟨x,y⟩:=x;simp only;split<;>first|(exact sC)|exact dM λ_=>aJ
theorem LI(k:IntKind)(a:aP)(n:Int):ST H P (Op.addrMod k a n):=by
 unfold Op.addrMod;refine simu_shape (λ_ s=>?_) (λ_=>dead_halt rfl);split
 .refine(js _).then λi=>?_;simp only;split
  .exact(dM λ_=>aJ).then λ_=>(iZ _).then λ_=>st_pure _
  .exact(iZ _).then λ_=>st_pure _
 .exact dM λ_=>aJ
theorem sX(t:bq)(x y:ay):ST H P (movedNumber t x y):=by
 have rest:ST H P (match x with
   |aI (ae n)=>do
    let(a,lost)←behindNumber n;match←Builtin.unsafeAdd_ #[] t #[aI (ae a),y]with
    |aI (ae b)=>asNumber b lost
    |v=>pure v
   |_=>Builtin.unsafeAdd_ #[] t #[x,y]:Sem ay):=by
  split
  .refine(eK _).then λ⟨a,lost⟩=>?_;refine(kQ _ _ _ _).then λv=>?_;split
   .exact zF _ _
   .exact st_pure _
  .exact kQ _ _ _ _
 unfold movedNumber;refine(fo t).then λd=>?_;simp only;split
 .split
  .exact(dM λ_=>aJ).then λ_=>rest
  .exact rest
 .split
  .exact(dM λ_=>aJ).then λ_=>rest
  .exact rest
theorem Am(t:bq)(x y:ay):ST H P (movedPointer t x y):=by
 unfold movedPointer;simp only;split
 .refine(lZ _).then λv=>?_;split
  .exact(dM λ_=>aJ).then λ_=>kQ _ _ _ _
  .exact kQ _ _ _ _
 .exact kQ _ _ _ _
theorem BL(d:Nat)(t:bq)(x y:ay)(h:Bw P t=au)(hp:Bz P t=au->x=aI ah\/y=aI ah):ST H P (Op.equalIn (d+1) t x y):=by
 unfold Op.equalIn;refine(iY t).bind λde hde=>?_;unfold Bw at h;unfold Bz at hp;rw[hde]at h hp;split;all_goals first
  |(exact sC)
  |(exfalso;revert h;simp;done)
  |exact dM λ_=>aJ
  |(split<;>(exact sC))
  |skip
 case h_5=>
  refine(eK _).then λu=>(eK _).then λv=>simu_program.then λp=>?_;split
  .exact(iZ _).then λ_=>(iZ _).then λ_=>st_pure _
  .refine(js _).then λi=>?_;split
   .split<;>first|(exact sC)|exact dM λ_=>aJ
   .exact dM λ_=>aJ
 case h_13=>rcases hp rfl with h|h<;>cases h
theorem qP(f:γ->δ->Sem (ForInStep δ)):∀(l:List γ),(∀x∈l,∀b,ST H P (f x b))->∀b,ST H P (forIn l b f)
 |[],_,b=>by rw[List.forIn_nil];exact st_pure _
 |x::l,hf,b=>by
  rw[List.forIn_cons];refine(hf x nt b).then λr=>?_;cases r with
  |done b=>exact st_pure _
  |yield b=>exact qP f l (λy hy b=>hf y (kH _ hy) b) b
theorem zI(d:Nat)(t:bq)(x y:ay)(h:uF P t=au):ST H P (Op.equalIn (d+1) t x y):=by
 refine BL d t x y ?_ λhp=>?_
 .unfold uF at h;unfold Bw;split at h
  .rename_i e;rw[e]
  .cases h
 .unfold uF at h;unfold Bz at hp;split at h
  .rename_i e;rw[e]at hp;cases hp
  .cases h
theorem IL(d:Nat)(t:bq)(x y:ay)(h:Oo P t=au):ST H P (Op.equalIn (d+2) t x y):=by
 unfold Op.equalIn;refine(iY t).bind λde hde=>?_;unfold Oo at h;rw[hde]at h;split;all_goals first
  |(exfalso;revert h;simp;done)
  |(exact sC)
  |skip
 .simp only at h;refine simu_program.then λp=>?_;dsimp only;split
  .exact(dead_unsup λ_=>aJ).bind.p5
  .refine Simu.then (p:=λ_=>True) ?_ λr=>?_
   .rw[←Array.forIn_toList];refine qP _ _ (λf hf b=>?_) _;have hfi:uF P f.type=au:=(by have h':=h;rw[Array.all_eq_true']at h';exact h' f (by simpa using hf));split
    .refine(xk _ _ _).then λx=>(xk _ _ _).then λy=>(zI d _ _ _ hfi).then λb=>?_;split<;>exact st_pure _
    .exact st_pure _
   .split<;>exact st_pure _
 .simp only at h;refine(jN _).then λn=>?_;refine Simu.then (p:=λ_=>True) ?_ λr=>?_
  .rw[Std.Legacy.Range.forIn_eq_forIn_range'];refine qP _ _ (λi hi b=>?_) _;refine(xk _ _ _).then λx=>(xk _ _ _).then λy=>(zI d _ _ _ h).then λb=>?_;split<;>exact st_pure _
  .dsimp only;split<;>exact st_pure _
theorem Tl(t:bq)(x y:ay)(h:ID P t=au)(hp:Bz P t=au->x=aI ah\/y=aI ah):ST H P (Op.equal t x y):=by
 unfold ID at h;rw[qQ]at h;rcases h with h|h
 .exact BL 9999 t x y h hp
 .exact IL 9998 t x y (by simp only[cR]at h;exact h.1)
theorem FV(d:Nat)(t:bq)(x y:ay)(h:Bw P t=au):ST H P (Op.eqGuardIn (d+1) t x y):=by unfold Op.eqGuardIn;refine(iY t).bind λde hde=>?_;unfold Bw at h;rw[hde]at h;split<;>first|(exact sC)|(exfalso;revert h;simp;done)
theorem LJ(op:BinOp)(t:bq)(x y:Operand)(a b:ay)(h:(op matches .eql|.neq)=au->ID P t=au):ST H P (eqGuard op t x y a b):=by
 have key:ID P t=au->ST H P (match a,b with
   |.nilIface,.nilIface=>if(x matches .const _) ||(y matches .const _)then pure ()else do
    if←Op.eqGuardIn Op.maxDepth t a b then unsupported (.noEntry "binop/eql: two nil values of an interface type with methods, neither of them the literal nil")
    else pure ()
   |.agg _,.agg _=>do
    if !(←program).eqGuardType (←program).depth t then pure ()
    else if←Op.eqGuardIn Op.maxDepth t a b then unsupported (.noEntry "binop/eql: two nil values of an interface type with methods, in a part of a struct or an array")
    else pure ()
   |_,_=>pure ():Sem Unit):=λhq=>by
  have g:Bw P t=au->ST H P (Op.eqGuardIn Op.maxDepth t a b):=λhq=>FV 9999 t a b hq;unfold ID at hq;rw[qQ]at hq;split
  .by_cases hc:((x matches .const _) ||(y matches .const _))=au
   .rw[aX hc];exact st_pure _
   .rw[aU hc];have hg:ST H P (Op.eqGuardIn Op.maxDepth t .nilIface .nilIface):=by
     rcases hq with hq|hq
     .exact g hq
     .simp only[cR]at hq;have h1:=hq.1;unfold Op.eqGuardIn;refine(iY t).bind λde hde=>?_;unfold Oo at h1;rw[hde]at h1;split<;>first|(exact sC)|(exfalso;revert h1;simp;done)|contradiction|(exfalso;simp_all;done)
    refine hg.then λv=>?_;split
    .exact dM λ_=>aJ
    .exact st_pure _
  .refine simu_program.bind λp hp=>simu_program.bind λp' Zg=>?_;subst hp Zg;split
   .exact st_pure _
   .rename_i hng;refine(g (hq.resolve_right λhq=>?_)).then λv=>?_
    .simp only[cR]at hq;exact hng hq.2
    split
    .exact dM λ_=>aJ
    .exact st_pure _
  .exact st_pure _
 unfold eqGuard;cases op<;>first|exact st_pure _|exact key (h rfl)
theorem rM(a:FloatKind)(x:Nat)(b:FloatKind):ST H P (Conv.floatToFloat a x b):=by
 unfold Conv.floatToFloat;split
 ·(exact sC)
 .split
  .exact(kG _).then λ_=>st_pure _
  ·(exact sC)
  .simp only;split
   .exact(kG _).then λ_=>st_pure _
   ·(exact sC)
theorem lC(op:BinOp)(k:FloatKind)(x y:Nat):ST H P (Op.Complex.arith op k x y):=by unfold Op.Complex.arith;refine(uY _ _ _ _).then λv=>?_;split<;>(exact sC)
theorem xm(op:BinOp)(k:FloatKind)(x y:Nat):ST H P (Op.Complex.cmp op k x y):=(zH _ _ _ _).then λ_=>yv _
theorem ju(a:FloatKind)(x:Nat)(b:FloatKind):ST H P (Op.Complex.conv a x b):=by
 unfold Op.Complex.conv;split
 ·(exact sC)
 .refine(rM _ _ _).then λv=>?_;split<;>(exact sC)
theorem IM(a b c d:Nat):ST H P (Op.Complex.product a b c d):=by
 unfold Op.Complex.product Op.Complex.add Op.Complex.sub Op.Complex.mul
 repeat' (with_reducible first|exact lC _ _ _ _|exact xm _ _ _ _|exact ju _ _ _|exact st_pure _|exact cF _|(refine Simu.then (p:=λ_=>True) ?_ λ_=>?_))
theorem Dn(s a b c d:Nat):ST H P (Op.Complex.corrected s a b c d):=by
 unfold Op.Complex.corrected Op.Complex.add Op.Complex.sub Op.Complex.mul
 repeat' (with_reducible first|exact lC _ _ _ _|exact xm _ _ _ _|exact ju _ _ _|exact st_pure _|exact cF _|(refine Simu.then (p:=λ_=>True) ?_ λ_=>?_))
theorem FW(a b c d:Nat):ST H P (Op.Complex.quotient a b c d):=by
 unfold Op.Complex.quotient Op.Complex.add Op.Complex.sub Op.Complex.mul Op.Complex.quo
 repeat' (with_reducible first|exact lC _ _ _ _|exact xm _ _ _ _|exact ju _ _ _|exact Dn _ _ _ _ _|exact st_pure _|exact cF _|(refine Simu.then (p:=λ_=>True) ?_ λ_=>?_)|split|(intro z;clear z)|(show ST _ _ (ite _ _ _)))
theorem FX(op:BinOp)(k:FloatKind)(a b c d:Nat):ST H P (Op.complexOp op k a b c d):=by
 unfold Op.complexOp;split
 .exact(lC _ _ _ _).then λ_=>(lC _ _ _ _).then λ_=>st_pure _
 .exact(lC _ _ _ _).then λ_=>(lC _ _ _ _).then λ_=>st_pure _
 iterate 2
  refine(ju _ _ _).then λa=>(ju _ _ _).then λb=>(ju _ _ _).then λc=>(ju _ _ _).then λd=>?_;simp only;split
  .exact(IM _ _ _ _).then λ_=>(ju _ _ _).then λ_=>(ju _ _ _).then λ_=>st_pure _
  .exact(FW _ _ _ _).then λ_=>(ju _ _ _).then λ_=>(ju _ _ _).then λ_=>st_pure _
 iterate 2
  exact(xm _ _ _ _).then λy=>(xm _ _ _ _).then λz=>st_pure _
 exact cF _
theorem Tm(op:BinOp)(t:bq)(x y:ay)(h:(op matches .eql|.neq)=au->ID P t=au/\(Bz P t=au->x=aI ah\/y=aI ah)):ST H P (Go.binOp op t x y):=by
 unfold Go.binOp;split;all_goals with_reducible first
  |exact Tk _ _ _ _ _
  |(split
    .exact cF _
    .first
     |exact FX _ _ _ _ _ _
     |(split<;>first|exact zG _ _ _ _|exact P0 _ _ _ _|exact BK _ _ _ _|exact P5 _ _ _|exact uY _ _ _ _|exact zH _ _ _ _))
  |exact sV _ _ _
  |exact(Tl _ _ _ (h rfl).1 (h rfl).2).then λ_=>st_pure _
  |exact sX _ _ _
  |exact(fo _).then λd=>ite_st (Am _ _ _) (sX _ _ _)
  |exact(eK _).then λ_=>(eK _).then λ_=>LG _ _ _
  |exact(eK _).then λ_=>(eK _).then λ_=>LH _ _ _
  |exact(eK _).then λ_=>LI _ _ _
  |exact dM λ_=>aJ
  |exact cF _
theorem Tn(op:UnOp)(x:ay):ST H P (Op.unary op x):=by unfold Op.unary;split<;>first|(exact sC)|exact zG _ _ _ _|exact BK _ _ _ _|exact dM λ_=>aJ
end
section
variable{P:bh}
theorem sU(v:ay):ST H P (Instr.sureAddr v):=by
 unfold Instr.sureAddr;split
 .exact st_pure _
 .exact cF _
theorem Tp(t:bq):ST H P (Instr.alloc t au (.tuple #[])):=(kP t).then λ_=>(p6 _ _).then λ_=>st_pure _
theorem abP(t:bq)(v:ay):ST H P (Instr.box t v):=(p6 _ _).then λ_=>st_pure _
theorem Tq(t:bq)(ps:Array (Nat×ay)):ST H P (Instr.build t ps):=by
 unfold Instr.build;refine(kP t).then λz=>(fo t).then λd=>?_;split
 .refine(LD _ (λf=>(jN _).then λ_=>st_pure _) _).then λplaces=>?_;split
  .exact st_pure _
  .exact cF _
 .refine(jN _).then λn=>?_;split
  .exact st_pure _
  .exact cF _
 .exact cF _
theorem Dp(t:bq)(n:Nat)(ps:Array (Nat×ay)):ST H P (Instr.buildSlice t n ps):=by
 unfold Instr.buildSlice;refine(fo t).then λd=>?_;split
 .refine(jN _).then λsize=>?_;exact sT
 .exact cF _
theorem P6(t:bq)(v:ay):ST H P (Instr.loadAt t v):=(sU v).then λ_=>vM _ _
theorem LL(t:bq)(v x:ay):ST H P (Instr.storeAt t v x):=(sU v).then λ_=>zE _ _ _
theorem LM(t:bq)(v:ay)(f:Nat):ST H P (Instr.fieldAt t v f):=by unfold Instr.fieldAt;exact sT
theorem LN(t:bq)(x i:ay):ST H P (Instr.indexAt t x i):=by unfold Instr.indexAt;exact sT
theorem uZ(x:ay)(y:Nat)(c:BoundsCode):ST H P (Instr.sliceBound x y c):=by unfold Instr.sliceBound;exact sT
theorem sY(b:Bool)(l c:Nat)(x y z:Option ay):ST H P (Instr.sliceBounds b l c x y z):=by
 unfold Instr.sliceBounds;have h1:=λx y z=>uZ (H:=H) (P:=P) x y z
 (repeat' (with_reducible first|exact sA|(refine Simu.then (p:=λ_=>True) ?_ λ_=>?_)|(refine ite_st ?_ ?_)|dsimp only|split)) <;>exact uZ _ _ _
theorem Tr(t:bq)(v:ay)(x y z:Option ay):ST H P (Instr.slice t v x y z):=by
 unfold Instr.slice
 (repeat' (with_reducible first|exact sA|(refine Simu.then (p:=λ_=>True) ?_ λ_=>?_)|(refine ite_st ?_ ?_)|dsimp only|split)) <;>exact sY _ _ _ _ _ _
theorem LO(t:bq)(v:ay)(x y z:Option ay):ST H P (Instr.sliceAt t v x y z):=by
 unfold Instr.sliceAt
 (repeat' (with_reducible first|exact sA|(refine Simu.then (p:=λ_=>True) ?_ λ_=>?_)|(refine ite_st ?_ ?_)|dsimp only|split)) <;>first|exact sY _ _ _ _ _ _|exact Tr _ _ _ _ _
theorem Ts(t:bq)(x:ay)(f:Nat):ST H P (Instr.field t x f):=by unfold Instr.field;exact sT
theorem Tt(t:bq)(x i:ay):ST H P (Instr.index t x i):=by unfold Instr.index;exact sT
theorem LP(x:ay)(i:Nat):ST H P (Instr.extract x i):=by unfold Instr.extract;exact sT
theorem FY(t:bq)(l c:ay):ST H P (Instr.makeSlice t l c):=by unfold Instr.makeSlice;exact sT
theorem LQ(t:bq)(r:Option ay):ST H P (Instr.makeMap t r):=by
 unfold Instr.makeMap
 (repeat' (with_reducible first|exact sA|(refine Simu.then (p:=λ_=>True) ?_ λ_=>?_)|(refine ite_st ?_ ?_)|dsimp only|split)) <;>exact mf rfl
end
section
variable{P:bh}
def kR(H:Nat->Prop)(P:bh)(x:Sem α):Prop:=∀a r ea,Rel H a r->(∃v e',x.runT P a ea=(.ok v a,e'))\/∃hh a' e',x.runT P a ea=(.halt hh a',e')/\j8 hh=au
theorem kR.dead{f:α->Sem β}(hx:kR H P x)(hf:∀v,jq H P (f v)):jq H P (x >>= f):=by
 intro a r ea hR;rw[od];rcases hx a r ea hR with⟨v,e',e⟩|⟨hh,a',e',e,hd⟩
 .rw[e];exact hf v a r e' hR
 .rw[e];exact⟨hh,a',e',rfl,hd⟩
theorem kR.bind{f:α->Sem β}(hx:kR H P x)(hf:∀v,kR H P (f v)):kR H P (x >>= f):=by
 intro a r ea hR;rw[od];rcases hx a r ea hR with⟨v,e',e⟩|⟨hh,a',e',e,hd⟩
 .rw[e];exact hf v a r e' hR
 .rw[e];exact .inr ⟨hh,a',e',rfl,hd⟩
theorem safe_pure(v:α):kR H P (pure v:Sem α):=λ_ _ _ _=>.inl ⟨_,_,rfl⟩
theorem yw(hd:j8 h=au):kR H P (.halt h:Sem α):=λ_ _ _ _=>.inr ⟨_,_,_,rfl,hd⟩
theorem BM(b:Nat):kR H P (shape b):=λ_ _ _ _=>.inl ⟨_,_,rfl⟩
theorem safe_frozen(x:aP):kR H P (frozen x):=λ_ _ _ _=>.inl ⟨_,_,rfl⟩
theorem xp:kR H P program:=λ_ _ _ _=>.inl ⟨_,_,rfl⟩
theorem vd(t:bq):kR H P (typeInfo t):=by
 unfold typeInfo;refine xp.bind λ_=>?_;split
 .exact safe_pure _
 .exact yw rfl
theorem yx(f:γ->Sem Bool)(hf:∀x,kR H P (f x)):∀l:List γ,kR H P (l.anyM f)
 |[]=>safe_pure _
 |x::l=>by
  rw[List.anyM];refine(hf x).bind λb=>?_;cases b
  .exact yx f hf l
  .exact safe_pure _
theorem Ao(a:aP)(n:Nat):kR H P (Builtin.holdsCells a n):=by
 unfold Builtin.holdsCells;refine(BM _).bind λs=>?_;split
 .exact safe_pure _
 .exact safe_pure _
theorem Dq(k l n:Nat)(b:Option aP)(x:ay):kR H P (Builtin.mayShare k l n b x):=by
 unfold Builtin.mayShare
 (repeat' (with_reducible first|exact safe_pure _|exact Ao _ _|exact BM _|exact safe_frozen _|exact xp|exact vd _|exact yw rfl|(refine kR.bind ?_ λ_=>?_)|dsimp only|split))
theorem IP(v:ay):ST H P (Builtin.lenOf v):=by unfold Builtin.lenOf;exact sT
theorem vp(k n:Nat)(v:ay):ST H P (Builtin.firstCells k n v):=by unfold Builtin.firstCells;exact sT
theorem P7(k l n:Nat)(b:Option aP)(x:ay)(u:Unsupported)(hu:∀g,u≠.initOrder g):ST H P (Builtin.mayShare k l n b x >>= λv=>if(!v)=au then(mark .noRoom >>= λ_=>unsupported u)else unsupported u:Sem α):=by
 refine((Dq k l n b x).dead λv=>?_).p5;cases v
 .exact Simu.PX (p:=λ_=>True) (yu trivial) (λ_ _ _ _ _ h=>dB) λ_ _=>dead_unsup hu
 .exact dead_unsup hu
theorem P8(ts:Array bq)(t:bq)(vs:Array ay):ST H P (Builtin.append_ ts t vs):=by
 unfold Builtin.append_
 (repeat' (with_reducible first|exact IP _|exact vp _ _ _|exact P7 _ _ _ _ _ _ λ_=>by simp|exact sA|(refine Simu.then (p:=λ_=>True) ?_ λ_=>?_)|(refine ite_st ?_ ?_)|dsimp only|split))
theorem abQ(ts:Array bq)(t:bq)(vs:Array ay):ST H P (Builtin.len_ ts t vs):=by
 unfold Builtin.len_
 (repeat' (with_reducible first|(refine mg (λhb s _=>?_) (λ_=>by with_unfolding_all exact dead_halt (h:=Halt.stuck _) rfl))|exact sA|(refine Simu.then (p:=λ_=>True) ?_ λ_=>?_)|(refine ite_st ?_ ?_)|dsimp only|split))
theorem abR(ts:Array bq)(t:bq)(vs:Array ay):ST H P (Builtin.cap_ ts t vs):=by
 unfold Builtin.cap_
 (repeat' (with_reducible first|(refine mg (λhb s _=>?_) (λ_=>by with_unfolding_all exact dead_halt (h:=Halt.stuck _) rfl))|exact sA|(refine Simu.then (p:=λ_=>True) ?_ λ_=>?_)|(refine ite_st ?_ ?_)|dsimp only|split))
theorem st_max2(x y:ay):ST H P (Builtin.max2 x y):=by
 unfold Builtin.max2
 (repeat' (with_reducible first|exact sV _ _ _|exact sA|(refine Simu.then (p:=λ_=>True) ?_ λ_=>?_)|(refine ite_st ?_ ?_)|dsimp only|split))
theorem st_min2(x y:ay):ST H P (Builtin.min2 x y):=by
 unfold Builtin.min2
 (repeat' (with_reducible first|exact sV _ _ _|exact sA|(refine Simu.then (p:=λ_=>True) ?_ λ_=>?_)|(refine ite_st ?_ ?_)|dsimp only|split))
theorem abS(ts:Array bq)(t:bq)(vs:Array ay):ST H P (Builtin.max_ ts t vs):=by
 unfold Builtin.max_;split
 .exact cF _
 .exact uI _ (λy x=>st_max2 y x) _ _
theorem abT(ts:Array bq)(t:bq)(vs:Array ay):ST H P (Builtin.min_ ts t vs):=by
 unfold Builtin.min_;split
 .exact cF _
 .exact uI _ (λy x=>st_min2 y x) _ _
theorem Zh(ts:Array bq)(t:bq)(vs:Array ay):ST H P (Builtin.copy_ ts t vs):=by
 unfold Builtin.copy_
 (repeat' (with_reducible first|exact IP _|exact vp _ _ _|exact sA|(refine Simu.then (p:=λ_=>True) ?_ λ_=>?_)|(refine ite_st ?_ ?_)|dsimp only|split))
theorem sZ(b:Nat)(w:aj)(es:Array cK):(viewAt b).runT P w es=match w.shape? b with
  |some _=>(.ok ah w,es)
  |none=>match w.heap[b]? with
   |some (aK ..)=>(.halt (.stuck "getObj: a row of cells") w,es)
   |some (.view a t)=>(.ok (ae (a,t)) w,es.push ⟨.obj b,aw,aw⟩)
   |some o=>(.ok ah w,es.push ⟨.obj b,aw,o.isChan⟩)
   |none=>(.halt (.stuck "getObj: no such block") w,es):=by
 show gJ P (if(w.shape? b).isSome=au then _ else _) w es=_;cases w.shape? b with
 |some s=>rfl
 |none=>
  show gJ P (.getObj b λo=>match o with
   |.view a t=>pure (ae (a,t))
   |_=>pure ah) w es=_
  simp only[gJ];cases w.heap[b]? with
  |none=>rfl
  |some o=>cases o<;>rfl
theorem P9(hb:¬H b):Simu H P (· =ah) (viewAt b):=by
 intro a r ea es hR;rw[sZ,sZ,←BG (hR.same _ hb)];cases hs:a.shape? b with
 |some s=>exact simu_pure (P:=P) (p:=(· =ah)) rfl a r ea es hR
 |none=>
  have hsame:a.heap[b]? =r.heap[b]? :=by
   rcases hR.same _ hb with h|⟨c,e,f,h1,_⟩
   .exact h
   .simp[World.shape?,h1]at hs
  rw[←hsame];cases ho:a.heap[b]? with
  |none=>exact rfl
  |some o=>have hok:=hR.objs b hb o ho;have key:Match H (· =(ah:Option (aP×bq))) a r es (.ok ah a,ea.push ⟨.obj b,aw,o.isChan⟩) (.ok ah r,es.push ⟨.obj b,aw,o.isChan⟩):=⟨rfl,rfl,bJ _,λ_=>⟨r,_,rfl,hR,rfl,aJ,λ_ _=>rfl,λe he=>(jf.1 he).imp id (λh=>by subst h;exact .inl hb),λe he=>(jf.1 he).imp id (λh y hy=>zC),bJ _,jr hR,λy hy=>⟨rfl,hy⟩,λe he=>(jf.1 he).imp id (λh y hy=>zC),bJ _,eG _,eG _,rfl,rfl⟩⟩;cases o<;>first|exact rfl|exact key|cases hok
theorem vN{a:aP}{k:Bool->Sem α}(ha:¬H a.block)(h:Simu H P p (k aw))(ht:jq H P (k au)):Simu H P p (Extern.Atomic.touchesFrozen a >>= k):=by unfold Extern.Atomic.touchesFrozen;rw[bind_assoc];refine(P9 ha).bind λv hv=>?_;subst hv;exact IH (k:=k) (λ_=>h) (λ_=>ht) (λh=>aT h ha)
theorem IQ(b:Nat):kR H P (viewAt b):=by
 intro a r ea hR;rw[sZ];split
 .exact .inl ⟨_,_,rfl⟩
 .split
  .exact .inr ⟨_,_,_,rfl,rfl⟩
  .exact .inl ⟨_,_,rfl⟩
  .exact .inl ⟨_,_,rfl⟩
  .exact .inr ⟨_,_,_,rfl,rfl⟩
theorem vO(a:aP):kR H P (Extern.Atomic.touchesFrozen a):=by
 unfold Extern.Atomic.touchesFrozen;refine(IQ _).bind λv=>?_;split
 .exact safe_frozen _
 .refine(vd _).bind λi=>?_;dsimp only;split
  .exact(yw rfl).bind λ_=>yx _ (λ_=>safe_frozen _) _
  .exact yx _ (λ_=>safe_frozen _) _
theorem st_read(k:IntKind)(a:aP):ST H P (Extern.Atomic.read (.int k) a):=by unfold Extern.Atomic.read;exact sT
theorem Qa{k:IntKind}{a:aP}(ha:H a.block):jq H P (Extern.Atomic.read (.int k) a):=(EI ha).bind
theorem xq(k:IntKind)(vs:Array ay):ST H P (Extern.Atomic.loadT (.int k) vs):=by
 obtain⟨l⟩:=vs;rcases l with _|⟨x,_|⟨y,l⟩⟩
 .exact cF _
 .exact(oh x).then λ_=>st_read _ _
 .exact cF _
theorem yy(vs:Array ay):ST H P (Extern.Atomic.storeT vs):=by
 obtain⟨l⟩:=vs;rcases l with _|⟨x,_|⟨y,_|⟨z,l⟩⟩⟩
 .exact cF _
 .exact cF _
 .exact(oh x).then λ_=>(oC _ _ _).then λ_=>st_pure _
 .exact cF _
theorem Tu(k:IntKind)(v old:ay)(f:Bool->Sem α)(hf:∀b,ST H P (f b)):ST H P (match Extern.Atomic.T.int k,v,old with
   |_,.int _ x,.int _ y=>pure (x==y) >>= f
   |.ptr,.pointer x,.pointer y=>samePointer x y >>= f
   |.int _,aI (ae _),.int _ 0=>pure aw >>= f
   |.int _,.int _ 0,aI (ae _)=>pure aw >>= f
   |.int _,aI (ae _),_=>unsupported .addressObserved >>= f
   |.int _,_,aI (ae _)=>unsupported .addressObserved >>= f
   |_,_,_=>stuck "atomic.CompareAndSwap: old is no T" >>= f):=by
 split<;>first
  |exact(st_pure _).then hf
  |exact(dM λ_=>aJ).then hf
  |exact(cF _).then hf
  |(exfalso;rename_i h _ _;cases h;done)
  |simp_all
theorem AY(k:IntKind)(vs:Array ay):ST H P (Extern.Atomic.casT (.int k) vs):=by
 obtain⟨l⟩:=vs;rcases l with _|⟨x,_|⟨y,_|⟨z,_|⟨u,l⟩⟩⟩⟩
 .exact cF _
 .exact cF _
 .exact cF _
 .refine(oh x).then λa=>?_;by_cases ha:H a.block
  .refine((vO a).dead λv=>?_).p5;cases v
   .exact(Qa ha).bind
   .exact dead_halt (h:=.unsupported _) rfl
  .refine vN ha ?_ ?_
   .refine(st_read _ _).then λv=>?_;have hf:∀b:Bool,ST H P (if b=au then(store a z .atomic >>= λ_=>pure (.bool b))else pure (.bool b):Sem ay):=λb=>by
     split
     .exact(oC _ _ _).then λ_=>st_pure _
     .exact st_pure _
    exact Tu k v y _ hf
   .exact dead_halt (h:=.unsupported _) rfl
 .exact cF _
theorem Dr(k:FloatKind)(x:Nat)(d:IntKind):ST H P (Conv.floatToInt k x d):=by unfold Conv.floatToInt;exact sT
theorem LS(s d:bq)(x:ay)(hs:xg P s=au)(hd:xg P d=au):ST H P (convert s d x):=by
 unfold convert;refine(iY s).bind λes hes=>(iY d).bind λed hed=>?_;unfold xg at hs hd;rw[hes]at hs;rw[hed]at hd;split<;>first
  |exact st_pure _|exact Dr _ _ _|exact rM _ _ _|exact dM λ_=>aJ
  |(exfalso;revert hd;simp;done)|(exfalso;revert hs;simp;done)
theorem s9:∀(l:List FieldStep) (t:bq) (x:Option ay),ST H P (followBlind l t x)
 |[],t,x=>st_pure _
 |s::rest,t,x=>by
  unfold followBlind;have ih:=λt x=>s9 rest t x
  (repeat' (with_reducible first|exact ih _ _|exact sA|(refine Simu.then (p:=λ_=>True) ?_ λ_=>?_)|(refine ite_st ?_ ?_)|dsimp only|split))
theorem zJ:∀(n:Nat) (t:bq) (v:ay) (name:String),ST H P (nilAhead n t v name)
 |0,_,_,_=>st_pure _
 |n+1,t,v,name=>by
  unfold nilAhead;have ih:=λt v name=>zJ n t v name
  (repeat' (with_reducible first|exact ih _ _ _|exact s9 _ _ _|exact sA|(refine Simu.then (p:=λ_=>True) ?_ λ_=>?_)|(refine ite_st ?_ ?_)|dsimp only|split))
end
section
variable{P:bh}
def yz(H:Nat->Prop)(P:bh)(b:Nat)(K:Obj->Prop)(p:α->Prop)(x:Sem α):Prop:=∀a r ea es,Rel H a r->¬H b->(∃o,a.heap[b]? =ae o/\K o)->Match H p a r es (x.runT P a ea) (x.runT P r es)
theorem went_push{r:aj}{es:Array cK}{e:cK}(h1:IE H e)(h2:∀x,e.loc=.cell x->x.block<r'.heap.size)(h3:∀x,e.loc=.cell x->e.write=au->a.frozen? x=aw)(hw:Went H (es.push e) a a' r r' er):Went H es a a' r r' er:=
 ⟨hw.rel,hw.tape,hw.drawn,hw.hidden,λe' he=>by
  rcases hw.evs e' he with he|he
  .exact(jf.1 he).imp id λh=>by subst h;exact h1
  .exact .inr he,λe' he=>by
  rcases hw.evin e' he with he|he
  .exact(jf.1 he).imp id λh=>by subst h;exact h2
  .exact .inr he,hw.grow,hw.eqk,hw.kept,λe' he=>by
  rcases hw.rov e' he with he|he
  .exact(jf.1 he).imp id λh=>by subst h;exact h3
  .exact .inr he,hw.growa,hw.shp,hw.shpr,hw.same⟩
theorem BN{K:Obj->Prop}{k:Obj->Sem α}(h:∀s,gI s=au->K s->yz H P b K p (k s))(ho:∀s,¬K s->jq H P (k s))(hp:¬K eh):Simu H P p (getObj b >>= k):=by
 have e2:∀w es,(getObj b >>= k).runT P w es=match w.heap[b]? with
  |some (aK ..)=>(.halt (.stuck "getObj: a row of cells") w,es)
  |some o=>(k o).runT P w (es.push ⟨.obj b,aw,o.isChan⟩)
  |none=>(.halt (.stuck "getObj: no such block") w,es):=λw es=>by
  show gJ P (.getObj b λo=>k o) w es=_;simp only[gJ];rfl
 by_cases hx:H b
 .intro a r ea es hR;rw[e2,(hR.hid _ hx).1];exact(ho _ hp).match hR _ _ _
 .intro a r ea es hR;have oD:∀c e f,a.heap[b]? =ae (aK c e f)->Match H p a r es ((getObj b >>= k).runT P a ea) ((getObj b >>= k).runT P r es):=λc e f ho=>by rw[e2,ho];exact rfl
  rcases hR.same _ hx with hsame|⟨c,e,f,h1,_⟩
  rotate_left
  .exact oD _ _ _ h1
  rw[e2,e2,←hsame];cases Lk:a.heap[b]? with
  |none=>exact rfl
  |some o=>
   have key:Match H p a r es ((k o).runT P a (ea.push ⟨.obj b,aw,o.isChan⟩)) ((k o).runT P r (es.push ⟨.obj b,aw,o.isChan⟩)):=by
    by_cases hK:K o
    .have h1:=h o (hR.objs b hx o Lk) hK a r (ea.push ⟨.obj b,aw,o.isChan⟩) (es.push ⟨.obj b,aw,o.isChan⟩) hR hx ⟨o,Lk,hK⟩;generalize (k o).runT P a (ea.push ⟨.obj b,aw,o.isChan⟩)=X at h1;have hw:=λa' r' er hw=>went_push (H:=H) (a:=a) (r:=r) (a':=a') (r':=r') (er:=er) (es:=es) (e:=⟨.obj b,aw,o.isChan⟩) (.inl hx) (λy hy=>by cases hy) (λy hy=>by cases hy) hw;obtain⟨rx,ex⟩:=X;cases rx with
     |ok v a'=>exact⟨h1.1,h1.2.1,h1.2.2.1,λim=>(h1.2.2.2 im).imp λr' ⟨er,e,h⟩=>⟨er,e,hw _ _ _ h⟩⟩
     |halt hh a'=>
      cases hh with
      |panic v=>exact⟨h1.1,h1.2.1,λim=>(h1.2.2 im).imp λr' ⟨er,e,h⟩=>⟨er,e,hw _ _ _ h⟩⟩
      |_=>exact h1
    .exact(ho o hK).match hR _ _ _
   cases o<;>first|exact rfl|exact key
theorem qT{K:Obj->Prop}{o:Obj}{k:Unit->Sem α}(hKn:∀s,K s->di s=au/\∀c e f,s≠aK c e f)(ho:gI o=au)(hK:K o)(hk:yz H P b K p (k ())):yz H P b K p (setObj b o >>= k):=by
 intro a r ea es hR hb ⟨s,hs,hKs⟩;obtain⟨hn,hc⟩:=hKn s hKs;have hsr:r.heap[b]? =ae s:=by
  rcases hR.same b hb with h|⟨c,e,f,h1,_⟩
  .rw[←h];exact hs
  .rw[hs]at h1;exact aT (bj h1) (hc c e f)
 have e2:∀(w:aj) es,w.heap[b]? =ae s->(setObj b o >>= k).runT P w es=(k ()).runT P {w with heap:=w.heap.setIfInBounds b o} (es.push ⟨.obj b,au,o.isChan⟩):=λw es h=>by show gJ P (.setObj b o (k ())) w es=_;simp only[gJ,h]
 rw[e2 a ea hs,e2 r es hsr];have hR':=hR.obj hb ho;have hlt:b<a.heap.size:=(bF.1 hs).1;have hg:∀(w:aj) x,x≠b->(w.heap.setIfInBounds b o)[x]? =w.heap[x]? :=λw x hx=>gG (λe=>hx e.symm);have ha0:∀w:aj,b<w.heap.size->(w.heap.setIfInBounds b o)[b]? =ae o:=λw h=>iw h;have h1:=hk {a with heap:=a.heap.setIfInBounds b o} {r with heap:=r.heap.setIfInBounds b o} (ea.push ⟨.obj b,au,o.isChan⟩) (es.push ⟨.obj b,au,o.isChan⟩) hR' hb ⟨o,ha0 a hlt,hK⟩;have aei:∀w:aj,w.heap[b]? =ae s->Ot w {w with heap:=w.heap.setIfInBounds b o}:=λw hw=>⟨λx c e f hx=>by
  have:x≠b:=λe1=>by subst e1;rw[hw]at hx;exact hc _ _ _ (bj hx)
  exact⟨c,rfl,(hg w x this).trans hx⟩,λx y l hx=>by
  have:x≠b:=λe1=>by subst e1;rw[hw]at hx;rw[bj hx]at hn;cases hn
  exact(hg w x this).trans hx⟩
 have hfz:∀(w:aj),w.heap[b]? =ae s->∀x,w.frozen? x=au->x.block≠b:=λw hw x hx e=>by unfold World.frozen? at hx;rw[e,hw]at hx;cases s<;>simp at hx;exact hc _ _ _ rfl
 have step:Went H es a {a with heap:=a.heap.setIfInBounds b o} r {r with heap:=r.heap.setIfInBounds b o} (es.push ⟨.obj b,au,o.isChan⟩):=by
  refine⟨hR',rfl,aJ,λx hx=>hg r x (λe=>hb (e▸hx)),λe he=>(jf.1 he).imp id (λh=>by subst h;exact .inl hb),λe he=>(jf.1 he).imp id (λh y hy=>zC),aJ,λx hx he=>?_,λx hx=>?_,λe he=>(jf.1 he).imp id (λh y hy=>zC),aJ,aei a hs,aei r hsr,rfl,rfl⟩
  .by_cases e:x=b
   .subst e;show(a.heap.setIfInBounds x o)[x]? =(r.heap.setIfInBounds x o)[x]?;rw[ha0 a hlt,ha0 r (by rw[←hR.size];exact hlt)]
   .show(a.heap.setIfInBounds b o)[x]? =(r.heap.setIfInBounds b o)[x]?;rw[hg a x e,hg r x e];exact jr hR x hx he
  .have hne:=hfz a hs x hx;refine⟨?_,?_⟩
   .simp only[fG,hg r _ hne]
   .rw[←hx];simp only[World.frozen?,hg a _ hne]
 generalize (k ()).runT P {a with heap:=a.heap.setIfInBounds b o} (ea.push ⟨.obj b,au,o.isChan⟩)=X at h1;obtain⟨rx,ex⟩:=X;cases rx with
 |ok v a'=>exact⟨h1.1,h1.2.1,h1.2.2.1,λim=>(h1.2.2.2 (λi q hi=>im i q hi)).imp λr' ⟨er,e,h⟩=>⟨er,e,Went.trans (a₁:={a with heap:=a.heap.setIfInBounds b o}) (bJ _) h1.2.2.1 step h⟩⟩
 |halt hh a'=>
  cases hh with
  |panic v=>exact⟨h1.1,h1.2.1,λim=>(h1.2.2 (λi q hi=>im i q hi)).imp λr' ⟨er,e,h⟩=>⟨er,e,Went.trans (a₁:={a with heap:=a.heap.setIfInBounds b o}) (bJ _) h1.2.1 step h⟩⟩
  |_=>exact h1
theorem om{K:Obj->Prop}(h:Simu H P p x):yz H P b K p x:=λa r ea es hR _ _=>h a r ea es hR
def FZ(o:Obj):Prop:=∃l,o=.loop l
theorem qU:∀s,FZ s->di s=au/\∀c e f,s≠aK c e f:=by rintro s ⟨l,rfl⟩;exact⟨rfl,λ_ _ _ h=>dB⟩
theorem nP{k:Loop->Sem α}(h:∀l,Zb l=au->yz H P b FZ p (k l)):Simu H P p (Instr.getLoop b >>= k):=by
 unfold Instr.getLoop;have e:∀g:Obj->Sem Loop,((getObj b >>= g) >>= k)=(getObj b >>= λo=>g o >>= k):=λg=>rfl;rw[e];refine BN (K:=FZ) (λs hs ⟨l,hl⟩=>?_) (λs hs=>?_) (λ⟨l,hl⟩=>by cases hl)
 .subst hl;exact h l hs
 .cases s<;>first
   |exact aT ⟨_,rfl⟩ hs
   |exact(dead_halt (h:=Halt.stuck _) rfl).bind
theorem BO(l:Nat):ST H P (Instr.beginRound l):=by unfold Instr.beginRound;refine nP λr hr=>qT qU (by exact hr) ⟨_,rfl⟩ (om ?_);cases r.state<;>first|exact st_pure _|exact dY _
theorem qV(l:Nat)(j:Option Code)(hj:∀c,j=ae c->uH c=au):Simu H P (λv=>v=.bool j.isNone) (Instr.endRound l j):=by
 unfold Instr.endRound;refine nP λr hr=>qT qU ?_ ⟨_,rfl⟩ (om (simu_pure rfl));show Zb _=au;unfold Zb qO at hr⊢;simp only[cR]at hr⊢;refine⟨hr.1,?_⟩;cases j with
 |none=>rfl
 |some c=>exact hj c rfl
theorem IU(l:Nat):Simu H P (λj=>∀c,j=ae c->uH c=au) (Instr.endLoop l):=by
 unfold Instr.endLoop;refine nP λr hr=>?_;have last:yz H P l FZ (λj=>∀c,j=ae c->uH c=au) (do setObj l (.loop {r with state:=.exhausted});pure r.pending:Sem (Option Code)):=by refine qT qU (by exact hr) ⟨_,rfl⟩ (om (simu_pure λc hc=>?_));have hr:qO zB hZ r=au:=hr;unfold qO at hr;simp only[cR]at hr;have h2:=hr.2;rw[hc]at h2;exact h2
 split
 .intro a rr ea es hR hb hk;have hp:Simu H P (λj=>∀c,j=ae c->uH c=au) ((runtimePanic (.error "range function recovered a loop body panic and did not resume panicking"):Sem Unit) >>= λ_=>(do setObj l (.loop {r with state:=.exhausted});pure r.pending:Sem (Option Code))):=by unfold runtimePanic;exact simu_program.then λ_=>simu_panic _
  exact hp a rr ea es hR
 .exact last
def aej(o:Obj):Prop:=∃d,o=.deferred d
theorem yA(b:Nat):Simu H P (λds=>ds=[]) (Instr.takeDeferred b):=by
 unfold Instr.takeDeferred;refine BN (K:=aej) (λs hs ⟨d,hd⟩=>?_) (λs hs=>?_) (λ⟨l,hl⟩=>by cases hl)
 .subst hd;cases d with
  |none=>exact om (dead_halt (h:=Halt.stuck _) rfl).p5
  |some ds=>have hs:ds.isEmpty=au:=hs;have:ds=[]:=(by simpa using hs);subst this;exact qT (λs ⟨d,hd⟩=>by subst hd;exact⟨rfl,λ_ _ _ h=>dB⟩) rfl ⟨_,rfl⟩ (om (simu_pure rfl))
 .cases s<;>first
   |exact aT ⟨_,rfl⟩ hs
   |exact dead_halt (h:=Halt.stuck _) rfl
theorem Ds{tmps:Array ay}{params:Array Tmp}{a b:Code}(h:qO zB hZ {state:=.ready,pending:=ah,fn,tmps,params,assign:=a,body:=b,defers:=0}=au):Simu H P (λx=>∃r,x.2=[{target:=.collected r,args:=#[]}]) (Instr.enterLoop fn tmps params a b ah):=by show Simu H P _ (newObj (.deferred (ae [])) >>= λr=>newObj (.loop {state:=.ready,pending:=ah,fn,tmps,params,assign:=a,body:=b,defers:=r}) >>= λl=>(pure ((l,[({target:=.collected r,args:=#[]}:Deferred)]):Nat×List Deferred):Sem (Nat×List Deferred)));exact(mf (H:=H) (P:=P) (o:=.deferred (ae [])) rfl).bind λr _=>(mf (H:=H) (P:=P) (o:=.loop {state:=.ready,pending:=ah,fn,tmps,params,assign:=a,body:=b,defers:=r}) (by exact h)).bind λl _=>simu_pure ⟨r,rfl⟩
theorem Qb(l:Nat)(args:Array ay):Simu H P (λn=>∃f tmps a b,n=.round l f tmps a b/\dZ zB hZ f a=au/\dZ zB hZ f b=au/\iL a=au/\iL b=au/\∀t,hZ.ft f t=au->VS hZ f t (tmps.getD t aO)=au) (Instr.yield l args):=by
 unfold Instr.yield;refine nP λr hr=>om ?_;split
 .exact(dead_halt (h:=Halt.stuck _) rfl).bind.p5
 .refine simu_pure ⟨r.fn,_,r.assign,r.body,rfl,?_⟩;have hr:qO zB hZ r=au:=hr;unfold qO at hr;simp only[cR]at hr;obtain⟨⟨⟨⟨⟨⟨h1,h2⟩,h3⟩,h4⟩,h5⟩,h6⟩,_⟩:=hr;refine⟨h4,h5,h2,h3,λt ht=>?_⟩;have base:VS hZ r.fn t (r.tmps.getD t aO)=au:=by
   by_cases hlt:t<r.tmps.size
   .rw[iT]at h6;have:=h6 t (pz.2 hlt);rw[ht]at this;simpa using this
   .rw[dO,np ai];unfold VS;cases hZ.fi r.fn t<;>rfl
  have key:∀(ps:List (Tmp×ay)) (tmps:Array ay),(∀q∈ps,hZ.ft r.fn q.1=aw)->(ps.foldl (λtmps q=>tmps.setIfInBounds q.1 q.2) tmps).getD t aO=tmps.getD t aO:=by
   intro ps;induction ps with
   |nil=>exact λ_ _=>rfl
   |cons q ps ih=>intro tmps hq;rw[qX,ih _ (λx hx=>hq x (kH _ hx))];have hne:q.1≠t:=λe=>(by have:=hq q (nt ..);rw[e,ht]at this;cases this);rw[dO,dO,gG hne]
  rw[←Array.foldl_toList,key]
  .exact base
  .intro q hq;rw[Array.toList_zip]at hq;have h7:=(List.of_mem_zip hq).1;rw[EL]at h1;have:=h1 q.1 (by simpa using h7);simpa using this
end
def bN.aek(S:bN)(P:bh)(name:String):Prop:=∀(t:bq) (i:TypeInfo) (m:Method),P.info? t=ae i->i.methods.find? (·.name==name)=ae m->m.path=#[]/\∃f,m.func=ae (f,au)/\S.L f=au/\∀x,S.ft f x=aw
def bN.abU(S:bN)(P:bh):Prop:=(S.R=au->P=zB/\S=hZ)/\(∀g,S.I g=au->S.L g=au/\∀t,S.ft g t=au->S.fi g t=aw/\(t=0\/8<=t))/\∀g,S.rt g=au->∃fn r,P.funcs[g]? =ae fn/\fn.results=#[.tmp r]/\S.ft g r=au/\S.fi g r=au
theorem IV{S:bN}{P:bh}(h1:S.R=aw)(h2:∀g,S.I g=aw)(h3:∀g,S.rt g=aw):S.abU P:=⟨λh=>by(rw[h1]at h;cases h),λg h=>by(rw[h2]at h;cases h),λg h=>by(rw[h3]at h;cases h)⟩
structure bN.Rows(S:bN)(H:Nat->Prop)(P:bh):Prop where
 row:∀g,S.X g=au->∃fn e,P.funcs[g]? =ae fn/\(fn.name== "runtime.NumGoroutine")=aw/\fn.body.isNone=au/\Extern.findNext fn=ah/\Extern.find fn=ae e/\∀args,ST H P (e args)
 meth:∀name,S.V name=au->S.aek P name
 more:S.abU P
def bN.kS(S:bN)(P:bh):Prop:=∀g,S.L g=au->∃fn,P.funcs[g]? =ae fn/\(fn.name== "runtime.NumGoroutine")=aw/\fn.body.isNone=aw
def bN.rN(S:bN):Prop:=∀g,S.C g=au->S.L g=au/\∀t,S.ft g t=aw
def yB(P:bh)(S:bN)(g:Nat)(args:Array ay):Prop:=S.L g=au/\∀t,S.ft g t=au->VS S g t ((args++Array.replicate (((P.funcs[g]?).map (·.ntmps)).getD 0-args.size) aO).getD t aO)=au
def nv(P:bh)(S:bN)(d:Deferred):Prop:=d.target=.nil\/(∃g captured,d.target=.fn (.func g) captured/\yB P S g (d.args++captured))\/∃b,d.target=.collected b
def oG(P:bh)(S:bN)(f:Nat)(o:aZ):Next->Prop
 |.value v=>∀d,o.dst=ae d->S.ft f d=au->VS S f d v=au
 |.skip=>True
 |.enter g args=>(∀d,o.dst=ae d->S.ft f d=au->S.fi f d=au/\S.rt g=au)/\yB P S g args
 |.round _ g tmps a b=>(∀d,o.dst=ae d->S.ft f d=aw)/\S.R=au/\dZ P S g a=au/\dZ P S g b=au/\iL a=au/\iL b=au/\∀t,S.ft g t=au->VS S g t (tmps.getD t aO)=au
 |.defer d=>nv P S d/\kz o=aw
 |.comm _ b _=>b=au
 |.recover=>(∀d,o.dst=ae d->S.ft f d=aw)/\kz o=aw
 |_=>False
section
variable{P:bh}{S:bN}
def p8(S:bN)(f:Nat)(tmps:Array ay):Prop:=∀t,S.ft f t=au->VS S f t (tmps.getD t aO)=au
theorem st_value{o:aZ}{x:Sem ay}(hx:ST H P x)(gp:lB S f o.dst=au):Simu H P (oG P S f o) (do pure (.value (←x))):=hx.then λv=>simu_pure λd hd hf=>by rw[hd]at gp;simp only[lB,hf]at gp;cases gp
theorem Zi{o:aZ}{x:Sem Unit}(hx:ST H P x):Simu H P (oG P S f o) (do x;pure .skip):=hx.then λ_=>simu_pure trivial
theorem Zj{S:bN}(h1:VI S v=au)(h2:VF S v=au):VS S f t v=au:=by unfold VS;cases S.fi f t<;>assumption
def VO(S:bN)(it:Bool)(v:ay):Bool:=bif it then VI S v else VF S v
theorem BP{S:bN}:VS S f t v=VO S (S.fi f t) v:=rfl
theorem xr{tmps:Array ay}(Qc:∀t,ρ (.tmp t)=tmps.getD t aO)(hc:∀v,ρ (.const v)=v)(hg:∀g,ρ (.func g)=.func (.func g) #[] #[])(ht:p8 S f tmps){x:Operand}(h:qN S f it x=au):VO S it (ρ x)=au:=by
 cases x with
 |tmp t=>rw[Qc];simp only[qN,cR,beq_iff_eq]at h;have:=ht t h.1;rw[BP,h.2]at this;exact this
 |const v=>rw[hc];cases v<;>first|(cases it<;>rfl)|(unfold qN at h;cases h)
 |global g=>cases h
 |func g=>
  rw[hg];cases it with
  |false=>show(S.C g&&(#[]:Array ay).isEmpty)=au;rw[show S.C g=au from h];rfl
  |true=>show(S.I g&&(#[]:Array ay).isEmpty&&decide ((#[]:Array ay).size<=7))=au;rw[show S.I g=au from h];rfl
theorem qY{o:aZ}(hR:S.Rows H P)(hB:S.kS P)(g:Nat)(args:Array ay)(gp:lB S f o.dst=au)(h:S.X g=au\/yB P S g args):
  Simu H P (oG P S f o) (callFunc g args):=by
 unfold callFunc;refine simu_program.bind λP' hP=>?_;subst hP;rcases h with h|⟨h,h'⟩
 .obtain⟨fn,e,h1,h2,h3,h4,h5,h6⟩:=hR.row g h;rw[h1];simp only[h2,h3,if_true,iy,if_false,h4,h5];refine(yu (m:=.extern g) trivial).then λ_=>?_;exact st_value (h6 args) gp
 .obtain⟨fn,h1,h2,h3⟩:=hB g h;rw[h1];simp only[h2,h3,iy,if_false];refine simu_pure ⟨λd hd hf=>?_,h,h'⟩;rw[hd]at gp;simp only[lB,hf]at gp;cases gp
theorem gQ:Simu H P p (runtimePanic .nilDeref:Sem α):=by unfold runtimePanic;exact simu_program.then λ_=>simu_panic _
theorem Tv:VF S aO=au:=rfl
theorem undef_vs:VS S f t aO=au:=Zj rfl rfl
theorem F0{g:Nat}{args:Array Operand}{tmps:Array ay}(Qc:∀t,ρ (.tmp t)=tmps.getD t aO)(hc:∀v,ρ (.const v)=v)(hg:∀g,ρ (.func g)=.func (.func g) #[] #[])(ht:p8 S f tmps)
  {n:Nat}(h:BA S f g n args=au)(hn:args.size<=n)(k:Nat):∀t,S.ft g t=au->VS S g t ((args.map ρ++Array.replicate k aO).getD t aO)=au:=by
 intro t xt;rw[dO,Array.getElem?_append];split
 .rename_i hlt;rw[Array.size_map]at hlt;rw[oH];unfold BA at h;rw[iT]at h;have h1:=h t (pz.2 ai);rw[xt,fP hlt]at h1;rw[fP hlt];simp only[Bool.not_true,Bool.false_or,Option.all_some]at h1;exact xr Qc hc hg ht h1
 .rw[rO];split<;>exact undef_vs
theorem IW{o:aZ}(b:Builtin)(ts:Array bq)(t:bq)(cs:Array Bool)(args:Array ay)(gp:lB S f o.dst=au)(h:EE b=au)(Ll:b=.recover->kz o=aw):Simu H P (oG P S f o) (builtin b ts t cs args):=by
 cases b with
 |append=>exact st_value (P8 _ _ _) gp
 |cap=>exact st_value (abR _ _ _) gp
 |copy=>exact st_value (Zh _ _ _) gp
 |len=>exact st_value (abQ _ _ _) gp
 |max=>exact st_value (abS _ _ _) gp
 |min=>exact st_value (abT _ _ _) gp
 |recover=>exact simu_pure ⟨λd hd=>by rw[hd]at gp;simpa[lB]using gp,Ll rfl⟩
 |_=>cases h
theorem Dt(x:ay)(t u:bq)(b:Bool):ST H P (Instr.typeAssert x t u b):=by
 have holds:∀v:ay,ST H P (pure (if b then .tuple #[v,.bool au]else v)):=λv=>st_pure _;have fails:∀(y d:Option bq) (m:String),ST H P (do if b then pure (.tuple #[←zeroValue u,.bool aw])else runtimePanic (.typeAssertion y d u m):Sem ay):=λy d m=>by
  split
  .exact(kP _).then λ_=>st_pure _
  .exact dY _
 unfold Instr.typeAssert;simp only;refine(fo u).then λd=>?_;split
 .exact fails _ _ _
 .refine(js _).then λi=>?_;split
  .exact holds _
  .exact fails _ _ _
 .exact fails _ _ _
 .split
  .exact holds _
  .exact fails _ _ _
 .exact cF _
theorem IX(t:bq)(k:IntKind):ST H P (Instr.makeChan t (.int k 0)):=by
 unfold Instr.makeChan;refine Simu.bind (p:=λn=>n=0) (simu_pure rfl) λn hn=>?_;subst hn;refine(fo t).then λd=>?_;split
 .refine(js _).then λi=>?_;split
  .exact(dY _).then λ_=>(mf rfl).then λ_=>st_pure _
  .exact(mf rfl).then λ_=>st_pure _
 .exact cF _
theorem LU{name:String}(hM:S.aek P name)(n:Nat)(t:bq)(v:ay):Simu H P (λx=>S.L x.1=au/\∀y,S.ft x.1 y=aw) (method n t v name):=by
 cases n with
 |zero=>exact(dead_unsup λ_=>aJ).p5
 |succ n=>
  unfold method;refine(IJ t).bind λi hi=>?_;cases hm:i.methods.find? (·.name==name)with
  |none=>exact(dead_halt (h:=.stuck _) rfl).p5
  |some m=>
   obtain⟨hp,f,hf,h1,h2⟩:=hM t i m hi hm;simp only[hp,hf];refine Simu.bind (p:=λx=>x=(t,.val v)) (simu_pure rfl) λx hx=>?_;subst hx;simp only;have Zk:∀w,ST H P (receiverAt t (.val v) au w):=λw=>by
    unfold receiverAt;refine(fo t).then λd=>?_;cases d<;>first
     |exact st_pure _
     |exact cF _
   exact(Zk _).then λr=>simu_pure ⟨h1,h2⟩
theorem yC(t:bq)(x:ay):ST H P (Instr.makeInterface t x):=by unfold Instr.makeInterface;exact sT
theorem Zl(w:aj):w.sys .env=(.strings w.os.env,{w with os:={w.os with wall:=w.os.wall,mono:=w.os.mono,coarse:=w.os.coarse}}):=rfl
theorem Tw(w:aj):w.sys .env=(.strings w.os.env,w):=by rw[Zl]
theorem Tx{k:SysRet->Sem α}(h:∀r,Simu H P p (k r)):Simu H P p (sys .env >>= k):=by
 intro a r ea es hR;have e2:∀w es,(sys .env >>= k).runT P w es=(k (.strings w.os.env)).runT P w (es.push ⟨.output,au,aw⟩):=λw es=>by show gJ P (k (w.sys .env).1) (w.sys .env).2 _=_;rw[Tw]
 rw[e2,e2,hR.os];have h1:=h (.strings r.os.env) a r (ea.push ⟨.output,au,aw⟩) (es.push ⟨.output,au,aw⟩) hR;generalize (k (.strings r.os.env)).runT P a (ea.push ⟨.output,au,aw⟩)=X at h1;have hw:∀a' r' er,Went H (es.push ⟨.output,au,aw⟩) a a' r r' er->Went H es a a' r r' er:=λa' r' er hw=>⟨hw.rel,hw.tape,hw.drawn,hw.hidden,λe he=>by
  rcases hw.evs e he with he|he
  .exact(jf.1 he).imp id λh=>by subst h;exact trivial
  .exact .inr he,λe he=>by
  rcases hw.evin e he with he|he
  .exact Zf
  .exact .inr he,hw.grow,hw.eqk,hw.kept,λe he=>by
  rcases hw.rov e he with he|he
  .exact Zf
  .exact .inr he,hw.growa,hw.shp,hw.shpr,hw.same⟩
 obtain⟨rx,ex⟩:=X;cases rx with
 |ok v a'=>exact⟨h1.1,h1.2.1,h1.2.2.1,λim=>(h1.2.2.2 im).imp λr' ⟨er,e,h⟩=>⟨er,e,hw _ _ _ h⟩⟩
 |halt hh a'=>
  cases hh with
  |panic v=>exact⟨h1.1,h1.2.1,λim=>(h1.2.2 im).imp λr' ⟨er,e,h⟩=>⟨er,e,hw _ _ _ h⟩⟩
  |_=>exact h1
theorem IY:ST H P Instr.panicnil:=by
 unfold Instr.panicnil;refine Tx λr=>?_;split
 .exact simu_program.then λ_=>st_pure _
 .exact cF _
theorem Ty(x:ay):ST H P (Instr.panic x):=by
 unfold Instr.panic;split
 .exact kB _
 .refine IY.then λn=>?_;split
  .exact kB _
  .exact dY _
 .exact cF _
theorem Zm{o:aZ}(hR:S.Rows H P)(hB:S.kS P){tmps:Array ay}(Qc:∀t,ρ (.tmp t)=tmps.getD t aO)(hc:∀v,ρ (.const v)=v)(hg:∀g,ρ (.func g)=.func (.func g) #[] #[])(ht:p8 S f tmps)(h:Ti P S f o=au):
  Simu H P (oG P S f o) (bT ρ o):=by
 unfold Ti at h;split at h;rotate_left
 .cases h
 rename_i g xs ats d hop hd;simp only[cR,xu,decide_eq_true_eq]at h;obtain⟨⟨⟨⟨⟨h1,h2⟩,h3⟩,h4⟩,h5⟩,h6⟩:=h;unfold bT;rw[hop];simp only[resolve];show Simu H P _ (Deferred.ofValue (ρ (.func g)) (xs.map ρ) >>= λd=>invoke d.target d.args);rw[hg];refine Simu.bind (p:=λd=>d={target:=.fn (.func g) #[],args:=#[] ++xs.map ρ}) (simu_pure rfl) λd' yr=>?_;subst yr;show Simu H P _ (callFunc g ((#[] ++xs.map ρ) ++ #[]));rw[xw,Array.empty_append];unfold callFunc;refine simu_program.bind λP' hP=>?_;subst hP;obtain⟨fn,b1,b2,b3⟩:=hB g h4;rw[b1];simp only[b2,b3,iy,if_false];refine simu_pure ⟨λd'' ael _=>?_,h4,by rw[Array.size_map];exact F0 Qc hc hg ht h5 h6 _⟩;rw[hd]at ael;obtain rfl:=bj ael;exact⟨h1,h2⟩
theorem Tz{o:aZ}(hR:S.Rows H P)(hB:S.kS P)(hL:S.rN){tmps:Array ay}(Qc:∀t,ρ (.tmp t)=tmps.getD t aO)(hc:∀v,ρ (.const v)=v)(hg:∀g,ρ (.func g)=.func (.func g) #[] #[])(ht:p8 S f tmps)(h:iu P S f o=au):
  Simu H P (oG P S f o) (bT ρ o):=by
 unfold iu at h;rw[qQ]at h;rcases h with h|h
 rotate_left
 .exact Zm hR hB Qc hc hg ht h
 generalize yD:lB S f o.dst=free at h;generalize hit:Za S f o.dst=it at h;have mv:∀x:Operand,(free||qN S f it x)=au->Simu H P (oG P S f o) (pure (.value (ρ x))):=λx hx=>simu_pure λd hd hf=>by rw[hd]at yD hit;simp only[lB,Za,hf]at yD hit;subst yD;have:=xr (it:=it) Qc hc hg ht (by simpa using hx);rw[BP,hit];exact this
 have st:=λ(x:Sem ay) (hx:ST H P x) (hf:free=au)=>st_value (P:=P) (S:=S) (f:=f) (o:=o) hx (yD.trans hf);unfold bT;generalize hop:o.op=op at h;cases op with
 |move x=>exact mv x h
 |assign x=>exact mv x h
 |pick c a b=>refine(yv _).then λv=>simu_pure λd hd hf=>?_;rw[hd]at yD;simp only[lB,hf]at yD;rw[←yD]at h;cases h
 |alloc t=>exact st _ (Tp t) h
 |box t x=>exact st _ (abP _ _) h
 |build t ps=>exact st _ (Tq _ _) h
 |buildSlice t n ps=>exact st _ (Dp _ _ _) h
 |load t a=>exact st _ (P6 _ _) h
 |store t a x=>exact Zi (LL _ _ _)
 |nilCheck x=>
  have hv:∀v:ay,Simu H P (oG P S f o) (pure (.value v)):=λv=>simu_pure λd hd hf=>by rw[hd]at yD;simp only[lB,hf]at yD;rw[←yD]at h;cases h
  simp only;split
  .exact gQ
  .exact gQ
  .exact gQ
  .split
   .exact gQ
   .refine simu_program.then λp=>(zJ _ _ _ _).then λb=>?_;split
    .exact((dead_unsup λ_=>aJ).bind).p5
    .exact hv _
   .exact hv _
  .exact hv _
 |unOp u t x=>exact st _ (Tn _ _) h
 |binOp b t x y z=>
  simp only[LB,cR]at h;refine st _ ?_ h.1;obtain⟨gp,h2⟩:=h;have nil:∀z:Operand,uG z=au->ρ z=aI ah:=λz hz=>by
   unfold uG at hz;split at hz
   .exact hc _
   .cases hz
  have hq:Th b=au->ID P t=au/\(Bz P t=au->ρ x=aI ah\/ρ y=aI ah):=λhb=>by rw[hb]at h2;simp only[Bool.not_true,Bool.false_or,cR]at h2;refine⟨h2.1,λhp=>?_⟩;have h3:=h2.2;rw[hp]at h3;simp only[Bool.not_true,Bool.false_or,qQ]at h3;exact h3.imp (nil _) (nil _)
  have g1:ST H P (eqGuard b t x y (ρ x) (ρ y)):=LJ b t x y _ _ (by cases b<;>first|exact λ_=>(hq rfl).1|exact λh=>dB);have g2:ST H P (binOp b t (ρ x) (ρ y)):=Tm b t _ _ (by cases b<;>first|exact λ_=>hq rfl|exact λh=>dB);exact g1.then λ_=>g2
 |convert s d x=>simp only[LB,cR]at h;exact st _ (LS _ _ _ h.1.2 h.2) h.1.1
 |makeFunc fn first captured=>
  refine Simu.bind (p:=λv=>v=.func fn (first.map ρ) (captured.map ρ)) (simu_pure rfl) λv hv=>?_;subst hv;refine simu_pure λd hd hf=>?_;rw[hd]at yD;simp only[lB,hf]at yD;subst yD;rw[hd]at hit;simp only[Za]at hit;rw[BP,hit];cases fn with
  |func g=>
   simp only[LB,Bool.not_true,Bool.false_or,cR]at h;obtain⟨h1,h2⟩:=h;have he:(first.map ρ).isEmpty=au:=(by simpa[Array.isEmpty]using h2);cases it with
   |false=>have h1:S.C g=au:=h1;show(S.C g&&(first.map ρ).isEmpty)=au;rw[h1,he];rfl
   |true=>have h1:(S.I g&&decide (captured.size<=7))=au:=h1;rw[cR]at h1;show(S.I g&&(first.map ρ).isEmpty&&decide ((captured.map ρ).size<=7))=au;rw[h1.1,he,Array.size_map,h1.2];rfl
  |_=>cases h
 |makeMap t r=>exact st _ (LQ _ _) h
 |makeSlice t l c=>exact st _ (FY _ _ _) h
 |slice t x l hh m=>exact st _ (LO _ _ _ _ _) h
 |fieldAddr t x i=>exact st _ (LM _ _ _) h
 |field t x i=>exact st _ (Ts _ _ _) h
 |indexAddr t x i=>exact st _ (LN _ _ _) h
 |index t x i=>exact st _ (Tt _ _ _) h
 |extract x i=>exact st _ (LP _ _) h
 |makeInterface t x=>exact st _ (yC _ _) h
 |panic x=>exact st _ (Ty _) h
 |typeAssert x t u b=>exact st _ (Dt _ _ _ _) h
 |makeChan t x=>
  simp only[LB,cR]at h;refine st _ ?_ h.1;have hx:∃k,ρ x=.int k 0:=by
   have h2:=h.2;unfold BB at h2;split at h2
   .rename_i k;exact⟨k,hc _⟩
   .cases h2
  obtain⟨k,hx⟩:=hx;rw[hx];exact IX t k
 |defer c=>
  simp only[LB,cR]at h;obtain⟨_,hk⟩:=h;obtain⟨callee,nw,ats⟩:=c;unfold Oq at hk;simp only[resolve];cases callee with
  |builtin b=>cases hk
  |invoke r m=>cases hk
  |value x=>
   cases x with
   |const v=>cases hk
   |global g=>cases hk
   |tmp t=>
    show Simu H P _ (Deferred.ofValue (ρ (.tmp t)) (nw.map ρ) >>= λd=>pure (Next.defer d));simp only[cR,xu]at hk;have hv:VF S (ρ (.tmp t))=au:=(by have:=ht t hk.1.1;rw[BP,hk.1.2]at this;rw[Qc];exact this);generalize ρ (.tmp t)=v at hv;unfold Deferred.ofValue;cases v with
    |func fn first captured=>
     refine Simu.bind (p:=λd=>d={target:=.fn fn captured,args:=first++nw.map ρ}) (simu_pure rfl) λd hd=>?_;subst hd;cases fn with
     |func g=>simp only[VF,cR]at hv;exact simu_pure ⟨.inr (.inl ⟨g,captured,rfl,(hL g hv.1).1,λt ht=>by rw[(hL g hv.1).2 t]at ht;cases ht⟩),by unfold kz;rw[hop]⟩
     |yield l=>simp only[VF,hk.2,Bool.false_and]at hv;cases hv
     |_=>cases hv
    |nilFunc=>refine Simu.bind (p:=λd=>d={target:=.nil,args:=nw.map ρ}) (simu_pure rfl) λd hd=>?_;subst hd;exact simu_pure ⟨.inl rfl,by unfold kz;rw[hop]⟩
    |_=>exact(dead_halt (h:=.stuck _) rfl).bind.p5
   |func g=>show Simu H P _ (Deferred.ofValue (ρ (.func g)) (nw.map ρ) >>= λd=>pure (Next.defer d));rw[hg];refine Simu.bind (p:=λd=>d={target:=.fn (.func g) #[],args:=#[] ++nw.map ρ}) (simu_pure rfl) λd hd=>?_;subst hd;refine simu_pure ⟨.inr (.inl ⟨g,#[],rfl,?_⟩),by unfold kz;rw[hop]⟩;show yB P S g ((#[] ++nw.map ρ) ++ #[]);rw[xw,Array.empty_append];simp only[cR,decide_eq_true_eq]at hk;obtain⟨⟨h1,h2⟩,h3⟩:=hk;exact⟨h1,by rw[Array.size_map];exact F0 Qc hc hg ht h2 h3 _⟩
 |select cs b=>refine(LD _ (λx=>(kP _).then λ_=>st_pure _) _).then λcs'=>?_;exact simu_pure h
 |call c=>
  simp only[LB,cR]at h;obtain⟨hf,hk⟩:=h;have gp:=yD.trans hf;obtain⟨callee,nw,ats⟩:=c;unfold Tg at hk;simp only[resolve];cases callee with
  |builtin b=>simp only at hk⊢;refine Simu.bind (p:=λd=>d.target=.builtin b ats o.type (nw.map fun|.const _=>au|_=>aw)) (simu_pure rfl) λd hd=>?_;rw[hd];show Simu H P _ (builtin b ats o.type _ d.args);exact IW b _ _ _ _ gp hk λhb=>by subst hb;unfold kz;rw[hop]
  |invoke r m=>
   simp only at hk⊢;refine Simu.bind (p:=λd=>d={target:=.fn (.method m) #[],args:=#[ρ r] ++nw.map ρ}) (simu_pure rfl) λd hd=>?_;subst hd;show Simu H P _ (invoke (.fn (.method m) #[]) (#[ρ r] ++nw.map ρ));unfold invoke;simp only[Array.getElem?_append,Array.size_singleton,Nat.zero_lt_one,if_true];show Simu H P _ (callMethod (ρ r) m _);unfold callMethod;split
   .refine simu_program.then λ_=>(LU (hR.meth m hk) _ _ _).bind λx hx=>?_;exact qY hR hB x.1 _ gp (.inr ⟨hx.1,λt ht=>by rw[hx.2 t]at ht;cases ht⟩)
   .exact gQ
   .exact(dead_halt (h:=.stuck _) rfl).p5
  |value x=>
   have dyn:VF S (ρ x)=au->Simu H P (oG P S f o) (Deferred.ofValue (ρ x) (nw.map ρ) >>= λd=>invoke d.target d.args):=λhv=>by
    generalize ρ x=v at hv;unfold Deferred.ofValue;cases v with
    |func fn first captured=>
     refine Simu.bind (p:=λd=>d={target:=.fn fn captured,args:=first++nw.map ρ}) (simu_pure rfl) λd hd=>?_;subst hd;cases fn with
     |func g=>simp only[VF,cR]at hv;exact qY hR hB g _ gp (.inr ⟨(hL g hv.1).1,λt ht=>by rw[(hL g hv.1).2 t]at ht;cases ht⟩)
     |yield l=>simp only[VF,cR]at hv;obtain⟨rfl,rfl⟩:=hR.more.1 hv.1;show Simu H _ _ (Instr.yield l _);refine(Qb l _).mono λn hn=>?_;obtain⟨f',aiy,a,b,rfl,h1,h2,h3,h4,h5⟩:=hn;exact⟨λd hd=>by rw[hd]at gp;simpa[lB]using gp,hv.1,h1,h2,h3,h4,h5⟩
     |_=>cases hv
    |nilFunc=>refine Simu.bind (p:=λd=>d={target:=.nil,args:=nw.map ρ}) (simu_pure rfl) λd hd=>?_;subst hd;exact gQ
    |_=>exact(dead_halt (h:=.stuck _) rfl).bind.p5
   cases x with
   |tmp t=>exact dyn (xr (it:=aw) Qc hc hg ht hk)
   |const v=>exact dyn (xr (it:=aw) Qc hc hg ht hk)
   |global g=>cases hk
   |func g=>
    show Simu H P _ (Deferred.ofValue (ρ (.func g)) (nw.map ρ) >>= λd=>invoke d.target d.args);rw[hg];refine Simu.bind (p:=λd=>d={target:=.fn (.func g) #[],args:=#[] ++nw.map ρ}) (simu_pure rfl) λd hd=>?_;subst hd;show Simu H P _ (callFunc g ((#[] ++nw.map ρ) ++ #[]));rw[xw,Array.empty_append];refine qY hR hB g _ gp ?_;simp only[qQ,cR,decide_eq_true_eq]at hk;rcases hk with hk|⟨⟨h1,h2⟩,h3⟩
    .exact .inl hk
    .exact .inr ⟨h1,by rw[Array.size_map];exact F0 Qc hc hg ht h2 h3 _⟩
 |_=>cases h
end
def Du(P:bh)(S:bN)(f:Nat)(rd:Bool)(c:Code):Bool:=dZ P S f c&&(!rd||iL c)
def mP(P:bh)(S:bN)(f:Nat)(rd:Bool):Item->Bool
 |.code c=>Du P S f rd c
 |.inBlock _=>au
 |.inLoop b=>Du P S f rd b
 |.inScope b=>Du P S f rd b
 |bI ops _=>ops.all (iu P S f) &&(!rd||ops.all kz)
 |.inRangeFunc _=>S.R&&!rd
 |.endRangeFunc _=>S.R&&!rd
 |.beginRound=>S.R&&rd
 |_=>aw
theorem F6{P:bh}{S:bN}{a b:Code}:Du P S f rd (.seq a b)=au↔Du P S f rd a=au/\Du P S f rd b=au:=by cases rd<;>simp[Du,dZ,iL,cR] <;>(constructor<;>(intro h;simp_all))
theorem TA{P:bh}{S:bN}{x:Operand}{a b:Code}:Du P S f rd (.cond x a b)=au↔Du P S f rd a=au/\Du P S f rd b=au:=by cases rd<;>simp[Du,dZ,iL,cR] <;>(constructor<;>(intro h;simp_all))
theorem uJ{P:bh}{S:bN}{c:Code}(h1:dZ P S f c=au)(h2:iL c=au):Du P S f rd c=au:=by unfold Du;rw[h1,h2];cases rd<;>rfl
def bN.Plain(S:bN)(P:bh):Prop:=∀g,S.L g=au->dZ P S g (((P.funcs[g]?).bind (·.body)).getD (.refuse "unsupported: a function without a Go body is entered"))=au
structure FI(P:bh)(S:bN)(fr:aB):Prop where
 todo:∀it∈fr.todo,mP P S fr.fn fr.roundOf.isSome it=au
 defers:∀d∈fr.defers,nv P S d
 kind:fr.kind=.normal\/fr.kind=.deferred
 round:fr.roundOf=ah\/(S.R=au/\fr.defers=[]/\fr.kind=.normal)
 ft:p8 S fr.fn fr.tmps
def aem(c:aB):Prop:=(∃ops i rest k,c.todo=bI ops (i::rest)::k)\/∃l k,c.todo=.inRangeFunc l::k
def dP(P:bh)(S:bN):aB->List aB->Prop
 |fr,[]=>FI P S fr/\fr.kind=.normal
 |fr,c::fs=>FI P S fr/\(fr.kind=.deferred\/((∀v,(S.rt fr.fn=au->VI S v=au)->FI P S (c.finish v))/\aem c))/\dP P S c fs
def K0:List Item:=[.code (.refuse "")]
def Sw:Option (List Item)->aB->aB->Prop
 |none,fr,cz=>cz=fr
 |some K,fr,cz=>∃A,fr.todo=A++K0/\cz={fr with todo:=A++K}
def qZ(κ:Option (List Item)):aB->List aB->aB->List aB->Prop
 |fr,[],cz,dC=>Sw κ fr cz/\dC=[]
 |fr,c::fs,cz,dC=>cz=fr/\∃c2 uT,dC=c2::uT/\qZ κ c fs c2 uT
abbrev cy(fr:aB)(cs:List aB):aY:={frame:=fr,callers:=cs,status:=.running,dying:=ah}
def Outcome(H:Nat->Prop)(P:bh)(S:bN)(fr:aB)(fs:List aB)(a:aj):Prop:=
 (∃cB dg a',dP P S cB dg/\a'.tape=a.tape/\a.drawn<=a'.drawn/\
  ∀r,Rel H a r->rL a a' r->∃r' er,Went H #[] a a' r r' er/\∀κ cz dC,qZ κ fr fs cz dC->∃th uT,qZ κ cB dg th uT/\∀m cs,bn P m (cy cz (dC++cs)) r=.go (cy th (uT++cs)) r' er)\/
 (fs=[]/\∀m c cs,∃c' a' es,bn P m (cy fr (c::cs)) a=.go (cy c' cs) a' es/\((∃v,c'=c.finish v)\/∃chain,c'=c.raise chain))\/
 (∀m cs,∃o w es,bn P m (cy fr (fs++cs)) a=.ended o w es)\/
 (∀m cs,∃cases shape a' es,bn P m (cy fr (fs++cs)) a=.comm (cy fr (fs++cs)) cases au shape a' es/\Rel H a' a')
section
variable{P:bh}{S:bN}
theorem F7:∀{c:Code} {l:Nat} {c':Code},Du P S f rd c=au->findLabel c l=ae c'->Du P S f rd c'=au:=by
 intro c;induction c with
 |seq a b iha ihb=>
  intro l c' h hf;rw[F6]at h;simp only[findLabel]at hf;split at hf
  .rename_i r hr;obtain rfl:=bj hf;exact F6.2 ⟨iha h.1 hr,h.2⟩
  .exact ihb h.2 hf
 |label aiJ=>
  intro l c' _ hf;simp only[findLabel]at hf;split at hf
  .obtain rfl:=bj hf;exact uJ rfl rfl
  .cases hf
 |_=>intro l c' _ hf;simp[findLabel]at hf
theorem vP{id:Nat}:∀{k k':List Item},exitTo id k=ae k'->∀it∈k',it∈k
 |[],_,h=>by simp[exitTo]at h
 |it::k,k',h=>λx hx=>by
  unfold exitTo at h;split at h
  .split at h
   .obtain rfl:=bj h;rename_i e _;cases e;exact kH _ hx
   .rename_i e _;cases e;exact kH _ (vP h x hx)
  .rename_i e;cases e;exact kH _ (vP h x hx)
  .cases h
theorem yE{l:Nat}:∀{k k':List Item},(∀it∈k,mP P S f rd it=au)->gotoIn l k=ae k'->∀it∈k',mP P S f rd it=au
 |[],_,_,h=>by simp[gotoIn]at h
 |it::k,k',hk,h=>by
  unfold gotoIn at h;split at h
  .rename_i body k₁ e;injection e with e1 e2
   subst e1 e2;split at h
   .rename_i rest hr;obtain rfl:=bj h;intro x hx;rcases fU.1 hx with rfl|hx
    .exact F7 (hk _ (nt)) hr
    .rcases fU.1 hx with rfl|hx
     .exact hk _ nt
     .exact hk _ (kH _ hx)
   .exact yE (λx hx=>hk x (kH _ hx)) h
  .rename_i e;injection e with e1 e2
   subst e1 e2;exact yE (λx hx=>hk x (kH _ hx)) h
  .cases h
theorem mem_seen{es:Array cK}:∀e∈seen P f es,e∈es:=by
 unfold seen;simp only;intro e;rw[←Array.foldl_toList];suffices h:∀(l:List cK) (q:Bool) (kept:Array cK),e∈(l.foldl (λ(x:Bool×Array cK) (e:cK)=>match e.loc with
  |.mark (.extern f)=>((P.funcs[f]?).any (·.norace),x.2)
  |_=>(x.1,if x.1&&!e.sync then x.2 else x.2.push e)) (q,kept)).2->e∈kept\/e∈l by
  intro he;rcases h es.toList _ _ he with h|h
  .simp at h
  .simpa using h
 intro l;induction l with
 |nil=>exact λq kept h=>.inl h
 |cons x l ih=>
  intro q kept h;rw[qX]at h;have key:∀q' kept',(kept'=kept\/kept'=kept.push x)->e∈(l.foldl (λ(x:Bool×Array cK) (e:cK)=>match e.loc with
    |.mark (.extern f)=>((P.funcs[f]?).any (·.norace),x.2)
    |_=>(x.1,if x.1&&!e.sync then x.2 else x.2.push e)) (q',kept')).2->e∈kept\/e∈x::l:=λq' kept' hk hm=>by
   rcases ih q' kept' hm with h1|h1
   .rcases hk with rfl|rfl
    .exact .inl h1
    .rcases jf.1 h1 with h2|rfl
     .exact .inl h2
     .exact .inr nt
   .exact .inr (kH _ h1)
  split at h
  .exact key _ _ (.inl rfl) h
  .split at h
   .exact key _ _ (.inl rfl) h
   .exact key _ _ (.inr rfl) h
theorem dP.fi(h:dP P S fr fs):FI P S fr:=by
 cases fs with
 |nil=>exact h.1
 |cons c fs=>exact h.1
theorem dP.to(h:dP P S fr fs)(hF:FI P S cB)(hk:cB.kind=fr.kind)(hfn:cB.fn=fr.fn:=by rfl):dP P S cB fs:=by
 cases fs with
 |nil=>exact⟨hF,hk.trans h.2⟩
 |cons c fs=>exact⟨hF,h.2.1.imp (λe=>hk.trans e) (λe=>by rw[hfn];exact e),h.2.2⟩
theorem fZ(h:qZ κ fr fs cz dC):cz={fr with todo:=cz.todo}:=by
 cases fs with
 |nil=>
  obtain⟨h,_⟩:=h;cases κ with
  |none=>obtain rfl:cz=fr:=h;rfl
  |some K=>obtain⟨A,_,rfl⟩:=h;rfl
 |cons c fs=>obtain⟨rfl,_⟩:=h;rfl
theorem kT(h:qZ κ fr fs cz dC)(e:cB.todo=fr.todo):qZ κ cB fs {cB with todo:=cz.todo} dC:=by
 cases fs with
 |nil=>
  obtain⟨h,h2⟩:=h;refine⟨?_,h2⟩;cases κ with
  |none=>obtain rfl:cz=fr:=h;show _=cB;rw[←e]
  |some K=>obtain⟨A,h1,rfl⟩:=h;exact⟨A,e.trans h1,rfl⟩
 |cons c fs=>obtain⟨rfl,h⟩:=h;exact⟨by rw[←e],h⟩
theorem vQ{id:Nat}{K:List Item}:∀{A k':List Item},exitTo id (A++K0)=ae k'->∃A',k'=A'++K0/\exitTo id (A++K)=ae (A'++K)
 |[],k',h=>by simp[K0,exitTo]at h
 |it::A,k',h=>by
  rw[jZ]at h⊢;cases it with
  |inBlock i=>
   by_cases e:i=id
   .simp only[exitTo,e,beq_self_eq_true,if_true,dD]at h⊢;exact⟨A,h.symm,aJ⟩
   .simp only[exitTo,e,if_false,beq_iff_eq]at h⊢;exact vQ h
  |_=>simp only[exitTo]at h⊢;exact vQ h
theorem vR{l:Nat}{K:List Item}:∀{A k':List Item},gotoIn l (A++K0)=ae k'->∃A',k'=A'++K0/\gotoIn l (A++K)=ae (A'++K)
 |[],k',h=>by simp[K0,gotoIn]at h
 |it::A,k',h=>by
  rw[jZ]at h⊢;cases it with
  |inScope b=>
   simp only[gotoIn]at h⊢;cases e:findLabel b l with
   |some r=>rw[e]at h;simp only[dD]at h⊢;exact⟨.code r:: .inScope b::A,h.symm,rfl⟩
   |none=>rw[e]at h;exact vR h
  |_=>simp only[gotoIn]at h⊢;exact vR h
theorem fI{it:Item}(h:qZ κ fr fs cz dC)(ht:fr.todo=it::k)(hne:it≠.code (.refuse "")):
  ∃k2,cz={fr with todo:=it::k2}/\(∀pre (cB:aB),cB.todo=pre++k->qZ κ cB fs {cB with todo:=pre++k2} dC)/\
   (∀id k',exitTo id k=ae k'->∃TB,exitTo id k2=ae TB/\qZ κ {fr with todo:=k'} fs {fr with todo:=TB} dC)/\
   (∀l k',gotoIn l k=ae k'->∃TB,gotoIn l k2=ae TB/\qZ κ {fr with todo:=k'} fs {fr with todo:=TB} dC):=by
 have aen:cz=fr->(∀cB:aB,qZ κ cB fs cB dC)->_:=λe h'=>(⟨k,by rw[e,←ht],λpre cB e=>by rw[←e];exact h' cB,λid k' h1=>⟨k',h1,h' _⟩,λl k' h1=>⟨k',h1,h' _⟩⟩:∃k2,cz={fr with todo:=it::k2}/\(∀pre (cB:aB),cB.todo=pre++k->qZ κ cB fs {cB with todo:=pre++k2} dC)/\
   (∀id k',exitTo id k=ae k'->∃TB,exitTo id k2=ae TB/\qZ κ {fr with todo:=k'} fs {fr with todo:=TB} dC)/\
   (∀l k',gotoIn l k=ae k'->∃TB,gotoIn l k2=ae TB/\qZ κ {fr with todo:=k'} fs {fr with todo:=TB} dC))
 cases fs with
 |nil=>
  obtain⟨h,h2⟩:=h;subst h2;cases κ with
  |none=>exact aen h λcB=>⟨rfl,rfl⟩
  |some K=>
   obtain⟨A,h1,rfl⟩:=h;cases A with
   |nil=>rw[ht]at h1;simp only[K0,kU,List.cons.injEq]at h1;exact aT h1.1 hne
   |cons it' A=>
    rw[ht]at h1;simp only[jZ,List.cons.injEq]at h1;obtain⟨rfl,rfl⟩:=h1;refine⟨A++K,rfl,λpre cB e=>⟨⟨pre++A,by rw[e,vq],by rw[vq]⟩,rfl⟩,λid k' h1=>?_,λl k' h1=>?_⟩
    .obtain⟨A',rfl,h3⟩:=vQ (K:=K) h1;exact⟨_,h3,⟨A',rfl,rfl⟩,rfl⟩
    .obtain⟨A',rfl,h3⟩:=vR (K:=K) h1;exact⟨_,h3,⟨A',rfl,rfl⟩,rfl⟩
 |cons c fs=>obtain⟨h1,h2⟩:=h;exact aen h1 λcB=>⟨rfl,h2⟩
theorem p9(fr:aB)(fs:List aB):qZ ah fr fs fr fs:=by
 induction fs generalizing fr with
 |nil=>exact⟨rfl,rfl⟩
 |cons c fs ih=>exact⟨rfl,c,fs,rfl,ih c⟩
theorem BQ(h:qZ ah fr fs cz dC):cz=fr/\dC=fs:=by
 induction fs generalizing fr cz dC with
 |nil=>exact h
 |cons c fs ih=>obtain⟨rfl,c2,uT,rfl,h⟩:=h;obtain⟨rfl,rfl⟩:=ih h;exact⟨rfl,rfl⟩
theorem oq(h:qZ κ fr fs cz dC)(c:List PanicEntry):qZ κ (fr.raise c) fs (cz.raise c) dC:=by
 have h1:=kT (cB:=fr.raise c) h (by unfold Frame.raise;split<;>rfl);have e:cz.raise c={fr.raise c with todo:=cz.todo}:=by rw[fZ h];unfold Frame.raise;simp only;split<;>rfl
 rw[e];exact h1
theorem Oy(h:qZ κ fr fs cz dC)(ht:fr.todo=[]):cz=fr:=by
 cases fs with
 |nil=>
  obtain⟨h,_⟩:=h;cases κ with
  |none=>exact h
  |some K=>obtain⟨A,h1,rfl⟩:=h;rw[ht]at h1;cases A<;>simp[K0]at h1
 |cons c fs=>exact h.1
theorem tj(h:qZ κ fr fs cz dC)(x:aB):qZ κ x (fr::fs) x (cz::dC):=⟨rfl,cz,dC,rfl,h⟩
theorem lD{ops:Array aZ}{rest:List Nat}(h:qZ κ fr fs cz dC)(ht:fr.todo=bI ops (i::rest)::k)(v:ay):qZ κ (fr.finish v) fs (cz.finish v) dC:=by
 obtain⟨k2,rfl,h1,_⟩:=fI h ht aJ;have e1:fr.finish v={fr with tmps:=(match(ops[i]?).bind (·.dst)with|some d=>fr.tmps.setIfInBounds d v|none=>fr.tmps),todo:=bI ops rest::k}:=by unfold Frame.finish;rw[ht];rfl
 have e2:({fr with todo:=bI ops (i::rest)::k2}:aB).finish v={fr.finish v with todo:=[bI ops rest] ++k2}:=by rw[e1];rfl
 rw[e2];exact h1 [bI ops rest] _ (by rw[e1];rfl)
theorem IZ{l:Nat}(h:qZ κ fr fs cz dC)(ht:fr.todo=.inRangeFunc l::k)(v:ay):qZ κ (fr.finish v) fs (cz.finish v) dC:=by
 obtain⟨k2,rfl,h1,_⟩:=fI h ht aJ;have e1:fr.finish v={fr with todo:=.endRangeFunc l::k}:=by unfold Frame.finish;rw[ht]
 have e2:({fr with todo:=.inRangeFunc l::k2}:aB).finish v={fr.finish v with todo:=[.endRangeFunc l] ++k2}:=by rw[e1];rfl
 rw[e2];exact h1 [.endRangeFunc l] _ (by rw[e1];rfl)
theorem zK(h:qZ κ fr fs cz dC)(ht:aem fr)(v:ay):qZ κ (fr.finish v) fs (cz.finish v) dC:=by
 rcases ht with⟨ops,i,rest,k,ht⟩|⟨l,k,ht⟩
 .exact lD h ht v
 .exact IZ h ht v
theorem Outcome.pure(h:dP P S cB fs)(hs:∀κ cz dC,qZ κ fr fs cz dC->∃th,qZ κ cB fs th dC/\∀m cs w,bn P m (cy cz cs) w=.go (cy th cs) w #[]):Outcome H P S fr fs a:= .inl ⟨cB,fs,a,h,rfl,bJ _,λr hr _=>⟨r,#[],kF hr _,λκ cz dC h=>by obtain⟨th,h1,h2⟩:=hs κ cz dC h;exact⟨th,dC,h1,λm cs=>h2 m _ r⟩⟩⟩
theorem Outcome.dead(hs:∀m cs,∃o w es,bn P m (cy fr cs) a=.ended o w es):Outcome H P S fr fs a:= .inr (.inr (.inl λm cs=>hs m (fs++cs)))
theorem dw{r:aj}(h:Went H #[] a a' r r' er):Went H #[] a a' r r' (seen P f er++ #[]):=
 ⟨h.rel,h.tape,h.drawn,h.hidden,λe he=>by
  rw[xw]at he;exact h.evs e (mem_seen e he),λe he=>by
  rw[xw]at he;exact h.evin e (mem_seen e he),h.grow,h.eqk,h.kept,λe he=>by
  rw[xw]at he;exact h.rov e (mem_seen e he),h.growa,h.shp,h.shpr,h.same⟩
theorem vS(xs:Array α)(i j:Nat)(v d:α):(xs.setIfInBounds i v).getD j d=if i=j/\j<xs.size then v else xs.getD j d:=by
 simp only[dO,EH];by_cases e:i=j
 .subst e;by_cases h:i<xs.size<;>simp[h]
 .simp[e]
theorem FI.finish(hF:FI P S fr){ops:Array aZ}{rest:List Nat}(ht:fr.todo=bI ops (i::rest)::k)(hv:∀d,(ops[i]?).bind (·.dst)=ae d->S.ft fr.fn d=au->VS S fr.fn d v=au):FI P S (fr.finish v):=by
 have e:fr.finish v={fr with tmps:=(match(ops[i]?).bind (·.dst)with|some d=>fr.tmps.setIfInBounds d v|none=>fr.tmps),todo:=bI ops rest::k}:=by unfold Frame.finish;rw[ht];rfl
 rw[e];refine⟨λit hit=>?_,hF.defers,hF.kind,hF.round,?_⟩
 .have h1:=hF.todo;rw[ht]at h1;rcases fU.1 hit with rfl|hit
  .exact h1 (bI ops (i::rest)) nt
  .exact h1 _ (kH _ hit)
 .intro t htf;show VS S fr.fn t ((match(ops[i]?).bind (·.dst)with
   |some d=>fr.tmps.setIfInBounds d v
   |none=>fr.tmps).getD t aO)=au
  cases hd:(ops[i]?).bind (·.dst)with
  |none=>exact hF.ft t htf
  |some d=>
   simp only;rw[vS];split
   .rename_i h;obtain⟨rfl,_⟩:=h;exact hv _ hd htf
   .exact hF.ft t htf
theorem FI.raise(hF:FI P S fr)(c:List PanicEntry):FI P S (fr.raise c):=by unfold Frame.raise;split<;>exact⟨hF.todo,hF.defers,hF.kind,hF.round,hF.ft⟩
theorem lF(c:List PanicEntry):(fr.raise c).kind=fr.kind:=by unfold Frame.raise;split<;>rfl
theorem qa(c:List PanicEntry):(fr.raise c).fn=fr.fn:=by unfold Frame.raise;split<;>rfl
theorem lG(v:ay):(fr.finish v).fn=fr.fn:=by unfold Frame.finish;split<;>rfl
theorem iJ(v:ay):(fr.finish v).kind=fr.kind:=by unfold Frame.finish;split<;>rfl
theorem FI.Zn(hF:FI P S fr){l:Nat}(ht:fr.todo=.inRangeFunc l::k)(v:ay):FI P S (fr.finish v):=by
 have e:fr.finish v={fr with todo:=.endRangeFunc l::k}:=by unfold Frame.finish;rw[ht]
 rw[e];have h1:=hF.todo;rw[ht]at h1;exact⟨λit hit=>(fU.1 hit).elim (λe=>by subst e;exact h1 (.inRangeFunc l) nt) λh=>h1 _ (kH _ h),hF.defers,hF.kind,hF.round,hF.ft⟩
theorem FI.mode(hF:FI P S fr)(m:FrameMode):FI P S {fr with mode:=m}:=⟨hF.todo,hF.defers,hF.kind,hF.round,hF.ft⟩
theorem FI.enter{g:Nat}{args:Array ay}(hP:S.Plain P)(h:yB P S g args){k:CallKind}(hk:k=.normal\/k=.deferred):FI P S (gL P g args k):=by refine⟨λit hit=>?_,λd hd=>(by cases hd),hk,.inl rfl,h.2⟩;obtain rfl:=List.mem_singleton.1 hit;show Du P S g aw _=au;unfold Du;rw[hP g h.1];rfl
theorem vT(fn:Func)(tmps:Array ay):ST H P (eL fn tmps):=by
 unfold eL;refine(LD _ (λx=>?_) _).then λ_=>st_pure _;split
 .exact st_pure _
 .exact(oh _).then λ_=>vM _ _
section
variable{s:Sem Next}{w:aj}
theorem jy(hk:(fr.kind==gA)=aw)(h:s.runT P w #[]=(.ok (.value v) w',er)):gB P au fr cs ah s w=.go (cy (fr.finish v) cs) w' (seen P fr.fn er++ #[]):=by simp only[gB,if_true,h,hk];rfl
theorem vU(hk:(fr.kind==gA)=aw)(h:s.runT P w #[]=(.ok .skip w',er)):gB P au fr cs ah s w=.go (cy (fr.finish aO) cs) w' (seen P fr.fn er++ #[]):=by simp only[gB,if_true,h,hk];rfl
theorem tq{ops:Array aZ}{l:List Nat}(ht:fr.todo=bI ops l::k)(hk:(fr.kind==gA)=aw){g:Nat}{args:Array ay}(h:s.runT P w #[]=(.ok (.enter g args) w',er)):gB P au fr cs ah s w=.go (cy (gL P g args .normal) (fr::cs)) w' (seen P fr.fn er++ #[]):=by simp only[gB,if_true,h,hk,ht];rfl
theorem F8{l:Nat}(ht:fr.todo=.inRangeFunc l::k)(hk:(fr.kind==gA)=aw){g:Nat}{args:Array ay}(h:s.runT P w #[]=(.ok (.enter g args) w',er)):gB P au fr cs ah s w=.go (cy (gL P g args .normal) (fr::cs)) w' (seen P fr.fn er++ #[]):=by simp only[gB,if_true,h,hk,ht];rfl
theorem I6(hk:(fr.kind==gA)=aw){ops:Array aZ}{l:List Nat}(ht:fr.todo=bI ops l::k){n:Nat}{g:FuncId}{tmps:Array ay}{x y:Code}(h:s.runT P w #[]=(.ok (.round n g tmps x y) w',er)):gB P au fr cs ah s w=.go (cy (Frame.round n g tmps x y .normal) (fr::cs)) w' (seen P fr.fn er++ #[]):=by simp only[gB,if_true,h,hk,ht];rfl
theorem vV(hk:(fr.kind==gA)=aw)(hr:fr.roundOf=ah)(h:s.runT P w #[]=(.ok .recover w',er))(hn:tryRecover fr cs=ah):gB P au fr cs ah s w=.go (cy (fr.finish .nilIface) cs) w' (seen P fr.fn er++ #[]):=by simp only[gB,if_true,h,hk,hr,hn];rfl
theorem vW(hk:(fr.kind==gA)=aw)(hr:fr.roundOf=ah)(h:s.runT P w #[]=(.ok .recover w',er))(hn:tryRecover fr cs=ae (v,cs')):gB P au fr cs ah s w=.go (cy (fr.finish v) cs') w' (seen P fr.fn er++ #[]):=by simp only[gB,if_true,h,hk,hr,hn];rfl
theorem tx(hk:(fr.kind==gA)=aw)(h:s.runT P w #[]=(.halt (.panic v) w',er)):gB P au fr cs ah s w=.go (cy (fr.raise [{v,recovered:=aw}]) cs) w' (seen P fr.fn er++ #[]):=by simp only[gB,if_true,h,hk];rfl
theorem I7(hk:(fr.kind==gA)=aw)(h:s.runT P w #[]=(.ok (.defer d) w',er)):gB P au fr cs ah s w=.go (cy ({fr with defers:=d::fr.defers}.finish aO) cs) w' (seen P fr.fn er++ #[]):=by simp only[gB,if_true,h,hk];rfl
theorem LV(hk:(fr.kind==gA)=aw){cases:Array CommCase}{b:Bool}{shape:CommShape}(h:s.runT P w #[]=(.ok (.comm cases b shape) w',er)):∃es,gB P au fr cs ah s w=.comm (cy fr cs) cases b shape w' es:=by simp only[gB,if_true,h,hk];exact⟨_,rfl⟩
theorem TC{g:Nat}{args:Array ay}(hn:((d.target matches .nil) &&(fr.mode matches .panicking _))=aw)(h:(invoke d.target d.args).runT P w #[]=(.ok (.enter g args) w',er)):callDeferred P fr cs ah d w=.go (cy (gL P g args .deferred) (fr::cs)) w' (seen P fr.fn er++ #[]):=by unfold callDeferred;rw[aU (λe=>by have e':((d.target matches .nil) &&(fr.mode matches .panicking _))=au:=e;rw[hn]at e';cases e')];simp only[h];rfl
theorem TD(hn:((d.target matches .nil) &&(fr.mode matches .panicking _))=aw)(h:(invoke d.target d.args).runT P w #[]=(.halt (.panic v) w',er)):callDeferred P fr cs ah d w=.go (cy (fr.raise [{v,recovered:=aw}]) cs) w' (seen P fr.fn er++ #[]):=by unfold callDeferred;rw[aU (λe=>by have e':((d.target matches .nil) &&(fr.mode matches .panicking _))=au:=e;rw[hn]at e';cases e')];simp only[h];rfl
theorem Zo{hh:Halt}(hd:j8 hh=au)(hn:((d.target matches .nil) &&(fr.mode matches .panicking _))=aw)(h:(invoke d.target d.args).runT P w #[]=(.halt hh w',er)):∃o w1 es,callDeferred P fr cs ah d w=.ended o w1 es:=by
 unfold callDeferred;rw[aU (λe=>by have e':((d.target matches .nil) &&(fr.mode matches .panicking _))=au:=e;rw[hn]at e';cases e')];cases hh with
 |unsupported u=>simp only[h];exact⟨_,_,_,rfl⟩
 |stuck u=>simp only[h];exact⟨_,_,_,rfl⟩
 |_=>cases hd
theorem abV(hn:((d.target matches .nil) &&(fr.mode matches .panicking _))=au):∃o w1 es,callDeferred P fr cs ah d w=.ended o w1 es:=by unfold callDeferred;refine⟨_,_,_,aX ?_⟩;exact hn
theorem tz(hk:(fr.kind==gA)=aw)(h:s.runT P w #[]=(.halt (.unsupported u) w',er))(hu:j8 (.unsupported u)=au):∃o w1 es,gB P au fr cs ah s w=.ended o w1 es:=by
 cases u<;>first
  |(simp only[gB,if_true,h,hk];exact⟨_,_,_,rfl⟩)
  |cases hu
theorem tB(hk:(fr.kind==gA)=aw){u:String}(h:s.runT P w #[]=(.halt (.stuck u) w',er)):∃o w1 es,gB P au fr cs ah s w=.ended o w1 es:=by simp only[gB,if_true,h,hk];exact⟨_,_,_,rfl⟩
end
variable(hR:S.Rows H P)(hB:S.kS P)(hL:S.rN)(hP:S.Plain P)
include hR hB hL hP
theorem F9(hd:nv P S d)(hnc:∀b,d.target≠.collected b):Simu H P (λn=>∃g args,n=.enter g args/\yB P S g args) (invoke d.target d.args):=by
 rcases hd with hd|⟨g,captured,hd,j4⟩|⟨b,hd⟩
 rotate_right
 .exact aT hd (hnc b)
 .rw[hd];exact gQ
 .rw[hd];show Simu H P _ (callFunc g (d.args++captured));unfold callFunc;refine simu_program.bind λP' hP=>?_;subst hP;obtain⟨fn,h1,h2,h3⟩:=hB g j4.1;rw[h1];simp only[h2,h3,iy,if_false];exact simu_pure ⟨_,_,rfl,j4⟩
theorem LW(hS:dP P S fr fs)(bY:Rel H a a){ops:Array aZ}{rest:List Nat}(ht:fr.todo=bI ops (i::rest)::k){o:aZ}(ho:ops[i]? =ae o)
  (hs:∀κ cz dC,qZ κ fr fs cz dC->∀m cs w,bn P m (cy cz cs) w=gB P au cz cs ah (bT fr.eval o) w):Outcome H P S fr fs a:=by
 have hs0:=hs ah fr fs (p9 _ _);have hF:=hS.fi;have hok:iu P S fr.fn o=au:=by
  have h1:=hF.todo (bI ops (i::rest)) (by rw[ht];exact nt);have h2:ops.all (iu P S fr.fn)=au:=by have h1:(ops.all (iu P S fr.fn) &&(!fr.roundOf.isSome||ops.all kz))=au:=h1;rw[cR]at h1;exact h1.1
  rw[Array.all_eq_true]at h2;obtain⟨hlt,e⟩:=bF.1 ho;have:=h2 i hlt;rwa [e]at this
 have Ll:kz o=aw->fr.roundOf=ah:=λLl=>by
  have h1:(ops.all (iu P S fr.fn) &&(!fr.roundOf.isSome||ops.all kz))=au:=hF.todo (bI ops (i::rest)) (by rw[ht];exact nt);rw[cR,qQ]at h1;rcases h1.2 with h|h
  .cases hr:fr.roundOf with
   |none=>rfl
   |some l=>rw[hr]at h;cases h
  .rw[Array.all_eq_true]at h;obtain⟨hlt,e⟩:=bF.1 ho;have:=h i hlt;rw[e,Ll]at this;cases this
 have kV:Simu H P (oG P S fr.fn o) (bT fr.eval o):=Tz hR hB hL (ρ:=fr.eval) (tmps:=fr.tmps) (λ_=>rfl) (λ_=>rfl) (λ_=>rfl) hF.ft hok;have dE:=kV a a #[] #[] bY;have hr:=λr (h:Rel H a r)=>kV a r #[] #[] h;have qI:(fr.kind==gA)=aw:=by rcases hF.kind with h|h<;>rw[h] <;>rfl
 have Ga:∀d,(ops[i]?).bind (·.dst)=ae d↔o.dst=ae d:=λd=>by rw[ho];rfl
 generalize hX:(bT fr.eval o).runT P a #[]=X at dE hr;obtain⟨rx,ex⟩:=X;cases rx with
 |ok n a'=>
  obtain⟨hn,vr,hdr,hw0⟩:=dE;cases n with
  |value v=>refine .inl ⟨fr.finish v,fs,a',hS.to (hF.finish ht λd hd hf=>hn d ((Ga d).1 hd) hf) (iJ v) (lG v),vr,hdr,λr hrel im=>?_⟩;obtain⟨_,_,_,h⟩:=hr r hrel;obtain⟨r',er,e,hw⟩:=h im;refine⟨r',seen P fr.fn er++ #[],dw hw,λκ cz dC hsw=>?_⟩;obtain⟨t2,rfl⟩:∃t2,cz={fr with todo:=t2}:=⟨_,fZ hsw⟩;exact⟨_,_,lD hsw ht v,λm cs=>(hs κ _ dC hsw m _ r).trans (jy (fr:={fr with todo:=t2}) qI e)⟩
  |skip=>refine .inl ⟨fr.finish aO,fs,a',hS.to (hF.finish ht λd hd hf=>undef_vs) (iJ _) (lG _),vr,hdr,λr hrel im=>?_⟩;obtain⟨_,_,_,h⟩:=hr r hrel;obtain⟨r',er,e,hw⟩:=h im;refine⟨r',seen P fr.fn er++ #[],dw hw,λκ cz dC hsw=>?_⟩;obtain⟨t2,rfl⟩:∃t2,cz={fr with todo:=t2}:=⟨_,fZ hsw⟩;exact⟨_,_,lD hsw ht aO,λm cs=>(hs κ _ dC hsw m _ r).trans (vU (fr:={fr with todo:=t2}) qI e)⟩
  |defer d=>have hF':FI P S {fr with defers:=d::fr.defers}:=⟨hF.todo,λx hx=>(fU.1 hx).elim (λe=>e▸hn.1) (hF.defers x),hF.kind,.inl (Ll hn.2),hF.ft⟩;refine .inl ⟨{fr with defers:=d::fr.defers}.finish aO,fs,a',hS.to (hF'.finish (by exact ht) λd hd hf=>undef_vs) (iJ _) (lG _),vr,hdr,λr hrel im=>?_⟩;obtain⟨_,_,_,h⟩:=hr r hrel;obtain⟨r',er,e,hw⟩:=h im;refine⟨r',seen P fr.fn er++ #[],dw hw,λκ cz dC hsw=>?_⟩;obtain⟨t2,rfl⟩:∃t2,cz={fr with todo:=t2}:=⟨_,fZ hsw⟩;exact⟨_,_,lD (kT (cB:={fr with defers:=d::fr.defers}) hsw rfl) (by exact ht) aO,λm cs=>(hs κ _ dC hsw m _ r).trans (I7 (fr:={fr with todo:=t2}) qI e)⟩
  |enter g args=>obtain⟨gp,j4⟩:=hn;refine .inl ⟨gL P g args .normal,fr::fs,a',⟨FI.enter hP j4 (.inl rfl),.inr ⟨λv hv=>hF.finish ht λd hd hf=>(by obtain⟨h1,h2⟩:=gp d ((Ga d).1 hd) hf;rw[BP,h1];exact hv h2),.inl ⟨ops,i,rest,k,ht⟩⟩,hS⟩,vr,hdr,λr hrel im=>?_⟩;obtain⟨_,_,_,h⟩:=hr r hrel;obtain⟨r',er,e,hw⟩:=h im;refine⟨r',seen P fr.fn er++ #[],dw hw,λκ cz dC hsw=>?_⟩;obtain⟨k2,rfl,_⟩:=fI hsw ht aJ;exact⟨_,_,tj hsw _,λm cs=>(hs κ _ dC hsw m _ r).trans (tq (fr:={fr with todo:=bI ops (i::rest)::k2}) rfl qI e)⟩
  |round n g tmps x y=>
   obtain⟨gp,hSR,h1,h2,h3,h4,h5⟩:=hn;have hFr:FI P S (Frame.round n g tmps x y .normal):=by
    refine⟨λit hit=>?_,λd hd=>(by cases hd),.inl rfl,.inr ⟨hSR,rfl,rfl⟩,h5⟩;have hit:it∈[.code x,.beginRound,.code y]:=hit;show mP P S g au it=au;simp only[fU,rP,or_false]at hit;rcases hit with rfl|rfl|rfl
    .exact uJ h1 h3
    .show(S.R&&au)=au;rw[hSR];rfl
    .exact uJ h2 h4
   refine .inl ⟨Frame.round n g tmps x y .normal,fr::fs,a',⟨hFr,.inr ⟨λv _=>hF.finish ht λd hd hf=>(by rw[gp d ((Ga d).1 hd)]at hf;cases hf),.inl ⟨ops,i,rest,k,ht⟩⟩,hS⟩,vr,hdr,λr hrel im=>?_⟩;obtain⟨_,_,_,h⟩:=hr r hrel;obtain⟨r',er,e,hw⟩:=h im;refine⟨r',seen P fr.fn er++ #[],dw hw,λκ cz dC hsw=>?_⟩;obtain⟨k2,rfl,_⟩:=fI hsw ht aJ;exact⟨_,_,tj hsw _,λm cs=>(hs κ _ dC hsw m _ r).trans (I6 (fr:={fr with todo:=bI ops (i::rest)::k2}) qI rfl e)⟩
  |comm cases b shape=>have hb:b=au:=hn;subst hb;refine .inr (.inr (.inr λm cs=>?_));obtain⟨r',er,e,hw⟩:=hw0 (λ_ _ _=>rfl);obtain⟨es,h⟩:=LV (cs:=fs++cs) qI hX;refine⟨cases,shape,a',es,(hs0 m _ a).trans h,?_⟩;exact⟨rfl,λ_ _=>.inl rfl,λb hb=>⟨(hw.rel.hid b hb).1,_,(hw.rel.hid b hb).1,rfl⟩,hw.rel.objs,rfl,rfl⟩
  |recover=>
   have eH:=Ll hn.2;have Ll:∀d,(ops[i]?).bind (·.dst)=ae d->S.ft fr.fn d=au->∀v,VS S fr.fn d v=au:=λd hd hf=>(by have:=hn.1 d ((Ga d).1 hd);rw[hf]at this;cases this);have none':(∀κ cz dC,qZ κ fr fs cz dC->∀cs:List aB,tryRecover cz (dC++cs)=ah)->Outcome H P S fr fs a:=λhno=>(by refine .inl ⟨fr.finish .nilIface,fs,a',hS.to (hF.finish ht λd hd hf=>Ll d hd hf _) (iJ _) (lG _),vr,hdr,λr hrel im=>?_⟩;obtain⟨_,_,_,h⟩:=hr r hrel;obtain⟨r',er,e,hw⟩:=h im;refine⟨r',seen P fr.fn er++ #[],dw hw,λκ cz dC hsw=>?_⟩;have abW:=hno κ cz dC hsw;obtain⟨t2,rfl⟩:∃t2,cz={fr with todo:=t2}:=⟨_,fZ hsw⟩;exact⟨_,_,lD hsw ht _,λm cs=>(hs κ _ dC hsw m _ r).trans (vV (fr:={fr with todo:=t2}) qI eH e (abW cs))⟩);rcases hF.kind with hk|hk
   .exact none' λκ cz dC hsw cs=>by have:cz.kind=.normal:=(by rw[fZ hsw];exact hk);unfold tryRecover;rw[this]
   .cases hfs:fs with
    |nil=>subst hfs;have:=hS.2;rw[hk]at this;cases this
    |cons c ny=>
     subst hfs;by_cases Zk:∃v ew,c.mode=.panicking ({v,recovered:=aw,goexit:=aw}::ew)
     .obtain⟨v,ew,hm⟩:=Zk;have LX:dP P S (fr.finish v) ({c with mode:=.panicking ({v,recovered:=au}::ew)}::ny):=(by refine⟨hF.finish ht λd hd hf=>Ll d hd hf _,.inl ((iJ v).trans hk),?_⟩;exact hS.2.2.to (hS.2.2.fi.mode _) rfl);refine .inl ⟨fr.finish v,{c with mode:=.panicking ({v,recovered:=au}::ew)}::ny,a',LX,vr,hdr,λr hrel im=>?_⟩;obtain⟨_,_,_,h⟩:=hr r hrel;obtain⟨r',er,e,hw⟩:=h im;refine⟨r',seen P fr.fn er++ #[],dw hw,λκ cz dC hsw=>?_⟩;have hs2:=hs κ cz dC hsw;obtain⟨rfl,c2,uT,rfl,Ap⟩:=hsw;have ec:=fZ Ap;refine⟨_,_,tj (kT (cB:={c with mode:=.panicking ({v,recovered:=au}::ew)}) Ap rfl) _,λm cs=>(hs2 m _ r).trans (vW qI eH e (by show tryRecover cz (c2::(uT++cs))=_;have zL:c2.mode=.panicking ({v,recovered:=aw}::ew):=(by rw[ec];exact hm);have e3:({c2 with mode:=.panicking ({v,recovered:=au}::ew)}:aB)={c with mode:=.panicking ({v,recovered:=au}::ew),todo:=c2.todo}:=(by rw[ec]);simp only[tryRecover,hk,zL,e3];rfl))⟩
     .refine none' λκ cz dC hsw cs=>?_;obtain⟨rfl,c2,uT,rfl,Ap⟩:=hsw;have ec:=fZ Ap;show tryRecover cz (c2::(uT++cs))=ah;simp only[tryRecover,hk];split
      .rename_i v ew hm;exact aT ⟨v,ew,by rw[ec]at hm;exact hm⟩ Zk
      .rfl
  |_=>exact hn.elim
 |halt h a'=>
  cases h with
  |panic v=>obtain⟨vr,hdr,_⟩:=dE;refine .inl ⟨fr.raise [{v,recovered:=aw}],fs,a',hS.to (hF.raise _) (lF _) (qa _),vr,hdr,λr hrel im=>?_⟩;obtain⟨_,_,h⟩:=hr r hrel;obtain⟨r',er,e,hw⟩:=h im;refine⟨r',seen P fr.fn er++ #[],dw hw,λκ cz dC hsw=>?_⟩;have hra:=oq hsw [{v,recovered:=aw}];obtain⟨t2,rfl⟩:∃t2,cz={fr with todo:=t2}:=⟨_,fZ hsw⟩;exact⟨_,_,hra,λm cs=>(hs κ _ dC hsw m _ r).trans (tx (fr:={fr with todo:=t2}) qI e)⟩
  |unsupported u=>refine .dead λm cs=>?_;rw[hs0];exact tz qI hX dE
  |stuck u=>refine .dead λm cs=>?_;rw[hs0];exact tB qI hX
  |_=>cases dE
omit hR hB hL hP in
theorem LY{q:iz}(hq:q.forced=aw)(w:aj):(choose q).run P w=.ok (q.cut (w.tape w.drawn q)) {w with drawn:=w.drawn+1}:=by simp[choose,Sem.run,hq,pure]
theorem Dv(hS:dP P S fr fs)(bY:Rel H a a)(hd:fr.defers=d::ds)(hnc:∀b,d.target≠.collected b)
  (hs:∀κ cz dC,qZ κ fr fs cz dC->∀m cs w,bn P m (cy cz cs) w=callDeferred P {cz with defers:=ds} cs ah d w):Outcome H P S fr fs a:=by
 have hs0:=hs ah fr fs (p9 _ _);have hF:=hS.fi;have agA:nv P S d:=hF.defers d (by rw[hd];exact nt);have eH:fr.roundOf=ah:=hF.round.resolve_right λh=>by rw[hd]at h;cases h.2.1
 have hF':FI P S {fr with defers:=ds}:=⟨hF.todo,λx hx=>hF.defers x (by rw[hd];exact kH _ hx),hF.kind,.inl eH,hF.ft⟩;have kV:=F9 hR hB hL hP (H:=H) agA hnc;have dE:=kV a a #[] #[] bY;have hr:=λr (h:Rel H a r)=>kV a r #[] #[] h;by_cases hn:((d.target matches .nil) &&(({fr with defers:=ds}:aB).mode matches .panicking _))=au
 .exact .dead λm cs=>by rw[hs0];exact abV hn
 .have qJ:((d.target matches .nil) &&(({fr with defers:=ds}:aB).mode matches .panicking _))=aw:=by simpa using hn
  generalize hX:(invoke d.target d.args).runT P a #[]=X at dE hr;obtain⟨rx,ex⟩:=X;cases rx with
  |ok n a'=>obtain⟨⟨g,args,rfl,j4⟩,vr,hdr,_⟩:=dE;refine .inl ⟨gL P g args .deferred,{fr with defers:=ds}::fs,a',⟨FI.enter hP j4 (.inr rfl),.inl rfl,hS.to hF' rfl⟩,vr,hdr,λr hrel im=>?_⟩;obtain⟨_,_,_,h⟩:=hr r hrel;obtain⟨r',er,e,hw⟩:=h im;refine⟨r',seen P fr.fn er++ #[],dw hw,λκ cz dC hsw=>?_⟩;obtain⟨t2,rfl⟩:∃t2,cz={fr with todo:=t2}:=⟨_,fZ hsw⟩;exact⟨_,_,tj (kT (cB:={fr with defers:=ds}) hsw rfl) _,λm cs=>(hs κ _ dC hsw m _ r).trans (TC (fr:={fr with todo:=t2,defers:=ds}) qJ e)⟩
  |halt h a'=>
   have Oz:j8 h=au->Outcome H P S fr fs a:=λhdd=>.dead λm cs=>(by rw[hs0];exact Zo hdd qJ hX);cases h with
   |panic v=>obtain⟨vr,hdr,_⟩:=dE;refine .inl ⟨({fr with defers:=ds}:aB).raise [{v,recovered:=aw}],fs,a',hS.to (hF'.raise _) (lF _) (qa _),vr,hdr,λr hrel im=>?_⟩;obtain⟨_,_,h⟩:=hr r hrel;obtain⟨r',er,e,hw⟩:=h im;refine⟨r',seen P fr.fn er++ #[],dw hw,λκ cz dC hsw=>?_⟩;have hra:=oq (kT (cB:={fr with defers:=ds}) hsw rfl) [{v,recovered:=aw}];obtain⟨t2,rfl⟩:∃t2,cz={fr with todo:=t2}:=⟨_,fZ hsw⟩;exact⟨_,_,hra,λm cs=>(hs κ _ dC hsw m _ r).trans (TD (fr:={fr with todo:=t2,defers:=ds}) qJ e)⟩
   |unsupported u=>exact Oz dE
   |stuck u=>exact Oz rfl
   |_=>cases dE
omit hR hB hL hP in
theorem I8{a2 r r1 r2:aj}(h0:a.drawn<=a1.drawn)(Zc:a1.drawn<=a2.drawn)(h1:Went H #[] a a1 r r1 e1)(h2:Went H #[] a1 a2 r1 r2 e2):Went H #[] a a2 r r2 (e1++e2):=Went.trans (er:=e1) h0 Zc h1 ⟨h2.rel,h2.tape,h2.drawn,h2.hidden,λe he=>(ib.1 he).imp id λh=>(h2.evs e h).resolve_left aJ,λe he=>(ib.1 he).imp id λh=>(h2.evin e h).resolve_left aJ,h2.grow,h2.eqk,h2.kept,λe he=>(ib.1 he).imp id λh=>(h2.rov e h).resolve_left aJ,h2.growa,h2.shp,h2.shpr,h2.same⟩
omit hR hB hL hP in
theorem BS{r:aj}(h:Went H #[] a a' r r' er):Went H #[] a a' r r' (seen P f er):=by have:=dw (P:=P) (f:=f) h;rwa [xw]at this
theorem q8(hS:dP P S fr fs)(bY:Rel H a a){l:Nat}(hl:fr.roundOf=ae l){j:Option Code}(hj:∀c,j=ae c->uH c=au)
  (hs:∀κ cz dC,qZ κ fr fs cz dC->∀m cs w,∃o,bn P m (cy cz cs) w=GStep.after (seen P fr.fn ((Instr.endRound l j).runT P w #[]).2) (match((Instr.endRound l j).runT P w #[]).1 with
   |.ok v w=>doReturn P m cz cs ah v w
   |.halt _ w=>.ended o w)):Outcome H P S fr fs a:=by
 have hF:=hS.fi;have nz:fr.kind=.normal:=(hF.round.resolve_left (by rw[hl];simp)).2.2;have kV:=qV (H:=H) (P:=P) l j hj;have dE:=kV a a #[] #[] bY;have hr:=λr (h:Rel H a r)=>kV a r #[] #[] h;have hs0:=hs ah fr fs (p9 _ _);generalize hX:(Instr.endRound l j).runT P a #[]=X at dE hr;obtain⟨rx,ex⟩:=X;cases rx with
 |ok v a'=>
  obtain⟨hv,vr,hdr,_⟩:=dE;cases fs with
  |nil=>refine .inr (.inl ⟨rfl,λm c cs=>?_⟩);obtain⟨o,e⟩:=hs0 m (c::cs) a;refine⟨c.finish v,a',seen P fr.fn ex++ #[],?_,.inl ⟨v,rfl⟩⟩;rw[e,hX];simp only[doReturn,nz];rfl
  |cons c fs=>obtain⟨_,hk,LX⟩:=hS;obtain⟨mh,hat⟩:=hk.resolve_left (by rw[nz];simp);refine .inl ⟨c.finish v,fs,a',LX.to (mh v λ_=>by subst hv;rfl) (iJ v) (lG v),vr,hdr,λr hrel im=>?_⟩;obtain⟨_,_,_,h⟩:=hr r hrel;obtain⟨r',er,e,hw⟩:=h im;refine⟨r',seen P fr.fn er++ #[],dw hw,λκ cz dC hsw=>?_⟩;have hs2:=hs κ cz dC hsw;obtain⟨rfl,c2,uT,rfl,Ap⟩:=hsw;refine⟨_,_,zK Ap hat v,λm cs=>?_⟩;obtain⟨o,e3⟩:=hs2 m (c2::(uT++cs)) r;rw[jZ,e3,e];simp only[doReturn,nz];rfl
 |halt h a'=>
  have Oz:Outcome H P S fr fs a:=.dead λm cs=>by obtain⟨o,e⟩:=hs0 m cs a;rw[e,hX];exact⟨_,_,_,rfl⟩
  exact Oz
theorem LZ(hS:dP P S fr fs)(bY:Rel H a a)(hm:fr.mode=.run){g:Operand}{x y:Code}(lu:fr.todo=.code (.rangeFunc g ps x y)::k)(hit:dZ P S fr.fn (.rangeFunc g ps x y)=au)(eH:fr.roundOf=ah):Outcome H P S fr fs a:=by
 have hF:=hS.fi;have qI:(fr.kind==gA)=aw:=by rcases hF.kind with h|h<;>rw[h] <;>rfl
 simp only[dZ,cR]at hit;obtain⟨⟨⟨⟨⟨⟨hSR,hg⟩,I9⟩,hx1⟩,hy1⟩,hx2⟩,hy2⟩:=hit;have sB:∀t2 m cs w,bn P m (cy {fr with todo:=t2} cs) w=fJ P m au {fr with todo:=t2} cs ah w:=λt2 m cs w=>by simp only[bn,hm]
 have hlk:qO zB hZ {state:=.ready,pending:=ah,fn:=fr.fn,tmps:=fr.tmps,params:=ps,assign:=x,body:=y,defers:=0}=au:=by
  obtain⟨rfl,rfl⟩:=hR.more.1 hSR;unfold qO;simp only[cR];refine⟨⟨⟨⟨⟨⟨I9,hx1⟩,hy1⟩,hx2⟩,hy2⟩,?_⟩,trivial⟩;rw[iT];intro t _;cases xt:hZ.ft fr.fn t with
  |false=>rfl
  |true=>rw[hF.ft t xt];rfl
 have kV:=Ds (H:=H) (P:=P) hlk;have dE:=kV a a #[] #[] bY;have hr:=λr (h:Rel H a r)=>kV a r #[] #[] h;have hX0:(Instr.enterLoop fr.fn fr.tmps ps x y ah).runT P a #[]=(Instr.enterLoop fr.fn fr.tmps ps x y ah).runT P a #[]:=rfl;generalize hX:(Instr.enterLoop fr.fn fr.tmps ps x y ah).runT P a #[]=X at dE hr;obtain⟨rx,ex⟩:=X;cases rx with
 |halt h a'=>have:∃v a',(Instr.enterLoop fr.fn fr.tmps ps x y ah).runT P a #[]=(.ok v a',#[]):=⟨_,_,rfl⟩;obtain⟨v,a2,e⟩:=this;rw[hX]at e;cases e
 |ok z a1=>
  obtain⟨l,mark⟩:=z;obtain⟨⟨r0,hmk⟩,vr,hdr,hw0⟩:=dE;have hmk:mark=[{target:=.collected r0,args:=#[]}]:=hmk;subst hmk;let jg:aB:={fr with todo:=.inRangeFunc l::k,defers:={target:=.collected r0,args:=#[]}::fr.defers,roundOf:=ah};have xa:FI P S jg:=by
   refine⟨λit hit=>?_,λd hd=>?_,hF.kind,.inl rfl,hF.ft⟩
   .rcases fU.1 hit with rfl|hit
    .show(S.R&&au)=au;rw[hSR];rfl
    .have:=hF.todo it (by rw[lu];exact kH _ hit);rw[eH]at this;exact this
   .rcases fU.1 hd with rfl|hd
    .exact .inr (.inr ⟨r0,rfl⟩)
    .exact hF.defers d hd
  let s2:Sem Next:=do
   let d←resolve jg.eval {callee:=.value g,args:=#[.const (.func (.yield l) #[] #[])],argTypes:=#[]} 0
   invoke d.target d.args
  have hv:VI S (fr.eval g)=au:=xr (it:=au) (λ_=>rfl) (λ_=>rfl) (λ_=>rfl) hF.ft hg;have aaW:Simu H P (λn=>∃f args,n=.enter f args/\yB P S f args) s2:=by
   show Simu H P _ (Deferred.ofValue (jg.eval g) (#[Operand.const (.func (.yield l) #[] #[])].map jg.eval) >>= λd=>invoke d.target d.args);have e1:jg.eval g=fr.eval g:=(by cases g<;>rfl);have em:(#[Operand.const (.func (.yield l) #[] #[])].map jg.eval)=#[.func (.yield l) #[] #[]]:=(by simp[Frame.eval]);rw[e1,em];generalize fr.eval g=v at hv;unfold Deferred.ofValue;cases v with
   |func fn first captured=>
    refine Simu.bind (p:=λd=>d={target:=.fn fn captured,args:=first++ #[.func (.yield l) #[] #[]]}) (simu_pure rfl) λd hd=>?_;subst hd;cases fn with
    |func f=>
     simp only[VI,cR,decide_eq_true_eq]at hv;obtain⟨⟨hI,hfi⟩,tC⟩:=hv;obtain⟨hLf,xt⟩:=hR.more.2.1 f hI;have vX:first=#[]:=by simpa[Array.isEmpty]using hfi
     subst vX;show Simu H P _ (callFunc f ((#[] ++ #[Value.func (.yield l) #[] #[]]) ++captured));unfold callFunc;refine simu_program.bind λP' hP'=>?_;subst hP';obtain⟨fn,b1,b2,b3⟩:=hB f hLf;rw[b1];simp only[b2,b3,iy,if_false];refine simu_pure ⟨f,_,rfl,hLf,λt ht=>?_⟩;obtain⟨agB,ht0⟩:=xt t ht;rw[BP,agB];show VF S _=au;rcases ht0 with rfl|ht8
     .rw[dO];simp only[Array.empty_append];rw[Array.getElem?_append_left dp,Array.getElem?_append_left aJ];show(S.R&&_)=au;rw[hSR];rfl
     .rw[dO,Array.getElem?_append_right dp,rO];split<;>exact Tv
    |_=>cases hv
   |nilFunc=>refine Simu.bind (p:=λd=>d.target=.nil) (simu_pure rfl) λd hd=>?_;rw[hd];exact gQ
   |_=>exact(dead_halt (h:=.stuck _) rfl).bind.p5
  obtain⟨rs,ers,es1,PY⟩:=hw0 (λ_ _ _=>rfl);have abX:Rel H a1 a1:=⟨rfl,λ_ _=>.inl rfl,λb hb=>⟨(PY.rel.hid b hb).1,_,(PY.rel.hid b hb).1,rfl⟩,PY.rel.objs,rfl,rfl⟩;have BU:=aaW a1 a1 #[] #[] abX;have hr2:=λr (h:Rel H a1 r)=>aaW a1 r #[] #[] h;have hstep:∀k2 m cs (r r1:aj) TE,(Instr.enterLoop fr.fn fr.tmps ps x y ah).runT P r #[]=(.ok (l,[{target:=.collected r0,args:=#[]}]) r1,TE)->bn P m (cy {fr with todo:=.code (.rangeFunc g ps x y)::k2} cs) r=GStep.after (seen P fr.fn TE) (gB P au {jg with todo:=.inRangeFunc l::k2} cs ah s2 r1):=λk2 m cs r r1 TE e=>by rw[sB];simp only[fJ,eH,e];rfl
  generalize hY:s2.runT P a1 #[]=Y at BU hr2;obtain⟨ry,ey⟩:=Y;cases ry with
  |ok n a2=>obtain⟨⟨f,args,rfl,j4⟩,abY,TG,_⟩:=BU;refine .inl ⟨gL P f args .normal,jg::fs,a2,⟨FI.enter hP j4 (.inl rfl),.inr ⟨λv _=>xa.Zn rfl v,.inr ⟨l,k,rfl⟩⟩,hS.to xa rfl⟩,abY.trans vr,ai,λr hrel im=>?_⟩;obtain⟨_,_,_,h⟩:=hr r hrel;obtain⟨r1,TE,e1,iA⟩:=h (im.left TG);obtain⟨_,_,_,h2⟩:=hr2 r1 iA.rel;obtain⟨r2,Ze,e2,hw2⟩:=h2 (im.right hdr vr iA);refine⟨r2,seen P fr.fn TE++(seen P fr.fn Ze++ #[]),I8 hdr TG (BS iA) (dw hw2),λκ cz dC hsw=>?_⟩;obtain⟨k2,rfl,h3,_⟩:=fI hsw lu aJ;refine⟨_,_,tj (h3 [.inRangeFunc l] jg rfl) _,λm cs=>?_⟩;rw[hstep k2 m _ r r1 TE e1,F8 (fr:={jg with todo:=.inRangeFunc l::k2}) rfl qI e2];rfl
  |halt h a2=>
   have hst:=hstep k;have etd:({fr with todo:=.code (.rangeFunc g ps x y)::k}:aB)=fr:=(by rw[←lu]);have aeo:(Instr.enterLoop fr.fn fr.tmps ps x y ah).runT P a #[]=(.ok (l,[{target:=.collected r0,args:=#[]}]) a1,ex):=hX;cases h with
   |panic v=>obtain⟨abY,TG,_⟩:=BU;refine .inl ⟨jg.raise [{v,recovered:=aw}],fs,a2,hS.to (xa.raise _) (lF _) (qa _),abY.trans vr,ai,λr hrel im=>?_⟩;obtain⟨_,_,_,h⟩:=hr r hrel;obtain⟨r1,TE,e1,iA⟩:=h (im.left TG);obtain⟨_,_,h2⟩:=hr2 r1 iA.rel;obtain⟨r2,Ze,e2,hw2⟩:=h2 (im.right hdr vr iA);refine⟨r2,seen P fr.fn TE++(seen P fr.fn Ze++ #[]),I8 hdr TG (BS iA) (dw hw2),λκ cz dC hsw=>?_⟩;obtain⟨k2,rfl,h3,_⟩:=fI hsw lu aJ;refine⟨_,_,oq (h3 [.inRangeFunc l] jg rfl) _,λm cs=>?_⟩;rw[hstep k2 m _ r r1 TE e1,tx (fr:={jg with todo:=.inRangeFunc l::k2}) qI e2];rfl
   |unsupported u=>refine .dead λm cs=>?_;rw[←etd,hst m cs a a1 ex aeo];obtain⟨o,w1,es,e⟩:=tz (fr:={jg with todo:=.inRangeFunc l::k}) (cs:=cs) qI hY BU;rw[e];exact⟨_,_,_,rfl⟩
   |stuck u=>refine .dead λm cs=>?_;rw[←etd,hst m cs a a1 ex aeo];obtain⟨o,w1,es,e⟩:=tB (fr:={jg with todo:=.inRangeFunc l::k}) (cs:=cs) qI hY;rw[e];exact⟨_,_,_,rfl⟩
   |_=>cases BU
theorem Dw(hS:dP P S fr fs)(bY:Rel H a a)(hm:fr.mode=.run){l:Nat}(lu:fr.todo=.endRangeFunc l::k)(eH:fr.roundOf=ah):Outcome H P S fr fs a:=by
 have hF:=hS.fi;have sB:∀t2 m cs w,bn P m (cy {fr with todo:=t2} cs) w=fJ P m au {fr with todo:=t2} cs ah w:=λt2 m cs w=>by simp only[bn,hm]
 have hex:∀m cs w,bn P m (cy fr cs) w=fJ P m au fr cs ah w:=sB fr.todo;have kV:=IU (H:=H) (P:=P) l;have dE:=kV a a #[] #[] bY;have hr:=λr (h:Rel H a r)=>kV a r #[] #[] h;generalize hX:(Instr.endLoop l).runT P a #[]=X at dE hr;obtain⟨rx,ex⟩:=X;have Im:∀it∈k,mP P S fr.fn fr.roundOf.isSome it=au:=λit h=>hF.todo it (by rw[lu];exact kH _ h);cases rx with
 |ok j a'=>
  obtain⟨hj,vr,hdr,_⟩:=dE;have hjj:∀it∈(j.map Item.code).toList,mP P S fr.fn fr.roundOf.isSome it=au:=λit h=>by
   cases j with
   |none=>cases h
   |some c=>
    obtain rfl:it=.code c:=(by simpa using h);have:=hj c rfl;cases c<;>first
     |exact uJ rfl rfl
     |cases this
  refine .inl ⟨{fr with todo:=(j.map Item.code).toList++k},fs,a',hS.to ⟨λit h=>(List.mem_append.1 h).elim (hjj it) (Im it),hF.defers,hF.kind,hF.round,hF.ft⟩ rfl,vr,hdr,λr hrel im=>?_⟩;obtain⟨_,_,_,h⟩:=hr r hrel;obtain⟨r',er,e,hw⟩:=h im;refine⟨r',seen P fr.fn er++ #[],dw hw,λκ cz dC hsw=>?_⟩;obtain⟨k2,rfl,h3,_⟩:=fI hsw lu aJ;refine⟨_,_,h3 _ _ rfl,λm cs=>?_⟩;rw[sB];simp only[fJ,e];rfl
 |halt h a'=>
  cases h with
  |panic v=>obtain⟨vr,hdr,_⟩:=dE;refine .inl ⟨fr.raise [{v,recovered:=aw}],fs,a',hS.to (hF.raise _) (lF _) (qa _),vr,hdr,λr hrel im=>?_⟩;obtain⟨_,_,h⟩:=hr r hrel;obtain⟨r',er,e,hw⟩:=h im;refine⟨r',seen P fr.fn er++ #[],dw hw,λκ cz dC hsw=>?_⟩;have hra:=oq hsw [{v,recovered:=aw}];obtain⟨k2,rfl,_⟩:=fI hsw lu aJ;refine⟨_,_,hra,λm cs=>?_⟩;rw[sB];simp only[fJ,e];rfl
  |_=>exact .dead λm cs=>by rw[hex];simp only[fJ,lu,hX];exact⟨_,_,_,rfl⟩
theorem Aq(hS:dP P S fr fs)(bY:Rel H a a)(hm:fr.mode=.run){l:Nat}(lu:fr.todo=.beginRound::k)(eH:fr.roundOf=ae l):Outcome H P S fr fs a:=by
 have hF:=hS.fi;have qI:(fr.kind==gA)=aw:=by rcases hF.kind with h|h<;>rw[h] <;>rfl
 have sB:∀t2 m cs w,bn P m (cy {fr with todo:=t2} cs) w=fJ P m au {fr with todo:=t2} cs ah w:=λt2 m cs w=>by simp only[bn,hm]
 have hex:∀m cs w,bn P m (cy fr cs) w=fJ P m au fr cs ah w:=sB fr.todo;have hs2:∀k2 m cs w,bn P m (cy {fr with todo:=.beginRound::k2} cs) w=gB P au {fr with todo:=.beginRound::k2} cs ah (do Instr.beginRound l;pure .skip) w:=λk2 m cs w=>by rw[sB];simp only[fJ,eH];rfl
 have kV:Simu H P (λn=>n=.skip) (do Instr.beginRound l;pure .skip:Sem Next):=(BO (H:=H) (P:=P) l).then λ_=>simu_pure rfl;have dE:=kV a a #[] #[] bY;have hr:=λr (h:Rel H a r)=>kV a r #[] #[] h;have etd:({fr with todo:=.beginRound::k}:aB)=fr:=by rw[←lu]
 generalize hX:(do Instr.beginRound l;pure .skip:Sem Next).runT P a #[]=X at dE hr;obtain⟨rx,ex⟩:=X;cases rx with
 |ok n a'=>obtain⟨rfl,vr,hdr,_⟩:=dE;refine .inl ⟨{fr with todo:=k},fs,a',hS.to ⟨λit h=>hF.todo it (by rw[lu];exact kH _ h),hF.defers,hF.kind,hF.round,hF.ft⟩ rfl,vr,hdr,λr hrel im=>?_⟩;obtain⟨_,_,_,h⟩:=hr r hrel;obtain⟨r',er,e,hw⟩:=h im;refine⟨r',seen P fr.fn er++ #[],dw hw,λκ cz dC hsw=>?_⟩;obtain⟨k2,rfl,h3,_⟩:=fI hsw lu aJ;exact⟨_,_,h3 [] {fr with todo:=k} rfl,λm cs=>(hs2 k2 m _ r).trans (vU (fr:={fr with todo:=.beginRound::k2}) qI e)⟩
 |halt h a'=>
  cases h with
  |panic v=>obtain⟨vr,hdr,_⟩:=dE;refine .inl ⟨fr.raise [{v,recovered:=aw}],fs,a',hS.to (hF.raise _) (lF _) (qa _),vr,hdr,λr hrel im=>?_⟩;obtain⟨_,_,h⟩:=hr r hrel;obtain⟨r',er,e,hw⟩:=h im;refine⟨r',seen P fr.fn er++ #[],dw hw,λκ cz dC hsw=>?_⟩;have hra:=oq hsw [{v,recovered:=aw}];obtain⟨k2,rfl,_⟩:=fI hsw lu aJ;exact⟨_,_,hra,λm cs=>(hs2 k2 m _ r).trans (tx (fr:={fr with todo:=.beginRound::k2}) qI e)⟩
  |unsupported u=>refine .dead λm cs=>?_;rw[←etd,hs2];exact tz (fr:={fr with todo:=.beginRound::k}) qI hX dE
  |stuck u=>refine .dead λm cs=>?_;rw[←etd,hs2];exact tB (fr:={fr with todo:=.beginRound::k}) qI hX
  |_=>cases dE
theorem step_collected(hS:dP P S fr fs)(bY:Rel H a a)(hm:fr.mode≠.run)(hd:fr.defers={target:=.collected b,args:=xs}::ds):Outcome H P S fr fs a:=by
 have hF:=hS.fi;have eH:fr.roundOf=ah:=hF.round.resolve_right λh=>by rw[hd]at h;cases h.2.1
 have TH:∀fr:aB,fr.mode≠.run->∀m cs w,bn P m (cy fr cs) w=unwind P m fr cs ah w:=λfr hm m cs w=>by
  cases e:fr.mode with
  |run=>exact aT e hm
  |_=>simp only[bn,e]
 have kV:=yA (H:=H) (P:=P) b;have dE:=kV a a #[] #[] bY;have hr:=λr (h:Rel H a r)=>kV a r #[] #[] h;generalize hX:(Instr.takeDeferred b).runT P a #[]=X at dE hr;obtain⟨rx,ex⟩:=X;cases rx with
 |ok calls a'=>obtain⟨rfl,vr,hdr,_⟩:=dE;refine .inl ⟨{fr with defers:=[] ++ds},fs,a',hS.to ⟨hF.todo,λd h=>hF.defers d (by rw[hd];exact kH _ h),hF.kind,.inl eH,hF.ft⟩ rfl,vr,hdr,λr hrel im=>?_⟩;obtain⟨_,_,_,h⟩:=hr r hrel;obtain⟨r',er,e,hw⟩:=h im;refine⟨r',seen P fr.fn er++ #[],dw hw,λκ cz dC hsw=>?_⟩;have h3:=kT (cB:={fr with defers:=[] ++ds}) hsw rfl;obtain⟨t2,rfl⟩:∃t2,cz={fr with todo:=t2}:=⟨_,fZ hsw⟩;refine⟨_,_,h3,λm cs=>?_⟩;rw[TH {fr with todo:=t2} hm];unfold unwind;simp only[hd,e];rfl
 |halt h a'=>refine .dead λm cs=>?_;rw[TH fr hm];unfold unwind;simp only[hd,hX];exact⟨_,_,_,rfl⟩
omit hR hB hL hP in
theorem results_tmp{fn:Func}{r:Nat}(h:fn.results=#[.tmp r])(tmps:Array ay):eL fn tmps=pure (tmps.getD r aO):=by simp[eL,h]
theorem Ja(hS:dP P S fr fs)(bY:Rel H a a):Outcome H P S fr fs a:=by
 have hF:=hS.fi;have L4:∀{it k},fr.todo=it::k->mP P S fr.fn fr.roundOf.isSome it=au/\∀x∈k,mP P S fr.fn fr.roundOf.isSome x=au:=λ{it k} e=>by have h1:=hF.todo;rw[e]at h1;exact⟨h1 _ nt,λx hx=>h1 _ (kH _ hx)⟩
 by_cases hm:fr.mode=.run
 .have sB:∀t2 m cs w,bn P m (cy {fr with todo:=t2} cs) w=fJ P m au {fr with todo:=t2} cs ah w:=λt2 m cs w=>by simp only[bn,hm]
  have hex:∀m cs w,bn P m (cy fr cs) w=fJ P m au fr cs ah w:=sB fr.todo;have rQ:∀{it k} pre,fr.todo=it::k->it≠.code (.refuse "")->(∀it∈pre++k,mP P S fr.fn fr.roundOf.isSome it=au)->(∀k2 m cs w,fJ P m au {fr with todo:=it::k2} cs ah w=.go (cy {fr with todo:=pre++k2} cs) w #[])->Outcome H P S fr fs a:=λ{it k} pre ht hne h1 h2=> .pure (cB:={fr with todo:=pre++k}) (hS.to ⟨h1,hF.defers,hF.kind,hF.round,hF.ft⟩ rfl) λκ cz dC hsw=>by obtain⟨k2,rfl,h3,_⟩:=fI hsw ht hne;exact⟨_,h3 pre _ rfl,λm cs w=>(sB _ m cs w).trans (h2 k2 m cs w)⟩
  have aep:(∀κ cz dC,qZ κ fr fs cz dC->∀m cs w,fJ P m au cz cs ah w=.go (cy {cz with mode:=.returning} cs) w #[])->Outcome H P S fr fs a:=λh2=> .pure (cB:={fr with mode:=.returning}) (hS.to (hF.mode _) rfl) λκ cz dC hsw=>by have h2:=h2 κ cz dC hsw;have h3:=kT (cB:={fr with mode:=.returning}) hsw rfl;obtain⟨t2,rfl⟩:∃t2,cz={fr with todo:=t2}:=⟨_,fZ hsw⟩;exact⟨_,h3,λm cs w=>(sB _ m cs w).trans (h2 m cs w)⟩
  have BV:(∀m cs,∃o w es,fJ P m au fr cs ah a=.ended o w es)->Outcome H P S fr fs a:=λh2=>.dead λm cs=>by rw[hex];exact h2 m cs
  cases lu:fr.todo with
  |nil=>
   cases eH:fr.roundOf with
   |none=>refine aep λκ cz dC hsw m cs w=>?_;have e0:=Oy hsw lu;subst e0;simp only[fJ,lu,eH];rfl
   |some l=>refine q8 hR hB hL hP hS bY eH (j:=ah) (λc h=>dB) λκ cz dC hsw m cs w=>?_;have e0:=Oy hsw lu;subst e0;refine⟨.stuck "range over a function: no such loop" (cz.pos P),?_⟩;rw[hex];simp only[fJ,lu,eH];rfl
  |cons it k=>
   obtain⟨hit,hk⟩:=L4 lu;have zM:∀{x},mP P S fr.fn fr.roundOf.isSome x=au->∀y∈x::k,mP P S fr.fn fr.roundOf.isSome y=au:=λ{x} hx y hy=>(fU.1 hy).elim (λe=>e▸hx) (hk y);cases it with
   |code c=>
    cases c with
    |skip=>exact rQ [] lu aJ hk λk2 m cs w=>rfl
    |label l=>exact rQ [] lu aJ hk λk2 m cs w=>rfl
    |ret=>
     cases eH:fr.roundOf with
     |none=>refine aep λκ cz dC hsw m cs w=>?_;obtain⟨k2,rfl,_⟩:=fI hsw lu aJ;simp only[fJ,eH];rfl
     |some l=>refine q8 hR hB hL hP hS bY eH (j:=ae .ret) (λc h=>by cases h;rfl) λκ cz dC hsw m cs w=>?_;obtain⟨k2,rfl,_⟩:=fI hsw lu aJ;refine⟨.stuck "range over a function: no such loop" (({fr with todo:=.code .ret::k2}:aB).pos P),?_⟩;rw[sB];simp only[fJ,eH];rfl
    |seq x y=>have hit:=F6.1 hit;exact rQ [.code x,.code y] lu aJ (λz hz=>(fU.1 hz).elim (λe=>e▸hit.1) λhz=>zM (x:=.code y) hit.2 z hz) λk2 m cs w=>rfl
    |cond x t e=>
     have hit:=TA.1 hit;cases hx:fr.eval x with
     |bool b=>exact rQ [.code (if b then t else e)] lu aJ (zM (x:=.code (if b then t else e)) (by cases b<;>simp[mP,hit.1,hit.2])) λk2 m cs w=>(by(have hx2:({fr with todo:=.code (.cond x t e)::k2}:aB).eval x=.bool b:=hx);(simp only[fJ,hx2]);rfl)
     |_=>exact BV λm cs=>⟨_,_,_,by simp only[fJ,lu,hx];rfl⟩
    |block id b=>exact rQ [.code b,.inBlock id] lu aJ (λz hz=>(fU.1 hz).elim (λe=>e▸hit) λhz=>zM (x:=.inBlock id) rfl z hz) λk2 m cs w=>rfl
    |loop b=>exact rQ [.code b,.inLoop b] lu aJ (λz hz=>(fU.1 hz).elim (λe=>e▸hit) λhz=>zM (x:=.inLoop b) hit z hz) λk2 m cs w=>rfl
    |scope b=>exact rQ [.code b,.inScope b] lu aJ (λz hz=>(fU.1 hz).elim (λe=>e▸hit) λhz=>zM (x:=.inScope b) hit z hz) λk2 m cs w=>rfl
    |exit id=>
     cases he:exitTo id k with
     |none=>
      cases eH:fr.roundOf with
      |none=>exact BV λm cs=>⟨_,_,_,by simp only[fJ,lu,he,eH,Option.elim];rfl⟩
      |some lp=>
       cases fs with
       |nil=>
        have kV:=qV (H:=H) (P:=P) lp (ae (.exit id)) (λc h=>by cases h;rfl);have dE:=kV a a #[] #[] bY;have nz:fr.kind=.normal:=hS.2;generalize hX:(Instr.endRound lp (ae (.exit id))).runT P a #[]=X at dE;obtain⟨rx,ex⟩:=X;cases rx with
        |ok v a'=>exact .inr (.inl ⟨rfl,λm c cs=>⟨c.finish v,a',_,by rw[hex];simp only[fJ,lu,he,eH,Option.elim,hX,doReturn,nz];rfl,.inl ⟨v,rfl⟩⟩⟩)
        |halt h a'=>exact BV λm cs=>⟨_,_,_,by simp only[fJ,lu,he,eH,Option.elim,hX];rfl⟩
       |cons c0 fs0=>refine q8 hR hB hL hP hS bY eH (j:=ae (.exit id)) (λc h=>by cases h;rfl) λκ cz dC hsw m cs w=>?_;obtain⟨rfl,_⟩:=hsw;refine⟨.stuck "range over a function: no such loop" (cz.pos P),?_⟩;rw[hex];simp only[fJ,lu,he,eH,Option.elim];rfl
     |some k'=>refine .pure (cB:={fr with todo:=k'}) (hS.to ⟨λx hx=>hk x (vP he x hx),hF.defers,hF.kind,hF.round,hF.ft⟩ rfl) λκ cz dC hsw=>?_;obtain⟨k2,rfl,_,h4,_⟩:=fI hsw lu aJ;obtain⟨k3,h5,h6⟩:=h4 id k' he;exact⟨_,h6,λm cs w=>(sB _ m cs w).trans (by simp only[fJ,h5,Option.elim])⟩
    |goto l=>
     cases he:gotoIn l k with
     |none=>
      cases eH:fr.roundOf with
      |none=>exact BV λm cs=>⟨_,_,_,by simp only[fJ,lu,he,eH,Option.elim];rfl⟩
      |some lp=>
       cases fs with
       |nil=>
        have kV:=qV (H:=H) (P:=P) lp (ae (.goto l)) (λc h=>by cases h;rfl);have dE:=kV a a #[] #[] bY;have nz:fr.kind=.normal:=hS.2;generalize hX:(Instr.endRound lp (ae (.goto l))).runT P a #[]=X at dE;obtain⟨rx,ex⟩:=X;cases rx with
        |ok v a'=>exact .inr (.inl ⟨rfl,λm c cs=>⟨c.finish v,a',_,by rw[hex];simp only[fJ,lu,he,eH,Option.elim,hX,doReturn,nz];rfl,.inl ⟨v,rfl⟩⟩⟩)
        |halt h a'=>exact BV λm cs=>⟨_,_,_,by simp only[fJ,lu,he,eH,Option.elim,hX];rfl⟩
       |cons c0 fs0=>refine q8 hR hB hL hP hS bY eH (j:=ae (.goto l)) (λc h=>by cases h;rfl) λκ cz dC hsw m cs w=>?_;obtain⟨rfl,_⟩:=hsw;refine⟨.stuck "range over a function: no such loop" (cz.pos P),?_⟩;rw[hex];simp only[fJ,lu,he,eH,Option.elim];rfl
     |some k'=>refine .pure (cB:={fr with todo:=k'}) (hS.to ⟨yE hk he,hF.defers,hF.kind,hF.round,hF.ft⟩ rfl) λκ cz dC hsw=>?_;obtain⟨k2,rfl,_,_,h4⟩:=fI hsw lu aJ;obtain⟨k3,h5,h6⟩:=h4 l k' he;exact⟨_,h6,λm cs w=>(sB _ m cs w).trans (by simp only[fJ,h5,Option.elim])⟩
    |refuse why=>exact BV λm cs=>⟨_,_,_,by simp only[fJ,lu];rfl⟩
    |rangeFunc g ps x y=>
     have h:(dZ P S fr.fn (.rangeFunc g ps x y) &&(!fr.roundOf.isSome||false))=au:=hit;rw[cR]at h;exact LZ hR hB hL hP hS bY hm lu h.1 (by cases e:fr.roundOf with
      |none=>rfl
      |some l=>rw[e]at h;exact aT h.2 aJ)
    |region id ops draw=>
     cases draw with
     |false=>exact rQ [bI ops (dx ops.size)] lu aJ (zM (x:=bI ops (dx ops.size)) hit) λk2 m cs w=>rfl
     |true=>have hq:(Question.order fr.fn id).forced=aw:=rfl;refine .inl ⟨{fr with todo:=bI ops (Region.schedule (P.follows .mixedOrders) ops ((Question.order fr.fn id).cut (a.tape a.drawn (.order fr.fn id))))::k},fs,{a with drawn:=a.drawn+1},hS.to ⟨zM (x:=bI ops _) hit,hF.defers,hF.kind,hF.round,hF.ft⟩ rfl,rfl,Nat.le_succ _,λr hrel im=>?_⟩;refine⟨{r with drawn:=r.drawn+1},#[],⟨⟨hrel.size,hrel.same,hrel.hid,hrel.objs,hrel.os,hrel.output⟩,rfl,by show r.drawn+1=r.drawn+(a.drawn+1-a.drawn);omega,λ_ _=>rfl,λ_ h=>.inl h,λ_ h=>.inl h,bJ _,jr hrel,λy hy=>⟨rfl,hy⟩,λ_ h=>.inl h,bJ _,eG _,eG _,rfl,rfl⟩,λκ cz dC hsw=>?_⟩;obtain⟨k2,rfl,h3,_⟩:=fI hsw lu aJ;refine⟨_,_,h3 [bI ops _] _ rfl,λm cs=>?_⟩;have e:=im 0 (.order fr.fn id) aJ;simp only[Nat.add_zero]at e;rw[e,sB];simp only[fJ,LY hq];rfl
   |inBlock id=>exact rQ [] lu aJ hk λk2 m cs w=>rfl
   |inScope b=>exact rQ [] lu aJ hk λk2 m cs w=>rfl
   |inLoop b=>exact rQ [.code b,.inLoop b] lu aJ (λz hz=>(fU.1 hz).elim (λe=>e▸hit) λhz=>zM (x:=.inLoop b) hit z hz) λk2 m cs w=>rfl
   |inRegion ops l=>
    cases l with
    |nil=>exact rQ [] lu aJ hk λk2 m cs w=>rfl
    |cons i rest=>
     by_cases hw:((ops[i]?).map (dF · (dW ops fr.tmps))).getD aw=au
     .cases ho:ops[i]? with
      |none=>rw[ho]at hw;cases hw
      |some o=>
       refine LW hR hB hL hP hS bY lu ho λκ cz dC hsw m cs w=>?_;obtain⟨k2,rfl,_⟩:=fI hsw lu aJ;rw[sB];have hw2:=hw;rw[ho]at hw2;have Ll:∀l,fr.roundOf=ae l->∀c,o.op≠.defer c:=λl hl c hc=>(by have h1:(ops.all (iu P S fr.fn) &&(!fr.roundOf.isSome||ops.all kz))=au:=hit;rw[hl,cR]at h1;have h2:ops.all kz=au:=(by simpa using h1.2);rw[Array.all_eq_true]at h2;obtain⟨hlt,e⟩:=bF.1 ho;have:=h2 i hlt;rw[e]at this;unfold kz at this;rw[hc]at this;cases this);simp only[fJ,stepG.oper,Frame.oper?,ho];rw[aX hw2];split
       .rename_i l c h1 h2;exact aT h2 (Ll l h1 c)
       .rfl
     .refine .pure (hS.to (hF.finish lu (v:=aO) λ_ _ _=>undef_vs) (iJ _) (lG _)) λκ cz dC hsw=>?_;have h3:=lD hsw lu aO;obtain⟨k2,rfl,_⟩:=fI hsw lu aJ;refine⟨_,h3,λm cs w=>?_⟩;rw[sB];simp only[fJ,hw,if_false,iy]
   |inRangeFunc l=>exact BV λm cs=>⟨_,_,_,by simp only[fJ,lu];rfl⟩
   |endRangeFunc l=>
    have h:(S.R&&!fr.roundOf.isSome)=au:=hit;rw[cR]at h;exact Dw hR hB hL hP hS bY hm lu (by cases e:fr.roundOf with
     |none=>rfl
     |some l=>rw[e]at h;exact aT h.2 aJ)
   |beginRound=>
    have h:(S.R&&fr.roundOf.isSome)=au:=hit;rw[cR]at h;cases e:fr.roundOf with
    |none=>rw[e]at h;exact aT h.2 aJ
    |some l=>exact Aq hR hB hL hP hS bY hm lu e
   |_=>cases hit
 .have TH:∀fr:aB,fr.mode≠.run->∀m cs w,bn P m (cy fr cs) w=unwind P m fr cs ah w:=λfr hm m cs w=>by
   cases e:fr.mode with
   |run=>exact aT e hm
   |_=>simp only[bn,e]
  have mO:=TH fr hm;cases hd:fr.defers with
  |cons d ds=>
   by_cases aeq:∃b,d.target=.collected b
   .obtain⟨b,hb⟩:=aeq;obtain⟨tg,xs⟩:=d;have hb:tg=.collected b:=hb;subst hb;exact step_collected hR hB hL hP hS bY hm hd
   have hnc:∀b,d.target≠.collected b:=λb hb=>aeq ⟨b,hb⟩;refine Dv hR hB hL hP hS bY hd hnc λκ cz dC hsw m cs w=>?_;obtain⟨t2,rfl⟩:∃t2,cz={fr with todo:=t2}:=⟨_,fZ hsw⟩;rw[TH {fr with todo:=t2} hm];unfold unwind;simp only[hd];obtain⟨tg,ar⟩:=d;cases tg<;>first|rfl|exact aT rfl (hnc _)
  |nil=>
   cases Dx:fr.mode with
   |run=>exact aT Dx hm
   |panicking chain=>
    by_cases hc:fr.catches P=au
    .exact .dead λm cs=>⟨_,_,_,by rw[mO];simp only[unwind,hd,Dx,hc,if_true];rfl⟩
    .cases fs with
     |nil=>refine .inr (.inl ⟨rfl,λm c cs=>⟨c.raise chain,a,#[],?_,.inr ⟨chain,rfl⟩⟩⟩);rw[mO];simp only[unwind,hd,Dx,hc,if_false,iy]
     |cons c fs=>refine .inl ⟨c.raise chain,fs,a,hS.2.2.to (hS.2.2.fi.raise chain) (lF _) (qa _),rfl,bJ _,λr hrel _=>⟨r,#[],kF hrel _,λκ cz dC hsw=>?_⟩⟩;obtain⟨rfl,c2,uT,rfl,Ap⟩:=hsw;refine⟨_,_,oq Ap chain,λm cs=>?_⟩;rw[mO];simp only[unwind,hd,Dx,hc,if_false,iy,jZ]
   |returning=>
    have q9:∀c dg,fs=c::dg->∀v,(S.rt fr.fn=au->VI S v=au)->∃c',dP P S c' dg/\∀κ c2 dC,qZ κ c dg c2 dC->∃c3,qZ κ c' dg c3 dC/\∀m cs w,doReturn P m fr (c2::cs) ah v w=.go (cy c3 cs) w #[]:=λc dg e v hvi=>by
     subst e;obtain⟨_,hk,LX⟩:=hS;rcases hF.kind with nz|nz
     .obtain⟨mh,hat⟩:=hk.resolve_left (by rw[nz];simp);exact⟨c.finish v,LX.to (mh v hvi) (iJ v) (lG v),λκ c2 dC hsw=>⟨_,zK hsw hat v,λm cs w=>by simp only[doReturn,nz]⟩⟩
     .have hFc:=LX.fi;by_cases hrc:∃x g ew,c.mode=.panicking ({v:=x,recovered:=au,goexit:=g}::ew)
      .obtain⟨x,g,ew,hm⟩:=hrc;cases ho:ew.dropWhile (!·.goexit)with
       |nil=>exact⟨{c with mode:=.returning},LX.to (hFc.mode _) rfl,λκ c2 dC hsw=>⟨_,kT (cB:={c with mode:=.returning}) hsw rfl,λm cs w=>by have zL:c2.mode=.panicking ({v:=x,recovered:=au,goexit:=g}::ew):=(by rw[fZ hsw];exact hm);have e3:({c2 with mode:=.returning}:aB)={c with mode:=.returning,todo:=c2.todo}:=(by rw[fZ hsw]);simp only[doReturn,nz,zL,ho,e3]⟩⟩
       |cons y ys=>exact⟨{c with mode:=.panicking (y::ys)},LX.to (hFc.mode _) rfl,λκ c2 dC hsw=>⟨_,kT (cB:={c with mode:=.panicking (y::ys)}) hsw rfl,λm cs w=>by have zL:c2.mode=.panicking ({v:=x,recovered:=au,goexit:=g}::ew):=(by rw[fZ hsw];exact hm);have e3:({c2 with mode:=.panicking (y::ys)}:aB)={c with mode:=.panicking (y::ys),todo:=c2.todo}:=(by rw[fZ hsw]);simp only[doReturn,nz,zL,ho,e3]⟩⟩
      .exact⟨c,LX,λκ c2 dC hsw=>⟨c2,hsw,λm cs w=>by
        have zL:c2.mode=c.mode:=(by rw[fZ hsw]);simp only[doReturn,nz,zL];split
        .rename_i x g ew hm;exact aT ⟨_,_,_,hm⟩ hrc
        .rfl⟩⟩
    cases fs with
    |nil=>
     have nz:fr.kind=.normal:=hS.2;have hdn:∀m c cs v w,doReturn P m fr (c::cs) ah v w=.go (cy (c.finish v) cs) w #[]:=λm c cs v w=>(by simp only[doReturn,nz]);cases hfn:P.funcs[fr.fn]? with
     |none=>exact .inr (.inl ⟨rfl,λm c cs=>⟨c.finish (fr.tmps.getD 0 aO),a,#[],by rw[mO];simp only[unwind,hd,Dx,hfn,hdn],.inl ⟨_,rfl⟩⟩⟩)
     |some fn=>
      have dE:=vT (H:=H) (P:=P) fn fr.tmps a a #[] #[] bY;generalize hX:(eL fn fr.tmps).runT P a #[]=X at dE;obtain⟨rx,ex⟩:=X;cases rx with
      |ok v a'=>exact .inr (.inl ⟨rfl,λm c cs=>⟨_,a',_,by rw[mO];simp only[unwind,hd,Dx,hfn,hX,hdn];rfl,.inl ⟨_,rfl⟩⟩⟩)
      |halt h a'=>refine .dead λm cs=>?_;rw[mO];cases h<;>(simp only[unwind,hd,Dx,hfn,hX];exact⟨_,_,_,rfl⟩)
    |cons c fs=>
     cases hfn:P.funcs[fr.fn]? with
     |none=>obtain⟨c',LX,hst⟩:=q9 c fs rfl (fr.tmps.getD 0 aO) (λh=>by obtain⟨fn,r,h1,_⟩:=hR.more.2.2 _ h;rw[hfn]at h1;cases h1);refine .inl ⟨c',fs,a,LX,rfl,bJ _,λr hrel _=>⟨r,#[],kF hrel _,λκ cz dC hsw=>?_⟩⟩;obtain⟨rfl,c2,uT,rfl,Ap⟩:=hsw;obtain⟨c3,h3,h4⟩:=hst κ c2 uT Ap;exact⟨c3,uT,h3,λm cs=>by rw[mO];simp only[unwind,hd,Dx,hfn,jZ,h4]⟩
     |some fn=>
      have kV:=vT (H:=H) (P:=P) fn fr.tmps;have dE:=kV a a #[] #[] bY;have hr:=λr (h:Rel H a r)=>kV a r #[] #[] h;generalize hX:(eL fn fr.tmps).runT P a #[]=X at dE hr;obtain⟨rx,ex⟩:=X;cases rx with
      |ok v a'=>
       obtain⟨c',LX,hst⟩:=q9 c fs rfl v (λh=>by
        obtain⟨OA,r,h1,h2,h3,h4⟩:=hR.more.2.2 _ h;rw[hfn]at h1;obtain rfl:=bj h1;rw[results_tmp h2]at hX;have e:v=fr.tmps.getD r aO:=by
         have:(Result.ok (fr.tmps.getD r aO) a,#[])=((Result.ok v a',ex):Result ay×Array cK):=hX;injection this with e1 _
         injection e1 with e1 _
         exact e1.symm
        rw[e];have:=hF.ft r h3;rw[BP,h4]at this;exact this)
       obtain⟨_,vr,hdr,_⟩:=dE;refine .inl ⟨c',fs,a',LX,vr,hdr,λr hrel im=>?_⟩;obtain⟨_,_,_,h⟩:=hr r hrel;obtain⟨r',er,e,hw⟩:=h im;refine⟨r',seen P fr.fn er++ #[],dw hw,λκ cz dC hsw=>?_⟩;obtain⟨rfl,c2,uT,rfl,Ap⟩:=hsw;obtain⟨c3,h3,h4⟩:=hst κ c2 uT Ap;exact⟨c3,uT,h3,λm cs=>by rw[mO];simp only[unwind,hd,Dx,hfn,e,jZ,h4];rfl⟩
      |halt h a'=>refine .dead λm cs=>?_;rw[mO];cases h<;>(simp only[unwind,hd,Dx,hfn,hX];exact⟨_,_,_,rfl⟩)
end
def base(P:bh):aB:={fn:=P.funcs.size,tmps:=#[],todo:=[.code (.refuse "")],defers:=[{target:=.nil,args:=#[]}],mode:=.run,kind:=.normal}
abbrev bM(a:aj)(τ:Nat->iz->Nat):aj:={a with tape:=τ}
def oI(P:bh)(Stop:aB->List aB->aj->Prop)(n:Nat)(fr:aB)(fs:List aB)(a:aj):Prop:=∃cB dg a',runN P n (lone fr (fs++[base P]) a)=.next (lone cB (dg++[base P]) a')/\Stop cB dg a'
def xx(P:bh)(Stop:aB->List aB->aj->Prop)(fr:aB)(fs:List aB)(a:aj):Prop:=∀τ,∃n,oI P Stop n fr fs (bM a τ)
inductive YH(P:bh)(Stop:aB->List aB->aj->Prop):aB->List aB->aj->Prop
 |stop {fr:aB} {fs:List aB} {a:aj}:Stop fr fs a->YH P Stop fr fs a
 |step {fr:aB} {fs:List aB} {a:aj}:(∀τ,∃cB dg a' es,bn P au (cy fr (fs++[base P])) (bM a τ)=.go (cy cB (dg++[base P])) a' es)->
   (∀τ cB dg a' es,bn P au (cy fr (fs++[base P])) (bM a τ)=.go (cy cB (dg++[base P])) a' es->YH P Stop cB dg a')->YH P Stop fr fs a
section
variable{P:bh}{S:bN}{Stop:aB->List aB->aj->Prop}
theorem oJ(h:Rel H a a)(τ qc:Nat->iz->Nat):Rel H (bM a τ) (bM a qc):=⟨h.size,h.same,h.hid,h.objs,h.os,h.output⟩
theorem yF{b:aj}(h1:a.heap=b.heap)(h2:a.tape=b.tape)(h3:a.drawn=b.drawn)(h4:a.os=b.os)(h5:a.output=b.output):a=b:=by cases a;cases b;simp_all
theorem yG{es:Array cK}(bY:Rel H a a)(hd:a.drawn<=a1.drawn)(h:Went H es a a1 (bM a qc) r' er):r'=bM a1 qc:=by
 refine yF ?_ h.tape ?_ h.rel.os.symm h.rel.output.symm
 .apply Array.ext_getElem?;intro b;by_cases hb:H b
  .rw[h.hidden b hb];exact(bY.hid b hb).1.trans (h.rel.hid b hb).1.symm
  .exact(h.eqk b hb λ_=>rfl).symm
 .rw[h.drawn];show a.drawn+(a1.drawn-a.drawn)=a1.drawn;omega
theorem qd{r:aj}{es:Array cK}(h:Went H es (bM a τ) a1 r r' er):Went H es a a1 r r' er:=⟨h.rel,h.tape,h.drawn,h.hidden,h.evs,h.evin,h.grow,h.eqk,h.kept,h.rov,h.growa,h.shp,h.shpr,h.same⟩
theorem Qd{es:Array cK}(bY:Rel H a a)(h:Went H es a a1 (bM a qc) r' er):Rel H a1 a1:=by refine⟨rfl,λ_ _=>.inl rfl,λb hb=>⟨(h.rel.hid b hb).1,_,(h.rel.hid b hb).1,rfl⟩,h.rel.objs,rfl,rfl⟩
theorem L5(v:ay)(w:aj):∃o w',step P (lone ((base P).finish v) [] w)=.ended o w':=by exact⟨_,w,step_lone_ended (by show(bn P au (cy (base P) []) w).bare=_;simp only[bn,base,fJ];rfl)⟩
theorem Jb(c:List PanicEntry)(w:aj):∃o w',step P (lone ((base P).raise c) [] w)=.ended o w':=by exact⟨_,w,step_lone_ended (by show(bn P au (cy ((base P).raise c) []) w).bare=_;simp only[bn,base,Frame.raise,unwind,callDeferred];rfl)⟩
theorem oK{xs ys:List α}{z:α}(h:xs++[z]=ys++[z]):xs=ys:=List.append_cancel_right h
theorem xy{w:aj}(h:lone fr cs w=lone cB cs' w'):fr=cB/\cs=cs'/\w=w':=by
 unfold lone at h;injection h with h1 h2
 simp at h2;exact⟨h2.1,h2.2,h1⟩
theorem BW{xs:Array α}(h:y∈xs.zipIdx.toList):y.1∈xs:=by obtain⟨x,i⟩:=y;have h':(x,i)∈xs.zipIdx:=Array.mem_toList_iff.1 h;rw[Array.mk_mem_zipIdx_iff_getElem?]at h';exact qf h'
theorem Qe{w:aj}{cases:Array CommCase}{shape:CommShape}{es:Array cK}(h:bn P au (cy fr cs) w=.comm (cy fr cs) cases au shape w' es)(bY:Rel H w' w'){n:Nat}:
  runN P (n+1) (lone fr cs w)≠.next (lone cB cs' w2):=by
 have idle:∀(b cap:Nat) (buf:Array ay) (cl:Bool) (s r:Nat) (tm:Bool),w'.heap[b]? =ae (.chan cap buf cl s r tm)->cap=0/\buf=#[]/\cl=aw:=λb cap buf cl s r tm e=>by
  by_cases hb:H b
  .rw[(bY.hid b hb).1]at e;cases e
  .have:=bY.objs b hb _ e;simp only[gI,cR,beq_iff_eq,Array.isEmpty_iff,xu]at this;exact⟨this.1.1,this.1.2,this.2⟩
 have Zp:∀r b,partners #[{(default:aY)with status:=.finished}] r b=[]:=λr b=>Go.Conc.partners_nil λx t ht=>by
  rcases x with _|x
  .simp at ht;subst ht;exact Go.Conc.offersAt_of_not_blocked aJ _ _
  .simp at ht
 have hstep:step P (lone fr cs w)=(communicate P {timers:=#[],alone:=ah,slice:=ah} #[{(default:aY)with status:=.finished}] 0 (cy fr cs) cases au shape w').1:=by rw[step,stepT,move_lone];simp[runT,lone,Array.swapAt!,h]
 have blocked:(∃o w'',step P (lone fr cs w)=.ended o w'')\/step P (lone fr cs w)=.next (oneG {cy fr cs with status:=.blocked,offers:=ae (cases,shape)} w'):=by
  rw[hstep];unfold communicate;simp only;split
  .exact .inl ⟨_,_,rfl⟩
  .rename_i aiK;have hw:∀c∈cases,ways w' #[{(default:aY)with status:=.finished}] c=[]:=by
    intro c hc;unfold ways;split
    .rename_i r e;cases ho:w'.heap[r]? with
     |none=>rfl
     |some o=>
      cases o with
      |chan cap buf cl s r' tm=>obtain⟨rfl,rfl,rfl⟩:=idle _ _ _ _ _ _ _ ho;cases c.send<;>simp[Zp]
      |_=>rfl
    .rfl
   have abZ:((cases.zipIdx.toList.map λ(x:CommCase×Nat)=>(x.2,x.1,ways w' #[{(default:aY)with status:=.finished}] x.1)).filter λ(x:Nat×CommCase×List Way)=>!x.2.2.isEmpty)=[]:=(by rw[List.filter_eq_nil_iff];intro x hx;obtain⟨y,hy,rfl⟩:=pA.1 hx;have hy':y.1∈cases:=(by have:=BW hy;exact this);simp[hw y.1 hy']);right;have e2:(((cases.zipIdx.toList.map λ(x:CommCase×Nat)=>(x.2,x.1,ways w' #[{(default:aY)with status:=.finished}] x.1)).filter λ(x:Nat×CommCase×List Way)=>!x.2.2.isEmpty)).isEmpty=au:=(by rw[abZ];rfl);rw[aX (show _=au from e2)];have ht:timerAhead {timers:=#[],alone:=ah,slice:=ah} w'.os.mono cases=aw:=(by unfold timerAhead;rw[Array.any_eq_false'];intro c _;split<;>simp);simp only[waitingAt,ht,if_true,if_false,iy];rfl
 intro hrun;rw[runN]at hrun;rcases blocked with⟨o,w'',e⟩|e
 .rw[e]at hrun;cases hrun
 .rw[e]at hrun;simp only at hrun;cases n with
  |zero=>
   injection hrun with hrun
   unfold oneG lone at hrun;injection hrun with _ h2
   simp at h2
  |succ n=>obtain⟨o',w1,he,_⟩:=endWith_ended w' 2 (bytes "fatal error: all goroutines are asleep - deadlock!\n") (.fatal "all goroutines are asleep - deadlock!");have:step P (oneG {cy fr cs with status:=.blocked,offers:=ae (cases,shape)} w')=.ended o' w1:=(by simp[step,stepT,move,ask,askOn,oneG,runnable_eq,due,ahead,Goroutine.canRun,tD,pure];rw[he]);rw[runN,this]at hrun;cases hrun
variable(hR:S.Rows H P)(hB:S.kS P)(hL:S.rN)(hP:S.Plain P)(tE:∀fr fs a τ,Rel H a a->Stop fr fs a->Stop fr fs (bM a τ))
include hR hB hL hP tE
structure lH(H:Nat->Prop)(P:bh)(S:bN)(fr:aB)(fs:List aB)(a:aj)(τ:Nat->iz->Nat)(cB:aB)(dg:List aB)(a':aj):Prop where
 st:dP P S cB dg
 self:Rel H a' a'
 tape:a'.tape=τ
 drawn:a.drawn<=a'.drawn
 same:∀qc,(∀i q,a.drawn<=i->i<a'.drawn->τ i q=qc i q)->∃es,bn P au (cy fr (fs++[base P])) (bM a qc)=.go (cy cB (dg++[base P])) (bM a' qc) es
 sim:∀r,Rel H a r->rL (bM a τ) a' r->∃r' er,Went H #[] a a' r r' er/\∀m cs,bn P m (cy fr (fs++cs)) r=.go (cy cB (dg++cs)) r' er
omit tE in
theorem OB(hS:dP P S fr fs)(bY:Rel H a a){n:Nat}(h:oI P Stop (n+1) fr fs (bM a τ)):
  ∃cB dg a',lH H P S fr fs a τ cB dg a'/\oI P Stop n cB dg a':=by
 obtain⟨cz,dC,a2,hrun,hst⟩:=h;have dE:Rel H (bM a τ) (bM a τ):=oJ bY τ τ;rcases Ja hR hB hL hP hS dE with⟨cB,dg,a',h1,h3,h4,h5⟩|⟨rfl,h1⟩|h1|h1
 .have go1:∀r,Rel H a r->rL (bM a τ) a' r->∃r' er,Went H #[] a a' r r' er/\∀m cs,bn P m (cy fr (fs++cs)) r=.go (cy cB (dg++cs)) r' er:=λr hr im=>by obtain⟨r',er,hw,hs⟩:=h5 r ⟨hr.size,hr.same,hr.hid,hr.objs,hr.os,hr.output⟩ im;obtain⟨th,uT,hsw,h⟩:=hs ah fr fs (p9 _ _);obtain⟨rfl,rfl⟩:=BQ hsw;exact⟨r',er,qd hw,h⟩
  have same:∀qc,(∀i q,a.drawn<=i->i<a'.drawn->τ i q=qc i q)->∃es,Went H #[] a a' (bM a qc) (bM a' qc) es/\bn P au (cy fr (fs++[base P])) (bM a qc)=.go (cy cB (dg++[base P])) (bM a' qc) es:=λqc im=>by obtain⟨r',er,hw,hs⟩:=go1 (bM a qc) ⟨bY.size,bY.same,bY.hid,bY.objs,bY.os,bY.output⟩ (λi q hi=>im _ q (Nat.le_add_right _ _) hi);obtain rfl:=yG bY h4 hw;exact⟨er,hw,hs au _⟩
  obtain⟨es,hw0,e0⟩:=same τ (λ_ _ _ _=>rfl);have et:bM a' τ=a':=by rw[←show a'.tape=τ from h3]
  have hs':Rel H a' a':=Qd bY hw0;refine⟨cB,dg,a',⟨h1,hs',h3,h4,λqc im=>?_,go1⟩,cz,dC,a2,?_,hst⟩
  .obtain⟨es',_,e'⟩:=same qc im;exact⟨es',e'⟩
  .rw[et]at e0;have:step P (lone fr (fs++[base P]) (bM a τ))=.next (lone cB (dg++[base P]) a'):=step_lone_go (by rw[e0];rfl);rw[runN,this]at hrun;exact hrun
 .exfalso;obtain⟨c',a',es,e,hc⟩:=h1 au (base P) [];have:step P (lone fr ([] ++[base P]) (bM a τ))=.next (lone c' [] a'):=step_lone_go (by rw[show([]:List aB) ++[base P]=[base P]from rfl,e];rfl);rw[runN,this]at hrun;simp only at hrun;have hend:∃o w',step P (lone c' [] a')=.ended o w':=by
   rcases hc with⟨v,rfl⟩|⟨ch,rfl⟩
   .exact L5 v a'
   .exact Jb ch a'
  obtain⟨o,w',ee⟩:=hend;cases n with
  |zero=>
   injection hrun with hrun
   obtain⟨_,e2,_⟩:=xy hrun;cases dC<;>cases e2
  |succ n=>rw[runN,ee]at hrun;cases hrun
 .exfalso;obtain⟨o,w',es,e⟩:=h1 au [base P];have:step P (lone fr (fs++[base P]) (bM a τ))=.ended o w':=step_lone_ended (by rw[e];rfl);rw[runN,this]at hrun;cases hrun
 .exfalso;obtain⟨cases,shape,a',es,e,TI⟩:=h1 au [base P];exact Qe e TI hrun
omit hR hB hL hP tE in
theorem lH.EM(G:lH H P S fr fs a τ cB dg a'):bM a' τ=a':=by rw[←G.tape]
omit hR hB hL hP tE in
theorem lH.step(G:lH H P S fr fs a τ cB dg a')(h:∀i q,a.drawn<=i->i<a'.drawn->τ i q=qc i q):
  step P (lone fr (fs++[base P]) (bM a qc))=.next (lone cB (dg++[base P]) (bM a' qc)):=by
 obtain⟨es,e⟩:=G.same qc h;exact step_lone_go (by rw[e];rfl)
omit hR hB hL hP tE in
theorem lH.back(G:lH H P S fr fs a τ cB dg a')(h:∀i q,a.drawn<=i->i<a'.drawn->τ i q=qc i q){n:Nat}
  (hl:oI P Stop n cB dg (bM a' qc)):oI P Stop (n+1) fr fs (bM a qc):=by
 obtain⟨f2,s2,a2,hr,hs⟩:=hl;exact⟨f2,s2,a2,by rw[runN,G.step h];exact hr,hs⟩
omit hR hB hL hP tE in
theorem lH.ahead(G:lH H P S fr fs a τ cB dg a')(h:∀i q,a.drawn<=i->i<a'.drawn->τ i q=qc i q){n:Nat}
  (hl:oI P Stop (n+1) fr fs (bM a qc)):oI P Stop n cB dg (bM a' qc):=by
 obtain⟨f2,s2,a2,hr,hs⟩:=hl;rw[runN,G.step h]at hr;exact⟨f2,s2,a2,hr,hs⟩
theorem EN:∀(n:Nat) (fr:aB) (fs:List aB) (a:aj) (κ qc:Nat->iz->Nat),dP P S fr fs->Rel H a a->oI P Stop n fr fs (bM a κ)->(∀i q,a.drawn<=i->κ i q=qc i q)->oI P Stop n fr fs (bM a qc)
 |0,fr,fs,a,κ,qc,_,bY,⟨f2,s2,a2,hr,hs⟩,_=>by
  injection hr with hr
  obtain⟨rfl,e2,rfl⟩:=xy hr;obtain rfl:=oK e2;exact⟨fr,fs,_,rfl,tE fr fs (bM a κ) qc (oJ bY κ κ) hs⟩
 |n+1,fr,fs,a,κ,qc,hS,bY,h,im=>by obtain⟨cB,dg,a',G,h'⟩:=OB hR hB hL hP hS bY h;rw[←G.EM]at h';have:=EN n cB dg a' κ qc G.st G.self h' λi q hi=>im i q (dm G.drawn hi);exact G.back (λi q h1 _=>im i q h1) this
structure Off(H:Nat->Prop)(P:bh)(S:bN)(Stop:aB->List aB->aj->Prop)(x:aB×List aB×aj):Prop where
 st:dP P S x.1 x.2.1
 self:Rel H x.2.2 x.2.2
 all:xx P Stop x.1 x.2.1 x.2.2
 not:¬YH P Stop x.1 x.2.1 x.2.2
theorem TJ{x:aB×List aB×aj}(h:Off H P S Stop x):∃(τ:Nat->iz->Nat) (y:aB×List aB×aj),Off H P S Stop y/\lH H P S x.1 x.2.1 x.2.2 τ y.1 y.2.1 y.2.2:=by
 obtain⟨fr,fs,a⟩:=x;obtain⟨hS,bY,hall,xz⟩:=h;simp only at hS bY hall xz;have hno:¬Stop fr fs a:=λhs=>xz (.stop hs);have pos:∀τ,∃n,oI P Stop (n+1) fr fs (bM a τ):=λτ=>by
  obtain⟨n,hn⟩:=hall τ;cases n with
  |zero=>
   obtain⟨f2,s2,a2,hr,hs⟩:=hn;injection hr with hr
   obtain⟨rfl,e2,rfl⟩:=xy hr;obtain rfl:=oK e2;exact aT (tE _ _ _ a.tape (oJ bY τ τ) hs) hno
  |succ n=>exact⟨n,hn⟩
 have goes:∀τ,∃cB dg a',lH H P S fr fs a τ cB dg a':=λτ=>by obtain⟨n,hn⟩:=pos τ;obtain⟨cB,dg,a',G,_⟩:=OB hR hB hL hP hS bY hn;exact⟨cB,dg,a',G⟩
 have hbad:∃τ cB dg a' es,bn P au (cy fr (fs++[base P])) (bM a τ)=.go (cy cB (dg++[base P])) a' es/\¬YH P Stop cB dg a':=by
  apply eV;intro hc;refine xz (.step (λτ=>?_) λτ cB dg a' es e=>?_)
  .obtain⟨cB,dg,a',G⟩:=goes τ;obtain⟨es,e⟩:=G.same τ (λ_ _ _ _=>rfl);exact⟨cB,dg,_,es,e⟩
  .apply eV;exact λhb=>hc ⟨τ,cB,dg,a',es,e,hb⟩
 obtain⟨τ,cB,dg,a',es,e,hb⟩:=hbad;obtain⟨jg,ny,a1,G⟩:=goes τ;obtain⟨es1,e1⟩:=G.same τ (λ_ _ _ _=>rfl);rw[G.EM,e]at e1;injection e1 with eg ea ees
 injection eg with ef ec
 subst ef ea;obtain rfl:=oK ec;refine⟨τ,(cB,dg,a'),⟨G.st,G.self,λqc=>?_,hb⟩,G⟩;obtain⟨n,hn⟩:=pos (λi q=>if i<a'.drawn then τ i q else qc i q);have h1:=G.ahead (qc:=λi q=>if i<a'.drawn then τ i q else qc i q) (λi q _ h2=>by simp only[h2,if_true]) hn;exact⟨n,EN hR hB hL hP tE n _ _ _ _ qc G.st G.self h1 λi q hi=>by have hi':¬i<a'.drawn:=Nat.not_lt.2 hi;simp only[hi',if_false]⟩
theorem tF(hS:dP P S fr fs)(bY:Rel H a a)(hall:xx P Stop fr fs a):YH P Stop fr fs a:=by
 apply eV;intro xz;let Y:={x:aB×List aB×aj // Off H P S Stop x};have nx:∀y:Y,∃(p:(Nat->iz->Nat)×Y),lH H P S y.1.1 y.1.2.1 y.1.2.2 p.1 p.2.1.1 p.2.1.2.1 p.2.1.2.2:=λy=>by obtain⟨τ,z,hz,G⟩:=TJ hR hB hL hP tE y.2;exact⟨(τ,⟨z,hz⟩),G⟩
 obtain⟨N,hN⟩:=Classical.axiomOfChoice nx;let y0:Y:=⟨(fr,fs,a),hS,bY,hall,xz⟩;let Q:Nat->Y:=λk=>Nat.rec y0 (λ_ y=>(N y).2) k;have hQ:∀k,Q (k+1)=(N (Q k)).2:=λ_=>rfl;have G:∀k,lH H P S (Q k).1.1 (Q k).1.2.1 (Q k).1.2.2 (N (Q k)).1 (Q (k+1)).1.1 (Q (k+1)).1.2.1 (Q (k+1)).1.2.2:=λk=>hN (Q k);let d:Nat->Nat:=λk=>(Q k).1.2.2.drawn;have hd1:∀k,d k<=d (k+1):=λk=>(G k).drawn;have hd:∀j k,j<=k->d j<=d k:=λj k h=>by
  induction h with
  |refl=>exact bJ _
  |step _ ih=>exact dm ih (hd1 _)
 have uniq:∀i j k,d j<=i->i<d (j+1)->d k<=i->i<d (k+1)->j=k:=λi j k h1 h2 h3 h4=>by
  rcases Nat.lt_trichotomy j k with h|h|h
  .have:=hd (j+1) k h;omega
  .exact h
  .have:=hd (k+1) j h;omega
 let glue:Nat->iz->Nat:=λi q=> @dite _ (∃k,d k<=i/\i<d (k+1)) (Classical.propDecidable _) (λh=>(N (Q (Classical.choose h))).1 i q) (λ_=>0);have aer:∀k i q,d k<=i->i<d (k+1)->(N (Q k)).1 i q=glue i q:=λk i q h1 h2=>by have hex:∃k,d k<=i/\i<d (k+1):=⟨k,h1,h2⟩;have hs:=Classical.choose_spec hex;have e:Classical.choose hex=k:=uniq i _ _ hs.1 hs.2 h1 h2;show _=@dite _ _ (Classical.propDecidable _) _ _;rw[dif_pos hex,e]
 have key:∀n k,oI P Stop n (Q k).1.1 (Q k).1.2.1 (bM (Q k).1.2.2 glue)->False:=λn=>by
  induction n with
  |zero=>
   intro k ⟨f2,s2,a2,hr,hs⟩;injection hr with hr
   obtain⟨e1,e2,e3⟩:=xy hr;have e2':=oK e2;rw[←e1,←e2',←e3]at hs;exact(Q k).2.not (.stop (tE _ _ (bM (Q k).1.2.2 glue) (Q k).1.2.2.tape (oJ (Q k).2.self glue glue) hs))
  |succ n ih=>exact λk h=>ih (k+1) ((G k).ahead (λi q h1 h2=>aer k i q h1 h2) h)
 obtain⟨n,hn⟩:=hall glue;exact key n 0 hn
end
end
section
open Go.Conc
section
variable{P:bh}{w:aj}{k:Nat}{g g₂ gj:aY}{es:Array cK}{c:Nat}{tm:Bool}{z zj:ay}{blocking:Bool}{shape shj:CommShape}{cs cases:Array CommCase}
theorem Qf(hi:gs[i]? =ae g)(h:bn P (i==0) g w=.comm g₂ cases blocking shape w₁ es)(hk:cases[k]? =ae (scase c v z))
  (ho:∀(m:Nat) (c':CommCase),m≠k->cases[m]? =ae c'->NoWays w₁ (gs.setIfInBounds i ph) c')
  (hc:w₁.heap[c]? =ae (.chan 0 #[] aw s s tm))(sD:j≠i)(hj:gs[j]? =ae (parked gj cs shj))(hm:cs[m]? =ae (dh c zj))(hp:partners (gs.setIfInBounds i ph) c aw=[(j,m)]):
  runT P (bS gs w sl) i=(.next (bS ((gs.setIfInBounds j (gj.finishComm P cs shj m v au)).setIfInBounds i (g₂.finishComm P cases shape k aO aw)) (w₁.setChan c 0 #[] aw (s+1) (s+1) tm) sl),
   eM i g.frame.fn g.frame.place es++met i j g₂.frame.fn g₂.frame.place gj.frame.fn gj.frame.place c s 0):=by
 have hw:ways w₁ (gs.setIfInBounds i ph) (scase c v z)=[.partner j m]:=by simp[ways,scase,hc,hp]
 have hj':=stand_get (i:=i) sD hj;have hfp:=finishPartner_at P (gs.setIfInBounds i ph) hj' (cs:=cs) (sh:=shj) rfl m v;have hgd:(gs.setIfInBounds i ph).getD j default=parked gj cs shj:=by rw[dO,hj'];rfl
 have hb:(((cs[m]?).map (·.send.isNone)).getD aw)=au:=by simp[hm,dh]
 rw[runT_crowd_comm hi h];unfold communicate;simp only[ready_one hk (by rw[hw];simp) ho,hw];rw[aU]
 .simp[choose,Sem.run,Question.forced,bind,Sem.bind,pure,dh,bS,hc,hfp,hb,hgd,set_stand2,finishComm_parked,scase,parked,World.setChan,met];rfl
 .rw[Bool.not_eq_true];exact any_ill (made_of_one hk (made_send v z hc) ho)
theorem Qg(hi:gs[i]? =ae g)(h:bn P (i==0) g w=.comm g₂ cases blocking shape w₁ es)(hk:cases[k]? =ae (dh c z))
  (ho:∀(m:Nat) (c':CommCase),m≠k->cases[m]? =ae c'->NoWays w₁ (gs.setIfInBounds i ph) c')
  (hc:w₁.heap[c]? =ae (.chan 0 #[] aw s s tm))(sD:j≠i)(hj:gs[j]? =ae (parked gj cs shj))(hm:cs[m]? =ae (scase c v zj))(hp:partners (gs.setIfInBounds i ph) c au=[(j,m)]):
  runT P (bS gs w sl) i=(.next (bS ((gs.setIfInBounds j (gj.finishComm P cs shj m aO aw)).setIfInBounds i (g₂.finishComm P cases shape k v au)) (w₁.setChan c 0 #[] aw (s+1) (s+1) tm) sl),
   eM i g.frame.fn g.frame.place es++met j i gj.frame.fn gj.frame.place g₂.frame.fn g₂.frame.place c s 0):=by
 have hw:ways w₁ (gs.setIfInBounds i ph) (dh c z)=[.partner j m]:=by simp[ways,dh,hc,hp]
 have hj':=stand_get (i:=i) sD hj;have hfp:=finishPartner_at P (gs.setIfInBounds i ph) hj' (cs:=cs) (sh:=shj) rfl m aO;have hgd:(gs.setIfInBounds i ph).getD j default=parked gj cs shj:=by rw[dO,hj'];rfl
 have EO:offeredValue (gs.setIfInBounds i ph) j m=v:=by simp[offeredValue,hj',parked,hm,scase]
 have hb:(((cs[m]?).map (·.send.isNone)).getD aw)=aw:=by simp[hm,scase]
 rw[runT_crowd_comm hi h];unfold communicate;simp only[ready_one hk (by rw[hw];simp) ho,hw];rw[aU]
 .simp[choose,Sem.run,Question.forced,bind,Sem.bind,pure,dh,bS,hc,hfp,hb,hgd,EO,set_stand2,finishComm_parked,scase,parked,World.setChan,met];rfl
 .rw[Bool.not_eq_true];exact any_ill (made_of_one hk (made_recv z hc) ho)
end
structure Led(Mem:Nat->Prop)(S:Nat->Loc->Prop)(X:Loc->Prop)(K:Nat->Prop)(t:Trace):Prop where
 clean:∀said,¬Race said t
 known:∀i a,touchAt t i=ae a->a.loc.isMemory=au->K i\/(X a.loc/\a.kind=.atomic)\/(a.write=aw/\a.kind≠.atomic/\∃g,t.g? i=ae g/\S g a.loc)
 wrote:∀i a,touchAt t i=ae a->a.write=au->∀g,S g a.loc->Knows t g i
 plain:∀i a,touchAt t i=ae a->X a.loc->a.kind≠.plain
 hears:∀g,Mem g->Deaf t g=0
section
variable{Mem:Nat->Prop}{K K':Nat->Prop}{t u:Trace}{h g:Nat}
theorem Led.old(H:Led Mem S X K t)(hK:∀i,K i->K' i){a:Touch}{x:MemOp}(hx:t[i]? =ae x)(AZ:x.act.touch? =ae a)(hm:a.loc.isMemory=au):
  K' i\/(X a.loc/\a.kind=.atomic)\/(a.write=aw/\a.kind≠.atomic/\∃g,(t++u).g? i=ae g/\S g a.loc):=by
 have hlt:=lt_size_of_getElem? hx;rcases H.known i a (by rw[touchAt_of hx];exact AZ) hm with h|⟨h1,h2⟩|⟨h1,h4,g,h2,h3⟩
 .exact .inl (hK i h)
 .exact .inr (.inl ⟨h1,h2⟩)
 .exact .inr (.inr ⟨h1,h4,g,by rw[g?_old hlt];exact h2,h3⟩)
theorem Led.mute(H:Led Mem S X K t)(hK:∀i,K i->K' i)(hn:∀op∈u,op.act.touch? =ah)(hM:∀g,Dy g->Deaf (t++u) g=0):Led Dy S X K' (t++u):=by
 refine⟨λsaid=>noRace_appendMute (H.clean said) hn,λi a ha hm=>?_,λi a ha hw g hg=>?_,λi a ha hX=>?_,hM⟩;all_goals
  obtain⟨x,hx,AZ⟩:=touch_of ha;rcases tG hx with⟨_,pw⟩|⟨_,OC⟩;rotate_left
  .rw[hn x OC]at AZ;cases AZ
 .exact H.old hK pw AZ hm
 .exact(H.wrote i a (by rw[touchAt_of pw];exact AZ) hw g hg).app u
 .exact H.plain i a (by rw[touchAt_of pw];exact AZ) hX
theorem Led.own(H:Led Mem S X (λi=>Knows t h i) t)(hu:∀op∈u,op.g=h)(hs:∀op∈u,∀b,op.act.touch? =ae b->(∀g,S g b.loc->b.write=aw)/\(X b.loc->b.kind≠.plain))
  (hM:∀g,Dy g->Deaf (t++u) g=0):Led Dy S X (λi=>Knows (t++u) h i) (t++u):=by
 refine⟨λsaid=>noRace_append (H.clean said) hu λi a ha op hop b hb hc=>?_,λi a ha hm=>?_,λi a ha hw g hg=>?_,λi a ha hX=>?_,hM⟩
 .obtain⟨hb1,hb2⟩:=hs op hop b hb;rcases H.known i a ha hc.2.1 with hk|⟨hX,hat⟩|⟨hw,_,g,_,hS⟩
  .exact hk
  .rcases hc.2.2.2 with x|x|⟨_,x,_⟩
   .rw[hat]at x;cases x
   .exact aT x (hb2 (hc.1▸hX))
   .rw[hat]at x;cases x
  .have hb0:=hb1 g (hc.1▸hS);rcases hc.2.2.1 with x|x
   .rw[hw]at x;cases x
   .rw[hb0]at x;cases x
 .obtain⟨x,hx,AZ⟩:=touch_of ha;rcases tG hx with⟨_,pw⟩|⟨_,OC⟩
  .exact H.old (λi=>Knows.app u) pw AZ hm
  .have:=knows_own hx;rw[hu x OC]at this;exact .inl this
 .obtain⟨x,hx,AZ⟩:=touch_of ha;rcases tG hx with⟨_,pw⟩|⟨_,OC⟩
  .exact(H.wrote i a (by rw[touchAt_of pw];exact AZ) hw g hg).app u
  .rw[(hs x OC a AZ).1 g hg]at hw;cases hw
 .obtain⟨x,hx,AZ⟩:=touch_of ha;rcases tG hx with⟨_,pw⟩|⟨_,OC⟩
  .exact H.plain i a (by rw[touchAt_of pw];exact AZ) hX
  .exact(hs x OC a AZ).2 hX
theorem Led.beside(H:Led Mem S X K t)(hK:∀i,K i->K' i)(hu:∀op∈u,op.g=g)
  (hr:∀op∈u,∀b,op.act.touch? =ae b->(b.write=aw/\S g b.loc/\¬X b.loc/\b.kind≠.atomic)\/(X b.loc/\b.kind=.atomic/\∀g',¬S g' b.loc))
  (hM:∀g,Dy g->Deaf (t++u) g=0):Led Dy S X K' (t++u):=by
 refine⟨λsaid=>noRace_append (H.clean said) hu λi a ha op hop b hb hc=>?_,λi a ha hm=>?_,λi a ha hw g' nA=>?_,λi a ha hX=>?_,hM⟩
 .rcases hr op hop b hb with⟨hb0,hbS,_⟩|⟨hX,hat,_⟩
  .rcases hc.2.2.1 with x|x
   .exact H.wrote i a ha x g (hc.1▸hbS)
   .rw[hb0]at x;cases x
  .rcases hc.2.2.2 with x|x|⟨_,_,x⟩
   .exact aT x (H.plain i a ha (hc.1▸hX))
   .rw[hat]at x;cases x
   .rw[hat]at x;cases x
 .obtain⟨x,hx,AZ⟩:=touch_of ha;rcases tG hx with⟨_,pw⟩|⟨_,OC⟩
  .exact H.old hK pw AZ hm
  .rcases hr x OC a AZ with⟨h1,h2,_,h4⟩|⟨h1,h2,_⟩
   .exact .inr (.inr ⟨h1,h4,g,by rw[g?_of hx,hu x OC],h2⟩)
   .exact .inr (.inl ⟨h1,h2⟩)
 .obtain⟨x,hx,AZ⟩:=touch_of ha;rcases tG hx with⟨_,pw⟩|⟨_,OC⟩
  .exact(H.wrote i a (by rw[touchAt_of pw];exact AZ) hw g' nA).app u
  .rcases hr x OC a AZ with⟨h1,_⟩|⟨_,_,h1⟩
   .rw[h1]at hw;cases hw
   .exact aT nA (h1 g')
 .obtain⟨x,hx,AZ⟩:=touch_of ha;rcases tG hx with⟨_,pw⟩|⟨_,OC⟩
  .exact H.plain i a (by rw[touchAt_of pw];exact AZ) hX
  .rcases hr x OC a AZ with⟨_,_,h1,_⟩|⟨_,h1,_⟩
   .exact aT hX h1
   .rw[h1];simp
theorem Led.pass{p q:Nat}{x y:MemOp}(H:Led Mem S X (λi=>Knows t h i) t)(hn:∀op∈u,op.act.touch? =ah)(hp:t.size<=p)(hx:(t++u)[p]? =ae x)(hxg:x.g=h)
  (hy:(t++u)[q]? =ae y)(hyg:y.g=j)(edge:HappensBefore (t++u) p q)(hS1:∀g l,S g l->S' g l)(YI:∀g l,S' g l->S g l\/(l.isMemory=au/\¬X l/\(g=h\/g=j)))(hM:∀g,Dy g->Deaf (t++u) g=0):
  Led Dy S' X (λi=>Knows (t++u) j i) (t++u):=by
 have kn:∀i,Knows t h i->Knows (t++u) j i:=λi hk=>⟨q,y,hy,hyg,.inr ((hk.hb_new hp hx hxg).trans edge)⟩;refine⟨λsaid=>noRace_appendMute (H.clean said) hn,λi a ha hm=>?_,λi a ha hw g hg=>?_,λi a ha hX=>?_,hM⟩;all_goals
  obtain⟨z,hz,hza⟩:=touch_of ha;rcases tG hz with⟨hi,hz'⟩|⟨_,hzu⟩;rotate_left
  .rw[hn z hzu]at hza;cases hza
 .rcases H.known i a (by rw[touchAt_of hz'];exact hza) hm with hk|⟨h1,h2⟩|⟨h1,h4,g,h2,h3⟩
  .exact .inl (kn i hk)
  .exact .inr (.inl ⟨h1,h2⟩)
  .exact .inr (.inr ⟨h1,h4,g,by rw[g?_old hi];exact h2,hS1 _ _ h3⟩)
 .rcases YI g _ hg with h0|⟨m1,m2,m3⟩
  .exact(H.wrote i a (by rw[touchAt_of hz'];exact hza) hw g h0).app u
  .rcases H.known i a (by rw[touchAt_of hz'];exact hza) m1 with hk|⟨h1,_⟩|⟨h1,_⟩
   .rcases m3 with rfl|rfl
    .exact hk.app u
    .exact kn i hk
   .exact aT h1 m2
   .rw[hw]at h1;cases h1
 .exact H.plain i a (by rw[touchAt_of hz'];exact hza) hX
end
end
section
open Go.Conc Go.ConcN
open Go.ConcR (KK wgBlock WgAt stA smA rd wr mk Payload Aside2 DC0 Bk g_of_ofEvents bk_of_mute ofEvent_loc_mark deafBehind_cons deafBehind_one)
variable[fQ]
def Dz:Nat->Loc->Prop:=λ_ _=>False
def EvG(Wg:Nat)(e:cK):Prop:=((fH e).touch? =ah\/∃x,(fH e).touch? =ae x/\ShN Wg x.loc/\x.kind=.atomic)/\e.loc≠.mark (.release (stA Wg))
omit[Payload]in
theorem Qh{e:cK}(h:Bk Wg e):EvG Wg e:=by
 rcases h with h|h|⟨a,wr,rfl,ha⟩
 .exact⟨.inl (by rw[ofEvent_loc_mark h];rfl),by rw[h];simp⟩
 .exact⟨.inl (by rw[ofEvent_loc_mark h];rfl),by rw[h];simp⟩
 .exact⟨.inr ⟨⟨.cell a,wr,.atomic⟩,rfl,⟨a,rfl,ha⟩,rfl⟩,aJ⟩
def TK(P:bh)(ty:bq)(Wg C n k:Nat)(g:aY)(w:aj):Prop:=g.status=.running/\∃g',bn P aw g w=.go g' w #[mk (.releaseMerge (stA Wg))]/\∃m,Goes P aw (RW ty Wg C n 0 (k-1)) DC0 (AtK1 P ty Wg C n 0 k) m g' w
inductive j5(P:bh)(ty:bq)(Wg C n k:Nat):Nat->Nat->Nat->aY->aj->Prop
 |r0 {m:Nat} {g:aY} {w:aj}:Goes P aw (RW ty Wg C n 0 (k-1)) DC0 (TK P ty Wg C n k) m g w->j5 P ty Wg C n k 7 m 0 g w
 |low {s m d:Nat} {g:aY} {w:aj}:s<=6->WSit P ty Wg C n Dz Dz 0 k aO s m d g w->j5 P ty Wg C n k s m d g w
theorem j5.rely{P:bh}{n k d:Nat}{g:aY}{w:aj}(h:j5 P ty Wg C n k s m d g w)(hr:RW ty Wg C n 0 (k-1) w w'):j5 P ty Wg C n k s m d g w':=by
 cases h with
 |r0 h=>exact .r0 (kX (λ_ _ _ h1 h2=>h1.trans h2) h hr)
 |low h h'=>exact .low h (h'.rely hr)
theorem j5.status{P:bh}{n k d:Nat}{g:aY}{w:aj}(h:j5 P ty Wg C n k s m d g w):g.status=.running\/g.status=.finished:=by
 cases h with
 |r0 h=>exact .inl (kh (λ_ _ x=>x.1) w (RW.refl w) h)
 |low _ h'=>exact h'.status
def TL(P:bh)(ty:bq)(Wg C n k:Nat)(j:Nat)(D:Nat->WD)(tag:CTag)(i kk s m dd:Nat)(g:aY)(w:aj):Prop:=
 ∃g' w' es s' m' dd' ER Lm,bn P aw g w=.go g' w' es/\Aside Wg w w'/\j5 P ty Wg C n k s' m' dd' g' w'/\deafBehind dd es=dd'/\WgAt ty Wg w' ER Lm/\
  (∀cJ,(cJ=tag\/(tag=.blk/\cJ=.w3))->(mayWake P g=au->g'.status=.running->cJ≠.blk)->ConcN.Mode j (upd D i ⟨s',m',dd'⟩) cJ ER Lm)/\(∀e∈es,EvG Wg e)/\
  (∀(t:Trace) fn pos,Deaf t kk=dd->(∀r,s<=6->RelBy (stA Wg) t kk r->RelBy (stA Wg) (t++eM kk fn pos es) kk r)/\(s'<=6->s=7->∃r,RelBy (stA Wg) (t++eM kk fn pos es) kk r))/\
  (s'<s\/(s'=s/\m'+1=m))/\s'<=s
section
variable{P:bh}{n k:Nat}{w:aj}{D:Nat->WD}{tag:CTag}{st sm:Int}
theorem OD(hCW:C≠Wg)(hb:j+pend tag<2147483648)(lI:WgAt ty Wg w st sm)(jh:ConcN.Mode j D tag st sm){kk:Nat}(hi:i<j){g:aY}{dd:Nat}(hst:(D i).stage=s)
  (hs:j5 P ty Wg C n k s m dd g w)(hrun:g.status=.running):TL P ty Wg C n k j D tag i kk s m dd g w:=by
 have hVj:=Vc_le j D;have book:∀{g':aY} {w':aj} {es:Array cK} {s' m' dd':Nat} {ER Lm:Int},bn P aw g w=.go g' w' es->Aside Wg w w'->WgAt ty Wg w' ER Lm->(∀e∈es,Bk Wg e)->
   (∀jx e,es[jx]? =ae e->(fH e).touch? =ah\/0<deafBehind dd (es.extract 0 jx))->j5 P ty Wg C n k s' m' dd' g' w'->deafBehind dd es=dd'->s<=6->
   (∀cJ,(cJ=tag\/(tag=.blk/\cJ=.w3))->(mayWake P g=au->g'.status=.running->cJ≠.blk)->ConcN.Mode j (upd D i ⟨s',m',dd'⟩) cJ ER Lm)->(s'<s\/(s'=s/\m'+1=m))->TL P ty Wg C n k j D tag i kk s m dd g w:=by
  intro g' w' es s' m' dd' ER Lm hgo hAs L6 Jc hd hs' hdd h6 BX hlt;exact⟨g',w',es,s',m',dd',ER,Lm,hgo,hAs,hs',hdd,L6,BX,λe he=>Qh (Jc e he),λt fn pos vt=>⟨λr _ hr=>hr.book vt _ _ Jc hd,λ_ h7=>ai⟩,hlt,ai⟩
 have idle:∀{g':aY} {m':Nat},bn P aw g w=.go g' w #[]->j5 P ty Wg C n k s m' dd g' w->m'+1=m->s<=6->s≠1->TL P ty Wg C n k j D tag i kk s m dd g w:=by intro g' m' hgo hs' hm h6 h1;exact book hgo (.refl Wg w) lI aJ aJ hs' rfl h6 (λ_ ht _=>ConcN.Mode.retag (by have:=jh.same (i:=i) m' dd;rwa [hst]at this) ht) (.inr ⟨rfl,hm⟩)
 cases hs with
 |r0 h=>
  rcases lx h with eE|⟨m',rfl,hstep⟩
  .obtain⟨_,g',hgo,m₂,hk⟩:=eE w (RW.refl w);exact⟨g',w,_,6,m₂,0,st,sm,hgo,.refl Wg w,.low ai (.k1 hk),rfl,lI,λ_ ht _=>(jh.counted hi ai (.inl rfl) _ _).retag ht,by intro e he;simp at he;subst he;exact⟨.inl rfl,by simp[mk]⟩,
    λt fn pos vt=>⟨λ_ h6=>ai,λ_ _=>⟨t.size,RelBy.new vt _ _⟩⟩,.inl ai,ai⟩
  .obtain⟨g',w',es,hgo,⟨rfl,rfl⟩,nA⟩:=hstep w (RW.refl w);exact⟨g',w',#[],7,m',0,st,sm,hgo,.refl Wg w',.r0 nA,rfl,lI,λ_ ht _=>ConcN.Mode.retag (by have:=jh.same (i:=i) m' 0;rwa [hst]at this) ht,aJ,λt fn pos vt=>⟨λ_ h6=>ai,λh6=>ai⟩,.inr ⟨rfl,rfl⟩,ai⟩
 |low hs6 hs=>
 cases hs with
 |r0 h=>omega
 |k1 h=>
  rcases lx h with eE|⟨m',rfl,hstep⟩
  .obtain⟨_,g',hgo,m₂,hk⟩:=eE w (RW.refl w);exact book hgo (.refl Wg w) lI (by intro e he;simp at he;subst he;exact .inl rfl) (by intro jx e he;exact .inl (by have:=qf he;simp at this;subst this;rfl)) (.low ai (.d1 hk)) rfl ai
    (λ_ ht _=>(jh.counted hi ai (.inr rfl) _ _).retag ht) (.inl ai)
  .obtain⟨g',w',es,hgo,⟨rfl,rfl⟩,nA⟩:=hstep w (RW.refl w);exact idle hgo (.low ai (.k1 nA)) rfl ai ai
 |d1 h=>
  rcases lx h with eE|⟨m',rfl,hstep⟩
  .obtain⟨_,hall⟩:=eE w (RW.refl w);have hc1:cnt (D i)=1:=(by simp[cnt,hst]);have hV1:1<=Vc j D:=(by have:=le_sumTo (f:=λx=>cnt (D x)) hi;simp only[Vc];omega);have bk2:∀e∈#[rd (stA Wg),wr (stA Wg)],Bk Wg e:=(by intro e he;simp at he;rcases he with rfl|rfl<;>exact bk_cell _ _ rfl);have df2:∀jx e,(#[rd (stA Wg),wr (stA Wg)]:Array cK)[jx]? =ae e->(fH e).touch? =ah\/0<deafBehind 1 ((#[rd (stA Wg),wr (stA Wg)]:Array cK).extract 0 jx):=by
    intro jx e he;match jx,he with
    |0,_=>exact .inr (by simp[deafBehind])
    |1,_=>exact .inr (by simp[deafBehind,rd])
    |jx+2,he=>simp at he
   have hq0:∀q,cnt (⟨1,q,1⟩:WD)=0:=λ_=>rfl;have opq:∀q,OpenSt j D->OpenSt j (upd D i ⟨1,q,1⟩):=λq h a ha=>by
    by_cases e:a=i
    .subst e;rw[gR];simp
    .rw[upd_ne D _ e];exact h a ha
   cases jh with
   |opn h1 h2 h3=>obtain⟨v,hv⟩:∃v,Vc j D+pend tag=v+1:=⟨Vc j D+pend tag-1,ai⟩;rw[hv]at lI;have iA:WgAt ty Wg w (((v:Nat) +1) *KK+((0:Nat):Int)) 0:=(by simpa using lI);obtain⟨g',hgo,_,hq⟩:=hall v 0 ai ai iA;obtain⟨q,hq⟩:=hq ai;have hv':Vc j (upd D i ⟨1,q,1⟩) +pend tag=v:=(by have:=Vc_upd D (⟨1,q,1⟩:WD) hi;have:=hq0 q;omega);refine book hgo (aside_setCell w (stA Wg) _) (lI.setSt _) bk2 df2 (.low ai (.quit hq)) rfl ai (λ_ ht _=>ConcN.Mode.retag ?_ ht) (.inl ai);have e:((v:Nat):Int) *KK+((0:Nat):Int)=((Vc j (upd D i ⟨1,q,1⟩) +pend tag:Nat):Int) *KK:=(by rw[hv'];simp);rw[e];exact .opn h1 (opq q h2) (λvs ev=>by have:=h3 vs ev;omega)
   |reg h1 h2 h3=>
    obtain⟨v,hv⟩:∃v,Vc j D=v+1:=⟨Vc j D-1,ai⟩;rw[hv]at lI;have hp:pend tag=0:=(by cases tag<;>first|rfl|exact h1.elim);have iA:WgAt ty Wg w (((v:Nat) +1) *KK+((1:Nat):Int)) 0:=(by simpa using lI);obtain⟨g',hgo,hl,hq⟩:=hall v 1 ai ai iA;by_cases hv0:v=0
    .subst hv0;obtain⟨m₂,hk⟩:=hl ⟨rfl,rfl⟩;refine book hgo (aside_setCell w (stA Wg) _) (lI.setSt _) bk2 df2 (.low ai (.d2 hk)) rfl ai (λ_ ht _=>ConcN.Mode.retag ?_ ht) (.inl ai);have nQ:∀a,a<j->a≠i->(D a).stage=1:=λa ha e=>(by have c0:=others_uncounted hi hv hc1 a ha e;have:=h2 a ha;simp only[cnt]at c0;split at c0<;>omega);have:=ConcN.Mode.last (j:=j) (D:=upd D i ⟨4,m₂,1⟩) (tag:=tag) i h1 hi (by rw[gR];simp) (λa ha e=>by rw[upd_ne D _ e];exact nQ a ha e);rw[gR]at this;simpa using this
    .obtain⟨q,hq⟩:=hq ai;have hv':Vc j (upd D i ⟨1,q,1⟩)=v:=(by have:=Vc_upd D (⟨1,q,1⟩:WD) hi;have:=hq0 q;omega);refine book hgo (aside_setCell w (stA Wg) _) (lI.setSt _) bk2 df2 (.low ai (.quit hq)) rfl ai (λ_ ht _=>ConcN.Mode.retag ?_ ht) (.inl ai);have e:((v:Nat):Int) *KK+((1:Nat):Int)=((Vc j (upd D i ⟨1,q,1⟩):Nat):Int) *KK+1:=(by rw[hv'];simp);rw[e];exact .reg h1 (opq q h2) ai
   |last L _ h2 h3 h4=>
    by_cases e:i=L
    .subst e;omega
    .have:=h4 i hi e;omega
   |sema h2=>have:=h2 i hi;omega
   |fin _ h2=>have:=h2 i hi;omega
  .obtain⟨g',w',es,hgo,⟨rfl,rfl⟩,nA⟩:=hstep w (RW.refl w);exact idle hgo (.low ai (.d1 nA)) rfl ai ai
 |d2 h=>
  rcases lx h with eE|⟨m',rfl,hstep⟩
  .obtain⟨_,hx⟩:=eE w (RW.refl w);obtain⟨hW3,nQ,rfl,rfl⟩:=jh.isLast hi ai;simp only[hst]at lI;obtain⟨g',hgo,m₂,hk⟩:=hx (by simpa using lI);refine book hgo (.refl Wg w) lI (by intro e he;simp at he;subst he;exact bk_cell _ _ rfl) (by intro jx e he;match jx,he with|0,_=>exact .inr (by simp[deafBehind])|jx+1,he=>simp at he) (.low ai (.d3 hk)) rfl ai (λ_ ht _=>ConcN.Mode.retag ?_ ht) (.inl ai);have:=ConcN.Mode.last (j:=j) (D:=upd D i ⟨3,m₂,1⟩) (tag:=tag) i hW3 hi (by rw[gR];simp) (λa ha e=>by rw[upd_ne D _ e];exact nQ a ha e);rw[gR]at this;simpa using this
  .obtain⟨g',w',es,hgo,⟨rfl,rfl⟩,nA⟩:=hstep w (RW.refl w);exact idle hgo (.low ai (.d2 nA)) rfl ai ai
 |d3 h=>
  rcases lx h with eE|⟨m',rfl,hstep⟩
  .obtain⟨_,hx⟩:=eE w (RW.refl w);obtain⟨hW3,nQ,rfl,rfl⟩:=jh.isLast hi ai;simp only[hst]at lI;obtain⟨g',hgo,m₂,hk⟩:=hx (by simpa using lI);refine book hgo (aside_setCell w (stA Wg) _) (lI.setSt 0) (by intro e he;simp at he;subst he;exact bk_cell _ _ rfl) (by intro jx e he;match jx,he with|0,_=>exact .inr (by simp[deafBehind])|jx+1,he=>simp at he) (.low ai (.d4 hk)) rfl ai (λ_ ht _=>ConcN.Mode.retag ?_ ht) (.inl ai);have:=ConcN.Mode.last (j:=j) (D:=upd D i ⟨2,m₂,1⟩) (tag:=tag) i hW3 hi (by rw[gR];simp) (λa ha e=>by rw[upd_ne D _ e];exact nQ a ha e);rw[gR]at this;simpa using this
  .obtain⟨g',w',es,hgo,⟨rfl,rfl⟩,nA⟩:=hstep w (RW.refl w);exact idle hgo (.low ai (.d3 nA)) rfl ai ai
 |d4 h=>
  rcases lx h with eE|⟨m',rfl,hstep⟩
  .obtain⟨_,hmw,hx⟩:=eE w (RW.refl w);obtain⟨hW3,nQ,rfl,rfl⟩:=jh.isLast hi ai;simp only[hst]at lI;obtain⟨g',hgo,q,hq⟩:=hx (by simpa using lI);have hrun':g'.status=.running:=by
    cases q with
    |zero=>exact aT hq.2 aN
    |succ q=>exact hq.elim (λx=>aT x.2 aN) (λx=>x.1)
   refine book hgo (aside_setCell w (smA Wg) _) (lI.setSm 1) (es:=semEvents (smA Wg)) ?_ ?_ (.low ai (.quit hq)) (by simp[deafBehind,semEvents]) ai ?_ (.inl ai)
   .intro e he;simp[semEvents]at he;rcases he with rfl|rfl|rfl|rfl
    .exact .inl rfl
    .exact bk_cell _ _ rfl
    .exact bk_cell _ _ rfl
    .exact .inr (.inl rfl)
   .intro jx e he;match jx,he with
    |0,he=>simp[semEvents]at he;subst he;exact .inl rfl
    |1,_=>exact .inr (by simp[deafBehind,semEvents])
    |2,_=>exact .inr (by simp[deafBehind,semEvents])
    |3,he=>simp[semEvents]at he;subst he;exact .inl rfl
    |jx+4,he=>simp[semEvents]at he
   .intro cJ ht hw;have hnb:=hw hmw hrun';have e3:cJ=.w3:=by
     rcases ht with rfl|⟨_,rfl⟩
     .cases cJ<;>first|rfl|exact hW3.elim|exact aT rfl hnb
     .rfl
    subst e3;simp only[if_true];exact .sema λa ha=>by
     by_cases e:a=i
     .subst e;rw[gR]
     .rw[upd_ne D _ e];exact nQ a ha e
  .obtain⟨g',w',es,hgo,⟨rfl,rfl⟩,nA⟩:=hstep w (RW.refl w);exact idle hgo (.low ai (.d4 nA)) rfl ai ai
 |quit h=>
  cases m with
  |zero=>rw[h.1]at hrun;cases hrun
  |succ q=>
   rcases h with⟨hf,_⟩|⟨_,g',es,TM,hstep,hq⟩
   .rw[hf]at hrun;cases hrun
   .have Jc:∀e∈es,Bk Wg e:=λe he=>bk_of_mute (TM e he);have hno:∀jx e,es[jx]? =ae e->(fH e).touch? =ah\/0<deafBehind dd (es.extract 0 jx):=λjx e he=>.inl (by
     rcases bk_of_mute (Wg:=Wg) (TM e (qf he))with h1|h1|⟨a,wr,rfl,_⟩
     .rw[ofEvent_loc_mark h1];rfl
     .rw[ofEvent_loc_mark h1];rfl
     .have:=TM _ (qf he);simp[Event.mute]at this)
    exact book (hstep w) (.refl Wg w) lI Jc hno (.low ai (.quit hq)) rfl ai (λ_ ht _=>ConcN.Mode.retag (by have:=jh.same (i:=i) q (deafBehind dd es);rwa [hst]at this) ht) (.inr ⟨rfl,rfl⟩)
end
end
section
open Go.Conc Go.ConcN
open Go.ConcR (KK WgAt stA smA Payload Aside2 DC0)
variable[fQ]
structure CC where
 P:bh
 K:aj->Prop
 K0:aj->Prop
 sub:∀w,K w->K0 w
 S:Nat->Loc->Prop
 gone:Nat
 ty:bq
 Wg:Nat
 n:Nat
 B:Nat
 C:Nat
 val:Nat->ay
structure RH(c:CC)(w w₁:aj):Prop where
 tape:w₁.tape=w.tape
 os:w₁.os=w.os
 output:w₁.output=w.output
 size:w₁.heap.size=w.heap.size
 block:∀b,b≠c.Wg->w₁.heap[b]? =w.heap[b]?
 live:dG c.ty c.Wg w->dG c.ty c.Wg w₁
structure YJ(w w₁:aj):Prop where
 tape:w₁.tape=w.tape
 os:w₁.os=w.os
 output:w₁.output=w.output
 size:w.heap.size<=w₁.heap.size
 block:∀b,b<w.heap.size->w₁.heap[b]? =w.heap[b]?
structure SY(c:CC)(w w₁:aj):Prop where
 tape:w₁.tape=w.tape
 os:w₁.os=w.os
 output:w₁.output=w.output
 size:w.heap.size<=w₁.heap.size
 block:∀b,b<w.heap.size->b≠c.Wg->w₁.heap[b]? =w.heap[b]?
 live:dG c.ty c.Wg w->dG c.ty c.Wg w₁
structure CC.Ok(c:CC):Prop where
 keep:∀w w₁,SY c w w₁->c.K w->c.K w₁
 cin:∀w,c.K w->c.C<w.heap.size
 away:c.C≠c.Wg
 pay:∀w,c.K w->¬PayAt c.C c.n w
 still:∀i l,c.S i l->l.isMemory=au/\¬ShN c.Wg l
omit[Payload]in
theorem RH.refl(c:CC)(w:aj):RH c w w:=⟨rfl,rfl,rfl,rfl,λ_ _=>rfl,id⟩
omit[Payload]in
theorem RH.at(c:CC)(w:aj)(d:Nat):RH c w (w.at d):=⟨rfl,rfl,rfl,rfl,λ_ _=>rfl,id⟩
omit[Payload]in
theorem RH.g{c:CC}{w:aj}(h:RH c w w₁):SY c w w₁:=⟨h.tape,h.os,h.output,Nat.le_of_eq h.size.symm,λb _=>h.block b,h.live⟩
omit[Payload]in
theorem SY.refl(c:CC)(w:aj):SY c w w:=⟨rfl,rfl,rfl,bJ _,λ_ _ _=>rfl,id⟩
omit[Payload]in
theorem YJ.refl(w:aj):YJ w w:=⟨rfl,rfl,rfl,bJ _,λ_ _=>rfl⟩
omit[Payload]in
theorem aL{w:aj}{o:Obj}(h:w.heap[b]? =ae o):b<w.heap.size:=(bF.1 h).1
omit[Payload]in
theorem L8{c:CC}{w:aj}(g:YJ w w₁)(h:dG c.ty c.Wg w):dG c.ty c.Wg w₁:=by obtain⟨st,sm,hw⟩:=h;exact⟨st,sm,(g.block _ (aL hw)).trans hw⟩
omit[Payload]in
theorem YJ.g{c:CC}{w:aj}(h:YJ w w₁):SY c w w₁:=⟨h.tape,h.os,h.output,h.size,λb h0 _=>h.block b h0,L8 h⟩
omit[Payload]in
theorem RH.trans{c:CC}{b d:aj}(h:RH c a b)(k:RH c b d):RH c a d:=⟨k.tape.trans h.tape,k.os.trans h.os,k.output.trans h.output,k.size.trans h.size,λx h1=>(k.block x h1).trans (h.block x h1),k.live∘h.live⟩
omit[Payload]in
theorem RH.Jd{c:CC}{w:aj}(h:Aside c.Wg w w')(hl:dG c.ty c.Wg w'):RH c w w':=⟨h.tape,h.os,h.output,h.size,λb h1=>h.block b h1,λ_=>hl⟩
abbrev CC.TN(c:CC)(i:Nat)(s:Seat)(n:Nat)(g:aY):Prop:=Sits c.P (i==0) c.K0 (c.S i) c.B s n g
abbrev CC.Wk(c:CC)(i s m d:Nat)(g:aY)(w:aj):Prop:=j5 c.P c.ty c.Wg c.C c.n (i+1) s m d g w
abbrev CC.Unw(c:CC)(i n:Nat)(g:aY)(w:aj):Prop:=Goes c.P aw (RK c.K0) (DS (c.S (i+1)) c.B) (λg w=>g.status=.running/\∃m,c.Wk i 7 m 0 g w) n g w
structure CF(c:CC)(h j d0:Nat)(Inb:Nat->Option Seat)(tag:CTag)(D:Nat->WD)(fe:Nat->Bool)(q:Nat->Nat)(T:Trace)(gs:Array aY)(w:aj):Prop where
 size:gs.size=j+1
 hlt:h<gs.size
 seat:∀i g s,i≠h->gs[i]? =ae g->Inb i=ae s->c.TN i s (q i) g
 main:h≠0->Inb 0≠ah
 work:∀i g,i+1≠h->gs[i+1]? =ae g->Inb (i+1)=ah->(fe i=au/\(D i).stage=7/\(D i).deaf=0/\c.Unw i (q (i+1)) g w)\/(fe i=aw/\c.Wk i (D i).stage (D i).fuel (D i).deaf g w)
 full:∀i,i<j->Inb (i+1)≠ah\/i+1=h->(D i).stage=7/\(D i).deaf=0
 inR:∀i s,Inb i=ae s->i<gs.size
 wf:∀i s,Inb i=ae s->s.Wf
 chans:∀i s b,i≠h->Inb i=ae s->s.has b->(∃k,w.heap[b]? =ae (.chan 0 #[] aw k k aw))/\b≠c.Wg/\b≠c.C
 inj:∀i i' s s' b,i≠h->i'≠h->Inb i=ae s->Inb i'=ae s'->s.has b->s'.has b->b≠c.gone->i=i'
 keep:c.K w
 group:∃st sm,WgAt c.ty c.Wg w st sm/\ConcN.Mode j D tag st sm
 pend:j+pend tag<2147483648
 led:Led (λ_=>False) c.S (ShN c.Wg) (λi=>Knows T h i) T
 deaf0:Deaf T 0=d0
 deafW:∀i,i<j->Deaf T (i+1)=(D i).deaf
 above:∀i,gs.size<=i->Deaf T i=0
 norel:∀op∈T,op.act≠.mark (.release (stA c.Wg))
 rel:∀i,i<j->(D i).stage<=6->∃r,RelBy (stA c.Wg) T (i+1) r
 who:∀op∈T,op.g<gs.size
def YK(j:Nat)(D:Nat->WD)(fe:Nat->Bool):Nat:=cZ j λi=>(D i).stage+if fe i then 1 else 0
def SZ(j:Nat)(D:Nat->WD)(q:Nat->Nat):Nat:=cZ (j+1) q+cZ j λi=>(D i).fuel
section
variable{c:CC}{h:Nat}{tag:CTag}{D:Nat->WD}{fe:Nat->Bool}{w:aj}
theorem CF.at(F:CF c h j d0 Inb tag D fe q T gs w)(O:c.Ok)(d:Nat):CF c h j d0 Inb tag D fe q T gs (w.at d):=⟨F.size,F.hlt,F.seat,F.main,λi g h1 h2 h3=>(F.work i g h1 h2 h3).imp (λ⟨a,b,e,f⟩=>⟨a,b,e,kX (λ_ _ _ _ x=>x) f (c.sub _ (O.keep _ _ (RH.at c w d).g F.keep))⟩) (λ⟨a,b⟩=>⟨a,b.rely (RW.at w d)⟩),F.full,F.inR,F.wf,F.chans,F.inj,O.keep _ _ (RH.at c w d).g F.keep,F.group,F.pend,F.led,F.deaf0,F.deafW,F.above,F.norel,F.rel,F.who⟩
theorem CF.status(F:CF c h j d0 Inb tag D fe q T gs w){g:aY}(hi:i≠h)(hg:gs[i]? =ae g):g.status=.running\/g.status=.blocked\/g.status=.finished:=by
 cases e:Inb i with
 |some s=>exact(Sits.status (c.sub _ F.keep) (F.seat i g s hi hg e)).elim (λx=>.inl x.1) λx=>.inr (.inl x.1)
 |none=>
  cases i with
  |zero=>exact aT e (F.main (bZ hi))
  |succ i=>
   rcases F.work i g hi hg e with⟨_,_,_,hu⟩|⟨_,hw⟩
   .exact .inl (kh (λ_ _ x=>x.1) w (c.sub _ F.keep) hu)
   .exact hw.status.elim .inl λx=>.inr (.inr x)
theorem CF.fixed(F:CF c h j d0 Inb tag D fe q T gs w){g:aY}(hi:i≠h)(hg:gs[i]? =ae g)(hK:c.K w')(hC:∀s b,Inb i=ae s->s.has b->∃k,w'.heap[b]? =ae (.chan 0 #[] aw k k aw)):g.again w'=g:=by
 cases e:Inb i with
 |some s=>exact Sits.again (c.sub _ hK) (F.seat i g s hi hg e) (F.wf i s e) λb hb=>by obtain⟨k,hk⟩:=hC s b e hb;exact⟨_,_,_,_,_,hk⟩
 |none=>
  cases i with
  |zero=>exact aT e (F.main (bZ hi))
  |succ i=>
   rcases F.work i g hi hg e with⟨_,_,_,hu⟩|⟨_,hw⟩
   .exact nB _ (.inl (kh (λ_ _ x=>x.1) w (c.sub _ F.keep) hu))
   .exact nB _ hw.status
theorem CF.TP(F:CF c h j d0 Inb tag D fe q T gs w)(O:c.Ok){g:aY}(hi:i≠h)(hg:gs[i]? =ae g)(hr:RH c w w'):g.again w'=g:=F.fixed hi hg (O.keep _ _ hr.g F.keep) λs b e hb=>by obtain⟨⟨k,hk⟩,h1,h2⟩:=F.chans i s b hi e hb;exact⟨k,by rw[hr.block b h1];exact hk⟩
theorem CF.noSend(F:CF c h j d0 Inb tag D fe q T gs w){g:aY}(hi:i≠h)(hg:gs[i]? =ae g)(b:Nat):offersAt g b au=[]:=by
 cases e:Inb i with
 |some s=>
  rcases F.seat i g s hi hg e with⟨k,w₀,hq,hgo⟩|⟨_,_,g₂,rfl,_⟩
  .have:=(Sits.status (c.sub _ F.keep) (.inl ⟨k,w₀,hq,hgo⟩)).elim (·.1) (λz=>ai);exact tH (λhb=>by rw[this]at hb;cases hb) b au
  .exact offersAt_parked_sends (λcc hcc=>by obtain⟨c',z',rfl⟩:=(F.wf i s e).recvs cc hcc;rfl) _
 |none=>
  cases i with
  |zero=>exact aT e (F.main (bZ hi))
  |succ i=>
   rcases F.work i g hi hg e with⟨_,_,_,hu⟩|⟨_,hw⟩
   .exact tH (by rw[kh (λ_ _ x=>x.1) w (c.sub _ F.keep) hu];simp) _ _
   .exact tH (by rcases hw.status with x|x<;>rw[x] <;>simp) _ _
theorem CF.ab0(F:CF c h j d0 Inb tag D fe q T gs w){g:aY}(hi:i≠h)(hg:gs[i]? =ae g)(hb:∀s,Inb i=ae s->¬s.has b):offersAt g b aw=[]:=by
 cases e:Inb i with
 |some s=>
  rcases F.seat i g s hi hg e with⟨k,w₀,hq,hgo⟩|⟨_,_,g₂,rfl,_⟩
  .have:=(Sits.status (c.sub _ F.keep) (.inl ⟨k,w₀,hq,hgo⟩)).elim (·.1) (λz=>ai);exact tH (λhb=>by rw[this]at hb;cases hb) b aw
  .refine offersAt_parked_off (λcc hcc ec=>?_) _;obtain⟨c',z',rfl⟩:=(F.wf i s e).recvs cc hcc;simp only[dh,Value.chan.injEq,dD]at ec;subst ec;exact hb s e (Seat.has_of_mem hcc)
 |none=>
  cases i with
  |zero=>exact aT e (F.main (bZ hi))
  |succ i=>
   rcases F.work i g hi hg e with⟨_,_,_,hu⟩|⟨_,hw⟩
   .exact tH (by rw[kh (λ_ _ x=>x.1) w (c.sub _ F.keep) hu];simp) _ _
   .exact tH (by rcases hw.status with x|x<;>rw[x] <;>simp) _ _
theorem CF.awake(F:CF c h j d0 Inb tag D fe q T gs w){a:aY}(ha:gs[h]? =ae a)(hs:a.status=.running\/a.status=.blocked):∀g∈gs,awake g:=by
 intro g hg;obtain⟨i,hi,rfl⟩:=Array.mem_iff_getElem.1 hg;by_cases e:i=h
 .subst e;have:gs[i]=a:=by simpa[fP hi]using ha
  rw[this];exact awake_of (hs.elim .inl λx=>.inr (.inl x))
 .exact awake_of (F.status e (fP hi))
theorem CF.put(F:CF c h j d0 Inb tag D fe q T gs w)(O:c.Ok){ops:Array MemOp}(rh:ConcN.pend cJ=ConcN.pend tag)(hne:i≠h)
  (hsz:gs'.size=gs.size)(nQ:∀x,x≠i->x≠h->gs'[x]? =gs[x]?)(bY:gs'[i]? =ae g')(cH:∀op∈ops,op.g=i)(hr:RH c w w')(hC:∀x,x<j->x+1≠i->w'.cell? ⟨c.C,x,ah⟩=w.cell? ⟨c.C,x,ah⟩)(agC:PayAt c.C c.n w->PayAt c.C c.n w')
  (hq:∀x,x≠i->q' x=q x)(hD:∀x,x+1≠i->D' x=D x)(hU:∀x,x+1≠i->mQ x=fe x)(hseat:∀s,Inb i=ae s->c.TN i s (q' i) g')
  (hwork:∀x,i=x+1->Inb i=ah->(mQ x=au/\(D' x).stage=7/\(D' x).deaf=0/\c.Unw x (q' i) g' w')\/(mQ x=aw/\c.Wk x (D' x).stage (D' x).fuel (D' x).deaf g' w'))
  (hfull:∀x,i=x+1->Inb i≠ah->(D' x).stage=7/\(D' x).deaf=0)(hgroup:∃st sm,WgAt c.ty c.Wg w' st sm/\ConcN.Mode j D' cJ st sm)
  (hled:Led (λ_=>False) c.S (ShN c.Wg) (λi=>Knows (T++ops) h i) (T++ops))(A8:i=0->Deaf (T++ops) 0=d0)(hdW:∀x,i=x+1->Deaf (T++ops) i=(D' x).deaf)
  (hno:∀op∈ops,op.act≠.mark (.release (stA c.Wg)))(hrel:∀x,i=x+1->(D' x).stage<=6->∃r,RelBy (stA c.Wg) (T++ops) i r):CF c h j d0 Inb cJ D' mQ q' (T++ops) gs' w':=by
 have hlt:i<gs.size:=by rw[←hsz];exact(bF.1 bY).1
 have hK':=O.keep _ _ hr.g F.keep;refine⟨hsz.trans F.size,by rw[hsz];exact F.hlt,λx g s h1 h2 h3=>?_,F.main,λx g h1 h2 h3=>?_,λx hx h1=>?_,λx s h1=>by rw[hsz];exact F.inR x s h1,F.wf,λx s b h1 h2 h3=>?_,F.inj,hK',hgroup,by rw[rh];exact F.pend,hled,?_,λx hx=>?_,λx hx=>?_,λop hop=>?_,λx hx hs=>?_,λop hop=>by rw[hsz];exact(ib.1 hop).elim (F.who op) (λh=>by rw[cH op h];exact hlt)⟩
 .by_cases e:x=i
  .subst e;rw[bY]at h2;obtain rfl:=bj h2;exact hseat s h3
  .rw[nQ x e h1]at h2;rw[hq x e];exact F.seat x g s h1 h2 h3
 .by_cases e:x+1=i
  .subst e;rw[bY]at h2;obtain rfl:=bj h2;exact hwork x rfl h3
  .rw[nQ _ e h1]at h2;rw[hq _ e,hD x e,hU x e];have hxj:x<j:=(by have:=(bF.1 h2).1;have:=F.size;omega);refine(F.work x g h1 h2 h3).imp (λ⟨a,b,d,f⟩=>⟨a,b,d,kX (λ_ _ _ _ y=>y) f (c.sub _ hK')⟩) (λ⟨a,b⟩=>⟨a,b.rely ?_⟩);obtain⟨st,sm,hw,_⟩:=hgroup;exact⟨λb hb=>aT hb (fR b),λ_=>⟨st,sm,hw⟩,agC,by rw[Nat.add_sub_cancel];exact hC x hxj e⟩
 .by_cases e:x+1=i
  .rcases h1 with h1|h1
   .exact hfull x e.symm (by rw[←e];exact h1)
   .exact aT (e.symm.trans h1) hne
  .rw[hD x e];exact F.full x hx h1
 .obtain⟨⟨k,hk⟩,e1,e2⟩:=F.chans x s b h1 h2 h3;exact⟨⟨k,by rw[hr.block b e1];exact hk⟩,e1,e2⟩
 .by_cases e:i=0
  .exact A8 e
  .rw[ig T e _ cH];exact F.deaf0
 .by_cases e:x+1=i
  .rw[e];exact hdW x e.symm
  .rw[ig T (λz=>e z.symm) _ cH,hD x e];exact F.deafW x hx
 .rw[ig T (g':=i) ai _ cH];exact F.above x ai
 .rcases ib.1 hop with h1|h1
  .exact F.norel op h1
  .exact hno op h1
 .by_cases e:x+1=i
  .rw[e];exact hrel x e.symm hs
  .rw[hD x e]at hs;obtain⟨r,hr⟩:=F.rel x hx hs;exact⟨r,hr.appOther cH (λz=>e z.symm)⟩
omit[Payload]in
theorem TQ(hi:i<j+1)(k:Nat)(hk:k<q i):SZ j D (upd q i k) <SZ j D q:=by
 have h2:cZ (j+1) (upd q i k) +q i=cZ (j+1) q+k:=by have:=sumTo_upd q k id hi;simpa using this
 simp only[SZ];omega
omit[Payload]in
theorem TS(j:Nat)(D:Nat->WD)(u:Nat->Bool):YK j D u=(cZ j λx=>(D x).stage) +cZ j λx=>if u x then 1 else 0:=by
 unfold YK;induction j with
 |zero=>rfl
 |succ j ih=>simp only[cZ,ih];omega
theorem Je{P:bh}{n k d:Nat}{g:aY}(h:j5 P ty Wg C n k s m d g w):s<=7:=by cases h<;>omega
omit[Payload]in
theorem oL{tag:CTag}(e:cJ=tag\/(tag=.blk/\cJ=.w3)):pend cJ=pend tag:=by rcases e with rfl|⟨rfl,rfl⟩ <;>rfl
omit[Payload]in
theorem uK{Still:Loc->Prop}{B:Nat}{pos:String}{es:Array cK}(he:∀e∈es,EvC Still B e):
  (∀op∈eM i fn pos es,op.g=i)/\(∀op∈eM i fn pos es,∀b,op.act.touch? =ae b->b.write=aw/\Still b.loc/\b.kind≠.atomic)/\(∀op∈eM i fn pos es,∀m,op.act≠.mark m)/\∀t:Trace,Deaf (t++eM i fn pos es) i=Deaf t i:=by
 obtain⟨h1,h2,_,h4⟩:=evC_ops (i:=i) (fn:=fn) (pos:=pos) he;refine⟨h1,λop hop b hb=>⟨(h2 op hop b hb).1,(h2 op hop b hb).2,?_⟩,λop hop m=>?_,h4⟩
 .obtain⟨e,hm,rfl⟩:=iK hop;obtain⟨a,rfl,_⟩:=he e hm;simp only[fH,ly,dD]at hb;subst hb;simp
 obtain⟨e,hm,rfl⟩:=iK hop;obtain⟨a,rfl,_⟩:=he e hm;simp[fH]
def Moved(c:CC)(h j d0:Nat)(Inb:Nat->Option Seat)(D:Nat->WD)(fe:Nat->Bool)(q:Nat->Nat)(T:Trace)(gs:Array aY)(w:aj)(sl:Option (Nat×Nat))(Hs:CTag->aY->aj->Prop)(i:Nat)(g:aY):Prop:=
 ∃gs' w' ops cJ a' D' mQ q',runT c.P (bS gs w sl) i=(.next (bS gs' w' sl),ops)/\gs'[h]? =ae a'/\Hs cJ a' w'/\RH c w w'/\CF c h j d0 Inb cJ D' mQ q' (T++ops) gs' w'/\Lt2 (YK j D' mQ,SZ j D' q') (YK j D fe,SZ j D q)/\
   (∀x,x≠i->q' x=q x)/\∀s,Inb i=ae s->q' i=0->∃g₂,AtIn c.P (i==0) c.K0 (c.S i) c.B s g g₂
theorem CF.by_step(F:CF c h j d0 Inb tag D fe q T gs w)(O:c.Ok){g a:aY}(hi:gs[i]? =ae g)(hne:i≠h)(hrun:g.status=.running)(ha:gs[h]? =ae a)
  (hH0:Hs tag a w)(hH:∀g' w',RH c w w'->∃cJ,(cJ=tag\/(tag=.blk/\cJ=.w3))/\(mayWake c.P g=au->g'.status=.running->cJ≠.blk)/\Hs cJ (woken c.P g g' w' a) w')
  (hsO:∀s g₂,Inb i=ae s->AtIn c.P (i==0) c.K0 (c.S i) c.B s g g₂->∀b,s.has b->offersAt a b au=[]):
  Moved c h j d0 Inb D fe q T gs w sl Hs i g:=by
 have hlt:i<gs.size:=(bF.1 hi).1;have Ar:i<j+1:=by have:=F.size;omega
 have BZ:∀(g':aY) (w':aj),RH c w w'->(∀x,x≠i->x≠h->((gs.map (woken c.P g g' w')).setIfInBounds i g')[x]? =gs[x]?)/\((gs.map (woken c.P g g' w')).setIfInBounds i g')[i]? =ae g'/\((gs.map (woken c.P g g' w')).setIfInBounds i g')[h]? =ae (woken c.P g g' w' a):=by
  intro g' w' hr;refine⟨λx hx Zq=>?_,iw (by simpa using hlt),?_⟩
  .rw[gG (λe=>hx e.symm),oH];cases e:gs[x]? with
   |none=>rfl
   |some y=>simp[mi (F.TP O Zq e hr)]
  .rw[gG hne,oH,ha];rfl
 cases e:Inb i with
 |some s=>
  have hfull:∀x,i=x+1->Inb i≠ah->(D x).stage=7/\(D x).deaf=0:=λx hx hn=>F.full x ai (.inl (by rw[←hx];exact hn));have hsit:=F.seat i g s hne hi e;obtain⟨k,w₀,hqi,hg⟩:∃k w₀,q i=k+1/\Goes c.P (i==0) (RK c.K0) (DS (c.S i) c.B) (λg _=>∃g₂,AtIn c.P (i==0) c.K0 (c.S i) c.B s g g₂) k g w₀:=by
   rcases hsit with h|⟨_,_,g₂,rfl,_⟩
   .exact h
   .cases hrun
  have led:∀{fn:FuncId} {pos:String} {es:Array cK},(∀e∈es,EvC (c.S i) c.B e)->Led (λ_=>False) c.S (ShN c.Wg) (λx=>Knows (T++eM i fn pos es) h x) (T++eM i fn pos es):=by intro fn pos es hes;obtain⟨h1,h2,_,_⟩:=uK (i:=i) (fn:=fn) (pos:=pos) hes;exact F.led.beside (λx=>Knows.app _) h1 (λop hop b hb=>.inl ⟨(h2 op hop b hb).1,(h2 op hop b hb).2.1,(O.still i _ (h2 op hop b hb).2.1).2,(h2 op hop b hb).2.2⟩) (λ_ h=>h.elim)
  rcases lx hg with eE|⟨k',rfl,hstep⟩
  .
   obtain⟨g₂,hat⟩:=eE w (c.sub _ F.keep);obtain⟨_,_,_,_,_,es,hes,Au⟩:=id hat;obtain⟨cH,hr,hmk,hd⟩:=uK (i:=i) (fn:=g.frame.fn) (pos:=g.frame.place) hes;have hw:∀cc∈s.cases,NoWays w (gs.setIfInBounds i ph) cc:=by
    intro cc hcc;obtain⟨b,z,rfl⟩:=(F.wf i s e).recvs cc hcc;have hsc:=Seat.has_of_mem hcc;obtain⟨⟨kk,hc⟩,_,_⟩:=F.chans i s b hne e hsc;refine ways_recv_none hc (partners_nil λx y hy=>?_);rcases getElem?_stand gs i x y hy with⟨_,rfl⟩|⟨hx,hy'⟩
    .exact offersAt_ph _ _
    .by_cases Zq:x=h
     .subst Zq;rw[ha]at hy';obtain rfl:=bj hy';exact hsO s g₂ e hat b hsc
     .exact F.noSend Zq hy' _
   refine⟨_,w,_,tag,a,D,fe,upd q i 0,crowd_waits (sl:=sl) hi (Au w (c.sub _ F.keep)) hw,by rw[gG hne];exact ha,hH0,.refl c w,?_,Prod.Lex.right _ (TQ Ar 0 ai),λx hx=>upd_ne q 0 hx,λs' hs' _=>by rw[e]at hs';obtain rfl:=bj hs';exact⟨g₂,hat⟩⟩;refine F.put O rfl hne aJ (λx hx _=>gG (λz=>hx z.symm)) (iw hlt) cH (.refl c w) (λ_ _ _=>rfl) id (λx hx=>upd_ne q 0 hx) (λ_ _=>rfl) (λ_ _=>rfl)
    (λs' hs'=>by rw[e]at hs';obtain rfl:=bj hs';rw[gR];exact .inr ⟨rfl,g,g₂,rfl,hat⟩) (λx hx hn=>by rw[e]at hn;cases hn) hfull F.group (led hes) (λxb=>by subst xb;rw[hd];exact F.deaf0) (λx hx=>by rw[hd,hx];exact F.deafW x ai)
    (λop hop=>hmk op hop _) (λx hx hs=>by have:=(hfull x hx oM).1;omega)
  .
   obtain⟨g',w',es,hgo,⟨rfl,hes⟩,hG'⟩:=hstep w (c.sub _ F.keep);obtain⟨cH,hr,hmk,hd⟩:=uK (i:=i) (fn:=g.frame.fn) (pos:=g.frame.place) hes;obtain⟨g1,g2,g3⟩:=BZ g' w' (.refl c w');obtain⟨cJ,t1,t2,t3⟩:=hH g' w' (.refl c w');refine⟨_,w',_,cJ,_,D,fe,upd q i (k'+1),mj (sl:=sl) hi hgo,g3,t3,.refl c w',?_,Prod.Lex.right _ (TQ Ar _ ai),λx hx=>upd_ne q _ hx,λs' _ h0=>by rw[gR]at h0;omega⟩;refine F.put O (oL t1) hne aJ g1 g2 cH (.refl c w') (λ_ _ _=>rfl) id (λx hx=>upd_ne q _ hx) (λ_ _=>rfl) (λ_ _=>rfl)
    (λs' hs'=>by rw[e]at hs';obtain rfl:=bj hs';rw[gR];exact .inl ⟨k',w',rfl,hG'⟩) (λx hx hn=>by rw[e]at hn;cases hn) hfull (by obtain⟨st,sm,h1,h2⟩:=F.group;exact⟨st,sm,h1,h2.retag t1⟩) (led hes) (λxb=>by subst xb;rw[hd];exact F.deaf0) (λx hx=>by rw[hd,hx];exact F.deafW x ai)
    (λop hop=>hmk op hop _) (λx hx hs=>by have:=(hfull x hx oM).1;omega)
 |none=>
  cases i with
  |zero=>exact aT e (F.main (bZ hne))
  |succ i=>
  have sD:i<j:=ai;have h0:∀x,i+1=x+1->x=i:=λx hx=>ai;have wg:∀m,c.Wk i (D i).stage m (D i).deaf g w->(m=(D i).fuel\/fe i=au)->Moved c h j d0 Inb D fe q T gs w sl Hs (i+1) g:=λm hw hm=>by
   obtain⟨st,sm,lI,jh⟩:=F.group;obtain⟨g',w',es,s',m',dd',ER,Lm,hgo,hA,sN,hdd,L6,BX,L9,Av,DC,hle⟩:=OD (kk:=i+1) O.away F.pend lI jh sD rfl hw hrun;have hr:RH c w w':=.Jd hA ⟨_,_,L6⟩;obtain⟨g1,g2,g3⟩:=BZ g' w' hr;obtain⟨cJ,t1,t2,t3⟩:=hH g' w' hr;have cH:∀op∈eM (i+1) g.frame.fn g.frame.place es,op.g=i+1:=λop hop=>(by obtain⟨e,_,rfl⟩:=iK hop;rfl);have vt:=F.deafW i sD;have hD':∀x,x+1≠i+1->upd D i ⟨s',m',dd'⟩ x=D x:=λx hx=>upd_ne D _ ai;have hU':∀x,x+1≠i+1->upd fe i aw x=fe x:=λx hx=>(by simp[upd,show x≠i by omega]);have agD:Lt2 (YK j (upd D i ⟨s',m',dd'⟩) (upd fe i aw),SZ j (upd D i ⟨s',m',dd'⟩) q) (YK j D fe,SZ j D q):=by
    have e1:(cZ j λx=>(upd D i ⟨s',m',dd'⟩ x).stage) +(D i).stage=(cZ j λx=>(D x).stage) +s':=sumTo_upd D (⟨s',m',dd'⟩:WD) WD.stage sD;have e2:(cZ j λx=>(upd D i ⟨s',m',dd'⟩ x).fuel) +(D i).fuel=(cZ j λx=>(D x).fuel) +m':=sumTo_upd D (⟨s',m',dd'⟩:WD) WD.fuel sD;have e3:(cZ j λx=>if upd fe i aw x=au then 1 else 0) +(if fe i=au then 1 else 0)=(cZ j λx=>if fe x=au then 1 else 0) +0:=sumTo_upd fe aw (λb=>if b=au then 1 else 0) sD;rw[TS,TS];by_cases hu:fe i=au
    .refine Prod.Lex.left _ _ ?_;rw[aX hu]at e3;omega
    .rcases hm with rfl|hm
     .rw[aU hu]at e3;rcases DC with hl|⟨hl1,hl2⟩
      .refine Prod.Lex.left _ _ ?_;omega
      .have ea:(cZ j λx=>(upd D i ⟨s',m',dd'⟩ x).stage) +(cZ j λx=>if upd fe i aw x=au then 1 else 0)=(cZ j λx=>(D x).stage) +cZ j λx=>if fe x=au then 1 else 0:=by omega
       rw[ea];refine Prod.Lex.right _ ?_;simp only[SZ];omega
     .exact aT hm hu
   exact⟨_,w',_,cJ,_,upd D i ⟨s',m',dd'⟩,upd fe i aw,q,mj (sl:=sl) hi hgo,g3,t3,hr,F.put O (oL t1) hne aJ g1 g2 cH hr (λx _ _=>cell_of_block (hA.block _ O.away) x) (λhp=>aT hp (O.pay _ F.keep)) (λ_ _=>rfl) hD' hU'
    (λs hs=>by rw[e]at hs;cases hs) (λx hx _=>by obtain rfl:=h0 x hx;exact .inr ⟨by simp[upd],by rw[gR];exact sN⟩) (λx hx hn=>aT e hn) ⟨ER,Lm,L6,BX cJ t1 t2⟩
    (F.led.beside (λx=>Knows.app _) cH (λop hop b hb=>.inr (by
     obtain⟨ev,Ma,rfl⟩:=iK hop;rcases(L9 ev Ma).1 with h1|⟨x,h1,h2,h3⟩
     .rw[h1]at hb;cases hb
     .rw[h1]at hb;obtain rfl:=bj hb;exact⟨h2,h3,λg' nA=>(O.still g' _ nA).2 h2⟩)) (λ_ h=>h.elim))
    (λxb=>ai) (λx hx=>by obtain rfl:=h0 x hx;rw[gR,Deaf_own,vt];exact hdd)
    (λop hop hm=>by obtain⟨ev,Ma,rfl⟩:=iK hop;exact(L9 ev Ma).2 (by obtain⟨loc,wr,sy⟩:=ev;cases loc<;>simp_all [fH] <;>(split at hm<;>simp_all)))
    (λx hx hs=>by
     obtain rfl:=h0 x hx;rw[gR]at hs;obtain⟨r1,r2⟩:=Av T g.frame.fn g.frame.place vt;by_cases h6:(D x).stage<=6
     .obtain⟨r,hr⟩:=F.rel x sD h6;exact⟨r,r1 r h6 hr⟩
     .refine r2 hs ?_;have:=Je hw;omega),agD,λ_ _=>rfl,λs hs=>by rw[e]at hs;cases hs⟩
  rcases F.work i g hne hi e with⟨hu,h7,tJ,hgo⟩|⟨hu,hw⟩
  .rcases lx hgo with eE|⟨k',qK,hstep⟩
   .obtain⟨_,m,hm⟩:=eE w (c.sub _ F.keep);exact wg m (by rw[h7,tJ];exact hm) (.inr hu)
   .obtain⟨g',w',es,TT,⟨rfl,hes⟩,hG'⟩:=hstep w (c.sub _ F.keep);obtain⟨cH,hr,hmk,hd⟩:=uK (i:=i+1) (fn:=g.frame.fn) (pos:=g.frame.place) hes;obtain⟨g1,g2,g3⟩:=BZ g' w' (.refl c w');obtain⟨cJ,t1,t2,t3⟩:=hH g' w' (.refl c w');refine⟨_,w',_,cJ,_,D,fe,upd q (i+1) k',mj (sl:=sl) hi TT,g3,t3,.refl c w',?_,Prod.Lex.right _ (TQ Ar _ ai),λx hx=>upd_ne q _ hx,λs' hs'=>by rw[e]at hs';cases hs'⟩;refine F.put O (oL t1) hne aJ g1 g2 cH (.refl c w') (λ_ _ _=>rfl) id (λx hx=>upd_ne q _ hx) (λ_ _=>rfl) (λ_ _=>rfl) (λs hs=>by rw[e]at hs;cases hs)
     (λx hx _=>by obtain rfl:=h0 x hx;exact .inl ⟨hu,h7,tJ,by rw[gR];exact hG'⟩) (λx hx hn=>aT e hn) (by obtain⟨st,sm,h1,h2⟩:=F.group;exact⟨st,sm,h1,h2.retag t1⟩)
     (F.led.beside (λx=>Knows.app _) cH (λop hop b hb=>.inl ⟨(hr op hop b hb).1,(hr op hop b hb).2.1,(O.still _ _ (hr op hop b hb).2.1).2,(hr op hop b hb).2.2⟩) (λ_ h=>h.elim)) (λxb=>ai) (λx hx=>by obtain rfl:=h0 x hx;rw[hd];exact F.deafW x sD)
     (λop hop=>hmk op hop _) (λx hx hs=>by obtain rfl:=h0 x hx;omega)
  .exact wg _ hw (.inl rfl)
end
end
section
open Go.Conc Go.ConcN
open Go.ConcR (KK WgAt stA smA Payload Aside2 DC0)
variable[fQ]
inductive jz(P:bh)(main:Bool)(R:aj->aj->Prop)(D:aj->aj->Array cK->Prop)(Q:aY->aj->Prop):aY->aj->Prop
 |stop {g:aY} {w:aj}:(∀w₁,R w w₁->Q g w₁)->jz P main R D Q g w
 |step {g:aY} {w:aj}:g.status=.running->(∀w₁,R w w₁->∃g' w' es,bn P main g w₁=.go g' w' es/\D w₁ w' es)->
   (∀w₁ g' w' es,R w w₁->bn P main g w₁=.go g' w' es->jz P main R D Q g' w')->jz P main R D Q g w
abbrev Walk(c:CC)(main:Bool)(D:aj->aj->Array cK->Prop)(Q:aY->aj->Prop):aY->aj->Prop:=jz c.P main (RH c) D Q
def EvH(c:CC)(e:cK):Prop:=(∀x,(fH e).touch? =ae x->(∀g,c.S g x.loc->x.write=aw)/\(ShN c.Wg x.loc->x.kind≠.plain))/\e.loc≠.mark .disable/\e.loc≠.mark .enable/\e.loc≠.mark (.release (stA c.Wg))
structure Ln(c:CC)(Inb:Nat->Option Seat)(h:Nat)(w w':aj)(es:Array cK):Prop where
 keep:c.K w->c.K w'
 chans:∀i s b,i≠h->Inb i=ae s->s.has b->w'.heap[b]? =w.heap[b]?
 wg:w'.heap[c.Wg]? =w.heap[c.Wg]?
 dum:w'.heap[c.C]? =w.heap[c.C]?
 evs:∀e∈es,EvH c e
section
variable{c:CC}{h:Nat}{tag:CTag}{D:Nat->WD}{fe:Nat->Bool}{w:aj}
omit[Payload]in
theorem A9{pos:String}{es:Array cK}(he:∀e∈es,EvH c e):
  (∀op∈eM i fn pos es,op.g=i)/\(∀op∈eM i fn pos es,∀b,op.act.touch? =ae b->(∀g,c.S g b.loc->b.write=aw)/\(ShN c.Wg b.loc->b.kind≠.plain))/\
   (∀op∈eM i fn pos es,op.act≠.mark (.release (stA c.Wg)))/\∀t:Trace,Deaf (t++eM i fn pos es) i=Deaf t i:=by
 refine⟨λop hop=>by obtain⟨e,_,rfl⟩:=iK hop;rfl,λop hop b hb=>by obtain⟨e,h,rfl⟩:=iK hop;exact(he e h).1 b hb,λop hop hm=>?_,
  λt=>by rw[Deaf_own];exact deafBehind_still (λe h=>⟨(he e h).2.1,(he e h).2.2.1⟩) _⟩
 obtain⟨ev,L9,rfl⟩:=iK hop;refine(he ev L9).2.2.2 ?_;obtain⟨loc,wr,sy⟩:=ev;cases loc<;>simp_all [fH] <;>(split at hm<;>simp_all)
theorem CF.aes(F:CF c h j d0 Inb tag D fe q T gs w){pos:String}{es:Array cK}(hd:Ln c Inb h w w' es)(hsz:gs'.size=gs.size)(ml:∀x y,x≠h->gs'[x]? =ae y->gs[x]? =ae y):
  CF c h j d0 Inb tag D fe q (T++eM h fn pos es) gs' w':=by
 obtain⟨cH,hs,hno,tJ⟩:=A9 (c:=c) (i:=h) (fn:=fn) (pos:=pos) hd.evs;have hK':=hd.keep F.keep;have hch:∀i s b,i≠h->Inb i=ae s->s.has b->∃k,w'.heap[b]? =ae (.chan 0 #[] aw k k aw):=λi s b h1 h2 h3=>by obtain⟨⟨k,hk⟩,_⟩:=F.chans i s b h1 h2 h3;exact⟨k,by rw[hd.chans i s b h1 h2 h3];exact hk⟩
 obtain⟨st,sm,hw,hm⟩:=F.group;have hw':WgAt c.ty c.Wg w' st sm:=hd.wg.trans hw;refine⟨hsz.trans F.size,by rw[hsz];exact F.hlt,λi g s h1 h2 h3=>F.seat i g s h1 (ml i g h1 h2) h3,F.main,λi g h1 h2 h3=>?_,F.full,λi s h1=>by rw[hsz];exact F.inR i s h1,F.wf,λi s b h1 h2 h3=>⟨hch i s b h1 h2 h3,(F.chans i s b h1 h2 h3).2⟩,F.inj,hK',⟨st,sm,hw',hm⟩,F.pend,
  F.led.own cH hs (λ_ h=>h.elim),?_,λi hi=>?_,λi hi=>?_,λop hop=>?_,λi hi hst=>?_,λop hop=>by rw[hsz];exact(ib.1 hop).elim (F.who op) (λh=>by rw[cH op h];exact F.hlt)⟩
 .have BF:=ml (i+1) g h1 h2;refine(F.work i g h1 BF h3).imp (λ⟨a,b,d,f⟩=>⟨a,b,d,kX (λ_ _ _ _ y=>y) f (c.sub _ hK')⟩) (λ⟨a,b⟩=>⟨a,b.rely ?_⟩);exact⟨λb hb=>aT hb (fR b),λ_=>⟨st,sm,hw'⟩,λ⟨cs,h1,h2⟩=>⟨cs,hd.dum.trans h1,h2⟩,cell_of_block hd.dum _⟩
 .by_cases e:h=0
  .subst e;rw[tJ T];exact F.deaf0
  .rw[ig T e _ cH];exact F.deaf0
 .by_cases e:i+1=h
  .rw[←F.deafW i hi,e];exact tJ T
  .rw[ig T (λz=>e z.symm) _ cH];exact F.deafW i hi
 .rw[hsz]at hi;have:=F.hlt;rw[ig T (g':=h) ai _ cH];exact F.above i hi
 .rcases ib.1 hop with h1|h1
  .exact F.norel op h1
  .exact hno op h1
 .by_cases e:i+1=h
  .have:=(F.full i hi (.inr e)).1;omega
  .obtain⟨r,hr⟩:=F.rel i hi hst;exact⟨r,hr.appOther cH (λz=>e z.symm)⟩
theorem CF.own(F:CF c h j d0 Inb tag D fe q T gs w){a a':aY}{es:Array cK}(hd:Ln c Inb h w w' es):
  CF c h j d0 Inb tag D fe q (T++eM h a.frame.fn a.frame.place es) ((gs.map (woken c.P a a' w')).setIfInBounds h a') w'/\((gs.map (woken c.P a a' w')).setIfInBounds h a')[h]? =ae a':=by
 refine⟨F.aes hd aJ λx y hx hy=>?_,iw (by simpa using F.hlt)⟩;rw[gG (λe=>hx e.symm),oH]at hy;obtain⟨agE,Jf,rfl⟩:=mb.1 hy;rw[Jf,mi (F.fixed hx Jf (hd.keep F.keep) λs b h1 h2=>?_)];obtain⟨⟨k,hk⟩,_⟩:=F.chans x s b hx h1 h2;exact⟨k,by rw[hd.chans x s b hx h1 h2];exact hk⟩
def Held(c:CC)(h j d0:Nat)(Inb:Nat->Option Seat)(tag:CTag)(Stop:aY->aj->Prop)(m:Machine)(t:Trace):Prop:=∃gs w sl a D fe q,m=bS gs w sl/\gs[h]? =ae a/\(∀w₁,RH c w w₁->Stop a w₁)/\CF c h j d0 Inb tag D fe q t gs w
omit[Payload]in
theorem Gb:WellFounded Lt2:=(Prod.lex Nat.lt_wfRel Nat.lt_wfRel).wf
theorem hold(O:c.Ok)(rh:tag≠.blk){Stop:aY->aj->Prop}(hD:∀w w' es,B7 w w' es->Ln c Inb h w w' es){a:aY}(hW:Walk c (h==0) B7 Stop a w)
   (ha:gs[h]? =ae a) (F:CF c h j d0 Inb tag D fe q T gs w):∃N m' T',runNT c.P N (bS gs w sl) T=(.next m',T')/\Held c h j d0 Inb tag Stop m' T':=by
 suffices H:∀a w₀,Walk c (h==0) B7 Stop a w₀->∀gs w D fe q T sl,RH c w₀ w->gs[h]? =ae a->CF c h j d0 Inb tag D fe q T gs w->∃N m' T',runNT c.P N (bS gs w sl) T=(.next m',T')/\Held c h j d0 Inb tag Stop m' T' from
  H a w hW gs w D fe q T sl (.refl c w) ha F
 clear hW ha F;intro a w₀ hW;induction hW with
 |stop hQ=>exact λgs w D fe q T sl hr ha F=>⟨0,_,T,rfl,gs,w,sl,_,D,fe,q,rfl,ha,λw₁ h₁=>hQ w₁ (hr.trans h₁),F⟩
 | @step a w₀ hrun hstep hnext ih=>
  intro gs w D fe q T sl;generalize hμ:(YK j D fe,SZ j D q)=μ;induction μ using Gb.induction generalizing gs w D fe q T sl with
  |_ μ Mb=>
   intro hr ha F;obtain⟨i,g,d,sl',hi,hg,hst⟩:=crowd_pick (P:=c.P) (w:=w) (sl:=sl) (F.awake ha (.inl hrun)) ⟨h,a,ha,hrun⟩;have Fd:=F.at O d;have hrd:RH c w₀ (w.at d):=hr.trans (.at c w d);by_cases e:i=h
   .subst e;obtain rfl:g=a:=(by rw[ha]at hi;exact(bj hi).symm);obtain⟨g',w',es,hgo,hd⟩:=hstep _ hrd;obtain⟨F',ha'⟩:=Fd.own (a:=g) (a':=g') (hD _ _ _ hd);obtain⟨N,m',T',hN,hH⟩:=ih _ g' w' es hrd hgo _ w' D fe q _ sl' (.refl c w') ha' F';exact⟨N+1,m',T',by rw[pB (hst.trans (mj (sl:=sl') hi hgo))];exact hN,hH⟩
   .obtain⟨gs',w',ops,cJ,a',D',mQ,q',hrt,ha',⟨rfl,rfl⟩,Qi,F',hlt,_,_⟩:=Fd.by_step O (Hs:=λtg x _=>tg=tag/\x=a) (sl:=sl') hi e hg ha ⟨rfl,rfl⟩
     (λg' w' _=>⟨tag,.inl rfl,λ_ _=>rh,rfl,mi (nB _ (.inl hrun))⟩) (λ_ _ _ _ b _=>tH (by rw[hrun];simp) _ _)
    obtain⟨N,m',T',hN,hH⟩:=Mb _ (hμ▸hlt) gs' w' D' mQ q' (T++ops) sl' rfl (hrd.trans Qi) ha' F';exact⟨N+1,m',T',by rw[pB (hst.trans hrt)];exact hN,hH⟩
def Jg(c:CC)(e:cK):Prop:=(∀x,(fH e).touch? =ae x->(∀g,c.S g x.loc->x.write=aw)/\(ShN c.Wg x.loc->x.kind≠.plain))/\e.loc≠.mark (.release (stA c.Wg))
theorem CF.Gc(F:CF c 0 j d0 Inb tag D fe q T gs w){pos:String}{es:Array cK}(hK:c.K w->c.K w')(hch:∀i s b,i≠0->Inb i=ae s->s.has b->w'.heap[b]? =w.heap[b]?)
  (hdum:w'.heap[c.C]? =w.heap[c.C]?)(hgroup:∃st sm,WgAt c.ty c.Wg w' st sm/\ConcN.Mode j D cJ st sm)(hpend:j+ConcN.pend cJ<2147483648)(hes:∀e∈es,Jg c e)(hsz:gs'.size=gs.size)(ml:∀x y,x≠0->gs'[x]? =ae y->gs[x]? =ae y):
  CF c 0 j (deafBehind d0 es) Inb cJ D fe q (T++eM 0 fn pos es) gs' w':=by
 have cH:∀op∈eM 0 fn pos es,op.g=0:=λop hop=>by obtain⟨e,_,rfl⟩:=iK hop;rfl
 have hs:∀op∈eM 0 fn pos es,∀b,op.act.touch? =ae b->(∀g,c.S g b.loc->b.write=aw)/\(ShN c.Wg b.loc->b.kind≠.plain):=λop hop b hb=>by obtain⟨e,h,rfl⟩:=iK hop;exact(hes e h).1 b hb
 have hno:∀op∈eM 0 fn pos es,op.act≠.mark (.release (stA c.Wg)):=λop hop hm=>by obtain⟨ev,L9,rfl⟩:=iK hop;refine(hes ev L9).2 ?_;obtain⟨loc,wr,sy⟩:=ev;cases loc<;>simp_all [fH] <;>(split at hm<;>simp_all)
 have hK':=hK F.keep;obtain⟨st,sm,hw',hm⟩:=hgroup;refine⟨hsz.trans F.size,by rw[hsz];exact F.hlt,λi g s h1 h2 h3=>F.seat i g s h1 (ml i g h1 h2) h3,F.main,λi g h1 h2 h3=>?_,F.full,λi s h1=>by rw[hsz];exact F.inR i s h1,F.wf,λi s b h1 h2 h3=>?_,F.inj,hK',⟨st,sm,hw',hm⟩,hpend,
  F.led.own cH hs (λ_ h=>h.elim),by rw[Deaf_own,F.deaf0],λi hi=>?_,λi hi=>?_,λop hop=>?_,λi hi hst=>?_,λop hop=>by rw[hsz];exact(ib.1 hop).elim (F.who op) (λh=>by rw[cH op h];exact F.hlt)⟩
 .refine(F.work i g h1 (ml (i+1) g h1 h2) h3).imp (λ⟨a,b,d,f⟩=>⟨a,b,d,kX (λ_ _ _ _ y=>y) f (c.sub _ hK')⟩) (λ⟨a,b⟩=>⟨a,b.rely ?_⟩);exact⟨λb hb=>aT hb (fR b),λ_=>⟨st,sm,hw'⟩,λ⟨cs,h1,h2⟩=>⟨cs,hdum.trans h1,h2⟩,cell_of_block hdum _⟩
 .obtain⟨⟨k,hk⟩,h4⟩:=F.chans i s b h1 h2 h3;exact⟨⟨k,by rw[hch i s b h1 h2 h3];exact hk⟩,h4⟩
 .rw[ig T (by omega:0≠i+1) _ cH];exact F.deafW i hi
 .rw[hsz]at hi;have:=F.hlt;rw[ig T (by omega:0≠i) _ cH];exact F.above i hi
 .rcases ib.1 hop with h1|h1
  .exact F.norel op h1
  .exact hno op h1
 .obtain⟨r,hr⟩:=F.rel i hi hst;exact⟨r,hr.appOther cH ai⟩
omit[Payload]in
theorem kY{main:Bool}{D:aj->aj->Array cK->Prop}{Stop:aY->aj->Prop}(hR:∀w w₁,RH c w w₁->R w w₁):∀{n:Nat} {g:aY} {w:aj},Goes c.P main R D Stop n g w->Walk c main D Stop g w:=by
 intro n;induction n with
 |zero=>exact λh=>.stop λw₁ h₁=>h w₁ (hR _ _ h₁)
 |succ n ih=>
  intro g w h;rcases h with h|⟨hs,h⟩
  .exact .stop λw₁ h₁=>h w₁ (hR _ _ h₁)
  .refine .step hs (λw₁ h₁=>?_) (λw₁ g' w' es h₁ hgo=>?_)
   .obtain⟨g',w',es,hgo,hd,_⟩:=goes_elim (h w₁ (hR _ _ h₁));exact⟨g',w',es,hgo,hd⟩
   .have:=h w₁ (hR _ _ h₁);rw[hgo,cG]at this;exact ih this.2
end
end
section
open Go
section
variable{P:bh}{S:bN}{Stop:aB->List aB->aj->Prop}{J:aj->aj->Prop}{main:Bool}
structure Alike(a a':aj):Prop where
 heap:a'.heap=a.heap
 os:a'.os=a.os
 output:a'.output=a.output
theorem Alike.refl(a:aj):Alike a a:=⟨rfl,rfl,rfl⟩
theorem Alike.trans{b c:aj}(h:Alike a b)(k:Alike b c):Alike a c:=⟨k.heap.trans h.heap,k.os.trans h.os,k.output.trans h.output⟩
theorem Alike.symm{b:aj}(h:Alike a b):Alike b a:=⟨h.heap.symm,h.os.symm,h.output.symm⟩
theorem Alike.rel{r:aj}(h:Alike a a')(hr:Rel H a r):Rel H a' r:=⟨by rw[h.heap];exact hr.size,λb hb=>by rw[h.heap];exact hr.same b hb,λb hb=>by rw[h.heap];exact hr.hid b hb,λb hb o ho=>by rw[h.heap]at ho;exact hr.objs b hb o ho,by rw[h.os];exact hr.os,by rw[h.output];exact hr.output⟩
structure Beside(H:Nat->Prop)(R:aj->aj->Prop)(D:aj->aj->Array cK->Prop)(J:aj->aj->Prop):Prop where
 others:∀a w w₁,R w w₁->Rel H a w->J a w->Rel H a w₁/\J a w₁
 own:∀a a' r r' er,Rel H a r->J a r->Went H #[] a a' r r' er->J a' r'
 alike:∀a a' r,Alike a a'->J a r->J a' r
 does:∀a a' r r' er,Rel H a r->J a r->Went H #[] a a' r r' er->D r r' er
theorem walk_of_bar_sw(hR:S.Rows H P)(hB:S.kS P)(hL:S.rN)(hP:S.Plain P)(B:Beside H R D J)
  (hQ:∀fr fs a r cz dC,Stop fr fs a->dP P S fr fs->qZ κ fr fs cz dC->Rel H a r->J a r->jz P main R D Q (cy cz (dC++cs)) r)
    (h:YH P Stop fr fs a):∀{r:aj} {cz:aB} {dC:List aB},dP P S fr fs->qZ κ fr fs cz dC->Rel H a r->J a r->jz P main R D Q (cy cz (dC++cs)) r:=by
 induction h with
 |stop hs=>exact λhS hsw hrel hj=>hQ _ _ _ _ _ _ hs hS hsw hrel hj
 | @step fr fs a hgo hnext ih=>
  intro r cz dC hS hsw hrel hj;have one:∀w₁,R r w₁->∃τ cB dg a' es r' er th uT,bn P au (cy fr (fs++[base P])) (bM a τ)=.go (cy cB (dg++[base P])) a' es/\dP P S cB dg/\J a w₁/\Rel H a w₁/\Went H #[] a a' w₁ r' er/\qZ κ cB dg th uT/\bn P main (cy cz (dC++cs)) w₁=.go (cy th (uT++cs)) r' er:=λw₁ hr=>by
   obtain⟨jO,hj'⟩:=B.others a r w₁ hr hrel hj;have bY:Rel H a a:=⟨rfl,λ_ _=>.inl rfl,λb hb=>⟨(jO.hid b hb).1,_,(jO.hid b hb).1,rfl⟩,jO.objs,rfl,rfl⟩;let τ:Nat->iz->Nat:=λi q=>w₁.tape (w₁.drawn+(i-a.drawn)) q;obtain⟨cB,dg,a',es,e⟩:=hgo τ;rcases Ja hR hB hL hP hS (oJ bY τ τ)with⟨jg,ny,a1,h1,h3,h4,h5⟩|⟨rfl,h1⟩|h1|h1
   .obtain⟨r0,er0,hw0,hs0⟩:=h5 (bM a τ) (oJ bY τ τ) (λ_ _ _=>rfl);have vY:r0=a1:=(by rw[yG (a:=a) (qc:=τ) bY h4 (qd hw0:Went H #[] a a1 (bM a τ) r0 er0)];rw[←(show a1.tape=τ from h3)]);subst vY;obtain⟨fx,sx,hx,hs9⟩:=hs0 ah fr fs (p9 _ _);obtain⟨rfl,rfl⟩:=BQ hx;have e1:=hs9 au [base P];rw[e]at e1;injection e1 with eg ea ee
    injection eg with ef ec
    subst ef ea;obtain rfl:=oK ec;obtain⟨r1,TE,iA,hs1⟩:=h5 w₁ ⟨jO.size,jO.same,jO.hid,jO.objs,jO.os,jO.output⟩ (λi q _=>by show w₁.tape (w₁.drawn+(a.drawn+i-a.drawn)) q=w₁.tape (w₁.drawn+i) q;rw[Nat.add_sub_cancel_left]);obtain⟨th,uT,ab1,hs1⟩:=hs1 κ cz dC hsw;exact⟨τ,_,_,_,es,r1,TE,th,uT,e,h1,hj',jO,qd iA,ab1,hs1 main cs⟩
   .obtain⟨c',a1,es1,e1,_⟩:=h1 au (base P) [];rw[show([]:List aB) ++[base P]=[base P]from rfl]at e;rw[e]at e1;injection e1 with eg _ _
    injection eg with _ ec
    cases dg<;>cases ec
   .obtain⟨o,w,es1,e1⟩:=h1 au [base P];rw[e]at e1;cases e1
   .obtain⟨cases,shape,a1,es1,e1,_⟩:=h1 au [base P];rw[e]at e1;cases e1
  refine .step rfl (λw₁ hr=>?_) λw₁ g' w' es hr hst=>?_
  .obtain⟨τ,cB,dg,a',es,r',er,th,uT,_,_,hj',hrel',hw,_,hst⟩:=one w₁ hr;exact⟨_,r',er,hst,B.does a a' w₁ r' er hrel' hj' hw⟩
  .obtain⟨τ,cB,dg,a',es,r',er,th,uT,e,LX,hj',hrel',hw,ab1,aet⟩:=one w₁ hr;rw[hst]at aet;injection aet with e1 e2 e3
   subst e1 e2;exact ih τ cB dg a' es e LX ab1 hw.rel (B.own _ _ _ _ _ hrel' hj' hw)
theorem Jh(hR:S.Rows H P)(hB:S.kS P)(hL:S.rN)(hP:S.Plain P)(B:Beside H R D J)
  (hQ:∀fr fs a r,Stop fr fs a->dP P S fr fs->Rel H a r->J a r->jz P main R D Q (cy fr (fs++cs)) r)
    (h:YH P Stop fr fs a) {r:aj} (hS:dP P S fr fs) (hrel:Rel H a r) (hj:J a r):jz P main R D Q (cy fr (fs++cs)) r:=
 walk_of_bar_sw (κ:=ah) hR hB hL hP B (λfr fs a r cz dC h1 h2 h3 h4 h5=>by obtain⟨rfl,rfl⟩:=BQ h3;exact hQ _ _ _ _ h1 h2 h4 h5) h hS (p9 _ _) hrel hj
end
def Hid(N:Nat->Prop)(r:aj)(b:Nat):Prop:=∃o,r.heap[b]? =ae o/\di o=au/\¬N b
def fV(f:Option (Nat×Nat))(o:Obj):Obj:=match f,o with
 |some f,aK c e (0,0)=>aK c e f
 |_,o=>o
theorem qg{f:Option (Nat×Nat)}{o:Obj}:gI (fV f o)=gI o:=by unfold fV;split<;>rfl
theorem qh{f:Option (Nat×Nat)}{o:Obj}:di (fV f o)=di o:=by unfold fV;split<;>rfl
theorem Mc(f:Option (Nat×Nat))(o:Obj):BD (ae (fV f o)) (ae o):=by
 unfold fV;split
 .exact .inr ⟨_,_,_,rfl,rfl⟩
 .exact .inl rfl
noncomputable def iH(N:Nat->Prop)(F:Nat->Option (Nat×Nat))(r:aj):aj:={r with heap:=r.heap.mapIdx λb o=> @ite _ (N b\/di o=aw) (Classical.propDecidable _) (fV (F b) o) eh}
theorem fp(N:Nat->Prop)(F:Nat->Option (Nat×Nat))(r:aj)(b:Nat):(iH N F r).heap[b]? =(r.heap[b]?).map λo=> @ite _ (N b\/di o=aw) (Classical.propDecidable _) (fV (F b) o) eh:=by simp only[iH,Array.getElem?_mapIdx]
theorem hide_need{r:aj}(h:N b):(iH N F r).heap[b]? =(r.heap[b]?).map (fV (F b)):=by
 rw[fp];cases r.heap[b]? with
 |none=>rfl
 |some o=>simp[h]
theorem B8{r:aj}(hok:∀b o,N b->r.heap[b]? =ae o->gI o=au):Rel (Hid N r) (iH N F r) r:=by
 refine⟨by simp[iH],λb hb=>?_,λb hb=>?_,λb hb o ho=>?_,rfl,rfl⟩
 .rw[fp];cases e:r.heap[b]? with
  |none=>exact .inl rfl
  |some o=>have:N b\/di o=aw:=(by apply eV;intro hc;simp only[not_or,Bool.not_eq_false]at hc;exact hb ⟨o,e,hc.2,hc.1⟩);simp only[nC,this,if_true];exact Mc _ _
 .obtain⟨o,e,h1,h2⟩:=hb;refine⟨?_,o,e,h1⟩;rw[fp,e];simp[h1,h2]
 .rw[fp]at ho;cases e:r.heap[b]? with
  |none=>rw[e]at ho;cases ho
  |some o'=>
   have:N b\/di o'=aw:=(by apply eV;intro hc;simp only[not_or,Bool.not_eq_false]at hc;exact hb ⟨o',e,hc.2,hc.1⟩);rw[e]at ho;simp only[nC,this,if_true,dD]at ho;subst ho;rw[qg];rcases this with h|h
   .exact hok b o' h e
   .cases o'<;>first|rfl|cases h
def ab2(H:Nat->Prop)(P:bh)(Post:ay->aj->Prop)(fr:aB)(fs:List aB)(a:aj):Prop:=fs=[]/\∃v,fr.leaving P a (.returned v)/\Post v a
section
variable{P:bh}{S:bN}{J:aj->aj->Prop}{main:Bool}
theorem tK{fn:Func}{tmps:Array ay}{r:aj}(hrel:Rel H a r)(bY:Rel H a a)(h:(eL fn tmps).run P a=.ok v a):∃r' er,(eL fn tmps).runT P r #[]=(.ok v r',er)/\Went H #[] a a r r' er:=by
 have hs:=vT (H:=H) (P:=P) fn tmps a r #[] #[] hrel;have e:((eL fn tmps).runT P a #[]).1=.ok v a:=by simpa using h
 generalize (eL fn tmps).runT P a #[]=X at hs e;obtain⟨x,y⟩:=X;simp only at e;subst e;obtain⟨_,_,_,h4⟩:=hs;obtain⟨r',er,e1,e2⟩:=h4 (λi q hi=>ai);exact⟨r',er,e1,e2⟩
theorem Qj(hPost:∀v a τ,Post v a->Post v (bM a τ)):∀fr fs a τ,Rel H a a->ab2 H P Post fr fs a->ab2 H P Post fr fs (bM a τ):=λfr fs a τ bY ⟨h1,v,⟨h2,h3,h4,fn,h5,h6⟩,hp⟩=>by
 refine⟨h1,v,⟨h2,h3,h4,fn,h5,?_⟩,hPost v a τ hp⟩;obtain⟨r',er,e1,e2⟩:=tK (oJ bY a.tape τ:Rel H (bM a a.tape) (bM a τ)) bY h6;have e3:=yG bY (bJ _) e2;have:((eL fn fr.tmps).runT P (bM a τ) #[]).1=.ok v (bM a τ):=by rw[e1,e3]
 simpa using this
theorem Zr(hR:S.Rows H P)(hB:S.kS P)(hL:S.rN)(hP:S.Plain P)(B:Beside H R D J)(hPost:∀v a τ,Post v a->Post v (bM a τ))
   {args:Array ay} {r:aj} (hrel:Rel H a r) (hj:J a r) (j4:yB P S f args)
  (hcall:∀τ,b9 P f args (bM a τ) λe w'=>∃v,e=.returned v/\Post v w')
  (hnext:∀v a' w',Post v a'->Rel H a' w'->J a' w'->jz P main R D Q (cy (c.finish v) cs) w'):jz P main R D Q (cy (gL P f args .normal) (c::cs)) r:=by
 have bY:Rel H a a:=⟨rfl,λ_ _=>.inl rfl,λb hb=>⟨(hrel.hid b hb).1,_,(hrel.hid b hb).1,rfl⟩,hrel.objs,rfl,rfl⟩;have hall:xx P (ab2 H P Post) (gL P f args .normal) [] a:=λτ=>by obtain⟨e,w',fr,⟨v,rfl,hp⟩,hc,hfn,hl⟩:=hcall τ [base P];obtain⟨n,hn⟩:=(hc:Steps P _ _);exact⟨n,fr,[],w',hn,rfl,v,hl,hp⟩
 have hS:dP P S (gL P f args .normal) []:=⟨FI.enter hP j4 (.inl rfl),rfl⟩;have TU:=tF hR hB hL hP (Qj hPost) hS bY hall;refine Jh (cs:=c::cs) hR hB hL hP B (λfr fs a r hst hS hrel hj=>?_) TU hS hrel hj;obtain⟨rfl,v,⟨h2,h3,h4,fn,h5,h6⟩,hp⟩:=hst;have one:∀w₁,R r w₁->∃r' er,bn P main (cy fr ([] ++c::cs)) w₁=.go (cy (c.finish v) cs) r' er/\Rel H a w₁/\J a w₁/\Went H #[] a a w₁ r' er:=λw₁ hr=>by obtain⟨jO,hj'⟩:=B.others a r w₁ hr hrel hj;have bY:Rel H a a:=⟨rfl,λ_ _=>.inl rfl,λb hb=>⟨(hrel.hid b hb).1,_,(hrel.hid b hb).1,rfl⟩,hrel.objs,rfl,rfl⟩;obtain⟨r',er,e1,e2⟩:=tK jO bY h6;refine⟨r',seen P fr.fn er++ #[],?_,jO,hj',dw e2⟩;simp only[bn,h2,unwind,h3,h5,e1,doReturn,h4,kU];rfl
 refine .step rfl (λw₁ hr=>?_) λw₁ g' w' es hr hst=>?_
 .obtain⟨r',er,e,h7,h8,hw⟩:=one w₁ hr;exact⟨_,r',_,e,B.does a a w₁ r' _ h7 h8 hw⟩
 .obtain⟨r',er,e,h7,h8,hw⟩:=one w₁ hr;rw[hst]at e;injection e with e1 e2 e3
  subst e1 e2;exact hnext v a _ hp hw.rel (B.own _ _ _ _ _ h7 h8 hw)
end
abbrev fM(ι:Type):=ι->aB->List aB->aj->(ι->aB->List aB->aj->Prop)->Prop
section
variable{P:bh}{J:fM ι}{Stop:ι->aB->List aB->aj->Prop}
end
section
variable(P:bh)(J:fM ι)(Stop:ι->aB->List aB->aj->Prop)(U:List aB->Prop)
end
section rules
variable{P:bh}{J:fM ι}{Stop:ι->aB->List aB->aj->Prop}{U:List aB->Prop}{Q:ι->Exit->Act->aj->Prop}{i:ι}{a:Act}{w:aj}
end rules
section
variable{P:bh}{J:fM ι}{Stop:ι->aB->List aB->aj->Prop}
end
end
section
open Go Go.Conc Go.ConcN
def vu(P:bh)(main:Bool)(cs:List aB)(At:aB->List aB->aj->Prop)(fr:aB)(fs:List aB)(a:aj):Prop:=
 ∀(H:Nat->Prop) (R:aj->aj->Prop) (D:aj->aj->Array cK->Prop) (Q:aY->aj->Prop) (Jw:aj->aj->Prop),Beside H R D Jw->
  (∀cB dg a' r',At cB dg a'->Rel H a' r'->Jw a' r'->jz P main R D Q (cy cB (dg++cs)) r')->∀r,Rel H a r->Jw a r->jz P main R D Q (cy fr (fs++cs)) r
section
variable{P:bh}{main:Bool}
theorem vu.stop(h:At fr fs a):vu P main cs At fr fs a:=λ_ _ _ _ _ _ hQ r hr hj=>hQ _ _ _ _ h hr hj
theorem vu.bind(h:vu P main cs At fr fs a)(hn:∀cB dg a',At cB dg a'->vu P main cs At' cB dg a'):vu P main cs At' fr fs a:=λH R D Q Jw B hQ r hr hj=>h H R D Q Jw B (λcB dg a' r' h1 h2 h3=>hn cB dg a' h1 H R D Q Jw B hQ r' h2 h3) r hr hj
theorem vu.alike(e:Alike a a')(h:vu P main cs At fr fs a):vu P main cs At fr fs a':=λH R D Q Jw B hQ r hr hj=>h H R D Q Jw B hQ r (e.symm.rel hr) (B.alike _ _ _ e.symm hj)
theorem xA{r:aj}(h:Rel H a r):Rel H a a:=⟨rfl,λ_ _=>.inl rfl,λb hb=>⟨(h.hid b hb).1,_,(h.hid b hb).1,rfl⟩,h.objs,rfl,rfl⟩
theorem vu.pure(hs:∀w,bn P main (cy fr (fs++cs)) w=.go (cy cB (dg++cs)) w #[])(h:vu P main cs At cB dg a):vu P main cs At fr fs a:=λH R D Q Jw B hQ r hr hj=>by
 refine .step rfl (λw₁ h₁=>?_) λw₁ g' w' es h₁ e=>?_
 .obtain⟨h2,h3⟩:=B.others a r w₁ h₁ hr hj;exact⟨_,_,_,hs w₁,B.does a a w₁ w₁ #[] h2 h3 (kF h2 #[])⟩
 .rw[hs w₁]at e;injection e with e1 e2 e3
  subst e1 e2 e3;obtain⟨h2,h3⟩:=B.others a r w₁ h₁ hr hj;exact h H R D Q Jw B hQ w₁ h2 h3
theorem Zs{S:bN}(hR:∀H,S.Rows H P)(hB:S.kS P)(hL:S.rN)(hP:S.Plain P){b:aB}{c:Code}{act:Act}{Post:Act->aj->Prop}(hk:b.kind=.normal)(hok:dZ P S b.fn c=au)(hd:∀d∈act.defers,nv P S d)(xt:p8 S b.fn act.tmps)
  (h:∀τ,c.wp P (λe a' w'=>e=.normal/\Post a' w') act (bM a τ))(hPost:∀a' w' τ,Post a' w'->Post a' (bM w' τ))(hnext:∀a' w',Post a' w'->vu P main cs At (b.at a' k) fs w'):vu P main cs At (b.at act (.code c::k)) fs a:=by
 intro H R D Q Jw B hQ r hr hj;let Ji:aB->List aB->aj->Prop:=λfr fs w=>∃a',fr=b.at a' K0/\fs=[]/\Post a' w;have hS:dP P S (b.at act (.code c::K0)) []:=⟨⟨λit hit=>by
  rcases fU.1 hit with rfl|hit
  .show Du P S b.fn aw c=au;unfold Du;rw[hok];rfl
  .simp only[K0,List.mem_singleton]at hit;subst hit;rfl,hd,.inl hk,.inl rfl,xt⟩,hk⟩
 have hall:xx P Ji (b.at act (.code c::K0)) [] a:=λτ=>by obtain⟨e,a',w',⟨rfl,hp⟩,har⟩:=h τ b K0 [base P];obtain⟨n,hn⟩:=(har:Steps P _ _);exact⟨n,b.at a' K0,[],w',hn,a',rfl,rfl,hp⟩
 have TU:YH P Ji (b.at act (.code c::K0)) [] a:=tF (hR H) hB hL hP (λfr fs a τ _ ⟨a',h1,h2,h3⟩=>⟨a',h1,h2,hPost _ _ τ h3⟩) hS (xA hr) hall;have:=walk_of_bar_sw (κ:=ae k) (cs:=fs++cs) (R:=R) (D:=D) (Q:=Q) (main:=main) (hR H) hB hL hP B (λjg ny a1 r1 cz dC hst _ hsw hrel hj1=>by
  obtain⟨a',rfl,rfl,hp⟩:=hst;obtain⟨⟨A,h1,rfl⟩,rfl⟩:=hsw;have hA:A=[]:=by have h1:K0=A++K0:=h1;have:=congrArg List.length h1;simp only[mo]at this;exact yH.1 ai
  subst hA;exact hnext a' a1 hp H R D Q Jw B hQ r1 hrel hj1) TU (r:=r) (cz:=b.at act (.code c::k)) (dC:=[]) hS ⟨⟨[.code c],rfl,rfl⟩,rfl⟩ hr hj
 simpa using this
theorem co_op{S:bN}(hR:∀H,S.Rows H P)(hB:S.kS P)(hL:S.rN){b:aB}{act:Act}{ops:Array aZ}{rest:List Nat}{o:aZ}(hk:b.kind=.normal\/b.kind=.deferred)(ho:ops[j]? =ae o)(hw:dF o (dW ops act.tmps)=au)(hok:iu P S b.fn o=au)(xt:p8 S b.fn act.tmps)
  (h:∀τ,∃v w',((bT act.eval o).run P (bM a τ)=.ok (.value v) w'\/(bT act.eval o).run P (bM a τ)=.ok .skip w'/\v=aO)/\vu P main cs At (b.at (act.put o.dst v) (bI ops rest::k)) fs w'):vu P main cs At (b.at act (bI ops (j::rest)::k)) fs a:=by
 intro H R D Q Jw B hQ r hr hj;have one:∀w₁,R r w₁->∃v a' r' er,bn P main (cy (b.at act (bI ops (j::rest)::k)) (fs++cs)) w₁=.go (cy (b.at (act.put o.dst v) (bI ops rest::k)) (fs++cs)) r' er/\Rel H a w₁/\Jw a w₁/\Went H #[] a a' w₁ r' er/\vu P main cs At (b.at (act.put o.dst v) (bI ops rest::k)) fs a':=λw₁ h₁=>by
  obtain⟨h2,h3⟩:=B.others a r w₁ h₁ hr hj;let τ:Nat->iz->Nat:=λi q=>w₁.tape (w₁.drawn+(i-a.drawn)) q;obtain⟨v,w',hrun,hc⟩:=h τ;have bY:=xA h2;have kV:Simu H P (oG P S b.fn o) (bT act.eval o):=Tz (hR H) hB hL (ρ:=act.eval) (tmps:=act.tmps) (λ_=>rfl) (λ_=>rfl) (λ_=>rfl) xt hok;have hm:=kV (bM a τ) w₁ #[] #[] ⟨h2.size,h2.same,h2.hid,h2.objs,h2.os,h2.output⟩;generalize hX:(bT act.eval o).runT P (bM a τ) #[]=X at hm;have hX1:X.1=(bT act.eval o).run P (bM a τ):=by rw[←hX];simp
  obtain⟨rx,ex⟩:=X;simp only at hX1;have hg:=stepG_oper (P:=P) (main:=main) (b:=b) (a:=act) (k:=k) (cs:=fs++cs) (w:=w₁) (rest:=rest) ho hw;have qI:((b.at act (bI ops (j::rest)::k)).kind==gA)=aw:=by rw[show(b.at act (bI ops (j::rest)::k)).kind=b.kind from rfl];rcases hk with hk|hk<;>rw[hk] <;>rfl
  have mh:∀v,(b.at act (bI ops (j::rest)::k)).finish v=b.at (act.put o.dst v) (bI ops rest::k):=by intro v;rw[iB,ho];rfl
  have im:rL (bM a τ) w' w₁:=λi q _=>by show w₁.tape (w₁.drawn+(a.drawn+i-a.drawn)) q=w₁.tape (w₁.drawn+i) q;rw[Nat.add_sub_cancel_left]
  rcases hrun with hrun|⟨hrun,rfl⟩
  .rw[hrun]at hX1;subst hX1;obtain⟨_,_,_,h4⟩:=hm;obtain⟨r',er,e,hwn⟩:=h4 im;refine⟨v,w',r',seen P b.fn er++ #[],?_,h2,h3,dw (qd hwn),hc⟩;rw[←mh];exact hg.trans (jy qI e)
  .rw[hrun]at hX1;subst hX1;obtain⟨_,_,_,h4⟩:=hm;obtain⟨r',er,e,hwn⟩:=h4 im;refine⟨aO,w',r',seen P b.fn er++ #[],?_,h2,h3,dw (qd hwn),hc⟩;rw[←mh];exact hg.trans (vU qI e)
 refine .step rfl (λw₁ h₁=>?_) λw₁ g' w' es h₁ e=>?_
 .obtain⟨v,a',r',er,e,h2,h3,h4,_⟩:=one w₁ h₁;exact⟨_,_,_,e,B.does a a' w₁ r' er h2 h3 h4⟩
 .obtain⟨v,a',r',er,e',h2,h3,h4,hc⟩:=one w₁ h₁;rw[e]at e';injection e' with e1 e2 e3
  subst e1 e2 e3;exact hc H R D Q Jw B hQ _ h4.rel (B.own _ _ _ _ _ h2 h3 h4)
theorem OE{S:bN}(hR:∀H,S.Rows H P)(hB:S.kS P)(hL:S.rN)(hP:S.Plain P){f:FuncId}{args:Array ay}(j4:yB P S f args)(hPost:∀v w τ,Post v w->Post v (bM w τ))(h:∀τ,b9 P f args (bM a τ) λe w'=>∃v,e=.returned v/\Post v w')
  (hnext:∀v w',Post v w'->vu P main cs At (c.finish v) fs w'):vu P main cs At (gL P f args .normal) (c::fs) a:=by
 intro H R D Q Jw B hQ r hr hj;exact Zr (cs:=fs++cs) (hR H) hB hL hP B hPost hr hj j4 h λv a' w' hp h2 h3=>hnext v a' hp H R D Q Jw B hQ w' h2 h3
theorem Jj{fn:Func}(hm:fr.mode=.returning)(hd:fr.defers=[])(hk:fr.kind=.normal)(hf:P.funcs[fr.fn]? =ae fn)(hr:(eL fn fr.tmps).run P a=.ok v a)(h:vu P main cs At (c.finish v) fs a):vu P main cs At fr (c::fs) a:=by
 intro H R D Q Jw B hQ r hrel hj;have one:∀w₁,R r w₁->∃r' er,bn P main (cy fr (c::fs++cs)) w₁=.go (cy (c.finish v) (fs++cs)) r' er/\Rel H a w₁/\Jw a w₁/\Went H #[] a a w₁ r' er:=λw₁ h₁=>by obtain⟨h2,h3⟩:=B.others a r w₁ h₁ hrel hj;obtain⟨r',er,e1,e2⟩:=tK h2 (xA h2) hr;refine⟨r',seen P fr.fn er++ #[],?_,h2,h3,dw e2⟩;simp only[bn,hm,unwind,hd,hf,e1,doReturn,hk,jZ];rfl
 refine .step rfl (λw₁ h₁=>?_) λw₁ g' w' es h₁ e=>?_
 .obtain⟨r',er,e,h2,h3,h4⟩:=one w₁ h₁;exact⟨_,_,_,e,B.does a a w₁ r' er h2 h3 h4⟩
 .obtain⟨r',er,e',h2,h3,h4⟩:=one w₁ h₁;rw[e]at e';injection e' with e1 e2 e3
  subst e1 e2 e3;exact h H R D Q Jw B hQ _ h4.rel (B.own _ _ _ _ _ h2 h3 h4)
theorem OG{b:aB}{act:Act}{id:Nat}{ops:Array aZ}(hm:P.follows .mixedOrders=au)
  (h:∀t,vu P main cs At (b.at act (bI ops (Region.linearise.go .any ops ops.size t (Array.replicate ops.size aw) [])::k)) fs {a with drawn:=a.drawn+1}):vu P main cs At (b.at act (.code (.region id ops au)::k)) fs a:=by
 intro H R D Q Jw B hQ r hr hj;have one:∀w₁,∃t,bn P main (cy (b.at act (.code (.region id ops au)::k)) (fs++cs)) w₁=.go (cy (b.at act (bI ops (Region.linearise.go .any ops ops.size t (Array.replicate ops.size aw) [])::k)) (fs++cs)) {w₁ with drawn:=w₁.drawn+1} #[]:=λw₁=>by
  have e:bn P main (cy (b.at act (.code (.region id ops au)::k)) (fs++cs)) w₁=.go (cy (b.at act (bI ops (Region.schedule (P.follows .mixedOrders) ops (w₁.tape w₁.drawn (.order b.fn id)))::k)) (fs++cs)) {w₁ with drawn:=w₁.drawn+1} #[]:=by simp[cy,bn,fJ,Frame.at,choose,Sem.run,Question.forced,Question.cut]
  rw[e];simp only[Region.schedule,hm,Bool.true_or,if_true];exact⟨_,rfl⟩
 have went:∀w₁,Rel H a w₁->Went H #[] a {a with drawn:=a.drawn+1} w₁ {w₁ with drawn:=w₁.drawn+1} #[]:=λw₁ hrel=>⟨⟨hrel.size,hrel.same,hrel.hid,hrel.objs,hrel.os,hrel.output⟩,rfl,by show w₁.drawn+1=w₁.drawn+(a.drawn+1-a.drawn);omega,λ_ _=>rfl,λ_ h=>.inl h,λ_ h=>.inl h,bJ _,jr hrel,λy hy=>⟨rfl,hy⟩,λ_ h=>.inl h,bJ _,eG _,eG _,rfl,rfl⟩;refine .step rfl (λw₁ h₁=>?_) λw₁ g' w' es h₁ e=>?_
 .obtain⟨h2,h3⟩:=B.others a r w₁ h₁ hr hj;obtain⟨t,e⟩:=one w₁;exact⟨_,_,_,e,B.does a _ w₁ _ #[] h2 h3 (went w₁ h2)⟩
 .obtain⟨h2,h3⟩:=B.others a r w₁ h₁ hr hj;obtain⟨t,e'⟩:=one w₁;rw[e]at e';injection e' with e1 e2 e3
  subst e1 e2 e3;have hW:=went w₁ h2;exact h t H R D Q Jw B hQ _ hW.rel (B.own _ _ _ _ _ h2 h3 hW)
end
section
variable{P:bh}{main:Bool}{ops:Array aZ}
def DD(n:Nat)(listed:Array Bool):Nat:=cZ n λi=>if listed.getD i au then 0 else 1
theorem OH{n:Nat}{listed:Array Bool}(hn:listed.size=n)(h:listed.getD i au=aw):DD n (listed.setIfInBounds i au) +1=DD n listed:=by
 have hi:i<n:=by
  rcases ji i n with h1|h1
  .exact h1
  .rw[dO,np ai]at h;cases h
 have:=sumTo_upd (λx=>listed.getD x au) au (λb=>if b=au then 0 else 1) hi;have e:(λx=>(listed.setIfInBounds i au).getD x au)=upd (λx=>listed.getD x au) i au:=by
  funext x;simp only[upd,dO,EH];by_cases e:i=x
  .subst e;simp[hn,hi]
  .simp[e,bZ e]
 have e2:DD n (listed.setIfInBounds i au)=cZ n λa=>if upd (λx=>listed.getD x au) i au a=au then 0 else 1:=by unfold DD;rw[←e]
 rw[e2];simp only[h]at this;unfold DD;simpa using this
theorem zN{n:Nat}{listed:Array Bool}(cH:ops.size=n)(hn:listed.size=n)(hedge:∀(i:Nat) (o:aZ),ops[i]? =ae o->∀e∈o.after,fq .any e=au->e.on<i)(h:0<DD n listed):∃i,i∈ki .any ops listed:=by
 have hex:∃i,i<n/\listed.getD i au=aw:=by
  apply eV;intro hc;have:DD n listed=cZ n λ_=>0:=sumTo_congr λi hi=>by
   have:listed.getD i au=au:=by
    cases e:listed.getD i au with
    |true=>rfl
    |false=>exact aT ⟨i,hi,e⟩ hc
   simp[this]
  rw[this]at h;have z:∀n,cZ n (λ_=>0)=0:=λn=>by induction n with
   |zero=>rfl
   |succ n ih=>simp[cZ,ih]
  rw[z]at h;omega
 let p:Nat->Prop:=λi=>i<n/\listed.getD i au=aw;have least:∀m i,i<=m->p i->∃j,p j/\∀x,x<j->¬p x:=by
  intro m;induction m with
  |zero=>exact λi hi hp=>⟨i,hp,λx hx=>ai⟩
  |succ m ih=>
   intro i hi hp;by_cases hc:∃x,x<i/\p x
   .obtain⟨x,hx,hpx⟩:=hc;exact ih x ai hpx
   .exact⟨i,hp,λx hx hpx=>hc ⟨x,hx,hpx⟩⟩
 obtain⟨i,hi⟩:=hex;obtain⟨j,⟨hj,Io⟩,Zt⟩:=least i i (bJ _) hi;obtain⟨o,ho⟩:∃o,ops[j]? =ae o:=⟨_,fP ai⟩;refine⟨j,mem_ready.2 ⟨Io,o,ho,λe he hb=>?_⟩⟩;have h1:=hedge j o ho e he hb;have h2:listed.getD e.on au=au:=by
  cases h3:listed.getD e.on au with
  |true=>rfl
  |false=>exact aT ⟨ai,h3⟩ (Zt e.on h1)
 rw[dO]at h2⊢;rw[fP ai]at h2⊢;simpa using h2
abbrev DF(listed:Array Bool)(i:Nat):Array Bool:=listed.setIfInBounds i au
theorem B9(n:Nat):DD n (Array.replicate n aw)=n:=by
 have:DD n (Array.replicate n aw)=cZ n λ_=>1:=sumTo_congr λi hi=>by simp[dO,rO,hi]
 rw[this];have z:∀n,cZ n (λ_=>1)=n:=λn=>by induction n with
  |zero=>rfl
  |succ n ih=>simp[cZ,ih]
 exact z n
end
end
section
open Go Go.Conc Go.ConcN
open Go.ConcR (KK WgAt stA smA Payload Aside2 DC0)
structure Sees(N:Nat->Prop)(F:Nat->Option (Nat×Nat))(a r:aj):Prop where
 size:a.heap.size=r.heap.size
 os:a.os=r.os
 output:a.output=r.output
 get:∀(b:Nat),a.heap[b]? =(iH N F r).heap[b]?
theorem fE(N:Nat->Prop)(F:Nat->Option (Nat×Nat))(r:aj):Sees N F (iH N F r) r:=⟨by simp[iH],rfl,rfl,λ_=>rfl⟩
theorem Sees.alike{r:aj}(h:Sees N F a r)(e:Alike a a'):Sees N F a' r:=⟨by rw[e.heap];exact h.size,by rw[e.os];exact h.os,by rw[e.output];exact h.output,λb=>by rw[e.heap];exact h.get b⟩
def Aw(F:Nat->Option (Nat×Nat))(r:aj):Prop:=∀(b:Nat) f,F b=ae f->∃c e,r.heap[b]? =ae (aK c e (0,0))
theorem tL{f:Option (Nat×Nat)}{c:Array ay}:fV f (aK c e (0,0))=aK c e (f.getD (0,0)):=by cases f<;>rfl
section
variable{r:aj}
theorem Sees.need(h:Sees N F a r)(hb:N b):a.heap[b]? =(r.heap[b]?).map (fV (F b)):=by rw[h.get,hide_need hb]
theorem Sees.hid(h:Sees N F a r)(hb:Hid N r b):a.heap[b]? =ae eh:=by obtain⟨o,e,h1,h2⟩:=hb;rw[h.get,fp,e];simp[h1,h2]
theorem Sees.went(h:Sees N F a r)(hF:Aw F r)(hN:∀b,dJ.heap.size<=b->N b/\F b=ah)(vY:dJ.heap.size<=r.heap.size)(hH:∀b,Hid N dJ b↔Hid N r b)(w:Went (Hid N dJ) #[] a a' r r' er):Sees N F a' r'/\Aw F r'/\∀b,Hid N dJ b↔Hid N r' b:=by
 have TV:∀b,Hid N dJ b↔Hid N r' b:=λb=>by
  constructor
  .intro hb;obtain⟨o,e,h1,h2⟩:=(hH b).1 hb;exact⟨o,by rw[w.hidden b hb];exact e,h1,h2⟩
  .rintro⟨o,e,h1,h2⟩;have hlt:b<dJ.heap.size:=by
    rcases ji b dJ.heap.size with h|h
    .exact h
    .exact aT (hN b h).1 h2
   cases e':r.heap[b]? with
   |none=>have:=Array.getElem?_eq_none_iff.1 e';omega
   |some o'=>refine(hH b).2 ⟨o',e',?_,h2⟩;cases o'<;>first|rfl|(rw[w.shpr.2 _ _ _ e']at e;obtain rfl:=bj e;cases h1)
 have hF':Aw F r':=λb f hf=>by obtain⟨c,e,hc⟩:=hF b f hf;obtain⟨c',_,hc'⟩:=w.shpr.1 _ _ _ _ hc;exact⟨c',e,hc'⟩
 refine⟨⟨w.rel.size,w.rel.os,w.rel.output,λb=>?_⟩,hF',TV⟩;by_cases hb:Hid N dJ b
 .rw[(w.rel.hid b hb).1];obtain⟨o,e,h1,h2⟩:=(TV b).1 hb;rw[fp,e];simp[h1,h2]
 .
  by_cases hf:∃f,F b=ae f
  .obtain⟨f,hf⟩:=hf;have hNb:N b:=(by obtain⟨c,e,hc⟩:=hF b f hf;apply eV;intro hn;exact hb ((hH b).2 ⟨_,hc,rfl,hn⟩));obtain⟨c,e,hc⟩:=hF b f hf;have ha:a.heap[b]? =ae (aK c e f):=(by rw[h.need hNb,hc,hf];rfl);obtain⟨c1,_,h1⟩:=w.shp.1 _ _ _ _ ha;obtain⟨c2,_,h2⟩:=w.shpr.1 _ _ _ _ hc;rw[hide_need hNb,h2,h1,hf];show ae (Obj.cells c1 e f)=ae (Obj.cells c2 e f);rcases w.rel.same b hb with hs|⟨c3,e3,f3,h3,h4⟩
   .rw[h1,h2]at hs;simp only[dD,vw]at hs⊢;exact⟨hs.1,trivial,trivial⟩
   .rw[h1]at h3;rw[h2]at h4;simp only[dD,vw]at h3 h4⊢;exact⟨h3.1.trans h4.1.symm,trivial,trivial⟩
  .have hfn:F b=ah:=by
    cases e:F b with
    |none=>rfl
    |some f=>exact aT ⟨f,e⟩ hf
   have hh:∀(w:aj),(¬Hid N w b)->(iH N F w).heap[b]? =w.heap[b]? :=λw hnw=>by
    rw[fp,hfn];cases e:w.heap[b]? with
    |none=>rfl
    |some o=>have:N b\/di o=aw:=(by apply eV;intro hc;simp only[not_or,Bool.not_eq_false]at hc;exact hnw ⟨o,e,hc.2,hc.1⟩);simp only[nC,this,if_true];rfl
   rw[hh r' (λx=>hb ((TV b).2 x))];exact w.eqk b hb λ_=>by rw[h.get,hh r (λx=>hb ((hH b).2 x))]
end
def Fz(F:Nat->Option (Nat×Nat))(x:aP):Prop:=∃f,F x.block=ae f/\f.1<=x.off/\x.off<f.2
theorem Sees.frozen{r:aj}(h:Sees N F a r)(hF:Aw F r)(hN:∀b f,F b=ae f->N b){x:aP}(hx:Fz F x):a.frozen? x=au:=by
 obtain⟨f,hf,h1,h2⟩:=hx;obtain⟨c,e,hc⟩:=hF _ _ hf;have:a.heap[x.block]? =ae (aK c e f):=by rw[h.need (hN _ _ hf),hc,hf];rfl
 obtain⟨lo,hi⟩:=f;simp only[World.frozen?,this];simp only at h1 h2;simp[h1,h2]
def Whole(F:Nat->Option (Nat×Nat))(dJ:aj)(b:Nat):Prop:=∃f c e,F b=ae f/\f.1=0/\dJ.heap[b]? =ae (aK c e (0,0))/\c.size<=f.2
theorem whole_same{r:aj}(h:Whole F dJ b)(h0:Ot dJ r)(h1:Ot r r')(hc:∀x,Fz F x->r'.cell? x=r.cell? x):r'.heap[b]? =r.heap[b]? :=by
 obtain⟨f,c,e,hf,hf0,hb,hsz⟩:=h;obtain⟨c1,s1,e1⟩:=h0.1 _ _ _ _ hb;obtain⟨c2,s2,e2⟩:=h1.1 _ _ _ _ e1;rw[e1,e2];congr 2;apply Array.ext_getElem?;intro x;by_cases hx:x<c1.size
 .have:=hc ⟨b,x,ah⟩ ⟨f,hf,by simp[hf0],nD⟩;simpa[fG,e1,e2]using this
 .rw[np ai,np ai]
section
variable[fQ]
structure DI(c:CC)(N:Nat->Prop)(F:Nat->Option (Nat×Nat))(dJ a r:aj):Prop where
 sees:Sees N F a r
 fz:Aw F r
 hid:∀b,Hid N dJ b↔Hid N r b
 grow:dJ.heap.size<=r.heap.size
 keep:c.K r
 live:dG c.ty c.Wg r
 still:∀(b:Nat),Hid N dJ b->b≠c.Wg->r.heap[b]? =dJ.heap[b]?
 cells:∀x,Fz F x->r.cell? x=dJ.cell? x
 shp:Ot dJ r
 same:r.os=dJ.os/\r.output=dJ.output
structure ab3(c:CC)(h:Nat)(Inb:Nat->Option Seat)(N:Nat->Prop)(F:Nat->Option (Nat×Nat))(dJ:aj):Prop where
 wg:¬N c.Wg
 dum:Hid N dJ c.C\/Whole F dJ c.C
 fzn:∀b f,F b=ae f->N b
 new:∀b,dJ.heap.size<=b->N b/\F b=ah
 chans:∀i s b,i≠h->Inb i=ae s->s.has b->Hid N dJ b/\b≠c.Wg/\b≠c.C
 K:∀r r',c.K r->(r'.os=r.os/\r'.output=r.output)->(∀(b:Nat),Hid N dJ b->r'.heap[b]? =r.heap[b]?)->(∀x,Fz F x->r'.cell? x=r.cell? x)->(∀b,Whole F dJ b->r'.heap[b]? =r.heap[b]?)->c.K r'
 S:∀g l,c.S g l->∃x,l=.cell x/\(Hid N dJ x.block\/Fz F x)
variable{c:CC}{h:Nat}{r:aj}
omit[Payload]in
theorem nR{r:aj}{cs:Array ay}{f:Nat×Nat}(h:r.heap[b]? =ae (aK cs e f))(hn:¬N b):Hid N r b:=⟨_,h,rfl,hn⟩
theorem ab4{r:aj}(hr:RH c r r₁)(hl:dG c.ty c.Wg r):Ot r r₁:=by
 obtain⟨st1,sm1,h1⟩:=hr.live hl;obtain⟨st,sm,h0⟩:=hl;refine⟨λb cs e f hb=>?_,λb x l hb=>?_⟩
 .by_cases e1:b=c.Wg
  .subst e1;have Zc:r.heap[c.Wg]? =ae (qi c.ty st sm):=h0;rw[hb]at Zc;simp only[qi,dD,vw]at Zc;obtain⟨rfl,rfl,rfl⟩:=Zc;exact⟨#[.int .u64 st1,.int .u32 sm1],rfl,h1⟩
  .exact⟨cs,rfl,by rw[hr.block b e1];exact hb⟩
 .by_cases e1:b=c.Wg
  .subst e1;have Zc:r.heap[c.Wg]? =ae (qi c.ty st sm):=h0;rw[hb]at Zc;cases Zc
  .rw[hr.block b e1];exact hb
theorem Jk(O:c.Ok)(V:ab3 c h Inb N F dJ):Beside (Hid N dJ) (RH c) (Ln c Inb h) (DI c N F dJ):=by
 refine⟨λa r r₁ hr hrel L=>?_,λa a' r r' er hrel L w=>?_,λa a' r hA L=>?_,λa a' r r' er hrel L w=>?_⟩
 .
  have hK:c.K r₁:=O.keep _ _ hr.g L.keep;have qj:=hr.live L.live;have lI:Hid N r c.Wg:=by obtain⟨st,sm,hw⟩:=L.live;exact nR hw V.wg
  have agF:Hid N r₁ c.Wg:=by obtain⟨st,sm,hw⟩:=qj;exact nR hw V.wg
  have hsame:∀b,¬Hid N dJ b->r₁.heap[b]? =r.heap[b]? :=λb hb=>hr.block b (λe=>hb (by rw[e];exact(L.hid _).2 lI));have hh1:∀b,Hid N dJ b↔Hid N r₁ b:=λb=>by
   by_cases e1:b=c.Wg
   .subst e1;exact⟨λ_=>agF,λ_=>(L.hid _).2 lI⟩
   .rw[L.hid b];unfold Hid;rw[hr.block b e1]
  have TW:Rel (Hid N dJ) a r₁:=by
   refine⟨hrel.size.trans hr.size.symm,λb hb=>?_,λb hb=>⟨(hrel.hid b hb).1,?_⟩,hrel.objs,hrel.os.trans hr.os.symm,hrel.output.trans hr.output.symm⟩
   .rw[hsame b hb];exact hrel.same b hb
   .obtain⟨o,e,h1,_⟩:=(hh1 b).1 hb;exact⟨o,e,h1⟩
  have hFz:∀b f,F b=ae f->r₁.heap[b]? =r.heap[b]? :=λb f hf=>hsame b λhb=>by obtain⟨_,_,_,hn⟩:=hb;exact hn (V.fzn b f hf)
  refine⟨TW,⟨L.sees.size.trans hr.size.symm,L.sees.os.trans hr.os.symm,L.sees.output.trans hr.output.symm,λb=>?_⟩,λb f hf=>by rw[hFz b f hf];exact L.fz b f hf,hh1,by rw[hr.size];exact L.grow,hK,qj,λb hb e1=>by rw[hr.block b e1];exact L.still b hb e1,λx hx=>?_,L.shp.trans (ab4 hr L.live),hr.os.trans L.same.1,hr.output.trans L.same.2⟩
  .by_cases hb:Hid N dJ b
   .rw[L.sees.hid ((L.hid b).1 hb)];obtain⟨o,e,h1,h2⟩:=(hh1 b).1 hb;rw[fp,e];simp[h1,h2]
   .rw[L.sees.get,fp,fp,hsame b hb]
  .obtain⟨f,hf,_⟩:=hx;have e:r₁.cell? x=r.cell? x:=(by simp only[fG,hFz _ _ hf]);rw[e];exact L.cells x ⟨f,hf,‹_›⟩
 .
  obtain⟨h1,h2,h3⟩:=L.sees.went L.fz V.new L.grow L.hid w;have hcell:∀x,Fz F x->r'.cell? x=r.cell? x:=λx hx=>(w.kept x (L.sees.frozen L.fz V.fzn hx)).1;have lI:Hid N dJ c.Wg:=by obtain⟨st,sm,hw⟩:=L.live;exact(L.hid _).2 (nR hw V.wg)
  refine⟨h1,h2,h3,dm L.grow w.grow,V.K r r' L.keep w.same (λb hb=>w.hidden b hb) hcell (λb hb=>whole_same hb L.shp w.shpr hcell),?_,λb hb e1=>(w.hidden b hb).trans (L.still b hb e1),λx hx=>(hcell x hx).trans (L.cells x hx),L.shp.trans w.shpr,w.same.1.trans L.same.1,w.same.2.trans L.same.2⟩;obtain⟨st,sm,hw⟩:=L.live;exact⟨st,sm,(w.hidden _ lI).trans hw⟩
 .exact⟨L.sees.alike hA,L.fz,L.hid,L.grow,L.keep,L.live,L.still,L.cells,L.shp,L.same⟩
 .
  have hcell:∀x,Fz F x->r'.cell? x=r.cell? x:=λx hx=>(w.kept x (L.sees.frozen L.fz V.fzn hx)).1;have lI:Hid N dJ c.Wg:=by obtain⟨st,sm,hw⟩:=L.live;exact(L.hid _).2 (nR hw V.wg)
  refine⟨λhk=>V.K r r' hk w.same (λb hb=>w.hidden b hb) hcell (λb hb=>whole_same hb L.shp w.shpr hcell),λi s b h1 h2 h3=>w.hidden b (V.chans i s b h1 h2 h3).1,w.hidden _ lI,V.dum.elim (λh=>w.hidden _ h) (λh=>whole_same h L.shp w.shpr hcell),λe he=>?_⟩;have dA:IE (Hid N dJ) e:=(w.evs e he).resolve_left aJ;have agG:∀x,e.loc=.cell x->e.write=au->a.frozen? x=aw:=(w.rov e he).resolve_left aJ;obtain⟨loc,wr,sy⟩:=e;cases loc with
  |cell x=>
   refine⟨λt ht=>?_,aJ,aJ,aJ⟩;simp only[fH,ly,dD]at ht;subst ht;refine⟨λg hg=>?_,λhs=>?_⟩
   .obtain⟨y,hy,hor⟩:=V.S g _ hg;simp only[Loc.cell.injEq]at hy;subst hy;cases hw:wr with
    |false=>rfl
    |true=>
     rcases hor with hh|hh
     .exact aT hh dA
     .have:=agG x rfl hw;rw[L.sees.frozen L.fz V.fzn hh]at this;cases this
   .obtain⟨y,hy,hyb⟩:=hs;simp only[Loc.cell.injEq]at hy;subst hy;exact aT (hyb▸lI:Hid N dJ x.block) dA
  |obj b=>
   refine⟨λt ht=>?_,aJ,aJ,aJ⟩;refine⟨λg hg=>?_,λhs=>?_⟩
   .obtain⟨y,hy,_⟩:=V.S g _ hg;cases wr<;>cases sy<;>simp only[fH,ly,dD]at ht<;>first|(subst ht;cases hy)|cases ht
   .obtain⟨y,hy,_⟩:=hs;cases wr<;>cases sy<;>simp only[fH,ly,dD]at ht<;>first|(subst ht;cases hy)|cases ht
  |mark m=>have hm:(∃f,m=.extern f)\/m=.noRoom:=(by cases m<;>first|exact .inl ⟨_,rfl⟩|exact .inr rfl|exact dA.elim);rcases hm with⟨f,rfl⟩|rfl<;>exact⟨λt ht=>by simp[fH,ly]at ht,aJ,aJ,aJ⟩
  |output=>refine⟨λt ht=>?_,aJ,aJ,aJ⟩;simp only[fH,ly,dD]at ht;subst ht;exact⟨λg hg=>(by obtain⟨y,hy,_⟩:=V.S g _ hg;cases hy),λhs=>(by obtain⟨y,hy,_⟩:=hs;cases hy)⟩
  |goroutines=>exact dA.elim
end
end
end Go.Proofs.YtfmibhmknlnoiaaGreat
