import Derived.Test.YtfmibhmknlnoiaaGreatRows
import Derived.WalkKit
import Derived.WalkSpells
import Derived.WalkLawsBesides
import Derived.Lib.Builder
import Derived.Test.YtfmibhmknlnoiaaGreatProg
import GoSem.Machine.Exec
import Derived.Conc.Own
import Derived.Laws.World
import GoSem.Dispatch
import Derived.Control
import Derived.DyingOn
import Derived.Conc.CrowdComm
import Derived.Conc.Token
import Derived.Conc.CrowdStepW
import Derived.Defers
import Derived.Conc.Own4
import Derived.Lib.Hide
import Derived.Laws.AppendOwn
import Derived.Laws.BitsLemmas
import Derived.Below
import Derived.Calls
import Derived.Deep.RegionHeld
import Derived.Conc.Pipeline
import Derived.Deep.AppendLies
import GoSem.Core.Value
import GoSem.Core.World
set_option linter.all false
set_option maxRecDepth 100000
set_option maxHeartbeats 4000000
namespace Go.Proofs.YtfmibhmknlnoiaaGreat
open _root_.Go.Proofs.Tryz
abbrev aQ:=@Array.getElem?_eq_some_iff
abbrev ai:=@Go.Lib.hid
abbrev aP:=@Option.some.inj
abbrev cE:=@Array.getD_eq_getD_getElem?
abbrev bP:=@Go.World.cell?_of_block
abbrev eH:=@Array.getElem?_setIfInBounds_ne
abbrev bJ:=@Option.getD_some
abbrev cF:=@Array.getElem?_push
abbrev aY:=@Nat.le_refl
abbrev eA:=@List.getElem?_eq_getElem
abbrev cQ:=@List.getD_eq_getElem?_getD
abbrev fD:=@Array.getElem?_setIfInBounds_self_of_lt
abbrev cY:=@Classical.byContradiction
abbrev bj:=@Nat.zero_le
abbrev bI:=@Go.World.size_alloc
abbrev bK:=@Bool.and_eq_true
abbrev dw:=@Go.World.block_lt_of_cell?
abbrev dI:=@Array.getElem?_eq_getElem
abbrev cu:=@Option.some.injEq
abbrev eL:=@List.getElem?_eq_some_iff
abbrev cG:=@Go.World.alloc_eq
abbrev kY:=@True.intro
abbrev cn:=@Nat.le_trans
abbrev bg:=@Go.Conc.Goes.step
abbrev dS:=@Bool.false_eq_true
abbrev fp:=@Nat.lt_of_lt_of_le
abbrev dR:=@Go.IntKind.wrap_i64
abbrev jD:=@List.setIfInBounds_toArray
abbrev ew:=@List.length_cons
abbrev eh:=@Go.RowKit.Below.heap_alloc
abbrev cM:=@Nat.zero_add
abbrev gJ:=@List.mem_cons_of_mem
abbrev dV:=@Nat.not_lt_zero
abbrev fu:=@Array.mem_append
abbrev fV:=@Array.size_push
abbrev kU:=@Option.ne_none_iff_exists'
abbrev fy:=@Go.Frame.finish_at
abbrev dM:=@List.mem_cons
abbrev fT:=@List.all_eq_true
abbrev lK:=@Go.World.cell?_setCell_other
abbrev jh:=@List.getElem?_toArray
abbrev km:=@Option.map_eq_some_iff
abbrev gA:=@Array.mem_push
abbrev bp:=@Ne.symm
abbrev fS:=@List.length_nil
abbrev kP:=@Array.getElem?_eq_none
abbrev ma:=@List.getElem?_cons_succ
abbrev mL:=@Array.getElem?_replicate
abbrev oC:=@List.getElem?_append_left
abbrev mP:=@List.getElem?_cons_zero
abbrev jH:=@Nat.eq_zero_or_pos
abbrev jE:=@List.mem_cons_self
abbrev pQ:=@List.getElem?_append_right
abbrev jC:=@List.size_toArray
abbrev jc:=@List.cons_append
abbrev mX:=@List.mem_of_getElem?
abbrev od:=@Array.mem_of_getElem?
abbrev lQ:=@Array.getElem?_map
abbrev acd:=@Go.World.cell?_alloc_some
abbrev iF:=@Go.RowKit.Below.refl
abbrev pN:=@List.mem_iff_getElem?
abbrev ml:=@List.getElem?_map
abbrev mI:=@List.set_cons_zero
abbrev mM:=@List.length_append
abbrev oH:=@List.take_succ_cons
abbrev kS:=@Option.map_some
abbrev iC:=@Nat.lt_or_ge
abbrev kR:=@List.nil_append
abbrev iB:=@Go.Conc.Goes.running
abbrev pR:=@Go.World.news_of_block
abbrev eK:=@Go.Conc.Goes.stop
abbrev oK:=@Go.World.ownsRow_nil
abbrev pI:=@List.set_cons_succ
abbrev xN:=@Array.size_setIfInBounds
abbrev Cz:=@Array.all_eq_true_iff_forall_mem
abbrev pK:=@List.not_mem_nil
abbrev mJ:=@List.mem_range
abbrev pP:=@List.getElem_mem
abbrev pS:=@Go.World.size_drew
abbrev oI:=@List.take_zero
abbrev pW:=@List.length_map
abbrev xU:=@List.getElem?_eq_none
abbrev uG:=@Array.append_empty
abbrev jG:=@Go.Conc.Goes.cases
abbrev G6:=@List.take_succ_eq_append_getElem
abbrev uH:=@List.append_assoc
abbrev uF:=@Bool.not_eq_true'
abbrev uw:=@Array.size_modify
abbrev y7:=@Go.World.frozen?_setCell
abbrev y6:=@Go.World.cell?_alloc_new
abbrev s9:=@Go.Value.slice.inj
abbrev sL:=@Go.Obj.cells.injEq
abbrev sK:=@List.range_succ
abbrev og:=@List.mem_map
abbrev Al:=@List.length_replicate
abbrev sH:=@List.foldl_cons
abbrev je:=@Go.Conc.Goes.rely
abbrev Ip:=@List.eq_nil_of_length_eq_zero
abbrev Ff:=@Array.getElem?_setIfInBounds
abbrev uA:=@Bool.or_eq_true
theorem ae{p:Prop}(h:p:=by omega):p:=h
theorem ax{p:Prop}(h:p:=by kernel_rfl):p:=h
theorem az{p:Prop}(h:p:=by decide):p:=h
theorem au{p:Prop}(h:p:=by simp):p:=h
theorem cC{p:Prop}(h:p:=by simp[Act.eval]):p:=h
theorem bV{p:Prop}(h:p:=by simp;omega):p:=h
theorem gU{p:Prop}(h:p:=by simp[results,go_sem]):p:=h
theorem gF{p:Prop}(h:p:=by simp[World.setCell]):p:=h
theorem bY{p:Prop}(h:p:=by cases h):p:=h
theorem iw{p:Prop}(h:p:=by unfold maxLen;omega):p:=h
theorem bF{p:Prop}(h:p:=by rfl):p:=h
theorem kT{p:Prop}(h:p:=by simp only;omega):p:=h
theorem oG{p:Prop}(h:p:=by simp[S3,fC]):p:=h
theorem qP{p:Prop}(h:p:=by simp[Value.oneCell']):p:=h
theorem kO{p:Prop}(h:p:=by simpa using h1):p:=h
theorem qT{p:Prop}(h:p:=by simpa using h2):p:=h
theorem G5{p:Prop}(h:p:=by cases hk):p:=h
theorem xz{p:Prop}(h:p:=by subst h;cases hy):p:=h
theorem sN{p:Prop}(h:p:=by simp only[phi];omega):p:=h
theorem Si{p:Prop}(h:p:=by rw[af hW];rfl):p:=h
theorem lY{p:Prop}(h:p:=by rw[e];simp):p:=h
theorem gl{p:Prop}(h:p:=by go_num):p:=h
theorem U6{p:Prop}(h:p:=by exact(Array.mem_push.1 he).imp id fun h y hy=>by subst h;cases hy):p:=h
theorem NT{p:Prop}(h:p:=by rw[if_neg (by omega),if_neg (by omega),if_pos trivial]):p:=h
theorem Ry{p:Prop}(h:p:=by first|exact True.intro|((try dsimp only);(refine⟨?_,?_⟩ <;>first|(simp[*];done)|(go_simp;done)))):p:=h
theorem Gc{p:Prop}(h:p:=by first|exact True.intro|((try dsimp only);(refine⟨?_,?_,?_,?_⟩ <;>first|(simp[*];done)|(go_simp;done)))):p:=h
theorem Zg{p:Prop}(h:p:=by first|exact True.intro|((try dsimp only);(refine⟨?_,?_,?_,?_,?_,?_,?_,?_,?_,?_,?_⟩ <;>first|(simp[*];done)|(go_simp;done)|(rw[hgrow.cell_far _ (by simp;omega) (by first|exact ZF|exact hrn|exact hr8)];first|(simp[*];done)|(go_simp;done))))):p:=h
theorem Zh{p:Prop}(h:p:=by first|exact True.intro|((try dsimp only);trivial)):p:=h
theorem VK{p:Prop}(h:p:=by first|exact True.intro|((try dsimp only);simp[*])):p:=h
theorem Gu{p:Prop}(h:p:=by first|exact True.intro|((try dsimp only);(refine⟨?_,?_⟩ <;>simp[*,World.cell?_alloc_some]))):p:=h
theorem ZE{p:Prop}(h:p:=by first|exact True.intro|((try dsimp only);(refine⟨?_,?_⟩ <;>first|(simp[*];done)|(go_simp;done)|(rw[hgrow.cell_far _ (by simp;omega) (by first|exact hr1|exact hr2)];first|(simp[*];done)|(go_simp;done))))):p:=h
theorem ZG{p:Prop}(h:p:=by first|exact True.intro|((try dsimp only);(refine⟨?_,?_⟩ <;>first|(simp[*];done)|(go_simp;done)|(rw[tY.cell_far _ (by simp;omega) (by simp[Value.ownBlock])];first|(simp[*];done)|(go_simp;done))|(rw[hgrow.cell_far _ (by simp;omega) (by first|exact hr1|exact hr2)];first|(simp[*];done)|(go_simp;done))))):p:=h
theorem MQ{p:Prop}(h:p:=by first|exact True.intro|((try dsimp only);(refine⟨?_,?_,?_⟩ <;>first|(simp[*];done)|(go_simp;done)|(rw[hgrow.cell_far _ (by simp;omega) (by first|exact hr1|exact hr2)];first|(simp[*];done)|(go_simp;done))))):p:=h
theorem MS{p:Prop}(h:p:=by first|exact True.intro|((try dsimp only);first|(simp[*,World.cell?_alloc_some];done)|(rw[hgrow.cell_far _ (by simp;omega) hpu];assumption)|(rw[hgrow2.cell_far _ (by simp;omega) hpo];assumption))):p:=h
theorem SK{p:Prop}(h:p:=by first|exact True.intro|((try dsimp only);(refine ac9 _ ?_;first|exact(Below.refl _ _).drew|exact hHeld.1.alloc hHeld.1.size _|exact hHeld.1.grown fo hHeld.1.size (fun k hk=>by cases hk)|exact hHeld.1.grown nO hHeld.1.size (fun k hk=>by cases hk)))):p:=h
variable{ι α:Type}{e1 e2 er:Array Event}{gs gs':Array Goroutine}{ps:Array Tmp}{xs:Array Value}{it rd:Bool}{bD:ConcN.CTag}{Hs:ConcN.CTag->Goroutine->World->Prop}{d:Deferred}{e:Event}{fr aZ bo:Frame}{fn:FuncId}{g':Goroutine}{Q:Goroutine->World->Prop}{h:Halt}{ds:List Deferred}{cs cs' fs bz cj:List Frame}{ws:List Int}{k:List Item}{X:Loc->Prop}{B C Wg b c d0 f i j m s t:Nat}{jf:Nat->Bool}{S':Nat->Loc->Prop}{q q':Nat->Nat}{F:Nat->Option (Nat×Nat)}{Inb:Nat->Option Conc.Seat}{H BB N S:Nat->Prop}{τ nY:Nat->Question->Nat}{D':Nat->ConcN.WD}{o:Oper}{ρ:Operand->Value}{κ:Option (List Item)}{x:Sem α}{T:Trace}{β γ δ:Type}{ty:TypeId}{u:Unsupported}{v:Value}{Post:Value->World->Prop}{a a' a1 a₁ a₂ r' r₁ w' w2 w₁:World}{D zJ:World->World->Array Event->Prop}{Jw R:World->World->Prop}{y:α×Nat}{p':α->Prop}{Rm:ι->Value->World->Prop}
section
open Go.RowKit
theorem j8(a:Nat)(ha:a<18446744073709551616):(BitVec.ofInt 64 (a:Int)).toNat=a:=ofInt_u64 a ha
theorem vR(a b:Nat)(ha:a<9223372036854775808)(hb:b<9223372036854775808):bits .and .i64 (a:Int) (b:Int)=((a &&& b:Nat):Int):=by
 have e1:(BitVec.ofInt 64 (a:Int)).toNat=a:=j8 a ae;have e2:(BitVec.ofInt 64 (b:Int)).toNat=b:=j8 b ae;have hlt:a &&& b<9223372036854775808:=Nat.lt_of_le_of_lt Nat.and_le_left ha;have e3:(BitVec.ofInt 64 (a:Int) &&& BitVec.ofInt 64 (b:Int)).toNat=a &&& b:=by rw[BitVec.toNat_and,e1,e2]
 show IntKind.i64.wrap ((BitVec.ofInt 64 (a:Int) &&& BitVec.ofInt 64 (b:Int)).toNat:Int)=_;rw[e3,dR];omega
theorem yj(a b:Nat)(ha:a<9223372036854775808)(hb:b<9223372036854775808):bits .or .i64 (a:Int) (b:Int)=((a ||| b:Nat):Int):=by
 have e1:(BitVec.ofInt 64 (a:Int)).toNat=a:=j8 a ae;have e2:(BitVec.ofInt 64 (b:Int)).toNat=b:=j8 b ae;have hlt:a ||| b<2 ^ 63:=Nat.or_lt_two_pow ae ae;have e3:(BitVec.ofInt 64 (a:Int) ||| BitVec.ofInt 64 (b:Int)).toNat=a ||| b:=by rw[BitVec.toNat_or,e1,e2]
 show IntKind.i64.wrap ((BitVec.ofInt 64 (a:Int) ||| BitVec.ofInt 64 (b:Int)).toNat:Int)=_;rw[e3,dR];omega
theorem yY(x:Int)(h0:0<=x)(h1:x<9223372036854775808):bits .and .i64 x 1099511627775=x % 1099511627776:=by obtain⟨n,rfl⟩:=Int.eq_ofNat_of_zero_le h0;have:=vR n 1099511627775 ae ae;have e:=Nat.and_two_pow_sub_one_eq_mod n 40;simp only[Nat.reducePow,Nat.reduceSub]at e;rw[e]at this;simpa using this
theorem Cq(v t:Int)(h0:0<=v)(h1:v<=1048575)(h2:0<=t)(h3:t<1099511627776):bits .or .i64 (v*1099511627776) t=v*1099511627776+t:=by obtain⟨n,rfl⟩:=Int.eq_ofNat_of_zero_le h0;obtain⟨m,rfl⟩:=Int.eq_ofNat_of_zero_le h2;have:=yj (n*1099511627776) m ae ae;have e:=nat_join 40 (n*1099511627776) m au bV;rw[e]at this;simpa using this
theorem IW(w:World):Calls prog 88 #[.pointer none] w λe w'=>e=.returned (.int .i64 0)/\w=w':=by
 go_enter func88,ntmps88
 go_wp2;go_ret
 exact⟨rfl,rfl⟩
theorem under_any(d:Int)(w:World)(h0:0<=d)(h1:d<=100000):Calls prog 133 #[.int .i64 d] w λe w'=>e=.returned (.int .i64 (-d-1))/\w=w':=by
 go_enter func133,ntmps133
 go_wp2;go_ret
 exact⟨rfl,rfl⟩
theorem lI(v:Int)(w:World)(h0:0<=v)(h1:v<=1048575):Calls prog 38 #[.int .i64 v] w λe w'=>e=.returned (.bool true)/\w=w':=by
 have hb:decide (v<=1048575)=true:=kO;go_enter func38,ntmps38
 go_wp2;go_ret
 exact⟨rfl,rfl⟩
theorem rE(v:Int)(w:World)(h:v<0\/1048575<v):Calls prog 38 #[.int .i64 v] w λe w'=>e=.returned (.bool false)/\w=w':=by
 by_cases h0:0<=v
 ·have h1:decide (v<=1048575)=false:=bV;clear h;go_enter func38,ntmps38
  go_wp2;go_ret
  exact⟨rfl,rfl⟩
 ·clear h;go_enter func38,ntmps38
  go_wp2;go_ret
  exact⟨rfl,rfl⟩
theorem th(x:Int)(w:World)(h0:0<=x)(h1:x<=1152921504606846975):Calls prog 134 #[.int .i64 x] w λe w'=>e=.returned (.bool true)/\w=w':=by
 have hb:decide (x<=1152921504606846975)=true:=kO;go_enter func134,ntmps134
 go_wp2;go_ret
 exact⟨rfl,rfl⟩
theorem xw(x:Int)(w:World)(h0:0<=x)(h1:x<=1048575):Calls prog 79 #[.int .i64 x] w λe w'=>e=.returned (.bool true)/\w=w':=by
 have hb:decide (x<=1048575)=true:=kO;go_enter func79,ntmps79
 go_wp2;go_ret
 exact⟨rfl,rfl⟩
theorem IX(w:World):Calls prog 80 #[.int .i64 0] w λe w'=>e=.returned (.bool true)/\w=w':=by
 go_enter func80,ntmps80
 go_wp2;go_ret
 exact⟨rfl,rfl⟩
theorem Nu(x:Int)(w:World)(h0:0<=x)(h1:x<=1048575):Calls prog 39 #[.int .i64 x,.int .i64 0] w λe w'=>e=.returned (.tuple #[.int .i64 (x*1099511627776),.int .i64 0])/\w=w':=by
 have hj:=Cq x 0 h0 h1 ae ae;simp only[Int.add_zero]at hj;go_enter func39,ntmps39
 go_wp2_with (first|(go_at_call 79;refine(xw _ _ h0 h1).mono ?_;rintro e w' ⟨rfl,rfl⟩)|(go_at_call 80;refine(IX _).mono ?_;rintro e w' ⟨rfl,rfl⟩))
 go_ret2
 exact⟨rfl,rfl⟩
theorem IY(x:Int)(w:World)(h0:0<=x)(h1:x<=1152921504606846975):Calls prog 87 #[.int .i64 x] w λe w'=>e=.returned (.int .i64 (x / 1099511627776))/\w=w':=by
 go_enter func87,ntmps87
 go_wp2_with (go_at_call 134;refine(th _ _ h0 h1).mono ?_;rintro e w' ⟨rfl,rfl⟩)
 go_ret
 exact⟨rfl,rfl⟩
theorem QA(x:Int)(w:World)(h0:0<=x)(h1:x<=1152921504606846975):Calls prog 161 #[.int .i64 x] w λe w'=>e=.returned (.int .i64 (x % 1099511627776))/\w=w':=by
 have hm:=yY x h0 ae;go_enter func161,ntmps161
 go_wp2_with (go_at_call 134;refine(th _ _ h0 h1).mono ?_;rintro e w' ⟨rfl,rfl⟩)
 go_ret
 exact⟨rfl,rfl⟩
def dg(x v:Int):Int:=v*1099511627776+(x+1) % 1099511627776
theorem mH(x v:Int)(h0:0<=v)(h1:v<=1048575):0<=dg x v/\dg x v<=1152921504606846975/\dg x v / 1099511627776=v:=by unfold dg;omega
theorem Nv(x v:Int)(w:World)(h0:0<=x)(h1:x<=1152921504606846975)(h2:0<=v)(h3:v<=1048575):Calls prog 154 #[.int .i64 x,.int .i64 v] w λe w'=>e=.returned (.tuple #[.int .i64 (dg x v),.int .i64 0])/\w=w':=by
 have hm:=yY (x % 1099511627776+1) ae ae;have hj:=Cq v ((x+1) % 1099511627776) h2 h3 ae ae;go_enter func154,ntmps154
 go_wp2_with (first|(go_at_call 134;refine(th _ _ h0 h1).mono ?_;rintro e w' ⟨rfl,rfl⟩)|(go_at_call 79;refine(xw _ _ h2 h3).mono ?_;rintro e w' ⟨rfl,rfl⟩)|(go_at_call 161;refine(QA _ _ h0 h1).mono ?_;rintro e w' ⟨rfl,rfl⟩))
 go_ret2
 exact⟨rfl,rfl⟩
theorem hvalue_word(x:Int)(w:World)(h0:0<=x)(h1:x<=1152921504606846975):Calls prog 46 #[.int .i64 x] w λe w'=>e=.returned (.int .i64 (x / 1099511627776))/\w=w':=by
 go_enter func46,ntmps46
 go_wp2_with (go_at_call 87;refine(IY _ _ h0 h1).mono ?_;rintro e w' ⟨rfl,rfl⟩)
 go_ret
 exact⟨rfl,rfl⟩
theorem IZ(x v:Int)(w:World)(h0:0<=x)(h1:x<=1152921504606846975)(h2:0<=v)(h3:v<=1048575):Calls prog 131 #[.int .i64 x,.int .i64 v] w λe w'=>e=.returned (.int .i64 (dg x v))/\w=w':=by
 go_enter func131,ntmps131
 go_wp2_with (go_at_call 154;refine(Nv _ _ _ h0 h1 h2 h3).mono ?_;rintro e w' ⟨rfl,rfl⟩)
 go_ret
 exact⟨rfl,rfl⟩
theorem yZ(x:Int)(w:World)(h0:0<=x)(h1:x<=1152921504606846975):Calls prog 85 #[.int .i64 x] w λe w'=>e=.returned (.tuple #[.int .i64 (-x-1),.bool false])/\w=w':=by
 have hb:decide (x<0)=false:=bV;go_enter func85,ntmps85
 go_wp2;go_ret2
 exact⟨rfl,rfl⟩
theorem QB(a:Addr)(x:Int)(w:World)(hc:w.cell? a=some (.int .i64 x)):(callFunc 126 #[.pointer (some a)]).run prog w=.ok (.value (.int .i64 x)) w:=run_call_load (P:=prog) func126 ax ax ax .i64 ax hc
theorem QC(a:Addr)(x:Int)(w:World)(hc:w.cell? a=some (.int .i32 x)):(callFunc 153 #[.pointer (some a)]).run prog w=.ok (.value (.int .i32 x)) w:=run_call_load (P:=prog) func153 ax ax ax .i32 ax hc
theorem Nx(a:Addr)(x:Int)(u:Value)(w:World)(hc:w.cell? a=some u)(hz:w.frozen? a=false):(callFunc 81 #[.pointer (some a),.int .i64 x]).run prog w=.ok (.value (.tuple #[])) (w.setCell a (.int .i64 x)):=run_call_store (P:=prog) func81 ax ax ax ax hc hz
theorem UW(a:Addr)(x y:Int)(w:World)(hc:w.cell? a=some (.int .i64 x))(hz:w.frozen? a=false):(callFunc 162 #[.pointer (some a),.int .i64 x,.int .i64 y]).run prog w=.ok (.value (.bool true)) (w.setCell a (.int .i64 y)):=run_call_cas_hit (P:=prog) func162 ax ax ax .i64 ax hc hz
theorem UX(a:Addr)(x y:Int)(w:World)(hc:w.cell? a=some (.int .i32 x))(hz:w.frozen? a=false):(callFunc 152 #[.pointer (some a),.int .i32 x,.int .i32 y]).run prog w=.ok (.value (.bool true)) (w.setCell a (.int .i32 y)):=run_call_cas_hit (P:=prog) func152 ax ax ax .i32 ax hc hz
theorem run_call_loadp{P:Program}{f:FuncId}{fn:Func}(hf:P.funcs[f]? =some fn)(hname:(fn.name== "runtime.NumGoroutine")=false)(hb:fn.body.isNone=true)(hn:Extern.findNext fn=none)
  (he:Extern.find fn=some (Extern.Atomic.loadT .ptr)){a:Addr}{x:Option Addr}{w:World}(hc:w.cell? a=some (.pointer x)):
  (callFunc f #[.pointer (some a)]).run P w=.ok (.value (.pointer x)) w:=by
 rw[run_callFunc_extern hf hname hb hn he];change (Sem.run P (do Extern.Atomic.read .ptr (←asAddr (.pointer (some a)))) w).andThen _=_;simp[Extern.Atomic.read,asAddr,hc,Result.andThen]
theorem run_call_storep{P:Program}{f:FuncId}{fn:Func}(hf:P.funcs[f]? =some fn)(hname:(fn.name== "runtime.NumGoroutine")=false)(hb:fn.body.isNone=true)(hn:Extern.findNext fn=none)
  (he:Extern.find fn=some Extern.Atomic.storeT){a:Addr}{x:Option Addr}{u:Value}{w:World}(hc:w.cell? a=some u)(hz:w.frozen? a=false):
  (callFunc f #[.pointer (some a),.pointer x]).run P w=.ok (.value (.tuple #[])) (w.setCell a (.pointer x)):=by
 rw[run_callFunc_extern hf hname hb hn he];change (Sem.run P (do
  store (←asAddr (.pointer (some a))) (.pointer x) .atomic
  pure Extern.Atomic.none_) w).andThen _=_
 simp[asAddr,hc,hz,run_store P w a (.pointer x) .atomic rfl,Result.andThen,Extern.Atomic.none_]
theorem Mg(a:Addr)(x:Option Addr)(w:World)(hc:w.cell? a=some (.pointer x)):(callFunc 151 #[.pointer (some a)]).run prog w=.ok (.value (.pointer x)) w:=run_call_loadp (P:=prog) func151 ax ax ax ax hc
theorem QD(a:Addr)(x:Option Addr)(u:Value)(w:World)(hc:w.cell? a=some u)(hz:w.frozen? a=false):(callFunc 135 #[.pointer (some a),.pointer x]).run prog w=.ok (.value (.tuple #[])) (w.setCell a (.pointer x)):=run_call_storep (P:=prog) func135 ax ax ax ax hc hz
theorem Mh(b o:Nat)(x:Int)(w:World)(hc:w.cell? ⟨b,o,none⟩=some (.int .i64 x)):Calls prog 84 #[.pointer (some ⟨b,o,none⟩)] w λe w'=>e=.returned (.int .i64 x)/\w=w':=by
 have hx:=QB ⟨b,o,none⟩ x w hc;go_enter func84,ntmps84
 go_wp2;go_ret
 exact⟨rfl,rfl⟩
theorem Dw(b o:Nat)(x:Int)(w:World)(hc:w.cell? ⟨b,o,none⟩=some (.int .i32 x)):Calls prog 130 #[.pointer (some ⟨b,o,none⟩)] w λe w'=>e=.returned (.int .i32 x)/\w=w':=by
 have hx:=QC ⟨b,o,none⟩ x w hc;go_enter func130,ntmps130
 go_wp2;go_ret
 exact⟨rfl,rfl⟩
theorem QE(b o:Nat)(x:Int)(u:Value)(w:World)(hc:w.cell? ⟨b,o,none⟩=some u)(hz:w.frozen? ⟨b,o,none⟩=false):Calls prog 40 #[.pointer (some ⟨b,o,none⟩),.int .i64 x] w λe w'=>e=.returned (.tuple #[])/\w.setCell ⟨b,o,none⟩ (.int .i64 x)=w':=by
 have hx:=Nx ⟨b,o,none⟩ x u w hc hz;go_enter func40,ntmps40
 go_wp2
 go_end0
 exact⟨rfl,rfl⟩
theorem Yq(b o:Nat)(x y:Int)(w:World)(hc:w.cell? ⟨b,o,none⟩=some (.int .i64 x))(hz:w.frozen? ⟨b,o,none⟩=false):Calls prog 155 #[.pointer (some ⟨b,o,none⟩),.int .i64 x,.int .i64 y] w λe w'=>e=.returned (.bool true)/\w.setCell ⟨b,o,none⟩ (.int .i64 y)=w':=by
 have hx:=UW ⟨b,o,none⟩ x y w hc hz;go_enter func155,ntmps155
 go_wp2;go_ret
 exact⟨rfl,rfl⟩
theorem Yr(b o:Nat)(x y:Int)(w:World)(hc:w.cell? ⟨b,o,none⟩=some (.int .i32 x))(hz:w.frozen? ⟨b,o,none⟩=false):Calls prog 129 #[.pointer (some ⟨b,o,none⟩),.int .i32 x,.int .i32 y] w λe w'=>e=.returned (.bool true)/\w.setCell ⟨b,o,none⟩ (.int .i32 y)=w':=by
 have hx:=UX ⟨b,o,none⟩ x y w hc hz;go_enter func129,ntmps129
 go_wp2;go_ret
 exact⟨rfl,rfl⟩
theorem rF:∃i,prog.info? 187=some i/\i.size=194:=by have h:(prog.info? 187).map (λi=>i.size)=some 194:=ax;obtain⟨i,h1,h2⟩:=km.1 h;exact⟨i,h1,h2⟩
theorem Cr:liesAt prog prog.depth 187 (194 / prog.cellsOf 187) 0 187 1=true:=ax
theorem Dx(c:Nat)(w:World)(ur:w.shape? c=some (187,194)):(convert 100 96 (.pointer (some ⟨c,0,none⟩))).run prog w=.ok (.pointer (some ⟨c,0,none⟩)) w:=by obtain⟨i,hi,hz⟩:=rF;exact Lib.run_from_unsafe (P:=prog) w ⟨c,0,none⟩ underlying100 underlying96 hi ur Cr
theorem I4(c:Nat)(w:World)(ur:w.shape? c=some (187,194)):(convert 96 100 (.pointer (some ⟨c,0,none⟩))).run prog w=.ok (.pointer (some ⟨c,0,none⟩)) w:=by obtain⟨i,hi,hz⟩:=rF;exact Lib.run_to_unsafe (P:=prog) w ⟨c,0,none⟩ underlying96 underlying100 hi ae ur au
structure Keep(S:Nat->Prop)(B:Nat)(w w':World):Prop where
 os:w'.os=w.os
 tape:w'.tape=w.tape
 output:w'.output=w.output
 size:w.heap.size<=w'.heap.size
 block:∀k,k<B->¬S k->w'.heap[k]? =w.heap[k]?
theorem Keep.refl(S:Nat->Prop)(B:Nat)(w:World):Keep S B w w:=⟨rfl,rfl,rfl,aY _,λ_ _ _=>rfl⟩
theorem Keep.trans{b c:World}(h:Keep S B a b)(k:Keep S B b c):Keep S B a c:=⟨k.os.trans h.os,k.tape.trans h.tape,k.output.trans h.output,cn h.size k.size,λi hi hs=>(k.block i hi hs).trans (h.block i hi hs)⟩
theorem Keep.mono{B':Nat}{w:World}(h:Keep S B w w')(hB:B'<=B):Keep S B' w w':=⟨h.os,h.tape,h.output,h.size,λk hk=>h.block k (fp hk hB)⟩
theorem Keep.weaken{S':Nat->Prop}{w:World}(h:Keep S B w w')(hS:∀k,k<B->S k->S' k):Keep S' B w w':=⟨h.os,h.tape,h.output,h.size,λk hk hs=>h.block k hk (λe=>hs (hS k hk e))⟩
theorem Keep.drew{w:World}(h:Keep S B a w):Keep S B a w.drew:=⟨h.os,h.tape,h.output,h.size,h.block⟩
theorem Keep.drewN{n:Nat}{w:World}(h:Keep S B a w):Keep S B a (w.drewN n):=⟨h.os,h.tape,h.output,h.size,h.block⟩
theorem Keep.alloc{w:World}(h:Keep S B a w)(hB:B<=w.heap.size)(o:Obj):Keep S B a (w.alloc o):=h.trans ⟨rfl,rfl,rfl,au,λk hk _=>eh _ _ _ ae⟩
theorem Keep.setCell{w:World}(h:Keep S B a w){p:Addr}(hp:S p.block\/B<=p.block)(u:Value):Keep S B a (w.setCell p u):=h.trans ⟨rfl,rfl,rfl,gF,λk hk hs=>Below.heap_setCell _ _ _ _ (λe=>by subst e;rcases hp with h|h;exact hs h;omega)⟩
theorem Keep.below{w:World}(h:Keep (λ_=>False) B w w'):Below B w w':=⟨h.os,h.tape,h.output,h.size,λk hk=>h.block k hk id⟩
theorem Keep.cell{w:World}(h:Keep S B w w'){p:Addr}(hp:p.block<B)(hs:¬S p.block):w'.cell? p=w.cell? p:=bP (w:=w) (h.block p.block hp hs)
theorem Keep.frozen{w:World}(h:Keep S B w w'){p:Addr}(hp:p.block<B)(hs:¬S p.block):w'.frozen? p=w.frozen? p:=World.frozen?_of_block (w:=w) (h.block p.block hp hs)
theorem QF(w:World)(v:Value)(t:TypeId)(n:Nat)(hn:n=w.heap.size):(w.alloc (.cells #[v] t)).cell? ⟨n,0,none⟩=some v:=by subst hn;rw[y6];rfl
theorem qf(w:World)(o:Obj)(p:Addr)(h:p.block<w.heap.size):(w.alloc o).cell? p=w.cell? p:=World.cell?_alloc_lt _ _ _ h
structure lJ(b c:Nat)(ws:List Int)(made:Nat)(w:World):Prop where
 ne:b≠c
 hdr:w.cell? ⟨b,0,none⟩=some (.slice (some ⟨c,0,none⟩) ws.length ws.length)
 word:∀i,i<ws.length->w.cell? ⟨c,i,none⟩=some (.int .i64 (ws.getD i 0))/\w.frozen? ⟨c,i,none⟩=false
 all:∀d,d<8192->w.frozen? ⟨b,1+d,none⟩=false/\∃u,w.cell? ⟨b,1+d,none⟩=some u
 made:w.cell? ⟨b,8193,none⟩=some (.int .i64 made)
 madeF:w.frozen? ⟨b,8193,none⟩=false
 few:1<=ws.length/\ws.length<=64
def Words(ws:List Int):Prop:=∀i,i<ws.length->0<=ws.getD i 0/\ws.getD i 0<=1152921504606846975
theorem lJ.lt{made:Nat}{w:World}(h:lJ b c ws made w):b<w.heap.size/\c<w.heap.size:=by have h1:=h.hdr;have h2:=(h.word 0 (by have:=h.few;omega)).1;exact⟨dw w _ h1,dw w _ h2⟩
theorem xx(l:List Int)(i j:Nat)(y:Int)(hi:i<l.length):(l.set i y).getD j 0=if i=j then y else l.getD j 0:=by simp only[cQ,List.getElem?_set];split<;>simp_all
theorem lJ.set{made:Nat}{y:Int}{w:World}(h:lJ b c ws made w)(hi:i<ws.length):lJ b c (ws.set i y) made (w.setCell ⟨c,i,none⟩ (.int .i64 y)):=by
 obtain⟨hne,h1,h2,h3,h4,h5,h6⟩:=h;have ne1:∀o,(⟨c,i,none⟩:Addr)≠⟨b,o,none⟩:=λo e=>hne (by cases e;rfl);refine⟨hne,?_,?_,?_,?_,?_,by simpa using h6⟩
 ·rw[lK _ _ _ _ (ne1 _)];simpa using h1
 ·intro j hj;simp only[List.length_set]at hj;rw[y7];refine⟨?_,(h2 j hj).2⟩;rw[xx _ _ _ _ hi];by_cases e:i=j
  ·subst e;rw[if_pos rfl];exact World.cell?_setCell_same _ _ _ (h2 i hi).1
  ·rw[if_neg e,lK _ _ _ _ (λ(k:(⟨c,i,none⟩:Addr)=⟨c,j,none⟩)=>e (by cases k;rfl))];exact(h2 j hj).1
 ·intro d hd;rw[y7,lK _ _ _ _ (ne1 _)];exact h3 d hd
 ·rw[lK _ _ _ _ (ne1 _)];exact h4
 ·rw[y7];exact h5
theorem lJ.nR{made:Nat}{w:World}(h:lJ b c ws made w)(hb:w'.heap[b]? =w.heap[b]?)(hc:w'.heap[c]? =w.heap[c]?):lJ b c ws made w':=by obtain⟨hne,h1,h2,h3,h4,h5,h6⟩:=h;have kb:∀o,w'.cell? ⟨b,o,none⟩=w.cell? ⟨b,o,none⟩:=λo=>bP hb;have kc:∀o,w'.cell? ⟨c,o,none⟩=w.cell? ⟨c,o,none⟩:=λo=>bP hc;have fb:∀o,w'.frozen? ⟨b,o,none⟩=w.frozen? ⟨b,o,none⟩:=λo=>World.frozen?_of_block hb;have fc:∀o,w'.frozen? ⟨c,o,none⟩=w.frozen? ⟨c,o,none⟩:=λo=>World.frozen?_of_block hc;exact⟨hne,by rw[kb];exact h1,λi hi=>by rw[kc,fc];exact h2 i hi,λd hd=>by rw[kb,fb];exact h3 d hd,by rw[kb];exact h4,by rw[fb];exact h5,h6⟩
theorem lJ.keep{made:Nat}{w:World}(h:lJ b c ws made w)(hk:Keep S B w w')(hB:w.heap.size<=B)(hb:¬S b)(hc:¬S c):lJ b c ws made w':=h.nR (hk.block b (by have:=h.lt;omega) hb) (hk.block c (by have:=h.lt;omega) hc)
theorem lJ.drew{made:Nat}{w:World}(h:lJ b c ws made w):lJ b c ws made w.drew:=h.nR rfl rfl
theorem lJ.drewN{made n:Nat}{w:World}(h:lJ b c ws made w):lJ b c ws made (w.drewN n):=h.nR rfl rfl
theorem lJ.alloc{made:Nat}{w:World}(h:lJ b c ws made w)(o:Obj):lJ b c ws made (w.alloc o):=h.nR (eh _ _ _ h.lt.1) (eh _ _ _ h.lt.2)
theorem lJ.grown{made:Nat}{w:World}{row:Option Nat}(h:lJ b c ws made w)(hg:w.grownBy w' row)(hb:some b≠row)(hc:some c≠row):lJ b c ws made w':=h.nR (hg.block b h.lt.1 hb) (hg.block c h.lt.2 hc)
theorem Keep.grown{w:World}{row:Option Nat}(h:Keep S B a w)(hg:w.grownBy w' row)(hB:B<=w.heap.size)(hr:∀k,row=some k->B<=k):Keep S B a w':=h.trans ⟨hg.os,hg.tape,hg.output,hg.size,λk hk _=>hg.block k ae (λe=>by have:=hr k e.symm;omega)⟩
theorem np(b c n:Nat)(i:Int)(w:World)(hh:w.cell? ⟨b,0,none⟩=some (.slice (some ⟨c,0,none⟩) n n))(h0:0<=i)(h1:i<n):Calls prog 41 #[.pointer (some ⟨b,0,none⟩),.int .i64 i] w λe w'=>e=.returned (.bool true)/\w=w':=by
 have hd:decide (i< (n:Int))=true:=kO;go_enter func41,ntmps41
 go_wp2;go_ret
 exact⟨rfl,rfl⟩
theorem yF(b c n:Nat)(i:Int)(w:World)(hh:w.cell? ⟨b,0,none⟩=some (.slice (some ⟨c,0,none⟩) n n))(hi:¬(0<=i/\i<n)):Calls prog 41 #[.pointer (some ⟨b,0,none⟩),.int .i64 i] w λe w'=>e=.returned (.bool false)/\w=w':=by
 by_cases h0:0<=i
 ·have hd:decide (i< (n:Int))=false:=bV;clear hi;go_enter func41,ntmps41
  go_wp2;go_ret
  exact⟨rfl,rfl⟩
 ·clear hi;go_enter func41,ntmps41
  go_wp2;go_ret
  exact⟨rfl,rfl⟩
end
section
open Go
def y9(P:Program)(t:TypeId):Bool:=match P.underlying t with
 |some (.struct _)=>false
 |some (.array ..)=>false
 |some (.interface _)=>false
 |some .unsafePointer=>false
 |_=>true
def za(P:Program)(t:TypeId):Bool:=match P.underlying t with
 |some (.pointer _)=>true
 |_=>false
def rG(P:Program)(t:TypeId):Bool:=match P.underlying t with
 |some (.int _)=>true
 |_=>false
def Mi(P:Program)(t:TypeId):Bool:=match P.underlying t with
 |some (.struct fs)=>fs.all λf=>rG P f.type
 |some (.array _ e)=>rG P e
 |_=>false
def Fb(P:Program)(t:TypeId):Bool:=y9 P t||(Mi P t&&!P.eqGuardType P.depth t)
def uu(P:Program)(t:TypeId):Bool:=match P.underlying t with
 |some (.int _)=>true
 |some (.float _)=>true
 |_=>false
structure ba where
 L:Nat->Bool
 C:Nat->Bool
 X:Nat->Bool
 ft:Nat->Nat->Bool
 V:String->Bool:=λ_=>false
 fi:Nat->Nat->Bool:=λ_ _=>false
 I:Nat->Bool:=λ_=>false
 rt:Nat->Bool:=λ_=>false
 R:Bool:=false
def VF(S:ba):Value->Bool
 |.func (.func g) first _=>S.C g&&first.isEmpty
 |.func (.yield _) first _=>S.R&&first.isEmpty
 |.func .. =>false
 |_=>true
def VI(S:ba):Value->Bool
 |.func (.func g) first cap=>S.I g&&first.isEmpty&&decide (cap.size<=7)
 |.func .. =>false
 |_=>true
def VS(S:ba)(f t:Nat)(v:Value):Bool:=bif S.fi f t then VI S v else VF S v
def oU(S:ba)(f:Nat)(it:Bool):Operand->Bool
 |.tmp t=>S.ft f t&&(S.fi f t==it)
 |.const .nilFunc=>true
 |.func g=>bif it then S.I g else S.C g
 |_=>false
def zb(S:ba)(f g:Nat)(n:Nat)(args:Array Operand):Bool:=(List.range n).all λt=>!S.ft g t||((args[t]?).all (oU S f (S.fi g t)))
def Cs:Builtin->Bool
 |.append=>true
 |.cap=>true
 |.copy=>true
 |.len=>true
 |.max=>true
 |.min=>true
 |.recover=>true
 |_=>false
def QG(P:Program)(S:ba)(f:Nat)(c:Call):Bool:=match c.callee with
 |.value (.func g)=>S.X g||(S.L g&&zb S f g (((P.funcs[g]?).map (·.ntmps)).getD 0) c.args&&(c.args.size<=((P.funcs[g]?).map (·.ntmps)).getD 0))
 |.value x=>oU S f false x
 |.builtin b=>Cs b
 |.invoke _ m=>S.V m
def Mj(P:Program)(S:ba)(f:Nat)(c:Call):Bool:=match c.callee with
 |.value (.func g)=>S.L g&&zb S f g (((P.funcs[g]?).map (·.ntmps)).getD 0) c.args&&(c.args.size<=((P.funcs[g]?).map (·.ntmps)).getD 0)
 |.value (.tmp t)=>S.ft f t&&!S.fi f t&&!S.R
 |_=>false
def rI:Operand->Bool
 |.const (.pointer none)=>true
 |_=>false
def ze:Operand->Bool
 |.const (.int _ 0)=>true
 |_=>false
def QH:BinOp->Bool
 |.eql=>true
 |.neq=>true
 |_=>false
def I5(P:Program)(S:ba)(f:Nat)(free it:Bool):Op->Bool
 |.move x=>free||oU S f it x
 |.assign x=>free||oU S f it x
 |.makeFunc (.func g) first cap=>free||((bif it then S.I g&&decide (cap.size<=7)else S.C g) &&first.isEmpty)
 |.makeFunc .. =>free
 |.call c=>free&&QG P S f c
 |.binOp op t x y _=>free&&(!QH op||(Fb P t&&(!za P t||rI x||rI y)))
 |.convert s d _=>free&&uu P s&&uu P d
 |.pick .. =>free
 |.alloc _=>free
 |.box .. =>free
 |.build .. =>free
 |.buildSlice .. =>free
 |.load .. =>free
 |.store .. =>free
 |.nilCheck _=>free
 |.unOp .. =>free
 |.makeMap .. =>free
 |.makeSlice .. =>free
 |.slice .. =>free
 |.fieldAddr .. =>free
 |.field .. =>free
 |.indexAddr .. =>free
 |.index .. =>free
 |.extract .. =>free
 |.makeInterface .. =>free
 |.panic _=>free
 |.typeAssert .. =>free
 |.makeChan _ x=>free&&ze x
 |.defer c=>free&&Mj P S f c
 |.select _ b=>b
 |_=>false
def QI(P:Program)(S:ba)(f:Nat)(o:Oper):Bool:=match o.op,o.dst with
 |.call {callee:=.value (.func g),args:=xs,..},some d=>S.fi f d&&S.rt g&&!S.X g&&S.L g&&zb S f g (((P.funcs[g]?).map (·.ntmps)).getD 0) xs&&(xs.size<=((P.funcs[g]?).map (·.ntmps)).getD 0)
 |_,_=>false
def jK(S:ba)(f:Nat):Option Nat->Bool
 |some d=>!S.ft f d
 |none=>true
def UY(S:ba)(f:Nat):Option Nat->Bool
 |some d=>S.fi f d
 |none=>false
def eV(P:Program)(S:ba)(f:Nat)(o:Oper):Bool:=I5 P S f (jK S f o.dst) (UY S f o.dst) o.op||QI P S f o
def iJ(o:Oper):Bool:=match o.op with
 |.defer _=>false
 |.call {callee:=.builtin .recover,..}=>false
 |_=>true
def fM:Code->Bool
 |.region _ ops _=>ops.all iJ
 |.seq a b=>fM a&&fM b
 |.cond _ a b=>fM a&&fM b
 |.block _ b=>fM b
 |.loop b=>fM b
 |.scope b=>fM b
 |.rangeFunc .. =>false
 |_=>true
def cR(P:Program)(S:ba)(f:Nat):Code->Bool
 |.region _ ops _=>ops.all (eV P S f)
 |.seq a b=>cR P S f a&&cR P S f b
 |.cond _ a b=>cR P S f a&&cR P S f b
 |.block _ b=>cR P S f b
 |.loop b=>cR P S f b
 |.scope b=>cR P S f b
 |.rangeFunc g ps a b=>S.R&&oU S f true g&&ps.all (λt=>!S.ft f t) &&fM a&&fM b&&cR P S f a&&cR P S f b
 |_=>true
def lkL:List Nat:=[7,9,12,14,15,16,17,18,36,37,38,39,40,41,42,43,46,49,50,51,52,53,70,78,79,80,82,83,84,85,87,88,90,91,92,93,94,95,129,130,131,132,133,134,136,137,138,154,155,156,157,161,163,164,182,183,184]
def lkX:List Nat:=[81,126,152,153,162]
def lkC:List Nat:=[37,51,95]
def lkI:List Nat:=[92,184]
def aba:List Nat:=[50,183]
def zf:List (Nat×Nat):=[(19,38),(20,10),(21,13),(21,23),(36,1),(36,6),(43,0),(43,7),(49,0),(49,1),(49,6),(49,9),(50,2),(50,3),(78,1),(78,11),(90,0),(90,3),(91,1),(91,7),(92,0),(92,11),(94,1),(94,6),(136,1),(136,6),(137,2),(137,17),(137,26),(137,42),(137,59),(138,1),(138,11),(156,3),(156,22),(157,4),(157,40),(157,92),(157,158),(157,204),(157,218),(182,7),(183,4),(183,8),(184,0),(184,19)]
def Ys:List (Nat×Nat):=[(21,13),(49,0),(49,6),(50,2),(50,3),(90,0),(90,3),(136,1),(136,6),(182,7),(183,4),(183,8)]
noncomputable def xy:Program:=prog
def fq:ba:={L:=λg=>lkL.contains g,C:=λg=>lkC.contains g,X:=λg=>lkX.contains g,ft:=λg t=>zf.contains (g,t),fi:=λg t=>Ys.contains (g,t),I:=λg=>lkI.contains g,rt:=λg=>aba.contains g,R:=true}
def rJ:Code->Bool
 |.ret=>true
 |.exit _=>true
 |.goto _=>true
 |_=>false
def oV(P:Program)(S:ba)(l:Loop):Bool:=l.params.all (λt=>!S.ft l.fn t) &&fM l.assign&&fM l.body&&cR P S l.fn l.assign&&cR P S l.fn l.body&&(List.range l.tmps.size).all (λt=>!S.ft l.fn t||VS S l.fn t (l.tmps.getD t undef)) &&(match l.pending with
 |none=>true
 |some c=>rJ c)
noncomputable def UZ(l:Loop):Bool:=oV xy fq l
noncomputable def ej:Obj->Bool
 |.view .. =>false
 |.pending .. =>false
 |.loop l=>UZ l
 |.deferred (some ds)=>ds.isEmpty
 |.chan cap buf cl _ _ _=>cap==0&&buf.isEmpty&&!cl
 |_=>true
def bU:Obj->Bool
 |.number .. =>false
 |_=>true
def NE(_:List Frame):Prop:=True
def cI:Obj:=.view ⟨0,0,some 0⟩ 0
def zg(x y:Option Obj):Prop:=x=y\/∃c e f,x=some (.cells c e f)/\y=some (.cells c e (0,0))
structure Rel(H:Nat->Prop)(a r:World):Prop where
 size:a.heap.size=r.heap.size
 same:∀b,¬H b->zg a.heap[b]? r.heap[b]?
 hid:∀b,H b->a.heap[b]? =some cI/\∃o,r.heap[b]? =some o/\bU o=true
 objs:∀(b:Nat),¬H b->∀o,a.heap[b]? =some o->ej o=true
 os:a.os=r.os
 output:a.output=r.output
def Fc(H:Nat->Prop)(e:Event):Prop:=match e.loc with
 |.cell a=>¬H a.block
 |.obj b=>¬H b\/e.write=false
 |.mark (.extern _)=>True
 |.mark .noRoom=>True
 |.output=>True
 |_=>False
def pH(a a' r:World):Prop:=∀i q,a.drawn+i<a'.drawn->a.tape (a.drawn+i) q=r.tape (r.drawn+i) q
def Mk(w w':World):Prop:=(∀(b:Nat) c e f,w.heap[b]? =some (.cells c e f)->∃c',c'.size=c.size/\w'.heap[b]? =some (.cells c' e f))/\∀(b:Nat) x l,w.heap[b]? =some (.number x l)->w'.heap[b]? =some (.number x l)
theorem cJ(w:World):Mk w w:=⟨λ_ c _ _ h=>⟨c,rfl,h⟩,λ_ _ _ h=>h⟩
theorem Mk.trans{b c:World}(h:Mk a b)(k:Mk b c):Mk a c:=⟨λx y e f hx=>by obtain⟨_,h0,h1⟩:=h.1 x y e f hx;obtain⟨c2,h2,h3⟩:=k.1 _ _ _ _ h1;exact⟨c2,h2.trans h0,h3⟩,λx y l hx=>k.2 _ _ _ (h.2 x y l hx)⟩
theorem Ml(w:World)(x:Addr)(v:Value):Mk w (w.setCell x v):=by
 refine⟨λb c e f h=>?_,λb y l h=>?_⟩;all_goals simp only[World.setCell,Array.getElem?_modify]
 all_goals split
 all_goals rw[h]
 ·refine⟨_,?_,rfl⟩;split<;>simp
 ·exact⟨_,rfl,rfl⟩
 ·rfl
theorem Fe(w:World)(o:Obj):Mk w {w with heap:=w.heap.push o}:=by
 have:∀(b:Nat) o',w.heap[b]? =some o'->(w.heap.push o)[b]? =some o':=λb o' h=>by have hlt:=(aQ.1 h).1;rw[cF,if_neg ae];exact h
 exact⟨λb c e f h=>⟨c,rfl,this b _ h⟩,λb y l h=>this b _ h⟩
structure Went(H:Nat->Prop)(es:Array Event)(a a' r r':World)(er:Array Event):Prop where
 rel:Rel H a' r'
 tape:r'.tape=r.tape
 drawn:r'.drawn=r.drawn+(a'.drawn-a.drawn)
 hidden:∀b,H b->r'.heap[b]? =r.heap[b]?
 evs:∀e∈er,e∈es\/Fc H e
 evin:∀e∈er,e∈es\/∀x,e.loc=.cell x->x.block<r'.heap.size
 grow:r.heap.size<=r'.heap.size
 eqk:∀b,¬H b->(b<a.heap.size->a.heap[b]? =r.heap[b]?)->a'.heap[b]? =r'.heap[b]?
 kept:∀x,a.frozen? x=true->r'.cell? x=r.cell? x/\a'.frozen? x=true
 rov:∀e∈er,e∈es\/∀x,e.loc=.cell x->e.write=true->a.frozen? x=false
 growa:a.heap.size<=a'.heap.size
 shp:Mk a a'
 shpr:Mk r r'
 same:r'.os=r.os/\r'.output=r.output
def iA:Halt->Bool
 |.unsupported (.initOrder _)=>false
 |.unsupported _=>true
 |.stuck _=>true
 |_=>false
def Match(H:Nat->Prop)(post:α->Prop)(a r:World)(es:Array Event)(x y:Result α×Array Event):Prop:=match x.1 with
 |.ok v a'=>post v/\a'.tape=a.tape/\a.drawn<=a'.drawn/\(pH a a' r->∃r' er,y=(.ok v r',er)/\Went H es a a' r r' er)
 |.halt (.panic v) a'=>a'.tape=a.tape/\a.drawn<=a'.drawn/\(pH a a' r->∃r' er,y=(.halt (.panic v) r',er)/\Went H es a a' r r' er)
 |.halt h _=>iA h=true
def Simu(H:Nat->Prop)(P:Program)(post:α->Prop)(x:Sem α):Prop:=∀a r ea es,Rel H a r->Match H post a r es (x.runT P a ea) (x.runT P r es)
def gG(H:Nat->Prop)(P:Program)(x:Sem α):Prop:=∀a r ea,Rel H a r->∃hh a' e',x.runT P a ea=(.halt hh a',e')/\iA hh=true
section
variable{P:Program}{p:α->Prop}{q:β->Prop}
theorem lD(x:Sem α)(f:α->Sem β):∀(w:World) (es:Array Event),(x >>= f).runT P w es=match x.runT P w es with
  |(.ok v w',es')=>(f v).runT P w' es'
  |(.halt h w',es')=>(.halt h w',es'):=by
 show∀(w:World) (es:Array Event),(x.bind f).runT P w es=_;induction x with
 |pure a=>intro w es;rfl
 |halt h=>intro w es;rfl
 |load m a k ih=>
  intro w es;simp only[Sem.bind,Sem.runT];split
  ·exact ih _ _ _
  ·split
   ·exact ih _ _ _
   ·rfl
 |store m a v k ih=>intro w es;cases v<;>simp only[Sem.bind,Sem.runT] <;>(first|rfl|skip) <;>(split<;>(first|(split<;>first|rfl|exact ih _ _)|rfl))
 |new o k ih=>intro w es;exact ih _ _ _
 |shape r k ih=>intro w es;exact ih _ _ _
 |freeze a n k ih=>intro w es;exact ih _ _
 |frozen a k ih=>intro w es;exact ih _ _ _
 |getObj r k ih=>intro w es;simp only[Sem.bind,Sem.runT];split<;>first|rfl|exact ih _ _ _
 |setObj r o k ih=>intro w es;simp only[Sem.bind,Sem.runT];split<;>first|rfl|exact ih _ _
 |choose q k ih=>intro w es;simp only[Sem.bind,Sem.runT];split<;>exact ih _ _ _
 |sys c k ih=>intro w es;exact ih _ _ _
 |program k ih=>intro w es;exact ih _ _ _
 |mark m k ih=>intro w es;exact ih _ _
theorem gG.match(h:gG H P x){r:World}(hR:Rel H a r)(ea es:Array Event)(y:Result α×Array Event):Match H p a r es (x.runT P a ea) y:=by
 obtain⟨hh,a',e',e,hd⟩:=h a r ea hR;rw[e];cases hh with
 |panic v=>cases hd
 |_=>exact hd
theorem gG.nS(h:gG H P x):Simu H P p x:=λ_ _ _ _ hR=>h.match hR _ _ _
theorem gG.bind{f:α->Sem β}(hx:gG H P x):gG H P (x >>= f):=by intro a r ea hR;obtain⟨hh,a',e',e,hd⟩:=hx a r ea hR;rw[lD,e];exact⟨_,_,_,rfl,hd⟩
theorem Simu.Ny{f:α->Sem β}(hx:Simu H P p x)(hnp:∀a ea v a' e',x.runT P a ea≠(.halt (.panic v) a',e'))(hf:∀v,p v->gG H P (f v)):gG H P (x >>= f):=by
 intro a r ea hR;have hm:=hx a a ea ea ⟨rfl,λ_ _=>.inl rfl,λb hb=>⟨(hR.hid b hb).1,_,(hR.hid b hb).1,rfl⟩,hR.objs,rfl,rfl⟩;rw[lD];have abb:=hnp a ea;generalize x.runT P a ea=X at hm abb;obtain⟨rx,ex⟩:=X;cases rx with
 |ok v a'=>obtain⟨hv,h1,h2,h3⟩:=hm;obtain⟨r',er,hr,hw⟩:=h3 (λ_ _ _=>rfl);exact hf v hv a' r' ex hw.rel
 |halt hh a'=>
  cases hh with
  |panic v=>exact absurd rfl (abb v a' ex)
  |_=>exact⟨_,_,_,rfl,hm⟩
theorem pH.left{r:World}(h:pH a a₂ r)(hle:a₁.drawn<=a₂.drawn):pH a a₁ r:=λi q hi=>h i q ae
theorem pH.right{r:World}{es:Array Event}(h:pH a a₂ r)(h0:a.drawn<=a₁.drawn)(ht:a₁.tape=a.tape)(hw:Went H es a a₁ r r₁ er):pH a₁ a₂ r₁:=λi q hi=>by rw[ht,hw.tape,hw.drawn];have:=h (a₁.drawn-a.drawn+i) q ae;rw[show a.drawn+(a₁.drawn-a.drawn+i)=a₁.drawn+i by omega]at this;rw[this,Nat.add_assoc]
theorem Went.trans{r r₂:World}{es WY:Array Event}(h0:a.drawn<=a₁.drawn)(U1:a₁.drawn<=a₂.drawn)(h1:Went H es a a₁ r r₁ er)(h2:Went H er a₁ a₂ r₁ r₂ WY):Went H es a a₂ r r₂ WY:=
 ⟨h2.rel,h2.tape.trans h1.tape,by rw[h2.drawn,h1.drawn];omega,λb hb=>(h2.hidden b hb).trans (h1.hidden b hb),λe he=>(h2.evs e he).elim (h1.evs e) .inr,λe he=>(h2.evin e he).elim (λhe=>(h1.evin e he).imp id λh x hx=>fp (h x hx) h2.grow) .inr,cn h1.grow h2.grow,
  λb hb h=>h2.eqk b hb λ_=>h1.eqk b hb h,λx hx=>⟨(h2.kept x (h1.kept x hx).2).1.trans (h1.kept x hx).1,(h2.kept x (h1.kept x hx).2).2⟩,
  λe he=>(h2.rov e he).elim (h1.rov e) (λh=>.inr λx h1' zh=>by
   cases hf:a.frozen? x with
   |false=>rfl
   |true=>have:=(h1.kept x hf).2;rw[h x h1' zh]at this;cases this),cn h1.growa h2.growa,h1.shp.trans h2.shp,h1.shpr.trans h2.shpr,h2.same.1.trans h1.same.1,h2.same.2.trans h1.same.2⟩
theorem Simu.bind{f:α->Sem β}(hx:Simu H P p x)(hf:∀v,p v->Simu H P q (f v)):Simu H P q (x >>= f):=by
 intro a r Mm es h;have h1:=hx a r Mm es h;have h1s:=hx a a Mm Mm ⟨rfl,λ_ _=>.inl rfl,λb hb=>⟨(h.hid b hb).1,_,(h.hid b hb).1,rfl⟩,h.objs,rfl,rfl⟩;rw[lD,lD];generalize x.runT P a Mm=X at h1 h1s;obtain⟨ra,ea⟩:=X;cases ra with
 |ok v a'=>
  obtain⟨hv,ht,hd,hr⟩:=h1;obtain⟨_,_,_,hs⟩:=h1s;obtain⟨rs,_,_,Nz⟩:=hs (λ_ _ _=>rfl);have bf:Rel H a' a':=⟨rfl,λ_ _=>.inl rfl,λb hb=>⟨(Nz.rel.hid b hb).1,_,(Nz.rel.hid b hb).1,rfl⟩,Nz.rel.objs,rfl,rfl⟩;have h2s:=hf v hv a' a' ea ea bf;have h2:=λr' er (hw:Went H es a a' r r' er)=>hf v hv a' r' ea er hw.rel;simp only;generalize (f v).runT P a' ea=Y at h2 h2s;obtain⟨rb,eb⟩:=Y;cases rb with
  |ok u a2=>obtain⟨hu,U2,Ct,_⟩:=h2s;refine⟨hu,U2.trans ht,ae,λfB=>?_⟩;obtain⟨r',er,e,hw⟩:=hr (fB.left Ct);rw[e];obtain⟨_,_,_,h3⟩:=h2 r' er hw;obtain⟨r2,U4,e2,hw2⟩:=h3 (fB.right hd ht hw);exact⟨r2,U4,e2,hw.trans hd Ct hw2⟩
  |halt hh a2=>
   cases hh with
   |panic u=>obtain⟨U2,Ct,_⟩:=h2s;refine⟨U2.trans ht,ae,λfB=>?_⟩;obtain⟨r',er,e,hw⟩:=hr (fB.left Ct);rw[e];obtain⟨_,_,h3⟩:=h2 r' er hw;obtain⟨r2,U4,e2,hw2⟩:=h3 (fB.right hd ht hw);exact⟨r2,U4,e2,hw.trans hd Ct hw2⟩
   |_=>exact h2s
 |halt hh a'=>
  cases hh with
  |panic u=>obtain⟨ht,hd,hr⟩:=h1;refine⟨ht,hd,λfB=>?_⟩;obtain⟨r',er,e,hw⟩:=hr fB;rw[e];exact⟨r',er,rfl,hw⟩
  |_=>exact h1
theorem Simu.mono(hx:Simu H P p x)(h:∀v,p v->p' v):Simu H P p' x:=by
 intro a r ea es hR;have h1:=hx a r ea es hR;generalize x.runT P a ea=X at h1⊢;obtain⟨ra,ea⟩:=X;cases ra with
 |ok v a'=>exact⟨h v h1.1,h1.2⟩
 |halt hh a'=>cases hh<;>exact h1
theorem Mn{r:World}{x:Addr}(h:zg a.heap[x.block]? r.heap[x.block]?):a.cell? x=r.cell? x:=by
 rcases h with h|⟨c,e,f,h1,h2⟩
 ·simp[World.cell?,h]
 ·simp[World.cell?,h1,h2]
theorem Cu{r:World}{x:Addr}(h:zg a.heap[x.block]? r.heap[x.block]?)(hf:a.frozen? x=false):r.frozen? x=false:=by
 rcases h with h|⟨c,e,f,h1,h2⟩
 ·simpa[World.frozen?,h]using hf
 ·simp[World.frozen?,h2]
theorem zi{r:World}(h:zg a.heap[b]? r.heap[b]?):a.shape? b=r.shape? b:=by
 rcases h with h|⟨c,e,f,h1,h2⟩
 ·simp[World.shape?,h]
 ·simp[World.shape?,h1,h2]
theorem Rel.cell{r:World}(h:Rel H a r)(x:Addr)(hx:H x.block):a.cell? x=none:=by simp[World.cell?,(h.hid _ hx).1,cI]
theorem Cv{x:Addr}{u:TypeId}{at_:Bool}{s:Addr}(hs:s.spot.isSome=true):∃why,a.seen P s u x at_=.error why:=by unfold World.seen;simp only[hs,Bool.or_true,if_true];exact⟨_,rfl⟩
theorem Rel.far{r:World}(h:Rel H a r)(x:Addr)(at_:Bool):∃hh,a.farLoad P x at_=.error hh/\iA hh=true:=by
 unfold World.farLoad;split
 ·rename_i s u e;by_cases hx:H x.block
  ·rw[(h.hid _ hx).1]at e;have e1:(⟨0,0,some 0⟩:Addr)=s:=(by injection e with e;injection e);obtain⟨why,hw⟩:=Cv (P:=P) (a:=a) (x:=x) (u:=u) (at_:=at_) (s:=s) (by rw[←e1];rfl);simp only[World.viewLoad,hw];exact⟨_,rfl,rfl⟩
  ·have:=h.objs _ hx _ e;cases this
 ·refine⟨_,rfl,?_⟩;unfold World.noCell;split
  ·rename_i e;by_cases hx:H x.block
   ·rw[(h.hid _ hx).1]at e;cases e
   ·have:=h.objs _ hx _ e;cases this
  ·rfl
  ·rfl
theorem Rel.adp{r:World}(h:Rel H a r)(x:Addr)(v:Value)(at_:Bool):∃hh,a.farStore P x v at_=.error hh/\iA hh=true:=by
 unfold World.farStore;split
 ·rename_i s u e;by_cases hx:H x.block
  ·rw[(h.hid _ hx).1]at e;have e1:(⟨0,0,some 0⟩:Addr)=s:=(by injection e with e;injection e);obtain⟨why,hw⟩:=Cv (P:=P) (a:=a) (x:=x) (u:=u) (at_:=at_) (s:=s) (by rw[←e1];rfl);simp only[World.viewStore,hw];by_cases ht:tight P P.depth u=true
   ·simp only[ht];exact⟨_,rfl,rfl⟩
   ·simp only[ht];exact⟨_,rfl,rfl⟩
  ·have:=h.objs _ hx _ e;cases this
 ·refine⟨_,rfl,?_⟩;unfold World.noCell;split
  ·rename_i e;by_cases hx:H x.block
   ·rw[(h.hid _ hx).1]at e;cases e
   ·have:=h.objs _ hx _ e;cases this
  ·rfl
  ·rfl
theorem Rel.set{r:World}(h:Rel H a r){x:Addr}(hx:¬H x.block)(v:Value):Rel H (a.setCell x v) (r.setCell x v):=by
 have hg:∀(w:World) b,(w.setCell x v).heap[b]? =if x.block=b then(w.heap[b]?).map (fun|.cells c elem frozen=>.cells (if x.spot.isSome then c else c.setIfInBounds x.off v) elem frozen|o=>o)else w.heap[b]? :=by intro w b;simp only[World.setCell,Array.getElem?_modify];split<;>rfl
 have hn:∀b,H b->x.block≠b:=λb hb e=>hx (by rw[e];exact hb);refine⟨by simp[World.setCell,h.size],λb hb=>?_,λb hb=>?_,λb hb o ho=>?_,h.os,h.output⟩
 ·rw[hg,hg];split
  ·rcases h.same b hb with h|⟨c,e,f,h1,h2⟩
   ·exact .inl (by rw[h])
   ·exact .inr ⟨_,e,f,by rw[h1];rfl,by rw[h2];rfl⟩
  ·exact h.same b hb
 ·rw[hg,hg,if_neg (hn b hb),if_neg (hn b hb)];exact h.hid b hb
 ·rw[hg]at ho;split at ho
  ·obtain⟨o',h1,rfl⟩:=km.1 ho;have:=h.objs b hb o' h1;cases o'<;>simp_all [ej]
  ·exact h.objs b hb o ho
theorem Rel.obj{r:World}(h:Rel H a r)(hb:¬H b){o:Obj}(ho:ej o=true):Rel H {a with heap:=a.heap.setIfInBounds b o} {r with heap:=r.heap.setIfInBounds b o}:=by
 have hg:∀(w:World) x,x≠b->(w.heap.setIfInBounds b o)[x]? =w.heap[x]? :=λw x hx=>eH (λe=>hx e.symm);have hb':∀x,H x->x≠b:=λx hx e=>hb (e▸hx);refine⟨by simp[h.size],λx hx=>?_,λx hx=>?_,λx hx o' hxo=>?_,h.os,h.output⟩
 ·by_cases e:x=b
  ·subst e;exact .inl (by simp[Ff,h.size])
  ·show zg (a.heap.setIfInBounds b o)[x]? (r.heap.setIfInBounds b o)[x]?;rw[hg a x e,hg r x e];exact h.same x hx
 ·show(a.heap.setIfInBounds b o)[x]? =_/\∃o',(r.heap.setIfInBounds b o)[x]? =_/\_;rw[hg a x (hb' x hx),hg r x (hb' x hx)];exact h.hid x hx
 ·by_cases e:x=b
  ·subst e;have hlt:=(aQ.1 hxo).1;have:(a.heap.setIfInBounds x o)[x]? =some o:=fD (by simpa using hlt);rw[this]at hxo;exact(aP hxo)▸ho
  ·have lL:(a.heap.setIfInBounds b o)[x]? =some o':=hxo;rw[hg a x e]at lL;exact h.objs x hx o' lL
theorem Rel.lt{r:World}(h:Rel H a r)(hb:H b):b<r.heap.size:=by rw[←h.size];exact(aQ.1 (h.hid b hb).1).1
theorem Rel.new{r:World}(h:Rel H a r){o:Obj}(ho:ej o=true):Rel H {a with heap:=a.heap.push o} {r with heap:=r.heap.push o}:=by
 have hg:∀(w:World) x,x<w.heap.size->(w.heap.push o)[x]? =w.heap[x]? :=λw x hx=>by rw[cF];simp[show x≠w.heap.size by omega]
 refine⟨by simp[h.size],λx hx=>?_,λx hx=>?_,λx hx o' hxo=>?_,h.os,h.output⟩
 ·show zg (a.heap.push o)[x]? (r.heap.push o)[x]?;rw[cF,cF,h.size];split
  ·exact .inl rfl
  ·exact h.same x hx
 ·show(a.heap.push o)[x]? =_/\∃o',(r.heap.push o)[x]? =_/\_;rw[hg a x (by rw[h.size];exact h.lt hx),hg r x (h.lt hx)];exact h.hid x hx
 ·have lL:(a.heap.push o)[x]? =some o':=hxo;rw[cF]at lL;split at lL
  ·exact(aP lL)▸ho
  ·exact h.objs x hx o' lL
theorem gH{r:World}(h:Rel H a r):∀b,¬H b->(b<a.heap.size->a.heap[b]? =r.heap[b]?)->a.heap[b]? =r.heap[b]? :=λb _ hb=>by
 by_cases e:b<a.heap.size
 ·exact hb e
 ·rw[kP ae,kP (by rw[←h.size];omega)]
theorem iN{r:World}(h:Rel H a r)(es:Array Event):Went H es a a r r es:=⟨h,rfl,au,λ_ _=>rfl,λ_ h=>.inl h,λ_ h=>.inl h,aY _,gH h,λx hx=>⟨rfl,hx⟩,λ_ h=>.inl h,aY _,cJ _,cJ _,rfl,rfl⟩
theorem iK{w:World}{x:Addr}(h:w.cell? x=some v):x.block<w.heap.size:=by
 unfold World.cell? at h;cases e:w.heap[x.block]? with
 |none=>rw[e]at h;simp at h
 |some o=>exact(aQ.1 e).1
theorem simu_pure{v:α}(h:p v):Simu H P p (pure v):=λ_ r _ es hR=>⟨h,rfl,aY _,λ_=>⟨r,es,rfl,iN hR es⟩⟩
theorem dead_halt(hd:iA h=true):gG H P (.halt h:Sem α):=λ_ _ _ _=>⟨_,_,_,rfl,hd⟩
theorem simu_panic(v:Value):Simu H P p (.halt (.panic v):Sem α):=λ_ r _ es hR=>⟨rfl,aY _,λ_=>⟨r,es,rfl,iN hR es⟩⟩
theorem simu_program:Simu H P (· =P) program:=λ_ r _ es hR=>⟨rfl,rfl,aY _,λ_=>⟨r,es,rfl,iN hR es⟩⟩
theorem Cw{x:Addr}{m:Mode}(hx:H x.block):gG H P (load x m):=by intro a r ea hR;obtain⟨hh,e,hd⟩:=hR.far (P:=P) x (m==.atomic);simp only[load,Sem.runT,hR.cell x hx,e];exact⟨_,_,_,rfl,hd⟩
theorem vS(x:Addr)(m:Mode):Simu H P (λ_=>True) (load x m):=by
 by_cases hx:H x.block
 ·exact(Cw hx).nS
 ·intro a r ea es hR;have e:=Mn (hR.same _ hx);simp only[load,Sem.runT,←e];cases hc:a.cell? x with
  |some v=>exact⟨trivial,rfl,aY _,λ_=>⟨_,_,rfl,hR,rfl,au,λ_ _=>rfl,λe he=>(gA.1 he).imp id (λh=>by subst h;exact hx),λe he=>(gA.1 he).imp id (λh y hy=>by subst h;cases hy;rw[←hR.size];exact iK hc),aY _,gH hR,λy hy=>⟨rfl,hy⟩,λe he=>(gA.1 he).imp id (λh y hy hw=>by subst h;cases hw),aY _,cJ _,cJ _,rfl,rfl⟩⟩
  |none=>
   obtain⟨hh,e,hd⟩:=hR.far (P:=P) x (m==.atomic);simp only[e];cases hh with
   |panic v=>cases hd
   |_=>exact hd
theorem lM(x:Addr)(v:Value)(m:Mode):Simu H P (λ_=>True) (store x v m):=by
 intro a r ea es hR;have far:∀y,Match H (λ_:Unit=>True) a r es (match a.farStore P x v (m==.atomic)with
     |.ok (w,uv)=>(Sem.pure ()).runT P w (ea++uv.toArray.map (⟨.cell ·,true,m==.atomic⟩))
     |.error h=>(.halt h a,ea)) y:=by
  intro y;obtain⟨hh,e,hd⟩:=hR.adp (P:=P) x v (m==.atomic);simp only[e];cases hh with
  |panic v=>cases hd
  |_=>exact hd
 have key:Match H (λ_:Unit=>True) a r es (match a.cell? x with
   |some _=>if a.frozen? x then(.halt (.unsupported (.unsafePointer "a write to bytes that a string shares")) a,ea)else(Sem.pure ()).runT P (a.setCell x v) (ea.push ⟨.cell x,true,m==.atomic⟩)
   |none=>match a.farStore P x v (m==.atomic)with
    |.ok (w,uv)=>(Sem.pure ()).runT P w (ea++uv.toArray.map (⟨.cell ·,true,m==.atomic⟩))
    |.error h=>(.halt h a,ea)) (match r.cell? x with
   |some _=>if r.frozen? x then(.halt (.unsupported (.unsafePointer "a write to bytes that a string shares")) r,es)else(Sem.pure ()).runT P (r.setCell x v) (es.push ⟨.cell x,true,m==.atomic⟩)
   |none=>match r.farStore P x v (m==.atomic)with
    |.ok (w,uv)=>(Sem.pure ()).runT P w (es++uv.toArray.map (⟨.cell ·,true,m==.atomic⟩))
    |.error h=>(.halt h r,es)):=by
  by_cases hx:H x.block
  ·simp only[hR.cell x hx];exact far _
  ·have e:=Mn (hR.same _ hx);simp only[←e];cases hc:a.cell? x with
   |some afx=>
    by_cases hf:a.frozen? x=true
    ·simp only[hf,if_true];exact rfl
    ·have U5:a.frozen? x=false:=(by simpa using hf);have hf1:=Cu (hR.same _ hx) U5;simp only[hf,hf1,if_false,dS];refine⟨trivial,rfl,aY _,λ_=>⟨_,_,rfl,hR.set hx v,rfl,gF,λb hb=>?_,λe he=>(gA.1 he).imp id (λh=>by subst h;exact hx),λe he=>(gA.1 he).imp id (λh y hy=>by subst h;cases hy;simp only[World.setCell,uw];rw[←hR.size];exact iK hc),gF,λb hb IE=>?_,λy hy=>⟨lK _ _ _ _ (λe=>by subst e;rw[U5]at hy;cases hy),by rw[y7];exact hy⟩,λe he=>(gA.1 he).imp id (λh y hy hw=>by subst h;cases hy;exact U5),gF,Ml _ _ _,Ml _ _ _,rfl,rfl⟩⟩;rotate_left
     ·simp only[World.setCell,Array.getElem?_modify];rw[gH hR b hb IE]
     simp only[World.setCell,Array.getElem?_modify];rw[if_neg (λe=>hx (by rw[e];exact hb))]
   |none=>exact far _
 cases v<;>first|exact key|exact rfl
theorem ko{o:Obj}(ho:ej o=true):Simu H P (λ_=>True) (newObj o):=by
 intro a r ea es hR;have hn:=hR.new ho;have e:a.heap.size=r.heap.size:=hR.size;refine⟨trivial,rfl,aY _,λ_=>⟨{r with heap:=r.heap.push o},es,by rw[e];rfl,hn,rfl,au,λb hb=>?_,λ_ h=>.inl h,λ_ h=>.inl h,au,λb hb IE=>?_,λx hx=>?_,λ_ h=>.inl h,au,Fe _ _,Fe _ _,rfl,rfl⟩⟩;rotate_left
 ·show(a.heap.push o)[b]? =(r.heap.push o)[b]?;rw[cF,cF,e,gH hR b hb IE]
 ·have hlt:x.block<a.heap.size:=by
   unfold World.frozen? at hx;cases e:a.heap[x.block]? with
   |none=>rw[e]at hx;simp at hx
   |some o=>exact(aQ.1 e).1
  have ha:(a.heap.push o)[x.block]? =a.heap[x.block]? :=by rw[cF,if_neg ae]
  have hr:(r.heap.push o)[x.block]? =r.heap[x.block]? :=by rw[cF,if_neg ae]
  refine⟨?_,?_⟩
  ·simp only[World.cell?,hr]
  ·rw[←hx];simp only[World.frozen?,ha]
 have:=hR.lt hb;show(r.heap.push o)[b]? =_;rw[cF];simp[show b≠r.heap.size by omega]
theorem vT{m:Mark}(hm:Fc H ⟨.mark m,false,true⟩):Simu H P (λ_=>True) (mark m):=λ_ r _ es hR=>⟨trivial,rfl,aY _,λ_=>⟨r,_,rfl,hR,rfl,au,λ_ _=>rfl,λe he=>(gA.1 he).imp id (λh=>by subst h;exact hm),λe he=>(gA.1 he).imp id (λh y hy=>xz),aY _,gH hR,λy hy=>⟨rfl,hy⟩,λe he=>(gA.1 he).imp id (λh y hy=>xz),aY _,cJ _,cJ _,rfl,rfl⟩⟩
theorem iO(q:Question):Simu H P (λ_=>True) (choose q):=by
 intro a r ea es hR;by_cases hq:q.forced=true
 ·simp only[choose,Sem.runT,hq,if_true];exact simu_pure (P:=P) (p:=λ_=>True) trivial a r ea es hR
 ·simp only[choose,Sem.runT,hq,if_false,dS];refine⟨trivial,rfl,Nat.le_succ _,λfB=>⟨{r with drawn:=r.drawn+1},es,?_,⟨hR.size,hR.same,hR.hid,hR.objs,hR.os,hR.output⟩,rfl,?_,λ_ _=>rfl,λ_ h=>.inl h,λ_ h=>.inl h,aY _,gH hR,λy hy=>⟨rfl,hy⟩,λ_ h=>.inl h,aY _,cJ _,cJ _,rfl,rfl⟩⟩
  ·have:=fB 0 q au;simp only[Nat.add_zero]at this;rw[this]
  ·show r.drawn+1=r.drawn+(a.drawn+1-a.drawn);omega
theorem simu_shape{k:Option (TypeId×Nat)->Sem α}(h:¬H b->∀s,Simu H P p (k s))(hd:H b->gG H P (k none)):Simu H P p (shape b >>= k):=by
 by_cases hx:H b
 ·intro a r ea es hR;have e:a.shape? b=none:=by simp[World.shape?,(hR.hid b hx).1,cI]
  have e2:∀w es,(shape b >>= k).runT P w es=(k (w.shape? b)).runT P w es:=λ_ _=>rfl;rw[e2,e];exact(hd hx).match hR _ _ _
 ·intro a r ea es hR;have e2:∀w es,(shape b >>= k).runT P w es=(k (w.shape? b)).runT P w es:=λ_ _=>rfl;rw[e2,e2,zi (hR.same _ hx)];exact h hx _ a r ea es hR
theorem Fg{x:Addr}{k:Bool->Sem α}(h:¬H x.block->Simu H P p (k false))(ht:¬H x.block->gG H P (k true))(hd:H x.block->gG H P (k false)):Simu H P p (frozen x >>= k):=by
 have e2:∀w es,(frozen x >>= k).runT P w es=(k (w.frozen? x)).runT P w es:=λ_ _=>rfl;by_cases hx:H x.block
 ·intro a r ea es hR;have e:a.frozen? x=false:=by simp[World.frozen?,(hR.hid _ hx).1,cI]
  rw[e2,e];exact(hd hx).match hR _ _ _
 ·intro a r ea es hR;rw[e2,e2];cases hf:a.frozen? x with
  |true=>exact(ht hx).match hR _ _ _
  |false=>rw[Cu (hR.same _ hx) hf];exact h hx a r ea es hR
theorem kq{k:Obj->Sem α}(h:¬H b->∀s,ej s=true->Simu H P p (k s))(hd:H b->gG H P (k cI)):Simu H P p (getObj b >>= k):=by
 have e2:∀w es,(getObj b >>= k).runT P w es=match w.heap[b]? with
  |some (.cells ..)=>(.halt (.stuck "getObj: a row of cells") w,es)
  |some o=>(k o).runT P w (es.push ⟨.obj b,false,o.isChan⟩)
  |none=>(.halt (.stuck "getObj: no such block") w,es):=λw es=>by
  show Sem.runT P (.getObj b λo=>k o) w es=_;simp only[Sem.runT];rfl
 by_cases hx:H b
 ·intro a r ea es hR;rw[e2,(hR.hid _ hx).1];exact(hd hx).match hR _ _ _
 ·intro a r ea es hR;have lN:∀c e f,a.heap[b]? =some (.cells c e f)->Match H p a r es ((getObj b >>= k).runT P a ea) ((getObj b >>= k).runT P r es):=λc e f ho=>by rw[e2,ho];exact rfl
  rcases hR.same _ hx with hsame|⟨c,e,f,h1,_⟩
  rotate_left
  ·exact lN _ _ _ h1
  rw[e2,e2,←hsame];cases ho:a.heap[b]? with
  |none=>exact rfl
  |some o=>
   have key:Match H p a r es ((k o).runT P a (ea.push ⟨.obj b,false,o.isChan⟩)) ((k o).runT P r (es.push ⟨.obj b,false,o.isChan⟩)):=by
    have h1:=h hx o (hR.objs b hx o ho) a r (ea.push ⟨.obj b,false,o.isChan⟩) (es.push ⟨.obj b,false,o.isChan⟩) hR;generalize (k o).runT P a (ea.push ⟨.obj b,false,o.isChan⟩)=X at h1;have hw:∀a' r' er,Went H (es.push ⟨.obj b,false,o.isChan⟩) a a' r r' er->Went H es a a' r r' er:=λa' r' er hw=>⟨hw.rel,hw.tape,hw.drawn,hw.hidden,λe he=>by
     rcases hw.evs e he with he|he
     ·exact(gA.1 he).imp id λh=>by subst h;exact .inl hx
     ·exact .inr he,λe he=>by
     rcases hw.evin e he with he|he
     ·exact U6
     ·exact .inr he,hw.grow,hw.eqk,hw.kept,λe he=>by
     rcases hw.rov e he with he|he
     ·exact U6
     ·exact .inr he,hw.growa,hw.shp,hw.shpr,hw.same⟩
    obtain⟨rx,ex⟩:=X;cases rx with
    |ok v a'=>exact⟨h1.1,h1.2.1,h1.2.2.1,λfB=>(h1.2.2.2 fB).imp λr' ⟨er,e,h⟩=>⟨er,e,hw _ _ _ h⟩⟩
    |halt hh a'=>
     cases hh with
     |panic v=>exact⟨h1.1,h1.2.1,λfB=>(h1.2.2 fB).imp λr' ⟨er,e,h⟩=>⟨er,e,hw _ _ _ h⟩⟩
     |_=>exact h1
   cases o<;>first|exact rfl|exact key
theorem j9(b:Nat):Simu H P (λ_=>True) (numberAt b):=by
 by_cases hx:H b
 ·intro a r ea es hR;obtain⟨h1,o,h2,h3⟩:=hR.hid b hx;have e2:∀(w:World) es,w.shape? b=none->(numberAt b).runT P w es=(getObj b >>= λo=>match o with
    |.number a lost=>pure (some (a,lost))
    |_=>pure none:Sem (Option (Addr×Bool))).runT P w es:=λw es e=>by
   show Sem.runT P (if(w.shape? b).isSome=true then _ else _) w es=_;rw[e];rfl
  have ea':(numberAt b).runT P a ea=(.ok none a,ea.push ⟨.obj b,false,false⟩):=by
   rw[e2 a ea (by simp[World.shape?,h1,cI])];show Sem.runT P (.getObj b λo=>match o with
    |.number a lost=>pure (some (a,lost))
    |_=>pure none) a ea=_
   simp only[Sem.runT,h1];rfl
  have er':∃er,(numberAt b).runT P r es=(.ok none r,er)/\(∀e∈er,e∈es\/Fc H e)/\(∀e∈er,e∈es\/∀x,e.loc=.cell x->x.block<r.heap.size)/\∀e∈er,e∈es\/∀x,e.loc=.cell x->e.write=true->a.frozen? x=false:=by
   cases hs:r.shape? b with
   |some s=>refine⟨es,?_,λe he=>.inl he,λe he=>.inl he,λe he=>.inl he⟩;show Sem.runT P (if(r.shape? b).isSome=true then _ else _) r es=_;rw[hs];rfl
   |none=>
    rw[e2 r es hs];refine⟨es.push ⟨.obj b,false,o.isChan⟩,?_,λe he=>(gA.1 he).imp id (λh=>by subst h;exact .inr rfl),λe he=>(gA.1 he).imp id (λh y hy=>xz),λe he=>(gA.1 he).imp id (λh y hy=>xz)⟩;show Sem.runT P (.getObj b λo=>match o with
     |.number a lost=>pure (some (a,lost))
     |_=>pure none) r es=_
    simp only[Sem.runT,h2];cases o<;>first|rfl|(simp[World.shape?,h2]at hs;done)|cases h3
  obtain⟨er,h4,h5,h6,h7⟩:=er';rw[ea'];exact⟨trivial,rfl,aY _,λ_=>⟨r,er,h4,hR,rfl,au,λ_ _=>rfl,h5,h6,aY _,gH hR,λy hy=>⟨rfl,hy⟩,h7,aY _,cJ _,cJ _,rfl,rfl⟩⟩
 ·unfold numberAt;refine simu_shape (λ_ s=>?_) (λh=>absurd h hx);split
  ·exact simu_pure trivial
  ·refine kq (λ_ o _=>?_) (λh=>absurd h hx);split<;>exact simu_pure trivial
theorem xA{x:Addr}(hx:H x.block):gG H P (noView x):=by
 intro a r ea hR;have hs:a.shape? x.block=none:=by simp[World.shape?,(hR.hid _ hx).1,cI]
 have:(noView x).runT P a ea=(.halt (.unsupported (.unsafePointer "memory seen as another type")) a,ea.push ⟨.obj x.block,false,false⟩):=by
  show Sem.runT P (Sem.bind (if(a.shape? x.block).isSome=true then _ else _) _) a ea=_;rw[hs];show Sem.runT P (.getObj x.block λo=>Sem.bind (match o with
    |.view a t=>pure (some (a,t))
    |_=>pure none) λv=>if v.isSome=true then unsupported (.unsafePointer "memory seen as another type")else pure ()) a ea=_
  simp only[Sem.runT,(hR.hid _ hx).1];rfl
 exact⟨_,_,_,this,rfl⟩
theorem qg(x:Addr):Simu H P (λ_=>True) (noView x):=by
 by_cases hx:H x.block
 ·exact(xA hx).nS
 ·unfold noView viewAt;refine Simu.bind (p:=λ_=>True) (simu_shape (λ_ s=>?_) (λh=>absurd h hx)) λv _=>?_
  ·split
   ·exact simu_pure trivial
   ·refine kq (λ_ o _=>?_) (λh=>absurd h hx);split<;>exact simu_pure trivial
  ·split
   ·exact(dead_halt rfl).nS
   ·exact simu_pure trivial
end
section
variable{P:Program}
abbrev ST(H:Nat->Prop)(P:Program)(x:Sem α):Prop:=Simu H P (λ_=>True) x
structure Hq(p:Prop):Prop where
 o:p
theorem rg{p q:Prop}(h:q)(t:Hq q->p:=by intro hq;simp only[jC,ew,fS,Nat.reduceAdd,cM,List.range,List.range.loop];exact hq.o):p:=t ⟨h⟩
theorem pt{p q:Prop}(h:q)(t:Hq q->p:=by intro hq;simp only[Act.put,jD,mI,pI];exact hq.o):p:=t ⟨h⟩
theorem sA{p:Prop}(h:p:=by first|exact st_pure _|exact bu _|exact iL _|exact simu_program.st|exact vS _ _|exact lM _ _ _|exact iO _|exact j9 _|exact qg _|exact gI _|exact dz _|exact iY _|exact g7 _|exact zl _|exact ux _ _|exact kh _ _ _|exact tj _ _|exact xB _ _ _|exact Cx _ _|exact nT _ _|exact uy _ _ _|exact cH _|exact zm _ _ _ _|exact zt _|exact Fh _|exact vU _|exact QJ _|exact lF _|exact I6 _|exact cU _|exact xC _ _|exact Bn _ _|exact qh _|exact cA λ_=>by simp|assumption):p:=h
theorem sC{p:Prop}(h:p:=by first|exact st_pure _|exact bu _|exact cA (λ_=>au)|exact iL _|exact simu_program.st|exact vS _ _|exact lM _ _ _|exact iO _|exact j9 _|exact qg _|exact vT trivial|exact ko rfl):p:=h
theorem sT{p:Prop}(h:p:=by(repeat' (with_reducible first|exact sA|(refine Simu.then (p:=λ_=>True) ?_ λ_=>?_)|(refine ite_st ?_ ?_)|dsimp only|split))):p:=h
theorem rZ{p:Prop}(h:p:=by intro e he;have hm:=mem_listed he;simp[go_sem]at hm):p:=h
theorem st_pure(a:α):ST H P (pure a:Sem α):=simu_pure trivial
theorem bu(s:String):ST H P (stuck s:Sem α):=(dead_halt rfl).nS
theorem dead_unsup(h:∀g,u≠.initOrder g):gG H P (unsupported u:Sem α):=dead_halt (by cases u<;>first|rfl|exact absurd rfl (h _))
theorem cA(h:∀g,u≠.initOrder g):ST H P (unsupported u:Sem α):=(dead_unsup h).nS
theorem iL(v:Value):ST H P (goPanic v:Sem α):=simu_panic v
theorem Simu.then{p:α->Prop}{q:β->Prop}{f:α->Sem β}(hx:Simu H P p x)(hf:∀v,Simu H P q (f v)):Simu H P q (x >>= f):=hx.bind λv _=>hf v
theorem ite_st{c:Prop} [Decidable c]{y:Sem α}(hx:ST H P x)(hy:ST H P y):ST H P (if c then x else y):=by split<;>assumption
theorem Simu.st{p:α->Prop}(hx:Simu H P p x):ST H P x:=hx.mono λ_ _=>trivial
theorem gI(t:TypeId):ST H P (typeInfo t):=by unfold typeInfo;refine simu_program.then λ_=>?_;split<;>(exact sC)
theorem dz(t:TypeId):ST H P (underlying t):=by unfold underlying;refine simu_program.then λ_=>?_;split<;>(exact sC)
theorem gm(t:TypeId):Simu H P (λd=>P.underlying t=some d) (underlying t):=by
 unfold underlying;refine simu_program.bind λP' h=>?_;subst h;split
 ·rename_i e;exact simu_pure e
 ·exact(dead_halt rfl).nS
theorem Fi(t:TypeId):Simu H P (λd=>P.info? t=some d) (typeInfo t):=by
 unfold typeInfo;refine simu_program.bind λP' h=>?_;subst h;split
 ·rename_i e;exact simu_pure e
 ·exact(dead_halt rfl).nS
theorem iY(t:TypeId):ST H P (zeroValue t):=by unfold zeroValue;refine(gI t).then λ_=>?_;split<;>(exact sC)
theorem g7(t:TypeId):ST H P (sizeOf t):=(gI t).then λ_=>st_pure _
theorem zl(t:TypeId):ST H P (isAgg t):=by unfold isAgg;refine(dz t).then λ_=>?_;split<;>(exact sC)
theorem nU(a:Addr):∀(n i:Nat) (acc:Array Value),ST H P (loadCellsFrom a i n acc)
 |0,_,_=>st_pure _
 |n+1,i,acc=>(vS _ _).then λ_=>nU a n (i+1) _
theorem ux(a:Addr)(n:Nat):ST H P (loadCells a n):=nU a n 0 #[]
theorem kh(a:Addr):∀(vs:List Value) (i:Nat),ST H P (storeCells a vs i)
 |[],_=>st_pure _
 |v::rest,i=>(lM _ _ _).then λ_=>kh a rest (i+1)
theorem tj(t:TypeId)(a:Addr):ST H P (loadVar t a):=by
 unfold loadVar;refine(zl t).then λ_=>?_;split
 ·exact(g7 t).then λ_=>(ux _ _).then λ_=>st_pure _
 ·(exact sC)
theorem xB(t:TypeId)(a:Addr)(v:Value):ST H P (storeVar t a v):=by
 unfold storeVar;refine(g7 t).then λ_=>?_;split
 ·exact(bu _).then λ_=>kh _ _ _
 ·exact(st_pure _).then λ_=>kh _ _ _
theorem Cx(t:TypeId)(cs:Array Value):ST H P (newRow t cs):=(ko rfl).then λ_=>st_pure _
theorem nT(t:TypeId)(v:Value):ST H P (newVar t v):=Cx _ _
theorem Cy(t:TypeId):ST H P (elemOf t):=by unfold elemOf;refine(dz t).then λ_=>?_;split<;>(exact sC)
theorem uy(t:TypeId)(cs:Array Value)(off:Nat):ST H P (part t cs off):=by
 unfold part;refine(zl t).then λ_=>?_;split
 ·exact(g7 t).then λ_=>st_pure _
 ·split<;>(exact sC)
theorem cH(e:RuntimeError):ST H P (runtimePanic e:Sem α):=by
 unfold runtimePanic;refine simu_program.then λ_=>?_;cases e with
 |typeAssertion i c a m=>exact(Cy _).then λ_=>(nT _ _).then λ_=>iL _
 |panicNil=>exact(Cy _).then λ_=>(nT _ _).then λ_=>iL _
 |_=>exact iL _
theorem zm(k:IntKind)(x y:Int)(c:BoundsCode):ST H P (boundsPanic k x y c:Sem α):=by
 unfold boundsPanic;simp only;split
 ·exact((iO _).then λ_=>st_pure _:ST H P _).then λ_=>cH _
 ·exact(st_pure _).then λ_=>cH _
theorem zt(v:Value):ST H P (asIntOf v):=by unfold asIntOf;split<;>(exact sC)
theorem Fh(v:Value):ST H P (asInt v):=(zt v).then λ_=>st_pure _
theorem vU(v:Value):ST H P (asBool v):=by unfold asBool;split<;>(exact sC)
theorem QJ(v:Value):ST H P (asAgg v):=by unfold asAgg;split<;>(exact sC)
theorem lF(v:Value):ST H P (asAddr v):=by unfold asAddr;split<;>first|(exact sC)|exact cH _
theorem I6(n:Nat):ST H P (askRoom n):=by unfold askRoom;split<;>(exact sC)
theorem cU(a:Addr):ST H P (behindNumber a):=(j9 _).then λ_=>st_pure _
theorem xC(a:Addr)(lost:Bool):ST H P (asNumber a lost):=(ko rfl).then λ_=>st_pure _
theorem bind_assoc'(x:Sem α)(f:α->Sem β)(g:β->Sem γ):(x.bind f).bind g=x.bind λa=>(f a).bind g:=by induction x<;>(simp only[Sem.bind];try(first|rfl|(congr 1;try(funext z;apply_assumption))|skip)) <;>first|rfl|assumption|(funext z;rename_i ih;exact ih z)|skip
theorem bind_pure'(x:Sem α):x.bind .pure=x:=by induction x<;>(simp only[Sem.bind];try(first|rfl|(congr 1;try(funext z;apply_assumption))|skip)) <;>first|rfl|assumption|(funext z;rename_i ih;exact ih z)|skip
instance:LawfulMonad Sem:=LawfulMonad.mk' Sem (id_map:=λx=>bind_pure' x) (pure_bind:=λ_ _=>rfl) (bind_assoc:=λx f g=>bind_assoc' x f g)
theorem rK(f:δ->γ->Sem δ)(hf:∀y x,ST H P (f y x)):∀(l:List γ) (y:δ),ST H P (l.foldlM f y)
 |[],_=>st_pure _
 |x::l,y=>by rw[List.foldlM_cons];exact(hf y x).then λ_=>rK f hf l _
theorem I7(f:γ->Sem δ)(hf:∀x,ST H P (f x))(xs:Array γ):ST H P (xs.mapM f):=by rw[Array.mapM_eq_foldlM,←Array.foldlM_toList];exact rK _ (λy x=>(hf x).then λ_=>st_pure _) _ _
end
section
variable{P:Program}
theorem Fj{p:α->Prop}{k:Option (Addr×TypeId)->Sem α}(h:¬H b->∀v,Simu H P p (k v))(hd:H b->gG H P (k (some (⟨0,0,some 0⟩,0)))):Simu H P p (viewAt b >>= k):=by
 by_cases hx:H b
 ·intro a r ea es hR;have hs:a.shape? b=none:=by simp[World.shape?,(hR.hid _ hx).1,cI]
  have:(viewAt b >>= k).runT P a ea=(k (some (⟨0,0,some 0⟩,0))).runT P a (ea.push ⟨.obj b,false,false⟩):=by
   show Sem.runT P (Sem.bind (if(a.shape? b).isSome=true then _ else _) _) a ea=_;rw[hs];show Sem.runT P (.getObj b λo=>Sem.bind (match o with
     |.view a t=>pure (some (a,t))
     |_=>pure none) k) a ea=_
   simp only[Sem.runT,(hR.hid _ hx).1];rfl
  rw[this];exact(hd hx).match hR _ _ _
 ·refine Simu.then (p:=λ_=>True) ?_ λv=>h hx v;unfold viewAt;refine simu_shape (λ_ s=>?_) (λh=>absurd h hx);split
  ·exact st_pure _
  ·refine kq (λ_ o _=>?_) (λh=>absurd h hx);split<;>exact st_pure _
theorem gp(a:Addr):ST H P (byteOf a):=by
 unfold byteOf;split
 ·exact st_pure _
 ·refine simu_program.then λp=>?_;by_cases hx:H a.block
  ·exact(xA hx).bind.nS
  ·refine(qg a).then λ_=>simu_shape (λ_ s=>?_) (λh=>absurd h hx);split
   ·simp only;split
    ·exact st_pure _
    ·split
     ·exact st_pure _
     ·exact bu _
   ·exact bu _
theorem NA(a:Addr)(c b:Nat):ST H P (partAt a c b):=(gp a).then λ_=>(gp _).then λ_=>st_pure _
theorem Bn(a:Addr)(f:Field):ST H P (fieldPlace a f):=by
 unfold fieldPlace;refine(g7 _).then λ_=>?_;split
 ·exact NA _ _ _
 ·exact st_pure _
theorem iZ(a:Array TypeId)(t:TypeId)(x y:Value):ST H P (Builtin.unsafeAdd_ a t #[x,y]):=by
 have rest:∀(ptr:Option Addr) (n:Int),ST H P (match ptr with
   |some a=>do
    let __x←shape a.block;match __x with
     |some (e,cells)=>do
      let p←program;match cellAtBytes p p.depth e (cells / p.cellsOf e) a.off n with
       |some off=>pure (Value.pointer (some {block:=a.block,off:=off,spot:=a.spot}))
       |none=>unsupported (Unsupported.unsafePointer "Add")
     |x=>unsupported (Unsupported.unsafePointer "Add")
   |x=>unsupported (Unsupported.unsafePointer "Add"):Sem Value):=λptr n=>by
  split
  ·refine simu_shape (λ_ s=>?_) (λ_=>dead_halt rfl);split
   ·refine simu_program.then λp=>?_;split
    ·exact st_pure _
    ·exact cA λ_=>au
   ·exact cA λ_=>au
  ·exact cA λ_=>au
 cases x with
 |pointer ptr=>
  show ST H P ((asInt y).bind _);refine(Fh y).then λn=>?_;simp only;split
  ·split
   ·refine Fj (λ_ v=>?_) (λ_=>dead_halt rfl);split
    ·exact(cA λ_=>au).then λ_=>st_pure _
    ·exact st_pure _
   ·refine(cA λ_=>au).then λ_=>?_;split
    ·exact(cA λ_=>au).then λ_=>rest _ _
    ·exact rest _ _
  ·split
   ·exact(cA λ_=>au).then λ_=>rest _ _
   ·exact rest _ _
 |_=>exact bu _
end
section
variable{P:Program}
theorem xD(op:BinOp)(k:IntKind)(x y:Int):ST H P (Op.intArith op k x y):=by unfold Op.intArith;split<;>(exact sC)
theorem NB(op:BinOp)(k:IntKind)(x y:Int):ST H P (Op.intDiv op k x y):=by
 unfold Op.intDiv;split
 ·exact cH _
 ·split<;>(exact sC)
theorem zu(op:BinOp)(k:IntKind)(x y:Int):ST H P (Op.intBits op k x y):=by unfold Op.intBits;simp only;split<;>(exact sC)
theorem QK(op:BinOp)(k k':IntKind)(x y:Int):ST H P (Op.shift op k x k' y):=by
 unfold Op.shift;split
 ·exact cH _
 ·simp only;split<;>(exact sC)
theorem NC(op:BinOp)(x y:Int):ST H P (Op.intCmp op x y):=by unfold Op.intCmp;split<;>(exact sC)
theorem sB(op:BinOp)(k:FloatKind)(x y:Nat):ST H P (Op.floatArith op k x y):=by
 have rest:∀result:Option Nat,ST H P (match result with
   |some r=>pure (Value.float k r)
   |none=>do pure (Value.float k (←choose (.nanBits k x y))):Sem Value):=λr=>by
  cases r with
  |some r=>exact st_pure _
  |none=>exact(iO _).then λ_=>st_pure _
 unfold Op.floatArith;simp only;split<;>exact Simu.then (p:=λ_=>True) (by(exact sC)) λr=>rest r
theorem xE(op:BinOp)(k:FloatKind)(x y:Nat):ST H P (Op.floatCmp op k x y):=by unfold Op.floatCmp;simp only;split<;>(exact sC)
theorem qi(op:BinOp)(x y:ByteArray):ST H P (Op.stringOp op x y):=by unfold Op.stringOp;simp only;split<;>(first|(exact sC)|(split<;>first|(exact sC)|exact cA λ_=>au))
theorem uz(a b:Addr):ST H P (Op.twoPlaces a b):=by
 unfold Op.twoPlaces;refine simu_program.then λp=>?_;simp only;split
 ·exact(cA λ_=>au).then λ_=>(gp _).then λ_=>(gp _).then λ_=>st_pure _
 ·exact(gp _).then λ_=>(gp _).then λ_=>st_pure _
theorem I8(k:IntKind)(a b:Addr):ST H P (Op.addrSub k a b):=(uz a b).then λ_=>st_pure _
theorem I9(op:BinOp)(a b:Addr):ST H P (Op.addrCmp op a b):=by unfold Op.addrCmp;refine(uz a b).then λx=>?_;obtain⟨x,y⟩:=x;simp only;split<;>first|(exact sC)|exact cA λ_=>au
theorem Ja(k:IntKind)(a:Addr)(n:Int):ST H P (Op.addrMod k a n):=by
 unfold Op.addrMod;refine simu_shape (λ_ s=>?_) (λ_=>dead_halt rfl);split
 ·refine(gI _).then λi=>?_;simp only;split
  ·exact(cA λ_=>au).then λ_=>(gp _).then λ_=>st_pure _
  ·exact(gp _).then λ_=>st_pure _
 ·exact cA λ_=>au
theorem qj(t:TypeId)(x y:Value):ST H P (movedNumber t x y):=by
 have rest:ST H P (match x with
   |.pointer (some n)=>do
    let(a,lost)←behindNumber n;match←Builtin.unsafeAdd_ #[] t #[.pointer (some a),y]with
    |.pointer (some b)=>asNumber b lost
    |v=>pure v
   |_=>Builtin.unsafeAdd_ #[] t #[x,y]:Sem Value):=by
  split
  ·refine(cU _).then λ⟨a,lost⟩=>?_;refine(iZ _ _ _ _).then λv=>?_;split
   ·exact xC _ _
   ·exact st_pure _
  ·exact iZ _ _ _ _
 unfold movedNumber;refine(dz t).then λd=>?_;simp only;split
 ·split
  ·exact(cA λ_=>au).then λ_=>rest
  ·exact rest
 ·split
  ·exact(cA λ_=>au).then λ_=>rest
  ·exact rest
theorem yl(t:TypeId)(x y:Value):ST H P (movedPointer t x y):=by
 unfold movedPointer;simp only;split
 ·refine(j9 _).then λv=>?_;split
  ·exact(cA λ_=>au).then λ_=>iZ _ _ _ _
  ·exact iZ _ _ _ _
 ·exact iZ _ _ _ _
theorem zv(d:Nat)(t:TypeId)(x y:Value)(h:y9 P t=true)(hp:za P t=true->x=.pointer none\/y=.pointer none):ST H P (Op.equalIn (d+1) t x y):=by
 unfold Op.equalIn;refine(gm t).bind λde WZ=>?_;unfold y9 at h;unfold za at hp;rw[WZ]at h hp;split;all_goals first
  |(exact sC)
  |(exfalso;revert h;simp;done)
  |exact cA λ_=>au
  |(split<;>(exact sC))
  |skip
 case h_5=>
  refine(cU _).then λu=>(cU _).then λv=>simu_program.then λp=>?_;split
  ·exact(gp _).then λ_=>(gp _).then λ_=>st_pure _
  ·refine(gI _).then λi=>?_;split
   ·split<;>first|(exact sC)|exact cA λ_=>au
   ·exact cA λ_=>au
 case h_13=>rcases hp rfl with h|h<;>cases h
theorem oX(f:γ->δ->Sem (ForInStep δ)):∀(l:List γ),(∀x∈l,∀b,ST H P (f x b))->∀b,ST H P (forIn l b f)
 |[],_,b=>by rw[List.forIn_nil];exact st_pure _
 |x::l,hf,b=>by
  rw[List.forIn_cons];refine(hf x jE b).then λr=>?_;cases r with
  |done b=>exact st_pure _
  |yield b=>exact oX f l (λy hy b=>hf y (gJ _ hy) b) b
theorem xF(d:Nat)(t:TypeId)(x y:Value)(h:rG P t=true):ST H P (Op.equalIn (d+1) t x y):=by
 refine zv d t x y ?_ λhp=>?_
 ·unfold rG at h;unfold y9;split at h
  ·rename_i e;rw[e]
  ·cases h
 ·unfold rG at h;unfold za at hp;split at h
  ·rename_i e;rw[e]at hp;cases hp
  ·cases h
theorem Fl(d:Nat)(t:TypeId)(x y:Value)(h:Mi P t=true):ST H P (Op.equalIn (d+2) t x y):=by
 unfold Op.equalIn;refine(gm t).bind λde WZ=>?_;unfold Mi at h;rw[WZ]at h;split;all_goals first
  |(exfalso;revert h;simp;done)
  |(exact sC)
  |skip
 ·simp only at h;refine simu_program.then λp=>?_;dsimp only;split
  ·exact(dead_unsup λ_=>au).bind.nS
  ·refine Simu.then (p:=λ_=>True) ?_ λr=>?_
   ·rw[←Array.forIn_toList];refine oX _ _ (λf hf b=>?_) _;have hfi:rG P f.type=true:=(by have h':=h;rw[Array.all_eq_true']at h';exact h' f (by simpa using hf));split
    ·refine(uy _ _ _).then λx=>(uy _ _ _).then λy=>(xF d _ _ _ hfi).then λb=>?_;split<;>exact st_pure _
    ·exact st_pure _
   ·split<;>exact st_pure _
 ·simp only at h;refine(g7 _).then λn=>?_;refine Simu.then (p:=λ_=>True) ?_ λr=>?_
  ·rw[Std.Legacy.Range.forIn_eq_forIn_range'];refine oX _ _ (λi hi b=>?_) _;refine(uy _ _ _).then λx=>(uy _ _ _).then λy=>(xF d _ _ _ h).then λb=>?_;split<;>exact st_pure _
  ·dsimp only;split<;>exact st_pure _
theorem QL(t:TypeId)(x y:Value)(h:Fb P t=true)(hp:za P t=true->x=.pointer none\/y=.pointer none):ST H P (Op.equal t x y):=by
 unfold Fb at h;rw[uA]at h;rcases h with h|h
 ·exact zv 9999 t x y h hp
 ·exact Fl 9998 t x y (by simp only[bK]at h;exact h.1)
theorem Dy(d:Nat)(t:TypeId)(x y:Value)(h:y9 P t=true):ST H P (Op.eqGuardIn (d+1) t x y):=by unfold Op.eqGuardIn;refine(gm t).bind λde WZ=>?_;unfold y9 at h;rw[WZ]at h;split<;>first|(exact sC)|(exfalso;revert h;simp;done)
theorem Jb(op:BinOp)(t:TypeId)(x y:Operand)(a b:Value)(h:(op matches .eql|.neq)=true->Fb P t=true):ST H P (eqGuard op t x y a b):=by
 have key:Fb P t=true->ST H P (match a,b with
   |.nilIface,.nilIface=>if(x matches .const _) ||(y matches .const _)then pure ()else do
    if←Op.eqGuardIn Op.maxDepth t a b then unsupported (.noEntry "binop/eql: two nil values of an interface type with methods, neither of them the literal nil")
    else pure ()
   |.agg _,.agg _=>do
    if !(←program).eqGuardType (←program).depth t then pure ()
    else if←Op.eqGuardIn Op.maxDepth t a b then unsupported (.noEntry "binop/eql: two nil values of an interface type with methods, in a part of a struct or an array")
    else pure ()
   |_,_=>pure ():Sem Unit):=λhq=>by
  have g:y9 P t=true->ST H P (Op.eqGuardIn Op.maxDepth t a b):=λhq=>Dy 9999 t a b hq;unfold Fb at hq;rw[uA]at hq;split
  ·by_cases hc:((x matches .const _) ||(y matches .const _))=true
   ·rw[if_pos hc];exact st_pure _
   ·rw[if_neg hc];have hg:ST H P (Op.eqGuardIn Op.maxDepth t .nilIface .nilIface):=by
     rcases hq with hq|hq
     ·exact g hq
     ·simp only[bK]at hq;have h1:=hq.1;unfold Op.eqGuardIn;refine(gm t).bind λde WZ=>?_;unfold Mi at h1;rw[WZ]at h1;split<;>first|(exact sC)|(exfalso;revert h1;simp;done)|contradiction|(exfalso;simp_all;done)
    refine hg.then λv=>?_;split
    ·exact cA λ_=>au
    ·exact st_pure _
  ·refine simu_program.bind λp hp=>simu_program.bind λp' hp'=>?_;subst hp hp';split
   ·exact st_pure _
   ·rename_i hng;refine(g (hq.resolve_right λhq=>?_)).then λv=>?_
    ·simp only[bK]at hq;exact hng hq.2
    split
    ·exact cA λ_=>au
    ·exact st_pure _
  ·exact st_pure _
 unfold eqGuard;cases op<;>first|exact st_pure _|exact key (h rfl)
theorem pJ(a:FloatKind)(x:Nat)(b:FloatKind):ST H P (Conv.floatToFloat a x b):=by
 unfold Conv.floatToFloat;split
 ·(exact sC)
 ·split
  ·exact(iO _).then λ_=>st_pure _
  ·(exact sC)
  ·simp only;split
   ·exact(iO _).then λ_=>st_pure _
   ·(exact sC)
theorem jM(op:BinOp)(k:FloatKind)(x y:Nat):ST H P (Op.Complex.arith op k x y):=by unfold Op.Complex.arith;refine(sB _ _ _ _).then λv=>?_;split<;>(exact sC)
theorem uB(op:BinOp)(k:FloatKind)(x y:Nat):ST H P (Op.Complex.cmp op k x y):=(xE _ _ _ _).then λ_=>vU _
theorem gK(a:FloatKind)(x:Nat)(b:FloatKind):ST H P (Op.Complex.conv a x b):=by
 unfold Op.Complex.conv;split
 ·(exact sC)
 ·refine(pJ _ _ _).then λv=>?_;split<;>(exact sC)
theorem Fo(a b c d:Nat):ST H P (Op.Complex.product a b c d):=by
 unfold Op.Complex.product Op.Complex.add Op.Complex.sub Op.Complex.mul
 repeat' (with_reducible first|exact jM _ _ _ _|exact uB _ _ _ _|exact gK _ _ _|exact st_pure _|exact bu _|(refine Simu.then (p:=λ_=>True) ?_ λ_=>?_))
theorem Bp(s a b c d:Nat):ST H P (Op.Complex.corrected s a b c d):=by
 unfold Op.Complex.corrected Op.Complex.add Op.Complex.sub Op.Complex.mul
 repeat' (with_reducible first|exact jM _ _ _ _|exact uB _ _ _ _|exact gK _ _ _|exact st_pure _|exact bu _|(refine Simu.then (p:=λ_=>True) ?_ λ_=>?_))
theorem Dz(a b c d:Nat):ST H P (Op.Complex.quotient a b c d):=by
 unfold Op.Complex.quotient Op.Complex.add Op.Complex.sub Op.Complex.mul Op.Complex.quo
 repeat' (with_reducible first|exact jM _ _ _ _|exact uB _ _ _ _|exact gK _ _ _|exact Bp _ _ _ _ _|exact st_pure _|exact bu _|(refine Simu.then (p:=λ_=>True) ?_ λ_=>?_)|split|(intro z;clear z)|(show ST _ _ (ite _ _ _)))
theorem DC(op:BinOp)(k:FloatKind)(a b c d:Nat):ST H P (Op.complexOp op k a b c d):=by
 unfold Op.complexOp;split
 ·exact(jM _ _ _ _).then λ_=>(jM _ _ _ _).then λ_=>st_pure _
 ·exact(jM _ _ _ _).then λ_=>(jM _ _ _ _).then λ_=>st_pure _
 iterate 2
  refine(gK _ _ _).then λa=>(gK _ _ _).then λb=>(gK _ _ _).then λc=>(gK _ _ _).then λd=>?_;simp only;split
  ·exact(Fo _ _ _ _).then λ_=>(gK _ _ _).then λ_=>(gK _ _ _).then λ_=>st_pure _
  ·exact(Dz _ _ _ _).then λ_=>(gK _ _ _).then λ_=>(gK _ _ _).then λ_=>st_pure _
 iterate 2
  exact(uB _ _ _ _).then λy=>(uB _ _ _ _).then λz=>st_pure _
 exact bu _
theorem QM(op:BinOp)(t:TypeId)(x y:Value)(h:(op matches .eql|.neq)=true->Fb P t=true/\(za P t=true->x=.pointer none\/y=.pointer none)):ST H P (Go.binOp op t x y):=by
 unfold Go.binOp;split;all_goals with_reducible first
  |exact QK _ _ _ _ _
  |(split
    ·exact bu _
    ·first
     |exact DC _ _ _ _ _ _
     |(split<;>first|exact xD _ _ _ _|exact NB _ _ _ _|exact zu _ _ _ _|exact NC _ _ _|exact sB _ _ _ _|exact xE _ _ _ _))
  |exact qi _ _ _
  |exact(QL _ _ _ (h rfl).1 (h rfl).2).then λ_=>st_pure _
  |exact qj _ _ _
  |exact(dz _).then λd=>ite_st (yl _ _ _) (qj _ _ _)
  |exact(cU _).then λ_=>(cU _).then λ_=>I8 _ _ _
  |exact(cU _).then λ_=>(cU _).then λ_=>I9 _ _ _
  |exact(cU _).then λ_=>Ja _ _ _
  |exact cA λ_=>au
  |exact bu _
theorem QN(op:UnOp)(x:Value):ST H P (Op.unary op x):=by unfold Op.unary;split<;>first|(exact sC)|exact xD _ _ _ _|exact zu _ _ _ _|exact cA λ_=>au
end
section
variable{P:Program}
theorem qh(v:Value):ST H P (Instr.sureAddr v):=by
 unfold Instr.sureAddr;split
 ·exact st_pure _
 ·exact bu _
theorem QO(t:TypeId):ST H P (Instr.alloc t true (.tuple #[])):=(iY t).then λ_=>(nT _ _).then λ_=>st_pure _
theorem Yt(t:TypeId)(v:Value):ST H P (Instr.box t v):=(nT _ _).then λ_=>st_pure _
theorem QP(t:TypeId)(ps:Array (Nat×Value)):ST H P (Instr.build t ps):=by
 unfold Instr.build;refine(iY t).then λz=>(dz t).then λd=>?_;split
 ·refine(I7 _ (λf=>(g7 _).then λ_=>st_pure _) _).then λplaces=>?_;split
  ·exact st_pure _
  ·exact bu _
 ·refine(g7 _).then λn=>?_;split
  ·exact st_pure _
  ·exact bu _
 ·exact bu _
theorem Bq(t:TypeId)(n:Nat)(ps:Array (Nat×Value)):ST H P (Instr.buildSlice t n ps):=by
 unfold Instr.buildSlice;refine(dz t).then λd=>?_;split
 ·refine(g7 _).then λsize=>?_;exact sT
 ·exact bu _
theorem ND(t:TypeId)(v:Value):ST H P (Instr.loadAt t v):=(qh v).then λ_=>tj _ _
theorem Jc(t:TypeId)(v x:Value):ST H P (Instr.storeAt t v x):=(qh v).then λ_=>xB _ _ _
theorem Jd(t:TypeId)(v:Value)(f:Nat):ST H P (Instr.fieldAt t v f):=by unfold Instr.fieldAt;exact sT
theorem Je(t:TypeId)(x i:Value):ST H P (Instr.indexAt t x i):=by unfold Instr.indexAt;exact sT
theorem sD(x:Value)(y:Nat)(c:BoundsCode):ST H P (Instr.sliceBound x y c):=by unfold Instr.sliceBound;exact sT
theorem ql(b:Bool)(l c:Nat)(x y z:Option Value):ST H P (Instr.sliceBounds b l c x y z):=by
 unfold Instr.sliceBounds;have h1:=λx y z=>sD (H:=H) (P:=P) x y z
 (repeat' (with_reducible first|exact sA|(refine Simu.then (p:=λ_=>True) ?_ λ_=>?_)|(refine ite_st ?_ ?_)|dsimp only|split)) <;>exact sD _ _ _
theorem QQ(t:TypeId)(v:Value)(x y z:Option Value):ST H P (Instr.slice t v x y z):=by
 unfold Instr.slice
 (repeat' (with_reducible first|exact sA|(refine Simu.then (p:=λ_=>True) ?_ λ_=>?_)|(refine ite_st ?_ ?_)|dsimp only|split)) <;>exact ql _ _ _ _ _ _
theorem Jf(t:TypeId)(v:Value)(x y z:Option Value):ST H P (Instr.sliceAt t v x y z):=by
 unfold Instr.sliceAt
 (repeat' (with_reducible first|exact sA|(refine Simu.then (p:=λ_=>True) ?_ λ_=>?_)|(refine ite_st ?_ ?_)|dsimp only|split)) <;>first|exact ql _ _ _ _ _ _|exact QQ _ _ _ _ _
theorem QR(t:TypeId)(x:Value)(f:Nat):ST H P (Instr.field t x f):=by unfold Instr.field;exact sT
theorem QS(t:TypeId)(x i:Value):ST H P (Instr.index t x i):=by unfold Instr.index;exact sT
theorem Jg(x:Value)(i:Nat):ST H P (Instr.extract x i):=by unfold Instr.extract;exact sT
theorem DD(t:TypeId)(l c:Value):ST H P (Instr.makeSlice t l c):=by unfold Instr.makeSlice;exact sT
theorem Jh(t:TypeId)(r:Option Value):ST H P (Instr.makeMap t r):=by
 unfold Instr.makeMap
 (repeat' (with_reducible first|exact sA|(refine Simu.then (p:=λ_=>True) ?_ λ_=>?_)|(refine ite_st ?_ ?_)|dsimp only|split)) <;>exact ko rfl
end
section
variable{P:Program}
def ja(H:Nat->Prop)(P:Program)(x:Sem α):Prop:=∀a r ea,Rel H a r->(∃v e',x.runT P a ea=(.ok v a,e'))\/∃hh a' e',x.runT P a ea=(.halt hh a',e')/\iA hh=true
theorem ja.dead{f:α->Sem β}(hx:ja H P x)(hf:∀v,gG H P (f v)):gG H P (x >>= f):=by
 intro a r ea hR;rw[lD];rcases hx a r ea hR with⟨v,e',e⟩|⟨hh,a',e',e,hd⟩
 ·rw[e];exact hf v a r e' hR
 ·rw[e];exact⟨hh,a',e',rfl,hd⟩
theorem ja.bind{f:α->Sem β}(hx:ja H P x)(hf:∀v,ja H P (f v)):ja H P (x >>= f):=by
 intro a r ea hR;rw[lD];rcases hx a r ea hR with⟨v,e',e⟩|⟨hh,a',e',e,hd⟩
 ·rw[e];exact hf v a r e' hR
 ·rw[e];exact .inr ⟨hh,a',e',rfl,hd⟩
theorem safe_pure(v:α):ja H P (pure v:Sem α):=λ_ _ _ _=>.inl ⟨_,_,rfl⟩
theorem vV(hd:iA h=true):ja H P (.halt h:Sem α):=λ_ _ _ _=>.inr ⟨_,_,_,rfl,hd⟩
theorem zw(b:Nat):ja H P (shape b):=λ_ _ _ _=>.inl ⟨_,_,rfl⟩
theorem safe_frozen(x:Addr):ja H P (frozen x):=λ_ _ _ _=>.inl ⟨_,_,rfl⟩
theorem uC:ja H P program:=λ_ _ _ _=>.inl ⟨_,_,rfl⟩
theorem sF(t:TypeId):ja H P (typeInfo t):=by
 unfold typeInfo;refine uC.bind λ_=>?_;split
 ·exact safe_pure _
 ·exact vV rfl
theorem vW(f:γ->Sem Bool)(hf:∀x,ja H P (f x)):∀l:List γ,ja H P (l.anyM f)
 |[]=>safe_pure _
 |x::l=>by
  rw[List.anyM];refine(hf x).bind λb=>?_;cases b
  ·exact vW f hf l
  ·exact safe_pure _
theorem ym(a:Addr)(n:Nat):ja H P (Builtin.holdsCells a n):=by
 unfold Builtin.holdsCells;refine(zw _).bind λs=>?_;split
 ·exact safe_pure _
 ·exact safe_pure _
theorem Br(k l n:Nat)(b:Option Addr)(x:Value):ja H P (Builtin.mayShare k l n b x):=by
 unfold Builtin.mayShare
 (repeat' (with_reducible first|exact safe_pure _|exact ym _ _|exact zw _|exact safe_frozen _|exact uC|exact sF _|exact vV rfl|(refine ja.bind ?_ λ_=>?_)|dsimp only|split))
theorem Fp(v:Value):ST H P (Builtin.lenOf v):=by unfold Builtin.lenOf;exact sT
theorem sG(k n:Nat)(v:Value):ST H P (Builtin.firstCells k n v):=by unfold Builtin.firstCells;exact sT
theorem NF(k l n:Nat)(b:Option Addr)(x:Value)(u:Unsupported)(hu:∀g,u≠.initOrder g):ST H P (Builtin.mayShare k l n b x >>= λv=>if(!v)=true then(mark .noRoom >>= λ_=>unsupported u)else unsupported u:Sem α):=by
 refine((Br k l n b x).dead λv=>?_).nS;cases v
 ·exact Simu.Ny (p:=λ_=>True) (vT trivial) (λ_ _ _ _ _ h=>bY) λ_ _=>dead_unsup hu
 ·exact dead_unsup hu
theorem NG(ts:Array TypeId)(t:TypeId)(vs:Array Value):ST H P (Builtin.append_ ts t vs):=by
 unfold Builtin.append_
 (repeat' (with_reducible first|exact Fp _|exact sG _ _ _|exact NF _ _ _ _ _ _ λ_=>by simp|exact sA|(refine Simu.then (p:=λ_=>True) ?_ λ_=>?_)|(refine ite_st ?_ ?_)|dsimp only|split))
theorem Yu(ts:Array TypeId)(t:TypeId)(vs:Array Value):ST H P (Builtin.len_ ts t vs):=by
 unfold Builtin.len_
 (repeat' (with_reducible first|(refine kq (λhb s _=>?_) (λ_=>by with_unfolding_all exact dead_halt (h:=Halt.stuck _) rfl))|exact sA|(refine Simu.then (p:=λ_=>True) ?_ λ_=>?_)|(refine ite_st ?_ ?_)|dsimp only|split))
theorem Yv(ts:Array TypeId)(t:TypeId)(vs:Array Value):ST H P (Builtin.cap_ ts t vs):=by
 unfold Builtin.cap_
 (repeat' (with_reducible first|(refine kq (λhb s _=>?_) (λ_=>by with_unfolding_all exact dead_halt (h:=Halt.stuck _) rfl))|exact sA|(refine Simu.then (p:=λ_=>True) ?_ λ_=>?_)|(refine ite_st ?_ ?_)|dsimp only|split))
theorem st_max2(x y:Value):ST H P (Builtin.max2 x y):=by
 unfold Builtin.max2
 (repeat' (with_reducible first|exact qi _ _ _|exact sA|(refine Simu.then (p:=λ_=>True) ?_ λ_=>?_)|(refine ite_st ?_ ?_)|dsimp only|split))
theorem st_min2(x y:Value):ST H P (Builtin.min2 x y):=by
 unfold Builtin.min2
 (repeat' (with_reducible first|exact qi _ _ _|exact sA|(refine Simu.then (p:=λ_=>True) ?_ λ_=>?_)|(refine ite_st ?_ ?_)|dsimp only|split))
theorem Yw(ts:Array TypeId)(t:TypeId)(vs:Array Value):ST H P (Builtin.max_ ts t vs):=by
 unfold Builtin.max_;split
 ·exact bu _
 ·exact rK _ (λy x=>st_max2 y x) _ _
theorem Yx(ts:Array TypeId)(t:TypeId)(vs:Array Value):ST H P (Builtin.min_ ts t vs):=by
 unfold Builtin.min_;split
 ·exact bu _
 ·exact rK _ (λy x=>st_min2 y x) _ _
theorem U7(ts:Array TypeId)(t:TypeId)(vs:Array Value):ST H P (Builtin.copy_ ts t vs):=by
 unfold Builtin.copy_
 (repeat' (with_reducible first|exact Fp _|exact sG _ _ _|exact sA|(refine Simu.then (p:=λ_=>True) ?_ λ_=>?_)|(refine ite_st ?_ ?_)|dsimp only|split))
theorem qm(b:Nat)(w:World)(es:Array Event):(viewAt b).runT P w es=match w.shape? b with
  |some _=>(.ok none w,es)
  |none=>match w.heap[b]? with
   |some (.cells ..)=>(.halt (.stuck "getObj: a row of cells") w,es)
   |some (.view a t)=>(.ok (some (a,t)) w,es.push ⟨.obj b,false,false⟩)
   |some o=>(.ok none w,es.push ⟨.obj b,false,o.isChan⟩)
   |none=>(.halt (.stuck "getObj: no such block") w,es):=by
 show Sem.runT P (if(w.shape? b).isSome=true then _ else _) w es=_;cases w.shape? b with
 |some s=>rfl
 |none=>
  show Sem.runT P (.getObj b λo=>match o with
   |.view a t=>pure (some (a,t))
   |_=>pure none) w es=_
  simp only[Sem.runT];cases w.heap[b]? with
  |none=>rfl
  |some o=>cases o<;>rfl
theorem NH(hb:¬H b):Simu H P (· =none) (viewAt b):=by
 intro a r ea es hR;rw[qm,qm,←zi (hR.same _ hb)];cases hs:a.shape? b with
 |some s=>exact simu_pure (P:=P) (p:=(· =none)) rfl a r ea es hR
 |none=>
  have hsame:a.heap[b]? =r.heap[b]? :=by
   rcases hR.same _ hb with h|⟨c,e,f,h1,_⟩
   ·exact h
   ·simp[World.shape?,h1]at hs
  rw[←hsame];cases ho:a.heap[b]? with
  |none=>exact rfl
  |some o=>have hok:=hR.objs b hb o ho;have key:Match H (· =(none:Option (Addr×TypeId))) a r es (.ok none a,ea.push ⟨.obj b,false,o.isChan⟩) (.ok none r,es.push ⟨.obj b,false,o.isChan⟩):=⟨rfl,rfl,aY _,λ_=>⟨r,_,rfl,hR,rfl,au,λ_ _=>rfl,λe he=>(gA.1 he).imp id (λh=>by subst h;exact .inl hb),λe he=>(gA.1 he).imp id (λh y hy=>xz),aY _,gH hR,λy hy=>⟨rfl,hy⟩,λe he=>(gA.1 he).imp id (λh y hy=>xz),aY _,cJ _,cJ _,rfl,rfl⟩⟩;cases o<;>first|exact rfl|exact key|cases hok
theorem tq{p:α->Prop}{a:Addr}{k:Bool->Sem α}(ha:¬H a.block)(h:Simu H P p (k false))(ht:gG H P (k true)):Simu H P p (Extern.Atomic.touchesFrozen a >>= k):=by unfold Extern.Atomic.touchesFrozen;rw[bind_assoc];refine(NH ha).bind λv hv=>?_;subst hv;exact Fg (k:=k) (λ_=>h) (λ_=>ht) (λh=>absurd h ha)
theorem Fq(b:Nat):ja H P (viewAt b):=by
 intro a r ea hR;rw[qm];split
 ·exact .inl ⟨_,_,rfl⟩
 ·split
  ·exact .inr ⟨_,_,_,rfl,rfl⟩
  ·exact .inl ⟨_,_,rfl⟩
  ·exact .inl ⟨_,_,rfl⟩
  ·exact .inr ⟨_,_,_,rfl,rfl⟩
theorem tx(a:Addr):ja H P (Extern.Atomic.touchesFrozen a):=by
 unfold Extern.Atomic.touchesFrozen;refine(Fq _).bind λv=>?_;split
 ·exact safe_frozen _
 ·refine(sF _).bind λi=>?_;dsimp only;split
  ·exact(vV rfl).bind λ_=>vW _ (λ_=>safe_frozen _) _
  ·exact vW _ (λ_=>safe_frozen _) _
theorem st_read(k:IntKind)(a:Addr):ST H P (Extern.Atomic.read (.int k) a):=by unfold Extern.Atomic.read;exact sT
theorem NI{k:IntKind}{a:Addr}(ha:H a.block):gG H P (Extern.Atomic.read (.int k) a):=(Cw ha).bind
theorem uD(k:IntKind)(vs:Array Value):ST H P (Extern.Atomic.loadT (.int k) vs):=by
 obtain⟨l⟩:=vs;rcases l with _|⟨x,_|⟨y,l⟩⟩
 ·exact bu _
 ·exact(lF x).then λ_=>st_read _ _
 ·exact bu _
theorem vX(vs:Array Value):ST H P (Extern.Atomic.storeT vs):=by
 obtain⟨l⟩:=vs;rcases l with _|⟨x,_|⟨y,_|⟨z,l⟩⟩⟩
 ·exact bu _
 ·exact bu _
 ·exact(lF x).then λ_=>(lM _ _ _).then λ_=>st_pure _
 ·exact bu _
theorem QT(k:IntKind)(v old:Value)(f:Bool->Sem α)(hf:∀b,ST H P (f b)):ST H P (match Extern.Atomic.T.int k,v,old with
   |_,.int _ x,.int _ y=>pure (x==y) >>= f
   |.ptr,.pointer x,.pointer y=>samePointer x y >>= f
   |.int _,.pointer (some _),.int _ 0=>pure false >>= f
   |.int _,.int _ 0,.pointer (some _)=>pure false >>= f
   |.int _,.pointer (some _),_=>unsupported .addressObserved >>= f
   |.int _,_,.pointer (some _)=>unsupported .addressObserved >>= f
   |_,_,_=>stuck "atomic.CompareAndSwap: old is no T" >>= f):=by
 split<;>first
  |exact(st_pure _).then hf
  |exact(cA λ_=>au).then hf
  |exact(bu _).then hf
  |(exfalso;rename_i h _ _;cases h;done)
  |simp_all
theorem yG(k:IntKind)(vs:Array Value):ST H P (Extern.Atomic.casT (.int k) vs):=by
 obtain⟨l⟩:=vs;rcases l with _|⟨x,_|⟨y,_|⟨z,_|⟨u,l⟩⟩⟩⟩
 ·exact bu _
 ·exact bu _
 ·exact bu _
 ·refine(lF x).then λa=>?_;by_cases ha:H a.block
  ·refine((tx a).dead λv=>?_).nS;cases v
   ·exact(NI ha).bind
   ·exact dead_halt (h:=.unsupported _) rfl
  ·refine tq ha ?_ ?_
   ·refine(st_read _ _).then λv=>?_;have hf:∀b:Bool,ST H P (if b=true then(store a z .atomic >>= λ_=>pure (.bool b))else pure (.bool b):Sem Value):=λb=>by
     split
     ·exact(lM _ _ _).then λ_=>st_pure _
     ·exact st_pure _
    exact QT k v y _ hf
   ·exact dead_halt (h:=.unsupported _) rfl
 ·exact bu _
theorem Bt(k:FloatKind)(x:Nat)(d:IntKind):ST H P (Conv.floatToInt k x d):=by unfold Conv.floatToInt;exact sT
theorem Ji(s d:TypeId)(x:Value)(hs:uu P s=true)(hd:uu P d=true):ST H P (convert s d x):=by
 unfold convert;refine(gm s).bind λes hes=>(gm d).bind λed hed=>?_;unfold uu at hs hd;rw[hes]at hs;rw[hed]at hd;split<;>first
  |exact st_pure _|exact Bt _ _ _|exact pJ _ _ _|exact cA λ_=>au
  |(exfalso;revert hd;simp;done)|(exfalso;revert hs;simp;done)
theorem qo:∀(l:List FieldStep) (t:TypeId) (x:Option Value),ST H P (followBlind l t x)
 |[],t,x=>st_pure _
 |s::rest,t,x=>by
  unfold followBlind;have ih:=λt x=>qo rest t x
  (repeat' (with_reducible first|exact ih _ _|exact sA|(refine Simu.then (p:=λ_=>True) ?_ λ_=>?_)|(refine ite_st ?_ ?_)|dsimp only|split))
theorem xG:∀(n:Nat) (t:TypeId) (v:Value) (name:String),ST H P (nilAhead n t v name)
 |0,_,_,_=>st_pure _
 |n+1,t,v,name=>by
  unfold nilAhead;have ih:=λt v name=>xG n t v name
  (repeat' (with_reducible first|exact ih _ _ _|exact qo _ _ _|exact sA|(refine Simu.then (p:=λ_=>True) ?_ λ_=>?_)|(refine ite_st ?_ ?_)|dsimp only|split))
end
section
variable{P:Program}{p:α->Prop}
def vY(H:Nat->Prop)(P:Program)(b:Nat)(K:Obj->Prop)(p:α->Prop)(x:Sem α):Prop:=∀a r ea es,Rel H a r->¬H b->(∃o,a.heap[b]? =some o/\K o)->Match H p a r es (x.runT P a ea) (x.runT P r es)
theorem went_push{r:World}{es:Array Event}(h1:Fc H e)(h2:∀x,e.loc=.cell x->x.block<r'.heap.size)(h3:∀x,e.loc=.cell x->e.write=true->a.frozen? x=false)(hw:Went H (es.push e) a a' r r' er):Went H es a a' r r' er:=
 ⟨hw.rel,hw.tape,hw.drawn,hw.hidden,λe' he=>by
  rcases hw.evs e' he with he|he
  ·exact(gA.1 he).imp id λh=>by subst h;exact h1
  ·exact .inr he,λe' he=>by
  rcases hw.evin e' he with he|he
  ·exact(gA.1 he).imp id λh=>by subst h;exact h2
  ·exact .inr he,hw.grow,hw.eqk,hw.kept,λe' he=>by
  rcases hw.rov e' he with he|he
  ·exact(gA.1 he).imp id λh=>by subst h;exact h3
  ·exact .inr he,hw.growa,hw.shp,hw.shpr,hw.same⟩
theorem zx{K:Obj->Prop}{k:Obj->Sem α}(h:∀s,ej s=true->K s->vY H P b K p (k s))(ho:∀s,¬K s->gG H P (k s))(hp:¬K cI):Simu H P p (getObj b >>= k):=by
 have e2:∀w es,(getObj b >>= k).runT P w es=match w.heap[b]? with
  |some (.cells ..)=>(.halt (.stuck "getObj: a row of cells") w,es)
  |some o=>(k o).runT P w (es.push ⟨.obj b,false,o.isChan⟩)
  |none=>(.halt (.stuck "getObj: no such block") w,es):=λw es=>by
  show Sem.runT P (.getObj b λo=>k o) w es=_;simp only[Sem.runT];rfl
 by_cases hx:H b
 ·intro a r ea es hR;rw[e2,(hR.hid _ hx).1];exact(ho _ hp).match hR _ _ _
 ·intro a r ea es hR;have lN:∀c e f,a.heap[b]? =some (.cells c e f)->Match H p a r es ((getObj b >>= k).runT P a ea) ((getObj b >>= k).runT P r es):=λc e f ho=>by rw[e2,ho];exact rfl
  rcases hR.same _ hx with hsame|⟨c,e,f,h1,_⟩
  rotate_left
  ·exact lN _ _ _ h1
  rw[e2,e2,←hsame];cases IG:a.heap[b]? with
  |none=>exact rfl
  |some o=>
   have key:Match H p a r es ((k o).runT P a (ea.push ⟨.obj b,false,o.isChan⟩)) ((k o).runT P r (es.push ⟨.obj b,false,o.isChan⟩)):=by
    by_cases hK:K o
    ·have h1:=h o (hR.objs b hx o IG) hK a r (ea.push ⟨.obj b,false,o.isChan⟩) (es.push ⟨.obj b,false,o.isChan⟩) hR hx ⟨o,IG,hK⟩;generalize (k o).runT P a (ea.push ⟨.obj b,false,o.isChan⟩)=X at h1;have hw:=λa' r' er hw=>went_push (H:=H) (a:=a) (r:=r) (a':=a') (r':=r') (er:=er) (es:=es) (e:=⟨.obj b,false,o.isChan⟩) (.inl hx) (λy hy=>by cases hy) (λy hy=>by cases hy) hw;obtain⟨rx,ex⟩:=X;cases rx with
     |ok v a'=>exact⟨h1.1,h1.2.1,h1.2.2.1,λfB=>(h1.2.2.2 fB).imp λr' ⟨er,e,h⟩=>⟨er,e,hw _ _ _ h⟩⟩
     |halt hh a'=>
      cases hh with
      |panic v=>exact⟨h1.1,h1.2.1,λfB=>(h1.2.2 fB).imp λr' ⟨er,e,h⟩=>⟨er,e,hw _ _ _ h⟩⟩
      |_=>exact h1
    ·exact(ho o hK).match hR _ _ _
   cases o<;>first|exact rfl|exact key
theorem oY{K:Obj->Prop}{o:Obj}{k:Unit->Sem α}(hKn:∀s,K s->bU s=true/\∀c e f,s≠.cells c e f)(ho:ej o=true)(hK:K o)(hk:vY H P b K p (k ())):vY H P b K p (setObj b o >>= k):=by
 intro a r ea es hR hb ⟨s,hs,hKs⟩;obtain⟨hn,hc⟩:=hKn s hKs;have hsr:r.heap[b]? =some s:=by
  rcases hR.same b hb with h|⟨c,e,f,h1,_⟩
  ·rw[←h];exact hs
  ·rw[hs]at h1;exact absurd (aP h1) (hc c e f)
 have e2:∀(w:World) es,w.heap[b]? =some s->(setObj b o >>= k).runT P w es=(k ()).runT P {w with heap:=w.heap.setIfInBounds b o} (es.push ⟨.obj b,true,o.isChan⟩):=λw es h=>by show Sem.runT P (.setObj b o (k ())) w es=_;simp only[Sem.runT,h]
 rw[e2 a ea hs,e2 r es hsr];have hR':=hR.obj hb ho;have hlt:b<a.heap.size:=(aQ.1 hs).1;have hg:∀(w:World) x,x≠b->(w.heap.setIfInBounds b o)[x]? =w.heap[x]? :=λw x hx=>eH (λe=>hx e.symm);have ha0:∀w:World,b<w.heap.size->(w.heap.setIfInBounds b o)[b]? =some o:=λw h=>fD h;have h1:=hk {a with heap:=a.heap.setIfInBounds b o} {r with heap:=r.heap.setIfInBounds b o} (ea.push ⟨.obj b,true,o.isChan⟩) (es.push ⟨.obj b,true,o.isChan⟩) hR' hb ⟨o,ha0 a hlt,hK⟩;have abc:∀w:World,w.heap[b]? =some s->Mk w {w with heap:=w.heap.setIfInBounds b o}:=λw hw=>⟨λx c e f hx=>by
  have:x≠b:=λe1=>by subst e1;rw[hw]at hx;exact hc _ _ _ (aP hx)
  exact⟨c,rfl,(hg w x this).trans hx⟩,λx y l hx=>by
  have:x≠b:=λe1=>by subst e1;rw[hw]at hx;rw[aP hx]at hn;cases hn
  exact(hg w x this).trans hx⟩
 have W4:∀(w:World),w.heap[b]? =some s->∀x,w.frozen? x=true->x.block≠b:=λw hw x hx e=>by unfold World.frozen? at hx;rw[e,hw]at hx;cases s<;>simp at hx;exact hc _ _ _ rfl
 have step:Went H es a {a with heap:=a.heap.setIfInBounds b o} r {r with heap:=r.heap.setIfInBounds b o} (es.push ⟨.obj b,true,o.isChan⟩):=by
  refine⟨hR',rfl,au,λx hx=>hg r x (λe=>hb (e▸hx)),λe he=>(gA.1 he).imp id (λh=>by subst h;exact .inl hb),λe he=>(gA.1 he).imp id (λh y hy=>xz),au,λx hx he=>?_,λx hx=>?_,λe he=>(gA.1 he).imp id (λh y hy=>xz),au,abc a hs,abc r hsr,rfl,rfl⟩
  ·by_cases e:x=b
   ·subst e;show(a.heap.setIfInBounds x o)[x]? =(r.heap.setIfInBounds x o)[x]?;rw[ha0 a hlt,ha0 r (by rw[←hR.size];exact hlt)]
   ·show(a.heap.setIfInBounds b o)[x]? =(r.heap.setIfInBounds b o)[x]?;rw[hg a x e,hg r x e];exact gH hR x hx he
  ·have hne:=W4 a hs x hx;refine⟨?_,?_⟩
   ·simp only[World.cell?,hg r _ hne]
   ·rw[←hx];simp only[World.frozen?,hg a _ hne]
 generalize (k ()).runT P {a with heap:=a.heap.setIfInBounds b o} (ea.push ⟨.obj b,true,o.isChan⟩)=X at h1;obtain⟨rx,ex⟩:=X;cases rx with
 |ok v a'=>exact⟨h1.1,h1.2.1,h1.2.2.1,λfB=>(h1.2.2.2 (λi q hi=>fB i q hi)).imp λr' ⟨er,e,h⟩=>⟨er,e,Went.trans (a₁:={a with heap:=a.heap.setIfInBounds b o}) (aY _) h1.2.2.1 step h⟩⟩
 |halt hh a'=>
  cases hh with
  |panic v=>exact⟨h1.1,h1.2.1,λfB=>(h1.2.2 (λi q hi=>fB i q hi)).imp λr' ⟨er,e,h⟩=>⟨er,e,Went.trans (a₁:={a with heap:=a.heap.setIfInBounds b o}) (aY _) h1.2.1 step h⟩⟩
  |_=>exact h1
theorem lG{K:Obj->Prop}(h:Simu H P p x):vY H P b K p x:=λa r ea es hR _ _=>h a r ea es hR
def DF(o:Obj):Prop:=∃l,o=.loop l
theorem oZ:∀s,DF s->bU s=true/\∀c e f,s≠.cells c e f:=by rintro s ⟨l,rfl⟩;exact⟨rfl,λ_ _ _ h=>bY⟩
theorem ld{k:Loop->Sem α}(h:∀l,UZ l=true->vY H P b DF p (k l)):Simu H P p (Instr.getLoop b >>= k):=by
 unfold Instr.getLoop;have e:∀g:Obj->Sem Loop,((getObj b >>= g) >>= k)=(getObj b >>= λo=>g o >>= k):=λg=>rfl;rw[e];refine zx (K:=DF) (λs hs ⟨l,hl⟩=>?_) (λs hs=>?_) (λ⟨l,hl⟩=>by cases hl)
 ·subst hl;exact h l hs
 ·cases s<;>first
   |exact absurd ⟨_,rfl⟩ hs
   |exact(dead_halt (h:=Halt.stuck _) rfl).bind
theorem zy(l:Nat):ST H P (Instr.beginRound l):=by unfold Instr.beginRound;refine ld λr hr=>oY oZ (by exact hr) ⟨_,rfl⟩ (lG ?_);cases r.state<;>first|exact st_pure _|exact cH _
theorem o6(l:Nat)(j:Option Code)(hj:∀c,j=some c->rJ c=true):Simu H P (λv=>v=.bool j.isNone) (Instr.endRound l j):=by
 unfold Instr.endRound;refine ld λr hr=>oY oZ ?_ ⟨_,rfl⟩ (lG (simu_pure rfl));show UZ _=true;unfold UZ oV at hr⊢;simp only[bK]at hr⊢;refine⟨hr.1,?_⟩;cases j with
 |none=>rfl
 |some c=>exact hj c rfl
theorem Fs(l:Nat):Simu H P (λj=>∀c,j=some c->rJ c=true) (Instr.endLoop l):=by
 unfold Instr.endLoop;refine ld λr hr=>?_;have last:vY H P l DF (λj=>∀c,j=some c->rJ c=true) (do setObj l (.loop {r with state:=.exhausted});pure r.pending:Sem (Option Code)):=by refine oY oZ (by exact hr) ⟨_,rfl⟩ (lG (simu_pure λc hc=>?_));have hr:oV xy fq r=true:=hr;unfold oV at hr;simp only[bK]at hr;have h2:=hr.2;rw[hc]at h2;exact h2
 split
 ·intro a rr ea es hR hb hk;have hp:Simu H P (λj=>∀c,j=some c->rJ c=true) ((runtimePanic (.error "range function recovered a loop body panic and did not resume panicking"):Sem Unit) >>= λ_=>(do setObj l (.loop {r with state:=.exhausted});pure r.pending:Sem (Option Code))):=by unfold runtimePanic;exact simu_program.then λ_=>simu_panic _
  exact hp a rr ea es hR
 ·exact last
def abd(o:Obj):Prop:=∃d,o=.deferred d
theorem vZ(b:Nat):Simu H P (λds=>ds=[]) (Instr.takeDeferred b):=by
 unfold Instr.takeDeferred;refine zx (K:=abd) (λs hs ⟨d,hd⟩=>?_) (λs hs=>?_) (λ⟨l,hl⟩=>by cases hl)
 ·subst hd;cases d with
  |none=>exact lG (dead_halt (h:=Halt.stuck _) rfl).nS
  |some ds=>have hs:ds.isEmpty=true:=hs;have:ds=[]:=(by simpa using hs);subst this;exact oY (λs ⟨d,hd⟩=>by subst hd;exact⟨rfl,λ_ _ _ h=>bY⟩) rfl ⟨_,rfl⟩ (lG (simu_pure rfl))
 ·cases s<;>first
   |exact absurd ⟨_,rfl⟩ hs
   |exact dead_halt (h:=Halt.stuck _) rfl
theorem Bu{tmps:Array Value}{params:Array Tmp}{a b:Code}(h:oV xy fq {state:=.ready,pending:=none,fn,tmps,params,assign:=a,body:=b,defers:=0}=true):Simu H P (λx=>∃r,x.2=[{target:=.collected r,args:=#[]}]) (Instr.enterLoop fn tmps params a b none):=by show Simu H P _ (newObj (.deferred (some [])) >>= λr=>newObj (.loop {state:=.ready,pending:=none,fn,tmps,params,assign:=a,body:=b,defers:=r}) >>= λl=>(pure ((l,[({target:=.collected r,args:=#[]}:Deferred)]):Nat×List Deferred):Sem (Nat×List Deferred)));exact(ko (H:=H) (P:=P) (o:=.deferred (some [])) rfl).bind λr _=>(ko (H:=H) (P:=P) (o:=.loop {state:=.ready,pending:=none,fn,tmps,params,assign:=a,body:=b,defers:=r}) (by exact h)).bind λl _=>simu_pure ⟨r,rfl⟩
theorem NJ(l:Nat)(args:Array Value):Simu H P (λn=>∃f tmps a b,n=.round l f tmps a b/\cR xy fq f a=true/\cR xy fq f b=true/\fM a=true/\fM b=true/\∀t,fq.ft f t=true->VS fq f t (tmps.getD t undef)=true) (Instr.yield l args):=by
 unfold Instr.yield;refine ld λr hr=>lG ?_;split
 ·exact(dead_halt (h:=Halt.stuck _) rfl).bind.nS
 ·refine simu_pure ⟨r.fn,_,r.assign,r.body,rfl,?_⟩;have hr:oV xy fq r=true:=hr;unfold oV at hr;simp only[bK]at hr;obtain⟨⟨⟨⟨⟨⟨h1,h2⟩,h3⟩,h4⟩,h5⟩,h6⟩,_⟩:=hr;refine⟨h4,h5,h2,h3,λt ht=>?_⟩;have base:VS fq r.fn t (r.tmps.getD t undef)=true:=by
   by_cases hlt:t<r.tmps.size
   ·rw[fT]at h6;have:=h6 t (mJ.2 hlt);rw[ht]at this;simpa using this
   ·rw[cE,kP ae];unfold VS;cases fq.fi r.fn t<;>rfl
  have key:∀(ps:List (Tmp×Value)) (tmps:Array Value),(∀q∈ps,fq.ft r.fn q.1=false)->(ps.foldl (λtmps q=>tmps.setIfInBounds q.1 q.2) tmps).getD t undef=tmps.getD t undef:=by
   intro ps;induction ps with
   |nil=>exact λ_ _=>rfl
   |cons q ps ih=>intro tmps hq;rw[sH,ih _ (λx hx=>hq x (gJ _ hx))];have hne:q.1≠t:=λe=>(by have:=hq q (jE ..);rw[e,ht]at this;cases this);rw[cE,cE,eH hne]
  rw[←Array.foldl_toList,key]
  ·exact base
  ·intro q hq;rw[Array.toList_zip]at hq;have h7:=(List.of_mem_zip hq).1;rw[Cz]at h1;have:=h1 q.1 (by simpa using h7);simpa using this
end
def ba.abe(S:ba)(P:Program)(name:String):Prop:=∀(t:TypeId) (i:TypeInfo) (m:Method),P.info? t=some i->i.methods.find? (·.name==name)=some m->m.path=#[]/\∃f,m.func=some (f,true)/\S.L f=true/\∀x,S.ft f x=false
def ba.Yy(S:ba)(P:Program):Prop:=(S.R=true->P=xy/\S=fq)/\(∀g,S.I g=true->S.L g=true/\∀t,S.ft g t=true->S.fi g t=false/\(t=0\/8<=t))/\∀g,S.rt g=true->∃fn r,P.funcs[g]? =some fn/\fn.results=#[.tmp r]/\S.ft g r=true/\S.fi g r=true
theorem Fu{S:ba}{P:Program}(h1:S.R=false)(h2:∀g,S.I g=false)(h3:∀g,S.rt g=false):S.Yy P:=⟨λh=>by(rw[h1]at h;cases h),λg h=>by(rw[h2]at h;cases h),λg h=>by(rw[h3]at h;cases h)⟩
structure ba.Rows(S:ba)(H:Nat->Prop)(P:Program):Prop where
 row:∀g,S.X g=true->∃fn e,P.funcs[g]? =some fn/\(fn.name== "runtime.NumGoroutine")=false/\fn.body.isNone=true/\Extern.findNext fn=none/\Extern.find fn=some e/\∀args,ST H P (e args)
 meth:∀name,S.V name=true->S.abe P name
 more:S.Yy P
def ba.iM(S:ba)(P:Program):Prop:=∀g,S.L g=true->∃fn,P.funcs[g]? =some fn/\(fn.name== "runtime.NumGoroutine")=false/\fn.body.isNone=false
def ba.nV(S:ba):Prop:=∀g,S.C g=true->S.L g=true/\∀t,S.ft g t=false
def wj(P:Program)(S:ba)(g:Nat)(args:Array Value):Prop:=S.L g=true/\∀t,S.ft g t=true->VS S g t ((args++Array.replicate (((P.funcs[g]?).map (·.ntmps)).getD 0-args.size) undef).getD t undef)=true
def mK(P:Program)(S:ba)(d:Deferred):Prop:=d.target=.nil\/(∃g captured,d.target=.fn (.func g) captured/\wj P S g (d.args++captured))\/∃b,d.target=.collected b
def lO(P:Program)(S:ba)(f:Nat)(o:Oper):Next->Prop
 |.value v=>∀d,o.dst=some d->S.ft f d=true->VS S f d v=true
 |.skip=>True
 |.enter g args=>(∀d,o.dst=some d->S.ft f d=true->S.fi f d=true/\S.rt g=true)/\wj P S g args
 |.round _ g tmps a b=>(∀d,o.dst=some d->S.ft f d=false)/\S.R=true/\cR P S g a=true/\cR P S g b=true/\fM a=true/\fM b=true/\∀t,S.ft g t=true->VS S g t (tmps.getD t undef)=true
 |.defer d=>mK P S d/\iJ o=false
 |.comm _ b _=>b=true
 |.recover=>(∀d,o.dst=some d->S.ft f d=false)/\iJ o=false
 |_=>False
section
variable{P:Program}{S:ba}
def pY(S:ba)(f:Nat)(tmps:Array Value):Prop:=∀t,S.ft f t=true->VS S f t (tmps.getD t undef)=true
theorem st_value{x:Sem Value}(hx:ST H P x)(dU:jK S f o.dst=true):Simu H P (lO P S f o) (do pure (.value (←x))):=hx.then λv=>simu_pure λd hd hf=>by rw[hd]at dU;simp only[jK,hf]at dU;cases dU
theorem U8{x:Sem Unit}(hx:ST H P x):Simu H P (lO P S f o) (do x;pure .skip):=hx.then λ_=>simu_pure trivial
theorem U9{S:ba}(h1:VI S v=true)(h2:VF S v=true):VS S f t v=true:=by unfold VS;cases S.fi f t<;>assumption
def VO(S:ba)(it:Bool)(v:Value):Bool:=bif it then VI S v else VF S v
theorem zA{S:ba}:VS S f t v=VO S (S.fi f t) v:=rfl
theorem uE{tmps:Array Value}(NK:∀t,ρ (.tmp t)=tmps.getD t undef)(hc:∀v,ρ (.const v)=v)(hg:∀g,ρ (.func g)=.func (.func g) #[] #[])(ht:pY S f tmps){x:Operand}(h:oU S f it x=true):VO S it (ρ x)=true:=by
 cases x with
 |tmp t=>rw[NK];simp only[oU,bK,beq_iff_eq]at h;have:=ht t h.1;rw[zA,h.2]at this;exact this
 |const v=>rw[hc];cases v<;>first|(cases it<;>rfl)|(unfold oU at h;cases h)
 |global g=>cases h
 |func g=>
  rw[hg];cases it with
  |false=>show(S.C g&&(#[]:Array Value).isEmpty)=true;rw[show S.C g=true from h];rfl
  |true=>show(S.I g&&(#[]:Array Value).isEmpty&&decide ((#[]:Array Value).size<=7))=true;rw[show S.I g=true from h];rfl
theorem o7(hR:S.Rows H P)(hB:S.iM P)(g:Nat)(args:Array Value)(dU:jK S f o.dst=true)(h:S.X g=true\/wj P S g args):
  Simu H P (lO P S f o) (callFunc g args):=by
 unfold callFunc;refine simu_program.bind λP' hP=>?_;subst hP;rcases h with h|⟨h,h'⟩
 ·obtain⟨fn,e,h1,h2,h3,h4,h5,h6⟩:=hR.row g h;rw[h1];simp only[h2,h3,if_true,dS,if_false,h4,h5];refine(vT (m:=.extern g) trivial).then λ_=>?_;exact st_value (h6 args) dU
 ·obtain⟨fn,h1,h2,h3⟩:=hB g h;rw[h1];simp only[h2,h3,dS,if_false];refine simu_pure ⟨λd hd hf=>?_,h,h'⟩;rw[hd]at dU;simp only[jK,hf]at dU;cases dU
theorem eQ{p:α->Prop}:Simu H P p (runtimePanic .nilDeref:Sem α):=by unfold runtimePanic;exact simu_program.then λ_=>simu_panic _
theorem QU:VF S undef=true:=rfl
theorem undef_vs:VS S f t undef=true:=U9 rfl rfl
theorem DI{g:Nat}{args:Array Operand}{tmps:Array Value}(NK:∀t,ρ (.tmp t)=tmps.getD t undef)(hc:∀v,ρ (.const v)=v)(hg:∀g,ρ (.func g)=.func (.func g) #[] #[])(ht:pY S f tmps)
  {n:Nat}(h:zb S f g n args=true)(hn:args.size<=n)(k:Nat):∀t,S.ft g t=true->VS S g t ((args.map ρ++Array.replicate k undef).getD t undef)=true:=by
 intro t wm;rw[cE,Array.getElem?_append];split
 ·rename_i hlt;rw[Array.size_map]at hlt;rw[lQ];unfold zb at h;rw[fT]at h;have h1:=h t (mJ.2 ae);rw[wm,dI hlt]at h1;rw[dI hlt];simp only[Bool.not_true,Bool.false_or,Option.all_some]at h1;exact uE NK hc hg ht h1
 ·rw[mL];split<;>exact undef_vs
theorem Fv(b:Builtin)(ts:Array TypeId)(t:TypeId)(cs:Array Bool)(args:Array Value)(dU:jK S f o.dst=true)(h:Cs b=true)(Fx:b=.recover->iJ o=false):Simu H P (lO P S f o) (builtin b ts t cs args):=by
 cases b with
 |append=>exact st_value (NG _ _ _) dU
 |cap=>exact st_value (Yv _ _ _) dU
 |copy=>exact st_value (U7 _ _ _) dU
 |len=>exact st_value (Yu _ _ _) dU
 |max=>exact st_value (Yw _ _ _) dU
 |min=>exact st_value (Yx _ _ _) dU
 |recover=>exact simu_pure ⟨λd hd=>by rw[hd]at dU;simpa[jK]using dU,Fx rfl⟩
 |_=>cases h
theorem Bw(x:Value)(t u:TypeId)(b:Bool):ST H P (Instr.typeAssert x t u b):=by
 have holds:∀v:Value,ST H P (pure (if b then .tuple #[v,.bool true]else v)):=λv=>st_pure _;have fails:∀(y d:Option TypeId) (m:String),ST H P (do if b then pure (.tuple #[←zeroValue u,.bool false])else runtimePanic (.typeAssertion y d u m):Sem Value):=λy d m=>by
  split
  ·exact(iY _).then λ_=>st_pure _
  ·exact cH _
 unfold Instr.typeAssert;simp only;refine(dz u).then λd=>?_;split
 ·exact fails _ _ _
 ·refine(gI _).then λi=>?_;split
  ·exact holds _
  ·exact fails _ _ _
 ·exact fails _ _ _
 ·split
  ·exact holds _
  ·exact fails _ _ _
 ·exact bu _
theorem Fy(t:TypeId)(k:IntKind):ST H P (Instr.makeChan t (.int k 0)):=by
 unfold Instr.makeChan;refine Simu.bind (p:=λn=>n=0) (simu_pure rfl) λn hn=>?_;subst hn;refine(dz t).then λd=>?_;split
 ·refine(gI _).then λi=>?_;split
  ·exact(cH _).then λ_=>(ko rfl).then λ_=>st_pure _
  ·exact(ko rfl).then λ_=>st_pure _
 ·exact bu _
theorem Jj{name:String}(hM:S.abe P name)(n:Nat)(t:TypeId)(v:Value):Simu H P (λx=>S.L x.1=true/\∀y,S.ft x.1 y=false) (method n t v name):=by
 cases n with
 |zero=>exact(dead_unsup λ_=>au).nS
 |succ n=>
  unfold method;refine(Fi t).bind λi hi=>?_;cases hm:i.methods.find? (·.name==name)with
  |none=>exact(dead_halt (h:=.stuck _) rfl).nS
  |some m=>
   obtain⟨hp,f,hf,h1,h2⟩:=hM t i m hi hm;simp only[hp,hf];refine Simu.bind (p:=λx=>x=(t,.val v)) (simu_pure rfl) λx hx=>?_;subst hx;simp only;have Va:∀w,ST H P (receiverAt t (.val v) true w):=λw=>by
    unfold receiverAt;refine(dz t).then λd=>?_;cases d<;>first
     |exact st_pure _
     |exact bu _
   exact(Va _).then λr=>simu_pure ⟨h1,h2⟩
theorem wq(t:TypeId)(x:Value):ST H P (Instr.makeInterface t x):=by unfold Instr.makeInterface;exact sT
theorem Vb(w:World):w.sys .env=(.strings w.os.env,{w with os:={w.os with wall:=w.os.wall,mono:=w.os.mono,coarse:=w.os.coarse}}):=rfl
theorem QV(w:World):w.sys .env=(.strings w.os.env,w):=by rw[Vb]
theorem QW{p:α->Prop}{k:SysRet->Sem α}(h:∀r,Simu H P p (k r)):Simu H P p (sys .env >>= k):=by
 intro a r ea es hR;have e2:∀w es,(sys .env >>= k).runT P w es=(k (.strings w.os.env)).runT P w (es.push ⟨.output,true,false⟩):=λw es=>by show Sem.runT P (k (w.sys .env).1) (w.sys .env).2 _=_;rw[QV]
 rw[e2,e2,hR.os];have h1:=h (.strings r.os.env) a r (ea.push ⟨.output,true,false⟩) (es.push ⟨.output,true,false⟩) hR;generalize (k (.strings r.os.env)).runT P a (ea.push ⟨.output,true,false⟩)=X at h1;have hw:∀a' r' er,Went H (es.push ⟨.output,true,false⟩) a a' r r' er->Went H es a a' r r' er:=λa' r' er hw=>⟨hw.rel,hw.tape,hw.drawn,hw.hidden,λe he=>by
  rcases hw.evs e he with he|he
  ·exact(gA.1 he).imp id λh=>by subst h;exact trivial
  ·exact .inr he,λe he=>by
  rcases hw.evin e he with he|he
  ·exact U6
  ·exact .inr he,hw.grow,hw.eqk,hw.kept,λe he=>by
  rcases hw.rov e he with he|he
  ·exact U6
  ·exact .inr he,hw.growa,hw.shp,hw.shpr,hw.same⟩
 obtain⟨rx,ex⟩:=X;cases rx with
 |ok v a'=>exact⟨h1.1,h1.2.1,h1.2.2.1,λfB=>(h1.2.2.2 fB).imp λr' ⟨er,e,h⟩=>⟨er,e,hw _ _ _ h⟩⟩
 |halt hh a'=>
  cases hh with
  |panic v=>exact⟨h1.1,h1.2.1,λfB=>(h1.2.2 fB).imp λr' ⟨er,e,h⟩=>⟨er,e,hw _ _ _ h⟩⟩
  |_=>exact h1
theorem FA:ST H P Instr.panicnil:=by
 unfold Instr.panicnil;refine QW λr=>?_;split
 ·exact simu_program.then λ_=>st_pure _
 ·exact bu _
theorem QX(x:Value):ST H P (Instr.panic x):=by
 unfold Instr.panic;split
 ·exact iL _
 ·refine FA.then λn=>?_;split
  ·exact iL _
  ·exact cH _
 ·exact bu _
theorem Vd(hR:S.Rows H P)(hB:S.iM P){tmps:Array Value}(NK:∀t,ρ (.tmp t)=tmps.getD t undef)(hc:∀v,ρ (.const v)=v)(hg:∀g,ρ (.func g)=.func (.func g) #[] #[])(ht:pY S f tmps)(h:QI P S f o=true):
  Simu H P (lO P S f o) (execOp ρ o):=by
 unfold QI at h;split at h;rotate_left
 ·cases h
 rename_i g xs ats d hop hd;simp only[bK,uF,decide_eq_true_eq]at h;obtain⟨⟨⟨⟨⟨h1,h2⟩,h3⟩,h4⟩,h5⟩,h6⟩:=h;unfold execOp;rw[hop];simp only[resolve];show Simu H P _ (Deferred.ofValue (ρ (.func g)) (xs.map ρ) >>= λd=>invoke d.target d.args);rw[hg];refine Simu.bind (p:=λd=>d={target:=.fn (.func g) #[],args:=#[] ++xs.map ρ}) (simu_pure rfl) λd' r9=>?_;subst r9;show Simu H P _ (callFunc g ((#[] ++xs.map ρ) ++ #[]));rw[uG,Array.empty_append];unfold callFunc;refine simu_program.bind λP' hP=>?_;subst hP;obtain⟨fn,b1,b2,b3⟩:=hB g h4;rw[b1];simp only[b2,b3,dS,if_false];refine simu_pure ⟨λd'' abf _=>?_,h4,by rw[Array.size_map];exact DI NK hc hg ht h5 h6 _⟩;rw[hd]at abf;obtain rfl:=aP abf;exact⟨h1,h2⟩
theorem QY(hR:S.Rows H P)(hB:S.iM P)(hL:S.nV){tmps:Array Value}(NK:∀t,ρ (.tmp t)=tmps.getD t undef)(hc:∀v,ρ (.const v)=v)(hg:∀g,ρ (.func g)=.func (.func g) #[] #[])(ht:pY S f tmps)(h:eV P S f o=true):
  Simu H P (lO P S f o) (execOp ρ o):=by
 unfold eV at h;rw[uA]at h;rcases h with h|h
 rotate_left
 ·exact Vd hR hB NK hc hg ht h
 generalize sI:jK S f o.dst=free at h;generalize hit:UY S f o.dst=it at h;have mv:∀x:Operand,(free||oU S f it x)=true->Simu H P (lO P S f o) (pure (.value (ρ x))):=λx hx=>simu_pure λd hd hf=>by rw[hd]at sI hit;simp only[jK,UY,hf]at sI hit;subst sI;have:=uE (it:=it) NK hc hg ht (by simpa using hx);rw[zA,hit];exact this
 have st:=λ(x:Sem Value) (hx:ST H P x) (hf:free=true)=>st_value (P:=P) (S:=S) (f:=f) (o:=o) hx (sI.trans hf);unfold execOp;generalize hop:o.op=op at h;cases op with
 |move x=>exact mv x h
 |assign x=>exact mv x h
 |pick c a b=>refine(vU _).then λv=>simu_pure λd hd hf=>?_;rw[hd]at sI;simp only[jK,hf]at sI;rw[←sI]at h;cases h
 |alloc t=>exact st _ (QO t) h
 |box t x=>exact st _ (Yt _ _) h
 |build t ps=>exact st _ (QP _ _) h
 |buildSlice t n ps=>exact st _ (Bq _ _ _) h
 |load t a=>exact st _ (ND _ _) h
 |store t a x=>exact U8 (Jc _ _ _)
 |nilCheck x=>
  have hv:∀v:Value,Simu H P (lO P S f o) (pure (.value v)):=λv=>simu_pure λd hd hf=>by rw[hd]at sI;simp only[jK,hf]at sI;rw[←sI]at h;cases h
  simp only;split
  ·exact eQ
  ·exact eQ
  ·exact eQ
  ·split
   ·exact eQ
   ·refine simu_program.then λp=>(xG _ _ _ _).then λb=>?_;split
    ·exact((dead_unsup λ_=>au).bind).nS
    ·exact hv _
   ·exact hv _
  ·exact hv _
 |unOp u t x=>exact st _ (QN _ _) h
 |binOp b t x y z=>
  simp only[I5,bK]at h;refine st _ ?_ h.1;obtain⟨dU,h2⟩:=h;have nil:∀z:Operand,rI z=true->ρ z=.pointer none:=λz hz=>by
   unfold rI at hz;split at hz
   ·exact hc _
   ·cases hz
  have hq:QH b=true->Fb P t=true/\(za P t=true->ρ x=.pointer none\/ρ y=.pointer none):=λhb=>by rw[hb]at h2;simp only[Bool.not_true,Bool.false_or,bK]at h2;refine⟨h2.1,λhp=>?_⟩;have h3:=h2.2;rw[hp]at h3;simp only[Bool.not_true,Bool.false_or,uA]at h3;exact h3.imp (nil _) (nil _)
  have g1:ST H P (eqGuard b t x y (ρ x) (ρ y)):=Jb b t x y _ _ (by cases b<;>first|exact λ_=>(hq rfl).1|exact λh=>bY);have g2:ST H P (binOp b t (ρ x) (ρ y)):=QM b t _ _ (by cases b<;>first|exact λ_=>hq rfl|exact λh=>bY);exact g1.then λ_=>g2
 |convert s d x=>simp only[I5,bK]at h;exact st _ (Ji _ _ _ h.1.2 h.2) h.1.1
 |makeFunc fn first captured=>
  refine Simu.bind (p:=λv=>v=.func fn (first.map ρ) (captured.map ρ)) (simu_pure rfl) λv hv=>?_;subst hv;refine simu_pure λd hd hf=>?_;rw[hd]at sI;simp only[jK,hf]at sI;subst sI;rw[hd]at hit;simp only[UY]at hit;rw[zA,hit];cases fn with
  |func g=>
   simp only[I5,Bool.not_true,Bool.false_or,bK]at h;obtain⟨h1,h2⟩:=h;have he:(first.map ρ).isEmpty=true:=(by simpa[Array.isEmpty]using h2);cases it with
   |false=>have h1:S.C g=true:=h1;show(S.C g&&(first.map ρ).isEmpty)=true;rw[h1,he];rfl
   |true=>have h1:(S.I g&&decide (captured.size<=7))=true:=h1;rw[bK]at h1;show(S.I g&&(first.map ρ).isEmpty&&decide ((captured.map ρ).size<=7))=true;rw[h1.1,he,Array.size_map,h1.2];rfl
  |_=>cases h
 |makeMap t r=>exact st _ (Jh _ _) h
 |makeSlice t l c=>exact st _ (DD _ _ _) h
 |slice t x l hh m=>exact st _ (Jf _ _ _ _ _) h
 |fieldAddr t x i=>exact st _ (Jd _ _ _) h
 |field t x i=>exact st _ (QR _ _ _) h
 |indexAddr t x i=>exact st _ (Je _ _ _) h
 |index t x i=>exact st _ (QS _ _ _) h
 |extract x i=>exact st _ (Jg _ _) h
 |makeInterface t x=>exact st _ (wq _ _) h
 |panic x=>exact st _ (QX _) h
 |typeAssert x t u b=>exact st _ (Bw _ _ _ _) h
 |makeChan t x=>
  simp only[I5,bK]at h;refine st _ ?_ h.1;have hx:∃k,ρ x=.int k 0:=by
   have h2:=h.2;unfold ze at h2;split at h2
   ·rename_i k;exact⟨k,hc _⟩
   ·cases h2
  obtain⟨k,hx⟩:=hx;rw[hx];exact Fy t k
 |defer c=>
  simp only[I5,bK]at h;obtain⟨_,hk⟩:=h;obtain⟨callee,kQ,ats⟩:=c;unfold Mj at hk;simp only[resolve];cases callee with
  |builtin b=>cases hk
  |invoke r m=>cases hk
  |value x=>
   cases x with
   |const v=>cases hk
   |global g=>cases hk
   |tmp t=>
    show Simu H P _ (Deferred.ofValue (ρ (.tmp t)) (kQ.map ρ) >>= λd=>pure (Next.defer d));simp only[bK,uF]at hk;have hv:VF S (ρ (.tmp t))=true:=(by have:=ht t hk.1.1;rw[zA,hk.1.2]at this;rw[NK];exact this);generalize ρ (.tmp t)=v at hv;unfold Deferred.ofValue;cases v with
    |func fn first captured=>
     refine Simu.bind (p:=λd=>d={target:=.fn fn captured,args:=first++kQ.map ρ}) (simu_pure rfl) λd hd=>?_;subst hd;cases fn with
     |func g=>simp only[VF,bK]at hv;exact simu_pure ⟨.inr (.inl ⟨g,captured,rfl,(hL g hv.1).1,λt ht=>by rw[(hL g hv.1).2 t]at ht;cases ht⟩),by unfold iJ;rw[hop]⟩
     |yield l=>simp only[VF,hk.2,Bool.false_and]at hv;cases hv
     |_=>cases hv
    |nilFunc=>refine Simu.bind (p:=λd=>d={target:=.nil,args:=kQ.map ρ}) (simu_pure rfl) λd hd=>?_;subst hd;exact simu_pure ⟨.inl rfl,by unfold iJ;rw[hop]⟩
    |_=>exact(dead_halt (h:=.stuck _) rfl).bind.nS
   |func g=>show Simu H P _ (Deferred.ofValue (ρ (.func g)) (kQ.map ρ) >>= λd=>pure (Next.defer d));rw[hg];refine Simu.bind (p:=λd=>d={target:=.fn (.func g) #[],args:=#[] ++kQ.map ρ}) (simu_pure rfl) λd hd=>?_;subst hd;refine simu_pure ⟨.inr (.inl ⟨g,#[],rfl,?_⟩),by unfold iJ;rw[hop]⟩;show wj P S g ((#[] ++kQ.map ρ) ++ #[]);rw[uG,Array.empty_append];simp only[bK,decide_eq_true_eq]at hk;obtain⟨⟨h1,h2⟩,h3⟩:=hk;exact⟨h1,by rw[Array.size_map];exact DI NK hc hg ht h2 h3 _⟩
 |select cs b=>refine(I7 _ (λx=>(iY _).then λ_=>st_pure _) _).then λcs'=>?_;exact simu_pure h
 |call c=>
  simp only[I5,bK]at h;obtain⟨hf,hk⟩:=h;have dU:=sI.trans hf;obtain⟨callee,kQ,ats⟩:=c;unfold QG at hk;simp only[resolve];cases callee with
  |builtin b=>simp only at hk⊢;refine Simu.bind (p:=λd=>d.target=.builtin b ats o.type (kQ.map fun|.const _=>true|_=>false)) (simu_pure rfl) λd hd=>?_;rw[hd];show Simu H P _ (builtin b ats o.type _ d.args);exact Fv b _ _ _ _ dU hk λhb=>by subst hb;unfold iJ;rw[hop]
  |invoke r m=>
   simp only at hk⊢;refine Simu.bind (p:=λd=>d={target:=.fn (.method m) #[],args:=#[ρ r] ++kQ.map ρ}) (simu_pure rfl) λd hd=>?_;subst hd;show Simu H P _ (invoke (.fn (.method m) #[]) (#[ρ r] ++kQ.map ρ));unfold invoke;simp only[Array.getElem?_append,Array.size_singleton,Nat.zero_lt_one,if_true];show Simu H P _ (callMethod (ρ r) m _);unfold callMethod;split
   ·refine simu_program.then λ_=>(Jj (hR.meth m hk) _ _ _).bind λx hx=>?_;exact o7 hR hB x.1 _ dU (.inr ⟨hx.1,λt ht=>by rw[hx.2 t]at ht;cases ht⟩)
   ·exact eQ
   ·exact(dead_halt (h:=.stuck _) rfl).nS
  |value x=>
   have dyn:VF S (ρ x)=true->Simu H P (lO P S f o) (Deferred.ofValue (ρ x) (kQ.map ρ) >>= λd=>invoke d.target d.args):=λhv=>by
    generalize ρ x=v at hv;unfold Deferred.ofValue;cases v with
    |func fn first captured=>
     refine Simu.bind (p:=λd=>d={target:=.fn fn captured,args:=first++kQ.map ρ}) (simu_pure rfl) λd hd=>?_;subst hd;cases fn with
     |func g=>simp only[VF,bK]at hv;exact o7 hR hB g _ dU (.inr ⟨(hL g hv.1).1,λt ht=>by rw[(hL g hv.1).2 t]at ht;cases ht⟩)
     |yield l=>simp only[VF,bK]at hv;obtain⟨rfl,rfl⟩:=hR.more.1 hv.1;show Simu H _ _ (Instr.yield l _);refine(NJ l _).mono λn hn=>?_;obtain⟨f',afo,a,b,rfl,h1,h2,h3,h4,h5⟩:=hn;exact⟨λd hd=>by rw[hd]at dU;simpa[jK]using dU,hv.1,h1,h2,h3,h4,h5⟩
     |_=>cases hv
    |nilFunc=>refine Simu.bind (p:=λd=>d={target:=.nil,args:=kQ.map ρ}) (simu_pure rfl) λd hd=>?_;subst hd;exact eQ
    |_=>exact(dead_halt (h:=.stuck _) rfl).bind.nS
   cases x with
   |tmp t=>exact dyn (uE (it:=false) NK hc hg ht hk)
   |const v=>exact dyn (uE (it:=false) NK hc hg ht hk)
   |global g=>cases hk
   |func g=>
    show Simu H P _ (Deferred.ofValue (ρ (.func g)) (kQ.map ρ) >>= λd=>invoke d.target d.args);rw[hg];refine Simu.bind (p:=λd=>d={target:=.fn (.func g) #[],args:=#[] ++kQ.map ρ}) (simu_pure rfl) λd hd=>?_;subst hd;show Simu H P _ (callFunc g ((#[] ++kQ.map ρ) ++ #[]));rw[uG,Array.empty_append];refine o7 hR hB g _ dU ?_;simp only[uA,bK,decide_eq_true_eq]at hk;rcases hk with hk|⟨⟨h1,h2⟩,h3⟩
    ·exact .inl hk
    ·exact .inr ⟨h1,by rw[Array.size_map];exact DI NK hc hg ht h2 h3 _⟩
 |_=>cases h
end
def DJ(P:Program)(S:ba)(f:Nat)(rd:Bool)(c:Code):Bool:=cR P S f c&&(!rd||fM c)
def kB(P:Program)(S:ba)(f:Nat)(rd:Bool):Item->Bool
 |.code c=>DJ P S f rd c
 |.inBlock _=>true
 |.inLoop b=>DJ P S f rd b
 |.inScope b=>DJ P S f rd b
 |.inRegion ops _=>ops.all (eV P S f) &&(!rd||ops.all iJ)
 |.inRangeFunc _=>S.R&&!rd
 |.endRangeFunc _=>S.R&&!rd
 |.beginRound=>S.R&&rd
 |_=>false
theorem DK{P:Program}{S:ba}{a b:Code}:DJ P S f rd (.seq a b)=true↔DJ P S f rd a=true/\DJ P S f rd b=true:=by cases rd<;>simp[DJ,cR,fM,bK] <;>(constructor<;>(intro h;simp_all))
theorem QZ{P:Program}{S:ba}{x:Operand}{a b:Code}:DJ P S f rd (.cond x a b)=true↔DJ P S f rd a=true/\DJ P S f rd b=true:=by cases rd<;>simp[DJ,cR,fM,bK] <;>(constructor<;>(intro h;simp_all))
theorem rL{P:Program}{S:ba}{c:Code}(h1:cR P S f c=true)(h2:fM c=true):DJ P S f rd c=true:=by unfold DJ;rw[h1,h2];cases rd<;>rfl
def ba.Plain(S:ba)(P:Program):Prop:=∀g,S.L g=true->cR P S g (((P.funcs[g]?).bind (·.body)).getD (.refuse "unsupported: a function without a Go body is entered"))=true
structure FI(P:Program)(S:ba)(fr:Frame):Prop where
 todo:∀it∈fr.todo,kB P S fr.fn fr.roundOf.isSome it=true
 defers:∀d∈fr.defers,mK P S d
 kind:fr.kind=.normal\/fr.kind=.deferred
 round:fr.roundOf=none\/(S.R=true/\fr.defers=[]/\fr.kind=.normal)
 ft:pY S fr.fn fr.tmps
def abg(c:Frame):Prop:=(∃ops i rest k,c.todo=.inRegion ops (i::rest)::k)\/∃l k,c.todo=.inRangeFunc l::k
def bQ(P:Program)(S:ba):Frame->List Frame->Prop
 |fr,[]=>FI P S fr/\fr.kind=.normal
 |fr,c::fs=>FI P S fr/\(fr.kind=.deferred\/((∀v,(S.rt fr.fn=true->VI S v=true)->FI P S (c.finish v))/\abg c))/\bQ P S c fs
def K0:List Item:=[.code (.refuse "")]
def Sw:Option (List Item)->Frame->Frame->Prop
 |none,fr,bo=>bo=fr
 |some K,fr,bo=>∃A,fr.todo=A++K0/\bo={fr with todo:=A++K}
def o8(κ:Option (List Item)):Frame->List Frame->Frame->List Frame->Prop
 |fr,[],bo,cj=>Sw κ fr bo/\cj=[]
 |fr,c::fs,bo,cj=>bo=fr/\∃c2 se,cj=c2::se/\o8 κ c fs c2 se
abbrev bh(fr:Frame)(cs:List Frame):Goroutine:={frame:=fr,callers:=cs,status:=.running,dying:=none}
def Outcome(H:Nat->Prop)(P:Program)(S:ba)(fr:Frame)(fs:List Frame)(a:World):Prop:=
 (∃aZ bz a',bQ P S aZ bz/\a'.tape=a.tape/\a.drawn<=a'.drawn/\
  ∀r,Rel H a r->pH a a' r->∃r' er,Went H #[] a a' r r' er/\∀κ bo cj,o8 κ fr fs bo cj->∃qp se,o8 κ aZ bz qp se/\∀m cs,stepG P m (bh bo (cj++cs)) r=.go (bh qp (se++cs)) r' er)\/
 (fs=[]/\∀m c cs,∃c' a' es,stepG P m (bh fr (c::cs)) a=.go (bh c' cs) a' es/\((∃v,c'=c.finish v)\/∃chain,c'=c.raise chain))\/
 (∀m cs,∃o w es,stepG P m (bh fr (fs++cs)) a=.ended o w es)\/
 (∀m cs,∃cases shape a' es,stepG P m (bh fr (fs++cs)) a=.comm (bh fr (fs++cs)) cases true shape a' es/\Rel H a' a')
section
variable{P:Program}{S:ba}
theorem DL:∀{c:Code} {l:Nat} {c':Code},DJ P S f rd c=true->findLabel c l=some c'->DJ P S f rd c'=true:=by
 intro c;induction c with
 |seq a b iha ihb=>
  intro l c' h hf;rw[DK]at h;simp only[findLabel]at hf;split at hf
  ·rename_i r hr;obtain rfl:=aP hf;exact DK.2 ⟨iha h.1 hr,h.2⟩
  ·exact ihb h.2 hf
 |label afy=>
  intro l c' _ hf;simp only[findLabel]at hf;split at hf
  ·obtain rfl:=aP hf;exact rL rfl rfl
  ·cases hf
 |_=>intro l c' _ hf;simp[findLabel]at hf
theorem tz{id:Nat}:∀{k k':List Item},exitTo id k=some k'->∀it∈k',it∈k
 |[],_,h=>by simp[exitTo]at h
 |it::k,k',h=>λx hx=>by
  unfold exitTo at h;split at h
  ·split at h
   ·obtain rfl:=aP h;rename_i e _;cases e;exact gJ _ hx
   ·rename_i e _;cases e;exact gJ _ (tz h x hx)
  ·rename_i e;cases e;exact gJ _ (tz h x hx)
  ·cases h
theorem wu{l:Nat}:∀{k k':List Item},(∀it∈k,kB P S f rd it=true)->gotoIn l k=some k'->∀it∈k',kB P S f rd it=true
 |[],_,_,h=>by simp[gotoIn]at h
 |it::k,k',hk,h=>by
  unfold gotoIn at h;split at h
  ·rename_i body k₁ e;injection e with e1 e2
   subst e1 e2;split at h
   ·rename_i rest hr;obtain rfl:=aP h;intro x hx;rcases dM.1 hx with rfl|hx
    ·exact DL (hk _ (jE)) hr
    ·rcases dM.1 hx with rfl|hx
     ·exact hk _ jE
     ·exact hk _ (gJ _ hx)
   ·exact wu (λx hx=>hk x (gJ _ hx)) h
  ·rename_i e;injection e with e1 e2
   subst e1 e2;exact wu (λx hx=>hk x (gJ _ hx)) h
  ·cases h
theorem mem_seen{es:Array Event}:∀e∈seen P f es,e∈es:=by
 unfold seen;simp only;intro e;rw[←Array.foldl_toList];suffices h:∀(l:List Event) (q:Bool) (kept:Array Event),e∈(l.foldl (λ(x:Bool×Array Event) (e:Event)=>match e.loc with
  |.mark (.extern f)=>((P.funcs[f]?).any (·.norace),x.2)
  |_=>(x.1,if x.1&&!e.sync then x.2 else x.2.push e)) (q,kept)).2->e∈kept\/e∈l by
  intro he;rcases h es.toList _ _ he with h|h
  ·simp at h
  ·simpa using h
 intro l;induction l with
 |nil=>exact λq kept h=>.inl h
 |cons x l ih=>
  intro q kept h;rw[sH]at h;have key:∀q' kept',(kept'=kept\/kept'=kept.push x)->e∈(l.foldl (λ(x:Bool×Array Event) (e:Event)=>match e.loc with
    |.mark (.extern f)=>((P.funcs[f]?).any (·.norace),x.2)
    |_=>(x.1,if x.1&&!e.sync then x.2 else x.2.push e)) (q',kept')).2->e∈kept\/e∈x::l:=λq' kept' hk hm=>by
   rcases ih q' kept' hm with h1|h1
   ·rcases hk with rfl|rfl
    ·exact .inl h1
    ·rcases gA.1 h1 with h2|rfl
     ·exact .inl h2
     ·exact .inr jE
   ·exact .inr (gJ _ h1)
  split at h
  ·exact key _ _ (.inl rfl) h
  ·split at h
   ·exact key _ _ (.inl rfl) h
   ·exact key _ _ (.inr rfl) h
theorem bQ.fi(h:bQ P S fr fs):FI P S fr:=by
 cases fs with
 |nil=>exact h.1
 |cons c fs=>exact h.1
theorem bQ.to(h:bQ P S fr fs)(hF:FI P S aZ)(hk:aZ.kind=fr.kind)(hfn:aZ.fn=fr.fn:=by rfl):bQ P S aZ fs:=by
 cases fs with
 |nil=>exact⟨hF,hk.trans h.2⟩
 |cons c fs=>exact⟨hF,h.2.1.imp (λe=>hk.trans e) (λe=>by rw[hfn];exact e),h.2.2⟩
theorem dN(h:o8 κ fr fs bo cj):bo={fr with todo:=bo.todo}:=by
 cases fs with
 |nil=>
  obtain⟨h,_⟩:=h;cases κ with
  |none=>obtain rfl:bo=fr:=h;rfl
  |some K=>obtain⟨A,_,rfl⟩:=h;rfl
 |cons c fs=>obtain⟨rfl,_⟩:=h;rfl
theorem jb(h:o8 κ fr fs bo cj)(e:aZ.todo=fr.todo):o8 κ aZ fs {aZ with todo:=bo.todo} cj:=by
 cases fs with
 |nil=>
  obtain⟨h,h2⟩:=h;refine⟨?_,h2⟩;cases κ with
  |none=>obtain rfl:bo=fr:=h;show _=aZ;rw[←e]
  |some K=>obtain⟨A,h1,rfl⟩:=h;exact⟨A,e.trans h1,rfl⟩
 |cons c fs=>obtain⟨rfl,h⟩:=h;exact⟨by rw[←e],h⟩
theorem tB{id:Nat}{K:List Item}:∀{A k':List Item},exitTo id (A++K0)=some k'->∃A',k'=A'++K0/\exitTo id (A++K)=some (A'++K)
 |[],k',h=>by simp[K0,exitTo]at h
 |it::A,k',h=>by
  rw[jc]at h⊢;cases it with
  |inBlock i=>
   by_cases e:i=id
   ·simp only[exitTo,e,beq_self_eq_true,if_true,cu]at h⊢;exact⟨A,h.symm,au⟩
   ·simp only[exitTo,e,if_false,beq_iff_eq]at h⊢;exact tB h
  |_=>simp only[exitTo]at h⊢;exact tB h
theorem tC{l:Nat}{K:List Item}:∀{A k':List Item},gotoIn l (A++K0)=some k'->∃A',k'=A'++K0/\gotoIn l (A++K)=some (A'++K)
 |[],k',h=>by simp[K0,gotoIn]at h
 |it::A,k',h=>by
  rw[jc]at h⊢;cases it with
  |inScope b=>
   simp only[gotoIn]at h⊢;cases e:findLabel b l with
   |some r=>rw[e]at h;simp only[cu]at h⊢;exact⟨.code r:: .inScope b::A,h.symm,rfl⟩
   |none=>rw[e]at h;exact tC h
  |_=>simp only[gotoIn]at h⊢;exact tC h
theorem dG{it:Item}(h:o8 κ fr fs bo cj)(ht:fr.todo=it::k)(hne:it≠.code (.refuse "")):
  ∃k2,bo={fr with todo:=it::k2}/\(∀pre (aZ:Frame),aZ.todo=pre++k->o8 κ aZ fs {aZ with todo:=pre++k2} cj)/\
   (∀id k',exitTo id k=some k'->∃Q0,exitTo id k2=some Q0/\o8 κ {fr with todo:=k'} fs {fr with todo:=Q0} cj)/\
   (∀l k',gotoIn l k=some k'->∃Q0,gotoIn l k2=some Q0/\o8 κ {fr with todo:=k'} fs {fr with todo:=Q0} cj):=by
 have abh:bo=fr->(∀aZ:Frame,o8 κ aZ fs aZ cj)->_:=λe h'=>(⟨k,by rw[e,←ht],λpre aZ e=>by rw[←e];exact h' aZ,λid k' h1=>⟨k',h1,h' _⟩,λl k' h1=>⟨k',h1,h' _⟩⟩:∃k2,bo={fr with todo:=it::k2}/\(∀pre (aZ:Frame),aZ.todo=pre++k->o8 κ aZ fs {aZ with todo:=pre++k2} cj)/\
   (∀id k',exitTo id k=some k'->∃Q0,exitTo id k2=some Q0/\o8 κ {fr with todo:=k'} fs {fr with todo:=Q0} cj)/\
   (∀l k',gotoIn l k=some k'->∃Q0,gotoIn l k2=some Q0/\o8 κ {fr with todo:=k'} fs {fr with todo:=Q0} cj))
 cases fs with
 |nil=>
  obtain⟨h,h2⟩:=h;subst h2;cases κ with
  |none=>exact abh h λaZ=>⟨rfl,rfl⟩
  |some K=>
   obtain⟨A,h1,rfl⟩:=h;cases A with
   |nil=>rw[ht]at h1;simp only[K0,kR,List.cons.injEq]at h1;exact absurd h1.1 hne
   |cons it' A=>
    rw[ht]at h1;simp only[jc,List.cons.injEq]at h1;obtain⟨rfl,rfl⟩:=h1;refine⟨A++K,rfl,λpre aZ e=>⟨⟨pre++A,by rw[e,uH],by rw[uH]⟩,rfl⟩,λid k' h1=>?_,λl k' h1=>?_⟩
    ·obtain⟨A',rfl,h3⟩:=tB (K:=K) h1;exact⟨_,h3,⟨A',rfl,rfl⟩,rfl⟩
    ·obtain⟨A',rfl,h3⟩:=tC (K:=K) h1;exact⟨_,h3,⟨A',rfl,rfl⟩,rfl⟩
 |cons c fs=>obtain⟨h1,h2⟩:=h;exact abh h1 λaZ=>⟨rfl,h2⟩
theorem nW(fr:Frame)(fs:List Frame):o8 none fr fs fr fs:=by
 induction fs generalizing fr with
 |nil=>exact⟨rfl,rfl⟩
 |cons c fs ih=>exact⟨rfl,c,fs,rfl,ih c⟩
theorem zB(h:o8 none fr fs bo cj):bo=fr/\cj=fs:=by
 induction fs generalizing fr bo cj with
 |nil=>exact h
 |cons c fs ih=>obtain⟨rfl,c2,se,rfl,h⟩:=h;obtain⟨rfl,rfl⟩:=ih h;exact⟨rfl,rfl⟩
theorem lH(h:o8 κ fr fs bo cj)(c:List PanicEntry):o8 κ (fr.raise c) fs (bo.raise c) cj:=by
 have h1:=jb (aZ:=fr.raise c) h (by unfold Frame.raise;split<;>rfl);have e:bo.raise c={fr.raise c with todo:=bo.todo}:=by rw[dN h];unfold Frame.raise;simp only;split<;>rfl
 rw[e];exact h1
theorem Mo(h:o8 κ fr fs bo cj)(ht:fr.todo=[]):bo=fr:=by
 cases fs with
 |nil=>
  obtain⟨h,_⟩:=h;cases κ with
  |none=>exact h
  |some K=>obtain⟨A,h1,rfl⟩:=h;rw[ht]at h1;cases A<;>simp[K0]at h1
 |cons c fs=>exact h.1
theorem qq(h:o8 κ fr fs bo cj)(x:Frame):o8 κ x (fr::fs) x (bo::cj):=⟨rfl,bo,cj,rfl,h⟩
theorem jN{ops:Array Oper}{rest:List Nat}(h:o8 κ fr fs bo cj)(ht:fr.todo=.inRegion ops (i::rest)::k)(v:Value):o8 κ (fr.finish v) fs (bo.finish v) cj:=by
 obtain⟨k2,rfl,h1,_⟩:=dG h ht au;have e1:fr.finish v={fr with tmps:=(match(ops[i]?).bind (·.dst)with|some d=>fr.tmps.setIfInBounds d v|none=>fr.tmps),todo:=.inRegion ops rest::k}:=by unfold Frame.finish;rw[ht];rfl
 have e2:({fr with todo:=.inRegion ops (i::rest)::k2}:Frame).finish v={fr.finish v with todo:=[.inRegion ops rest] ++k2}:=by rw[e1];rfl
 rw[e2];exact h1 [.inRegion ops rest] _ (by rw[e1];rfl)
theorem FB{l:Nat}(h:o8 κ fr fs bo cj)(ht:fr.todo=.inRangeFunc l::k)(v:Value):o8 κ (fr.finish v) fs (bo.finish v) cj:=by
 obtain⟨k2,rfl,h1,_⟩:=dG h ht au;have e1:fr.finish v={fr with todo:=.endRangeFunc l::k}:=by unfold Frame.finish;rw[ht]
 have e2:({fr with todo:=.inRangeFunc l::k2}:Frame).finish v={fr.finish v with todo:=[.endRangeFunc l] ++k2}:=by rw[e1];rfl
 rw[e2];exact h1 [.endRangeFunc l] _ (by rw[e1];rfl)
theorem xH(h:o8 κ fr fs bo cj)(ht:abg fr)(v:Value):o8 κ (fr.finish v) fs (bo.finish v) cj:=by
 rcases ht with⟨ops,i,rest,k,ht⟩|⟨l,k,ht⟩
 ·exact jN h ht v
 ·exact FB h ht v
theorem Outcome.pure(h:bQ P S aZ fs)(hs:∀κ bo cj,o8 κ fr fs bo cj->∃qp,o8 κ aZ fs qp cj/\∀m cs w,stepG P m (bh bo cs) w=.go (bh qp cs) w #[]):Outcome H P S fr fs a:= .inl ⟨aZ,fs,a,h,rfl,aY _,λr hr _=>⟨r,#[],iN hr _,λκ bo cj h=>by obtain⟨qp,h1,h2⟩:=hs κ bo cj h;exact⟨qp,cj,h1,λm cs=>h2 m _ r⟩⟩⟩
theorem Outcome.dead(hs:∀m cs,∃o w es,stepG P m (bh fr cs) a=.ended o w es):Outcome H P S fr fs a:= .inr (.inr (.inl λm cs=>hs m (fs++cs)))
theorem bS{r:World}(h:Went H #[] a a' r r' er):Went H #[] a a' r r' (seen P f er++ #[]):=
 ⟨h.rel,h.tape,h.drawn,h.hidden,λe he=>by
  rw[uG]at he;exact h.evs e (mem_seen e he),λe he=>by
  rw[uG]at he;exact h.evin e (mem_seen e he),h.grow,h.eqk,h.kept,λe he=>by
  rw[uG]at he;exact h.rov e (mem_seen e he),h.growa,h.shp,h.shpr,h.same⟩
theorem tD(xs:Array α)(i j:Nat)(v d:α):(xs.setIfInBounds i v).getD j d=if i=j/\j<xs.size then v else xs.getD j d:=by
 simp only[cE,Ff];by_cases e:i=j
 ·subst e;by_cases h:i<xs.size<;>simp[h]
 ·simp[e]
theorem FI.finish(hF:FI P S fr){ops:Array Oper}{rest:List Nat}(ht:fr.todo=.inRegion ops (i::rest)::k)(hv:∀d,(ops[i]?).bind (·.dst)=some d->S.ft fr.fn d=true->VS S fr.fn d v=true):FI P S (fr.finish v):=by
 have e:fr.finish v={fr with tmps:=(match(ops[i]?).bind (·.dst)with|some d=>fr.tmps.setIfInBounds d v|none=>fr.tmps),todo:=.inRegion ops rest::k}:=by unfold Frame.finish;rw[ht];rfl
 rw[e];refine⟨λit hit=>?_,hF.defers,hF.kind,hF.round,?_⟩
 ·have h1:=hF.todo;rw[ht]at h1;rcases dM.1 hit with rfl|hit
  ·exact h1 (.inRegion ops (i::rest)) jE
  ·exact h1 _ (gJ _ hit)
 ·intro t htf;show VS S fr.fn t ((match(ops[i]?).bind (·.dst)with
   |some d=>fr.tmps.setIfInBounds d v
   |none=>fr.tmps).getD t undef)=true
  cases hd:(ops[i]?).bind (·.dst)with
  |none=>exact hF.ft t htf
  |some d=>
   simp only;rw[tD];split
   ·rename_i h;obtain⟨rfl,_⟩:=h;exact hv _ hd htf
   ·exact hF.ft t htf
theorem FI.raise(hF:FI P S fr)(c:List PanicEntry):FI P S (fr.raise c):=by unfold Frame.raise;split<;>exact⟨hF.todo,hF.defers,hF.kind,hF.round,hF.ft⟩
theorem jO(c:List PanicEntry):(fr.raise c).kind=fr.kind:=by unfold Frame.raise;split<;>rfl
theorem nX(c:List PanicEntry):(fr.raise c).fn=fr.fn:=by unfold Frame.raise;split<;>rfl
theorem jP(v:Value):(fr.finish v).fn=fr.fn:=by unfold Frame.finish;split<;>rfl
theorem fL(v:Value):(fr.finish v).kind=fr.kind:=by unfold Frame.finish;split<;>rfl
theorem FI.Ve(hF:FI P S fr){l:Nat}(ht:fr.todo=.inRangeFunc l::k)(v:Value):FI P S (fr.finish v):=by
 have e:fr.finish v={fr with todo:=.endRangeFunc l::k}:=by unfold Frame.finish;rw[ht]
 rw[e];have h1:=hF.todo;rw[ht]at h1;exact⟨λit hit=>(dM.1 hit).elim (λe=>by subst e;exact h1 (.inRangeFunc l) jE) λh=>h1 _ (gJ _ h),hF.defers,hF.kind,hF.round,hF.ft⟩
theorem FI.mode(hF:FI P S fr)(m:FrameMode):FI P S {fr with mode:=m}:=⟨hF.todo,hF.defers,hF.kind,hF.round,hF.ft⟩
theorem FI.enter{g:Nat}{args:Array Value}(hP:S.Plain P)(h:wj P S g args){k:CallKind}(hk:k=.normal\/k=.deferred):FI P S (Frame.enter P g args k):=by refine⟨λit hit=>?_,λd hd=>(by cases hd),hk,.inl rfl,h.2⟩;obtain rfl:=List.mem_singleton.1 hit;show DJ P S g false _=true;unfold DJ;rw[hP g h.1];rfl
theorem tE(fn:Func)(tmps:Array Value):ST H P (results fn tmps):=by
 unfold results;refine(I7 _ (λx=>?_) _).then λ_=>st_pure _;split
 ·exact st_pure _
 ·exact(lF _).then λ_=>tj _ _
section
variable{s:Sem Next}{w:World}
theorem gL(hk:(fr.kind==CallKind.early)=false)(h:s.runT P w #[]=(.ok (.value v) w',er)):stepG.apply P true fr cs none s w=.go (bh (fr.finish v) cs) w' (seen P fr.fn er++ #[]):=by simp only[stepG.apply,if_true,h,hk];rfl
theorem tF(hk:(fr.kind==CallKind.early)=false)(h:s.runT P w #[]=(.ok .skip w',er)):stepG.apply P true fr cs none s w=.go (bh (fr.finish undef) cs) w' (seen P fr.fn er++ #[]):=by simp only[stepG.apply,if_true,h,hk];rfl
theorem qs{ops:Array Oper}{l:List Nat}(ht:fr.todo=.inRegion ops l::k)(hk:(fr.kind==CallKind.early)=false){g:Nat}{args:Array Value}(h:s.runT P w #[]=(.ok (.enter g args) w',er)):stepG.apply P true fr cs none s w=.go (bh (Frame.enter P g args .normal) (fr::cs)) w' (seen P fr.fn er++ #[]):=by simp only[stepG.apply,if_true,h,hk,ht];rfl
theorem DM{l:Nat}(ht:fr.todo=.inRangeFunc l::k)(hk:(fr.kind==CallKind.early)=false){g:Nat}{args:Array Value}(h:s.runT P w #[]=(.ok (.enter g args) w',er)):stepG.apply P true fr cs none s w=.go (bh (Frame.enter P g args .normal) (fr::cs)) w' (seen P fr.fn er++ #[]):=by simp only[stepG.apply,if_true,h,hk,ht];rfl
theorem FC(hk:(fr.kind==CallKind.early)=false){ops:Array Oper}{l:List Nat}(ht:fr.todo=.inRegion ops l::k){n:Nat}{g:FuncId}{tmps:Array Value}{x y:Code}(h:s.runT P w #[]=(.ok (.round n g tmps x y) w',er)):stepG.apply P true fr cs none s w=.go (bh (Frame.round n g tmps x y .normal) (fr::cs)) w' (seen P fr.fn er++ #[]):=by simp only[stepG.apply,if_true,h,hk,ht];rfl
theorem tG(hk:(fr.kind==CallKind.early)=false)(hr:fr.roundOf=none)(h:s.runT P w #[]=(.ok .recover w',er))(hn:tryRecover fr cs=none):stepG.apply P true fr cs none s w=.go (bh (fr.finish .nilIface) cs) w' (seen P fr.fn er++ #[]):=by simp only[stepG.apply,if_true,h,hk,hr,hn];rfl
theorem tH(hk:(fr.kind==CallKind.early)=false)(hr:fr.roundOf=none)(h:s.runT P w #[]=(.ok .recover w',er))(hn:tryRecover fr cs=some (v,cs')):stepG.apply P true fr cs none s w=.go (bh (fr.finish v) cs') w' (seen P fr.fn er++ #[]):=by simp only[stepG.apply,if_true,h,hk,hr,hn];rfl
theorem qu(hk:(fr.kind==CallKind.early)=false)(h:s.runT P w #[]=(.halt (.panic v) w',er)):stepG.apply P true fr cs none s w=.go (bh (fr.raise [{v,recovered:=false}]) cs) w' (seen P fr.fn er++ #[]):=by simp only[stepG.apply,if_true,h,hk];rfl
theorem FD(hk:(fr.kind==CallKind.early)=false)(h:s.runT P w #[]=(.ok (.defer d) w',er)):stepG.apply P true fr cs none s w=.go (bh ({fr with defers:=d::fr.defers}.finish undef) cs) w' (seen P fr.fn er++ #[]):=by simp only[stepG.apply,if_true,h,hk];rfl
theorem Jk(hk:(fr.kind==CallKind.early)=false){cases:Array CommCase}{b:Bool}{shape:CommShape}(h:s.runT P w #[]=(.ok (.comm cases b shape) w',er)):∃es,stepG.apply P true fr cs none s w=.comm (bh fr cs) cases b shape w' es:=by simp only[stepG.apply,if_true,h,hk];exact⟨_,rfl⟩
theorem Q1{g:Nat}{args:Array Value}(hn:((d.target matches .nil) &&(fr.mode matches .panicking _))=false)(h:(invoke d.target d.args).runT P w #[]=(.ok (.enter g args) w',er)):callDeferred P fr cs none d w=.go (bh (Frame.enter P g args .deferred) (fr::cs)) w' (seen P fr.fn er++ #[]):=by unfold callDeferred;rw[if_neg (λe=>by have e':((d.target matches .nil) &&(fr.mode matches .panicking _))=true:=e;rw[hn]at e';cases e')];simp only[h];rfl
theorem Q2(hn:((d.target matches .nil) &&(fr.mode matches .panicking _))=false)(h:(invoke d.target d.args).runT P w #[]=(.halt (.panic v) w',er)):callDeferred P fr cs none d w=.go (bh (fr.raise [{v,recovered:=false}]) cs) w' (seen P fr.fn er++ #[]):=by unfold callDeferred;rw[if_neg (λe=>by have e':((d.target matches .nil) &&(fr.mode matches .panicking _))=true:=e;rw[hn]at e';cases e')];simp only[h];rfl
theorem Vf{hh:Halt}(hd:iA hh=true)(hn:((d.target matches .nil) &&(fr.mode matches .panicking _))=false)(h:(invoke d.target d.args).runT P w #[]=(.halt hh w',er)):∃o w1 es,callDeferred P fr cs none d w=.ended o w1 es:=by
 unfold callDeferred;rw[if_neg (λe=>by have e':((d.target matches .nil) &&(fr.mode matches .panicking _))=true:=e;rw[hn]at e';cases e')];cases hh with
 |unsupported u=>simp only[h];exact⟨_,_,_,rfl⟩
 |stuck u=>simp only[h];exact⟨_,_,_,rfl⟩
 |_=>cases hd
theorem Yz(hn:((d.target matches .nil) &&(fr.mode matches .panicking _))=true):∃o w1 es,callDeferred P fr cs none d w=.ended o w1 es:=by unfold callDeferred;refine⟨_,_,_,if_pos ?_⟩;exact hn
theorem qw(hk:(fr.kind==CallKind.early)=false)(h:s.runT P w #[]=(.halt (.unsupported u) w',er))(hu:iA (.unsupported u)=true):∃o w1 es,stepG.apply P true fr cs none s w=.ended o w1 es:=by
 cases u<;>first
  |(simp only[stepG.apply,if_true,h,hk];exact⟨_,_,_,rfl⟩)
  |cases hu
theorem qx(hk:(fr.kind==CallKind.early)=false){u:String}(h:s.runT P w #[]=(.halt (.stuck u) w',er)):∃o w1 es,stepG.apply P true fr cs none s w=.ended o w1 es:=by simp only[stepG.apply,if_true,h,hk];exact⟨_,_,_,rfl⟩
end
variable(hR:S.Rows H P)(hB:S.iM P)(hL:S.nV)(hP:S.Plain P)
include hR hB hL hP
theorem DN(hd:mK P S d)(hnc:∀b,d.target≠.collected b):Simu H P (λn=>∃g args,n=.enter g args/\wj P S g args) (invoke d.target d.args):=by
 rcases hd with hd|⟨g,captured,hd,lR⟩|⟨b,hd⟩
 rotate_right
 ·exact absurd hd (hnc b)
 ·rw[hd];exact eQ
 ·rw[hd];show Simu H P _ (callFunc g (d.args++captured));unfold callFunc;refine simu_program.bind λP' hP=>?_;subst hP;obtain⟨fn,h1,h2,h3⟩:=hB g lR.1;rw[h1];simp only[h2,h3,dS,if_false];exact simu_pure ⟨_,_,rfl,lR⟩
theorem Jl(hS:bQ P S fr fs)(bf:Rel H a a){ops:Array Oper}{rest:List Nat}(ht:fr.todo=.inRegion ops (i::rest)::k)(ho:ops[i]? =some o)
  (hs:∀κ bo cj,o8 κ fr fs bo cj->∀m cs w,stepG P m (bh bo cs) w=stepG.apply P true bo cs none (execOp fr.eval o) w):Outcome H P S fr fs a:=by
 have hs0:=hs none fr fs (nW _ _);have hF:=hS.fi;have hok:eV P S fr.fn o=true:=by
  have h1:=hF.todo (.inRegion ops (i::rest)) (by rw[ht];exact jE);have h2:ops.all (eV P S fr.fn)=true:=by have h1:(ops.all (eV P S fr.fn) &&(!fr.roundOf.isSome||ops.all iJ))=true:=h1;rw[bK]at h1;exact h1.1
  rw[Array.all_eq_true]at h2;obtain⟨hlt,e⟩:=aQ.1 ho;have:=h2 i hlt;rwa [e]at this
 have Fx:iJ o=false->fr.roundOf=none:=λFx=>by
  have h1:(ops.all (eV P S fr.fn) &&(!fr.roundOf.isSome||ops.all iJ))=true:=hF.todo (.inRegion ops (i::rest)) (by rw[ht];exact jE);rw[bK,uA]at h1;rcases h1.2 with h|h
  ·cases hr:fr.roundOf with
   |none=>rfl
   |some l=>rw[hr]at h;cases h
  ·rw[Array.all_eq_true]at h;obtain⟨hlt,e⟩:=aQ.1 ho;have:=h i hlt;rw[e,Fx]at this;cases this
 have jd:Simu H P (lO P S fr.fn o) (execOp fr.eval o):=QY hR hB hL (ρ:=fr.eval) (tmps:=fr.tmps) (λ_=>rfl) (λ_=>rfl) (λ_=>rfl) hF.ft hok;have bZ:=jd a a #[] #[] bf;have hr:=λr (h:Rel H a r)=>jd a r #[] #[] h;have oT:(fr.kind==CallKind.early)=false:=by rcases hF.kind with h|h<;>rw[h] <;>rfl
 have IH:∀d,(ops[i]?).bind (·.dst)=some d↔o.dst=some d:=λd=>by rw[ho];rfl
 generalize hX:(execOp fr.eval o).runT P a #[]=X at bZ hr;obtain⟨rx,ex⟩:=X;cases rx with
 |ok n a'=>
  obtain⟨hn,sJ,hdr,hw0⟩:=bZ;cases n with
  |value v=>refine .inl ⟨fr.finish v,fs,a',hS.to (hF.finish ht λd hd hf=>hn d ((IH d).1 hd) hf) (fL v) (jP v),sJ,hdr,λr hrel fB=>?_⟩;obtain⟨_,_,_,h⟩:=hr r hrel;obtain⟨r',er,e,hw⟩:=h fB;refine⟨r',seen P fr.fn er++ #[],bS hw,λκ bo cj hsw=>?_⟩;obtain⟨t2,rfl⟩:∃t2,bo={fr with todo:=t2}:=⟨_,dN hsw⟩;exact⟨_,_,jN hsw ht v,λm cs=>(hs κ _ cj hsw m _ r).trans (gL (fr:={fr with todo:=t2}) oT e)⟩
  |skip=>refine .inl ⟨fr.finish undef,fs,a',hS.to (hF.finish ht λd hd hf=>undef_vs) (fL _) (jP _),sJ,hdr,λr hrel fB=>?_⟩;obtain⟨_,_,_,h⟩:=hr r hrel;obtain⟨r',er,e,hw⟩:=h fB;refine⟨r',seen P fr.fn er++ #[],bS hw,λκ bo cj hsw=>?_⟩;obtain⟨t2,rfl⟩:∃t2,bo={fr with todo:=t2}:=⟨_,dN hsw⟩;exact⟨_,_,jN hsw ht undef,λm cs=>(hs κ _ cj hsw m _ r).trans (tF (fr:={fr with todo:=t2}) oT e)⟩
  |defer d=>have hF':FI P S {fr with defers:=d::fr.defers}:=⟨hF.todo,λx hx=>(dM.1 hx).elim (λe=>e▸hn.1) (hF.defers x),hF.kind,.inl (Fx hn.2),hF.ft⟩;refine .inl ⟨{fr with defers:=d::fr.defers}.finish undef,fs,a',hS.to (hF'.finish (by exact ht) λd hd hf=>undef_vs) (fL _) (jP _),sJ,hdr,λr hrel fB=>?_⟩;obtain⟨_,_,_,h⟩:=hr r hrel;obtain⟨r',er,e,hw⟩:=h fB;refine⟨r',seen P fr.fn er++ #[],bS hw,λκ bo cj hsw=>?_⟩;obtain⟨t2,rfl⟩:∃t2,bo={fr with todo:=t2}:=⟨_,dN hsw⟩;exact⟨_,_,jN (jb (aZ:={fr with defers:=d::fr.defers}) hsw rfl) (by exact ht) undef,λm cs=>(hs κ _ cj hsw m _ r).trans (FD (fr:={fr with todo:=t2}) oT e)⟩
  |enter g args=>obtain⟨dU,lR⟩:=hn;refine .inl ⟨Frame.enter P g args .normal,fr::fs,a',⟨FI.enter hP lR (.inl rfl),.inr ⟨λv hv=>hF.finish ht λd hd hf=>(by obtain⟨h1,h2⟩:=dU d ((IH d).1 hd) hf;rw[zA,h1];exact hv h2),.inl ⟨ops,i,rest,k,ht⟩⟩,hS⟩,sJ,hdr,λr hrel fB=>?_⟩;obtain⟨_,_,_,h⟩:=hr r hrel;obtain⟨r',er,e,hw⟩:=h fB;refine⟨r',seen P fr.fn er++ #[],bS hw,λκ bo cj hsw=>?_⟩;obtain⟨k2,rfl,_⟩:=dG hsw ht au;exact⟨_,_,qq hsw _,λm cs=>(hs κ _ cj hsw m _ r).trans (qs (fr:={fr with todo:=.inRegion ops (i::rest)::k2}) rfl oT e)⟩
  |round n g tmps x y=>
   obtain⟨dU,hSR,h1,h2,h3,h4,h5⟩:=hn;have hFr:FI P S (Frame.round n g tmps x y .normal):=by
    refine⟨λit hit=>?_,λd hd=>(by cases hd),.inl rfl,.inr ⟨hSR,rfl,rfl⟩,h5⟩;have hit:it∈[.code x,.beginRound,.code y]:=hit;show kB P S g true it=true;simp only[dM,pK,or_false]at hit;rcases hit with rfl|rfl|rfl
    ·exact rL h1 h3
    ·show(S.R&&true)=true;rw[hSR];rfl
    ·exact rL h2 h4
   refine .inl ⟨Frame.round n g tmps x y .normal,fr::fs,a',⟨hFr,.inr ⟨λv _=>hF.finish ht λd hd hf=>(by rw[dU d ((IH d).1 hd)]at hf;cases hf),.inl ⟨ops,i,rest,k,ht⟩⟩,hS⟩,sJ,hdr,λr hrel fB=>?_⟩;obtain⟨_,_,_,h⟩:=hr r hrel;obtain⟨r',er,e,hw⟩:=h fB;refine⟨r',seen P fr.fn er++ #[],bS hw,λκ bo cj hsw=>?_⟩;obtain⟨k2,rfl,_⟩:=dG hsw ht au;exact⟨_,_,qq hsw _,λm cs=>(hs κ _ cj hsw m _ r).trans (FC (fr:={fr with todo:=.inRegion ops (i::rest)::k2}) oT rfl e)⟩
  |comm cases b shape=>have hb:b=true:=hn;subst hb;refine .inr (.inr (.inr λm cs=>?_));obtain⟨r',er,e,hw⟩:=hw0 (λ_ _ _=>rfl);obtain⟨es,h⟩:=Jk (cs:=fs++cs) oT hX;refine⟨cases,shape,a',es,(hs0 m _ a).trans h,?_⟩;exact⟨rfl,λ_ _=>.inl rfl,λb hb=>⟨(hw.rel.hid b hb).1,_,(hw.rel.hid b hb).1,rfl⟩,hw.rel.objs,rfl,rfl⟩
  |recover=>
   have cS:=Fx hn.2;have Fx:∀d,(ops[i]?).bind (·.dst)=some d->S.ft fr.fn d=true->∀v,VS S fr.fn d v=true:=λd hd hf=>(by have:=hn.1 d ((IH d).1 hd);rw[hf]at this;cases this);have none':(∀κ bo cj,o8 κ fr fs bo cj->∀cs:List Frame,tryRecover bo (cj++cs)=none)->Outcome H P S fr fs a:=λhno=>(by refine .inl ⟨fr.finish .nilIface,fs,a',hS.to (hF.finish ht λd hd hf=>Fx d hd hf _) (fL _) (jP _),sJ,hdr,λr hrel fB=>?_⟩;obtain⟨_,_,_,h⟩:=hr r hrel;obtain⟨r',er,e,hw⟩:=h fB;refine⟨r',seen P fr.fn er++ #[],bS hw,λκ bo cj hsw=>?_⟩;have YA:=hno κ bo cj hsw;obtain⟨t2,rfl⟩:∃t2,bo={fr with todo:=t2}:=⟨_,dN hsw⟩;exact⟨_,_,jN hsw ht _,λm cs=>(hs κ _ cj hsw m _ r).trans (tG (fr:={fr with todo:=t2}) oT cS e (YA cs))⟩);rcases hF.kind with hk|hk
   ·exact none' λκ bo cj hsw cs=>by have:bo.kind=.normal:=(by rw[dN hsw];exact hk);unfold tryRecover;rw[this]
   ·cases hfs:fs with
    |nil=>subst hfs;have:=hS.2;rw[hk]at this;cases this
    |cons c lf=>
     subst hfs;by_cases Va:∃v cK,c.mode=.panicking ({v,recovered:=false,goexit:=false}::cK)
     ·obtain⟨v,cK,hm⟩:=Va;have Jn:bQ P S (fr.finish v) ({c with mode:=.panicking ({v,recovered:=true}::cK)}::lf):=(by refine⟨hF.finish ht λd hd hf=>Fx d hd hf _,.inl ((fL v).trans hk),?_⟩;exact hS.2.2.to (hS.2.2.fi.mode _) rfl);refine .inl ⟨fr.finish v,{c with mode:=.panicking ({v,recovered:=true}::cK)}::lf,a',Jn,sJ,hdr,λr hrel fB=>?_⟩;obtain⟨_,_,_,h⟩:=hr r hrel;obtain⟨r',er,e,hw⟩:=h fB;refine⟨r',seen P fr.fn er++ #[],bS hw,λκ bo cj hsw=>?_⟩;have hs2:=hs κ bo cj hsw;obtain⟨rfl,c2,se,rfl,yq⟩:=hsw;have ec:=dN yq;refine⟨_,_,qq (jb (aZ:={c with mode:=.panicking ({v,recovered:=true}::cK)}) yq rfl) _,λm cs=>(hs2 m _ r).trans (tH oT cS e (by show tryRecover bo (c2::(se++cs))=_;have xI:c2.mode=.panicking ({v,recovered:=false}::cK):=(by rw[ec];exact hm);have e3:({c2 with mode:=.panicking ({v,recovered:=true}::cK)}:Frame)={c with mode:=.panicking ({v,recovered:=true}::cK),todo:=c2.todo}:=(by rw[ec]);simp only[tryRecover,hk,xI,e3];rfl))⟩
     ·refine none' λκ bo cj hsw cs=>?_;obtain⟨rfl,c2,se,rfl,yq⟩:=hsw;have ec:=dN yq;show tryRecover bo (c2::(se++cs))=none;simp only[tryRecover,hk];split
      ·rename_i v cK hm;exact absurd ⟨v,cK,by rw[ec]at hm;exact hm⟩ Va
      ·rfl
  |_=>exact hn.elim
 |halt h a'=>
  cases h with
  |panic v=>obtain⟨sJ,hdr,_⟩:=bZ;refine .inl ⟨fr.raise [{v,recovered:=false}],fs,a',hS.to (hF.raise _) (jO _) (nX _),sJ,hdr,λr hrel fB=>?_⟩;obtain⟨_,_,h⟩:=hr r hrel;obtain⟨r',er,e,hw⟩:=h fB;refine⟨r',seen P fr.fn er++ #[],bS hw,λκ bo cj hsw=>?_⟩;have YB:=lH hsw [{v,recovered:=false}];obtain⟨t2,rfl⟩:∃t2,bo={fr with todo:=t2}:=⟨_,dN hsw⟩;exact⟨_,_,YB,λm cs=>(hs κ _ cj hsw m _ r).trans (qu (fr:={fr with todo:=t2}) oT e)⟩
  |unsupported u=>refine .dead λm cs=>?_;rw[hs0];exact qw oT hX bZ
  |stuck u=>refine .dead λm cs=>?_;rw[hs0];exact qx oT hX
  |_=>cases bZ
omit hR hB hL hP in
theorem Jo{q:Question}(hq:q.forced=false)(w:World):(choose q).run P w=.ok (q.cut (w.tape w.drawn q)) {w with drawn:=w.drawn+1}:=by simp[choose,Sem.run,hq,pure]
theorem Bz(hS:bQ P S fr fs)(bf:Rel H a a)(hd:fr.defers=d::ds)(hnc:∀b,d.target≠.collected b)
  (hs:∀κ bo cj,o8 κ fr fs bo cj->∀m cs w,stepG P m (bh bo cs) w=callDeferred P {bo with defers:=ds} cs none d w):Outcome H P S fr fs a:=by
 have hs0:=hs none fr fs (nW _ _);have hF:=hS.fi;have adq:mK P S d:=hF.defers d (by rw[hd];exact jE);have cS:fr.roundOf=none:=hF.round.resolve_right λh=>by rw[hd]at h;cases h.2.1
 have hF':FI P S {fr with defers:=ds}:=⟨hF.todo,λx hx=>hF.defers x (by rw[hd];exact gJ _ hx),hF.kind,.inl cS,hF.ft⟩;have jd:=DN hR hB hL hP (H:=H) adq hnc;have bZ:=jd a a #[] #[] bf;have hr:=λr (h:Rel H a r)=>jd a r #[] #[] h;by_cases hn:((d.target matches .nil) &&(({fr with defers:=ds}:Frame).mode matches .panicking _))=true
 ·exact .dead λm cs=>by rw[hs0];exact Yz hn
 ·have sf:((d.target matches .nil) &&(({fr with defers:=ds}:Frame).mode matches .panicking _))=false:=by simpa using hn
  generalize hX:(invoke d.target d.args).runT P a #[]=X at bZ hr;obtain⟨rx,ex⟩:=X;cases rx with
  |ok n a'=>obtain⟨⟨g,args,rfl,lR⟩,sJ,hdr,_⟩:=bZ;refine .inl ⟨Frame.enter P g args .deferred,{fr with defers:=ds}::fs,a',⟨FI.enter hP lR (.inr rfl),.inl rfl,hS.to hF' rfl⟩,sJ,hdr,λr hrel fB=>?_⟩;obtain⟨_,_,_,h⟩:=hr r hrel;obtain⟨r',er,e,hw⟩:=h fB;refine⟨r',seen P fr.fn er++ #[],bS hw,λκ bo cj hsw=>?_⟩;obtain⟨t2,rfl⟩:∃t2,bo={fr with todo:=t2}:=⟨_,dN hsw⟩;exact⟨_,_,qq (jb (aZ:={fr with defers:=ds}) hsw rfl) _,λm cs=>(hs κ _ cj hsw m _ r).trans (Q1 (fr:={fr with todo:=t2,defers:=ds}) sf e)⟩
  |halt h a'=>
   have Mp:iA h=true->Outcome H P S fr fs a:=λhdd=>.dead λm cs=>(by rw[hs0];exact Vf hdd sf hX);cases h with
   |panic v=>obtain⟨sJ,hdr,_⟩:=bZ;refine .inl ⟨({fr with defers:=ds}:Frame).raise [{v,recovered:=false}],fs,a',hS.to (hF'.raise _) (jO _) (nX _),sJ,hdr,λr hrel fB=>?_⟩;obtain⟨_,_,h⟩:=hr r hrel;obtain⟨r',er,e,hw⟩:=h fB;refine⟨r',seen P fr.fn er++ #[],bS hw,λκ bo cj hsw=>?_⟩;have YB:=lH (jb (aZ:={fr with defers:=ds}) hsw rfl) [{v,recovered:=false}];obtain⟨t2,rfl⟩:∃t2,bo={fr with todo:=t2}:=⟨_,dN hsw⟩;exact⟨_,_,YB,λm cs=>(hs κ _ cj hsw m _ r).trans (Q2 (fr:={fr with todo:=t2,defers:=ds}) sf e)⟩
   |unsupported u=>exact Mp bZ
   |stuck u=>exact Mp rfl
   |_=>cases bZ
omit hR hB hL hP in
theorem FE{a2 r r1 r2:World}(h0:a.drawn<=a1.drawn)(U1:a1.drawn<=a2.drawn)(h1:Went H #[] a a1 r r1 e1)(h2:Went H #[] a1 a2 r1 r2 e2):Went H #[] a a2 r r2 (e1++e2):=Went.trans (er:=e1) h0 U1 h1 ⟨h2.rel,h2.tape,h2.drawn,h2.hidden,λe he=>(fu.1 he).imp id λh=>(h2.evs e h).resolve_left au,λe he=>(fu.1 he).imp id λh=>(h2.evin e h).resolve_left au,h2.grow,h2.eqk,h2.kept,λe he=>(fu.1 he).imp id λh=>(h2.rov e h).resolve_left au,h2.growa,h2.shp,h2.shpr,h2.same⟩
omit hR hB hL hP in
theorem zC{r:World}(h:Went H #[] a a' r r' er):Went H #[] a a' r r' (seen P f er):=by have:=bS (P:=P) (f:=f) h;rwa [uG]at this
theorem o9(hS:bQ P S fr fs)(bf:Rel H a a){l:Nat}(hl:fr.roundOf=some l){j:Option Code}(hj:∀c,j=some c->rJ c=true)
  (hs:∀κ bo cj,o8 κ fr fs bo cj->∀m cs w,∃o,stepG P m (bh bo cs) w=GStep.after (seen P fr.fn ((Instr.endRound l j).runT P w #[]).2) (match((Instr.endRound l j).runT P w #[]).1 with
   |.ok v w=>doReturn P m bo cs none v w
   |.halt _ w=>.ended o w)):Outcome H P S fr fs a:=by
 have hF:=hS.fi;have eJ:fr.kind=.normal:=(hF.round.resolve_left (by rw[hl];simp)).2.2;have jd:=o6 (H:=H) (P:=P) l j hj;have bZ:=jd a a #[] #[] bf;have hr:=λr (h:Rel H a r)=>jd a r #[] #[] h;have hs0:=hs none fr fs (nW _ _);generalize hX:(Instr.endRound l j).runT P a #[]=X at bZ hr;obtain⟨rx,ex⟩:=X;cases rx with
 |ok v a'=>
  obtain⟨hv,sJ,hdr,_⟩:=bZ;cases fs with
  |nil=>refine .inr (.inl ⟨rfl,λm c cs=>?_⟩);obtain⟨o,e⟩:=hs0 m (c::cs) a;refine⟨c.finish v,a',seen P fr.fn ex++ #[],?_,.inl ⟨v,rfl⟩⟩;rw[e,hX];simp only[doReturn,eJ];rfl
  |cons c fs=>obtain⟨_,hk,Jn⟩:=hS;obtain⟨lS,hat⟩:=hk.resolve_left (by rw[eJ];simp);refine .inl ⟨c.finish v,fs,a',Jn.to (lS v λ_=>by subst hv;rfl) (fL v) (jP v),sJ,hdr,λr hrel fB=>?_⟩;obtain⟨_,_,_,h⟩:=hr r hrel;obtain⟨r',er,e,hw⟩:=h fB;refine⟨r',seen P fr.fn er++ #[],bS hw,λκ bo cj hsw=>?_⟩;have hs2:=hs κ bo cj hsw;obtain⟨rfl,c2,se,rfl,yq⟩:=hsw;refine⟨_,_,xH yq hat v,λm cs=>?_⟩;obtain⟨o,e3⟩:=hs2 m (c2::(se++cs)) r;rw[jc,e3,e];simp only[doReturn,eJ];rfl
 |halt h a'=>
  have Mp:Outcome H P S fr fs a:=.dead λm cs=>by obtain⟨o,e⟩:=hs0 m cs a;rw[e,hX];exact⟨_,_,_,rfl⟩
  exact Mp
theorem Jp(hS:bQ P S fr fs)(bf:Rel H a a)(hm:fr.mode=.run){g:Operand}{x y:Code}(jF:fr.todo=.code (.rangeFunc g ps x y)::k)(hit:cR P S fr.fn (.rangeFunc g ps x y)=true)(cS:fr.roundOf=none):Outcome H P S fr fs a:=by
 have hF:=hS.fi;have oT:(fr.kind==CallKind.early)=false:=by rcases hF.kind with h|h<;>rw[h] <;>rfl
 simp only[cR,bK]at hit;obtain⟨⟨⟨⟨⟨⟨hSR,hg⟩,FH⟩,hx1⟩,hy1⟩,hx2⟩,hy2⟩:=hit;have pZ:∀t2 m cs w,stepG P m (bh {fr with todo:=t2} cs) w=stepG.exec P m true {fr with todo:=t2} cs none w:=λt2 m cs w=>by simp only[stepG,hm]
 have hlk:oV xy fq {state:=.ready,pending:=none,fn:=fr.fn,tmps:=fr.tmps,params:=ps,assign:=x,body:=y,defers:=0}=true:=by
  obtain⟨rfl,rfl⟩:=hR.more.1 hSR;unfold oV;simp only[bK];refine⟨⟨⟨⟨⟨⟨FH,hx1⟩,hy1⟩,hx2⟩,hy2⟩,?_⟩,trivial⟩;rw[fT];intro t _;cases wm:fq.ft fr.fn t with
  |false=>rfl
  |true=>rw[hF.ft t wm];rfl
 have jd:=Bu (H:=H) (P:=P) hlk;have bZ:=jd a a #[] #[] bf;have hr:=λr (h:Rel H a r)=>jd a r #[] #[] h;have hX0:(Instr.enterLoop fr.fn fr.tmps ps x y none).runT P a #[]=(Instr.enterLoop fr.fn fr.tmps ps x y none).runT P a #[]:=rfl;generalize hX:(Instr.enterLoop fr.fn fr.tmps ps x y none).runT P a #[]=X at bZ hr;obtain⟨rx,ex⟩:=X;cases rx with
 |halt h a'=>have:∃v a',(Instr.enterLoop fr.fn fr.tmps ps x y none).runT P a #[]=(.ok v a',#[]):=⟨_,_,rfl⟩;obtain⟨v,a2,e⟩:=this;rw[hX]at e;cases e
 |ok z a1=>
  obtain⟨l,mark⟩:=z;obtain⟨⟨r0,hmk⟩,sJ,hdr,hw0⟩:=bZ;have hmk:mark=[{target:=.collected r0,args:=#[]}]:=hmk;subst hmk;let gD:Frame:={fr with todo:=.inRangeFunc l::k,defers:={target:=.collected r0,args:=#[]}::fr.defers,roundOf:=none};have uk:FI P S gD:=by
   refine⟨λit hit=>?_,λd hd=>?_,hF.kind,.inl rfl,hF.ft⟩
   ·rcases dM.1 hit with rfl|hit
    ·show(S.R&&true)=true;rw[hSR];rfl
    ·have:=hF.todo it (by rw[jF];exact gJ _ hit);rw[cS]at this;exact this
   ·rcases dM.1 hd with rfl|hd
    ·exact .inr (.inr ⟨r0,rfl⟩)
    ·exact hF.defers d hd
  let s2:Sem Next:=do
   let d←resolve gD.eval {callee:=.value g,args:=#[.const (.func (.yield l) #[] #[])],argTypes:=#[]} 0
   invoke d.target d.args
  have hv:VI S (fr.eval g)=true:=uE (it:=true) (λ_=>rfl) (λ_=>rfl) (λ_=>rfl) hF.ft hg;have W5:Simu H P (λn=>∃f args,n=.enter f args/\wj P S f args) s2:=by
   show Simu H P _ (Deferred.ofValue (gD.eval g) (#[Operand.const (.func (.yield l) #[] #[])].map gD.eval) >>= λd=>invoke d.target d.args);have e1:gD.eval g=fr.eval g:=(by cases g<;>rfl);have em:(#[Operand.const (.func (.yield l) #[] #[])].map gD.eval)=#[.func (.yield l) #[] #[]]:=(by simp[Frame.eval]);rw[e1,em];generalize fr.eval g=v at hv;unfold Deferred.ofValue;cases v with
   |func fn first captured=>
    refine Simu.bind (p:=λd=>d={target:=.fn fn captured,args:=first++ #[.func (.yield l) #[] #[]]}) (simu_pure rfl) λd hd=>?_;subst hd;cases fn with
    |func f=>
     simp only[VI,bK,decide_eq_true_eq]at hv;obtain⟨⟨hI,hfi⟩,YC⟩:=hv;obtain⟨hLf,wm⟩:=hR.more.2.1 f hI;have Jq:first=#[]:=by simpa[Array.isEmpty]using hfi
     subst Jq;show Simu H P _ (callFunc f ((#[] ++ #[Value.func (.yield l) #[] #[]]) ++captured));unfold callFunc;refine simu_program.bind λP' W6=>?_;subst W6;obtain⟨fn,b1,b2,b3⟩:=hB f hLf;rw[b1];simp only[b2,b3,dS,if_false];refine simu_pure ⟨f,_,rfl,hLf,λt ht=>?_⟩;obtain⟨adr,ht0⟩:=wm t ht;rw[zA,adr];show VF S _=true;rcases ht0 with rfl|ht8
     ·rw[cE];simp only[Array.empty_append];rw[Array.getElem?_append_left bV,Array.getElem?_append_left au];show(S.R&&_)=true;rw[hSR];rfl
     ·rw[cE,Array.getElem?_append_right bV,mL];split<;>exact QU
    |_=>cases hv
   |nilFunc=>refine Simu.bind (p:=λd=>d.target=.nil) (simu_pure rfl) λd hd=>?_;rw[hd];exact eQ
   |_=>exact(dead_halt (h:=.stuck _) rfl).bind.nS
  obtain⟨rs,ers,es1,Nz⟩:=hw0 (λ_ _ _=>rfl);have YD:Rel H a1 a1:=⟨rfl,λ_ _=>.inl rfl,λb hb=>⟨(Nz.rel.hid b hb).1,_,(Nz.rel.hid b hb).1,rfl⟩,Nz.rel.objs,rfl,rfl⟩;have zD:=W5 a1 a1 #[] #[] YD;have hr2:=λr (h:Rel H a1 r)=>W5 a1 r #[] #[] h;have hstep:∀k2 m cs (r r1:World) Q3,(Instr.enterLoop fr.fn fr.tmps ps x y none).runT P r #[]=(.ok (l,[{target:=.collected r0,args:=#[]}]) r1,Q3)->stepG P m (bh {fr with todo:=.code (.rangeFunc g ps x y)::k2} cs) r=GStep.after (seen P fr.fn Q3) (stepG.apply P true {gD with todo:=.inRangeFunc l::k2} cs none s2 r1):=λk2 m cs r r1 Q3 e=>by rw[pZ];simp only[stepG.exec,cS,e];rfl
  generalize hY:s2.runT P a1 #[]=Y at zD hr2;obtain⟨ry,ey⟩:=Y;cases ry with
  |ok n a2=>obtain⟨⟨f,args,rfl,lR⟩,YE,Q5,_⟩:=zD;refine .inl ⟨Frame.enter P f args .normal,gD::fs,a2,⟨FI.enter hP lR (.inl rfl),.inr ⟨λv _=>uk.Ve rfl v,.inr ⟨l,k,rfl⟩⟩,hS.to uk rfl⟩,YE.trans sJ,ae,λr hrel fB=>?_⟩;obtain⟨_,_,_,h⟩:=hr r hrel;obtain⟨r1,Q3,e1,fE⟩:=h (fB.left Q5);obtain⟨_,_,_,h2⟩:=hr2 r1 fE.rel;obtain⟨r2,U4,e2,hw2⟩:=h2 (fB.right hdr sJ fE);refine⟨r2,seen P fr.fn Q3++(seen P fr.fn U4++ #[]),FE hdr Q5 (zC fE) (bS hw2),λκ bo cj hsw=>?_⟩;obtain⟨k2,rfl,h3,_⟩:=dG hsw jF au;refine⟨_,_,qq (h3 [.inRangeFunc l] gD rfl) _,λm cs=>?_⟩;rw[hstep k2 m _ r r1 Q3 e1,DM (fr:={gD with todo:=.inRangeFunc l::k2}) rfl oT e2];rfl
  |halt h a2=>
   have hst:=hstep k;have etd:({fr with todo:=.code (.rangeFunc g ps x y)::k}:Frame)=fr:=(by rw[←jF]);have abi:(Instr.enterLoop fr.fn fr.tmps ps x y none).runT P a #[]=(.ok (l,[{target:=.collected r0,args:=#[]}]) a1,ex):=hX;cases h with
   |panic v=>obtain⟨YE,Q5,_⟩:=zD;refine .inl ⟨gD.raise [{v,recovered:=false}],fs,a2,hS.to (uk.raise _) (jO _) (nX _),YE.trans sJ,ae,λr hrel fB=>?_⟩;obtain⟨_,_,_,h⟩:=hr r hrel;obtain⟨r1,Q3,e1,fE⟩:=h (fB.left Q5);obtain⟨_,_,h2⟩:=hr2 r1 fE.rel;obtain⟨r2,U4,e2,hw2⟩:=h2 (fB.right hdr sJ fE);refine⟨r2,seen P fr.fn Q3++(seen P fr.fn U4++ #[]),FE hdr Q5 (zC fE) (bS hw2),λκ bo cj hsw=>?_⟩;obtain⟨k2,rfl,h3,_⟩:=dG hsw jF au;refine⟨_,_,lH (h3 [.inRangeFunc l] gD rfl) _,λm cs=>?_⟩;rw[hstep k2 m _ r r1 Q3 e1,qu (fr:={gD with todo:=.inRangeFunc l::k2}) oT e2];rfl
   |unsupported u=>refine .dead λm cs=>?_;rw[←etd,hst m cs a a1 ex abi];obtain⟨o,w1,es,e⟩:=qw (fr:={gD with todo:=.inRangeFunc l::k}) (cs:=cs) oT hY zD;rw[e];exact⟨_,_,_,rfl⟩
   |stuck u=>refine .dead λm cs=>?_;rw[←etd,hst m cs a a1 ex abi];obtain⟨o,w1,es,e⟩:=qx (fr:={gD with todo:=.inRangeFunc l::k}) (cs:=cs) oT hY;rw[e];exact⟨_,_,_,rfl⟩
   |_=>cases zD
theorem BA(hS:bQ P S fr fs)(bf:Rel H a a)(hm:fr.mode=.run){l:Nat}(jF:fr.todo=.endRangeFunc l::k)(cS:fr.roundOf=none):Outcome H P S fr fs a:=by
 have hF:=hS.fi;have pZ:∀t2 m cs w,stepG P m (bh {fr with todo:=t2} cs) w=stepG.exec P m true {fr with todo:=t2} cs none w:=λt2 m cs w=>by simp only[stepG,hm]
 have hex:∀m cs w,stepG P m (bh fr cs) w=stepG.exec P m true fr cs none w:=pZ fr.todo;have jd:=Fs (H:=H) (P:=P) l;have bZ:=jd a a #[] #[] bf;have hr:=λr (h:Rel H a r)=>jd a r #[] #[] h;generalize hX:(Instr.endLoop l).runT P a #[]=X at bZ hr;obtain⟨rx,ex⟩:=X;have Qo:∀it∈k,kB P S fr.fn fr.roundOf.isSome it=true:=λit h=>hF.todo it (by rw[jF];exact gJ _ h);cases rx with
 |ok j a'=>
  obtain⟨hj,sJ,hdr,_⟩:=bZ;have hjj:∀it∈(j.map Item.code).toList,kB P S fr.fn fr.roundOf.isSome it=true:=λit h=>by
   cases j with
   |none=>cases h
   |some c=>
    obtain rfl:it=.code c:=(by simpa using h);have:=hj c rfl;cases c<;>first
     |exact rL rfl rfl
     |cases this
  refine .inl ⟨{fr with todo:=(j.map Item.code).toList++k},fs,a',hS.to ⟨λit h=>(List.mem_append.1 h).elim (hjj it) (Qo it),hF.defers,hF.kind,hF.round,hF.ft⟩ rfl,sJ,hdr,λr hrel fB=>?_⟩;obtain⟨_,_,_,h⟩:=hr r hrel;obtain⟨r',er,e,hw⟩:=h fB;refine⟨r',seen P fr.fn er++ #[],bS hw,λκ bo cj hsw=>?_⟩;obtain⟨k2,rfl,h3,_⟩:=dG hsw jF au;refine⟨_,_,h3 _ _ rfl,λm cs=>?_⟩;rw[pZ];simp only[stepG.exec,e];rfl
 |halt h a'=>
  cases h with
  |panic v=>obtain⟨sJ,hdr,_⟩:=bZ;refine .inl ⟨fr.raise [{v,recovered:=false}],fs,a',hS.to (hF.raise _) (jO _) (nX _),sJ,hdr,λr hrel fB=>?_⟩;obtain⟨_,_,h⟩:=hr r hrel;obtain⟨r',er,e,hw⟩:=h fB;refine⟨r',seen P fr.fn er++ #[],bS hw,λκ bo cj hsw=>?_⟩;have YB:=lH hsw [{v,recovered:=false}];obtain⟨k2,rfl,_⟩:=dG hsw jF au;refine⟨_,_,YB,λm cs=>?_⟩;rw[pZ];simp only[stepG.exec,e];rfl
  |_=>exact .dead λm cs=>by rw[hex];simp only[stepG.exec,jF,hX];exact⟨_,_,_,rfl⟩
theorem yr(hS:bQ P S fr fs)(bf:Rel H a a)(hm:fr.mode=.run){l:Nat}(jF:fr.todo=.beginRound::k)(cS:fr.roundOf=some l):Outcome H P S fr fs a:=by
 have hF:=hS.fi;have oT:(fr.kind==CallKind.early)=false:=by rcases hF.kind with h|h<;>rw[h] <;>rfl
 have pZ:∀t2 m cs w,stepG P m (bh {fr with todo:=t2} cs) w=stepG.exec P m true {fr with todo:=t2} cs none w:=λt2 m cs w=>by simp only[stepG,hm]
 have hex:∀m cs w,stepG P m (bh fr cs) w=stepG.exec P m true fr cs none w:=pZ fr.todo;have hs2:∀k2 m cs w,stepG P m (bh {fr with todo:=.beginRound::k2} cs) w=stepG.apply P true {fr with todo:=.beginRound::k2} cs none (do Instr.beginRound l;pure .skip) w:=λk2 m cs w=>by rw[pZ];simp only[stepG.exec,cS];rfl
 have jd:Simu H P (λn=>n=.skip) (do Instr.beginRound l;pure .skip:Sem Next):=(zy (H:=H) (P:=P) l).then λ_=>simu_pure rfl;have bZ:=jd a a #[] #[] bf;have hr:=λr (h:Rel H a r)=>jd a r #[] #[] h;have etd:({fr with todo:=.beginRound::k}:Frame)=fr:=by rw[←jF]
 generalize hX:(do Instr.beginRound l;pure .skip:Sem Next).runT P a #[]=X at bZ hr;obtain⟨rx,ex⟩:=X;cases rx with
 |ok n a'=>obtain⟨rfl,sJ,hdr,_⟩:=bZ;refine .inl ⟨{fr with todo:=k},fs,a',hS.to ⟨λit h=>hF.todo it (by rw[jF];exact gJ _ h),hF.defers,hF.kind,hF.round,hF.ft⟩ rfl,sJ,hdr,λr hrel fB=>?_⟩;obtain⟨_,_,_,h⟩:=hr r hrel;obtain⟨r',er,e,hw⟩:=h fB;refine⟨r',seen P fr.fn er++ #[],bS hw,λκ bo cj hsw=>?_⟩;obtain⟨k2,rfl,h3,_⟩:=dG hsw jF au;exact⟨_,_,h3 [] {fr with todo:=k} rfl,λm cs=>(hs2 k2 m _ r).trans (tF (fr:={fr with todo:=.beginRound::k2}) oT e)⟩
 |halt h a'=>
  cases h with
  |panic v=>obtain⟨sJ,hdr,_⟩:=bZ;refine .inl ⟨fr.raise [{v,recovered:=false}],fs,a',hS.to (hF.raise _) (jO _) (nX _),sJ,hdr,λr hrel fB=>?_⟩;obtain⟨_,_,h⟩:=hr r hrel;obtain⟨r',er,e,hw⟩:=h fB;refine⟨r',seen P fr.fn er++ #[],bS hw,λκ bo cj hsw=>?_⟩;have YB:=lH hsw [{v,recovered:=false}];obtain⟨k2,rfl,_⟩:=dG hsw jF au;exact⟨_,_,YB,λm cs=>(hs2 k2 m _ r).trans (qu (fr:={fr with todo:=.beginRound::k2}) oT e)⟩
  |unsupported u=>refine .dead λm cs=>?_;rw[←etd,hs2];exact qw (fr:={fr with todo:=.beginRound::k}) oT hX bZ
  |stuck u=>refine .dead λm cs=>?_;rw[←etd,hs2];exact qx (fr:={fr with todo:=.beginRound::k}) oT hX
  |_=>cases bZ
theorem step_collected(hS:bQ P S fr fs)(bf:Rel H a a)(hm:fr.mode≠.run)(hd:fr.defers={target:=.collected b,args:=xs}::ds):Outcome H P S fr fs a:=by
 have hF:=hS.fi;have cS:fr.roundOf=none:=hF.round.resolve_right λh=>by rw[hd]at h;cases h.2.1
 have Q6:∀fr:Frame,fr.mode≠.run->∀m cs w,stepG P m (bh fr cs) w=unwind P m fr cs none w:=λfr hm m cs w=>by
  cases e:fr.mode with
  |run=>exact absurd e hm
  |_=>simp only[stepG,e]
 have jd:=vZ (H:=H) (P:=P) b;have bZ:=jd a a #[] #[] bf;have hr:=λr (h:Rel H a r)=>jd a r #[] #[] h;generalize hX:(Instr.takeDeferred b).runT P a #[]=X at bZ hr;obtain⟨rx,ex⟩:=X;cases rx with
 |ok calls a'=>obtain⟨rfl,sJ,hdr,_⟩:=bZ;refine .inl ⟨{fr with defers:=[] ++ds},fs,a',hS.to ⟨hF.todo,λd h=>hF.defers d (by rw[hd];exact gJ _ h),hF.kind,.inl cS,hF.ft⟩ rfl,sJ,hdr,λr hrel fB=>?_⟩;obtain⟨_,_,_,h⟩:=hr r hrel;obtain⟨r',er,e,hw⟩:=h fB;refine⟨r',seen P fr.fn er++ #[],bS hw,λκ bo cj hsw=>?_⟩;have h3:=jb (aZ:={fr with defers:=[] ++ds}) hsw rfl;obtain⟨t2,rfl⟩:∃t2,bo={fr with todo:=t2}:=⟨_,dN hsw⟩;refine⟨_,_,h3,λm cs=>?_⟩;rw[Q6 {fr with todo:=t2} hm];unfold unwind;simp only[hd,e];rfl
 |halt h a'=>refine .dead λm cs=>?_;rw[Q6 fr hm];unfold unwind;simp only[hd,hX];exact⟨_,_,_,rfl⟩
omit hR hB hL hP in
theorem results_tmp{fn:Func}{r:Nat}(h:fn.results=#[.tmp r])(tmps:Array Value):results fn tmps=pure (tmps.getD r undef):=by simp[results,h]
theorem FJ(hS:bQ P S fr fs)(bf:Rel H a a):Outcome H P S fr fs a:=by
 have hF:=hS.fi;have Jr:∀{it k},fr.todo=it::k->kB P S fr.fn fr.roundOf.isSome it=true/\∀x∈k,kB P S fr.fn fr.roundOf.isSome x=true:=λ{it k} e=>by have h1:=hF.todo;rw[e]at h1;exact⟨h1 _ jE,λx hx=>h1 _ (gJ _ hx)⟩
 by_cases hm:fr.mode=.run
 ·have pZ:∀t2 m cs w,stepG P m (bh {fr with todo:=t2} cs) w=stepG.exec P m true {fr with todo:=t2} cs none w:=λt2 m cs w=>by simp only[stepG,hm]
  have hex:∀m cs w,stepG P m (bh fr cs) w=stepG.exec P m true fr cs none w:=pZ fr.todo;have pL:∀{it k} pre,fr.todo=it::k->it≠.code (.refuse "")->(∀it∈pre++k,kB P S fr.fn fr.roundOf.isSome it=true)->(∀k2 m cs w,stepG.exec P m true {fr with todo:=it::k2} cs none w=.go (bh {fr with todo:=pre++k2} cs) w #[])->Outcome H P S fr fs a:=λ{it k} pre ht hne h1 h2=> .pure (aZ:={fr with todo:=pre++k}) (hS.to ⟨h1,hF.defers,hF.kind,hF.round,hF.ft⟩ rfl) λκ bo cj hsw=>by obtain⟨k2,rfl,h3,_⟩:=dG hsw ht hne;exact⟨_,h3 pre _ rfl,λm cs w=>(pZ _ m cs w).trans (h2 k2 m cs w)⟩
  have abj:(∀κ bo cj,o8 κ fr fs bo cj->∀m cs w,stepG.exec P m true bo cs none w=.go (bh {bo with mode:=.returning} cs) w #[])->Outcome H P S fr fs a:=λh2=> .pure (aZ:={fr with mode:=.returning}) (hS.to (hF.mode _) rfl) λκ bo cj hsw=>by have h2:=h2 κ bo cj hsw;have h3:=jb (aZ:={fr with mode:=.returning}) hsw rfl;obtain⟨t2,rfl⟩:∃t2,bo={fr with todo:=t2}:=⟨_,dN hsw⟩;exact⟨_,h3,λm cs w=>(pZ _ m cs w).trans (h2 m cs w)⟩
  have zE:(∀m cs,∃o w es,stepG.exec P m true fr cs none a=.ended o w es)->Outcome H P S fr fs a:=λh2=>.dead λm cs=>by rw[hex];exact h2 m cs
  cases jF:fr.todo with
  |nil=>
   cases cS:fr.roundOf with
   |none=>refine abj λκ bo cj hsw m cs w=>?_;have e0:=Mo hsw jF;subst e0;simp only[stepG.exec,jF,cS];rfl
   |some l=>refine o9 hR hB hL hP hS bf cS (j:=none) (λc h=>bY) λκ bo cj hsw m cs w=>?_;have e0:=Mo hsw jF;subst e0;refine⟨.stuck "range over a function: no such loop" (bo.pos P),?_⟩;rw[hex];simp only[stepG.exec,jF,cS];rfl
  |cons it k=>
   obtain⟨hit,hk⟩:=Jr jF;have xJ:∀{x},kB P S fr.fn fr.roundOf.isSome x=true->∀y∈x::k,kB P S fr.fn fr.roundOf.isSome y=true:=λ{x} hx y hy=>(dM.1 hy).elim (λe=>e▸hx) (hk y);cases it with
   |code c=>
    cases c with
    |skip=>exact pL [] jF au hk λk2 m cs w=>rfl
    |label l=>exact pL [] jF au hk λk2 m cs w=>rfl
    |ret=>
     cases cS:fr.roundOf with
     |none=>refine abj λκ bo cj hsw m cs w=>?_;obtain⟨k2,rfl,_⟩:=dG hsw jF au;simp only[stepG.exec,cS];rfl
     |some l=>refine o9 hR hB hL hP hS bf cS (j:=some .ret) (λc h=>by cases h;rfl) λκ bo cj hsw m cs w=>?_;obtain⟨k2,rfl,_⟩:=dG hsw jF au;refine⟨.stuck "range over a function: no such loop" (({fr with todo:=.code .ret::k2}:Frame).pos P),?_⟩;rw[pZ];simp only[stepG.exec,cS];rfl
    |seq x y=>have hit:=DK.1 hit;exact pL [.code x,.code y] jF au (λz hz=>(dM.1 hz).elim (λe=>e▸hit.1) λhz=>xJ (x:=.code y) hit.2 z hz) λk2 m cs w=>rfl
    |cond x t e=>
     have hit:=QZ.1 hit;cases hx:fr.eval x with
     |bool b=>exact pL [.code (if b then t else e)] jF au (xJ (x:=.code (if b then t else e)) (by cases b<;>simp[kB,hit.1,hit.2])) λk2 m cs w=>(by(have hx2:({fr with todo:=.code (.cond x t e)::k2}:Frame).eval x=.bool b:=hx);(simp only[stepG.exec,hx2]);rfl)
     |_=>exact zE λm cs=>⟨_,_,_,by simp only[stepG.exec,jF,hx];rfl⟩
    |block id b=>exact pL [.code b,.inBlock id] jF au (λz hz=>(dM.1 hz).elim (λe=>e▸hit) λhz=>xJ (x:=.inBlock id) rfl z hz) λk2 m cs w=>rfl
    |loop b=>exact pL [.code b,.inLoop b] jF au (λz hz=>(dM.1 hz).elim (λe=>e▸hit) λhz=>xJ (x:=.inLoop b) hit z hz) λk2 m cs w=>rfl
    |scope b=>exact pL [.code b,.inScope b] jF au (λz hz=>(dM.1 hz).elim (λe=>e▸hit) λhz=>xJ (x:=.inScope b) hit z hz) λk2 m cs w=>rfl
    |exit id=>
     cases he:exitTo id k with
     |none=>
      cases cS:fr.roundOf with
      |none=>exact zE λm cs=>⟨_,_,_,by simp only[stepG.exec,jF,he,cS,Option.elim];rfl⟩
      |some lp=>
       cases fs with
       |nil=>
        have jd:=o6 (H:=H) (P:=P) lp (some (.exit id)) (λc h=>by cases h;rfl);have bZ:=jd a a #[] #[] bf;have eJ:fr.kind=.normal:=hS.2;generalize hX:(Instr.endRound lp (some (.exit id))).runT P a #[]=X at bZ;obtain⟨rx,ex⟩:=X;cases rx with
        |ok v a'=>exact .inr (.inl ⟨rfl,λm c cs=>⟨c.finish v,a',_,by rw[hex];simp only[stepG.exec,jF,he,cS,Option.elim,hX,doReturn,eJ];rfl,.inl ⟨v,rfl⟩⟩⟩)
        |halt h a'=>exact zE λm cs=>⟨_,_,_,by simp only[stepG.exec,jF,he,cS,Option.elim,hX];rfl⟩
       |cons c0 fs0=>refine o9 hR hB hL hP hS bf cS (j:=some (.exit id)) (λc h=>by cases h;rfl) λκ bo cj hsw m cs w=>?_;obtain⟨rfl,_⟩:=hsw;refine⟨.stuck "range over a function: no such loop" (bo.pos P),?_⟩;rw[hex];simp only[stepG.exec,jF,he,cS,Option.elim];rfl
     |some k'=>refine .pure (aZ:={fr with todo:=k'}) (hS.to ⟨λx hx=>hk x (tz he x hx),hF.defers,hF.kind,hF.round,hF.ft⟩ rfl) λκ bo cj hsw=>?_;obtain⟨k2,rfl,_,h4,_⟩:=dG hsw jF au;obtain⟨k3,h5,h6⟩:=h4 id k' he;exact⟨_,h6,λm cs w=>(pZ _ m cs w).trans (by simp only[stepG.exec,h5,Option.elim])⟩
    |goto l=>
     cases he:gotoIn l k with
     |none=>
      cases cS:fr.roundOf with
      |none=>exact zE λm cs=>⟨_,_,_,by simp only[stepG.exec,jF,he,cS,Option.elim];rfl⟩
      |some lp=>
       cases fs with
       |nil=>
        have jd:=o6 (H:=H) (P:=P) lp (some (.goto l)) (λc h=>by cases h;rfl);have bZ:=jd a a #[] #[] bf;have eJ:fr.kind=.normal:=hS.2;generalize hX:(Instr.endRound lp (some (.goto l))).runT P a #[]=X at bZ;obtain⟨rx,ex⟩:=X;cases rx with
        |ok v a'=>exact .inr (.inl ⟨rfl,λm c cs=>⟨c.finish v,a',_,by rw[hex];simp only[stepG.exec,jF,he,cS,Option.elim,hX,doReturn,eJ];rfl,.inl ⟨v,rfl⟩⟩⟩)
        |halt h a'=>exact zE λm cs=>⟨_,_,_,by simp only[stepG.exec,jF,he,cS,Option.elim,hX];rfl⟩
       |cons c0 fs0=>refine o9 hR hB hL hP hS bf cS (j:=some (.goto l)) (λc h=>by cases h;rfl) λκ bo cj hsw m cs w=>?_;obtain⟨rfl,_⟩:=hsw;refine⟨.stuck "range over a function: no such loop" (bo.pos P),?_⟩;rw[hex];simp only[stepG.exec,jF,he,cS,Option.elim];rfl
     |some k'=>refine .pure (aZ:={fr with todo:=k'}) (hS.to ⟨wu hk he,hF.defers,hF.kind,hF.round,hF.ft⟩ rfl) λκ bo cj hsw=>?_;obtain⟨k2,rfl,_,_,h4⟩:=dG hsw jF au;obtain⟨k3,h5,h6⟩:=h4 l k' he;exact⟨_,h6,λm cs w=>(pZ _ m cs w).trans (by simp only[stepG.exec,h5,Option.elim])⟩
    |refuse why=>exact zE λm cs=>⟨_,_,_,by simp only[stepG.exec,jF];rfl⟩
    |rangeFunc g ps x y=>
     have h:(cR P S fr.fn (.rangeFunc g ps x y) &&(!fr.roundOf.isSome||false))=true:=hit;rw[bK]at h;exact Jp hR hB hL hP hS bf hm jF h.1 (by cases e:fr.roundOf with
      |none=>rfl
      |some l=>rw[e]at h;exact absurd h.2 au)
    |region id ops draw=>
     cases draw with
     |false=>exact pL [.inRegion ops (List.range ops.size)] jF au (xJ (x:=.inRegion ops (List.range ops.size)) hit) λk2 m cs w=>rfl
     |true=>have hq:(Question.order fr.fn id).forced=false:=rfl;refine .inl ⟨{fr with todo:=.inRegion ops (Region.schedule (P.follows .mixedOrders) ops ((Question.order fr.fn id).cut (a.tape a.drawn (.order fr.fn id))))::k},fs,{a with drawn:=a.drawn+1},hS.to ⟨xJ (x:=.inRegion ops _) hit,hF.defers,hF.kind,hF.round,hF.ft⟩ rfl,rfl,Nat.le_succ _,λr hrel fB=>?_⟩;refine⟨{r with drawn:=r.drawn+1},#[],⟨⟨hrel.size,hrel.same,hrel.hid,hrel.objs,hrel.os,hrel.output⟩,rfl,by show r.drawn+1=r.drawn+(a.drawn+1-a.drawn);omega,λ_ _=>rfl,λ_ h=>.inl h,λ_ h=>.inl h,aY _,gH hrel,λy hy=>⟨rfl,hy⟩,λ_ h=>.inl h,aY _,cJ _,cJ _,rfl,rfl⟩,λκ bo cj hsw=>?_⟩;obtain⟨k2,rfl,h3,_⟩:=dG hsw jF au;refine⟨_,_,h3 [.inRegion ops _] _ rfl,λm cs=>?_⟩;have e:=fB 0 (.order fr.fn id) au;simp only[Nat.add_zero]at e;rw[e,pZ];simp only[stepG.exec,Jo hq];rfl
   |inBlock id=>exact pL [] jF au hk λk2 m cs w=>rfl
   |inScope b=>exact pL [] jF au hk λk2 m cs w=>rfl
   |inLoop b=>exact pL [.code b,.inLoop b] jF au (λz hz=>(dM.1 hz).elim (λe=>e▸hit) λhz=>xJ (x:=.inLoop b) hit z hz) λk2 m cs w=>rfl
   |inRegion ops l=>
    cases l with
    |nil=>exact pL [] jF au hk λk2 m cs w=>rfl
    |cons i rest=>
     by_cases hw:((ops[i]?).map (Region.wanted · (yielded ops fr.tmps))).getD false=true
     ·cases ho:ops[i]? with
      |none=>rw[ho]at hw;cases hw
      |some o=>
       refine Jl hR hB hL hP hS bf jF ho λκ bo cj hsw m cs w=>?_;obtain⟨k2,rfl,_⟩:=dG hsw jF au;rw[pZ];have hw2:=hw;rw[ho]at hw2;have Fx:∀l,fr.roundOf=some l->∀c,o.op≠.defer c:=λl hl c hc=>(by have h1:(ops.all (eV P S fr.fn) &&(!fr.roundOf.isSome||ops.all iJ))=true:=hit;rw[hl,bK]at h1;have h2:ops.all iJ=true:=(by simpa using h1.2);rw[Array.all_eq_true]at h2;obtain⟨hlt,e⟩:=aQ.1 ho;have:=h2 i hlt;rw[e]at this;unfold iJ at this;rw[hc]at this;cases this);simp only[stepG.exec,stepG.oper,Frame.oper?,ho];rw[if_pos hw2];split
       ·rename_i l c h1 h2;exact absurd h2 (Fx l h1 c)
       ·rfl
     ·refine .pure (hS.to (hF.finish jF (v:=undef) λ_ _ _=>undef_vs) (fL _) (jP _)) λκ bo cj hsw=>?_;have h3:=jN hsw jF undef;obtain⟨k2,rfl,_⟩:=dG hsw jF au;refine⟨_,h3,λm cs w=>?_⟩;rw[pZ];simp only[stepG.exec,hw,if_false,dS]
   |inRangeFunc l=>exact zE λm cs=>⟨_,_,_,by simp only[stepG.exec,jF];rfl⟩
   |endRangeFunc l=>
    have h:(S.R&&!fr.roundOf.isSome)=true:=hit;rw[bK]at h;exact BA hR hB hL hP hS bf hm jF (by cases e:fr.roundOf with
     |none=>rfl
     |some l=>rw[e]at h;exact absurd h.2 au)
   |beginRound=>
    have h:(S.R&&fr.roundOf.isSome)=true:=hit;rw[bK]at h;cases e:fr.roundOf with
    |none=>rw[e]at h;exact absurd h.2 au
    |some l=>exact yr hR hB hL hP hS bf hm jF e
   |_=>cases hit
 ·have Q6:∀fr:Frame,fr.mode≠.run->∀m cs w,stepG P m (bh fr cs) w=unwind P m fr cs none w:=λfr hm m cs w=>by
   cases e:fr.mode with
   |run=>exact absurd e hm
   |_=>simp only[stepG,e]
  have mB:=Q6 fr hm;cases hd:fr.defers with
  |cons d ds=>
   by_cases abk:∃b,d.target=.collected b
   ·obtain⟨b,hb⟩:=abk;obtain⟨tg,xs⟩:=d;have hb:tg=.collected b:=hb;subst hb;exact step_collected hR hB hL hP hS bf hm hd
   have hnc:∀b,d.target≠.collected b:=λb hb=>abk ⟨b,hb⟩;refine Bz hR hB hL hP hS bf hd hnc λκ bo cj hsw m cs w=>?_;obtain⟨t2,rfl⟩:∃t2,bo={fr with todo:=t2}:=⟨_,dN hsw⟩;rw[Q6 {fr with todo:=t2} hm];unfold unwind;simp only[hd];obtain⟨tg,ar⟩:=d;cases tg<;>first|rfl|exact absurd rfl (hnc _)
  |nil=>
   cases Bf:fr.mode with
   |run=>exact absurd Bf hm
   |panicking chain=>
    by_cases hc:fr.catches P=true
    ·exact .dead λm cs=>⟨_,_,_,by rw[mB];simp only[unwind,hd,Bf,hc,if_true];rfl⟩
    ·cases fs with
     |nil=>refine .inr (.inl ⟨rfl,λm c cs=>⟨c.raise chain,a,#[],?_,.inr ⟨chain,rfl⟩⟩⟩);rw[mB];simp only[unwind,hd,Bf,hc,if_false,dS]
     |cons c fs=>refine .inl ⟨c.raise chain,fs,a,hS.2.2.to (hS.2.2.fi.raise chain) (jO _) (nX _),rfl,aY _,λr hrel _=>⟨r,#[],iN hrel _,λκ bo cj hsw=>?_⟩⟩;obtain⟨rfl,c2,se,rfl,yq⟩:=hsw;refine⟨_,_,lH yq chain,λm cs=>?_⟩;rw[mB];simp only[unwind,hd,Bf,hc,if_false,dS,jc]
   |returning=>
    have yt:∀c bz,fs=c::bz->∀v,(S.rt fr.fn=true->VI S v=true)->∃c',bQ P S c' bz/\∀κ c2 cj,o8 κ c bz c2 cj->∃c3,o8 κ c' bz c3 cj/\∀m cs w,doReturn P m fr (c2::cs) none v w=.go (bh c3 cs) w #[]:=λc bz e v hvi=>by
     subst e;obtain⟨_,hk,Jn⟩:=hS;rcases hF.kind with eJ|eJ
     ·obtain⟨lS,hat⟩:=hk.resolve_left (by rw[eJ];simp);exact⟨c.finish v,Jn.to (lS v hvi) (fL v) (jP v),λκ c2 cj hsw=>⟨_,xH hsw hat v,λm cs w=>by simp only[doReturn,eJ]⟩⟩
     ·have hFc:=Jn.fi;by_cases hrc:∃x g cK,c.mode=.panicking ({v:=x,recovered:=true,goexit:=g}::cK)
      ·obtain⟨x,g,cK,hm⟩:=hrc;cases ho:cK.dropWhile (!·.goexit)with
       |nil=>exact⟨{c with mode:=.returning},Jn.to (hFc.mode _) rfl,λκ c2 cj hsw=>⟨_,jb (aZ:={c with mode:=.returning}) hsw rfl,λm cs w=>by have xI:c2.mode=.panicking ({v:=x,recovered:=true,goexit:=g}::cK):=(by rw[dN hsw];exact hm);have e3:({c2 with mode:=.returning}:Frame)={c with mode:=.returning,todo:=c2.todo}:=(by rw[dN hsw]);simp only[doReturn,eJ,xI,ho,e3]⟩⟩
       |cons y ys=>exact⟨{c with mode:=.panicking (y::ys)},Jn.to (hFc.mode _) rfl,λκ c2 cj hsw=>⟨_,jb (aZ:={c with mode:=.panicking (y::ys)}) hsw rfl,λm cs w=>by have xI:c2.mode=.panicking ({v:=x,recovered:=true,goexit:=g}::cK):=(by rw[dN hsw];exact hm);have e3:({c2 with mode:=.panicking (y::ys)}:Frame)={c with mode:=.panicking (y::ys),todo:=c2.todo}:=(by rw[dN hsw]);simp only[doReturn,eJ,xI,ho,e3]⟩⟩
      ·exact⟨c,Jn,λκ c2 cj hsw=>⟨c2,hsw,λm cs w=>by
        have xI:c2.mode=c.mode:=(by rw[dN hsw]);simp only[doReturn,eJ,xI];split
        ·rename_i x g cK hm;exact absurd ⟨_,_,_,hm⟩ hrc
        ·rfl⟩⟩
    cases fs with
    |nil=>
     have eJ:fr.kind=.normal:=hS.2;have hdn:∀m c cs v w,doReturn P m fr (c::cs) none v w=.go (bh (c.finish v) cs) w #[]:=λm c cs v w=>(by simp only[doReturn,eJ]);cases hfn:P.funcs[fr.fn]? with
     |none=>exact .inr (.inl ⟨rfl,λm c cs=>⟨c.finish (fr.tmps.getD 0 undef),a,#[],by rw[mB];simp only[unwind,hd,Bf,hfn,hdn],.inl ⟨_,rfl⟩⟩⟩)
     |some fn=>
      have bZ:=tE (H:=H) (P:=P) fn fr.tmps a a #[] #[] bf;generalize hX:(results fn fr.tmps).runT P a #[]=X at bZ;obtain⟨rx,ex⟩:=X;cases rx with
      |ok v a'=>exact .inr (.inl ⟨rfl,λm c cs=>⟨_,a',_,by rw[mB];simp only[unwind,hd,Bf,hfn,hX,hdn];rfl,.inl ⟨_,rfl⟩⟩⟩)
      |halt h a'=>refine .dead λm cs=>?_;rw[mB];cases h<;>(simp only[unwind,hd,Bf,hfn,hX];exact⟨_,_,_,rfl⟩)
    |cons c fs=>
     cases hfn:P.funcs[fr.fn]? with
     |none=>obtain⟨c',Jn,hst⟩:=yt c fs rfl (fr.tmps.getD 0 undef) (λh=>by obtain⟨fn,r,h1,_⟩:=hR.more.2.2 _ h;rw[hfn]at h1;cases h1);refine .inl ⟨c',fs,a,Jn,rfl,aY _,λr hrel _=>⟨r,#[],iN hrel _,λκ bo cj hsw=>?_⟩⟩;obtain⟨rfl,c2,se,rfl,yq⟩:=hsw;obtain⟨c3,h3,h4⟩:=hst κ c2 se yq;exact⟨c3,se,h3,λm cs=>by rw[mB];simp only[unwind,hd,Bf,hfn,jc,h4]⟩
     |some fn=>
      have jd:=tE (H:=H) (P:=P) fn fr.tmps;have bZ:=jd a a #[] #[] bf;have hr:=λr (h:Rel H a r)=>jd a r #[] #[] h;generalize hX:(results fn fr.tmps).runT P a #[]=X at bZ hr;obtain⟨rx,ex⟩:=X;cases rx with
      |ok v a'=>
       obtain⟨c',Jn,hst⟩:=yt c fs rfl v (λh=>by
        obtain⟨Q7,r,h1,h2,h3,h4⟩:=hR.more.2.2 _ h;rw[hfn]at h1;obtain rfl:=aP h1;rw[results_tmp h2]at hX;have e:v=fr.tmps.getD r undef:=by
         have:(Result.ok (fr.tmps.getD r undef) a,#[])=((Result.ok v a',ex):Result Value×Array Event):=hX;injection this with e1 _
         injection e1 with e1 _
         exact e1.symm
        rw[e];have:=hF.ft r h3;rw[zA,h4]at this;exact this)
       obtain⟨_,sJ,hdr,_⟩:=bZ;refine .inl ⟨c',fs,a',Jn,sJ,hdr,λr hrel fB=>?_⟩;obtain⟨_,_,_,h⟩:=hr r hrel;obtain⟨r',er,e,hw⟩:=h fB;refine⟨r',seen P fr.fn er++ #[],bS hw,λκ bo cj hsw=>?_⟩;obtain⟨rfl,c2,se,rfl,yq⟩:=hsw;obtain⟨c3,h3,h4⟩:=hst κ c2 se yq;exact⟨c3,se,h3,λm cs=>by rw[mB];simp only[unwind,hd,Bf,hfn,e,jc,h4];rfl⟩
      |halt h a'=>refine .dead λm cs=>?_;rw[mB];cases h<;>(simp only[unwind,hd,Bf,hfn,hX];exact⟨_,_,_,rfl⟩)
end
def base(P:Program):Frame:={fn:=P.funcs.size,tmps:=#[],todo:=[.code (.refuse "")],defers:=[{target:=.nil,args:=#[]}],mode:=.run,kind:=.normal}
abbrev aV(a:World)(τ:Nat->Question->Nat):World:={a with tape:=τ}
def kC(P:Program)(Stop:Frame->List Frame->World->Prop)(n:Nat)(fr:Frame)(fs:List Frame)(a:World):Prop:=∃aZ bz a',runN P n (lone fr (fs++[base P]) a)=.next (lone aZ (bz++[base P]) a')/\Stop aZ bz a'
def uI(P:Program)(Stop:Frame->List Frame->World->Prop)(fr:Frame)(fs:List Frame)(a:World):Prop:=∀τ,∃n,kC P Stop n fr fs (aV a τ)
inductive Vg(P:Program)(Stop:Frame->List Frame->World->Prop):Frame->List Frame->World->Prop
 |stop {fr:Frame} {fs:List Frame} {a:World}:Stop fr fs a->Vg P Stop fr fs a
 |step {fr:Frame} {fs:List Frame} {a:World}:(∀τ,∃aZ bz a' es,stepG P true (bh fr (fs++[base P])) (aV a τ)=.go (bh aZ (bz++[base P])) a' es)->
   (∀τ aZ bz a' es,stepG P true (bh fr (fs++[base P])) (aV a τ)=.go (bh aZ (bz++[base P])) a' es->Vg P Stop aZ bz a')->Vg P Stop fr fs a
section
variable{P:Program}{S:ba}{Stop:Frame->List Frame->World->Prop}
theorem lT(h:Rel H a a)(τ nY:Nat->Question->Nat):Rel H (aV a τ) (aV a nY):=⟨h.size,h.same,h.hid,h.objs,h.os,h.output⟩
theorem wx{b:World}(h1:a.heap=b.heap)(h2:a.tape=b.tape)(h3:a.drawn=b.drawn)(h4:a.os=b.os)(h5:a.output=b.output):a=b:=by cases a;cases b;simp_all
theorem wy{es:Array Event}(bf:Rel H a a)(hd:a.drawn<=a1.drawn)(h:Went H es a a1 (aV a nY) r' er):r'=aV a1 nY:=by
 refine wx ?_ h.tape ?_ h.rel.os.symm h.rel.output.symm
 ·apply Array.ext_getElem?;intro b;by_cases hb:H b
  ·rw[h.hidden b hb];exact(bf.hid b hb).1.trans (h.rel.hid b hb).1.symm
  ·exact(h.eqk b hb λ_=>rfl).symm
 ·rw[h.drawn];show a.drawn+(a1.drawn-a.drawn)=a1.drawn;omega
theorem nZ{r:World}{es:Array Event}(h:Went H es (aV a τ) a1 r r' er):Went H es a a1 r r' er:=⟨h.rel,h.tape,h.drawn,h.hidden,h.evs,h.evin,h.grow,h.eqk,h.kept,h.rov,h.growa,h.shp,h.shpr,h.same⟩
theorem NL{es:Array Event}(bf:Rel H a a)(h:Went H es a a1 (aV a nY) r' er):Rel H a1 a1:=by refine⟨rfl,λ_ _=>.inl rfl,λb hb=>⟨(h.rel.hid b hb).1,_,(h.rel.hid b hb).1,rfl⟩,h.rel.objs,rfl,rfl⟩
theorem Js(v:Value)(w:World):∃o w',step P (lone ((base P).finish v) [] w)=.ended o w':=by exact⟨_,w,step_lone_ended (by show(stepG P true (bh (base P) []) w).bare=_;simp only[stepG,base,stepG.exec];rfl)⟩
theorem FK(c:List PanicEntry)(w:World):∃o w',step P (lone ((base P).raise c) [] w)=.ended o w':=by exact⟨_,w,step_lone_ended (by show(stepG P true (bh ((base P).raise c) []) w).bare=_;simp only[stepG,base,Frame.raise,unwind,callDeferred];rfl)⟩
theorem lU{xs ys:List α}{z:α}(h:xs++[z]=ys++[z]):xs=ys:=List.append_cancel_right h
theorem uJ{w:World}(h:lone fr cs w=lone aZ cs' w'):fr=aZ/\cs=cs'/\w=w':=by
 unfold lone at h;injection h with h1 h2
 simp at h2;exact⟨h2.1,h2.2,h1⟩
theorem zF{xs:Array α}(h:y∈xs.zipIdx.toList):y.1∈xs:=by obtain⟨x,i⟩:=y;have h':(x,i)∈xs.zipIdx:=Array.mem_toList_iff.1 h;rw[Array.mk_mem_zipIdx_iff_getElem?]at h';exact od h'
theorem NM{w:World}{cases:Array CommCase}{shape:CommShape}{es:Array Event}(h:stepG P true (bh fr cs) w=.comm (bh fr cs) cases true shape w' es)(bf:Rel H w' w'){n:Nat}:
  runN P (n+1) (lone fr cs w)≠.next (lone aZ cs' w2):=by
 have idle:∀(b cap:Nat) (buf:Array Value) (cl:Bool) (s r:Nat) (tm:Bool),w'.heap[b]? =some (.chan cap buf cl s r tm)->cap=0/\buf=#[]/\cl=false:=λb cap buf cl s r tm e=>by
  by_cases hb:H b
  ·rw[(bf.hid b hb).1]at e;cases e
  ·have:=bf.objs b hb _ e;simp only[ej,bK,beq_iff_eq,Array.isEmpty_iff,uF]at this;exact⟨this.1.1,this.1.2,this.2⟩
 have Vh:∀r b,partners #[{(default:Goroutine)with status:=.finished}] r b=[]:=λr b=>Go.Conc.partners_nil λx t ht=>by
  rcases x with _|x
  ·simp at ht;subst ht;exact Go.Conc.offersAt_of_not_blocked au _ _
  ·simp at ht
 have hstep:step P (lone fr cs w)=(communicate P {timers:=#[],alone:=none,slice:=none} #[{(default:Goroutine)with status:=.finished}] 0 (bh fr cs) cases true shape w').1:=by rw[step,stepT,move_lone];simp[runT,lone,Array.swapAt!,h]
 have blocked:(∃o w'',step P (lone fr cs w)=.ended o w'')\/step P (lone fr cs w)=.next (oneG {bh fr cs with status:=.blocked,offers:=some (cases,shape)} w'):=by
  rw[hstep];unfold communicate;simp only;split
  ·exact .inl ⟨_,_,rfl⟩
  ·rename_i afz;have hw:∀c∈cases,ways w' #[{(default:Goroutine)with status:=.finished}] c=[]:=by
    intro c hc;unfold ways;split
    ·rename_i r e;cases ho:w'.heap[r]? with
     |none=>rfl
     |some o=>
      cases o with
      |chan cap buf cl s r' tm=>obtain⟨rfl,rfl,rfl⟩:=idle _ _ _ _ _ _ _ ho;cases c.send<;>simp[Vh]
      |_=>rfl
    ·rfl
   have YF:((cases.zipIdx.toList.map λ(x:CommCase×Nat)=>(x.2,x.1,ways w' #[{(default:Goroutine)with status:=.finished}] x.1)).filter λ(x:Nat×CommCase×List Way)=>!x.2.2.isEmpty)=[]:=(by rw[List.filter_eq_nil_iff];intro x hx;obtain⟨y,hy,rfl⟩:=og.1 hx;have hy':y.1∈cases:=(by have:=zF hy;exact this);simp[hw y.1 hy']);right;have e2:(((cases.zipIdx.toList.map λ(x:CommCase×Nat)=>(x.2,x.1,ways w' #[{(default:Goroutine)with status:=.finished}] x.1)).filter λ(x:Nat×CommCase×List Way)=>!x.2.2.isEmpty)).isEmpty=true:=(by rw[YF];rfl);rw[if_pos (show _=true from e2)];have ht:timerAhead {timers:=#[],alone:=none,slice:=none} w'.os.mono cases=false:=(by unfold timerAhead;rw[Array.any_eq_false'];intro c _;split<;>simp);simp only[waitingAt,ht,if_true,if_false,dS];rfl
 intro hrun;rw[runN]at hrun;rcases blocked with⟨o,w'',e⟩|e
 ·rw[e]at hrun;cases hrun
 ·rw[e]at hrun;simp only at hrun;cases n with
  |zero=>
   injection hrun with hrun
   unfold oneG lone at hrun;injection hrun with _ h2
   simp at h2
  |succ n=>obtain⟨o',w1,he,_⟩:=endWith_ended w' 2 (bytes "fatal error: all goroutines are asleep - deadlock!\n") (.fatal "all goroutines are asleep - deadlock!");have:step P (oneG {bh fr cs with status:=.blocked,offers:=some (cases,shape)} w')=.ended o' w1:=(by simp[step,stepT,move,ask,askOn,oneG,runnable_eq,due,ahead,Goroutine.canRun,sK,pure];rw[he]);rw[runN,this]at hrun;cases hrun
variable(hR:S.Rows H P)(hB:S.iM P)(hL:S.nV)(hP:S.Plain P)(hStop:∀fr fs a τ,Rel H a a->Stop fr fs a->Stop fr fs (aV a τ))
include hR hB hL hP hStop
structure jQ(H:Nat->Prop)(P:Program)(S:ba)(fr:Frame)(fs:List Frame)(a:World)(τ:Nat->Question->Nat)(aZ:Frame)(bz:List Frame)(a':World):Prop where
 st:bQ P S aZ bz
 self:Rel H a' a'
 tape:a'.tape=τ
 drawn:a.drawn<=a'.drawn
 same:∀nY,(∀i q,a.drawn<=i->i<a'.drawn->τ i q=nY i q)->∃es,stepG P true (bh fr (fs++[base P])) (aV a nY)=.go (bh aZ (bz++[base P])) (aV a' nY) es
 sim:∀r,Rel H a r->pH (aV a τ) a' r->∃r' er,Went H #[] a a' r r' er/\∀m cs,stepG P m (bh fr (fs++cs)) r=.go (bh aZ (bz++cs)) r' er
omit hStop in
theorem Mq(hS:bQ P S fr fs)(bf:Rel H a a){n:Nat}(h:kC P Stop (n+1) fr fs (aV a τ)):
  ∃aZ bz a',jQ H P S fr fs a τ aZ bz a'/\kC P Stop n aZ bz a':=by
 obtain⟨bo,cj,a2,hrun,hst⟩:=h;have bZ:Rel H (aV a τ) (aV a τ):=lT bf τ τ;rcases FJ hR hB hL hP hS bZ with⟨aZ,bz,a',h1,h3,h4,h5⟩|⟨rfl,h1⟩|h1|h1
 ·have go1:∀r,Rel H a r->pH (aV a τ) a' r->∃r' er,Went H #[] a a' r r' er/\∀m cs,stepG P m (bh fr (fs++cs)) r=.go (bh aZ (bz++cs)) r' er:=λr hr fB=>by obtain⟨r',er,hw,hs⟩:=h5 r ⟨hr.size,hr.same,hr.hid,hr.objs,hr.os,hr.output⟩ fB;obtain⟨qp,se,hsw,h⟩:=hs none fr fs (nW _ _);obtain⟨rfl,rfl⟩:=zB hsw;exact⟨r',er,nZ hw,h⟩
  have same:∀nY,(∀i q,a.drawn<=i->i<a'.drawn->τ i q=nY i q)->∃es,Went H #[] a a' (aV a nY) (aV a' nY) es/\stepG P true (bh fr (fs++[base P])) (aV a nY)=.go (bh aZ (bz++[base P])) (aV a' nY) es:=λnY fB=>by obtain⟨r',er,hw,hs⟩:=go1 (aV a nY) ⟨bf.size,bf.same,bf.hid,bf.objs,bf.os,bf.output⟩ (λi q hi=>fB _ q (Nat.le_add_right _ _) hi);obtain rfl:=wy bf h4 hw;exact⟨er,hw,hs true _⟩
  obtain⟨es,hw0,e0⟩:=same τ (λ_ _ _ _=>rfl);have et:aV a' τ=a':=by rw[←show a'.tape=τ from h3]
  have hs':Rel H a' a':=NL bf hw0;refine⟨aZ,bz,a',⟨h1,hs',h3,h4,λnY fB=>?_,go1⟩,bo,cj,a2,?_,hst⟩
  ·obtain⟨es',_,e'⟩:=same nY fB;exact⟨es',e'⟩
  ·rw[et]at e0;have:step P (lone fr (fs++[base P]) (aV a τ))=.next (lone aZ (bz++[base P]) a'):=step_lone_go (by rw[e0];rfl);rw[runN,this]at hrun;exact hrun
 ·exfalso;obtain⟨c',a',es,e,hc⟩:=h1 true (base P) [];have:step P (lone fr ([] ++[base P]) (aV a τ))=.next (lone c' [] a'):=step_lone_go (by rw[show([]:List Frame) ++[base P]=[base P]from rfl,e];rfl);rw[runN,this]at hrun;simp only at hrun;have hend:∃o w',step P (lone c' [] a')=.ended o w':=by
   rcases hc with⟨v,rfl⟩|⟨ch,rfl⟩
   ·exact Js v a'
   ·exact FK ch a'
  obtain⟨o,w',ee⟩:=hend;cases n with
  |zero=>
   injection hrun with hrun
   obtain⟨_,e2,_⟩:=uJ hrun;cases cj<;>cases e2
  |succ n=>rw[runN,ee]at hrun;cases hrun
 ·exfalso;obtain⟨o,w',es,e⟩:=h1 true [base P];have:step P (lone fr (fs++[base P]) (aV a τ))=.ended o w':=step_lone_ended (by rw[e];rfl);rw[runN,this]at hrun;cases hrun
 ·exfalso;obtain⟨cases,shape,a',es,e,Q8⟩:=h1 true [base P];exact NM e Q8 hrun
omit hR hB hL hP hStop in
theorem jQ.CB(G:jQ H P S fr fs a τ aZ bz a'):aV a' τ=a':=by rw[←G.tape]
omit hR hB hL hP hStop in
theorem jQ.step(G:jQ H P S fr fs a τ aZ bz a')(h:∀i q,a.drawn<=i->i<a'.drawn->τ i q=nY i q):
  step P (lone fr (fs++[base P]) (aV a nY))=.next (lone aZ (bz++[base P]) (aV a' nY)):=by
 obtain⟨es,e⟩:=G.same nY h;exact step_lone_go (by rw[e];rfl)
omit hR hB hL hP hStop in
theorem jQ.back(G:jQ H P S fr fs a τ aZ bz a')(h:∀i q,a.drawn<=i->i<a'.drawn->τ i q=nY i q){n:Nat}
  (hl:kC P Stop n aZ bz (aV a' nY)):kC P Stop (n+1) fr fs (aV a nY):=by
 obtain⟨f2,s2,a2,hr,hs⟩:=hl;exact⟨f2,s2,a2,by rw[runN,G.step h];exact hr,hs⟩
omit hR hB hL hP hStop in
theorem jQ.ahead(G:jQ H P S fr fs a τ aZ bz a')(h:∀i q,a.drawn<=i->i<a'.drawn->τ i q=nY i q){n:Nat}
  (hl:kC P Stop (n+1) fr fs (aV a nY)):kC P Stop n aZ bz (aV a' nY):=by
 obtain⟨f2,s2,a2,hr,hs⟩:=hl;rw[runN,G.step h]at hr;exact⟨f2,s2,a2,hr,hs⟩
theorem CE:∀(n:Nat) (fr:Frame) (fs:List Frame) (a:World) (κ nY:Nat->Question->Nat),bQ P S fr fs->Rel H a a->kC P Stop n fr fs (aV a κ)->(∀i q,a.drawn<=i->κ i q=nY i q)->kC P Stop n fr fs (aV a nY)
 |0,fr,fs,a,κ,nY,_,bf,⟨f2,s2,a2,hr,hs⟩,_=>by
  injection hr with hr
  obtain⟨rfl,e2,rfl⟩:=uJ hr;obtain rfl:=lU e2;exact⟨fr,fs,_,rfl,hStop fr fs (aV a κ) nY (lT bf κ κ) hs⟩
 |n+1,fr,fs,a,κ,nY,hS,bf,h,fB=>by obtain⟨aZ,bz,a',G,h'⟩:=Mq hR hB hL hP hS bf h;rw[←G.CB]at h';have:=CE n aZ bz a' κ nY G.st G.self h' λi q hi=>fB i q (cn G.drawn hi);exact G.back (λi q h1 _=>fB i q h1) this
structure Off(H:Nat->Prop)(P:Program)(S:ba)(Stop:Frame->List Frame->World->Prop)(x:Frame×List Frame×World):Prop where
 st:bQ P S x.1 x.2.1
 self:Rel H x.2.2 x.2.2
 all:uI P Stop x.1 x.2.1 x.2.2
 not:¬Vg P Stop x.1 x.2.1 x.2.2
theorem Q9{x:Frame×List Frame×World}(h:Off H P S Stop x):∃(τ:Nat->Question->Nat) (y:Frame×List Frame×World),Off H P S Stop y/\jQ H P S x.1 x.2.1 x.2.2 τ y.1 y.2.1 y.2.2:=by
 obtain⟨fr,fs,a⟩:=x;obtain⟨hS,bf,hall,zG⟩:=h;simp only at hS bf hall zG;have hno:¬Stop fr fs a:=λhs=>zG (.stop hs);have pos:∀τ,∃n,kC P Stop (n+1) fr fs (aV a τ):=λτ=>by
  obtain⟨n,hn⟩:=hall τ;cases n with
  |zero=>
   obtain⟨f2,s2,a2,hr,hs⟩:=hn;injection hr with hr
   obtain⟨rfl,e2,rfl⟩:=uJ hr;obtain rfl:=lU e2;exact absurd (hStop _ _ _ a.tape (lT bf τ τ) hs) hno
  |succ n=>exact⟨n,hn⟩
 have goes:∀τ,∃aZ bz a',jQ H P S fr fs a τ aZ bz a':=λτ=>by obtain⟨n,hn⟩:=pos τ;obtain⟨aZ,bz,a',G,_⟩:=Mq hR hB hL hP hS bf hn;exact⟨aZ,bz,a',G⟩
 have hbad:∃τ aZ bz a' es,stepG P true (bh fr (fs++[base P])) (aV a τ)=.go (bh aZ (bz++[base P])) a' es/\¬Vg P Stop aZ bz a':=by
  apply cY;intro hc;refine zG (.step (λτ=>?_) λτ aZ bz a' es e=>?_)
  ·obtain⟨aZ,bz,a',G⟩:=goes τ;obtain⟨es,e⟩:=G.same τ (λ_ _ _ _=>rfl);exact⟨aZ,bz,_,es,e⟩
  ·apply cY;exact λhb=>hc ⟨τ,aZ,bz,a',es,e,hb⟩
 obtain⟨τ,aZ,bz,a',es,e,hb⟩:=hbad;obtain⟨gD,lf,a1,G⟩:=goes τ;obtain⟨es1,e1⟩:=G.same τ (λ_ _ _ _=>rfl);rw[G.CB,e]at e1;injection e1 with eg ea ees
 injection eg with ef ec
 subst ef ea;obtain rfl:=lU ec;refine⟨τ,(aZ,bz,a'),⟨G.st,G.self,λnY=>?_,hb⟩,G⟩;obtain⟨n,hn⟩:=pos (λi q=>if i<a'.drawn then τ i q else nY i q);have h1:=G.ahead (nY:=λi q=>if i<a'.drawn then τ i q else nY i q) (λi q _ h2=>by simp only[h2,if_true]) hn;exact⟨n,CE hR hB hL hP hStop n _ _ _ _ nY G.st G.self h1 λi q hi=>by have hi':¬i<a'.drawn:=Nat.not_lt.2 hi;simp only[hi',if_false]⟩
theorem qy(hS:bQ P S fr fs)(bf:Rel H a a)(hall:uI P Stop fr fs a):Vg P Stop fr fs a:=by
 apply cY;intro zG;let Y:={x:Frame×List Frame×World // Off H P S Stop x};have nx:∀y:Y,∃(p:(Nat->Question->Nat)×Y),jQ H P S y.1.1 y.1.2.1 y.1.2.2 p.1 p.2.1.1 p.2.1.2.1 p.2.1.2.2:=λy=>by obtain⟨τ,z,hz,G⟩:=Q9 hR hB hL hP hStop y.2;exact⟨(τ,⟨z,hz⟩),G⟩
 obtain⟨N,hN⟩:=Classical.axiomOfChoice nx;let y0:Y:=⟨(fr,fs,a),hS,bf,hall,zG⟩;let Q:Nat->Y:=λk=>Nat.rec y0 (λ_ y=>(N y).2) k;have hQ:∀k,Q (k+1)=(N (Q k)).2:=λ_=>rfl;have G:∀k,jQ H P S (Q k).1.1 (Q k).1.2.1 (Q k).1.2.2 (N (Q k)).1 (Q (k+1)).1.1 (Q (k+1)).1.2.1 (Q (k+1)).1.2.2:=λk=>hN (Q k);let d:Nat->Nat:=λk=>(Q k).1.2.2.drawn;have NN:∀k,d k<=d (k+1):=λk=>(G k).drawn;have hd:∀j k,j<=k->d j<=d k:=λj k h=>by
  induction h with
  |refl=>exact aY _
  |step _ ih=>exact cn ih (NN _)
 have uniq:∀i j k,d j<=i->i<d (j+1)->d k<=i->i<d (k+1)->j=k:=λi j k h1 h2 h3 h4=>by
  rcases Nat.lt_trichotomy j k with h|h|h
  ·have:=hd (j+1) k h;omega
  ·exact h
  ·have:=hd (k+1) j h;omega
 let glue:Nat->Question->Nat:=λi q=> @dite _ (∃k,d k<=i/\i<d (k+1)) (Classical.propDecidable _) (λh=>(N (Q (Classical.choose h))).1 i q) (λ_=>0);have abl:∀k i q,d k<=i->i<d (k+1)->(N (Q k)).1 i q=glue i q:=λk i q h1 h2=>by have hex:∃k,d k<=i/\i<d (k+1):=⟨k,h1,h2⟩;have hs:=Classical.choose_spec hex;have e:Classical.choose hex=k:=uniq i _ _ hs.1 hs.2 h1 h2;show _=@dite _ _ (Classical.propDecidable _) _ _;rw[dif_pos hex,e]
 have key:∀n k,kC P Stop n (Q k).1.1 (Q k).1.2.1 (aV (Q k).1.2.2 glue)->False:=λn=>by
  induction n with
  |zero=>
   intro k ⟨f2,s2,a2,hr,hs⟩;injection hr with hr
   obtain⟨e1,e2,e3⟩:=uJ hr;have e2':=lU e2;rw[←e1,←e2',←e3]at hs;exact(Q k).2.not (.stop (hStop _ _ (aV (Q k).1.2.2 glue) (Q k).1.2.2.tape (lT (Q k).2.self glue glue) hs))
  |succ n ih=>exact λk h=>ih (k+1) ((G k).ahead (λi q h1 h2=>abl k i q h1 h2) h)
 obtain⟨n,hn⟩:=hall glue;exact key n 0 hn
end
end
section
open Go.Conc
section
variable{P:Program}{w:World}{sl:Option (Nat×Nat)}{k:Nat}{g g₂ gj:Goroutine}{es:Array Event}{tm:Bool}{z zj:Value}{blocking:Bool}{shape W7:CommShape}{cs cases:Array CommCase}
theorem NP(hi:gs[i]? =some g)(h:stepG P (i==0) g w=.comm g₂ cases blocking shape w₁ es)(hk:cases[k]? =some (scase c v z))
  (ho:∀(m:Nat) (c':CommCase),m≠k->cases[m]? =some c'->NoWays w₁ (gs.setIfInBounds i ph) c')
  (hc:w₁.heap[c]? =some (.chan 0 #[] false s s tm))(pM:j≠i)(hj:gs[j]? =some (parked gj cs W7))(hm:cs[m]? =some (rcase c zj))(hp:partners (gs.setIfInBounds i ph) c false=[(j,m)]):
  runT P (crowd gs w sl) i=(.next (crowd ((gs.setIfInBounds j (gj.finishComm P cs W7 m v true)).setIfInBounds i (g₂.finishComm P cases shape k undef false)) (w₁.setChan c 0 #[] false (s+1) (s+1) tm) sl),
   MemOp.ofEvents i g.frame.fn g.frame.place es++met i j g₂.frame.fn g₂.frame.place gj.frame.fn gj.frame.place c s 0):=by
 have hw:ways w₁ (gs.setIfInBounds i ph) (scase c v z)=[.partner j m]:=by simp[ways,scase,hc,hp]
 have hj':=stand_get (i:=i) pM hj;have hfp:=finishPartner_at P (gs.setIfInBounds i ph) hj' (cs:=cs) (sh:=W7) rfl m v;have hgd:(gs.setIfInBounds i ph).getD j default=parked gj cs W7:=by rw[cE,hj'];rfl
 have hb:(((cs[m]?).map (·.send.isNone)).getD false)=true:=by simp[hm,rcase]
 rw[runT_crowd_comm hi h];unfold communicate;simp only[ready_one hk (by rw[hw];simp) ho,hw];rw[if_neg]
 ·simp[choose,Sem.run,Question.forced,bind,Sem.bind,pure,rcase,crowd,hc,hfp,hb,hgd,set_stand2,finishComm_parked,scase,parked,World.setChan,met];rfl
 ·rw[Bool.not_eq_true];exact any_ill (made_of_one hk (made_send v z hc) ho)
theorem NQ(hi:gs[i]? =some g)(h:stepG P (i==0) g w=.comm g₂ cases blocking shape w₁ es)(hk:cases[k]? =some (rcase c z))
  (ho:∀(m:Nat) (c':CommCase),m≠k->cases[m]? =some c'->NoWays w₁ (gs.setIfInBounds i ph) c')
  (hc:w₁.heap[c]? =some (.chan 0 #[] false s s tm))(pM:j≠i)(hj:gs[j]? =some (parked gj cs W7))(hm:cs[m]? =some (scase c v zj))(hp:partners (gs.setIfInBounds i ph) c true=[(j,m)]):
  runT P (crowd gs w sl) i=(.next (crowd ((gs.setIfInBounds j (gj.finishComm P cs W7 m undef false)).setIfInBounds i (g₂.finishComm P cases shape k v true)) (w₁.setChan c 0 #[] false (s+1) (s+1) tm) sl),
   MemOp.ofEvents i g.frame.fn g.frame.place es++met j i gj.frame.fn gj.frame.place g₂.frame.fn g₂.frame.place c s 0):=by
 have hw:ways w₁ (gs.setIfInBounds i ph) (rcase c z)=[.partner j m]:=by simp[ways,rcase,hc,hp]
 have hj':=stand_get (i:=i) pM hj;have hfp:=finishPartner_at P (gs.setIfInBounds i ph) hj' (cs:=cs) (sh:=W7) rfl m undef;have hgd:(gs.setIfInBounds i ph).getD j default=parked gj cs W7:=by rw[cE,hj'];rfl
 have yu:offeredValue (gs.setIfInBounds i ph) j m=v:=by simp[offeredValue,hj',parked,hm,scase]
 have hb:(((cs[m]?).map (·.send.isNone)).getD false)=false:=by simp[hm,scase]
 rw[runT_crowd_comm hi h];unfold communicate;simp only[ready_one hk (by rw[hw];simp) ho,hw];rw[if_neg]
 ·simp[choose,Sem.run,Question.forced,bind,Sem.bind,pure,rcase,crowd,hc,hfp,hb,hgd,yu,set_stand2,finishComm_parked,scase,parked,World.setChan,met];rfl
 ·rw[Bool.not_eq_true];exact any_ill (made_of_one hk (made_recv z hc) ho)
end
structure Led(Mem:Nat->Prop)(S:Nat->Loc->Prop)(X:Loc->Prop)(K:Nat->Prop)(t:Trace):Prop where
 clean:∀said,¬Race said t
 known:∀i a,touchAt t i=some a->a.loc.isMemory=true->K i\/(X a.loc/\a.kind=.atomic)\/(a.write=false/\a.kind≠.atomic/\∃g,t.g? i=some g/\S g a.loc)
 wrote:∀i a,touchAt t i=some a->a.write=true->∀g,S g a.loc->Knows t g i
 plain:∀i a,touchAt t i=some a->X a.loc->a.kind≠.plain
 hears:∀g,Mem g->Deaf t g=0
section
variable{Mem:Nat->Prop}{S:Nat->Loc->Prop}{K K':Nat->Prop}{t u:Trace}{h g:Nat}
theorem Led.old(H:Led Mem S X K t)(hK:∀i,K i->K' i){a:Touch}{x:MemOp}(hx:t[i]? =some x)(yH:x.act.touch? =some a)(hm:a.loc.isMemory=true):
  K' i\/(X a.loc/\a.kind=.atomic)\/(a.write=false/\a.kind≠.atomic/\∃g,(t++u).g? i=some g/\S g a.loc):=by
 have hlt:=lt_size_of_getElem? hx;rcases H.known i a (by rw[touchAt_of hx];exact yH) hm with h|⟨h1,h2⟩|⟨h1,h4,g,h2,h3⟩
 ·exact .inl (hK i h)
 ·exact .inr (.inl ⟨h1,h2⟩)
 ·exact .inr (.inr ⟨h1,h4,g,by rw[g?_old hlt];exact h2,h3⟩)
theorem Led.mute(H:Led Mem S X K t)(hK:∀i,K i->K' i)(hn:∀op∈u,op.act.touch? =none)(hM:∀g,BB g->Deaf (t++u) g=0):Led BB S X K' (t++u):=by
 refine⟨λsaid=>noRace_appendMute (H.clean said) hn,λi a ha hm=>?_,λi a ha hw g hg=>?_,λi a ha hX=>?_,hM⟩;all_goals
  obtain⟨x,hx,yH⟩:=touch_of ha;rcases getElem?_append_cases hx with⟨_,lL⟩|⟨_,Mr⟩;rotate_left
  ·rw[hn x Mr]at yH;cases yH
 ·exact H.old hK lL yH hm
 ·exact(H.wrote i a (by rw[touchAt_of lL];exact yH) hw g hg).app u
 ·exact H.plain i a (by rw[touchAt_of lL];exact yH) hX
theorem Led.own(H:Led Mem S X (λi=>Knows t h i) t)(hu:∀op∈u,op.g=h)(hs:∀op∈u,∀b,op.act.touch? =some b->(∀g,S g b.loc->b.write=false)/\(X b.loc->b.kind≠.plain))
  (hM:∀g,BB g->Deaf (t++u) g=0):Led BB S X (λi=>Knows (t++u) h i) (t++u):=by
 refine⟨λsaid=>noRace_append (H.clean said) hu λi a ha op hop b hb hc=>?_,λi a ha hm=>?_,λi a ha hw g hg=>?_,λi a ha hX=>?_,hM⟩
 ·obtain⟨hb1,hb2⟩:=hs op hop b hb;rcases H.known i a ha hc.2.1 with hk|⟨hX,hat⟩|⟨hw,_,g,_,hS⟩
  ·exact hk
  ·rcases hc.2.2.2 with x|x|⟨_,x,_⟩
   ·rw[hat]at x;cases x
   ·exact absurd x (hb2 (hc.1▸hX))
   ·rw[hat]at x;cases x
  ·have hb0:=hb1 g (hc.1▸hS);rcases hc.2.2.1 with x|x
   ·rw[hw]at x;cases x
   ·rw[hb0]at x;cases x
 ·obtain⟨x,hx,yH⟩:=touch_of ha;rcases getElem?_append_cases hx with⟨_,lL⟩|⟨_,Mr⟩
  ·exact H.old (λi=>Knows.app u) lL yH hm
  ·have:=knows_own hx;rw[hu x Mr]at this;exact .inl this
 ·obtain⟨x,hx,yH⟩:=touch_of ha;rcases getElem?_append_cases hx with⟨_,lL⟩|⟨_,Mr⟩
  ·exact(H.wrote i a (by rw[touchAt_of lL];exact yH) hw g hg).app u
  ·rw[(hs x Mr a yH).1 g hg]at hw;cases hw
 ·obtain⟨x,hx,yH⟩:=touch_of ha;rcases getElem?_append_cases hx with⟨_,lL⟩|⟨_,Mr⟩
  ·exact H.plain i a (by rw[touchAt_of lL];exact yH) hX
  ·exact(hs x Mr a yH).2 hX
theorem Led.beside(H:Led Mem S X K t)(hK:∀i,K i->K' i)(hu:∀op∈u,op.g=g)
  (hr:∀op∈u,∀b,op.act.touch? =some b->(b.write=false/\S g b.loc/\¬X b.loc/\b.kind≠.atomic)\/(X b.loc/\b.kind=.atomic/\∀g',¬S g' b.loc))
  (hM:∀g,BB g->Deaf (t++u) g=0):Led BB S X K' (t++u):=by
 refine⟨λsaid=>noRace_append (H.clean said) hu λi a ha op hop b hb hc=>?_,λi a ha hm=>?_,λi a ha hw g' p9=>?_,λi a ha hX=>?_,hM⟩
 ·rcases hr op hop b hb with⟨hb0,hbS,_⟩|⟨hX,hat,_⟩
  ·rcases hc.2.2.1 with x|x
   ·exact H.wrote i a ha x g (hc.1▸hbS)
   ·rw[hb0]at x;cases x
  ·rcases hc.2.2.2 with x|x|⟨_,_,x⟩
   ·exact absurd x (H.plain i a ha (hc.1▸hX))
   ·rw[hat]at x;cases x
   ·rw[hat]at x;cases x
 ·obtain⟨x,hx,yH⟩:=touch_of ha;rcases getElem?_append_cases hx with⟨_,lL⟩|⟨_,Mr⟩
  ·exact H.old hK lL yH hm
  ·rcases hr x Mr a yH with⟨h1,h2,_,h4⟩|⟨h1,h2,_⟩
   ·exact .inr (.inr ⟨h1,h4,g,by rw[g?_of hx,hu x Mr],h2⟩)
   ·exact .inr (.inl ⟨h1,h2⟩)
 ·obtain⟨x,hx,yH⟩:=touch_of ha;rcases getElem?_append_cases hx with⟨_,lL⟩|⟨_,Mr⟩
  ·exact(H.wrote i a (by rw[touchAt_of lL];exact yH) hw g' p9).app u
  ·rcases hr x Mr a yH with⟨h1,_⟩|⟨_,_,h1⟩
   ·rw[h1]at hw;cases hw
   ·exact absurd p9 (h1 g')
 ·obtain⟨x,hx,yH⟩:=touch_of ha;rcases getElem?_append_cases hx with⟨_,lL⟩|⟨_,Mr⟩
  ·exact H.plain i a (by rw[touchAt_of lL];exact yH) hX
  ·rcases hr x Mr a yH with⟨_,_,h1,_⟩|⟨_,h1,_⟩
   ·exact absurd hX h1
   ·rw[h1];simp
theorem Led.pass{p q:Nat}{x y:MemOp}(H:Led Mem S X (λi=>Knows t h i) t)(hn:∀op∈u,op.act.touch? =none)(hp:t.size<=p)(hx:(t++u)[p]? =some x)(hxg:x.g=h)
  (hy:(t++u)[q]? =some y)(hyg:y.g=j)(edge:HappensBefore (t++u) p q)(hS1:∀g l,S g l->S' g l)(YG:∀g l,S' g l->S g l\/(l.isMemory=true/\¬X l/\(g=h\/g=j)))(hM:∀g,BB g->Deaf (t++u) g=0):
  Led BB S' X (λi=>Knows (t++u) j i) (t++u):=by
 have kn:∀i,Knows t h i->Knows (t++u) j i:=λi hk=>⟨q,y,hy,hyg,.inr ((hk.hb_new hp hx hxg).trans edge)⟩;refine⟨λsaid=>noRace_appendMute (H.clean said) hn,λi a ha hm=>?_,λi a ha hw g hg=>?_,λi a ha hX=>?_,hM⟩;all_goals
  obtain⟨z,hz,hza⟩:=touch_of ha;rcases getElem?_append_cases hz with⟨hi,hz'⟩|⟨_,hzu⟩;rotate_left
  ·rw[hn z hzu]at hza;cases hza
 ·rcases H.known i a (by rw[touchAt_of hz'];exact hza) hm with hk|⟨h1,h2⟩|⟨h1,h4,g,h2,h3⟩
  ·exact .inl (kn i hk)
  ·exact .inr (.inl ⟨h1,h2⟩)
  ·exact .inr (.inr ⟨h1,h4,g,by rw[g?_old hi];exact h2,hS1 _ _ h3⟩)
 ·rcases YG g _ hg with h0|⟨m1,m2,m3⟩
  ·exact(H.wrote i a (by rw[touchAt_of hz'];exact hza) hw g h0).app u
  ·rcases H.known i a (by rw[touchAt_of hz'];exact hza) m1 with hk|⟨h1,_⟩|⟨h1,_⟩
   ·rcases m3 with rfl|rfl
    ·exact hk.app u
    ·exact kn i hk
   ·exact absurd h1 m2
   ·rw[hw]at h1;cases h1
 ·exact H.plain i a (by rw[touchAt_of hz'];exact hza) hX
end
end
section
open Go.Conc Go.ConcN
open Go.ConcR (KK wgBlock WgAt stA smA rd wr mk Payload Aside2 DC0 Bk g_of_ofEvents bk_of_mute ofEvent_loc_mark deafBehind_cons deafBehind_one)
variable[Payload]
def BC:Nat->Loc->Prop:=λ_ _=>False
def EvG(Wg:Nat)(e:Event):Prop:=((MemAct.ofEvent e).touch? =none\/∃x,(MemAct.ofEvent e).touch? =some x/\ShN Wg x.loc/\x.kind=.atomic)/\e.loc≠.mark (.release (stA Wg))
omit[Payload]in
theorem NS(h:Bk Wg e):EvG Wg e:=by
 rcases h with h|h|⟨a,wr,rfl,ha⟩
 ·exact⟨.inl (by rw[ofEvent_loc_mark h];rfl),by rw[h];simp⟩
 ·exact⟨.inl (by rw[ofEvent_loc_mark h];rfl),by rw[h];simp⟩
 ·exact⟨.inr ⟨⟨.cell a,wr,.atomic⟩,rfl,⟨a,rfl,ha⟩,rfl⟩,au⟩
def Ra(P:Program)(ty:TypeId)(Wg C n k:Nat)(g:Goroutine)(w:World):Prop:=g.status=.running/\∃g',stepG P false g w=.go g' w #[mk (.releaseMerge (stA Wg))]/\∃m,Goes P false (RW ty Wg C n 0 (k-1)) DC0 (AtK1 P ty Wg C n 0 k) m g' w
inductive iu(P:Program)(ty:TypeId)(Wg C n k:Nat):Nat->Nat->Nat->Goroutine->World->Prop
 |r0 {m:Nat} {g:Goroutine} {w:World}:Goes P false (RW ty Wg C n 0 (k-1)) DC0 (Ra P ty Wg C n k) m g w->iu P ty Wg C n k 7 m 0 g w
 |low {s m d:Nat} {g:Goroutine} {w:World}:s<=6->WSit P ty Wg C n BC BC 0 k undef s m d g w->iu P ty Wg C n k s m d g w
theorem iu.rely{P:Program}{n k d:Nat}{g:Goroutine}{w:World}(h:iu P ty Wg C n k s m d g w)(hr:RW ty Wg C n 0 (k-1) w w'):iu P ty Wg C n k s m d g w':=by
 cases h with
 |r0 h=>exact .r0 (je (λ_ _ _ h1 h2=>h1.trans h2) h hr)
 |low h h'=>exact .low h (h'.rely hr)
theorem iu.status{P:Program}{n k d:Nat}{g:Goroutine}{w:World}(h:iu P ty Wg C n k s m d g w):g.status=.running\/g.status=.finished:=by
 cases h with
 |r0 h=>exact .inl (iB (λ_ _ x=>x.1) w (RW.refl w) h)
 |low _ h'=>exact h'.status
def Rb(P:Program)(ty:TypeId)(Wg C n k:Nat)(j:Nat)(D:Nat->WD)(tag:CTag)(i kk s m dd:Nat)(g:Goroutine)(w:World):Prop:=
 ∃g' w' es s' m' dd' CG II,stepG P false g w=.go g' w' es/\Aside Wg w w'/\iu P ty Wg C n k s' m' dd' g' w'/\deafBehind dd es=dd'/\WgAt ty Wg w' CG II/\
  (∀bD,(bD=tag\/(tag=.blk/\bD=.w3))->(mayWake P g=true->g'.status=.running->bD≠.blk)->ConcN.Mode j (upd D i ⟨s',m',dd'⟩) bD CG II)/\(∀e∈es,EvG Wg e)/\
  (∀(t:Trace) fn pos,Deaf t kk=dd->(∀r,s<=6->RelBy (stA Wg) t kk r->RelBy (stA Wg) (t++MemOp.ofEvents kk fn pos es) kk r)/\(s'<=6->s=7->∃r,RelBy (stA Wg) (t++MemOp.ofEvents kk fn pos es) kk r))/\
  (s'<s\/(s'=s/\m'+1=m))/\s'<=s
section
variable{P:Program}{n k:Nat}{w:World}{D:Nat->WD}{tag:CTag}{st sm:Int}
theorem Ms(hCW:C≠Wg)(hb:j+pend tag<2147483648)(jR:WgAt ty Wg w st sm)(gB:ConcN.Mode j D tag st sm){kk:Nat}(hi:i<j){g:Goroutine}{dd:Nat}(hst:(D i).stage=s)
  (hs:iu P ty Wg C n k s m dd g w)(hrun:g.status=.running):Rb P ty Wg C n k j D tag i kk s m dd g w:=by
 have hVj:=Vc_le j D;have book:∀{g':Goroutine} {w':World} {es:Array Event} {s' m' dd':Nat} {CG II:Int},stepG P false g w=.go g' w' es->Aside Wg w w'->WgAt ty Wg w' CG II->(∀e∈es,Bk Wg e)->
   (∀jx e,es[jx]? =some e->(MemAct.ofEvent e).touch? =none\/0<deafBehind dd (es.extract 0 jx))->iu P ty Wg C n k s' m' dd' g' w'->deafBehind dd es=dd'->s<=6->
   (∀bD,(bD=tag\/(tag=.blk/\bD=.w3))->(mayWake P g=true->g'.status=.running->bD≠.blk)->ConcN.Mode j (upd D i ⟨s',m',dd'⟩) bD CG II)->(s'<s\/(s'=s/\m'+1=m))->Rb P ty Wg C n k j D tag i kk s m dd g w:=by
  intro g' w' es s' m' dd' CG II hgo hAs Jt FL hd hs' hdd h6 zH hlt;exact⟨g',w',es,s',m',dd',CG,II,hgo,hAs,hs',hdd,Jt,zH,λe he=>NS (FL e he),λt fn pos Bg=>⟨λr _ hr=>hr.book Bg _ _ FL hd,λ_ h7=>ae⟩,hlt,ae⟩
 have idle:∀{g':Goroutine} {m':Nat},stepG P false g w=.go g' w #[]->iu P ty Wg C n k s m' dd g' w->m'+1=m->s<=6->s≠1->Rb P ty Wg C n k j D tag i kk s m dd g w:=by intro g' m' hgo hs' hm h6 h1;exact book hgo (.refl Wg w) jR au au hs' rfl h6 (λ_ ht _=>ConcN.Mode.retag (by have:=gB.same (i:=i) m' dd;rwa [hst]at this) ht) (.inr ⟨rfl,hm⟩)
 cases hs with
 |r0 h=>
  rcases jG h with cN|⟨m',rfl,hstep⟩
  ·obtain⟨_,g',hgo,m₂,hk⟩:=cN w (RW.refl w);exact⟨g',w,_,6,m₂,0,st,sm,hgo,.refl Wg w,.low ae (.k1 hk),rfl,jR,λ_ ht _=>(gB.counted hi ae (.inl rfl) _ _).retag ht,by intro e he;simp at he;subst he;exact⟨.inl rfl,by simp[mk]⟩,
    λt fn pos Bg=>⟨λ_ h6=>ae,λ_ _=>⟨t.size,RelBy.new Bg _ _⟩⟩,.inl ae,ae⟩
  ·obtain⟨g',w',es,hgo,⟨rfl,rfl⟩,p9⟩:=hstep w (RW.refl w);exact⟨g',w',#[],7,m',0,st,sm,hgo,.refl Wg w',.r0 p9,rfl,jR,λ_ ht _=>ConcN.Mode.retag (by have:=gB.same (i:=i) m' 0;rwa [hst]at this) ht,au,λt fn pos Bg=>⟨λ_ h6=>ae,λh6=>ae⟩,.inr ⟨rfl,rfl⟩,ae⟩
 |low hs6 hs=>
 cases hs with
 |r0 h=>omega
 |k1 h=>
  rcases jG h with cN|⟨m',rfl,hstep⟩
  ·obtain⟨_,g',hgo,m₂,hk⟩:=cN w (RW.refl w);exact book hgo (.refl Wg w) jR (by intro e he;simp at he;subst he;exact .inl rfl) (by intro jx e he;exact .inl (by have:=od he;simp at this;subst this;rfl)) (.low ae (.d1 hk)) rfl ae
    (λ_ ht _=>(gB.counted hi ae (.inr rfl) _ _).retag ht) (.inl ae)
  ·obtain⟨g',w',es,hgo,⟨rfl,rfl⟩,p9⟩:=hstep w (RW.refl w);exact idle hgo (.low ae (.k1 p9)) rfl ae ae
 |d1 h=>
  rcases jG h with cN|⟨m',rfl,hstep⟩
  ·obtain⟨_,hall⟩:=cN w (RW.refl w);have hc1:cnt (D i)=1:=(by simp[cnt,hst]);have hV1:1<=Vc j D:=(by have:=le_sumTo (f:=λx=>cnt (D x)) hi;simp only[Vc];omega);have bk2:∀e∈#[rd (stA Wg),wr (stA Wg)],Bk Wg e:=(by intro e he;simp at he;rcases he with rfl|rfl<;>exact bk_cell _ _ rfl);have df2:∀jx e,(#[rd (stA Wg),wr (stA Wg)]:Array Event)[jx]? =some e->(MemAct.ofEvent e).touch? =none\/0<deafBehind 1 ((#[rd (stA Wg),wr (stA Wg)]:Array Event).extract 0 jx):=by
    intro jx e he;match jx,he with
    |0,_=>exact .inr (by simp[deafBehind])
    |1,_=>exact .inr (by simp[deafBehind,rd])
    |jx+2,he=>simp at he
   have hq0:∀q,cnt (⟨1,q,1⟩:WD)=0:=λ_=>rfl;have opq:∀q,OpenSt j D->OpenSt j (upd D i ⟨1,q,1⟩):=λq h a ha=>by
    by_cases e:a=i
    ·subst e;rw[upd_same];simp
    ·rw[upd_ne D _ e];exact h a ha
   cases gB with
   |opn h1 h2 h3=>obtain⟨v,hv⟩:∃v,Vc j D+pend tag=v+1:=⟨Vc j D+pend tag-1,ae⟩;rw[hv]at jR;have fE:WgAt ty Wg w (((v:Nat) +1) *KK+((0:Nat):Int)) 0:=(by simpa using jR);obtain⟨g',hgo,_,hq⟩:=hall v 0 ae ae fE;obtain⟨q,hq⟩:=hq ae;have hv':Vc j (upd D i ⟨1,q,1⟩) +pend tag=v:=(by have:=Vc_upd D (⟨1,q,1⟩:WD) hi;have:=hq0 q;omega);refine book hgo (aside_setCell w (stA Wg) _) (jR.setSt _) bk2 df2 (.low ae (.quit hq)) rfl ae (λ_ ht _=>ConcN.Mode.retag ?_ ht) (.inl ae);have e:((v:Nat):Int) *KK+((0:Nat):Int)=((Vc j (upd D i ⟨1,q,1⟩) +pend tag:Nat):Int) *KK:=(by rw[hv'];simp);rw[e];exact .opn h1 (opq q h2) (λvs ev=>by have:=h3 vs ev;omega)
   |reg h1 h2 h3=>
    obtain⟨v,hv⟩:∃v,Vc j D=v+1:=⟨Vc j D-1,ae⟩;rw[hv]at jR;have hp:pend tag=0:=(by cases tag<;>first|rfl|exact h1.elim);have fE:WgAt ty Wg w (((v:Nat) +1) *KK+((1:Nat):Int)) 0:=(by simpa using jR);obtain⟨g',hgo,hl,hq⟩:=hall v 1 ae ae fE;by_cases hv0:v=0
    ·subst hv0;obtain⟨m₂,hk⟩:=hl ⟨rfl,rfl⟩;refine book hgo (aside_setCell w (stA Wg) _) (jR.setSt _) bk2 df2 (.low ae (.d2 hk)) rfl ae (λ_ ht _=>ConcN.Mode.retag ?_ ht) (.inl ae);have lg:∀a,a<j->a≠i->(D a).stage=1:=λa ha e=>(by have c0:=others_uncounted hi hv hc1 a ha e;have:=h2 a ha;simp only[cnt]at c0;split at c0<;>omega);have:=ConcN.Mode.last (j:=j) (D:=upd D i ⟨4,m₂,1⟩) (tag:=tag) i h1 hi (by rw[upd_same];simp) (λa ha e=>by rw[upd_ne D _ e];exact lg a ha e);rw[upd_same]at this;simpa using this
    ·obtain⟨q,hq⟩:=hq ae;have hv':Vc j (upd D i ⟨1,q,1⟩)=v:=(by have:=Vc_upd D (⟨1,q,1⟩:WD) hi;have:=hq0 q;omega);refine book hgo (aside_setCell w (stA Wg) _) (jR.setSt _) bk2 df2 (.low ae (.quit hq)) rfl ae (λ_ ht _=>ConcN.Mode.retag ?_ ht) (.inl ae);have e:((v:Nat):Int) *KK+((1:Nat):Int)=((Vc j (upd D i ⟨1,q,1⟩):Nat):Int) *KK+1:=(by rw[hv'];simp);rw[e];exact .reg h1 (opq q h2) ae
   |last L _ h2 h3 h4=>
    by_cases e:i=L
    ·subst e;omega
    ·have:=h4 i hi e;omega
   |sema h2=>have:=h2 i hi;omega
   |fin _ h2=>have:=h2 i hi;omega
  ·obtain⟨g',w',es,hgo,⟨rfl,rfl⟩,p9⟩:=hstep w (RW.refl w);exact idle hgo (.low ae (.d1 p9)) rfl ae ae
 |d2 h=>
  rcases jG h with cN|⟨m',rfl,hstep⟩
  ·obtain⟨_,hx⟩:=cN w (RW.refl w);obtain⟨hW3,lg,rfl,rfl⟩:=gB.isLast hi ae;simp only[hst]at jR;obtain⟨g',hgo,m₂,hk⟩:=hx (by simpa using jR);refine book hgo (.refl Wg w) jR (by intro e he;simp at he;subst he;exact bk_cell _ _ rfl) (by intro jx e he;match jx,he with|0,_=>exact .inr (by simp[deafBehind])|jx+1,he=>simp at he) (.low ae (.d3 hk)) rfl ae (λ_ ht _=>ConcN.Mode.retag ?_ ht) (.inl ae);have:=ConcN.Mode.last (j:=j) (D:=upd D i ⟨3,m₂,1⟩) (tag:=tag) i hW3 hi (by rw[upd_same];simp) (λa ha e=>by rw[upd_ne D _ e];exact lg a ha e);rw[upd_same]at this;simpa using this
  ·obtain⟨g',w',es,hgo,⟨rfl,rfl⟩,p9⟩:=hstep w (RW.refl w);exact idle hgo (.low ae (.d2 p9)) rfl ae ae
 |d3 h=>
  rcases jG h with cN|⟨m',rfl,hstep⟩
  ·obtain⟨_,hx⟩:=cN w (RW.refl w);obtain⟨hW3,lg,rfl,rfl⟩:=gB.isLast hi ae;simp only[hst]at jR;obtain⟨g',hgo,m₂,hk⟩:=hx (by simpa using jR);refine book hgo (aside_setCell w (stA Wg) _) (jR.setSt 0) (by intro e he;simp at he;subst he;exact bk_cell _ _ rfl) (by intro jx e he;match jx,he with|0,_=>exact .inr (by simp[deafBehind])|jx+1,he=>simp at he) (.low ae (.d4 hk)) rfl ae (λ_ ht _=>ConcN.Mode.retag ?_ ht) (.inl ae);have:=ConcN.Mode.last (j:=j) (D:=upd D i ⟨2,m₂,1⟩) (tag:=tag) i hW3 hi (by rw[upd_same];simp) (λa ha e=>by rw[upd_ne D _ e];exact lg a ha e);rw[upd_same]at this;simpa using this
  ·obtain⟨g',w',es,hgo,⟨rfl,rfl⟩,p9⟩:=hstep w (RW.refl w);exact idle hgo (.low ae (.d3 p9)) rfl ae ae
 |d4 h=>
  rcases jG h with cN|⟨m',rfl,hstep⟩
  ·obtain⟨_,hmw,hx⟩:=cN w (RW.refl w);obtain⟨hW3,lg,rfl,rfl⟩:=gB.isLast hi ae;simp only[hst]at jR;obtain⟨g',hgo,q,hq⟩:=hx (by simpa using jR);have hrun':g'.status=.running:=by
    cases q with
    |zero=>exact absurd hq.2 az
    |succ q=>exact hq.elim (λx=>absurd x.2 az) (λx=>x.1)
   refine book hgo (aside_setCell w (smA Wg) _) (jR.setSm 1) (es:=semEvents (smA Wg)) ?_ ?_ (.low ae (.quit hq)) (by simp[deafBehind,semEvents]) ae ?_ (.inl ae)
   ·intro e he;simp[semEvents]at he;rcases he with rfl|rfl|rfl|rfl
    ·exact .inl rfl
    ·exact bk_cell _ _ rfl
    ·exact bk_cell _ _ rfl
    ·exact .inr (.inl rfl)
   ·intro jx e he;match jx,he with
    |0,he=>simp[semEvents]at he;subst he;exact .inl rfl
    |1,_=>exact .inr (by simp[deafBehind,semEvents])
    |2,_=>exact .inr (by simp[deafBehind,semEvents])
    |3,he=>simp[semEvents]at he;subst he;exact .inl rfl
    |jx+4,he=>simp[semEvents]at he
   ·intro bD ht hw;have hnb:=hw hmw hrun';have e3:bD=.w3:=by
     rcases ht with rfl|⟨_,rfl⟩
     ·cases bD<;>first|rfl|exact hW3.elim|exact absurd rfl hnb
     ·rfl
    subst e3;simp only[if_true];exact .sema λa ha=>by
     by_cases e:a=i
     ·subst e;rw[upd_same]
     ·rw[upd_ne D _ e];exact lg a ha e
  ·obtain⟨g',w',es,hgo,⟨rfl,rfl⟩,p9⟩:=hstep w (RW.refl w);exact idle hgo (.low ae (.d4 p9)) rfl ae ae
 |quit h=>
  cases m with
  |zero=>rw[h.1]at hrun;cases hrun
  |succ q=>
   rcases h with⟨hf,_⟩|⟨_,g',es,Rc,hstep,hq⟩
   ·rw[hf]at hrun;cases hrun
   ·have FL:∀e∈es,Bk Wg e:=λe he=>bk_of_mute (Rc e he);have hno:∀jx e,es[jx]? =some e->(MemAct.ofEvent e).touch? =none\/0<deafBehind dd (es.extract 0 jx):=λjx e he=>.inl (by
     rcases bk_of_mute (Wg:=Wg) (Rc e (od he))with h1|h1|⟨a,wr,rfl,_⟩
     ·rw[ofEvent_loc_mark h1];rfl
     ·rw[ofEvent_loc_mark h1];rfl
     ·have:=Rc _ (od he);simp[Event.mute]at this)
    exact book (hstep w) (.refl Wg w) jR FL hno (.low ae (.quit hq)) rfl ae (λ_ ht _=>ConcN.Mode.retag (by have:=gB.same (i:=i) q (deafBehind dd es);rwa [hst]at this) ht) (.inr ⟨rfl,rfl⟩)
end
end
section
open Go.Conc Go.ConcN
open Go.ConcR (KK WgAt stA smA Payload Aside2 DC0)
variable[Payload]
structure CC where
 P:Program
 K:World->Prop
 K0:World->Prop
 sub:∀w,K w->K0 w
 S:Nat->Loc->Prop
 gone:Nat
 ty:TypeId
 Wg:Nat
 n:Nat
 B:Nat
 C:Nat
 val:Nat->Value
structure RH(c:CC)(w w₁:World):Prop where
 tape:w₁.tape=w.tape
 os:w₁.os=w.os
 output:w₁.output=w.output
 size:w₁.heap.size=w.heap.size
 block:∀b,b≠c.Wg->w₁.heap[b]? =w.heap[b]?
 live:WgLive c.ty c.Wg w->WgLive c.ty c.Wg w₁
structure Uy(w w₁:World):Prop where
 tape:w₁.tape=w.tape
 os:w₁.os=w.os
 output:w₁.output=w.output
 size:w.heap.size<=w₁.heap.size
 block:∀b,b<w.heap.size->w₁.heap[b]? =w.heap[b]?
structure IJ(c:CC)(w w₁:World):Prop where
 tape:w₁.tape=w.tape
 os:w₁.os=w.os
 output:w₁.output=w.output
 size:w.heap.size<=w₁.heap.size
 block:∀b,b<w.heap.size->b≠c.Wg->w₁.heap[b]? =w.heap[b]?
 live:WgLive c.ty c.Wg w->WgLive c.ty c.Wg w₁
structure CC.Ok(c:CC):Prop where
 keep:∀w w₁,IJ c w w₁->c.K w->c.K w₁
 cin:∀w,c.K w->c.C<w.heap.size
 away:c.C≠c.Wg
 pay:∀w,c.K w->¬PayAt c.C c.n w
 still:∀i l,c.S i l->l.isMemory=true/\¬ShN c.Wg l
omit[Payload]in
theorem RH.refl(c:CC)(w:World):RH c w w:=⟨rfl,rfl,rfl,rfl,λ_ _=>rfl,id⟩
omit[Payload]in
theorem RH.at(c:CC)(w:World)(d:Nat):RH c w (w.at d):=⟨rfl,rfl,rfl,rfl,λ_ _=>rfl,id⟩
omit[Payload]in
theorem RH.g{c:CC}{w:World}(h:RH c w w₁):IJ c w w₁:=⟨h.tape,h.os,h.output,Nat.le_of_eq h.size.symm,λb _=>h.block b,h.live⟩
omit[Payload]in
theorem IJ.refl(c:CC)(w:World):IJ c w w:=⟨rfl,rfl,rfl,aY _,λ_ _ _=>rfl,id⟩
omit[Payload]in
theorem IJ.trans{c:CC}{b d:World}(h:IJ c a b)(k:IJ c b d):IJ c a d:=⟨k.tape.trans h.tape,k.os.trans h.os,k.output.trans h.output,cn h.size k.size,λx h0 h1=>(k.block x (fp h0 h.size) h1).trans (h.block x h0 h1),k.live∘h.live⟩
omit[Payload]in
theorem Uy.refl(w:World):Uy w w:=⟨rfl,rfl,rfl,aY _,λ_ _=>rfl⟩
omit[Payload]in
theorem aw{w:World}{o:Obj}(h:w.heap[b]? =some o):b<w.heap.size:=(aQ.1 h).1
omit[Payload]in
theorem Ju{c:CC}{w:World}(g:Uy w w₁)(h:WgLive c.ty c.Wg w):WgLive c.ty c.Wg w₁:=by obtain⟨st,sm,hw⟩:=h;exact⟨st,sm,(g.block _ (aw hw)).trans hw⟩
omit[Payload]in
theorem Uy.g{c:CC}{w:World}(h:Uy w w₁):IJ c w w₁:=⟨h.tape,h.os,h.output,h.size,λb h0 _=>h.block b h0,Ju h⟩
omit[Payload]in
theorem RH.trans{c:CC}{b d:World}(h:RH c a b)(k:RH c b d):RH c a d:=⟨k.tape.trans h.tape,k.os.trans h.os,k.output.trans h.output,k.size.trans h.size,λx h1=>(k.block x h1).trans (h.block x h1),k.live∘h.live⟩
omit[Payload]in
theorem RH.FM{c:CC}{w:World}(h:Aside c.Wg w w')(hl:WgLive c.ty c.Wg w'):RH c w w':=⟨h.tape,h.os,h.output,h.size,λb h1=>h.block b h1,λ_=>hl⟩
abbrev CC.Re(c:CC)(i:Nat)(s:Seat)(n:Nat)(g:Goroutine):Prop:=Sits c.P (i==0) c.K0 (c.S i) c.B s n g
abbrev CC.Wk(c:CC)(i s m d:Nat)(g:Goroutine)(w:World):Prop:=iu c.P c.ty c.Wg c.C c.n (i+1) s m d g w
abbrev CC.YH(c:CC)(i n:Nat)(g:Goroutine)(w:World):Prop:=Goes c.P false (RK c.K0) (DS (c.S (i+1)) c.B) (λg w=>g.status=.running/\∃m,c.Wk i 7 m 0 g w) n g w
structure CF(c:CC)(h j d0:Nat)(Inb:Nat->Option Seat)(tag:CTag)(D:Nat->WD)(dt:Nat->Bool)(q:Nat->Nat)(T:Trace)(gs:Array Goroutine)(w:World):Prop where
 size:gs.size=j+1
 hlt:h<gs.size
 seat:∀i g s,i≠h->gs[i]? =some g->Inb i=some s->c.Re i s (q i) g
 main:h≠0->Inb 0≠none
 work:∀i g,i+1≠h->gs[i+1]? =some g->Inb (i+1)=none->(dt i=true/\(D i).stage=7/\(D i).deaf=0/\c.YH i (q (i+1)) g w)\/(dt i=false/\c.Wk i (D i).stage (D i).fuel (D i).deaf g w)
 full:∀i,i<j->Inb (i+1)≠none\/i+1=h->(D i).stage=7/\(D i).deaf=0
 inR:∀i s,Inb i=some s->i<gs.size
 wf:∀i s,Inb i=some s->s.Wf
 chans:∀i s b,i≠h->Inb i=some s->s.has b->(∃k,w.heap[b]? =some (.chan 0 #[] false k k false))/\b≠c.Wg/\b≠c.C
 inj:∀i i' s s' b,i≠h->i'≠h->Inb i=some s->Inb i'=some s'->s.has b->s'.has b->b≠c.gone->i=i'
 keep:c.K w
 group:∃st sm,WgAt c.ty c.Wg w st sm/\ConcN.Mode j D tag st sm
 pend:j+pend tag<2147483648
 led:Led (λ_=>False) c.S (ShN c.Wg) (λi=>Knows T h i) T
 deaf0:Deaf T 0=d0
 deafW:∀i,i<j->Deaf T (i+1)=(D i).deaf
 above:∀i,gs.size<=i->Deaf T i=0
 norel:∀op∈T,op.act≠.mark (.release (stA c.Wg))
 rel:∀i,i<j->(D i).stage<=6->∃r,RelBy (stA c.Wg) T (i+1) r
 who:∀op∈T,op.g<gs.size
def Uz(j:Nat)(D:Nat->WD)(dt:Nat->Bool):Nat:=sumTo j λi=>(D i).stage+if dt i then 1 else 0
def Qp(j:Nat)(D:Nat->WD)(q:Nat->Nat):Nat:=sumTo (j+1) q+sumTo j λi=>(D i).fuel
section
variable{c:CC}{h:Nat}{tag:CTag}{D:Nat->WD}{dt:Nat->Bool}{w:World}
theorem CF.at(F:CF c h j d0 Inb tag D dt q T gs w)(O:c.Ok)(d:Nat):CF c h j d0 Inb tag D dt q T gs (w.at d):=⟨F.size,F.hlt,F.seat,F.main,λi g h1 h2 h3=>(F.work i g h1 h2 h3).imp (λ⟨a,b,e,f⟩=>⟨a,b,e,je (λ_ _ _ _ x=>x) f (c.sub _ (O.keep _ _ (RH.at c w d).g F.keep))⟩) (λ⟨a,b⟩=>⟨a,b.rely (RW.at w d)⟩),F.full,F.inR,F.wf,F.chans,F.inj,O.keep _ _ (RH.at c w d).g F.keep,F.group,F.pend,F.led,F.deaf0,F.deafW,F.above,F.norel,F.rel,F.who⟩
theorem CF.status(F:CF c h j d0 Inb tag D dt q T gs w){g:Goroutine}(hi:i≠h)(hg:gs[i]? =some g):g.status=.running\/g.status=.blocked\/g.status=.finished:=by
 cases e:Inb i with
 |some s=>exact(Sits.status (c.sub _ F.keep) (F.seat i g s hi hg e)).elim (λx=>.inl x.1) λx=>.inr (.inl x.1)
 |none=>
  cases i with
  |zero=>exact absurd e (F.main (bp hi))
  |succ i=>
   rcases F.work i g hi hg e with⟨_,_,_,hu⟩|⟨_,hw⟩
   ·exact .inl (iB (λ_ _ x=>x.1) w (c.sub _ F.keep) hu)
   ·exact hw.status.elim .inl λx=>.inr (.inr x)
theorem CF.fixed(F:CF c h j d0 Inb tag D dt q T gs w){g:Goroutine}(hi:i≠h)(hg:gs[i]? =some g)(hK:c.K w')(hC:∀s b,Inb i=some s->s.has b->∃k,w'.heap[b]? =some (.chan 0 #[] false k k false)):g.again w'=g:=by
 cases e:Inb i with
 |some s=>exact Sits.again (c.sub _ hK) (F.seat i g s hi hg e) (F.wf i s e) λb hb=>by obtain⟨k,hk⟩:=hC s b e hb;exact⟨_,_,_,_,_,hk⟩
 |none=>
  cases i with
  |zero=>exact absurd e (F.main (bp hi))
  |succ i=>
   rcases F.work i g hi hg e with⟨_,_,_,hu⟩|⟨_,hw⟩
   ·exact again_running _ (.inl (iB (λ_ _ x=>x.1) w (c.sub _ F.keep) hu))
   ·exact again_running _ hw.status
theorem CF.Rf(F:CF c h j d0 Inb tag D dt q T gs w)(O:c.Ok){g:Goroutine}(hi:i≠h)(hg:gs[i]? =some g)(hr:RH c w w'):g.again w'=g:=F.fixed hi hg (O.keep _ _ hr.g F.keep) λs b e hb=>by obtain⟨⟨k,hk⟩,h1,h2⟩:=F.chans i s b hi e hb;exact⟨k,by rw[hr.block b h1];exact hk⟩
theorem CF.noSend(F:CF c h j d0 Inb tag D dt q T gs w){g:Goroutine}(hi:i≠h)(hg:gs[i]? =some g)(b:Nat):offersAt g b true=[]:=by
 cases e:Inb i with
 |some s=>
  rcases F.seat i g s hi hg e with⟨k,w₀,hq,hgo⟩|⟨_,_,g₂,rfl,_⟩
  ·have:=(Sits.status (c.sub _ F.keep) (.inl ⟨k,w₀,hq,hgo⟩)).elim (·.1) (λz=>ae);exact offersAt_of_not_blocked (λhb=>by rw[this]at hb;cases hb) b true
  ·exact offersAt_parked_sends (λcc hcc=>by obtain⟨c',z',rfl⟩:=(F.wf i s e).recvs cc hcc;rfl) _
 |none=>
  cases i with
  |zero=>exact absurd e (F.main (bp hi))
  |succ i=>
   rcases F.work i g hi hg e with⟨_,_,_,hu⟩|⟨_,hw⟩
   ·exact offersAt_of_not_blocked (by rw[iB (λ_ _ x=>x.1) w (c.sub _ F.keep) hu];simp) _ _
   ·exact offersAt_of_not_blocked (by rcases hw.status with x|x<;>rw[x] <;>simp) _ _
theorem CF.YI(F:CF c h j d0 Inb tag D dt q T gs w){g:Goroutine}(hi:i≠h)(hg:gs[i]? =some g)(hb:∀s,Inb i=some s->¬s.has b):offersAt g b false=[]:=by
 cases e:Inb i with
 |some s=>
  rcases F.seat i g s hi hg e with⟨k,w₀,hq,hgo⟩|⟨_,_,g₂,rfl,_⟩
  ·have:=(Sits.status (c.sub _ F.keep) (.inl ⟨k,w₀,hq,hgo⟩)).elim (·.1) (λz=>ae);exact offersAt_of_not_blocked (λhb=>by rw[this]at hb;cases hb) b false
  ·refine offersAt_parked_off (λcc hcc ec=>?_) _;obtain⟨c',z',rfl⟩:=(F.wf i s e).recvs cc hcc;simp only[rcase,Value.chan.injEq,cu]at ec;subst ec;exact hb s e (Seat.has_of_mem hcc)
 |none=>
  cases i with
  |zero=>exact absurd e (F.main (bp hi))
  |succ i=>
   rcases F.work i g hi hg e with⟨_,_,_,hu⟩|⟨_,hw⟩
   ·exact offersAt_of_not_blocked (by rw[iB (λ_ _ x=>x.1) w (c.sub _ F.keep) hu];simp) _ _
   ·exact offersAt_of_not_blocked (by rcases hw.status with x|x<;>rw[x] <;>simp) _ _
theorem CF.awake(F:CF c h j d0 Inb tag D dt q T gs w){a:Goroutine}(ha:gs[h]? =some a)(hs:a.status=.running\/a.status=.blocked):∀g∈gs,awake g:=by
 intro g hg;obtain⟨i,hi,rfl⟩:=Array.mem_iff_getElem.1 hg;by_cases e:i=h
 ·subst e;have:gs[i]=a:=by simpa[dI hi]using ha
  rw[this];exact awake_of (hs.elim .inl λx=>.inr (.inl x))
 ·exact awake_of (F.status e (dI hi))
theorem CF.put(F:CF c h j d0 Inb tag D dt q T gs w)(O:c.Ok){ops:Array MemOp}(nt:ConcN.pend bD=ConcN.pend tag)(hne:i≠h)
  (hsz:gs'.size=gs.size)(lg:∀x,x≠i->x≠h->gs'[x]? =gs[x]?)(bf:gs'[i]? =some g')(bC:∀op∈ops,op.g=i)(hr:RH c w w')(hC:∀x,x<j->x+1≠i->w'.cell? ⟨c.C,x,none⟩=w.cell? ⟨c.C,x,none⟩)(ads:PayAt c.C c.n w->PayAt c.C c.n w')
  (hq:∀x,x≠i->q' x=q x)(hD:∀x,x+1≠i->D' x=D x)(hU:∀x,x+1≠i->jf x=dt x)(hseat:∀s,Inb i=some s->c.Re i s (q' i) g')
  (hwork:∀x,i=x+1->Inb i=none->(jf x=true/\(D' x).stage=7/\(D' x).deaf=0/\c.YH x (q' i) g' w')\/(jf x=false/\c.Wk x (D' x).stage (D' x).fuel (D' x).deaf g' w'))
  (hfull:∀x,i=x+1->Inb i≠none->(D' x).stage=7/\(D' x).deaf=0)(hgroup:∃st sm,WgAt c.ty c.Wg w' st sm/\ConcN.Mode j D' bD st sm)
  (hled:Led (λ_=>False) c.S (ShN c.Wg) (λi=>Knows (T++ops) h i) (T++ops))(yI:i=0->Deaf (T++ops) 0=d0)(hdW:∀x,i=x+1->Deaf (T++ops) i=(D' x).deaf)
  (hno:∀op∈ops,op.act≠.mark (.release (stA c.Wg)))(hrel:∀x,i=x+1->(D' x).stage<=6->∃r,RelBy (stA c.Wg) (T++ops) i r):CF c h j d0 Inb bD D' jf q' (T++ops) gs' w':=by
 have hlt:i<gs.size:=by rw[←hsz];exact(aQ.1 bf).1
 have hK':=O.keep _ _ hr.g F.keep;refine⟨hsz.trans F.size,by rw[hsz];exact F.hlt,λx g s h1 h2 h3=>?_,F.main,λx g h1 h2 h3=>?_,λx hx h1=>?_,λx s h1=>by rw[hsz];exact F.inR x s h1,F.wf,λx s b h1 h2 h3=>?_,F.inj,hK',hgroup,by rw[nt];exact F.pend,hled,?_,λx hx=>?_,λx hx=>?_,λop hop=>?_,λx hx hs=>?_,λop hop=>by rw[hsz];exact(fu.1 hop).elim (F.who op) (λh=>by rw[bC op h];exact hlt)⟩
 ·by_cases e:x=i
  ·subst e;rw[bf]at h2;obtain rfl:=aP h2;exact hseat s h3
  ·rw[lg x e h1]at h2;rw[hq x e];exact F.seat x g s h1 h2 h3
 ·by_cases e:x+1=i
  ·subst e;rw[bf]at h2;obtain rfl:=aP h2;exact hwork x rfl h3
  ·rw[lg _ e h1]at h2;rw[hq _ e,hD x e,hU x e];have hxj:x<j:=(by have:=(aQ.1 h2).1;have:=F.size;omega);refine(F.work x g h1 h2 h3).imp (λ⟨a,b,d,f⟩=>⟨a,b,d,je (λ_ _ _ _ y=>y) f (c.sub _ hK')⟩) (λ⟨a,b⟩=>⟨a,b.rely ?_⟩);obtain⟨st,sm,hw,_⟩:=hgroup;exact⟨λb hb=>absurd hb (dV b),λ_=>⟨st,sm,hw⟩,ads,by rw[Nat.add_sub_cancel];exact hC x hxj e⟩
 ·by_cases e:x+1=i
  ·rcases h1 with h1|h1
   ·exact hfull x e.symm (by rw[←e];exact h1)
   ·exact absurd (e.symm.trans h1) hne
  ·rw[hD x e];exact F.full x hx h1
 ·obtain⟨⟨k,hk⟩,e1,e2⟩:=F.chans x s b h1 h2 h3;exact⟨⟨k,by rw[hr.block b e1];exact hk⟩,e1,e2⟩
 ·by_cases e:i=0
  ·exact yI e
  ·rw[Deaf_other T e _ bC];exact F.deaf0
 ·by_cases e:x+1=i
  ·rw[e];exact hdW x e.symm
  ·rw[Deaf_other T (λz=>e z.symm) _ bC,hD x e];exact F.deafW x hx
 ·rw[Deaf_other T (g':=i) ae _ bC];exact F.above x ae
 ·rcases fu.1 hop with h1|h1
  ·exact F.norel op h1
  ·exact hno op h1
 ·by_cases e:x+1=i
  ·rw[e];exact hrel x e.symm hs
  ·rw[hD x e]at hs;obtain⟨r,hr⟩:=F.rel x hx hs;exact⟨r,hr.appOther bC (λz=>e z.symm)⟩
omit[Payload]in
theorem Rg(hi:i<j+1)(k:Nat)(hk:k<q i):Qp j D (upd q i k) <Qp j D q:=by
 have h2:sumTo (j+1) (upd q i k) +q i=sumTo (j+1) q+k:=by have:=sumTo_upd q k id hi;simpa using this
 simp only[Qp];omega
omit[Payload]in
theorem Rh(j:Nat)(D:Nat->WD)(u:Nat->Bool):Uz j D u=(sumTo j λx=>(D x).stage) +sumTo j λx=>if u x then 1 else 0:=by
 unfold Uz;induction j with
 |zero=>rfl
 |succ j ih=>simp only[sumTo,ih];omega
theorem FN{P:Program}{n k d:Nat}{g:Goroutine}(h:iu P ty Wg C n k s m d g w):s<=7:=by cases h<;>omega
omit[Payload]in
theorem lX{tag:CTag}(e:bD=tag\/(tag=.blk/\bD=.w3)):pend bD=pend tag:=by rcases e with rfl|⟨rfl,rfl⟩ <;>rfl
omit[Payload]in
theorem rM{Still:Loc->Prop}{pos:String}{es:Array Event}(he:∀e∈es,EvC Still B e):
  (∀op∈MemOp.ofEvents i fn pos es,op.g=i)/\(∀op∈MemOp.ofEvents i fn pos es,∀b,op.act.touch? =some b->b.write=false/\Still b.loc/\b.kind≠.atomic)/\(∀op∈MemOp.ofEvents i fn pos es,∀m,op.act≠.mark m)/\∀t:Trace,Deaf (t++MemOp.ofEvents i fn pos es) i=Deaf t i:=by
 obtain⟨h1,h2,_,h4⟩:=evC_ops (i:=i) (fn:=fn) (pos:=pos) he;refine⟨h1,λop hop b hb=>⟨(h2 op hop b hb).1,(h2 op hop b hb).2,?_⟩,λop hop m=>?_,h4⟩
 ·obtain⟨e,hm,rfl⟩:=Go.Conc.mem_ofEvents hop;obtain⟨a,rfl,_⟩:=he e hm;simp only[MemAct.ofEvent,MemAct.touch?,cu]at hb;subst hb;simp
 obtain⟨e,hm,rfl⟩:=Go.Conc.mem_ofEvents hop;obtain⟨a,rfl,_⟩:=he e hm;simp[MemAct.ofEvent]
def Moved(c:CC)(h j d0:Nat)(Inb:Nat->Option Seat)(D:Nat->WD)(dt:Nat->Bool)(q:Nat->Nat)(T:Trace)(gs:Array Goroutine)(w:World)(sl:Option (Nat×Nat))(Hs:CTag->Goroutine->World->Prop)(i:Nat)(g:Goroutine):Prop:=
 ∃gs' w' ops bD a' D' jf q',runT c.P (crowd gs w sl) i=(.next (crowd gs' w' sl),ops)/\gs'[h]? =some a'/\Hs bD a' w'/\RH c w w'/\CF c h j d0 Inb bD D' jf q' (T++ops) gs' w'/\Lt2 (Uz j D' jf,Qp j D' q') (Uz j D dt,Qp j D q)/\
   (∀x,x≠i->q' x=q x)/\∀s,Inb i=some s->q' i=0->∃g₂,AtIn c.P (i==0) c.K0 (c.S i) c.B s g g₂
theorem CF.by_step(F:CF c h j d0 Inb tag D dt q T gs w)(O:c.Ok){g a:Goroutine}{sl:Option (Nat×Nat)}(hi:gs[i]? =some g)(hne:i≠h)(hrun:g.status=.running)(ha:gs[h]? =some a)
  (hH0:Hs tag a w)(hH:∀g' w',RH c w w'->∃bD,(bD=tag\/(tag=.blk/\bD=.w3))/\(mayWake c.P g=true->g'.status=.running->bD≠.blk)/\Hs bD (woken c.P g g' w' a) w')
  (hsO:∀s g₂,Inb i=some s->AtIn c.P (i==0) c.K0 (c.S i) c.B s g g₂->∀b,s.has b->offersAt a b true=[]):
  Moved c h j d0 Inb D dt q T gs w sl Hs i g:=by
 have hlt:i<gs.size:=(aQ.1 hi).1;have FO:i<j+1:=by have:=F.size;omega
 have zI:∀(g':Goroutine) (w':World),RH c w w'->(∀x,x≠i->x≠h->((gs.map (woken c.P g g' w')).setIfInBounds i g')[x]? =gs[x]?)/\((gs.map (woken c.P g g' w')).setIfInBounds i g')[i]? =some g'/\((gs.map (woken c.P g g' w')).setIfInBounds i g')[h]? =some (woken c.P g g' w' a):=by
  intro g' w' hr;refine⟨λx hx Vi=>?_,fD (by simpa using hlt),?_⟩
  ·rw[eH (λe=>hx e.symm),lQ];cases e:gs[x]? with
   |none=>rfl
   |some y=>simp[woken_of_again (F.Rf O Vi e hr)]
  ·rw[eH hne,lQ,ha];rfl
 cases e:Inb i with
 |some s=>
  have hfull:∀x,i=x+1->Inb i≠none->(D x).stage=7/\(D x).deaf=0:=λx hx hn=>F.full x ae (.inl (by rw[←hx];exact hn));have hsit:=F.seat i g s hne hi e;obtain⟨k,w₀,W8,hg⟩:∃k w₀,q i=k+1/\Goes c.P (i==0) (RK c.K0) (DS (c.S i) c.B) (λg _=>∃g₂,AtIn c.P (i==0) c.K0 (c.S i) c.B s g g₂) k g w₀:=by
   rcases hsit with h|⟨_,_,g₂,rfl,_⟩
   ·exact h
   ·cases hrun
  have led:∀{fn:FuncId} {pos:String} {es:Array Event},(∀e∈es,EvC (c.S i) c.B e)->Led (λ_=>False) c.S (ShN c.Wg) (λx=>Knows (T++MemOp.ofEvents i fn pos es) h x) (T++MemOp.ofEvents i fn pos es):=by intro fn pos es hes;obtain⟨h1,h2,_,_⟩:=rM (i:=i) (fn:=fn) (pos:=pos) hes;exact F.led.beside (λx=>Knows.app _) h1 (λop hop b hb=>.inl ⟨(h2 op hop b hb).1,(h2 op hop b hb).2.1,(O.still i _ (h2 op hop b hb).2.1).2,(h2 op hop b hb).2.2⟩) (λ_ h=>h.elim)
  rcases jG hg with cN|⟨k',rfl,hstep⟩
  ·
   obtain⟨g₂,hat⟩:=cN w (c.sub _ F.keep);obtain⟨_,_,_,_,_,es,hes,yv⟩:=id hat;obtain⟨bC,hr,hmk,hd⟩:=rM (i:=i) (fn:=g.frame.fn) (pos:=g.frame.place) hes;have hw:∀cc∈s.cases,NoWays w (gs.setIfInBounds i ph) cc:=by
    intro cc hcc;obtain⟨b,z,rfl⟩:=(F.wf i s e).recvs cc hcc;have hsc:=Seat.has_of_mem hcc;obtain⟨⟨kk,hc⟩,_,_⟩:=F.chans i s b hne e hsc;refine ways_recv_none hc (partners_nil λx y hy=>?_);rcases getElem?_stand gs i x y hy with⟨_,rfl⟩|⟨hx,hy'⟩
    ·exact offersAt_ph _ _
    ·by_cases Vi:x=h
     ·subst Vi;rw[ha]at hy';obtain rfl:=aP hy';exact hsO s g₂ e hat b hsc
     ·exact F.noSend Vi hy' _
   refine⟨_,w,_,tag,a,D,dt,upd q i 0,crowd_waits (sl:=sl) hi (yv w (c.sub _ F.keep)) hw,by rw[eH hne];exact ha,hH0,.refl c w,?_,Prod.Lex.right _ (Rg FO 0 ae),λx hx=>upd_ne q 0 hx,λs' hs' _=>by rw[e]at hs';obtain rfl:=aP hs';exact⟨g₂,hat⟩⟩;refine F.put O rfl hne au (λx hx _=>eH (λz=>hx z.symm)) (fD hlt) bC (.refl c w) (λ_ _ _=>rfl) id (λx hx=>upd_ne q 0 hx) (λ_ _=>rfl) (λ_ _=>rfl)
    (λs' hs'=>by rw[e]at hs';obtain rfl:=aP hs';rw[upd_same];exact .inr ⟨rfl,g,g₂,rfl,hat⟩) (λx hx hn=>by rw[e]at hn;cases hn) hfull F.group (led hes) (λyJ=>by subst yJ;rw[hd];exact F.deaf0) (λx hx=>by rw[hd,hx];exact F.deafW x ae)
    (λop hop=>hmk op hop _) (λx hx hs=>by have:=(hfull x hx lY).1;omega)
  ·
   obtain⟨g',w',es,hgo,⟨rfl,hes⟩,YJ⟩:=hstep w (c.sub _ F.keep);obtain⟨bC,hr,hmk,hd⟩:=rM (i:=i) (fn:=g.frame.fn) (pos:=g.frame.place) hes;obtain⟨g1,g2,g3⟩:=zI g' w' (.refl c w');obtain⟨bD,t1,t2,t3⟩:=hH g' w' (.refl c w');refine⟨_,w',_,bD,_,D,dt,upd q i (k'+1),runT_crowd_go (sl:=sl) hi hgo,g3,t3,.refl c w',?_,Prod.Lex.right _ (Rg FO _ ae),λx hx=>upd_ne q _ hx,λs' _ h0=>by rw[upd_same]at h0;omega⟩;refine F.put O (lX t1) hne au g1 g2 bC (.refl c w') (λ_ _ _=>rfl) id (λx hx=>upd_ne q _ hx) (λ_ _=>rfl) (λ_ _=>rfl)
    (λs' hs'=>by rw[e]at hs';obtain rfl:=aP hs';rw[upd_same];exact .inl ⟨k',w',rfl,YJ⟩) (λx hx hn=>by rw[e]at hn;cases hn) hfull (by obtain⟨st,sm,h1,h2⟩:=F.group;exact⟨st,sm,h1,h2.retag t1⟩) (led hes) (λyJ=>by subst yJ;rw[hd];exact F.deaf0) (λx hx=>by rw[hd,hx];exact F.deafW x ae)
    (λop hop=>hmk op hop _) (λx hx hs=>by have:=(hfull x hx lY).1;omega)
 |none=>
  cases i with
  |zero=>exact absurd e (F.main (bp hne))
  |succ i=>
  have pM:i<j:=ae;have h0:∀x,i+1=x+1->x=i:=λx hx=>ae;have wg:∀m,c.Wk i (D i).stage m (D i).deaf g w->(m=(D i).fuel\/dt i=true)->Moved c h j d0 Inb D dt q T gs w sl Hs (i+1) g:=λm hw hm=>by
   obtain⟨st,sm,jR,gB⟩:=F.group;obtain⟨g',w',es,s',m',dd',CG,II,hgo,hA,qa,hdd,Jt,zH,Jv,yw,Jy,hle⟩:=Ms (kk:=i+1) O.away F.pend jR gB pM rfl hw hrun;have hr:RH c w w':=.FM hA ⟨_,_,Jt⟩;obtain⟨g1,g2,g3⟩:=zI g' w' hr;obtain⟨bD,t1,t2,t3⟩:=hH g' w' hr;have bC:∀op∈MemOp.ofEvents (i+1) g.frame.fn g.frame.place es,op.g=i+1:=λop hop=>(by obtain⟨e,_,rfl⟩:=Go.Conc.mem_ofEvents hop;rfl);have Bg:=F.deafW i pM;have YK:∀x,x+1≠i+1->upd D i ⟨s',m',dd'⟩ x=D x:=λx hx=>upd_ne D _ ae;have hU':∀x,x+1≠i+1->upd dt i false x=dt x:=λx hx=>(by simp[upd,show x≠i by omega]);have adt:Lt2 (Uz j (upd D i ⟨s',m',dd'⟩) (upd dt i false),Qp j (upd D i ⟨s',m',dd'⟩) q) (Uz j D dt,Qp j D q):=by
    have e1:(sumTo j λx=>(upd D i ⟨s',m',dd'⟩ x).stage) +(D i).stage=(sumTo j λx=>(D x).stage) +s':=sumTo_upd D (⟨s',m',dd'⟩:WD) WD.stage pM;have e2:(sumTo j λx=>(upd D i ⟨s',m',dd'⟩ x).fuel) +(D i).fuel=(sumTo j λx=>(D x).fuel) +m':=sumTo_upd D (⟨s',m',dd'⟩:WD) WD.fuel pM;have e3:(sumTo j λx=>if upd dt i false x=true then 1 else 0) +(if dt i=true then 1 else 0)=(sumTo j λx=>if dt x=true then 1 else 0) +0:=sumTo_upd dt false (λb=>if b=true then 1 else 0) pM;rw[Rh,Rh];by_cases hu:dt i=true
    ·refine Prod.Lex.left _ _ ?_;rw[if_pos hu]at e3;omega
    ·rcases hm with rfl|hm
     ·rw[if_neg hu]at e3;rcases Jy with hl|⟨hl1,hl2⟩
      ·refine Prod.Lex.left _ _ ?_;omega
      ·have ea:(sumTo j λx=>(upd D i ⟨s',m',dd'⟩ x).stage) +(sumTo j λx=>if upd dt i false x=true then 1 else 0)=(sumTo j λx=>(D x).stage) +sumTo j λx=>if dt x=true then 1 else 0:=by omega
       rw[ea];refine Prod.Lex.right _ ?_;simp only[Qp];omega
     ·exact absurd hm hu
   exact⟨_,w',_,bD,_,upd D i ⟨s',m',dd'⟩,upd dt i false,q,runT_crowd_go (sl:=sl) hi hgo,g3,t3,hr,F.put O (lX t1) hne au g1 g2 bC hr (λx _ _=>cell_of_block (hA.block _ O.away) x) (λhp=>absurd hp (O.pay _ F.keep)) (λ_ _=>rfl) YK hU'
    (λs hs=>by rw[e]at hs;cases hs) (λx hx _=>by obtain rfl:=h0 x hx;exact .inr ⟨by simp[upd],by rw[upd_same];exact qa⟩) (λx hx hn=>absurd e hn) ⟨CG,II,Jt,zH bD t1 t2⟩
    (F.led.beside (λx=>Knows.app _) bC (λop hop b hb=>.inr (by
     obtain⟨ev,Jz,rfl⟩:=Go.Conc.mem_ofEvents hop;rcases(Jv ev Jz).1 with h1|⟨x,h1,h2,h3⟩
     ·rw[h1]at hb;cases hb
     ·rw[h1]at hb;obtain rfl:=aP hb;exact⟨h2,h3,λg' p9=>(O.still g' _ p9).2 h2⟩)) (λ_ h=>h.elim))
    (λyJ=>ae) (λx hx=>by obtain rfl:=h0 x hx;rw[upd_same,Deaf_own,Bg];exact hdd)
    (λop hop hm=>by obtain⟨ev,Jz,rfl⟩:=Go.Conc.mem_ofEvents hop;exact(Jv ev Jz).2 (by obtain⟨loc,wr,sy⟩:=ev;cases loc<;>simp_all [MemAct.ofEvent] <;>(split at hm<;>simp_all)))
    (λx hx hs=>by
     obtain rfl:=h0 x hx;rw[upd_same]at hs;obtain⟨r1,r2⟩:=yw T g.frame.fn g.frame.place Bg;by_cases h6:(D x).stage<=6
     ·obtain⟨r,hr⟩:=F.rel x pM h6;exact⟨r,r1 r h6 hr⟩
     ·refine r2 hs ?_;have:=FN hw;omega),adt,λ_ _=>rfl,λs hs=>by rw[e]at hs;cases hs⟩
  rcases F.work i g hne hi e with⟨hu,h7,qz,hgo⟩|⟨hu,hw⟩
  ·rcases jG hgo with cN|⟨k',xK,hstep⟩
   ·obtain⟨_,m,hm⟩:=cN w (c.sub _ F.keep);exact wg m (by rw[h7,qz];exact hm) (.inr hu)
   ·obtain⟨g',w',es,Rj,⟨rfl,hes⟩,YJ⟩:=hstep w (c.sub _ F.keep);obtain⟨bC,hr,hmk,hd⟩:=rM (i:=i+1) (fn:=g.frame.fn) (pos:=g.frame.place) hes;obtain⟨g1,g2,g3⟩:=zI g' w' (.refl c w');obtain⟨bD,t1,t2,t3⟩:=hH g' w' (.refl c w');refine⟨_,w',_,bD,_,D,dt,upd q (i+1) k',runT_crowd_go (sl:=sl) hi Rj,g3,t3,.refl c w',?_,Prod.Lex.right _ (Rg FO _ ae),λx hx=>upd_ne q _ hx,λs' hs'=>by rw[e]at hs';cases hs'⟩;refine F.put O (lX t1) hne au g1 g2 bC (.refl c w') (λ_ _ _=>rfl) id (λx hx=>upd_ne q _ hx) (λ_ _=>rfl) (λ_ _=>rfl) (λs hs=>by rw[e]at hs;cases hs)
     (λx hx _=>by obtain rfl:=h0 x hx;exact .inl ⟨hu,h7,qz,by rw[upd_same];exact YJ⟩) (λx hx hn=>absurd e hn) (by obtain⟨st,sm,h1,h2⟩:=F.group;exact⟨st,sm,h1,h2.retag t1⟩)
     (F.led.beside (λx=>Knows.app _) bC (λop hop b hb=>.inl ⟨(hr op hop b hb).1,(hr op hop b hb).2.1,(O.still _ _ (hr op hop b hb).2.1).2,(hr op hop b hb).2.2⟩) (λ_ h=>h.elim)) (λyJ=>ae) (λx hx=>by obtain rfl:=h0 x hx;rw[hd];exact F.deafW x pM)
     (λop hop=>hmk op hop _) (λx hx hs=>by obtain rfl:=h0 x hx;omega)
  ·exact wg _ hw (.inl rfl)
end
end
section
open Go.Conc Go.ConcN
open Go.ConcR (KK WgAt stA smA Payload Aside2 DC0)
variable[Payload]
inductive fU(P:Program)(main:Bool)(R:World->World->Prop)(D:World->World->Array Event->Prop)(Q:Goroutine->World->Prop):Goroutine->World->Prop
 |stop {g:Goroutine} {w:World}:(∀w₁,R w w₁->Q g w₁)->fU P main R D Q g w
 |step {g:Goroutine} {w:World}:g.status=.running->(∀w₁,R w w₁->∃g' w' es,stepG P main g w₁=.go g' w' es/\D w₁ w' es)->
   (∀w₁ g' w' es,R w w₁->stepG P main g w₁=.go g' w' es->fU P main R D Q g' w')->fU P main R D Q g w
abbrev Walk(c:CC)(main:Bool)(D:World->World->Array Event->Prop)(Q:Goroutine->World->Prop):Goroutine->World->Prop:=fU c.P main (RH c) D Q
def W9(c:CC)(e:Event):Prop:=(∀x,(MemAct.ofEvent e).touch? =some x->(∀g,c.S g x.loc->x.write=false)/\(ShN c.Wg x.loc->x.kind≠.plain))/\e.loc≠.mark .disable/\e.loc≠.mark .enable/\e.loc≠.mark (.release (stA c.Wg))
structure FP(c:CC)(Inb:Nat->Option Seat)(h:Nat)(w w':World)(es:Array Event):Prop where
 keep:c.K w->c.K w'
 chans:∀i s b,i≠h->Inb i=some s->s.has b->w'.heap[b]? =w.heap[b]?
 wg:w'.heap[c.Wg]? =w.heap[c.Wg]?
 dum:w'.heap[c.C]? =w.heap[c.C]?
 evs:∀e∈es,W9 c e
section
variable{c:CC}{h:Nat}{tag:CTag}{D:Nat->WD}{dt:Nat->Bool}{w:World}
omit[Payload]in
theorem yK{pos:String}{es:Array Event}(he:∀e∈es,W9 c e):
  (∀op∈MemOp.ofEvents i fn pos es,op.g=i)/\(∀op∈MemOp.ofEvents i fn pos es,∀b,op.act.touch? =some b->(∀g,c.S g b.loc->b.write=false)/\(ShN c.Wg b.loc->b.kind≠.plain))/\
   (∀op∈MemOp.ofEvents i fn pos es,op.act≠.mark (.release (stA c.Wg)))/\∀t:Trace,Deaf (t++MemOp.ofEvents i fn pos es) i=Deaf t i:=by
 refine⟨λop hop=>by obtain⟨e,_,rfl⟩:=Go.Conc.mem_ofEvents hop;rfl,λop hop b hb=>by obtain⟨e,h,rfl⟩:=Go.Conc.mem_ofEvents hop;exact(he e h).1 b hb,λop hop hm=>?_,
  λt=>by rw[Deaf_own];exact deafBehind_still (λe h=>⟨(he e h).2.1,(he e h).2.2.1⟩) _⟩
 obtain⟨ev,Jv,rfl⟩:=Go.Conc.mem_ofEvents hop;refine(he ev Jv).2.2.2 ?_;obtain⟨loc,wr,sy⟩:=ev;cases loc<;>simp_all [MemAct.ofEvent] <;>(split at hm<;>simp_all)
theorem CF.abm(F:CF c h j d0 Inb tag D dt q T gs w){pos:String}{es:Array Event}(hd:FP c Inb h w w' es)(hsz:gs'.size=gs.size)(kr:∀x y,x≠h->gs'[x]? =some y->gs[x]? =some y):
  CF c h j d0 Inb tag D dt q (T++MemOp.ofEvents h fn pos es) gs' w':=by
 obtain⟨bC,hs,hno,qz⟩:=yK (c:=c) (i:=h) (fn:=fn) (pos:=pos) hd.evs;have hK':=hd.keep F.keep;have hch:∀i s b,i≠h->Inb i=some s->s.has b->∃k,w'.heap[b]? =some (.chan 0 #[] false k k false):=λi s b h1 h2 h3=>by obtain⟨⟨k,hk⟩,_⟩:=F.chans i s b h1 h2 h3;exact⟨k,by rw[hd.chans i s b h1 h2 h3];exact hk⟩
 obtain⟨st,sm,hw,hm⟩:=F.group;have hw':WgAt c.ty c.Wg w' st sm:=hd.wg.trans hw;refine⟨hsz.trans F.size,by rw[hsz];exact F.hlt,λi g s h1 h2 h3=>F.seat i g s h1 (kr i g h1 h2) h3,F.main,λi g h1 h2 h3=>?_,F.full,λi s h1=>by rw[hsz];exact F.inR i s h1,F.wf,λi s b h1 h2 h3=>⟨hch i s b h1 h2 h3,(F.chans i s b h1 h2 h3).2⟩,F.inj,hK',⟨st,sm,hw',hm⟩,F.pend,
  F.led.own bC hs (λ_ h=>h.elim),?_,λi hi=>?_,λi hi=>?_,λop hop=>?_,λi hi hst=>?_,λop hop=>by rw[hsz];exact(fu.1 hop).elim (F.who op) (λh=>by rw[bC op h];exact F.hlt)⟩
 ·have zh:=kr (i+1) g h1 h2;refine(F.work i g h1 zh h3).imp (λ⟨a,b,d,f⟩=>⟨a,b,d,je (λ_ _ _ _ y=>y) f (c.sub _ hK')⟩) (λ⟨a,b⟩=>⟨a,b.rely ?_⟩);exact⟨λb hb=>absurd hb (dV b),λ_=>⟨st,sm,hw'⟩,λ⟨cs,h1,h2⟩=>⟨cs,hd.dum.trans h1,h2⟩,cell_of_block hd.dum _⟩
 ·by_cases e:h=0
  ·subst e;rw[qz T];exact F.deaf0
  ·rw[Deaf_other T e _ bC];exact F.deaf0
 ·by_cases e:i+1=h
  ·rw[←F.deafW i hi,e];exact qz T
  ·rw[Deaf_other T (λz=>e z.symm) _ bC];exact F.deafW i hi
 ·rw[hsz]at hi;have:=F.hlt;rw[Deaf_other T (g':=h) ae _ bC];exact F.above i hi
 ·rcases fu.1 hop with h1|h1
  ·exact F.norel op h1
  ·exact hno op h1
 ·by_cases e:i+1=h
  ·have:=(F.full i hi (.inr e)).1;omega
  ·obtain⟨r,hr⟩:=F.rel i hi hst;exact⟨r,hr.appOther bC (λz=>e z.symm)⟩
theorem CF.own(F:CF c h j d0 Inb tag D dt q T gs w){a a':Goroutine}{es:Array Event}(hd:FP c Inb h w w' es):
  CF c h j d0 Inb tag D dt q (T++MemOp.ofEvents h a.frame.fn a.frame.place es) ((gs.map (woken c.P a a' w')).setIfInBounds h a') w'/\((gs.map (woken c.P a a' w')).setIfInBounds h a')[h]? =some a':=by
 refine⟨F.abm hd au λx y hx hy=>?_,fD (by simpa using F.hlt)⟩;rw[eH (λe=>hx e.symm),lQ]at hy;obtain⟨adu,FQ,rfl⟩:=km.1 hy;rw[FQ,woken_of_again (F.fixed hx FQ (hd.keep F.keep) λs b h1 h2=>?_)];obtain⟨⟨k,hk⟩,_⟩:=F.chans x s b hx h1 h2;exact⟨k,by rw[hd.chans x s b hx h1 h2];exact hk⟩
def Held(c:CC)(h j d0:Nat)(Inb:Nat->Option Seat)(tag:CTag)(Stop:Goroutine->World->Prop)(m:Machine)(t:Trace):Prop:=∃gs w sl a D dt q,m=crowd gs w sl/\gs[h]? =some a/\(∀w₁,RH c w w₁->Stop a w₁)/\CF c h j d0 Inb tag D dt q t gs w
omit[Payload]in
theorem DO:WellFounded Lt2:=(Prod.lex Nat.lt_wfRel Nat.lt_wfRel).wf
theorem hold(O:c.Ok)(nt:tag≠.blk){Stop:Goroutine->World->Prop}(hD:∀w w' es,zJ w w' es->FP c Inb h w w' es){a:Goroutine}(hW:Walk c (h==0) zJ Stop a w)
  {sl:Option (Nat×Nat)}(ha:gs[h]? =some a)(F:CF c h j d0 Inb tag D dt q T gs w):∃N m' T',runNT c.P N (crowd gs w sl) T=(.next m',T')/\Held c h j d0 Inb tag Stop m' T':=by
 suffices H:∀a w₀,Walk c (h==0) zJ Stop a w₀->∀gs w D dt q T sl,RH c w₀ w->gs[h]? =some a->CF c h j d0 Inb tag D dt q T gs w->∃N m' T',runNT c.P N (crowd gs w sl) T=(.next m',T')/\Held c h j d0 Inb tag Stop m' T' from
  H a w hW gs w D dt q T sl (.refl c w) ha F
 clear hW ha F;intro a w₀ hW;induction hW with
 |stop hQ=>exact λgs w D dt q T sl hr ha F=>⟨0,_,T,rfl,gs,w,sl,_,D,dt,q,rfl,ha,λw₁ h₁=>hQ w₁ (hr.trans h₁),F⟩
 | @step a w₀ hrun hstep hnext ih=>
  intro gs w D dt q T sl;generalize hμ:(Uz j D dt,Qp j D q)=μ;induction μ using DO.induction generalizing gs w D dt q T sl with
  |_ μ JB=>
   intro hr ha F;obtain⟨i,g,d,sl',hi,hg,hst⟩:=crowd_pick (P:=c.P) (w:=w) (sl:=sl) (F.awake ha (.inl hrun)) ⟨h,a,ha,hrun⟩;have Fd:=F.at O d;have hrd:RH c w₀ (w.at d):=hr.trans (.at c w d);by_cases e:i=h
   ·subst e;obtain rfl:g=a:=(by rw[ha]at hi;exact(aP hi).symm);obtain⟨g',w',es,hgo,hd⟩:=hstep _ hrd;obtain⟨F',ha'⟩:=Fd.own (a:=g) (a':=g') (hD _ _ _ hd);obtain⟨N,m',T',hN,hH⟩:=ih _ g' w' es hrd hgo _ w' D dt q _ sl' (.refl c w') ha' F';exact⟨N+1,m',T',by rw[runNT_succ_next (hst.trans (runT_crowd_go (sl:=sl') hi hgo))];exact hN,hH⟩
   ·obtain⟨gs',w',ops,bD,a',D',jf,q',hrt,ha',⟨rfl,rfl⟩,NU,F',hlt,_,_⟩:=Fd.by_step O (Hs:=λtg x _=>tg=tag/\x=a) (sl:=sl') hi e hg ha ⟨rfl,rfl⟩
     (λg' w' _=>⟨tag,.inl rfl,λ_ _=>nt,rfl,woken_of_again (again_running _ (.inl hrun))⟩) (λ_ _ _ _ b _=>offersAt_of_not_blocked (by rw[hrun];simp) _ _)
    obtain⟨N,m',T',hN,hH⟩:=JB _ (hμ▸hlt) gs' w' D' jf q' (T++ops) sl' rfl (hrd.trans NU) ha' F';exact⟨N+1,m',T',by rw[runNT_succ_next (hst.trans hrt)];exact hN,hH⟩
def FT(c:CC)(e:Event):Prop:=(∀x,(MemAct.ofEvent e).touch? =some x->(∀g,c.S g x.loc->x.write=false)/\(ShN c.Wg x.loc->x.kind≠.plain))/\e.loc≠.mark (.release (stA c.Wg))
theorem CF.DT(F:CF c 0 j d0 Inb tag D dt q T gs w){pos:String}{es:Array Event}(hK:c.K w->c.K w')(hch:∀i s b,i≠0->Inb i=some s->s.has b->w'.heap[b]? =w.heap[b]?)
  (hdum:w'.heap[c.C]? =w.heap[c.C]?)(hgroup:∃st sm,WgAt c.ty c.Wg w' st sm/\ConcN.Mode j D bD st sm)(hpend:j+ConcN.pend bD<2147483648)(hes:∀e∈es,FT c e)(hsz:gs'.size=gs.size)(kr:∀x y,x≠0->gs'[x]? =some y->gs[x]? =some y):
  CF c 0 j (deafBehind d0 es) Inb bD D dt q (T++MemOp.ofEvents 0 fn pos es) gs' w':=by
 have bC:∀op∈MemOp.ofEvents 0 fn pos es,op.g=0:=λop hop=>by obtain⟨e,_,rfl⟩:=Go.Conc.mem_ofEvents hop;rfl
 have hs:∀op∈MemOp.ofEvents 0 fn pos es,∀b,op.act.touch? =some b->(∀g,c.S g b.loc->b.write=false)/\(ShN c.Wg b.loc->b.kind≠.plain):=λop hop b hb=>by obtain⟨e,h,rfl⟩:=Go.Conc.mem_ofEvents hop;exact(hes e h).1 b hb
 have hno:∀op∈MemOp.ofEvents 0 fn pos es,op.act≠.mark (.release (stA c.Wg)):=λop hop hm=>by obtain⟨ev,Jv,rfl⟩:=Go.Conc.mem_ofEvents hop;refine(hes ev Jv).2 ?_;obtain⟨loc,wr,sy⟩:=ev;cases loc<;>simp_all [MemAct.ofEvent] <;>(split at hm<;>simp_all)
 have hK':=hK F.keep;obtain⟨st,sm,hw',hm⟩:=hgroup;refine⟨hsz.trans F.size,by rw[hsz];exact F.hlt,λi g s h1 h2 h3=>F.seat i g s h1 (kr i g h1 h2) h3,F.main,λi g h1 h2 h3=>?_,F.full,λi s h1=>by rw[hsz];exact F.inR i s h1,F.wf,λi s b h1 h2 h3=>?_,F.inj,hK',⟨st,sm,hw',hm⟩,hpend,
  F.led.own bC hs (λ_ h=>h.elim),by rw[Deaf_own,F.deaf0],λi hi=>?_,λi hi=>?_,λop hop=>?_,λi hi hst=>?_,λop hop=>by rw[hsz];exact(fu.1 hop).elim (F.who op) (λh=>by rw[bC op h];exact F.hlt)⟩
 ·refine(F.work i g h1 (kr (i+1) g h1 h2) h3).imp (λ⟨a,b,d,f⟩=>⟨a,b,d,je (λ_ _ _ _ y=>y) f (c.sub _ hK')⟩) (λ⟨a,b⟩=>⟨a,b.rely ?_⟩);exact⟨λb hb=>absurd hb (dV b),λ_=>⟨st,sm,hw'⟩,λ⟨cs,h1,h2⟩=>⟨cs,hdum.trans h1,h2⟩,cell_of_block hdum _⟩
 ·obtain⟨⟨k,hk⟩,h4⟩:=F.chans i s b h1 h2 h3;exact⟨⟨k,by rw[hch i s b h1 h2 h3];exact hk⟩,h4⟩
 ·rw[Deaf_other T (by omega:0≠i+1) _ bC];exact F.deafW i hi
 ·rw[hsz]at hi;have:=F.hlt;rw[Deaf_other T (by omega:0≠i) _ bC];exact F.above i hi
 ·rcases fu.1 hop with h1|h1
  ·exact F.norel op h1
  ·exact hno op h1
 ·obtain⟨r,hr⟩:=F.rel i hi hst;exact⟨r,hr.appOther bC ae⟩
omit[Payload]in
theorem jg{main:Bool}{D:World->World->Array Event->Prop}{Stop:Goroutine->World->Prop}(hR:∀w w₁,RH c w w₁->R w w₁):∀{n:Nat} {g:Goroutine} {w:World},Goes c.P main R D Stop n g w->Walk c main D Stop g w:=by
 intro n;induction n with
 |zero=>exact λh=>.stop λw₁ h₁=>h w₁ (hR _ _ h₁)
 |succ n ih=>
  intro g w h;rcases h with h|⟨hs,h⟩
  ·exact .stop λw₁ h₁=>h w₁ (hR _ _ h₁)
  ·refine .step hs (λw₁ h₁=>?_) (λw₁ g' w' es h₁ hgo=>?_)
   ·obtain⟨g',w',es,hgo,hd,_⟩:=goes_elim (h w₁ (hR _ _ h₁));exact⟨g',w',es,hgo,hd⟩
   ·have:=h w₁ (hR _ _ h₁);rw[hgo,goes_go]at this;exact ih this.2
end
end
section
open Go
section
variable{P:Program}{S:ba}{Stop:Frame->List Frame->World->Prop}{J:World->World->Prop}{main:Bool}
structure Alike(a a':World):Prop where
 heap:a'.heap=a.heap
 os:a'.os=a.os
 output:a'.output=a.output
theorem Alike.refl(a:World):Alike a a:=⟨rfl,rfl,rfl⟩
theorem Alike.trans{b c:World}(h:Alike a b)(k:Alike b c):Alike a c:=⟨k.heap.trans h.heap,k.os.trans h.os,k.output.trans h.output⟩
theorem Alike.symm{b:World}(h:Alike a b):Alike b a:=⟨h.heap.symm,h.os.symm,h.output.symm⟩
theorem Alike.rel{r:World}(h:Alike a a')(hr:Rel H a r):Rel H a' r:=⟨by rw[h.heap];exact hr.size,λb hb=>by rw[h.heap];exact hr.same b hb,λb hb=>by rw[h.heap];exact hr.hid b hb,λb hb o ho=>by rw[h.heap]at ho;exact hr.objs b hb o ho,by rw[h.os];exact hr.os,by rw[h.output];exact hr.output⟩
structure Beside(H:Nat->Prop)(R:World->World->Prop)(D:World->World->Array Event->Prop)(J:World->World->Prop):Prop where
 others:∀a w w₁,R w w₁->Rel H a w->J a w->Rel H a w₁/\J a w₁
 own:∀a a' r r' er,Rel H a r->J a r->Went H #[] a a' r r' er->J a' r'
 alike:∀a a' r,Alike a a'->J a r->J a' r
 does:∀a a' r r' er,Rel H a r->J a r->Went H #[] a a' r r' er->D r r' er
theorem walk_of_bar_sw(hR:S.Rows H P)(hB:S.iM P)(hL:S.nV)(hP:S.Plain P)(B:Beside H R D J)
  (hQ:∀fr fs a r bo cj,Stop fr fs a->bQ P S fr fs->o8 κ fr fs bo cj->Rel H a r->J a r->fU P main R D Q (bh bo (cj++cs)) r)
    (h:Vg P Stop fr fs a):∀{r:World} {bo:Frame} {cj:List Frame},bQ P S fr fs->o8 κ fr fs bo cj->Rel H a r->J a r->fU P main R D Q (bh bo (cj++cs)) r:=by
 induction h with
 |stop hs=>exact λhS hsw hrel hj=>hQ _ _ _ _ _ _ hs hS hsw hrel hj
 | @step fr fs a hgo hnext ih=>
  intro r bo cj hS hsw hrel hj;have one:∀w₁,R r w₁->∃τ aZ bz a' es r' er qp se,stepG P true (bh fr (fs++[base P])) (aV a τ)=.go (bh aZ (bz++[base P])) a' es/\bQ P S aZ bz/\J a w₁/\Rel H a w₁/\Went H #[] a a' w₁ r' er/\o8 κ aZ bz qp se/\stepG P main (bh bo (cj++cs)) w₁=.go (bh qp (se++cs)) r' er:=λw₁ hr=>by
   obtain⟨g8,hj'⟩:=B.others a r w₁ hr hrel hj;have bf:Rel H a a:=⟨rfl,λ_ _=>.inl rfl,λb hb=>⟨(g8.hid b hb).1,_,(g8.hid b hb).1,rfl⟩,g8.objs,rfl,rfl⟩;let τ:Nat->Question->Nat:=λi q=>w₁.tape (w₁.drawn+(i-a.drawn)) q;obtain⟨aZ,bz,a',es,e⟩:=hgo τ;rcases FJ hR hB hL hP hS (lT bf τ τ)with⟨gD,lf,a1,h1,h3,h4,h5⟩|⟨rfl,h1⟩|h1|h1
   ·obtain⟨r0,er0,hw0,hs0⟩:=h5 (aV a τ) (lT bf τ τ) (λ_ _ _=>rfl);have tJ:r0=a1:=(by rw[wy (a:=a) (nY:=τ) bf h4 (nZ hw0:Went H #[] a a1 (aV a τ) r0 er0)];rw[←(show a1.tape=τ from h3)]);subst tJ;obtain⟨fx,sx,hx,hs9⟩:=hs0 none fr fs (nW _ _);obtain⟨rfl,rfl⟩:=zB hx;have e1:=hs9 true [base P];rw[e]at e1;injection e1 with eg ea ee
    injection eg with ef ec
    subst ef ea;obtain rfl:=lU ec;obtain⟨r1,Q3,fE,hs1⟩:=h5 w₁ ⟨g8.size,g8.same,g8.hid,g8.objs,g8.os,g8.output⟩ (λi q _=>by show w₁.tape (w₁.drawn+(a.drawn+i-a.drawn)) q=w₁.tape (w₁.drawn+i) q;rw[Nat.add_sub_cancel_left]);obtain⟨qp,se,YL,hs1⟩:=hs1 κ bo cj hsw;exact⟨τ,_,_,_,es,r1,Q3,qp,se,e,h1,hj',g8,nZ fE,YL,hs1 main cs⟩
   ·obtain⟨c',a1,es1,e1,_⟩:=h1 true (base P) [];rw[show([]:List Frame) ++[base P]=[base P]from rfl]at e;rw[e]at e1;injection e1 with eg _ _
    injection eg with _ ec
    cases bz<;>cases ec
   ·obtain⟨o,w,es1,e1⟩:=h1 true [base P];rw[e]at e1;cases e1
   ·obtain⟨cases,shape,a1,es1,e1,_⟩:=h1 true [base P];rw[e]at e1;cases e1
  refine .step rfl (λw₁ hr=>?_) λw₁ g' w' es hr hst=>?_
  ·obtain⟨τ,aZ,bz,a',es,r',er,qp,se,_,_,hj',hrel',hw,_,hst⟩:=one w₁ hr;exact⟨_,r',er,hst,B.does a a' w₁ r' er hrel' hj' hw⟩
  ·obtain⟨τ,aZ,bz,a',es,r',er,qp,se,e,Jn,hj',hrel',hw,YL,abn⟩:=one w₁ hr;rw[hst]at abn;injection abn with e1 e2 e3
   subst e1 e2;exact ih τ aZ bz a' es e Jn YL hw.rel (B.own _ _ _ _ _ hrel' hj' hw)
theorem xL(hR:S.Rows H P)(hB:S.iM P)(hL:S.nV)(hP:S.Plain P)(B:Beside H R D J)
  (hQ:∀fr fs a r,Stop fr fs a->bQ P S fr fs->Rel H a r->J a r->fU P main R D Q (bh fr (fs++cs)) r)
    (h:Vg P Stop fr fs a) {r:World} (hS:bQ P S fr fs) (hrel:Rel H a r) (hj:J a r):fU P main R D Q (bh fr (fs++cs)) r:=
 walk_of_bar_sw (κ:=none) hR hB hL hP B (λfr fs a r bo cj h1 h2 h3 h4 h5=>by obtain⟨rfl,rfl⟩:=zB h3;exact hQ _ _ _ _ h1 h2 h4 h5) h hS (nW _ _) hrel hj
end
def Hid(N:Nat->Prop)(r:World)(b:Nat):Prop:=∃o,r.heap[b]? =some o/\bU o=true/\¬N b
def dJ(f:Option (Nat×Nat))(o:Obj):Obj:=match f,o with
 |some f,.cells c e (0,0)=>.cells c e f
 |_,o=>o
theorem oh{f:Option (Nat×Nat)}{o:Obj}:ej (dJ f o)=ej o:=by unfold dJ;split<;>rfl
theorem om{f:Option (Nat×Nat)}{o:Obj}:bU (dJ f o)=bU o:=by unfold dJ;split<;>rfl
theorem JC(f:Option (Nat×Nat))(o:Obj):zg (some (dJ f o)) (some o):=by
 unfold dJ;split
 ·exact .inr ⟨_,_,_,rfl,rfl⟩
 ·exact .inl rfl
noncomputable def fJ(N:Nat->Prop)(F:Nat->Option (Nat×Nat))(r:World):World:={r with heap:=r.heap.mapIdx λb o=> @ite _ (N b\/bU o=false) (Classical.propDecidable _) (dJ (F b) o) cI}
theorem dh(N:Nat->Prop)(F:Nat->Option (Nat×Nat))(r:World)(b:Nat):(fJ N F r).heap[b]? =(r.heap[b]?).map λo=> @ite _ (N b\/bU o=false) (Classical.propDecidable _) (dJ (F b) o) cI:=by simp only[fJ,Array.getElem?_mapIdx]
theorem hide_need{r:World}(h:N b):(fJ N F r).heap[b]? =(r.heap[b]?).map (dJ (F b)):=by
 rw[dh];cases r.heap[b]? with
 |none=>rfl
 |some o=>simp[h]
theorem zK{r:World}(hok:∀b o,N b->r.heap[b]? =some o->ej o=true):Rel (Hid N r) (fJ N F r) r:=by
 refine⟨by simp[fJ],λb hb=>?_,λb hb=>?_,λb hb o ho=>?_,rfl,rfl⟩
 ·rw[dh];cases e:r.heap[b]? with
  |none=>exact .inl rfl
  |some o=>have:N b\/bU o=false:=(by apply cY;intro hc;simp only[not_or,Bool.not_eq_false]at hc;exact hb ⟨o,e,hc.2,hc.1⟩);simp only[kS,this,if_true];exact JC _ _
 ·obtain⟨o,e,h1,h2⟩:=hb;refine⟨?_,o,e,h1⟩;rw[dh,e];simp[h1,h2]
 ·rw[dh]at ho;cases e:r.heap[b]? with
  |none=>rw[e]at ho;cases ho
  |some o'=>
   have:N b\/bU o'=false:=(by apply cY;intro hc;simp only[not_or,Bool.not_eq_false]at hc;exact hb ⟨o',e,hc.2,hc.1⟩);rw[e]at ho;simp only[kS,this,if_true,cu]at ho;subst ho;rw[oh];rcases this with h|h
   ·exact hok b o' h e
   ·cases o'<;>first|rfl|cases h
def YM(H:Nat->Prop)(P:Program)(Post:Value->World->Prop)(fr:Frame)(fs:List Frame)(a:World):Prop:=fs=[]/\∃v,fr.leaving P a (.returned v)/\Post v a
section
variable{P:Program}{S:ba}{J:World->World->Prop}{main:Bool}
theorem qA{fn:Func}{tmps:Array Value}{r:World}(hrel:Rel H a r)(bf:Rel H a a)(h:(results fn tmps).run P a=.ok v a):∃r' er,(results fn tmps).runT P r #[]=(.ok v r',er)/\Went H #[] a a r r' er:=by
 have hs:=tE (H:=H) (P:=P) fn tmps a r #[] #[] hrel;have e:((results fn tmps).runT P a #[]).1=.ok v a:=by simpa using h
 generalize (results fn tmps).runT P a #[]=X at hs e;obtain⟨x,y⟩:=X;simp only at e;subst e;obtain⟨_,_,_,h4⟩:=hs;obtain⟨r',er,e1,e2⟩:=h4 (λi q hi=>ae);exact⟨r',er,e1,e2⟩
theorem NV(hPost:∀v a τ,Post v a->Post v (aV a τ)):∀fr fs a τ,Rel H a a->YM H P Post fr fs a->YM H P Post fr fs (aV a τ):=λfr fs a τ bf ⟨h1,v,⟨h2,h3,h4,fn,h5,h6⟩,hp⟩=>by
 refine⟨h1,v,⟨h2,h3,h4,fn,h5,?_⟩,hPost v a τ hp⟩;obtain⟨r',er,e1,e2⟩:=qA (lT bf a.tape τ:Rel H (aV a a.tape) (aV a τ)) bf h6;have e3:=wy bf (aY _) e2;have:((results fn fr.tmps).runT P (aV a τ) #[]).1=.ok v (aV a τ):=by rw[e1,e3]
 simpa using this
theorem age(hR:S.Rows H P)(hB:S.iM P)(hL:S.nV)(hP:S.Plain P)(B:Beside H R D J)(hPost:∀v a τ,Post v a->Post v (aV a τ))
   {args:Array Value} {r:World} {c:Frame} (hrel:Rel H a r) (hj:J a r) (lR:wj P S f args)
  (hcall:∀τ,Calls P f args (aV a τ) λe w'=>∃v,e=.returned v/\Post v w')
  (hnext:∀v a' w',Post v a'->Rel H a' w'->J a' w'->fU P main R D Q (bh (c.finish v) cs) w'):fU P main R D Q (bh (Frame.enter P f args .normal) (c::cs)) r:=by
 have bf:Rel H a a:=⟨rfl,λ_ _=>.inl rfl,λb hb=>⟨(hrel.hid b hb).1,_,(hrel.hid b hb).1,rfl⟩,hrel.objs,rfl,rfl⟩;have hall:uI P (YM H P Post) (Frame.enter P f args .normal) [] a:=λτ=>by obtain⟨e,w',fr,⟨v,rfl,hp⟩,hc,hfn,hl⟩:=hcall τ [base P];obtain⟨n,hn⟩:=(hc:Steps P _ _);exact⟨n,fr,[],w',hn,rfl,v,hl,hp⟩
 have hS:bQ P S (Frame.enter P f args .normal) []:=⟨FI.enter hP lR (.inl rfl),rfl⟩;have YN:=qy hR hB hL hP (NV hPost) hS bf hall;refine xL (cs:=c::cs) hR hB hL hP B (λfr fs a r hst hS hrel hj=>?_) YN hS hrel hj;obtain⟨rfl,v,⟨h2,h3,h4,fn,h5,h6⟩,hp⟩:=hst;have one:∀w₁,R r w₁->∃r' er,stepG P main (bh fr ([] ++c::cs)) w₁=.go (bh (c.finish v) cs) r' er/\Rel H a w₁/\J a w₁/\Went H #[] a a w₁ r' er:=λw₁ hr=>by obtain⟨g8,hj'⟩:=B.others a r w₁ hr hrel hj;have bf:Rel H a a:=⟨rfl,λ_ _=>.inl rfl,λb hb=>⟨(hrel.hid b hb).1,_,(hrel.hid b hb).1,rfl⟩,hrel.objs,rfl,rfl⟩;obtain⟨r',er,e1,e2⟩:=qA g8 bf h6;refine⟨r',seen P fr.fn er++ #[],?_,g8,hj',bS e2⟩;simp only[stepG,h2,unwind,h3,h5,e1,doReturn,h4,kR];rfl
 refine .step rfl (λw₁ hr=>?_) λw₁ g' w' es hr hst=>?_
 ·obtain⟨r',er,e,h7,h8,hw⟩:=one w₁ hr;exact⟨_,r',_,e,B.does a a w₁ r' _ h7 h8 hw⟩
 ·obtain⟨r',er,e,h7,h8,hw⟩:=one w₁ hr;rw[hst]at e;injection e with e1 e2 e3
  subst e1 e2;exact hnext v a _ hp hw.rel (B.own _ _ _ _ _ h7 h8 hw)
end
abbrev dA(ι:Type):=ι->Frame->List Frame->World->(ι->Frame->List Frame->World->Prop)->Prop
inductive NW(P:Program){ι:Type}(J:dA ι)(Stop:ι->Frame->List Frame->World->Prop):ι->Frame->List Frame->World->Prop
 |stop {i:ι} {fr:Frame} {fs:List Frame} {w:World}:Stop i fr fs w->NW P J Stop i fr fs w
 |steps {i:ι} {fr aZ:Frame} {fs bz:List Frame} {w w':World}:Steps P (lone fr (fs++[base P]) w) (lone aZ (bz++[base P]) w')->NW P J Stop i aZ bz w'->NW P J Stop i fr fs w
 |jump {i:ι} {fr:Frame} {fs:List Frame} {w:World} {K:ι->Frame->List Frame->World->Prop}:J i fr fs w K->(∀i' aZ bz w',K i' aZ bz w'->NW P J Stop i' aZ bz w')->NW P J Stop i fr fs w
inductive JD(P:Program){ι:Type}(J:dA ι)(Stop:ι->Frame->List Frame->World->Prop):ι->Frame->List Frame->World->Prop
 |mk {i:ι} {fr:Frame} {fs:List Frame} {a:World} (K:(Nat->Question->Nat)->ι->Frame->List Frame->World->Prop)
   (h1:∀τ,∃n,kC P (λaZ bz a'=>Stop i aZ bz a'\/J i aZ bz a' (K τ)) n fr fs (aV a τ))
   (h2:∀τ i' aZ bz a',K τ i' aZ bz a'->JD P J Stop i' aZ bz a'):JD P J Stop i fr fs a
def CH(P:Program)(J:dA ι)(Stop:ι->Frame->List Frame->World->Prop)(i:ι)(fr:Frame)(fs:List Frame)(a:World):Prop:=Stop i fr fs a\/∃K,J i fr fs a K/\∀i' aZ bz a',K i' aZ bz a'->JD P J Stop i' aZ bz a'
section
variable{P:Program}{J:dA ι}{Stop:ι->Frame->List Frame->World->Prop}
theorem JD.all{i:ι}{a:World}(h:JD P J Stop i fr fs a):uI P (CH P J Stop i) fr fs a:=by
 cases h with
 |mk K h1 h2=>intro τ;obtain⟨n,aZ,bz,a',hr,hs⟩:=h1 τ;exact⟨n,aZ,bz,a',hr,hs.imp id λhj=>⟨K τ,hj,h2 τ⟩⟩
theorem Rl{S:ba}{Q:Goroutine->World->Prop}{main:Bool}
  (hR:S.Rows H P)(hB:S.iM P)(hL:S.nV)(hP:S.Plain P)(B:Beside H R D Jw)
  (hStop:∀i fr fs a τ,Stop i fr fs a->Stop i fr fs (aV a τ))(hJt:∀i fr fs a K τ,J i fr fs a K->J i fr fs (aV a τ) K)
  {i:ι}(hQ:∀fr fs a r,CH P J Stop i fr fs a->bQ P S fr fs->Rel H a r->Jw a r->fU P main R D Q (bh fr (fs++cs)) r)
   {a r:World} (h:JD P J Stop i fr fs a) (hS:bQ P S fr fs) (hrel:Rel H a r) (hj:Jw a r):fU P main R D Q (bh fr (fs++cs)) r:=by
 have bf:Rel H a a:=⟨rfl,λ_ _=>.inl rfl,λb hb=>⟨(hrel.hid b hb).1,_,(hrel.hid b hb).1,rfl⟩,hrel.objs,rfl,rfl⟩;have yL:∀fr fs a τ,Rel H a a->CH P J Stop i fr fs a->CH P J Stop i fr fs (aV a τ):=λfr fs a τ _ h=>by
  rcases h with h|⟨K,h1,h2⟩
  ·exact .inl (hStop _ _ _ _ τ h)
  ·exact .inr ⟨K,hJt _ _ _ _ _ τ h1,h2⟩
 exact xL hR hB hL hP B hQ (qy hR hB hL hP yL hS bf h.all) hS hrel hj
end
section
variable(P:Program)(J:dA ι)(Stop:ι->Frame->List Frame->World->Prop)(U:List Frame->Prop)
def JH(b:Frame)(k:List Item)(fs:List Frame):ι->Exit->Act->World->Prop
 |i,.normal,a,w=>NW P J Stop i (b.at a k) fs w
 |i,.exit id,a,w=>∃k',exitTo id k=some k'/\NW P J Stop i (b.at a k') fs w
 |i,.ret,a,w=>∀todo,NW P J Stop i {b.at a todo with mode:=.returning} fs w
 |_,_,_,_=>False
def JI(i:ι)(f:FuncId)(args:Array Value)(w:World)(Post:ι->Value->World->Prop):Prop:=∀(c:Frame) (fs:List Frame),U (c::fs)->(∀i' v w',Post i' v w'->NW P J Stop i' (c.finish v) fs w')->NW P J Stop i (Frame.enter P f args .normal) (c::fs) w
end
section rules
variable{P:Program}{J:dA ι}{Stop:ι->Frame->List Frame->World->Prop}{U:List Frame->Prop}{Q:ι->Exit->Act->World->Prop}{i:ι}{a:Act}{w:World}
theorem NW.one(h:step P (lone fr (fs++[base P]) w)=.next (lone aZ (bz++[base P]) w'))(hz:NW P J Stop i aZ bz w'):NW P J Stop i fr fs w:=.steps (.one h) hz
theorem JH.push{b:Frame}{x:Item}{e:Exit}(hx:x.plain=true)(he:e≠.normal)(h:JH P J Stop b k fs i e a w):JH P J Stop b (x::k) fs i e a w:=by
 cases e with
 |normal=>exact absurd rfl he
 |exit id=>obtain⟨k',hk,hg⟩:=h;exact⟨k',by cases x<;>simp_all [exitTo,Item.plain],hg⟩
 |ret=>exact h
 |goto l=>exact h
 |panic ch=>exact h
 |outgrown=>exact h
theorem JI.mono{f:FuncId}{args:Array Value}{Post:ι->Value->World->Prop}(h:JI P J Stop U i f args w Post)(hp:∀i v w,Post i v w->Rm i v w):JI P J Stop U i f args w Rm:=λc fs hu hn=>h c fs hu λi' v w' hq=>hn i' v w' (hp _ _ _ hq)
end rules
section
variable{P:Program}{J:dA ι}{Stop:ι->Frame->List Frame->World->Prop}
end
end
end Go.Proofs.YtfmibhmknlnoiaaGreat
