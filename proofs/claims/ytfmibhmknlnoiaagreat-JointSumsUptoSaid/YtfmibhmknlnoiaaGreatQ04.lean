import Derived.Test.YtfmibhmknlnoiaaGreatQ02
import Derived.Shelf.SlicesE.Clone
import Derived.Conc.TokenWalk
import Derived.Lib.Hide
import Derived.Laws.OwnMore
import Derived.Test.YtfmibhmknlnoiaaGreatQ00
import Derived.KernelRfl
import Derived.Deep.QuietTactic
import Derived.BigQuiet
import Derived.Laws.IdiomCopy
import Derived.OwnWalk
import Derived.Laws.Pointers
import Derived.Deep.AppendLies
import Derived.Deep.DrawnRows
import Derived.Test.YtfmibhmknlnoiaaGreatQ03
set_option linter.all false
set_option maxRecDepth 100000
set_option maxHeartbeats 4000000
namespace Go.Proofs.YtfmibhmknlnoiaaGreat
open _root_.Go.Proofs.Tryz
variable{ι σ α:Type}{q:(Nat->Question->Nat)->Prop}{a:Act}{cZ:Array Oper}{ats afN:Array TypeId}{tm:Array Value}{is:Bool}{cd z:Code}{d d0:aK}{At:Frame->List Frame->World->Prop}{Q7:Func}{fn:FuncId}{J:eM σ}{Jm:dA ι}{S:ba}{f:List (Nat×Nat)}{ds:List Deferred}{cs cs0 gN fs:List Frame}{U:List Frame->Prop}{hs zs:List Int}{les lvs rS xs:List Value}{B F b be c c0 cb come gb hc ix j k lb lc lo m mo ob ow rb s sb sc sz t t' tW tc tk wc:Nat}{fk:Nat×Nat}{x:Nat->AW σ}{W nb yS:Nat->Nat}{iX:Nat->Option (Nat×Nat)}{Inb:Nat->Option Conc.Seat}{H Nk:Nat->Prop}{o o0 o1:Oper}{ha sa:Option Addr}{Q:Ph->Exit->Act->World->Prop}{pp:Pr σ dO}{P:Program}{E X:Prop}{β:Type}{e:TypeId}{cv lv sln u v va vo:Value}{a0 w' w0 w1:World}{I R2:World->Prop}{i i0:ι}{R1:ι->World->Prop}
section
open Go Go.Conc Go.RowKit
def BV:Go.Shelf.Ren:=⟨fun|41=>148|n=>n,fun|22=>22|23=>3|4=>4|n=>n,fun|n=>n⟩
theorem CW:Go.Proofs.SlLaysE0.n41 prog BV:={
 mixed:=ax
 f41:=⟨f148.name,az,func148.trans (congrArg some ax)⟩
 t4:=underlying4
 a4:=Tryz.isAgg4
 z4:=Tryz.sizeOf4
 v4:=Tryz.zeroValue4
 t22:=underlying22
 a22:=Tryz.isAgg22
 z22:=Tryz.sizeOf22
 v22:=Tryz.zeroValue22}
structure Ku(w:World)(ta:Option Addr)(tc:Nat)(l:List Int):Prop where
 ex:(ta=none/\l=[]/\tc=0)\/∃tb to,ta=some ⟨tb,to,none⟩/\∀i,i<l.length->w.cell? ⟨tb,to+i,none⟩=some (.int .i64 (l.getD i 0))
theorem BW(ta:Option Addr)(tc:Nat)(l:List Int)(w:World)(h:Ku w ta tc l)(hl:l.length<100000):
  Calls prog 148 #[.slice ta l.length tc] w λe w'=>∃la lc,e=.returned (.slice la l.length lc)/\l.length<=lc/\Below w.heap.size w w'/\∀i,i<l.length->∃tb,la=some ⟨tb,0,none⟩/\w.heap.size<=tb/\w'.cell? ⟨tb,i,none⟩=some (.int .i64 (l.getD i 0)):=by
 rcases h.ex with⟨rfl,rfl,rfl⟩|⟨tb,to,rfl,hc⟩
 ·have h0:=AnyE.slices_Clone_nil CW 0 0 w;change Calls prog 148 _ _ _ at h0;refine h0.mono ?_;rintro e w' ⟨rfl,rfl⟩;exact⟨none,0,rfl,aY _,iF _ _,λi hi=>absurd hi (dV _)⟩
 ·obtain⟨ii,MJ,MK,ML,MM⟩:=info_parts' Ei;have h0:=AnyE.slices_Clone CW ii _ 1 8 MJ MK ML MM rfl az Tryz.sizeOf3 tb to l.length tc (l.map (Value.int .i64)) w au iw ae (λj u hj=>?_) (λu hu=>?_)
  ·change Calls prog 148 _ _ _ at h0;refine h0.mono ?_;rintro e w' ⟨v',rfl,hown,hne,hb⟩;have hown:w'.ownsRow w.heap.size 3 1 v' l.length (l.map (Value.int .i64)):=hown;rcases hown.2 with⟨e1,e2⟩|⟨g,cap,cur,rfl,hg,hh,h1,h2,_⟩
   ·exact absurd e1 hne
   ·refine⟨_,cap,rfl,h1,hb,λi hi=>⟨g,rfl,hg,?_⟩⟩;rw[hown.cellAt i ae];simp[cQ,hi]
  ·simp only[ml,km]at hj;obtain⟨x,hx,rfl⟩:=hj;have JJ:=(eL.1 hx).1;rw[hc j JJ,cQ,hx];rfl
  ·simp only[og]at hu;obtain⟨x,_,rfl⟩:=hu;rfl
theorem new_any(ta:Option Addr)(tc:Nat)(l:List Int)(w:World)(h:Ku w ta tc l)(hl:l.length<100000):
  Calls prog 118 #[.slice ta l.length tc] w λe w'=>∃ob,e=.returned (.pointer (some ⟨ob,0,none⟩))/\OrderAt w' w.heap.size ob l (-1)/\w.heap.size<=ob/\Below w.heap.size w w':=by
 have H:=ai (BW ta tc l w h hl);clear h;go_enter func118,ntmps118
 go_wp2_with (go_at_call 148;refine H.out.mono ?_;rintro e w1 ⟨la,lc,rfl,h1,h2,h3⟩;have H3:=ai h3;have H2:=ai h2;clear h2 h3)
 go_ret
 have hsz:w.heap.size<=w1.heap.size:=H2.out.size;refine⟨w1.heap.size,rfl,⟨la,lc,heap_alloc_new _ _,h1,λi hi=>?_⟩,hsz,H2.out.alloc hsz _⟩;obtain⟨tb,e,hb,hc⟩:=H3.out i hi;have hlt:=dw w1 _ hc;refine⟨tb,0,e,⟨hb,hlt⟩,?_⟩;rw[cM,←hc];refine bP (w:=w1) ?_;simp only[←cG,cF];rw[if_neg (Nat.ne_of_lt hlt)]
def eB(lens:List Nat)(un:Int):Bool:=decide (0<lens.length/\lens.length<=8/\0<=un/\un<=20000) &&lens.all λn=>decide (n<=64)
theorem check_any(wb wo wc tn tc hn hc:Nat)(tu ha:Option Addr)(lens:List Nat)(un v:Int)(w:World)(hl:lens.length<100000)(hv:v=if eB lens un then 0 else 30)
  (hw:∀i,i<lens.length->∃a c,w.cell? ⟨wb,wo+i,none⟩=some (.slice a (lens.getD i 0) c)):
  Calls prog 70 #[.agg (aC (some ⟨wb,wo,none⟩) tu ha lens.length wc tn tc hn hc un)] w λe w'=>e=.returned (.int .i64 v)/\Below w.heap.size w w':=by
 simp only[aC];have Hw:=ai hw;clear hw;have hb1:Below w.heap.size w (w.alloc (.cells (aC (some ⟨wb,wo,none⟩) tu ha lens.length wc tn tc hn hc un) 25)):=(iF _ _).alloc (aY _) _;simp only[aC]at hb1;have Hb:=ai hb1;clear hb1;have no:¬(0<lens.length/\lens.length<=8/\0<=un/\un<=20000)->v=30:=λh=>by rw[hv];simp[eB,h]
 have XC:=ai no;have Hv:=ai hv;clear no hv;by_cases h1:lens.length=0
 ·have hv:=XC.out ae;subst hv;rw[h1]at Hb⊢;go_enter func70,ntmps70
  go_wp2;go_ret
  exact⟨rfl,Hb.out⟩
 by_cases h2:8<lens.length
 ·have hv:=XC.out ae;subst hv;have d1:((lens.length:Int)==0)=false:=kO;have d2:decide ((8:Int) < (lens.length:Int))=true:=bV;go_enter func70,ntmps70
  go_wp2;go_ret
  exact⟨rfl,Hb.out⟩
 by_cases h3:un<0
 ·have hv:=XC.out ae;subst hv;have d1:((lens.length:Int)==0)=false:=kO;have d2:decide ((8:Int) < (lens.length:Int))=false:=bV;have d3:decide (un<0)=true:=by simpa using h3
  go_enter func70,ntmps70
  go_wp2;go_ret
  exact⟨rfl,Hb.out⟩
 by_cases h4:20000<un
 ·have hv:=XC.out ae;subst hv;have d1:((lens.length:Int)==0)=false:=kO;have d2:decide ((8:Int) < (lens.length:Int))=false:=bV;have d3:decide (un<0)=false:=by simpa using h3
  have d4:decide (20000<un)=true:=by simpa using h4
  go_enter func70,ntmps70
  go_wp2;go_ret
  exact⟨rfl,Hb.out⟩
 have d1:((lens.length:Int)==0)=false:=kO;have d2:decide ((8:Int) < (lens.length:Int))=false:=bV;have d3:decide (un<0)=false:=by simpa using h3
 have d4:decide (20000<un)=false:=by simpa using h4
 go_enter func70,ntmps70
 go_wp2;go_loopw [28] (λiv wr=>∃k:Nat,k<=lens.length/\iv=.int .i64 k/\(Below w.heap.size w wr/\∀i,i<lens.length->∃a c,wr.cell? ⟨wb,wo+i,none⟩=some (.slice a (lens.getD i 0) c))/\∀j,j<k->lens.getD j 0<=64) (λi _=>lens.length- (intOf i).toNat)
 case atStart=>refine⟨0,bj _,rfl,⟨Hb.out,λi hi=>?_⟩,λj hj=>absurd hj (dV _)⟩;obtain⟨a,c,h⟩:=Hw.out i hi;exact⟨a,c,by simp[h,acd]⟩
 case round=>
  obtain⟨k,hk,rfl,hbw,hall⟩:=hrel;have Hbw:=ai hbw;clear hbw;have ace:=ai hall;clear hall;have hwr:IntKind.i64.wrap ((k:Int) +1)=(k:Int) +1:=by rw[dR];omega
  by_cases hlt:k<lens.length
  ·obtain⟨a,c,f1⟩:=Hbw.out.2 k hlt;generalize hlk:lens.getD k 0=lk at*;have Hlk:=ai hlk;clear hlk;by_cases h5:64<lk
   ·have hv:v=30:=(by rw[Hv.out];have:lens.all (λn=>decide (n<=64))=false:=(by rw[List.all_eq_false];refine⟨lens[k],pP hlt,?_⟩;have:=Hlk.out;rw[cQ,eA hlt]at this;simp at this⊢;omega);simp[eB,this]);subst hv;go_wp2;go_ret
    exact⟨rfl,Hbw.out.1⟩
   ·go_wp2;refine⟨⟨k+1,ae,au,Hbw.out,λj hj=>?_⟩,by simp[intOf];omega⟩;by_cases e:j=k
    ·subst e;rw[Hlk.out];omega
    ·exact ace.out j ae
  ·have hkl:k=lens.length:=ae;have hv:v=0:=(by rw[Hv.out];have:lens.all (λn=>decide (n<=64))=true:=(by rw[fT];intro x hx;obtain⟨j,hj,rfl⟩:=List.getElem_of_mem hx;have:=ace.out j ae;rw[cQ,eA hj]at this;simpa using this);have h0:0<lens.length/\lens.length<=8/\0<=un/\un<=20000:=ae;simp only[eB,this];rw[decide_eq_true h0];rfl);subst hv;go_wp2;go_ret
   exact⟨rfl,Hbw.out.1⟩
end
section
open Go Go.Conc Go.ConcN Go.RowKit Go.Conc.Lib Go.ConcR.Gen Go.ConcN.Gen
open Go.ConcR (KK wgBlock WgAt stA smA rd wr mk Payload Aside2 DC0)
variable[Inhabited bO]
theorem vt{w:World}{r:Nat}(h:w.heap[b]? =some (Obj.chan 0 #[] false k r false))(x:Nat):(w.setChan b 0 #[] true k r false).heap[x]? =if x=b then some (Obj.chan 0 #[] true k r false)else w.heap[x]? :=by
 by_cases e:x=b
 ·subst e;rw[if_pos rfl];exact heap_setChan_self w h _ _ _ _ _ _
 ·rw[if_neg e];exact heap_setChan_ne w _ _ _ _ _ _ (bp e)
theorem SA(hP:d.P=prog)(E8:d.ty=link.tWg){b:Frame}{ops:Array Oper}{id:Nat}{o2:Oper}{k:List Item}{x:Operand}{xs:Array Operand}
  (hk:b.kind≠.early)(ho:ops[j]? =some o)(hw:Region.wanted o (yielded ops a.tmps)=true)(hop:o.op=.call {callee:=.builtin .close,args:=#[x],argTypes:=ats})(hx:a.eval x=.chan (some d.gone))(hnr:(prog.funcs[b.fn]?).any (·.norace)=false)
  (hwake:mayWake d.P (bh (b.at a (.inRegion ops [j]:: .code (.seq (.region id cZ false) z)::k)) (fs++d.cs0))=true)
  (hs:cZ.size=1)(yM:cZ[0]? =some o2)(hw2:Region.wanted o2 (yielded cZ (a.put o.dst (.tuple #[])).tmps)=true)(ad8:o2.op=.call {callee:=.value (.func link.wait),args:=xs,argTypes:=afN})
  (hxs:xs.map (a.put o.dst (.tuple #[])).eval=#[.pointer (some ⟨d.Wg,0,none⟩)]):
  EndSpot d (b.at a (.inRegion ops [j]:: .code (.seq (.region id cZ false) z)::k)) fs (b.at ((a.put o.dst (.tuple #[])).put o2.dst (.tuple #[])) (.inRegion cZ []:: .code z::k)):=by
 refine⟨hwake,b.at (a.put o.dst (.tuple #[])) (.inRegion ops []:: .code (.seq (.region id cZ false) z)::k),λw hK=>?_,λRd n Low F hF2=>?_⟩
 ·obtain⟨_,_,⟨kg,hg⟩,_⟩:=hK;refine⟨w.setChan d.gone 0 #[] true kg kg false,?_,rfl,rfl,rfl,by simp[World.setChan],⟨kg,kg,?_⟩,λy hy=>?_⟩
  ·have:=stepG_close (P:=prog) (main:=true) (b:=b) (kk:=.code (.seq (.region id cZ false) z)::k) (cs:=fs++d.cs0) (rest:=[]) ho hw hk hop hx hg hnr;rw[hP];exact this
  ·rw[vt hg,if_pos rfl]
  ·rw[vt hg,if_neg hy]
 ·rw[hP,E8];refine⟨AnchWN link F d.Wg (b.at (a.put o.dst (.tuple #[])) (.inRegion cZ (0::[]):: .code z::k)) (fs++d.cs0),λg w h=>?_,λg w h=>?_,λw hF hl=>?_⟩
  ·obtain⟨T,rfl,_⟩:=h;rfl
  ·obtain⟨m,h⟩:=JY (Rd:=Rd) (n:=n) (Low:=Low) (C:=d.C) MC hF2 g w h;refine⟨m,?_⟩;unfold MA at h;rw[yM]at h;exact h
  ·have hW:=λw hF=>wait_start (C:=d.C) (Rd:=Rd) (n:=n) (Low:=Low) (F:=F) (i₀:=0) (rest₀:=[]) (k₀:=.code z::k) (cs:=fs++d.cs0) MC hF2 yM hw2 hk ad8 hxs w hF;have ZL:F w/\WgLive link.tWg d.Wg w:=⟨hF,hl⟩;clear hF hl;refine⟨20+3,?_⟩;change Goes prog true _ _ _ (20+3) (G (b.at (a.put o.dst (.tuple #[])) (.inRegion ops []:: .code (.seq (.region id cZ false) z)::k)) (fs++d.cs0)) w;refine bg rfl (λw₁ h₁=>?_);replace ZL:=aj hF2 ZL h₁;clear h₁;rw[stepG_region_end];simp only[goes_go];refine⟨by u_nil,?_⟩;refine bg rfl (λw₁ h₁=>?_);replace ZL:=aj hF2 ZL h₁;clear h₁;rw[stepG_seq];simp only[goes_go];refine⟨by u_nil,?_⟩;refine bg rfl (λw₁ h₁=>?_);replace ZL:=aj hF2 ZL h₁;clear h₁;rw[stepG_region];simp only[goes_go];refine⟨by u_nil,?_⟩;rw[hs];exact hW _ ZL
section
variable{main:Bool}{J:dA ι}{Stop:ι->Frame->List Frame->World->Prop}{Q:ι->Exit->Act->World->Prop}{w:World}
theorem Kw{c:Code}(h:∀(b:Frame) (k:List Item) (fs:List Frame),b.fn=fn->b.kind=.normal->U fs->(∀i' a' w',Q i' .normal a' w'->ZigC P main cs J Stop i' (b.at a' k) fs w')->ZigC P main cs J Stop i (b.at a (.code c::k)) fs w):wpM P main cs J Stop U fn c Q i a w:=λb k fs h1 h2 h3 hc=>h b k fs h1 h2 h3 λi' a' w' q=>hc i' .normal a' w' q
theorem SB{c:Code}(hJ:∀(fr:Frame) (fs:List Frame),J i fr fs w (λi' aZ bz a'=>R1 i' a'/\aZ=fr/\bz=fs/\R2 a'))(h:∀i' w',R1 i' w'->R2 w'->wpM P main cs J Stop U fn c Q i' a w'):wpM P main cs J Stop U fn c Q i a w:=λb k fs h1 h2 h3 hc=> .jump (hJ _ _) λi' aZ bz a' ⟨r1,e1,e2,r2⟩=>by subst e1 e2;exact h i' a' r1 r2 b k bz h1 h2 h3 hc
end
theorem GC(hP:d.P=prog){b:Frame}{ops:Array Oper}{id:Nat}{k:List Item}(hk:b.kind≠.early)(hs:cZ.size=2)
  (ho0:cZ[0]? =some o0)(hw0:Region.wanted o0 (yielded cZ a.tmps)=true)(tJ:∀w,(execOp a.eval o0).runT prog w #[]=(.ok (.value v) w,#[]))
  (ho1:cZ[1]? =some o1)(fE:Region.wanted o1 (yielded cZ (a.put o0.dst v).tmps)=true)(hr1:∀w,(execOp (a.put o0.dst v).eval o1).run prog w=.ok (.comm #[rcase d.come (.int .i64 0)] true (.recv false)) w)(VW:∀w,(execOp (a.put o0.dst v).eval o1).events prog w #[]=#[]):
  d.cc.Re 0 (Seat.one d.come (.int .i64 0) false λx=>x=bh (b.at (a.put o0.dst v) (.inRegion cZ [1]::k)) (fs++d.cs0)) 4 (bh (b.at a (.inRegion ops []:: .code (.region id cZ false)::k)) (fs++d.cs0)):=by
 refine .inl ⟨3,default,rfl,?_⟩;change Goes d.P true (RK d.K0) (DS (d.Sp 0) d.B) _ 3 (G (b.at a (.inRegion ops []:: .code (.region id cZ false)::k)) (fs++d.cs0)) default;rw[hP];k_c stepG_region_end
 k_in
 rw[stepG_region,hs];simp only[goes_go];refine⟨ds_none _,?_⟩
 k_in
 have hg:=stepG_oper (P:=prog) (main:=true) (b:=b) (a:=a) (k:=k) (cs:=fs++d.cs0) (w:=w₁) (rest:=[1]) ho0 hw0;have oT:((b.at a (.inRegion cZ [0,1]::k)).kind==CallKind.early)=false:=by show(b.kind==CallKind.early)=false;cases e:b.kind<;>first|rfl|exact absurd e hk
 have lS:(b.at a (.inRegion cZ [0,1]::k)).finish v=b.at (a.put o0.dst v) (.inRegion cZ [1]::k):=by rw[fy,ho0];rfl
 have h:=hg.trans (gL (fr:=b.at a (.inRegion cZ [0,1]::k)) (cs:=fs++d.cs0) oT (tJ w₁));rw[lS,show seen prog (b.at a (.inRegion cZ [0,1]::k)).fn #[] ++ #[]=#[]from by simp[seen]]at h;change (stepG prog true (G (b.at a (.inRegion cZ [0,1]::k)) (fs++d.cs0)) w₁).goes _;rw[show stepG prog true (G (b.at a (.inRegion cZ [0,1]::k)) (fs++d.cs0)) w₁=_ from h];simp only[goes_go];refine⟨ds_none _,?_⟩;refine eK (λw₂ h₂=>⟨bh (b.at (a.put o0.dst v) (.inRegion cZ [1]::k)) (fs++d.cs0),?_⟩);show AtIn d.P true _ _ _ _ (G (b.at (a.put o0.dst v) (.inRegion cZ [1]::k)) (fs++d.cs0)) (G (b.at (a.put o0.dst v) (.inRegion cZ [1]::k)) (fs++d.cs0));rw[hP];exact atIn_of ho1 fE hk (λw=>hr1 w) VW rfl
theorem SC(hP:d.P=prog){b:Frame}{ops:Array Oper}{id kk:Nat}{x y:Operand}{k:List Item}(hk:b.kind≠.early)(hs:cZ.size=2)
  (ho:ops[j]? =some o)(hw:Region.wanted o (yielded ops a.tmps)=true)(hop:o.op=.send x y)(hx:a.eval x=.chan (some (d.turn kk)))(hy:a.eval y=goInt ((t-d.base:Nat):Int))
  (ho0:cZ[0]? =some o0)(hw0:Region.wanted o0 (yielded cZ (a.put o.dst undef).tmps)=true)(tJ:∀w,(execOp (a.put o.dst undef).eval o0).runT prog w #[]=(.ok (.value v) w,#[]))
  (ho1:cZ[1]? =some o1)(fE:Region.wanted o1 (yielded cZ ((a.put o.dst undef).put o0.dst v).tmps)=true)(hr1:∀w,(execOp ((a.put o.dst undef).put o0.dst v).eval o1).run prog w=.ok (.comm #[rcase d.come (.int .i64 0)] true (.recv false)) w)(VW:∀w,(execOp ((a.put o.dst undef).put o0.dst v).eval o1).events prog w #[]=#[]):
  MSpot d kk t (b.at a (.inRegion ops [j]:: .code (.region id cZ false)::k)) fs (b.at ((a.put o.dst undef).put o0.dst v) (.inRegion cZ [1]::k)):=by
 refine⟨⟨bh (b.at (a.put o.dst undef) (.inRegion ops []:: .code (.region id cZ false)::k)) (fs++d.cs0),4,λr=>⟨rfl,bh (b.at a (.inRegion ops [j]:: .code (.region id cZ false)::k)) (fs++d.cs0),0,#[scase (d.turn kk) (goInt ((t-d.base:Nat):Int)) (.tuple #[])],.send,λw₁ _=>?_,⟨⟨.tuple #[],rfl⟩,λm cc hm hcc=>?_⟩,λw hw m b' z' h=>?_,?_⟩,GC hP hk hs ho0 hw0 tJ ho1 fE hr1 VW⟩⟩
 ·have hr:(execOp a.eval o).run prog w₁=.ok (.comm #[scase (d.turn kk) (goInt ((t-d.base:Nat):Int)) (.tuple #[])] true .send) w₁:=by simp[execOp,hop,hx,hy,scase]
  have he:(execOp a.eval o).events prog w₁ #[]=#[]:=by unfold execOp;simp only[hop];rfl
  have:=stepG_comm (P:=prog) (main:=true) (b:=b) (k:=.code (.region id cZ false)::k) (cs:=fs++d.cs0) (rest:=[]) ho hw hk hr;rw[show listed prog b.fn a o w₁=#[]from listed_none he]at this;show stepG d.P true _ _=_;rw[hP];exact this
 ·rcases m with _|m
  ·exact absurd rfl hm
  ·simp at hcc
 ·rcases m with _|m
  ·simp[scase,rcase]at h
  ·simp at h
 ·have e:Go.Conc.served (G (b.at a (.inRegion ops [j]:: .code (.region id cZ false)::k)) (fs++d.cs0)) undef=G (b.at (a.put o.dst undef) (.inRegion ops []:: .code (.region id cZ false)::k)) (fs++d.cs0):=by rw[served_G];simp[ho]
  exact e.symm
end
section
open Go Go.Conc Go.ConcN Go.RowKit
attribute [local go_sem] aF aG aT aD aO aW aA aB
def S2:ba:={L:=λg=>[119,118,148,120,149,78,70].contains g,C:=λg=>g==149,X:=λ_=>false,ft:=λf t=>(f==78&&(t==1||t==11)) ||(f==120&&t==68)}
theorem fH:Stat prog S2:=by
 have hL:∀g,S2.L g=true->g=119\/g=118\/g=148\/g=120\/g=149\/g=78\/g=70:=λg h=>by simpa[S2]using h
 refine⟨λ_=>⟨λ_ h=>bY,λ_ h=>bY,Fu rfl (λ_=>rfl) (λ_=>rfl)⟩,λg h=>?_,λg h=>?_,λg h=>?_⟩
 ·rcases hL g h with rfl|rfl|rfl|rfl|rfl|rfl|rfl
  ·exact⟨_,func119,rfl,rfl⟩
  ·exact⟨_,func118,rfl,rfl⟩
  ·exact⟨_,func148,rfl,rfl⟩
  ·exact⟨_,func120,rfl,rfl⟩
  ·exact⟨_,func149,rfl,rfl⟩
  ·exact⟨_,func78,rfl,rfl⟩
  ·exact⟨_,func70,rfl,rfl⟩
 ·simp only[S2,beq_iff_eq]at h;subst h;exact⟨az,λt=>by simp[S2]⟩
 ·rcases hL g h with rfl|rfl|rfl|rfl|rfl|rfl|rfl<;>kernel_rfl
theorem xT(f:Nat)(hf:f≠78/\f≠120)(t:Array Value):pY S2 f t:=λx h=>by simp[S2,hf.1,hf.2]at h
theorem l8(h:ds=[]):∀d∈ds,mK prog S2 d:=λd hd=>by subst h;cases hd
inductive Qv(cV:Value)(lb lc n come cb res ob sb rb:Nat)(most:Int):Act->Prop
 |mk (u4 u5 mF mG mb lr kE u16 ku kF kG kH mf mg u23 u24 mh u26 kI u28 kJ kK lu u32 u33 lx ly lz lA mi mj mD ny nz pq u44 pw nA nB nC nD nE nG nH si sj tS tT wK wL wM wN wO wP wQ u64 wR wT Gn Gp Gq BN BO BP Eb Ec Ed Ee Ef Gr Gs Gt Ky Kz KA KB KC KD KE KF KG KH KI KJ KL KM VX VY VZ V0 V2 Em En Eo Er Es Et:Value):Qv cV lb lc n come cb res ob sb rb most {tmps:=#[cV,.slice (some ⟨lb,0,none⟩) n lc,.chan (some come),.pointer (some ⟨cb,0,none⟩),u4,u5,.pointer (some ⟨res,0,none⟩),.int .i64 most,.pointer (some ⟨ob,0,none⟩),.slice (some ⟨sb,0,none⟩) n n,.pointer (some ⟨rb,0,none⟩),mF,mG,mb,lr,kE,u16,ku,kF,kG,kH,mf,mg,u23,u24,mh,u26,kI,u28,kJ,kK,lu,u32,u33,lx,ly,lz,lA,mi,mj,mD,ny,nz,pq,u44,pw,nA,nB,nC,nD,nE,nG,nH,si,sj,tS,tT,wK,wL,wM,wN,wO,wP,wQ,u64,wR,wT,Gn,Gp,Gq,BN,BO,BP,Eb,Ec,Ed,Ee,Ef,Gr,Gs,Gt,Ky,Kz,KA,KB,KC,KD,KE,KF,KG,KH,KI,KJ,KL,KM,VX,VY,VZ,V0,V2,Em,En,Eo,Er,Es,Et],defers:=[]}
structure PN where
 wk:Option Addr
 tu:Option Addr
 ha:Option Addr
 wc:Nat
 tc:Nat
 hc:Nat
 lb:Nat
 lc:Nat
 cb:Nat
 res:Nat
 ob:Nat
 sb:Nat
 rb:Nat
section
structure PSet(J:eM σ)(d:aK)(K:PN)(a0:World):Prop where
 n:J.n<=8
 lc:J.n<=K.lc
 lbl:K.lb<a0.heap.size
 cb:K.cb=a0.heap.size
 res:K.res=a0.heap.size+1
 ob:a0.heap.size+2<=K.ob
 sb:K.ob<K.sb
 rb:K.sb<K.rb
 W:∀i,i<J.n->d.W i<a0.heap.size
 l:∀i,i<J.n->a0.cell? ⟨K.lb,i,none⟩=some (.pointer (some ⟨d.W i,0,none⟩))/\∀k,k<J.n->K.lb≠d.W k
 h:∀i,i<J.c.halt.length->∃hb ho,K.ha=some ⟨hb,ho,none⟩/\a0.cell? ⟨hb,ho+i,none⟩=some (.int .i64 (J.c.halt.getD i 0))/\∀k,k<J.n->hb≠d.W k
def qY(n:Nat)(yS:Nat->Nat):Array Value:=Array.ofFn λi:Fin n=>Value.int .i64 (yS i.1)
structure PAt(J:eM σ)(d:aK)(K:PN)(a0:World)(t all:Nat)(cut:Bool)(yS:Nat->Nat)(left:List Int)(last:Int)(w:World):Prop where
 size:K.rb<w.heap.size
 old:∀(b:Nat) o,a0.heap[b]? =some o->o≠cI->(∀i,i<J.n->b≠d.W i)->w.heap[b]? =some o
 c:w.heap[K.cb]? =some (.cells (aC K.wk K.tu K.ha J.n K.wc J.c.turns.length K.tc J.c.halt.length K.hc J.c.until_) 25 (0,0))
 res:w.heap[K.res]? =some (.cells #[.slice none 0 0,.slice none 0 0,.int .i64 0,.bool false] 31 (0,0))
 r:w.heap[K.rb]? =some (.cells #[.slice none 0 0,.slice none 0 0,.int .i64 all,.bool cut] 31 (0,0))
 s:w.heap[K.sb]? =some (.cells (qY J.n yS) 3 (0,0))
 o:OrderAt w (a0.heap.size+2) K.ob left last
 eyes:∀i,i<J.n->w.cell? ⟨d.W i,2,none⟩=some (.chan (some (d.turn i)))/\w.cell? ⟨d.W i,10,none⟩=some (.bool (decide (i<t/\J.len i<=((J.ar t).w i).got.length)))
theorem gR{w:World}{x:Addr}(h:w.cell? x=some v):∃o,w.heap[x.block]? =some o/\o≠cI:=by
 unfold World.cell? at h;cases e:w.heap[x.block]? with
 |none=>rw[e]at h;simp at h
 |some o=>refine⟨o,rfl,λhp=>?_⟩;rw[e,hp]at h;simp[cI]at h
section
variable{K:PN}{w:World}{all acf:Nat}{cut acg:Bool}{ach:Nat->Nat}{left left':List Int}{last XG:Int}
theorem PAt.SG(P:PAt J d K a0 t all cut yS left last w){x:Addr}(h:a0.cell? x=some v)(hW:∀i,i<J.n->x.block≠d.W i):w.cell? x=some v:=by obtain⟨o,h1,h2⟩:=gR h;rw[←h];exact bP (w:=a0) (by rw[P.old _ o h1 h2 hW,h1])
theorem PAt.ll(P:PAt J d K a0 t all cut yS left last w)(H:PSet J d K a0)(i:Nat)(hi:i<J.n):w.cell? ⟨K.lb,i,none⟩=some (.pointer (some ⟨d.W i,0,none⟩)):=P.SG (H.l i hi).1 (H.l i hi).2
theorem PAt.hh(P:PAt J d K a0 t all cut yS left last w)(H:PSet J d K a0)(i:Nat)(hi:i<J.c.halt.length):∃hb ho,K.ha=some ⟨hb,ho,none⟩/\w.cell? ⟨hb,ho+i,none⟩=some (.int .i64 (J.c.halt.getD i 0)):=by obtain⟨hb,ho,h1,h2,h3⟩:=H.h i hi;exact⟨hb,ho,h1,P.SG h2 h3⟩
theorem GD{n:Nat}{i:Nat}(h:i<n):(qY n yS)[i]? =some (.int .i64 (yS i)):=by simp[qY,h]
theorem SH{n:Nat}{i:Nat}(h:i<n):(qY n yS).setIfInBounds i (.int .i64 ((yS i:Int) +1))=qY n λk=>if k=i then yS i+1 else yS k:=by
 apply Array.ext
 ·simp[qY]
 ·intro k h1 h2;simp only[qY,xN,Array.size_ofFn]at h1 h2;rw[Array.getElem_setIfInBounds (by simpa[qY]using h1)];simp only[qY,Array.getElem_ofFn];by_cases e:i=k
  ·subst e;simp
  ·rw[if_neg e,if_neg (bp e)]
theorem PAt.ss(P:PAt J d K a0 t all cut yS left last w)(i:Nat)(hi:i<J.n):w.cell? ⟨K.sb,i,none⟩=some (.int .i64 (yS i)):=by rw[af P.s];exact GD hi
theorem PAt.turn(P:PAt J d K a0 t all cut yS left last w)(H:PSet J d K a0)(hs:w.heap.size<=w'.heap.size)(ho:∀b,b<w.heap.size->b≠K.rb->b≠K.sb->b≠K.ob->w'.heap[b]? =w.heap[b]?)
  (hr:w'.heap[K.rb]? =some (.cells #[.slice none 0 0,.slice none 0 0,.int .i64 acf,.bool acg] 31 (0,0)))(hst:w'.heap[K.sb]? =some (.cells (qY J.n ach) 3 (0,0)))(ad9:OrderAt w' (a0.heap.size+2) K.ob left' XG):
  PAt J d K a0 t acf acg ach left' XG w':=by
 have hlt:∀b,b<a0.heap.size+2->w'.heap[b]? =w.heap[b]? :=λb hb=>ho b (by have:=P.size;have:=H.rb;have:=H.sb;have:=H.ob;omega) (by have:=H.rb;have:=H.sb;have:=H.ob;omega) (by have:=H.sb;have:=H.ob;omega) (by have:=H.ob;omega);refine⟨fp P.size hs,λb o h1 h2 h3=>?_,?_,?_,hr,hst,ad9,λi hi=>?_⟩
 ·have:=(aQ.1 h1).1;rw[hlt b ae];exact P.old b o h1 h2 h3
 ·rw[hlt K.cb (by rw[H.cb];omega)];exact P.c
 ·rw[hlt K.res (by rw[H.res];omega)];exact P.res
 ·obtain⟨h1,h2⟩:=P.eyes i hi;have hW:=H.W i hi;have e:=hlt (d.W i) ae;exact⟨by rw[←h1];exact bP (w:=w) e,by rw[←h2];exact bP (w:=w) e⟩
theorem OrderAt.same(O:OrderAt w lo ob left last)(h:∀b,lo<=b->b<=ob->w'.heap[b]? =w.heap[b]?)(hl:lo<=ob):OrderAt w' lo ob left last:=by obtain⟨la,lc,h1,h2,h3⟩:=O.ex;refine⟨la,lc,by rw[h ob hl (aY _)];exact h1,h2,λi hi=>?_⟩;obtain⟨tb,to,e,⟨h4,h5⟩,h6⟩:=h3 i hi;exact⟨tb,to,e,⟨h4,h5⟩,by rw[←h6];exact bP (w:=w) (h tb h4 (Nat.le_of_lt h5))⟩
theorem PAt.resume(P:PAt J d K a0 t all cut yS left last w)(H:PSet J d K a0)(hj:d.j=J.n)(hf:∀i,i<J.n->(⟨d.W i,2,none⟩,.chan (some (d.turn i)))∈d.facts i)(R:mN d (J.bE d.W) (λ_=>False) w t' w'):PAt J d K a0 t' all cut yS left last w':=by
 have hs:∀(b:Nat) o,w.heap[b]? =some o->o≠cI->(∀i,i<J.n->b≠d.W i)->w'.heap[b]? =some o:=λb o h1 h2 h3=>R.same b o h1 h2 (λi hi=>h3 i ae) id;have hne:∀b,a0.heap.size<=b->∀i,i<J.n->b≠d.W i:=λb hb i hi=>by have:=H.W i hi;omega
 have hcell:∀b c e f,a0.heap.size<=b->w.heap[b]? =some (.cells c e f)->w'.heap[b]? =some (.cells c e f):=λb c e f hb h=>hs b _ h aJ (hne b hb);have IG:a0.heap.size+2<=K.ob:=H.ob;refine⟨fp P.size R.size,λb o h1 h2 h3=>hs b o (P.old b o h1 h2 h3) h2 h3,hcell _ _ _ _ (by rw[H.cb];omega) P.c,hcell _ _ _ _ (by rw[H.res];omega) P.res,hcell _ _ _ _ (by have:=H.rb;have:=H.sb;omega) P.r,?_,?_,λi hi=>?_⟩
 ·exact hcell _ _ _ _ (by have:=H.sb;omega) P.s
 ·obtain⟨la,lc,h1,h2,h3⟩:=P.o.ex;refine⟨la,lc,hcell _ _ _ _ ae h1,h2,λi hi=>?_⟩;obtain⟨tb,to,e,⟨h4,h5⟩,h6⟩:=h3 i hi;obtain⟨o,h7,h8⟩:=gR h6;exact⟨tb,to,e,⟨h4,h5⟩,by rw[←h6];exact bP (w:=w) (by rw[hs tb o h7 h8 (hne tb ae),h7])⟩
 ·refine⟨R.facts i ae _ (hf i hi) rfl,?_⟩;obtain⟨r,hwr,⟨c,e,f,hc,_,hc'⟩,_⟩:=R.recs i ae;obtain⟨be,ow,sl,_,_,_,h10,_⟩:=hwr hi;rw[af hc]at h10;rw[af hc'];exact h10
end
end
end
section
open Go Go.Conc Go.ConcN Go.RowKit
attribute [local go_sem] aF aG aT aD aO aW aA aB
variable[Inhabited bO]
noncomputable def cz:Code:=(f75.body).getD .skip
noncomputable def jk:Code:=cz.r.r.r.r.r.r.l
noncomputable def dP:Code:=jk.l.l.l
noncomputable def dQ:Code:=cz.r.r.r.r.r.r.r
section
variable{K:PN}{w:World}{cut:Bool}
theorem eM.all(t:Nat):(J.ar t).all=t-J.n:=by unfold eM.ar;exact AR.Kd _ _ _ _
structure ky(J:eM σ)(d:aK)(K:PN)(a0:World)(t:Nat)(cut:Bool)(w:World):Prop where
 le:J.n<=t
 at_:PAt J d K a0 t (t-J.n) cut (J.ar t).steps (J.ar t).left (J.ar t).last w
def PN.cV(J:eM σ)(K:PN):Value:=.agg (aC K.wk K.tu K.ha J.n K.wc J.c.turns.length K.tc J.c.halt.length K.hc J.c.until_)
abbrev PN.Is(J:eM σ)(d:aK)(K:PN):Act->Prop:=Qv (K.cV J) K.lb K.lc J.n d.come K.cb K.res K.ob K.sb K.rb J.c.most
theorem KN(P:ky J d K a0 t cut w)(H:PSet J d K a0)(τ:Nat->Question->Nat):MI (w.tp τ) J.n K.lb K.sb d.W (λi=>decide (i<t/\J.len i<=((J.ar t).w i).got.length)) (J.ar t).steps K.ha J.c.halt:=⟨λi hi=>P.at_.ll H i hi,λi hi=>P.at_.ss i hi,λi hi=>(P.at_.eyes i hi).2,λi hi=>P.at_.hh H i hi⟩
theorem ZM(P:ky J d K a0 t cut w){r:Nat->Bool}(hr:∀k,r k=(!decide (k<t/\J.len k<=((J.ar t).w k).got.length) &&!decide (0<J.c.halt.getD k 0/\J.c.halt.getD k 0<=((J.ar t).steps k:Int)))):
  readyL r J.n=(J.ar t).who J.c/\BS r J.n=(J.ar t).any J.c/\∀k,k<J.n->r k=(J.ar t).ready J.c k:=by
 have hk:∀k,k<J.n->r k=(J.ar t).ready J.c k:=λk hk=>by rw[hr];unfold AR.ready bq.halted eM.len;have:k<t:=fp hk P.le;simp only[this,true_and];congr 1;rw[←decide_not];congr 1;simp
 have h1:readyL r J.n=(J.ar t).who J.c:=by unfold readyL AR.who;exact List.filter_congr λx hx=>hk x (mJ.1 hx)
 refine⟨h1,?_,hk⟩;unfold AR.any;rw[←h1];unfold BS readyL;cases e:(List.range J.n).any r with
 |true=>
  obtain⟨x,h2,h3⟩:=List.any_eq_true.1 e;have:x∈(List.range J.n).filter r:=List.mem_filter.2 ⟨h2,h3⟩;cases e2:(List.range J.n).filter r with
  |nil=>rw[e2]at this;cases this
  |cons y ys=>rfl
 |false=>
  have:(List.range J.n).filter r=[]:=List.filter_eq_nil_iff.2 λx hx h=>by have:(List.range J.n).any r=true:=List.any_eq_true.2 ⟨x,hx,h⟩;rw[e]at this;cases this
  rw[this];rfl
theorem OD{Stop:Ph->Frame->List Frame->World->Prop}(hcs:NE cs0)(H:PSet J d K a0)(hA:K.Is J d a)(P:ky J d K a0 t cut w):
  wpM prog true cs0 (JP prog S cs0 λd=>J.bE d.W) Stop U 75 dP.l (λi' e a' w'=>e=.normal/\i'=.run t d/\K.Is J d a'/\ky J d K a0 t cut w'/\a'.eval (.tmp 12)=.bool ((J.ar t).any J.c)/\
   ∃gb,gb≠K.rb/\a'.eval (.tmp 11)=.slice (some ⟨gb,0,none⟩) J.n J.n/\∀i,i<J.n->w'.cell? ⟨gb,i,none⟩=some (.bool ((J.ar t).ready J.c i))) (.run t d) a w:=by
 have hR:=λτ=>KN P H τ;have q:∀o v,(aC K.wk K.tu K.ha J.n K.wc J.c.turns.length K.tc J.c.halt.length K.hc J.c.until_)[o]? =some v->w.cell? ⟨K.cb,o,none⟩=some v:=λo v h=>by rw[af P.at_.c];exact h
 have q0:=q 0 _ rfl;have q1:=q 1 _ rfl;have q2:=q 2 _ rfl;have q3:=q 3 _ rfl;clear q;have HP:=ai P;have HH:=ai H;have hn:=H.n;have hlc:=H.lc;clear P H;unfold PN.Is at hA;unfold PN.Is;generalize UJ:K.cV J=cV at*;unfold PN.cV at UJ;obtain⟨wk,tu,ha,wc,tc,hc,lb,lc,cb,res,ob,sb,rb⟩:=K;simp only at*;cases hA;simp only[dP,jk,cz,f75,Code.l,Code.r,bJ];refine wpM_lone fH hcs ax (l8 rfl) (xT _ az _) (λτ=>?_);have hR:=hR τ;have HR:=ai hR;clear hR;go_wp2_with (go_at_call 119;refine(Oz J.n lb lc sb J.n J.n wc J.c.turns.length tc hc wk tu ha J.c.halt J.c.until_ d.W _ _ (w.tp τ) hn hlc HR.out).mono ?_;rintro e w1 ⟨r,hr,rfl,h1,h2,h3,h4,h5⟩)
 obtain⟨e1,e2,e3⟩:=ZM HP.out hr;have P:=HP.out.at_;have H:=HH.out;have hold:∀b,b<w.heap.size->w1.heap[b]? =w.heap[b]? :=h2;have hp:=P.size;have hsz:w1.heap.size=w.heap.size+2:=h1;have h6:=H.rb;have h7:=H.sb;simp only at hp h6 h7;refine⟨w1,⟨rfl,rfl,rfl⟩,Qv.mk ..,⟨HP.out.le,P.turn H ae (λb hb _ _ _=>hold b hb) (by rw[hold _ hp];exact P.r) (by rw[hold _ kT];exact P.s) (P.o.same (λb _ hb=>hold b (by simp only at hb;omega)) H.ob)⟩,e2,_,ae,rfl,λi hi=>?_⟩;have h3':w1.heap[w.heap.size+1]? =some (Obj.cells (vp J.n J.n r) 4 (0,0)):=h3;rw[af h3',Gz _ _ _ _ hi,e3 i hi];simp[hi]
theorem OE{Stop:Ph->Frame->List Frame->World->Prop}(hcs:NE cs0)(hsm:J.c.most<=20000)(H:PSet J d K a0)(hA:K.Is J d a)(P:ky J d K a0 t cut w)(ZN:a.eval (.tmp 12)=.bool ((J.ar t).any J.c))(h11:a.eval (.tmp 11)=.slice (some ⟨gb,0,none⟩) J.n J.n)
   (hno:(J.ar t).goes J.c=false->∀a' w',K.Is J d a'->ky J d K a0 t ((J.ar t).any J.c) w'->Q (.run t d) (.exit 0) a' w')
  (hyes:(J.ar t).goes J.c=true->∀a' w',K.Is J d a'->ky J d K a0 t ((J.ar t).any J.c) w'->(∀b,b≠K.rb->w'.heap[b]? =w.heap[b]?)->a'.eval (.tmp 11)=.slice (some ⟨gb,0,none⟩) J.n J.n->wpM prog true cs0 (JP prog S cs0 λd=>J.bE d.W) Stop U 75 dP.r.r.r Q (.run t d) a' w'):
  wpM prog true cs0 (JP prog S cs0 λd=>J.bE d.W) Stop U 75 dP.r Q (.run t d) a w:=by
 have q0:=cO P.at_.r 2;have q1:=cO P.at_.r 3;have z1:=zO P.at_.r 3;have W6:ky J d K a0 t ((J.ar t).any J.c) (w.setCell ⟨K.rb,3,none⟩ (.bool ((J.ar t).any J.c))):=by have h6:=H.rb;have h7:=H.sb;refine⟨P.le,P.at_.turn H gF (λb _ h1 _ _=>ah h1 _) (by rw[aq P.at_.r];rfl) (by rw[ah ae];exact P.at_.s) (P.at_.o.same (λb _ hb=>ah ae _) H.ob)⟩
 have bT:∀b,b≠K.rb->(w.setCell ⟨K.rb,3,none⟩ (.bool ((J.ar t).any J.c))).heap[b]? =w.heap[b]? :=λb h=>ah h _;have hg:(J.ar t).goes J.c=((J.ar t).any J.c&&decide (t-J.n<J.c.most)):=by unfold AR.goes;rw[eM.all]
 have HP:=ai W6;have HO:=ai bT;have HN:=ai hno;have HY:=ai hyes;have HG:=ai hg;clear P H W6 bT hno hyes hg;unfold PN.Is at hA HN HY;generalize UJ:K.cV J=cV at*;generalize Sz:(J.ar t).any J.c=any at*;obtain⟨wk,tu,ha,wc,tc,hc,lb,lc,cb,res,ob,sb,rb⟩:=K;simp only at*;cases hA;simp only[Act.eval,cE]at h11 ZN;simp only[jh,ma,mP,bJ]at h11 ZN;subst h11 ZN;simp only[dP,jk,cz,f75,Code.l,Code.r,bJ]at HY⊢;refine VG λτ=>?_;cases any with
 |false=>refine l2y λτ=>?_;refine aH (t:=true) cC (fY ?_);simp only[Exit.then];exact HN.out (by rw[HG.out];rfl) _ _ (Qv.mk ..) HP.out
 |true=>
  by_cases hlt:t-J.n<J.c.most
  ·have hd:decide (((J.c.most:Nat):Int)<=((t-J.n:Nat):Int))=false:=bV;refine l2y λτ=>?_;refine aH (t:=false) (by simp[Act.eval];try omega) (dm ?_);simp only[Exit.then];exact HY.out (by rw[HG.out];simp[hlt]) _ _ (Qv.mk ..) HP.out HO.out rfl
  ·have hd:decide (((J.c.most:Nat):Int)<=((t-J.n:Nat):Int))=true:=bV;refine l2y λτ=>?_;refine aH (t:=true) (by simp[Act.eval];try omega) (fY ?_);simp only[Exit.then];exact HN.out (by rw[HG.out];simp[hlt]) _ _ (Qv.mk ..) HP.out
end
section
variable{K:PN}{w:World}{cut:Bool}
theorem AR.SI(L:Lay σ)(c:bq)(s:σ)(t i:Nat):(AR.at L c s t).steps i<=t:=by
 induction t with
 |zero=>exact aY _
 |succ t ih=>
  show(if i=(AR.at L c s t).pick c then(AR.at L c s t).steps ((AR.at L c s t).pick c) +1 else(AR.at L c s t).steps i)<=t+1;by_cases e:i=(AR.at L c s t).pick c
  ·rw[if_pos e,←e];omega
  ·rw[if_neg e];omega
theorem eM.steps(J:eM σ)(t i:Nat):(J.ar t).steps i<=t-J.n:=AR.SI _ _ _ _ _
abbrev PGive(J:eM σ)(d:aK)(K:PN)(a0:World)(t:Nat)(cut:Bool)(w:World):Prop:=PAt J d K a0 t (t-J.n+1) cut (λi=>if i=(J.ar t).pick J.c then(J.ar t).steps ((J.ar t).pick J.c) +1 else(J.ar t).steps i) (J.ar t).left.tail (((J.ar t).pick J.c:Nat):Int) w
theorem KO{Stop:Ph->Frame->List Frame->World->Prop}(hcs:NE cs0)(hsm:J.c.most<=20000)(H:PSet J d K a0)(hA:K.Is J d a)(P:ky J d K a0 t cut w)(hgo:(J.ar t).goes J.c=true)(h11:a.eval (.tmp 11)=.slice (some ⟨gb,0,none⟩) J.n J.n)
  (hg:∀i,i<J.n->w.cell? ⟨gb,i,none⟩=some (.bool ((J.ar t).ready J.c i)))
  (hQ:∀a' w',K.Is J d a'->PGive J d K a0 t cut w'->a'.eval (.tmp 13)=.int .i64 (((J.ar t).pick J.c:Nat):Int)->wpM prog true cs0 (JP prog S cs0 λd=>J.bE d.W) Stop U 75 dP.r.r.r.r.r.r Q (.run t d) a' w'):
  wpM prog true cs0 (JP prog S cs0 λd=>J.bE d.W) Stop U 75 dP.r.r.r Q (.run t d) a w:=by
 have Rq:(J.ar t).pick J.c<J.n:=AR.yP hgo;have hlt:t-J.n<J.c.most:=by have:=hgo;unfold AR.goes at this;simp only[bK,decide_eq_true_eq,eM.all]at this;exact this.2
 have Ro:readyL ((J.ar t).ready J.c) J.n=(J.ar t).who J.c:=rfl;have Sz:0< (readyL ((J.ar t).ready J.c) J.n).length:=by rw[Ro];have:=hgo;unfold AR.goes AR.any at this;simp only[bK,uF,List.isEmpty_eq_false_iff]at this;exact List.length_pos_iff.2 this.1
 have uV:=λτ=>pick_any (a0.heap.size+2) K.ob gb J.n J.n (J.ar t).left (J.ar t).last ((J.ar t).ready J.c) (w.tp τ) H.n ⟨P.at_.o.ex⟩ Sz hg;have hst:=J.steps t ((J.ar t).pick J.c);rw[Ro,show pO (J.ar t).left (J.ar t).last ((J.ar t).who J.c)=(J.ar t).pick J.c from rfl]at uV;have hend:∀w1:World,w.heap.size<=w1.heap.size->(∀b,b<w.heap.size->b≠K.ob->w1.heap[b]? =w.heap[b]?)->OrderAt w1 (a0.heap.size+2) K.ob (J.ar t).left.tail (((J.ar t).pick J.c:Nat):Int)->
   (w1.cell? ⟨K.rb,2,none⟩=some (.int .i64 ((t-J.n:Nat):Int))/\w1.frozen? ⟨K.rb,2,none⟩=false/\w1.cell? ⟨K.sb,(J.ar t).pick J.c,none⟩=some (.int .i64 ((J.ar t).steps ((J.ar t).pick J.c)))/\w1.frozen? ⟨K.sb,(J.ar t).pick J.c,none⟩=false/\K.sb≠K.rb)/\
   PGive J d K a0 t cut ((w1.setCell ⟨K.rb,2,none⟩ (.int .i64 (((t-J.n:Nat):Int) +1))).setCell ⟨K.sb,(J.ar t).pick J.c,none⟩ (.int .i64 (((J.ar t).steps ((J.ar t).pick J.c):Int) +1))):=λw1 hs ho hO=>by
  have h6:=H.rb;have h7:=H.sb;have h8:=P.at_.size;have hr1:w1.heap[K.rb]? =some (.cells #[.slice none 0 0,.slice none 0 0,.int .i64 ((t-J.n:Nat):Int),.bool cut] 31 (0,0)):=by rw[ho _ ae ae];exact P.at_.r
  have hs1:w1.heap[K.sb]? =some (.cells (qY J.n (J.ar t).steps) 3 (0,0)):=by rw[ho _ ae ae];exact P.at_.s
  refine⟨⟨by rw[af hr1];rfl,ay hr1 _ (bj _),by rw[af hs1];exact GD Rq,ay hs1 _ (bj _),ae⟩,?_⟩;refine P.at_.turn H (by simpa[World.setCell]using hs) (λb hb h1 h2 h3=>by rw[ah h2,ah h1];exact ho b hb h3) ?_ ?_ (hO.same (λb _ hb=>by rw[ah ae,ah ae]) H.ob)
  ·rw[ah ae,aq hr1];rfl
  ·rw[aq (by rw[ah ae];exact hs1),SH Rq]
 have HP:=ai P;have HH:=ai H;have HE:=ai hend;have HK:=ai uV;have HQ:=ai hQ;have hn:=H.n;clear P H hend uV hQ hg hgo Ro Sz;unfold PN.Is at hA HQ;generalize UJ:K.cV J=cV at*;generalize Qo:(J.ar t).pick J.c=k at*;generalize hsk:(J.ar t).steps k=sk at*;obtain⟨wk,tu,ha,wc,tc,hc,lb,lc,cb,res,ob,sb,rb⟩:=K;simp only at*;cases hA;simp only[Act.eval,cE]at h11;simp only[jh,ma,mP,bJ]at h11;subst h11;have afO:k<J.n:=Rq;have fE:IntKind.i64.wrap (((t-J.n:Nat):Int) +1)=((t-J.n:Nat):Int) +1:=by rw[dR];omega
 have hw2:IntKind.i64.wrap ((sk:Int) +1)=(sk:Int) +1:=by rw[dR];omega
 simp only[dP,jk,cz,f75,Code.l,Code.r,bJ]at HQ⊢;refine wpM_seq (wpM_lone fH hcs ax (l8 rfl) (xT _ az _) (λτ=>?_));have HK:=ai (HK.out τ);go_wp2_with (go_at_call 120;refine HK.out.mono ?_;rintro e w1 ⟨rfl,hO,h1,h2,h4,h5⟩)
 have HW:=ai (HE.out w1 h1 h2 hO);clear h1 h2 hO h4 h5;refine⟨w1,⟨rfl,rfl,rfl⟩,?_⟩;try simp only[Exit.then]
 obtain⟨⟨q0,z0,q1,z1,hne⟩,-⟩:=HW.out;iterate 2
  refine VG λτ=>?_
 exact HQ.out _ _ (Qv.mk ..) HW.out.2 rfl
end
end
section
open Go Go.Conc Go.ConcN Go.RowKit
attribute [local go_sem] aF aG aT aD aO aW aA aB
section
variable{K:PN}{w:World}{cut:Bool}
def Eu(lb lc n k W turn rb all:Nat):Nat->Value
 |0=>.slice (some ⟨lb,0,none⟩) n lc
 |1=>.int .i64 k
 |2=>.pointer (some ⟨lb,k,none⟩)
 |3=>.pointer (some ⟨W,0,none⟩)
 |4=>.pointer (some ⟨W,0,none⟩)
 |5=>.pointer (some ⟨W,2,none⟩)
 |6=>.chan (some turn)
 |7=>.pointer (some ⟨rb,2,none⟩)
 |_=>.int .i64 all
theorem wX{w:World}(h:w1.heap=w.heap)(x:Addr):w1.cell? x=w.cell? x:=by simp only[World.cell?,h]
theorem ZO{n:Nat}(w1:World)(hk:k<n)(hn:n<=8):Sem.run prog (Instr.indexAt 166 (.slice (some ⟨lb,0,none⟩) n lc) (.int .i64 (k:Int))) w1=.ok (.pointer (some ⟨lb,k,none⟩)) w1:=by have h0:(0:Int)<=(k:Int)/\(k:Int) < (n:Int):=⟨ae,ae⟩;simp[Instr.indexAt,asIntOf,go_sem,h0];intro h;omega
theorem GF{cV:Value}{n res W turn all:Nat}{most:Int}(hA:Qv cV lb lc n come cb res ob sb rb most a)(XH:a.eval (.tmp 13)=.int .i64 (k:Int))(hk:k<n)(hn:n<=8)(hlc:n<=lc)
  (hl:w.cell? ⟨lb,k,none⟩=some (.pointer (some ⟨W,0,none⟩)))(hW:w.cell? ⟨W,2,none⟩=some (.chan (some turn)))(hr:w.cell? ⟨rb,2,none⟩=some (.int .i64 (all:Int))){id:Nat}{ops:Array Oper}(bC:dP.r.r.r.r.r.r.l=.region id ops true):
  Script prog S2 75 ops 9 (λi=>56+i) (Eu lb lc n k W turn rb all) a w:=by
 have h1:a.tmps.getD 1 undef=.slice (some ⟨lb,0,none⟩) n lc:=by cases hA;rfl
 have h10:a.tmps.getD 10 undef=.pointer (some ⟨rb,0,none⟩):=by cases hA;rfl
 have XH:a.tmps.getD 13 undef=.int .i64 (k:Int):=XH;have hsz:a.tmps.size=106:=by cases hA;rfl
 clear hA;simp only[dP,jk,cz,f75,Code.l,Code.r,bJ,Code.region.injEq]at bC;obtain⟨-,bC,-⟩:=bC;subst bC;have split:∀{P:Nat->Oper->Prop} {ops:Array Oper} (n:Nat),(∀i:Fin n,∀o,ops[i.1]? =some o->P i.1 o)->∀(i:Nat) (o:Oper),i<n->ops[i]? =some o->P i o:=λn h i o hi ho=>h ⟨i,hi⟩ o ho;refine⟨az,?_,?_,λi j _ _ h=>by simpa using h,λi hi=>by rw[hsz];omega,?_,?_,λt=>by simp[S2],?_,λt o ht ho=>?_,ax,?_⟩
 ·intro i o ho;have hi:=(aQ.1 ho).1;simp only[jC,ew,fS]at hi;match i,hi with
  |0,_|1,_|2,_|3,_|4,_|5,_|6,_|7,_|8,_|9,_=>(obtain rfl:=aP ho;simp)
 ·intro i o hi ho;match i,hi with
  |0,_|1,_|2,_|3,_|4,_|5,_|6,_|7,_|8,_=>(obtain rfl:=aP ho;rfl)
 ·intro i o hi ho;match i,hi with
  |0,_|1,_|2,_|3,_|4,_|5,_|6,_|7,_|8,_=>(obtain rfl:=aP ho;rfl)
 ·intro i o hi ho;match i,hi with
  |0,_|1,_|2,_|3,_|4,_|5,_|6,_|7,_|8,_=>(obtain rfl:=aP ho;show eV prog S2 _ _=true;kernel_rfl)
 ·intro i o a' hi ho gv bT;refine .inl λτ dd=>?_;have fE:(w.td τ dd).heap=w.heap:=rfl;generalize w.td τ dd=w1 at*;have e1:a'.tmps.getD 1 undef=.slice (some ⟨lb,0,none⟩) n lc:=by rw[bT 1 (λj hj=>ae)];exact h1
  have e10:a'.tmps.getD 10 undef=.pointer (some ⟨rb,0,none⟩):=by rw[bT 10 (λj hj=>ae)];exact h10
  have e13:a'.tmps.getD 13 undef=.int .i64 (k:Int):=by rw[bT 13 (λj hj=>ae)];exact XH
  have f1:=(wX fE ⟨lb,k,none⟩).trans hl;have f2:=(wX fE ⟨W,2,none⟩).trans hW;have f3:=(wX fE ⟨rb,2,none⟩).trans hr;clear bT h1 h10 XH hl hW hr;match i,hi with
  |0,_|1,_|2,_|3,_|4,_|5,_|6,_|7,_|8,_=>
   obtain rfl:=aP ho
   (try simp[Region.binds,Eu]at gv)
   simp[execOp,go_sem,Act.eval,cE,Eu]at*;simp[*,ZO w1 hk hn]
 ·have:=(aQ.1 ho).1;simp only[jC,ew,fS]at this;omega
 ·intro listed hc hd;have c9:=hd _ rfl;have c8:=hc 8 _ ae rfl;have c6:=hc 6 _ ae rfl;have c5:=hc 5 _ ae rfl;have c4:=hc 4 _ ae rfl;have c3:=hc 3 _ ae rfl;have c2:=hc 2 _ ae rfl;clear hc hd;simp[Region.binds]at c9 c8 c6 c5 c4 c3 c2;obtain⟨d6,d8⟩:=c9;have d7:=c8 d8;have d5:=c6 d6;have d4:=c5 d5;have d3:=c4 d4;have d2:=c3 d3;obtain⟨d0,d1⟩:=c2 d2;intro i hi;match i,hi with
  |0,_|1,_|2,_|3,_|4,_|5,_|6,_|7,_|8,_=>(simp[cE];assumption)
end
end
section
open Go Go.Conc Go.ConcN Go.RowKit
attribute [local go_sem] aF aG aT aD aO aW aA aB
variable[Inhabited bO]
section
variable{K:PN}{w:World}{cut:Bool}
structure OG(J:eM σ)(d:aK):Prop where
 P:d.P=prog
 base:d.base=J.n
 j:d.j=J.n
 facts:∀i,i<J.n->(⟨d.W i,2,none⟩,.chan (some (d.turn i)))∈d.facts i
theorem PGive.next(P:PGive J d K a0 t cut w)(hle:J.n<=t)(H:PSet J d K a0)(B:OG J d)(R:mN d (J.bE d.W) (λ_=>False) w (t+1) w'):ky J d K a0 (t+1) cut w':=by have h:=PAt.resume P H B.j B.facts R;refine⟨ae,?_⟩;rw[J.yO hle,show t+1-J.n=t-J.n+1 by omega];exact⟨h.size,h.old,h.c,h.res,h.r,h.s,h.o,λi hi=>h.eyes i hi⟩
theorem KP{Stop:Ph->Frame->List Frame->World->Prop}(H:PSet J d K a0)(B:OG J d)(hA:K.Is J d a)(hle:J.n<=t)(P:PGive J d K a0 t cut w)(hgo:(J.ar t).goes J.c=true)(XH:a.eval (.tmp 13)=.int .i64 (((J.ar t).pick J.c:Nat):Int))
   (hQ:∀a' w',K.Is J d a'->ky J d K a0 (t+1) cut w'->Q (.run (t+1) d) .normal a' w'):
  wpM prog true d.cs0 (JP prog S d.cs0 λd=>J.bE d.W) Stop U 75 dP.r.r.r.r.r.r Q (.run t d) a w:=by
 have Rq:(J.ar t).pick J.c<J.n:=AR.yP hgo;have hN:=λw' R=>PGive.next P hle H B (w':=w') R;have hl:=P.ll H _ Rq;have hW:=(P.eyes _ Rq).1;have hr:=cO P.r 2;have oq:(J.bE d.W).live ((J.ar t).pick J.c) t:=by
  refine⟨ae,?_⟩;have hm:(J.ar t).pick J.c∈(J.ar t).who J.c:=by have:=AR.Gj hgo;exact this
  unfold AR.who at hm;have:=(List.mem_filter.1 hm).2;unfold AR.ready at this;simp only[bK,decide_eq_true_eq]at this;exact this.1
 have wE:(J.bE d.W).sched (t+1)=(J.ar t).pick J.c:=by show(if t+1<=J.n then t+1-1 else(J.ar (t+1-1)).pick J.c)=_;rw[if_neg ae];rfl
 have Ga:(J.bE d.W).may (t+1):=hgo;refine Kw λb k fs hfn FL hu hnext=>?_;have hseq:dP.r.r.r.r.r.r=.seq dP.r.r.r.r.r.r.l dP.r.r.r.r.r.r.r:=by simp only[dP,jk,cz,f75,Code.l,Code.r,bJ]
 obtain⟨id,ops,yA⟩:∃id ops,dP.r.r.r.r.r.r.l=.region id ops true:=by simp only[dP,jk,cz,f75,Code.l,Code.r,bJ];exact⟨_,_,rfl⟩
 have aci:=GF (w:=w) hA XH Rq H.n H.lc hl hW hr yA;rw[hseq];refine .pure (λ_=>stepG_seq) ?_;rw[yA];refine xX fH FL ax (by rw[hfn];exact aci) ?_;have IE:b.kind≠.early:=by rw[FL];decide
 have HQ:=ai hQ;have HN:=ai hN;have HX:=ai hnext;have hP:=B.P;have hbase:=B.base;have hj:(J.ar t).pick J.c<d.j:=by rw[B.j];exact Rq
 clear hQ hN hnext P H aci hseq hl hr hW B hgo hfn hu;unfold PN.Is at hA HQ;generalize UJ:K.cV J=cV at*;generalize Qo:(J.ar t).pick J.c=kk at*;obtain⟨wk,tu,ha,wc,tc,hc,lb,lc,cb,res,ob,sb,rb⟩:=K;simp only at*;have WZ:a.defers=[]:=by cases hA;rfl
 cases hA;simp only[dP,jk,cz,f75,Code.l,Code.r,bJ,Code.region.injEq]at yA⊢;obtain⟨-,bC,-⟩:=yA;subst bC;simp only[Script.tmps,List.range,List.range.loop,sH,List.foldl_nil,Nat.reduceAdd,Eu];walk_nrm;refine .jump (K:=λi' aZ bz a'=>∃t' d',i'=.run t' d'/\((t',d')=(t+1,d)/\(∃v,aZ=Frame.finish _ v)/\bz=fs/\mN d (J.bE d.W) (λ_=>False) w (t+1) a')) (.inl ⟨_,.inl ⟨kk,_,hj,oq,wE,Ga,SC hP (v:=.chan (some d.come)) (x:=.tmp 62) (y:=.tmp 64) IE rfl rfl rfl rfl cC (by simp[Act.eval,goInt,hbase];omega) rfl rfl (λw=>by simp[go_sem,execOp,Act.eval,Act.put]) rfl rfl (λw=>by simp[go_sem,execOp,Act.eval,Act.put,rcase]) (λw=>by simp[go_sem,execOp,Act.eval,Act.put]),rfl⟩,rfl⟩) ?_;rintro i' aZ bz a' ⟨t',d',rfl,h1,⟨v,rfl⟩,rfl,hR⟩;simp only[Prod.mk.injEq]at h1;obtain⟨rfl,rfl⟩:=h1;rw[fy];walk_nrm;exact .pure (λ_=>stepG_region_end) (HX.out _ _ _ (HQ.out _ _ (Qv.mk ..) (HN.out _ hR)))
end
end
section
open Go Go.Conc Go.ConcN Go.RowKit
variable[Inhabited bO]
section
variable{K:PN}{w:World}{cut:Bool}
theorem OH:jk=.block 0 (.loop (.block 1 dP)):=by simp only[dP,jk,cz,f75,Code.l,Code.r,bJ]
theorem OI:dP=.seq dP.l dP.r:=by simp only[dP,jk,cz,f75,Code.l,Code.r,bJ]
theorem KQ{Stop:Ph->Frame->List Frame->World->Prop}(hcs:NE (d.cs0))(hsm:J.c.most<=20000)(H:PSet J d K a0)(B:OG J d)(hA:K.Is J d a)(P:ky J d K a0 t cut w)(ht:t<=J.n+J.c.most):
  wpM prog true d.cs0 (JP prog S d.cs0 λd=>J.bE d.W) Stop U 75 jk (λi' e a' w'=>e=.normal/\∃t',i'=.run t' d/\(J.ar t').goes J.c=false/\K.Is J d a'/\ky J d K a0 t' ((J.ar t').any J.c) w'/\t'<=J.n+J.c.most) (.run t d) a w:=by
 rw[OH];refine bt (fZ (λn i a w=>∃t cut,n=J.n+J.c.most-t/\i=.run t d/\K.Is J d a/\ky J d K a0 t cut w/\t<=J.n+J.c.most) (n:=J.n+J.c.most-t) ⟨t,cut,rfl,rfl,hA,P,ht⟩ ?_);rintro n i a w ⟨t,cut,rfl,rfl,hA,P,ht⟩;refine bt ?_;rw[OI];refine wpM_seq (di (OD hcs H hA P) ?_);rintro i' e a1 w1 ⟨rfl,rfl,F7,P1,ZN,gb,hgb,h11,hg⟩;simp only[Exit.then];refine OE hcs hsm H F7 P1 ZN h11 (λhno a2 w2 qI P2=>?_) λhgo a2 w2 qI P2 hsame aea=>?_
 ·simp only[Exit.inBlock,Exit.then];exact⟨by trivial,t,rfl,hno,qI,P2,ht⟩
 ·refine KO hcs hsm H qI P2 hgo aea (λi hi=>?_) λa3 w3 CV P3 XH=>?_
  ·rw[←hg i hi];exact bP (w:=w1) (hsame gb hgb)
  ·refine KP H B CV P2.le P3 hgo XH λa4 w4 KS P4=>?_;simp only[Exit.inBlock,Exit.then];have hlt:t-J.n<J.c.most:=(by have:=hgo;unfold AR.goes at this;simp only[bK,decide_eq_true_eq,eM.all]at this;exact this.2);have:=P2.le;exact⟨J.n+J.c.most- (t+1),ae,t+1,_,rfl,rfl,KS,P4,ae⟩
end
end
section
open Go Go.Conc Go.ConcN Go.RowKit
inductive GG(lb lc n res rb q k W:Nat):Act->Prop
 |mk (u0 u2 u3 u4 u5 u7 u8 u9 mF mG mb u16 ku kF kG kH mf mg u23 u24 mh u26 kI u28 kJ kK lu u32 u33 lx ly lz lA mi mj mD ny nz pq u44 pw nA nB nC nD nE nG nH si sj tS tT wK wL wM wN wO wP wQ u64 wR wT BN BO BP Eb Ec Ed Ee Ef Gr Gs Gt Ky Kz KA KB KC KD KE KF KG KH KI KJ KL KM VX VY VZ V0 V2 Em En Eo Er Es Et:Value):GG lb lc n res rb q k W {tmps:=#[u0,.slice (some ⟨lb,0,none⟩) n lc,u2,u3,u4,u5,.pointer (some ⟨res,0,none⟩),u7,u8,u9,.pointer (some ⟨rb,0,none⟩),mF,mG,mb,.int .i64 k,.pointer (some ⟨W,0,none⟩),u16,ku,kF,kG,kH,mf,mg,u23,u24,mh,u26,kI,u28,kJ,kK,lu,u32,u33,lx,ly,lz,lA,mi,mj,mD,ny,nz,pq,u44,pw,nA,nB,nC,nD,nE,nG,nH,si,sj,tS,tT,wK,wL,wM,wN,wO,wP,wQ,u64,wR,wT,.slice (some ⟨lb,0,none⟩) n lc,.int .i64 n,.int .i64 q,BN,BO,BP,Eb,Ec,Ed,Ee,Ef,Gr,Gs,Gt,Ky,Kz,KA,KB,KC,KD,KE,KF,KG,KH,KI,KJ,KL,KM,VX,VY,VZ,V0,V2,Em,En,Eo,Er,Es,Et],defers:=[]}
inductive wY(lb lc n res rb q:Nat):Act->Prop
 |mk (u0 u2 u3 u4 u5 u7 u8 u9 mF mG mb lr kE u16 ku kF kG kH mf mg u23 u24 mh u26 kI u28 kJ kK lu u32 u33 lx ly lz lA mi mj mD ny nz pq u44 pw nA nB nC nD nE nG nH si sj tS tT wK wL wM wN wO wP wQ u64 wR wT BN BO BP Eb Ec Ed Ee Ef Gr Gs Gt Ky Kz KA KB KC KD KE KF KG KH KI KJ KL KM VX VY VZ V0 V2 Em En Eo Er Es Et:Value):wY lb lc n res rb q {tmps:=#[u0,.slice (some ⟨lb,0,none⟩) n lc,u2,u3,u4,u5,.pointer (some ⟨res,0,none⟩),u7,u8,u9,.pointer (some ⟨rb,0,none⟩),mF,mG,mb,lr,kE,u16,ku,kF,kG,kH,mf,mg,u23,u24,mh,u26,kI,u28,kJ,kK,lu,u32,u33,lx,ly,lz,lA,mi,mj,mD,ny,nz,pq,u44,pw,nA,nB,nC,nD,nE,nG,nH,si,sj,tS,tT,wK,wL,wM,wN,wO,wP,wQ,u64,wR,wT,.slice (some ⟨lb,0,none⟩) n lc,.int .i64 n,.int .i64 q,BN,BO,BP,Eb,Ec,Ed,Ee,Ef,Gr,Gs,Gt,Ky,Kz,KA,KB,KC,KD,KE,KF,KG,KH,KI,KJ,KL,KM,VX,VY,VZ,V0,V2,Em,En,Eo,Er,Es,Et],defers:=[]}
noncomputable def pdColl:Code:=dQ.l.r.l.l.r.r.l.l
section
theorem kL{w:World}(t ty e:TypeId)(i:TypeInfo)(ht:P.underlying t=some (.slice e))(hi:P.info? e=some i)(a:Option Addr)(c:Nat):(Builtin.append_ #[t,t] ty #[.slice none 0 0,.slice a 0 c]).run P w=.ok (.slice none 0 0) w:=by cases a<;>simp[Builtin.append_,run_underlying ht,sizeOf,typeInfo,hi,Builtin.lenOf,Builtin.firstCells,loadCells,loadCellsFrom]
theorem wZ{ops:Array Oper}{w:World}{K:Act->World->Prop}{Q:Exit->Act->World->Prop}(hgd:o.guard=none)(s x:Operand)(t:TypeId)
  (ho:o.op=.call {callee:=.builtin .append,args:=#[s,x],argTypes:=#[t,t]})(e:TypeId)(i:TypeInfo)(ht:P.underlying t=some (.slice e))(hi:P.info? e=some i)
  (hs:a.eval s=.slice none 0 0)(ad:Option Addr)(c:Nat)(hx:a.eval x=.slice ad 0 c)(h:K (a.put o.dst (.slice none 0 0)) w):if Region.wanted o (yielded ops a.tmps)=true then Oper.wp P o a w K Q else E:=by
 have hw:Region.wanted o (yielded ops a.tmps)=true:=by simp[Region.wanted,hgd]
 rw[if_pos hw];have hrun:=kL (P:=P) (w:=w) t o.type e i ht hi ad c;unfold Oper.wp;simp[execOp,ho,resolve,invoke,builtin,hs,hx,hrun,Result.andThen];exact h
end
theorem MP:(prog.info? 45).map (λi=>(i.zero,i.size,i.bytes))=some (some (.slice none 0 0),1,24):=ax
theorem SJ:(prog.info? 108).map (λi=>(i.zero,i.size,i.bytes))=some (some (.agg #[.int .i64 0,.int .i64 0,.int .i64 0]),3,24):=ax
section
variable{n res q W:Nat}{w:World}
theorem OJ(hA:GG lb lc n res rb q k W a){base:Nat}{cs:List Value}(hm:m<100000)(c0:w.cell? ⟨rb,0,none⟩=some va)(z0:w.frozen? ⟨rb,0,none⟩=false)(c9:w.cell? ⟨W,9,none⟩=some (.slice sa 0 sc))(hne:rb≠W)
  (hbase:base<=w.heap.size)(hrow:w.ownsRow base 45 1 va m cs)(hr1:some rb≠va.ownBlock)(hr2:some W≠va.ownBlock):
  (pdColl.r.l).wp prog (qO λa' w'=>GG lb lc n res rb q k W a'/\∃(g cap:Nat) (w1:World),w1.ownsRow base 45 1 (.slice (some ⟨g,0,none⟩) (m+1) cap) (m+1) (cs++[.slice none 0 0])/\w.heap.size<=w1.heap.size/\(∀b,b<w.heap.size->some b≠va.ownBlock->w1.heap[b]? =w.heap[b]?)/\(va.ownBlock=some g\/w.heap.size<=g)/\Alike (w1.setCell ⟨rb,0,none⟩ (.slice (some ⟨g,0,none⟩) (m+1) cap)) w') a w:=by
 cases hA;have yw:=dw w _ c0;have RM:=dw w _ c9;simp only at yw RM;obtain⟨ie,Ea,Kj,Kk,Kl⟩:=info_parts MP;obtain⟨ia,hia,-,-,-⟩:=info_parts Eg;simp only[pdColl,dQ,cz,f75,Code.l,Code.r,bJ];refine aL.start (λw'=>w'.cell? ⟨rb,0,none⟩=some va/\w'.cell? ⟨W,9,none⟩=some (.slice sa 0 sc)) [10] ax ?_ (λhHeld=>?_)
 ·exact ZE
 refine aL.tv 0 hHeld ?_;refine aL.tt 1 hHeld ?_;refine aL.tv 2 hHeld ?_;refine aL.tv 3 hHeld ?_;refine aL.tv 4 hHeld ?_;refine aL.tt 5 hHeld ?_;refine aL.to 6 (λK hK=>?_)
 (refine wZ bF (.const (.slice none 0 0)) (.tmp 79) _ bF 48 ia underlying45 hia bF sa sc bF ?_)
 refine hK.out _ _ (λ_=>?_) (λhHeld=>?_)
 ·exact ZE
 replace hHeld:=hHeld az;clear hK K;try refine pt ?_
 refine aL.to 7 (λK hK=>?_);go_simp;refine hK.out _ _ (λ_=>?_) (λhHeld=>?_)
 ·exact ZE
 replace hHeld:=hHeld az;clear hK K;try refine pt ?_
 refine aL.to 8 (λK hK=>?_)
 (refine step_append_lies _ bF (.tmp 75) (.tmp 81) _ bF base 45 ie _ 1 24 underlying28 Ea Kj Kk Kl rfl ae va m cs bF ((hrow.alloc _).drew) ⟨w.heap.size,0,none⟩ 1 1 [.slice none 0 0] bF bF (pR (cs:=#[.slice none 0 0]) (t:=45) (fr:=(0,0)) (heap_alloc_new w _)) qP ae iw ae bV (w.heap.size+1) au ?_;intro gg cap w1 hown1 hgrow hat uZ;have hs1:=hgrow.size;simp only[pS,bI]at hs1;have hz9:w1.frozen? ⟨rb,0,none⟩=false:=(by rw[hgrow.frozen_far _ bV hr1];first|(simp[*];done)|(go_simp;done)))
 refine hK.out _ _ (λ_=>?_) (λhHeld=>?_)
 ·exact ZE
 replace hHeld:=hHeld az;clear hK K;try refine pt ?_
 refine aL.tv 9 hHeld ?_;refine aL.to 10 (λK hK=>?_);go_simp;refine hK.out _ _ (λhF=>absurd hF az) (λ_=>?_);clear hK K;try refine pt ?_
 refine aL.done ax ?_ _;refine⟨GG.mk ..,gg,cap,w1,hown1,ae,λb hb hne=>?_,hat.imp id (λe=>ae),⟨rfl,rfl,rfl⟩⟩;rw[hgrow.block b bV hne];show(w.alloc _).heap[b]? =_;simp only[←cG,cF];rw[if_neg ae]
theorem own_same{w:World}{base:Nat}{n:Nat}(h:w.ownsRow base e s v n xs)(hw:∀g,v.ownBlock=some g->w'.heap[g]? =w.heap[g]?):w'.ownsRow base e s v n xs:=by refine⟨h.1,h.2.imp id ?_⟩;rintro⟨g,cap,cur,rfl,h1,h2,h3⟩;exact⟨g,cap,cur,rfl,h1,by rw[hw g rfl];exact h2,h3⟩
theorem own_lt{w:World}{base:Nat}{n:Nat}(h:w.ownsRow base e s v n xs){g:Nat}(hg:v.ownBlock=some g):g<w.heap.size:=by
 rcases h.2 with⟨rfl,_⟩|⟨g',cap,cur,rfl,h1,h2,_⟩
 ·cases hg
 ·obtain rfl:=aP hg;exact(aQ.1 h2).1
theorem OL(hA:GG lb lc n res rb q k W a){base len:Nat}{cs news:List Value}(hm:m<100000)(c0:w.cell? ⟨rb,0,none⟩=some va)(z0:w.frozen? ⟨rb,0,none⟩=false)(c9:w.cell? ⟨W,9,none⟩=some (.slice (some ⟨sb,0,none⟩) len sc))(hne:rb≠W)
  (hlen:0<len)(afq:len<100000)(hl:news.length=len*9)(hnews:∀j u,news[j]? =some u->w.cell? ⟨sb,j,none⟩=some u)(h1:∀u∈news,u.oneCell'=true)
  (hbase:base<=w.heap.size)(hrow:w.ownsRow base 45 1 va m cs)(hr1:some rb≠va.ownBlock)(hr2:some W≠va.ownBlock):
  (pdColl.r.l).wp prog (qO λa' w'=>GG lb lc n res rb q k W a'/\∃(g cap iV:Nat) (w1:World),w1.ownsRow base 45 1 (.slice (some ⟨g,0,none⟩) (m+1) cap) (m+1) (cs++[.slice (some ⟨w.heap.size,0,none⟩) len iV])/\w1.ownsRow 0 48 9 (.slice (some ⟨w.heap.size,0,none⟩) len iV) len news/\
   w.heap.size<w1.heap.size/\(∀b,b<w.heap.size->some b≠va.ownBlock->w1.heap[b]? =w.heap[b]?)/\(va.ownBlock=some g\/w.heap.size<g)/\Alike (w1.setCell ⟨rb,0,none⟩ (.slice (some ⟨g,0,none⟩) (m+1) cap)) w') a w:=by
 cases hA;have yw:=dw w _ c0;have RM:=dw w _ c9;simp only at yw RM;obtain⟨ie,Ea,Kj,Kk,Kl⟩:=info_parts MP;obtain⟨ia,hia,za0,za1,za2⟩:=info_parts Eg;have JO:∀j,(⟨sb,0,none⟩:Addr).add j=⟨sb,j,none⟩:=λj=>by unfold Addr.add;split<;>simp_all
 have XI:∀g,va.ownBlock=some g->g<w.heap.size:=λg hg=>own_lt hrow hg;simp only[pdColl,dQ,cz,f75,Code.l,Code.r,bJ];refine aL.start (λw'=>w'.cell? ⟨rb,0,none⟩=some va/\w'.cell? ⟨W,9,none⟩=some (.slice (some ⟨sb,0,none⟩) len sc)) [10] ax ?_ (λhHeld=>?_)
 ·exact ZG
 refine aL.tv 0 hHeld ?_;refine aL.tt 1 hHeld ?_;refine aL.tv 2 hHeld ?_;refine aL.tv 3 hHeld ?_;refine aL.tv 4 hHeld ?_;refine aL.tt 5 hHeld ?_;refine aL.to 6 (λK hK=>?_)
 (refine step_append_lies _ bF (.const (.slice none 0 0)) (.tmp 79) _ bF 0 48 ia _ 9 104 underlying45 hia za0 za1 za2 rfl ae (.slice none 0 0) 0 [] bF ⟨au,.inl ⟨rfl,rfl⟩⟩ ⟨sb,0,none⟩ len sc news bF hl (λj u hu=>by rw[JO];first|exact hnews j u hu|exact(World.cell?_drew _ _).trans (hnews j u hu)) h1 hlen iw ae (bj _) w.heap.size au ?_;intro g2 iV w1 hown2 tY aeb uZ;obtain rfl:g2=w.heap.size:=(by(rcases aeb with h|h;cases h;exact h));have hs1:=tY.size;simp only[pS]at hs1;have afP:rb<w1.heap.size:=ae;have afQ:W<w1.heap.size:=ae;simp only[cM,kR]at hown2;have hz1:w1.frozen? ⟨rb,0,none⟩=false:=(by rw[tY.frozen_far _ bV (by simp[Value.ownBlock])];first|(simp[*];done)|(go_simp;done));have c01:w1.cell? ⟨rb,0,none⟩=some va:=(by rw[tY.cell_far _ bV (by simp[Value.ownBlock])];first|(simp[*];done)|(go_simp;done));have c91:w1.cell? ⟨W,9,none⟩=some (.slice (some ⟨sb,0,none⟩) len sc):=(by rw[tY.cell_far _ bV (by simp[Value.ownBlock])];first|(simp[*];done)|(go_simp;done)))
 refine hK.out _ _ (λ_=>?_) (λhHeld=>?_)
 ·exact ZG
 replace hHeld:=hHeld az;clear hK K;try refine pt ?_
 refine aL.to 7 (λK hK=>?_);go_simp;refine hK.out _ _ (λ_=>?_) (λhHeld=>?_)
 ·exact ZG
 replace hHeld:=hHeld az;clear hK K;try refine pt ?_
 refine aL.to 8 (λK hK=>?_)
 (refine step_append_lies _ bF (.tmp 75) (.tmp 81) _ bF base 45 ie _ 1 24 underlying28 Ea Kj Kk Kl rfl ae va m cs bF (own_same hrow (λg hg=>by have hx:=XI g hg;show(w1.heap.push _)[g]? =_;rw[cF,if_neg ae,tY.block g (by simp;exact hx) (by simp[Value.ownBlock])];rfl)) ⟨w1.heap.size,0,none⟩ 1 1 [.slice (some ⟨w.heap.size,0,none⟩) len iV] bF bF (pR (cs:=#[.slice (some ⟨w.heap.size,0,none⟩) len iV]) (t:=45) (fr:=(0,0)) (heap_alloc_new w1 _)) qP ae iw ae bV (w1.heap.size+1) au ?_;intro gg cap w3 xQ hgrow hat afR;have hs3:=hgrow.size;simp only[pS,bI]at hs3;have hz9:w3.frozen? ⟨rb,0,none⟩=false:=(by rw[hgrow.frozen_far _ bV hr1];first|(simp[*];done)|(go_simp;done)))
 refine hK.out _ _ (λ_=>?_) (λhHeld=>?_)
 ·exact ZG
 replace hHeld:=hHeld az;clear hK K;try refine pt ?_
 refine aL.tv 9 hHeld ?_;refine aL.to 10 (λK hK=>?_);go_simp;refine hK.out _ _ (λhF=>absurd hF az) (λ_=>?_);clear hK K;try refine pt ?_
 refine aL.done ax ?_ _;have aec:some w.heap.size≠va.ownBlock:=λe=>by have:=XI _ e.symm;omega
 have Kf:∀b,b<w1.heap.size->some b≠va.ownBlock->w3.heap[b]? =w1.heap[b]? :=λb hb hne=>by rw[hgrow.block b bV hne];show(w1.heap.push _)[b]? =_;rw[cF,if_neg ae]
 refine⟨GG.mk ..,gg,cap,iV,w3,xQ,own_same hown2 (λg hg=>?_),ae,λb hb hne=>?_,hat.imp id (λe=>ae),⟨rfl,rfl,rfl⟩⟩
 ·obtain rfl:w.heap.size=g:=by simpa[Value.ownBlock]using hg
  exact Kf _ uZ aec
 ·rw[Kf b ae hne,tY.block b (by simp;exact hb) (by simp[Value.ownBlock])];rfl
end
section
variable{n res q W:Nat}{w:World}
theorem OM(hA:GG lb lc n res rb q k W a){base:Nat}{cs:List Value}(hm:m<100000)(c1:w.cell? ⟨rb,1,none⟩=some vo)(z1:w.frozen? ⟨rb,1,none⟩=false)(c7:w.cell? ⟨W,7,none⟩=some (.int .i64 be))(c8:w.cell? ⟨W,8,none⟩=some (.int .i64 ow))(hne:rb≠W)
  (hbase:base<=w.heap.size)(hrow:w.ownsRow base 108 3 vo m cs)(hr1:some rb≠vo.ownBlock)(hr2:some W≠vo.ownBlock):
  (Code.region 20 (match pdColl.r.r.r with|.cond _ (.region _ o _) _=>o|_=> #[]) true).wp prog (qO λa' w'=>GG lb lc n res rb q k W a'/\∃(g cap:Nat) (w1:World),w1.ownsRow base 108 3 (.slice (some ⟨g,0,none⟩) (m+1) cap) (m+1) (cs++[.int .i64 k,.int .i64 be,.int .i64 ow])/\w.heap.size<=w1.heap.size/\(∀b,b<w.heap.size->some b≠vo.ownBlock->w1.heap[b]? =w.heap[b]?)/\(vo.ownBlock=some g\/w.heap.size<=g)/\Alike (w1.setCell ⟨rb,1,none⟩ (.slice (some ⟨g,0,none⟩) (m+1) cap)) w') a w:=by
 cases hA;have yw:=dw w _ c1;have RM:=dw w _ c7;simp only at yw RM;obtain⟨ie,Ea,Kj,Kk,Kl⟩:=info_parts SJ;simp only[pdColl,dQ,cz,f75,Code.l,Code.r,bJ];refine aL.start (λw'=>w'.cell? ⟨rb,1,none⟩=some vo/\w'.cell? ⟨W,7,none⟩=some (.int .i64 be)/\w'.cell? ⟨W,8,none⟩=some (.int .i64 ow)) [15] ax ?_ (λhHeld=>?_)
 ·exact MQ
 refine aL.tv 0 hHeld ?_;refine aL.tt 1 hHeld ?_;refine aL.tv 2 hHeld ?_;refine aL.tv 3 hHeld ?_;refine aL.tv 4 hHeld ?_;refine aL.tv 5 hHeld ?_;refine aL.tt 6 hHeld ?_;refine aL.tv 7 hHeld ?_;refine aL.tv 8 hHeld ?_;refine aL.tv 9 hHeld ?_;refine aL.tt 10 hHeld ?_;refine aL.tv 11 hHeld ?_;refine aL.to 12 (λK hK=>?_);go_simp;refine hK.out _ _ (λ_=>?_) (λhHeld=>?_)
 ·exact MQ
 replace hHeld:=hHeld az;clear hK K;try refine pt ?_
 refine aL.to 13 (λK hK=>?_)
 (refine step_append_lies _ bF (.tmp 90) (.tmp 101) _ bF base 108 ie _ 3 24 underlying29 Ea Kj Kk Kl rfl ae vo m cs bF ((hrow.alloc _).drew) ⟨w.heap.size,0,none⟩ 1 1 [.int .i64 k,.int .i64 be,.int .i64 ow] bF bF (pR (cs:=#[.int .i64 k,.int .i64 be,.int .i64 ow]) (t:=108) (fr:=(0,0)) (heap_alloc_new w _)) qP ae iw ae bV (w.heap.size+1) au ?_;intro gg cap w1 hown1 hgrow hat uZ;have hs1:=hgrow.size;simp only[pS,bI]at hs1;have hz9:w1.frozen? ⟨rb,1,none⟩=false:=(by rw[hgrow.frozen_far _ bV hr1];first|(simp[*];done)|(go_simp;done)))
 refine hK.out _ _ (λ_=>?_) (λhHeld=>?_)
 ·exact MQ
 replace hHeld:=hHeld az;clear hK K;try refine pt ?_
 refine aL.tv 14 hHeld ?_;refine aL.to 15 (λK hK=>?_);go_simp;refine hK.out _ _ (λhF=>absurd hF az) (λ_=>?_);clear hK K;try refine pt ?_
 refine aL.done ax ?_ _;refine⟨GG.mk ..,gg,cap,w1,hown1,ae,λb hb hne=>?_,hat.imp id (λe=>ae),⟨rfl,rfl,rfl⟩⟩;rw[hgrow.block b bV hne];show(w.alloc _).heap[b]? =_;simp only[←cG,cF];rw[if_neg ae]
end
end
section
open Go Go.Conc Go.ConcN Go.RowKit
attribute [local go_sem] aF aG aT aD aO aW aA aB
section
theorem SL{w:World}{g cap cap':Nat}{l:List kt}(h:AnsAt w (.slice (some ⟨b,0,none⟩) l.length cap) l)(hc:∀j,j<l.length*9->w'.cell? ⟨g,j,none⟩=w.cell? ⟨b,j,none⟩)
  (hs:∀j y m e',j<9*l.length->w.cell? ⟨b,j,none⟩=some (.slice (some y) m e')->∀z:Addr,z.block=y.block->w'.cell? z=w.cell? z):AnsAt w' (.slice (some ⟨g,0,none⟩) l.length cap') l:=by
 obtain⟨a,c,e,h⟩:=h;simp only[Value.slice.injEq]at e;obtain⟨e1,-,-⟩:=e;refine⟨_,cap',rfl,λi x hx=>⟨g,rfl,?_⟩⟩;obtain⟨b',hb',A⟩:=h i x hx;rw[←e1]at hb';obtain rfl:b=b':=by simpa using hb'
 have hil:i<l.length:=(eL.1 hx).1;have hcc:∀j,j<9->w'.cell? ⟨g,9*i+j,none⟩=w.cell? ⟨b,9*i+j,none⟩:=λj hj=>hc _ ae;refine⟨(hcc 0 ae).trans A.c0,(hcc 1 ae).trans A.c1,(hcc 2 ae).trans A.c2,(hcc 3 ae).trans A.c3,(hcc 4 ae).trans A.c4,(hcc 5 ae).trans A.c5,(hcc 6 ae).trans A.c6,?_,?_⟩
 ·obtain⟨v,h2,h3⟩:=A.c7;exact⟨v,(hcc 7 ae).trans h2,h3.same λx' n e e1 z hz=>hs (9*i+7) x' n e ae (by rw[h2,e1]) z hz⟩
 ·obtain⟨v,h2,h3⟩:=A.c8;exact⟨v,(hcc 8 ae).trans h2,h3.same λx' n e e1 z hz=>hs (9*i+8) x' n e ae (by rw[h2,e1]) z hz⟩
theorem MT{w:World}{cap:Nat}{l:List kt}(h:AnsAt w (.slice (some ⟨b,0,none⟩) l.length cap) l)(hj:j<l.length*9):∃u,w.cell? ⟨b,j,none⟩=some u/\u.oneCell'=true:=by
 obtain⟨a,c,e,h⟩:=h;simp only[Value.slice.injEq]at e;obtain⟨e1,-,-⟩:=e;have hi:j / 9<l.length:=ae;obtain⟨b',hb',A⟩:=h (j / 9) _ (eA hi);rw[←e1]at hb';obtain rfl:b=b':=by simpa using hb'
 have hj9:j=9*(j / 9) +j % 9:=ae;have hlt:j % 9<9:=Nat.mod_lt _ ae;generalize j / 9=q at*;generalize j % 9=r at*;subst hj9;match r,hlt with
 |0,_=>exact⟨_,A.c0,rfl⟩
 |1,_=>exact⟨_,A.c1,rfl⟩
 |2,_=>exact⟨_,A.c2,rfl⟩
 |3,_=>exact⟨_,A.c3,rfl⟩
 |4,_=>exact⟨_,A.c4,rfl⟩
 |5,_=>exact⟨_,A.c5,rfl⟩
 |6,_=>exact⟨_,A.c6,rfl⟩
 |7,_=>obtain⟨v,h2,⟨_,_,rfl,_⟩⟩:=A.c7;exact⟨_,h2,rfl⟩
 |8,_=>obtain⟨v,h2,⟨_,_,rfl,_⟩⟩:=A.c8;exact⟨_,h2,rfl⟩
def dc(x:Nat->AW σ)(q:Nat):List (Nat×Nat×Nat):=(List.range q).filterMap λi=>(x i).now.map λp=>(i,p.1,p.2.1)
def jl(l:List (Nat×Nat×Nat)):List Value:=l.flatMap λp=>[.int .i64 p.1,.int .i64 p.2.1,.int .i64 p.2.2]
theorem xY(x:Nat->AW σ)(q:Nat):dc x (q+1)=dc x q++match(x q).now with|some p=>[(q,p.1,p.2.1)]|none=>[]:=by unfold dc;rw[sK,List.filterMap_append];congr 1;cases e:(x q).now<;>simp[e]
theorem OO(x:Nat->AW σ)(q:Nat):(dc x q).length<=q:=by unfold dc;exact cn (List.length_filterMap_le _ _) au
structure CollIn(n lb rb:Nat)(W:Nat->Nat)(x:Nat->AW σ)(w0:World):Prop where
 n8:n<=8
 hl:∀i,i<n->w0.cell? ⟨lb,i,none⟩=some (.pointer (some ⟨W i,0,none⟩))
 hlb:lb≠rb
 wr:∀i,i<n->∃dn,WRm w0 (W i) (x i) dn
 pub:∀i,i<n->∀b,eF w0 (W i) b->b≠rb/\b<w0.heap.size
 rbl:rb<w0.heap.size
 got:∀i,i<n->(x i).got.length<100000
 pos:∀i b o p,(x i).now=some (b,o,p)->0<b
structure CollAt(rb all:Nat)(cut:Bool)(W:Nat->Nat)(x:Nat->AW σ)(w0:World)(q p:Nat)(w:World):Prop where
 size:w0.heap.size<=w.heap.size
 old:∀b,b<w0.heap.size->b≠rb->w.heap[b]? =w0.heap[b]?
 ex:∃va vo rS,w.heap[rb]? =some (.cells #[va,vo,.int .i64 all,.bool cut] 31 (0,0))/\w.ownsRow w0.heap.size 45 1 va q rS/\w.ownsRow w0.heap.size 108 3 vo (dc x p).length (jl (dc x p))/\(∀g,va.ownBlock=some g->vo.ownBlock≠some g)/\
  ∀i,i<q->∃sl,rS[i]? =some sl/\AnsAt w sl (x i).got/\(∀g,sl.ownBlock=some g->w0.heap.size<=g/\g<w.heap.size/\va.ownBlock≠some g/\vo.ownBlock≠some g)/\∀b,bs w sl b->sl.ownBlock=some b\/eF w0 (W i) b
variable{n all q p:Nat}{cut:Bool}{w:World}
theorem acj{l:List kt}(h:AnsAt w v l):∃a c,v=.slice a l.length c:=by obtain⟨a,c,h,_⟩:=h;exact⟨a,c,h⟩
theorem dH{w:World}{base:Nat}{n:Nat}(h:w.ownsRow base e s v n xs){g:Nat}(hg:v.ownBlock=some g):base<=g:=by
 rcases h.2 with⟨rfl,_⟩|⟨g',cap,cur,rfl,h1,h2,_⟩
 ·cases hg
 ·obtain rfl:=aP hg;exact h1
theorem CollAt.keep(I:CollIn n lb rb W x w0){i:Nat}(hi:i<n){sl:Value}{l:List kt}(h:AnsAt w sl l)(hs:∀b,bs w sl b->sl.ownBlock=some b\/eF w0 (W i) b)(hown:∀g,sl.ownBlock=some g->w1.heap[g]? =w.heap[g]?)(hold:∀b,b<w0.heap.size->b≠rb->w1.heap[b]? =w.heap[b]?):
  AnsAt w1 sl l/\∀b,bs w1 sl b->sl.ownBlock=some b\/eF w0 (W i) b:=by
 have hb:∀b,bs w sl b->w1.heap[b]? =w.heap[b]? :=λb hb=>by
  rcases hs b hb with h|h
  ·exact hown b h
  ·obtain⟨h1,h2⟩:=I.pub i hi b h;exact hold b h2 h1
 refine⟨eX (λx hx=>bP (w:=w) (hb _ hx)) h,λb h=>hs b ?_⟩;exact(sblocks_same (w:=w) (w':=w1) (sl:=sl) (λx n e h1 o=>bP (w:=w) (hb x.block ⟨x,n,e,h1,.inl rfl⟩)) b).1 h
theorem CollAt.answer(C:CollAt rb all cut W x w0 q p w)(I:CollIn n lb rb W x w0)(hq:q<n)(hr:w.heap[rb]? =some (.cells #[va,vo,.int .i64 all,.bool cut] 31 (0,0)))(h1:w.ownsRow w0.heap.size 45 1 va q rS)(h2:w.ownsRow w0.heap.size 108 3 vo (dc x p).length (jl (dc x p)))(h3:∀g,va.ownBlock=some g->vo.ownBlock≠some g)
  (h4:∀i,i<q->∃sl,rS[i]? =some sl/\AnsAt w sl (x i).got/\(∀g,sl.ownBlock=some g->w0.heap.size<=g/\g<w.heap.size/\va.ownBlock≠some g/\vo.ownBlock≠some g)/\∀b,bs w sl b->sl.ownBlock=some b\/eF w0 (W i) b)
  {g cap:Nat}(hown:w1.ownsRow w0.heap.size 45 1 (.slice (some ⟨g,0,none⟩) (q+1) cap) (q+1) (rS++[sln]))(hsz:w.heap.size<=w1.heap.size)(hold:∀b,b<w.heap.size->some b≠va.ownBlock->w1.heap[b]? =w.heap[b]?)(hg:va.ownBlock=some g\/w.heap.size<=g)
  (hnew:∀gn,sln.ownBlock=some gn->w.heap.size<=gn/\gn<w1.heap.size/\gn≠g)(jA:AnsAt w1 sln (x q).got)(hblk:∀b,bs w1 sln b->sln.ownBlock=some b\/eF w0 (W q) b):
  CollAt rb all cut W x w0 (q+1) p (w1.setCell ⟨rb,0,none⟩ (.slice (some ⟨g,0,none⟩) (q+1) cap)):=by
 have yw:=I.rbl;have OP:=C.size;have MU:∀b,b<w0.heap.size->some b≠va.ownBlock:=λb hb e=>by have:=dH h1 e.symm;omega
 have UM:∀gg,vo.ownBlock=some gg->w0.heap.size<=gg/\gg<w.heap.size:=λgg hg=>⟨dH h2 hg,own_lt h2 hg⟩;have bT:∀b,b≠rb->(w1.setCell ⟨rb,0,none⟩ (.slice (some ⟨g,0,none⟩) (q+1) cap)).heap[b]? =w1.heap[b]? :=λb hb=>ah hb _;have hr1:w1.heap[rb]? =w.heap[rb]? :=hold rb ae (MU rb yw);have hgb:=dH hown (g:=g) rfl;refine⟨by simp only[World.setCell,uw];omega,λb hb hne=>by rw[bT b hne,hold b ae (MU b hb)];exact C.old b hb hne,.slice (some ⟨g,0,none⟩) (q+1) cap,vo,rS++[sln],?_,own_same hown (λgg xa=>?_),own_same h2 (λgg xa=>?_),λgg xa e=>?_,λi hi=>?_⟩
 ·rw[aq (by rw[hr1];exact hr)];rfl
 ·obtain rfl:g=gg:=by simpa[Value.ownBlock]using xa
  exact bT _ ae
 ·obtain⟨h5,h6⟩:=UM gg xa;rw[bT gg ae];exact hold gg h6 λe=>h3 gg e.symm xa
 ·obtain rfl:g=gg:=by simpa[Value.ownBlock]using xa
  rcases hg with h|h
  ·exact h3 _ h e
  ·have:=(UM _ e).2;omega
 ·rcases iC i q with hlt|CX
  ·obtain⟨sl,h5,h6,h7,h8⟩:=h4 i hlt;obtain⟨h9,h10⟩:=CollAt.keep (w1:=w1.setCell ⟨rb,0,none⟩ (.slice (some ⟨g,0,none⟩) (q+1) cap)) I ae h6 h8 (λgg xa=>by obtain⟨a1,a2,a3,a4⟩:=h7 gg xa;rw[bT gg ae];exact hold gg a2 (bp a3)) (λb hb hne=>by rw[bT b hne];exact hold b ae (MU b hb));refine⟨sl,by rw[oC (eL.1 h5).1];exact h5,h9,λgg xa=>?_,h10⟩;obtain⟨a1,a2,a3,a4⟩:=h7 gg xa;refine⟨a1,by simp only[World.setCell,uw];omega,λe=>?_,a4⟩;obtain rfl:g=gg:=(by simpa[Value.ownBlock]using e);rcases hg with h|h
   ·exact a3 h
   ·omega
  ·obtain rfl:i=q:=ae;have hl:rS.length=i:=(by have:=h1.1;omega);obtain⟨h9,h10⟩:=CollAt.keep (w1:=w1.setCell ⟨rb,0,none⟩ (.slice (some ⟨g,0,none⟩) (i+1) cap)) I hq jA hblk (λgg xa=>bT gg (by have:=(hnew gg xa).1;omega)) (λb hb hne=>bT b hne);refine⟨sln,by rw[pQ ae,hl,Nat.sub_self];rfl,h9,λgg xa=>?_,h10⟩;obtain⟨a1,a2,a3⟩:=hnew gg xa;refine⟨ae,by simp only[World.setCell,uw];omega,λe=>a3 (by simpa[Value.ownBlock]using e.symm),λe=>?_⟩;have:=(UM _ e).2;omega
theorem CollAt.opened(C:CollAt rb all cut W x w0 q p w)(I:CollIn n lb rb W x w0)(BX:q<=n)(hr:w.heap[rb]? =some (.cells #[va,vo,.int .i64 all,.bool cut] 31 (0,0)))(h1:w.ownsRow w0.heap.size 45 1 va q rS)(h2:w.ownsRow w0.heap.size 108 3 vo (dc x p).length (jl (dc x p)))(h3:∀g,va.ownBlock=some g->vo.ownBlock≠some g)
  (h4:∀i,i<q->∃sl,rS[i]? =some sl/\AnsAt w sl (x i).got/\(∀g,sl.ownBlock=some g->w0.heap.size<=g/\g<w.heap.size/\va.ownBlock≠some g/\vo.ownBlock≠some g)/\∀b,bs w sl b->sl.ownBlock=some b\/eF w0 (W i) b)
  {g cap:Nat}(hnow:(x p).now=some (be,ow,pp))(hown:w1.ownsRow w0.heap.size 108 3 (.slice (some ⟨g,0,none⟩) ((dc x p).length+1) cap) ((dc x p).length+1) (jl (dc x p) ++[.int .i64 p,.int .i64 be,.int .i64 ow]))(hsz:w.heap.size<=w1.heap.size)(hold:∀b,b<w.heap.size->some b≠vo.ownBlock->w1.heap[b]? =w.heap[b]?)(hg:vo.ownBlock=some g\/w.heap.size<=g):
  CollAt rb all cut W x w0 q (p+1) (w1.setCell ⟨rb,1,none⟩ (.slice (some ⟨g,0,none⟩) ((dc x p).length+1) cap)):=by
 have yw:=I.rbl;have OP:=C.size;have UM:∀b,b<w0.heap.size->some b≠vo.ownBlock:=λb hb e=>by have:=dH h2 e.symm;omega
 have MU:∀gg,va.ownBlock=some gg->w0.heap.size<=gg/\gg<w.heap.size:=λgg hg=>⟨dH h1 hg,own_lt h1 hg⟩;have bT:∀b,b≠rb->(w1.setCell ⟨rb,1,none⟩ (.slice (some ⟨g,0,none⟩) ((dc x p).length+1) cap)).heap[b]? =w1.heap[b]? :=λb hb=>ah hb _;have hr1:w1.heap[rb]? =w.heap[rb]? :=hold rb ae (UM rb yw);have hgb:=dH hown (g:=g) rfl;have ho:dc x (p+1)=dc x p++[(p,be,ow)]:=by rw[xY,hnow]
 refine⟨by simp only[World.setCell,uw];omega,λb hb hne=>by rw[bT b hne,hold b ae (UM b hb)];exact C.old b hb hne,va,.slice (some ⟨g,0,none⟩) ((dc x p).length+1) cap,rS,?_,own_same h1 (λgg xa=>?_),?_,λgg xa e=>?_,λi hi=>?_⟩
 ·rw[aq (by rw[hr1];exact hr)];rfl
 ·obtain⟨h5,h6⟩:=MU gg xa;rw[bT gg ae];exact hold gg h6 λe=>h3 gg xa e.symm
 ·rw[ho];have:jl (dc x p++[(p,be,ow)])=jl (dc x p) ++[.int .i64 p,.int .i64 be,.int .i64 ow]:=by simp[jl]
  rw[this,mM];refine own_same hown (λgg xa=>?_);obtain rfl:g=gg:=by simpa[Value.ownBlock]using xa
  exact bT _ ae
 ·obtain rfl:g=gg:=by simpa[Value.ownBlock]using e
  rcases hg with h|h
  ·exact h3 _ xa h
  ·have:=(MU _ xa).2;omega
 ·obtain⟨sl,h5,h6,h7,h8⟩:=h4 i hi;obtain⟨h9,h10⟩:=CollAt.keep (w1:=w1.setCell ⟨rb,1,none⟩ (.slice (some ⟨g,0,none⟩) ((dc x p).length+1) cap)) I ae h6 h8 (λgg xa=>by obtain⟨a1,a2,a3,a4⟩:=h7 gg xa;rw[bT gg ae];exact hold gg a2 (bp a4)) (λb hb hne=>by rw[bT b hne];exact hold b ae (UM b hb));refine⟨sl,h5,h9,λgg xa=>?_,h10⟩;obtain⟨a1,a2,a3,a4⟩:=h7 gg xa;refine⟨a1,by simp only[World.setCell,uw];omega,a3,λe=>?_⟩;obtain rfl:g=gg:=by simpa[Value.ownBlock]using e
  rcases hg with h|h
  ·exact a4 h
  ·omega
theorem CollAt.closed(C:CollAt rb all cut W x w0 q p w)(hnow:(x p).now=none):CollAt rb all cut W x w0 q (p+1) w:=by
 have ho:dc x (p+1)=dc x p:=by rw[xY,hnow];simp
 exact⟨C.size,C.old,by rw[ho];exact C.ex⟩
end
theorem OQ:pdColl=.seq pdColl.l (.seq pdColl.r.l (.seq pdColl.r.r.l pdColl.r.r.r)):=by simp only[pdColl,dQ,cz,f75,Code.l,Code.r,bJ]
section
variable{n res all q p:Nat}{cut:Bool}{w:World}
variable{main:Bool}{J:dA ι}{Stop:ι->Frame->List Frame->World->Prop}
theorem CollAt.SM(C:CollAt rb all cut W x w0 q p w)(I:CollIn n lb rb W x w0)(hk:k<n)(o:Nat):w.cell? ⟨W k,o,none⟩=w0.cell? ⟨W k,o,none⟩:=by obtain⟨h1,h2⟩:=I.pub k hk (W k) (.inl rfl);exact bP (w:=w0) (C.old _ h2 h1)
theorem Ev(hcs:NE cs0)(I:CollIn n lb rb W x w0)(hq:q<n)(hA:GG lb lc n res rb q q (W q) a)(C:CollAt rb all cut W x w0 q q w):
  wpM prog main cs0 J Stop U 75 pdColl.r.l (λi' e a' w'=>e=.normal/\i'=i/\GG lb lc n res rb q q (W q) a'/\CollAt rb all cut W x w0 (q+1) q w') i a w:=by
 obtain⟨dn,be,ow,sl,c7,c8,c9,c10,jA,hnow,SN⟩:=I.wr q hq;have c9':=(C.SM I hq 9).trans c9;obtain⟨sa,sc,rfl⟩:=acj jA;obtain⟨va,vo,rS,hr,h1,h2,h3,h4⟩:=C.ex;obtain⟨hne,RM⟩:=I.pub q hq (W q) (.inl rfl);have yw:=I.rbl;have OP:=C.size;have c0:=cO hr 0;have z0:=zO hr 0;have hr1:some rb≠va.ownBlock:=λe=>by have:=dH h1 e.symm;omega
 have hr2:some (W q)≠va.ownBlock:=λe=>by have:=dH h1 e.symm;omega
 have hm:q<100000:=by have:=I.n8;omega
 have hlen:=I.got q hq;have KT:∀b,bs w0 (.slice sa (x q).got.length sc) b->eF w0 (W q) b:=λb hb=>.inr ⟨_,c9,hb⟩;refine wpM_lone fH hcs ax (l8 (by cases hA;rfl)) (xT _ az _) (λτ=>?_);by_cases h0:(x q).got.length=0
 ·have hl0:(x q).got=[]:=List.length_eq_zero_iff.1 h0;rw[h0]at c9';refine kv (OJ (w:=w.tp τ) hA hm c0 z0 c9' (bp hne) OP h1 hr1 hr2) ?_;rintro a' w' ⟨hA',g,cap,w1,hown,hs1,hold,hg,qd⟩;refine⟨_,qd,rfl,rfl,hA',C.answer I hq hr h1 h2 h3 h4 hown hs1 hold hg (λgn h=>bY) ?_ λb hb=>?_⟩
  ·rw[hl0];exact⟨none,0,rfl,λi x h=>bY⟩
  ·obtain⟨y,m,e,h,_⟩:=hb;cases h
 ·obtain⟨sb,hsa⟩:∃sb,sa=some ⟨sb,0,none⟩:=by obtain⟨a',c',e,h⟩:=jA;obtain⟨y,hy⟩:∃y,(x q).got[0]? =some y:=⟨_,eA ae⟩;obtain⟨b,hb,_⟩:=h 0 y hy;simp only[Value.slice.injEq]at e;exact⟨b,e.1.trans hb⟩
  subst hsa;have Xc:=I.pub q hq sb (KT sb ⟨_,_,_,rfl,.inl rfl⟩);let news:List Value:=(List.range ((x q).got.length*9)).map λj=>(w0.cell? ⟨sb,j,none⟩).getD undef;have hnl:news.length=(x q).got.length*9:=by simp[news]
  have kr:∀j,j< (x q).got.length*9->news[j]? =w0.cell? ⟨sb,j,none⟩:=λj hj=>by obtain⟨u,hu,_⟩:=MT jA hj;simp[news,ml,List.getElem?_range hj,hu]
  have Nz:∀j,w.cell? ⟨sb,j,none⟩=w0.cell? ⟨sb,j,none⟩:=λj=>bP (w:=w0) (C.old sb Xc.2 Xc.1);have hnews:∀j u,news[j]? =some u->(w.tp τ).cell? ⟨sb,j,none⟩=some u:=λj u hu=>by have hj:j< (x q).got.length*9:=(by rw[←hnl];exact(eL.1 hu).1);rw[←hu,kr j hj];exact Nz j
  have vr:∀u∈news,u.oneCell'=true:=λu hu=>by obtain⟨j,hj,rfl⟩:=og.1 hu;obtain⟨u,h5,h6⟩:=MT jA (mJ.1 hj);rw[h5];exact h6
  refine kv (OL (w:=w.tp τ) hA hm c0 z0 c9' (bp hne) ae hlen hnl hnews vr OP h1 hr1 hr2) ?_;rintro a' w' ⟨hA',g,cap,iV,w1,hown,hown2,hs1,hold,hg,qd⟩;have hs1:w.heap.size<w1.heap.size:=hs1;have hcell:∀j,j< (x q).got.length*9->w1.cell? ⟨w.heap.size,j,none⟩=w0.cell? ⟨sb,j,none⟩:=λj hj=>by rw[←kr j hj];exact hown2.cellAt j hj
  have lR:∀b,eF w0 (W q) b->w1.heap[b]? =w0.heap[b]? :=λb hb=>by obtain⟨h5,h6⟩:=I.pub q hq b hb;rw[hold b (by show b<w.heap.size;omega) (λe=>by have:=dH h1 e.symm;omega)];exact C.old b h6 h5
  refine⟨_,qd,rfl,rfl,hA',C.answer I hq hr h1 h2 h3 h4 hown (Nat.le_of_lt hs1) hold (hg.imp id λh=>Nat.le_of_lt h) (λgn h=>?_) (SL jA hcell λj y m e' hj h5 z hz=>?_) λb hb=>?_⟩
  ·obtain rfl:w.heap.size=gn:=(by have h:some w.heap.size=some gn:=h;exact aP h);refine⟨aY _,hs1,λe=>?_⟩;rcases hg with h|h
   ·have:=own_lt h1 h;omega
   ·have:w.heap.size<g:=h;omega
  ·refine bP (w:=w0) ?_;rw[hz];exact lR _ (KT _ ⟨_,_,_,rfl,.inr ⟨j,y,m,e',hj,h5,rfl⟩⟩)
  ·obtain⟨y,m,e,h5,h6⟩:=hb;simp only[Value.slice.injEq,cu]at h5;obtain⟨h7,h8,h9⟩:=h5;subst h7;rcases h6 with rfl|⟨j,y,m',e',hj,h6,rfl⟩
   ·exact .inl rfl
   ·right;rw[←h8]at hj;have h6:w1.cell? ⟨w.heap.size,j,none⟩=some (.slice (some y) m' e'):=h6;rw[hcell j ae]at h6;exact KT _ ⟨_,_,_,rfl,.inr ⟨j,y,m',e',hj,h6,rfl⟩⟩
theorem KU(hcs:NE cs0)(I:CollIn n lb rb W x w0)(hq:q<n)(hlc:n<=lc)(hA:wY lb lc n res rb q a)(C:CollAt rb all cut W x w0 q q w):
  wpM prog main cs0 J Stop U 75 pdColl (λi' e a' w'=>e=.normal/\i'=i/\wY lb lc n res rb q a'/\CollAt rb all cut W x w0 (q+1) (q+1) w') i a w:=by
 rw[OQ];have hn8:=I.n8;have ack:lb<w0.heap.size:=dw w0 _ (I.hl q hq);have cl:w.cell? ⟨lb,q,none⟩=some (.pointer (some ⟨W q,0,none⟩)):=by rw[←I.hl q hq];exact bP (w:=w0) (C.old lb ack I.hlb)
 have HI:=ai I;have HC:=ai C;clear I C ack;refine wpM_seq ?_;have aed:wpM prog main cs0 J Stop U 75 pdColl.l (λi' e a' w'=>e=.normal/\i'=i/\GG lb lc n res rb q q (W q) a'/\w'=w) i a w:=by cases hA;simp only[pdColl,dQ,cz,f75,Code.l,Code.r,bJ];refine wpM_lone fH hcs ax (l8 rfl) (xT _ az _) (λτ=>?_);go_wp2;exact⟨aN _ _,GG.mk ..⟩
 refine di aed ?_;rintro i1 e1 a1 w1 ⟨rfl,rfl,F7,rfl⟩;simp only[Exit.then];refine wpM_seq (di (Ev hcs HI.out hq F7 HC.out) ?_);rintro i2 e2 a2 w2 ⟨rfl,rfl,qI,C2⟩;simp only[Exit.then];obtain⟨dn,be,ow,sl,c7,c8,c9,c10,jA,hnow,SN⟩:=HI.out.wr q hq;have c7':=(C2.SM HI.out hq 7).trans c7;have c8':=(C2.SM HI.out hq 8).trans c8;have acm:wpM prog main cs0 J Stop U 75 pdColl.r.r.l (λi' e a' w'=>e=.normal/\i'=i2/\GG lb lc n res rb q q (W q) a'/\w'=w2/\a'.eval (.tmp 88)=.bool (decide (0<be))) i2 a2 w2:=by have Hb:(decide ((0:Int) < (be:Int)))=decide (0<be):=au;clear jA hnow SN C2 c9 c10 c7 c8;cases qI;simp only[pdColl,dQ,cz,f75,Code.l,Code.r,bJ];refine wpM_lone fH hcs ax (l8 rfl) (xT _ az _) (λτ=>?_);go_wp2;exact⟨aN _ _,GG.mk ..⟩
 refine wpM_seq (di acm ?_);rintro i3 e3 a3 w3 ⟨rfl,rfl,CV,rfl,h88⟩;simp only[Exit.then];obtain⟨ops,SP⟩:∃ops,pdColl.r.r.r=.cond (.tmp 88) (.region 20 ops true) .skip:=by simp only[pdColl,dQ,cz,f75,Code.l,Code.r,bJ];exact⟨_,rfl⟩
 rw[SP];have hC0:∀a',GG lb lc n res rb q q (W q) a'->wY lb lc n res rb q a':=λa' h=>by cases h;exact wY.mk ..
 cases hx:(x q).now with
 |none=>have hb0:be=0:=SN hx;refine aH (t:=false) (by rw[h88,hb0];rfl) (dm ?_);exact⟨rfl,rfl,hC0 _ CV,C2.closed hx⟩
 |some pp=>
  obtain⟨b,o,pr⟩:=pp;obtain⟨rfl,rfl⟩:=hnow b o pr hx;have jS:=HI.out.pos q _ _ _ hx;refine aH (t:=true) (by rw[h88];simp[jS]) ?_;simp only[if_true];obtain⟨va,vo,rS,hr,h1,h2,h3,h4⟩:=C2.ex;obtain⟨hne,RM⟩:=HI.out.pub q hq (W q) (.inl rfl);have yw:=HI.out.rbl;have OP:=C2.size;have c1:=cO hr 1;have z1:=zO hr 1;have hr1:some rb≠vo.ownBlock:=λe=>by have:=dH h2 e.symm;omega
  have hr2:some (W q)≠vo.ownBlock:=λe=>by have:=dH h2 e.symm;omega
  have hm:(dc x q).length<100000:=by have:=OO x q;omega
  have hok:cR prog S2 75 (.region 20 ops true)=true:=by have h:cR prog S2 75 pdColl.r.r.r=true:=ax;rw[SP]at h;simpa[cR]using h
  refine wpM_lone fH hcs hok (l8 (by cases CV;rfl)) (xT _ az _) (λτ=>?_);have hop:=OM (w:=w3.tp τ) CV hm c1 z1 c7' c8' (bp hne) OP h2 hr1 hr2;rw[SP]at hop;refine kv hop ?_;rintro a' w' ⟨hA',g,cap,w1,hown,hs1,hold,hg,qd⟩;exact⟨_,qd,rfl,rfl,hC0 _ hA',C2.opened HI.out ae hr h1 h2 h3 h4 hx hown hs1 hold hg⟩
end
theorem OS:dQ.l=.seq dQ.l.l (.block 2 (.loop (.seq dQ.l.r.l.l.l (.seq (.cond (.tmp 70) .skip (.exit 2)) (.seq (.block 3 pdColl) dQ.l.r.l.l.r.r.r))))):=by simp only[pdColl,dQ,cz,f75,Code.l,Code.r,bJ]
section
variable{n res all q p:Nat}{cut:Bool}{w:World}
variable{main:Bool}{J:dA ι}{Stop:ι->Frame->List Frame->World->Prop}
theorem CollAt.start(I:CollIn n lb rb W x w0)(h:w0.heap[rb]? =some (.cells #[.slice none 0 0,.slice none 0 0,.int .i64 all,.bool cut] 31 (0,0))):CollAt rb all cut W x w0 0 0 w0:=⟨aY _,λ_ _ _=>rfl,.slice none 0 0,.slice none 0 0,[],h,⟨rfl,.inl ⟨rfl,rfl⟩⟩,⟨rfl,.inl ⟨rfl,rfl⟩⟩,λg h=>bY,λi hi=>absurd hi (dV _)⟩
theorem SQ{cV:Value}{most:Int}(hcs:NE cs0)(I:CollIn n lb rb W x w0)(hlc:n<=lc)(hA:Qv cV lb lc n come cb res ob sb rb most a)(h:w0.heap[rb]? =some (.cells #[.slice none 0 0,.slice none 0 0,.int .i64 all,.bool cut] 31 (0,0))):
  wpM prog main cs0 J Stop U 75 dQ.l (λi' e a' w'=>e=.normal/\i'=i/\wY lb lc n res rb n a'/\CollAt rb all cut W x w0 n n w') i a w0:=by
 rw[OS];have V3:wpM prog main cs0 J Stop U 75 dQ.l.l (λi' e a' w'=>e=.normal/\i'=i/\wY lb lc n res rb 0 a'/\w'=w0) i a w0:=by clear I h;cases hA;simp only[pdColl,dQ,cz,f75,Code.l,Code.r,bJ];refine wpM_lone fH hcs ax (l8 rfl) (xT _ az _) (λτ=>?_);go_wp2;exact⟨aN _ _,wY.mk ..⟩
 refine wpM_seq (di V3 ?_);rintro i1 e1 a1 w1 ⟨rfl,rfl,F7,rfl⟩;simp only[Exit.then];clear V3 hA;refine bt (fZ (λm i a w=>∃q,m=n-q/\q<=n/\i=i1/\wY lb lc n res rb q a/\CollAt rb all cut W x w1 q q w) (n:=n) ⟨0,rfl,bj _,rfl,F7,CollAt.start I h⟩ ?_);rintro m i a w ⟨q,rfl,hq,rfl,hA,C⟩;clear F7;have acn:wpM prog main cs0 J Stop U 75 dQ.l.r.l.l.l (λi' e a' w'=>e=.normal/\i'=i/\wY lb lc n res rb q a'/\a'.eval (.tmp 70)=.bool (decide (q<n))/\w'=w) i a w:=by have Hb:(decide ((q:Int) < (n:Int)))=decide (q<n):=au;clear I h C;cases hA;simp only[pdColl,dQ,cz,f75,Code.l,Code.r,bJ];refine wpM_lone fH hcs ax (l8 rfl) (xT _ az _) (λτ=>?_);go_wp2;exact⟨aN _ _,wY.mk ..⟩
 refine wpM_seq (di acn ?_);rintro i2 e2 a2 w2 ⟨rfl,rfl,qI,h70,rfl⟩;simp only[Exit.then];by_cases hlt:q<n
 ·refine wpM_seq (aH (t:=true) (by rw[h70];simp[hlt]) (dm ?_));simp only[Exit.then];refine wpM_seq (bt (di (KU hcs I hlt hlc qI C) ?_));rintro i3 e3 a3 w3 ⟨rfl,rfl,CV,C3⟩;simp only[Exit.then,Exit.inBlock];have hn8:=I.n8;have HC:=ai C3;have hwr:IntKind.i64.wrap ((q:Int) +1)=((q+1:Nat):Int):=by rw[dR];omega
  have aee:wpM prog main cs0 J Stop U 75 dQ.l.r.l.l.r.r.r (λi' e a' w'=>e=.normal/\i'=i3/\wY lb lc n res rb (q+1) a'/\w'=w3) i3 a3 w3:=by clear I h C C3 acn HC;cases CV;simp only[pdColl,dQ,cz,f75,Code.l,Code.r,bJ];refine wpM_lone fH hcs ax (l8 rfl) (xT _ az _) (λτ=>?_);go_wp2;exact⟨aN _ _,wY.mk ..⟩
  refine di aee ?_;rintro i4 e4 a4 w4 ⟨rfl,rfl,KS,rfl⟩;simp only[Exit.then];exact⟨n- (q+1),ae,q+1,by trivial,ae,by trivial,KS,C3⟩
 ·obtain rfl:q=n:=ae;refine wpM_seq (aH (t:=false) (by rw[h70];simp) (fY ?_));simp only[Exit.then,Exit.inBlock,if_true];exact⟨by trivial,by trivial,qI,C⟩
end
section
theorem AR.Ew(L:Lay σ)(c:bq)(s:σ)(t i b o:Nat)(p:Pr σ dO)(h:((AR.at L c s t).w i).now=some (b,o,p)):0<b:=by
 induction t generalizing i b o p with
 |zero=>cases h
 |succ t ih=>
  have h:(if i=(AR.at L c s t).pick c then((AR.at L c s t).w ((AR.at L c s t).pick c)).settle ((AR.at L c s t).all+1) (((AR.at L c s t).w ((AR.at L c s t).pick c)).seg L c ((AR.at L c s t).pick c) ((AR.at L c s t).all+1) (AR.at L c s t).s).1 (((AR.at L c s t).w ((AR.at L c s t).pick c)).seg L c ((AR.at L c s t).pick c) ((AR.at L c s t).all+1) (AR.at L c s t).s).2 else(AR.at L c s t).w i).now=some (b,o,p):=h;by_cases e:i=(AR.at L c s t).pick c
  ·rw[if_pos e]at h;generalize hy:(AR.at L c s t).w ((AR.at L c s t).pick c)=y at h;have jS:0< (y.seg L c ((AR.at L c s t).pick c) ((AR.at L c s t).all+1) (AR.at L c s t).s).1:=by
    unfold AW.seg;split
    ·rename_i b' o' p' he;rw[←hy]at he;exact ih _ _ _ _ he
    ·split<;>simp
   generalize y.seg L c ((AR.at L c s t).pick c) ((AR.at L c s t).all+1) (AR.at L c s t).s=z at h jS;obtain⟨z1,z2⟩:=z;cases z2 with
   |fin a g own s'=>cases h
   |line p' own s'=>simp only[AW.settle,cu,Prod.mk.injEq]at h;obtain⟨rfl,_⟩:=h;exact jS
   |lost=>simp only[AW.settle]at h;rw[←hy]at h;exact ih _ _ _ _ h
  ·rw[if_neg e]at h;exact ih _ _ _ _ h
theorem eM.Ew(J:eM σ)(t i b o:Nat)(p:Pr σ dO)(h:((J.ar t).w i).now=some (b,o,p)):0<b:=AR.Ew _ _ _ _ _ _ _ _ h
structure Ex(J:eM σ)(d:aK)(a0:World)(t:Nat)(w0:World)(v:Value)(w:World):Prop where
 over:(J.ar t).goes J.c=false
 le:J.n<=t/\t<=J.n+J.c.most
 size:a0.heap.size<=w0.heap.size/\w0.heap.size<=w.heap.size
 old:∀(b:Nat) o,a0.heap[b]? =some o->o≠cI->(∀i,i<J.n->b≠d.W i)->w.heap[b]? =some o
 pub:∀b,ig d (J.bE d.W) w0 b->b<w0.heap.size/\w.heap[b]? =w0.heap[b]?/\∀o,a0.heap[b]? =some o->o≠cI->∃i,i<J.n/\b=d.W i
 ex:∃va vo rS,v=.agg #[va,vo,.int .i64 ((t-J.n:Nat):Int),.bool ((J.ar t).any J.c)]/\w.ownsRow w0.heap.size 45 1 va J.n rS/\w.ownsRow w0.heap.size 108 3 vo (dc (J.ar t).w J.n).length (jl (dc (J.ar t).w J.n))/\
  ∀i,i<J.n->∃sl,rS[i]? =some sl/\AnsAt w sl ((J.ar t).w i).got/\(∀g,sl.ownBlock=some g->w0.heap.size<=g/\g<w.heap.size)/\∀b,bs w sl b->sl.ownBlock=some b\/eF w0 (d.W i) b
theorem OT:cz=.seq cz.l (.seq cz.r.l (.seq cz.r.r.l (.seq cz.r.r.r.l (.seq cz.r.r.r.r.l (.seq cz.r.r.r.r.r.l (.seq jk (.seq dQ.l (.seq dQ.r.l .ret)))))))):=by simp only[jk,dQ,cz,f75,Code.l,Code.r,bJ]
variable{w:World}
theorem OU{K:PN}{cut:Bool}(H:PSet J d K a0)(B:OG J d)(P:ky J d K a0 t cut w)(R:uR d (J.bE d.W) t w w0)(hgot:∀i,i<J.n->((J.ar t).w i).got.length<100000):
  CollIn J.n K.lb K.rb d.W (J.ar t).w w0/\(∀b,ig d (J.bE d.W) w0 b->b<w0.heap.size/\b≠K.rb/\b≠K.res/\∀o,a0.heap[b]? =some o->o≠cI->∃i,i<J.n/\b=d.W i):=by
 have h6:=H.rb;have h7:=H.sb;have h8:=H.ob;have h9:=P.at_.size;have nv:∀b,ig d (J.bE d.W) w0 b->b<w0.heap.size/\b≠K.rb/\b≠K.res/\∀o,a0.heap[b]? =some o->o≠cI->∃i,i<J.n/\b=d.W i:=λb ⟨i,hi,hb⟩=>by
  rw[R.size];by_cases hW:∃k,k<d.j/\b=d.W k
  ·obtain⟨k,hk,rfl⟩:=hW;have:=H.W k (by rw[←B.j];exact hk);have:=H.res;exact⟨ae,ae,ae,λ_ _ _=>⟨k,by rw[←B.j];exact hk,rfl⟩⟩
  ·have h:=R.pub i hi b hb λk hk e=>hW ⟨k,hk,e⟩;refine⟨(aQ.1 h).1,λe=>?_,λe=>?_,λo h1 h2=>?_⟩
   ·rw[e,P.at_.r]at h;cases h
   ·rw[e,P.at_.res]at h;cases h
   ·have h3:=P.at_.old b o h1 h2 λi hi e=>hW ⟨i,by rw[B.j];exact hi,e⟩;rw[h]at h3;exact absurd (aP h3).symm h2
 refine⟨⟨H.n,λi hi=>?_,?_,λi hi=>⟨_,R.wr i (by rw[B.j];exact hi) hi⟩,λi hi b hb=>?_,by rw[R.size];exact h9,hgot,λi b o p h=>J.Ew t i b o p h⟩,nv⟩
 ·have h:=P.at_.ll H i hi;obtain⟨o,h1,h2⟩:=gR h;rw[←h];exact bP (w:=w) (by rw[R.same _ o h1 h2,h1])
 ·rcases jH J.n with h0|h0
  ·have hl:=H.lbl;omega
  ·have:=dw a0 _ (H.l 0 h0).1;simp only at this;omega
 ·obtain⟨h1,h2,_⟩:=nv b ⟨i,by rw[B.j];exact hi,hb⟩;exact⟨h2,h1⟩
end
end
section
open Go Go.Conc Go.ConcN Go.RowKit
attribute [local go_sem] aF aG aT aD aO aW aA aB
variable[Inhabited bO]
section
variable{w:World}
structure PCall(J:eM σ)(d:aK)(wk tu ha:Option Addr)(wc tc hc lb lc:Nat)(a0:World):Prop where
 n:J.n<=8
 un:J.c.until_<=20000
 lc:J.n<=lc
 lbl:lb<a0.heap.size
 W:∀i,i<J.n->d.W i<a0.heap.size
 l:∀i,i<J.n->a0.cell? ⟨lb,i,none⟩=some (.pointer (some ⟨d.W i,0,none⟩))/\∀k,k<J.n->lb≠d.W k
 h:∀i,i<J.c.halt.length->∃hb ho,ha=some ⟨hb,ho,none⟩/\a0.cell? ⟨hb,ho+i,none⟩=some (.int .i64 (J.c.halt.getD i 0))/\∀k,k<J.n->hb≠d.W k
 tu:Ku a0 tu tc J.c.turns
 tl:J.c.turns.length<100000
 eyes:∀i,i<J.n->a0.cell? ⟨d.W i,2,none⟩=some (.chan (some (d.turn i)))/\a0.cell? ⟨d.W i,10,none⟩=some (.bool (decide (i<J.n/\J.len i<=((J.ar J.n).w i).got.length)))
inductive IsS(cV:Value)(lb lc n come cb res:Nat)(most:Int):Act->Prop
 |mk (u4 u5 u8 u9 sr mF mG mb lr kE u16 ku kF kG kH mf mg u23 u24 mh u26 kI u28 kJ kK lu u32 u33 lx ly lz lA mi mj mD ny nz pq u44 pw nA nB nC nD nE nG nH si sj tS tT wK wL wM wN wO wP wQ u64 wR wT Gn Gp Gq BN BO BP Eb Ec Ed Ee Ef Gr Gs Gt Ky Kz KA KB KC KD KE KF KG KH KI KJ KL KM VX VY VZ V0 V2 Em En Eo Er Es Et:Value):IsS cV lb lc n come cb res most {tmps:=#[cV,.slice (some ⟨lb,0,none⟩) n lc,.chan (some come),.pointer (some ⟨cb,0,none⟩),u4,u5,.pointer (some ⟨res,0,none⟩),.int .i64 most,u8,u9,sr,mF,mG,mb,lr,kE,u16,ku,kF,kG,kH,mf,mg,u23,u24,mh,u26,kI,u28,kJ,kK,lu,u32,u33,lx,ly,lz,lA,mi,mj,mD,ny,nz,pq,u44,pw,nA,nB,nC,nD,nE,nG,nH,si,sj,tS,tT,wK,wL,wM,wN,wO,wP,wQ,u64,wR,wT,Gn,Gp,Gq,BN,BO,BP,Eb,Ec,Ed,Ee,Ef,Gr,Gs,Gt,Ky,Kz,KA,KB,KC,KD,KE,KF,KG,KH,KI,KJ,KL,KM,VX,VY,VZ,V0,V2,Em,En,Eo,Er,Es,Et],defers:=[]}
structure ZP(J:eM σ)(wk tu ha:Option Addr)(wc tc hc:Nat)(a0 w:World):Prop where
 size:w.heap.size=a0.heap.size+2
 old:∀b,b<a0.heap.size->w.heap[b]? =a0.heap[b]?
 c:w.heap[a0.heap.size]? =some (.cells (aC wk tu ha J.n wc J.c.turns.length tc J.c.halt.length hc J.c.until_) 25 (0,0))
 res:w.heap[a0.heap.size+1]? =some (.cells #[.slice none 0 0,.slice none 0 0,.int .i64 0,.bool false] 31 (0,0))
theorem GH{Stop:Ph->Frame->List Frame->World->Prop}(hcs:NE (d.cs0)){wk tu:Option Addr}(C:PCall J d wk tu ha wc tc hc lb lc a0){cV:Value}(UJ:cV=.agg (aC wk tu ha J.n wc J.c.turns.length tc J.c.halt.length hc J.c.until_)){tail:Code}
   (hQ:∀a' w',IsS cV lb lc J.n d.come a0.heap.size (a0.heap.size+1) J.c.most a'->ZP J wk tu ha wc tc hc a0 w'->
   wpM prog true d.cs0 (JP prog S d.cs0 λd=>J.bE d.W) Stop U 75 tail Q (.run J.n d) a' w'):
  wpM prog true d.cs0 (JP prog S d.cs0 λd=>J.bE d.W) Stop U 75 (.seq cz.l (.seq cz.r.l (.seq cz.r.r.l tail))) Q (.run J.n d) {tmps:=#[cV,.slice (some ⟨lb,0,none⟩) J.n lc,.chan (some d.come)] ++Array.replicate 103 undef,defers:=[]} a0:=by
 have HQ:=ai hQ;clear hQ;have vu:J.c.most=if J.c.until_=0 then 20000 else J.c.until_:=rfl
 have mB:=C.un;clear C;walk_nrm;have hB:ZP J wk tu ha wc tc hc a0 ((a0.alloc (.cells (aC wk tu ha J.n wc J.c.turns.length tc J.c.halt.length hc J.c.until_) 25)).alloc (.cells #[.slice none 0 0,.slice none 0 0,.int .i64 0,.bool false] 31)):=by
  refine⟨au,λb hb=>?_,?_,?_⟩
  ·simp only[←cG,cF,fV];rw[if_neg ae,if_neg ae]
  ·simp only[←cG,cF,fV];rw[if_neg ae,if_pos trivial]
  ·simp only[←cG,cF,fV];rw[if_pos trivial]
 have HB:=ai hB;clear hB;simp only[aC]at HB UJ;generalize J.c.most=most at*;subst UJ;simp only[cz,f75,Code.l,Code.r,bJ];iterate 2
  refine VG λτ=>?_
 by_cases h0:J.c.until_=0
 ·have h1:(J.c.until_:Int)=0:=ae;have H1:=ai h1;have H0:=ai h0;rw[if_pos h0]at vu;subst vu;clear h0 h1;refine l2y λτ=>?_;refine aH (t:=true) (by simp[Act.eval,H0.out]) ?_;simp only[if_true];refine wpM_lone fH hcs ax (l8 rfl) (xT _ az _) (λτ=>?_);go_wp2;refine qK ?_;exact HQ.out _ _ (IsS.mk ..) HB.out
 ·rw[if_neg h0]at vu;subst vu;have H0:=ai h0;clear h0;refine l2y λτ=>?_;refine aH (t:=false) (by simp[Act.eval,H0.out]) (dm ?_);try simp only[Exit.then]
  exact HQ.out _ _ (IsS.mk ..) HB.out
theorem GJ{Stop:Ph->Frame->List Frame->World->Prop}(hcs:NE (d.cs0)){wk tu:Option Addr}(C:PCall J d wk tu ha wc tc hc lb lc a0){cV:Value}(hA:IsS cV lb lc J.n d.come a0.heap.size (a0.heap.size+1) J.c.most a)(PB:ZP J wk tu ha wc tc hc a0 w){tail:Code}
   (hQ:∀a' w' ob sb rb,Qv cV lb lc J.n d.come a0.heap.size (a0.heap.size+1) ob sb rb J.c.most a'->PSet J d ⟨wk,tu,ha,wc,tc,hc,lb,lc,a0.heap.size,a0.heap.size+1,ob,sb,rb⟩ a0->ky J d ⟨wk,tu,ha,wc,tc,hc,lb,lc,a0.heap.size,a0.heap.size+1,ob,sb,rb⟩ a0 J.n false w'->
   wpM prog true d.cs0 (JP prog S d.cs0 λd=>J.bE d.W) Stop U 75 tail Q (.run J.n d) a' w'):
  wpM prog true d.cs0 (JP prog S d.cs0 λd=>J.bE d.W) Stop U 75 (.seq cz.r.r.r.l (.seq cz.r.r.r.r.l (.seq cz.r.r.r.r.r.l tail))) Q (.run J.n d) a w:=by
 have hN:=λτ=>new_any tu tc J.c.turns (w.tp τ) (by
  rcases C.tu.ex with h|⟨tb,to,rfl,h⟩
  ·exact⟨.inl h⟩
  ·exact⟨.inr ⟨tb,to,rfl,λi hi=>by have h:=h i hi;have hb:=dw a0 _ h;rw[←h];exact bP (w:=a0) (PB.old tb hb)⟩⟩) C.tl
 have hn:=C.n;have c1:=cO PB.c 1;have hmk:=run_make_row' (P:=prog) 22 3 (.int .i64 0) 8 underlying22 Ei rfl .i64 .i64 J.n ae ae;have hend:∀(ob:Nat) (w1:World),OrderAt w1 w.heap.size ob J.c.turns (-1)->w.heap.size<=ob->w.heap.size<=w1.heap.size->(∀b,b<w.heap.size->w1.heap[b]? =w.heap[b]?)->
   PSet J d ⟨wk,tu,ha,wc,tc,hc,lb,lc,a0.heap.size,a0.heap.size+1,ob,w1.heap.size,w1.heap.size+1⟩ a0/\ky J d ⟨wk,tu,ha,wc,tc,hc,lb,lc,a0.heap.size,a0.heap.size+1,ob,w1.heap.size,w1.heap.size+1⟩ a0 J.n false
    ((w1.alloc (.cells (qY J.n λ_=>0) 3)).alloc (.cells #[.slice none 0 0,.slice none 0 0,.int .i64 0,.bool false] 31)):=λob w1 hO IG hs1 hw=>by
  have aef:ob<w1.heap.size:=by obtain⟨la,lc,h,_⟩:=hO.ex;exact(aQ.1 h).1
  have hsz:=PB.size;have hold:∀b,b<w1.heap.size->((w1.alloc (.cells (qY J.n λ_=>0) 3)).alloc (.cells #[.slice none 0 0,.slice none 0 0,.int .i64 0,.bool false] 31)).heap[b]? =w1.heap[b]? :=λb hb=>by simp only[←cG,cF,fV];rw[if_neg ae,if_neg ae]
  have hH:PSet J d ⟨wk,tu,ha,wc,tc,hc,lb,lc,a0.heap.size,a0.heap.size+1,ob,w1.heap.size,w1.heap.size+1⟩ a0:=⟨C.n,C.lc,C.lbl,rfl,rfl,kT,aef,au,C.W,C.l,C.h⟩;refine⟨hH,aY _,?_⟩;have e0:J.ar J.n=AR.wI J.c J.s0:=J.qL (aY _);refine⟨au,λb o h1 h2 h3=>?_,?_,?_,?_,?_,?_,λi hi=>?_⟩
  ·have:=(aQ.1 h1).1;rw[hold b ae,hw b ae,PB.old b this];exact h1
  ·rw[hold _ kT,hw _ kT];exact PB.c
  ·rw[hold _ kT,hw _ kT];exact PB.res
  ·simp only[←cG,cF,fV];rw[if_pos trivial,Nat.sub_self];rfl
  ·simp only[←cG,cF,fV];rw[if_neg ae,if_pos trivial,e0];rfl
  ·rw[e0];refine OrderAt.same (w:=w1) ?_ (λb _ h=>hold b (by simp only at h;omega)) kT;rw[←hsz];exact hO
  ·obtain⟨h1,h2⟩:=C.eyes i hi;have hW:=C.W i hi;have e:((w1.alloc (.cells (qY J.n λ_=>0) 3)).alloc (.cells #[.slice none 0 0,.slice none 0 0,.int .i64 0,.bool false] 31)).heap[d.W i]? =a0.heap[d.W i]? :=(by rw[hold _ ae,hw _ ae,PB.old _ hW]);exact⟨by rw[←h1];exact bP (w:=a0) e,by rw[←h2];exact bP (w:=a0) e⟩
 have yv:(qY J.n λ_=>0)=madeCells #[.int .i64 0] J.n:=by
  apply Array.ext
  ·simp[qY,size_madeCells]
  ·intro i h1 h2;simp[qY,madeCells,Nat.mod_one]
 rw[yv]at hend;have HQ:=ai hQ;have HE:=ai hend;have HN:=ai hN;clear hQ hend hN C PB yv;cases hA;simp only[cz,f75,Code.l,Code.r,bJ];refine wpM_seq (wpM_lone fH hcs ax (l8 rfl) (xT _ az _) (λτ=>?_));have HN:=ai (HN.out τ);go_wp2_with (go_at_call 118;refine HN.out.mono ?_;rintro e w1 ⟨ob,rfl,hO,IG,hb⟩)
 have HE:=ai (HE.out ob w1 hO IG hb.size hb.block);clear hO IG hb;refine⟨w1,⟨rfl,rfl,rfl⟩,?_⟩;try simp only[Exit.then]
 iterate 2
  refine VG λτ=>?_
 exact HQ.out _ _ _ _ _ (Qv.mk ..) HE.out.1 HE.out.2
theorem OV{Stop:Ph->Frame->List Frame->World->Prop}(hcs:NE (d.cs0))(B:OG J d){wk tu:Option Addr}(C:PCall J d wk tu ha wc tc hc lb lc a0)(hgot:∀t i,i<J.n->((J.ar t).w i).got.length<100000):
  CallsM prog true d.cs0 (JP prog S d.cs0 λd=>J.bE d.W) Stop U (.run J.n d) 75 #[.agg (aC wk tu ha J.n wc J.c.turns.length tc J.c.halt.length hc J.c.until_),.slice (some ⟨lb,0,none⟩) J.n lc,.chan (some d.come)] a0
   (λi' v w'=>∃t w0,i'=.read t d w0/\Ex J d a0 t w0 v w'):=by
 have hsm:J.c.most<=20000:=by unfold bq.most;have:=C.un;split<;>omega
 refine aX func75 (c:=cz) bF ?_;rw[show(f75).ntmps- (#[Value.agg (aC wk tu ha J.n wc J.c.turns.length tc J.c.halt.length hc J.c.until_),Value.slice (some ⟨lb,0,none⟩) J.n lc,Value.chan (some d.come)]:Array Value).size=103 from rfl,OT];refine GH hcs C rfl λa1 w1 F7 PB=>?_;refine GJ hcs C F7 PB λa2 w2 ob sb rb qI H P=>?_;refine wpM_seq (di (KQ hcs hsm H B (cut:=false) (t:=J.n) (by exact qI) P ae) ?_);rintro i3 e3 a3 w3 ⟨rfl,t,rfl,hno,CV,P3,ht⟩;simp only[Exit.then];refine SB (R1:=λi' a'=>i'=Ph.read t d a') (R2:=λa'=>uR d (J.bE d.W) t w3 a') (λfr fs=>.inr rfl) ?_;rintro i4 w4 rfl RV;obtain⟨I,nv⟩:=OU H B P3 RV (hgot t);have hr4:w4.heap[rb]? =some (.cells #[.slice none 0 0,.slice none 0 0,.int .i64 ((t-J.n:Nat):Int),.bool ((J.ar t).any J.c)] 31 (0,0)):=RV.same _ _ P3.at_.r aJ;have XJ:w4.heap[a0.heap.size+1]? =some (.cells #[.slice none 0 0,.slice none 0 0,.int .i64 0,.bool false] 31 (0,0)):=RV.same _ _ P3.at_.res aJ;refine wpM_seq (di (SQ hcs I H.lc CV hr4) ?_);rintro i5 e5 a5 w5 ⟨rfl,rfl,ZH,C5⟩;simp only[Exit.then];obtain⟨va,vo,rS,hr,h1,h2,h3,h4⟩:=C5.ex;obtain⟨aa,ca,rfl⟩:∃aa ca,va=.slice aa J.n ca:=by
  rcases h1.2 with⟨rfl,e⟩|⟨g,cap,cur,rfl,_⟩
  ·exact⟨none,0,by rw[e]⟩
  ·exact⟨_,_,rfl⟩
 obtain⟨ao,no,co,YA,rfl⟩:∃ao no co,no=(dc (J.ar t).w J.n).length/\vo=.slice ao no co:=by
  rcases h2.2 with⟨rfl,e⟩|⟨g,cap,cur,rfl,_⟩
  ·exact⟨none,0,0,e.symm,rfl⟩
  ·exact⟨_,_,_,rfl,rfl⟩
 have hne:a0.heap.size+1≠rb:=by have h6:=H.rb;have h7:=H.sb;have h8:=H.ob;simp only at h6 h7 h8;omega
 have Om:a0.heap.size+2<=w4.heap.size:=by have h6:=H.rb;have h7:=H.sb;have h8:=H.ob;have h9:=P3.at_.size;rw[RV.size];simp only at h6 h7 h8 h9;omega
 have hres:w5.heap[a0.heap.size+1]? =some (.cells #[.slice none 0 0,.slice none 0 0,.int .i64 0,.bool false] 31 (0,0)):=by rw[C5.old _ ae hne];exact XJ
 have hout:Ex J d a0 t w4 (.agg #[(.slice aa J.n ca),(.slice ao no co),.int .i64 ((t-J.n:Nat):Int),.bool ((J.ar t).any J.c)]) ((((w5.setCell ⟨a0.heap.size+1,0,none⟩ (.slice aa J.n ca)).setCell ⟨a0.heap.size+1,1,none⟩ (.slice ao no co)).setCell ⟨a0.heap.size+1,2,none⟩ (.int .i64 ((t-J.n:Nat):Int))).setCell ⟨a0.heap.size+1,3,none⟩ (.bool ((J.ar t).any J.c))):=by
  have bT:∀b,b≠a0.heap.size+1->((((w5.setCell ⟨a0.heap.size+1,0,none⟩ (.slice aa J.n ca)).setCell ⟨a0.heap.size+1,1,none⟩ (.slice ao no co)).setCell ⟨a0.heap.size+1,2,none⟩ (.int .i64 ((t-J.n:Nat):Int))).setCell ⟨a0.heap.size+1,3,none⟩ (.bool ((J.ar t).any J.c))).heap[b]? =w5.heap[b]? :=λb hb=>by rw[ah hb,ah hb,ah hb,ah hb]
  have hsz:((((w5.setCell ⟨a0.heap.size+1,0,none⟩ (.slice aa J.n ca)).setCell ⟨a0.heap.size+1,1,none⟩ (.slice ao no co)).setCell ⟨a0.heap.size+1,2,none⟩ (.int .i64 ((t-J.n:Nat):Int))).setCell ⟨a0.heap.size+1,3,none⟩ (.bool ((J.ar t).any J.c))).heap.size=w5.heap.size:=gF;have h5s:=C5.size;refine⟨hno,⟨P3.le,ht⟩,⟨ae,by rw[hsz];exact C5.size⟩,λb o a1 a2 a3=>?_,λb hb=>?_,(.slice aa J.n ca),(.slice ao no co),rS,rfl,own_same h1 λg hg=>bT g (by have:=dH h1 hg;omega),own_same h2 λg hg=>bT g (by have:=dH h2 hg;omega),λi hi=>?_⟩
  ·have hb:=(aQ.1 a1).1;rw[bT b ae,C5.old b ae (show b≠rb by have h6:=H.rb;have h7:=H.sb;have h8:=H.ob;simp only at h6 h7 h8;omega)];exact RV.same _ _ (P3.at_.old b o a1 a2 a3) a2
  ·obtain⟨b1,b2,b3,b4⟩:=nv b hb;exact⟨b1,by rw[bT b b3];exact C5.old b b1 b2,b4⟩
  ·obtain⟨sl,g1,g2,g3,g4⟩:=h4 i hi;have hb:∀b,bs w5 sl b->b≠a0.heap.size+1:=λb hb=>by
    rcases g4 b hb with h|h
    ·have:=(g3 b h).1;omega
    ·exact(nv b ⟨i,by rw[B.j];exact hi,h⟩).2.2.1
   refine⟨sl,g1,eX (λx hx=>bP (w:=w5) (bT _ (hb _ hx))) g2,λg hg=>?_,λb CY=>g4 b ?_⟩
   ·obtain⟨k1,k2,_⟩:=g3 g hg;exact⟨k1,by rw[hsz];exact k2⟩
   ·exact(sblocks_same (w:=w5) (sl:=sl) (λx n e h1 o=>bP (w:=w5) (bT _ (hb x.block ⟨x,n,e,h1,.inl rfl⟩))) b).1 CY
 have q0:=cO hr 0;have q1:=cO hr 1;have q2:=cO hr 2;have q3:=cO hr 3;have y0:=cO hres 0;have y1:=cO hres 1;have y2:=cO hres 2;have y3:=cO hres 3;have z0:=zO hres 0;have z1:=zO hres 1;have z2:=zO hres 2;have z3:=zO hres 3;have HO:=ai hout;subst YA;clear hout hr h1 h2 h3 h4 C5 I nv hr4 XJ RV P3 CV H P qI PB F7 hres hgot C B;generalize hb1:a0.heap.size+1=res at*;cases ZH;simp only[dQ,cz,f75,Code.l,Code.r,bJ];refine wpM_seq (wpM_lone fH hcs ax (l8 rfl) (xT _ az _) (λτ=>?_));go_wp2;refine⟨_,aN _ _,bn ⟨rfl,_,?_,t,w4,rfl,HO.out⟩⟩;simp[results,go_sem, *]
end
end
section
open Go Go.Conc Go.ConcN
variable[Inhabited bO]
section
variable{Wk:Nat}{xs:List (Addr×Value)}{B':Nat}
theorem MW(O:d.Ok)(h1:d.come≠tk)(h2:d.gone≠tk)(h3:d.Wg≠tk)(h4:∀i,i<d.j->d.turn i≠tk)(h5:∀x∈xs,x.1.block≠d.Wg):(d.grow Wk tk fk xs gN iX B').Ok:=by
 refine⟨O.cw,O.cg,λi hi=>?_,λi hi=>?_,λi i' hi hi' e=>?_,O.wc,O.wg,λi hi=>?_,λi hi x hx=>?_,O.roC⟩;all_goals simp only[aK.grow]at*
 ·split
  ·exact h1
  ·exact O.ct i ae
 ·split
  ·exact h2
  ·exact O.gt i ae
 ·by_cases a:i=d.j<;>by_cases b:i'=d.j
  ·omega
  ·rw[if_pos a,if_neg b]at e;exact absurd e.symm (h4 i' ae)
  ·rw[if_neg a,if_pos b]at e;exact absurd e (h4 i ae)
  ·rw[if_neg a,if_neg b]at e;exact O.tt i i' ae ae e
 ·split
  ·exact h3
  ·exact O.wt i ae
 ·split at hx
  ·exact h5 x hx
  ·exact O.wf i ae x hx
theorem SR(X:d.Fit)(O':(d.grow Wk tk fk xs gN iX B').Ok)(h1:∃f,iX Wk=some f)(h2:∀x∈xs,∃f,iX x.1.block=some f/\f.1<=x.1.off/\x.1.off<f.2)(h3:fk.1=0)
  (h4:∀x∈xs,(x.1.block=Wk/\fk.1<=x.1.off/\x.1.off<fk.2)\/(x.1.block≠Wk/\∀i,i<d.j->x.1.block≠d.W i))(h5:∀i,i<d.j->∀x∈d.facts i,x.1.block≠Wk)(h6:iX d.C=none)(h7:d.C≠Wk)(h8:d.ro Wk=none)(h9:gN≠[])(h10:∀i,i<d.j->d.W i≠Wk):(d.grow Wk tk fk xs gN iX B').Fit:=by
 refine⟨O',λi hi=>?_,λi hi x hx=>?_,λb f hf=>?_,λi hi=>?_,λi hi x hx=>?_,λi=>?_,?_,X.ro0,λi hi=>?_,X.rowg,X.cs0,λi=>?_⟩;all_goals simp only[aK.grow]at*
 ·split
  ·exact h1
  ·exact X.fwW i ae
 ·split at hx
  ·rename_i e;simp only[e,if_true];exact h2 x hx
  ·rename_i e;simp only[e,if_false];exact X.fwf i ae x hx
 ·split at hf
  ·rename_i e;obtain rfl:=aP hf;exact⟨h3,d.j,ae,by rw[if_pos rfl];exact e⟩
  ·obtain⟨a,i,hi,e⟩:=X.fmW b f hf;exact⟨a,i,ae,by rw[if_neg ae];exact e⟩
 ·by_cases e:i=d.j
  ·simp only[e,if_true];exact⟨_,rfl⟩
  ·simp only[e,if_false];rw[if_neg (h10 i ae)];exact X.Wfm i ae
 ·split at hx
  ·rcases h4 x hx with⟨a,b⟩|⟨a,b⟩
   ·left;rw[if_pos a];exact⟨_,rfl,b⟩
   ·right;intro i' hi';split
    ·exact a
    ·exact b i' ae
  ·rename_i e;have hne:=h5 i ae x hx;rcases X.ffm i ae x hx with⟨f,a,b⟩|a
   ·left;rw[if_neg hne];exact⟨f,a,b⟩
   ·right;intro i' hi';split
    ·exact hne
    ·exact a i' ae
 ·split
  ·exact h6
  ·exact X.roC i
 ·rw[if_neg h7];exact X.rom
 ·split
  ·exact h8
  ·exact X.roW i ae
 ·split
  ·exact h9
  ·exact X.csw i
end
section
structure Squad(J:eM σ)(d0 d:aK)(nb:Nat->Nat):Prop where
 E:Ext d0 d
 fit:d.Fit
 fm:∀i,i<d.j->d.fm (d.W i)=some (0,12)
 facts:∀i,i<d.j->d.facts i=eN (d.W i) i (d.turn i) d.come d.gone (nb i)
 lt:∀i,i<d.j->d.W i<d.B/\nb i<d.B/\d.turn i<d.B/\d.Wg<d.W i/\d.Wg<nb i/\d.Wg<d.turn i
 low:d.come<d.Wg/\d.gone<d.Wg/\d.C<d.Wg/\d.Wg<d.B
 ro:∀b,d.ro b≠none->b<d.Wg
theorem jm{W turn gone nb:Nat}{x:Addr×Value}(h:x∈eN W k turn come gone nb):(x.1.block=W/\x.1.off<5/\x∈(eN W k turn come gone nb).take 5)\/(x.1.block=nb/\x.1.off=0/\x=(⟨nb,0,none⟩,.pointer (some ⟨W,0,none⟩))):=by simp only[eN,dM,pK,or_false]at h;rcases h with rfl|rfl|rfl|rfl|rfl|rfl<;>simp[eN]
def p8(W nb:Nat)(b:Nat):Option (Nat×Nat):=if b=W then some (0,5)else if b=nb then some (0,1)else none
def aK.join(d:aK)(Wk tk mo:Nat)(gN:List Frame):aK:=d.grow Wk tk (0,12) (eN Wk d.j tk d.come d.gone mo) gN (p8 Wk mo) (mo+1)
theorem Squad.join(S:Squad J d0 d nb){Wk:Nat}(h1:d.B<=tk)(h2:d.B<=Wk)(h3:Wk<mo)(h4:tk<mo)(hcw:gN≠[]):
  Squad J d0 (d.join Wk tk mo gN) (λi=>if i=d.j then mo else nb i)/\(d.grow Wk tk (0,12) ((eN Wk d.j tk d.come d.gone mo).take 5) gN (p8 Wk mo) (mo+1)).Ok:=by
 have L:=S.low;have E':Ext d (d.join Wk tk mo gN):=zQ d ae;have hro:∀b,d.ro b≠none->b<d.B:=λb hb=>by have:=S.ro b hb;omega
 have hxs:∀x∈eN Wk d.j tk d.come d.gone mo,x.1.block≠d.Wg:=λx hx=>by rcases jm hx with⟨h,_⟩|⟨h,_⟩ <;>(rw[h];omega)
 have O':(d.join Wk tk mo gN).Ok:=MW S.fit.ok ae ae ae (λi hi=>by have:=(S.lt i hi).2.2.1;omega) hxs;have hW:∀i,i<d.j->d.W i≠Wk:=λi hi=>by have:=(S.lt i hi).1;omega
 refine⟨⟨⟨E'.P.trans S.E.P,E'.S.trans S.E.S,cn S.E.j E'.j,E'.base.trans S.E.base,E'.come.trans S.E.come,E'.gone.trans S.E.gone,E'.Wg.trans S.E.Wg,E'.C.trans S.E.C,cn S.E.B E'.B,E'.ty.trans S.E.ty,E'.csC.trans S.E.csC,E'.eC.trans S.E.eC,E'.cs0.trans S.E.cs0,E'.ro.trans S.E.ro,λi hi=>(E'.turn i (fp hi S.E.j)).trans (S.E.turn i hi),λi hi=>(E'.W i (fp hi S.E.j)).trans (S.E.W i hi),λi hi=>(E'.facts i (fp hi S.E.j)).trans (S.E.facts i hi),λi hi=>(E'.cw i (fp hi S.E.j)).trans (S.E.cw i hi),λi hi=>(E'.fw i (fp hi S.E.j)).trans (S.E.fw i hi)⟩,?_,λi hi=>?_,λi hi=>?_,λi hi=>?_,⟨L.1,L.2.1,L.2.2.1,by show d.Wg<mo+1;omega⟩,S.ro⟩,MW S.fit.ok ae ae ae (λi hi=>by have:=(S.lt i hi).2.2.1;omega) λx hx=>hxs x (List.mem_of_mem_take hx)⟩
 ·refine SR S.fit O' ⟨(0,5),by simp[p8]⟩ (λx hx=>?_) rfl (λx hx=>?_) (λi hi x hx=>?_) ?_ ae ?_ hcw hW
  ·rcases jm hx with⟨h,h',_⟩|⟨h,h',_⟩
   ·exact⟨(0,5),by simp[p8,h],bj _,h'⟩
   ·exact⟨(0,1),by simp[p8,h];omega,bj _,by rw[h'];exact Nat.zero_lt_one⟩
  ·rcases jm hx with⟨h,h',_⟩|⟨h,h',_⟩
   ·exact .inl ⟨h,bj _,kT⟩
   ·exact .inr ⟨ae,λi hi=>by have:=(S.lt i hi).1;omega⟩
  ·rw[S.facts i hi]at hx;have:=S.lt i hi;rcases jm hx with⟨h,_⟩|⟨h,_⟩ <;>omega
  ·have h1:¬d.C=Wk:=ae;have h2:¬d.C=mo:=ae;simp[p8,h1,h2]
  ·cases e:d.ro Wk with
   |none=>rfl
   |some f=>have:=hro Wk lY;omega
 ·show(if(if i=d.j then Wk else d.W i)=Wk then some (0,12)else d.fm (if i=d.j then Wk else d.W i))=_;have hi:i<d.j+1:=hi;by_cases e:i=d.j
  ·simp[e]
  ·simp only[if_neg e];rw[if_neg (hW i ae)];exact S.fm i ae
 ·have hi:i<d.j+1:=hi;show(if i=d.j then _ else d.facts i)=eN (if i=d.j then Wk else d.W i) i (if i=d.j then tk else d.turn i) d.come d.gone (if i=d.j then mo else nb i);by_cases e:i=d.j
  ·simp[e]
  ·rw[if_neg e,if_neg e,if_neg e,if_neg e];exact S.facts i ae
 ·have hi:i<d.j+1:=hi;show(if i=d.j then Wk else d.W i) <mo+1/\(if i=d.j then mo else nb i) <mo+1/\(if i=d.j then tk else d.turn i) <mo+1/\d.Wg< (if i=d.j then Wk else d.W i)/\d.Wg< (if i=d.j then mo else nb i)/\d.Wg< (if i=d.j then tk else d.turn i);by_cases e:i=d.j
  ·simp only[e,if_true];omega
  ·simp only[e,if_false];have:=S.lt i ae;omega
end
end
section
open Go Go.Conc Go.ConcN Go.RowKit Go.Conc.Lib Go.ConcR.Gen Go.ConcN.Gen
open Go.ConcR (KK wgBlock WgAt stA smA rd wr mk Payload Aside2 DC0)
variable[Inhabited bO]
structure SS(d:aK)(r:World)(n:Nat)(w:World):Prop where
 size:w.heap.size=r.heap.size+n
 old:∀b,b<r.heap.size->b≠d.Wg->w.heap[b]? =r.heap[b]?
 keep:d.K w
 os:w.os=r.os/\w.output=r.output
section
variable{r w w₁:World}{n h:Nat}
theorem SS.rely(O:d.Ok)(hr:RH d.cc w w₁)(F:SS d r n w):SS d r n w₁:=⟨hr.size.trans F.size,λb h1 h2=>(hr.block b h2).trans (F.old b h1 h2),(ln O).keep _ _ hr.g F.keep,hr.os.trans F.os.1,hr.output.trans F.os.2⟩
theorem ZQ{a:Addr}(h:a.block≠d.Wg):W9 d.cc ⟨.cell a,false,false⟩:=by
 refine⟨λx hx=>⟨λg hg=>?_,λhs=>?_⟩,au,au,au⟩
 ·simp only[MemAct.ofEvent,MemAct.touch?,cu]at hx;subst hx;rfl
 ·simp only[MemAct.ofEvent,MemAct.touch?,cu]at hx;subst hx;obtain⟨y,hy,hb⟩:=hs;simp only[Loc.cell.injEq]at hy;subst hy;exact absurd hb h
theorem SS.read{es:Array Event}(he:∀e∈es,∃a:Addr,e=⟨.cell a,false,false⟩/\a.block≠d.Wg):FP d.cc Inb h w w es:=⟨id,λ_ _ _ _ _ _=>rfl,rfl,rfl,λe h=>by obtain⟨a,rfl,ha⟩:=he e h;exact ZQ ha⟩
theorem SS.alloc(hC:d.pd Inb)(F:SS d r n w)(o:Obj):FP d.cc Inb h w (w.alloc o) #[]/\SS d r (n+1) (w.alloc o)/\(w.alloc o).heap[w.heap.size]? =some o:=by
 have hold:∀b,b<w.heap.size->(w.alloc o).heap[b]? =w.heap[b]? :=λb hb=>by show(w.heap.push o)[b]? =_;rw[cF,if_neg ae]
 have old:∀(b:Nat) x,w.heap[b]? =some x->(w.alloc o).heap[b]? =some x:=λb x hx=>(hold b (aw hx)).trans hx;have Xe:d.K w->d.K (w.alloc o):=λ⟨⟨⟨st,sm,k1⟩,k2,k3⟩,⟨c1,k4⟩,⟨c2,k5⟩,k6,kx⟩=>⟨⟨⟨st,sm,old _ _ k1⟩,λi hi x hx=>by rw[←k2 i hi x hx];exact bP (w:=w) (hold _ (iK (k2 i hi x hx))),old _ _ k3⟩,⟨c1,old _ _ k4⟩,⟨c2,old _ _ k5⟩,λi hi=>by obtain⟨k,hk⟩:=k6 i hi;exact⟨k,old _ _ hk⟩,λb o h1 h2=>old _ _ (kx b o h1 h2)⟩;obtain⟨⟨⟨st,sm,k1⟩,k2,k3⟩,⟨c1,k4⟩,⟨c2,k5⟩,k6,_⟩:=id F.keep;refine⟨⟨Xe,λi s b _ hs hb=>?_,hold _ (aw k1),hold _ (aw k3),λe he=>by simp at he⟩,⟨by simp[F.size];omega,λb h1 h2=>by rw[hold b (by rw[F.size];omega)];exact F.old b h1 h2,Xe F.keep,F.os⟩,?_⟩
 ·rcases hC i s b hs hb with rfl|rfl|⟨k,hk,rfl⟩
  ·exact hold _ (aw k4)
  ·exact hold _ (aw k5)
  ·obtain⟨x,hx⟩:=k6 k hk;exact hold _ (aw hx)
 ·show(w.heap.push o)[w.heap.size]? =_;rw[cF,if_pos rfl]
end
theorem Ey{C Wg:Nat}{a b c:World}(h1:Aside2 C Wg a b)(h2:Aside2 C Wg b c):Aside2 C Wg a c:=⟨h2.tape.trans h1.tape,h2.os.trans h1.os,h2.output.trans h1.output,h2.size.trans h1.size,λk x y=>(h2.block k x y).trans (h1.block k x y)⟩
theorem SU(hP:d.P=prog)(E8:d.ty=link.tWg){b:Frame}{ops:Array Oper}{id:Nat}{k:List Item}{xs:Array Operand}(hk:b.kind≠.early)
  (ho:ops[0]? =some o)(hw:Region.wanted o (yielded ops a.tmps)=true)(hop:o.op=.call {callee:=.value (.func link.add),args:=xs,argTypes:=ats})(hxs:xs.map a.eval=#[.pointer (some ⟨d.Wg,0,none⟩),.int .i64 1])
  (hs:cZ.size=2)(ho0:cZ[0]? =some o0)(hw0:Region.wanted o0 (yielded cZ (a.put o.dst (.tuple #[])).tmps)=true)(tJ:∀w,(execOp (a.put o.dst (.tuple #[])).eval o0).runT prog w #[]=(.ok (.value v) w,#[]))(r:World)(Low:Nat)(hK:d.K r):
  ∃m,Goes d.P true (RC d.ty d.Wg d.C) (DP d.Wg BC d.cc.Rd d.j Low) (Mx d.P d.ty d.Wg d.C d.cc.Rd Low d.j (λg w=>g=bh (b.at ((a.put o.dst (.tuple #[])).put o0.dst v) (.inRegion cZ [1]:: .code z::k)) (fs++d.cs0)/\Aside2 d.C d.Wg r w)) m (bh (b.at a (.inRegion ops [0]:: .code (.seq (.region id cZ false) z)::k)) (fs++d.cs0)) r:=by
 rw[hP,E8];have hF2:∀w w',Aside2 d.C d.Wg w w'->Aside2 d.C d.Wg r w->Aside2 d.C d.Wg r w':=λw w' h1 h2=>Ey h2 h1;have hl:WgLive link.tWg d.Wg r:=by have:=hK.1.1;rwa [E8]at this
 refine⟨60,aeg (C:=d.C) (Rd:=d.cc.Rd) (Low:=Low) (j:=d.j) (mT:=4) (F:=Aside2 d.C d.Wg r) (b₀:=b) (a₀:=a) (ops₀:=ops) (i₀:=0) (rest₀:=[]) (k₀:=.code (.seq (.region id cZ false) z)::k) (cs:=fs++d.cs0) MC hF2 (λw hA hl=>?_) ho hw hk hop hxs r ⟨⟨rfl,rfl,rfl,rfl,λ_ _ _=>rfl⟩,hl⟩⟩;rw[ho];have hF:Aside2 d.C d.Wg r w/\WgLive link.tWg d.Wg w:=⟨hA,hl⟩;clear hA hl;change Goes prog true _ _ _ 4 (G (b.at (a.put o.dst (.tuple #[])) (.inRegion ops []:: .code (.seq (.region id cZ false) z)::k)) (fs++d.cs0)) w;u_c stepG_region_end (fl_rely hF2) hF
 u_c stepG_seq (fl_rely hF2) hF
 u_in (fl_rely hF2) hF
 rw[stepG_region,hs];simp only[goes_go];refine⟨by u_nil,?_⟩;refine bg rfl (λw₁ h₁=>?_);replace hF:=fl_rely hF2 hF h₁;clear h₁;have hg:=stepG_oper (P:=prog) (main:=true) (b:=b) (a:=a.put o.dst (.tuple #[])) (k:=.code z::k) (cs:=fs++d.cs0) (w:=w₁) (rest:=[1]) ho0 hw0;have oT:((b.at (a.put o.dst (.tuple #[])) (.inRegion cZ [0,1]:: .code z::k)).kind==CallKind.early)=false:=by show(b.kind==CallKind.early)=false;cases e:b.kind<;>first|rfl|exact absurd e hk
 have lS:(b.at (a.put o.dst (.tuple #[])) (.inRegion cZ [0,1]:: .code z::k)).finish v=b.at ((a.put o.dst (.tuple #[])).put o0.dst v) (.inRegion cZ [1]:: .code z::k):=by rw[fy,ho0];rfl
 have h:=hg.trans (gL (fr:=b.at (a.put o.dst (.tuple #[])) (.inRegion cZ [0,1]:: .code z::k)) (cs:=fs++d.cs0) oT (tJ w₁));rw[lS,show seen prog (b.at (a.put o.dst (.tuple #[])) (.inRegion cZ [0,1]:: .code z::k)).fn #[] ++ #[]=#[]from by simp[seen]]at h;change (stepG prog true (G (b.at (a.put o.dst (.tuple #[])) (.inRegion cZ [0,1]:: .code z::k)) (fs++d.cs0)) w₁).goes _;rw[show stepG prog true (G (b.at (a.put o.dst (.tuple #[])) (.inRegion cZ [0,1]:: .code z::k)) (fs++d.cs0)) w₁=_ from h];simp only[goes_go];refine⟨by u_nil,?_⟩;refine eK (λw₂ h₂=>?_);exact⟨rfl,(fl_rely hF2 hF h₂).1⟩
end
section
open Go Go.Conc Go.ConcN Go.RowKit
open Go.ConcR (KK wgBlock WgAt stA smA rd wr mk Payload Aside2 DC0)
variable[Inhabited bO]
section
structure gC(J:eM σ)(ro:Nat->Option (Nat×Nat))(k:Nat)(w:World)(cv:Value):Prop where
 ex:∃cb co cap,(cv=.slice (some ⟨cb,co,none⟩) (J.c.calls k).length cap\/(cv=.slice none 0 0/\J.c.calls k=[]))/\(J.c.calls k≠[]->ro cb≠none)/\
  ∀i c,(J.c.calls k)[i]? =some c->∃pv,w.cell? ⟨cb,co+i*5,none⟩=some (.int .i64 c.kind)/\w.cell? ⟨cb,co+i*5+1,none⟩=some (.int .i64 c.a)/\w.cell? ⟨cb,co+i*5+2,none⟩=some (.int .i64 c.b)/\w.cell? ⟨cb,co+i*5+3,none⟩=some (.int .i64 c.c)/\w.cell? ⟨cb,co+i*5+4,none⟩=some pv/\
   SlP w pv c.pairs/\∀y n e,pv=.slice (some y) n e->ro y.block≠none
def V4(ro:Nat->Option (Nat×Nat))(w:World):Prop:=∀b,ro b≠none->∃c e f,w.heap[b]? =some (.cells c e f)
theorem gC.same{ro:Nat->Option (Nat×Nat)}{w:World}(h:gC J ro k w cv)(hs:∀b,ro b≠none->∀x:Addr,x.block=b->w'.cell? x=w.cell? x):gC J ro k w' cv:=by
 obtain⟨cb,co,cap,h1,h2,h3⟩:=h.ex;refine⟨cb,co,cap,h1,h2,λi c hc=>?_⟩;have hne:J.c.calls k≠[]:=λe=>by rw[e]at hc;cases hc
 obtain⟨pv,a0,a1,a2,a3,a4,a5,a6⟩:=h3 i c hc;have hb:=λo=>hs cb (h2 hne) ⟨cb,o,none⟩ rfl;exact⟨pv,(hb _).trans a0,(hb _).trans a1,(hb _).trans a2,(hb _).trans a3,(hb _).trans a4,a5.same λx n e h y hy=>hs x.block (a6 x n e h) y hy,a6⟩
theorem gC.to{w:World}{s:σ}(h:gC J d.ro k w cv)(hL:J.L.Ok d.ro)(hr:J.L.Rep s w)(hro:V4 d.ro w)(hW:d.ro (d.W k)=none):Ah J d k w cv:=by
 have key:∀b,d.ro b≠none->b≠d.W k/\¬J.L.Foot w b/\∃o,w.heap[b]? =some o/\o≠cI:=λb hb=>by refine⟨λe=>hb (by rw[e];exact hW),λhf=>hb (hL.foot _ _ _ hr hf).2,?_⟩;obtain⟨c,e,f,hc⟩:=hro b hb;exact⟨_,hc,aJ⟩
 obtain⟨cb,co,cap,h1,h2,h3⟩:=h.ex;refine⟨cb,co,cap,h1,λhne=>?_,λi c hc=>?_⟩
 ·obtain⟨a,b,o,e,g⟩:=key cb (h2 hne);exact⟨a,b,h2 hne,o,e,g⟩
 ·obtain⟨pv,a0,a1,a2,a3,a4,a5,a6⟩:=h3 i c hc;exact⟨pv,a0,a1,a2,a3,a4,⟨pv,rfl,a5,λx n e h=>key _ (a6 x n e h)⟩,a6⟩
def DoSpec(J:eM σ)(ro:Nat->Option (Nat×Nat))(yR:Nat)(x:Value):Prop:=
 ∀(d:aK) (k nb tW:Nat),Hand J d k nb->d.ro=ro->∀c t w1 v,c∈J.c.calls k->Run J d tW k t true (t-J.n) (J.L.call k c) w1->CallV J d k w1 v c->
  CallsM prog false (d.cw k) (JW d (J.bE d.W) k) (λ_ _ _ _=>False) (nw d k) t yR #[x,.pointer (some ⟨d.W k,0,none⟩),v] w1 λt' v w'=>∃g' a,Run J d tW k t' g' (t-J.n) (.ret a) w'/\dW J d k w1 w'/\yz J w1.heap.size w' v a
structure Gig(J:eM σ)(ro:Nat->Option (Nat×Nat))(yR:Nat)(x dv:Value):Prop where
 L:J.L.Ok ro
 most:J.c.most<=20000
 tA:J.tA=48
 meth:∀(w:World) (args:Array Value),(callMethod dv "Do" args).runT prog w #[]=(.ok (.enter yR (#[x] ++args)) w,#[])
 do_:DoSpec J ro yR x
 got:∀t i,i<J.n->((J.ar t).w i).got.length<100000
 big:∀i,i<J.n->J.len i<100000
variable{yR Wk:Nat}{x dv:Value}{w:World}{rf:Frame}
theorem Squad.hand(Sq:Squad J d0 d nb)(hP:d.P=prog)(hbase:d.base=J.n)(hj:d.j<J.n)(h1:d.B<=tk)(h2:d.B<=Wk)(h3:Wk<mo)(h4:tk<mo):Hand J (d.join Wk tk mo [rf,bot]) d.j mo:=by
 obtain⟨S',_⟩:=Sq.join (gN:=[rf,bot]) h1 h2 h3 h4 au;have L:=Sq.low;have eW:(d.join Wk tk mo [rf,bot]).W d.j=Wk:=by show(if d.j=d.j then Wk else _)=_;rw[if_pos rfl]
 have ecw:(d.join Wk tk mo [rf,bot]).cw d.j=[rf,bot]:=by show(if d.j=d.j then [rf,bot]else _)=_;rw[if_pos rfl]
 refine⟨hP,S'.fit.ok,hbase,Nat.lt_succ_self _,hj,?_,λb=>?_,?_,λb hb=>?_,?_,?_⟩
 ·have:=S'.facts d.j (Nat.lt_succ_self _);rw[if_pos rfl]at this;exact this
 ·rw[eW];show(if d.j=d.j then p8 Wk mo else _) b=_;rw[if_pos rfl];rfl
 ·rw[eW];omega
 ·have hb:d.ro b≠none:=hb;have:=Sq.ro b hb;rw[eW];omega
 ·rw[eW];exact⟨by show Wk<mo+1;omega,by show mo<mo+1;omega⟩
 ·rw[ecw];simp
theorem SV(Sq:Squad J d0 d nb)(hj:d.j<J.n)(h1:d.B<=tk)(h2:d.B<=Wk)(h3:Wk<mo)(h4:tk<mo)(hsz:w.heap.size=mo)(G:Gig J d.ro yR x dv)(hNk:Nk Wk)
  (hW:w.heap[Wk]? =some (.cells (cy d.j tk d.come d.gone false 0 0 0 (.slice none 0 0)) tW (0,0)))(hro:V4 d.ro w)(hcalls:gC J d.ro d.j w cv)
  (F:First d (d.join Wk tk mo [rf,bot]) (J.bE (d.join Wk tk mo [rf,bot]).W) d.j Nk (.cells #[.pointer (some ⟨Wk,0,none⟩)] 117 (0,0)) w a0):
  LoopAt J (d.join Wk tk mo [rf,bot]) tW d.j mo 0 ⟨d.j+1,a0⟩ cv a0:=by
 obtain⟨S',_⟩:=Sq.join (gN:=[rf,bot]) h1 h2 h3 h4 au;have L:=Sq.low;have eW:(d.join Wk tk mo [rf,bot]).W d.j=Wk:=by show(if d.j=d.j then Wk else _)=_;rw[if_pos rfl]
 have et:(d.join Wk tk mo [rf,bot]).turn d.j=tk:=by show(if d.j=d.j then tk else _)=_;rw[if_pos rfl]
 have efw:(d.join Wk tk mo [rf,bot]).fw d.j=p8 Wk mo:=by show(if d.j=d.j then p8 Wk mo else _)=_;rw[if_pos rfl]
 have e0:J.ar d.j=AR.wI J.c J.s0:=J.qL ae;have e1:J.ar (d.j+1)=AR.wI J.c J.s0:=J.qL ae;have hinv:J.L.Rep J.s0 a0:=by have h:J.L.Rep (J.ar d.j).s a0:=F.inv;rw[e0]at h;exact h
 have Y9:a0.heap[Wk]? =some (.cells (cy d.j tk d.come d.gone false 0 0 0 (.slice none 0 0)) tW (0,5)):=by rw[F.own Wk hNk ae,hW,efw];simp[p8,qB]
 have jU:a0.heap[mo]? =some (.cells #[.pointer (some ⟨Wk,0,none⟩)] 117 (0,1)):=by have:=F.new;rw[hsz,efw]at this;rw[this,qB];have hne:¬mo=Wk:=ae;simp[p8,hne]
 have mE:∀b c e f,a0.heap[b]? =some (.cells c e f)->f≠(0,0)->¬J.L.Foot a0 b:=λb c e f h hf hF=>by obtain⟨⟨c',e',h'⟩,_⟩:=G.L.foot _ _ _ hinv hF;rw[h]at h';simp only[cu,sL]at h';exact hf h'.2.2
 have aeh:∀b,d.ro b≠none->b<d.B:=λb hb=>by have:=Sq.ro b hb;omega
 have yB:∀b,d.B<=b->d.ro b=none:=λb hb=>by
  cases e:d.ro b with
  |none=>rfl
  |some f=>have:=aeh b lY;omega
 refine⟨J.L.grefl _,⟨0,0,.slice none 0 0,?_⟩,by rw[e1];rfl,by rw[e1];rfl,Nat.lt_succ_self _,by rw[eW];exact jU,?_⟩
 ·rw[e1];refine⟨hinv,by rw[eW,et];exact Y9,⟨none,0,rfl,λi x h=>bY⟩,⟨λb hb=>?_,⟨[],rfl,.inl ⟨rfl,rfl⟩⟩,λx n e h=>bY⟩,λb f hf=>?_,⟨λb o p h=>bY,λ_=>rfl⟩⟩
  ·obtain⟨y,m,e,h,_⟩:=hb;cases h
  ·rw[efw]at hf;unfold p8 at hf;split at hf
   ·rename_i e;obtain rfl:=aP hf;subst e;exact⟨⟨_,_,Y9⟩,mE _ _ _ _ Y9 au,yB _ h2⟩
   ·split at hf
    ·rename_i e;obtain rfl:=aP hf;subst e;exact⟨⟨_,_,jU⟩,mE _ _ _ _ jU au,yB _ ae⟩
    ·cases hf
 ·have hc':gC J d.ro d.j a0 cv:=hcalls.same λb hb x hx=>bP (w:=w) (by rw[hx];exact F.ro b hb);exact gC.to (d:=d.join Wk tk mo [rf,bot]) hc' G.L hinv (λb hb=>by rw[F.ro b hb];exact hro b hb) (by rw[eW];exact yB _ h2)
end
end
section
open Go Go.Conc Go.ConcN Go.RowKit
structure cX where
 cell:Nat
 old:Int
 next:Int
structure qZ where
 es:List cX
 st:Nat
structure JS where
 ws:List Int
 ds:Nat->Option qZ
 made:Nat->Nat
namespace JS
def w(s:JS)(c:Nat):Int:=s.ws.getD c 0
def st(s:JS)(d:Nat):Nat:=((s.ds d).map (·.st)).getD 0
def es(s:JS)(d:Nat):List cX:=((s.ds d).map (·.es)).getD []
def uo(c:Nat)(o v:Int)(s:JS):JS:=if s.w c=o then{s with ws:=s.ws.set c v}else s
def decide(d v:Nat)(s:JS):JS:=if s.st d=0 then{s with ds:=λx=>if x=d then(s.ds d).map ({· with st:=v})else s.ds x}else s
def make(k:Nat)(es:List cX)(s:JS):JS:={s with ds:=λx=>if x=k+8*s.made k then some ⟨es,0⟩else s.ds x,made:=λx=>if x=k then s.made k+1 else s.made x}
end JS
def aI(d:Nat):Int:= -(d:Int) -1
def aU(h:Int):Int:=h / 1099511627776
abbrev oF(α:Type):=Go.Proofs.YtfmibhmknlnoiaaGreat.Pr JS α
section
open Go.Proofs.YtfmibhmknlnoiaaGreat.Pr
def casP(c:Nat)(o v:Int):oF Bool:=.line (.eff (JS.uo c o v) λs=>.ret (s.w c==o))
def installsP(fK:Nat->oF Bool)(d:Nat)(es:List cX):Nat->Nat->oF Bool
 |0,_=>.stop
 |f+1,i=>match es[i]? with
  |none=>.ret true
  |some e=>.line (.eff id λs=>if s.st d≠0 then .ret false else
    (casP e.cell e.old (aI d)).bind λok=>if ok then installsP fK d es f (i+1)else
     .line (.eff id λs=>if s.w e.cell=aI d then installsP fK d es f (i+1)else
      if s.w e.cell<0 then(fK (-(s.w e.cell) -1).toNat).bind λ_=>installsP fK d es f i else
       .line (.eff (JS.decide d 2) λ_=>.ret false)))
def iy(d:Nat)(is:Bool):List cX->oF Unit
 |[]=>.ret ()
 |e::es=>(casP e.cell (aI d) (if is then dg e.old e.next else e.old)).bind λ_=>iy d is es
def jI:Nat->Nat->oF Bool
 |0,_=>.stop
 |f+1,d=>.eff id λs=>(installsP (jI f) d (s.es d) f 0).bind λok=>(if ok then .line (.eff (JS.decide d 1) λ_=>.ret ())else .ret ():oF Unit).bind λ_=> .line (.eff id λs'=>(iy d (decide (s'.st d=1)) (s.es d)).bind λ_=>.ret (decide (s'.st d=1)))
def gh(F:Nat):Nat->Nat->oF Int
 |0,_=>.stop
 |f+1,c=>.line (.eff id λs=>if s.w c<0 then(jI F (-(s.w c) -1).toNat).bind λ_=>gh F f c else .ret (s.w c))
def doesP(F k:Nat)(es:List cX):oF (Bool×Int):=.eff id λs=>if 1024<=s.made k then .ret (false,261)else
 .eff (JS.make k es) λs=>(jI F (k+8*s.made k)).bind λok=>.ret (ok,0)
def againG(pr:β->Bool×Int)(q:oF β):Nat->oF β
 |0=>.stop
 |m+1=>q.bind λx=>if(pr x).1=true\/(pr x).2≠0 then .ret x else againG pr q m
def pT(F n:Nat)(c:Int):oF (Int×Int):=if 0<=c/\c<n then(gh F F c.toNat).bind λh=>.ret (aU h,0)else .line (.ret (0,262))
def gS(v:Int):Bool:=decide (0<=v/\v<=1048575)
def mq(F k a b:Nat)(sw:Bool)(m:Int):oF (Bool×Int):=(gh F F a).bind λh=>(gh F F b).bind λg=>
 let x:=if sw then aU h+m else aU h-m
 let y:=if sw then aU g-m else aU g+m
 let lo:=if sw then y else x
 let hi:=if sw then x else y
 if lo<0 then .ret (false,265)else if gS hi=false then .ret (false,263)else doesP F k [⟨a,h,x⟩,⟨b,g,y⟩]
def vw(F k n:Nat)(f t m:Int):oF (Bool×Int):=
 if¬(0<=f/\f<n)\/¬(0<=t/\t<n)\/f=t then .line (.ret (false,262))else if gS m=false then .line (.ret (false,263))else
  againG id (mq F k (min f t).toNat (max f t).toNat (decide (t<f)) m) F
def eZ(F:Nat):List Nat->oF (List Int)
 |[]=>.ret []
 |c::l=>(gh F F c).bind λh=>(eZ F l).bind λr=>.ret (h::r)
def iG(F k n:Nat):oF ((Bool×Int)×List Int):=(eZ F (List.range n)).bind λhs=>(doesP F k (hs.zipIdx.map λp=>⟨p.2,p.1,aU p.1⟩)).bind λr=>.ret (r,hs.map aU)
def sR(F k n:Nat):oF (List Int×Int):=(againG Prod.fst (iG F k n) F).bind λr=>if r.1.2≠0 then .ret ([],r.1.2)else .ret (r.2,0)
def tZ(e:Int)(n:Int)(l:List Int):dO:={ok:=decide (e=0),n:=n,m:=0,err:=e,ints:=l,pairs:=[]}
def jV(F n k:Nat)(c:bG):oF dO:=
 if c.kind=1 then(pT F n c.a).bind λr=>.ret (tZ r.2 r.1 [])else
 if c.kind=3 then(vw F k n c.a c.b c.c).bind λr=>.ret (tZ r.2 0 [])else
 if c.kind=4 then(sR F k n).bind λr=>.ret (tZ r.2 0 r.1)else .ret (tZ 260 0 [])
end
def dB(e:cX):List Value:=[Value.int .i64 e.cell,Value.int .i64 e.old,Value.int .i64 e.next]
def eR(D:qZ):Array Value:=(Value.int .i64 (D.es.length:Int)::D.es.flatMap dB++List.replicate (192-3*D.es.length) (Value.int .i64 0) ++[Value.int .i32 (D.st:Int)]).toArray
structure JS.Ok(s:JS):Prop where
 few:1<=s.ws.length/\s.ws.length<=64
 word:∀c,c<s.ws.length->(0<=s.w c/\s.w c<=1152921504606846975)\/∃d,d<8192/\s.w c=aI d/\s.ds d≠none
 desc:∀d D,s.ds d=some D->d<8192/\1<=D.es.length/\D.es.length<=64/\D.st<=2/\∀e∈D.es,e.cell<s.ws.length/\0<=e.old/\e.old<=1152921504606846975/\0<=e.next/\e.next<=1048575
 made:∀k,k<8->s.made k<=1024/\∀m,s.made k<=m->s.ds (k+8*m)=none
structure JRep(b c lo n:Nat)(s:JS)(w:World):Prop where
 ok:s.Ok
 len:s.ws.length=n
 ne:b≠c
 hlo:b<lo/\c<lo
 bb:∃cb e,w.heap[b]? =some (.cells cb e (0,0))/\cb.size=8201
 cc:∃e,w.heap[c]? =some (.cells (s.ws.map λx=>Value.int .i64 x).toArray e (0,0))
 hdr:w.cell? ⟨b,0,none⟩=some (.slice (some ⟨c,0,none⟩) n n)
 all:∀d,d<8192->match s.ds d with
  |none=>∃u,w.cell? ⟨b,1+d,none⟩=some u/\∀t,u≠.pointer (some t)
  |some D=>∃t,w.cell? ⟨b,1+d,none⟩=some (.pointer (some ⟨t,0,none⟩))/\lo<=t/\w.heap[t]? =some (.cells (eR D) 187 (0,0))
 made:∀k,k<8->w.cell? ⟨b,8193+k,none⟩=some (.int .i64 (s.made k))
 inj:∀d d' t,d<8192->d'<8192->w.cell? ⟨b,1+d,none⟩=some (.pointer (some t))->w.cell? ⟨b,1+d',none⟩=some (.pointer (some t))->d=d'
def bL(b c:Nat)(w:World)(x:Nat):Prop:=x=b\/x=c\/∃d t,d<8192/\w.cell? ⟨b,1+d,none⟩=some (.pointer (some t))/\x=t.block
def JG(b:Nat)(w w':World):Prop:=∀d t,d<8192->w.cell? ⟨b,1+d,none⟩=some (.pointer (some t))->w'.cell? ⟨b,1+d,none⟩=some (.pointer (some t))/\∀i,i<193->w'.cell? ⟨t.block,i,none⟩=w.cell? ⟨t.block,i,none⟩
def bA(F b c lo n:Nat):tR JS:={call:=jV F n,Rep:=JRep b c lo n,Foot:=bL b c,G:=JG b,grefl:=λ_ _ _ _ h=>⟨h,λ_ _=>rfl⟩,gtrans:=λ_ _ _ h g d t hd e=>⟨(g d t hd (h d t hd e).1).1,λi hi=>((g d t hd (h d t hd e).1).2 i hi).trans ((h d t hd e).2 i hi)⟩}
theorem xd{n:Nat}{ro:Nat->Option (Nat×Nat)}(hb:ro b=none)(hc:ro c=none)(hl:∀x,lo<=x->ro x=none):(bA F b c lo n).Ok ro:=by
 refine⟨λs w w' R h=>?_,λs w x R h=>?_,λs w w' R h d t hd e=>?_⟩
 ·have R:JRep b c lo n s w:=R;have h:∀x,bL b c w x->w'.heap[x]? =w.heap[x]? :=h;have CY:=h b (.inl rfl);have hcell:∀o,w'.cell? ⟨b,o,none⟩=w.cell? ⟨b,o,none⟩:=λo=>bP (w:=w) CY;refine⟨⟨R.ok,R.len,R.ne,R.hlo,by rw[CY];exact R.bb,by rw[h c (.inr (.inl rfl))];exact R.cc,by rw[hcell];exact R.hdr,λd hd=>?_,λk hk=>by rw[hcell];exact R.made k hk,λd d' t h1 h2 h3 h4=>R.inj d d' t h1 h2 (by rw[←hcell];exact h3) (by rw[←hcell];exact h4)⟩,λx=>?_⟩
  ·have ha:=R.all d hd;cases e:s.ds d with
   |none=>simp only[e]at ha⊢;rw[hcell];exact ha
   |some D=>simp only[e]at ha⊢;obtain⟨t,h1,h2,h3⟩:=ha;exact⟨t,by rw[hcell];exact h1,h2,by rw[h t (.inr (.inr ⟨d,_,hd,h1,rfl⟩))];exact h3⟩
  ·show bL b c w' x↔bL b c w x;unfold bL;simp only[hcell]
 ·have R:JRep b c lo n s w:=R;rcases h with rfl|rfl|⟨d,t,hd,h1,rfl⟩
  ·obtain⟨cb,e,h1,_⟩:=R.bb;exact⟨⟨_,_,h1⟩,hb⟩
  ·obtain⟨e,h1⟩:=R.cc;exact⟨⟨_,_,h1⟩,hc⟩
  ·have ha:=R.all d hd;cases e:s.ds d with
   |none=>simp only[e]at ha;obtain⟨u,h2,h3⟩:=ha;rw[h1]at h2;exact absurd (aP h2).symm (h3 t)
   |some D=>simp only[e]at ha;obtain⟨t',h2,h3,h4⟩:=ha;rw[h1]at h2;simp only[cu,Value.pointer.injEq]at h2;subst h2;exact⟨⟨_,_,h4⟩,hl _ h3⟩
 ·have h:∀x,bL b c w x->w'.heap[x]? =w.heap[x]? :=h;exact⟨(bP (w:=w) (h b (.inl rfl))).trans e,λi _=>bP (w:=w) (h t.block (.inr (.inr ⟨d,t,hd,e,rfl⟩)))⟩
section
variable{be0:Nat}{t t0:qD}{w:World}{p p0:Pr σ dO}{g g0:Bool}{f:σ->σ}{q:σ->Pr σ dO}
theorem V5(hL:J.L.Ok d.ro)(R0:Run J d tW k t0 g0 be0 p0 w0)(R:Run J d tW k t g be (.eff f q) w)(K:dW J d k w0 w):∃s,J.L.Rep s w/\∀w',J.L.Rep (f s) w'->J.L.G w w'->w.heap.size<=w'.heap.size->(∀b,b<w.heap.size->w'.heap[b]?≠w.heap[b]?->J.L.Foot w b)->(∀b,J.L.Foot w' b->J.L.Foot w b\/w0.heap.size<=b)->
  Run J d tW k t g be (q s) w'/\dW J d k w0 w':=by
 obtain⟨s,ow,sl,hM,hb,cT,hW,jA,hown⟩:=R.ex;refine⟨s,cT,λw' zY hgo hsz hX hF=>?_⟩;have BH:∀b,J.L.Foot w b->(∃c e,w.heap[b]? =some (.cells c e (0,0)))/\d.ro b=none:=λb hb=>hL.foot _ _ _ cT hb;have hsame:∀b,b<w.heap.size->¬J.L.Foot w b->w'.heap[b]? =w.heap[b]? :=λb hb h=>by apply cY;intro hc;exact h (hX b hb hc)
 have hWn:¬J.L.Foot w (d.W k):=λh=>by obtain⟨⟨c,e,hc⟩,_⟩:=BH _ h;rw[hW]at hc;cases hc
 have h9:=cO hW 9;have qa:=hW;rw[←hsame _ R.blk hWn]at qa;have hblk:∀b,bs w sl b->w'.heap[b]? =w.heap[b]? :=λb hb=>by obtain⟨_,h2,_,o,h3,_⟩:=hown.blk b hb;exact hsame b (aQ.1 h3).1 h2
 have hs:∀b,bs w' sl b↔bs w sl b:=sblocks_same λx n e h1 o=>bP (w:=w) (hblk x.block ⟨x,n,e,h1,.inl rfl⟩);have mE:∀b,¬J.L.Foot w b->b<w0.heap.size->¬J.L.Foot w' b:=λb h1 h2 h3=>by
  rcases hF b h3 with h|h
  ·exact h1 h
  ·omega
 refine⟨⟨J.L.gtrans _ _ _ R.go hgo,⟨f s,ow,sl,hM.eff,hb,zY,qa,eX (λx hx=>bP (w:=w) (hblk _ hx)) jA,λb hb=>?_,qN hown.row hblk,qM hown.far hblk⟩,λb f' hf=>?_⟩,cn K.size hsz,λb o h1 h2 h3 h4=>?_,?_,J.L.gtrans _ _ _ K.go hgo⟩
 ·have hb:=(hs b).1 hb;obtain⟨h1,h2,h3,h4⟩:=hown.blk b hb;obtain⟨_,h5⟩:=Zy R0 K h9 b hb;exact⟨h1,mE b h2 h5,h3,by rw[hblk b hb];exact h4⟩
 ·obtain⟨⟨c,e,hc⟩,h2,h3⟩:=R.fw b f' hf;obtain⟨⟨c0,e0,hc0⟩,_,_⟩:=R0.fw b f' hf;have hb0:=(aQ.1 hc0).1;exact⟨⟨c,e,by rw[hsame b (aQ.1 hc).1 h2];exact hc⟩,mE b h2 hb0,h3⟩
 ·obtain⟨h5,h6⟩:=K.same b o h1 h2 h3 h4;exact⟨by rw[hsame b (aQ.1 h5).1 h6];exact h5,mE b h6 (aQ.1 h1).1⟩
 ·rw[←K.sl9,h9,af qa];rfl
theorem run_get(R:Run J d tW k t g be (.eff id q) w):∃s,J.L.Rep s w/\Run J d tW k t g be (q s) w:=by obtain⟨s,ow,sl,hM,h⟩:=R.ex;exact⟨s,h.2.1,⟨R.go,⟨s,ow,sl,hM.eff,h⟩,R.fw⟩⟩
end
def cX.Ok(n:Nat)(e:cX):Prop:=e.cell<n/\0<=e.old/\e.old<=1152921504606846975/\0<=e.next/\e.next<=1048575
structure gT(b n:Nat)(w:World)(d t:Nat)(es:List cX):Prop where
 lt:d<8192
 ptr:w.cell? ⟨b,1+d,none⟩=some (.pointer (some ⟨t,0,none⟩))
 len:w.cell? ⟨t,0,none⟩=some (.int .i64 es.length)
 ent:∀i e,es[i]? =some e->w.cell? ⟨t,1+i*3,none⟩=some (.int .i64 e.cell)/\w.cell? ⟨t,1+i*3+1,none⟩=some (.int .i64 e.old)/\w.cell? ⟨t,1+i*3+2,none⟩=some (.int .i64 e.next)
 ok:∀e∈es,e.Ok n
 few:1<=es.length/\es.length<=64
theorem gT.keep{n d:Nat}{w:World}{es:List cX}(h:gT b n w d t es)(g:JG b w w'):gT b n w' d t es:=by obtain⟨g1,g2⟩:=g d _ h.lt h.ptr;have hf:=h.few;refine⟨h.lt,g1,by rw[g2 0 ae];exact h.len,λi e he=>?_,h.ok,h.few⟩;have hi:=(eL.1 he).1;obtain⟨a1,a2,a3⟩:=h.ent i e he;exact⟨by rw[g2 _ ae];exact a1,by rw[g2 _ ae];exact a2,by rw[g2 _ ae];exact a3⟩
theorem OW(es:List cX):∀i e,es[i]? =some e->∀j,j<3->(es.flatMap dB)[3*i+j]? =(dB e)[j]? :=by
 induction es with
 |nil=>intro i e h;simp at h
 |cons x xs ih=>
  intro i e h j hj;have hl:(dB x).length=3:=rfl;cases i with
  |zero=>simp at h;subst h;rw[List.flatMap_cons,oC ae];simp
  |succ i=>simp at h;rw[List.flatMap_cons,pQ ae,←ih i e h j hj];congr 1;omega
theorem gq(es:List cX):(es.flatMap dB).length=3*es.length:=by
 induction es with
 |nil=>rfl
 |cons x xs ih=>rw[List.flatMap_cons,mM,ih];have hl:(dB x).length=3:=rfl;simp;omega
theorem MX(D:qZ)(h:D.es.length<=64):(eR D).size=194:=by unfold eR;simp only[jC,mM,ew,fS,Al,gq];omega
theorem ZR(D:qZ):(eR D)[0]? =some (.int .i64 (D.es.length:Int)):=by unfold eR;simp
theorem KV(D:qZ)(i:Nat)(e:cX)(h:D.es[i]? =some e)(j:Nat)(hj:j<3):(eR D)[1+i*3+j]? =(dB e)[j]? :=by have hi:=(eL.1 h).1;unfold eR;rw[jh,uH,show 1+i*3+j=(3*i+j) +1 by omega];simp only[jc,ma];rw[oC (by rw[gq];omega),OW _ _ _ h _ hj]
theorem aco(D:qZ)(h:D.es.length<=64):(eR D)[193]? =some (.int .i32 (D.st:Int)):=by unfold eR;rw[jh,pQ (by simp only[mM,ew,Al,gq];omega)];simp only[mM,ew,Al,gq];rw[show 193- (3*D.es.length+1+(192-3*D.es.length))=0 by omega];rfl
theorem ZT(D:qZ)(h:D.es.length<=64)(v:Nat):(eR D).setIfInBounds 193 (.int .i32 (v:Int))=eR {D with st:=v}:=by unfold eR;rw[jD,List.set_append_right _ _ (by simp only[mM,ew,Al,gq];omega)];simp only[mM,ew,Al,gq];rw[show 193- (3*D.es.length+1+(192-3*D.es.length))=0 by omega];rfl
section
variable{n:Nat}{s:JS}{w:World}
theorem JRep.lt(R:JRep b c lo n s w):b<w.heap.size/\c<w.heap.size:=by obtain⟨cb,e,h,_⟩:=R.bb;obtain⟨e',h'⟩:=R.cc;exact⟨(aQ.1 h).1,(aQ.1 h').1⟩
theorem JRep.word(R:JRep b c lo n s w){i:Nat}(hi:i<n):w.cell? ⟨c,i,none⟩=some (.int .i64 (s.w i))/\w.frozen? ⟨c,i,none⟩=false:=by
 obtain⟨e,h⟩:=R.cc;refine⟨?_,ay h i (bj _)⟩;rw[af h];have:i<s.ws.length:=by rw[R.len];exact hi
 simp[JS.w,cQ,this]
theorem JRep.bit(R:JRep b c lo n s w)(o:Nat):w.frozen? ⟨b,o,none⟩=false:=by obtain⟨cb,e,h,_⟩:=R.bb;exact ay h o (bj _)
theorem JRep.desc(R:JRep b c lo n s w){d:Nat}{D:qZ}(h:s.ds d=some D):∃t,gT b n w d t D.es:=by
 obtain⟨hd,h1,h2,h3,h4⟩:=R.ok.desc d D h;have ha:=R.all d hd;simp only[h]at ha;obtain⟨t,hp,_,ht⟩:=ha;refine⟨t,hd,hp,by rw[af ht];exact ZR D,λi e he=>?_,λe he=>?_,h1,h2⟩
 ·refine⟨?_,?_,?_⟩
  ·have:=KV D i e he 0 ae;rw[af ht];exact this
  ·rw[af ht];exact KV D i e he 1 ae
  ·rw[af ht];exact KV D i e he 2 ae
 ·have:=h4 e he;rw[R.len]at this;exact this
theorem gT.there{d:Nat}{es:List cX}(h:gT b n w d t es)(R:JRep b c lo n s w):∃D,s.ds d=some D/\lo<=t/\w.heap[t]? =some (.cells (eR D) 187 (0,0)):=by
 have ha:=R.all d h.lt;cases e:s.ds d with
 |none=>simp only[e]at ha;obtain⟨u,h1,h2⟩:=ha;rw[h.ptr]at h1;exact absurd (aP h1).symm (h2 _)
 |some D=>simp only[e]at ha;obtain⟨t',h1,h2,h3⟩:=ha;rw[h.ptr]at h1;obtain rfl:t=t':=kO;exact⟨D,rfl,h2,h3⟩
theorem gT.status{d:Nat}{es:List cX}(h:gT b n w d t es)(R:JRep b c lo n s w):w.cell? ⟨t,193,none⟩=some (.int .i32 (s.st d))/\w.frozen? ⟨t,193,none⟩=false/\w.shape? t=some (187,194):=by
 obtain⟨D,h1,h2,h3⟩:=h.there R;obtain⟨_,_,h4,_⟩:=R.ok.desc d D h1;refine⟨?_,ay h3 _ (bj _),?_⟩
 ·rw[af h3,aco D h4];simp[JS.st,h1]
 ·simp[World.shape?,h3,MX D h4]
def ua(b n:Nat)(w:World)(v:Int):Prop:=(0<=v/\v<=1152921504606846975)\/∃d t es,v=aI d/\gT b n w d t es
theorem ua.keep{v:Int}(h:ua b n w v)(g:JG b w w'):ua b n w' v:=h.imp id λ⟨d,t,es,h1,h2⟩=>⟨d,t,es,h1,h2.keep g⟩
theorem OX(l:List Int)(i j:Nat)(y:Int)(hi:i<l.length):(l.set i y).getD j 0=if i=j then y else l.getD j 0:=by simp only[cQ,List.getElem?_set];split<;>simp_all
theorem JS.GK(s:JS)(i j:Nat)(v:Int)(hi:i<s.ws.length):({s with ws:=s.ws.set i v}:JS).w j=if i=j then v else s.w j:=OX _ _ _ _ hi
theorem JRep.put(R:JRep b c lo n s w){i:Nat}{v:Int}(hi:i<n)(hv:ua b n w v):JRep b c lo n {s with ws:=s.ws.set i v} (w.setCell ⟨c,i,none⟩ (.int .i64 v))/\JG b w (w.setCell ⟨c,i,none⟩ (.int .i64 v))/\(∀x,bL b c (w.setCell ⟨c,i,none⟩ (.int .i64 v)) x↔bL b c w x):=by
 have hl:i<s.ws.length:=by rw[R.len];exact hi
 have bT:∀x,x≠c->(w.setCell ⟨c,i,none⟩ (.int .i64 v)).heap[x]? =w.heap[x]? :=λx hx=>ah hx _;have hcell:∀x:Addr,x.block≠c->(w.setCell ⟨c,i,none⟩ (.int .i64 v)).cell? x=w.cell? x:=λx hx=>bP (w:=w) (bT _ hx);have htc:∀d t,d<8192->w.cell? ⟨b,1+d,none⟩=some (.pointer (some t))->t.block≠c:=λd t hd ht e=>by
  have ha:=R.all d hd;cases e2:s.ds d with
  |none=>simp only[e2]at ha;obtain⟨u,h1,h2⟩:=ha;rw[ht]at h1;exact absurd (aP h1).symm (h2 _)
  |some D=>simp only[e2]at ha;obtain⟨t',h1,h2,h3⟩:=ha;rw[ht]at h1;obtain rfl:t=⟨t',0,none⟩:=kO;have:=R.hlo.2;simp only at e;omega
 have hf:∀x,bL b c (w.setCell ⟨c,i,none⟩ (.int .i64 v)) x↔bL b c w x:=λx=>by unfold bL;simp only[λo=>hcell ⟨b,o,none⟩ R.ne]
 refine⟨⟨⟨by simpa using R.ok.few,λj hj=>?_,λd D hd=>by simpa using R.ok.desc d D hd,R.ok.made⟩,by simpa using R.len,R.ne,R.hlo,by rw[bT _ R.ne];exact R.bb,?_,by rw[hcell _ R.ne];exact R.hdr,λd hd=>?_,λk hk=>by rw[hcell _ R.ne];exact R.made k hk,λd d' t h1 h2 h3 h4=>R.inj d d' t h1 h2 (by rw[←hcell _ R.ne];exact h3) (by rw[←hcell _ R.ne];exact h4)⟩,λd t hd e=>⟨(hcell _ R.ne).trans e,λj _=>hcell _ (htc d t hd e)⟩,hf⟩
 ·simp only[List.length_set]at hj;rw[JS.GK s i j v hl];by_cases e:i=j
  ·rw[if_pos e];rcases hv with h|⟨d,t,es,h1,h2⟩
   ·exact .inl h
   ·obtain⟨D,h3,_⟩:=h2.there R;exact .inr ⟨d,h2.lt,h1,by show s.ds d≠none;rw[h3];simp⟩
  ·rw[if_neg e];exact R.ok.word j hj
 ·obtain⟨e,h⟩:=R.cc;refine⟨e,?_⟩;rw[aq h,jD];simp only[List.map_set]
 ·have ha:=R.all d hd;show match s.ds d with|none=>_|some D=>_
  cases e:s.ds d with
  |none=>simp only[e]at ha⊢;rw[hcell _ R.ne];exact ha
  |some D=>simp only[e]at ha⊢;obtain⟨t,h1,h2,h3⟩:=ha;exact⟨t,by rw[hcell _ R.ne];exact h1,h2,by rw[bT _ (htc d ⟨t,0,none⟩ hd h1)];exact h3⟩
theorem gT.decide{d:Nat}{es:List cX}(h:gT b n w d t es)(R:JRep b c lo n s w){v:Nat}(hv:v<=2)(h0:s.st d=0):JRep b c lo n (s.decide d v) (w.setCell ⟨t,193,none⟩ (.int .i32 v))/\JG b w (w.setCell ⟨t,193,none⟩ (.int .i32 v))/\(∀x,bL b c (w.setCell ⟨t,193,none⟩ (.int .i32 v)) x↔bL b c w x):=by
 obtain⟨D0,e0,hlo,h3⟩:=h.there R;have hlt:=R.hlo;have bT:∀x,x≠t->(w.setCell ⟨t,193,none⟩ (.int .i32 v)).heap[x]? =w.heap[x]? :=λx hx=>ah hx _;have hcell:∀x:Addr,x.block≠t->(w.setCell ⟨t,193,none⟩ (.int .i32 v)).cell? x=w.cell? x:=λx hx=>bP (w:=w) (bT _ hx);have hbt:b≠t:=ae;have hb:=λo=>hcell ⟨b,o,none⟩ hbt;have vx:(s.decide d v)={s with ds:=λx=>if x=d then(s.ds d).map ({· with st:=v})else s.ds x}:=by unfold JS.decide;rw[if_pos h0]
 obtain⟨_,_,ub,_⟩:=R.ok.desc d D0 e0;rw[vx];refine⟨⟨⟨R.ok.few,λj hj=>?_,λd' D' r9=>?_,λk hk=>⟨(R.ok.made k hk).1,λm hm=>?_⟩⟩,R.len,R.ne,R.hlo,by rw[bT _ hbt];exact R.bb,by rw[bT _ ae];exact R.cc,by rw[hb];exact R.hdr,λd' hd=>?_,λk hk=>by rw[hb];exact R.made k hk,λd d' t h1 h2 h3 h4=>R.inj d d' t h1 h2 (by rw[←hb];exact h3) (by rw[←hb];exact h4)⟩,λd' t' r9 e=>⟨(hb _).trans e,λj hj=>?_⟩,λx=>?_⟩
 ·refine(R.ok.word j hj).imp id λ⟨d',h1,h2,h3⟩=>⟨d',h1,h2,?_⟩;show(if d'=d then _ else _)≠none;by_cases e:d'=d
  ·subst e;rw[if_pos rfl,e0];simp
  ·rw[if_neg e];exact h3
 ·have r9:(if d'=d then(s.ds d).map ({· with st:=v})else s.ds d')=some D':=r9;by_cases e:d'=d
  ·rw[if_pos e,e0]at r9;simp only[kS,cu]at r9;subst r9 e;obtain⟨a1,a2,a3,a4,a5⟩:=R.ok.desc d' D0 e0;exact⟨a1,a2,a3,hv,a5⟩
  ·rw[if_neg e]at r9;exact R.ok.desc d' D' r9
 ·show(if k+8*m=d then _ else _)=none;have:=(R.ok.made k hk).2 m hm;by_cases e:k+8*m=d
  ·rw[e,e0]at this;cases this
  ·rw[if_neg e];exact this
 ·have ha:=R.all d' hd;show match(if d'=d then(s.ds d).map ({· with st:=v})else s.ds d')with|none=>_|some D=>_;by_cases e:d'=d
  ·subst e;rw[if_pos rfl,e0];simp only[kS];refine⟨t,by rw[hb];exact h.ptr,hlo,?_⟩;rw[aq h3,ZT D0 ub]
  ·rw[if_neg e];cases e2:s.ds d' with
   |none=>simp only[e2]at ha⊢;rw[hb];exact ha
   |some D=>
    simp only[e2]at ha⊢;obtain⟨t',h1,h2,h4⟩:=ha;refine⟨t',by rw[hb];exact h1,h2,?_⟩;rw[bT t' λe3=>?_]
    ·exact h4
    ·subst e3;exact e (R.inj d' d _ hd h.lt h1 h.ptr)
 ·by_cases e2:t'.block=t
  ·rw[lK];intro e3;have:(193:Nat)=j:=(by cases e3;rfl);omega
  ·exact hcell _ e2
 ·unfold bL;simp only[hb]
end
end
section
open Go Go.Conc Go.ConcN Go.RowKit
attribute [local go_sem] aF aG aT aD aO aW aA aB
variable[Inhabited bO]
structure jY{σ:Type}(α:Type)(L:tR σ)(main:Bool)(cs:List Frame){ι:Type}(Jm:dA ι)(Stop:ι->Frame->List Frame->World->Prop) where
 U:List Frame->Prop
 At:ι->Pr σ α->World->Prop
 Keep:World->World->Prop
 Own:Nat->Prop
 wv:Option Addr
 num:Nat
 hcs:True
 refl:∀w,Keep w w
 trans:∀a b c,Keep a b->Keep b c->Keep a c
 go:∀a b,Keep a b->L.G a b
 size:∀a b,Keep a b->a.heap.size<=b.heap.size
 same:∀(w w':World) (b:Nat) o,Keep w w'->w.heap[b]? =some o->o≠cI->¬L.Foot w b->Own b->w'.heap[b]? =some o/\¬L.Foot w' b
 new:∀(b:Nat) i p w,At i p w->w.heap.size<=b->Own b
 rep:∀i p w,At i p w->∃s,L.Rep s w
 foot:∀i p w b,At i p w->L.Foot w b->b<w.heap.size
 upush:∀fr fs,fr.mode=.run->fr.defers=[]->(∃f,prog.funcs[fr.fn]? =some f)->U fs->U (fr::fs)
 step:∀i p w,At i (.line p) w->CallsM prog main cs Jm Stop U i 42 #[.pointer wv] w λi' v w'=>v=.tuple #[]/\At i' p w'/\Keep w w'
 number:∀i p w,At i p w->CallsM prog main cs Jm Stop U i 88 #[.pointer wv] w λi' v w'=>v=.int .i64 num/\i'=i/\w'=w
 few:num<8
 eff:∀i0 p0 w0 i f q w,At i0 p0 w0->At i (.eff f q) w->Keep w0 w->∃s,L.Rep s w/\∀w',L.Rep (f s) w'->L.G w w'->w.heap.size<=w'.heap.size->(∀b,b<w.heap.size->w'.heap[b]?≠w.heap[b]?->L.Foot w b)->(∀b,L.Foot w' b->L.Foot w b\/w0.heap.size<=b)->At i (q s) w'/\Keep w0 w'
 get:∀i q w,At i (.eff id q) w->∃s,L.Rep s w/\At i (q s) w
 fresh:∀i0 p0 w0 i p w w',At i0 p0 w0->At i p w->Keep w0 w->w.heap.size<=w'.heap.size->(∀b,b<w.heap.size->w'.heap[b]?≠w.heap[b]?->w0.heap.size<=b/\¬L.Foot w b)->At i p w'/\Keep w0 w'/\∀b,L.Foot w' b↔L.Foot w b
 on:∀i w,¬At i .stop w
theorem GM(W:Nat)(k:Int)(w:World)(h:w.cell? ⟨W,0,none⟩=some (.int .i64 k)):Calls prog 88 #[.pointer (some ⟨W,0,none⟩)] w λe w'=>e=.returned (.int .i64 k)/\w=w':=by
 go_enter func88,ntmps88
 go_wp2;go_ret
 exact⟨rfl,rfl⟩
def ZU:ba:={L:=λg=>g==88,C:=λ_=>false,X:=λ_=>false,ft:=λ_ _=>false}
theorem MZ:Stat prog ZU:=by
 refine⟨λ_=>⟨λ_ h=>bY,λ_ h=>bY,Fu rfl (λ_=>rfl) (λ_=>rfl)⟩,λg h=>?_,λg h=>bY,λg h=>?_⟩
 ·obtain rfl:g=88:=by simpa[ZU]using h
  exact⟨_,func88,rfl,rfl⟩
 ·obtain rfl:g=88:=by simpa[ZU]using h
  kernel_rfl
section
variable{nb:Nat}
noncomputable def aei(H:Hand J d k nb)(hL:J.L.Ok d.ro)(hm:J.c.most<=20000)(h8:k<8)(E5:∀t g w,¬Run J d tW k t g be .stop w):jY dO J.L false (d.cw k) (JW d (J.bE d.W) k) (λ_ _ _ _=>False) where
 U:=nw d k
 At:=λt p w=>∃g,Run J d tW k t g be p w
 Keep:=dW J d k
 Own:=λb=>b≠d.W k
 wv:=some ⟨d.W k,0,none⟩
 num:=k
 hcs:=trivial
 refl:=dW.refl J d k
 trans:=λ_ _ _ h g=>h.trans g
 go:=λ_ _ h=>h.go
 size:=λ_ _ h=>h.size
 same:=λ_ _ b o h=>h.same b o
 new:=λb t p w ⟨g,R⟩ hb e=>by have:=R.blk;omega
 rep:=λt p w ⟨g,R⟩=>by obtain⟨s,_,_,_,_,h,_⟩:=R.ex;exact⟨s,h⟩
 foot:=λt p w b ⟨g,R⟩ h=>R.foot hL h
 upush:=λfr fs h1 h2 h3 h4=>h4.push h1 h2 (by rw[H.P];exact h3)
 step:=λt p w ⟨g,R⟩=>(Sh H hL hm R).mono λt' v w' ⟨h1,h2,h3⟩=>⟨h1,⟨_,h2⟩,h3⟩
 number:=λt p w ⟨g,R⟩=>by
  refine callsM_lone MZ ⟨rfl,λt h=>bY⟩ λτ=>?_;refine(GM (d.W k) k _ ?_).mono ?_
  ·obtain⟨s,ow,sl,_,_,_,hW,_⟩:=R.ex;rw[aF,af hW];rfl
  ·rintro e w' ⟨rfl,rfl⟩;exact⟨_,rfl,_,aN _ _,rfl,rfl,rfl⟩
 few:=h8
 eff:=λt0 p0 w0 t f q w ⟨g0,R0⟩ ⟨g,R⟩ K=>by obtain⟨s,h1,h2⟩:=V5 hL R0 R K;refine⟨s,h1,λw' a1 a2 a3 a4 a5=>?_⟩;obtain⟨b1,b2⟩:=h2 w' a1 a2 a3 a4 a5;exact⟨⟨_,b1⟩,b2⟩
 get:=λt q w ⟨g,R⟩=>by obtain⟨s,h1,h2⟩:=run_get R;exact⟨s,h1,_,h2⟩
 fresh:=λt0 p0 w0 t p w w' ⟨g0,R0⟩ ⟨g,R⟩ K h1 h2=>by obtain⟨a1,a2,a3⟩:=yQ hL R0 R K h1 h2;exact⟨⟨_,a1⟩,a2,a3⟩
 on:=λt w ⟨g,R⟩=>E5 t g w R
end
def Pr.alone:Pr σ α->σ->Option (α×σ)
 |.ret a,s=>some (a,s)
 |.line p,s=>p.alone s
 |.eff f q,s=>(q s).alone (f s)
 |.stop,_=>none
structure xZ{σ:Type}(L:tR σ)(w w':World):Prop where
 size:w.heap.size<=w'.heap.size
 same:∀(b:Nat) o,w.heap[b]? =some o->¬L.Foot w b->w'.heap[b]? =some o/\¬L.Foot w' b
 go:L.G w w'
noncomputable def aej(L:tR σ){ro:Nat->Option (Nat×Nat)}(hL:L.Ok ro){main:Bool}(Jm:dA ι)(Stop:ι->Frame->List Frame->World->Prop)(i0:ι)(a:α)(s1:σ):jY α L main cs Jm Stop where
 U:=λ_=>True
 At:=λi p w=>i=i0/\∃s,L.Rep s w/\p.alone s=some (a,s1)
 Keep:=xZ L
 Own:=λ_=>True
 wv:=none
 num:=0
 hcs:=trivial
 refl:=λw=>⟨aY _,λb o h1 h2=>⟨h1,h2⟩,L.grefl w⟩
 trans:=λ_ _ _ h g=>⟨cn h.size g.size,λb o h1 h2=>by obtain⟨h3,h4⟩:=h.same b o h1 h2;exact g.same b o h3 h4,L.gtrans _ _ _ h.go g.go⟩
 go:=λ_ _ h=>h.go
 size:=λ_ _ h=>h.size
 same:=λ_ _ b o h h1 _ h3 _=>h.same b o h1 h3
 new:=λ_ _ _ _ _ _=>trivial
 rep:=λi p w ⟨_,s,h,_⟩=>⟨s,h⟩
 foot:=λi p w b ⟨_,s,h,_⟩ hb=>by obtain⟨⟨c,e,hc⟩,_⟩:=hL.foot s w b h hb;exact(aQ.1 hc).1
 upush:=λ_ _ _ _ _ _=>trivial
 step:=λi p w ⟨h1,s,h2,h3⟩=>by refine aX func42 rfl ?_;simp only[f42,bJ];walk_nrm;refine wpM_seq (wpM_seq (wpM_lone (fG _) trivial ax (Gf _ _) (D7 _ _) (λτ=>?_)));go_wp2;refine qK ?_;refine aH (t:=true) rfl (bn ?_);exact⟨rfl,.tuple #[],results_none rfl _ _ _,rfl,⟨(by first|exact h1|rfl),s,h2,h3⟩,⟨aY _,λb o h1 h2=>⟨h1,h2⟩,L.grefl w⟩⟩
 number:=λi p w _=>by refine callsM_lone MZ ⟨rfl,λt h=>bY⟩ λτ=>?_;refine(IW _).mono ?_;rintro e w' ⟨rfl,rfl⟩;exact⟨_,rfl,_,aN _ _,rfl,rfl,rfl⟩
 few:=ae
 eff:=λ_ p0 w0 i f q w h0 ⟨h1,s,h2,h3⟩ K=>by
  refine⟨s,h2,λw' a1 a2 a3 a4 a5=>⟨⟨h1,f s,a1,h3⟩,cn K.size a3,λb o b1 b2=>?_,L.gtrans _ _ _ K.go a2⟩⟩;obtain⟨c1,c2⟩:=K.same b o b1 b2;have hlt:=(aQ.1 b1).1;refine⟨?_,λh=>?_⟩
  ·rw[←c1];apply cY;intro hc;exact c2 (a4 b (aQ.1 c1).1 hc)
  ·rcases a5 b h with h|h
   ·exact c2 h
   ·omega
 get:=λi q w ⟨h1,s,h2,h3⟩=>⟨s,h2,h1,s,h2,h3⟩
 fresh:=λ_ p0 w0 i p w w' h0 ⟨h1,s,h2,h3⟩ K hsz hX=>by
  have hsame:∀b,L.Foot w b->w'.heap[b]? =w.heap[b]? :=λb hb=>by obtain⟨⟨c,e,hc⟩,_⟩:=hL.foot s w b h2 hb;apply cY;intro hne;exact(hX b (aQ.1 hc).1 hne).2 hb
  obtain⟨r1,r2⟩:=hL.rep s w w' h2 hsame;refine⟨⟨h1,s,r1,h3⟩,⟨cn K.size hsz,λb o b1 b2=>?_,L.gtrans _ _ _ K.go (hL.gsame s w w' h2 hsame)⟩,r2⟩;obtain⟨c1,c2⟩:=K.same b o b1 b2;have hlt:=(aQ.1 b1).1;refine⟨?_,λh=>c2 ((r2 b).1 h)⟩;rw[←c1];apply cY;intro hc;have:=(hX b (aQ.1 c1).1 hc).1;omega
 on:=λi w ⟨_,s,_,h⟩=>bY
end
section
open Go Go.Conc Go.ConcN Go.RowKit
attribute [local go_sem] aF aG aT aD aO aW aA aB
def fC(l c x:List Nat)(f:List (Nat×Nat)):ba:={L:=λg=>l.contains g,C:=λg=>c.contains g,X:=λg=>x.contains g,ft:=λg t=>f.contains (g,t)}
def M0(l c:List Nat)(f:List (Nat×Nat)):Bool:=c.all λg=>l.contains g&&f.all λp=>p.1 !=g
def q8(P:Program)(l:List Nat):Bool:=l.all λg=>match P.funcs[g]? with
 |some fn=>!(fn.name== "runtime.NumGoroutine") &&!fn.body.isNone
 |none=>false
def yU(P:Program)(S:ba)(l:List Nat):Bool:=l.all λg=>cR P S g (((P.funcs[g]?).bind (·.body)).getD (.refuse ""))
theorem x9{l c x:List Nat}(h:M0 l c f=true):(fC l c x f).nV:=by intro g hg;unfold M0 at h;rw[fT]at h;have h1:=h g (by simpa[fC]using hg);rw[bK]at h1;refine⟨h1.1,λt=>?_⟩;have h2:=h1.2;rw[fT]at h2;show f.contains (g,t)=false;rw[←Bool.not_eq_true];intro hc;have:=h2 (g,t) (by simpa using hc);simp at this
theorem lB{l c x:List Nat}(h:q8 P l=true):(fC l c x f).iM P:=by
 intro g hg;unfold q8 at h;rw[fT]at h;have h1:=h g (by simpa[fC]using hg);split at h1
 ·rename_i fn e;simp only[bK,uF]at h1;exact⟨fn,e,h1.1,h1.2⟩
 ·cases h1
theorem GN{l c x:List Nat}(h:yU P (fC l c x f) l=true)(hb:q8 P l=true):(fC l c x f).Plain P:=by
 intro g hg;unfold yU at h;rw[fT]at h;have h1:=h g (by simpa[fC]using hg);obtain⟨fn,e1,_,e3⟩:=lB (c:=c) (x:=x) (f:=f) hb g hg;rw[e1]at h1⊢;cases IH:fn.body with
 |none=>rw[IH]at e3;cases e3
 |some b=>simp only[Option.bind_some,IH,bJ]at h1⊢;exact h1
theorem kM{g:Nat}{fn:Func}{e:Array Value->Sem Value}(hf:prog.funcs[g]? =some fn)(h1:(fn.name== "runtime.NumGoroutine")=false)(h2:fn.body.isNone=true)(h3:Extern.findNext fn=none)(h4:Extern.find fn=some e)(h5:∀args,ST H prog (e args)):
  ∃fn e,prog.funcs[g]? =some fn/\(fn.name== "runtime.NumGoroutine")=false/\fn.body.isNone=true/\Extern.findNext fn=none/\Extern.find fn=some e/\∀args,ST H prog (e args):=⟨fn,e,hf,h1,h2,h3,h4,h5⟩
theorem st_readp(a:Addr):ST H P (Extern.Atomic.read .ptr a):=by unfold Extern.Atomic.read;exact sT
theorem SX(vs:Array Value):ST H P (Extern.Atomic.loadT .ptr vs):=by
 obtain⟨l⟩:=vs;rcases l with _|⟨x,_|⟨y,l⟩⟩
 ·exact bu _
 ·exact(lF x).then λ_=>st_readp _
 ·exact bu _
def jL:List Nat:=[84,155,40,130,129,133,85,131,46,154,134,79,80,39,161,87,38,41]
def jX:List Nat:=[81,126,162,153,152,151,135]
def S3:ba:=fC jL [] jX []
theorem ya:q8 prog jL=true:=ax
theorem V6(H:Nat->Prop):S3.Rows H prog:=by
 refine⟨λg hg=>?_,λ_ h=>bY,Fu rfl (λ_=>rfl) (λ_=>rfl)⟩;have hg:g=81\/g=126\/g=162\/g=153\/g=152\/g=151\/g=135:=by simpa[S3,fC,jX]using hg
 rcases hg with rfl|rfl|rfl|rfl|rfl|rfl|rfl
 ·exact kM func81 ax ax ax (e:=Extern.Atomic.storeT) ax vX
 ·exact kM func126 ax ax ax (e:=Extern.Atomic.loadT (.int .i64)) ax (uD _)
 ·exact kM func162 ax ax ax (e:=Extern.Atomic.casT (.int .i64)) ax (yG _)
 ·exact kM func153 ax ax ax (e:=Extern.Atomic.loadT (.int .i32)) ax (uD _)
 ·exact kM func152 ax ax ax (e:=Extern.Atomic.casT (.int .i32)) ax (yG _)
 ·exact kM func151 ax ax ax (e:=Extern.Atomic.loadT .ptr) ax SX
 ·exact kM func135 ax ax ax (e:=Extern.Atomic.storeT) ax vX
theorem jJ:Stat prog S3:=⟨V6,lB ya,x9 ax,GN ax ya⟩
theorem ft3(f:Nat)(t:Array Value):pY S3 f t:=λ_ h=>by simp[S3,fC]at h
theorem acp:∀d∈([]:List Deferred),mK prog S3 d:=au
section
variable{main:Bool}{J:dA ι}{Stop:ι->Frame->List Frame->World->Prop}{Q:ι->Exit->Act->World->Prop}{w:World}
theorem o3{ops:Array Oper}{rest:List Nat}(h:∀(τ:Nat->Question->Nat) (K:Value->World->Prop),(∀v w' W,Alike W w'->qJ prog main cs J Stop U fn ops rest Q i (a.put o.dst v) W->K v w')->tN K ((execOp a.eval o).run prog (w.tp τ)))
  (ho:ops[j]? =some o:=by rfl)(hw:Region.wanted o (yielded ops a.tmps)=true:=by rfl)(hok:eV prog S3 fn o=true:=by kernel_rfl):qJ prog main cs J Stop U fn ops (j::rest) Q i a w:=yN jJ ho hw hok (ft3 _ _) h
theorem l3(x:X){c:Code}{d:Array Value}(h:∀τ,c.wp prog (λe a' w'=>e=.normal/\∃W,Alike W w'/\Q i .normal a' W) ⟨d,[]⟩ (w.tp τ))(hok:cR prog S3 fn c=true:=by kernel_rfl):wpM prog main cs J Stop U fn c Q i ⟨d,[]⟩ w:=wpM_lone jJ x hok acp (ft3 _ _) h
end
theorem o3v{p q:Prop}(h:q)(t:Hq q->p:=by intro hq;refine o3 (λτ K hK=>?_);go_simp;refine hK _ _ _ (aN _ _) ?_;clear hK K;exact hq.o):p:=t ⟨h⟩
theorem eU{p q:Prop}(h:q)(t:Hq q->p:=by intro hq;refine o3 (λτ K hK=>?_);go_simp;refine hK _ _ _ (aN _ _) ?_;clear hK K;walk_nrm;exact hq.o):p:=t ⟨h⟩
theorem eG{p:Prop}(h:∀τ,q τ)(t:Hq (∀τ,q τ)->p:=by intro hq;refine wpM_seq (l3 hcs (λτ=>?_));go_wp2;refine⟨_,aN _ _,?_⟩;(try simp only[Exit.then]);exact hq.o τ):p:=t ⟨h⟩
theorem l3x{p:Prop}(h:∀τ,q τ)(t:Hq (∀τ,q τ)->p:=by intro hq;refine wpM_seq (l3 hcs (λτ=>?_));go_wp2;refine⟨_,aN _ _,?_⟩;exact hq.o τ):p:=t ⟨h⟩
theorem xe{p:Prop}(h:∀τ,q τ)(t:Hq (∀τ,q τ)->p:=by intro hq;refine wpM_seq (wpM_seq (l3 hcs (λτ=>?_)));go_wp2;refine⟨_,aN _ _,?_⟩;(try simp only[Exit.then]);exact hq.o τ):p:=t ⟨h⟩
theorem ov{p q:Prop}(h:q)(t:Hq q->p:=by intro hq;apply V7;(focus (intro τ k Kv hKv;go_simp;exact hKv _ rfl));walk_nrm;exact hq.o):p:=t ⟨h⟩
theorem q9(x:Int)(w:World)(h0:x<0)(h1: -100000<=x):Calls prog 85 #[.int .i64 x] w λe w'=>e=.returned (.tuple #[.int .i64 (-x-1),.bool true])/\w=w':=by
 have hb:decide (x<0)=true:=by simpa using h0
 go_enter func85,ntmps85
 go_wp2;go_ret2
 exact⟨rfl,rfl⟩
theorem SY(a:Addr)(x o y:Int)(w:World)(hc:w.cell? a=some (.int .i64 x))(hz:w.frozen? a=false)(hne:¬x=o):(callFunc 162 #[.pointer (some a),.int .i64 o,.int .i64 y]).run prog w=.ok (.value (.bool false)) w:=run_call_cas_miss (P:=prog) func162 ax ax ax .i64 ax hc hz hne
theorem SZ(a:Addr)(x o y:Int)(w:World)(hc:w.cell? a=some (.int .i32 x))(hz:w.frozen? a=false)(hne:¬x=o):(callFunc 152 #[.pointer (some a),.int .i32 o,.int .i32 y]).run prog w=.ok (.value (.bool false)) w:=run_call_cas_miss (P:=prog) func152 ax ax ax .i32 ax hc hz hne
theorem i64cas_any(b o:Nat)(x z y:Int)(w:World)(hc:w.cell? ⟨b,o,none⟩=some (.int .i64 x))(hz:w.frozen? ⟨b,o,none⟩=false):Calls prog 155 #[.pointer (some ⟨b,o,none⟩),.int .i64 z,.int .i64 y] w λe w'=>e=.returned (.bool (x==z))/\w'=if x=z then w.setCell ⟨b,o,none⟩ (.int .i64 y)else w:=by
 by_cases e:x=z
 ·subst e;refine(Yq b o x y w hc hz).mono ?_;rintro e w' ⟨rfl,rfl⟩;simp
 ·have hx:=SY ⟨b,o,none⟩ x z y w hc hz e;rw[if_neg e,beq_eq_false_iff_ne.2 e];go_enter func155,ntmps155
  go_wp2;go_ret
  exact⟨rfl,rfl⟩
theorem i32cas_any(b o:Nat)(x z y:Int)(w:World)(hc:w.cell? ⟨b,o,none⟩=some (.int .i32 x))(hz:w.frozen? ⟨b,o,none⟩=false):Calls prog 129 #[.pointer (some ⟨b,o,none⟩),.int .i32 z,.int .i32 y] w λe w'=>e=.returned (.bool (x==z))/\w'=if x=z then w.setCell ⟨b,o,none⟩ (.int .i32 y)else w:=by
 by_cases e:x=z
 ·subst e;refine(Yr b o x y w hc hz).mono ?_;rintro e w' ⟨rfl,rfl⟩;simp
 ·have hx:=SZ ⟨b,o,none⟩ x z y w hc hz e;rw[if_neg e,beq_eq_false_iff_ne.2 e];go_enter func129,ntmps129
  go_wp2;go_ret
  exact⟨rfl,rfl⟩
theorem OY(b o:Nat)(x z y:Int)(w W:World)(ok:Bool)(hc:w.cell? ⟨b,o,none⟩=some (.int .i64 x))(hz:w.frozen? ⟨b,o,none⟩=false)(hok:(x==z)=ok)(hW:(if x=z then w.setCell ⟨b,o,none⟩ (.int .i64 y)else w)=W):Calls prog 155 #[.pointer (some ⟨b,o,none⟩),.int .i64 z,.int .i64 y] w λe w'=>e=.returned (.bool ok)/\W=w':=(i64cas_any b o x z y w hc hz).mono λe w' ⟨h1,h2⟩=>⟨by rw[h1,hok],by rw[h2,hW]⟩
theorem CZ(b o:Nat)(x z y:Int)(w W:World)(ok:Bool)(hc:w.cell? ⟨b,o,none⟩=some (.int .i32 x))(hz:w.frozen? ⟨b,o,none⟩=false)(hok:(x==z)=ok)(hW:(if x=z then w.setCell ⟨b,o,none⟩ (.int .i32 y)else w)=W):Calls prog 129 #[.pointer (some ⟨b,o,none⟩),.int .i32 z,.int .i32 y] w λe w'=>e=.returned (.bool ok)/\W=w':=(i32cas_any b o x z y w hc hz).mono λe w' ⟨h1,h2⟩=>⟨by rw[h1,hok],by rw[h2,hW]⟩
section
variable{main:Bool}{a:World}
theorem V8{b:Frame}{k:List Item}{act:Act}{ops:Array Oper}{rest:List Nat}(X:Nat->Prop)(hk:b.kind≠.early)(ho:ops[j]? =some o)(hw:Region.wanted o (yielded ops act.tmps)=true)(hX:∀x,X x->∃y,a.heap[x]? =some y/\y≠cI)
  (hr:∀r:World,(∀x,X x->zg a.heap[x]? r.heap[x]?)->(execOp act.eval o).runT P r #[]=(.ok (.value v) r,#[]))(h:uK P main cs At (b.at (act.put o.dst v) (.inRegion ops rest::k)) fs a):uK P main cs At (b.at act (.inRegion ops (j::rest)::k)) fs a:=by
 intro H R D Q Jw B hQ r hrel hj;have one:∀w₁,R r w₁->stepG P main (bh (b.at act (.inRegion ops (j::rest)::k)) (fs++cs)) w₁=.go (bh (b.at (act.put o.dst v) (.inRegion ops rest::k)) (fs++cs)) w₁ #[]/\Rel H a w₁/\Jw a w₁:=λw₁ h₁=>by
  obtain⟨h2,h3⟩:=B.others a r w₁ h₁ hrel hj;refine⟨?_,h2,h3⟩;have oT:((b.at act (.inRegion ops (j::rest)::k)).kind==CallKind.early)=false:=by show(b.kind==CallKind.early)=false;cases e:b.kind<;>first|rfl|exact absurd e hk
  have lS:(b.at act (.inRegion ops (j::rest)::k)).finish v=b.at (act.put o.dst v) (.inRegion ops rest::k):=by rw[fy,ho];rfl
  have:=(stepG_oper (P:=P) (main:=main) (b:=b) (a:=act) (k:=k) (cs:=fs++cs) (w:=w₁) (rest:=rest) ho hw).trans (gL (fr:=b.at act (.inRegion ops (j::rest)::k)) (cs:=fs++cs) oT (hr w₁ λx hx=>h2.same x λhh=>by obtain⟨y,h4,h5⟩:=hX x hx;rw[(h2.hid x hh).1]at h4;exact h5 (aP h4).symm));rw[lS,show seen P (b.at act (.inRegion ops (j::rest)::k)).fn #[] ++ #[]=#[]from by simp[seen]]at this;exact this
 refine .step rfl (λw₁ h₁=>?_) λw₁ g' w' es h₁ e=>?_
 ·obtain⟨h1,h2,h3⟩:=one w₁ h₁;exact⟨_,_,_,h1,B.does a a w₁ w₁ #[] h2 h3 (iN h2 #[])⟩
 ·obtain⟨h1,h2,h3⟩:=one w₁ h₁;rw[h1]at e;injection e with e1 e2 e3
  subst e1 e2 e3;exact h H R D Q Jw B hQ w₁ h2 h3
theorem OZ{J:dA ι}{Stop:ι->Frame->List Frame->World->Prop}{b:Frame}{k:List Item}{act:Act}{ops:Array Oper}{rest:List Nat}(X:Nat->Prop)(hk:b.kind≠.early)(ho:ops[j]? =some o)(hw:Region.wanted o (yielded ops act.tmps)=true)(hX:∀x,X x->∃y,a.heap[x]? =some y/\y≠cI)
  (hr:∀r:World,(∀x,X x->zg a.heap[x]? r.heap[x]?)->(execOp act.eval o).runT P r #[]=(.ok (.value v) r,#[]))(h:ZigC P main cs J Stop i (b.at (act.put o.dst v) (.inRegion ops rest::k)) fs a):ZigC P main cs J Stop i (b.at act (.inRegion ops (j::rest)::k)) fs a:=
 .walk (V8 X hk ho hw hX hr (.stop h))
theorem C0{J:dA ι}{Stop:ι->Frame->List Frame->World->Prop}{Q:ι->Exit->Act->World->Prop}{act:Act}{ops:Array Oper}{rest:List Nat}(X:Nat->Prop)(ho:ops[j]? =some o)(hw:Region.wanted o (yielded ops act.tmps)=true)(hX:∀x,X x->∃y,a.heap[x]? =some y/\y≠cI)
  (hr:∀r:World,(∀x,X x->zg a.heap[x]? r.heap[x]?)->(execOp act.eval o).runT P r #[]=(.ok (.value v) r,#[]))(h:qJ P main cs J Stop U fn ops rest Q i (act.put o.dst v) a):qJ P main cs J Stop U fn ops (j::rest) Q i act a:=
 λb k fs h1 h2 h3 hc=>OZ X (by rw[h2];simp) ho hw hX hr (h b k fs h1 h2 h3 hc)
end
theorem Am{a r:World}{x:Nat}(h:zg a.heap[x]? r.heap[x]?):r.shape? x=a.shape? x:=(zi h).symm
theorem V9(c:Nat)(w:World)(ur:w.shape? c=some (187,194)):(convert 100 96 (.pointer (some ⟨c,0,none⟩))).runT prog w #[]=(.ok (.pointer (some ⟨c,0,none⟩)) w,#[]):=by
 have h1:=Dx c w ur;have h2:(convert 100 96 (.pointer (some ⟨c,0,none⟩))).events prog w #[]=#[]:=by obtain⟨i,hi,hz⟩:=rF;have e1:=underlying100;have e2:=underlying96;have e3:=Cr;simp[convert,run_underlying e1,run_underlying e2,Conv.unsafePointer,Conv.seenAt,viewAt,ur,variablesAt,e3,sizeOf,typeInfo,hi]
 rw[Sem.runT_eq,h1,h2]
theorem acr(c:Nat)(w:World)(ur:w.shape? c=some (187,194)):(convert 96 100 (.pointer (some ⟨c,0,none⟩))).runT prog w #[]=(.ok (.pointer (some ⟨c,0,none⟩)) w,#[]):=by
 have h1:=I4 c w ur;have h2:(convert 96 100 (.pointer (some ⟨c,0,none⟩))).events prog w #[]=#[]:=by obtain⟨i,hi,hz⟩:=rF;have e1:=underlying100;have e2:=underlying96;simp[convert,run_underlying e1,run_underlying e2,Conv.unsafePointer,Conv.seenAt,viewAt,cellsIn,ur,sizeOf,typeInfo,hi,hz]
 rw[Sem.runT_eq,h1,h2]
section
variable{main:Bool}{J:dA ι}{Stop:ι->Frame->List Frame->World->Prop}{w:World}
theorem vy(ur:w.shape? c=some (187,194)):∃y,w.heap[c]? =some y/\y≠cI:=by
 cases e:w.heap[c]? with
 |none=>simp[World.shape?,e]at ur
 |some y=>refine⟨y,rfl,λh=>?_⟩;subst h;simp[World.shape?,e,cI]at ur
theorem O0(hcs:X)(b o c:Nat)(hc:w.cell? ⟨b,o,none⟩=some (.pointer (some ⟨c,0,none⟩)))(ur:w.shape? c=some (187,194)):CallsM prog main cs J Stop U i 127 #[.pointer (some ⟨b,o,none⟩)] w λi' v w'=>v=.pointer (some ⟨c,0,none⟩)/\i'=i/\w'=w:=by
 have hv:=vy ur;have hx:=Mg ⟨b,o,none⟩ _ w hc;refine aX func127 rfl ?_;simp only[f127,bJ];walk_nrm;refine eG λτ=>?_;refine nQ ?_;iterate 3
  refine eU ?_
 refine o3 (λτ K hK=>?_);have hx:=Mg ⟨b,o,none⟩ _ (w.tp τ) hc;go_simp;refine hK _ _ _ (aN _ _) ?_;clear hK K;walk_nrm;refine C0 (X:=λx=>x=c) (v:=.pointer (some ⟨c,0,none⟩)) rfl rfl (λx hx=>hx▸hv) (λr hr=>?_) ?_
 ·have:=V9 c r (by rw[Am (hr c rfl)];exact ur);simp[execOp,Act.eval,go_sem,Sem.runT_eq]at this⊢;rw[this.1];exact⟨rfl,this.2⟩
 walk_nrm;refine eU ?_;refine ji (bn ?_);exact⟨rfl,_,by simp[results,f127,go_sem],rfl,rfl,rfl⟩
theorem KW(hcs:X)(b o c:Nat)(hc:w.cell? ⟨b,o,none⟩=some u)(hz:w.frozen? ⟨b,o,none⟩=false)(ur:w.shape? c=some (187,194)):CallsM prog main cs J Stop U i 89 #[.pointer (some ⟨b,o,none⟩),.pointer (some ⟨c,0,none⟩)] w λi' v w'=>v=.tuple #[]/\i'=i/\w'=w.setCell ⟨b,o,none⟩ (.pointer (some ⟨c,0,none⟩)):=by
 have hv:=vy ur;refine aX func89 rfl ?_;simp only[f89,bJ];walk_nrm;refine gO ?_;refine rg ?_;iterate 4
  refine eU ?_
 refine C0 (X:=λx=>x=c) (v:=.pointer (some ⟨c,0,none⟩)) rfl rfl (λx hx=>hx▸hv) (λr hr=>?_) ?_
 ·have:=acr c r (by rw[Am (hr c rfl)];exact ur);simp[execOp,Act.eval,go_sem,Sem.runT_eq]at this⊢;rw[this.1];exact⟨rfl,this.2⟩
 walk_nrm;refine o3 (λτ K hK=>?_);have hx:=QD ⟨b,o,none⟩ (some ⟨c,0,none⟩) u (w.tp τ) hc hz;go_simp;refine hK _ _ _ (aN _ _) ?_;clear hK K;walk_nrm;refine ji ?_;exact⟨rfl,_,results_none rfl _ _ _,rfl,rfl,rfl⟩
end
section
variable{n:Nat}{main:Bool}{Stop:ι->Frame->List Frame->World->Prop}{w:World}
theorem jY.put(S:jY α (bA F b c lo n) main cs Jm Stop){p0:Pr JS α}{o v:Int}{q:JS->Pr JS α}(h0:S.At i0 p0 w0)(h:S.At i (.eff (JS.uo c0 o v) q) w)(K:S.Keep w0 w)(hc0:c0<n)(hv:ua b n w v):
  ∃s,JRep b c lo n s w/\∀W,W=(if s.w c0=o then w.setCell ⟨c,c0,none⟩ (.int .i64 v)else w)->S.At i (q s) W/\S.Keep w0 W:=by
 obtain⟨s,cT,hnext⟩:=S.eff _ _ _ _ _ _ _ h0 h K;have cT:JRep b c lo n s w:=cT;refine⟨s,cT,λW hW=>?_⟩;subst hW;by_cases e:s.w c0=o
 ·simp only[if_pos e];obtain⟨r1,r2,r3⟩:=cT.put hc0 hv;have hcs:JS.uo c0 o v s={s with ws:=s.ws.set c0 v}:=by unfold JS.uo;rw[if_pos e]
  refine hnext _ (by show JRep b c lo n (JS.uo c0 o v s) _;rw[hcs];exact r1) r2 gF (λx hx hne=>?_) λx hx=>.inl ((r3 x).1 hx);by_cases ex:x=c
  ·exact .inr (.inl ex)
  ·exact absurd (ah ex _) hne
 ·simp only[if_neg e];have hcs:JS.uo c0 o v s=s:=by unfold JS.uo;rw[if_neg e]
  exact hnext _ (by show JRep b c lo n (JS.uo c0 o v s) _;rw[hcs];exact cT) ((bA F b c lo n).grefl w) (aY _) (λx _ hne=>absurd rfl hne) λx hx=>.inl hx
theorem jY.dec(S:jY α (bA F b c lo n) main cs Jm Stop){p0:Pr JS α}{d v:Nat}{es:List cX}{q:JS->Pr JS α}(h0:S.At i0 p0 w0)(h:S.At i (.eff (JS.decide d v) q) w)(K:S.Keep w0 w)(hD:gT b n w d t es)(hv:v<=2):
  ∃s,JRep b c lo n s w/\∀W,W=(if(s.st d:Int)=0 then w.setCell ⟨t,193,none⟩ (.int .i32 v)else w)->S.At i (q s) W/\S.Keep w0 W:=by
 obtain⟨s,cT,hnext⟩:=S.eff _ _ _ _ _ _ _ h0 h K;have cT:JRep b c lo n s w:=cT;refine⟨s,cT,λW hW=>?_⟩;subst hW;by_cases e:s.st d=0
 ·have e':(s.st d:Int)=0:=ae;simp only[if_pos e'];obtain⟨r1,r2,r3⟩:=hD.decide cT hv e;refine hnext _ r1 r2 gF (λx hx hne=>?_) λx hx=>.inl ((r3 x).1 hx);by_cases ex:x=t
  ·exact .inr (.inr ⟨d,⟨t,0,none⟩,hD.lt,hD.ptr,ex⟩)
  ·exact absurd (ah ex _) hne
 ·have e':¬(s.st d:Int)=0:=ae;simp only[if_neg e'];have hcs:JS.decide d v s=s:=by unfold JS.decide;rw[if_neg e]
  exact hnext _ (by show JRep b c lo n (JS.decide d v s) _;rw[hcs];exact cT) ((bA F b c lo n).grefl w) (aY _) (λx _ hne=>absurd rfl hne) λx hx=>.inl hx
def jY.Yes{L:tR JS}(S:jY α L main cs Jm Stop)(aS:Bool->Pr JS α)(w:World)(i':ι)(r:Value)(w':World):Prop:=∃ok,r=.bool ok/\S.At i' (aS ok) w'/\S.Keep w w'
theorem GQ(S:jY α (bA F b c lo n) main cs Jm Stop){o v:Int}{aS:Bool->Pr JS α}(h:S.At i ((casP c0 o v).bind aS) w)(hc0:c0<n)(hn:n<=64)(hv:ua b n w v):
  CallsM prog main cs Jm Stop S.U i 132 #[.pointer (some ⟨b,0,none⟩),.pointer S.wv,.int .i64 c0,.int .i64 o,.int .i64 v] w (S.Yes aS w):=by
 have hcs:=S.hcs;refine aX func132 rfl ?_;simp only[f132,bJ];walk_nrm;refine eG λτ=>?_;refine nQ ?_;refine eU ?_;refine aM (args:=#[.pointer S.wv]) rfl rfl rfl func42 rfl rfl cC (λb k fs h1 h2=>S.upush _ _ rfl rfl ⟨f132,by show prog.funcs[b.fn]? =_;rw[h1];exact func132⟩ h2) (S.step _ _ _ h) ?_;rintro i' r w1 ⟨rfl,h1,K1⟩;walk_nrm;refine on ?_;obtain⟨s,cT,hnext⟩:=S.put h h1 K1 hc0 (hv.keep (S.go _ _ K1));obtain⟨hw,hz⟩:=cT.word hc0;have hh:=cT.hdr;clear cT h h1 hv;have hnext:∀W,W=(if s.w c0=o then w1.setCell ⟨c,c0,none⟩ (.int .i64 v)else w1)->S.At i' (aS (s.w c0==o)) W/\S.Keep w W:=hnext;generalize hx:s.w c0=x at*;obtain⟨W,hW⟩:∃W,W=if x=o then w1.setCell ⟨c,c0,none⟩ (.int .i64 v)else w1:=⟨_,rfl⟩
 obtain⟨ok,hok⟩:∃ok,(x==o)=ok:=⟨_,rfl⟩;have HN:=ai (hnext W hW);have HW:∀τ,(if x=o then(w1.tp τ).setCell ⟨c,c0,none⟩ (.int .i64 v)else w1.tp τ)=W.tp τ:=λτ=>by subst hW;split<;>rfl
 have HW:=ai HW;have ZV:=ai hok;clear hnext hW hok hx;refine wpM_seq (l3 hcs (λτ=>?_));go_wp2_with (first|(go_at_call 155;refine(OY c c0 x o v (w1.tp τ) (W.tp τ) ok hw hz ZV.out (HW.out τ)).mono ?_;rintro e w' ⟨rfl,rfl⟩))
 refine⟨W,aN _ _,?_⟩;try simp only[Exit.then]
 refine bn ?_;obtain⟨a1,a2⟩:=HN.out;rw[ZV.out]at a1;exact⟨rfl,.bool ok,gU,ok,rfl,a1,a2⟩
end
end
section
open Go Go.Conc Go.ConcN Go.RowKit
attribute [local go_sem] aF aG aT aD aO aW aA aB dE cB dF a8
inductive IsI(b:Nat)(wv:Option Addr)(d t ix:Nat):Act->Prop
 |mk (u4 u5 u6 u7 u8 sr mF mG mb lr kE u16 ku kF kG kH mf mg u23 u24 mh u26 kI u28 kJ kK lu u32 u33 lx ly lz lA mi mj mD ny nz pq u44 pw nA nB nC nD nE nG nH si sj tS tT wK wL wM wN wO wP wQ u64 wR wT Gn Gp Gq BN BO BP Eb Ec Ed Ee Ef:Value):IsI b wv d t ix {tmps:=#[.pointer (some ⟨b,0,none⟩),.pointer wv,.int .i64 d,.pointer (some ⟨t,0,none⟩),u4,u5,u6,u7,u8,.int .i64 ix,sr,mF,mG,mb,lr,kE,u16,ku,kF,kG,kH,mf,mg,u23,u24,mh,u26,kI,u28,kJ,kK,lu,u32,u33,lx,ly,lz,lA,mi,mj,mD,ny,nz,pq,u44,pw,nA,nB,nC,nD,nE,nG,nH,si,sj,tS,tT,wK,wL,wM,wN,wO,wP,wQ,u64,wR,wT,Gn,Gp,Gq,BN,BO,BP,Eb,Ec,Ed,Ee,Ef],defers:=[]}
section
variable{n:Nat}{main:Bool}{Stop:ι->Frame->List Frame->World->Prop}{w:World}
theorem EA{fK:Nat->oF Bool}{d f:Nat}{es:List cX}{aS:Bool->Pr JS α}(h:es[ix]? =none):(installsP fK d es (f+1) ix).bind aS=aS true:=by simp only[installsP,h];rfl
def xf(fK:Nat->oF Bool)(d f ix:Nat)(es:List cX)(e:cX)(aS:Bool->Pr JS α):Pr JS α:=
 .line (.eff id λs=>if s.st d≠0 then aS false else(casP e.cell e.old (aI d)).bind λok=>if ok then(installsP fK d es f (ix+1)).bind aS else
  .line (.eff id λs=>if s.w e.cell=aI d then(installsP fK d es f (ix+1)).bind aS else if s.w e.cell<0 then(fK (-(s.w e.cell) -1).toNat).bind λ_=>(installsP fK d es f ix).bind aS else
   .line (.eff (JS.decide d 2) λ_=>aS false)))
theorem kz{c:Prop} [Decidable c]{γ:Type}{p q:Pr JS β}{k:β->Pr JS γ}:(if c then p else q).bind k=if c then p.bind k else q.bind k:=by split<;>rfl
theorem Aq{fK:Nat->oF Bool}{d f:Nat}{es:List cX}{e:cX}{aS:Bool->Pr JS α}(h:es[ix]? =some e):(installsP fK d es (f+1) ix).bind aS=xf fK d f ix es e aS:=by simp only[installsP,h,xf,Pr.bind,kz,Pr.bind_assoc]
def GR(S:jY α (bA F b c lo n) main cs Jm Stop)(fK:Nat->oF Bool):Prop:=∀(i:ι) (w:World) (d t:Nat) (es:List cX) (aS:Bool->Pr JS α),S.At i ((fK d).bind aS) w->gT b n w d t es->
 CallsM prog main cs Jm Stop S.U i 86 #[.pointer (some ⟨b,0,none⟩),.pointer S.wv,.int .i64 d] w (S.Yes aS w)
theorem BZ(S:jY α (bA F b c lo n) main cs Jm Stop){fK:Nat->oF Bool}(hH:GR S fK){d f:Nat}{es:List cX}{aS:Bool->Pr JS α}(hn:n<=64)(h:S.At i ((installsP fK d es f 0).bind aS) w)(hD:gT b n w d t es):
  CallsM prog main cs Jm Stop S.U i 128 #[.pointer (some ⟨b,0,none⟩),.pointer S.wv,.int .i64 d,.pointer (some ⟨t,0,none⟩)] w (S.Yes aS w):=by
 have hcs:=S.hcs;refine aX func128 rfl ?_;simp only[f128,bJ];walk_nrm;refine eG λτ=>?_;refine xe λτ=>?_;refine bt (fZ (λm i' a' w'=>∃ix,ix<=es.length/\IsI b S.wv d t ix a'/\S.At i' ((installsP fK d es m ix).bind aS) w'/\S.Keep w w') (n:=f) ⟨0,bj _,IsI.mk ..,h,S.refl w⟩ ?_);rintro m i1 a1 w1 ⟨ix,Sy,hA,h1,K1⟩;have hD1:=hD.keep (S.go _ _ K1);cases m with
 |zero=>exact(S.on _ _ h1).elim
 |succ m=>
  have hlen:=hD1.len;have ub:=hD1.few;cases he:es[ix]? with
  |none=>rw[EA he]at h1;have CX:¬(ix<es.length):=λhc=>(by rw[eA hc]at he;cases he);cases hA;refine xe λτ=>?_;refine aH (t:=false) cC (fY ?_);simp only[Exit.then,Exit.inBlock,if_true];refine eG λτ=>?_;refine bn ?_;exact⟨rfl,.bool true,gU,true,rfl,h1,K1⟩
  |some e=>
   rw[Aq he]at h1;unfold xf at h1;have hlt:ix<es.length:=(eL.1 he).1;have hen:=hD1.ok e (mX he);obtain⟨S6,ho0,ho1,Zz,Sr⟩:=hen;have acu:=ai hH;clear hH;cases hA;refine xe λτ=>?_;refine aH (t:=true) cC (dm ?_);refine bt ?_;refine nQ ?_;refine eU ?_;refine aM (args:=#[.pointer S.wv]) rfl rfl rfl func42 rfl rfl cC (λb k fs h1 h2=>S.upush _ _ rfl rfl ⟨f128,by show prog.funcs[b.fn]? =_;rw[h1];exact func128⟩ h2) (S.step _ _ _ h1) ?_;rintro i2 r w2 ⟨rfl,h2,K2⟩;walk_nrm;refine on ?_;have GS:=hD1.keep (S.go _ _ K2);obtain⟨s2,qQ,zh⟩:=S.get _ _ _ h2;obtain⟨hst,hsz,ur⟩:=GS.status qQ;have hs2:s2.st d<=2:=(by obtain⟨D,e1,_⟩:=GS.there qQ;have:=(qQ.ok.desc d D e1).2.2.2.1;simpa[JS.st,e1]using this);generalize acv:s2.st d=st at*;clear h1 h2 qQ;by_cases ZX:st=0;case neg=>
    have hne:¬((st:Int)=0):=ae;have h3:S.At i2 (aS false) w2:=(by simpa[acv,ZX]using zh);clear zh;refine wpM_seq (wpM_seq (l3 hcs (λτ=>?_)));go_wp2_with (first|(go_at_call 130;refine(Dw t 193 _ (w2.tp τ) hst).mono ?_;rintro e w' ⟨rfl,rfl⟩))
    refine qK ?_;refine aH (t:=true) (by simp[Act.eval,ZX]) ?_;refine eG λτ=>?_;refine bn ?_;exact⟨rfl,.bool false,gU,false,rfl,h3,S.trans _ _ _ K1 K2⟩
   subst ZX;have h3:S.At i2 ((casP e.cell e.old (aI d)).bind λok=>if ok then(installsP fK d es m (ix+1)).bind aS else
    .line (.eff id λs=>if s.w e.cell=aI d then(installsP fK d es m (ix+1)).bind aS else if s.w e.cell<0 then(fK (-(s.w e.cell) -1).toNat).bind λ_=>(installsP fK d es m ix).bind aS else
    .line (.eff (JS.decide d 2) λ_=>aS false))) w2:=by simpa[acv]using zh
   clear zh;refine wpM_seq (wpM_seq (l3 hcs (λτ=>?_)));go_wp2_with (first|(go_at_call 130;refine(Dw t 193 _ (w2.tp τ) hst).mono ?_;rintro e w' ⟨rfl,rfl⟩))
   refine qK ?_;refine Bl ?_;try simp only[Exit.then]
   obtain⟨c1,c2,c3⟩:=GS.ent ix e he;have Ko:=S.trans _ _ _ K1 K2;have HD:=ai GS;obtain⟨ec,eo,en⟩:=e;simp only at c1 c2 c3 S6 ho0 ho1 Zz Sr;clear hD1 GS hlen hsz ur hst K1 K2;have H3:=ai h3;clear h3;simp only at H3;refine eG λτ=>?_;have hd8:=hD.lt;generalize hw3:w2.alloc _=w3;have hb3:w3.heap[w2.heap.size]? =some (.cells #[.int .i64 ec,.int .i64 eo,.int .i64 en] 121 (0,0)):=(by subst hw3;simp only[←cG,cF];rw[if_pos trivial]);obtain⟨h4,K3,hF3⟩:=S.fresh _ _ _ _ _ _ w3 h H3.out Ko (by subst hw3;simp) (λx hx hne=>by refine absurd ?_ hne;subst hw3;simp only[←cG,cF];rw[if_neg ae]);have yy:=S.size _ _ Ko;have hbF:¬(bA F b c lo n).Foot w3 w2.heap.size:=λhc=>(by have:=S.foot _ _ _ _ H3.out ((hF3 _).1 hc);omega);have hbO:=S.new w2.heap.size _ _ _ h ae;have Qw:=hD.keep (S.go _ _ K3);generalize w2.heap.size=eb at*;clear hw3 c1 c2 c3 H3 HD;have H4:=ai h4;clear h4;have d0:=af hb3 0;have d1:=af hb3 1;simp only[jh,mP,ma]at d0 d1;refine wpM_seq ?_;refine wpM_seq (gi jJ 8 78 [8] rfl ax (λt=>oG) ax rfl ?_);simp only[oH,oI];iterate 7
    refine ov ?_
   refine vz (args:=#[.int .i64 d]) rfl func133 rfl rfl cC ⟨rfl,λt h=>by simp[S3,fC]at h⟩ (λτ k=>under_any d _ ae ae) ?_;walk_nrm;refine iH ?_;refine aM (args:=#[.pointer (some ⟨b,0,none⟩),.pointer S.wv,.int .i64 ec,.int .i64 eo,.int .i64 (aI d)]) rfl rfl rfl func132 rfl rfl (by simp[Act.eval,aI]) (λb k fs h1 h2=>S.upush _ _ rfl rfl ⟨f128,by show prog.funcs[b.fn]? =_;rw[h1];exact func128⟩ h2) (GQ S H4.out S6 hn (.inr ⟨d,t,es,rfl,Qw⟩)) ?_;rintro i3 r w4 ⟨ok,rfl,h5,K4⟩;walk_nrm;refine on ?_;have K14:=S.trans _ _ _ K3 K4;have hb4:=(S.same _ _ _ _ K4 hb3 aJ hbF hbO).1;have Qx:=(S.same _ _ _ _ K4 hb3 aJ hbF hbO).2;clear d0 d1 hb3 hbF hF3 Ko K3 yy H4 Qw;cases ok with
   |true=>simp only[if_true]at h5;refine ctx ?_;have hwr:IntKind.i64.wrap ((ix:Int) +1)=((ix+1:Nat):Int):=(by rw[dR];omega);refine eG λτ=>?_;refine fY ?_;simp only[Exit.then,Exit.inBlock,if_true];exact⟨m,ae,ix+1,ae,IsI.mk ..,h5,K14⟩
   |false=>
    simp only[dS,if_false]at h5;refine Bl ?_;simp only[Exit.then];refine nQ ?_;refine eU ?_;refine aM (args:=#[.pointer S.wv]) rfl rfl rfl func42 rfl rfl cC (λb k fs h1 h2=>S.upush _ _ rfl rfl ⟨f128,by show prog.funcs[b.fn]? =_;rw[h1];exact func128⟩ h2) (S.step _ _ _ h5) ?_;rintro i5 r w5 ⟨rfl,h6,K5⟩;walk_nrm;refine on ?_;have K15:=S.trans _ _ _ K14 K5;have hb5:=(S.same _ _ _ _ K5 hb4 aJ Qx hbO).1;have ZY:=(S.same _ _ _ _ K5 hb4 aJ Qx hbO).2;have hD5:=hD.keep (S.go _ _ K15);obtain⟨s5,mV,S7⟩:=S.get _ _ _ h6;have GU:=(mV.word S6).1;have hh:=mV.hdr;have ZZ:=mV.ok.word ec (by rw[mV.len];exact S6);have M4:s5.w ec<0->∃d' t' es',s5.w ec=aI d'/\gT b n w5 d' t' es':=λgw=>by
     rcases ZZ with⟨h1,_⟩|⟨d',h1,h2,h3⟩
     ·omega
     ·obtain⟨D,YK⟩:=kU.1 h3;obtain⟨t',hdt⟩:=mV.desc YK;exact⟨d',t',_,h2,hdt⟩
    have hlo: -100000<=s5.w ec/\s5.w ec<=1152921504606846975:=by
     rcases ZZ with h1|⟨d',h1,h2,_⟩
     ·omega
     ·unfold aI at h2;omega
    clear mV ZZ h6 h5 hb4 Qx K4;have S7:S.At i5 (if s5.w ec=aI d then(installsP fK d es m (ix+1)).bind aS else if s5.w ec<0 then(fK (-(s5.w ec) -1).toNat).bind λ_=>(installsP fK d es m ix).bind aS else
     .line (.eff (JS.decide d 2) λ_=>aS false)) w5:=S7
    generalize hx:s5.w ec=x at*;have d0:=af hb5 0;simp only[jh,mP,ma]at d0;refine wpM_seq (gi jJ 8 78 [8] rfl ax (λt=>oG) ax rfl ?_);simp only[oH,oI];iterate 7
     refine ov ?_
    refine vz (args:=#[.pointer (some ⟨c,ec,none⟩)]) rfl func84 rfl rfl cC ⟨rfl,λt h=>by simp[S3,fC]at h⟩ (λτ k=>Mh c ec x (w5.td τ k) GU) ?_;walk_nrm;refine iH ?_;refine eU ?_;refine on ?_;clear d0 GU hh;have hwr:IntKind.i64.wrap ((ix:Int) +1)=((ix+1:Nat):Int):=(by rw[dR];omega);by_cases hA:x=aI d
    ·have gw:x<0:=(by unfold aI at hA;omega);rw[if_pos hA]at S7;have HA:=ai hA;clear hA;refine wpM_seq (l3 hcs (λτ=>?_));go_wp2_with (first|(go_at_call 85;refine(q9 x _ gw hlo.1).mono ?_;rintro e w' ⟨rfl,rfl⟩))
     refine qK ?_;refine bt ?_;refine wpM_seq (l3 hcs (λτ=>?_));go_wp2_with (first|(go_at_call 133;refine(under_any d _ ae ae).mono ?_;rintro e w' ⟨rfl,rfl⟩))
     refine qK ?_;refine aH (t:=true) (by have:=HA.out;unfold aI at this;simp[Act.eval,this]) ?_;simp only[if_true];refine l3 hcs (λτ=>?_);go_wp2;refine⟨_,aN _ _,?_⟩;try simp only[Exit.then,Exit.inBlock]
     exact⟨m,ae,ix+1,ae,IsI.mk ..,S7,K15⟩
    rw[if_neg hA]at S7;have hA':¬(x= -(d:Int) -1):=hA;by_cases gw:x<0
    ·rw[if_pos gw]at S7;obtain⟨d',t',es',lL,hdt⟩:=M4 gw;have r9:(-x-1).toNat=d':=(by unfold aI at lL;omega);have Ct: -x-1=(d':Int):=(by unfold aI at lL;omega);rw[r9]at S7;have Hd2:=ai Ct;clear lL r9 Ct;refine wpM_seq (l3 hcs (λτ=>?_));go_wp2_with (first|(go_at_call 85;refine(q9 x _ gw hlo.1).mono ?_;rintro e w' ⟨rfl,rfl⟩))
     refine qK ?_;refine bt ?_;refine wpM_seq (l3 hcs (λτ=>?_));go_wp2_with (first|(go_at_call 133;refine(under_any d _ ae ae).mono ?_;rintro e w' ⟨rfl,rfl⟩))
     refine qK ?_;refine aH (t:=false) (by simp[Act.eval,hA']) ?_;simp only[dS,if_false];refine eG λτ=>?_;refine ctx ?_;refine gO ?_;refine rg ?_;iterate 3
      refine eU ?_
     refine aM (args:=#[.pointer (some ⟨b,0,none⟩),.pointer S.wv,.int .i64 d']) rfl rfl rfl func86 rfl rfl (by simp[Act.eval,Hd2.out]) (λb k fs h1 h2=>S.upush _ _ rfl rfl ⟨f128,by show prog.funcs[b.fn]? =_;rw[h1];exact func128⟩ h2) (acu.out i5 w5 d' t' es' _ S7 hdt) ?_;rintro i6 r w6 ⟨ok,rfl,h7,K6⟩;walk_nrm;refine ji ?_;try simp only[Exit.then,Exit.inBlock]
     exact⟨m,ae,ix,ae,IsI.mk ..,h7,S.trans _ _ _ K15 K6⟩
    rw[if_neg gw]at S7;refine wpM_seq (l3 hcs (λτ=>?_));go_wp2_with (first|(go_at_call 85;refine(yZ x _ ae hlo.2).mono ?_;rintro e w' ⟨rfl,rfl⟩))
    refine qK ?_;refine bt ?_;refine wpM_seq (l3 hcs (λτ=>?_));go_wp2_with (first|(go_at_call 133;refine(under_any d _ ae ae).mono ?_;rintro e w' ⟨rfl,rfl⟩))
    refine qK ?_;refine aH (t:=false) (by simp[Act.eval,hA']) ?_;simp only[dS,if_false];refine eG λτ=>?_;refine aH (t:=false) cC ?_;simp only[dS,if_false];refine nQ ?_;refine eU ?_;refine aM (args:=#[.pointer S.wv]) rfl rfl rfl func42 rfl rfl cC (λb k fs h1 h2=>S.upush _ _ rfl rfl ⟨f128,by show prog.funcs[b.fn]? =_;rw[h1];exact func128⟩ h2) (S.step _ _ _ S7) ?_;rintro i6 r w6 ⟨rfl,h7,K6⟩;walk_nrm;refine on ?_;have K16:=S.trans _ _ _ K15 K6;have hD6:=hD.keep (S.go _ _ K16);obtain⟨s6,XL,hnext⟩:=S.dec h h7 K16 hD6 ae;obtain⟨hst,hsz,_⟩:=hD6.status XL;generalize (s6.st d:Int)=y at*;obtain⟨W,hW⟩:∃W,W=if y=0 then w6.setCell ⟨t,193,none⟩ (.int .i32 (2:Nat))else w6:=⟨_,rfl⟩
    obtain⟨ok,hok⟩:∃ok,(y==0)=ok:=⟨_,rfl⟩;have HN:=ai (hnext W hW);have HW:∀τ,(if y=0 then(w6.tp τ).setCell ⟨t,193,none⟩ (.int .i32 2)else w6.tp τ)=W.tp τ:=λτ=>(by subst hW;split<;>rfl);have HW:=ai HW;have ZV:=ai hok;clear hnext hW hok XL h7 S7 hD6 M4;refine wpM_seq (l3 hcs (λτ=>?_));go_wp2_with (first|(go_at_call 129;refine(CZ t 193 y 0 2 (w6.tp τ) (W.tp τ) ok hst hsz ZV.out (HW.out τ)).mono ?_;rintro e w' ⟨rfl,rfl⟩))
    refine⟨W,aN _ _,?_⟩;try simp only[Exit.then]
    refine eG λτ=>?_;refine bn ?_;try simp only[Exit.then,Exit.inBlock]
    exact⟨rfl,.bool false,gU,false,rfl,HN.out.1,HN.out.2⟩
end
inductive Wa(b:Nat)(wv:Option Addr)(d t:Nat):Act->Prop
 |mk (u3 u4 u5 u6 u8 u9 sr mF mG mb lr kE u16 ku kF kG kH mf mg u23 u24 mh u26 kI u28 kJ kK lu u32 u33 lx ly lz lA mi mj mD ny nz pq u44 pw nA nB nC nD nE nG nH si sj tS tT wK wL wM wN wO wP wQ u64 wR wT:Value):Wa b wv d t {tmps:=#[.pointer (some ⟨b,0,none⟩),.pointer wv,.int .i64 d,u3,u4,u5,u6,.pointer (some ⟨t,0,none⟩),u8,u9,sr,mF,mG,mb,lr,kE,u16,ku,kF,kG,kH,mf,mg,u23,u24,mh,u26,kI,u28,kJ,kK,lu,u32,u33,lx,ly,lz,lA,mi,mj,mD,ny,nz,pq,u44,pw,nA,nB,nC,nD,nE,nG,nH,si,sj,tS,tT,wK,wL,wM,wN,wO,wP,wQ,u64,wR,wT],defers:=[]}
inductive O5(b:Nat)(wv:Option Addr)(d t:Nat)(is:Bool)(len cap ix:Nat):Act->Prop
 |mk (u3 u4 u5 u6 u9 sr mF mG mb lr kE u16 ku kF kG kH mf mg u23 u24 mh u26 kI u28 kJ kK lu u32 u33 lx ly lz lA mi mj mD ny nz nA nB nC nD nE nG nH si sj tS tT wK wL wM wN wO wP wQ u64 wR wT:Value):O5 b wv d t is len cap ix {tmps:=#[.pointer (some ⟨b,0,none⟩),.pointer wv,.int .i64 d,u3,u4,u5,u6,.pointer (some ⟨t,0,none⟩),.bool is,u9,sr,mF,mG,mb,lr,kE,u16,ku,kF,kG,kH,mf,mg,u23,u24,mh,u26,kI,u28,kJ,kK,lu,u32,u33,lx,ly,lz,lA,mi,mj,mD,ny,nz,.slice (some ⟨t,1,none⟩) len cap,.int .i64 len,.int .i64 ix,nA,nB,nC,nD,nE,nG,nH,si,sj,tS,tT,wK,wL,wM,wN,wO,wP,wQ,u64,wR,wT],defers:=[]}
inductive Wb(b:Nat)(wv:Option Addr)(d t:Nat)(is:Bool)(len cap ix eb:Nat)(to:Int):Act->Prop
 |mk (u3 u4 u5 u6 u9 mG mb lr kE u16 ku kF kG kH mf mg u23 u24 mh u26 kI u28 kJ kK lu u32 u33 lx ly lz lA mi mj mD ny nz nA nB nC nD nE nG nH si sj tS tT wK wL wM wN wO wP wQ u64 wR wT:Value):Wb b wv d t is len cap ix eb to {tmps:=#[.pointer (some ⟨b,0,none⟩),.pointer wv,.int .i64 d,u3,u4,u5,u6,.pointer (some ⟨t,0,none⟩),.bool is,u9,.pointer (some ⟨eb,0,none⟩),.int .i64 to,mG,mb,lr,kE,u16,ku,kF,kG,kH,mf,mg,u23,u24,mh,u26,kI,u28,kJ,kK,lu,u32,u33,lx,ly,lz,lA,mi,mj,mD,ny,nz,.slice (some ⟨t,1,none⟩) len cap,.int .i64 len,.int .i64 ix,nA,nB,nC,nD,nE,nG,nH,si,sj,tS,tT,wK,wL,wM,wN,wO,wP,wQ,u64,wR,wT],defers:=[]}
section
variable{n:Nat}{main:Bool}{Stop:ι->Frame->List Frame->World->Prop}{w:World}
structure aek{ι:Type}(i:ι)(w:World)(P:Act->Prop)(i':ι)(e:Exit)(a:Act)(w':World):Prop where
 i:i'=i
 e:e=.normal
 w:w'=w
 p:P a
def rh(d:Nat)(es:List cX)(aS:Bool->Pr JS α):Pr JS α:= .line (.eff id λs=>(iy d (decide (s.st d=1)) es).bind λ_=>aS (decide (s.st d=1)))
theorem KZ{d:Nat}{e:cX}{es:List cX}{p:Pr JS α}:(iy d is (e::es)).bind (λ_=>p)=(casP e.cell (aI d) (if is then dg e.old e.next else e.old)).bind λ_=>(iy d is es).bind λ_=>p:=by simp only[iy,Pr.bind_assoc]
theorem La{f d:Nat}{aS:Bool->Pr JS α}:(jI (f+1) d).bind aS=.eff id λs=>(installsP (jI f) d (s.es d) f 0).bind λok=>if ok then .line (.eff (JS.decide d 1) λ_=>rh d (s.es d) aS)else rh d (s.es d) aS:=by simp only[jI,Pr.bind,Pr.bind_assoc,kz,rh]
theorem C1(S:jY α (bA F b c lo n) main cs Jm Stop)(hn:n<=64):∀f,GR S (jI f):=by
 intro f;induction f with
 |zero=>exact λi w d t es aS h _=>(S.on _ _ h).elim
 |succ f ih=>
  intro i w d t es aS h Mu;rw[La]at h;have Z0:=h;obtain⟨s,cT,h1⟩:=S.get _ _ _ h;obtain⟨D,vx,_,_⟩:=Mu.there cT;obtain⟨t',hD⟩:=cT.desc vx;obtain rfl:t=t':=by have:=hD.ptr;rw[Mu.ptr]at this;simpa using this
  have hes:s.es d=D.es:=by simp[JS.es,vx]
  rw[hes]at h1;obtain⟨_,_,ur⟩:=hD.status cT;have Lb:=hD.ptr;have hd8:=hD.lt;clear Mu hes vx cT;generalize D.es=es at*;have hcs:=S.hcs;refine aX func86 rfl ?_;simp only[f86,bJ];walk_nrm;refine eG λτ=>?_;refine nQ ?_;have afS:(d:Int) <8192:=ae;iterate 5
   refine eU ?_
  refine aM (args:=#[.pointer (some ⟨b,1+d,none⟩)]) rfl rfl rfl func127 rfl rfl cC (λb k fs h1 h2=>S.upush _ _ rfl rfl ⟨f86,by show prog.funcs[b.fn]? =_;rw[h1];exact func86⟩ h2) (O0 S.hcs b (1+d) t Lb ur) ?_;rintro i' r w' ⟨rfl,e1,e2⟩;obtain rfl:=e1.symm;obtain rfl:=e2.symm;walk_nrm;refine eU ?_;refine on ?_;refine xS (λi' a' w'=>Wa b S.wv d t a'/\S.At i' (rh d es aS) w'/\S.Keep w w') ?_ ?_
  ·refine wpM_seq (gO ?_);refine rg ?_;iterate 4
    refine eU ?_
   refine aM (args:=#[.pointer (some ⟨b,0,none⟩),.pointer S.wv,.int .i64 d,.pointer (some ⟨t,0,none⟩)]) rfl rfl rfl func128 rfl rfl cC (λb k fs h1 h2=>S.upush _ _ rfl rfl ⟨f86,by show prog.funcs[b.fn]? =_;rw[h1];exact func86⟩ h2) (BZ S ih hn h1 hD) ?_;rintro i2 r w2 ⟨ok,rfl,h2,K2⟩;walk_nrm;refine on ?_;cases ok with
   |false=>simp only[dS,if_false]at h2;refine Bl ?_;exact⟨Wa.mk ..,h2,K2⟩
   |true=>
    simp only[if_true]at h2;refine ctx ?_;refine nQ ?_;refine eU ?_;refine aM (args:=#[.pointer S.wv]) rfl rfl rfl func42 rfl rfl cC (λb k fs h1 h2=>S.upush _ _ rfl rfl ⟨f86,by show prog.funcs[b.fn]? =_;rw[h1];exact func86⟩ h2) (S.step _ _ _ h2) ?_;rintro i3 r w3 ⟨rfl,h3,K3⟩;walk_nrm;refine on ?_;have K13:=S.trans _ _ _ K2 K3;have Qw:=hD.keep (S.go _ _ K13);obtain⟨s3,sS,hnext⟩:=S.dec h h3 K13 Qw ae;obtain⟨hst,hsz,_⟩:=Qw.status sS;generalize (s3.st d:Int)=y at*;obtain⟨W,hW⟩:∃W,W=if y=0 then w3.setCell ⟨t,193,none⟩ (.int .i32 (1:Nat))else w3:=⟨_,rfl⟩
    obtain⟨ok,hok⟩:∃ok,(y==0)=ok:=⟨_,rfl⟩;have HN:=ai (hnext W hW);have HW:∀τ,(if y=0 then(w3.tp τ).setCell ⟨t,193,none⟩ (.int .i32 1)else w3.tp τ)=W.tp τ:=λτ=>(by subst hW;split<;>rfl);have HW:=ai HW;have ZV:=ai hok;clear hnext hW hok sS h3 h2 Qw;refine l3 hcs (λτ=>?_);go_wp2_with (first|(go_at_call 129;refine(CZ t 193 y 0 1 (w3.tp τ) (W.tp τ) ok hst hsz ZV.out (HW.out τ)).mono ?_;rintro e w' ⟨rfl,rfl⟩))
    refine⟨W,aN _ _,?_⟩;try simp only[Exit.then]
    exact⟨Wa.mk ..,HN.out.1,HN.out.2⟩
  rintro i1 a1 w1 ⟨hA,h4,K1⟩;unfold rh at h4;cases hA;refine nQ ?_;refine eU ?_;refine aM (args:=#[.pointer S.wv]) rfl rfl rfl func42 rfl rfl cC (λb k fs h1 h2=>S.upush _ _ rfl rfl ⟨f86,by show prog.funcs[b.fn]? =_;rw[h1];exact func86⟩ h2) (S.step _ _ _ h4) ?_;rintro i2 r w2 ⟨rfl,h5,K2⟩;walk_nrm;refine on ?_;have Ko:=S.trans _ _ _ K1 K2;have GS:=hD.keep (S.go _ _ Ko);obtain⟨s2,qQ,h5'⟩:=S.get _ _ _ h5;obtain⟨hst,_,_⟩:=GS.status qQ;have h6:S.At i2 ((iy d (decide (s2.st d=1)) es).bind λ_=>aS (decide (s2.st d=1))) w2:=h5';have hsi:((s2.st d:Int)==1)=decide (s2.st d=1):=by rw[Bool.eq_iff_iff];simp;omega
  generalize hy:(s2.st d:Int)=y at*;generalize decide (s2.st d=1)=is at*;clear h5 h5' h4 qQ hy;have Hsi:=ai hsi;clear hsi;refine wpM_seq (l3 hcs (λτ=>?_));go_wp2_with (first|(go_at_call 130;refine(Dw t 193 y (w2.tp τ) hst).mono ?_;rintro e w' ⟨rfl,rfl⟩))
  refine qK ?_;rw[Hsi.out];have hlen:=GS.len;have ub:=GS.few;have hl:(es.length:Int)<=64:=ae;clear hst;refine wpM_seq (wpM_seq (l3 hcs (λτ=>?_)))
  go_quiet (fail)
  go_wp2;refine⟨w2,⟨rfl,rfl,rfl⟩,?_⟩;try simp only[Exit.then]
  clear Hsi hlen;refine bt (fZ (λm i' a' w'=>∃ix,m=es.length-ix/\ix<=es.length/\O5 b S.wv d t is es.length 64 ix a'/\S.At i' ((iy d is (es.drop ix)).bind λ_=>aS is) w'/\S.Keep w w') (n:=es.length) ⟨0,rfl,bj _,O5.mk ..,h6,Ko⟩ ?_);rintro m i3 a3 w3 ⟨ix,rfl,Sy,hA,h7,K3⟩;have Qw:=hD.keep (S.go _ _ K3);have hlen:=Qw.len;by_cases hlt:ix<es.length
  ·obtain⟨e,he⟩:∃e,es[ix]? =some e:=⟨_,eA hlt⟩;have XM:es.drop ix=e::es.drop (ix+1):=(by rw[List.drop_eq_getElem_cons hlt];congr 1;rw[eA hlt]at he;exact aP he);rw[XM,KZ]at h7;obtain⟨S6,ho0,ho1,Zz,Sr⟩:=Qw.ok e (mX he);obtain⟨c1,c2,c3⟩:=Qw.ent ix e he;obtain⟨ec,eo,en⟩:=e;simp only at c1 c2 c3 S6 ho0 ho1 Zz Sr h7;have hwr:IntKind.i64.wrap ((ix:Int) +1)=((ix+1:Nat):Int):=(by rw[dR];omega);have Ih:=ai ih;clear ih Qw h h1 h6 XM he hlen;cases hA;refine eG λτ=>?_;refine wpM_seq (aH (t:=true) (by simp[Act.eval,hlt]) (dm ?_));try simp only[Exit.then]
   refine wpM_seq (bt ?_);refine eG λτ=>?_;generalize hw4:w3.alloc _=w4;have hb4:w4.heap[w3.heap.size]? =some (.cells #[.int .i64 ec,.int .i64 eo,.int .i64 en] 121 (0,0)):=(by subst hw4;simp only[←cG,cF];rw[if_pos trivial]);obtain⟨h8,K4,Qx⟩:=S.fresh _ _ _ _ _ _ w4 Z0 h7 K3 (by subst hw4;simp) (λx hx hne=>by refine absurd ?_ hne;subst hw4;simp only[←cG,cF];rw[if_neg ae]);have hD4:=hD.keep (S.go _ _ K4);generalize w3.heap.size=eb at*;clear hw4 c1 c2 c3 h7 Qx Z0;have H8:=ai h8;clear h8;have d0:=af hb4 0;have d1:=af hb4 1;have d2:=af hb4 2;simp only[jh,mP,ma]at d0 d1 d2;refine eG λτ=>?_;have hto:ua b n w4 (if is then dg eo en else eo):=by
    have:=mH eo en Zz Sr;refine .inl ?_;split
    ·exact⟨this.1,this.2.1⟩
    ·exact⟨ho0,ho1⟩
   refine xS (λi' a' w'=>aek i3 w4 (Wb b S.wv d t is es.length 64 ix eb (if is then dg eo en else eo)) i' .normal a' w') ?_ ?_
   ·cases is with
    |true=>
     refine wpM_seq (l3 hcs (λτ=>?_));go_wp2;refine qK ?_;refine ctx ?_;refine l3 hcs (λτ=>?_);go_wp2_with (first|(go_at_call 131;refine(IZ eo en _ ho0 ho1 Zz Sr).mono ?_;rintro e w' ⟨rfl,rfl⟩))
     refine qK ?_;exact⟨rfl,rfl,rfl,Wb.mk ..⟩
    |false=>refine wpM_seq (l3 hcs (λτ=>?_));go_wp2;refine qK ?_;refine Bl ?_;exact⟨rfl,rfl,rfl,Wb.mk ..⟩
   rintro i4 a4 w5 ⟨e1,_,e2,KS⟩;obtain rfl:=e1.symm;obtain rfl:=e2.symm;generalize (if is then dg eo en else eo)=to at*;cases KS;refine di (Q:=λi' e' a' w'=>e'=.normal/\O5 b S.wv d t is es.length 64 ix a'/\S.At i' ((iy d is (es.drop (ix+1))).bind λ_=>aS is) w'/\S.Keep w w') ?_ ?_
   ·refine gi jJ 7 67 [7] rfl ax (λt=>oG) ax rfl ?_;simp only[oH,oI];iterate 5
     refine ov ?_
    refine vz (args:=#[.int .i64 d]) rfl func133 rfl rfl cC ⟨rfl,λt h=>by simp[S3,fC]at h⟩ (λτ k=>under_any d _ ae ae) ?_;walk_nrm;refine ov ?_;refine iH ?_;refine aM (args:=#[.pointer (some ⟨b,0,none⟩),.pointer S.wv,.int .i64 ec,.int .i64 (aI d),.int .i64 to]) rfl rfl rfl func132 rfl rfl (by simp[Act.eval,aI]) (λb k fs h1 h2=>S.upush _ _ rfl rfl ⟨f86,by show prog.funcs[b.fn]? =_;rw[h1];exact func86⟩ h2) (GQ S H8.out S6 hn hto) ?_;rintro i5 r w6 ⟨ok,rfl,h9,K6⟩;walk_nrm;refine ji ?_;exact⟨rfl,O5.mk ..,h9,S.trans _ _ _ K4 K6⟩
   ·rintro i5 e' a5 w6 ⟨rfl,ZH,h9,K6⟩;simp only[Exit.inBlock,Exit.then];cases ZH;refine l3 hcs (λτ=>?_);go_wp2;refine⟨_,aN _ _,?_⟩;exact⟨es.length- (ix+1),ae,ix+1,rfl,ae,O5.mk ..,h9,K6⟩
  ·have Kp:ix=es.length:=ae;rw[Kp,List.drop_length]at h7;have hd:¬((es.length:Int) < (es.length:Int)):=ae;rw[Kp]at hA;have Ih:=ai ih;clear ih Kp hlt Sy hlen Qw;cases hA;clear e1 e2;simp only[Int.not_lt]at hd;refine eG λτ=>?_;refine wpM_seq (aH (t:=false) cC (fY ?_));simp only[Exit.then,Exit.inBlock,if_true];refine eG λτ=>?_;refine bn ?_;exact⟨rfl,.bool is,gU,is,rfl,h7,K3⟩
end
end
section
open Go Go.Conc Go.ConcN Go.RowKit
def M5(s o:Nat)(es:List cX)(w:World):Prop:=∀j v,(es.flatMap dB)[j]? =some v->w.cell? ⟨s,o+j,none⟩=some v
section
variable{n:Nat}{s:JS}{w:World}
theorem JRep.make(R:JRep b c lo n s w){es:List cX}(hk:k<8)(hm:s.made k<1024)(hes:∀e∈es,e.Ok n)(ub:1<=es.length/\es.length<=64)(hlo:lo<=w.heap.size)(ht:t=w.heap.size)
  (hsz:w'.heap.size=w.heap.size+1)(bT:∀x,x<w.heap.size->x≠b->w'.heap[x]? =w.heap[x]?)(hb:∃cb e,w'.heap[b]? =some (.cells cb e (0,0))/\cb.size=8201)(hbo:∀o,o≠8193+k->o≠1+(k+8*s.made k)->w'.cell? ⟨b,o,none⟩=w.cell? ⟨b,o,none⟩)
  (hmk:w'.cell? ⟨b,8193+k,none⟩=some (.int .i64 ((s.made k+1:Nat):Int)))(Lb:w'.cell? ⟨b,1+(k+8*s.made k),none⟩=some (.pointer (some ⟨t,0,none⟩)))(htb:w'.heap[t]? =some (.cells (eR ⟨es,0⟩) 187 (0,0))):
  JRep b c lo n (s.make k es) w'/\JG b w w'/\(∀x,bL b c w' x->bL b c w x\/x=w.heap.size)/\gT b n w' (k+8*s.made k) t es:=by
 have hlt:=R.lt;have hd:k+8*s.made k<8192:=ae;have hnone:s.ds (k+8*s.made k)=none:=(R.ok.made k hk).2 _ (aY _);have hne:∀d',d'<8192->d'≠k+8*s.made k->w'.cell? ⟨b,1+d',none⟩=w.cell? ⟨b,1+d',none⟩:=λd' h1 h2=>hbo _ ae ae;have old:∀d' D,s.ds d'=some D->d'≠k+8*s.made k:=λd' D h e=>by rw[e,hnone]at h;cases h
 have hold:∀d' t',d'<8192->w.cell? ⟨b,1+d',none⟩=some (.pointer (some t'))->(∃D,s.ds d'=some D/\t'.off=0/\t'.spot=none/\w.heap[t'.block]? =some (.cells (eR D) 187 (0,0))/\lo<=t'.block)/\d'≠k+8*s.made k:=λd' t' h1 h2=>by
  have ha:=R.all d' h1;cases e:s.ds d' with
  |none=>simp only[e]at ha;obtain⟨u,h3,h4⟩:=ha;rw[h2]at h3;exact absurd (aP h3).symm (h4 _)
  |some D=>simp only[e]at ha;obtain⟨t'',h3,h4,h5⟩:=ha;rw[h2]at h3;obtain rfl:t'=⟨t'',0,none⟩:=(by simpa using h3);exact⟨⟨D,rfl,rfl,rfl,h5,h4⟩,old d' D e⟩
 have S8:∀x,x≠b->x<w.heap.size->w'.heap[x]? =w.heap[x]? :=λx h1 h2=>bT x h2 h1;have cT:JRep b c lo n (s.make k es) w':=by
  refine⟨⟨R.ok.few,λi hi=>?_,λd' D' h=>?_,λk' xK=>?_⟩,R.len,R.ne,R.hlo,hb,?_,?_,λd' r9=>?_,λk' xK=>?_,λd1 d2 t' h1 h2 h3 h4=>?_⟩
  ·refine(R.ok.word i hi).imp id λ⟨d',h1,h2,h3⟩=>⟨d',h1,h2,?_⟩;show(if d'=k+8*s.made k then some ⟨es,0⟩else s.ds d')≠none;split
   ·simp
   ·exact h3
  ·have h:(if d'=k+8*s.made k then some ⟨es,0⟩else s.ds d')=some D':=h;split at h
   ·rename_i e;obtain rfl:=aP h;refine⟨ae,ub.1,ub.2,by show(0:Nat)<=2;omega,λe' Ap=>?_⟩;have:=hes e' Ap;rw[←R.len]at this;exact this
   ·exact R.ok.desc d' D' h
  ·show(if k'=k then s.made k+1 else s.made k')<=1024/\∀m,(if k'=k then s.made k+1 else s.made k')<=m->(if k'+8*m=k+8*s.made k then _ else _)=none;obtain⟨a1,a2⟩:=R.ok.made k' xK;by_cases e:k'=k
   ·subst e;simp only[if_true];refine⟨ae,λm vP=>?_⟩;rw[if_neg ae];exact a2 m ae
   ·simp only[if_neg e];refine⟨a1,λm vP=>?_⟩;rw[if_neg ae];exact a2 m vP
  ·obtain⟨e,h⟩:=R.cc;exact⟨e,by rw[S8 c (bp R.ne) hlt.2];exact h⟩
  ·rw[hbo 0 ae ae];exact R.hdr
  ·show match(if d'=k+8*s.made k then some (⟨es,0⟩:qZ)else s.ds d')with|none=>_|some D=>_;by_cases e:d'=k+8*s.made k
   ·rw[if_pos e,e];exact⟨t,Lb,ae,htb⟩
   ·rw[if_neg e];have ha:=R.all d' r9;cases e2:s.ds d' with
    |none=>simp only[e2]at ha⊢;rw[hne d' r9 e];exact ha
    |some D=>simp only[e2]at ha⊢;obtain⟨t',h1,h2,h3⟩:=ha;have FO:=(aQ.1 h3).1;have:=R.hlo.1;exact⟨t',by rw[hne d' r9 e];exact h1,h2,by rw[S8 t' ae FO];exact h3⟩
  ·show _=some (Value.int .i64 ((if k'=k then s.made k+1 else s.made k':Nat):Int));by_cases e:k'=k
   ·subst e;rw[if_pos rfl];exact hmk
   ·rw[if_neg e,hbo _ ae ae];exact R.made k' xK
  ·by_cases e1:d1=k+8*s.made k<;>by_cases e2:d2=k+8*s.made k
   ·rw[e1,e2]
   ·exfalso;rw[e1,Lb]at h3;obtain rfl:(⟨t,0,none⟩:Addr)=t':=(by simpa using h3);rw[hne d2 h2 e2]at h4;obtain⟨⟨D,_,_,_,h5,_⟩,_⟩:=hold d2 _ h2 h4;have:=(aQ.1 h5).1;simp only at this;omega
   ·exfalso;rw[e2,Lb]at h4;obtain rfl:(⟨t,0,none⟩:Addr)=t':=(by simpa using h4);rw[hne d1 h1 e1]at h3;obtain⟨⟨D,_,_,_,h5,_⟩,_⟩:=hold d1 _ h1 h3;have:=(aQ.1 h5).1;simp only at this;omega
   ·rw[hne d1 h1 e1]at h3;rw[hne d2 h2 e2]at h4;exact R.inj d1 d2 t' h1 h2 h3 h4
 refine⟨cT,λd' t' h1 h2=>?_,λx hx=>?_,?_⟩
 ·obtain⟨⟨D,_,_,_,h5,h6⟩,h7⟩:=hold d' t' h1 h2;have hl:=(aQ.1 h5).1;have:=R.hlo.1;exact⟨by rw[hne d' h1 h7];exact h2,λi _=>bP (w:=w) (S8 t'.block ae hl)⟩
 ·rcases hx with h|h|⟨d',t',h1,h2,h3⟩
  ·exact .inl (.inl h)
  ·exact .inl (.inr (.inl h))
  ·by_cases e:d'=k+8*s.made k
   ·rw[e,Lb]at h2;obtain rfl:(⟨t,0,none⟩:Addr)=t':=qT;exact .inr (by rw[h3,ht])
   ·rw[hne d' h1 e]at h2;exact .inl (.inr (.inr ⟨d',t',h1,h2,h3⟩))
 ·obtain⟨t',h⟩:=cT.desc (d:=k+8*s.made k) (D:=⟨es,0⟩) (by show(if _=_ then _ else _)=_;rw[if_pos rfl]);obtain rfl:t=t':=by have:=h.ptr;rw[Lb]at this;simpa using this
  exact h
end
end
section
open Go Go.Conc Go.ConcN Go.RowKit
attribute [local go_sem] aF aG aT aD aO aW aA aB dE cB dF a8
def iR(n:Int):Array Value:=(Value.int .i64 n::(List.replicate 192 (Value.int .i64 0) ++[Value.int .i32 0])).toArray
theorem Ar(n:Int):(iR n).size=194:=by show(Value.int .i64 n::(List.replicate 192 (Value.int .i64 0) ++[Value.int .i32 0])).length=194;rw[ew,mM,Al];rfl
theorem O6:Tryz.zeroCells187=iR 0:=ax
theorem B0(n:Int):Tryz.zeroCells187.setIfInBounds 0 (.int .i64 n)=iR n:=by rw[O6];unfold iR;rw[jD,mI]
theorem B7(w:World)(dT sT ty elem:TypeId)(b o Z1 ael sz:Nat)(a:Addr)(Z2 aem:Nat)(cs:List Value)
  (hu:P.underlying dT=some (.slice elem))(hs:(P.info? elem).map (·.size)=some sz)(hn:cs.length=Nat.min Z2 Z1*sz)
  (hsrc:∀j v,cs[j]? =some v->w.cell? (a.add j)=some v)(hc:∀j,j<cs.length->(w.cell? ⟨b,o+j,none⟩).isSome=true)(hf:∀j,j<cs.length->w.frozen? ⟨b,o+j,none⟩=false)(h1:∀v∈cs,v.oneCell'=true):
  (Builtin.copy_ #[dT,sT] ty #[.slice (some ⟨b,o,none⟩) Z1 ael,.slice (some a) Z2 aem]).run P w=.ok (goInt (Nat.min Z2 Z1)) (w.setCells b o cs):=by
 have hl:=run_loadCells_list (P:=P) w a cs hsrc;have hst:=run_storeCells_cells (P:=P) b o cs 0 w (by simpa using hc) (by simpa using hf) h1;cases hq:P.info? elem with
 |none=>simp[hq]at hs
 |some i=>
  have hi:i.size=sz:=by simpa[hq]using hs
  simp[Builtin.copy_,run_underlying hu,Builtin.lenOf,Builtin.firstCells,sizeOf,typeInfo,hq,hi,←hn,hl,hst]
theorem Lc:(prog.info? 121).map (·.size)=some 3:=ax
theorem Au(b o j:Nat):(⟨b,o,none⟩:Addr).add j=⟨b,o+j,none⟩:=by unfold Addr.add;split<;>simp_all
theorem GV(es:List cX):∀v∈es.flatMap dB,v.oneCell'=true:=by intro v hv;obtain⟨e,_,h⟩:=List.mem_flatMap.1 hv;simp only[dB,dM,pK,or_false]at h;rcases h with rfl|rfl|rfl<;>rfl
theorem rk:∀(vs:List Value) (o b:Nat) (w:World) (pre mid post:List Value) (e:TypeId) (f:Nat×Nat),w.heap[b]? =some (.cells (pre++mid++post).toArray e f)->pre.length=o->mid.length=vs.length->(w.setCells b o vs).heap[b]? =some (.cells (pre++vs++post).toArray e f)/\(w.setCells b o vs).heap.size=w.heap.size/\∀x,x≠b->(w.setCells b o vs).heap[x]? =w.heap[x]?
 |[],o,b,w,pre,mid,post,e,f,h,_,hm=>by obtain rfl:mid=[]:=List.length_eq_zero_iff.1 hm;exact⟨h,rfl,λ_ _=>rfl⟩
 |v::vs,o,b,w,pre,mid,post,e,f,h,hp,hm=>by
  cases mid with
  |nil=>simp at hm
  |cons m mid=>simp only[ew,Nat.add_right_cancel_iff]at hm;have h1:=aq (o:=o) h v;rw[jD,show(pre++m::mid++post).set o v=(pre++[v]) ++mid++post by rw[uH,List.set_append_right _ _ ae,hp.symm,Nat.sub_self];simp]at h1;obtain⟨a1,a2,a3⟩:=rk vs (o+1) b (w.setCell ⟨b,o,none⟩ v) (pre++[v]) mid post e f h1 (by simp[hp]) hm;refine⟨by rw[World.setCells,a1];simp,by rw[World.setCells,a2];simp[World.setCell],λx hx=>by rw[World.setCells,a3 x hx,ah hx]⟩
theorem GW{w:World}{es:List cX}(hn:es.length<=64)(hb:w.heap[t]? =some (.cells (iR es.length) 187 (0,0))):(w.setCells t 1 (es.flatMap dB)).heap[t]? =some (.cells (eR ⟨es,0⟩) 187 (0,0))/\(w.setCells t 1 (es.flatMap dB)).heap.size=w.heap.size/\∀x,x≠t->(w.setCells t 1 (es.flatMap dB)).heap[x]? =w.heap[x]? :=by
 have hl:=gq es;have Z3:List.replicate 192 (Value.int .i64 0)=List.replicate (3*es.length) (Value.int .i64 0) ++List.replicate (192-3*es.length) (Value.int .i64 0):=by rw[List.replicate_append_replicate];congr 1;omega
 have:=rk (es.flatMap dB) 1 t w [Value.int .i64 es.length] (List.replicate (3*es.length) (Value.int .i64 0)) (List.replicate (192-3*es.length) (Value.int .i64 0) ++[Value.int .i32 0]) 187 (0,0) (by rw[hb];unfold iR;rw[Z3];simp only[uH,jc,kR]) rfl (by simp[hl]);obtain⟨a1,a2,a3⟩:=this;refine⟨?_,a2,a3⟩;rw[a1];unfold eR;simp only[uH,jc,kR];rfl
theorem yb(b:Nat)(τ:Nat->Question->Nat):∀(vs:List Value) (o:Nat) (w:World),(w.tp τ).setCells b o vs=(w.setCells b o vs).tp τ
 |[],_,_=>rfl
 |v::vs,o,w=>by rw[World.setCells,World.setCells,←yb b τ vs];rfl
section
variable{n:Nat}{main:Bool}{Stop:ι->Frame->List Frame->World->Prop}{w:World}
def jY.Z4{L:tR JS}(S:jY α L main cs Jm Stop)(aS:Bool×Int->Pr JS α)(w:World)(i':ι)(r:Value)(w':World):Prop:=∃ok e,r=.tuple #[.bool ok,.int .i64 e]/\S.At i' (aS (ok,e)) w'/\S.Keep w w'
theorem Ld{es:List cX}{aS:Bool×Int->Pr JS α}:(doesP F k es).bind aS=.eff id λs=>if 1024<=s.made k then aS (false,261)else .eff (JS.make k es) λs=>(jI F (k+8*s.made k)).bind λok=>aS (ok,0):=by simp only[doesP,Pr.bind,kz,Pr.bind_assoc]
theorem px(S:jY α (bA F b c lo n) main cs Jm Stop)(hn:n<=64){es:List cX}{aS:Bool×Int->Pr JS α}{o cap:Nat}(h:S.At i ((doesP F S.num es).bind aS) w)(hlo:lo<=w.heap.size)(hs:M5 s o es w)(Xc:s≠b)(Bj:s<w.heap.size)(hes:∀e∈es,e.Ok n)(ub:1<=es.length/\es.length<=64):
  CallsM prog main cs Jm Stop S.U i 47 #[.pointer (some ⟨b,0,none⟩),.pointer S.wv,.slice (some ⟨s,o,none⟩) es.length cap] w (S.Z4 aS w):=by
 have Z0:=h;rw[Ld]at h;have hcs:=S.hcs;refine aX func47 rfl ?_;simp only[f47,bJ];walk_nrm;refine eG λτ=>?_;refine nQ ?_;refine eU ?_;refine aM (args:=#[.pointer S.wv]) rfl rfl rfl func88 rfl rfl cC (λb k fs h1 h2=>S.upush _ _ rfl rfl ⟨f47,by show prog.funcs[b.fn]? =_;rw[h1];exact func47⟩ h2) (S.number _ _ _ h) ?_;rintro i' r w' ⟨rfl,e1,e2⟩;obtain rfl:=e1.symm;obtain rfl:=e2.symm;walk_nrm;refine eU ?_;refine on ?_;obtain⟨s0,cT,h1⟩:=S.get _ _ _ h;have hk:=S.few;generalize S.num=k at*;have hmk:=cT.made k hk;have hki:(k:Int) <8:=ae;have hbz:=cT.bit (8193+k);by_cases hm:1024<=s0.made k
 ·have UC:(1024:Int)<=(s0.made k:Int):=ae;simp only[if_pos hm]at h1;clear cT h Z0;clear e1 e2;refine xe λτ=>?_;refine aH (t:=true) cC ?_;refine eG λτ=>?_;refine bn ?_;exact⟨rfl,.tuple #[.bool false,.int .i64 261],gU,false,261,rfl,h1,S.refl _⟩
 ·have UC:¬((1024:Int)<=(s0.made k:Int)):=ae;simp only[if_neg hm]at h1;obtain⟨s1,gQ,hnext⟩:=S.eff _ _ _ _ _ _ _ Z0 h1 (S.refl w);have gQ:JRep b c lo n s1 w:=gQ;have hm1:s0.made k=s1.made k:=by have:=gQ.made k hk;rw[hmk]at this;simp at this;omega
  rw[hm1]at hmk UC hm;obtain⟨m,Bf⟩:∃m,m=s1.made k:=⟨_,rfl⟩;rw[←Bf]at hmk UC hm;have vP:m<1024:=ae;have fE:IntKind.i64.wrap (8*(m:Int))=((8*m:Nat):Int):=by rw[dR];omega
  have hw2:IntKind.i64.wrap ((k:Int) +((8*m:Nat):Int))=((k+8*m:Nat):Int):=by rw[dR];omega
  have hw3:IntKind.i64.wrap ((m:Int) +1)=((m+1:Nat):Int):=by rw[dR];omega
  have acw:=gQ.lt.1;have hall:=gQ.all (k+8*m) ae;have hnone:s1.ds (k+8*m)=none:=by rw[Bf];exact(gQ.ok.made k hk).2 _ (aY _)
  simp only[hnone]at hall;obtain⟨u,hu,_⟩:=hall;have CY:=gQ.bb;have HR:=ai gQ;have HN:=ai hnext;have HM:=ai Bf;have Hs:=ai hs;have Hes:=ai hes;have Hu:=ai hu;have Hb:=ai CY;have H0:=ai Z0;clear cT gQ hnext h h1 Z0 Bf hm1 hs hes hnone hu CY;refine wpM_seq (wpM_seq (l3 hcs (λτ=>?_)));go_wp2;refine qK ?_;refine Bl ?_;try simp only[Exit.then]
  refine eG λτ=>?_;refine wpM_seq (gi jJ 10 60 [10] rfl ax (λt=>oG) ax rfl ?_);simp only[oH,oI];iterate 10
   refine ov ?_
  refine iH ?_;refine eU ?_;refine on ?_;refine eG λτ=>?_;rw[B0];generalize hW1:(w.setCell ⟨b,8193+k,none⟩ (.int .i64 ((m:Int) +1))).alloc (.cells (iR es.length) 187)=W1;have hs1:W1.heap.size=w.heap.size+1:=by subst hW1;simp[World.setCell]
  have ht1:W1.heap[w.heap.size]? =some (.cells (iR es.length) 187 (0,0)):=by subst hW1;simp only[←cG,cF];rw[if_pos gF]
  have ho1:∀x,x<w.heap.size->x≠b->W1.heap[x]? =w.heap[x]? :=λx hx hxb=>by subst hW1;simp only[←cG,cF];rw[if_neg (by simp[World.setCell];omega),ah hxb]
  have hb1:∃cb e,w.heap[b]? =some (.cells cb e (0,0))/\cb.size=8201/\W1.heap[b]? =some (.cells (cb.setIfInBounds (8193+k) (.int .i64 ((m:Int) +1))) e (0,0)):=by obtain⟨cb,e,h1,h2⟩:=Hb.out;refine⟨cb,e,h1,h2,?_⟩;subst hW1;simp only[←cG,cF];rw[if_neg (by simp[World.setCell];omega),aq h1]
  clear hW1;have GX:∀τ,(Builtin.copy_ #[122,122] 3 #[.slice (some ⟨w.heap.size,1,none⟩) 64 64,.slice (some ⟨s,o,none⟩) es.length cap]).run prog (W1.tp τ)=.ok (goInt es.length) ((W1.setCells w.heap.size 1 (es.flatMap dB)).tp τ):=λτ=>by
   have Vl:Nat.min es.length 64=es.length:=Nat.min_eq_left ub.2;have hl:=gq es;have hc:∀i,i<194->((W1.tp τ).cell? ⟨w.heap.size,i,none⟩).isSome=true:=λi hi=>(by rw[aF,af ht1,dI (by rw[Ar];exact hi)];rfl);have:=B7 (P:=prog) (W1.tp τ) 122 122 3 121 w.heap.size 1 64 64 3 ⟨s,o,none⟩ es.length cap (es.flatMap dB) underlying122 Lc (by rw[Vl,hl];omega)
    (λj v hv=>by rw[Au,aF];exact(bP (w:=w) (ho1 s Bj Xc)).trans (Hs.out j v hv)) (λj hj=>hc _ ae) (λj hj=>ay (w:=W1.tp τ) ht1 _ (bj _)) (GV es)
   rw[Vl]at this;rw[this,yb]
  obtain⟨U2,hs2,yM⟩:=GW ub.2 ht1;generalize W1.setCells w.heap.size 1 (es.flatMap dB)=W2 at*;have HC:=ai GX;clear GX;refine wpM_seq (l3 hcs (λτ=>?_));have GX:=HC.out τ;go_wp2;refine⟨W2,aN _ _,?_⟩;try simp only[Exit.then]
  clear HC;obtain⟨cb,eb,hb0,hb2,hb3⟩:=hb1;have hbt:b≠w.heap.size:=ae;have hb4:W2.heap[b]? =some (.cells (cb.setIfInBounds (8193+k) (.int .i64 ((m:Int) +1))) eb (0,0)):=by rw[yM b hbt];exact hb3
  have hu2:W2.cell? ⟨b,1+(k+8*m),none⟩=some u:=by have:=Hu.out;rw[af hb0]at this;rw[af hb4,eH ae];exact this
  have abP:W2.shape? w.heap.size=some (187,194):=by simp[World.shape?,U2,MX ⟨es,0⟩ ub.2]
  have hd8:((k:Int) +8*(m:Int)) <8192:=ae;refine nQ ?_;iterate 6
   refine eU ?_
  refine aM (args:=#[.pointer (some ⟨b,1+(k+8*m),none⟩),.pointer (some ⟨w.heap.size,0,none⟩)]) rfl rfl rfl func89 rfl rfl (by simp[Act.eval];try omega) (λb k fs h1 h2=>S.upush _ _ rfl rfl ⟨f47,by show prog.funcs[b.fn]? =_;rw[h1];exact func47⟩ h2) (KW S.hcs b (1+(k+8*m)) w.heap.size hu2 (ay hb4 _ (bj _)) abP) ?_;rintro i' r w' ⟨rfl,e1,e2⟩;obtain rfl:=e1.symm;have hb5:w'.heap[b]? =some (.cells ((cb.setIfInBounds (8193+k) (.int .i64 ((m:Int) +1))).setIfInBounds (1+(k+8*m)) (.pointer (some ⟨w.heap.size,0,none⟩))) eb (0,0)):=by rw[e2];exact aq hb4 _
  have Ag:∀x,x≠b->w'.heap[x]? =W2.heap[x]? :=λx hx=>by rw[e2];exact ah hx _
  have hs5:w'.heap.size=w.heap.size+1:=by rw[e2];simp[World.setCell,hs2,hs1]
  clear e2;walk_nrm;refine on ?_;have Bf:=HM.out;have hsame:∀x,x<w.heap.size->x≠b->w'.heap[x]? =w.heap[x]? :=λx h1 h2=>by rw[Ag x h2,yM x ae,ho1 x h1 h2]
  obtain⟨r1,r2,r3,r4⟩:=HR.out.make (w':=w') (k:=k) (t:=w.heap.size) (es:=es) hk ae Hes.out ub hlo rfl hs5 hsame ⟨_,_,hb5,by simp[hb2]⟩ (λo' h1 h2=>by
   rw[af hb5,af hb0,eH ae,eH ae]) (by
   rw[af hb5,eH ae,fD ae,←Bf];rfl) (by
   rw[af hb5,←Bf,fD bV]) (by rw[Ag _ ae];exact U2)
  obtain⟨h6,K6⟩:=HN.out w' r1 r2 ae (λx hx hne=>by
   by_cases e:x=b
   ·exact .inl e
   ·exact absurd (hsame x hx e) hne) λx hx=>(r3 x hx).imp id λe=>ae
  have h6:S.At i ((jI F (k+8*s1.made k)).bind λok=>aS (ok,0)) w':=h6;rw[←Bf]at h6 r4;clear Bf HM HN HR;refine nQ ?_;iterate 3
   refine eU ?_
  refine aM (args:=#[.pointer (some ⟨b,0,none⟩),.pointer S.wv,.int .i64 ((k+8*m:Nat):Int)]) rfl rfl rfl func86 rfl rfl cC (λb k fs h1 h2=>S.upush _ _ rfl rfl ⟨f47,by show prog.funcs[b.fn]? =_;rw[h1];exact func47⟩ h2) (C1 S hn F _ _ _ _ _ _ h6 r4) ?_;rintro i2 r w2 ⟨ok,rfl,h7,K7⟩;walk_nrm;refine eU ?_;refine eU ?_;refine on ?_;refine bn ?_;exact⟨rfl,.tuple #[.bool ok,.int .i64 0],gU,ok,0,rfl,h7,S.trans _ _ _ K6 K7⟩
end
inductive Wc(b:Nat)(wv:Option Addr)(c0:Nat):Act->Prop
 |mk (u3 u4 u5 u6 u7 u8 u9 sr mF mG mb lr kE u16 ku kF kG kH mf mg u23 u24 mh u26 kI u28 kJ kK:Value):Wc b wv c0 {tmps:=#[.pointer (some ⟨b,0,none⟩),.pointer wv,.int .i64 c0,u3,u4,u5,u6,u7,u8,u9,sr,mF,mG,mb,lr,kE,u16,ku,kF,kG,kH,mf,mg,u23,u24,mh,u26,kI,u28,kJ,kK],defers:=[]}
section
variable{n:Nat}{main:Bool}{Stop:ι->Frame->List Frame->World->Prop}{w:World}
def jY.Num{L:tR JS}(S:jY α L main cs Jm Stop)(aS:Int->Pr JS α)(w:World)(i':ι)(r:Value)(w':World):Prop:=∃v,r=.int .i64 v/\(0<=v/\v<=1152921504606846975)/\S.At i' (aS v) w'/\S.Keep w w'
def jY.aen{L:tR JS}(S:jY α L main cs Jm Stop)(aS:Int×Int->Pr JS α)(w:World)(i':ι)(r:Value)(w':World):Prop:=∃v e,r=.tuple #[.int .i64 v,.int .i64 e]/\S.At i' (aS (v,e)) w'/\S.Keep w w'
theorem Le{f:Nat}{aS:Int->Pr JS α}:(gh F (f+1) c0).bind aS=.line (.eff id λs=>if s.w c0<0 then(jI F (-(s.w c0) -1).toNat).bind λ_=>(gh F f c0).bind aS else aS (s.w c0)):=by simp only[gh,Pr.bind,kz,Pr.bind_assoc]
theorem oJ(S:jY α (bA F b c lo n) main cs Jm Stop)(hn:n<=64){f:Nat}{aS:Int->Pr JS α}(h:S.At i ((gh F f c0).bind aS) w)(hc0:c0<n):
  CallsM prog main cs Jm Stop S.U i 45 #[.pointer (some ⟨b,0,none⟩),.pointer S.wv,.int .i64 c0] w (S.Num aS w):=by
 have hcs:=S.hcs;refine aX func45 rfl ?_;simp only[f45,bJ];walk_nrm;refine eG λτ=>?_;refine bt (fZ (λm i' a' w'=>Wc b S.wv c0 a'/\S.At i' ((gh F m c0).bind aS) w'/\S.Keep w w') (n:=f) ⟨Wc.mk ..,h,S.refl w⟩ ?_);rintro m i1 a1 w1 ⟨hA,h1,K1⟩;cases m with
 |zero=>exact(S.on _ _ h1).elim
 |succ m=>
  rw[Le]at h1;cases hA;refine bt ?_;refine nQ ?_;refine eU ?_;refine aM (args:=#[.pointer S.wv]) rfl rfl rfl func42 rfl rfl cC (λb k fs h1 h2=>S.upush _ _ rfl rfl ⟨f45,by show prog.funcs[b.fn]? =_;rw[h1];exact func45⟩ h2) (S.step _ _ _ h1) ?_;rintro i2 r w2 ⟨rfl,h2,K2⟩;walk_nrm;refine on ?_;have Ko:=S.trans _ _ _ K1 K2;obtain⟨s2,cT,zh⟩:=S.get _ _ _ h2;have h3:S.At i2 (if s2.w c0<0 then(jI F (-(s2.w c0) -1).toNat).bind λ_=>(gh F m c0).bind aS else aS (s2.w c0)) w2:=zh;have GU:=(cT.word hc0).1;have hh:=cT.hdr;have ZZ:=cT.ok.word c0 (by rw[cT.len];exact hc0);have M4:s2.w c0<0->∃d' t' es',s2.w c0=aI d'/\gT b n w2 d' t' es':=λgw=>by
   rcases ZZ with⟨h1,_⟩|⟨d',h1,h2,h3⟩
   ·omega
   ·obtain⟨D,YK⟩:=kU.1 h3;obtain⟨t',hdt⟩:=cT.desc YK;exact⟨d',t',_,h2,hdt⟩
  have hlo: -100000<=s2.w c0/\s2.w c0<=1152921504606846975:=by
   rcases ZZ with h1|⟨d',h1,h2,_⟩
   ·omega
   ·unfold aI at h2;omega
  clear cT ZZ h2 zh h1;generalize hx:s2.w c0=x at*;refine wpM_seq (l3 hcs (λτ=>?_));go_wp2_with (first|(go_at_call 84;refine(Mh c c0 x (w2.tp τ) GU).mono ?_;rintro e w' ⟨rfl,rfl⟩))
  refine qK ?_;clear GU hh;by_cases gw:x<0
  ·rw[if_pos gw]at h3;obtain⟨d',t',es',lL,hdt⟩:=M4 gw;have r9:(-x-1).toNat=d':=(by unfold aI at lL;omega);have Ct: -x-1=(d':Int):=(by unfold aI at lL;omega);rw[r9]at h3;have Hd2:=ai Ct;clear lL r9 Ct;refine wpM_seq (l3 hcs (λτ=>?_));go_wp2_with (first|(go_at_call 85;refine(q9 x _ gw hlo.1).mono ?_;rintro e w' ⟨rfl,rfl⟩))
   refine qK ?_;refine xe λτ=>?_;refine Bl ?_;refine gO ?_;refine rg ?_;iterate 3
    refine eU ?_
   refine aM (args:=#[.pointer (some ⟨b,0,none⟩),.pointer S.wv,.int .i64 d']) rfl rfl rfl func86 rfl rfl (by simp[Act.eval,Hd2.out]) (λb k fs h1 h2=>S.upush _ _ rfl rfl ⟨f45,by show prog.funcs[b.fn]? =_;rw[h1];exact func45⟩ h2) (C1 S hn F i2 w2 d' t' es' _ h3 hdt) ?_;rintro i6 r w6 ⟨ok,rfl,h7,K6⟩;walk_nrm;refine ji ?_;try simp only[Exit.then,Exit.inBlock]
   exact⟨m,ae,Wc.mk ..,h7,S.trans _ _ _ Ko K6⟩
  ·rw[if_neg gw]at h3;have h0:0<=x:=ae;refine wpM_seq (l3 hcs (λτ=>?_));go_wp2_with (first|(go_at_call 85;refine(yZ x _ h0 hlo.2).mono ?_;rintro e w' ⟨rfl,rfl⟩))
   refine qK ?_;refine xe λτ=>?_;refine aH (t:=true) cC ?_;refine eG λτ=>?_;refine bn ?_;exact⟨rfl,.int .i64 x,gU,x,rfl,⟨h0,hlo.2⟩,h3,Ko⟩
end
theorem O7{main:Bool}{J:dA ι}{Stop:ι->Frame->List Frame->World->Prop}{Q:ι->Exit->Act->World->Prop}{w:World}(st:Stat P S){ops:Array Oper}{rest:List Nat}{f:FuncId}{c:Code}{xs:Array Operand}{args:Array Value}(ho:ops[j]? =some o)(hw:Region.wanted o (yielded ops a.tmps)=true)
  (hop:o.op=.call {callee:=.value (.func f),args:=xs,argTypes:=ats})(hf:P.funcs[f]? =some Q7)(hname:(Q7.name== "runtime.NumGoroutine")=false)(hb:Q7.body=some c)(hxs:xs.map a.eval=args)(lR:wj P S f args)(hc:∀τ,Calls P f args (w.tp τ) λe w'=>e=.returned v/\w.tp τ=w')
  (h:qJ P main cs J Stop U fn ops rest Q i (a.put o.dst v) w):qJ P main cs J Stop U fn ops (j::rest) Q i a w:=by
 intro b k fs h1 h2 h3 hk;refine jT (by rw[h2];simp) ho hw hop hf hname hb hxs ?_;refine callsM_lone (U:=λ_=>True) (Post:=λi' v' w'=>i'=i/\v'=v/\w'=w) st lR (λτ=>(hc τ).mono λe w' ⟨h4,h5⟩=>⟨v,h4,w,h5▸aN _ _,rfl,rfl,rfl⟩) _ fs trivial ?_;rintro i' v' w' ⟨rfl,rfl,rfl⟩;rw[fy,ho];exact h b k fs h1 h2 h3 hk
section
variable{n:Nat}{main:Bool}{Stop:ι->Frame->List Frame->World->Prop}{w:World}
theorem read_any'(S:jY α (bA F b c lo n) main cs Jm Stop)(hn:n<=64){c0:Int}{aS:Int×Int->Pr JS α}(h:S.At i ((pT F n c0).bind aS) w):
  CallsM prog main cs Jm Stop S.U i 22 #[.pointer (some ⟨b,0,none⟩),.pointer S.wv,.int .i64 c0] w (S.aen aS w):=by
 have hcs:=S.hcs;obtain⟨s,cT⟩:=S.rep _ _ _ h;have hh:=JRep.hdr cT;clear cT;unfold pT at h;refine aX func22 rfl ?_;simp only[f22,bJ];walk_nrm;refine eG λτ=>?_;by_cases hc0:0<=c0/\c0<n
 ·rw[if_pos hc0,Pr.bind_assoc]at h;obtain⟨k0,hk0⟩:∃k0:Nat,c0=k0:=⟨c0.toNat,ae⟩;subst hk0;have hlt:k0<n:=ae;rw[show((k0:Int)).toNat=k0 by omega]at h;have H:=ai h;clear h;refine wpM_seq (wpM_seq (l3 hcs (λτ=>?_)));go_wp2_with (first|(go_at_call 41;refine(np b c n k0 (w.tp τ) hh hc0.1 hc0.2).mono ?_;rintro e w' ⟨rfl,rfl⟩))
  refine qK ?_;refine Bl ?_;try simp only[Exit.then]
  refine nQ ?_;iterate 3
   refine eU ?_
  refine aM (args:=#[.pointer (some ⟨b,0,none⟩),.pointer S.wv,.int .i64 k0]) rfl rfl rfl func45 rfl rfl cC (λb k fs h1 h2=>S.upush _ _ rfl rfl ⟨f22,by show prog.funcs[b.fn]? =_;rw[h1];exact func22⟩ h2) (oJ S hn H.out hlt) ?_;rintro i2 r w2 ⟨v,rfl,hv,h2,K2⟩;walk_nrm;refine O7 jJ (args:=#[.int .i64 v]) rfl rfl rfl func46 rfl rfl cC ⟨rfl,λt h=>by simp[S3,fC]at h⟩ (λτ=>hvalue_word v _ hv.1 hv.2) ?_;walk_nrm;refine eU ?_;refine eU ?_;refine on ?_;refine bn ?_;exact⟨rfl,.tuple #[.int .i64 (aU v),.int .i64 0],by simp[results,go_sem,aU],aU v,0,rfl,h2,K2⟩
 ·rw[if_neg hc0]at h;have H:=ai h;have Hc:=ai hc0;clear h hc0;refine wpM_seq (wpM_seq (l3 hcs (λτ=>?_)));go_wp2_with (first|(go_at_call 41;refine(yF b c n c0 (w.tp τ) hh Hc.out).mono ?_;rintro e w' ⟨rfl,rfl⟩))
  refine qK ?_;refine aH (t:=true) cC ?_;refine nQ ?_;refine eU ?_;refine aM (args:=#[.pointer S.wv]) rfl rfl rfl func42 rfl rfl cC (λb k fs h1 h2=>S.upush _ _ rfl rfl ⟨f22,by show prog.funcs[b.fn]? =_;rw[h1];exact func22⟩ h2) (S.step _ _ _ H.out) ?_;rintro i2 r w2 ⟨rfl,h2,K2⟩;walk_nrm;refine on ?_;refine eG λτ=>?_;refine bn ?_;exact⟨rfl,.tuple #[.int .i64 0,.int .i64 262],gU,0,262,rfl,h2,K2⟩
end
theorem O8{g:FuncId}{fn:Func}{x:Operand}{cap:Array Value}(hop:o.op=.call {callee:=.value x,args:=#[],argTypes:=ats})(hx:a.eval x=.func (.func g) #[] cap)(hf:P.funcs[g]? =some fn)(hname:(fn.name== "runtime.NumGoroutine")=false){c:Code}(hb:fn.body=some c)(w:World):
  (execOp a.eval o).runT P w #[]=(.ok (.enter g cap) w,#[]):=by
 have h1:¬fn.name= "runtime.NumGoroutine" :=by simpa using hname
 generalize a.eval=ρ at hx;simp[execOp,hop,resolve,hx,Deferred.ofValue,invoke,callFunc,hf,h1,hb,go_sem]
section
variable{n:Nat}{main:Bool}{Stop:ι->Frame->List Frame->World->Prop}{w:World}
def jY.Did{L:tR JS}(S:jY α L main cs Jm Stop)(pr:β->Bool×Int)(M:β->World->Prop)(I:World->Prop)(aS:β->Pr JS α)(i':ι)(r:Value)(w':World):Prop:=∃x,r=.tuple #[.bool (pr x).1,.int .i64 (pr x).2]/\S.At i' (aS x) w'/\I w'/\M x w'
def CloSpec{L:tR JS}(S:jY α L main cs Jm Stop)(g:FuncId)(cap:Array Value)(q:oF β)(pr:β->Bool×Int)(M:β->World->Prop)(I:World->Prop):Prop:=∀(i:ι) (w:World) (aS:β->Pr JS α),I w->S.At i (q.bind aS) w->CallsM prog main cs Jm Stop S.U i g cap w (S.Did pr M I aS)
inductive Wd(g:FuncId)(cap:Array Value):Act->Prop
 |mk (u1 u2 u3 u4 u5 u6 u7 u8 u9 sr mF mG mb lr kE u16 ku:Value):Wd g cap {tmps:=#[.func (.func g) #[] cap,u1,u2,u3,u4,u5,u6,u7,u8,u9,sr,mF,mG,mb,lr,kE,u16,ku],defers:=[]}
theorem GY{pr:β->Bool×Int}{q:oF β}{aS:β->Pr JS α}:(againG pr q (m+1)).bind aS=q.bind λx=>if(pr x).1=true\/(pr x).2≠0 then aS x else(againG pr q m).bind aS:=by simp only[againG,Pr.bind_assoc,kz,Pr.bind]
theorem ud{L:tR JS}(S:jY α L main cs Jm Stop){g:FuncId}{fn:Func}{cap:Array Value}{q:oF β}{pr:β->Bool×Int}{M:β->World->Prop}(hf:prog.funcs[g]? =some fn)(hname:(fn.name== "runtime.NumGoroutine")=false)(hb:fn.body=some cd)(hC:CloSpec S g cap q pr M I){f:Nat}{aS:β->Pr JS α}(hI:I w)(h:S.At i ((againG pr q f).bind aS) w):
  CallsM prog main cs Jm Stop S.U i 43 #[.func (.func g) #[] cap] w (S.Did pr M I aS):=by
 have hcs:=S.hcs;refine aX func43 rfl ?_;simp only[f43,bJ];walk_nrm;refine eG λτ=>?_;refine bt (fZ (λm i' a' w'=>Wd g cap a'/\S.At i' ((againG pr q m).bind aS) w'/\I w') (n:=f) ⟨Wd.mk ..,h,hI⟩ ?_);rintro m i1 a1 w1 ⟨hA,h1,uP⟩;cases m with
 |zero=>exact(S.on _ _ h1).elim
 |succ m=>
  rw[GY]at h1;cases hA;refine bt ?_;refine nQ ?_;refine eU ?_;refine opsM_call (f:=g) (args:=cap) rfl rfl (O8 rfl rfl hf hname hb) (λb k fs h1 h2=>S.upush _ _ rfl rfl ⟨f43,by show prog.funcs[b.fn]? =_;rw[h1];exact func43⟩ h2) (hC _ _ _ uP h1) ?_;rintro i2 r w2 ⟨x,rfl,h2,xP,hM2⟩;have Hx:=ai hM2;clear hM2;obtain⟨ok,hok⟩:∃ok,(pr x).1=ok:=⟨_,rfl⟩;obtain⟨er,her⟩:∃er,(pr x).2=er:=⟨_,rfl⟩;have h2:S.At i2 (if(pr x).1=true\/(pr x).2≠0 then aS x else(againG pr q m).bind aS) w2:=h2;rw[hok,her]at h2;rw[hok,her];have Hr:=ai (show Value.tuple #[.bool ok,.int .i64 er]=Value.tuple #[.bool (pr x).1,.int .i64 (pr x).2]by rw[hok,her]);clear hok her;walk_nrm;iterate 5
   refine eU ?_
  refine on ?_;cases ok with
  |true=>have h3:S.At i2 (aS x) w2:=qT;clear h2;refine eG λτ=>?_;refine aH (t:=true) cC ?_;refine eG λτ=>?_;refine bn ?_;exact⟨rfl,.tuple #[.bool true,.int .i64 er],gU,x,Hr.out,h3,xP,Hx.out⟩
  |false=>
   by_cases he:er=0
   ·subst he;have h3:S.At i2 ((againG pr q m).bind aS) w2:=qT;clear h2;refine eG λτ=>?_;refine Bl ?_;try simp only[Exit.then,Exit.inBlock]
    exact⟨m,ae,Wd.mk ..,h3,xP⟩
   ·have h3:S.At i2 (aS x) w2:=(by simpa[he]using h2);have hne:(er !=0)=true:=(by simpa using he);clear h2;refine eG λτ=>?_;refine aH (t:=true) (by simp[Act.eval,he]) ?_;refine eG λτ=>?_;refine bn ?_;exact⟨rfl,.tuple #[.bool false,.int .i64 er],gU,x,Hr.out,h3,xP,Hx.out⟩
end
end
section
open Go Go.Conc Go.ConcN Go.RowKit
attribute [local go_sem ↓] Go.wp_at_zero Go.wp_at_succ
theorem XN:(prog.info? 121).map (λi=>(i.zero,i.size,i.bytes))=some (some (.agg #[.int .i64 0,.int .i64 0,.int .i64 0]),3,24):=ax
theorem M6:(prog.info? 3).map (λi=>(i.zero,i.size,i.bytes))=some (some (.int .i64 0),1,8):=ax
inductive O9(p q r n k:Nat)(lv:Value):Act->Prop
 |mk (u3 u4 u6 u7 u8 u9 sr mF lr kE u16 ku kF kG kH mf mg u23 u24 mh u26 kI u28 kJ kK lu u32 u33 lx ly lz lA mi mj:Value):O9 p q r n k lv {tmps:=#[.pointer (some ⟨p,0,none⟩),.pointer (some ⟨q,0,none⟩),.pointer (some ⟨r,0,none⟩),u3,u4,lv,u6,u7,u8,u9,sr,mF,.int .i64 n,.int .i64 k,lr,kE,u16,ku,kF,kG,kH,mf,mg,u23,u24,mh,u26,kI,u28,kJ,kK,lu,u32,u33,lx,ly,lz,lA,mi,mj],defers:=[]}
inductive S9(p q r n k:Nat)(lv:Value)(x:Int):Act->Prop
 |mk (u3 u4 u8 u9 sr mF lr kE u16 ku kF kG kH mf mg u23 u24 mh u26 kI u28 kJ kK lu u32 u33 lx ly lz lA mi mj:Value):S9 p q r n k lv x {tmps:=#[.pointer (some ⟨p,0,none⟩),.pointer (some ⟨q,0,none⟩),.pointer (some ⟨r,0,none⟩),u3,u4,lv,.int .i64 k,.int .i64 x,u8,u9,sr,mF,.int .i64 n,.int .i64 k,lr,kE,u16,ku,kF,kG,kH,mf,mg,u23,u24,mh,u26,kI,u28,kJ,kK,lu,u32,u33,lx,ly,lz,lA,mi,mj],defers:=[]}
noncomputable def Lf:Code:=(f48.body).getD .skip
noncomputable def Lg:Code:=Lf.r.r.r.l.r
noncomputable def Lh:Code:=Lg.l.l
noncomputable def Z5:Code:=Lh.r.r.l.l
noncomputable def lkR7:Code:=Z5.r.r
theorem lk_region{p q r n:Nat}{ov:Value}{x:Int}{w:World}(B:Nat)(hA:S9 p q r n k lv x a)(hp:w.cell? ⟨p,0,none⟩=some ov)(hof:w.frozen? ⟨p,0,none⟩=false)(hB:B<=w.heap.size)(hown:w.ownsRow B 121 3 lv k les)(Ta:w.ownsRow B 3 1 ov k lvs)
  (hap:∀g,lv.ownBlock=some g->ov.ownBlock≠some g)(hpB:p<B)(hk:k<64)(g0:0<=x)(g1:x<=1152921504606846975):
  lkR7.wp prog (qO λa' w'=>∃(gg cap C4 iV:Nat) (w2:World),O9 p q r n k (.slice (some ⟨gg,0,none⟩) (k+1) cap) a'/\Alike (w2.setCell ⟨p,0,none⟩ (.slice (some ⟨C4,0,none⟩) (k+1) iV)) w'/\w2.ownsRow B 121 3 (.slice (some ⟨gg,0,none⟩) (k+1) cap) (k+1) (les++[.int .i64 k,.int .i64 x,.int .i64 (x / 1099511627776)])/\
   w2.ownsRow B 3 1 (.slice (some ⟨C4,0,none⟩) (k+1) iV) (k+1) (lvs++[.int .i64 (x / 1099511627776)])/\gg≠C4/\w.heap.size<=w2.heap.size/\(∀b,b<w.heap.size->lv.ownBlock≠some b->ov.ownBlock≠some b->w2.heap[b]? =w.heap[b]?)/\(lv.ownBlock=some gg\/w.heap.size<=gg)/\(ov.ownBlock=some C4\/w.heap.size<=C4)) a w:=by
 cases hA;have acx:ov.ownBlock=none\/ov.ownBlock≠lv.ownBlock:=by
  by_cases e:lv.ownBlock=none
  ·cases yu:ov.ownBlock with
   |none=>exact .inl rfl
   |some z=>exact .inr (by rw[e];exact λh=>bY)
  ·obtain⟨z,hz⟩:=kU.1 e;exact .inr (by rw[hz];exact hap z hz)
 obtain⟨ie,Ea,Kj,Kk,Kl⟩:=info_parts XN;obtain⟨ii,MJ,MK,ML,MM⟩:=info_parts M6;have hpo:some p≠ov.ownBlock:=λe=>by have:=(Ta.lt p e.symm).1;omega
 have hpu:some p≠lv.ownBlock:=λe=>by have:=(hown.lt p e.symm).1;omega
 have hpl:p<w.heap.size:=ae;have EB:=ai hown;have Tb:=ai Ta;have OB:=ai hap;have aeo:=ai acx;clear hown Ta hap acx;simp only[lkR7,Z5,Lh,Lg,Lf,f48,Code.l,Code.r,bJ];refine aL.start (λw'=>w'.cell? ⟨p,0,none⟩=some ov) [14] ax ?_ (λhHeld=>?_)
 ·exact MS
 refine aL.tv 0 hHeld ?_;refine aL.tv 1 hHeld ?_;refine aL.tv 2 hHeld ?_;refine aL.tv 3 hHeld ?_;refine aL.tt 8 hHeld ?_;refine aL.tv 9 hHeld ?_;refine aL.to 4 (λK hK=>?_)
 (go_simp;refine(hvalue_word _ _ g0 g1).mono ?_;rintro e w' ⟨rfl,rfl⟩;dsimp only)
 refine hK.out _ _ (λ_=>?_) (λhHeld=>?_)
 ·exact MS
 replace hHeld:=hHeld az;clear hK K;try refine pt ?_
 refine aL.tv 5 hHeld ?_;refine aL.to 6 (λK hK=>?_);go_simp;refine hK.out _ _ (λ_=>?_) (λhHeld=>?_)
 ·exact MS
 replace hHeld:=hHeld az;clear hK K;try refine pt ?_
 refine aL.to 7 (λK hK=>?_)
 (refine step_append_lies _ bF (.tmp 20) (.tmp 26) _ bF B 121 ie _ 3 24 underlying122 Ea Kj Kk Kl rfl ae lv k les bF ((EB.out.alloc _).drew) ⟨w.heap.size,0,none⟩ 1 1 [.int .i64 k,.int .i64 x,.int .i64 (x / 1099511627776)] bF bF (pR (cs:=#[.int .i64 k,.int .i64 x,.int .i64 (x / 1099511627776)]) (t:=121) (fr:=(0,0)) (heap_alloc_new w _)) qP ae iw ae bV (w.heap.size+1) au ?_;intro gg cap w1 hown1 hgrow hat uZ;have hs1:=hgrow.size;simp only[pS,bI]at hs1)
 refine hK.out _ _ (λ_=>?_) (λhHeld=>?_)
 ·exact MS
 replace hHeld:=hHeld az;clear hK K;try refine pt ?_
 refine aL.to 10 (λK hK=>?_)
 (go_simp;refine(hvalue_word _ _ g0 g1).mono ?_;rintro e w' ⟨rfl,rfl⟩;dsimp only)
 refine hK.out _ _ (λ_=>?_) (λhHeld=>?_)
 ·exact MS
 replace hHeld:=hHeld az;clear hK K;try refine pt ?_
 refine aL.to 11 (λK hK=>?_);go_simp;refine hK.out _ _ (λ_=>?_) (λhHeld=>?_)
 ·exact MS
 replace hHeld:=hHeld az;clear hK K;try refine pt ?_
 refine aL.to 12 (λK hK=>?_)
 (refine step_append_lies _ bF (.tmp 28) (.tmp 31) _ bF B 3 ii _ 1 8 underlying22 MJ MK ML MM rfl ae ov k lvs bF ((((Tb.out.alloc _).drew).kept hgrow aeo.out).alloc _) ⟨w1.heap.size,0,none⟩ 1 1 [.int .i64 (x / 1099511627776)] bF bF (pR (cs:=#[.int .i64 (x / 1099511627776)]) (t:=3) (fr:=(0,0)) (heap_alloc_new w1 _)) qP ae iw ae bV (w1.heap.size+1) au ?_;intro C4 iV w2 hown2 hgrow2 We Jy;have hs2:=hgrow2.size;simp only[pS,bI]at hs2;have afT:w2.frozen? ⟨p,0,none⟩=false:=(by rw[hgrow2.frozen_far _ bV hpo,World.frozen?_alloc_old _ _ _ (by show p≠_;omega),hgrow.frozen_far _ bV hpu,World.frozen?_drew,World.frozen?_alloc_old _ _ _ (by show p≠_;omega)];exact hof))
 refine hK.out _ _ (λ_=>?_) (λhHeld=>?_)
 ·exact MS
 replace hHeld:=hHeld az;clear hK K;try refine pt ?_
 refine aL.tv 13 hHeld ?_;refine aL.to 14 (λK hK=>?_);go_simp;refine hK.out _ _ (λhF=>absurd hF az) (λ_=>?_);clear hK K;try refine pt ?_
 refine aL.done ax ?_ _;have aep:(Value.slice (some ⟨gg,0,none⟩) (k+1) cap).ownBlock≠ov.ownBlock:=by
  show some gg≠ov.ownBlock;rcases hat with e|e
  ·exact λh=>OB.out gg e h.symm
  ·intro h;have:=(Tb.out.lt gg h.symm).2;omega
 have aeq:gg≠C4:=by
  rcases We with e|e
  ·intro h;subst h;rcases hat with e'|e'
   ·exact OB.out gg e' e
   ·have:=(Tb.out.lt gg e).2;omega
  ·omega
 refine⟨gg,cap,C4,iV,w2,O9.mk ..,⟨rfl,rfl,rfl⟩,(hown1.alloc _).kept hgrow2 (.inr aep),hown2,aeq,ae,λb hb h1 h2=>?_,hat.imp id λe=>ae,We.imp id λe=>ae⟩;rw[hgrow2.block b bV (λe=>h2 e.symm),eh _ _ _ ae,hgrow.block b bV (λe=>h1 e.symm)];exact eh _ _ _ hb
end
section
open Go Go.Conc Go.ConcN Go.RowKit
attribute [local go_sem] aF aG aT aD aO aW aA aB dE cB dF a8
def jZ(hs:List Int):List cX:=hs.zipIdx.map λp=>⟨p.2,p.1,aU p.1⟩
theorem GZ(hs:List Int)(h:Int):jZ (hs++[h])=jZ hs++[⟨hs.length,h,aU h⟩]:=by unfold jZ;rw[List.zipIdx_append,List.map_append];simp
theorem ue(hs:List Int):(jZ hs).length=hs.length:=by simp[jZ]
theorem ED(hs:List Int)(h:Int):(jZ (hs++[h])).flatMap dB=(jZ hs).flatMap dB++[.int .i64 hs.length,.int .i64 h,.int .i64 (aU h)]:=by rw[GZ,List.flatMap_append];rfl
theorem Pa{n:Nat}(hn:hs.length=n)(hb:∀h∈hs,0<=h/\h<=1152921504606846975):∀e∈jZ hs,e.Ok n:=by intro e he;obtain⟨⟨h,i⟩,hp,rfl⟩:=og.1 he;obtain⟨h1,h2⟩:=List.mk_mem_zipIdx_iff_getElem?.1 hp |> eL.1;have hm:=hb h (by rw[←h2];exact pP _);refine⟨by show i<n;omega,hm.1,hm.2,?_,?_⟩ <;>simp only[aU] <;>omega
section
variable{n:Nat}{main:Bool}{Stop:ι->Frame->List Frame->World->Prop}
structure C6(S:jY α (bA F b c lo n) main cs Jm Stop)(w0:World)(p q r:Nat)(w:World):Prop where
 at0:∃i0 p0,S.At i0 p0 w0
 lo:lo<=w0.heap.size
 keep:S.Keep w0 w
 ne:p≠q/\p≠r
 ge:w0.heap.size<=p/\w0.heap.size<=q/\w0.heap.size<=r
 hq:∃e,w.heap[q]? =some (.cells #[.pointer (some ⟨b,0,none⟩)] e (0,0))
 hr:∃e,w.heap[r]? =some (.cells #[.pointer S.wv] e (0,0))
 hp:∃ov e,w.heap[p]? =some (.cells #[ov] e (0,0))
 nf:¬bL b c w p/\¬bL b c w q/\¬bL b c w r
def acy(B p n:Nat)(x:(Bool×Int)×List Int)(w:World):Prop:=∃ov e,w.heap[p]? =some (.cells #[ov] e (0,0))/\w.ownsRow B 3 1 ov n (x.2.map (Value.int .i64))/\x.2.length=n/\∀g,ov.ownBlock=some g->¬bL b c w g
structure Pb(S:jY α (bA F b c lo n) main cs Jm Stop)(w0:World)(B p q r:Nat)(hs:List Int)(lv:Value)(w:World):Prop where
 box:C6 S w0 p q r w
 hB:w0.heap.size<=B/\B<=w.heap.size/\p<B/\q<B/\r<B
 own:w.ownsRow B 121 3 lv hs.length ((jZ hs).flatMap dB)
 out:∃ov e,w.heap[p]? =some (.cells #[ov] e (0,0))/\w.ownsRow B 3 1 ov hs.length ((hs.map aU).map (Value.int .i64))/\(∀g,lv.ownBlock=some g->ov.ownBlock≠some g)/\∀g,ov.ownBlock=some g->¬bL b c w g
 nfl:∀g,lv.ownBlock=some g->¬bL b c w g
 bd:∀h∈hs,0<=h/\h<=1152921504606846975
variable{S:jY α (bA F b c lo n) main cs Jm Stop}{w:World}{p q r:Nat}
theorem row_keep{w:World}(h:w.ownsRow B e sz v m xs)(hk:∀g,v.ownBlock=some g->w'.heap[g]? =w.heap[g]?):w'.ownsRow B e sz v m xs:=by obtain⟨h1,h2⟩:=h;refine⟨h1,h2.imp id ?_⟩;rintro⟨g,cap,cur,rfl,h3,h4,h5⟩;exact⟨g,cap,cur,rfl,h3,by rw[hk g rfl];exact h4,h5⟩
theorem cP{w:World}{g:Nat}(h:w.ownsRow B e sz v m xs)(hg:v.ownBlock=some g):∃cur,w.heap[g]? =some (.cells cur e (0,0)):=by
 rcases h.2 with⟨rfl,_⟩|⟨g',cap,cur,rfl,_,h4,_⟩
 ·cases hg
 ·obtain rfl:g'=g:=by simpa[Value.ownBlock]using hg
  exact⟨cur,h4⟩
theorem C6.step(X:C6 S w0 p q r w)(K:S.Keep w w'):C6 S w0 p q r w'/\w'.heap[p]? =w.heap[p]? :=by obtain⟨i0,p0,h0⟩:=X.at0;obtain⟨eq,hq⟩:=X.hq;obtain⟨er,hr⟩:=X.hr;obtain⟨ov,ep,hp⟩:=X.hp;obtain⟨a1,a2⟩:=S.same _ _ _ _ K hp aJ X.nf.1 (S.new _ _ _ _ h0 X.ge.1);obtain⟨b1,b2⟩:=S.same _ _ _ _ K hq aJ X.nf.2.1 (S.new _ _ _ _ h0 X.ge.2.1);obtain⟨c1,c2⟩:=S.same _ _ _ _ K hr aJ X.nf.2.2 (S.new _ _ _ _ h0 X.ge.2.2);exact⟨⟨⟨i0,p0,h0⟩,X.lo,S.trans _ _ _ X.keep K,X.ne,X.ge,⟨eq,b1⟩,⟨er,c1⟩,⟨ov,ep,a1⟩,a2,b2,c2⟩,by rw[a1,hp]⟩
theorem Pb.step(X:Pb S w0 B p q r hs lv w)(K:S.Keep w w'):Pb S w0 B p q r hs lv w':=by
 obtain⟨hb,hpp⟩:=X.box.step K;obtain⟨i0,p0,h0⟩:=X.box.at0;obtain⟨ov,e,hp,yu,hap,mE⟩:=X.out;have key:∀{e:TypeId} {sz:Nat} {v:Value} {xs:List Value},w.ownsRow B e sz v hs.length xs->(∀g,v.ownBlock=some g->¬bL b c w g)->∀g,v.ownBlock=some g->w'.heap[g]? =w.heap[g]?/\¬bL b c w' g:=λh hn g hg=>by obtain⟨cur,hc⟩:=cP h hg;have:=(h.lt g hg).1;obtain⟨a1,a2⟩:=S.same _ _ _ _ K hc aJ (hn g hg) (S.new _ _ _ _ h0 (by have:=X.hB.1;omega));exact⟨by rw[a1,hc],a2⟩
 exact⟨hb,⟨X.hB.1,by have:=X.hB.2.1;have:=S.size _ _ K;omega,X.hB.2.2⟩,row_keep X.own λg hg=>(key X.own X.nfl g hg).1,⟨ov,e,by rw[hpp];exact hp,row_keep yu λg hg=>(key yu mE g hg).1,hap,λg hg=>(key yu mE g hg).2⟩,λg hg=>(key X.own X.nfl g hg).2,X.bd⟩
theorem Pc{K:List Int->Pr JS α}:((eZ F []).bind λhs'=>K (hs++hs'))=K hs:=by simp[eZ,Pr.bind]
theorem Li{K:List Int->Pr JS α}{l:List Nat}:((eZ F (k::l)).bind λhs'=>K (hs++hs'))=(gh F F k).bind λh=>(eZ F l).bind λhs'=>K ((hs++[h]) ++hs'):=by simp only[eZ,Pr.bind_assoc,Pr.bind,uH,jc,kR]
def M7(F k:Nat)(aS:(Bool×Int)×List Int->Pr JS α)(hs:List Int):Pr JS α:=(doesP F k (jZ hs)).bind λr=>aS (r,hs.map aU)
theorem Lj{n:Nat}{aS:(Bool×Int)×List Int->Pr JS α}:(iG F k n).bind aS=(eZ F (List.range' 0 n)).bind λhs'=>M7 F k aS ([] ++hs'):=by simp only[iG,M7,Pr.bind_assoc,Pr.bind,kR,List.range_eq_range',jZ]
structure Z6(S:jY α (bA F b c lo n) main cs Jm Stop)(aS:(Bool×Int)×List Int->Pr JS α)(w0:World)(B p q r:Nat)(m:Nat)(i':ι)(a':Act)(w':World):Prop where
 ex:∃hs lv,m=n-hs.length/\hs.length<=n/\O9 p q r n hs.length lv a'/\S.At i' ((eZ F (List.range' hs.length (n-hs.length))).bind λhs'=>M7 F S.num aS (hs++hs')) w'/\Pb S w0 B p q r hs lv w'
theorem Lk(S:jY α (bA F b c lo n) main cs Jm Stop)(hn:1<=n/\n<=64)(w0:World)(p q r:Nat):
  CloSpec S 48 #[.pointer (some ⟨p,0,none⟩),.pointer (some ⟨q,0,none⟩),.pointer (some ⟨r,0,none⟩)] (iG F S.num n) Prod.fst (acy (b:=b) (c:=c) w0.heap.size p n) (C6 S w0 p q r):=by
 intro i w aS X h;rw[Lj]at h;have hcs:=S.hcs;obtain⟨i0,p0,h0⟩:=X.at0;obtain⟨eq,hq⟩:=X.hq;obtain⟨er,hr⟩:=X.hr;obtain⟨ov,ep,hp⟩:=X.hp;have hpl:=(aQ.1 hp).1;have Kp:=(aQ.1 hq).1;have yw:=(aQ.1 hr).1;have cp:=cO hp 0;have zp:=ay hp 0 (aY _);refine aX func48 rfl ?_;simp only[f48,bJ];walk_nrm;iterate 3
  refine eG λτ=>?_
 have Wi:=aq (o:=0) hp (.slice none 0 0);obtain⟨h1,K1,uk⟩:=S.fresh _ _ _ _ _ _ (w.setCell ⟨p,0,none⟩ (.slice none 0 0)) h0 h X.keep gF (λx hx hne=>by
  by_cases e:x=p
  ·subst e;exact⟨X.ge.1,X.nf.1⟩
  ·exact absurd (ah e _) hne)
 have ho1:∀x,x≠p->(w.setCell ⟨p,0,none⟩ (.slice none 0 0)).heap[x]? =w.heap[x]? :=λx hx=>ah hx _;have hs1:(w.setCell ⟨p,0,none⟩ (.slice none 0 0)).heap.size=w.heap.size:=gF;generalize w.setCell ⟨p,0,none⟩ (.slice none 0 0)=w1 at*;have hq1:w1.heap[q]? =some (.cells #[.pointer (some ⟨b,0,none⟩)] eq (0,0)):=by rw[ho1 q (bp X.ne.1)];exact hq
 have hr1:w1.heap[r]? =some (.cells #[.pointer S.wv] er (0,0)):=by rw[ho1 r (bp X.ne.2)];exact hr
 have X1:Pb S w0 w.heap.size p q r [] (.slice none 0 0) w1:=by
  have:=X.ge;have nl:∀g,(Value.slice none 0 0).ownBlock=some g->False:=λg hg=>by cases hg
  refine⟨⟨⟨i0,p0,h0⟩,X.lo,K1,X.ne,X.ge,⟨_,hq1⟩,⟨_,hr1⟩,⟨_,_,Wi⟩,λhf=>X.nf.1 ((uk _).1 hf),λhf=>X.nf.2.1 ((uk _).1 hf),λhf=>X.nf.2.2 ((uk _).1 hf)⟩,⟨ae,ae,hpl,Kp,yw⟩,oK _ _ _ _,⟨.slice none 0 0,ep,by simpa using Wi,oK _ _ _ _,λg hg=>(nl g hg).elim,λg hg=>(nl g hg).elim⟩,λg hg=>(nl g hg).elim,λx hx=>(by cases hx)⟩
 obtain⟨s1,gQ⟩:=S.rep _ _ _ h1;have hdr:=JRep.hdr gQ;have afU:n≠0:=ae;have cq:=cO hq1 0;have HX:=ai X1;have H1:=ai h1;clear X1 h1 gQ hp hq hr Wi hq1 hr1 cp zp h uk K1;refine xe λτ=>?_;clear cq hdr;refine bt (fZ (Z6 S aS w0 w.heap.size p q r) (n:=n) ⟨[],_,rfl,bj _,O9.mk ..,H1.out,HX.out⟩ ?_);rintro m i2 a2 w2 ⟨hs,lv,rfl,hle,hA,h2,X2⟩;have E9:=X2.box;obtain⟨eq2,NX⟩:=E9.hq;obtain⟨U4,hr2⟩:=E9.hr;have cq2:=cO NX 0;have cr2:=cO hr2 0;clear E9 NX hr2;by_cases hlt:hs.length<n
 ·have hwr:IntKind.i64.wrap ((hs.length:Int) +1)=((hs.length+1:Nat):Int):=by rw[dR];omega
  rw[show n-hs.length=(n- (hs.length+1)) +1 by omega,List.range'_succ,Li]at h2;have H2:=ai h2;have kX:=ai X2;clear h2 X2 HX H1 X;generalize hk:hs.length=k at*;have Hk:=ai hk;clear hk;cases hA;refine eG λτ=>?_;refine wpM_seq (aH (t:=true) (by simp[Act.eval,hlt]) (dm ?_));try simp only[Exit.then]
  refine wpM_seq (bt ?_);refine eG λτ=>?_;refine nQ ?_;iterate 3
   refine eU ?_
  refine aM (args:=#[.pointer (some ⟨b,0,none⟩),.pointer S.wv,.int .i64 k]) rfl rfl rfl func45 rfl rfl cC (λb k fs h1 h2=>S.upush _ _ rfl rfl ⟨f48,by show prog.funcs[b.fn]? =_;rw[h1];exact func48⟩ h2) (oJ S hn.2 H2.out hlt) ?_;rintro i3 r3 w3 ⟨x,rfl,hx,h3,K3⟩;walk_nrm;refine eU ?_;refine on ?_;have X3:=kX.out.step K3;clear kX H2 cq2 cr2;obtain⟨ov,eo,Pd,yu,hap,mE⟩:=X3.out;have hown:=X3.own;rw[Hk.out]at hown yu;have H3:=ai h3;have IU:=ai X3;clear h3 X3;have hBs:=IU.out.hB;have yA:=λτ a hA=>lk_region (p:=p) (q:=q) (r:=r) (n:=n) (k:=k) (lv:=lv) (ov:=ov) (x:=x) (w:=w3.tp τ) (a:=a) w.heap.size hA (by rw[aF,af Pd];rfl) (ay (w:=w3.tp τ) Pd 0 (aY _)) hBs.2.1 hown yu hap hBs.2.2.1 ae hx.1 hx.2;simp only[lkR7,Z5,Lh,Lg,Lf,f48,Code.l,Code.r,bJ]at yA;refine wpM_lone jJ hcs ax acp (ft3 _ _) (λτ=>kv (yA τ _ (S9.mk ..)) ?_);rintro a' w' ⟨gg,cap,C4,iV,wa,hA',e',hown',Z7,Z8,hsz',G1,hat,We⟩;refine⟨wa.setCell ⟨p,0,none⟩ (.slice (some ⟨C4,0,none⟩) (k+1) iV),⟨e'.heap,e'.os,e'.output⟩,?_⟩;have G1:∀b,b<w3.heap.size->lv.ownBlock≠some b->ov.ownBlock≠some b->wa.heap[b]? =w3.heap[b]? :=G1;have hsz':w3.heap.size<=wa.heap.size:=hsz';clear yA;have X3:=IU.out;have h3:=H3.out;have Pe:∀g,lv.ownBlock=some g->w.heap.size<=g:=λg hg=>(hown.lt g hg).1;have Z9:∀g,ov.ownBlock=some g->w.heap.size<=g:=λg hg=>(yu.lt g hg).1;have hpa:wa.heap[p]? =some (.cells #[ov] eo (0,0)):=by rw[G1 p ae (λe=>by have:=Pe p e;omega) (λe=>by have:=Z9 p e;omega)];exact Pd
  have IQ:=aq (o:=0) hpa (.slice (some ⟨C4,0,none⟩) (k+1) iV);have EZ:∀y,y≠p->(wa.setCell ⟨p,0,none⟩ (.slice (some ⟨C4,0,none⟩) (k+1) iV)).heap[y]? =wa.heap[y]? :=λy hy=>ah hy _;have Om:(wa.setCell ⟨p,0,none⟩ (.slice (some ⟨C4,0,none⟩) (k+1) iV)).heap.size=wa.heap.size:=gF;generalize wa.setCell ⟨p,0,none⟩ (.slice (some ⟨C4,0,none⟩) (k+1) iV)=w4 at*;obtain⟨h4,K4,Qx⟩:=S.fresh _ _ _ _ _ _ w4 h0 h3 X3.box.keep ae (λy hy hne=>by
   by_cases e:y=p
   ·subst e;exact⟨X3.box.ge.1,X3.box.nf.1⟩
   ·rw[EZ y e]at hne;by_cases e1:lv.ownBlock=some y
    ·exact⟨by have:=Pe y e1;omega,X3.nfl y e1⟩
    ·by_cases e2:ov.ownBlock=some y
     ·exact⟨by have:=Z9 y e2;omega,mE y e2⟩
     ·exact absurd (G1 y hy e1 e2) hne)
  have hnew:∀g,w3.heap.size<=g->¬bL b c w4 g:=λg hg hf=>by have:=S.foot _ _ _ _ h3 ((Qx g).1 hf);omega
  have jU:∀y v e,y≠p->y<w.heap.size->w3.heap[y]? =some (.cells v e (0,0))->w4.heap[y]? =some (.cells v e (0,0)):=λy v e h1 h2 h5=>by rw[EZ y h1,G1 y ae (λe=>by have:=Pe y e;omega) (λe=>by have:=Z9 y e;omega)];exact h5
  obtain⟨eq3,hq3⟩:=X3.box.hq;obtain⟨er3,hr3⟩:=X3.box.hr;have hlen:(hs++[x]).length=k+1:=by simp[Hk.out]
  have acz:gg≠p/\C4≠p:=by have h1:∀g,(Value.slice (some ⟨g,0,none⟩) (k+1) cap).ownBlock=some g:=λg=>rfl;have:=(hown'.lt gg rfl).1;have:=(Z7.lt C4 rfl).1;omega
  have X4:Pb S w0 w.heap.size p q r (hs++[x]) (.slice (some ⟨gg,0,none⟩) (k+1) cap) w4:=by
   refine⟨⟨⟨i0,p0,h0⟩,X3.box.lo,K4,X3.box.ne,X3.box.ge,⟨_,jU q _ _ (bp X3.box.ne.1) hBs.2.2.2.1 hq3⟩,⟨_,jU r _ _ (bp X3.box.ne.2) hBs.2.2.2.2 hr3⟩,⟨_,_,IQ⟩,λhf=>X3.box.nf.1 ((Qx _).1 hf),λhf=>X3.box.nf.2.1 ((Qx _).1 hf),λhf=>X3.box.nf.2.2 ((Qx _).1 hf)⟩,⟨hBs.1,ae,hBs.2.2⟩,?_,⟨.slice (some ⟨C4,0,none⟩) (k+1) iV,eo,by simpa using IQ,?_,?_,?_⟩,?_,?_⟩
   ·rw[hlen,ED,Hk.out];exact row_keep hown' λg hg=>EZ g (by obtain rfl:gg=g:=(by simpa[Value.ownBlock]using hg);exact acz.1)
   ·rw[hlen,List.map_append,List.map_append];exact row_keep Z7 λg hg=>EZ g (by obtain rfl:C4=g:=(by simpa[Value.ownBlock]using hg);exact acz.2)
   ·intro g hg h;obtain rfl:gg=g:=(by simpa[Value.ownBlock]using hg);obtain rfl:C4=gg:=(by simpa[Value.ownBlock]using h);exact Z8 rfl
   ·intro g hg;obtain rfl:C4=g:=(by simpa[Value.ownBlock]using hg);rcases We with e|e
    ·exact λhf=>mE _ e ((Qx _).1 hf)
    ·exact hnew _ e
   ·intro g hg;obtain rfl:gg=g:=(by simpa[Value.ownBlock]using hg);rcases hat with e|e
    ·exact λhf=>X3.nfl _ e ((Qx _).1 hf)
    ·exact hnew _ e
   ·intro y hy;rcases List.mem_append.1 hy with h|h
    ·exact X3.bd y h
    ·obtain rfl:y=x:=(by simpa using h);exact hx
  have M8:=ai X4;have H4:=ai h4;clear X4 h4 X3 h3 H3 IU IQ hpa hown' Z7 hown yu hap mE Pd;cases hA';try simp only[Exit.inBlock,Exit.then]
  refine l3 hcs (λτ=>?_);go_wp2;refine⟨_,aN _ _,?_⟩;refine⟨n- (hs++[x]).length,by rw[hlen];omega,⟨hs++[x],_,rfl,by rw[hlen];omega,?_,?_,M8.out⟩⟩
  ·rw[hlen];exact O9.mk ..
  ·rw[hlen];exact H4.out
 ·have BX:hs.length=n:=ae;have hd:¬((n:Int) < (n:Int)):=ae;rw[BX]at hA;rw[BX,Nat.sub_self,List.range'_zero,Pc]at h2;unfold M7 at h2;obtain⟨g,cap,hlv,hBg,Ll⟩:=X2.own.form ae;rw[BX]at hlv;have hown:=X2.own;have Tc:=X2.nfl;subst hlv;rw[BX]at hown;have hes:M5 g 0 (jZ hs) w2:=λj v hv=>by have hj:=(eL.1 hv).1;rw[gq,ue,BX]at hj;rw[cM,hown.cellAt j ae];exact hv
  have hgF:¬bL b c w2 g:=Tc g rfl;have hgb:g≠b:=λe=>hgF (.inl e);have Aw:=px S hn.2 (s:=g) (o:=0) (cap:=cap) (es:=jZ hs) h2 (by have:=X2.box.lo;have:=X2.hB;omega) hes hgb Ll (Pa BX X2.bd) (by rw[ue];omega);rw[ue,BX]at Aw;have Hd:=ai Aw;have kX:=ai X2;clear Aw X2 h2 hown hes Tc H1 HX hlt hle;cases hA;simp only[Int.not_lt]at hd;refine eG λτ=>?_;refine wpM_seq (aH (t:=false) cC (fY ?_));simp only[Exit.then,Exit.inBlock,if_true];refine nQ ?_;iterate 3
   refine eU ?_
  refine aM (args:=#[.pointer (some ⟨b,0,none⟩),.pointer S.wv,.slice (some ⟨g,0,none⟩) n cap]) rfl rfl rfl func47 rfl rfl cC (λb k fs h1 h2=>S.upush _ _ rfl rfl ⟨f48,by show prog.funcs[b.fn]? =_;rw[h1];exact func48⟩ h2) (Hd.out) ?_;rintro i3 r3 w3 ⟨ok,er,rfl,h3,K3⟩;walk_nrm;iterate 4
   refine eU ?_
  refine on ?_;refine bn ?_;have X3:=kX.out.step K3;obtain⟨ov3,e3,Pd,aaa,_,Wj⟩:=X3.out;rw[BX]at aaa;have hB3:=X3.hB;exact⟨rfl,.tuple #[.bool ok,.int .i64 er],gU,((ok,er),hs.map aU),rfl,h3,X3.box,ov3,e3,Pd,⟨aaa.1,aaa.2.imp id λ⟨g',cap',cur,h1,h2,h4⟩=>⟨g',cap',cur,h1,ae,h4⟩⟩,by simp[BX],Wj⟩
end
def pA(F k:Nat)(pre:List cX):List bR->oF (Bool×Int)
 |[]=>doesP F k pre
 |e::l=>(gh F F e.c.toNat).bind λh=>if aU h≠e.o then .ret (false,264)else pA F k (pre++[⟨e.c.toNat,h,e.n⟩]) l
def Nd(n:Nat)(es:List bR):Prop:=∀k,k<es.length->0<=(es[k]!).c/\(es[k]!).c<n/\0<=(es[k]!).n/\(es[k]!).n<=1048575
inductive Wm(p q r g cap m k:Nat)(lv:Value):Act->Prop
 |mk (u3 u4 u6 u7 u8 mG mb lr kE u16 ku kF kG kH mf mg u23 u24 mh u26 kI u28 kJ kK lu u32 u33 lx ly lz lA mi mj mD:Value):Wm p q r g cap m k lv {tmps:=#[.pointer (some ⟨p,0,none⟩),.pointer (some ⟨q,0,none⟩),.pointer (some ⟨r,0,none⟩),u3,u4,lv,u6,u7,u8,.slice (some ⟨g,0,none⟩) m cap,.int .i64 m,.int .i64 k,mG,mb,lr,kE,u16,ku,kF,kG,kH,mf,mg,u23,u24,mh,u26,kI,u28,kJ,kK,lu,u32,u33,lx,ly,lz,lA,mi,mj,mD],defers:=[]}
section
variable{n:Nat}{main:Bool}{Stop:ι->Frame->List Frame->World->Prop}
structure De(S:jY α (bA F b c lo n) main cs Jm Stop)(w0:World)(p q r g cap:Nat)(es:List bR)(w:World):Prop where
 at0:∃i0 p0,S.At i0 p0 w0
 lo:lo<=w0.heap.size
 keep:S.Keep w0 w
 ge:w0.heap.size<=p/\w0.heap.size<=q/\w0.heap.size<=r/\w0.heap.size<=g
 hp:∃e,w.heap[p]? =some (.cells #[.slice (some ⟨g,0,none⟩) es.length cap] e (0,0))
 hq:∃e,w.heap[q]? =some (.cells #[.pointer (some ⟨b,0,none⟩)] e (0,0))
 hr:∃e,w.heap[r]? =some (.cells #[.pointer S.wv] e (0,0))
 hg:∃cb e f,w.heap[g]? =some (.cells cb e f)
 ent:dC g 0 es w
 nf:¬bL b c w p/\¬bL b c w q/\¬bL b c w r/\¬bL b c w g
structure Pq(S:jY α (bA F b c lo n) main cs Jm Stop)(w0:World)(B p q r g cap:Nat)(es:List bR)(pre:List cX)(lv:Value)(w:World):Prop where
 box:De S w0 p q r g cap es w
 hB:w0.heap.size<=B/\B<=w.heap.size/\p<B/\q<B/\r<B/\g<B
 own:w.ownsRow B 121 3 lv pre.length (pre.flatMap dB)
 nfl:∀g',lv.ownBlock=some g'->¬bL b c w g'
 bd:∀e∈pre,e.Ok n
variable{S:jY α (bA F b c lo n) main cs Jm Stop}{w:World}{p q r g cap:Nat}{es:List bR}{pre:List cX}
theorem De.step(X:De S w0 p q r g cap es w)(K:S.Keep w w'):De S w0 p q r g cap es w':=by obtain⟨i0,p0,h0⟩:=X.at0;obtain⟨ep,hp⟩:=X.hp;obtain⟨eq,hq⟩:=X.hq;obtain⟨er,hr⟩:=X.hr;obtain⟨cb,eg,fg,hg⟩:=X.hg;obtain⟨a1,a2⟩:=S.same _ _ _ _ K hp aJ X.nf.1 (S.new _ _ _ _ h0 X.ge.1);obtain⟨b1,b2⟩:=S.same _ _ _ _ K hq aJ X.nf.2.1 (S.new _ _ _ _ h0 X.ge.2.1);obtain⟨c1,c2⟩:=S.same _ _ _ _ K hr aJ X.nf.2.2.1 (S.new _ _ _ _ h0 X.ge.2.2.1);obtain⟨d1,d2⟩:=S.same _ _ _ _ K hg aJ X.nf.2.2.2 (S.new _ _ _ _ h0 X.ge.2.2.2);exact⟨⟨i0,p0,h0⟩,X.lo,S.trans _ _ _ X.keep K,X.ge,⟨ep,a1⟩,⟨eq,b1⟩,⟨er,c1⟩,⟨_,_,_,d1⟩,X.ent.of_block (by rw[d1,hg]),a2,b2,c2,d2⟩
theorem Pq.step(X:Pq S w0 B p q r g cap es pre lv w)(K:S.Keep w w'):Pq S w0 B p q r g cap es pre lv w':=by
 obtain⟨i0,p0,h0⟩:=X.box.at0;have key:∀g',lv.ownBlock=some g'->w'.heap[g']? =w.heap[g']?/\¬bL b c w' g':=λg' hg=>by obtain⟨cur,hc⟩:=cP X.own hg;have:=(X.own.lt g' hg).1;obtain⟨a1,a2⟩:=S.same _ _ _ _ K hc aJ (X.nfl g' hg) (S.new _ _ _ _ h0 (by have:=X.hB.1;omega));exact⟨by rw[a1,hc],a2⟩
 exact⟨X.box.step K,⟨X.hB.1,by have:=X.hB.2.1;have:=S.size _ _ K;omega,X.hB.2.2⟩,row_keep X.own λg' hg=>(key g' hg).1,λg' hg=>(key g' hg).2,X.bd⟩
theorem Lz{e:bR}{l:List bR}{aS:Bool×Int->Pr JS α}:(pA F k pre (e::l)).bind aS=(gh F F e.c.toNat).bind λh=>if aU h≠e.o then aS (false,264)else(pA F k (pre++[⟨e.c.toNat,h,e.n⟩]) l).bind aS:=by simp only[pA,Pr.bind_assoc,kz,Pr.bind]
structure aaf(S:jY α (bA F b c lo n) main cs Jm Stop)(aS:Bool×Int->Pr JS α)(w0:World)(B p q r g cap:Nat)(es:List bR)(m:Nat)(i':ι)(a':Act)(w':World):Prop where
 ex:∃pre lv,m=es.length-pre.length/\pre.length<=es.length/\Wm p q r g cap es.length pre.length lv a'/\S.At i' ((pA F S.num pre (es.drop pre.length)).bind aS) w'/\Pq S w0 B p q r g cap es pre lv w'
theorem EI(S:jY α (bA F b c lo n) main cs Jm Stop)(hn:n<=64)(w0:World)(p q r g cap:Nat)(es:List bR)(h1e:1<=es.length/\es.length<=64)(hes:Nd n es):
  CloSpec S 54 #[.pointer (some ⟨p,0,none⟩),.pointer (some ⟨q,0,none⟩),.pointer (some ⟨r,0,none⟩)] (pA F S.num [] es) id (λ_ _=>True) (De S w0 p q r g cap es):=by
 intro i w aS X h;have hcs:=S.hcs;obtain⟨i0,p0,h0⟩:=X.at0;obtain⟨ep,hp⟩:=X.hp;obtain⟨eq,hq⟩:=X.hq;obtain⟨er,hr⟩:=X.hr;obtain⟨cb,eg,fg,hg⟩:=X.hg;have hpl:=(aQ.1 hp).1;have Kp:=(aQ.1 hq).1;have yw:=(aQ.1 hr).1;have Ll:=(aQ.1 hg).1;have cp:=cO hp 0;have X1:Pq S w0 w.heap.size p q r g cap es [] (.slice none 0 0) w:=⟨X,⟨by have:=X.ge;omega,aY _,hpl,Kp,yw,Ll⟩,oK _ _ _ _,λg hg=>(by cases hg),λx hx=>(by cases hx)⟩;have HX:=ai X1;have H1:=ai h;have Hes:=ai hes;have Hge:=ai X.ge;clear X1 h X hp hq hr hg hes;refine aX func54 rfl ?_;simp only[f54,bJ];walk_nrm;iterate 2
  refine eG λτ=>?_
 refine xe λτ=>?_;clear cp;refine bt (fZ (aaf S aS w0 w.heap.size p q r g cap es) (n:=es.length) ⟨[],_,rfl,bj _,Wm.mk ..,H1.out,HX.out⟩ ?_);rintro m i2 a2 w2 ⟨pre,lv,rfl,hle,hA,h2,X2⟩;have E9:=X2.box;obtain⟨eq2,NX⟩:=E9.hq;obtain⟨U4,hr2⟩:=E9.hr;clear E9;by_cases hlt:pre.length<es.length
 ·obtain⟨k0,k1,k2,k3⟩:=Hes.out _ hlt;obtain⟨c0,c1,c2⟩:=X2.box.ent _ hlt;simp only[cM]at c0 c1 c2;rw[List.drop_eq_getElem_cons hlt,Lz]at h2;have hz:es[pre.length]=es[pre.length]! :=(getElem!_pos es _ hlt).symm;rw[hz]at h2;clear hz;have hwr:IntKind.i64.wrap ((pre.length:Int) +1)=((pre.length+1:Nat):Int):=by rw[dR];omega
  generalize hzz:es[pre.length]! =z at*;obtain⟨zc,zo,zn⟩:=z;dsimp only at k0 k1 k2 k3 c0 c1 c2 h2;obtain⟨kc,rfl⟩:∃k:Nat,zc=k:=⟨zc.toNat,ae⟩;have hkc:kc<n:=ae;rw[Int.toNat_natCast]at h2;have H2:=ai h2;have kX:=ai X2;have Hle:=ai hle;have Hq2:=ai NX;have Hr2:=ai hr2;clear h2 X2 HX H1 hzz NX hr2;generalize hk:pre.length=k at*;have Hk:=ai hk;clear hk;cases hA;refine eG λτ=>?_;refine wpM_seq (aH (t:=true) (by simp[Act.eval,hlt]) (dm ?_));try simp only[Exit.then]
  refine wpM_seq (bt ?_);refine eG λτ=>?_;generalize hw3:World.alloc _ _=w3;have hs3:w3.heap.size=w2.heap.size+1:=by subst hw3;simp
  have ho3:∀y,y<w2.heap.size->w3.heap[y]? =w2.heap[y]? :=λy hy=>by subst hw3;simp only[←cG,cF];rw[if_neg ae]
  have he3:w3.heap[w2.heap.size]? =some (.cells #[.int .i64 kc,.int .i64 zo,.int .i64 zn] 65 (0,0)):=by subst hw3;simp only[←cG,cF];rw[if_pos trivial]
  clear hw3;obtain⟨h3,K3,hF3⟩:=S.fresh _ _ _ _ _ _ w3 H2.out H2.out (S.refl w2) ae (λy hy hne=>absurd (ho3 y hy) hne);have X3:=kX.out.step K3;have Wj:¬bL b c w3 w2.heap.size:=λhf=>by have:=S.foot _ _ _ _ H2.out ((hF3 _).1 hf);omega
  have hnew:=S.new _ _ _ _ H2.out (aY w2.heap.size);obtain⟨eq3,hq3⟩:=X3.box.hq;obtain⟨er3,hr3⟩:=X3.box.hr;have cq3:=cO hq3 0;have cr3:=cO hr3 0;have ce3:=cO he3 0;have H3:=ai h3;have IU:=ai X3;have He3:=ai he3;have Hn3:=ai Wj;have xk:=ai hnew;clear h3 X3 he3 Wj hnew hq3 hr3 hF3 K3 H2 kX Hq2 Hr2 c0 c1 c2 ho3;refine nQ ?_;iterate 4
   refine eU ?_
  refine aM (args:=#[.pointer (some ⟨b,0,none⟩),.pointer S.wv,.int .i64 kc]) rfl rfl rfl func45 rfl rfl cC (λb k fs h1 h2=>S.upush _ _ rfl rfl ⟨f54,by show prog.funcs[b.fn]? =_;rw[h1];exact func54⟩ h2) (oJ S hn H3.out hkc) ?_;rintro i3 r3 w4 ⟨x,rfl,hx,h4,K4⟩;walk_nrm;refine eU ?_;refine on ?_;have X4:=IU.out.step K4;obtain⟨he4,aev⟩:=S.same _ _ _ _ K4 He3.out aJ Hn3.out xk.out;have ce4:=cO he4 0;have cf4:=cO he4 1;have cg4:=cO he4 2;have Om:w2.heap.size<w4.heap.size:=(aQ.1 he4).1;have H4:=ai h4;have M8:=ai X4;obtain⟨hx0,hx1⟩:=hx;clear h4 X4 he4 aev IU H3 cq3 cr3 ce3;generalize w2.heap.size=eb at*;refine wpM_seq ?_;refine wpM_seq (gi jJ 4 41 [4] rfl ax (λt=>oG) ax rfl ?_);simp only[oH,oI];refine ov ?_;refine vz (args:=#[.int .i64 x]) rfl func46 rfl rfl cC ⟨rfl,λt h=>by simp[S3,fC]at h⟩ (λτ k=>hvalue_word _ _ hx0 hx1) ?_;walk_nrm;refine ov ?_;refine ov ?_;refine iH ?_;refine eU ?_;refine on ?_;by_cases hxz:aU x=zo
  ·have hq:((x / 1099511627776) !=zo)=false:=(by simpa[aU]using hxz);have h5:S.At i3 (if aU x≠zo then aS (false,264)else _) w4:=H4.out;rw[if_neg (by simpa using hxz)]at h5;have H5:=ai h5;clear h5 H4 hxz;refine aH (t:=false) (by simp[Act.eval,hq]) (dm ?_);try simp only[Exit.then]
   obtain⟨ie,Ea,Kj,Kk,Kl⟩:=info_parts XN;have hown:=M8.out.own;rw[Hk.out]at hown;have EB:=ai hown;have HB:=ai M8.out.hB;clear hown;refine l3 hcs (λτ=>?_);go_wp2_with (at_builtin;go_loud (refine wpList_append_lies _ rfl (.tmp 25) (.tmp 32) 122 rfl w.heap.size 121 ie _ 3 24 underlying122 Ea Kj Kk Kl rfl az lv k (pre.flatMap dB) rfl ((EB.out.alloc _)) ⟨w4.heap.size,0,none⟩ 1 1 [.int .i64 kc,.int .i64 x,.int .i64 zn] rfl rfl (pR (cs:=#[.int .i64 kc,.int .i64 x,.int .i64 zn]) (t:=121) (fr:=(0,0)) (heap_alloc_new (w4.tp τ) _)) qP az iw ae (show w.heap.size<=(w4.alloc _).heap.size by have:=HB.out.2.1;rw[bI];omega) (w4.heap.size+1) (show(w4.alloc _).heap.size=w4.heap.size+1 by rw[bI]) ?_;intro gg cap' w5 hown1 hgrow hat uZ;have HF:=ai (And.intro hown1 (And.intro hgrow (And.intro hat uZ)));clear hown1 hgrow hat uZ))
   refine⟨w5,⟨rfl,rfl,rfl⟩,?_⟩;obtain⟨kZ,hgrow,hat,Wn⟩:=HF.out;have X4:=M8.out;have hown:=EB.out;have hB:=HB.out;have hs5:w4.heap.size+1<=w5.heap.size:=(by have h1:=hgrow.size;have h2:(w4.alloc (.cells #[.int .i64 kc,.int .i64 x,.int .i64 zn] 121)).heap.size<=w5.heap.size:=h1;rw[bI]at h2;exact h2);have Ag:∀y,y<w4.heap.size->lv.ownBlock≠some y->w5.heap[y]? =w4.heap[y]? :=λy hy hne=>(by rw[hgrow.block y (by show y< (w4.alloc _).heap.size;rw[bI];omega) (λe=>hne e.symm)];exact eh w4 _ _ hy);have Pe:∀g',lv.ownBlock=some g'->w.heap.size<=g':=λg' hg=>(hown.lt g' hg).1;obtain⟨h6,K6,Tl⟩:=S.fresh _ _ _ _ _ _ w5 h0 H5.out X4.box.keep ae (λy hy hne=>by
    by_cases e1:lv.ownBlock=some y
    ·exact⟨by have:=Pe y e1;omega,X4.nfl y e1⟩
    ·exact absurd (Ag y hy e1) hne)
   have Ho:∀g',w4.heap.size<=g'->¬bL b c w5 g':=λg' hg hf=>(by have:=S.foot _ _ _ _ H5.out ((Tl g').1 hf);omega);have jU:∀y,y<w.heap.size->w5.heap[y]? =w4.heap[y]? :=λy hy=>Ag y ae (λe=>by have:=Pe y e;omega);have hlen:(pre++[(⟨kc,x,zn⟩:cX)]).length=k+1:=(by simp[Hk.out]);have X5:Pq S w0 w.heap.size p q r g cap es (pre++[⟨kc,x,zn⟩]) (.slice (some ⟨gg,0,none⟩) (k+1) cap') w5:=by
    obtain⟨ep4,IQ⟩:=X4.box.hp;obtain⟨eq4,hq4⟩:=X4.box.hq;obtain⟨er4,hr4⟩:=X4.box.hr;obtain⟨cg4,eg4,fg4,hg4⟩:=X4.box.hg;refine⟨⟨⟨i0,p0,h0⟩,X4.box.lo,K6,X4.box.ge,⟨_,by rw[jU p hpl];exact IQ⟩,⟨_,by rw[jU q Kp];exact hq4⟩,⟨_,by rw[jU r yw];exact hr4⟩,⟨_,_,_,by rw[jU g Ll];exact hg4⟩,X4.box.ent.of_block (jU g Ll),λhf=>X4.box.nf.1 ((Tl _).1 hf),λhf=>X4.box.nf.2.1 ((Tl _).1 hf),λhf=>X4.box.nf.2.2.1 ((Tl _).1 hf),λhf=>X4.box.nf.2.2.2 ((Tl _).1 hf)⟩,⟨hB.1,ae,hB.2.2⟩,?_,?_,?_⟩
    ·rw[hlen,List.flatMap_append];exact kZ
    ·intro g' p9;obtain rfl:gg=g':=(by simpa[Value.ownBlock]using p9);rcases hat with e|e
     ·exact λhf=>X4.nfl _ e ((Tl _).1 hf)
     ·exact Ho _ ae
    ·intro y hy;rcases List.mem_append.1 hy with h|h
     ·exact X4.bd y h
     ·obtain rfl:y=⟨kc,x,zn⟩:=(by simpa using h);exact⟨hkc,hx0,hx1,k2,k3⟩
   have HX5:=ai X5;have H6:=ai h6;clear X5 h6 X4 hown kZ hgrow hat M8 H5 EB HF Tl Ho jU Ag K6;try simp only[Exit.inBlock,Exit.then]
   refine l3 hcs (λτ=>?_);go_wp2;refine⟨_,aN _ _,?_⟩;refine⟨es.length- (pre++[(⟨kc,x,zn⟩:cX)]).length,by rw[hlen];omega,⟨pre++[⟨kc,x,zn⟩],_,rfl,by rw[hlen];omega,?_,?_,HX5.out⟩⟩
   ·rw[hlen];exact Wm.mk ..
   ·rw[hlen];exact H6.out
  ·have hq:((x / 1099511627776) !=zo)=true:=(by simpa[aU]using hxz);have h5:S.At i3 (if aU x≠zo then aS (false,264)else _) w4:=H4.out;rw[if_pos (by simpa using hxz)]at h5;have H5:=ai h5;clear h5 H4 hxz;refine aH (t:=true) (by simp[Act.eval,hq]) ?_;refine eG λτ=>?_;refine bn ?_;exact⟨rfl,.tuple #[.bool false,.int .i64 264],gU,(false,264),rfl,H5.out,M8.out.box,trivial⟩
 ·have BX:pre.length=es.length:=ae;have hd:¬((es.length:Int) < (es.length:Int)):=ae;rw[BX]at hA;rw[BX,List.drop_length]at h2;have h2:S.At i2 ((doesP F S.num pre).bind aS) w2:=h2;obtain⟨gg,cap',hlv,hBg,aew⟩:=X2.own.form ae;rw[BX]at hlv;have hown:=X2.own;have Tc:=X2.nfl;subst hlv;rw[BX]at hown;have acH:M5 gg 0 pre w2:=λj v hv=>by have hj:=(eL.1 hv).1;rw[gq,BX]at hj;rw[cM,hown.cellAt j ae];exact hv
  have hgF:¬bL b c w2 gg:=Tc gg rfl;have hgb:gg≠b:=λe=>hgF (.inl e);have Aw:=px S hn (s:=gg) (o:=0) (cap:=cap') (es:=pre) h2 (by have:=X2.box.lo;have:=X2.hB;omega) acH hgb aew X2.bd ae;rw[BX]at Aw;have cq2:=cO NX 0;have cr2:=cO hr2 0;have Hd:=ai Aw;have kX:=ai X2;clear Aw X2 h2 hown acH Tc H1 HX hlt hle NX hr2;cases hA;simp only[Int.not_lt]at hd;refine eG λτ=>?_;refine wpM_seq (aH (t:=false) cC (fY ?_));simp only[Exit.then,Exit.inBlock,if_true];refine nQ ?_;iterate 3
   refine eU ?_
  refine aM (args:=#[.pointer (some ⟨b,0,none⟩),.pointer S.wv,.slice (some ⟨gg,0,none⟩) es.length cap']) rfl rfl rfl func47 rfl rfl cC (λb k fs h1 h2=>S.upush _ _ rfl rfl ⟨f54,by show prog.funcs[b.fn]? =_;rw[h1];exact func54⟩ h2) (Hd.out) ?_;rintro i3 r3 w3 ⟨ok,er',rfl,h3,K3⟩;walk_nrm;iterate 4
   refine eU ?_
  refine on ?_;refine bn ?_;exact⟨rfl,.tuple #[.bool ok,.int .i64 er'],gU,(ok,er'),rfl,h3,(kX.out.step K3).box,trivial⟩
end
theorem HJ{w:World}{o1 o2 o3:Obj}(h:((w.alloc o1).alloc o2).alloc o3=w1):w1.heap.size=w.heap.size+3/\(∀b,b<w.heap.size->w1.heap[b]? =w.heap[b]?)/\w1.heap[w.heap.size]? =some o1/\w1.heap[w.heap.size+1]? =some o2/\w1.heap[w.heap.size+1+1]? =some o3:=by
 subst h;refine⟨au,λb hb=>?_,?_,?_,?_⟩ <;>simp only[←cG,cF,fV]
 ·rw[if_neg ae,if_neg ae,if_neg ae]
 ·exact NT
 ·rw[if_neg ae,if_pos trivial]
 ·rw[if_pos trivial]
section
variable{n:Nat}{main:Bool}{Stop:ι->Frame->List Frame->World->Prop}{w:World}
def rp(b c B:Nat)(iv:Value)(l:List Int)(w:World):Prop:=w.ownsRow B 3 1 iv l.length (l.map (Value.int .i64))/\∀g,iv.ownBlock=some g->¬bL b c w g
def jY.Ints(S:jY α (bA F b c lo n) main cs Jm Stop)(aS:List Int×Int->Pr JS α)(w:World)(i':ι)(r:Value)(w':World):Prop:=∃iv e l,r=.tuple #[iv,.int .i64 e]/\S.At i' (aS (l,e)) w'/\S.Keep w w'/\rp b c w.heap.size iv l w'
theorem look_eq{n:Nat}{aS:List Int×Int->Pr JS α}:(sR F k n).bind aS=(againG Prod.fst (iG F k n) F).bind λr=>if r.1.2≠0 then aS ([],r.1.2)else aS (r.2,0):=by simp only[sR,Pr.bind_assoc,kz,Pr.bind]
theorem look_any'(S:jY α (bA F b c lo n) main cs Jm Stop)(hn:1<=n/\n<=64){aS:List Int×Int->Pr JS α}(h:S.At i ((sR F S.num n).bind aS) w)(hlo:lo<=w.heap.size):
  CallsM prog main cs Jm Stop S.U i 20 #[.pointer (some ⟨b,0,none⟩),.pointer S.wv] w (S.Ints aS w):=by
 rw[look_eq]at h;have hcs:=S.hcs;refine aX func20 rfl ?_;simp only[f20,bJ];walk_nrm;iterate 2
  refine eG λτ=>?_
 generalize fE:World.alloc _ _=w1;obtain⟨a1,a2,a3,a4,a5⟩:=HJ fE;clear fE;obtain⟨h1,K1,uk⟩:=S.fresh _ _ _ _ _ _ w1 h h (S.refl w) ae (λy hy hne=>absurd (a2 y hy) hne);have mE:∀g,w.heap.size<=g->¬bL b c w1 g:=λg hg hf=>by have:=S.foot _ _ _ _ h ((uk g).1 hf);omega
 have X1:C6 S w (w.heap.size+1+1) w.heap.size (w.heap.size+1) w1:=⟨⟨_,_,h⟩,hlo,K1,ae,ae,⟨_,a3⟩,⟨_,a4⟩,⟨_,_,a5⟩,mE _ ae,mE _ ae,mE _ ae⟩;have H1:=ai h1;have Wo:=ai X1;clear h1 X1 a3 a4 a5 uk mE;refine nQ ?_;refine eU ?_;refine aM (args:=#[.func (.func 48) #[] #[.pointer (some ⟨w.heap.size+1+1,0,none⟩),.pointer (some ⟨w.heap.size,0,none⟩),.pointer (some ⟨w.heap.size+1,0,none⟩)]]) rfl rfl rfl func43 rfl rfl cC (λb k fs h1 h2=>S.upush _ _ rfl rfl ⟨f20,by show prog.funcs[b.fn]? =_;rw[h1];exact func20⟩ h2) (ud S func48 rfl rfl (Lk S hn w _ _ _) Wo.out H1.out) ?_;rintro i2 r2 w2 ⟨⟨⟨ok,er⟩,l⟩,rfl,h2,X2,ov,eo,uq,yu,hl,aex⟩;simp only at h2 yu hl;have cp:=cO uq 0;have H2:=ai h2;have kX:=ai X2;clear h2 X2 uq;walk_nrm;iterate 5
  refine eU ?_
 refine on ?_;by_cases he:er=0
 ·subst he;have h3:S.At i2 (aS (l,0)) w2:=by simpa using H2.out
  refine xe λτ=>?_;refine Bl ?_;try simp only[Exit.then]
  refine eG λτ=>?_;refine bn ?_;refine⟨rfl,.tuple #[ov,.int .i64 0],gU,ov,0,l,rfl,h3,kX.out.keep,?_,aex⟩;rw[hl];exact yu
 ·have h3:S.At i2 (aS ([],er)) w2:=by simpa[he]using H2.out
  have hne:(er !=0)=true:=by simpa using he
  refine xe λτ=>?_;refine aH (t:=true) (by simp[Act.eval,he]) ?_;refine eG λτ=>?_;refine bn ?_;exact⟨rfl,.tuple #[.slice none 0 0,.int .i64 er],gU,.slice none 0 0,er,[],rfl,h3,kX.out.keep,oK _ _ _ _,λg hg=>by cases hg⟩
end
end
section
open Go Go.Conc Go.ConcN Go.RowKit
theorem sV:q8 prog lkL=true:=ax
theorem LA:fq.Plain prog:=by
 have h:yU prog fq lkL=true:=ax;intro g hg;unfold yU at h;rw[fT]at h;have h1:=h g (by simpa[fq]using hg);obtain⟨fn,e1,_,e3⟩:=lB (c:=lkC) (x:=lkX) (f:=zf) sV g hg;rw[e1]at h1⊢;cases IH:fn.body with
 |none=>rw[IH]at e3;cases e3
 |some b=>simp only[Option.bind_some,IH,bJ]at h1⊢;exact h1
def H9(P:Program):Bool:=lkI.all (λg=>lkL.contains g&&zf.all λp=>p.1 !=g||(!Ys.contains p&&(p.2==0||decide (8<=p.2)))) &&aba.all λg=>match P.funcs[g]? with
 |some fn=>(match fn.results with
  |⟨[.tmp r]⟩=>zf.contains (g,r) &&Ys.contains (g,r)
  |_=>false)
 |none=>false
theorem Ps:fq.Yy prog:=by
 have h:H9 prog=true:=ax;unfold H9 at h;rw[bK,fT,fT]at h;refine⟨λ_=>⟨rfl,rfl⟩,λg hg=>?_,λg hg=>?_⟩
 ·have h1:=h.1 g (by simpa[fq]using hg);rw[bK,fT]at h1;refine⟨h1.1,λt ht=>?_⟩;have BD:zf.contains (g,t)=true:=ht;have h2:=h1.2 (g,t) (by simpa using BD);simp only[bne_self_eq_false,Bool.false_or,bK,uF,uA,beq_iff_eq,decide_eq_true_eq]at h2;exact h2
 ·have h1:=h.2 g (by simpa[fq]using hg);split at h1
  ·rename_i fn e;split at h1
   ·rename_i r e2;rw[bK]at h1;exact⟨fn,r,e,e2,h1.1,h1.2⟩
   ·cases h1
  ·cases h1
theorem Pt(H:Nat->Prop):fq.Rows H prog:=by
 refine⟨λg hg=>?_,λ_ h=>bY,Ps⟩;have hg:g=81\/g=126\/g=152\/g=153\/g=162:=by simpa[fq,lkX]using hg
 rcases hg with rfl|rfl|rfl|rfl|rfl
 ·exact kM func81 ax ax ax (e:=Extern.Atomic.storeT) ax vX
 ·exact kM func126 ax ax ax (e:=Extern.Atomic.loadT (.int .i64)) ax (uD _)
 ·exact kM func152 ax ax ax (e:=Extern.Atomic.casT (.int .i32)) ax (yG _)
 ·exact kM func153 ax ax ax (e:=Extern.Atomic.loadT (.int .i32)) ax (uD _)
 ·exact kM func162 ax ax ax (e:=Extern.Atomic.casT (.int .i64)) ax (yG _)
theorem pV:Stat prog fq:=⟨Pt,lB (c:=lkC) (x:=lkX) (f:=zf) sV,x9 (c:=lkC) (x:=lkX) (f:=zf) ax,LA⟩
end
section
open Go Go.Conc Go.ConcN Go.RowKit
attribute [local go_sem] aF aG aT aD aO aW aA aB dE cB dF a8
open Classical in
noncomputable def j4(n:Nat)(es:List bR):Int:=if∀k,k<es.length->ug es n k then if∀k,k<es.length->(es[k]!).lies then 0 else 263 else 262
theorem vA.eq{es:List bR}{n:Nat}{w:World}{e:Ending}(h:vA es n w e w'):e=.returned (.int .i64 (j4 n es)):=by
 unfold j4;split
 ·rename_i h1;split
  ·rename_i h2;exact h.ok h1 h2
  ·rename_i h2;refine cY λhn=>h2 λk hk=>?_;refine cY λhb=>hn (h.value h1 k hk hb)
 ·rename_i h1;refine cY λhn=>h1 λk hk=>?_;refine cY λhb=>hn (h.cell k hk hb)
theorem LB{es:List bR}{n:Nat}(h:j4 n es=0):Nd n es:=by
 unfold j4 at h;split at h
 ·rename_i h1;split at h
  ·rename_i h2;intro k hk;exact⟨(h1 k hk).1,(h1 k hk).2.1,(h2 k hk).2.1,(h2 k hk).2.2⟩
  ·cases h
 ·cases h
noncomputable def m9(F k n:Nat)(es:List bR):oF (Bool×Int):=if j4 n es≠0 then .line (.ret (false,j4 n es))else againG id (pA F k [] es) F
theorem LC(s:Option Addr)(n cap:Nat)(w:World):Calls prog 50 #[.slice s n cap] w λe w'=>e=.returned (.func (.func 92) #[] #[.pointer (some ⟨w.heap.size,0,none⟩)])/\w.alloc (.cells #[.slice s n cap] 66)=w':=by
 go_enter func50,ntmps50
 go_wp2;go_ret
 exact⟨rfl,rfl⟩
theorem acI(h1:VS fq 21 13 (tm.getD 13 undef)=true)(h2:VS fq 21 23 (tm.getD 23 undef)=true):pY fq 21 tm:=by
 intro t ht;have BD:zf.contains (21,t)=true:=ht;have:t=13\/t=23:=by simpa[zf]using BD
 rcases this with rfl|rfl
 ·exact h1
 ·exact h2
theorem AG:∀d∈([]:List Deferred),mK prog fq d:=au
theorem Cg{w:World}{p:Addr}(h:w.cell? p=some v):∃c e f,w.heap[p.block]? =some (.cells c e f):=by
 unfold World.cell? at h;split at h
 ·exact⟨_,_,_,by assumption⟩
 ·cases h
section
variable{n:Nat}{main:Bool}{Stop:ι->Frame->List Frame->World->Prop}{w:World}
theorem change_any'(S:jY α (bA F b c lo n) main cs Jm Stop)(hn:1<=n/\n<=64){es:List bR}{o cap:Nat}{aS:Bool×Int->Pr JS α}(h1e:1<=es.length/\es.length<=64)(hso:AD es.length)(he:dC s o es w)(hs:s<w.heap.size)
  (h:∀es':List bR,es'.Perm es->jr es' 0 es.length->S.At i ((m9 F S.num n es').bind aS) w)(hlo:lo<=w.heap.size):
  CallsM prog main cs Jm Stop S.U i 21 #[.pointer (some ⟨b,0,none⟩),.pointer S.wv,.slice (some ⟨s,o,none⟩) es.length cap] w (S.Z4 aS w):=by
 have hcs:=S.hcs;have H:=ai h;have He:=ai he;have Hso:=ai hso;clear h he hso;refine aX func21 rfl ?_;simp only[f21,bJ];walk_nrm;refine eG λτ=>?_;generalize fE:World.alloc _ _=w1;obtain⟨a1,a2,a3,a4,a5⟩:=HJ fE;clear fE;have cl:=cO a5 0;have hd:decide ((es.length:Int)<=64)=true:=bV;have A2:=ai a2;have A3:=ai a3;have A4:=ai a4;have A5:=ai a5;clear a2 a3 a4 a5;refine xe λτ=>?_;refine aH (t:=true) cC ?_;refine wpM_lone pV hcs ax AG (acI rfl rfl) (λτ=>?_);go_wp2_with fail
 refine(LC _ _ _ _).mono ?_;rintro e w1' ⟨rfl,rfl⟩;have Da:=Lx (w.heap.size+3) s o cap es h1e.1 ae Hso.out ((w1.alloc (.cells #[.slice (some ⟨s,o,none⟩) es.length cap] 66)).tp τ) (QF w1 _ _ _ a1.symm) ((He.out.of_block (w':=w1) (A2.out s hs)).of_block (eh w1 _ _ ae)) (show s< (w1.alloc _).heap.size by rw[bI];omega);have XR:=ai Da;clear Da;go_wp2_with fail
 refine XR.out.mono ?_;rintro e w2 ⟨g,iV,es',rfl,hr,hg1,hg2,hp,hsd,dx⟩;have hg1:(w1.alloc (.cells #[.slice (some ⟨s,o,none⟩) es.length cap] 66)).heap.size<=g:=hg1;rw[bI]at hg1;have hb2:∀y,y<w1.heap.size->w2.heap[y]? =w1.heap[y]? :=λy hy=>by rw[dx.block y (show y< (w1.alloc _).heap.size by rw[bI];omega)];exact eh w1 _ _ hy
 have uq:=hb2 (w.heap.size+1+1) ae;rw[A5.out]at uq;have Pd:=aq (o:=0) uq (.slice (some ⟨g,0,none⟩) es.length iV);have c2:=cO uq 0;have f2:=ay uq 0 (aY _);have hb3:∀y,y<w1.heap.size->y≠w.heap.size+1+1->(w2.setCell ⟨w.heap.size+1+1,0,none⟩ (.slice (some ⟨g,0,none⟩) es.length iV)).heap[y]? =w1.heap[y]? :=λy hy hne=>by rw[ah hne];exact hb2 y hy
 have hs3:(w2.setCell ⟨w.heap.size+1+1,0,none⟩ (.slice (some ⟨g,0,none⟩) es.length iV)).heap.size=w2.heap.size:=gF;have r3:dC g 0 es' (w2.setCell ⟨w.heap.size+1+1,0,none⟩ (.slice (some ⟨g,0,none⟩) es.length iV)):=hr.ent.of_block (ah ae _);have el:es'.length=es.length:=hp.length_eq;have h1:=H.out es' hp hsd;have HB3:=ai hb3;have HP3:=ai Pd;have HS3:=ai hs3;have HR3:=ai r3;have H1:=ai h1;have El:=ai el;clear hb3 Pd hs3 r3 h1 hb2 uq dx hr XR hp hsd H He el;go_wp2_with fail
 refine⟨_,⟨rfl,rfl,rfl⟩,?_⟩;have hb3:=HB3.out;have Pd:=HP3.out;have hs3:=HS3.out;have r3:=HR3.out;generalize w2.setCell ⟨w.heap.size+1+1,0,none⟩ (.slice (some ⟨g,0,none⟩) es.length iV)=w3 at*;have el:=El.out;obtain⟨s1,gQ⟩:=S.rep _ _ _ H1.out;have acw:=(JRep.lt gQ).1;have hdr:XQ b c n w3:=(bP (w:=w) (by rw[hb3 b ae ae];exact A2.out b acw)).trans (JRep.hdr gQ);have g3:g<w3.heap.size:=ae;have Tm:∀τ,Calls prog 53 #[.pointer (some ⟨b,0,none⟩),.slice (some ⟨g,0,none⟩) es.length iV] (w3.tp τ) (vA es' n (w3.tp τ)):=λτ=>by have:=Po b c n g iV es' (w3.tp τ) hdr r3 ae ae g3;rw[el]at this;exact this
 have x3:=hb3 w.heap.size ae ae;rw[A3.out]at x3;have y3:=hb3 (w.heap.size+1) ae ae;rw[A4.out]at y3;have cl3:=cO Pd 0;have cx3:=cO x3 0;have yy:w1.heap.size<=w3.heap.size:=ae;have hall:∀y,y<w.heap.size->w3.heap[y]? =w.heap[y]? :=λy hy=>by rw[hb3 y ae ae];exact A2.out y hy
 have HA:=ai hall;clear hall;have HR:=ai Tm;have X3:=ai x3;have Y3:=ai y3;clear Tm hdr gQ x3 y3 HP3 HS3 HR3 HB3 c2 f2 el hs3 hb3 hg2;have P3:=ai Pd;have R3:=ai r3;clear Pd r3;try simp only[Exit.then]
 refine wpM_seq (wpM_seq (wpM_lone pV hcs ax AG (acI rfl rfl) (λτ=>?_)));go_wp2_with fail
 refine(HR.out τ).mono ?_;intro e w4 hend;obtain rfl:=hend.eq;have aag:=ai hend.below;clear hend;go_wp2_with fail
 refine⟨w4,⟨rfl,rfl,rfl⟩,?_⟩;try simp only[Exit.then]
 have hb4:∀y,y<w3.heap.size->w4.heap[y]? =w3.heap[y]? :=λy hy=>aag.out.block y hy;have Om:w3.heap.size<=w4.heap.size:=aag.out.size;have p4:=hb4 (w.heap.size+1+1) ae;rw[P3.out]at p4;have x4:=hb4 w.heap.size ae;rw[X3.out]at x4;have y4:=hb4 (w.heap.size+1) ae;rw[Y3.out]at y4;have r4:dC g 0 es' w4:=R3.out.of_block (hb4 g g3);obtain⟨h5,K5,ZY⟩:=S.fresh _ _ _ _ _ _ w4 H1.out H1.out (S.refl w) ae (λy hy hne=>absurd (by rw[hb4 y ae];exact HA.out y hy) hne);have mE:∀y,w.heap.size<=y->¬bL b c w4 y:=λy hy hf=>by have:=S.foot _ _ _ _ H1.out ((ZY y).1 hf);omega
 have cl4:=cO p4 0;have cx4:=cO x4 0;have cw4:=cO y4 0;have el:=El.out;have X4:De S w (w.heap.size+1+1) w.heap.size (w.heap.size+1) g iV es' w4:=by obtain⟨cb,eg,fg,hg⟩:=Cg (r4 0 ae).1;exact⟨⟨_,_,H1.out⟩,hlo,K5,ae,⟨_,by rw[el];exact p4⟩,⟨_,x4⟩,⟨_,y4⟩,⟨_,_,_,hg⟩,r4,mE _ ae,mE _ ae,mE _ ae,mE _ ae⟩
 have M8:=ai X4;have H5:=ai h5;clear X4 h5 ZY mE p4 x4 y4 r4 hb4 aag P3 R3 X3 Y3 HA HR A2 A3 A4 A5 cl3 cx3 el H1 K5;by_cases her:j4 n es'=0
 ·have Ga:=LB her;have h6:=H5.out;simp only[m9,her,ne_eq,not_true_eq_false,if_false]at h6;have H6:=ai h6;have aey:=ai Ga;rw[her];clear h6 Ga H5;refine eG λτ=>?_;refine Bl ?_;try simp only[Exit.then]
  refine nQ ?_;refine eU ?_;refine aM (args:=#[.func (.func 54) #[] #[.pointer (some ⟨w.heap.size+1+1,0,none⟩),.pointer (some ⟨w.heap.size,0,none⟩),.pointer (some ⟨w.heap.size+1,0,none⟩)]]) rfl rfl rfl func43 rfl rfl cC (λb k fs h1 h2=>S.upush _ _ rfl rfl ⟨f21,by show prog.funcs[b.fn]? =_;rw[h1];exact func21⟩ h2) (ud S func54 rfl rfl (EI S hn.2 w _ _ _ g iV es' (by rw[El.out];exact h1e) aey.out) M8.out H6.out) ?_;rintro i2 r2 w5 ⟨⟨ok,er⟩,rfl,h2,X2,-⟩;have H2:=ai h2;have kX:=ai X2;clear h2 X2;walk_nrm;iterate 4
   refine eU ?_
  refine on ?_;refine bn ?_;exact⟨rfl,.tuple #[.bool ok,.int .i64 er],gU,ok,er,rfl,H2.out,kX.out.keep⟩
 ·have h6:=H5.out;simp only[m9,if_pos (show j4 n es'≠0 from her),Pr.bind]at h6;generalize j4 n es'=er at*;have hne:(er !=0)=true:=by simpa using her
  have H6:=ai h6;clear h6 H5 her;refine eG λτ=>?_;refine aH (t:=true) (by simp[Act.eval,hne]) ?_;refine nQ ?_;refine eU ?_;refine aM (args:=#[.pointer S.wv]) rfl rfl rfl func42 rfl rfl cC (λb k fs h1 h2=>S.upush _ _ rfl rfl ⟨f21,by show prog.funcs[b.fn]? =_;rw[h1];exact func21⟩ h2) (S.step _ _ _ H6.out) ?_;rintro i2 r w5 ⟨rfl,h2,K2⟩;walk_nrm;refine on ?_;refine eG λτ=>?_;refine bn ?_;exact⟨rfl,.tuple #[.bool false,.int .i64 er],gU,false,er,rfl,h2,S.trans _ _ _ M8.out.keep K2⟩
end
end
section
open Go Go.Conc Go.ConcN Go.RowKit
def Ia:Nat->List Value->Bool
 |0,l=>match l with
  |[.int .i64 0,.int .i64 0,.int .i64 0,.int .i64 0,.int .i64 0,.int .i64 0,.int .i64 0,.int .i64 0]=>true
  |_=>false
 |n+1,l=>match l with
  |.pointer none::l=>Ia n l
  |_=>false
theorem Ib:∀(n:Nat) (l:List Value),Ia n l=true->l=List.replicate n (.pointer none) ++List.replicate 8 (.int .i64 0)
 |0,l,h=>by
  unfold Ia at h;split at h
  ·rfl
  ·cases h
 |n+1,l,h=>by
  unfold Ia at h;split at h
  ·rename_i l';rw[Ib n l' h];rfl
  ·cases h
theorem Pu:Ia 8192 Tryz.zeroCells105.toList.tail=true:=ax
theorem Pv:Tryz.zeroCells105.toList.head? =some (.slice none 0 0):=ax
theorem LD:Tryz.zeroCells105=(Value.slice none 0 0::(List.replicate 8192 (Value.pointer none) ++List.replicate 8 (Value.int .i64 0))).toArray:=by
 have h1:=Ib _ _ Pu;have h2:=Pv;generalize Tryz.zeroCells105=z at*;obtain⟨l⟩:=z;cases l with
 |nil=>cases h2
 |cons x l=>simp only[List.head?_cons,cu,List.tail_cons]at h1 h2;rw[h1,h2]
theorem Tn(x:Value)(l:List Value)(s:Value):((x::l).toArray).setIfInBounds 0 s=(s::l).toArray:=by rw[jD,mI]
theorem yf(s:Value):gV s=(s::(List.replicate 8192 (Value.pointer none) ++List.replicate 8 (Value.int .i64 0))).toArray:=by rw[gV,LD];generalize List.replicate 8192 (Value.pointer none) ++List.replicate 8 (Value.int .i64 0)=l;exact Tn _ _ _
theorem Tp(n m d:Nat)(x y s:Value)(hd:d<n):(s::(List.replicate n x++List.replicate m y)).toArray[1+d]? =some x:=by rw[jh,show 1+d=d+1 by omega,ma,oC (by simpa using hd),List.getElem?_replicate,if_pos hd]
theorem Pw(n m d:Nat)(x y s:Value)(hd:d<m):(s::(List.replicate n x++List.replicate m y)).toArray[1+n+d]? =some y:=by rw[jh,show 1+n+d=(n+d) +1 by omega,ma,pQ au,Al,show n+d-n=d by omega,List.getElem?_replicate,if_pos hd]
theorem vC(s:Value)(d:Nat)(hd:d<8192):(gV s)[1+d]? =some (.pointer none):=by rw[yf];exact Tp 8192 8 d _ _ s hd
theorem AH(s:Value)(k:Nat)(hk:k<8):(gV s)[8193+k]? =some (.int .i64 0):=by rw[yf];exact Pw 8192 8 k _ _ s hk
def AJ(zs:List Int):JS:=⟨yC zs,λ_=>none,λ_=>0⟩
theorem Wp(h1:1<=zs.length/\zs.length<=64)(hl:∀i,i<zs.length->lC (zs.getD i 0)):(AJ zs).Ok:=by refine⟨by show 1<=(yC zs).length/\(yC zs).length<=64;rw[mY];exact h1,λc hc=>.inl ?_,λd D h=>bY,λk hk=>⟨by show 0<=1024;omega,λm hm=>rfl⟩⟩;have hc:c< (yC zs).length:=hc;exact Ln zs hl c hc
theorem Nf{w:World}(h1:1<=zs.length/\zs.length<=64)(hl:∀i,i<zs.length->lC (zs.getD i 0))(h:xg b c (yC zs) w)(hlo:b<lo/\c<lo):JRep b c lo zs.length (AJ zs) w:=by
 have hlen:=mY zs;refine⟨Wp h1 hl,hlen,h.ne,hlo,⟨_,_,h.bb,B8 _⟩,h.cc,by rw[h.hdr,hlen],λd hd=>?_,λk hk=>?_,λd d' t hd r9 e _=>?_⟩
 ·show∃u,_;exact⟨.pointer none,by rw[af h.bb];exact vC _ _ hd,λt ht=>by cases ht⟩
 ·rw[af h.bb];exact AH _ _ hk
 ·rw[af h.bb,vC _ _ hd]at e;cases e
end
end Go.Proofs.YtfmibhmknlnoiaaGreat
