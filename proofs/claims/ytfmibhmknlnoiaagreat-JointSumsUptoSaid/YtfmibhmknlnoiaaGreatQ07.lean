/-
  JointSums: where all calls are Moves, Looks and ones that none knows of, what all cells hold together stays the same in each Look and at the end, wherever workers are halted.
  Conditions: those of the statement alone (arguments of sizes that a machine can hold).
-/
import Derived.Test.YtfmibhmknlnoiaaGreatQ00
import Derived.Test.YtfmibhmknlnoiaaGreatQ06
import Derived.Deep.Slices
import Derived.Deep.Strs
import Derived.ProofKit
import Derived.OpenShut
import Derived.Test.YtfmibhmknlnoiaaGreatRows
import Derived.WalkKit
import Derived.Test.YtfmibhmknlnoiaaGreatQ03
set_option linter.all false
set_option maxRecDepth 100000
set_option maxHeartbeats 4000000
namespace Go.Proofs.YtfmibhmknlnoiaaGreat
open _root_.Go.Proofs.Tryz
variable{α:Type}{un:Int}{zs:List Int}{cs:List Value}{a:Option Addr}{H:Type}{v:Value}{W:World}
section
open Go Go.RowKit Go.Deep Go.ChangeShapes
instance:Inhabited bG:=⟨⟨0,0,0,0,[]⟩⟩
instance:Inhabited Value:=⟨undef⟩
theorem Uu(d:DataW H):1<=Rows.uptoBulk d:=by
 cases d with
 |lit l=>cases l<;>simp[Rows.uptoBulk]
 |nil=>simp[Rows.uptoBulk]
 |ptr d=>simp[Rows.uptoBulk]
 |slice elems spare=>simp[Rows.uptoBulk]
 |agg parts=>simp[Rows.uptoBulk]
 |iface t d=>simp[Rows.uptoBulk]
 |map entries=>simp[Rows.uptoBulk]
 |held h=>simp[Rows.uptoBulk]
theorem Qj{d:DataW H}{l:List (DataW H)}(h:d∈l):Rows.uptoBulk d<=Rows.uptoBulkAll l:=by
 induction l with
 |nil=>cases h
 |cons x r ih=>
  simp only[Rows.uptoBulkAll];cases dM.1 h with
  |inl e=>subst e;omega
  |inr e=>have:=ih e;omega
theorem ID(l:List (DataW H)):l.length<=Rows.uptoBulkAll l:=by
 induction l with
 |nil=>simp[Rows.uptoBulkAll]
 |cons x r ih=>have:=Uu x;simp only[Rows.uptoBulkAll,ew];omega
theorem Mc{n:Nat}{D:Nat->DataW H}{sp:List (DataW H)}:n<=Rows.uptoBulk (.slice ((List.range n).map D) sp)/\∀i,i<n->Rows.uptoBulk (D i)<=Rows.uptoBulk (.slice ((List.range n).map D) sp):=by have h1:=ID ((List.range n).map D);simp only[pW,List.length_range]at h1;simp only[Rows.uptoBulk];refine⟨ae,λi hi=>?_⟩;have:=Qj (d:=D i) (l:=(List.range n).map D) (og.2 ⟨i,mJ.2 hi,rfl⟩);omega
section
variable{enc:TypeId×Value->H}{base:Nat}{spare:Nat->Bool}{held:Bool}
theorem Qk{a:Addr}{n:Nat}(h:W.cells? base a n=some cs)(hn:0<n):∃s o,a=⟨s,o,none⟩/\s<W.heap.size:=by
 obtain⟨_,hl,hc⟩:=World.cells?_some h;have h0:=hc 0 hn;obtain⟨v,hv⟩:∃v,cs[0]? =some v:=⟨cs[0]'ae,au⟩;rw[hv]at h0;obtain⟨b,off,spot⟩:=a;have hs:spot=none:=by simpa[Addr.add]using World.cell?_spot h0
 subst hs;exact⟨b,off,rfl,dw W _ h0⟩
theorem pG{t e:TypeId}{k fuel:Nat}{x:DataW H×List MemPlace}{p:α->List Value->Nat->Prop} [Inhabited α](ht:prog.underlying t=some (.slice e))(hk:prog.cellsOf e=k)(hk0:0<k)
  (hp:∀(a:α) (cs:List Value) (m m':Nat),m<=m'->p a cs m->p a cs m')(hel:∀(n:Nat) (cs:List Value) (y:DataW H×List MemPlace),DataW.trod enc prog W base spare held n e cs=some y->∃a,p a cs (Rows.uptoBulk y.1))(h:DataW.trod enc prog W base spare held fuel t cs=some x):
  ∃(a:Option Addr) (n cap:Nat) (f:Nat->α),cs=[.slice a n cap]/\n<=Rows.uptoBulk x.1/\∀i,i<n->∃s o cs',a=some ⟨s,o,none⟩/\s<W.heap.size/\(∀j,j<k->W.cell? ⟨s,o+i*k+j,none⟩=cs'[j]?)/\p (f i) cs' (Rows.uptoBulk x.1):=by
 rcases open_slice ht h with⟨hcs,_⟩|⟨a,len,cap,m,n,D,Pl,hcs,_,hlc,_,hm,hx,hall⟩
 ·exact⟨none,0,0,λ_=>default,hcs,bj _,λi hi=>ae⟩
 ·have hle:len<=m:=by rw[hm];split<;>omega
  subst hx;rw[hk]at hall;obtain⟨hb1,hb2⟩:=Mc (n:=len) (D:=D) (sp:=(List.range (m-len)).map λj=>D (len+j));obtain⟨f,hf⟩:=choose_lt (α:=α) (p:=λi b=>∃cs',W.cells? base (a.add (i*k)) k=some cs'/\p b cs' (Rows.uptoBulk (D i))) (n:=m) (λi hi=>by obtain⟨cs',h1,h2⟩:=hall i hi;obtain⟨b,hb⟩:=hel n cs' _ h2;exact⟨b,cs',h1,hb⟩);refine⟨some a,len,cap,f,hcs,hb1,λi hi=>?_⟩;obtain⟨cs0,hc0,_⟩:=hf 0 ae;obtain⟨s,o,ha,hs⟩:=Qk hc0 hk0;obtain⟨s0,o0,sp⟩:=a;have ha':sp=none:=by simp[Addr.add]at ha;exact ha.2.2
  subst ha';have hs0:s0=s:=by simp[Addr.add]at ha;exact ha.1
  subst hs0;obtain⟨cs',hc',hp'⟩:=hf i ae;obtain⟨_,_,hc⟩:=World.cells?_some hc';refine⟨s0,o0,cs',rfl,hs,λj hj=>?_,hp _ _ _ _ (hb2 i hi) hp'⟩;have:=hc j hj;rwa [Au,Au]at this
theorem xu{fuel n cap:Nat}{x:DataW H×List MemPlace}(h:DataW.trod enc prog W base spare held fuel 22 [.slice a n cap]=some x):∃zs:List Int,zs.length=n/\eE W a zs/\n<=Rows.uptoBulk x.1:=by obtain⟨a',n',cap',f,hcs,hb,hf⟩:=pG (α:=Int) (p:=λz cs _=>cs=[.int .i64 z]) underlying22 (k:=1) ax az (λ_ _ _ _ _ h=>h) (λn cs y hy=>by obtain⟨z,hz,_⟩:=DataW.trod_int underlying3 hy;exact⟨z,hz⟩) h;cases hcs;refine⟨(List.range n).map f,au,λi hi=>?_,hb⟩;simp only[pW,List.length_range]at hi;obtain⟨s,o,cs',e,hs,hc,rfl⟩:=hf i hi;refine⟨s,o,e,hs,?_⟩;have:=hc 0 ae;rw[Nat.mul_one,Nat.add_zero]at this;rw[this,cQ,ml,List.getElem?_range hi];rfl
theorem open_pair{fuel:Nat}{x:DataW H×List MemPlace}(h:DataW.trod enc prog W base spare held fuel 53 cs=some x):∃e:Int×Int,cs=[.int .i64 e.1,.int .i64 e.2]:=by
 obtain⟨y0,y1,n,_,hl,h0,h1⟩:=trod_struct2 underlying53 h;have hl2:cs.length=2:=by rw[hl];kernel_rfl
 match cs,hl2 with
 |[c0,c1],_=>have e0:DataW.trod enc prog W base spare held n 3 [c0]=some y0:=h0;have e1:DataW.trod enc prog W base spare held n 3 [c1]=some y1:=h1;obtain⟨a,ha,_⟩:=DataW.trod_int underlying3 e0;obtain⟨b,hb,_⟩:=DataW.trod_int underlying3 e1;cases ha;cases hb;exact⟨⟨a,b⟩,rfl⟩
theorem Md{fuel:Nat}{x:DataW H×List MemPlace}(h:DataW.trod enc prog W base spare held fuel 46 [v]=some x):∃l:List (Int×Int),ju W v l/\l.length<=Rows.uptoBulk x.1:=by
 obtain⟨a,n,cap,f,hcs,hb,hf⟩:=pG (α:=Int×Int) (p:=λe cs _=>cs=[.int .i64 e.1,.int .i64 e.2]) underlying46 (k:=2) ax az (λ_ _ _ _ _ h=>h) (λn cs y hy=>open_pair hy) h;cases hcs;refine⟨(List.range n).map f,⟨a,cap,au,λi hi=>?_⟩,by simpa using hb⟩;simp only[pW,List.length_range]at hi;obtain⟨s,o,cs',e,hs,hc,rfl⟩:=hf i hi;have e0:((List.range n).map f).getD i (0,0)=f i:=by rw[cQ,ml,List.getElem?_range hi];rfl
 rw[e0,Nat.mul_comm 2 i];exact⟨s,o,e,hs,hc 0 ae,hc 1 ae⟩
theorem Ql{fuel:Nat}{x:DataW H×List MemPlace}(h:DataW.trod enc prog W base spare held fuel 50 cs=some x):∃(c:bG) (pv:Value),cs=dZ c pv/\ju W pv c.pairs/\c.pairs.length<=Rows.uptoBulk x.1:=by
 obtain⟨xs,n,_,hx,hl,hlen,hf⟩:=DataW.trod_struct underlying50 h;have hl5:cs.length=5:=by rw[hl];kernel_rfl
 have hx5:xs.length=5:=hlen;match cs,hl5,xs,hx5 with
 |[c0,c1,c2,c3,c4],_,[y0,y1,y2,y3,y4],_=>have e0:DataW.trod enc prog W base spare held n 3 [c0]=some y0:=hf 0 _ rfl;have e1:DataW.trod enc prog W base spare held n 3 [c1]=some y1:=hf 1 _ rfl;have e2:DataW.trod enc prog W base spare held n 3 [c2]=some y2:=hf 2 _ rfl;have e3:DataW.trod enc prog W base spare held n 3 [c3]=some y3:=hf 3 _ rfl;have e4:DataW.trod enc prog W base spare held n 46 [c4]=some y4:=hf 4 _ rfl;obtain⟨a,ha,_⟩:=DataW.trod_int underlying3 e0;obtain⟨b,hb,_⟩:=DataW.trod_int underlying3 e1;obtain⟨c,hc,_⟩:=DataW.trod_int underlying3 e2;obtain⟨d,hd,_⟩:=DataW.trod_int underlying3 e3;obtain⟨l,hp,hlb⟩:=Md e4;cases ha;cases hb;cases hc;cases hd;refine⟨⟨a,b,c,d,l⟩,c4,rfl,hp,cn hlb ?_⟩;subst hx;simp only[List.map_cons,List.map_nil,Rows.uptoBulk,Rows.uptoBulkAll];omega
theorem Uv{fuel:Nat}{x:DataW H×List MemPlace}(h:DataW.trod enc prog W base spare held fuel 51 [v]=some x):∃l:List bG,yh W v l/\l.length<=Rows.uptoBulk x.1/\∀c∈l,c.pairs.length<=Rows.uptoBulk x.1:=by
 obtain⟨a,n,cap,f,hcs,hb,hf⟩:=pG (α:=bG×Value) (p:=λe cs m=>cs=dZ e.1 e.2/\ju W e.2 e.1.pairs/\e.1.pairs.length<=m) underlying51 (k:=5) ax az (λ_ _ m m' hm ⟨h1,h2,h3⟩=>⟨h1,h2,ae⟩) (λn cs y hy=>by obtain⟨c,pv,h1,h2,h3⟩:=Ql hy;exact⟨(c,pv),h1,h2,h3⟩) h;cases hcs;refine⟨(List.range n).map λi=>(f i).1,⟨a,cap,au,λi c hi=>?_⟩,by simpa using hb,λc hc=>?_⟩
 ·rw[ml]at hi;have lR:i<n:=by
   rcases iC i n with hlt|CX
   ·exact hlt
   ·rw[xU (by simpa using CX)]at hi;cases hi
  rw[List.getElem?_range lR]at hi;obtain rfl:(f i).1=c:=by simpa using hi
  obtain⟨s,o,cs',e,hs,hc,rfl,hp,_⟩:=hf i lR;exact⟨s,o,e,hs,hc 0 ae,hc 1 ae,hc 2 ae,hc 3 ae,_,hc 4 ae,hp⟩
 ·obtain⟨i,hi,rfl⟩:=og.1 hc;obtain⟨s,o,cs',e,hs,hc,_,_,h3⟩:=hf i (mJ.1 hi);exact h3
theorem Qm{fuel n cap:Nat}{x:DataW H×List MemPlace}(h:DataW.trod enc prog W base spare held fuel 23 [.slice a n cap]=some x):∃work:List (List bG),work.length=n/\RowsIn W a work/\n<=Rows.uptoBulk x.1/\∀l∈work,l.length<=Rows.uptoBulk x.1/\∀c∈l,c.pairs.length<=Rows.uptoBulk x.1:=by
 obtain⟨a',n',cap',f,hcs,hb,hf⟩:=pG (α:=List bG×Value) (p:=λe cs m=>cs=[e.2]/\yh W e.2 e.1/\e.1.length<=m/\∀c∈e.1,c.pairs.length<=m) underlying23 (k:=1) ax az (λ_ _ m m' hm ⟨h1,h2,h3,h4⟩=>⟨h1,h2,ae,λc hc=>cn (h4 c hc) hm⟩) (λn cs y hy=>by
  obtain⟨v,rfl⟩:∃v,cs=[v]:=by rcases open_slice underlying51 hy with⟨hcs,_⟩|⟨_,_,_,_,_,_,_,hcs,_⟩ <;>exact⟨_,hcs⟩
  obtain⟨l,h1,h2,h3⟩:=Uv hy;exact⟨(l,v),rfl,h1,h2,h3⟩) h
 cases hcs;refine⟨(List.range n).map λi=>(f i).1,au,λk l hk=>?_,hb,λl hl=>?_⟩
 ·rw[ml]at hk;have lR:k<n:=by
   rcases iC k n with hlt|CX
   ·exact hlt
   ·rw[xU (by simpa using CX)]at hk;cases hk
  rw[List.getElem?_range lR]at hk;obtain rfl:(f k).1=l:=by simpa using hk
  obtain⟨s,o,cs',e,hs,hc,rfl,hr,_⟩:=hf k lR;refine⟨s,o,(f k).2,e,hs,?_,hr⟩;have:=hc 0 ae;rwa [Nat.mul_one,Nat.add_zero]at this
 ·obtain⟨i,hi,rfl⟩:=og.1 hl;obtain⟨s,o,cs',e,hs,hc,_,_,h3,h4⟩:=hf i (mJ.1 hi);exact⟨h3,h4⟩
theorem Qn{fuel:Nat}{x:DataW H×List MemPlace}(h:DataW.trod enc prog W base spare held fuel 25 cs=some x):∃(wk tu ha:Option Addr) (wc tc hc:Nat) (un:Int) (cc:bq),cs=(aC wk tu ha cc.work.length wc cc.turns.length tc cc.halt.length hc un).toList/\cc.until_=un.toNat/\RowsIn W wk cc.work/\eE W tu cc.turns/\eE W ha cc.halt/\
  cc.work.length<=Rows.uptoBulk x.1/\cc.turns.length<=Rows.uptoBulk x.1/\cc.halt.length<=Rows.uptoBulk x.1/\∀l∈cc.work,l.length<=Rows.uptoBulk x.1/\∀c∈l,c.pairs.length<=Rows.uptoBulk x.1:=by
 obtain⟨xs,n,_,hx,hl,hlen,hf⟩:=DataW.trod_struct underlying25 h;have hl4:cs.length=4:=by rw[hl];kernel_rfl
 have hx4:xs.length=4:=hlen;match cs,hl4,xs,hx4 with
 |[c0,c1,c2,c3],_,[y0,y1,y2,y3],_=>
  have e0:DataW.trod enc prog W base spare held n 23 [c0]=some y0:=hf 0 _ rfl;have e1:DataW.trod enc prog W base spare held n 22 [c1]=some y1:=hf 1 _ rfl;have e2:DataW.trod enc prog W base spare held n 22 [c2]=some y2:=hf 2 _ rfl;have e3:DataW.trod enc prog W base spare held n 3 [c3]=some y3:=hf 3 _ rfl;obtain⟨wk,wn,wc,rfl⟩:∃a n c,c0=.slice a n c:=by rcases open_slice underlying23 e0 with⟨hcs,_⟩|⟨_,_,_,_,_,_,_,hcs,_⟩ <;>cases hcs<;>exact⟨_,_,_,rfl⟩
  obtain⟨tu,tn,tc,rfl⟩:∃a n c,c1=.slice a n c:=by rcases open_slice underlying22 e1 with⟨hcs,_⟩|⟨_,_,_,_,_,_,_,hcs,_⟩ <;>cases hcs<;>exact⟨_,_,_,rfl⟩
  obtain⟨ha,hn,hc,rfl⟩:∃a n c,c2=.slice a n c:=by rcases open_slice underlying22 e2 with⟨hcs,_⟩|⟨_,_,_,_,_,_,_,hcs,_⟩ <;>cases hcs<;>exact⟨_,_,_,rfl⟩
  obtain⟨un,mB,_⟩:=DataW.trod_int underlying3 e3;cases mB;obtain⟨work,rfl,hR,hb0,aa2⟩:=Qm e0;obtain⟨turns,rfl,hT,hb1⟩:=xu e1;obtain⟨halt,rfl,hH,hb2⟩:=xu e2;have CY:Rows.uptoBulk y0.1<=Rows.uptoBulk x.1/\Rows.uptoBulk y1.1<=Rows.uptoBulk x.1/\Rows.uptoBulk y2.1<=Rows.uptoBulk x.1:=by subst hx;simp only[List.map_cons,List.map_nil,Rows.uptoBulk,Rows.uptoBulkAll];omega
  exact⟨wk,tu,ha,wc,tc,hc,un,⟨work,turns,halt,un.toNat⟩,rfl,rfl,hR,hT,hH,cn hb0 CY.1,cn hb1 CY.2.1,cn hb2 CY.2.2,λl hl=>⟨cn (aa2 l hl).1 CY.1,λc hc=>cn ((aa2 l hl).2 c hc) CY.1⟩⟩
end
end
section
namespace jointSums
open Go.ChangeShapes Go.WideShapes Go.ChangeAt Go.RowKit Go.Conc Go.ConcN
theorem own:ownKnob prog.godebug=none:=ax
theorem laid:laidOutB prog=true:=ax
def adn(a0:World)(fr:Frame)(fs:List Frame)(a:World):Prop:=fs=[]/\fr.mode=.returning/\fr.defers=[]/\fr.kind=.normal/\fr.fn=4/\(results f4 fr.tmps).run prog a=.ok (.bool true) a/\jy a0 a
structure Kept(W r:World):Prop where
 os:r.os=W.os
 output:r.output=W.output
 size:W.heap.size<=r.heap.size
 same:∀b,b<W.heap.size->r.heap[b]? =W.heap[b]?
theorem Kept.frame{r:World}(h:Kept W r)(may:MemPlace->Prop):W.keptBut r may:=by refine⟨h.os,h.output,λi hi=>?_⟩;rw[h.same i hi];split<;>simp_all
theorem runs{fa wk tu ha:Option Addr}{kN wc tc hc:Nat}{cc:bq}(hL:iq W fa wk tu ha zs cc un):
  ∃N last o w' t',runNT prog (N+1) (crowd #[bh (Frame.enter prog 4 #[.slice fa zs.length kN,.agg (aC wk tu ha cc.work.length wc cc.turns.length tc cc.halt.length hc un)] .normal) []] W none) #[]=(.ended o w',t')/\
   runN prog N (crowd #[bh (Frame.enter prog 4 #[.slice fa zs.length kN,.agg (aC wk tu ha cc.work.length wc cc.turns.length tc cc.halt.length hc un)] .normal) []] W none)=.next last/\step prog last=.ended o w'/\
   Conc.Good prog (λv r=>v=.bool true/\Kept W r) last o w' t':=by
 letI:Inhabited bO:=⟨⟨W⟩⟩
 let oB:Nat->Prop:=λb=>∀o,W.heap[b]? =some o->ej o=true;let a0:World:=fJ oB (λ_=>none) W;have fX:Sees oB (λ_=>none) a0 W:=dD _ _ _;have hrel:Rel (Hid oB W) a0 W:=zK λb o h1 h2=>h1 o h2;have zU:∀b,W.heap.size<=b->oB b:=λb hb o ho=>by have:=(aQ.1 ho).1;omega
 have kr:∀b o,W.heap[b]? =some o->ej o=true->a0.heap[b]? =some o:=λb o ho hk=>by
  have hN:oB b:=λo' sM=>by rw[ho]at sM;cases sM;exact hk
  show(fJ oB (λ_=>none) W).heap[b]? =_;rw[hide_need hN,ho];rfl
 have hle:∀{x:Addr} {v:Value},W.cell? x=some v->a0.cell? x=some v/\x.block<a0.heap.size:=λ{x v} h=>by
  have hb:=dw W _ h;refine⟨?_,by rw[fX.size];exact hb⟩;have ho:∃c e f,W.heap[x.block]? =some (.cells c e f):=by
   unfold World.cell? at h;split at h
   ·exact⟨_,_,_,by assumption⟩
   ·cases h
  obtain⟨c,e,f,ho⟩:=ho;exact(bP (w:=W) ((kr _ _ ho rfl).trans ho.symm)).trans h
 have hL0:iq a0 fa wk tu ha zs cc un:=⟨iU @hle hL.F,xt @hle hL.R,iU @hle hL.T,iU @hle hL.H,hL.un,hL.len,hL.rows⟩;have hz:ZigC prog true [] (rD prog S3) (λ_=>adn a0) .pre (Frame.enter prog 4 #[.slice fa zs.length kN,.agg (aC wk tu ha cc.work.length wc cc.turns.length tc cc.halt.length hc un)] .normal) [] a0:=by
  let b:Frame:={(default:Frame)with fn:=4,kind:=.normal};have tP:Frame.enter prog 4 #[.slice fa zs.length kN,.agg (aC wk tu ha cc.work.length wc cc.turns.length tc cc.halt.length hc un)] .normal=b.at {tmps:=#[.slice fa zs.length kN,.agg (aC wk tu ha cc.work.length wc cc.turns.length tc cc.halt.length hc un)] ++Array.replicate 108 undef,defers:=[]} [.code mA]:=by have hb:f4.body=some mA:=(by unfold mA;rfl);have hn:f4.ntmps=110:=ax;simp[Frame.enter,Frame.at,func4,hb,hn,b]
  rw[tP];refine Qi (kN:=kN) (wc:=wc) (tc:=tc) (hc:=hc) hL0 b [] [] rfl rfl trivial λi' e a' w' ⟨he,hd,hr,hh⟩=>?_;subst he;exact λtodo=>.stop ⟨rfl,rfl,hd,rfl,rfl,hr,hh⟩
 obtain⟨n,m',T',hN,hE⟩:=Ud hz (sl:=none) fX hrel zU (λ_ _ h _=>h) ⟨rfl,rfl⟩ (Zn W);simp only[List.append_nil]at hN;have hG:=Uw (P:=prog) (fn:=f4) (v:=.bool true) (Post:=λv r=>v=.bool true/\Kept W r) ax hE (λfr fs a ⟨h1,h2,h3,h4,h5,h6,h7⟩=>⟨h1,h2,h3,h4,by rw[h5];exact func4,by rw[h5];kernel_rfl,by
   simpa[results,f4,go_sem]using h6⟩) λfr fs a r N ⟨_,_,_,_,_,_,h7⟩ RP JN hs=>by
  refine⟨rfl,JN.1,JN.2,?_,λb hb=>?_⟩
  ·rw[←hs.size,←fX.size];exact h7.size
  ·obtain⟨o,ho⟩:∃o,W.heap[b]? =some o:=⟨_,dI hb⟩;rw[ho];cases hk:ej o with
   |false=>exact RP b o ho hk
   |true=>obtain⟨y,hy,e,_⟩:=dY hs (h7.old b o (kr b o ho hk) λe=>by subst e;cases hk) (λe=>by subst e;cases hk);rw[hy,e];rfl
 obtain⟨N,last,o,w',t',h1,h2,h3,h4⟩:=hG;refine⟨n+N,last,o,w',t',?_,?_,h3,h4⟩
 ·rw[Nat.add_assoc];exact b9 hN h1
 ·have hn:runN prog n (crowd #[bh (Frame.enter prog 4 #[.slice fa zs.length kN,.agg (aC wk tu ha cc.work.length wc cc.turns.length tc cc.halt.length hc un)] .normal) []] W none)=.next m':=by have:=congrArg Prod.fst hN;rwa [runNT_fst]at this
  rw[runN_add,hn];exact h2
theorem lifted(os:Os)(started:os.Started)(H:Type)(enc:TypeId×Value->H)(F:Stop.Interp):
  ReturnsInLeavingWide {} Tryz.checked os 4 .any ((Rows.OpenSpec.upto Rows.jointSumsSpec).pre6 enc prog f4 Rows.jointSumsUptoRow.domain false) (((Rows.OpenSpec.upto Rows.jointSumsSpec).at F).post enc prog f4 false true false false):=by
 refine yE (C:=Tryz.checked) (s:=Rows.OpenSpec.upto Rows.jointSumsSpec) (k:=Rows.uptoSmall) rfl own started func4
  (OpenSpec.witness (enc:=enc) (C:=Tryz.checked) (s:=Rows.OpenSpec.upto Rows.jointSumsSpec) (k:=Rows.uptoSmall) rfl false ⟨#[],#[.slice none 0 0,.agg #[.slice none 0 0,.slice none 0 0,.slice none 0 0,.int .i64 0]],[]⟩ 8 ax ax ax
   (x:=([.nil,.agg [.nil,.nil,.nil,.lit (.int .i64 0)]],[],[])) ax rfl ax) ?_
 intro W base args ds gs before Yo hW hk;have hval:∀(j:Nat) t v,f4.params[j]? =some t->args[j]? =some v->Value.okWide prog W .any base t v:=Yo;have qa:=hW;obtain⟨p,q,hA0,hV,rfl,W4,Fx⟩:=hW;have hA:DataW.TrodAll enc prog W 0 (λ_=>true) true f4.params.toList args.toList ds p:=hA0;rw[params4]at hA hval;obtain⟨v0,vs0,d0,ds0,p0,q0,afw,rfl,rfl,h0,r0⟩:=trodAll_cons hA;obtain⟨v1,vs1,d1,ds1,p1,q1,rfl,rfl,rfl,h1,r1⟩:=trodAll_cons r0;obtain⟨rfl,rfl,rfl⟩:=trodAll_nil r1;obtain rfl:args=#[v0,v1]:=by cases args;simp_all
 obtain⟨rfl,rfl⟩:=trodVars_none hV;obtain⟨fa,fn,kN,rfl⟩:=okWide_slice underlying22 (hval 0 22 v0 rfl rfl);obtain⟨cs,rfl,hcs⟩:=okWide_struct underlying25 (hval 1 25 v1 rfl rfl);obtain⟨Yp,U5⟩:=h0;obtain⟨Ux,hf1⟩:=h1;obtain⟨zs,rfl,hF,hb0⟩:=xu U5;have afn:DataW.trod enc prog W 0 (λ_=>true) true Ux 25 cs.toList=some (d1,p1):=hf1;obtain⟨wk,tu,ha,wc,tc,hc,un,cc,hcc,mB,hR,hT,hH,hb1,hb2,hb3,hb4⟩:=Qn afn;obtain rfl:cs=aC wk tu ha cc.work.length wc cc.turns.length tc cc.halt.length hc un:=by cases cs;simpa using congrArg List.toArray hcc
 have xK:Rows.uptoBulk d0<=1048576/\Rows.uptoBulk d1<=1048576:=by have:=of_decide_eq_true hk;simp only[jc,kR,Rows.uptoBulkAll]at this;omega
 have hL:iq W fa wk tu ha zs cc un:=by have aa2:zs.length<=Rows.uptoBulk d0:=hb0;have af7:cc.work.length<=Rows.uptoBulk d1:=hb1;have af8:cc.turns.length<=Rows.uptoBulk d1:=hb2;have af9:cc.halt.length<=Rows.uptoBulk d1:=hb3;refine⟨hF,hR,hT,hH,mB,⟨ae,ae,ae,ae⟩,λl hl=>?_⟩;obtain⟨h1,h2⟩:=hb4 l hl;have h1':l.length<=Rows.uptoBulk d1:=h1;refine⟨ae,λc hc=>?_⟩;have zh:c.pairs.length<=Rows.uptoBulk d1:=h2 c hc;omega
 clear hA0 Yo;simp only[List.append_nil]at qa;obtain⟨N,last,o,w',t',e1,e2,e3,e4⟩:=runs (kN:=kN) (wc:=wc) (tc:=tc) (hc:=hc) hL;refine⟨N,last,o,w',t',e1,e2,e3,Conc.Good.mono e4 λv hp=>?_⟩;obtain⟨rfl,hK⟩:=hp;have hsame:∀x:MemPlace,x.block<W.heap.size->W.sameAt w' x:=λx hx=>by
  cases x with
  |cell b o=>exact bP (w:=W) (hK.same b hx)
  |map b=>exact hK.same b hx
 have ado:∀x∈p0,x.block<W.heap.size:=λx hx=>DataW.trod_lt Yp _ _ _ U5 x hx;have uZ:∀x∈p1,x.block<W.heap.size:=λx hx=>DataW.trod_lt Ux _ _ _ hf1 x hx;have t0:DataW.Trod enc prog w' 0 (λb=>decide (b<W.heap.size)) true 22 (.slice fa zs.length kN) d0 p0:=WideElems.Trod_stays laid ax (of_decide_eq_true ax) ⟨Yp,U5⟩ (λx hx=>hsame x (ado x hx)) λx hx=>by simpa using ado x hx
 have t1:DataW.Trod enc prog w' 0 (λb=>decide (b<W.heap.size)) true 25 (.agg (aC wk tu ha cc.work.length wc cc.turns.length tc cc.halt.length hc un)) d1 p1:=WideElems.Trod_stays laid ax (of_decide_eq_true ax) ⟨Ux,hf1⟩ (λx hx=>hsame x (uZ x hx)) λx hx=>by simpa using uZ x hx
 exact⟨_,_,_,[],p0++(p1++[]),[],qa,trodAll_cons_mk (shut_bool underlying4 _) trodAll_mk0,trodAll_cons_mk t0 (trodAll_cons_mk t1 trodAll_mk0),rfl,hK.frame _,λh=>bY⟩
theorem over:Rows.jointSumsUptoRow.holds Tryz.pinned (Rows.OpenSpec.upto Rows.jointSumsSpec):=
 holds_leaving 4 f4 ⟨rfl,rfl,rfl⟩ ⟨rfl,rfl,rfl,rfl,⟨rfl,rfl,rfl,rfl,rfl⟩,rfl,rfl,rfl,rfl⟩ rfl ax func4 ax
  (of_decide_eq_true ax) (by unfold Func.isWrapper;first|(rw[if_pos (by decide+kernel)];kernel_rfl)|(rw[if_neg (by decide+kernel)];exact⟨rfl,rfl⟩))
  (λos started H enc F=>lifted os started H enc F)
theorem proved:Rows.JointSumsUptoSaid:=over
#print axioms proved
end jointSums
end
end Go.Proofs.YtfmibhmknlnoiaaGreat
