import Derived.Test.YtfmibhmknlnoiaaGreatQ02
import Derived.RangeFuncNested
import Derived.RangeFuncBound
import Derived.RangeFuncCalls
import Derived.RangeFuncLeaves
import Derived.RangeFuncBox
import Derived.Shelf.Abstract
import Derived.Shelf.RegionOpen
import Derived.OwnWalkIn
import Derived.TacticsInMore
import Derived.LoopNIn
import Derived.LoopIn
import Derived.Test.YtfmibhmknlnoiaaGreatQ00
import Derived.Lib.Hide
import Derived.BigQuiet
import Derived.Conc.LeavingOf
import Derived.JoinedCond
set_option linter.all false
set_option maxRecDepth 100000
set_option maxHeartbeats 4000000
namespace Go.Proofs.YtfmibhmknlnoiaaGreat
open _root_.Go.Proofs.Tryz
variable{ι σ α:Type}{c:bq}{x:AR σ}{xs:Array Operand}{ats:Array TypeId}{t:Array Value}{C:Checked}{b fr:Frame}{fn Q7:Func}{f:FuncId}{J:dA ι}{S:ba}{L:Lay σ}{cs fs:List Frame}{U:List Frame->Prop}{k:List Item}{m:Machine}{B N i j tm:Nat}{q:Nat->Nat}{ds:Nat->Option Nat}{oB:Nat->Prop}{vs:Nat->Value}{s:OpenSpec}{o:Oper}{P:Program}{T:Trace}{v:Value}{Post:Value->World->Prop}{a w':World}{Q Q':α->σ->Prop}{p7:ι}{I:σ->Prop}{R:σ->σ->Prop}
section
open Go.RowKit Go.Shelf
attribute [local go_sem] Oper.semAt_some
structure bR where
 c:Int
 o:Int
 n:Int
instance:Inhabited bR:=⟨⟨0,0,0⟩⟩
def iz:List bR->List Value
 |[]=>[]
 |e::r=>.int .i64 e.c:: .int .i64 e.o:: .int .i64 e.n::iz r
def su(e:bR):Value:=.agg #[.int .i64 e.c,.int .i64 e.o,.int .i64 e.n]
theorem Ca(l m:List bR):iz (l++m)=iz l++iz m:=by
 induction l with
 |nil=>rfl
 |cons e r ih=>simp[iz,ih]
theorem Ay(es:List bR):∀k,k<es.length->(iz es)[k*3]? =some (.int .i64 (es[k]!).c)/\(iz es)[k*3+1]? =some (.int .i64 (es[k]!).o)/\(iz es)[k*3+2]? =some (.int .i64 (es[k]!).n):=by
 induction es with
 |nil=>intro k hk;simp at hk
 |cons e r ih=>
  intro k hk;cases k with
  |zero=>simp[iz]
  |succ k=>have:=ih k (by simpa using hk);rw[show(k+1) *3=k*3+3 by omega];simpa[iz]using this
def dC(s o:Nat)(es:List bR)(w:World):Prop:=∀k,k<es.length->w.cell? ⟨s,o+k*3,none⟩=some (.int .i64 (es[k]!).c)/\w.cell? ⟨s,o+k*3+1,none⟩=some (.int .i64 (es[k]!).o)/\w.cell? ⟨s,o+k*3+2,none⟩=some (.int .i64 (es[k]!).n)
theorem dC.of_block{s o:Nat}{es:List bR}{w:World}(h:dC s o es w)(hb:w'.heap[s]? =w.heap[s]?):dC s o es w':=λk hk=>by have e:∀q,w'.cell? ⟨s,q,none⟩=w.cell? ⟨s,q,none⟩:=λq=>bP hb;rw[e,e,e];exact h k hk
theorem Lq(F:Fence)(n:Nat)(h7:F.fn 92)(hro:F.round=none)(hn:1<=n)(l Bs n₀ b off cap:Nat)(zs:List bR)(hlen:zs.length<=1000)(hb:b<n₀)(J Jx:List bR->World->Prop)
  (W:World)(hJa:AbidesFrom W.heap.size J)(acC:n₀<=W.heap.size)
  (hY:∀pre x W,J pre W->pre.length<zs.length->YieldAt F (n-1) prog l #[su x] W λe W'=>(e=.returned (.bool true)/\J (pre++[x]) W'/\Below n₀ W W')\/(e=.returned (.bool false)/\Jx (pre++[x]) W'))
  (hBs:W.cell? ⟨Bs,0,none⟩=some (.slice (some ⟨b,off,none⟩) zs.length cap))(hc:dC b off zs W)(h0:J [] W):
  CallsIn F n prog 92 #[.func (.yield l) #[] #[],.pointer (some ⟨Bs,0,none⟩)] W λe W'=>(∃v,e=.returned v)/\
   ((∃ys,ys=zs/\J ys W')\/(∃pre,pre <+: zs/\Jx pre W')):=by
 have Hc:=ai hc;have HJa:=ai hJa;clear hc hJa;refine callsIn_of_wp func92 rfl h7 ?_ hro;simp only[ntmps92,jC,ew,fS,Nat.reduceAdd,Nat.reduceSub,Array.replicate_succ,Array.replicate_zero,List.push_toArray,List.append_toArray,kR,jc]
 gi_wp2
 gi_loopw [7] (λi wr=>∃k:Nat,k<=zs.length/\i=.int .i64 k/\J (zs.take k) wr/\Below n₀ W wr/\W.heap.size<=wr.heap.size)
  (λi _=>zs.length- (intOf i).toNat)
 case atStart=>exact⟨0,bj _,rfl,h0,iF _ _,aY _⟩
 case round=>
  obtain⟨k,hk,rfl,hJs,UG,hsz⟩:=hrel;by_cases hlt:k<zs.length
  ·obtain⟨c1,c2,c3⟩:=Hc.out k hlt;have c1:=(UG.cell (p:=⟨b,off+k*3,none⟩) hb).trans c1;have c2:=(UG.cell (p:=⟨b,off+k*3+1,none⟩) hb).trans c2;have c3:=(UG.cell (p:=⟨b,off+k*3+2,none⟩) hb).trans c3;have hJ1:=HJa.out (zs.take k) wr _ none hJs (World.grownBy_alloc wr (.cells #[.int .i64 (zs[k]!).c,.int .i64 (zs[k]!).o,.int .i64 (zs[k]!).n] 65) none) (λr e=>by cases e);have hY1:=hY _ (zs[k]!) _ hJ1 (by rw[List.length_take];omega);have XO:zs.take (k+1)=zs.take k++[zs[k]!]:=(by rw[G6 hlt];simp[hlt]);generalize hx:zs[k]! =x at*;obtain⟨xc,xo,xn⟩:=x;have HY:=ai hY1;have Hs:=ai XO;clear hY1 hJ1 XO hx;dsimp only at c1 c2 c3;obtain⟨fn,tmps,assign,body,hy,hR⟩:=HY.out;dsimp only[su]at hy
   gi_wp2
   refine hR.mono ?_;rintro e W3 (⟨rfl,hJ3,hk3⟩|⟨rfl,aeu⟩)
   ·have hs3:=hk3.size;rw[bI]at hs3;have hb3:Below n₀ W W3:=(UG.alloc ae _).trans hk3;have hJ4:J (zs.take (k+1)) W3:=(by rw[Hs.out];exact hJ3);clear hJ3 hk3 hJs
    gi_wp2
    go_roundw
    case rel=>exact⟨k+1,ae,au,hJ4,hb3,ae⟩
    case measure=>simp[intOf];omega
   ·gi_wp2
    refine bodyPost_ret (results_none rfl _ _ _) rfl ?_;exact⟨⟨_,rfl⟩,.inr ⟨_,by rw[←Hs.out];exact List.take_prefix _ _,aeu⟩⟩
  ·obtain rfl:k=zs.length:=ae
   gi_wp2
   go_end0
   rw[List.take_length]at hJs;exact⟨⟨_,rfl⟩,.inl ⟨_,rfl,hJs⟩⟩
theorem values_stops(F:Fence)(n:Nat)(h7:F.fn 92)(hro:F.round=none)(hn:1<=n)(Bs n₀ b off cap:Nat)(zs:List bR)(hlen:zs.length<=1000)(w:World)(hBs:Bs<w.heap.size)(acC:n₀<=w.heap.size)(hb:b<n₀)
  (hc:w.cell? ⟨Bs,0,none⟩=some (.slice (some ⟨b,off,none⟩) zs.length cap))(hI:dC b off zs w):
  SeqStopsK F n prog 92 #[.pointer (some ⟨Bs,0,none⟩)] (λx:bR=> #[su x]) (Below n₀) (λys=>ys=zs) (λpre=>pre <+: zs) zs.length w:=λl J Jx W hW hJ _ hY h0=>by
 have hc':=(hW.cell (p:=⟨Bs,0,none⟩) hBs).trans hc;exact Lq F n h7 hro hn l Bs n₀ b off cap zs hlen hb J Jx W hJ (by have:=hW.size;omega) hY hc' (hI.of_block (hW.block b ae)) h0
theorem aab:(prog.info? 65).map (λi=>(i.zero,i.size,i.bytes))=some (some (.agg #[.int .i64 0,.int .i64 0,.int .i64 0]),3,24):=ax
def SeqI(n₀ Bs:Nat)(w:World)(pre:List bR)(W:World):Prop:=(∃v,Boxed W Bs 66 v/\W.ownsRow n₀ 65 3 v pre.length (iz pre))/\Below n₀ w W
theorem seqI_own(n₀ Bs B:Nat)(w:World)(hB:n₀<=B)(hw:n₀<=w.heap.size):OwnFrom B (SeqI n₀ Bs w):=λpre W W' row ⟨⟨v,hb,ho⟩,dx⟩ hg hr=>by
 refine⟨⟨v,hb.kept hg (λe=>?_),ho.kept hg ?_⟩,dx.grown hg (by have:=dx.size;omega) (λk e=>by have:=(hr k e).1;omega)⟩
 ·obtain⟨_,o,h1,h2⟩:=hr Bs e.symm;rw[show W.heap[Bs]? =_ from hb]at h1;cases h1;cases h2
 ·rcases ho.2 with⟨rfl,_⟩|⟨g,cap,cur,rfl,_,hgb,_⟩
  ·exact .inl rfl
  ·refine .inr (λe=>?_);obtain⟨_,o,h1,h2⟩:=hr g e.symm;rw[hgb]at h1;cases h1;cases h2
def LoopVar(sq:Value)(Bs:Nat)(x:bR)(a':Act)(W:World):Prop:=
 ∃Bx,Bs<Bx/\W.heap[Bx]? =some (.cells #[.int .i64 x.c,.int .i64 x.o,.int .i64 x.n] 65 (0,0))/\
  a'={tmps:=#[.slice none 0 0,sq,.pointer (some ⟨Bs,0,none⟩),undef,.slice none 0 0,.pointer (some ⟨Bx,0,none⟩),sq,su x,undef,undef,undef,undef,undef],defers:=[]}
theorem loopVar_own(sq:Value)(Bs B:Nat)(x:bR)(a':Act):OwnFrom B (λ(_:Unit) W=>LoopVar sq Bs x a' W):=λ_ W W' row ⟨Bx,h1,h2,h3⟩ hg hr=>by
 refine⟨Bx,h1,?_,h3⟩;rw[hg.block Bx (aQ.1 h2).1 (λe=>?_)]
 ·exact h2
 ·obtain⟨_,o,k1,k2⟩:=hr Bx e.symm;rw[h2]at k1;cases k1;cases k2
def Th(n₀:Nat)(es:List bR)(w:World)(e:Ending)(w':World):Prop:=∃v,e=.returned v/\w'.ownsRow n₀ 65 3 v es.length (iz es)/\Below n₀ w w'
theorem appendSeq_in(F:Fence)(n:Nat)(h50:F.fn 92)(h64:F.fn 136)(hro:F.round=none)(hn:4<=n)(Bv b off cap:Nat)(es:List bR)(hlen:es.length<=1000)(w:World)
  (hc:w.cell? ⟨Bv,0,none⟩=some (.slice (some ⟨b,off,none⟩) es.length cap))(hI:dC b off es w)(hbl:b<w.heap.size):
  CallsIn F n prog 136 #[.slice none 0 0,.func (.func 92) #[] #[.pointer (some ⟨Bv,0,none⟩)]] w (Th w.heap.size es w):=by
 have h1:1<=n:=ae;have hBv:=dw w _ hc;dsimp only at hBv;obtain⟨ie,Ea,Kj,Kk,Kl⟩:=info_parts aab;refine callsIn_of_wp_marks func136 rfl h64 ?_ hro;simp only[ntmps136,jC,ew,fS,Nat.reduceAdd,Nat.reduceSub,Array.replicate_succ,Array.replicate_zero,List.push_toArray,List.append_toArray,kR,jc]
 gi_wp2
 have bB:=Boxed.new w 66 (.slice none 0 0);have hB0:Below w.heap.size w (w.alloc (.cells #[.slice none 0 0] 66)):=(iF _ w).alloc (aY _) _;have hsz:(w.alloc (.cells #[.slice none 0 0] 66)).heap.size=w.heap.size+1:=au;have hc':(w.alloc (.cells #[.slice none 0 0] 66)).cell? ⟨Bv,0,none⟩=some (.slice (some ⟨b,off,none⟩) es.length cap):=(qf w _ _ hBv).trans hc;have hI':dC b off es (w.alloc (.cells #[.slice none 0 0] 66)):=hI.of_block (eh _ _ _ hbl);obtain⟨W0,hW0⟩:∃W0,w.alloc (.cells #[.slice none 0 0] 66)=W0:=⟨_,rfl⟩;rw[hW0]at bB hB0 hsz hc' hI'⊢;clear hW0 hc hI;refine wpIn_rangeFunc_ownH hro h1 (gf:=92) (lb:=#[.pointer (some ⟨Bv,0,none⟩)]) rfl h50 (enters_of func92 ax rfl)
  (values_stops F (n-1) h50 hro ae Bv w.heap.size b off cap es hlen W0 ae ae hbl hc' hI') belowK_t (belowK_b ae) (iF _ _) (λ_=>rfl)
  (SeqI w.heap.size w.heap.size w)
  (λ_ _ _=>False)
  (seqI_own _ _ _ _ ae (aY _))
  (λ_ _ _ _ _ hs _ _=>hs)
  ⟨⟨_,bB,oK _ _ _ _⟩,hB0⟩
  (LoopVar (.func (.func 92) #[] #[.pointer (some ⟨Bv,0,none⟩)]) w.heap.size)
  (loopVar_own _ _ _)
  ?assign ?body ?done ?stop
 case assign=>
  rintro l pre x W K hi hK;have hBW:=hi.2.size;have hlt:=hi.1.choose_spec.1.lt;dsimp only[su]
  gi_wp2
  exact hK _ _ ((KeepsOthers.alloc _ _).from _) ((iF _ W).alloc hBW _) ((seqI_own _ _ W0.heap.size w ae (aY _)).alloc _ hi) ⟨W.heap.size,hlt,World.alloc_heap_new W _,rfl⟩
 case body=>
  rintro l pre x a' W hl ⟨r,hr⟩ ⟨⟨v,hv,hrow⟩,dx⟩ ⟨Bx,hBx,bX,rfl⟩ hlt;have hc1:=hv.cell;have hf1:=hv.frozen;have hBW:=dx.size;have x0:W.cell? ⟨Bx,0,none⟩=some (.int .i64 x.c):=by simp[World.cell?,bX]
  have x1:W.cell? ⟨Bx,1,none⟩=some (.int .i64 x.o):=by simp[World.cell?,bX]
  have x2:W.cell? ⟨Bx,2,none⟩=some (.int .i64 x.n):=by simp[World.cell?,bX]
  have XI:=hv.lt;obtain⟨xc,xo,xn⟩:=x;dsimp only at x0 x1 x2;dsimp only[su];have Ti:∀o,(W.alloc o).cell? ⟨w.heap.size,0,none⟩=some v:=λo=>(qf W o _ XI).trans hc1;have yD:=ai hrow;have Hv:=ai hv;have jq:=ai dx;clear hr hv dx hrow bX
  gi_wp2_with (gi_at_builtin;refine wpListIn_append_own _ rfl (.tmp 8) (.tmp 10) 66 rfl w.heap.size 65 ie _ 3 24 underlying66 Ea Kj Kk Kl rfl az v pre.length (iz pre) rfl (yD.out.alloc _) ⟨W.heap.size,0,none⟩ 1 1 [.int .i64 xc,.int .i64 xo,.int .i64 xn] rfl rfl (pR (cs:=#[.int .i64 xc,.int .i64 xo,.int .i64 xn]) (t:=65) (fr:=(0,0)) (heap_alloc_new W _)) qP iw ae bV ?_;intro v' w1 hown' hgrow _;obtain⟨g',cap',rfl⟩:=ownsRow_succ hown';obtain⟨hv1,hv2,hr2,hk2,hb2⟩:=Hv.out.appended az yD.out hBW (aY _) hown' hgrow;have NN:=hv1.cell;have VW:=hv1.frozen)
  refine⟨hk2.from _,hb2,⟨_,hv2,?_⟩,jq.out.trans hb2⟩;rw[Ca];simpa[iz]using hr2
 case done=>
  rintro D ys W hD rfl ⟨⟨v,hv,hrow⟩,dx⟩ hK;have hc1:=hv.cell
  gi_wp2
  refine⟨au,.inl ⟨_,_,rfl,run_takeDeferred hK,?_⟩⟩;refine⟨_,Go.results_tmp rfl _ _ _,_,rfl,ownsRow_putObj hrow _ hK rfl,dx.trans (belowK_b (w:=w) (aY _) W D _ _ ae hK rfl rfl)⟩
 case stop=>rintro D c pre W _ _ h _;exact h.elim
end
section
open Go.RowKit
attribute [local go_sem ↓] Go.wp_at_zero Go.wp_at_succ
theorem xh(x:Int)(w:World):Calls prog 93 #[.int .i64 x] w λe w'=>e=.returned (.bool false)/\w=w':=by
 go_enter func93,ntmps93
 go_wp2;go_ret
 exact⟨rfl,rfl⟩
def Cb(a b:Int):Int:=if a<b then -1 else if b<a then 1 else 0
theorem G7(a b:Int)(w:World):Calls prog 52 #[.int .i64 a,.int .i64 b] w λe w'=>e=.returned (.int .i64 (Cb a b))/\w=w':=by
 by_cases h1:a<b
 ·have e:Cb a b= -1:=by unfold Cb;rw[if_pos h1]
  rw[e];clear e;have hd:decide (a<b)=true:=kO;go_enter func52,ntmps52
  go_wp2_with (first|(go_at_call 93;((with_reducible refine(xh _ _).mono ?_);rintro e w' ⟨rfl,rfl⟩)))
  go_ret
  exact⟨rfl,rfl⟩
 ·by_cases h2:b<a
  ·have e:Cb a b=1:=(by unfold Cb;rw[if_neg h1,if_pos h2]);rw[e];clear e;have hd:decide (a<b)=false:=kO;have Ct:decide (b<a)=true:=qT;go_enter func52,ntmps52
   go_wp2_with (first|(go_at_call 93;((with_reducible refine(xh _ _).mono ?_);rintro e w' ⟨rfl,rfl⟩)))
   go_ret
   exact⟨rfl,rfl⟩
  ·have e:Cb a b=0:=(by unfold Cb;rw[if_neg h1,if_neg h2]);rw[e];clear e;have hd:decide (a<b)=false:=kO;have Ct:decide (b<a)=false:=qT;go_enter func52,ntmps52
   go_wp2_with (first|(go_at_call 93;((with_reducible refine(xh _ _).mono ?_);rintro e w' ⟨rfl,rfl⟩)))
   go_ret
   exact⟨rfl,rfl⟩
def C7(x y:bR)(w:World):World:=(w.alloc (.cells #[.int .i64 x.c,.int .i64 x.o,.int .i64 x.n] 65)).alloc (.cells #[.int .i64 y.c,.int .i64 y.o,.int .i64 y.n] 65)
theorem G8(x y:bR)(w:World):Calls prog 51 #[su x,su y] w λe w'=>e=.returned (.int .i64 (Cb x.c y.c))/\C7 x y w=w':=by
 unfold su C7;go_enter func51,ntmps51
 go_wp2_with (first|(go_at_call 52;((with_reducible refine(G7 _ _ _).mono ?_);rintro e w' ⟨rfl,rfl⟩)))
 go_ret
 exact⟨rfl,rfl⟩
theorem Wl(cap:Array Value):∀w,(callFunc 51 cap).run prog w=.ok (.enter 51 cap) w:=λw=>ax
structure uf(g:Nat)(es:List bR)(w:World):Prop where
 ent:dC g 0 es w
 frz:∀i,i<es.length*3->w.frozen? ⟨g,i,none⟩=false
theorem uf.of_block{g:Nat}{es:List bR}{w:World}(h:uf g es w)(hb:w'.heap[g]? =w.heap[g]?):uf g es w':=⟨h.ent.of_block hb,λi hi=>(World.frozen?_of_block (w:=w) hb).trans (h.frz i hi)⟩
theorem uf.lt{g:Nat}{es:List bR}{w:World}(h:uf g es w)(hn:0<es.length):g<w.heap.size:=dw w _ (h.ent 0 hn).1
def xi(g i:Nat)(x:bR)(w:World):World:=((w.setCell ⟨g,i*3,none⟩ (.int .i64 x.c)).setCell ⟨g,i*3+1,none⟩ (.int .i64 x.o)).setCell ⟨g,i*3+2,none⟩ (.int .i64 x.n)
theorem py (es:List bR)(i k:Nat)(x:bR)(hi:i<es.length):(es.set i x)[k]! =if i=k then x else es[k]! :=by
 simp only[List.getElem!_eq_getElem?_getD,List.getElem?_set];split
 ·subst_vars;simp[hi]
 ·rfl
theorem uf.put{g:Nat}{es:List bR}{w:World}{x:bR}(h:uf g es w)(hi:i<es.length):uf g (es.set i x) (xi g i x w):=by
 have ne:∀p q:Nat,p≠q->(⟨g,p,none⟩:Addr)≠⟨g,q,none⟩:=λp q hpq e=>hpq (by cases e;rfl);refine⟨λk hk=>?_,λj hj=>?_⟩
 ·rw[List.length_set]at hk;obtain⟨a,b,c⟩:=h.ent k hk;obtain⟨a',b',c'⟩:=h.ent i hi;simp only[cM]at a b c a' b' c'⊢;rw[py _ _ _ _ hi];unfold xi;by_cases e:i=k
  ·subst e;rw[if_pos rfl];refine⟨?_,?_,?_⟩
   ·rw[lK _ _ _ _ (ne _ _ ae),lK _ _ _ _ (ne _ _ ae)];exact World.cell?_setCell_same _ _ _ a
   ·rw[lK _ _ _ _ (ne _ _ ae)];exact World.cell?_setCell_same _ _ _ ((lK _ _ _ _ (ne _ _ ae)).trans b)
   ·exact World.cell?_setCell_same _ _ _ ((lK _ _ _ _ (ne _ _ ae)).trans ((lK _ _ _ _ (ne _ _ ae)).trans c))
  ·rw[if_neg e];refine⟨?_,?_,?_⟩ <;>rw[lK _ _ _ _ (ne _ _ ae),lK _ _ _ _ (ne _ _ ae),lK _ _ _ _ (ne _ _ ae)] <;>assumption
 ·rw[List.length_set]at hj;unfold xi;rw[y7,y7,y7];exact h.frz j hj
theorem Keep.xi{g:Nat}{x:bR}{w:World}(h:Keep (· =g) B a w):Keep (· =g) B a (xi g i x w):=((h.setCell (.inl rfl) _).setCell (.inl rfl) _).setCell (.inl rfl) _
def key(es:List bR)(p:Nat):Int:=(es[p]!).c
def jr(es:List bR)(a b:Nat):Prop:=∀p q,a<=p->p<q->q<b->key es p<=key es q
def pz(es es':List bR)(a b:Nat):Prop:=es'.length=es.length/\∀p,(p<a\/b<=p)->es'[p]! =es[p]!
def mZ(es:List bR)(j:Nat):List bR:=(es.set (j+1) (es[j]!)).set j (es[j+1]!)
theorem EE(es:List bR)(j:Nat):(mZ es j).length=es.length:=by simp[mZ]
theorem rU(es:List bR)(j p:Nat)(hj:j+1<es.length):(mZ es j)[p]! =if p=j then es[j+1]! else if p=j+1 then es[j]! else es[p]! :=by
 rw[mZ,py _ _ _ _ bV,py _ _ _ _ hj];by_cases e:p=j
 ·subst e;rw[if_pos rfl,if_pos rfl]
 ·rw[if_neg (bp e),if_neg e];by_cases e2:p=j+1
  ·subst e2;simp
  ·rw[if_neg (bp e2),if_neg e2]
theorem Lr(es:List bR)(j:Nat)(hj:j+1<es.length):(mZ es j).Perm es:=by
 have h1:es[j]! =es[j]:=by simp[show j<es.length by omega]
 have h2:es[j+1]! =es[j+1]:=by simp[hj]
 unfold mZ;rw[h1,h2];exact List.set_set_perm ae ae
def Az(es:List bR)(a i j:Nat):Prop:=∀p q,a<=p->p<q->q<=i->q≠j->key es p<=key es q
theorem EF{es:List bR}{a:Nat}(h:jr es a i):Az es a i i:=λp q h1 h2 h3 h4=>h p q h1 h2 ae
theorem C8(es:List bR)(j:Nat)(hj:j+1<es.length):key (mZ es j) j=key es (j+1):=by unfold key;rw[rU _ _ _ hj,if_pos rfl]
theorem C9(es:List bR)(j:Nat)(hj:j+1<es.length):key (mZ es j) (j+1)=key es j:=by unfold key;rw[rU _ _ _ hj,if_neg ae,if_pos rfl]
theorem xj(es:List bR)(j p:Nat)(hj:j+1<es.length)(h1:p≠j)(h2:p≠j+1):key (mZ es j) p=key es p:=by unfold key;rw[rU _ _ _ hj,if_neg h1,if_neg h2]
theorem G9{es:List bR}{a:Nat}(h:Az es a i (j+1))(hj:a<=j)(E0:j+1<=i)(hi:i<es.length)(hlt:key es (j+1) <key es j):Az (mZ es j) a i j:=by
 intro p q h1 h2 h3 h4;have hl:j+1<es.length:=ae;by_cases hq:q=j+1
 ·subst hq;rw[C9 _ _ hl];by_cases hp:p=j
  ·subst hp;rw[C8 _ _ hl];omega
  ·rw[xj _ _ _ hl hp ae];exact h p j h1 ae ae ae
 ·rw[xj _ _ _ hl h4 hq];by_cases hp:p=j
  ·subst hp;rw[C8 _ _ hl];exact h (p+1) q ae ae h3 hq
  ·by_cases uq:p=j+1
   ·subst uq;rw[C9 _ _ hl];exact h j q hj ae h3 hq
   ·rw[xj _ _ _ hl hp uq];exact h p q h1 h2 h3 hq
theorem AA{es:List bR}{a:Nat}(h:Az es a i j)(hj:j=a\/∃m,j=m+1/\a<=m/\key es m<=key es j):jr es a (i+1):=by
 intro p q h1 h2 h3;by_cases hq:q=j
 ·subst hq;rcases hj with rfl|⟨m,rfl,hm,hk⟩
  ·omega
  ·by_cases hp:p=m
   ·subst hp;exact hk
   ·have:=h p m h1 ae ae ae;omega
 ·exact h p q h1 h2 ae hq
structure Part(g a b:Nat)(es:List bR)(w:World)(es':List bR)(w':World):Prop where
 row:uf g es' w'
 perm:es'.Perm es
 same:pz es es' a b
 keep:Keep (· =g) w.heap.size w w'
theorem pz.refl(es:List bR)(a b:Nat):pz es es a b:=⟨rfl,λ_ _=>rfl⟩
theorem pz.swap{es es':List bR}{a b:Nat}(h:pz es es' a b)(hj:a<=j)(hb:j+1<b)(hl:b<=es.length):pz es (mZ es' j) a b:=⟨by rw[EE];exact h.1,λp hp=>by rw[rU _ _ _ (by rw[h.1];omega),if_neg ae,if_neg ae];exact h.2 p hp⟩
def Ls(g a b:Nat)(es:List bR)(w:World)(e:Ending)(w':World):Prop:=e=.returned (.tuple #[])/\∃es',Part g a b es w es' w'/\jr es' a b
theorem Cc(g cap a b:Nat)(es:List bR)(w:World)(h:uf g es w)(hab:a<=b)(hb:b<=es.length)(hl:es.length<=1000)(hg:g<w.heap.size):
  Calls prog 156 #[.slice (some ⟨g,0,none⟩) es.length cap,.int .i64 a,.int .i64 b,.func (.func 51) #[] #[]] w (Ls g a b es w):=by
 have H:=ai h;have hcall:=Wl;clear h;go_enter func156,ntmps156
 go_wp2;go_loopw [8] (λi wr=>∃k es',i=.int .i64 ((k:Nat):Int)/\a+1<=k/\(k<=b\/k=a+1)/\Part g a b es w es' wr/\jr es' a k) (λi _=>b- (intOf i).toNat)
 case atStart=>exact⟨a+1,es,gl,aY _,.inr rfl,⟨H.out,List.Perm.refl _,pz.refl _ _ _,Keep.refl _ _ _⟩,λp q h1 h2 h3=>ae⟩
 case round=>
  obtain⟨k,es',rfl,hka,hkb,Tj,Da⟩:=hrel;by_cases hlt:k<b
  ·obtain⟨wo,rfl⟩:∃wo:World,wo=wr:=⟨_,rfl⟩;have Hp:=ai Tj;have Hs:=ai Da;clear Tj Da;go_wp2;go_loopw [9] (λjv wi=>∃j M9,jv=.int .i64 ((j:Nat):Int)/\a<=j/\j<=k/\Part g a b es w M9 wi/\Az M9 a k j) (λj _=>(intOf j).toNat)
   case atStart=>exact⟨k,es',rfl,ae,aY _,Hp.out,EF Hs.out⟩
   case round=>
    clear Hp Hs;obtain⟨j,M9,rfl,hja,hjk,uq,Xf⟩:=hrel;have hl2:=uq.same.1;by_cases hj:a<j
    ·obtain⟨m,rfl⟩:∃m,j=m+1:=⟨j-1,ae⟩;obtain⟨x0,x1,x2⟩:=uq.row.ent (m+1) ae;obtain⟨y0,y1,y2⟩:=uq.row.ent m ae;simp only[cM]at x0 x1 x2 y0 y1 y2;generalize hx:M9[m+1]! =x at*;generalize hy:M9[m]! =y at*;obtain⟨xc,xo,xn⟩:=x;obtain⟨yc,yo,yn⟩:=y;dsimp only at x0 x1 x2 y0 y1 y2;have Hx:=ai hx;have Hy:=ai hy;have Db:=ai uq;have Hn2:=ai Xf;have Qy:=ai hl2;clear hx hy uq Xf hl2;have hd:decide ((a:Int) < (m:Int) +1)=true:=bV;have b0:(0:Int)<=(m:Int):=ae;have b2:(0:Int)<=(m:Int) +1:=ae;have b1:(m:Int) +1< (es.length:Int):=ae;have b3:(m:Int) < (es.length:Int):=ae;have hwm:IntKind.i64.wrap (m:Int)=m:=(by rw[dR];omega);have hgi:g<wr.heap.size:=(by have:=Db.out.keep.size;omega);go_wp2_with fail
     by_cases Mv:xc<yc;all_goals
      have hcm:decide (Cb xc yc<0)=decide (xc<yc):=by
       unfold Cb;by_cases h1:xc<yc
       ·rw[if_pos h1];simp[h1]
       ·rw[if_neg h1];by_cases h2:yc<xc
        ·rw[if_pos h2];simp[h1];
        ·rw[if_neg h2];simp[h1]
     ·have aac:decide (xc<yc)=true:=(by simpa using Mv);rw[aac]at hcm;refine aL.start (λw'=>w'.cell? ⟨g,(m+1) *3,none⟩=some (.int .i64 xc)/\w'.cell? ⟨g,(m+1) *3+1,none⟩=some (.int .i64 xo)/\w'.cell? ⟨g,(m+1) *3+2,none⟩=some (.int .i64 xn)/\w'.cell? ⟨g,m*3,none⟩=some (.int .i64 yc)/\w'.cell? ⟨g,m*3+1,none⟩=some (.int .i64 yo)/\w'.cell? ⟨g,m*3+2,none⟩=some (.int .i64 yn)) [14] ax ?_ (λhHeld=>?_)
      ·first|exact kY|((try dsimp only);exact⟨x0,x1,x2,y0,y1,y2⟩)
      refine aL.tv 0 hHeld ?_;refine aL.tv 1 hHeld ?_;refine aL.tv 2 hHeld ?_;refine aL.tv 3 hHeld ?_;refine aL.tv 4 hHeld ?_;refine aL.tv 5 hHeld ?_;refine aL.tv 6 hHeld ?_;refine aL.tv 7 hHeld ?_;refine aL.tt 8 hHeld ?_;refine aL.tv 9 hHeld ?_;refine aL.tv 10 hHeld ?_;refine aL.tv 11 hHeld ?_;refine aL.tv 12 hHeld ?_;refine aL.tt 13 hHeld ?_;refine aL.to 14 (λK hK=>?_)
      (go_simp;refine(G8 ⟨xc,xo,xn⟩ ⟨yc,yo,yn⟩ _).mono ?_;rintro e w4 ⟨rfl,hw4⟩;have Hw4:=ai hw4;clear hw4;dsimp only)
      refine hK.out _ _ (λhF=>absurd hF az) (λ_=>?_);clear hK K;try refine pt ?_
      refine aL.Af (i:=15) (v:=?aa4) rfl ax ax ax ax (λ_ _ _ h=>h) (Or.inl ⟨bF,?Pj⟩) (λhF=>absurd hF az) ?aa5;case Pj=>(intro wS hSw;(try dsimp only at hSw);go_simp;all_goals with_reducible rfl)
      try refine pt ?_
      refine aL.Af (i:=16) (v:=?aa6) rfl ax ax ax ax (λ_ _ _ h=>h) (Or.inl ⟨bF,?Pk⟩) (λhF=>absurd hF az) ?aa7;case Pk=>(intro wS hSw;(try dsimp only at hSw);go_simp;all_goals with_reducible rfl)
      try refine pt ?_
      refine aL.done ax ?_ _;go_wp2;have e4:w4.heap[g]? =wr.heap[g]? :=(by rw[←Hw4.out];unfold C7;rw[eh _ _ _ bV,eh _ _ _ bV];rfl);have Ce:=Db.out.row.of_block e4;have XP:Keep (· =g) w.heap.size w w4:=(by rw[←Hw4.out];unfold C7;have hz:=Db.out.keep.size;exact(Db.out.keep.drew.alloc bV _).alloc bV _);obtain⟨x0',x1',x2'⟩:=Ce.ent (m+1) (by rw[Qy.out];omega);obtain⟨y0',y1',y2'⟩:=Ce.ent m (by rw[Qy.out];omega);rw[Hx.out]at x0' x1' x2';rw[Hy.out]at y0' y1' y2';simp only[cM]at x0' x1' x2' y0' y1' y2';have f0:=Ce.frz ((m+1) *3) (by rw[Qy.out];omega);have f1:=Ce.frz ((m+1) *3+1) (by rw[Qy.out];omega);have f2:=Ce.frz ((m+1) *3+2) (by rw[Qy.out];omega);have f3:=Ce.frz (m*3) (by rw[Qy.out];omega);have f4:=Ce.frz (m*3+1) (by rw[Qy.out];omega);have f5:=Ce.frz (m*3+2) (by rw[Qy.out];omega);have acD:=ai Ce;have aad:=ai XP;clear Ce XP e4 x0 x1 x2 y0 y1 y2 hcm hHeld;refine aL.start (λw'=>w'.cell? ⟨g,(m+1) *3,none⟩=some (.int .i64 xc)/\w'.cell? ⟨g,(m+1) *3+1,none⟩=some (.int .i64 xo)/\w'.cell? ⟨g,(m+1) *3+2,none⟩=some (.int .i64 xn)/\w'.cell? ⟨g,m*3,none⟩=some (.int .i64 yc)/\w'.cell? ⟨g,m*3+1,none⟩=some (.int .i64 yo)/\w'.cell? ⟨g,m*3+2,none⟩=some (.int .i64 yn)) [15,17] ax ?_ (λhHeld=>?_)
      ·first|exact kY|((try dsimp only);exact⟨x0',x1',x2',y0',y1',y2'⟩)
      refine aL.tv 0 hHeld ?_;refine aL.tv 1 hHeld ?_;refine aL.tv 2 hHeld ?_;refine aL.tv 3 hHeld ?_;refine aL.tv 4 hHeld ?_;refine aL.tv 5 hHeld ?_;refine aL.tv 6 hHeld ?_;refine aL.tv 7 hHeld ?_;refine aL.tv 8 hHeld ?_;refine aL.tt 9 hHeld ?_;refine aL.tv 10 hHeld ?_;refine aL.tv 11 hHeld ?_;refine aL.tv 12 hHeld ?_;refine aL.tt 13 hHeld ?_;refine aL.tv 14 hHeld ?_;refine aL.to 15 (λK hK=>?_);go_simp;refine hK.out _ _ (λhF=>absurd hF az) (λ_=>?_);clear hK K;try refine pt ?_
      refine aL.Af (i:=16) (v:=?aa8) rfl ax ax ax ax (λ_ _ _ h=>h) (Or.inl ⟨bF,?Pm⟩) (λhF=>absurd hF az) ?aa9;case Pm=>(intro wS hSw;(try dsimp only at hSw);go_simp;all_goals with_reducible rfl)
      try refine pt ?_
      refine aL.to 17 (λK hK=>?_);go_simp;refine hK.out _ _ (λhF=>absurd hF az) (λ_=>?_);clear hK K;try refine pt ?_
      refine aL.done ax ?_ _;go_wp2;go_roundw
      case rel=>
       have hlx:(M9[m+1]!)=⟨xc,xo,xn⟩:=Hx.out;have hly:(M9[m]!)=⟨yc,yo,yn⟩:=Hy.out;have hsw:mZ M9 m=(M9.set (m+1) ⟨yc,yo,yn⟩).set m ⟨xc,xo,xn⟩:=(by unfold mZ;rw[hlx,hly]);have hl2:=Qy.out;refine⟨m,mZ M9 m,rfl,ae,ae,⟨?_,(Lr _ _ ae).trans Db.out.perm,Db.out.same.swap ae ae hb,?_⟩,G9 Hn2.out ae ae ae (by unfold key;rw[hlx,hly];exact Mv)⟩
       ·rw[hsw];have h1:=acD.out.put (i:=m+1) (x:=⟨yc,yo,yn⟩) ae;have h2:=h1.put (i:=m) (x:=⟨xc,xo,xn⟩) (by rw[List.length_set];omega);show uf g _ (World.drew (xi g m ⟨xc,xo,xn⟩ (xi g (m+1) ⟨yc,yo,yn⟩ w4)));generalize xi g m ⟨xc,xo,xn⟩ (xi g (m+1) ⟨yc,yo,yn⟩ w4)=w5 at h2⊢;exact h2.of_block rfl
       ·have k5:=(aad.out.xi (i:=m+1) (x:=⟨yc,yo,yn⟩)).xi (i:=m) (x:=⟨xc,xo,xn⟩);show Keep _ _ _ (World.drew (xi g m ⟨xc,xo,xn⟩ (xi g (m+1) ⟨yc,yo,yn⟩ w4)));exact k5.drew
      case measure=>simp[intOf]
     ·have aac:decide (xc<yc)=false:=(by simpa using Mv);rw[aac]at hcm;refine aL.start (λw'=>w'.cell? ⟨g,(m+1) *3,none⟩=some (.int .i64 xc)/\w'.cell? ⟨g,(m+1) *3+1,none⟩=some (.int .i64 xo)/\w'.cell? ⟨g,(m+1) *3+2,none⟩=some (.int .i64 xn)/\w'.cell? ⟨g,m*3,none⟩=some (.int .i64 yc)/\w'.cell? ⟨g,m*3+1,none⟩=some (.int .i64 yo)/\w'.cell? ⟨g,m*3+2,none⟩=some (.int .i64 yn)) [14] ax ?_ (λhHeld=>?_)
      ·first|exact kY|((try dsimp only);exact⟨x0,x1,x2,y0,y1,y2⟩)
      refine aL.tv 0 hHeld ?_;refine aL.tv 1 hHeld ?_;refine aL.tv 2 hHeld ?_;refine aL.tv 3 hHeld ?_;refine aL.tv 4 hHeld ?_;refine aL.tv 5 hHeld ?_;refine aL.tv 6 hHeld ?_;refine aL.tv 7 hHeld ?_;refine aL.tt 8 hHeld ?_;refine aL.tv 9 hHeld ?_;refine aL.tv 10 hHeld ?_;refine aL.tv 11 hHeld ?_;refine aL.tv 12 hHeld ?_;refine aL.tt 13 hHeld ?_;refine aL.to 14 (λK hK=>?_)
      (go_simp;refine(G8 ⟨xc,xo,xn⟩ ⟨yc,yo,yn⟩ _).mono ?_;rintro e w4 ⟨rfl,hw4⟩;have Hw4:=ai hw4;clear hw4;dsimp only)
      refine hK.out _ _ (λhF=>absurd hF az) (λ_=>?_);clear hK K;try refine pt ?_
      refine aL.Af (i:=15) (v:=?afr) rfl ax ax ax ax (λ_ _ _ h=>h) (Or.inl ⟨bF,?acE⟩) (λhF=>absurd hF az) ?afs;case acE=>(intro wS hSw;(try dsimp only at hSw);go_simp;all_goals with_reducible rfl)
      try refine pt ?_
      refine aL.Af (i:=16) (v:=?aft) rfl ax ax ax ax (λ_ _ _ h=>h) (Or.inl ⟨bF,?acF⟩) (λhF=>absurd hF az) ?afu;case acF=>(intro wS hSw;(try dsimp only at hSw);go_simp;all_goals with_reducible rfl)
      try refine pt ?_
      refine aL.done ax ?_ _;go_wp2;go_roundw
      case rel=>
       have hlx:(M9[m+1]!)=⟨xc,xo,xn⟩:=Hx.out;have hly:(M9[m]!)=⟨yc,yo,yn⟩:=Hy.out;refine⟨k+1,M9,gl,ae,.inl ae,⟨?_,Db.out.perm,Db.out.same,?_⟩,AA Hn2.out (.inr ⟨m,rfl,ae,by unfold key;rw[hlx,hly];dsimp only;omega⟩)⟩
       ·refine Db.out.row.of_block ?_;rw[←Hw4.out];unfold C7;rw[eh _ _ _ bV,eh _ _ _ bV];rfl
       ·rw[←Hw4.out];unfold C7;have hz:=Db.out.keep.size;exact(Db.out.keep.drew.alloc bV _).alloc bV _
      case measure=>simp[intOf];omega
    ·obtain rfl:j=a:=ae;have Db:=ai uq;have Hn2:=ai Xf;clear uq Xf hl2;go_wp2_with fail
     refine aL.start (λ_=>True) [] ax ?_ (λhHeld=>?_)
     ·exact Zh
     refine aL.tv 0 hHeld ?_;refine aL.tv 1 hHeld ?_;refine aL.tv 2 hHeld ?_;refine aL.tv 3 hHeld ?_;refine aL.tu 4 hHeld ?_;refine aL.tu 5 hHeld ?_;refine aL.tu 6 hHeld ?_;refine aL.tu 7 hHeld ?_;refine aL.tu 8 hHeld ?_;refine aL.tu 9 hHeld ?_;refine aL.tu 10 hHeld ?_;refine aL.tu 11 hHeld ?_;refine aL.tu 12 hHeld ?_;refine aL.tu 13 hHeld ?_;refine aL.tu 14 hHeld ?_;refine aL.tu 15 hHeld ?_;refine aL.tv 16 hHeld ?_;refine aL.done ax ?_ _;go_wp2;go_roundw
     case rel=>exact⟨k+1,M9,gl,ae,.inl ae,⟨Db.out.row.of_block rfl,Db.out.perm,Db.out.same,Db.out.keep.drew⟩,AA Hn2.out (.inl rfl)⟩
     case measure=>simp[intOf];omega
  ·go_wp2;refine bodyPost_end (results_none rfl _ _ _) rfl ?_;exact⟨rfl,es',Tj,λp q h1 h2 h3=>Da p q h1 h2 ae⟩
def bR.lies(x:bR):Prop:=lC x.o/\lC x.n
def Dd(x:bR)(w:World):World:=w.alloc (.cells #[.int .i64 x.c,.int .i64 x.o,.int .i64 x.n] 65)
theorem Ha(x:bR)(w:World)(h:x.lies):Calls prog 95 #[su x] w λe w'=>e=.returned (.bool false)/\Dd x w=w':=by
 obtain⟨⟨h0,h1⟩,h2,h3⟩:=h;unfold su Dd;go_enter func95,ntmps95
 go_wp2_with (first|(go_at_call 38;((with_reducible refine(lI _ _ h0 h1).mono ?_);rintro e w' ⟨rfl,rfl⟩))|(go_at_call 38;((with_reducible refine(lI _ _ h2 h3).mono ?_);rintro e w' ⟨rfl,rfl⟩)))
 go_ret
 exact⟨rfl,rfl⟩
theorem Lt(x:bR)(w:World)(h:¬x.lies):Calls prog 95 #[su x] w λe w'=>e=.returned (.bool true)/\Dd x w=w':=by
 by_cases ho:lC x.o
 ·have hn:x.n<0\/1048575<x.n:=by have:¬lC x.n:=λhn=>h ⟨ho,hn⟩;unfold lC at this;omega
  obtain⟨h0,h1⟩:=ho;have Hn:=ai hn;clear h hn;unfold su Dd;go_enter func95,ntmps95
  go_wp2_with (first|(go_at_call 38;((with_reducible refine(lI _ _ h0 h1).mono ?_);rintro e w' ⟨rfl,rfl⟩))|(go_at_call 38;((with_reducible refine(rE _ _ Hn.out).mono ?_);rintro e w' ⟨rfl,rfl⟩)))
  go_ret
  exact⟨rfl,rfl⟩
 ·have hn:x.o<0\/1048575<x.o:=by unfold lC at ho;omega
  have Hn:=ai hn;clear h hn ho;unfold su Dd;go_enter func95,ntmps95
  go_wp2_with (first|(go_at_call 38;((with_reducible refine(rE _ _ Hn.out).mono ?_);rintro e w' ⟨rfl,rfl⟩)))
  go_ret
  exact⟨rfl,rfl⟩
theorem Lu(cap:Array Value):∀w,(callFunc 95 cap).run prog w=.ok (.enter 95 cap) w:=λw=>ax
def aae(es:List bR)(r:Int):Prop:=(r= -1/\∀i,i<es.length->(es[i]!).lies)\/(∃k:Nat,r=k/\k<es.length/\¬(es[k]!).lies)
def Pn(es:List bR)(w:World)(e:Ending)(w':World):Prop:=∃r:Int,e=.returned (.int .i64 r)/\aae es r/\Below w.heap.size w w'
theorem ye{w:World}(x:bR)(h:Below B a w)(hB:B<=w.heap.size):Below B a (Dd x w):=h.alloc hB _
theorem AB(s cap:Nat)(es:List bR)(w:World)(h:dC s 0 es w)(hn:es.length<=1000)(hs:s<w.heap.size):Calls prog 138 #[.slice (some ⟨s,0,none⟩) es.length cap,.func (.func 95) #[] #[]] w (Pn es w):=by
 have H:=ai h;clear h;have hcall:=Lu;go_enter func138,ntmps138
 go_wp2;go_loopw [8] (λi wr=>∃k:Nat,k<=es.length/\i=.int .i64 k/\(∀j,j<k->(es[j]!).lies)/\Below w.heap.size w wr) (λi _=>es.length- (intOf i).toNat)
 case atStart=>exact⟨0,bj _,rfl,λj hj=>ae,iF _ _⟩
 case round=>
  obtain⟨k,hk,rfl,oL,dx⟩:=hrel;have Hg:=ai oL;have jq:=ai dx;by_cases hlt:k<es.length
  ·obtain⟨c0,c1,c2⟩:=H.out k hlt;simp only[cM]at c0 c1 c2;have c0:=(dx.cell (p:=⟨s,k*3,none⟩) hs).trans c0;have c1:=(dx.cell (p:=⟨s,k*3+1,none⟩) hs).trans c1;have c2:=(dx.cell (p:=⟨s,k*3+2,none⟩) hs).trans c2;generalize hz:es[k]! =z at c0 c1 c2;have Hz:=ai hz;clear hz oL dx;by_cases hl:z.lies
   ·have hc:=Ha z wr hl;have Hl:=ai hl;obtain⟨zc,zo,zn⟩:=z;dsimp only at c0 c1 c2;dsimp only[su]at hc;have Hc:=ai hc;clear hl hc;go_wp2_with (go_at_call 95;refine Hc.out.mono ?_;rintro e w' ⟨rfl,hw'⟩;have Hw':=ai hw';clear hw')
    go_roundw
    case rel=>exact⟨k+1,ae,gl,λj hj=>by
     by_cases e:j=k
     ·subst e;rw[Hz.out];exact Hl.out
     ·exact Hg.out j ae,by rw[←Hw'.out];exact ye _ jq.out jq.out.size⟩
    case measure=>simp[intOf];omega
   ·have hc:=Lt z wr hl;have Hl:=ai hl;obtain⟨zc,zo,zn⟩:=z;dsimp only at c0 c1 c2;dsimp only[su]at hc;have Hc:=ai hc;clear hl hc;go_wp2_with (go_at_call 95;refine Hc.out.mono ?_;rintro e w' ⟨rfl,hw'⟩;have Hw':=ai hw';clear hw')
    go_ret
    exact⟨k,rfl,.inr ⟨k,rfl,hlt,by rw[Hz.out];exact Hl.out⟩,by rw[←Hw'.out];exact ye _ jq.out jq.out.size⟩
  ·go_wp2;go_ret
   exact⟨-1,rfl,.inl ⟨rfl,λi hi=>Hg.out i ae⟩,dx⟩
theorem Cf(s cap:Nat)(es:List bR)(w:World)(h:dC s 0 es w)(hn:es.length<=1000)(hs:s<w.heap.size)(hb:∀i,i<es.length->(es[i]!).lies):Calls prog 94 #[.slice (some ⟨s,0,none⟩) es.length cap,.func (.func 95) #[] #[]] w λe w'=>e=.returned (.bool false)/\Below w.heap.size w w':=by
 have H:=ai h;have Hb:=ai hb;clear h hb;go_enter func94,ntmps94
 go_wp2_with fail
 refine(AB s cap es w H.out hn hs).mono ?_;rintro e w' ⟨r,rfl,hbad,dx⟩;obtain rfl:r= -1:=by
  rcases hbad with⟨rfl,_⟩|⟨k,_,hk,hg⟩
  ·rfl
  ·exact absurd (Hb.out k hk) hg
 have jq:=ai dx;clear hbad dx;go_wp2;go_ret
 exact⟨rfl,jq.out⟩
theorem EG(s cap j:Nat)(es:List bR)(w:World)(h:dC s 0 es w)(hn:es.length<=1000)(hs:s<w.heap.size)(hj:j<es.length)(hb:¬(es[j]!).lies):Calls prog 94 #[.slice (some ⟨s,0,none⟩) es.length cap,.func (.func 95) #[] #[]] w λe w'=>e=.returned (.bool true)/\Below w.heap.size w w':=by
 have H:=ai h;have Hb:=ai hb;clear h hb;go_enter func94,ntmps94
 go_wp2_with fail
 refine(AB s cap es w H.out hn hs).mono ?_;rintro e w' ⟨r,rfl,hbad,dx⟩;obtain⟨k,rfl,hk⟩:∃k:Nat,r=k/\True:=by
  rcases hbad with⟨_,hg⟩|⟨k,rfl,hk,hg⟩
  ·exact absurd (hg j hj) Hb.out
  ·exact⟨k,rfl,trivial⟩
 have jq:=ai dx;clear hbad dx hk;go_wp2;go_ret
 exact⟨rfl,jq.out⟩
def XQ(b c n:Nat)(w:World):Prop:=w.cell? ⟨b,0,none⟩=some (.slice (some ⟨c,0,none⟩) n n)
def ug(es:List bR)(n k:Nat):Prop:=0<=key es k/\key es k<n/\∀m,k=m+1->key es m≠key es k
structure vA(es:List bR)(n:Nat)(w:World)(e:Ending)(w':World):Prop where
 below:Below w.heap.size w w'
 cell:∀k,k<es.length->¬ug es n k->e=.returned (.int .i64 262)
 value:(∀k,k<es.length->ug es n k)->∀k,k<es.length->¬(es[k]!).lies->e=.returned (.int .i64 263)
 ok:(∀k,k<es.length->ug es n k)->(∀k,k<es.length->(es[k]!).lies)->e=.returned (.int .i64 0)
theorem Po(b c nc s cap:Nat)(es:List bR)(w:World)(h:XQ b c nc w)(he:dC s 0 es w)(h1:1<=es.length)(h2:es.length<=64)(hs:s<w.heap.size):
  Calls prog 53 #[.pointer (some ⟨b,0,none⟩),.slice (some ⟨s,0,none⟩) es.length cap] w (vA es nc w):=by
 have h3:((es.length:Int)==0)=false:=by rw[beq_eq_false_iff_ne];omega
 have h4:decide (64< (es.length:Int))=false:=bV;have H:=ai h;have He:=ai he;clear h he;go_enter func53,ntmps53
 go_wp2;go_loopw [17] (λi wr=>∃k:Nat,k<=es.length/\i=.int .i64 k/\(∀j,j<k->ug es nc j)/\Below w.heap.size w wr) (λi _=>es.length- (intOf i).toNat)
 case atStart=>exact⟨0,bj _,rfl,λj hj=>ae,iF _ _⟩
 case round=>
  obtain⟨k,hk,rfl,oL,dx⟩:=hrel;have Hg:=ai oL;have jq:=ai dx;have E9:=dx.size;by_cases hlt:k<es.length
  ·obtain⟨c0,c1,c2⟩:=He.out k hlt;simp only[cM]at c0 c1 c2;have c0:=(dx.cell (p:=⟨s,k*3,none⟩) hs).trans c0;have c1:=(dx.cell (p:=⟨s,k*3+1,none⟩) hs).trans c1;have c2:=(dx.cell (p:=⟨s,k*3+2,none⟩) hs).trans c2;have Hj:Go.RowKit.Hid (∀o,(wr.alloc o).drew.cell? ⟨b,0,none⟩=some (.slice (some ⟨c,0,none⟩) nc nc)):=λo=>(qf _ _ _ (by have:=dw _ _ H.out;omega)).trans ((dx.cell (dw _ _ H.out)).trans H.out);generalize hz:es[k]! =z at c0 c1 c2;have Hz:=ai hz;clear hz oL dx;obtain⟨zc,zo,zn⟩:=z;dsimp only at c0 c1 c2;have hkey:key es k=zc:=(by unfold key;rw[Hz.out]);have Lv:=ai hkey;clear hkey;by_cases hr:0<=zc/\zc< (nc:Int)
   ·obtain⟨tJ,hr1⟩:=hr;obtain⟨UN,rfl⟩:=Int.eq_ofNat_of_zero_le tJ;have hzl:UN<nc:=ae;by_cases hk0:k=0
    ·subst hk0;go_wp2_with fail
     refine aL.start (λw'=>w'.cell? ⟨wr.heap.size,0,none⟩=some (.int .i64 UN)) [] ax ?_ (λhHeld=>?_)
     ·exact VK
     refine aL.tv 0 hHeld ?_;refine aL.tv 1 hHeld ?_;refine aL.tt 2 hHeld ?_;refine aL.to 3 (λK hK=>?_)
     (go_simp;refine(np b c nc UN _ (Hj.out _) ae ae).mono ?_;rintro e w' ⟨rfl,rfl⟩;dsimp only)
     refine hK.out _ _ (λ_=>?_) (λhHeld=>?_)
     ·exact VK
     replace hHeld:=hHeld az;clear hK K;try refine pt ?_
     refine aL.tv 4 hHeld ?_;refine aL.tv 5 hHeld ?_;refine aL.tv 6 hHeld ?_;refine aL.tv 7 hHeld ?_;refine aL.tv 8 hHeld ?_;refine aL.tu 9 hHeld ?_;refine aL.tu 10 hHeld ?_;refine aL.tu 11 hHeld ?_;refine aL.tu 12 hHeld ?_;refine aL.tu 13 hHeld ?_;refine aL.tu 14 hHeld ?_;refine aL.tu 15 hHeld ?_;refine aL.tu 16 hHeld ?_;refine aL.tu 17 hHeld ?_;refine aL.tv 18 hHeld ?_;refine aL.tv 19 hHeld ?_;refine aL.done ax ?_ _;go_wp2;go_roundw
     case rel=>exact⟨1,ae,gl,λj hj=>by obtain rfl:j=0:=ae;exact⟨by rw[Lv.out];exact tJ,by rw[Lv.out];exact hr1,λm hm=>ae⟩,(jq.out.alloc E9 _).drew⟩
     case measure=>(simp[intOf] <;>omega)
    ·obtain⟨m,rfl⟩:∃m,k=m+1:=⟨k-1,ae⟩;obtain⟨d0,_,_⟩:=He.out m ae;simp only[cM]at d0;have d0:=(jq.out.cell (p:=⟨s,m*3,none⟩) hs).trans d0;have hpl:=World.new_ne wr _ d0;generalize hy:(es[m]!).c=yc at d0;have Hy:=ai (show key es m=yc from hy);clear hy;have b0:(0:Int)<=(m:Int):=ae;have b1:(m:Int) < (es.length:Int):=ae;have b2:(m:Int) +1< (es.length:Int):=ae;have b3:(0:Int)<=(m:Int) +1:=ae;have hgt:decide ((0:Int) < (m:Int) +1)=true:=(by simp<;>omega);have hwm:IntKind.i64.wrap (m:Int)=m:=(by rw[dR];omega);by_cases hyz:yc=(UN:Int)
     ·have hq:(yc==(UN:Int))=true:=(by rw[beq_iff_eq];exact hyz);have Hyz:=ai hyz;clear hyz;go_wp2_with fail
      refine aL.start (λw'=>w'.cell? ⟨wr.heap.size,0,none⟩=some (.int .i64 UN)/\w'.cell? ⟨s,m*3,none⟩=some (.int .i64 yc)) [] ax ?_ (λhHeld=>?_)
      ·exact Gu
      refine aL.tv 0 hHeld ?_;refine aL.tv 1 hHeld ?_;refine aL.tt 2 hHeld ?_;refine aL.to 3 (λK hK=>?_)
      (go_simp;refine(np b c nc UN _ (Hj.out _) ae ae).mono ?_;rintro e w' ⟨rfl,rfl⟩;dsimp only)
      refine hK.out _ _ (λ_=>?_) (λhHeld=>?_)
      ·exact Gu
      replace hHeld:=hHeld az;clear hK K;try refine pt ?_
      refine aL.tv 4 hHeld ?_;refine aL.tv 5 hHeld ?_;refine aL.tv 6 hHeld ?_;refine aL.tv 7 hHeld ?_;refine aL.tv 8 hHeld ?_;refine aL.tv 9 hHeld ?_;refine aL.tv 10 hHeld ?_;refine aL.tv 11 hHeld ?_;refine aL.tv 12 hHeld ?_;refine aL.tv 13 hHeld ?_;refine aL.tt 14 hHeld ?_;refine aL.tv 15 hHeld ?_;refine aL.tt 16 hHeld ?_;refine aL.tv 17 hHeld ?_;refine aL.tv 18 hHeld ?_;refine aL.tv 19 hHeld ?_;refine aL.done ax ?_ _;go_wp2;go_ret
      have hbad:¬ug es nc (m+1):=λh=>(by have:=h.2.2 m rfl;rw[Hy.out,Lv.out,Hyz.out]at this;exact this rfl);exact⟨(jq.out.alloc E9 _).drew,λ_ _ _=>rfl,λh=>absurd (h _ hlt) hbad,λh=>absurd (h _ hlt) hbad⟩
     ·have hq:(yc==(UN:Int))=false:=(by rw[beq_eq_false_iff_ne];exact hyz);have Hyz:=ai hyz;clear hyz;go_wp2_with fail
      refine aL.start (λw'=>w'.cell? ⟨wr.heap.size,0,none⟩=some (.int .i64 UN)/\w'.cell? ⟨s,m*3,none⟩=some (.int .i64 yc)) [] ax ?_ (λhHeld=>?_)
      ·exact Gu
      refine aL.tv 0 hHeld ?_;refine aL.tv 1 hHeld ?_;refine aL.tt 2 hHeld ?_;refine aL.to 3 (λK hK=>?_)
      (go_simp;refine(np b c nc UN _ (Hj.out _) ae ae).mono ?_;rintro e w' ⟨rfl,rfl⟩;dsimp only)
      refine hK.out _ _ (λ_=>?_) (λhHeld=>?_)
      ·exact Gu
      replace hHeld:=hHeld az;clear hK K;try refine pt ?_
      refine aL.tv 4 hHeld ?_;refine aL.tv 5 hHeld ?_;refine aL.tv 6 hHeld ?_;refine aL.tv 7 hHeld ?_;refine aL.tv 8 hHeld ?_;refine aL.tv 9 hHeld ?_;refine aL.tv 10 hHeld ?_;refine aL.tv 11 hHeld ?_;refine aL.tv 12 hHeld ?_;refine aL.tv 13 hHeld ?_;refine aL.tt 14 hHeld ?_;refine aL.tv 15 hHeld ?_;refine aL.tt 16 hHeld ?_;refine aL.tv 17 hHeld ?_;refine aL.tv 18 hHeld ?_;refine aL.tv 19 hHeld ?_;refine aL.done ax ?_ _;go_wp2;go_roundw
      case rel=>exact⟨m+1+1,ae,gl,λj hj=>by
       by_cases e:j=m+1
       ·subst e;exact⟨by rw[Lv.out];omega,by rw[Lv.out];omega,λm' hm=>by obtain rfl:m'=m:=ae;rw[Hy.out,Lv.out];exact Hyz.out⟩
       ·exact Hg.out j ae,(jq.out.alloc E9 _).drew⟩
      case measure=>simp[intOf];omega
   ·have NU:zc<0\/(nc:Int)<=zc:=ae;have Hr':=ai NU;have hbad:¬ug es nc k:=λh=>(by have h1:=h.1;have h2:=h.2.1;rw[Lv.out]at h1 h2;exact hr ⟨h1,h2⟩);have acG:=ai hbad;clear hr NU hbad;go_wp2_with fail
    refine aL.start (λw'=>w'.cell? ⟨wr.heap.size,0,none⟩=some (.int .i64 zc)) [] ax ?_ (λhHeld=>?_)
    ·exact VK
    refine aL.tv 0 hHeld ?_;refine aL.tv 1 hHeld ?_;refine aL.tt 2 hHeld ?_;refine aL.to 3 (λK hK=>?_)
    (go_simp;refine(yF b c nc zc _ (Hj.out _) (by have:=Hr'.out;omega)).mono ?_;rintro e w' ⟨rfl,rfl⟩;dsimp only)
    refine hK.out _ _ (λ_=>?_) (λhHeld=>?_)
    ·exact VK
    replace hHeld:=hHeld az;clear hK K;try refine pt ?_
    refine aL.tv 4 hHeld ?_;refine aL.tv 5 hHeld ?_;refine aL.tu 6 hHeld ?_;refine aL.tu 7 hHeld ?_;refine aL.tu 8 hHeld ?_;refine aL.tu 9 hHeld ?_;refine aL.tu 10 hHeld ?_;refine aL.tu 11 hHeld ?_;refine aL.tu 12 hHeld ?_;refine aL.tu 13 hHeld ?_;refine aL.tu 14 hHeld ?_;refine aL.tu 15 hHeld ?_;refine aL.tu 16 hHeld ?_;refine aL.tu 17 hHeld ?_;refine aL.tu 18 hHeld ?_;refine aL.tv 19 hHeld ?_;refine aL.done ax ?_ _;go_wp2;go_ret
    exact⟨(jq.out.alloc E9 _).drew,λ_ _ _=>rfl,λh=>absurd (h _ hlt) acG.out,λh=>absurd (h _ hlt) acG.out⟩
  ·have xK:k=es.length:=ae;subst xK;have Tk:=oL;have Ap:dC s 0 es wr:=He.out.of_block (dx.block s hs);clear oL;by_cases hv:∀i,i<es.length->(es[i]!).lies
   ·have hc:=Cf s cap es wr Ap ae ae hv;have Hc:=ai hc;have Hv:=ai hv;clear Ap hc hv Tk dx;go_wp2_with (go_at_call 94;refine Hc.out.mono ?_;rintro e w' ⟨rfl,hb'⟩;have Hb':=ai hb';clear hb')
    go_ret
    exact⟨jq.out.trans (Hb'.out.mono E9),λk hk h=>absurd (Hg.out k hk) h,λ_ k hk h=>absurd (Hv.out k hk) h,λ_ _=>rfl⟩
   ·obtain⟨j,hj,hbad⟩:∃j,j<es.length/\¬(es[j]!).lies:=(by refine cY λhne=>hv λi hi=>?_;exact cY λhb=>hne ⟨i,hi,hb⟩);have hc:=EG s cap j es wr Ap ae ae hj hbad;have Hc:=ai hc;have Hv:=ai hv;clear Ap hc hv Tk dx hbad;go_wp2_with (go_at_call 94;refine Hc.out.mono ?_;rintro e w' ⟨rfl,hb'⟩;have Hb':=ai hb';clear hb')
    go_ret
    exact⟨jq.out.trans (Hb'.out.mono E9),λk hk h=>absurd (Hg.out k hk) h,λ_ _ _ _=>rfl,λ_ h=>absurd h Hv.out⟩
end
section
open Go.RowKit
theorem Hh(Bv b off cap:Nat)(es:List bR)(hlen:es.length<=1000)(w:World)
  (hc:w.cell? ⟨Bv,0,none⟩=some (.slice (some ⟨b,off,none⟩) es.length cap))(hI:dC b off es w)(hbl:b<w.heap.size):
  Calls prog 90 #[.func (.func 92) #[] #[.pointer (some ⟨Bv,0,none⟩)]] w (Th w.heap.size es w):=by
 have h:=(appendSeq_in {fn:=λ_=>True} 4 trivial trivial rfl (aY _) Bv b off cap es hlen w hc hI hbl).calls (λk d hd=>by cases hd);have H:=ai h;clear h hI hc;go_enter func90,ntmps90
 go_wp2_with (go_at_call 136;refine H.out.mono ?_;rintro e w' ⟨v,rfl,hr,hb⟩;have Hr:=ai hr;have Hb:=ai hb;clear hr hb)
 go_ret
 exact⟨_,rfl,Hr.out,Hb.out⟩
theorem EH{w:World}{base g cap:Nat}{es:List bR}(h:w.ownsRow base 65 3 (.slice (some ⟨g,0,none⟩) es.length cap) es.length (iz es)):uf g es w:=⟨λk hk=>by obtain⟨a,b,c⟩:=Ay es k hk;simp only[cM];rw[h.cellAt _ ae,h.cellAt _ ae,h.cellAt _ ae];exact⟨a,b,c⟩,λi _=>h.frozenAt i⟩
def AD(n:Nat):Prop:=∀(g cap:Nat) (es:List bR) (w:World),es.length=n->uf g es w->g<w.heap.size->
 Calls prog 137 #[.slice (some ⟨g,0,none⟩) es.length cap,.int .i64 es.length,.func (.func 51) #[] #[]] w (Ls g 0 es.length es w)
theorem vB(n:Nat)(hn:n<20):AD n:=by
 intro g cap es w hl hr hg;subst hl;have H:=ai hr;clear hr;have hd:decide ((20:Int)<=(es.length:Int))=false:=bV;have Ct:decide ((20:Int) < (es.length:Int))=false:=bV;have hi:=Cc g cap 0 es.length es w H.out (bj _) (aY _) ae hg;have Hi:=ai hi;clear hi;go_enter func137,ntmps137
 go_wp2;refine wp_loop_rounds 1 ?_;rw[rounds_succ];go_wp2_with fail
 refine Hi.out.mono ?_;rintro e w' ⟨rfl,es',hp,hs⟩;have Hp:=ai hp;have Hs:=ai hs;clear hp hs;go_wp2;refine wp_loop_rounds 1 ?_;rw[rounds_succ];go_wp2;refine bodyPost_end (results_none rfl _ _ _) rfl ?_;exact⟨rfl,es',Hp.out,Hs.out⟩
theorem AE(g cap:Nat)(es:List bR)(w:World)(hs:AD es.length)(hr:uf g es w)(hg:g<w.heap.size):
  Calls prog 91 #[.slice (some ⟨g,0,none⟩) es.length cap,.func (.func 51) #[] #[]] w (Ls g 0 es.length es w):=by
 have H:=ai (hs g cap es w rfl hr hg);clear hs hr;go_enter func91,ntmps91
 go_wp2_with fail
 refine H.out.mono ?_;rintro e w' ⟨rfl,es',hp,hs⟩;have Hp:=ai hp;have Hs:=ai hs;clear hp hs;go_wp2;refine bodyPost_end (results_none rfl _ _ _) rfl ?_;exact⟨rfl,es',Hp.out,Hs.out⟩
def Pp(es:List bR)(w:World)(e:Ending)(w':World):Prop:=∃g cap es',e=.returned (.slice (some ⟨g,0,none⟩) es.length cap)/\uf g es' w'/\w.heap.size<=g/\g<w'.heap.size/\es'.Perm es/\jr es' 0 es.length/\Below w.heap.size w w'
theorem Lx(Bv b off cap:Nat)(es:List bR)(h1:1<=es.length)(hlen:es.length<=1000)(hs:AD es.length)(w:World)
  (hc:w.cell? ⟨Bv,0,none⟩=some (.slice (some ⟨b,off,none⟩) es.length cap))(hI:dC b off es w)(hbl:b<w.heap.size):
  Calls prog 49 #[.func (.func 92) #[] #[.pointer (some ⟨Bv,0,none⟩)],.func (.func 51) #[] #[]] w (Pp es w):=by
 have H:=ai (Hh Bv b off cap es hlen w hc hI hbl);have Hs:=ai hs;clear hs hI hc;go_enter func49,ntmps49
 go_wp2_with fail
 refine H.out.mono ?_;rintro e w1 ⟨v,rfl,hr,hb⟩;obtain⟨g,cap',rfl,hg1,hg2⟩:=hr.form ae;have hrow:=EH hr;have Hst:=ai (AE g cap' es w1 Hs.out hrow hg2);have Hb:=ai hb;clear hr hb hrow;go_wp2_with fail
 refine Hst.out.mono ?_;rintro e w2 ⟨rfl,es',hp,hso⟩;have Hp:=ai hp;have Hso:=ai hso;clear hp hso;go_wp2;go_ret
 have hk:=Hp.out.keep;have dx:Below w.heap.size w w2:=Hb.out.trans ⟨hk.os,hk.tape,hk.output,hk.size,λk hkl=>hk.block k ae ae⟩;exact⟨g,cap',es',rfl,Hp.out.row,hg1,by have:=hk.size;omega,Hp.out.perm,Hso.out,dx⟩
end
section
open Go Go.Conc Go.ConcN
section
variable{main:Bool}{Stop:ι->Frame->List Frame->World->Prop}
structure ScriptM(P:Program)(S:ba)(fn:FuncId)(ops:Array Oper)(m n:Nat)(ds:Nat->Nat)(vs:Nat->Value)(G:World->Prop)(a:Act):Prop where
 size:n<ops.size
 mn:m<n
 edge:∀(i:Nat) (o:Oper),ops[i]? =some o->∀e∈o.after,Region.binds .any e=true->e.on<i
 dst:∀(i:Nat) (o:Oper),i<n->ops[i]? =some o->o.dst=some (ds i)
 inj:∀i j,i<n->j<n->ds i=ds j->i=j
 lt:∀i,i<n->ds i<a.tmps.size
 want:∀(i:Nat) (o:Oper),i<n->ops[i]? =some o->o.guard=none
 ok:∀(i:Nat) (o:Oper),i<n->i≠m->ops[i]? =some o->eV P S fn o=true
 ft:∀t,S.ft fn t=false
 off:∀(i:Nat) (o:Oper),i<n->ops[i]? =some o->∀e∈o.after,Region.binds .any e=true->e.on≠m
 run:∀(i:Nat) (o:Oper) (a':Act),i<n->i≠m->ops[i]? =some o->(∀e∈o.after,Region.binds .any e=true->a'.tmps.getD (ds e.on) undef=vs e.on)->(∀s,(∀j,j<n->s≠ds j)->a'.tmps.getD s undef=a.tmps.getD s undef)->∀w,G w->Calm P S o a' w (vs i)
 chain:∀(t:Nat) (o:Oper),n<t->ops[t]? =some o->∃e∈o.after,Region.binds .any e=true/\e.on=t-1
 seq:Region.seqB .any ops (ops.size-n) n (rP ops.size n)=true
 last:∀listed:Array Bool,(∀(i:Nat) (o:Oper),i<n->ops[i]? =some o->listed.getD i false=true->∀e∈o.after,Region.binds .any e=true->listed.getD e.on false=true)->(∀o:Oper,ops[n]? =some o->∀e∈o.after,Region.binds .any e=true->listed.getD e.on false=true)->∀i,i<n->listed.getD i false=true
theorem Tq(st:Stat P S){ops:Array Oper}{m n id:Nat}{ds:Nat->Nat}{G:World->Prop}{a:Act}{w:World}(Post:ι->Value->World->Prop)(hk:b.kind=.normal)(hm:P.follows .mixedOrders=true)(C:ScriptM P S b.fn ops m n ds vs G a)(hG:∀w1,Alike w w1->G w1)(hP:∀qX v w',Post qX v w'->G w')
  (hcall:∀(a':Act) rest (o:Oper) (w1:World),ops[m]? =some o->Alike w w1->a'.defers=a.defers->(∀e∈o.after,Region.binds .any e=true->a'.tmps.getD (ds e.on) undef=vs e.on)->(∀s,(∀j,j<n->s≠ds j)->a'.tmps.getD s undef=a.tmps.getD s undef)->
   (∀qX v w',Post qX v w'->ZigC P main cs J Stop qX (b.at (a'.put o.dst v) (.inRegion ops rest::k)) fs w')->ZigC P main cs J Stop p7 (b.at a' (.inRegion ops (m::rest)::k)) fs w1)
  (hend:∀qX v w',Post qX v w'->ZigC P main cs J Stop qX (b.at ⟨Script.tmps n ds (λi=>if i=m then v else vs i) a.tmps,a.defers⟩ (.inRegion ops (List.range' n (ops.size-n))::k)) fs w'):ZigC P main cs J Stop p7 (b.at a (.code (.region id ops true)::k)) fs w:=by
 refine .walk (DU hm λt=>.stop ?_);have hsize:=C.size;have hmn:=C.mn;refine Ak rfl C.edge (λlisted qX a' w'=>a'.defers=a.defers/\a'.tmps.size=a.tmps.size/\(∀i,i<n->i≠m->listed.getD i false=true->a'.tmps.getD (ds i) undef=vs i)/\(∀s,(∀j,j<n->s≠ds j)->a'.tmps.getD s undef=a.tmps.getD s undef)/\
   (∀(i:Nat) (o:Oper),i<n->ops[i]? =some o->listed.getD i false=true->∀e∈o.after,Region.binds .any e=true->listed.getD e.on false=true)/\(∀t,n<=t->t<ops.size->listed.getD t false=false)/\
   ((listed.getD m false=false/\qX=p7/\Alike w w')\/(listed.getD m false=true/\Post qX (a'.tmps.getD (ds m) undef) w')))
  (λlisted=>∀i,i<n->listed.getD i false=true) ?_ ?_ ?_ ops.size t _ p7 a _ au (zM _) ⟨rfl,rfl,λi hi hn h=>?_,λ_ _=>rfl,λi o hi ho h=>?_,λt _ _=>?_,.inl ⟨?_,rfl,rfl,rfl,rfl⟩⟩
 ·rintro listed sQ a' w' i rest hsz ⟨hd,UK,h1,h2,h3,h4,h5⟩ Fx hr hnext;obtain⟨mB,o,ho,gv⟩:=mem_ready.1 hr;have lR:i<ops.size:=(aQ.1 ho).1;obtain⟨i0,yJ,hl0⟩:∃i,i<n/\listed.getD i false=false:=by
   apply cY;intro hc;refine Fx λi hi=>?_;cases e:listed.getD i false with
   |true=>rfl
   |false=>exact absurd ⟨i,hi,e⟩ hc
  have hi:i<n:=by
   rcases iC i n with h|h
   ·exact h
   ·exfalso;rcases iC n i with h'|h'
    ·obtain⟨e,he,hb,E5⟩:=C.chain i o h' ho;have:=gv e he hb;rw[E5,h4 (i-1) ae ae]at this;cases this
    ·obtain rfl:i=n:=ae;have:=C.last listed h3 (λo' sM e he hb=>by rw[ho]at sM;obtain rfl:=aP sM;exact gv e he hb) i0 yJ;rw[hl0]at this;cases this
  have hne:∀x,x≠i->(sg listed i).getD x false=listed.getD x false:=λx hx=>by rw[cE,cE,show(sg listed i)[x]? =listed[x]? from eH (bp hx)]
  have hse:(sg listed i).getD i false=true:=by rw[cE];simp[sg,hsz,lR]
  have yL:∀(x:Nat) (ox:Oper),x<n->ops[x]? =some ox->(sg listed i).getD x false=true->∀e∈ox.after,Region.binds .any e=true->(sg listed i).getD e.on false=true:=λx ox hx UL hl e he hb=>by
   by_cases e1:x=i
   ·subst e1;rw[ho]at UL;obtain rfl:=aP UL;rw[hne _ (Nat.ne_of_lt (C.edge x o ho e he hb))];exact gv e he hb
   ·rw[hne x e1]at hl;have:=h3 x ox hx UL hl e he hb;by_cases e2:e.on=i
    ·rw[e2];exact hse
    ·rw[hne _ e2];exact this
  have hput:∀(v:Value),(∀x,x<n->x≠i->(a'.tmps.setIfInBounds (ds i) v).getD (ds x) undef=a'.tmps.getD (ds x) undef)/\(a'.tmps.setIfInBounds (ds i) v).getD (ds i) undef=v/\∀s,(∀j,j<n->s≠ds j)->(a'.tmps.setIfInBounds (ds i) v).getD s undef=a'.tmps.getD s undef:=λv=>by
   refine⟨λx hx hxi=>?_,?_,λs hs=>?_⟩
   ·rw[cE,eH (λe'=>hxi (C.inj x i hx hi e'.symm)),←cE]
   ·have:=C.lt i hi;rw[cE,fD ae];rfl
   ·rw[cE,eH (bp (hs i hi)),←cE]
  have XS:∀e∈o.after,Region.binds .any e=true->a'.tmps.getD (ds e.on) undef=vs e.on:=λe he hb=>h1 _ (by have:=C.edge i o ho e he hb;omega) (C.off i o hi ho e he hb) (gv e he hb);have OC:=C.dst i o hi ho;have htl:∀t,n<=t->t<ops.size->(sg listed i).getD t false=false:=λt h6 h7=>by rw[hne t ae];exact h4 t h6 h7
  by_cases him:i=m
  ·subst him;obtain⟨_,rfl,qd⟩:listed.getD i false=false/\sQ=p7/\Alike w w':=by
    rcases h5 with h5|⟨h5,_⟩
    ·exact h5
    ·have:=rQ hsz lR h5;rw[mB]at this;cases this
   refine hcall a' rest o w' ho qd hd XS h2 λqX v w2 hp=>?_;rw[OC];obtain⟨p1,p2,p3⟩:=hput v;refine hnext qX _ w2 ⟨hd,by simp[Act.put,UK],λx hx hxm hl=>?_,λs hs=>(p3 s hs).trans (h2 s hs),yL,htl,.inr ⟨hse,?_⟩⟩
   ·rw[hne x hxm]at hl;exact(p1 x hx hxm).trans (h1 x hx hxm hl)
   ·show Post qX ((a'.tmps.setIfInBounds (ds i) v).getD (ds i) undef) w2;rw[p2];exact hp
  ·have hGw:G w':=by
    rcases h5 with⟨_,_,h5⟩|⟨_,h5⟩
    ·exact hG w' h5
    ·exact hP _ _ _ h5
   refine zigC_calm1 st hk ho (C.want i o hi ho) (C.ok i o hi him ho) C.ft (C.run i o a' hi him ho XS h2 w' hGw) ?_;rw[OC];obtain⟨p1,p2,p3⟩:=hput (vs i);refine hnext sQ _ w' ⟨hd,by simp[Act.put,UK],λx hx hxm hl=>?_,λs hs=>(p3 s hs).trans (h2 s hs),yL,htl,?_⟩
   ·by_cases e:x=i
    ·subst e;exact p2
    ·rw[hne x e]at hl;exact(p1 x hx e).trans (h1 x hx hxm hl)
   ·rw[hne m (λe=>him e.symm)];refine h5.imp (λh=>h) λ⟨h6,h7⟩=>⟨h6,?_⟩;show Post sQ ((a'.tmps.setIfInBounds (ds i) (vs i)).getD (ds m) undef) w';rw[p1 m hmn (λe=>him e.symm)];exact h7
 ·rintro m' t listed sQ a' w' hsz hu hall ⟨hd,UK,h1,h2,h3,h4,h5⟩;have vP:m'=ops.size-n:=by rw[←hu];refine MO ae (λi hi=>rQ hsz ae (hall i hi)) λi h6 h7=>?_;have h8:=h4 i h6 h7;rw[cE,dI ae]at h8⊢;exact h8
  have hseq:=C.seq;rw[←Aj (n:=n) hsz (λi hi _=>hall i hi) h4]at hseq;rw[vP,SD _ _ _ _ hseq];obtain⟨_,Mz⟩:listed.getD m false=true/\Post sQ (a'.tmps.getD (ds m) undef) w':=by
   rcases h5 with⟨h6,_⟩|h6
   ·rw[hall m hmn]at h6;cases h6
   ·exact h6
  have ha:a'=⟨Script.tmps n ds (λx=>if x=m then a'.tmps.getD (ds m) undef else vs x) a.tmps,a.defers⟩:=by
   obtain⟨t',d'⟩:=a';simp only at hd UK h1 h2 Mz⊢;subst hd;congr 1;apply Array.ext_getElem?;intro s;by_cases hs:∃j,j<n/\s=ds j
   ·obtain⟨j,hj,rfl⟩:=hs;rw[wW hj C.inj (C.lt j hj)];have hlt:=C.lt j hj;have hval:t'.getD (ds j) undef=if j=m then t'.getD (ds m) undef else vs j:=by
     by_cases e:j=m
     ·subst e;rw[if_pos rfl]
     ·rw[if_neg e];exact h1 j hj e (hall j hj)
    have Jy:ds j<t'.size:=ae;have hsome:t'[ds j]? =some (t'.getD (ds j) undef):=(by rw[cE,dI Jy];rfl);rw[hsome,hval]
   ·have hs':∀j,j<n->s≠ds j:=λj hj e=>hs ⟨j,hj,e⟩;rw[tX hs'];have:=h2 s hs';rw[cE,cE]at this;rcases iC s t'.size with hlt|CX
    ·rw[dI hlt,dI ae]at this⊢;simpa using this
    ·rw[kP CX,kP ae]
  rw[ha];exact hend sQ _ w' Mz
 ·intro listed hsz hu i hi;apply cY;intro hc;have:listed.getD i true=false:=by have hl:i<listed.size:=ae;rw[cE,dI hl]at hc⊢;simpa using hc
  have:=Ek (n:=ops.size) ae this;omega
 ·exfalso;rw[cE]at h;simp[mL]at h;split at h<;>simp at h
 ·exfalso;rw[cE]at h;simp[mL]at h;split at h<;>simp at h
 ·rw[cE];simp[mL];split<;>simp
 ·rw[cE];simp[mL];split<;>simp
theorem Ng{fn:FuncId}{Q:ι->Exit->Act->World->Prop}(st:Stat P S){ops:Array Oper}{m n id:Nat}{ds:Nat->Nat}{G:World->Prop}{a:Act}{w:World}(tail:List Nat)(ht:List.range' n (ops.size-n)=tail)(Post:ι->Value->World->Prop)(hm:P.follows .mixedOrders=true)(C:ScriptM P S fn ops m n ds vs G a)(hG:∀w1,Alike w w1->G w1)(hP:∀qX v w',Post qX v w'->G w')
   (ho:ops[m]? =some o) (hg:o.guard=none) {c:Code} {args:Array Value} (hop:o.op=.call {callee:=.value (.func f),args:=xs,argTypes:=ats}) (hf:P.funcs[f]? =some Q7) (hname:(Q7.name== "runtime.NumGoroutine")=false) (hb:Q7.body=some c)
  (hxs:∀a':Act,(∀e∈o.after,Region.binds .any e=true->a'.tmps.getD (ds e.on) undef=vs e.on)->(∀s,(∀j,j<n->s≠ds j)->a'.tmps.getD s undef=a.tmps.getD s undef)->xs.map a'.eval=args)
  (hU:∀(b:Frame) (a':Act) (k:List Item) (fs:List Frame) rest,b.fn=fn->a'.defers=a.defers->U fs->U (b.at a' (.inRegion ops (m::rest)::k)::fs))(hcall:CallsM P main cs J Stop U p7 f args w Post)
  (hend:∀qX v w',Post qX v w'->qJ P main cs J Stop U fn ops tail Q qX ⟨Script.tmps n ds (λi=>if i=m then v else vs i) a.tmps,a.defers⟩ w'):wpM P main cs J Stop U fn (.region id ops true) Q p7 a w:=by
 intro b k fs h1 h2 h3 hc;subst h1;refine Tq st Post h2 hm C hG hP (λa' rest o' w1 sM qd hd gv bT hnext=>?_) λqX v w' hp=>?_
 ·rw[ho]at sM;obtain rfl:=aP sM;refine jT (by rw[h2];simp) ho (by simp[Region.wanted,hg]) hop hf hname hb (hxs a' gv bT) (CallsM.alike qd hcall _ fs (hU b a' k fs rest rfl hd h3) λi' v w'' hp=>?_);rw[fy,ho];exact hnext i' v w'' hp
 ·rw[ht];exact hend qX v w' hp b k fs rfl h2 h3 hc
end
end
section
section
variable{β:Type}
def Pr.Safe(I:σ->Prop)(R:σ->σ->Prop)(Q:α->σ->Prop):Pr σ α->σ->Prop
 |.ret a,s=>Q a s
 |.line p,s=>∀s',I s'->R s s'->Pr.Safe I R Q p s'
 |.eff f k,s=>I (f s)/\R s (f s)/\Pr.Safe I R Q (k s) (f s)
 |.stop,_=>True
theorem Pr.Safe.nN{a:α}{s:σ}(h:Q a s):(Pr.ret a).Safe I R Q s:=h
theorem Pr.Safe.mono(h:∀a s,I s->Q a s->Q' a s):∀{p:Pr σ α} {s:σ},I s->p.Safe I R Q s->p.Safe I R Q' s:=by
 intro p;induction p with
 |ret a=>exact λhI hp=>h _ _ hI hp
 |line p ih=>exact λ_ hp s' h1 h2=>ih h1 (hp s' h1 h2)
 |eff f k ih=>exact λ_ hp=>⟨hp.1,hp.2.1,ih _ hp.1 hp.2.2⟩
 |stop=>exact λ_ _=>trivial
theorem Pr.Safe.bind{Q':β->σ->Prop}{k:α->Pr σ β}(h:∀a s,I s->Q a s->(k a).Safe I R Q' s):∀{p:Pr σ α} {s:σ},I s->p.Safe I R Q s->(p.bind k).Safe I R Q' s:=by
 intro p;induction p with
 |ret a=>exact λhI hp=>h _ _ hI hp
 |line p ih=>exact λ_ hp s' h1 h2=>ih h1 (hp s' h1 h2)
 |eff f q ih=>exact λ_ hp=>⟨hp.1,hp.2.1,ih _ hp.1 hp.2.2⟩
 |stop=>exact λ_ _=>trivial
theorem Pr.Safe.rely(ht:∀a b c,R a b->R b c->R a c){s0:σ}:∀{p:Pr σ α} {s:σ},R s0 s->p.Safe I R Q s->p.Safe I R (λa s'=>Q a s'/\R s0 s') s:=by
 intro p;induction p with
 |ret a=>exact λh hp=>⟨hp,h⟩
 |line p ih=>exact λh hp s' h1 h2=>ih (ht _ _ _ h h2) (hp s' h1 h2)
 |eff f q ih=>exact λh hp=>⟨hp.1,hp.2.1,ih _ (ht _ _ _ h hp.2.1) hp.2.2⟩
 |stop=>exact λ_ _=>trivial
theorem Pr.Safe.get(hr:∀a,R a a){k:σ->Pr σ α}{s:σ}(hI:I s)(h:(k s).Safe I R Q s):(Pr.eff id k).Safe I R Q s:=⟨hI,hr s,h⟩
theorem Pr.Safe.seg(hr:∀a,R a a)(ht:∀a b c,R a b->R b c->R a c):∀{p:Pr σ α} {g:Bool} {own:Nat} {s:σ},I s->p.Safe I R Q s->
  match p.seg g own s with
  |.fin a _ _ s'=>I s'/\R s s'/\Q a s'
  |.line p' _ s'=>I s'/\R s s'/\(Pr.line p').Safe I R Q s'
  |.lost=>True:=by
 intro p;induction p with
 |ret a=>exact λhI hp=>⟨hI,hr _,hp⟩
 |line p ih=>
  intro g own s hI hp;cases g with
  |true=>exact ih hI (hp s hI (hr s))
  |false=>exact⟨hI,hr _,hp⟩
 |eff f k ih=>
  intro g own s hI hp;have:=ih s (g:=g) (own:=own) hp.1 hp.2.2;show match(k s).seg g own (f s)with|.fin a _ _ s'=>_|.line p' _ s'=>_|.lost=>_;split<;>simp_all
  ·exact ht _ _ _ hp.2.1 this.2.1
  ·exact ht _ _ _ hp.2.1 this.2.1
 |stop=>exact λ_ _=>trivial
structure AR.Tw(I:σ->Prop)(R:σ->σ->Prop)(c:bq)(Q:Nat->bG->dO->Prop)(x:AR σ):Prop where
 inv:I x.s
 now:∀k b own p,k<c.n->(x.w k).now=some (b,own,p)->∃d,(c.calls k)[(x.w k).got.length]? =some d/\(Pr.line p).Safe I R (λa _=>Q k d a) x.s
 got:∀k (i:Nat) (a:kt),k<c.n->(x.w k).got[i]? =some a->∃d,(c.calls k)[i]? =some d/\Q k d a.ans
theorem AR.PD(hr:∀a,R a a)(ht:∀a b c,R a b->R b c->R a c){Q:Nat->bG->dO->Prop}(hcall:∀k d s,k<c.n->d∈c.calls k->I s->(L.call k d).Safe I R (λa _=>Q k d a) s)
   (h:x.Tw I R c Q) (hp:x.pick c<c.n):(x.next L c).Tw I R c Q/\R x.s (x.next L c).s:=by
 generalize hk:x.pick c=k at hp;have hs:(∃be p own g d,(x.w k).seg L c k (x.all+1) x.s=(be,Pr.seg p g own x.s)/\(c.calls k)[(x.w k).got.length]? =some d/\p.Safe I R (λa _=>Q k d a) x.s)\/∃be,(x.w k).seg L c k (x.all+1) x.s=(be,.lost):=by
  cases hn:(x.w k).now with
  |some q=>obtain⟨b,own,p⟩:=q;obtain⟨d,h1,h2⟩:=h.now k b own p hp hn;exact .inl ⟨b,p,own+1,false,d,by unfold AW.seg;rw[hn],h1,h2 x.s h.inv (hr _)⟩
  |none=>
   cases hd:(c.calls k)[(x.w k).got.length]? with
   |none=>exact .inr ⟨x.all+1,by unfold AW.seg;rw[hn,hd]⟩
   |some d=>exact .inl ⟨x.all+1,L.call k d,0,true,d,by unfold AW.seg;rw[hn,hd],rfl,hcall k d x.s hp (mX hd) h.inv⟩
 have UG:∀be e,(x.w k).seg L c k (x.all+1) x.s=(be,e)->(x.next L c).s=e.state x.s/\(x.next L c).w k=(x.w k).settle (x.all+1) be e/\∀i,i≠k->(x.next L c).w i=x.w i:=λbe e he=>by unfold AR.next;simp only[hk,he];exact⟨trivial,au,λi hi=>by simp[hi]⟩
 have hold:∀s',I s'->R x.s s'->(x.next L c).s=s'->(∀i,i≠k->(x.next L c).w i=x.w i)->(∀b own p,((x.next L c).w k).now=some (b,own,p)->∃d,(c.calls k)[((x.next L c).w k).got.length]? =some d/\(Pr.line p).Safe I R (λa _=>Q k d a) s')->(∀(i:Nat) (a:kt),((x.next L c).w k).got[i]? =some a->∃d,(c.calls k)[i]? =some d/\Q k d a.ans)->(x.next L c).Tw I R c Q/\R x.s (x.next L c).s:=by
  intro s' hI hR e ho hn hg;refine⟨⟨by rw[e];exact hI,λi b own p hi hnow=>?_,λi j a hi kr=>?_⟩,by rw[e];exact hR⟩
  ·by_cases ei:i=k
   ·subst ei;rw[e];exact hn b own p hnow
   ·rw[ho i ei]at hnow⊢;obtain⟨d,h1,h2⟩:=h.now i b own p hi hnow;exact⟨d,h1,λs2 xP hR2=>h2 s2 xP (ht _ _ _ hR (by rw[e]at hR2;exact hR2))⟩
  ·by_cases ei:i=k
   ·subst ei;exact hg j a kr
   ·rw[ho i ei]at kr;exact h.got i j a hi kr
 have XZ:∀be,(x.w k).seg L c k (x.all+1) x.s=(be,.lost)->(x.next L c).Tw I R c Q/\R x.s (x.next L c).s:=λbe he=>by
  obtain⟨e1,e2,e3⟩:=UG _ _ he;refine hold x.s h.inv (hr _) e1 e3 (λb own p hn=>?_) (λi a hg=>?_)
  ·rw[e2]at hn⊢;exact h.now k b own p hp hn
  ·rw[e2]at hg;exact h.got k i a hp hg
 rcases hs with⟨be,p,own,g,d,he,hd,acS⟩|⟨be,he⟩
 ·have Wz:=Pr.Safe.seg hr ht (g:=g) (own:=own) h.inv acS;cases hc:Pr.seg p g own x.s with
  |fin a g' vE s'=>
   rw[hc]at Wz he;obtain⟨hI,hR,hQ⟩:=Wz;obtain⟨e1,e2,e3⟩:=UG _ _ he;refine hold s' hI hR e1 e3 (λb own p hn=>?_) (λi a' hg=>?_)
   ·rw[e2]at hn;cases hn
   ·rw[e2]at hg;have hg:((x.w k).got++[_])[i]? =some a':=hg;rw[List.getElem?_append]at hg;split at hg
    ·exact h.got k i a' hp hg
    ·rename_i hlt;have hi:i=(x.w k).got.length:=(by have:=(eL.1 hg).1;simp at this;omega);subst hi;simp at hg;subst hg;exact⟨d,hd,hQ⟩
  |line p' vE s'=>
   rw[hc]at Wz he;obtain⟨hI,hR,hS⟩:=Wz;obtain⟨e1,e2,e3⟩:=UG _ _ he;refine hold s' hI hR e1 e3 (λb own p hn=>?_) (λi a' hg=>?_)
   ·rw[e2]at hn⊢;have hn:some (be,vE,p')=some (b,own,p):=hn;obtain⟨rfl,rfl,rfl⟩:be=b/\vE=own/\p'=p:=(by simpa using hn);exact⟨d,hd,hS⟩
   ·rw[e2]at hg;exact h.got k i a' hp hg
  |lost=>rw[hc]at he;exact XZ _ he
 ·exact XZ _ he
theorem AR.Tx(h:∀k,(x.w k).got.length<=(c.calls k).length/\((x.w k).now≠none->(x.w k).got.length< (c.calls k).length))(k:Nat):((x.next L c).w k).got.length<=(c.calls k).length/\(((x.next L c).w k).now≠none->((x.next L c).w k).got.length< (c.calls k).length):=by
 by_cases e:k=x.pick c
 ·subst e;have hw:(x.next L c).w (x.pick c)=(x.w (x.pick c)).settle (x.all+1) ((x.w (x.pick c)).seg L c (x.pick c) (x.all+1) x.s).1 ((x.w (x.pick c)).seg L c (x.pick c) (x.all+1) x.s).2:=by show(if x.pick c=x.pick c then _ else _)=_;rw[if_pos rfl]
  rw[hw];generalize x.pick c=k;obtain⟨h1,h2⟩:=h k;have hlt:(∃be,(x.w k).seg L c k (x.all+1) x.s=(be,.lost))\/(x.w k).got.length< (c.calls k).length:=by
   cases hn:(x.w k).now with
   |some q=>exact .inr (h2 (by rw[hn];simp))
   |none=>
    by_cases hl:(x.w k).got.length< (c.calls k).length
    ·exact .inr hl
    ·refine .inl ⟨x.all+1,?_⟩;unfold AW.seg;rw[hn];simp only;rw[xU ae]
  rcases hlt with⟨be,he⟩|hlt
  ·rw[he];exact h k
  ·cases((x.w k).seg L c k (x.all+1) x.s).2 with
   |fin a g o s'=>refine⟨?_,λhc=>absurd rfl hc⟩;show((x.w k).got++[_]).length<=_;rw[mM,List.length_singleton];omega
   |line p o s'=>exact⟨h1,λ_=>hlt⟩
   |lost=>exact h k
 ·have hw:(x.next L c).w k=x.w k:=by show(if k=x.pick c then _ else x.w k)=_;rw[if_neg e]
  rw[hw];exact h k
theorem AR.at_len(L:Lay σ)(c:bq)(s:σ)(t k:Nat):((AR.at L c s t).w k).got.length<=(c.calls k).length:=by
 have key:∀k,((AR.at L c s t).w k).got.length<=(c.calls k).length/\(((AR.at L c s t).w k).now≠none->((AR.at L c s t).w k).got.length< (c.calls k).length):=by
  induction t with
  |zero=>exact λk=>⟨bj _,λh=>absurd rfl h⟩
  |succ t ih=>exact λk=>AR.Tx ih k
 exact(key k).1
end
end
section
open Go Go.RowKit
theorem TT(l:List Int)(k:Nat)(hk:k<l.length):(l.take (k+1)).sum=(l.take k).sum+l.getD k 0:=by rw[G6 hk,List.sum_append];simp[cQ,hk]
theorem P6(l:List Int)(h:∀z∈l,0<=z/\z<=1048575):0<=l.sum/\l.sum<=1048575*l.length:=by
 induction l with
 |nil=>simp
 |cons x l ih=>have h1:=h x au;have h2:=ih λz hz=>h z (by simp[hz]);simp only[List.sum_cons,ew];omega
theorem lsum_any(v:Value)(l:List Int)(w:World)(h:Ke w v l)(hl:∀z∈l,0<=z/\z<=1048575)(hn:l.length<=1000):Calls prog 16 #[v] w λe w'=>e=.returned (.int .i64 l.sum)/\w=w':=by
 obtain⟨a,cap,rfl,hc⟩:=h;have Hc:=ai hc;have Hl:=ai hl;clear hc hl;go_enter func16,ntmps16
 go_wp2;go_loopw [4,3] (λi s wr=>∃k:Nat,k<=l.length/\i=.int .i64 k/\s=.int .i64 (l.take k).sum/\w=wr) (λi _ _=>l.length- (intOf i).toNat)
 case atStart=>exact⟨0,bj _,rfl,au,rfl⟩
 case round=>
  obtain⟨k,hk,rfl,rfl,rfl⟩:=hrel;by_cases hlt:k<l.length
  ·obtain⟨⟨xb,xo,xs⟩,rfl,hs,c0⟩:=Hc.out k hlt;obtain rfl:xs=none:=hs;have e1:=TT l k hlt;have b1:=P6 (l.take k) λz hz=>Hl.out z (List.mem_of_mem_take hz);have b2:0<=l.getD k 0/\l.getD k 0<=1048575:=(by rw[cQ,eA hlt];exact Hl.out _ (pP _));have b3:(l.take k).length<=1000:=bV;have hw:IntKind.i64.wrap ((l.take k).sum+l.getD k 0)=(l.take (k+1)).sum:=(by rw[e1,dR];omega);dsimp only at c0;generalize l.getD k 0=z at*;generalize (l.take k).sum=s at*;have Hw:=ai e1;clear e1;go_wp2;go_roundw
   case rel=>exact⟨k+1,ae,gl,by first|rfl|trivial|simp,by first|rfl|trivial⟩
   case measure=>simp[intOf];omega
  ·have:k=l.length:=ae;subst this;rw[List.take_length];go_wp2;go_ret
   exact⟨rfl,rfl⟩
def ju(w:World)(v:Value)(l:List (Int×Int)):Prop:=∃a cap,v=.slice a l.length cap/\∀i,i<l.length->∃b o,a=some ⟨b,o,none⟩/\b<w.heap.size/\w.cell? ⟨b,o+2*i,none⟩=some (.int .i64 (l.getD i (0,0)).1)/\w.cell? ⟨b,o+2*i+1,none⟩=some (.int .i64 (l.getD i (0,0)).2)
structure xq(w:World)(b o:Nat)(c:bG):Prop where
 lt:b<w.heap.size
 c0:w.cell? ⟨b,o,none⟩=some (.int .i64 c.kind)
 c1:w.cell? ⟨b,o+1,none⟩=some (.int .i64 c.a)
 c2:w.cell? ⟨b,o+2,none⟩=some (.int .i64 c.b)
 c3:w.cell? ⟨b,o+3,none⟩=some (.int .i64 c.c)
 c4:∃v,w.cell? ⟨b,o+4,none⟩=some v/\ju w v c.pairs
def yh(w:World)(v:Value)(l:List bG):Prop:=∃a cap,v=.slice a l.length cap/\∀i c,l[i]? =some c->∃b o,a=some ⟨b,o,none⟩/\xq w b (o+i*5) c
def RowsIn(w:World)(wk:Option Addr)(work:List (List bG)):Prop:=∀k l,work[k]? =some l->∃b o v,wk=some ⟨b,o,none⟩/\b<w.heap.size/\w.cell? ⟨b,o+k,none⟩=some v/\yh w v l
theorem ju.same{w:World}{l:List (Int×Int)}(h:ju w v l)(hs:w.heap.size<=w'.heap.size)(hb:∀b,b<w.heap.size->w'.heap[b]? =w.heap[b]?):ju w' v l:=by obtain⟨a,cap,rfl,h⟩:=h;refine⟨a,cap,rfl,λi hi=>?_⟩;obtain⟨b,o,rfl,h0,h1,h2⟩:=h i hi;exact⟨b,o,rfl,ae,(bP (w:=w) (hb b h0)).trans h1,(bP (w:=w) (hb b h0)).trans h2⟩
theorem xq.same{w:World}{b o:Nat}{c:bG}(h:xq w b o c)(hs:w.heap.size<=w'.heap.size)(hb:∀b,b<w.heap.size->w'.heap[b]? =w.heap[b]?):xq w' b o c:=by have e:∀q,w'.cell? ⟨b,q,none⟩=w.cell? ⟨b,q,none⟩:=λq=>bP (w:=w) (hb b h.lt);obtain⟨v,h4,h5⟩:=h.c4;exact⟨by have:=h.lt;omega,(e _).trans h.c0,(e _).trans h.c1,(e _).trans h.c2,(e _).trans h.c3,v,(e _).trans h4,h5.same hs hb⟩
theorem yh.same{w:World}{l:List bG}(h:yh w v l)(hs:w.heap.size<=w'.heap.size)(hb:∀b,b<w.heap.size->w'.heap[b]? =w.heap[b]?):yh w' v l:=by obtain⟨a,cap,rfl,h⟩:=h;refine⟨a,cap,rfl,λi c hc=>?_⟩;obtain⟨b,o,rfl,h1⟩:=h i c hc;exact⟨b,o,rfl,h1.same hs hb⟩
theorem RowsIn.same{w:World}{wk:Option Addr}{work:List (List bG)}(h:RowsIn w wk work)(hs:w.heap.size<=w'.heap.size)(hb:∀b,b<w.heap.size->w'.heap[b]? =w.heap[b]?):RowsIn w' wk work:=λk l hk=>by obtain⟨b,o,v,rfl,h0,h1,h2⟩:=h k l hk;exact⟨b,o,v,rfl,ae,(bP (w:=w) (hb b h0)).trans h1,h2.same hs hb⟩
def fe(work:List (List bG)):Nat:=(work.map List.length).sum
def ui(work:List (List bG)):Nat:=(work.map λl=>(l.map λc=>c.pairs.length).sum).sum
theorem below_drewN{n:Nat}{w:World}(h:Below B a w):Below B a (w.drewN n):=⟨h.os,h.tape,h.output,h.size,h.block⟩
def WL(work:List (List bG))(kl:List Int)(w:World)(e:Ending)(w':World):Prop:=∃b,e=.returned (.bool b)/\(b=true->∀(k:Nat) (l:List bG),work[k]? =some l->∀(i:Nat) (c:bG),l[i]? =some c->c.kind∈kl)/\Below w.heap.size w w'
theorem TU(wk tu ha:Option Addr)(wc tn tc hn hc kb kc:Nat)(un:Int)(work:List (List bG))(kl:List Int)(w:World)(h:RowsIn w wk work)(hL:work.length<=1000/\∀l∈work,l.length<=1000)(hkl:kl.length<=100)(hk:∀i,i<kl.length->w.cell? ⟨kb,i,none⟩=some (.int .i64 (kl.getD i 0)))(hkb:kb<w.heap.size):
  Calls prog 15 #[.agg (aC wk tu ha work.length wc tn tc hn hc un),.slice (some ⟨kb,0,none⟩) kl.length kc] w (WL work kl w):=by
 simp only[aC];obtain⟨hL1,hL⟩:=hL;obtain⟨W,hW⟩:∃W,W=w.alloc (.cells #[.slice wk work.length wc,.slice tu tn tc,.slice ha hn hc,.int .i64 un] 25):=⟨_,rfl⟩;have sW:w.heap.size<=W.heap.size:=by rw[hW,bI];omega
 have oW:∀b,b<w.heap.size->W.heap[b]? =w.heap[b]? :=λb hb=>by rw[hW];exact eh w _ _ hb
 have bW:W.cell? ⟨w.heap.size,0,none⟩=some (.slice wk work.length wc):=by rw[hW,y6];rfl
 have kW:Below w.heap.size w W:=by rw[hW];exact(iF _ _).alloc (aY _) _
 have qW:∀i,i<kl.length->W.cell? ⟨kb,i,none⟩=some (.int .i64 (kl.getD i 0)):=λi hi=>(bP (w:=w) (oW kb hkb)).trans (hk i hi);have HI:=ai (h.same sW oW);have HQ:=ai qW;have HK:=ai kW;have HW:=ai hW;have HL:=ai hL;have HB:=ai bW;clear hW kW oW sW h hL hk qW bW;go_enter func15,ntmps15
 go_wp2;rw[←HW.out];clear HW;go_loopw [5] (λi wr=>∃k:Nat,k<=work.length/\i=.int .i64 k/\(∀(j:Nat) (l:List bG),j<k->work[j]? =some l->∀(i:Nat) (c:bG),l[i]? =some c->c.kind∈kl)/\Below W.heap.size W wr) (λi _=>work.length- (intOf i).toNat)
 case atStart=>exact⟨0,bj _,rfl,λj l hj=>ae,iF _ _⟩
 case round=>
  obtain⟨k,hk,rfl,oL,dx⟩:=hrel;have hw0:=dw W _ HB.out;have bW:=(dx.cell (p:=⟨w.heap.size,0,none⟩) hw0).trans HB.out;have Hg:=ai oL;have jq:=ai dx;clear oL dx;by_cases hlt:k<work.length
  ·obtain⟨l,hl⟩:∃l,work[k]? =some l:=⟨_,eA hlt⟩;obtain⟨b,o,v,rfl,hb,Ti,a,cap,rfl,hrow⟩:=HI.out k l hl;have MH:=HL.out l (mX hl);have hc:=(jq.out.cell (p:=⟨b,o+k,none⟩) hb).trans Ti;have yD:=ai hrow;have Hl:=ai hl;clear hrow hl;go_wp2;go_loopw [6] (λi wr'=>∃j:Nat,j<=l.length/\i=.int .i64 j/\(∀(i:Nat) (c:bG),i<j->l[i]? =some c->c.kind∈kl)/\Below W.heap.size W wr') (λi _=>l.length- (intOf i).toNat)
   case atStart=>exact⟨0,bj _,rfl,λi c hi=>ae,jq.out⟩
   case round=>
    obtain⟨j,hj,rfl,hg2,yi⟩:=hrel;have bW:=(yi.cell (p:=⟨w.heap.size,0,none⟩) hw0).trans HB.out;have hcc:=λ(x:Addr) v (h:W.cell? x=some v)=>(yi.cell (dw W _ h)).trans h;have UB:=hcc _ _ Ti;have Hg2:=ai hg2;have sX:=ai yi;have Hcc:=ai hcc;clear hg2 yi hcc;by_cases JJ:j<l.length
    ·obtain⟨b2,o2,rfl,hcall⟩:=yD.out j l[j] (eA JJ);have ck:=Hcc.out _ _ hcall.c0;have Yh:=ai hcall;clear hcall;go_wp2;go_loopw [8,7] (λi met wr3=>∃q:Nat,q<=kl.length/\i=.int .i64 q/\(∃bm,met=.bool bm/\(bm=true->(l[j]).kind∈kl))/\Below W.heap.size W wr3) (λi _ _=>kl.length- (intOf i).toNat)
     case atStart=>exact⟨0,bj _,rfl,⟨false,rfl,λh=>bY⟩,sX.out⟩
     case round=>
      obtain⟨q,hq,rfl,⟨bm,rfl,hbm⟩,sY⟩:=hrel;have bW:=(sY.cell (p:=⟨w.heap.size,0,none⟩) hw0).trans HB.out;have UB:=(sY.cell (p:=⟨b,o+k,none⟩) hb).trans Ti;have ck:=(sY.cell (p:=⟨b2,o2+j*5,none⟩) Yh.out.lt).trans Yh.out.c0;have Dr:=ai sY;have Hbm:=ai hbm;clear sY hbm;by_cases Kp:q<kl.length
      ·have cq:=(Dr.out.cell (p:=⟨kb,q,none⟩) (dw W _ (HQ.out q Kp))).trans (HQ.out q Kp);generalize hkd:(l[j]).kind=kd at*;generalize hzq:kl.getD q 0=zq at*;have Hkd:=ai hkd;have Hzq:=ai hzq;clear hkd hzq;cases bm with
       |true=>
        go_wp2_with fail
        go_quiet (fail)
        go_wp2;go_roundw
        case rel=>exact⟨q+1,ae,gl,⟨true,rfl,λ_=>Hbm.out trivial⟩,below_drewN Dr.out⟩
        case measure=>simp[intOf];omega
       |false=>
        by_cases heq:kd=zq
        ·have hbq:(kd==zq)=true:=(by simpa using heq);have Jr:zq∈kl:=(by rw[←Hzq.out,cQ,eA Kp];exact pP _);have aeR:=ai Jr;have Heq:=ai heq;clear Jr heq;go_wp2_with fail
         go_quiet (fail)
         go_wp2;go_roundw
         case rel=>exact⟨q+1,ae,gl,⟨true,rfl,λ_=>by rw[Heq.out];exact aeR.out⟩,below_drewN Dr.out⟩
         case measure=>simp[intOf];omega
        ·have hbq:(kd==zq)=false:=(by simpa using heq);clear heq;go_wp2_with fail
         go_quiet (fail)
         go_wp2;go_roundw
         case rel=>exact⟨q+1,ae,gl,⟨false,rfl,λh=>bY⟩,below_drewN Dr.out⟩
         case measure=>simp[intOf];omega
      ·cases bm with
       |true=>
        go_wp2;go_roundw
        case rel=>exact⟨j+1,ae,gl,λi c hi hc'=>by
         by_cases e:i=j
         ·subst e;rw[eA JJ]at hc';obtain rfl:=aP hc';exact Hbm.out rfl
         ·exact Hg2.out i c ae hc',Dr.out⟩
        case measure=>simp[intOf];omega
       |false=>
        go_wp2;go_ret
        exact⟨false,rfl,λh=>bY,HK.out.trans (Dr.out.mono HK.out.size)⟩
    ·obtain rfl:j=l.length:=ae;go_wp2;go_roundw
     case rel=>exact⟨k+1,ae,gl,λj' l' h1 h2 i c hc'=>by
      by_cases e:j'=k
      ·subst e;rw[Hl.out]at h2;obtain rfl:=aP h2;exact Hg2.out i c (eL.1 hc').1 hc'
      ·exact Hg.out j' l' ae h2 i c hc',sX.out⟩
     case measure=>simp[intOf];omega
  ·obtain rfl:k=work.length:=ae;go_wp2;go_ret
   exact⟨true,rfl,λ_ j l hj i c hc=>Hg.out j l (eL.1 hj).1 hj i c hc,HK.out.trans (jq.out.mono HK.out.size)⟩
end
section
open Go Go.Conc Go.ConcN
open Go.ConcR (KK WgAt stA smA Payload Aside2 DC0)
variable[Payload]
variable[Inhabited bO]
def rD(P:Program)(S:ba):dA Ph:=λi fr fs a K=>i=.pre/\∃U:aK->dX,ZigC P true [] (JP P S [] U) (λph aZ bz a'=>(ph=.pre\/ph=.post)/\K .post aZ bz a') .pre fr fs a
structure Uc(P:Program)(Stop:Frame->List Frame->World->Prop)(m:Machine)(T:Trace):Prop where
 ex:∃gs r sl fr fs a,m=crowd gs r sl/\gs[0]? =some (bh fr (fs++[]))/\Stop fr fs a/\Kx r/\DV r/\((gs.size=1/\SF T r/\∃N:Nat->Prop,Rel (Hid N r) a r/\Sees N (λ_=>none) a r/\∀b,r.heap.size<=b->N b)\/
  ∃q Wg N,TF P Wg q T gs/\Rel (Hid N r) a r/\Sees N (λ_=>none) a r/\Hid N r Wg/\(∀b,r.heap.size<=b->N b))
theorem Ud{Stop:Frame->List Frame->World->Prop}{r:World}(hz:ZigC P true [] (rD P S) (λ_=>Stop) .pre fr fs a){sl:Option (Nat×Nat)}(fX:Sees oB (λ_=>none) a r)(hrel:Rel (Hid oB r) a r)(zU:∀b,r.heap.size<=b->oB b)(RP:Kx r)(JN:DV r)(F:SF T r):
  ∃n m' T',runNT P n (crowd #[bh fr (fs++[])] r sl) T=(.next m',T')/\Uc P Stop m' T':=by
 have alone:∀{i:Ph} {fr:Frame} {fs:List Frame} {a r:World} {T:Trace} {sl:Option (Nat×Nat)} {N:Nat->Prop},ZigC P true [] (rD P S) (λ_=>Stop) i fr fs a->Sees N (λ_=>none) a r->Rel (Hid N r) a r->(∀b,r.heap.size<=b->N b)->Kx r->DV r->SF T r->
   ∃N1 w1 CL T1 gD lf a1,runNT P N1 (crowd #[bh fr (fs++[])] r sl) T=(.next (crowd #[bh gD (lf++[])] w1 CL),T1)/\SF T1 w1/\Vr P true [] (rD P S) (λ_=>Stop) i gD lf a1/\Sees N (λ_=>none) a1 w1/\Rel (Hid N w1) a1 w1/\(∀b,w1.heap.size<=b->N b)/\Kx w1/\DV w1:=by
  intro i fr fs a r T sl N hz fX hrel hN RP JN F;let Q:Goroutine->World->Prop:=λg w=>∃aZ bz a',g=bh aZ (bz++[])/\Vr P true [] (rD P S) (λ_=>Stop) i aZ bz a'/\(Sees N (λ_=>none) a' w/\(∀b,Hid N r b↔Hid N w b)/\r.heap.size<=w.heap.size/\Kx w/\DV w)/\Rel (Hid N r) a' w;have hW:fU P true AtRel Zm Q (bh fr (fs++[])) r:=hz.all _ _ _ _ _ (lq hN) (λaZ bz a' r' hat hrel hl=>.stop λw₁ h₁=>by obtain⟨h1,h2⟩:=(lq hN).others a' r' w₁ h₁ hrel hl;exact⟨aZ,bz,a',rfl,hat,h2,h1⟩) r hrel ⟨fX,λ_=>Iff.rfl,aY _,RP,JN⟩;obtain⟨N1,w1,CL,T1,g1,IK,F1,hQ1⟩:=CN (sl:=sl) hW F;obtain⟨gD,lf,a1,rfl,hat,⟨BK,VC,BL,J8,J9⟩,Ka⟩:=hQ1 w1 (atRel_refl w1);have hid:Hid N r=Hid N w1:=funext λb=>propext (VC b);exact⟨N1,w1,CL,T1,gD,lf,a1,IK,F1,hat,BK,by rw[←hid];exact Ka,λb hb=>hN b (cn BL hb),J8,J9⟩
 obtain⟨N1,w1,CL,T1,gD,lf,a1,IK,F1,hat,BK,Ka,ade,J8,J9⟩:=alone (sl:=sl) hz fX hrel zU RP JN F;rcases hat with cN|⟨K,⟨_,U,hJ⟩,hC⟩
 ·exact⟨N1,_,T1,IK,⟨#[_],w1,CL,gD,lf,a1,rfl,rfl,cN,J8,J9,.inl ⟨rfl,F1,_,Ka,BK,ade⟩⟩⟩
 obtain⟨N2,m2,T2,JQ,hP⟩:=adT (cs0:=[]) (S:=S) trivial (λt d fr fs a h=>by rcases h.1 with h|h<;>cases h) (λt d w fr fs a h=>by rcases h.1 with h|h<;>cases h) hJ (sl:=CL) BK Ka ade J8 J9 F1;obtain⟨Rz,r2,um,bo,cj,a2,rfl,hg2,hP⟩:=hP.ex;rcases hP with⟨hsz,F2,⟨_,hK⟩,aaN,aaO,N,aaP,aaQ,hNb⟩|⟨q,Wg,N,aaN,aaO,F2,⟨_,hK⟩,aaP,aaQ,Xr,hNb⟩
 ·have e2:Rz=#[bh bo (cj++[])]:=by obtain⟨_,h⟩:=aQ.1 hg2;refine Array.ext (by simpa using hsz) λk h1 h2=>?_;have hk:k=0:=(by simp at h2;exact h2);subst hk;exact h
  rw[e2]at JQ;obtain⟨N3,w3,Vv,T3,qp,se,a3,RA,F3,Y5,Zr,aeX,aeY,aeZ,ae0⟩:=alone (sl:=um) (hC .post bo cj a2 hK) aaQ aaP hNb aaN aaO F2;rcases Y5 with cN|⟨K',⟨h,_⟩,_⟩
  ·exact⟨N1+N2+N3,_,T3,b9 (b9 IK JQ) RA,⟨#[_],w3,Vv,qp,se,a3,rfl,rfl,cN,aeZ,ae0,.inl ⟨rfl,F3,_,aeX,Zr,aeY⟩⟩⟩
  ·cases h
 ·have hz4:=hC .post bo cj a2 hK;have hWr:Hid N r2 Wg:=Xr;have BT:=xR (N:=N) (bH:=r2) hWr hNb;let Q4:Goroutine->World->Prop:=λg w=>∃aZ bz a',g=bh aZ (bz++[])/\Vr P true [] (rD P S) (λ_=>Stop) .post aZ bz a'/\(Sees N (λ_=>none) a' w/\(∀b,Hid N r2 b↔Hid N w b)/\r2.heap.size<=w.heap.size/\Kx w/\DV w)/\Rel (Hid N r2) a' w;have hW5:fU P true AtRel (λ_ _ es=>∀e∈es,Vz Wg e) Q4 (bh bo (cj++[])) r2:=hz4.all _ _ _ _ _ BT (λaZ bz a' r' hat hrel hl=>.stop λw₁ h₁=>by obtain⟨h1,h2⟩:=BT.others a' r' w₁ h₁ hrel hl;exact⟨aZ,bz,a',rfl,hat,h2,h1⟩) r2 aaP ⟨aaQ,λ_=>Iff.rfl,aY _,aaN,aaO⟩;obtain⟨N5,gs5,r5,sl5,q5,T5,g5,Zb,UI,F5,hQ5⟩:=D6 (sl:=um) (λ_ _ _ h=>h) hW5 hg2 F2;obtain⟨fr5,fs5,a5,rfl,RU,⟨Zt,RX,Zu,Zv,Zw⟩,RY⟩:=hQ5 r5 (atRel_refl r5);rcases RU with Kb|⟨K',⟨h,_⟩,_⟩
  ·have hid:Hid N r2=Hid N r5:=funext λb=>propext (RX b);rw[hid]at RY;exact⟨N1+N2+N5,_,T5,b9 (b9 IK JQ) Zb,⟨gs5,r5,sl5,fr5,fs5,a5,rfl,UI,Kb,Zv,Zw,.inr ⟨q5,Wg,N,F5,RY,Zt,(RX _).1 hWr,λb hb=>hNb b (cn Zu hb)⟩⟩⟩
  ·cases h
end
section
open Go Go.Conc Go.ConcN
def A9(N:Nat)(ds:Nat->Option Nat)(vs:Nat->Value)(t:Array Value):Array Value:=(List.range N).foldl (λt i=>match ds i with|some s=>t.setIfInBounds s (vs i)|none=>t) t
theorem xr(N:Nat)(ds:Nat->Option Nat)(vs:Nat->Value)(t:Array Value):A9 (N+1) ds vs t=(match ds N with|some s=>(A9 N ds vs t).setIfInBounds s (vs N)|none=>A9 N ds vs t):=by unfold A9;rw[sK,List.foldl_append];rfl
theorem Qa(N:Nat)(ds:Nat->Option Nat)(vs:Nat->Value)(t:Array Value):(A9 N ds vs t).size=t.size:=by
 induction N with
 |zero=>rfl
 |succ N ih=>rw[xr];split<;>simp[ih]
theorem Uf{s:Nat}(h:∀j,j<N->ds j≠some s):(A9 N ds vs t)[s]? =t[s]? :=by
 induction N with
 |zero=>rfl
 |succ N ih=>
  rw[xr];have h1:=ih λj hj=>h j ae;split
  ·rename_i s' e;rw[eH (λe'=>h N ae (by rw[e,e']))];exact h1
  ·exact h1
theorem WT{s:Nat}(hi:i<N)(hs:ds i=some s)(inj:∀i j s,i<N->j<N->ds i=some s->ds j=some s->i=j)(hlt:s<t.size):(A9 N ds vs t)[s]? =some (vs i):=by
 induction N with
 |zero=>omega
 |succ N ih=>
  rw[xr];by_cases h:i=N
  ·subst h;rw[hs];simp only[];rw[fD (by rw[Qa];exact hlt)]
  ·have h1:=ih ae (λi j s h1 h2=>inj i j s ae ae);split
   ·rename_i s' e;rw[eH (λe'=>h (inj i N s ae ae hs (by rw[e,e'])))];exact h1
   ·exact h1
theorem jz{listed:Array Bool}{x:Nat}(hx:x≠i):(sg listed i).getD x false=listed.getD x false:=by rw[cE,cE,show(sg listed i)[x]? =listed[x]? from eH (bp hx)]
theorem nP{listed:Array Bool}(hi:i<listed.size):(sg listed i).getD i false=true:=by rw[cE];simp[sg,hi]
section
variable{main:Bool}{Stop:ι->Frame->List Frame->World->Prop}
structure Yk{G:Type}(N:Nat)(ds:Nat->Option Nat)(val:G->Nat->Value)(a0:Act)(g:G)(listed:Array Bool)(a:Act):Prop where
 size:listed.size=N
 defers:a.defers=a0.defers
 tsize:a.tmps.size=a0.tmps.size
 on:∀j s,j<N->ds j=some s->listed.getD j false=true->a.tmps.getD s undef=val g j
 off:∀s,(∀j,j<N->ds j≠some s)->a.tmps.getD s undef=a0.tmps.getD s undef
theorem Ug{G:Type}{ops:Array Oper}{id:Nat}(bC:ops.size=N)(hm:P.follows .mixedOrders=true)
  (hedge:∀(i:Nat) (o:Oper),ops[i]? =some o->∀e∈o.after,Region.binds .any e=true->e.on<i)
  (ds:Nat->Option Nat)(vx:∀(i:Nat) (o:Oper),ops[i]? =some o->o.dst=ds i)(inj:∀i j s,i<N->j<N->ds i=some s->ds j=some s->i=j)
  (val:G->Nat->Value)(W:G->Array Bool->ι->World->Prop)(g0:G)(p7:ι)(a0:Act)(w0:World)(hlt:∀i s,i<N->ds i=some s->s<a0.tmps.size)
  (h0:∀w,Alike w0 w->W g0 (Array.replicate N false) p7 w)
  (step:∀(g:G) (listed:Array Bool) (i:Nat) (o:Oper) (sQ:ι) (a:Act) (w:World) (rest:List Nat),ops[i]? =some o->i<N->listed.getD i false=false->
   (∀(j:Nat) (o:Oper),ops[j]? =some o->listed.getD j false=true->∀e∈o.after,Region.binds .any e=true->listed.getD e.on false=true)->
   (∀e∈o.after,Region.binds .any e=true->listed.getD e.on false=true)->Yk N ds val a0 g listed a->W g listed sQ w->
   (∀g' qX v w',(∀j,j<N->listed.getD j false=true->val g' j=val g j)->(ds i≠none->v=val g' i)->W g' (sg listed i) qX w'->ZigC P main cs J Stop qX (b.at (a.put o.dst v) (.inRegion ops rest::k)) fs w')->
   ZigC P main cs J Stop sQ (b.at a (.inRegion ops (i::rest)::k)) fs w)
  (hend:∀g listed sQ w,(∀j,j<N->listed.getD j false=true)->W g listed sQ w->ZigC P main cs J Stop sQ (b.at ⟨A9 N ds (val g) a0.tmps,a0.defers⟩ k) fs w):
  ZigC P main cs J Stop p7 (b.at a0 (.code (.region id ops true)::k)) fs w0:=by
 subst bC;refine .walk (DU hm λt=>.stop ?_);refine Ak rfl hedge (λlisted qX a' w'=>∃g,Yk ops.size ds val a0 g listed a'/\W g listed qX w'/\(∀(j:Nat) (o:Oper),ops[j]? =some o->listed.getD j false=true->∀e∈o.after,Region.binds .any e=true->listed.getD e.on false=true))
  (λlisted=>∀i,i<ops.size->listed.getD i false=true) ?_ ?_ ?_ ops.size t _ p7 a0 _ au (zM _) ⟨g0,⟨au,rfl,rfl,λj s hj _ h=>?_,λs _=>rfl⟩,h0 _ ⟨rfl,rfl,rfl⟩,λj o hj h=>?_⟩
 ·rintro listed sQ a' w' i rest hsz ⟨g,T,hW,hcl⟩ Fx hr hnext;obtain⟨mB,o,ho,gv⟩:=mem_ready.1 hr;have lR:i<ops.size:=(aQ.1 ho).1;have gv:∀e∈o.after,Region.binds .any e=true->listed.getD e.on false=true:=gv;have aaR:listed.getD i false=false:=by rw[cE,dI ae]at mB⊢;exact mB
  refine step g listed i o sQ a' w' rest ho lR aaR hcl gv T hW λg' qX v w'' hv hvi qa=>hnext _ _ _ ⟨g',⟨by simp[sg,hsz],(by rw[←T.defers];cases o.dst<;>rfl),?_,λj s hj hs hl=>?_,λs hs=>?_⟩,qa,λj o' sM hl e he hb=>?_⟩
  ·show(a'.put o.dst v).tmps.size=_;rw[←T.tsize];cases o.dst<;>simp[Act.put]
  ·have hdi:=vx i o ho;by_cases e:j=i
   ·subst e;have hd:o.dst=some s:=(by rw[hdi];exact hs);have:=hvi (by rw[hs];simp);subst this;have aaS:=hlt j s hj hs;rw[hd];show(a'.tmps.setIfInBounds s _).getD s undef=_;rw[cE,fD (by rw[T.tsize];exact aaS)];rfl
   ·rw[jz e]at hl;rw[hv j hj hl,←T.on j s hj hs hl,hdi];cases hd:ds i with
    |none=>rfl
    |some s'=>show(a'.tmps.setIfInBounds s' v).getD s undef=_;rw[cE,eH (λe'=>e (inj j i s hj lR hs (by rw[hd,e']))),←cE]
  ·have hdi:=vx i o ho;rw[←T.off s hs,hdi];cases hd:ds i with
   |none=>rfl
   |some s'=>show(a'.tmps.setIfInBounds s' v).getD s undef=_;rw[cE,eH (λe'=>hs i lR (by rw[hd,e'])),←cE]
  ·by_cases e2:e.on=i
   ·rw[e2];exact nP ae
   ·rw[jz e2];by_cases e1:j=i
    ·subst e1;rw[ho]at sM;obtain rfl:=aP sM;exact gv e he hb
    ·rw[jz e1]at hl;exact hcl j o' sM hl e he hb
 ·rintro m t listed sQ a' w' hsz hu hall ⟨g,T,hW,_⟩;have hz:Bh ops.size listed=0:=SE λi hi=>rQ hsz hi (hall i hi);obtain rfl:m=0:=ae;have ha:a'=⟨A9 ops.size ds (val g) a0.tmps,a0.defers⟩:=by
   obtain⟨t',d'⟩:=a';obtain⟨_,hd,UK,E5,bT⟩:=T;simp only at hd UK E5 bT;subst hd;congr 1;apply Array.ext_getElem?;intro s;by_cases hs:∃j,j<ops.size/\ds j=some s
   ·obtain⟨j,hj,hs⟩:=hs;have aaS:=hlt j s hj hs;rw[WT hj hs inj aaS];have:=E5 j s hj hs (hall j hj);rw[cE]at this;rw[dI ae]at this⊢;simpa using this
   ·have hs':∀j,j<ops.size->ds j≠some s:=λj hj e=>hs ⟨j,hj,e⟩;rw[Uf hs'];have:=bT s hs';rw[cE,cE]at this;rcases iC s t'.size with h|CX
    ·rw[dI h,dI ae]at this⊢;simpa using this
    ·rw[kP CX,kP ae]
  rw[ha];exact .pure (λ_=>stepG_region_end) (hend g listed sQ w' hall hW)
 ·intro listed hsz hu i hi;apply cY;intro hc;have:listed.getD i true=false:=by have hl:i<listed.size:=ae;rw[cE,dI hl]at hc⊢;simpa using hc
  have:=Ek (n:=ops.size) ae this;omega
 ·exfalso;rw[cE]at h;simp[mL]at h;split at h<;>simp at h
 ·exfalso;rw[cE]at h;simp[mL]at h;split at h<;>simp at h
def Uh(ops:Array Oper)(N M:Nat)(ds:Nat->Option Nat):Bool:=ops.size==N&&((List.range N).all λi=>(match ops[i]? with|some o=>(o.dst==ds i) &&o.after.all (λe=>!(Region.binds .any e) ||decide (e.on<i))|none=>false) &&(match ds i with|some s=>decide (s<M)|none=>true) &&(List.range N).all λj=>i==j||ds i==none||!(ds i==ds j))
theorem Iu{ops:Array Oper}{M:Nat}(h:Uh ops N M ds=true):ops.size=N/\(∀(i:Nat) (o:Oper),ops[i]? =some o->∀e∈o.after,Region.binds .any e=true->e.on<i)/\(∀(i:Nat) (o:Oper),ops[i]? =some o->o.dst=ds i)/\(∀i j s,i<N->j<N->ds i=some s->ds j=some s->i=j)/\∀i s,i<N->ds i=some s->s<M:=by
 unfold Uh at h;simp only[bK,beq_iff_eq,fT,mJ]at h;obtain⟨h0,h⟩:=h;refine⟨h0,λi o ho e he hb=>?_,λi o ho=>?_,λi j s hi hj h1 h2=>?_,λi s hi hs=>?_⟩
 ·have hi:i<N:=by rw[←h0];exact(aQ.1 ho).1
  have:=(h i hi).1.1;rw[ho]at this;simp only[bK,beq_iff_eq,Cz,uA,uF,decide_eq_true_eq]at this;rcases this.2 e he with h1|h1
  ·rw[hb]at h1;cases h1
  ·exact h1
 ·have hi:i<N:=by rw[←h0];exact(aQ.1 ho).1
  have:=(h i hi).1.1;rw[ho]at this;simp only[bK,beq_iff_eq]at this;exact this.1
 ·have:=(h i hi).2 j hj;rw[h1,h2]at this;simpa using this
 ·have:=(h i hi).1.2;rw[hs]at this;simpa using this
theorem kA(st:Stat P S){ops:Array Oper}{rest:List Nat}{a:Act}{w:World}(hk:b.kind=.normal)(ho:ops[i]? =some o)(hg:o.guard=none)(hok:eV P S b.fn o=true)(wm:∀t,S.ft b.fn t=false)
  (hq:∀τ k,(execOp a.eval o).run P (w.td τ k)=.ok (.value v) (w.td τ k))(h:ZigC P main cs J Stop p7 (b.at (a.put o.dst v) (.inRegion ops rest::k)) fs w):ZigC P main cs J Stop p7 (b.at a (.inRegion ops (i::rest)::k)) fs w:=
 zigC_calm1 st hk ho hg hok wm (.inl hq) h
end
end
section
open Go Go.RowKit
theorem Ix(work:List (List bG))(k:Nat)(hk:k<work.length):fe (work.take (k+1))=fe (work.take k) +(work[k]).length:=by unfold fe;rw[G6 hk,List.map_append,List.sum_append];simp
theorem Iy(work:List (List bG))(k:Nat)(hk:k<work.length):ui (work.take (k+1))=ui (work.take k) +((work[k]).map λc=>c.pairs.length).sum:=by unfold ui;rw[G6 hk,List.map_append,List.sum_append];simp
theorem Qg(work:List (List bG))(hL:∀l∈work,l.length<=140737488355328):fe work<=work.length*140737488355328:=by
 induction work with
 |nil=>simp[fe]
 |cons l r ih=>
  have h1:=hL l au;have h2:=ih λx hx=>hL x (by simp[hx]);have e:fe (l::r)=l.length+fe r:=by simp[fe]
  rw[e,ew,Nat.add_mul,Nat.one_mul];omega
theorem WW(l:List bG)(j:Nat)(hj:j<l.length):((l.take (j+1)).map λc=>c.pairs.length).sum=((l.take j).map λc=>c.pairs.length).sum+(l[j]).pairs.length:=by rw[G6 hj,List.map_append,List.sum_append];simp
def aaU(work:List (List bG))(tn hn:Nat)(w:World)(e:Ending)(w':World):Prop:=∃b,e=.returned (.bool b)/\(b=true->work.length<=16/\tn<=20000/\hn<=1000/\fe work<=600/\ui work<=4000)/\Below w.heap.size w w'
theorem WX(wk tu ha:Option Addr)(wc tn tc hn hc:Nat)(un:Int)(work:List (List bG))(w:World)(h:RowsIn w wk work)(hL:∀l∈work,l.length<=140737488355328/\∀c∈l,c.pairs.length<=140737488355328):
  Calls prog 7 #[.agg (aC wk tu ha work.length wc tn tc hn hc un)] w (aaU work tn hn w):=by
 simp only[aC];have H:=ai h;have HL:=ai hL;clear h hL;go_enter func7,ntmps7
 by_cases h16:work.length<=16
 ·by_cases h20:tn<=20000
  ·by_cases h10:hn<=1000
   ·have e1:decide ((16:Int) < (work.length:Int))=false:=bV;have e2:decide ((20000:Int) < (tn:Int))=false:=bV;have e3:decide ((1000:Int) < (hn:Int))=false:=bV;obtain⟨W,hW⟩:∃W,W=w.alloc (.cells #[.slice wk work.length wc,.slice tu tn tc,.slice ha hn hc,.int .i64 un] 25):=⟨_,rfl⟩;have sW:w.heap.size<=W.heap.size:=(by rw[hW,bI];omega);have oW:∀b,b<w.heap.size->W.heap[b]? =w.heap[b]? :=λb hb=>(by rw[hW];exact eh w _ _ hb);have bW:W.cell? ⟨w.heap.size,0,none⟩=some (.slice wk work.length wc):=(by rw[hW,y6];rfl);have kW:Below w.heap.size w W:=(by rw[hW];exact(iF _ _).alloc (aY _) _);have HI:=ai (H.out.same sW oW);have HK:=ai kW;have HW:=ai hW;clear hW kW oW sW;go_wp2;rw[←HW.out];clear HW;go_loopw [5,3,4] (λi c q wr=>∃(k:Nat) (p:Int),k<=work.length/\i=.int .i64 k/\c=.int .i64 (fe (work.take k):Nat)/\q=.int .i64 p/\0<=p/\p<=140737488359328/\(fe (work.take k)<=600->p<=4000->p=(ui (work.take k):Nat))/\W=wr) (λi _ _ _=>work.length- (intOf i).toNat)
    case atStart=>exact⟨0,0,bj _,rfl,rfl,rfl,ae,ae,λ_ _=>rfl,rfl⟩
    case round=>
     obtain⟨k,p,hk,rfl,rfl,rfl,hp0,Wi,uq,rfl⟩:=hrel;by_cases hlt:k<work.length
     ·obtain⟨l,hl⟩:∃l,work[k]=l:=⟨_,rfl⟩;obtain⟨b,o,v,rfl,hb,hc,a,cap,rfl,hrow⟩:=HI.out k l (by rw[eA hlt,hl]);have MH:=HL.out l (by rw[←hl];exact pP _);have eC:=Ix work k hlt;have eP:=Iy work k hlt;rw[hl]at eC eP;have hCb:=Qg (work.take k) λx hx=>(HL.out x (List.mem_of_mem_take hx)).1;have ae3:(work.take k).length<=16:=bV;have af1:fe (work.take k)<=2251799813685248:=ae;have hwr:IntKind.i64.wrap (((fe (work.take k):Nat):Int) +(l.length:Int))=((fe (work.take (k+1)):Nat):Int):=(by rw[eC,dR];have:=MH.1;omega);have yD:=ai hrow;have Hll:=ai MH;have EC:=ai eC;have EP:=ai eP;have Db:=ai uq;have Hk:=ai hk;clear hrow MH eC eP uq hCb ae3 hk hl;generalize fe (work.take k)=C at*;generalize hC':fe (work.take (k+1))=C' at*;have HC':=ai hC';clear hC';go_wp2;go_loopw [6,4] (λi q wr=>∃(j:Nat) (p':Int),j<=l.length/\i=.int .i64 j/\q=.int .i64 p'/\p<=p'/\p'<=140737488359328/\(C'<=600->p'<=4000->p'=p+(((l.take j).map λc=>c.pairs.length).sum:Nat))/\W=wr) (λi _ _=>l.length- (intOf i).toNat)
      case atStart=>exact⟨0,p,bj _,rfl,rfl,Int.le_refl _,Wi,λ_ _=>au,rfl⟩
      case round=>
       obtain⟨j,p',hj,rfl,rfl,hq0,hq1,NX,rfl⟩:=hrel;have HQ2:=ai NX;have hjb:=Hll.out.1;clear NX;by_cases JJ:j<l.length
       ·by_cases hc6:C'<=600
        ·have d1:decide ((C':Int)<=600)=true:=bV;by_cases IQ:p'<=4000
         ·have d2:decide (p'<=4000)=true:=(by simpa using IQ);obtain⟨b2,o2,rfl,hcall⟩:=yD.out j l[j] (eA JJ);obtain⟨pv,c4,pa,p6,rfl,_⟩:=hcall.c4;have hpl:=Hll.out.2 l[j] (pP _);have ep:=WW l j JJ;have hw2:IntKind.i64.wrap (p'+((l[j]).pairs.length:Int))=p'+((l[j]).pairs.length:Int):=(by rw[dR];omega);have Ep:=ai ep;clear hcall ep;generalize (l[j]).pairs.length=pl at*;go_wp2;go_roundw
          case rel=>exact⟨j+1,p'+pl,ae,gl,rfl,ae,ae,λh1 h2=>by have:=HQ2.out hc6 IQ;have:=Ep.out;omega,trivial⟩
          case measure=>simp[intOf];omega
         ·have d2:decide (p'<=4000)=false:=(by simpa using IQ);go_wp2;go_roundw
          case rel=>exact⟨k+1,p',ae,gl,by rw[HC'.out],rfl,ae,ae,λh1 h2=>absurd h2 IQ,trivial⟩
          case measure=>simp[intOf];omega
        ·have d1:decide ((C':Int)<=600)=false:=bV;go_wp2;go_roundw
         case rel=>exact⟨k+1,p',ae,gl,by rw[HC'.out],rfl,ae,ae,λh1 h2=>by rw[HC'.out]at h1;exact absurd h1 hc6,trivial⟩
         case measure=>simp[intOf];omega
       ·have hjn:j=l.length:=ae;subst hjn;go_wp2;go_roundw
        case rel=>exact⟨k+1,p',ae,gl,by rw[HC'.out],rfl,ae,ae,λh1 h2=>by rw[HC'.out]at h1;have h3:=HQ2.out h1 h2;rw[List.take_length]at h3;have h4:=EC.out;have h5:=EP.out;have h6:=HC'.out;have h7:=Db.out ae ae;omega,trivial⟩
        case measure=>simp[intOf];omega
     ·obtain rfl:k=work.length:=ae;rw[List.take_length]at uq⊢;have Db:=ai uq;have HKo:=HK;clear uq hlt;by_cases hc6:fe work<=600
      ·have d1:decide (((fe work:Nat):Int)<=600)=true:=bV;by_cases IQ:p<=4000
       ·have d2:decide (p<=4000)=true:=(by simpa using IQ);go_wp2;go_ret
        exact⟨true,rfl,λ_=>⟨h16,h20,h10,hc6,by have:=Db.out hc6 IQ;omega⟩,HK.out⟩
       ·have d2:decide (p<=4000)=false:=(by simpa using IQ);go_wp2;go_ret
        exact⟨false,rfl,λh=>bY,HK.out⟩
      ·have d1:decide (((fe work:Nat):Int)<=600)=false:=bV;go_wp2;go_ret
       exact⟨false,rfl,λh=>bY,HK.out⟩
   ·have e1:decide ((16:Int) < (work.length:Int))=false:=bV;have e2:decide ((20000:Int) < (tn:Int))=false:=bV;have e3:decide ((1000:Int) < (hn:Int))=true:=bV;go_wp2;go_ret
    exact⟨false,rfl,λh=>bY,(iF _ _).alloc (aY _) _⟩
  ·have e1:decide ((16:Int) < (work.length:Int))=false:=bV;have e2:decide ((20000:Int) < (tn:Int))=true:=bV;go_wp2;go_ret
   exact⟨false,rfl,λh=>bY,(iF _ _).alloc (aY _) _⟩
 ·have e1:decide ((16:Int) < (work.length:Int))=true:=bV;go_wp2;go_ret
  exact⟨false,rfl,λh=>bY,(iF _ _).alloc (aY _) _⟩
end
section
open Go Go.Conc Go.ConcN
open Go.ConcR (KK WgAt stA smA Payload Aside2 DC0)
variable[Payload]
variable[Inhabited bO]
omit[Payload] [Inhabited bO]in
theorem Me{w:World}(hm:fr.mode=.returning)(hd:fr.defers=[])(hk:fr.kind=.normal)(hf:P.funcs[fr.fn]? =some fn)(hr:fn.results=#[.tmp tm])(hi:P.inits.idxOf? fr.fn=none):
  stepG P true (bh fr []) w=.ended (.done (fr.tmps.getD tm undef)) w #[]:=by
 have hres:(results fn fr.tmps).runT P w #[]=(.ok (fr.tmps.getD tm undef) w,#[]):=by simp[results,hr,go_sem]
 have h1:(results fn fr.tmps).run P w=.ok (fr.tmps.getD tm undef) w:=by simp[results,hr,go_sem]
 have h2:Sem.events P (results fn fr.tmps) w #[]=#[]:=by have:=congrArg Prod.snd hres;simpa using this
 simp[stepG,unwind,hm,hd,hf,h1,h2,doReturn,hi,hk,GStep.after,seen]
omit[Payload] [Inhabited bO]in
theorem Mf{w:World}{a:Goroutine}(F:SF T w):TF P w.heap.size q T #[a]:=by
 refine⟨λi g h1 h2=>?_,λi hi=>?_,⟨λsaid=>noRace_of_lone F.who,λi a ha _=>?_,λi a ha _ g h=>h.elim,λi a ha hX=>?_,λ_ h=>h.elim⟩,λi g hg hne hc=>?_,F.deaf⟩
 ·have:=(aQ.1 h2).1;simp at this;omega
 ·have:=Deaf_other #[] (g:=i) (g':=0) (by simp at hi;omega) T F.who;rw[Array.empty_append]at this;exact this
 ·obtain⟨x,hx,_⟩:=touch_of ha;have:=knows_own hx;rw[F.who x (od hx)]at this;exact .inl this
 ·obtain⟨x,hx,hb⟩:=hX;have:=F.inside i a ha x hx;omega
 ·obtain⟨op,ho,rfl⟩:=km.1 hg;exact absurd (F.who op (od ho)) hne
theorem Uw{Stop:Frame->List Frame->World->Prop}(hr:fn.results=#[.tmp tm])(h:Uc P Stop m T)
  (hS:∀fr fs a,Stop fr fs a->fs=[]/\fr.mode=.returning/\fr.defers=[]/\fr.kind=.normal/\P.funcs[fr.fn]? =some fn/\P.inits.idxOf? fr.fn=none/\fr.tmps.getD tm undef=v)
  (hPost:∀fr fs a r N,Stop fr fs a->Kx r->DV r->Sees N (λ_=>none) a r->Post v r):
  ∃N last o w' t',runNT P (N+1) m T=(.ended o w',t')/\runN P N m=.next last/\step P last=.ended o w'/\Conc.Good P Post last o w' t':=by
 obtain⟨gs,r,sl,fr,fs,a,rfl,hg,hst,RP,JN,hend⟩:=h.ex;obtain⟨rfl,h1,h2,h3,h4,h5,h6⟩:=hS fr fs a hst;have hN:∃N,Sees N (λ_=>none) a r:=by rcases hend with⟨_,_,N,_,h,_⟩|⟨_,_,N,_,_,h,_⟩ <;>exact⟨N,h⟩
 obtain⟨N,fX⟩:=hN;have hF:∃q Wg,TF P Wg q T gs:=by
  rcases hend with⟨hsz,F,_⟩|⟨q,Wg,_,F,_⟩
  ·have e:gs=#[bh fr ([] ++[])]:=(by obtain⟨_,h⟩:=aQ.1 hg;refine Array.ext (by simpa using hsz) λk h1 h2=>?_;have hk:k=0:=(by simp at h2;exact h2);subst hk;exact h);rw[e];exact⟨λ_=>0,_,Mf F⟩
  ·exact⟨q,Wg,F⟩
 obtain⟨q,Wg,F⟩:=hF;refine N6 (zJ:=λ_ _ es=>∀e∈es,Vz Wg e) (λ_ _ _ h=>h) (.stop λw₁ hw=>?_) hg F;obtain⟨d,rfl⟩:=hw;have hs:=Me (P:=P) (w:=r.at d) h1 h2 h3 h4 hr h5;refine⟨rfl,_,_,hs,λe he=>by simp at he,?_⟩;rw[h6];exact hPost fr [] a (r.at d) N hst RP ⟨JN.1,JN.2⟩ ⟨fX.size,fX.os,fX.output,fX.get⟩
end
section
open Go Go.Conc
section
variable{H:Type}{enc:TypeId×Value->H}
theorem yE{a:Assume}{os:Os}{k:(H:Type)->List (DataW H)->Bool}(hk:s.cond=some k){F:Stop.Interp}{conds:List PathCond}{apart fresh handsOn again:Bool}
  (own:ownKnob C.prog.godebug=none)(started:os.Started)(hfn:C.prog.funcs[f]? =some fn)
  (witness:∃(w:World) (tape:Tape) (i:Input),w.os=os/\(w.forCall tape i).Shaped C.prog/\i.vars=[]/\Input.okWide C.prog (w.forCall tape i) .any w.heap.size f i/\
   s.pre6 enc C.prog fn conds apart (w.forCall tape i).memory i.args/\a.holds C.prog (lone (Frame.enter C.prog f i.args .normal) [] (w.forCall tape i)))
  (runs:∀(W:World) (base:Nat) (args:Array Value) (ds gs:List (DataW H)) (before:List MemPlace),
   (∀(j:Nat) t v,fn.params[j]? =some t->args[j]? =some v->Value.okWide C.prog W .any base t v)->DataW.Whole enc C.prog fn.params.toList s.vars apart W args.toList ds gs before->k H (ds++gs)=true->
   ∃N last o w' t',runNT C.prog (N+1) (crowd #[bh (Frame.enter C.prog f args .normal) []] W none) #[]=(.ended o w',t')/\runN C.prog N (crowd #[bh (Frame.enter C.prog f args .normal) []] W none)=.next last/\step C.prog last=.ended o w'/\
    Conc.Good C.prog (λv W'=>(s.at F).post enc C.prog fn apart fresh handsOn again W args v W') last o w' t'):
  ReturnsInLeavingWide a C os f .any (s.pre6 enc C.prog fn conds apart) ((s.at F).post enc C.prog fn apart fresh handsOn again):=by
 refine returnsInLeavingWide_of_good own started witness λw tape i _ _ _ hok afg _=>?_;obtain⟨_,_,_,Q7,afh,_,_,_,_,hval⟩:=hok;obtain rfl:Q7=fn:=aP (afh.symm.trans hfn);obtain⟨ds,gs,before,hw,_,Qo⟩:=(OpenSpec.pre_some hk conds apart _ _).1 afg.1;obtain⟨N,last,o,w',t',h1,h2,h3,h4⟩:=runs (w.forCall tape i) w.heap.size i.args ds gs before hval (DataW.Whole.of_heap (w':=w.forCall tape i) bF hw) Qo;exact⟨N,last,o,w',t',h1,h2,h3,Conc.Good.mono h4 λv hp=>ChangeSpec.post_blind hp⟩
end
theorem holds_leaving{p:Pinned}{c:OpenClaim}(f:FuncId)(fn:Func)(name:c.program=p.name/\c.sum=p.sum/\c.spec=s.name)
  (plain:c.start=.entering/\c.outside=[]/\c.inits=[]/\c.under=none/\(c.initsInPlace=[]/\c.initsUnfollowed=false/\c.initsRecurse=false/\c.initsNamed=[]/\c.initsPassed=[])/\c.noBlocks=false/\c.leaving=true/\c.followed=none/\c.still=false)(afi:c.narrowed=s.cond.isSome)
  (hfn:p.checked.prog.funcNamed c.func=some f)(hf:p.checked.prog.funcs[f]? =some fn)(closed:joinedFacts p.checked.prog f fn s.bare c=true)(adl:fn.isInstance p.checked.prog c.origin c.targs)(adm:fn.isWrapper p.checked.prog c.wrapper c.mainSum)
  (h:∀os:Os,os.Started->∀(H:Type) (enc:TypeId×Value->H) (F:Stop.Interp),ReturnsInLeavingWide c.assume p.checked os f .any (c.pre enc p.checked.prog fn s) ((s.at F).post enc p.checked.prog fn c.apart c.fresh c.handsOn c.again)):c.holds p s:=by
 obtain⟨hn,hs,hsp⟩:=name;obtain⟨hstart,hout,lR,mB,hi4,hnb,hlv,UD,aa3⟩:=plain;simp only[joinedFacts,bK,beq_iff_eq,Cz,fT,decide_eq_true_eq]at closed;obtain⟨⟨⟨⟨⟨⟨⟨⟨⟨⟨⟨⟨⟨⟨⟨⟨⟨⟨⟨⟨⟨⟨⟨⟨⟨⟨⟨⟨⟨⟨⟨k1,k2⟩,k3⟩,k4⟩,k5⟩,k6⟩,k7⟩,k8⟩,k9⟩,k10⟩,k11⟩,k12⟩,k13⟩,k14⟩,k15⟩,k16⟩,k17⟩,afj⟩,k18⟩,k19⟩,k20⟩,k21⟩,k22⟩,k23⟩,afk⟩,k24⟩,afl⟩,afm⟩,k25⟩,k26⟩,k27⟩,k28⟩:=closed;have quiet:∀os:Os,Stop.quiet p.checked.prog os:=λos q hq=>by rw[k9]at hq;cases hq
 have short:c.shortTexts=none:=by
  cases ur:c.shortTexts with
  |none=>rfl
  |some _=>rw[ur]at k23;cases k23
 refine⟨k1,hn,hs,hsp,k2,k3,by unfold OpenClaim.startFits;rw[hstart];exact k24,by unfold OpenClaim.startTold;rw[hstart];exact⟨lR,mB,hi4⟩,f,fn,hfn,hf,⟨k4,k19⟩,(λhb=>by rw[hnb]at hb;cases hb),by unfold OpenClaim.namedList;rw[UD];exact k5,adl,adm,
  k6.trans k7.symm,⟨k8.trans k9.symm,by unfold Program.envWorded;rw[k9];rfl,afk⟩,k10,k11,k12,k13,k14,⟨k15,k27,k28⟩,⟨k16,k20⟩,⟨k17,k21,k25,k26⟩,⟨k22,afl,afm,afj⟩,by rw[hout,afi,short];simp,λn sf=>varReadable_some (k18 n sf),
  ⟨_,by unfold OpenClaim.world;rw[hout,hstart];exact WideRow.started_initial,quiet _⟩,[],by unfold OpenClaim.lists;rw[UD],λos st _ H enc _=>?_⟩
 have CG:os.Started:=by unfold OpenClaim.world at st;rw[hout,hstart]at st;exact st
 rw[OpenClaim.post_not_still aa3];unfold OpenClaim.form;rw[hstart,k6];intro F;rw[show c.okInput=Input.okWide by unfold OpenClaim.okInput;rw[hnb],show c.atReturn p.checked.prog=leavingAtReturn p.checked.prog by unfold OpenClaim.atReturn;rw[hlv],show c.always p.checked.prog []=nothingAlways by unfold OpenClaim.always;rw[UD]];show ReturnsInOpen _ _ _ _ _ _ _ _ (s.post enc p.checked.prog fn F c.outside c.apart c.fresh c.handsOn c.again) _ _;rw[show s.post enc p.checked.prog fn F c.outside c.apart c.fresh c.handsOn c.again=(s.at F).post enc p.checked.prog fn c.apart c.fresh c.handsOn c.again by rw[hout];rfl];exact h os CG H enc F k24
end
end Go.Proofs.YtfmibhmknlnoiaaGreat
