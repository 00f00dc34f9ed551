import Derived.Test.YtfmibhmknlnoiaaGreatQ00
import Derived.Test.YtfmibhmknlnoiaaGreatQ05
import Derived.Test.YtfmibhmknlnoiaaGreatQ03
import Derived.Test.YtfmibhmknlnoiaaGreatQ04
set_option linter.all false
set_option maxRecDepth 100000
set_option maxHeartbeats 4000000
namespace Go.Proofs.YtfmibhmknlnoiaaGreat
open _root_.Go.Proofs.Tryz
variable{ι σ:Type}{c:bG}{C:Act->World->Prop}{Q:Exit->Act->World->Prop}{T ev un:Int}{J:eM σ}{Jm:dA Ph}{S:ba}{cs:List Frame}{U:List Frame->Prop}{zs:List Int}{vQ xs:List Value}{B kN hc i j k lo m o ob sz tc wc x:Nat}{f:Nat×Nat}{u:Nat->Int}{X Y:Nat->Prop}{oA:Obj}{fa ha:Option Addr}{P:Program}{e:TypeId}{ca rv v:Value}{a a' a0 b w' w1:World}
section
open Go Go.Conc Go.ConcN Go.RowKit
theorem L4{c:Code}{a:Act}{w:World}(h:c.wp prog (qO C) a w)(hC:∀a' w',C a' w'->Q .normal a' w'):c.wp prog Q a w:=Code.wp_mono (λe a' w' h=>by cases e<;>first|exact hC _ _ h|exact h.elim) h
section
variable{w wr wi wA w4 w5:World}{wk tu:Option Addr}{cc:bq}{lv lv' T6 P7 pv MD:Value}{l:List bG}{pE:List Value}{o:Obj}
theorem stand_below(h:Below B w w1)(hB:w.heap.size<=B):ng w w1 e:=λg cur hg=>h.block g (fp (aQ.1 hg).1 hB)
theorem WN(hb:Below wr.heap.size wr wi)(hp:pE.length=(l.take j).length)(hrow:wi.ownsRow wr.heap.size 50 5 lv (l.take j).length (gY (l.take j) pE))(FH:∀(i:Nat) (c:bG) (pv:Value),(l.take j)[i]? =some c->pE[i]? =some pv->AZ wi wr.heap.size pv c.pairs)
  (hc:l[j]? =some c)(hbA:Below wi.heap.size wi wA)(h1:wA.grownBy w1 none)(hpr:w1.ownsRow wr.heap.size 53 2 MD c.pairs.length (eO c.pairs))(hdb:wi.heap.size<=ob)(h4:((w1.setCell ⟨ob,4,none⟩ MD).alloc o).grownBy w4 lv.ownBlock)
  (hdt:∃cs,w1.heap[ob]? =some (.cells cs 50 (0,0)))
  (hown:w4.ownsRow wr.heap.size 50 5 lv' ((l.take j).length+1) (gY (l.take j) pE++dZ c MD)):Below wr.heap.size wr w4/\j6 w4 wr.heap.size lv' (l.take (j+1)):=by
 have hs1:=hb.size;have hs2:=hbA.size;have hs3:=h1.size;have Tg:l.take (j+1)=l.take j++[c]:=by rw[List.take_add_one,hc];rfl
 have ada:∀g,lv.ownBlock=some g->wr.heap.size<=g/\g<wi.heap.size:=hrow.lt;have hb1:Below wi.heap.size wi w1:=hbA.grown h1 hs2 λk hk=>G5;have hb2:Below wi.heap.size wi ((w1.setCell ⟨ob,4,none⟩ MD).alloc o):=(hb1.setCell hdb _).alloc (by show wi.heap.size<=(w1.setCell _ _).heap.size;simp[World.setCell];omega) _;have Om:=hb2.size;refine⟨(hb.trans (hb2.mono hs1)).grown h4 ae λg hg=>(ada g hg).1,?_⟩;have stP:ng wi w4 53:=λg cur hg=>by have hl:=(aQ.1 hg).1;rw[h4.block g ae (λe=>?_),hb2.block g hl];obtain⟨cur',hc'⟩:=cP hrow e.symm;rw[hg]at hc';cases hc'
 have aeS:ng w1 w4 53:=λg cur hg=>by
  have hl:=(aQ.1 hg).1;obtain⟨cs,hcs⟩:=hdt;have hne:g≠ob:=λe=>by rw[e,hcs]at hg;cases hg
  have hl2:g< (w1.setCell ⟨ob,4,none⟩ MD).heap.size:=by simp[World.setCell];exact hl
  rw[h4.block g (by rw[bI];omega) (λe=>?_),eh _ _ _ hl2,ah hne];obtain⟨cur',hc'⟩:=cP hrow e.symm;rw[←hb1.block g (ada g e.symm).2,hg]at hc';cases hc'
 have hlen:(l.take (j+1)).length=(l.take j).length+1:=by rw[Tg];simp
 refine⟨pE++[MD],by rw[hlen];simp[hp],?_,λi d pv hd VN=>?_⟩
 ·rw[hlen,Tg,Cm hp.symm];exact hown
 ·rw[Tg]at hd;rcases iC i (l.take j).length with hi|hi
  ·rw[oC hi]at hd;rw[oC ae]at VN;exact row_stand (FH i d pv hd VN) stP
  ·rw[pQ hi]at hd;rw[pQ ae]at VN;have e0:i- (l.take j).length=0:=by
    rcases jH (i- (l.take j).length)with h|h
    ·exact h
    ·rw[xU (by rw[List.length_singleton];exact h)]at hd;cases hd
   rw[e0]at hd;rw[hp,e0]at VN;obtain rfl:c=d:=(by simpa using hd);obtain rfl:MD=pv:=(by simpa using VN);exact row_stand hpr aeS
theorem cp_row(h:wr.ownsRow B e sz lv m xs)(h1:(wr.alloc oA).grownBy w1 none):((w1.setCell ⟨wr.heap.size,4,none⟩ MD).alloc o).ownsRow B e sz lv m xs:=by refine World.ownsRow.alloc (row_keep h λg hg=>?_) _;have hlt:=(h.lt g hg).2;rw[ah ae,h1.block g (by rw[bI];omega) au,eh _ _ _ hlt]
theorem Cn(w:World)(x:Addr)(v:Value)(o:Obj):((w.setCell x v).alloc o).heap[w.heap.size]? =some o:=by have:=heap_alloc_new (w.setCell x v) o;rwa [show(w.setCell x v).heap.size=w.heap.size by simp[World.setCell]]at this
structure CpO(wk tu ha:Option Addr)(wc tc hc:Nat)(un:Int)(cc:bq)(ob k:Nat)(w wr:World)(T6 tv hv:Value)(vQ:List Value):Prop where
 bel:Below w.heap.size w wr
 big:w.heap.size+2<=wr.heap.size
 c:wr.heap[w.heap.size]? =some (.cells (aC wk tu ha cc.work.length wc cc.turns.length tc cc.halt.length hc un) 25 (0,0))
 r:wr.heap[w.heap.size+1]? =some s8
 ge:w.heap.size+2<=ob
 o:wr.heap[ob]? =some (.cells #[T6,tv,hv,.int .i64 un] 25 (0,0))
 rl:vQ.length=k
 row:wr.ownsRow w.heap.size 51 1 T6 k vQ
 rows:∀(q:Nat) (l:List bG) (rv:Value),q<k->cc.work[q]? =some l->vQ[q]? =some rv->j6 wr w.heap.size rv l
 tv:wr.ownsRow w.heap.size 3 1 tv cc.turns.length (eI cc.turns)
 hv:wr.ownsRow w.heap.size 3 1 hv cc.halt.length (eI cc.halt)
theorem T7{tv hv:Value}(O:CpO wk tu ha wc tc hc un cc ob k w wr T6 tv hv vQ)(hl:cc.work[k]? =some l)(hb:Below wr.heap.size wr wi)(hrow:j6 wi wr.heap.size lv l)(hg:(wi.alloc o).grownBy w5 T6.ownBlock)
  (hown:w5.ownsRow w.heap.size 51 1 P7 (k+1) (vQ++[lv])):CpO wk tu ha wc tc hc un cc ob (k+1) w (w5.setCell ⟨ob,0,none⟩ P7) P7 tv hv (vQ++[lv]):=by
 have hs0:=O.bel.size;have hs1:=hb.size;have hol:=(aQ.1 O.o).1;have hcl:=(aQ.1 O.c).1;have yw:=(aQ.1 O.r).1;have hs2:=hg.size;rw[bI]at hs2;have kZ:∀g,g<wi.heap.size->T6.ownBlock≠some g->w5.heap[g]? =wi.heap[g]? :=λg h1 h2=>by rw[hg.block g (by rw[bI];omega) (λe=>h2 e.symm),eh _ _ _ h1]
 have WO:∀{g:Nat} {cur:Array Value} {e:TypeId},wr.heap[g]? =some (.cells cur e (0,0))->e≠51->T6.ownBlock≠some g:=λh hne e=>by obtain⟨cur',hc'⟩:=cP O.row e;rw[h]at hc';cases hc';exact hne rfl
 have h5:∀{g:Nat} {cur:Array Value} {e:TypeId},wr.heap[g]? =some (.cells cur e (0,0))->e≠51->w5.heap[g]? =some (.cells cur e (0,0)):=λ{g cur e} h hne=>by have hlt:=(aQ.1 h).1;rw[kZ _ ae (WO h hne),hb.block _ hlt,h]
 have lS:∀{g:Nat},g≠ob->(w5.setCell ⟨ob,0,none⟩ P7).heap[g]? =w5.heap[g]? :=λh=>ah h _;have sti:∀e,e≠51->e≠25->ng wi (w5.setCell ⟨ob,0,none⟩ P7) e:=λe n1 n2 g cur h=>by
  have hlt:=(aQ.1 h).1;have hne:g≠ob:=λe'=>by rw[e',hb.block _ hol,O.o]at h;cases h;exact n2 rfl
  rw[lS hne,kZ g hlt (λe'=>?_)];obtain⟨cur',hc'⟩:=cP O.row e';rw[←hb.block g (O.row.lt g e').2,h]at hc';cases hc';exact n1 rfl
 have str:∀e,ng wr wi e:=λe=>stand_below hb (aY _);have stt:∀e,e≠51->e≠25->ng wr (w5.setCell ⟨ob,0,none⟩ P7) e:=λe n1 n2 g cur h=>by have h2:=str e g cur h;rw[h]at h2;rw[sti e n1 n2 g cur h2,h2,h]
 refine⟨(O.bel.trans ((hb.mono hs0).trans ⟨hg.os,hg.tape,hg.output,ae,λg Ll=>kZ g ae (λe=>by have:=(O.row.lt g e).1;omega)⟩)).setCell (by have:=O.ge;show w.heap.size<=ob;omega) _,?_,?_,?_,O.ge,?_,by simp[O.rl],?_,λq l' rv hq hl' EU=>?_,row_stand O.tv (stt _ az az),row_stand O.hv (stt _ az az)⟩
 ·have:=O.big;simp[World.setCell];omega
 ·rw[lS (by have:=O.ge;omega)];exact h5 O.c az
 ·rw[lS (by have:=O.ge;omega)];exact h5 O.r az
 ·exact aq (h5 O.o az) _
 ·refine row_keep hown λg hgo=>lS λe=>?_;obtain⟨cur',hc'⟩:=cP hown hgo;rw[e,h5 O.o az]at hc';cases hc'
 ·rcases iC q k with hqk|hqk
  ·rw[oC (by rw[O.rl];exact hqk)]at EU;exact(O.rows q l' rv hqk hl' EU).stand (stt _ az az) (stt _ az az)
  ·obtain rfl:q=k:=ae;rw[hl]at hl';obtain rfl:=aP hl';rw[pQ (by rw[O.rl];exact aY _),O.rl,Nat.sub_self]at EU;obtain rfl:lv=rv:=(by simpa using EU);exact(hrow.base hs0).stand (sti _ az az) (sti _ az az)
end
def WQ(cc:bq)(un:Int)(w:World)(e:Ending)(w':World):Prop:=∃wk tu ha wc tc hc,e=.returned (.agg (aC wk tu ha cc.work.length wc cc.turns.length tc cc.halt.length hc un))/\Below w.heap.size w w'/\
 AllNew w' w.heap.size (.slice wk cc.work.length wc) cc.work/\w'.ownsRow w.heap.size 3 1 (.slice tu cc.turns.length tc) cc.turns.length (eI cc.turns)/\w'.ownsRow w.heap.size 3 1 (.slice ha cc.halt.length hc) cc.halt.length (eI cc.halt)
theorem aaJ{w Wk:World}{wk tu UT ta Yi:Option Addr}{UU tcc hcc:Nat}{cc:bq}{v0 v1 v2 v3:Value}(O:CpO wk tu ha wc tc hc un cc ob cc.work.length w Wk (.slice UT cc.work.length UU) (.slice ta cc.turns.length tcc) (.slice Yi cc.halt.length hcc) vQ):
  let w':=(((Wk.setCell ⟨w.heap.size+1,0,none⟩ v0).setCell ⟨w.heap.size+1,1,none⟩ v1).setCell ⟨w.heap.size+1,2,none⟩ v2).setCell ⟨w.heap.size+1,3,none⟩ v3
  Below w.heap.size w w'/\AllNew w' w.heap.size (.slice UT cc.work.length UU) cc.work/\w'.ownsRow w.heap.size 3 1 (.slice ta cc.turns.length tcc) cc.turns.length (eI cc.turns)/\w'.ownsRow w.heap.size 3 1 (.slice Yi cc.halt.length hcc) cc.halt.length (eI cc.halt):=by
 intro w';have bT:∀y,y≠w.heap.size+1->w'.heap[y]? =Wk.heap[y]? :=λy hy=>by show((((Wk.setCell _ v0).setCell _ v1).setCell _ v2).setCell _ v3).heap[y]? =_;rw[ah hy,ah hy,ah hy,ah hy]
 have st:∀e,e≠25->ng Wk w' e:=λe he g cur h=>bT g λe'=>by rw[e',O.r]at h;cases h;exact he rfl
 refine⟨(((O.bel.setCell (by show _<=w.heap.size+1;omega) _).setCell (by show _<=w.heap.size+1;omega) _).setCell (by show _<=w.heap.size+1;omega) _).setCell (by show _<=w.heap.size+1;omega) _,?_,row_stand O.tv (st _ az),row_stand O.hv (st _ az)⟩;exact AllNew.stand ⟨vQ,O.rl,O.row,λq l rv hq EU=>O.rows q l rv (eL.1 hq).1 hq EU⟩ (st _ az) (st _ az) (st _ az)
theorem T8(wk tu ha:Option Addr)(wc tc hc:Nat)(cc:bq)(un:Int)(w:World)(hR:RowsIn w wk cc.work)(hT:eE w tu cc.turns)(hH:eE w ha cc.halt)(hn:cc.turns.length<=20000/\cc.halt.length<=1000)(hL:cc.work.length<=16/\∀l∈cc.work,l.length<=600/\∀c∈l,c.pairs.length<=4000):
  Calls prog 9 #[.agg (aC wk tu ha cc.work.length wc cc.turns.length tc cc.halt.length hc un)] w (WQ cc un w):=by
 simp only[aC];obtain⟨W,hW⟩:∃W,W=(w.alloc (.cells #[.slice wk cc.work.length wc,.slice tu cc.turns.length tc,.slice ha cc.halt.length hc,.int .i64 un] 25)).alloc (.cells #[.slice none 0 0,.slice none 0 0,.slice none 0 0,.int .i64 0] 25):=⟨_,rfl⟩;obtain⟨hsW,hoW,Ti,ZF⟩:=Ig hW.symm;have Xd:Below w.heap.size w W:=by rw[hW];exact((iF _ _).alloc (aY _) _).alloc (by rw[bI];omega) _
 have hF:=λa hA=>cp_first (cb:=w.heap.size) (rb:=w.heap.size+1) (B:=w.heap.size) (a:=a) (w:=W) (wk:=.slice wk cc.work.length wc) (un:=un) (cc:=cc) (tc:=tc) (hc:=hc) hA Ti (hT.same ae hoW) (hH.same ae hoW) ae hn;simp only[cpCode,f9,Code.l,Code.r,bJ]at hF;have HF:=ai hF;have HR:=ai hR;have HW:=ai hW;have HcW:=ai Ti;have HrW:=ai ZF;have HbW:=ai Xd;have HL:=ai hL;have HsW:=ai hsW;clear hF hR hW Ti ZF hT hH Xd hoW hL hsW;go_enter func9,ntmps9
 go_wp2;rw[←HW.out];refine L4 (HF.out _ (TX.mk ..)) ?_;rintro a' w1 ⟨ob,hA,hb1,CX,tv,hv,ho,rT,rH⟩;have hO:CpO wk tu ha wc tc hc un cc ob 0 w w1 (.slice none 0 0) tv hv []:=by have h1:=HsW.out;have h2:=hb1.size;refine⟨HbW.out.trans (hb1.mono ae),ae,by rw[hb1.block _ ae];exact HcW.out,by rw[hb1.block _ ae];exact HrW.out,ae,ho,rfl,oK _ _ _ _,λq l rv hq=>ae,rT,rH⟩
 have HO:=ai hO;clear hO rT rH ho CX hb1 HW HF HcW HrW HbW HsW;cases hA;have l16:=HL.out.1;go_wp2;go_loopw [4] (λi wr=>∃k:Nat,k<=cc.work.length/\i=.int .i64 k/\∃T6 tv hv vQ,CpO wk tu ha wc tc hc un cc ob k w wr T6 tv hv vQ) (λi _=>cc.work.length- (intOf i).toNat)
 case atStart=>exact⟨0,bj _,rfl,_,_,_,_,HO.out⟩
 case round=>
  obtain⟨k,hk,rfl,T6,tv,hv,vQ,O⟩:=hrel;obtain⟨Wk,rfl⟩:∃x,x=wr:=⟨_,rfl⟩;have bW:=cO O.c 0;have O':=ai O;clear O;by_cases hlt:k<cc.work.length
  ·obtain⟨l,hl⟩:∃l,cc.work[k]? =some l:=⟨_,eA hlt⟩;obtain⟨b,o,v,rfl,hb,Ti,a,cap,rfl,hrow⟩:=HR.out k l hl;have MH:=HL.out.2 l (mX hl);have hlen:=MH.1;have E9:=O'.out.bel.size;have hc:=(O'.out.bel.cell (p:=⟨b,o+k,none⟩) hb).trans Ti;have yD:=ai hrow;have Hl:=ai hl;have Hll:=ai MH.2;clear hrow hl MH;go_wp2;go_loopw [6,5] (λi lv wi=>∃j:Nat,j<=l.length/\i=.int .i64 j/\Below Wk.heap.size Wk wi/\j6 wi Wk.heap.size lv (l.take j)) (λi _ _=>l.length- (intOf i).toNat)
   case atStart=>exact⟨0,bj _,rfl,iF _ _,[],rfl,oK _ _ _ _,λi c pv h=>bY⟩
   case round=>
    obtain⟨j,hj,rfl,hbi,pE,hpl,UB,FH⟩:=hrel;have hcc:=λ(x:Addr) v (h:w.cell? x=some v)=>((hbi.cell (fp (dw w _ h) E9)).trans ((O'.out.bel.cell (dw w _ h)).trans h));have bW':=(hbi.cell (p:=⟨w.heap.size,0,none⟩) (by have:=O'.out.big;show w.heap.size<_;omega)).trans bW;have afW:=hcc _ _ Ti;obtain⟨la,lc,rfl⟩:=dp UB;have Tg:(l.take j).length=j:=(by rw[List.length_take];omega);rw[Tg]at UB hpl⊢;have Hbi:=ai hbi;have Hrw:=ai UB;have Hps:=ai FH;have Hpl:=ai hpl;have Htk:=ai Tg;have Hcc:=ai hcc;clear hbi UB FH hpl hcc Tg;by_cases JJ:j<l.length
    ·obtain⟨b2,o2,rfl,hcall⟩:=yD.out j l[j] (eA JJ);have c0:=Hcc.out _ _ hcall.c0;have c1:=Hcc.out _ _ hcall.c1;have c2:=Hcc.out _ _ hcall.c2;have c3:=Hcc.out _ _ hcall.c3;obtain⟨pv,c4,aaK⟩:=hcall.c4;have c4:=Hcc.out _ _ c4;obtain⟨c,hcj⟩:∃c,l[j]=c:=⟨_,rfl⟩;rw[hcj]at c0 c1 c2 c3 aaK;have Hcj:=ai hcj;clear hcall hcj;have T9:Below w.heap.size w wr:=O'.out.bel.trans (Hbi.out.mono E9);have Ua:∀o j u,(eO c.pairs)[j]? =some u->∀pa p6,pv=.slice pa c.pairs.length p6->∃y,pa=some y/\(wr.alloc o).cell? (y.add j)=some u:=λo j u hu pa p6 e=>(by subst e;exact(aaK.same (w':=wr.alloc o) (by have:=T9.size;rw[bI];omega) (λb hb=>by rw[eh _ _ _ (by have:=T9.size;omega)];exact T9.block b hb)).news j u hu);obtain⟨pa,p6,rfl,Vh⟩:=aaK;have HnA:=ai λo j u hu=>Ua o j u hu pa p6 rfl;obtain⟨ip,hip,zp0,zp1,zp2⟩:=info_parts TV;obtain⟨ic,hic,zq0,zq1,zq2⟩:=info_parts TW;have aeT:c.pairs.length<=4000:=Hll.out c (by rw[←Hcj.out];exact pP _);have Nz:Wk.heap.size<=wr.heap.size:=Hbi.out.size;have afX:=ai T9;have afY:=ai aeT;clear Vh Ua T9;go_wp2_with (at_builtin;first
      |go_loud (
        refine Iq rfl (.tmp 43) 46 rfl Wk.heap.size 53 ip _ 2 16 underlying46 hip zp0 zp1 zp2 rfl az pa c.pairs.length p6 (eO c.pairs) rfl (sZ _) (HnA.out _) (Cl _) iw ae (by rw[bI];omega) ?_;intro MD w1 hpr hg1;have Hpr:=ai hpr;obtain⟨pa',pc',rfl⟩:=dp hpr;clear hpr;have Hg1:=ai hg1;have hd:=(hg1.block wr.heap.size (by rw[bI];omega) au).trans (heap_alloc_new _ _);have d0:=cO hd 0;have d1:=cO hd 1;have d2:=cO hd 2;have d3:=cO hd 3;have d4:=cO hd 4;have z4:=zO hd 4;have hs1:=hg1.size;rw[bI]at hs1;have aeU:=ai (λo=>cp_row (o:=o) (MD:=.slice pa' c.pairs.length pc') Hrw.out hg1);have Hd:=ai hd;clear hd hg1)
      |go_loud (refine wpList_append_lies _ rfl (.tmp 46) (.tmp 48) 51 rfl Wk.heap.size 50 ic _ 5 56 underlying51 hic zq0 zq1 zq2 rfl az (.slice la j lc) j (gY (l.take j) pE) rfl (aeU.out _) ⟨w1.heap.size,0,none⟩ 1 1 (dZ c (.slice pa' c.pairs.length pc')) rfl rfl (pR (cs:=#[.int .i64 c.kind,.int .i64 c.a,.int .i64 c.b,.int .i64 c.c,.slice pa' c.pairs.length pc']) (t:=50) (fr:=(0,0)) (Cn _ _ _ _)) (by simp[dZ,Value.oneCell']) az iw ae (by rw[bI];simp[World.setCell];omega) (w1.heap.size+1) (by rw[bI];simp[World.setCell]) ?_;intro gg cap' w4 MG hg4 afZ ad5))
     go_roundw
     case rel=>exact⟨j+1,ae,gl,WN (c:=c) Hbi.out (by rw[Htk.out];exact Hpl.out) (by rw[Htk.out];exact Hrw.out) Hps.out (by rw[eA JJ,Hcj.out]) ((iF _ _).alloc (aY _) _) Hg1.out Hpr.out (aY _) hg4 ⟨_,Hd.out⟩ (by rw[Htk.out];exact MG)⟩
     case measure=>simp[intOf];omega
    ·obtain rfl:j=l.length:=ae;have hOi:=Hbi.out.block ob (aQ.1 O'.out.o).1;rw[O'.out.o]at hOi;have oD:j6 wr Wk.heap.size (.slice la l.length lc) l:=⟨pE,Hpl.out,by have:=Hrw.out;rwa [List.take_length]at this,by have:=Hps.out;rwa [List.take_length]at this⟩;have aaL:wr.ownsRow w.heap.size 51 1 T6 k vQ:=row_stand O'.out.row (stand_below Hbi.out (aY _));obtain⟨UT,UU,rfl⟩:=dp O'.out.row;have o0:=cO hOi 0;have WO:(Value.slice UT k UU).ownBlock≠some ob:=λe=>(by obtain⟨cur',hc'⟩:=cP aaL e;rw[hOi]at hc';cases hc');have Ej:ob<wr.heap.size:=(aQ.1 hOi).1;have Nz:w.heap.size<=wr.heap.size:=cn E9 Hbi.out.size;have adb:=ai oD;have aeV:=ai aaL;have HOi:=ai hOi;have aeW:=ai WO;clear oD aaL hOi WO;obtain⟨ir,hir,zr0,zr1,zr2⟩:=info_parts WM;go_wp2_with (at_builtin;go_loud (refine wpList_append_lies _ rfl (.tmp 51) (.tmp 53) 23 rfl w.heap.size 51 ir _ 1 24 underlying23 hir zr0 zr1 zr2 rfl az (.slice UT k UU) k vQ rfl (aeV.out.alloc _) ⟨wr.heap.size,0,none⟩ 1 1 [.slice la l.length lc] rfl rfl (pR (cs:=#[.slice la l.length lc]) (t:=51) (fr:=(0,0)) (heap_alloc_new _ _)) qP az iw ae (by rw[bI];omega) (wr.heap.size+1) (by rw[bI]) ?_;intro gg cap' w5 kZ UI RU Wn;have hO5:w5.heap[ob]? =some (.cells #[.slice UT k UU,tv,hv,.int .i64 un] 25 (0,0)):=(by rw[UI.block ob (by rw[bI];omega) (bp aeW.out),eh _ _ _ Ej];exact HOi.out);have o5:w5.cell? ⟨ob,0,none⟩=some (.slice UT k UU):=(by rw[af hO5];rfl);have z5:=zO hO5 0;have TG:=ai kZ;have Hg5:=ai UI;clear hO5 kZ UI RU))
     go_roundw
     case rel=>exact⟨k+1,ae,gl,_,_,_,_,T7 O'.out Hl.out Hbi.out adb.out Hg5.out TG.out⟩
     case measure=>simp[intOf];omega
  ·obtain rfl:k=cc.work.length:=ae;obtain⟨UT,UU,rfl⟩:=dp O'.out.row;obtain⟨ta,tcc,rfl⟩:=dp O'.out.tv;obtain⟨Yi,hcc,rfl⟩:=dp O'.out.hv;have o0:Wk.cell? ⟨ob,0,none⟩=some (.slice UT cc.work.length UU):=(by rw[af O'.out.o];rfl);have o1:Wk.cell? ⟨ob,1,none⟩=some (.slice ta cc.turns.length tcc):=(by rw[af O'.out.o];rfl);have o2:Wk.cell? ⟨ob,2,none⟩=some (.slice Yi cc.halt.length hcc):=(by rw[af O'.out.o];rfl);have o3:Wk.cell? ⟨ob,3,none⟩=some (.int .i64 un):=(by rw[af O'.out.o];rfl);obtain⟨⟨r0,r1,r2,r3⟩,zr0,zr1,zr2,zr3⟩:=ni O'.out.r;go_wp2;try simp only[Exit.then,Exit.inBlock]
   refine bodyPost_ret (v:=.agg #[.slice UT cc.work.length UU,.slice ta cc.turns.length tcc,.slice Yi cc.halt.length hcc,.int .i64 un]) ?_ rfl ?_
   ·simp[results,go_sem, *]
   exact⟨_,_,_,_,_,_,rfl,aaJ O'.out⟩
end
section
open Go Go.Conc Go.ConcN Go.RowKit
variable[Inhabited bO]
def Co(lo:Nat)(w:World)(b:Nat):Option (Nat×Nat):=if lo<=b then(match w.heap[b]? with|some (.cells c _ f)=>if f=(0,0)then some (0,c.size)else none|_=>none)else none
theorem Np{w:World}{b:Nat}(h:Co lo w b≠none):b<w.heap.size:=by
 unfold Co at h;split at h
 ·rcases iC b w.heap.size with hl|hl
  ·exact hl
  ·rw[kP hl]at h;exact absurd rfl h
 ·exact absurd rfl h
theorem P8{w:World}{b:Nat}(h:Co lo w b=some f):f.1=0/\∃c e,w.heap[b]? =some (.cells c e (0,0))/\c.size<=f.2:=by
 unfold Co at h;split at h
 ·split at h
  ·rename_i c e f' he;split at h
   ·rename_i h0;subst h0;obtain rfl:=aP h;exact⟨rfl,c,e,he,aY _⟩
   ·cases h
  ·cases h
 ·cases h
theorem A8{w:World}{b:Nat}{c:Array Value}(h:w.heap[b]? =some (.cells c e (0,0)))(hl:lo<=b):Co lo w b=some (0,c.size):=by unfold Co;rw[if_pos hl,h];simp
theorem vL{w:World}{g:Nat}(h:w.ownsRow lo e sz v m xs)(hg:v.ownBlock=some g):Co lo w g≠none:=by obtain⟨cur,hc⟩:=cP h hg;rw[A8 hc (h.lt g hg).1];simp
theorem EW:∀(l:List bG) (pE:List Value) (i q:Nat) (c:bG) (pv:Value),l[i]? =some c->pE[i]? =some pv->q<5->(gY l pE)[i*5+q]? =(dZ c pv)[q]? :=by
 intro l;induction l with
 |nil=>intro pE i q c pv h;cases h
 |cons d l ih=>
  intro pE i q c pv h1 h2 hq;cases pE with
  |nil=>cases h2
  |cons p pE=>
   have e:gY (d::l) (p::pE)=dZ d p++gY l pE:=(by simp[gY,List.flatMap_cons]);rw[e];cases i with
   |zero=>obtain rfl:d=c:=kO;obtain rfl:p=pv:=qT;rw[oC (by simp[dZ];omega)];congr 1;omega
   |succ i=>rw[pQ (by simp[dZ];omega),←ih pE i q c pv kO qT hq];congr 1;simp[dZ];omega
section
variable{w:World}{cc:bq}{wk tu:Option Addr}
theorem rC(h:w.ownsRow B e sz v m xs)(hp:0<m):∃g cap,v=.slice (some ⟨g,0,none⟩) m cap/\∀j,j<m*sz->w.cell? ⟨g,j,none⟩=xs[j]? :=by obtain⟨g,cap,rfl,_⟩:=h.form hp;exact⟨g,cap,rfl,λj hj=>h.cellAt j hj⟩
theorem aaM{l:List (Int×Int)}(h:AZ w B v l):SlP w v l:=by
 rcases jH l.length with h0|h0
 ·obtain⟨a,c,rfl⟩:=dp h;exact⟨a,c,rfl,λi hi=>ae⟩
 ·obtain⟨g,cap,rfl,hc⟩:=rC h h0;refine⟨_,cap,rfl,λi hi=>⟨_,rfl,?_⟩⟩;obtain⟨h1,h2⟩:=s7 l i hi;refine⟨?_,?_⟩
  ·rw[cM,hc _ ae];exact h1
  ·rw[cM,hc _ ae];exact h2
theorem L5{l:List bG}(h:j6 w lo v l)(hk:J.c.calls k=l):gC J (Co lo w) k w v:=by
 obtain⟨pE,hl,hrow,FH⟩:=h;rcases jH l.length with h0|h0
 ·have hnil:l=[]:=Ip h0;subst hnil;rcases hrow.2 with⟨rfl,_⟩|⟨g,cap,cur,rfl,_⟩
  ·exact⟨0,0,0,.inr ⟨rfl,hk⟩,λhne=>absurd hk hne,λi c hc=>by rw[hk]at hc;cases hc⟩
  ·exact⟨g,0,cap,.inl (by rw[hk]),λhne=>absurd hk hne,λi c hc=>by rw[hk]at hc;cases hc⟩
 ·obtain⟨g,cap,rfl,hc⟩:=rC hrow h0;refine⟨g,0,cap,.inl (by rw[hk]),λ_=>vL hrow rfl,λi c hi=>?_⟩;rw[hk]at hi;have hil:=(eL.1 hi).1;have hpi:pE[i]? =some pE[i]:=eA ae;have hq:∀q,q<5->w.cell? ⟨g,0+i*5+q,none⟩=(dZ c pE[i])[q]? :=λq hq=>by rw[cM,hc _ ae];exact EW l pE i q c _ hi hpi hq
  have Vh:=FH i c _ hi hpi;exact⟨pE[i],hq 0 ae,hq 1 ae,hq 2 ae,hq 3 ae,hq 4 ae,aaM Vh,λy n e hv=>vL Vh (by rw[hv];rfl)⟩
theorem EX(hok:eB (cc.work.map List.length) cc.until_=true)(A:AllNew w lo (.slice wk cc.work.length wc) cc.work)(T:w.ownsRow lo 3 1 (.slice tu cc.turns.length tc) cc.turns.length (eI cc.turns))(H:w.ownsRow lo 3 1 (.slice ha cc.halt.length hc) cc.halt.length (eI cc.halt))(tl:cc.turns.length<100000):
  ∃wb csC eC,wk=some ⟨wb,0,none⟩/\∀(J:eM σ) (a':World),J.c=cc->w.heap.size<=a'.heap.size->(∀y,y<w.heap.size->a'.heap[y]? =w.heap[y]?)->J.L.Rep J.s0 a'->J.L.Ok (Co lo w)->fR J (Co lo w) wb 0 wc tc hc tu ha csC eC a':=by
 have jS:0<cc.work.length:=by unfold eB at hok;simp only[pW,bK,decide_eq_true_eq]at hok;exact hok.1.1
 obtain⟨vQ,yw,hrow,Ub⟩:=A;rcases hrow.2 with⟨_,h0⟩|⟨g,cap,cur,he,hlo,hg,YC,af0,hcs,Tg⟩
 ·omega
 have Y9:wk=some ⟨g,0,none⟩/\wc=cap:=by have:=s9 he;exact⟨this.1,this.2.2⟩
 obtain⟨rfl,rfl⟩:=Y9;refine⟨g,cur,51,rfl,λJ a' hJ hsz hs hr hL=>?_⟩;subst hJ;have cl:∀{x:Addr} {v:Value},w.cell? x=some v->a'.cell? x=some v:=λ{x v} h=>(bP (w:=w) (hs _ (dw w _ h))).trans h;have hcell:∀j,j<J.c.work.length->w.cell? ⟨g,j,none⟩=vQ[j]? :=λj hj=>hrow.cellAt j ae;refine⟨hok,λb f hb=>?_,⟨by rw[hs g (aQ.1 hg).1];exact hg,A8 hg hlo,by show J.c.work.length<=_;omega,by show J.c.work.length<=_;omega⟩,λi hi=>?_,?_,λi hi=>?_,hr,hL,tl⟩
 ·obtain⟨h1,c,e,h2,h3⟩:=P8 hb;exact⟨h1,c,e,by rw[hs b (aQ.1 h2).1];exact h2,h3⟩
 ·have hi:i<J.c.work.length:=hi;obtain⟨l,hl⟩:∃l,J.c.work[i]? =some l:=⟨_,eA hi⟩;have EU:vQ[i]? =some vQ[i]:=eA ae;have hrn:=Ub i l _ hl EU;have hk:J.c.calls i=l:=by unfold bq.calls;rw[cQ,hl];rfl
  obtain⟨pE,h1,h2,h3⟩:=hrn;obtain⟨a,c,hv⟩:=dp h2;refine⟨a,c,by rw[cM,hk];exact cl (by rw[hcell i hi,EU,hv]),?_⟩;rw[hk,←hv];exact(L5 (J:=J) ⟨pE,h1,h2,h3⟩ hk).same λb hb x hx=>by subst hx;exact bP (w:=w) (hs _ (Np hb))
 ·rcases jH J.c.turns.length with h0|h0
  ·rcases T.2 with⟨h1,_⟩|⟨g',cap',cur',h1,h2,h3,_⟩
   ·obtain⟨rfl,_,rfl⟩:=s9 h1;exact .inl ⟨rfl,Ip h0,rfl⟩
   ·obtain⟨rfl,_,_⟩:=s9 h1;exact .inr ⟨g',0,rfl,λi hi=>ae⟩
  ·obtain⟨g',cap',h1,h2⟩:=rC T h0;have hro:=λg (hg:(Value.slice tu J.c.turns.length tc).ownBlock=some g)=>vL T hg;obtain⟨rfl,_,_⟩:=s9 h1;refine .inr ⟨g',0,rfl,λi hi=>⟨hro g' rfl,cl ?_⟩⟩;rw[cM,h2 i ae];unfold eI;rw[ml,eA hi,cQ,eA hi];rfl
 ·obtain⟨g',cap',h1,h2⟩:=rC H ae;have hro:=λg (hg:(Value.slice ha J.c.halt.length hc).ownBlock=some g)=>vL H hg;obtain⟨rfl,_,_⟩:=s9 h1;refine⟨g',0,rfl,cl ?_,hro g' rfl⟩;rw[cM,h2 i ae];unfold eI;rw[ml,eA hi,cQ,eA hi];rfl
theorem check_copy(un:Int)(mB:eB (cc.work.map List.length) un=false)(A:AllNew w lo (.slice wk cc.work.length wc) cc.work)(hl:cc.work.length<100000)(W:World)(hs:∀y,y<w.heap.size->W.heap[y]? =w.heap[y]?)(tn hn:Nat):
  Calls prog 70 #[.agg (aC wk tu ha (cc.work.map List.length).length wc tn tc hn hc un)] W λe w''=>e=.returned (.int .i64 30)/\Below W.heap.size W w'':=by
 obtain⟨vQ,yw,hrow,Ub⟩:=A;rcases jH cc.work.length with h0|h0
 ·have hnil:cc.work=[]:=Ip h0;rw[hnil];simp only[aC,List.map_nil,fS];have hb1:Below W.heap.size W (W.alloc (.cells #[.slice wk 0 wc,.slice tu tn tc,.slice ha hn hc,.int .i64 un] 25)):=(iF _ _).alloc (aY _) _;have Hb:=ai hb1;clear hb1;go_enter func70,ntmps70
  go_wp2;go_ret
  exact⟨rfl,Hb.out⟩
 ·obtain⟨g,cap,hv,hcw⟩:=rC hrow h0;obtain⟨rfl,_,rfl⟩:=s9 hv;refine check_any g 0 wc tn tc hn hc tu ha (cc.work.map List.length) un 30 W (by simpa using hl) (by rw[mB];rfl) λi hi=>?_;rw[pW]at hi;obtain⟨l,MH⟩:∃l,cc.work[i]? =some l:=⟨_,eA hi⟩;have EU:vQ[i]? =some vQ[i]:=eA ae;obtain⟨pE,h1,h2,h3⟩:=Ub i l _ MH EU;obtain⟨a,c,hv'⟩:=dp h2;refine⟨a,c,?_⟩;have hw:w.cell? ⟨g,i,none⟩=some (.slice a l.length c):=by rw[hcw i ae,EU,hv']
  rw[cM,bP (w:=w) (hs g (dw w _ hw)),hw];rw[cQ,ml,MH];rfl
end
structure jy(w w':World):Prop where
 size:w.heap.size<=w'.heap.size
 old:∀(y:Nat) o,w.heap[y]? =some o->o≠cI->w'.heap[y]? =some o
structure gZ(X:Nat->Prop)(w w':World):Prop where
 size:w.heap.size<=w'.heap.size
 old:∀y,y<w.heap.size->¬X y->w'.heap[y]? =w.heap[y]?
theorem jy.refl(w:World):jy w w:=⟨aY _,λ_ _ h _=>h⟩
theorem jy.trans{c:World}(h:jy a b)(g:jy b c):jy a c:=⟨cn h.size g.size,λy o h1 h2=>g.old y o (h.old y o h1 h2) h2⟩
theorem gZ.refl(X:Nat->Prop)(w:World):gZ X w w:=⟨aY _,λ_ _ _=>rfl⟩
theorem gZ.trans{c:World}(h:gZ X a b)(g:gZ X b c):gZ X a c:=⟨cn h.size g.size,λy h1 h2=>(g.old y (fp h1 h.size) h2).trans (h.old y h1 h2)⟩
theorem gZ.weaken(h:gZ X a b)(hXY:∀y,y<a.heap.size->X y->Y y):gZ Y a b:=⟨h.size,λy h1 h2=>h.old y h1 λhx=>h2 (hXY y h1 hx)⟩
theorem gZ.p(h:gZ (λ_=>False) a b):jy a b:=⟨h.size,λy o h1 _=>by rw[h.old y (aQ.1 h1).1 id];exact h1⟩
theorem jy.row(h:jy a b)(hr:a.ownsRow B e sz v m xs):b.ownsRow B e sz v m xs:=row_keep hr λg hg=>by obtain⟨cur,hc⟩:=cP hr hg;rw[hc];exact h.old g _ hc aJ
theorem jy.stand(h:jy a b):ng a b e:=λg cur hg=>by rw[hg];exact h.old g _ hg aJ
structure WS(zs:List Int)(cc:bq)(rv ov:Value)(w:World):Prop where
 len:1<=zs.length/\zs.length<=64
 lie:∀i,i<zs.length->lC (zs.getD i 0)
 ok:eB (cc.work.map List.length) cc.until_=true
 ex:∃m t vs s' va ao no co rS,((dr m zs cc).ar t).goes cc=false/\cc.n<=t/\(gz 20004 zs.length (List.range zs.length)).alone ((dr m zs cc).ar t).s=some (vs,s')/\rv=.agg #[va,.slice ao no co,.int .i64 ((t-cc.n:Nat):Int),.bool (((dr m zs cc).ar t).any cc)]/\
  w.ownsRow 0 45 1 va cc.n rS/\w.ownsRow 0 3 1 ov zs.length (eI vs)/\∀i,i<cc.n->∃sl,rS[i]? =some sl/\AnsAt w sl (((dr m zs cc).ar t).w i).got
def Nq(zs:List Int)(cc:bq)(rv ov:Value)(ev:Int)(w:World):Prop:=(ev≠0/\ov=.slice none 0 0/\rv=.agg #[.slice none 0 0,.slice none 0 0,.int .i64 0,.bool false])\/(ev=0/\WS zs cc rv ov w)
def vM(rv:Value):Prop:=∃a n c a' n' c' st cut,rv=.agg #[.slice a n c,.slice a' n' c',.int .i64 st,.bool cut]
def rX(zs:List Int)(cc:bq)(w0:World)(v:Value)(w:World):Prop:=∃rv ov ev,v=.tuple #[rv,ov,.int .i64 ev]/\vM rv/\(∃a n c,ov=.slice a n c)/\jy w0 w/\∀X:Nat->Prop,(∀y,X y->∃cs,w0.heap[y]? =some (.cells cs 31 (0,0)))->∀w',gZ X w w'->Nq zs cc rv ov ev w'
theorem L6{i i':ι}{cc:bq}(h:ET i a0 i' v a'):i'=i/\rX zs cc a0 v a':=by obtain⟨h1,⟨e,rfl,he⟩,h3,h4⟩:=h;exact⟨h1,_,_,e,rfl,⟨_,_,_,_,_,_,_,_,rfl⟩,⟨_,_,_,rfl⟩,⟨h3,λy o hy _=>by rw[h4 y (aQ.1 hy).1];exact hy⟩,λX _ w' _=>.inl ⟨he,rfl,rfl⟩⟩
theorem Ir{cc:bq}(hlen:1<=zs.length/\zs.length<=64)(P9:∀i,i<zs.length->lC (zs.getD i 0))(hok:eB (cc.work.map List.length) cc.until_=true)(h:ES (dr a0.heap.size zs cc) zs.length a0 v a'):rX zs cc a0 v a':=by
 obtain⟨t,h1,h2,_,h3,h4,vs,s',h5,va,ao,no,co,ov,rS,B,rfl,h6,h7,h8⟩:=h.ex;obtain⟨aa,ca,rfl⟩:=dp h6;obtain⟨oa,oc,rfl⟩:=dp h7;refine⟨_,_,0,rfl,⟨_,_,_,_,_,_,_,_,rfl⟩,⟨_,_,_,rfl⟩,⟨h3,h4⟩,λX hX w' hw=>.inr ⟨rfl,hlen,P9,hok,a0.heap.size,t,vs,s',_,_,_,_,rS,h1,h2,h5,rfl,?_,?_,λi hi=>?_⟩⟩
 ·have hst:∀{B sz m:Nat} {e:TypeId} {v:Value} {xs:List Value},e≠31->a'.ownsRow B e sz v m xs->w'.ownsRow B e sz v m xs:=λhne hr=>row_keep hr λg hg=>by refine hw.old g (hr.lt g hg).2 λhx=>?_;obtain⟨cs,hcs⟩:=hX g hx;obtain⟨cur,hc⟩:=cP hr hg;rw[h4 g _ hcs aJ]at hc;cases hc;exact hne rfl
  exact row_base (hst az h6) (bj _)
 ·have hst:∀{B sz m:Nat} {e:TypeId} {v:Value} {xs:List Value},e≠31->a'.ownsRow B e sz v m xs->w'.ownsRow B e sz v m xs:=λhne hr=>row_keep hr λg hg=>by refine hw.old g (hr.lt g hg).2 λhx=>?_;obtain⟨cs,hcs⟩:=hX g hx;obtain⟨cur,hc⟩:=cP hr hg;rw[h4 g _ hcs aJ]at hc;cases hc;exact hne rfl
  exact row_base (hst az h7) (bj _)
 ·obtain⟨sl,g1,g2⟩:=h8 i hi;refine⟨sl,g1,g2 w' hw.size λy hy hp=>hw.old y hy λhx=>?_⟩;obtain⟨cs,hcs⟩:=hX y hx;exact absurd (hp _ hcs) aJ
section
variable{Stop:Ph->Frame->List Frame->World->Prop}{w:World}{fv:Value}{wk tu:Option Addr}{cc:bq}
theorem Ue(hf:w.ownsRow lo 3 1 fv zs.length (eI zs))(A:AllNew w lo (.slice wk cc.work.length wc) cc.work)(T:w.ownsRow lo 3 1 (.slice tu cc.turns.length tc) cc.turns.length (eI cc.turns))(H:w.ownsRow lo 3 1 (.slice ha cc.halt.length hc) cc.halt.length (eI cc.halt))
  (hz:zs.length<=1000)(mB:cc.until_=un.toNat)(tl:cc.turns.length<100000)(wl:cc.work.length<100000)(hk2:∀k d,d∈cc.calls k->d.kind≠2)
  (hrd:0<cc.n->cc.n<=8->1<=zs.length/\zs.length<=64->(∀i,i<zs.length->lC (zs.getD i 0))->∀m t,∃vs s',(gz 20004 zs.length (List.range zs.length)).alone ((dr m zs cc).ar t).s=some (vs,s')):
  ∃U,CallsM prog true [] (JP prog S [] U) Stop (λ_=>True) .pre 10 #[fv,.agg (aC wk tu ha cc.work.length wc cc.turns.length tc cc.halt.length hc un)] w (λi v a'=>(i=.pre\/i=.post)/\rX zs cc w v a'):=by
 have hU:∀(c:Frame) fs,(λ_=>True:List Frame->Prop) fs->(λ_=>True:List Frame->Prop) (c::fs):=λ_ _ _=>trivial;have hno:∀{v:Value} {i:Ph} {a':World},ET Ph.pre w i v a'->(i=.pre\/i=.post)/\rX zs cc w v a':=λh=>by obtain⟨h1,h2⟩:=L6 (zs:=zs) (cc:=cc) h;exact⟨.inl h1,h2⟩
 obtain⟨a,cap,rfl⟩:=dp hf;let U0:aK->dX:=λd=>(dr w.heap.size zs cc).bE d.W;by_cases h0:zs.length=0
 ·rw[h0];exact⟨U0,(AY (e:=261) (w0:=(_,_)) (w1:=(_,_)) (w2:=(_,_)) rfl rfl rfl az λW _=>new_few a cap W).mono λi v a' h=>hno h⟩
 by_cases h1:64<zs.length
 ·exact⟨U0,(AY (e:=261) (w0:=(_,_)) (w1:=(_,_)) (w2:=(_,_)) rfl rfl rfl az λW _=>new_many a zs.length cap W h1 hz).mono λi v a' h=>hno h⟩
 obtain⟨g,cap',hv,hcell⟩:=rC hf ae;obtain⟨rfl,_,rfl⟩:=s9 hv;have hzs:ij g 0 zs w:=λi hi=>by rw[cM,hcell i ae];unfold eI;rw[ml,eA hi,cQ,eA hi];rfl
 have Ll:g<w.heap.size:=(hf.lt g rfl).2;cases hl:nI zs with
 |false=>exact⟨U0,(AY (e:=263) (w0:=(_,_)) (w1:=(_,_)) (w2:=(_,_)) rfl rfl rfl az λW hW=>new_value g 0 cap zs W (λi hi=>(bP (w:=w) (hW g Ll)).trans (hzs i hi)) ae ae hl).mono λi v a' h=>hno h⟩
 |true=>
  have P9:=(mr zs).1 hl;cases hok:eB (cc.work.map List.length) un with
  |false=>have:=P5 (a0:=w) (Jm:=JP prog S [] U0) (Stop:=Stop) (i:=Ph.pre) (U:=λ_=>True) (cs0:=[]) hU trivial (cap:=cap) (wc:=wc) (tn:=cc.turns.length) (tc:=tc) (hh:=cc.halt.length) (hc:=hc) (wk:=wk) (tu:=tu) (ha:=ha) (lens:=cc.work.map List.length) hzs Ll ⟨ae,ae⟩ hl (by simpa using wl) hok (λW hW=>check_copy un hok A wl W hW _ _);rw[pW]at this;exact⟨U0,this.mono λi v a' h=>hno h⟩
  |true=>have jS:0<cc.work.length/\cc.work.length<=8/\0<=un:=(by unfold eB at hok;simp only[pW,bK,decide_eq_true_eq]at hok;exact⟨hok.1.1,hok.1.2.1,hok.1.2.2.1⟩);have aaR:un=(cc.until_:Int):=(by rw[mB];omega);subst aaR;obtain⟨wb,csC,eC,rfl,hC⟩:=EX (σ:=JS) hok A T H tl;exact⟨U0,(TP (S:=S) (Stop:=Stop) (U:=λ_=>True) (cs0:=[]) hU trivial hzs Ll ⟨ae,ae⟩ hl hok hk2 (λJ a' h1 h2 h3 h4 h5=>hC J a' h1 h2 h3 h4 h5) (λy hy=>Np hy) (λt _=>hrd jS.1 jS.2.1 ⟨ae,ae⟩ P9 _ t)).mono λi v a' ⟨h1,h2⟩=>⟨.inr h1,Ir ⟨ae,ae⟩ P9 hok h2⟩⟩
end
end
section
open Go Go.Conc Go.ConcN Go.RowKit
attribute [local go_sem] aF aG aT aD aO aW aA aB dE cB dF a8
variable[Inhabited bO]
noncomputable def mA:Code:=(f4.body).getD .skip
structure GL where
 fv:Value
 cv:Value
 rv:Value
 ov:Value
 ev:Int
 ob:Nat
def Ns:Nat->Option Nat
 |0=>some 29|1=>some 30|2=>some 31|3=>some 32|4=>some 33|5=>some 28|6=>some 34|7=>some 35|8=>some 36|9=>some 5|11=>some 6|12=>some 7|_=>none
def dL(fi ca:Value)(g:GL):Nat->Value
 |0=>fi|1=>g.fv|2=>ca|3=>g.cv|4=>.tuple #[g.rv,g.ov,.int .i64 g.ev]|5=>.tuple #[g.rv,g.ov,.int .i64 g.ev]|6=>g.rv|7=>g.ov|8=>.int .i64 g.ev|9=>.pointer (some ⟨g.ob,0,none⟩)|11=>g.ov|12=>.int .i64 g.ev|_=>undef
def yX:Value->Array Value
 |.agg cs=>cs
 |_=> #[]
def WU:Array Value:=#[.slice none 0 0,.slice none 0 0,.int .i64 0,.bool false]
theorem Qb{fi:Value}{g:GL}(h:j≠1):dL fi ca {g with fv:=v} j=dL fi ca g j:=by unfold dL;split<;>first|rfl|exact absurd rfl h
theorem Qc{fi:Value}{g:GL}(h:j≠3):dL fi ca {g with cv:=v} j=dL fi ca g j:=by unfold dL;split<;>first|rfl|exact absurd rfl h
theorem Qd{fi:Value}{g:GL}(h:j≠9):dL fi ca {g with ob:=o} j=dL fi ca g j:=by unfold dL;split<;>first|rfl|exact absurd rfl h
theorem Qe{fi ov:Value}{g:GL}(h4:j≠4)(h5:j≠5)(h6:j≠6)(h7:j≠7)(h8:j≠8)(h11:j≠11)(ZN:j≠12):dL fi ca {g with rv:=rv,ov:=ov,ev:=ev} j=dL fi ca g j:=by unfold dL;split<;>first|rfl|exact absurd rfl h4|exact absurd rfl h5|exact absurd rfl h6|exact absurd rfl h7|exact absurd rfl h8|exact absurd rfl h11|exact absurd rfl ZN
section
variable{w:World}(hle:∀{x:Addr} {v:Value},w.cell? x=some v->w'.cell? x=some v/\x.block<w'.heap.size)
include hle
theorem iU{a:Option Addr}{l:List Int}(h:eE w a l):eE w' a l:=λi hi=>by obtain⟨b,o,e,_,h2⟩:=h i hi;exact⟨b,o,e,(hle h2).2,(hle h2).1⟩
theorem L8{l:List (Int×Int)}(h:ju w v l):ju w' v l:=by obtain⟨a,cap,rfl,h⟩:=h;refine⟨a,cap,rfl,λi hi=>?_⟩;obtain⟨b,o,rfl,_,h1,h2⟩:=h i hi;exact⟨b,o,rfl,(hle h1).2,(hle h1).1,(hle h2).1⟩
theorem Qf{b:Nat}(h:xq w b o c):xq w' b o c:=by obtain⟨v,h4,h5⟩:=h.c4;exact⟨(hle h.c0).2,(hle h.c0).1,(hle h.c1).1,(hle h.c2).1,(hle h.c3).1,v,(hle h4).1,L8 hle h5⟩
theorem Ui{l:List bG}(h:yh w v l):yh w' v l:=by obtain⟨a,cap,rfl,h⟩:=h;refine⟨a,cap,rfl,λi c hc=>?_⟩;obtain⟨b,o,rfl,h1⟩:=h i c hc;exact⟨b,o,rfl,Qf hle h1⟩
theorem xt{wk:Option Addr}{work:List (List bG)}(h:RowsIn w wk work):RowsIn w' wk work:=λk l hk=>by obtain⟨b,o,v,rfl,_,h1,h2⟩:=h k l hk;exact⟨b,o,v,rfl,(hle h1).2,(hle h1).1,Ui hle h2⟩
end
structure LW(w1:World)(zs:List Int)(cc:bq)(un:Int)(g:GL)(l:Array Bool)(ι:Ph)(w:World):Prop where
 hold:jy w1 w
 f1:l.getD 1 false=true->w.ownsRow w1.heap.size 3 1 g.fv zs.length (eI zs)
 f3:l.getD 3 false=true->l.getD 4 false=false->∃wk tu ha wc tc hc,g.cv=.agg (aC wk tu ha cc.work.length wc cc.turns.length tc cc.halt.length hc un)/\AllNew w w1.heap.size (.slice wk cc.work.length wc) cc.work/\w.ownsRow w1.heap.size 3 1 (.slice tu cc.turns.length tc) cc.turns.length (eI cc.turns)/\w.ownsRow w1.heap.size 3 1 (.slice ha cc.halt.length hc) cc.halt.length (eI cc.halt)
 pre:l.getD 4 false=false->ι=.pre
 post:l.getD 4 false=true->ι=.post/\vM g.rv/\(∃a n c,g.ov=.slice a n c)/\∀w',gZ (λy=>l.getD 9 false=true/\y=g.ob) w w'->Nq zs cc g.rv g.ov g.ev w'
 f9:l.getD 9 false=true->w1.heap.size<=g.ob/\w.heap[g.ob]? =some (.cells (if l.getD 10 false=true then yX g.rv else WU) 31 (0,0))
section
variable{w:World}{cc:bq}{g:GL}{l:Array Bool}{ι:Ph}
theorem LW.quiet(h:LW w1 zs cc un g l ι w)(n1:i≠1)(n3:i≠3)(n4:i≠4)(n9:i≠9)(n10:i≠10):LW w1 zs cc un g (sg l i) ι w:=by have e:∀x,x≠i->(sg l i).getD x false=l.getD x false:=λx hx=>jz hx;exact⟨h.hold,by rw[e 1 (bp n1)];exact h.f1,by rw[e 3 (bp n3),e 4 (bp n4)];exact h.f3,by rw[e 4 (bp n4)];exact h.pre,by rw[e 4 (bp n4),e 9 (bp n9)];exact h.post,by rw[e 9 (bp n9),e 10 (bp n10)];exact h.f9⟩
theorem LW.copied(h:LW w1 zs cc un g l ι w)(h3:l.getD 3 false=false)(h4:l.getD 4 false=false)(hh:gZ (λ_=>False) w w')(hv:w'.ownsRow w1.heap.size 3 1 v zs.length (eI zs)):LW w1 zs cc un {g with fv:=v} (sg l 1) ι w':=by
 have e:∀x,x≠1->(sg l 1).getD x false=l.getD x false:=λx hx=>jz hx;refine⟨h.hold.trans hh.p,λ_=>hv,λh'=>?_,λ_=>h.pre h4,λh'=>?_,λh'=>?_⟩
 ·rw[e 3 az,h3]at h';cases h'
 ·rw[e 4 az,h4]at h';cases h'
 ·rw[e 9 az]at h';obtain⟨h1,h2⟩:=h.f9 h';rw[e 10 az];exact⟨h1,hh.p.old _ _ h2 aJ⟩
theorem LW.case(h:LW w1 zs cc un g l ι w)(h4:l.getD 4 false=false)(hh:gZ (λ_=>False) w w')
  (hv:∃wk tu ha wc tc hc,v=.agg (aC wk tu ha cc.work.length wc cc.turns.length tc cc.halt.length hc un)/\AllNew w' w1.heap.size (.slice wk cc.work.length wc) cc.work/\w'.ownsRow w1.heap.size 3 1 (.slice tu cc.turns.length tc) cc.turns.length (eI cc.turns)/\w'.ownsRow w1.heap.size 3 1 (.slice ha cc.halt.length hc) cc.halt.length (eI cc.halt)):LW w1 zs cc un {g with cv:=v} (sg l 3) ι w':=by
 have e:∀x,x≠3->(sg l 3).getD x false=l.getD x false:=λx hx=>jz hx;refine⟨h.hold.trans hh.p,λh'=>?_,λ_ _=>hv,λ_=>h.pre h4,λh'=>?_,λh'=>?_⟩
 ·rw[e 1 az]at h';exact hh.p.row (h.f1 h')
 ·rw[e 4 az,h4]at h';cases h'
 ·rw[e 9 az]at h';obtain⟨h1,h2⟩:=h.f9 h';rw[e 10 az];exact⟨h1,hh.p.old _ _ h2 aJ⟩
theorem LW.aaT(h:LW w1 zs cc un g l ι w)(hs:l.size=13)(h10:l.getD 10 false=false){ov:Value}(hr:vM rv)(ho:∃a n c,ov=.slice a n c)(hh:jy w w')(hR:∀X:Nat->Prop,(∀y,X y->∃cs,w.heap[y]? =some (.cells cs 31 (0,0)))->∀w'',gZ X w' w''->Nq zs cc rv ov ev w''):LW w1 zs cc un {g with rv:=rv,ov:=ov,ev:=ev} (sg l 4) .post w':=by
 have e:∀x,x≠4->(sg l 4).getD x false=l.getD x false:=λx hx=>jz hx;have e4:(sg l 4).getD 4 false=true:=nP ae;refine⟨h.hold.trans hh,λh'=>?_,λ_ h'=>?_,λh'=>?_,λ_=>⟨rfl,hr,ho,hR _ λy hy=>?_⟩,λh'=>?_⟩
 ·rw[e 1 az]at h';exact hh.row (h.f1 h')
 ·rw[e4]at h';cases h'
 ·rw[e4]at h';cases h'
 ·rw[e 9 az]at hy;exact⟨_,by rw[hy.2];exact(h.f9 hy.1).2⟩
 ·rw[e 9 az]at h';obtain⟨h1,h2⟩:=h.f9 h';rw[e 10 az];rw[h10]at h2⊢;exact⟨h1,hh.old _ _ h2 aJ⟩
theorem Iw(X:Nat->Prop)(w:World)(o:Obj):gZ X w (w.alloc o):=⟨by rw[bI];omega,λy hy _=>eh _ _ _ hy⟩
theorem gZ.row(h:gZ X w w')(hX:∀y,¬X y)(hr:w.ownsRow B e sz v m xs):w'.ownsRow B e sz v m xs:=row_keep hr λg hg=>h.old g (hr.lt g hg).2 (hX g)
theorem LW.boxed(h:LW w1 zs cc un g l ι w)(h9:l.getD 9 false=false)(h10:l.getD 10 false=false):LW w1 zs cc un {g with ob:=w.heap.size} (sg l 9) ι (w.alloc (.cells WU 31)):=by
 have e:∀x,x≠9->(sg l 9).getD x false=l.getD x false:=λx hx=>jz hx;have hh:=Iw (λ_=>False) w (.cells WU 31);refine⟨h.hold.trans hh.p,λh'=>?_,λh3 h'=>?_,λh'=>?_,λh'=>?_,λh'=>⟨h.hold.size,?_⟩⟩
 ·rw[e 1 az]at h';exact hh.p.row (h.f1 h')
 ·rw[e 3 az]at h3;rw[e 4 az]at h';obtain⟨wk,tu,ha,wc,tc,hc,h1,A,T,H⟩:=h.f3 h3 h';exact⟨wk,tu,ha,wc,tc,hc,h1,A.stand hh.p.stand hh.p.stand hh.p.stand,hh.p.row T,hh.p.row H⟩
 ·rw[e 4 az]at h';exact h.pre h'
 ·rw[e 4 az]at h';obtain⟨h1,h2,h3,h4⟩:=h.post h';refine⟨h1,h2,h3,λw' hw=>h4 w' ⟨cn hh.size hw.size,λy hy _=>?_⟩⟩;rw[hw.old y (by rw[bI];omega) (λhx=>by have:=hx.2;simp only at this;omega)];exact hh.old y hy id
 ·rw[e 10 az,h10];exact heap_alloc_new _ _
theorem LW.stored(h:LW w1 zs cc un g l ι w)(hs:l.size=13)(h4:l.getD 4 false=true)(h9:l.getD 9 false=true)(hw:gZ (λy=>y=g.ob) w w')(ho:w'.heap[g.ob]? =some (.cells (yX g.rv) 31 (0,0))):LW w1 zs cc un g (sg l 10) ι w':=by
 have e:∀x,x≠10->(sg l 10).getD x false=l.getD x false:=λx hx=>jz hx;have e10:(sg l 10).getD 10 false=true:=nP ae;obtain⟨f1,f2⟩:=h.f9 h9;have hne:∀{B sz m:Nat} {e:TypeId} {v:Value} {xs:List Value},e≠31->w.ownsRow B e sz v m xs->w'.ownsRow B e sz v m xs:=λhn hr=>row_keep hr λy hy=>hw.old y (hr.lt y hy).2 λey=>by obtain⟨cur,hc⟩:=cP hr hy;rw[ey,f2]at hc;cases hc;exact hn rfl
 refine⟨⟨cn h.hold.size hw.size,λy o hy hp=>?_⟩,λh'=>?_,λh3 h'=>?_,λh'=>?_,λh'=>?_,λh'=>?_⟩
 ·have hl:=(aQ.1 hy).1;rw[hw.old y (fp hl h.hold.size) ae];exact h.hold.old y o hy hp
 ·rw[e 1 az]at h';exact hne az (h.f1 h')
 ·rw[e 4 az,h4]at h';cases h'
 ·rw[e 4 az,h4]at h';cases h'
 ·obtain⟨h1,h2,h3,h5⟩:=h.post h4;refine⟨h1,h2,h3,λw'' hw''=>h5 w'' ?_⟩;rw[e 9 az]at hw'';exact(hw.weaken λy _ ey=>⟨h9,ey⟩).trans hw''
 ·rw[e10,if_pos rfl];exact⟨f1,ho⟩
end
section
theorem Uj(w:World)(t ty:TypeId)(base:Nat)(e:TypeId)(i:TypeInfo)(z:Value)(size bytes:Nat)(ht:P.underlying t=some (.slice e))(hi:P.info? e=some i)(hz:i.zero=some z)
  (hsize:i.size=size)(hby:i.bytes=bytes)(hzs:z.cells.size=size)(hsz:0<size)
  (ad:Option Addr)(m c:Nat)(news:List Value)(hl:news.length=m*size)(hnews:∀j u,news[j]? =some u->∃y,ad=some y/\w.cell? (y.add j)=some u)(h1:∀u∈news,u.oneCell'=true)
  (h63:m<=maxLen)(hbytes:m*bytes<=140737488355328)(hbase:base<=w.heap.size):
  ∃v w',(Builtin.append_ #[t,t] ty #[.slice none 0 0,.slice ad m c]).run P w=.ok v w'/\w'.ownsRow base e size v m news/\w.grownBy w' none:=by
 rcases jH m with rfl|hm
 ·obtain rfl:news=[]:=Ip (by simpa using hl);exact⟨_,w,kL (P:=P) (w:=w) t ty e i ht hi ad c,oK _ _ _ _,rfl,rfl,rfl,aY _,λ_ _ _=>rfl⟩
 ·have jS:0<news.length:=by rw[hl];exact Nat.mul_pos hm hsz
  obtain⟨x',lL,_⟩:=hnews 0 news[0] (eA jS);subst lL;obtain⟨g,cap,w',h2,h3,h4,_⟩:=run_append_lies (P:=P) w t ty base e i z size bytes ht hi hz hsize hby hzs hsz (.slice none 0 0) 0 [] (oK _ _ _ _) x' m c news hl (λj u hj=>by obtain⟨y,hy,hc⟩:=hnews j u hj;obtain rfl:=aP hy;exact hc) h1 hm ae (by rw[cM];exact hbytes) hbase _ rfl;simp only[cM,kR]at h2 h3;exact⟨_,w',h2,h3,h4⟩
end
section
variable{Stop:Ph->Frame->List Frame->World->Prop}{wk tu:Option Addr}{cb:Nat}{cc:bq}{a0:Act}
structure Yl(w1:World)(zs:List Int)(cc:bq)(rv ov:Value)(ev:Int)(ob:Nat)(w:World):Prop where
 hold:jy w1 w
 ge:w1.heap.size<=ob
 box:w.heap[ob]? =some (.cells (yX rv) 31 (0,0))
 shape:vM rv
 osh:∃a n c,ov=.slice a n c
 res:∀w',gZ (λy=>y=ob) w w'->Nq zs cc rv ov ev w'
noncomputable def Ds:Array Oper:=match mA.r.r.r.l with|.region _ ops _=>ops|_=> #[]
theorem law_reg(hsz:a0.tmps.size=110)(h0:a0.tmps.getD 0 undef=.slice fa zs.length kN)(h3:a0.tmps.getD 3 undef=.pointer (some ⟨cb,0,none⟩))(hcb:w1.heap[cb]? =some (.cells (aC wk tu ha cc.work.length wc cc.turns.length tc cc.halt.length hc un) 25 (0,0)))
  (hF:eE w1 fa zs)(hR:RowsIn w1 wk cc.work)(hT:eE w1 tu cc.turns)(hH:eE w1 ha cc.halt)(hn:cc.turns.length<=20000/\cc.halt.length<=1000)(hL:cc.work.length<=16/\∀l∈cc.work,l.length<=600/\∀c∈l,c.pairs.length<=4000)
  (hz:zs.length<=100)(ae1:cc.until_=un.toNat)(hk2:∀k d,d∈cc.calls k->d.kind≠2)
  (hrd:0<cc.n->cc.n<=8->1<=zs.length/\zs.length<=64->(∀i,i<zs.length->lC (zs.getD i 0))->∀m t,∃vs s',(gz 20004 zs.length (List.range zs.length)).alone ((dr m zs cc).ar t).s=some (vs,s')):
  wpM prog true [] (rD prog S) Stop (λ_=>True) 4 (.region 5 Ds true) (λι e a w=>e=.normal/\ι=.post/\∃g:GL,a=⟨A9 13 Ns (dL (.slice fa zs.length kN) (.agg (aC wk tu ha cc.work.length wc cc.turns.length tc cc.halt.length hc un)) g) a0.tmps,a0.defers⟩/\Yl w1 zs cc g.rv g.ov g.ev g.ob w) .pre a0 w1:=by
 intro b k fs hfn eJ _ hQ;have ht:Uh Ds 13 110 Ns=true:=ax;simp only[Ds,mA,f4,Code.l,Code.r,bJ]at ht⊢;obtain⟨bC,hedge,vx,inj,hlt⟩:=Iu ht;clear ht;refine Ug (N:=13) bC ax hedge Ns vx inj (dL (.slice fa zs.length kN) (.agg (aC wk tu ha cc.work.length wc cc.turns.length tc cc.halt.length hc un))) (LW w1 zs cc un) ⟨undef,undef,undef,undef,0,0⟩ .pre a0 w1 (λi s hi hs=>by rw[hsz];exact hlt i s hi hs) ?_ ?_ ?_
 ·intro w hw;have nl:∀x,(Array.replicate 13 false).getD x false=false:=λx=>by rw[cE];simp[mL];split<;>simp
  refine⟨⟨by rw[hw.heap];exact aY _,λy o h _=>by rw[hw.heap];exact h⟩,λh=>?_,λh=>?_,λ_=>rfl,λh=>?_,λh=>?_⟩ <;> · rw[nl]at h;cases h
 ·intro g l i o sQ a w rest ho hi mB hcl gv T hW hnext;have adf:=T.size;have t0:a.tmps.getD 0 undef=.slice fa zs.length kN:=(T.off 0 az).trans h0;have t3:a.tmps.getD 3 undef=.pointer (some ⟨cb,0,none⟩):=(T.off 3 az).trans h3;have WV:w.heap[cb]? =some (.cells (aC wk tu ha cc.work.length wc cc.turns.length tc cc.halt.length hc un) 25 (0,0)):=hW.hold.old _ _ hcb aJ;have HD:=ai vx;have HE:=ai hedge;clear vx hedge;obtain rfl|rfl|rfl|rfl|rfl|rfl|rfl|rfl|rfl|rfl|rfl|rfl|rfl:i=0\/i=1\/i=2\/i=3\/i=4\/i=5\/i=6\/i=7\/i=8\/i=9\/i=10\/i=11\/i=12:=ae;all_goals (have sM:=ho)
  all_goals (simp only[jh,mP,ma,cu]at ho;subst ho)
  ·
   refine kA (fG _) eJ rfl rfl (by rw[hfn];kernel_rfl) (λ_=>rfl) (λτ k=>?_) (hnext g sQ (.slice fa zs.length kN) w (λ_ _ _=>rfl) (λ_=>rfl) (hW.quiet az az az az az));go_simp
  ·
   have t29:a.tmps.getD 29 undef=_:=T.on 0 29 az rfl (gv ⟨0,.data⟩ au rfl);simp only[dL]at t29;have l3:l.getD 3 false=false:=by
    cases e:l.getD 3 false with
    |false=>rfl
    |true=>have:=hcl 3 _ rfl e ⟨1,.chain⟩ au rfl;rw[mB]at this;cases this
   have l4:l.getD 4 false=false:=by
    cases e:l.getD 4 false with
    |false=>rfl
    |true=>have:=hcl 4 _ rfl e ⟨3,.data⟩ au rfl;rw[l3]at this;cases this
   obtain⟨ii,MJ,MK,ML,MM⟩:=info_parts M6;refine fN (fG _) (.inl eJ) sM rfl (by rw[hfn];kernel_rfl) (D7 _ _) (λτ K hK=>?_);have hFw:eE w fa zs:=λi hi=>(by obtain⟨b',o',e,h1,h2⟩:=hF i hi;obtain⟨o,ho,hne⟩:=gR h2;exact⟨b',o',e,fp h1 hW.hold.size,(bP (w:=w1) ((hW.hold.old _ _ ho hne).trans ho.symm)).trans h2⟩);obtain⟨v,w',hr,hv,hg⟩:=Uj (P:=prog) (w.tp τ) 22 22 w1.heap.size 3 ii _ 1 8 underlying22 MJ MK ML MM rfl az fa zs.length kN (eI zs) (by simp[eI]) hFw.news (oP _) iw ae hW.hold.size;have hK':=hK v w' w' ⟨rfl,rfl,rfl⟩ (hnext {g with fv:=v} sQ v w' (λj hj Bb=>Qb λe=>by rw[e,mB]at Bb;cases Bb) (λ_=>rfl) (hW.copied l3 l4 ⟨hg.size,λy hy _=>hg.block y hy au⟩ hv));have hc:a.eval (.const (.slice none 0 0))=.slice none 0 0:=rfl;have he:a.eval (.tmp 29)=.slice fa zs.length kN:=t29;simp only[execOp,resolve,invoke,builtin,Sem.run_bind,Sem.run_pure,Result.andThen_ok,List.map_toArray,List.map_cons,List.map_nil,hc,he,hr];exact hK'
  ·
   have c0:=cO WV 0;have c1:=cO WV 1;have c2:=cO WV 2;have c3:=cO WV 3;refine kA (fG _) eJ rfl rfl (by rw[hfn];kernel_rfl) (λ_=>rfl) (λτ k=>?_) (hnext g sQ (.agg (aC wk tu ha cc.work.length wc cc.turns.length tc cc.halt.length hc un)) w (λ_ _ _=>rfl) (λ_=>rfl) (hW.quiet az az az az az));simp only[aC];go_simp
  ·
   have t31:a.tmps.getD 31 undef=_:=T.on 2 31 az rfl (gv ⟨2,.data⟩ au rfl);simp only[dL]at t31;have l4:l.getD 4 false=false:=by
    cases e:l.getD 4 false with
    |false=>rfl
    |true=>have:=hcl 4 _ rfl e ⟨3,.data⟩ au rfl;rw[mB]at this;cases this
   refine jT (by rw[eJ];simp) rfl rfl rfl func9 rfl rfl (args:=#[.agg (aC wk tu ha cc.work.length wc cc.turns.length tc cc.halt.length hc un)]) (by simp[Act.eval,t31]) ?_;have hle:∀{x:Addr} {v:Value},w1.cell? x=some v->w.cell? x=some v/\x.block<w.heap.size:=λ{x v} h=>(by obtain⟨o,ho,hne⟩:=gR h;have hl:=(aQ.1 ho).1;exact⟨(bP (w:=w1) ((hW.hold.old _ _ ho hne).trans ho.symm)).trans h,fp hl hW.hold.size⟩);have hRw:=xt @hle hR;have hTw:=iU @hle hT;have hHw:=iU @hle hH;have GX:CallsM prog true [] (rD prog S) Stop (λ_=>True) sQ 9 #[.agg (aC wk tu ha cc.work.length wc cc.turns.length tc cc.halt.length hc un)] w (λi' v w'=>i'=sQ/\gZ (λ_=>False) w w'/\∃wk tu ha wc tc hc,v=.agg (aC wk tu ha cc.work.length wc cc.turns.length tc cc.halt.length hc un)/\AllNew w' w1.heap.size (.slice wk cc.work.length wc) cc.work/\w'.ownsRow w1.heap.size 3 1 (.slice tu cc.turns.length tc) cc.turns.length (eI cc.turns)/\w'.ownsRow w1.heap.size 3 1 (.slice ha cc.halt.length hc) cc.halt.length (eI cc.halt)):=callsM_lone pV ⟨ax,nK ax _⟩ λτ=>(T8 wk tu ha wc tc hc cc un (w.tp τ) (hRw.same (aY _) λ_ _=>rfl) (hTw.same (aY _) λ_ _=>rfl) (hHw.same (aY _) λ_ _=>rfl) hn hL).mono λe w' h=>(by obtain⟨wk',tu',ha',wc',tc',hc',rfl,hb,A,T',H'⟩:=h;have hsz:=hW.hold.size;obtain⟨vQ,q1,q2,q3⟩:=A;exact⟨_,rfl,w',⟨rfl,rfl,rfl⟩,rfl,⟨hb.size,λy hy _=>hb.block y hy⟩,wk',tu',ha',wc',tc',hc',rfl,⟨vQ,q1,row_base q2 hsz,λk l rv x y=>(q3 k l rv x y).base hsz⟩,row_base T' hsz,row_base H' hsz⟩);refine GX _ fs trivial λi' v w' ⟨h1,h2,h3⟩=>?_;subst h1;rw[fy];exact hnext {g with cv:=v} i' v w' (λj hj Bb=>Qc λe=>by rw[e,mB]at Bb;cases Bb) (λ_=>rfl) (hW.case l4 h2 h3)
  ·
   have t30:a.tmps.getD 30 undef=_:=T.on 1 30 az rfl (gv ⟨1,.data⟩ au rfl);have t32:a.tmps.getD 32 undef=_:=T.on 3 32 az rfl (gv ⟨3,.data⟩ au rfl);simp only[dL]at t30 t32;have l10:l.getD 10 false=false:=by
    cases e:l.getD 10 false with
    |false=>rfl
    |true=>have:=hcl 10 _ rfl e ⟨4,.chain⟩ au rfl;rw[mB]at this;cases this
   have l5:l.getD 5 false=false:=by
    cases e:l.getD 5 false with
    |false=>rfl
    |true=>have:=hcl 5 _ rfl e ⟨4,.data⟩ au rfl;rw[mB]at this;cases this
   have Uk:l.getD 6 false=false/\l.getD 7 false=false/\l.getD 8 false=false:=by
    refine⟨?_,?_,?_⟩
    ·cases e:l.getD 6 false with
     |false=>rfl
     |true=>have:=hcl 6 _ rfl e ⟨5,.data⟩ au rfl;rw[l5]at this;cases this
    ·cases e:l.getD 7 false with
     |false=>rfl
     |true=>have:=hcl 7 _ rfl e ⟨5,.data⟩ au rfl;rw[l5]at this;cases this
    ·cases e:l.getD 8 false with
     |false=>rfl
     |true=>have:=hcl 8 _ rfl e ⟨5,.data⟩ au rfl;rw[l5]at this;cases this
   have l11:l.getD 11 false=false/\l.getD 12 false=false:=by
    refine⟨?_,?_⟩
    ·cases e:l.getD 11 false with
     |false=>rfl
     |true=>have:=hcl 11 _ rfl e ⟨7,.data⟩ au rfl;rw[Uk.2.1]at this;cases this
    ·cases e:l.getD 12 false with
     |false=>rfl
     |true=>have:=hcl 12 _ rfl e ⟨8,.data⟩ au rfl;rw[Uk.2.2]at this;cases this
   obtain rfl:=hW.pre mB;have F1:=hW.f1 (gv ⟨1,.data⟩ au rfl);obtain⟨wk',tu',ha',wc',tc',hc',hcv,A,T',H'⟩:=hW.f3 (gv ⟨3,.data⟩ au rfl) mB;obtain⟨U,hU⟩:=Ue (S:=S) (Stop:=λph aZ bz a'=>(ph=.pre\/ph=.post)/\Ph.post=Ph.post/\∃v,rX zs cc w v a'/\aZ=b.at (a.put (some 33) v) (.inRegion Ds rest::k)/\bz=fs) F1 A T' H' ae ae1 ae ae hk2 hrd;refine ZigC.jump (J:=rD prog S) (K:=λi' aZ bz a'=>i'=.post/\∃v,rX zs cc w v a'/\aZ=b.at (a.put (some 33) v) (.inRegion Ds rest::k)/\bz=fs) ⟨rfl,U,?_⟩ ?_
   ·refine jT (by rw[eJ];simp) rfl rfl rfl func10 rfl rfl (args:=#[g.fv,g.cv]) (by simp[Act.eval,t30,t32]) ?_;rw[hcv];exact hU _ fs trivial λi' v w' ⟨h1,h2⟩=>.stop ⟨h1,rfl,v,h2,by rw[fy];rfl,rfl⟩
   ·rintro i' aZ bz a' ⟨rfl,v,hv,rfl,rfl⟩;obtain⟨rv,ov,ev,rfl,ur,ae2,hh,hR'⟩:=hv;exact hnext {g with rv:=rv,ov:=ov,ev:=ev} .post _ a' (λj hj Bb=>Qe (λe=>by rw[e,mB]at Bb;cases Bb) (λe=>by rw[e,l5]at Bb;cases Bb) (λe=>by rw[e,Uk.1]at Bb;cases Bb) (λe=>by rw[e,Uk.2.1]at Bb;cases Bb) (λe=>by rw[e,Uk.2.2]at Bb;cases Bb) (λe=>by rw[e,l11.1]at Bb;cases Bb) (λe=>by rw[e,l11.2]at Bb;cases Bb)) (λ_=>rfl) (hW.aaT adf l10 ur ae2 hh hR')
  ·
   have t33:a.tmps.getD 33 undef=_:=T.on 4 33 az rfl (gv ⟨4,.data⟩ au rfl);simp only[dL]at t33;refine kA (fG _) eJ rfl rfl (by rw[hfn];kernel_rfl) (λ_=>rfl) (λτ k=>?_) (hnext g sQ (.tuple #[g.rv,g.ov,.int .i64 g.ev]) w (λ_ _ _=>rfl) (λ_=>rfl) (hW.quiet az az az az az));go_simp
  ·have t28:a.tmps.getD 28 undef=_:=T.on 5 28 az rfl (gv ⟨5,.data⟩ au rfl);simp only[dL]at t28;refine kA (fG _) eJ rfl rfl (by rw[hfn];kernel_rfl) (λ_=>rfl) (λτ k=>?_) (hnext g sQ g.rv w (λ_ _ _=>rfl) (λ_=>rfl) (hW.quiet az az az az az));go_simp
  ·have t28:a.tmps.getD 28 undef=_:=T.on 5 28 az rfl (gv ⟨5,.data⟩ au rfl);simp only[dL]at t28;refine kA (fG _) eJ rfl rfl (by rw[hfn];kernel_rfl) (λ_=>rfl) (λτ k=>?_) (hnext g sQ g.ov w (λ_ _ _=>rfl) (λ_=>rfl) (hW.quiet az az az az az));go_simp
  ·have t28:a.tmps.getD 28 undef=_:=T.on 5 28 az rfl (gv ⟨5,.data⟩ au rfl);simp only[dL]at t28;refine kA (fG _) eJ rfl rfl (by rw[hfn];kernel_rfl) (λ_=>rfl) (λτ k=>?_) (hnext g sQ (.int .i64 g.ev) w (λ_ _ _=>rfl) (λ_=>rfl) (hW.quiet az az az az az));go_simp
  ·
   have l10:l.getD 10 false=false:=by
    cases e:l.getD 10 false with
    |false=>rfl
    |true=>have:=hcl 10 _ rfl e ⟨9,.data⟩ au rfl;rw[mB]at this;cases this
   refine fN (fG _) (.inl eJ) rfl rfl (by rw[hfn];kernel_rfl) (D7 _ _) (λτ K hK=>?_);go_simp;exact hK _ _ (w.alloc (.cells WU 31)) ⟨rfl,rfl,rfl⟩ (hnext {g with ob:=w.heap.size} sQ _ _ (λj hj Bb=>Qd λe=>by rw[e,mB]at Bb;cases Bb) (λ_=>rfl) (hW.boxed mB l10))
  ·
   have t5:a.tmps.getD 5 undef=_:=T.on 9 5 az rfl (gv ⟨9,.data⟩ au rfl);have t34:a.tmps.getD 34 undef=_:=T.on 6 34 az rfl (gv ⟨6,.data⟩ au rfl);simp only[dL]at t5 t34;have l4:=gv ⟨4,.chain⟩ au rfl;have l9:=gv ⟨9,.data⟩ au rfl;simp only at l4 l9;obtain⟨_,⟨r1,r2,r3,r4,r5,r6,r7,r8,EU⟩,_,_⟩:=hW.post l4;obtain⟨_,IP⟩:=hW.f9 l9;rw[if_neg (by rw[mB];decide)]at IP;have z0:=zO IP 0;have z1:=zO IP 1;have z2:=zO IP 2;have z3:=zO IP 3;have c0:=cO IP 0;have c1:=cO IP 1;have c2:=cO IP 2;have c3:=cO IP 3;rw[EU]at t34;refine fN (fG _) (.inl eJ) rfl rfl (by rw[hfn];kernel_rfl) (D7 _ _) (λτ K hK=>?_);go_simp;have bT:∀y,y≠g.ob->((((w.setCell ⟨g.ob,0,none⟩ (.slice r1 r2 r3)).setCell ⟨g.ob,1,none⟩ (.slice r4 r5 r6)).setCell ⟨g.ob,2,none⟩ (.int .i64 r7)).setCell ⟨g.ob,3,none⟩ (.bool r8)).heap[y]? =w.heap[y]? :=λy hy=>(by rw[ah hy,ah hy,ah hy,ah hy]);refine hK _ _ ((((w.setCell ⟨g.ob,0,none⟩ (.slice r1 r2 r3)).setCell ⟨g.ob,1,none⟩ (.slice r4 r5 r6)).setCell ⟨g.ob,2,none⟩ (.int .i64 r7)).setCell ⟨g.ob,3,none⟩ (.bool r8)) ⟨rfl,rfl,rfl⟩ (hnext g sQ undef _ (λ_ _ _=>rfl) (λh=>absurd rfl h) (hW.stored adf l4 l9 ⟨gF,λy hy hne=>bT y hne⟩ ?_));rw[EU];exact aq (aq (aq (aq IP _) _) _) _
  ·have t35:a.tmps.getD 35 undef=_:=T.on 7 35 az rfl (gv ⟨7,.data⟩ au rfl);simp only[dL]at t35;refine kA (fG _) eJ rfl rfl (by rw[hfn];kernel_rfl) (λ_=>rfl) (λτ k=>?_) (hnext g sQ g.ov w (λ_ _ _=>rfl) (λ_=>rfl) (hW.quiet az az az az az));go_simp
  ·have t36:a.tmps.getD 36 undef=_:=T.on 8 36 az rfl (gv ⟨8,.data⟩ au rfl);simp only[dL]at t36;refine kA (fG _) eJ rfl rfl (by rw[hfn];kernel_rfl) (λ_=>rfl) (λτ k=>?_) (hnext g sQ (.int .i64 g.ev) w (λ_ _ _=>rfl) (λ_=>rfl) (hW.quiet az az az az az));go_simp
 ·intro g l ι w hall hW;obtain⟨h1,h2,h3,h4⟩:=hW.post (hall 4 az);obtain⟨h5,h6⟩:=hW.f9 (hall 9 az);rw[if_pos (hall 10 az)]at h6;exact hQ _ .normal _ _ ⟨rfl,h1,g,rfl,hW.hold,h5,h6,h2,h3,λw' hw=>h4 w' (hw.weaken λy _ e=>⟨hall 9 az,e⟩)⟩
end
end
section
def oQ(l:List Int):Int:=l.foldl (· + ·) 0
def vN(n:Nat)(v:Nat->Int):Int:=oQ ((List.range n).map v)
theorem Iz(l:List Int)(a:Int):l.foldl (· + ·) a=a+oQ l:=by
 unfold oQ;induction l generalizing a with
 |nil=>simp
 |cons x l ih=>simp only[sH];rw[ih,ih (0+x)];omega
theorem Dt(x:Int)(l:List Int):oQ (x::l)=x+oQ l:=by show l.foldl (· + ·) (0+x)=_;rw[Iz];omega
theorem IA(l k:List Int):oQ (l++k)=oQ l+oQ k:=by unfold oQ;rw[List.foldl_append,Iz];rfl
theorem rY(n:Nat)(v:Nat->Int):vN (n+1) v=vN n v+v n:=by unfold vN;rw[sK,List.map_append,IA];simp[oQ]
theorem uj{n:Nat}{v:Nat->Int}(h:∀c,c<n->u c=v c):vN n u=vN n v:=by
 induction n with
 |zero=>rfl
 |succ n ih=>rw[rY,rY,ih (λc hc=>h c ae),h n ae]
theorem Du{l:List Int}{v:Nat->Int}(h:∀(i:Nat) x,l[i]? =some x->v i=x):vN l.length v=oQ l:=by
 unfold vN;congr 1;apply List.ext_getElem
 ·simp
 ·intro i h1 h2;simp only[List.getElem_map,List.getElem_range];exact h i _ (eA h2)
theorem Un{n:Nat}{v:Nat->Int}{c:Nat}(hc:c<n)(h:∀x,x<n->x≠c->u x=v x):vN n u=vN n v+(u c-v c):=by
 induction n with
 |zero=>omega
 |succ n ih=>
  rw[rY,rY];by_cases e:c=n
  ·subst e;rw[uj (n:=c) (u:=u) (v:=v) λx hx=>h x ae ae];omega
  ·rw[ih ae λx hx hne=>h x ae hne,h n ae (bp e)];omega
def vO(es:List cX):Int:=oQ (es.map (·.next))
def EY(es:List cX):Int:=oQ (es.map λe=>aU e.old)
theorem Uo{n:Nat}:∀(es:List cX) (v u:Nat->Int),AP n es->(∀e∈es,v e.cell=aU e.old)->(∀e∈es,u e.cell=e.next)->(∀c,c<n->(∀e∈es,e.cell≠c)->u c=v c)->vN n u=vN n v+vO es-EY es:=by
 intro es;induction es with
 |nil=>intro v u _ _ _ h;rw[uj λc hc=>h c hc (λe he=>by cases he)];simp[vO,EY,oQ]
 |cons e es ih=>
  intro v u hok hv hu ho;have hup:=List.pairwise_cons.1 hok.up;have hm:=ih (λc=>if c=e.cell then u c else v c) u ⟨λx hx=>hok.ok x (gJ _ hx),hup.2⟩ (λx hx=>by
    have:=hup.1 x hx;rw[if_neg ae];exact hv x (gJ _ hx)) (λx hx=>hu x (gJ _ hx)) (λc hc h=>by
    by_cases ec:c=e.cell
    ·rw[if_pos ec]
    ·rw[if_neg ec];exact ho c hc λx hx=>by
      rcases dM.1 hx with rfl|hx
      ·exact bp ec
      ·exact h x hx)
  have h1:=Un (n:=n) (u:=λc=>if c=e.cell then u c else v c) (v:=v) (c:=e.cell) (hok.ok e (jE ..)).1 (λx _ hx=>by rw[if_neg hx]);simp only[if_pos]at h1;rw[hu e (jE ..),hv e (jE ..)]at h1;rw[hm,h1];unfold vO EY;simp only[List.map_cons,Dt];omega
def aaV(n:Nat)(T:Int):vF n where
 A v:=vN n v=T/\∀c,c<n->0<=v c/\v c<=1048575
 D0 es:=vO es=EY es
 D1 es:=∀hs:List Int,hs.length=n->es=rB hs->oQ (hs.map aU)=T/\∀h∈hs,0<=h/\h<=1152921504606846975
 same u v h hu:=⟨by rw[←hu.1];exact(uj h).symm,λc hc=>by rw[←h c hc];exact hu.2 c hc⟩
 turn v es u hA h0 hok hv hu ho:=by
  have:=Uo es v u hok hv hu ho;have h0:vO es=EY es:=h0;obtain⟨hA,hb⟩:vN n v=T/\∀c,c<n->0<=v c/\v c<=1048575:=hA;refine⟨⟨ae,λc hc=>?_⟩,λhs hl he=>⟨?_,λh hh=>?_⟩⟩
  ·by_cases hm:∃e∈es,e.cell=c
   ·obtain⟨e,he,rfl⟩:=hm;rw[hu e he];obtain⟨_,_,_,h1,h2⟩:=hok.ok e he;exact⟨h1,h2⟩
   ·rw[ho c hc λe he hc'=>hm ⟨e,he,hc'⟩];exact hb c hc
  ·have e:(hs.map aU).length=n:=(by simp[hl]);rw[←hA,←e];refine(Du λi x hx=>?_).symm;rw[ml]at hx;cases hh:hs[i]? with
   |none=>rw[hh]at hx;cases hx
   |some y=>rw[hh]at hx;obtain rfl:aU y=x:=(by simpa using hx);have:(⟨i,y,aU y⟩:cX)∈es:=(by rw[he];refine mX (i:=i) ?_;rw[rW,hh];rfl);exact hv _ this
  ·obtain⟨i,hi⟩:=pN.1 hh;have hm:(⟨i,h,aU h⟩:cX)∈es:=(by rw[he];refine mX (i:=i) ?_;rw[rW,hi];rfl);obtain⟨_,h1,h2,_⟩:=hok.ok _ hm;exact⟨h1,h2⟩
theorem IB(hs:List Int):vO (rB hs)=EY (rB hs):=by unfold vO EY;congr 1;refine List.map_congr_left λe he=>(xp he).2
def L9(n:Nat)(T:Int)(c:bG)(a:dO):Prop:=c.kind=4->a.err=0->a.ints.length=n/\oQ a.ints=T/\∀z∈a.ints,0<=z/\z<=1048575
theorem sum_call(F:Nat){n:Nat}(hk:k<8)(c:bG)(s:JS)(hI:JInv (aaV n T) s):(jV F n k c).Safe (JInv (aaV n T)) (JR n) (λa _=>L9 n T c a) s:=by
 unfold jV;by_cases h1:c.kind=1
 ·rw[if_pos h1];exact Pr.Safe.bind (λ_ _ _ _=>Pr.Safe.nN λh=>ae) hI (PH F hI)
 rw[if_neg h1];by_cases h3:c.kind=3
 ·rw[if_pos h3];refine Pr.Safe.bind (λ_ _ _ _=>Pr.Safe.nN λh=>ae) hI (PI F hk (λa b h g x y e=>?_) hI);show vO _=EY _;simp[vO,EY,oQ];omega
 rw[if_neg h3];by_cases h4:c.kind=4
 ·rw[if_pos h4];refine Pr.Safe.bind (λr s' _ h=>?_) hI (PK F hk (λhs _ _=>IB hs) hI);refine Pr.Safe.nN λ_ he=>?_;obtain⟨hs,h1,h2,h3⟩:=h he;show r.1.length=n/\oQ r.1=T/\∀z∈r.1,0<=z/\z<=1048575;rw[h2];obtain⟨h4,h5⟩:=h3 hs h1 rfl;refine⟨by rw[pW];exact h1,h4,λz hz=>?_⟩;obtain⟨h,hh,rfl⟩:=og.1 hz;have:=h5 h hh;unfold aU;omega
 rw[if_neg h4];exact Pr.Safe.nN λh=>absurd h h4
theorem yP{c:bq}(x:AR σ)(hn:0<c.n):x.pick c<c.n:=by
 have hw:∀k∈x.who c,k<c.n:=λk hk=>by unfold AR.who at hk;have:=(List.mem_filter.1 hk).1;simpa using this
 have hD:∀(i:Nat),(x.who c).getD i 0<c.n:=λi=>by
  rw[cQ];cases e:(x.who c)[i]? with
  |none=>exact hn
  |some k=>exact hw k (mX e)
 unfold AR.pick pO;split
 ·exact hD _
 ·cases e:(x.who c).find? λ(k:Nat)=>decide (x.last< (k:Int))with
  |some k=>exact hw k (List.mem_of_find?_eq_some e)
  |none=>
   show(x.who c).headD 0<c.n;cases h:x.who c with
   |nil=>exact hn
   |cons k l=>exact hw k (by rw[h];exact jE ..)
theorem Up{n F:Nat}{Z:vF n}{cc:bq}{s:JS}{Q:Nat->bG->dO->Prop}(hn:0<cc.n)(hI:JInv Z s)(hcall:∀k d s,k<cc.n->d∈cc.calls k->JInv Z s->(jV F n k d).Safe (JInv Z) (JR n) (λa _=>Q k d a) s)(t:Nat):
  (AR.at ⟨jV F n⟩ cc s t).Tw (JInv Z) (JR n) cc Q:=by
 induction t with
 |zero=>exact⟨hI,λk b own p _ h=>bY,λk i a _ h=>bY⟩
 |succ t ih=>exact(AR.PD (L:=⟨jV F n⟩) JR.refl JR.trans hcall ih (yP _ hn)).1
theorem Uq{Z:vF zs.length}(hl:∀i,i<zs.length->lC (zs.getD i 0))(hA:Z.A λc=>zs.getD c 0):JInv Z (AJ zs):=by
 have hw:∀c,c<zs.length->(AJ zs).w c=zs.getD c 0*1099511627776:=λc hc=>G4 zs c hc;have hp:∀c,c<zs.length->0<=(AJ zs).w c:=λc hc=>by have:=(hl c hc).1;rw[hw c hc];omega
 refine⟨mY zs,λ_ _ _ _=>rfl,λd D h=>bY,λc hc=>.inl ⟨hp c hc,?_⟩,λd D e h=>bY,λd D i j e e' h=>bY,λc hc=>?_,Z.same _ _ (λc hc=>?_) hA,λd D h=>bY⟩
 ·have:=(hl c hc).2;rw[hw c hc];omega
 ·rw[JS.my (hp c hc),hw c hc];unfold jB;omega
 ·show zs.getD c 0=aU ((AJ zs).lw c);rw[JS.my (hp c hc),hw c hc];unfold aU;omega
theorem Dv(l:List Int):vN l.length (λc=>l.getD c 0)=oQ l:=Du λi x h=>by rw[cQ,h];rfl
theorem Bc(l:List Int):oQ l=l.sum:=by
 induction l with
 |nil=>rfl
 |cons x l ih=>rw[Dt,ih,List.sum_cons]
theorem IC{cc:bq}(hl:∀i,i<zs.length->lC (zs.getD i 0))(h64:zs.length<=64)(hn:0<cc.n)(h8:cc.n<=8)(t:Nat):
  (∀k (i:Nat) (a:kt) (d:bG),k<cc.n->(((dr m zs cc).ar t).w k).got[i]? =some a->(cc.calls k)[i]? =some d->L9 zs.length zs.sum d a.ans)/\
  ∃vs s',(gz 20004 zs.length (List.range zs.length)).alone ((dr m zs cc).ar t).s=some (vs,s')/\vs.length=zs.length/\vs.sum=zs.sum/\∀z∈vs,0<=z/\z<=1048575:=by
 have hA:(aaV zs.length zs.sum).A λc=>zs.getD c 0:=⟨by rw[Dv,Bc],λc hc=>hl c hc⟩;have hf:=Up (F:=20004) (cc:=cc) (Q:=λ_ d a=>L9 zs.length zs.sum d a) hn (Uq hl hA) (λk d s hk _ hI=>sum_call 20004 ae d s hI) (t-cc.n);refine⟨λk i a d hk ha hd=>?_,?_⟩
 ·obtain⟨d',h1,h2⟩:=hf.got k i a hk ha;rw[hd]at h1;obtain rfl:=aP h1;exact h2
 ·obtain⟨vs,s',h1,_,h3,h4⟩:=Il 20004 ae h64 hf.inv;refine⟨vs,s',h1,h3,?_,λz hz=>?_⟩
  ·have h5:=h4.1;rw[←h3,Dv,Bc]at h5;exact h5
  ·obtain⟨i,hi⟩:=pN.1 hz;have h5:=h4.2 i (by rw[←h3];exact(eL.1 hi).1);simp only[cQ,hi]at h5;exact h5
end
section
open Go Go.Conc Go.ConcN Go.RowKit
attribute [local go_sem] aF aG aT aD aO aW aA aB dE cB dF a8
variable[Inhabited bO]
structure iq(w:World)(fa wk tu ha:Option Addr)(zs:List Int)(cc:bq)(un:Int):Prop where
 F:eE w fa zs
 R:RowsIn w wk cc.work
 T:eE w tu cc.turns
 H:eE w ha cc.halt
 un:cc.until_=un.toNat
 len:zs.length<=140737488355328/\cc.work.length<=140737488355328/\cc.turns.length<=140737488355328/\cc.halt.length<=140737488355328
 rows:∀l∈cc.work,l.length<=140737488355328/\∀c∈l,c.pairs.length<=140737488355328
theorem iq.mono{w:World}{wk tu:Option Addr}{cc:bq}(h:iq w fa wk tu ha zs cc un)(hs:w.heap.size<=w'.heap.size)(hb:∀b,b<w.heap.size->w'.heap[b]? =w.heap[b]?):iq w' fa wk tu ha zs cc un:=⟨h.F.same hs hb,h.R.same hs hb,h.T.same hs hb,h.H.same hs hb,h.un,h.len,h.rows⟩
theorem iq.hold{w:World}{wk tu:Option Addr}{cc:bq}(h:iq w fa wk tu ha zs cc un)(hh:jy w w'):iq w' fa wk tu ha zs cc un:=by
 have hle:∀{x:Addr} {v:Value},w.cell? x=some v->w'.cell? x=some v/\x.block<w'.heap.size:=λ{x v} h=>by obtain⟨o,ho,hne⟩:=gR h;have hl:=(aQ.1 ho).1;exact⟨(bP (w:=w) ((hh.old _ _ ho hne).trans ho.symm)).trans h,fp hl hh.size⟩
 exact⟨iU @hle h.F,xt @hle h.R,iU @hle h.T,iU @hle h.H,h.un,h.len,h.rows⟩
theorem eE.sl{w:World}{a:Option Addr}{l:List Int}{cap:Nat}(h:eE w a l):Ke w (.slice a l.length cap) l:=⟨a,cap,rfl,λi hi=>by obtain⟨b,o,e,_,h2⟩:=h i hi;exact⟨_,e,rfl,h2⟩⟩
theorem Ke.at{w:World}{l:List Int}(h:Ke w v l)(hc:∀(x:Addr) u,w.cell? x=some u->w'.cell? x=some u):Ke w' v l:=by obtain⟨a,cap,rfl,h⟩:=h;refine⟨a,cap,rfl,λi hi=>?_⟩;obtain⟨x,e,h1,h2⟩:=h i hi;exact⟨x,e,h1,hc _ _ h2⟩
theorem Qh{w:World}{l:List Int}(h:w.ownsRow B 3 1 v l.length (eI l)):Ke w v l:=by
 rcases jH l.length with h0|h0
 ·obtain⟨a,c,rfl⟩:=dp h;exact⟨a,c,rfl,λi hi=>ae⟩
 ·obtain⟨g,cap,rfl,hc⟩:=rC h h0;refine⟨_,cap,rfl,λi hi=>⟨_,rfl,rfl,?_⟩⟩;rw[cM,hc i ae];unfold eI;rw[ml,eA hi,cQ,eA hi];rfl
inductive aaW(fi cv ov ev:Value)(cb ob:Nat):Act->Prop
 |mk (u2 u4 u8 u9 sr mF mG mb lr kE u16 ku kF kG kH mf mg u23 u24 mh u26 kI u28 kJ kK lu u32 u33 lx ly lz lA mi mj mD ny nz pq u44 pw nA nB nC nD nE nG nH si sj tS tT wK wL wM wN wO wP wQ u64 wR wT Gn Gp Gq BN BO BP Eb Ec Ed Ee Ef Gr Gs Gt Ky Kz KA KB KC KD KE KF KG KH KI KJ KL KM VX VY VZ V0 V2 Em En Eo Er Es Et ae4 ae5 ae6 ae7:Value):aaW fi cv ov ev cb ob {tmps:=#[fi,cv,u2,.pointer (some ⟨cb,0,none⟩),u4,.pointer (some ⟨ob,0,none⟩),ov,ev,u8,u9,sr,mF,mG,mb,lr,kE,u16,ku,kF,kG,kH,mf,mg,u23,u24,mh,u26,kI,u28,kJ,kK,lu,u32,u33,lx,ly,lz,lA,mi,mj,mD,ny,nz,pq,u44,pw,nA,nB,nC,nD,nE,nG,nH,si,sj,tS,tT,wK,wL,wM,wN,wO,wP,wQ,u64,wR,wT,Gn,Gp,Gq,BN,BO,BP,Eb,Ec,Ed,Ee,Ef,Gr,Gs,Gt,Ky,Kz,KA,KB,KC,KD,KE,KF,KG,KH,KI,KJ,KL,KM,VX,VY,VZ,V0,V2,Em,En,Eo,Er,Es,Et,ae4,ae5,ae6,ae7],defers:=[]}
section
variable{main:Bool}{Stop:Ph->Frame->List Frame->World->Prop}{ι:Ph}{w:World}{wk tu:Option Addr}{cc:bq}{cb:Nat}{ov:Value}{cv:Value}
def adg(a0:World)(ι:Ph)(e:Exit)(a:Act)(w:World):Prop:=e=.ret/\a.defers=[]/\(results f4 a.tmps).run prog w=.ok (.bool true) w/\jy a0 w
theorem sums_after{a:Act}(hA:aaW (.slice fa zs.length kN) cv ov (.int .i64 ev) cb ob a)(hL:iq w fa wk tu ha zs cc un)(hcb:w.heap[cb]? =some (.cells (aC wk tu ha cc.work.length wc cc.turns.length tc cc.halt.length hc un) 25 (0,0)))
  (hI:Yl w1 zs cc rv ov ev ob w)(hh:jy a0 w):wpM prog main cs Jm Stop U 4 mA.r.r.r.r (adg a0) ι a w:=by
 have hcs:=kY;simp only[mA,f4,Code.l,Code.r,bJ];have hR:=hI.res w (gZ.refl _ _);obtain⟨oa,on,oc,rfl⟩:=hI.osh;have hI':=hI;have HL:=ai hL;have HI:=ai hI;have HH:=ai hh;have Hcb:=ai hcb;clear hL hI hh hcb;cases hA;rcases hR with⟨Jv,yu,EU⟩|⟨Jv,Y⟩
 ·obtain⟨rfl,rfl,rfl⟩:=s9 yu;have hne:(ev !=0)=true:=by simpa using Jv
  refine wpM_seq (wpM_seq (l3 hcs (λτ=>?_)));go_wp2;refine qK ?_;refine aH (t:=true) (by simp[Act.eval,hne]) ?_;simp only[if_true];refine eG λτ=>?_;refine bn ?_;exact⟨rfl,rfl,gU,HH.out⟩
 subst Jv;have HY:=ai Y;clear Y;refine xe λτ=>?_;refine Bl ?_;try simp only[Exit.then]
 have P9:∀z∈zs,0<=z/\z<=1048575:=λz hz=>by obtain⟨i,hi⟩:=pN.1 hz;have:=HY.out.lie i (eL.1 hi).1;rw[cQ,hi]at this;exact this
 have Rv:=λτ=>lsum_any (.slice fa zs.length kN) zs (w.tp τ) (HL.out.F.sl.at λ_ _ h=>h) P9 (by have:=HY.out.len;omega);have adh:=ai Rv;clear Rv;refine wpM_seq (wpM_lone pV hcs ax AG (nK ax _) (λτ=>?_));go_wp2_with fail
 refine(adh.out τ).mono ?_;rintro e w' ⟨rfl,rfl⟩;go_wp2_with fail
 refine⟨w,⟨rfl,rfl,rfl⟩,?_⟩;try simp only[Exit.then]
 obtain⟨m,t,vs,s',va,ao,no,co,rS,hgo,hnt,qd,EU,MU,yu,jA⟩:=HY.out.ex;obtain⟨h8a,h8b⟩:0<cc.n/\cc.n<=8:=by have:=HY.out.ok;unfold eB at this;simp only[pW,bK,decide_eq_true_eq]at this;exact⟨this.1.1,this.1.2.1⟩
 have Ur:=(vJ HY.out.ok).2.2;have af2:=HY.out.len.2;obtain⟨oa',oc',Ap⟩:=dp yu;obtain⟨rfl,rfl,rfl⟩:=s9 Ap;clear Ap;obtain⟨aaX,vs',s2,adi,XI,Ym,hvb⟩:=IC (m:=m) HY.out.lie HY.out.len.2 h8a h8b t;rw[qd]at adi;obtain⟨rfl,rfl⟩:=Prod.mk.inj (aP adi);have Ll:∀k,(((dr m zs cc).ar t).w k).got.length<=(cc.calls k).length:=λk=>AR.at_len _ _ _ _ k;have aaY:=ai Ur;clear Ur;obtain⟨got,hgot⟩:∃got:Nat->List kt,∀k,(((dr m zs cc).ar t).w k).got=got k:=⟨_,λ_=>rfl⟩;simp only[hgot]at aaX Ll jA;have jU:=hI'.box;rw[EU]at jU;simp only[yX]at jU;obtain⟨aa,ca,rfl⟩:=dp MU;obtain⟨ag,agc,fB,Us⟩:=rC MU h8a;obtain⟨rfl,_,rfl⟩:=s9 fB;have hn:cc.n=cc.work.length:=rfl;rw[hn]at*;rw[←XI]at yu;have adj:=Qh yu;have ae8:=ai adj;clear adj;generalize ((t-cc.work.length:Nat):Int)=st at*;generalize ((dr m zs cc).ar t).any cc=cut at*;have b0:=cO jU 0;have q0:=cO Hcb.out 0;have Ej:=dw w _ b0;have af3:=dw w _ q0;have HcA:=ai Us;have HB0:=ai b0;have HQ0:=ai q0;have aaI:=ai jA;have ae9:=ai aaX;have Hgl:=ai Ll;have Hvb:=ai hvb;have Hvs:=ai Ym;have Hvl:=ai XI;have Hov:=ai yu;clear hgo hnt qd EU MU hgot Us b0 q0 jA aaX Ll hvb Ym XI yu jU HY hn adh fB;have h8:cc.work.length<=8:=h8b;clear h8a h8b;refine wpM_seq (wpM_lone pV hcs ax AG (nK ax _) (λτ=>?_));go_wp2;go_loopw [9] (λi wr=>∃k:Nat,k<=cc.work.length/\i=.int .i64 k/\Below w.heap.size w (wr.tp w.tape)) (λi _=>cc.work.length- (intOf i).toNat)
 case atStart=>exact⟨0,bj _,rfl,iF _ _⟩
 case round=>
  obtain⟨k,hk,rfl,dx⟩:=hrel;have kp:∀(x:Addr) (v:Value),w.cell? x=some v->wr.cell? x=some v:=λx v h=>(dx.cell (dw w _ h)).trans h;have b0:=kp _ _ HB0.out;have jq:=ai dx;have Hkp:=ai kp;clear dx kp;by_cases hlt:k<cc.work.length
  ·obtain⟨sl,Bj,al,afa,rfl,han⟩:=aaI.out k hlt;have aaZ:w.cell? ⟨ag,k,none⟩=some (.slice al (got k).length afa):=(by rw[HcA.out k (by show k<cc.work.length*1;omega),Bj]);have af4:=Hkp.out _ _ aaZ;have af5:(got k).length<=64:=cn (Hgl.out k) (aaY.out k);have afb:=ai aaZ;have Han:=ai han;clear aaZ han Bj;go_wp2;go_loopw [10] (λi wr2=>∃j:Nat,j<=(got k).length/\i=.int .i64 j/\Below w.heap.size w (wr2.tp w.tape)) (λi _=>(got k).length- (intOf i).toNat)
   case atStart=>exact⟨0,bj _,rfl,jq.out⟩
   case round=>
    obtain⟨j,hj,rfl,yi⟩:=hrel;have kp2:∀(x:Addr) (v:Value),w.cell? x=some v->wr.cell? x=some v:=λx v h=>(yi.cell (dw w _ h)).trans h;have b0':=kp2 _ _ HB0.out;have afv:=kp2 _ _ afb.out;have sX:=ai yi;have Cp:=ai kp2;clear yi kp2;by_cases JJ:j< (got k).length
    ·obtain⟨x,hx⟩:∃x,(got k)[j]? =some x:=⟨_,eA JJ⟩;obtain⟨ab,rfl,hcs⟩:=Han.out j x hx;obtain⟨v7,c7,h7⟩:=hcs.c7;obtain⟨v8,c8,h8'⟩:=hcs.c8;have d0:=Cp.out _ _ hcs.c0;have d1:=Cp.out _ _ hcs.c1;have d2:=Cp.out _ _ hcs.c2;have d3:=Cp.out _ _ hcs.c3;have d4:=Cp.out _ _ hcs.c4;have d5:=Cp.out _ _ hcs.c5;have d6:=Cp.out _ _ hcs.c6;have d7:=Cp.out _ _ c7;have d8:=Cp.out _ _ c8;have e9:9*j=j*9:=Nat.mul_comm _ _;rw[e9]at d0 d1 d2 d3 d4 d5 d6 d7 d8;have hjc:j< (cc.calls k).length:=fp JJ (Hgl.out k);have hck:cc.work[k]? =some (cc.calls k):=(by unfold bq.calls;rw[cQ,eA hlt];rfl);obtain⟨d,hd⟩:∃d,(cc.calls k)[j]? =some d:=⟨_,eA hjc⟩;obtain⟨wb,wo,rv',rfl,_,hrc,ra,af6,rfl,hrow⟩:=HL.out.R k _ hck;obtain⟨b2,o2,rfl,hcall⟩:=hrow j d hd;have kpa:∀(o:Obj) (x:Addr) (v:Value),w.cell? x=some v->(wr.alloc o).cell? x=some v:=λo x v h=>(by have h1:=Cp.out _ _ h;exact(bP (w:=wr) (eh _ _ _ (dw wr _ h1))).trans h1);have q0:=λo=>kpa o _ _ HQ0.out;have q1:=λo=>kpa o _ _ hrc;have q2:=λo=>kpa o _ _ hcall.c0;have afc:=ai kpa;clear kpa;have hS:=ae9.out k j x d hlt hx hd;obtain⟨ia,Ac,rfl,h7'⟩:=h7;obtain⟨pa,p6,rfl,_⟩:=h8';have HS:=ai hS;have H7:=ai h7';clear hS h7' hcs c7 c8 hcall hrow hrc hx hd hck;by_cases hk4:d.kind=4
     ·by_cases XA:x.ans.err=0
      ·obtain⟨s1,s2,s3⟩:=HS.out hk4 XA;rw[Bc]at s2;have Bj:=λo=>lsum_any (.slice ia x.ans.ints.length Ac) x.ans.ints (wr.alloc o) (Ke.at ⟨ia,Ac,rfl,H7.out⟩ (afc.out o)) s3 ae;have Hsl:=ai Bj;rw[s2]at Hsl;have hb:(d.kind==4)=true:=(by simpa using hk4);have hb2:(x.ans.err==0)=true:=(by simpa using XA);clear s2 s3 Bj hk4 XA;generalize d.kind=kd at*;generalize x.ans.err=er at*;rw[s1]at d7 Hsl;clear s1;generalize zs.sum=sm at*;go_wp2_with fail
       refine(Hsl.out _).mono ?_;rintro e w' ⟨rfl,rfl⟩;go_wp2;try go_simp
       go_roundw
       case rel=>exact⟨j+1,ae,gl,sX.out.alloc sX.out.size _⟩
       case measure=>simp[intOf];omega
      ·have hb:(d.kind==4)=true:=(by simpa using hk4);have hb2:(x.ans.err==0)=false:=(by simpa using XA);generalize d.kind=kd at*;generalize x.ans.err=er at*;go_wp2;go_roundw
       case rel=>exact⟨j+1,ae,gl,sX.out.alloc sX.out.size _⟩
       case measure=>simp[intOf];omega
     ·have hb:(d.kind==4)=false:=(by simpa using hk4);generalize d.kind=kd at*;go_wp2;go_roundw
      case rel=>exact⟨j+1,ae,gl,sX.out.alloc sX.out.size _⟩
      case measure=>simp[intOf];omega
    ·obtain rfl:j=(got k).length:=ae;go_wp2;go_roundw
     case rel=>exact⟨k+1,ae,gl,sX.out⟩
     case measure=>simp[intOf];omega
  ·obtain rfl:k=cc.work.length:=ae;go_wp2;refine⟨wr,⟨rfl,rfl,rfl⟩,?_⟩;try simp only[Exit.then]
   have Bj:=λτ=>lsum_any _ vs (wr.tp τ) (ae8.out.at Hkp.out) Hvb.out (by rw[Hvl.out];omega);have Hsl:=ai Bj;rw[Hvs.out,Hvl.out]at Hsl;clear Bj;generalize zs.sum=sm at*;refine wpM_seq (wpM_lone pV hcs ax AG (nK ax _) (λτ=>?_));go_wp2_with fail
   refine(Hsl.out τ).mono ?_;rintro e w' ⟨rfl,rfl⟩;go_wp2;refine⟨wr,⟨rfl,rfl,rfl⟩,?_⟩;try simp only[Exit.then]
   refine bn ?_;exact⟨rfl,rfl,gU,HH.out.trans ⟨jq.out.size,λy o hy _=>by have:=jq.out.block y (aQ.1 hy).1;rw[hy]at this;exact this⟩⟩
end
theorem Ma{l:List Nat}(h:x∈l):x<=l.sum:=by
 induction l with
 |nil=>cases h
 |cons y l ih=>
  rw[List.sum_cons];rcases dM.1 h with rfl|h
  ·omega
  ·have:=ih h;omega
theorem Be{work:List (List bG)}{l:List bG}(h:l∈work):l.length<=fe work:=by unfold fe;exact Ma (og.2 ⟨l,h,rfl⟩)
theorem Mb{work:List (List bG)}{l:List bG}(h:l∈work)(hc:c∈l):c.pairs.length<=ui work:=by unfold ui;exact cn (Ma (og.2 ⟨c,hc,rfl⟩)) (Ma (og.2 ⟨l,h,rfl⟩))
section
variable{Stop:Ph->Frame->List Frame->World->Prop}{wk tu:Option Addr}{cc:bq}
theorem Qi(hA:iq a0 fa wk tu ha zs cc un):
  wpM prog true [] (rD prog S) Stop (λ_=>True) 4 mA (adg a0) .pre
   {tmps:=#[.slice fa zs.length kN,.agg (aC wk tu ha cc.work.length wc cc.turns.length tc cc.halt.length hc un)] ++Array.replicate 108 undef,defers:=[]} a0:=by
 have hcs:=kY;have HA:=ai hA;clear hA;have yA:=λ(w1:World) (a:Act) cb (h1:a.tmps.size=110) h2 h3 hcb hF hR hT hH hn hL hz hk2 hrd=>law_reg (S:=S) (Stop:=Stop) (w1:=w1) (fa:=fa) (wk:=wk) (tu:=tu) (ha:=ha) (kN:=kN) (wc:=wc) (tc:=tc) (hc:=hc) (cb:=cb) (zs:=zs) (cc:=cc) (un:=un) (a0:=a) h1 h2 h3 hcb hF hR hT hH hn hL hz HA.out.un hk2 hrd;simp only[Ds,mA,Tryz.f4,Code.l,Code.r,bJ]at yA;have aa0:=λ(ι:Ph) (w1 w:World) (a:Act) cb ob rv ov ev cv hA hL hcb hI=>sums_after (main:=true) (cs:=[]) (Jm:=rD prog S) (Stop:=Stop) (U:=λ_=>True) (ι:=ι) (a0:=a0) (w1:=w1) (w:=w) (fa:=fa) (wk:=wk) (tu:=tu) (ha:=ha) (kN:=kN) (wc:=wc) (tc:=tc) (hc:=hc) (zs:=zs) (cc:=cc) (un:=un) (cb:=cb) (ob:=ob) (rv:=rv) (ov:=ov) (ev:=ev) (cv:=cv) (a:=a) hA hL hcb hI;simp only[mA,Tryz.f4,Code.l,Code.r,bJ]at aa0;have afd:=ai aa0;have afe:=ai yA;clear yA aa0;simp only[mA,Tryz.f4,Code.l,Code.r,bJ,aC];walk_nrm;refine eG λτ=>?_;generalize fE:World.alloc _ _=w1;have hs1:w1.heap.size=a0.heap.size+1:=by subst fE;exact bI _ _
 have ho1:∀y,y<a0.heap.size->w1.heap[y]? =a0.heap[y]? :=λy hy=>by subst fE;exact eh _ _ _ hy
 have hc1:w1.heap[a0.heap.size]? =some (.cells #[.slice wk cc.work.length wc,.slice tu cc.turns.length tc,.slice ha cc.halt.length hc,.int .i64 un] 25 (0,0)):=by subst fE;exact heap_alloc_new _ _
 clear fE;have Qz:=ai hs1;have WJ:=ai ho1;have Hc1:=ai hc1;clear hs1 ho1 hc1;refine wpM_seq ?_;refine nQ ?_;refine aM (args:=#[]) rfl rfl rfl func6 rfl rfl au (λb k fs h1 h2=>trivial) LJ ?_;rintro i2 v2 w2 ⟨rfl,rfl,hs2,yM⟩;have Fa:=ai hs2;have TQ:=ai yM;clear hs2 yM;walk_nrm;refine eU ?_;refine on ?_;refine Bl ?_;try simp only[Exit.then]
 have hc2:w2.heap[a0.heap.size]? =some (.cells #[.slice wk cc.work.length wc,.slice tu cc.turns.length tc,.slice ha cc.halt.length hc,.int .i64 un] 25 (0,0)):=by rw[TQ.out _ (by have:=Qz.out;omega)];exact Hc1.out
 have qI:iq w2 fa wk tu ha zs cc un:=(HA.out.mono (by have:=Qz.out;omega) WJ.out).mono Fa.out TQ.out;have k0:=cO hc2 0;have k1:=cO hc2 1;have k2:=cO hc2 2;have k3:=cO hc2 3;have HA2:=ai qI;have Hc2:=ai hc2;clear qI hc2;refine wpM_seq (wpM_seq (wpM_lone pV hcs ax AG (nK ax _) (λτ=>?_)));have ub:=WX wk tu ha wc cc.turns.length tc cc.halt.length hc un cc.work (w2.tp τ) (HA2.out.R.same (aY _) λ_ _=>rfl) HA2.out.rows;have adk:=ai ub;clear ub;go_wp2_with fail
 refine adk.out.mono ?_;rintro e w3 ⟨b1,rfl,hb1,sY⟩;have iD:∀y,y<a0.heap.size->w3.heap[y]? =a0.heap[y]? :=λy hy=>by have h1:=Qz.out;have h2:=Fa.out;rw[sY.block y (by show y<w2.heap.size;omega)];show w2.heap[y]? =_;rw[TQ.out y ae,WJ.out y hy]
 have hs3:a0.heap.size+1<=w3.heap.size:=by have h1:=Qz.out;have h2:=Fa.out;have h3:w2.heap.size<=w3.heap.size:=sY.size;omega
 have hc3:w3.heap[a0.heap.size]? =some (.cells #[.slice wk cc.work.length wc,.slice tu cc.turns.length tc,.slice ha cc.halt.length hc,.int .i64 un] 25 (0,0)):=by rw[sY.block _ (by have:=Qz.out;have:=Fa.out;show a0.heap.size<w2.heap.size;omega)];exact Hc2.out
 have j0:=cO hc3 0;have j1:=cO hc3 1;have j2:=cO hc3 2;have j3:=cO hc3 3;have CV:iq w3 fa wk tu ha zs cc un:=HA.out.mono ae iD;have AX:=ai iD;have UQ:=ai hs3;have HA3:=ai CV;have Hb1:=ai hb1;have Hc3:=ai hc3;clear iD hs3 CV hb1 sY hc3 adk Hc2 HA2 Fa TQ Qz WJ Hc1 k0 k1 k2 k3;cases b1 with
 |false=>
  go_wp2;refine⟨w3,⟨rfl,rfl,rfl⟩,?_⟩;try simp only[Exit.then]
  refine ctx ?_;refine eG λτ=>?_;refine bn ?_;exact⟨rfl,rfl,gU,⟨by have:=UQ.out;omega,λy o hy _=>by rw[AX.out y (aQ.1 hy).1];exact hy⟩⟩
 |true=>
  obtain⟨f1,f2,f3,f4,f5⟩:=Hb1.out rfl;by_cases aff:100<zs.length
  ·have hd:decide ((100:Int) < (zs.length:Int))=true:=bV;go_wp2;refine⟨w3,⟨rfl,rfl,rfl⟩,?_⟩;try simp only[Exit.then]
   refine ctx ?_;refine eG λτ=>?_;refine bn ?_;exact⟨rfl,rfl,gU,⟨by have:=UQ.out;omega,λy o hy _=>by rw[AX.out y (aQ.1 hy).1];exact hy⟩⟩
  have hd:decide ((100:Int) < (zs.length:Int))=false:=bV;go_wp2_with fail
  have Yn:=TU wk tu ha wc cc.turns.length tc cc.halt.length hc w3.heap.size 3 un cc.work [1,3,4] (w3.alloc (.cells #[.int .i64 1,.int .i64 3,.int .i64 4] 3)) (HA3.out.R.same (by rw[bI];omega) λb hb=>eh _ _ _ hb) ⟨ae,λl hl=>by have:=Be hl;omega⟩ az (λi hi=>by have hg:=heap_alloc_new w3 (.cells #[.int .i64 1,.int .i64 3,.int .i64 4] 3);have:i<3:=hi;rw[af hg];obtain rfl|rfl|rfl:i=0\/i=1\/i=2:=ae;all_goals rfl) (by rw[bI];omega);refine Yn.mono ?_;rintro e w4 ⟨b2,rfl,hb2,Ut⟩;have Ge:∀y,y<w3.heap.size->w4.heap[y]? =w3.heap[y]? :=λy hy=>by rw[Ut.block y (by rw[bI];omega),eh _ _ _ hy]
  have Om:w3.heap.size+1<=w4.heap.size:=by have:=Ut.size;rw[bI]at this;exact this
  have Nt:=ai Ge;have Hs4:=ai Om;have Hb2:=ai hb2;clear Ge Om hb2 Ut Yn j0 j1 j2 j3;have hlz:zs.length<=100:=ae;clear aff;cases b2 with
  |false=>
   go_wp2;refine⟨w4,⟨rfl,rfl,rfl⟩,?_⟩;try simp only[Exit.then]
   refine ctx ?_;refine eG λτ=>?_;refine bn ?_;exact⟨rfl,rfl,gU,⟨by have:=UQ.out;have:=Hs4.out;omega,λy o hy _=>by have:=(aQ.1 hy).1;have:=UQ.out;rw[Nt.out y ae,AX.out y ae];exact hy⟩⟩
  |true=>
   have aa1:=Hb2.out rfl;go_wp2;refine⟨w4,⟨rfl,rfl,rfl⟩,?_⟩;try simp only[Exit.then]
   refine Bl ?_;try simp only[Exit.then]
   have hc4:w4.heap[a0.heap.size]? =some (.cells (aC wk tu ha cc.work.length wc cc.turns.length tc cc.halt.length hc un) 25 (0,0)):=(by rw[Nt.out _ (by have:=UQ.out;omega)];exact Hc3.out);have KS:=HA3.out.mono (by have:=Hs4.out;omega) Nt.out;refine wpM_seq (di (afe.out w4 _ a0.heap.size au au au hc4 KS.F KS.R KS.T KS.H ⟨f2,f3⟩ ⟨f1,λl hl=>⟨by have:=Be hl;omega,λc hc'=>by have:=Mb hl hc';omega⟩⟩ hlz (λk d hd e=>?_) (λh1 h2 h3 h4 m t=>?_)) ?_)
   ·have hk:cc.work[k]? =some (cc.calls k):=by
     unfold bq.calls at hd⊢;rw[cQ]at hd⊢;cases hw:cc.work[k]? with
     |none=>rw[hw]at hd;cases hd
     |some l=>rfl
    obtain⟨i,hi⟩:=pN.1 hd;have:=aa1 k _ hk i d hi;rw[e]at this;revert this;decide
   ·obtain⟨_,vs,s',h5,_⟩:=IC (m:=m) h4 h3.2 h1 h2 t;exact⟨vs,s',h5⟩
   rintro i5 e5 a5 w5 ⟨rfl,rfl,g,rfl,hL⟩;simp only[Exit.then];simp only[A9,List.range,List.range.loop,List.foldl,Ns,dL,jD,mI,pI];refine afd.out _ w4 w5 _ a0.heap.size g.ob g.rv g.ov g.ev _ (aaW.mk ..) (KS.hold hL.hold) (hL.hold.old _ _ hc4 aJ) hL ⟨by have:=UQ.out;have:=Hs4.out;have:=hL.hold.size;omega,λy o hy hp=>?_⟩;have hyl:=(aQ.1 hy).1;have:=UQ.out;refine hL.hold.old y o ?_ hp;rw[Nt.out y ae,AX.out y ae];exact hy
end
end
end Go.Proofs.YtfmibhmknlnoiaaGreat
