import Derived.Test.YtfmibhmknlnoiaaGreatQ01
import Derived.Test.YtfmibhmknlnoiaaGreatQ00
import Derived.Conc.TokenWords
import Derived.Test.YtfmibhmknlnoiaaGreatProg
import Derived.Conc.WgGenN3
import Derived.Conc.WgGenN2
import Derived.Test.YtfmibhmknlnoiaaGreatRows
import Derived.WalkKit
import Derived.WalkSpells
import Derived.WalkLawsBesides
import Derived.StillTail
import Derived.Deep.RegionHeld
import Derived.Deep.AppendLies
import Derived.Lib.Hide
import Derived.BigQuiet
import Derived.Deep.OwnRows
import Derived.OwnWalk
import Derived.ArgAppend
import Derived.Conc.WgGenAddNeg
import Derived.Laws.Pointers
import Derived.Deep.DrawnRows
set_option linter.all false
set_option maxRecDepth 100000
set_option maxHeartbeats 4000000
namespace Go.Proofs.YtfmibhmknlnoiaaGreat
open _root_.Go.Proofs.Tryz
variable{ι σ α:Type}{q:(Nat->Question->Nat)->Prop}{a a':Act}{C C':Act->World->Prop}{E:Array Bool->World->Prop}{ops₀:Array Oper}{xs:Array Operand}{ats:Array TypeId}{g0 ok:Bool}{c y:Code}{d:aK}{u:dX}{b fr aZ gD bo pf:Frame}{fn Q7:Func}{f:FuncId}{G2:Goroutine}{Q:Goroutine->World->Prop}{un:Int}{cs0 fs bz lf cj:List Frame}{ws:List Int}{k k₀:List Item}{L rest₀ zs:List Nat}{cK:List PanicEntry}{S:Loc->Prop}{B N W Wg b7 b8 be be0 yR i ic ix j lc lo m nb ob ow pc qt tW:Nat}{ds:Nat->Nat}{Inb:Nat->Option Conc.Seat}{M oB:Nat->Prop}{vs:Nat->Value}{A:Nat->World}{o oi RI:Oper}{ia la pa:Option Addr}{X:Prop}{t t0:qD}{γ:Type}{e tA:TypeId}{cv dv u7 u8 v v7 x z z0 z2:Value}{w' w0 w1 w2 wr:World}{F T:World->Prop}{D:World->World->Array Event->Prop}{R:World->World->Prop}{p7:ι}{Q':ι->Exit->Act->World->Prop}{Post Rm:ι->Value->World->Prop}{s:σ}
section
open Go Go.Conc Go.ConcN
open Go.ConcR (KK WgAt stA smA Payload Aside2 DC0)
variable[Payload]
variable[Inhabited bO]
section
variable{P:Program}{S:ba}{U:aK->dX}
theorem BJ{a:World}(H:Start d u a fr fs aZ){w:World}(fX:Sees oB (λ_=>none) a w)(adS:∀(b:Nat) o,a.heap[b]? =some o->o≠cI->ej o=true)(hsz:w2.heap.size=w.heap.size+1)(hold:∀b,b<w.heap.size->w2.heap[b]? =w.heap[b]?)(hnew:w2.heap[w.heap.size]? =some (Go.ConcR.wgBlock d.ty 0 0))(RP:Kx w2)(JN:DV w2):
  d.K w2/\∃M:Nat->Prop,(∀A tp,Between d u 0 A tp M (λ_=>none) w2)/\mQ d u a (fJ (Nm d M w2) d.Fm w2):=by
 have Xr:d.Wg=w.heap.size:=H.Wg.trans fX.size;have iE:∀(b:Nat) o,a.heap[b]? =some o->o≠cI->w2.heap[b]? =some o/\b<d.Wg:=λb o ho hp=>by
  obtain⟨y,hy,e,_⟩:=dY fX ho hp;have ey:dJ none y=y:=by cases y<;>rfl
  rw[ey]at e;subst e;have ho:=hy;exact⟨by rw[hold b (aw ho)];exact ho,by rw[Xr];exact aw ho⟩
 have RQ:∀{i:Nat},¬i<d.j:=λ{i}=>by rw[H.j];omega
 have Qq:∀b,d.fm b=none:=λb=>by
  cases e:d.fm b with
  |none=>rfl
  |some f=>obtain⟨_,i,hi,_⟩:=H.fit.fmW b f e;exact absurd hi RQ
 have dK:∀b,u.Foot a b->∃c e,a.heap[b]? =some (.cells c e (0,0)):=λb h=>(H.uok.foot 0 a b H.inv h).1;obtain⟨Rx,zP⟩:=H.uok.inv 0 a w2 H.inv λb h=>by obtain⟨c,e,hc⟩:=dK b h;rw[(iE b _ hc (λh=>bY)).1,hc]
 have hK:d.K w2:=by refine⟨⟨⟨0,0,by show w2.heap[d.Wg]? =_;rw[Xr];exact hnew⟩,λi hi=>absurd hi RQ,(iE _ _ H.C (λh=>bY)).1⟩,⟨0,(iE _ _ H.come (λh=>bY)).1⟩,⟨0,(iE _ _ H.gone (λh=>bY)).1⟩,λi hi=>absurd hi RQ,RP⟩
 refine⟨hK,λb=>∃o,a.heap[b]? =some o/\o≠cI/\bU o=true/\¬u.Foot a b/\b≠d.come/\b≠d.gone/\d.ro b=none,λA tp=>?_,?_⟩
 ·refine⟨Rx,λi hi=>absurd hi RQ,λi i' b hi=>absurd hi RQ,λi b hi=>absurd hi RQ,λi b hi=>absurd hi RQ,λb hf=>?_,λb ⟨o,h1,h2,h3,h4,h5,h6,h7⟩=>?_,λb f hf=>?_,λi f hi=>absurd hi RQ,λb o hx ho=>?_,λi s b hs=>(by cases hs),λi _=>rfl,JN⟩
  ·obtain⟨c,e,hc⟩:=dK b ((zP b).1 hf);have:=(iE b _ hc (λh=>bY)).2;omega
  ·refine⟨?_,λi hi=>absurd hi RQ,λhf=>h4 ((zP b).1 hf),h7,?_,h5,h6,λk hk=>absurd hk RQ⟩
   ·have:=(iE b _ h1 h2).2;omega
   ·have:=(iE b _ h1 h2).2;omega
  ·obtain⟨c,e,hc,hs⟩:=H.ro b f hf;exact⟨c,e,(iE b _ hc (λh=>bY)).1,hs⟩
  ·rcases hx with⟨o',h1,h2,_⟩|hx|hx|⟨i,hi,_⟩
   ·rw[(iE b _ h1 h2).1]at ho;obtain rfl:=aP ho;exact adS b _ h1 h2
   ·obtain⟨c,e,hc⟩:=dK b ((zP b).1 hx);rw[(iE b _ hc (λh=>bY)).1]at ho;obtain rfl:=aP ho;rfl
   ·obtain⟨f,hf⟩:=kU.1 hx;obtain⟨c,e,hc,_⟩:=H.ro b f hf;rw[(iE b _ hc (λh=>bY)).1]at ho;obtain rfl:=aP ho;rfl
   ·exact absurd hi RQ
 ·refine⟨by rw[(dD _ _ _).size,hsz,fX.size],λb o h1 h2 h3 h4 h5 h6=>?_,λb f hf=>?_⟩
  ·by_cases hn:bU o=true
   ·rw[hide_need (.inl ⟨o,h1,h2,hn,h3,h4,h5,h6⟩),(iE b o h1 h2).1];have:d.Fm b=none:=(by simp[aK.Fm,Qq,h6]);rw[this];rfl
   ·have sf:bU o=false:=(by simpa using hn);rw[dh,(iE b o h1 h2).1];simp[sf,ou sf]
  ·obtain⟨c,e,hc,_⟩:=H.ro b f hf;refine⟨c,e,hc,?_⟩;have:d.Fm b=some f:=(by simp[aK.Fm,Qq,hf]);rw[hide_need (.inr (.inr (.inl (by rw[hf];simp)))),(iE b _ hc (λh=>bY)).1,this];rfl
theorem RS{t:Nat}{tp:Nat->Nat}{a r0 r r':World}(X:d.Fit)(U:u.Ok d)(hK:d.K r)(B:Between d u t A tp (zT d u r0 a) Inb r)(fX:Sees (Nr d u M r0) (d.Fr u r0) a r)(nv:∀b,ig d u a b↔ig d u r0 b)(hpW:∀i,i<d.j->ig d u r0 (d.W i))(hpm:∀i,i<d.j->∀b,u.Pub i r0 b->Mine d u (A i) b)(hsz:r.heap.size<=r'.heap.size)(hl:WgLive d.ty d.Wg r')(hold:∀b,b<r.heap.size->b≠d.Wg->b≠d.gone->r'.heap[b]? =r.heap[b]?):
  ∃N:Nat->Prop,uS d u t a (fJ N (λ_=>none) r')/\Rel (Hid N r') (fJ N (λ_=>none) r') r'/\Hid N r' d.Wg/\∀b,r'.heap.size<=b->N b:=by
 let N:Nat->Prop:=λb=>zT d u r0 a b\/(∃i,i<d.j/\Mine d u (A i) b)\/u.Foot r b\/d.ro b≠none\/r'.heap.size<=b;obtain⟨⟨⟨st0,sm0,kw⟩,k2,k3⟩,⟨c1,k4⟩,⟨c2,k5⟩,k6,_⟩:=id hK;have hM:∀b,zT d u r0 a b->r'.heap[b]? =r.heap[b]? :=λb hb=>by obtain⟨h1,_,_,_,h5,_,h7,_⟩:=B.m b hb;exact hold b h1 h5 h7
 have UF:∀i b,i<d.j->Mine d u (A i) b->r'.heap[b]? =r.heap[b]? :=λi b hi hb=>by obtain⟨h1,_,h3,_⟩:=B.far i b hi hb;obtain⟨o,ho,_⟩:=B.there hi hb;exact hold b (aw ho) h1 h3
 have hF:∀b,u.Foot r b->r'.heap[b]? =r.heap[b]? :=λb hb=>by obtain⟨⟨c,e,hc⟩,_⟩:=U.foot t r b B.inv hb;exact hold b (aw hc) (B.footg b hb) (λe=>by rw[e,k5]at hc;cases hc)
 have hro:∀b f,d.ro b=some f->r'.heap[b]? =r.heap[b]? :=λb f hb=>by obtain⟨c,e,hc,_⟩:=B.rook b f hb;exact hold b (aw hc) (λe=>by rw[e,X.rowg]at hb;cases hb) (λe=>by rw[e,k5]at hc;cases hc)
 have Vx:∀b,(∀i,i<d.j->b≠d.W i)->d.fm b=none:=λb h1=>by
  cases e:d.fm b with
  |none=>rfl
  |some f=>obtain⟨_,i,hi,rfl⟩:=X.fmW b f e;exact absurd rfl (h1 i hi)
 have hN:∀b,N b->(fJ N (λ_=>none) r').heap[b]? =r'.heap[b]? :=λb hb=>by
  rw[hide_need hb];cases r'.heap[b]? with
  |none=>rfl
  |some o=>rfl
 refine⟨N,⟨?_,λb o h1 h2 h3 h4=>?_,λb f hf=>?_,?_,λi hi=>?_,λb hb x hx=>?_,λb o h1 h2 hn h3 h4=>?_,λb hb=>?_⟩,zK λb o hb ho=>?_,?_,λb hb=>.inr (.inr (.inr (.inr hb)))⟩
 ·rw[(dD _ _ _).size,fX.size];exact hsz
 ·rw[nv]at h3;by_cases hn:bU o=true
  ·have hW:∀i,i<d.j->b≠d.W i:=λi hi e=>h3 (by rw[e];exact hpW i hi);have hm:zT d u r0 a b:=⟨⟨o,h1,h2,hn,hW,h4⟩,h3⟩;rw[hN b (.inl hm),hM b hm];obtain⟨y,hy,e,_⟩:=dY fX h1 h2;have hf:d.Fr u r0 b=none:=by
    cases e:d.Fr u r0 b with
    |none=>rfl
    |some f=>
     rcases uQ e with h|⟨_,h,_⟩
     ·simp[aK.Fm,Vx b hW,h4]at h
     ·exact absurd h h3
   rw[hf]at e;rw[hy,e];cases y<;>rfl
  ·have sf:bU o=false:=(by simpa using hn);have h5:=sees_num fX h1 sf;have h6:r'.heap[b]? =some o:=(by rw[hold b (aw h5) (λe=>by rw[e]at h5;rw[aP (h5.symm.trans kw)]at sf;cases sf) (λe=>by rw[e,k5]at h5;obtain rfl:=aP h5;cases sf)];exact h5);rw[dh,h6];simp[sf,ou sf]
 ·obtain⟨c,e,hc,_⟩:=B.rook b f hf;have hne:d.ro b≠none:=by rw[hf];simp
  have Qq:d.Fr u r0 b=some f:=by have:=Vx b λi hi e=>(by rw[e,X.roW i hi]at hf;cases hf);simp[aK.Fr,aK.Fm,this,hf]
  refine⟨c,e,?_,by rw[hN b (.inr (.inr (.inr (.inl hne)))),hro b f hf];exact hc⟩;rw[fX.need (.inl (.inr (.inr (.inl hne)))),hc,Qq];rfl
 ·refine(U.inv t r _ B.inv λb hb=>?_).1;rw[hN b (.inr (.inr (.inl hb))),hF b hb]
 ·refine(U.wr i t r _ (B.rest i hi).wr λx hx=>?_).1;have hm:=(B.rest i hi).pub _ hx;simp only[World.cell?,hN x.block (.inr (.inl ⟨i,hi,hm⟩)),UF i x.block hi hm]
 ·subst hx;have hb0:=(nv _).1 hb;obtain⟨i,hi,hp⟩:=hb0;have hm:=hpm i hi _ hp;have e1:(fJ N (λ_=>none) r').cell? x=r.cell? x:=by simp only[World.cell?,hN x.block (.inr (.inl ⟨i,hi,hm⟩)),UF i x.block hi hm]
  rw[e1];exact cell_chill (fX.need (.inr ⟨i,hi,hp⟩))
 ·rw[nv]at h3;have hW:∀i,i<d.j->b≠d.W i:=λi hi e=>h3 (by rw[e];exact hpW i hi);have hm:zT d u r0 a b:=⟨⟨o,h1,h2,hn,hW,h4⟩,h3⟩;rw[(U.inv t r _ B.inv λb hb=>by rw[hN b (.inr (.inr (.inl hb))),hF b hb]).2];exact(B.m b hm).2.2.1
 ·obtain⟨i,hi,hp⟩:=(nv _).1 hb;rw[(U.inv t r _ B.inv λb hb=>by rw[hN b (.inr (.inr (.inl hb))),hF b hb]).2];exact B.foot i b hi (hpm i hi _ hp)
 ·rcases hb with hb|⟨i,hi,hb⟩|hb|hb|hb
  ·rw[hM b hb]at ho;exact B.oks b o (.inl hb) ho
  ·rw[UF i b hi hb]at ho;exact B.oks b o (.inr (.inr (.inr ⟨i,hi,hb⟩))) ho
  ·rw[hF b hb]at ho;exact B.oks b o (.inr (.inl hb)) ho
  ·obtain⟨f,hf⟩:=kU.1 hb;rw[hro b f hf]at ho;exact B.oks b o (.inr (.inr (.inl hb))) ho
  ·have:=aw ho;omega
 ·obtain⟨st,sm,h⟩:=hl;refine⟨_,h,rfl,?_⟩;rintro(hb|⟨i,hi,hb⟩|hb|hb|hb)
  ·exact(B.m _ hb).2.2.2.2.1 rfl
  ·exact(B.far i _ hi hb).1 rfl
  ·exact B.footg _ hb rfl
  ·exact hb X.rowg
  ·have:=aw h;omega
theorem adT(hcs:NE cs0){Stop:Ph->Frame->List Frame->World->Prop}(hPh:∀t d fr fs a,¬Stop (.run t d) fr fs a)(hPr:∀t d w fr fs a,¬Stop (.read t d w) fr fs a)
   {a r:World} (hz:ZigC P true cs0 (JP P S cs0 U) Stop .pre fr fs a) {T:Trace} {sl:Option (Nat×Nat)} (fX:Sees oB (λ_=>none) a r) (hrel:Rel (Hid oB r) a r) (zU:∀b,r.heap.size<=b->oB b) (RP:Kx r) (JN:DV r) (F:SF T r):
  ∃n m' T',runNT P n (crowd #[bh fr (fs++cs0)] r sl) T=(.next m',T')/\Zo P S cs0 Stop m' T':=by
 let Q:Goroutine->World->Prop:=λg w=>∃aZ bz a',g=bh aZ (bz++cs0)/\Vr P true cs0 (JP P S cs0 U) Stop .pre aZ bz a'/\(Sees oB (λ_=>none) a' w/\(∀b,Hid oB r b↔Hid oB w b)/\r.heap.size<=w.heap.size/\Kx w/\DV w)/\Rel (Hid oB r) a' w;have hW:fU P true AtRel Zm Q (bh fr (fs++cs0)) r:=hz.all _ _ _ _ _ (lq zU) (λaZ bz a' r' hat hrel hl=>.stop λw₁ h₁=>by obtain⟨h1,h2⟩:=(lq zU).others a' r' w₁ h₁ hrel hl;exact⟨aZ,bz,a',rfl,hat,h2,h1⟩) r hrel ⟨fX,λ_=>Iff.rfl,aY _,RP,JN⟩;obtain⟨N1,w1,CL,T1,g1,IK,F1,hQ1⟩:=CN (sl:=sl) hW F;obtain⟨gD,lf,a1,rfl,hat,⟨BK,VC,BL,J8,J9⟩,Ka⟩:=hQ1 w1 (atRel_refl w1);have abQ:∀(b:Nat) o,a1.heap[b]? =some o->o≠cI->ej o=true:=λb o ho hp=>Ka.objs b (λhh=>by
  obtain⟨y,hy,hn,hNb⟩:=(VC b).1 hh;obtain⟨y',hy',e,hN'⟩:=dY BK ho hp;rw[hy]at hy';obtain rfl:=aP hy';have ey:dJ none y=y:=by cases y<;>rfl
  rw[ey]at e;subst e;exact hNb (hN' hn)) o ho
 rcases hat with cN|⟨K,hJ,hC⟩
 ·exact⟨N1,_,T1,IK,⟨#[_],w1,CL,gD,lf,a1,rfl,rfl,.inl ⟨rfl,F1,cN,J8,J9,oB,by have hid:Hid oB r=Hid oB w1:=funext λb=>propext (VC b);rw[←hid];exact Ka,BK,λb hb=>zU b (cn BL hb)⟩⟩⟩
 obtain⟨d,bo,rfl,rfl,rfl,H,rfl⟩:=hJ;obtain⟨i,g,dd,um,hi,hg,hst⟩:=crowd_pick (P:=d.P) (w:=w1) (sl:=CL) (gs:=#[bh gD (lf++d.cs0)]) (λg hg=>by simp at hg;subst hg;exact awake_of (.inl rfl)) ⟨0,bh gD (lf++d.cs0),rfl,rfl⟩;obtain rfl:i=0:=by have:=(aQ.1 hi).1;simp at this;exact this
 obtain rfl:g=bh gD (lf++d.cs0):=by simp at hi;exact hi.symm
 have hgo:=H.step (w1.at dd) (by rw[BK.size];rfl);have hrt:=runT_crowd_go (P:=d.P) (sl:=um) (i:=0) hi (show stepG d.P (0==0) _ (w1.at dd)=_ from hgo);have e2:(#[bh gD (lf++d.cs0)].map (woken d.P (bh gD (lf++d.cs0)) (bh bo (lf++d.cs0)) {w1.at dd with heap:=(w1.at dd).heap.push (Go.ConcR.wgBlock d.ty 0 0)})).setIfInBounds 0 (bh bo (lf++d.cs0))=#[bh bo (lf++d.cs0)]:=au;rw[e2]at hrt;have hs2:=hst.trans hrt;have mC:({w1.at dd with heap:=(w1.at dd).heap.push (Go.ConcR.wgBlock d.ty 0 0)}:World).heap.size=w1.heap.size+1:=by simp[World.at]
 have Gd:∀b,b<w1.heap.size->({w1.at dd with heap:=(w1.at dd).heap.push (Go.ConcR.wgBlock d.ty 0 0)}:World).heap[b]? =w1.heap[b]? :=λb hb=>by show(w1.heap.push _)[b]? =_;rw[cF,if_neg ae]
 have Xs:({w1.at dd with heap:=(w1.at dd).heap.push (Go.ConcR.wgBlock d.ty 0 0)}:World).heap[w1.heap.size]? =some (Go.ConcR.wgBlock d.ty 0 0):=by show(w1.heap.push _)[w1.heap.size]? =_;rw[cF,if_pos rfl]
 obtain⟨hK2,M,hBt,hRV⟩:=BJ H BK abQ mC Gd Xs (J8.same λb o hb _=>by rw[Gd b (aw hb)];exact hb) (J9.same ⟨rfl,rfl⟩);have F1':SF T1 (w1.at dd):=⟨F1.who,F1.deaf,F1.norel,F1.inside⟩;have Xr:d.Wg=w1.heap.size:=H.Wg.trans BK.size;generalize ({w1.at dd with heap:=(w1.at dd).heap.push (Go.ConcR.wgBlock d.ty 0 0)}:World)=w2 at*;have F2:CF d.cc 0 0 0 (λ_=>none) .kd (λ_=>⟨7,0,0⟩) (λ_=>false) (λ_=>0) T1 #[bh bo (lf++d.cs0)] w2:=J6 (c:=d.cc) F1 Xr (by
  have:w2.heap[d.Wg]? =some (Go.ConcR.wgBlock d.ty 0 0):=by rw[Xr];exact Xs
  exact this) hK2 (λg l ⟨i,_,hi,_⟩=>by have hi:i<d.j:=hi;rw[H.j]at hi;omega)
 have hT:T1++MemOp.ofEvents 0 (bh gD (lf++d.cs0)).frame.fn (bh gD (lf++d.cs0)).frame.place #[]=T1:=by simp[MemOp.ofEvents]
 have JQ:=qC IK hs2;rw[hT]at JQ;have hz2:=VB (hC (.run 0 d) bo lf _ ⟨rfl,rfl,rfl,hRV⟩) 0 d rfl;obtain⟨N3,m3,T3,RA,Zp⟩:=abJ (cs0:=d.cs0) hz2 rfl rfl rfl H.fit H.uok (λ_=>a1) (λ_=>0) M (λ_=>none) _ _ _ T1 #[bh bo (lf++d.cs0)] w2 um (dD _ _ _) (hBt _ _) rfl (by rw[H.j];exact F2);obtain⟨gs3,r3,Vv,t,d3,qp,se,a3,A3,tp3,afC,D3,Y4,q3,rfl,Zp,hS3,hc3,X3,U3,hg3,Zq,Zr,B3,F3⟩:=Zp;rcases Zq with h|⟨K3,hV,hC3⟩
 ·exact absurd h (hPh _ _ _ _ _)
 try simp only at hC3
 obtain rfl:K3=_:=hV;obtain⟨RV,abR⟩:=B3.RN X3 U3 Zr;have hK3:d3.K r3:=F3.K;have adU:∀(b:Nat) o,Nr d3 (U d3) (gM d3 a3) r3 b->r3.heap[b]? =some o->ej o=true:=λb o hb ho=>by
  rcases hb with(h|⟨i,hi,rfl⟩|h|h)|h
  ·exact B3.oks b o (.inl h) ho
  ·exact B3.oks _ o (.inr (.inr (.inr ⟨i,hi,B3.qF X3 hi⟩))) ho
  ·exact B3.oks b o (.inr (.inr (.inl h))) ho
  ·have:=aw ho;omega
  ·exact B3.oks b o (.inr (.inr (.inr (B3.rN h)))) ho
 have hzR:=hC3 (.read t d3 _) qp se _ ⟨rfl,rfl,rfl,RV⟩;rw[←Zp]at hzR;obtain⟨NR,mR,TR,hNR,gsR,rR,slR,frR,fsR,aR,DR,afD,qR,rfl,hgR,adV,LR,RR,FR⟩:=YZ (main:=true) (sl:=Vv) rfl (ln X3.ok) au (wC X3.ok (B3.adR X3 hK3) B3.chairs hK3) hzR (dD _ _ _) (B3.fzR X3) adU (by rw[hc3]at hg3;exact hg3) F3;rcases adV with h|⟨KR,⟨UH,E3,hkR,rfl⟩,hCR⟩
 ·exact absurd h (hPr _ _ _ _ _ _)
 have abS:∀b,ig d3 (U d3) r3 b->aR.heap[b]? =(r3.heap[b]?).map (dJ (d3.Fr (U d3) r3 b)):=λb hb=>by rw[hkR b ((abR b).2 hb),hide_need (.inr hb)]
 have BR:=B3.read X3 U3 hK3 LR RR abS;have abT:∀b,ig d3 (U d3) aR b↔ig d3 (U d3) r3 b:=λb=>by have hh:∀i,i<d3.j->∀b,(U d3).Pub i aR b↔(U d3).Pub i r3 b:=λi hi=>(U3.wr i t r3 aR (B3.rest i hi).wr λx hx=>(cell_chill (abS _ ⟨i,hi,hx⟩)).symm).2;exact⟨λ⟨i,hi,h⟩=>⟨i,hi,(hh i hi b).1 h⟩,λ⟨i,hi,h⟩=>⟨i,hi,(hh i hi b).2 h⟩⟩
 obtain⟨N4,Qr,r4,Qs,q4,T4,Y8,hg4,F4,ho1,yM,abU,hl4,Ge⟩:=over (sl:=slR) X3 E3 BR (by rw[hc3];exact hgR) FR;obtain⟨N,EV,adW,Zs,Xt⟩:=RS X3 U3 FR.K BR LR.sees abT (λi hi=>⟨i,hi,U3.pubW i _ r3 hi (B3.rest i hi).wr⟩) (λi hi b hb=>(B3.rest i hi).pub b hb) abU hl4 Ge;have adX:Kx r4:=FR.K.2.2.2.2.same λb o hb ho=>by obtain⟨⟨⟨st,sm,kw⟩,_,_⟩,_,⟨_,k5⟩,_⟩:=FR.K;rw[Ge b (aw hb) (λe=>by have kw:rR.heap[d3.Wg]? =_:=kw;rw[e,kw]at hb;obtain rfl:=aP hb;cases ho) (λe=>by rw[e,k5]at hb;obtain rfl:=aP hb;cases ho)];exact hb
 have abV:=hNR;rw[show d3.cc.P=d.P from Zp]at abV;rw[Zp]at Y8 F4;have hz4:=hCR .post UH fsR _ ⟨rfl,rfl,rfl,EV⟩;rw[show d3.cc.P=d.P from Zp,Zp]at hz4;have BT:=xR (N:=N) (bH:=r4) Zs Xt;let Q4:Goroutine->World->Prop:=λg w=>∃aZ bz a',g=bh aZ (bz++d.cs0)/\Vr d.P true d.cs0 (JP d.P d.S d.cs0 U) Stop .post aZ bz a'/\(Sees N (λ_=>none) a' w/\(∀b,Hid N r4 b↔Hid N w b)/\r4.heap.size<=w.heap.size/\Kx w/\DV w)/\Rel (Hid N r4) a' w;have hW5:fU d.P true AtRel (λ_ _ es=>∀e∈es,Vz d3.Wg e) Q4 (bh UH (fsR++d.cs0)) r4:=hz4.all _ _ _ _ _ BT (λaZ bz a' r' hat hrel hl=>.stop λw₁ h₁=>by obtain⟨h1,h2⟩:=BT.others a' r' w₁ h₁ hrel hl;exact⟨aZ,bz,a',rfl,hat,h2,h1⟩) r4 adW ⟨dD _ _ _,λ_=>Iff.rfl,aY _,adX,BR.os.same ⟨ho1,yM⟩⟩;obtain⟨N5,gs5,r5,sl5,q5,T5,g5,Zb,UI,F5,hQ5⟩:=D6 (sl:=Qs) (λ_ _ _ h=>h) hW5 (by rw[hc3]at hg4;exact hg4) F4;obtain⟨fr5,fs5,a5,rfl,RU,⟨Zt,RX,Zu,Zv,Zw⟩,RY⟩:=hQ5 r5 (atRel_refl r5);rcases RU with Kb|⟨K,hJ,_⟩
 ·have hid:Hid N r4=Hid N r5:=funext λb=>propext (RX b);rw[hid]at RY;exact⟨N1+1+N3+NR+N4+N5,_,T5,b9 (b9 (b9 (b9 JQ RA) abV) Y8) Zb,⟨gs5,r5,sl5,fr5,fs5,a5,rfl,UI,.inr ⟨q5,d3.Wg,N,Zv,Zw,F5,Kb,RY,Zt,(RX _).1 Zs,λb hb=>Xt b (cn Zu hb)⟩⟩⟩
 ·exact hJ.elim
end
end
section
open Go Go.Conc Go.ConcN
def _root_.Go.World.tp(w:World)(τ:Nat->Question->Nat):World:={w with tape:=τ}
theorem aF(w:World)(τ:Nat->Question->Nat)(p:Addr):(w.tp τ).cell? p=w.cell? p:=rfl
theorem aG(w:World)(τ:Nat->Question->Nat)(p:Addr):(w.tp τ).frozen? p=w.frozen? p:=rfl
theorem aT(w:World)(τ:Nat->Question->Nat):(w.tp τ).heap=w.heap:=rfl
theorem aD(w:World)(τ:Nat->Question->Nat)(p:Addr)(v:Value):(w.tp τ).setCell p v=(w.setCell p v).tp τ:=rfl
theorem aO(w:World)(τ:Nat->Question->Nat)(o:Obj):(w.tp τ).alloc o=(w.alloc o).tp τ:=rfl
theorem aW(w:World)(τ:Nat->Question->Nat):(w.tp τ).drew=(w.drew).tp τ:=rfl
theorem aN(w:World)(τ:Nat->Question->Nat):Alike w (w.tp τ):=⟨rfl,rfl,rfl⟩
def tN(K:Value->World->Prop):Result Next->Prop
 |.ok (.value v) w=>K v w
 |.ok .skip w=>K undef w
 |_=>False
theorem aA(K:Value->World->Prop)(v:Value)(w:World):tN K (.ok (.value v) w)=K v w:=rfl
theorem aB(K:Value->World->Prop)(w:World):tN K (.ok .skip w)=K undef w:=rfl
section
variable(P:Program)(main:Bool)(cs:List Frame)(J:dA ι)(Stop:ι->Frame->List Frame->World->Prop)(U:List Frame->Prop)
def tO(b:Frame)(k:List Item)(fs:List Frame):ι->Exit->Act->World->Prop
 |i,.normal,a,w=>ZigC P main cs J Stop i (b.at a k) fs w
 |i,.exit id,a,w=>∃k',exitTo id k=some k'/\ZigC P main cs J Stop i (b.at a k') fs w
 |i,.ret,a,w=>∀todo,ZigC P main cs J Stop i {b.at a todo with mode:=.returning} fs w
 |_,_,_,_=>False
def wpM(fn:FuncId)(c:Code)(Q:ι->Exit->Act->World->Prop)(i:ι)(a:Act)(w:World):Prop:=∀(b:Frame) (k:List Item) (fs:List Frame),b.fn=fn->b.kind=.normal->U fs->(∀i' e a' w',Q i' e a' w'->tO P main cs J Stop b k fs i' e a' w')->ZigC P main cs J Stop i (b.at a (.code c::k)) fs w
def qJ(fn:FuncId)(ops:Array Oper)(todo:List Nat)(Q:ι->Exit->Act->World->Prop)(i:ι)(a:Act)(w:World):Prop:=∀(b:Frame) (k:List Item) (fs:List Frame),b.fn=fn->b.kind=.normal->U fs->(∀i' e a' w',Q i' e a' w'->tO P main cs J Stop b k fs i' e a' w')->ZigC P main cs J Stop i (b.at a (.inRegion ops todo::k)) fs w
def CallsM(i:ι)(f:FuncId)(args:Array Value)(w:World)(Post:ι->Value->World->Prop):Prop:=∀(c:Frame) (fs:List Frame),U (c::fs)->(∀i' v w',Post i' v w'->ZigC P main cs J Stop i' (c.finish v) fs w')->ZigC P main cs J Stop i (Frame.enter P f args .normal) (c::fs) w
end
structure Stat(P:Program)(S:ba):Prop where
 rows:∀H,S.Rows H P
 bodies:S.iM P
 leafs:S.nV
 plain:S.Plain P
section rules
variable{P:Program}{main:Bool}{cs:List Frame}{J:dA ι}{Stop:ι->Frame->List Frame->World->Prop}{U:List Frame->Prop}{fn:FuncId}{Q:ι->Exit->Act->World->Prop}{i:ι}{w:World}
theorem ZigC.alike(e:Alike w w')(h:ZigC P main cs J Stop i fr fs w):ZigC P main cs J Stop i fr fs w':=uN (h.all.alike e)
theorem ZigC.pure(hs:∀w,stepG P main (bh fr (fs++cs)) w=.go (bh aZ (bz++cs)) w #[])(h:ZigC P main cs J Stop i aZ bz w):ZigC P main cs J Stop i fr fs w:=.walk (.pure hs (.stop h))
theorem tO.push{x:Item}{e:Exit}(hx:x.plain=true)(he:e≠.normal)(h:tO P main cs J Stop b k fs i e a w):tO P main cs J Stop b (x::k) fs i e a w:=by
 cases e with
 |normal=>exact absurd rfl he
 |exit id=>obtain⟨k',hk,hg⟩:=h;exact⟨k',by cases x<;>simp_all [exitTo,Item.plain],hg⟩
 |ret=>exact h
 |goto l=>exact h
 |panic ch=>exact h
 |outgrown=>exact h
theorem di(h:wpM P main cs J Stop U fn c Q i a w)(hq:∀i e a w,Q i e a w->Q' i e a w):wpM P main cs J Stop U fn c Q' i a w:=λb k fs h1 h2 h3 hc=>h b k fs h1 h2 h3 λi' e a' w' q=>hc i' e a' w' (hq _ _ _ _ q)
theorem N9(e:Alike w w')(h:wpM P main cs J Stop U fn c Q i a w):wpM P main cs J Stop U fn c Q i a w':=λb k fs h1 h2 h3 hc=>(h b k fs h1 h2 h3 hc).alike e
theorem Oa{S:ba}(st:Stat P S)(hok:cR P S fn c=true)(hd:∀d∈a.defers,mK P S d)(wm:pY S fn a.tmps)
  (h:∀τ,c.wp P (λe a' w'=>e=.normal/\∃W,Alike W w'/\Q i .normal a' W) a (w.tp τ)):wpM P main cs J Stop U fn c Q i a w:=λb k fs h1 h2 h3 hc=>by
 subst h1;exact .walk (Vj (Post:=λa' w'=>∃W,Alike W w'/\Q i .normal a' W) st.rows st.bodies st.leafs st.plain h2 hok hd wm h (λa' w' τ ⟨W,e,hq⟩=>⟨W,⟨e.heap,e.os,e.output⟩,hq⟩) λa' w' ⟨W,e,hq⟩=>.stop ((hc i .normal a' W hq:ZigC P main cs J Stop i (b.at a' k) fs W).alike e))
theorem wpM_lone{S:ba}(st:Stat P S)(_:X)(hok:cR P S fn c=true)(hd:∀d∈a.defers,mK P S d)(wm:pY S fn a.tmps)
  (h:∀τ,c.wp P (λe a' w'=>e=.normal/\∃W,Alike W w'/\Q i .normal a' W) a (w.tp τ)):wpM P main cs J Stop U fn c Q i a w:=Oa st hok hd wm h
theorem dm(h:Q i .normal a w):wpM P main cs J Stop U fn .skip Q i a w:=λb k fs _ _ _ hc=>.pure (λ_=>stepG_skip) (hc _ _ _ _ h)
theorem bn(h:Q i .ret a w):wpM P main cs J Stop U fn .ret Q i a w:=λb k fs _ _ _ hc=>.pure (λ_=>stepG_ret') ((hc _ _ _ _ h:∀todo,_) _)
theorem fY{id:Nat}(h:Q i (.exit id) a w):wpM P main cs J Stop U fn (.exit id) Q i a w:=λb k fs _ _ _ hc=>by obtain⟨k',hk,hz⟩:=hc _ _ _ _ h;exact .pure (λ_=>stepG_exit hk) hz
theorem wpM_seq{x:Code}(h:wpM P main cs J Stop U fn x (λi'=>Exit.then (λa' w'=>wpM P main cs J Stop U fn y Q i' a' w') (Q i')) i a w):wpM P main cs J Stop U fn (.seq x y) Q i a w:=by
 intro b k fs h1 h2 h3 hc;refine .pure (λ_=>stepG_seq) (h b (.code y::k) fs h1 h2 h3 λi' e a' w' q=>?_);cases e with
 |normal=>exact q b k fs h1 h2 h3 hc
 |exit id=>exact tO.push rfl au (hc _ _ _ _ q)
 |ret=>exact hc _ _ _ _ q
 |goto l=>exact hc _ _ _ _ q
 |panic ch=>exact hc _ _ _ _ q
 |outgrown=>exact hc _ _ _ _ q
theorem xS{x:Code}(M:ι->Act->World->Prop)(hx:wpM P main cs J Stop U fn x (λi'=>Exit.then (M i') (Q i')) i a w)(hy:∀i' a' w',M i' a' w'->wpM P main cs J Stop U fn y Q i' a' w'):wpM P main cs J Stop U fn (.seq x y) Q i a w:=wpM_seq (di hx λi e a w q=>by cases e<;>first|exact hy _ _ _ q|exact q)
theorem aH{c:Operand}{x:Code}{t:Bool}(hc:a.eval c=.bool t)(h:wpM P main cs J Stop U fn (if t then x else y) Q i a w):wpM P main cs J Stop U fn (.cond c x y) Q i a w:=λb k fs h1 h2 h3 hq=>.pure (λ_=>stepG_cond hc) (h b k fs h1 h2 h3 hq)
theorem bt{id:Nat}(h:wpM P main cs J Stop U fn c (λi'=>Exit.inBlock id (Q i')) i a w):wpM P main cs J Stop U fn (.block id c) Q i a w:=by
 intro b k fs h1 h2 h3 hc;refine .pure (λ_=>stepG_block) (h b (.inBlock id::k) fs h1 h2 h3 λi' e a' w' q=>?_);cases e with
 |normal=>exact .pure (λ_=>stepG_inBlock) (hc _ _ _ _ q)
 |exit id'=>
  simp only[Exit.inBlock]at q;split at q
  ·rename_i e;subst e;exact⟨k,by simp[exitTo],hc _ _ _ _ q⟩
  ·rename_i e;obtain⟨k',hk,hz⟩:=hc _ _ _ _ q;refine⟨k',?_,hz⟩;simp only[exitTo];rw[if_neg (by simpa using λe'=>e (by first|exact e'|exact e'.symm))];exact hk
 |ret=>exact hc _ _ _ _ q
 |goto l=>exact hc _ _ _ _ q
 |panic ch=>exact hc _ _ _ _ q
 |outgrown=>exact hc _ _ _ _ q
theorem fZ(I:Nat->ι->Act->World->Prop){n:Nat}(h₀:I n i a w)
  (hs:∀n i a w,I n i a w->wpM P main cs J Stop U fn c (λi'=>Exit.then (λa' w'=>∃m,m<n/\I m i' a' w') (Q i')) i a w):wpM P main cs J Stop U fn (.loop c) Q i a w:=by
 intro b k fs h1 h2 h3 hc;have key:∀n i a w,I n i a w->ZigC P main cs J Stop i (b.at a (.code c:: .inLoop c::k)) fs w:=by
  intro n;induction n using Nat.strongRecOn with
  |ind n ih=>
   intro i a w hI;refine hs n i a w hI b (.inLoop c::k) fs h1 h2 h3 λi' e a' w' q=>?_;cases e with
   |normal=>obtain⟨m,hm,hI'⟩:=q;exact .pure (λ_=>stepG_inLoop) (ih m hm i' a' w' hI')
   |exit id=>exact tO.push rfl au (hc _ _ _ _ q)
   |ret=>exact hc _ _ _ _ q
   |goto l=>exact hc _ _ _ _ q
   |panic ch=>exact hc _ _ _ _ q
   |outgrown=>exact hc _ _ _ _ q
 exact .pure (λ_=>stepG_loop) (key n i a w h₀)
theorem gO{id:Nat}{ops:Array Oper}(h:qJ P main cs J Stop U fn ops (List.range ops.size) Q i a w):wpM P main cs J Stop U fn (.region id ops false) Q i a w:=λb k fs h1 h2 h3 hc=>.pure (λ_=>stepG_region) (h b k fs h1 h2 h3 hc)
theorem ji{ops:Array Oper}(h:Q i .normal a w):qJ P main cs J Stop U fn ops [] Q i a w:=λb k fs _ _ _ hc=>.pure (λ_=>stepG_region_end) (hc _ _ _ _ h)
theorem yN{S:ba}(st:Stat P S){ops:Array Oper}{rest:List Nat}(ho:ops[j]? =some o)(hw:Region.wanted o (yielded ops a.tmps)=true)(hok:eV P S fn o=true)(wm:pY S fn a.tmps)
  (h:∀(τ:Nat->Question->Nat) (K:Value->World->Prop),(∀v w' W,Alike W w'->qJ P main cs J Stop U fn ops rest Q i (a.put o.dst v) W->K v w')->tN K ((execOp a.eval o).run P (w.tp τ))):qJ P main cs J Stop U fn ops (j::rest) Q i a w:=by
 intro b k fs h1 h2 h3 hc;subst h1;refine .walk (co_op st.rows st.bodies st.leafs (.inl h2) ho hw hok wm λτ=>?_);have h:=h τ (λv w'=>∃W,Alike W w'/\qJ P main cs J Stop U b.fn ops rest Q i (a.put o.dst v) W) (λv w' W e h=>⟨W,e,h⟩);have hw:w.tp τ=aV w τ:=rfl;rw[hw]at h;generalize (execOp a.eval o).run P (aV w τ)=X at h;unfold tN at h;split at h
 ·obtain⟨W,e,h⟩:=h;exact⟨_,_,.inl rfl,.stop ((h b k fs rfl h2 h3 hc).alike e)⟩
 ·obtain⟨W,e,h⟩:=h;exact⟨_,_,.inr ⟨rfl,rfl⟩,.stop ((h b k fs rfl h2 h3 hc).alike e)⟩
 ·exact h.elim
theorem zigC_enter{ops:Array Oper}{rest:List Nat}{args:Array Value}(hk:b.kind≠.early)(ho:ops[j]? =some o)(hw:Region.wanted o (yielded ops a.tmps)=true)
  (hr:∀w,(execOp a.eval o).runT P w #[]=(.ok (.enter f args) w,#[]))(h:ZigC P main cs J Stop i (Frame.enter P f args .normal) (b.at a (.inRegion ops (j::rest)::k)::fs) w):ZigC P main cs J Stop i (b.at a (.inRegion ops (j::rest)::k)) fs w:=by
 refine .pure (λw=>?_) h;have oT:((b.at a (.inRegion ops (j::rest)::k)).kind==CallKind.early)=false:=by show(b.kind==CallKind.early)=false;cases e:b.kind<;>first|rfl|exact absurd e hk
 have:=(stepG_oper (P:=P) (main:=main) (b:=b) (a:=a) (k:=k) (cs:=fs++cs) (w:=w) (rest:=rest) ho hw).trans (qs (fr:=b.at a (.inRegion ops (j::rest)::k)) (cs:=fs++cs) rfl oT (hr w));rw[show seen P (b.at a (.inRegion ops (j::rest)::k)).fn #[] ++ #[]=#[]from by simp[seen]]at this;exact this
theorem opsM_call{ops:Array Oper}{rest:List Nat}{args:Array Value}(ho:ops[j]? =some o)(hw:Region.wanted o (yielded ops a.tmps)=true)
  (hr:∀w,(execOp a.eval o).runT P w #[]=(.ok (.enter f args) w,#[]))(hU:∀(b:Frame) (k:List Item) (fs:List Frame),b.fn=fn->U fs->U (b.at a (.inRegion ops (j::rest)::k)::fs))(hcall:CallsM P main cs J Stop U i f args w Post)
  (hnext:∀i' v w'',Post i' v w''->qJ P main cs J Stop U fn ops rest Q i' (a.put o.dst v) w''):qJ P main cs J Stop U fn ops (j::rest) Q i a w:=by
 intro b k fs h1 h2 h3 hc;refine zigC_enter (by rw[h2];simp) ho hw hr (hcall _ fs (hU b k fs h1 h3) λi' v w'' hp=>?_);rw[fy,ho];exact hnext i' v w'' hp b k fs h1 h2 h3 hc
def bodyPostM(P:Program)(fn:Func)(Post:ι->Value->World->Prop):ι->Exit->Act->World->Prop
 |i,.normal,a,w|i,.ret,a,w=>a.defers=[]/\∃v,(results fn a.tmps).run P w=.ok v w/\Post i v w
 |_,_,_,_=>False
theorem aX{fn:Func}{args:Array Value}(hf:P.funcs[f]? =some fn)(hb:fn.body=some c)
  (h:wpM P main cs J Stop U f c (bodyPostM P fn Post) i {tmps:=args++Array.replicate (fn.ntmps-args.size) undef,defers:=[]} w):CallsM P main cs J Stop U i f args w Post:=by
 intro abW fs hu hnext;let b:Frame:={(default:Frame)with fn:=f,kind:=.normal};have tP:Frame.enter P f args .normal=b.at {tmps:=args++Array.replicate (fn.ntmps-args.size) undef,defers:=[]} [.code c]:=by simp[Frame.enter,Frame.at,hf,hb,b]
 rw[tP];have RZ:∀i' a' w' todo,(a'.defers=[]/\∃v,(results fn a'.tmps).run P w'=.ok v w'/\Post i' v w')->ZigC P main cs J Stop i' {b.at a' todo with mode:=.returning} (abW::fs) w':=by rintro i' a' w' todo ⟨hd,v,hr,hp⟩;exact .walk (FU (fr:={b.at a' todo with mode:=.returning}) rfl hd rfl hf hr (.stop (hnext i' v w' hp)))
 refine h b [] (abW::fs) rfl rfl hu λi' e a' w' q=>?_;cases e with
 |normal=>exact .pure (λ_=>stepG_end) (RZ i' a' w' [] q)
 |ret=>exact λtodo=>RZ i' a' w' todo q
 |_=>exact q.elim
theorem CallsM.mono{args:Array Value}(h:CallsM P main cs J Stop U i f args w Post)(hp:∀i v w,Post i v w->Rm i v w):CallsM P main cs J Stop U i f args w Rm:=λc fs hu hn=>h c fs hu λi' v w' hq=>hn i' v w' (hp _ _ _ hq)
theorem CallsM.alike{args:Array Value}(e:Alike w w')(h:CallsM P main cs J Stop U i f args w Post):CallsM P main cs J Stop U i f args w' Post:=λc fs hu hn=>(h c fs hu hn).alike e
theorem callsM_lone{S:ba}(st:Stat P S){args:Array Value}(lR:wj P S f args)(h:∀τ,Calls P f args (w.tp τ) λe w'=>∃v,e=.returned v/\∃W,Alike W w'/\Post i v W):CallsM P main cs J Stop U i f args w Post:=by intro c fs _ hnext;refine .walk (Mt (Post:=λv w'=>∃W,Alike W w'/\Post i v W) st.rows st.bodies st.leafs st.plain lR (λv w' τ ⟨W,e,hp⟩=>⟨W,⟨e.heap,e.os,e.output⟩,hp⟩) h λv w' ⟨W,e,hp⟩=>.stop ((hnext i v W hp).alike e))
theorem pg{S:ba}(st:Stat P S)(hcs:X)(hk:b.kind=.normal)(hok:cR P S b.fn c=true)(hd:∀d∈a.defers,mK P S d)(wm:pY S b.fn a.tmps)
  (h:∀τ,c.wp P (λe a' w'=>e=.normal/\∃W,Alike W w'/\ZigC P main cs J Stop i (b.at a' k) fs W) a (w.tp τ)):ZigC P main cs J Stop i (b.at a (.code c::k)) fs w:=
 wpM_lone (U:=λ_=>True) (Q:=λi' e a' w'=>i'=i/\e=.normal/\ZigC P main cs J Stop i (b.at a' k) fs w') st hcs hok hd wm (λτ=>Code.wp_mono (λe a' w' ⟨h1,W,h2,h3⟩=>⟨h1,W,h2,rfl,rfl,h3⟩) (h τ)) b k fs rfl hk trivial λi' e a' w' ⟨h1,h2,h3⟩=>by subst h1 h2;exact h3
theorem fN{S:ba}(st:Stat P S){ops:Array Oper}{rest:List Nat}(hk:b.kind=.normal\/b.kind=.deferred)(ho:ops[j]? =some o)(hw:Region.wanted o (yielded ops a.tmps)=true)(hok:eV P S b.fn o=true)(wm:pY S b.fn a.tmps)
  (h:∀(τ:Nat->Question->Nat) (K:Value->World->Prop),(∀v w' W,Alike W w'->ZigC P main cs J Stop i (b.at (a.put o.dst v) (.inRegion ops rest::k)) fs W->K v w')->tN K ((execOp a.eval o).run P (w.tp τ))):ZigC P main cs J Stop i (b.at a (.inRegion ops (j::rest)::k)) fs w:=by
 refine .walk (co_op st.rows st.bodies st.leafs hk ho hw hok wm λτ=>?_);have h:=h τ (λv w'=>∃W,Alike W w'/\ZigC P main cs J Stop i (b.at (a.put o.dst v) (.inRegion ops rest::k)) fs W) (λv w' W e h=>⟨W,e,h⟩);have hw:w.tp τ=aV w τ:=rfl;rw[hw]at h;generalize (execOp a.eval o).run P (aV w τ)=X at h;unfold tN at h;split at h
 ·obtain⟨W,e,h⟩:=h;exact⟨_,_,.inl rfl,.stop (h.alike e)⟩
 ·obtain⟨W,e,h⟩:=h;exact⟨_,_,.inr ⟨rfl,rfl⟩,.stop (h.alike e)⟩
 ·exact h.elim
theorem zV{c:Frame}{fn:Func}(hm:fr.mode=.returning)(hd:fr.defers=[])(hk:fr.kind=.normal)(hf:P.funcs[fr.fn]? =some fn)(hr:(results fn fr.tmps).run P w=.ok v w)(h:ZigC P main cs J Stop i (c.finish v) fs w):ZigC P main cs J Stop i fr (c::fs) w:= .walk (FU hm hd hk hf hr (.stop h))
end rules
theorem tQ{P:Program}{fn:Func}(hop:o.op=.call {callee:=.value (.func f),args:=xs,argTypes:=ats})(hf:P.funcs[f]? =some fn)(hname:(fn.name== "runtime.NumGoroutine")=false)(hb:fn.body=some c)(w:World):
  (execOp a.eval o).runT P w #[]=(.ok (.enter f (xs.map a.eval)) w,#[]):=by
 have h1:¬fn.name= "runtime.NumGoroutine" :=by simpa using hname
 have ef:a.eval (.func f)=.func (.func f) #[] #[]:=rfl;simp[execOp,hop,resolve,ef,Deferred.ofValue,invoke,callFunc,hf,h1,hb,go_sem]
theorem jT{P:Program}{main:Bool}{cs:List Frame}{J:dA ι}{Stop:ι->Frame->List Frame->World->Prop}{i:ι}{w:World}{ops:Array Oper}{rest:List Nat}{fn:Func}{args:Array Value}(hk:b.kind≠.early)(ho:ops[j]? =some o)(hw:Region.wanted o (yielded ops a.tmps)=true)
  (hop:o.op=.call {callee:=.value (.func f),args:=xs,argTypes:=ats})(hf:P.funcs[f]? =some fn)(hname:(fn.name== "runtime.NumGoroutine")=false)(hb:fn.body=some c)(hxs:xs.map a.eval=args)(h:ZigC P main cs J Stop i (Frame.enter P f args .normal) (b.at a (.inRegion ops (j::rest)::k)::fs) w):ZigC P main cs J Stop i (b.at a (.inRegion ops (j::rest)::k)) fs w:=
 zigC_enter hk ho hw (λw=>hxs▸tQ hop hf hname hb w) h
theorem aM{P:Program}{main:Bool}{cs:List Frame}{J:dA ι}{Stop:ι->Frame->List Frame->World->Prop}{U:List Frame->Prop}{fn:FuncId}{Q:ι->Exit->Act->World->Prop}{i:ι}{w:World}{ops:Array Oper}{rest:List Nat}{args:Array Value}(ho:ops[j]? =some o)(hw:Region.wanted o (yielded ops a.tmps)=true)
  (hop:o.op=.call {callee:=.value (.func f),args:=xs,argTypes:=ats})(hf:P.funcs[f]? =some Q7)(hname:(Q7.name== "runtime.NumGoroutine")=false)(hb:Q7.body=some c)(hxs:xs.map a.eval=args)(hU:∀(b:Frame) (k:List Item) (fs:List Frame),b.fn=fn->U fs->U (b.at a (.inRegion ops (j::rest)::k)::fs))(hcall:CallsM P main cs J Stop U i f args w Post)
  (hnext:∀i' v w'',Post i' v w''->qJ P main cs J Stop U fn ops rest Q i' (a.put o.dst v) w''):qJ P main cs J Stop U fn ops (j::rest) Q i a w:=
 opsM_call ho hw (λw=>hxs▸tQ hop hf hname hb w) hU hcall hnext
def S0:ba:={L:=λ_=>false,C:=λ_=>false,X:=λ_=>false,ft:=λ_ _=>false}
theorem fG(P:Program):Stat P S0:=⟨λ_=>⟨λ_ h=>bY,λ_ h=>bY,Fu rfl (λ_=>rfl) (λ_=>rfl)⟩,λ_ h=>bY,λ_ h=>bY,λ_ h=>bY⟩
theorem Gf(P:Program)(S:ba):∀d∈([]:List Deferred),mK P S d:=au
theorem D7(f:Nat)(t:Array Value):pY S0 f t:=λ_ h=>bY
end
section
open Go Go.Conc Go.ConcN
open Go.ConcR (KK WgAt stA smA Payload Aside2 DC0)
variable[Payload]
variable[Inhabited bO]
omit[Payload]in
theorem VD(O:d.Ok){num z1:Value}{n:Nat}
  (hstep:∀(cs:List Frame) (w:World),stepG d.P false (bh gD cs) w=.comm (bh gD cs) #[scase d.come num z0,rcase d.gone z2] true .select w #[])
  (hgoes:∀w,Goes d.P false (RK d.K0) (DS (d.Sp (i+1)) d.B) (λg _=>∃g₂,AtIn d.P false d.K0 (d.Sp (i+1)) d.B (d.seat i z1 z2 (bh bo (cj++d.cw i))) g g₂) n (bh (gD.finish (.tuple #[.int .i64 0,.bool false,z2])) (fs++d.cw i)) w):
  ∃H' n v,(∀r,l6 d.cc (i+1) d.come v (bh gD (fs++d.cw i)) r H')/\d.cc.Re (i+1) (d.seat i z1 z2 (bh bo (cj++d.cw i))) n H':=by
 have yJ:(i+1==0)=false:=au;refine⟨bh (gD.finish (.tuple #[.int .i64 0,.bool false,z2])) (fs++d.cw i),n+1,num,λr=>⟨rfl,bh gD (fs++d.cw i),0,#[scase d.come num z0,rcase d.gone z2],.select,λw₁ _=>?_,⟨⟨z0,rfl⟩,λm cc hm hcc=>?_⟩,λw hw m b' z' h=>?_,?_⟩,?_⟩
 ·rw[yJ];exact hstep _ w₁
 ·rcases m with _|_|m
  ·exact absurd rfl hm
  ·simp at hcc;exact⟨d.gone,z2,hcc.symm,bp O.cg⟩
  ·simp at hcc
 ·obtain⟨_,_,⟨k,h5⟩,_⟩:=hw;rcases m with _|_|m
  ·simp[scase,rcase]at h
  ·simp[rcase]at h;obtain⟨rfl,_⟩:=h;exact⟨k,h5⟩
  ·simp at h
 ·show _=Go.Conc.served (bh gD (fs++d.cw i)) _;simp[Go.Conc.served,commResult,scase,rcase,goInt,bh]
 ·show Sits d.P (i+1==0) d.K0 (d.Sp (i+1)) d.B _ _ _;rw[yJ];exact .inl ⟨n,default,rfl,hgoes default⟩
theorem Sa(O:d.Ok){num:Value}{n:Nat}
  (hstep:∀(cs:List Frame) (w:World),stepG d.P false (bh gD cs) w=.comm (bh gD cs) #[scase d.come num z0,rcase d.gone z2] true .select w #[])
  (hgoes:∀w,Goes d.P false (RK d.K0) (DS (d.Sp (i+1)) d.B) (λg w=>g.status=.running/\∃m,d.cc.Wk i 7 m 0 g w) n (bh (gD.finish (.tuple #[.int .i64 0,.bool false,z2])) (fs++d.cw i)) w):Xj d i gD fs:=by
 have yJ:(i+1==0)=false:=au;refine⟨bh (gD.finish (.tuple #[.int .i64 0,.bool false,z2])) (fs++d.cw i),n,num,λr=>⟨rfl,bh gD (fs++d.cw i),0,#[scase d.come num z0,rcase d.gone z2],.select,λw₁ _=>?_,⟨⟨z0,rfl⟩,λm cc hm hcc=>?_⟩,λw hw m b' z' h=>?_,?_⟩,λw _=>hgoes w⟩
 ·rw[yJ];exact hstep _ w₁
 ·rcases m with _|_|m
  ·exact absurd rfl hm
  ·simp at hcc;exact⟨d.gone,z2,hcc.symm,bp O.cg⟩
  ·simp at hcc
 ·obtain⟨_,_,⟨k,h5⟩,_⟩:=hw;rcases m with _|_|m
  ·simp[scase,rcase]at h
  ·simp[rcase]at h;obtain⟨rfl,_⟩:=h;exact⟨k,h5⟩
  ·simp at h
 ·show _=Go.Conc.served (bh gD (fs++d.cw i)) _;simp[Go.Conc.served,commResult,scase,rcase,goInt,bh]
end
section
open Go Go.Conc Go.ConcN
section
variable{P:Program}
theorem uT{main:Bool}{x:Frame}{rest:List Frame}{chain:List PanicEntry}{f:Func}(hm:fr.mode=.panicking chain)(hd:fr.defers=[])(hf:P.funcs[fr.fn]? =some f)(w:World):
  stepG P main (bh fr (x::rest)) w=.go (bh (x.raise chain) rest) w #[]:=by
 simp[stepG,hm,unwind,hd,Frame.catches,hf,bh]
end
def DG(S:Loc->Prop)(B:Nat)(w w':World)(es:Array Event):Prop:=Uy w w'/\∀e∈es,EvC S B e
theorem bN(w:World):DG S B w w #[]:=⟨Uy.refl w,au⟩
theorem gP{w:World}{es:Array Event}(h:∀e∈es,EvC S B e):DG S B w w es:=⟨Uy.refl w,h⟩
theorem Gg{w:World}{o:Obj}{es:Array Event}(h:∀e∈es,EvC S B e):DG S B w (w.alloc o) es:=⟨⟨rfl,rfl,rfl,au,λb hb=>by rw[←cG];simp[cF,Nat.ne_of_lt hb]⟩,h⟩
section
variable{P:Program}
theorem ki{main:Bool}{cs:List Frame}{w:World}{g:FuncId}{cap args:Array Value}{ds:List Deferred}(hm:fr.mode≠.run)(hd:fr.defers=⟨.fn (.func g) cap,args⟩::ds)(hf:P.funcs[g]? =some fn)(hname:(fn.name== "runtime.NumGoroutine")=false)(hb:fn.body=some c):
  stepG P main (G fr cs) w=.go (G ((baseD g).at {tmps:=(args++cap) ++Array.replicate (fn.ntmps- (args++cap).size) undef,defers:=[]} [.code c]) ({fr with defers:=ds}::cs)) w #[]:=by
 have h1:¬fn.name= "runtime.NumGoroutine" :=by simpa using hname
 rw[←enter_atD (args++cap) hf hb];cases e:fr.mode with
 |run=>exact absurd e hm
 |_=>simp[G,stepG,e,unwind,hd,callDeferred,invoke,callFunc,hf,h1,hb,GStep.after,seen_none]
theorem sO{main:Bool}{ops:Array Oper}{rest:List Nat}{c:Frame}{cs:List Frame}{w:World}(ho:ops[i]? =some o)(hw:Region.wanted o (yielded ops a.tmps)=true)(hk:b.kind=.deferred)
  (hop:o.op=.call {callee:=.builtin .recover,args:=#[],argTypes:=ats})(hm:c.mode=.panicking ({v,recovered:=false}::cK)):
  stepG P main (G (b.at a (.inRegion ops (i::rest)::k)) (c::cs)) w=.go (G (b.at (a.put o.dst v) (.inRegion ops rest::k)) ({c with mode:=.panicking ({v,recovered:=true}::cK)}::cs)) w #[]:=by
 have e1:(b.at a (.inRegion ops (i::rest)::k)).kind=.deferred:=hk;have e2:(b.at a (.inRegion ops (i::rest)::k)).roundOf=none:=rfl;have hr:(execOp a.eval o).runT P w #[]=(.ok .recover w,#[]):=by simp[execOp,hop,go_sem,builtin]
 have hg:=stepG_oper (P:=P) (main:=main) (b:=b) (a:=a) (k:=k) (cs:=c::cs) (w:=w) (rest:=rest) ho hw
 skip
 rw[hg];simp only[stepG.apply,if_true,hr,e1,e2];have ht:tryRecover (b.at a (.inRegion ops (i::rest)::k)) (c::cs)=some (v,{c with mode:=.panicking ({v,recovered:=true}::cK)}::cs):=by simp[tryRecover,e1,hm]
 simp[ht,fy,ho,GStep.after,seen,G]
theorem p5{main:Bool}{todo:List Item}{c:Frame}{cs:List Frame}{w:World}(hn:b.kind=.deferred)(hd:a.defers=[])(hf:P.funcs[b.fn]? =some fn)
  (hr:(results fn a.tmps).run P w=.ok v w)(he:(results fn a.tmps).events P w #[]=#[])(hc:c.mode=.panicking ({v:=x,recovered:=true}::cK))(ho:cK.dropWhile (!·.goexit)=[]):
  stepG P main (G {b.at a todo with mode:=.returning} (c::cs)) w=.go (G {c with mode:=.returning} cs) w #[]:=by
 simp[G,stepG,unwind,doReturn,Frame.at,hn,hd,hf,hr,he,hc,ho,seen,GStep.after]
end
end
section
open Go
abbrev link:Go.Conc.Lib.WgLink:={add:=71,done:=73,wait:=76,relMerge:=103,disable:=104,enable:=105,inBubble:=106,associate:=107,fatal:=108,uOr:=109,uAdd:=110,raceRead:=111,uLoad:=112,uStore:=113,disassociate:=114,semrelease:=115,acquire:=121,isAssociated:=122,uCas:=123,raceWrite:=124,semacquire:=125,orU64:=143,addU64:=144,loadU64:=145,storeU64:=146,casU64:=150,tWgP:=202,tUP:=100,tAssoc:=204,tWg:=165,tAU:=162,tU64:=160,tUint:=175,tU32:=163,tPU32:=208,tPAU:=239,tPU64:=241,tNoCopy:=159,tANoCopy:=99,tAlign64:=113}
theorem MC:Go.Conc.Lib.WgLib prog link:=⟨func71,func73,func76,func103,func104,func105,func106,func107,func108,func109,func110,func111,func112,func113,func114,func115,func121,func122,func123,func124,func125,func143,func144,func145,func146,func150,underlying202,Tryz.runUnderlying202,Tryz.sizeOf202,Tryz.isAgg202,Tryz.zeroValue202,underlying100,Tryz.runUnderlying100,Tryz.sizeOf100,Tryz.isAgg100,Tryz.zeroValue100,underlying204,Tryz.runUnderlying204,Tryz.sizeOf204,Tryz.isAgg204,Tryz.zeroValue204,underlying165,Tryz.runUnderlying165,Tryz.sizeOf165,Tryz.isAgg165,Tryz.zeroValue165,underlying162,Tryz.runUnderlying162,Tryz.sizeOf162,Tryz.isAgg162,Tryz.zeroValue162,underlying160,Tryz.runUnderlying160,Tryz.sizeOf160,Tryz.isAgg160,Tryz.zeroValue160,underlying175,Tryz.runUnderlying175,Tryz.sizeOf175,Tryz.isAgg175,Tryz.zeroValue175,underlying163,Tryz.runUnderlying163,Tryz.sizeOf163,Tryz.isAgg163,Tryz.zeroValue163,underlying208,Tryz.runUnderlying208,Tryz.sizeOf208,Tryz.isAgg208,Tryz.zeroValue208,underlying239,Tryz.runUnderlying239,Tryz.sizeOf239,Tryz.isAgg239,Tryz.zeroValue239,underlying241,Tryz.runUnderlying241,Tryz.sizeOf241,Tryz.isAgg241,Tryz.zeroValue241,underlying0,Tryz.runUnderlying0,Tryz.sizeOf0,Tryz.isAgg0,Tryz.zeroValue0,underlying3,Tryz.runUnderlying3,Tryz.sizeOf3,Tryz.isAgg3,Tryz.zeroValue3,underlying4,Tryz.runUnderlying4,Tryz.sizeOf4,Tryz.isAgg4,Tryz.zeroValue4,underlying9,Tryz.runUnderlying9,Tryz.sizeOf9,Tryz.isAgg9,Tryz.zeroValue9,underlying20,Tryz.runUnderlying20,Tryz.sizeOf20,Tryz.isAgg20,Tryz.zeroValue20,underlying21,Tryz.runUnderlying21,Tryz.sizeOf21,Tryz.isAgg21,Tryz.zeroValue21,ax,ax⟩
instance:Go.ConcR.Payload:=⟨3⟩
end
section
open Go Go.Conc Go.ConcN Go.RowKit Go.Conc.Lib Go.ConcR.Gen Go.ConcN.Gen
open Go.ConcR (KK wgBlock WgAt stA smA rd wr mk Payload Aside2 DC0)
variable[Payload]{L:WgLink}
omit[Payload]in
theorem CP{P:Program}{main:Bool}{Stop:Goroutine->World->Prop}{K:World->Prop}(hR:∀w,R w w)
  (hst:∀g w g' w',Stop g w->stepG P main g w≠.go g' w' #[]):∀(n:Nat) (g:Goroutine) (w:World),Goes P main (RK K) DC0 Q n g w->K w->∀m,Goes P main R D Stop m g w->∃m' g',Goes P main R D Stop m' g' w/\Q g' w:=by
 intro n;induction n with
 |zero=>exact λg w h hK m hm=>⟨m,g,hm,h w hK⟩
 |succ n ih=>
  rintro g w (h|⟨_,h⟩) hK m hm
  ·exact⟨m,g,hm,h w hK⟩
  ·have h1:=h w hK;cases hs:stepG P main g w with
   |go g' w' es=>
    rw[hs,goes_go]at h1;obtain⟨⟨rfl,rfl⟩,h2⟩:=h1;cases m with
    |zero=>exact absurd hs (hst _ _ _ _ (hm w' (hR w')))
    |succ m=>
     rcases hm with hm|⟨_,hm⟩
     ·exact absurd hs (hst _ _ _ _ (hm w' (hR w')))
     ·have h3:=hm w' (hR w');rw[hs,goes_go]at h3;exact ih g' w' h2 hK m h3.2
   |_=>rw[hs]at h1;exact h1.elim
omit[Payload]in
theorem Kc{P:Program}{main:Bool}{K:World->Prop}(hR:∀w w₁,R w w₁->K w->K w₁):∀(n:Nat) (g:Goroutine) (w:World),Goes P main (RK K) DC0 Q n g w->K w->Goes P main R DC0 (λg w=>Q g w/\K w) n g w:=by
 intro n;induction n with
 |zero=>exact λg w h hK w₁ hr=>⟨h w₁ (hR _ _ hr hK),hR _ _ hr hK⟩
 |succ n ih=>
  rintro g w (h|⟨hs,h⟩) hK
  ·exact .inl λw₁ hr=>⟨h w₁ (hR _ _ hr hK),hR _ _ hr hK⟩
  ·refine .inr ⟨hs,λw₁ hr=>?_⟩;have Xu:=hR _ _ hr hK;have h1:=h w₁ Xu;cases e:stepG P main g w₁ with
   |go g' w' es=>rw[e,goes_go]at h1;obtain⟨⟨rfl,rfl⟩,h2⟩:=h1;rw[goes_go];exact⟨⟨rfl,rfl⟩,ih g' w' h2 Xu⟩
   |_=>rw[e]at h1;exact h1.elim
omit[Payload]in
theorem Sb{P:Program}(H:WgLib P L)(Wg:Nat)(c:Frame)(cs:List Frame):∃gX:Goroutine,
  (∀w,Goes P false (RK (WgLive L.tWg Wg)) DC0 (λg _=>g=gX) 24 (G ((baseD L.done).at ⟨#[.pointer (some ⟨Wg,0,none⟩),undef,undef,undef],[]⟩ [.code (body_done L)]) (c::cs)) w)/\
  ∃g1,(∀w,stepG P false gX w=.go g1 w #[mk (.releaseMerge (stA Wg))])/\∀w,Goes P false (RK (WgLive L.tWg Wg)) DC0 (λg w=>∃g',stepG P false g w=.go g' w #[mk .disable]) 10 g1 w:=by
 lib_facts
 apply Exists.intro;refine⟨λw=>?_,?_⟩
 ·have hK:True:=trivial;simp only[body_done,doneFn,bJ];u_reg (λ(_:True) h=>h) hK
  u_op (λ(_:WgLive L.tWg Wg _) h=>h) hK
  u_in (λ(_:WgLive L.tWg Wg _) h=>h) hK
  refine goes_call rfl rfl (by k_ne) rfl H.f_add (nm_add L) rfl ⟨by u_nil,?_⟩
  walk_nrmf addFn
  u_c stepG_seq (λ(_:WgLive L.tWg Wg _) h=>h) hK
  u_cond true (λ(_:WgLive L.tWg Wg _) h=>h) hK
  u_c stepG_seq (λ(_:WgLive L.tWg Wg _) h=>h) hK
  u_c stepG_seq (λ(_:WgLive L.tWg Wg _) h=>h) hK
  u_reg (λ(_:WgLive L.tWg Wg _) h=>h) hK
  u_op (λ(_:WgLive L.tWg Wg _) h=>h) hK
  u_op (λ(_:WgLive L.tWg Wg _) h=>h) hK
  u_c stepG_region_end (λ(_:WgLive L.tWg Wg _) h=>h) hK
  u_cond true (λ(_:WgLive L.tWg Wg _) h=>h) hK
  u_reg (λ(_:WgLive L.tWg Wg _) h=>h) hK
  u_op (λ(_:WgLive L.tWg Wg _) h=>h) hK
  u_conv H.underlying_tWgP H.room_tWg (WgLive.cell0 hK).choose_spec (λ(_:WgLive L.tWg Wg _) h=>h) hK
  exact eK (λw₁ h₁=>rfl)
 ·apply Exists.intro;refine⟨λw=>?_,λw=>?_⟩
  ·exact stepG_markAt .releaseMerge au rfl rfl (by k_ne) rfl H.f_relMerge (x_relMerge_n L) (x_relMerge_b L) (x_relMerge_x L) (x_relMerge_f L) (by simp[Act.eval,stA])
  ·have hK:True:=trivial;walk_nrm;u_c stepG_region_end (λ(_:True) h=>h) hK
   u_c stepG_seq (λ(_:WgLive L.tWg Wg _) h=>h) hK
   u_reg (λ(_:WgLive L.tWg Wg _) h=>h) hK
   refine eK (λw₁ h₁=>?_);exact⟨_,stepG_mark0 .disable au rfl rfl (by k_ne) rfl H.f_disable (x_disable_n L) (x_disable_b L) (x_disable_x L) (x_disable_f L)⟩
theorem abX{P:Program}(H:WgLib P L){C n k:Nat}{val:Value}{c:Frame}{cs:List Frame}(hcm:c.mode=.returning)(hT:QuitsD P qt 0 (G c cs))(w:World)(hK:WgLive L.tWg Wg w/\Has C (k-1) val w):
  ∃m,iu P L.tWg Wg C n k 7 m 0 (G ((baseD L.done).at ⟨#[.pointer (some ⟨Wg,0,none⟩),undef,undef,undef],[]⟩ [.code (body_done L)]) (c::cs)) w:=by
 obtain⟨gX,h1,g1,h2,h3⟩:=Sb H Wg c cs;refine⟨24,.r0 ?_⟩;have abY:∀g w g' w',AtR0 P L.tWg Wg C n 0 k val g w->stepG P false g w≠.go g' w' #[]:=by rintro g w g' w' ⟨_,_,g2,e,_⟩ e';rw[e]at e';simp at e'
 have key:∀w,WgLive L.tWg Wg w->Has C (k-1) val w->AtR0 P L.tWg Wg C n 0 k val gX w:=by
  intro w hl hh;have hD:=doneN H (Own:=BC) (Rd:=BC) (Wg:=Wg) (C:=C) (n:=n) (Low:=0) (k:=k) (val:=val) hcm hT w ⟨hl,hh⟩;obtain⟨m,g,hm,rfl⟩:=CP (λw=>RW.refl w) abY _ _ _ (h1 w) hl _ hD;cases m with
  |zero=>exact hm w (RW.refl w)
  |succ m=>
   rcases hm with hm|⟨_,hm⟩
   ·exact hm w (RW.refl w)
   ·exfalso;have e:=hm w (RW.refl w);rw[h2,goes_go]at e;obtain⟨m',g',vP,g2,e2⟩:=CP (λw=>RW.refl w) abY _ _ _ (h3 w) hl _ e.2;have hno:¬AtR0 P L.tWg Wg C n 0 k val g' w:=(by rintro⟨_,_,g3,e3,_⟩;rw[e2]at e3;simp[mk]at e3);cases m' with
    |zero=>exact hno (vP w (RW.refl w))
    |succ m'=>
     rcases vP with vP|⟨_,vP⟩
     ·exact hno (vP w (RW.refl w))
     ·have e4:=vP w (RW.refl w);rw[e2,goes_go]at e4;exact(e4.1.2 (mk .disable) au).2.1 rfl
 have hG:=Kc (R:=RW L.tWg Wg C n 0 (k-1)) (λ_ _ r h=>r.live h) _ _ _ (h1 w) hK.1;have hst:∀w':World,WgLive L.tWg Wg w'->Has C (k-1) val w'->Ra P L.tWg Wg C n k gX w':=by intro w' hl hh;obtain⟨a,_,g',b,d⟩:=key w' hl hh;exact⟨a,g',b,d⟩
 have carry:∀(m:Nat) (g:Goroutine) (w:World),Has C (k-1) val w->Goes P false (RW L.tWg Wg C n 0 (k-1)) DC0 (λg w=>g=gX/\WgLive L.tWg Wg w) m g w->Goes P false (RW L.tWg Wg C n 0 (k-1)) DC0 (Ra P L.tWg Wg C n k) m g w:=by
  intro m;induction m with
  |zero=>intro g w hh h w₁ hr;obtain⟨rfl,hl⟩:=h w₁ hr;exact hst _ hl (hr.cell.trans hh)
  |succ m ih=>
   rintro g w hh (h|⟨hs,h⟩)
   ·exact .inl λw₁ hr=>by obtain⟨rfl,hl⟩:=h w₁ hr;exact hst _ hl (hr.cell.trans hh)
   ·refine .inr ⟨hs,λw₁ hr=>?_⟩;have h1:=h w₁ hr;cases e:stepG P false g w₁ with
    |go g' w' es=>rw[e,goes_go]at h1;obtain⟨⟨rfl,rfl⟩,h2⟩:=h1;rw[goes_go];exact⟨⟨rfl,rfl⟩,ih g' w' (hr.cell.trans hh) h2⟩
    |_=>rw[e]at h1;exact h1.elim
 exact carry _ _ _ hK.2 hG
end
section
open Go Go.Conc Go.ConcN Go.RowKit
theorem Ob{p q:Prop}(h:q)(t:Hq q->p:=by intro hq;refine fN (fG _) (.inr rfl) rfl rfl ax (D7 _ _) (λτ K hK=>?_);go_simp;refine hK _ _ _ (aN _ _) ?_;clear hK K;walk_nrm;exact hq.o):p:=t ⟨h⟩
theorem z0l{p q:Prop}(h:q)(t:Hq q->p:=by intro hq;refine fN (fG _) (.inl rfl) rfl rfl ax (D7 _ _) (λτ K hK=>?_);go_simp;refine hK _ _ _ (aN _ _) ?_;clear hK K;walk_nrm;exact hq.o):p:=t ⟨h⟩
theorem o2w{p q:Prop}(h:q)(t:Hq q->p:=by intro hq;refine yN fH rfl rfl ax (xT _ az _) (λτ K hK=>?_);go_simp;refine hK _ _ _ (aN _ _) ?_;clear hK K;walk_nrm;exact hq.o):p:=t ⟨h⟩
theorem on{p q:Prop}(h:q)(t:Hq q->p:=by intro hq;refine ji ?_;simp only[Exit.then];exact hq.o):p:=t ⟨h⟩
theorem nQ{p q:Prop}(h:q)(t:Hq q->p:=by intro hq;refine wpM_seq (gO ?_);refine rg ?_;exact hq.o):p:=t ⟨h⟩
theorem Bl{p q:Prop}(h:q)(t:Hq q->p:=by intro hq;refine aH (t:=false) cC (dm ?_);exact hq.o):p:=t ⟨h⟩
theorem ctx{p q:Prop}(h:q)(t:Hq q->p:=by intro hq;refine aH (t:=true) cC ?_;simp only[if_true];exact hq.o):p:=t ⟨h⟩
theorem VG{p:Prop}(h:∀τ,q τ)(t:Hq (∀τ,q τ)->p:=by intro hq;refine wpM_seq (wpM_lone fH hcs ax (l8 rfl) (xT _ az _) (λτ=>?_));go_wp2;refine⟨_,aN _ _,?_⟩;(try simp only[Exit.then]);exact hq.o τ):p:=t ⟨h⟩
theorem l2x{p:Prop}(h:∀τ,q τ)(t:Hq (∀τ,q τ)->p:=by intro hq;refine wpM_seq (wpM_lone fH hcs ax (l8 rfl) (xT _ az _) (λτ=>?_));go_wp2;refine⟨_,aN _ _,?_⟩;exact hq.o τ):p:=t ⟨h⟩
theorem l2y{p:Prop}(h:∀τ,q τ)(t:Hq (∀τ,q τ)->p:=by intro hq;refine wpM_seq (wpM_seq (wpM_lone fH hcs ax (l8 rfl) (xT _ az _) (λτ=>?_)));go_wp2;refine⟨_,aN _ _,?_⟩;(try simp only[Exit.then]);exact hq.o τ):p:=t ⟨h⟩
theorem qK{p q:Prop}(h:q)(t:Hq q->p:=by intro hq;refine⟨_,aN _ _,?_⟩;(try simp only[Exit.then]);exact hq.o):p:=t ⟨h⟩
def gu:Value:=.iface 213 (.agg #[])
theorem Gh(w:World):(Instr.typeAssert gu 20 213 true).run prog w=.ok (.tuple #[.agg #[],.bool true]) w:=by simp[Instr.typeAssert,gu,go_sem]
theorem CQ(w:World)(es:Array Event):(Instr.typeAssert gu 20 213 true).events prog w es=es:=by simp[Instr.typeAssert,gu,go_sem]
def cl(g:Nat)(cap:Array Value):Deferred:=⟨.fn (.func g) cap,#[]⟩
theorem Gi{df c:Frame}{cs:List Frame}{K0:World->Prop}{n:Nat}{y:Value}(hfn:df.fn=117)(hm:df.mode=.run)(hd:df.defers=[cl 147 #[x,y]])
  (hn:∀w,Goes prog false (RK K0) (DG S B) Q n (G (c.raise ({v:=gu,recovered:=false}::{v:=gu,recovered:=true}::cK)) cs) w):∀w,Goes prog false (RK K0) (DG S B) Q (n+30) (G (df.raise ({v:=gu,recovered:=false}::cK)) (c::cs)) w:=by
 intro w;obtain⟨d2,e2,xI,Ct,hf2⟩:∃d2:Frame,df.raise ({v:=gu,recovered:=false}::cK)=d2/\d2.mode=.panicking ({v:=gu,recovered:=false}::cK)/\d2.defers=[cl 147 #[x,y]]/\d2.fn=117:=⟨_,rfl,by simp[Frame.raise,hm],by simp[Frame.raise,hm,hd],by simp[Frame.raise,hm,hfn]⟩;rw[e2];clear e2 hd hm;refine bg rfl (λw₁ h₁=>?_);rw[ki (g:=147) (cap:=#[x,y]) (args:=#[]) (ds:=[]) (by rw[xI];simp) Ct func147 rfl rfl];simp only[goes_go];refine⟨bN _,?_⟩;simp only[f147];walk_nrm
 (refine bg rfl (λw₁ h₁=>?_);rw[stepG_seq];simp only[goes_go];refine⟨bN _,?_⟩)
 (refine bg rfl (λw₁ h₁=>?_);rw[stepG_region];simp only[goes_go,jC,ew,fS,Nat.reduceAdd,cM,List.range,List.range.loop];refine⟨bN _,?_⟩)
 refine bg rfl (λw₁ h₁=>?_);rw[sO rfl rfl rfl rfl (by exact xI)];simp only[goes_go];refine⟨bN _,?_⟩;walk_nrm
 (refine bg rfl (λw₁ h₁=>?_);refine goes_oper_k rfl rfl az (λK hK=>?_);go_simp;refine hK _ _ ⟨gP rZ,?_⟩;clear hK K)
 (refine bg rfl (λw₁ h₁=>?_);rw[stepG_region_end];simp only[goes_go];refine⟨bN _,?_⟩)
 (refine bg rfl (λw₁ h₁=>?_);rw[stepG_seq];simp only[goes_go];refine⟨bN _,?_⟩)
 (refine bg rfl (λw₁ h₁=>?_);rw[stepG_seq];simp only[goes_go];refine⟨bN _,?_⟩)
 (refine bg rfl (λw₁ h₁=>?_);rw[stepG_region];simp only[goes_go,jC,ew,fS,Nat.reduceAdd,cM,List.range,List.range.loop];refine⟨bN _,?_⟩)
 (refine bg rfl (λw₁ h₁=>?_);refine goes_oper_k rfl rfl az (λK hK=>?_);go_simp;refine hK _ _ ⟨gP rZ,?_⟩;clear hK K)
 (refine bg rfl (λw₁ h₁=>?_);refine goes_oper_k rfl rfl az (λK hK=>?_);go_simp;rw[Gh];go_simp;refine hK _ _ ⟨gP (λe he=>by(have hm:=mem_listed he;simp[go_sem,CQ]at hm)),?_⟩;clear hK K)
 (refine bg rfl (λw₁ h₁=>?_);refine goes_oper_k rfl rfl az (λK hK=>?_);go_simp;refine hK _ _ ⟨gP rZ,?_⟩;clear hK K)
 (refine bg rfl (λw₁ h₁=>?_);refine goes_oper_k rfl rfl az (λK hK=>?_);go_simp;refine hK _ _ ⟨gP rZ,?_⟩;clear hK K)
 (refine bg rfl (λw₁ h₁=>?_);refine goes_oper_k rfl rfl az (λK hK=>?_);go_simp;refine hK _ _ ⟨gP rZ,?_⟩;clear hK K)
 (refine bg rfl (λw₁ h₁=>?_);refine goes_oper_k rfl rfl az (λK hK=>?_);go_simp;refine hK _ _ ⟨Gg rZ,?_⟩;clear hK K)
 (refine bg rfl (λw₁ h₁=>?_);refine goes_oper_k rfl rfl az (λK hK=>?_);go_simp;refine hK _ _ ⟨gP rZ,?_⟩;clear hK K)
 (refine bg rfl (λw₁ h₁=>?_);refine goes_oper_k rfl rfl az (λK hK=>?_);go_simp;refine hK _ _ ⟨gP rZ,?_⟩;clear hK K)
 (refine bg rfl (λw₁ h₁=>?_);rw[stepG_region_end];simp only[goes_go];refine⟨bN _,?_⟩)
 (refine bg rfl (λw₁ h₁=>?_);rw[stepG_seq];simp only[goes_go];refine⟨bN _,?_⟩)
 (refine bg rfl (λw₁ h₁=>?_);rw[stepG_region];simp only[goes_go,jC,ew,fS,Nat.reduceAdd,cM,List.range,List.range.loop];refine⟨bN _,?_⟩)
 (refine bg rfl (λw₁ h₁=>?_);refine goes_oper_k rfl rfl az (λK hK=>?_);go_simp;refine hK _ _ ⟨gP rZ,?_⟩;clear hK K)
 (refine bg rfl (λw₁ h₁=>?_);rw[stepG_region_end];simp only[goes_go];refine⟨bN _,?_⟩)
 (refine bg rfl (λw₁ h₁=>?_);rw[stepG_cond (t:=true) rfl];simp only[goes_go,if_true,if_false,dS,↓reduceIte];refine⟨bN _,?_⟩)
 (refine bg rfl (λw₁ h₁=>?_);rw[stepG_region];simp only[goes_go,jC,ew,fS,Nat.reduceAdd,cM,List.range,List.range.loop];refine⟨bN _,?_⟩)
 (refine bg rfl (λw₁ h₁=>?_);refine goes_oper_k rfl rfl az (λK hK=>?_);go_simp;refine hK _ _ ⟨gP rZ,?_⟩;clear hK K)
 refine bg rfl (λw₁ h₁=>?_);rw[stepG_oper rfl rfl];simp[stepG.apply,execOp,go_sem,Act.eval,GStep.after,seen,Instr.panic,gu];refine⟨bN _,?_⟩;refine bg rfl (λw₁ h₁=>?_);show(stepG prog false (bh _ (_::(c::cs))) w₁).goes _;rw[uT rfl rfl func147,goes_go];refine⟨bN _,?_⟩;refine bg rfl (λw₁ h₁=>?_);show(stepG prog false (bh _ (c::cs)) w₁).goes _;rw[uT (chain:={v:=gu,recovered:=false}::{v:=gu,recovered:=true}::cK) (f:=f117) rfl rfl (by simp only[Frame.raise];rw[hf2];exact func117),goes_go];exact⟨bN _,goes_le ae (hn _)⟩
theorem D8{cs:List Frame}{K0:World->Prop}{n:Nat}{chain:List PanicEntry}(hch:chain={v:=gu,recovered:=false}::cK)(hold:cK.dropWhile (!·.goexit)=[])(hfn:pf.fn=74)(hm:pf.mode=.run)(hd:pf.defers=[cl 116 #[x]])
  (hn:∀w,Goes prog false (RK K0) (DG S B) Q n (G {pf with mode:=.returning,defers:=[]} cs) w):∀w,Goes prog false (RK K0) (DG S B) Q (n+30) (G (pf.raise chain) cs) w:=by
 intro w;subst hch;obtain⟨d2,e2,xI,Ct,hf2⟩:∃d2:Frame,pf.raise ({v:=gu,recovered:=false}::cK)=d2/\d2.mode=.panicking ({v:=gu,recovered:=false}::cK)/\d2.defers=[cl 116 #[x]]/\{d2 with mode:=.returning,defers:=[]}=({pf with mode:=.returning,defers:=[]}:Frame):=⟨_,rfl,by simp[Frame.raise,hm],by simp[Frame.raise,hm,hd],by simp[Frame.raise,hm]⟩;rw[e2];rw[←hf2]at hn;clear e2 hd hm hf2;refine bg rfl (λw₁ h₁=>?_);rw[ki (g:=116) (cap:=#[x]) (args:=#[]) (ds:=[]) (by rw[xI];simp) Ct func116 rfl rfl];simp only[goes_go];refine⟨bN _,?_⟩;simp only[f116];walk_nrm
 (refine bg rfl (λw₁ h₁=>?_);rw[stepG_seq];simp only[goes_go];refine⟨bN _,?_⟩)
 (refine bg rfl (λw₁ h₁=>?_);rw[stepG_seq];simp only[goes_go];refine⟨bN _,?_⟩)
 (refine bg rfl (λw₁ h₁=>?_);rw[stepG_region];simp only[goes_go,jC,ew,fS,Nat.reduceAdd,cM,List.range,List.range.loop];refine⟨bN _,?_⟩)
 refine bg rfl (λw₁ h₁=>?_);rw[sO rfl rfl rfl rfl (by exact xI)];simp only[goes_go];refine⟨bN _,?_⟩;walk_nrm
 (refine bg rfl (λw₁ h₁=>?_);refine goes_oper_k rfl rfl az (λK hK=>?_);go_simp;rw[Gh];go_simp;refine hK _ _ ⟨gP (λe he=>by(have hm:=mem_listed he;simp[go_sem,CQ]at hm)),?_⟩;clear hK K)
 (refine bg rfl (λw₁ h₁=>?_);refine goes_oper_k rfl rfl az (λK hK=>?_);go_simp;refine hK _ _ ⟨gP rZ,?_⟩;clear hK K)
 (refine bg rfl (λw₁ h₁=>?_);refine goes_oper_k rfl rfl az (λK hK=>?_);go_simp;refine hK _ _ ⟨gP rZ,?_⟩;clear hK K)
 (refine bg rfl (λw₁ h₁=>?_);refine goes_oper_k rfl rfl az (λK hK=>?_);go_simp;refine hK _ _ ⟨gP rZ,?_⟩;clear hK K)
 (refine bg rfl (λw₁ h₁=>?_);refine goes_oper_k rfl rfl az (λK hK=>?_);go_simp;refine hK _ _ ⟨Gg rZ,?_⟩;clear hK K)
 (refine bg rfl (λw₁ h₁=>?_);refine goes_oper_k rfl rfl az (λK hK=>?_);go_simp;refine hK _ _ ⟨gP rZ,?_⟩;clear hK K)
 (refine bg rfl (λw₁ h₁=>?_);refine goes_oper_k rfl rfl az (λK hK=>?_);go_simp;refine hK _ _ ⟨gP rZ,?_⟩;clear hK K)
 (refine bg rfl (λw₁ h₁=>?_);rw[stepG_region_end];simp only[goes_go];refine⟨bN _,?_⟩)
 (refine bg rfl (λw₁ h₁=>?_);rw[stepG_seq];simp only[goes_go];refine⟨bN _,?_⟩)
 (refine bg rfl (λw₁ h₁=>?_);rw[stepG_region];simp only[goes_go,jC,ew,fS,Nat.reduceAdd,cM,List.range,List.range.loop];refine⟨bN _,?_⟩)
 (refine bg rfl (λw₁ h₁=>?_);refine goes_oper_k rfl rfl az (λK hK=>?_);go_simp;refine hK _ _ ⟨gP rZ,?_⟩;clear hK K)
 (refine bg rfl (λw₁ h₁=>?_);rw[stepG_region_end];simp only[goes_go];refine⟨bN _,?_⟩)
 (refine bg rfl (λw₁ h₁=>?_);rw[stepG_cond (t:=true) rfl];simp only[goes_go,if_true,if_false,dS,↓reduceIte];refine⟨bN _,?_⟩)
 (refine bg rfl (λw₁ h₁=>?_);rw[stepG_ret'];simp only[goes_go];refine⟨bN _,?_⟩)
 refine bg rfl (λw₁ h₁=>?_);rw[p5 rfl rfl func116 (results_none rfl _ _ _) (events_results_none rfl _ _) rfl hold,goes_go];exact⟨bN _,goes_le ae (hn _)⟩
end
section
open Go Go.Conc Go.ConcN Go.RowKit
attribute [local go_sem] aF aG aT aD aO aW aA aB
theorem zW(W turn gone:Nat):∃bo:Frame,
  (∀{b:Frame} {a:Act} {ops:Array Oper} {i:Nat} {rest:List Nat} {k:List Item} {cs:List Frame} {o:Oper} {xs:Array Operand} {ats:Array TypeId} {K0:World->Prop} {S:Loc->Prop} {B:Nat},
   ops[i]? =some o->Region.wanted o (yielded ops a.tmps)=true->b.kind≠.early->o.op=.call {callee:=.value (.func 83),args:=xs,argTypes:=ats}->xs.map a.eval=#[.pointer (some ⟨W,0,none⟩)]->
   (∀w,K0 w->w.cell? ⟨W,2,none⟩=some (.chan (some turn))/\w.cell? ⟨W,4,none⟩=some (.chan (some gone)))->S (.cell ⟨W,2,none⟩)->S (.cell ⟨W,4,none⟩)->W<B->∀w,
   Goes prog false (RK K0) (DS S B) (λg _=>∃g₂,AtIn prog false K0 S B {cases:=#[rcase turn (.int .i64 0),rcase gone (.agg #[])],shape:=.select,home:=λx=>x=G bo (b.at a (.inRegion ops (i::rest)::k)::cs)} g g₂) 20 (G (b.at a (.inRegion ops (i::rest)::k)) cs) w)/\
  (∀{main:Bool} {cs:List Frame} {ι:Type} {J:dA ι} {Stop:ι->Frame->List Frame->World->Prop} {i:ι} {c:Frame} {fs:List Frame} {w:World} {t:Nat} {v5 v6:Value},cs≠[]->w.cell? ⟨W,5,none⟩=some v5->w.frozen? ⟨W,5,none⟩=false->w.cell? ⟨W,6,none⟩=some v6->w.frozen? ⟨W,6,none⟩=false->
   ZigC prog main cs J Stop i (c.finish (.tuple #[])) fs ((w.setCell ⟨W,6,none⟩ (.int .i64 t)).setCell ⟨W,5,none⟩ (.bool true))->
   ZigC prog main cs J Stop i (bo.finish (.tuple #[.int .i64 0,.bool true,.int .i64 t,.agg #[]])) (c::fs) w)/\
  ∃qp:Frame,qp.mode=.panicking [{v:=gu,recovered:=false}]/\qp.defers=[]/\qp.fn=83/\
   ∀{cs:List Frame} {K0:World->Prop} {S:Loc->Prop} {B n:Nat} {Q:Goroutine->World->Prop} {w:World},(∀w,Goes prog false (RK K0) (DG S B) Q n (G qp cs) w)->
    Goes prog false (RK K0) (DG S B) Q (n+11) (G (bo.finish (.tuple #[.int .i64 1,.bool false,.int .i64 0,.agg #[]])) cs) w:=by
 apply Exists.intro;refine⟨?_,?_,?_⟩
 ·intro b a ops i rest k cs o xs ats K0 S B ho hw hk hop hxs hF YG hS4 hB w
  k_in
  refine goes_call ho hw hk hop func83 rfl rfl ⟨ds_none _,?_⟩;rw[hxs];simp only[f83];k_c stepG_seq
  k_c stepG_seq
  k_reg
  walk_nrm
  (k_in;refine goes_oper_k rfl rfl az (λK hK=>?_);go_simp;refine hK _ _ ⟨⟨rfl,rZ⟩,?_⟩;clear hK K)
  (k_in;refine goes_oper_k rfl rfl az (λK hK=>?_);go_simp;refine hK _ _ ⟨⟨rfl,rZ⟩,?_⟩;clear hK K)
  (k_in;refine goes_oper_k rfl rfl az (λK hK=>?_);go_simp;refine hK _ _ ⟨⟨rfl,rZ⟩,?_⟩;clear hK K)
  (k_in;refine goes_oper_k rfl rfl az (λK hK=>?_);have hc:=(hF _ h₁).1;go_simp;refine hK _ _ ⟨⟨rfl,λe he=>by(have hm:=mem_listed he;simp[go_sem, *]at hm;subst hm;exact evC_read _ YG hB)⟩,?_⟩;clear hK K hc)
  k_c stepG_region_end
  k_reg
  (k_in;refine goes_oper_k rfl rfl az (λK hK=>?_);go_simp;refine hK _ _ ⟨⟨rfl,rZ⟩,?_⟩;clear hK K)
  (k_in;refine goes_oper_k rfl rfl az (λK hK=>?_);go_simp;refine hK _ _ ⟨⟨rfl,rZ⟩,?_⟩;clear hK K)
  (k_in;refine goes_oper_k rfl rfl az (λK hK=>?_);go_simp;refine hK _ _ ⟨⟨rfl,rZ⟩,?_⟩;clear hK K)
  (k_in;refine goes_oper_k rfl rfl az (λK hK=>?_);have hc:=(hF _ h₁).2;go_simp;refine hK _ _ ⟨⟨rfl,λe he=>by(have hm:=mem_listed he;simp[go_sem, *]at hm;subst hm;exact evC_read _ hS4 hB)⟩,?_⟩;clear hK K hc)
  k_c stepG_region_end
  k_c stepG_seq
  k_reg
  exact eK (λw₁ h₁=>⟨_,atIn_of rfl rfl az (λw=>by simp[go_sem,execOp,rcase,Act.eval]) (λw=>by simp[go_sem,execOp,Act.eval]) rfl⟩)
 ·intro main cs ι J Stop i c fs w t v5 v6 hcs h5 z5 h6 z6 hz;rw[fy];walk_nrm
  (refine fN (fG _) (.inl rfl) rfl rfl ax (D7 _ _) (λτ K hK=>?_);go_simp;refine hK _ _ _ (aN _ _) ?_;clear hK K)
  (refine fN (fG _) (.inl rfl) rfl rfl ax (D7 _ _) (λτ K hK=>?_);go_simp;refine hK _ _ _ (aN _ _) ?_;clear hK K)
  (refine fN (fG _) (.inl rfl) rfl rfl ax (D7 _ _) (λτ K hK=>?_);go_simp;refine hK _ _ _ (aN _ _) ?_;clear hK K)
  refine .pure (λ_=>stepG_region_end) ?_;refine pg (fG _) hcs rfl ax (Gf _ _) (D7 _ _) (λτ=>?_);go_wp2;refine⟨_,aN _ _,?_⟩;refine .pure (λ_=>stepG_end) ?_;exact zV rfl rfl rfl func83 (results_none rfl _ _ _) hz
 ·apply Exists.intro;refine⟨?_,?_,?_,?_⟩;rotate_left 3
  ·intro cs K0 S B n Q w hn;have hz0:Tryz.t213.zero=some (.agg #[]):=ax;have hb:∀w:World,(Instr.build 213 #[]).run prog w=.ok (.agg #[]) w:=(by intro w;simp[Instr.build,zeroValue,go_sem,hz0]);rw[fy];walk_nrm
   (refine bg rfl (λw₁ h₁=>?_);refine goes_oper_k rfl rfl az (λK hK=>?_);go_simp;refine hK _ _ ⟨gP rZ,?_⟩;clear hK K)
   (refine bg rfl (λw₁ h₁=>?_);refine goes_oper_k rfl rfl az (λK hK=>?_);go_simp;refine hK _ _ ⟨gP rZ,?_⟩;clear hK K)
   (refine bg rfl (λw₁ h₁=>?_);refine goes_oper_k rfl rfl az (λK hK=>?_);go_simp;refine hK _ _ ⟨gP rZ,?_⟩;clear hK K)
   (refine bg rfl (λw₁ h₁=>?_);rw[stepG_region_end];simp only[goes_go];refine⟨bN _,?_⟩)
   (refine bg rfl (λw₁ h₁=>?_);rw[stepG_block];simp only[goes_go];refine⟨bN _,?_⟩)
   (refine bg rfl (λw₁ h₁=>?_);rw[stepG_cond (t:=false) rfl];simp only[goes_go,if_true,if_false,dS,↓reduceIte];refine⟨bN _,?_⟩)
   (refine bg rfl (λw₁ h₁=>?_);rw[stepG_cond (t:=true) rfl];simp only[goes_go,if_true,if_false,dS,↓reduceIte];refine⟨bN _,?_⟩)
   (refine bg rfl (λw₁ h₁=>?_);rw[stepG_region];simp only[goes_go,jC,ew,fS,Nat.reduceAdd,cM,List.range,List.range.loop];refine⟨bN _,?_⟩)
   (refine bg rfl (λw₁ h₁=>?_);refine goes_oper_k rfl rfl az (λK hK=>?_);go_simp;refine hK _ _ ⟨gP (λe he=>by(have hm:=mem_listed he;simp[go_sem,Instr.build,zeroValue,hz0]at hm)),?_⟩;clear hK K)
   (refine bg rfl (λw₁ h₁=>?_);refine goes_oper_k rfl rfl az (λK hK=>?_);go_simp;refine hK _ _ ⟨gP (λe he=>by(have hm:=mem_listed he;simp[go_sem,Instr.makeInterface]at hm)),?_⟩;clear hK K)
   refine .inr ⟨rfl,λw₁ _=>?_⟩;rw[stepG_oper rfl rfl];simp[stepG.apply,execOp,go_sem,Act.eval,GStep.after,seen,Instr.panic];exact⟨bN _,hn _⟩
  all_goals rfl
theorem uU(W come gone:Nat)(num:Int):∃gD:Frame,
  (∀{main:Bool} {cs:List Frame} {ι:Type} {J:dA ι} {Stop:ι->Frame->List Frame->World->Prop} {i:ι} {c:Frame} {fs:List Frame} {w:World},cs≠[]->w.cell? ⟨W,3,none⟩=some (.chan (some come))->w.cell? ⟨W,0,none⟩=some (.int .i64 num)->w.cell? ⟨W,4,none⟩=some (.chan (some gone))->
   ZigC prog main cs J Stop i gD (c::fs) w->ZigC prog main cs J Stop i (Frame.enter prog 82 #[.pointer (some ⟨W,0,none⟩)] .normal) (c::fs) w)/\
  (∀{cs:List Frame} (w:World),stepG prog false (G gD cs) w=.comm (G gD cs) #[scase come (.int .i64 num) (.int .i64 0),rcase gone (.agg #[])] true .select w #[])/\
  (∀{c:Frame} {cs:List Frame} {K0:World->Prop} {S:Loc->Prop} {B n:Nat} {Q:Goroutine->World->Prop} {w:World},(∀w,Goes prog false (RK K0) (DS S B) Q n (G (c.finish (.tuple #[])) cs) w)->
   Goes prog false (RK K0) (DS S B) Q (n+10) (G (gD.finish (.tuple #[.int .i64 0,.bool false,.agg #[]])) (c::cs)) w):=by
 apply Exists.intro;refine⟨?_,?_,?_⟩
 ·intro main cs ι J Stop i c fs w hcs h3 h0 h4 hz;have tP:Frame.enter prog 82 #[.pointer (some ⟨W,0,none⟩)] .normal=(Conc.base 82).at {tmps:=#[.pointer (some ⟨W,0,none⟩)] ++Array.replicate 19 undef,defers:=[]} [.code (f82.body.getD .skip)]:=by simp[Frame.enter,Frame.at,func82,f82,Conc.base]
  rw[tP];simp only[f82,bJ];walk_nrm;refine .pure (λ_=>stepG_seq) ?_;refine pg (fG _) hcs rfl ax (Gf _ _) (D7 _ _) (λτ=>?_);go_wp2;refine⟨_,aN _ _,?_⟩;refine .pure (λ_=>stepG_seq) (.pure (λ_=>stepG_region) ?_);refine rg ?_;exact hz
 ·intro cs w;refine(stepG_comm rfl rfl az (w':=w) (cases:=#[scase come (.int .i64 num) (.int .i64 0),rcase gone (.agg #[])]) (blocking:=true) (shape:=.select) (by simp[go_sem,execOp,rcase,scase,Act.eval])).trans ?_;rw[listed_none (by simp[go_sem,execOp,Act.eval])]
 ·intro c cs K0 S B n Q w hn;rw[fy];walk_nrm
  (k_in;refine goes_oper_k rfl rfl az (λK hK=>?_);go_simp;refine hK _ _ ⟨⟨rfl,rZ⟩,?_⟩;clear hK K)
  (k_in;refine goes_oper_k rfl rfl az (λK hK=>?_);go_simp;refine hK _ _ ⟨⟨rfl,rZ⟩,?_⟩;clear hK K)
  (k_in;refine goes_oper_k rfl rfl az (λK hK=>?_);go_simp;refine hK _ _ ⟨⟨rfl,rZ⟩,?_⟩;clear hK K)
  k_c stepG_region_end
  k_c stepG_block
  (k_in;rw[stepG_cond (t:=true) rfl];simp only[goes_go,if_true];refine⟨ds_none _,?_⟩)
  k_c stepG_skip
  k_c stepG_inBlock
  k_c stepG_end
  (k_in;rw[stepG_leave rfl rfl func82 (results_none rfl _ _ _) (events_results_none rfl _ _)];simp only[goes_go];refine⟨ds_none _,?_⟩)
  exact hn _
end
section
inductive Pr(σ α:Type) where
 |ret (a:α)
 |line (p:Pr σ α)
 |eff (f:σ->σ) (k:σ->Pr σ α)
 |stop
namespace Pr
variable{σ α β:Type}
def bind(p:Pr σ α)(k:α->Pr σ β):Pr σ β:=match p with
 |.ret a=>k a
 |.line p=>.line (p.bind k)
 |.eff f q=>.eff f λs=>(q s).bind k
 |.stop=>.stop
def get(h:σ->α):Pr σ α:=.eff id λs=>.ret (h s)
def put(f:σ->σ):Pr σ Unit:=.eff f λ_=>.ret ()
def act(f:σ->σ)(h:σ->α):Pr σ α:=.eff f λs=>.ret (h s)
def step:Pr σ Unit:=.line (.ret ())
theorem bind_assoc{γ:Type}(p:Pr σ α)(k:α->Pr σ β)(l:β->Pr σ γ):(p.bind k).bind l=p.bind λa=>(k a).bind l:=by
 induction p with
 |ret a=>rfl
 |line p ih=>simp only[bind,ih]
 |eff f q ih=>simp only[bind,ih]
 |stop=>rfl
theorem Sc(p:Pr σ α):p.bind .ret=p:=by
 induction p with
 |ret a=>rfl
 |line p ih=>simp only[bind,ih]
 |eff f q ih=>simp only[bind,ih]
 |stop=>rfl
inductive End(σ α:Type) where
 |fin (a:α) (g:Bool) (own:Nat) (s:σ)
 |line (p:Pr σ α) (own:Nat) (s:σ)
 |lost
def seg:Pr σ α->Bool->Nat->σ->End σ α
 |.ret a,g,own,s=>.fin a g own s
 |.line p,true,own,s=>seg p false (own+1) s
 |.line p,false,own,s=>.line p own s
 |.eff f q,g,own,s=>seg (q s) g own (f s)
 |.stop,_,_,_=>.lost
end Pr
structure bG where
 kind:Int
 a:Int
 b:Int
 c:Int
 pairs:List (Int×Int)
 deriving DecidableEq
structure dO where
 ok:Bool
 n:Int
 m:Int
 err:Int
 ints:List Int
 pairs:List (Int×Int)
 deriving DecidableEq
structure kt where
 ans:dO
 begin_:Nat
 end_:Nat
 own:Nat
 deriving DecidableEq
structure AW(σ:Type) where
 got:List kt
 now:Option (Nat×Nat×Pr σ dO)
 lost:Bool
structure bq where
 work:List (List bG)
 turns:List Int
 halt:List Int
 until_:Nat
structure Lay(σ:Type) where
 call:Nat->bG->Pr σ dO
def bq.n(c:bq):Nat:=c.work.length
def bq.calls(c:bq)(k:Nat):List bG:=c.work.getD k []
def bq.most(c:bq):Nat:=if c.until_=0 then 20000 else c.until_
def bq.halted(c:bq)(k steps:Nat):Bool:=decide (0<c.halt.getD k 0/\c.halt.getD k 0<=(steps:Int))
def AW.settle{σ:Type}(x:AW σ)(t b:Nat):Pr.End σ dO->AW σ
 |.fin a g own _=>{got:=x.got++[⟨a,b,t,if g then own+1 else own⟩],now:=none,lost:=x.lost}
 |.line p own _=>{x with now:=some (b,own,p)}
 |.lost=>{x with lost:=true}
def Pr.End.state{σ α:Type}(s:σ):Pr.End σ α->σ
 |.fin _ _ _ s=>s
 |.line _ _ s=>s
 |.lost=>s
def AW.seg{σ:Type}(L:Lay σ)(c:bq)(k t:Nat)(x:AW σ)(s:σ):Nat×Pr.End σ dO:=match x.now with
 |some (b,own,p)=>(b,p.seg false (own+1) s)
 |none=>match(c.calls k)[x.got.length]? with
  |some d=>(t,(L.call k d).seg true 0 s)
  |none=>(t,.lost)
structure AR(σ:Type) where
 s:σ
 w:Nat->AW σ
 left:List Int
 last:Int
 steps:Nat->Nat
 all:Nat
def AR.ready{σ:Type}(c:bq)(x:AR σ)(k:Nat):Bool:=decide ((x.w k).got.length< (c.calls k).length) &&!c.halted k (x.steps k)
def AR.who{σ:Type}(c:bq)(x:AR σ):List Nat:=(List.range c.n).filter λk=>x.ready c k
def AR.any{σ:Type}(c:bq)(x:AR σ):Bool:=!(x.who c).isEmpty
def pO(left:List Int)(last:Int)(l:List Nat):Nat:=match left with
 |t::_=>l.getD ((t.tmod l.length+l.length).tmod l.length).toNat 0
 |[]=>(l.find? λ(k:Nat)=>decide (last< (k:Int))).getD (l.headD 0)
def AR.pick{σ:Type}(c:bq)(x:AR σ):Nat:=pO x.left x.last (x.who c)
def AR.goes{σ:Type}(c:bq)(x:AR σ):Bool:=x.any c&&decide (x.all<c.most)
def AR.next{σ:Type}(L:Lay σ)(c:bq)(x:AR σ):AR σ:=
 let k:=x.pick c;let e:=(x.w k).seg L c k (x.all+1) x.s
 {s:=e.2.state x.s,w:=λi=>if i=k then(x.w k).settle (x.all+1) e.1 e.2 else x.w i,left:=x.left.tail,last:=k,steps:=λi=>if i=k then x.steps k+1 else x.steps i,all:=x.all+1}
def AR.wI{σ:Type}(c:bq)(s:σ):AR σ:={s,w:=λ_=>⟨[],none,false⟩,left:=c.turns,last:= -1,steps:=λ_=>0,all:=0}
def AR.at{σ:Type}(L:Lay σ)(c:bq)(s:σ):Nat->AR σ
 |0=>.wI c s
 |t+1=>(AR.at L c s t).next L c
theorem AR.Kd{σ:Type}(L:Lay σ)(c:bq)(s:σ)(t:Nat):(AR.at L c s t).all=t:=by
 induction t with
 |zero=>rfl
 |succ t ih=>show(AR.at L c s t).all+1=t+1;rw[ih]
end
section
open Go Go.Conc Go.ConcN
structure tR(σ:Type) extends Lay σ where
 Rep:σ->World->Prop
 Foot:World->Nat->Prop
 G:World->World->Prop
 grefl:∀w,G w w
 gtrans:∀a b c,G a b->G b c->G a c
structure tR.Ok{σ:Type}(L:tR σ)(ro:Nat->Option (Nat×Nat)):Prop where
 rep:∀s w w',L.Rep s w->(∀b,L.Foot w b->w'.heap[b]? =w.heap[b]?)->L.Rep s w'/\∀b,L.Foot w' b↔L.Foot w b
 foot:∀s w b,L.Rep s w->L.Foot w b->(∃c e,w.heap[b]? =some (.cells c e (0,0)))/\ro b=none
 gsame:∀s w w',L.Rep s w->(∀b,L.Foot w b->w'.heap[b]? =w.heap[b]?)->L.G w w'
def Ke(w:World)(v:Value)(l:List Int):Prop:=∃a cap,v=.slice a l.length cap/\∀i,i<l.length->∃x:Addr,a=some x/\x.spot=none/\w.cell? ⟨x.block,x.off+i,none⟩=some (.int .i64 (l.getD i 0))
def SlP(w:World)(v:Value)(l:List (Int×Int)):Prop:=∃a cap,v=.slice a l.length cap/\∀i,i<l.length->∃x:Addr,a=some x/\w.cell? ⟨x.block,x.off+2*i,none⟩=some (.int .i64 (l.getD i (0,0)).1)/\w.cell? ⟨x.block,x.off+2*i+1,none⟩=some (.int .i64 (l.getD i (0,0)).2)
structure Sd(w:World)(b o:Nat)(x:kt):Prop where
 c0:w.cell? ⟨b,o,none⟩=some (.int .i64 x.begin_)
 c1:w.cell? ⟨b,o+1,none⟩=some (.int .i64 x.end_)
 c2:w.cell? ⟨b,o+2,none⟩=some (.int .i64 x.own)
 c3:w.cell? ⟨b,o+3,none⟩=some (.bool x.ans.ok)
 c4:w.cell? ⟨b,o+4,none⟩=some (.int .i64 x.ans.n)
 c5:w.cell? ⟨b,o+5,none⟩=some (.int .i64 x.ans.m)
 c6:w.cell? ⟨b,o+6,none⟩=some (.int .i64 x.ans.err)
 c7:∃v,w.cell? ⟨b,o+7,none⟩=some v/\Ke w v x.ans.ints
 c8:∃v,w.cell? ⟨b,o+8,none⟩=some v/\SlP w v x.ans.pairs
def AnsAt(w:World)(v:Value)(l:List kt):Prop:=∃a cap,v=.slice a l.length cap/\∀i x,l[i]? =some x->∃b,a=some ⟨b,0,none⟩/\Sd w b (9*i) x
def bs(w:World)(sl:Value)(b:Nat):Prop:=∃x n e,sl=.slice (some x) n e/\(b=x.block\/∃i y m e',i<9*n/\w.cell? ⟨x.block,i,none⟩=some (.slice (some y) m e')/\b=y.block)
def eF(w:World)(W b:Nat):Prop:=b=W\/∃sl,w.cell? ⟨W,9,none⟩=some sl/\bs w sl b
def WRm(w:World)(W:Nat)(x:AW σ)(dn:Bool):Prop:=∃be ow:Nat,∃sl,w.cell? ⟨W,7,none⟩=some (.int .i64 be)/\w.cell? ⟨W,8,none⟩=some (.int .i64 ow)/\w.cell? ⟨W,9,none⟩=some sl/\w.cell? ⟨W,10,none⟩=some (.bool dn)/\AnsAt w sl x.got/\
 (∀b o p,x.now=some (b,o,p)->be=b/\ow=o)/\(x.now=none->be=0)
theorem Ke.same{w:World}{l:List Int}(h:Ke w v l)(hc:∀x n e,v=.slice (some x) n e->∀y:Addr,y.block=x.block->w'.cell? y=w.cell? y):Ke w' v l:=by obtain⟨a,cap,rfl,h⟩:=h;refine⟨a,cap,rfl,λi hi=>?_⟩;obtain⟨x,rfl,h0,h1⟩:=h i hi;exact⟨x,rfl,h0,(hc x _ _ rfl ⟨x.block,_,none⟩ rfl).trans h1⟩
theorem SlP.same{w:World}{l:List (Int×Int)}(h:SlP w v l)(hc:∀x n e,v=.slice (some x) n e->∀y:Addr,y.block=x.block->w'.cell? y=w.cell? y):SlP w' v l:=by obtain⟨a,cap,rfl,h⟩:=h;refine⟨a,cap,rfl,λi hi=>?_⟩;obtain⟨x,rfl,h1,h2⟩:=h i hi;exact⟨x,rfl,(hc x _ _ rfl ⟨x.block,_,none⟩ rfl).trans h1,(hc x _ _ rfl ⟨x.block,_,none⟩ rfl).trans h2⟩
theorem sblocks_same{w:World}{sl:Value}(hc:∀x n e,sl=.slice (some x) n e->∀o,w'.cell? ⟨x.block,o,none⟩=w.cell? ⟨x.block,o,none⟩)(b:Nat):bs w' sl b↔bs w sl b:=by
 constructor
 ·rintro⟨x,n,e,h1,h2⟩;exact⟨x,n,e,h1,h2.imp id λ⟨i,y,m,e',h3,h4,h5⟩=>⟨i,y,m,e',h3,by rw[←hc x n e h1];exact h4,h5⟩⟩
 ·rintro⟨x,n,e,h1,h2⟩;exact⟨x,n,e,h1,h2.imp id λ⟨i,y,m,e',h3,h4,h5⟩=>⟨i,y,m,e',h3,by rw[hc x n e h1];exact h4,h5⟩⟩
theorem rblocks_same{w:World}(hc:∀x:Addr,eF w W x.block->w'.cell? x=w.cell? x)(b:Nat):eF w' W b↔eF w W b:=by have h9:w'.cell? ⟨W,9,none⟩=w.cell? ⟨W,9,none⟩:=hc _ (.inl rfl);unfold eF;rw[h9];have key:∀sl,w.cell? ⟨W,9,none⟩=some sl->(bs w' sl b↔bs w sl b):=λsl h=>sblocks_same (λx n e h1 o=>hc _ (.inr ⟨sl,h,x,n,e,h1,.inl rfl⟩)) b;exact⟨λh=>h.imp id λ⟨sl,h1,h2⟩=>⟨sl,h1,(key sl h1).1 h2⟩,λh=>h.imp id λ⟨sl,h1,h2⟩=>⟨sl,h1,(key sl h1).2 h2⟩⟩
theorem eX{w:World}{sl:Value}{l:List kt}(hc:∀x:Addr,bs w sl x.block->w'.cell? x=w.cell? x)(h:AnsAt w sl l):AnsAt w' sl l:=by
 obtain⟨a,cap,rfl,h⟩:=h;refine⟨a,cap,rfl,λi x hx=>?_⟩;obtain⟨b,rfl,h1⟩:=h i x hx;have hil:i<l.length:=(eL.1 hx).1;have hb:∀o,w'.cell? ⟨b,o,none⟩=w.cell? ⟨b,o,none⟩:=λo=>hc _ ⟨⟨b,0,none⟩,_,_,rfl,.inl rfl⟩;have lR:∀j v x' n e,j<9*l.length->w.cell? ⟨b,j,none⟩=some v->v=.slice (some x') n e->∀y:Addr,y.block=x'.block->w'.cell? y=w.cell? y:=by intro j v x' n e hj h2 e1 y hy;subst e1;exact hc y ⟨⟨b,0,none⟩,_,_,rfl,.inr ⟨j,x',n,e,hj,h2,hy⟩⟩
 refine⟨b,rfl,⟨(hb _).trans h1.c0,(hb _).trans h1.c1,(hb _).trans h1.c2,(hb _).trans h1.c3,(hb _).trans h1.c4,(hb _).trans h1.c5,(hb _).trans h1.c6,?_,?_⟩⟩
 ·obtain⟨v,h2,h3⟩:=h1.c7;exact⟨v,(hb _).trans h2,h3.same λx' n e e1 y hy=>lR (9*i+7) v x' n e ae h2 e1 y hy⟩
 ·obtain⟨v,h2,h3⟩:=h1.c8;exact⟨v,(hb _).trans h2,h3.same λx' n e e1 y hy=>lR (9*i+8) v x' n e ae h2 e1 y hy⟩
structure eM(σ:Type) where
 L:tR σ
 c:bq
 s0:σ
 tA:TypeId
def eM.n(J:eM σ):Nat:=J.c.n
def eM.ar(J:eM σ)(t:Nat):AR σ:=AR.at J.L.toLay J.c J.s0 (t-J.n)
def eM.len(J:eM σ)(i:Nat):Nat:=(J.c.calls i).length
def eM.bE(J:eM σ)(W:Nat->Nat):dX where
 Inv t w:=J.L.Rep (J.ar t).s w
 G:=J.L.G
 Foot:=J.L.Foot
 WR i t w:=i<J.n->WRm w (W i) ((J.ar t).w i) (decide (i<t/\J.len i<=((J.ar t).w i).got.length))
 Pub i w b:=eF w (W i) b
 live i t:=i<t/\((J.ar t).w i).got.length<J.len i
 sched t:=if t<=J.n then t-1 else(J.ar (t-1)).pick J.c
 may t:=(J.ar (t-1)).goes J.c=true
section
variable{J:eM σ}
theorem AR.zX(L:Lay σ)(c:bq)(x:AR σ)(h:x.pick c≠i):(x.next L c).w i=x.w i:=by show(if i=x.pick c then _ else x.w i)=x.w i;rw[if_neg (λe=>h e.symm)]
theorem eM.yO(J:eM σ){t:Nat}(h:J.n<=t):J.ar (t+1)=(J.ar t).next J.L.toLay J.c:=by unfold eM.ar;rw[show t+1-J.n=(t-J.n) +1 by omega];rfl
theorem eM.qL(J:eM σ){t:Nat}(h:t<=J.n):J.ar t=AR.wI J.c J.s0:=by unfold eM.ar;rw[show t-J.n=0 by omega];rfl
theorem eM.idle(J:eM σ)(W:Nat->Nat){t t':Nat}(ht:t<=t')(h:∀s,t<s->s<=t'->(J.bE W).sched s≠i):(J.ar t').w i=(J.ar t).w i:=by
 obtain⟨k,rfl⟩:=Nat.exists_eq_add_of_le ht;clear ht;induction k with
 |zero=>rfl
 |succ k ih=>
  have h1:=ih λs a b=>h s a ae;rw[←h1];have h2:=h (t+k+1) ae ae;show(J.ar (t+k+1)).w i=_;by_cases e:t+k+1<=J.n
  ·rw[J.qL e,J.qL (t:=t+k) ae]
  ·rw[J.yO ae];refine AR.zX _ _ _ ?_;unfold eM.bE at h2;simp only[if_neg e]at h2;exact h2
theorem eM.D9[Go.ConcR.Payload](hL:J.L.Ok d.ro):(J.bE d.W).Ok d:=by
 refine⟨λt w w' h1 h2=>hL.rep _ _ _ h1 h2,λt w b h1 h2=>hL.foot _ _ _ h1 h2,λt w w' h1 h2=>hL.gsame _ _ _ h1 h2,J.L.gtrans,λi t w w' h1 h2=>?_,λi t w hi h=>.inl rfl,λi t t' w ht hs=>?_⟩
 ·refine⟨λhi=>?_,λb=>rblocks_same h2 b⟩;obtain⟨be,ow,sl,a1,a2,a3,a4,a5,a6⟩:=h1 hi;have hW:∀o,w'.cell? ⟨d.W i,o,none⟩=w.cell? ⟨d.W i,o,none⟩:=λo=>h2 _ (.inl rfl);exact⟨be,ow,sl,(hW _).trans a1,(hW _).trans a2,(hW _).trans a3,(hW _).trans a4,eX (λx hx=>h2 x (.inr ⟨sl,a3,hx⟩)) a5,a6⟩
 ·have e:=J.idle d.W ht hs;have hlt:i<J.n->(i<t↔i<t'):=λhi=>by
   constructor
   ·intro h;omega
   ·intro h;apply cY;intro h';refine hs (i+1) ae ae ?_;unfold eM.bE;simp only[if_pos (show i+1<=J.n by omega)];omega
  refine⟨λh hi=>?_,?_⟩
  ·have:=h hi;rw[e];simpa only[←hlt hi]using this
  ·show(i<t'/\_)↔(i<t/\_);rw[e];by_cases hi:i<J.n
   ·rw[hlt hi]
   ·have:J.len i=0:=(by unfold eM.len bq.calls;rw[cQ,xU (by have:J.n=J.c.work.length:=rfl;omega)];rfl);rw[this];exact⟨λh=>absurd h.2 (dV _),λh=>absurd h.2 (dV _)⟩
structure CR(J:eM σ)(k t:Nat)(g:Bool)(be ow:Nat)(p:Pr σ dO)(s:σ):Prop where
 turn:J.n<t
 goes:(J.ar (t-1)).goes J.c=true
 pick:(J.ar (t-1)).pick J.c=k
 live:((J.ar (t-1)).w k).got.length<J.len k
 seg:((J.ar (t-1)).w k).seg J.L.toLay J.c k (t-J.n) (J.ar (t-1)).s=(be,p.seg g ow s)
theorem CR.eff{k t:Nat}{g:Bool}{f:σ->σ}{q:σ->Pr σ dO}(h:CR J k t g be ow (.eff f q) s):CR J k t g be ow (q s) (f s):=⟨h.turn,h.goes,h.pick,h.live,h.seg⟩
theorem CR.line{k t:Nat}{p:Pr σ dO}(h:CR J k t true be ow (.line p) s):CR J k t false be (ow+1) p s:=⟨h.turn,h.goes,h.pick,h.live,h.seg⟩
theorem CR.all{k t:Nat}{g:Bool}{p:Pr σ dO}(h:CR J k t g be ow p s):(J.ar (t-1)).all+1=t-J.n:=by have:=h.turn;unfold eM.ar;rw[AR.Kd];omega
theorem CR.next{k t:Nat}{g:Bool}{p:Pr σ dO}(h:CR J k t g be ow p s):J.ar t=(J.ar (t-1)).next J.L.toLay J.c:=by have:=h.turn;rw[show t=t-1+1 by omega];exact J.yO ae
theorem CR.at{k t:Nat}{p:Pr σ dO}(h:CR J k t false be ow (.line p) s):(J.ar t).s=s/\(J.ar t).w k={(J.ar (t-1)).w k with now:=some (be,ow,p)}:=by
 rw[h.next];have e:=h.seg;have ha:=h.all;have hp:=h.pick;constructor
 ·show(AW.seg J.L.toLay J.c ((J.ar (t-1)).pick J.c) ((J.ar (t-1)).all+1) ((J.ar (t-1)).w ((J.ar (t-1)).pick J.c)) (J.ar (t-1)).s).2.state _=s;rw[hp,ha,e];rfl
 ·show(if k=(J.ar (t-1)).pick J.c then((J.ar (t-1)).w ((J.ar (t-1)).pick J.c)).settle ((J.ar (t-1)).all+1) (AW.seg J.L.toLay J.c ((J.ar (t-1)).pick J.c) ((J.ar (t-1)).all+1) ((J.ar (t-1)).w ((J.ar (t-1)).pick J.c)) (J.ar (t-1)).s).1 (AW.seg J.L.toLay J.c ((J.ar (t-1)).pick J.c) ((J.ar (t-1)).all+1) ((J.ar (t-1)).w ((J.ar (t-1)).pick J.c)) (J.ar (t-1)).s).2 else _)=_;rw[hp,if_pos rfl,ha,e];rfl
theorem CR.fin{k t:Nat}{g:Bool}{a:dO}(h:CR J k t g be ow (.ret a) s):(J.ar t).s=s/\(J.ar t).w k={got:=((J.ar (t-1)).w k).got++[⟨a,be,t-J.n,if g then ow+1 else ow⟩],now:=none,lost:=((J.ar (t-1)).w k).lost}:=by
 rw[h.next];have e:=h.seg;have ha:=h.all;have hp:=h.pick;constructor
 ·show(AW.seg J.L.toLay J.c ((J.ar (t-1)).pick J.c) ((J.ar (t-1)).all+1) ((J.ar (t-1)).w ((J.ar (t-1)).pick J.c)) (J.ar (t-1)).s).2.state _=s;rw[hp,ha,e];rfl
 ·show(if k=(J.ar (t-1)).pick J.c then((J.ar (t-1)).w ((J.ar (t-1)).pick J.c)).settle ((J.ar (t-1)).all+1) (AW.seg J.L.toLay J.c ((J.ar (t-1)).pick J.c) ((J.ar (t-1)).all+1) ((J.ar (t-1)).w ((J.ar (t-1)).pick J.c)) (J.ar (t-1)).s).1 (AW.seg J.L.toLay J.c ((J.ar (t-1)).pick J.c) ((J.ar (t-1)).all+1) ((J.ar (t-1)).w ((J.ar (t-1)).pick J.c)) (J.ar (t-1)).s).2 else _)=_;rw[hp,if_pos rfl,ha,e];rfl
theorem CR.few{k t:Nat}{g:Bool}{p:Pr σ dO}(h:CR J k t g be ow p s):t<=J.n+J.c.most:=by have h1:=h.goes;have h2:=h.all;unfold AR.goes at h1;simp only[bK,decide_eq_true_eq]at h1;have:=h.turn;omega
theorem AR.Gj{c:bq}{x:AR σ}(h:x.goes c=true):x.pick c∈x.who c:=by
 unfold AR.goes AR.any at h;simp only[bK,uF,decide_eq_true_eq]at h;have hne:x.who c≠[]:=by intro e;rw[e]at h;simp at h
 have hlen:0< (x.who c).length:=List.length_pos_iff.2 hne;have kr:∀i,i< (x.who c).length->(x.who c).getD i 0∈x.who c:=λi hi=>by rw[cQ,eA hi];exact pP hi
 unfold AR.pick pO;split
 ·rename_i t r e;refine kr _ ?_;have h2:(t.tmod ((x.who c).length:Int)).natAbs< (x.who c).length:=by rw[Int.natAbs_tmod];exact Nat.mod_lt _ hlen
  have h3:=Int.emod_nonneg (t.tmod ((x.who c).length:Int) +(x.who c).length) (b:=((x.who c).length:Int)) ae;have h4:=Int.emod_lt_of_pos (t.tmod ((x.who c).length:Int) +(x.who c).length) (b:=((x.who c).length:Int)) ae;rw[Int.tmod_eq_emod_of_nonneg ae];omega
 ·cases e:(x.who c).find? (λ(k:Nat)=>decide (x.last< (k:Int)))with
  |some k=>exact List.mem_of_find?_eq_some e
  |none=>
   cases e2:x.who c with
   |nil=>exact absurd e2 hne
   |cons y ys=>simp
theorem AR.yP{c:bq}{x:AR σ}(h:x.goes c=true):x.pick c<c.n:=by have hm:=AR.Gj h;unfold AR.who at hm;simp only[List.mem_filter,mJ]at hm;exact hm.1
def cy(k turn come gone:Nat)(g:Bool)(st be ow:Nat)(sl:Value):Array Value:=#[.int .i64 k,.bool true,.chan (some turn),.chan (some come),.chan (some gone),.bool g,.int .i64 st,.int .i64 be,.int .i64 ow,sl,.bool false,.bool false]
def Far(w:World)(sl:Value):Prop:=∀x n e,sl=.slice (some x) n e->∀i y m e',i<9*n->w.cell? ⟨x.block,i,none⟩=some (.slice (some y) m e')->y.block≠x.block
structure Sg(J:eM σ)(d:aK)(k:Nat)(w:World)(sl:Value)(n:Nat):Prop where
 blk:∀b,bs w sl b->b≠d.W k/\¬J.L.Foot w b/\d.ro b=none/\∃o,w.heap[b]? =some o/\o≠cI/\bU o=true
 row:∃cs,w.ownsRow 0 J.tA 9 sl n cs
 far:Far w sl
theorem qM{w:World}{sl:Value}(h:Far w sl)(hw:∀b,bs w sl b->w'.heap[b]? =w.heap[b]?):Far w' sl:=λx n e h1 i y m e' hi h2=>h x n e h1 i y m e' hi (by rw[←h2];exact(bP (w:=w) (a:=⟨x.block,i,none⟩) (hw x.block ⟨x,n,e,h1,.inl rfl⟩)).symm)
theorem qN{w:World}{sl:Value}{n:Nat}(h:∃cs,w.ownsRow 0 e 9 sl n cs)(hw:∀b,bs w sl b->w'.heap[b]? =w.heap[b]?):∃cs,w'.ownsRow 0 e 9 sl n cs:=by obtain⟨cs,h1,h2⟩:=h;refine⟨cs,h1,h2.imp id ?_⟩;rintro⟨g,cap,cur,rfl,h3,h4,h5⟩;exact⟨g,cap,cur,rfl,h3,by rw[hw g ⟨_,_,_,rfl,.inl rfl⟩];exact h4,h5⟩
structure Run(J:eM σ)(d:aK)(tW k:Nat)(t:qD)(g:Bool)(be:Nat)(p:Pr σ dO)(w:World):Prop where
 go:J.L.G t.a w
 ex:∃s ow sl,CR J k t g be ow p s/\ow+g.toNat<=t-J.n/\J.L.Rep s w/\w.heap[d.W k]? =some (.cells (cy k (d.turn k) d.come d.gone g (t-J.n) be ow sl) tW (0,5))/\AnsAt w sl ((J.ar (t-1)).w k).got/\Sg J d k w sl ((J.ar (t-1)).w k).got.length
 fw:∀b f,d.fw k b=some f->(∃c e,w.heap[b]? =some (.cells c e f))/\¬J.L.Foot w b/\d.ro b=none
structure dW(J:eM σ)(d:aK)(k:Nat)(w w':World):Prop where
 size:w.heap.size<=w'.heap.size
 same:∀(b:Nat) o,w.heap[b]? =some o->o≠cI->¬J.L.Foot w b->b≠d.W k->w'.heap[b]? =some o/\¬J.L.Foot w' b
 sl9:w'.cell? ⟨d.W k,9,none⟩=w.cell? ⟨d.W k,9,none⟩
 go:J.L.G w w'
theorem dW.refl(J:eM σ)(d:aK)(k:Nat)(w:World):dW J d k w w:=⟨aY _,λb o h1 h2 h3 h4=>⟨h1,h3⟩,rfl,J.L.grefl w⟩
theorem dW.trans{k:Nat}{a b c:World}(h:dW J d k a b)(g:dW J d k b c):dW J d k a c:=⟨cn h.size g.size,λx o h1 h2 h3 h4=>by obtain⟨h5,h6⟩:=h.same x o h1 h2 h3 h4;exact g.same x o h5 h2 h6 h4,g.sl9.trans h.sl9,J.L.gtrans _ _ _ h.go g.go⟩
theorem aq{w:World}{o:Nat}{c:Array Value}{f:Nat×Nat}(h:w.heap[W]? =some (.cells c e f))(v:Value):(w.setCell ⟨W,o,none⟩ v).heap[W]? =some (.cells (c.setIfInBounds o v) e f):=by simp[World.setCell,Array.getElem?_modify,h]
theorem ah{w:World}{o b:Nat}(h:b≠W)(v:Value):(w.setCell ⟨W,o,none⟩ v).heap[b]? =w.heap[b]? :=by simp[World.setCell,Array.getElem?_modify,bp h]
theorem af{w:World}{c:Array Value}{f:Nat×Nat}(h:w.heap[W]? =some (.cells c e f))(o:Nat):w.cell? ⟨W,o,none⟩=c[o]? :=by simp[World.cell?,h]
theorem ay{w:World}{c:Array Value}{hi:Nat}(h:w.heap[W]? =some (.cells c e (lo,hi)))(o:Nat)(ho:hi<=o):w.frozen? ⟨W,o,none⟩=false:=by simp[World.frozen?,h];omega
structure Own(J:eM σ)(d:aK)(k t:Nat)(sl:Value)(w:World):Prop where
 ans:AnsAt w sl ((J.ar (t-1)).w k).got
 own:Sg J d k w sl ((J.ar (t-1)).w k).got.length
 fw:∀b f,d.fw k b=some f->(∃c e,w.heap[b]? =some (.cells c e f))/\¬J.L.Foot w b/\d.ro b=none
theorem cO{w:World}{b:Nat}{l:List Value}{f:Nat×Nat}{r:List Value}(h:w.heap[b]? =some (.cells l.toArray e f))(o:Nat)(hv:l.drop o=v::r:=by rfl):w.cell? ⟨b,o,none⟩=some v:=by rw[af h,jh,←Nat.add_zero o,←List.getElem?_drop,hv];rfl
theorem zO{w:World}{b:Nat}{c:Array Value}(h:w.heap[b]? =some (.cells c e (0,0)))(o:Nat):w.frozen? ⟨b,o,none⟩=false:=ay h _ (bj _)
theorem run_set{k:Nat}{g:Bool}{p:Pr σ dO}{sl:Value}{w:World}(hL:J.L.Ok d.ro)(hgo:J.L.G t.a w)(hM:CR J k t g be ow p s)(hb:ow+g.toNat<=t-J.n)(cT:J.L.Rep s w)(hF:¬J.L.Foot w (d.W k))(O:Own J d k t sl w)(h9:w.cell? ⟨d.W k,9,none⟩=some sl)
  (hW:w'.heap[d.W k]? =some (.cells (cy k (d.turn k) d.come d.gone g (t-J.n) be ow sl) tW (0,5)))(hfw:d.fw k (d.W k)=some (0,5))(hsz:w.heap.size<=w'.heap.size)(ho:∀b,b<w.heap.size->b≠d.W k->w'.heap[b]? =w.heap[b]?):Run J d tW k t g be p w'/\dW J d k w w':=by
 have hlt:∀b,J.L.Foot w b->b<w.heap.size:=λb hb=>by obtain⟨⟨c,e,hc⟩,_⟩:=hL.foot s w b cT hb;exact(aQ.1 hc).1
 obtain⟨zY,dK⟩:=hL.rep s w w' cT λb hb=>ho b (hlt b hb) λe=>hF (e▸hb);have hblk:∀b,bs w sl b->w'.heap[b]? =w.heap[b]? :=λb hb=>by obtain⟨h1,_,_,o,h2,_⟩:=O.own.blk b hb;exact ho b (aQ.1 h2).1 h1
 have hs:∀b,bs w' sl b↔bs w sl b:=sblocks_same λx n e h1 o=>bP (w:=w) (hblk x.block ⟨x,n,e,h1,.inl rfl⟩);have BI:J.L.G w w':=hL.gsame s w w' cT λb hb=>ho b (hlt b hb) λe=>hF (e▸hb);refine⟨⟨J.L.gtrans _ _ _ hgo BI,⟨s,ow,sl,hM,hb,zY,hW,eX (λx hx=>bP (w:=w) (hblk _ hx)) O.ans,λb hb=>?_,qN O.own.row hblk,qM O.own.far hblk⟩,λb f hf=>?_⟩,hsz,λb o h1 h2 h3 h4=>⟨by rw[ho b (aQ.1 h1).1 h4];exact h1,λh=>h3 ((dK b).1 h)⟩,by rw[af hW,h9];rfl,BI⟩
 ·have hb:=(hs b).1 hb;obtain⟨h1,h2,h3,h4⟩:=O.own.blk b hb;exact⟨h1,λh=>h2 ((dK b).1 h),h3,by rw[hblk b hb];exact h4⟩
 ·obtain⟨⟨c,e,hc⟩,h2,h3⟩:=O.fw b f hf;refine⟨?_,λh=>h2 ((dK b).1 h),h3⟩;by_cases e1:b=d.W k
  ·subst e1;rw[hfw]at hf;obtain rfl:=aP hf;exact⟨_,_,hW⟩
  ·exact⟨c,e,by rw[ho b (aQ.1 hc).1 e1];exact hc⟩
structure kD(J:eM σ)(d:aK)(tW k t st be ow:Nat)(sl:Value)(x:AW σ)(s:σ)(w:World):Prop where
 rep:J.L.Rep s w
 wrk:w.heap[d.W k]? =some (.cells (cy k (d.turn k) d.come d.gone false st be ow sl) tW (0,5))
 ans:AnsAt w sl x.got
 own:Sg J d k w sl x.got.length
 fw:∀b f,d.fw k b=some f->(∃c e,w.heap[b]? =some (.cells c e f))/\¬J.L.Foot w b/\d.ro b=none
 now:(∀b o p,x.now=some (b,o,p)->be=b/\ow=o)/\(x.now=none->be=0)
theorem aJ{c:Array Value}{f:Nat×Nat}:Obj.cells c e f≠cI:=by intro h;cases h
theorem kD.later{k t st:Nat}{sl:Value}{x:AW σ}{s':σ}{w:World}(hL:J.L.Ok d.ro)(A:kD J d tW k t st be ow sl x s w)(hfw:d.fw k (d.W k)=some (0,5))(cT:J.L.Rep s' w')(hgo:J.L.G w w')(hsz:w.heap.size<=w'.heap.size)
  (hsame:∀(b:Nat) o,w.heap[b]? =some o->o≠cI->¬J.L.Foot w b->w'.heap[b]? =some o/\¬J.L.Foot w' b):kD J d tW k t st be ow sl x s' w'/\dW J d k w w':=by
 have hF:=(A.fw _ _ hfw).2.1;have hblk:∀b,bs w sl b->w'.heap[b]? =w.heap[b]?/\¬J.L.Foot w' b:=λb hb=>by obtain⟨h1,h2,_,o,h3,h4,_⟩:=A.own.blk b hb;obtain⟨h5,h6⟩:=hsame b o h3 h4 h2;exact⟨by rw[h5,h3],h6⟩
 have hs:∀b,bs w' sl b↔bs w sl b:=sblocks_same λx n e h1 o=>bP (w:=w) (hblk x.block ⟨x,n,e,h1,.inl rfl⟩).1;refine⟨⟨cT,(hsame _ _ A.wrk aJ hF).1,eX (λx hx=>bP (w:=w) (hblk _ hx).1) A.ans,⟨λb hb=>?_,qN A.own.row λb hb=>(hblk b hb).1,qM A.own.far λb hb=>(hblk b hb).1⟩,λb f hf=>?_,A.now⟩,hsz,λb o h1 h2 h3 _=>hsame b o h1 h2 h3,by rw[af (hsame _ _ A.wrk aJ hF).1,af A.wrk],hgo⟩
 ·have hb:=(hs b).1 hb;obtain⟨h1,h2,h3,h4⟩:=A.own.blk b hb;exact⟨h1,(hblk b hb).2,h3,by rw[(hblk b hb).1];exact h4⟩
 ·obtain⟨⟨c,e,hc⟩,h2,h3⟩:=A.fw b f hf;obtain⟨h5,h6⟩:=hsame b _ hc aJ h2;exact⟨⟨c,e,h5⟩,h6,h3⟩
theorem kD.Zx[Go.ConcR.Payload]{k st:Nat}{sl:Value}{w:World}(hgo:J.L.G t.a w)(A:kD J d tW k t st be ow sl ((J.ar t).w k) (J.ar t).s w)(hfw:∀b f,d.fw k b=some f->True)(hW:d.fw k (d.W k)=some (0,5))(hdn:¬(k<t/\J.len k<=((J.ar t).w k).got.length)):DW d (J.bE d.W) k t w:=by
 have hcell:∀o,w.cell? ⟨d.W k,o,none⟩=(cy k (d.turn k) d.come d.gone false st be ow sl)[o]? :=λo=>af A.wrk o;obtain⟨_,hF,hro⟩:=A.fw _ _ hW;refine⟨hgo,A.rep,λ_=>⟨be,ow,sl,by rw[hcell];rfl,by rw[hcell];rfl,by rw[hcell];rfl,?_,A.ans,A.now⟩,λb hb=>?_,λb f hf=>?_⟩
 ·rw[hcell,decide_eq_false hdn];rfl
 ·rcases hb with rfl|⟨sl',h1,hb⟩
  ·exact⟨_,A.wrk,aJ,rfl,hF,hro⟩
  ·rw[hcell]at h1;obtain rfl:sl=sl':=(by simpa[cy]using h1);obtain⟨_,h2,h3,o,h4,h5,h6⟩:=A.own.blk b hb;exact⟨o,h4,h5,h6,h2,h3⟩
 ·obtain⟨⟨c,e,hc⟩,h2,h3⟩:=A.fw b f hf;exact⟨⟨_,hc,aJ,rfl,h2,h3⟩,c,e,hc⟩
theorem Oc[Go.ConcR.Payload]{k:Nat}{sl:Value}{w:World}{c:Array Value}(hgo:J.L.G t.a w)(cT:J.L.Rep (J.ar t).s w)(hw:w.heap[d.W k]? =some (.cells c tW (0,5)))(O:Own J d k (t+1) sl w)(hW:d.fw k (d.W k)=some (0,5))(c7:c[7]? =some (.int .i64 be))(c8:c[8]? =some (.int .i64 ow))(c9:c[9]? =some sl)(c10:c[10]? =some (.bool (decide (k<t/\J.len k<=((J.ar t).w k).got.length))))
  (hnow:(∀b o p,((J.ar t).w k).now=some (b,o,p)->be=b/\ow=o)/\(((J.ar t).w k).now=none->be=0)):DW d (J.bE d.W) k t w:=by
 have hcell:∀o,w.cell? ⟨d.W k,o,none⟩=c[o]? :=λo=>af hw o;obtain⟨_,hF,hro⟩:=O.fw _ _ hW;refine⟨hgo,cT,λ_=>⟨be,ow,sl,by rw[hcell];exact c7,by rw[hcell];exact c8,by rw[hcell];exact c9,by rw[hcell];exact c10,O.ans,hnow⟩,λb hb=>?_,λb f hf=>?_⟩
 ·rcases hb with rfl|⟨sl',h1,hb⟩
  ·exact⟨_,hw,aJ,rfl,hF,hro⟩
  ·rw[hcell,c9]at h1;obtain rfl:=aP h1;obtain⟨_,h2,h3,o,h4,h5,h6⟩:=O.own.blk b hb;exact⟨o,h4,h5,h6,h2,h3⟩
 ·obtain⟨⟨c,e,hc⟩,h2,h3⟩:=O.fw b f hf;exact⟨⟨_,hc,aJ,rfl,h2,h3⟩,c,e,hc⟩
end
end
section
open Go Go.Conc Go.ConcN Go.RowKit
attribute [local go_sem] aF aG aT aD aO aW aA aB
variable[Inhabited bO]
def pn:PanicEntry:={v:=gu,recovered:=false}
def nw(d:aK)(k:Nat):List Frame->Prop
 |[]=>False
 |c::fs=>∃n,∀cK:List PanicEntry,cK.dropWhile (!·.goexit)=[]->∀w,Goes d.P false (RK d.K0) (DG (d.Sp (k+1)) d.B) (λg w=>g.status=.running/\∃m,d.cc.Wk k 7 m 0 g w) n (G (c.raise (pn::cK)) (fs++d.cw k)) w
theorem nw.push{k:Nat}{x:Frame}(hm:x.mode=.run)(hd:x.defers=[])(hf:∃f,d.P.funcs[x.fn]? =some f)(h:nw d k fs):nw d k (x::fs):=by
 cases fs with
 |nil=>exact h.elim
 |cons c fs=>
  obtain⟨n,h⟩:=h;obtain⟨f,hf⟩:=hf;refine⟨n+1,λcK ho w=>.inr ⟨rfl,λw₁ _=>?_⟩⟩;show(stepG d.P false (bh (x.raise (pn::cK)) (c::(fs++d.cw k))) w₁).goes _;have e:x.raise (pn::cK)={x with mode:=.panicking (pn::cK)}:=by simp[Frame.raise,hm]
  have e2:=uT (P:=d.P) (main:=false) (fr:={x with mode:=.panicking (pn::cK)}) (x:=c) (rest:=fs++d.cw k) (chain:=pn::cK) (f:=f) rfl hd hf w₁;rw[e];rw[show stepG d.P false (bh {x with mode:=.panicking (pn::cK)} (c::(fs++d.cw k))) w₁=_ from e2,goes_go];exact⟨bN _,h cK ho _⟩
def eN(W k turn come gone nb:Nat):List (Addr×Value):=[(⟨W,0,none⟩,.int .i64 k),(⟨W,1,none⟩,.bool true),(⟨W,2,none⟩,.chan (some turn)),(⟨W,3,none⟩,.chan (some come)),(⟨W,4,none⟩,.chan (some gone)),(⟨nb,0,none⟩,.pointer (some ⟨W,0,none⟩))]
structure Hand{σ:Type}(J:eM σ)(d:aK)(k nb:Nat):Prop where
 P:d.P=prog
 ok:d.Ok
 base:d.base=J.n
 j:k<d.j
 n:k<J.n
 facts:d.facts k=eN (d.W k) k (d.turn k) d.come d.gone nb
 fw:∀b,d.fw k b=if b=d.W k then some (0,5)else if b=nb then some (0,1)else none
 ne:nb≠d.W k
 ro:∀b,d.ro b≠none->b<d.W k
 B:d.W k<d.B/\nb<d.B
 cw:d.cw k≠[]
section
variable{J:eM σ}{k:Nat}{w:World}{p:Pr σ dO}{g:Bool}
theorem Hand.abZ(H:Hand J d k nb){w:World}(h:d.K0 w):w.cell? ⟨d.W k,2,none⟩=some (.chan (some (d.turn k)))/\w.cell? ⟨d.W k,4,none⟩=some (.chan (some d.gone))/\w.cell? ⟨nb,0,none⟩=some (.pointer (some ⟨d.W k,0,none⟩)):=by have h1:=h.2.1 k H.j;rw[H.facts]at h1;exact⟨h1 (⟨d.W k,2,none⟩,.chan (some (d.turn k))) (by simp[eN]),h1 (⟨d.W k,4,none⟩,.chan (some d.gone)) (by simp[eN]),h1 (⟨nb,0,none⟩,.pointer (some ⟨d.W k,0,none⟩)) (by simp[eN])⟩
theorem Hand.sp(H:Hand J d k nb):d.Sp (k+1) (.cell ⟨d.W k,2,none⟩)/\d.Sp (k+1) (.cell ⟨d.W k,4,none⟩)/\d.Sp (k+1) (.cell ⟨nb,0,none⟩):=by refine⟨⟨k,rfl,H.j,(⟨d.W k,2,none⟩,.chan (some (d.turn k))),?_,rfl⟩,⟨k,rfl,H.j,(⟨d.W k,4,none⟩,.chan (some d.gone)),?_,rfl⟩,⟨k,rfl,H.j,(⟨nb,0,none⟩,.pointer (some ⟨d.W k,0,none⟩)),?_,rfl⟩⟩ <;>rw[H.facts] <;>simp[eN]
theorem ds_dg{P:Program}{main:Bool}:∀{n:Nat} {g:Goroutine} {w:World},Goes P main R (DS S B) Q n g w->Goes P main R (DG S B) Q n g w:=λ{n g w} h=>goes_mono (λ_ _ h=>h) (λ_ _ _ h=>by obtain⟨rfl,h⟩:=h;exact gP h) (λ_ _ _ _ h=>h) h
theorem CS(H:Hand J d k nb)(hL:J.L.Ok d.ro){st:Nat}{sl:Value}(hgo:J.L.G t.a w)(A:kD J d tW k t st be ow sl ((J.ar t).w k) (J.ar t).s w)(oq:k<t/\((J.ar t).w k).got.length<J.len k){num:Value}{n:Nat}
  (hstep:∀(cs:List Frame) (w:World),stepG prog false (G gD cs) w=.comm (G gD cs) #[scase d.come num z0,rcase d.gone (.agg #[])] true .select w #[])
  (hgoes:∀w,Goes prog false (RK d.K0) (DS (d.Sp (k+1)) d.B) (λg _=>∃g₂,AtIn prog false d.K0 (d.Sp (k+1)) d.B (d.seat k (.int .i64 0) (.agg #[]) (bh bo (cj++d.cw k))) g g₂) n (G (gD.finish (.tuple #[.int .i64 0,.bool false,.agg #[]])) (lf++d.cw k)) w)
  (hflee:∃n',∀w,Goes prog false (RK d.K0) (DG (d.Sp (k+1)) d.B) (λg w=>g.status=.running/\∃m,d.cc.Wk k 7 m 0 g w) n' (G (bo.finish (.tuple #[.int .i64 1,.bool false,.int .i64 0,.agg #[]])) (cj++d.cw k)) w)
  (hres:∀(t':qD) a',J.n<t'->t.t<t'.t->t'.a=a'->(J.ar (t'-1)).goes J.c=true->(J.ar (t'-1)).pick J.c=k->(J.ar (t'-1)).w k=(J.ar t).w k->kD J d tW k t st be ow sl ((J.ar t).w k) (J.ar (t'-1)).s a'->dW J d k w a'->
   ZigC prog false (d.cw k) (JW d (J.bE d.W) k) (λ_ _ _ _=>False) t' (bo.finish (.tuple #[.int .i64 0,.bool true,.int .i64 ((t'-J.n:Nat):Int),.agg #[]])) cj a'):
  ZigC prog false (d.cw k) (JW d (J.bE d.W) k) (λ_ _ _ _=>False) t gD lf w:=by
 have hW:d.fw k (d.W k)=some (0,5):=by rw[H.fw,if_pos rfl]
 have hP:=H.P;refine .jump (K:=λ(t':qD) aZ bz a'=>t.t<t'.t/\(J.bE d.W).next k t t'/\aZ=bo.finish (d.told k (.int .i64 0) (.agg #[]) t')/\bz=cj/\qE (J.bE d.W) w (t'.t-1) a'/\t'.a=a') ⟨A.Zx hgo (λ_ _ _=>trivial) hW (λh=>ae),.inl ⟨oq,.int .i64 0,.agg #[],bo,cj,⟨?_,?_⟩,rfl⟩⟩ ?_
 ·exact VD H.ok (i:=k) (gD:=gD) (bo:=bo) (fs:=lf) (cj:=cj) (num:=num) (z0:=z0) (z1:=.int .i64 0) (z2:=.agg #[]) (n:=n) (λcs w=>by rw[hP];exact hstep cs w) (λw=>by rw[hP];exact hgoes w)
 ·obtain⟨n',hf⟩:=hflee;refine⟨n',λw _=>?_⟩;have:=hf w;rw[←hP]at this;have e:Go.Conc.served (bh bo (cj++d.cw k)) (commResult #[rcase (d.turn k) (.int .i64 0),rcase d.gone (.agg #[])] .select 1 (.agg #[]) false)=G (bo.finish (.tuple #[.int .i64 1,.bool false,.int .i64 0,.agg #[]])) (cj++d.cw k):=by simp[Go.Conc.served,commResult,rcase,goInt,bh,G]
  rw[e];exact this
 ·rintro t' aZ bz a' ⟨h1,⟨hs,Ga,hno⟩,rfl,rfl,R,hta⟩;have hn:J.n<t':=by apply cY;intro hc;unfold eM.bE at hs;simp only[if_pos (show t'<=J.n by omega)]at hs;omega
  have uV:(J.ar (t'-1)).pick J.c=k:=by unfold eM.bE at hs;simp only[if_neg (show¬t'<=J.n by omega)]at hs;exact hs
  have mO:(J.ar (t'-1)).w k=(J.ar t).w k:=J.idle d.W (i:=k) (t:=t) (t':=t'-1) ae λs a b=>hno s a ae;obtain⟨A',K'⟩:=A.later hL hW (show J.L.Rep (J.ar (t'-1)).s a' from R.inv) R.g R.size R.same;have:=hres t' a' hn h1 hta Ga uV mO A' K';have e:d.told k (.int .i64 0) (.agg #[]) t'=.tuple #[.int .i64 0,.bool true,.int .i64 ((t'-J.n:Nat):Int),.agg #[]]:=by simp[aK.told,commResult,rcase,goInt,H.base]
  rw[e];exact this
end
section
variable{J:eM σ}{k:Nat}{w:World}{p:Pr σ dO}{g:Bool}
theorem zZ(hP:d.P=prog){sW qp:Frame}(hm:qp.mode=.panicking [pn])(hd:qp.defers=[])(hf:qp.fn=83)
  (h:∀n,(∀w,Goes prog false (RK d.K0) (DG (d.Sp (k+1)) d.B) (λg w=>g.status=.running/\∃m,d.cc.Wk k 7 m 0 g w) n (G qp (sW::fs++d.cw k)) w)->∀w,Goes prog false (RK d.K0) (DG (d.Sp (k+1)) d.B) (λg w=>g.status=.running/\∃m,d.cc.Wk k 7 m 0 g w) (n+11) G2 w)(hF:nw d k (sW::fs)):
  ∃n',∀w,Goes prog false (RK d.K0) (DG (d.Sp (k+1)) d.B) (λg w=>g.status=.running/\∃m,d.cc.Wk k 7 m 0 g w) n' G2 w:=by
 obtain⟨n,BH⟩:=hF;rw[hP]at BH;refine⟨n+1+11,h (n+1) (λw=>.inr ⟨rfl,λw₁ _=>?_⟩)⟩;have e3:=uT (P:=prog) (main:=false) (fr:=qp) (x:=sW) (rest:=fs++d.cw k) (chain:=[pn]) hm hd (by rw[hf];exact func83) w₁;rw[show stepG prog false (G qp (sW::fs++d.cw k)) w₁=_ from e3,goes_go];exact⟨bN _,BH [] rfl _⟩
theorem Sh(H:Hand J d k nb)(hL:J.L.Ok d.ro)(hm:J.c.most<=20000)(hR:Run J d tW k t g be (.line p) w):
  CallsM prog false (d.cw k) (JW d (J.bE d.W) k) (λ_ _ _ _=>False) (nw d k) t 42 #[.pointer (some ⟨d.W k,0,none⟩)] w (λt' v w'=>v=.tuple #[]/\Run J d tW k t' false be p w'/\dW J d k w w'):=by
 obtain⟨s,ow,sl,hM,hb,cT,hW,jA,hown⟩:=hR.ex;have hfw:=hR.fw;have IL:d.fw k (d.W k)=some (0,5):=by rw[H.fw,if_pos rfl]
 have hF:=(hfw _ _ IL).2.1;have hcs:=H.cw;have c0:=cO hW 0;have c1:=cO hW 1;have c5:=cO hW 5;have c8:=cO hW 8;have z5:=ay hW 5 (aY _);have z8:=ay hW 8 ae;have hwr:IntKind.i64.wrap ((ow:Int) +1)=(ow:Int) +1:=by rw[dR];have:=hM.few;omega
 generalize VH:d.W k=W at*;refine aX func42 rfl ?_;simp only[f42,bJ];walk_nrm;refine wpM_seq (wpM_seq (wpM_lone (fG _) hcs ax (Gf _ _) (D7 _ _) (λτ=>?_)));go_wp2;refine qK ?_;refine aH (t:=false) rfl (dm ?_);try simp only[Exit.then]
 refine wpM_seq (wpM_seq (wpM_lone (fG _) hcs ax (Gf _ _) (D7 _ _) (λτ=>?_)));go_wp2;refine qK ?_;cases g with
 |true=>
  refine aH (t:=false) rfl (dm ?_);try simp only[Exit.then]
  refine wpM_lone (fG _) hcs ax (Gf _ _) (D7 _ _) (λτ=>?_);go_wp2;refine⟨_,aN _ _,rfl,.tuple #[],results_none rfl _ _ _,rfl,?_⟩;subst VH;refine run_set (ow:=ow+1) hL hR.go hM.line (by simpa using hb) cT hF ⟨jA,hown,hfw⟩ Si ?_ IL gF (λb _ hb=>by rw[ah hb,ah hb]);have:=aq (o:=8) (aq (o:=5) hW (.bool false)) (.int .i64 ((ow:Int) +1));simpa[cy]using this
 |false=>
  obtain⟨gD,a1,a2,a3⟩:=uU W d.come d.gone k;obtain⟨bo,w1,w2,qp,w3m,w3d,w3f,w3⟩:=zW W (d.turn k) d.gone;refine aH (t:=true) rfl ?_;simp only[if_true];intro b k' fs h1 h2 h3 hc;refine .pure (λ_=>stepG_seq) (.pure (λ_=>stepG_region) ?_);refine rg ?_;refine fN (fG _) (.inl h2) rfl rfl ax (D7 _ _) (λτ K hK=>?_);go_simp;refine hK _ _ _ (aN _ _) ?_;clear hK K;walk_nrm;refine jT (args:=#[.pointer (some ⟨W,0,none⟩)]) (by rw[h2];simp) rfl rfl rfl func82 rfl rfl cC ?_;have c3:=cO hW 3;have c4:=cO hW 4;refine a1 hcs c3 c0 c4 ?_;clear a1;subst VH;obtain⟨e1,e2⟩:=hM.at;have oq:=hM.live;have hturn:=hM.turn;have Sj:=H.n;obtain⟨sp2,sp4,_⟩:=H.sp;have hkw:=λw h=>H.abZ (w:=w) h;suffices hk:∃sW:Frame,(∀w,Goes prog false (RK d.K0) (DS (d.Sp (k+1)) d.B) (λg _=>∃g₂,AtIn prog false d.K0 (d.Sp (k+1)) d.B (d.seat k (.int .i64 0) (.agg #[]) (bh bo (sW::fs++d.cw k))) g g₂) 40 (G (gD.finish (.tuple #[.int .i64 0,.bool false,.agg #[]])) (_::fs++d.cw k)) w)/\
    (∃n',∀w,Goes prog false (RK d.K0) (DG (d.Sp (k+1)) d.B) (λg w=>g.status=.running/\∃m,d.cc.Wk k 7 m 0 g w) n' (G (bo.finish (.tuple #[.int .i64 1,.bool false,.int .i64 0,.agg #[]])) (sW::fs++d.cw k)) w)/\
    (∀(t':qD) a',J.n<t'->t.t<t'.t->t'.a=a'->(J.ar (t'-1)).goes J.c=true->(J.ar (t'-1)).pick J.c=k->(J.ar (t'-1)).w k=(J.ar t).w k->kD J d tW k t (t-J.n) be ow sl ((J.ar t).w k) (J.ar (t'-1)).s a'->dW J d k w a'->
     ZigC prog false (d.cw k) (JW d (J.bE d.W) k) (λ_ _ _ _=>False) t' (bo.finish (.tuple #[.int .i64 0,.bool true,.int .i64 ((t'-J.n:Nat):Int),.agg #[]])) (sW::fs) a')by
   obtain⟨sW,q1,q2,q3⟩:=hk;exact CS H hL (bo:=bo) (cj:=sW::fs) (st:=t-J.n) (be:=be) (ow:=ow) (sl:=sl) hR.go ⟨by rw[e1];exact cT,hW,by rw[e2];exact jA,by rw[e2];exact hown,hfw,by rw[e2];exact⟨λb o p h=>by simp at h;exact⟨h.1,h.2.1⟩,λh=>by simp at h⟩⟩ ⟨ae,by rw[e2];exact oq⟩ (n:=40) (λcs w=>a2 w) q1 q2 q3
  apply Exists.intro;refine⟨?_,?_,?_⟩
  ·intro w;refine a3 (n:=30) (λw=>?_);rw[fy];walk_nrm;k_c stepG_region_end
   k_reg
   (k_in;refine goes_oper_k rfl rfl (by rw[h2];decide) (λK hK=>?_);go_simp;refine hK _ _ ⟨⟨rfl,rZ⟩,?_⟩;clear hK K)
   refine goes_le (n:=20) ae ?_;simp only[aK.seat,jc];exact w1 rfl rfl (by rw[h2];decide) rfl cC (λw h=>⟨(hkw w h).1,(hkw w h).2.1⟩) sp2 sp4 H.B.1 _
  ·exact zZ H.P w3m w3d w3f (λn h w=>w3 h) (nw.push rfl rfl ⟨f42,by rw[H.P];show prog.funcs[b.fn]? =_;rw[h1];exact func42⟩ h3)
  ·intro t' a' hn ht hta hgo uV mO A' K';have qa:=A'.wrk;have d5:a'.cell? ⟨d.W k,5,none⟩=some (.bool false):=(by rw[af qa];rfl);have d6:a'.cell? ⟨d.W k,6,none⟩=some (.int .i64 ((t-J.n:Nat):Int)):=(by rw[af qa];rfl);refine w2 hcs d5 (ay qa 5 (aY _)) d6 (ay qa 6 ae) ?_;rw[fy];walk_nrm;refine .pure (λ_=>stepG_region_end) (hc t' .normal _ _ ?_);show wpM _ _ _ _ _ _ _ _ _ _ _ _;have hW1:=aq (o:=5) (aq (o:=6) qa (.int .i64 ((t'-J.n:Nat):Int))) (.bool true);have d5':((a'.setCell ⟨d.W k,6,none⟩ (.int .i64 ((t'-J.n:Nat):Int))).setCell ⟨d.W k,5,none⟩ (.bool true)).cell? ⟨d.W k,5,none⟩=some (.bool true):=(by rw[af hW1];rfl);have d8':((a'.setCell ⟨d.W k,6,none⟩ (.int .i64 ((t'-J.n:Nat):Int))).setCell ⟨d.W k,5,none⟩ (.bool true)).cell? ⟨d.W k,8,none⟩=some (.int .i64 ow):=(by rw[af hW1];rfl);have y5:=ay hW1 5 (aY _);have y8:=ay hW1 8 ae;have BL:((a'.setCell ⟨d.W k,6,none⟩ (.int .i64 ((t'-J.n:Nat):Int))).setCell ⟨d.W k,5,none⟩ (.bool true)).heap.size=a'.heap.size:=gF;have bT:∀b,b≠d.W k->((a'.setCell ⟨d.W k,6,none⟩ (.int .i64 ((t'-J.n:Nat):Int))).setCell ⟨d.W k,5,none⟩ (.bool true)).heap[b]? =a'.heap[b]? :=λb hb=>(by rw[ah hb,ah hb]);clear d5 d6 c0 c1 c3 c4 c5 c8 z5 z8 qa;generalize (a'.setCell ⟨d.W k,6,none⟩ (.int .i64 ((t'-J.n:Nat):Int))).setCell ⟨d.W k,5,none⟩ (.bool true)=a1 at*;refine wpM_lone (fG _) hcs ax (Gf _ _) (D7 _ _) (λτ=>?_);go_wp2;refine⟨_,aN _ _,rfl,.tuple #[],results_none rfl _ _ _,rfl,?_⟩;have JX:CR J k t' false be (ow+1) p (J.ar (t'-1)).s:=⟨hn,hgo,uV,by rw[mO,e2];exact oq,by rw[mO,e2];rfl⟩;obtain⟨r1,r2⟩:=run_set (w':=(a1.setCell ⟨d.W k,5,none⟩ (.bool false)).setCell ⟨d.W k,8,none⟩ (.int .i64 ((ow:Int) +1))) hL (by rw[hta];exact J.L.grefl _) JX (by simp at hb⊢;omega) A'.rep (A'.fw _ _ IL).2.1 ⟨by rw[mO];exact A'.ans,by rw[mO];exact A'.own,A'.fw⟩ (by rw[af A'.wrk];rfl) (by have:=aq (o:=8) (aq (o:=5) hW1 (.bool false)) (.int .i64 ((ow:Int) +1));simpa[cy]using this) IL (by simp[World.setCell,BL]) (λb _ hb=>by rw[ah hb,ah hb,bT b hb]);exact⟨r1,K'.trans r2⟩
end
end
section
open Go Go.Conc Go.ConcN
section
variable{J:eM σ}{k:Nat}{w:World}{p p0:Pr σ dO}{g:Bool}
theorem Run.DT(R:Run J d tW k t g be p w):∃sl,w.cell? ⟨d.W k,9,none⟩=some sl/\AnsAt w sl ((J.ar (t-1)).w k).got/\Sg J d k w sl ((J.ar (t-1)).w k).got.length:=by obtain⟨s,ow,sl,_,_,_,hW,h1,h2⟩:=R.ex;exact⟨sl,Si,h1,h2⟩
theorem Run.blk(R:Run J d tW k t g be p w):d.W k<w.heap.size:=by obtain⟨s,ow,sl,_,_,_,hW,h1,h2⟩:=R.ex;exact(aQ.1 hW).1
theorem Run.foot(R:Run J d tW k t g be p w)(hL:J.L.Ok d.ro){b:Nat}(h:J.L.Foot w b):b<w.heap.size:=by obtain⟨s,ow,sl,_,_,hr,hW,h1,h2⟩:=R.ex;obtain⟨⟨c,e,hc⟩,_⟩:=hL.foot s w b hr h;exact(aQ.1 hc).1
theorem Zy(R0:Run J d tW k t0 g0 be0 p0 w0)(K:dW J d k w0 w){sl:Value}(h9:w.cell? ⟨d.W k,9,none⟩=some sl)(b:Nat)(h:bs w sl b):bs w0 sl b/\b<w0.heap.size:=by
 obtain⟨sl0,h1,_,h2⟩:=R0.DT;have e:sl0=sl:=by rw[K.sl9,h1]at h9;exact aP h9
 subst e;have hs:bs w0 sl0 b:=(sblocks_same (w:=w0) (w':=w) (sl:=sl0) (λx n e h3 o=>by obtain⟨h4,h5,h6,o',h7,h8,_⟩:=h2.blk x.block ⟨x,n,e,h3,.inl rfl⟩;exact bP (w:=w0) (by rw[(K.same _ _ h7 h8 h5 h4).1,h7])) b).1 h;obtain⟨_,_,_,o,h3,_⟩:=h2.blk b hs;exact⟨hs,(aQ.1 h3).1⟩
theorem yQ(hL:J.L.Ok d.ro)(R0:Run J d tW k t0 g0 be0 p0 w0)(R:Run J d tW k t g be p w)(K:dW J d k w0 w)(hsz:w.heap.size<=w'.heap.size)(hX:∀b,b<w.heap.size->w'.heap[b]?≠w.heap[b]?->w0.heap.size<=b/\¬J.L.Foot w b):
  Run J d tW k t g be p w'/\dW J d k w0 w'/\∀b,J.L.Foot w' b↔J.L.Foot w b:=by
 have hsame:∀b,b<w.heap.size->(b<w0.heap.size\/J.L.Foot w b)->w'.heap[b]? =w.heap[b]? :=λb hb h=>by
  apply cY;intro hc;obtain⟨h1,h2⟩:=hX b hb hc;rcases h with h|h
  ·omega
  ·exact h2 h
 obtain⟨s,ow,sl,hM,hb,cT,hW,jA,hown⟩:=R.ex;have h9:=cO hW 9;have h0:=R0.blk;obtain⟨zY,dK⟩:=hL.rep s w w' cT λb hb=>hsame b (R.foot hL hb) (.inr hb);have qa:=hW;rw[←hsame _ R.blk (.inl h0)]at qa;have hblk:∀b,bs w sl b->w'.heap[b]? =w.heap[b]? :=λb hb=>by obtain⟨_,h1⟩:=Zy R0 K h9 b hb;exact hsame b (fp h1 K.size) (.inl h1)
 have hs:∀b,bs w' sl b↔bs w sl b:=sblocks_same λx n e h1 o=>bP (w:=w) (hblk x.block ⟨x,n,e,h1,.inl rfl⟩);have BI:J.L.G w w':=hL.gsame _ _ _ cT λb hb=>hsame b (R.foot hL hb) (.inr hb);refine⟨⟨J.L.gtrans _ _ _ R.go BI,⟨s,ow,sl,hM,hb,zY,qa,eX (λx hx=>bP (w:=w) (hblk _ hx)) jA,λb hb=>?_,qN hown.row hblk,qM hown.far hblk⟩,λb f hf=>?_⟩,⟨cn K.size hsz,λb o h1 h2 h3 h4=>?_,by rw[←K.sl9,h9,af qa];rfl,J.L.gtrans _ _ _ K.go BI⟩,dK⟩
 ·have hb:=(hs b).1 hb;obtain⟨h1,h2,h3,h4⟩:=hown.blk b hb;exact⟨h1,λh=>h2 ((dK b).1 h),h3,by rw[hblk b hb];exact h4⟩
 ·obtain⟨⟨c,e,hc⟩,h2,h3⟩:=R.fw b f hf;obtain⟨⟨c0,e0,hc0⟩,_,_⟩:=R0.fw b f hf;have hb0:=(aQ.1 hc0).1;exact⟨⟨c,e,by rw[hsame b (aQ.1 hc).1 (.inl hb0)];exact hc⟩,λh=>h2 ((dK b).1 h),h3⟩
 ·obtain⟨h5,h6⟩:=K.same b o h1 h2 h3 h4;exact⟨by rw[hsame b (aQ.1 h5).1 (.inl (aQ.1 h1).1)];exact h5,λh=>h6 ((dK b).1 h)⟩
structure CallV(J:eM σ)(d:aK)(k:Nat)(w:World)(cv:Value)(c:bG):Prop where
 ex:∃pv,cv=.agg #[.int .i64 c.kind,.int .i64 c.a,.int .i64 c.b,.int .i64 c.c,pv]/\SlP w pv c.pairs/\∀x n e,pv=.slice (some x) n e->x.block≠d.W k/\¬J.L.Foot w x.block/\∃o,w.heap[x.block]? =some o/\o≠cI
theorem CallV.keep{c:bG}(h:CallV J d k w cv c)(K:dW J d k w w'):CallV J d k w' cv c:=by
 obtain⟨pv,e,h1,h2⟩:=h.ex;refine⟨pv,e,h1.same λx n e h3 y hy=>?_,λx n e h3=>?_⟩
 ·obtain⟨h4,h5,o,h6,h7⟩:=h2 x n e h3;obtain⟨h8,_⟩:=K.same _ _ h6 h7 h5 h4;refine bP (w:=w) ?_;rw[hy,h8,h6]
 ·obtain⟨h4,h5,o,h6,h7⟩:=h2 x n e h3;obtain⟨h8,h9⟩:=K.same _ _ h6 h7 h5 h4;exact⟨h4,h9,o,h8,h7⟩
structure yz(J:eM σ)(B:Nat)(w:World)(v:Value)(a:dO):Prop where
 ex:∃v0 v1 v2 iv pv,v=.agg #[.int .i64 v0,.int .i64 v1,.int .i64 v2,.bool a.ok,.int .i64 a.n,.int .i64 a.m,.int .i64 a.err,iv,pv]/\Ke w iv a.ints/\SlP w pv a.pairs/\
  ∀x n e,(iv=.slice (some x) n e\/pv=.slice (some x) n e)->B<=x.block/\¬J.L.Foot w x.block/\∃o,w.heap[x.block]? =some o/\o≠cI/\bU o=true
theorem yz.same{a:dO}(h:yz J B w v a)(hw:∀b,b<w.heap.size->B<=b->w'.heap[b]? =w.heap[b]?)(hf:∀b,J.L.Foot w' b↔J.L.Foot w b):yz J B w' v a:=by
 obtain⟨v0,v1,v2,iv,pv,e,h1,h2,h3⟩:=h.ex;have key:∀x n e,(iv=.slice (some x) n e\/pv=.slice (some x) n e)->w'.heap[x.block]? =w.heap[x.block]? :=λx n e h=>by obtain⟨h4,_,o,h5,_⟩:=h3 x n e h;exact hw _ (aQ.1 h5).1 h4
 refine⟨v0,v1,v2,iv,pv,e,h1.same λx n e h y hy=>?_,h2.same λx n e h y hy=>?_,λx n e h=>?_⟩
 ·exact bP (w:=w) (by rw[hy];exact key x n e (.inl h))
 ·exact bP (w:=w) (by rw[hy];exact key x n e (.inr h))
 ·obtain⟨h4,h5,h6⟩:=h3 x n e h;exact⟨h4,λhc=>h5 ((hf _).1 hc),by rw[key x n e h];exact h6⟩
theorem yz.mono{B':Nat}{a:dO}(h:yz J B w v a)(hB:B'<=B):yz J B' w v a:=by obtain⟨v0,v1,v2,iv,pv,e,h1,h2,h3⟩:=h.ex;exact⟨v0,v1,v2,iv,pv,e,h1,h2,λx n e h=>⟨cn hB (h3 x n e h).1,(h3 x n e h).2⟩⟩
end
section
variable{w w5:World}{sl sl':Value}{l:List kt}{g' cap':Nat}{cs:List Value}{x:kt}{iv pv:Value}
def mS(x:kt)(iv pv:Value):List Value:=[.int .i64 x.begin_,.int .i64 x.end_,.int .i64 x.own,.bool x.ans.ok,.int .i64 x.ans.n,.int .i64 x.ans.m,.int .i64 x.ans.err,iv,pv]
theorem Sk(jA:AnsAt w sl l)(hrow:w.ownsRow 0 tA 9 sl l.length cs)(Kf:Far w sl)(xV:w5.ownsRow 0 tA 9 (.slice (some ⟨g',0,none⟩) (l.length+1) cap') (l.length+1) (cs++mS x iv pv))
  (hs:∀b,bs w sl b->sl.ownBlock≠some b->w5.heap[b]? =w.heap[b]?)(hi:Ke w5 iv x.ans.ints)(hp:SlP w5 pv x.ans.pairs):AnsAt w5 (.slice (some ⟨g',0,none⟩) (l.length+1) cap') (l++[x]):=by
 have hlen:cs.length=l.length*9:=hrow.1;have hc:∀j,j< (l.length+1) *9->w5.cell? ⟨g',j,none⟩=(cs++mS x iv pv)[j]? :=λj hj=>xV.cellAt j hj;refine⟨_,cap',by rw[mM];rfl,λi y hy=>⟨g',rfl,?_⟩⟩;rcases iC i l.length with hil|hil
 ·rw[oC hil]at hy;obtain⟨a,cap,rfl,h⟩:=jA;obtain⟨b,rfl,A⟩:=h i y hy;have hold:∀j,j<9->w5.cell? ⟨g',9*i+j,none⟩=w.cell? ⟨b,9*i+j,none⟩:=λj hj=>by rw[hc _ ae,oC ae,hrow.cellAt _ ae]
  have Bj:∀j v x' n e,j<9->w.cell? ⟨b,9*i+j,none⟩=some v->v=.slice (some x') n e->∀z:Addr,z.block=x'.block->w5.cell? z=w.cell? z:=by intro j v x' n e hj h2 e1 z hz;subst e1;refine bP ?_;rw[hz];have hne:=Kf _ _ _ rfl (9*i+j) x' n e ae h2;exact hs _ ⟨⟨b,0,none⟩,_,_,rfl,.inr ⟨9*i+j,x',n,e,ae,h2,rfl⟩⟩ (λe=>hne (aP e).symm)
  refine⟨(hold 0 ae).trans A.c0,(hold 1 ae).trans A.c1,(hold 2 ae).trans A.c2,(hold 3 ae).trans A.c3,(hold 4 ae).trans A.c4,(hold 5 ae).trans A.c5,(hold 6 ae).trans A.c6,?_,?_⟩
  ·obtain⟨v,h2,h3⟩:=A.c7;exact⟨v,(hold 7 ae).trans h2,h3.same λx' n e e1 z hz=>Bj 7 v x' n e ae h2 e1 z hz⟩
  ·obtain⟨v,h2,h3⟩:=A.c8;exact⟨v,(hold 8 ae).trans h2,h3.same λx' n e e1 z hz=>Bj 8 v x' n e ae h2 e1 z hz⟩
 ·have yJ:i=l.length:=by have:=(eL.1 hy).1;simp at this;omega
  subst yJ;rw[pQ (aY _)]at hy;obtain rfl:x=y:=by simpa using hy
  have hnew:∀j,j<9->w5.cell? ⟨g',9*l.length+j,none⟩=(mS x iv pv)[j]? :=λj hj=>by rw[hc _ ae,pQ ae,show 9*l.length+j-cs.length=j by omega]
  exact⟨hnew 0 ae,hnew 1 ae,hnew 2 ae,hnew 3 ae,hnew 4 ae,hnew 5 ae,hnew 6 ae,⟨iv,hnew 7 ae,hi⟩,⟨pv,hnew 8 ae,hp⟩⟩
theorem Od(hlen:∃a cap,sl=.slice a l.length cap)(hrow:w.ownsRow 0 tA 9 sl l.length cs)(xV:w5.ownsRow 0 tA 9 (.slice (some ⟨g',0,none⟩) (l.length+1) cap') (l.length+1) (cs++mS x iv pv)){i:Nat}{y:Addr}{e':Nat}
  (hi:i<9*(l.length+1))(h:w5.cell? ⟨g',i,none⟩=some (.slice (some y) m e')):(∃g,sl.ownBlock=some g/\i<9*l.length/\w.cell? ⟨g,i,none⟩=some (.slice (some y) m e'))\/iv=.slice (some y) m e'\/pv=.slice (some y) m e':=by
 have hl:cs.length=l.length*9:=hrow.1;rw[xV.cellAt i ae]at h;rcases iC i (9*l.length)with h1|h1
 ·rw[oC ae]at h;rcases hrow.2 with⟨_,h0⟩|⟨g,cap,cur,rfl,Sl⟩
  ·omega
  ·exact .inl ⟨g,rfl,h1,by rw[hrow.cellAt i ae];exact h⟩
 ·rw[pQ ae]at h;have hj:i-cs.length<9:=ae;generalize i-cs.length=j at h hj;match j,hj with
  |0,_|1,_|2,_|3,_|4,_|5,_|6,_=>simp[mS]at h
  |7,_=>exact .inr (.inl (by simpa[mS]using h))
  |8,_=>exact .inr (.inr (by simpa[mS]using h))
end
section
variable{P:Program}
theorem uW{main:Bool}{ops:Array Oper}{i:Nat}{rest:List Nat}{k:List Item}{cs:List Frame}{w:World}{x:Operand}{g:FuncId}{cap:Array Value}(ho:ops[i]? =some o)(hw:Region.wanted o (yielded ops a.tmps)=true)(hk:b.kind≠.early)
  (hop:o.op=.defer {callee:=.value x,args:=#[],argTypes:=#[]})(hx:a.eval x=.func (.func g) #[] cap):
  stepG P main (bh (b.at a (.inRegion ops (i::rest)::k)) cs) w=.go (bh (b.at (Act.put ⟨a.tmps,⟨.fn (.func g) cap,#[]⟩::a.defers⟩ o.dst undef) (.inRegion ops rest::k)) cs) w #[]:=by
 have hr:(execOp a.eval o).runT P w #[]=(.ok (.defer ⟨.fn (.func g) cap,#[]⟩) w,#[]):=by clear ho hw;generalize a.eval=ρ at hx;simp[execOp,hop,resolve,Deferred.ofValue,hx,go_sem]
 have hg:=stepG_oper (P:=P) (main:=main) (b:=b) (a:=a) (k:=k) (cs:=cs) (w:=w) (rest:=rest) ho hw;have oT:((b.at a (.inRegion ops (i::rest)::k)).kind==CallKind.early)=false:=by show(b.kind==CallKind.early)=false;cases e:b.kind<;>first|rfl|exact absurd e hk
 have lS:(b.at ⟨a.tmps,⟨.fn (.func g) cap,#[]⟩::a.defers⟩ (.inRegion ops (i::rest)::k)).finish undef=b.at (Act.put ⟨a.tmps,⟨.fn (.func g) cap,#[]⟩::a.defers⟩ o.dst undef) (.inRegion ops rest::k):=by rw[fy,ho];rfl
 refine hg.trans ?_;simp only[stepG.apply,hr,oT];rw[←lS];simp[GStep.after,seen,bh,G,Frame.at]
theorem Aa{main:Bool}{ops:Array Oper}{i:Nat}{rest:List Nat}{k:List Item}{c:Frame}{cs:List Frame}{w:World}(ho:ops[i]? =some o)(hw:Region.wanted o (yielded ops a.tmps)=true)(hk:b.kind=.deferred)
  (hop:o.op=.call {callee:=.builtin .recover,args:=#[],argTypes:=ats})(hm:c.mode=.returning):
  stepG P main (bh (b.at a (.inRegion ops (i::rest)::k)) (c::cs)) w=.go (bh (b.at (a.put o.dst .nilIface) (.inRegion ops rest::k)) (c::cs)) w #[]:=by
 have e1:(b.at a (.inRegion ops (i::rest)::k)).kind=.deferred:=hk;have e2:(b.at a (.inRegion ops (i::rest)::k)).roundOf=none:=rfl;have hr:(execOp a.eval o).runT P w #[]=(.ok .recover w,#[]):=by simp[execOp,hop,go_sem,builtin]
 have hg:=stepG_oper (P:=P) (main:=main) (b:=b) (a:=a) (k:=k) (cs:=c::cs) (w:=w) (rest:=rest) ho hw;refine hg.trans ?_;simp only[stepG.apply,if_true,hr,e1,e2];have ht:tryRecover (b.at a (.inRegion ops (i::rest)::k)) (c::cs)=none:=by simp[tryRecover,e1,hm]
 simp[ht,fy,ho,GStep.after,seen,bh,G]
theorem Ab{main:Bool}{todo:List Item}{c:Frame}{cs:List Frame}{w:World}(hn:b.kind=.deferred)(hd:a.defers=[])(hf:P.funcs[b.fn]? =some fn)
  (hr:(results fn a.tmps).run P w=.ok v w)(he:(results fn a.tmps).events P w #[]=#[])(hc:c.mode=.returning):
  stepG P main (bh {b.at a todo with mode:=.returning} (c::cs)) w=.go (bh c cs) w #[]:=by
 simp[bh,stepG,unwind,doReturn,Frame.at,hn,hd,hf,hr,he,hc,seen,GStep.after]
section
variable{main:Bool}{cs:List Frame}{J:dA ι}{Stop:ι->Frame->List Frame->World->Prop}{i:ι}{w:World}
theorem uX{g:FuncId}{cap:Array Value}{ds:List Deferred}(hm:fr.mode=.returning)(hd:fr.defers=⟨.fn (.func g) cap,#[]⟩::ds)(hf:P.funcs[g]? =some fn)(hname:(fn.name== "runtime.NumGoroutine")=false)(hb:fn.body=some c)
  (h:ZigC P main cs J Stop i ((baseD g).at {tmps:=(#[] ++cap) ++Array.replicate (fn.ntmps- (#[] ++cap).size) undef,defers:=[]} [.code c]) ({fr with defers:=ds}::fs) w):ZigC P main cs J Stop i fr fs w:=
 .pure (λw=>ki (by rw[hm];simp) hd hf hname hb) h
theorem Gk{ops:Array Oper}{rest:List Nat}{k:List Item}(ho:ops[j]? =some o)(hw:Region.wanted o (yielded ops a.tmps)=true)(hk:b.kind≠.early)
  (hr:∀w,(execOp a.eval o).runT P w #[]=(.ok (.value v) w,#[]))(h:ZigC P main cs J Stop i (b.at (a.put o.dst v) (.inRegion ops rest::k)) fs w):ZigC P main cs J Stop i (b.at a (.inRegion ops (j::rest)::k)) fs w:=by
 have oT:((b.at a (.inRegion ops (j::rest)::k)).kind==CallKind.early)=false:=by show(b.kind==CallKind.early)=false;cases e:b.kind<;>first|rfl|exact absurd e hk
 have lS:(b.at a (.inRegion ops (j::rest)::k)).finish v=b.at (a.put o.dst v) (.inRegion ops rest::k):=by rw[fy,ho];rfl
 refine .pure (λw=>?_) h;have:=(stepG_oper (P:=P) (main:=main) (b:=b) (a:=a) (k:=k) (cs:=fs++cs) (w:=w) (rest:=rest) ho hw).trans (gL (fr:=b.at a (.inRegion ops (j::rest)::k)) (cs:=fs++cs) oT (hr w));rw[lS,show seen P (b.at a (.inRegion ops (j::rest)::k)).fn #[] ++ #[]=#[]from by simp[seen]]at this;exact this
theorem sP{ops:Array Oper}{rest:List Nat}{k:List Item}{c:Frame}(ho:ops[j]? =some o)(hw:Region.wanted o (yielded ops a.tmps)=true)(hk:b.kind=.deferred)
  (hop:o.op=.call {callee:=.builtin .recover,args:=#[],argTypes:=ats})(hm:c.mode=.returning)(h:ZigC P main cs J Stop i (b.at (a.put o.dst .nilIface) (.inRegion ops rest::k)) (c::fs) w):ZigC P main cs J Stop i (b.at a (.inRegion ops (j::rest)::k)) (c::fs) w:=
 .pure (λw=>Aa ho hw hk hop hm) h
theorem Oe{todo:List Item}{c:Frame}(hn:b.kind=.deferred)(hd:a.defers=[])(hf:P.funcs[b.fn]? =some fn)
  (hr:fn.results=#[])(hc:c.mode=.returning)(h:ZigC P main cs J Stop i c fs w):ZigC P main cs J Stop i {b.at a todo with mode:=.returning} (c::fs) w:=
 .pure (λw=>Ab hn hd hf (results_none hr _ _ _) (events_results_none hr _ _) hc) h
theorem Gl(h:ZigC P main cs J Stop i {b.at a []with mode:=.returning} fs w):ZigC P main cs J Stop i (b.at a []) fs w:=.pure (λw=>stepG_end) h
end
end
end
section
open Go Go.Conc Go.ConcN Go.RowKit
attribute [local go_sem] aF aG aT aD aO aW aA aB
variable[Inhabited bO]
section
variable{J:eM σ}{k:Nat}{w:World}{p:Pr σ dO}{g:Bool}
theorem VJ{w:World}{o1 o2 o3:Obj}(h:((w.alloc o1).alloc o2).alloc o3=w1):w1.heap.size=w.heap.size+3/\(∀b,b<w.heap.size->w1.heap[b]? =w.heap[b]?)/\w1.heap[w.heap.size]? =some o1/\w1.heap[w.heap.size+1]? =some o2/\w1.heap[w.heap.size+1+1]? =some o3:=by
 subst h;refine⟨au,λb hb=>?_,?_,?_,?_⟩ <;>simp only[←cG,cF,fV]
 ·rw[if_neg ae,if_neg ae,if_neg ae]
 ·exact NT
 ·rw[if_neg ae,if_pos trivial]
 ·rw[if_pos trivial]
theorem Sm(w:World):(Instr.typeAssert .nilIface 20 213 true).run prog w=.ok (.tuple #[.agg #[],.bool false]) w:=by have hz0:Tryz.t213.zero=some (.agg #[]):=ax;simp[Instr.typeAssert,go_sem,zeroValue,hz0]
theorem eq_nil(w:World):(Op.equalIn Op.maxDepth 20 .nilIface .nilIface).runT prog w #[]=(.ok true w,#[]):=ax
theorem VL(w:World):(Op.equalIn Op.maxDepth 20 .nilIface .nilIface).run prog w=.ok true w:=by have:=eq_nil w;simp[Sem.runT_eq]at this;exact this.1
theorem VM(w:World):(Op.equalIn Op.maxDepth 20 .nilIface .nilIface).events prog w #[]=#[]:=by have:=eq_nil w;simp[Sem.runT_eq]at this;exact this.2
theorem nw.does(H:Hand J d k nb){x:Frame}{y:Value}(hf:x.fn=117)(hm:x.mode=.run)(hd:x.defers=[cl 147 #[y,z]])(h:nw d k fs):nw d k (x::fs):=by
 cases fs with
 |nil=>exact h.elim
 |cons c fs=>obtain⟨n,h⟩:=h;refine⟨n+30,λcK ho w=>?_⟩;rw[H.P]at h⊢;exact Gi hf hm hd (λw=>h ({v:=gu,recovered:=true}::cK) (by simpa using ho) w) w
theorem Sn(H:Hand J d k nb)(hL:J.L.Ok d.ro){c:bG}(hmeth:∀(w:World) (args:Array Value),(callMethod dv "Do" args).runT prog w #[]=(.ok (.enter yR (#[x] ++args)) w,#[]))(hR:Run J d tW k t g be p w)(hc:CallV J d k w cv c)
  (hDo:∀w1,Run J d tW k t g be p w1->dW J d k w w1->CallV J d k w1 cv c->CallsM prog false (d.cw k) (JW d (J.bE d.W) k) (λ_ _ _ _=>False) (nw d k) t yR #[x,.pointer (some ⟨d.W k,0,none⟩),cv] w1 λt' v w'=>∃g' a,Run J d tW k t' g' be (.ret a) w'/\dW J d k w1 w'/\yz J w1.heap.size w' v a):
  CallsM prog false (d.cw k) (JW d (J.bE d.W) k) (λ_ _ _ _=>False) (nw d k) t 117 #[.pointer (some ⟨d.W k,0,none⟩),dv,cv] w λt' v w'=>∃g' a,Run J d tW k t' g' be (.ret a) w'/\dW J d k w w'/\yz J w.heap.size w' v a:=by
 intro c0 fs hu hnext;have hcs:=H.cw;obtain⟨pv,hcv,_⟩:=hc.ex;have tP:Frame.enter prog 117 #[.pointer (some ⟨d.W k,0,none⟩),dv,cv] .normal=(Conc.base 117).at {tmps:=#[.pointer (some ⟨d.W k,0,none⟩),dv,cv] ++Array.replicate 9 undef,defers:=[]} [.code (f117.body.getD .skip)]:=by simp[Frame.enter,Frame.at,func117,f117,Conc.base]
 rw[tP];simp only[f117,bJ];walk_nrm;refine .pure (λ_=>stepG_seq) ?_;refine pg (fG _) hcs rfl ax (Gf _ _) (D7 _ _) (λτ=>?_);subst hcv;go_wp2;refine⟨_,aN _ _,?_⟩;refine .pure (λ_=>stepG_seq) (.pure (λ_=>stepG_region) ?_);refine rg ?_;generalize fE:((w.alloc (Obj.cells #[Value.pointer (some {block:=d.W k,off:=0})] 117)).alloc (Obj.cells #[.int .i64 c.kind,.int .i64 c.a,.int .i64 c.b,.int .i64 c.c,pv] 50)).alloc _=w1;obtain⟨hsz,ho,Zz,Sr,Xf⟩:=VJ fE;clear fE;obtain⟨R1,K1,F1⟩:=yQ hL hR hR (dW.refl J d k w) (w':=w1) ae (λb hb hne=>absurd (ho b hb) hne);have hF0:∀b,w.heap.size<=b->¬J.L.Foot w1 b:=λb hb h=>by have:=hR.foot hL ((F1 b).1 h);omega
 have afE:=hR.blk;refine z0l ?_;refine .pure (λ_=>uW (g:=147) (cap:=#[.pointer (some ⟨w.heap.size+1+1,0,none⟩),.pointer (some ⟨w.heap.size,0,none⟩)]) rfl rfl az rfl cC) ?_;walk_nrm;refine .pure (λ_=>stepG_region_end) ?_;refine .pure (λ_=>stepG_seq) (.pure (λ_=>stepG_region) ?_);refine rg ?_;have c0':=cO Zz 0;have c10:=cO Sr 0;have c11:=cO Sr 1;have c12:=cO Sr 2;have c13:=cO Sr 3;have c14:=cO Sr 4;iterate 3
  refine z0l ?_
 refine zigC_enter (f:=yR) (args:=#[x,.pointer (some ⟨d.W k,0,none⟩),.agg #[.int .i64 c.kind,.int .i64 c.a,.int .i64 c.b,.int .i64 c.c,pv]]) az rfl rfl (λw=>?_) ?_
 ·have:=hmeth w #[.pointer (some ⟨d.W k,0,none⟩),.agg #[.int .i64 c.kind,.int .i64 c.a,.int .i64 c.b,.int .i64 c.c,pv]];simpa[execOp,resolve,invoke,Act.eval,go_sem]using this
 refine hDo w1 R1 K1 (hc.keep K1) _ (c0::fs) (nw.does H rfl rfl rfl hu) λt' v w2 ⟨g',a,R2,K2,hv⟩=>?_;rw[fy];walk_nrm;obtain⟨tJ,hFr⟩:=K2.same _ _ Xf aJ (hF0 _ ae) ae;obtain⟨v0,v1,v2,iv,MD,hve,ZA,VN,hown⟩:=hv.ex;subst hve;obtain⟨ia,Ac,Ea,_⟩:=id ZA;obtain⟨pa,p6,hpe,_⟩:=id VN;subst Ea hpe;have hz:∀o,w2.frozen? ⟨w.heap.size+1+1,o,none⟩=false:=λo=>ay tJ o (bj _);have e0:=af tJ 0;have e1:=af tJ 1;have e2:=af tJ 2;have e3:=af tJ 3;have e4:=af tJ 4;have e5:=af tJ 5;have e6:=af tJ 6;have e7:=af tJ 7;have e8:=af tJ 8;simp only[jh,mP,ma]at e0 e1 e2 e3 e4 e5 e6 e7 e8;refine z0l ?_;generalize hw3:(((((((((w2.setCell ⟨w.heap.size+1+1,0,none⟩ (.int .i64 v0)).setCell ⟨w.heap.size+1+1,1,none⟩ (.int .i64 v1)).setCell ⟨w.heap.size+1+1,2,none⟩ (.int .i64 v2)).setCell ⟨w.heap.size+1+1,3,none⟩ (.bool a.ok)).setCell ⟨w.heap.size+1+1,4,none⟩ (.int .i64 a.n)).setCell ⟨w.heap.size+1+1,5,none⟩ (.int .i64 a.m)).setCell ⟨w.heap.size+1+1,6,none⟩ (.int .i64 a.err)).setCell ⟨w.heap.size+1+1,7,none⟩ (.slice ia a.ints.length Ac)).setCell ⟨w.heap.size+1+1,8,none⟩ (.slice pa a.pairs.length p6))=w3;have h3:w3.heap[w.heap.size+1+1]? =some (.cells #[.int .i64 v0,.int .i64 v1,.int .i64 v2,.bool a.ok,.int .i64 a.n,.int .i64 a.m,.int .i64 a.err,.slice ia a.ints.length Ac,.slice pa a.pairs.length p6] 48 (0,0)):=by have:=(aq (o:=8) (aq (o:=7) (aq (o:=6) (aq (o:=5) (aq (o:=4) (aq (o:=3) (aq (o:=2) (aq (o:=1) (aq (o:=0) tJ (.int .i64 v0)) (.int .i64 v1)) (.int .i64 v2)) (.bool a.ok)) (.int .i64 a.n)) (.int .i64 a.m)) (.int .i64 a.err)) (.slice ia a.ints.length Ac)) (.slice pa a.pairs.length p6));rw[hw3]at this;simpa using this
 have yy:w3.heap.size=w2.heap.size:=by subst hw3;simp[World.setCell]
 have ho3:∀b,b≠w.heap.size+1+1->w3.heap[b]? =w2.heap[b]? :=λb hb=>by subst hw3;simp only[ah hb]
 clear hw3 e0 e1 e2 e3 e4 e5 e6 e7 e8 hz;refine .pure (λ_=>stepG_region_end) ?_;refine .pure (λ_=>stepG_ret') ?_;refine uX rfl rfl func147 rfl rfl ?_;simp only[f147];walk_nrm;refine .pure (λ_=>stepG_seq) (.pure (λ_=>stepG_region) ?_);refine rg ?_;refine sP rfl rfl rfl rfl rfl ?_;walk_nrm;refine Ob ?_;refine .pure (λ_=>stepG_region_end) ?_;refine .pure (λ_=>stepG_seq) (.pure (λ_=>stepG_seq) (.pure (λ_=>stepG_region) ?_));refine rg ?_;refine Ob ?_;refine fN (fG _) (.inr rfl) rfl rfl ax (D7 _ _) (λτ K hK=>?_);go_simp;rw[Sm];go_simp;refine hK _ _ _ (aN _ _) ?_;clear hK K;walk_nrm;iterate 6
  refine Ob ?_
 refine .pure (λ_=>stepG_region_end) ?_;refine .pure (λ_=>stepG_seq) (.pure (λ_=>stepG_region) ?_);refine rg ?_;refine Ob ?_;refine .pure (λ_=>stepG_region_end) ?_;refine .pure (λ_=>stepG_cond (t:=false) rfl) ?_;refine .pure (λ_=>stepG_skip) ?_;refine .pure (λ_=>stepG_seq) (.pure (λ_=>stepG_region) ?_);refine rg ?_;refine Ob ?_;refine Gk (v:=.bool false) rfl rfl az (λw=>by simp[execOp,Act.eval,go_sem,binOp,Op.equal,VL,VM]) ?_;walk_nrm;refine .pure (λ_=>stepG_region_end) ?_;refine .pure (λ_=>stepG_cond (t:=false) rfl) ?_;refine .pure (λ_=>stepG_skip) ?_;refine Gl (Oe rfl rfl func147 rfl rfl ?_);generalize hw4:w3.alloc _=w4;have abU:w4.heap.size=w3.heap.size+1:=by subst hw4;simp
 have EZ:∀b,b<w3.heap.size->w4.heap[b]? =w3.heap[b]? :=λb hb=>by subst hw4;simp only[←cG,cF];rw[if_neg ae]
 clear hw4;have hlt:=(aQ.1 h3).1;have h4:=h3;rw[←EZ _ hlt]at h4;have e0:=af h4 0;have e1:=af h4 1;have e2:=af h4 2;have e3:=af h4 3;have e4:=af h4 4;have e5:=af h4 5;have e6:=af h4 6;have e7:=af h4 7;have e8:=af h4 8;simp only[jh,mP,ma]at e0 e1 e2 e3 e4 e5 e6 e7 e8;obtain⟨R4,K4,F4⟩:=yQ hL hR R2 (K1.trans K2) (w':=w4) ae (λb hb hne=>by
  have:b=w.heap.size+1+1:=by apply cY;intro hc;exact hne (by rw[EZ b ae,ho3 b hc])
  subst this;exact⟨ae,hFr⟩)
 refine zV rfl rfl rfl func117 (v:=.agg #[.int .i64 v0,.int .i64 v1,.int .i64 v2,.bool a.ok,.int .i64 a.n,.int .i64 a.m,.int .i64 a.err,.slice ia a.ints.length Ac,.slice pa a.pairs.length p6]) ?_ (hnext t' _ w4 ⟨g',a,R4,K4,(hv.same (λb hb hB=>?_) F4).mono ae⟩)
 ·simp[results,Frame.at,f117,go_sem,e0,e1,e2,e3,e4,e5,e6,e7,e8]
 ·have:b≠w.heap.size+1+1:=ae;rw[EZ b ae,ho3 b this]
end
end
section
open Go Go.Conc Go.ConcN Go.RowKit
noncomputable def bot:Frame:={(default:Frame)with fn:=prog.funcs.size,defers:=[],mode:=.panicking [goexitEntry]}
theorem Og(b:Frame)(a:Act)(todo:List Item)(hd:a.defers=[])(hk:b.kind=.deferred)(hf:b.fn=72):QuitsD prog 2 0 (G {b.at a todo with mode:=.returning} [bot]):=by
 refine QuitsD.ctl (g':=G bot []) rfl (λw=>?_) ?_
 ·simp[G,stepG,unwind,doReturn,Frame.at,bot,hd,hk,hf,Conc.baseD,func72,results,GStep.after,seen,go_sem,f72,goexitEntry]
 ·refine QuitsD.ctl (g':={G bot []with status:=.finished}) rfl (λw=>?_) ⟨rfl,rfl⟩;simp[G,stepG,unwind,bot,goexitEntry,Frame.catches];rfl
noncomputable def cD:Code:=match f74.body with
 |some (.seq _ r)=>r
 |_=>.skip
def Ad(nb W:Nat)(dv cv:Value):Act:={tmps:=#[.pointer (some ⟨W,0,none⟩),dv,cv,.pointer (some ⟨nb,0,none⟩)] ++Array.replicate 77 undef,defers:=[]}
noncomputable def rO(nb W:Nat)(dv cv:Value):Frame:=(Conc.base 74).at (Ad nb W dv cv) [.code cD]
theorem wJ(Wg bw bd bc W:Nat)(dv cv:Value):∃rf:Frame,
  (∀{pf:Frame} {K0:World->Prop} {S:Loc->Prop} {B C n i:Nat} {val:Value},pf.fn=74->pf.kind=.normal->pf.mode=.returning->pf.defers=[]->(∀w,K0 w->WgLive link.tWg Wg w/\Has C i val w)->
   ∀w,Goes prog false (RK K0) (DS S B) (λg w=>g.status=.running/\∃m,iu prog link.tWg Wg C n (i+1) 7 m 0 g w) 10 (G pf [rf,bot]) w)/\
  (∀{R:World->World->Prop} {D:World->World->Array Event->Prop} {Q:Goroutine->World->Prop} {F F':World->Prop} {nb:Nat},(∀w w₁,R w w₁->F w->F w₁)->(∀w w₁,R w w₁->F' w->F' w₁)->(∀w,F w->w.heap.size=nb/\w.cell? ⟨bw,0,none⟩=some (.pointer (some ⟨W,0,none⟩))/\w.cell? ⟨bd,0,none⟩=some dv/\w.cell? ⟨bc,0,none⟩=some cv)->
   (∀w es,F w->(∀e∈es,∃a:Addr,e=⟨.cell a,false,false⟩/\(a.block=bw\/a.block=bd\/a.block=bc))->D w w es)->(∀w,F w->D w (w.alloc (.cells #[.pointer (some ⟨W,0,none⟩)] 117)) #[]/\F' (w.alloc (.cells #[.pointer (some ⟨W,0,none⟩)] 117)))->(∀w,F' w->D w w #[]/\Q (G (rO nb W dv cv) [rf,bot]) w)->
   ∀w,F w->Goes prog false R D Q 40 (G {(default:Frame)with fn:=prog.funcs.size,defers:=[cl 72 #[.pointer (some ⟨Wg,0,none⟩),.pointer (some ⟨bw,0,none⟩),.pointer (some ⟨bd,0,none⟩),.pointer (some ⟨bc,0,none⟩)]],mode:=.panicking [goexitEntry]} []) w):=by
 apply Exists.intro;refine⟨?_,?_⟩;rotate_left
 ·intro R D Q F F' nb hF hF' hc hD hA hQ w hw;have nil:∀w,F w->D w w #[]:=λw h=>hD w #[] h au;refine bg rfl (λw₁ h₁=>?_);replace hw:=hF _ _ h₁ hw;clear h₁;rw[ki (g:=72) (args:=#[]) (ds:=[]) au rfl func72 rfl rfl];simp only[goes_go];refine⟨nil _ hw,?_⟩;simp only[f72];walk_nrm
  (refine bg rfl (λw₁ h₁=>?_);replace hw:=hF _ _ h₁ hw;clear h₁;rw[stepG_seq];simp only[goes_go];refine⟨nil _ hw,?_⟩)
  (refine bg rfl (λw₁ h₁=>?_);replace hw:=hF _ _ h₁ hw;clear h₁;rw[stepG_region];simp only[goes_go,jC,ew,fS,Nat.reduceAdd,cM,List.range,List.range.loop];refine⟨nil _ hw,?_⟩)
  (refine bg rfl (λw₁ h₁=>?_);replace hw:=hF _ _ h₁ hw;clear h₁;rw[stepG_defer rfl rfl az rfl];simp only[goes_go];refine⟨nil _ hw,?_⟩)
  walk_nrm
  (refine bg rfl (λw₁ h₁=>?_);replace hw:=hF _ _ h₁ hw;clear h₁;rw[stepG_region_end];simp only[goes_go];refine⟨nil _ hw,?_⟩)
  (refine bg rfl (λw₁ h₁=>?_);replace hw:=hF _ _ h₁ hw;clear h₁;rw[stepG_region];simp only[goes_go,jC,ew,fS,Nat.reduceAdd,cM,List.range,List.range.loop];refine⟨nil _ hw,?_⟩)
  (refine bg rfl (λw₁ h₁=>?_);replace hw:=hF _ _ h₁ hw;clear h₁;refine goes_oper_k rfl rfl az (λK hK=>?_);have⟨_,c1,c2,c3⟩:=hc _ hw;go_simp;refine hK _ _ ⟨hD _ _ hw (λe he=>by(have hm:=mem_listed he;simp[go_sem, *]at hm;(try(subst hm;exact⟨_,rfl,au⟩)))),?_⟩;clear hK K c1 c2 c3)
  (refine bg rfl (λw₁ h₁=>?_);replace hw:=hF _ _ h₁ hw;clear h₁;refine goes_oper_k rfl rfl az (λK hK=>?_);have⟨_,c1,c2,c3⟩:=hc _ hw;go_simp;refine hK _ _ ⟨hD _ _ hw (λe he=>by(have hm:=mem_listed he;simp[go_sem, *]at hm;(try(subst hm;exact⟨_,rfl,au⟩)))),?_⟩;clear hK K c1 c2 c3)
  (refine bg rfl (λw₁ h₁=>?_);replace hw:=hF _ _ h₁ hw;clear h₁;refine goes_oper_k rfl rfl az (λK hK=>?_);have⟨_,c1,c2,c3⟩:=hc _ hw;go_simp;refine hK _ _ ⟨hD _ _ hw (λe he=>by(have hm:=mem_listed he;simp[go_sem, *]at hm;(try(subst hm;exact⟨_,rfl,au⟩)))),?_⟩;clear hK K c1 c2 c3)
  refine bg rfl (λw₁ h₁=>?_);replace hw:=hF _ _ h₁ hw;clear h₁;refine goes_call rfl rfl az rfl func74 rfl rfl ⟨nil _ hw,?_⟩;simp only[rO,cD]at hQ;simp only[f74]at hQ⊢;walk_nrm
  (refine bg rfl (λw₁ h₁=>?_);replace hw:=hF _ _ h₁ hw;clear h₁;rw[stepG_seq];simp only[goes_go];refine⟨nil _ hw,?_⟩)
  (refine bg rfl (λw₁ h₁=>?_);replace hw:=hF _ _ h₁ hw;clear h₁;rw[stepG_region];simp only[goes_go,jC,ew,fS,Nat.reduceAdd,cM,List.range,List.range.loop];refine⟨nil _ hw,?_⟩)
  refine bg rfl (λw₁ h₁=>?_);replace hw:=hF _ _ h₁ hw;clear h₁;obtain⟨d1,d2⟩:=hA _ hw;obtain⟨hsz,_,_,_⟩:=hc _ hw;refine goes_oper_k rfl rfl az (λK hK=>?_);go_simp;refine hK _ _ ⟨?_,?_⟩
  ·rw[listed_none (by simp[go_sem, *])];exact d1
  clear hK K d1 hw;refine bg rfl (λw₁ h₁=>?_);replace d2:=hF' _ _ h₁ d2;clear h₁;rw[stepG_region_end];simp only[goes_go];refine⟨(hQ _ d2).1,eK (λw₁ h₁=>?_)⟩;have h:=(hQ _ (hF' _ _ h₁ d2)).2;subst hsz;refine cast (congrArg (λa=>Q (G ((Conc.base 74).at a _) _) _) ?_) h;simp[Ad]
 ·intro pf K0 S B C n i val hfn hk hm hd hK w;refine bg rfl (λw₁ h₁=>?_);rw[show stepG prog false (G pf [_,bot]) w₁=.go (G (_) [bot]) w₁ #[]from by simp[G,stepG,unwind,doReturn,hm,hd,hfn,hk,func74,results,GStep.after,seen,go_sem,f74];rfl];simp only[goes_go];refine⟨ds_none _,?_⟩;rw[fy];walk_nrm;k_c stepG_region_end
  k_c stepG_end
  refine bg rfl (λw₁ h₁=>?_);rw[stepG_unwind_enter rfl func73 rfl rfl];simp only[goes_go];refine⟨ds_none _,eK (λw₂ h₂=>⟨rfl,?_⟩)⟩;exact abX MC rfl (Og _ _ _ rfl rfl rfl) w₂ (by obtain⟨h1,h2⟩:=hK w₂ h₂;exact⟨h1,h2⟩)
end
section
namespace aL
open Go
section
variable{P:Program}{ops:Array Oper}{Q:Exit->Act->World->Prop}{md:Region.Mode}{S:World->Prop}
def free(zs:List Nat)(listed:Array Bool):Bool:=zs.all λz=>!listed.getD z false
theorem Gm{listed:Array Bool}(h:free zs (listed.setIfInBounds i true)=true):free zs listed=true:=by
 unfold free at*;rw[fT]at*;intro z hz;have:=h z hz;by_cases e:i=z
 ·subst e;rcases iC i listed.size with h'|h'
  ·simp[h']at this
  ·simp[kP h']
 ·rw[getD_set_ne false e]at this;exact this
theorem mU{listed:Array Bool}(hi:i∉zs)(h:free zs listed=true):free zs (listed.setIfInBounds i true)=true:=by unfold free at*;rw[fT]at*;intro z hz;rw[getD_set_ne false (λe=>hi (by subst e;exact hz))];exact h z hz
def wpAnyT(P:Program)(md:Region.Mode)(ops:Array Oper)(Q:Exit->Act->World->Prop)(S:World->Prop)(zs:List Nat):Nat->Array Bool->Act->World->Prop
 |0,listed,a,w=>Region.ready md ops listed=[]/\Q .normal a w
 |fuel+1,listed,a,w=>
  (Region.ready md ops listed=[]->Q .normal a w)/\
  ∀i∈Region.ready md ops listed,wpOp P ops Q i (λa' w'=>(free zs (listed.setIfInBounds i true)=true->S w')/\wpAnyT P md ops Q S zs fuel (listed.setIfInBounds i true) a' w') a w
theorem Ae:∀(fuel:Nat) (listed:Array Bool) (a:Act) (w:World),wpAnyT P md ops Q S zs fuel listed a w->wpAny P md ops Q fuel listed a w
 |0,_,_,_,h=>h
 |fuel+1,_,_,_,h=>⟨h.1,λi hi=>wpOp_mono (λa' w' h'=>Ae fuel _ a' w' h'.2) (h.2 i hi)⟩
theorem uY(hi:ops[i]? =some oi)(VP:∀(j:Nat) (o:Oper) cs b,ops[j]? =some o->o.op≠.select cs b)
  (hQ:∀c a w,Q (.panic c) (a.put oi.dst v) w->Q (.panic c) a w)
  (hT:∀listed w,E listed w->T w/\(free zs listed=true->S w))
  (hz:∀listed j oj w',(∃w,E listed w)->ops[j]? =some oj->j≠i->(∀e∈oj.after,Region.binds md e=true->e.on≠i)->(free zs ((listed.setIfInBounds i true).setIfInBounds j true)=true->S w')->E (listed.setIfInBounds j true) w'):
  ∀(fuel:Nat) (listed:Array Bool) (a:Act) (w:World),
   (∀j oj,ops[j]? =some oj->j≠i->listed.getD j true=false->(∀e∈oj.after,Region.binds md e=true->e.on≠i)->oi.apart ops oj=true)->
   i∈Region.ready md ops listed->YieldsIf P ops T oi v a->E listed w->
   wpAnyT P md ops Q S zs fuel (listed.setIfInBounds i true) (a.put oi.dst v) w->wpAnyT P md ops Q S zs (fuel+1) listed a w:=by
 intro fuel;induction fuel with
 |zero=>
  intro listed a w _ hr hy hS H;refine⟨λh=>(by rw[h]at hr;cases hr),λj hj=>?_⟩;by_cases E0:j=i
  ·subst E0;exact hy.wpOp hi (hT _ w hS).1 ⟨λhf=>(hT _ w hS).2 (Gm hf),H⟩
  ·have:=ready_mono hj E0;rw[H.1]at this;cases this
 |succ fuel ih=>
  intro listed a w dU hr hy hS H;refine⟨λh=>(by rw[h]at hr;cases hr),λj hj=>?_⟩;by_cases E0:j=i
  ·subst E0;exact hy.wpOp hi (hT _ w hS).1 ⟨λhf=>(hT _ w hS).2 (Gm hf),H⟩
  ·have h1:=H.2 j (ready_mono hj E0);obtain⟨ab0,oj,ME,hall⟩:=mem_ready.1 hj;have zG:∀e∈oj.after,Region.binds md e=true->e.on≠i:=λe he hb heq=>by
    have h1:=hall e he hb;have h0:=(mem_ready.1 hr).1;rw[heq]at h1;rcases iC i listed.size with h'|h'
    ·simp[h']at h0 h1;rw[h0]at h1;cases h1
    ·simp[kP h']at h1
   have h2:=wpOp_putIf ME (dU j oj ME E0 ab0 zG) (λcs b=>VP i oi cs b hi) (λcs b=>VP j oj cs b ME) hQ hy h1;have ZB:∀k ok,ops[k]? =some ok->k≠i->(listed.setIfInBounds j true).getD k true=false->
     (∀e∈ok.after,Region.binds md e=true->e.on≠i)->oi.apart ops ok=true:=λk ok hk hki mB hno=>by
    refine dU k ok hk hki ?_ hno;by_cases hjk:j=k
    ·subst hjk;exact ab0
    ·rw[getD_set_ne true hjk]at mB;exact mB
   refine wpOp_mono (λa' w' h3=>?_) h2;have hE:=hz listed j oj w' ⟨w,hS⟩ ME E0 zG h3.2.1;refine⟨(hT _ w' hE).2,ih (listed.setIfInBounds j true) a' w' ZB (ready_mono hr (bp E0)) h3.1 hE ?_⟩;rw[Array.setIfInBounds_comm _ _ E0];exact h3.2.2
def waits(md:Region.Mode)(ops:Array Oper)(zs:List Nat)(i:Nat):Bool:=
 zs.all λz=>match ops[z]? with
  |some oz=>oz.after.any λe=>Region.binds md e&&e.on==i
  |none=>true
theorem Kg(h:waits md ops zs i=true)(z:Nat)(hz:z∈zs)(oz:Oper)(ho:ops[z]? =some oz):∃e∈oz.after,Region.binds md e=true/\e.on=i:=by have h1:=fT.1 h z hz;simp only[ho]at h1;obtain⟨e,he,hb⟩:=Array.any_eq_true'.1 h1;simp only[bK,beq_iff_eq]at hb;exact⟨e,he,hb.1,hb.2⟩
theorem po{l rest:List Oper}(hi:l.drop i=oi::rest):l.toArray[i]? =some oi:=by rw[jh];have:=congrArg (λx:List Oper=>x[0]?) hi;simpa[List.getElem?_drop]using this
theorem MF(h:zs.contains i=false):i∉zs:=λhm=>by
 have:zs.contains i=true:=by simpa using hm
 rw[h]at this;cases this
theorem take{l rest:List Oper}{fuel:Nat}{listed:Array Bool}{w:World}(hi:l.drop i=oi::rest)
  (hs:Region.noSelect l.toArray=true)(hf:Region.free md l.toArray listed i=true)(hr:(Region.ready md l.toArray listed).contains i=true)(hz:(waits md l.toArray zs i&&free zs listed&&!zs.contains i)=true)
  (hQ:∀c a w,Q (.panic c) (a.put oi.dst v) w->Q (.panic c) a w)(hy:YieldsIf P l.toArray S oi v a)(hS:S w)
  (h:wpAnyT P md l.toArray Q S zs fuel (listed.setIfInBounds i true) (a.put oi.dst v) w):wpAnyT P md l.toArray Q S zs (fuel+1) listed a w:=by
 simp only[bK,uF]at hz;obtain⟨⟨hz1,hz2⟩,hz3⟩:=hz;refine uY (T:=S) (E:=λlisted w=>free zs listed=true/\S w) (po hi) (Region.noSelect_spec hs) hQ (λ_ w h=>⟨h.2,λ_=>h.2⟩) ?_ fuel listed a w (Region.free_spec (po hi) hf) (by simpa using hr) hy ⟨hz2,hS⟩ h;intro listed j oj w' ⟨_,sI,_⟩ ME _ zG hSw;have hj:j∉zs:=λhj=>by obtain⟨e,he,hb,E5⟩:=Kg hz1 j hj oj ME;exact zG e he hb E5
 exact⟨mU hj sI,hSw (mU hj (mU (MF hz3) sI))⟩
theorem Af{l rest:List Oper}{fuel:Nat}{listed:Array Bool}{w:World}(hi:l.drop i=oi::rest)
  (hs:Region.noSelect l.toArray=true)(hf:Region.free md l.toArray listed i=true)(hr:(Region.ready md l.toArray listed).contains i=true)(hz:zs.contains i=false)
  (hQ:∀c a w,Q (.panic c) (a.put oi.dst v) w->Q (.panic c) a w)(hy:YieldsIf P l.toArray (λ_=>True) oi v a)(hS:free zs listed=true->S w)
  (h:wpAnyT P md l.toArray Q S zs fuel (listed.setIfInBounds i true) (a.put oi.dst v) w):wpAnyT P md l.toArray Q S zs (fuel+1) listed a w:=by
 refine uY (T:=λ_=>True) (E:=λlisted w=>free zs listed=true->S w) (po hi) (Region.noSelect_spec hs) hQ (λ_ w h=>⟨trivial,h⟩) ?_ fuel listed a w (Region.free_spec (po hi) hf) (by simpa using hr) hy hS h;intro listed j oj w' _ ME E0 zG hSw sI;refine hSw ?_;rw[Array.setIfInBounds_comm _ _ (bp E0)];exact mU (MF hz) sI
theorem one{l rest:List Oper}{fuel:Nat}{listed:Array Bool}{w:World}(hi:l.drop i=oi::rest)
  (hr:Region.ready md l.toArray listed=[i])
  (h:∀K:Act->World->Prop,Shut (∀a w,(free zs (listed.setIfInBounds i true)=true->S w)->((free zs (listed.setIfInBounds i true)=true->S w)->wpAnyT P md l.toArray Q S zs fuel (listed.setIfInBounds i true) a w)->K a w)->
   if Region.wanted oi (yielded l.toArray a.tmps)=true then Oper.wp P oi a w K Q else K (a.put oi.dst undef) w):
  wpAnyT P md l.toArray Q S zs (fuel+1) listed a w:=by
 refine⟨λh0=>(by rw[hr]at h0;cases h0),λj hj=>?_⟩;rw[hr]at hj;obtain rfl:j=i:=by simpa using hj
 exact wpOp_step (po hi) (λK' hK=>h K' (λa w hS hW=>hK a w ⟨hS,hW hS⟩))
theorem to(i:Nat){l rest:List Oper}{fuel:Nat}{listed:Array Bool}{w:World}
  (h:∀K:Act->World->Prop,Shut (∀a w,(free zs (listed.setIfInBounds i true)=true->S w)->((free zs (listed.setIfInBounds i true)=true->S w)->wpAnyT P md l.toArray Q S zs fuel (listed.setIfInBounds i true) a w)->K a w)->
   if Region.wanted oi (yielded l.toArray a.tmps)=true then Oper.wp P oi a w K Q else K (a.put oi.dst undef) w) (hi:l.drop i=oi::rest:=by rfl)
  (hr:Region.ready md l.toArray listed=[i]:=by kernel_rfl):wpAnyT P md l.toArray Q S zs (fuel+1) listed a w:=one hi hr h
theorem tv(i:Nat){l rest:List Oper}{fuel:Nat}{listed:Array Bool}{w:World}(hS:S w)
  (h:wpAnyT P md l.toArray Q S zs fuel (listed.setIfInBounds i true) a' w)(hi:l.drop i=oi::rest:=by rfl)
  (hs:Region.noSelect l.toArray=true:=by kernel_rfl)(hf:Region.free md l.toArray listed i=true:=by kernel_rfl)(hr:(Region.ready md l.toArray listed).contains i=true:=by kernel_rfl)(hz:zs.contains i=false:=by kernel_rfl)
  (hQ:∀c a w,Q (.panic c) (a.put oi.dst v) w->Q (.panic c) a w:=by exact λ_ _ _ h=>h)
  (hy:YieldsIf P l.toArray (λ_=>True) oi v a:=by exact Or.inl ⟨bF,by(intro wS hSw;(try dsimp only at hSw);go_simp;all_goals with_reducible rfl)⟩)
  (ha:a.put oi.dst v=a':=by(try simp only[Act.put,jD,mI,pI]);rfl):wpAnyT P md l.toArray Q S zs (fuel+1) listed a w:=by
 subst ha;exact Af hi hs hf hr hz hQ hy (λ_=>hS) h
theorem tu(i:Nat){l rest:List Oper}{fuel:Nat}{listed:Array Bool}{w:World}(hS:S w)
  (h:wpAnyT P md l.toArray Q S zs fuel (listed.setIfInBounds i true) a' w)(hi:l.drop i=oi::rest:=by rfl)
  (hs:Region.noSelect l.toArray=true:=by kernel_rfl)(hf:Region.free md l.toArray listed i=true:=by kernel_rfl)(hr:(Region.ready md l.toArray listed).contains i=true:=by kernel_rfl)(hz:zs.contains i=false:=by kernel_rfl)
  (hQ:∀c a w,Q (.panic c) (a.put oi.dst undef) w->Q (.panic c) a w:=by exact λ_ _ _ h=>h)
  (hy:YieldsIf P l.toArray (λ_=>True) oi undef a:=by exact Or.inr ⟨bF,rfl⟩)
  (ha:a.put oi.dst undef=a':=by(try simp only[Act.put,jD,mI,pI]);rfl):wpAnyT P md l.toArray Q S zs (fuel+1) listed a w:=by
 subst ha;exact Af hi hs hf hr hz hQ hy (λ_=>hS) h
theorem tt(i:Nat){l rest:List Oper}{fuel:Nat}{listed:Array Bool}{w:World}(hS:S w)
  (h:wpAnyT P md l.toArray Q S zs fuel (listed.setIfInBounds i true) a' w)(hi:l.drop i=oi::rest:=by rfl)
  (hs:Region.noSelect l.toArray=true:=by kernel_rfl)(hf:Region.free md l.toArray listed i=true:=by kernel_rfl)(hr:(Region.ready md l.toArray listed).contains i=true:=by kernel_rfl)(hz:(waits md l.toArray zs i&&free zs listed&&!zs.contains i)=true:=by kernel_rfl)
  (hQ:∀c a w,Q (.panic c) (a.put oi.dst v) w->Q (.panic c) a w:=by exact λ_ _ _ h=>h)
  (hy:YieldsIf P l.toArray S oi v a:=by exact Or.inl ⟨bF,by(intro wS hSw;(try dsimp only at hSw);go_simp;all_goals with_reducible rfl)⟩)
  (ha:a.put oi.dst v=a':=by(try simp only[Act.put,jD,mI,pI]);rfl):wpAnyT P md l.toArray Q S zs (fuel+1) listed a w:=by
 subst ha;exact take hi hs hf hr hz hQ hy hS h
theorem two{l ab1 ab2:List Oper}{oj:Oper}{fuel:Nat}{listed:Array Bool}{w:World}(hi:l.drop i=oi::ab1)(hj:l.drop j=oj::ab2)
  (hr:Region.ready md l.toArray listed=[i,j])
  (h1:∀K:Act->World->Prop,Shut (∀a w,(free zs (listed.setIfInBounds i true)=true->S w)->((free zs (listed.setIfInBounds i true)=true->S w)->wpAnyT P md l.toArray Q S zs fuel (listed.setIfInBounds i true) a w)->K a w)->
   if Region.wanted oi (yielded l.toArray a.tmps)=true then Oper.wp P oi a w K Q else K (a.put oi.dst undef) w)
  (h2:∀K:Act->World->Prop,Shut (∀a w,(free zs (listed.setIfInBounds j true)=true->S w)->((free zs (listed.setIfInBounds j true)=true->S w)->wpAnyT P md l.toArray Q S zs fuel (listed.setIfInBounds j true) a w)->K a w)->
   if Region.wanted oj (yielded l.toArray a.tmps)=true then Oper.wp P oj a w K Q else K (a.put oj.dst undef) w):
  wpAnyT P md l.toArray Q S zs (fuel+1) listed a w:=by
 refine⟨λh0=>(by rw[hr]at h0;cases h0),λk hk=>?_⟩;rw[hr]at hk;rcases dM.1 hk with e|hk
 ·rw[e];exact wpOp_step (po hi) (λK' hK=>h1 K' (λa w hS hW=>hK a w ⟨hS,hW hS⟩))
 ·obtain rfl:k=j:=by simpa using hk
  exact wpOp_step (po hj) (λK' hK=>h2 K' (λa w hS hW=>hK a w ⟨hS,hW hS⟩))
theorem done{l:List Oper}{listed:Array Bool}{w:World}(hr:Region.ready md l.toArray listed=[])(h:Q .normal a w):
  ∀fuel,wpAnyT P md l.toArray Q S zs fuel listed a w
 |0=>⟨hr,h⟩
 |_+1=>⟨λ_=>h,by rw[hr];simp⟩
theorem start{l:List Oper}{id:Nat}{w:World}(S:World->Prop)(zs:List Nat)(hm:P.follows .mixedOrders=true)(hS:S w.drew)
  (h:S w.drew->wpAnyT P .any l.toArray Q S zs l.length (Array.replicate l.length false) a w.drew):(Code.region id l.toArray true).wp P Q a w:=
 wp_region_any hm (Ae _ _ _ _ (by simpa using h hS))
end
end aL
end
section
open Go Go.Conc Go.ConcN Go.RowKit
attribute [local go_sem] aF aG aT aD aO aW aA aB
def S1:ba:={L:=λg=>g==116,C:=λ_=>false,X:=λ_=>false,ft:=λ_ _=>false}
theorem kV:Stat prog S1:=by
 refine⟨λ_=>⟨λ_ h=>bY,λ_ h=>bY,Fu rfl (λ_=>rfl) (λ_=>rfl)⟩,λg h=>?_,λ_ h=>bY,λg h=>?_⟩
 ·simp only[S1,beq_iff_eq]at h;subst h;exact⟨_,func116,rfl,rfl⟩
 ·simp only[S1,beq_iff_eq]at h;subst h;kernel_rfl
theorem IM(f:Nat)(t:Array Value):pY S1 f t:=λ_ h=>bY
theorem BM(x:Value):∀d∈[cl 116 #[x]],mK prog S1 d:=λd hd=>by simp only[List.mem_singleton]at hd;subst hd;exact .inr (.inl ⟨_,_,rfl,rfl,λ_ h=>bY⟩)
def _root_.Go.Code.l:Code->Code|.seq x _=>x|.block _ x=>x|.loop x=>x|x=>x
def _root_.Go.Code.r:Code->Code|.seq _ y=>y|x=>x
noncomputable def eY:Code:=cD.r.r.l.l
noncomputable def fO:Code:=eY.r.r.l.l
noncomputable def pcTold:Code:=fO.r.r.r
noncomputable def pcDone:Code:=pcTold.r.r
end
section
open Go Go.Conc Go.ConcN Go.RowKit
attribute [local go_sem] aF aG aT aD aO aW aA aB
variable[Inhabited bO]
inductive qc(W nb:Nat)(dv cv:Value)(len q:Nat)(u7 u8:Value):Act->Prop
 |mk (u4 u5 u6 u9 mb lr kE u16 ku kF kG kH mf mg u23 u24 mh u26 kI u28 kJ kK lu u32 u33 lx ly lz lA mi mj mD ny nz pq u44 pw nA nB nC nD nE nG nH si sj tS tT wK wL wM wN wO wP wQ u64 wR wT Gn Gp Gq BN BO BP Eb Ec Ed Ee Ef Gr Gs Gt:Value):qc W nb dv cv len q u7 u8 {tmps:=#[.pointer (some ⟨W,0,none⟩),dv,cv,.pointer (some ⟨nb,0,none⟩),u4,u5,u6,u7,u8,u9,cv,.int .i64 len,.int .i64 q,mb,lr,kE,u16,ku,kF,kG,kH,mf,mg,u23,u24,mh,u26,kI,u28,kJ,kK,lu,u32,u33,lx,ly,lz,lA,mi,mj,mD,ny,nz,pq,u44,pw,nA,nB,nC,nD,nE,nG,nH,si,sj,tS,tT,wK,wL,wM,wN,wO,wP,wQ,u64,wR,wT,Gn,Gp,Gq,BN,BO,BP,Eb,Ec,Ed,Ee,Ef,Gr,Gs,Gt],defers:=[cl 116 #[.pointer (some ⟨nb,0,none⟩)]]}
structure ZC(W tW:Nat)(c:Array Value)(w w':World):Prop where
 size:w'.heap.size=w.heap.size
 off:∀b,b≠W->w'.heap[b]? =w.heap[b]?
 own:w'.heap[W]? =some (.cells c tW (0,5))
section
variable{J:eM σ}{k:Nat}{w:World}{p:Pr σ dO}{g:Bool}
set_option profiler true in
theorem Oh(hcs:d.cw k≠[]){st len q:Nat}{sl:Value}(hA:qc (d.W k) nb dv cv len q u7 u8 a)(jU:w.cell? ⟨nb,0,none⟩=some (.pointer (some ⟨d.W k,0,none⟩)))(hne:nb≠d.W k)(hlt:ow<100000)
  (hW:w.heap[d.W k]? =some (.cells (cy k (d.turn k) d.come d.gone g st be ow sl) tW (0,5))):
  wpM prog false (d.cw k) (JW d (J.bE d.W) k) (λ_ _ _ _=>False) (λfs=>fs=[]) 74 pcDone.l (λt' e a' w'=>e=.normal/\t'=t/\qc (d.W k) nb dv cv len q u7 u8 a'/\ZC (d.W k) tW (cy k (d.turn k) d.come d.gone false st be (if g then ow+1 else ow) sl) w w') t a w:=by
 cases hA;have c5:=cO hW 5;have c8:=cO hW 8;have z5:=ay hW 5 (aY _);have z8:=ay hW 8 ae;have hwr:IntKind.i64.wrap ((ow:Int) +1)=(ow:Int) +1:=by rw[dR];omega
 generalize VH:d.W k=W at*;simp only[pcDone,pcTold,fO,eY,cD,f74,Code.l,Code.r];cases g with
 |false=>refine wpM_seq (wpM_lone kV hcs ax (BM _) (IM _ _) (λτ=>?_));go_wp2;refine qK ?_;refine aH (t:=false) rfl (dm ?_);exact⟨rfl,rfl,qc.mk ..,rfl,λ_ _=>rfl,by simpa using hW⟩
 |true=>refine wpM_seq (wpM_lone kV hcs ax (BM _) (IM _ _) (λτ=>?_));go_wp2;refine qK ?_;refine aH (t:=true) rfl ?_;simp only[if_true];refine wpM_lone kV hcs ax (BM _) (IM _ _) (λτ=>?_);go_wp2;refine⟨_,aN _ _,qc.mk ..,gF,λb hb=>by rw[ah hb,ah hb],?_⟩;have:=aq (o:=8) (aq (o:=5) hW (.bool false)) (.int .i64 ((ow:Int) +1));simpa[cy]using this
end
end
section
open Go Go.Conc Go.ConcN Go.RowKit
theorem info_parts{t:TypeId}{s b:Nat}(h:(prog.info? t).map (λi=>(i.zero,i.size,i.bytes))=some (some z,s,b)):∃i,prog.info? t=some i/\i.zero=some z/\i.size=s/\i.bytes=b:=by
 revert h;cases hi:prog.info? t with
 |none=>intro h;cases h
 |some i=>intro h;simp only[kS,cu,Prod.mk.injEq]at h;exact⟨i,rfl,h.1,h.2.1,h.2.2⟩
theorem Eg:(prog.info? 48).map (λi=>(i.zero,i.size,i.bytes))=some (some (.agg #[.int .i64 0,.int .i64 0,.int .i64 0,.bool false,.int .i64 0,.int .i64 0,.int .i64 0,.slice none 0 0,.slice none 0 0]),9,104):=ax
def qO(C:Act->World->Prop):Exit->Act->World->Prop
 |.normal,a,w=>C a w
 |_,_,_=>False
theorem kv{w:World}(h:c.wp prog (qO C) a w)(hC:∀a' w',C a' w'->C' a' w'):c.wp prog (λe a' w'=>e=.normal/\C' a' w') a w:=Code.wp_mono (λe a' w' h=>by cases e<;>first|exact⟨rfl,hC _ _ h⟩|exact h.elim) h
section
variable{len q:Nat}{w:World}
theorem Kh(hA:qc W nb dv cv len q u7 u8 a)(jU:w.cell? ⟨nb,0,none⟩=some (.pointer (some ⟨W,0,none⟩)))(hne:nb≠W){v8:Value}{st:Int}(c6:w.cell? ⟨W,6,none⟩=some (.int .i64 st))(c7:w.cell? ⟨W,7,none⟩=some v7)(c8:w.cell? ⟨W,8,none⟩=some v8)
  (z7:w.frozen? ⟨W,7,none⟩=false)(z8:w.frozen? ⟨W,8,none⟩=false):
  (pcTold.l).wp prog (qO λa' w'=>qc W nb dv cv len q u7 u8 a'/\Alike ((w.setCell ⟨W,7,none⟩ (.int .i64 st)).setCell ⟨W,8,none⟩ (.int .i64 0)) w') a w:=by
 cases hA;simp only[pcTold,fO,eY,cD,f74,Code.l,Code.r];refine aL.start (λw'=>w'.cell? ⟨nb,0,none⟩=some (.pointer (some ⟨W,0,none⟩))/\w'.cell? ⟨W,6,none⟩=some (.int .i64 st)) [11] ax ?_ (λhHeld=>?_)
 ·exact Ry
 refine aL.tt 0 hHeld ?_;refine aL.tt 1 hHeld ?_;refine aL.tt 2 hHeld ?_;refine aL.tv 3 hHeld ?_;refine aL.tv 4 hHeld ?_;refine aL.tt 5 hHeld ?_;refine aL.tv 6 hHeld ?_;refine aL.tv 7 hHeld ?_;refine aL.to 8 (λK hK=>?_);go_simp;refine hK.out _ _ (λ_=>?_) (λhHeld=>?_)
 ·exact Ry
 replace hHeld:=hHeld az;clear hK K;try refine pt ?_
 refine aL.tv 9 hHeld ?_;refine aL.tv 10 hHeld ?_;refine aL.to 11 (λK hK=>?_);go_simp;refine hK.out _ _ (λhF=>absurd hF az) (λ_=>?_);clear hK K;try refine pt ?_
 refine aL.done ax ?_ _;exact⟨qc.mk ..,⟨rfl,rfl,rfl⟩⟩
theorem Ki(hA:qc W nb dv cv len q u7 (.pointer (some ⟨b8,0,none⟩)) a)(jU:w.cell? ⟨nb,0,none⟩=some (.pointer (some ⟨W,0,none⟩)))(hne:nb≠W)(hn8:b8≠W)(afF:b8≠nb){v0 v1 v2:Value}{be st ow:Int}(c6:w.cell? ⟨W,6,none⟩=some (.int .i64 st))(c7:w.cell? ⟨W,7,none⟩=some (.int .i64 be))(c8:w.cell? ⟨W,8,none⟩=some (.int .i64 ow))
  (x0:w.cell? ⟨b8,0,none⟩=some v0)(x1:w.cell? ⟨b8,1,none⟩=some v1)(x2:w.cell? ⟨b8,2,none⟩=some v2)(z0:w.frozen? ⟨b8,0,none⟩=false)(z1:w.frozen? ⟨b8,1,none⟩=false)(z2:w.frozen? ⟨b8,2,none⟩=false):
  (pcDone.r.l).wp prog (qO λa' w'=>qc W nb dv cv len q u7 (.pointer (some ⟨b8,0,none⟩)) a'/\Alike (((w.setCell ⟨b8,0,none⟩ (.int .i64 be)).setCell ⟨b8,1,none⟩ (.int .i64 st)).setCell ⟨b8,2,none⟩ (.int .i64 ow)) w') a w:=by
 cases hA;simp only[pcDone,pcTold,fO,eY,cD,f74,Code.l,Code.r];refine aL.start (λw'=>w'.cell? ⟨nb,0,none⟩=some (.pointer (some ⟨W,0,none⟩))/\w'.cell? ⟨W,6,none⟩=some (.int .i64 st)/\w'.cell? ⟨W,7,none⟩=some (.int .i64 be)/\w'.cell? ⟨W,8,none⟩=some (.int .i64 ow)) [17] ax ?_ (λhHeld=>?_)
 ·exact Gc
 refine aL.tt 0 hHeld ?_;refine aL.tv 1 hHeld ?_;refine aL.tv 2 hHeld ?_;refine aL.tt 3 hHeld ?_;refine aL.tt 4 hHeld ?_;refine aL.tv 5 hHeld ?_;refine aL.tv 6 hHeld ?_;refine aL.tt 7 hHeld ?_;refine aL.tt 8 hHeld ?_;refine aL.tv 9 hHeld ?_;refine aL.tv 10 hHeld ?_;refine aL.tt 11 hHeld ?_;refine aL.tv 12 hHeld ?_;refine aL.to 13 (λK hK=>?_);go_simp;refine hK.out _ _ (λ_=>?_) (λhHeld=>?_)
 ·exact Gc
 replace hHeld:=hHeld az;clear hK K;try refine pt ?_
 refine aL.tv 14 hHeld ?_;refine aL.to 15 (λK hK=>?_);go_simp;refine hK.out _ _ (λ_=>?_) (λhHeld=>?_)
 ·exact Gc
 replace hHeld:=hHeld az;clear hK K;try refine pt ?_
 refine aL.tv 16 hHeld ?_;refine aL.to 17 (λK hK=>?_);go_simp;refine hK.out _ _ (λhF=>absurd hF az) (λ_=>?_);clear hK K;try refine pt ?_
 refine aL.done ax ?_ _;exact⟨qc.mk ..,⟨rfl,rfl,rfl⟩⟩
theorem Gv(hA:qc W nb dv cv len q u7 (.pointer (some ⟨b8,0,none⟩)) a)(jU:w.cell? ⟨nb,0,none⟩=some (.pointer (some ⟨W,0,none⟩))){sl:Value}{n:Nat}{cs:List Value}(hn:n<100000){be st ow vn vm ve:Int}{il pl:Nat}(c9:w.cell? ⟨W,9,none⟩=some sl)(z9:w.frozen? ⟨W,9,none⟩=false)
  (x0:w.cell? ⟨b8,0,none⟩=some (.int .i64 be))(x1:w.cell? ⟨b8,1,none⟩=some (.int .i64 st))(x2:w.cell? ⟨b8,2,none⟩=some (.int .i64 ow))(x3:w.cell? ⟨b8,3,none⟩=some (.bool ok))(x4:w.cell? ⟨b8,4,none⟩=some (.int .i64 vn))(x5:w.cell? ⟨b8,5,none⟩=some (.int .i64 vm))(x6:w.cell? ⟨b8,6,none⟩=some (.int .i64 ve))(x7:w.cell? ⟨b8,7,none⟩=some (.slice ia il ic))(x8:w.cell? ⟨b8,8,none⟩=some (.slice pa pl pc))
  (hrow:w.ownsRow 0 48 9 sl n cs)(ZF:some W≠sl.ownBlock)(hrn:some nb≠sl.ownBlock)(hr8:some b8≠sl.ownBlock):
  (pcDone.r.r.l).wp prog (qO λa' w'=>qc W nb dv cv len q u7 (.pointer (some ⟨b8,0,none⟩)) a'/\∃(g' cap':Nat) (w1:World),w1.ownsRow 0 48 9 (.slice (some ⟨g',0,none⟩) (n+1) cap') (n+1) (cs++[.int .i64 be,.int .i64 st,.int .i64 ow,.bool ok,.int .i64 vn,.int .i64 vm,.int .i64 ve,.slice ia il ic,.slice pa pl pc])/\w.heap.size<=w1.heap.size/\(∀b,b<w.heap.size->some b≠sl.ownBlock->w1.heap[b]? =w.heap[b]?)/\(sl.ownBlock=some g'\/w.heap.size<=g')/\Alike (w1.setCell ⟨W,9,none⟩ (.slice (some ⟨g',0,none⟩) (n+1) cap')) w') a w:=by
 cases hA;have RM:=dw w _ c9;have hnl:=dw w _ jU;have h8l:=dw w _ x0;simp only at RM hnl h8l;obtain⟨ie,Ea,Kj,Kk,Kl⟩:=info_parts Eg;simp only[pcDone,pcTold,fO,eY,cD,f74,Code.l,Code.r];refine aL.start (λw'=>w'.cell? ⟨nb,0,none⟩=some (.pointer (some ⟨W,0,none⟩))/\w'.cell? ⟨W,9,none⟩=some sl/\w'.cell? ⟨b8,0,none⟩=some (.int .i64 be)/\w'.cell? ⟨b8,1,none⟩=some (.int .i64 st)/\w'.cell? ⟨b8,2,none⟩=some (.int .i64 ow)/\w'.cell? ⟨b8,3,none⟩=some (.bool ok)/\w'.cell? ⟨b8,4,none⟩=some (.int .i64 vn)/\w'.cell? ⟨b8,5,none⟩=some (.int .i64 vm)/\w'.cell? ⟨b8,6,none⟩=some (.int .i64 ve)/\w'.cell? ⟨b8,7,none⟩=some (.slice ia il ic)/\w'.cell? ⟨b8,8,none⟩=some (.slice pa pl pc)) [10] ax ?_ (λhHeld=>?_)
 ·exact Zg
 refine aL.tt 0 hHeld ?_;refine aL.tt 1 hHeld ?_;refine aL.tv 2 hHeld ?_;refine aL.tv 3 hHeld ?_;refine aL.tt 4 hHeld ?_;refine aL.tt 5 hHeld ?_;refine aL.to 6 (λK hK=>?_);go_simp;refine hK.out _ _ (λ_=>?_) (λhHeld=>?_)
 ·exact Zg
 replace hHeld:=hHeld az;clear hK K;try refine pt ?_
 refine aL.to 7 (λK hK=>?_)
 (refine step_append_lies _ bF (.tmp 67) (.tmp 69) _ bF 0 48 ie _ 9 104 underlying45 Ea Kj Kk Kl rfl ae sl n cs bF ((hrow.alloc _).drew) ⟨w.heap.size,0,none⟩ 1 1 [.int .i64 be,.int .i64 st,.int .i64 ow,.bool ok,.int .i64 vn,.int .i64 vm,.int .i64 ve,.slice ia il ic,.slice pa pl pc] bF bF (pR (cs:=#[.int .i64 be,.int .i64 st,.int .i64 ow,.bool ok,.int .i64 vn,.int .i64 vm,.int .i64 ve,.slice ia il ic,.slice pa pl pc]) (t:=48) (fr:=(0,0)) (heap_alloc_new w _)) qP ae iw ae (bj _) (w.heap.size+1) au ?_;intro gg cap w1 hown1 hgrow hat uZ;have hs1:=hgrow.size;simp only[pS,bI]at hs1;have hz9:w1.frozen? ⟨W,9,none⟩=false:=(by rw[hgrow.frozen_far _ bV ZF];first|(simp[*];done)|(go_simp;done)))
 refine hK.out _ _ (λ_=>?_) (λhHeld=>?_)
 ·exact Zg
 replace hHeld:=hHeld az;clear hK K;try refine pt ?_
 refine aL.tv 8 hHeld ?_;refine aL.tv 9 hHeld ?_;refine aL.to 10 (λK hK=>?_);go_simp;refine hK.out _ _ (λhF=>absurd hF az) (λ_=>?_);clear hK K;try refine pt ?_
 refine aL.done ax ?_ _;refine⟨qc.mk ..,gg,cap,w1,hown1,ae,λb hb hne=>?_,hat.imp id (λe=>ae),⟨rfl,rfl,rfl⟩⟩;rw[hgrow.block b bV hne];show(w.alloc _).heap[b]? =_;simp only[←cG,cF];rw[if_neg ae]
end
end
section
open Go Go.Conc Go.ConcN Go.RowKit
attribute [local go_sem] aF aG aT aD aO aW aA aB
variable[Inhabited bO]
theorem qc.def{len q:Nat}(h:qc W nb dv cv len q u7 u8 a):∀d∈a.defers,mK prog S1 d:=by cases h;exact BM _
section
variable{J:eM σ}{k:Nat}{w:World}{p:Pr σ dO}{g:Bool}
structure vd(J:eM σ)(d:aK)(k:Nat)(w w':World):Prop where
 size:w.heap.size<=w'.heap.size
 same:∀(b:Nat) o,w.heap[b]? =some o->o≠cI->¬J.L.Foot w b->b≠d.W k->(∀sl,w.cell? ⟨d.W k,9,none⟩=some sl->sl.ownBlock≠some b)->w'.heap[b]? =some o/\¬J.L.Foot w' b
 go:J.L.G w w'
theorem Oi(hcs:d.cw k≠[]){len q:Nat}(hA:qc W nb dv cv len q u7 u8 a)(jU:w.cell? ⟨nb,0,none⟩=some (.pointer (some ⟨W,0,none⟩)))(hne:nb≠W)(c7:w.cell? ⟨W,7,none⟩=some v7)(z7:w.frozen? ⟨W,7,none⟩=false)(c11:w.cell? ⟨W,11,none⟩=some (.bool false)):
  wpM prog false (d.cw k) (JW d (J.bE d.W) k) (λ_ _ _ _=>False) (λfs=>fs=[]) 74 pcDone.r.r.r (λt' e a' w'=>e=.normal/\t'=t/\qc W nb dv cv len q u7 u8 a'/\w'=w.setCell ⟨W,7,none⟩ (.int .i64 0)) t a w:=by
 cases hA;simp only[pcDone,pcTold,fO,eY,cD,f74,Code.l,Code.r];iterate 2
  refine wpM_seq (wpM_lone kV hcs ax (BM _) (IM _ _) (λτ=>?_));go_wp2;refine qK ?_
 refine aH (t:=false) rfl (dm ?_);exact⟨rfl,rfl,qc.mk ..,rfl⟩
theorem Oj:pcDone=.seq pcDone.l (.seq pcDone.r.l (.seq pcDone.r.r.l pcDone.r.r.r)):=by simp only[pcDone,pcTold,fO,eY,cD,f74,Code.l,Code.r]
theorem Ol(H:Hand J d k nb)(hL:J.L.Ok d.ro)(hm:J.c.most<=20000)(hT:J.tA=48){len q:Nat}{p0:Pr σ dO}{a:dO}{act:Act}
  (R0:Run J d tW k t0 g0 be0 p0 w0)(R:Run J d tW k t g be (.ret a) w)(K:dW J d k w0 w)(jU:w0.heap[nb]? =some (.cells #[.pointer (some ⟨d.W k,0,none⟩)] 117 (0,1)))
  {v0 v1 v2:Int}(h8:w.heap[b8]? =some (.cells #[.int .i64 v0,.int .i64 v1,.int .i64 v2,.bool a.ok,.int .i64 a.n,.int .i64 a.m,.int .i64 a.err,.slice ia a.ints.length ic,.slice pa a.pairs.length pc] 48 (0,0)))(hb8:w0.heap.size<=b8)(hF8:¬J.L.Foot w b8)
  (hi:Ke w (.slice ia a.ints.length ic) a.ints)(hp:SlP w (.slice pa a.pairs.length pc) a.pairs)(Xv:∀x,(ia=some x\/pa=some x)->w0.heap.size<=x.block/\x.block≠b8/\¬J.L.Foot w x.block/\∃o,w.heap[x.block]? =some o/\o≠cI/\bU o=true)
  (hlen:((J.ar (t-1)).w k).got.length<100000)(hA:qc (d.W k) nb dv cv len q u7 (.pointer (some ⟨b8,0,none⟩)) act):
  wpM prog false (d.cw k) (JW d (J.bE d.W) k) (λ_ _ _ _=>False) (λfs=>fs=[]) 74 pcDone (λt' e a' w'=>e=.normal/\t'=t/\qc (d.W k) nb dv cv len q u7 (.pointer (some ⟨b8,0,none⟩)) a'/\vd J d k w0 w'/\J.L.G t.a w'/\
   ∃st ow sl,kD J d tW k t st 0 ow sl ((J.ar t).w k) (J.ar t).s w'/\((J.ar t).w k).now=none/\((J.ar t).w k).got.length=((J.ar (t-1)).w k).got.length+1) t act w:=by
 obtain⟨s,ow,sl,hM,hb,cT,hW,jA,hown⟩:=R.ex;obtain⟨f1,f2⟩:=hM.fin;have hcs:=H.cw;have IL:d.fw k (d.W k)=some (0,5):=by rw[H.fw,if_pos rfl]
 have mE:d.fw k nb=some (0,1):=by rw[H.fw,if_neg H.ne,if_pos rfl]
 have hWF:=(R.fw _ _ IL).2.1;have hnF:=(R.fw _ _ mE).2.1;have adY:=(R0.fw _ _ mE).2.1;have IP:=(K.same _ _ jU aJ adY H.ne).1;have afG:nb<w0.heap.size:=(aQ.1 jU).1;have afp:=R0.blk;have hsz:=K.size;have afH:b8<w.heap.size:=(aQ.1 h8).1;have h9:=cO hW 9;have hbl:∀b,bs w sl b->b<w0.heap.size/\b≠d.W k:=λb hb=>⟨(Zy R0 K h9 b hb).2,(hown.blk b hb).1⟩;obtain⟨cs,hrow⟩:=hown.row;rw[hT]at hrow;have CU:∀x,sl.ownBlock=some x->bs w sl x/\x≠nb:=λx hx=>by
  rcases hrow.2 with⟨e1,_⟩|⟨x',cap,cur,e1,_,e2,_⟩
  ·rw[e1]at hx;cases hx
  ·rw[e1]at hx;obtain rfl:x'=x:=(by simpa[Value.ownBlock]using hx);refine⟨⟨_,_,_,e1,.inl rfl⟩,λe=>?_⟩;rw[e,IP]at e2;cases e2
 rw[Oj];refine wpM_seq (di (Oh (g:=g) hcs hA (by rw[af IP];rfl) H.ne (by have:=hM.few;have:=hm;omega) hW) ?_);rintro t' e a1 w1 ⟨rfl,rfl,F7,T1⟩;simp only[Exit.then];generalize hown':(if g=true then ow+1 else ow)=E7 at*;have FO:E7<=t'-J.n:=by subst hown';cases g<;>simp at hb⊢<;>omega
 have n8W:b8≠d.W k:=ae;have hx8:w1.heap[b8]? =w.heap[b8]? :=T1.off _ n8W;rw[←hx8]at h8;have BQ:w1.heap[nb]? =some (.cells #[.pointer (some ⟨d.W k,0,none⟩)] 117 (0,1)):=by rw[T1.off _ H.ne];exact IP
 refine wpM_seq (wpM_lone kV hcs ax F7.def (IM _ _) (λτ=>kv (Ki (w:=w1.tp τ) (be:=(be:Int)) (st:=((t'-J.n:Nat):Int)) (ow:=(E7:Int)) F7 (by rw[aF,af BQ];rfl) H.ne n8W ae (by rw[aF,af T1.own];rfl) (by rw[aF,af T1.own];rfl) (by rw[aF,af T1.own];rfl) (by rw[aF,af h8];rfl) (by rw[aF,af h8];rfl) (by rw[aF,af h8];rfl) (ay (w:=w1.tp τ) h8 _ (bj _)) (ay (w:=w1.tp τ) h8 _ (bj _)) (ay (w:=w1.tp τ) h8 _ (bj _))) λa2 w' ⟨qI,e2⟩=>⟨((w1.setCell ⟨b8,0,none⟩ (.int .i64 be)).setCell ⟨b8,1,none⟩ (.int .i64 ((t'-J.n:Nat):Int))).setCell ⟨b8,2,none⟩ (.int .i64 E7),⟨e2.heap,e2.os,e2.output⟩,?_⟩));simp only[Exit.then];generalize hw2:((w1.setCell ⟨b8,0,none⟩ (.int .i64 be)).setCell ⟨b8,1,none⟩ (.int .i64 ((t'-J.n:Nat):Int))).setCell ⟨b8,2,none⟩ (.int .i64 E7)=w2;have hs2:w2.heap.size=w.heap.size:=by subst hw2;simp[World.setCell,T1.size]
 have yM:∀b,b≠d.W k->b≠b8->w2.heap[b]? =w.heap[b]? :=λb h1 h2=>by subst hw2;rw[ah h2,ah h2,ah h2,T1.off b h1]
 have hW2:w2.heap[d.W k]? =some (.cells (cy k (d.turn k) d.come d.gone false (t'-J.n) be E7 sl) tW (0,5)):=by subst hw2;rw[ah (bp n8W),ah (bp n8W),ah (bp n8W)];exact T1.own
 have VQ:w2.heap[b8]? =some (.cells #[.int .i64 be,.int .i64 ((t'-J.n:Nat):Int),.int .i64 E7,.bool a.ok,.int .i64 a.n,.int .i64 a.m,.int .i64 a.err,.slice ia a.ints.length ic,.slice pa a.pairs.length pc] 48 (0,0)):=by have:=aq (o:=2) (aq (o:=1) (aq (o:=0) h8 (.int .i64 be)) (.int .i64 ((t'-J.n:Nat):Int))) (.int .i64 E7);rw[hw2]at this;simpa using this
 clear hw2 hx8 h8;have adZ:∀b,bs w sl b->w2.heap[b]? =w.heap[b]? :=λb hb=>by obtain⟨h1,h2⟩:=hbl b hb;exact yM b h2 ae
 have hrow2:w2.ownsRow 0 48 9 sl ((J.ar (t'-1)).w k).got.length cs:=by refine⟨hrow.1,hrow.2.imp id ?_⟩;rintro⟨x,cap,cur,rfl,h3,h4,h5⟩;exact⟨x,cap,cur,rfl,h3,by rw[adZ x ⟨_,_,_,rfl,.inl rfl⟩];exact h4,h5⟩
 have VR:w2.heap[nb]? =some (.cells #[.pointer (some ⟨d.W k,0,none⟩)] 117 (0,1)):=by rw[yM _ H.ne ae];exact IP
 have nrW:some (d.W k)≠sl.ownBlock:=λe=>(hbl _ (CU _ e.symm).1).2 rfl;have nrn:some nb≠sl.ownBlock:=λe=>(CU _ e.symm).2 rfl;have nr8:some b8≠sl.ownBlock:=λe=>by have:=(hbl _ (CU _ e.symm).1).1;omega
 refine wpM_seq (wpM_lone kV hcs ax qI.def (IM _ _) (λτ=>kv (Gv (w:=w2.tp τ) (sl:=sl) (be:=(be:Int)) (st:=((t'-J.n:Nat):Int)) (ow:=(E7:Int)) (ok:=a.ok) (vn:=a.n) (vm:=a.m) (ve:=a.err) (ia:=ia) (pa:=pa) (il:=a.ints.length) (ic:=ic) (pl:=a.pairs.length) (pc:=pc) qI (by rw[aF,af VR];rfl) hlen (by rw[aF,af hW2];rfl) (ay (w:=w2.tp τ) hW2 9 ae) (by rw[aF,af VQ];rfl) (by rw[aF,af VQ];rfl) (by rw[aF,af VQ];rfl) (by rw[aF,af VQ];rfl) (by rw[aF,af VQ];rfl) (by rw[aF,af VQ];rfl) (by rw[aF,af VQ];rfl) (by rw[aF,af VQ];rfl) (by rw[aF,af VQ];rfl) hrow2 nrW nrn nr8) λa3 w' ⟨CV,g',cap',w3,hrow3,hs3,ho3,hg3,e3⟩=>⟨w3.setCell ⟨d.W k,9,none⟩ (.slice (some ⟨g',0,none⟩) (((J.ar (t'-1)).w k).got.length+1) cap'),⟨e3.heap,e3.os,e3.output⟩,?_⟩));simp only[Exit.then];generalize hn:((J.ar (t'-1)).w k).got.length=n at*;replace ho3:∀b,b<w2.heap.size->some b≠sl.ownBlock->w3.heap[b]? =w2.heap[b]? :=ho3;replace hs3:w2.heap.size<=w3.heap.size:=hs3;have J5:d.W k<w2.heap.size:=ae;have hW3:=hW2;rw[←ho3 _ J5 nrW]at hW3;have Zs:=aq (o:=9) hW3 (.slice (some ⟨g',0,none⟩) (n+1) cap');have EZ:∀b,b≠d.W k->(w3.setCell ⟨d.W k,9,none⟩ (.slice (some ⟨g',0,none⟩) (n+1) cap')).heap[b]? =w3.heap[b]? :=λb hb=>ah hb _;have Om:(w3.setCell ⟨d.W k,9,none⟩ (.slice (some ⟨g',0,none⟩) (n+1) cap')).heap.size=w3.heap.size:=gF;generalize w3.setCell ⟨d.W k,9,none⟩ (.slice (some ⟨g',0,none⟩) (n+1) cap')=w4 at*;have ad0:w4.heap[nb]? =some (.cells #[.pointer (some ⟨d.W k,0,none⟩)] 117 (0,1)):=by rw[EZ _ H.ne,ho3 _ ae nrn];exact VR
 refine di (Oi hcs CV (by rw[af ad0];rfl) H.ne (v7:=.int .i64 be) (by rw[af Zs];rfl) (ay Zs 7 ae) (by rw[af Zs];rfl)) ?_;rintro i5 e a5 w5 ⟨rfl,rfl,ZH,Oo⟩;have hW5:w5.heap[d.W k]? =some (.cells (cy k (d.turn k) d.come d.gone false (i5-J.n) 0 E7 (.slice (some ⟨g',0,none⟩) (n+1) cap')) tW (0,5)):=by rw[Oo];have:=aq (o:=7) Zs (.int .i64 0);simpa[cy]using this
 have hs5:w5.heap.size=w3.heap.size:=by subst Oo;simpa[World.setCell]using Om
 have Ag:∀b,b≠d.W k->w5.heap[b]? =w3.heap[b]? :=λb hb=>by subst Oo;rw[ah hb,EZ b hb]
 clear Oo;have hsame:∀b,b<w.heap.size->b≠d.W k->b≠b8->some b≠sl.ownBlock->w5.heap[b]? =w.heap[b]? :=λb h1 h2 h3 h4=>by rw[Ag b h2,ho3 b ae h4,yM b h2 h3]
 have ab3:g'≠d.W k:=by
  rcases hg3 with h|h
  ·exact λe=>nrW (by rw[h,e])
  ·have h:w2.heap.size<=g':=h;omega
 have xV:w5.ownsRow 0 48 9 (.slice (some ⟨g',0,none⟩) (n+1) cap') (n+1) (cs++mS ⟨a,be,i5-J.n,E7⟩ (.slice ia a.ints.length ic) (.slice pa a.pairs.length pc)):=by
  refine⟨hrow3.1,hrow3.2.imp id ?_⟩;rintro⟨x,cap,cur,e1,h3,h4,h5⟩;refine⟨x,cap,cur,e1,h3,?_,h5⟩;obtain rfl:g'=x:=by simp at e1;exact e1.1
  rw[Ag _ ab3];exact h4
 have ab4:∀b,J.L.Foot w b->w5.heap[b]? =w.heap[b]? :=λb hb=>by refine hsame b (R.foot hL hb) (λe=>hWF (e▸hb)) (λe=>hF8 (e▸hb)) λe=>?_;exact(hown.blk b (CU b e.symm).1).2.1 hb
 have mV:=hL.rep s w w5 cT ab4;have ab5:=hL.gsame s w w5 cT ab4;have ZI:∀x,(ia=some x\/pa=some x)->x.block<w.heap.size/\x.block≠d.W k/\x.block≠b8/\some x.block≠sl.ownBlock:=λx hx=>by obtain⟨h1,h2,_,o,h3,_⟩:=Xv x hx;exact⟨(aQ.1 h3).1,ae,h2,λe=>by have:=(hbl _ (CU _ e.symm).1).1;omega⟩
 have Km:∀x,(ia=some x\/pa=some x)->w5.heap[x.block]? =w.heap[x.block]? :=λx hx=>by obtain⟨h1,h2,h3,h4⟩:=ZI x hx;exact hsame _ h1 h2 h3 h4
 have ab6:AnsAt w5 (.slice (some ⟨g',0,none⟩) (n+1) cap') (((J.ar (i5-1)).w k).got++[⟨a,be,i5-J.n,E7⟩]):=by
  subst hn;refine Sk jA hrow hown.far xV (λb hb hne=>hsame b (by have:=(hbl b hb).1;omega) (hbl b hb).2 (by have:=(hbl b hb).1;omega) (λe=>hne e.symm)) ?_ ?_
  ·exact hi.same λx m e h1 y hy=>by have:ia=some x:=(by simp at h1;exact h1.1);exact bP (w:=w) (by rw[hy];exact Km x (.inl this))
  ·exact hp.same λx m e h1 y hy=>by have:pa=some x:=(by simp at h1;exact h1.1);exact bP (w:=w) (by rw[hy];exact Km x (.inr this))
 refine⟨rfl,rfl,ZH,⟨ae,λb o h1 h2 h3 h4 h5=>?_,J.L.gtrans _ _ _ K.go ab5⟩,J.L.gtrans _ _ _ R.go ab5,i5-J.n,E7,.slice (some ⟨g',0,none⟩) (n+1) cap',⟨by rw[f1];exact mV.1,hW5,?_,?_,λb f hf=>?_,?_⟩,by rw[f2],by rw[f2];simp[hn]⟩
 ·obtain⟨h6,h7⟩:=K.same b o h1 h2 h3 h4;have hlt:=(aQ.1 h1).1;exact⟨by rw[hsame b ae h4 ae (λe=>h5 sl (by rw[←K.sl9];exact h9) e.symm)];exact h6,λh=>h7 ((mV.2 b).1 h)⟩
 ·rw[f2];exact ab6
 ·rw[f2];have ab7:(((J.ar (i5-1)).w k).got++[(⟨a,be,i5-J.n,E7⟩:kt)]).length=n+1:=by simp[hn]
  show Sg _ _ _ _ _ (((J.ar (i5-1)).w k).got++[(⟨a,be,i5-J.n,E7⟩:kt)]).length;rw[ab7];obtain⟨ab8,_,UI⟩:∃ab8:Array Value,True/\w5.heap[g']? =some (.cells ab8 48 (0,0)):=by
   rcases xV.2 with⟨e1,_⟩|⟨x,cap,cur,e1,_,h4,_⟩
   ·cases e1
   ·obtain rfl:g'=x:=(by simp at e1;exact e1.1);exact⟨cur,trivial,h4⟩
  have ab9:∃x cap,sl=.slice x n cap:=by obtain⟨x,cap,e,_⟩:=jA;rw[hn]at e;exact⟨x,cap,e⟩
  have Xw:∀i (y:Addr) m e',i<9*(n+1)->w5.cell? ⟨g',i,none⟩=some (.slice (some y) m e')->(∃x,sl.ownBlock=some x/\i<9*n/\w.cell? ⟨x,i,none⟩=some (.slice (some y) m e'))\/ia=some y\/pa=some y:=λi y m e' h1 h2=>by
   subst hn;rcases Od (l:=((J.ar (i5-1)).w k).got) ab9 hrow xV h1 h2 with h|h|h
   ·exact .inl h
   ·exact .inr (.inl (by simp at h;exact h.1))
   ·exact .inr (.inr (by simp at h;exact h.1))
  have hold:∀i x (y:Addr) m e',sl.ownBlock=some x->i<9*n->w.cell? ⟨x,i,none⟩=some (.slice (some y) m e')->bs w sl y.block/\y.block≠x:=λi x y m e' h1 h2 h3=>by
   obtain⟨z,cap,e⟩:=ab9;subst e;cases z with
   |none=>cases h1
   |some z=>
    have hz:z=⟨x,0,none⟩:=by
     rcases hrow.2 with⟨e1,_⟩|⟨x',iV,cur,e1,_⟩
     ·cases e1
     ·simp at e1;obtain⟨rfl,_⟩:=e1;simp[Value.ownBlock]at h1;rw[h1]
    subst hz;exact⟨⟨_,_,_,rfl,.inr ⟨i,y,m,e',h2,h3,rfl⟩⟩,hown.far _ _ _ rfl i y m e' h2 h3⟩
  have ZJ:sl.ownBlock=some g'\/w.heap.size<=g':=hg3.imp id λ(h:w2.heap.size<=g')=>ae;refine⟨λb hb=>?_,⟨_,by rw[hT];exact xV⟩,λx m e h1 i y m' e' hi hy=>?_⟩
  ·obtain⟨x,m,e,h1,h2⟩:=hb;simp at h1;obtain⟨rfl,rfl,rfl⟩:=h1;rcases h2 with rfl|⟨i,y,m,e',h3,h4,rfl⟩
   ·rcases ZJ with h|h
    ·obtain⟨h5,h6,h7,_⟩:=hown.blk _ (CU _ h).1;exact⟨h5,λhc=>h6 ((mV.2 _).1 hc),h7,_,UI,aJ,rfl⟩
    ·refine⟨ab3,λhc=>?_,?_,_,UI,aJ,rfl⟩
     ·have:=R.foot hL ((mV.2 _).1 hc);omega
     ·apply cY;intro hc;have:=H.ro _ hc;omega
   ·rcases Xw i y m e' h3 h4 with⟨x,h5,h6,h7⟩|h5
    ·obtain⟨h8,h9'⟩:=hold i x y m e' h5 h6 h7;obtain⟨q1,q2,q3,q4⟩:=hown.blk _ h8;have:=hbl _ h8;exact⟨q1,λhc=>q2 ((mV.2 _).1 hc),q3,by rw[hsame _ ae q1 ae (λe=>by rw[h5]at e;exact h9' (aP e))];exact q4⟩
    ·obtain⟨q1,q2,q3,q4⟩:=Xv y h5;obtain⟨q5,q6,_,_⟩:=ZI y h5;refine⟨q6,λhc=>q3 ((mV.2 _).1 hc),?_,by rw[Km y h5];exact q4⟩;apply cY;intro hc;have:=H.ro _ hc;omega
  ·simp at h1;obtain⟨rfl,rfl,rfl⟩:=h1;show y.block≠g';rcases Xw i y m' e' hi hy with⟨x,h5,h6,h7⟩|h5
   ·obtain⟨h8,h9'⟩:=hold i x y m' e' h5 h6 h7;rcases ZJ with h|h
    ·rw[h]at h5;rw[aP h5];exact h9'
    ·have:=(hbl _ h8).1;omega
   ·obtain⟨q5,q6,_,q7⟩:=ZI y h5;rcases ZJ with h|h
    ·exact λe=>q7 (by rw[h,e])
    ·omega
 ·have hf':=hf;rw[H.fw]at hf';obtain⟨_,q2,q3⟩:=R.fw b f hf;refine⟨?_,λhc=>q2 ((mV.2 _).1 hc),q3⟩;by_cases e1:b=d.W k
  ·subst e1;rw[if_pos rfl]at hf';obtain rfl:=aP hf';exact⟨_,_,hW5⟩
  ·rw[if_neg e1]at hf';by_cases e2:b=nb
   ·subst e2;rw[if_pos rfl]at hf';obtain rfl:=aP hf';exact⟨_,_,by rw[hsame b ae e1 ae nrn];exact IP⟩
   ·rw[if_neg e2]at hf';cases hf'
 ·rw[f2];exact⟨λb o p h=>by simp at h,λ_=>rfl⟩
end
section
variable{J:eM σ}{k:Nat}{w:World}{p:Pr σ dO}{g:Bool}
def Oq(d:aK)(k:Nat):Prop:=∀pf:Frame,pf.fn=74->pf.kind=.normal->pf.mode=.returning->pf.defers=[]->∀w,Goes prog false (RK d.K0) (DS (d.Sp (k+1)) d.B) (λg w=>g.status=.running/\∃m,d.cc.Wk k 7 m 0 g w) 10 (G pf (d.cw k)) w
theorem nw.Xx(H:Hand J d k nb)(T:Oq d k){x:Frame}(hf:x.fn=74)(hk:x.kind=.normal)(hm:x.mode=.run)(hd:x.defers=[cl 116 #[z]]):nw d k [x]:=by refine⟨10+30,λcK ho w=>?_⟩;rw[H.P];exact D8 rfl ho hf hm hd (λw=>ds_dg (T {x with mode:=.returning,defers:=[]} hf hk rfl rfl w)) w
theorem vd.after(h:dW J d k w0 w1)(g:vd J d k w1 w2):vd J d k w0 w2:=⟨cn h.size g.size,λb o h1 h2 h3 h4 h5=>by obtain⟨h6,h7⟩:=h.same b o h1 h2 h3 h4;exact g.same b o h6 h2 h7 h4 λsl Bj=>h5 sl (by rw[←h.sl9];exact Bj),J.L.gtrans _ _ _ h.go g.go⟩
structure Told(J:eM σ)(d:aK)(tW k nb:Nat)(t:qD)(b7:Nat)(c:bG)(w:World):Prop where
 go:J.L.G t.a w
 turn:J.n<t
 goes:(J.ar (t-1)).goes J.c=true
 pick:(J.ar (t-1)).pick J.c=k
 now:((J.ar (t-1)).w k).now=none
 call:(J.c.calls k)[((J.ar (t-1)).w k).got.length]? =some c
 rep:J.L.Rep (J.ar (t-1)).s w
 box:w.heap[nb]? =some (.cells #[.pointer (some ⟨d.W k,0,none⟩)] 117 (0,1))
 wrk:∃ow sl,w.heap[d.W k]? =some (.cells (cy k (d.turn k) d.come d.gone true (t-J.n) 0 ow sl) tW (0,5))/\Own J d k t sl w
 cv:∃pv,CallV J d k w (.agg #[.int .i64 c.kind,.int .i64 c.a,.int .i64 c.b,.int .i64 c.c,pv]) c/\w.heap[b7]? =some (.cells #[.int .i64 c.kind,.int .i64 c.a,.int .i64 c.b,.int .i64 c.c,pv] 50 (0,0))
 b7:b7≠d.W k/\¬J.L.Foot w b7
theorem Told.mid{c:bG}(h:Told J d tW k nb t b7 c w):CR J k t true (t-J.n) 0 (J.L.call k c) (J.ar (t-1)).s:=by
 refine⟨h.turn,h.goes,h.pick,?_,?_⟩
 ·have:=(eL.1 h.call).1;exact this
 ·unfold AW.seg;rw[h.now];simp only[h.call]
theorem Ot:pcTold=.seq pcTold.l (.seq pcTold.r.l pcDone):=by simp only[pcDone,pcTold,fO,eY,cD,f74,Code.l,Code.r]
theorem Kn(H:Hand J d k nb)(T:Oq d k)(hL:J.L.Ok d.ro)(hm:J.c.most<=20000)(hT:J.tA=48){len q:Nat}{c:bG}{act:Act}
  (hmeth:∀(w:World) (args:Array Value),(callMethod dv "Do" args).runT prog w #[]=(.ok (.enter yR (#[x] ++args)) w,#[]))
  (hDo:∀t w1 v,Run J d tW k t true (t-J.n) (J.L.call k c) w1->CallV J d k w1 v c->CallsM prog false (d.cw k) (JW d (J.bE d.W) k) (λ_ _ _ _=>False) (nw d k) t yR #[x,.pointer (some ⟨d.W k,0,none⟩),v] w1 λt' v w'=>∃g' a,Run J d tW k t' g' (t-J.n) (.ret a) w'/\dW J d k w1 w'/\yz J w1.heap.size w' v a)
  (hgot:∀t,((J.ar t).w k).got.length<100000)(S:Told J d tW k nb t b7 c w)(hA:qc (d.W k) nb dv cv len q (.pointer (some ⟨b7,0,none⟩)) u8 act):
  wpM prog false (d.cw k) (JW d (J.bE d.W) k) (λ_ _ _ _=>False) (λfs=>fs=[]) 74 pcTold (λt' e a' w'=>e=.normal/\J.n<t'/\(∃u7 u8,qc (d.W k) nb dv cv len q u7 u8 a')/\vd J d k w w'/\J.L.G t'.a w'/\
   ∃st ow sl,kD J d tW k t' st 0 ow sl ((J.ar t').w k) (J.ar t').s w'/\((J.ar t').w k).now=none/\((J.ar t').w k).got.length=((J.ar (t-1)).w k).got.length+1) t act w:=by
 have hcs:=H.cw;obtain⟨ow,sl,hW,O⟩:=S.wrk;obtain⟨pv,hcv,h7⟩:=S.cv;have IL:d.fw k (d.W k)=some (0,5):=by rw[H.fw,if_pos rfl]
 have hWF:=(O.fw _ _ IL).2.1;rw[Ot];have hstep:∀o,w.cell? ⟨d.W k,o,none⟩=(cy k (d.turn k) d.come d.gone true (t-J.n) 0 ow sl)[o]? :=λo=>af hW o;refine wpM_seq (wpM_lone kV hcs ax hA.def (IM _ _) (λτ=>kv (Kh (w:=w.tp τ) (st:=((t-J.n:Nat):Int)) hA (by rw[aF,af S.box];rfl) H.ne (v7:=.int .i64 0) (v8:=.int .i64 ow) (by rw[aF,hstep];rfl) (by rw[aF,hstep];rfl) (by rw[aF,hstep];rfl) (ay (w:=w.tp τ) hW 7 ae) (ay (w:=w.tp τ) hW 8 ae)) λa2 w' ⟨qI,e2⟩=>⟨(w.setCell ⟨d.W k,7,none⟩ (.int .i64 ((t-J.n:Nat):Int))).setCell ⟨d.W k,8,none⟩ (.int .i64 0),⟨e2.heap,e2.os,e2.output⟩,?_⟩));simp only[Exit.then];have hW1:=aq (o:=8) (aq (o:=7) hW (.int .i64 ((t-J.n:Nat):Int))) (.int .i64 0);obtain⟨R1,K1⟩:=run_set (t:=t) (be:=t-J.n) (ow:=0) (g:=true) (w':=(w.setCell ⟨d.W k,7,none⟩ (.int .i64 ((t-J.n:Nat):Int))).setCell ⟨d.W k,8,none⟩ (.int .i64 0)) hL S.go S.mid (by have:=S.turn;simp;omega) S.rep hWF O (by rw[hstep];rfl) (by simpa[cy]using hW1) IL gF (λb _ hb=>by rw[ah hb,ah hb]);generalize (w.setCell ⟨d.W k,7,none⟩ (.int .i64 ((t-J.n:Nat):Int))).setCell ⟨d.W k,8,none⟩ (.int .i64 0)=w1 at*;have mE:d.fw k nb=some (0,1):=by rw[H.fw,if_neg H.ne,if_pos rfl]
 have BQ:=(K1.same _ _ S.box aJ (O.fw _ _ mE).2.1 H.ne).1;have Xy:=(K1.same _ _ h7 aJ S.b7.2 S.b7.1).1;have ad1:=hcv.keep K1;cases qI;simp only[pcTold,fO,eY,cD,f74,Code.l,Code.r];refine nQ ?_;have cb:=cO BQ 0;have x0:=af Xy 0;have x1:=af Xy 1;have x2:=af Xy 2;have x3:=af Xy 3;have x4:=af Xy 4;simp only[jh,mP,ma]at x0 x1 x2 x3 x4;iterate 3
  refine yN kV rfl rfl ax (IM _ _) (λτ K hK=>?_);go_simp;refine hK _ _ _ (aN _ _) ?_;clear hK K;walk_nrm
 intro b k' fs h1 h2 h3 hc;subst h3;refine jT (args:=#[.pointer (some ⟨d.W k,0,none⟩),dv,.agg #[.int .i64 c.kind,.int .i64 c.a,.int .i64 c.b,.int .i64 c.c,pv]]) (by rw[h2];simp) rfl rfl rfl func117 rfl rfl cC ?_;refine Sn H hL (tW:=tW) hmeth R1 ad1 (λw' R' _ ad2=>hDo t w' _ R' ad2) _ [] (nw.Xx H T h1 h2 rfl rfl) λt2 v w2 ⟨g',a,R2,K2,hv⟩=>?_;rw[fy];walk_nrm;clear x0 x1 x2 x3 x4;refine fN kV (.inl h2) rfl rfl (by rw[h1];kernel_rfl) (IM _ _) (λτ K hK=>?_);go_simp;refine hK _ _ _ (aN _ _) ?_;clear hK K;walk_nrm;obtain⟨v0,v1,v2,iv,MD,hve,ZA,VN,hown⟩:=hv.ex;subst hve;obtain⟨ia,Ac,Ea,_⟩:=id ZA;obtain⟨pa,p6,hpe,_⟩:=id VN;subst Ea hpe;generalize hw3:w2.alloc _=w3;have hs3:w3.heap.size=w2.heap.size+1:=by subst hw3;simp
 have ho3:∀b,b<w2.heap.size->w3.heap[b]? =w2.heap[b]? :=λb hb=>by subst hw3;simp only[←cG,cF];rw[if_neg ae]
 have Qt:w3.heap[w2.heap.size]? =some (.cells #[.int .i64 0,.int .i64 0,.int .i64 0,.bool false,.int .i64 0,.int .i64 0,.int .i64 0,.slice none 0 0,.slice none 0 0] 48 (0,0)):=by subst hw3;simp only[←cG,cF];rw[if_pos trivial]
 clear hw3;have hz:∀o,w3.frozen? ⟨w2.heap.size,o,none⟩=false:=λo=>ay Qt o (bj _);have e0:=af Qt 0;have e1:=af Qt 1;have e2:=af Qt 2;have e3:=af Qt 3;have e4:=af Qt 4;have e5:=af Qt 5;have e6:=af Qt 6;have e7:=af Qt 7;have e8:=af Qt 8;simp only[jh,mP,ma]at e0 e1 e2 e3 e4 e5 e6 e7 e8;refine fN kV (.inl h2) rfl rfl (by rw[h1];kernel_rfl) (IM _ _) (λτ K hK=>?_);go_simp;refine hK _ _ _ (aN _ _) ?_;clear hK K;walk_nrm;generalize hw4:(((((((((w3.setCell ⟨w2.heap.size,0,none⟩ (.int .i64 v0)).setCell ⟨w2.heap.size,1,none⟩ (.int .i64 v1)).setCell ⟨w2.heap.size,2,none⟩ (.int .i64 v2)).setCell ⟨w2.heap.size,3,none⟩ (.bool a.ok)).setCell ⟨w2.heap.size,4,none⟩ (.int .i64 a.n)).setCell ⟨w2.heap.size,5,none⟩ (.int .i64 a.m)).setCell ⟨w2.heap.size,6,none⟩ (.int .i64 a.err)).setCell ⟨w2.heap.size,7,none⟩ (.slice ia a.ints.length Ac)).setCell ⟨w2.heap.size,8,none⟩ (.slice pa a.pairs.length p6))=w4;have h84:w4.heap[w2.heap.size]? =some (.cells #[.int .i64 v0,.int .i64 v1,.int .i64 v2,.bool a.ok,.int .i64 a.n,.int .i64 a.m,.int .i64 a.err,.slice ia a.ints.length Ac,.slice pa a.pairs.length p6] 48 (0,0)):=by have:=(aq (o:=8) (aq (o:=7) (aq (o:=6) (aq (o:=5) (aq (o:=4) (aq (o:=3) (aq (o:=2) (aq (o:=1) (aq (o:=0) Qt (.int .i64 v0)) (.int .i64 v1)) (.int .i64 v2)) (.bool a.ok)) (.int .i64 a.n)) (.int .i64 a.m)) (.int .i64 a.err)) (.slice ia a.ints.length Ac)) (.slice pa a.pairs.length p6));rw[hw4]at this;simpa using this
 have Om:w4.heap.size=w2.heap.size+1:=by subst hw4;simp[World.setCell,hs3]
 have EZ:∀b,b<w2.heap.size->w4.heap[b]? =w2.heap[b]? :=λb hb=>by subst hw4;simp only[ah (show b≠w2.heap.size by omega),ho3 b hb]
 clear hw4 e0 e1 e2 e3 e4 e5 e6 e7 e8 hz Qt hs3 ho3;obtain⟨R4,K4,F4⟩:=yQ hL R1 R2 K2 (w':=w4) ae (λb hb hne=>absurd (EZ b hb) hne);have hv4:=hv.same (w':=w4) (λb hb _=>EZ b hb) F4;have hsz:=K2.size;refine .pure (λ_=>stepG_region_end) (hc t2 .normal _ _ ?_);show wpM _ _ _ _ _ _ _ _ _ _ _ _;obtain⟨y0,y1,y2,iv,MD,hve,hi4,IQ,MG⟩:=hv4.ex;simp at hve;obtain⟨_,_,_,rfl,rfl⟩:=hve;refine di (Ol H hL hm hT R1 R4 K4 BQ h84 hsz (λhc=>?_) hi4 IQ (λy hy=>?_) (hgot _) (qc.mk ..)) ?_
 ·have:=R2.foot hL ((F4 _).1 hc);omega
 ·rcases hy with rfl|rfl
  ·obtain⟨q1,q2,o,q3,q4⟩:=MG y _ _ (.inl rfl);obtain⟨_,_,o',q5,_⟩:=hown y _ _ (.inl rfl);have:=(aQ.1 q5).1;exact⟨q1,ae,q2,o,q3,q4⟩
  ·obtain⟨q1,q2,o,q3,q4⟩:=MG y _ _ (.inr rfl);obtain⟨_,_,o',q5,_⟩:=hown y _ _ (.inr rfl);have:=(aQ.1 q5).1;exact⟨q1,ae,q2,o,q3,q4⟩
 ·rintro i' e a' w' ⟨rfl,rfl,hA',LK,zI,st,E7,sl',AR,f1,f2⟩;obtain⟨s4,ow4,Qs,Xz,_⟩:=R4.ex;refine⟨rfl,Xz.turn,⟨_,_,hA'⟩,.after K1 LK,zI,st,E7,sl',AR,f1,?_⟩;rw[f2];obtain⟨sla,a1,⟨b1,d1,f1',_⟩,_⟩:=R1.DT;obtain⟨slb,a2,⟨b2,d2,f2',_⟩,_⟩:=R4.DT;have e:slb=sla:=by rw[K4.sl9,a1]at a2;exact(aP a2).symm
  rw[f1',f2']at e;simp at e;rw[e.2.1]
end
section
variable{J:eM σ}{k:Nat}{w:World}{p:Pr σ dO}{g:Bool}
theorem vd.of(h:dW J d k w w'):vd J d k w w':=⟨h.size,λb o h1 h2 h3 h4 _=>h.same b o h1 h2 h3 h4,h.go⟩
structure Ah(J:eM σ)(d:aK)(k:Nat)(w:World)(cv:Value):Prop where
 ex:∃cb co cap,(cv=.slice (some ⟨cb,co,none⟩) (J.c.calls k).length cap\/(cv=.slice none 0 0/\J.c.calls k=[]))/\(J.c.calls k≠[]->cb≠d.W k/\¬J.L.Foot w cb/\d.ro cb≠none/\∃o,w.heap[cb]? =some o/\o≠cI)/\
  ∀i c,(J.c.calls k)[i]? =some c->∃pv,w.cell? ⟨cb,co+i*5,none⟩=some (.int .i64 c.kind)/\w.cell? ⟨cb,co+i*5+1,none⟩=some (.int .i64 c.a)/\w.cell? ⟨cb,co+i*5+2,none⟩=some (.int .i64 c.b)/\w.cell? ⟨cb,co+i*5+3,none⟩=some (.int .i64 c.c)/\w.cell? ⟨cb,co+i*5+4,none⟩=some pv/\
   CallV J d k w (.agg #[.int .i64 c.kind,.int .i64 c.a,.int .i64 c.b,.int .i64 c.c,pv]) c/\∀y n e,pv=.slice (some y) n e->d.ro y.block≠none
theorem Ah.keep(h:Ah J d k w cv)(K:vd J d k w w')(hrow:∀sl b,w.cell? ⟨d.W k,9,none⟩=some sl->sl.ownBlock=some b->d.ro b=none):Ah J d k w' cv:=by
 obtain⟨cb,co,cap,h1,h2,h3⟩:=h.ex;have far:∀b,d.ro b≠none->∀sl,w.cell? ⟨d.W k,9,none⟩=some sl->sl.ownBlock≠some b:=λb hb sl Bj e=>hb (hrow sl b Bj e);refine⟨cb,co,cap,h1,λhne=>?_,λi c hc=>?_⟩
 ·obtain⟨a1,a2,a3,o,a4,a5⟩:=h2 hne;obtain⟨b1,b2⟩:=K.same cb o a4 a5 a2 a1 (far cb a3);exact⟨a1,b2,a3,o,b1,a5⟩
 ·obtain⟨pv,c0,c1,c2,c3,c4,hv,hro⟩:=h3 i c hc;obtain⟨a1,a2,a3,o,a4,a5⟩:=h2 (λe=>by rw[e]at hc;simp at hc);obtain⟨b1,b2⟩:=K.same cb o a4 a5 a2 a1 (far cb a3);have hcell:∀j,w'.cell? ⟨cb,j,none⟩=w.cell? ⟨cb,j,none⟩:=λj=>bP (w:=w) (a:=⟨cb,j,none⟩) (by show w'.heap[cb]? =w.heap[cb]?;rw[b1,a4]);refine⟨pv,by rw[hcell];exact c0,by rw[hcell];exact c1,by rw[hcell];exact c2,by rw[hcell];exact c3,by rw[hcell];exact c4,?_,hro⟩;obtain⟨MD,e,h4,h5⟩:=hv.ex;simp at e;subst e;refine⟨pv,rfl,h4.same λx n e h6 y hy=>?_,λx n e h6=>?_⟩
  ·obtain⟨q1,q2,o',q3,q4⟩:=h5 x n e h6;obtain⟨q5,q6⟩:=K.same _ _ q3 q4 q2 q1 (far _ (hro x n e h6));exact bP (w:=w) (by rw[hy,q5,q3])
  ·obtain⟨q1,q2,o',q3,q4⟩:=h5 x n e h6;obtain⟨q5,q6⟩:=K.same _ _ q3 q4 q2 q1 (far _ (hro x n e h6));exact⟨q1,q6,o',q5,q4⟩
structure LoopAt(J:eM σ)(d:aK)(tW k nb q:Nat)(t:qD)(cv:Value)(w:World):Prop where
 go:J.L.G t.a w
 rest:∃st ow sl,kD J d tW k t st 0 ow sl ((J.ar t).w k) (J.ar t).s w
 now:((J.ar t).w k).now=none
 got:((J.ar t).w k).got.length=q
 lt:k<t
 box:w.heap[nb]? =some (.cells #[.pointer (some ⟨d.W k,0,none⟩)] 117 (0,1))
 calls:Ah J d k w cv
theorem LoopAt.row{q:Nat}(h:LoopAt J d tW k nb q t cv w):∀sl b,w.cell? ⟨d.W k,9,none⟩=some sl->sl.ownBlock=some b->d.ro b=none:=λsl b h1 h2=>by
 obtain⟨st,ow,sl',A⟩:=h.rest;have e:sl'=sl:=by rw[af A.wrk]at h1;simpa[cy]using h1
 subst e;obtain⟨cs,_,h3⟩:=A.own.row;rcases h3 with⟨e,_⟩|⟨g,cap,cur,e,_⟩
 ·rw[e]at h2;cases h2
 ·rw[e]at h2;obtain rfl:g=b:=by simpa[Value.ownBlock]using h2
  exact(A.own.blk g ⟨_,_,_,e,.inl rfl⟩).2.2.1
theorem Gw{t:Nat}{sl:Value}{c:Array Value}(hL:J.L.Ok d.ro)(cT:J.L.Rep s w)(O:Own J d k t sl w)(hfw:d.fw k (d.W k)=some (0,5))(h9:w.cell? ⟨d.W k,9,none⟩=some sl)(h9':c[9]? =some sl)(hW:w'.heap[d.W k]? =some (.cells c tW (0,5)))(hsz:w.heap.size<=w'.heap.size)(ho:∀b,b<w.heap.size->b≠d.W k->w'.heap[b]? =w.heap[b]?):Own J d k t sl w'/\J.L.Rep s w'/\dW J d k w w':=by
 have hF:=(O.fw _ _ hfw).2.1;have hlt:∀b,J.L.Foot w b->b<w.heap.size:=λb hb=>by obtain⟨⟨c,e,hc⟩,_⟩:=hL.foot s w b cT hb;exact(aQ.1 hc).1
 obtain⟨zY,dK⟩:=hL.rep s w w' cT λb hb=>ho b (hlt b hb) λe=>hF (e▸hb);have hblk:∀b,bs w sl b->w'.heap[b]? =w.heap[b]? :=λb hb=>by obtain⟨h1,_,_,o,h2,_⟩:=O.own.blk b hb;exact ho b (aQ.1 h2).1 h1
 have hs:∀b,bs w' sl b↔bs w sl b:=sblocks_same λx n e h1 o=>bP (w:=w) (hblk x.block ⟨x,n,e,h1,.inl rfl⟩);refine⟨⟨eX (λx hx=>bP (w:=w) (hblk _ hx)) O.ans,⟨λb hb=>?_,qN O.own.row hblk,qM O.own.far hblk⟩,λb f hf=>?_⟩,zY,⟨hsz,λb o h1 h2 h3 h4=>⟨by rw[ho b (aQ.1 h1).1 h4];exact h1,λh=>h3 ((dK b).1 h)⟩,by rw[af hW,h9,h9'],hL.gsame s w w' cT λb hb=>ho b (hlt b hb) λe=>hF (e▸hb)⟩⟩
 ·have hb:=(hs b).1 hb;obtain⟨h1,h2,h3,h4⟩:=O.own.blk b hb;exact⟨h1,λh=>h2 ((dK b).1 h),h3,by rw[hblk b hb];exact h4⟩
 ·obtain⟨⟨c,e,hc⟩,h2,h3⟩:=O.fw b f hf;refine⟨?_,λh=>h2 ((dK b).1 h),h3⟩;by_cases e1:b=d.W k
  ·subst e1;rw[hfw]at hf;obtain rfl:=aP hf;exact⟨_,_,hW⟩
  ·exact⟨c,e,by rw[ho b (aQ.1 hc).1 e1];exact hc⟩
theorem Ou:fO=.seq fO.l (.seq fO.r.l (.seq fO.r.r.l pcTold)):=by simp only[pcDone,pcTold,fO,eY,cD,f74,Code.l,Code.r]
theorem Gx(H:Hand J d k nb)(T:Oq d k)(hL:J.L.Ok d.ro)(hm:J.c.most<=20000)(hT:J.tA=48){len q:Nat}{act:Act}
  (hmeth:∀(w:World) (args:Array Value),(callMethod dv "Do" args).runT prog w #[]=(.ok (.enter yR (#[x] ++args)) w,#[]))
  (hDo:∀c t w1 v,c∈J.c.calls k->Run J d tW k t true (t-J.n) (J.L.call k c) w1->CallV J d k w1 v c->CallsM prog false (d.cw k) (JW d (J.bE d.W) k) (λ_ _ _ _=>False) (nw d k) t yR #[x,.pointer (some ⟨d.W k,0,none⟩),v] w1 λt' v w'=>∃g' a,Run J d tW k t' g' (t-J.n) (.ret a) w'/\dW J d k w1 w'/\yz J w1.heap.size w' v a)
  (hgot:∀t,((J.ar t).w k).got.length<100000)(hlen:len=(J.c.calls k).length)(hq:q<len)(Ai:len<100000)(S:LoopAt J d tW k nb q t cv w)(hA:qc (d.W k) nb dv cv len q u7 u8 act):
  wpM prog false (d.cw k) (JW d (J.bE d.W) k) (λ_ _ _ _=>False) (λfs=>fs=[]) 74 fO (λt' e a' w'=>e=.normal/\(∃u7 u8,qc (d.W k) nb dv cv len q u7 u8 a')/\LoopAt J d tW k nb (q+1) t' cv w') t act w:=by
 have hcs:=H.cw;obtain⟨st,ow,sl,AR⟩:=S.rest;obtain⟨cb,co,cap,hcv,hblk,hcell⟩:=S.calls.ex;obtain⟨c,hc⟩:∃c,(J.c.calls k)[q]? =some c:=⟨_,eA ae⟩;have ad3:J.c.calls k≠[]:=λe=>by rw[e]at hc;simp at hc
 have hcm:c∈J.c.calls k:=mX hc;obtain⟨pv,x0,x1,x2,x3,x4,UJ,hro⟩:=hcell q c hc;rw[←hlen]at hcv;have hcv:cv=.slice (some ⟨cb,co,none⟩) len cap:=by
  rcases hcv with h|h
  ·exact h
  ·exact absurd h.2 ad3
 have cb0:=cO S.box 0;obtain⟨pv0,XA,⟨pa,p6,hpe,hpc⟩,_⟩:=id UJ.ex;simp at XA;subst XA;subst hpe;rw[Ou];cases hA;simp only[fO,eY,cD,f74,Code.l,Code.r];rw[hcv];refine wpM_seq (wpM_lone kV hcs ax (BM _) (IM _ _) (λτ=>?_));go_wp2;refine qK ?_;generalize fE:w.alloc _=w1;have hs1:w1.heap.size=w.heap.size+1:=by subst fE;simp
 have ho1:∀b,b<w.heap.size->w1.heap[b]? =w.heap[b]? :=λb hb=>by subst fE;simp only[←cG,cF];rw[if_neg ae]
 have Xy:w1.heap[w.heap.size]? =some (.cells #[.int .i64 c.kind,.int .i64 c.a,.int .i64 c.b,.int .i64 c.c,.slice pa c.pairs.length p6] 50 (0,0)):=by subst fE;simp only[←cG,cF];rw[if_pos trivial]
 clear fE;have IL:d.fw k (d.W k)=some (0,5):=by rw[H.fw,if_pos rfl]
 have mE:d.fw k nb=some (0,1):=by rw[H.fw,if_neg H.ne,if_pos rfl]
 obtain⟨gQ,uk⟩:=hL.rep _ w w1 AR.rep λb hb=>by obtain⟨⟨c,e,hc⟩,_⟩:=hL.foot _ w b AR.rep hb;exact ho1 b (aQ.1 hc).1
 obtain⟨A1,K1⟩:=AR.later hL IL gQ (hL.gsame _ w w1 AR.rep λb hb=>by obtain⟨⟨c,e,hc⟩,_⟩:=hL.foot _ w b AR.rep hb;exact ho1 b (aQ.1 hc).1) ae λb o h1 h2 h3=>⟨by rw[ho1 b (aQ.1 h1).1];exact h1,λh=>h3 ((uk b).1 h)⟩;have BQ:=(K1.same _ _ S.box aJ (AR.fw _ _ mE).2.1 H.ne).1;have hF7:¬J.L.Foot w1 w.heap.size:=λh=>by obtain⟨⟨c,e,hc⟩,_⟩:=hL.foot _ w _ AR.rep ((uk _).1 h);have:=(aQ.1 hc).1;omega
 have J5:=(aQ.1 AR.wrk).1;have ad4:=UJ.keep K1;have hCV:=S.calls;have oD:=S.row;have Ss:=S.got;have hnow:=S.now;have hlt:=S.lt;clear x0 x1 x2 x3 x4 cb0 hcell hblk;have cb1:=cO BQ 0;have d3:=cO A1.wrk 3;have d0:=cO A1.wrk 0;have d4:=cO A1.wrk 4;obtain⟨gD,a1,a2,a3⟩:=uU (d.W k) d.come d.gone k;obtain⟨bo,e1,e2,qp,w3m,w3d,w3f,w3⟩:=zW (d.W k) (d.turn k) d.gone;obtain⟨sp2,sp4,sp0⟩:=H.sp;have hkw:=λw h=>H.abZ (w:=w) h;intro b k' fs h1 h2 h3 hc';subst h3;refine .pure (λ_=>stepG_seq) (.pure (λ_=>stepG_region) ?_);refine rg ?_;refine fN kV (.inl h2) rfl rfl (by rw[h1];kernel_rfl) (IM _ _) (λτ K hK=>?_);go_simp;refine hK _ _ _ (aN _ _) ?_;clear hK K;walk_nrm;refine jT (args:=#[.pointer (some ⟨d.W k,0,none⟩)]) (by rw[h2];simp) rfl rfl rfl func82 rfl rfl cC ?_;refine a1 hcs d3 d0 d4 ?_;clear a1;suffices hk:∃sW:Frame,(∀w,Goes prog false (RK d.K0) (DS (d.Sp (k+1)) d.B) (λg _=>∃g₂,AtIn prog false d.K0 (d.Sp (k+1)) d.B (d.seat k (.int .i64 0) (.agg #[]) (bh bo ([sW] ++d.cw k))) g g₂) 40 (G (gD.finish (.tuple #[.int .i64 0,.bool false,.agg #[]])) ([_] ++d.cw k)) w)/\
   (∃n',∀w,Goes prog false (RK d.K0) (DG (d.Sp (k+1)) d.B) (λg w=>g.status=.running/\∃m,d.cc.Wk k 7 m 0 g w) n' (G (bo.finish (.tuple #[.int .i64 1,.bool false,.int .i64 0,.agg #[]])) ([sW] ++d.cw k)) w)/\
   (∀(t':qD) a',J.n<t'->t.t<t'.t->t'.a=a'->(J.ar (t'-1)).goes J.c=true->(J.ar (t'-1)).pick J.c=k->(J.ar (t'-1)).w k=(J.ar t).w k->kD J d tW k t st 0 ow sl ((J.ar t).w k) (J.ar (t'-1)).s a'->dW J d k w1 a'->
    ZigC prog false (d.cw k) (JW d (J.bE d.W) k) (λ_ _ _ _=>False) t' (bo.finish (.tuple #[.int .i64 0,.bool true,.int .i64 ((t'-J.n:Nat):Int),.agg #[]])) [sW] a')by
  obtain⟨sW,q1,q2,q3⟩:=hk;exact CS H hL (bo:=bo) (cj:=[sW]) (st:=st) (be:=0) (ow:=ow) (sl:=sl) (J.L.gtrans _ _ _ S.go K1.go) A1 ⟨hlt,by rw[Ss];show q< (J.c.calls k).length;omega⟩ (n:=40) (λcs w=>a2 w) q1 q2 q3
 apply Exists.intro;refine⟨?_,?_,?_⟩
 ·intro w;refine a3 (n:=30) (λw=>?_);rw[fy];walk_nrm;k_c stepG_region_end
  k_c stepG_seq
  k_reg
  (k_in;refine goes_oper_k rfl rfl (by rw[h2];decide) (λK hK=>?_);have hc:=(hkw _ h₁).2.2;go_simp;refine hK _ _ ⟨⟨rfl,λe he=>by(have hm:=mem_listed he;simp[go_sem, *]at hm;subst hm;exact evC_read _ sp0 H.B.2)⟩,?_⟩;clear hK K hc)
  refine goes_le (n:=20) ae ?_;simp only[aK.seat,jc,kR];exact e1 rfl rfl (by rw[h2];decide) rfl cC (λw h=>⟨(hkw w h).1,(hkw w h).2.1⟩) sp2 sp4 H.B.1 _
 ·exact zZ H.P w3m w3d w3f (λn h w=>w3 h) (fs:=[]) (nw.Xx H T h1 h2 rfl rfl)
 ·intro t' a' hn ht hta hgo uV mO A' K';have qa:=A'.wrk;have g5:a'.cell? ⟨d.W k,5,none⟩=some (.bool false):=by rw[af qa];rfl
  have g6:a'.cell? ⟨d.W k,6,none⟩=some (.int .i64 (st:Int)):=by rw[af qa];rfl
  refine e2 hcs g5 (ay qa 5 (aY _)) g6 (ay qa 6 ae) ?_;rw[fy];walk_nrm;refine .pure (λ_=>stepG_region_end) ?_;have hW1:=aq (o:=5) (aq (o:=6) qa (.int .i64 ((t'-J.n:Nat):Int))) (.bool true);obtain⟨O2,qQ,K2⟩:=Gw (t:=t') (w:=a') (w':=(a'.setCell ⟨d.W k,6,none⟩ (.int .i64 ((t'-J.n:Nat):Int))).setCell ⟨d.W k,5,none⟩ (.bool true)) (c:=cy k (d.turn k) d.come d.gone true (t'-J.n) 0 ow sl) hL A'.rep ⟨by rw[mO];exact A'.ans,by rw[mO];exact A'.own,A'.fw⟩ IL (by rw[af qa];rfl) rfl (by simpa[cy]using hW1) gF (λb _ hb=>by rw[ah hb,ah hb]);replace hW1:((a'.setCell ⟨d.W k,6,none⟩ (.int .i64 ((t'-J.n:Nat):Int))).setCell ⟨d.W k,5,none⟩ (.bool true)).heap[d.W k]? =some (.cells (cy k (d.turn k) d.come d.gone true (t'-J.n) 0 ow sl) tW (0,5)):=by simpa[cy]using hW1
  generalize (a'.setCell ⟨d.W k,6,none⟩ (.int .i64 ((t'-J.n:Nat):Int))).setCell ⟨d.W k,5,none⟩ (.bool true)=w2 at*;have Ko:=K'.trans K2;have hS:Told J d tW k nb t' w.heap.size c w2:=⟨by rw[hta];exact K2.go,hn,hgo,uV,by rw[mO];exact hnow,by rw[mO,Ss];exact hc,qQ,(Ko.same _ _ BQ aJ (A1.fw _ _ mE).2.1 H.ne).1,⟨ow,sl,hW1,O2⟩,⟨_,ad4.keep Ko,(Ko.same _ _ Xy aJ hF7 ae).1⟩,ae,(Ko.same _ _ Xy aJ hF7 ae).2⟩;refine Kn H T hL hm hT hmeth (λt w1 v R C=>hDo c t w1 v hcm R C) hgot hS (qc.mk ..) _ k' [] h1 h2 rfl λi' e a' w' ⟨he,BD,hIs,LK,zI,CG,E7,sl',AR',f1,f2⟩=>?_;have LK0:vd J d k w w':=.after K1 (.after Ko LK);refine hc' i' e a' w' ⟨he,hIs,zI,⟨CG,E7,sl',AR'⟩,f1,by rw[f2,mO,Ss],by have:=H.n;omega,(LK0.same _ _ S.box aJ (AR.fw _ _ mE).2.1 H.ne λsl' Bj e=>?_).1,by rw[←hlen];first|exact hCV.keep LK0 oD|(rw[hcv]at hCV;exact hCV.keep LK0 oD)⟩;have e0:sl=sl':=by rw[af AR.wrk]at Bj;simpa[cy]using Bj
  subst e0;obtain⟨cs,_,h3⟩:=AR.own.row;rcases h3 with⟨e',_⟩|⟨x,cap,cur,e',_,h4,_⟩
  ·rw[e']at e;cases e
  ·rw[e']at e;obtain rfl:x=nb:=(by simpa[Value.ownBlock]using e);rw[S.box]at h4;simp at h4
end
theorem Ov{P:Program}{todo:List Item}{c:Frame}{cs:List Frame}{K0:World->Prop}{n:Nat}(hn:b.kind=.deferred)(hd:a.defers=[])(hf:P.funcs[b.fn]? =some fn)(hr:fn.results=#[])(hc:c.mode=.returning)
  (h:∀w,Goes P false (RK K0) (DS S B) Q n (G c cs) w){w:World}:Goes P false (RK K0) (DS S B) Q (n+1) (G {b.at a todo with mode:=.returning} (c::cs)) w:=by
 refine bg rfl (λw₁ _=>?_);have e:=Ab (P:=P) (main:=false) (b:=b) (a:=a) (todo:=todo) (c:=c) (cs:=cs) (w:=w₁) hn hd hf (results_none hr _ _ _) (events_results_none hr _ _) hc;rw[show stepG P false (G {b.at a todo with mode:=.returning} (c::cs)) w₁=_ from e];simp only[goes_go];exact⟨ds_none _,h _⟩
section
variable{J:eM σ}{k:Nat}{w:World}{p:Pr σ dO}{g:Bool}
theorem Gy(H:Hand J d k nb)(T:Oq d k)(hL:J.L.Ok d.ro){len q:Nat}{todo:List Item}(hbf:b.fn=74)(FL:b.kind=.normal)(hq:J.len k<=q)(S:LoopAt J d tW k nb q t cv w)(hA:qc (d.W k) nb dv cv len q u7 u8 a):
  ZigC prog false (d.cw k) (JW d (J.bE d.W) k) (λ_ _ _ _=>False) t {b.at a todo with mode:=.returning} [] w:=by
 have hcs:=H.cw;obtain⟨st,ow,sl,AR⟩:=S.rest;have IL:d.fw k (d.W k)=some (0,5):=by rw[H.fw,if_pos rfl]
 have mE:d.fw k nb=some (0,1):=by rw[H.fw,if_neg H.ne,if_pos rfl]
 cases hA;refine uX (ds:=[]) rfl rfl func116 rfl rfl ?_;generalize hpf:({({b.at _ todo with mode:=.returning}:Frame)with defers:=[]}:Frame)=pf;obtain⟨p1,p2,p3,p4⟩:pf.fn=74/\pf.kind=.normal/\pf.mode=.returning/\pf.defers=[]:=by subst hpf;exact⟨hbf,FL,rfl,rfl⟩
 clear hpf;simp only[f116];walk_nrm;refine .pure (λ_=>stepG_seq) (.pure (λ_=>stepG_seq) (.pure (λ_=>stepG_region) ?_));refine rg ?_;refine sP rfl rfl rfl rfl p3 ?_;walk_nrm;refine fN (fG _) (.inr rfl) rfl rfl ax (D7 _ _) (λτ K hK=>?_);go_simp;rw[Sm];go_simp;refine hK _ _ _ (aN _ _) ?_;clear hK K;walk_nrm;iterate 6
  refine Ob ?_
 refine .pure (λ_=>stepG_region_end) ?_;generalize fE:w.alloc _=w1;have hs1:w1.heap.size=w.heap.size+1:=by subst fE;simp
 have ho1:∀b,b<w.heap.size->w1.heap[b]? =w.heap[b]? :=λb hb=>by subst fE;simp only[←cG,cF];rw[if_neg ae]
 clear fE;obtain⟨gQ,uk⟩:=hL.rep _ w w1 AR.rep λb hb=>by obtain⟨⟨c,e,hc⟩,_⟩:=hL.foot _ w b AR.rep hb;exact ho1 b (aQ.1 hc).1
 obtain⟨A1,K1⟩:=AR.later hL IL gQ (hL.gsame _ w w1 AR.rep λb hb=>by obtain⟨⟨c,e,hc⟩,_⟩:=hL.foot _ w b AR.rep hb;exact ho1 b (aQ.1 hc).1) ae λb o h1 h2 h3=>⟨by rw[ho1 b (aQ.1 h1).1];exact h1,λh=>h3 ((uk b).1 h)⟩;have BQ:=(K1.same _ _ S.box aJ (AR.fw _ _ mE).2.1 H.ne).1;have cb1:=cO BQ 0;have c10:=cO A1.wrk 10;have z10:=ay A1.wrk 10 ae;refine .pure (λ_=>stepG_seq) (.pure (λ_=>stepG_region) ?_);refine rg ?_;refine Ob ?_;refine .pure (λ_=>stepG_region_end) ?_;refine .pure (λ_=>stepG_cond (t:=false) rfl) ?_;refine .pure (λ_=>stepG_skip) ?_;refine .pure (λ_=>stepG_seq) (.pure (λ_=>stepG_region) ?_);refine rg ?_;iterate 4
  refine Ob ?_
 refine .pure (λ_=>stepG_region_end) ?_;have hW2:=aq (o:=10) A1.wrk (.bool true);obtain⟨O2,qQ,K2⟩:=Gw (t:=t+1) (w:=w1) (w':=w1.setCell ⟨d.W k,10,none⟩ (.bool true)) hL A1.rep ⟨A1.ans,A1.own,A1.fw⟩ IL (by rw[af A1.wrk];rfl) (by simp[cy]) hW2 gF (λb _ hb=>by rw[ah hb]);generalize w1.setCell ⟨d.W k,10,none⟩ (.bool true)=w2 at*;have VR:=(K2.same _ _ BQ aJ (A1.fw _ _ mE).2.1 H.ne).1;have cb2:=cO VR 0;have d3:w2.cell? ⟨d.W k,3,none⟩=some (.chan (some d.come)):=by rw[af hW2];simp[cy]
 have d0:w2.cell? ⟨d.W k,0,none⟩=some (.int .i64 k):=by rw[af hW2];simp[cy]
 have d4:w2.cell? ⟨d.W k,4,none⟩=some (.chan (some d.gone)):=by rw[af hW2];simp[cy]
 clear cb1 c10 z10;refine .pure (λ_=>stepG_seq) (.pure (λ_=>stepG_seq) (.pure (λ_=>stepG_seq) (.pure (λ_=>stepG_region) ?_)));iterate 2
  refine rg ?_;refine Ob ?_;refine Ob ?_;refine Ob ?_;refine Ob ?_;refine .pure (λ_=>stepG_region_end) (.pure (λ_=>stepG_region) ?_)
 refine rg ?_;iterate 4
  refine Ob ?_
 refine .pure (λ_=>stepG_region_end) (.pure (λ_=>stepG_seq) (.pure (λ_=>stepG_region) ?_));refine rg ?_;have hnow:=S.now;have hgot:=S.got;have hP:=H.P;refine .jump (K:=λ_ _ _ _=>False) ⟨Oc (J.L.gtrans _ _ _ S.go (J.L.gtrans _ _ _ K1.go K2.go)) (be:=0) (ow:=ow) (sl:=sl) qQ hW2 O2 IL (by simp[cy]) (by simp[cy]) (by simp[cy]) ?_ ⟨λb o p h=>(by rw[hnow]at h;cases h),λ_=>rfl⟩,.inr ⟨λh=>?_,?_,rfl⟩⟩ λ_ _ _ _ h=>h.elim
 ·have:decide (k<t/\J.len k<=((J.ar t).w k).got.length)=true:=by simp[S.lt,hgot,hq]
  rw[this];simp[cy]
 ·have h:k<t/\((J.ar t).w k).got.length<J.len k:=h;omega
 ·refine Sa H.ok (num:=.int .i64 k) (z0:=.int .i64 0) (z2:=.agg #[]) (n:=40) (λcs w=>?_) λw=>?_
  ·rw[hP];refine(stepG_comm rfl rfl az (w':=w) (cases:=#[scase d.come (.int .i64 k) (.int .i64 0),rcase d.gone (.agg #[])]) (blocking:=true) (shape:=.select) (by simp[go_sem,execOp,rcase,scase,Act.eval])).trans ?_;rw[listed_none (by simp[go_sem,execOp,Act.eval])];rfl
  ·rw[hP,fy];walk_nrm
   (k_in;refine goes_oper_k rfl rfl az (λK hK=>?_);go_simp;refine hK _ _ ⟨⟨rfl,rZ⟩,?_⟩;clear hK K)
   (k_in;refine goes_oper_k rfl rfl az (λK hK=>?_);go_simp;refine hK _ _ ⟨⟨rfl,rZ⟩,?_⟩;clear hK K)
   (k_in;refine goes_oper_k rfl rfl az (λK hK=>?_);go_simp;refine hK _ _ ⟨⟨rfl,rZ⟩,?_⟩;clear hK K)
   k_c stepG_region_end
   k_c stepG_block
   (k_in;rw[stepG_cond (t:=true) rfl];simp only[goes_go,if_true];refine⟨ds_none _,?_⟩)
   k_c stepG_skip
   k_c stepG_inBlock
   k_c stepG_end
   refine goes_le (n:=11) ae ?_;exact Ov rfl rfl func116 rfl p3 (T pf p1 p2 p3 p4)
end
section
variable{J:eM σ}{k:Nat}{w:World}{p:Pr σ dO}{g:Bool}
theorem Ow:eY=.seq eY.l (.seq (.cond (.tmp 13) .skip (.exit 0)) (.seq (.block 1 fO) eY.r.r.r)):=by simp only[fO,eY,cD,f74,Code.l,Code.r]
theorem Eh:cD=.seq cD.l (.seq cD.r.l (.block 0 (.loop eY))):=by simp only[fO,eY,cD,f74,Code.l,Code.r]
theorem Ox(H:Hand J d k nb)(T:Oq d k)(hL:J.L.Ok d.ro)(hm:J.c.most<=20000)(hT:J.tA=48)
  (hmeth:∀(w:World) (args:Array Value),(callMethod dv "Do" args).runT prog w #[]=(.ok (.enter yR (#[x] ++args)) w,#[]))
  (hDo:∀c t w1 v,c∈J.c.calls k->Run J d tW k t true (t-J.n) (J.L.call k c) w1->CallV J d k w1 v c->CallsM prog false (d.cw k) (JW d (J.bE d.W) k) (λ_ _ _ _=>False) (nw d k) t yR #[x,.pointer (some ⟨d.W k,0,none⟩),v] w1 λt' v w'=>∃g' a,Run J d tW k t' g' (t-J.n) (.ret a) w'/\dW J d k w1 w'/\yz J w1.heap.size w' v a)
  (hgot:∀t,((J.ar t).w k).got.length<100000)(Ai:J.len k<100000)(S:LoopAt J d tW k nb 0 t cv w):
  ZigC prog false (d.cw k) (JW d (J.bE d.W) k) (λ_ _ _ _=>False) t (rO nb (d.W k) dv cv) [] w:=by
 have hcs:=H.cw;obtain⟨cb,co,cap,hcv,_,_⟩:=S.calls.ex;obtain⟨len,hlen,x0,hcv⟩:∃len,len=(J.c.calls k).length/\∃x0,cv=.slice x0 len cap\/cv=.slice none len 0:=by
  rcases hcv with h|⟨h,h'⟩
  ·exact⟨_,rfl,_,.inl h⟩
  ·exact⟨0,by rw[h'];rfl,none,.inr h⟩
 have MH:J.len k=len:=hlen.symm;obtain⟨cap',x0',hcv⟩:∃cap' x0',cv=.slice x0' len cap':=by rcases hcv with h|h<;>exact⟨_,_,h⟩
 have loop:∀a u7 u8,qc (d.W k) nb dv cv len 0 u7 u8 a->wpM prog false (d.cw k) (JW d (J.bE d.W) k) (λ_ _ _ _=>False) (λfs=>fs=[]) 74 (.block 0 (.loop eY)) (λt' e a' w'=>e=.normal/\(∃u7 u8,qc (d.W k) nb dv cv len len u7 u8 a')/\LoopAt J d tW k nb len t' cv w') t a w:=by
  intro a u7 u8 hA;clear hcv;have ZK:=ai hlen;clear hlen;refine bt (fZ (λn t a w=>∃q u7 u8,n=len-q/\q<=len/\qc (d.W k) nb dv cv len q u7 u8 a/\LoopAt J d tW k nb q t cv w) (n:=len) ⟨0,_,_,rfl,ae,hA,S⟩ ?_);rintro n t a w ⟨q,u7,u8,rfl,hq,hA,S⟩;rw[Ow];by_cases hlt:q<len
  ·have hd:decide ((q:Int) < (len:Int))=true:=bV;have hwr:IntKind.i64.wrap ((q:Int) +1)=((q+1:Nat):Int):=(by rw[dR];omega);cases hA;simp only[cD,f74,Code.l,Code.r,eY];refine wpM_seq (wpM_lone kV hcs ax (BM _) (IM _ _) (λτ=>?_));go_wp2;refine qK ?_;refine wpM_seq (aH (t:=true) cC (dm ?_));try simp only[Exit.then]
   refine wpM_seq (bt (di (Gx H T hL hm hT hmeth hDo hgot ZK.out hlt ae S (qc.mk ..)) ?_));rintro t' e a' w' ⟨rfl,⟨u7,u8,hA'⟩,S'⟩;simp only[Exit.inBlock,Exit.then];cases hA';refine wpM_lone kV hcs ax (BM _) (IM _ _) (λτ=>?_);go_wp2;exact⟨_,aN _ _,len- (q+1),ae,q+1,rfl,ae,⟨_,_,qc.mk ..⟩,S'⟩
  ·have Kp:q=len:=ae;rw[Kp]at hA S;have hd:¬(len<len):=Nat.lt_irrefl _;clear Kp hlt hq;cases hA;simp only[cD,f74,Code.l,Code.r,eY];refine wpM_seq (wpM_lone kV hcs ax (BM _) (IM _ _) (λτ=>?_));go_wp2;refine qK ?_;refine wpM_seq (aH (t:=false) cC (fY ?_));simp only[Exit.then,Exit.inBlock,if_true];exact⟨trivial,⟨_,_,qc.mk ..⟩,S⟩
 unfold rO;rw[Eh];refine .pure (λ_=>stepG_seq) ?_;simp only[cD,f74,Code.l,Code.r,Ad];walk_nrm;refine .pure (λ_=>stepG_region) ?_;refine rg ?_;refine z0l ?_;refine .pure (λ_=>uW (g:=116) (cap:=#[.pointer (some ⟨nb,0,none⟩)]) rfl rfl az rfl cC) ?_;walk_nrm;refine .pure (λ_=>stepG_region_end) (.pure (λ_=>stepG_seq) ?_);have XB:∀a u7 u8,qc (d.W k) nb dv cv len 0 u7 u8 a->ZigC prog false (d.cw k) (JW d (J.bE d.W) k) (λ_ _ _ _=>False) t ((Conc.base 74).at a [.code (.block 0 (.loop eY))]) [] w:=λa u7 u8 hA=>loop a u7 u8 hA (Conc.base 74) [] [] rfl rfl rfl λi' e a' w' ⟨he,⟨_,_,hIs⟩,hS⟩=>by subst he;exact Gl (Gy H T hL rfl rfl (by rw[MH];exact aY _) hS hIs)
 clear loop;have aca:=ai XB;clear XB hlen MH;refine pg kV hcs rfl ax (BM _) (IM _ _) (λτ=>?_);subst hcv;go_wp2;exact⟨_,aN _ _,aca.out _ _ _ (qc.mk ..)⟩
end
end
section
open Go Go.Conc Go.RowKit
def aC(wk tu ha:Option Addr)(wn wc tn tc hn hc:Nat)(un:Int):Array Value:=#[.slice wk wn wc,.slice tu tn tc,.slice ha hn hc,.int .i64 un]
def vp(n k:Nat)(r:Nat->Bool):Array Value:=Array.ofFn λi:Fin n=>Value.bool (decide (i.1<k) &&r i.1)
def BS(r:Nat->Bool)(k:Nat):Bool:=(List.range k).any r
theorem Gz(n k:Nat)(r:Nat->Bool)(i:Nat)(h:i<n):(vp n k r)[i]? =some (.bool (decide (i<k) &&r i)):=by simp[vp,h]
theorem Su(n k:Nat)(r:Nat->Bool)(h:k<n):(vp n k r).setIfInBounds k (.bool (r k))=vp n (k+1) r:=by
 apply Array.ext
 ·simp[vp]
 ·intro i h1 h2;simp only[vp,xN,Array.size_ofFn]at h1 h2;rw[Array.getElem_setIfInBounds (by simpa[vp]using h1)];simp only[vp,Array.getElem_ofFn];by_cases e:k=i
  ·subst e;simp
  ·rw[if_neg e];congr 2;simp;omega
theorem Oy(n:Nat)(r:Nat->Bool):vp n 0 r=madeCells #[.bool false] n:=by
 apply Array.ext
 ·simp[vp,size_madeCells]
 ·intro i h1 h2;simp only[vp,Array.getElem_ofFn];simp[madeCells,Nat.mod_one]
structure MI(w:World)(n lb sb:Nat)(W:Nat->Nat)(dn:Nat->Bool)(yS:Nat->Nat)(ha:Option Addr)(hl:List Int):Prop where
 l:∀i,i<n->w.cell? ⟨lb,i,none⟩=some (.pointer (some ⟨W i,0,none⟩))
 s:∀i,i<n->w.cell? ⟨sb,i,none⟩=some (.int .i64 (yS i))
 d:∀i,i<n->w.cell? ⟨W i,10,none⟩=some (.bool (dn i))
 h:∀i,i<hl.length->∃hb ho,ha=some ⟨hb,ho,none⟩/\w.cell? ⟨hb,ho+i,none⟩=some (.int .i64 (hl.getD i 0))
structure yT(w wr:World)(wk tu ha:Option Addr)(wn wc tn tc hn hc:Nat)(un:Int)(n k:Nat)(r:Nat->Bool):Prop where
 size:wr.heap.size=w.heap.size+2
 old:∀b,b<w.heap.size->wr.heap[b]? =w.heap[b]?
 box:wr.heap[w.heap.size]? =some (.cells (aC wk tu ha wn wc tn tc hn hc un) 25 (0,0))
 row:wr.heap[w.heap.size+1]? =some (.cells (vp n k r) 4 (0,0))
 os:wr.os=w.os
 output:wr.output=w.output
theorem GA(w:World)(wk tu ha:Option Addr)(wn wc tn tc hn hc:Nat)(un:Int)(n:Nat)(r:Nat->Bool):yT w ((w.alloc (.cells (aC wk tu ha wn wc tn tc hn hc un) 25)).alloc (.cells (madeCells #[.bool false] n) 4)) wk tu ha wn wc tn tc hn hc un n 0 r:=by
 refine⟨au,λb hb=>?_,?_,?_,rfl,rfl⟩ <;>simp only[←cG,cF,fV]
 ·rw[if_neg ae,if_neg ae]
 ·rw[if_neg ae,if_pos trivial]
 ·rw[if_pos trivial,Oy]
theorem Sv:(prog.info? 4).map (λi=>(i.zero,i.size,i.bytes))=some (some (.bool false),1,1):=ax
theorem wU(r:Nat->Bool)(k:Nat):BS r (k+1)=(BS r k||r k):=by unfold BS;rw[sK,List.any_append];simp
theorem tU{w:World}{wk tu ha:Option Addr}{wn wc tn tc hn hc:Nat}{n k:Nat}{r:Nat->Bool}{b:Bool}(R:yT w wr wk tu ha wn wc tn tc hn hc un n k r)(hk:k<n)(hb:b=r k):yT w ((wr.drewN m).setCell ⟨w.heap.size+1,k,none⟩ (.bool b)) wk tu ha wn wc tn tc hn hc un n (k+1) r:=by
 subst hb;refine⟨by simp[World.setCell,R.size],λb hb=>?_,?_,?_,R.os,R.output⟩
 ·rw[ah ae];exact R.old b hb
 ·rw[ah ae];exact R.box
 ·have:=aq (w:=wr.drewN m) (o:=k) R.row (.bool (r k));rw[Su _ _ _ hk]at this;exact this
theorem Oz(n lb lc sb sc wn wc tn tc hc:Nat)(wk tu ha:Option Addr)(hl:List Int)(un:Int)(W:Nat->Nat)(dn:Nat->Bool)(yS:Nat->Nat)(w:World)(hn:n<=8)(hlc:n<=lc)(I:MI w n lb sb W dn yS ha hl):
  Calls prog 119 #[.agg (aC wk tu ha wn wc tn tc hl.length hc un),.slice (some ⟨lb,0,none⟩) n lc,.slice (some ⟨sb,0,none⟩) n sc] w λe w'=>∃r:Nat->Bool,(∀k,r k=(!dn k&&!decide (0<hl.getD k 0/\hl.getD k 0<=(yS k:Int))))/\e=.returned (.tuple #[.slice (some ⟨w.heap.size+1,0,none⟩) n n,.bool (BS r n)])/\w'.heap.size=w.heap.size+2/\(∀b,b<w.heap.size->w'.heap[b]? =w.heap[b]?)/\w'.heap[w.heap.size+1]? =some (.cells (vp n n r) 4 (0,0))/\w'.os=w.os/\w'.output=w.output:=by
 have hmk:=run_make_row' (P:=prog) 81 4 (.bool false) 1 underlying81 Sv rfl .i64 .i64 n ae ae;simp only[aC];have HI:=ai I;clear I;go_enter func119,ntmps119
 go_wp2;let r:Nat->Bool:=λk=>!dn k&&!decide (0<hl.getD k 0/\hl.getD k 0<=(yS k:Int));have hr:∀k,r k=(!dn k&&!decide (0<hl.getD k 0/\hl.getD k 0<=(yS k:Int))):=λ_=>rfl
 clear_value r
 have Hr:=ai hr;clear hr;go_loopw [18,9] (λiv av wr=>∃k:Nat,k<=n/\iv=.int .i64 k/\av=.bool (BS r k)/\yT w wr wk tu ha wn wc tn tc hl.length hc un n k r) (λi _ _=>n- (intOf i).toNat)
 case atStart=>exact⟨0,bj _,rfl,rfl,GA ..⟩
 case round=>
  obtain⟨k,hk,rfl,rfl,R⟩:=hrel;by_cases hlt:k<n
  ·have I:=HI.out;have same:∀(b o:Nat) v,w.cell? ⟨b,o,none⟩=some v->wr.cell? ⟨b,o,none⟩=some v:=λb o v hv=>(by have hb:=dw w _ hv;rw[←hv];exact bP (w:=w) (R.old b hb));have f1:=same _ _ _ (I.l k hlt);have f2:=same _ _ _ (I.s k hlt);have f3:=same _ _ _ (I.d k hlt);have f4:=cO R.box 2;have f5:wr.cell? ⟨w.heap.size+1,k,none⟩=some (.bool (decide (k<k) &&r k)):=(by rw[af R.row,Gz _ _ _ _ hlt]);have z5:=ay R.row k (bj _);have Qu:=Hr.out k;have hwr:IntKind.i64.wrap ((k:Int) +1)=(k:Int) +1:=(by rw[dR];omega);have HR:=ai R;have hH:=I.h k;clear I same R;by_cases h1:k<hl.length
   ·obtain⟨hb,ho,rfl,f6⟩:=hH h1;have f6':wr.cell? ⟨hb,ho+k,none⟩=some (.int .i64 (hl.getD k 0)):=(by have hb':=dw w _ f6;rw[←f6];exact bP (w:=w) (HR.out.old hb hb'));generalize hl.getD k 0=hv at*;clear f6;by_cases h2:0<hv
    ·have zh:decide (0<hv)=true:=qT;cases Bg:dn k<;>cases OA:BS r k<;>rw[Bg]at f3<;>go_wp2<;>go_quiet (fail) <;>go_wp2;all_goals refine⟨⟨k+1,ae,au,by rw[wU,OA,Qu,Bg];simp[h2],tU HR.out hlt (by rw[Qu,Bg];simp[h2])⟩,by simp[intOf];omega⟩
    ·have zh:decide (0<hv)=false:=qT;cases Bg:dn k<;>cases OA:BS r k<;>rw[Bg]at f3<;>go_wp2<;>go_quiet (fail) <;>go_wp2;all_goals refine⟨⟨k+1,ae,au,by rw[wU,OA,Qu,Bg];simp[h2],tU HR.out hlt (by rw[Qu,Bg];simp[h2])⟩,by simp[intOf];omega⟩
   ·have hg:hl.getD k 0=0:=(by rw[cQ,xU ae];rfl);rw[hg]at Qu;have h1':decide ((k:Int) < (hl.length:Int))=false:=bV;clear hH hg;cases Bg:dn k<;>cases OA:BS r k<;>rw[Bg]at f3<;>go_wp2<;>go_quiet (fail) <;>go_wp2;all_goals refine⟨⟨k+1,ae,au,by rw[wU,OA,Qu,Bg];simp[],tU HR.out hlt (by rw[Qu,Bg];simp[])⟩,by simp[intOf];omega⟩
  ·have Sj:k=n:=ae;subst Sj;have h1:=HI.out;go_wp2;go_ret2
   exact⟨r,Hr.out,rfl,R.size,R.old,R.row,R.os,R.output⟩
def VT(l:List Nat)(last v:Int):Prop:=(v= -1/\∀j,j<l.length->(l.getD j 0:Int)<=last)\/∃i:Nat,v=i/\i<l.length/\last< (l.getD i 0:Int)/\∀j,j<i->(l.getD j 0:Int)<=last
theorem BU(fb bx ob lc:Nat)(l:List Nat)(last:Int)(w:World)(hl:∀i,i<l.length->w.cell? ⟨fb,i,none⟩=some (.int .i64 (l.getD i 0:Nat)))(hx:w.cell? ⟨bx,0,none⟩=some (.pointer (some ⟨ob,0,none⟩)))(ho:w.cell? ⟨ob,1,none⟩=some (.int .i64 last))(hn:l.length<1000):
  Calls prog 78 #[.slice (some ⟨fb,0,none⟩) l.length lc,.func (.func 149) #[] #[.pointer (some ⟨bx,0,none⟩)]] w λe w'=>∃v,e=.returned (.int .i64 v)/\w'=w/\VT l last v:=by
 have Hl:=ai hl;clear hl;have hlen:∀n,l.length=n->n<1000:=λn h=>h▸hn;go_enter func78,ntmps78
 go_wp2;go_loopw [8] (λiv wr=>∃k:Nat,k<=l.length/\iv=.int .i64 k/\wr=w/\∀j,j<k->(l.getD j 0:Int)<=last) (λi _=>l.length- (intOf i).toNat)
 case atStart=>exact⟨0,bj _,rfl,rfl,λj hj=>absurd hj (dV _)⟩
 case round=>
  obtain⟨k,hk,rfl,rfl,hno⟩:=hrel;have XC:=ai hno;clear hno;have hwr:IntKind.i64.wrap ((k:Int) +1)=(k:Int) +1:=by rw[dR];omega
  by_cases hlt:k<l.length
  ·have f1:=Hl.out k hlt;by_cases h2:last< (l.getD k 0:Int)
   ·have zh:decide (last< ((l.getD k 0:Nat):Int))=true:=qT;generalize hv:l.getD k 0=v at*;have Hv:=ai hv;clear hv;go_wp2;go_ret
    exact⟨_,rfl,rfl,.inr ⟨k,rfl,hlt,by rw[Hv.out];exact h2,XC.out⟩⟩
   ·have zh:decide (last< ((l.getD k 0:Nat):Int))=false:=qT;have H2:=ai h2;clear h2;generalize hv:l.getD k 0=v at*;go_wp2;refine⟨⟨k+1,ae,au,trivial,λj hj=>?_⟩,by simp[intOf];omega⟩;by_cases e:j=k
    ·subst e;rw[hv];simpa using zh
    ·exact XC.out j ae
  ·have hkl:k=l.length:=ae;have h3:¬((k:Int) < (l.length:Int)):=ae;go_wp2;go_ret
   exact⟨_,rfl,rfl,.inl ⟨rfl,λj hj=>XC.out j ae⟩⟩
def readyL(r:Nat->Bool)(k:Nat):List Nat:=(List.range k).filter r
theorem xW(r:Nat->Bool)(k:Nat):readyL r (k+1)=readyL r k++if r k then [k]else []:=by unfold readyL;rw[sK,List.filter_append];cases h:r k<;>simp[h]
theorem wV(r:Nat->Bool)(k:Nat):(readyL r k).length<=k:=by unfold readyL;exact cn (List.length_filter_le _ _) au
structure tV(w wr:World)(ob g k:Nat)(r:Nat->Bool):Prop where
 size:w.heap.size+2<=wr.heap.size
 old:∀b,b<w.heap.size->wr.heap[b]? =w.heap[b]?
 box:wr.heap[w.heap.size]? =some (.cells #[.pointer (some ⟨ob,0,none⟩)] 217 (0,0))
 few:∃c,wr.heap[w.heap.size+1]? =some (.cells c 88 (0,0))/\c.size=8/\∀i,i< (readyL r k).length->c[i]? =some (.int .i64 ((readyL r k).getD i 0:Nat))
 os:wr.os=w.os
 output:wr.output=w.output
theorem Ei:(prog.info? 3).map (λi=>(i.zero,i.size,i.bytes))=some (some (.int .i64 0),1,8):=ax
theorem info_parts'{t:TypeId}{s b:Nat}(h:(prog.info? t).map (λi=>(i.zero,i.size,i.bytes))=some (some z,s,b)):∃i,prog.info? t=some i/\i.zero=some z/\i.size=s/\i.bytes=b:=by
 revert h;cases hi:prog.info? t with
 |none=>intro h;cases h
 |some i=>intro h;simp only[kS,cu,Prod.mk.injEq]at h;exact⟨i,rfl,h.1,h.2.1,h.2.2⟩
theorem Kq(w:World)(ob g:Nat)(r:Nat->Bool):tV w ((w.alloc (.cells #[.pointer (some ⟨ob,0,none⟩)] 217)).alloc (.cells #[.int .i64 0,.int .i64 0,.int .i64 0,.int .i64 0,.int .i64 0,.int .i64 0,.int .i64 0,.int .i64 0] 88)) ob g 0 r:=by
 refine⟨au,λb hb=>?_,?_,⟨#[.int .i64 0,.int .i64 0,.int .i64 0,.int .i64 0,.int .i64 0,.int .i64 0,.int .i64 0,.int .i64 0],?_,rfl,λi hi=>by simp[readyL]at hi⟩,rfl,rfl⟩ <;>simp only[←cG,cF,fV]
 ·rw[if_neg ae,if_neg ae]
 ·rw[if_neg ae,if_pos trivial]
 ·rw[if_pos trivial]
theorem VU{w:World}{g k:Nat}{r:Nat->Bool}(R:tV w wr ob g k r)(h:r k=false):tV w wr ob g (k+1) r/\readyL r (k+1)=readyL r k:=by
 have e:readyL r (k+1)=readyL r k:=by rw[xW,h];simp
 obtain⟨h1,h2,h3,h4,h5,h6⟩:=R;rw[←e]at h4;exact⟨⟨h1,h2,h3,h4,h5,h6⟩,e⟩
theorem Sx{w:World}{g k:Nat}{r:Nat->Bool}(R:tV w wr ob g k r)(h:r k=true)(hk:k<8){t:TypeId}:tV w ((wr.setCell ⟨w.heap.size+1,(readyL r k).length,none⟩ (.int .i64 (k:Int))).alloc (.cells #[.int .i64 (k:Int)] t)) ob g (k+1) r/\(readyL r (k+1)).length=(readyL r k).length+1:=by
 have e:readyL r (k+1)=readyL r k++[k]:=by rw[xW,h];simp
 have hle:=wV r k;obtain⟨h1,h2,h3,⟨c,h4,hc,h7⟩,h5,h6⟩:=R;have ad5:=(aQ.1 h4).1;generalize fE:wr.setCell ⟨w.heap.size+1,(readyL r k).length,none⟩ (.int .i64 (k:Int))=w1;have hs1:w1.heap.size=wr.heap.size:=by subst fE;simp[World.setCell]
 have g4:w1.heap[w.heap.size+1]? =some (.cells (c.setIfInBounds (readyL r k).length (.int .i64 (k:Int))) 88 (0,0)):=by subst fE;exact aq h4 _
 have g2:∀b,b≠w.heap.size+1->w1.heap[b]? =wr.heap[b]? :=λb hb=>by subst fE;exact ah hb _
 have g5:w1.os=wr.os/\w1.output=wr.output:=by subst fE;exact⟨rfl,rfl⟩
 clear fE;have ha:∀b,b<w1.heap.size->(w1.alloc (.cells #[.int .i64 (k:Int)] t)).heap[b]? =w1.heap[b]? :=λb hb=>by simp only[←cG,cF];rw[if_neg ae]
 refine⟨⟨bV,λb hb=>?_,?_,⟨c.setIfInBounds (readyL r k).length (.int .i64 (k:Int)),?_,by simp[hc],λi hi=>?_⟩,g5.1.trans h5,g5.2.trans h6⟩,lY⟩
 ·rw[ha _ ae,g2 _ ae];exact h2 b hb
 ·rw[ha _ ae,g2 _ ae];exact h3
 ·rw[ha _ ae];exact g4
 ·rw[e]at hi⊢;simp at hi;rw[Ff];by_cases e2:(readyL r k).length=i
  ·rw[if_pos e2,if_pos ae];subst e2;simp[cQ]
  ·rw[if_neg e2,h7 i ae];rw[cQ,cQ,oC ae]
theorem Kr{last:Int}(h:∀j,j<L.length->(L.getD j 0:Int)<=last):pO [] last L=L.getD 0 0:=by
 have:L.find? (λ(k:Nat)=>decide (last< (k:Int)))=none:=by rw[List.find?_eq_none];intro x hx;obtain⟨j,hj,rfl⟩:=List.getElem_of_mem hx;have:=h j hj;rw[cQ,eA hj]at this;simp only[bJ]at this;simp;omega
 unfold pO;simp only[this];cases L<;>rfl
theorem Ks{last:Int}(Sy:ix<L.length)(h1:last< (L.getD ix 0:Int))(h:∀j,j<ix->(L.getD j 0:Int)<=last):pO [] last L=L.getD ix 0:=by
 have:L.find? (λ(k:Nat)=>decide (last< (k:Int)))=some (L.getD ix 0):=by rw[List.find?_eq_some_iff_getElem];refine⟨kO,ix,Sy,by rw[cQ,eA Sy];rfl,λj hj=>?_⟩;have:=h j hj;rw[cQ,eA ae]at this;simp only[bJ]at this;simp;omega
 unfold pO;simp only[this];rfl
structure OrderAt(w:World)(lo ob:Nat)(left:List Int)(last:Int):Prop where
 ex:∃la lc,w.heap[ob]? =some (.cells #[.slice la left.length lc,.int .i64 last] 247 (0,0))/\left.length<=lc/\∀i,i<left.length->∃tb to,la=some ⟨tb,to,none⟩/\(lo<=tb/\tb<ob)/\w.cell? ⟨tb,to+i,none⟩=some (.int .i64 (left.getD i 0))
theorem vq{w F:World}{g k:Nat}{r:Nat->Bool}{left:List Int}{last:Int}(R:tV w wr ob g k r)(Ej:ob<w.heap.size)(hs:F.heap.size=wr.heap.size)(ho:∀b,b≠ob->F.heap[b]? =wr.heap[b]?)(IG:F.heap[ob]? =some (.cells #[.slice la left.length lc,.int .i64 last] 247 (0,0)))(os:F.os=wr.os)(out:F.output=wr.output)
  (hl:left.length<=lc/\∀i,i<left.length->∃tb to,la=some ⟨tb,to,none⟩/\(lo<=tb/\tb<ob)/\w.cell? ⟨tb,to+i,none⟩=some (.int .i64 (left.getD i 0))):
  OrderAt F lo ob left last/\w.heap.size<=F.heap.size/\(∀b,b<w.heap.size->b≠ob->F.heap[b]? =w.heap[b]?)/\F.os=w.os/\F.output=w.output:=by
 have old:∀b,b<w.heap.size->b≠ob->F.heap[b]? =w.heap[b]? :=λb h1 h2=>by rw[ho b h2,R.old b h1]
 refine⟨⟨la,lc,IG,hl.1,λi hi=>?_⟩,by have:=R.size;omega,old,os.trans R.os,out.trans R.output⟩;obtain⟨tb,to,e,h1,h2⟩:=hl.2 i hi;refine⟨tb,to,e,h1,?_⟩;have hb:=dw w _ h2;rw[←h2];exact bP (w:=w) (old tb hb (Nat.ne_of_lt h1.2))
theorem pick_any(lo ob g n gc:Nat)(left:List Int)(last:Int)(r:Nat->Bool)(w:World)(hn:n<=8)(O:OrderAt w lo ob left last)(Sz:0< (readyL r n).length)(hg:∀i,i<n->w.cell? ⟨g,i,none⟩=some (.bool (r i))):
  Calls prog 120 #[.pointer (some ⟨ob,0,none⟩),.slice (some ⟨g,0,none⟩) n gc] w λe w'=>e=.returned (.int .i64 (pO left last (readyL r n):Nat))/\OrderAt w' lo ob left.tail (pO left last (readyL r n):Nat)/\w.heap.size<=w'.heap.size/\(∀b,b<w.heap.size->b≠ob->w'.heap[b]? =w.heap[b]?)/\w'.os=w.os/\w'.output=w.output:=by
 have Hg:=ai hg;clear hg;obtain⟨la,lc,IG,XD⟩:=O.ex;clear O;have ad6:=ai IG;clear IG;have XE:=ai XD;clear XD;go_enter func120,ntmps120
 go_wp2;go_loopw [15,6] (λiv lv wr=>∃k:Nat,k<=n/\iv=.int .i64 k/\lv=.slice (some ⟨w.heap.size+1,0,none⟩) (readyL r k).length 8/\tV w wr ob g k r) (λi _ _=>n- (intOf i).toNat)
 case atStart=>exact⟨0,bj _,rfl,rfl,Kq ..⟩
 case round=>
  obtain⟨k,hk,rfl,rfl,R⟩:=hrel;by_cases hlt:k<n
  ·obtain⟨ii,MJ,MK,ML,MM⟩:=info_parts' Ei;have f1:wr.cell? ⟨g,k,none⟩=some (.bool (r k)):=(by have h:=Hg.out k hlt;have hb:=dw w _ h;rw[←h];exact bP (w:=w) (R.old _ hb));have hwr:IntKind.i64.wrap ((k:Int) +1)=(k:Int) +1:=(by rw[dR];omega);have hle:=wV r k;have HR:=ai R;clear R;cases Qu:r k
   ·rw[Qu]at f1;go_wp2;obtain⟨R',e⟩:=VU HR.out Qu;refine⟨⟨k+1,ae,au,by rw[e],R'⟩,by simp[intOf];omega⟩
   ·rw[Qu]at f1;obtain⟨c,h4,hc,_⟩:=HR.out.few;obtain⟨v0,f2⟩:∃v0,wr.cell? ⟨w.heap.size+1,(readyL r k).length,none⟩=some v0:=⟨_,by rw[af h4,dI ae]⟩;have z2:wr.frozen? ⟨w.heap.size+1,(readyL r k).length,none⟩=false:=ay h4 _ (bj _);have Jy:=(aQ.1 h4).1;have hm8:(readyL r k).length+1<=8:=ae;clear h4 hc;go_wp2;obtain⟨R',e⟩:=Sx HR.out Qu (t:=3) ae;refine⟨⟨k+1,ae,au,by rw[e],R'⟩,by simp[intOf];omega⟩
  ·have Sj:k=n:=ae;subst Sj;have h3:¬((k:Int) < (k:Int)):=ae;have hle:=wV r k;obtain⟨c,h4,hc,h7⟩:=R.few;have hcell:∀i,i< (readyL r k).length->wr.cell? ⟨w.heap.size+1,i,none⟩=some (.int .i64 ((readyL r k).getD i 0:Nat)):=λi hi=>(by rw[af h4];exact h7 i hi);have IG:=ad6.out;have Kt:=IG;have Ej:=(aQ.1 IG).1;rw[←R.old ob Ej]at Kt;have q0:wr.cell? ⟨ob,0,none⟩=some (.slice la left.length lc):=(by rw[af Kt];rfl);have q1:wr.cell? ⟨ob,1,none⟩=some (.int .i64 last):=(by rw[af Kt];rfl);have z0:=ay Kt 0 (bj _);have z1:=ay Kt 1 (bj _);have qb:=cO R.box 0;have HR:=ai R;have MN:=ai hcell;have VV:=ai Kt;clear R hcell Kt h4 hc h7;have hL:0< (readyL r k).length:=Sz;generalize hLl:readyL r k=L at*;have XF:=ai hLl;clear hLl IG;cases left with
   |nil=>
    simp only[fS]at q0;go_wp2_with (go_at_call 78;refine(BU (w.heap.size+1) w.heap.size ob 8 L last wr MN.out qb q1 ae).mono ?_;rintro e w' ⟨v,rfl,rfl,hv⟩)
    rcases hv with⟨rfl,hno⟩|⟨ix,rfl,Sy,hgt,hno⟩
    ·have q5:=MN.out 0 hL;have hap:=Kr hno;generalize hl0:L.getD 0 0=l0 at*;have OB:=ai hap;clear hap hno;refine aL.start (λw'=>w'.cell? ⟨w.heap.size,0,none⟩=some (.pointer (some ⟨ob,0,none⟩))/\w'.cell? ⟨w.heap.size+1,0,none⟩=some (.int .i64 (l0:Int))) [8] ax ?_ (λhHeld=>?_)
     ·exact Ry
     refine aL.tt 0 hHeld ?_;refine aL.tv 1 hHeld ?_;refine aL.tv 2 hHeld ?_;refine aL.tv 3 hHeld ?_;refine aL.tv 4 hHeld ?_;refine aL.tt 5 hHeld ?_;refine aL.tv 6 hHeld ?_;refine aL.tv 7 hHeld ?_;refine aL.to 8 (λK hK=>?_);go_simp;refine hK.out _ _ (λhF=>absurd hF az) (λ_=>?_);clear hK K;try refine pt ?_
     refine aL.done ax ?_ _;go_wp2;go_ret
     refine⟨by rw[XF.out,OB.out];rfl,vq HR.out Ej gF (λb hb=>ah hb _) (la:=la) (lc:=lc) ?_ rfl rfl ⟨au,λi hi=>by simp at hi⟩⟩;have:=aq (o:=1) VV.out (.int .i64 (l0:Int));rw[XF.out,OB.out];simp only[List.tail_nil,fS];simp at this;exact this
    ·have q5:=MN.out ix Sy;have afI:((ix:Int) <0)=False:=au;have afJ:((ix:Int) < (L.length:Int))=True:=(by simpa using Sy);have hap:=Ks Sy hgt hno;generalize hl0:L.getD ix 0=l0 at*;have OB:=ai hap;clear hap hno hgt;refine aL.start (λw'=>w'.cell? ⟨w.heap.size,0,none⟩=some (.pointer (some ⟨ob,0,none⟩))/\w'.cell? ⟨w.heap.size+1,ix,none⟩=some (.int .i64 (l0:Int))) [8] ax ?_ (λhHeld=>?_)
     ·exact Ry
     refine aL.tt 0 hHeld ?_;refine aL.tv 1 hHeld ?_;refine aL.tv 2 hHeld ?_;refine aL.tv 3 hHeld ?_;refine aL.tv 4 hHeld ?_;refine aL.tt 5 hHeld ?_;refine aL.tv 6 hHeld ?_;refine aL.tv 7 hHeld ?_;refine aL.to 8 (λK hK=>?_);go_simp;refine hK.out _ _ (λhF=>absurd hF az) (λ_=>?_);clear hK K;try refine pt ?_
     refine aL.done ax ?_ _;go_wp2;go_ret
     refine⟨by rw[XF.out,OB.out];rfl,vq HR.out Ej gF (λb hb=>ah hb _) (la:=la) (lc:=lc) ?_ rfl rfl ⟨au,λi hi=>by simp at hi⟩⟩;have:=aq (o:=1) VV.out (.int .i64 (l0:Int));rw[XF.out,OB.out];simp only[List.tail_nil,fS];simp at this;exact this
   |cons t0 rest=>
    obtain⟨hlc,hlf⟩:=XE.out;obtain⟨tb,to,rfl,htb,ht0⟩:=hlf 0 au;simp only[ew]at q0 hlc;have afK:wr.cell? ⟨tb,to,none⟩=some (.int .i64 t0):=(by have hb:=dw w _ ht0;have:=bP (w:=w) (a:=⟨tb,to+0,none⟩) (HR.out.old tb hb);rw[ht0]at this;simpa using this);have hm1:((L.length:Nat):Int)≠0:=ae;have xI:((rest.length+1:Nat):Int) >0:=ae;clear ht0 hlf;go_wp2;have hab:(t0.tmod (L.length:Int)).natAbs<L.length:=(by rw[Int.natAbs_tmod];exact Nat.mod_lt _ hL);obtain⟨ix,Sy,ad7⟩:∃ix:Nat,(t0.tmod (L.length:Int) +(L.length:Int)).tmod (L.length:Int)=(ix:Int)/\ix<L.length:=(by have h4:=Int.emod_lt_of_pos (t0.tmod (L.length:Int) +(L.length:Int)) (b:=(L.length:Int)) ae;have h5:=Int.emod_nonneg (t0.tmod (L.length:Int) +(L.length:Int)) (b:=(L.length:Int)) ae;refine⟨((t0.tmod (L.length:Int) +(L.length:Int)).tmod (L.length:Int)).toNat,?_,?_⟩ <;>rw[Int.tmod_eq_emod_of_nonneg ae] <;>omega);have hwr:IntKind.i64.wrap (t0.tmod (L.length:Int) +(L.length:Int))=t0.tmod (L.length:Int) +(L.length:Int):=(by rw[dR];omega);have hap:pO (t0::rest) last L=L.getD ix 0:=(by unfold pO;simp only[Sy,Int.toNat_natCast]);have q5:=MN.out ix ad7;generalize hl0:L.getD ix 0=l0 at*;have OB:=ai hap;clear hap;have afL:L≠[]:=(by intro e;rw[e]at hL;simp at hL);have vr:(1<=(rest.length:Int) +1)=True:=bV;by_cases acb:lc=1
    ·subst acb;have tJ:rest=[]:=List.length_eq_zero_iff.1 ae;subst tJ;simp only[fS,cM]at q0;simp only[fS,cM];refine aL.start (λw'=>w'.cell? ⟨w.heap.size,0,none⟩=some (.pointer (some ⟨ob,0,none⟩))/\w'.cell? ⟨ob,0,none⟩=some (.slice (some ⟨tb,to,none⟩) 1 1)) [8] ax ?_ (λhHeld=>?_)
     ·exact Ry
     refine aL.tt 0 hHeld ?_;refine aL.tt 1 hHeld ?_;refine aL.tv 2 hHeld ?_;refine aL.tv 3 hHeld ?_;refine aL.tt 4 hHeld ?_;refine aL.tv 5 hHeld ?_;refine aL.tv 6 hHeld ?_;refine aL.tv 7 hHeld ?_;refine aL.to 8 (λK hK=>?_);go_simp;refine hK.out _ _ (λhF=>absurd hF az) (λ_=>?_);clear hK K;try refine pt ?_
     refine aL.done ax ?_ _;go_wp2;refine aL.start (λw'=>w'.cell? ⟨w.heap.size,0,none⟩=some (.pointer (some ⟨ob,0,none⟩))/\w'.cell? ⟨w.heap.size+1,ix,none⟩=some (.int .i64 (l0:Int))) [11] ax ?_ (λhHeld=>?_)
     ·exact Ry
     refine aL.tt 0 hHeld ?_;refine aL.tv 1 hHeld ?_;refine aL.tv 2 hHeld ?_;refine aL.tv 3 hHeld ?_;refine aL.tv 4 hHeld ?_;refine aL.tv 5 hHeld ?_;refine aL.tv 6 hHeld ?_;refine aL.tv 7 hHeld ?_;refine aL.tt 8 hHeld ?_;refine aL.tv 9 hHeld ?_;refine aL.tv 10 hHeld ?_;refine aL.to 11 (λK hK=>?_);go_simp;refine hK.out _ _ (λhF=>absurd hF az) (λ_=>?_);clear hK K;try refine pt ?_
     refine aL.done ax ?_ _;go_wp2;go_ret
     refine⟨by rw[XF.out,OB.out];rfl,vq (la:=some ⟨tb,to,none⟩) (lc:=0) HR.out Ej gF (λb hb=>(ah (w:=wr.setCell ⟨ob,0,none⟩ (.slice (some ⟨tb,to,none⟩) 0 0)) hb _).trans (ah hb _)) ?_ rfl rfl ⟨au,λi hi=>?_⟩⟩
     ·have:=aq (o:=1) (aq (o:=0) VV.out (.slice (some ⟨tb,to,none⟩) 0 0)) (.int .i64 (l0:Int));rw[XF.out,OB.out];simp only[List.tail_cons];simp at this;exact this
     ·simp at hi
    ·have afM:(lc=1)=False:=(by simpa using acb);refine aL.start (λw'=>w'.cell? ⟨w.heap.size,0,none⟩=some (.pointer (some ⟨ob,0,none⟩))/\w'.cell? ⟨ob,0,none⟩=some (.slice (some ⟨tb,to,none⟩) (rest.length+1) lc)) [8] ax ?_ (λhHeld=>?_)
     ·exact Ry
     refine aL.tt 0 hHeld ?_;refine aL.tt 1 hHeld ?_;refine aL.tv 2 hHeld ?_;refine aL.tv 3 hHeld ?_;refine aL.tt 4 hHeld ?_;refine aL.tv 5 hHeld ?_;refine aL.tv 6 hHeld ?_;refine aL.tv 7 hHeld ?_;refine aL.to 8 (λK hK=>?_);go_simp;refine hK.out _ _ (λhF=>absurd hF az) (λ_=>?_);clear hK K;try refine pt ?_
     refine aL.done ax ?_ _;go_wp2;refine aL.start (λw'=>w'.cell? ⟨w.heap.size,0,none⟩=some (.pointer (some ⟨ob,0,none⟩))/\w'.cell? ⟨w.heap.size+1,ix,none⟩=some (.int .i64 (l0:Int))) [11] ax ?_ (λhHeld=>?_)
     ·exact Ry
     refine aL.tt 0 hHeld ?_;refine aL.tv 1 hHeld ?_;refine aL.tv 2 hHeld ?_;refine aL.tv 3 hHeld ?_;refine aL.tv 4 hHeld ?_;refine aL.tv 5 hHeld ?_;refine aL.tv 6 hHeld ?_;refine aL.tv 7 hHeld ?_;refine aL.tt 8 hHeld ?_;refine aL.tv 9 hHeld ?_;refine aL.tv 10 hHeld ?_;refine aL.to 11 (λK hK=>?_);go_simp;refine hK.out _ _ (λhF=>absurd hF az) (λ_=>?_);clear hK K;try refine pt ?_
     refine aL.done ax ?_ _;go_wp2;go_ret
     refine⟨by rw[XF.out,OB.out];rfl,vq (la:=some ⟨tb,to+1,none⟩) (lc:=lc-1) HR.out Ej gF (λb hb=>(ah (w:=wr.setCell ⟨ob,0,none⟩ (.slice (some ⟨tb,to+1,none⟩) rest.length (lc-1))) hb _).trans (ah hb _)) ?_ rfl rfl ⟨bV,λi hi=>?_⟩⟩
     ·have:=aq (o:=1) (aq (o:=0) VV.out (.slice (some ⟨tb,to+1,none⟩) rest.length (lc-1))) (.int .i64 (l0:Int));rw[XF.out,OB.out];simp only[List.tail_cons];simp at this;exact this
     ·simp only[List.tail_cons]at hi⊢;obtain⟨tb',to',e1,e2,e3⟩:=XE.out.2 (i+1) bV;simp at e1;obtain⟨rfl,rfl⟩:=e1;refine⟨tb,to+1,rfl,e2,?_⟩;rw[show to+1+i=to+(i+1)by omega,e3];simp
end
section
open Go Go.Conc Go.ConcN
def _root_.Go.World.td(w:World)(τ:Nat->Question->Nat)(k:Nat):World:={w with tape:=τ,drawn:=k}
theorem dE(w:World)(τ:Nat->Question->Nat)(k:Nat)(x:Addr):(w.td τ k).cell? x=w.cell? x:=rfl
theorem cB(w:World)(τ:Nat->Question->Nat)(k:Nat)(x:Addr):(w.td τ k).frozen? x=w.frozen? x:=rfl
theorem dF(w:World)(τ:Nat->Question->Nat)(k:Nat):(w.td τ k).heap=w.heap:=rfl
def Calm(P:Program)(S:ba)(o:Oper)(a:Act)(w:World)(v:Value):Prop:=
 (∀τ k,(execOp a.eval o).run P (w.td τ k)=.ok (.value v) (w.td τ k))\/
 ∃f args,(∀w1,(execOp a.eval o).runT P w1 #[]=(.ok (.enter f args) w1,#[]))/\wj P S f args/\∀τ k,Calls P f args (w.td τ k) λe w2=>e=.returned v/\w.td τ k=w2
def rP(N n:Nat):Array Bool:=(List.range N).toArray.map λi=>decide (i<n)
theorem Aj{listed:Array Bool}{n:Nat}(hs:listed.size=N)(h1:∀i,i<n->i<N->listed.getD i false=true)(h2:∀i,n<=i->i<N->listed.getD i false=false):listed=rP N n:=by
 apply Array.ext
 ·simp[rP,hs]
 ·intro i hi hj;have hiN:i<N:=ae;have e:listed[i]=listed.getD i false:=by rw[cE,dI hi];rfl
  rw[e];simp only[rP,Array.getElem_map,List.getElem_toArray,List.getElem_range];by_cases h:i<n
  ·rw[h1 i h hiN];simp[h]
  ·rw[h2 i ae hiN];simp[h]
theorem SD{ops:Array Oper}:∀(g k t:Nat) (listed:Array Bool),Region.seqB .any ops g k listed=true->Region.linearise.go .any ops g t listed []=List.range' k g:=by
 intro g;induction g with
 |zero=>intro k t listed _;simp[Region.linearise.go]
 |succ g ih=>
  intro k t listed h;simp only[Region.seqB,bK,decide_eq_true_eq]at h;simp only[Region.linearise.go];change (match(Region.ready .any ops listed)[t % (Region.ready .any ops listed).length]? with
   |some i=>Region.linearise.go .any ops g (t / (Region.ready .any ops listed).length) (listed.setIfInBounds i true) [i]
   |none=>[].reverse)=_
  rw[h.1];simp only[List.length_singleton,Nat.mod_one,mP];rw[linearise_go_acc,ih (k+1) _ _ h.2];rfl
structure Script(P:Program)(S:ba)(fn:FuncId)(ops:Array Oper)(n:Nat)(ds:Nat->Nat)(vs:Nat->Value)(a:Act)(w:World):Prop where
 size:n<ops.size
 edge:∀(i:Nat) (o:Oper),ops[i]? =some o->∀e∈o.after,Region.binds .any e=true->e.on<i
 dst:∀(i:Nat) (o:Oper),i<n->ops[i]? =some o->o.dst=some (ds i)
 inj:∀i j,i<n->j<n->ds i=ds j->i=j
 lt:∀i,i<n->ds i<a.tmps.size
 want:∀(i:Nat) (o:Oper),i<n->ops[i]? =some o->o.guard=none
 ok:∀(i:Nat) (o:Oper),i<n->ops[i]? =some o->eV P S fn o=true
 ft:∀t,S.ft fn t=false
 run:∀(i:Nat) (o:Oper) (a':Act),i<n->ops[i]? =some o->(∀e∈o.after,Region.binds .any e=true->a'.tmps.getD (ds e.on) undef=vs e.on)->(∀s,(∀j,j<n->s≠ds j)->a'.tmps.getD s undef=a.tmps.getD s undef)->Calm P S o a' w (vs i)
 chain:∀(t:Nat) (o:Oper),n<t->ops[t]? =some o->∃e∈o.after,Region.binds .any e=true/\e.on=t-1
 seq:Region.seqB .any ops (ops.size-n) n (rP ops.size n)=true
 last:∀listed:Array Bool,(∀(i:Nat) (o:Oper),i<n->ops[i]? =some o->listed.getD i false=true->∀e∈o.after,Region.binds .any e=true->listed.getD e.on false=true)->(∀o:Oper,ops[n]? =some o->∀e∈o.after,Region.binds .any e=true->listed.getD e.on false=true)->∀i,i<n->listed.getD i false=true
def Script.tmps(n:Nat)(ds:Nat->Nat)(vs:Nat->Value)(t:Array Value):Array Value:=(List.range n).foldl (λt i=>t.setIfInBounds (ds i) (vs i)) t
theorem qU(n:Nat)(ds:Nat->Nat)(vs:Nat->Value)(t:Array Value):(Script.tmps n ds vs t).size=t.size:=by
 unfold Script.tmps;induction n with
 |zero=>rfl
 |succ n ih=>rw[sK,List.foldl_append];simp[ih]
theorem tX{n:Nat}{t:Array Value}{s:Nat}(h:∀j,j<n->s≠ds j):(Script.tmps n ds vs t)[s]? =t[s]? :=by
 unfold Script.tmps;induction n with
 |zero=>rfl
 |succ n ih=>rw[sK,List.foldl_append];simp only[sH,List.foldl_nil];rw[eH (bp (h n ae))];exact ih λj hj=>h j ae
theorem wW{n:Nat}{t:Array Value}(hi:i<n)(inj:∀i j,i<n->j<n->ds i=ds j->i=j)(hlt:ds i<t.size):(Script.tmps n ds vs t)[ds i]? =some (vs i):=by
 have hsz:=qU n ds vs t;induction n with
 |zero=>omega
 |succ n ih=>
  have e:Script.tmps (n+1) ds vs t=(Script.tmps n ds vs t).setIfInBounds (ds n) (vs n):=by unfold Script.tmps;rw[sK,List.foldl_append];rfl
  rw[e];by_cases h:i=n
  ·subst h;rw[fD (by rw[qU];exact hlt)]
  ·rw[eH (λe=>h (inj i n hi ae e.symm))];exact ih ae (λi j h1 h2=>inj i j ae ae) (qU _ _ _ _)
section
variable{P:Program}{S:ba}{main:Bool}{cs:List Frame}{J:dA ι}{Stop:ι->Frame->List Frame->World->Prop}{ops:Array Oper}{n id:Nat}{w:World}
theorem rQ{l:Array Bool}{n:Nat}(hs:l.size=n)(hi:i<n)(h:l.getD i false=true):l.getD i true=true:=by rw[cE]at*;rw[dI ae]at*;simpa using h
theorem SE{l:Array Bool}{n:Nat}(h:∀i,i<n->l.getD i true=true):Bh n l=0:=by
 have:Bh n l=sumTo n λ_=>0:=sumTo_congr λi hi=>by simp[h i hi]
 rw[this];induction n with
 |zero=>rfl
 |succ n ih=>simp[sumTo];exact ih (λi hi=>h i ae) (by have:Bh n l=sumTo n λ_=>0:=sumTo_congr λi hi=>(by simp[h i ae]);exact this)
theorem Ek{l:Array Bool}:∀{n i:Nat},i<n->l.getD i true=false->0<Bh n l:=by
 intro n;induction n with
 |zero=>intro i hi;omega
 |succ n ih=>
  intro i hi h;show 0<Bh n l+(if l.getD n true then 0 else 1);by_cases e:i=n
  ·subst e;simp[h]
  ·have:=ih (i:=i) ae h;omega
theorem zigC_calm1(st:Stat P S){ops:Array Oper}{rest:List Nat}{w:World}(hk:b.kind=.normal)(ho:ops[i]? =some o)(hg:o.guard=none)(hok:eV P S b.fn o=true)(wm:∀t,S.ft b.fn t=false)(hq:Calm P S o a w v)
  (h:ZigC P main cs J Stop p7 (b.at (a.put o.dst v) (.inRegion ops rest::k)) fs w):ZigC P main cs J Stop p7 (b.at a (.inRegion ops (i::rest)::k)) fs w:=by
 rcases hq with hq|⟨f,args,qV,lR,hcall⟩
 ·refine .walk (co_op st.rows st.bodies st.leafs (.inl hk) ho (by simp[Region.wanted,hg]) hok (λt ht=>by rw[wm]at ht;cases ht) λτ=>?_);exact⟨v,aV w τ,.inl (hq τ w.drawn),.stop (h.alike (show Alike w (aV w τ)from⟨rfl,rfl,rfl⟩))⟩
 ·refine .pure (aZ:=Frame.enter P f args .normal) (bz:=b.at a (.inRegion ops (i::rest)::k)::fs) (λw1=>?_) ?_
  ·have oT:((b.at a (.inRegion ops (i::rest)::k)).kind==CallKind.early)=false:=(by show(b.kind==CallKind.early)=false;rw[hk];rfl);have:=(stepG_oper (P:=P) (main:=main) (b:=b) (a:=a) (k:=k) (cs:=fs++cs) (w:=w1) (rest:=rest) ho (by simp[Region.wanted,hg])).trans (qs (fr:=b.at a (.inRegion ops (i::rest)::k)) (cs:=fs++cs) rfl oT (qV w1));rw[show seen P (b.at a (.inRegion ops (i::rest)::k)).fn #[] ++ #[]=#[]from by simp[seen]]at this;exact this
  ·refine .walk (Mt (Post:=λv' w2=>v'=v/\Alike w w2) st.rows st.bodies st.leafs st.plain lR (λv w2 τ ⟨h1,h2⟩=>⟨h1,h2.trans ⟨rfl,rfl,rfl⟩⟩) (λτ=>(hcall τ w.drawn).mono λe w2 ⟨e1,e2⟩=>⟨_,e1,rfl,by subst e2;exact⟨rfl,rfl,rfl⟩⟩) ?_);rintro v' w2 ⟨rfl,h2⟩;rw[fy,ho];exact .stop (h.alike h2)
theorem Ak{ops:Array Oper}(bC:ops.size=N)(hedge:∀(i:Nat) (o:Oper),ops[i]? =some o->∀e∈o.after,Region.binds .any e=true->e.on<i)(Inv:Array Bool->ι->Act->World->Prop)(Done:Array Bool->Prop)
  (hstep:∀listed p7 a w i rest,listed.size=N->Inv listed p7 a w->¬Done listed->i∈Region.ready .any ops listed->(∀qX a' w',Inv (sg listed i) qX a' w'->ZigC P main cs J Stop qX (b.at a' (.inRegion ops rest::k)) fs w')->ZigC P main cs J Stop p7 (b.at a (.inRegion ops (i::rest)::k)) fs w)
  (hend:∀m t listed p7 a w,listed.size=N->Bh N listed=m->Done listed->Inv listed p7 a w->ZigC P main cs J Stop p7 (b.at a (.inRegion ops (Region.linearise.go .any ops m t listed [])::k)) fs w)(hall:∀listed:Array Bool,listed.size=N->Bh N listed=0->Done listed):
  ∀(m t:Nat) (listed:Array Bool) (p7:ι) (a:Act) (w:World),listed.size=N->Bh N listed=m->Inv listed p7 a w->ZigC P main cs J Stop p7 (b.at a (.inRegion ops (Region.linearise.go .any ops m t listed [])::k)) fs w:=by
 intro m;induction m with
 |zero=>exact λt listed p7 a w hn hu hI=>hend 0 t listed p7 a w hn hu (hall listed hn hu) hI
 |succ m ih=>
  intro t listed p7 a w hn hu hI;by_cases hD:Done listed
  ·exact hend (m+1) t listed p7 a w hn hu hD hI
  simp only[Region.linearise.go];change ZigC P main cs J Stop p7 (b.at a (.inRegion ops (match(Region.ready .any ops listed)[t % (Region.ready .any ops listed).length]? with
   |some i=>Region.linearise.go .any ops m (t / (Region.ready .any ops listed).length) (listed.setIfInBounds i true) [i]
   |none=>[].reverse)::k)) fs w
  cases hi:(Region.ready .any ops listed)[t % (Region.ready .any ops listed).length]? with
  |none=>exfalso;obtain⟨x,hx⟩:=FV bC hn hedge ae;have jS:0< (Region.ready .any ops listed).length:=List.length_pos_of_mem hx;have:=Nat.mod_lt t jS;rw[List.getElem?_eq_none_iff]at hi;omega
  |some i=>simp only[];have Jr:=mX hi;have hli:=(mem_ready.1 Jr).1;have hu':Bh N (sg listed i)=m:=(by have:=Vk hn hli;show Bh N (listed.setIfInBounds i true)=m;omega);rw[linearise_go_acc,List.reverse_singleton,List.singleton_append];exact hstep listed p7 a w i _ hn hI hD Jr λqX a' w' hI'=>ih _ _ qX a' w' (by simp[hn]) hu' hI'
theorem MO{l:Array Bool}{n:Nat}(hn:n<=N)(h1:∀i,i<n->l.getD i true=true)(h2:∀i,n<=i->i<N->l.getD i true=false):Bh N l=N-n:=by
 unfold Bh;induction N with
 |zero=>simp[sumTo]
 |succ N ih=>
  rcases iC N n with h|h
  ·obtain rfl:n=N+1:=ae;have:sumTo (N+1) (λi=>if l.getD i true then 0 else 1)=sumTo (N+1) λ_=>0:=sumTo_congr λi hi=>(by simp[h1 i hi]);rw[this];have z:∀n,sumTo n (λ_=>0)=0:=λn=>by induction n with
    |zero=>rfl
    |succ n ih=>simp[sumTo,ih]
   rw[z];omega
  ·have hN:=h2 N h ae;have:=ih h λi h3 h4=>h2 i h3 ae;simp only[sumTo,this,hN];simp;omega
theorem xX(st:Stat P S)(hk:b.kind=.normal)(hm:P.follows .mixedOrders=true)(C:Script P S b.fn ops n ds vs a w)
  (h:ZigC P main cs J Stop p7 (b.at ⟨Script.tmps n ds vs a.tmps,a.defers⟩ (.inRegion ops (List.range' n (ops.size-n))::k)) fs w):ZigC P main cs J Stop p7 (b.at a (.code (.region id ops true)::k)) fs w:=by
 refine .walk (DU hm λt=>.stop ?_);have hsize:=C.size;refine Ak rfl C.edge (λlisted qX a' w'=>qX=p7/\Alike w w'/\a'.defers=a.defers/\a'.tmps.size=a.tmps.size/\(∀i,i<n->listed.getD i false=true->a'.tmps.getD (ds i) undef=vs i)/\(∀s,(∀j,j<n->s≠ds j)->a'.tmps.getD s undef=a.tmps.getD s undef)/\
   (∀(i:Nat) (o:Oper),i<n->ops[i]? =some o->listed.getD i false=true->∀e∈o.after,Region.binds .any e=true->listed.getD e.on false=true)/\((∃i,i<n/\listed.getD i false=false)->∀t,n<=t->t<ops.size->listed.getD t false=false)/\((∀i,i<n->listed.getD i false=true)->∀t,n<=t->t<ops.size->listed.getD t false=false))
  (λlisted=>∀i,i<n->listed.getD i false=true) ?_ ?_ ?_ ops.size t _ p7 a _ au (zM _) ⟨rfl,⟨rfl,rfl,rfl⟩,rfl,rfl,λi hi h=>?_,λ_ _=>rfl,λi o hi ho h=>?_,λ_ t _ _=>?_,λ_ t _ _=>?_⟩
 ·rintro listed sQ a' w' i rest hsz ⟨rfl,qd,hd,UK,h1,h2,h3,h4,_⟩ Fx hr hnext;obtain⟨mB,o,ho,gv⟩:=mem_ready.1 hr;have lR:i<ops.size:=(aQ.1 ho).1;obtain⟨i0,yJ,hl0⟩:∃i,i<n/\listed.getD i false=false:=by
   apply cY;intro hc;refine Fx λi hi=>?_;cases e:listed.getD i false with
   |true=>rfl
   |false=>exact absurd ⟨i,hi,e⟩ hc
  have h4:=h4 ⟨i0,yJ,hl0⟩;have hi:i<n:=by
   rcases iC i n with h|h
   ·exact h
   ·exfalso;rcases iC n i with h'|h'
    ·obtain⟨e,he,hb,E5⟩:=C.chain i o h' ho;have:=gv e he hb;rw[E5,h4 (i-1) ae ae]at this;cases this
    ·obtain rfl:i=n:=ae;have:=C.last listed h3 (λo' sM e he hb=>by rw[ho]at sM;obtain rfl:=aP sM;exact gv e he hb) i0 yJ;rw[hl0]at this;cases this
  have OC:=C.dst i o hi ho;have hq:=C.run i o a' hi ho (λe he hb=>h1 _ (by have:=C.edge i o ho e he hb;omega) (gv e he hb)) h2;have hq:Calm P S o a' w' (vs i):=by
   rcases hq with hq|⟨f,args,qV,lR,hcall⟩
   ·refine .inl λτ k=>?_;have:=hq τ k;have e:w.td τ k=w'.td τ k:=wx qd.heap.symm rfl rfl qd.os.symm qd.output.symm;rwa [e]at this
   ·refine .inr ⟨f,args,qV,lR,λτ k=>?_⟩;have:=hcall τ k;have e:w.td τ k=w'.td τ k:=wx qd.heap.symm rfl rfl qd.os.symm qd.output.symm;rwa [e]at this
  refine zigC_calm1 st hk ho (C.want i o hi ho) (C.ok i o hi ho) C.ft hq ?_;rw[OC];have hne:∀x,x≠i->(sg listed i).getD x false=listed.getD x false:=λx hx=>by rw[cE,cE,show(sg listed i)[x]? =listed[x]? from eH (bp hx)]
  have hse:(sg listed i).getD i false=true:=by rw[cE];simp[sg,hsz,lR]
  refine hnext _ _ _ ⟨rfl,qd,hd,by simp[Act.put,UK],λx hx hl=>?_,λs hs=>?_,λx ox hx UL hl e he hb=>?_,λ_ t h5 h6=>by rw[hne t ae];exact h4 t h5 h6,λ_ t h5 h6=>by rw[hne t ae];exact h4 t h5 h6⟩
  ·by_cases e:x=i
   ·subst e;show(a'.tmps.setIfInBounds (ds x) (vs x)).getD _ _=_;have:=C.lt x hx;rw[cE,fD ae];rfl
   ·rw[hne x e]at hl;show(a'.tmps.setIfInBounds (ds i) (vs i)).getD _ _=_;rw[cE,eH (λe'=>e (C.inj x i hx hi e'.symm)),←cE];exact h1 x hx hl
  ·show(a'.tmps.setIfInBounds (ds i) (vs i)).getD _ _=_;rw[cE,eH (bp (hs i hi)),←cE];exact h2 s hs
  ·by_cases e1:x=i
   ·subst e1;rw[ho]at UL;obtain rfl:=aP UL;rw[hne _ (Nat.ne_of_lt (C.edge x o ho e he hb))];exact gv e he hb
   ·rw[hne x e1]at hl;have:=h3 x ox hx UL hl e he hb;by_cases e2:e.on=i
    ·rw[e2];exact hse
    ·rw[hne _ e2];exact this
 ·rintro m t listed sQ a' w' hsz hu hall ⟨rfl,qd,hd,UK,h1,h2,h3,_,h5⟩;have h5:=h5 hall;have vP:m=ops.size-n:=by rw[←hu];refine MO ae (λi hi=>rQ hsz ae (hall i hi)) λi h6 h7=>?_;have h8:=h5 i h6 h7;rw[cE,dI ae]at h8⊢;exact h8
  have hseq:=C.seq;rw[←Aj (n:=n) hsz (λi hi _=>hall i hi) h5]at hseq;rw[vP,SD _ _ _ _ hseq];have ha:a'=⟨Script.tmps n ds vs a.tmps,a.defers⟩:=by
   obtain⟨t',d'⟩:=a';simp only at hd UK h1 h2;subst hd;congr 1;apply Array.ext_getElem?;intro s;by_cases hs:∃j,j<n/\s=ds j
   ·obtain⟨j,hj,rfl⟩:=hs;rw[wW hj C.inj (C.lt j hj)];have:=h1 j hj (hall j hj);rw[cE]at this;have hlt:=C.lt j hj;rw[dI ae]at this⊢;simpa using this
   ·have hs':∀j,j<n->s≠ds j:=λj hj e=>hs ⟨j,hj,e⟩;rw[tX hs'];have:=h2 s hs';rw[cE,cE]at this;rcases iC s t'.size with hlt|CX
    ·rw[dI hlt,dI ae]at this⊢;simpa using this
    ·rw[kP CX,kP ae]
  rw[ha];exact h.alike qd
 ·intro listed hsz hu i hi;apply cY;intro hc;have:listed.getD i true=false:=by have hl:i<listed.size:=ae;rw[cE,dI hl]at hc⊢;simpa using hc
  have:=Ek (n:=ops.size) ae this;omega
 ·exfalso;rw[cE]at h;simp[mL]at h;split at h<;>simp at h
 ·exfalso;rw[cE]at h;simp[mL]at h;split at h<;>simp at h
 ·rw[cE];simp[mL];split<;>simp
 ·rw[cE];simp[mL];split<;>simp
end
end
section
open Go Go.Conc Go.ConcN Go.RowKit Go.Conc.Lib Go.ConcR.Gen Go.ConcN.Gen
open Go.ConcR (KK wgBlock WgAt stA smA rd wr mk Payload Aside2 DC0)
variable[Payload]{L:WgLink}
section
variable{C Low:Nat}{Rd:Nat->Loc->Prop}{Fin:Goroutine->World->Prop}{b₀:Frame}{a₀:Act}{i₀:Nat}{cs:List Frame}{mT:Nat}
omit[Payload]in
theorem aeg{P:Program}(H:WgLib P L)(hF2:∀w w',Aside2 C Wg w w'->F w->F w')
  (hT:∀w,F w->WgLive L.tWg Wg w->Goes P true (RC L.tWg Wg C) (DP Wg BC Rd j Low) Fin mT (G (b₀.at (a₀.put ((ops₀[i₀]?).bind (·.dst)) (.tuple #[])) (.inRegion ops₀ rest₀::k₀)) cs) w)
    (ho:ops₀[i₀]? =some RI) (RJ:Region.wanted RI (yielded ops₀ a₀.tmps)=true) (RL:b₀.kind≠.early) (hop:RI.op=.call {callee:=.value (.func L.add),args:=xs,argTypes:=ats})
  (hxs:xs.map a₀.eval=#[.pointer (some ⟨Wg,0,none⟩),.int .i64 1])(w:World)(hF:F w/\WgLive L.tWg Wg w):
  Goes P true (RC L.tWg Wg C) (DP Wg BC Rd j Low) (Mx P L.tWg Wg C Rd Low j Fin) 60 (G (b₀.at a₀ (.inRegion ops₀ (i₀::rest₀)::k₀)) cs) w:=by
 lib_facts
 u_in (fl_rely hF2) hF
 refine goes_call ho RJ RL hop H.f_add (nm_add L) rfl ⟨by u_nil,?_⟩;rw[hxs]
 walk_nrmf addFn
 repeat(first|u_c stepG_seq (fl_rely hF2) hF|u_reg (fl_rely hF2) hF|u_c stepG_region_end (fl_rely hF2) hF|u_c stepG_skip (fl_rely hF2) hF|u_c stepG_ret' (fl_rely hF2) hF|u_cond false (fl_rely hF2) hF|u_cond true (fl_rely hF2) hF|u_bub (fl_rely hF2) hF|u_op (fl_rely hF2) hF|u_skip (fl_rely hF2) hF|u_defer (fl_rely hF2) hF|u_leave1 H.f_uAdd (fl_rely hF2) hF)
 refine eK (λw₁ h₁=>?_);replace hF:=fl_rely hF2 hF h₁;clear h₁;refine⟨rfl,_,stepG_mark0 .disable au rfl rfl (by k_ne) rfl H.f_disable (x_disable_n L) (x_disable_b L) (x_disable_x L) (x_disable_f L),60,?_⟩;walk_nrm;repeat(first|u_c stepG_seq (fl_rely hF2) hF|u_reg (fl_rely hF2) hF|u_c stepG_region_end (fl_rely hF2) hF|u_c stepG_skip (fl_rely hF2) hF|u_c stepG_ret' (fl_rely hF2) hF|u_cond false (fl_rely hF2) hF|u_cond true (fl_rely hF2) hF|u_bub (fl_rely hF2) hF|u_op (fl_rely hF2) hF|u_skip (fl_rely hF2) hF|u_defer (fl_rely hF2) hF|u_leave1 H.f_uAdd (fl_rely hF2) hF)
 u_call H.f_uAdd (nm_uAdd L) uAddFn (fl_rely hF2) hF
 repeat(first|u_c stepG_seq (fl_rely hF2) hF|u_reg (fl_rely hF2) hF|u_c stepG_region_end (fl_rely hF2) hF|u_c stepG_skip (fl_rely hF2) hF|u_c stepG_ret' (fl_rely hF2) hF|u_cond false (fl_rely hF2) hF|u_cond true (fl_rely hF2) hF|u_bub (fl_rely hF2) hF|u_op (fl_rely hF2) hF|u_skip (fl_rely hF2) hF|u_defer (fl_rely hF2) hF|u_leave1 H.f_uAdd (fl_rely hF2) hF)
 refine eK (λw₂ h₂=>?_);replace hF:=fl_rely hF2 hF h₂;clear h₂;refine⟨rfl,λv hv hw=>?_⟩;rcases jH v with rfl|hvp
 ·replace hw:WgAt L.tWg Wg w₂ 0 0:=by simpa using hw
  have z:(((0:Nat):Int) +1) *KK=KK:=au;rw[z];have e0:IntKind.u64.wrap (0+4294967296)=KK:=az;refine⟨_,(stepG_add_atomic rfl rfl (by k_ne) rfl H.f_addU64 (x_addU64_n L) (x_addU64_b L) (x_addU64_x L) .u64 (x_addU64_f L) rfl rfl hw.cellSt (hw.thaw 0)).trans (by rw[e0];rfl),140,?_⟩;replace hF:F (w₂.setCell (stA Wg) (.int .u64 KK))/\WgLive L.tWg Wg (w₂.setCell (stA Wg) (.int .u64 KK)):=⟨hF2 _ _ (.of_Wg (aside_setCell w₂ (stA Wg) _)) hF.1,⟨_,_,hw.setSt _⟩⟩;clear hw;simp only[KK]at hF⊢;walk_nrm;repeat(first|u_c stepG_seq (fl_rely hF2) hF|u_reg (fl_rely hF2) hF|u_c stepG_region_end (fl_rely hF2) hF|u_c stepG_skip (fl_rely hF2) hF|u_c stepG_ret' (fl_rely hF2) hF|u_cond false (fl_rely hF2) hF|u_cond true (fl_rely hF2) hF|u_bub (fl_rely hF2) hF|u_op (fl_rely hF2) hF|u_skip (fl_rely hF2) hF|u_defer (fl_rely hF2) hF|u_leave1 H.f_uAdd (fl_rely hF2) hF)
  u_conv H.underlying_tPU32 H.room_tU32 (WgLive.cell1 hF.2).choose_spec (fl_rely hF2) hF
  repeat(first|u_c stepG_seq (fl_rely hF2) hF|u_reg (fl_rely hF2) hF|u_c stepG_region_end (fl_rely hF2) hF|u_c stepG_skip (fl_rely hF2) hF|u_c stepG_ret' (fl_rely hF2) hF|u_cond false (fl_rely hF2) hF|u_cond true (fl_rely hF2) hF|u_bub (fl_rely hF2) hF|u_op (fl_rely hF2) hF|u_skip (fl_rely hF2) hF|u_defer (fl_rely hF2) hF|u_leave1 H.f_uAdd (fl_rely hF2) hF)
  u_in (fl_rely hF2) hF
  rw[stepG_markAt .read au rfl rfl (by k_ne) rfl H.f_raceRead (x_raceRead_n L) (x_raceRead_b L) (x_raceRead_x L) (x_raceRead_f L) (ad:=⟨Wg,1,none⟩) cC];simp only[goes_go];refine⟨⟨λ_ _=>rfl,λe he=>?_⟩,?_⟩
  ·rw[Array.mem_singleton]at he;subst he;exact ev0_said_read _ rfl
  walk_nrm;repeat(first|u_c stepG_seq (fl_rely hF2) hF|u_reg (fl_rely hF2) hF|u_c stepG_region_end (fl_rely hF2) hF|u_c stepG_skip (fl_rely hF2) hF|u_c stepG_ret' (fl_rely hF2) hF|u_cond false (fl_rely hF2) hF|u_cond true (fl_rely hF2) hF|u_bub (fl_rely hF2) hF|u_op (fl_rely hF2) hF|u_skip (fl_rely hF2) hF|u_defer (fl_rely hF2) hF|u_leave1 H.f_uAdd (fl_rely hF2) hF)
  refine eK (λw₃ h₃=>?_);replace hF:=fl_rely hF2 hF h₃;clear h₃;refine⟨rfl,_,stepG_unwind_entry (v:=.tuple #[]) (evs:=#[mk .enable]) rfl H.f_enable (x_enable_n L) (x_enable_b L) (x_enable_x L) (x_enable_f L) (by simp[Extern.Race.none_]) (by simp[mk]) (by simp[mk]),mT+1,?_⟩
  u_leave0 H.f_add (fl_rely hF2) hF
  exact hT _ hF.1 hF.2
 ·obtain⟨V,hV⟩:∃V:Int,V=(v:Int) +1:=⟨_,rfl⟩;obtain⟨S,hS⟩:∃S:Int,S=V*KK:=⟨_,rfl⟩;have eS:IntKind.u64.wrap ((v:Int) *KK+4294967296)=S:=by rw[IntKind.wrap_u64,hS,hV];simp only[KK];omega
  rw[←hV,←hS];have a1:S / 4294967296=V:=by rw[hS];simp only[KK];omega
  have b1:bits .and .u64 S 2147483648=0:=by rw[hS,hV];have:=st_flag (v+1) 0 ae ae;simpa[KK]using this
  have b2:bits .and .u64 S 2147483647=0:=by rw[hS,hV];have:=st_waiters (v+1) 0 ae ae;simpa[KK]using this
  have c1:IntKind.i32.wrap V=V:=by rw[IntKind.wrap_i32];omega
  have hV1:1<V:=ae;have hV2:V<2147483648:=ae;have q1:(V==1)=false:=bV;have q2:decide (V=1)=false:=decide_eq_false ae;have q3:decide (V<0)=false:=decide_eq_false ae;have q4:decide (0<V)=true:=decide_eq_true ae;have q5:(V==0)=false:=bV;have q6:decide (V=0)=false:=decide_eq_false ae;refine⟨_,(stepG_add_atomic rfl rfl (by k_ne) rfl H.f_addU64 (x_addU64_n L) (x_addU64_b L) (x_addU64_x L) .u64 (x_addU64_f L) rfl rfl hw.cellSt (hw.thaw 0)).trans (by rw[eS];rfl),140,?_⟩;replace hF:F (w₂.setCell (stA Wg) (.int .u64 S))/\WgLive L.tWg Wg (w₂.setCell (stA Wg) (.int .u64 S)):=⟨hF2 _ _ (.of_Wg (aside_setCell w₂ (stA Wg) _)) hF.1,⟨_,_,hw.setSt _⟩⟩;clear hw hS hV eS;walk_nrm;u_op (fl_rely hF2) hF
  u_c stepG_region_end (fl_rely hF2) hF
  u_c stepG_ret' (fl_rely hF2) hF
  u_leave1 H.f_uAdd (fl_rely hF2) hF
  u_op (fl_rely hF2) hF
  u_c stepG_region_end (fl_rely hF2) hF
  iterate 2 (u_c stepG_seq (fl_rely hF2) hF)
  u_reg (fl_rely hF2) hF
  iterate 4 (u_op (fl_rely hF2) hF)
  iterate 2 (u_skip (fl_rely hF2) hF)
  u_op (fl_rely hF2) hF
  u_c stepG_region_end (fl_rely hF2) hF
  u_cnd false (fl_rely hF2) hF
  u_c stepG_skip (fl_rely hF2) hF
  u_c stepG_seq (fl_rely hF2) hF
  u_reg (fl_rely hF2) hF
  iterate 4 (u_op (fl_rely hF2) hF)
  u_c stepG_region_end (fl_rely hF2) hF
  u_c stepG_seq (fl_rely hF2) hF
  u_reg (fl_rely hF2) hF
  iterate 4 (u_op (fl_rely hF2) hF)
  u_c stepG_region_end (fl_rely hF2) hF
  iterate 2 (u_c stepG_seq (fl_rely hF2) hF)
  u_reg (fl_rely hF2) hF
  iterate 10 (u_op (fl_rely hF2) hF)
  u_c stepG_region_end (fl_rely hF2) hF
  u_cnd false (fl_rely hF2) hF
  u_c stepG_skip (fl_rely hF2) hF
  iterate 2 (u_c stepG_seq (fl_rely hF2) hF)
  u_reg (fl_rely hF2) hF
  iterate 2 (u_op (fl_rely hF2) hF)
  u_c stepG_region_end (fl_rely hF2) hF
  u_cnd false (fl_rely hF2) hF
  u_c stepG_skip (fl_rely hF2) hF
  iterate 2 (u_c stepG_seq (fl_rely hF2) hF)
  u_reg (fl_rely hF2) hF
  iterate 3 (u_op (fl_rely hF2) hF)
  iterate 2 (u_skip (fl_rely hF2) hF)
  iterate 2 (u_op (fl_rely hF2) hF)
  iterate 4 (u_skip (fl_rely hF2) hF)
  u_op (fl_rely hF2) hF
  u_c stepG_region_end (fl_rely hF2) hF
  u_cnd false (fl_rely hF2) hF
  u_c stepG_skip (fl_rely hF2) hF
  iterate 2 (u_c stepG_seq (fl_rely hF2) hF)
  u_reg (fl_rely hF2) hF
  iterate 3 (u_op (fl_rely hF2) hF)
  iterate 2 (u_skip (fl_rely hF2) hF)
  u_op (fl_rely hF2) hF
  u_c stepG_region_end (fl_rely hF2) hF
  u_cnd true (fl_rely hF2) hF
  u_c stepG_ret' (fl_rely hF2) hF
  refine eK (λw₃ h₃=>?_);replace hF:=fl_rely hF2 hF h₃;clear h₃;refine⟨rfl,_,stepG_unwind_entry (v:=.tuple #[]) (evs:=#[mk .enable]) rfl H.f_enable (x_enable_n L) (x_enable_b L) (x_enable_x L) (x_enable_f L) (by simp[Extern.Race.none_]) (by simp[mk]) (by simp[mk]),mT+1,?_⟩
  u_leave0 H.f_add (fl_rely hF2) hF
  exact hT _ hF.1 hF.2
end
end
section
open Go Go.Conc Go.ConcN
def iQ(ops:Array Oper)(i:Nat):Nat:=((ops[i]?).bind (·.dst)).getD 0
def M3(P:Program)(S:ba)(fn:FuncId)(ops:Array Oper)(n sz i:Nat):Bool:=match ops[i]? with
 |none=>false
 |some o=>(match o.dst with
   |none=>false
   |some d=>decide (d<sz) &&(List.range i).all λj=>match ops[j]? with
    |some oj=>oj.dst !=some d
    |none=>true) &&o.guard.isNone&&eV P S fn o&&o.op.operands.all λx=>match x with
   |.tmp t=>(List.range n).all λj=>match ops[j]? with
    |some oj=>oj.dst !=some t||o.after.any λe=>Region.binds .any e&&e.on==j
    |none=>true
   |_=>true
def S4(P:Program)(S:ba)(fn:FuncId)(ops:Array Oper)(n sz:Nat):Bool:=
 decide (n<ops.size) &&Region.noSelect ops&&((List.range ops.size).all λi=>match ops[i]? with
  |none=>false
  |some o=>o.after.all λe=>!Region.binds .any e||decide (e.on<i)) &&((List.range n).all λi=>M3 P S fn ops n sz i) &&Region.sinkB .any ops n&&Region.chainB .any ops n&&Region.seqB .any ops (ops.size-n) n (rP ops.size n)
def Ez(K:Value->World->Prop):Result Next->Prop
 |.ok (.value v) w=>K v w
 |_=>False
theorem a8(K:Value->World->Prop)(v:Value)(w:World):Ez K (.ok (.value v) w)=K v w:=rfl
def Ord(P:Program)(S:ba)(w:World)(K:Act->Prop):List Oper->Act->Prop
 |[],a=>K a
 |o::l,a=>∃v,Calm P S o a w v/\Ord P S w K l (a.put o.dst v)
theorem O4{P:Program}{S:ba}{w:World}(h:Calm P S o a w v)(e:execOp a'.eval o=execOp a.eval o):Calm P S o a' w v:=by unfold Calm at*;rw[e];exact h
theorem eval_other(a a':Act)(x:Operand)(h:∀t,x=.tmp t->a'.tmps.getD t undef=a.tmps.getD t undef):a'.eval x=a.eval x:=by cases x<;>first|exact h _ rfl|rfl
section
variable{P:Program}{S:ba}{fn:FuncId}{ops:Array Oper}{n sz:Nat}{w:World}{K:Act->Prop}
theorem ZW(OC:∀i,i<n->∃o d,ops[i]? =some o/\o.dst=some d/\d<sz):∀(l:List Oper) (i:Nat) (a:Act),(∀j,j<l.length->l[j]? =ops[i+j]?)->i+l.length=n->Ord P S w K l a->
  ∃vs:Nat->Value,K ⟨(List.range' i l.length).foldl (λt j=>t.setIfInBounds (iQ ops j) (vs j)) a.tmps,a.defers⟩/\
   ∀j,i<=j->j<n->∃o,ops[j]? =some o/\Calm P S o ⟨(List.range' i (j-i)).foldl (λt j=>t.setIfInBounds (iQ ops j) (vs j)) a.tmps,a.defers⟩ w (vs j):=by
 intro l;induction l with
 |nil=>intro i a _ hn h;exact⟨λ_=>undef,h,λj h1 h2=>by simp at hn;omega⟩
 |cons o l ih=>
  intro i a hl hn h;obtain⟨v,hc,h⟩:=h;have h0:ops[i]? =some o:=by simpa using(hl 0 au).symm
  simp only[ew]at hn;obtain⟨vs,hK,hv⟩:=ih (i+1) _ (λj hj=>by have:=hl (j+1) bV;simpa[Nat.add_assoc,Nat.add_comm 1 j]using this) ae h;obtain⟨o',d,h1,h2,_⟩:=OC i ae;rw[h0]at h1;obtain rfl:=aP h1;have hd:iQ ops i=d:=by simp[iQ,h0,h2]
  have hput:a.put o.dst v=⟨a.tmps.setIfInBounds d v,a.defers⟩:=by rw[h2];rfl
  rw[hput]at hK hv;have XK:∀(m:Nat) (t:Array Value),(List.range' (i+1) m).foldl (λt j=>t.setIfInBounds (iQ ops j) (if j=i then v else vs j)) t=(List.range' (i+1) m).foldl (λt j=>t.setIfInBounds (iQ ops j) (vs j)) t:=by
   have key:∀(m s:Nat) (t:Array Value),i<s->(List.range' s m).foldl (λt j=>t.setIfInBounds (iQ ops j) (if j=i then v else vs j)) t=(List.range' s m).foldl (λt j=>t.setIfInBounds (iQ ops j) (vs j)) t:=by
    intro m;induction m with
    |zero=>intro s t _;rfl
    |succ m ihm=>intro s t hs;simp only[List.range'_succ,sH];rw[if_neg ae,ihm (s+1) _ ae]
   exact λm t=>key m (i+1) t (Nat.lt_succ_self _)
  refine⟨λj=>if j=i then v else vs j,?_,λj h3 h4=>?_⟩
  ·simp only[ew,List.range'_succ,sH,if_true];rw[XK,hd];exact hK
  ·by_cases e:j=i
   ·subst e;refine⟨o,h0,?_⟩;simp only[Nat.sub_self,if_true];exact hc
   ·obtain⟨oj,h5,h6⟩:=hv j ae h4;refine⟨oj,h5,?_⟩;have e2:(if j=i then v else vs j)=vs j:=if_neg e;have e3:j-i=(j- (i+1)) +1:=ae;show Calm P S oj ⟨(List.range' i (j-i)).foldl (λt x=>t.setIfInBounds (iQ ops x) (if x=i then v else vs x)) a.tmps,a.defers⟩ w (if j=i then v else vs j);rw[e2,e3];simp only[List.range'_succ,sH,if_true];rw[XK,hd];exact h6
theorem Ao(ds:Nat->Nat)(vs:Nat->Value)(t:Array Value)(m:Nat):(List.range' 0 m).foldl (λt j=>t.setIfInBounds (ds j) (vs j)) t=Script.tmps m ds vs t:=by rw[←List.range_eq_range'];rfl
theorem KX(hB:S4 P S fn ops n sz=true)(hsz:a.tmps.size=sz)(wm:∀t,S.ft fn t=false)(h:Ord P S w K (ops.toList.take n) a):
  ∃vs:Nat->Value,Script P S fn ops n (iQ ops) vs a w/\K ⟨Script.tmps n (iQ ops) vs a.tmps,a.defers⟩:=by
 unfold S4 at hB;simp only[bK,decide_eq_true_eq,fT,mJ]at hB;obtain⟨⟨⟨⟨⟨⟨hsize,VP⟩,hedge⟩,vr⟩,S5⟩,KY⟩,hseq⟩:=hB;have vr:∀i,i<n->∃o d,ops[i]? =some o/\o.dst=some d/\d<sz/\(∀j,j<i->∀oj,ops[j]? =some oj->oj.dst≠some d)/\o.guard=none/\eV P S fn o=true/\
   ∀t,Operand.tmp t∈o.op.operands->∀j,j<n->∀oj,ops[j]? =some oj->oj.dst=some t->∃e∈o.after,Region.binds .any e=true/\e.on=j:=λi hi=>by
  have h1:=vr i hi;unfold M3 at h1;cases ho:ops[i]? with
  |none=>rw[ho]at h1;cases h1
  |some o=>
   rw[ho]at h1;simp only[bK,Option.isNone_iff_eq_none]at h1;obtain⟨⟨⟨h2,h3⟩,h4⟩,h5⟩:=h1;cases hd:o.dst with
   |none=>rw[hd]at h2;cases h2
   |some d=>
    rw[hd]at h2;simp only[bK,decide_eq_true_eq,fT,mJ]at h2;refine⟨o,d,rfl,hd,h2.1,λj hj oj ME=>?_,h3,h4,λt ht j hj oj ME he=>?_⟩
    ·have:=h2.2 j hj;rw[ME]at this;simpa using this
    ·have h6:=Cz.1 h5 _ ht;simp only[fT,mJ]at h6;have h7:=h6 j hj;rw[ME]at h7;simp only[he,bne_self_eq_false,Bool.false_or]at h7;obtain⟨e,Ap,h8⟩:=Array.any_eq_true'.1 h7;simp only[bK,beq_iff_eq]at h8;exact⟨e,Ap,h8.1,h8.2⟩
 have hl:(ops.toList.take n).length=n:=bV;obtain⟨vs,hK,hv⟩:=ZW (n:=n) (sz:=sz) (λi hi=>by obtain⟨o,d,h1,h2,h3,_⟩:=vr i hi;exact⟨o,d,h1,h2,h3⟩) (ops.toList.take n) 0 a (λj hj=>by rw[hl]at hj;simp[hj]) (by rw[cM];exact hl) h;rw[hl,Ao]at hK;have yt:∀i,i<n->∀o,ops[i]? =some o->o.dst=some (iQ ops i):=λi hi o ho=>by obtain⟨o',d,h1,h2,_⟩:=vr i hi;rw[ho]at h1;obtain rfl:=aP h1;simp[iQ,ho,h2]
 have acs:∀i j,i<n->j<n->iQ ops i=iQ ops j->i=j:=λi j hi hj e=>by
  have key:∀i j,j<n->i<j->iQ ops i≠iQ ops j:=λi j hj pM he=>by obtain⟨o,d,h1,h2,_,h4,_⟩:=vr j hj;obtain⟨o',d',h1',zh,_⟩:=vr i ae;refine h4 i pM o' h1' ?_;rw[yt i ae o' h1',he,←yt j hj o h1];exact h2
  rcases Nat.lt_trichotomy i j with h|h|h
  ·exact absurd e (key i j hj h)
  ·exact h
  ·exact absurd e.symm (key j i hi h)
 have hlt:∀i,i<n->iQ ops i<a.tmps.size:=λi hi=>by obtain⟨o,d,h1,h2,h3,_⟩:=vr i hi;have:=yt i hi o h1;rw[h2]at this;rw[hsz,←aP this];exact h3
 refine⟨vs,⟨hsize,λi o ho e he IE=>?_,λi o hi ho=>yt i hi o ho,acs,hlt,λi o hi ho=>?_,λi o hi ho=>?_,wm,λi o a' hi ho gv bT=>?_,λt o ht ho=>?_,hseq,λlisted h1 h2 i hi=>?_⟩,hK⟩
 ·have hi:i<ops.size:=(aQ.1 ho).1;have:=hedge i hi;rw[ho]at this;have:=Cz.1 this e he;rw[IE]at this;simpa using this
 ·obtain⟨o',d,h1,h2,_,_,h5,_⟩:=vr i hi;rw[ho]at h1;obtain rfl:=aP h1;exact h5
 ·obtain⟨o',d,h1,h2,_,_,_,h5,_⟩:=vr i hi;rw[ho]at h1;obtain rfl:=aP h1;exact h5
 ·obtain⟨o',h1,h2⟩:=hv i (bj _) hi;rw[ho]at h1;obtain rfl:=aP h1;obtain⟨o',d,h1,h3,_,_,_,_,h5⟩:=vr i hi;rw[ho]at h1;obtain rfl:=aP h1;rw[Nat.sub_zero,Ao]at h2;refine O4 h2 (execOp_congr o (Region.noSelect_spec VP i o · · ho) λx hx=>eval_other _ _ x λt ht=>?_);subst ht;by_cases lR:∃j,j<n/\t=iQ ops j
  ·obtain⟨j,hj,rfl⟩:=lR;obtain⟨oj,dj,h6,h7,_⟩:=vr j hj;obtain⟨e,he,hb,E5⟩:=h5 _ hx j hj oj h6 (yt j hj oj h6);have E0:j<i:=(by have:=hedge i ae;rw[ho]at this;have:=Cz.1 this e he;rw[hb]at this;simp at this;omega);have h8:=gv e he hb;rw[E5]at h8;rw[h8,cE,wW E0 (λx y hx hy=>acs x y ae ae) (hlt j hj)];rfl
  ·have hno:∀j,j<n->t≠iQ ops j:=λj hj e=>lR ⟨j,hj,e⟩;rw[bT t hno,cE,cE,tX λj hj=>hno j ae]
 ·unfold Region.chainB at KY;simp only[fT,mJ,uA,decide_eq_true_eq]at KY;rcases KY t (aQ.1 ho).1 with h|h
  ·omega
  ·obtain⟨o',sM,e,he,hb,E5⟩:=Region.waitsFor_spec h;rw[ho]at sM;obtain rfl:=aP sM;exact⟨e,he,hb,E5⟩
 ·unfold Region.sinkB at S5;simp only[fT,List.any_eq_true,mJ,bK,decide_eq_true_eq]at S5;have down:∀m i,n-i<=m->i<n->listed.getD i false=true:=by
   intro m;induction m with
   |zero=>intro i h3 h4;omega
   |succ m ih=>
    intro i h3 h4;obtain⟨j,hj,pM,hw⟩:=S5 i h4;obtain⟨oj,ME,e,he,hb,E5⟩:=Region.waitsFor_spec hw;rw[←E5];by_cases e2:j=n
    ·subst e2;exact h2 oj ME e he hb
    ·exact h1 j oj ae ME (ih j ae ae) e he hb
  exact down n i ae hi
end
section
variable{P:Program}{S:ba}{main:Bool}{cs:List Frame}{J:dA ι}{Stop:ι->Frame->List Frame->World->Prop}{ops:List Oper}{id:Nat}{w:World}
theorem gi{U:List Frame->Prop}{fn:FuncId}{Q:ι->Exit->Act->World->Prop}(st:Stat P S)(n sz:Nat)(tail:List Nat)(ht:List.range' n (ops.length-n)=tail)(hm:P.follows .mixedOrders=true)(wm:∀t,S.ft fn t=false)(hB:S4 P S fn ops.toArray n sz=true)(hsz:a.tmps.size=sz)
  (h:Ord P S w (λa'=>qJ P main cs J Stop U fn ops.toArray tail Q p7 a' w) (ops.take n) a):wpM P main cs J Stop U fn (.region id ops.toArray true) Q p7 a w:=by
 intro b k fs h1 h2 h3 hc;subst h1;obtain⟨vs,hC,hK⟩:=KX (ops:=ops.toArray) hB hsz wm h;have hK:=hK b k fs rfl h2 h3 hc;rw[←ht]at hK;exact xX st h2 hm hC (by simpa using hK)
theorem iH{K:Act->Prop}(h:K a):Ord P S w K [] a:=h
theorem V7{K:Act->Prop}{l:List Oper}(hv:∀τ k (Kv:Value->Prop),(∀u,u=v->Kv u)->Ez (λu w'=>w'=w.td τ k/\Kv u) ((execOp a.eval o).run P (w.td τ k)))(h:Ord P S w K l (a.put o.dst v)):Ord P S w K (o::l) a:=by
 refine⟨v,.inl λτ k=>?_,h⟩;have:=hv τ k (λu=>u=v) λ_ h=>h;generalize (execOp a.eval o).run P (w.td τ k)=X at this;unfold Ez at this;split at this
 ·obtain⟨rfl,rfl⟩:=this;rfl
 ·exact this.elim
theorem vz{K:Act->Prop}{l:List Oper}{fn:Func}{args:Array Value}(hop:o.op=.call {callee:=.value (.func f),args:=xs,argTypes:=ats})(hf:P.funcs[f]? =some fn)(hname:(fn.name== "runtime.NumGoroutine")=false)(hb:fn.body=some c)(hxs:xs.map a.eval=args)(lR:wj P S f args)
  (hc:∀τ k,Calls P f args (w.td τ k) λe w2=>e=.returned v/\w.td τ k=w2)(h:Ord P S w K l (a.put o.dst v)):Ord P S w K (o::l) a:=
 ⟨v,.inr ⟨f,args,λw1=>hxs▸tQ hop hf hname hb w1,lR,hc⟩,h⟩
end
end
section
open Go.RowKit
def ij(s o:Nat)(zs:List Int)(w:World):Prop:=∀i,i<zs.length->w.cell? ⟨s,o+i,none⟩=some (.int .i64 (zs.getD i 0))
def lC(z:Int):Prop:=0<=z/\z<=1048575
theorem Pf(z:Int)(w:World)(h:lC z):Calls prog 37 #[.int .i64 z] w λe w'=>e=.returned (.bool false)/\w=w':=by
 obtain⟨h0,h1⟩:=h;go_enter func37,ntmps37
 go_wp2_with (first|(go_at_call 38;((with_reducible refine(lI _ _ h0 h1).mono ?_);rintro e w' ⟨rfl,rfl⟩)))
 go_ret
 exact⟨rfl,rfl⟩
theorem Td(z:Int)(w:World)(h:¬lC z):Calls prog 37 #[.int .i64 z] w λe w'=>e=.returned (.bool true)/\w=w':=by
 have hh:z<0\/1048575<z:=by unfold lC at h;omega
 have H:=ai hh;clear h hh;go_enter func37,ntmps37
 go_wp2_with (first|(go_at_call 38;((with_reducible refine(rE _ _ H.out).mono ?_);rintro e w' ⟨rfl,rfl⟩)))
 go_ret
 exact⟨rfl,rfl⟩
theorem Te(cap:Array Value):∀w,(callFunc 37 cap).run prog w=.ok (.enter 37 cap) w:=λw=>ax
def acA(zs:List Int)(r:Int):Prop:=(r= -1/\∀i,i<zs.length->lC (zs.getD i 0))\/(∃k:Nat,r=k/\k<zs.length/\¬lC (zs.getD k 0))
def Tf(zs:List Int)(w:World)(e:Ending)(w':World):Prop:=∃r:Int,e=.returned (.int .i64 r)/\acA zs r/\w=w'
theorem Lm(s o cap:Nat)(zs:List Int)(w:World)(h:ij s o zs w)(hn:zs.length<=1000):Calls prog 78 #[.slice (some ⟨s,o,none⟩) zs.length cap,.func (.func 37) #[] #[]] w (Tf zs w):=by
 have H:=ai h;clear h;have hcall:=Te;go_enter func78,ntmps78
 go_wp2
 go_loop [8] (λi=>∃k:Nat,k<=zs.length/\i=.int .i64 k/\∀j,j<k->lC (zs.getD j 0)) (λi=>zs.length- (intOf i).toNat)
 case atStart=>exact⟨0,bj _,rfl,λj hj=>ae⟩
 case round=>
  obtain⟨k,hk,rfl,oL⟩:=hrel;have Hg:=ai oL;clear oL;by_cases hlt:k<zs.length
  ·have hc:=H.out k hlt;generalize hz:zs.getD k 0=z at hc;have Hz:=ai hz;clear hz;by_cases hl:lC z
   ·have Hl:=ai hl;clear hl;go_wp2_with (first|(go_at_call 37;((with_reducible refine(Pf _ _ Hl.out).mono ?_);rintro e w' ⟨rfl,rfl⟩)))
    go_round
    case rel=>exact⟨k+1,ae,gl,λj hj=>by
     by_cases e:j=k
     ·subst e;rw[Hz.out];exact Hl.out
     ·exact Hg.out j ae⟩
    case measure=>simp[intOf];omega
   ·have Hl:=ai hl;clear hl;go_wp2_with (first|(go_at_call 37;((with_reducible refine(Td _ _ Hl.out).mono ?_);rintro e w' ⟨rfl,rfl⟩)))
    go_ret
    exact⟨k,rfl,.inr ⟨k,rfl,hlt,by rw[Hz.out];exact Hl.out⟩,rfl⟩
  ·go_wp2;go_ret
   exact⟨-1,rfl,.inl ⟨rfl,λi hi=>Hg.out i ae⟩,rfl⟩
def nI(zs:List Int):Bool:=zs.all λz=>decide (0<=z/\z<=1048575)
theorem mr(zs:List Int):nI zs=true↔∀i,i<zs.length->lC (zs.getD i 0):=by
 unfold nI lC;rw[fT];constructor
 ·intro h i hi;have:=h (zs[i]) (pP hi);simpa[cQ,hi]using this
 ·intro h z hz;obtain⟨i,hi,rfl⟩:=List.getElem_of_mem hz;have:=h i hi;simpa[cQ,hi]using this
theorem sU(s o cap:Nat)(zs:List Int)(w:World)(h:ij s o zs w)(hn:zs.length<=1000):Calls prog 36 #[.slice (some ⟨s,o,none⟩) zs.length cap,.func (.func 37) #[] #[]] w λe w'=>e=.returned (.bool (!nI zs))/\w=w':=by
 have H:=ai h;clear h;go_enter func36,ntmps36
 go_wp2_with fail
 refine(Lm s o cap zs w H.out hn).mono ?_;rintro e w' ⟨r,rfl,hb,rfl⟩;have hd:decide (0<=r)=!nI zs:=by
  rcases hb with⟨rfl,hg⟩|⟨k,rfl,hk,hg⟩
  ·rw[(mr zs).2 hg];rfl
  ·have:nI zs=false:=(by rw[Bool.eq_false_iff];exact λe=>hg ((mr zs).1 e k hk));rw[this];simp
 have Hd:=ai hd;clear hd hb;go_wp2;go_ret
 exact⟨by rw[←Hd.out];rfl,rfl⟩
theorem acB:(prog.info? 115).map (λi=>(i.zero,i.size,i.bytes))=some (some (.agg #[.int .i64 0]),1,8):=ax
noncomputable def gV(s:Value):Array Value:=Tryz.zeroCells105.setIfInBounds 0 s
theorem B8(s:Value):(gV s).size=8201:=by rw[gV,xN];exact Tryz.zeroCells105_size
theorem B9(s:Value):(gV s)[0]? =some s:=by rw[gV,Ff,if_pos rfl,if_pos (by rw[Tryz.zeroCells105_size];omega)]
def pU(zs:List Int):Nat->List Int
 |0=>List.replicate zs.length 0
 |k+1=>(pU zs k).set k (zs.getD k 0*1099511627776)
theorem jo(zs:List Int)(k:Nat):(pU zs k).length=zs.length:=by
 induction k with
 |zero=>simp[pU]
 |succ k ih=>simp[pU,ih]
theorem Pg(zs:List Int)(k i:Nat)(hk:k<=zs.length)(hi:i<zs.length):(pU zs k).getD i 0=if i<k then zs.getD i 0*1099511627776 else 0:=by
 induction k with
 |zero=>simp[pU,cQ,List.getElem?_replicate,hi]
 |succ k ih=>
  rw[pU,xx _ _ _ _ (by rw[jo];omega),ih ae];by_cases e:k=i
  ·subst e;rw[if_pos rfl,if_pos ae]
  ·rw[if_neg e];by_cases h:i<k
   ·rw[if_pos h,if_pos ae]
   ·rw[if_neg h,if_neg ae]
def yC(zs:List Int):List Int:=pU zs zs.length
theorem mY(zs:List Int):(yC zs).length=zs.length:=jo _ _
theorem G4(zs:List Int)(i:Nat)(hi:i<zs.length):(yC zs).getD i 0=zs.getD i 0*1099511627776:=by rw[yC,Pg _ _ _ (aY _) hi,if_pos hi]
theorem Ln(zs:List Int)(h:∀i,i<zs.length->lC (zs.getD i 0)):Words (yC zs):=by intro i hi;rw[mY]at hi;rw[G4 _ _ hi];obtain⟨a,b⟩:=h i hi;omega
structure xg(b c:Nat)(ws:List Int)(w:World):Prop where
 ne:b≠c
 bb:w.heap[b]? =some (.cells (gV (.slice (some ⟨c,0,none⟩) ws.length ws.length)) 105 (0,0))
 cc:∃e,w.heap[c]? =some (.cells (ws.map λx=>Value.int .i64 x).toArray e (0,0))
theorem xg.hdr{b c:Nat}{w:World}(h:xg b c ws w):w.cell? ⟨b,0,none⟩=some (.slice (some ⟨c,0,none⟩) ws.length ws.length):=by rw[af h.bb];exact B9 _
theorem xg.word{b c:Nat}{w:World}(h:xg b c ws w)(i:Nat)(hi:i<ws.length):w.cell? ⟨c,i,none⟩=some (.int .i64 (ws.getD i 0))/\w.frozen? ⟨c,i,none⟩=false:=by obtain⟨e,hc⟩:=h.cc;refine⟨?_,ay hc i (bj _)⟩;rw[af hc];simp[cQ,hi]
theorem xg.set{b c:Nat}{y:Int}{w:World}(h:xg b c ws w):xg b c (ws.set i y) (w.setCell ⟨c,i,none⟩ (.int .i64 y)):=by obtain⟨e,hc⟩:=h.cc;refine⟨h.ne,by rw[List.length_set,ah h.ne];exact h.bb,e,?_⟩;rw[aq hc,jD,List.map_set]
def Lp(zs:List Int)(w:World)(e:Ending)(w':World):Prop:=e=.returned (.tuple #[.pointer (some ⟨w.heap.size+1,0,none⟩),.int .i64 0])/\xg (w.heap.size+1) w.heap.size (yC zs) w'/\Below w.heap.size w w'/\w'.heap.size=w.heap.size+2
theorem Ax{P:Program}(w:World)(base:Nat)(t e:TypeId)(i:TypeInfo)(z:Value)(size:Nat)(ht:P.underlying t=some (.slice e))(hi:P.info? e=some i)(hz:i.zero=some z)(hsize:i.size=size)
  (kl kc:IntKind)(n:Nat)(hbytes:i.bytes*n<=281474976710656)(h63:n<=maxLen)(hbase:base<=w.heap.size):
  ∃w',(Instr.makeSlice t (.int kl (n:Int)) (.int kc (n:Int))).run P w=.ok (.slice (some ⟨w.heap.size,0,none⟩) n n) w'/\
   w'.ownsRow base e size (.slice (some ⟨w.heap.size,0,none⟩) n n) n (madeCells z.cells (n*size)).toList/\w.grownBy w' none/\w'.heap.size=w.heap.size+1:=by
 subst hsize;have aer:(n:Int)<=9223372036854775807:=by have h:=h63;simp[maxLen]at h;omega
 have hb':(i.bytes:Int) *(n:Int)<=281474976710656:=by have h:((i.bytes*n:Nat):Int)<=281474976710656:=ae;rwa [Int.natCast_mul]at h
 have hr:=run_make (P:=P) w t e i z ht hi hz kl kc n n ae (Int.le_refl _) hb' aer;simp only[Int.toNat_natCast]at hr;exact⟨_,hr,World.ownsRow_lit w _ n hbase h63 (size_madeCells _ _),World.grownBy_alloc w _ none,bI _ _⟩
theorem new_few(a:Option Addr)(cap:Nat)(w:World):Calls prog 18 #[.slice a 0 cap] w λe w'=>e=.returned (.tuple #[.pointer none,.int .i64 261])/\w=w':=by
 go_enter func18,ntmps18
 go_wp2;go_ret2
 exact⟨rfl,rfl⟩
theorem new_many(a:Option Addr)(n cap:Nat)(w:World)(_h:64<n)(h2:n<=1000):Calls prog 18 #[.slice a n cap] w λe w'=>e=.returned (.tuple #[.pointer none,.int .i64 261])/\w=w':=by
 have h1:((n:Int)==0)=false:=by rw[beq_eq_false_iff_ne];omega
 have h3:decide (64< (n:Int))=true:=bV;go_enter func18,ntmps18
 go_wp2;go_ret2
 exact⟨rfl,rfl⟩
theorem new_value(s o cap:Nat)(zs:List Int)(w:World)(h:ij s o zs w)(h1:1<=zs.length)(h2:zs.length<=64)(hb:nI zs=false):Calls prog 18 #[.slice (some ⟨s,o,none⟩) zs.length cap] w λe w'=>e=.returned (.tuple #[.pointer none,.int .i64 263])/\w=w':=by
 have h3:((zs.length:Int)==0)=false:=by rw[beq_eq_false_iff_ne];omega
 have h4:decide (64< (zs.length:Int))=false:=bV;have hc:=sU s o cap zs w h ae;rw[hb]at hc;have Hc:=ai hc;clear h hb hc;go_enter func18,ntmps18
 go_wp2_with (go_at_call 36;refine Hc.out.mono ?_;rintro e w' ⟨rfl,rfl⟩)
 go_ret2
 exact⟨rfl,rfl⟩
theorem new_yes(s o cap:Nat)(zs:List Int)(w:World)(h:ij s o zs w)(h1:1<=zs.length)(h2:zs.length<=64)(hb:nI zs=true)(hs:s<w.heap.size):Calls prog 18 #[.slice (some ⟨s,o,none⟩) zs.length cap] w (Lp zs w):=by
 have h3:((zs.length:Int)==0)=false:=by rw[beq_eq_false_iff_ne];omega
 have h4:decide (64< (zs.length:Int))=false:=bV;have hc:=sU s o cap zs w h ae;have hl:=(mr zs).1 hb;rw[hb]at hc;obtain⟨ia,hia,za0,za1,za2⟩:=info_parts acB;obtain⟨w1,hrun,hown,hgrow,BL⟩:=Ax (P:=prog) w w.heap.size 95 115 ia _ 1 underlying95 hia za0 za1 .i64 .i64 zs.length (by rw[za2];omega) iw (aY _);have hb1:Below w.heap.size w w1:=(iF _ _).grown hgrow (aY _) (λk hk=>G5);have hsz:w.heap.size<w1.heap.size:=(hown.lt w.heap.size rfl).2;have hi1:ij s o zs w1:=λi hi=>(hb1.cell (p:=⟨s,o+i,none⟩) hs).trans (h i hi);obtain⟨W,hW⟩:∃W,W=w1.alloc (.cells (Tryz.zeroCells105.setIfInBounds 0 (.slice (some ⟨w.heap.size,0,none⟩) zs.length zs.length)) 105):=⟨_,rfl⟩;have bW:W.heap[w1.heap.size]? =some (.cells (gV (.slice (some ⟨w.heap.size,0,none⟩) zs.length zs.length)) 105 (0,0)):=by rw[hW];show(w1.heap.push _)[w1.heap.size]? =_;rw[cF,if_pos rfl];rfl
 have cW:∀i,W.cell? ⟨w1.heap.size,i,none⟩=(gV (.slice (some ⟨w.heap.size,0,none⟩) zs.length zs.length))[i]? :=λi=>by simp[World.cell?,bW]
 have fW:∀i,W.frozen? ⟨w1.heap.size,i,none⟩=false:=λi=>by simp[World.frozen?,bW]
 have kW:Below w.heap.size w W:=by rw[hW];exact hb1.alloc ae _
 have iW:ij s o zs W:=λi hi=>by rw[hW,qf _ _ _ (by show s<_;omega)];exact hi1 i hi
 have jW:xg w1.heap.size w.heap.size (pU zs 0) W:=by
  refine⟨ae,by rw[jo];exact bW,115,?_⟩;rcases hown.2 with⟨h,_⟩|⟨g,cap',cur,heq,_,hb',_,_,hcs,Tg⟩
  ·cases h
  ·cases heq;have e:(madeCells (Value.agg #[.int .i64 0]).cells (zs.length*1)).toList=List.replicate (zs.length*1) (.int .i64 0):=toList_madeCells_one _ _;rw[e,List.take_of_length_le (by simp only[Array.length_toList];omega)]at Tg;rw[hW];show(w1.heap.push _)[w.heap.size]? =_;rw[cF,if_neg ae,hb'];congr 2;rw[←Array.toList_inj,Tg];simp[pU]
 have sW:W.heap.size=w.heap.size+2:=by rw[hW,bI,BL]
 have HsW:=ai sW;have HW:=ai jW;have Hc:=ai hc;have HkW:=ai kW;have HiW:=ai iW;have Hl:=ai hl;have HWe:=ai hW;have Hi:=ai h;have aes:=ai BL;clear h hb hc hl hown hgrow hb1 hi1 bW cW fW kW iW jW hW sW BL;go_enter func18,ntmps18
 go_wp2_with (go_at_call 36;refine Hc.out.mono ?_;rintro e w' ⟨rfl,rfl⟩)
 rw[←HWe.out];go_loopw [28] (λi wr=>∃k:Nat,k<=zs.length/\i=.int .i64 k/\xg w1.heap.size w.heap.size (pU zs k) wr/\Below w.heap.size w wr/\wr.heap.size=w.heap.size+2) (λi _=>zs.length- (intOf i).toNat)
 case atStart=>exact⟨0,bj _,rfl,HW.out,HkW.out,HsW.out⟩
 case round=>
  obtain⟨k,hk,rfl,hj,hkp,hsw⟩:=hrel;have Hsw:=ai hsw;clear hsw;by_cases hlt:k<zs.length
  ·have hc:=(hkp.cell (p:=⟨s,o+k,none⟩) hs).trans (Hi.out k hlt);obtain⟨g0,g1⟩:=Hl.out k hlt;generalize hz:zs.getD k 0=z at*;have hlf:k< (pU zs k).length:=(by rw[jo];exact hlt);have hdr:=hj.hdr;rw[jo]at hdr;obtain⟨hck,hfk⟩:=hj.word k hlf;have aet:=ai (hj.set (i:=k) (y:=z*1099511627776));have Hz:=ai hz;have Hj:=ai hj;have Hkp:=ai hkp;have Hck:=ai hck;clear hj hkp hlf hz hck;go_wp2_with (first|(go_at_call 39;((with_reducible refine(Nu _ _ g0 g1).mono ?_);rintro e w' ⟨rfl,rfl⟩))|(go_at_call 40;refine(QE _ _ _ _ _ Hck.out hfk).mono ?_;rintro e w' ⟨rfl,rfl⟩))
   go_roundw
   case rel=>refine⟨k+1,ae,gl,?_,Hkp.out.setCell (aY _) _,by rw[←Hsw.out];simp[World.setCell]⟩;have:=aet.out;rw[←Hz.out]at this⊢;exact this
   case measure=>simp[intOf];omega
  ·have:k=zs.length:=ae;subst this;go_wp2;go_ret2
   have h1:=aes.out;rw[h1]at hj⊢;exact⟨rfl,hj,hkp,Hsw.out⟩
end
end Go.Proofs.YtfmibhmknlnoiaaGreat
