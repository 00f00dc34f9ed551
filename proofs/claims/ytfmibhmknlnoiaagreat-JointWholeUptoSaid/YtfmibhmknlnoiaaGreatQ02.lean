import Derived.Test.YtfmibhmknlnoiaaGreatQ01
import Derived.Test.YtfmibhmknlnoiaaGreatRows
import Derived.WalkKit
import Derived.WalkSpells
import Derived.WalkLawsBesides
import Derived.Lib.Builder
import Derived.Lib.Hide
import Derived.Test.YtfmibhmknlnoiaaGreatQ00
import Derived.Conc.TokenWords
import Derived.BigQuiet
import Derived.Deep.OwnRows
import Derived.Test.YtfmibhmknlnoiaaGreatProg
import Derived.Conc.WgGenN3
import Derived.Conc.WgGenN2
import Derived.StillTail
import Derived.Deep.RegionHeld
import Derived.Deep.AppendLies
import Derived.OwnWalk
import Derived.ArgAppend
import Derived.Conc.WgGenAddNeg
set_option linter.all false
set_option maxRecDepth 100000
set_option maxHeartbeats 4000000
namespace Go.Proofs.YtfmibhmknlnoiaaGreat
open _root_.Go.Proofs.Tryz
open _root_.Option renaming some→ae,none→ah
open _root_.Bool renaming true→au,false→aw
open _root_.Go.Value renaming int→aq,pointer→aI,slice→aD,ownBlock→iE
open _root_.Go.Obj renaming cells→aK
open _root_.Go.Item renaming inRegion→bI
open _root_.Go renaming World→aj,Value→ay,Frame→aB,Goroutine→aY,Program→bh,Oper→aZ,Addr→aP,TypeId→bq,Event→cK,undef→aO,yielded→dW,execOp→bT,Question→iz,Calls→b9,results→eL,stepG→bn,heap_alloc_new→gN,info_parts→kq
open _root_.Go.Conc renaming stepG_region_end→bP,stepG_seq→bU,stepG_region→gv,goes_oper_k→eJ,goes_go→cG,rcase→dh,served→mq
open _root_.Go.ConcN renaming WgLive→dG,sumTo→cZ
open _root_.Go.ConcN.Gen renaming fl_rely→bg
open _root_.Go.ConcR renaming Payload→fQ
open _root_.Go.Proofs.Tryz renaming prog→aC
open _root_.Go.Exit renaming «then»→bE,inBlock→gu
open _root_.Go.Region renaming wanted→dF,binds→fq,ready→ki
open _root_.Go.World renaming setCell→fF,cell?→fG
open _root_.Go.Act renaming eval→cS
open _root_.Go.Frame renaming enter→gL
open _root_.Go.stepG renaming apply→gB
open _root_.Go.CallKind renaming early→gA
open _root_.List renaming range→dx
open _root_.Go.IntKind renaming i64→af
variable{ι σ:Type}{q:(Nat->iz->Nat)->Prop}{a a':Act}{C C':Act->aj->Prop}{E:Array Bool->aj->Prop}{ops₀:Array aZ}{xs:Array Operand}{ats:Array bq}{g0 ok:Bool}{c y:Code}{d:bp}{b fr jg cz pf:aB}{fn OA:Func}{f:FuncId}{G2:aY}{Q:aY->aj->Prop}{un:Int}{fs dg ny dC:List aB}{k k₀:List Item}{L rest₀ zs:List Nat}{ew:List PanicEntry}{S:Loc->Prop}{B N W Wg b7 b8 be be0 AD i ic ix j lc lo m nb ob ow pc qt tW:Nat}{ds:Nat->Nat}{vs:Nat->ay}{oi Uh:aZ}{ia la pa:Option aP}{p p0:Pr σ kC}{X:Prop}{t t0:tO}{e tA:bq}{cv dv sl u u7 u8 v v7 x z z0 z2:ay}{w' w0 w1 wr:aj}{F T:aj->Prop}{D:aj->aj->Array cK->Prop}{R:aj->aj->Prop}{xQ:ι}{Q':ι->Exit->Act->aj->Prop}{Post ae2:ι->ay->aj->Prop}{s:σ}
section
open Go Go.Conc Go.ConcN
structure wq(σ:Type) extends Lay σ where
 Rep:σ->aj->Prop
 Foot:aj->Nat->Prop
 G:aj->aj->Prop
 grefl:∀w,G w w
 gtrans:∀a b c,G a b->G b c->G a c
structure wq.Ok{σ:Type}(L:wq σ)(ro:Nat->Option (Nat×Nat)):Prop where
 rep:∀s w w',L.Rep s w->(∀b,L.Foot w b->w'.heap[b]? =w.heap[b]?)->L.Rep s w'/\∀b,L.Foot w' b↔L.Foot w b
 foot:∀s w b,L.Rep s w->L.Foot w b->(∃c e,w.heap[b]? =ae (aK c e (0,0)))/\ro b=ah
 gsame:∀s w w',L.Rep s w->(∀b,L.Foot w b->w'.heap[b]? =w.heap[b]?)->L.G w w'
def Qr(w:aj)(v:ay)(l:List Int):Prop:=∃a cap,v=aD a l.length cap/\∀i,i<l.length->∃x:aP,a=ae x/\x.spot=ah/\w.cell? ⟨x.block,x.off+i,ah⟩=ae (aq af (l.getD i 0))
def SlP(w:aj)(v:ay)(l:List (Int×Int)):Prop:=∃a cap,v=aD a l.length cap/\l.length<=cap/\∀i,i<l.length->∃x:aP,a=ae x/\x.spot=ah/\w.cell? ⟨x.block,x.off+2*i,ah⟩=ae (aq af (l.getD i (0,0)).1)/\w.cell? ⟨x.block,x.off+2*i+1,ah⟩=ae (aq af (l.getD i (0,0)).2)
structure Ut(w:aj)(b o:Nat)(x:my):Prop where
 c0:w.cell? ⟨b,o,ah⟩=ae (aq af x.begin_)
 c1:w.cell? ⟨b,o+1,ah⟩=ae (aq af x.end_)
 c2:w.cell? ⟨b,o+2,ah⟩=ae (aq af x.own)
 c3:w.cell? ⟨b,o+3,ah⟩=ae (.bool x.ans.ok)
 c4:w.cell? ⟨b,o+4,ah⟩=ae (aq af x.ans.n)
 c5:w.cell? ⟨b,o+5,ah⟩=ae (aq af x.ans.m)
 c6:w.cell? ⟨b,o+6,ah⟩=ae (aq af x.ans.err)
 c7:∃v,w.cell? ⟨b,o+7,ah⟩=ae v/\Qr w v x.ans.ints
 c8:∃v,w.cell? ⟨b,o+8,ah⟩=ae v/\SlP w v x.ans.pairs
def AnsAt(w:aj)(v:ay)(l:List my):Prop:=∃a cap,v=aD a l.length cap/\∀i x,l[i]? =ae x->∃b,a=ae ⟨b,0,ah⟩/\Ut w b (9*i) x
def cC(w:aj)(sl:ay)(b:Nat):Prop:=∃x n e,sl=aD (ae x) n e/\(b=x.block\/∃i y m e',i<9*n/\w.cell? ⟨x.block,i,ah⟩=ae (aD (ae y) m e')/\b=y.block)
def gF(w:aj)(W b:Nat):Prop:=b=W\/∃sl,w.cell? ⟨W,9,ah⟩=ae sl/\cC w sl b
def WRm(w:aj)(W:Nat)(x:AW σ)(dn:Bool):Prop:=∃be ow:Nat,∃sl,w.cell? ⟨W,7,ah⟩=ae (aq af be)/\w.cell? ⟨W,8,ah⟩=ae (aq af ow)/\w.cell? ⟨W,9,ah⟩=ae sl/\w.cell? ⟨W,10,ah⟩=ae (.bool dn)/\AnsAt w sl x.got/\
 (∀b o p,x.now=ae (b,o,p)->be=b/\ow=o)/\(x.now=ah->be=0)
theorem Qr.same{w:aj}{l:List Int}(h:Qr w v l)(hc:∀x n e,v=aD (ae x) n e->∀y:aP,y.block=x.block->w'.cell? y=w.cell? y):Qr w' v l:=by obtain⟨a,cap,rfl,h⟩:=h;refine⟨a,cap,rfl,λi hi=>?_⟩;obtain⟨x,rfl,h0,h1⟩:=h i hi;exact⟨x,rfl,h0,(hc x _ _ rfl ⟨x.block,_,ah⟩ rfl).trans h1⟩
theorem SlP.same{w:aj}{l:List (Int×Int)}(h:SlP w v l)(hc:∀x n e,v=aD (ae x) n e->∀y:aP,y.block=x.block->w'.cell? y=w.cell? y):SlP w' v l:=by obtain⟨a,cap,rfl,tC,h⟩:=h;refine⟨a,cap,rfl,tC,λi hi=>?_⟩;obtain⟨x,rfl,h0,h1,h2⟩:=h i hi;exact⟨x,rfl,h0,(hc x _ _ rfl ⟨x.block,_,ah⟩ rfl).trans h1,(hc x _ _ rfl ⟨x.block,_,ah⟩ rfl).trans h2⟩
theorem sblocks_same{w:aj}(hc:∀x n e,sl=aD (ae x) n e->∀o,w'.cell? ⟨x.block,o,ah⟩=w.cell? ⟨x.block,o,ah⟩)(b:Nat):cC w' sl b↔cC w sl b:=by
 constructor
 .rintro⟨x,n,e,h1,h2⟩;exact⟨x,n,e,h1,h2.imp id λ⟨i,y,m,e',h3,h4,h5⟩=>⟨i,y,m,e',h3,by rw[←hc x n e h1];exact h4,h5⟩⟩
 .rintro⟨x,n,e,h1,h2⟩;exact⟨x,n,e,h1,h2.imp id λ⟨i,y,m,e',h3,h4,h5⟩=>⟨i,y,m,e',h3,by rw[hc x n e h1];exact h4,h5⟩⟩
theorem rblocks_same{w:aj}(hc:∀x:aP,gF w W x.block->w'.cell? x=w.cell? x)(b:Nat):gF w' W b↔gF w W b:=by have h9:w'.cell? ⟨W,9,ah⟩=w.cell? ⟨W,9,ah⟩:=hc _ (.inl rfl);unfold gF;rw[h9];have key:∀sl,w.cell? ⟨W,9,ah⟩=ae sl->(cC w' sl b↔cC w sl b):=λsl h=>sblocks_same (λx n e h1 o=>hc _ (.inr ⟨sl,h,x,n,e,h1,.inl rfl⟩)) b;exact⟨λh=>h.imp id λ⟨sl,h1,h2⟩=>⟨sl,h1,(key sl h1).1 h2⟩,λh=>h.imp id λ⟨sl,h1,h2⟩=>⟨sl,h1,(key sl h1).2 h2⟩⟩
theorem gV{w:aj}{l:List my}(hc:∀x:aP,cC w sl x.block->w'.cell? x=w.cell? x)(h:AnsAt w sl l):AnsAt w' sl l:=by
 obtain⟨a,cap,rfl,h⟩:=h;refine⟨a,cap,rfl,λi x hx=>?_⟩;obtain⟨b,rfl,h1⟩:=h i x hx;have Uu:i<l.length:=(eX.1 hx).1;have hb:∀o,w'.cell? ⟨b,o,ah⟩=w.cell? ⟨b,o,ah⟩:=λo=>hc _ ⟨⟨b,0,ah⟩,_,_,rfl,.inl rfl⟩;have j4:∀j v x' n e,j<9*l.length->w.cell? ⟨b,j,ah⟩=ae v->v=aD (ae x') n e->∀y:aP,y.block=x'.block->w'.cell? y=w.cell? y:=by intro j v x' n e hj h2 e1 y hy;subst e1;exact hc y ⟨⟨b,0,ah⟩,_,_,rfl,.inr ⟨j,x',n,e,hj,h2,hy⟩⟩
 refine⟨b,rfl,⟨(hb _).trans h1.c0,(hb _).trans h1.c1,(hb _).trans h1.c2,(hb _).trans h1.c3,(hb _).trans h1.c4,(hb _).trans h1.c5,(hb _).trans h1.c6,?_,?_⟩⟩
 .obtain⟨v,h2,h3⟩:=h1.c7;exact⟨v,(hb _).trans h2,h3.same λx' n e e1 y hy=>j4 (9*i+7) v x' n e ai h2 e1 y hy⟩
 .obtain⟨v,h2,h3⟩:=h1.c8;exact⟨v,(hb _).trans h2,h3.same λx' n e e1 y hy=>j4 (9*i+8) v x' n e ai h2 e1 y hy⟩
structure gS(σ:Type) where
 L:wq σ
 c:cu
 s0:σ
 tA:bq
def gS.n(J:gS σ):Nat:=J.c.n
def gS.ar(J:gS σ)(t:Nat):AR σ:=AR.at J.L.toLay J.c J.s0 (t-J.n)
def gS.len(J:gS σ)(i:Nat):Nat:=(J.c.calls i).length
def gS.cP(J:gS σ)(W:Nat->Nat):fX where
 Inv t w:=J.L.Rep (J.ar t).s w
 G:=J.L.G
 Foot:=J.L.Foot
 WR i t w:=i<J.n->WRm w (W i) ((J.ar t).w i) (decide (i<t/\J.len i<=((J.ar t).w i).got.length))
 Pub i w b:=gF w (W i) b
 live i t:=i<t/\((J.ar t).w i).got.length<J.len i
 sched t:=if t<=J.n then t-1 else(J.ar (t-1)).pick J.c
 may t:=(J.ar (t-1)).goes J.c=au
section
variable{J:gS σ}
theorem AR.Ci(L:Lay σ)(c:cu)(x:AR σ)(h:x.pick c≠i):(x.next L c).w i=x.w i:=by show(if i=x.pick c then _ else x.w i)=x.w i;rw[aU (λe=>h e.symm)]
theorem gS.Bc(J:gS σ){t:Nat}(h:J.n<=t):J.ar (t+1)=(J.ar t).next J.L.toLay J.c:=by unfold gS.ar;rw[show t+1-J.n=(t-J.n) +1 by omega];rfl
theorem gS.tU(J:gS σ){t:Nat}(h:t<=J.n):J.ar t=AR.yP J.c J.s0:=by unfold gS.ar;rw[show t-J.n=0 by omega];rfl
theorem gS.idle(J:gS σ)(W:Nat->Nat){t t':Nat}(ht:t<=t')(h:∀s,t<s->s<=t'->(J.cP W).sched s≠i):(J.ar t').w i=(J.ar t).w i:=by
 obtain⟨k,rfl⟩:=Nat.exists_eq_add_of_le ht;clear ht;induction k with
 |zero=>rfl
 |succ k ih=>
  have h1:=ih λs a b=>h s a ai;rw[←h1];have h2:=h (t+k+1) ai ai;show(J.ar (t+k+1)).w i=_;by_cases e:t+k+1<=J.n
  .rw[J.tU e,J.tU (t:=t+k) ai]
  .rw[J.Bc ai];refine AR.Ci _ _ _ ?_;unfold gS.cP at h2;simp only[aU e]at h2;exact h2
theorem gS.Gj[Go.ConcR.Payload](hL:J.L.Ok d.ro):(J.cP d.W).Ok d:=by
 refine⟨λt w w' h1 h2=>hL.rep _ _ _ h1 h2,λt w b h1 h2=>hL.foot _ _ _ h1 h2,λt w w' h1 h2=>hL.gsame _ _ _ h1 h2,J.L.gtrans,λi t w w' h1 h2=>?_,λi t w hi h=>.inl rfl,λi t t' w ht hs=>?_⟩
 .refine⟨λhi=>?_,λb=>rblocks_same h2 b⟩;obtain⟨be,ow,sl,a1,a2,a3,a4,a5,a6⟩:=h1 hi;have hW:∀o,w'.cell? ⟨d.W i,o,ah⟩=w.cell? ⟨d.W i,o,ah⟩:=λo=>h2 _ (.inl rfl);exact⟨be,ow,sl,(hW _).trans a1,(hW _).trans a2,(hW _).trans a3,(hW _).trans a4,gV (λx hx=>h2 x (.inr ⟨sl,a3,hx⟩)) a5,a6⟩
 .have e:=J.idle d.W ht hs;have hlt:i<J.n->(i<t↔i<t'):=λhi=>by
   constructor
   .intro h;omega
   .intro h;apply eV;intro h';refine hs (i+1) ai ai ?_;unfold gS.cP;simp only[aX (show i+1<=J.n by omega)];omega
  refine⟨λh hi=>?_,?_⟩
  .have:=h hi;rw[e];simpa only[←hlt hi]using this
  .show(i<t'/\_)↔(i<t/\_);rw[e];by_cases hi:i<J.n
   .rw[hlt hi]
   .have:J.len i=0:=(by unfold gS.len cu.calls;rw[eF,vz (by have:J.n=J.c.work.length:=rfl;omega)];rfl);rw[this];exact⟨λh=>aT h.2 (fR _),λh=>aT h.2 (fR _)⟩
structure E0(J:gS σ)(k t:Nat)(g:Bool)(be ow:Nat)(p:Pr σ kC)(s:σ):Prop where
 turn:J.n<t
 goes:(J.ar (t-1)).goes J.c=au
 pick:(J.ar (t-1)).pick J.c=k
 live:((J.ar (t-1)).w k).got.length<J.len k
 seg:((J.ar (t-1)).w k).seg J.L.toLay J.c k (t-J.n) (J.ar (t-1)).s=(be,p.seg g ow s)
theorem E0.eff{k t:Nat}{g:Bool}{f:σ->σ}{q:σ->Pr σ kC}(h:E0 J k t g be ow (.eff f q) s):E0 J k t g be ow (q s) (f s):=⟨h.turn,h.goes,h.pick,h.live,h.seg⟩
theorem E0.line{k t:Nat}(h:E0 J k t au be ow (.line p) s):E0 J k t aw be (ow+1) p s:=⟨h.turn,h.goes,h.pick,h.live,h.seg⟩
theorem E0.all{k t:Nat}{g:Bool}(h:E0 J k t g be ow p s):(J.ar (t-1)).all+1=t-J.n:=by have:=h.turn;unfold gS.ar;rw[AR.Mu];omega
theorem E0.next{k t:Nat}{g:Bool}(h:E0 J k t g be ow p s):J.ar t=(J.ar (t-1)).next J.L.toLay J.c:=by have:=h.turn;rw[show t=t-1+1 by omega];exact J.Bc ai
theorem E0.at{k t:Nat}(h:E0 J k t aw be ow (.line p) s):(J.ar t).s=s/\(J.ar t).w k={(J.ar (t-1)).w k with now:=ae (be,ow,p)}:=by
 rw[h.next];have e:=h.seg;have ha:=h.all;have hp:=h.pick;constructor
 .show(AW.seg J.L.toLay J.c ((J.ar (t-1)).pick J.c) ((J.ar (t-1)).all+1) ((J.ar (t-1)).w ((J.ar (t-1)).pick J.c)) (J.ar (t-1)).s).2.state _=s;rw[hp,ha,e];rfl
 .show(if k=(J.ar (t-1)).pick J.c then((J.ar (t-1)).w ((J.ar (t-1)).pick J.c)).settle ((J.ar (t-1)).all+1) (AW.seg J.L.toLay J.c ((J.ar (t-1)).pick J.c) ((J.ar (t-1)).all+1) ((J.ar (t-1)).w ((J.ar (t-1)).pick J.c)) (J.ar (t-1)).s).1 (AW.seg J.L.toLay J.c ((J.ar (t-1)).pick J.c) ((J.ar (t-1)).all+1) ((J.ar (t-1)).w ((J.ar (t-1)).pick J.c)) (J.ar (t-1)).s).2 else _)=_;rw[hp,aX rfl,ha,e];rfl
theorem E0.fin{k t:Nat}{g:Bool}{a:kC}(h:E0 J k t g be ow (.ret a) s):(J.ar t).s=s/\(J.ar t).w k={got:=((J.ar (t-1)).w k).got++[⟨a,be,t-J.n,if g then ow+1 else ow⟩],now:=ah,lost:=((J.ar (t-1)).w k).lost}:=by
 rw[h.next];have e:=h.seg;have ha:=h.all;have hp:=h.pick;constructor
 .show(AW.seg J.L.toLay J.c ((J.ar (t-1)).pick J.c) ((J.ar (t-1)).all+1) ((J.ar (t-1)).w ((J.ar (t-1)).pick J.c)) (J.ar (t-1)).s).2.state _=s;rw[hp,ha,e];rfl
 .show(if k=(J.ar (t-1)).pick J.c then((J.ar (t-1)).w ((J.ar (t-1)).pick J.c)).settle ((J.ar (t-1)).all+1) (AW.seg J.L.toLay J.c ((J.ar (t-1)).pick J.c) ((J.ar (t-1)).all+1) ((J.ar (t-1)).w ((J.ar (t-1)).pick J.c)) (J.ar (t-1)).s).1 (AW.seg J.L.toLay J.c ((J.ar (t-1)).pick J.c) ((J.ar (t-1)).all+1) ((J.ar (t-1)).w ((J.ar (t-1)).pick J.c)) (J.ar (t-1)).s).2 else _)=_;rw[hp,aX rfl,ha,e];rfl
theorem E0.few{k t:Nat}{g:Bool}(h:E0 J k t g be ow p s):t<=J.n+J.c.most:=by have h1:=h.goes;have h2:=h.all;unfold AR.goes at h1;simp only[cR,decide_eq_true_eq]at h1;have:=h.turn;omega
theorem AR.Jz{c:cu}{x:AR σ}(h:x.goes c=au):x.pick c∈x.who c:=by
 unfold AR.goes AR.any at h;simp only[cR,xu,decide_eq_true_eq]at h;have hne:x.who c≠[]:=by intro e;rw[e]at h;simp at h
 have hlen:0< (x.who c).length:=List.length_pos_iff.2 hne;have ml:∀i,i< (x.who c).length->(x.who c).getD i 0∈x.who c:=λi hi=>by rw[eF,eQ hi];exact rV hi
 unfold AR.pick rU;split
 .rename_i t r e;refine ml _ ?_;have h2:(t.tmod ((x.who c).length:Int)).natAbs< (x.who c).length:=by rw[Int.natAbs_tmod];exact Nat.mod_lt _ hlen
  have h3:=Int.emod_nonneg (t.tmod ((x.who c).length:Int) +(x.who c).length) (b:=((x.who c).length:Int)) ai;have h4:=Int.emod_lt_of_pos (t.tmod ((x.who c).length:Int) +(x.who c).length) (b:=((x.who c).length:Int)) ai;rw[Int.tmod_eq_emod_of_nonneg ai];omega
 .cases e:(x.who c).find? (λ(k:Nat)=>decide (x.last< (k:Int)))with
  |some k=>exact List.mem_of_find?_eq_some e
  |none=>
   cases e2:x.who c with
   |nil=>exact aT e2 hne
   |cons y ys=>simp
theorem AR.Be{c:cu}{x:AR σ}(h:x.goes c=au):x.pick c<c.n:=by have hm:=AR.Jz h;unfold AR.who at hm;simp only[List.mem_filter,pz]at hm;exact hm.1
def dK(k turn come gone:Nat)(g:Bool)(st be ow:Nat)(sl:ay):Array ay:=#[aq af k,.bool au,.chan (ae turn),.chan (ae come),.chan (ae gone),.bool g,aq af st,aq af be,aq af ow,sl,.bool aw,.bool aw]
def Far(w:aj)(sl:ay):Prop:=∀x n e,sl=aD (ae x) n e->∀i y m e',i<9*n->w.cell? ⟨x.block,i,ah⟩=ae (aD (ae y) m e')->y.block≠x.block
structure Uv(J:gS σ)(d:bp)(k:Nat)(w:aj)(sl:ay)(n:Nat):Prop where
 blk:∀b,cC w sl b->b≠d.W k/\¬J.L.Foot w b/\d.ro b=ah/\∃o,w.heap[b]? =ae o/\o≠eh/\di o=au
 row:∃cs,w.ownsRow 0 J.tA 9 sl n cs
 far:Far w sl
theorem tV{w:aj}(h:Far w sl)(hw:∀b,cC w sl b->w'.heap[b]? =w.heap[b]?):Far w' sl:=λx n e h1 i y m e' hi h2=>h x n e h1 i y m e' hi (by rw[←h2];exact(dr (w:=w) (a:=⟨x.block,i,ah⟩) (hw x.block ⟨x,n,e,h1,.inl rfl⟩)).symm)
theorem tX{w:aj}{n:Nat}(h:∃cs,w.ownsRow 0 e 9 sl n cs)(hw:∀b,cC w sl b->w'.heap[b]? =w.heap[b]?):∃cs,w'.ownsRow 0 e 9 sl n cs:=by obtain⟨cs,h1,h2⟩:=h;refine⟨cs,h1,h2.imp id ?_⟩;rintro⟨g,cap,cur,rfl,h3,h4,h5⟩;exact⟨g,cap,cur,rfl,h3,by rw[hw g ⟨_,_,_,rfl,.inl rfl⟩];exact h4,h5⟩
structure Run(J:gS σ)(d:bp)(tW k:Nat)(t:tO)(g:Bool)(be:Nat)(p:Pr σ kC)(w:aj):Prop where
 go:J.L.G t.a w
 ex:∃s ow sl,E0 J k t g be ow p s/\ow+g.toNat<=t-J.n/\J.L.Rep s w/\w.heap[d.W k]? =ae (aK (dK k (d.turn k) d.come d.gone g (t-J.n) be ow sl) tW (0,5))/\AnsAt w sl ((J.ar (t-1)).w k).got/\Uv J d k w sl ((J.ar (t-1)).w k).got.length
 fw:∀b f,d.fw k b=ae f->(∃c e,w.heap[b]? =ae (aK c e f))/\¬J.L.Foot w b/\d.ro b=ah
structure gD(J:gS σ)(d:bp)(k:Nat)(w w':aj):Prop where
 size:w.heap.size<=w'.heap.size
 same:∀(b:Nat) o,w.heap[b]? =ae o->o≠eh->¬J.L.Foot w b->b≠d.W k->w'.heap[b]? =ae o/\¬J.L.Foot w' b
 sl9:w'.cell? ⟨d.W k,9,ah⟩=w.cell? ⟨d.W k,9,ah⟩
 go:J.L.G w w'
theorem gD.refl(J:gS σ)(d:bp)(k:Nat)(w:aj):gD J d k w w:=⟨bJ _,λb o h1 h2 h3 h4=>⟨h1,h3⟩,rfl,J.L.grefl w⟩
theorem gD.trans{k:Nat}{a b c:aj}(h:gD J d k a b)(g:gD J d k b c):gD J d k a c:=⟨dm h.size g.size,λx o h1 h2 h3 h4=>by obtain⟨h5,h6⟩:=h.same x o h1 h2 h3 h4;exact g.same x o h5 h2 h6 h4,g.sl9.trans h.sl9,J.L.gtrans _ _ _ h.go g.go⟩
theorem aH{w:aj}{o:Nat}{c:Array ay}{f:Nat×Nat}(h:w.heap[W]? =ae (aK c e f))(v:ay):(w.setCell ⟨W,o,ah⟩ v).heap[W]? =ae (aK (c.setIfInBounds o v) e f):=by simp[fF,Array.getElem?_modify,h]
theorem az{w:aj}{o b:Nat}(h:b≠W)(v:ay):(w.setCell ⟨W,o,ah⟩ v).heap[b]? =w.heap[b]? :=by simp[fF,Array.getElem?_modify,bZ h]
theorem ax{w:aj}{c:Array ay}{f:Nat×Nat}(h:w.heap[W]? =ae (aK c e f))(o:Nat):w.cell? ⟨W,o,ah⟩=c[o]? :=by simp[fG,h]
theorem aM{w:aj}{c:Array ay}{hi:Nat}(h:w.heap[W]? =ae (aK c e (lo,hi)))(o:Nat)(ho:hi<=o):w.frozen? ⟨W,o,ah⟩=aw:=by simp[World.frozen?,h];omega
structure Own(J:gS σ)(d:bp)(k t:Nat)(sl:ay)(w:aj):Prop where
 ans:AnsAt w sl ((J.ar (t-1)).w k).got
 own:Uv J d k w sl ((J.ar (t-1)).w k).got.length
 fw:∀b f,d.fw k b=ae f->(∃c e,w.heap[b]? =ae (aK c e f))/\¬J.L.Foot w b/\d.ro b=ah
theorem cO{w:World}{b:Nat}{l:List Value}{f:Nat×Nat}{r:List Value}(h:w.heap[b]? =some (.cells l.toArray e f))(o:Nat)(hv:l.drop o=v::r:=by rfl):w.cell? ⟨b,o,none⟩=some v:=by rw[ax h,kJ,←Nat.add_zero o,←List.getElem?_drop,hv];rfl
theorem zO{w:aj}{b:Nat}{c:Array ay}(h:w.heap[b]? =ae (aK c e (0,0)))(o:Nat):w.frozen? ⟨b,o,ah⟩=aw:=aM h _ (bQ _)
theorem run_set{k:Nat}{g:Bool}{w:aj}(hL:J.L.Ok d.ro)(hgo:J.L.G t.a w)(hM:E0 J k t g be ow p s)(hb:ow+g.toNat<=t-J.n)(eI:J.L.Rep s w)(hF:¬J.L.Foot w (d.W k))(O:Own J d k t sl w)(h9:w.cell? ⟨d.W k,9,ah⟩=ae sl)
  (hW:w'.heap[d.W k]? =ae (aK (dK k (d.turn k) d.come d.gone g (t-J.n) be ow sl) tW (0,5)))(hfw:d.fw k (d.W k)=ae (0,5))(hsz:w.heap.size<=w'.heap.size)(ho:∀b,b<w.heap.size->b≠d.W k->w'.heap[b]? =w.heap[b]?):Run J d tW k t g be p w'/\gD J d k w w':=by
 have hlt:∀b,J.L.Foot w b->b<w.heap.size:=λb hb=>by obtain⟨⟨c,e,hc⟩,_⟩:=hL.foot s w b eI hb;exact(bF.1 hc).1
 obtain⟨Cj,fS⟩:=hL.rep s w w' eI λb hb=>ho b (hlt b hb) λe=>hF (e▸hb);have hblk:∀b,cC w sl b->w'.heap[b]? =w.heap[b]? :=λb hb=>by obtain⟨h1,_,_,o,h2,_⟩:=O.own.blk b hb;exact ho b (bF.1 h2).1 h1
 have hs:∀b,cC w' sl b↔cC w sl b:=sblocks_same λx n e h1 o=>dr (w:=w) (hblk x.block ⟨x,n,e,h1,.inl rfl⟩);have DN:J.L.G w w':=hL.gsame s w w' eI λb hb=>ho b (hlt b hb) λe=>hF (e▸hb);refine⟨⟨J.L.gtrans _ _ _ hgo DN,⟨s,ow,sl,hM,hb,Cj,hW,gV (λx hx=>dr (w:=w) (hblk _ hx)) O.ans,λb hb=>?_,tX O.own.row hblk,tV O.own.far hblk⟩,λb f hf=>?_⟩,hsz,λb o h1 h2 h3 h4=>⟨by rw[ho b (bF.1 h1).1 h4];exact h1,λh=>h3 ((fS b).1 h)⟩,by rw[ax hW,h9];rfl,DN⟩
 .have hb:=(hs b).1 hb;obtain⟨h1,h2,h3,h4⟩:=O.own.blk b hb;exact⟨h1,λh=>h2 ((fS b).1 h),h3,by rw[hblk b hb];exact h4⟩
 .obtain⟨⟨c,e,hc⟩,h2,h3⟩:=O.fw b f hf;refine⟨?_,λh=>h2 ((fS b).1 h),h3⟩;by_cases e1:b=d.W k
  .subst e1;rw[hfw]at hf;obtain rfl:=bj hf;exact⟨_,_,hW⟩
  .exact⟨c,e,by rw[ho b (bF.1 hc).1 e1];exact hc⟩
structure mS(J:gS σ)(d:bp)(tW k t st be ow:Nat)(sl:ay)(x:AW σ)(s:σ)(w:aj):Prop where
 rep:J.L.Rep s w
 wrk:w.heap[d.W k]? =ae (aK (dK k (d.turn k) d.come d.gone aw st be ow sl) tW (0,5))
 ans:AnsAt w sl x.got
 own:Uv J d k w sl x.got.length
 fw:∀b f,d.fw k b=ae f->(∃c e,w.heap[b]? =ae (aK c e f))/\¬J.L.Foot w b/\d.ro b=ah
 now:(∀b o p,x.now=ae (b,o,p)->be=b/\ow=o)/\(x.now=ah->be=0)
theorem bu{c:Array ay}{f:Nat×Nat}:Obj.cells c e f≠eh:=by intro h;cases h
theorem mS.later{k t st:Nat}{x:AW σ}{s':σ}{w:aj}(hL:J.L.Ok d.ro)(A:mS J d tW k t st be ow sl x s w)(hfw:d.fw k (d.W k)=ae (0,5))(eI:J.L.Rep s' w')(hgo:J.L.G w w')(hsz:w.heap.size<=w'.heap.size)
  (hsame:∀(b:Nat) o,w.heap[b]? =ae o->o≠eh->¬J.L.Foot w b->w'.heap[b]? =ae o/\¬J.L.Foot w' b):mS J d tW k t st be ow sl x s' w'/\gD J d k w w':=by
 have hF:=(A.fw _ _ hfw).2.1;have hblk:∀b,cC w sl b->w'.heap[b]? =w.heap[b]?/\¬J.L.Foot w' b:=λb hb=>by obtain⟨h1,h2,_,o,h3,h4,_⟩:=A.own.blk b hb;obtain⟨h5,h6⟩:=hsame b o h3 h4 h2;exact⟨by rw[h5,h3],h6⟩
 have hs:∀b,cC w' sl b↔cC w sl b:=sblocks_same λx n e h1 o=>dr (w:=w) (hblk x.block ⟨x,n,e,h1,.inl rfl⟩).1;refine⟨⟨eI,(hsame _ _ A.wrk bu hF).1,gV (λx hx=>dr (w:=w) (hblk _ hx).1) A.ans,⟨λb hb=>?_,tX A.own.row λb hb=>(hblk b hb).1,tV A.own.far λb hb=>(hblk b hb).1⟩,λb f hf=>?_,A.now⟩,hsz,λb o h1 h2 h3 _=>hsame b o h1 h2 h3,by rw[ax (hsame _ _ A.wrk bu hF).1,ax A.wrk],hgo⟩
 .have hb:=(hs b).1 hb;obtain⟨h1,h2,h3,h4⟩:=A.own.blk b hb;exact⟨h1,(hblk b hb).2,h3,by rw[(hblk b hb).1];exact h4⟩
 .obtain⟨⟨c,e,hc⟩,h2,h3⟩:=A.fw b f hf;obtain⟨h5,h6⟩:=hsame b _ hc bu h2;exact⟨⟨c,e,h5⟩,h6,h3⟩
theorem mS.acF[Go.ConcR.Payload]{k st:Nat}{w:aj}(hgo:J.L.G t.a w)(A:mS J d tW k t st be ow sl ((J.ar t).w k) (J.ar t).s w)(hfw:∀b f,d.fw k b=ae f->True)(hW:d.fw k (d.W k)=ae (0,5))(hdn:¬(k<t/\J.len k<=((J.ar t).w k).got.length)):Ge d (J.cP d.W) k t w:=by
 have hcell:∀o,w.cell? ⟨d.W k,o,ah⟩=(dK k (d.turn k) d.come d.gone aw st be ow sl)[o]? :=λo=>ax A.wrk o;obtain⟨_,hF,hro⟩:=A.fw _ _ hW;refine⟨hgo,A.rep,λ_=>⟨be,ow,sl,by rw[hcell];rfl,by rw[hcell];rfl,by rw[hcell];rfl,?_,A.ans,A.now⟩,λb hb=>?_,λb f hf=>?_⟩
 .rw[hcell,decide_eq_false hdn];rfl
 .rcases hb with rfl|⟨sl',h1,hb⟩
  .exact⟨_,A.wrk,bu,rfl,hF,hro⟩
  .rw[hcell]at h1;obtain rfl:sl=sl':=(by simpa[dK]using h1);obtain⟨_,h2,h3,o,h4,h5,h6⟩:=A.own.blk b hb;exact⟨o,h4,h5,h6,h2,h3⟩
 .obtain⟨⟨c,e,hc⟩,h2,h3⟩:=A.fw b f hf;exact⟨⟨_,hc,bu,rfl,h2,h3⟩,c,e,hc⟩
theorem Qs[Go.ConcR.Payload]{k:Nat}{w:aj}{c:Array ay}(hgo:J.L.G t.a w)(eI:J.L.Rep (J.ar t).s w)(hw:w.heap[d.W k]? =ae (aK c tW (0,5)))(O:Own J d k (t+1) sl w)(hW:d.fw k (d.W k)=ae (0,5))(c7:c[7]? =ae (aq af be))(c8:c[8]? =ae (aq af ow))(c9:c[9]? =ae sl)(c10:c[10]? =ae (.bool (decide (k<t/\J.len k<=((J.ar t).w k).got.length))))
  (hnow:(∀b o p,((J.ar t).w k).now=ae (b,o,p)->be=b/\ow=o)/\(((J.ar t).w k).now=ah->be=0)):Ge d (J.cP d.W) k t w:=by
 have hcell:∀o,w.cell? ⟨d.W k,o,ah⟩=c[o]? :=λo=>ax hw o;obtain⟨_,hF,hro⟩:=O.fw _ _ hW;refine⟨hgo,eI,λ_=>⟨be,ow,sl,by rw[hcell];exact c7,by rw[hcell];exact c8,by rw[hcell];exact c9,by rw[hcell];exact c10,O.ans,hnow⟩,λb hb=>?_,λb f hf=>?_⟩
 .rcases hb with rfl|⟨sl',h1,hb⟩
  .exact⟨_,hw,bu,rfl,hF,hro⟩
  .rw[hcell,c9]at h1;obtain rfl:=bj h1;obtain⟨_,h2,h3,o,h4,h5,h6⟩:=O.own.blk b hb;exact⟨o,h4,h5,h6,h2,h3⟩
 .obtain⟨⟨c,e,hc⟩,h2,h3⟩:=O.fw b f hf;exact⟨⟨_,hc,bu,rfl,h2,h3⟩,c,e,hc⟩
end
end
section
open Go.RowKit
theorem l7(a:Nat)(ha:a<18446744073709551616):(BitVec.ofInt 64 (a:Int)).toNat=a:=ofInt_u64 a ha
theorem yQ(a b:Nat)(ha:a<9223372036854775808)(hb:b<9223372036854775808):bits .and .i64 (a:Int) (b:Int)=((a &&& b:Nat):Int):=by
 have e1:(BitVec.ofInt 64 (a:Int)).toNat=a:=l7 a ai;have e2:(BitVec.ofInt 64 (b:Int)).toNat=b:=l7 b ai;have hlt:a &&& b<9223372036854775808:=Nat.lt_of_le_of_lt Nat.and_le_left ha;have e3:(BitVec.ofInt 64 (a:Int) &&& BitVec.ofInt 64 (b:Int)).toNat=a &&& b:=by rw[BitVec.toNat_and,e1,e2]
 show IntKind.i64.wrap ((BitVec.ofInt 64 (a:Int) &&& BitVec.ofInt 64 (b:Int)).toNat:Int)=_;rw[e3,gq];omega
theorem AA(a b:Nat)(ha:a<9223372036854775808)(hb:b<9223372036854775808):bits .or .i64 (a:Int) (b:Int)=((a ||| b:Nat):Int):=by
 have e1:(BitVec.ofInt 64 (a:Int)).toNat=a:=l7 a ai;have e2:(BitVec.ofInt 64 (b:Int)).toNat=b:=l7 b ai;have hlt:a ||| b<2 ^ 63:=Nat.or_lt_two_pow ai ai;have e3:(BitVec.ofInt 64 (a:Int) ||| BitVec.ofInt 64 (b:Int)).toNat=a ||| b:=by rw[BitVec.toNat_or,e1,e2]
 show IntKind.i64.wrap ((BitVec.ofInt 64 (a:Int) ||| BitVec.ofInt 64 (b:Int)).toNat:Int)=_;rw[e3,gq];omega
theorem Cl(x:Int)(h0:0<=x)(h1:x<9223372036854775808):bits .and .i64 x 1099511627775=x % 1099511627776:=by obtain⟨n,rfl⟩:=Int.eq_ofNat_of_zero_le h0;have:=yQ n 1099511627775 ai ai;have e:=Nat.and_two_pow_sub_one_eq_mod n 40;simp only[Nat.reducePow,Nat.reduceSub]at e;rw[e]at this;simpa using this
theorem E5(v t:Int)(h0:0<=v)(h1:v<=1048575)(h2:0<=t)(h3:t<1099511627776):bits .or .i64 (v*1099511627776) t=v*1099511627776+t:=by obtain⟨n,rfl⟩:=Int.eq_ofNat_of_zero_le h0;obtain⟨m,rfl⟩:=Int.eq_ofNat_of_zero_le h2;have:=AA (n*1099511627776) m ai ai;have e:=nat_join 40 (n*1099511627776) m aJ dp;rw[e]at this;simpa using this
theorem Mv(w:aj):b9 aC 88 #[aI ah] w λe w'=>e=.returned (aq af 0)/\w=w':=by
 go_enter func88,ntmps88
 go_wp2;go_ret
 exact⟨rfl,rfl⟩
theorem under_any(d:Int)(w:aj)(h0:0<=d)(h1:d<=100000):b9 aC 133 #[aq af d] w λe w'=>e=.returned (aq af (-d-1))/\w=w':=by
 go_enter func133,ntmps133
 go_wp2;go_ret
 exact⟨rfl,rfl⟩
theorem oQ(v:Int)(w:aj)(h0:0<=v)(h1:v<=1048575):b9 aC 38 #[aq af v] w λe w'=>e=.returned (.bool au)/\w=w':=by
 have hb:decide (v<=1048575)=au:=nG;go_enter func38,ntmps38
 go_wp2;go_ret
 exact⟨rfl,rfl⟩
theorem uM(v:Int)(w:aj)(h:v<0\/1048575<v):b9 aC 38 #[aq af v] w λe w'=>e=.returned (.bool aw)/\w=w':=by
 by_cases h0:0<=v
 .have h1:decide (v<=1048575)=aw:=dp;clear h;go_enter func38,ntmps38
  go_wp2;go_ret
  exact⟨rfl,rfl⟩
 .clear h;go_enter func38,ntmps38
  go_wp2;go_ret
  exact⟨rfl,rfl⟩
theorem wu(x:Int)(w:aj)(h0:0<=x)(h1:x<=1152921504606846975):b9 aC 134 #[aq af x] w λe w'=>e=.returned (.bool au)/\w=w':=by
 have hb:decide (x<=1152921504606846975)=au:=nG;go_enter func134,ntmps134
 go_wp2;go_ret
 exact⟨rfl,rfl⟩
theorem zS(x:Int)(w:aj)(h0:0<=x)(h1:x<=1048575):b9 aC 79 #[aq af x] w λe w'=>e=.returned (.bool au)/\w=w':=by
 have hb:decide (x<=1048575)=au:=nG;go_enter func79,ntmps79
 go_wp2;go_ret
 exact⟨rfl,rfl⟩
theorem Mw(w:aj):b9 aC 80 #[aq af 0] w λe w'=>e=.returned (.bool au)/\w=w':=by
 go_enter func80,ntmps80
 go_wp2;go_ret
 exact⟨rfl,rfl⟩
theorem Qt(x:Int)(w:aj)(h0:0<=x)(h1:x<=1048575):b9 aC 39 #[aq af x,aq af 0] w λe w'=>e=.returned (.tuple #[aq af (x*1099511627776),aq af 0])/\w=w':=by
 have hj:=E5 x 0 h0 h1 ai ai;simp only[Int.add_zero]at hj;go_enter func39,ntmps39
 go_wp2_with (first|(go_at_call 79;refine(zS _ _ h0 h1).mono ?_;rintro e w' ⟨rfl,rfl⟩)|(go_at_call 80;refine(Mw _).mono ?_;rintro e w' ⟨rfl,rfl⟩))
 go_ret2
 exact⟨rfl,rfl⟩
theorem Mx(x:Int)(w:aj)(h0:0<=x)(h1:x<=1152921504606846975):b9 aC 87 #[aq af x] w λe w'=>e=.returned (aq af (x / 1099511627776))/\w=w':=by
 go_enter func87,ntmps87
 go_wp2_with (go_at_call 134;refine(wu _ _ h0 h1).mono ?_;rintro e w' ⟨rfl,rfl⟩)
 go_ret
 exact⟨rfl,rfl⟩
theorem Uw(x:Int)(w:aj)(h0:0<=x)(h1:x<=1152921504606846975):b9 aC 161 #[aq af x] w λe w'=>e=.returned (aq af (x % 1099511627776))/\w=w':=by
 have hm:=Cl x h0 ai;go_enter func161,ntmps161
 go_wp2_with (go_at_call 134;refine(wu _ _ h0 h1).mono ?_;rintro e w' ⟨rfl,rfl⟩)
 go_ret
 exact⟨rfl,rfl⟩
def dR(x v:Int):Int:=v*1099511627776+(x+1) % 1099511627776
theorem tY(x v:Int)(h0:0<=v)(h1:v<=1048575):0<=dR x v/\dR x v<=1152921504606846975/\dR x v / 1099511627776=v:=by unfold dR;omega
theorem Qu(x v:Int)(w:aj)(h0:0<=x)(h1:x<=1152921504606846975)(h2:0<=v)(h3:v<=1048575):b9 aC 154 #[aq af x,aq af v] w λe w'=>e=.returned (.tuple #[aq af (dR x v),aq af 0])/\w=w':=by
 have hm:=Cl (x % 1099511627776+1) ai ai;have hj:=E5 v ((x+1) % 1099511627776) h2 h3 ai ai;go_enter func154,ntmps154
 go_wp2_with (first|(go_at_call 134;refine(wu _ _ h0 h1).mono ?_;rintro e w' ⟨rfl,rfl⟩)|(go_at_call 79;refine(zS _ _ h2 h3).mono ?_;rintro e w' ⟨rfl,rfl⟩)|(go_at_call 161;refine(Uw _ _ h0 h1).mono ?_;rintro e w' ⟨rfl,rfl⟩))
 go_ret2
 exact⟨rfl,rfl⟩
theorem hvalue_word(x:Int)(w:aj)(h0:0<=x)(h1:x<=1152921504606846975):b9 aC 46 #[aq af x] w λe w'=>e=.returned (aq af (x / 1099511627776))/\w=w':=by
 go_enter func46,ntmps46
 go_wp2_with (go_at_call 87;refine(Mx _ _ h0 h1).mono ?_;rintro e w' ⟨rfl,rfl⟩)
 go_ret
 exact⟨rfl,rfl⟩
theorem My(x v:Int)(w:aj)(h0:0<=x)(h1:x<=1152921504606846975)(h2:0<=v)(h3:v<=1048575):b9 aC 131 #[aq af x,aq af v] w λe w'=>e=.returned (aq af (dR x v))/\w=w':=by
 go_enter func131,ntmps131
 go_wp2_with (go_at_call 154;refine(Qu _ _ _ h0 h1 h2 h3).mono ?_;rintro e w' ⟨rfl,rfl⟩)
 go_ret
 exact⟨rfl,rfl⟩
theorem Cm(x:Int)(w:aj)(h0:0<=x)(h1:x<=1152921504606846975):b9 aC 85 #[aq af x] w λe w'=>e=.returned (.tuple #[aq af (-x-1),.bool aw])/\w=w':=by
 have hb:decide (x<0)=aw:=dp;go_enter func85,ntmps85
 go_wp2;go_ret2
 exact⟨rfl,rfl⟩
theorem Ux(a:aP)(x:Int)(w:aj)(hc:w.cell? a=ae (aq af x)):(callFunc 126 #[aI (ae a)]).run aC w=.ok (.value (aq af x)) w:=run_call_load (P:=aC) func126 aQ aQ aQ .i64 aQ hc
theorem Uy(a:aP)(x:Int)(w:aj)(hc:w.cell? a=ae (.int .i32 x)):(callFunc 153 #[aI (ae a)]).run aC w=.ok (.value (.int .i32 x)) w:=run_call_load (P:=aC) func153 aQ aQ aQ .i32 aQ hc
theorem Qv(a:aP)(x:Int)(u:ay)(w:aj)(hc:w.cell? a=ae u)(hz:w.frozen? a=aw):(callFunc 81 #[aI (ae a),aq af x]).run aC w=.ok (.value (.tuple #[])) (w.setCell a (aq af x)):=run_call_store (P:=aC) func81 aQ aQ aQ aQ hc hz
theorem ZM(a:aP)(x y:Int)(w:aj)(hc:w.cell? a=ae (aq af x))(hz:w.frozen? a=aw):(callFunc 162 #[aI (ae a),aq af x,aq af y]).run aC w=.ok (.value (.bool au)) (w.setCell a (aq af y)):=run_call_cas_hit (P:=aC) func162 aQ aQ aQ .i64 aQ hc hz
theorem ZN(a:aP)(x y:Int)(w:aj)(hc:w.cell? a=ae (.int .i32 x))(hz:w.frozen? a=aw):(callFunc 152 #[aI (ae a),.int .i32 x,.int .i32 y]).run aC w=.ok (.value (.bool au)) (w.setCell a (.int .i32 y)):=run_call_cas_hit (P:=aC) func152 aQ aQ aQ .i32 aQ hc hz
theorem run_call_loadp{P:bh}(hf:P.funcs[f]? =ae fn)(hname:(fn.name== "runtime.NumGoroutine")=aw)(hb:fn.body.isNone=au)(hn:Extern.findNext fn=ah)
  (he:Extern.find fn=ae (Extern.Atomic.loadT .ptr)){a:aP}{x:Option aP}{w:aj}(hc:w.cell? a=ae (.pointer x)):
  (callFunc f #[aI (ae a)]).run P w=.ok (.value (.pointer x)) w:=by
 rw[run_callFunc_extern hf hname hb hn he];change (Sem.run P (do Extern.Atomic.read .ptr (←asAddr (aI (ae a)))) w).andThen _=_;simp[Extern.Atomic.read,asAddr,hc,Result.andThen]
theorem run_call_storep{P:bh}(hf:P.funcs[f]? =ae fn)(hname:(fn.name== "runtime.NumGoroutine")=aw)(hb:fn.body.isNone=au)(hn:Extern.findNext fn=ah)
  (he:Extern.find fn=ae Extern.Atomic.storeT){a:aP}{x:Option aP}{w:aj}(hc:w.cell? a=ae u)(hz:w.frozen? a=aw):
  (callFunc f #[aI (ae a),.pointer x]).run P w=.ok (.value (.tuple #[])) (w.setCell a (.pointer x)):=by
 rw[run_callFunc_extern hf hname hb hn he];change (Sem.run P (do
  store (←asAddr (aI (ae a))) (.pointer x) .atomic
  pure Extern.Atomic.none_) w).andThen _=_
 simp[asAddr,hc,hz,run_store P w a (.pointer x) .atomic rfl,Result.andThen,Extern.Atomic.none_]
theorem OS(a:aP)(x:Option aP)(w:aj)(hc:w.cell? a=ae (.pointer x)):(callFunc 151 #[aI (ae a)]).run aC w=.ok (.value (.pointer x)) w:=run_call_loadp (P:=aC) func151 aQ aQ aQ aQ hc
theorem Uz(a:aP)(x:Option aP)(u:ay)(w:aj)(hc:w.cell? a=ae u)(hz:w.frozen? a=aw):(callFunc 135 #[aI (ae a),.pointer x]).run aC w=.ok (.value (.tuple #[])) (w.setCell a (.pointer x)):=run_call_storep (P:=aC) func135 aQ aQ aQ aQ hc hz
theorem OT(b o:Nat)(x:Int)(w:aj)(hc:w.cell? ⟨b,o,ah⟩=ae (aq af x)):b9 aC 84 #[aI (ae ⟨b,o,ah⟩)] w λe w'=>e=.returned (aq af x)/\w=w':=by
 have hx:=Ux ⟨b,o,ah⟩ x w hc;go_enter func84,ntmps84
 go_wp2;go_ret
 exact⟨rfl,rfl⟩
theorem Gk(b o:Nat)(x:Int)(w:aj)(hc:w.cell? ⟨b,o,ah⟩=ae (.int .i32 x)):b9 aC 130 #[aI (ae ⟨b,o,ah⟩)] w λe w'=>e=.returned (.int .i32 x)/\w=w':=by
 have hx:=Uy ⟨b,o,ah⟩ x w hc;go_enter func130,ntmps130
 go_wp2;go_ret
 exact⟨rfl,rfl⟩
theorem UA(b o:Nat)(x:Int)(u:ay)(w:aj)(hc:w.cell? ⟨b,o,ah⟩=ae u)(hz:w.frozen? ⟨b,o,ah⟩=aw):b9 aC 40 #[aI (ae ⟨b,o,ah⟩),aq af x] w λe w'=>e=.returned (.tuple #[])/\w.setCell ⟨b,o,ah⟩ (aq af x)=w':=by
 have hx:=Qv ⟨b,o,ah⟩ x u w hc hz;go_enter func40,ntmps40
 go_wp2
 go_end0
 exact⟨rfl,rfl⟩
theorem acG(b o:Nat)(x y:Int)(w:aj)(hc:w.cell? ⟨b,o,ah⟩=ae (aq af x))(hz:w.frozen? ⟨b,o,ah⟩=aw):b9 aC 155 #[aI (ae ⟨b,o,ah⟩),aq af x,aq af y] w λe w'=>e=.returned (.bool au)/\w.setCell ⟨b,o,ah⟩ (aq af y)=w':=by
 have hx:=ZM ⟨b,o,ah⟩ x y w hc hz;go_enter func155,ntmps155
 go_wp2;go_ret
 exact⟨rfl,rfl⟩
theorem acH(b o:Nat)(x y:Int)(w:aj)(hc:w.cell? ⟨b,o,ah⟩=ae (.int .i32 x))(hz:w.frozen? ⟨b,o,ah⟩=aw):b9 aC 129 #[aI (ae ⟨b,o,ah⟩),.int .i32 x,.int .i32 y] w λe w'=>e=.returned (.bool au)/\w.setCell ⟨b,o,ah⟩ (.int .i32 y)=w':=by
 have hx:=ZN ⟨b,o,ah⟩ x y w hc hz;go_enter func129,ntmps129
 go_wp2;go_ret
 exact⟨rfl,rfl⟩
theorem uN:∃i,prog.info? 187=ae i/\i.size=194:=by have h:(prog.info? 187).map (λi=>i.size)=ae 194:=aQ;obtain⟨i,h1,h2⟩:=mb.1 h;exact⟨i,h1,h2⟩
theorem E7:liesAt aC prog.depth 187 (194 / prog.cellsOf 187) 0 187 1=au:=aQ
theorem Gl(c:Nat)(w:aj)(yN:w.shape? c=ae (187,194)):(convert 100 96 (aI (ae ⟨c,0,ah⟩))).run aC w=.ok (aI (ae ⟨c,0,ah⟩)) w:=by obtain⟨i,hi,hz⟩:=uN;exact Lib.run_from_unsafe (P:=aC) w ⟨c,0,ah⟩ underlying100 underlying96 hi yN E7
theorem Mz(c:Nat)(w:aj)(yN:w.shape? c=ae (187,194)):(convert 96 100 (aI (ae ⟨c,0,ah⟩))).run aC w=.ok (aI (ae ⟨c,0,ah⟩)) w:=by obtain⟨i,hi,hz⟩:=uN;exact Lib.run_to_unsafe (P:=aC) w ⟨c,0,ah⟩ underlying96 underlying100 hi ai yN aJ
structure cT where
 c:Int
 o:Int
 n:Int
instance:Inhabited cT:=⟨⟨0,0,0⟩⟩
end
section
open Go Go.RowKit

def kZ(w:aj)(v:ay)(l:List (Int×Int)):Prop:=∃a cap,v=aD a l.length cap/\∀i,i<l.length->∃b o,a=ae ⟨b,o,ah⟩/\b<w.heap.size/\w.cell? ⟨b,o+2*i,ah⟩=ae (aq af (l.getD i (0,0)).1)/\w.cell? ⟨b,o+2*i+1,ah⟩=ae (aq af (l.getD i (0,0)).2)
structure yR(w:aj)(b o:Nat)(c:bs):Prop where
 lt:b<w.heap.size
 c0:w.cell? ⟨b,o,ah⟩=ae (aq af c.kind)
 c1:w.cell? ⟨b,o+1,ah⟩=ae (aq af c.a)
 c2:w.cell? ⟨b,o+2,ah⟩=ae (aq af c.b)
 c3:w.cell? ⟨b,o+3,ah⟩=ae (aq af c.c)
 c4:∃v,w.cell? ⟨b,o+4,ah⟩=ae v/\kZ w v c.pairs
def zT(w:aj)(v:ay)(l:List bs):Prop:=∃a cap,v=aD a l.length cap/\∀i c,l[i]? =ae c->∃b o,a=ae ⟨b,o,ah⟩/\yR w b (o+i*5) c
def RowsIn(w:aj)(wk:Option aP)(work:List (List bs)):Prop:=∀k l,work[k]? =ae l->∃b o v,wk=ae ⟨b,o,ah⟩/\b<w.heap.size/\w.cell? ⟨b,o+k,ah⟩=ae v/\zT w v l
theorem kZ.same{w:aj}{l:List (Int×Int)}(h:kZ w v l)(hs:w.heap.size<=w'.heap.size)(hb:∀b,b<w.heap.size->w'.heap[b]? =w.heap[b]?):kZ w' v l:=by obtain⟨a,cap,rfl,h⟩:=h;refine⟨a,cap,rfl,λi hi=>?_⟩;obtain⟨b,o,rfl,h0,h1,h2⟩:=h i hi;exact⟨b,o,rfl,ai,(dr (w:=w) (hb b h0)).trans h1,(dr (w:=w) (hb b h0)).trans h2⟩
theorem yR.same{w:aj}{b o:Nat}{c:bs}(h:yR w b o c)(hs:w.heap.size<=w'.heap.size)(hb:∀b,b<w.heap.size->w'.heap[b]? =w.heap[b]?):yR w' b o c:=by have e:∀q,w'.cell? ⟨b,q,ah⟩=w.cell? ⟨b,q,ah⟩:=λq=>dr (w:=w) (hb b h.lt);obtain⟨v,h4,h5⟩:=h.c4;exact⟨by have:=h.lt;omega,(e _).trans h.c0,(e _).trans h.c1,(e _).trans h.c2,(e _).trans h.c3,v,(e _).trans h4,h5.same hs hb⟩
theorem zT.same{w:aj}{l:List bs}(h:zT w v l)(hs:w.heap.size<=w'.heap.size)(hb:∀b,b<w.heap.size->w'.heap[b]? =w.heap[b]?):zT w' v l:=by obtain⟨a,cap,rfl,h⟩:=h;refine⟨a,cap,rfl,λi c hc=>?_⟩;obtain⟨b,o,rfl,h1⟩:=h i c hc;exact⟨b,o,rfl,h1.same hs hb⟩
theorem RowsIn.same{w:aj}{wk:Option aP}{work:List (List bs)}(h:RowsIn w wk work)(hs:w.heap.size<=w'.heap.size)(hb:∀b,b<w.heap.size->w'.heap[b]? =w.heap[b]?):RowsIn w' wk work:=λk l hk=>by obtain⟨b,o,v,rfl,h0,h1,h2⟩:=h k l hk;exact⟨b,o,v,rfl,ai,(dr (w:=w) (hb b h0)).trans h1,h2.same hs hb⟩
def gW(work:List (List bs)):Nat:=(work.map List.length).sum
def wx(work:List (List bs)):Nat:=(work.map λl=>(l.map λc=>c.pairs.length).sum).sum
end
section
open Go Go.Conc Go.ConcN
def _root_.Go.World.tp(w:aj)(τ:Nat->iz->Nat):aj:={w with tape:=τ}
theorem ba(w:aj)(τ:Nat->iz->Nat)(p:aP):(w.tp τ).cell? p=w.cell? p:=rfl
theorem bf(w:aj)(τ:Nat->iz->Nat)(p:aP):(w.tp τ).frozen? p=w.frozen? p:=rfl
theorem bH(w:aj)(τ:Nat->iz->Nat):(w.tp τ).heap=w.heap:=rfl
theorem a8(w:aj)(τ:Nat->iz->Nat)(p:aP)(v:ay):(w.tp τ).setCell p v=(w.setCell p v).tp τ:=rfl
theorem bC(w:aj)(τ:Nat->iz->Nat)(o:Obj):(w.tp τ).alloc o=(w.alloc o).tp τ:=rfl
theorem bK(w:aj)(τ:Nat->iz->Nat):(w.tp τ).drew=(w.drew).tp τ:=rfl
theorem bD(w:aj)(τ:Nat->iz->Nat):Alike w (w.tp τ):=⟨rfl,rfl,rfl⟩
def wy(K:ay->aj->Prop):Result Next->Prop
 |.ok (.value v) w=>K v w
 |.ok .skip w=>K aO w
 |_=>False
theorem aS(K:ay->aj->Prop)(v:ay)(w:aj):wy K (.ok (.value v) w)=K v w:=rfl
theorem aV(K:ay->aj->Prop)(w:aj):wy K (.ok .skip w)=K aO w:=rfl
section
variable(P:bh)(main:Bool)(cs:List aB)(J:fM ι)(Stop:ι->aB->List aB->aj->Prop)(U:List aB->Prop)
def wz(b:aB)(k:List Item)(fs:List aB):ι->Exit->Act->aj->Prop
 |i,.normal,a,w=>ZigC P main cs J Stop i (b.at a k) fs w
 |i,.exit id,a,w=>∃k',exitTo id k=ae k'/\ZigC P main cs J Stop i (b.at a k') fs w
 |i,.ret,a,w=>∀todo,ZigC P main cs J Stop i {b.at a todo with mode:=.returning} fs w
 |_,_,_,_=>False
def wpM(fn:FuncId)(c:Code)(Q:ι->Exit->Act->aj->Prop)(i:ι)(a:Act)(w:aj):Prop:=∀(b:aB) (k:List Item) (fs:List aB),b.fn=fn->b.kind=.normal->U fs->(∀i' e a' w',Q i' e a' w'->wz P main cs J Stop b k fs i' e a' w')->ZigC P main cs J Stop i (b.at a (.code c::k)) fs w
def rj(fn:FuncId)(ops:Array aZ)(todo:List Nat)(Q:ι->Exit->Act->aj->Prop)(i:ι)(a:Act)(w:aj):Prop:=∀(b:aB) (k:List Item) (fs:List aB),b.fn=fn->b.kind=.normal->U fs->(∀i' e a' w',Q i' e a' w'->wz P main cs J Stop b k fs i' e a' w')->ZigC P main cs J Stop i (b.at a (bI ops todo::k)) fs w
def CallsM(i:ι)(f:FuncId)(args:Array ay)(w:aj)(Post:ι->ay->aj->Prop):Prop:=∀(c:aB) (fs:List aB),U (c::fs)->(∀i' v w',Post i' v w'->ZigC P main cs J Stop i' (c.finish v) fs w')->ZigC P main cs J Stop i (gL P f args .normal) (c::fs) w
end
structure Stat(P:bh)(S:bN):Prop where
 rows:∀H,S.Rows H P
 bodies:S.kS P
 leafs:S.rN
 plain:S.Plain P
section rules
variable{P:bh}{main:Bool}{cs:List aB}{J:fM ι}{Stop:ι->aB->List aB->aj->Prop}{U:List aB->Prop}{fn:FuncId}{Q:ι->Exit->Act->aj->Prop}{i:ι}{w:aj}
theorem ZigC.alike(e:Alike w w')(h:ZigC P main cs J Stop i fr fs w):ZigC P main cs J Stop i fr fs w':=xD (h.all.alike e)
theorem ZigC.pure{cB:aB}(hs:∀w,bn P main (cy fr (fs++cs)) w=.go (cy cB (dg++cs)) w #[])(h:ZigC P main cs J Stop i cB dg w):ZigC P main cs J Stop i fr fs w:=.walk (.pure hs (.stop h))
theorem wz.push{x:Item}{e:Exit}(hx:x.plain=au)(he:e≠.normal)(h:wz P main cs J Stop b k fs i e a w):wz P main cs J Stop b (x::k) fs i e a w:=by
 cases e with
 |normal=>exact aT rfl he
 |exit id=>obtain⟨k',hk,hg⟩:=h;exact⟨k',by cases x<;>simp_all [exitTo,Item.plain],hg⟩
 |ret=>exact h
 |goto l=>exact h
 |panic ch=>exact h
 |outgrown=>exact h
theorem fu(h:wpM P main cs J Stop U fn c Q i a w)(hq:∀i e a w,Q i e a w->Q' i e a w):wpM P main cs J Stop U fn c Q' i a w:=λb k fs h1 h2 h3 hc=>h b k fs h1 h2 h3 λi' e a' w' q=>hc i' e a' w' (hq _ _ _ _ q)
theorem Qw(e:Alike w w')(h:wpM P main cs J Stop U fn c Q i a w):wpM P main cs J Stop U fn c Q i a w':=λb k fs h1 h2 h3 hc=>(h b k fs h1 h2 h3 hc).alike e
theorem Qx{S:bN}(st:Stat P S)(hok:dZ P S fn c=au)(hd:∀d∈a.defers,nv P S d)(xt:p8 S fn a.tmps)
  (h:∀τ,c.wp P (λe a' w'=>e=.normal/\∃W,Alike W w'/\Q i .normal a' W) a (w.tp τ)):wpM P main cs J Stop U fn c Q i a w:=λb k fs h1 h2 h3 hc=>by
 subst h1;exact .walk (Zs (Post:=λa' w'=>∃W,Alike W w'/\Q i .normal a' W) st.rows st.bodies st.leafs st.plain h2 hok hd xt h (λa' w' τ ⟨W,e,hq⟩=>⟨W,⟨e.heap,e.os,e.output⟩,hq⟩) λa' w' ⟨W,e,hq⟩=>.stop ((hc i .normal a' W hq:ZigC P main cs J Stop i (b.at a' k) fs W).alike e))
theorem wpM_lone{S:bN}(st:Stat P S)(_:X)(hok:dZ P S fn c=au)(hd:∀d∈a.defers,nv P S d)(xt:p8 S fn a.tmps)
  (h:∀τ,c.wp P (λe a' w'=>e=.normal/\∃W,Alike W w'/\Q i .normal a' W) a (w.tp τ)):wpM P main cs J Stop U fn c Q i a w:=Qx st hok hd xt h
theorem eY(h:Q i .normal a w):wpM P main cs J Stop U fn .skip Q i a w:=λb k fs _ _ _ hc=>.pure (λ_=>stepG_skip) (hc _ _ _ _ h)
theorem cD(h:Q i .ret a w):wpM P main cs J Stop U fn .ret Q i a w:=λb k fs _ _ _ hc=>.pure (λ_=>stepG_ret') ((hc _ _ _ _ h:∀todo,_) _)
theorem iU{id:Nat}(h:Q i (.exit id) a w):wpM P main cs J Stop U fn (.exit id) Q i a w:=λb k fs _ _ _ hc=>by obtain⟨k',hk,hz⟩:=hc _ _ _ _ h;exact .pure (λ_=>stepG_exit hk) hz
theorem wpM_seq{x:Code}(h:wpM P main cs J Stop U fn x (λi'=>bE (λa' w'=>wpM P main cs J Stop U fn y Q i' a' w') (Q i')) i a w):wpM P main cs J Stop U fn (.seq x y) Q i a w:=by
 intro b k fs h1 h2 h3 hc;refine .pure (λ_=>bU) (h b (.code y::k) fs h1 h2 h3 λi' e a' w' q=>?_);cases e with
 |normal=>exact q b k fs h1 h2 h3 hc
 |exit id=>exact wz.push rfl aJ (hc _ _ _ _ q)
 |ret=>exact hc _ _ _ _ q
 |goto l=>exact hc _ _ _ _ q
 |panic ch=>exact hc _ _ _ _ q
 |outgrown=>exact hc _ _ _ _ q
theorem zU{x:Code}(M:ι->Act->aj->Prop)(hx:wpM P main cs J Stop U fn x (λi'=>bE (M i') (Q i')) i a w)(hy:∀i' a' w',M i' a' w'->wpM P main cs J Stop U fn y Q i' a' w'):wpM P main cs J Stop U fn (.seq x y) Q i a w:=wpM_seq (fu hx λi e a w q=>by cases e<;>first|exact hy _ _ _ q|exact q)
theorem bz{c:Operand}{x:Code}{t:Bool}(hc:a.eval c=.bool t)(h:wpM P main cs J Stop U fn (if t then x else y) Q i a w):wpM P main cs J Stop U fn (.cond c x y) Q i a w:=λb k fs h1 h2 h3 hq=>.pure (λ_=>stepG_cond hc) (h b k fs h1 h2 h3 hq)
theorem cE{id:Nat}(h:wpM P main cs J Stop U fn c (λi'=>gu id (Q i')) i a w):wpM P main cs J Stop U fn (.block id c) Q i a w:=by
 intro b k fs h1 h2 h3 hc;refine .pure (λ_=>stepG_block) (h b (.inBlock id::k) fs h1 h2 h3 λi' e a' w' q=>?_);cases e with
 |normal=>exact .pure (λ_=>stepG_inBlock) (hc _ _ _ _ q)
 |exit id'=>
  simp only[gu]at q;split at q
  .rename_i e;subst e;exact⟨k,by simp[exitTo],hc _ _ _ _ q⟩
  .rename_i e;obtain⟨k',hk,hz⟩:=hc _ _ _ _ q;refine⟨k',?_,hz⟩;simp only[exitTo];rw[aU (by simpa using λe'=>e (by first|exact e'|exact e'.symm))];exact hk
 |ret=>exact hc _ _ _ _ q
 |goto l=>exact hc _ _ _ _ q
 |panic ch=>exact hc _ _ _ _ q
 |outgrown=>exact hc _ _ _ _ q
theorem iV(I:Nat->ι->Act->aj->Prop){n:Nat}(h₀:I n i a w)
  (hs:∀n i a w,I n i a w->wpM P main cs J Stop U fn c (λi'=>bE (λa' w'=>∃m,m<n/\I m i' a' w') (Q i')) i a w):wpM P main cs J Stop U fn (.loop c) Q i a w:=by
 intro b k fs h1 h2 h3 hc;have key:∀n i a w,I n i a w->ZigC P main cs J Stop i (b.at a (.code c:: .inLoop c::k)) fs w:=by
  intro n;induction n using Nat.strongRecOn with
  |ind n ih=>
   intro i a w hI;refine hs n i a w hI b (.inLoop c::k) fs h1 h2 h3 λi' e a' w' q=>?_;cases e with
   |normal=>obtain⟨m,hm,hI'⟩:=q;exact .pure (λ_=>stepG_inLoop) (ih m hm i' a' w' hI')
   |exit id=>exact wz.push rfl aJ (hc _ _ _ _ q)
   |ret=>exact hc _ _ _ _ q
   |goto l=>exact hc _ _ _ _ q
   |panic ch=>exact hc _ _ _ _ q
   |outgrown=>exact hc _ _ _ _ q
 exact .pure (λ_=>stepG_loop) (key n i a w h₀)
theorem kD{id:Nat}{ops:Array aZ}(h:rj P main cs J Stop U fn ops (dx ops.size) Q i a w):wpM P main cs J Stop U fn (.region id ops aw) Q i a w:=λb k fs h1 h2 h3 hc=>.pure (λ_=>gv) (h b k fs h1 h2 h3 hc)
theorem mz{ops:Array aZ}(h:Q i .normal a w):rj P main cs J Stop U fn ops [] Q i a w:=λb k fs _ _ _ hc=>.pure (λ_=>bP) (hc _ _ _ _ h)
theorem Bf{S:bN}(st:Stat P S){ops:Array aZ}{rest:List Nat}{o:aZ}(ho:ops[j]? =ae o)(hw:dF o (dW ops a.tmps)=au)(hok:iu P S fn o=au)(xt:p8 S fn a.tmps)
  (h:∀(τ:Nat->iz->Nat) (K:ay->aj->Prop),(∀v w' W,Alike W w'->rj P main cs J Stop U fn ops rest Q i (a.put o.dst v) W->K v w')->wy K ((bT a.eval o).run P (w.tp τ))):rj P main cs J Stop U fn ops (j::rest) Q i a w:=by
 intro b k fs h1 h2 h3 hc;subst h1;refine .walk (co_op st.rows st.bodies st.leafs (.inl h2) ho hw hok xt λτ=>?_);have h:=h τ (λv w'=>∃W,Alike W w'/\rj P main cs J Stop U b.fn ops rest Q i (a.put o.dst v) W) (λv w' W e h=>⟨W,e,h⟩);have hw:w.tp τ=bM w τ:=rfl;rw[hw]at h;generalize (bT a.eval o).run P (bM w τ)=X at h;unfold wy at h;split at h
 .obtain⟨W,e,h⟩:=h;exact⟨_,_,.inl rfl,.stop ((h b k fs rfl h2 h3 hc).alike e)⟩
 .obtain⟨W,e,h⟩:=h;exact⟨_,_,.inr ⟨rfl,rfl⟩,.stop ((h b k fs rfl h2 h3 hc).alike e)⟩
 .exact h.elim
theorem zigC_enter{ops:Array aZ}{rest:List Nat}{o:aZ}{args:Array ay}(hk:b.kind≠.early)(ho:ops[j]? =ae o)(hw:dF o (dW ops a.tmps)=au)
  (hr:∀w,(bT a.eval o).runT P w #[]=(.ok (.enter f args) w,#[]))(h:ZigC P main cs J Stop i (gL P f args .normal) (b.at a (bI ops (j::rest)::k)::fs) w):ZigC P main cs J Stop i (b.at a (bI ops (j::rest)::k)) fs w:=by
 refine .pure (λw=>?_) h;have qI:((b.at a (bI ops (j::rest)::k)).kind==gA)=aw:=by show(b.kind==gA)=aw;cases e:b.kind<;>first|rfl|exact aT e hk
 have:=(stepG_oper (P:=P) (main:=main) (b:=b) (a:=a) (k:=k) (cs:=fs++cs) (w:=w) (rest:=rest) ho hw).trans (tq (fr:=b.at a (bI ops (j::rest)::k)) (cs:=fs++cs) rfl qI (hr w));rw[show seen P (b.at a (bI ops (j::rest)::k)).fn #[] ++ #[]=#[]from by simp[seen]]at this;exact this
theorem opsM_call{ops:Array aZ}{rest:List Nat}{o:aZ}{args:Array ay}(ho:ops[j]? =ae o)(hw:dF o (dW ops a.tmps)=au)
  (hr:∀w,(bT a.eval o).runT P w #[]=(.ok (.enter f args) w,#[]))(hU:∀(b:aB) (k:List Item) (fs:List aB),b.fn=fn->U fs->U (b.at a (bI ops (j::rest)::k)::fs))(hcall:CallsM P main cs J Stop U i f args w Post)
  (hnext:∀i' v w'',Post i' v w''->rj P main cs J Stop U fn ops rest Q i' (a.put o.dst v) w''):rj P main cs J Stop U fn ops (j::rest) Q i a w:=by
 intro b k fs h1 h2 h3 hc;refine zigC_enter (by rw[h2];simp) ho hw hr (hcall _ fs (hU b k fs h1 h3) λi' v w'' hp=>?_);rw[iB,ho];exact hnext i' v w'' hp b k fs h1 h2 h3 hc
def bodyPostM(P:bh)(fn:Func)(Post:ι->ay->aj->Prop):ι->Exit->Act->aj->Prop
 |i,.normal,a,w|i,.ret,a,w=>a.defers=[]/\∃v,(eL fn a.tmps).run P w=.ok v w/\Post i v w
 |_,_,_,_=>False
theorem bL{fn:Func}{args:Array ay}(hf:P.funcs[f]? =ae fn)(hb:fn.body=ae c)
  (h:wpM P main cs J Stop U f c (bodyPostM P fn Post) i {tmps:=args++Array.replicate (fn.ntmps-args.size) aO,defers:=[]} w):CallsM P main cs J Stop U i f args w Post:=by
 intro ae1 fs hu hnext;let b:aB:={(default:aB)with fn:=f,kind:=.normal};have wB:gL P f args .normal=b.at {tmps:=args++Array.replicate (fn.ntmps-args.size) aO,defers:=[]} [.code c]:=by simp[gL,Frame.at,hf,hb,b]
 rw[wB];have UB:∀i' a' w' todo,(a'.defers=[]/\∃v,(eL fn a'.tmps).run P w'=.ok v w'/\Post i' v w')->ZigC P main cs J Stop i' {b.at a' todo with mode:=.returning} (ae1::fs) w':=by rintro i' a' w' todo ⟨hd,v,hr,hp⟩;exact .walk (Jj (fr:={b.at a' todo with mode:=.returning}) rfl hd rfl hf hr (.stop (hnext i' v w' hp)))
 refine h b [] (ae1::fs) rfl rfl hu λi' e a' w' q=>?_;cases e with
 |normal=>exact .pure (λ_=>stepG_end) (UB i' a' w' [] q)
 |ret=>exact λtodo=>UB i' a' w' todo q
 |_=>exact q.elim
theorem CallsM.mono{args:Array ay}(h:CallsM P main cs J Stop U i f args w Post)(hp:∀i v w,Post i v w->ae2 i v w):CallsM P main cs J Stop U i f args w ae2:=λc fs hu hn=>h c fs hu λi' v w' hq=>hn i' v w' (hp _ _ _ hq)
theorem CallsM.alike{args:Array ay}(e:Alike w w')(h:CallsM P main cs J Stop U i f args w Post):CallsM P main cs J Stop U i f args w' Post:=λc fs hu hn=>(h c fs hu hn).alike e
theorem tZ{S:bN}(st:Stat P S){args:Array ay}(j4:yB P S f args)(h:∀τ,b9 P f args (w.tp τ) λe w'=>∃v,e=.returned v/\∃W,Alike W w'/\Post i v W):CallsM P main cs J Stop U i f args w Post:=by intro c fs _ hnext;refine .walk (OE (Post:=λv w'=>∃W,Alike W w'/\Post i v W) st.rows st.bodies st.leafs st.plain j4 (λv w' τ ⟨W,e,hp⟩=>⟨W,⟨e.heap,e.os,e.output⟩,hp⟩) h λv w' ⟨W,e,hp⟩=>.stop ((hnext i v W hp).alike e))
theorem rk{S:bN}(st:Stat P S)(hcs:X)(hk:b.kind=.normal)(hok:dZ P S b.fn c=au)(hd:∀d∈a.defers,nv P S d)(xt:p8 S b.fn a.tmps)
  (h:∀τ,c.wp P (λe a' w'=>e=.normal/\∃W,Alike W w'/\ZigC P main cs J Stop i (b.at a' k) fs W) a (w.tp τ)):ZigC P main cs J Stop i (b.at a (.code c::k)) fs w:=
 wpM_lone (U:=λ_=>True) (Q:=λi' e a' w'=>i'=i/\e=.normal/\ZigC P main cs J Stop i (b.at a' k) fs w') st hcs hok hd xt (λτ=>Code.wp_mono (λe a' w' ⟨h1,W,h2,h3⟩=>⟨h1,W,h2,rfl,rfl,h3⟩) (h τ)) b k fs rfl hk trivial λi' e a' w' ⟨h1,h2,h3⟩=>by subst h1 h2;exact h3
theorem kv{S:bN}(st:Stat P S){ops:Array aZ}{rest:List Nat}{o:aZ}(hk:b.kind=.normal\/b.kind=.deferred)(ho:ops[j]? =ae o)(hw:dF o (dW ops a.tmps)=au)(hok:iu P S b.fn o=au)(xt:p8 S b.fn a.tmps)
  (h:∀(τ:Nat->iz->Nat) (K:ay->aj->Prop),(∀v w' W,Alike W w'->ZigC P main cs J Stop i (b.at (a.put o.dst v) (bI ops rest::k)) fs W->K v w')->wy K ((bT a.eval o).run P (w.tp τ))):ZigC P main cs J Stop i (b.at a (bI ops (j::rest)::k)) fs w:=by
 refine .walk (co_op st.rows st.bodies st.leafs hk ho hw hok xt λτ=>?_);have h:=h τ (λv w'=>∃W,Alike W w'/\ZigC P main cs J Stop i (b.at (a.put o.dst v) (bI ops rest::k)) fs W) (λv w' W e h=>⟨W,e,h⟩);have hw:w.tp τ=bM w τ:=rfl;rw[hw]at h;generalize (bT a.eval o).run P (bM w τ)=X at h;unfold wy at h;split at h
 .obtain⟨W,e,h⟩:=h;exact⟨_,_,.inl rfl,.stop (h.alike e)⟩
 .obtain⟨W,e,h⟩:=h;exact⟨_,_,.inr ⟨rfl,rfl⟩,.stop (h.alike e)⟩
 .exact h.elim
theorem Co{c:aB}{fn:Func}(hm:fr.mode=.returning)(hd:fr.defers=[])(hk:fr.kind=.normal)(hf:P.funcs[fr.fn]? =ae fn)(hr:(eL fn fr.tmps).run P w=.ok v w)(h:ZigC P main cs J Stop i (c.finish v) fs w):ZigC P main cs J Stop i fr (c::fs) w:= .walk (Jj hm hd hk hf hr (.stop h))
end rules
theorem wC{P:bh}{o:aZ}{fn:Func}(hop:o.op=.call {callee:=.value (.func f),args:=xs,argTypes:=ats})(hf:P.funcs[f]? =ae fn)(hname:(fn.name== "runtime.NumGoroutine")=aw)(hb:fn.body=ae c)(w:aj):
  (bT a.eval o).runT P w #[]=(.ok (.enter f (xs.map a.eval)) w,#[]):=by
 have h1:¬fn.name= "runtime.NumGoroutine" :=by simpa using hname
 have ef:a.eval (.func f)=.func (.func f) #[] #[]:=rfl;simp[bT,hop,resolve,ef,Deferred.ofValue,invoke,callFunc,hf,h1,hb,go_sem]
theorem ou{P:bh}{main:Bool}{cs:List aB}{J:fM ι}{Stop:ι->aB->List aB->aj->Prop}{i:ι}{w:aj}{ops:Array aZ}{rest:List Nat}{o:aZ}{fn:Func}{args:Array ay}(hk:b.kind≠.early)(ho:ops[j]? =ae o)(hw:dF o (dW ops a.tmps)=au)
  (hop:o.op=.call {callee:=.value (.func f),args:=xs,argTypes:=ats})(hf:P.funcs[f]? =ae fn)(hname:(fn.name== "runtime.NumGoroutine")=aw)(hb:fn.body=ae c)(hxs:xs.map a.eval=args)(h:ZigC P main cs J Stop i (gL P f args .normal) (b.at a (bI ops (j::rest)::k)::fs) w):ZigC P main cs J Stop i (b.at a (bI ops (j::rest)::k)) fs w:=
 zigC_enter hk ho hw (λw=>hxs▸wC hop hf hname hb w) h
theorem bA{P:bh}{main:Bool}{cs:List aB}{J:fM ι}{Stop:ι->aB->List aB->aj->Prop}{U:List aB->Prop}{fn:FuncId}{Q:ι->Exit->Act->aj->Prop}{i:ι}{w:aj}{ops:Array aZ}{rest:List Nat}{o:aZ}{args:Array ay}(ho:ops[j]? =ae o)(hw:dF o (dW ops a.tmps)=au)
  (hop:o.op=.call {callee:=.value (.func f),args:=xs,argTypes:=ats})(hf:P.funcs[f]? =ae OA)(hname:(OA.name== "runtime.NumGoroutine")=aw)(hb:OA.body=ae c)(hxs:xs.map a.eval=args)(hU:∀(b:aB) (k:List Item) (fs:List aB),b.fn=fn->U fs->U (b.at a (bI ops (j::rest)::k)::fs))(hcall:CallsM P main cs J Stop U i f args w Post)
  (hnext:∀i' v w'',Post i' v w''->rj P main cs J Stop U fn ops rest Q i' (a.put o.dst v) w''):rj P main cs J Stop U fn ops (j::rest) Q i a w:=
 opsM_call ho hw (λw=>hxs▸wC hop hf hname hb w) hU hcall hnext
def S0:bN:={L:=λ_=>aw,C:=λ_=>aw,X:=λ_=>aw,ft:=λ_ _=>aw}
theorem nH(P:bh):Stat P S0:=⟨λ_=>⟨λ_ h=>dB,λ_ h=>dB,IV rfl (λ_=>rfl) (λ_=>rfl)⟩,λ_ h=>dB,λ_ h=>dB,λ_ h=>dB⟩
theorem JB(P:bh)(S:bN):∀d∈([]:List Deferred),nv P S d:=aJ
theorem Lq(f:Nat)(t:Array ay):p8 S0 f t:=λ_ h=>dB
end
section
open Go Go.Conc Go.ConcN
open Go.ConcR (KK WgAt stA smA Payload Aside2 DC0)
variable[fQ]
variable[Inhabited dc]
omit[Payload]in
theorem ZO(O:d.Ok){num z1:ay}{n:Nat}
  (hstep:∀(cs:List aB) (w:aj),bn d.P aw (cy jg cs) w=.comm (cy jg cs) #[scase d.come num z0,dh d.gone z2] au .select w #[])
  (hgoes:∀w,Goes d.P aw (RK d.K0) (DS (d.Sp (i+1)) d.B) (λg _=>∃g₂,AtIn d.P aw d.K0 (d.Sp (i+1)) d.B (d.seat i z1 z2 (cy cz (dC++d.cw i))) g g₂) n (cy (jg.finish (.tuple #[aq af 0,.bool aw,z2])) (fs++d.cw i)) w):
  ∃H' n v,(∀r,tN d.cc (i+1) d.come v (cy jg (fs++d.cw i)) r H')/\d.cc.TN (i+1) (d.seat i z1 z2 (cy cz (dC++d.cw i))) n H':=by
 have xb:(i+1==0)=aw:=aJ;refine⟨cy (jg.finish (.tuple #[aq af 0,.bool aw,z2])) (fs++d.cw i),n+1,num,λr=>⟨rfl,cy jg (fs++d.cw i),0,#[scase d.come num z0,dh d.gone z2],.select,λw₁ _=>?_,⟨⟨z0,rfl⟩,λm cc hm hcc=>?_⟩,λw hw m b' z' h=>?_,?_⟩,?_⟩
 .rw[xb];exact hstep _ w₁
 .rcases m with _|_|m
  .exact aT rfl hm
  .simp at hcc;exact⟨d.gone,z2,hcc.symm,bZ O.cg⟩
  .simp at hcc
 .obtain⟨_,_,⟨k,h5⟩,_⟩:=hw;rcases m with _|_|m
  .simp[scase,dh]at h
  .simp[dh]at h;obtain⟨rfl,_⟩:=h;exact⟨k,h5⟩
  .simp at h
 .show _=mq (cy jg (fs++d.cw i)) _;simp[mq,commResult,scase,dh,goInt,cy]
 .show Sits d.P (i+1==0) d.K0 (d.Sp (i+1)) d.B _ _ _;rw[xb];exact .inl ⟨n,default,rfl,hgoes default⟩
theorem UC(O:d.Ok){num:ay}{n:Nat}
  (hstep:∀(cs:List aB) (w:aj),bn d.P aw (cy jg cs) w=.comm (cy jg cs) #[scase d.come num z0,dh d.gone z2] au .select w #[])
  (hgoes:∀w,Goes d.P aw (RK d.K0) (DS (d.Sp (i+1)) d.B) (λg w=>g.status=.running/\∃m,d.cc.Wk i 7 m 0 g w) n (cy (jg.finish (.tuple #[aq af 0,.bool aw,z2])) (fs++d.cw i)) w):aa1 d i jg fs:=by
 have xb:(i+1==0)=aw:=aJ;refine⟨cy (jg.finish (.tuple #[aq af 0,.bool aw,z2])) (fs++d.cw i),n,num,λr=>⟨rfl,cy jg (fs++d.cw i),0,#[scase d.come num z0,dh d.gone z2],.select,λw₁ _=>?_,⟨⟨z0,rfl⟩,λm cc hm hcc=>?_⟩,λw hw m b' z' h=>?_,?_⟩,λw _=>hgoes w⟩
 .rw[xb];exact hstep _ w₁
 .rcases m with _|_|m
  .exact aT rfl hm
  .simp at hcc;exact⟨d.gone,z2,hcc.symm,bZ O.cg⟩
  .simp at hcc
 .obtain⟨_,_,⟨k,h5⟩,_⟩:=hw;rcases m with _|_|m
  .simp[scase,dh]at h
  .simp[dh]at h;obtain⟨rfl,_⟩:=h;exact⟨k,h5⟩
  .simp at h
 .show _=mq (cy jg (fs++d.cw i)) _;simp[mq,commResult,scase,dh,goInt,cy]
end
section
open Go Go.Conc Go.ConcN
section
variable{P:bh}
theorem xI{main:Bool}{x:aB}{rest:List aB}{chain:List PanicEntry}{f:Func}(hm:fr.mode=.panicking chain)(hd:fr.defers=[])(hf:P.funcs[fr.fn]? =ae f)(w:aj):
  bn P main (cy fr (x::rest)) w=.go (cy (x.raise chain) rest) w #[]:=by
 simp[bn,hm,unwind,hd,Frame.catches,hf,cy]
end
def DG(S:Loc->Prop)(B:Nat)(w w':aj)(es:Array cK):Prop:=YJ w w'/\∀e∈es,EvC S B e
theorem cY(w:aj):DG S B w w #[]:=⟨YJ.refl w,aJ⟩
theorem jD{w:aj}{es:Array cK}(h:∀e∈es,EvC S B e):DG S B w w es:=⟨YJ.refl w,h⟩
theorem JC{w:aj}{o:Obj}{es:Array cK}(h:∀e∈es,EvC S B e):DG S B w (w.alloc o) es:=⟨⟨rfl,rfl,rfl,aJ,λb hb=>by rw[←dt];simp[dz,Nat.ne_of_lt hb]⟩,h⟩
section
variable{P:bh}
theorem l8{main:Bool}{cs:List aB}{w:aj}{g:FuncId}{cap args:Array ay}{ds:List Deferred}(hm:fr.mode≠.run)(hd:fr.defers=⟨.fn (.func g) cap,args⟩::ds)(hf:P.funcs[g]? =ae fn)(hname:(fn.name== "runtime.NumGoroutine")=aw)(hb:fn.body=ae c):
  bn P main (G fr cs) w=.go (G ((baseD g).at {tmps:=(args++cap) ++Array.replicate (fn.ntmps- (args++cap).size) aO,defers:=[]} [.code c]) ({fr with defers:=ds}::cs)) w #[]:=by
 have h1:¬fn.name= "runtime.NumGoroutine" :=by simpa using hname
 rw[←enter_atD (args++cap) hf hb];cases e:fr.mode with
 |run=>exact aT e hm
 |_=>simp[G,bn,e,unwind,hd,callDeferred,invoke,callFunc,hf,h1,hb,GStep.after,seen_none]
theorem vA{main:Bool}{ops:Array aZ}{rest:List Nat}{c:aB}{cs:List aB}{w:aj}{o:aZ}(ho:ops[i]? =ae o)(hw:dF o (dW ops a.tmps)=au)(hk:b.kind=.deferred)
  (hop:o.op=.call {callee:=.builtin .recover,args:=#[],argTypes:=ats})(hm:c.mode=.panicking ({v,recovered:=aw}::ew)):
  bn P main (G (b.at a (bI ops (i::rest)::k)) (c::cs)) w=.go (G (b.at (a.put o.dst v) (bI ops rest::k)) ({c with mode:=.panicking ({v,recovered:=au}::ew)}::cs)) w #[]:=by
 have e1:(b.at a (bI ops (i::rest)::k)).kind=.deferred:=hk;have e2:(b.at a (bI ops (i::rest)::k)).roundOf=ah:=rfl;have hr:(bT a.eval o).runT P w #[]=(.ok .recover w,#[]):=by simp[bT,hop,go_sem,builtin]
 have hg:=stepG_oper (P:=P) (main:=main) (b:=b) (a:=a) (k:=k) (cs:=c::cs) (w:=w) (rest:=rest) ho hw
 skip
 rw[hg];simp only[gB,if_true,hr,e1,e2];have ht:tryRecover (b.at a (bI ops (i::rest)::k)) (c::cs)=ae (v,{c with mode:=.panicking ({v,recovered:=au}::ew)}::cs):=by simp[tryRecover,e1,hm]
 simp[ht,iB,ho,GStep.after,seen,G]
theorem sF{main:Bool}{todo:List Item}{c:aB}{cs:List aB}{w:aj}(hn:b.kind=.deferred)(hd:a.defers=[])(hf:P.funcs[b.fn]? =ae fn)
  (hr:(eL fn a.tmps).run P w=.ok v w)(he:(eL fn a.tmps).events P w #[]=#[])(hc:c.mode=.panicking ({v:=x,recovered:=au}::ew))(ho:ew.dropWhile (!·.goexit)=[]):
  bn P main (G {b.at a todo with mode:=.returning} (c::cs)) w=.go (G {c with mode:=.returning} cs) w #[]:=by
 simp[G,bn,unwind,doReturn,Frame.at,hn,hd,hf,hr,he,hc,ho,seen,GStep.after]
end
section
variable{J:gS σ}{k:Nat}{w:aj}{g:Bool}
theorem Run.Gc(R:Run J d tW k t g be p w):∃sl,w.cell? ⟨d.W k,9,ah⟩=ae sl/\AnsAt w sl ((J.ar (t-1)).w k).got/\Uv J d k w sl ((J.ar (t-1)).w k).got.length:=by obtain⟨s,ow,sl,_,_,_,hW,h1,h2⟩:=R.ex;exact⟨sl,UD,h1,h2⟩
theorem Run.blk(R:Run J d tW k t g be p w):d.W k<w.heap.size:=by obtain⟨s,ow,sl,_,_,_,hW,h1,h2⟩:=R.ex;exact(bF.1 hW).1
theorem Run.foot(R:Run J d tW k t g be p w)(hL:J.L.Ok d.ro){b:Nat}(h:J.L.Foot w b):b<w.heap.size:=by obtain⟨s,ow,sl,_,_,hr,hW,h1,h2⟩:=R.ex;obtain⟨⟨c,e,hc⟩,_⟩:=hL.foot s w b hr h;exact(bF.1 hc).1
theorem acI(R0:Run J d tW k t0 g0 be0 p0 w0)(K:gD J d k w0 w)(h9:w.cell? ⟨d.W k,9,ah⟩=ae sl)(b:Nat)(h:cC w sl b):cC w0 sl b/\b<w0.heap.size:=by
 obtain⟨sl0,h1,_,h2⟩:=R0.Gc;have e:sl0=sl:=by rw[K.sl9,h1]at h9;exact bj h9
 subst e;have hs:cC w0 sl0 b:=(sblocks_same (w:=w0) (w':=w) (sl:=sl0) (λx n e h3 o=>by obtain⟨h4,h5,h6,o',h7,h8,_⟩:=h2.blk x.block ⟨x,n,e,h3,.inl rfl⟩;exact dr (w:=w0) (by rw[(K.same _ _ h7 h8 h5 h4).1,h7])) b).1 h;obtain⟨_,_,_,o,h3,_⟩:=h2.blk b hs;exact⟨hs,(bF.1 h3).1⟩
theorem Bg(hL:J.L.Ok d.ro)(R0:Run J d tW k t0 g0 be0 p0 w0)(R:Run J d tW k t g be p w)(K:gD J d k w0 w)(hsz:w.heap.size<=w'.heap.size)(hX:∀b,b<w.heap.size->w'.heap[b]?≠w.heap[b]?->w0.heap.size<=b/\¬J.L.Foot w b):
  Run J d tW k t g be p w'/\gD J d k w0 w'/\∀b,J.L.Foot w' b↔J.L.Foot w b:=by
 have hsame:∀b,b<w.heap.size->(b<w0.heap.size\/J.L.Foot w b)->w'.heap[b]? =w.heap[b]? :=λb hb h=>by
  apply eV;intro hc;obtain⟨h1,h2⟩:=hX b hb hc;rcases h with h|h
  .omega
  .exact h2 h
 obtain⟨s,ow,sl,hM,hb,eI,hW,lq,hown⟩:=R.ex;have h9:=cO hW 9;have h0:=R0.blk;obtain⟨Cj,fS⟩:=hL.rep s w w' eI λb hb=>hsame b (R.foot hL hb) (.inr hb);have sN:=hW;rw[←hsame _ R.blk (.inl h0)]at sN;have hblk:∀b,cC w sl b->w'.heap[b]? =w.heap[b]? :=λb hb=>by obtain⟨_,h1⟩:=acI R0 K h9 b hb;exact hsame b (iR h1 K.size) (.inl h1)
 have hs:∀b,cC w' sl b↔cC w sl b:=sblocks_same λx n e h1 o=>dr (w:=w) (hblk x.block ⟨x,n,e,h1,.inl rfl⟩);have DN:J.L.G w w':=hL.gsame _ _ _ eI λb hb=>hsame b (R.foot hL hb) (.inr hb);refine⟨⟨J.L.gtrans _ _ _ R.go DN,⟨s,ow,sl,hM,hb,Cj,sN,gV (λx hx=>dr (w:=w) (hblk _ hx)) lq,λb hb=>?_,tX hown.row hblk,tV hown.far hblk⟩,λb f hf=>?_⟩,⟨dm K.size hsz,λb o h1 h2 h3 h4=>?_,by rw[←K.sl9,h9,ax sN];rfl,J.L.gtrans _ _ _ K.go DN⟩,fS⟩
 .have hb:=(hs b).1 hb;obtain⟨h1,h2,h3,h4⟩:=hown.blk b hb;exact⟨h1,λh=>h2 ((fS b).1 h),h3,by rw[hblk b hb];exact h4⟩
 .obtain⟨⟨c,e,hc⟩,h2,h3⟩:=R.fw b f hf;obtain⟨⟨c0,e0,hc0⟩,_,_⟩:=R0.fw b f hf;have hb0:=(bF.1 hc0).1;exact⟨⟨c,e,by rw[hsame b (bF.1 hc).1 (.inl hb0)];exact hc⟩,λh=>h2 ((fS b).1 h),h3⟩
 .obtain⟨h5,h6⟩:=K.same b o h1 h2 h3 h4;exact⟨by rw[hsame b (bF.1 h5).1 (.inl (bF.1 h1).1)];exact h5,λh=>h6 ((fS b).1 h)⟩
structure CallV(J:gS σ)(d:bp)(k:Nat)(w:aj)(cv:ay)(c:bs):Prop where
 ex:∃pv,cv=.agg #[aq af c.kind,aq af c.a,aq af c.b,aq af c.c,pv]/\SlP w pv c.pairs/\∀x n e,pv=aD (ae x) n e->x.block≠d.W k/\¬J.L.Foot w x.block/\∃o,w.heap[x.block]? =ae o/\o≠eh
theorem CallV.keep{c:bs}(h:CallV J d k w cv c)(K:gD J d k w w'):CallV J d k w' cv c:=by
 obtain⟨pv,e,h1,h2⟩:=h.ex;refine⟨pv,e,h1.same λx n e h3 y hy=>?_,λx n e h3=>?_⟩
 .obtain⟨h4,h5,o,h6,h7⟩:=h2 x n e h3;obtain⟨h8,_⟩:=K.same _ _ h6 h7 h5 h4;refine dr (w:=w) ?_;rw[hy,h8,h6]
 .obtain⟨h4,h5,o,h6,h7⟩:=h2 x n e h3;obtain⟨h8,h9⟩:=K.same _ _ h6 h7 h5 h4;exact⟨h4,h9,o,h8,h7⟩
structure AB(J:gS σ)(B:Nat)(w:aj)(v:ay)(a:kC):Prop where
 ex:∃v0 v1 v2 iv pv,v=.agg #[aq af v0,aq af v1,aq af v2,.bool a.ok,aq af a.n,aq af a.m,aq af a.err,iv,pv]/\Qr w iv a.ints/\SlP w pv a.pairs/\
  ∀x n e,(iv=aD (ae x) n e\/pv=aD (ae x) n e)->B<=x.block/\¬J.L.Foot w x.block/\∃o,w.heap[x.block]? =ae o/\o≠eh/\di o=au
theorem AB.same{a:kC}(h:AB J B w v a)(hw:∀b,b<w.heap.size->B<=b->w'.heap[b]? =w.heap[b]?)(hf:∀b,J.L.Foot w' b↔J.L.Foot w b):AB J B w' v a:=by
 obtain⟨v0,v1,v2,iv,pv,e,h1,h2,h3⟩:=h.ex;have key:∀x n e,(iv=aD (ae x) n e\/pv=aD (ae x) n e)->w'.heap[x.block]? =w.heap[x.block]? :=λx n e h=>by obtain⟨h4,_,o,h5,_⟩:=h3 x n e h;exact hw _ (bF.1 h5).1 h4
 refine⟨v0,v1,v2,iv,pv,e,h1.same λx n e h y hy=>?_,h2.same λx n e h y hy=>?_,λx n e h=>?_⟩
 .exact dr (w:=w) (by rw[hy];exact key x n e (.inl h))
 .exact dr (w:=w) (by rw[hy];exact key x n e (.inr h))
 .obtain⟨h4,h5,h6⟩:=h3 x n e h;exact⟨h4,λhc=>h5 ((hf _).1 hc),by rw[key x n e h];exact h6⟩
theorem AB.mono{B':Nat}{a:kC}(h:AB J B w v a)(hB:B'<=B):AB J B' w v a:=by obtain⟨v0,v1,v2,iv,pv,e,h1,h2,h3⟩:=h.ex;exact⟨v0,v1,v2,iv,pv,e,h1,h2,λx n e h=>⟨dm hB (h3 x n e h).1,(h3 x n e h).2⟩⟩
end
section
variable{w w5:aj}{sl':ay}{l:List my}{g' cap':Nat}{cs:List ay}{x:my}{iv pv:ay}
def pF(x:my)(iv pv:ay):List ay:=[aq af x.begin_,aq af x.end_,aq af x.own,.bool x.ans.ok,aq af x.ans.n,aq af x.ans.m,aq af x.ans.err,iv,pv]
theorem UE(lq:AnsAt w sl l)(hrow:w.ownsRow 0 tA 9 sl l.length cs)(MA:Far w sl)(zV:w5.ownsRow 0 tA 9 (aD (ae ⟨g',0,ah⟩) (l.length+1) cap') (l.length+1) (cs++pF x iv pv))
  (hs:∀b,cC w sl b->sl.ownBlock≠ae b->w5.heap[b]? =w.heap[b]?)(hi:Qr w5 iv x.ans.ints)(hp:SlP w5 pv x.ans.pairs):AnsAt w5 (aD (ae ⟨g',0,ah⟩) (l.length+1) cap') (l++[x]):=by
 have hlen:cs.length=l.length*9:=hrow.1;have hc:∀j,j< (l.length+1) *9->w5.cell? ⟨g',j,ah⟩=(cs++pF x iv pv)[j]? :=λj hj=>zV.cellAt j hj;refine⟨_,cap',by rw[mo];rfl,λi y hy=>⟨g',rfl,?_⟩⟩;rcases ji i l.length with Uu|Uu
 .rw[lz Uu]at hy;obtain⟨a,cap,rfl,h⟩:=lq;obtain⟨b,rfl,A⟩:=h i y hy;have hold:∀j,j<9->w5.cell? ⟨g',9*i+j,ah⟩=w.cell? ⟨b,9*i+j,ah⟩:=λj hj=>by rw[hc _ ai,lz ai,hrow.cellAt _ ai]
  have Ip:∀j v x' n e,j<9->w.cell? ⟨b,9*i+j,ah⟩=ae v->v=aD (ae x') n e->∀z:aP,z.block=x'.block->w5.cell? z=w.cell? z:=by intro j v x' n e hj h2 e1 z hz;subst e1;refine dr ?_;rw[hz];have hne:=MA _ _ _ rfl (9*i+j) x' n e ai h2;exact hs _ ⟨⟨b,0,ah⟩,_,_,rfl,.inr ⟨9*i+j,x',n,e,ai,h2,rfl⟩⟩ (λe=>hne (bj e).symm)
  refine⟨(hold 0 ai).trans A.c0,(hold 1 ai).trans A.c1,(hold 2 ai).trans A.c2,(hold 3 ai).trans A.c3,(hold 4 ai).trans A.c4,(hold 5 ai).trans A.c5,(hold 6 ai).trans A.c6,?_,?_⟩
  .obtain⟨v,h2,h3⟩:=A.c7;exact⟨v,(hold 7 ai).trans h2,h3.same λx' n e e1 z hz=>Ip 7 v x' n e ai h2 e1 z hz⟩
  .obtain⟨v,h2,h3⟩:=A.c8;exact⟨v,(hold 8 ai).trans h2,h3.same λx' n e e1 z hz=>Ip 8 v x' n e ai h2 e1 z hz⟩
 .have xb:i=l.length:=by have:=(eX.1 hy).1;simp at this;omega
  subst xb;rw[nI (bJ _)]at hy;obtain rfl:x=y:=by simpa using hy
  have hnew:∀j,j<9->w5.cell? ⟨g',9*l.length+j,ah⟩=(pF x iv pv)[j]? :=λj hj=>by rw[hc _ ai,nI ai,show 9*l.length+j-cs.length=j by omega]
  exact⟨hnew 0 ai,hnew 1 ai,hnew 2 ai,hnew 3 ai,hnew 4 ai,hnew 5 ai,hnew 6 ai,⟨iv,hnew 7 ai,hi⟩,⟨pv,hnew 8 ai,hp⟩⟩
theorem Qy(hlen:∃a cap,sl=aD a l.length cap)(hrow:w.ownsRow 0 tA 9 sl l.length cs)(zV:w5.ownsRow 0 tA 9 (aD (ae ⟨g',0,ah⟩) (l.length+1) cap') (l.length+1) (cs++pF x iv pv)){i:Nat}{y:aP}{e':Nat}
  (hi:i<9*(l.length+1))(h:w5.cell? ⟨g',i,ah⟩=ae (aD (ae y) m e')):(∃g,sl.ownBlock=ae g/\i<9*l.length/\w.cell? ⟨g,i,ah⟩=ae (aD (ae y) m e'))\/iv=aD (ae y) m e'\/pv=aD (ae y) m e':=by
 have hl:cs.length=l.length*9:=hrow.1;rw[zV.cellAt i ai]at h;rcases ji i (9*l.length)with h1|h1
 .rw[lz ai]at h;rcases hrow.2 with⟨_,h0⟩|⟨g,cap,cur,rfl,UF⟩
  .omega
  .exact .inl ⟨g,rfl,h1,by rw[hrow.cellAt i ai];exact h⟩
 .rw[nI ai]at h;have hj:i-cs.length<9:=ai;generalize i-cs.length=j at h hj;match j,hj with
  |0,_|1,_|2,_|3,_|4,_|5,_|6,_=>simp[pF]at h
  |7,_=>exact .inr (.inl (by simpa[pF]using h))
  |8,_=>exact .inr (.inr (by simpa[pF]using h))
end
section
variable{P:bh}
theorem xJ{main:Bool}{ops:Array aZ}{i:Nat}{rest:List Nat}{k:List Item}{cs:List aB}{w:aj}{o:aZ}{x:Operand}{g:FuncId}{cap:Array ay}(ho:ops[i]? =ae o)(hw:dF o (dW ops a.tmps)=au)(hk:b.kind≠.early)
  (hop:o.op=.defer {callee:=.value x,args:=#[],argTypes:=#[]})(hx:a.eval x=.func (.func g) #[] cap):
  bn P main (cy (b.at a (bI ops (i::rest)::k)) cs) w=.go (cy (b.at (Act.put ⟨a.tmps,⟨.fn (.func g) cap,#[]⟩::a.defers⟩ o.dst aO) (bI ops rest::k)) cs) w #[]:=by
 have hr:(bT a.eval o).runT P w #[]=(.ok (.defer ⟨.fn (.func g) cap,#[]⟩) w,#[]):=by clear ho hw;generalize a.eval=ρ at hx;simp[bT,hop,resolve,Deferred.ofValue,hx,go_sem]
 have hg:=stepG_oper (P:=P) (main:=main) (b:=b) (a:=a) (k:=k) (cs:=cs) (w:=w) (rest:=rest) ho hw;have qI:((b.at a (bI ops (i::rest)::k)).kind==gA)=aw:=by show(b.kind==gA)=aw;cases e:b.kind<;>first|rfl|exact aT e hk
 have mh:(b.at ⟨a.tmps,⟨.fn (.func g) cap,#[]⟩::a.defers⟩ (bI ops (i::rest)::k)).finish aO=b.at (Act.put ⟨a.tmps,⟨.fn (.func g) cap,#[]⟩::a.defers⟩ o.dst aO) (bI ops rest::k):=by rw[iB,ho];rfl
 refine hg.trans ?_;simp only[gB,hr,qI];rw[←mh];simp[GStep.after,seen,cy,G,Frame.at]
theorem Cp{main:Bool}{ops:Array aZ}{i:Nat}{rest:List Nat}{k:List Item}{c:aB}{cs:List aB}{w:aj}{o:aZ}(ho:ops[i]? =ae o)(hw:dF o (dW ops a.tmps)=au)(hk:b.kind=.deferred)
  (hop:o.op=.call {callee:=.builtin .recover,args:=#[],argTypes:=ats})(hm:c.mode=.returning):
  bn P main (cy (b.at a (bI ops (i::rest)::k)) (c::cs)) w=.go (cy (b.at (a.put o.dst .nilIface) (bI ops rest::k)) (c::cs)) w #[]:=by
 have e1:(b.at a (bI ops (i::rest)::k)).kind=.deferred:=hk;have e2:(b.at a (bI ops (i::rest)::k)).roundOf=ah:=rfl;have hr:(bT a.eval o).runT P w #[]=(.ok .recover w,#[]):=by simp[bT,hop,go_sem,builtin]
 have hg:=stepG_oper (P:=P) (main:=main) (b:=b) (a:=a) (k:=k) (cs:=c::cs) (w:=w) (rest:=rest) ho hw;refine hg.trans ?_;simp only[gB,if_true,hr,e1,e2];have ht:tryRecover (b.at a (bI ops (i::rest)::k)) (c::cs)=ah:=by simp[tryRecover,e1,hm]
 simp[ht,iB,ho,GStep.after,seen,cy,G]
theorem Cq{main:Bool}{todo:List Item}{c:aB}{cs:List aB}{w:aj}(hn:b.kind=.deferred)(hd:a.defers=[])(hf:P.funcs[b.fn]? =ae fn)
  (hr:(eL fn a.tmps).run P w=.ok v w)(he:(eL fn a.tmps).events P w #[]=#[])(hc:c.mode=.returning):
  bn P main (cy {b.at a todo with mode:=.returning} (c::cs)) w=.go (cy c cs) w #[]:=by
 simp[cy,bn,unwind,doReturn,Frame.at,hn,hd,hf,hr,he,hc,seen,GStep.after]
section
variable{main:Bool}{cs:List aB}{J:fM ι}{Stop:ι->aB->List aB->aj->Prop}{i:ι}{w:aj}
theorem xK{g:FuncId}{cap:Array ay}{ds:List Deferred}(hm:fr.mode=.returning)(hd:fr.defers=⟨.fn (.func g) cap,#[]⟩::ds)(hf:P.funcs[g]? =ae fn)(hname:(fn.name== "runtime.NumGoroutine")=aw)(hb:fn.body=ae c)
  (h:ZigC P main cs J Stop i ((baseD g).at {tmps:=(#[] ++cap) ++Array.replicate (fn.ntmps- (#[] ++cap).size) aO,defers:=[]} [.code c]) ({fr with defers:=ds}::fs) w):ZigC P main cs J Stop i fr fs w:=
 .pure (λw=>l8 (by rw[hm];simp) hd hf hname hb) h
theorem JD{ops:Array aZ}{rest:List Nat}{k:List Item}{o:aZ}(ho:ops[j]? =ae o)(hw:dF o (dW ops a.tmps)=au)(hk:b.kind≠.early)
  (hr:∀w,(bT a.eval o).runT P w #[]=(.ok (.value v) w,#[]))(h:ZigC P main cs J Stop i (b.at (a.put o.dst v) (bI ops rest::k)) fs w):ZigC P main cs J Stop i (b.at a (bI ops (j::rest)::k)) fs w:=by
 have qI:((b.at a (bI ops (j::rest)::k)).kind==gA)=aw:=by show(b.kind==gA)=aw;cases e:b.kind<;>first|rfl|exact aT e hk
 have mh:(b.at a (bI ops (j::rest)::k)).finish v=b.at (a.put o.dst v) (bI ops rest::k):=by rw[iB,ho];rfl
 refine .pure (λw=>?_) h;have:=(stepG_oper (P:=P) (main:=main) (b:=b) (a:=a) (k:=k) (cs:=fs++cs) (w:=w) (rest:=rest) ho hw).trans (jy (fr:=b.at a (bI ops (j::rest)::k)) (cs:=fs++cs) qI (hr w));rw[mh,show seen P (b.at a (bI ops (j::rest)::k)).fn #[] ++ #[]=#[]from by simp[seen]]at this;exact this
theorem vB{ops:Array aZ}{rest:List Nat}{k:List Item}{c:aB}{o:aZ}(ho:ops[j]? =ae o)(hw:dF o (dW ops a.tmps)=au)(hk:b.kind=.deferred)
  (hop:o.op=.call {callee:=.builtin .recover,args:=#[],argTypes:=ats})(hm:c.mode=.returning)(h:ZigC P main cs J Stop i (b.at (a.put o.dst .nilIface) (bI ops rest::k)) (c::fs) w):ZigC P main cs J Stop i (b.at a (bI ops (j::rest)::k)) (c::fs) w:=
 .pure (λw=>Cp ho hw hk hop hm) h
theorem Qz{todo:List Item}{c:aB}(hn:b.kind=.deferred)(hd:a.defers=[])(hf:P.funcs[b.fn]? =ae fn)
  (hr:fn.results=#[])(hc:c.mode=.returning)(h:ZigC P main cs J Stop i c fs w):ZigC P main cs J Stop i {b.at a todo with mode:=.returning} (c::fs) w:=
 .pure (λw=>Cq hn hd hf (results_none hr _ _ _) (events_results_none hr _ _) hc) h
theorem JH(h:ZigC P main cs J Stop i {b.at a []with mode:=.returning} fs w):ZigC P main cs J Stop i (b.at a []) fs w:=.pure (λw=>stepG_end) h
end
end
end
section
open Go Go.Conc Go.RowKit
def aW(wk tu ha:Option aP)(wn wc tn tc hn hc:Nat)(un:Int):Array ay:=#[aD wk wn wc,aD tu tn tc,aD ha hn hc,aq af un]
def xL(n k:Nat)(r:Nat->Bool):Array ay:=Array.ofFn λi:Fin n=>Value.bool (decide (i.1<k) &&r i.1)
def DX(r:Nat->Bool)(k:Nat):Bool:=(dx k).any r
theorem JI(n k:Nat)(r:Nat->Bool)(i:Nat)(h:i<n):(xL n k r)[i]? =ae (.bool (decide (i<k) &&r i)):=by simp[xL,h]
theorem UG(n k:Nat)(r:Nat->Bool)(h:k<n):(xL n k r).setIfInBounds k (.bool (r k))=xL n (k+1) r:=by
 apply Array.ext
 .simp[xL]
 .intro i h1 h2;simp only[xL,zP,Array.size_ofFn]at h1 h2;rw[Array.getElem_setIfInBounds (by simpa[xL]using h1)];simp only[xL,Array.getElem_ofFn];by_cases e:k=i
  .subst e;simp
  .rw[aU e];congr 2;simp;omega
theorem QA(n:Nat)(r:Nat->Bool):xL n 0 r=madeCells #[.bool aw] n:=by
 apply Array.ext
 .simp[xL,size_madeCells]
 .intro i h1 h2;simp only[xL,Array.getElem_ofFn];simp[madeCells,Nat.mod_one]
structure OU(w:aj)(n lb sb:Nat)(W:Nat->Nat)(dn:Nat->Bool)(Bh:Nat->Nat)(ha:Option aP)(hl:List Int):Prop where
 l:∀i,i<n->w.cell? ⟨lb,i,ah⟩=ae (aI (ae ⟨W i,0,ah⟩))
 s:∀i,i<n->w.cell? ⟨sb,i,ah⟩=ae (aq af (Bh i))
 d:∀i,i<n->w.cell? ⟨W i,10,ah⟩=ae (.bool (dn i))
 h:∀i,i<hl.length->∃hb ho,ha=ae ⟨hb,ho,ah⟩/\w.cell? ⟨hb,ho+i,ah⟩=ae (aq af (hl.getD i 0))
structure Bi(w wr:aj)(wk tu ha:Option aP)(wn wc tn tc hn hc:Nat)(un:Int)(n k:Nat)(r:Nat->Bool):Prop where
 size:wr.heap.size=w.heap.size+2
 old:∀b,b<w.heap.size->wr.heap[b]? =w.heap[b]?
 box:wr.heap[w.heap.size]? =ae (aK (aW wk tu ha wn wc tn tc hn hc un) 25 (0,0))
 row:wr.heap[w.heap.size+1]? =ae (aK (xL n k r) 4 (0,0))
 os:wr.os=w.os
 output:wr.output=w.output
theorem JJ(w:aj)(wk tu ha:Option aP)(wn wc tn tc hn hc:Nat)(un:Int)(n:Nat)(r:Nat->Bool):Bi w ((w.alloc (aK (aW wk tu ha wn wc tn tc hn hc un) 25)).alloc (aK (madeCells #[.bool aw] n) 4)) wk tu ha wn wc tn tc hn hc un n 0 r:=by
 refine⟨aJ,λb hb=>?_,?_,?_,rfl,rfl⟩ <;>simp only[←dt,dz,fN]
 .rw[aU ai,aU ai]
 .rw[aU ai,aX trivial]
 .rw[aX trivial,QA]
theorem UH:(prog.info? 4).map (λi=>(i.zero,i.size,i.bytes))=ae (ae (.bool aw),1,1):=aQ
theorem yS(r:Nat->Bool)(k:Nat):DX r (k+1)=(DX r k||r k):=by unfold DX;rw[tD,List.any_append];simp
theorem wD{w:aj}{wk tu ha:Option aP}{wn wc tn tc hn hc:Nat}{n k:Nat}{r:Nat->Bool}{b:Bool}(R:Bi w wr wk tu ha wn wc tn tc hn hc un n k r)(hk:k<n)(hb:b=r k):Bi w ((wr.drewN m).setCell ⟨w.heap.size+1,k,ah⟩ (.bool b)) wk tu ha wn wc tn tc hn hc un n (k+1) r:=by
 subst hb;refine⟨by simp[fF,R.size],λb hb=>?_,?_,?_,R.os,R.output⟩
 .rw[az ai];exact R.old b hb
 .rw[az ai];exact R.box
 .have:=aH (w:=wr.drewN m) (o:=k) R.row (.bool (r k));rw[UG _ _ _ hk]at this;exact this
theorem QB(n lb lc sb sc wn wc tn tc hc:Nat)(wk tu ha:Option aP)(hl:List Int)(un:Int)(W:Nat->Nat)(dn:Nat->Bool)(Bh:Nat->Nat)(w:aj)(hn:n<=8)(hlc:n<=lc)(I:OU w n lb sb W dn Bh ha hl):
  b9 aC 119 #[.agg (aW wk tu ha wn wc tn tc hl.length hc un),aD (ae ⟨lb,0,ah⟩) n lc,aD (ae ⟨sb,0,ah⟩) n sc] w λe w'=>∃r:Nat->Bool,(∀k,r k=(!dn k&&!decide (0<hl.getD k 0/\hl.getD k 0<=(Bh k:Int))))/\e=.returned (.tuple #[aD (ae ⟨w.heap.size+1,0,ah⟩) n n,.bool (DX r n)])/\w'.heap.size=w.heap.size+2/\(∀b,b<w.heap.size->w'.heap[b]? =w.heap[b]?)/\w'.heap[w.heap.size+1]? =ae (aK (xL n n r) 4 (0,0))/\w'.os=w.os/\w'.output=w.output:=by
 have hmk:=run_make_row' (P:=aC) 81 4 (.bool aw) 1 underlying81 UH rfl .i64 .i64 n ai ai;simp only[aW];have HI:=aA I;clear I;go_enter func119,ntmps119
 go_wp2;let r:Nat->Bool:=λk=>!dn k&&!decide (0<hl.getD k 0/\hl.getD k 0<=(Bh k:Int));have hr:∀k,r k=(!dn k&&!decide (0<hl.getD k 0/\hl.getD k 0<=(Bh k:Int))):=λ_=>rfl
 clear_value r
 have Hr:=aA hr;clear hr;go_loopw [18,9] (λiv av wr=>∃k:Nat,k<=n/\iv=aq af k/\av=.bool (DX r k)/\Bi w wr wk tu ha wn wc tn tc hl.length hc un n k r) (λi _ _=>n- (intOf i).toNat)
 case atStart=>exact⟨0,bQ _,rfl,rfl,JJ ..⟩
 case round=>
  obtain⟨k,hk,rfl,rfl,R⟩:=hrel;by_cases hlt:k<n
  .have I:=HI.out;have same:∀(b o:Nat) v,w.cell? ⟨b,o,ah⟩=ae v->wr.cell? ⟨b,o,ah⟩=ae v:=λb o v hv=>(by have hb:=ez w _ hv;rw[←hv];exact dr (w:=w) (R.old b hb));have f1:=same _ _ _ (I.l k hlt);have f2:=same _ _ _ (I.s k hlt);have f3:=same _ _ _ (I.d k hlt);have f4:=cO R.box 2;have f5:wr.cell? ⟨w.heap.size+1,k,ah⟩=ae (.bool (decide (k<k) &&r k)):=(by rw[ax R.row,JI _ _ _ _ hlt]);have z5:=aM R.row k (bQ _);have Cr:=Hr.out k;have hwr:IntKind.i64.wrap ((k:Int) +1)=(k:Int) +1:=(by rw[gq];omega);have HR:=aA R;have hH:=I.h k;clear I same R;by_cases h1:k<hl.length
   .obtain⟨hb,ho,rfl,f6⟩:=hH h1;have f6':wr.cell? ⟨hb,ho+k,ah⟩=ae (aq af (hl.getD k 0)):=(by have hb':=ez w _ f6;rw[←f6];exact dr (w:=w) (HR.out.old hb hb'));generalize hl.getD k 0=hv at*;clear f6;by_cases h2:0<hv
    .have BF:decide (0<hv)=au:=rW;cases vt:dn k<;>cases QC:DX r k<;>rw[vt]at f3<;>go_wp2<;>go_quiet (fail) <;>go_wp2;all_goals refine⟨⟨k+1,ai,aJ,by rw[yS,QC,Cr,vt];simp[h2],wD HR.out hlt (by rw[Cr,vt];simp[h2])⟩,by simp[intOf];omega⟩
    .have BF:decide (0<hv)=aw:=rW;cases vt:dn k<;>cases QC:DX r k<;>rw[vt]at f3<;>go_wp2<;>go_quiet (fail) <;>go_wp2;all_goals refine⟨⟨k+1,ai,aJ,by rw[yS,QC,Cr,vt];simp[h2],wD HR.out hlt (by rw[Cr,vt];simp[h2])⟩,by simp[intOf];omega⟩
   .have hg:hl.getD k 0=0:=(by rw[eF,vz ai];rfl);rw[hg]at Cr;have h1':decide ((k:Int) < (hl.length:Int))=aw:=dp;clear hH hg;cases vt:dn k<;>cases QC:DX r k<;>rw[vt]at f3<;>go_wp2<;>go_quiet (fail) <;>go_wp2;all_goals refine⟨⟨k+1,ai,aJ,by rw[yS,QC,Cr,vt];simp[],wD HR.out hlt (by rw[Cr,vt];simp[])⟩,by simp[intOf];omega⟩
  .have UI:k=n:=ai;subst UI;have h1:=HI.out;go_wp2;go_ret2
   exact⟨r,Hr.out,rfl,R.size,R.old,R.row,R.os,R.output⟩
end
section
open Go Go.RowKit
theorem below_drewN{n:Nat}{a w:aj}(h:Below B a w):Below B a (w.drewN n):=⟨h.os,h.tape,h.output,h.size,h.block⟩
def ZP(work:List (List bs))(kl:List Int)(w:aj)(e:Ending)(w':aj):Prop:=∃b,e=.returned (.bool b)/\(b=au->∀(k:Nat) (l:List bs),work[k]? =ae l->∀(i:Nat) (c:bs),l[i]? =ae c->c.kind∈kl)/\Below w.heap.size w w'
theorem UJ(wk tu ha:Option aP)(wc tn tc hn hc kb kc:Nat)(un:Int)(work:List (List bs))(kl:List Int)(w:aj)(h:RowsIn w wk work)(hL:work.length<=1000/\∀l∈work,l.length<=1000)(hkl:kl.length<=100)(hk:∀i,i<kl.length->w.cell? ⟨kb,i,ah⟩=ae (aq af (kl.getD i 0)))(hkb:kb<w.heap.size):
  b9 aC 15 #[.agg (aW wk tu ha work.length wc tn tc hn hc un),aD (ae ⟨kb,0,ah⟩) kl.length kc] w (ZP work kl w):=by
 simp only[aW];obtain⟨hL1,hL⟩:=hL;obtain⟨W,hW⟩:∃W,W=w.alloc (aK #[aD wk work.length wc,aD tu tn tc,aD ha hn hc,aq af un] 25):=⟨_,rfl⟩;have sW:w.heap.size<=W.heap.size:=by rw[hW,cM];omega
 have oW:∀b,b<w.heap.size->W.heap[b]? =w.heap[b]? :=λb hb=>by rw[hW];exact gT w _ _ hb
 have bW:W.cell? ⟨w.heap.size,0,ah⟩=ae (aD wk work.length wc):=by rw[hW,zW];rfl
 have kW:Below w.heap.size w W:=by rw[hW];exact(gw _ _).alloc (bJ _) _
 have qW:∀i,i<kl.length->W.cell? ⟨kb,i,ah⟩=ae (aq af (kl.getD i 0)):=λi hi=>(dr (w:=w) (oW kb hkb)).trans (hk i hi);have HI:=aA (h.same sW oW);have HQ:=aA qW;have HK:=aA kW;have HW:=aA hW;have HL:=aA hL;have HB:=aA bW;clear hW kW oW sW h hL hk qW bW;go_enter func15,ntmps15
 go_wp2;rw[←HW.out];clear HW;go_loopw [5] (λi wr=>∃k:Nat,k<=work.length/\i=aq af k/\(∀(j:Nat) (l:List bs),j<k->work[j]? =ae l->∀(i:Nat) (c:bs),l[i]? =ae c->c.kind∈kl)/\Below W.heap.size W wr) (λi _=>work.length- (intOf i).toNat)
 case atStart=>exact⟨0,bQ _,rfl,λj l hj=>ai,gw _ _⟩
 case round=>
  obtain⟨k,hk,rfl,qp,dQ⟩:=hrel;have hw0:=ez W _ HB.out;have bW:=(dQ.cell (p:=⟨w.heap.size,0,ah⟩) hw0).trans HB.out;have Hg:=aA qp;have jm:=aA dQ;clear qp dQ;by_cases hlt:k<work.length
  .obtain⟨l,hl⟩:∃l,work[k]? =ae l:=⟨_,eQ hlt⟩;obtain⟨b,o,v,rfl,hb,OV,a,cap,rfl,hrow⟩:=HI.out k l hl;have Lr:=HL.out l (nJ hl);have hc:=(jm.out.cell (p:=⟨b,o+k,ah⟩) hb).trans OV;have uU:=aA hrow;have Hl:=aA hl;clear hrow hl;go_wp2;go_loopw [6] (λi wr'=>∃j:Nat,j<=l.length/\i=aq af j/\(∀(i:Nat) (c:bs),i<j->l[i]? =ae c->c.kind∈kl)/\Below W.heap.size W wr') (λi _=>l.length- (intOf i).toNat)
   case atStart=>exact⟨0,bQ _,rfl,λi c hi=>ai,jm.out⟩
   case round=>
    obtain⟨j,hj,rfl,hg2,rX⟩:=hrel;have bW:=(rX.cell (p:=⟨w.heap.size,0,ah⟩) hw0).trans HB.out;have hcc:=λ(x:aP) v (h:W.cell? x=ae v)=>(rX.cell (ez W _ h)).trans h;have YM:=hcc _ _ OV;have Hg2:=aA hg2;have qq:=aA rX;have YT:=aA hcc;clear hg2 rX hcc;by_cases Io:j<l.length
    .obtain⟨b2,o2,rfl,hcall⟩:=uU.out j l[j] (eQ Io);have ck:=YT.out _ _ hcall.c0;have aba:=aA hcall;clear hcall;go_wp2;go_loopw [8,7] (λi met wr3=>∃q:Nat,q<=kl.length/\i=aq af q/\(∃bm,met=.bool bm/\(bm=au->(l[j]).kind∈kl))/\Below W.heap.size W wr3) (λi _ _=>kl.length- (intOf i).toNat)
     case atStart=>exact⟨0,bQ _,rfl,⟨aw,rfl,λh=>dB⟩,qq.out⟩
     case round=>
      obtain⟨q,hq,rfl,⟨bm,rfl,hbm⟩,pG⟩:=hrel;have bW:=(pG.cell (p:=⟨w.heap.size,0,ah⟩) hw0).trans HB.out;have YM:=(pG.cell (p:=⟨b,o+k,ah⟩) hb).trans OV;have ck:=(pG.cell (p:=⟨b2,o2+j*5,ah⟩) aba.out.lt).trans aba.out.c0;have ua:=aA pG;have Hbm:=aA hbm;clear pG hbm;by_cases Gm:q<kl.length
      .have cq:=(ua.out.cell (p:=⟨kb,q,ah⟩) (ez W _ (HQ.out q Gm))).trans (HQ.out q Gm);generalize hkd:(l[j]).kind=kd at*;generalize hzq:kl.getD q 0=zq at*;have Hkd:=aA hkd;have Hzq:=aA hzq;clear hkd hzq;cases bm with
       |true=>
        go_wp2_with fail
        go_quiet (fail)
        go_wp2;go_roundw
        case rel=>exact⟨q+1,ai,fY,⟨au,rfl,λ_=>Hbm.out trivial⟩,below_drewN ua.out⟩
        case measure=>simp[intOf];omega
       |false=>
        by_cases heq:kd=zq
        .have hbq:(kd==zq)=au:=(by simpa using heq);have L4:zq∈kl:=(by rw[←Hzq.out,eF,eQ Gm];exact rV _);have ag9:=aA L4;have Heq:=aA heq;clear L4 heq;go_wp2_with fail
         go_quiet (fail)
         go_wp2;go_roundw
         case rel=>exact⟨q+1,ai,fY,⟨au,rfl,λ_=>by rw[Heq.out];exact ag9.out⟩,below_drewN ua.out⟩
         case measure=>simp[intOf];omega
        .have hbq:(kd==zq)=aw:=(by simpa using heq);clear heq;go_wp2_with fail
         go_quiet (fail)
         go_wp2;go_roundw
         case rel=>exact⟨q+1,ai,fY,⟨aw,rfl,λh=>dB⟩,below_drewN ua.out⟩
         case measure=>simp[intOf];omega
      .cases bm with
       |true=>
        go_wp2;go_roundw
        case rel=>exact⟨j+1,ai,fY,λi c hi hc'=>by
         by_cases e:i=j
         .subst e;rw[eQ Io]at hc';obtain rfl:=bj hc';exact Hbm.out rfl
         .exact Hg2.out i c ai hc',ua.out⟩
        case measure=>simp[intOf];omega
       |false=>
        go_wp2;go_ret
        exact⟨aw,rfl,λh=>dB,HK.out.trans (ua.out.mono HK.out.size)⟩
    .obtain rfl:j=l.length:=ai;go_wp2;go_roundw
     case rel=>exact⟨k+1,ai,fY,λj' l' h1 h2 i c hc'=>by
      by_cases e:j'=k
      .subst e;rw[Hl.out]at h2;obtain rfl:=bj h2;exact Hg2.out i c (eX.1 hc').1 hc'
      .exact Hg.out j' l' ai h2 i c hc',qq.out⟩
     case measure=>simp[intOf];omega
  .obtain rfl:k=work.length:=ai;go_wp2;go_ret
   exact⟨au,rfl,λ_ j l hj i c hc=>Hg.out j l (eX.1 hj).1 hj i c hc,HK.out.trans (jm.out.mono HK.out.size)⟩
end
section
open Go.RowKit
structure Keep(S:Nat->Prop)(B:Nat)(w w':aj):Prop where
 os:w'.os=w.os
 tape:w'.tape=w.tape
 output:w'.output=w.output
 size:w.heap.size<=w'.heap.size
 block:∀k,k<B->¬S k->w'.heap[k]? =w.heap[k]?
theorem Keep.refl(S:Nat->Prop)(B:Nat)(w:aj):Keep S B w w:=⟨rfl,rfl,rfl,bJ _,λ_ _ _=>rfl⟩
theorem Keep.trans{S:Nat->Prop}{a b c:aj}(h:Keep S B a b)(k:Keep S B b c):Keep S B a c:=⟨k.os.trans h.os,k.tape.trans h.tape,k.output.trans h.output,dm h.size k.size,λi hi hs=>(k.block i hi hs).trans (h.block i hi hs)⟩
theorem Keep.drew{S:Nat->Prop}{a w:aj}(h:Keep S B a w):Keep S B a w.drew:=⟨h.os,h.tape,h.output,h.size,h.block⟩
theorem Keep.alloc{S:Nat->Prop}{a w:aj}(h:Keep S B a w)(hB:B<=w.heap.size)(o:Obj):Keep S B a (w.alloc o):=h.trans ⟨rfl,rfl,rfl,aJ,λk hk _=>gT _ _ _ ai⟩
theorem Keep.setCell{S:Nat->Prop}{a w:aj}(h:Keep S B a w){p:aP}(hp:S p.block\/B<=p.block)(u:ay):Keep S B a (w.setCell p u):=h.trans ⟨rfl,rfl,rfl,jM,λk hk hs=>Below.heap_setCell _ _ _ _ (λe=>by subst e;rcases hp with h|h;exact hs h;omega)⟩
theorem UK(w:aj)(v:ay)(t:bq)(n:Nat)(hn:n=w.heap.size):(w.alloc (aK #[v] t)).cell? ⟨n,0,ah⟩=ae v:=by subst hn;rw[zW];rfl
theorem qs(w:aj)(o:Obj)(p:aP)(h:p.block<w.heap.size):(w.alloc o).cell? p=w.cell? p:=World.cell?_alloc_lt _ _ _ h
def Words(ws:List Int):Prop:=∀i,i<ws.length->0<=ws.getD i 0/\ws.getD i 0<=1152921504606846975
theorem JK(l:List Int)(i j:Nat)(y:Int)(hi:i<l.length):(l.set i y).getD j 0=if i=j then y else l.getD j 0:=by simp only[eF,List.getElem?_set];split<;>simp_all
theorem pR(b c n:Nat)(i:Int)(w:aj)(hh:w.cell? ⟨b,0,ah⟩=ae (aD (ae ⟨c,0,ah⟩) n n))(h0:0<=i)(h1:i<n):b9 aC 41 #[aI (ae ⟨b,0,ah⟩),aq af i] w λe w'=>e=.returned (.bool au)/\w=w':=by
 have hd:decide (i< (n:Int))=au:=nG;go_enter func41,ntmps41
 go_wp2;go_ret
 exact⟨rfl,rfl⟩
theorem Bj(b c n:Nat)(i:Int)(w:aj)(hh:w.cell? ⟨b,0,ah⟩=ae (aD (ae ⟨c,0,ah⟩) n n))(hi:¬(0<=i/\i<n)):b9 aC 41 #[aI (ae ⟨b,0,ah⟩),aq af i] w λe w'=>e=.returned (.bool aw)/\w=w':=by
 by_cases h0:0<=i
 .have hd:decide (i< (n:Int))=aw:=dp;clear hi;go_enter func41,ntmps41
  go_wp2;go_ret
  exact⟨rfl,rfl⟩
 .clear hi;go_enter func41,ntmps41
  go_wp2;go_ret
  exact⟨rfl,rfl⟩
end
section
open Go
abbrev link:Go.Conc.Lib.WgLink:={add:=71,done:=73,wait:=76,relMerge:=103,disable:=104,enable:=105,inBubble:=106,associate:=107,fatal:=108,uOr:=109,uAdd:=110,raceRead:=111,uLoad:=112,uStore:=113,disassociate:=114,semrelease:=115,acquire:=121,isAssociated:=122,uCas:=123,raceWrite:=124,semacquire:=125,orU64:=143,addU64:=144,loadU64:=145,storeU64:=146,casU64:=150,tWgP:=202,tUP:=100,tAssoc:=204,tWg:=165,tAU:=162,tU64:=160,tUint:=175,tU32:=163,tPU32:=208,tPAU:=239,tPU64:=241,tNoCopy:=159,tANoCopy:=99,tAlign64:=113}
theorem OW:Go.Conc.Lib.WgLib aC link:=⟨func71,func73,func76,func103,func104,func105,func106,func107,func108,func109,func110,func111,func112,func113,func114,func115,func121,func122,func123,func124,func125,func143,func144,func145,func146,func150,underlying202,Tryz.runUnderlying202,Tryz.sizeOf202,Tryz.isAgg202,Tryz.zeroValue202,underlying100,Tryz.runUnderlying100,Tryz.sizeOf100,Tryz.isAgg100,Tryz.zeroValue100,underlying204,Tryz.runUnderlying204,Tryz.sizeOf204,Tryz.isAgg204,Tryz.zeroValue204,underlying165,Tryz.runUnderlying165,Tryz.sizeOf165,Tryz.isAgg165,Tryz.zeroValue165,underlying162,Tryz.runUnderlying162,Tryz.sizeOf162,Tryz.isAgg162,Tryz.zeroValue162,underlying160,Tryz.runUnderlying160,Tryz.sizeOf160,Tryz.isAgg160,Tryz.zeroValue160,underlying175,Tryz.runUnderlying175,Tryz.sizeOf175,Tryz.isAgg175,Tryz.zeroValue175,underlying163,Tryz.runUnderlying163,Tryz.sizeOf163,Tryz.isAgg163,Tryz.zeroValue163,underlying208,Tryz.runUnderlying208,Tryz.sizeOf208,Tryz.isAgg208,Tryz.zeroValue208,underlying239,Tryz.runUnderlying239,Tryz.sizeOf239,Tryz.isAgg239,Tryz.zeroValue239,underlying241,Tryz.runUnderlying241,Tryz.sizeOf241,Tryz.isAgg241,Tryz.zeroValue241,underlying0,Tryz.runUnderlying0,Tryz.sizeOf0,Tryz.isAgg0,Tryz.zeroValue0,underlying3,Tryz.runUnderlying3,Tryz.sizeOf3,Tryz.isAgg3,Tryz.zeroValue3,underlying4,Tryz.runUnderlying4,Tryz.sizeOf4,Tryz.isAgg4,Tryz.zeroValue4,underlying9,Tryz.runUnderlying9,Tryz.sizeOf9,Tryz.isAgg9,Tryz.zeroValue9,underlying20,Tryz.runUnderlying20,Tryz.sizeOf20,Tryz.isAgg20,Tryz.zeroValue20,underlying21,Tryz.runUnderlying21,Tryz.sizeOf21,Tryz.isAgg21,Tryz.zeroValue21,aQ,aQ⟩
instance:Go.ConcR.Payload:=⟨3⟩
end
section
open Go Go.Conc Go.ConcN Go.RowKit Go.Conc.Lib Go.ConcR.Gen Go.ConcN.Gen
open Go.ConcR (KK wgBlock WgAt stA smA rd wr mk Payload Aside2 DC0)
variable[fQ]{L:WgLink}
omit[Payload]in
theorem E8{P:bh}{main:Bool}{Stop:aY->aj->Prop}{K:aj->Prop}(hR:∀w,R w w)
  (hst:∀g w g' w',Stop g w->bn P main g w≠.go g' w' #[]):∀(n:Nat) (g:aY) (w:aj),Goes P main (RK K) DC0 Q n g w->K w->∀m,Goes P main R D Stop m g w->∃m' g',Goes P main R D Stop m' g' w/\Q g' w:=by
 intro n;induction n with
 |zero=>exact λg w h hK m hm=>⟨m,g,hm,h w hK⟩
 |succ n ih=>
  rintro g w (h|⟨_,h⟩) hK m hm
  .exact⟨m,g,hm,h w hK⟩
  .have h1:=h w hK;cases hs:bn P main g w with
   |go g' w' es=>
    rw[hs,cG]at h1;obtain⟨⟨rfl,rfl⟩,h2⟩:=h1;cases m with
    |zero=>exact aT hs (hst _ _ _ _ (hm w' (hR w')))
    |succ m=>
     rcases hm with hm|⟨_,hm⟩
     .exact aT hs (hst _ _ _ _ (hm w' (hR w')))
     .have h3:=hm w' (hR w');rw[hs,cG]at h3;exact ih g' w' h2 hK m h3.2
   |_=>rw[hs]at h1;exact h1.elim
omit[Payload]in
theorem MB{P:bh}{main:Bool}{K:aj->Prop}(hR:∀w w₁,R w w₁->K w->K w₁):∀(n:Nat) (g:aY) (w:aj),Goes P main (RK K) DC0 Q n g w->K w->Goes P main R DC0 (λg w=>Q g w/\K w) n g w:=by
 intro n;induction n with
 |zero=>exact λg w h hK w₁ hr=>⟨h w₁ (hR _ _ hr hK),hR _ _ hr hK⟩
 |succ n ih=>
  rintro g w (h|⟨hs,h⟩) hK
  .exact .inl λw₁ hr=>⟨h w₁ (hR _ _ hr hK),hR _ _ hr hK⟩
  .refine .inr ⟨hs,λw₁ hr=>?_⟩;have abb:=hR _ _ hr hK;have h1:=h w₁ abb;cases e:bn P main g w₁ with
   |go g' w' es=>rw[e,cG]at h1;obtain⟨⟨rfl,rfl⟩,h2⟩:=h1;rw[cG];exact⟨⟨rfl,rfl⟩,ih g' w' h2 abb⟩
   |_=>rw[e]at h1;exact h1.elim
omit[Payload]in
theorem UL{P:bh}(H:WgLib P L)(Wg:Nat)(c:aB)(cs:List aB):∃gX:aY,
  (∀w,Goes P aw (RK (dG L.tWg Wg)) DC0 (λg _=>g=gX) 24 (G ((baseD L.done).at ⟨#[aI (ae ⟨Wg,0,ah⟩),aO,aO,aO],[]⟩ [.code (body_done L)]) (c::cs)) w)/\
  ∃g1,(∀w,bn P aw gX w=.go g1 w #[mk (.releaseMerge (stA Wg))])/\∀w,Goes P aw (RK (dG L.tWg Wg)) DC0 (λg w=>∃g',bn P aw g w=.go g' w #[mk .disable]) 10 g1 w:=by
 lib_facts
 apply Exists.intro;refine⟨λw=>?_,?_⟩
 .have hK:True:=trivial;simp only[body_done,doneFn,cN];u_reg (λ(_:True) h=>h) hK
  u_op (λ(_:dG L.tWg Wg _) h=>h) hK
  u_in (λ(_:dG L.tWg Wg _) h=>h) hK
  refine goes_call rfl rfl (by k_ne) rfl H.f_add (nm_add L) rfl ⟨by u_nil,?_⟩
  walk_nrmf addFn
  u_c bU (λ(_:dG L.tWg Wg _) h=>h) hK
  u_cond au (λ(_:dG L.tWg Wg _) h=>h) hK
  u_c bU (λ(_:dG L.tWg Wg _) h=>h) hK
  u_c bU (λ(_:dG L.tWg Wg _) h=>h) hK
  u_reg (λ(_:dG L.tWg Wg _) h=>h) hK
  u_op (λ(_:dG L.tWg Wg _) h=>h) hK
  u_op (λ(_:dG L.tWg Wg _) h=>h) hK
  u_c bP (λ(_:dG L.tWg Wg _) h=>h) hK
  u_cond au (λ(_:dG L.tWg Wg _) h=>h) hK
  u_reg (λ(_:dG L.tWg Wg _) h=>h) hK
  u_op (λ(_:dG L.tWg Wg _) h=>h) hK
  u_conv H.underlying_tWgP H.room_tWg (WgLive.cell0 hK).choose_spec (λ(_:dG L.tWg Wg _) h=>h) hK
  exact gM (λw₁ h₁=>rfl)
 .apply Exists.intro;refine⟨λw=>?_,λw=>?_⟩
  .exact stepG_markAt .releaseMerge aJ rfl rfl (by k_ne) rfl H.f_relMerge (x_relMerge_n L) (x_relMerge_b L) (x_relMerge_x L) (x_relMerge_f L) (by simp[cS,stA])
  .have hK:True:=trivial;walk_nrm;u_c bP (λ(_:True) h=>h) hK
   u_c bU (λ(_:dG L.tWg Wg _) h=>h) hK
   u_reg (λ(_:dG L.tWg Wg _) h=>h) hK
   refine gM (λw₁ h₁=>?_);exact⟨_,stepG_mark0 .disable aJ rfl rfl (by k_ne) rfl H.f_disable (x_disable_n L) (x_disable_b L) (x_disable_x L) (x_disable_f L)⟩
theorem ae3{P:bh}(H:WgLib P L){C n k:Nat}{val:ay}{c:aB}{cs:List aB}(hcm:c.mode=.returning)(hT:QuitsD P qt 0 (G c cs))(w:aj)(hK:dG L.tWg Wg w/\Has C (k-1) val w):
  ∃m,j5 P L.tWg Wg C n k 7 m 0 (G ((baseD L.done).at ⟨#[aI (ae ⟨Wg,0,ah⟩),aO,aO,aO],[]⟩ [.code (body_done L)]) (c::cs)) w:=by
 obtain⟨gX,h1,g1,h2,h3⟩:=UL H Wg c cs;refine⟨24,.r0 ?_⟩;have ae4:∀g w g' w',AtR0 P L.tWg Wg C n 0 k val g w->bn P aw g w≠.go g' w' #[]:=by rintro g w g' w' ⟨_,_,g2,e,_⟩ e';rw[e]at e';simp at e'
 have key:∀w,dG L.tWg Wg w->Has C (k-1) val w->AtR0 P L.tWg Wg C n 0 k val gX w:=by
  intro w hl hh;have hD:=doneN H (Own:=Dz) (Rd:=Dz) (Wg:=Wg) (C:=C) (n:=n) (Low:=0) (k:=k) (val:=val) hcm hT w ⟨hl,hh⟩;obtain⟨m,g,hm,rfl⟩:=E8 (λw=>RW.refl w) ae4 _ _ _ (h1 w) hl _ hD;cases m with
  |zero=>exact hm w (RW.refl w)
  |succ m=>
   rcases hm with hm|⟨_,hm⟩
   .exact hm w (RW.refl w)
   .exfalso;have e:=hm w (RW.refl w);rw[h2,cG]at e;obtain⟨m',g',vx,g2,e2⟩:=E8 (λw=>RW.refl w) ae4 _ _ _ (h3 w) hl _ e.2;have hno:¬AtR0 P L.tWg Wg C n 0 k val g' w:=(by rintro⟨_,_,g3,e3,_⟩;rw[e2]at e3;simp[mk]at e3);cases m' with
    |zero=>exact hno (vx w (RW.refl w))
    |succ m'=>
     rcases vx with vx|⟨_,vx⟩
     .exact hno (vx w (RW.refl w))
     .have e4:=vx w (RW.refl w);rw[e2,cG]at e4;exact(e4.1.2 (mk .disable) aJ).2.1 rfl
 have hG:=MB (R:=RW L.tWg Wg C n 0 (k-1)) (λ_ _ r h=>r.live h) _ _ _ (h1 w) hK.1;have hst:∀w':aj,dG L.tWg Wg w'->Has C (k-1) val w'->TK P L.tWg Wg C n k gX w':=by intro w' hl hh;obtain⟨a,_,g',b,d⟩:=key w' hl hh;exact⟨a,g',b,d⟩
 have carry:∀(m:Nat) (g:aY) (w:aj),Has C (k-1) val w->Goes P aw (RW L.tWg Wg C n 0 (k-1)) DC0 (λg w=>g=gX/\dG L.tWg Wg w) m g w->Goes P aw (RW L.tWg Wg C n 0 (k-1)) DC0 (TK P L.tWg Wg C n k) m g w:=by
  intro m;induction m with
  |zero=>intro g w hh h w₁ hr;obtain⟨rfl,hl⟩:=h w₁ hr;exact hst _ hl (hr.cell.trans hh)
  |succ m ih=>
   rintro g w hh (h|⟨hs,h⟩)
   .exact .inl λw₁ hr=>by obtain⟨rfl,hl⟩:=h w₁ hr;exact hst _ hl (hr.cell.trans hh)
   .refine .inr ⟨hs,λw₁ hr=>?_⟩;have h1:=h w₁ hr;cases e:bn P aw g w₁ with
    |go g' w' es=>rw[e,cG]at h1;obtain⟨⟨rfl,rfl⟩,h2⟩:=h1;rw[cG];exact⟨⟨rfl,rfl⟩,ih g' w' (hr.cell.trans hh) h2⟩
    |_=>rw[e]at h1;exact h1.elim
 exact carry _ _ _ hK.2 hG
end
section
open Go Go.Conc Go.ConcN Go.RowKit
theorem QD{p q:Prop}(h:q)(t:Hq q->p:=by intro hq;refine kv (nH _) (.inr rfl) rfl rfl aQ (Lq _ _) (λτ K hK=>?_);go_simp;refine hK _ _ _ (bD _ _) ?_;clear hK K;walk_nrm;exact hq.o):p:=t ⟨h⟩
theorem z0l{p q:Prop}(h:q)(t:Hq q->p:=by intro hq;refine kv (nH _) (.inl rfl) rfl rfl aQ (Lq _ _) (λτ K hK=>?_);go_simp;refine hK _ _ _ (bD _ _) ?_;clear hK K;walk_nrm;exact hq.o):p:=t ⟨h⟩
theorem o2w{p q:Prop}(h:q)(t:Hq q->p:=by intro hq;refine Bf iD rfl rfl aQ (zX _ aN _) (λτ K hK=>?_);go_simp;refine hK _ _ _ (bD _ _) ?_;clear hK K;walk_nrm;exact hq.o):p:=t ⟨h⟩
theorem on{p q:Prop}(h:q)(t:Hq q->p:=by intro hq;refine mz ?_;simp only[Exit.then];exact hq.o):p:=t ⟨h⟩
theorem pS{p q:Prop}(h:q)(t:Hq q->p:=by intro hq;refine wpM_seq (kD ?_);refine rg ?_;exact hq.o):p:=t ⟨h⟩
theorem Cs{p q:Prop}(h:q)(t:Hq q->p:=by intro hq;refine bz (t:=false) dS (eY ?_);exact hq.o):p:=t ⟨h⟩
theorem ctx{p q:Prop}(h:q)(t:Hq q->p:=by intro hq;refine bz (t:=true) dS ?_;simp only[if_true];exact hq.o):p:=t ⟨h⟩
theorem ZQ{p:Prop}(h:∀τ,q τ)(t:Hq (∀τ,q τ)->p:=by intro hq;refine wpM_seq (wpM_lone iD hcs aQ (oT rfl) (zX _ aN _) (λτ=>?_));go_wp2;refine⟨_,bD _ _,?_⟩;(try simp only[Exit.then]);exact hq.o τ):p:=t ⟨h⟩
theorem l2x{p:Prop}(h:∀τ,q τ)(t:Hq (∀τ,q τ)->p:=by intro hq;refine wpM_seq (wpM_lone iD hcs aQ (oT rfl) (zX _ aN _) (λτ=>?_));go_wp2;refine⟨_,bD _ _,?_⟩;exact hq.o τ):p:=t ⟨h⟩
theorem l2y{p:Prop}(h:∀τ,q τ)(t:Hq (∀τ,q τ)->p:=by intro hq;refine wpM_seq (wpM_seq (wpM_lone iD hcs aQ (oT rfl) (zX _ aN _) (λτ=>?_)));go_wp2;refine⟨_,bD _ _,?_⟩;(try simp only[Exit.then]);exact hq.o τ):p:=t ⟨h⟩
theorem px{p q:Prop}(h:q)(t:Hq q->p:=by intro hq;refine⟨_,bD _ _,?_⟩;(try simp only[Exit.then]);exact hq.o):p:=t ⟨h⟩
def jc:ay:=.iface 213 (.agg #[])
theorem JL(w:aj):(Instr.typeAssert jc 20 213 au).run aC w=.ok (.tuple #[.agg #[],.bool au]) w:=by simp[Instr.typeAssert,jc,go_sem]
theorem E9(w:aj)(es:Array cK):(Instr.typeAssert jc 20 213 au).events aC w es=es:=by simp[Instr.typeAssert,jc,go_sem]
def cl(g:Nat)(cap:Array ay):Deferred:=⟨.fn (.func g) cap,#[]⟩
theorem JN{df c:aB}{cs:List aB}{K0:aj->Prop}{n:Nat}{y:ay}(hfn:df.fn=117)(hm:df.mode=.run)(hd:df.defers=[cl 147 #[x,y]])
  (hn:∀w,Goes aC aw (RK K0) (DG S B) Q n (G (c.raise ({v:=jc,recovered:=aw}::{v:=jc,recovered:=au}::ew)) cs) w):∀w,Goes aC aw (RK K0) (DG S B) Q (n+30) (G (df.raise ({v:=jc,recovered:=aw}::ew)) (c::cs)) w:=by
 intro w;obtain⟨d2,e2,zL,Il,hf2⟩:∃d2:aB,df.raise ({v:=jc,recovered:=aw}::ew)=d2/\d2.mode=.panicking ({v:=jc,recovered:=aw}::ew)/\d2.defers=[cl 147 #[x,y]]/\d2.fn=117:=⟨_,rfl,by simp[Frame.raise,hm],by simp[Frame.raise,hm,hd],by simp[Frame.raise,hm,hfn]⟩;rw[e2];clear e2 hd hm;refine cn rfl (λw₁ h₁=>?_);rw[l8 (g:=147) (cap:=#[x,y]) (args:=#[]) (ds:=[]) (by rw[zL];simp) Il func147 rfl rfl];simp only[cG];refine⟨cY _,?_⟩;simp only[f147];walk_nrm
 (refine cn rfl (λw₁ h₁=>?_);rw[bU];simp only[cG];refine⟨cY _,?_⟩)
 (refine cn rfl (λw₁ h₁=>?_);rw[gv];simp only[cG,j9,fO,gK,Nat.reduceAdd,eB,dx,List.range.loop];refine⟨cY _,?_⟩)
 refine cn rfl (λw₁ h₁=>?_);rw[vA rfl rfl rfl rfl (by exact zL)];simp only[cG];refine⟨cY _,?_⟩;walk_nrm
 (refine cn rfl (λw₁ h₁=>?_);refine eJ rfl rfl aN (λK hK=>?_);go_simp;refine hK _ _ ⟨jD uS,?_⟩;clear hK K)
 (refine cn rfl (λw₁ h₁=>?_);rw[bP];simp only[cG];refine⟨cY _,?_⟩)
 (refine cn rfl (λw₁ h₁=>?_);rw[bU];simp only[cG];refine⟨cY _,?_⟩)
 (refine cn rfl (λw₁ h₁=>?_);rw[bU];simp only[cG];refine⟨cY _,?_⟩)
 (refine cn rfl (λw₁ h₁=>?_);rw[gv];simp only[cG,j9,fO,gK,Nat.reduceAdd,eB,dx,List.range.loop];refine⟨cY _,?_⟩)
 (refine cn rfl (λw₁ h₁=>?_);refine eJ rfl rfl aN (λK hK=>?_);go_simp;refine hK _ _ ⟨jD uS,?_⟩;clear hK K)
 (refine cn rfl (λw₁ h₁=>?_);refine eJ rfl rfl aN (λK hK=>?_);go_simp;rw[JL];go_simp;refine hK _ _ ⟨jD (λe he=>by(have hm:=mem_listed he;simp[go_sem,E9]at hm)),?_⟩;clear hK K)
 (refine cn rfl (λw₁ h₁=>?_);refine eJ rfl rfl aN (λK hK=>?_);go_simp;refine hK _ _ ⟨jD uS,?_⟩;clear hK K)
 (refine cn rfl (λw₁ h₁=>?_);refine eJ rfl rfl aN (λK hK=>?_);go_simp;refine hK _ _ ⟨jD uS,?_⟩;clear hK K)
 (refine cn rfl (λw₁ h₁=>?_);refine eJ rfl rfl aN (λK hK=>?_);go_simp;refine hK _ _ ⟨jD uS,?_⟩;clear hK K)
 (refine cn rfl (λw₁ h₁=>?_);refine eJ rfl rfl aN (λK hK=>?_);go_simp;refine hK _ _ ⟨JC uS,?_⟩;clear hK K)
 (refine cn rfl (λw₁ h₁=>?_);refine eJ rfl rfl aN (λK hK=>?_);go_simp;refine hK _ _ ⟨jD uS,?_⟩;clear hK K)
 (refine cn rfl (λw₁ h₁=>?_);refine eJ rfl rfl aN (λK hK=>?_);go_simp;refine hK _ _ ⟨jD uS,?_⟩;clear hK K)
 (refine cn rfl (λw₁ h₁=>?_);rw[bP];simp only[cG];refine⟨cY _,?_⟩)
 (refine cn rfl (λw₁ h₁=>?_);rw[bU];simp only[cG];refine⟨cY _,?_⟩)
 (refine cn rfl (λw₁ h₁=>?_);rw[gv];simp only[cG,j9,fO,gK,Nat.reduceAdd,eB,dx,List.range.loop];refine⟨cY _,?_⟩)
 (refine cn rfl (λw₁ h₁=>?_);refine eJ rfl rfl aN (λK hK=>?_);go_simp;refine hK _ _ ⟨jD uS,?_⟩;clear hK K)
 (refine cn rfl (λw₁ h₁=>?_);rw[bP];simp only[cG];refine⟨cY _,?_⟩)
 (refine cn rfl (λw₁ h₁=>?_);rw[stepG_cond (t:=au) rfl];simp only[cG,if_true,if_false,iy,↓reduceIte];refine⟨cY _,?_⟩)
 (refine cn rfl (λw₁ h₁=>?_);rw[gv];simp only[cG,j9,fO,gK,Nat.reduceAdd,eB,dx,List.range.loop];refine⟨cY _,?_⟩)
 (refine cn rfl (λw₁ h₁=>?_);refine eJ rfl rfl aN (λK hK=>?_);go_simp;refine hK _ _ ⟨jD uS,?_⟩;clear hK K)
 refine cn rfl (λw₁ h₁=>?_);rw[stepG_oper rfl rfl];simp[gB,bT,go_sem,cS,GStep.after,seen,Instr.panic,jc];refine⟨cY _,?_⟩;refine cn rfl (λw₁ h₁=>?_);show(bn aC aw (cy _ (_::(c::cs))) w₁).goes _;rw[xI rfl rfl func147,cG];refine⟨cY _,?_⟩;refine cn rfl (λw₁ h₁=>?_);show(bn aC aw (cy _ (c::cs)) w₁).goes _;rw[xI (chain:={v:=jc,recovered:=aw}::{v:=jc,recovered:=au}::ew) (f:=f117) rfl rfl (by simp only[Frame.raise];rw[hf2];exact func117),cG];exact⟨cY _,goes_le ai (hn _)⟩
theorem Gn{cs:List aB}{K0:aj->Prop}{n:Nat}{chain:List PanicEntry}(hch:chain={v:=jc,recovered:=aw}::ew)(hold:ew.dropWhile (!·.goexit)=[])(hfn:pf.fn=74)(hm:pf.mode=.run)(hd:pf.defers=[cl 116 #[x]])
  (hn:∀w,Goes aC aw (RK K0) (DG S B) Q n (G {pf with mode:=.returning,defers:=[]} cs) w):∀w,Goes aC aw (RK K0) (DG S B) Q (n+30) (G (pf.raise chain) cs) w:=by
 intro w;subst hch;obtain⟨d2,e2,zL,Il,hf2⟩:∃d2:aB,pf.raise ({v:=jc,recovered:=aw}::ew)=d2/\d2.mode=.panicking ({v:=jc,recovered:=aw}::ew)/\d2.defers=[cl 116 #[x]]/\{d2 with mode:=.returning,defers:=[]}=({pf with mode:=.returning,defers:=[]}:aB):=⟨_,rfl,by simp[Frame.raise,hm],by simp[Frame.raise,hm,hd],by simp[Frame.raise,hm]⟩;rw[e2];rw[←hf2]at hn;clear e2 hd hm hf2;refine cn rfl (λw₁ h₁=>?_);rw[l8 (g:=116) (cap:=#[x]) (args:=#[]) (ds:=[]) (by rw[zL];simp) Il func116 rfl rfl];simp only[cG];refine⟨cY _,?_⟩;simp only[f116];walk_nrm
 (refine cn rfl (λw₁ h₁=>?_);rw[bU];simp only[cG];refine⟨cY _,?_⟩)
 (refine cn rfl (λw₁ h₁=>?_);rw[bU];simp only[cG];refine⟨cY _,?_⟩)
 (refine cn rfl (λw₁ h₁=>?_);rw[gv];simp only[cG,j9,fO,gK,Nat.reduceAdd,eB,dx,List.range.loop];refine⟨cY _,?_⟩)
 refine cn rfl (λw₁ h₁=>?_);rw[vA rfl rfl rfl rfl (by exact zL)];simp only[cG];refine⟨cY _,?_⟩;walk_nrm
 (refine cn rfl (λw₁ h₁=>?_);refine eJ rfl rfl aN (λK hK=>?_);go_simp;rw[JL];go_simp;refine hK _ _ ⟨jD (λe he=>by(have hm:=mem_listed he;simp[go_sem,E9]at hm)),?_⟩;clear hK K)
 (refine cn rfl (λw₁ h₁=>?_);refine eJ rfl rfl aN (λK hK=>?_);go_simp;refine hK _ _ ⟨jD uS,?_⟩;clear hK K)
 (refine cn rfl (λw₁ h₁=>?_);refine eJ rfl rfl aN (λK hK=>?_);go_simp;refine hK _ _ ⟨jD uS,?_⟩;clear hK K)
 (refine cn rfl (λw₁ h₁=>?_);refine eJ rfl rfl aN (λK hK=>?_);go_simp;refine hK _ _ ⟨jD uS,?_⟩;clear hK K)
 (refine cn rfl (λw₁ h₁=>?_);refine eJ rfl rfl aN (λK hK=>?_);go_simp;refine hK _ _ ⟨JC uS,?_⟩;clear hK K)
 (refine cn rfl (λw₁ h₁=>?_);refine eJ rfl rfl aN (λK hK=>?_);go_simp;refine hK _ _ ⟨jD uS,?_⟩;clear hK K)
 (refine cn rfl (λw₁ h₁=>?_);refine eJ rfl rfl aN (λK hK=>?_);go_simp;refine hK _ _ ⟨jD uS,?_⟩;clear hK K)
 (refine cn rfl (λw₁ h₁=>?_);rw[bP];simp only[cG];refine⟨cY _,?_⟩)
 (refine cn rfl (λw₁ h₁=>?_);rw[bU];simp only[cG];refine⟨cY _,?_⟩)
 (refine cn rfl (λw₁ h₁=>?_);rw[gv];simp only[cG,j9,fO,gK,Nat.reduceAdd,eB,dx,List.range.loop];refine⟨cY _,?_⟩)
 (refine cn rfl (λw₁ h₁=>?_);refine eJ rfl rfl aN (λK hK=>?_);go_simp;refine hK _ _ ⟨jD uS,?_⟩;clear hK K)
 (refine cn rfl (λw₁ h₁=>?_);rw[bP];simp only[cG];refine⟨cY _,?_⟩)
 (refine cn rfl (λw₁ h₁=>?_);rw[stepG_cond (t:=au) rfl];simp only[cG,if_true,if_false,iy,↓reduceIte];refine⟨cY _,?_⟩)
 (refine cn rfl (λw₁ h₁=>?_);rw[stepG_ret'];simp only[cG];refine⟨cY _,?_⟩)
 refine cn rfl (λw₁ h₁=>?_);rw[sF rfl rfl func116 (results_none rfl _ _ _) (events_results_none rfl _ _) rfl hold,cG];exact⟨cY _,goes_le ai (hn _)⟩
end
section
open Go Go.Conc Go.ConcN Go.RowKit
attribute [local go_sem] ba bf bH a8 bC bK aS aV
theorem Ct(W turn gone:Nat):∃cz:aB,
  (∀{b:aB} {a:Act} {ops:Array aZ} {i:Nat} {rest:List Nat} {k:List Item} {cs:List aB} {o:aZ} {xs:Array Operand} {ats:Array bq} {K0:aj->Prop} {S:Loc->Prop} {B:Nat},
   ops[i]? =ae o->dF o (dW ops a.tmps)=au->b.kind≠.early->o.op=.call {callee:=.value (.func 83),args:=xs,argTypes:=ats}->xs.map a.eval=#[aI (ae ⟨W,0,ah⟩)]->
   (∀w,K0 w->w.cell? ⟨W,2,ah⟩=ae (.chan (ae turn))/\w.cell? ⟨W,4,ah⟩=ae (.chan (ae gone)))->S (.cell ⟨W,2,ah⟩)->S (.cell ⟨W,4,ah⟩)->W<B->∀w,
   Goes aC aw (RK K0) (DS S B) (λg _=>∃g₂,AtIn aC aw K0 S B {cases:=#[dh turn (aq af 0),dh gone (.agg #[])],shape:=.select,home:=λx=>x=G cz (b.at a (bI ops (i::rest)::k)::cs)} g g₂) 20 (G (b.at a (bI ops (i::rest)::k)) cs) w)/\
  (∀{main:Bool} {cs:List aB} {ι:Type} {J:fM ι} {Stop:ι->aB->List aB->aj->Prop} {i:ι} {c:aB} {fs:List aB} {w:aj} {t:Nat} {v5 v6:ay},cs≠[]->w.cell? ⟨W,5,ah⟩=ae v5->w.frozen? ⟨W,5,ah⟩=aw->w.cell? ⟨W,6,ah⟩=ae v6->w.frozen? ⟨W,6,ah⟩=aw->
   ZigC aC main cs J Stop i (c.finish (.tuple #[])) fs ((w.setCell ⟨W,6,ah⟩ (aq af t)).setCell ⟨W,5,ah⟩ (.bool au))->
   ZigC aC main cs J Stop i (cz.finish (.tuple #[aq af 0,.bool au,aq af t,.agg #[]])) (c::fs) w)/\
  ∃th:aB,th.mode=.panicking [{v:=jc,recovered:=aw}]/\th.defers=[]/\th.fn=83/\
   ∀{cs:List aB} {K0:aj->Prop} {S:Loc->Prop} {B n:Nat} {Q:aY->aj->Prop} {w:aj},(∀w,Goes aC aw (RK K0) (DG S B) Q n (G th cs) w)->
    Goes aC aw (RK K0) (DG S B) Q (n+11) (G (cz.finish (.tuple #[aq af 1,.bool aw,aq af 0,.agg #[]])) cs) w:=by
 apply Exists.intro;refine⟨?_,?_,?_⟩
 .intro b a ops i rest k cs o xs ats K0 S B ho hw hk hop hxs hF YI hS4 hB w
  k_in
  refine goes_call ho hw hk hop func83 rfl rfl ⟨ds_none _,?_⟩;rw[hxs];simp only[f83];k_c bU
  k_c bU
  k_reg
  walk_nrm
  (k_in;refine eJ rfl rfl aN (λK hK=>?_);go_simp;refine hK _ _ ⟨⟨rfl,uS⟩,?_⟩;clear hK K)
  (k_in;refine eJ rfl rfl aN (λK hK=>?_);go_simp;refine hK _ _ ⟨⟨rfl,uS⟩,?_⟩;clear hK K)
  (k_in;refine eJ rfl rfl aN (λK hK=>?_);go_simp;refine hK _ _ ⟨⟨rfl,uS⟩,?_⟩;clear hK K)
  (k_in;refine eJ rfl rfl aN (λK hK=>?_);have hc:=(hF _ h₁).1;go_simp;refine hK _ _ ⟨⟨rfl,λe he=>by(have hm:=mem_listed he;simp[go_sem, *]at hm;subst hm;exact evC_read _ YI hB)⟩,?_⟩;clear hK K hc)
  k_c bP
  k_reg
  (k_in;refine eJ rfl rfl aN (λK hK=>?_);go_simp;refine hK _ _ ⟨⟨rfl,uS⟩,?_⟩;clear hK K)
  (k_in;refine eJ rfl rfl aN (λK hK=>?_);go_simp;refine hK _ _ ⟨⟨rfl,uS⟩,?_⟩;clear hK K)
  (k_in;refine eJ rfl rfl aN (λK hK=>?_);go_simp;refine hK _ _ ⟨⟨rfl,uS⟩,?_⟩;clear hK K)
  (k_in;refine eJ rfl rfl aN (λK hK=>?_);have hc:=(hF _ h₁).2;go_simp;refine hK _ _ ⟨⟨rfl,λe he=>by(have hm:=mem_listed he;simp[go_sem, *]at hm;subst hm;exact evC_read _ hS4 hB)⟩,?_⟩;clear hK K hc)
  k_c bP
  k_c bU
  k_reg
  exact gM (λw₁ h₁=>⟨_,atIn_of rfl rfl aN (λw=>by simp[go_sem,bT,dh,cS]) (λw=>by simp[go_sem,bT,cS]) rfl⟩)
 .intro main cs ι J Stop i c fs w t v5 v6 hcs h5 z5 h6 z6 hz;rw[iB];walk_nrm
  (refine kv (nH _) (.inl rfl) rfl rfl aQ (Lq _ _) (λτ K hK=>?_);go_simp;refine hK _ _ _ (bD _ _) ?_;clear hK K)
  (refine kv (nH _) (.inl rfl) rfl rfl aQ (Lq _ _) (λτ K hK=>?_);go_simp;refine hK _ _ _ (bD _ _) ?_;clear hK K)
  (refine kv (nH _) (.inl rfl) rfl rfl aQ (Lq _ _) (λτ K hK=>?_);go_simp;refine hK _ _ _ (bD _ _) ?_;clear hK K)
  refine .pure (λ_=>bP) ?_;refine rk (nH _) hcs rfl aQ (JB _ _) (Lq _ _) (λτ=>?_);go_wp2;refine⟨_,bD _ _,?_⟩;refine .pure (λ_=>stepG_end) ?_;exact Co rfl rfl rfl func83 (results_none rfl _ _ _) hz
 .apply Exists.intro;refine⟨?_,?_,?_,?_⟩;rotate_left 3
  .intro cs K0 S B n Q w hn;have hz0:Tryz.t213.zero=ae (.agg #[]):=aQ;have hb:∀w:aj,(Instr.build 213 #[]).run aC w=.ok (.agg #[]) w:=(by intro w;simp[Instr.build,zeroValue,go_sem,hz0]);rw[iB];walk_nrm
   (refine cn rfl (λw₁ h₁=>?_);refine eJ rfl rfl aN (λK hK=>?_);go_simp;refine hK _ _ ⟨jD uS,?_⟩;clear hK K)
   (refine cn rfl (λw₁ h₁=>?_);refine eJ rfl rfl aN (λK hK=>?_);go_simp;refine hK _ _ ⟨jD uS,?_⟩;clear hK K)
   (refine cn rfl (λw₁ h₁=>?_);refine eJ rfl rfl aN (λK hK=>?_);go_simp;refine hK _ _ ⟨jD uS,?_⟩;clear hK K)
   (refine cn rfl (λw₁ h₁=>?_);rw[bP];simp only[cG];refine⟨cY _,?_⟩)
   (refine cn rfl (λw₁ h₁=>?_);rw[stepG_block];simp only[cG];refine⟨cY _,?_⟩)
   (refine cn rfl (λw₁ h₁=>?_);rw[stepG_cond (t:=aw) rfl];simp only[cG,if_true,if_false,iy,↓reduceIte];refine⟨cY _,?_⟩)
   (refine cn rfl (λw₁ h₁=>?_);rw[stepG_cond (t:=au) rfl];simp only[cG,if_true,if_false,iy,↓reduceIte];refine⟨cY _,?_⟩)
   (refine cn rfl (λw₁ h₁=>?_);rw[gv];simp only[cG,j9,fO,gK,Nat.reduceAdd,eB,dx,List.range.loop];refine⟨cY _,?_⟩)
   (refine cn rfl (λw₁ h₁=>?_);refine eJ rfl rfl aN (λK hK=>?_);go_simp;refine hK _ _ ⟨jD (λe he=>by(have hm:=mem_listed he;simp[go_sem,Instr.build,zeroValue,hz0]at hm)),?_⟩;clear hK K)
   (refine cn rfl (λw₁ h₁=>?_);refine eJ rfl rfl aN (λK hK=>?_);go_simp;refine hK _ _ ⟨jD (λe he=>by(have hm:=mem_listed he;simp[go_sem,Instr.makeInterface]at hm)),?_⟩;clear hK K)
   refine .inr ⟨rfl,λw₁ _=>?_⟩;rw[stepG_oper rfl rfl];simp[gB,bT,go_sem,cS,GStep.after,seen,Instr.panic];exact⟨cY _,hn _⟩
  all_goals rfl
theorem xM(W come gone:Nat)(num:Int):∃jg:aB,
  (∀{main:Bool} {cs:List aB} {ι:Type} {J:fM ι} {Stop:ι->aB->List aB->aj->Prop} {i:ι} {c:aB} {fs:List aB} {w:aj},cs≠[]->w.cell? ⟨W,3,ah⟩=ae (.chan (ae come))->w.cell? ⟨W,0,ah⟩=ae (aq af num)->w.cell? ⟨W,4,ah⟩=ae (.chan (ae gone))->
   ZigC aC main cs J Stop i jg (c::fs) w->ZigC aC main cs J Stop i (gL aC 82 #[aI (ae ⟨W,0,ah⟩)] .normal) (c::fs) w)/\
  (∀{cs:List aB} (w:aj),bn aC aw (G jg cs) w=.comm (G jg cs) #[scase come (aq af num) (aq af 0),dh gone (.agg #[])] au .select w #[])/\
  (∀{c:aB} {cs:List aB} {K0:aj->Prop} {S:Loc->Prop} {B n:Nat} {Q:aY->aj->Prop} {w:aj},(∀w,Goes aC aw (RK K0) (DS S B) Q n (G (c.finish (.tuple #[])) cs) w)->
   Goes aC aw (RK K0) (DS S B) Q (n+10) (G (jg.finish (.tuple #[aq af 0,.bool aw,.agg #[]])) (c::cs)) w):=by
 apply Exists.intro;refine⟨?_,?_,?_⟩
 .intro main cs ι J Stop i c fs w hcs h3 h0 h4 hz;have wB:gL aC 82 #[aI (ae ⟨W,0,ah⟩)] .normal=(Conc.base 82).at {tmps:=#[aI (ae ⟨W,0,ah⟩)] ++Array.replicate 19 aO,defers:=[]} [.code (f82.body.getD .skip)]:=by simp[gL,Frame.at,func82,f82,Conc.base]
  rw[wB];simp only[f82,cN];walk_nrm;refine .pure (λ_=>bU) ?_;refine rk (nH _) hcs rfl aQ (JB _ _) (Lq _ _) (λτ=>?_);go_wp2;refine⟨_,bD _ _,?_⟩;refine .pure (λ_=>bU) (.pure (λ_=>gv) ?_);refine rg ?_;exact hz
 .intro cs w;refine(stepG_comm rfl rfl aN (w':=w) (cases:=#[scase come (aq af num) (aq af 0),dh gone (.agg #[])]) (blocking:=au) (shape:=.select) (by simp[go_sem,bT,dh,scase,cS])).trans ?_;rw[listed_none (by simp[go_sem,bT,cS])]
 .intro c cs K0 S B n Q w hn;rw[iB];walk_nrm
  (k_in;refine eJ rfl rfl aN (λK hK=>?_);go_simp;refine hK _ _ ⟨⟨rfl,uS⟩,?_⟩;clear hK K)
  (k_in;refine eJ rfl rfl aN (λK hK=>?_);go_simp;refine hK _ _ ⟨⟨rfl,uS⟩,?_⟩;clear hK K)
  (k_in;refine eJ rfl rfl aN (λK hK=>?_);go_simp;refine hK _ _ ⟨⟨rfl,uS⟩,?_⟩;clear hK K)
  k_c bP
  k_c stepG_block
  (k_in;rw[stepG_cond (t:=au) rfl];simp only[cG,if_true];refine⟨ds_none _,?_⟩)
  k_c stepG_skip
  k_c stepG_inBlock
  k_c stepG_end
  (k_in;rw[stepG_leave rfl rfl func82 (results_none rfl _ _ _) (events_results_none rfl _ _)];simp only[cG];refine⟨ds_none _,?_⟩)
  exact hn _
end
section
open Go Go.Conc Go.ConcN Go.RowKit
attribute [local go_sem] ba bf bH a8 bC bK aS aV
variable[Inhabited dc]
def rp:PanicEntry:={v:=jc,recovered:=aw}
def pT(d:bp)(k:Nat):List aB->Prop
 |[]=>False
 |c::fs=>∃n,∀ew:List PanicEntry,ew.dropWhile (!·.goexit)=[]->∀w,Goes d.P aw (RK d.K0) (DG (d.Sp (k+1)) d.B) (λg w=>g.status=.running/\∃m,d.cc.Wk k 7 m 0 g w) n (G (c.raise (rp::ew)) (fs++d.cw k)) w
theorem pT.push{k:Nat}{x:aB}(hm:x.mode=.run)(hd:x.defers=[])(hf:∃f,d.P.funcs[x.fn]? =ae f)(h:pT d k fs):pT d k (x::fs):=by
 cases fs with
 |nil=>exact h.elim
 |cons c fs=>
  obtain⟨n,h⟩:=h;obtain⟨f,hf⟩:=hf;refine⟨n+1,λew ho w=>.inr ⟨rfl,λw₁ _=>?_⟩⟩;show(bn d.P aw (cy (x.raise (rp::ew)) (c::(fs++d.cw k))) w₁).goes _;have e:x.raise (rp::ew)={x with mode:=.panicking (rp::ew)}:=by simp[Frame.raise,hm]
  have e2:=xI (P:=d.P) (main:=aw) (fr:={x with mode:=.panicking (rp::ew)}) (x:=c) (rest:=fs++d.cw k) (chain:=rp::ew) (f:=f) rfl hd hf w₁;rw[e];rw[show bn d.P aw (cy {x with mode:=.panicking (rp::ew)} (c::(fs++d.cw k))) w₁=_ from e2,cG];exact⟨cY _,h ew ho _⟩
def gO(W k turn come gone nb:Nat):List (aP×ay):=[(⟨W,0,ah⟩,aq af k),(⟨W,1,ah⟩,.bool au),(⟨W,2,ah⟩,.chan (ae turn)),(⟨W,3,ah⟩,.chan (ae come)),(⟨W,4,ah⟩,.chan (ae gone)),(⟨nb,0,ah⟩,aI (ae ⟨W,0,ah⟩))]
structure Hand{σ:Type}(J:gS σ)(d:bp)(k nb:Nat):Prop where
 P:d.P=aC
 ok:d.Ok
 base:d.base=J.n
 j:k<d.j
 n:k<J.n
 facts:d.facts k=gO (d.W k) k (d.turn k) d.come d.gone nb
 fw:∀b,d.fw k b=if b=d.W k then ae (0,5)else if b=nb then ae (0,1)else ah
 ne:nb≠d.W k
 ro:∀b,d.ro b≠ah->b<d.W k
 B:d.W k<d.B/\nb<d.B
 cw:d.cw k≠[]
section
variable{J:gS σ}{k:Nat}{w:aj}{g:Bool}
theorem Hand.ae5(H:Hand J d k nb){w:aj}(h:d.K0 w):w.cell? ⟨d.W k,2,ah⟩=ae (.chan (ae (d.turn k)))/\w.cell? ⟨d.W k,4,ah⟩=ae (.chan (ae d.gone))/\w.cell? ⟨nb,0,ah⟩=ae (aI (ae ⟨d.W k,0,ah⟩)):=by have h1:=h.2.1 k H.j;rw[H.facts]at h1;exact⟨h1 (⟨d.W k,2,ah⟩,.chan (ae (d.turn k))) (by simp[gO]),h1 (⟨d.W k,4,ah⟩,.chan (ae d.gone)) (by simp[gO]),h1 (⟨nb,0,ah⟩,aI (ae ⟨d.W k,0,ah⟩)) (by simp[gO])⟩
theorem Hand.sp(H:Hand J d k nb):d.Sp (k+1) (.cell ⟨d.W k,2,ah⟩)/\d.Sp (k+1) (.cell ⟨d.W k,4,ah⟩)/\d.Sp (k+1) (.cell ⟨nb,0,ah⟩):=by refine⟨⟨k,rfl,H.j,(⟨d.W k,2,ah⟩,.chan (ae (d.turn k))),?_,rfl⟩,⟨k,rfl,H.j,(⟨d.W k,4,ah⟩,.chan (ae d.gone)),?_,rfl⟩,⟨k,rfl,H.j,(⟨nb,0,ah⟩,aI (ae ⟨d.W k,0,ah⟩)),?_,rfl⟩⟩ <;>rw[H.facts] <;>simp[gO]
theorem ds_dg{P:bh}{main:Bool}:∀{n:Nat} {g:aY} {w:aj},Goes P main R (DS S B) Q n g w->Goes P main R (DG S B) Q n g w:=λ{n g w} h=>goes_mono (λ_ _ h=>h) (λ_ _ _ h=>by obtain⟨rfl,h⟩:=h;exact jD h) (λ_ _ _ _ h=>h) h
theorem Fa(H:Hand J d k nb)(hL:J.L.Ok d.ro){st:Nat}(hgo:J.L.G t.a w)(A:mS J d tW k t st be ow sl ((J.ar t).w k) (J.ar t).s w)(qj:k<t/\((J.ar t).w k).got.length<J.len k){num:ay}{n:Nat}
  (hstep:∀(cs:List aB) (w:aj),bn aC aw (G jg cs) w=.comm (G jg cs) #[scase d.come num z0,dh d.gone (.agg #[])] au .select w #[])
  (hgoes:∀w,Goes aC aw (RK d.K0) (DS (d.Sp (k+1)) d.B) (λg _=>∃g₂,AtIn aC aw d.K0 (d.Sp (k+1)) d.B (d.seat k (aq af 0) (.agg #[]) (cy cz (dC++d.cw k))) g g₂) n (G (jg.finish (.tuple #[aq af 0,.bool aw,.agg #[]])) (ny++d.cw k)) w)
  (hflee:∃n',∀w,Goes aC aw (RK d.K0) (DG (d.Sp (k+1)) d.B) (λg w=>g.status=.running/\∃m,d.cc.Wk k 7 m 0 g w) n' (G (cz.finish (.tuple #[aq af 1,.bool aw,aq af 0,.agg #[]])) (dC++d.cw k)) w)
  (hres:∀(t':tO) a',J.n<t'->t.t<t'.t->t'.a=a'->(J.ar (t'-1)).goes J.c=au->(J.ar (t'-1)).pick J.c=k->(J.ar (t'-1)).w k=(J.ar t).w k->mS J d tW k t st be ow sl ((J.ar t).w k) (J.ar (t'-1)).s a'->gD J d k w a'->
   ZigC aC aw (d.cw k) (JW d (J.cP d.W) k) (λ_ _ _ _=>False) t' (cz.finish (.tuple #[aq af 0,.bool au,aq af ((t'-J.n:Nat):Int),.agg #[]])) dC a'):
  ZigC aC aw (d.cw k) (JW d (J.cP d.W) k) (λ_ _ _ _=>False) t jg ny w:=by
 have hW:d.fw k (d.W k)=ae (0,5):=by rw[H.fw,aX rfl]
 have hP:=H.P;refine .jump (K:=λ(t':tO) cB dg a'=>t.t<t'.t/\(J.cP d.W).next k t t'/\cB=cz.finish (d.told k (aq af 0) (.agg #[]) t')/\dg=dC/\tP (J.cP d.W) w (t'.t-1) a'/\t'.a=a') ⟨A.acF hgo (λ_ _ _=>trivial) hW (λh=>ai),.inl ⟨qj,aq af 0,.agg #[],cz,dC,⟨?_,?_⟩,rfl⟩⟩ ?_
 .exact ZO H.ok (i:=k) (jg:=jg) (cz:=cz) (fs:=ny) (dC:=dC) (num:=num) (z0:=z0) (z1:=aq af 0) (z2:=.agg #[]) (n:=n) (λcs w=>by rw[hP];exact hstep cs w) (λw=>by rw[hP];exact hgoes w)
 .obtain⟨n',hf⟩:=hflee;refine⟨n',λw _=>?_⟩;have:=hf w;rw[←hP]at this;have e:mq (cy cz (dC++d.cw k)) (commResult #[dh (d.turn k) (aq af 0),dh d.gone (.agg #[])] .select 1 (.agg #[]) aw)=G (cz.finish (.tuple #[aq af 1,.bool aw,aq af 0,.agg #[]])) (dC++d.cw k):=by simp[mq,commResult,dh,goInt,cy,G]
  rw[e];exact this
 .rintro t' cB dg a' ⟨h1,⟨hs,Jv,hno⟩,rfl,rfl,R,hta⟩;have hn:J.n<t':=by apply eV;intro hc;unfold gS.cP at hs;simp only[aX (show t'<=J.n by omega)]at hs;omega
  have xN:(J.ar (t'-1)).pick J.c=k:=by unfold gS.cP at hs;simp only[aU (show¬t'<=J.n by omega)]at hs;exact hs
  have pD:(J.ar (t'-1)).w k=(J.ar t).w k:=J.idle d.W (i:=k) (t:=t) (t':=t'-1) ai λs a b=>hno s a ai;obtain⟨A',K'⟩:=A.later hL hW (show J.L.Rep (J.ar (t'-1)).s a' from R.inv) R.g R.size R.same;have:=hres t' a' hn h1 hta Jv xN pD A' K';have e:d.told k (aq af 0) (.agg #[]) t'=.tuple #[aq af 0,.bool au,aq af ((t'-J.n:Nat):Int),.agg #[]]:=by simp[bp.told,commResult,dh,goInt,H.base]
  rw[e];exact this
end
section
variable{J:gS σ}{k:Nat}{w:aj}{g:Bool}
theorem Cu(hP:d.P=aC){sW th:aB}(hm:th.mode=.panicking [rp])(hd:th.defers=[])(hf:th.fn=83)
  (h:∀n,(∀w,Goes aC aw (RK d.K0) (DG (d.Sp (k+1)) d.B) (λg w=>g.status=.running/\∃m,d.cc.Wk k 7 m 0 g w) n (G th (sW::fs++d.cw k)) w)->∀w,Goes aC aw (RK d.K0) (DG (d.Sp (k+1)) d.B) (λg w=>g.status=.running/\∃m,d.cc.Wk k 7 m 0 g w) (n+11) G2 w)(hF:pT d k (sW::fs)):
  ∃n',∀w,Goes aC aw (RK d.K0) (DG (d.Sp (k+1)) d.B) (λg w=>g.status=.running/\∃m,d.cc.Wk k 7 m 0 g w) n' G2 w:=by
 obtain⟨n,DM⟩:=hF;rw[hP]at DM;refine⟨n+1+11,h (n+1) (λw=>.inr ⟨rfl,λw₁ _=>?_⟩)⟩;have e3:=xI (P:=aC) (main:=aw) (fr:=th) (x:=sW) (rest:=fs++d.cw k) (chain:=[rp]) hm hd (by rw[hf];exact func83) w₁;rw[show bn aC aw (G th (sW::fs++d.cw k)) w₁=_ from e3,cG];exact⟨cY _,DM [] rfl _⟩
theorem UM(H:Hand J d k nb)(hL:J.L.Ok d.ro)(hm:J.c.most<=20000)(hR:Run J d tW k t g be (.line p) w):
  CallsM aC aw (d.cw k) (JW d (J.cP d.W) k) (λ_ _ _ _=>False) (pT d k) t 42 #[aI (ae ⟨d.W k,0,ah⟩)] w (λt' v w'=>v=.tuple #[]/\Run J d tW k t' aw be p w'/\gD J d k w w'):=by
 obtain⟨s,ow,sl,hM,hb,eI,hW,lq,hown⟩:=hR.ex;have hfw:=hR.fw;have Ls:d.fw k (d.W k)=ae (0,5):=by rw[H.fw,aX rfl]
 have hF:=(hfw _ _ Ls).2.1;have hcs:=H.cw;have c0:=cO hW 0;have c1:=cO hW 1;have c5:=cO hW 5;have c8:=cO hW 8;have z5:=aM hW 5 (bJ _);have z8:=aM hW 8 ai;have hwr:IntKind.i64.wrap ((ow:Int) +1)=(ow:Int) +1:=by rw[gq];have:=hM.few;omega
 generalize ZR:d.W k=W at*;refine bL func42 rfl ?_;simp only[f42,cN];walk_nrm;refine wpM_seq (wpM_seq (wpM_lone (nH _) hcs aQ (JB _ _) (Lq _ _) (λτ=>?_)));go_wp2;refine px ?_;refine bz (t:=aw) rfl (eY ?_);try simp only[bE]
 refine wpM_seq (wpM_seq (wpM_lone (nH _) hcs aQ (JB _ _) (Lq _ _) (λτ=>?_)));go_wp2;refine px ?_;cases g with
 |true=>
  refine bz (t:=aw) rfl (eY ?_);try simp only[bE]
  refine wpM_lone (nH _) hcs aQ (JB _ _) (Lq _ _) (λτ=>?_);go_wp2;refine⟨_,bD _ _,rfl,.tuple #[],results_none rfl _ _ _,rfl,?_⟩;subst ZR;refine run_set (ow:=ow+1) hL hR.go hM.line (by simpa using hb) eI hF ⟨lq,hown,hfw⟩ UD ?_ Ls jM (λb _ hb=>by rw[az hb,az hb]);have:=aH (o:=8) (aH (o:=5) hW (.bool aw)) (aq af ((ow:Int) +1));simpa[dK]using this
 |false=>
  obtain⟨jg,a1,a2,a3⟩:=xM W d.come d.gone k;obtain⟨cz,w1,w2,th,w3m,w3d,w3f,w3⟩:=Ct W (d.turn k) d.gone;refine bz (t:=au) rfl ?_;simp only[if_true];intro b k' fs h1 h2 h3 hc;refine .pure (λ_=>bU) (.pure (λ_=>gv) ?_);refine rg ?_;refine kv (nH _) (.inl h2) rfl rfl aQ (Lq _ _) (λτ K hK=>?_);go_simp;refine hK _ _ _ (bD _ _) ?_;clear hK K;walk_nrm;refine ou (args:=#[aI (ae ⟨W,0,ah⟩)]) (by rw[h2];simp) rfl rfl rfl func82 rfl rfl dS ?_;have c3:=cO hW 3;have c4:=cO hW 4;refine a1 hcs c3 c0 c4 ?_;clear a1;subst ZR;obtain⟨e1,e2⟩:=hM.at;have qj:=hM.live;have hturn:=hM.turn;have UI:=H.n;obtain⟨sp2,sp4,_⟩:=H.sp;have hkw:=λw h=>H.ae5 (w:=w) h;suffices hk:∃sW:aB,(∀w,Goes aC aw (RK d.K0) (DS (d.Sp (k+1)) d.B) (λg _=>∃g₂,AtIn aC aw d.K0 (d.Sp (k+1)) d.B (d.seat k (aq af 0) (.agg #[]) (cy cz (sW::fs++d.cw k))) g g₂) 40 (G (jg.finish (.tuple #[aq af 0,.bool aw,.agg #[]])) (_::fs++d.cw k)) w)/\
    (∃n',∀w,Goes aC aw (RK d.K0) (DG (d.Sp (k+1)) d.B) (λg w=>g.status=.running/\∃m,d.cc.Wk k 7 m 0 g w) n' (G (cz.finish (.tuple #[aq af 1,.bool aw,aq af 0,.agg #[]])) (sW::fs++d.cw k)) w)/\
    (∀(t':tO) a',J.n<t'->t.t<t'.t->t'.a=a'->(J.ar (t'-1)).goes J.c=au->(J.ar (t'-1)).pick J.c=k->(J.ar (t'-1)).w k=(J.ar t).w k->mS J d tW k t (t-J.n) be ow sl ((J.ar t).w k) (J.ar (t'-1)).s a'->gD J d k w a'->
     ZigC aC aw (d.cw k) (JW d (J.cP d.W) k) (λ_ _ _ _=>False) t' (cz.finish (.tuple #[aq af 0,.bool au,aq af ((t'-J.n:Nat):Int),.agg #[]])) (sW::fs) a')by
   obtain⟨sW,q1,q2,q3⟩:=hk;exact Fa H hL (cz:=cz) (dC:=sW::fs) (st:=t-J.n) (be:=be) (ow:=ow) (sl:=sl) hR.go ⟨by rw[e1];exact eI,hW,by rw[e2];exact lq,by rw[e2];exact hown,hfw,by rw[e2];exact⟨λb o p h=>by simp at h;exact⟨h.1,h.2.1⟩,λh=>by simp at h⟩⟩ ⟨ai,by rw[e2];exact qj⟩ (n:=40) (λcs w=>a2 w) q1 q2 q3
  apply Exists.intro;refine⟨?_,?_,?_⟩
  .intro w;refine a3 (n:=30) (λw=>?_);rw[iB];walk_nrm;k_c bP
   k_reg
   (k_in;refine eJ rfl rfl (by rw[h2];decide) (λK hK=>?_);go_simp;refine hK _ _ ⟨⟨rfl,uS⟩,?_⟩;clear hK K)
   refine goes_le (n:=20) ai ?_;simp only[bp.seat,jZ];exact w1 rfl rfl (by rw[h2];decide) rfl dS (λw h=>⟨(hkw w h).1,(hkw w h).2.1⟩) sp2 sp4 H.B.1 _
  .exact Cu H.P w3m w3d w3f (λn h w=>w3 h) (pT.push rfl rfl ⟨f42,by rw[H.P];show prog.funcs[b.fn]? =_;rw[h1];exact func42⟩ h3)
  .intro t' a' hn ht hta hgo xN pD A' K';have sN:=A'.wrk;have d5:a'.cell? ⟨d.W k,5,ah⟩=ae (.bool aw):=(by rw[ax sN];rfl);have d6:a'.cell? ⟨d.W k,6,ah⟩=ae (aq af ((t-J.n:Nat):Int)):=(by rw[ax sN];rfl);refine w2 hcs d5 (aM sN 5 (bJ _)) d6 (aM sN 6 ai) ?_;rw[iB];walk_nrm;refine .pure (λ_=>bP) (hc t' .normal _ _ ?_);show wpM _ _ _ _ _ _ _ _ _ _ _ _;have hW1:=aH (o:=5) (aH (o:=6) sN (aq af ((t'-J.n:Nat):Int))) (.bool au);have d5':((a'.setCell ⟨d.W k,6,ah⟩ (aq af ((t'-J.n:Nat):Int))).setCell ⟨d.W k,5,ah⟩ (.bool au)).cell? ⟨d.W k,5,ah⟩=ae (.bool au):=(by rw[ax hW1];rfl);have d8':((a'.setCell ⟨d.W k,6,ah⟩ (aq af ((t'-J.n:Nat):Int))).setCell ⟨d.W k,5,ah⟩ (.bool au)).cell? ⟨d.W k,8,ah⟩=ae (aq af ow):=(by rw[ax hW1];rfl);have y5:=aM hW1 5 (bJ _);have y8:=aM hW1 8 ai;have DW:((a'.setCell ⟨d.W k,6,ah⟩ (aq af ((t'-J.n:Nat):Int))).setCell ⟨d.W k,5,ah⟩ (.bool au)).heap.size=a'.heap.size:=jM;have dA:∀b,b≠d.W k->((a'.setCell ⟨d.W k,6,ah⟩ (aq af ((t'-J.n:Nat):Int))).setCell ⟨d.W k,5,ah⟩ (.bool au)).heap[b]? =a'.heap[b]? :=λb hb=>(by rw[az hb,az hb]);clear d5 d6 c0 c1 c3 c4 c5 c8 z5 z8 sN;generalize (a'.setCell ⟨d.W k,6,ah⟩ (aq af ((t'-J.n:Nat):Int))).setCell ⟨d.W k,5,ah⟩ (.bool au)=a1 at*;refine wpM_lone (nH _) hcs aQ (JB _ _) (Lq _ _) (λτ=>?_);go_wp2;refine⟨_,bD _ _,rfl,.tuple #[],results_none rfl _ _ _,rfl,?_⟩;have Mk:E0 J k t' aw be (ow+1) p (J.ar (t'-1)).s:=⟨hn,hgo,xN,by rw[pD,e2];exact qj,by rw[pD,e2];rfl⟩;obtain⟨r1,r2⟩:=run_set (w':=(a1.setCell ⟨d.W k,5,ah⟩ (.bool aw)).setCell ⟨d.W k,8,ah⟩ (aq af ((ow:Int) +1))) hL (by rw[hta];exact J.L.grefl _) Mk (by simp at hb⊢;omega) A'.rep (A'.fw _ _ Ls).2.1 ⟨by rw[pD];exact A'.ans,by rw[pD];exact A'.own,A'.fw⟩ (by rw[ax A'.wrk];rfl) (by have:=aH (o:=8) (aH (o:=5) hW1 (.bool aw)) (aq af ((ow:Int) +1));simpa[dK]using this) Ls (by simp[fF,DW]) (λb _ hb=>by rw[az hb,az hb,dA b hb]);exact⟨r1,K'.trans r2⟩
end
section
variable{J:gS σ}{k:Nat}{w:aj}{g:Bool}
theorem ZT{w:aj}{o1 o2 o3:Obj}(h:((w.alloc o1).alloc o2).alloc o3=w1):w1.heap.size=w.heap.size+3/\(∀b,b<w.heap.size->w1.heap[b]? =w.heap[b]?)/\w1.heap[w.heap.size]? =ae o1/\w1.heap[w.heap.size+1]? =ae o2/\w1.heap[w.heap.size+1+1]? =ae o3:=by
 subst h;refine⟨aJ,λb hb=>?_,?_,?_,?_⟩ <;>simp only[←dt,dz,fN]
 .rw[aU ai,aU ai,aU ai]
 .exact ZU
 .rw[aU ai,aX trivial]
 .rw[aX trivial]
theorem UN(w:aj):(Instr.typeAssert .nilIface 20 213 au).run aC w=.ok (.tuple #[.agg #[],.bool aw]) w:=by have hz0:Tryz.t213.zero=ae (.agg #[]):=aQ;simp[Instr.typeAssert,go_sem,zeroValue,hz0]
theorem eq_nil(w:aj):(Op.equalIn Op.maxDepth 20 .nilIface .nilIface).runT aC w #[]=(.ok au w,#[]):=aQ
theorem ZV(w:aj):(Op.equalIn Op.maxDepth 20 .nilIface .nilIface).run aC w=.ok au w:=by have:=eq_nil w;simp[Sem.runT_eq]at this;exact this.1
theorem ZW(w:aj):(Op.equalIn Op.maxDepth 20 .nilIface .nilIface).events aC w #[]=#[]:=by have:=eq_nil w;simp[Sem.runT_eq]at this;exact this.2
theorem pT.does(H:Hand J d k nb){x:aB}{y:ay}(hf:x.fn=117)(hm:x.mode=.run)(hd:x.defers=[cl 147 #[y,z]])(h:pT d k fs):pT d k (x::fs):=by
 cases fs with
 |nil=>exact h.elim
 |cons c fs=>obtain⟨n,h⟩:=h;refine⟨n+30,λew ho w=>?_⟩;rw[H.P]at h⊢;exact JN hf hm hd (λw=>h ({v:=jc,recovered:=au}::ew) (by simpa using ho) w) w
theorem UO(H:Hand J d k nb)(hL:J.L.Ok d.ro){c:bs}(hmeth:∀(w:aj) (args:Array ay),(callMethod dv "Do" args).runT aC w #[]=(.ok (.enter AD (#[x] ++args)) w,#[]))(hR:Run J d tW k t g be p w)(hc:CallV J d k w cv c)
  (hDo:∀w1,Run J d tW k t g be p w1->gD J d k w w1->CallV J d k w1 cv c->CallsM aC aw (d.cw k) (JW d (J.cP d.W) k) (λ_ _ _ _=>False) (pT d k) t AD #[x,aI (ae ⟨d.W k,0,ah⟩),cv] w1 λt' v w'=>∃g' a,Run J d tW k t' g' be (.ret a) w'/\gD J d k w1 w'/\AB J w1.heap.size w' v a):
  CallsM aC aw (d.cw k) (JW d (J.cP d.W) k) (λ_ _ _ _=>False) (pT d k) t 117 #[aI (ae ⟨d.W k,0,ah⟩),dv,cv] w λt' v w'=>∃g' a,Run J d tW k t' g' be (.ret a) w'/\gD J d k w w'/\AB J w.heap.size w' v a:=by
 intro c0 fs hu hnext;have hcs:=H.cw;obtain⟨pv,hcv,_⟩:=hc.ex;have wB:gL aC 117 #[aI (ae ⟨d.W k,0,ah⟩),dv,cv] .normal=(Conc.base 117).at {tmps:=#[aI (ae ⟨d.W k,0,ah⟩),dv,cv] ++Array.replicate 9 aO,defers:=[]} [.code (f117.body.getD .skip)]:=by simp[gL,Frame.at,func117,f117,Conc.base]
 rw[wB];simp only[f117,cN];walk_nrm;refine .pure (λ_=>bU) ?_;refine rk (nH _) hcs rfl aQ (JB _ _) (Lq _ _) (λτ=>?_);subst hcv;go_wp2;refine⟨_,bD _ _,?_⟩;refine .pure (λ_=>bU) (.pure (λ_=>gv) ?_);refine rg ?_;generalize iA:((w.alloc (Obj.cells #[Value.pointer (ae {block:=d.W k,off:=0})] 117)).alloc (Obj.cells #[aq af c.kind,aq af c.a,aq af c.b,aq af c.c,pv] 50)).alloc _=w1;obtain⟨hsz,ho,hn0,OX,hn2⟩:=ZT iA;clear iA;obtain⟨R1,K1,F1⟩:=Bg hL hR hR (gD.refl J d k w) (w':=w1) ai (λb hb hne=>aT (ho b hb) hne);have hF0:∀b,w.heap.size<=b->¬J.L.Foot w1 b:=λb hb h=>by have:=hR.foot hL ((F1 b).1 h);omega
 have aiP:=hR.blk;refine z0l ?_;refine .pure (λ_=>xJ (g:=147) (cap:=#[aI (ae ⟨w.heap.size+1+1,0,ah⟩),aI (ae ⟨w.heap.size,0,ah⟩)]) rfl rfl aN rfl dS) ?_;walk_nrm;refine .pure (λ_=>bP) ?_;refine .pure (λ_=>bU) (.pure (λ_=>gv) ?_);refine rg ?_;have c0':=cO hn0 0;have c10:=cO OX 0;have c11:=cO OX 1;have c12:=cO OX 2;have c13:=cO OX 3;have c14:=cO OX 4;iterate 3
  refine z0l ?_
 refine zigC_enter (f:=AD) (args:=#[x,aI (ae ⟨d.W k,0,ah⟩),.agg #[aq af c.kind,aq af c.a,aq af c.b,aq af c.c,pv]]) aN rfl rfl (λw=>?_) ?_
 .have:=hmeth w #[aI (ae ⟨d.W k,0,ah⟩),.agg #[aq af c.kind,aq af c.a,aq af c.b,aq af c.c,pv]];simpa[bT,resolve,invoke,cS,go_sem]using this
 refine hDo w1 R1 K1 (hc.keep K1) _ (c0::fs) (pT.does H rfl rfl rfl hu) λt' v w2 ⟨g',a,R2,K2,hv⟩=>?_;rw[iB];walk_nrm;obtain⟨vY,hFr⟩:=K2.same _ _ hn2 bu (hF0 _ ai) ai;obtain⟨v0,v1,v2,iv,zY,hve,hiv,Lt,hown⟩:=hv.ex;subst hve;obtain⟨ia,AE,Dk,_⟩:=id hiv;obtain⟨pa,sG,hpe,_⟩:=id Lt;subst Dk hpe;have hz:∀o,w2.frozen? ⟨w.heap.size+1+1,o,ah⟩=aw:=λo=>aM vY o (bQ _);have e0:=ax vY 0;have e1:=ax vY 1;have e2:=ax vY 2;have e3:=ax vY 3;have e4:=ax vY 4;have e5:=ax vY 5;have e6:=ax vY 6;have e7:=ax vY 7;have e8:=ax vY 8;simp only[kJ,oP,nK]at e0 e1 e2 e3 e4 e5 e6 e7 e8;refine z0l ?_;generalize hw3:(((((((((w2.setCell ⟨w.heap.size+1+1,0,ah⟩ (aq af v0)).setCell ⟨w.heap.size+1+1,1,ah⟩ (aq af v1)).setCell ⟨w.heap.size+1+1,2,ah⟩ (aq af v2)).setCell ⟨w.heap.size+1+1,3,ah⟩ (.bool a.ok)).setCell ⟨w.heap.size+1+1,4,ah⟩ (aq af a.n)).setCell ⟨w.heap.size+1+1,5,ah⟩ (aq af a.m)).setCell ⟨w.heap.size+1+1,6,ah⟩ (aq af a.err)).setCell ⟨w.heap.size+1+1,7,ah⟩ (aD ia a.ints.length AE)).setCell ⟨w.heap.size+1+1,8,ah⟩ (aD pa a.pairs.length sG))=w3;have h3:w3.heap[w.heap.size+1+1]? =ae (aK #[aq af v0,aq af v1,aq af v2,.bool a.ok,aq af a.n,aq af a.m,aq af a.err,aD ia a.ints.length AE,aD pa a.pairs.length sG] 48 (0,0)):=by have:=(aH (o:=8) (aH (o:=7) (aH (o:=6) (aH (o:=5) (aH (o:=4) (aH (o:=3) (aH (o:=2) (aH (o:=1) (aH (o:=0) vY (aq af v0)) (aq af v1)) (aq af v2)) (.bool a.ok)) (aq af a.n)) (aq af a.m)) (aq af a.err)) (aD ia a.ints.length AE)) (aD pa a.pairs.length sG));rw[hw3]at this;simpa using this
 have Ay:w3.heap.size=w2.heap.size:=by subst hw3;simp[fF]
 have ho3:∀b,b≠w.heap.size+1+1->w3.heap[b]? =w2.heap[b]? :=λb hb=>by subst hw3;simp only[az hb]
 clear hw3 e0 e1 e2 e3 e4 e5 e6 e7 e8 hz;refine .pure (λ_=>bP) ?_;refine .pure (λ_=>stepG_ret') ?_;refine xK rfl rfl func147 rfl rfl ?_;simp only[f147];walk_nrm;refine .pure (λ_=>bU) (.pure (λ_=>gv) ?_);refine rg ?_;refine vB rfl rfl rfl rfl rfl ?_;walk_nrm;refine QD ?_;refine .pure (λ_=>bP) ?_;refine .pure (λ_=>bU) (.pure (λ_=>bU) (.pure (λ_=>gv) ?_));refine rg ?_;refine QD ?_;refine kv (nH _) (.inr rfl) rfl rfl aQ (Lq _ _) (λτ K hK=>?_);go_simp;rw[UN];go_simp;refine hK _ _ _ (bD _ _) ?_;clear hK K;walk_nrm;iterate 6
  refine QD ?_
 refine .pure (λ_=>bP) ?_;refine .pure (λ_=>bU) (.pure (λ_=>gv) ?_);refine rg ?_;refine QD ?_;refine .pure (λ_=>bP) ?_;refine .pure (λ_=>stepG_cond (t:=aw) rfl) ?_;refine .pure (λ_=>stepG_skip) ?_;refine .pure (λ_=>bU) (.pure (λ_=>gv) ?_);refine rg ?_;refine QD ?_;refine JD (v:=.bool aw) rfl rfl aN (λw=>by simp[bT,cS,go_sem,binOp,Op.equal,ZV,ZW]) ?_;walk_nrm;refine .pure (λ_=>bP) ?_;refine .pure (λ_=>stepG_cond (t:=aw) rfl) ?_;refine .pure (λ_=>stepG_skip) ?_;refine JH (Qz rfl rfl func147 rfl rfl ?_);generalize hw4:w3.alloc _=w4;have aeZ:w4.heap.size=w3.heap.size+1:=by subst hw4;simp
 have Gp:∀b,b<w3.heap.size->w4.heap[b]? =w3.heap[b]? :=λb hb=>by subst hw4;simp only[←dt,dz];rw[aU ai]
 clear hw4;have hlt:=(bF.1 h3).1;have h4:=h3;rw[←Gp _ hlt]at h4;have e0:=ax h4 0;have e1:=ax h4 1;have e2:=ax h4 2;have e3:=ax h4 3;have e4:=ax h4 4;have e5:=ax h4 5;have e6:=ax h4 6;have e7:=ax h4 7;have e8:=ax h4 8;simp only[kJ,oP,nK]at e0 e1 e2 e3 e4 e5 e6 e7 e8;obtain⟨R4,K4,F4⟩:=Bg hL hR R2 (K1.trans K2) (w':=w4) ai (λb hb hne=>by
  have:b=w.heap.size+1+1:=by apply eV;intro hc;exact hne (by rw[Gp b ai,ho3 b hc])
  subst this;exact⟨ai,hFr⟩)
 refine Co rfl rfl rfl func117 (v:=.agg #[aq af v0,aq af v1,aq af v2,.bool a.ok,aq af a.n,aq af a.m,aq af a.err,aD ia a.ints.length AE,aD pa a.pairs.length sG]) ?_ (hnext t' _ w4 ⟨g',a,R4,K4,(hv.same (λb hb hB=>?_) F4).mono ai⟩)
 .simp[eL,Frame.at,f117,go_sem,e0,e1,e2,e3,e4,e5,e6,e7,e8]
 .have:b≠w.heap.size+1+1:=ai;rw[Gp b ai,ho3 b this]
end
end
section
open Go Go.Conc Go.ConcN Go.RowKit
noncomputable def bot:aB:={(default:aB)with fn:=prog.funcs.size,defers:=[],mode:=.panicking [goexitEntry]}
theorem QE(b:aB)(a:Act)(todo:List Item)(hd:a.defers=[])(hk:b.kind=.deferred)(hf:b.fn=72):QuitsD aC 2 0 (G {b.at a todo with mode:=.returning} [bot]):=by
 refine QuitsD.ctl (g':=G bot []) rfl (λw=>?_) ?_
 .simp[G,bn,unwind,doReturn,Frame.at,bot,hd,hk,hf,Conc.baseD,func72,eL,GStep.after,seen,go_sem,f72,goexitEntry]
 .refine QuitsD.ctl (g':={G bot []with status:=.finished}) rfl (λw=>?_) ⟨rfl,rfl⟩;simp[G,bn,unwind,bot,goexitEntry,Frame.catches];rfl
noncomputable def dU:Code:=match f74.body with
 |some (.seq _ r)=>r
 |_=>.skip
def Cv(nb W:Nat)(dv cv:ay):Act:={tmps:=#[aI (ae ⟨W,0,ah⟩),dv,cv,aI (ae ⟨nb,0,ah⟩)] ++Array.replicate 77 aO,defers:=[]}
noncomputable def uO(nb W:Nat)(dv cv:ay):aB:=(Conc.base 74).at (Cv nb W dv cv) [.code dU]
theorem yT(Wg bw bd bc W:Nat)(dv cv:ay):∃rf:aB,
  (∀{pf:aB} {K0:aj->Prop} {S:Loc->Prop} {B C n i:Nat} {val:ay},pf.fn=74->pf.kind=.normal->pf.mode=.returning->pf.defers=[]->(∀w,K0 w->dG link.tWg Wg w/\Has C i val w)->
   ∀w,Goes aC aw (RK K0) (DS S B) (λg w=>g.status=.running/\∃m,j5 aC link.tWg Wg C n (i+1) 7 m 0 g w) 10 (G pf [rf,bot]) w)/\
  (∀{R:aj->aj->Prop} {D:aj->aj->Array cK->Prop} {Q:aY->aj->Prop} {F F':aj->Prop} {nb:Nat},(∀w w₁,R w w₁->F w->F w₁)->(∀w w₁,R w w₁->F' w->F' w₁)->(∀w,F w->w.heap.size=nb/\w.cell? ⟨bw,0,ah⟩=ae (aI (ae ⟨W,0,ah⟩))/\w.cell? ⟨bd,0,ah⟩=ae dv/\w.cell? ⟨bc,0,ah⟩=ae cv)->
   (∀w es,F w->(∀e∈es,∃a:aP,e=⟨.cell a,aw,aw⟩/\(a.block=bw\/a.block=bd\/a.block=bc))->D w w es)->(∀w,F w->D w (w.alloc (aK #[aI (ae ⟨W,0,ah⟩)] 117)) #[]/\F' (w.alloc (aK #[aI (ae ⟨W,0,ah⟩)] 117)))->(∀w,F' w->D w w #[]/\Q (G (uO nb W dv cv) [rf,bot]) w)->
   ∀w,F w->Goes aC aw R D Q 40 (G {(default:aB)with fn:=prog.funcs.size,defers:=[cl 72 #[aI (ae ⟨Wg,0,ah⟩),aI (ae ⟨bw,0,ah⟩),aI (ae ⟨bd,0,ah⟩),aI (ae ⟨bc,0,ah⟩)]],mode:=.panicking [goexitEntry]} []) w):=by
 apply Exists.intro;refine⟨?_,?_⟩;rotate_left
 .intro R D Q F F' nb hF hF' hc hD hA hQ w hw;have nil:∀w,F w->D w w #[]:=λw h=>hD w #[] h aJ;refine cn rfl (λw₁ h₁=>?_);replace hw:=hF _ _ h₁ hw;clear h₁;rw[l8 (g:=72) (args:=#[]) (ds:=[]) aJ rfl func72 rfl rfl];simp only[cG];refine⟨nil _ hw,?_⟩;simp only[f72];walk_nrm
  (refine cn rfl (λw₁ h₁=>?_);replace hw:=hF _ _ h₁ hw;clear h₁;rw[bU];simp only[cG];refine⟨nil _ hw,?_⟩)
  (refine cn rfl (λw₁ h₁=>?_);replace hw:=hF _ _ h₁ hw;clear h₁;rw[gv];simp only[cG,j9,fO,gK,Nat.reduceAdd,eB,dx,List.range.loop];refine⟨nil _ hw,?_⟩)
  (refine cn rfl (λw₁ h₁=>?_);replace hw:=hF _ _ h₁ hw;clear h₁;rw[stepG_defer rfl rfl aN rfl];simp only[cG];refine⟨nil _ hw,?_⟩)
  walk_nrm
  (refine cn rfl (λw₁ h₁=>?_);replace hw:=hF _ _ h₁ hw;clear h₁;rw[bP];simp only[cG];refine⟨nil _ hw,?_⟩)
  (refine cn rfl (λw₁ h₁=>?_);replace hw:=hF _ _ h₁ hw;clear h₁;rw[gv];simp only[cG,j9,fO,gK,Nat.reduceAdd,eB,dx,List.range.loop];refine⟨nil _ hw,?_⟩)
  (refine cn rfl (λw₁ h₁=>?_);replace hw:=hF _ _ h₁ hw;clear h₁;refine eJ rfl rfl aN (λK hK=>?_);have⟨_,c1,c2,c3⟩:=hc _ hw;go_simp;refine hK _ _ ⟨hD _ _ hw (λe he=>by(have hm:=mem_listed he;simp[go_sem, *]at hm;(try(subst hm;exact⟨_,rfl,aJ⟩)))),?_⟩;clear hK K c1 c2 c3)
  (refine cn rfl (λw₁ h₁=>?_);replace hw:=hF _ _ h₁ hw;clear h₁;refine eJ rfl rfl aN (λK hK=>?_);have⟨_,c1,c2,c3⟩:=hc _ hw;go_simp;refine hK _ _ ⟨hD _ _ hw (λe he=>by(have hm:=mem_listed he;simp[go_sem, *]at hm;(try(subst hm;exact⟨_,rfl,aJ⟩)))),?_⟩;clear hK K c1 c2 c3)
  (refine cn rfl (λw₁ h₁=>?_);replace hw:=hF _ _ h₁ hw;clear h₁;refine eJ rfl rfl aN (λK hK=>?_);have⟨_,c1,c2,c3⟩:=hc _ hw;go_simp;refine hK _ _ ⟨hD _ _ hw (λe he=>by(have hm:=mem_listed he;simp[go_sem, *]at hm;(try(subst hm;exact⟨_,rfl,aJ⟩)))),?_⟩;clear hK K c1 c2 c3)
  refine cn rfl (λw₁ h₁=>?_);replace hw:=hF _ _ h₁ hw;clear h₁;refine goes_call rfl rfl aN rfl func74 rfl rfl ⟨nil _ hw,?_⟩;simp only[uO,dU]at hQ;simp only[f74]at hQ⊢;walk_nrm
  (refine cn rfl (λw₁ h₁=>?_);replace hw:=hF _ _ h₁ hw;clear h₁;rw[bU];simp only[cG];refine⟨nil _ hw,?_⟩)
  (refine cn rfl (λw₁ h₁=>?_);replace hw:=hF _ _ h₁ hw;clear h₁;rw[gv];simp only[cG,j9,fO,gK,Nat.reduceAdd,eB,dx,List.range.loop];refine⟨nil _ hw,?_⟩)
  refine cn rfl (λw₁ h₁=>?_);replace hw:=hF _ _ h₁ hw;clear h₁;obtain⟨d1,d2⟩:=hA _ hw;obtain⟨hsz,_,_,_⟩:=hc _ hw;refine eJ rfl rfl aN (λK hK=>?_);go_simp;refine hK _ _ ⟨?_,?_⟩
  .rw[listed_none (by simp[go_sem, *])];exact d1
  clear hK K d1 hw;refine cn rfl (λw₁ h₁=>?_);replace d2:=hF' _ _ h₁ d2;clear h₁;rw[bP];simp only[cG];refine⟨(hQ _ d2).1,gM (λw₁ h₁=>?_)⟩;have h:=(hQ _ (hF' _ _ h₁ d2)).2;subst hsz;refine cast (congrArg (λa=>Q (G ((Conc.base 74).at a _) _) _) ?_) h;simp[Cv]
 .intro pf K0 S B C n i val hfn hk hm hd hK w;refine cn rfl (λw₁ h₁=>?_);rw[show bn aC aw (G pf [_,bot]) w₁=.go (G (_) [bot]) w₁ #[]from by simp[G,bn,unwind,doReturn,hm,hd,hfn,hk,func74,eL,GStep.after,seen,go_sem,f74];rfl];simp only[cG];refine⟨ds_none _,?_⟩;rw[iB];walk_nrm;k_c bP
  k_c stepG_end
  refine cn rfl (λw₁ h₁=>?_);rw[stepG_unwind_enter rfl func73 rfl rfl];simp only[cG];refine⟨ds_none _,gM (λw₂ h₂=>⟨rfl,?_⟩)⟩;exact ae3 OW rfl (QE _ _ _ rfl rfl rfl) w₂ (by obtain⟨h1,h2⟩:=hK w₂ h₂;exact⟨h1,h2⟩)
end
section
namespace bt
open Go
section
variable{P:bh}{ops:Array aZ}{Q:Exit->Act->aj->Prop}{md:Region.Mode}{S:aj->Prop}
def free(zs:List Nat)(listed:Array Bool):Bool:=zs.all λz=>!listed.getD z aw
theorem JO{listed:Array Bool}(h:free zs (listed.setIfInBounds i au)=au):free zs listed=au:=by
 unfold free at*;rw[iT]at*;intro z hz;have:=h z hz;by_cases e:i=z
 .subst e;rcases ji i listed.size with h'|h'
  .simp[h']at this
  .simp[np h']
 .rw[getD_set_ne aw e]at this;exact this
theorem pH{listed:Array Bool}(hi:i∉zs)(h:free zs listed=au):free zs (listed.setIfInBounds i au)=au:=by unfold free at*;rw[iT]at*;intro z hz;rw[getD_set_ne aw (λe=>hi (by subst e;exact hz))];exact h z hz
def wpAnyT(P:bh)(md:Region.Mode)(ops:Array aZ)(Q:Exit->Act->aj->Prop)(S:aj->Prop)(zs:List Nat):Nat->Array Bool->Act->aj->Prop
 |0,listed,a,w=>ki md ops listed=[]/\Q .normal a w
 |fuel+1,listed,a,w=>
  (ki md ops listed=[]->Q .normal a w)/\
  ∀i∈ki md ops listed,wpOp P ops Q i (λa' w'=>(free zs (listed.setIfInBounds i au)=au->S w')/\wpAnyT P md ops Q S zs fuel (listed.setIfInBounds i au) a' w') a w
theorem Cw:∀(fuel:Nat) (listed:Array Bool) (a:Act) (w:aj),wpAnyT P md ops Q S zs fuel listed a w->wpAny P md ops Q fuel listed a w
 |0,_,_,_,h=>h
 |fuel+1,_,_,_,h=>⟨h.1,λi hi=>wpOp_mono (λa' w' h'=>Cw fuel _ a' w' h'.2) (h.2 i hi)⟩
theorem xO(hi:ops[i]? =ae oi)(ZX:∀(j:Nat) (o:aZ) cs b,ops[j]? =ae o->o.op≠.select cs b)
  (hQ:∀c a w,Q (.panic c) (a.put oi.dst v) w->Q (.panic c) a w)
  (hT:∀listed w,E listed w->T w/\(free zs listed=au->S w))
  (hz:∀listed j oj w',(∃w,E listed w)->ops[j]? =ae oj->j≠i->(∀e∈oj.after,fq md e=au->e.on≠i)->(free zs ((listed.setIfInBounds i au).setIfInBounds j au)=au->S w')->E (listed.setIfInBounds j au) w'):
  ∀(fuel:Nat) (listed:Array Bool) (a:Act) (w:aj),
   (∀j oj,ops[j]? =ae oj->j≠i->listed.getD j au=aw->(∀e∈oj.after,fq md e=au->e.on≠i)->oi.apart ops oj=au)->
   i∈ki md ops listed->YieldsIf P ops T oi v a->E listed w->
   wpAnyT P md ops Q S zs fuel (listed.setIfInBounds i au) (a.put oi.dst v) w->wpAnyT P md ops Q S zs (fuel+1) listed a w:=by
 intro fuel;induction fuel with
 |zero=>
  intro listed a w _ hr hy hS H;refine⟨λh=>(by rw[h]at hr;cases hr),λj hj=>?_⟩;by_cases OY:j=i
  .subst OY;exact hy.wpOp hi (hT _ w hS).1 ⟨λhf=>(hT _ w hS).2 (JO hf),H⟩
  .have:=ready_mono hj OY;rw[H.1]at this;cases this
 |succ fuel ih=>
  intro listed a w gp hr hy hS H;refine⟨λh=>(by rw[h]at hr;cases hr),λj hj=>?_⟩;by_cases OY:j=i
  .subst OY;exact hy.wpOp hi (hT _ w hS).1 ⟨λhf=>(hT _ w hS).2 (JO hf),H⟩
  .have h1:=H.2 j (ready_mono hj OY);obtain⟨ae6,oj,OZ,hall⟩:=mem_ready.1 hj;have xz:∀e∈oj.after,fq md e=au->e.on≠i:=λe he hb heq=>by
    have h1:=hall e he hb;have h0:=(mem_ready.1 hr).1;rw[heq]at h1;rcases ji i listed.size with h'|h'
    .simp[h']at h0 h1;rw[h0]at h1;cases h1
    .simp[np h']at h1
   have h2:=wpOp_putIf OZ (gp j oj OZ OY ae6 xz) (λcs b=>ZX i oi cs b hi) (λcs b=>ZX j oj cs b OZ) hQ hy h1;have acJ:∀k ok,ops[k]? =ae ok->k≠i->(listed.setIfInBounds j au).getD k au=aw->
     (∀e∈ok.after,fq md e=au->e.on≠i)->oi.apart ops ok=au:=λk ok hk hki mO hno=>by
    refine gp k ok hk hki ?_ hno;by_cases hjk:j=k
    .subst hjk;exact ae6
    .rw[getD_set_ne au hjk]at mO;exact mO
   refine wpOp_mono (λa' w' h3=>?_) h2;have hE:=hz listed j oj w' ⟨w,hS⟩ OZ OY xz h3.2.1;refine⟨(hT _ w' hE).2,ih (listed.setIfInBounds j au) a' w' acJ (ready_mono hr (bZ OY)) h3.1 hE ?_⟩;rw[Array.setIfInBounds_comm _ _ OY];exact h3.2.2
def waits(md:Region.Mode)(ops:Array aZ)(zs:List Nat)(i:Nat):Bool:=
 zs.all λz=>match ops[z]? with
  |some oz=>oz.after.any λe=>fq md e&&e.on==i
  |none=>au
theorem MC(h:waits md ops zs i=au)(z:Nat)(hz:z∈zs)(oz:aZ)(ho:ops[z]? =ae oz):∃e∈oz.after,fq md e=au/\e.on=i:=by have h1:=iT.1 h z hz;simp only[ho]at h1;obtain⟨e,he,hb⟩:=Array.any_eq_true'.1 h1;simp only[cR,beq_iff_eq]at hb;exact⟨e,he,hb.1,hb.2⟩
theorem rq{l rest:List aZ}(hi:l.drop i=oi::rest):l.toArray[i]? =ae oi:=by rw[kJ];have:=congrArg (λx:List aZ=>x[0]?) hi;simpa[List.getElem?_drop]using this
theorem O0(h:zs.contains i=aw):i∉zs:=λhm=>by
 have:zs.contains i=au:=by simpa using hm
 rw[h]at this;cases this
theorem take{l rest:List aZ}{fuel:Nat}{listed:Array Bool}{w:aj}(hi:l.drop i=oi::rest)
  (hs:Region.noSelect l.toArray=au)(hf:Region.free md l.toArray listed i=au)(hr:(ki md l.toArray listed).contains i=au)(hz:(waits md l.toArray zs i&&free zs listed&&!zs.contains i)=au)
  (hQ:∀c a w,Q (.panic c) (a.put oi.dst v) w->Q (.panic c) a w)(hy:YieldsIf P l.toArray S oi v a)(hS:S w)
  (h:wpAnyT P md l.toArray Q S zs fuel (listed.setIfInBounds i au) (a.put oi.dst v) w):wpAnyT P md l.toArray Q S zs (fuel+1) listed a w:=by
 simp only[cR,xu]at hz;obtain⟨⟨hz1,hz2⟩,hz3⟩:=hz;refine xO (T:=S) (E:=λlisted w=>free zs listed=au/\S w) (rq hi) (Region.noSelect_spec hs) hQ (λ_ w h=>⟨h.2,λ_=>h.2⟩) ?_ fuel listed a w (Region.free_spec (rq hi) hf) (by simpa using hr) hy ⟨hz2,hS⟩ h;intro listed j oj w' ⟨_,yD,_⟩ OZ _ xz hSw;have hj:j∉zs:=λhj=>by obtain⟨e,he,hb,DY⟩:=MC hz1 j hj oj OZ;exact xz e he hb DY
 exact⟨pH hj yD,hSw (pH hj (pH (O0 hz3) yD))⟩
theorem Cx{l rest:List aZ}{fuel:Nat}{listed:Array Bool}{w:aj}(hi:l.drop i=oi::rest)
  (hs:Region.noSelect l.toArray=au)(hf:Region.free md l.toArray listed i=au)(hr:(ki md l.toArray listed).contains i=au)(hz:zs.contains i=aw)
  (hQ:∀c a w,Q (.panic c) (a.put oi.dst v) w->Q (.panic c) a w)(hy:YieldsIf P l.toArray (λ_=>True) oi v a)(hS:free zs listed=au->S w)
  (h:wpAnyT P md l.toArray Q S zs fuel (listed.setIfInBounds i au) (a.put oi.dst v) w):wpAnyT P md l.toArray Q S zs (fuel+1) listed a w:=by
 refine xO (T:=λ_=>True) (E:=λlisted w=>free zs listed=au->S w) (rq hi) (Region.noSelect_spec hs) hQ (λ_ w h=>⟨trivial,h⟩) ?_ fuel listed a w (Region.free_spec (rq hi) hf) (by simpa using hr) hy hS h;intro listed j oj w' _ OZ OY xz hSw yD;refine hSw ?_;rw[Array.setIfInBounds_comm _ _ (bZ OY)];exact pH (O0 hz) yD
theorem one{l rest:List aZ}{fuel:Nat}{listed:Array Bool}{w:aj}(hi:l.drop i=oi::rest)
  (hr:ki md l.toArray listed=[i])
  (h:∀K:Act->aj->Prop,Shut (∀a w,(free zs (listed.setIfInBounds i au)=au->S w)->((free zs (listed.setIfInBounds i au)=au->S w)->wpAnyT P md l.toArray Q S zs fuel (listed.setIfInBounds i au) a w)->K a w)->
   if dF oi (dW l.toArray a.tmps)=au then Oper.wp P oi a w K Q else K (a.put oi.dst aO) w):
  wpAnyT P md l.toArray Q S zs (fuel+1) listed a w:=by
 refine⟨λh0=>(by rw[hr]at h0;cases h0),λj hj=>?_⟩;rw[hr]at hj;obtain rfl:j=i:=by simpa using hj
 exact wpOp_step (rq hi) (λK' hK=>h K' (λa w hS hW=>hK a w ⟨hS,hW hS⟩))
theorem to(i:Nat){l rest:List aZ}{fuel:Nat}{listed:Array Bool}{w:aj}
  (h:∀K:Act->aj->Prop,Shut (∀a w,(free zs (listed.setIfInBounds i au)=au->S w)->((free zs (listed.setIfInBounds i au)=au->S w)->wpAnyT P md l.toArray Q S zs fuel (listed.setIfInBounds i au) a w)->K a w)->
   if dF oi (dW l.toArray a.tmps)=au then Oper.wp P oi a w K Q else K (a.put oi.dst aO) w) (hi:l.drop i=oi::rest:=by rfl)
  (hr:Region.ready md l.toArray listed=[i]:=by kernel_rfl):wpAnyT P md l.toArray Q S zs (fuel+1) listed a w:=one hi hr h
theorem tv(i:Nat){l rest:List aZ}{fuel:Nat}{listed:Array Bool}{w:aj}(hS:S w)
  (h:wpAnyT P md l.toArray Q S zs fuel (listed.setIfInBounds i true) a' w)(hi:l.drop i=oi::rest:=by rfl)
  (hs:Region.noSelect l.toArray=true:=by kernel_rfl)(hf:Region.free md l.toArray listed i=true:=by kernel_rfl)(hr:(Region.ready md l.toArray listed).contains i=true:=by kernel_rfl)(hz:zs.contains i=false:=by kernel_rfl)
  (hQ:∀c a w,Q (.panic c) (a.put oi.dst v) w->Q (.panic c) a w:=by exact λ_ _ _ h=>h)
  (hy:YieldsIf P l.toArray (λ_=>True) oi v a:=by exact Or.inl ⟨cQ,by(intro wS hSw;(try dsimp only at hSw);go_simp;all_goals with_reducible rfl)⟩)
  (ha:a.put oi.dst v=a':=by(try simp only[Act.put,oF,sS,uX]);rfl):wpAnyT P md l.toArray Q S zs (fuel+1) listed a w:=by
 subst ha;exact Cx hi hs hf hr hz hQ hy (λ_=>hS) h
theorem tu(i:Nat){l rest:List aZ}{fuel:Nat}{listed:Array Bool}{w:aj}(hS:S w)
  (h:wpAnyT P md l.toArray Q S zs fuel (listed.setIfInBounds i true) a' w)(hi:l.drop i=oi::rest:=by rfl)
  (hs:Region.noSelect l.toArray=true:=by kernel_rfl)(hf:Region.free md l.toArray listed i=true:=by kernel_rfl)(hr:(Region.ready md l.toArray listed).contains i=true:=by kernel_rfl)(hz:zs.contains i=false:=by kernel_rfl)
  (hQ:∀c a w,Q (.panic c) (a.put oi.dst undef) w->Q (.panic c) a w:=by exact λ_ _ _ h=>h)
  (hy:YieldsIf P l.toArray (λ_=>True) oi undef a:=by exact Or.inr ⟨cQ,rfl⟩)
  (ha:a.put oi.dst undef=a':=by(try simp only[Act.put,oF,sS,uX]);rfl):wpAnyT P md l.toArray Q S zs (fuel+1) listed a w:=by
 subst ha;exact Cx hi hs hf hr hz hQ hy (λ_=>hS) h
theorem tt(i:Nat){l rest:List aZ}{fuel:Nat}{listed:Array Bool}{w:aj}(hS:S w)
  (h:wpAnyT P md l.toArray Q S zs fuel (listed.setIfInBounds i true) a' w)(hi:l.drop i=oi::rest:=by rfl)
  (hs:Region.noSelect l.toArray=true:=by kernel_rfl)(hf:Region.free md l.toArray listed i=true:=by kernel_rfl)(hr:(Region.ready md l.toArray listed).contains i=true:=by kernel_rfl)(hz:(waits md l.toArray zs i&&free zs listed&&!zs.contains i)=true:=by kernel_rfl)
  (hQ:∀c a w,Q (.panic c) (a.put oi.dst v) w->Q (.panic c) a w:=by exact λ_ _ _ h=>h)
  (hy:YieldsIf P l.toArray S oi v a:=by exact Or.inl ⟨cQ,by(intro wS hSw;(try dsimp only at hSw);go_simp;all_goals with_reducible rfl)⟩)
  (ha:a.put oi.dst v=a':=by(try simp only[Act.put,oF,sS,uX]);rfl):wpAnyT P md l.toArray Q S zs (fuel+1) listed a w:=by
 subst ha;exact take hi hs hf hr hz hQ hy hS h
theorem two{l ae7 ae8:List aZ}{oj:aZ}{fuel:Nat}{listed:Array Bool}{w:aj}(hi:l.drop i=oi::ae7)(hj:l.drop j=oj::ae8)
  (hr:ki md l.toArray listed=[i,j])
  (h1:∀K:Act->aj->Prop,Shut (∀a w,(free zs (listed.setIfInBounds i au)=au->S w)->((free zs (listed.setIfInBounds i au)=au->S w)->wpAnyT P md l.toArray Q S zs fuel (listed.setIfInBounds i au) a w)->K a w)->
   if dF oi (dW l.toArray a.tmps)=au then Oper.wp P oi a w K Q else K (a.put oi.dst aO) w)
  (h2:∀K:Act->aj->Prop,Shut (∀a w,(free zs (listed.setIfInBounds j au)=au->S w)->((free zs (listed.setIfInBounds j au)=au->S w)->wpAnyT P md l.toArray Q S zs fuel (listed.setIfInBounds j au) a w)->K a w)->
   if dF oj (dW l.toArray a.tmps)=au then Oper.wp P oj a w K Q else K (a.put oj.dst aO) w):
  wpAnyT P md l.toArray Q S zs (fuel+1) listed a w:=by
 refine⟨λh0=>(by rw[hr]at h0;cases h0),λk hk=>?_⟩;rw[hr]at hk;rcases fU.1 hk with e|hk
 .rw[e];exact wpOp_step (rq hi) (λK' hK=>h1 K' (λa w hS hW=>hK a w ⟨hS,hW hS⟩))
 .obtain rfl:k=j:=by simpa using hk
  exact wpOp_step (rq hj) (λK' hK=>h2 K' (λa w hS hW=>hK a w ⟨hS,hW hS⟩))
theorem done{l:List aZ}{listed:Array Bool}{w:aj}(hr:ki md l.toArray listed=[])(h:Q .normal a w):
  ∀fuel,wpAnyT P md l.toArray Q S zs fuel listed a w
 |0=>⟨hr,h⟩
 |_+1=>⟨λ_=>h,by rw[hr];simp⟩
theorem start{l:List aZ}{id:Nat}{w:aj}(S:aj->Prop)(zs:List Nat)(hm:P.follows .mixedOrders=au)(hS:S w.drew)
  (h:S w.drew->wpAnyT P .any l.toArray Q S zs l.length (Array.replicate l.length aw) a w.drew):(Code.region id l.toArray au).wp P Q a w:=
 wp_region_any hm (Cw _ _ _ _ (by simpa using h hS))
end
end bt
end
section
open Go Go.Conc Go.ConcN Go.RowKit
attribute [local go_sem] ba bf bH a8 bC bK aS aV
def S1:bN:={L:=λg=>g==116,C:=λ_=>aw,X:=λ_=>aw,ft:=λ_ _=>aw}
theorem nL:Stat aC S1:=by
 refine⟨λ_=>⟨λ_ h=>dB,λ_ h=>dB,IV rfl (λ_=>rfl) (λ_=>rfl)⟩,λg h=>?_,λ_ h=>dB,λg h=>?_⟩
 .simp only[S1,beq_iff_eq]at h;subst h;exact⟨_,func116,rfl,rfl⟩
 .simp only[S1,beq_iff_eq]at h;subst h;kernel_rfl
theorem Lu(f:Nat)(t:Array ay):p8 S1 f t:=λ_ h=>dB
theorem DZ(x:ay):∀d∈[cl 116 #[x]],nv aC S1 d:=λd hd=>by simp only[List.mem_singleton]at hd;subst hd;exact .inr (.inl ⟨_,_,rfl,rfl,λ_ h=>dB⟩)
def _root_.Go.Code.l:Code->Code|.seq x _=>x|.block _ x=>x|.loop x=>x|x=>x
def _root_.Go.Code.r:Code->Code|.seq _ y=>y|x=>x
noncomputable def gY:Code:=dU.r.r.l.l
noncomputable def iM:Code:=gY.r.r.l.l
noncomputable def pcTold:Code:=iM.r.r.r
noncomputable def pcDone:Code:=pcTold.r.r
end
section
open Go Go.Conc Go.ConcN Go.RowKit
attribute [local go_sem] ba bf bH a8 bC bK aS aV
variable[Inhabited dc]
inductive sP(W nb:Nat)(dv cv:ay)(len q:Nat)(u7 u8:ay):Act->Prop
 |mk (u4 u5 u6 u9 mU mA mB u16 lK lL lM lN mV mX u23 u24 mY u26 lO u28 lQ lR mC u32 u33 mD mE mF mG mZ m9 nV oU oV pU u44 pV oX oY oZ o6 o7 o8 o9 sH sI ub ud wE wG wH wI wJ wK wL u64 wM wN D5 D6 D7 AG AH AJ Cy Cz CB CE CG D8 D9 Ea:ay):sP W nb dv cv len q u7 u8 {tmps:=#[aI (ae ⟨W,0,ah⟩),dv,cv,aI (ae ⟨nb,0,ah⟩),u4,u5,u6,u7,u8,u9,cv,aq af len,aq af q,mU,mA,mB,u16,lK,lL,lM,lN,mV,mX,u23,u24,mY,u26,lO,u28,lQ,lR,mC,u32,u33,mD,mE,mF,mG,mZ,m9,nV,oU,oV,pU,u44,pV,oX,oY,oZ,o6,o7,o8,o9,sH,sI,ub,ud,wE,wG,wH,wI,wJ,wK,wL,u64,wM,wN,D5,D6,D7,AG,AH,AJ,Cy,Cz,CB,CE,CG,D8,D9,Ea],defers:=[cl 116 #[aI (ae ⟨nb,0,ah⟩)]]}
structure acK(W tW:Nat)(c:Array ay)(w w':aj):Prop where
 size:w'.heap.size=w.heap.size
 off:∀b,b≠W->w'.heap[b]? =w.heap[b]?
 own:w'.heap[W]? =ae (aK c tW (0,5))
section
variable{J:gS σ}{k:Nat}{w:aj}{g:Bool}
set_option profiler true in
theorem QF(hcs:d.cw k≠[]){st len q:Nat}(hA:sP (d.W k) nb dv cv len q u7 u8 a)(jd:w.cell? ⟨nb,0,ah⟩=ae (aI (ae ⟨d.W k,0,ah⟩)))(hne:nb≠d.W k)(hlt:ow<100000)
  (hW:w.heap[d.W k]? =ae (aK (dK k (d.turn k) d.come d.gone g st be ow sl) tW (0,5))):
  wpM aC aw (d.cw k) (JW d (J.cP d.W) k) (λ_ _ _ _=>False) (λfs=>fs=[]) 74 pcDone.l (λt' e a' w'=>e=.normal/\t'=t/\sP (d.W k) nb dv cv len q u7 u8 a'/\acK (d.W k) tW (dK k (d.turn k) d.come d.gone aw st be (if g then ow+1 else ow) sl) w w') t a w:=by
 cases hA;have c5:=cO hW 5;have c8:=cO hW 8;have z5:=aM hW 5 (bJ _);have z8:=aM hW 8 ai;have hwr:IntKind.i64.wrap ((ow:Int) +1)=(ow:Int) +1:=by rw[gq];omega
 generalize ZR:d.W k=W at*;simp only[pcDone,pcTold,iM,gY,dU,f74,Code.l,Code.r];cases g with
 |false=>refine wpM_seq (wpM_lone nL hcs aQ (DZ _) (Lu _ _) (λτ=>?_));go_wp2;refine px ?_;refine bz (t:=aw) rfl (eY ?_);exact⟨rfl,rfl,sP.mk ..,rfl,λ_ _=>rfl,by simpa using hW⟩
 |true=>refine wpM_seq (wpM_lone nL hcs aQ (DZ _) (Lu _ _) (λτ=>?_));go_wp2;refine px ?_;refine bz (t:=au) rfl ?_;simp only[if_true];refine wpM_lone nL hcs aQ (DZ _) (Lu _ _) (λτ=>?_);go_wp2;refine⟨_,bD _ _,sP.mk ..,jM,λb hb=>by rw[az hb,az hb],?_⟩;have:=aH (o:=8) (aH (o:=5) hW (.bool aw)) (aq af ((ow:Int) +1));simpa[dK]using this
end
end
section
open Go Go.Conc Go.ConcN Go.RowKit
theorem kq{t:bq}{s b:Nat}(h:(prog.info? t).map (λi=>(i.zero,i.size,i.bytes))=ae (ae z,s,b)):∃i,prog.info? t=ae i/\i.zero=ae z/\i.size=s/\i.bytes=b:=by
 revert h;cases hi:prog.info? t with
 |none=>intro h;cases h
 |some i=>intro h;simp only[nC,dD,Prod.mk.injEq]at h;exact⟨i,rfl,h.1,h.2.1,h.2.2⟩
theorem Gq:(prog.info? 48).map (λi=>(i.zero,i.size,i.bytes))=ae (ae (.agg #[aq af 0,aq af 0,aq af 0,.bool aw,aq af 0,aq af 0,aq af 0,aD ah 0 0,aD ah 0 0]),9,104):=aQ
def ue(C:Act->aj->Prop):Exit->Act->aj->Prop
 |.normal,a,w=>C a w
 |_,_,_=>False
theorem mH{w:aj}(h:c.wp aC (ue C) a w)(hC:∀a' w',C a' w'->C' a' w'):c.wp aC (λe a' w'=>e=.normal/\C' a' w') a w:=Code.wp_mono (λe a' w' h=>by cases e<;>first|exact⟨rfl,hC _ _ h⟩|exact h.elim) h
section
variable{len q:Nat}{w:aj}
theorem MD(hA:sP W nb dv cv len q u7 u8 a)(jd:w.cell? ⟨nb,0,ah⟩=ae (aI (ae ⟨W,0,ah⟩)))(hne:nb≠W){v8:ay}{st:Int}(c6:w.cell? ⟨W,6,ah⟩=ae (aq af st))(c7:w.cell? ⟨W,7,ah⟩=ae v7)(c8:w.cell? ⟨W,8,ah⟩=ae v8)
  (z7:w.frozen? ⟨W,7,ah⟩=aw)(z8:w.frozen? ⟨W,8,ah⟩=aw):
  (pcTold.l).wp aC (ue λa' w'=>sP W nb dv cv len q u7 u8 a'/\Alike ((w.setCell ⟨W,7,ah⟩ (aq af st)).setCell ⟨W,8,ah⟩ (aq af 0)) w') a w:=by
 cases hA;simp only[pcTold,iM,gY,dU,f74,Code.l,Code.r];refine bt.start (λw'=>w'.cell? ⟨nb,0,ah⟩=ae (aI (ae ⟨W,0,ah⟩))/\w'.cell? ⟨W,6,ah⟩=ae (aq af st)) [11] aQ ?_ (λaF=>?_)
 .exact JQ
 refine bt.tt 0 aF ?_;refine bt.tt 1 aF ?_;refine bt.tt 2 aF ?_;refine bt.tv 3 aF ?_;refine bt.tv 4 aF ?_;refine bt.tt 5 aF ?_;refine bt.tv 6 aF ?_;refine bt.tv 7 aF ?_;refine bt.to 8 (λK hK=>?_);go_simp;refine hK.out _ _ (λ_=>?_) (λaF=>?_)
 .exact JQ
 replace aF:=aF aN;clear hK K;try refine pt ?_
 refine bt.tv 9 aF ?_;refine bt.tv 10 aF ?_;refine bt.to 11 (λK hK=>?_);go_simp;refine hK.out _ _ (λhF=>aT hF aN) (λ_=>?_);clear hK K;try refine pt ?_
 refine bt.done aQ ?_ _;exact⟨sP.mk ..,⟨rfl,rfl,rfl⟩⟩
theorem ME(hA:sP W nb dv cv len q u7 (aI (ae ⟨b8,0,ah⟩)) a)(jd:w.cell? ⟨nb,0,ah⟩=ae (aI (ae ⟨W,0,ah⟩)))(hne:nb≠W)(hn8:b8≠W)(aiQ:b8≠nb){v0 v1 v2:ay}{be st ow:Int}(c6:w.cell? ⟨W,6,ah⟩=ae (aq af st))(c7:w.cell? ⟨W,7,ah⟩=ae (aq af be))(c8:w.cell? ⟨W,8,ah⟩=ae (aq af ow))
  (x0:w.cell? ⟨b8,0,ah⟩=ae v0)(x1:w.cell? ⟨b8,1,ah⟩=ae v1)(x2:w.cell? ⟨b8,2,ah⟩=ae v2)(z0:w.frozen? ⟨b8,0,ah⟩=aw)(z1:w.frozen? ⟨b8,1,ah⟩=aw)(z2:w.frozen? ⟨b8,2,ah⟩=aw):
  (pcDone.r.l).wp aC (ue λa' w'=>sP W nb dv cv len q u7 (aI (ae ⟨b8,0,ah⟩)) a'/\Alike (((w.setCell ⟨b8,0,ah⟩ (aq af be)).setCell ⟨b8,1,ah⟩ (aq af st)).setCell ⟨b8,2,ah⟩ (aq af ow)) w') a w:=by
 cases hA;simp only[pcDone,pcTold,iM,gY,dU,f74,Code.l,Code.r];refine bt.start (λw'=>w'.cell? ⟨nb,0,ah⟩=ae (aI (ae ⟨W,0,ah⟩))/\w'.cell? ⟨W,6,ah⟩=ae (aq af st)/\w'.cell? ⟨W,7,ah⟩=ae (aq af be)/\w'.cell? ⟨W,8,ah⟩=ae (aq af ow)) [17] aQ ?_ (λaF=>?_)
 .exact acL
 refine bt.tt 0 aF ?_;refine bt.tv 1 aF ?_;refine bt.tv 2 aF ?_;refine bt.tt 3 aF ?_;refine bt.tt 4 aF ?_;refine bt.tv 5 aF ?_;refine bt.tv 6 aF ?_;refine bt.tt 7 aF ?_;refine bt.tt 8 aF ?_;refine bt.tv 9 aF ?_;refine bt.tv 10 aF ?_;refine bt.tt 11 aF ?_;refine bt.tv 12 aF ?_;refine bt.to 13 (λK hK=>?_);go_simp;refine hK.out _ _ (λ_=>?_) (λaF=>?_)
 .exact acL
 replace aF:=aF aN;clear hK K;try refine pt ?_
 refine bt.tv 14 aF ?_;refine bt.to 15 (λK hK=>?_);go_simp;refine hK.out _ _ (λ_=>?_) (λaF=>?_)
 .exact acL
 replace aF:=aF aN;clear hK K;try refine pt ?_
 refine bt.tv 16 aF ?_;refine bt.to 17 (λK hK=>?_);go_simp;refine hK.out _ _ (λhF=>aT hF aN) (λ_=>?_);clear hK K;try refine pt ?_
 refine bt.done aQ ?_ _;exact⟨sP.mk ..,⟨rfl,rfl,rfl⟩⟩
theorem JR(hA:sP W nb dv cv len q u7 (aI (ae ⟨b8,0,ah⟩)) a)(jd:w.cell? ⟨nb,0,ah⟩=ae (aI (ae ⟨W,0,ah⟩))){n:Nat}{cs:List ay}(hn:n<100000){be st ow vn vm ve:Int}{il pl:Nat}(c9:w.cell? ⟨W,9,ah⟩=ae sl)(z9:w.frozen? ⟨W,9,ah⟩=aw)
  (x0:w.cell? ⟨b8,0,ah⟩=ae (aq af be))(x1:w.cell? ⟨b8,1,ah⟩=ae (aq af st))(x2:w.cell? ⟨b8,2,ah⟩=ae (aq af ow))(x3:w.cell? ⟨b8,3,ah⟩=ae (.bool ok))(x4:w.cell? ⟨b8,4,ah⟩=ae (aq af vn))(x5:w.cell? ⟨b8,5,ah⟩=ae (aq af vm))(x6:w.cell? ⟨b8,6,ah⟩=ae (aq af ve))(x7:w.cell? ⟨b8,7,ah⟩=ae (aD ia il ic))(x8:w.cell? ⟨b8,8,ah⟩=ae (aD pa pl pc))
  (hrow:w.ownsRow 0 48 9 sl n cs)(hrW:ae W≠sl.ownBlock)(hrn:ae nb≠sl.ownBlock)(hr8:ae b8≠sl.ownBlock):
  (pcDone.r.r.l).wp aC (ue λa' w'=>sP W nb dv cv len q u7 (aI (ae ⟨b8,0,ah⟩)) a'/\∃(g' cap':Nat) (w1:aj),w1.ownsRow 0 48 9 (aD (ae ⟨g',0,ah⟩) (n+1) cap') (n+1) (cs++[aq af be,aq af st,aq af ow,.bool ok,aq af vn,aq af vm,aq af ve,aD ia il ic,aD pa pl pc])/\w.heap.size<=w1.heap.size/\(∀b,b<w.heap.size->ae b≠sl.ownBlock->w1.heap[b]? =w.heap[b]?)/\(sl.ownBlock=ae g'\/w.heap.size<=g')/\Alike (w1.setCell ⟨W,9,ah⟩ (aD (ae ⟨g',0,ah⟩) (n+1) cap')) w') a w:=by
 cases hA;have Uk:=ez w _ c9;have hnl:=ez w _ jd;have h8l:=ez w _ x0;simp only at Uk hnl h8l;obtain⟨ie,Dk,Ir,Iu,Iw⟩:=kq Gq;simp only[pcDone,pcTold,iM,gY,dU,f74,Code.l,Code.r];refine bt.start (λw'=>w'.cell? ⟨nb,0,ah⟩=ae (aI (ae ⟨W,0,ah⟩))/\w'.cell? ⟨W,9,ah⟩=ae sl/\w'.cell? ⟨b8,0,ah⟩=ae (aq af be)/\w'.cell? ⟨b8,1,ah⟩=ae (aq af st)/\w'.cell? ⟨b8,2,ah⟩=ae (aq af ow)/\w'.cell? ⟨b8,3,ah⟩=ae (.bool ok)/\w'.cell? ⟨b8,4,ah⟩=ae (aq af vn)/\w'.cell? ⟨b8,5,ah⟩=ae (aq af vm)/\w'.cell? ⟨b8,6,ah⟩=ae (aq af ve)/\w'.cell? ⟨b8,7,ah⟩=ae (aD ia il ic)/\w'.cell? ⟨b8,8,ah⟩=ae (aD pa pl pc)) [10] aQ ?_ (λaF=>?_)
 .exact acM
 refine bt.tt 0 aF ?_;refine bt.tt 1 aF ?_;refine bt.tv 2 aF ?_;refine bt.tv 3 aF ?_;refine bt.tt 4 aF ?_;refine bt.tt 5 aF ?_;refine bt.to 6 (λK hK=>?_);go_simp;refine hK.out _ _ (λ_=>?_) (λaF=>?_)
 .exact acM
 replace aF:=aF aN;clear hK K;try refine pt ?_
 refine bt.to 7 (λK hK=>?_)
 (refine step_append_lies _ cQ (.tmp 67) (.tmp 69) _ cQ 0 48 ie _ 9 104 underlying45 Dk Ir Iu Iw rfl ai sl n cs cQ ((hrow.alloc _).drew) ⟨w.heap.size,0,ah⟩ 1 1 [aq af be,aq af st,aq af ow,.bool ok,aq af vn,aq af vm,aq af ve,aD ia il ic,aD pa pl pc] cQ cQ (pd (cs:=#[aq af be,aq af st,aq af ow,.bool ok,aq af vn,aq af vm,aq af ve,aD ia il ic,aD pa pl pc]) (t:=48) (fr:=(0,0)) (gN w _)) pI ai jk ai (bQ _) (w.heap.size+1) aJ ?_;intro gg cap w1 hown1 hgrow hat CH;have hs1:=hgrow.size;simp only[rY,cM]at hs1;have hz9:w1.frozen? ⟨W,9,ah⟩=aw:=(by rw[hgrow.frozen_far _ dp hrW];first|(simp[*];done)|(go_simp;done)))
 refine hK.out _ _ (λ_=>?_) (λaF=>?_)
 .exact acM
 replace aF:=aF aN;clear hK K;try refine pt ?_
 refine bt.tv 8 aF ?_;refine bt.tv 9 aF ?_;refine bt.to 10 (λK hK=>?_);go_simp;refine hK.out _ _ (λhF=>aT hF aN) (λ_=>?_);clear hK K;try refine pt ?_
 refine bt.done aQ ?_ _;refine⟨sP.mk ..,gg,cap,w1,hown1,ai,λb hb hne=>?_,hat.imp id (λe=>ai),⟨rfl,rfl,rfl⟩⟩;rw[hgrow.block b dp hne];show(w.alloc _).heap[b]? =_;simp only[←dt,dz];rw[aU ai]
end
end
section
open Go Go.Conc Go.ConcN Go.RowKit
attribute [local go_sem] ba bf bH a8 bC bK aS aV
variable[Inhabited dc]
theorem sP.def{len q:Nat}(h:sP W nb dv cv len q u7 u8 a):∀d∈a.defers,nv aC S1 d:=by cases h;exact DZ _
section
variable{J:gS σ}{k:Nat}{w:aj}{g:Bool}
structure CI(J:gS σ)(d:bp)(k:Nat)(w w':aj):Prop where
 size:w.heap.size<=w'.heap.size
 same:∀(b:Nat) o,w.heap[b]? =ae o->o≠eh->¬J.L.Foot w b->b≠d.W k->(∀sl,w.cell? ⟨d.W k,9,ah⟩=ae sl->sl.ownBlock≠ae b)->w'.heap[b]? =ae o/\¬J.L.Foot w' b
 go:J.L.G w w'
theorem QG(hcs:d.cw k≠[]){len q:Nat}(hA:sP W nb dv cv len q u7 u8 a)(jd:w.cell? ⟨nb,0,ah⟩=ae (aI (ae ⟨W,0,ah⟩)))(hne:nb≠W)(c7:w.cell? ⟨W,7,ah⟩=ae v7)(z7:w.frozen? ⟨W,7,ah⟩=aw)(c11:w.cell? ⟨W,11,ah⟩=ae (.bool aw)):
  wpM aC aw (d.cw k) (JW d (J.cP d.W) k) (λ_ _ _ _=>False) (λfs=>fs=[]) 74 pcDone.r.r.r (λt' e a' w'=>e=.normal/\t'=t/\sP W nb dv cv len q u7 u8 a'/\w'=w.setCell ⟨W,7,ah⟩ (aq af 0)) t a w:=by
 cases hA;simp only[pcDone,pcTold,iM,gY,dU,f74,Code.l,Code.r];iterate 2
  refine wpM_seq (wpM_lone nL hcs aQ (DZ _) (Lu _ _) (λτ=>?_));go_wp2;refine px ?_
 refine bz (t:=aw) rfl (eY ?_);exact⟨rfl,rfl,sP.mk ..,rfl⟩
theorem QH:pcDone=.seq pcDone.l (.seq pcDone.r.l (.seq pcDone.r.r.l pcDone.r.r.r)):=by simp only[pcDone,pcTold,iM,gY,dU,f74,Code.l,Code.r]
theorem QI(H:Hand J d k nb)(hL:J.L.Ok d.ro)(hm:J.c.most<=20000)(hT:J.tA=48){len q:Nat}{a:kC}{act:Act}
  (R0:Run J d tW k t0 g0 be0 p0 w0)(R:Run J d tW k t g be (.ret a) w)(K:gD J d k w0 w)(jd:w0.heap[nb]? =ae (aK #[aI (ae ⟨d.W k,0,ah⟩)] 117 (0,1)))
  {v0 v1 v2:Int}(h8:w.heap[b8]? =ae (aK #[aq af v0,aq af v1,aq af v2,.bool a.ok,aq af a.n,aq af a.m,aq af a.err,aD ia a.ints.length ic,aD pa a.pairs.length pc] 48 (0,0)))(hb8:w0.heap.size<=b8)(hF8:¬J.L.Foot w b8)
  (hi:Qr w (aD ia a.ints.length ic) a.ints)(hp:SlP w (aD pa a.pairs.length pc) a.pairs)(abc:∀x,(ia=ae x\/pa=ae x)->w0.heap.size<=x.block/\x.block≠b8/\¬J.L.Foot w x.block/\∃o,w.heap[x.block]? =ae o/\o≠eh/\di o=au)
  (hlen:((J.ar (t-1)).w k).got.length<100000)(hA:sP (d.W k) nb dv cv len q u7 (aI (ae ⟨b8,0,ah⟩)) act):
  wpM aC aw (d.cw k) (JW d (J.cP d.W) k) (λ_ _ _ _=>False) (λfs=>fs=[]) 74 pcDone (λt' e a' w'=>e=.normal/\t'=t/\sP (d.W k) nb dv cv len q u7 (aI (ae ⟨b8,0,ah⟩)) a'/\CI J d k w0 w'/\J.L.G t.a w'/\
   ∃st ow sl,mS J d tW k t st 0 ow sl ((J.ar t).w k) (J.ar t).s w'/\((J.ar t).w k).now=ah/\((J.ar t).w k).got.length=((J.ar (t-1)).w k).got.length+1) t act w:=by
 obtain⟨s,ow,sl,hM,hb,eI,hW,lq,hown⟩:=R.ex;obtain⟨f1,f2⟩:=hM.fin;have hcs:=H.cw;have Ls:d.fw k (d.W k)=ae (0,5):=by rw[H.fw,aX rfl]
 have py:d.fw k nb=ae (0,1):=by rw[H.fw,aU H.ne,aX rfl]
 have hWF:=(R.fw _ _ Ls).2.1;have hnF:=(R.fw _ _ py).2.1;have aha:=(R0.fw _ _ py).2.1;have UQ:=(K.same _ _ jd bu aha H.ne).1;have aiR:nb<w0.heap.size:=(bF.1 jd).1;have aiz:=R0.blk;have hsz:=K.size;have aiS:b8<w.heap.size:=(bF.1 h8).1;have h9:=cO hW 9;have hbl:∀b,cC w sl b->b<w0.heap.size/\b≠d.W k:=λb hb=>⟨(acI R0 K h9 b hb).2,(hown.blk b hb).1⟩;obtain⟨cs,hrow⟩:=hown.row;rw[hT]at hrow;have Fb:∀x,sl.ownBlock=ae x->cC w sl x/\x≠nb:=λx hx=>by
  rcases hrow.2 with⟨e1,_⟩|⟨x',cap,cur,e1,_,e2,_⟩
  .rw[e1]at hx;cases hx
  .rw[e1]at hx;obtain rfl:x'=x:=(by simpa[iE]using hx);refine⟨⟨_,_,_,e1,.inl rfl⟩,λe=>?_⟩;rw[e,UQ]at e2;cases e2
 rw[QH];refine wpM_seq (fu (QF (g:=g) hcs hA (by rw[ax UQ];rfl) H.ne (by have:=hM.few;have:=hm;omega) hW) ?_);rintro t' e a1 w1 ⟨rfl,rfl,Bb,T1⟩;simp only[bE];generalize hown':(if g=au then ow+1 else ow)=Ix at*;have Ar:Ix<=t'-J.n:=by subst hown';cases g<;>simp at hb⊢<;>omega
 have n8W:b8≠d.W k:=ai;have hx8:w1.heap[b8]? =w.heap[b8]? :=T1.off _ n8W;rw[←hx8]at h8;have Eb:w1.heap[nb]? =ae (aK #[aI (ae ⟨d.W k,0,ah⟩)] 117 (0,1)):=by rw[T1.off _ H.ne];exact UQ
 refine wpM_seq (wpM_lone nL hcs aQ Bb.def (Lu _ _) (λτ=>mH (ME (w:=w1.tp τ) (be:=(be:Int)) (st:=((t'-J.n:Nat):Int)) (ow:=(Ix:Int)) Bb (by rw[ba,ax Eb];rfl) H.ne n8W ai (by rw[ba,ax T1.own];rfl) (by rw[ba,ax T1.own];rfl) (by rw[ba,ax T1.own];rfl) (by rw[ba,ax h8];rfl) (by rw[ba,ax h8];rfl) (by rw[ba,ax h8];rfl) (aM (w:=w1.tp τ) h8 _ (bQ _)) (aM (w:=w1.tp τ) h8 _ (bQ _)) (aM (w:=w1.tp τ) h8 _ (bQ _))) λa2 w' ⟨tT,e2⟩=>⟨((w1.setCell ⟨b8,0,ah⟩ (aq af be)).setCell ⟨b8,1,ah⟩ (aq af ((t'-J.n:Nat):Int))).setCell ⟨b8,2,ah⟩ (aq af Ix),⟨e2.heap,e2.os,e2.output⟩,?_⟩));simp only[bE];generalize hw2:((w1.setCell ⟨b8,0,ah⟩ (aq af be)).setCell ⟨b8,1,ah⟩ (aq af ((t'-J.n:Nat):Int))).setCell ⟨b8,2,ah⟩ (aq af Ix)=w2;have hs2:w2.heap.size=w.heap.size:=by subst hw2;simp[fF,T1.size]
 have Az:∀b,b≠d.W k->b≠b8->w2.heap[b]? =w.heap[b]? :=λb h1 h2=>by subst hw2;rw[az h2,az h2,az h2,T1.off b h1]
 have hW2:w2.heap[d.W k]? =ae (aK (dK k (d.turn k) d.come d.gone aw (t'-J.n) be Ix sl) tW (0,5)):=by subst hw2;rw[az (bZ n8W),az (bZ n8W),az (bZ n8W)];exact T1.own
 have ZY:w2.heap[b8]? =ae (aK #[aq af be,aq af ((t'-J.n:Nat):Int),aq af Ix,.bool a.ok,aq af a.n,aq af a.m,aq af a.err,aD ia a.ints.length ic,aD pa a.pairs.length pc] 48 (0,0)):=by have:=aH (o:=2) (aH (o:=1) (aH (o:=0) h8 (aq af be)) (aq af ((t'-J.n:Nat):Int))) (aq af Ix);rw[hw2]at this;simpa using this
 clear hw2 hx8 h8;have ahb:∀b,cC w sl b->w2.heap[b]? =w.heap[b]? :=λb hb=>by obtain⟨h1,h2⟩:=hbl b hb;exact Az b h2 ai
 have hrow2:w2.ownsRow 0 48 9 sl ((J.ar (t'-1)).w k).got.length cs:=by refine⟨hrow.1,hrow.2.imp id ?_⟩;rintro⟨x,cap,cur,rfl,h3,h4,h5⟩;exact⟨x,cap,cur,rfl,h3,by rw[ahb x ⟨_,_,_,rfl,.inl rfl⟩];exact h4,h5⟩
 have ZZ:w2.heap[nb]? =ae (aK #[aI (ae ⟨d.W k,0,ah⟩)] 117 (0,1)):=by rw[Az _ H.ne ai];exact UQ
 have nrW:ae (d.W k)≠sl.ownBlock:=λe=>(hbl _ (Fb _ e.symm).1).2 rfl;have nrn:ae nb≠sl.ownBlock:=λe=>(Fb _ e.symm).2 rfl;have nr8:ae b8≠sl.ownBlock:=λe=>by have:=(hbl _ (Fb _ e.symm).1).1;omega
 refine wpM_seq (wpM_lone nL hcs aQ tT.def (Lu _ _) (λτ=>mH (JR (w:=w2.tp τ) (sl:=sl) (be:=(be:Int)) (st:=((t'-J.n:Nat):Int)) (ow:=(Ix:Int)) (ok:=a.ok) (vn:=a.n) (vm:=a.m) (ve:=a.err) (ia:=ia) (pa:=pa) (il:=a.ints.length) (ic:=ic) (pl:=a.pairs.length) (pc:=pc) tT (by rw[ba,ax ZZ];rfl) hlen (by rw[ba,ax hW2];rfl) (aM (w:=w2.tp τ) hW2 9 ai) (by rw[ba,ax ZY];rfl) (by rw[ba,ax ZY];rfl) (by rw[ba,ax ZY];rfl) (by rw[ba,ax ZY];rfl) (by rw[ba,ax ZY];rfl) (by rw[ba,ax ZY];rfl) (by rw[ba,ax ZY];rfl) (by rw[ba,ax ZY];rfl) (by rw[ba,ax ZY];rfl) hrow2 nrW nrn nr8) λa3 w' ⟨Fc,g',cap',w3,hrow3,hs3,ho3,hg3,e3⟩=>⟨w3.setCell ⟨d.W k,9,ah⟩ (aD (ae ⟨g',0,ah⟩) (((J.ar (t'-1)).w k).got.length+1) cap'),⟨e3.heap,e3.os,e3.output⟩,?_⟩));simp only[bE];generalize hn:((J.ar (t'-1)).w k).got.length=n at*;replace ho3:∀b,b<w2.heap.size->ae b≠sl.ownBlock->w3.heap[b]? =w2.heap[b]? :=ho3;replace hs3:w2.heap.size<=w3.heap.size:=hs3;have Mn:d.W k<w2.heap.size:=ai;have hW3:=hW2;rw[←ho3 _ Mn nrW]at hW3;have hW4:=aH (o:=9) hW3 (aD (ae ⟨g',0,ah⟩) (n+1) cap');have Gp:∀b,b≠d.W k->(w3.setCell ⟨d.W k,9,ah⟩ (aD (ae ⟨g',0,ah⟩) (n+1) cap')).heap[b]? =w3.heap[b]? :=λb hb=>az hb _;have YU:(w3.setCell ⟨d.W k,9,ah⟩ (aD (ae ⟨g',0,ah⟩) (n+1) cap')).heap.size=w3.heap.size:=jM;generalize w3.setCell ⟨d.W k,9,ah⟩ (aD (ae ⟨g',0,ah⟩) (n+1) cap')=w4 at*;have ahc:w4.heap[nb]? =ae (aK #[aI (ae ⟨d.W k,0,ah⟩)] 117 (0,1)):=by rw[Gp _ H.ne,ho3 _ ai nrn];exact ZZ
 refine fu (QG hcs Fc (by rw[ax ahc];rfl) H.ne (v7:=aq af be) (by rw[ax hW4];rfl) (aM hW4 7 ai) (by rw[ax hW4];rfl)) ?_;rintro i5 e a5 w5 ⟨rfl,rfl,O4,QJ⟩;have hW5:w5.heap[d.W k]? =ae (aK (dK k (d.turn k) d.come d.gone aw (i5-J.n) 0 Ix (aD (ae ⟨g',0,ah⟩) (n+1) cap')) tW (0,5)):=by rw[QJ];have:=aH (o:=7) hW4 (aq af 0);simpa[dK]using this
 have hs5:w5.heap.size=w3.heap.size:=by subst QJ;simpa[fF]using YU
 have CJ:∀b,b≠d.W k->w5.heap[b]? =w3.heap[b]? :=λb hb=>by subst QJ;rw[az hb,Gp b hb]
 clear QJ;have hsame:∀b,b<w.heap.size->b≠d.W k->b≠b8->ae b≠sl.ownBlock->w5.heap[b]? =w.heap[b]? :=λb h1 h2 h3 h4=>by rw[CJ b h2,ho3 b ai h4,Az b h2 h3]
 have ae9:g'≠d.W k:=by
  rcases hg3 with h|h
  .exact λe=>nrW (by rw[h,e])
  .have h:w2.heap.size<=g':=h;omega
 have zV:w5.ownsRow 0 48 9 (aD (ae ⟨g',0,ah⟩) (n+1) cap') (n+1) (cs++pF ⟨a,be,i5-J.n,Ix⟩ (aD ia a.ints.length ic) (aD pa a.pairs.length pc)):=by
  refine⟨hrow3.1,hrow3.2.imp id ?_⟩;rintro⟨x,cap,cur,e1,h3,h4,h5⟩;refine⟨x,cap,cur,e1,h3,?_,h5⟩;obtain rfl:g'=x:=by simp at e1;exact e1.1
  rw[CJ _ ae9];exact h4
 have afa:∀b,J.L.Foot w b->w5.heap[b]? =w.heap[b]? :=λb hb=>by refine hsame b (R.foot hL hb) (λe=>hWF (e▸hb)) (λe=>hF8 (e▸hb)) λe=>?_;exact(hown.blk b (Fb b e.symm).1).2.1 hb
 have pJ:=hL.rep s w w5 eI afa;have afb:=hL.gsame s w w5 eI afa;have acN:∀x,(ia=ae x\/pa=ae x)->x.block<w.heap.size/\x.block≠d.W k/\x.block≠b8/\ae x.block≠sl.ownBlock:=λx hx=>by obtain⟨h1,h2,_,o,h3,_⟩:=abc x hx;exact⟨(bF.1 h3).1,ai,h2,λe=>by have:=(hbl _ (Fb _ e.symm).1).1;omega⟩
 have MF:∀x,(ia=ae x\/pa=ae x)->w5.heap[x.block]? =w.heap[x.block]? :=λx hx=>by obtain⟨h1,h2,h3,h4⟩:=acN x hx;exact hsame _ h1 h2 h3 h4
 have afc:AnsAt w5 (aD (ae ⟨g',0,ah⟩) (n+1) cap') (((J.ar (i5-1)).w k).got++[⟨a,be,i5-J.n,Ix⟩]):=by
  subst hn;refine UE lq hrow hown.far zV (λb hb hne=>hsame b (by have:=(hbl b hb).1;omega) (hbl b hb).2 (by have:=(hbl b hb).1;omega) (λe=>hne e.symm)) ?_ ?_
  .exact hi.same λx m e h1 y hy=>by have:ia=ae x:=(by simp at h1;exact h1.1);exact dr (w:=w) (by rw[hy];exact MF x (.inl this))
  .exact hp.same λx m e h1 y hy=>by have:pa=ae x:=(by simp at h1;exact h1.1);exact dr (w:=w) (by rw[hy];exact MF x (.inr this))
 refine⟨rfl,rfl,O4,⟨ai,λb o h1 h2 h3 h4 h5=>?_,J.L.gtrans _ _ _ K.go afb⟩,J.L.gtrans _ _ _ R.go afb,i5-J.n,Ix,aD (ae ⟨g',0,ah⟩) (n+1) cap',⟨by rw[f1];exact pJ.1,hW5,?_,?_,λb f hf=>?_,?_⟩,by rw[f2],by rw[f2];simp[hn]⟩
 .obtain⟨h6,h7⟩:=K.same b o h1 h2 h3 h4;have hlt:=(bF.1 h1).1;exact⟨by rw[hsame b ai h4 ai (λe=>h5 sl (by rw[←K.sl9];exact h9) e.symm)];exact h6,λh=>h7 ((pJ.2 b).1 h)⟩
 .rw[f2];exact afc
 .rw[f2];have afd:(((J.ar (i5-1)).w k).got++[(⟨a,be,i5-J.n,Ix⟩:my)]).length=n+1:=by simp[hn]
  show Uv _ _ _ _ _ (((J.ar (i5-1)).w k).got++[(⟨a,be,i5-J.n,Ix⟩:my)]).length;rw[afd];obtain⟨afe,_,YS⟩:∃afe:Array ay,True/\w5.heap[g']? =ae (aK afe 48 (0,0)):=by
   rcases zV.2 with⟨e1,_⟩|⟨x,cap,cur,e1,_,h4,_⟩
   .cases e1
   .obtain rfl:g'=x:=(by simp at e1;exact e1.1);exact⟨cur,trivial,h4⟩
  have aff:∃x cap,sl=aD x n cap:=by obtain⟨x,cap,e,_⟩:=lq;rw[hn]at e;exact⟨x,cap,e⟩
  have abd:∀i (y:aP) m e',i<9*(n+1)->w5.cell? ⟨g',i,ah⟩=ae (aD (ae y) m e')->(∃x,sl.ownBlock=ae x/\i<9*n/\w.cell? ⟨x,i,ah⟩=ae (aD (ae y) m e'))\/ia=ae y\/pa=ae y:=λi y m e' h1 h2=>by
   subst hn;rcases Qy (l:=((J.ar (i5-1)).w k).got) aff hrow zV h1 h2 with h|h|h
   .exact .inl h
   .exact .inr (.inl (by simp at h;exact h.1))
   .exact .inr (.inr (by simp at h;exact h.1))
  have hold:∀i x (y:aP) m e',sl.ownBlock=ae x->i<9*n->w.cell? ⟨x,i,ah⟩=ae (aD (ae y) m e')->cC w sl y.block/\y.block≠x:=λi x y m e' h1 h2 h3=>by
   obtain⟨z,cap,e⟩:=aff;subst e;cases z with
   |none=>cases h1
   |some z=>
    have hz:z=⟨x,0,ah⟩:=by
     rcases hrow.2 with⟨e1,_⟩|⟨x',kN,cur,e1,_⟩
     .cases e1
     .simp at e1;obtain⟨rfl,_⟩:=e1;simp[iE]at h1;rw[h1]
    subst hz;exact⟨⟨_,_,_,rfl,.inr ⟨i,y,m,e',h2,h3,rfl⟩⟩,hown.far _ _ _ rfl i y m e' h2 h3⟩
  have acO:sl.ownBlock=ae g'\/w.heap.size<=g':=hg3.imp id λ(h:w2.heap.size<=g')=>ai;refine⟨λb hb=>?_,⟨_,by rw[hT];exact zV⟩,λx m e h1 i y m' e' hi hy=>?_⟩
  .obtain⟨x,m,e,h1,h2⟩:=hb;simp at h1;obtain⟨rfl,rfl,rfl⟩:=h1;rcases h2 with rfl|⟨i,y,m,e',h3,h4,rfl⟩
   .rcases acO with h|h
    .obtain⟨h5,h6,h7,_⟩:=hown.blk _ (Fb _ h).1;exact⟨h5,λhc=>h6 ((pJ.2 _).1 hc),h7,_,YS,bu,rfl⟩
    .refine⟨ae9,λhc=>?_,?_,_,YS,bu,rfl⟩
     .have:=R.foot hL ((pJ.2 _).1 hc);omega
     .apply eV;intro hc;have:=H.ro _ hc;omega
   .rcases abd i y m e' h3 h4 with⟨x,h5,h6,h7⟩|h5
    .obtain⟨h8,h9'⟩:=hold i x y m e' h5 h6 h7;obtain⟨q1,q2,q3,q4⟩:=hown.blk _ h8;have:=hbl _ h8;exact⟨q1,λhc=>q2 ((pJ.2 _).1 hc),q3,by rw[hsame _ ai q1 ai (λe=>by rw[h5]at e;exact h9' (bj e))];exact q4⟩
    .obtain⟨q1,q2,q3,q4⟩:=abc y h5;obtain⟨q5,q6,_,_⟩:=acN y h5;refine⟨q6,λhc=>q3 ((pJ.2 _).1 hc),?_,by rw[MF y h5];exact q4⟩;apply eV;intro hc;have:=H.ro _ hc;omega
  .simp at h1;obtain⟨rfl,rfl,rfl⟩:=h1;show y.block≠g';rcases abd i y m' e' hi hy with⟨x,h5,h6,h7⟩|h5
   .obtain⟨h8,h9'⟩:=hold i x y m' e' h5 h6 h7;rcases acO with h|h
    .rw[h]at h5;rw[bj h5];exact h9'
    .have:=(hbl _ h8).1;omega
   .obtain⟨q5,q6,_,q7⟩:=acN y h5;rcases acO with h|h
    .exact λe=>q7 (by rw[h,e])
    .omega
 .have hf':=hf;rw[H.fw]at hf';obtain⟨_,q2,q3⟩:=R.fw b f hf;refine⟨?_,λhc=>q2 ((pJ.2 _).1 hc),q3⟩;by_cases e1:b=d.W k
  .subst e1;rw[aX rfl]at hf';obtain rfl:=bj hf';exact⟨_,_,hW5⟩
  .rw[aU e1]at hf';by_cases e2:b=nb
   .subst e2;rw[aX rfl]at hf';obtain rfl:=bj hf';exact⟨_,_,by rw[hsame b ai e1 ai nrn];exact UQ⟩
   .rw[aU e2]at hf';cases hf'
 .rw[f2];exact⟨λb o p h=>by simp at h,λ_=>rfl⟩
end
section
variable{J:gS σ}{k:Nat}{w:aj}{g:Bool}
def QK(d:bp)(k:Nat):Prop:=∀pf:aB,pf.fn=74->pf.kind=.normal->pf.mode=.returning->pf.defers=[]->∀w,Goes aC aw (RK d.K0) (DS (d.Sp (k+1)) d.B) (λg w=>g.status=.running/\∃m,d.cc.Wk k 7 m 0 g w) 10 (G pf (d.cw k)) w
theorem pT.abe(H:Hand J d k nb)(T:QK d k){x:aB}(hf:x.fn=74)(hk:x.kind=.normal)(hm:x.mode=.run)(hd:x.defers=[cl 116 #[z]]):pT d k [x]:=by refine⟨10+30,λew ho w=>?_⟩;rw[H.P];exact Gn rfl ho hf hm hd (λw=>ds_dg (T {x with mode:=.returning,defers:=[]} hf hk rfl rfl w)) w
theorem CI.after{w2:aj}(h:gD J d k w0 w1)(g:CI J d k w1 w2):CI J d k w0 w2:=⟨dm h.size g.size,λb o h1 h2 h3 h4 h5=>by obtain⟨h6,h7⟩:=h.same b o h1 h2 h3 h4;exact g.same b o h6 h2 h7 h4 λsl Ip=>h5 sl (by rw[←h.sl9];exact Ip),J.L.gtrans _ _ _ h.go g.go⟩
structure Told(J:gS σ)(d:bp)(tW k nb:Nat)(t:tO)(b7:Nat)(c:bs)(w:aj):Prop where
 go:J.L.G t.a w
 turn:J.n<t
 goes:(J.ar (t-1)).goes J.c=au
 pick:(J.ar (t-1)).pick J.c=k
 now:((J.ar (t-1)).w k).now=ah
 call:(J.c.calls k)[((J.ar (t-1)).w k).got.length]? =ae c
 rep:J.L.Rep (J.ar (t-1)).s w
 box:w.heap[nb]? =ae (aK #[aI (ae ⟨d.W k,0,ah⟩)] 117 (0,1))
 wrk:∃ow sl,w.heap[d.W k]? =ae (aK (dK k (d.turn k) d.come d.gone au (t-J.n) 0 ow sl) tW (0,5))/\Own J d k t sl w
 cv:∃pv,CallV J d k w (.agg #[aq af c.kind,aq af c.a,aq af c.b,aq af c.c,pv]) c/\w.heap[b7]? =ae (aK #[aq af c.kind,aq af c.a,aq af c.b,aq af c.c,pv] 50 (0,0))
 b7:b7≠d.W k/\¬J.L.Foot w b7
theorem Told.mid{c:bs}(h:Told J d tW k nb t b7 c w):E0 J k t au (t-J.n) 0 (J.L.call k c) (J.ar (t-1)).s:=by
 refine⟨h.turn,h.goes,h.pick,?_,?_⟩
 .have:=(eX.1 h.call).1;exact this
 .unfold AW.seg;rw[h.now];simp only[h.call]
theorem QL:pcTold=.seq pcTold.l (.seq pcTold.r.l pcDone):=by simp only[pcDone,pcTold,iM,gY,dU,f74,Code.l,Code.r]
theorem MG(H:Hand J d k nb)(T:QK d k)(hL:J.L.Ok d.ro)(hm:J.c.most<=20000)(hT:J.tA=48){len q:Nat}{c:bs}{act:Act}
  (hmeth:∀(w:aj) (args:Array ay),(callMethod dv "Do" args).runT aC w #[]=(.ok (.enter AD (#[x] ++args)) w,#[]))
  (hDo:∀t w1 v,Run J d tW k t au (t-J.n) (J.L.call k c) w1->CallV J d k w1 v c->CallsM aC aw (d.cw k) (JW d (J.cP d.W) k) (λ_ _ _ _=>False) (pT d k) t AD #[x,aI (ae ⟨d.W k,0,ah⟩),v] w1 λt' v w'=>∃g' a,Run J d tW k t' g' (t-J.n) (.ret a) w'/\gD J d k w1 w'/\AB J w1.heap.size w' v a)
  (hgot:∀t,((J.ar t).w k).got.length<100000)(S:Told J d tW k nb t b7 c w)(hA:sP (d.W k) nb dv cv len q (aI (ae ⟨b7,0,ah⟩)) u8 act):
  wpM aC aw (d.cw k) (JW d (J.cP d.W) k) (λ_ _ _ _=>False) (λfs=>fs=[]) 74 pcTold (λt' e a' w'=>e=.normal/\J.n<t'/\(∃u7 u8,sP (d.W k) nb dv cv len q u7 u8 a')/\CI J d k w w'/\J.L.G t'.a w'/\
   ∃st ow sl,mS J d tW k t' st 0 ow sl ((J.ar t').w k) (J.ar t').s w'/\((J.ar t').w k).now=ah/\((J.ar t').w k).got.length=((J.ar (t-1)).w k).got.length+1) t act w:=by
 have hcs:=H.cw;obtain⟨ow,sl,hW,O⟩:=S.wrk;obtain⟨pv,hcv,h7⟩:=S.cv;have Ls:d.fw k (d.W k)=ae (0,5):=by rw[H.fw,aX rfl]
 have hWF:=(O.fw _ _ Ls).2.1;rw[QL];have hstep:∀o,w.cell? ⟨d.W k,o,ah⟩=(dK k (d.turn k) d.come d.gone au (t-J.n) 0 ow sl)[o]? :=λo=>ax hW o;refine wpM_seq (wpM_lone nL hcs aQ hA.def (Lu _ _) (λτ=>mH (MD (w:=w.tp τ) (st:=((t-J.n:Nat):Int)) hA (by rw[ba,ax S.box];rfl) H.ne (v7:=aq af 0) (v8:=aq af ow) (by rw[ba,hstep];rfl) (by rw[ba,hstep];rfl) (by rw[ba,hstep];rfl) (aM (w:=w.tp τ) hW 7 ai) (aM (w:=w.tp τ) hW 8 ai)) λa2 w' ⟨tT,e2⟩=>⟨(w.setCell ⟨d.W k,7,ah⟩ (aq af ((t-J.n:Nat):Int))).setCell ⟨d.W k,8,ah⟩ (aq af 0),⟨e2.heap,e2.os,e2.output⟩,?_⟩));simp only[bE];have hW1:=aH (o:=8) (aH (o:=7) hW (aq af ((t-J.n:Nat):Int))) (aq af 0);obtain⟨R1,K1⟩:=run_set (t:=t) (be:=t-J.n) (ow:=0) (g:=au) (w':=(w.setCell ⟨d.W k,7,ah⟩ (aq af ((t-J.n:Nat):Int))).setCell ⟨d.W k,8,ah⟩ (aq af 0)) hL S.go S.mid (by have:=S.turn;simp;omega) S.rep hWF O (by rw[hstep];rfl) (by simpa[dK]using hW1) Ls jM (λb _ hb=>by rw[az hb,az hb]);generalize (w.setCell ⟨d.W k,7,ah⟩ (aq af ((t-J.n:Nat):Int))).setCell ⟨d.W k,8,ah⟩ (aq af 0)=w1 at*;have py:d.fw k nb=ae (0,1):=by rw[H.fw,aU H.ne,aX rfl]
 have Eb:=(K1.same _ _ S.box bu (O.fw _ _ py).2.1 H.ne).1;have h71:=(K1.same _ _ h7 bu S.b7.2 S.b7.1).1;have ahd:=hcv.keep K1;cases tT;simp only[pcTold,iM,gY,dU,f74,Code.l,Code.r];refine pS ?_;have cb:=cO Eb 0;have x0:=ax h71 0;have x1:=ax h71 1;have x2:=ax h71 2;have x3:=ax h71 3;have x4:=ax h71 4;simp only[kJ,oP,nK]at x0 x1 x2 x3 x4;iterate 3
  refine Bf nL rfl rfl aQ (Lu _ _) (λτ K hK=>?_);go_simp;refine hK _ _ _ (bD _ _) ?_;clear hK K;walk_nrm
 intro b k' fs h1 h2 h3 hc;subst h3;refine ou (args:=#[aI (ae ⟨d.W k,0,ah⟩),dv,.agg #[aq af c.kind,aq af c.a,aq af c.b,aq af c.c,pv]]) (by rw[h2];simp) rfl rfl rfl func117 rfl rfl dS ?_;refine UO H hL (tW:=tW) hmeth R1 ahd (λw' R' _ ahe=>hDo t w' _ R' ahe) _ [] (pT.abe H T h1 h2 rfl rfl) λt2 v w2 ⟨g',a,R2,K2,hv⟩=>?_;rw[iB];walk_nrm;clear x0 x1 x2 x3 x4;refine kv nL (.inl h2) rfl rfl (by rw[h1];kernel_rfl) (Lu _ _) (λτ K hK=>?_);go_simp;refine hK _ _ _ (bD _ _) ?_;clear hK K;walk_nrm;obtain⟨v0,v1,v2,iv,zY,hve,hiv,Lt,hown⟩:=hv.ex;subst hve;obtain⟨ia,AE,Dk,_⟩:=id hiv;obtain⟨pa,sG,hpe,_⟩:=id Lt;subst Dk hpe;generalize hw3:w2.alloc _=w3;have hs3:w3.heap.size=w2.heap.size+1:=by subst hw3;simp
 have ho3:∀b,b<w2.heap.size->w3.heap[b]? =w2.heap[b]? :=λb hb=>by subst hw3;simp only[←dt,dz];rw[aU ai]
 have S7:w3.heap[w2.heap.size]? =ae (aK #[aq af 0,aq af 0,aq af 0,.bool aw,aq af 0,aq af 0,aq af 0,aD ah 0 0,aD ah 0 0] 48 (0,0)):=by subst hw3;simp only[←dt,dz];rw[aX trivial]
 clear hw3;have hz:∀o,w3.frozen? ⟨w2.heap.size,o,ah⟩=aw:=λo=>aM S7 o (bQ _);have e0:=ax S7 0;have e1:=ax S7 1;have e2:=ax S7 2;have e3:=ax S7 3;have e4:=ax S7 4;have e5:=ax S7 5;have e6:=ax S7 6;have e7:=ax S7 7;have e8:=ax S7 8;simp only[kJ,oP,nK]at e0 e1 e2 e3 e4 e5 e6 e7 e8;refine kv nL (.inl h2) rfl rfl (by rw[h1];kernel_rfl) (Lu _ _) (λτ K hK=>?_);go_simp;refine hK _ _ _ (bD _ _) ?_;clear hK K;walk_nrm;generalize hw4:(((((((((w3.setCell ⟨w2.heap.size,0,ah⟩ (aq af v0)).setCell ⟨w2.heap.size,1,ah⟩ (aq af v1)).setCell ⟨w2.heap.size,2,ah⟩ (aq af v2)).setCell ⟨w2.heap.size,3,ah⟩ (.bool a.ok)).setCell ⟨w2.heap.size,4,ah⟩ (aq af a.n)).setCell ⟨w2.heap.size,5,ah⟩ (aq af a.m)).setCell ⟨w2.heap.size,6,ah⟩ (aq af a.err)).setCell ⟨w2.heap.size,7,ah⟩ (aD ia a.ints.length AE)).setCell ⟨w2.heap.size,8,ah⟩ (aD pa a.pairs.length sG))=w4;have h84:w4.heap[w2.heap.size]? =ae (aK #[aq af v0,aq af v1,aq af v2,.bool a.ok,aq af a.n,aq af a.m,aq af a.err,aD ia a.ints.length AE,aD pa a.pairs.length sG] 48 (0,0)):=by have:=(aH (o:=8) (aH (o:=7) (aH (o:=6) (aH (o:=5) (aH (o:=4) (aH (o:=3) (aH (o:=2) (aH (o:=1) (aH (o:=0) S7 (aq af v0)) (aq af v1)) (aq af v2)) (.bool a.ok)) (aq af a.n)) (aq af a.m)) (aq af a.err)) (aD ia a.ints.length AE)) (aD pa a.pairs.length sG));rw[hw4]at this;simpa using this
 have YU:w4.heap.size=w2.heap.size+1:=by subst hw4;simp[fF,hs3]
 have Gp:∀b,b<w2.heap.size->w4.heap[b]? =w2.heap[b]? :=λb hb=>by subst hw4;simp only[az (show b≠w2.heap.size by omega),ho3 b hb]
 clear hw4 e0 e1 e2 e3 e4 e5 e6 e7 e8 hz S7 hs3 ho3;obtain⟨R4,K4,F4⟩:=Bg hL R1 R2 K2 (w':=w4) ai (λb hb hne=>aT (Gp b hb) hne);have hv4:=hv.same (w':=w4) (λb hb _=>Gp b hb) F4;have hsz:=K2.size;refine .pure (λ_=>bP) (hc t2 .normal _ _ ?_);show wpM _ _ _ _ _ _ _ _ _ _ _ _;obtain⟨y0,y1,y2,iv,zY,hve,hi4,Lv,zZ⟩:=hv4.ex;simp at hve;obtain⟨_,_,_,rfl,rfl⟩:=hve;refine fu (QI H hL hm hT R1 R4 K4 Eb h84 hsz (λhc=>?_) hi4 Lv (λy hy=>?_) (hgot _) (sP.mk ..)) ?_
 .have:=R2.foot hL ((F4 _).1 hc);omega
 .rcases hy with rfl|rfl
  .obtain⟨q1,q2,o,q3,q4⟩:=zZ y _ _ (.inl rfl);obtain⟨_,_,o',q5,_⟩:=hown y _ _ (.inl rfl);have:=(bF.1 q5).1;exact⟨q1,ai,q2,o,q3,q4⟩
  .obtain⟨q1,q2,o,q3,q4⟩:=zZ y _ _ (.inr rfl);obtain⟨_,_,o',q5,_⟩:=hown y _ _ (.inr rfl);have:=(bF.1 q5).1;exact⟨q1,ai,q2,o,q3,q4⟩
 .rintro i' e a' w' ⟨rfl,rfl,hA',LK,BZ,st,Ix,sl',AR,f1,f2⟩;obtain⟨s4,ow4,S6,hM4,_⟩:=R4.ex;refine⟨rfl,hM4.turn,⟨_,_,hA'⟩,.after K1 LK,BZ,st,Ix,sl',AR,f1,?_⟩;rw[f2];obtain⟨sla,a1,⟨b1,d1,f1',_⟩,_⟩:=R1.Gc;obtain⟨slb,a2,⟨b2,d2,f2',_⟩,_⟩:=R4.Gc;have e:slb=sla:=by rw[K4.sl9,a1]at a2;exact(bj a2).symm
  rw[f1',f2']at e;simp at e;rw[e.2.1]
end
section
variable{J:gS σ}{k:Nat}{w:aj}{g:Bool}
structure CK(J:gS σ)(d:bp)(k:Nat)(w:aj)(cv:ay):Prop where
 ex:∃cb co cap,(cv=aD (ae ⟨cb,co,ah⟩) (J.c.calls k).length cap\/(cv=aD ah 0 0/\J.c.calls k=[]))/\(J.c.calls k≠[]->cb≠d.W k/\¬J.L.Foot w cb/\d.ro cb≠ah/\∃o,w.heap[cb]? =ae o/\o≠eh)/\
  ∀i c,(J.c.calls k)[i]? =ae c->∃pv,w.cell? ⟨cb,co+i*5,ah⟩=ae (aq af c.kind)/\w.cell? ⟨cb,co+i*5+1,ah⟩=ae (aq af c.a)/\w.cell? ⟨cb,co+i*5+2,ah⟩=ae (aq af c.b)/\w.cell? ⟨cb,co+i*5+3,ah⟩=ae (aq af c.c)/\w.cell? ⟨cb,co+i*5+4,ah⟩=ae pv/\
   CallV J d k w (.agg #[aq af c.kind,aq af c.a,aq af c.b,aq af c.c,pv]) c/\∀y n e,pv=aD (ae y) n e->d.ro y.block≠ah
theorem CK.keep(h:CK J d k w cv)(K:CI J d k w w')(hrow:∀sl b,w.cell? ⟨d.W k,9,ah⟩=ae sl->sl.ownBlock=ae b->d.ro b=ah):CK J d k w' cv:=by
 obtain⟨cb,co,cap,h1,h2,h3⟩:=h.ex;have far:∀b,d.ro b≠ah->∀sl,w.cell? ⟨d.W k,9,ah⟩=ae sl->sl.ownBlock≠ae b:=λb hb sl Ip e=>hb (hrow sl b Ip e);refine⟨cb,co,cap,h1,λhne=>?_,λi c hc=>?_⟩
 .obtain⟨a1,a2,a3,o,a4,a5⟩:=h2 hne;obtain⟨b1,b2⟩:=K.same cb o a4 a5 a2 a1 (far cb a3);exact⟨a1,b2,a3,o,b1,a5⟩
 .obtain⟨pv,c0,c1,c2,c3,c4,hv,hro⟩:=h3 i c hc;obtain⟨a1,a2,a3,o,a4,a5⟩:=h2 (λe=>by rw[e]at hc;simp at hc);obtain⟨b1,b2⟩:=K.same cb o a4 a5 a2 a1 (far cb a3);have hcell:∀j,w'.cell? ⟨cb,j,ah⟩=w.cell? ⟨cb,j,ah⟩:=λj=>dr (w:=w) (a:=⟨cb,j,ah⟩) (by show w'.heap[cb]? =w.heap[cb]?;rw[b1,a4]);refine⟨pv,by rw[hcell];exact c0,by rw[hcell];exact c1,by rw[hcell];exact c2,by rw[hcell];exact c3,by rw[hcell];exact c4,?_,hro⟩;obtain⟨zY,e,h4,h5⟩:=hv.ex;simp at e;subst e;refine⟨pv,rfl,h4.same λx n e h6 y hy=>?_,λx n e h6=>?_⟩
  .obtain⟨q1,q2,o',q3,q4⟩:=h5 x n e h6;obtain⟨q5,q6⟩:=K.same _ _ q3 q4 q2 q1 (far _ (hro x n e h6));exact dr (w:=w) (by rw[hy,q5,q3])
  .obtain⟨q1,q2,o',q3,q4⟩:=h5 x n e h6;obtain⟨q5,q6⟩:=K.same _ _ q3 q4 q2 q1 (far _ (hro x n e h6));exact⟨q1,q6,o',q5,q4⟩
structure LoopAt(J:gS σ)(d:bp)(tW k nb q:Nat)(t:tO)(cv:ay)(w:aj):Prop where
 go:J.L.G t.a w
 rest:∃st ow sl,mS J d tW k t st 0 ow sl ((J.ar t).w k) (J.ar t).s w
 now:((J.ar t).w k).now=ah
 got:((J.ar t).w k).got.length=q
 lt:k<t
 box:w.heap[nb]? =ae (aK #[aI (ae ⟨d.W k,0,ah⟩)] 117 (0,1))
 calls:CK J d k w cv
theorem LoopAt.row{q:Nat}(h:LoopAt J d tW k nb q t cv w):∀sl b,w.cell? ⟨d.W k,9,ah⟩=ae sl->sl.ownBlock=ae b->d.ro b=ah:=λsl b h1 h2=>by
 obtain⟨st,ow,sl',A⟩:=h.rest;have e:sl'=sl:=by rw[ax A.wrk]at h1;simpa[dK]using h1
 subst e;obtain⟨cs,_,h3⟩:=A.own.row;rcases h3 with⟨e,_⟩|⟨g,cap,cur,e,_⟩
 .rw[e]at h2;cases h2
 .rw[e]at h2;obtain rfl:g=b:=by simpa[iE]using h2
  exact(A.own.blk g ⟨_,_,_,e,.inl rfl⟩).2.2.1
theorem JU{t:Nat}{c:Array ay}(hL:J.L.Ok d.ro)(eI:J.L.Rep s w)(O:Own J d k t sl w)(hfw:d.fw k (d.W k)=ae (0,5))(h9:w.cell? ⟨d.W k,9,ah⟩=ae sl)(h9':c[9]? =ae sl)(hW:w'.heap[d.W k]? =ae (aK c tW (0,5)))(hsz:w.heap.size<=w'.heap.size)(ho:∀b,b<w.heap.size->b≠d.W k->w'.heap[b]? =w.heap[b]?):Own J d k t sl w'/\J.L.Rep s w'/\gD J d k w w':=by
 have hF:=(O.fw _ _ hfw).2.1;have hlt:∀b,J.L.Foot w b->b<w.heap.size:=λb hb=>by obtain⟨⟨c,e,hc⟩,_⟩:=hL.foot s w b eI hb;exact(bF.1 hc).1
 obtain⟨Cj,fS⟩:=hL.rep s w w' eI λb hb=>ho b (hlt b hb) λe=>hF (e▸hb);have hblk:∀b,cC w sl b->w'.heap[b]? =w.heap[b]? :=λb hb=>by obtain⟨h1,_,_,o,h2,_⟩:=O.own.blk b hb;exact ho b (bF.1 h2).1 h1
 have hs:∀b,cC w' sl b↔cC w sl b:=sblocks_same λx n e h1 o=>dr (w:=w) (hblk x.block ⟨x,n,e,h1,.inl rfl⟩);refine⟨⟨gV (λx hx=>dr (w:=w) (hblk _ hx)) O.ans,⟨λb hb=>?_,tX O.own.row hblk,tV O.own.far hblk⟩,λb f hf=>?_⟩,Cj,⟨hsz,λb o h1 h2 h3 h4=>⟨by rw[ho b (bF.1 h1).1 h4];exact h1,λh=>h3 ((fS b).1 h)⟩,by rw[ax hW,h9,h9'],hL.gsame s w w' eI λb hb=>ho b (hlt b hb) λe=>hF (e▸hb)⟩⟩
 .have hb:=(hs b).1 hb;obtain⟨h1,h2,h3,h4⟩:=O.own.blk b hb;exact⟨h1,λh=>h2 ((fS b).1 h),h3,by rw[hblk b hb];exact h4⟩
 .obtain⟨⟨c,e,hc⟩,h2,h3⟩:=O.fw b f hf;refine⟨?_,λh=>h2 ((fS b).1 h),h3⟩;by_cases e1:b=d.W k
  .subst e1;rw[hfw]at hf;obtain rfl:=bj hf;exact⟨_,_,hW⟩
  .exact⟨c,e,by rw[ho b (bF.1 hc).1 e1];exact hc⟩
theorem QM:iM=.seq iM.l (.seq iM.r.l (.seq iM.r.r.l pcTold)):=by simp only[pcDone,pcTold,iM,gY,dU,f74,Code.l,Code.r]
theorem JX(H:Hand J d k nb)(T:QK d k)(hL:J.L.Ok d.ro)(hm:J.c.most<=20000)(hT:J.tA=48){len q:Nat}{act:Act}
  (hmeth:∀(w:aj) (args:Array ay),(callMethod dv "Do" args).runT aC w #[]=(.ok (.enter AD (#[x] ++args)) w,#[]))
  (hDo:∀c t w1 v,c∈J.c.calls k->Run J d tW k t au (t-J.n) (J.L.call k c) w1->CallV J d k w1 v c->CallsM aC aw (d.cw k) (JW d (J.cP d.W) k) (λ_ _ _ _=>False) (pT d k) t AD #[x,aI (ae ⟨d.W k,0,ah⟩),v] w1 λt' v w'=>∃g' a,Run J d tW k t' g' (t-J.n) (.ret a) w'/\gD J d k w1 w'/\AB J w1.heap.size w' v a)
  (hgot:∀t,((J.ar t).w k).got.length<100000)(hlen:len=(J.c.calls k).length)(hq:q<len)(CL:len<100000)(S:LoopAt J d tW k nb q t cv w)(hA:sP (d.W k) nb dv cv len q u7 u8 act):
  wpM aC aw (d.cw k) (JW d (J.cP d.W) k) (λ_ _ _ _=>False) (λfs=>fs=[]) 74 iM (λt' e a' w'=>e=.normal/\(∃u7 u8,sP (d.W k) nb dv cv len q u7 u8 a')/\LoopAt J d tW k nb (q+1) t' cv w') t act w:=by
 have hcs:=H.cw;obtain⟨st,ow,sl,AR⟩:=S.rest;obtain⟨cb,co,cap,hcv,hblk,hcell⟩:=S.calls.ex;obtain⟨c,hc⟩:∃c,(J.c.calls k)[q]? =ae c:=⟨_,eQ ai⟩;have ahf:J.c.calls k≠[]:=λe=>by rw[e]at hc;simp at hc
 have hcm:c∈J.c.calls k:=nJ hc;obtain⟨pv,x0,x1,x2,x3,x4,YV,hro⟩:=hcell q c hc;rw[←hlen]at hcv;have hcv:cv=aD (ae ⟨cb,co,ah⟩) len cap:=by
  rcases hcv with h|h
  .exact h
  .exact aT h.2 ahf
 have cb0:=cO S.box 0;obtain⟨pv0,Ec,⟨pa,sG,hpe,hpc⟩,_⟩:=id YV.ex;simp at Ec;subst Ec;subst hpe;rw[QM];cases hA;simp only[iM,gY,dU,f74,Code.l,Code.r];rw[hcv];refine wpM_seq (wpM_lone nL hcs aQ (DZ _) (Lu _ _) (λτ=>?_));go_wp2;refine px ?_;generalize iA:w.alloc _=w1;have hs1:w1.heap.size=w.heap.size+1:=by subst iA;simp
 have ho1:∀b,b<w.heap.size->w1.heap[b]? =w.heap[b]? :=λb hb=>by subst iA;simp only[←dt,dz];rw[aU ai]
 have h71:w1.heap[w.heap.size]? =ae (aK #[aq af c.kind,aq af c.a,aq af c.b,aq af c.c,aD pa c.pairs.length sG] 50 (0,0)):=by subst iA;simp only[←dt,dz];rw[aX trivial]
 clear iA;have Ls:d.fw k (d.W k)=ae (0,5):=by rw[H.fw,aX rfl]
 have py:d.fw k nb=ae (0,1):=by rw[H.fw,aU H.ne,aX rfl]
 obtain⟨jE,xa⟩:=hL.rep _ w w1 AR.rep λb hb=>by obtain⟨⟨c,e,hc⟩,_⟩:=hL.foot _ w b AR.rep hb;exact ho1 b (bF.1 hc).1
 obtain⟨A1,K1⟩:=AR.later hL Ls jE (hL.gsame _ w w1 AR.rep λb hb=>by obtain⟨⟨c,e,hc⟩,_⟩:=hL.foot _ w b AR.rep hb;exact ho1 b (bF.1 hc).1) ai λb o h1 h2 h3=>⟨by rw[ho1 b (bF.1 h1).1];exact h1,λh=>h3 ((xa b).1 h)⟩;have Eb:=(K1.same _ _ S.box bu (AR.fw _ _ py).2.1 H.ne).1;have hF7:¬J.L.Foot w1 w.heap.size:=λh=>by obtain⟨⟨c,e,hc⟩,_⟩:=hL.foot _ w _ AR.rep ((xa _).1 h);have:=(bF.1 hc).1;omega
 have Mn:=(bF.1 AR.wrk).1;have ahg:=YV.keep K1;have hCV:=S.calls;have qu:=S.row;have UR:=S.got;have hnow:=S.now;have hlt:=S.lt;clear x0 x1 x2 x3 x4 cb0 hcell hblk;have cb1:=cO Eb 0;have d3:=cO A1.wrk 3;have d0:=cO A1.wrk 0;have d4:=cO A1.wrk 4;obtain⟨jg,a1,a2,a3⟩:=xM (d.W k) d.come d.gone k;obtain⟨cz,e1,e2,th,w3m,w3d,w3f,w3⟩:=Ct (d.W k) (d.turn k) d.gone;obtain⟨sp2,sp4,sp0⟩:=H.sp;have hkw:=λw h=>H.ae5 (w:=w) h;intro b k' fs h1 h2 h3 hc';subst h3;refine .pure (λ_=>bU) (.pure (λ_=>gv) ?_);refine rg ?_;refine kv nL (.inl h2) rfl rfl (by rw[h1];kernel_rfl) (Lu _ _) (λτ K hK=>?_);go_simp;refine hK _ _ _ (bD _ _) ?_;clear hK K;walk_nrm;refine ou (args:=#[aI (ae ⟨d.W k,0,ah⟩)]) (by rw[h2];simp) rfl rfl rfl func82 rfl rfl dS ?_;refine a1 hcs d3 d0 d4 ?_;clear a1;suffices hk:∃sW:aB,(∀w,Goes aC aw (RK d.K0) (DS (d.Sp (k+1)) d.B) (λg _=>∃g₂,AtIn aC aw d.K0 (d.Sp (k+1)) d.B (d.seat k (aq af 0) (.agg #[]) (cy cz ([sW] ++d.cw k))) g g₂) 40 (G (jg.finish (.tuple #[aq af 0,.bool aw,.agg #[]])) ([_] ++d.cw k)) w)/\
   (∃n',∀w,Goes aC aw (RK d.K0) (DG (d.Sp (k+1)) d.B) (λg w=>g.status=.running/\∃m,d.cc.Wk k 7 m 0 g w) n' (G (cz.finish (.tuple #[aq af 1,.bool aw,aq af 0,.agg #[]])) ([sW] ++d.cw k)) w)/\
   (∀(t':tO) a',J.n<t'->t.t<t'.t->t'.a=a'->(J.ar (t'-1)).goes J.c=au->(J.ar (t'-1)).pick J.c=k->(J.ar (t'-1)).w k=(J.ar t).w k->mS J d tW k t st 0 ow sl ((J.ar t).w k) (J.ar (t'-1)).s a'->gD J d k w1 a'->
    ZigC aC aw (d.cw k) (JW d (J.cP d.W) k) (λ_ _ _ _=>False) t' (cz.finish (.tuple #[aq af 0,.bool au,aq af ((t'-J.n:Nat):Int),.agg #[]])) [sW] a')by
  obtain⟨sW,q1,q2,q3⟩:=hk;exact Fa H hL (cz:=cz) (dC:=[sW]) (st:=st) (be:=0) (ow:=ow) (sl:=sl) (J.L.gtrans _ _ _ S.go K1.go) A1 ⟨hlt,by rw[UR];show q< (J.c.calls k).length;omega⟩ (n:=40) (λcs w=>a2 w) q1 q2 q3
 apply Exists.intro;refine⟨?_,?_,?_⟩
 .intro w;refine a3 (n:=30) (λw=>?_);rw[iB];walk_nrm;k_c bP
  k_c bU
  k_reg
  (k_in;refine eJ rfl rfl (by rw[h2];decide) (λK hK=>?_);have hc:=(hkw _ h₁).2.2;go_simp;refine hK _ _ ⟨⟨rfl,λe he=>by(have hm:=mem_listed he;simp[go_sem, *]at hm;subst hm;exact evC_read _ sp0 H.B.2)⟩,?_⟩;clear hK K hc)
  refine goes_le (n:=20) ai ?_;simp only[bp.seat,jZ,kU];exact e1 rfl rfl (by rw[h2];decide) rfl dS (λw h=>⟨(hkw w h).1,(hkw w h).2.1⟩) sp2 sp4 H.B.1 _
 .exact Cu H.P w3m w3d w3f (λn h w=>w3 h) (fs:=[]) (pT.abe H T h1 h2 rfl rfl)
 .intro t' a' hn ht hta hgo xN pD A' K';have sN:=A'.wrk;have g5:a'.cell? ⟨d.W k,5,ah⟩=ae (.bool aw):=by rw[ax sN];rfl
  have g6:a'.cell? ⟨d.W k,6,ah⟩=ae (aq af (st:Int)):=by rw[ax sN];rfl
  refine e2 hcs g5 (aM sN 5 (bJ _)) g6 (aM sN 6 ai) ?_;rw[iB];walk_nrm;refine .pure (λ_=>bP) ?_;have hW1:=aH (o:=5) (aH (o:=6) sN (aq af ((t'-J.n:Nat):Int))) (.bool au);obtain⟨O2,uf,K2⟩:=JU (t:=t') (w:=a') (w':=(a'.setCell ⟨d.W k,6,ah⟩ (aq af ((t'-J.n:Nat):Int))).setCell ⟨d.W k,5,ah⟩ (.bool au)) (c:=dK k (d.turn k) d.come d.gone au (t'-J.n) 0 ow sl) hL A'.rep ⟨by rw[pD];exact A'.ans,by rw[pD];exact A'.own,A'.fw⟩ Ls (by rw[ax sN];rfl) rfl (by simpa[dK]using hW1) jM (λb _ hb=>by rw[az hb,az hb]);replace hW1:((a'.setCell ⟨d.W k,6,ah⟩ (aq af ((t'-J.n:Nat):Int))).setCell ⟨d.W k,5,ah⟩ (.bool au)).heap[d.W k]? =ae (aK (dK k (d.turn k) d.come d.gone au (t'-J.n) 0 ow sl) tW (0,5)):=by simpa[dK]using hW1
  generalize (a'.setCell ⟨d.W k,6,ah⟩ (aq af ((t'-J.n:Nat):Int))).setCell ⟨d.W k,5,ah⟩ (.bool au)=w2 at*;have MH:=K'.trans K2;have hS:Told J d tW k nb t' w.heap.size c w2:=⟨by rw[hta];exact K2.go,hn,hgo,xN,by rw[pD];exact hnow,by rw[pD,UR];exact hc,uf,(MH.same _ _ Eb bu (A1.fw _ _ py).2.1 H.ne).1,⟨ow,sl,hW1,O2⟩,⟨_,ahg.keep MH,(MH.same _ _ h71 bu hF7 ai).1⟩,ai,(MH.same _ _ h71 bu hF7 ai).2⟩;refine MG H T hL hm hT hmeth (λt w1 v R C=>hDo c t w1 v hcm R C) hgot hS (sP.mk ..) _ k' [] h1 h2 rfl λi' e a' w' ⟨he,DJ,hIs,LK,BZ,ER,Ix,sl',AR',f1,f2⟩=>?_;have LK0:CI J d k w w':=.after K1 (.after MH LK);refine hc' i' e a' w' ⟨he,hIs,BZ,⟨ER,Ix,sl',AR'⟩,f1,by rw[f2,pD,UR],by have:=H.n;omega,(LK0.same _ _ S.box bu (AR.fw _ _ py).2.1 H.ne λsl' Ip e=>?_).1,by rw[←hlen];first|exact hCV.keep LK0 qu|(rw[hcv]at hCV;exact hCV.keep LK0 qu)⟩;have e0:sl=sl':=by rw[ax AR.wrk]at Ip;simpa[dK]using Ip
  subst e0;obtain⟨cs,_,h3⟩:=AR.own.row;rcases h3 with⟨e',_⟩|⟨x,cap,cur,e',_,h4,_⟩
  .rw[e']at e;cases e
  .rw[e']at e;obtain rfl:x=nb:=(by simpa[iE]using e);rw[S.box]at h4;simp at h4
end
theorem QN{P:bh}{todo:List Item}{c:aB}{cs:List aB}{K0:aj->Prop}{n:Nat}(hn:b.kind=.deferred)(hd:a.defers=[])(hf:P.funcs[b.fn]? =ae fn)(hr:fn.results=#[])(hc:c.mode=.returning)
  (h:∀w,Goes P aw (RK K0) (DS S B) Q n (G c cs) w){w:aj}:Goes P aw (RK K0) (DS S B) Q (n+1) (G {b.at a todo with mode:=.returning} (c::cs)) w:=by
 refine cn rfl (λw₁ _=>?_);have e:=Cq (P:=P) (main:=aw) (b:=b) (a:=a) (todo:=todo) (c:=c) (cs:=cs) (w:=w₁) hn hd hf (results_none hr _ _ _) (events_results_none hr _ _) hc;rw[show bn P aw (G {b.at a todo with mode:=.returning} (c::cs)) w₁=_ from e];simp only[cG];exact⟨ds_none _,h _⟩
section
variable{J:gS σ}{k:Nat}{w:aj}{g:Bool}
theorem JY(H:Hand J d k nb)(T:QK d k)(hL:J.L.Ok d.ro){len q:Nat}{todo:List Item}(hbf:b.fn=74)(Jc:b.kind=.normal)(hq:J.len k<=q)(S:LoopAt J d tW k nb q t cv w)(hA:sP (d.W k) nb dv cv len q u7 u8 a):
  ZigC aC aw (d.cw k) (JW d (J.cP d.W) k) (λ_ _ _ _=>False) t {b.at a todo with mode:=.returning} [] w:=by
 have hcs:=H.cw;obtain⟨st,ow,sl,AR⟩:=S.rest;have Ls:d.fw k (d.W k)=ae (0,5):=by rw[H.fw,aX rfl]
 have py:d.fw k nb=ae (0,1):=by rw[H.fw,aU H.ne,aX rfl]
 cases hA;refine xK (ds:=[]) rfl rfl func116 rfl rfl ?_;generalize hpf:({({b.at _ todo with mode:=.returning}:aB)with defers:=[]}:aB)=pf;obtain⟨p1,p2,p3,p4⟩:pf.fn=74/\pf.kind=.normal/\pf.mode=.returning/\pf.defers=[]:=by subst hpf;exact⟨hbf,Jc,rfl,rfl⟩
 clear hpf;simp only[f116];walk_nrm;refine .pure (λ_=>bU) (.pure (λ_=>bU) (.pure (λ_=>gv) ?_));refine rg ?_;refine vB rfl rfl rfl rfl p3 ?_;walk_nrm;refine kv (nH _) (.inr rfl) rfl rfl aQ (Lq _ _) (λτ K hK=>?_);go_simp;rw[UN];go_simp;refine hK _ _ _ (bD _ _) ?_;clear hK K;walk_nrm;iterate 6
  refine QD ?_
 refine .pure (λ_=>bP) ?_;generalize iA:w.alloc _=w1;have hs1:w1.heap.size=w.heap.size+1:=by subst iA;simp
 have ho1:∀b,b<w.heap.size->w1.heap[b]? =w.heap[b]? :=λb hb=>by subst iA;simp only[←dt,dz];rw[aU ai]
 clear iA;obtain⟨jE,xa⟩:=hL.rep _ w w1 AR.rep λb hb=>by obtain⟨⟨c,e,hc⟩,_⟩:=hL.foot _ w b AR.rep hb;exact ho1 b (bF.1 hc).1
 obtain⟨A1,K1⟩:=AR.later hL Ls jE (hL.gsame _ w w1 AR.rep λb hb=>by obtain⟨⟨c,e,hc⟩,_⟩:=hL.foot _ w b AR.rep hb;exact ho1 b (bF.1 hc).1) ai λb o h1 h2 h3=>⟨by rw[ho1 b (bF.1 h1).1];exact h1,λh=>h3 ((xa b).1 h)⟩;have Eb:=(K1.same _ _ S.box bu (AR.fw _ _ py).2.1 H.ne).1;have cb1:=cO Eb 0;have c10:=cO A1.wrk 10;have z10:=aM A1.wrk 10 ai;refine .pure (λ_=>bU) (.pure (λ_=>gv) ?_);refine rg ?_;refine QD ?_;refine .pure (λ_=>bP) ?_;refine .pure (λ_=>stepG_cond (t:=aw) rfl) ?_;refine .pure (λ_=>stepG_skip) ?_;refine .pure (λ_=>bU) (.pure (λ_=>gv) ?_);refine rg ?_;iterate 4
  refine QD ?_
 refine .pure (λ_=>bP) ?_;have hW2:=aH (o:=10) A1.wrk (.bool au);obtain⟨O2,uf,K2⟩:=JU (t:=t+1) (w:=w1) (w':=w1.setCell ⟨d.W k,10,ah⟩ (.bool au)) hL A1.rep ⟨A1.ans,A1.own,A1.fw⟩ Ls (by rw[ax A1.wrk];rfl) (by simp[dK]) hW2 jM (λb _ hb=>by rw[az hb]);generalize w1.setCell ⟨d.W k,10,ah⟩ (.bool au)=w2 at*;have ZZ:=(K2.same _ _ Eb bu (A1.fw _ _ py).2.1 H.ne).1;have cb2:=cO ZZ 0;have d3:w2.cell? ⟨d.W k,3,ah⟩=ae (.chan (ae d.come)):=by rw[ax hW2];simp[dK]
 have d0:w2.cell? ⟨d.W k,0,ah⟩=ae (aq af k):=by rw[ax hW2];simp[dK]
 have d4:w2.cell? ⟨d.W k,4,ah⟩=ae (.chan (ae d.gone)):=by rw[ax hW2];simp[dK]
 clear cb1 c10 z10;refine .pure (λ_=>bU) (.pure (λ_=>bU) (.pure (λ_=>bU) (.pure (λ_=>gv) ?_)));iterate 2
  refine rg ?_;refine QD ?_;refine QD ?_;refine QD ?_;refine QD ?_;refine .pure (λ_=>bP) (.pure (λ_=>gv) ?_)
 refine rg ?_;iterate 4
  refine QD ?_
 refine .pure (λ_=>bP) (.pure (λ_=>bU) (.pure (λ_=>gv) ?_));refine rg ?_;have hnow:=S.now;have hgot:=S.got;have hP:=H.P;refine .jump (K:=λ_ _ _ _=>False) ⟨Qs (J.L.gtrans _ _ _ S.go (J.L.gtrans _ _ _ K1.go K2.go)) (be:=0) (ow:=ow) (sl:=sl) uf hW2 O2 Ls (by simp[dK]) (by simp[dK]) (by simp[dK]) ?_ ⟨λb o p h=>(by rw[hnow]at h;cases h),λ_=>rfl⟩,.inr ⟨λh=>?_,?_,rfl⟩⟩ λ_ _ _ _ h=>h.elim
 .have:decide (k<t/\J.len k<=((J.ar t).w k).got.length)=au:=by simp[S.lt,hgot,hq]
  rw[this];simp[dK]
 .have h:k<t/\((J.ar t).w k).got.length<J.len k:=h;omega
 .refine UC H.ok (num:=aq af k) (z0:=aq af 0) (z2:=.agg #[]) (n:=40) (λcs w=>?_) λw=>?_
  .rw[hP];refine(stepG_comm rfl rfl aN (w':=w) (cases:=#[scase d.come (aq af k) (aq af 0),dh d.gone (.agg #[])]) (blocking:=au) (shape:=.select) (by simp[go_sem,bT,dh,scase,cS])).trans ?_;rw[listed_none (by simp[go_sem,bT,cS])];rfl
  .rw[hP,iB];walk_nrm
   (k_in;refine eJ rfl rfl aN (λK hK=>?_);go_simp;refine hK _ _ ⟨⟨rfl,uS⟩,?_⟩;clear hK K)
   (k_in;refine eJ rfl rfl aN (λK hK=>?_);go_simp;refine hK _ _ ⟨⟨rfl,uS⟩,?_⟩;clear hK K)
   (k_in;refine eJ rfl rfl aN (λK hK=>?_);go_simp;refine hK _ _ ⟨⟨rfl,uS⟩,?_⟩;clear hK K)
   k_c bP
   k_c stepG_block
   (k_in;rw[stepG_cond (t:=au) rfl];simp only[cG,if_true];refine⟨ds_none _,?_⟩)
   k_c stepG_skip
   k_c stepG_inBlock
   k_c stepG_end
   refine goes_le (n:=11) ai ?_;exact QN rfl rfl func116 rfl p3 (T pf p1 p2 p3 p4)
end
section
variable{J:gS σ}{k:Nat}{w:aj}{g:Bool}
theorem QO:gY=.seq gY.l (.seq (.cond (.tmp 13) .skip (.exit 0)) (.seq (.block 1 iM) gY.r.r.r)):=by simp only[iM,gY,dU,f74,Code.l,Code.r]
theorem Gr:dU=.seq dU.l (.seq dU.r.l (.block 0 (.loop gY))):=by simp only[iM,gY,dU,f74,Code.l,Code.r]
theorem QP(H:Hand J d k nb)(T:QK d k)(hL:J.L.Ok d.ro)(hm:J.c.most<=20000)(hT:J.tA=48)
  (hmeth:∀(w:aj) (args:Array ay),(callMethod dv "Do" args).runT aC w #[]=(.ok (.enter AD (#[x] ++args)) w,#[]))
  (hDo:∀c t w1 v,c∈J.c.calls k->Run J d tW k t au (t-J.n) (J.L.call k c) w1->CallV J d k w1 v c->CallsM aC aw (d.cw k) (JW d (J.cP d.W) k) (λ_ _ _ _=>False) (pT d k) t AD #[x,aI (ae ⟨d.W k,0,ah⟩),v] w1 λt' v w'=>∃g' a,Run J d tW k t' g' (t-J.n) (.ret a) w'/\gD J d k w1 w'/\AB J w1.heap.size w' v a)
  (hgot:∀t,((J.ar t).w k).got.length<100000)(CL:J.len k<100000)(S:LoopAt J d tW k nb 0 t cv w):
  ZigC aC aw (d.cw k) (JW d (J.cP d.W) k) (λ_ _ _ _=>False) t (uO nb (d.W k) dv cv) [] w:=by
 have hcs:=H.cw;obtain⟨cb,co,cap,hcv,_,_⟩:=S.calls.ex;obtain⟨len,hlen,x0,hcv⟩:∃len,len=(J.c.calls k).length/\∃x0,cv=aD x0 len cap\/cv=aD ah len 0:=by
  rcases hcv with h|⟨h,h'⟩
  .exact⟨_,rfl,_,.inl h⟩
  .exact⟨0,by rw[h'];rfl,ah,.inr h⟩
 have Lr:J.len k=len:=hlen.symm;obtain⟨cap',x0',hcv⟩:∃cap' x0',cv=aD x0' len cap':=by rcases hcv with h|h<;>exact⟨_,_,h⟩
 have loop:∀a u7 u8,sP (d.W k) nb dv cv len 0 u7 u8 a->wpM aC aw (d.cw k) (JW d (J.cP d.W) k) (λ_ _ _ _=>False) (λfs=>fs=[]) 74 (.block 0 (.loop gY)) (λt' e a' w'=>e=.normal/\(∃u7 u8,sP (d.W k) nb dv cv len len u7 u8 a')/\LoopAt J d tW k nb len t' cv w') t a w:=by
  intro a u7 u8 hA;clear hcv;have Gs:=aA hlen;clear hlen;refine cE (iV (λn t a w=>∃q u7 u8,n=len-q/\q<=len/\sP (d.W k) nb dv cv len q u7 u8 a/\LoopAt J d tW k nb q t cv w) (n:=len) ⟨0,_,_,rfl,ai,hA,S⟩ ?_);rintro n t a w ⟨q,u7,u8,rfl,hq,hA,S⟩;rw[QO];by_cases hlt:q<len
  .have hd:decide ((q:Int) < (len:Int))=au:=dp;have hwr:IntKind.i64.wrap ((q:Int) +1)=((q+1:Nat):Int):=(by rw[gq];omega);cases hA;simp only[dU,f74,Code.l,Code.r,gY];refine wpM_seq (wpM_lone nL hcs aQ (DZ _) (Lu _ _) (λτ=>?_));go_wp2;refine px ?_;refine wpM_seq (bz (t:=au) dS (eY ?_));try simp only[bE]
   refine wpM_seq (cE (fu (JX H T hL hm hT hmeth hDo hgot Gs.out hlt ai S (sP.mk ..)) ?_));rintro t' e a' w' ⟨rfl,⟨u7,u8,hA'⟩,S'⟩;simp only[gu,bE];cases hA';refine wpM_lone nL hcs aQ (DZ _) (Lu _ _) (λτ=>?_);go_wp2;exact⟨_,bD _ _,len- (q+1),ai,q+1,rfl,ai,⟨_,_,sP.mk ..⟩,S'⟩
  .have Gm:q=len:=ai;rw[Gm]at hA S;have hd:¬(len<len):=Nat.lt_irrefl _;clear Gm hlt hq;cases hA;simp only[dU,f74,Code.l,Code.r,gY];refine wpM_seq (wpM_lone nL hcs aQ (DZ _) (Lu _ _) (λτ=>?_));go_wp2;refine px ?_;refine wpM_seq (bz (t:=aw) dS (iU ?_));simp only[bE,gu,if_true];exact⟨trivial,⟨_,_,sP.mk ..⟩,S⟩
 unfold uO;rw[Gr];refine .pure (λ_=>bU) ?_;simp only[dU,f74,Code.l,Code.r,Cv];walk_nrm;refine .pure (λ_=>gv) ?_;refine rg ?_;refine z0l ?_;refine .pure (λ_=>xJ (g:=116) (cap:=#[aI (ae ⟨nb,0,ah⟩)]) rfl rfl aN rfl dS) ?_;walk_nrm;refine .pure (λ_=>bP) (.pure (λ_=>bU) ?_);have abf:∀a u7 u8,sP (d.W k) nb dv cv len 0 u7 u8 a->ZigC aC aw (d.cw k) (JW d (J.cP d.W) k) (λ_ _ _ _=>False) t ((Conc.base 74).at a [.code (.block 0 (.loop gY))]) [] w:=λa u7 u8 hA=>loop a u7 u8 hA (Conc.base 74) [] [] rfl rfl rfl λi' e a' w' ⟨he,⟨_,_,hIs⟩,hS⟩=>by subst he;exact JH (JY H T hL rfl rfl (by rw[Lr];exact bJ _) hS hIs)
 clear loop;have afg:=aA abf;clear abf hlen Lr;refine rk nL hcs rfl aQ (DZ _) (Lu _ _) (λτ=>?_);subst hcv;go_wp2;exact⟨_,bD _ _,afg.out _ _ _ (sP.mk ..)⟩
end
end
section
open Go Go.Conc Go.RowKit
def Z0(l:List Nat)(last v:Int):Prop:=(v= -1/\∀j,j<l.length->(l.getD j 0:Int)<=last)\/∃i:Nat,v=i/\i<l.length/\last< (l.getD i 0:Int)/\∀j,j<i->(l.getD j 0:Int)<=last
theorem Ed(fb bx ob lc:Nat)(l:List Nat)(last:Int)(w:aj)(hl:∀i,i<l.length->w.cell? ⟨fb,i,ah⟩=ae (aq af (l.getD i 0:Nat)))(hx:w.cell? ⟨bx,0,ah⟩=ae (aI (ae ⟨ob,0,ah⟩)))(ho:w.cell? ⟨ob,1,ah⟩=ae (aq af last))(hn:l.length<1000):
  b9 aC 78 #[aD (ae ⟨fb,0,ah⟩) l.length lc,.func (.func 149) #[] #[aI (ae ⟨bx,0,ah⟩)]] w λe w'=>∃v,e=.returned (aq af v)/\w'=w/\Z0 l last v:=by
 have Hl:=aA hl;clear hl;have hlen:∀n,l.length=n->n<1000:=λn h=>h▸hn;go_enter func78,ntmps78
 go_wp2;go_loopw [8] (λiv wr=>∃k:Nat,k<=l.length/\iv=aq af k/\wr=w/\∀j,j<k->(l.getD j 0:Int)<=last) (λi _=>l.length- (intOf i).toNat)
 case atStart=>exact⟨0,bQ _,rfl,rfl,λj hj=>aT hj (fR _)⟩
 case round=>
  obtain⟨k,hk,rfl,rfl,hno⟩:=hrel;have Hno:=aA hno;clear hno;have hwr:IntKind.i64.wrap ((k:Int) +1)=(k:Int) +1:=by rw[gq];omega
  by_cases hlt:k<l.length
  .have f1:=Hl.out k hlt;by_cases h2:last< (l.getD k 0:Int)
   .have BF:decide (last< ((l.getD k 0:Nat):Int))=au:=rW;generalize hv:l.getD k 0=v at*;have Hv:=aA hv;clear hv;go_wp2;go_ret
    exact⟨_,rfl,rfl,.inr ⟨k,rfl,hlt,by rw[Hv.out];exact h2,Hno.out⟩⟩
   .have BF:decide (last< ((l.getD k 0:Nat):Int))=aw:=rW;have H2:=aA h2;clear h2;generalize hv:l.getD k 0=v at*;go_wp2;refine⟨⟨k+1,ai,aJ,trivial,λj hj=>?_⟩,by simp[intOf];omega⟩;by_cases e:j=k
    .subst e;rw[hv];simpa using BF
    .exact Hno.out j ai
  .have hkl:k=l.length:=ai;have h3:¬((k:Int) < (l.length:Int)):=ai;go_wp2;go_ret
   exact⟨_,rfl,rfl,.inl ⟨rfl,λj hj=>Hno.out j ai⟩⟩
def readyL(r:Nat->Bool)(k:Nat):List Nat:=(dx k).filter r
theorem Aa(r:Nat->Bool)(k:Nat):readyL r (k+1)=readyL r k++if r k then [k]else []:=by unfold readyL;rw[tD,List.filter_append];cases h:r k<;>simp[h]
theorem yU(r:Nat->Bool)(k:Nat):(readyL r k).length<=k:=by unfold readyL;exact dm (List.length_filter_le _ _) aJ
structure wO(w wr:aj)(ob g k:Nat)(r:Nat->Bool):Prop where
 size:w.heap.size+2<=wr.heap.size
 old:∀b,b<w.heap.size->wr.heap[b]? =w.heap[b]?
 box:wr.heap[w.heap.size]? =ae (aK #[aI (ae ⟨ob,0,ah⟩)] 217 (0,0))
 few:∃c,wr.heap[w.heap.size+1]? =ae (aK c 88 (0,0))/\c.size=8/\∀i,i< (readyL r k).length->c[i]? =ae (aq af ((readyL r k).getD i 0:Nat))
 os:wr.os=w.os
 output:wr.output=w.output
theorem Gt:(prog.info? 3).map (λi=>(i.zero,i.size,i.bytes))=ae (ae (aq af 0),1,8):=aQ
theorem info_parts'{t:bq}{s b:Nat}(h:(prog.info? t).map (λi=>(i.zero,i.size,i.bytes))=ae (ae z,s,b)):∃i,prog.info? t=ae i/\i.zero=ae z/\i.size=s/\i.bytes=b:=by
 revert h;cases hi:prog.info? t with
 |none=>intro h;cases h
 |some i=>intro h;simp only[nC,dD,Prod.mk.injEq]at h;exact⟨i,rfl,h.1,h.2.1,h.2.2⟩
theorem MI(w:aj)(ob g:Nat)(r:Nat->Bool):wO w ((w.alloc (aK #[aI (ae ⟨ob,0,ah⟩)] 217)).alloc (aK #[aq af 0,aq af 0,aq af 0,aq af 0,aq af 0,aq af 0,aq af 0,aq af 0] 88)) ob g 0 r:=by
 refine⟨aJ,λb hb=>?_,?_,⟨#[aq af 0,aq af 0,aq af 0,aq af 0,aq af 0,aq af 0,aq af 0,aq af 0],?_,rfl,λi hi=>by simp[readyL]at hi⟩,rfl,rfl⟩ <;>simp only[←dt,dz,fN]
 .rw[aU ai,aU ai]
 .rw[aU ai,aX trivial]
 .rw[aX trivial]
theorem Z1{w:aj}{g k:Nat}{r:Nat->Bool}(R:wO w wr ob g k r)(h:r k=aw):wO w wr ob g (k+1) r/\readyL r (k+1)=readyL r k:=by
 have e:readyL r (k+1)=readyL r k:=by rw[Aa,h];simp
 obtain⟨h1,h2,h3,h4,h5,h6⟩:=R;rw[←e]at h4;exact⟨⟨h1,h2,h3,h4,h5,h6⟩,e⟩
theorem UT{w:aj}{g k:Nat}{r:Nat->Bool}(R:wO w wr ob g k r)(h:r k=au)(hk:k<8){t:bq}:wO w ((wr.setCell ⟨w.heap.size+1,(readyL r k).length,ah⟩ (aq af (k:Int))).alloc (aK #[aq af (k:Int)] t)) ob g (k+1) r/\(readyL r (k+1)).length=(readyL r k).length+1:=by
 have e:readyL r (k+1)=readyL r k++[k]:=by rw[Aa,h];simp
 have hle:=yU r k;obtain⟨h1,h2,h3,⟨c,h4,hc,h7⟩,h5,h6⟩:=R;have UU:=(bF.1 h4).1;generalize iA:wr.setCell ⟨w.heap.size+1,(readyL r k).length,ah⟩ (aq af (k:Int))=w1;have hs1:w1.heap.size=wr.heap.size:=by subst iA;simp[fF]
 have g4:w1.heap[w.heap.size+1]? =ae (aK (c.setIfInBounds (readyL r k).length (aq af (k:Int))) 88 (0,0)):=by subst iA;exact aH h4 _
 have g2:∀b,b≠w.heap.size+1->w1.heap[b]? =wr.heap[b]? :=λb hb=>by subst iA;exact az hb _
 have g5:w1.os=wr.os/\w1.output=wr.output:=by subst iA;exact⟨rfl,rfl⟩
 clear iA;have ha:∀b,b<w1.heap.size->(w1.alloc (aK #[aq af (k:Int)] t)).heap[b]? =w1.heap[b]? :=λb hb=>by simp only[←dt,dz];rw[aU ai]
 refine⟨⟨dp,λb hb=>?_,?_,⟨c.setIfInBounds (readyL r k).length (aq af (k:Int)),?_,by simp[hc],λi hi=>?_⟩,g5.1.trans h5,g5.2.trans h6⟩,oM⟩
 .rw[ha _ ai,g2 _ ai];exact h2 b hb
 .rw[ha _ ai,g2 _ ai];exact h3
 .rw[ha _ ai];exact g4
 .rw[e]at hi⊢;simp at hi;rw[EH];by_cases e2:(readyL r k).length=i
  .rw[aX e2,aX ai];subst e2;simp[eF]
  .rw[aU e2,h7 i ai];rw[eF,eF,lz ai]
theorem MJ{last:Int}(h:∀j,j<L.length->(L.getD j 0:Int)<=last):rU [] last L=L.getD 0 0:=by
 have:L.find? (λ(k:Nat)=>decide (last< (k:Int)))=ah:=by rw[List.find?_eq_none];intro x hx;obtain⟨j,hj,rfl⟩:=List.getElem_of_mem hx;have:=h j hj;rw[eF,eQ hj]at this;simp only[cN]at this;simp;omega
 unfold rU;simp only[this];cases L<;>rfl
theorem MK{last:Int}(UW:ix<L.length)(h1:last< (L.getD ix 0:Int))(h:∀j,j<ix->(L.getD j 0:Int)<=last):rU [] last L=L.getD ix 0:=by
 have:L.find? (λ(k:Nat)=>decide (last< (k:Int)))=ae (L.getD ix 0):=by rw[List.find?_eq_some_iff_getElem];refine⟨nG,ix,UW,by rw[eF,eQ UW];rfl,λj hj=>?_⟩;have:=h j hj;rw[eF,eQ ai]at this;simp only[cN]at this;simp;omega
 unfold rU;simp only[this];rfl
structure OrderAt(w:aj)(lo ob:Nat)(left:List Int)(last:Int):Prop where
 ex:∃la lc,w.heap[ob]? =ae (aK #[aD la left.length lc,aq af last] 247 (0,0))/\left.length<=lc/\∀i,i<left.length->∃tb to,la=ae ⟨tb,to,ah⟩/\(lo<=tb/\tb<ob)/\w.cell? ⟨tb,to+i,ah⟩=ae (aq af (left.getD i 0))
theorem xP{w F:aj}{g k:Nat}{r:Nat->Bool}{left:List Int}{last:Int}(R:wO w wr ob g k r)(JZ:ob<w.heap.size)(hs:F.heap.size=wr.heap.size)(ho:∀b,b≠ob->F.heap[b]? =wr.heap[b]?)(Lk:F.heap[ob]? =ae (aK #[aD la left.length lc,aq af last] 247 (0,0)))(os:F.os=wr.os)(out:F.output=wr.output)
  (hl:left.length<=lc/\∀i,i<left.length->∃tb to,la=ae ⟨tb,to,ah⟩/\(lo<=tb/\tb<ob)/\w.cell? ⟨tb,to+i,ah⟩=ae (aq af (left.getD i 0))):
  OrderAt F lo ob left last/\w.heap.size<=F.heap.size/\(∀b,b<w.heap.size->b≠ob->F.heap[b]? =w.heap[b]?)/\F.os=w.os/\F.output=w.output:=by
 have old:∀b,b<w.heap.size->b≠ob->F.heap[b]? =w.heap[b]? :=λb h1 h2=>by rw[ho b h2,R.old b h1]
 refine⟨⟨la,lc,Lk,hl.1,λi hi=>?_⟩,by have:=R.size;omega,old,os.trans R.os,out.trans R.output⟩;obtain⟨tb,to,e,h1,h2⟩:=hl.2 i hi;refine⟨tb,to,e,h1,?_⟩;have hb:=ez w _ h2;rw[←h2];exact dr (w:=w) (old tb hb (Nat.ne_of_lt h1.2))
theorem pick_any(lo ob g n gc:Nat)(left:List Int)(last:Int)(r:Nat->Bool)(w:aj)(hn:n<=8)(O:OrderAt w lo ob left last)(UX:0< (readyL r n).length)(hg:∀i,i<n->w.cell? ⟨g,i,ah⟩=ae (.bool (r i))):
  b9 aC 120 #[aI (ae ⟨ob,0,ah⟩),aD (ae ⟨g,0,ah⟩) n gc] w λe w'=>e=.returned (aq af (rU left last (readyL r n):Nat))/\OrderAt w' lo ob left.tail (rU left last (readyL r n):Nat)/\w.heap.size<=w'.heap.size/\(∀b,b<w.heap.size->b≠ob->w'.heap[b]? =w.heap[b]?)/\w'.os=w.os/\w'.output=w.output:=by
 have Hg:=aA hg;clear hg;obtain⟨la,lc,Lk,abg⟩:=O.ex;clear O;have ahh:=aA Lk;clear Lk;have abh:=aA abg;clear abg;go_enter func120,ntmps120
 go_wp2;go_loopw [15,6] (λiv lv wr=>∃k:Nat,k<=n/\iv=aq af k/\lv=aD (ae ⟨w.heap.size+1,0,ah⟩) (readyL r k).length 8/\wO w wr ob g k r) (λi _ _=>n- (intOf i).toNat)
 case atStart=>exact⟨0,bQ _,rfl,rfl,MI ..⟩
 case round=>
  obtain⟨k,hk,rfl,rfl,R⟩:=hrel;by_cases hlt:k<n
  .obtain⟨ii,O5,O6,O7,O8⟩:=info_parts' Gt;have f1:wr.cell? ⟨g,k,ah⟩=ae (.bool (r k)):=(by have h:=Hg.out k hlt;have hb:=ez w _ h;rw[←h];exact dr (w:=w) (R.old _ hb));have hwr:IntKind.i64.wrap ((k:Int) +1)=(k:Int) +1:=(by rw[gq];omega);have hle:=yU r k;have HR:=aA R;clear R;cases Cr:r k
   .rw[Cr]at f1;go_wp2;obtain⟨R',e⟩:=Z1 HR.out Cr;refine⟨⟨k+1,ai,aJ,by rw[e],R'⟩,by simp[intOf];omega⟩
   .rw[Cr]at f1;obtain⟨c,h4,hc,_⟩:=HR.out.few;obtain⟨v0,f2⟩:∃v0,wr.cell? ⟨w.heap.size+1,(readyL r k).length,ah⟩=ae v0:=⟨_,by rw[ax h4,fP ai]⟩;have z2:wr.frozen? ⟨w.heap.size+1,(readyL r k).length,ah⟩=aw:=aM h4 _ (bQ _);have DC:=(bF.1 h4).1;have hm8:(readyL r k).length+1<=8:=ai;clear h4 hc;go_wp2;obtain⟨R',e⟩:=UT HR.out Cr (t:=3) ai;refine⟨⟨k+1,ai,aJ,by rw[e],R'⟩,by simp[intOf];omega⟩
  .have UI:k=n:=ai;subst UI;have h3:¬((k:Int) < (k:Int)):=ai;have hle:=yU r k;obtain⟨c,h4,hc,h7⟩:=R.few;have hcell:∀i,i< (readyL r k).length->wr.cell? ⟨w.heap.size+1,i,ah⟩=ae (aq af ((readyL r k).getD i 0:Nat)):=λi hi=>(by rw[ax h4];exact h7 i hi);have Lk:=ahh.out;have ML:=Lk;have JZ:=(bF.1 Lk).1;rw[←R.old ob JZ]at ML;have q0:wr.cell? ⟨ob,0,ah⟩=ae (aD la left.length lc):=(by rw[ax ML];rfl);have q1:wr.cell? ⟨ob,1,ah⟩=ae (aq af last):=(by rw[ax ML];rfl);have z0:=aM ML 0 (bQ _);have z1:=aM ML 1 (bQ _);have qb:=cO R.box 0;have HR:=aA R;have O9:=aA hcell;have Z2:=aA ML;clear R hcell ML h4 hc h7;have hL:0< (readyL r k).length:=UX;generalize hLl:readyL r k=L at*;have HLl:=aA hLl;clear hLl Lk;cases left with
   |nil=>
    simp only[gK]at q0;go_wp2_with (go_at_call 78;refine(Ed (w.heap.size+1) w.heap.size ob 8 L last wr O9.out qb q1 ai).mono ?_;rintro e w' ⟨v,rfl,rfl,hv⟩)
    rcases hv with⟨rfl,hno⟩|⟨ix,rfl,UW,ZH,hno⟩
    .have q5:=O9.out 0 hL;have hap:=MJ hno;generalize hl0:L.getD 0 0=l0 at*;have QQ:=aA hap;clear hap hno;refine bt.start (λw'=>w'.cell? ⟨w.heap.size,0,ah⟩=ae (aI (ae ⟨ob,0,ah⟩))/\w'.cell? ⟨w.heap.size+1,0,ah⟩=ae (aq af (l0:Int))) [8] aQ ?_ (λaF=>?_)
     .exact JQ
     refine bt.tt 0 aF ?_;refine bt.tv 1 aF ?_;refine bt.tv 2 aF ?_;refine bt.tv 3 aF ?_;refine bt.tv 4 aF ?_;refine bt.tt 5 aF ?_;refine bt.tv 6 aF ?_;refine bt.tv 7 aF ?_;refine bt.to 8 (λK hK=>?_);go_simp;refine hK.out _ _ (λhF=>aT hF aN) (λ_=>?_);clear hK K;try refine pt ?_
     refine bt.done aQ ?_ _;go_wp2;go_ret
     refine⟨by rw[HLl.out,QQ.out];rfl,xP HR.out JZ jM (λb hb=>az hb _) (la:=la) (lc:=lc) ?_ rfl rfl ⟨aJ,λi hi=>by simp at hi⟩⟩;have:=aH (o:=1) Z2.out (aq af (l0:Int));rw[HLl.out,QQ.out];simp only[List.tail_nil,gK];simp at this;exact this
    .have q5:=O9.out ix UW;have aiT:((ix:Int) <0)=False:=aJ;have aiU:((ix:Int) < (L.length:Int))=True:=(by simpa using UW);have hap:=MK UW ZH hno;generalize hl0:L.getD ix 0=l0 at*;have QQ:=aA hap;clear hap hno ZH;refine bt.start (λw'=>w'.cell? ⟨w.heap.size,0,ah⟩=ae (aI (ae ⟨ob,0,ah⟩))/\w'.cell? ⟨w.heap.size+1,ix,ah⟩=ae (aq af (l0:Int))) [8] aQ ?_ (λaF=>?_)
     .exact JQ
     refine bt.tt 0 aF ?_;refine bt.tv 1 aF ?_;refine bt.tv 2 aF ?_;refine bt.tv 3 aF ?_;refine bt.tv 4 aF ?_;refine bt.tt 5 aF ?_;refine bt.tv 6 aF ?_;refine bt.tv 7 aF ?_;refine bt.to 8 (λK hK=>?_);go_simp;refine hK.out _ _ (λhF=>aT hF aN) (λ_=>?_);clear hK K;try refine pt ?_
     refine bt.done aQ ?_ _;go_wp2;go_ret
     refine⟨by rw[HLl.out,QQ.out];rfl,xP HR.out JZ jM (λb hb=>az hb _) (la:=la) (lc:=lc) ?_ rfl rfl ⟨aJ,λi hi=>by simp at hi⟩⟩;have:=aH (o:=1) Z2.out (aq af (l0:Int));rw[HLl.out,QQ.out];simp only[List.tail_nil,gK];simp at this;exact this
   |cons t0 rest=>
    obtain⟨hlc,Lx⟩:=abh.out;obtain⟨tb,to,rfl,htb,ht0⟩:=Lx 0 aJ;simp only[fO]at q0 hlc;have aiV:wr.cell? ⟨tb,to,ah⟩=ae (aq af t0):=(by have hb:=ez w _ ht0;have:=dr (w:=w) (a:=⟨tb,to+0,ah⟩) (HR.out.old tb hb);rw[ht0]at this;simpa using this);have hm1:((L.length:Nat):Int)≠0:=ai;have zL:((rest.length+1:Nat):Int) >0:=ai;clear ht0 Lx;go_wp2;have hab:(t0.tmod (L.length:Int)).natAbs<L.length:=(by rw[Int.natAbs_tmod];exact Nat.mod_lt _ hL);obtain⟨ix,UW,ahi⟩:∃ix:Nat,(t0.tmod (L.length:Int) +(L.length:Int)).tmod (L.length:Int)=(ix:Int)/\ix<L.length:=(by have h4:=Int.emod_lt_of_pos (t0.tmod (L.length:Int) +(L.length:Int)) (b:=(L.length:Int)) ai;have h5:=Int.emod_nonneg (t0.tmod (L.length:Int) +(L.length:Int)) (b:=(L.length:Int)) ai;refine⟨((t0.tmod (L.length:Int) +(L.length:Int)).tmod (L.length:Int)).toNat,?_,?_⟩ <;>rw[Int.tmod_eq_emod_of_nonneg ai] <;>omega);have hwr:IntKind.i64.wrap (t0.tmod (L.length:Int) +(L.length:Int))=t0.tmod (L.length:Int) +(L.length:Int):=(by rw[gq];omega);have hap:rU (t0::rest) last L=L.getD ix 0:=(by unfold rU;simp only[UW,Int.toNat_natCast]);have q5:=O9.out ix ahi;generalize hl0:L.getD ix 0=l0 at*;have QQ:=aA hap;clear hap;have aiW:L≠[]:=(by intro e;rw[e]at hL;simp at hL);have qw:(1<=(rest.length:Int) +1)=True:=dp;by_cases afh:lc=1
    .subst afh;have vY:rest=[]:=yH.1 ai;subst vY;simp only[gK,eB]at q0;simp only[gK,eB];refine bt.start (λw'=>w'.cell? ⟨w.heap.size,0,ah⟩=ae (aI (ae ⟨ob,0,ah⟩))/\w'.cell? ⟨ob,0,ah⟩=ae (aD (ae ⟨tb,to,ah⟩) 1 1)) [8] aQ ?_ (λaF=>?_)
     .exact JQ
     refine bt.tt 0 aF ?_;refine bt.tt 1 aF ?_;refine bt.tv 2 aF ?_;refine bt.tv 3 aF ?_;refine bt.tt 4 aF ?_;refine bt.tv 5 aF ?_;refine bt.tv 6 aF ?_;refine bt.tv 7 aF ?_;refine bt.to 8 (λK hK=>?_);go_simp;refine hK.out _ _ (λhF=>aT hF aN) (λ_=>?_);clear hK K;try refine pt ?_
     refine bt.done aQ ?_ _;go_wp2;refine bt.start (λw'=>w'.cell? ⟨w.heap.size,0,ah⟩=ae (aI (ae ⟨ob,0,ah⟩))/\w'.cell? ⟨w.heap.size+1,ix,ah⟩=ae (aq af (l0:Int))) [11] aQ ?_ (λaF=>?_)
     .exact JQ
     refine bt.tt 0 aF ?_;refine bt.tv 1 aF ?_;refine bt.tv 2 aF ?_;refine bt.tv 3 aF ?_;refine bt.tv 4 aF ?_;refine bt.tv 5 aF ?_;refine bt.tv 6 aF ?_;refine bt.tv 7 aF ?_;refine bt.tt 8 aF ?_;refine bt.tv 9 aF ?_;refine bt.tv 10 aF ?_;refine bt.to 11 (λK hK=>?_);go_simp;refine hK.out _ _ (λhF=>aT hF aN) (λ_=>?_);clear hK K;try refine pt ?_
     refine bt.done aQ ?_ _;go_wp2;go_ret
     refine⟨by rw[HLl.out,QQ.out];rfl,xP (la:=ae ⟨tb,to,ah⟩) (lc:=0) HR.out JZ jM (λb hb=>(az (w:=wr.setCell ⟨ob,0,ah⟩ (aD (ae ⟨tb,to,ah⟩) 0 0)) hb _).trans (az hb _)) ?_ rfl rfl ⟨aJ,λi hi=>?_⟩⟩
     .have:=aH (o:=1) (aH (o:=0) Z2.out (aD (ae ⟨tb,to,ah⟩) 0 0)) (aq af (l0:Int));rw[HLl.out,QQ.out];simp only[List.tail_cons];simp at this;exact this
     .simp at hi
    .have aiX:(lc=1)=False:=(by simpa using afh);refine bt.start (λw'=>w'.cell? ⟨w.heap.size,0,ah⟩=ae (aI (ae ⟨ob,0,ah⟩))/\w'.cell? ⟨ob,0,ah⟩=ae (aD (ae ⟨tb,to,ah⟩) (rest.length+1) lc)) [8] aQ ?_ (λaF=>?_)
     .exact JQ
     refine bt.tt 0 aF ?_;refine bt.tt 1 aF ?_;refine bt.tv 2 aF ?_;refine bt.tv 3 aF ?_;refine bt.tt 4 aF ?_;refine bt.tv 5 aF ?_;refine bt.tv 6 aF ?_;refine bt.tv 7 aF ?_;refine bt.to 8 (λK hK=>?_);go_simp;refine hK.out _ _ (λhF=>aT hF aN) (λ_=>?_);clear hK K;try refine pt ?_
     refine bt.done aQ ?_ _;go_wp2;refine bt.start (λw'=>w'.cell? ⟨w.heap.size,0,ah⟩=ae (aI (ae ⟨ob,0,ah⟩))/\w'.cell? ⟨w.heap.size+1,ix,ah⟩=ae (aq af (l0:Int))) [11] aQ ?_ (λaF=>?_)
     .exact JQ
     refine bt.tt 0 aF ?_;refine bt.tv 1 aF ?_;refine bt.tv 2 aF ?_;refine bt.tv 3 aF ?_;refine bt.tv 4 aF ?_;refine bt.tv 5 aF ?_;refine bt.tv 6 aF ?_;refine bt.tv 7 aF ?_;refine bt.tt 8 aF ?_;refine bt.tv 9 aF ?_;refine bt.tv 10 aF ?_;refine bt.to 11 (λK hK=>?_);go_simp;refine hK.out _ _ (λhF=>aT hF aN) (λ_=>?_);clear hK K;try refine pt ?_
     refine bt.done aQ ?_ _;go_wp2;go_ret
     refine⟨by rw[HLl.out,QQ.out];rfl,xP (la:=ae ⟨tb,to+1,ah⟩) (lc:=lc-1) HR.out JZ jM (λb hb=>(az (w:=wr.setCell ⟨ob,0,ah⟩ (aD (ae ⟨tb,to+1,ah⟩) rest.length (lc-1))) hb _).trans (az hb _)) ?_ rfl rfl ⟨dp,λi hi=>?_⟩⟩
     .have:=aH (o:=1) (aH (o:=0) Z2.out (aD (ae ⟨tb,to+1,ah⟩) rest.length (lc-1))) (aq af (l0:Int));rw[HLl.out,QQ.out];simp only[List.tail_cons];simp at this;exact this
     .simp only[List.tail_cons]at hi⊢;obtain⟨tb',to',e1,e2,e3⟩:=abh.out.2 (i+1) dp;simp at e1;obtain⟨rfl,rfl⟩:=e1;refine⟨tb,to+1,rfl,e2,?_⟩;rw[show to+1+i=to+(i+1)by omega,e3];simp
end
section
open Go Go.Conc Go.ConcN
def _root_.Go.World.td(w:aj)(τ:Nat->iz->Nat)(k:Nat):aj:={w with tape:=τ,drawn:=k}
theorem fy(w:aj)(τ:Nat->iz->Nat)(k:Nat)(x:aP):(w.td τ k).cell? x=w.cell? x:=rfl
theorem dI(w:aj)(τ:Nat->iz->Nat)(k:Nat)(x:aP):(w.td τ k).frozen? x=w.frozen? x:=rfl
theorem fA(w:aj)(τ:Nat->iz->Nat)(k:Nat):(w.td τ k).heap=w.heap:=rfl
def Calm(P:bh)(S:bN)(o:aZ)(a:Act)(w:aj)(v:ay):Prop:=
 (∀τ k,(bT a.eval o).run P (w.td τ k)=.ok (.value v) (w.td τ k))\/
 ∃f args,(∀w1,(bT a.eval o).runT P w1 #[]=(.ok (.enter f args) w1,#[]))/\yB P S f args/\∀τ k,b9 P f args (w.td τ k) λe w2=>e=.returned v/\w.td τ k=w2
def uP(N n:Nat):Array Bool:=(dx N).toArray.map λi=>decide (i<n)
theorem CM{listed:Array Bool}{n:Nat}(hs:listed.size=N)(h1:∀i,i<n->i<N->listed.getD i aw=au)(h2:∀i,n<=i->i<N->listed.getD i aw=aw):listed=uP N n:=by
 apply Array.ext
 .simp[uP,hs]
 .intro i hi hj;have hiN:i<N:=ai;have e:listed[i]=listed.getD i aw:=by rw[dO,fP hi];rfl
  rw[e];simp only[uP,Array.getElem_map,List.getElem_toArray,List.getElem_range];by_cases h:i<n
  .rw[h1 i h hiN];simp[h]
  .rw[h2 i ai hiN];simp[h]
theorem UY{ops:Array aZ}:∀(g k t:Nat) (listed:Array Bool),Region.seqB .any ops g k listed=au->Region.linearise.go .any ops g t listed []=List.range' k g:=by
 intro g;induction g with
 |zero=>intro k t listed _;simp[Region.linearise.go]
 |succ g ih=>
  intro k t listed h;simp only[Region.seqB,cR,decide_eq_true_eq]at h;simp only[Region.linearise.go];change (match(ki .any ops listed)[t % (ki .any ops listed).length]? with
   |some i=>Region.linearise.go .any ops g (t / (ki .any ops listed).length) (listed.setIfInBounds i au) [i]
   |none=>[].reverse)=_
  rw[h.1];simp only[List.length_singleton,Nat.mod_one,oP];rw[linearise_go_acc,ih (k+1) _ _ h.2];rfl
structure Script(P:bh)(S:bN)(fn:FuncId)(ops:Array aZ)(n:Nat)(ds:Nat->Nat)(vs:Nat->ay)(a:Act)(w:aj):Prop where
 size:n<ops.size
 edge:∀(i:Nat) (o:aZ),ops[i]? =ae o->∀e∈o.after,fq .any e=au->e.on<i
 dst:∀(i:Nat) (o:aZ),i<n->ops[i]? =ae o->o.dst=ae (ds i)
 inj:∀i j,i<n->j<n->ds i=ds j->i=j
 lt:∀i,i<n->ds i<a.tmps.size
 want:∀(i:Nat) (o:aZ),i<n->ops[i]? =ae o->o.guard=ah
 ok:∀(i:Nat) (o:aZ),i<n->ops[i]? =ae o->iu P S fn o=au
 ft:∀t,S.ft fn t=aw
 run:∀(i:Nat) (o:aZ) (a':Act),i<n->ops[i]? =ae o->(∀e∈o.after,fq .any e=au->a'.tmps.getD (ds e.on) aO=vs e.on)->(∀s,(∀j,j<n->s≠ds j)->a'.tmps.getD s aO=a.tmps.getD s aO)->Calm P S o a' w (vs i)
 chain:∀(t:Nat) (o:aZ),n<t->ops[t]? =ae o->∃e∈o.after,fq .any e=au/\e.on=t-1
 seq:Region.seqB .any ops (ops.size-n) n (uP ops.size n)=au
 last:∀listed:Array Bool,(∀(i:Nat) (o:aZ),i<n->ops[i]? =ae o->listed.getD i aw=au->∀e∈o.after,fq .any e=au->listed.getD e.on aw=au)->(∀o:aZ,ops[n]? =ae o->∀e∈o.after,fq .any e=au->listed.getD e.on aw=au)->∀i,i<n->listed.getD i aw=au
def Script.tmps(n:Nat)(ds:Nat->Nat)(vs:Nat->ay)(t:Array ay):Array ay:=(dx n).foldl (λt i=>t.setIfInBounds (ds i) (vs i)) t
theorem ug(n:Nat)(ds:Nat->Nat)(vs:Nat->ay)(t:Array ay):(Script.tmps n ds vs t).size=t.size:=by
 unfold Script.tmps;induction n with
 |zero=>rfl
 |succ n ih=>rw[tD,List.foldl_append];simp[ih]
theorem wP{n:Nat}{t:Array ay}{s:Nat}(h:∀j,j<n->s≠ds j):(Script.tmps n ds vs t)[s]? =t[s]? :=by
 unfold Script.tmps;induction n with
 |zero=>rfl
 |succ n ih=>rw[tD,List.foldl_append];simp only[qX,List.foldl_nil];rw[gG (bZ (h n ai))];exact ih λj hj=>h j ai
theorem yV{n:Nat}{t:Array ay}(hi:i<n)(inj:∀i j,i<n->j<n->ds i=ds j->i=j)(hlt:ds i<t.size):(Script.tmps n ds vs t)[ds i]? =ae (vs i):=by
 have hsz:=ug n ds vs t;induction n with
 |zero=>omega
 |succ n ih=>
  have e:Script.tmps (n+1) ds vs t=(Script.tmps n ds vs t).setIfInBounds (ds n) (vs n):=by unfold Script.tmps;rw[tD,List.foldl_append];rfl
  rw[e];by_cases h:i=n
  .subst h;rw[iw (by rw[ug];exact hlt)]
  .rw[gG (λe=>h (inj i n hi ai e.symm))];exact ih ai (λi j h1 h2=>inj i j ai ai) (ug _ _ _ _)
section
variable{P:bh}{S:bN}{main:Bool}{cs:List aB}{J:fM ι}{Stop:ι->aB->List aB->aj->Prop}{ops:Array aZ}{n id:Nat}{w:aj}
theorem yX{l:Array Bool}{n:Nat}(hs:l.size=n)(hi:i<n)(h:l.getD i aw=au):l.getD i au=au:=by rw[dO]at*;rw[fP ai]at*;simpa using h
theorem Bl{l:Array Bool}:∀{n i:Nat},i<n->l.getD i au=aw->0<DD n l:=by
 intro n;induction n with
 |zero=>intro i hi;omega
 |succ n ih=>
  intro i hi h;show 0<DD n l+(if l.getD n au then 0 else 1);by_cases e:i=n
  .subst e;simp[h]
  .have:=ih (i:=i) ai h;omega
theorem CN(st:Stat P S){ops:Array aZ}{rest:List Nat}{o:aZ}{w:aj}(hk:b.kind=.normal)(ho:ops[i]? =ae o)(hg:o.guard=ah)(hok:iu P S b.fn o=au)(xt:∀t,S.ft b.fn t=aw)(hq:Calm P S o a w v)
  (h:ZigC P main cs J Stop xQ (b.at (a.put o.dst v) (bI ops rest::k)) fs w):ZigC P main cs J Stop xQ (b.at a (bI ops (i::rest)::k)) fs w:=by
 rcases hq with hq|⟨f,args,qx,j4,hcall⟩
 .refine .walk (co_op st.rows st.bodies st.leafs (.inl hk) ho (by simp[dF,hg]) hok (λt ht=>by rw[xt]at ht;cases ht) λτ=>?_);exact⟨v,bM w τ,.inl (hq τ w.drawn),.stop (h.alike (show Alike w (bM w τ)from⟨rfl,rfl,rfl⟩))⟩
 .refine .pure (cB:=gL P f args .normal) (dg:=b.at a (bI ops (i::rest)::k)::fs) (λw1=>?_) ?_
  .have qI:((b.at a (bI ops (i::rest)::k)).kind==gA)=aw:=(by show(b.kind==gA)=aw;rw[hk];rfl);have:=(stepG_oper (P:=P) (main:=main) (b:=b) (a:=a) (k:=k) (cs:=fs++cs) (w:=w1) (rest:=rest) ho (by simp[dF,hg])).trans (tq (fr:=b.at a (bI ops (i::rest)::k)) (cs:=fs++cs) rfl qI (qx w1));rw[show seen P (b.at a (bI ops (i::rest)::k)).fn #[] ++ #[]=#[]from by simp[seen]]at this;exact this
  .refine .walk (OE (Post:=λv' w2=>v'=v/\Alike w w2) st.rows st.bodies st.leafs st.plain j4 (λv w2 τ ⟨h1,h2⟩=>⟨h1,h2.trans ⟨rfl,rfl,rfl⟩⟩) (λτ=>(hcall τ w.drawn).mono λe w2 ⟨e1,e2⟩=>⟨_,e1,rfl,by subst e2;exact⟨rfl,rfl,rfl⟩⟩) ?_);rintro v' w2 ⟨rfl,h2⟩;rw[iB,ho];exact .stop (h.alike h2)
theorem J5{ops:Array aZ}(cH:ops.size=N)(hedge:∀(i:Nat) (o:aZ),ops[i]? =ae o->∀e∈o.after,fq .any e=au->e.on<i)(Inv:Array Bool->ι->Act->aj->Prop)(Done:Array Bool->Prop)
  (hstep:∀listed xQ a w i rest,listed.size=N->Inv listed xQ a w->¬Done listed->i∈ki .any ops listed->(∀xR a' w',Inv (DF listed i) xR a' w'->ZigC P main cs J Stop xR (b.at a' (bI ops rest::k)) fs w')->ZigC P main cs J Stop xQ (b.at a (bI ops (i::rest)::k)) fs w)
  (hend:∀m t listed xQ a w,listed.size=N->DD N listed=m->Done listed->Inv listed xQ a w->ZigC P main cs J Stop xQ (b.at a (bI ops (Region.linearise.go .any ops m t listed [])::k)) fs w)(hall:∀listed:Array Bool,listed.size=N->DD N listed=0->Done listed):
  ∀(m t:Nat) (listed:Array Bool) (xQ:ι) (a:Act) (w:aj),listed.size=N->DD N listed=m->Inv listed xQ a w->ZigC P main cs J Stop xQ (b.at a (bI ops (Region.linearise.go .any ops m t listed [])::k)) fs w:=by
 intro m;induction m with
 |zero=>exact λt listed xQ a w hn hu hI=>hend 0 t listed xQ a w hn hu (hall listed hn hu) hI
 |succ m ih=>
  intro t listed xQ a w hn hu hI;by_cases hD:Done listed
  .exact hend (m+1) t listed xQ a w hn hu hD hI
  simp only[Region.linearise.go];change ZigC P main cs J Stop xQ (b.at a (bI ops (match(ki .any ops listed)[t % (ki .any ops listed).length]? with
   |some i=>Region.linearise.go .any ops m (t / (ki .any ops listed).length) (listed.setIfInBounds i au) [i]
   |none=>[].reverse)::k)) fs w
  cases hi:(ki .any ops listed)[t % (ki .any ops listed).length]? with
  |none=>exfalso;obtain⟨x,hx⟩:=zN cH hn hedge ai;have lJ:0< (ki .any ops listed).length:=List.length_pos_of_mem hx;have:=Nat.mod_lt t lJ;rw[List.getElem?_eq_none_iff]at hi;omega
  |some i=>simp only[];have L4:=nJ hi;have hli:=(mem_ready.1 L4).1;have hu':DD N (DF listed i)=m:=(by have:=OH hn hli;show DD N (listed.setIfInBounds i au)=m;omega);rw[linearise_go_acc,List.reverse_singleton,List.singleton_append];exact hstep listed xQ a w i _ hn hI hD L4 λxR a' w' hI'=>ih _ _ xR a' w' (by simp[hn]) hu' hI'
theorem Pa{l:Array Bool}{n:Nat}(hn:n<=N)(h1:∀i,i<n->l.getD i au=au)(h2:∀i,n<=i->i<N->l.getD i au=aw):DD N l=N-n:=by
 unfold DD;induction N with
 |zero=>simp[cZ]
 |succ N ih=>
  rcases ji N n with h|h
  .obtain rfl:n=N+1:=ai;have:cZ (N+1) (λi=>if l.getD i au then 0 else 1)=cZ (N+1) λ_=>0:=sumTo_congr λi hi=>(by simp[h1 i hi]);rw[this];have z:∀n,cZ n (λ_=>0)=0:=λn=>by induction n with
    |zero=>rfl
    |succ n ih=>simp[cZ,ih]
   rw[z];omega
  .have hN:=h2 N h ai;have:=ih h λi h3 h4=>h2 i h3 ai;simp only[cZ,this,hN];simp;omega
theorem Ab(st:Stat P S)(hk:b.kind=.normal)(hm:P.follows .mixedOrders=au)(C:Script P S b.fn ops n ds vs a w)
  (h:ZigC P main cs J Stop xQ (b.at ⟨Script.tmps n ds vs a.tmps,a.defers⟩ (bI ops (List.range' n (ops.size-n))::k)) fs w):ZigC P main cs J Stop xQ (b.at a (.code (.region id ops au)::k)) fs w:=by
 refine .walk (OG hm λt=>.stop ?_);have hsize:=C.size;refine J5 rfl C.edge (λlisted xR a' w'=>xR=xQ/\Alike w w'/\a'.defers=a.defers/\a'.tmps.size=a.tmps.size/\(∀i,i<n->listed.getD i aw=au->a'.tmps.getD (ds i) aO=vs i)/\(∀s,(∀j,j<n->s≠ds j)->a'.tmps.getD s aO=a.tmps.getD s aO)/\
   (∀(i:Nat) (o:aZ),i<n->ops[i]? =ae o->listed.getD i aw=au->∀e∈o.after,fq .any e=au->listed.getD e.on aw=au)/\((∃i,i<n/\listed.getD i aw=aw)->∀t,n<=t->t<ops.size->listed.getD t aw=aw)/\((∀i,i<n->listed.getD i aw=au)->∀t,n<=t->t<ops.size->listed.getD t aw=aw))
  (λlisted=>∀i,i<n->listed.getD i aw=au) ?_ ?_ ?_ ops.size t _ xQ a _ aJ (B9 _) ⟨rfl,⟨rfl,rfl,rfl⟩,rfl,rfl,λi hi h=>?_,λ_ _=>rfl,λi o hi ho h=>?_,λ_ t _ _=>?_,λ_ t _ _=>?_⟩
 .rintro listed ι1 a' w' i rest hsz ⟨rfl,qL,hd,YW,h1,h2,h3,h4,_⟩ Ll hr hnext;obtain⟨mO,o,ho,eR⟩:=mem_ready.1 hr;have j4:i<ops.size:=(bF.1 ho).1;obtain⟨i0,xb,hl0⟩:∃i,i<n/\listed.getD i aw=aw:=by
   apply eV;intro hc;refine Ll λi hi=>?_;cases e:listed.getD i aw with
   |true=>rfl
   |false=>exact aT ⟨i,hi,e⟩ hc
  have h4:=h4 ⟨i0,xb,hl0⟩;have hi:i<n:=by
   rcases ji i n with h|h
   .exact h
   .exfalso;rcases ji n i with h'|h'
    .obtain⟨e,he,hb,DY⟩:=C.chain i o h' ho;have:=eR e he hb;rw[DY,h4 (i-1) ai ai]at this;cases this
    .obtain rfl:i=n:=ai;have:=C.last listed h3 (λo' xe e he hb=>by rw[ho]at xe;obtain rfl:=bj xe;exact eR e he hb) i0 xb;rw[hl0]at this;cases this
  have QR:=C.dst i o hi ho;have hq:=C.run i o a' hi ho (λe he hb=>h1 _ (by have:=C.edge i o ho e he hb;omega) (eR e he hb)) h2;have hq:Calm P S o a' w' (vs i):=by
   rcases hq with hq|⟨f,args,qx,j4,hcall⟩
   .refine .inl λτ k=>?_;have:=hq τ k;have e:w.td τ k=w'.td τ k:=yF qL.heap.symm rfl rfl qL.os.symm qL.output.symm;rwa [e]at this
   .refine .inr ⟨f,args,qx,j4,λτ k=>?_⟩;have:=hcall τ k;have e:w.td τ k=w'.td τ k:=yF qL.heap.symm rfl rfl qL.os.symm qL.output.symm;rwa [e]at this
  refine CN st hk ho (C.want i o hi ho) (C.ok i o hi ho) C.ft hq ?_;rw[QR];have hne:∀x,x≠i->(DF listed i).getD x aw=listed.getD x aw:=λx hx=>by rw[dO,dO,show(DF listed i)[x]? =listed[x]? from gG (bZ hx)]
  have hse:(DF listed i).getD i aw=au:=by rw[dO];simp[DF,hsz,j4]
  refine hnext _ _ _ ⟨rfl,qL,hd,by simp[Act.put,YW],λx hx hl=>?_,λs hs=>?_,λx ox hx YX hl e he hb=>?_,λ_ t h5 h6=>by rw[hne t ai];exact h4 t h5 h6,λ_ t h5 h6=>by rw[hne t ai];exact h4 t h5 h6⟩
  .by_cases e:x=i
   .subst e;show(a'.tmps.setIfInBounds (ds x) (vs x)).getD _ _=_;have:=C.lt x hx;rw[dO,iw ai];rfl
   .rw[hne x e]at hl;show(a'.tmps.setIfInBounds (ds i) (vs i)).getD _ _=_;rw[dO,gG (λe'=>e (C.inj x i hx hi e'.symm)),←dO];exact h1 x hx hl
  .show(a'.tmps.setIfInBounds (ds i) (vs i)).getD _ _=_;rw[dO,gG (bZ (hs i hi)),←dO];exact h2 s hs
  .by_cases e1:x=i
   .subst e1;rw[ho]at YX;obtain rfl:=bj YX;rw[hne _ (Nat.ne_of_lt (C.edge x o ho e he hb))];exact eR e he hb
   .rw[hne x e1]at hl;have:=h3 x ox hx YX hl e he hb;by_cases e2:e.on=i
    .rw[e2];exact hse
    .rw[hne _ e2];exact this
 .rintro m t listed ι1 a' w' hsz hu hall ⟨rfl,qL,hd,YW,h1,h2,h3,_,h5⟩;have h5:=h5 hall;have vx:m=ops.size-n:=by rw[←hu];refine Pa ai (λi hi=>yX hsz ai (hall i hi)) λi h6 h7=>?_;have h8:=h5 i h6 h7;rw[dO,fP ai]at h8⊢;exact h8
  have hseq:=C.seq;rw[←CM (n:=n) hsz (λi hi _=>hall i hi) h5]at hseq;rw[vx,UY _ _ _ _ hseq];have ha:a'=⟨Script.tmps n ds vs a.tmps,a.defers⟩:=by
   obtain⟨t',d'⟩:=a';simp only at hd YW h1 h2;subst hd;congr 1;apply Array.ext_getElem?;intro s;by_cases hs:∃j,j<n/\s=ds j
   .obtain⟨j,hj,rfl⟩:=hs;rw[yV hj C.inj (C.lt j hj)];have:=h1 j hj (hall j hj);rw[dO]at this;have hlt:=C.lt j hj;rw[fP ai]at this⊢;simpa using this
   .have hs':∀j,j<n->s≠ds j:=λj hj e=>hs ⟨j,hj,e⟩;rw[wP hs'];have:=h2 s hs';rw[dO,dO]at this;rcases ji s t'.size with hlt|CO
    .rw[fP hlt,fP ai]at this⊢;simpa using this
    .rw[np CO,np ai]
  rw[ha];exact h.alike qL
 .intro listed hsz hu i hi;apply eV;intro hc;have:listed.getD i au=aw:=by have hl:i<listed.size:=ai;rw[dO,fP hl]at hc⊢;simpa using hc
  have:=Bl (n:=ops.size) ai this;omega
 .exfalso;rw[dO]at h;simp[rO]at h;split at h<;>simp at h
 .exfalso;rw[dO]at h;simp[rO]at h;split at h<;>simp at h
 .rw[dO];simp[rO];split<;>simp
 .rw[dO];simp[rO];split<;>simp
end
end
section
open Go Go.Conc Go.ConcN Go.RowKit Go.Conc.Lib Go.ConcR.Gen Go.ConcN.Gen
open Go.ConcR (KK wgBlock WgAt stA smA rd wr mk Payload Aside2 DC0)
variable[fQ]{L:WgLink}
section
variable{C Low:Nat}{Rd:Nat->Loc->Prop}{Fin:aY->aj->Prop}{b₀:aB}{a₀:Act}{i₀:Nat}{cs:List aB}{mT:Nat}
omit[Payload]in
theorem ahj{P:bh}(H:WgLib P L)(hF2:∀w w',Aside2 C Wg w w'->F w->F w')
  (hT:∀w,F w->dG L.tWg Wg w->Goes P au (RC L.tWg Wg C) (DP Wg Dz Rd j Low) Fin mT (G (b₀.at (a₀.put ((ops₀[i₀]?).bind (·.dst)) (.tuple #[])) (bI ops₀ rest₀::k₀)) cs) w)
    (ho:ops₀[i₀]? =ae Uh) (Ui:dF Uh (dW ops₀ a₀.tmps)=au) (Uj:b₀.kind≠.early) (hop:Uh.op=.call {callee:=.value (.func L.add),args:=xs,argTypes:=ats})
  (hxs:xs.map a₀.eval=#[aI (ae ⟨Wg,0,ah⟩),aq af 1])(w:aj)(hF:F w/\dG L.tWg Wg w):
  Goes P au (RC L.tWg Wg C) (DP Wg Dz Rd j Low) (OL P L.tWg Wg C Rd Low j Fin) 60 (G (b₀.at a₀ (bI ops₀ (i₀::rest₀)::k₀)) cs) w:=by
 lib_facts
 u_in (bg hF2) hF
 refine goes_call ho Ui Uj hop H.f_add (nm_add L) rfl ⟨by u_nil,?_⟩;rw[hxs]
 walk_nrmf addFn
 repeat(first|u_c bU (bg hF2) hF|u_reg (bg hF2) hF|u_c bP (bg hF2) hF|u_c stepG_skip (bg hF2) hF|u_c stepG_ret' (bg hF2) hF|u_cond aw (bg hF2) hF|u_cond au (bg hF2) hF|u_bub (bg hF2) hF|u_op (bg hF2) hF|u_skip (bg hF2) hF|u_defer (bg hF2) hF|u_leave1 H.f_uAdd (bg hF2) hF)
 refine gM (λw₁ h₁=>?_);replace hF:=bg hF2 hF h₁;clear h₁;refine⟨rfl,_,stepG_mark0 .disable aJ rfl rfl (by k_ne) rfl H.f_disable (x_disable_n L) (x_disable_b L) (x_disable_x L) (x_disable_f L),60,?_⟩;walk_nrm;repeat(first|u_c bU (bg hF2) hF|u_reg (bg hF2) hF|u_c bP (bg hF2) hF|u_c stepG_skip (bg hF2) hF|u_c stepG_ret' (bg hF2) hF|u_cond aw (bg hF2) hF|u_cond au (bg hF2) hF|u_bub (bg hF2) hF|u_op (bg hF2) hF|u_skip (bg hF2) hF|u_defer (bg hF2) hF|u_leave1 H.f_uAdd (bg hF2) hF)
 u_call H.f_uAdd (nm_uAdd L) uAddFn (bg hF2) hF
 repeat(first|u_c bU (bg hF2) hF|u_reg (bg hF2) hF|u_c bP (bg hF2) hF|u_c stepG_skip (bg hF2) hF|u_c stepG_ret' (bg hF2) hF|u_cond aw (bg hF2) hF|u_cond au (bg hF2) hF|u_bub (bg hF2) hF|u_op (bg hF2) hF|u_skip (bg hF2) hF|u_defer (bg hF2) hF|u_leave1 H.f_uAdd (bg hF2) hF)
 refine gM (λw₂ h₂=>?_);replace hF:=bg hF2 hF h₂;clear h₂;refine⟨rfl,λv hv hw=>?_⟩;rcases mr v with rfl|hvp
 .replace hw:WgAt L.tWg Wg w₂ 0 0:=by simpa using hw
  have z:(((0:Nat):Int) +1) *KK=KK:=aJ;rw[z];have e0:IntKind.u64.wrap (0+4294967296)=KK:=aN;refine⟨_,(stepG_add_atomic rfl rfl (by k_ne) rfl H.f_addU64 (x_addU64_n L) (x_addU64_b L) (x_addU64_x L) .u64 (x_addU64_f L) rfl rfl hw.cellSt (hw.thaw 0)).trans (by rw[e0];rfl),140,?_⟩;replace hF:F (w₂.setCell (stA Wg) (.int .u64 KK))/\dG L.tWg Wg (w₂.setCell (stA Wg) (.int .u64 KK)):=⟨hF2 _ _ (.of_Wg (aside_setCell w₂ (stA Wg) _)) hF.1,⟨_,_,hw.setSt _⟩⟩;clear hw;simp only[KK]at hF⊢;walk_nrm;repeat(first|u_c bU (bg hF2) hF|u_reg (bg hF2) hF|u_c bP (bg hF2) hF|u_c stepG_skip (bg hF2) hF|u_c stepG_ret' (bg hF2) hF|u_cond aw (bg hF2) hF|u_cond au (bg hF2) hF|u_bub (bg hF2) hF|u_op (bg hF2) hF|u_skip (bg hF2) hF|u_defer (bg hF2) hF|u_leave1 H.f_uAdd (bg hF2) hF)
  u_conv H.underlying_tPU32 H.room_tU32 (WgLive.cell1 hF.2).choose_spec (bg hF2) hF
  repeat(first|u_c bU (bg hF2) hF|u_reg (bg hF2) hF|u_c bP (bg hF2) hF|u_c stepG_skip (bg hF2) hF|u_c stepG_ret' (bg hF2) hF|u_cond aw (bg hF2) hF|u_cond au (bg hF2) hF|u_bub (bg hF2) hF|u_op (bg hF2) hF|u_skip (bg hF2) hF|u_defer (bg hF2) hF|u_leave1 H.f_uAdd (bg hF2) hF)
  u_in (bg hF2) hF
  rw[stepG_markAt .read aJ rfl rfl (by k_ne) rfl H.f_raceRead (x_raceRead_n L) (x_raceRead_b L) (x_raceRead_x L) (x_raceRead_f L) (ad:=⟨Wg,1,ah⟩) dS];simp only[cG];refine⟨⟨λ_ _=>rfl,λe he=>?_⟩,?_⟩
  .rw[Array.mem_singleton]at he;subst he;exact ev0_said_read _ rfl
  walk_nrm;repeat(first|u_c bU (bg hF2) hF|u_reg (bg hF2) hF|u_c bP (bg hF2) hF|u_c stepG_skip (bg hF2) hF|u_c stepG_ret' (bg hF2) hF|u_cond aw (bg hF2) hF|u_cond au (bg hF2) hF|u_bub (bg hF2) hF|u_op (bg hF2) hF|u_skip (bg hF2) hF|u_defer (bg hF2) hF|u_leave1 H.f_uAdd (bg hF2) hF)
  refine gM (λw₃ h₃=>?_);replace hF:=bg hF2 hF h₃;clear h₃;refine⟨rfl,_,stepG_unwind_entry (v:=.tuple #[]) (evs:=#[mk .enable]) rfl H.f_enable (x_enable_n L) (x_enable_b L) (x_enable_x L) (x_enable_f L) (by simp[Extern.Race.none_]) (by simp[mk]) (by simp[mk]),mT+1,?_⟩
  u_leave0 H.f_add (bg hF2) hF
  exact hT _ hF.1 hF.2
 .obtain⟨V,hV⟩:∃V:Int,V=(v:Int) +1:=⟨_,rfl⟩;obtain⟨S,hS⟩:∃S:Int,S=V*KK:=⟨_,rfl⟩;have eS:IntKind.u64.wrap ((v:Int) *KK+4294967296)=S:=by rw[IntKind.wrap_u64,hS,hV];simp only[KK];omega
  rw[←hV,←hS];have a1:S / 4294967296=V:=by rw[hS];simp only[KK];omega
  have b1:bits .and .u64 S 2147483648=0:=by rw[hS,hV];have:=st_flag (v+1) 0 ai ai;simpa[KK]using this
  have b2:bits .and .u64 S 2147483647=0:=by rw[hS,hV];have:=st_waiters (v+1) 0 ai ai;simpa[KK]using this
  have c1:IntKind.i32.wrap V=V:=by rw[IntKind.wrap_i32];omega
  have hV1:1<V:=ai;have hV2:V<2147483648:=ai;have q1:(V==1)=aw:=dp;have q2:decide (V=1)=aw:=decide_eq_false ai;have q3:decide (V<0)=aw:=decide_eq_false ai;have q4:decide (0<V)=au:=decide_eq_true ai;have q5:(V==0)=aw:=dp;have q6:decide (V=0)=aw:=decide_eq_false ai;refine⟨_,(stepG_add_atomic rfl rfl (by k_ne) rfl H.f_addU64 (x_addU64_n L) (x_addU64_b L) (x_addU64_x L) .u64 (x_addU64_f L) rfl rfl hw.cellSt (hw.thaw 0)).trans (by rw[eS];rfl),140,?_⟩;replace hF:F (w₂.setCell (stA Wg) (.int .u64 S))/\dG L.tWg Wg (w₂.setCell (stA Wg) (.int .u64 S)):=⟨hF2 _ _ (.of_Wg (aside_setCell w₂ (stA Wg) _)) hF.1,⟨_,_,hw.setSt _⟩⟩;clear hw hS hV eS;walk_nrm;u_op (bg hF2) hF
  u_c bP (bg hF2) hF
  u_c stepG_ret' (bg hF2) hF
  u_leave1 H.f_uAdd (bg hF2) hF
  u_op (bg hF2) hF
  u_c bP (bg hF2) hF
  iterate 2 (u_c bU (bg hF2) hF)
  u_reg (bg hF2) hF
  iterate 4 (u_op (bg hF2) hF)
  iterate 2 (u_skip (bg hF2) hF)
  u_op (bg hF2) hF
  u_c bP (bg hF2) hF
  u_cnd aw (bg hF2) hF
  u_c stepG_skip (bg hF2) hF
  u_c bU (bg hF2) hF
  u_reg (bg hF2) hF
  iterate 4 (u_op (bg hF2) hF)
  u_c bP (bg hF2) hF
  u_c bU (bg hF2) hF
  u_reg (bg hF2) hF
  iterate 4 (u_op (bg hF2) hF)
  u_c bP (bg hF2) hF
  iterate 2 (u_c bU (bg hF2) hF)
  u_reg (bg hF2) hF
  iterate 10 (u_op (bg hF2) hF)
  u_c bP (bg hF2) hF
  u_cnd aw (bg hF2) hF
  u_c stepG_skip (bg hF2) hF
  iterate 2 (u_c bU (bg hF2) hF)
  u_reg (bg hF2) hF
  iterate 2 (u_op (bg hF2) hF)
  u_c bP (bg hF2) hF
  u_cnd aw (bg hF2) hF
  u_c stepG_skip (bg hF2) hF
  iterate 2 (u_c bU (bg hF2) hF)
  u_reg (bg hF2) hF
  iterate 3 (u_op (bg hF2) hF)
  iterate 2 (u_skip (bg hF2) hF)
  iterate 2 (u_op (bg hF2) hF)
  iterate 4 (u_skip (bg hF2) hF)
  u_op (bg hF2) hF
  u_c bP (bg hF2) hF
  u_cnd aw (bg hF2) hF
  u_c stepG_skip (bg hF2) hF
  iterate 2 (u_c bU (bg hF2) hF)
  u_reg (bg hF2) hF
  iterate 3 (u_op (bg hF2) hF)
  iterate 2 (u_skip (bg hF2) hF)
  u_op (bg hF2) hF
  u_c bP (bg hF2) hF
  u_cnd au (bg hF2) hF
  u_c stepG_ret' (bg hF2) hF
  refine gM (λw₃ h₃=>?_);replace hF:=bg hF2 hF h₃;clear h₃;refine⟨rfl,_,stepG_unwind_entry (v:=.tuple #[]) (evs:=#[mk .enable]) rfl H.f_enable (x_enable_n L) (x_enable_b L) (x_enable_x L) (x_enable_f L) (by simp[Extern.Race.none_]) (by simp[mk]) (by simp[mk]),mT+1,?_⟩
  u_leave0 H.f_add (bg hF2) hF
  exact hT _ hF.1 hF.2
end
end
section
open Go Go.Conc Go.ConcN
def kK(ops:Array aZ)(i:Nat):Nat:=((ops[i]?).bind (·.dst)).getD 0
def Pb(P:bh)(S:bN)(fn:FuncId)(ops:Array aZ)(n sz i:Nat):Bool:=match ops[i]? with
 |none=>aw
 |some o=>(match o.dst with
   |none=>aw
   |some d=>decide (d<sz) &&(dx i).all λj=>match ops[j]? with
    |some oj=>oj.dst !=ae d
    |none=>au) &&o.guard.isNone&&iu P S fn o&&o.op.operands.all λx=>match x with
   |.tmp t=>(dx n).all λj=>match ops[j]? with
    |some oj=>oj.dst !=ae t||o.after.any λe=>fq .any e&&e.on==j
    |none=>au
   |_=>au
def UZ(P:bh)(S:bN)(fn:FuncId)(ops:Array aZ)(n sz:Nat):Bool:=
 decide (n<ops.size) &&Region.noSelect ops&&((dx ops.size).all λi=>match ops[i]? with
  |none=>aw
  |some o=>o.after.all λe=>!Region.binds .any e||decide (e.on<i)) &&((dx n).all λi=>Pb P S fn ops n sz i) &&Region.sinkB .any ops n&&Region.chainB .any ops n&&Region.seqB .any ops (ops.size-n) n (uP ops.size n)
def Gu(K:ay->aj->Prop):Result Next->Prop
 |.ok (.value v) w=>K v w
 |_=>False
theorem bO(K:ay->aj->Prop)(v:ay)(w:aj):Gu K (.ok (.value v) w)=K v w:=rfl
def Ord(P:bh)(S:bN)(w:aj)(K:Act->Prop):List aZ->Act->Prop
 |[],a=>K a
 |o::l,a=>∃v,Calm P S o a w v/\Ord P S w K l (a.put o.dst v)
theorem QS{P:bh}{S:bN}{o:aZ}{w:aj}(h:Calm P S o a w v)(e:bT a'.eval o=bT a.eval o):Calm P S o a' w v:=by unfold Calm at*;rw[e];exact h
theorem eval_other(a a':Act)(x:Operand)(h:∀t,x=.tmp t->a'.tmps.getD t aO=a.tmps.getD t aO):a'.eval x=a.eval x:=by cases x<;>first|exact h _ rfl|rfl
section
variable{P:bh}{S:bN}{fn:FuncId}{ops:Array aZ}{n sz:Nat}{w:aj}{K:Act->Prop}
theorem acP(QR:∀i,i<n->∃o d,ops[i]? =ae o/\o.dst=ae d/\d<sz):∀(l:List aZ) (i:Nat) (a:Act),(∀j,j<l.length->l[j]? =ops[i+j]?)->i+l.length=n->Ord P S w K l a->
  ∃vs:Nat->ay,K ⟨(List.range' i l.length).foldl (λt j=>t.setIfInBounds (kK ops j) (vs j)) a.tmps,a.defers⟩/\
   ∀j,i<=j->j<n->∃o,ops[j]? =ae o/\Calm P S o ⟨(List.range' i (j-i)).foldl (λt j=>t.setIfInBounds (kK ops j) (vs j)) a.tmps,a.defers⟩ w (vs j):=by
 intro l;induction l with
 |nil=>intro i a _ hn h;exact⟨λ_=>aO,h,λj h1 h2=>by simp at hn;omega⟩
 |cons o l ih=>
  intro i a hl hn h;obtain⟨v,hc,h⟩:=h;have h0:ops[i]? =ae o:=by simpa using(hl 0 aJ).symm
  simp only[fO]at hn;obtain⟨vs,hK,hv⟩:=ih (i+1) _ (λj hj=>by have:=hl (j+1) dp;simpa[Nat.add_assoc,Nat.add_comm 1 j]using this) ai h;obtain⟨o',d,h1,h2,_⟩:=QR i ai;rw[h0]at h1;obtain rfl:=bj h1;have hd:kK ops i=d:=by simp[kK,h0,h2]
  have hput:a.put o.dst v=⟨a.tmps.setIfInBounds d v,a.defers⟩:=by rw[h2];rfl
  rw[hput]at hK hv;have abi:∀(m:Nat) (t:Array ay),(List.range' (i+1) m).foldl (λt j=>t.setIfInBounds (kK ops j) (if j=i then v else vs j)) t=(List.range' (i+1) m).foldl (λt j=>t.setIfInBounds (kK ops j) (vs j)) t:=by
   have key:∀(m s:Nat) (t:Array ay),i<s->(List.range' s m).foldl (λt j=>t.setIfInBounds (kK ops j) (if j=i then v else vs j)) t=(List.range' s m).foldl (λt j=>t.setIfInBounds (kK ops j) (vs j)) t:=by
    intro m;induction m with
    |zero=>intro s t _;rfl
    |succ m ihm=>intro s t hs;simp only[xS,qX];rw[aU ai,ihm (s+1) _ ai]
   exact λm t=>key m (i+1) t (Nat.lt_succ_self _)
  refine⟨λj=>if j=i then v else vs j,?_,λj h3 h4=>?_⟩
  .simp only[fO,xS,qX,if_true];rw[abi,hd];exact hK
  .by_cases e:j=i
   .subst e;refine⟨o,h0,?_⟩;simp only[Nat.sub_self,if_true];exact hc
   .obtain⟨oj,h5,h6⟩:=hv j ai h4;refine⟨oj,h5,?_⟩;have e2:(if j=i then v else vs j)=vs j:=aU e;have e3:j-i=(j- (i+1)) +1:=ai;show Calm P S oj ⟨(List.range' i (j-i)).foldl (λt x=>t.setIfInBounds (kK ops x) (if x=i then v else vs x)) a.tmps,a.defers⟩ w (if j=i then v else vs j);rw[e2,e3];simp only[xS,qX,if_true];rw[abi,hd];exact h6
theorem CP(ds:Nat->Nat)(vs:Nat->ay)(t:Array ay)(m:Nat):(List.range' 0 m).foldl (λt j=>t.setIfInBounds (ds j) (vs j)) t=Script.tmps m ds vs t:=by rw[←CQ];rfl
theorem MM(hB:UZ P S fn ops n sz=au)(hsz:a.tmps.size=sz)(xt:∀t,S.ft fn t=aw)(h:Ord P S w K (ops.toList.take n) a):
  ∃vs:Nat->ay,Script P S fn ops n (kK ops) vs a w/\K ⟨Script.tmps n (kK ops) vs a.tmps,a.defers⟩:=by
 unfold UZ at hB;simp only[cR,decide_eq_true_eq,iT,pz]at hB;obtain⟨⟨⟨⟨⟨⟨hsize,ZX⟩,hedge⟩,qw⟩,U1⟩,MN⟩,hseq⟩:=hB;have qw:∀i,i<n->∃o d,ops[i]? =ae o/\o.dst=ae d/\d<sz/\(∀j,j<i->∀oj,ops[j]? =ae oj->oj.dst≠ae d)/\o.guard=ah/\iu P S fn o=au/\
   ∀t,Operand.tmp t∈o.op.operands->∀j,j<n->∀oj,ops[j]? =ae oj->oj.dst=ae t->∃e∈o.after,fq .any e=au/\e.on=j:=λi hi=>by
  have h1:=qw i hi;unfold Pb at h1;cases ho:ops[i]? with
  |none=>rw[ho]at h1;cases h1
  |some o=>
   rw[ho]at h1;simp only[cR,Option.isNone_iff_eq_none]at h1;obtain⟨⟨⟨h2,h3⟩,h4⟩,h5⟩:=h1;cases hd:o.dst with
   |none=>rw[hd]at h2;cases h2
   |some d=>
    rw[hd]at h2;simp only[cR,decide_eq_true_eq,iT,pz]at h2;refine⟨o,d,rfl,hd,h2.1,λj hj oj OZ=>?_,h3,h4,λt ht j hj oj OZ he=>?_⟩
    .have:=h2.2 j hj;rw[OZ]at this;simpa using this
    .have h6:=EL.1 h5 _ ht;simp only[iT,pz]at h6;have h7:=h6 j hj;rw[OZ]at h7;simp only[he,bne_self_eq_false,Bool.false_or]at h7;obtain⟨e,S8,h8⟩:=Array.any_eq_true'.1 h7;simp only[cR,beq_iff_eq]at h8;exact⟨e,S8,h8.1,h8.2⟩
 have hl:(ops.toList.take n).length=n:=dp;obtain⟨vs,hK,hv⟩:=acP (n:=n) (sz:=sz) (λi hi=>by obtain⟨o,d,h1,h2,h3,_⟩:=qw i hi;exact⟨o,d,h1,h2,h3⟩) (ops.toList.take n) 0 a (λj hj=>by rw[hl]at hj;simp[hj]) (by rw[eB];exact hl) h;rw[hl,CP]at hK;have q9:∀i,i<n->∀o,ops[i]? =ae o->o.dst=ae (kK ops i):=λi hi o ho=>by obtain⟨o',d,h1,h2,_⟩:=qw i hi;rw[ho]at h1;obtain rfl:=bj h1;simp[kK,ho,h2]
 have afi:∀i j,i<n->j<n->kK ops i=kK ops j->i=j:=λi j hi hj e=>by
  have key:∀i j,j<n->i<j->kK ops i≠kK ops j:=λi j hj sD he=>by obtain⟨o,d,h1,h2,_,h4,_⟩:=qw j hj;obtain⟨o',d',h1',BF,_⟩:=qw i ai;refine h4 i sD o' h1' ?_;rw[q9 i ai o' h1',he,←q9 j hj o h1];exact h2
  rcases Nat.lt_trichotomy i j with h|h|h
  .exact aT e (key i j hj h)
  .exact h
  .exact aT e.symm (key j i hi h)
 have hlt:∀i,i<n->kK ops i<a.tmps.size:=λi hi=>by obtain⟨o,d,h1,h2,h3,_⟩:=qw i hi;have:=q9 i hi o h1;rw[h2]at this;rw[hsz,←bj this];exact h3
 refine⟨vs,⟨hsize,λi o ho e he Lj=>?_,λi o hi ho=>q9 i hi o ho,afi,hlt,λi o hi ho=>?_,λi o hi ho=>?_,xt,λi o a' hi ho eR dA=>?_,λt o ht ho=>?_,hseq,λlisted h1 h2 i hi=>?_⟩,hK⟩
 .have hi:i<ops.size:=(bF.1 ho).1;have:=hedge i hi;rw[ho]at this;have:=EL.1 this e he;rw[Lj]at this;simpa using this
 .obtain⟨o',d,h1,h2,_,_,h5,_⟩:=qw i hi;rw[ho]at h1;obtain rfl:=bj h1;exact h5
 .obtain⟨o',d,h1,h2,_,_,_,h5,_⟩:=qw i hi;rw[ho]at h1;obtain rfl:=bj h1;exact h5
 .obtain⟨o',h1,h2⟩:=hv i (bQ _) hi;rw[ho]at h1;obtain rfl:=bj h1;obtain⟨o',d,h1,h3,_,_,_,_,h5⟩:=qw i hi;rw[ho]at h1;obtain rfl:=bj h1;rw[Nat.sub_zero,CP]at h2;refine QS h2 (execOp_congr o (Region.noSelect_spec ZX i o · · ho) λx hx=>eval_other _ _ x λt ht=>?_);subst ht;by_cases j4:∃j,j<n/\t=kK ops j
  .obtain⟨j,hj,rfl⟩:=j4;obtain⟨oj,dj,h6,h7,_⟩:=qw j hj;obtain⟨e,he,hb,DY⟩:=h5 _ hx j hj oj h6 (q9 j hj oj h6);have OY:j<i:=(by have:=hedge i ai;rw[ho]at this;have:=EL.1 this e he;rw[hb]at this;simp at this;omega);have h8:=eR e he hb;rw[DY]at h8;rw[h8,dO,yV OY (λx y hx hy=>afi x y ai ai) (hlt j hj)];rfl
  .have hno:∀j,j<n->t≠kK ops j:=λj hj e=>j4 ⟨j,hj,e⟩;rw[dA t hno,dO,dO,wP λj hj=>hno j ai]
 .unfold Region.chainB at MN;simp only[iT,pz,qQ,decide_eq_true_eq]at MN;rcases MN t (bF.1 ho).1 with h|h
  .omega
  .obtain⟨o',xe,e,he,hb,DY⟩:=Region.waitsFor_spec h;rw[ho]at xe;obtain rfl:=bj xe;exact⟨e,he,hb,DY⟩
 .unfold Region.sinkB at U1;simp only[iT,List.any_eq_true,pz,cR,decide_eq_true_eq]at U1;have down:∀m i,n-i<=m->i<n->listed.getD i aw=au:=by
   intro m;induction m with
   |zero=>intro i h3 h4;omega
   |succ m ih=>
    intro i h3 h4;obtain⟨j,hj,sD,hw⟩:=U1 i h4;obtain⟨oj,OZ,e,he,hb,DY⟩:=Region.waitsFor_spec hw;rw[←DY];by_cases e2:j=n
    .subst e2;exact h2 oj OZ e he hb
    .exact h1 j oj ai OZ (ih j ai ai) e he hb
  exact down n i ai hi
end
section
variable{P:bh}{S:bN}{main:Bool}{cs:List aB}{J:fM ι}{Stop:ι->aB->List aB->aj->Prop}{ops:List aZ}{id:Nat}{w:aj}
theorem iX{U:List aB->Prop}{fn:FuncId}{Q:ι->Exit->Act->aj->Prop}(st:Stat P S)(n sz:Nat)(tail:List Nat)(ht:List.range' n (ops.length-n)=tail)(hm:P.follows .mixedOrders=au)(xt:∀t,S.ft fn t=aw)(hB:UZ P S fn ops.toArray n sz=au)(hsz:a.tmps.size=sz)
  (h:Ord P S w (λa'=>rj P main cs J Stop U fn ops.toArray tail Q xQ a' w) (ops.take n) a):wpM P main cs J Stop U fn (.region id ops.toArray au) Q xQ a w:=by
 intro b k fs h1 h2 h3 hc;subst h1;obtain⟨vs,hC,hK⟩:=MM (ops:=ops.toArray) hB hsz xt h;have hK:=hK b k fs rfl h2 h3 hc;rw[←ht]at hK;exact Ab st h2 hm hC (by simpa using hK)
theorem ky{K:Act->Prop}(h:K a):Ord P S w K [] a:=h
theorem Z3{K:Act->Prop}{o:aZ}{l:List aZ}(hv:∀τ k (Kv:ay->Prop),(∀u,u=v->Kv u)->Gu (λu w'=>w'=w.td τ k/\Kv u) ((bT a.eval o).run P (w.td τ k)))(h:Ord P S w K l (a.put o.dst v)):Ord P S w K (o::l) a:=by
 refine⟨v,.inl λτ k=>?_,h⟩;have:=hv τ k (λu=>u=v) λ_ h=>h;generalize (bT a.eval o).run P (w.td τ k)=X at this;unfold Gu at this;split at this
 .obtain⟨rfl,rfl⟩:=this;rfl
 .exact this.elim
theorem xT{K:Act->Prop}{o:aZ}{l:List aZ}{fn:Func}{args:Array ay}(hop:o.op=.call {callee:=.value (.func f),args:=xs,argTypes:=ats})(hf:P.funcs[f]? =ae fn)(hname:(fn.name== "runtime.NumGoroutine")=aw)(hb:fn.body=ae c)(hxs:xs.map a.eval=args)(j4:yB P S f args)
  (hc:∀τ k,b9 P f args (w.td τ k) λe w2=>e=.returned v/\w.td τ k=w2)(h:Ord P S w K l (a.put o.dst v)):Ord P S w K (o::l) a:=
 ⟨v,.inr ⟨f,args,λw1=>hxs▸wC hop hf hname hb w1,j4,hc⟩,h⟩
end
section
variable{P:bh}{S:bN}{main:Bool}{cs:List aB}{J:fM ι}{Stop:ι->aB->List aB->aj->Prop}
structure ScriptM(P:bh)(S:bN)(fn:FuncId)(ops:Array aZ)(m n:Nat)(ds:Nat->Nat)(vs:Nat->ay)(G:aj->Prop)(a:Act):Prop where
 size:n<ops.size
 mn:m<n
 edge:∀(i:Nat) (o:aZ),ops[i]? =ae o->∀e∈o.after,fq .any e=au->e.on<i
 dst:∀(i:Nat) (o:aZ),i<n->ops[i]? =ae o->o.dst=ae (ds i)
 inj:∀i j,i<n->j<n->ds i=ds j->i=j
 lt:∀i,i<n->ds i<a.tmps.size
 want:∀(i:Nat) (o:aZ),i<n->ops[i]? =ae o->o.guard=ah
 ok:∀(i:Nat) (o:aZ),i<n->i≠m->ops[i]? =ae o->iu P S fn o=au
 ft:∀t,S.ft fn t=aw
 off:∀(i:Nat) (o:aZ),i<n->ops[i]? =ae o->∀e∈o.after,fq .any e=au->e.on≠m
 run:∀(i:Nat) (o:aZ) (a':Act),i<n->i≠m->ops[i]? =ae o->(∀e∈o.after,fq .any e=au->a'.tmps.getD (ds e.on) aO=vs e.on)->(∀s,(∀j,j<n->s≠ds j)->a'.tmps.getD s aO=a.tmps.getD s aO)->∀w,G w->Calm P S o a' w (vs i)
 chain:∀(t:Nat) (o:aZ),n<t->ops[t]? =ae o->∃e∈o.after,fq .any e=au/\e.on=t-1
 seq:Region.seqB .any ops (ops.size-n) n (uP ops.size n)=au
 last:∀listed:Array Bool,(∀(i:Nat) (o:aZ),i<n->ops[i]? =ae o->listed.getD i aw=au->∀e∈o.after,fq .any e=au->listed.getD e.on aw=au)->(∀o:aZ,ops[n]? =ae o->∀e∈o.after,fq .any e=au->listed.getD e.on aw=au)->∀i,i<n->listed.getD i aw=au
theorem U2(st:Stat P S){ops:Array aZ}{n id:Nat}{G:aj->Prop}{w:aj}(Post:ι->ay->aj->Prop)(hk:b.kind=.normal)(hm:P.follows .mixedOrders=au)(C:ScriptM P S b.fn ops m n ds vs G a)(hG:∀w1,Alike w w1->G w1)(hP:∀xR v w',Post xR v w'->G w')
  (hcall:∀(a':Act) rest (o:aZ) (w1:aj),ops[m]? =ae o->Alike w w1->a'.defers=a.defers->(∀e∈o.after,fq .any e=au->a'.tmps.getD (ds e.on) aO=vs e.on)->(∀s,(∀j,j<n->s≠ds j)->a'.tmps.getD s aO=a.tmps.getD s aO)->
   (∀xR v w',Post xR v w'->ZigC P main cs J Stop xR (b.at (a'.put o.dst v) (bI ops rest::k)) fs w')->ZigC P main cs J Stop xQ (b.at a' (bI ops (m::rest)::k)) fs w1)
  (hend:∀xR v w',Post xR v w'->ZigC P main cs J Stop xR (b.at ⟨Script.tmps n ds (λi=>if i=m then v else vs i) a.tmps,a.defers⟩ (bI ops (List.range' n (ops.size-n))::k)) fs w'):ZigC P main cs J Stop xQ (b.at a (.code (.region id ops au)::k)) fs w:=by
 refine .walk (OG hm λt=>.stop ?_);have hsize:=C.size;have hmn:=C.mn;refine J5 rfl C.edge (λlisted xR a' w'=>a'.defers=a.defers/\a'.tmps.size=a.tmps.size/\(∀i,i<n->i≠m->listed.getD i aw=au->a'.tmps.getD (ds i) aO=vs i)/\(∀s,(∀j,j<n->s≠ds j)->a'.tmps.getD s aO=a.tmps.getD s aO)/\
   (∀(i:Nat) (o:aZ),i<n->ops[i]? =ae o->listed.getD i aw=au->∀e∈o.after,fq .any e=au->listed.getD e.on aw=au)/\(∀t,n<=t->t<ops.size->listed.getD t aw=aw)/\
   ((listed.getD m aw=aw/\xR=xQ/\Alike w w')\/(listed.getD m aw=au/\Post xR (a'.tmps.getD (ds m) aO) w')))
  (λlisted=>∀i,i<n->listed.getD i aw=au) ?_ ?_ ?_ ops.size t _ xQ a _ aJ (B9 _) ⟨rfl,rfl,λi hi hn h=>?_,λ_ _=>rfl,λi o hi ho h=>?_,λt _ _=>?_,.inl ⟨?_,rfl,rfl,rfl,rfl⟩⟩
 .rintro listed ι1 a' w' i rest hsz ⟨hd,YW,h1,h2,h3,h4,h5⟩ Ll hr hnext;obtain⟨mO,o,ho,eR⟩:=mem_ready.1 hr;have j4:i<ops.size:=(bF.1 ho).1;obtain⟨i0,xb,hl0⟩:∃i,i<n/\listed.getD i aw=aw:=by
   apply eV;intro hc;refine Ll λi hi=>?_;cases e:listed.getD i aw with
   |true=>rfl
   |false=>exact aT ⟨i,hi,e⟩ hc
  have hi:i<n:=by
   rcases ji i n with h|h
   .exact h
   .exfalso;rcases ji n i with h'|h'
    .obtain⟨e,he,hb,DY⟩:=C.chain i o h' ho;have:=eR e he hb;rw[DY,h4 (i-1) ai ai]at this;cases this
    .obtain rfl:i=n:=ai;have:=C.last listed h3 (λo' xe e he hb=>by rw[ho]at xe;obtain rfl:=bj xe;exact eR e he hb) i0 xb;rw[hl0]at this;cases this
  have hne:∀x,x≠i->(DF listed i).getD x aw=listed.getD x aw:=λx hx=>by rw[dO,dO,show(DF listed i)[x]? =listed[x]? from gG (bZ hx)]
  have hse:(DF listed i).getD i aw=au:=by rw[dO];simp[DF,hsz,j4]
  have Pc:∀(x:Nat) (ox:aZ),x<n->ops[x]? =ae ox->(DF listed i).getD x aw=au->∀e∈ox.after,fq .any e=au->(DF listed i).getD e.on aw=au:=λx ox hx YX hl e he hb=>by
   by_cases e1:x=i
   .subst e1;rw[ho]at YX;obtain rfl:=bj YX;rw[hne _ (Nat.ne_of_lt (C.edge x o ho e he hb))];exact eR e he hb
   .rw[hne x e1]at hl;have:=h3 x ox hx YX hl e he hb;by_cases e2:e.on=i
    .rw[e2];exact hse
    .rw[hne _ e2];exact this
  have hput:∀(v:ay),(∀x,x<n->x≠i->(a'.tmps.setIfInBounds (ds i) v).getD (ds x) aO=a'.tmps.getD (ds x) aO)/\(a'.tmps.setIfInBounds (ds i) v).getD (ds i) aO=v/\∀s,(∀j,j<n->s≠ds j)->(a'.tmps.setIfInBounds (ds i) v).getD s aO=a'.tmps.getD s aO:=λv=>by
   refine⟨λx hx hxi=>?_,?_,λs hs=>?_⟩
   .rw[dO,gG (λe'=>hxi (C.inj x i hx hi e'.symm)),←dO]
   .have:=C.lt i hi;rw[dO,iw ai];rfl
   .rw[dO,gG (bZ (hs i hi)),←dO]
  have abj:∀e∈o.after,fq .any e=au->a'.tmps.getD (ds e.on) aO=vs e.on:=λe he hb=>h1 _ (by have:=C.edge i o ho e he hb;omega) (C.off i o hi ho e he hb) (eR e he hb);have QR:=C.dst i o hi ho;have htl:∀t,n<=t->t<ops.size->(DF listed i).getD t aw=aw:=λt h6 h7=>by rw[hne t ai];exact h4 t h6 h7
  by_cases him:i=m
  .subst him;obtain⟨_,rfl,qL⟩:listed.getD i aw=aw/\ι1=xQ/\Alike w w':=by
    rcases h5 with h5|⟨h5,_⟩
    .exact h5
    .have:=yX hsz j4 h5;rw[mO]at this;cases this
   refine hcall a' rest o w' ho qL hd abj h2 λxR v w2 hp=>?_;rw[QR];obtain⟨p1,p2,p3⟩:=hput v;refine hnext xR _ w2 ⟨hd,by simp[Act.put,YW],λx hx hxm hl=>?_,λs hs=>(p3 s hs).trans (h2 s hs),Pc,htl,.inr ⟨hse,?_⟩⟩
   .rw[hne x hxm]at hl;exact(p1 x hx hxm).trans (h1 x hx hxm hl)
   .show Post xR ((a'.tmps.setIfInBounds (ds i) v).getD (ds i) aO) w2;rw[p2];exact hp
  .have hGw:G w':=by
    rcases h5 with⟨_,_,h5⟩|⟨_,h5⟩
    .exact hG w' h5
    .exact hP _ _ _ h5
   refine CN st hk ho (C.want i o hi ho) (C.ok i o hi him ho) C.ft (C.run i o a' hi him ho abj h2 w' hGw) ?_;rw[QR];obtain⟨p1,p2,p3⟩:=hput (vs i);refine hnext ι1 _ w' ⟨hd,by simp[Act.put,YW],λx hx hxm hl=>?_,λs hs=>(p3 s hs).trans (h2 s hs),Pc,htl,?_⟩
   .by_cases e:x=i
    .subst e;exact p2
    .rw[hne x e]at hl;exact(p1 x hx e).trans (h1 x hx hxm hl)
   .rw[hne m (λe=>him e.symm)];refine h5.imp (λh=>h) λ⟨h6,h7⟩=>⟨h6,?_⟩;show Post ι1 ((a'.tmps.setIfInBounds (ds i) (vs i)).getD (ds m) aO) w';rw[p1 m hmn (λe=>him e.symm)];exact h7
 .rintro m' t listed ι1 a' w' hsz hu hall ⟨hd,YW,h1,h2,h3,h4,h5⟩;have vx:m'=ops.size-n:=by rw[←hu];refine Pa ai (λi hi=>yX hsz ai (hall i hi)) λi h6 h7=>?_;have h8:=h4 i h6 h7;rw[dO,fP ai]at h8⊢;exact h8
  have hseq:=C.seq;rw[←CM (n:=n) hsz (λi hi _=>hall i hi) h4]at hseq;rw[vx,UY _ _ _ _ hseq];obtain⟨_,OO⟩:listed.getD m aw=au/\Post ι1 (a'.tmps.getD (ds m) aO) w':=by
   rcases h5 with⟨h6,_⟩|h6
   .rw[hall m hmn]at h6;cases h6
   .exact h6
  have ha:a'=⟨Script.tmps n ds (λx=>if x=m then a'.tmps.getD (ds m) aO else vs x) a.tmps,a.defers⟩:=by
   obtain⟨t',d'⟩:=a';simp only at hd YW h1 h2 OO⊢;subst hd;congr 1;apply Array.ext_getElem?;intro s;by_cases hs:∃j,j<n/\s=ds j
   .obtain⟨j,hj,rfl⟩:=hs;rw[yV hj C.inj (C.lt j hj)];have hlt:=C.lt j hj;have hval:t'.getD (ds j) aO=if j=m then t'.getD (ds m) aO else vs j:=by
     by_cases e:j=m
     .subst e;rw[aX rfl]
     .rw[aU e];exact h1 j hj e (hall j hj)
    have DC:ds j<t'.size:=ai;have hsome:t'[ds j]? =ae (t'.getD (ds j) aO):=(by rw[dO,fP DC];rfl);rw[hsome,hval]
   .have hs':∀j,j<n->s≠ds j:=λj hj e=>hs ⟨j,hj,e⟩;rw[wP hs'];have:=h2 s hs';rw[dO,dO]at this;rcases ji s t'.size with hlt|CO
    .rw[fP hlt,fP ai]at this⊢;simpa using this
    .rw[np CO,np ai]
  rw[ha];exact hend ι1 _ w' OO
 .intro listed hsz hu i hi;apply eV;intro hc;have:listed.getD i au=aw:=by have hl:i<listed.size:=ai;rw[dO,fP hl]at hc⊢;simpa using hc
  have:=Bl (n:=ops.size) ai this;omega
 .exfalso;rw[dO]at h;simp[rO]at h;split at h<;>simp at h
 .exfalso;rw[dO]at h;simp[rO]at h;split at h<;>simp at h
 .rw[dO];simp[rO];split<;>simp
 .rw[dO];simp[rO];split<;>simp
theorem Pd{U:List aB->Prop}{fn:FuncId}{Q:ι->Exit->Act->aj->Prop}(st:Stat P S){ops:Array aZ}{n id:Nat}{G:aj->Prop}{w:aj}(tail:List Nat)(ht:List.range' n (ops.size-n)=tail)(Post:ι->ay->aj->Prop)(hm:P.follows .mixedOrders=au)(C:ScriptM P S fn ops m n ds vs G a)(hG:∀w1,Alike w w1->G w1)(hP:∀xR v w',Post xR v w'->G w')
  {o:aZ}(ho:ops[m]? =ae o)(hg:o.guard=ah){args:Array ay}(hop:o.op=.call {callee:=.value (.func f),args:=xs,argTypes:=ats})(hf:P.funcs[f]? =ae OA)(hname:(OA.name== "runtime.NumGoroutine")=aw)(hb:OA.body=ae c)
  (hxs:∀a':Act,(∀e∈o.after,fq .any e=au->a'.tmps.getD (ds e.on) aO=vs e.on)->(∀s,(∀j,j<n->s≠ds j)->a'.tmps.getD s aO=a.tmps.getD s aO)->xs.map a'.eval=args)
  (hU:∀(b:aB) (a':Act) (k:List Item) (fs:List aB) rest,b.fn=fn->a'.defers=a.defers->U fs->U (b.at a' (bI ops (m::rest)::k)::fs))(hcall:CallsM P main cs J Stop U xQ f args w Post)
  (hend:∀xR v w',Post xR v w'->rj P main cs J Stop U fn ops tail Q xR ⟨Script.tmps n ds (λi=>if i=m then v else vs i) a.tmps,a.defers⟩ w'):wpM P main cs J Stop U fn (.region id ops au) Q xQ a w:=by
 intro b k fs h1 h2 h3 hc;subst h1;refine U2 st Post h2 hm C hG hP (λa' rest o' w1 xe qL hd eR dA hnext=>?_) λxR v w' hp=>?_
 .rw[ho]at xe;obtain rfl:=bj xe;refine ou (by rw[h2];simp) ho (by simp[dF,hg]) hop hf hname hb (hxs a' eR dA) (CallsM.alike qL hcall _ fs (hU b a' k fs rest rfl hd h3) λi' v w'' hp=>?_);rw[iB,ho];exact hnext i' v w'' hp
 .rw[ht];exact hend xR v w' hp b k fs rfl h2 h3 hc
end
end
end Go.Proofs.YtfmibhmknlnoiaaGreat
