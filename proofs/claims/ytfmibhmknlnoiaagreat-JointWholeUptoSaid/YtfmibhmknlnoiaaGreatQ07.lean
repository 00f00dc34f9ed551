/-
  JointWhole: where each change of numbers is made one of all cells, every change, every Look and the end see all cells alike, wherever workers are halted.
  Conditions: those of the statement alone (arguments of sizes that a machine can hold).
-/
import Derived.Test.YtfmibhmknlnoiaaGreatQ00
import Derived.Test.YtfmibhmknlnoiaaGreatQ06
import Derived.Deep.Slices
import Derived.Deep.Strs
import Derived.ProofKit
import Derived.OpenShut
import Derived.Test.YtfmibhmknlnoiaaGreatRows
import Derived.WalkKit
import Derived.Test.YtfmibhmknlnoiaaGreatQ03
set_option linter.all false
set_option maxRecDepth 100000
set_option maxHeartbeats 4000000
namespace Go.Proofs.YtfmibhmknlnoiaaGreat
open _root_.Go.Proofs.Tryz
open _root_.Option renaming some→ae,none→ah
open _root_.Bool renaming true→au,false→aw
open _root_.Go renaming World→aj,Value→ay,Frame→aB,Addr→aP,TypeId→bq,undef→aO,results→eL
open _root_.Go.Conc renaming crowd→bS
open _root_.Go.Proofs.Tryz renaming prog→aC
open _root_.Go.World renaming cell?→fG
open _root_.Go.Frame renaming enter→gL
open _root_.List renaming range→dx
variable{α:Type}{un:Int}{cs:List ay}{a:Option aP}{H:Type}{v:ay}{W:aj}{p:α->List ay->Nat->Prop}
section
open Go Go.RowKit Go.Deep Go.ChangeShapes
instance:Inhabited bs:=⟨⟨0,0,0,0,[]⟩⟩
instance:Inhabited ay:=⟨aO⟩
theorem YE(d:DataW H):1<=Rows.uptoBulk d:=by
 cases d with
 |lit l=>cases l<;>simp[Rows.uptoBulk]
 |nil=>simp[Rows.uptoBulk]
 |ptr d=>simp[Rows.uptoBulk]
 |slice elems spare=>simp[Rows.uptoBulk]
 |agg parts=>simp[Rows.uptoBulk]
 |iface t d=>simp[Rows.uptoBulk]
 |map entries=>simp[Rows.uptoBulk]
 |held h=>simp[Rows.uptoBulk]
theorem SR{d:DataW H}{l:List (DataW H)}(h:d∈l):Rows.uptoBulk d<=Rows.uptoBulkAll l:=by
 induction l with
 |nil=>cases h
 |cons x r ih=>
  simp only[Rows.uptoBulkAll];cases fU.1 h with
  |inl e=>subst e;omega
  |inr e=>have:=ih e;omega
theorem Li(l:List (DataW H)):l.length<=Rows.uptoBulkAll l:=by
 induction l with
 |nil=>simp[Rows.uptoBulkAll]
 |cons x r ih=>have:=YE x;simp only[Rows.uptoBulkAll,fO];omega
theorem Ol{n:Nat}{D:Nat->DataW H}{sp:List (DataW H)}:n<=Rows.uptoBulk (.slice ((dx n).map D) sp)/\∀i,i<n->Rows.uptoBulk (D i)<=Rows.uptoBulk (.slice ((dx n).map D) sp):=by have h1:=Li ((dx n).map D);simp only[uC,List.length_range]at h1;simp only[Rows.uptoBulk];refine⟨ai,λi hi=>?_⟩;have:=SR (d:=D i) (l:=(dx n).map D) (pA.2 ⟨i,pz.2 hi,rfl⟩);omega
section
variable{enc:bq×ay->H}{base:Nat}{spare:Nat->Bool}{held:Bool}
theorem SS{a:aP}{n:Nat}(h:W.cells? base a n=ae cs)(hn:0<n):∃s o,a=⟨s,o,ah⟩/\s<W.heap.size:=by
 obtain⟨_,hl,hc⟩:=World.cells?_some h;have h0:=hc 0 hn;obtain⟨v,hv⟩:∃v,cs[0]? =ae v:=⟨cs[0]'ai,aJ⟩;rw[hv]at h0;obtain⟨b,off,spot⟩:=a;have hs:spot=ah:=by simpa[Addr.add]using World.cell?_spot h0
 subst hs;exact⟨b,off,rfl,ez W _ h0⟩
theorem rK{t e:bq}{k fuel:Nat}{x:DataW H×List MemPlace} [Inhabited α](ht:prog.underlying t=ae (.slice e))(hk:prog.cellsOf e=k)(hk0:0<k)
  (hp:∀(a:α) (cs:List ay) (m m':Nat),m<=m'->p a cs m->p a cs m')(hel:∀(n:Nat) (cs:List ay) (y:DataW H×List MemPlace),DataW.trod enc aC W base spare held n e cs=ae y->∃a,p a cs (Rows.uptoBulk y.1))(h:DataW.trod enc aC W base spare held fuel t cs=ae x):
  ∃(a:Option aP) (n cap:Nat) (f:Nat->α),cs=[.slice a n cap]/\n<=Rows.uptoBulk x.1/\∀i,i<n->∃s o cs',a=ae ⟨s,o,ah⟩/\s<W.heap.size/\(∀j,j<k->W.cell? ⟨s,o+i*k+j,ah⟩=cs'[j]?)/\p (f i) cs' (Rows.uptoBulk x.1):=by
 rcases open_slice ht h with⟨hcs,_⟩|⟨a,len,cap,m,n,D,Pl,hcs,_,hlc,_,hm,hx,hall⟩
 .exact⟨ah,0,0,λ_=>default,hcs,bQ _,λi hi=>ai⟩
 .have hle:len<=m:=by rw[hm];split<;>omega
  subst hx;rw[hk]at hall;obtain⟨hb1,hb2⟩:=Ol (n:=len) (D:=D) (sp:=(dx (m-len)).map λj=>D (len+j));obtain⟨f,hf⟩:=choose_lt (α:=α) (p:=λi b=>∃cs',W.cells? base (a.add (i*k)) k=ae cs'/\p b cs' (Rows.uptoBulk (D i))) (n:=m) (λi hi=>by obtain⟨cs',h1,h2⟩:=hall i hi;obtain⟨b,hb⟩:=hel n cs' _ h2;exact⟨b,cs',h1,hb⟩);refine⟨ae a,len,cap,f,hcs,hb1,λi hi=>?_⟩;obtain⟨cs0,hc0,_⟩:=hf 0 ai;obtain⟨s,o,ha,hs⟩:=SS hc0 hk0;obtain⟨s0,o0,sp⟩:=a;have ha':sp=ah:=by simp[Addr.add]at ha;exact ha.2.2
  subst ha';have hs0:s0=s:=by simp[Addr.add]at ha;exact ha.1
  subst hs0;obtain⟨cs',hc',Zg⟩:=hf i ai;obtain⟨_,_,hc⟩:=World.cells?_some hc';refine⟨s0,o0,cs',rfl,hs,λj hj=>?_,hp _ _ _ _ (hb2 i hi) Zg⟩;have:=hc j hj;rwa [C8,C8]at this
theorem FU{fuel n cap:Nat}{x:DataW H×List MemPlace}(h:DataW.trod enc aC W base spare held fuel 22 [.slice a n cap]=ae x):∃zs:List Int,zs.length=n/\j7 W a zs/\n<=Rows.uptoBulk x.1:=by obtain⟨a',n',cap',f,hcs,hb,hf⟩:=rK (α:=Int) (p:=λz cs _=>cs=[.int .i64 z]) underlying22 (k:=1) aQ aN (λ_ _ _ _ _ h=>h) (λn cs y hy=>by obtain⟨z,hz,_⟩:=DataW.trod_int underlying3 hy;exact⟨z,hz⟩) h;cases hcs;refine⟨(dx n).map f,aJ,λi hi=>?_,hb⟩;simp only[uC,List.length_range]at hi;obtain⟨s,o,cs',e,hs,hc,rfl⟩:=hf i hi;refine⟨s,o,e,hs,?_⟩;have:=hc 0 ai;rw[Nat.mul_one,Nat.add_zero]at this;rw[this,eF,nM,wT hi];rfl
theorem open_pair{fuel:Nat}{x:DataW H×List MemPlace}(h:DataW.trod enc aC W base spare held fuel 53 cs=ae x):∃e:Int×Int,cs=[.int .i64 e.1,.int .i64 e.2]:=by
 obtain⟨y0,y1,n,_,hl,h0,h1⟩:=trod_struct2 underlying53 h;have hl2:cs.length=2:=by rw[hl];kernel_rfl
 match cs,hl2 with
 |[c0,c1],_=>have e0:DataW.trod enc aC W base spare held n 3 [c0]=ae y0:=h0;have e1:DataW.trod enc aC W base spare held n 3 [c1]=ae y1:=h1;obtain⟨a,ha,_⟩:=DataW.trod_int underlying3 e0;obtain⟨b,hb,_⟩:=DataW.trod_int underlying3 e1;cases ha;cases hb;exact⟨⟨a,b⟩,rfl⟩
theorem Om{fuel:Nat}{x:DataW H×List MemPlace}(h:DataW.trod enc aC W base spare held fuel 46 [v]=ae x):∃l:List (Int×Int),kZ W v l/\l.length<=Rows.uptoBulk x.1:=by
 obtain⟨a,n,cap,f,hcs,hb,hf⟩:=rK (α:=Int×Int) (p:=λe cs _=>cs=[.int .i64 e.1,.int .i64 e.2]) underlying46 (k:=2) aQ aN (λ_ _ _ _ _ h=>h) (λn cs y hy=>open_pair hy) h;cases hcs;refine⟨(dx n).map f,⟨a,cap,aJ,λi hi=>?_⟩,by simpa using hb⟩;simp only[uC,List.length_range]at hi;obtain⟨s,o,cs',e,hs,hc,rfl⟩:=hf i hi;have e0:((dx n).map f).getD i (0,0)=f i:=by rw[eF,nM,wT hi];rfl
 rw[e0,Nat.mul_comm 2 i];exact⟨s,o,e,hs,hc 0 ai,hc 1 ai⟩
theorem SU{fuel:Nat}{x:DataW H×List MemPlace}(h:DataW.trod enc aC W base spare held fuel 50 cs=ae x):∃(c:bs) (pv:ay),cs=dN c pv/\kZ W pv c.pairs/\c.pairs.length<=Rows.uptoBulk x.1:=by
 obtain⟨xs,n,_,hx,hl,hlen,hf⟩:=DataW.trod_struct underlying50 h;have hl5:cs.length=5:=by rw[hl];kernel_rfl
 have hx5:xs.length=5:=hlen;match cs,hl5,xs,hx5 with
 |[c0,c1,c2,c3,c4],_,[y0,y1,y2,y3,y4],_=>have e0:DataW.trod enc aC W base spare held n 3 [c0]=ae y0:=hf 0 _ rfl;have e1:DataW.trod enc aC W base spare held n 3 [c1]=ae y1:=hf 1 _ rfl;have e2:DataW.trod enc aC W base spare held n 3 [c2]=ae y2:=hf 2 _ rfl;have e3:DataW.trod enc aC W base spare held n 3 [c3]=ae y3:=hf 3 _ rfl;have e4:DataW.trod enc aC W base spare held n 46 [c4]=ae y4:=hf 4 _ rfl;obtain⟨a,ha,_⟩:=DataW.trod_int underlying3 e0;obtain⟨b,hb,_⟩:=DataW.trod_int underlying3 e1;obtain⟨c,hc,_⟩:=DataW.trod_int underlying3 e2;obtain⟨d,hd,_⟩:=DataW.trod_int underlying3 e3;obtain⟨l,hp,hlb⟩:=Om e4;cases ha;cases hb;cases hc;cases hd;refine⟨⟨a,b,c,d,l⟩,c4,rfl,hp,dm hlb ?_⟩;subst hx;simp only[List.map_cons,List.map_nil,Rows.uptoBulk,Rows.uptoBulkAll];omega
theorem YF{fuel:Nat}{x:DataW H×List MemPlace}(h:DataW.trod enc aC W base spare held fuel 51 [v]=ae x):∃l:List bs,zT W v l/\l.length<=Rows.uptoBulk x.1/\∀c∈l,c.pairs.length<=Rows.uptoBulk x.1:=by
 obtain⟨a,n,cap,f,hcs,hb,hf⟩:=rK (α:=bs×ay) (p:=λe cs m=>cs=dN e.1 e.2/\kZ W e.2 e.1.pairs/\e.1.pairs.length<=m) underlying51 (k:=5) aQ aN (λ_ _ m m' hm ⟨h1,h2,h3⟩=>⟨h1,h2,ai⟩) (λn cs y hy=>by obtain⟨c,pv,h1,h2,h3⟩:=SU hy;exact⟨(c,pv),h1,h2,h3⟩) h;cases hcs;refine⟨(dx n).map λi=>(f i).1,⟨a,cap,aJ,λi c hi=>?_⟩,by simpa using hb,λc hc=>?_⟩
 .rw[nM]at hi;have j4:i<n:=by
   rcases ji i n with hlt|CO
   .exact hlt
   .rw[vz (by simpa using CO)]at hi;cases hi
  rw[wT j4]at hi;obtain rfl:(f i).1=c:=by simpa using hi
  obtain⟨s,o,cs',e,hs,hc,rfl,hp,_⟩:=hf i j4;exact⟨s,o,e,hs,hc 0 ai,hc 1 ai,hc 2 ai,hc 3 ai,_,hc 4 ai,hp⟩
 .obtain⟨i,hi,rfl⟩:=pA.1 hc;obtain⟨s,o,cs',e,hs,hc,_,_,h3⟩:=hf i (pz.1 hi);exact h3
theorem SV{fuel n cap:Nat}{x:DataW H×List MemPlace}(h:DataW.trod enc aC W base spare held fuel 23 [.slice a n cap]=ae x):∃work:List (List bs),work.length=n/\RowsIn W a work/\n<=Rows.uptoBulk x.1/\∀l∈work,l.length<=Rows.uptoBulk x.1/\∀c∈l,c.pairs.length<=Rows.uptoBulk x.1:=by
 obtain⟨a',n',cap',f,hcs,hb,hf⟩:=rK (α:=List bs×ay) (p:=λe cs m=>cs=[e.2]/\zT W e.2 e.1/\e.1.length<=m/\∀c∈e.1,c.pairs.length<=m) underlying23 (k:=1) aQ aN (λ_ _ m m' hm ⟨h1,h2,h3,h4⟩=>⟨h1,h2,ai,λc hc=>dm (h4 c hc) hm⟩) (λn cs y hy=>by
  obtain⟨v,rfl⟩:∃v,cs=[v]:=by rcases open_slice underlying51 hy with⟨hcs,_⟩|⟨_,_,_,_,_,_,_,hcs,_⟩ <;>exact⟨_,hcs⟩
  obtain⟨l,h1,h2,h3⟩:=YF hy;exact⟨(l,v),rfl,h1,h2,h3⟩) h
 cases hcs;refine⟨(dx n).map λi=>(f i).1,aJ,λk l hk=>?_,hb,λl hl=>?_⟩
 .rw[nM]at hk;have j4:k<n:=by
   rcases ji k n with hlt|CO
   .exact hlt
   .rw[vz (by simpa using CO)]at hk;cases hk
  rw[wT j4]at hk;obtain rfl:(f k).1=l:=by simpa using hk
  obtain⟨s,o,cs',e,hs,hc,rfl,hr,_⟩:=hf k j4;refine⟨s,o,(f k).2,e,hs,?_,hr⟩;have:=hc 0 ai;rwa [Nat.mul_one,Nat.add_zero]at this
 .obtain⟨i,hi,rfl⟩:=pA.1 hl;obtain⟨s,o,cs',e,hs,hc,_,_,h3,h4⟩:=hf i (pz.1 hi);exact⟨h3,h4⟩
theorem SX{fuel:Nat}{x:DataW H×List MemPlace}(h:DataW.trod enc aC W base spare held fuel 25 cs=ae x):∃(wk tu ha:Option aP) (wc tc hc:Nat) (un:Int) (cc:cu),cs=(aW wk tu ha cc.work.length wc cc.turns.length tc cc.halt.length hc un).toList/\cc.until_=un.toNat/\RowsIn W wk cc.work/\j7 W tu cc.turns/\j7 W ha cc.halt/\
  cc.work.length<=Rows.uptoBulk x.1/\cc.turns.length<=Rows.uptoBulk x.1/\cc.halt.length<=Rows.uptoBulk x.1/\∀l∈cc.work,l.length<=Rows.uptoBulk x.1/\∀c∈l,c.pairs.length<=Rows.uptoBulk x.1:=by
 obtain⟨xs,n,_,hx,hl,hlen,hf⟩:=DataW.trod_struct underlying25 h;have hl4:cs.length=4:=by rw[hl];kernel_rfl
 have hx4:xs.length=4:=hlen;match cs,hl4,xs,hx4 with
 |[c0,c1,c2,c3],_,[y0,y1,y2,y3],_=>
  have e0:DataW.trod enc aC W base spare held n 23 [c0]=ae y0:=hf 0 _ rfl;have e1:DataW.trod enc aC W base spare held n 22 [c1]=ae y1:=hf 1 _ rfl;have e2:DataW.trod enc aC W base spare held n 22 [c2]=ae y2:=hf 2 _ rfl;have e3:DataW.trod enc aC W base spare held n 3 [c3]=ae y3:=hf 3 _ rfl;obtain⟨wk,wn,wc,rfl⟩:∃a n c,c0=.slice a n c:=by rcases open_slice underlying23 e0 with⟨hcs,_⟩|⟨_,_,_,_,_,_,_,hcs,_⟩ <;>cases hcs<;>exact⟨_,_,_,rfl⟩
  obtain⟨tu,tn,tc,rfl⟩:∃a n c,c1=.slice a n c:=by rcases open_slice underlying22 e1 with⟨hcs,_⟩|⟨_,_,_,_,_,_,_,hcs,_⟩ <;>cases hcs<;>exact⟨_,_,_,rfl⟩
  obtain⟨ha,hn,hc,rfl⟩:∃a n c,c2=.slice a n c:=by rcases open_slice underlying22 e2 with⟨hcs,_⟩|⟨_,_,_,_,_,_,_,hcs,_⟩ <;>cases hcs<;>exact⟨_,_,_,rfl⟩
  obtain⟨un,mO,_⟩:=DataW.trod_int underlying3 e3;cases mO;obtain⟨work,rfl,hR,hb0,agx⟩:=SV e0;obtain⟨turns,rfl,hT,hb1⟩:=FU e1;obtain⟨halt,rfl,hH,hb2⟩:=FU e2;have hbb:Rows.uptoBulk y0.1<=Rows.uptoBulk x.1/\Rows.uptoBulk y1.1<=Rows.uptoBulk x.1/\Rows.uptoBulk y2.1<=Rows.uptoBulk x.1:=by subst hx;simp only[List.map_cons,List.map_nil,Rows.uptoBulk,Rows.uptoBulkAll];omega
  exact⟨wk,tu,ha,wc,tc,hc,un,⟨work,turns,halt,un.toNat⟩,rfl,rfl,hR,hT,hH,dm hb0 hbb.1,dm hb1 hbb.2.1,dm hb2 hbb.2.2,λl hl=>⟨dm (agx l hl).1 hbb.1,λc hc=>dm ((agx l hl).2 c hc) hbb.1⟩⟩
end
end
section
namespace jointWhole
open Go.ChangeShapes Go.WideShapes Go.ChangeAt Go.RowKit Go.Conc Go.ConcN
theorem own:ownKnob prog.godebug=ah:=aQ
theorem laid:laidOutB aC=au:=aQ
def agy(a0:aj)(fr:aB)(fs:List aB)(a:aj):Prop:=fs=[]/\fr.mode=.returning/\fr.defers=[]/\fr.kind=.normal/\fr.fn=5/\(eL f5 fr.tmps).run aC a=.ok (.bool au) a/\kM a0 a
structure Kept(W r:aj):Prop where
 os:r.os=W.os
 output:r.output=W.output
 size:W.heap.size<=r.heap.size
 same:∀b,b<W.heap.size->r.heap[b]? =W.heap[b]?
theorem Kept.frame{r:aj}(h:Kept W r)(may:MemPlace->Prop):W.keptBut r may:=by refine⟨h.os,h.output,λi hi=>?_⟩;rw[h.same i hi];split<;>simp_all
theorem runs{wk tu ha:Option aP}{wc tc hc:Nat}{n v:Int}{cc:cu}(hL:nZ W wk tu ha cc un):
  ∃N last o w' t',runNT aC (N+1) (bS #[cy (gL aC 5 #[.int .i64 n,.int .i64 v,.agg (aW wk tu ha cc.work.length wc cc.turns.length tc cc.halt.length hc un)] .normal) []] W ah) #[]=(.ended o w',t')/\
   runN aC N (bS #[cy (gL aC 5 #[.int .i64 n,.int .i64 v,.agg (aW wk tu ha cc.work.length wc cc.turns.length tc cc.halt.length hc un)] .normal) []] W ah)=.next last/\step aC last=.ended o w'/\
   Conc.Good aC (λv r=>v=.bool au/\Kept W r) last o w' t':=by
 letI:Inhabited dc:=⟨⟨W⟩⟩
 let qo:Nat->Prop:=λb=>∀o,W.heap[b]? =ae o->gI o=au;let a0:aj:=iH qo (λ_=>ah) W;have jA:Sees qo (λ_=>ah) a0 W:=fE _ _ _;have hrel:Rel (Hid qo W) a0 W:=B8 λb o h1 h2=>h1 o h2;have Ch:∀b,W.heap.size<=b->qo b:=λb hb o ho=>by have:=(bF.1 ho).1;omega
 have ml:∀b o,W.heap[b]? =ae o->gI o=au->a0.heap[b]? =ae o:=λb o ho hk=>by
  have hN:qo b:=λo' xe=>by rw[ho]at xe;cases xe;exact hk
  show(iH qo (λ_=>ah) W).heap[b]? =_;rw[hide_need hN,ho];rfl
 have hle:∀{x:aP} {v:ay},W.cell? x=ae v->a0.cell? x=ae v/\x.block<a0.heap.size:=λ{x v} h=>by
  have hb:=ez W _ h;refine⟨?_,by rw[jA.size];exact hb⟩;have ho:∃c e f,W.heap[x.block]? =ae (.cells c e f):=by
   unfold fG at h;split at h
   .exact⟨_,_,_,by assumption⟩
   .cases h
  obtain⟨c,e,f,ho⟩:=ho;exact(dr (w:=W) ((ml _ _ ho rfl).trans ho.symm)).trans h
 have hL0:nZ a0 wk tu ha cc un:=⟨SQ @hle hL.R,FT @hle hL.T,FT @hle hL.H,hL.un,hL.rows⟩;have hz:ZigC aC au [] (sf aC S3) (λ_=>agy a0) .pre (gL aC 5 #[.int .i64 n,.int .i64 v,.agg (aW wk tu ha cc.work.length wc cc.turns.length tc cc.halt.length hc un)] .normal) [] a0:=by
  let b:aB:={(default:aB)with fn:=5,kind:=.normal};have wB:gL aC 5 #[.int .i64 n,.int .i64 v,.agg (aW wk tu ha cc.work.length wc cc.turns.length tc cc.halt.length hc un)] .normal=b.at {tmps:=#[.int .i64 n,.int .i64 v,.agg (aW wk tu ha cc.work.length wc cc.turns.length tc cc.halt.length hc un)] ++Array.replicate 198 aO,defers:=[]} [.code wlCode]:=by have hb:f5.body=ae wlCode:=(by unfold wlCode;rfl);have hn:f5.ntmps=201:=aQ;simp[gL,Frame.at,func5,hb,hn,b]
  rw[wB];refine Oj (n:=n) (v:=v) (wc:=wc) (tc:=tc) (hc:=hc) hL0 b [] [] rfl rfl trivial λi' e a' w' ⟨he,hd,hr,hh⟩=>?_;subst he;exact λtodo=>.stop ⟨rfl,rfl,hd,rfl,rfl,hr,hh⟩
 obtain⟨q,m',T',hN,hE⟩:=Vf hz (sl:=ah) jA hrel Ch (λ_ _ h _=>h) ⟨rfl,rfl⟩ (acx W);simp only[List.append_nil]at hN;have hG:=Vg (P:=aC) (fn:=f5) (v:=.bool au) (Post:=λv r=>v=.bool au/\Kept W r) aQ hE (λfr fs a ⟨h1,h2,h3,h4,h5,h6,h7⟩=>⟨h1,h2,h3,h4,by rw[h5];exact func5,by rw[h5];kernel_rfl,by
   simpa[eL,f5,go_sem]using h6⟩) λfr fs a r N ⟨_,_,_,_,_,_,h7⟩ Um Mf hs=>by
  refine⟨rfl,Mf.1,Mf.2,?_,λb hb=>?_⟩
  .rw[←hs.size,←jA.size];exact h7.size
  .obtain⟨o,ho⟩:∃o,W.heap[b]? =ae o:=⟨_,fP hb⟩;rw[ho];cases hk:gI o with
   |false=>exact Um b o ho hk
   |true=>obtain⟨y,hy,e,_⟩:=gz hs (h7.old b o (ml b o ho hk) λe=>by subst e;cases hk) (λe=>by subst e;cases hk);rw[hy,e];rfl
 obtain⟨N,last,o,w',t',h1,h2,h3,h4⟩:=hG;refine⟨q+N,last,o,w',t',?_,?_,h3,h4⟩
 .rw[Nat.add_assoc];exact dH hN h1
 .have hn:runN aC q (bS #[cy (gL aC 5 #[.int .i64 n,.int .i64 v,.agg (aW wk tu ha cc.work.length wc cc.turns.length tc cc.halt.length hc un)] .normal) []] W ah)=.next m':=by have:=congrArg Prod.fst hN;rwa [runNT_fst]at this
  rw[runN_add,hn];exact h2
theorem lifted(os:Os)(started:os.Started)(H:Type)(enc:bq×ay->H)(F:Stop.Interp):
  ReturnsInLeavingWide {} Tryz.checked os 5 .any ((Rows.OpenSpec.upto Rows.jointWholeSpec).pre6 enc aC f5 Rows.jointWholeUptoRow.domain aw) (((Rows.OpenSpec.upto Rows.jointWholeSpec).at F).post enc aC f5 aw au aw aw):=by
 refine AQ (C:=Tryz.checked) (s:=Rows.OpenSpec.upto Rows.jointWholeSpec) (k:=Rows.uptoSmall) rfl own started func5
  (OpenSpec.witness (enc:=enc) (C:=Tryz.checked) (s:=Rows.OpenSpec.upto Rows.jointWholeSpec) (k:=Rows.uptoSmall) rfl aw ⟨#[],#[.int .i64 0,.int .i64 0,.agg #[.slice ah 0 0,.slice ah 0 0,.slice ah 0 0,.int .i64 0]],[]⟩ 8 aQ aQ aQ
   (x:=([.lit (.int .i64 0),.lit (.int .i64 0),.agg [.nil,.nil,.nil,.lit (.int .i64 0)]],[],[])) aQ rfl aQ) ?_
 intro W base args ds gs before abN hW hk;have hval:∀(j:Nat) t v,f5.params[j]? =ae t->args[j]? =ae v->Value.okWide aC W .any base t v:=abN;have sN:=hW;obtain⟨p,q,Y8,hV,rfl,hfz,Ll⟩:=hW;have hA:DataW.TrodAll enc aC W 0 (λ_=>au) au f5.params.toList args.toList ds p:=Y8;rw[params5]at hA hval;obtain⟨v0,vs0,d0,ds0,p0,q0,aiH,rfl,rfl,h0,r0⟩:=trodAll_cons hA;obtain⟨v1,vs1,d1,ds1,p1,q1,rfl,rfl,rfl,h1,r1⟩:=trodAll_cons r0;obtain⟨v2,vs2,d2,ds2,p2,q2,rfl,rfl,rfl,h2,r2⟩:=trodAll_cons r1;obtain⟨rfl,rfl,rfl⟩:=trodAll_nil r2;obtain rfl:args=#[v0,v1,v2]:=by cases args;simp_all
 obtain⟨rfl,rfl⟩:=trodVars_none hV;obtain⟨cs,rfl,hcs⟩:=okWide_struct underlying25 (hval 2 25 v2 rfl rfl);obtain⟨n,rfl,rfl,rfl,wf0⟩:=open_int underlying3 (hval 0 3 v0 rfl rfl) h0;obtain⟨v,rfl,rfl,rfl,wf1⟩:=open_int underlying3 (hval 1 3 v1 rfl rfl) h1;obtain⟨YG,hf2⟩:=h2;have aix:DataW.trod enc aC W 0 (λ_=>au) au YG 25 cs.toList=ae (d2,p2):=hf2;obtain⟨wk,tu,ha,wc,tc,hc,un,cc,hcc,mO,hR,hT,hH,hb1,hb2,hb3,hb4⟩:=SX aix;obtain rfl:cs=aW wk tu ha cc.work.length wc cc.turns.length tc cc.halt.length hc un:=by cases cs;simpa using congrArg List.toArray hcc
 have qK:Rows.uptoBulk d2<=1048576:=by have:=of_decide_eq_true hk;simp only[jZ,kU,Rows.uptoBulkAll]at this;omega
 have hL:nZ W wk tu ha cc un:=by refine⟨hR,hT,hH,mO,λl hl=>?_⟩;obtain⟨h1,h2⟩:=hb4 l hl;have h1':l.length<=Rows.uptoBulk d2:=h1;refine⟨ai,λc hc=>?_⟩;have BF:c.pairs.length<=Rows.uptoBulk d2:=h2 c hc;omega
 clear Y8 abN;simp only[List.append_nil]at sN;obtain⟨N,last,o,w',t',e1,e2,e3,e4⟩:=runs (n:=n) (v:=v) (wc:=wc) (tc:=tc) (hc:=hc) hL;refine⟨N,last,o,w',t',e1,e2,e3,Conc.Good.mono e4 λv hp=>?_⟩;obtain⟨rfl,hK⟩:=hp;have hsame:∀x:MemPlace,x.block<W.heap.size->W.sameAt w' x:=λx hx=>by
  cases x with
  |cell b o=>exact dr (w:=W) (hK.same b hx)
  |map b=>exact hK.same b hx
 have DC:∀x∈p2,x.block<W.heap.size:=λx hx=>DataW.trod_lt YG _ _ _ hf2 x hx;have t2:DataW.Trod enc aC w' 0 (λb=>decide (b<W.heap.size)) au 25 (.agg (aW wk tu ha cc.work.length wc cc.turns.length tc cc.halt.length hc un)) d2 p2:=WideElems.Trod_stays laid aQ (of_decide_eq_true aQ) ⟨YG,hf2⟩ (λx hx=>hsame x (DC x hx)) λx hx=>by simpa using DC x hx
 exact⟨_,_,_,[],[] ++([] ++(p2++[])),[],sN,trodAll_cons_mk (shut_bool underlying4 _) trodAll_mk0,trodAll_cons_mk (shut_int underlying3 wf0) (trodAll_cons_mk (shut_int underlying3 wf1) (trodAll_cons_mk t2 trodAll_mk0)),rfl,hK.frame _,λh=>dB⟩
theorem over:Rows.jointWholeUptoRow.holds Tryz.pinned (Rows.OpenSpec.upto Rows.jointWholeSpec):=
 holds_leaving 5 f5 ⟨rfl,rfl,rfl⟩ ⟨rfl,rfl,rfl,rfl,⟨rfl,rfl,rfl,rfl,rfl⟩,rfl,rfl,rfl,rfl⟩ rfl aQ func5 aQ
  (of_decide_eq_true aQ) (by unfold Func.isWrapper;first|(rw[aX (by decide+kernel)];kernel_rfl)|(rw[aU (by decide+kernel)];exact⟨rfl,rfl⟩))
  (λos started H enc F=>lifted os started H enc F)
theorem proved:Rows.JointWholeUptoSaid:=over
#print axioms proved
end jointWhole
end
end Go.Proofs.YtfmibhmknlnoiaaGreat
