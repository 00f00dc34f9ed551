import Derived.Test.YtfmibhmknlnoiaaGreatQ00
import Derived.Test.YtfmibhmknlnoiaaGreatQ04
import Derived.Test.YtfmibhmknlnoiaaGreatQ05
import Derived.Test.YtfmibhmknlnoiaaGreatQ03
import Derived.Test.YtfmibhmknlnoiaaGreatQ02
set_option linter.all false
set_option maxRecDepth 100000
set_option maxHeartbeats 4000000
namespace Go.Proofs.YtfmibhmknlnoiaaGreat
open _root_.Go.Proofs.Tryz
open _root_.Option renaming some→ae,none→ah
open _root_.Bool renaming true→au,false→aw
open _root_.Go.Value renaming int→aq,pointer→aI,slice→aD,ownBlock→iE
open _root_.Go.Obj renaming cells→aK
open _root_.Go.Item renaming inRegion→bI
open _root_.Go renaming World→aj,Value→ay,Frame→aB,Program→bh,Oper→aZ,Addr→aP,TypeId→bq,undef→aO,yielded→dW,execOp→bT,Calls→b9,results→eL,stepG→bn,heap_alloc_new→gN,info_parts→kq
open _root_.Go.Conc renaming stepG_region_end→bP,stepG_seq→bU,stepG_region→gv
open _root_.Go.Proofs.Tryz renaming prog→aC
open _root_.Go.Exit renaming «then»→bE,inBlock→gu
open _root_.Go.Region renaming wanted→dF
open _root_.Go.World renaming setCell→fF,cell?→fG
open _root_.Go.Act renaming eval→cS
open _root_.Go.CallKind renaming early→gA
open _root_.List renaming replicate→eA,range→dx
open _root_.Go.IntKind renaming i64→af
variable{ι σ α:Type}{x:AR σ}{a:Act}{Lh:Act->aj->Prop}{ats:Array bq}{csC:Array ay}{d d0:bp}{b:aB}{At:aB->List aB->aj->Prop}{OA:Func}{fn:FuncId}{un:Int}{D:mK}{s s' s0:JS}{J:gS σ}{Jm:fM ι}{S:bN}{L:Lay σ}{eN:List (List bs)}{cs cs0 fs:List aB}{U:List aB->Prop}{vs zs:List Int}{k:List Item}{xs:List ay}{B F M Wg be br c ca cb co come db f AD hc j lo m no sz t tc wb wc wo:Nat}{j6:Nat->qM Bool}{nb:Nat->Nat}{ro0:Nat->Option (Nat×Nat)}{aa ao ha oa:Option aP}{Q:Ph->Exit->Act->aj->Prop}{Post:Ph->ay->aj->Prop}{P:bh}{β:Type}{e eC tI:bq}{dv fv iv lV v:ay}{R:ay->aj->Prop}{a' a0 w' w1 wp:aj}{i:ι}
section
open Go.Proofs.YtfmibhmknlnoiaaGreat.Pr
section
def Pr.Deep:Nat->Pr σ α->Prop
 |_,.ret _=>True
 |m,.line p=>Pr.Deep (m-1) p
 |m,.eff _ k=>∀s,Pr.Deep m (k s)
 |m,.stop=>m=0
theorem Pr.Deep.mono:∀{p:Pr σ α} {m m':Nat},p.Deep m->m'<=m->p.Deep m':=by
 intro p;induction p with
 |ret a=>exact λ_ _=>trivial
 |line p ih=>exact λh h'=>ih h ai
 |eff f k ih=>exact λh h' s=>ih s (h s) h'
 |stop=>intro m m' h h';have h:m=0:=h;show m'=0;omega
theorem Pr.Deep.bind{k:α->Pr σ β}:∀{p:Pr σ α} {m:Nat},p.Deep m->(∀a,(k a).Deep m)->(p.bind k).Deep m:=by
 intro p;induction p with
 |ret a=>exact λ_ h=>h a
 |line p ih=>exact λh h'=>ih h λa=>(h' a).mono ai
 |eff f q ih=>exact λh h' s=>ih s (h s) h'
 |stop=>exact λh _=>h
theorem Pr.Deep.seg:∀{p:Pr σ α} {m:Nat} {g:Bool} {own:Nat} {s:σ},p.Deep m->match p.seg g own s with
  |.fin _ _ _ _=>True
  |.line p' xX _=>xX=own+g.toNat/\(Pr.line p').Deep (m-g.toNat)
  |.lost=>m<=g.toNat:=by
 intro p;induction p with
 |ret a=>exact λ_=>trivial
 |line p ih=>
  intro m g own s h;cases g with
  |true=>
   have:=ih (m:=m-1) (g:=aw) (own:=own+1) (s:=s) h;show match Pr.seg p aw (own+1) s with|.fin _ _ _ _=>_|.line p' xX _=>_|.lost=>_
   cases e:Pr.seg p aw (own+1) s with
   |fin=>trivial
   |line p' xX s'=>rw[e]at this;exact this
   |lost=>rw[e]at this;simp at this⊢;omega
  |false=>exact⟨rfl,h⟩
 |eff f k ih=>exact λh=>ih _ (h _)
 |stop=>intro m g own s h;have h:m=0:=h;show m<=_;omega
def AR.Ii(M:Nat)(x:AR σ):Prop:=∀k b own p,(x.w k).now=ae (b,own,p)->own<=x.all/\(Pr.line p).Deep (M-own)
theorem AR.KZ{c:cu}(hc:∀k d,d∈c.calls k->(L.call k d).Deep M)(h:x.Ii M)(hM:x.all+2<=M){k:Nat}(hl:(x.w k).now=ah->(x.w k).got.length< (c.calls k).length){e:Pr.End σ kC}(he:(x.w k).seg L c k t x.s=(be,e)):
  e≠.lost/\∀p' xX s',e=.line p' xX s'->xX<=x.all+1/\(Pr.line p').Deep (M-xX):=by
 unfold AW.seg at he;cases hn:(x.w k).now with
 |some q=>
  obtain⟨b,own,p⟩:=q;rw[hn]at he;obtain⟨h1,h2⟩:=h k b own p hn;have hs:=Pr.Deep.seg (p:=p) (g:=aw) (own:=own+1) (s:=x.s) (m:=M-own-1) h2;simp only[Prod.mk.injEq]at he;obtain⟨_,rfl⟩:=he;refine⟨λhx=>?_,λp' xX s' hx=>?_⟩
  .rw[hx]at hs;simp at hs;omega
  .rw[hx]at hs;simp at hs;obtain⟨a1,a2⟩:=hs;subst a1;exact⟨ai,a2⟩
 |none=>
  rw[hn]at he;simp only at he;have hl:=hl hn;have hd:(c.calls k)[(x.w k).got.length]? =ae (c.calls k)[(x.w k).got.length]:=eQ hl;rw[hd]at he;simp only[Prod.mk.injEq]at he;obtain⟨_,rfl⟩:=he;have hs:=Pr.Deep.seg (p:=L.call k (c.calls k)[(x.w k).got.length]) (g:=au) (own:=0) (s:=x.s) (m:=M) (hc k _ (rV _));refine⟨λhx=>?_,λp' xX s' hx=>?_⟩
  .rw[hx]at hs;simp at hs;omega
  .rw[hx]at hs;simp at hs;obtain⟨a1,a2⟩:=hs;subst a1;exact⟨ai,a2⟩
theorem AR.Sx{c:cu}(hc:∀k d,d∈c.calls k->(L.call k d).Deep M)(h:x.Ii M)(hM:x.all+2<=M):(x.next L c).Ii M:=by
 intro k b own p hn;have qL:(x.next L c).all=x.all+1:=rfl;rw[qL];by_cases e:k=x.pick c
 .subst e;have hw:(x.next L c).w (x.pick c)=(x.w (x.pick c)).settle (x.all+1) ((x.w (x.pick c)).seg L c (x.pick c) (x.all+1) x.s).1 ((x.w (x.pick c)).seg L c (x.pick c) (x.all+1) x.s).2:=by show(if x.pick c=x.pick c then _ else _)=_;rw[aX rfl]
  rw[hw]at hn;by_cases hl:(x.w (x.pick c)).now=ah/\(c.calls (x.pick c)).length<=(x.w (x.pick c)).got.length
  .have hs:((x.w (x.pick c)).seg L c (x.pick c) (x.all+1) x.s)=(x.all+1,.lost):=(by unfold AW.seg;rw[hl.1];simp only;rw[vz hl.2]);rw[hs]at hn;simp only[AW.settle]at hn;rw[hl.1]at hn;cases hn
  .obtain⟨h1,h2⟩:=AR.KZ hc h hM (k:=x.pick c) (by intro hx;apply eV;intro hg;exact hl ⟨hx,ai⟩) (t:=x.all+1) (be:=((x.w (x.pick c)).seg L c (x.pick c) (x.all+1) x.s).1) (e:=((x.w (x.pick c)).seg L c (x.pick c) (x.all+1) x.s).2) rfl;cases he:((x.w (x.pick c)).seg L c (x.pick c) (x.all+1) x.s).2 with
   |fin a g o s'=>rw[he]at hn;cases hn
   |line p' xX s'=>rw[he]at hn;simp only[AW.settle,dD,Prod.mk.injEq]at hn;obtain⟨_,rfl,rfl⟩:=hn;exact h2 _ _ _ he
   |lost=>exact aT he h1
 .rw[AR.Ci L c x (bZ e)]at hn;obtain⟨h1,h2⟩:=h k b own p hn;exact⟨ai,h2⟩
theorem run_on{tW k:Nat}{t:tO}{g:Bool}{w:Go.World}(hc:∀k d,d∈J.c.calls k->(J.L.call k d).Deep M)(hM:J.c.most+2<=M):¬Run J d tW k t g be .stop w:=by
 intro R;obtain⟨s,ow,sl,hm,_⟩:=R.ex;have wV:=hm.few;have hturn:=hm.turn;have key:∀m,m<J.c.most->(J.ar (J.n+m)).Ii M:=λm=>by
  induction m with
  |zero=>intro _ k b own p hn;rw[J.tU ai]at hn;cases hn
  |succ m ih=>intro h1;rw[show J.n+(m+1)=J.n+m+1 by omega,J.Bc ai];have hall:(J.ar (J.n+m)).all=m:=(by unfold gS.ar;rw[AR.Mu];omega);exact AR.Sx hc (ih ai) (by rw[hall];omega)
 have hall:=hm.all;have hk:=key (t.t-1-J.n) ai;rw[show J.n+(t.t-1-J.n)=t.t-1 by omega]at hk;exact(AR.KZ hc hk ai (k:=k) (λ_=>hm.live) (t:=t.t-J.n) hm.seg).1 rfl
end
theorem La{o v:Int}:(casP c o v).Deep m:=λ_=>trivial
theorem EB{d:Nat}{es:List fC}(hh:∀d,(j6 d).Deep m):∀f i,(installsP j6 d es f i).Deep (min f (m+1)):=by
 intro f;induction f with
 |zero=>intro i;show min 0 (m+1)=0;omega
 |succ f ih=>
  intro i;unfold installsP;cases es[i]? with
  |none=>exact trivial
  |some e=>
   intro s;have hi:∀i,(installsP j6 d es f i).Deep (min (f+1) (m+1) -1):=λi=>(ih i).mono ai;by_cases h:s.st d≠0
   .simp only[aX h];exact trivial
   .simp only[aU h];refine Pr.Deep.bind La λok=>?_;cases ok with
    |true=>exact hi _
    |false=>
     intro s1;by_cases h1:s1.w e.cell=bo d
     .simp only[aX h1];exact(hi _).mono ai
     .simp only[aU h1];by_cases h2:s1.w e.cell<0
      .simp only[aX h2];exact Pr.Deep.bind ((hh _).mono ai) λ_=>(hi _).mono ai
      .simp only[aU h2];exact λ_=>trivial
theorem NZ{d:Nat}{b:Bool}:∀l,(jH d b l).Deep m:=by
 intro l;induction l with
 |nil=>exact trivial
 |cons e l ih=>exact Pr.Deep.bind La λ_=>ih
theorem FL:∀f d,(kt f d).Deep (f-1):=by
 intro f;induction f with
 |zero=>exact λd=>rfl
 |succ f ih=>
  intro d s;refine Pr.Deep.bind ((EB ih f 0).mono ai) λok=>?_;refine Pr.Deep.bind ?_ λ_=>?_
  .split
   .exact λ_=>trivial
   .exact trivial
  .intro s';exact Pr.Deep.bind (NZ _) λ_=>trivial
theorem FM(F:Nat):∀f c,(iF F f c).Deep (min f F):=by
 intro f;induction f with
 |zero=>intro c;show min 0 F=0;omega
 |succ f ih=>
  intro c s;by_cases h:s.w c<0
  .simp only[aX h];exact Pr.Deep.bind ((FL F _).mono ai) λ_=>(ih c).mono ai
  .simp only[aU h];exact trivial
theorem FN(F k:Nat)(es:List fC):(doesP F k es).Deep (F-1):=by
 intro s;by_cases h:1024<=s.made k
 .simp only[aX h];exact trivial
 .simp only[aU h];exact λs=>Pr.Deep.bind (FL F _) λ_=>trivial
theorem Df{pr:β->Bool×Int}{q q':qM β}(hq:q=.line q')(hd:q'.Deep M):∀m,(againG pr q m).Deep (min m M):=by
 subst hq;intro m;induction m with
 |zero=>show min 0 M=0;omega
 |succ m ih=>
  unfold againG;show Pr.Deep (min (m+1) M-1) (q'.bind _);refine Pr.Deep.bind (hd.mono ai) λx=>?_;by_cases h:(pr x).1=au\/(pr x).2≠0
  .simp only[aX h];exact trivial
  .simp only[aU h];exact Pr.Deep.mono (m:=min m M) (m':=min (m+1) M-1) ih ai
theorem N0(F:Nat):∀l,(g7 F l).Deep F:=by
 intro l;induction l with
 |nil=>exact trivial
 |cons c l ih=>exact Pr.Deep.bind ((FM F F c).mono ai) λ_=>Pr.Deep.bind ih λ_=>trivial
theorem N6(F k:Nat):∀l pre,(tryChP (F+1) k pre l).Deep F:=by
 intro l;induction l with
 |nil=>exact λpre=>(FN (F+1) k pre).mono ai
 |cons e l ih=>
  intro pre;unfold tryChP;refine Pr.Deep.bind ((FM (F+1) (F+1) _).mono ai) λh=>?_;split
  .exact trivial
  .exact ih _
theorem deep_joint{n k:Nat}(hF:2<=F)(hn:1<=n)(c:bs)(hk:c.kind=2\/c.kind=4)(hok:pq n c):(uk F n k c).Deep (F-2):=by
 obtain⟨F,rfl⟩:∃f,F=f+1:=⟨F-1,ai⟩;obtain⟨n,rfl⟩:∃f,n=f+1:=⟨n-1,ai⟩;unfold uk;rw[aU (by rcases hk with h|h<;>rw[h] <;>decide),aU (by rcases hk with h|h<;>rw[h] <;>decide)];by_cases h4:c.kind=4
 .rw[aX h4];refine Pr.Deep.bind ?_ λ_=>trivial;unfold vG;have hd:(ku (F+1) k (n+1)).Deep F:=by unfold ku;exact Pr.Deep.bind ((N0 (F+1) _).mono ai) λ_=>Pr.Deep.bind ((FN (F+1) k _).mono ai) λ_=>trivial
  have hq:∃q',ku (F+1) k (n+1)=.line q':=by unfold ku;rw[CQ,xS];exact⟨_,rfl⟩
  obtain⟨q',hq⟩:=hq;rw[hq]at hd;refine Pr.Deep.bind ((Df hq (M:=F-1) hd (F+1)).mono ai) λr=>?_;split
  .exact trivial
  .exact trivial
 .have h2:=hk.resolve_right h4;obtain⟨_,_,_,hp⟩:=hok h2;rw[aU h4,aX h2,hp,C1];have hd:=N6 F k (ij (n+1) c.a c.b) [];have hq:∃q',tryChP (F+1) k [] (ij (n+1) c.a c.b)=.line q':=by unfold ij;rw[CQ,xS];exact⟨_,rfl⟩
  obtain⟨q',hq⟩:=hq;rw[hq]at hd⊢;exact Pr.Deep.bind ((Df rfl (M:=F-1) hd (F+1)).mono ai) λ_=>trivial
end
section
open Go Go.Conc Go.ConcN Go.RowKit
variable[Inhabited dc]
def Sy(F b c lo n:Nat)(cc:cu)(s0:JS):gS JS:={L:=cI F b c lo n,c:=cc,s0:=s0,tA:=48}
theorem Sz{b:Nat}{l:List Int}{w:aj}(h:uw b c B iv l w):Qr w iv l:=by
 have hown:=h.1;rcases hown.2 with⟨rfl,h0⟩|⟨g,cap,cur,rfl,h1,h2,h3⟩
 .obtain rfl:l=[]:=yH.1 h0;exact⟨ah,0,rfl,λi hi=>by simp at hi⟩
 .refine⟨ae ⟨g,0,ah⟩,cap,rfl,λi hi=>⟨_,rfl,rfl,?_⟩⟩;have:=hown.cellAt i dp;rw[eB,this];simp[eF,hi]
theorem Yi{b n:Nat}{cc:cu}{ro:Nat->Option (Nat×Nat)}(hL:(cI F b c lo n).Ok ro)(hlo:∃x,ro x≠ah/\lo<=x+1)(xZ:cc.most<=20000)(h8:cc.n<=8)(hn:1<=n/\n<=64)(hF:20004<=F)(hk2:∀k d,d∈cc.calls k->(d.kind=2\/d.kind=4)/\pq n d):
  DoSpec (Sy F b c lo n cc s0) ro 181 (aI (ae ⟨b,0,ah⟩)):=by
 intro d k nb tW H hro a t w v ha R hv;subst hro;obtain⟨pv,rfl,Ip,_⟩:=hv.ex;obtain⟨hkd,hok⟩:=hk2 k a ha;have Lt:a.kind=2->∃pb po pc,pv=aD (ae ⟨pb,po,ah⟩) (2*n) pc/\2*n<=pc/\qy (ae ⟨pb,po,ah⟩) (ij n a.a a.b) w:=λh2=>by
  obtain⟨_,_,_,hp⟩:=hok h2;obtain⟨x,cap,rfl,tC,hc⟩:=Ip;rw[hp,wZ]at tC hc⊢;obtain⟨⟨pb,po,_⟩,rfl,rfl,_⟩:=hc 0 ai;refine⟨pb,po,cap,rfl,tC,λj e he=>?_⟩;have hj:j<n:=by have:=(eX.1 he).1;rwa [qF]at this
  rw[FC n _ _ j hj]at he;obtain rfl:=bj he;obtain⟨x1,e1,_,a1,a2⟩:=hc (2*j) ai;obtain⟨x2,e2,_,a3,a4⟩:=hc (2*j+1) ai;obtain rfl:=bj e1;obtain rfl:=bj e2;obtain⟨g1,g2⟩:=NM n a.a a.b j hj;rw[g1]at a1 a2;rw[g2]at a3 a4;exact⟨pb,po,rfl,a1,a2,by rw[show po+2*(2*j) +2=po+2*(2*j+1)by omega];exact a3,by rw[show po+2*(2*j) +2+1=po+2*(2*j+1) +1 by omega];exact a4⟩
 have hk8:k<8:=by have:k<cc.n:=H.n;omega
 obtain⟨be,Lj⟩:∃be,be=(t- (Sy F b c lo n cc s0).n:Nat):=⟨_,rfl⟩;rw[←Lj]at R;have DY:∀(t':tO) g w,¬Run (Sy F b c lo n cc s0) d tW k t' g be .stop w:=λt g w=>run_on (M:=F-2) (λk x hx=>deep_joint ai hn.1 x (hk2 k x hx).1 (hk2 k x hx).2) (by show cc.most+2<=F-2;omega);have aie:lo<=w.heap.size:=by obtain⟨x,hx,hx2⟩:=hlo;have:=H.ro x hx;have:=R.blk;omega
 refine(VX (ahI (J:=Sy F b c lo n cc s0) (tW:=tW) (be:=be) H hL xZ hk8 DY) hn (cc:=a) (pv:=pv) hkd hok Lt ⟨au,R⟩ aie).mono ?_;rintro t' r w' ⟨a,iv,rfl,hm,hp,⟨g',R'⟩,K,hi⟩;rw[←Lj];refine⟨g',a,R',K,⟨0,0,0,iv,aD ah 0 0,by rw[hm];rfl,Sz hi,by rw[hp];exact⟨ah,0,rfl,bJ _,λi hi=>by simp at hi⟩,λx n e h=>?_⟩⟩;rcases h with h|h
 .subst h;rcases hi.1.2 with⟨h,_⟩|⟨g,cap,cur,h,h1,h2,_⟩
  .cases h
  .simp only[uj,dD]at h;obtain⟨rfl,_,_⟩:=h;exact⟨h1,hi.2 g rfl,_,h2,bu,rfl⟩
 .cases h
theorem SA{b n:Nat}{cc:cu}{ro:Nat->Option (Nat×Nat)}(hL:(cI F b c lo n).Ok ro)(hlo:∃x,ro x≠ah/\lo<=x+1)(xZ:cc.most<=20000)(h8:cc.n<=8)(hn:1<=n/\n<=64)(hF:20004<=F)(hk2:∀k d,d∈cc.calls k->(d.kind=2\/d.kind=4)/\pq n d)(hlen:∀i,(cc.calls i).length<=64)
  (hmeth:∀(w:aj) (args:Array ay),(callMethod dv "Do" args).runT aC w #[]=(.ok (.enter 181 (#[aI (ae ⟨b,0,ah⟩)] ++args)) w,#[])):
  Gig (Sy F b c lo n cc s0) ro 181 (aI (ae ⟨b,0,ah⟩)) dv:=by
 refine⟨hL,xZ,rfl,hmeth,Yi hL hlo xZ h8 hn hF hk2,λt i hi=>?_,λi hi=>by have:=hlen i;show(cc.calls i).length<100000;omega⟩;have:=AR.at_len (cI F b c lo n).toLay cc s0 (t-cc.n) i;have:=hlen i;show((AR.at (cI F b c lo n).toLay cc s0 (t-cc.n)).w i).got.length<100000;omega
end
section
open Go Go.Conc Go.ConcN Go.RowKit
open Go.ConcR (KK wgBlock WgAt stA smA rd wr mk Payload Aside2 DC0)
attribute [local go_sem] ba bf bH a8 bC bK aS aV
variable[Inhabited dc]
section
variable{σ:Type}{J:gS σ}{ro0:Nat->Option (Nat×Nat)}{wb wo wc tc hc:Nat}{tu ha:Option aP}{csC:Array ay}{eC:bq}{a0 w w2 a':aj}{S:bN}{cs0:List aB}{come gone:Nat}{AD:Nat}{x dv:ay}
variable{Stop:Ph->aB->List aB->aj->Prop}{U:List aB->Prop}
theorem N7{b:aB}{act:Act}{ops:Array aZ}{k:List Item}{cs:List aB}{o:aZ}(hk:b.kind≠.early)(ho:ops[0]? =ae o)(hw:dF o (dW ops act.tmps)=au)(hop:o.op=.alloc 165)(w3:aj):
  bn aC au (cy (b.at act (bI ops [0]::k)) cs) w3=.go (cy (b.at (act.put o.dst (aI (ae ⟨w3.heap.size,0,ah⟩))) (bI ops []::k)) cs) {w3 with heap:=w3.heap.push (wgBlock link.tWg 0 0)} #[]:=by
 have hr:(bT act.eval o).runT aC w3 #[]=(.ok (.value (aI (ae ⟨w3.heap.size,0,ah⟩))) {w3 with heap:=w3.heap.push (wgBlock link.tWg 0 0)},#[]):=by unfold bT;simp only[hop];simp[go_sem,wgBlock]
 have qI:((b.at act (bI ops [0]::k)).kind==gA)=aw:=by show(b.kind==gA)=aw;cases e:b.kind<;>first|rfl|exact aT e hk
 have mh:(b.at act (bI ops [0]::k)).finish (aI (ae ⟨w3.heap.size,0,ah⟩))=b.at (act.put o.dst (aI (ae ⟨w3.heap.size,0,ah⟩))) (bI ops []::k):=by rw[iB,ho];rfl
 have h:=(stepG_oper (P:=aC) (main:=au) (b:=b) (a:=act) (k:=k) (cs:=cs) (w:=w3) (rest:=[]) ho hw).trans (jy (fr:=b.at act (bI ops [0]::k)) (cs:=cs) qI hr);rw[mh,show seen aC (b.at act (bI ops [0]::k)).fn #[] ++ #[]=#[]from by simp[seen]]at h;exact h
theorem N8(hcs:NE cs0)(C:iP J ro0 wb wo wc tc hc tu ha csC eC a0){cs:Array ay}(A:jV J ro0 cs dv come gone a0 w)(hcl:come<w.heap.size/\gone<w.heap.size)(hL:J.L.Ok (roW ro0 (a0.heap.size+1)))
  {b:aB}{act:Act}{ops:Array aZ}{k:List Item}{fs:List aB}{o:aZ}(hk:b.kind≠.early)(ho:ops[0]? =ae o)(hw:dF o (dW ops act.tmps)=au)(hop:o.op=.alloc 165)
  (h:∀w1,pE (jK S cs0 J.n come gone w.heap.size wb csC eC (roW ro0 (a0.heap.size+1))) (J.cP (jK S cs0 J.n come gone w.heap.size wb csC eC (roW ro0 (a0.heap.size+1))).W) w w1->
   ZigC aC au cs0 (JP aC S cs0 λd=>J.cP d.W) Stop (.run 0 (jK S cs0 J.n come gone w.heap.size wb csC eC (roW ro0 (a0.heap.size+1)))) (b.at (act.put o.dst (aI (ae ⟨w.heap.size,0,ah⟩))) (bI ops []::k)) fs w1):
  ZigC aC au cs0 (JP aC S cs0 λd=>J.cP d.W) Stop .pre (b.at act (bI ops [0]::k)) fs w:=by
 refine .jump (K:=λi' ZJ dg a'=>i'=.run 0 (jK S cs0 J.n come gone w.heap.size wb csC eC (roW ro0 (a0.heap.size+1)))/\ZJ=b.at (act.put o.dst (aI (ae ⟨w.heap.size,0,ah⟩))) (bI ops []::k)/\dg=fs/\pE (jK S cs0 J.n come gone w.heap.size wb csC eC (roW ro0 (a0.heap.size+1))) (J.cP (jK S cs0 J.n come gone w.heap.size wb csC eC (roW ro0 (a0.heap.size+1))).W) w a')
  ⟨_,b.at (act.put o.dst (aI (ae ⟨w.heap.size,0,ah⟩))) (bI ops []::k),rfl,rfl,rfl,Sg hcs A C hL (λw3 hw3=>?_) hcl,rfl⟩ ?_
 .have:=N7 (b:=b) (act:=act) (k:=k) (cs:=fs++cs0) hk ho hw hop w3;rw[hw3]at this;exact this
 .rintro i' ZJ dg a' ⟨rfl,rfl,rfl,V⟩;exact h a' V
theorem SB(hcs:NE cs0)(C:iP J ro0 wb wo wc tc hc tu ha csC eC a0)(A:jV J ro0 (aW (ae ⟨wb,wo,ah⟩) tu ha J.n wc J.c.turns.length tc J.c.halt.length hc J.c.until_) dv come gone a0 w)(hcl:come<w.heap.size/\gone<w.heap.size)(hL:J.L.Ok (roW ro0 (a0.heap.size+1))){a:Act}(hA:NS a0.heap.size (a0.heap.size+1) (a0.heap.size+2) come gone a)
  {tail:Code}{Q:Ph->Exit->Act->aj->Prop}(hQ:∀a' w1,pE (jK S cs0 J.n come gone w.heap.size wb csC eC (roW ro0 (a0.heap.size+1))) (J.cP (jK S cs0 J.n come gone w.heap.size wb csC eC (roW ro0 (a0.heap.size+1))).W) w w1->LA a0.heap.size (a0.heap.size+1) (a0.heap.size+2) come gone w.heap.size (aD ah 0 0) wb wo J.n wc 0 a'->
   wpM aC au cs0 (JP aC S cs0 λd=>J.cP d.W) Stop U 33 iG (λi'=>bE (λa' w'=>wpM aC au cs0 (JP aC S cs0 λd=>J.cP d.W) Stop U 33 tail Q i' a' w') (Q i')) (.run 0 (jK S cs0 J.n come gone w.heap.size wb csC eC (roW ro0 (a0.heap.size+1)))) a' w1):
  wpM aC au cs0 (JP aC S cs0 λd=>J.cP d.W) Stop U 33 (.seq cX.r.r.r.l (.seq cX.r.r.r.r.l (.seq (.seq cX.r.r.r.r.r.l.l iG) tail))) Q .pre a w:=by
 have hbase:=λw1 (V:pE (jK S cs0 J.n come gone w.heap.size wb csC eC (roW ro0 (a0.heap.size+1))) (J.cP (jK S cs0 J.n come gone w.heap.size wb csC eC (roW ro0 (a0.heap.size+1))).W) w w1)=>(rF A C rfl V).1.c;have hj:=λ{b act ops k fs o}=> @N8 _ σ J ro0 wb wo wc tc hc tu ha csC eC a0 w S cs0 come gone dv Stop hcs C _ A hcl hL b act ops k fs o;have HB:=aA hbase;have HQ:=aA hQ;clear hbase hQ A C hL;generalize A8:jK S cs0 J.n come gone w.heap.size wb csC eC (roW ro0 (a0.heap.size+1))=d0 at*;refine wpM_seq (M8 λb k fs hfn Jc hu hnext=>?_);have HX:=aA hnext;have Lj:b.kind≠.early:=by rw[Jc];decide
 clear hnext hu;simp only[bE]at HX;cases hA;simp only[aW]at HB;simp only[cX,f33,Code.l,Code.r,cN]at HX⊢;refine .pure (λ_=>gv) ?_;refine rg ?_;refine hj Lj rfl rfl rfl λw1 V=>?_;clear hj;have hc:=HB.out w1 V;have HV:=aA V;clear V;walk_nrm;refine .pure (λ_=>bP) (HX.out _ _ _ ?_);have q0:=cO hc 0;clear hc HB;refine ZQ λτ=>?_;have abE:iG=iG:=rfl
 conv at abE=>rhs;simp only[iG,cX,f33,Code.l,Code.r,cN]
 refine wpM_seq (wpM_seq (wpM_lone iD hcs aQ (oT rfl) (zX _ aN _) (λτ=>?_)));go_wp2;refine⟨_,bD _ _,?_⟩;rw[←abE];exact fu (HQ.out _ _ HV.out (LA.mk ..)) λi' e a' w' h=>by cases e<;>exact h
end
end
section
open Go Go.Conc Go.ConcN Go.RowKit
attribute [local go_sem] ba bf bH a8 bC bK aS aV
variable[Inhabited dc]
inductive IsE(br gone Wg tb:Nat):Act->Prop
 |mk (u0 u1 u2 u3 u5 u6 u7 sK nW nX mU mB u16 lK lL lM lN mV mX u23 u24 mY u26 lO u28 lQ lR mC u32 u33 mD mE mF mG mZ m9 nV oU oV pU u44 pV oX oY oZ o6 o7 o8 o9:ay):IsE br gone Wg tb {tmps:=#[u0,u1,u2,u3,aI (ae ⟨br,0,ah⟩),u5,u6,u7,.chan (ae gone),aI (ae ⟨Wg,0,ah⟩),sK,nW,nX,mU,aI (ae ⟨tb,0,ah⟩),mB,u16,lK,lL,lM,lN,mV,mX,u23,u24,mY,u26,lO,u28,lQ,lR,mC,u32,u33,mD,mE,mF,mG,mZ,m9,nV,oU,oV,pU,u44,pV,oX,oY,oZ,o6,o7,o8,o9],defers:=[]}
section
variable{tu:Option aP}{w:aj}{bc bd:Nat}{x:ay}
variable{Stop:Ph->aB->List aB->aj->Prop}
theorem RunAt.agf(R:RunAt J d0 w1 d nb lV w)(C:iP J ro0 wb wo wc tc hc tu ha csC eC a0)(hj:d.j=J.n)(hro:∀b f,ro0 b=ae f->∃c e,a0.heap[b]? =ae (aK c e (0,0))/\w1.heap[b]? =ae (aK c e f))(hrd:∀b,ro0 b≠ah->d0.ro b≠ah){g:Nat}(hlV:lV=aD (ae ⟨g,0,ah⟩) J.n c):
  PCall J d (ae ⟨wb,wo,ah⟩) tu ha wc tc hc g c w:=by
 obtain⟨n0,n8,nu⟩:=C.n;obtain⟨ps,hrow,I9⟩:=R.row;have hrow':=hrow;rw[hlV,hj]at hrow';have hB:=R.B;have hc1:∀(b o:Nat) v,ro0 b≠ah->a0.cell? ⟨b,o,ah⟩=ae v->w.cell? ⟨b,o,ah⟩=ae v:=λb o v hb h=>by obtain⟨f,hf⟩:=nE.1 hb;obtain⟨c',e,h1,h2⟩:=hro b f hf;refine R.Vk (y:=⟨b,o,ah⟩) ?_;rw[←h];simp only[fG,h1,h2]
 have hrW:∀b,ro0 b≠ah->∀k,k<J.n->b≠d.W k:=λb hb k hk e=>by have h1:=R.Sq.ro b (by rw[R.Sq.E.ro];exact hrd b hb);have h2:=R.Sq.lt k ai;omega
 have tC:J.n<=c:=by
  rcases hrow'.2 with⟨e,_⟩|⟨g',cap',cur,e,_,_,h,_⟩
  .cases e
  .simp only[uj]at e;rw[e.2.2];exact h
 refine⟨n8,nu,tC,own_lt hrow' rfl,λi hi=>by have:=R.Sq.lt i ai;omega,λi hi=>⟨?_,λk hk=>R.far g (by rw[hlV];rfl) k ai⟩,λi hi=>?_,?_,C.tl,λi hi=>?_⟩
 .rw[hrow'.cellAt i ai];exact I9 i ai
 .obtain⟨hb,ho,h1,h2,h3⟩:=C.ha i hi;exact⟨hb,ho,h1,hc1 _ _ _ h3 h2,hrW hb h3⟩
 .rcases C.tu with h|⟨tb,to,h1,h2⟩
  .exact⟨.inl h⟩
  .exact⟨.inr ⟨tb,to,h1,λi hi=>hc1 _ _ _ (h2 i hi).1 (h2 i hi).2⟩⟩
 .have:=R.eyes i ai;rwa [hj]at this
theorem RunAt.aif(R:RunAt J d0 w1 d nb lV w)(hP:d0.P=aC)(hbase:d0.base=J.n)(hj:d.j=J.n):Re J d:=by refine⟨R.Sq.E.P.trans hP,R.Sq.E.base.trans hbase,hj,λi hi=>?_⟩;rw[R.Sq.facts i ai];simp[gO]
theorem Yj(hU:∀c fs,U fs->U (c::fs))(hcs:NE (d0.cs0))(R:RunAt J d0 w1 d nb lV w)(C:iP J ro0 wb wo wc tc hc tu ha csC eC a0)(Ba:RunBase J d0 bc bd br (aW (ae ⟨wb,wo,ah⟩) tu ha J.n wc J.c.turns.length tc J.c.halt.length hc J.c.until_) dv wb wo w1)(hj:d.j=J.n)(hro:∀b f,ro0 b=ae f->∃c e,a0.heap[b]? =ae (aK c e (0,0))/\w1.heap[b]? =ae (aK c e f))(hrd:∀b,ro0 b≠ah->d0.ro b≠ah)(hP:d0.P=aC)(hbase:d0.base=J.n)(hgot:∀t i,i<J.n->((J.ar t).w i).got.length<100000)
   (hA:LA bc bd br d.come d.gone d.Wg lV wb wo J.n wc J.n a) {tail:Code}
  (hQ:∀a' t w0 w3 aa ca ao no co,IsE br d.gone d.Wg w3.heap.size a'->GX J d w t w0 (.agg #[aD aa J.n ca,aD ao no co,aq af ((t-J.n:Nat):Int),.bool ((J.ar t).any J.c)]) w3->
   wpM aC au d0.cs0 (JP aC S d0.cs0 λd=>J.cP d.W) Stop U 33 tail Q (.read t d w0) a' (w3.alloc (aK #[aD aa J.n ca,aD ao no co,aq af ((t-J.n:Nat):Int),.bool ((J.ar t).any J.c)] 31))):
  wpM aC au d0.cs0 (JP aC S d0.cs0 λd=>J.cP d.W) Stop U 33 (.seq cX.r.r.r.r.r.r.l tail) Q (.run J.n d) a w:=by
 obtain⟨n0,n8,nu⟩:=C.n;obtain⟨g,c,hlV⟩:∃g c,lV=aD (ae ⟨g,0,ah⟩) J.n c:=by
  obtain⟨ps,hrow,_⟩:=R.row;rcases hrow.2 with⟨_,h⟩|⟨g,cap,cur,h,_⟩
  .omega
  .exact⟨g,cap,by rw[h,hj]⟩
 have PC:=R.agf C hj hro hrd hlV;have Bo:=R.aif hP hbase hj;have aih:NE (d.cs0):=trivial;have hp:=Rt (S:=S) (Stop:=Stop) (U:=U) aih Bo PC hgot;rw[R.Sq.E.cs0]at hp;have hbc:w.heap[bc]? =ae (aK (aW (ae ⟨wb,wo,ah⟩) tu ha J.n wc J.c.turns.length tc J.c.halt.length hc J.c.until_) 25 (0,0)):=R.old _ _ Ba.c bu;have q:∀o v,(aW (ae ⟨wb,wo,ah⟩) tu ha J.n wc J.c.turns.length tc J.c.halt.length hc J.c.until_)[o]? =ae v->w.cell? ⟨bc,o,ah⟩=ae v:=λo v h=>by rw[ax hbc];exact h
 have q0:=q 0 _ rfl;have q1:=q 1 _ rfl;have q2:=q 2 _ rfl;have q3:=q 3 _ rfl;have HP:=aA hp;have HQ:=aA hQ;clear hp hQ q hbc PC Bo R C Ba hro hrd hgot;subst hlV;cases hA;simp only[cX,f33,Code.l,Code.r,cN];refine pS ?_;iterate 3
  refine o2w ?_
 refine bA (f:=75) (args:=#[.agg (aW (ae ⟨wb,wo,ah⟩) tu ha J.n wc J.c.turns.length tc J.c.halt.length hc J.c.until_),aD (ae ⟨g,0,ah⟩) J.n c,.chan (ae d.come)]) rfl rfl rfl func75 rfl rfl (by simp[cS,aW]) (λ_ _ _ _ h=>hU _ _ h) HP.out ?_
 .rintro i' v w3 ⟨t,w0,rfl,hR⟩;obtain⟨va,vo,uR,rfl,h1,h2,h3⟩:=hR.ex;obtain⟨aa,ca,rfl⟩:∃aa ca,va=aD aa J.n ca:=by
   rcases h1.2 with⟨rfl,e⟩|⟨g,cap,cur,rfl,_⟩
   .exact⟨ah,0,by rw[e]⟩
   .exact⟨_,_,rfl⟩
  obtain⟨ao,no,co,rfl⟩:∃ao no co,vo=aD ao no co:=by
   rcases h2.2 with⟨rfl,e⟩|⟨g,cap,cur,rfl,_⟩
   .exact⟨ah,0,0,rfl⟩
   .exact⟨_,_,_,rfl⟩
  have HR:=aA hR;clear hR h1 h2 h3;walk_nrm;refine o2w ?_;refine o2w ?_;refine on ?_;exact HQ.out _ _ _ _ _ _ _ _ _ (IsE.mk ..) HR.out
end
theorem SC:cX.r.r.r.r.r.r.r=.seq cX.r.r.r.r.r.r.r.l (.seq cX.r.r.r.r.r.r.r.r.l (.seq cX.r.r.r.r.r.r.r.r.r.l .ret)):=by simp only[cX,f33,Code.l,Code.r,cN]
section
variable{w w0:aj}{tb:Nat}
variable{Stop:Ph->aB->List aB->aj->Prop}
theorem aaM(hcs:NE cs0)(hd:d.cs0=cs0)(hP:d.P=aC)(Iz:d.ty=link.tWg)(pQ:∀b,jR d (J.cP d.W) w0 b->w.heap[b]? =w0.heap[b]?)(hA:IsE br d.gone d.Wg tb a)
  (hQ:∀a' w',IsE br d.gone d.Wg tb a'->xH d (J.cP d.W) t w w'->wpM aC au cs0 (JP aC S cs0 λd=>J.cP d.W) Stop U 33 (.seq cX.r.r.r.r.r.r.r.r.r.l .ret) Q .post a' w'):
  wpM aC au cs0 (JP aC S cs0 λd=>J.cP d.W) Stop U 33 cX.r.r.r.r.r.r.r Q (.read t d w0) a w:=by
 subst hd;rw[SC];intro b k fs hfn Jc hu hc;have HQ:=aA hQ;have HC:=aA hc;have Lj:b.kind≠.early:=by rw[Jc];decide
 have hnr:(prog.funcs[b.fn]?).any (·.norace)=aw:=by rw[hfn];rfl
 clear hQ hc;have afF:cX.r.r.r.r.r.r.r.r.r.l=cX.r.r.r.r.r.r.r.r.r.l:=rfl;generalize hz:(Code.seq cX.r.r.r.r.r.r.r.r.r.l .ret)=z at*;cases hA;simp only[cX,f33,Code.l,Code.r,cN];refine .pure (λ_=>bU) (.pure (λ_=>gv) ?_);refine rg ?_
 (refine kv iD (.inl Jc) rfl rfl (by rw[hfn];kernel_rfl) (by rw[hfn];exact zX _ aN _) (λτ K hK=>?_);go_simp;refine hK _ _ _ (bD _ _) ?_;clear hK K;walk_nrm)
 refine .jump (K:=λi' cB dg a'=>i'=.post/\cB=_/\dg=fs/\xH d (J.cP d.W) t w a') ⟨_,Vh (x:=.tmp 50) hP Iz Lj rfl rfl rfl dS hnr ?_ rfl rfl rfl rfl (by simp[cS,Act.put]),pQ,rfl⟩ ?_
 .rfl
 .rintro i' cB dg a' ⟨rfl,rfl,rfl,V⟩;walk_nrm;exact .pure (λ_=>bP) (HQ.out _ _ (IsE.mk ..) V b k dg hfn Jc hu HC.out)
structure RunEnd(J:gS σ)(a0:aj)(v:ay)(a':aj):Prop where
 ex:∃t,(J.ar t).goes J.c=aw/\J.n<=t/\t<=J.n+J.c.most/\a0.heap.size<=a'.heap.size/\(∀(b:Nat) o,a0.heap[b]? =ae o->o≠eh->¬J.L.Foot a0 b->a'.heap[b]? =ae o)/\J.L.Rep (J.ar t).s a'/\
  ∃va vo uR B,v=.agg #[va,vo,aq af ((t-J.n:Nat):Int),.bool ((J.ar t).any J.c)]/\a'.ownsRow B 45 1 va J.n uR/\a'.ownsRow B 108 3 vo (eU (J.ar t).w J.n).length (lh (eU (J.ar t).w J.n))/\(∀g,va.ownBlock=ae g->¬J.L.Foot a' g)/\∀i,i<J.n->∃sl,uR[i]? =ae sl/\AnsAt a' sl ((J.ar t).w i).got/\(((J.ar t).w i).got≠[]->∀b,cC a' sl b->b<a'.heap.size/\¬J.L.Foot a' b/\∀o,a0.heap[b]? =ae o->o≠eh->J.L.Foot a0 b)
theorem aaN(hcs:NE cs0){n:Nat}{all:Int}{cut:Bool}{gone:Nat}(hA:IsE br gone Wg tb a)(h5:a.eval (.tmp 5)=a.eval (.tmp 5))(hne:tb≠br)(hb:w.heap[br]? =ae (aK #[aD ah 0 0,aD ah 0 0,aq af 0,.bool aw] 31 (0,0)))(ht:w.heap[tb]? =ae (aK #[aD aa n ca,aD ao no co,aq af all,.bool cut] 31 (0,0)))
   (hQ:Post .post (.tuple #[.agg #[aD aa n ca,aD ao no co,aq af all,.bool cut],aq af 0]) ((((w.setCell ⟨br,0,ah⟩ (aD aa n ca)).setCell ⟨br,1,ah⟩ (aD ao no co)).setCell ⟨br,2,ah⟩ (aq af all)).setCell ⟨br,3,ah⟩ (.bool cut))):
  wpM aC au cs0 (JP aC S cs0 λd=>J.cP d.W) Stop U 33 (.seq cX.r.r.r.r.r.r.r.r.r.l .ret) (bodyPostM aC f33 Post) .post a w:=by
 have q:∀o v,(#[aD aa n ca,aD ao no co,aq af all,.bool cut]:Array ay)[o]? =ae v->w.cell? ⟨tb,o,ah⟩=ae v:=λo v h=>by rw[ax ht];exact h
 have q0:=q 0 _ rfl;have q1:=q 1 _ rfl;have q2:=q 2 _ rfl;have q3:=q 3 _ rfl;have y0:=cO hb 0;have y1:=cO hb 1;have y2:=cO hb 2;have y3:=cO hb 3;have z0:=zO hb 0;have z1:=zO hb 1;have z2:=zO hb 2;have z3:=zO hb 3;have HQ:=aA hQ;clear q hQ hb ht h5;cases hA;simp only[cX,f33,Code.l,Code.r,cN];refine wpM_seq (wpM_lone iD hcs aQ (oT rfl) (zX _ aN _) (λτ=>?_));go_wp2;refine⟨_,bD _ _,cD ⟨rfl,_,?_,HQ.out⟩⟩;simp[eL,go_sem, *]
end
theorem SD:cX.r.r.r.r.r.r=.seq cX.r.r.r.r.r.r.l cX.r.r.r.r.r.r.r:=by simp only[cX,f33,Code.l,Code.r,cN]
section
variable{tu:Option aP}{w w0 w3 aE:aj}{x:ay}{gone:Nat}
variable{Stop:Ph->aB->List aB->aj->Prop}
theorem Ext.rfl'(d:bp):Ext d d:=⟨rfl,rfl,bJ _,rfl,rfl,rfl,rfl,rfl,bJ _,rfl,rfl,rfl,rfl,rfl,λ_ _=>rfl,λ_ _=>rfl,λ_ _=>rfl,λ_ _=>rfl,λ_ _=>rfl⟩
theorem adS(hcs:NE cs0){cs:Array ay}(C:iP J ro0 wb wo wc tc hc tu ha csC eC a0)(A:jV J ro0 cs dv come gone a0 w)(hcl:come<w.heap.size/\gone<w.heap.size)(hL:J.L.Ok (roW ro0 (a0.heap.size+1)))(hsz:w1.heap.size=w.heap.size+1):
  RunAt J (jK S cs0 J.n come gone w.heap.size wb csC eC (roW ro0 (a0.heap.size+1))) w1 (jK S cs0 J.n come gone w.heap.size wb csC eC (roW ro0 (a0.heap.size+1))) (λ_=>0) (aD ah 0 0) w1:=by
 have hs:=A.size;have hlt:=λb (h:ro0 b≠ah)=>C.lt h;have hwb:=hlt wb (by rw[C.C.2.1];simp);have Av:∀b,roW ro0 (a0.heap.size+1) b≠ah->b<w.heap.size:=λb hb=>by
  by_cases e:b=a0.heap.size+1
  .omega
  .unfold roW at hb;rw[aU e]at hb;have:=hlt b hb;omega
 have aii:=FH (S:=S) hcs A C hcl;refine⟨⟨Ext.rfl' _,aii,λi hi=>aT hi (fR _),λi hi=>aT hi (fR _),λi hi=>aT hi (fR _),⟨hcl.1,hcl.2,by show wb<w.heap.size;omega,Nat.lt_succ_self _⟩,Av⟩,bQ _,by rw[hsz];exact bJ _,λb o h _=>h,⟨[],⟨rfl,.inl ⟨rfl,rfl⟩⟩,λi hi=>aT hi (fR _)⟩,λg h=>dB,λi hi=>aT hi (fR _)⟩
theorem SE{cs:Array ay}(C:iP J ro0 wb wo wc tc hc tu ha csC eC a0)(A:jV J ro0 cs dv come gone a0 w)(A8:d0=jK S cs0 J.n come gone w.heap.size wb csC eC (roW ro0 (a0.heap.size+1)))(V1:pE d0 (J.cP d0.W) w w1)(R:RunAt J d0 w1 d nb lV wp)(hj:d.j=J.n)
  (RO:GX J d wp t w0 (.agg #[aD aa J.n ca,aD ao no co,aq af ((t-J.n:Nat):Int),.bool ((J.ar t).any J.c)]) w3)(hL:J.L.Ok (roW ro0 (a0.heap.size+1)))
  (V:xH d (J.cP d.W) t (w3.alloc (aK #[aD aa J.n ca,aD ao no co,aq af ((t-J.n:Nat):Int),.bool ((J.ar t).any J.c)] 31)) aE):
  w3.heap.size≠a0.heap.size+2/\aE.heap[a0.heap.size+2]? =ae (aK #[aD ah 0 0,aD ah 0 0,aq af 0,.bool aw] 31 (0,0))/\aE.heap[w3.heap.size]? =ae (aK #[aD aa J.n ca,aD ao no co,aq af ((t-J.n:Nat):Int),.bool ((J.ar t).any J.c)] 31 (0,0))/\
  RunEnd J a0 (.agg #[aD aa J.n ca,aD ao no co,aq af ((t-J.n:Nat):Int),.bool ((J.ar t).any J.c)]) ((((aE.setCell ⟨a0.heap.size+2,0,ah⟩ (aD aa J.n ca)).setCell ⟨a0.heap.size+2,1,ah⟩ (aD ao no co)).setCell ⟨a0.heap.size+2,2,ah⟩ (aq af ((t-J.n:Nat):Int))).setCell ⟨a0.heap.size+2,3,ah⟩ (.bool ((J.ar t).any J.c))):=by
 obtain⟨Ba,hback⟩:=rF A C A8 V1;have hs:=A.size;obtain⟨hs1,hs2⟩:=RO.size;have hwp:w1.heap.size<=wp.heap.size:=by
  have:=R.B;have:=R.Sq.E.B;have:d0.B=w.heap.size+1:=by rw[A8];rfl
  have:=V1.size;omega
 have DW:=V1.size;have hro:d.ro=roW ro0 (a0.heap.size+1):=by rw[R.Sq.E.ro,A8];rfl
 have hWg:d.Wg=w.heap.size:=by rw[R.Sq.E.Wg,A8];rfl
 have AU:∀b,w.heap.size<=b->d.ro b=ah:=λb hb=>by
  cases e:d.ro b with
  |none=>rfl
  |some f=>have:=R.Sq.ro b oM;omega
 have abF:∀b,ro0 b=ah->b≠a0.heap.size+1->d.ro b=ah:=λb h1 h2=>by rw[hro];unfold roW;rw[aU h2];exact h1
 have Yk:∀b,a0.heap.size<=b->ro0 b=ah:=λb hb=>by
  cases e:ro0 b with
  |none=>rfl
  |some f=>have:=C.lt (b:=b) oM;omega
 have Mn:∀i,i<J.n->w.heap.size<d.W i:=λi hi=>by have:=R.Sq.lt i ai;omega
 generalize hA:(w3.alloc (aK #[aD aa J.n ca,aD ao no co,aq af ((t-J.n:Nat):Int),.bool ((J.ar t).any J.c)] 31))=wA at V;have Lb:∀b,b<w3.heap.size->wA.heap[b]? =w3.heap[b]? :=λb hb=>by rw[←hA];show(w3.heap.push _)[b]? =_;rw[dz,aU ai]
 have abG:wA.heap[w3.heap.size]? =ae (aK #[aD aa J.n ca,aD ao no co,aq af ((t-J.n:Nat):Int),.bool ((J.ar t).any J.c)] 31 (0,0)):=by rw[←hA];show(w3.heap.push _)[_]? =_;rw[dz,aX rfl]
 have yq:∀b,jR d (J.cP d.W) wA b↔jR d (J.cP d.W) w0 b:=λb=>by
  have hh:∀i,i<d.j->∀b,gF wA (d.W i) b↔gF w0 (d.W i) b:=λi hi=>rblocks_same (w:=w0) (w':=wA) (W:=d.W i) λx hx=>by obtain⟨h1,h2,_⟩:=RO.pub x.block ⟨i,hi,hx⟩;exact dr (w:=w0) (by rw[Lb _ ai,h2])
  exact⟨λ⟨i,hi,h⟩=>⟨i,hi,(hh i hi b).1 h⟩,λ⟨i,hi,h⟩=>⟨i,hi,(hh i hi b).2 h⟩⟩
 have km:∀(b:Nat) o,wp.heap[b]? =ae o->o≠eh->b<w.heap.size->wA.heap[b]? =ae o/\¬jR d (J.cP d.W) wA b:=λb o h1 h2 h3=>by refine⟨by rw[Lb b ai];exact RO.old b o h1 h2 λi hi e=>by have:=Mn i hi;omega,λhp=>?_⟩;obtain⟨_,_,h4⟩:=RO.pub b ((yq b).1 hp);obtain⟨i,hi,e⟩:=h4 o h1 h2;have:=Mn i hi;omega
 have hnew:∀b,w0.heap.size<=b->¬jR d (J.cP d.W) wA b:=λb hb hp=>by have:=(RO.pub b ((yq b).1 hp)).1;omega
 have hbr:=R.old _ _ Ba.r bu;obtain⟨adT,adU⟩:=km _ _ hbr bu ai;have abH:=abF (a0.heap.size+2) (Yk _ ai) ai;have aij:=V.same _ _ adT bu adU abH;have agh:=V.foot _ _ adT bu rfl adU abH;have aik:=V.same _ _ abG bu (hnew _ hs2) (AU _ ai);have dA:∀b,b≠a0.heap.size+2->((((aE.setCell ⟨a0.heap.size+2,0,ah⟩ (aD aa J.n ca)).setCell ⟨a0.heap.size+2,1,ah⟩ (aD ao no co)).setCell ⟨a0.heap.size+2,2,ah⟩ (aq af ((t-J.n:Nat):Int))).setCell ⟨a0.heap.size+2,3,ah⟩ (.bool ((J.ar t).any J.c))).heap[b]? =aE.heap[b]? :=λb hb=>by rw[az hb,az hb,az hb,az hb]
 have agi:((((aE.setCell ⟨a0.heap.size+2,0,ah⟩ (aD aa J.n ca)).setCell ⟨a0.heap.size+2,1,ah⟩ (aD ao no co)).setCell ⟨a0.heap.size+2,2,ah⟩ (aq af ((t-J.n:Nat):Int))).setCell ⟨a0.heap.size+2,3,ah⟩ (.bool ((J.ar t).any J.c))).heap.size=aE.heap.size:=jM;generalize ((((aE.setCell ⟨a0.heap.size+2,0,ah⟩ (aD aa J.n ca)).setCell ⟨a0.heap.size+2,1,ah⟩ (aD ao no co)).setCell ⟨a0.heap.size+2,2,ah⟩ (aq af ((t-J.n:Nat):Int))).setCell ⟨a0.heap.size+2,3,ah⟩ (.bool ((J.ar t).any J.c)))=wF at*;refine⟨ai,aij,aik,⟨t,RO.over,RO.le.1,RO.le.2,?_,λb o h1 h2 h3=>?_,?_,?_⟩⟩
 .have h1:=V.size;have h2:=(bF.1 adT).1;omega
 .have hb:=(bF.1 h1).1;rw[dA b ai];obtain⟨hb1,hb2⟩:=hback b o h1 h2 h3;cases e:ro0 b with
  |none=>obtain⟨g1,g2⟩:=km b o (R.old b o (hb1 e) h2) h2 ai;exact V.same b o g1 h2 g2 (abF b e ai)
  |some f=>obtain⟨c,e',rfl,g1⟩:=hb2 f e;obtain⟨g2,_⟩:=km b _ (R.old b _ g1 bu) bu ai;obtain⟨c',e'',g3,g4⟩:=V.ro b f (by rw[hro,yh (λb h=>C.lt h) oM];exact e);rw[g2]at g3;simp only[dD,vw]at g3;rw[g4,←g3.1,←g3.2.1]
 .have hinv:J.L.Rep (J.ar t).s aE:=V.inv;exact(hL.rep _ aE _ hinv λb hb=>dA b λe=>agh (by rw[←e];exact hb)).1
 .obtain⟨va,vo,uR,e,h1,h2,h3⟩:=RO.ex;obtain⟨e1,e2⟩:va=aD aa J.n ca/\vo=aD ao no co:=by simp only[Value.agg.injEq]at e;have e0:=congrArg (λl=>l[0]?) e;have e1:=congrArg (λl=>l[1]?) e;simp only[kJ,oP,nK,dD]at e0 e1;exact⟨e0.symm,e1.symm⟩
  subst e1 e2;have Yl:∀g,w0.heap.size<=g->g<w3.heap.size->(∃o,w3.heap[g]? =ae o/\o≠eh)->wF.heap[g]? =w3.heap[g]? :=λg h4 h5 ⟨o,h6,h7⟩=>by rw[dA g ai,h6];exact V.same g o (by rw[Lb g h5];exact h6) h7 (hnew g h4) (AU g ai)
  have hown:∀{e:bq} {s n:Nat} {v:ay} {xs:List ay},w3.ownsRow w0.heap.size e s v n xs->wF.ownsRow w0.heap.size e s v n xs:=λ{e s n v xs} h=>own_same h λg hg=>by
   have hb:=fK h hg;refine Yl g hb (own_lt h hg) ?_;rcases h.2 with⟨rfl,_⟩|⟨g',cap,cur,rfl,_,h6,_⟩
   .cases hg
   .obtain rfl:=bj hg;exact⟨_,h6,bu⟩
  have hFE:∀b,J.L.Foot wF b↔J.L.Foot aE b:=by have hinv:J.L.Rep (J.ar t).s aE:=V.inv;exact(hL.rep _ aE _ hinv λb hb=>dA b λe=>agh (by rw[←e];exact hb)).2
  have Ju:∀g,g<w3.heap.size->g<wF.heap.size:=λg hg=>by have h4:=V.size;have h5:=(bF.1 abG).1;omega
  have abI:∀g,w0.heap.size<=g->g<w3.heap.size->(∃c e f,w3.heap[g]? =ae (aK c e f))->¬J.L.Foot wF g:=λg h4 h5 ⟨c,e,f,h6⟩ h7=>V.foot g _ (by rw[Lb g h5];exact h6) bu rfl (hnew g h4) (AU g ai) ((hFE g).1 h7);refine⟨_,_,uR,w0.heap.size,rfl,hown h1,hown h2,λg hg=>?_,λi hi=>?_⟩
  .refine abI g (fK h1 hg) (own_lt h1 hg) ?_;rcases h1.2 with⟨h,_⟩|⟨g',cap,cur,h,_,h6,_⟩
   .rw[h]at hg;cases hg
   .rw[h]at hg;obtain rfl:=bj hg;exact⟨_,_,_,h6⟩
  obtain⟨sl,g1,g2,g3,g4⟩:=h3 i hi;refine⟨sl,g1,?_⟩;by_cases h0:((J.ar t).w i).got=[]
  .obtain⟨a,c,e,_⟩:=g2;refine⟨⟨a,c,e,λi x h=>?_⟩,λh=>aT h0 h⟩;rw[h0]at h;cases h
  have oD:∀g,sl.ownBlock=ae g->∃c e f,w3.heap[g]? =ae (aK c e f):=by
   intro g hg;obtain⟨a,c,e,h⟩:=g2;obtain⟨y,hy⟩:∃y,((J.ar t).w i).got[0]? =ae y:=⟨_,eQ (List.length_pos_iff.2 h0)⟩;obtain⟨b,hb,hc⟩:=h 0 y hy;subst hb;rw[e]at hg;obtain rfl:=bj hg;have h1:=hc.c0;unfold fG at h1;split at h1
   .exact⟨_,_,_,by assumption⟩
   .cases h1
  have hcell:∃g,sl.ownBlock=ae g/\∃o,w3.heap[g]? =ae o/\o≠eh:=by obtain⟨a,c,e,h⟩:=g2;obtain⟨y,hy⟩:∃y,((J.ar t).w i).got[0]? =ae y:=⟨_,eQ (List.length_pos_iff.2 h0)⟩;obtain⟨b,hb,hc⟩:=h 0 y hy;subst hb;exact⟨b,by rw[e];rfl,lS hc.c0⟩
  obtain⟨g,hg,ho⟩:=hcell;refine⟨?_,λ_ b hb=>?_⟩;rotate_left
  .have hb':cC w3 sl b:=(sblocks_same (w:=w3) (w':=wF) (sl:=sl) (λx n e h1 o=>by have hgx:sl.ownBlock=ae x.block:=(by rw[h1];rfl);obtain⟨k1,k2⟩:=g3 _ hgx;rw[hg]at hgx;obtain rfl:=bj hgx;exact dr (w:=w3) (Yl _ k1 k2 ho)) b).1 hb;rcases g4 _ hb' with h|h
   .obtain⟨k1,k2⟩:=g3 _ h;exact⟨Ju b k2,abI b k1 k2 (oD b h),λo ho _=>by have:=(bF.1 ho).1;omega⟩
   .have hp:jR d (J.cP d.W) w0 b:=⟨i,ai,h⟩;refine⟨Ju b (by have:=(RO.pub b hp).1;omega),λhf=>V.pubF b ((yq _).2 hp) ((hFE b).1 hf),λo ho hne=>?_⟩;apply eV;intro hF;have hbl:=(bF.1 ho).1;obtain⟨hb1,hb2⟩:=hback b o ho hne hF;cases e:ro0 b with
    |none=>exact(km b o (R.old b o (hb1 e) hne) hne ai).2 ((yq b).2 hp)
    |some f=>obtain⟨c',e',_,g5⟩:=hb2 f e;exact(km b _ (R.old b _ g5 bu) bu ai).2 ((yq b).2 hp)
  refine gV (λy hy=>?_) g2;rcases g4 _ hy with h|h
  .obtain⟨k1,k2⟩:=g3 _ h;rw[hg]at h;obtain rfl:=bj h;exact dr (w:=w3) (Yl _ k1 k2 ho)
  .have hp:jR d (J.cP d.W) w0 y.block:=⟨i,ai,h⟩;obtain⟨k1,k2,k3⟩:=RO.pub _ hp;have hne:y.block≠a0.heap.size+2:=λe=>adU (by rw[←e];exact(yq _).2 hp);have e1:wF.cell? y=aE.cell? y:=dr (w:=aE) (dA _ hne);rw[e1,V.pub y.block ((yq _).2 hp) y rfl];exact dr (w:=w3) (Lb _ ai)
end
section
variable{tu:Option aP}{x xv:ay}
variable{Stop:Ph->aB->List aB->aj->Prop}
theorem aaO(hU:∀c fs,U fs->U (c::fs))(hcs:NE cs0)(C:iP J ro0 wb wo wc tc hc tu ha csC eC a0)(G:Gig J (roW ro0 (a0.heap.size+1)) AD x (.iface tI xv)):
  CallsM aC au cs0 (JP aC S cs0 λd=>J.cP d.W) Stop U .pre 33 #[.agg (aW (ae ⟨wb,wo,ah⟩) tu ha J.n wc J.c.turns.length tc J.c.halt.length hc J.c.until_),.iface tI xv] a0
   (λi v a'=>i=.post/\∃rv,v=.tuple #[rv,aq af 0]/\RunEnd J a0 rv a'):=by
 obtain⟨n0,n8,nu⟩:=C.n;have hlen:(J.c.work.map List.length).length=J.n:=by rw[uC];rfl
 have ml:∀i,i<J.n->(J.c.work.map List.length).getD i 0=(J.c.calls i).length:=λi hi=>by have hi:i<J.c.work.length:=hi;unfold cu.calls;rw[eF,eF,nM,eQ hi];rfl
 refine bL func33 (c:=cX) cQ ?_;rw[show(f33).ntmps- (#[Value.agg (aW (ae ⟨wb,wo,ah⟩) tu ha J.n wc J.c.turns.length tc J.c.halt.length hc J.c.until_),Value.iface tI xv]:Array ay).size=51 from rfl,FD];have adV:=λ{tail Q}=> @FE a0 cs0 Ph (JP aC S cs0 λd=>J.cP d.W) Stop U .pre hcs (ae ⟨wb,wo,ah⟩) wc J.c.turns.length tc J.c.halt.length hc tu ha (J.c.work.map List.length) J.c.until_ 0 tI xv (by rw[hlen];omega) (by rw[C.ok];rfl) (λw' hw'=>check_any wb wo wc J.c.turns.length tc J.c.halt.length hc tu ha (J.c.work.map List.length) J.c.until_ 0 w' (by rw[hlen];omega) (by rw[C.ok];rfl) λi hi=>by rw[hlen]at hi;obtain⟨x,c,h,_⟩:=C.w i hi;refine⟨x,c,?_⟩;rw[ml i hi,←h];exact dr (w:=a0) (hw' wb (ez a0 _ h))) tail Q;rw[hlen]at adV;refine adV (λ_ a1 w1 Bb RB=>?_) (λhb=>by rw[C.ok]at hb;cases hb);clear adV;refine wpM_seq (wpM_lone iD hcs aQ (oT (by cases Bb;rfl)) (zX _ aN _) (λτ=>?_));refine mH (Sc (w:=w1.tp τ) Bb) ?_;rintro a2 w2 ⟨come,gone,tT,Ey,qL⟩;refine⟨(w1.alloc ik).alloc ik,⟨qL.heap,qL.os,qL.output⟩,?_⟩;simp only[bE];have ail:(come=w1.heap.size/\gone=w1.heap.size+1)\/(gone=w1.heap.size/\come=w1.heap.size+1):=Ey;have A:jV J ro0 _ (.iface tI xv) come gone a0 ((w1.alloc ik).alloc ik):=NT RB ail;have hcl:come< ((w1.alloc ik).alloc ik).heap.size/\gone< ((w1.alloc ik).alloc ik).heap.size:=dp;clear qL;generalize (w1.alloc ik).alloc ik=w at*;refine SB hcs C A hcl G.L tT λa3 w3 V Fc=>?_;have Ba:=(rF A C rfl V).1;have hback:=(rF A C rfl V).2;have R0:=adS (S:=S) hcs C A hcl G.L V.size;have hro:∀b f,ro0 b=ae f->∃c e,a0.heap[b]? =ae (aK c e (0,0))/\w3.heap[b]? =ae (aK c e f):=λb f h=>by obtain⟨_,c,e,h1,_⟩:=C.rof b f h;obtain⟨c',e',h2,h3⟩:=(hback b _ h1 bu (λhF=>by have:=(C.L0.foot _ _ _ C.rep hF).2;rw[h]at this;cases this)).2 f h;simp only[vw]at h2;exact⟨c,e,h1,by rw[h2.1,h2.2.1];exact h3⟩
 have hrd:∀b,ro0 b≠ah->(jK S cs0 J.n come gone w.heap.size wb csC eC (roW ro0 (a0.heap.size+1))).ro b≠ah:=λb hb=>by show roW ro0 (a0.heap.size+1) b≠ah;rw[yh (λb h=>C.lt h) hb];exact hb
 generalize A8:jK S cs0 J.n come gone w.heap.size wb csC eC (roW ro0 (a0.heap.size+1))=d0 at*;have e1:d0.P=aC:=by rw[←A8];rfl
 have e3:d0.cs0=cs0:=by rw[←A8];rfl
 have e4:d0.ty=link.tWg:=by rw[←A8];rfl
 have e5:d0.base=J.n:=by rw[←A8];rfl
 have e6:d0.csC=csC:=by rw[←A8];rfl
 have e7:d0.ro=roW ro0 (a0.heap.size+1):=by rw[←A8];rfl
 have e8:d0.come=come/\d0.gone=gone/\d0.Wg=w.heap.size/\d0.j=0:=by rw[←A8];exact⟨rfl,rfl,rfl,rfl⟩
 subst e3;have G':Gig J d0.ro AD x (.iface tI xv):=by rw[e7];exact G
 rw[←e8.1,←e8.2.1,←e8.2.2.1]at Fc;refine V7 hcs R0 Ba C.C.2.2.2 e1 e4 e5 (by rw[e6];exact C.C.2.2.1) G' e8.2.2.2 Fc λa4 w4 d nb lV IA hj R=>?_;simp only[bE];rw[SD];refine Yj hU hcs R C Ba hj hro hrd e1 e5 G.got IA λa5 t w0 w5 aa ca ao no co O4 RO=>?_;have hP:d.P=aC:=R.Sq.E.P.trans e1;have Iz:d.ty=link.tWg:=R.Sq.E.ty.trans e4;have yq:∀b,jR d (J.cP d.W) w0 b->(w5.alloc (aK #[aD aa J.n ca,aD ao no co,aq af ((t-J.n:Nat):Int),.bool ((J.ar t).any J.c)] 31)).heap[b]? =w0.heap[b]? :=λb hb=>by obtain⟨h1,h2,_⟩:=RO.pub b hb;have:=RO.size;show(w5.heap.push _)[b]? =_;rw[dz,aU ai,h2]
 refine aaM hcs R.Sq.E.cs0 hP Iz yq O4 λa6 aE hA6 VE=>?_;obtain⟨hne,hbr,htb,hend⟩:=SE C A A8.symm V R hj RO (by rw[←e7];exact G'.L) VE;exact aaN hcs hA6 rfl hne hbr htb ⟨rfl,_,rfl,hend⟩
theorem adW{Stop:ι->aB->List aB->aj->Prop}(hcs:NE cs0)(wk:Option aP)(wc tn tc hn hc:Nat)(tu ha:Option aP)(lens:List Nat)(un:Int)(tI:bq)(xv:ay)(hl:lens.length<100000)(hbad:gh lens un=aw)
  (hw:∀w':aj,(∀b,b<a0.heap.size->w'.heap[b]? =a0.heap[b]?)->b9 aC 70 #[.agg (aW wk tu ha lens.length wc tn tc hn hc un)] w' λe w''=>e=.returned (aq af 30)/\Below w'.heap.size w' w''):
  CallsM aC au cs0 Jm Stop U i 33 #[.agg (aW wk tu ha lens.length wc tn tc hn hc un),.iface tI xv] a0
   (λi' v a'=>i'=i/\v=.tuple #[.agg #[aD ah 0 0,aD ah 0 0,aq af 0,.bool aw],aq af 30]/\a0.heap.size<=a'.heap.size/\∀b,b<a0.heap.size->a'.heap[b]? =a0.heap[b]?):=by
 refine bL func33 (c:=cX) cQ ?_;rw[show(f33).ntmps- (#[Value.agg (aW wk tu ha lens.length wc tn tc hn hc un),Value.iface tI xv]:Array ay).size=51 from rfl,FD];refine FE hcs wk wc tn tc hn hc tu ha lens un 30 tI xv hl (by rw[hbad];rfl) hw (λh=>by rw[hbad]at h;cases h) (λ_ a' w' h1 h2 h3 h4=>?_);exact⟨h1,_,h4,rfl,rfl,h2,h3⟩
end
end
section
open Go Go.Conc Go.ConcN Go.RowKit
attribute [local go_sem] ba bf bH a8 bC bK aS aV fy dI fA bO
variable[Inhabited dc]
theorem aaP(b:Nat)(w:aj)(args:Array ay):(callMethod (.iface 56 (aI (ae ⟨b,0,ah⟩))) "Do" args).runT aC w #[]=(.ok (.enter 181 (#[aI (ae ⟨b,0,ah⟩)] ++args)) w,#[]):=aQ
noncomputable def fc(m:Nat)(zs:List Int)(cc:cu):gS JS:=Sy 20004 (m+3) (m+2) (m+6) zs.length cc (sM zs)
inductive SG(m fr:Nat)(ov vn vk:ay):Act->Prop
 |mk (u0 u1 u2 u5 u6 u8 nW nX mU mA mB u16 lK lL lM lN mV mX u23 u24 mY u26 lO u28 lQ lR mC u32 u33 mD mE mF mG nV oU oV pU u44 pV oX oY oZ o6 o7 o8 o9 sH sI:ay):SG m fr ov vn vk {tmps:=#[u0,u1,u2,aI (ae ⟨m,0,ah⟩),aI (ae ⟨m+1,0,ah⟩),u5,u6,aI (ae ⟨m+3,0,ah⟩),u8,aI (ae ⟨fr,0,ah⟩),ov,nW,nX,mU,mA,mB,u16,lK,lL,lM,lN,mV,mX,u23,u24,mY,u26,lO,u28,lQ,lR,mC,u32,u33,mD,mE,mF,mG,vn,vk,nV,oU,oV,pU,u44,pV,oX,oY,oZ,o6,o7,o8,o9,sH,sI],defers:=[]}
noncomputable def N9:Code:=(f10.body).getD .skip
noncomputable def Oa:Code:=N9.r.r.r.r.r
section
variable{main:Bool}{Stop:ι->aB->List aB->aj->Prop}{w:aj}
structure adX(b c lo n:Nat)(w0:aj)(pre:List Int)(ov:ay)(w:aj):Prop where
 keep:Af (cI 20004 b c lo n) w0 w
 own:w.ownsRow w0.heap.size 3 1 ov pre.length (pre.map (Value.int .i64))
 nf:∀g,ov.ownBlock=ae g->¬cU b c w g
def Ym(b c lo n m:Nat)(w0:aj)(rv:ay)(vs:List Int)(s':JS)(v:ay)(w':aj):Prop:=∃ov,v=.tuple #[rv,ov,aq af 0]/\w'.ownsRow w0.heap.size 3 1 ov n (vs.map (Value.int .i64))/\JRep b c lo n s' w'/\w0.heap.size<=w'.heap.size/\∀(y:Nat) o,y≠m+1->w0.heap[y]? =ae o->¬cU b c w0 y->w'.heap[y]? =ae o
structure adY(Jm:fM ι)(Stop:ι->aB->List aB->aj->Prop)(main:Bool)(cs:List aB)(i:ι)(b c lo n m fr:Nat)(vs:List Int)(s':JS)(w0:aj)(q:Nat)(i':ι)(a':Act)(w':aj):Prop where
 ex:∃pre ov,q=n-pre.length/\pre.length<=n/\SG m fr ov (aq af n) (aq af pre.length) a'/\(Yf 20004 b c lo n main cs Jm Stop i vs s').At i' ((iQ 20004 n (List.range' pre.length (n-pre.length))).bind λx=>.ret (pre++x)) w'/\adX b c lo n w0 pre ov w'
theorem Ob{n:Nat}{pre:List Int}:((iQ F n []).bind λx=>Pr.ret (pre++x))=(Pr.ret pre:qM (List Int)):=by simp[iQ,Pr.bind]
theorem Lc{n:Nat}{l:List Nat}{pre:List Int}:((iQ F n (c::l)).bind λx=>Pr.ret (pre++x))=(x9 F n c).bind λr=>(iQ F n l).bind λx=>(Pr.ret ((pre++[r.1]) ++x):qM (List Int)):=by simp only[iQ,Pr.bind_assoc,Pr.bind,vq,jZ,kU]
theorem play_rest(hU:∀c fs,U fs->U (c::fs)){b n fr:Nat}(hn:1<=n/\n<=64)(R:JRep b c lo n s w)(qL:(iQ 20004 n (dx n)).alone s=ae (vs,s')){na:Nat}{st:Int}{cut:Bool}{er em:bq}{q0 q1 q2 q3:ay}(hb:b=m+3)(yD:w.heap[fr]? =ae (aK #[aD aa na ca,aD ao no co,aq af st,.bool cut] er (0,0)))(hm:w.heap[m+1]? =ae (aK #[q0,q1,q2,q3] em (0,0)))(py:¬cU b c w fr/\¬cU b c w (m+1))(hne:fr≠m+1)
  {ov0 vn0 vk0:ay}(hA:SG m fr ov0 vn0 vk0 a){Q:ι->ay->aj->Prop}(hQ:∀v w',Ym b c lo n m w (.agg #[aD aa na ca,aD ao no co,aq af st,.bool cut]) vs s' v w'->Q i v w'):
  wpM aC main cs Jm Stop U 10 Oa (bodyPostM aC f10 Q) i a w:=by
 have hcs:=mI;simp only[Oa,N9,f10,Code.l,Code.r,cN];subst hb;have hdr:=JRep.hdr R;have h0:(Yf 20004 (m+3) c lo n main cs Jm Stop i vs s').At i ((iQ 20004 n (List.range' ([]:List Int).length (n- ([]:List Int).length))).bind λx=>.ret ([] ++x)) w:=by have:=at_of (F:=20004) (main:=main) (cs:=cs) (Jm:=Jm) (Stop:=Stop) (i:=i) R qL;rw[CQ]at this;simpa using this
 have X0:adX (m+3) c lo n w [] (aD ah 0 0) w:=⟨⟨bJ _,λb o h1 h2=>⟨h1,h2⟩,(cI 20004 (m+3) c lo n).grefl w⟩,pL _ _ _ _,λg hg=>by cases hg⟩;have H0:=aA h0;have H0':=aA h0;have HX0:=aA X0;have HR:=aA R;have Hal:=aA qL;have HQ:=aA hQ;have Hfr:=aA yD;have Hm:=aA hm;have Hnf:=aA py;clear h0 X0 R qL hQ yD hm py;cases hA;refine iI λτ=>?_;refine Ai λτ=>?_;clear hdr;refine cE (iV (adY Jm Stop main cs i (m+3) c lo n m fr vs s' w) (n:=n) ⟨[],_,rfl,bQ _,SG.mk ..,H0.out,HX0.out⟩ ?_);rintro q' i2 a2 w2 ⟨pre,ov,rfl,hle,hA,h2,X2⟩;by_cases hlt:pre.length<n
 .have hwr:IntKind.i64.wrap ((pre.length:Int) +1)=((pre.length+1:Nat):Int):=by rw[gq];omega
  rw[show n-pre.length=(n- (pre.length+1)) +1 by omega,xS,Lc]at h2;have H2:=aA h2;have oy:=aA X2;clear h2 X2 HX0 H0;generalize hk:pre.length=k at*;have Hk:=aA hk;clear hk;cases hA;refine iI λτ=>?_;refine wpM_seq (bz (t:=au) (by simp[cS,hlt]) (eY ?_));try simp only[bE]
  refine wpM_seq (cE ?_);refine iI λτ=>?_;refine pS ?_;refine gP ?_;refine gP ?_;refine bA (args:=#[aI (ae ⟨m+3,0,ah⟩),aI ah,aq af k]) rfl rfl rfl func22 rfl rfl dS (λb k fs h1 h2=>hU _ _ h2) (λc0 fs0 _=>read_any' (Yf 20004 (m+3) c lo n main cs Jm Stop i vs s') hn.2 H2.out c0 fs0 trivial) ?_;rintro i3 r3 w3 ⟨x,e,rfl,h3,K3⟩;have H3:=aA h3;have HK3:=aA K3;clear h3 K3 H2;walk_nrm;iterate 5
   refine gP ?_
  refine on ?_;obtain⟨ii,O5,O6,O7,O8⟩:=kq PF;have Oc:=oy.out.keep.trans HK3.out;have hown2:=oy.out.own;have hrow:∀g,ov.ownBlock=ae g->w3.heap[g]? =w2.heap[g]?/\¬cU (m+3) c w3 g:=λg hg=>by obtain⟨cur,Ey⟩:=dV hown2 hg;obtain⟨a1,a2⟩:=HK3.out.same g _ Ey (oy.out.nf g hg);exact⟨a1.trans Ey.symm,a2⟩
  have hown:=row_keep hown2 λg hg=>(hrow g hg).1;rw[Hk.out]at hown;have G4:=aA hown;have uU:=aA hrow;have agj:=aA Oc;have hsz:w.heap.size<=w3.heap.size:=Oc.size;clear hown hrow Oc hown2;refine l3 hcs (λτ=>?_);go_wp2_with (at_builtin;go_loud (refine wpList_append_lies _ rfl (.tmp 48) (.tmp 50) 22 rfl w.heap.size 3 ii _ 1 8 underlying22 O5 O6 O7 O8 rfl aN ov k (pre.map (Value.int .i64)) rfl ((G4.out.alloc _)) ⟨w3.heap.size,0,ah⟩ 1 1 [aq af x] rfl rfl (pd (cs:=#[aq af x]) (t:=3) (fr:=(0,0)) (gN (w3.tp τ) _)) pI aN jk ai (show w.heap.size<=(w3.alloc _).heap.size by rw[cM];omega) (w3.heap.size+1) (show(w3.alloc _).heap.size=w3.heap.size+1 by rw[cM]) ?_;intro gg cap' w5 hown1 hgrow hat CH;have HF:=aA (And.intro hown1 (And.intro hgrow (And.intro hat CH)));clear hown1 hgrow hat CH))
  refine⟨w5,⟨rfl,rfl,rfl⟩,?_⟩;obtain⟨nO,hgrow,hat,aaz⟩:=HF.out;have hown:=G4.out;have hs5:w3.heap.size+1<=w5.heap.size:=by have h1:=hgrow.size;have h2:(w3.alloc (aK #[aq af x] 3)).heap.size<=w5.heap.size:=h1;rw[cM]at h2;exact h2
  have CJ:∀y,y<w3.heap.size->ov.ownBlock≠ae y->w5.heap[y]? =w3.heap[y]? :=λy hy hne=>by rw[hgrow.block y (by show y< (w3.alloc _).heap.size;rw[cM];omega) (λe=>hne e.symm)];exact gT w3 _ _ hy
  obtain⟨h6,K6,VR⟩:=(Yf 20004 (m+3) c lo n main cs Jm Stop i vs s').fresh _ _ _ _ _ _ w5 H0'.out H3.out agj.out ai (λy hy hne=>by
   by_cases e1:ov.ownBlock=ae y
   .exact⟨(hown.lt y e1).1,(uU.out y e1).2⟩
   .exact aT (CJ y hy e1) hne)
  have KJ:∀g',w3.heap.size<=g'->¬cU (m+3) c w5 g':=λg' hg hf=>by have:=(Yf 20004 (m+3) c lo n main cs Jm Stop i vs s').foot _ _ _ _ H3.out ((VR g').1 hf);omega
  have hlen:(pre++[x]).length=k+1:=by simp[Hk.out]
  have X5:adX (m+3) c lo n w (pre++[x]) (aD (ae ⟨gg,0,ah⟩) (k+1) cap') w5:=by
   refine⟨K6,?_,λg' nA=>?_⟩
   .rw[hlen,vE];exact nO
   .obtain rfl:gg=g':=(by simpa[iE]using nA);rcases hat with e|e
    .exact λhf=>(uU.out _ e).2 ((VR _).1 hf)
    .exact KJ _ ai
  have HX5:=aA X5;have H6:=aA h6;clear X5 h6 hown nO hgrow hat H3 G4 HF VR KJ CJ K6 oy uU;try simp only[gu,bE]
  refine l3 hcs (λτ=>?_);go_wp2;refine⟨_,bD _ _,?_⟩;refine⟨n- (pre++[x]).length,by rw[hlen];omega,⟨pre++[x],_,rfl,by rw[hlen];omega,?_,?_,HX5.out⟩⟩
  .rw[hlen];exact SG.mk ..
  .rw[hlen];exact H6.out
 .have C0:pre.length=n:=ai;have hd:¬((n:Int) < (n:Int)):=ai;rw[C0]at hA;rw[C0,Nat.sub_self,List.range'_zero,Ob]at h2;obtain⟨e2,hvs,R2⟩:=at_end h2;have hvs:pre=vs:=hvs;subst hvs;obtain⟨Yn,_⟩:=X2.keep.same fr _ Hfr.out Hnf.out.1;obtain⟨zL,hmF⟩:=X2.keep.same (m+1) _ Hm.out Hnf.out.2;have f0:=cO Yn 0;have f1:=cO Yn 1;have f2:=cO Yn 2;have f3:=cO Yn 3;have g0:=cO zL 0;have g1:=cO zL 1;have g2:=cO zL 2;have g3:=cO zL 3;have z0:=zO zL 0;have z1:=zO zL 1;have z2:=zO zL 2;have z3:=zO zL 3;have oy:=aA X2;have HR2:=aA R2;have HmF:=aA hmF;clear X2 h2 R2 Yn zL hmF HX0 H0 hlt hle H0';cases hA;refine wpM_seq (l3 hcs (λτ=>?_));go_wp2;refine px ?_;refine wpM_seq (bz (t:=aw) dS (iU ?_));simp only[bE,gu,if_true];refine wpM_seq (l3 hcs (λτ=>?_));go_wp2;refine px ?_;refine cD ?_;refine⟨rfl,.tuple #[.agg #[aD aa na ca,aD ao no co,aq af st,.bool cut],ov,aq af 0],?_,?_⟩
  .simp[eL,go_sem, *]
  .have dA:∀y,y≠m+1->((((w2.setCell ⟨m+1,0,ah⟩ (aD aa na ca)).setCell ⟨m+1,1,ah⟩ (aD ao no co)).setCell ⟨m+1,2,ah⟩ (aq af st)).setCell ⟨m+1,3,ah⟩ (.bool cut)).heap[y]? =w2.heap[y]? :=λy hy=>(by rw[az hy,az hy,az hy,az hy]);have agi:((((w2.setCell ⟨m+1,0,ah⟩ (aD aa na ca)).setCell ⟨m+1,1,ah⟩ (aD ao no co)).setCell ⟨m+1,2,ah⟩ (aq af st)).setCell ⟨m+1,3,ah⟩ (.bool cut)).heap.size=w2.heap.size:=jM;generalize (((w2.setCell ⟨m+1,0,ah⟩ (aD aa na ca)).setCell ⟨m+1,1,ah⟩ (aD ao no co)).setCell ⟨m+1,2,ah⟩ (aq af st)).setCell ⟨m+1,3,ah⟩ (.bool cut)=wF at*;have hml:=(bF.1 Hm.out).1;have X2:=oy.out;have hown:=X2.own;rw[C0]at hown;refine HQ.out _ _ ⟨ov,rfl,row_keep hown λg hg=>dA g λe=>?_,((okN 0 (m+3) c lo n).rep _ w2 wF HR2.out λy hy=>dA y λe=>HmF.out (by rw[←e];exact hy)).1,by rw[agi];exact X2.keep.size,λy o hy h1 h2=>by rw[dA y hy];exact(X2.keep.same y o h1 h2).1⟩;have:=(hown.lt g hg).1;omega
end
theorem PU{b n:Nat}{w:aj}{x:Nat}(R:JRep b c lo n s w)(h:cU b c w x):x=b\/x=c\/lo<=x:=by
 rcases h with h|h|⟨d,t,hd,hc,rfl⟩
 .exact .inl h
 .exact .inr (.inl h)
 .have:=R.all d hd;split at this
  .obtain⟨u,hu,hne⟩:=this;rw[hu]at hc;cases hc;exact aT rfl (hne t)
  .obtain⟨t',ht,hlo,_⟩:=this;rw[ht]at hc;cases hc;exact .inr (.inr hlo)
theorem rJ{cc:cu}(h:gh (cc.work.map List.length) cc.until_=au):cc.n<=8/\cc.most<=20000/\∀i,(cc.calls i).length<=64:=by
 unfold gh at h;simp only[uC,cR,decide_eq_true_eq,iT,pA]at h;obtain⟨⟨h1,h2,h3,h4⟩,h5⟩:=h;refine⟨h2,?_,λi=>?_⟩
 .unfold cu.most;split<;>omega
 .unfold cu.calls;rw[eF];cases e:cc.work[i]? with
  |none=>simp
  |some l=>exact h5 _ ⟨l,nJ e,rfl⟩
theorem FO{w:aj}(h:w.ownsRow B e sz v m xs):∃a c,v=aD a m c:=by
 rcases h.2 with⟨rfl,rfl⟩|⟨g,cap,cur,rfl,_⟩
 .exact⟨ah,0,rfl⟩
 .exact⟨_,_,rfl⟩
structure Ij(J:gS JS)(n:Nat)(a0:aj)(v:ay)(a':aj):Prop where
 ex:∃t,(J.ar t).goes J.c=aw/\J.n<=t/\t<=J.n+J.c.most/\a0.heap.size<=a'.heap.size/\(∀(b:Nat) o,a0.heap[b]? =ae o->o≠eh->a'.heap[b]? =ae o)/\
  ∃vs s',(iQ 20004 n (dx n)).alone (J.ar t).s=ae (vs,s')/\
  ∃va ao no co ov uR B,v=.tuple #[.agg #[va,aD ao no co,aq af ((t-J.n:Nat):Int),.bool ((J.ar t).any J.c)],ov,aq af 0]/\a'.ownsRow B 45 1 va J.n uR/\a'.ownsRow a0.heap.size 3 1 ov n (vs.map (Value.int .i64))/\
   ∀i,i<J.n->∃sl,uR[i]? =ae sl/\∀w',a'.heap.size<=w'.heap.size->(∀y,y<a'.heap.size->(∀o,a0.heap[y]? =ae o->o=eh)->w'.heap[y]? =a'.heap[y]?)->AnsAt w' sl ((J.ar t).w i).got
section
variable{Stop:Ph->aB->List aB->aj->Prop}{tu:Option aP}
theorem Yo(hU:∀c fs,U fs->U (c::fs))(Ha:NE cs0){s o cap:Nat}{cc:cu}(hzs:jS s o zs a0)(hs:s<a0.heap.size)(hn:1<=zs.length/\zs.length<=64)(hl:pX zs=au)(hok:gh (cc.work.map List.length) cc.until_=au)(hk2:∀k d,d∈cc.calls k->(d.kind=2\/d.kind=4)/\pq zs.length d)
  (hC:∀(J:gS JS) (a':aj),J.c=cc->a0.heap.size<=a'.heap.size->(∀y,y<a0.heap.size->a'.heap[y]? =a0.heap[y]?)->J.L.Rep J.s0 a'->J.L.Ok ro0->iP J ro0 wb wo wc tc hc tu ha csC eC a')(hro:∀y,ro0 y≠ah->y<a0.heap.size)
  (hrd:∀t,((fc a0.heap.size zs cc).ar t).goes cc=aw->∃vs s',(iQ 20004 zs.length (dx zs.length)).alone ((fc a0.heap.size zs cc).ar t).s=ae (vs,s')):
  CallsM aC au cs0 (JP aC S cs0 λd=>(fc a0.heap.size zs cc).cP d.W) Stop U .pre 10 #[aD (ae ⟨s,o,ah⟩) zs.length cap,.agg (aW (ae ⟨wb,wo,ah⟩) tu ha cc.n wc cc.turns.length tc cc.halt.length hc cc.until_)] a0
   (λi v a'=>i=.post/\Ij (fc a0.heap.size zs cc) zs.length a0 v a'):=by
 have hcs:=mI;obtain⟨k8,agk,agl⟩:=rJ hok;have agm:=(pg zs).1 hl;have Hzs:=aA hzs;have HC:=aA hC;have Hrd:=aA hrd;have Hro:=aA hro;have Hk2:=aA hk2;have Gs:=aA agl;have Hzl:=aA agm;have Hok:=aA hok;clear hzs hC hrd hro hk2 agl agm hok;refine bL func10 rfl ?_;simp only[f10,cN,aW];walk_nrm;refine iI λτ=>?_;generalize iA:World.alloc _ _=w1;have hs1:w1.heap.size=a0.heap.size+2:=by subst iA;simp
 have ho1:∀y,y<a0.heap.size->w1.heap[y]? =a0.heap[y]? :=λy hy=>by subst iA;simp only[←dt,dz,fN];rw[aU ai,aU ai]
 have hc1:w1.heap[a0.heap.size]? =ae (aK #[aD (ae ⟨wb,wo,ah⟩) cc.n wc,aD tu cc.turns.length tc,aD ha cc.halt.length hc,aq af cc.until_] 25 (0,0)):=by subst iA;simp only[←dt,dz,fN];rw[aU ai,aX trivial]
 have hr1:w1.heap[a0.heap.size+1]? =ae (aK #[aD ah 0 0,aD ah 0 0,aq af 0,.bool aw] 31 (0,0)):=by subst iA;simp only[←dt,dz,fN];rw[aX trivial]
 clear iA;have hnew:∀τ,b9 aC 18 #[aD (ae ⟨s,o,ah⟩) zs.length cap] (w1.tp τ) (MQ zs (w1.tp τ)):=λτ=>new_yes s o cap zs (w1.tp τ) (λi hi=>(dr (w:=a0) (ho1 s hs)).trans (Hzs.out i hi)) hn.1 hn.2 hl (show s<w1.heap.size by omega);have zy:=aA hnew;have Ho1:=aA ho1;have Hc1:=aA hc1;have Hr1:=aA hr1;have Te:=aA hs1;clear hnew ho1 hc1 hr1 hs1;refine wpM_seq (wpM_lone pP hcs aQ yg (ni aQ _) (λτ=>?_));go_wp2_with fail
 refine(zy.out τ).mono ?_;rintro e w2 ⟨rfl,hblk,dQ,nT⟩;have hs1:=Te.out;have hblk:yY (w1.heap.size+1) w1.heap.size (AK zs) w2:=hblk;have nT:w2.heap.size=w1.heap.size+2:=nT;have hb2:∀y,y<w1.heap.size->w2.heap[y]? =w1.heap[y]? :=λy hy=>dQ.block y hy;obtain⟨bb,hbb⟩:∃bb,bb=(w1.tp τ).heap.size+1:=⟨_,rfl⟩;rw[←hbb];obtain rfl:bb=a0.heap.size+3:=by rw[hbb];show w1.heap.size+1=_;omega
 rw[hs1]at hblk nT;have R2:JRep (a0.heap.size+3) (a0.heap.size+2) (a0.heap.size+6) zs.length (sM zs) w2:=PS hn Hzl.out hblk ai;have Az:∀y,y<a0.heap.size->w2.heap[y]? =a0.heap[y]? :=λy hy=>by rw[hb2 y ai];exact Ho1.out y hy
 have hc2:=hb2 a0.heap.size ai;rw[Hc1.out]at hc2;have hr2:=hb2 (a0.heap.size+1) ai;rw[Hr1.out]at hr2;have HR2:=aA R2;have Yp:=aA Az;have Hc2:=aA hc2;have Hr2:=aA hr2;have IC:=aA nT;clear hblk dQ hb2 R2 Az hc2 hr2 hs1 hbb zy nT;go_wp2_with fail
 refine⟨w2,⟨rfl,rfl,rfl⟩,?_⟩;try simp only[bE]
 have hc2:=Hc2.out;have k0:=cO hc2 0;have k1:=cO hc2 1;have k2:=cO hc2 2;have k3:=cO hc2 3;clear hc2;refine Ai λτ=>?_;refine Cs ?_;try simp only[bE]
 have hJ:∃J,J=fc a0.heap.size zs cc:=⟨_,rfl⟩;obtain⟨J,hJ⟩:=hJ;have hJc:J.c=cc:=by rw[hJ];rfl
 have hs2:=IC.out;have hCI:iP J ro0 wb wo wc tc hc tu ha csC eC w2:=HC.out J w2 hJc ai Yp.out (by rw[hJ];exact HR2.out) (by
  rw[hJ];exact zv (F:=20004) (n:=zs.length) (by
   cases e:ro0 (a0.heap.size+3)with
   |none=>rfl
   |some f=>have:=Hro.out (a0.heap.size+3) oM;omega) (by
   cases e:ro0 (a0.heap.size+2)with
   |none=>rfl
   |some f=>have:=Hro.out (a0.heap.size+2) oM;omega) (λx hx=>by
   cases e:ro0 x with
   |none=>rfl
   |some f=>have:=Hro.out x oM;omega))
 have agn:Gig J (roW ro0 (w2.heap.size+1)) 181 (aI (ae ⟨a0.heap.size+3,0,ah⟩)) (.iface 56 (aI (ae ⟨a0.heap.size+3,0,ah⟩))):=by
  have Yk:∀x,a0.heap.size<=x->x≠w2.heap.size+1->roW ro0 (w2.heap.size+1) x=ah:=λx hx hne=>by
   unfold roW;rw[aU hne];cases e:ro0 x with
   |none=>rfl
   |some f=>have:=Hro.out x oM;omega
  rw[hJ];exact SA (zv (Yk _ ai ai) (Yk _ ai ai) (λx hx=>Yk x ai ai)) ⟨w2.heap.size+1,by unfold roW;rw[aX rfl];simp,ai⟩ agk k8 hn ai Hk2.out Gs.out (aaP _)
 have hrun:=aaO (S:=S) (Stop:=Stop) (U:=U) hU Ha hCI agn;have qJ:J.n=cc.n:=by rw[hJ];rfl
 rw[qJ,hJc,show(λd:bp=>J.cP d.W)=(λd:bp=>(fc a0.heap.size zs cc).cP d.W)by rw[hJ]]at hrun;have Yq:=aA hrun;clear hrun agn hCI;refine pS ?_;iterate 3
  refine gP ?_
 refine bA (args:=#[.agg #[aD (ae ⟨wb,wo,ah⟩) cc.n wc,aD tu cc.turns.length tc,aD ha cc.halt.length hc,aq af cc.until_],.iface 56 (aI (ae ⟨a0.heap.size+3,0,ah⟩))]) rfl rfl rfl func33 rfl rfl dS (λb k fs h1 h2=>hU _ _ h2) Yq.out ?_;rintro i3 v3 w3 ⟨rfl,rv,rfl,RE⟩;obtain⟨t,EO,ht1,Zd,Ay,km,vH,va,vo,uR,B,rfl,Ps,YZ,ago,lq⟩:=RE.ex;obtain⟨aa,ca,rfl⟩:=FO Ps;obtain⟨ao,co,rfl⟩:=FO YZ;have Hov:=aA EO;have Ht1:=aA ht1;have Ht2:=aA Zd;have aim:=aA Ay;have abJ:=aA km;have agp:=aA vH;have Hva:=aA Ps;have ain:=aA ago;have adZ:=aA lq;clear EO ht1 Zd Ay km vH Ps ago lq YZ RE Yq;generalize hst:((t-J.n:Nat):Int)=st at*;generalize hcut:(J.ar t).any J.c=cut at*;generalize hno:(eU (J.ar t).w J.n).length=no at*;walk_nrm;iterate 6
  refine gP ?_
 refine on ?_;have Hst:=aA hst;have aio:=aA hcut;clear hst hcut hno;refine Ai λτ=>?_;refine Cs ?_;try simp only[bE]
 subst hJ;generalize QJ:World.alloc _ _=w5;have aip:w5.heap[w3.heap.size]? =ae (aK #[aD aa (fc a0.heap.size zs cc).n ca,aD ao no co,aq af st,.bool cut] 31 (0,0)):=by rw[←QJ];exact gN w3 _
 have CJ:∀y,y<w3.heap.size->w5.heap[y]? =w3.heap[y]? :=λy hy=>by rw[←QJ];exact gT w3 _ _ hy
 have hs5:w5.heap.size=w3.heap.size+1:=by rw[←QJ];exact cM _ _
 clear QJ;have vH:JRep (a0.heap.size+3) (a0.heap.size+2) (a0.heap.size+6) zs.length ((fc a0.heap.size zs cc).ar t).s w3:=agp.out;obtain⟨R5,K5⟩:=ym 20004 vH ai CJ;have Y2:∀b,cU (a0.heap.size+3) (a0.heap.size+2) w5 b↔cU (a0.heap.size+3) (a0.heap.size+2) w3 b:=λb=>((okN 0 (a0.heap.size+3) (a0.heap.size+2) (a0.heap.size+6) zs.length).rep _ w3 w5 vH λy hy=>CJ y (Bt vH hy)).2 b;have aaQ:∀b,b≠a0.heap.size+3->b≠a0.heap.size+2->¬cU (a0.heap.size+3) (a0.heap.size+2) w2 b:=λb h1 h2 h=>by
  rcases KY HR2.out b h with h|h
  .exact h1 h
  .exact h2 h
 have hm3:w3.heap[a0.heap.size+1]? =ae (aK #[aD ah 0 0,aD ah 0 0,aq af 0,.bool aw] 31 (0,0)):=abJ.out _ _ Hr2.out bu (aaQ _ ai ai);have aiq:=(bF.1 hm3).1;obtain⟨vs,s',qL⟩:=Hrd.out t Hov.out;have UF:=λa hA=>play_rest (main:=au) (cs:=cs0) (Jm:=JP aC S cs0 λd=>(fc a0.heap.size zs cc).cP d.W) (Stop:=Stop) (i:=Ph.post) (a:=a) (m:=a0.heap.size) (fr:=w3.heap.size) (U:=U) hU hn R5 qL rfl aip (by rw[CJ _ aiq];exact hm3) ⟨λh=>by have:=Bt vH ((Y2 _).1 h);omega,λh=>by rcases PU R5 h with h|h|h<;>omega⟩ ai (ov0:=aO) (vn0:=aO) (vk0:=aO) hA (Q:=λi v a'=>i=.post/\Ij (fc a0.heap.size zs cc) zs.length a0 v a') (λv w' hPR=>?_)
 .simp only[Oa,N9,f10,Code.l,Code.r,cN]at UF;exact UF _ (SG.mk ..)
 obtain⟨ov,rfl,hown,hR',hsz',hsame⟩:=hPR;have Ay:=aim.out;refine⟨rfl,⟨t,Hov.out,Ht1.out,Ht2.out,ai,λbk ob h1 h2=>?_,vs,s',qL,_,_,_,_,ov,uR,B,by rw[Hst.out,aio.out],?_,?_,λi hi=>?_⟩⟩
 .have hbl:=(bF.1 h1).1;have e2:=Yp.out bk hbl;rw[h1]at e2;have e3:=abJ.out bk ob e2 h2 (aaQ bk ai ai);have e5:w5.heap[bk]? =ae ob:=by rw[CJ bk (bF.1 e3).1];exact e3
  exact hsame bk ob ai e5 (λh=>by rcases PU R5 h with h|h|h<;>omega)
 .refine row_keep Hva.out λg hg=>?_;obtain⟨cur,Ey⟩:=dV Hva.out hg;have e5:w5.heap[g]? =w3.heap[g]? :=CJ g (bF.1 Ey).1;rw[Ey]at e5;rw[Ey];exact hsame g _ (λe=>by rw[e,hm3]at Ey;cases Ey) e5 (λh=>ain.out g hg ((Y2 g).1 h))
 .exact⟨hown.1,hown.2.imp id λ⟨g',cap',cur,h1,h2,h4⟩=>⟨g',cap',cur,h1,ai,h4⟩⟩
 .obtain⟨sl,g1,g2,g3⟩:=adZ.out i hi;refine⟨sl,g1,λwl hwl PY=>?_⟩;by_cases h0:(((fc a0.heap.size zs cc).ar t).w i).got=[]
  .obtain⟨a,c,e,_⟩:=g2;refine⟨a,c,e,λi x h=>?_⟩;rw[h0]at h;cases h
  .refine gV (λx hx=>?_) g2;obtain⟨b1,b2,b3⟩:=g3 h0 x.block hx;have YX:w3.heap[x.block]? =ae w3.heap[x.block]:=fP b1;have e5:w5.heap[x.block]? =ae w3.heap[x.block]:=(by rw[CJ _ b1];exact YX);have:=hsame x.block _ (λe=>aaQ (a0.heap.size+1) ai ai (by have:=b3 _ (by rw[e];exact Hr2.out) bu;rw[e]at this;exact this)) e5 (λh=>b2 ((Y2 _).1 h));refine(dr (w:=w') ?_).trans (dr (w:=w3) (this.trans YX.symm));refine PY x.block (bF.1 this).1 λo ho=>eV λhne=>?_;have hl0:=(bF.1 ho).1;have:=b3 o (by rw[Yp.out _ hl0];exact ho) hne;exact aaQ x.block ai ai this
end
def Ik(i:ι)(a0:aj)(i':ι)(v:ay)(a':aj):Prop:=i'=i/\(∃e,v=.tuple #[.agg #[aD ah 0 0,aD ah 0 0,aq af 0,.bool aw],aD ah 0 0,aq af e]/\e≠0)/\a0.heap.size<=a'.heap.size/\∀y,y<a0.heap.size->a'.heap[y]? =a0.heap[y]?
section
variable{main:Bool}{Stop:ι->aB->List aB->aj->Prop}
theorem Dg{a:Option aP}{n cap:Nat}{v0 v1 v2:ay}{e:Int}{w0 w1 w2:Nat×Nat}{x0 x1 x2:Option aP}(h0:v0=aD x0 w0.1 w0.2)(h1:v1=aD x1 w1.1 w1.2)(h2:v2=aD x2 w2.1 w2.2)(he:e≠0)
  (hnew:∀W:aj,(∀y,y<a0.heap.size->W.heap[y]? =a0.heap[y]?)->b9 aC 18 #[aD a n cap] W λr W'=>r=.returned (.tuple #[aI ah,aq af e])/\W=W'):
  CallsM aC main cs0 Jm Stop U i 10 #[aD a n cap,.agg #[v0,v1,v2,aq af un]] a0 (Ik i a0):=by
 have hcs:=mI;have zy:=aA hnew;clear hnew;subst h0 h1 h2;refine bL func10 rfl ?_;simp only[f10,cN];walk_nrm;refine iI λτ=>?_;generalize iA:World.alloc _ _=w1;have hs1:w1.heap.size=a0.heap.size+2:=by subst iA;simp
 have ho1:∀y,y<a0.heap.size->w1.heap[y]? =a0.heap[y]? :=λy hy=>by subst iA;simp only[←dt,dz,fN];rw[aU ai,aU ai]
 have hr1:w1.heap[a0.heap.size+1]? =ae (aK #[aD ah 0 0,aD ah 0 0,aq af 0,.bool aw] 31 (0,0)):=by subst iA;simp only[←dt,dz,fN];rw[aX trivial]
 clear iA;have Hn:=aA (λτ=>zy.out (w1.tp τ) ho1);have Ho1:=aA ho1;have Te:=aA hs1;have k0:=cO hr1 0;have k1:=cO hr1 1;have k2:=cO hr1 2;have k3:=cO hr1 3;have z0:=aM hr1 0 (bQ _);have z1:=aM hr1 1 (bQ _);have z2:=aM hr1 2 (bQ _);have z3:=aM hr1 3 (bQ _);clear ho1 hs1 hr1 zy;refine wpM_seq (wpM_lone pP hcs aQ yg (ni aQ _) (λτ=>?_));go_wp2_with fail
 refine(Hn.out τ).mono ?_;rintro r W' ⟨rfl,rfl⟩;go_wp2_with fail
 refine⟨w1,⟨rfl,rfl,rfl⟩,?_⟩;try simp only[bE]
 have hne:(e !=0)=au:=by simpa using he
 refine Ai λτ=>?_;refine bz (t:=au) (by simp[cS,hne]) ?_;refine iI λτ=>?_;refine cD ?_;refine⟨rfl,.tuple #[.agg #[aD ah 0 0,aD ah 0 0,aq af 0,.bool aw],aD ah 0 0,aq af e],?_,rfl,⟨e,rfl,he⟩,?_,λy hy=>?_⟩
 .simp[eL,go_sem, *]
 .have:=Te.out;simp only[fF,xi];omega
 .have hne:y≠a0.heap.size+1:=ai;rw[az hne,az hne,az hne,az hne];exact Ho1.out y hy
theorem SH(hU:∀c fs,U fs->U (c::fs))(Ha:NE cs0){s o cap:Nat}(hzs:jS s o zs a0)(hs:s<a0.heap.size)(hn:1<=zs.length/\zs.length<=64)(hl:pX zs=au){wk tu:Option aP}{tn hh:Nat}{lens:List Nat}(hlen:lens.length<100000)(hbad:gh lens un=aw)
  (hck:∀W:aj,(∀y,y<a0.heap.size->W.heap[y]? =a0.heap[y]?)->b9 aC 70 #[.agg (aW wk tu ha lens.length wc tn tc hh hc un)] W λe w''=>e=.returned (aq af 30)/\Below W.heap.size W w''):
  CallsM aC au cs0 Jm Stop U i 10 #[aD (ae ⟨s,o,ah⟩) zs.length cap,.agg (aW wk tu ha lens.length wc tn tc hh hc un)] a0 (Ik i a0):=by
 have hcs:=mI;have Hzs:=aA hzs;have Hck:=aA hck;clear hzs hck;refine bL func10 rfl ?_;simp only[f10,cN,aW]at Hck⊢;walk_nrm;refine iI λτ=>?_;generalize iA:World.alloc _ _=w1;have hs1:w1.heap.size=a0.heap.size+2:=by subst iA;simp
 have ho1:∀y,y<a0.heap.size->w1.heap[y]? =a0.heap[y]? :=λy hy=>by subst iA;simp only[←dt,dz,fN];rw[aU ai,aU ai]
 have hc1:w1.heap[a0.heap.size]? =ae (aK #[aD wk lens.length wc,aD tu tn tc,aD ha hh hc,aq af un] 25 (0,0)):=by subst iA;simp only[←dt,dz,fN];rw[aU ai,aX trivial]
 have hr1:w1.heap[a0.heap.size+1]? =ae (aK #[aD ah 0 0,aD ah 0 0,aq af 0,.bool aw] 31 (0,0)):=by subst iA;simp only[←dt,dz,fN];rw[aX trivial]
 clear iA;have hnew:∀τ,b9 aC 18 #[aD (ae ⟨s,o,ah⟩) zs.length cap] (w1.tp τ) (MQ zs (w1.tp τ)):=λτ=>new_yes s o cap zs (w1.tp τ) (λi hi=>(dr (w:=a0) (ho1 s hs)).trans (Hzs.out i hi)) hn.1 hn.2 hl (show s<w1.heap.size by omega);have zy:=aA hnew;have Ho1:=aA ho1;have Hc1:=aA hc1;have Hr1:=aA hr1;have Te:=aA hs1;clear hnew ho1 hc1 hr1 hs1;refine wpM_seq (wpM_lone pP hcs aQ yg (ni aQ _) (λτ=>?_));go_wp2_with fail
 refine(zy.out τ).mono ?_;rintro e w2 ⟨rfl,hblk,dQ,nT⟩;have hs1:=Te.out;have nT:w2.heap.size=w1.heap.size+2:=nT;have hb2:∀y,y<w1.heap.size->w2.heap[y]? =w1.heap[y]? :=λy hy=>dQ.block y hy;obtain⟨bb,hbb⟩:∃bb,bb=(w1.tp τ).heap.size+1:=⟨_,rfl⟩;rw[←hbb];clear hbb;have Az:∀y,y<a0.heap.size->w2.heap[y]? =a0.heap[y]? :=λy hy=>by rw[hb2 y ai];exact Ho1.out y hy
 have hc2:=hb2 a0.heap.size ai;rw[Hc1.out]at hc2;have hr2:=hb2 (a0.heap.size+1) ai;rw[Hr1.out]at hr2;have Yp:=aA Az;have Hc2:=aA hc2;have Hr2:=aA hr2;have IC:Go.RowKit.Hid (a0.heap.size+2<=w2.heap.size):=aA ai;clear hblk dQ hb2 Az hc2 hr2 hs1 zy nT;go_wp2_with fail
 refine⟨w2,⟨rfl,rfl,rfl⟩,?_⟩;try simp only[bE]
 have hc2:=Hc2.out;have k0:=cO hc2 0;have k1:=cO hc2 1;have k2:=cO hc2 2;have k3:=cO hc2 3;clear hc2;refine Ai λτ=>?_;refine Cs ?_;try simp only[bE]
 have hrun:=adW (U:=U) (a0:=w2) (Jm:=Jm) (Stop:=Stop) (i:=i) Ha wk wc tn tc hh hc tu ha lens un 56 (aI (ae ⟨bb,0,ah⟩)) hlen hbad (λW hW=>Hck.out W λy hy=>by rw[hW y (by have:=IC.out;omega)];exact Yp.out y hy);have Yq:=aA hrun;clear hrun;refine pS ?_;iterate 3
  refine gP ?_
 refine bA (args:=#[.agg #[aD wk lens.length wc,aD tu tn tc,aD ha hh hc,aq af un],.iface 56 (aI (ae ⟨bb,0,ah⟩))]) rfl rfl rfl func33 rfl rfl dS (λb k fs h1 h2=>hU _ _ h2) Yq.out ?_;rintro i3 v3 w3 ⟨rfl,rfl,Ay,ho3⟩;have Ho3:=aA ho3;have Hs3:=aA Ay;clear ho3 Ay Yq;walk_nrm;iterate 6
  refine gP ?_
 refine on ?_;refine Ai λτ=>?_;refine bz (t:=au) dS ?_;try simp only[bE]
 generalize QJ:World.alloc _ _=w5;have hs2:=IC.out;have hs3:=Hs3.out;have CJ:∀y,y<w2.heap.size->w5.heap[y]? =w2.heap[y]? :=λy hy=>by rw[←QJ,←Ho3.out y hy];exact gT w3 _ _ ai
 have hs5:w5.heap.size=w3.heap.size+1:=by rw[←QJ];exact cM _ _
 clear QJ;have Y9:=CJ (a0.heap.size+1) ai;rw[Hr2.out]at Y9;have j0:=cO Y9 0;have j1:=cO Y9 1;have j2:=cO Y9 2;have j3:=cO Y9 3;have z0:=aM Y9 0 (bQ _);have z1:=aM Y9 1 (bQ _);have z2:=aM Y9 2 (bQ _);have z3:=aM Y9 3 (bQ _);have Ho5:=aA CJ;have Hs5:=aA hs5;clear CJ hs5 Y9 k0 k1 k2 k3 hs2 hs3;refine iI λτ=>?_;refine cD ?_;refine⟨rfl,.tuple #[.agg #[aD ah 0 0,aD ah 0 0,aq af 0,.bool aw],aD ah 0 0,aq af 30],?_,rfl,⟨30,rfl,aN⟩,?_,λy hy=>?_⟩
 .simp[eL,go_sem, *]
 .have:=Hs5.out;have:=Hs3.out;have:=IC.out;simp only[fF,xi];omega
 .have hne:y≠a0.heap.size+1:=ai;rw[az hne,az hne,az hne,az hne];rw[Ho5.out y (by have:=IC.out;omega)];exact Yp.out y hy
end
end
section
open Go.Proofs.YtfmibhmknlnoiaaGreat.Pr
section
variable{n:Nat}{S:Int->Prop}{W:Int}{d:Nat}{es:List fC}
theorem JS.agq(s:JS)(hl:s.ws.length=n)(hc:c<n)(o v:Int)(x:Nat):(s.vF c o v).w x=if s.w c=o/\c=x then v else s.w x:=by
 unfold JS.vF;by_cases h:s.w c=o
 .rw[aX h,JS.Pv _ _ _ _ ai];by_cases e:c=x
  .rw[aX e,aX ⟨h,e⟩]
  .rw[aU e,aU (λh'=>e h'.2)]
 .rw[aU h,aU (λh'=>h h'.1)]
theorem Dh(hn:0<n)(hF:Full n S es):∀(l:List fC) (s:JS) (W:Int),(∀e∈l,e∈es)->WI n S s W->s.ds d=ae ⟨es,1⟩->(jH d au l).lr (λ_ s'=>WI n S s' W/\∀x,(0<=s.w x->0<=s'.w x)/\((∃e∈l,e.cell=x)->s.w x=bo d->0<=s'.w x)) s:=by
 intro l;induction l with
 |nil=>exact λs W _ I _=>⟨I,λx=>⟨id,λ⟨e,he,_⟩=>by cases he⟩⟩
 |cons e l ih=>
  intro s W hl I hd;unfold jH;obtain⟨i,hi⟩:=rS.1 (hl e (nt ..));obtain⟨Py,_,_,n1,n2⟩:=hF.ent i e hi;have j4:i<n:=by have:=(eX.1 hi).1;rw[hF.len]at this;exact this
  obtain⟨u1,u2⟩:=I.clean (K:=λ_=>False) (M:=λ_=>False) (i:=i) (v:=dR e.old e.next) hd aJ hi (λ_=>rfl);show Pr.lr _ (jH d au l) (s.vF e.cell (bo d) (dR e.old e.next));rw[Py];have hw:=JS.agq s I.len j4 (bo d) (dR e.old e.next);have hv:=(tY e.old e.next n1 n2).1;have I1:WI n S (s.vF i (bo d) (dR e.old e.next)) W:=by obtain⟨W1,I1,B⟩:=u1.wb W I;have ht:gm W=gm W1:=(by rw[I.tag,I1.tag];simp only[dn,JS.st,u2]);rw[←B.tag.2 ht];exact I1
  generalize s.vF i (bo d) (dR e.old e.next)=s1 at*;refine Pr.lr.mono (λ_ s' ⟨I',h'⟩=>⟨I',λx=>⟨λh=>(h' x).1 ?_,λ⟨e',S8,hx⟩ h=>?_⟩⟩) (ih s1 W (λe he=>hl e (kH _ he)) I1 (by rw[u2];exact hd))
  .rw[hw];split
   .exact hv
   .exact h
  .by_cases ex:i=x
   .refine(h' x).1 ?_;rw[hw,aX ⟨by rw[ex];exact h,ex⟩];exact hv
   .rcases fU.1 S8 with rfl|S8
    .exact aT (Py.symm.trans hx) ex
    .exact(h' x).2 ⟨e',S8,hx⟩ (by rw[hw,aU (λh=>ex h.2)];exact h)
theorem Le(hn:0<n)(I:WI n S s W)(hd:s.ds d=ae D)(hst:D.st=1):(kt (f+2) d).lr (λ_ s'=>WI n S s' W/\∀x,(0<=s.w x->0<=s'.w x)/\(s.w x=bo d->0<=s'.w x)) s:=by
 obtain⟨es,st⟩:=D;obtain rfl:st=1:=hst;have hF:=(I.desc d _ hd).2.2;have hs1:s.st d=1:=cA hd;have hes:s.es d=es:=by simp[JS.es,hd]
 unfold kt;show Pr.lr _ ((installsP (kt (f+1)) d (s.es d) (f+1) 0).bind _) s;rw[hes];unfold installsP;have h0:0<es.length:=by rw[hF.len];exact hn
 rw[eQ h0];show Pr.lr _ (Pr.bind (if s.st d≠0 then _ else _) _) s;rw[aX (by rw[hs1];decide)];show Pr.lr _ ((jH d (decide (s.st d=1)) es).bind _) s;rw[hs1];refine Pr.lr.bind (λ_ s' h=>Pr.lr.nd ⟨h.1,λx=>⟨(h.2 x).1,λhx=>(h.2 x).2 ?_ hx⟩⟩) (Dh (d:=d) hn hF es s W (λ_ h=>h) I hd);have hxl:x<es.length:=by rw[hF.len];exact I.lt hx
 exact⟨es[x],rV _,(hF.ent x _ (eQ hxl)).1⟩
theorem Yr(hn:0<n):∀(m i f:Nat) (s:JS),i+m=n->m<f->WJ n S s->s.ds d=ae ⟨es,0⟩->s.w 0=bo d->(∀j,j<i->s.w j=bo d)->(installsP j6 d es f i).lr (λok s'=>ok=au/\WJ n S s'/\s'.ds d=ae ⟨es,0⟩/\∀j,j<n->s'.w j=bo d) s:=by
 intro m;induction m with
 |zero=>intro i f s hm hf I hd h0 hp;obtain⟨f,rfl⟩:∃f',f=f'+1:=⟨f-1,ai⟩;obtain⟨W,I'⟩:=id I;have hl:=(I'.desc d _ hd).2.2.len;unfold installsP;rw[vz (by simp only at hl;omega)];exact Pr.lr.nd ⟨rfl,I,hd,λj hj=>hp j ai⟩
 |succ m ih=>
  intro i f s hm hf I hd h0 hp;obtain⟨f,rfl⟩:∃f',f=f'+1:=⟨f-1,ai⟩;obtain⟨W,I'⟩:=id I;have hF:=(I'.desc d _ hd).2.2;have hl:=hF.len;simp only at hl;have he:es[i]? =ae es[i]:=eQ ai;generalize es[i]=e at he;obtain⟨Py,Ec,_⟩:=hF.ent i e he;have hs0:s.st d=0:=cA hd;unfold installsP;rw[he];show Pr.lr _ (if s.st d≠0 then _ else _) s;rw[aU (by rw[hs0];decide),Py];show Pr.lr _ (if(s.w i==e.old)=au then _ else _) (s.vF i e.old (bo d));obtain⟨D',g1,g2⟩:=I'.who h0;rw[hd]at g1;obtain rfl:=bj g1;rcases g2 with⟨_,ho,_⟩|⟨g,_⟩
  .obtain⟨c1,c2⟩:=I'.cur d _ hd rfl ho;have hold:=c1 e (nJ he);by_cases hw:s.w i=e.old
   .rw[aX (by simpa using hw)];have xb:i≠0:=λh=>(by subst h;have:=fT d;omega);obtain⟨u1,u2,u3,u4⟩:=I'.install (K:=λ_=>False) (M:=λ_=>False) (i:=i) hd rfl he ai hw ho hp (λh=>aT h xb);exact ih (i+1) f _ ai ai (u1.wj I) (by rw[u3];exact hd) (u4 0 ai) (λj hj=>by
     by_cases ej:j=i
     .rw[ej];exact u2
     .exact u4 j ai)
   .rw[aU (by simpa using hw),PO hw];have hu:s.w i=bo d:=by
     rcases I'.cell i ai with h|⟨x,D2,x1,x2,x3⟩
     .exact aT (by rw[h,hold]) hw
     .rcases x3 with⟨x3,_⟩|⟨x3,_⟩
      .obtain⟨D3,y1,y2⟩:=I'.who x1;rw[x2]at y1;obtain rfl:=bj y1;rcases y2 with⟨_,_,y2⟩|⟨y2,_⟩
       .rw[h0]at y2;rw[jb y2];exact x1
       .omega
      .exact aT ⟨x,x1,by rw[cA x2];exact x3⟩ (c2 i ai)
    show Pr.lr _ (if s.w i=bo d then _ else _) s;rw[aX hu];exact ih (i+1) f s ai ai I hd h0 (λj hj=>by
     by_cases ej:j=i
     .rw[ej];exact hu
     .exact hp j ai)
  .cases g
theorem Ys(hn:0<n)(hf:n<f)(I:WJ n S s)(hd:s.ds d=ae D)(hst:D.st=0)(h0:s.w 0=bo d):(kt (f+1) d).lr (λ_ s'=>WJ n S s'/\0<=s'.w 0) s:=by
 obtain⟨es,st⟩:=D;obtain rfl:st=0:=hst;have hes:s.es d=es:=by simp[JS.es,hd]
 unfold kt;show Pr.lr _ ((installsP (kt f) d (s.es d) f 0).bind _) s;rw[hes];refine Pr.lr.bind (λok s1 h1=>?_) (Yr (S:=S) (es:=es) hn n 0 f s ai hf I hd h0 (λj hj=>ai));obtain⟨rfl,I1,hd1,hall⟩:=h1;obtain⟨u1,u2⟩:=WI.do (n:=n) (S:=S) (K:=λ_=>False) (M:=λ_=>False) hn hd1 rfl hall;show Pr.lr _ ((jH d (decide ((s1.decide d 1).st d=1)) es).bind _) (s1.decide d 1);rw[cA u2];have hw:(s1.decide d 1).w 0=bo d:=by
  have:(s1.decide d 1).w 0=s1.w 0:=by unfold JS.decide;split<;>rfl
  rw[this];exact hall 0 hn
 obtain⟨W2,I2⟩:=u1.wj I1;have hF:=(I2.desc d _ u2).2.2;have h0l:0<es.length:=by have:=hF.len;simp only at this;omega
 refine Pr.lr.bind (λ_ s' h=>Pr.lr.nd ⟨⟨W2,h.1⟩,(h.2 0).2 ⟨es[0],rV _,?_⟩ hw⟩) (Dh (d:=d) hn hF es _ W2 (λ_ h=>h) I2 u2);exact(hF.ent 0 _ (eQ h0l)).1
theorem load_plain{Q:Int->JS->Prop}(h:0<=s.w c)(hQ:Q (s.w c) s):(iF F (f+1) c).lr Q s:=by unfold iF;show Pr.lr _ (if s.w c<0 then _ else _) s;rw[aU ai];exact Pr.lr.nd hQ
theorem SI(hn:0<n)(hF:2<=F)(hc:c<n)(I:WI n S s W)(h0:0<=s.w 0):(iF F (f+2) c).lr (λh s'=>h=W/\WI n S s' W/\0<=s'.w 0) s:=by
 by_cases h:0<=s.w c
 .exact load_plain h ⟨I.plain hc h,I,h0⟩
 .obtain⟨F,rfl⟩:∃f',F=f'+2:=⟨F-2,ai⟩;obtain⟨d,hd,hx⟩:=yj (x:=s.w c) ai;obtain⟨D,g1,g2⟩:=I.who hd;unfold iF;show Pr.lr _ (if s.w c<0 then _ else _) s;rw[aX ai,hx];rcases g2 with⟨_,_,g⟩|⟨g,_⟩
  .have:=fT d;omega
  .refine Pr.lr.bind (λ_ s1 h1=>?_) (Le hn I g1 g);obtain⟨I1,h2⟩:=h1;have hcc:=(h2 c).2 hd;exact load_plain hcc ⟨I1.plain hc hcc,I1,(h2 0).1 h0⟩
theorem SJ(hn:0<n)(hF:n+2<=F)(I:WI n S s W):(iF F (f+2) 0).lr (λh s'=>WI n S s' h/\0<=s'.w 0) s:=by
 by_cases h:0<=s.w 0
 .exact load_plain h ⟨by rw[I.plain hn h];exact I,h⟩
 .obtain⟨d,hd,hx⟩:=yj (x:=s.w 0) ai;obtain⟨D,g1,g2⟩:=I.who hd;unfold iF;show Pr.lr _ (if s.w 0<0 then _ else _) s;rw[aX ai,hx];have key:∀s1,WJ n S s1->0<=s1.w 0->(iF F (f+1) 0).lr (λh s'=>WI n S s' h/\0<=s'.w 0) s1:=λs1 ⟨W1,I1⟩ h1=>load_plain h1 ⟨by rw[I1.plain hn h1];exact I1,h1⟩;rcases g2 with⟨g,_,_⟩|⟨g,_⟩
  .obtain⟨F',rfl⟩:∃f',F=f'+1:=⟨F-1,ai⟩;exact Pr.lr.bind (λ_ s1 h1=>key s1 h1.1 h1.2) (Ys hn ai ⟨W,I⟩ g1 g hd)
  .obtain⟨F',rfl⟩:∃f',F=f'+2:=⟨F-2,ai⟩;exact Pr.lr.bind (λ_ s1 h1=>key s1 ⟨W,h1.1⟩ ((h1.2 0).2 hd)) (Le hn I g1 g)
theorem Od(hn:0<n)(hF:2<=F):∀(l:List Nat) (s:JS),(∀c∈l,c<n)->WI n S s W->0<=s.w 0->(iQ F n l).lr (λvs _=>vs=eA l.length (bV W)) s:=by
 intro l;induction l with
 |nil=>exact λs _ _ _=>rfl
 |cons c l ih=>intro s hl I h0;unfold iQ x9;have hc:=hl c (nt ..);obtain⟨F',hF'⟩:∃f',F=f'+2:=⟨F-2,ai⟩;rw[aX ai,show((c:Int)).toNat=c by omega];have hld:=SI (F:=F) (f:=F') hn hF hc I h0;rw[←hF']at hld;refine Pr.lr.bind (Q:=λ(r:Int×Int) s'=>r.1=bV W/\WI n S s' W/\0<=s'.w 0) (λr s1 h1=>?_) (Pr.lr.bind (λh s1 h1=>Pr.lr.nd ⟨by rw[h1.1],h1.2⟩) hld);refine Pr.lr.bind (λvs s2 h2=>Pr.lr.nd ?_) (ih s1 (λc hc=>hl c (kH _ hc)) h1.2.1 h1.2.2);rw[h1.1,h2];rfl
theorem Lf(hn:0<n)(hF:n+2<=F)(I:WJ n S s):∃vs s',(iQ F n (dx n)).alone s=ae (vs,s')/\∃x,S x/\vs=eA n x:=by
 obtain⟨W,I⟩:=I;obtain⟨m,rfl⟩:∃m,n=m+1:=⟨n-1,ai⟩;have key:(iQ F (m+1) (dx (m+1))).lr (λvs _=>∃x,S x/\vs=eA (m+1) x) s:=by rw[CQ,xS];unfold iQ x9;obtain⟨F',hF'⟩:∃f',F=f'+2:=⟨F-2,ai⟩;rw[aX ai,show((0:Nat):Int).toNat=0 by omega];have hld:=SJ (F:=F) (f:=F') hn hF I;rw[←hF']at hld;refine Pr.lr.bind (Q:=λ(r:Int×Int) s'=>∃W,r.1=bV W/\WI (m+1) S s' W/\0<=s'.w 0) (λr s1 h1=>?_) (Pr.lr.bind (λh s1 h1=>Pr.lr.nd ⟨h,rfl,h1⟩) hld);obtain⟨W1,e1,I1,h01⟩:=h1;refine Pr.lr.bind (λvs s2 h2=>Pr.lr.nd ⟨bV W1,I1.val,?_⟩) (Od hn ai _ s1 (λc hc=>by have:=List.mem_range'_1.1 hc;omega) I1 h01);rw[e1,h2,List.length_range'];rfl
 obtain⟨vs,s',h1,h2⟩:=Pr.lr.alone key;exact⟨vs,s',h1,h2⟩
end
theorem aaR{S:Int->Prop}{v:Int}(hz:∀c,c<zs.length->zs.getD c 0=v)(hv:0<=v/\v<=1048575)(hS:S v):WI zs.length S (sM zs) (v*1099511627776)/\∀k,lv (sM zs) k=0:=by
 have hw:∀c,c<zs.length->(sM zs).w c=v*1099511627776:=λc hc=>by rw[show(sM zs).w c=_ from J6 zs c hc,hz c hc]
 have hlv:∀k,lv (sM zs) k=0:=λk=>by
  have h:∀m,jY (λd=>d % 8==k&&g9 (sM zs) d) m=0:=by
   intro m;induction m with
   |zero=>rfl
   |succ m ih=>unfold jY;rw[ih];simp[g9,sM]
  exact h 8192
 have hdn:dn (sM zs)=0:=by
  have h:∀m,jY (λd=>(sM zs).st d==1) m=0:=by
   intro m;induction m with
   |zero=>rfl
   |succ m ih=>unfold jY;rw[ih];simp[JS.st,sM]
  exact h 8192
 exact⟨⟨pK zs,λ_ _ _ _=>rfl,λk m _ h=>aT h (fR _),ai,by rw[show bV (v*1099511627776)=v by unfold bV;omega];exact hS,by rw[hdn];unfold gm;omega,λd D h=>dB,λd D e h=>dB,λd D h=>dB,λd D h=>dB,λc hc=>.inl (hw c hc),λd D c c' h=>dB,λk _=>by rw[hlv];omega⟩,hlv⟩
def zA(v:Int)(cc:cu)(x:Int):Prop:=x=v\/∃k d,k<cc.n/\d∈cc.calls k/\d.kind=2/\d.b=x
theorem FP{v:Int}{cc:cu}(hn:0<zs.length)(adx:zs.length<=16)(hz:∀c,c<zs.length->zs.getD c 0=v)(hv:0<=v/\v<=1048575)(hc0:0<cc.n)(h8:cc.n<=8)(hlen:∀k,(cc.calls k).length<=64)(hk:∀k d,d∈cc.calls k->(d.kind=2\/d.kind=4)/\pq zs.length d)(t:Nat):
  (∀k (i:Nat) (a:my) (d:bs),k<cc.n->(((fc m zs cc).ar t).w k).got[i]? =ae a->(cc.calls k)[i]? =ae d->adK zs.length (zA v cc) d a.ans)/\
  ∃vs s',(iQ 20004 zs.length (dx zs.length)).alone ((fc m zs cc).ar t).s=ae (vs,s')/\∃x,zA v cc x/\vs=eA zs.length x:=by
 obtain⟨hI,hl0⟩:=aaR (S:=zA v cc) hz hv (.inl rfl);have hf:∀t,(AR.at (fc m zs cc).L.toLay cc (sM zs) t).Kg (WJ zs.length (zA v cc)) (RK zs.length (zA v cc)) (GW zs.length (zA v cc)) (Cn zs.length (zA v cc)) cc (λ_ d a=>adK zs.length (zA v cc) d a):=by
  intro t;induction t with
  |zero=>refine⟨⟨_,hI⟩,λk b own p _ h=>dB,λk _ _=>⟨Nat.le_of_eq (hl0 k),λW I=>?_⟩,λk i a _ h=>dB⟩;rw[I.tag];show((0:Nat):Int)<=_;omega
  |succ t ih=>refine AR.M4 (I:=WJ zs.length (zA v cc)) (R:=RK zs.length (zA v cc)) (G:=GW zs.length (zA v cc)) (Pre:=Cn zs.length (zA v cc)) (λ_ _=>WR.refl _) (λ_ _=>WR.refl _) (λ_=>WR.trans) (λ_=>WR.trans) (λk j a b hj h=>WR.weak (λx hx=>by subst hx;exact hj) (λx hx=>by subst hx;exact hj) a b h) (λk i a b qK Ia Ib g h=>h.rely hn ai Ia Ib g rfl) (λk i d s qK hd I C=>?_) ih (Be _ hc0);have hm:=nJ hd;obtain⟨a1,a2⟩:=hk k d hm;exact NW hn 20004 ai (by have:=(eX.1 hd).1;have:=hlen k;omega) d a1 a2 (λh=>.inr ⟨k,d,qK,hm,h,rfl⟩) I C
 have hf:=hf (t-cc.n);refine⟨λk i a d qK ha hd=>?_,Lf hn (F:=20004) ai hf.inv⟩;obtain⟨d',h1,h2⟩:=hf.got k i a qK ha;rw[hd]at h1;obtain rfl:=bj h1;exact h2
end
section
open Go Go.Conc Go.ConcN Go.RowKit
variable[Inhabited dc]
structure kM(w w':aj):Prop where
 size:w.heap.size<=w'.heap.size
 old:∀(y:Nat) o,w.heap[y]? =ae o->o≠eh->w'.heap[y]? =ae o
structure agr(X:Nat->Prop)(w w':aj):Prop where
 size:w.heap.size<=w'.heap.size
 old:∀y,y<w.heap.size->¬X y->w'.heap[y]? =w.heap[y]?
theorem kM.trans{a b c:aj}(h:kM a b)(g:kM b c):kM a c:=⟨dm h.size g.size,λy o h1 h2=>g.old y o (h.old y o h1 h2) h2⟩
theorem kM.row{a b:aj}(h:kM a b)(hr:a.ownsRow B e sz v m xs):b.ownsRow B e sz v m xs:=row_keep hr λg hg=>by obtain⟨cur,hc⟩:=dV hr hg;rw[hc];exact h.old g _ hc bu
theorem kM.stand{a b:aj}(h:kM a b):nN a b e:=λg cur hg=>by rw[hg];exact h.old g _ hg bu
structure aaS(zs:List Int)(cc:cu)(rv ov:ay)(w:aj):Prop where
 len:1<=zs.length/\zs.length<=64
 lie:∀i,i<zs.length->pW (zs.getD i 0)
 ok:gh (cc.work.map List.length) cc.until_=au
 ex:∃m t vs s' va ao no co uR,((fc m zs cc).ar t).goes cc=aw/\cc.n<=t/\(iQ 20004 zs.length (dx zs.length)).alone ((fc m zs cc).ar t).s=ae (vs,s')/\rv=.agg #[va,aD ao no co,aq af ((t-cc.n:Nat):Int),.bool (((fc m zs cc).ar t).any cc)]/\
  w.ownsRow 0 45 1 va cc.n uR/\w.ownsRow 0 3 1 ov zs.length (gH vs)/\∀i,i<cc.n->∃sl,uR[i]? =ae sl/\AnsAt w sl (((fc m zs cc).ar t).w i).got
def abK(zs:List Int)(cc:cu)(rv ov:ay)(ev:Int)(w:aj):Prop:=(ev≠0/\ov=aD ah 0 0/\rv=.agg #[aD ah 0 0,aD ah 0 0,aq af 0,.bool aw])\/(ev=0/\aaS zs cc rv ov w)
def Yt(rv:ay):Prop:=∃a n c a' n' c' st cut,rv=.agg #[aD a n c,aD a' n' c',aq af st,.bool cut]
def Bu(zs:List Int)(cc:cu)(w0:aj)(v:ay)(w:aj):Prop:=∃rv ov ev,v=.tuple #[rv,ov,aq af ev]/\Yt rv/\(∃a n c,ov=aD a n c)/\kM w0 w/\∀X:Nat->Prop,(∀y,X y->∃cs,w0.heap[y]? =ae (aK cs 31 (0,0)))->∀w',agr X w w'->abK zs cc rv ov ev w'
theorem Oe{i':ι}{cc:cu}(h:Ik i a0 i' v a'):i'=i/\Bu zs cc a0 v a':=by obtain⟨h1,⟨e,rfl,he⟩,h3,h4⟩:=h;exact⟨h1,_,_,e,rfl,⟨_,_,_,_,_,_,_,_,rfl⟩,⟨_,_,_,rfl⟩,⟨h3,λy o hy _=>by rw[h4 y (bF.1 hy).1];exact hy⟩,λX _ w' _=>.inl ⟨he,rfl,rfl⟩⟩
theorem Lg{cc:cu}(hlen:1<=zs.length/\zs.length<=64)(aaT:∀i,i<zs.length->pW (zs.getD i 0))(hok:gh (cc.work.map List.length) cc.until_=au)(h:Ij (fc a0.heap.size zs cc) zs.length a0 v a'):Bu zs cc a0 v a':=by
 obtain⟨t,h1,h2,_,h3,h4,vs,s',h5,va,ao,no,co,ov,uR,B,rfl,h6,h7,h8⟩:=h.ex;obtain⟨aa,ca,rfl⟩:=dX h6;obtain⟨oa,oc,rfl⟩:=dX h7;refine⟨_,_,0,rfl,⟨_,_,_,_,_,_,_,_,rfl⟩,⟨_,_,_,rfl⟩,⟨h3,h4⟩,λX hX w' hw=>.inr ⟨rfl,hlen,aaT,hok,a0.heap.size,t,vs,s',_,_,_,_,uR,h1,h2,h5,rfl,?_,?_,λi hi=>?_⟩⟩
 .have hst:∀{B sz m:Nat} {e:bq} {v:ay} {xs:List ay},e≠31->a'.ownsRow B e sz v m xs->w'.ownsRow B e sz v m xs:=λhne hr=>row_keep hr λg hg=>by refine hw.old g (hr.lt g hg).2 λhx=>?_;obtain⟨cs,hcs⟩:=hX g hx;obtain⟨cur,hc⟩:=dV hr hg;rw[h4 g _ hcs bu]at hc;cases hc;exact hne rfl
  exact row_base (hst aN h6) (bQ _)
 .have hst:∀{B sz m:Nat} {e:bq} {v:ay} {xs:List ay},e≠31->a'.ownsRow B e sz v m xs->w'.ownsRow B e sz v m xs:=λhne hr=>row_keep hr λg hg=>by refine hw.old g (hr.lt g hg).2 λhx=>?_;obtain⟨cs,hcs⟩:=hX g hx;obtain⟨cur,hc⟩:=dV hr hg;rw[h4 g _ hcs bu]at hc;cases hc;exact hne rfl
  exact row_base (hst aN h7) (bQ _)
 .obtain⟨sl,g1,g2⟩:=h8 i hi;refine⟨sl,g1,g2 w' hw.size λy hy hp=>hw.old y hy λhx=>?_⟩;obtain⟨cs,hcs⟩:=hX y hx;exact aT (hp _ hcs) bu
section
variable{Stop:Ph->aB->List aB->aj->Prop}{w:aj}{wk tu:Option aP}{cc:cu}
theorem play_law(hf:w.ownsRow lo 3 1 fv zs.length (gH zs))(A:uv w lo (aD wk cc.work.length wc) cc.work)(T:w.ownsRow lo 3 1 (aD tu cc.turns.length tc) cc.turns.length (gH cc.turns))(H:w.ownsRow lo 3 1 (aD ha cc.halt.length hc) cc.halt.length (gH cc.halt))
  (hz:zs.length<=1000)(mO:cc.until_=un.toNat)(tl:cc.turns.length<100000)(wl:cc.work.length<100000)(hk2:∀k d,d∈cc.calls k->(d.kind=2\/d.kind=4)/\pq zs.length d)
  (hrd:gh (cc.work.map List.length) cc.until_=au->0<cc.n->cc.n<=8->1<=zs.length/\zs.length<=64->(∀i,i<zs.length->pW (zs.getD i 0))->∀m t,∃vs s',(iQ 20004 zs.length (dx zs.length)).alone ((fc m zs cc).ar t).s=ae (vs,s')):
  ∃U,CallsM aC au [] (JP aC S [] U) Stop (λ_=>True) .pre 10 #[fv,.agg (aW wk tu ha cc.work.length wc cc.turns.length tc cc.halt.length hc un)] w (λi v a'=>(i=.pre\/i=.post)/\Bu zs cc w v a'):=by
 have hU:∀(c:aB) fs,(λ_=>True:List aB->Prop) fs->(λ_=>True:List aB->Prop) (c::fs):=λ_ _ _=>trivial;have hno:∀{v:ay} {i:Ph} {a':aj},Ik Ph.pre w i v a'->(i=.pre\/i=.post)/\Bu zs cc w v a':=λh=>by obtain⟨h1,h2⟩:=Oe (zs:=zs) (cc:=cc) h;exact⟨.inl h1,h2⟩
 obtain⟨a,cap,rfl⟩:=dX hf;let U0:bp->fX:=λd=>(fc w.heap.size zs cc).cP d.W;by_cases h0:zs.length=0
 .rw[h0];exact⟨U0,(Dg (e:=261) (w0:=(_,_)) (w1:=(_,_)) (w2:=(_,_)) rfl rfl rfl aN λW _=>new_few a cap W).mono λi v a' h=>hno h⟩
 by_cases h1:64<zs.length
 .exact⟨U0,(Dg (e:=261) (w0:=(_,_)) (w1:=(_,_)) (w2:=(_,_)) rfl rfl rfl aN λW _=>new_many a zs.length cap W h1 hz).mono λi v a' h=>hno h⟩
 obtain⟨g,cap',hv,hcell⟩:=uD hf ai;obtain⟨rfl,_,rfl⟩:=sr hv;have hzs:jS g 0 zs w:=λi hi=>by rw[eB,hcell i ai];unfold gH;rw[nM,eQ hi,eF,eQ hi];rfl
 have NA:g<w.heap.size:=(hf.lt g rfl).2;cases hl:pX zs with
 |false=>exact⟨U0,(Dg (e:=263) (w0:=(_,_)) (w1:=(_,_)) (w2:=(_,_)) rfl rfl rfl aN λW hW=>new_value g 0 cap zs W (λi hi=>(dr (w:=w) (hW g NA)).trans (hzs i hi)) ai ai hl).mono λi v a' h=>hno h⟩
 |true=>
  have aaT:=(pg zs).1 hl;cases hok:gh (cc.work.map List.length) un with
  |false=>have:=SH (a0:=w) (Jm:=JP aC S [] U0) (Stop:=Stop) (i:=Ph.pre) (U:=λ_=>True) (cs0:=[]) hU trivial (cap:=cap) (wc:=wc) (tn:=cc.turns.length) (tc:=tc) (hh:=cc.halt.length) (hc:=hc) (wk:=wk) (tu:=tu) (ha:=ha) (lens:=cc.work.map List.length) hzs NA ⟨ai,ai⟩ hl (by simpa using wl) hok (λW hW=>check_copy un hok A wl W hW _ _);rw[uC]at this;exact⟨U0,this.mono λi v a' h=>hno h⟩
  |true=>have lJ:0<cc.work.length/\cc.work.length<=8/\0<=un:=(by unfold gh at hok;simp only[uC,cR,decide_eq_true_eq]at hok;exact⟨hok.1.1,hok.1.2.1,hok.1.2.2.1⟩);have acU:un=(cc.until_:Int):=(by rw[mO];omega);subst acU;obtain⟨wb,csC,eC,rfl,hC⟩:=Ho (σ:=JS) hok A T H tl;exact⟨U0,(Yo (S:=S) (Stop:=Stop) (U:=λ_=>True) (cs0:=[]) hU trivial hzs NA ⟨ai,ai⟩ hl hok hk2 (λJ a' h1 h2 h3 h4 h5=>hC J a' h1 h2 h3 h4 h5) (λy hy=>PL hy) (λt _=>hrd hok lJ.1 lJ.2.1 ⟨ai,ai⟩ aaT _ t)).mono λi v a' ⟨h1,h2⟩=>⟨.inr h1,Lg ⟨ai,ai⟩ aaT hok h2⟩⟩
end
end
section
open Go Go.Conc Go.ConcN Go.RowKit
attribute [local go_sem] ba bf bH a8 bC bK aS aV fy dI fA bO
variable[Inhabited dc]
inductive ad0(n v ev ov:ay)(db rb:Nat):Act->Prop
 |mk (u2 u3 u4 u5 u6 u7 u8 sK nW nX mU mA lL lM lN mV mX u23 u24 mY u26 lO u28 lQ lR mC u32 u33 mD mE mF mG mZ m9 nV oU oV pU u44 pV oX oY oZ o6 o7 o8 o9 sH sI ub ud wE wG wH wI wJ wK wL u64 wM wN D5 D6 D7 AG AH AJ Cy Cz CB CE CG D8 D9 Ea Gz GA GC GD GF GG GH GI GJ GL GM GN GQ GR Q6 Q7 Q8 Q9 Ra zb ze zf zh zi zl Wd We Wi Wj Wl Wm Wn Wo Wp Wq Ws Wt Wu Wv Ww Wx Wy Wz WA WC WE WG WH WK WL WM WN WO WQ WS WT WU u138 WV WW WX WY WZ W7 W8 W9 Xa Xb Xc Xd Xe Xf Xg Xh Xi Xj Xk Xl Xn Xo Xp Xq Xr Xs Xt Xu Xv Xw Xx Xy Xz XA XB XC XD XE XF XG XH XI XJ XK XL XM XN XO XP XQ XR XS XT XU u193 XV XW XX XY u198 XZ X6:ay):ad0 n v ev ov db rb {tmps:=#[n,v,u2,u3,u4,u5,u6,u7,u8,aI (ae ⟨db,0,ah⟩),sK,nW,nX,mU,mA,aI (ae ⟨rb,0,ah⟩),ov,ev,lL,lM,lN,mV,mX,u23,u24,mY,u26,lO,u28,lQ,lR,mC,u32,u33,mD,mE,mF,mG,mZ,m9,nV,oU,oV,pU,u44,pV,oX,oY,oZ,o6,o7,o8,o9,sH,sI,ub,ud,wE,wG,wH,wI,wJ,wK,wL,u64,wM,wN,D5,D6,D7,AG,AH,AJ,Cy,Cz,CB,CE,CG,D8,D9,Ea,Gz,GA,GC,GD,GF,GG,GH,GI,GJ,GL,GM,GN,GQ,GR,Q6,Q7,Q8,Q9,Ra,zb,ze,zf,zh,zi,zl,Wd,We,Wi,Wj,Wl,Wm,Wn,Wo,Wp,Wq,Ws,Wt,Wu,Wv,Ww,Wx,Wy,Wz,WA,WC,WE,WG,WH,WK,WL,WM,WN,WO,WQ,WS,WT,WU,u138,WV,WW,WX,WY,WZ,W7,W8,W9,Xa,Xb,Xc,Xd,Xe,Xf,Xg,Xh,Xi,Xj,Xk,Xl,Xn,Xo,Xp,Xq,Xr,Xs,Xt,Xu,Xv,Xw,Xx,Xy,Xz,XA,XB,XC,XD,XE,XF,XG,XH,XI,XJ,XK,XL,XM,XN,XO,XP,XQ,XR,XS,XT,XU,u193,XV,XW,XX,XY,u198,XZ,X6],defers:=[]}
def PV:ay->Array ay
 |.agg cs=>cs
 |v=> #[v]
def ad1(a0:aj)(ι:Ph)(e:Exit)(a:Act)(w:aj):Prop:=e=.ret/\a.defers=[]/\(eL f5 a.tmps).run aC w=.ok (.bool au) w/\kM a0 w
theorem Yu{w a b:aj}(h0:Below B w (a.tp w.tape))(h:Below B a b):Below B w (b.tp w.tape):=⟨h.os.trans h0.os,rfl,h.output.trans h0.output,dm h0.size h.size,λk hk=>(h.block k hk).trans (h0.block k hk)⟩
theorem Qr.all{w:aj}{a:Option aP}{n cap:Nat}{x:Int}(h:Qr w (aD a m cap) (eA n x))(hn:1<=n):m=n/\∃g o,a=ae ⟨g,o,ah⟩/\∀i,i<n->w.cell? ⟨g,o+i,ah⟩=ae (aq af x):=by obtain⟨a',cap',e,h⟩:=h;obtain⟨rfl,rfl,rfl⟩:=sr e;rw[si]at h⊢;obtain⟨⟨g,o,_⟩,rfl,rfl,_⟩:=h 0 ai;refine⟨rfl,g,o,rfl,λi hi=>?_⟩;obtain⟨x',e1,_,h1⟩:=h i hi;obtain rfl:=bj e1;rw[h1];simp[eF,hi]
theorem SK{w:aj}{v:ay}{l:List Int}(h:w.ownsRow B 3 1 v l.length (gH l)):Qr w v l:=by
 rcases mr l.length with h0|h0
 .obtain⟨a,c,rfl⟩:=dX h;exact⟨a,c,rfl,λi hi=>ai⟩
 .obtain⟨g,cap,rfl,hc⟩:=uD h h0;refine⟨_,cap,rfl,λi hi=>⟨_,rfl,rfl,?_⟩⟩;rw[eB,hc i ai];unfold gH;rw[nM,eQ hi,eF,eQ hi];rfl
theorem PW{v:Int}{cc:cu}{x:Int}(h:zA v cc x):x=v\/∃(k:Nat) (l:List bs),cc.work[k]? =ae l/\∃(i:Nat) (c:bs),l[i]? =ae c/\c.kind=2/\c.b=x:=by
 refine h.imp id λ⟨k,d,hk,hd,h1,h2⟩=>?_;obtain⟨i,hi⟩:=rS.1 hd;have hw:cc.work[k]? =ae (cc.calls k):=by unfold cu.calls;rw[eF,eQ hk];rfl
 exact⟨k,_,hw,i,d,hi,h1,h2⟩
section
variable{main:Bool}{Jm:fM Ph}{Stop:Ph->aB->List aB->aj->Prop}{ι:Ph}{w:aj}{wk tu:Option aP}{cc:cu}{v:Int}{rb oc oz n:Nat}{rv:ay}{ev:Int}
theorem whole_after(hA:ad0 (aq af n) (aq af v) (aq af ev) (aD oa oz oc) db rb a)(hdb:w.heap[db]? =ae (aK (aW wk tu ha cc.work.length wc cc.turns.length tc cc.halt.length hc un) 25 (0,0)))(hrb:w.heap[rb]? =ae (aK (PV rv) 31 (0,0)))
  (hR:abK zs cc rv (aD oa oz oc) ev w)(hW:za w wk cc.work)(hzl:zs.length=n)(hz:∀c,c<zs.length->zs.getD c 0=v)(hn:1<=n/\n<=16)(hv:0<=v/\v<=1000)(hk2:∀k d,d∈cc.calls k->(d.kind=2\/d.kind=4)/\pq zs.length d)(hL:cc.work.length<=16/\∀l∈cc.work,l.length<=600)(hh:kM a0 w):
  wpM aC main cs Jm Stop U 5 wlCode.r.r.r.r.r.r.r.r (ad1 a0) ι a w:=by
 have hcs:=mI;simp only[wlCode,f5,Code.l,Code.r,cN];have HH:=aA hh;have Hdb:=aA hdb;have Hrb:=aA hrb;have HW:=aA hW;have HK2:=aA hk2;have HL:=aA hL;have Hz:=aA hz;have Hzl:=aA hzl;clear hh hdb hrb hW hk2 hL hz hzl;cases hA;rcases hR with⟨L9,-,-⟩|⟨L9,Y⟩
 .have hne:(ev !=0)=au:=by simpa using L9
  refine Ai λτ=>?_;refine bz (t:=au) (by simp[cS,hne]) ?_;simp only[if_true];refine iI λτ=>?_;refine cD ?_;exact⟨rfl,rfl,jT,HH.out⟩
 subst L9;have HY:=aA Y;clear Y;refine Ai λτ=>?_;refine Cs ?_;try simp only[bE]
 obtain⟨m,t,vs,s',va,ao,no,co,uR,hgo,hnt,qL,Ex,Ps,EO,lq⟩:=HY.out.ex;obtain⟨h8a,h8b⟩:0<cc.n/\cc.n<=8:=by have:=HY.out.ok;unfold gh at this;simp only[uC,cR,decide_eq_true_eq]at this;exact⟨this.1.1,this.1.2.1⟩
 have Yv:=(rJ HY.out.ok).2.2;have hzl:=Hzl.out;have hlen:∀k,(cc.calls k).length<=64:=λk=>Yv k;obtain⟨aaU,vs',s2,ad2,x,hx,hvs⟩:=FP (m:=m) (by rw[hzl];omega) (by rw[hzl];omega) Hz.out (v:=v) ai h8a h8b hlen HK2.out t;rw[qL]at ad2;obtain⟨rfl,rfl⟩:=Prod.mk.inj (bj ad2);subst hvs;have hxe:=PW hx;have NA:∀k,(((fc m zs cc).ar t).w k).got.length<=(cc.calls k).length:=λk=>AR.at_len _ _ _ _ k;obtain⟨got,hgot⟩:∃got:Nat->List my,∀k,(((fc m zs cc).ar t).w k).got=got k:=⟨_,λ_=>rfl⟩;simp only[hgot]at aaU NA lq;have jd:=Hrb.out;rw[Ex]at jd;simp only[PV]at jd;obtain⟨aa,ca,rfl⟩:=dX Ps;obtain⟨ag,agc,im,Yw⟩:=uD Ps h8a;obtain⟨rfl,hg1,rfl⟩:=sr im;have qJ:cc.n=cc.work.length:=rfl;rw[qJ]at*;clear hg1 im qJ;obtain⟨DY,og,oo,rfl,hoc⟩:=Qr.all (SK (l:=eA zs.length x) (by rw[si];exact EO)) (by rw[hzl];exact hn.1);obtain rfl:oz=n:=by rw[DY,hzl]
 rw[hzl]at hoc aaU;generalize ((t-cc.work.length:Nat):Int)=st at*;generalize ((fc m zs cc).ar t).any cc=cut at*;have b0:w.cell? ⟨rb,0,ah⟩=ae (aD (ae ⟨ag,0,ah⟩) cc.work.length ca):=(ax jd 0).trans rfl;have q0:=cO Hdb.out 0;have q1:=cO Hdb.out 1;have q2:=cO Hdb.out 2;have q3:=cO Hdb.out 3;have HcA:=aA Yw;have HB0:=aA b0;have HQ:=aA (And.intro q0 (And.intro q1 (And.intro q2 q3)));have adZ:=aA lq;have air:=aA aaU;have Hgl:=aA NA;have Gs:=aA hlen;have Hoc:=aA hoc;have Hxe:=aA hxe;clear hgo hnt qL ad2 Ex Ps hgot Yw b0 q0 q1 q2 q3 lq aaU NA EO hoc jd HY hx hxe Yv hlen Hrb Hdb DY;have h8:cc.work.length<=8:=h8b;clear h8a h8b;refine wpM_seq (wpM_lone pP hcs aQ yg (ni aQ _) (λτ=>?_));go_wp2;go_loopw [18] (λi wr=>∃k:Nat,k<=cc.work.length/\i=aq af k/\Below w.heap.size w (wr.tp w.tape)) (λi _=>cc.work.length- (intOf i).toNat)
 case atStart=>exact⟨0,bQ _,rfl,gw _ _⟩
 case round=>
  obtain⟨k,hk,rfl,dQ⟩:=hrel;have kp:∀(x:aP) (v:ay),w.cell? x=ae v->wr.cell? x=ae v:=λx v h=>(dQ.cell (ez w _ h)).trans h;have b0:=kp _ _ HB0.out;have jm:=aA dQ;have Z4:=aA kp;clear dQ kp;by_cases hlt:k<cc.work.length
  .obtain⟨sl,Ip,al,ais,rfl,han⟩:=adZ.out k hlt;have ad3:w.cell? ⟨ag,k,ah⟩=ae (aD al (got k).length ais):=(by rw[HcA.out k (by show k<cc.work.length*1;omega),Ip]);have aji:=Z4.out _ _ ad3;have ajj:(got k).length<=64:=dm (Hgl.out k) (Gs.out k);have ait:=aA ad3;have Han:=aA han;clear ad3 han Ip;go_wp2;go_loopw [19] (λi wr2=>∃j:Nat,j<=(got k).length/\i=aq af j/\Below w.heap.size w (wr2.tp w.tape)) (λi _=>(got k).length- (intOf i).toNat)
   case atStart=>exact⟨0,bQ _,rfl,jm.out⟩
   case round=>
    obtain⟨j,hj,rfl,rX⟩:=hrel;have kp2:∀(x:aP) (v:ay),w.cell? x=ae v->wr.cell? x=ae v:=λx v h=>(rX.cell (ez w _ h)).trans h;have b0':=kp2 _ _ HB0.out;have aiG:=kp2 _ _ ait.out;have qq:=aA rX;have ED:=aA kp2;clear rX kp2;by_cases Io:j< (got k).length
    .obtain⟨y,hy⟩:∃y,(got k)[j]? =ae y:=⟨_,eQ Io⟩;obtain⟨ab,rfl,hcs⟩:=Han.out j y hy;obtain⟨v7,c7,h7⟩:=hcs.c7;obtain⟨v8,c8,h8'⟩:=hcs.c8;have d0:=ED.out _ _ hcs.c0;have d1:=ED.out _ _ hcs.c1;have d2:=ED.out _ _ hcs.c2;have d3:=ED.out _ _ hcs.c3;have d4:=ED.out _ _ hcs.c4;have d5:=ED.out _ _ hcs.c5;have d6:=ED.out _ _ hcs.c6;have d7:=ED.out _ _ c7;have d8:=ED.out _ _ c8;have e9:9*j=j*9:=Nat.mul_comm _ _;rw[e9]at d0 d1 d2 d3 d4 d5 d6 d7 d8;have hjc:j< (cc.calls k).length:=iR Io (Hgl.out k);have hck:cc.work[k]? =ae (cc.calls k):=(by unfold cu.calls;rw[eF,eQ hlt];rfl);obtain⟨d,hd⟩:∃d,(cc.calls k)[j]? =ae d:=⟨_,eQ hjc⟩;obtain⟨wb,wo,ra,ajk,Mg,hrc,hrow⟩:=HW.out k _ hck;obtain⟨b2,o2,rfl,ags,_⟩:=hrow j d hd;have kpa:∀(o:Obj) (x:aP) (v:ay),w.cell? x=ae v->(wr.alloc o).cell? x=ae v:=λo x v h=>(by have h1:=ED.out _ _ h;exact(dr (w:=wr) (gT _ _ _ (ez wr _ h1))).trans h1);have q0:=λo=>kpa o _ _ HQ.out.1;have q1:=λo=>kpa o _ _ HQ.out.2.1;have q2:=λo=>kpa o _ _ HQ.out.2.2.1;have q3:=λo=>kpa o _ _ HQ.out.2.2.2;have r1:=λo=>kpa o _ _ hrc;have r2:=λo=>kpa o _ _ ags;have agt:=aA kpa;clear kpa;obtain⟨hS1,YI⟩:=air.out k j y d hlt hy hd;obtain⟨ia,AE,rfl,h7'⟩:=h7;obtain⟨pa,sG,rfl,_,_⟩:=h8';have agu:Qr w (aD ia y.ans.ints.length AE) y.ans.ints:=⟨ia,AE,rfl,h7'⟩;have H7:=aA agu;have Q3:=aA YI;have HWk:=aA Mg;clear h7' agu hcs c7 c8 hrow hrc ags hy hd hck YI;by_cases Ec:y.ans.err=0
     .have hb2:(y.ans.err==0)=au:=(by simpa using Ec);have hb3:(y.ans.err !=0)=aw:=(by simpa using Ec);by_cases hk4:d.kind=4
      .obtain⟨_,z,hz1,hz2⟩:=Q3.out hk4;have h8:=H7.out;rw[hz2]at h8;obtain⟨hzn,zg,zo,rfl,hzc⟩:=h8.all hn.1;have qw:=λo=>one_any zg zo AE oz z v un wk tu ha wc cc.turns.length tc cc.halt.length hc cc.work (wr.alloc o) ⟨hn.1,ai⟩ (λi hi=>agt.out o _ _ (hzc i hi)) (HW.out.at λx u h=>agt.out o x u h) ⟨ai,λl hl=>by have:=HL.out.2 l hl;omega⟩ (PW hz1);have hb:(d.kind==4)=au:=(by simpa using hk4);have Yx:=aA qw;simp only[aW]at Yx;rw[hz2,si]at d7;have Mg:=HWk.out;clear qw hzc hz2 h8 hk4 Ec hS1 hz1 hzn;generalize d.kind=kd at*;generalize y.ans.err=er at*;subst Mg;go_wp2_with fail
       refine(Yx.out _).mono ?_;rintro e w' ⟨rfl,hbw⟩;have c6:w'.cell? ⟨wr.heap.size,6,ah⟩=ae (aq af 0):=(by have h1:=hbw.block wr.heap.size (by rw[cM];omega);rw[ax (h1.trans (gN _ _))];rfl);have Hbw:=aA hbw;clear hbw;go_wp2;go_roundw
       case rel=>exact⟨j+1,ai,fY,Yu (a:=wr.alloc _) (qq.out.alloc qq.out.size _) (Hbw.out.mono (dm qq.out.size (by show wr.heap.size<=_;simp)))⟩
       case measure=>simp[intOf];omega
      .have hb:(d.kind==4)=aw:=(by simpa using hk4);have Mg:=HWk.out;clear hS1 hk4 Ec;generalize d.kind=kd at*;generalize y.ans.err=er at*;subst Mg;go_wp2;go_roundw
       case rel=>exact⟨j+1,ai,fY,qq.out.alloc qq.out.size _⟩
       case measure=>simp[intOf];omega
     .have hb2:(y.ans.err==0)=aw:=(by simpa using Ec);have hb3:(y.ans.err !=0)=au:=(by simpa using Ec);have hb4:(y.ans.err !=264)=aw:=(by rcases hS1 with h|h<;>simp[h]at Ec⊢);have Mg:=HWk.out;clear hS1 Ec;generalize d.kind=kd at*;generalize y.ans.err=er at*;subst Mg;cases hb:kd==4;all_goals
       go_wp2;go_roundw
       case rel=>exact⟨j+1,ai,fY,qq.out.alloc qq.out.size _⟩
       case measure=>simp[intOf];omega
    .obtain rfl:j=(got k).length:=ai;go_wp2;go_roundw
     case rel=>exact⟨k+1,ai,fY,qq.out⟩
     case measure=>simp[intOf];omega
  .obtain rfl:k=cc.work.length:=ai;go_wp2;refine⟨wr,⟨rfl,rfl,rfl⟩,?_⟩;try simp only[bE]
   have qw:=λτ=>one_any og oo oc oz x v un wk tu ha wc cc.turns.length tc cc.halt.length hc cc.work (wr.tp τ) ⟨hn.1,ai⟩ (λi hi=>Z4.out _ _ (Hoc.out i hi)) (HW.out.at λx u h=>Z4.out x u h) ⟨ai,λl hl=>by have:=HL.out.2 l hl;omega⟩ Hxe.out;have Yx:=aA qw;simp only[aW]at Yx;have q0:=Z4.out _ _ HQ.out.1;have q1:=Z4.out _ _ HQ.out.2.1;have q2:=Z4.out _ _ HQ.out.2.2.1;have q3:=Z4.out _ _ HQ.out.2.2.2;clear qw;refine wpM_seq (wpM_lone pP hcs aQ yg (ni aQ _) (λτ=>?_));go_wp2_with fail
   refine(Yx.out τ).mono ?_;rintro e w' ⟨rfl,hbw⟩;have Hbw:=aA hbw;clear hbw;go_wp2;refine⟨w',bD _ _,?_⟩;try simp only[bE]
   refine cD ?_;exact⟨rfl,rfl,jT,HH.out.trans ⟨dm jm.out.size Hbw.out.size,λy o hy _=>by have hl:=(bF.1 hy).1;have h1:=Hbw.out.block y (iR hl jm.out.size);have h2:=jm.out.block y hl;rw[hy]at h2;exact h1.trans h2⟩⟩
end
end
section
open Go Go.Conc Go.ConcN
theorem Yy{main:Bool}{a:aj}(hR:∀H,S.Rows H P)(hB:S.kS P)(hL:S.rN)(hP:S.Plain P){c:Code}{act:Act}{Post:Act->aj->Prop}(hk:b.kind=.normal)(hok:dZ P S b.fn c=au)(hd:∀d∈act.defers,nv P S d)(xt:p8 S b.fn act.tmps)
  (h:∀τ,c.wp P (λe a' w'=>(e=.normal/\Post a' w')\/(e=.ret/\Lh a' w')) act (bM a τ))(hPost:∀a' w' τ,(Post a' w'->Post a' (bM w' τ))/\(Lh a' w'->Lh a' (bM w' τ)))(hnext:∀a' w',Post a' w'->vu P main cs At (b.at a' k) fs w')(DT:∀a' w' todo,Lh a' w'->vu P main cs At {b.at a' todo with mode:=.returning} fs w'):vu P main cs At (b.at act (.code c::k)) fs a:=by
 intro H R D Q Jw B hQ r hr hj;let Ji:aB->List aB->aj->Prop:=λfr fs w=>∃a',fs=[]/\((fr=b.at a' K0/\Post a' w)\/∃todo,fr={b.at a' todo with mode:=.returning}/\Lh a' w);have hS:dP P S (b.at act (.code c::K0)) []:=⟨⟨λit hit=>by
  rcases fU.1 hit with rfl|hit
  .show Du P S b.fn aw c=au;unfold Du;rw[hok];rfl
  .simp only[K0,List.mem_singleton]at hit;subst hit;rfl,hd,.inl hk,.inl rfl,xt⟩,hk⟩
 have hall:xx P Ji (b.at act (.code c::K0)) [] a:=λτ=>by
  obtain⟨e,a',w',h1,har⟩:=h τ b K0 [base P];rcases h1 with⟨rfl,hp⟩|⟨rfl,hp⟩
  .obtain⟨n,hn⟩:=(har:Steps P _ _);exact⟨n,b.at a' K0,[],w',hn,a',rfl,.inl ⟨rfl,hp⟩⟩
  .obtain⟨todo,n,hn⟩:=(har:∃todo,Steps P _ _);exact⟨n,{b.at a' todo with mode:=.returning},[],w',hn,a',rfl,.inr ⟨todo,rfl,hp⟩⟩
 have TU:YH P Ji (b.at act (.code c::K0)) [] a:=tF (hR H) hB hL hP (λfr fs a τ _ ⟨a',h1,h2⟩=>⟨a',h1,h2.imp (λ⟨h3,h4⟩=>⟨h3,(hPost _ _ τ).1 h4⟩) λ⟨t,h3,h4⟩=>⟨t,h3,(hPost _ _ τ).2 h4⟩⟩) hS (xA hr) hall;have:=walk_of_bar_sw (κ:=ae k) (cs:=fs++cs) (R:=R) (D:=D) (Q:=Q) (main:=main) (hR H) hB hL hP B (λjg ny a1 r1 cz dC hst _ hsw hrel hj1=>by
  obtain⟨a',rfl,h1⟩:=hst;rcases h1 with⟨rfl,hp⟩|⟨todo,rfl,hp⟩
  .obtain⟨⟨A,h1,rfl⟩,rfl⟩:=hsw;have hA:A=[]:=(by have h1:K0=A++K0:=h1;have:=congrArg List.length h1;simp only[mo]at this;exact yH.1 ai);subst hA;exact hnext a' a1 hp H R D Q Jw B hQ r1 hrel hj1
  .obtain⟨⟨A,h1,rfl⟩,rfl⟩:=hsw;exact DT a' a1 _ hp H R D Q Jw B hQ r1 hrel hj1) TU (r:=r) (cz:=b.at act (.code c::k)) (dC:=[]) hS ⟨⟨[.code c],rfl,rfl⟩,rfl⟩ hr hj
 exact this
section
variable{main:Bool}{J:fM ι}{Stop:ι->aB->List aB->aj->Prop}{Q:ι->Exit->Act->aj->Prop}{w:aj}
theorem SL(st:Stat P S){c:Code}(hok:dZ P S fn c=au)(hd:∀d∈a.defers,nv P S d)(xt:p8 S fn a.tmps)
  (h:∀τ,c.wp P (λe a' w'=>(e=.normal/\∃W,Alike W w'/\Q i .normal a' W)\/(e=.ret/\∃W,Alike W w'/\Q i .ret a' W)) a (w.tp τ)):wpM P main cs J Stop U fn c Q i a w:=λb k fs h1 h2 h3 hc=>by
 subst h1;exact .walk (Yy (Post:=λa' w'=>∃W,Alike W w'/\Q i .normal a' W) (Lh:=λa' w'=>∃W,Alike W w'/\Q i .ret a' W) st.rows st.bodies st.leafs st.plain h2 hok hd xt h (λa' w' τ=>⟨λ⟨W,e,hq⟩=>⟨W,⟨e.heap,e.os,e.output⟩,hq⟩,λ⟨W,e,hq⟩=>⟨W,⟨e.heap,e.os,e.output⟩,hq⟩⟩) (λa' w' ⟨W,e,hq⟩=>.stop ((hc i .normal a' W hq:ZigC P main cs J Stop i (b.at a' k) fs W).alike e)) λa' w' todo ⟨W,e,hq⟩=>.stop (((hc i .ret a' W hq:∀todo,ZigC P main cs J Stop i {b.at a' todo with mode:=.returning} fs W) todo).alike e))
end
variable[Inhabited dc]
theorem SM{Stop:Ph->aB->List aB->aj->Prop}{Q:Ph->Exit->Act->aj->Prop}{w:aj}{ops:Array aZ}{rest:List Nat}{o:aZ}{f:FuncId}{c:Code}{xs:Array Operand}{args:Array ay}(ho:ops[j]? =ae o)(hw:dF o (dW ops a.tmps)=au)
  (hop:o.op=.call {callee:=.value (.func f),args:=xs,argTypes:=ats})(hf:P.funcs[f]? =ae OA)(hname:(OA.name== "runtime.NumGoroutine")=aw)(hb:OA.body=ae c)(hxs:xs.map a.eval=args)
  (hcall:∀Jp:Ph->aB->List aB->aj->Prop,∃U,CallsM P au [] (JP P S [] U) Jp (λ_=>True) .pre f args w (λi v a'=>(i=.pre\/i=.post)/\R v a'))
  (hnext:∀v w'',R v w''->rj P au [] (sf P S) Stop (λ_=>True) fn ops rest Q .post (a.put o.dst v) w''):rj P au [] (sf P S) Stop (λ_=>True) fn ops (j::rest) Q .pre a w:=by
 intro b k fs h1 h2 h3 hc;obtain⟨U,hU⟩:=hcall (λph cB dg a'=>(ph=.pre\/ph=.post)/\Ph.post=Ph.post/\∃v,R v a'/\cB=b.at (a.put o.dst v) (bI ops rest::k)/\dg=fs);refine ZigC.jump (J:=sf P S) (K:=λi' cB dg a'=>i'=.post/\∃v,R v a'/\cB=b.at (a.put o.dst v) (bI ops rest::k)/\dg=fs) ⟨rfl,U,?_⟩ ?_
 .refine ou (by rw[h2];simp) ho hw hop hf hname hb hxs ?_;exact hU _ fs trivial λi' v w' ⟨g1,g2⟩=>.stop ⟨g1,rfl,v,g2,by rw[iB,ho];rfl,rfl⟩
 .rintro i' cB dg a' ⟨rfl,v,hv,rfl,rfl⟩;exact hnext v a' hv b k _ h1 h2 h3 hc
end
section
open Go Go.Conc Go.ConcN Go.RowKit
attribute [local go_sem] ba bf bH a8 bC bK aS aV fy dI fA bO
inductive Yz(n v:Int)(fv:ay)(cb:Nat):Act->Prop
 |mk (u2 u3 u4 u6 u8 u9 sK nW nX mU mA mB u16 lK lL lM lN mV mX u23 u24 mY u26 lO u28 lQ lR mC u32 u33 mD mE mF mG mZ m9 nV oU oV pU u44 pV oX oY oZ o6 o7 o8 o9 sH sI ub ud wE wG wH wI wJ wK wL u64 wM wN D5 D6 D7 AG AH AJ Cy Cz CB CE CG D8 D9 Ea Gz GA GC GD GF GG GH GI GJ GL GM GN GQ GR Q6 Q7 Q8 Q9 Ra zb ze zf zh zi zl Wd We Wi Wj Wl Wm Wn Wo Wp Wq Ws Wt Wu Wv Ww Wx Wy Wz WA WC WE WG WH WK WL WM WN WO WQ WS WT WU u138 WV WW WX WY WZ W7 W8 W9 Xa Xb Xc Xd Xe Xf Xg Xh Xi Xj Xk Xl Xn Xo Xp Xq Xr Xs Xt Xu Xv Xw Xx Xy Xz XA XB XC XD XE XF XG XH XI XJ XK XL XM XN XO XP XQ XR XS XT XU u193 XV XW XX XY u198 XZ X6:ay):Yz n v fv cb {tmps:=#[aq af n,aq af v,u2,u3,u4,aI (ae ⟨cb,0,ah⟩),u6,fv,u8,u9,sK,nW,nX,mU,mA,mB,u16,lK,lL,lM,lN,mV,mX,u23,u24,mY,u26,lO,u28,lQ,lR,mC,u32,u33,mD,mE,mF,mG,mZ,m9,nV,oU,oV,pU,u44,pV,oX,oY,oZ,o6,o7,o8,o9,sH,sI,ub,ud,wE,wG,wH,wI,wJ,wK,wL,u64,wM,wN,D5,D6,D7,AG,AH,AJ,Cy,Cz,CB,CE,CG,D8,D9,Ea,Gz,GA,GC,GD,GF,GG,GH,GI,GJ,GL,GM,GN,GQ,GR,Q6,Q7,Q8,Q9,Ra,zb,ze,zf,zh,zi,zl,Wd,We,Wi,Wj,Wl,Wm,Wn,Wo,Wp,Wq,Ws,Wt,Wu,Wv,Ww,Wx,Wy,Wz,WA,WC,WE,WG,WH,WK,WL,WM,WN,WO,WQ,WS,WT,WU,u138,WV,WW,WX,WY,WZ,W7,W8,W9,Xa,Xb,Xc,Xd,Xe,Xf,Xg,Xh,Xi,Xj,Xk,Xl,Xn,Xo,Xp,Xq,Xr,Xs,Xt,Xu,Xv,Xw,Xx,Xy,Xz,XA,XB,XC,XD,XE,XF,XG,XH,XI,XJ,XK,XL,XM,XN,XO,XP,XQ,XR,XS,XT,XU,u193,XV,XW,XX,XY,u198,XZ,X6],defers:=[]}
def ad4(n:Nat)(v:Int)(cb:Nat)(w0:aj)(e:Exit)(a:Act)(w:aj):Prop:=e=.normal/\∃fv,Yz n v fv cb a/\Below w0.heap.size w0 w/\w.ownsRow w0.heap.size 3 1 fv n (gH (eA n v))
theorem SN(n:Nat)(v:Int):gH (eA (n+1) v)=gH (eA n v) ++[aq af v]:=by unfold gH;rw[List.replicate_succ',vE];rfl
theorem first_walk{n:Nat}{v:Int}{w:aj}(hA:Yz n v (aD ah 0 0) cb a)(hn:n<=16):
  wlCode.r.r.r.r.l.wp aC (ad4 n v cb w) a w:=by
 cases hA;simp only[wlCode,f5,Code.l,Code.r,cN];obtain⟨ii,O5,O6,O7,O8⟩:=kq PF;go_wp2;go_loopw [8,7] (λi f wr=>∃q:Nat,q<=n/\i=aq af q/\Below w.heap.size w wr/\wr.ownsRow w.heap.size 3 1 f q (gH (eA q v))) (λi _ _=>n- (intOf i).toNat)
 case atStart=>exact⟨0,bQ _,rfl,gw _ _,pL _ _ _ _⟩
 case round=>
  obtain⟨q,hq,rfl,hb3,hp⟩:=hrel;obtain⟨p1,p2,rfl⟩:=dX hp;have Hp:=aA hp;have Hb3:=aA hb3;have hs3:=hb3.size;clear hp hb3;by_cases C0:q<n
  .go_wp2_with (at_builtin;go_loud (refine wpList_append_lies _ rfl (.tmp 53) (.tmp 55) 22 rfl w.heap.size 3 ii _ 1 8 underlying22 O5 O6 O7 O8 rfl aN (aD p1 q p2) q (gH (eA q v)) rfl (Hp.out.alloc _) ⟨wr.heap.size,0,ah⟩ 1 1 [aq af v] rfl rfl (pd (cs:=#[aq af v]) (t:=3) (fr:=(0,0)) (gN _ _)) pI aN jk ai (by rw[cM];omega) (wr.heap.size+1) (by rw[cM]) ?_;intro gg cap' w4 zZ hg4 afZ UU))
   go_roundw
   case rel=>exact⟨q+1,ai,fY,(Hb3.out.alloc hs3 _).grown hg4 (by rw[cM];omega) (λx hx=>(Hp.out.lt x hx).1),by rw[SN];exact zZ⟩
   case measure=>simp[intOf];omega
  .obtain rfl:q=n:=ai;go_wp2;exact⟨rfl,_,Yz.mk ..,Hb3.out,Hp.out⟩
end
section
open Go Go.Conc Go.ConcN Go.RowKit
attribute [local go_sem] ba bf bH a8 bC bK aS aV fy dI fA bO
variable[Inhabited dc]
theorem kM.cell{w:aj}(h:kM w w')(x:aP)(v:ay)(hx:w.cell? x=ae v):w'.cell? x=ae v:=by obtain⟨o,ho,hne⟩:=lS hx;exact(dr (w:=w) ((h.old _ _ ho hne).trans ho.symm)).trans hx
theorem kM.olds{w:aj}(h:nj w w'):kM w w':=⟨h.size,λy o hy _=>(h.old y (bF.1 hy).1).trans hy⟩
theorem je.calls{n:Nat}{cc:cu}(M:je n cc.work eN cc.work.length 0)(hn:1<=n/\n<=16)(hkd:∀(k:Nat) (l:List bs),cc.work[k]? =ae l->∀(i:Nat) (c:bs),l[i]? =ae c->c.kind∈[(2:Int),4])(k:Nat)(d:bs)(hd:d∈({cc with work:=eN}:cu).calls k):(d.kind=2\/d.kind=4)/\pq n d:=by
 have hd:d∈eN.getD k []:=hd;rw[eF]at hd;cases hw:eN[k]? with
 |none=>rw[hw]at hd;cases hd
 |some l'=>rw[hw]at hd;have hd:d∈l':=hd;have hk:=(eX.1 hw).1;rw[M.len]at hk;obtain⟨l,hl⟩:∃l,cc.work[k]? =ae l:=⟨_,eQ hk⟩;obtain⟨l2,h1,h2,h3⟩:=M.row k l hl;rw[hw]at h1;obtain rfl:=bj h1;obtain⟨i,hi⟩:=rS.1 hd;have Uu:=(eX.1 hi).1;obtain⟨c,hc⟩:∃c,l[i]? =ae c:=⟨_,eQ ai⟩;have h4:=h3 i c hc;rw[aX (.inl hk),hi]at h4;obtain rfl:=bj h4;obtain⟨m1,m2,m3,_⟩:=Si n c;refine⟨by rw[m1];simpa using hkd k l hl i c hc,λh2=>?_⟩;rw[m1]at h2;obtain⟨b1,b2⟩:=M.bd k i l c hl hc (.inl hk) h2;refine⟨by rw[m2];exact b1,by rw[m3];exact b2,hn,?_⟩;rw[m2,m3];unfold HJ;rw[aX h2]
section
variable{Stop:Ph->aB->List aB->aj->Prop}{a00 w:aj}{wk tu:Option aP}{v:Int}{cc:cu}{n:Nat}
theorem whole_play(hA:Sj n v fv db a)(St:Td a0 db wk tu ha wc tc hc un cc fv (eA n v) eN w)(M:je n cc.work eN cc.work.length 0)(hn:1<=n/\n<=16)(hv:0<=v/\v<=1000)
  (hkd:∀(k:Nat) (l:List bs),cc.work[k]? =ae l->∀(i:Nat) (c:bs),l[i]? =ae c->c.kind∈[(2:Int),4])(hL:cc.work.length<=16/\∀l∈cc.work,l.length<=600)(hT:cc.turns.length<=20000)(mO:cc.until_=un.toNat)(hh:kM a00 w):
  wpM aC au [] (sf aC S) Stop (λ_=>True) 5 wlCode.r.r.r.r.r.r.r (ad1 a00) .pre a w:=by
 have hcs:=mI;let Tf:cu:={cc with work:=eN};have hlw:Tf.work.length=cc.work.length:=St.len;have hzl:(eA n v).length=n:=si;have hz:∀c,c< (eA n v).length->(eA n v).getD c 0=v:=λc hc=>by rw[hzl]at hc;simp[eF,hc]
 have hk2:∀k d,d∈Tf.calls k->(d.kind=2\/d.kind=4)/\pq (eA n v).length d:=λk d hd=>by rw[hzl];exact M.calls hn hkd k d hd
 have hL':Tf.work.length<=16/\∀l∈Tf.work,l.length<=600:=by refine⟨by rw[hlw];exact hL.1,λl' hl'=>?_⟩;obtain⟨k,hk⟩:=rS.1 hl';have hkl:=(eX.1 hk).1;rw[hlw]at hkl;obtain⟨l2,h1,h2,_⟩:=M.row k _ (eQ hkl);have hk:eN[k]? =ae l':=hk;rw[hk]at h1;obtain rfl:=bj h1;rw[h2];exact hL.2 _ (rV _)
 have ad5:uv w a0.heap.size (aD wk Tf.work.length wc) Tf.work:=by rw[hlw];exact St.all.all
 have FQ:=λJp=>play_law (S:=S) (Stop:=Jp) (zs:=eA n v) (cc:=Tf) (un:=un) (by rw[hzl];have:=St.F;rw[hzl]at this;exact this) ad5 St.T St.H ai mO (show cc.turns.length<100000 by omega) ai hk2 (λhok h0 h8 _ _ m t=>by obtain⟨_,vs,s',h,_⟩:=FP (m:=m) ai ai hz ai h0 h8 (rJ hok).2.2 hk2 t;exact⟨vs,s',h⟩);have ad6:=λ(ι:Ph) (w2:aj) (a:Act) rb oa oz oc rv ev hA hdb hrb hR hW hh=>whole_after (main:=au) (cs:=[]) (Jm:=sf aC S) (Stop:=Stop) (U:=λ_=>True) (ι:=ι) (a0:=a00) (w:=w2) (wk:=wk) (tu:=tu) (ha:=ha) (wc:=wc) (tc:=tc) (hc:=hc) (zs:=eA n v) (cc:=Tf) (un:=un) (v:=v) (db:=db) (rb:=rb) (oc:=oc) (oz:=oz) (n:=n) (oa:=oa) (rv:=rv) (ev:=ev) (a:=a) hA hdb hrb hR hW hzl hz hn hv hk2 hL' hh;have hwi:=ad5.Wc;have jd:=St.box;simp only[wlCode,f5,Code.l,Code.r,cN]at ad6;have aiu:=aA ad6;have YA:=aA FQ;have HWi:=aA hwi;have aiv:=aA jd;have HH:=aA hh;have b0:=cO jd 0;have b1:=cO jd 1;have b2:=cO jd 2;have b3:=cO jd 3;clear ad6 FQ hwi jd hh ad5 hL' hk2 hz hL hT mO hkd M St;simp only[wlCode,f5,Code.l,Code.r,cN];cases hA;refine pS ?_;refine gP ?_;refine gP ?_;refine SM (args:=#[fv,.agg (aW wk tu ha Tf.work.length wc Tf.turns.length tc Tf.halt.length hc un)]) rfl rfl rfl func10 rfl rfl (by rw[hlw];simp[aW,Tf,cS]) YA.out ?_;rintro v2 w2 ⟨rv,ov,ev,rfl,⟨r1,r2,r3,r4,r5,r6,r7,r8,rfl⟩,⟨oa,oz,oc,rfl⟩,hh2,hR⟩;have HR:=aA hR;have HH2:=aA hh2;clear hR hh2 b0 b1 b2 b3;walk_nrm;iterate 8
  refine gP ?_
 refine on ?_;have qL:=λo=>(HH2.out.trans (.olds ((nj.refl w2).alloc o)):kM w (w2.alloc o));refine aiu.out _ _ _ w2.heap.size _ _ _ _ _ (ad0.mk ..) ?_ (gN _ _) (HR.out (λ_=>False) (λ_ h=>h.elim) _ ⟨aJ,λy hy _=>gT _ _ _ hy⟩) (HWi.out.at (qL _).cell) (HH.out.trans (qL _));rw[hlw];exact(qL _).old _ _ aiv.out bu
end
section
variable{w:aj}(hle:∀{x:aP} {v:ay},w.cell? x=ae v->w'.cell? x=ae v/\x.block<w'.heap.size)
include hle
theorem FT{a:Option aP}{l:List Int}(h:j7 w a l):j7 w' a l:=λi hi=>by obtain⟨b,o,e,_,h2⟩:=h i hi;exact⟨b,o,e,(hle h2).2,(hle h2).1⟩
theorem Og{v:ay}{l:List (Int×Int)}(h:kZ w v l):kZ w' v l:=by obtain⟨a,cap,rfl,h⟩:=h;refine⟨a,cap,rfl,λi hi=>?_⟩;obtain⟨b,o,rfl,_,h1,h2⟩:=h i hi;exact⟨b,o,rfl,(hle h1).2,(hle h1).1,(hle h2).1⟩
theorem SP{b o:Nat}{c:bs}(h:yR w b o c):yR w' b o c:=by obtain⟨v,h4,h5⟩:=h.c4;exact⟨(hle h.c0).2,(hle h.c0).1,(hle h.c1).1,(hle h.c2).1,(hle h.c3).1,v,(hle h4).1,Og hle h5⟩
theorem YB{v:ay}{l:List bs}(h:zT w v l):zT w' v l:=by obtain⟨a,cap,rfl,h⟩:=h;refine⟨a,cap,rfl,λi c hc=>?_⟩;obtain⟨b,o,rfl,h1⟩:=h i c hc;exact⟨b,o,rfl,SP hle h1⟩
theorem SQ{wk:Option aP}{work:List (List bs)}(h:RowsIn w wk work):RowsIn w' wk work:=λk l hk=>by obtain⟨b,o,v,rfl,_,h1,h2⟩:=h k l hk;exact⟨b,o,v,rfl,(hle h1).2,(hle h1).1,YB hle h2⟩
end
structure nZ(w:aj)(wk tu ha:Option aP)(cc:cu)(un:Int):Prop where
 R:RowsIn w wk cc.work
 T:j7 w tu cc.turns
 H:j7 w ha cc.halt
 un:cc.until_=un.toNat
 rows:∀l∈cc.work,l.length<=140737488355328/\∀c∈l,c.pairs.length<=140737488355328
theorem nZ.mono{w:aj}{wk tu:Option aP}{cc:cu}(h:nZ w wk tu ha cc un)(hs:w.heap.size<=w'.heap.size)(hb:∀b,b<w.heap.size->w'.heap[b]? =w.heap[b]?):nZ w' wk tu ha cc un:=⟨h.R.same hs hb,h.T.same hs hb,h.H.same hs hb,h.un,h.rows⟩
theorem Oh{l:List Nat}{x:Nat}(h:x∈l):x<=l.sum:=by
 induction l with
 |nil=>cases h
 |cons y l ih=>
  rw[List.sum_cons];rcases fU.1 h with rfl|h
  .omega
  .have:=ih h;omega
theorem Di{work:List (List bs)}{l:List bs}(h:l∈work):l.length<=gW work:=by unfold gW;exact Oh (pA.2 ⟨l,h,rfl⟩)
theorem Oi{work:List (List bs)}{l:List bs}{c:bs}(h:l∈work)(hc:c∈l):c.pairs.length<=wx work:=by unfold wx;exact dm (Oh (pA.2 ⟨c,hc,rfl⟩)) (Oh (pA.2 ⟨l,h,rfl⟩))
theorem AllNewD.base{w:aj}{B':Nat}{v:ay}{work:List (List bs)}(h:AllNewD w B v work)(hB:B'<=B):AllNewD w B' v work:=by obtain⟨oB,⟨a,b,c⟩,d⟩:=h;exact⟨oB,⟨a,row_base b hB,λk l rv x y=>(c k l rv x y).base hB⟩,d⟩
section
variable{Stop:Ph->aB->List aB->aj->Prop}{wk tu:Option aP}{cc:cu}{n v:Int}
theorem Oj(hA:nZ a0 wk tu ha cc un):
  wpM aC au [] (sf aC S) Stop (λ_=>True) 5 wlCode (ad1 a0) .pre
   {tmps:=#[aq af n,aq af v,.agg (aW wk tu ha cc.work.length wc cc.turns.length tc cc.halt.length hc un)] ++Array.replicate 198 aO,defers:=[]} a0:=by
 have hcs:=mI;have HA:=aA hA;clear hA;have ad7:=λ(N:Nat) a1 w db wk' tu' ha' wc' tc' hc' fv a hA' St hN hL=>mid_walk (n:=N) (v:=v) (a0:=a1) (w:=w) (db:=db) (wk:=wk') (tu:=tu') (ha:=ha') (wc:=wc') (tc:=tc') (hc:=hc') (un:=un) (cc:=cc) (fv:=fv) (zs:=eA N v) (a:=a) hA' St hN hL;have FQ:=λ(N:Nat) a1 w db wk' tu' ha' wc' tc' hc' fv eN a hA' St M hn hv hkd hL hT mO hh=>whole_play (S:=S) (Stop:=Stop) (a00:=a0) (n:=N) (v:=v) (a0:=a1) (w:=w) (db:=db) (wk:=wk') (tu:=tu') (ha:=ha') (wc:=wc') (tc:=tc') (hc:=hc') (un:=un) (cc:=cc) (fv:=fv) (eN:=eN) (a:=a) hA' St M hn hv hkd hL hT mO hh;have vX:=λ(N:Nat) w a hA' hN=>first_walk (n:=N) (v:=v) (cb:=a0.heap.size) (w:=w) (a:=a) hA' hN;simp only[wlMid,wlCode,Tryz.f5,Code.l,Code.r,cN]at ad7 FQ vX;have aiw:=aA ad7;have YA:=aA FQ;have ad8:=aA vX;clear ad7 FQ vX;simp only[wlCode,Tryz.f5,Code.l,Code.r,cN,aW];walk_nrm;refine iI λτ=>?_;generalize iA:World.alloc _ _=w1;have hs1:w1.heap.size=a0.heap.size+1:=by subst iA;exact cM _ _
 have ho1:∀y,y<a0.heap.size->w1.heap[y]? =a0.heap[y]? :=λy hy=>by subst iA;exact gT _ _ _ hy
 have hc1:w1.heap[a0.heap.size]? =ae (aK #[aD wk cc.work.length wc,aD tu cc.turns.length tc,aD ha cc.halt.length hc,aq af un] 25 (0,0)):=by subst iA;exact gN _ _
 clear iA;have Te:=aA hs1;have Ho1:=aA ho1;have Hc1:=aA hc1;clear hs1 ho1 hc1;refine wpM_seq ?_;refine pS ?_;refine bA (args:=#[]) rfl rfl rfl func6 rfl rfl aJ (λb k fs h1 h2=>trivial) NY ?_;rintro i2 v2 w2 ⟨rfl,rfl,hs2,Az⟩;have IC:=aA hs2;have Yp:=aA Az;clear hs2 Az;walk_nrm;refine gP ?_;refine on ?_;refine Cs ?_;try simp only[bE]
 have hc2:w2.heap[a0.heap.size]? =ae (aK #[aD wk cc.work.length wc,aD tu cc.turns.length tc,aD ha cc.halt.length hc,aq af un] 25 (0,0)):=by rw[Yp.out _ (by have:=Te.out;omega)];exact Hc1.out
 have tT:nZ w2 wk tu ha cc un:=(HA.out.mono (by have:=Te.out;omega) Ho1.out).mono IC.out Yp.out;have k0:=cO hc2 0;have k1:=cO hc2 1;have k2:=cO hc2 2;have k3:=cO hc2 3;have HA2:=aA tT;have Hc2:=aA hc2;clear tT hc2;refine wpM_seq (wpM_seq (wpM_lone pP hcs aQ yg (ni aQ _) (λτ=>?_)));have wV:=aad wk tu ha wc cc.turns.length tc cc.halt.length hc un cc.work (w2.tp τ) (HA2.out.R.same (bJ _) λ_ _=>rfl) HA2.out.rows;have agv:=aA wV;clear wV;go_wp2_with fail
 refine agv.out.mono ?_;rintro e w3 ⟨b1,rfl,hb1,pG⟩;have km:∀y,y<a0.heap.size->w3.heap[y]? =a0.heap[y]? :=λy hy=>by have h1:=Te.out;have h2:=IC.out;rw[pG.block y (by show y<w2.heap.size;omega)];show w2.heap[y]? =_;rw[Yp.out y ai,Ho1.out y hy]
 have hs3:a0.heap.size+1<=w3.heap.size:=by have h1:=Te.out;have h2:=IC.out;have h3:w2.heap.size<=w3.heap.size:=pG.size;omega
 have hc3:w3.heap[a0.heap.size]? =ae (aK #[aD wk cc.work.length wc,aD tu cc.turns.length tc,aD ha cc.halt.length hc,aq af un] 25 (0,0)):=by rw[pG.block _ (by have:=Te.out;have:=IC.out;show a0.heap.size<w2.heap.size;omega)];exact Hc2.out
 have j0:=cO hc3 0;have j1:=cO hc3 1;have j2:=cO hc3 2;have j3:=cO hc3 3;have Fc:nZ w3 wk tu ha cc un:=HA.out.mono ai km;have HO3:=aA (⟨ai,km⟩:nj a0 w3);have Hs3:=aA hs3;have HA3:=aA Fc;have Hb1:=aA hb1;have Hc3:=aA hc3;clear km hs3 Fc hb1 pG hc3 agv Hc2 HA2 IC Yp Te Ho1 Hc1 k0 k1 k2 k3;have agw:b1=aw\/(b1=au/\decide (n<1)=au)\/(b1=au/\decide (n<1)=aw/\decide (16<n)=au)\/(b1=au/\decide (n<1)=aw/\decide (16<n)=aw/\decide (v<0)=au)\/(b1=au/\decide (n<1)=aw/\decide (16<n)=aw/\decide (v<0)=aw/\decide (1000<v)=au)\/(b1=au/\decide (n<1)=aw/\decide (16<n)=aw/\decide (v<0)=aw/\decide (1000<v)=aw):=by cases b1<;>cases decide (n<1) <;>cases decide (16<n) <;>cases decide (v<0) <;>cases decide (1000<v) <;>simp
 rcases agw with rfl|⟨rfl,d1⟩|⟨rfl,d1,d2⟩|⟨rfl,d1,d2,d3⟩|⟨rfl,d1,d2,d3,d4⟩|⟨rfl,d1,d2,d3,d4⟩
 rotate_left 5
 .obtain⟨f1,f2,f3,f4,f5⟩:=Hb1.out rfl;have hnv:(1<=n/\n<=16)/\0<=v/\v<=1000:=by simp only[decide_eq_false_iff_not]at d1 d2 d3 d4;omega
  go_wp2_with fail
  have abL:=UJ wk tu ha wc cc.turns.length tc cc.halt.length hc w3.heap.size 2 un cc.work [2,4] (w3.alloc (aK #[aq af 2,aq af 4] 3)) (HA3.out.R.same (by rw[cM];omega) λb hb=>gT _ _ _ hb) ⟨ai,λl hl=>by have:=Di hl;omega⟩ aN (λi hi=>by have hg:=gN w3 (aK #[aq af 2,aq af 4] 3);have:i<2:=hi;rw[ax hg];obtain rfl|rfl:i=0\/i=1:=ai;all_goals rfl) (by rw[cM];omega);refine abL.mono ?_;rintro e w4 ⟨b2,rfl,hb2,abM⟩;have hO4:nj w3 w4:=((nj.refl w3).alloc _).trans (.below abM);have HO4:=aA hO4;have Hb2:=aA hb2;clear hO4 hb2 abM abL j0 j1 j2 j3;cases b2 with
  |false=>
   go_wp2;refine⟨w4,⟨rfl,rfl,rfl⟩,?_⟩;try simp only[bE]
   refine ctx ?_;refine iI λτ=>?_;refine cD ?_;exact⟨rfl,rfl,jT,.olds (HO3.out.trans HO4.out)⟩
  |true=>
   have YC:=Hb2.out rfl;have ad9:=aA YC;clear YC;go_wp2;refine⟨w4,⟨rfl,rfl,rfl⟩,?_⟩;try simp only[bE]
   refine Cs ?_;try simp only[bE]
   have hcb:a0.heap.size<w3.heap.size:=(by have:=Hs3.out;omega);have hc4:w4.heap[a0.heap.size]? =ae (aK #[aD wk cc.work.length wc,aD tu cc.turns.length tc,aD ha cc.halt.length hc,aq af un] 25 (0,0)):=(by rw[HO4.out.old _ hcb];exact Hc3.out);have IA:=HA3.out.mono HO4.out.size HO4.out.old;have HA4:=aA IA;have Hc4:=aA hc4;have Hcb:=aA (iR hcb HO4.out.size);have HO:=aA (HO3.out.trans HO4.out);clear IA hc4 hcb HO4 HO3 Hc3 HA3 Hs3 Hb2 Hb1;obtain⟨N,rfl⟩:∃N:Nat,n=N:=⟨n.toNat,ai⟩;have hN:1<=N/\N<=16:=ai;clear d1 d2 d3 d4;have hL:cc.work.length<=16/\∀l∈cc.work,l.length<=600:=⟨f1,λl hl=>by have:=Di hl;omega⟩;have hL3:cc.work.length<=16/\∀l∈cc.work,l.length<=600/\∀c∈l,c.pairs.length<=4000:=⟨f1,λl hl=>⟨hL.2 l hl,λc hc=>by have:=Oi hl hc;omega⟩⟩;have HL:=aA hL;have HL3:=aA hL3;clear hL hL3;refine iI λτ=>?_;refine wpM_seq (wpM_lone pP hcs aQ yg (ni aQ _) (λτ=>?_));refine Code.wp_mono ?_ (ad8.out N (w4.tp τ) _ (Yz.mk ..) hN.2);rintro e a5 w5 ⟨rfl,fv,O4,Y1,Y2⟩;refine⟨rfl,w5,Alike.refl _,?_⟩;simp only[bE];have hO5:nj w4 w5:=⟨Y1.size,Y1.block⟩;have HO5:=aA hO5;have HF5:=aA (show w5.ownsRow w4.heap.size 3 1 fv N (gH (eA N v))from Y2);clear hO5 Y2 Y1;cases O4;have hc5:=(HO5.out.old _ Hcb.out).trans Hc4.out;have j0:=cO hc5 0;have j1:=cO hc5 1;have j2:=cO hc5 2;have j3:=cO hc5 3;clear hc5;have O4:=HA4.out.mono HO5.out.size HO5.out.old;refine wpM_seq (wpM_lone pP hcs aQ yg (ni aQ _) (λτ=>?_));have Fv:=V2 wk tu ha wc tc hc cc un (w5.tp τ) (O4.R.same (bJ _) λ_ _=>rfl) (O4.T.same (bJ _) λ_ _=>rfl) (O4.H.same (bJ _) λ_ _=>rfl) ⟨f2,f3⟩ HL3.out;have YD:=aA Fv;simp only[aW]at YD;clear Fv O4;go_wp2_with fail
   refine YD.out.mono ?_;rintro e w6 ⟨wk',tu',ha',wc',tc',hc',rfl,hb6,hA6,hT6,hH6⟩;have hO6:nj w5 w6:=⟨hb6.size,hb6.block⟩;have HO6:=aA hO6;have HA6:=aA hA6;have HT6:=aA hT6;have HH6:=aA hH6;clear hO6 hA6 hT6 hH6 hb6 YD;simp only[aW];go_wp2;obtain⟨W,hW⟩:∃W,W=w6.alloc (aK #[aD wk' cc.work.length wc',aD tu' cc.turns.length tc',aD ha' cc.halt.length hc',aq af un] 25):=⟨_,rfl⟩;have hO7:nj w6 W:=(by rw[hW];exact(nj.refl w6).alloc _);have jd:W.heap[w6.heap.size]? =ae (aK (aW wk' tu' ha' cc.work.length wc' cc.turns.length tc' cc.halt.length hc' un) 25 (0,0)):=(by rw[hW];exact gN _ _);rw[←hW];clear hW j0 j1 j2 j3;have hp:=kM.olds hO7;have h54:w4.heap.size<=(w5.tp τ).heap.size:=HO5.out.size;have St:Td w4 w6.heap.size wk' tu' ha' wc' tc' hc' un cc fv (eA N v) cc.work W:=⟨(HO5.out.trans HO6.out).trans hO7,dm HO5.out.size HO6.out.size,jd,rfl,(HA6.out.stand hp.stand hp.stand hp.stand).base h54,row_base (hp.row HT6.out) h54,row_base (hp.row HH6.out) h54,by rw[si];exact(kM.olds (HO6.out.trans hO7)).row HF5.out⟩;have HSt:=aA St;clear St hp h54 jd hO7 HA6 HT6 HH6 HF5 HO6 HO5;refine⟨W,Alike.refl _,?_⟩;refine wpM_seq (SL pP aQ yg (ni aQ _) (λτ=>?_));refine Code.wp_mono ?_ (aiw.out N w4 (W.tp τ) w6.heap.size wk' tu' ha' wc' tc' hc' fv _ (Sj.mk ..) ⟨⟨HSt.out.bel.size,HSt.out.bel.old⟩,HSt.out.big,HSt.out.box,HSt.out.len,HSt.out.all,HSt.out.T,HSt.out.H,HSt.out.F⟩ hN HL.out);rintro e a' w' (⟨rfl,hA',eN,M,St⟩|⟨rfl,h6,hd,hO⟩)
   .refine .inl ⟨rfl,w',Alike.refl _,?_⟩;simp only[bE];exact YA.out N w4 w' _ wk' tu' ha' wc' tc' hc' fv eN _ hA' St M hN hnv.2 ad9.out HL.out f2 HA4.out.un (.olds (HO.out.trans St.bel))
   .refine .inr ⟨rfl,w',Alike.refl _,?_⟩;simp only[bE];exact⟨rfl,hd,by simp[eL,go_sem,h6],.olds (HO.out.trans hO)⟩
 all_goals
  go_wp2;refine⟨w3,⟨rfl,rfl,rfl⟩,?_⟩;try simp only[bE]
  refine ctx ?_;refine iI λτ=>?_;refine cD ?_;exact⟨rfl,rfl,jT,.olds HO3.out⟩
end
end
end Go.Proofs.YtfmibhmknlnoiaaGreat
