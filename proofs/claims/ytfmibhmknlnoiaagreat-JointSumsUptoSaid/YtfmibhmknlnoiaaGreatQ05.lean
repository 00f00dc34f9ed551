import Derived.Test.YtfmibhmknlnoiaaGreatQ00
import Derived.Test.YtfmibhmknlnoiaaGreatQ04
import Derived.Test.YtfmibhmknlnoiaaGreatQ03
import Derived.Test.YtfmibhmknlnoiaaGreatQ02
import Derived.Deep.AppendLies
set_option linter.all false
set_option maxRecDepth 100000
set_option maxHeartbeats 4000000
namespace Go.Proofs.YtfmibhmknlnoiaaGreat
open _root_.Go.Proofs.Tryz
variable{ι σ α:Type}{a:Act}{y:Addr}{ats:Array TypeId}{csC:Array Value}{ok sw:Bool}{aS:Bool×Int->Pr JS α}{d0:aK}{rf:Frame}{E N er h mm un:Int}{D:qZ}{e':cX}{s s' s0:JS}{J:eM σ}{Jm:dA ι}{S:ba}{cs cs0 fs:List Frame}{U:List Frame->Prop}{hs vs zs:List Int}{ps pE xs:List Value}{B B' F L M Wg a0 a1 ab ak b bc bd be br c ca co come d f yR fr hc i' k lo m no sz t tW tc wb wc wo:Nat}{fK:Nat->oF Bool}{nb:Nat->Nat}{ro0:Nat->Option (Nat×Nat)}{o1 o2:Obj}{o:Oper}{aa ao ha wv:Option Addr}{Q:Ph->Exit->Act->World->Prop}{Post:Ph->Value->World->Prop}{P:Program}{β:Type}{e eC tI:TypeId}{cv dv iv lV pv v x:Value}{a' w' w0 w1 w2 wp:World}{Q':α->σ->Prop}{i:ι}{I:σ->Prop}{R:σ->σ->Prop}
section
open Go Go.Conc Go.ConcN Go.RowKit
attribute [local go_sem] aF aG aT aD aO aW aA aB dE cB dF a8
inductive Ch(f t x r m L k:Nat):Act->Prop
 |mk (u5 u6 u8 u9 sr mF mG mb lr kE u16 ku kF kG kH u23 u24 mh u26 kI u28 kJ kK lu u32 u33 lx ly lz lA mi mj mD ny nz pq u44 pw nA nB nC nD nE nG nH si sj tS tT wK wL wM wN wO wP wQ u64 wR wT Gn Gp Gq BN BO BP Eb Ec Ed Ee Ef Gr Gs Gt Ky Kz KA KB KC KD KE KF KG KH KI KJ KL KM:Value):Ch f t x r m L k {tmps:=#[.pointer (some ⟨f,0,none⟩),.pointer (some ⟨t,0,none⟩),.pointer (some ⟨x,0,none⟩),.pointer (some ⟨r,0,none⟩),.pointer (some ⟨m,0,none⟩),u5,u6,.slice (some ⟨L,0,none⟩) 2 2,u8,u9,sr,mF,mG,mb,lr,kE,u16,ku,kF,kG,kH,.int .i64 2,.int .i64 k,u23,u24,mh,u26,kI,u28,kJ,kK,lu,u32,u33,lx,ly,lz,lA,mi,mj,mD,ny,nz,pq,u44,pw,nA,nB,nC,nD,nE,nG,nH,si,sj,tS,tT,wK,wL,wM,wN,wO,wP,wQ,u64,wR,wT,Gn,Gp,Gq,BN,BO,BP,Eb,Ec,Ed,Ee,Ef,Gr,Gs,Gt,Ky,Kz,KA,KB,KC,KD,KE,KF,KG,KH,KI,KJ,KL,KM],defers:=[]}
inductive Nh(f t x r m L k:Nat):Act->Prop
 |mk (u5 u6 u9 sr mF mG mb lr kE u16 ku kF kG kH u23 u24 mh u26 kI u28 kJ kK lu u32 u33 lx ly lz lA mi mj mD ny nz pq u44 pw nA nB nC nD nE nG nH si sj tS tT wK wL wM wN wO wP wQ u64 wR wT Gn Gp Gq BN BO BP Eb Ec Ed Ee Ef Gr Gs Gt Ky Kz KA KB KC KD KE KF KG KH KI KJ KL KM:Value):Nh f t x r m L k {tmps:=#[.pointer (some ⟨f,0,none⟩),.pointer (some ⟨t,0,none⟩),.pointer (some ⟨x,0,none⟩),.pointer (some ⟨r,0,none⟩),.pointer (some ⟨m,0,none⟩),u5,u6,.slice (some ⟨L,0,none⟩) 2 2,.int .i64 k,u9,sr,mF,mG,mb,lr,kE,u16,ku,kF,kG,kH,.int .i64 2,.int .i64 k,u23,u24,mh,u26,kI,u28,kJ,kK,lu,u32,u33,lx,ly,lz,lA,mi,mj,mD,ny,nz,pq,u44,pw,nA,nB,nC,nD,nE,nG,nH,si,sj,tS,tT,wK,wL,wM,wN,wO,wP,wQ,u64,wR,wT,Gn,Gp,Gq,BN,BO,BP,Eb,Ec,Ed,Ee,Ef,Gr,Gs,Gt,Ky,Kz,KA,KB,KC,KD,KE,KF,KG,KH,KI,KJ,KL,KM],defers:=[]}
noncomputable def j5:Code:=(f44.body).getD .skip
noncomputable def rq:Code:=j5.r.r.l.r
noncomputable def nJ:Code:=rq.l.l
noncomputable def Wq:Code:=nJ.r.r.l.l
noncomputable def Ws:Code:=Wq.r.l
def pB(a0 a1:Nat)(hs:List Int):Array Value:=#[.int .i64 a0,.int .i64 (hs.getD 0 0),.int .i64 (aU (hs.getD 0 0)),.int .i64 a1,.int .i64 (hs.getD 1 0),.int .i64 (aU (hs.getD 1 0))]
def LF(L b k:Nat)(wv:Option Addr)(cell:Nat):Nat->Value
 |0=>.slice (some ⟨L,0,none⟩) 2 2
 |1=>.int .i64 k
 |2=>.pointer (some ⟨b,0,none⟩)
 |3=>.pointer wv
 |4=>.slice (some ⟨L,0,none⟩) 2 2
 |5=>.int .i64 k
 |6=>.pointer (some ⟨L,k*3,none⟩)
 |7=>.pointer (some ⟨L,k*3,none⟩)
 |8=>.int .i64 cell
 |10=>.pointer (some ⟨L,k*3,none⟩)
 |_=>.pointer (some ⟨L,k*3+1,none⟩)
theorem Wt(w1:World)(hk:k<2):Sem.run prog (Instr.indexAt 122 (.slice (some ⟨L,0,none⟩) 2 2) (.int .i64 (k:Int))) w1=.ok (.pointer (some ⟨L,k*3,none⟩)) w1:=by
 rcases k with _|_|k
 ·kernel_rfl
 ·kernel_rfl
 ·omega
theorem mv_script{x r cell:Nat}{G:World->Prop}(hA:Nh f t x r m L k a)(hk:k<2)(hG:∀w,G w->w.cell? ⟨x,0,none⟩=some (.pointer (some ⟨b,0,none⟩))/\w.cell? ⟨r,0,none⟩=some (.pointer wv)/\w.cell? ⟨L,k*3,none⟩=some (.int .i64 cell)){id:Nat}{ops:Array Oper}(bC:Ws=.region id ops true):
  ScriptM prog S3 44 ops 9 10 (λi=>25+i) (LF L b k wv cell) G a:=by
 have h7:a.tmps.getD 7 undef=.slice (some ⟨L,0,none⟩) 2 2:=by cases hA;rfl
 have h8:a.tmps.getD 8 undef=.int .i64 k:=by cases hA;rfl
 have h2:a.tmps.getD 2 undef=.pointer (some ⟨x,0,none⟩):=by cases hA;rfl
 have h3:a.tmps.getD 3 undef=.pointer (some ⟨r,0,none⟩):=by cases hA;rfl
 have hsz:a.tmps.size=95:=by cases hA;rfl
 clear hA;simp only[Ws,Wq,nJ,rq,j5,f44,Code.l,Code.r,bJ,Code.region.injEq]at bC;obtain⟨-,bC,-⟩:=bC;subst bC;refine⟨az,ae,?_,?_,λi j _ _ h=>by simpa using h,λi hi=>by rw[hsz];omega,?_,?_,λt=>oG,?_,?_,?_,ax,?_⟩
 ·intro i o ho;have hi:=(aQ.1 ho).1;simp only[jC,ew,fS]at hi;match i,hi with
  |0,_|1,_|2,_|3,_|4,_|5,_|6,_|7,_|8,_|9,_|10,_|11,_|12,_=>(obtain rfl:=aP ho;simp)
 ·intro i o hi ho;match i,hi with
  |0,_|1,_|2,_|3,_|4,_|5,_|6,_|7,_|8,_|9,_=>(obtain rfl:=aP ho;rfl)
 ·intro i o hi ho;match i,hi with
  |0,_|1,_|2,_|3,_|4,_|5,_|6,_|7,_|8,_|9,_=>(obtain rfl:=aP ho;rfl)
 ·intro i o hi hm ho;match i,hi with
  |9,_=>exact absurd rfl hm
  |0,_|1,_|2,_|3,_|4,_|5,_|6,_|7,_|8,_=>(obtain rfl:=aP ho;show eV prog S3 _ _=true;kernel_rfl)
 ·intro i o hi ho;match i,hi with
  |0,_|1,_|2,_|3,_|4,_|5,_|6,_|7,_|8,_|9,_=>(obtain rfl:=aP ho;simp[Region.binds])
 ·intro i o a' hi hm ho gv bT w hw;obtain⟨g1,g2,g3⟩:=hG w hw;have e7:a'.tmps.getD 7 undef=.slice (some ⟨L,0,none⟩) 2 2:=by rw[bT 7 (λj hj=>ae)];exact h7
  have e8:a'.tmps.getD 8 undef=.int .i64 k:=by rw[bT 8 (λj hj=>ae)];exact h8
  have e2:a'.tmps.getD 2 undef=.pointer (some ⟨x,0,none⟩):=by rw[bT 2 (λj hj=>ae)];exact h2
  have e3:a'.tmps.getD 3 undef=.pointer (some ⟨r,0,none⟩):=by rw[bT 3 (λj hj=>ae)];exact h3
  refine .inl λτ dd=>?_;have f1:(w.td τ dd).cell? ⟨x,0,none⟩=_:=g1;have f2:(w.td τ dd).cell? ⟨r,0,none⟩=_:=g2;have f3:(w.td τ dd).cell? ⟨L,k*3,none⟩=_:=g3;generalize w.td τ dd=w1 at*;clear bT h7 h8 h2 h3 g1 g2 g3 hG hw;match i,hi with
  |9,_=>exact absurd rfl hm
  |0,_|1,_|2,_|3,_|4,_|5,_|6,_|7,_|8,_=>
   obtain rfl:=aP ho
   (try simp[Region.binds,LF]at gv)
   simp[execOp,go_sem,Act.eval,cE,LF]at*;simp[*,Wt w1 hk]
 ·intro t o ht ho;have hi:=(aQ.1 ho).1;simp only[jC,ew,fS]at hi;match t,hi,ht with
  |11,_,_|12,_,_=>(obtain rfl:=aP ho;simp[Region.binds])
 ·intro listed hc hd i hi;have c10:=hd _ rfl;clear hc hd;simp[Region.binds]at c10;match i,hi with
  |0,_|1,_|2,_|3,_|4,_|5,_|6,_|7,_|8,_|9,_=>(simp[cE];simp[c10])
section
variable{n:Nat}{main:Bool}{Stop:ι->Frame->List Frame->World->Prop}
structure ru(S:jY α (bA F b c lo n) main cs Jm Stop)(w0:World)(f t x r m:Nat)(fr to:Nat)(mm:Int)(w:World):Prop where
 at0:∃i0 p0,S.At i0 p0 w0
 lo:lo<=w0.heap.size
 keep:S.Keep w0 w
 ge:w0.heap.size<=f/\w0.heap.size<=t/\w0.heap.size<=x/\w0.heap.size<=r/\w0.heap.size<=m
 hf:∃e,w.heap[f]? =some (.cells #[.int .i64 fr] e (0,0))
 ht:∃e,w.heap[t]? =some (.cells #[.int .i64 to] e (0,0))
 hx:∃e,w.heap[x]? =some (.cells #[.pointer (some ⟨b,0,none⟩)] e (0,0))
 hr:∃e,w.heap[r]? =some (.cells #[.pointer S.wv] e (0,0))
 hm:∃e,w.heap[m]? =some (.cells #[.int .i64 mm] e (0,0))
 nf:¬bL b c w f/\¬bL b c w t/\¬bL b c w x/\¬bL b c w r/\¬bL b c w m
variable{S:jY α (bA F b c lo n) main cs Jm Stop}{w:World}{x r to:Nat}
theorem ru.step(X:ru S w0 f t x r m fr to mm w)(K:S.Keep w w'):ru S w0 f t x r m fr to mm w':=by obtain⟨i0,p0,h0⟩:=X.at0;have key:∀y o,w.heap[y]? =some o->o≠cI->¬bL b c w y->w0.heap.size<=y->w'.heap[y]? =some o/\¬bL b c w' y:=λy o h1 h2 h3 h4=>S.same _ _ _ _ K h1 h2 h3 (S.new _ _ _ _ h0 h4);obtain⟨g1,g2,g3,g4,g5⟩:=X.ge;obtain⟨n1,n2,n3,n4,n5⟩:=X.nf;obtain⟨e1,h1⟩:=X.hf;obtain⟨e2,h2⟩:=X.ht;obtain⟨e3,h3⟩:=X.hx;obtain⟨e4,h4⟩:=X.hr;obtain⟨e5,h5⟩:=X.hm;obtain⟨a1,b1⟩:=key _ _ h1 aJ n1 g1;obtain⟨a2,b2⟩:=key _ _ h2 aJ n2 g2;obtain⟨a3,b3⟩:=key _ _ h3 aJ n3 g3;obtain⟨a4,b4⟩:=key _ _ h4 aJ n4 g4;obtain⟨a5,b5⟩:=key _ _ h5 aJ n5 g5;exact⟨⟨i0,p0,h0⟩,X.lo,S.trans _ _ _ X.keep K,⟨g1,g2,g3,g4,g5⟩,⟨e1,a1⟩,⟨e2,a2⟩,⟨e3,a3⟩,⟨e4,a4⟩,⟨e5,a5⟩,b1,b2,b3,b4,b5⟩
theorem ru.cells(X:ru S w0 f t x r m fr to mm w):w.cell? ⟨f,0,none⟩=some (.int .i64 fr)/\w.cell? ⟨t,0,none⟩=some (.int .i64 to)/\w.cell? ⟨x,0,none⟩=some (.pointer (some ⟨b,0,none⟩))/\w.cell? ⟨r,0,none⟩=some (.pointer S.wv)/\w.cell? ⟨m,0,none⟩=some (.int .i64 mm):=by
 obtain⟨e1,h1⟩:=X.hf;obtain⟨e2,h2⟩:=X.ht;obtain⟨e3,h3⟩:=X.hx;obtain⟨e4,h4⟩:=X.hr;obtain⟨e5,h5⟩:=X.hm;refine⟨?_,?_,?_,?_,?_⟩
 ·rw[af h1];rfl
 ·rw[af h2];rfl
 ·rw[af h3];rfl
 ·rw[af h4];rfl
 ·rw[af h5];rfl
def Df(F k a0 a1:Nat)(sw:Bool)(mm:Int)(aS:Bool×Int->Pr JS α)(hs:List Int):Pr JS α:=
 let h:=hs.getD 0 0;let g:=hs.getD 1 0;let x:=if sw then aU h+mm else aU h-mm
 let y:=if sw then aU g-mm else aU g+mm
 let lo:=if sw then y else x
 let hi:=if sw then x else y
 if lo<0 then aS (false,265)else if gS hi=false then aS (false,263)else(doesP F k [⟨a0,h,x⟩,⟨a1,g,y⟩]).bind aS
theorem LG:(mq F k a0 a1 sw mm).bind aS=(eZ F [a0,a1]).bind λhs'=>Df F k a0 a1 sw mm aS ([] ++hs'):=by simp only[mq,eZ,Df,Pr.bind_assoc,Pr.bind,kz,kR,List.getD_cons_zero,List.getD_cons_succ]
structure oM(S:jY α (bA F b c lo n) main cs Jm Stop)(w0:World)(f t x r m fr to:Nat)(mm:Int)(L a0 a1:Nat)(hs:List Int)(w:World):Prop where
 box:ru S w0 f t x r m fr to mm w
 hL:w0.heap.size<=L/\f<L/\t<L/\x<L/\r<L/\m<L
 ent:w.heap[L]? =some (.cells (pB a0 a1 hs) 121 (0,0))
 nfL:¬bL b c w L
 bd:∀h∈hs,0<=h/\h<=1152921504606846975
theorem oM.step(X:oM S w0 f t x r m fr to mm L a0 a1 hs w)(K:S.Keep w w'):oM S w0 f t x r m fr to mm L a0 a1 hs w':=by obtain⟨i0,p0,h0⟩:=X.box.at0;obtain⟨h1,h2⟩:=S.same _ _ _ _ K X.ent aJ X.nfL (S.new _ _ _ _ h0 X.hL.1);exact⟨X.box.step K,X.hL,h1,h2,X.bd⟩
theorem oM.set{hs':List Int}{p:Pr JS α}(X:oM S w0 f t x r m fr to mm L a0 a1 hs w)(h:S.At i p w)(hL:w'.heap[L]? =some (.cells (pB a0 a1 hs') 121 (0,0)))(ho:∀y,y≠L->w'.heap[y]? =w.heap[y]?)(hsz:w'.heap.size=w.heap.size)(IH:∀h∈hs',0<=h/\h<=1152921504606846975):
  S.At i p w'/\oM S w0 f t x r m fr to mm L a0 a1 hs' w':=by
 obtain⟨i0,p0,h0⟩:=X.box.at0;obtain⟨h1,K1,hF⟩:=S.fresh _ _ _ _ _ _ w' h0 h X.box.keep ae (λy hy hne=>by
  by_cases e:y=L
  ·subst e;exact⟨X.hL.1,X.nfL⟩
  ·exact absurd (ho y e) hne)
 obtain⟨g0,g1,g2,g3,g4,g5⟩:=X.hL;obtain⟨n1,n2,n3,n4,n5⟩:=X.box.nf;obtain⟨e1,q1⟩:=X.box.hf;obtain⟨e2,q2⟩:=X.box.ht;obtain⟨e3,q3⟩:=X.box.hx;obtain⟨e4,q4⟩:=X.box.hr;obtain⟨e5,q5⟩:=X.box.hm;refine⟨h1,⟨⟨i0,p0,h0⟩,X.box.lo,K1,X.box.ge,⟨e1,by rw[ho _ ae];exact q1⟩,⟨e2,by rw[ho _ ae];exact q2⟩,⟨e3,by rw[ho _ ae];exact q3⟩,⟨e4,by rw[ho _ ae];exact q4⟩,⟨e5,by rw[ho _ ae];exact q5⟩,?_⟩,⟨g0,g1,g2,g3,g4,g5⟩,hL,λhf=>X.nfL ((hF _).1 hf),IH⟩;exact⟨λhf=>n1 ((hF _).1 hf),λhf=>n2 ((hF _).1 hf),λhf=>n3 ((hF _).1 hf),λhf=>n4 ((hF _).1 hf),λhf=>n5 ((hF _).1 hf)⟩
theorem mv_round0(hn:n<=64)(OA:ak=[a0,a1].getD 0 0)(Sj:ak<n)(hlen:hs.length=0){aS:Int->Pr JS α}{Q:ι->Exit->Act->World->Prop}(hA:Ch f t x r m L 0 a)(X:oM S w0 f t x r m fr to mm L a0 a1 hs w)(h:S.At i ((gh F F ak).bind aS) w)
  (hend:∀i' a' w' v,Ch f t x r m L 1 a'->oM S w0 f t x r m fr to mm L a0 a1 (hs++[v]) w'->S.At i' (aS v) w'->Q i' .normal a' w'):wpM prog main cs Jm Stop S.U 44 nJ Q i a w:=by
 have hcs:=S.hcs;obtain⟨cf,ct,cx,cr,cm⟩:=X.box.cells;have cL:w.cell? ⟨L,0*3,none⟩=some (.int .i64 ak):=by rw[af X.ent,OA];rfl
 have H:=ai h;have HX:=ai X;have Hl:=ai hlen;have Hkn:=ai Sj;have Hak:=ai OA;clear h X hlen Sj OA;cases hA;simp only[nJ,rq,j5,f44,Code.l,Code.r,bJ];refine eG λτ=>?_;refine wpM_seq (aH (t:=true) cC (dm ?_));try simp only[Exit.then]
 refine wpM_seq (bt ?_);refine eG λτ=>?_;have hC:=λ{a ops} hA bC=>mv_script (f:=f) (t:=t) (x:=x) (r:=r) (m:=m) (L:=L) (k:=0) (b:=b) (cell:=ak) (wv:=S.wv) (a:=a) (G:=λw1=>w1.cell? ⟨x,0,none⟩=some (.pointer (some ⟨b,0,none⟩))/\w1.cell? ⟨r,0,none⟩=some (.pointer S.wv)/\w1.cell? ⟨L,0*3,none⟩=some (.int .i64 ak)) hA ae (λ_ h=>h) (id:=5) (ops:=ops) bC;refine wpM_seq (Ng jJ [10,11,12] rfl (S.Num aS w) ax (hC (Nh.mk ..) (by simp only[Ws,Wq,nJ,rq,j5,f44,Code.l,Code.r,bJ])) (λw1 e=>?_) (λqX v w' hp=>?_) (o:=_) rfl rfl (args:=#[.pointer (some ⟨b,0,none⟩),.pointer S.wv,.int .i64 ak]) rfl func45 rfl rfl (λa' hd _=>?_) (λb a' k fs rest h1 h2 h3=>S.upush _ _ rfl h2 ⟨f44,by show prog.funcs[b.fn]? =_;rw[h1];exact func44⟩ h3) (oJ S hn H.out Hkn.out) ?_)
 ·have hc:∀y:Addr,w1.cell? y=w.cell? y:=λy=>by simp only[World.cell?,e.heap]
  rw[hc,hc,hc];exact⟨cx,cr,cL⟩
 ·obtain⟨v,_,_,_,K⟩:=hp;have X':=HX.out.step K;obtain⟨_,_,c1,c2,_⟩:=X'.box.cells;exact⟨c1,c2,by rw[af X'.ent,Hak.out];rfl⟩
 ·have h1:=hd ⟨2,.data⟩ au rfl;have h2:=hd ⟨3,.data⟩ au rfl;have h3:=hd ⟨8,.data⟩ au rfl;simp only[LF]at h1 h2 h3;simp[Act.eval,h1,h2,h3]
 rintro i2 v2 w2 ⟨v,rfl,hv,h2,K2⟩;have X2:=HX.out.step K2;simp only[Script.tmps,List.range,List.range.loop,sH,List.foldl_nil,LF,Nat.reduceAdd,Nat.reduceEqDiff,if_true,if_false,reduceIte,jD,mI,pI];have c1:w2.cell? ⟨L,0*3+1,none⟩=some (.int .i64 (hs.getD 0 0)):=by rw[af X2.ent];rfl
 have z1:w2.frozen? ⟨L,0*3+1,none⟩=false:=ay X2.ent _ (bj _);simp only[Nat.reduceMul,Nat.reduceAdd]at c1 z1;have kX:=ai X2;have H2:=ai h2;clear X2 h2 HX H hC cx cr cL cf ct cm;iterate 3
  refine eU ?_
 refine on ?_;have e3:=aq (o:=0*3+1) kX.out.ent (.int .i64 v);have o3:∀y,y≠L->(w2.setCell ⟨L,0*3+1,none⟩ (.int .i64 v)).heap[y]? =w2.heap[y]? :=λy hy=>ah hy _;have s3:(w2.setCell ⟨L,0*3+1,none⟩ (.int .i64 v)).heap.size=w2.heap.size:=gF;simp only[Nat.reduceMul,Nat.reduceAdd]at e3 o3 s3;generalize w2.setCell ⟨L,_,none⟩ (.int .i64 v)=w3 at*;clear c1 z1;have c2:w3.cell? ⟨L,0*3+1,none⟩=some (.int .i64 v):=by rw[af e3];rfl
 have c3:w3.cell? ⟨L,0*3+2,none⟩=some (.int .i64 (aU (hs.getD 0 0))):=by rw[af e3];rfl
 have z3:w3.frozen? ⟨L,0*3+2,none⟩=false:=ay e3 _ (bj _);simp only[Nat.reduceMul,Nat.reduceAdd]at c2 c3 z3;have Hv:=ai hv;have E3:=ai e3;have O3:=ai o3;have S3':=ai s3;clear hv e3 o3 s3;refine l3 hcs (λτ=>?_);go_wp2_with (first|(go_at_call 46;refine(hvalue_word v _ Hv.out.1 Hv.out.2).mono ?_;rintro e w' ⟨rfl,rfl⟩))
 refine⟨_,aN _ _,?_⟩;try simp only[Exit.inBlock,Exit.then]
 have e4:=aq (o:=0*3+2) E3.out (.int .i64 (v / 1099511627776));have o4:∀y,y≠L->(w3.setCell ⟨L,0*3+2,none⟩ (.int .i64 (v / 1099511627776))).heap[y]? =w3.heap[y]? :=λy hy=>ah hy _;have s4:(w3.setCell ⟨L,0*3+2,none⟩ (.int .i64 (v / 1099511627776))).heap.size=w3.heap.size:=gF;simp only[Nat.reduceMul,Nat.reduceAdd]at e4 o4 s4;generalize w3.setCell ⟨L,_,none⟩ (.int .i64 (v / 1099511627776))=w4 at*;have lN:((pB a0 a1 hs).setIfInBounds (0*3+1) (.int .i64 v)).setIfInBounds (0*3+2) (.int .i64 (v / 1099511627776))=pB a0 a1 (hs++[v]):=by
  have hl:=Hl.out;match hs,hl with
  |[],_=>rfl
 obtain⟨h4,X4⟩:=oM.set (hs':=hs++[v]) (w':=w4) kX.out H2.out (by rw[←lN];exact e4) (λy hy=>(o4 y hy).trans (O3.out y hy)) (by rw[s4,S3'.out]) (λy hy=>by
  rcases List.mem_append.1 hy with h|h
  ·exact kX.out.bd y h
  ·obtain rfl:y=v:=(by simpa using h);exact Hv.out)
 have H4:=ai h4;have M8:=ai X4;clear h4 X4 e4 o4 s4 c2 c3 z3 lN;refine l3 hcs (λτ=>?_);go_wp2;refine⟨_,aN _ _,?_⟩;exact hend _ _ _ _ (Ch.mk ..) M8.out H4.out
theorem mv_round1(hn:n<=64)(OA:ak=[a0,a1].getD 1 0)(Sj:ak<n)(hlen:hs.length=1){aS:Int->Pr JS α}{Q:ι->Exit->Act->World->Prop}(hA:Ch f t x r m L 1 a)(X:oM S w0 f t x r m fr to mm L a0 a1 hs w)(h:S.At i ((gh F F ak).bind aS) w)
  (hend:∀i' a' w' v,Ch f t x r m L 2 a'->oM S w0 f t x r m fr to mm L a0 a1 (hs++[v]) w'->S.At i' (aS v) w'->Q i' .normal a' w'):wpM prog main cs Jm Stop S.U 44 nJ Q i a w:=by
 have hcs:=S.hcs;obtain⟨cf,ct,cx,cr,cm⟩:=X.box.cells;have cL:w.cell? ⟨L,1*3,none⟩=some (.int .i64 ak):=by rw[af X.ent,OA];rfl
 have H:=ai h;have HX:=ai X;have Hl:=ai hlen;have Hkn:=ai Sj;have Hak:=ai OA;clear h X hlen Sj OA;cases hA;simp only[nJ,rq,j5,f44,Code.l,Code.r,bJ];refine eG λτ=>?_;refine wpM_seq (aH (t:=true) cC (dm ?_));try simp only[Exit.then]
 refine wpM_seq (bt ?_);refine eG λτ=>?_;have hC:=λ{a ops} hA bC=>mv_script (f:=f) (t:=t) (x:=x) (r:=r) (m:=m) (L:=L) (k:=1) (b:=b) (cell:=ak) (wv:=S.wv) (a:=a) (G:=λw1=>w1.cell? ⟨x,0,none⟩=some (.pointer (some ⟨b,0,none⟩))/\w1.cell? ⟨r,0,none⟩=some (.pointer S.wv)/\w1.cell? ⟨L,1*3,none⟩=some (.int .i64 ak)) hA ae (λ_ h=>h) (id:=5) (ops:=ops) bC;refine wpM_seq (Ng jJ [10,11,12] rfl (S.Num aS w) ax (hC (Nh.mk ..) (by simp only[Ws,Wq,nJ,rq,j5,f44,Code.l,Code.r,bJ])) (λw1 e=>?_) (λqX v w' hp=>?_) (o:=_) rfl rfl (args:=#[.pointer (some ⟨b,0,none⟩),.pointer S.wv,.int .i64 ak]) rfl func45 rfl rfl (λa' hd _=>?_) (λb a' k fs rest h1 h2 h3=>S.upush _ _ rfl h2 ⟨f44,by show prog.funcs[b.fn]? =_;rw[h1];exact func44⟩ h3) (oJ S hn H.out Hkn.out) ?_)
 ·have hc:∀y:Addr,w1.cell? y=w.cell? y:=λy=>by simp only[World.cell?,e.heap]
  rw[hc,hc,hc];exact⟨cx,cr,cL⟩
 ·obtain⟨v,_,_,_,K⟩:=hp;have X':=HX.out.step K;obtain⟨_,_,c1,c2,_⟩:=X'.box.cells;exact⟨c1,c2,by rw[af X'.ent,Hak.out];rfl⟩
 ·have h1:=hd ⟨2,.data⟩ au rfl;have h2:=hd ⟨3,.data⟩ au rfl;have h3:=hd ⟨8,.data⟩ au rfl;simp only[LF]at h1 h2 h3;simp[Act.eval,h1,h2,h3]
 rintro i2 v2 w2 ⟨v,rfl,hv,h2,K2⟩;have X2:=HX.out.step K2;simp only[Script.tmps,List.range,List.range.loop,sH,List.foldl_nil,LF,Nat.reduceAdd,Nat.reduceEqDiff,if_true,if_false,reduceIte,jD,mI,pI];have c1:w2.cell? ⟨L,1*3+1,none⟩=some (.int .i64 (hs.getD 1 0)):=by rw[af X2.ent];rfl
 have z1:w2.frozen? ⟨L,1*3+1,none⟩=false:=ay X2.ent _ (bj _);simp only[Nat.reduceMul,Nat.reduceAdd]at c1 z1;have kX:=ai X2;have H2:=ai h2;clear X2 h2 HX H hC cx cr cL cf ct cm;iterate 3
  refine eU ?_
 refine on ?_;have e3:=aq (o:=1*3+1) kX.out.ent (.int .i64 v);have o3:∀y,y≠L->(w2.setCell ⟨L,1*3+1,none⟩ (.int .i64 v)).heap[y]? =w2.heap[y]? :=λy hy=>ah hy _;have s3:(w2.setCell ⟨L,1*3+1,none⟩ (.int .i64 v)).heap.size=w2.heap.size:=gF;simp only[Nat.reduceMul,Nat.reduceAdd]at e3 o3 s3;generalize w2.setCell ⟨L,_,none⟩ (.int .i64 v)=w3 at*;clear c1 z1;have c2:w3.cell? ⟨L,1*3+1,none⟩=some (.int .i64 v):=by rw[af e3];rfl
 have c3:w3.cell? ⟨L,1*3+2,none⟩=some (.int .i64 (aU (hs.getD 1 0))):=by rw[af e3];rfl
 have z3:w3.frozen? ⟨L,1*3+2,none⟩=false:=ay e3 _ (bj _);simp only[Nat.reduceMul,Nat.reduceAdd]at c2 c3 z3;have Hv:=ai hv;have E3:=ai e3;have O3:=ai o3;have S3':=ai s3;clear hv e3 o3 s3;refine l3 hcs (λτ=>?_);go_wp2_with (first|(go_at_call 46;refine(hvalue_word v _ Hv.out.1 Hv.out.2).mono ?_;rintro e w' ⟨rfl,rfl⟩))
 refine⟨_,aN _ _,?_⟩;try simp only[Exit.inBlock,Exit.then]
 have e4:=aq (o:=1*3+2) E3.out (.int .i64 (v / 1099511627776));have o4:∀y,y≠L->(w3.setCell ⟨L,1*3+2,none⟩ (.int .i64 (v / 1099511627776))).heap[y]? =w3.heap[y]? :=λy hy=>ah hy _;have s4:(w3.setCell ⟨L,1*3+2,none⟩ (.int .i64 (v / 1099511627776))).heap.size=w3.heap.size:=gF;simp only[Nat.reduceMul,Nat.reduceAdd]at e4 o4 s4;generalize w3.setCell ⟨L,_,none⟩ (.int .i64 (v / 1099511627776))=w4 at*;have lN:((pB a0 a1 hs).setIfInBounds (1*3+1) (.int .i64 v)).setIfInBounds (1*3+2) (.int .i64 (v / 1099511627776))=pB a0 a1 (hs++[v]):=by
  have hl:=Hl.out;match hs,hl with
  |[_],_=>rfl
 obtain⟨h4,X4⟩:=oM.set (hs':=hs++[v]) (w':=w4) kX.out H2.out (by rw[←lN];exact e4) (λy hy=>(o4 y hy).trans (O3.out y hy)) (by rw[s4,S3'.out]) (λy hy=>by
  rcases List.mem_append.1 hy with h|h
  ·exact kX.out.bd y h
  ·obtain rfl:y=v:=(by simpa using h);exact Hv.out)
 have H4:=ai h4;have M8:=ai X4;clear h4 X4 e4 o4 s4 c2 c3 z3 lN;refine l3 hcs (λτ=>?_);go_wp2;refine⟨_,aN _ _,?_⟩;exact hend _ _ _ _ (Ch.mk ..) M8.out H4.out
end
inductive Ic(f t x r m L pa pb:Nat):Act->Prop
 |mk (u5 u6 u8 mF mG mb lr kE u16 ku kF kG kH mf mg u23 u24 mh u26 kI u28 kJ kK lu u32 u33 lx ly lz lA mi mj mD ny nz pq u44 pw nA nB nC nD nE nG nH si sj tS tT wK wL wM wN wO wP wQ u64 wR wT Gn Gp Gq BN BO BP Eb Ec Ed Ee Ef Gr Gs Gt Ky Kz KA KB KC KD KE KF KG KH KI KJ KL KM:Value):Ic f t x r m L pa pb {tmps:=#[.pointer (some ⟨f,0,none⟩),.pointer (some ⟨t,0,none⟩),.pointer (some ⟨x,0,none⟩),.pointer (some ⟨r,0,none⟩),.pointer (some ⟨m,0,none⟩),u5,u6,.slice (some ⟨L,0,none⟩) 2 2,u8,.pointer (some ⟨L,pa,none⟩),.pointer (some ⟨L,pb,none⟩),mF,mG,mb,lr,kE,u16,ku,kF,kG,kH,mf,mg,u23,u24,mh,u26,kI,u28,kJ,kK,lu,u32,u33,lx,ly,lz,lA,mi,mj,mD,ny,nz,pq,u44,pw,nA,nB,nC,nD,nE,nG,nH,si,sj,tS,tT,wK,wL,wM,wN,wO,wP,wQ,u64,wR,wT,Gn,Gp,Gq,BN,BO,BP,Eb,Ec,Ed,Ee,Ef,Gr,Gs,Gt,Ky,Kz,KA,KB,KC,KD,KE,KF,KG,KH,KI,KJ,KL,KM],defers:=[]}
section
variable{n:Nat}{main:Bool}{Stop:ι->Frame->List Frame->World->Prop}
variable{S:jY α (bA F b c lo n) main cs Jm Stop}{w:World}{x r to:Nat}
theorem oM.put{p:Pr JS α}(X:oM S w0 f t x r m fr to mm L a0 a1 hs w)(h:S.At i p w)(ho:∀y,y≠L->w'.heap[y]? =w.heap[y]?)(hsz:w'.heap.size=w.heap.size):
  S.At i p w'/\ru S w0 f t x r m fr to mm w'/\¬bL b c w' L:=by
 obtain⟨i0,p0,h0⟩:=X.box.at0;obtain⟨h1,K1,hF⟩:=S.fresh _ _ _ _ _ _ w' h0 h X.box.keep ae (λy hy hne=>by
  by_cases e:y=L
  ·subst e;exact⟨X.hL.1,X.nfL⟩
  ·exact absurd (ho y e) hne)
 obtain⟨g0,g1,g2,g3,g4,g5⟩:=X.hL;obtain⟨n1,n2,n3,n4,n5⟩:=X.box.nf;obtain⟨e1,q1⟩:=X.box.hf;obtain⟨e2,q2⟩:=X.box.ht;obtain⟨e3,q3⟩:=X.box.hx;obtain⟨e4,q4⟩:=X.box.hr;obtain⟨e5,q5⟩:=X.box.hm;refine⟨h1,⟨⟨i0,p0,h0⟩,X.box.lo,K1,X.box.ge,⟨e1,by rw[ho _ ae];exact q1⟩,⟨e2,by rw[ho _ ae];exact q2⟩,⟨e3,by rw[ho _ ae];exact q3⟩,⟨e4,by rw[ho _ ae];exact q4⟩,⟨e5,by rw[ho _ ae];exact q5⟩,?_⟩,λhf=>X.nfL ((hF _).1 hf)⟩;exact⟨λhf=>n1 ((hF _).1 hf),λhf=>n2 ((hF _).1 hf),λhf=>n3 ((hF _).1 hf),λhf=>n4 ((hF _).1 hf),λhf=>n5 ((hF _).1 hf)⟩
noncomputable def xl:Code:=j5.r.r.r.r.r
theorem Tr{e1 e2:cX}{w:World}{f:Nat×Nat}(h:w.heap[L]? =some (.cells #[.int .i64 e1.cell,.int .i64 e1.old,.int .i64 e1.next,.int .i64 e2.cell,.int .i64 e2.old,.int .i64 e2.next] e f)):M5 L 0 [e1,e2] w:=by intro j v hv;rw[af h,cM];simpa[dB]using hv
theorem mv_tail0(hn:n<=64){g:Int}(ha:a0<n/\a1<n)(yx:lo<=w.heap.size)(hA:Ic f t x r m L 0 3 a)(X:oM S w0 f t x r m fr to mm L a0 a1 [h,g] w)(XT:0<=mm/\mm<=1048575)
  (hp:S.At i (if aU h-mm<0 then aS (false,265)else if gS (aU g+mm)=false then aS (false,263)else(doesP F S.num [⟨a0,h,aU h-mm⟩,⟨a1,g,aU g+mm⟩]).bind aS) w):
  wpM prog main cs Jm Stop S.U 44 xl (bodyPostM prog f44 (S.Did id (λ_ _=>True) (ru S w0 f t x r m fr to mm) aS)) i a w:=by
 have hcs:=S.hcs;obtain⟨cf,ct,cx,cr,cm⟩:=X.box.cells;have hL:=X.hL;have hL2:=X.hL;obtain⟨e1,q1⟩:=X.box.hf;have hbh:=X.bd h au;have hbg:=X.bd g au;have Ent:=ai X.ent;have wh:0<=aU h/\aU h<=1048575:=by unfold aU;omega
 have wg:0<=aU g/\aU g<=1048575:=by unfold aU;omega
 have aah:=(aQ.1 X.ent).1;have qV:w.heap[L]? =some (.cells #[.int .i64 a0,.int .i64 h,.int .i64 (aU h),.int .i64 a1,.int .i64 g,.int .i64 (aU g)] 121 (0,0)):=X.ent;have HX:=ai X;have Hp:=ai hp;have Hbh:=ai hbh;have Hbg:=ai hbg;clear X hp hbh hbg q1 hL hL2;generalize aU h=vh at*;generalize aU g=vg at*;have k2:=cO qV 2;have k5:=cO qV 5;have z2:=zO qV 2;have z5:=zO qV 5;have wr1:IntKind.i64.wrap (vh-mm)=vh-mm:=by rw[dR];omega
 have wr2:IntKind.i64.wrap (vg+mm)=vg+mm:=by rw[dR];omega
 have aai:=ai qV;have Wh:=ai wh;have Wg:=ai wg;have UO:=ai XT;clear qV wh wg XT;simp only[xl,j5,f44,Code.l,Code.r,bJ];cases hA;refine wpM_seq (gi jJ 8 95 [8] rfl ax (λt=>oG) ax rfl ?_);simp only[oH,oI];iterate 8
  refine ov ?_
 refine iH ?_;refine eU ?_;refine on ?_;have e1:=aq (o:=2) aai.out (.int .i64 (vh-mm));have o1:∀y,y≠L->(w.setCell ⟨L,2,none⟩ (.int .i64 (vh-mm))).heap[y]? =w.heap[y]? :=λy hy=>ah hy _;have s1:(w.setCell ⟨L,2,none⟩ (.int .i64 (vh-mm))).heap.size=w.heap.size:=gF;generalize w.setCell ⟨L,_,none⟩ (.int .i64 (vh-mm))=w1 at*;have hmL:m≠L:=by have:=HX.out.hL;omega
 have cm1:w1.cell? ⟨m,0,none⟩=some (.int .i64 mm):=(bP (w:=w) (o1 m hmL)).trans cm;have k1:=cO e1 5;have z1:=zO e1 5;have E1:=ai e1;have O1:=ai o1;have S1:=ai s1;clear e1 o1 s1 cm k2 k5 z2 z5 wr1 cf ct cx cr hmL;refine wpM_seq (gi jJ 8 95 [8] rfl ax (λt=>oG) ax rfl ?_);simp only[oH,oI];iterate 8
  refine ov ?_
 refine iH ?_;refine eU ?_;refine on ?_;have e2:=aq (o:=5) E1.out (.int .i64 (vg+mm));have o2:∀y,y≠L->(w1.setCell ⟨L,5,none⟩ (.int .i64 (vg+mm))).heap[y]? =w1.heap[y]? :=λy hy=>ah hy _;have s2:(w1.setCell ⟨L,5,none⟩ (.int .i64 (vg+mm))).heap.size=w1.heap.size:=gF;generalize w1.setCell ⟨L,_,none⟩ (.int .i64 (vg+mm))=w2 at*;obtain⟨h2,X2,nf2⟩:=oM.put (w':=w2) HX.out Hp.out (λy hy=>(o2 y hy).trans (O1.out y hy)) (by rw[s2,S1.out]);have hs2:w2.heap.size=w.heap.size:=by rw[s2,S1.out]
 have e2:w2.heap[L]? =some (.cells #[.int .i64 a0,.int .i64 h,.int .i64 (vh-mm),.int .i64 a1,.int .i64 g,.int .i64 (vg+mm)] 121 (0,0)):=e2;obtain⟨_,_,cx2,cr2,_⟩:=X2.cells;have l2:=cO e2 2;have l5:=cO e2 5;have E2:=ai e2;have H2:=ai h2;have kX:=ai X2;have Fa:=ai hs2;clear e2 o2 s2 h2 X2 hs2 k1 z1 cm1 wr2;refine wpM_seq (bt ?_);refine eG λτ=>?_;by_cases gw:vh-mm<0
 ·have h3:S.At i (aS (false,265)) w2:=by simpa[gw]using H2.out
  refine aH (t:=true) (by simp[Act.eval,gw]) ?_;simp only[if_true];refine eG λτ=>?_;refine bn ?_;exact⟨rfl,.tuple #[.bool false,.int .i64 265],gU,(false,265),rfl,h3,kX.out,trivial⟩
 ·refine aH (t:=false) (by simp[Act.eval,gw]) ?_;simp only[dS,if_false];by_cases Ai:vg+mm<=1048575
  ·have hl:gS (vg+mm)=true:=(by have:=Wg.out;have:=Wh.out;have:=UO.out;simp[gS];omega);have h3:S.At i ((doesP F S.num [⟨a0,h,vh-mm⟩,⟨a1,g,vg+mm⟩]).bind aS) w2:=(by simpa[gw,hl]using H2.out);have aaj:=ai gw;have EJ:=ai Ai;clear gw Ai hl;refine wpM_seq (l3 hcs (λτ=>?_));go_wp2_with (first|(go_at_call 38;refine(lI (vg+mm) _ (by have:=Wg.out;have:=Wh.out;have:=UO.out;omega) EJ.out).mono ?_;rintro e w' ⟨rfl,rfl⟩))
   refine qK ?_;refine Bl ?_;simp only[Exit.inBlock,Exit.then];have hd:=px S hn (s:=L) (o:=0) (cap:=2) (es:=[⟨a0,h,vh-mm⟩,⟨a1,g,vg+mm⟩]) h3 (by rw[Fa.out];exact yx) (Tr E2.out) (λe=>nf2 (.inl e)) (by rw[Fa.out];exact aah) (λe he=>by
    have:=Wg.out;have:=Wh.out;have:=UO.out;have:=aaj.out;have:=EJ.out;simp at he;rcases he with rfl|rfl
    ·exact⟨ha.1,Hbh.out.1,Hbh.out.2,by show 0<=vh-mm;omega,by show vh-mm<=_;omega⟩
    ·exact⟨ha.2,Hbg.out.1,Hbg.out.2,by show 0<=vg+mm;omega,by show vg+mm<=_;omega⟩) au
   have Hd:=ai hd;clear hd h3;refine nQ ?_;iterate 3
    refine eU ?_
   refine aM (args:=#[.pointer (some ⟨b,0,none⟩),.pointer S.wv,.slice (some ⟨L,0,none⟩) 2 2]) rfl rfl rfl func47 rfl rfl cC (λb k fs h1 h2=>S.upush _ _ rfl rfl ⟨f44,by show prog.funcs[b.fn]? =_;rw[h1];exact func44⟩ h2) (Hd.out) ?_;rintro i3 r3 w3 ⟨ok,er,rfl,h3,K3⟩;walk_nrm;iterate 4
    refine eU ?_
   refine on ?_;refine bn ?_;exact⟨rfl,.tuple #[.bool ok,.int .i64 er],gU,(ok,er),rfl,h3,kX.out.step K3,trivial⟩
  ·have hl:gS (vg+mm)=false:=(by simp[gS];omega);have h3:S.At i (aS (false,263)) w2:=(by simpa[gw,hl]using H2.out);have EJ:=ai Ai;clear gw Ai hl;refine wpM_seq (l3 hcs (λτ=>?_));go_wp2_with (first|(go_at_call 38;refine(rE (vg+mm) _ (.inr (by have:=EJ.out;omega))).mono ?_;rintro e w' ⟨rfl,rfl⟩))
   refine qK ?_;refine ctx ?_;refine eG λτ=>?_;refine bn ?_;exact⟨rfl,.tuple #[.bool false,.int .i64 263],gU,(false,263),rfl,h3,kX.out,trivial⟩
theorem mv_tail3(hn:n<=64){g:Int}(ha:a0<n/\a1<n)(yx:lo<=w.heap.size)(hA:Ic f t x r m L 3 0 a)(X:oM S w0 f t x r m fr to mm L a0 a1 [h,g] w)(XT:0<=mm/\mm<=1048575)
  (hp:S.At i (if aU g-mm<0 then aS (false,265)else if gS (aU h+mm)=false then aS (false,263)else(doesP F S.num [⟨a0,h,aU h+mm⟩,⟨a1,g,aU g-mm⟩]).bind aS) w):
  wpM prog main cs Jm Stop S.U 44 xl (bodyPostM prog f44 (S.Did id (λ_ _=>True) (ru S w0 f t x r m fr to mm) aS)) i a w:=by
 have hcs:=S.hcs;obtain⟨cf,ct,cx,cr,cm⟩:=X.box.cells;have hL:=X.hL;have hL2:=X.hL;obtain⟨e1,q1⟩:=X.box.hf;have hbh:=X.bd h au;have hbg:=X.bd g au;have Ent:=ai X.ent;have wh:0<=aU h/\aU h<=1048575:=by unfold aU;omega
 have wg:0<=aU g/\aU g<=1048575:=by unfold aU;omega
 have aah:=(aQ.1 X.ent).1;have qV:w.heap[L]? =some (.cells #[.int .i64 a0,.int .i64 h,.int .i64 (aU h),.int .i64 a1,.int .i64 g,.int .i64 (aU g)] 121 (0,0)):=X.ent;have HX:=ai X;have Hp:=ai hp;have Hbh:=ai hbh;have Hbg:=ai hbg;clear X hp hbh hbg q1 hL hL2;generalize aU h=vh at*;generalize aU g=vg at*;have k2:=cO qV 2;have k5:=cO qV 5;have z2:=zO qV 2;have z5:=zO qV 5;have wr1:IntKind.i64.wrap (vg-mm)=vg-mm:=by rw[dR];omega
 have wr2:IntKind.i64.wrap (vh+mm)=vh+mm:=by rw[dR];omega
 have aai:=ai qV;have Wh:=ai wh;have Wg:=ai wg;have UO:=ai XT;clear qV wh wg XT;simp only[xl,j5,f44,Code.l,Code.r,bJ];cases hA;refine wpM_seq (gi jJ 8 95 [8] rfl ax (λt=>oG) ax rfl ?_);simp only[oH,oI];iterate 8
  refine ov ?_
 refine iH ?_;refine eU ?_;refine on ?_;have e1:=aq (o:=5) aai.out (.int .i64 (vg-mm));have o1:∀y,y≠L->(w.setCell ⟨L,5,none⟩ (.int .i64 (vg-mm))).heap[y]? =w.heap[y]? :=λy hy=>ah hy _;have s1:(w.setCell ⟨L,5,none⟩ (.int .i64 (vg-mm))).heap.size=w.heap.size:=gF;generalize w.setCell ⟨L,_,none⟩ (.int .i64 (vg-mm))=w1 at*;have hmL:m≠L:=by have:=HX.out.hL;omega
 have cm1:w1.cell? ⟨m,0,none⟩=some (.int .i64 mm):=(bP (w:=w) (o1 m hmL)).trans cm;have k1:=cO e1 2;have z1:=zO e1 2;have E1:=ai e1;have O1:=ai o1;have S1:=ai s1;clear e1 o1 s1 cm k2 k5 z2 z5 wr1 cf ct cx cr hmL;refine wpM_seq (gi jJ 8 95 [8] rfl ax (λt=>oG) ax rfl ?_);simp only[oH,oI];iterate 8
  refine ov ?_
 refine iH ?_;refine eU ?_;refine on ?_;have e2:=aq (o:=2) E1.out (.int .i64 (vh+mm));have o2:∀y,y≠L->(w1.setCell ⟨L,2,none⟩ (.int .i64 (vh+mm))).heap[y]? =w1.heap[y]? :=λy hy=>ah hy _;have s2:(w1.setCell ⟨L,2,none⟩ (.int .i64 (vh+mm))).heap.size=w1.heap.size:=gF;generalize w1.setCell ⟨L,_,none⟩ (.int .i64 (vh+mm))=w2 at*;obtain⟨h2,X2,nf2⟩:=oM.put (w':=w2) HX.out Hp.out (λy hy=>(o2 y hy).trans (O1.out y hy)) (by rw[s2,S1.out]);have hs2:w2.heap.size=w.heap.size:=by rw[s2,S1.out]
 have e2:w2.heap[L]? =some (.cells #[.int .i64 a0,.int .i64 h,.int .i64 (vh+mm),.int .i64 a1,.int .i64 g,.int .i64 (vg-mm)] 121 (0,0)):=e2;obtain⟨_,_,cx2,cr2,_⟩:=X2.cells;have l2:=cO e2 5;have l5:=cO e2 2;have E2:=ai e2;have H2:=ai h2;have kX:=ai X2;have Fa:=ai hs2;clear e2 o2 s2 h2 X2 hs2 k1 z1 cm1 wr2;refine wpM_seq (bt ?_);refine eG λτ=>?_;by_cases gw:vg-mm<0
 ·have h3:S.At i (aS (false,265)) w2:=by simpa[gw]using H2.out
  refine aH (t:=true) (by simp[Act.eval,gw]) ?_;simp only[if_true];refine eG λτ=>?_;refine bn ?_;exact⟨rfl,.tuple #[.bool false,.int .i64 265],gU,(false,265),rfl,h3,kX.out,trivial⟩
 ·refine aH (t:=false) (by simp[Act.eval,gw]) ?_;simp only[dS,if_false];by_cases Ai:vh+mm<=1048575
  ·have hl:gS (vh+mm)=true:=(by have:=Wg.out;have:=Wh.out;have:=UO.out;simp[gS];omega);have h3:S.At i ((doesP F S.num [⟨a0,h,vh+mm⟩,⟨a1,g,vg-mm⟩]).bind aS) w2:=(by simpa[gw,hl]using H2.out);have aaj:=ai gw;have EJ:=ai Ai;clear gw Ai hl;refine wpM_seq (l3 hcs (λτ=>?_));go_wp2_with (first|(go_at_call 38;refine(lI (vh+mm) _ (by have:=Wg.out;have:=Wh.out;have:=UO.out;omega) EJ.out).mono ?_;rintro e w' ⟨rfl,rfl⟩))
   refine qK ?_;refine Bl ?_;simp only[Exit.inBlock,Exit.then];have hd:=px S hn (s:=L) (o:=0) (cap:=2) (es:=[⟨a0,h,vh+mm⟩,⟨a1,g,vg-mm⟩]) h3 (by rw[Fa.out];exact yx) (Tr E2.out) (λe=>nf2 (.inl e)) (by rw[Fa.out];exact aah) (λe he=>by
    have:=Wg.out;have:=Wh.out;have:=UO.out;have:=aaj.out;have:=EJ.out;simp at he;rcases he with rfl|rfl
    ·exact⟨ha.1,Hbh.out.1,Hbh.out.2,by show 0<=vh+mm;omega,by show vh+mm<=_;omega⟩
    ·exact⟨ha.2,Hbg.out.1,Hbg.out.2,by show 0<=vg-mm;omega,by show vg-mm<=_;omega⟩) au
   have Hd:=ai hd;clear hd h3;refine nQ ?_;iterate 3
    refine eU ?_
   refine aM (args:=#[.pointer (some ⟨b,0,none⟩),.pointer S.wv,.slice (some ⟨L,0,none⟩) 2 2]) rfl rfl rfl func47 rfl rfl cC (λb k fs h1 h2=>S.upush _ _ rfl rfl ⟨f44,by show prog.funcs[b.fn]? =_;rw[h1];exact func44⟩ h2) (Hd.out) ?_;rintro i3 r3 w3 ⟨ok,er,rfl,h3,K3⟩;walk_nrm;iterate 4
    refine eU ?_
   refine on ?_;refine bn ?_;exact⟨rfl,.tuple #[.bool ok,.int .i64 er],gU,(ok,er),rfl,h3,kX.out.step K3,trivial⟩
  ·have hl:gS (vh+mm)=false:=(by simp[gS];omega);have h3:S.At i (aS (false,263)) w2:=(by simpa[gw,hl]using H2.out);have EJ:=ai Ai;clear gw Ai hl;refine wpM_seq (l3 hcs (λτ=>?_));go_wp2_with (first|(go_at_call 38;refine(rE (vh+mm) _ (.inr (by have:=EJ.out;omega))).mono ?_;rintro e w' ⟨rfl,rfl⟩))
   refine qK ?_;refine ctx ?_;refine eG λτ=>?_;refine bn ?_;exact⟨rfl,.tuple #[.bool false,.int .i64 263],gU,(false,263),rfl,h3,kX.out,trivial⟩
end
section
variable{n:Nat}{main:Bool}{Stop:ι->Frame->List Frame->World->Prop}
variable{S:jY α (bA F b c lo n) main cs Jm Stop}{w:World}{x r to:Nat}
structure aak(S:jY α (bA F b c lo n) main cs Jm Stop)(w0:World)(f t x r m fr to:Nat)(mm:Int)(L a0 a1:Nat)(aS:List Int->Pr JS α)(j:Nat)(i':ι)(a':Act)(w':World):Prop where
 ex:∃hs,j=2-hs.length/\hs.length<=2/\Ch f t x r m L hs.length a'/\S.At i' ((eZ F ([a0,a1].drop hs.length)).bind λhs'=>aS (hs++hs')) w'/\oM S w0 f t x r m fr to mm L a0 a1 hs w'
theorem LH{K:List Int->Pr JS α}:((eZ F []).bind λhs'=>K (hs++hs'))=K hs:=by simp[eZ,Pr.bind]
theorem yg{K:List Int->Pr JS α}{l:List Nat}:((eZ F (k::l)).bind λhs'=>K (hs++hs'))=(gh F F k).bind λh=>(eZ F l).bind λhs'=>K ((hs++[h]) ++hs'):=by simp only[eZ,Pr.bind_assoc,Pr.bind,uH,jc,kR]
theorem LI(S:jY α (bA F b c lo n) main cs Jm Stop)(hn:n<=64)(w0:World)(f t x r m fr to:Nat)(mm:Int)(sI:fr<n)(hto:to<n)(hne:fr≠to)(XT:0<=mm/\mm<=1048575):
  CloSpec S 44 #[.pointer (some ⟨f,0,none⟩),.pointer (some ⟨t,0,none⟩),.pointer (some ⟨x,0,none⟩),.pointer (some ⟨r,0,none⟩),.pointer (some ⟨m,0,none⟩)] (mq F S.num (min fr to) (max fr to) (decide (to<fr)) mm) id (λ_ _=>True) (ru S w0 f t x r m fr to mm):=by
 intro i w aS X h;rw[LG]at h;have hcs:=S.hcs;obtain⟨i0,p0,h0⟩:=X.at0;obtain⟨cf,ct,cx,cr,cm⟩:=X.cells;refine aX func44 rfl ?_;simp only[f44,bJ];walk_nrm;iterate 2
  refine eG λτ=>?_
 generalize fE:World.alloc _ _=w1;have hL1:w1.heap[w.heap.size]? =some (.cells (pB (min fr to) (max fr to) []) 121 (0,0)):=by subst fE;simp only[←cG,cF];rw[if_pos trivial];have e1:min (fr:Int) (to:Int)=((min fr to:Nat):Int):=ae;have e2:max (fr:Int) (to:Int)=((max fr to:Nat):Int):=ae;rw[e1,e2];rfl
 have ho1:∀y,y<w.heap.size->w1.heap[y]? =w.heap[y]? :=λy hy=>by subst fE;simp only[←cG,cF];rw[if_neg ae]
 have hs1:w1.heap.size=w.heap.size+1:=by subst fE;simp
 clear fE;obtain⟨h1,K1,uk⟩:=S.fresh _ _ _ _ _ _ w1 h0 h X.keep ae (λy hy hne=>absurd (ho1 y hy) hne);have yx:lo<=w1.heap.size:=by have:=X.lo;have:=S.size _ _ K1;omega
 have X1:oM S w0 f t x r m fr to mm w.heap.size (min fr to) (max fr to) [] w1:=by
  obtain⟨g1,g2,g3,g4,g5⟩:=X.ge;obtain⟨n1,n2,n3,n4,n5⟩:=X.nf;obtain⟨e1,q1⟩:=X.hf;obtain⟨e2,q2⟩:=X.ht;obtain⟨e3,q3⟩:=X.hx;obtain⟨e4,q4⟩:=X.hr;obtain⟨e5,q5⟩:=X.hm;have l1:=(aQ.1 q1).1;have l2:=(aQ.1 q2).1;have l3:=(aQ.1 q3).1;have l4:=(aQ.1 q4).1;have l5:=(aQ.1 q5).1;refine⟨⟨⟨i0,p0,h0⟩,X.lo,K1,X.ge,⟨e1,by rw[ho1 _ l1];exact q1⟩,⟨e2,by rw[ho1 _ l2];exact q2⟩,⟨e3,by rw[ho1 _ l3];exact q3⟩,⟨e4,by rw[ho1 _ l4];exact q4⟩,⟨e5,by rw[ho1 _ l5];exact q5⟩,?_⟩,⟨ae,l1,l2,l3,l4,l5⟩,hL1,λhf=>?_,λy hy=>(by cases hy)⟩
  ·exact⟨λhf=>n1 ((uk _).1 hf),λhf=>n2 ((uk _).1 hf),λhf=>n3 ((uk _).1 hf),λhf=>n4 ((uk _).1 hf),λhf=>n5 ((uk _).1 hf)⟩
  ·have:=S.foot _ _ _ _ h ((uk _).1 hf);omega
 have H1:=ai h1;have HX:=ai X1;have afV:=ai yx;have UO:=ai XT;have Hfr:=ai sI;have Hto:=ai hto;have Hne:=ai hne;clear h1 X1 yx h X hL1 ho1 hs1 K1 uk cf ct cx cr cm h0 XT sI hto hne;generalize w.heap.size=L at*;refine xe λτ=>?_;refine bt (fZ (aak S w0 f t x r m fr to mm L (min fr to) (max fr to) (Df F S.num (min fr to) (max fr to) (decide (to<fr)) mm aS)) (n:=2) ⟨[],rfl,au,Ch.mk ..,H1.out,HX.out⟩ ?_);rintro j i2 a2 w2 ⟨hs,rfl,hle,hA,h2,X2⟩;match hs,hle with
 |[],_=>rw[fS,List.drop_zero,yg]at h2;have hr:=λ{Q}=>mv_round0 (Q:=Q) hn (ak:=min fr to) (a0:=min fr to) (a1:=max fr to) (hs:=[]) rfl (by have:=Hfr.out;omega) rfl hA X2 h2;simp only[nJ,rq,j5,f44,Code.l,Code.r,bJ]at hr;refine hr λi' a' w' v hA' X' h'=>?_;exact⟨1,au,[v],rfl,au,hA',h',X'⟩
 |[h0],_=>rw[List.length_singleton,List.drop_succ_cons,List.drop_zero,yg]at h2;have hr:=λ{Q}=>mv_round1 (Q:=Q) hn (ak:=max fr to) (a0:=min fr to) (a1:=max fr to) (hs:=[h0]) rfl (by have:=Hfr.out;have:=Hto.out;omega) rfl hA X2 h2;simp only[nJ,rq,j5,f44,Code.l,Code.r,bJ]at hr;refine hr λi' a' w' v hA' X' h'=>?_;exact⟨0,au,[h0,v],rfl,au,hA',h',X'⟩
 |[h,g],_=>
  have h2:S.At i2 ((eZ F []).bind λhs'=>Df F S.num (min fr to) (max fr to) (decide (to<fr)) mm aS ([h,g] ++hs')) w2:=h2;rw[LH]at h2;have XU:lo<=w2.heap.size:=by have:=X2.box.lo;have:=S.size _ _ X2.box.keep;omega
  have acJ:w2.heap[L]? =some (.cells #[.int .i64 (min fr to:Nat),.int .i64 h,.int .i64 (aU h),.int .i64 (max fr to:Nat),.int .i64 g,.int .i64 (aU g)] 121 (0,0)):=X2.ent;have ca:=cO acJ 0;obtain⟨cf,_⟩:=X2.box.cells;have kX:=ai X2;have H2:=ai h2;have Qy:=ai XU;clear X2 h2 XU acJ H1 HX;have hA:Ch f t x r m L 2 a2:=hA;cases hA;refine eG λτ=>?_;refine wpM_seq (aH (t:=false) cC (fY ?_));simp only[Exit.then,Exit.inBlock,if_true];refine wpM_seq (gi jJ 5 95 [5] rfl ax (λt=>oG) ax rfl ?_);simp only[oH,oI];iterate 5
   refine ov ?_
  refine iH ?_;refine eU ?_;refine on ?_;refine wpM_seq ?_;obtain⟨hi2,e2,hs2⟩:∃hi,hi=max fr to/\True:=⟨_,rfl,trivial⟩;by_cases hsw:to<fr
  ·have ea:min fr to=to:=ae;have eb:max fr to=fr:=ae;have hfv:((to:Int) !=(fr:Int))=true:=bV;have H3:=H2.out;unfold Df at H3;simp only[List.getD_cons_zero,List.getD_cons_succ,hsw,decide_true,if_true]at H3;have IU:=kX.out;rw[ea]at ca IU H3;rw[eb]at IU H3;have ht:=λa hA=>mv_tail3 (S:=S) (w0:=w0) (w:=w2) (f:=f) (t:=t) (x:=x) (r:=r) (m:=m) (fr:=fr) (to:=to) (mm:=mm) hn (i:=i2) (a:=a) (L:=L) (a0:=to) (a1:=fr) (h:=h) (g:=g) ⟨Hto.out,Hfr.out⟩ Qy.out hA IU UO.out (aS:=aS) H3;simp only[xl,j5,f44,Code.l,Code.r,bJ]at ht;have Ht:=ai ht;clear H3 ht H2 hsw IU kX ea eb e2 hs2;refine wpM_seq (gi jJ 5 95 [5] rfl ax (λt=>oG) ax rfl ?_);simp only[oH,oI];iterate 5
    refine ov ?_
   refine iH ?_;refine eU ?_;refine on ?_;refine aH (t:=true) (by simp[Act.eval,hfv]) ?_;simp only[if_true];refine l3 hcs (λτ=>?_);go_wp2;refine qK ?_;exact Ht.out _ (Ic.mk ..)
  ·have ea:min fr to=fr:=ae;have eb:max fr to=to:=ae;have hfv:((fr:Int) !=(fr:Int))=false:=au;have H3:=H2.out;unfold Df at H3;simp only[List.getD_cons_zero,List.getD_cons_succ,hsw,decide_false,dS,if_false]at H3;have IU:=kX.out;rw[ea]at ca IU H3;rw[eb]at IU H3;have ht:=λa hA=>mv_tail0 (S:=S) (w0:=w0) (w:=w2) (f:=f) (t:=t) (x:=x) (r:=r) (m:=m) (fr:=fr) (to:=to) (mm:=mm) hn (i:=i2) (a:=a) (L:=L) (a0:=fr) (a1:=to) (h:=h) (g:=g) ⟨Hfr.out,Hto.out⟩ Qy.out hA IU UO.out (aS:=aS) H3;simp only[xl,j5,f44,Code.l,Code.r,bJ]at ht;have Ht:=ai ht;clear H3 ht H2 hsw IU kX ea eb e2 hs2;refine wpM_seq (gi jJ 5 95 [5] rfl ax (λt=>oG) ax rfl ?_);simp only[oH,oI];iterate 5
    refine ov ?_
   refine iH ?_;refine eU ?_;refine on ?_;refine aH (t:=false) (by simp[Act.eval,hfv]) (dm ?_);simp only[Exit.then];exact Ht.out _ (Ic.mk ..)
end
theorem Ts{w:World}{o3 o4 o5:Obj}(h:((((w.alloc o1).alloc o2).alloc o3).alloc o4).alloc o5=w1):w1.heap.size=w.heap.size+5/\(∀b,b<w.heap.size->w1.heap[b]? =w.heap[b]?)/\w1.heap[w.heap.size]? =some o1/\w1.heap[w.heap.size+1]? =some o2/\w1.heap[w.heap.size+1+1]? =some o3/\w1.heap[w.heap.size+1+1+1]? =some o4/\w1.heap[w.heap.size+1+1+1+1]? =some o5:=by
 subst h;refine⟨au,λb hb=>?_,?_,?_,?_,?_,?_⟩ <;>simp only[←cG,cF,fV]
 ·rw[if_neg ae,if_neg ae,if_neg ae,if_neg ae,if_neg ae]
 ·rw[if_neg ae,if_neg ae,if_neg ae,if_neg ae,if_pos trivial]
 ·rw[if_neg ae,if_neg ae,if_neg ae,if_pos trivial]
 ·exact NT
 ·rw[if_neg ae,if_pos trivial]
 ·rw[if_pos trivial]
section
variable{n:Nat}{main:Bool}{Stop:ι->Frame->List Frame->World->Prop}{w:World}
theorem move_any'(S:jY α (bA F b c lo n) main cs Jm Stop)(hn:1<=n/\n<=64){f t m:Int}(h:S.At i ((vw F S.num n f t m).bind aS) w)(hlo:lo<=w.heap.size):
  CallsM prog main cs Jm Stop S.U i 19 #[.pointer (some ⟨b,0,none⟩),.pointer S.wv,.int .i64 f,.int .i64 t,.int .i64 m] w (S.Z4 aS w):=by
 unfold vw at h;have hcs:=S.hcs;refine aX func19 rfl ?_;simp only[f19,bJ];walk_nrm;iterate 2
  refine eG λτ=>?_
 generalize fE:World.alloc _ _=w1;obtain⟨a1,a2,a3,a4,a5,a6,a7⟩:=Ts fE;clear fE;obtain⟨h1,K1,uk⟩:=S.fresh _ _ _ _ _ _ w1 h h (S.refl w) ae (λy hy hne=>absurd (a2 y hy) hne);have mE:∀g,w.heap.size<=g->¬bL b c w1 g:=λg hg hf=>by have:=S.foot _ _ _ _ h ((uk g).1 hf);omega
 obtain⟨s1,gQ⟩:=S.rep _ _ _ h1;have hdr:=JRep.hdr gQ;have c1:=cO a3 0;have c2:=cO a4 0;have c3:=cO a5 0;have c4:=cO a6 0;have c5:=cO a7 0;have A3:=ai a3;have A4:=ai a4;have A5:=ai a5;have A6:=ai a6;have A7:=ai a7;have H0:=ai h;have HF1:=ai mE;have HK1:=ai K1;have r9:∀τ,(w1.tp τ).cell? ⟨b,0,none⟩=some (.slice (some ⟨c,0,none⟩) n n):=λ_=>hdr;have Hd:=ai r9;clear a3 a4 a5 a6 a7 gQ uk K1 h mE a1 a2 r9;by_cases hf:0<=f/\f<n
 ·by_cases ht:0<=t/\t<n
  ·by_cases hne:f=t
   ·subst hne;have Hf:=ai hf;have h3:S.At i (.line (aS (false,262))) w1:=(by rw[if_pos (.inr (.inr rfl))]at h1;exact h1);have H3:=ai h3;clear h3 h1 hf ht;refine wpM_seq (l3 hcs (λτ=>?_));go_wp2_with (first|(go_at_call 41;((with_reducible refine(np b c n f (w1.tp τ) (Hd.out τ) Hf.out.1 Hf.out.2).mono ?_);rintro e w' ⟨rfl,rfl⟩)))
    refine qK ?_;refine xe λτ=>?_;refine ctx ?_;refine nQ ?_;refine eU ?_;refine aM (args:=#[.pointer S.wv]) rfl rfl rfl func42 rfl rfl cC (λb k fs h1 h2=>S.upush _ _ rfl rfl ⟨f19,by show prog.funcs[b.fn]? =_;rw[h1];exact func19⟩ h2) (S.step _ _ _ H3.out) ?_;rintro i2 r w2 ⟨rfl,h2,K2⟩;walk_nrm;refine on ?_;refine eG λτ=>?_;refine bn ?_;exact⟨rfl,.tuple #[.bool false,.int .i64 262],gU,false,262,rfl,h2,S.trans _ _ _ HK1.out K2⟩
   ·have hnb:(f==t)=false:=(by simpa using hne);have acK:¬((¬(0<=f/\f<n))\/(¬(0<=t/\t<n))\/f=t):=λh=>(by rcases h with h|h|h<;>omega);rw[if_neg acK]at h1;clear acK;by_cases hm:0<=m/\m<=1048575
    ·obtain⟨fr,rfl⟩:∃k:Nat,f=k:=⟨f.toNat,ae⟩;obtain⟨to,rfl⟩:∃k:Nat,t=k:=⟨t.toNat,ae⟩;have hl:¬gS m=false:=(by simp[gS];omega);rw[if_neg hl]at h1;clear hl;have e1:(min (fr:Int) (to:Int)).toNat=min fr to:=ae;have e2:(max (fr:Int) (to:Int)).toNat=max fr to:=ae;have e3:decide ((to:Int) < (fr:Int))=decide (to<fr):=au;rw[e1,e2,e3]at h1;clear e1 e2 e3;have Hf:=ai hf;have Ht:=ai ht;have Hne:=ai hne;have Hm:=ai hm;have X1:ru S w (w.heap.size+1+1) (w.heap.size+1+1+1) w.heap.size (w.heap.size+1) (w.heap.size+1+1+1+1) fr to m w1:=⟨⟨_,_,H0.out⟩,hlo,HK1.out,ae,⟨_,A5.out⟩,⟨_,A6.out⟩,⟨_,A3.out⟩,⟨_,A4.out⟩,⟨_,A7.out⟩,HF1.out _ ae,HF1.out _ ae,HF1.out _ ae,HF1.out _ ae,HF1.out _ ae⟩;have Wo:=ai X1;have H1:=ai h1;clear hf ht hne hm h1 X1;refine wpM_seq (l3 hcs (λτ=>?_));go_wp2_with (first|(go_at_call 41;((with_reducible refine(np b c n fr (w1.tp τ) (Hd.out τ) Hf.out.1 Hf.out.2).mono ?_);rintro e w' ⟨rfl,rfl⟩))|(go_at_call 41;((with_reducible refine(np b c n to (w1.tp τ) (Hd.out τ) Ht.out.1 Ht.out.2).mono ?_);rintro e w' ⟨rfl,rfl⟩))|(go_at_call 38;((with_reducible refine(lI m (w1.tp τ) Hm.out.1 Hm.out.2).mono ?_);rintro e w' ⟨rfl,rfl⟩)))
     refine qK ?_;refine xe λτ=>?_;refine Bl ?_;try simp only[Exit.then]
     refine nQ ?_;refine eU ?_;refine aM (args:=#[.func (.func 44) #[] #[.pointer (some ⟨w.heap.size+1+1,0,none⟩),.pointer (some ⟨w.heap.size+1+1+1,0,none⟩),.pointer (some ⟨w.heap.size,0,none⟩),.pointer (some ⟨w.heap.size+1,0,none⟩),.pointer (some ⟨w.heap.size+1+1+1+1,0,none⟩)]]) rfl rfl rfl func43 rfl rfl cC (λb k fs h1 h2=>S.upush _ _ rfl rfl ⟨f19,by show prog.funcs[b.fn]? =_;rw[h1];exact func19⟩ h2) (ud S func44 rfl rfl (LI S hn.2 w _ _ _ _ _ fr to m (by have:=Hf.out;omega) (by have:=Ht.out;omega) (λe=>Hne.out (by rw[e])) Hm.out) Wo.out H1.out) ?_;rintro i2 r2 w2 ⟨⟨ok,er⟩,rfl,h2,X2,-⟩;have H2:=ai h2;have kX:=ai X2;clear h2 X2;walk_nrm;iterate 4
      refine eU ?_
     refine on ?_;refine bn ?_;exact⟨rfl,.tuple #[.bool ok,.int .i64 er],gU,ok,er,rfl,H2.out,kX.out.keep⟩
    ·have hl:gS m=false:=(by simp[gS];omega);have Hf:=ai hf;have Ht:=ai ht;have Hm:=ai hm;have h3:S.At i (.line (aS (false,263))) w1:=(by rw[if_pos hl]at h1;exact h1);have H3:=ai h3;clear h3 h1 hf ht hm hne;refine wpM_seq (l3 hcs (λτ=>?_));go_wp2_with (first|(go_at_call 41;((with_reducible refine(np b c n f (w1.tp τ) (Hd.out τ) Hf.out.1 Hf.out.2).mono ?_);rintro e w' ⟨rfl,rfl⟩))|(go_at_call 41;((with_reducible refine(np b c n t (w1.tp τ) (Hd.out τ) Ht.out.1 Ht.out.2).mono ?_);rintro e w' ⟨rfl,rfl⟩))|(go_at_call 38;((with_reducible refine(rE m (w1.tp τ) (by have:=Hm.out;omega)).mono ?_);rintro e w' ⟨rfl,rfl⟩)))
     refine qK ?_;refine xe λτ=>?_;refine ctx ?_;refine nQ ?_;refine eU ?_;refine aM (args:=#[.pointer S.wv]) rfl rfl rfl func42 rfl rfl cC (λb k fs h1 h2=>S.upush _ _ rfl rfl ⟨f19,by show prog.funcs[b.fn]? =_;rw[h1];exact func19⟩ h2) (S.step _ _ _ H3.out) ?_;rintro i2 r w2 ⟨rfl,h2,K2⟩;walk_nrm;refine on ?_;refine eG λτ=>?_;refine bn ?_;exact⟨rfl,.tuple #[.bool false,.int .i64 263],gU,false,263,rfl,h2,S.trans _ _ _ HK1.out K2⟩
  ·have Ht:=ai ht;have Hf:=ai hf;have h3:S.At i (.line (aS (false,262))) w1:=(by rw[if_pos (.inr (.inl ht))]at h1;exact h1);have H3:=ai h3;clear h3 h1 hf ht;refine wpM_seq (l3 hcs (λτ=>?_));go_wp2_with (first|(go_at_call 41;((with_reducible refine(np b c n f (w1.tp τ) (Hd.out τ) Hf.out.1 Hf.out.2).mono ?_);rintro e w' ⟨rfl,rfl⟩))|(go_at_call 41;((with_reducible refine(yF b c n t (w1.tp τ) (Hd.out τ) Ht.out).mono ?_);rintro e w' ⟨rfl,rfl⟩)))
   refine qK ?_;refine xe λτ=>?_;refine ctx ?_;refine nQ ?_;refine eU ?_;refine aM (args:=#[.pointer S.wv]) rfl rfl rfl func42 rfl rfl cC (λb k fs h1 h2=>S.upush _ _ rfl rfl ⟨f19,by show prog.funcs[b.fn]? =_;rw[h1];exact func19⟩ h2) (S.step _ _ _ H3.out) ?_;rintro i2 r w2 ⟨rfl,h2,K2⟩;walk_nrm;refine on ?_;refine eG λτ=>?_;refine bn ?_;exact⟨rfl,.tuple #[.bool false,.int .i64 262],gU,false,262,rfl,h2,S.trans _ _ _ HK1.out K2⟩
 ·have Hf:=ai hf
  skip
  have h3:S.At i (.line (aS (false,262))) w1:=by rw[if_pos (.inl hf)]at h1;exact h1
  have H3:=ai h3;clear h3 h1 hf;refine wpM_seq (l3 hcs (λτ=>?_));go_wp2_with (first|(go_at_call 41;((with_reducible refine(yF b c n f (w1.tp τ) (Hd.out τ) Hf.out).mono ?_);rintro e w' ⟨rfl,rfl⟩)))
  refine qK ?_;refine xe λτ=>?_;refine ctx ?_;refine nQ ?_;refine eU ?_;refine aM (args:=#[.pointer S.wv]) rfl rfl rfl func42 rfl rfl cC (λb k fs h1 h2=>S.upush _ _ rfl rfl ⟨f19,by show prog.funcs[b.fn]? =_;rw[h1];exact func19⟩ h2) (S.step _ _ _ H3.out) ?_;rintro i2 r w2 ⟨rfl,h2,K2⟩;walk_nrm;refine on ?_;refine eG λτ=>?_;refine bn ?_;exact⟨rfl,.tuple #[.bool false,.int .i64 262],gU,false,262,rfl,h2,S.trans _ _ _ HK1.out K2⟩
end
end
section
open Go Go.Conc Go.ConcN Go.RowKit
variable[Inhabited bO]
theorem okN(F b c lo n:Nat):(bA F b c lo n).Ok λ_=>none:=xd rfl rfl λ_ _=>rfl
section
variable{n:Nat}{main:Bool}{Stop:ι->Frame->List Frame->World->Prop}{w:World}{s1:JS}
noncomputable abbrev Tt (F b c lo n:Nat)(main:Bool)(cs:List Frame)(Jm:dA ι)(Stop:ι->Frame->List Frame->World->Prop)(i:ι)(x:α)(s1:JS):jY α (bA F b c lo n) main cs Jm Stop:=aej (bA F b c lo n) (okN F b c lo n) Jm Stop i x s1
theorem at_of{p:Pr JS α}{x:α}(R:JRep b c lo n s w)(h:p.alone s=some (x,s1)):(Tt F b c lo n main cs Jm Stop i x s1).At i (p.bind .ret) w:=by rw[Pr.Sc];exact⟨rfl,s,R,h⟩
theorem at_end{x y:α}{i':ι}(h:(Tt F b c lo n main cs Jm Stop i x s1).At i' (.ret y) w):i'=i/\y=x/\JRep b c lo n s1 w:=by obtain⟨h1,s',h2,h3⟩:=h;have h4:some (y,s')=some (x,s1):=h3;cases h4;exact⟨h1,rfl,h2⟩
def Wu(F b c lo n:Nat)(i:ι)(v:Value)(s1:JS)(w:World)(i':ι)(v':Value)(w':World):Prop:=i'=i/\v'=v/\JRep b c lo n s1 w'/\xZ (bA F b c lo n) w w'
theorem XV(hn:1<=n/\n<=64){f t m:Int}(R:JRep b c lo n s w)(hlo:lo<=w.heap.size)(h:(vw F 0 n f t m).alone s=some ((ok,er),s1)):
  CallsM prog main cs Jm Stop (λ_=>True) i 19 #[.pointer (some ⟨b,0,none⟩),.pointer none,.int .i64 f,.int .i64 t,.int .i64 m] w (Wu F b c lo n i (.tuple #[.bool ok,.int .i64 er]) s1 w):=
 (move_any' (Tt F b c lo n main cs Jm Stop i (ok,er) s1) hn (at_of R h) hlo).mono λi' v w' ⟨ok',er',h1,h2,h3⟩=>by obtain⟨a1,a2,a3⟩:=at_end h2;cases a2;exact⟨a1,h1,a3,h3⟩
theorem acL(hn:n<=64){c0 v e:Int}(R:JRep b c lo n s w)(h:(pT F n c0).alone s=some ((v,e),s1)):
  CallsM prog main cs Jm Stop (λ_=>True) i 22 #[.pointer (some ⟨b,0,none⟩),.pointer none,.int .i64 c0] w (Wu F b c lo n i (.tuple #[.int .i64 v,.int .i64 e]) s1 w):=
 (read_any' (Tt F b c lo n main cs Jm Stop i (v,e) s1) hn (at_of R h)).mono λi' x w' ⟨v',e',h1,h2,h3⟩=>by obtain⟨a1,a2,a3⟩:=at_end h2;cases a2;exact⟨a1,h1,a3,h3⟩
theorem acM(hn:1<=n/\n<=64){l:List Int}{e:Int}(R:JRep b c lo n s w)(hlo:lo<=w.heap.size)(h:(sR F 0 n).alone s=some ((l,e),s1)):
  CallsM prog main cs Jm Stop (λ_=>True) i 20 #[.pointer (some ⟨b,0,none⟩),.pointer none] w λi' v w'=>∃iv,v=.tuple #[iv,.int .i64 e]/\Wu F b c lo n i v s1 w i' v w'/\rp b c w.heap.size iv l w':=
 (look_any' (Tt F b c lo n main cs Jm Stop i (l,e) s1) hn (at_of R h) hlo).mono λi' v w' ⟨iv,e',l',h1,h2,h3,h4⟩=>by obtain⟨a1,a2,a3⟩:=at_end h2;cases a2;exact⟨iv,h1,⟨a1,rfl,a3,h3⟩,h4⟩
theorem Ni(hn:1<=n/\n<=64){es:List bR}{x o cap:Nat}(h1e:1<=es.length/\es.length<=64)(hso:AD es.length)(he:dC x o es w)(hx:x<w.heap.size)(R:JRep b c lo n s w)(hlo:lo<=w.heap.size)(h:∀es':List bR,es'.Perm es->jr es' 0 es.length->(m9 F 0 n es').alone s=some ((ok,er),s1)):
  CallsM prog main cs Jm Stop (λ_=>True) i 21 #[.pointer (some ⟨b,0,none⟩),.pointer none,.slice (some ⟨x,o,none⟩) es.length cap] w (Wu F b c lo n i (.tuple #[.bool ok,.int .i64 er]) s1 w):=
 (change_any' (Tt F b c lo n main cs Jm Stop i (ok,er) s1) hn h1e hso he hx (λes' h1 h2=>at_of R (h es' h1 h2)) hlo).mono λi' v w' ⟨ok',er',h1,h2,h3⟩=>by obtain⟨a1,a2,a3⟩:=at_end h2;cases a2;exact⟨a1,h1,a3,h3⟩
end
def XW(p:oF α)(s:JS):JS:=match p.alone s with
 |some (_,s')=>s'
 |none=>s
theorem oN{p:oF α}{x:α}(h:(p.alone s).map Prod.fst=some x):p.alone s=some (x,XW p s):=by
 unfold XW;cases e:p.alone s with
 |none=>rw[e]at h;cases h
 |some r=>rw[e]at h;obtain⟨a,s'⟩:=r;simp only[kS,cu]at h;rw[h]
def kn1:oF (Bool×Int):=vw 10 0 2 0 1 2
def kn2:oF (List Int×Int):=sR 10 0 2
def kn3:oF (Bool×Int):=againG id (pA 10 0 [] [⟨0,3,1⟩,⟨1,9,1⟩]) 10
def kn4:oF (Bool×Int):=againG id (pA 10 0 [] [⟨0,3,4⟩]) 10
def kn5:oF (Int×Int):=pT 10 2 1
def ks0:JS:=AJ [5,7]
def ks1:JS:=XW kn1 ks0
def ks2:JS:=XW kn2 ks1
def ks3:JS:=XW kn3 ks2
def ks4:JS:=XW kn4 ks3
def ks5:JS:=XW kn5 ks4
def ks6:JS:=XW kn1 ks5
theorem aal:kn1.alone ks0=some ((true,0),ks1):=oN ax
theorem aam:kn2.alone ks1=some (([3,9],0),ks2):=oN ax
theorem aan:kn3.alone ks2=some ((true,0),ks3):=oN ax
theorem aao:kn4.alone ks3=some ((false,264),ks4):=oN ax
theorem aap:kn5.alone ks4=some ((1,0),ks5):=oN ax
theorem aaq:kn1.alone ks5=some ((false,265),ks6):=oN ax
theorem Px:j4 2 [⟨0,3,1⟩,⟨1,9,1⟩]=0:=by
 unfold j4;rw[if_pos,if_pos]
 ·intro k hk;match k,hk with
  |0,_=>exact⟨⟨az,az⟩,az,az⟩
  |1,_=>exact⟨⟨az,az⟩,az,az⟩
 ·intro k hk;match k,hk with
  |0,_=>exact⟨az,az,λm hm=>ae⟩
  |1,_=>refine⟨az,az,λm hm=>?_⟩;obtain rfl:m=0:=ae;decide
theorem Py:j4 2 [⟨0,3,4⟩]=0:=by
 unfold j4;rw[if_pos,if_pos]
 ·intro k hk;match k,hk with
  |0,_=>exact⟨⟨az,az⟩,az,az⟩
 ·intro k hk;match k,hk with
  |0,_=>exact⟨az,az,λm hm=>ae⟩
theorem Wv:∀es':List bR,es'.Perm [⟨0,3,1⟩,⟨1,9,1⟩]->jr es' 0 2->(m9 10 0 2 es').alone ks2=some ((true,0),ks3):=by
 intro es' hp hs;have h2:es'=[⟨0,3,1⟩,⟨1,9,1⟩]:=by
  have hl:=hp.length_eq;match es',hl with
  |[x,y],_=>
   have hx:x∈([⟨0,3,1⟩,⟨1,9,1⟩]:List bR):=hp.subset au;have hk:x.c<=y.c:=hs 0 1 ae ae ae;rcases dM.1 hx with rfl|hx
   ·have:=List.Perm.cons_inv hp;rw[List.perm_singleton]at this;rw[this]
   ·obtain rfl:x=⟨1,9,1⟩:=(by simpa using hx);have:=List.Perm.cons_inv (hp.trans (List.Perm.swap _ _ _));rw[List.perm_singleton]at this;have:y=⟨0,3,1⟩:=(by simpa using this);subst this;exact absurd hk az
 subst h2;rw[m9,Px];exact aan
theorem Ww:∀es':List bR,es'.Perm [⟨0,3,4⟩]->jr es' 0 1->(m9 10 0 2 es').alone ks3=some ((false,264),ks4):=by intro es' hp _;rw[List.perm_singleton]at hp;subst hp;rw[m9,Py];exact aao
end
section
open Go Go.Conc Go.ConcN Go.RowKit
attribute [local go_sem] aF aG aT aD aO aW aA aB dE cB dF a8
variable[Inhabited bO]
theorem XX(w:World)(x y:Int)(t:TypeId)(n:Nat)(hn:n=w.heap.size):ij n 0 [x,y] (w.alloc (.cells #[.int .i64 x,.int .i64 y] t)):=by
 subst hn;intro i hi;rw[y6];match i,hi with
 |0,_=>rfl
 |1,_=>rfl
theorem XY(w:World)(es:List bR)(cs:Array Value)(t:TypeId)(n:Nat)(hn:n=w.heap.size)(hc:cs.toList=iz es):dC n 0 es (w.alloc (.cells cs t)):=by subst hn;intro k hk;obtain⟨a,b,c⟩:=Ay es k hk;rw[←hc]at a b c;rw[y6,y6,y6];simp only[cM];rw[Array.getElem?_toList]at a b c;exact⟨a,b,c⟩
theorem ints_yes(s o cap t p cap':Nat)(l:List Int)(w:World)(h1:ij s o l w)(h2:ij t p l w)(hs:s<w.heap.size)(ht:t<w.heap.size)(hl:l.length<=1000):
  Calls prog 12 #[.slice (some ⟨s,o,none⟩) l.length cap,.slice (some ⟨t,p,none⟩) l.length cap'] w λe w'=>e=.returned (.bool true)/\Below w.heap.size w w':=by
 have H1:=ai h1;have H2:=ai h2;clear h1 h2;go_enter func12,ntmps12
 go_wp2;go_loopw [5] (λi wr=>∃k:Nat,k<=l.length/\i=.int .i64 k/\Below w.heap.size w wr) (λi _=>l.length- (intOf i).toNat)
 case atStart=>exact⟨0,bj _,rfl,iF _ _⟩
 case round=>
  obtain⟨k,hk,rfl,dx⟩:=hrel;have jq:=ai dx;by_cases hlt:k<l.length
  ·have c0:=(dx.cell (p:=⟨s,o+k,none⟩) hs).trans (H1.out k hlt);have c1:=(dx.cell (p:=⟨t,p+k,none⟩) ht).trans (H2.out k hlt);generalize l.getD k 0=x at c0 c1;clear dx;go_wp2_with fail
   refine wp_region_still_tail 8 ax ax ?_;simp only[oH,oI,List.drop_succ_cons,List.drop_zero];change wpStill _ _ (World.drew _) _ _ _;repeat(first|(refine wpStill_step (λK hK=>?_);go_simp;refine hK _ ?_;clear hK K))
   refine wpStill_nil ?_;change wpList _ _ _ _ _ (World.drew _);go_wp2;go_roundw
   case rel=>exact⟨k+1,ae,gl,jq.out.drew⟩
   case measure=>simp[intOf];omega
  ·have:k=l.length:=ae;subst this;clear dx;go_wp2;go_ret
   exact⟨rfl,jq.out⟩
theorem nK(h:zf.all (λp=>p.1 !=f)=true)(tm:Array Value):pY fq f tm:=by intro t ht;have BD:zf.contains (f,t)=true:=ht;rw[fT]at h;have:=h (f,t) (by simpa using BD);simp at this
section
variable{n:Nat}{w:World}
theorem yV{x:Nat}(R:JRep b c lo n s w)(h:bL b c w x):x<w.heap.size:=by obtain⟨⟨cb,e,hc⟩,_⟩:=(okN 0 b c lo n).foot s w x R h;exact(aQ.1 hc).1
theorem vD(F:Nat)(R:JRep b c lo n s w)(hsz:w.heap.size<=w'.heap.size)(hs:∀y,y<w.heap.size->w'.heap[y]? =w.heap[y]?):JRep b c lo n s w'/\xZ (bA F b c lo n) w w':=by have hf:∀x,(bA F b c lo n).Foot w x->w'.heap[x]? =w.heap[x]? :=λx hx=>hs x (yV R hx);obtain⟨r1,r2⟩:=(okN F b c lo n).rep s w w' R hf;refine⟨r1,hsz,λx o h1 h2=>⟨?_,λh=>h2 ((r2 x).1 h)⟩,(okN F b c lo n).gsame s w w' R hf⟩;rw[hs x (aQ.1 h1).1];exact h1
theorem pC(w:World)(o:Obj):w.heap.size<=(w.alloc o).heap.size/\∀y,y<w.heap.size->(w.alloc o).heap[y]? =w.heap[y]? :=⟨by rw[bI];omega,λy hy=>eh w o _ hy⟩
theorem xZ.trans{L:tR JS}{a b c:World}(h:xZ L a b)(g:xZ L b c):xZ L a c:=⟨cn h.size g.size,λx o h1 h2=>by obtain⟨h3,h4⟩:=h.same x o h1 h2;exact g.same x o h3 h4,L.gtrans _ _ _ h.go g.go⟩
theorem Ie(R:JRep b c lo n (AJ zs) w)(x:Nat)(h:bL b c w x):x=b\/x=c:=by
 rcases h with h|h|⟨d,t,hd,hc,_⟩
 ·exact .inl h
 ·exact .inr h
 ·have:=R.all d hd;simp only[AJ]at this;obtain⟨u,hu,hne⟩:=this;rw[hu]at hc;cases hc;exact absurd rfl (hne t)
end
section
variable{main:Bool}{Stop:ι->Frame->List Frame->World->Prop}{w:World}
theorem LJ:CallsM prog main cs Jm Stop (λ_=>True) i 6 #[] w λi' v w'=>i'=i/\v=.bool true/\w.heap.size<=w'.heap.size/\∀y,y<w.heap.size->w'.heap[y]? =w.heap[y]? :=by
 refine aX func6 rfl ?_;simp only[f6,bJ];walk_nrm;have hcs:=kY;refine eG λτ=>?_;have hnew:∀τ,Calls prog 18 #[.slice (some ⟨w.heap.size,0,none⟩) 2 2] ((w.alloc (.cells #[.int .i64 5,.int .i64 7] 3)).tp τ) (λe w'=>∃b c,e=.returned (.tuple #[.pointer (some ⟨b,0,none⟩),.int .i64 0])/\xg b c (yC [5,7]) w'/\Below ((w.alloc (.cells #[.int .i64 5,.int .i64 7] 3)).tp τ).heap.size ((w.alloc (.cells #[.int .i64 5,.int .i64 7] 3)).tp τ) w'/\((w.alloc (.cells #[.int .i64 5,.int .i64 7] 3)).tp τ).heap.size<=b/\((w.alloc (.cells #[.int .i64 5,.int .i64 7] 3)).tp τ).heap.size<=c):=λτ=>(new_yes w.heap.size 0 2 [5,7] ((w.alloc (.cells #[.int .i64 5,.int .i64 7] 3)).tp τ) (XX w 5 7 _ _ rfl) az az az (show w.heap.size< (w.alloc _).heap.size by rw[bI];omega)).mono λe w' ⟨h1,h2,h3,_⟩=>⟨_,_,h1,h2,h3,ae,aY _⟩;have xk:=ai hnew;clear hnew;refine wpM_seq (wpM_lone pV hcs ax AG (nK ax _) (λτ=>?_));go_wp2_with fail
 refine(xk.out τ).mono ?_;rintro e w1 ⟨b,c,rfl,hblk,dx,hgb,hgc⟩;have wH:∀y,y<w.heap.size->w1.heap[y]? =w.heap[y]? :=λy hy=>by rw[dx.block y (show y< (w.alloc _).heap.size by rw[bI];omega)];exact eh w _ _ hy
 have hgb:(w.alloc (.cells #[.int .i64 5,.int .i64 7] 3)).heap.size<=b:=hgb;have hgc:(w.alloc (.cells #[.int .i64 5,.int .i64 7] 3)).heap.size<=c:=hgc;rw[bI]at hgb hgc;have hb1:=(aQ.1 hblk.bb).1;obtain⟨ec,hcc⟩:=hblk.cc;have hc1:=(aQ.1 hcc).1;have R1:JRep b c w1.heap.size 2 ks0 w1:=Nf (zs:=[5,7]) ⟨az,az⟩ (by
  intro i hi;match i,hi with
  |0,_=>exact⟨az,az⟩
  |1,_=>exact⟨az,az⟩) hblk ⟨hb1,hc1⟩
 have mE:∀y,y<w.heap.size->¬bL b c w1 y:=λy hy hf=>by rcases Ie R1 y hf with h|h<;>omega
 have HS:=ai wH;have HF:=ai mE;have HR1:=ai R1;clear hblk dx hgb hgc hb1 hc1 hcc R1 mE wH xk;go_wp2_with fail
 refine⟨w1,⟨rfl,rfl,rfl⟩,?_⟩;try simp only[Exit.then]
 refine xe λτ=>?_;refine Bl ?_;try simp only[Exit.then]
 refine nQ ?_;refine eU ?_;refine aM (args:=#[.pointer (some ⟨b,0,none⟩),.pointer none,.int .i64 0,.int .i64 1,.int .i64 2]) rfl rfl rfl func19 rfl rfl cC (λ_ _ _ _ _=>trivial) (XV (F:=10) ⟨ae,ae⟩ HR1.out (aY _) aal) ?_;rintro i2 v2 w2 ⟨rfl,rfl,R2,K2⟩;have HR2:=ai R2;have HK2:=ai K2;clear R2 K2;walk_nrm;iterate 5
  refine eU ?_
 refine on ?_;refine nQ ?_;refine eU ?_;refine aM (args:=#[.pointer (some ⟨b,0,none⟩),.pointer none]) rfl rfl rfl func20 rfl rfl cC (λ_ _ _ _ _=>trivial) (acM (F:=10) ⟨ae,ae⟩ HR2.out HK2.out.size aam) ?_;rintro i3 v3 w3 ⟨iv,rfl,⟨rfl,-,R3,K3⟩,ZA,acN⟩;obtain⟨g,acO,aeA,hg2,hg3⟩:=ZA.form az;subst aeA;have HR3:=ai R3;have HK3:=ai (HK2.out.trans K3);have HV:=ai ZA;have HVF:=ai acN;clear R3 K3 ZA acN;walk_nrm;iterate 5
  refine eU ?_
 refine on ?_;have hs3:w1.heap.size<=w3.heap.size:=HK3.out.size;obtain⟨R4,K4⟩:=vD 10 HR3.out (pC w3 (.cells #[.int .i64 0,.int .i64 3,.int .i64 1,.int .i64 1,.int .i64 9,.int .i64 1] 65)).1 (pC w3 _).2;have E4:dC w3.heap.size 0 [⟨0,3,1⟩,⟨1,9,1⟩] (w3.alloc (.cells #[.int .i64 0,.int .i64 3,.int .i64 1,.int .i64 1,.int .i64 9,.int .i64 1] 65)):=XY _ _ _ _ _ rfl rfl;have s4:(w3.alloc (.cells #[.int .i64 0,.int .i64 3,.int .i64 1,.int .i64 1,.int .i64 9,.int .i64 1] 65)).heap.size=w3.heap.size+1:=bI _ _;refine nQ ?_;iterate 4
  refine eU ?_
 generalize w3.alloc (.cells #[.int .i64 0,.int .i64 3,.int .i64 1,.int .i64 1,.int .i64 9,.int .i64 1] 65)=w4 at*;have HR4:=ai R4;have HK4:=ai K4;have HE4:=ai E4;clear R4 K4 E4;refine aM (args:=#[.pointer (some ⟨b,0,none⟩),.pointer none,.slice (some ⟨w3.heap.size,0,none⟩) 2 2]) rfl rfl rfl func21 rfl rfl cC (λ_ _ _ _ _=>trivial) (Ni (F:=10) (n:=2) (es:=[⟨0,3,1⟩,⟨1,9,1⟩]) ⟨ae,ae⟩ ⟨az,az⟩ (vB 2 ae) HE4.out ae HR4.out ae Wv) ?_;rintro i5 v5 w5 ⟨rfl,rfl,R5,K5⟩;have HR5:=ai R5;have HK5:=ai (HK4.out.trans K5);clear R5 K5 HR4 HE4 HK4;walk_nrm;iterate 5
  refine eU ?_
 refine on ?_;have hs5:w3.heap.size<=w5.heap.size:=HK5.out.size;obtain⟨R6,K6⟩:=vD 10 HR5.out (pC w5 (.cells #[.int .i64 0,.int .i64 3,.int .i64 4] 65)).1 (pC w5 _).2;have E6:dC w5.heap.size 0 [⟨0,3,4⟩] (w5.alloc (.cells #[.int .i64 0,.int .i64 3,.int .i64 4] 65)):=XY _ _ _ _ _ rfl rfl;have s6:(w5.alloc (.cells #[.int .i64 0,.int .i64 3,.int .i64 4] 65)).heap.size=w5.heap.size+1:=bI _ _;refine nQ ?_;iterate 3
  refine eU ?_
 generalize w5.alloc (.cells #[.int .i64 0,.int .i64 3,.int .i64 4] 65)=w6 at*;have HR6:=ai R6;have HK6:=ai (HK5.out.trans K6);have HE6:=ai E6;clear R6 K6 E6;refine aM (args:=#[.pointer (some ⟨b,0,none⟩),.pointer none,.slice (some ⟨w5.heap.size,0,none⟩) 1 1]) rfl rfl rfl func21 rfl rfl cC (λ_ _ _ _ _=>trivial) (Ni (F:=10) (n:=2) (es:=[⟨0,3,4⟩]) ⟨ae,ae⟩ ⟨az,az⟩ (vB 1 ae) HE6.out ae HR6.out ae Ww) ?_;rintro i7 v7 w7 ⟨rfl,rfl,R7,K7⟩;have HR7:=ai R7;have HK7:=ai (HK6.out.trans K7);clear R7 K7 HR6 HE6 HK6;walk_nrm;iterate 5
  refine eU ?_
 refine on ?_;obtain⟨cur,Ci⟩:=cP HV.out rfl;have aar:=(HK7.out.same g _ Ci (HVF.out g rfl)).1;have hV7:ij g 0 [3,9] w7:=λj hj=>by
  rw[bP (w:=w3) (aar.trans Ci.symm),cM,HV.out.cellAt j (by simpa using hj)];match j,hj with
  |0,_=>rfl
  |1,_=>rfl
 have hg7:g<w7.heap.size:=(aQ.1 aar).1;have hints:∀τ,Calls prog 12 #[.slice (some ⟨g,0,none⟩) 2 acO,.slice (some ⟨w7.heap.size,0,none⟩) 2 2] ((w7.alloc (.cells #[.int .i64 3,.int .i64 9] 3)).tp τ) _:=λτ=>ints_yes g 0 acO w7.heap.size 0 2 [3,9] ((w7.alloc (.cells #[.int .i64 3,.int .i64 9] 3)).tp τ) (λj hj=>(qf w7 _ ⟨g,0+j,none⟩ hg7).trans (hV7 j hj)) (XX w7 3 9 _ _ rfl) (show g< (w7.alloc _).heap.size by rw[bI];omega) (show w7.heap.size< (w7.alloc _).heap.size by rw[bI];omega) az;have Hints:=ai hints;clear hints hV7 aar Ci hg7;refine wpM_seq (wpM_seq (wpM_lone pV hcs ax AG (nK ax _) (λτ=>?_)));go_wp2_with fail
 refine(Hints.out τ).mono ?_;rintro e w8 ⟨rfl,Tu⟩;have Tv:∀y,y<w7.heap.size->w8.heap[y]? =w7.heap[y]? :=λy hy=>by rw[Tu.block y (show y< (w7.alloc _).heap.size by rw[bI];omega)];exact eh w7 _ _ hy
 have hs8:w7.heap.size<=w8.heap.size:=by have h1:(w7.alloc (.cells #[.int .i64 3,.int .i64 9] 3)).heap.size<=w8.heap.size:=Tu.size;rw[bI]at h1;omega
 obtain⟨R8,K8⟩:=vD 10 HR7.out hs8 Tv;have HR8:=ai R8;have HK8:=ai (HK7.out.trans K8);clear Tu Tv R8 K8 Hints HV HVF HR7 HK5;go_wp2_with fail
 refine⟨w8,⟨rfl,rfl,rfl⟩,?_⟩;try simp only[Exit.then]
 refine Bl ?_;try simp only[Exit.then]
 refine nQ ?_;refine eU ?_;refine aM (args:=#[.pointer (some ⟨b,0,none⟩),.pointer none,.int .i64 1]) rfl rfl rfl func22 rfl rfl cC (λ_ _ _ _ _=>trivial) (acL (F:=10) ae HR8.out aap) ?_;rintro i9 v9 w9 ⟨rfl,rfl,R9,K9⟩;have HR9:=ai R9;have HK9:=ai (HK8.out.trans K9);have hs9:w7.heap.size<=w9.heap.size:=cn hs8 K9.size;clear R9 K9 HR8 HK8;walk_nrm;iterate 5
  refine eU ?_
 refine on ?_;refine nQ ?_;refine eU ?_;refine aM (args:=#[.pointer (some ⟨b,0,none⟩),.pointer none,.int .i64 0,.int .i64 1,.int .i64 2]) rfl rfl rfl func19 rfl rfl cC (λ_ _ _ _ _=>trivial) (XV (F:=10) ⟨ae,ae⟩ HR9.out (by have:=HK9.out.size;omega) aaq) ?_;rintro i10 v10 w10 ⟨rfl,rfl,R10,K10⟩;have acP:=ai (HK3.out.trans (HK9.out.trans K10));clear R10 K10 HR9 HK9;walk_nrm;iterate 4
  refine eU ?_
 refine on ?_;refine eG λτ=>?_;refine bn ?_;refine⟨rfl,.bool true,gU,rfl,rfl,?_,λy hy=>?_⟩
 ·have:=acP.out.size;have:=yV HR1.out (.inl rfl);have fE:w.heap.size<=w1.heap.size:=by apply cY;intro hn;have h1:=HS.out w1.heap.size ae;rw[kP (aY _)]at h1;exact absurd h1.symm (by rw[dI ae];simp)
  omega
 ·have h1:=HS.out y hy;have h2:w.heap[y]? =some w.heap[y]:=dI hy;rw[h2]at h1⊢;exact(acP.out.same y _ h1 (HF.out y hy)).1
end
end
section
open Go Go.Conc Go.ConcN Go.RowKit
attribute [local go_sem] aF aG aT aD aO aW aA aB dE cB dF a8
def nL(ok:Bool)(N E:Int)(iv:Value):Array Value:=#[.int .i64 0,.int .i64 0,.int .i64 0,.bool ok,.int .i64 N,.int .i64 0,.int .i64 E,iv,.slice none 0 0]
noncomputable def LL:Code:=(f181.body).getD .skip
noncomputable def EK:Code:=LL.r.r
inductive AK(ab:Nat):Act->Prop
 |mk (u0 u1 u2 u3 u4 u5 u7 u8 u9 sr mF mG mb lr kE u16 ku kF kG kH mf mg u23 u24 mh u26 kI u28 kJ kK lu u32 u33 lx ly lz lA mi mj mD ny nz pq u44 pw nA nB nC nD nE nG nH si sj tS tT wK wL wM wN wO wP wQ u64 wR wT Gn Gp Gq BN BO BP:Value):AK ab {tmps:=#[u0,u1,u2,u3,u4,u5,.pointer (some ⟨ab,0,none⟩),u7,u8,u9,sr,mF,mG,mb,lr,kE,u16,ku,kF,kG,kH,mf,mg,u23,u24,mh,u26,kI,u28,kJ,kK,lu,u32,u33,lx,ly,lz,lA,mi,mj,mD,ny,nz,pq,u44,pw,nA,nB,nC,nD,nE,nG,nH,si,sj,tS,tT,wK,wL,wM,wN,wO,wP,wQ,u64,wR,wT,Gn,Gp,Gq,BN,BO,BP],defers:=[]}
section
variable{n:Nat}{main:Bool}{Stop:ι->Frame->List Frame->World->Prop}{w:World}
structure nM(b:Nat)(c:Array Value)(e:TypeId)(w w':World):Prop where
 at_:w'.heap[b]? =some (.cells c e (0,0))
 off:∀y,y≠b->w'.heap[y]? =w.heap[y]?
 size:w'.heap.size=w.heap.size
theorem nM.set{c:Array Value}{w:World}(h:nM b c e w w')(o:Nat)(v:Value):nM b (c.setIfInBounds o v) e w (w'.setCell ⟨b,o,none⟩ v):=⟨aq h.at_ v,λy hy=>(ah hy v).trans (h.off y hy),by rw[←h.size];simp[World.setCell]⟩
def jY.Ans(S:jY dO (bA F b c lo n) main cs Jm Stop)(w:World)(i':ι)(r:Value)(w':World):Prop:=∃a iv,r=.agg (nL a.ok a.n a.err iv)/\a.m=0/\a.pairs=[]/\S.At i' (.ret a) w'/\S.Keep w w'/\rp b c w.heap.size iv a.ints w'
theorem Wx(S:jY dO (bA F b c lo n) main cs Jm Stop){l:List Int}(hA:AK ab a)(hab:w.heap[ab]? =some (.cells (nL false N E iv) 48 (0,0)))(CX:w0.heap.size<=ab)(nf:¬bL b c w ab)(h0:∃i0 p0,S.At i0 p0 w0)(K:S.Keep w0 w)(h:S.At i (.ret (tZ E N l)) w)(hi:rp b c w0.heap.size iv l w)(hne:∀g,iv.ownBlock=some g->g≠ab):
  wpM prog main cs Jm Stop S.U 181 EK (bodyPostM prog f181 (S.Ans w0)) i a w:=by
 have hcs:=S.hcs;obtain⟨sa,sn,sc,rfl⟩:∃sa sn sc,iv=.slice sa sn sc:=by
  rcases hi.1.2 with⟨h,_⟩|⟨g,cap,cur,h,_⟩
  ·exact⟨_,_,_,h⟩
  ·exact⟨_,_,_,h⟩
 have hcell:∀o,w.cell? ⟨ab,o,none⟩=(nL false N E (.slice sa sn sc))[o]? :=λo=>af hab o;have c0:=hcell 0;have c1:=hcell 1;have c2:=hcell 2;have c3:=hcell 3;have c4:=hcell 4;have c5:=hcell 5;have c6:=hcell 6;have c7:=hcell 7;have c8:=hcell 8;have z:∀o,w.frozen? ⟨ab,o,none⟩=false:=λo=>ay hab o (bj _);clear hcell;simp[nL]at c0 c1 c2 c3 c4 c5 c6 c7 c8;have Hab:=ai hab;have Hnf:=ai nf;have H:=ai h;have Hi:=ai hi;have HK:=ai K;clear hab nf h hi K;cases hA;generalize hQ:bodyPostM prog f181 (S.Ans w0)=Q;simp only[EK,LL,f181,Code.l,Code.r,bJ];iterate 2
  refine eG λτ=>?_
 refine bn ?_;subst hQ;have O:=((((((((((⟨Hab.out,λ_ _=>rfl,rfl⟩:nM ab _ _ w w).set 3 (.bool (E==0))).set 0 (.int .i64 0)).set 1 (.int .i64 0)).set 2 (.int .i64 0)).set 3 (.bool (E==0))).set 4 (.int .i64 N)).set 5 (.int .i64 0)).set 6 (.int .i64 E)).set 7 (.slice sa sn sc)).set 8 (.slice none 0 0);simp only[nL,jD,mI,pI]at O;generalize World.setCell _ _ _=w' at*;have O:nM ab (nL (E==0) N E (.slice sa sn sc)) 48 w w':=O;clear c0 c1 c2 c3 c4 c5 c6 c7 c8 z;have hcell:∀o,w'.cell? ⟨ab,o,none⟩=(nL (E==0) N E (.slice sa sn sc))[o]? :=λo=>af O.at_ o;obtain⟨i0,p0,h0⟩:=h0;obtain⟨h1,K1,hF⟩:=S.fresh _ _ _ _ _ _ w' h0 H.out HK.out (by rw[O.size];exact aY _) (λy hy hne=>by
  by_cases e:y=ab
  ·subst e;exact⟨CX,Hnf.out⟩
  ·exact absurd (O.off y e) hne)
 refine⟨rfl,.agg (nL (E==0) N E (.slice sa sn sc)),?_,tZ E N l,.slice sa sn sc,?_,rfl,rfl,h1,K1,row_keep Hi.out.1 λg hg=>O.off g (hne g hg),λg hg hf=>Hi.out.2 g hg ((hF g).1 hf)⟩
 ·have e0:=hcell 0;have e1:=hcell 1;have e2:=hcell 2;have e3:=hcell 3;have e4:=hcell 4;have e5:=hcell 5;have e6:=hcell 6;have e7:=hcell 7;have e8:=hcell 8;simp[nL]at e0 e1 e2 e3 e4 e5 e6 e7 e8;simp[results,f181,go_sem,e0,e1,e2,e3,e4,e5,e6,e7,e8,nL]
 ·have:(E==0)=decide (E=0):=by by_cases e:E=0<;>simp[e]
  rw[this];rfl
end
theorem Ig{w:World}(h:(w.alloc o1).alloc o2=w1):w1.heap.size=w.heap.size+2/\(∀b,b<w.heap.size->w1.heap[b]? =w.heap[b]?)/\w1.heap[w.heap.size]? =some o1/\w1.heap[w.heap.size+1]? =some o2:=by
 subst h;refine⟨au,λb hb=>?_,?_,?_⟩ <;>simp only[←cG,cF,fV]
 ·rw[if_neg ae,if_neg ae]
 ·rw[if_neg ae,if_pos trivial]
 ·rw[if_pos trivial]
section
variable{n:Nat}{main:Bool}{Stop:ι->Frame->List Frame->World->Prop}{w:World}
theorem uh(B:Nat)(w:World):rp b c B (.slice none 0 0) [] w:=⟨oK _ _ _ _,λg hg=>by cases hg⟩
structure rz(S:jY dO (bA F b c lo n) main cs Jm Stop)(w0:World)(ab:Nat)(w:World):Prop where
 at0:∃i0 p0,S.At i0 p0 w0
 keep:S.Keep w0 w
 ge:w0.heap.size<=ab
 ent:w.heap[ab]? =some (.cells (nL false 0 0 (.slice none 0 0)) 48 (0,0))
 nf:¬bL b c w ab
theorem rz.step{S:jY dO (bA F b c lo n) main cs Jm Stop}(X:rz S w0 ab w)(K:S.Keep w w'):rz S w0 ab w':=by obtain⟨i0,p0,h0⟩:=X.at0;obtain⟨h1,h2⟩:=S.same _ _ _ _ K X.ent aJ X.nf (S.new _ _ _ _ h0 X.ge);exact⟨⟨i0,p0,h0⟩,S.trans _ _ _ X.keep K,X.ge,h1,h2⟩
theorem rz.fill{S:jY dO (bA F b c lo n) main cs Jm Stop}{l:List Int}(X:rz S w0 ab w)(O:nM ab (nL false N E iv) 48 w w')(hA:AK ab a)(h:S.At i (.ret (tZ E N l)) w)(hi:rp b c w0.heap.size iv l w)(hne:∀g,iv.ownBlock=some g->g≠ab):
  wpM prog main cs Jm Stop S.U 181 EK (bodyPostM prog f181 (S.Ans w0)) i a w':=by
 obtain⟨i0,p0,h0⟩:=X.at0;obtain⟨h1,K1,hF⟩:=S.fresh _ _ _ _ _ _ w' h0 h X.keep (by rw[O.size];exact aY _) (λy hy hx=>by
  by_cases e:y=ab
  ·subst e;exact⟨X.ge,X.nf⟩
  ·exact absurd (O.off y e) hx)
 exact Wx S hA O.at_ X.ge (λhf=>X.nf ((hF _).1 hf)) ⟨i0,p0,h0⟩ K1 h1 ⟨row_keep hi.1 λg hg=>O.off g (hne g hg),λg hg hf=>hi.2 g hg ((hF g).1 hf)⟩ hne
theorem Wy(S:jY dO (bA F b c lo n) main cs Jm Stop)(hn:1<=n/\n<=64){cc:bG}(hk2:cc.kind≠2)(h:S.At i (jV F n S.num cc) w)(hlo:lo<=w.heap.size):
  CallsM prog main cs Jm Stop S.U i 181 #[.pointer (some ⟨b,0,none⟩),.pointer S.wv,.agg #[.int .i64 cc.kind,.int .i64 cc.a,.int .i64 cc.b,.int .i64 cc.c,pv]] w (S.Ans w):=by
 have hcs:=S.hcs;refine aX func181 rfl ?_;generalize hQ:bodyPostM prog f181 (S.Ans w)=Q;simp only[f181,bJ];walk_nrm;refine eG λτ=>?_;generalize fE:World.alloc _ _=w1;obtain⟨a1,a2,a3,a4⟩:=Ig fE;clear fE;obtain⟨h1,K1,uk⟩:=S.fresh _ _ _ _ _ _ w1 h h (S.refl w) ae (λy hy hne=>absurd (a2 y hy) hne);have X1:rz S w (w.heap.size+1) w1:=⟨⟨_,_,h⟩,K1,ae,a4,λhf=>by have:=S.foot _ _ _ _ h ((uk _).1 hf);omega⟩;have acQ:lo<=w1.heap.size:=ae;have c0:=cO a3 0;have c1:=cO a3 1;have c2:=cO a3 2;have c3:=cO a3 3;have hB:w.heap.size+1<w1.heap.size:=ae;have Wo:=ai X1;have H1:=ai h1;have HB:=ai hB;have Hlo:=ai acQ;clear a1 a2 a3 a4 uk h1 K1 X1 h hB acQ;obtain⟨k0,k1,k2,k3,kp⟩:=cc;simp only at c0 c1 c2 c3 hk2 H1;have hdone:=λ{i' w2 w' N E iv l a} X O hA h hi hne=>rz.fill (S:=S) (w0:=w) (ab:=w.heap.size+1) (i:=i') (w:=w2) (w':=w') (N:=N) (E:=E) (iv:=iv) (l:=l) (a:=a) X O hA h hi hne;simp only[hQ]at hdone;simp only[EK,LL,Code.l,Code.r,f181,bJ]at hdone;have Nj:=@hdone;clear hdone hQ;have EL:∀{i':ι} {w2:World} {p:Pr JS dO},rz S w (w.heap.size+1) w2->(∀o,w2.cell? ⟨w.heap.size+1,o,none⟩=(nL false 0 0 (.slice none 0 0))[o]?)/\∀o,w2.frozen? ⟨w.heap.size+1,o,none⟩=false:=λX=>⟨λo=>af X.ent o,λo=>ay X.ent o (bj _)⟩;refine wpM_seq ?_;refine eG λτ=>?_;refine bt ?_;by_cases e1:k0=1
 ·subst e1;have h2:S.At i ((pT F n k1).bind λr=>.ret (tZ r.2 r.1 [])) w1:=by have:=H1.out;unfold jV at this;rw[if_pos rfl]at this;exact this
  have H2:=ai h2;clear h2 hk2;refine eG λτ=>?_;refine ctx ?_;refine gO ?_;refine rg ?_;iterate 4
   refine eU ?_
  refine aM (args:=#[.pointer (some ⟨b,0,none⟩),.pointer S.wv,.int .i64 k1]) rfl rfl rfl func22 rfl rfl cC (λb k fs h1 h2=>S.upush _ _ rfl rfl ⟨f181,by show prog.funcs[b.fn]? =_;rw[h1];exact func181⟩ h2) (read_any' S hn.2 H2.out) ?_;rintro i2 r2 w2 ⟨v,er,rfl,h3,K2⟩;have X2:=Wo.out.step K2;obtain⟨hc,hz⟩:=EL (i':=i2) (p:=.ret (tZ er v [])) X2;have d4:=hc 4;have d6:=hc 6;simp[nL]at d4 d6;have O:=((⟨X2.ent,λ_ _=>rfl,rfl⟩:nM (w.heap.size+1) _ _ w2 w2).set 4 (.int .i64 v)).set 6 (.int .i64 er);simp only[nL,jD,mI,pI]at O;have HO:=ai O;have H3:=ai h3;have kX:=ai X2;clear O h3 X2 hc;walk_nrm;iterate 7
   refine eU ?_
  refine ji ?_;simp only[Exit.inBlock,Exit.then];exact Nj kX.out HO.out (AK.mk ..) H3.out (uh _ _) (λg hg=>by cases hg)
 have b1:(k0==1)=false:=by simpa using e1
 have b2:(k0==2)=false:=by simpa using hk2
 by_cases e3:k0=3
 ·subst e3;have h2:S.At i ((vw F S.num n k1 k2 k3).bind λr=>.ret (tZ r.2 0 [])) w1:=by have:=H1.out;unfold jV at this;rw[if_neg au,if_pos rfl]at this;exact this
  have H2:=ai h2;clear h2 hk2 e1 b1 b2;iterate 2
   refine eG λτ=>?_;refine aH (t:=false) cC ?_;simp only[dS,if_false]
  refine eG λτ=>?_;refine ctx ?_;refine gO ?_;refine rg ?_;iterate 8
   refine eU ?_
  refine aM (args:=#[.pointer (some ⟨b,0,none⟩),.pointer S.wv,.int .i64 k1,.int .i64 k2,.int .i64 k3]) rfl rfl rfl func19 rfl rfl cC (λb k fs h1 h2=>S.upush _ _ rfl rfl ⟨f181,by show prog.funcs[b.fn]? =_;rw[h1];exact func181⟩ h2) (move_any' S hn H2.out Hlo.out) ?_;rintro i2 r2 w2 ⟨ok,er,rfl,h3,K2⟩;have X2:=Wo.out.step K2;obtain⟨hc,hz⟩:=EL (i':=i2) (p:=.ret (tZ er 0 [])) X2;have d6:=hc 6;simp[nL]at d6;have O:=(⟨X2.ent,λ_ _=>rfl,rfl⟩:nM (w.heap.size+1) _ _ w2 w2).set 6 (.int .i64 er);simp only[nL,jD,mI,pI]at O;have HO:=ai O;have H3:=ai h3;have kX:=ai X2;clear O h3 X2 hc;walk_nrm;iterate 5
   refine eU ?_
  refine ji ?_;simp only[Exit.inBlock,Exit.then];exact Nj kX.out HO.out (AK.mk ..) H3.out (uh _ _) (λg hg=>by cases hg)
 have b3:(k0==3)=false:=by simpa using e3
 by_cases e4:k0=4
 ·subst e4;have h2:S.At i ((sR F S.num n).bind λr=>.ret (tZ r.2 0 r.1)) w1:=by have:=H1.out;unfold jV at this;rw[if_neg au,if_neg au,if_pos rfl]at this;exact this
  have H2:=ai h2;clear h2 hk2 e1 e3 b1 b2 b3;iterate 3
   refine eG λτ=>?_;refine aH (t:=false) cC ?_;simp only[dS,if_false]
  refine eG λτ=>?_;refine ctx ?_;refine gO ?_;refine rg ?_;refine eU ?_;refine eU ?_;refine aM (args:=#[.pointer (some ⟨b,0,none⟩),.pointer S.wv]) rfl rfl rfl func20 rfl rfl cC (λb k fs h1 h2=>S.upush _ _ rfl rfl ⟨f181,by show prog.funcs[b.fn]? =_;rw[h1];exact func181⟩ h2) (look_any' S hn H2.out Hlo.out) ?_;rintro i2 r2 w2 ⟨iv,er,l,rfl,h3,K2,hi⟩;obtain⟨sa,sn,sc,rfl⟩:∃sa sn sc,iv=.slice sa sn sc:=by
   rcases hi.1.2 with⟨h,_⟩|⟨g,cap,cur,h,_⟩
   ·exact⟨_,_,_,h⟩
   ·exact⟨_,_,_,h⟩
  have X2:=Wo.out.step K2;obtain⟨hc,hz⟩:=EL (i':=i2) (p:=.ret (tZ er 0 l)) X2;have d7:=hc 7;have d6:=hc 6;simp[nL]at d7 d6;have O:=((⟨X2.ent,λ_ _=>rfl,rfl⟩:nM (w.heap.size+1) _ _ w2 w2).set 7 (.slice sa sn sc)).set 6 (.int .i64 er);simp only[nL,jD,mI,pI]at O;have acR:∀g,(Value.slice sa sn sc).ownBlock=some g->g≠w.heap.size+1:=λg hg=>by have:=(hi.1.lt g hg).1;have:=HB.out;omega
  have yJ:rp b c w.heap.size (.slice sa sn sc) l w2:=⟨⟨hi.1.1,hi.1.2.imp id λ⟨g',cap',cur,q1,q2,q3⟩=>⟨g',cap',cur,q1,by have:=HB.out;omega,q3⟩⟩,hi.2⟩;have HO:=ai O;have H3:=ai h3;have kX:=ai X2;have Hi:=ai yJ;have aeB:=ai acR;clear O h3 X2 hc hi yJ acR;walk_nrm;iterate 7
   refine eU ?_
  refine ji ?_;simp only[Exit.inBlock,Exit.then];exact Nj kX.out HO.out (AK.mk ..) H3.out Hi.out aeB.out
 have b4:(k0==4)=false:=by simpa using e4
 have h2:S.At i (.ret (tZ 260 0 [])) w1:=by have:=H1.out;unfold jV at this;rw[if_neg e1,if_neg e3,if_neg e4]at this;exact this
 have H2:=ai h2;clear h2;have X2:=Wo.out;obtain⟨hc,hz⟩:=EL (i':=i) (p:=.ret (tZ 260 0 [])) X2;have d6:=hc 6;simp[nL]at d6;have O:=(⟨X2.ent,λ_ _=>rfl,rfl⟩:nM (w.heap.size+1) _ _ w1 w1).set 6 (.int .i64 260);simp only[nL,jD,mI,pI]at O;have HO:=ai O;clear O X2 hc hk2 e1 e3 e4;refine eG λτ=>?_;refine aH (t:=false) (by simp[Act.eval,b1]) ?_;simp only[dS,if_false];refine eG λτ=>?_;refine aH (t:=false) (by simp[Act.eval,b2]) ?_;simp only[dS,if_false];refine eG λτ=>?_;refine aH (t:=false) (by simp[Act.eval,b3]) ?_;simp only[dS,if_false];refine eG λτ=>?_;refine aH (t:=false) (by simp[Act.eval,b4]) ?_;simp only[dS,if_false];refine l3 hcs (λτ=>?_);go_wp2;refine⟨_,aN _ _,?_⟩;exact Nj Wo.out HO.out (AK.mk ..) H2.out (uh _ _) (λg hg=>by cases hg)
end
end
section
open Go.Proofs.YtfmibhmknlnoiaaGreat.Pr
section
def Pr.Deep:Nat->Pr σ α->Prop
 |_,.ret _=>True
 |m,.line p=>Pr.Deep (m-1) p
 |m,.eff _ k=>∀s,Pr.Deep m (k s)
 |m,.stop=>m=0
theorem Pr.Deep.mono:∀{p:Pr σ α} {m m':Nat},p.Deep m->m'<=m->p.Deep m':=by
 intro p;induction p with
 |ret a=>exact λ_ _=>trivial
 |line p ih=>exact λh h'=>ih h ae
 |eff f k ih=>exact λh h' s=>ih s (h s) h'
 |stop=>intro m m' h h';have h:m=0:=h;show m'=0;omega
theorem Pr.Deep.bind{k:α->Pr σ β}:∀{p:Pr σ α} {m:Nat},p.Deep m->(∀a,(k a).Deep m)->(p.bind k).Deep m:=by
 intro p;induction p with
 |ret a=>exact λ_ h=>h a
 |line p ih=>exact λh h'=>ih h λa=>(h' a).mono ae
 |eff f q ih=>exact λh h' s=>ih s (h s) h'
 |stop=>exact λh _=>h
theorem Pr.Deep.seg:∀{p:Pr σ α} {m:Nat} {g:Bool} {own:Nat} {s:σ},p.Deep m->match p.seg g own s with
  |.fin _ _ _ _=>True
  |.line p' vE _=>vE=own+g.toNat/\(Pr.line p').Deep (m-g.toNat)
  |.lost=>m<=g.toNat:=by
 intro p;induction p with
 |ret a=>exact λ_=>trivial
 |line p ih=>
  intro m g own s h;cases g with
  |true=>
   have:=ih (m:=m-1) (g:=false) (own:=own+1) (s:=s) h;show match Pr.seg p false (own+1) s with|.fin _ _ _ _=>_|.line p' vE _=>_|.lost=>_
   cases e:Pr.seg p false (own+1) s with
   |fin=>trivial
   |line p' vE s'=>rw[e]at this;exact this
   |lost=>rw[e]at this;simp at this⊢;omega
  |false=>exact⟨rfl,h⟩
 |eff f k ih=>exact λh=>ih _ (h _)
 |stop=>intro m g own s h;have h:m=0:=h;show m<=_;omega
def AR.EM(M:Nat)(x:AR σ):Prop:=∀k b own p,(x.w k).now=some (b,own,p)->own<=x.all/\(Pr.line p).Deep (M-own)
theorem AR.Ii{L:Lay σ}{c:bq}(hc:∀k d,d∈c.calls k->(L.call k d).Deep M){x:AR σ}(h:x.EM M)(hM:x.all+2<=M)(hl:(x.w k).now=none->(x.w k).got.length< (c.calls k).length){e:Pr.End σ dO}(he:(x.w k).seg L c k t x.s=(be,e)):
  e≠.lost/\∀p' vE s',e=.line p' vE s'->vE<=x.all+1/\(Pr.line p').Deep (M-vE):=by
 unfold AW.seg at he;cases hn:(x.w k).now with
 |some q=>
  obtain⟨b,own,p⟩:=q;rw[hn]at he;obtain⟨h1,h2⟩:=h k b own p hn;have hs:=Pr.Deep.seg (p:=p) (g:=false) (own:=own+1) (s:=x.s) (m:=M-own-1) h2;simp only[Prod.mk.injEq]at he;obtain⟨_,rfl⟩:=he;refine⟨λhx=>?_,λp' vE s' hx=>?_⟩
  ·rw[hx]at hs;simp at hs;omega
  ·rw[hx]at hs;simp at hs;obtain⟨a1,a2⟩:=hs;subst a1;exact⟨ae,a2⟩
 |none=>
  rw[hn]at he;simp only at he;have hl:=hl hn;have hd:(c.calls k)[(x.w k).got.length]? =some (c.calls k)[(x.w k).got.length]:=eA hl;rw[hd]at he;simp only[Prod.mk.injEq]at he;obtain⟨_,rfl⟩:=he;have hs:=Pr.Deep.seg (p:=L.call k (c.calls k)[(x.w k).got.length]) (g:=true) (own:=0) (s:=x.s) (m:=M) (hc k _ (pP _));refine⟨λhx=>?_,λp' vE s' hx=>?_⟩
  ·rw[hx]at hs;simp at hs;omega
  ·rw[hx]at hs;simp at hs;obtain⟨a1,a2⟩:=hs;subst a1;exact⟨ae,a2⟩
theorem AR.Pz{L:Lay σ}{c:bq}(hc:∀k d,d∈c.calls k->(L.call k d).Deep M){x:AR σ}(h:x.EM M)(hM:x.all+2<=M):(x.next L c).EM M:=by
 intro k b own p hn;have qd:(x.next L c).all=x.all+1:=rfl;rw[qd];by_cases e:k=x.pick c
 ·subst e;have hw:(x.next L c).w (x.pick c)=(x.w (x.pick c)).settle (x.all+1) ((x.w (x.pick c)).seg L c (x.pick c) (x.all+1) x.s).1 ((x.w (x.pick c)).seg L c (x.pick c) (x.all+1) x.s).2:=by show(if x.pick c=x.pick c then _ else _)=_;rw[if_pos rfl]
  rw[hw]at hn;by_cases hl:(x.w (x.pick c)).now=none/\(c.calls (x.pick c)).length<=(x.w (x.pick c)).got.length
  ·have hs:((x.w (x.pick c)).seg L c (x.pick c) (x.all+1) x.s)=(x.all+1,.lost):=(by unfold AW.seg;rw[hl.1];simp only;rw[xU hl.2]);rw[hs]at hn;simp only[AW.settle]at hn;rw[hl.1]at hn;cases hn
  ·obtain⟨h1,h2⟩:=AR.Ii hc h hM (k:=x.pick c) (by intro hx;apply cY;intro hg;exact hl ⟨hx,ae⟩) (t:=x.all+1) (be:=((x.w (x.pick c)).seg L c (x.pick c) (x.all+1) x.s).1) (e:=((x.w (x.pick c)).seg L c (x.pick c) (x.all+1) x.s).2) rfl;cases he:((x.w (x.pick c)).seg L c (x.pick c) (x.all+1) x.s).2 with
   |fin a g o s'=>rw[he]at hn;cases hn
   |line p' vE s'=>rw[he]at hn;simp only[AW.settle,cu,Prod.mk.injEq]at hn;obtain⟨_,rfl,rfl⟩:=hn;exact h2 _ _ _ he
   |lost=>exact absurd he h1
 ·rw[AR.zX L c x (bp e)]at hn;obtain⟨h1,h2⟩:=h k b own p hn;exact⟨ae,h2⟩
theorem run_on{d:aK}{t:qD}{g:Bool}{w:Go.World}(hc:∀k d,d∈J.c.calls k->(J.L.call k d).Deep M)(hM:J.c.most+2<=M):¬Run J d tW k t g be .stop w:=by
 intro R;obtain⟨s,ow,sl,hm,_⟩:=R.ex;have ub:=hm.few;have hturn:=hm.turn;have key:∀m,m<J.c.most->(J.ar (J.n+m)).EM M:=λm=>by
  induction m with
  |zero=>intro _ k b own p hn;rw[J.qL ae]at hn;cases hn
  |succ m ih=>intro h1;rw[show J.n+(m+1)=J.n+m+1 by omega,J.yO ae];have hall:(J.ar (J.n+m)).all=m:=(by unfold eM.ar;rw[AR.Kd];omega);exact AR.Pz hc (ih ae) (by rw[hall];omega)
 have hall:=hm.all;have hk:=key (t.t-1-J.n) ae;rw[show J.n+(t.t-1-J.n)=t.t-1 by omega]at hk;exact(AR.Ii hc hk ae (k:=k) (λ_=>hm.live) (t:=t.t-J.n) hm.seg).1 rfl
end
theorem Ij{o v:Int}:(casP c o v).Deep m:=λ_=>trivial
theorem Cj{es:List cX}(hh:∀d,(fK d).Deep m):∀f i,(installsP fK d es f i).Deep (min f (m+1)):=by
 intro f;induction f with
 |zero=>intro i;show min 0 (m+1)=0;omega
 |succ f ih=>
  intro i;unfold installsP;cases es[i]? with
  |none=>exact trivial
  |some e=>
   intro s;have hi:∀i,(installsP fK d es f i).Deep (min (f+1) (m+1) -1):=λi=>(ih i).mono ae;by_cases h:s.st d≠0
   ·simp only[if_pos h];exact trivial
   ·simp only[if_neg h];refine Pr.Deep.bind Ij λok=>?_;cases ok with
    |true=>exact hi _
    |false=>
     intro s1;by_cases h1:s1.w e.cell=aI d
     ·simp only[if_pos h1];exact(hi _).mono ae
     ·simp only[if_neg h1];by_cases h2:s1.w e.cell<0
      ·simp only[if_pos h2];exact Pr.Deep.bind ((hh _).mono ae) λ_=>(hi _).mono ae
      ·simp only[if_neg h2];exact λ_=>trivial
theorem LM{b:Bool}:∀l,(iy d b l).Deep m:=by
 intro l;induction l with
 |nil=>exact trivial
 |cons e l ih=>exact Pr.Deep.bind Ij λ_=>ih
theorem Dg:∀f d,(jI f d).Deep (f-1):=by
 intro f;induction f with
 |zero=>exact λd=>rfl
 |succ f ih=>
  intro d s;refine Pr.Deep.bind ((Cj ih f 0).mono ae) λok=>?_;refine Pr.Deep.bind ?_ λ_=>?_
  ·split
   ·exact λ_=>trivial
   ·exact trivial
  ·intro s';exact Pr.Deep.bind (LM _) λ_=>trivial
theorem Dh(F:Nat):∀f c,(gh F f c).Deep (min f F):=by
 intro f;induction f with
 |zero=>intro c;show min 0 F=0;omega
 |succ f ih=>
  intro c s;by_cases h:s.w c<0
  ·simp only[if_pos h];exact Pr.Deep.bind ((Dg F _).mono ae) λ_=>(ih c).mono ae
  ·simp only[if_neg h];exact trivial
theorem Di(F k:Nat)(es:List cX):(doesP F k es).Deep (F-1):=by
 intro s;by_cases h:1024<=s.made k
 ·simp only[if_pos h];exact trivial
 ·simp only[if_neg h];exact λs=>Pr.Deep.bind (Dg F _) λ_=>trivial
theorem AO{pr:β->Bool×Int}{q q':oF β}(hq:q=.line q')(hd:q'.Deep M):∀m,(againG pr q m).Deep (min m M):=by
 subst hq;intro m;induction m with
 |zero=>show min 0 M=0;omega
 |succ m ih=>
  unfold againG;show Pr.Deep (min (m+1) M-1) (q'.bind _);refine Pr.Deep.bind (hd.mono ae) λx=>?_;by_cases h:(pr x).1=true\/(pr x).2≠0
  ·simp only[if_pos h];exact trivial
  ·simp only[if_neg h];exact Pr.Deep.mono (m:=min m M) (m':=min (m+1) M-1) ih ae
theorem LN(F:Nat):∀l,(eZ F l).Deep F:=by
 intro l;induction l with
 |nil=>exact trivial
 |cons c l ih=>exact Pr.Deep.bind ((Dh F F c).mono ae) λ_=>Pr.Deep.bind ih λ_=>trivial
theorem deep_joint{n:Nat}(hF:2<=F)(hn:1<=n)(c:bG):(jV F n k c).Deep (F-2):=by
 obtain⟨F,rfl⟩:∃f,F=f+1:=⟨F-1,ae⟩;unfold jV;have hl:∀c,(gh (F+1) (F+1) c).Deep (F+1):=λc=>(Dh (F+1) (F+1) c).mono ae;by_cases h1:c.kind=1
 ·rw[if_pos h1];refine Pr.Deep.bind ?_ λ_=>trivial;unfold pT;split
  ·exact Pr.Deep.bind ((hl _).mono ae) λ_=>trivial
  ·exact trivial
 rw[if_neg h1];by_cases h3:c.kind=3
 ·rw[if_pos h3];refine Pr.Deep.bind ?_ λ_=>trivial;unfold vw;split
  ·exact trivial
  ·split
   ·exact trivial
   ·have hd:(mq (F+1) k (min c.a c.b).toNat (max c.a c.b).toNat (decide (c.b<c.a)) c.c).Deep F:=by
     unfold mq;refine Pr.Deep.bind ((hl _).mono ae) λh=>Pr.Deep.bind ((hl _).mono ae) λg=>?_;simp only;generalize (if decide (c.b<c.a)=true then aU g-c.c else aU g+c.c)=y;generalize (if decide (c.b<c.a)=true then aU h+c.c else aU h-c.c)=x
     repeat' (first|exact trivial|exact(Di (F+1) k _).mono ae|split)
    refine(AO (q':=_) rfl (M:=F-1) ?_ (F+1)).mono ae;exact hd
 rw[if_neg h3];by_cases h4:c.kind=4
 ·rw[if_pos h4];refine Pr.Deep.bind ?_ λ_=>trivial;unfold sR;have hd:(iG (F+1) k n).Deep F:=by unfold iG;exact Pr.Deep.bind ((LN (F+1) _).mono ae) λ_=>Pr.Deep.bind ((Di (F+1) k _).mono ae) λ_=>trivial
  have hq:∃q',iG (F+1) k n=.line q':=by obtain⟨n,rfl⟩:∃f,n=f+1:=⟨n-1,ae⟩;unfold iG;rw[List.range_eq_range',List.range'_succ];exact⟨_,rfl⟩
  obtain⟨q',hq⟩:=hq;rw[hq]at hd;refine Pr.Deep.bind ((AO hq (M:=F-1) hd (F+1)).mono ae) λr=>?_;split
  ·exact trivial
  ·exact trivial
 rw[if_neg h4];exact trivial
end
section
open Go Go.Conc Go.ConcN Go.RowKit
variable[Inhabited bO]
def PE(F b c lo n:Nat)(cc:bq)(s0:JS):eM JS:={L:=bA F b c lo n,c:=cc,s0:=s0,tA:=48}
theorem PF{l:List Int}{w:World}(h:rp b c B iv l w):Ke w iv l:=by
 have hown:=h.1;rcases hown.2 with⟨rfl,h0⟩|⟨g,cap,cur,rfl,h1,h2,h3⟩
 ·obtain rfl:l=[]:=List.length_eq_zero_iff.1 h0;exact⟨none,0,rfl,λi hi=>by simp at hi⟩
 ·refine⟨some ⟨g,0,none⟩,cap,rfl,λi hi=>⟨_,rfl,rfl,?_⟩⟩;have:=hown.cellAt i bV;rw[cM,this];simp[cQ,hi]
theorem Ty{n:Nat}{cc:bq}{ro:Nat->Option (Nat×Nat)}(hL:(bA F b c lo n).Ok ro)(hlo:∃x,ro x≠none/\lo<=x+1)(vu:cc.most<=20000)(h8:cc.n<=8)(hn:1<=n/\n<=64)(hF:20004<=F)(hk2:∀k d,d∈cc.calls k->d.kind≠2):
  DoSpec (PE F b c lo n cc s0) ro 181 (.pointer (some ⟨b,0,none⟩)):=by
 intro d k nb tW H hro a t w v ha R hv;subst hro;obtain⟨pv,rfl,_⟩:=hv.ex;have hk8:k<8:=by have:k<cc.n:=H.n;omega
 obtain⟨be,IE⟩:∃be,be=(t- (PE F b c lo n cc s0).n:Nat):=⟨_,rfl⟩;rw[←IE]at R;have E5:∀(t':qD) g w,¬Run (PE F b c lo n cc s0) d tW k t' g be .stop w:=λt g w=>run_on (M:=F-2) (λk x _=>deep_joint ae hn.1 x) (by show cc.most+2<=F-2;omega);have aeC:lo<=w.heap.size:=by obtain⟨x,hx,hx2⟩:=hlo;have:=H.ro x hx;have:=R.blk;omega
 refine(Wy (aei (J:=PE F b c lo n cc s0) (tW:=tW) (be:=be) H hL vu hk8 E5) hn (cc:=a) (pv:=pv) (hk2 k a ha) ⟨true,R⟩ aeC).mono ?_;rintro t' r w' ⟨a,iv,rfl,hm,hp,⟨g',R'⟩,K,hi⟩;rw[←IE];refine⟨g',a,R',K,⟨0,0,0,iv,.slice none 0 0,by rw[hm];rfl,PF hi,by rw[hp];exact⟨none,0,rfl,λi hi=>by simp at hi⟩,λx n e h=>?_⟩⟩;rcases h with h|h
 ·subst h;rcases hi.1.2 with⟨h,_⟩|⟨g,cap,cur,h,h1,h2,_⟩
  ·cases h
  ·simp only[Value.slice.injEq,cu]at h;obtain⟨rfl,_,_⟩:=h;exact⟨h1,hi.2 g rfl,_,h2,aJ,rfl⟩
 ·cases h
theorem PG{n:Nat}{cc:bq}{ro:Nat->Option (Nat×Nat)}(hL:(bA F b c lo n).Ok ro)(hlo:∃x,ro x≠none/\lo<=x+1)(vu:cc.most<=20000)(h8:cc.n<=8)(hn:1<=n/\n<=64)(hF:20004<=F)(hk2:∀k d,d∈cc.calls k->d.kind≠2)(hlen:∀i,(cc.calls i).length<=64)
  (hmeth:∀(w:World) (args:Array Value),(callMethod dv "Do" args).runT prog w #[]=(.ok (.enter 181 (#[.pointer (some ⟨b,0,none⟩)] ++args)) w,#[])):
  Gig (PE F b c lo n cc s0) ro 181 (.pointer (some ⟨b,0,none⟩)) dv:=by
 refine⟨hL,vu,rfl,hmeth,Ty hL hlo vu h8 hn hF hk2,λt i hi=>?_,λi hi=>by have:=hlen i;show(cc.calls i).length<100000;omega⟩;have:=AR.at_len (bA F b c lo n).toLay cc s0 (t-cc.n) i;have:=hlen i;show((AR.at (bA F b c lo n).toLay cc s0 (t-cc.n)).w i).got.length<100000;omega
end
section
def jB(h:Int):Int:=h % 1099511627776
theorem EN(x v:Int)(h:jB x<1099511627775):jB (dg x v)=jB x+1:=by unfold jB dg at *;omega
structure AP(n:Nat)(es:List cX):Prop where
 ok:∀e∈es,e.Ok n
 up:es.Pairwise (λa b=>a.cell<b.cell)
theorem AP.uniq{n:Nat}{es:List cX}(h:AP n es){i j:Nat}{e:cX}(hi:es[i]? =some e)(hj:es[j]? =some e')(hc:e.cell=e'.cell):i=j/\e=e':=by
 have hp:=List.pairwise_iff_getElem.1 h.up;obtain⟨li,ri⟩:=eL.1 hi;obtain⟨lj,rj⟩:=eL.1 hj;have pM:i=j:=by
  rcases Nat.lt_trichotomy i j with h1|h1|h1
  ·have:=hp i j li lj h1;rw[ri,rj]at this;omega
  ·exact h1
  ·have:=hp j i lj li h1;rw[ri,rj]at this;omega
 subst pM;rw[hi]at hj;exact⟨rfl,aP hj⟩
theorem AP.same{n:Nat}{es:List cX}(h:AP n es){e:cX}(he:e∈es)(Ap:e'∈es)(hc:e.cell=e'.cell):e=e':=by obtain⟨i,hi⟩:=pN.1 he;obtain⟨j,hj⟩:=pN.1 Ap;exact(h.uniq hi hj hc).2
def JS.lw(s:JS)(c:Nat):Int:=if s.w c<0 then
  (match(s.es (-(s.w c) -1).toNat).find? (λe=>e.cell==c)with
   |some e=>if s.st (-(s.w c) -1).toNat=1 then dg e.old e.next else e.old
   |none=>0)else s.w c
def JS.val(s:JS)(c:Nat):Int:=aU (s.lw c)
def JS.cnt(s:JS):Nat:=((List.range 8192).filter λd=>s.st d==1).length
theorem JS.my(h:0<=s.w c):s.lw c=s.w c:=by unfold JS.lw;rw[if_neg ae]
theorem JS.rA{n:Nat}{e:cX}(hw:s.w c=aI d)(hd:s.ds d=some D)(hok:AP n D.es)(he:e∈D.es)(hc:e.cell=c):s.lw c=if D.st=1 then dg e.old e.next else e.old:=by
 have h0:(-(s.w c) -1).toNat=d:=by rw[hw];unfold aI;omega
 unfold JS.lw;rw[if_pos (by rw[hw];unfold aI;omega),h0];have he2:s.es d=D.es:=by simp[JS.es,hd]
 have hs:s.st d=D.st:=by simp[JS.st,hd]
 rw[he2,hs];cases hf:D.es.find? (λe=>e.cell==c)with
 |none=>have:=List.find?_eq_none.1 hf e he;simp[hc]at this
 |some e'=>have h1:=List.find?_some hf;have h2:=List.mem_of_find?_eq_some hf;have h3:e'=e:=hok.same h2 he (by have:=beq_iff_eq.1 h1;omega);subst h3;rfl
theorem xm{a:Nat}(h:aI a=aI b):a=b:=by unfold aI at h;omega
theorem iT(d:Nat):aI d<0:=by unfold aI;omega
structure vF(n:Nat) where
 A:(Nat->Int)->Prop
 D0:List cX->Prop
 D1:List cX->Prop
 same:∀u v,(∀c,c<n->u c=v c)->A u->A v
 turn:∀v es u,A v->D0 es->AP n es->(∀e∈es,v e.cell=aU e.old)->(∀e∈es,u e.cell=e.next)->(∀c,c<n->(∀e∈es,e.cell≠c)->u c=v c)->A u/\D1 es
variable{n:Nat}
structure JInv(Z:vF n)(s:JS):Prop where
 len:s.ws.length=n
 fresh:∀k m,k<8->s.made k<=m->s.ds (k+8*m)=none
 desc:∀d D,s.ds d=some D->d<8192/\AP n D.es/\Z.D0 D.es/\D.st<=2
 und:∀c,c<n->(0<=s.w c/\s.w c<=1152921504606846975)\/∃d D e,s.w c=aI d/\s.ds d=some D/\e∈D.es/\e.cell=c
 tag:∀d D e,s.ds d=some D->e∈D.es->jB e.old<=jB (s.lw e.cell)/\(D.st=1->jB e.old<jB (s.lw e.cell))
 pre:∀d D (i j:Nat) e e',s.ds d=some D->D.st=0->D.es[i]? =some e->s.w e.cell=aI d->j<i->D.es[j]? =some e'->s.w e'.cell=aI d
 cnt:∀c,c<n->jB (s.lw c)<=s.cnt
 all:Z.A s.val
 done:∀d D,s.ds d=some D->D.st=1->Z.D1 D.es
structure JR(n:Nat)(s s':JS):Prop where
 ds:∀d D,s.ds d=some D->∃D',s'.ds d=some D'/\D'.es=D.es/\(D.st≠0->D'.st=D.st)
 und:∀d D D' c,s.ds d=some D->s'.ds d=some D'->D'.st=0->s.w c=aI d->s'.w c=aI d
 tag:∀c,c<n->jB (s.lw c)<=jB (s'.lw c)
theorem JR.refl(s:JS):JR n s s:=⟨λ_ D h=>⟨D,h,rfl,λ_=>rfl⟩,λ_ _ _ _ _ _ _ h=>h,λ_ _=>Int.le_refl _⟩
theorem JR.trans(a b c:JS)(h:JR n a b)(g:JR n b c):JR n a c:=by
 refine⟨λd D e=>?_,λd D D' x e e' h0 hw=>?_,λx hx=>Int.le_trans (h.tag x hx) (g.tag x hx)⟩
 ·obtain⟨D1,a1,a2,a3⟩:=h.ds d D e;obtain⟨D2,b1,b2,b3⟩:=g.ds d D1 a1;exact⟨D2,b1,b2.trans a2,λh0=>by rw[b3 (by rw[a3 h0];exact h0),a3 h0]⟩
 ·obtain⟨D1,a1,a2,a3⟩:=h.ds d D e;obtain⟨D2,b1,b2,b3⟩:=g.ds d D1 a1;rw[e']at b1;obtain rfl:=aP b1;have h1:D1.st=0:=cY λhc=>by rw[b3 hc]at h0;exact hc h0
  exact g.und d D1 _ x a1 e' h0 (h.und d D D1 x e a1 h1 hw)
section
variable{Z:vF n}
theorem JS.acT(s:JS)(h:s.ws.length=n)(hc:n<=c):s.w c=0:=by unfold JS.w;rw[cQ,xU ae];rfl
theorem JInv.cell(I:JInv Z s)(h:s.w c=aI d):c<n/\∃D e,s.ds d=some D/\e∈D.es/\e.cell=c:=by
 have hc:c<n:=by apply cY;intro hc;rw[s.acT I.len ae]at h;have:=iT d;omega
 rcases I.und c hc with h1|⟨d',D,e,h1,h2,h3,h4⟩
 ·have:=iT d;omega
 ·rw[h]at h1;obtain rfl:=xm h1;exact⟨hc,D,e,h2,h3,h4⟩
theorem JInv.word(I:JInv Z s)(hc:c<n):0<=s.lw c/\s.lw c<=1152921504606846975:=by
 rcases I.und c hc with h1|⟨d,D,e,h1,h2,h3,h4⟩
 ·rw[JS.my h1.1];exact h1
 ·obtain⟨_,h5,_⟩:=I.desc d D h2;rw[JS.rA h1 h2 h5 h3 h4];obtain⟨_,a1,a2,a3,a4⟩:=h5.ok e h3;split
  ·have:=mH e.old e.next a3 a4;omega
  ·exact⟨a1,a2⟩
theorem aas(s:JS):s.cnt<=8192:=by unfold JS.cnt;exact cn (List.length_filter_le _ _) au
theorem JInv.words(I:JInv Z s){v:Int}(hc:c<n)(hl:({s with ws:=s.ws.set c v}:JS).lw c=s.lw c)
  (hv:(0<=v/\v<=1152921504606846975)\/∃(d:Nat) (D:qZ) (i:Nat) (e:cX),v=aI d/\s.ds d=some D/\D.es[i]? =some e/\e.cell=c/\(D.st=0->∀(j:Nat) e',j<i->D.es[j]? =some e'->s.w e'.cell=aI d))
  (ho:∀d D,s.w c=aI d->s.ds d=some D->D.st≠0):JInv Z {s with ws:=s.ws.set c v}/\JR n s {s with ws:=s.ws.set c v}:=by
 have hcl:c<s.ws.length:=by rw[I.len];exact hc
 have hw:∀x,({s with ws:=s.ws.set c v}:JS).w x=if c=x then v else s.w x:=λx=>JS.GK s c x v hcl
 have Nl:∀x,({s with ws:=s.ws.set c v}:JS).lw x=s.lw x:=λx=>by
  by_cases e:c=x
  ·subst e;exact hl
  ·unfold JS.lw;rw[hw x,if_neg e];rfl
 have hval:({s with ws:=s.ws.set c v}:JS).val=s.val:=by funext x;unfold JS.val;rw[Nl]
 refine⟨⟨by simpa using I.len,I.fresh,I.desc,λx hx=>?_,λd D e h1 h2=>by rw[Nl];exact I.tag d D e h1 h2,λd D i j e e' h1 h2 h3 h4 h5 h6=>?_,λx hx=>by rw[Nl];exact I.cnt x hx,by rw[hval];exact I.all,I.done⟩,⟨λd D h=>⟨D,h,rfl,λ_=>rfl⟩,λd D D' x h1 h2 h3 h4=>?_,λx hx=>by rw[Nl];exact Int.le_refl _⟩⟩
 ·rw[hw];by_cases e:c=x
  ·subst e;rw[if_pos rfl];rcases hv with h|⟨d,D,i,e,h1,h2,h3,h4,_⟩
   ·exact .inl h
   ·exact .inr ⟨d,D,e,h1,h2,mX h3,h4⟩
  ·rw[if_neg e];exact I.und x hx
 ·rw[hw]at h4⊢;have hD:=(I.desc d D h1).2.1;by_cases e1:c=e'.cell
  ·rw[if_pos e1];by_cases e2:c=e.cell
   ·have:=hD.uniq h3 h6 ae;omega
   ·rw[if_neg e2]at h4;have h7:=I.pre d D i j e e' h1 h2 h3 h4 h5 h6;exact absurd h2 (ho d D (by rw[e1];exact h7) h1)
  ·rw[if_neg e1];by_cases e2:c=e.cell
   ·rw[if_pos e2]at h4;rcases hv with h|⟨d',D',i',e0,g1,g2,g3,g4,g5⟩
    ·have:=iT d;omega
    ·rw[h4]at g1;obtain rfl:=xm g1;rw[h1]at g2;obtain rfl:=aP g2;have:=hD.uniq h3 g3 ae;exact g5 h2 j e' ae h6
   ·rw[if_neg e2]at h4;exact I.pre d D i j e e' h1 h2 h3 h4 h5 h6
 ·have h2:s.ds d=some D':=h2;rw[h1]at h2;obtain rfl:=aP h2;rw[hw];by_cases e:c=x
  ·subst e;exact absurd h3 (ho d D h4 h1)
  ·rw[if_neg e];exact h4
theorem JInv.install(I:JInv Z s){i:Nat}{e:cX}(hd:s.ds d=some D)(he:D.es[i]? =some e)(hp:D.st=0->∀(j:Nat) e',j<i->D.es[j]? =some e'->s.w e'.cell=aI d):
  JInv Z (s.uo e.cell e.old (aI d))/\JR n s (s.uo e.cell e.old (aI d))/\(s.w e.cell=e.old->(s.uo e.cell e.old (aI d)).w e.cell=aI d):=by
 unfold JS.uo;by_cases h:s.w e.cell=e.old
 ·rw[if_pos h];have hm:=mX he;obtain⟨_,hD,_⟩:=I.desc d D hd;obtain⟨hc,h0,_⟩:=hD.ok e hm;have hcl:e.cell<s.ws.length:=by rw[I.len];exact hc
  have hl0:s.lw e.cell=e.old:=by rw[JS.my ae,h]
  have hst:D.st≠1:=λh1=>by have:=(I.tag d D e hd hm).2 h1;rw[hl0]at this;omega
  have hw:({s with ws:=s.ws.set e.cell (aI d)}:JS).w e.cell=aI d:=by rw[JS.GK _ _ _ _ hcl,if_pos rfl]
  obtain⟨h1,h2⟩:=I.words (v:=aI d) hc (by rw[JS.rA hw hd hD hm rfl,if_neg hst,hl0]) (.inr ⟨d,D,i,e,rfl,hd,he,rfl,hp⟩) (λd' D' h1 _=>by have:=iT d';omega);exact⟨h1,h2,λ_=>hw⟩
 ·rw[if_neg h];exact⟨I,JR.refl s,λh'=>absurd h' h⟩
theorem JInv.clean(I:JInv Z s){e:cX}{v:Int}(hd:s.ds d=some D)(he:e∈D.es)(hs:D.st≠0)(hv:v=if D.st=1 then dg e.old e.next else e.old):
  JInv Z (s.uo e.cell (aI d) v)/\JR n s (s.uo e.cell (aI d) v):=by
 unfold JS.uo;by_cases h:s.w e.cell=aI d
 ·rw[if_pos h];obtain⟨_,hD,_⟩:=I.desc d D hd;obtain⟨hc,a1,a2,a3,a4⟩:=hD.ok e he;have hcl:e.cell<s.ws.length:=by rw[I.len];exact hc
  have hl0:s.lw e.cell=v:=by rw[JS.rA h hd hD he rfl,hv]
  have hb:0<=v/\v<=1152921504606846975:=by rw[←hl0];exact I.word hc
  have hw:({s with ws:=s.ws.set e.cell v}:JS).w e.cell=v:=by rw[JS.GK _ _ _ _ hcl,if_pos rfl]
  exact I.words hc (by rw[JS.my (by rw[hw];exact hb.1),hw,hl0]) (.inl hb) (λd' D' h1 h2=>by rw[h]at h1;obtain rfl:=xm h1;rw[hd]at h2;obtain rfl:=aP h2;exact hs)
 ·rw[if_neg h];exact⟨I,JR.refl s⟩
theorem iI(h:s.ds d=some D):s.st d=D.st:=by simp[JS.st,h]
theorem Dj(s:JS){v:Nat}(hd:s.ds d=some D)(h0:D.st=0):s.decide d v={s with ds:=λx=>if x=d then some {D with st:=v}else s.ds x}:=by unfold JS.decide;rw[if_pos (by rw[iI hd,h0]),hd];rfl
theorem AQ(s:JS){v:Nat}(hd:s.ds d=some D)(h0:D.st≠0):s.decide d v=s:=by unfold JS.decide;rw[if_neg (by rw[iI hd];exact h0)]
theorem JInv.acU(I:JInv Z s)(hd:s.ds d=some D):JInv Z (s.decide d 2)/\JR n s (s.decide d 2)/\∃D',(s.decide d 2).ds d=some D'/\D'.es=D.es/\D'.st≠0:=by
 by_cases h0:D.st=0
 ·rw[Dj s hd h0];have vx:∀x,({s with ds:=λx=>if x=d then some {D with st:=2}else s.ds x}:JS).ds x=if x=d then some {D with st:=2}else s.ds x:=λx=>rfl
  generalize hs':({s with ds:=λx=>if x=d then some {D with st:=2}else s.ds x}:JS)=s' at vx;have hw:∀x,s'.w x=s.w x:=λx=>by subst hs';rfl
  have hlen:s'.ws=s.ws:=by subst hs';rfl
  have Tz:s'.made=s.made:=by subst hs';rfl
  have hback:∀x D',s'.ds x=some D'->∃D0,s.ds x=some D0/\D'.es=D0.es/\(D'.st=1↔D0.st=1)/\(D'.st=0->D0.st=0)/\D'.st<=2:=λx D' h=>by
   rw[vx]at h;by_cases e:x=d
   ·subst e;rw[if_pos rfl]at h;obtain rfl:=aP h;exact⟨D,hd,rfl,by simp[h0],λh=>by simp at h,au⟩
   ·rw[if_neg e]at h;exact⟨D',h,rfl,Iff.rfl,id,(I.desc _ _ h).2.2.2⟩
  have WA:∀x D0,s.ds x=some D0->∃D',s'.ds x=some D'/\D'.es=D0.es/\(D0.st≠0->D'.st=D0.st)/\(D'.st=1↔D0.st=1):=λx D0 h=>by
   rw[vx];by_cases e:x=d
   ·subst e;rw[hd]at h;obtain rfl:=aP h;rw[if_pos rfl];exact⟨_,rfl,rfl,λh=>absurd h0 h,by simp[h0]⟩
   ·rw[if_neg e];exact⟨D0,h,rfl,λ_=>rfl,Iff.rfl⟩
  have hst:∀x,(s'.st x==1)=(s.st x==1):=λx=>by
   cases e:s.ds x with
   |none=>have e':s'.ds x=none:=(by rw[vx,if_neg (λh=>by rw[h,hd]at e;cases e),e]);simp[JS.st,e,e']
   |some D0=>
    obtain⟨D',h1,_,_,h4⟩:=WA x D0 e;rw[iI e,iI h1];by_cases h:D0.st=1
    ·rw[h,h4.2 h]
    ·have:¬D'.st=1:=λh'=>h (h4.1 h');rw[beq_eq_false_iff_ne.2 h,beq_eq_false_iff_ne.2 this]
  have hes:∀x,s'.es x=s.es x:=λx=>by
   cases e:s.ds x with
   |none=>have e':s'.ds x=none:=(by rw[vx,if_neg (λh=>by rw[h,hd]at e;cases e),e]);simp[JS.es,e,e']
   |some D0=>obtain⟨D',h1,h2,_⟩:=WA x D0 e;simp[JS.es,e,h1,h2]
  have Nl:∀x,s'.lw x=s.lw x:=λx=>by
   unfold JS.lw;rw[hw,hes];have h1:∀x,(s'.st x=1)=(s.st x=1):=λx=>by
    have:=hst x;apply propext;constructor
    ·intro h;rw[h]at this;exact beq_iff_eq.1 this.symm
    ·intro h;rw[h]at this;exact beq_iff_eq.1 this
   simp only[h1]
  have hval:s'.val=s.val:=by funext x;unfold JS.val;rw[Nl]
  have TA:s'.cnt=s.cnt:=by unfold JS.cnt;simp only[hst]
  refine⟨⟨by rw[hlen];exact I.len,λk m hk hm=>?_,λx D' h=>?_,λc hc=>?_,λx D' e h1 h2=>?_,λx D' i j e e' h1 h2 h3 h4 h5 h6=>?_,λc hc=>by rw[Nl,TA];exact I.cnt c hc,by rw[hval];exact I.all,λx D' h1 h2=>?_⟩,⟨λx D0 h=>?_,λx D0 D' c h1 h2 h3 h4=>by rw[hw];exact h4,λc hc=>by rw[Nl];exact Int.le_refl _⟩,?_⟩
  ·rw[Tz]at hm;rw[vx];have:=I.fresh k m hk hm;rw[if_neg (λh=>by rw[h,hd]at this;cases this)];exact this
  ·obtain⟨D0,h1,h2,h3,h4,h5⟩:=hback x D' h;obtain⟨a1,a2,a3,a4⟩:=I.desc x D0 h1;rw[h2];exact⟨a1,a2,a3,h5⟩
  ·rw[hw];rcases I.und c hc with h|⟨x,D0,e,h1,h2,h3,h4⟩
   ·exact .inl h
   ·obtain⟨D',g1,g2,_⟩:=WA x D0 h2;exact .inr ⟨x,D',e,h1,g1,by rw[g2];exact h3,h4⟩
  ·obtain⟨D0,g1,g2,g3,_⟩:=hback x D' h1;rw[Nl,g3];exact I.tag x D0 e g1 (by rw[←g2];exact h2)
  ·obtain⟨D0,g1,g2,g3,g4,_⟩:=hback x D' h1;rw[hw]at h4⊢;rw[g2]at h3 h6;exact I.pre x D0 i j e e' g1 (g4 h2) h3 h4 h5 h6
  ·obtain⟨D0,g1,g2,g3,_⟩:=hback x D' h1;rw[g2];exact I.done x D0 g1 (g3.1 h2)
  ·obtain⟨D',g1,g2,g3,_⟩:=WA x D0 h;exact⟨D',g1,g2,g3⟩
  ·refine⟨{D with st:=2},by rw[vx,if_pos rfl],rfl,au⟩
 ·rw[AQ s hd h0];exact⟨I,JR.refl s,D,hd,rfl,h0⟩
theorem JInv.do(I:JInv Z s)(hd:s.ds d=some D)(hall:D.st=0->∀e∈D.es,s.w e.cell=aI d):JInv Z (s.decide d 1)/\JR n s (s.decide d 1)/\∃D',(s.decide d 1).ds d=some D'/\D'.es=D.es/\D'.st≠0:=by
 by_cases h0:D.st=0
 ·have hall:=hall h0;rw[Dj s hd h0];have vx:∀x,({s with ds:=λx=>if x=d then some {D with st:=1}else s.ds x}:JS).ds x=if x=d then some {D with st:=1}else s.ds x:=λx=>rfl
  generalize hs':({s with ds:=λx=>if x=d then some {D with st:=1}else s.ds x}:JS)=s' at vx;have hw:∀x,s'.w x=s.w x:=λx=>by subst hs';rfl
  have hlen:s'.ws=s.ws:=by subst hs';rfl
  have Tz:s'.made=s.made:=by subst hs';rfl
  obtain⟨hd8,hD,Mu,_⟩:=I.desc d D hd;have hdd:s'.ds d=some {D with st:=1}:=by rw[vx,if_pos rfl]
  have yt:∀x,x≠d->s'.ds x=s.ds x:=λx hx=>by rw[vx,if_neg hx]
  have hback:∀x D',s'.ds x=some D'->(x=d/\D'={D with st:=1})\/(x≠d/\s.ds x=some D'):=λx D' h=>by
   by_cases e:x=d
   ·subst e;rw[hdd]at h;exact .inl ⟨rfl,(aP h).symm⟩
   ·rw[yt x e]at h;exact .inr ⟨e,h⟩
  have hold:∀e∈D.es,s.lw e.cell=e.old:=λe he=>by rw[JS.rA (hall e he) hd hD he rfl,if_neg ae]
  have hnew:∀e∈D.es,s'.lw e.cell=dg e.old e.next:=λe he=>by rw[JS.rA (D:={D with st:=1}) (by rw[hw];exact hall e he) hdd hD he rfl,if_pos rfl]
  have bT:∀c,(∀e∈D.es,e.cell≠c)->s'.lw c=s.lw c:=λc hc=>by
   unfold JS.lw;rw[hw];by_cases gw:s.w c<0
   ·have hx:(-(s.w c) -1).toNat≠d:=λe=>(by have hu:s.w c=aI d:=(by unfold aI;omega);obtain⟨_,D1,e1,h1,h2,h3⟩:=I.cell hu;rw[hd]at h1;obtain rfl:=aP h1;exact hc e1 h2 h3);have e1:s'.es (-(s.w c) -1).toNat=s.es (-(s.w c) -1).toNat:=(by simp only[JS.es,yt _ hx]);have e2:s'.st (-(s.w c) -1).toNat=s.st (-(s.w c) -1).toNat:=(by simp only[JS.st,yt _ hx]);rw[e1,e2]
   ·rw[if_neg gw,if_neg gw]
  have htg:∀e∈D.es,jB (s'.lw e.cell)=jB (s.lw e.cell) +1:=λe he=>by have h1:=I.cnt e.cell (hD.ok e he).1;have h2:=aas s;rw[hold e he]at h1⊢;rw[hnew e he,EN _ _ ae]
  have htl:∀c,jB (s.lw c)<=jB (s'.lw c)/\jB (s'.lw c)<=jB (s.lw c) +1:=λc=>by
   by_cases h:∃e∈D.es,e.cell=c
   ·obtain⟨e,he,rfl⟩:=h;rw[htg e he];omega
   ·rw[bT c (λe he hc=>h ⟨e,he,hc⟩)];omega
  have TA:s'.cnt=s.cnt+1:=by
   unfold JS.cnt;have key:∀m,((List.range m).filter λx=>s'.st x==1).length=((List.range m).filter λx=>s.st x==1).length+if d<m then 1 else 0:=λm=>by
    induction m with
    |zero=>simp
    |succ m ih=>
     rw[sK,List.filter_append,List.filter_append,mM,mM,ih];by_cases e:m=d
     ·subst e;have h1:s'.st m=1:=(by rw[iI hdd]);have h2:s.st m=0:=(by rw[iI hd,h0]);simp[h1,h2]
     ·have h1:s'.st m=s.st m:=(by simp only[JS.st,yt m e]);have h2:List.filter (λx=>s'.st x==1) [m]=List.filter (λx=>s.st x==1) [m]:=(by simp only[List.filter_cons,h1,List.filter_nil]);rw[h2];by_cases h:d<m
      ·rw[if_pos h,if_pos ae];omega
      ·rw[if_neg h,if_neg ae];omega
   rw[key 8192,if_pos hd8]
  have hturn:=Z.turn s.val D.es s'.val I.all Mu hD (λe he=>by unfold JS.val;rw[hold e he]) (λe he=>by obtain⟨_,_,_,a3,a4⟩:=hD.ok e he;unfold JS.val;rw[hnew e he];exact(mH e.old e.next a3 a4).2.2) (λc _ hc=>by unfold JS.val;rw[bT c hc]);refine⟨⟨by rw[hlen];exact I.len,λk m hk hm=>?_,λx D' h=>?_,λc hc=>?_,λx D' e h1 h2=>?_,λx D' i j e e' h1 h2 h3 h4 h5 h6=>?_,λc hc=>?_,hturn.1,λx D' h1 h2=>?_⟩,⟨λx D0 h=>?_,λx D0 D' c h1 h2 h3 h4=>by rw[hw];exact h4,λc hc=>(htl c).1⟩,_,hdd,rfl,au⟩
  ·rw[Tz]at hm;have:=I.fresh k m hk hm;rw[yt _ (λh=>by rw[h,hd]at this;cases this)];exact this
  ·rcases hback x D' h with⟨rfl,rfl⟩|⟨_,h⟩
   ·exact⟨hd8,hD,Mu,au⟩
   ·exact I.desc x D' h
  ·rw[hw];rcases I.und c hc with h|⟨x,D0,e,h1,h2,h3,h4⟩
   ·exact .inl h
   ·by_cases ex:x=d
    ·subst ex;rw[hd]at h2;obtain rfl:=aP h2;exact .inr ⟨x,_,e,h1,hdd,h3,h4⟩
    ·exact .inr ⟨x,D0,e,h1,by rw[yt x ex];exact h2,h3,h4⟩
  ·rcases hback x D' h1 with⟨rfl,rfl⟩|⟨_,h⟩
   ·have h2:e∈D.es:=h2;rw[htg e h2,hold e h2];exact⟨ae,λ_=>ae⟩
   ·obtain⟨a1,a2⟩:=I.tag x D' e h h2;have:=(htl e.cell).1;exact⟨ae,λh=>by have:=a2 h;omega⟩
  ·rcases hback x D' h1 with⟨rfl,rfl⟩|⟨_,h⟩
   ·simp at h2
   ·rw[hw]at h4⊢;exact I.pre x D' i j e e' h h2 h3 h4 h5 h6
  ·have:=I.cnt c hc;have:=(htl c).2;rw[TA];omega
  ·rcases hback x D' h1 with⟨rfl,rfl⟩|⟨_,h⟩
   ·exact hturn.2
   ·exact I.done x D' h h2
  ·by_cases e:x=d
   ·subst e;rw[hd]at h;obtain rfl:=aP h;exact⟨_,hdd,rfl,λh=>absurd h0 h⟩
   ·exact⟨D0,by rw[yt x e];exact h,rfl,λ_=>rfl⟩
 ·rw[AQ s hd h0];exact⟨I,JR.refl s,D,hd,rfl,h0⟩
theorem JInv.make(I:JInv Z s){es:List cX}(hk:k<8)(hm:s.made k<1024)(hes:AP n es)(h0:Z.D0 es)(ht:∀e∈es,jB e.old<=jB (s.lw e.cell)):JInv Z (s.make k es)/\JR n s (s.make k es)/\(s.make k es).ds (k+8*s.made k)=some ⟨es,0⟩:=by
 have sI:=I.fresh k (s.made k) hk (aY _);generalize hd:k+8*s.made k=d at sI;have vx:∀x,(s.make k es).ds x=if x=d then some ⟨es,0⟩else s.ds x:=λx=>by rw[←hd];rfl
 have hw:∀x,(s.make k es).w x=s.w x:=λx=>rfl;have Bf:∀x,(s.make k es).made x=if x=k then s.made k+1 else s.made x:=λx=>rfl
 have hlen:(s.make k es).ws=s.ws:=rfl;generalize s.make k es=s' at*;have yt:∀x,x≠d->s'.ds x=s.ds x:=λx hx=>by rw[vx,if_neg hx]
 have mB:∀c,s.w c≠aI d:=λc h=>by obtain⟨_,D,_,h1,_⟩:=I.cell h;rw[sI]at h1;cases h1
 have Nl:∀c,s'.lw c=s.lw c:=λc=>by
  unfold JS.lw;rw[hw];by_cases gw:s.w c<0
  ·have hx:(-(s.w c) -1).toNat≠d:=λe=>mB c (by unfold aI;omega);have e1:s'.es (-(s.w c) -1).toNat=s.es (-(s.w c) -1).toNat:=(by simp only[JS.es,yt _ hx]);have e2:s'.st (-(s.w c) -1).toNat=s.st (-(s.w c) -1).toNat:=(by simp only[JS.st,yt _ hx]);rw[e1,e2]
  ·rw[if_neg gw,if_neg gw]
 have hst:∀x,s'.st x=s.st x:=λx=>by
  by_cases e:x=d
  ·subst e;simp[JS.st,vx,sI]
  ·simp only[JS.st,yt x e]
 have hval:s'.val=s.val:=by funext x;unfold JS.val;rw[Nl]
 have TA:s'.cnt=s.cnt:=by unfold JS.cnt;simp only[hst]
 have hback:∀x D',s'.ds x=some D'->(x=d/\D'=⟨es,0⟩)\/s.ds x=some D':=λx D' h=>by
  by_cases e:x=d
  ·subst e;rw[vx,if_pos rfl]at h;exact .inl ⟨rfl,(aP h).symm⟩
  ·rw[yt x e]at h;exact .inr h
 have hne:∀x D,s.ds x=some D->x≠d:=λx D h e=>by rw[e,sI]at h;cases h
 refine⟨⟨by rw[hlen];exact I.len,λk' m xK vP=>?_,λx D' h=>?_,λc hc=>?_,λx D' e h1 h2=>?_,λx D' i j e e' h1 h2 h3 h4 h5 h6=>?_,λc hc=>by rw[Nl,TA];exact I.cnt c hc,by rw[hval];exact I.all,λx D' h1 h2=>?_⟩,⟨λx D h=>⟨D,by rw[yt x (hne x D h)];exact h,rfl,λ_=>rfl⟩,λx D0 D' c h1 h2 h3 h4=>by rw[hw];exact h4,λc hc=>by rw[Nl];exact Int.le_refl _⟩,by rw[vx,if_pos rfl]⟩
 ·rw[Bf]at vP;by_cases e:k'=k
  ·subst e;rw[if_pos rfl]at vP;rw[yt _ ae];exact I.fresh k' m xK ae
  ·rw[if_neg e]at vP;rw[yt _ ae];exact I.fresh k' m xK vP
 ·rcases hback x D' h with⟨rfl,rfl⟩|h
  ·exact⟨ae,hes,h0,au⟩
  ·exact I.desc x D' h
 ·rw[hw];rcases I.und c hc with h|⟨x,D0,e,h1,h2,h3,h4⟩
  ·exact .inl h
  ·exact .inr ⟨x,D0,e,h1,by rw[yt x (hne x D0 h2)];exact h2,h3,h4⟩
 ·rw[Nl];rcases hback x D' h1 with⟨rfl,rfl⟩|h
  ·exact⟨ht e h2,λh=>bY⟩
  ·exact I.tag x D' e h h2
 ·rw[hw]at h4⊢;rcases hback x D' h1 with⟨rfl,rfl⟩|h
  ·exact absurd h4 (mB _)
  ·exact I.pre x D' i j e e' h h2 h3 h4 h5 h6
 ·rcases hback x D' h1 with⟨rfl,rfl⟩|h
  ·cases h2
  ·exact I.done x D' h h2
end
end
section
open Go.Proofs.YtfmibhmknlnoiaaGreat.Pr
section
variable{n:Nat}{Z:vF n}{i:Nat}{es:List cX}
def Knows(s:JS)(d:Nat)(es:List cX)(i:Nat):Prop:=∃D,s.ds d=some D/\D.es=es/\(D.st=0->∀(j:Nat) e,j<i->es[j]? =some e->s.w e.cell=aI d)
def fP(s:JS)(d:Nat)(es:List cX):Prop:=∃D,s.ds d=some D/\D.es=es/\D.st≠0
def mz(s:JS)(d:Nat)(es:List cX):Prop:=∃D,s.ds d=some D/\D.es=es/\D.st=1
theorem Knows.rely(h:Knows s d es i)(g:JR n s s'):Knows s' d es i:=by
 obtain⟨D,h1,h2,h3⟩:=h;obtain⟨D',g1,g2,g3⟩:=g.ds d D h1;refine⟨D',g1,g2.trans h2,λh0 j e hj he=>?_⟩;have hD:D.st=0:=cY λhc=>by rw[g3 hc]at h0;exact hc h0
 exact g.und d D D' _ h1 g1 h0 (h3 hD j e hj he)
theorem Knows.less(h:Knows s d es i)(hi:i'<=i):Knows s d es i':=by obtain⟨D,h1,h2,h3⟩:=h;exact⟨D,h1,h2,λh0 j e hj he=>h3 h0 j e ae he⟩
theorem Knows.more(h:Knows s d es i){e:cX}(he:es[i]? =some e)(hw:s.w e.cell=aI d):Knows s d es (i+1):=by
 obtain⟨D,h1,h2,h3⟩:=h;refine⟨D,h1,h2,λh0 j e' hj Ap=>?_⟩;by_cases E0:j=i
 ·subst E0;rw[he]at Ap;obtain rfl:=aP Ap;exact hw
 ·exact h3 h0 j e' ae Ap
theorem fP.rely(h:fP s d es)(g:JR n s s'):fP s' d es:=by obtain⟨D,h1,h2,h3⟩:=h;obtain⟨D',g1,g2,g3⟩:=g.ds d D h1;exact⟨D',g1,g2.trans h2,by rw[g3 h3];exact h3⟩
theorem mz.rely(h:mz s d es)(g:JR n s s'):mz s' d es:=by obtain⟨D,h1,h2,h3⟩:=h;obtain⟨D',g1,g2,g3⟩:=g.ds d D h1;exact⟨D',g1,g2.trans h2,by rw[g3 ae];exact h3⟩
theorem Ik{o v:Int}{Q:Bool->JS->Prop}(h:∀s',JInv Z s'->JR n s s'->JInv Z (s'.uo c o v)/\JR n s' (s'.uo c o v)/\Q (s'.w c==o) (s'.uo c o v)):(casP c o v).Safe (JInv Z) (JR n) Q s:=λs' h1 h2=>h s' h1 h2
theorem Ck(hh:∀d' s,JInv Z s->s.ds d'≠none->(fK d').Safe (JInv Z) (JR n) (λ_ _=>True) s):∀f i s,JInv Z s->Knows s d es i->
  (installsP fK d es f i).Safe (JInv Z) (JR n) (λok s'=>(ok=true->Knows s' d es es.length)/\(ok=false->fP s' d es)) s:=by
 intro f;induction f with
 |zero=>exact λ_ _ _ _=>trivial
 |succ f ih=>
  intro i s hI hK;unfold installsP;cases he:es[i]? with
  |none=>refine⟨λ_=>hK.less ?_,λh=>bY⟩;exact List.getElem?_eq_none_iff.1 he
  |some e=>
   simp only[];intro s1 uP hR1;have hK1:=hK.rely hR1;refine⟨uP,JR.refl _,?_⟩;obtain⟨D1,NN,VW,Wi⟩:=hK1;by_cases h0:s1.st d≠0
   ·simp only[id,if_pos h0];refine Pr.Safe.nN ?_;exact⟨λh=>bY,λ_=>⟨D1,NN,VW,by rw[←iI NN];exact h0⟩⟩
   ·simp only[id,if_neg h0];refine Pr.Safe.bind (Q:=λok s2=>Knows s2 d es i/\(ok=true->Knows s2 d es (i+1))) (λok s2 xP ⟨hK2,aeD⟩=>?_) uP (Ik λs2 xP hR2=>?_)
    ·cases ok with
     |true=>exact ih _ _ xP (aeD rfl)
     |false=>
      simp only[dS,if_false];intro s3 TB hR3;have hK3:=hK2.rely hR3;refine⟨TB,JR.refl _,?_⟩;simp only[id];by_cases hu:s3.w e.cell=aI d
      ·rw[if_pos hu];exact ih _ _ TB (hK3.more he hu)
      ·rw[if_neg hu];by_cases hn:s3.w e.cell<0
       ·rw[if_pos hn];obtain⟨d',r9⟩:∃d':Nat,s3.w e.cell=aI d':=⟨(-(s3.w e.cell) -1).toNat,by unfold aI;omega⟩;have hx:(-(s3.w e.cell) -1).toNat=d':=(by rw[r9];unfold aI;omega);rw[hx];obtain⟨_,D',_,YK,_⟩:=TB.cell r9;refine Pr.Safe.bind (λ_ s4 hI4 h4=>ih _ _ hI4 (hK3.rely h4.2)) TB (Pr.Safe.rely JR.trans (JR.refl _) (hh d' s3 TB (by rw[YK];simp)))
       ·rw[if_neg hn];intro s4 hI4 hR4;obtain⟨D4,hd4,he4,_⟩:=hK3.rely hR4;obtain⟨g1,g2,D5,g3,g4,g5⟩:=hI4.acU hd4;refine⟨g1,g2,Pr.Safe.nN ?_⟩;exact⟨λh=>bY,λ_=>⟨D5,g3,g4.trans he4,g5⟩⟩
    ·have hK2:Knows s2 d es i:=Knows.rely ⟨D1,NN,VW,Wi⟩ hR2;obtain⟨D2,Ct,he2,uq⟩:=id hK2;obtain⟨g1,g2,g3⟩:=xP.install Ct (by rw[he2];exact he) (λh0 j e' hj hej=>uq h0 j e' hj (by rw[←he2];exact hej));refine⟨g1,g2,hK2.rely g2,λhb=>(hK2.rely g2).more he (g3 (beq_iff_eq.1 hb))⟩
theorem AU{b:Bool}:∀(l:List cX) (s:JS),(∀e∈l,e∈es)->JInv Z s->fP s d es->(b=true↔mz s d es)->(iy d b l).Safe (JInv Z) (JR n) (λ_ s'=>fP s' d es/\(b=true↔mz s' d es)) s:=by
 intro l;have hst:∀{s s':JS},fP s d es->(b=true↔mz s d es)->JR n s s'->(b=true↔mz s' d es):=λ{s s'} h1 h2 h3=>by refine⟨λh=>(h2.1 h).rely h3,λh=>?_⟩;obtain⟨D,a1,a2,a3⟩:=h1;obtain⟨D',b1,b2,b3⟩:=h3.ds d D a1;obtain⟨D2,c1,c2,c3⟩:=h;rw[b1]at c1;obtain rfl:=aP c1;exact h2.2 ⟨D,a1,a2,by rw[←b3 a3];exact c3⟩
 induction l with
 |nil=>exact λs _ _ h1 h2=>⟨h1,h2⟩
 |cons e l ih=>
  intro s hl hI hD hb;unfold iy;refine Pr.Safe.bind (Q:=λ_ s2=>fP s2 d es/\(b=true↔mz s2 d es)) (λ_ s2 xP h2=>ih s2 (λe he=>hl e (gJ _ he)) xP h2.1 h2.2) hI (Ik λs2 xP hR2=>?_);have GS:=hD.rely hR2;have hb2:=hst hD hb hR2;obtain⟨D,h1,h2,h3⟩:=id GS;obtain⟨g1,g2⟩:=xP.clean (v:=if b=true then dg e.old e.next else e.old) h1 (by rw[h2];exact hl e (jE ..)) h3 (by
   by_cases NN:D.st=1
   ·rw[if_pos (hb2.2 ⟨D,h1,h2,NN⟩),if_pos NN]
   ·rw[if_neg NN,if_neg];intro hb1;obtain⟨D',c1,_,c3⟩:=hb2.1 hb1;rw[h1]at c1;obtain rfl:=aP c1;exact NN c3)
  exact⟨g1,g2,GS.rely g2,hst GS hb2 g2⟩
theorem Dk:∀(f d:Nat) (s:JS) (D:qZ),JInv Z s->s.ds d=some D->(jI f d).Safe (JInv Z) (JR n) (λok s'=>ok=true->mz s' d D.es) s:=by
 intro f;induction f with
 |zero=>exact λ_ _ _ _ _=>trivial
 |succ f ih=>
  intro d s D hI hd;unfold jI;refine⟨hI,JR.refl _,?_⟩;have hes:(id s:JS).es d=D.es:=by simp[JS.es,hd]
  simp only[id]at hes⊢;rw[hes];refine Pr.Safe.bind (Q:=λok s'=>(ok=true->Knows s' d D.es D.es.length)/\(ok=false->fP s' d D.es)) (λok s1 uP h1=>?_) hI (Ck (λd' s' hI' r9=>?_) f 0 s hI ⟨D,hd,rfl,λ_ j _ hj=>ae⟩)
  ·refine Pr.Safe.bind (Q:=λ_ s'=>fP s' d D.es) (λ_ s2 xP h2=>?_) uP ?_
   ·intro s3 TB hR3;have h3:=h2.rely hR3;refine⟨TB,JR.refl _,?_⟩;simp only[id];have aat:decide (s3.st d=1)=true↔mz s3 d D.es:=(by obtain⟨D3,a1,a2,a3⟩:=id h3;rw[decide_eq_true_iff,iI a1];refine⟨λh=>⟨D3,a1,a2,h⟩,λ⟨D4,b1,b2,b3⟩=>?_⟩;rw[a1]at b1;obtain rfl:=aP b1;exact b3);refine Pr.Safe.bind (λ_ s4 hI4 h4=>?_) TB (AU D.es s3 (λ_ h=>h) TB h3 aat);exact λh=>h4.2.1 h
   ·cases ok with
    |true=>intro s3 TB hR3;obtain⟨D3,a1,a2,a3⟩:=(h1.1 rfl).rely hR3;obtain⟨g1,g2,D4,g3,g4,g5⟩:=TB.do a1 (λh0 e he=>by rw[a2]at he;obtain⟨j,hj⟩:=pN.1 he;exact a3 h0 j e (eL.1 hj).1 hj);exact⟨g1,g2,D4,g3,g4.trans a2,g5⟩
    |false=>exact h1.2 rfl
  ·obtain⟨D',h'⟩:=kU.1 r9;exact Pr.Safe.mono (λ_ _ _ _=>trivial) hI' (ih d' s' D' hI' h')
theorem rV(F:Nat)(hc:c<n):∀(f:Nat) (s:JS),JInv Z s->(gh F f c).Safe (JInv Z) (JR n) (λh s'=>0<=h/\h<=1152921504606846975/\jB h<=jB (s'.lw c)) s:=by
 intro f;induction f with
 |zero=>exact λ_ _=>trivial
 |succ f ih=>
  intro s hI;unfold gh;intro s1 uP hR1;refine⟨uP,JR.refl _,?_⟩;simp only[id];rcases uP.und c hc with h1|⟨d',D',e,h1,h2,h3,h4⟩
  ·rw[if_neg ae];exact⟨h1.1,h1.2,by rw[JS.my h1.1];exact Int.le_refl _⟩
  ·rw[if_pos (by rw[h1];exact iT _),show(-(s1.w c) -1).toNat=d' by rw[h1];unfold aI;omega];exact Pr.Safe.bind (λ_ s2 xP _=>ih s2 xP) uP (Dk F d' s1 D' uP h2)
theorem Dl(F:Nat)(hk:k<8)(hI:JInv Z s)(hes:AP n es)(h0:Z.D0 es)(ht:∀e∈es,jB e.old<=jB (s.lw e.cell)):(doesP F k es).Safe (JInv Z) (JR n) (λr _=>(r.1=true->r.2=0/\Z.D1 es)/\(r.2=0\/r.2=261)) s:=by
 unfold doesP;refine⟨hI,JR.refl _,?_⟩;simp only[id];by_cases hm:1024<=s.made k
 ·rw[if_pos hm];refine Pr.Safe.nN ?_;exact⟨λh=>bY,.inr rfl⟩
 ·rw[if_neg hm];obtain⟨g1,g2,g3⟩:=hI.make hk ae hes h0 ht;refine⟨g1,g2,?_⟩;refine Pr.Safe.bind (λok s2 xP h2=>Pr.Safe.nN ⟨λh=>⟨rfl,?_⟩,.inl rfl⟩) g1 (Dk F _ _ _ g1 g3);obtain⟨D,a1,a2,a3⟩:=h2 h;have a2:D.es=es:=a2;rw[←a2];exact xP.done _ D a1 a3
theorem AV{pr:β->Bool×Int}{q:oF β}{Q:β->JS->Prop}(hq:∀s,JInv Z s->q.Safe (JInv Z) (JR n) Q s):∀(m:Nat) (s:JS),JInv Z s->(againG pr q m).Safe (JInv Z) (JR n) (λx s'=>Q x s'/\((pr x).1=true\/(pr x).2≠0)) s:=by
 intro m;induction m with
 |zero=>exact λ_ _=>trivial
 |succ m ih=>
  intro s hI;unfold againG;refine Pr.Safe.bind (λx s1 uP h1=>?_) hI (hq s hI);by_cases h:(pr x).1=true\/(pr x).2≠0
  ·simp only[if_pos h];exact Pr.Safe.nN ⟨h1,h⟩
  ·simp only[if_neg h];exact ih s1 uP
theorem LO(F:Nat):∀(l:List Nat) (s:JS),(∀c∈l,c<n)->JInv Z s->(eZ F l).Safe (JInv Z) (JR n) (λhs s'=>hs.length=l.length/\∀(i:Nat) (c:Nat) h,l[i]? =some c->hs[i]? =some h->0<=h/\h<=1152921504606846975/\jB h<=jB (s'.lw c)) s:=by
 intro l;induction l with
 |nil=>exact λs _ _=>⟨rfl,λi c h hi=>by simp at hi⟩
 |cons c l ih=>
  intro s hl hI;unfold eZ;have hc:=hl c (jE ..);refine Pr.Safe.bind (λh s1 uP h1=>?_) hI (rV F hc F s hI);refine Pr.Safe.bind (λhs s2 xP h2=>?_) uP (Pr.Safe.rely JR.trans (JR.refl _) (ih s1 (λc hc=>hl c (gJ _ hc)) uP));obtain⟨⟨g1,g2⟩,g3⟩:=h2;refine⟨by simp[g1],λi c' h' hi hh=>?_⟩;cases i with
  |zero=>simp at hi hh;subst hi hh;exact⟨h1.1,h1.2.1,Int.le_trans h1.2.2 (g3.tag c hc)⟩
  |succ i=>exact g2 i c' h' (by simpa using hi) (by simpa using hh)
theorem PH(F:Nat){c:Int}(hI:JInv Z s):(pT F n c).Safe (JInv Z) (JR n) (λ_ _=>True) s:=by
 unfold pT;by_cases h:0<=c/\c<n
 ·rw[if_pos h];exact Pr.Safe.bind (λ_ _ _ _=>Pr.Safe.nN trivial) hI (rV F ae F s hI)
 ·rw[if_neg h];exact λ_ _ _=>trivial
theorem PI(F:Nat)(hk:k<8){f t m:Int}(hZ:∀(a b:Nat) (h g x y:Int),x+y=aU h+aU g->Z.D0 [⟨a,h,x⟩,⟨b,g,y⟩])(hI:JInv Z s):(vw F k n f t m).Safe (JInv Z) (JR n) (λ_ _=>True) s:=by
 unfold vw;by_cases h:¬(0<=f/\f<n)\/¬(0<=t/\t<n)\/f=t
 ·rw[if_pos h];exact λ_ _ _=>trivial
 ·rw[if_neg h];by_cases hm:gS m=false
  ·rw[if_pos hm];exact λ_ _ _=>trivial
  ·rw[if_neg hm];refine Pr.Safe.mono (λ_ _ _ _=>trivial) hI (AV (Q:=λ_ _=>True) (λs hI=>?_) F s hI);have hm:0<=m/\m<=1048575:=(by simpa[gS]using hm);have hlt:(min f t).toNat< (max f t).toNat/\(max f t).toNat<n:=ae;generalize (min f t).toNat=a at*;generalize (max f t).toNat=b at*;unfold mq;refine Pr.Safe.bind (λh s1 uP h1=>?_) hI (rV F ae F s hI);refine Pr.Safe.bind (λg s2 xP h2=>?_) uP (Pr.Safe.rely JR.trans (JR.refl _) (rV F hlt.2 F s1 uP));obtain⟨⟨b1,b2,b3⟩,b4⟩:=h2;obtain⟨a1,a2,a3⟩:=h1;have a3:=Int.le_trans a3 (b4.tag a ae);have wb:∀x:Int,0<=x->x<=1152921504606846975->0<=aU x/\aU x<=1048575:=λx h1 h2=>(by unfold aU;omega);have w1:=wb h a1 a2;have w2:=wb g b1 b2;have key:∀x y:Int,0<=x->x<=1048575->0<=y->y<=1048575->x+y=aU h+aU g->(doesP F k [⟨a,h,x⟩,⟨b,g,y⟩]).Safe (JInv Z) (JR n) (λ_ _=>True) s2:=λx y x1 x2 y1 y2 e=>by
    refine Pr.Safe.mono (λ_ _ _ _=>trivial) xP (Dl F hk xP ⟨λe he=>?_,by simp[hlt.1]⟩ (hZ a b h g x y e) λe he=>?_)
    ·simp at he;rcases he with rfl|rfl
     ·exact⟨by show a<n;omega,a1,a2,x1,x2⟩
     ·exact⟨hlt.2,b1,b2,y1,y2⟩
    ·simp at he;rcases he with rfl|rfl
     ·exact a3
     ·exact b3
   clear hI uP;by_cases hs:t<f
   ·simp only[hs,decide_true,if_true];by_cases c1:aU g-m<0
    ·rw[if_pos c1];exact trivial
    ·rw[if_neg c1];by_cases c2:gS (aU h+m)=false
     ·rw[if_pos c2];exact trivial
     ·rw[if_neg c2];have c2:0<=aU h+m/\aU h+m<=1048575:=(by simpa[gS]using c2);exact key _ _ ae ae ae ae ae
   ·simp only[hs,decide_false,dS,if_false];by_cases c1:aU h-m<0
    ·rw[if_pos c1];exact trivial
    ·rw[if_neg c1];by_cases c2:gS (aU g+m)=false
     ·rw[if_pos c2];exact trivial
     ·rw[if_neg c2];have c2:0<=aU g+m/\aU g+m<=1048575:=(by simpa[gS]using c2);exact key _ _ ae ae ae ae ae
def rB(hs:List Int):List cX:=hs.zipIdx.map λp=>⟨p.2,p.1,aU p.1⟩
theorem rW(hs:List Int)(i:Nat):(rB hs)[i]? =(hs[i]?).map λh=>⟨i,h,aU h⟩:=by unfold rB;rw[ml,List.getElem?_zipIdx];cases hs[i]? <;>simp
theorem xp{e:cX}(h:e∈rB hs):hs[e.cell]? =some e.old/\e.next=aU e.old:=by
 obtain⟨i,hi⟩:=pN.1 h;rw[rW]at hi;cases hh:hs[i]? with
 |none=>rw[hh]at hi;cases hi
 |some x=>rw[hh]at hi;simp at hi;subst hi;exact⟨hh,rfl⟩
theorem TC(hl:hs.length=n)(hb:∀h∈hs,0<=h/\h<=1152921504606846975):AP n (rB hs):=by
 refine⟨λe he=>?_,?_⟩
 ·obtain⟨h1,h2⟩:=xp he;obtain⟨h3,h4⟩:=eL.1 h1;have:=hb e.old (by rw[←h4];exact pP _);refine⟨ae,this.1,this.2,?_,?_⟩ <;>rw[h2] <;>unfold aU<;>omega
 ·rw[List.pairwise_iff_getElem];intro i j hi hj pM;have e1:=eA hi;have e2:=eA hj;rw[rW]at e1 e2;cases h1:hs[i]? with
  |none=>rw[h1]at e1;cases e1
  |some x=>
   cases h2:hs[j]? with
   |none=>rw[h2]at e2;cases e2
   |some y=>rw[h1]at e1;rw[h2]at e2;simp at e1 e2;rw[←e1,←e2];exact pM
theorem PK(F:Nat)(hk:k<8)(hZ:∀hs:List Int,hs.length=n->(∀h∈hs,0<=h/\h<=1152921504606846975)->Z.D0 (rB hs))(hI:JInv Z s):(sR F k n).Safe (JInv Z) (JR n) (λr _=>r.2=0->∃hs:List Int,hs.length=n/\r.1=hs.map aU/\Z.D1 (rB hs)) s:=by
 unfold sR;refine Pr.Safe.bind (λr s1 uP h1=>?_) hI (AV (Q:=λ(r:(Bool×Int)×List Int) _=>r.1.1=true->r.1.2=0/\∃hs:List Int,hs.length=n/\r.2=hs.map aU/\Z.D1 (rB hs)) (λs hI=>?_) F s hI)
 ·by_cases h:r.1.2≠0
  ·simp only[if_pos h];exact λh'=>absurd h' h
  ·simp only[if_neg h];intro _;rcases h1.2 with h2|h2
   ·exact(h1.1 h2).2
   ·exact absurd h2 h
 ·unfold iG;refine Pr.Safe.bind (λhs s1 uP h1=>?_) hI (LO F (List.range n) s (λc hc=>by simpa using hc) hI);obtain⟨hl,hb⟩:=h1;have hl:hs.length=n:=by simpa using hl
  have hb:∀i h,hs[i]? =some h->0<=h/\h<=1152921504606846975/\jB h<=jB (s1.lw i):=λi h hi=>hb i i h (by have:=(eL.1 hi).1;simp[List.getElem?_range,hl▸this]) hi;have hbm:∀h∈hs,0<=h/\h<=1152921504606846975:=λh hm=>by obtain⟨i,hi⟩:=pN.1 hm;obtain⟨a1,a2,_⟩:=hb i h hi;exact⟨a1,a2⟩
  refine Pr.Safe.bind (λr s2 xP h2=>?_) uP (Dl (es:=rB hs) F hk uP (TC hl hbm) (hZ hs hl hbm) λe he=>(hb _ _ (xp he).1).2.2);exact Pr.Safe.nN λh=>⟨(h2.1 h).1,hs,hl,rfl,(h2.1 h).2⟩
end
section
def Pr.js(Q:α->σ->Prop):Pr σ α->σ->Prop
 |.ret a,s=>Q a s
 |.line p,s=>Pr.js Q p s
 |.eff f k,s=>Pr.js Q (k s) (f s)
 |.stop,_=>False
theorem Pr.js.nN{Q:α->σ->Prop}{a:α}{s:σ}(h:Q a s):(Pr.ret a).js Q s:=h
theorem Pr.js.mono{Q:α->σ->Prop}(h:∀a s,Q a s->Q' a s):∀{p:Pr σ α} {s:σ},p.js Q s->p.js Q' s:=by
 intro p;induction p with
 |ret a=>exact λhp=>h _ _ hp
 |line p ih=>exact λhp=>ih hp
 |eff f k ih=>exact λhp=>ih _ hp
 |stop=>exact λhp=>hp
theorem Pr.js.bind{Q:α->σ->Prop}{Q':β->σ->Prop}{k:α->Pr σ β}(h:∀a s,Q a s->(k a).js Q' s):∀{p:Pr σ α} {s:σ},p.js Q s->(p.bind k).js Q' s:=by
 intro p;induction p with
 |ret a=>exact λhp=>h _ _ hp
 |line p ih=>exact λhp=>ih hp
 |eff f q ih=>exact λhp=>ih _ hp
 |stop=>exact λhp=>hp.elim
theorem Pr.js.alone{Q:α->σ->Prop}:∀{p:Pr σ α} {s:σ},p.js Q s->∃a s',p.alone s=some (a,s')/\Q a s':=by
 intro p;induction p with
 |ret a=>exact λ{s} hp=>⟨a,s,rfl,hp⟩
 |line p ih=>exact λhp=>ih hp
 |eff f k ih=>exact λ{s} hp=>ih s hp
 |stop=>exact λhp=>hp.elim
theorem Pr.js.safe(hr:∀a,R a a)(ht:∀a b c,R a b->R b c->R a c){Q:α->σ->Prop}:∀{p:Pr σ α} {s:σ},I s->p.Safe I R Q s->p.js Q' s->p.js (λa s'=>Q' a s'/\Q a s'/\I s'/\R s s') s:=by
 intro p;induction p with
 |ret a=>exact λhI h1 h2=>⟨h2,h1,hI,hr _⟩
 |line p ih=>exact λ{s} hI h1 h2=>ih hI (h1 s hI (hr s)) h2
 |eff f k ih=>exact λ{s} hI h1 h2=>Pr.js.mono (λa s' ⟨a1,a2,a3,a4⟩=>⟨a1,a2,a3,ht _ _ _ h1.2.1 a4⟩) (ih s h1.1 h1.2.2 h2)
 |stop=>exact λ_ _ h=>h.elim
end
section
variable{n:Nat}{Z:vF n}
theorem X6(s:JS)(hl:s.ws.length=n)(hc:c<n)(o v:Int)(x:Nat):(s.uo c o v).w x=if s.w c=o/\c=x then v else s.w x:=by
 unfold JS.uo;by_cases h:s.w c=o
 ·rw[if_pos h,JS.GK _ _ _ _ ae];by_cases e:c=x
  ·rw[if_pos e,if_pos ⟨h,e⟩]
  ·rw[if_neg e,if_neg (λh'=>e h'.2)]
 ·rw[if_neg h,if_neg (λh'=>h h'.1)]
theorem vG(s:JS)(d v x:Nat):(s.decide d v).w x=s.w x:=by unfold JS.decide;split<;>rfl
theorem PL{b:Bool}:∀(l:List cX) (s:JS),s.ws.length=n->(∀e∈l,e.Ok n)->(iy d b l).js (λ_ s'=>∀x,(s.w x≠aI d->s'.w x=s.w x)/\(s.w x=aI d->(∃e∈l,e.cell=x)->0<=s'.w x)/\(s'.w x<0->s'.w x=s.w x)) s:=by
 intro l;induction l with
 |nil=>exact λs _ _ x=>⟨λ_=>rfl,λ_ ⟨e,he,_⟩=>by(cases he),λ_=>rfl⟩
 |cons e l ih=>
  intro s hl hok;unfold iy;obtain⟨hc,a1,a2,a3,a4⟩:=hok e (jE ..);have hv:0<=(if b=true then dg e.old e.next else e.old):=by
   split
   ·exact(mH e.old e.next a3 a4).1
   ·exact a1
  generalize (if b=true then dg e.old e.next else e.old)=v at*;show Pr.js _ (iy d b l) (s.uo e.cell (aI d) v);have hw:=X6 s hl hc (aI d) v;have hl1:(s.uo e.cell (aI d) v).ws.length=n:=by unfold JS.uo;split<;>simpa using hl
  generalize s.uo e.cell (aI d) v=s1 at*;refine Pr.js.mono (λ_ s' h x=>?_) (ih s1 hl1 (λe he=>hok e (gJ _ he)));obtain⟨h1,h2,h3⟩:=h x;have hwx:=hw x;have hd:=iT d;by_cases hu:s.w x=aI d
  ·refine⟨λh=>absurd hu h,λ_ he=>?_,λh=>?_⟩
   ·by_cases ex:e.cell=x
    ·subst ex;rw[if_pos ⟨hu,rfl⟩]at hwx;rw[h1 (by rw[hwx];omega),hwx];exact hv
    ·rw[if_neg (λh=>ex h.2)]at hwx;obtain⟨e',Ap,hx⟩:=he;refine h2 (by rw[hwx];exact hu) ⟨e',?_,hx⟩;rcases dM.1 Ap with rfl|h
     ·exact absurd hx ex
     ·exact h
   ·have:=h3 h;by_cases ex:e.cell=x
    ·subst ex;rw[if_pos ⟨hu,rfl⟩]at hwx;omega
    ·rw[if_neg (λh=>ex h.2)]at hwx;omega
  ·have aau:s1.w x=s.w x:=(by rw[hwx,if_neg];rintro⟨h,rfl⟩;exact hu h);exact⟨λ_=>(h1 (by rw[aau];exact hu)).trans aau,λh=>absurd h hu,λh=>(h3 h).trans aau⟩
def X7(Z:vF n)(c:Nat)(fK:Nat->oF Bool):Prop:=∀(d:Nat) (s:JS),JInv Z s->s.w c=aI d->(fK d).js (λ_ s'=>JInv Z s'/\JR n s s'/\(∀x,s'.w x<0->s'.w x=s.w x/\s'.w x≠aI d)/\∀x,x<=c->0<=s.w x->s'.w x=s.w x) s
structure nd(Z:vF n)(d:Nat)(es:List cX)(c i:Nat)(s0 s:JS):Prop where
 inv:JInv Z s
 r:JR n s0 s
 kn:Knows s d es i
 neg:∀x,s.w x<0->s.w x=s0.w x\/s.w x=aI d
 low:∀x,x<=c->0<=s0.w x->s.w x=s0.w x
section
variable{es:List cX}
theorem nd.beyond(h0:s0.w c=aI d){i:Nat}(I0:JInv Z s0)(O:nd Z d es c i s0 s){e:cX}(he:es[i]? =some e)(hst:s.st d=0)(hw:s.w e.cell≠aI d):c<e.cell:=by
 obtain⟨D,h1,h2,h3⟩:=O.kn;rw[iI h1]at hst;obtain⟨_,D0,e0,a1,a2,a3⟩:=I0.cell h0;have hwc:=O.r.und d D0 D c a1 h1 hst h0;obtain⟨D1,b1,b2,_⟩:=O.r.ds d D0 a1;rw[h1]at b1;obtain rfl:=aP b1;have hm:e0∈D.es:=by rw[b2];exact a2
 obtain⟨j,hj⟩:=pN.1 hm;have hok:=(O.inv.desc d D h1).2.1;have Ap:D.es[i]? =some e:=by rw[h2];exact he
 have E0:j<i:=by
  apply cY;intro hc;rcases iC i j with h|h
  ·exact hw (O.inv.pre d D j i e0 e h1 hst hj (by rw[a3];exact hwc) h Ap)
  ·have:i=j:=ae;subst this;rw[Ap]at hj;obtain rfl:=aP hj;exact hw (by rw[a3];exact hwc)
 have hp:=List.pairwise_iff_getElem.1 hok.up;obtain⟨lj,rj⟩:=eL.1 hj;obtain⟨li,ri⟩:=eL.1 Ap;have:=hp j i lj li E0;rw[rj,ri]at this;omega
theorem EO(h0:s0.w c=aI d)(I0:JInv Z s0)(hh:∀c',c<c'->c'<n->X7 Z c' fK)(hlen:∀e∈es,e.Ok n):∀(k i f:Nat) (s:JS),es.length-i<=k->nd Z d es c i s0 s->
  (2*k+2<=f->(installsP fK d es f i).js (λok s'=>(ok=true->nd Z d es c es.length s0 s')/\(ok=false->nd Z d es c 0 s0 s'/\fP s' d es)) s)/\
  (2*k+1<=f->(∀e,es[i]? =some e->0<=s.w e.cell)->(installsP fK d es f i).js (λok s'=>(ok=true->nd Z d es c es.length s0 s')/\(ok=false->nd Z d es c 0 s0 s'/\fP s' d es)) s):=by
 intro k;induction k with
 |zero=>
  intro i f s hk O;have hn:es[i]? =none:=List.getElem?_eq_none_iff.2 ae;have key:1<=f->(installsP fK d es f i).js (λok s'=>(ok=true->nd Z d es c es.length s0 s')/\(ok=false->nd Z d es c 0 s0 s'/\fP s' d es)) s:=λhf=>by obtain⟨f,rfl⟩:∃f',f=f'+1:=⟨f-1,ae⟩;unfold installsP;rw[hn];refine Pr.js.nN ?_;exact⟨λ_=>⟨O.inv,O.r,O.kn.less ae,O.neg,O.low⟩,λh=>bY⟩
  exact⟨λh=>key ae,λh _=>key ae⟩
 |succ k ih=>
  intro i f s hk O;cases he:es[i]? with
  |none=>have:=ih i f s (by have:=List.getElem?_eq_none_iff.1 he;omega) O;exact⟨λh=>this.1 ae,λh _=>this.2 ae (λe h=>by rw[he]at h;cases h)⟩
  |some e=>
   have hem:=mX he;obtain⟨S6,ho1,_⟩:=hlen e hem;have plain:∀(f:Nat) (s:JS),nd Z d es c i s0 s->2*(k+1) +1<=f->(0<=s.w e.cell\/s.w e.cell=aI d)->(installsP fK d es f i).js (λok s'=>(ok=true->nd Z d es c es.length s0 s')/\(ok=false->nd Z d es c 0 s0 s'/\fP s' d es)) s:=by
    intro f s O hf hp;obtain⟨f,rfl⟩:∃f',f=f'+1:=⟨f-1,ae⟩;unfold installsP;rw[he];show Pr.js _ (if s.st d≠0 then _ else _) s;obtain⟨D,a1,a2,a3⟩:=id O.kn;by_cases hst:s.st d≠0
    ·rw[if_pos hst];refine Pr.js.nN ?_;exact⟨λh=>bY,λ_=>⟨⟨O.inv,O.r,O.kn.less ae,O.neg,O.low⟩,D,a1,a2,by rw[←iI a1];exact hst⟩⟩
    ·rw[if_neg hst];have hst:s.st d=0:=ae;obtain⟨g1,g2,g3⟩:=O.inv.install a1 (by rw[a2];exact he) (λh j e' hj hej=>a3 h j e' hj (by rw[←a2];exact hej));have hcw:=X6 s O.inv.len S6 e.old (aI d);show Pr.js _ (if(s.w e.cell==e.old)=true then _ else _) (s.uo e.cell e.old (aI d));by_cases hw:s.w e.cell=e.old
     ·rw[if_pos (by rw[hw];simp)];have hb:=O.beyond h0 I0 he hst (by rw[hw];have:=iT d;omega);refine(ih (i+1) f _ ae ⟨g1,JR.trans _ _ _ O.r g2,(O.kn.rely g2).more he (g3 hw),λx hx=>?_,λx hx h1=>?_⟩).1 ae
      ·rw[hcw]at hx⊢;by_cases ex:s.w e.cell=e.old/\e.cell=x
       ·rw[if_pos ex];exact .inr rfl
       ·rw[if_neg ex]at hx⊢;exact O.neg x hx
      ·rw[hcw,if_neg (λh=>ae)];exact O.low x hx h1
     ·rw[if_neg (by simpa using hw)];have hs:s.uo e.cell e.old (aI d)=s:=(by unfold JS.uo;rw[if_neg hw]);rw[hs];show Pr.js _ (if s.w e.cell=aI d then _ else _) s;by_cases hu:s.w e.cell=aI d
      ·rw[if_pos hu];exact(ih (i+1) f s ae ⟨O.inv,O.r,O.kn.more he hu,O.neg,O.low⟩).1 ae
      ·rw[if_neg hu,if_neg ae];obtain⟨u1,u2,D5,u3,u4,u5⟩:=O.inv.acU a1;show(false=true->_)/\(false=false->_);exact⟨λh=>bY,λ_=>⟨⟨u1,JR.trans _ _ _ O.r u2,(O.kn.rely u2).less ae,λx hx=>by rw[vG]at hx⊢;exact O.neg x hx,λx hx h1=>by rw[vG];exact O.low x hx h1⟩,D5,u3,u4.trans a2,u5⟩⟩
   refine⟨λhf=>?_,λhf hp=>plain f s O hf (.inl (hp e rfl))⟩;by_cases hp:0<=s.w e.cell\/s.w e.cell=aI d
   ·exact plain f s O ae hp
   ·obtain⟨Wi,uq⟩:s.w e.cell<0/\s.w e.cell≠aI d:=⟨ae,λh=>hp (.inr h)⟩;obtain⟨f,rfl⟩:∃f',f=f'+1:=⟨f-1,ae⟩;unfold installsP;rw[he];show Pr.js _ (if s.st d≠0 then _ else _) s;obtain⟨D,a1,a2,a3⟩:=id O.kn;by_cases hst:s.st d≠0
    ·rw[if_pos hst];refine Pr.js.nN ?_;exact⟨λh=>bY,λ_=>⟨⟨O.inv,O.r,O.kn.less ae,O.neg,O.low⟩,D,a1,a2,by rw[←iI a1];exact hst⟩⟩
    ·rw[if_neg hst];have hst:s.st d=0:=ae;have hw:s.w e.cell≠e.old:=ae;show Pr.js _ (if(s.w e.cell==e.old)=true then _ else _) (s.uo e.cell e.old (aI d));rw[if_neg (by simpa using hw)];have hs:s.uo e.cell e.old (aI d)=s:=(by unfold JS.uo;rw[if_neg hw]);rw[hs];show Pr.js _ (if s.w e.cell=aI d then _ else _) s;rw[if_neg uq,if_pos Wi];have hb:=O.beyond h0 I0 he hst uq;obtain⟨d',r9⟩:∃d':Nat,s.w e.cell=aI d':=⟨(-(s.w e.cell) -1).toNat,by unfold aI;omega⟩;rw[show(-(s.w e.cell) -1).toNat=d' by rw[r9];unfold aI;omega];refine Pr.js.bind (λ_ s2 h2=>?_) (hh e.cell hb S6 d' s O.inv r9);obtain⟨I2,R2,n2,l2⟩:=h2;refine plain f s2 ⟨I2,JR.trans _ _ _ O.r R2,O.kn.rely R2,λx hx=>?_,λx hx h1=>?_⟩ ae (.inl ?_)
     ·have h:=(n2 x hx).1;rw[h];exact O.neg x ae
     ·have:=O.low x hx h1;rw[l2 x ae ae];exact this
     ·apply cY;intro hc;obtain⟨n3,n4⟩:=n2 e.cell ae;rw[n3]at n4;exact n4 r9
theorem TD:∀(m f c:Nat),n-c<=m->200+m<=f->n<=64->X7 Z c (jI f):=by
 intro m;induction m with
 |zero=>intro f c hm hf _ d s I hw;obtain⟨hc,_⟩:=I.cell hw;omega
 |succ m ih=>
  intro f c hm hf hn d s I hw;obtain⟨f,rfl⟩:∃f',f=f'+1:=⟨f-1,ae⟩;obtain⟨hc,D,e0,hd,XA,S6⟩:=I.cell hw;obtain⟨_,hok,_⟩:=I.desc d D hd;have hlen:D.es.length<=n:=by
   have hp:=List.pairwise_iff_getElem.1 hok.up;have key:∀i (hi:i<D.es.length),i<=(D.es[i]).cell:=λi=>by
    induction i with
    |zero=>exact λ_=>bj _
    |succ i ih2=>exact λhi=>by have:=ih2 ae;have:=hp i (i+1) ae hi ae;omega
   by_cases h:D.es.length=0
   ·omega
   ·have:=key (D.es.length-1) ae;have:=(hok.ok _ (pP (l:=D.es) (n:=D.es.length-1) ae)).1;omega
  have hes:s.es d=D.es:=by simp[JS.es,hd]
  unfold jI;show Pr.js _ ((installsP (jI f) d (s.es d) f 0).bind _) s;rw[hes];have O:nd Z d D.es c 0 s s:=⟨I,JR.refl s,⟨D,hd,rfl,λ_ j _ hj=>ae⟩,λx h=>.inl rfl,λx _ _=>rfl⟩;refine Pr.js.bind (λok s1 h1=>?_) ((EO (fK:=jI f) hw I (λc' h1 h2=>ih f c' ae ae hn) hok.ok D.es.length 0 f s ae O).1 ae);have hdec:((if ok=true then .line (.eff (JS.decide d 1) λ_=>.ret ())else .ret ():oF Unit)).js (λ_ s2=>nd Z d D.es c 0 s s2/\fP s2 d D.es) s1:=by
   cases ok with
   |true=>have O1:=h1.1 rfl;obtain⟨D3,a1,a2,a3⟩:=id O1.kn;obtain⟨g1,g2,D4,g3,g4,g5⟩:=O1.inv.do a1 (λh0 e he=>by rw[a2]at he;obtain⟨j,hj⟩:=pN.1 he;exact a3 h0 j e (eL.1 hj).1 hj);refine Pr.js.nN (s:=s1.decide d 1) ?_;exact⟨⟨g1,JR.trans _ _ _ O1.r g2,(O1.kn.rely g2).less ae,λx hx=>by rw[vG]at hx⊢;exact O1.neg x hx,λx hx h1=>by rw[vG];exact O1.low x hx h1⟩,D4,g3,g4.trans a2,g5⟩
   |false=>exact h1.2 rfl
  refine Pr.js.bind (λ_ s2 h2=>?_) hdec;obtain⟨O2,GS⟩:=h2;show Pr.js _ ((iy d (decide (s2.st d=1)) D.es).bind _) s2;have aat:decide (s2.st d=1)=true↔mz s2 d D.es:=by obtain⟨D3,a1,a2,a3⟩:=id GS;rw[decide_eq_true_iff,iI a1];refine⟨λh=>⟨D3,a1,a2,h⟩,λ⟨D4,b1,b2,b3⟩=>?_⟩;rw[a1]at b1;obtain rfl:=aP b1;exact b3
  refine Pr.js.bind (λ_ s3 h3=>?_) (Pr.js.safe JR.refl JR.trans O2.inv (AU D.es s2 (λ_ h=>h) O2.inv GS aat) (PL D.es s2 O2.inv.len hok.ok));obtain⟨hw3,_,I3,R3⟩:=h3;refine Pr.js.nN ⟨I3,JR.trans _ _ _ O2.r R3,λx hx=>?_,λx hx h0=>?_⟩
  ·obtain⟨b1,b2,b3⟩:=hw3 x;have h4:=b3 hx;have hne:s2.w x≠aI d:=λhu=>(by obtain⟨_,D',e',c1,c2,c3⟩:=O2.inv.cell hu;obtain⟨D2,c4,c5,_⟩:=GS;rw[c1]at c4;obtain rfl:=aP c4;have:=b2 hu ⟨e',by rw[←c5];exact c2,c3⟩;omega);refine⟨?_,by rw[h4];exact hne⟩;rcases O2.neg x ae with h|h
   ·rw[h4,h]
   ·exact absurd h hne
  ·have h1:=O2.low x hx h0;rw[(hw3 x).1 (by have:=iT d;omega)];exact h1
end
theorem TE(F:Nat)(hF:300<=F)(hn:n<=64)(hc:c<n):∀(f:Nat) (s:JS),2<=f->JInv Z s->(∀x,x<c->0<=s.w x)->(gh F f c).js (λh s'=>JInv Z s'/\h=s'.w c/\0<=h/\∀x,x<c->s'.w x=s.w x) s:=by
 intro f s hf I hp;have last:∀(f:Nat) (s:JS),1<=f->JInv Z s->0<=s.w c->(gh F f c).js (λh s'=>JInv Z s'/\h=s'.w c/\0<=h/\∀x,x<c->s'.w x=s.w x) s:=λf s hf I h=>by obtain⟨f,rfl⟩:∃f',f=f'+1:=⟨f-1,ae⟩;unfold gh;show Pr.js _ (if s.w c<0 then _ else _) s;rw[if_neg ae];exact Pr.js.nN ⟨I,rfl,h,λ_ _=>rfl⟩
 by_cases h:0<=s.w c
 ·exact last f s ae I h
 ·obtain⟨f,rfl⟩:∃f',f=f'+1:=⟨f-1,ae⟩;obtain⟨d,hd⟩:∃d:Nat,s.w c=aI d:=⟨(-(s.w c) -1).toNat,by unfold aI;omega⟩;unfold gh;show Pr.js _ (if s.w c<0 then _ else _) s;rw[if_pos ae,show(-(s.w c) -1).toNat=d by rw[hd];unfold aI;omega];refine Pr.js.bind (λ_ s1 h1=>?_) (TD (Z:=Z) (n-c) F c (aY _) ae hn d s I hd);obtain⟨I1,_,n1,l1⟩:=h1;have hc1:0<=s1.w c:=by apply cY;intro hx;obtain⟨a1,a2⟩:=n1 c ae;rw[a1]at a2;exact a2 hd
  refine Pr.js.mono (λh s2 ⟨b1,b2,b3,b4⟩=>⟨b1,b2,b3,λx hx=>?_⟩) (last f s1 ae I1 hc1);rw[b4 x hx,l1 x ae (hp x hx)]
def gz(F n:Nat):List Nat->oF (List Int)
 |[]=>.ret []
 |c::l=>(pT F n c).bind λr=>(gz F n l).bind λx=>.ret (r.1::x)
theorem PM(F:Nat)(hF:300<=F)(hn:n<=64):∀(m c:Nat) (s:JS),c+m=n->JInv Z s->(∀x,x<c->0<=s.w x)->(gz F n (List.range' c m)).js (λvs s'=>JInv Z s'/\(∀x,x<n->0<=s'.w x)/\(∀x,x<c->s'.w x=s.w x)/\vs.length=m/\∀i,i<m->vs.getD i 0=aU (s'.w (c+i))) s:=by
 intro m;induction m with
 |zero=>intro c s hc I hp;exact Pr.js.nN ⟨I,λx hx=>hp x ae,λ_ _=>rfl,rfl,λi hi=>ae⟩
 |succ m ih=>
  intro c s hc I hp;rw[List.range'_succ];unfold gz pT;rw[if_pos ae,show((c:Int)).toNat=c by omega];refine Pr.js.bind (Q:=λ(r:Int×Int) s'=>JInv Z s'/\r.1=aU (s'.w c)/\0<=s'.w c/\∀x,x<c->s'.w x=s.w x) (λr s1 h1=>?_) (Pr.js.bind (λh s1 h1=>?_) (TE F hF hn ae F s ae I hp))
  ·obtain⟨I1,e1,h2,h3⟩:=h1;refine Pr.js.bind (λvs s2 h4=>?_) (ih (c+1) s1 ae I1 λx hx=>?_)
   ·obtain⟨I2,a1,a2,a3,a4⟩:=h4;refine Pr.js.nN ⟨I2,a1,λx hx=>(a2 x ae).trans (h3 x hx),by simp[a3],λi hi=>?_⟩;cases i with
    |zero=>rw[List.getD_cons_zero,e1,Nat.add_zero,a2 c ae]
    |succ i=>rw[List.getD_cons_succ,a4 i ae];congr 2;omega
   ·by_cases e:x=c
    ·subst e;exact h2
    ·rw[h3 x ae];exact hp x ae
  ·obtain⟨I1,rfl,h2,h3⟩:=h1;exact Pr.js.nN ⟨I1,rfl,h2,h3⟩
theorem Il(F:Nat)(hF:300<=F)(hn:n<=64)(I:JInv Z s):∃vs s',(gz F n (List.range n)).alone s=some (vs,s')/\JInv Z s'/\vs.length=n/\Z.A λc=>vs.getD c 0:=by obtain⟨vs,s',h1,h2,h3,_,h4,h5⟩:=Pr.js.alone (PM F hF hn n 0 s ae I λx hx=>ae);refine⟨vs,s',by rw[List.range_eq_range'];exact h1,h2,h4,Z.same _ _ (λc hc=>?_) h2.all⟩;show aU (s'.lw c)=_;rw[JS.my (h3 c hc),h5 c hc,cM]
end
end
section
open Go Go.Conc Go.ConcN Go.RowKit
open Go.ConcR (KK wgBlock WgAt stA smA rd wr mk Payload Aside2 DC0)
variable[Inhabited bO]
section
variable{d:aK}{Wk tk bw:Nat}{w:World}
structure Cradle(J:eM σ)(d:aK)(Wk tk bw bc bd tW:Nat)(dv cv:Value)(w:World):Prop where
 hB:d.B<=Wk/\d.B<=tk/\d.B<=bw/\d.B<=bc
 hne:Wk≠tk/\bw≠tk/\bc≠tk/\Wk≠bw/\Wk≠bc/\bw≠bc
 hW:w.heap[Wk]? =some (.cells (cy d.j tk d.come d.gone false 0 0 0 (.slice none 0 0)) tW (0,0))
 ht:w.heap[tk]? =some (.chan 0 #[] false 0 0 false)
 hw:w.heap[bw]? =some (.cells #[.pointer (some ⟨Wk,0,none⟩)] 117 (0,0))
 hc:∃e,w.heap[bc]? =some (.cells #[cv] e (0,0))
 hd:w.cell? ⟨bd,0,none⟩=some dv/\d.ro bd≠none
 hro:V4 d.ro w
 hcalls:gC J d.ro d.j w cv
def Taken(Wk bw bc n:Nat)(b:Nat):Prop:=b=n\/b=Wk\/b=bw\/b=bc
noncomputable def PO(Wg bw bd bc W:Nat)(dv cv:Value):Frame:=Classical.choose (wJ Wg bw bd bc W dv cv)
theorem PQ(Sq:Squad J d0 d nb)(hP:d.P=prog)(E8:d.ty=link.tWg)(hbase:d.base=J.n)(hj:d.j<J.n)(hn8:J.n<=8)(hcs:J.n<=d.csC.size)(G:Gig J d.ro yR x dv)(C:Cradle J d Wk tk bw bc bd tW dv cv w)(uok:(J.bE d.W).Ok d)
  {b:Frame}{ops cZ zR:Array Oper}{id id3:Nat}{o0 o1 o2 o3:Oper}{k:List Item}{v3:Value}{xs:Array Operand}(hk:b.kind≠.early)
  (ho:ops[0]? =some o)(hw:Region.wanted o (yielded ops a.tmps)=true)(hop:o.op=.call {callee:=.value (.func link.add),args:=xs,argTypes:=ats})(hxs:xs.map a.eval=#[.pointer (some ⟨d.Wg,0,none⟩),.int .i64 1])
  (hs:cZ.size=2)(ho0:cZ[0]? =some o0)(hw0:Region.wanted o0 (yielded cZ (a.put o.dst (.tuple #[])).tmps)=true)(tJ:∀w,(execOp (a.put o.dst (.tuple #[])).eval o0).runT prog w #[]=(.ok (.value v) w,#[]))
  (ho1:cZ[1]? =some o1)(fE:Region.wanted o1 (yielded cZ ((a.put o.dst (.tuple #[])).put o0.dst v).tmps)=true)(hr1:∀w,(execOp ((a.put o.dst (.tuple #[])).put o0.dst v).eval o1).run prog w=.ok (.spawn (cl 72 #[.pointer (some ⟨d.Wg,0,none⟩),.pointer (some ⟨bw,0,none⟩),.pointer (some ⟨bd,0,none⟩),.pointer (some ⟨bc,0,none⟩)])) w)(VW:∀w,(execOp ((a.put o.dst (.tuple #[])).put o0.dst v).eval o1).events prog w #[]=#[])
  (hs3:zR.size=2)(yM:zR[0]? =some o2)(hw2:Region.wanted o2 (yielded zR (((a.put o.dst (.tuple #[])).put o0.dst v).put o1.dst undef).tmps)=true)(hr2:∀w,(execOp (((a.put o.dst (.tuple #[])).put o0.dst v).put o1.dst undef).eval o2).runT prog w #[]=(.ok (.value v3) w,#[]))
  (ho3:zR[1]? =some o3)(hw3:Region.wanted o3 (yielded zR ((((a.put o.dst (.tuple #[])).put o0.dst v).put o1.dst undef).put o2.dst v3).tmps)=true)(hr3:∀w,(execOp ((((a.put o.dst (.tuple #[])).put o0.dst v).put o1.dst undef).put o2.dst v3).eval o3).run prog w=.ok (.comm #[rcase d.come (.int .i64 0)] true (.recv false)) w)(he3:∀w,(execOp ((((a.put o.dst (.tuple #[])).put o0.dst v).put o1.dst undef).put o2.dst v3).eval o3).events prog w #[]=#[]):
  Birth d (J.bE d.W) (J.bE (d.join Wk tk w.heap.size [PO d.Wg bw bd bc Wk dv cv,bot]).W) d.j Wk tk (0,12) ((eN Wk d.j tk d.come d.gone w.heap.size).take 5) (eN Wk d.j tk d.come d.gone w.heap.size) [PO d.Wg bw bd bc Wk dv cv,bot] (p8 Wk w.heap.size) (w.heap.size+1) (Taken Wk bw bc w.heap.size) (.cells #[.pointer (some ⟨Wk,0,none⟩)] 117 (0,0))
   (b.at a (.inRegion ops [0]:: .code (.seq (.region id cZ false) (.region id3 zR false))::k)) fs (b.at ((((a.put o.dst (.tuple #[])).put o0.dst v).put o1.dst undef).put o2.dst v3) (.inRegion zR [1]::k)) w:=by
 have acV:=Classical.choose_spec (wJ d.Wg bw bd bc Wk dv cv);unfold PO;generalize Classical.choose (wJ d.Wg bw bd bc Wk dv cv)=rf at*;obtain⟨acW,aav⟩:=acV;have L:=Sq.low;obtain⟨B1,B2,B3,B4⟩:=C.hB;obtain⟨n1,n2,n3,n4,n5,n6⟩:=C.hne;have lW:=(aQ.1 C.hW).1;have lt_:=(aQ.1 C.ht).1;have lw:=(aQ.1 C.hw).1;obtain⟨ec,hbc⟩:=C.hc;have lc:=(aQ.1 hbc).1;obtain⟨S',O1⟩:=Sq.join (gN:=[rf,bot]) B2 B1 lW lt_ au;have Hd:Hand J (d.join Wk tk w.heap.size [rf,bot]) d.j w.heap.size:=Sq.hand hP hbase hj B2 B1 lW lt_;have yB:∀b,d.B<=b->d.ro b=none:=λb hb=>by
  cases e:d.ro b with
  |none=>rfl
  |some f=>have:=Sq.ro b lY;omega
 have acX:∀i,i<d.j->d.W i<d.B:=λi hi=>(Sq.lt i hi).1;have iP:∀(b:Nat) o,w.heap[b]? =some o->o≠cI->bU o=true->d.B<=b->gM d w b:=λb o h1 h2 h3 h4=>⟨o,h1,h2,h3,λi hi e=>by have:=acX i hi;omega,yB b h4⟩;have mW:=iP _ _ C.hW aJ rfl B1;have mw:=iP _ _ C.hw aJ rfl B3;have mc:=iP _ _ hbc aJ rfl B4;have mt:=iP _ _ C.ht (by simp[cI]) rfl B2;have aaw:∀x∈(eN Wk d.j tk d.come d.gone w.heap.size).take 5,x.1.block=Wk/\w.cell? x.1=some x.2:=λx hx=>by have hW:=C.hW;simp only[eN,List.take,dM,pK,or_false]at hx;rcases hx with rfl|rfl|rfl|rfl|rfl<;>exact⟨rfl,Si⟩
 refine⟨ae,ae,?_,λx hx=>List.mem_of_mem_take hx,S'.fit,eM.D9 G.L,O1,?_,?_,?_,.inl rfl,⟨C.ht,mt⟩,?_,?_,⟨_,_,rfl⟩,?_,?_,?_,?_,?_⟩
 ·
  refine⟨rfl,rfl,rfl,rfl,rfl,λi hi=>?_,λi hi=>?_,λi hi=>rfl⟩;all_goals
   have e:(d.join Wk tk w.heap.size [rf,bot]).W i=d.W i:=(by show(if i=d.j then Wk else d.W i)=_;rw[if_neg ae]);funext t;simp only[eM.bE,e]
 ·show(if d.j+1<=J.n then d.j+1-1 else _)=_;rw[if_pos ae];rfl
 ·rintro⟨h,_⟩;exact Nat.lt_irrefl _ h
 ·rintro b (rfl|rfl|rfl|rfl)
  ·exact .inl rfl
  ·exact .inr ⟨mW,n1⟩
  ·exact .inr ⟨mw,n2⟩
  ·exact .inr ⟨mc,n3⟩
 ·intro x hx;obtain⟨h1,h2⟩:=aaw x hx;exact⟨.inr (.inl h1),ae,h2⟩
 ·intro x hx;rcases jm hx with⟨_,_,h⟩|⟨h1,_,h⟩
  ·exact .inl h
  ·right;refine⟨h1,λw' hw'=>?_⟩;rw[h]at hw'⊢;simp only at hw';rw[af hw'];rfl
 ·
  intro b f hf;unfold p8 at hf;split at hf
  ·rename_i e;subst e;exact⟨.inr (.inl rfl),.inr ⟨_,_,C.hW⟩⟩
  ·split at hf
   ·rename_i e;exact⟨.inl e,.inl e⟩
   ·cases hf
 ·exact⟨.inr (.inl rfl),ae,_,_,C.hW,by simp[cy]⟩
 ·exact λi hi e=>by have:=acX i hi;omega
 ·
  intro w' hw';have eW:(d.join Wk tk w.heap.size [rf,bot]).W d.j=Wk:=by show(if d.j=d.j then Wk else _)=_;rw[if_pos rfl]
  have VH:w'.heap[Wk]? =some (.cells (cy d.j tk d.come d.gone false 0 0 0 (.slice none 0 0)) tW (0,0)):=by rw[hw' Wk (.inr (.inl rfl)) ae];exact C.hW
  have e0:J.ar d.j=AR.wI J.c J.s0:=J.qL ae;refine⟨λ_=>?_,λb hb=>?_⟩
  ·show WRm w' ((d.join Wk tk w.heap.size [rf,bot]).W d.j) ((J.ar d.j).w d.j) (decide (d.j<d.j/\_));rw[eW,e0];refine⟨0,0,.slice none 0 0,by rw[af VH];rfl,by rw[af VH];rfl,by rw[af VH];rfl,by rw[af VH];simp[cy],⟨none,0,rfl,λi x h=>bY⟩,λb o p h=>bY,λ_=>rfl⟩
  ·have hb:eF w' ((d.join Wk tk w.heap.size [rf,bot]).W d.j) b:=hb;rw[eW]at hb;rcases hb with rfl|⟨sl,h1,y,m,e,h2,_⟩
   ·exact .inr (.inl rfl)
   ·rw[af VH]at h1;simp only[cy,jh,ma,mP,cu]at h1;rw[←h1]at h2;cases h2
 ·
  refine⟨b.at ((a.put o.dst (.tuple #[])).put o0.dst v) (.inRegion cZ [1]:: .code (.region id3 zR false)::k),b.at (((a.put o.dst (.tuple #[])).put o0.dst v).put o1.dst undef) (.inRegion cZ []:: .code (.region id3 zR false)::k),born prog (cl 72 #[.pointer (some ⟨d.Wg,0,none⟩),.pointer (some ⟨bw,0,none⟩),.pointer (some ⟨bd,0,none⟩),.pointer (some ⟨bc,0,none⟩)]),rO w.heap.size Wk dv cv,[],4,λr Low hK=>?_,λw'=>?_,?_,λr Inb hK hC hsz hcell=>?_,λa1 F=>?_⟩
  ·exact SU hP E8 hk ho hw hop hxs hs ho0 hw0 tJ r Low hK
  ·have:=stepG_spawn (P:=prog) (main:=true) (b:=b) (k:=.code (.region id3 zR false)::k) (cs:=fs++d.cs0) (rest:=[]) (w:=w') ho1 fE hk (hr1 w') rfl;rw[listed_none (VW w')]at this;rw[hP];exact this
  ·exact GC (d:=d.grow Wk tk (0,12) ((eN Wk d.j tk d.come d.gone w.heap.size).take 5) [rf,bot] (p8 Wk w.heap.size) (w.heap.size+1)) hP hk hs3 yM hw2 hr2 ho3 hw3 hr3 he3
  ·
   have hce:∀y:Addr,Taken Wk bw bc w.heap.size y.block->y.block≠w.heap.size->r.cell? y=w.cell? y:=λy h1 h2=>hcell y (.inl ⟨h1,h2⟩);have cw:r.cell? ⟨bw,0,none⟩=some (.pointer (some ⟨Wk,0,none⟩)):=(by rw[hce _ (.inr (.inr (.inl rfl))) kT,af C.hw];rfl);have cc:r.cell? ⟨bc,0,none⟩=some cv:=(by rw[hce _ (.inr (.inr (.inr rfl))) kT,af hbc];rfl);have cd:r.cell? ⟨bd,0,none⟩=some dv:=(by rw[hcell _ (.inr C.hd.2)];exact C.hd.1);have IH:bd<d.Wg:=Sq.ro bd C.hd.2;let d1:aK:=d.grow Wk tk (0,12) ((eN Wk d.j tk d.come d.gone w.heap.size).take 5) [rf,bot] (p8 Wk w.heap.size) (w.heap.size+1);have hP1:d1.P=prog:=hP;have O1':d1.Ok:=O1;have hgo:=aav (R:=RH d1.cc) (D:=FP d1.cc Inb (d.j+1)) (Q:=λg w'=>g=bh (rO w.heap.size Wk dv cv) ([] ++[rf,bot])/\Grown d.Wg (.cells #[.pointer (some ⟨Wk,0,none⟩)] 117 (0,0)) r w') (F:=λw'=>SS d1 r 0 w') (F':=λw'=>SS d1 r 1 w'/\w'.heap[r.heap.size]? =some (.cells #[.pointer (some ⟨Wk,0,none⟩)] 117 (0,0))) (nb:=w.heap.size)
    (λw1 w2 hr F=>F.rely O1' hr) (λw1 w2 hr F=>⟨F.1.rely O1' hr,by rw[hr.block _ (by show r.heap.size≠d.Wg;omega)];exact F.2⟩)
    (λw1 F=>by have same:∀(bb oo:Nat) (vv:Value),r.cell? ⟨bb,oo,none⟩=some vv->bb≠d.Wg->w1.cell? ⟨bb,oo,none⟩=some vv:=λbb oo vv h hne=>(by rw[←h];exact bP (w:=r) (F.old bb (dw r _ h) hne));exact⟨by rw[F.size,hsz];rfl,same _ _ _ cw ae,same _ _ _ cd ae,same _ _ _ cc ae⟩)
    (λw1 es F he=>SS.read λe h=>by obtain⟨ad,rfl,hb⟩:=he e h;refine⟨ad,rfl,?_⟩;show ad.block≠d.Wg;omega)
    (λw1 F=>by obtain⟨h1,h2,h3⟩:=F.alloc (h:=d.j+1) hC (.cells #[.pointer (some ⟨Wk,0,none⟩)] 117 (0,0));refine⟨h1,h2,?_⟩;have:w1.heap.size=r.heap.size:=F.size;rw[←this];exact h3)
    (λw1 F=>⟨SS.read (es:=#[]) (λe h=>by simp at h),rfl,F.1.size,F.2,λbb h1 h2=>F.1.old bb h1 h2,F.1.os⟩)
    r ⟨rfl,λ_ _ _=>rfl,hK,rfl,rfl⟩
   refine jg (c:=d1.cc) (R:=RH d1.cc) (λ_ _ h=>h) (n:=40) ?_;have hP2:d1.cc.P=prog:=hP1;rw[hP2];exact hgo
  ·
   have acY:=SV (rf:=rf) (cv:=cv) (tW:=tW) Sq hj B2 B1 lW lt_ rfl G (.inr (.inl rfl)) C.hW C.hro C.hcalls F;have hT:Oq (d.join Wk tk w.heap.size [rf,bot]) d.j:=by
    intro pf h1 h2 h3 h4 w';have ecw:(d.join Wk tk w.heap.size [rf,bot]).cw d.j=[rf,bot]:=(by show(if d.j=d.j then [rf,bot]else _)=_;rw[if_pos rfl]);rw[ecw];have hh:=acW (pf:=pf) (K0:=(d.join Wk tk w.heap.size [rf,bot]).K0) (S:=(d.join Wk tk w.heap.size [rf,bot]).Sp (d.j+1)) (B:=(d.join Wk tk w.heap.size [rf,bot]).B) (C:=d.C) (n:=d.csC.size+1) (i:=d.j) (val:=d.csC.getD d.j undef) h1 h2 h3 h4 (λw'' hK=>?_) w'
    ·unfold CC.Wk;have aax:(d.join Wk tk w.heap.size [rf,bot]).cc.ty=link.tWg:=E8;have W6:(d.join Wk tk w.heap.size [rf,bot]).cc.P=prog:=hP;rw[aax,W6];exact hh
    ·obtain⟨k1,k2,k3⟩:=hK;refine⟨by rw[←E8];exact k1,?_⟩;show w''.cell? ⟨d.C,d.j,none⟩=_;have k3:w''.heap[d.C]? =some (.cells d.csC d.eC (0,0)):=k3;rw[af k3,cE,dI ae];rfl
   have hz:=Ox Hd hT G.L G.most G.tA (tW:=tW) (yR:=yR) (x:=x) (dv:=dv) (cv:=cv) G.meth (λc t w1 v hc hR hV=>G.do_ _ _ _ tW Hd rfl c t w1 v hc hR hV) (λt=>G.got t d.j hj) (G.big d.j hj) acY;have eW:(d.join Wk tk w.heap.size [rf,bot]).W d.j=Wk:=(by show(if d.j=d.j then Wk else _)=_;rw[if_pos rfl]);have ecw:(d.join Wk tk w.heap.size [rf,bot]).cw d.j=[rf,bot]:=(by show(if d.j=d.j then [rf,bot]else _)=_;rw[if_pos rfl]);rw[eW,ecw]at hz;rw[hP];exact hz
end
end
section
open Go Go.Conc Go.ConcN Go.RowKit
attribute [local go_sem] aF aG aT aD aO aW aA aB
inductive WB(bc bd br:Nat):Act->Prop
 |mk (u0 u1 u6 u7 u8 u9 sr mF mG mb lr kE u16 ku kF kG kH mf mg u23 u24 mh u26 kI u28 kJ kK lu u32 u33 lx ly lz lA mi mj mD ny nz pq u44 pw nA nB nC nD nE nG nH:Value):WB bc bd br {tmps:=#[u0,u1,.pointer (some ⟨bc,0,none⟩),.pointer (some ⟨bd,0,none⟩),.pointer (some ⟨br,0,none⟩),.int .i64 0,u6,u7,u8,u9,sr,mF,mG,mb,lr,kE,u16,ku,kF,kG,kH,mf,mg,u23,u24,mh,u26,kI,u28,kJ,kK,lu,u32,u33,lx,ly,lz,lA,mi,mj,mD,ny,nz,pq,u44,pw,nA,nB,nC,nD,nE,nG,nH],defers:=[]}
inductive LP(bc bd br come gone:Nat):Act->Prop
 |mk (u0 u1 u6 u9 sr mF mG mb lr kE u16 ku kF kG kH mf mg u23 u24 mh u26 kI u28 kJ kK lu u32 u33 lx ly lz lA mi mj mD ny nz pq u44 pw nA nB nC nD nE nG nH:Value):LP bc bd br come gone {tmps:=#[u0,u1,.pointer (some ⟨bc,0,none⟩),.pointer (some ⟨bd,0,none⟩),.pointer (some ⟨br,0,none⟩),.int .i64 0,u6,.chan (some come),.chan (some gone),u9,sr,mF,mG,mb,lr,kE,u16,ku,kF,kG,kH,mf,mg,u23,u24,mh,u26,kI,u28,kJ,kK,lu,u32,u33,lx,ly,lz,lA,mi,mj,mD,ny,nz,pq,u44,pw,nA,nB,nC,nD,nE,nG,nH],defers:=[]}
inductive IV(bc bd br come gone Wg:Nat)(lV:Value)(wb wo n wc k:Nat):Act->Prop
 |mk (u0 u1 u6 mF mG mb lr kE u16 ku kF kG kH mf mg u23 kI u28 kJ kK lu u32 u33 lx ly lz lA mi mj mD ny nz pq u44 pw nA nB nC nD nE nG nH:Value):IV bc bd br come gone Wg lV wb wo n wc k {tmps:=#[u0,u1,.pointer (some ⟨bc,0,none⟩),.pointer (some ⟨bd,0,none⟩),.pointer (some ⟨br,0,none⟩),.int .i64 0,u6,.chan (some come),.chan (some gone),.pointer (some ⟨Wg,0,none⟩),lV,mF,mG,mb,lr,kE,u16,ku,kF,kG,kH,mf,mg,u23,.slice (some ⟨wb,wo,none⟩) n wc,.int .i64 n,.int .i64 k,kI,u28,kJ,kK,lu,u32,u33,lx,ly,lz,lA,mi,mj,mD,ny,nz,pq,u44,pw,nA,nB,nC,nD,nE,nG,nH],defers:=[]}
inductive WC(bc bd br come gone Wg:Nat)(lV:Value)(wb wo n wc k bl bw:Nat):Act->Prop
 |mk (u0 u1 u6 lr kE u16 ku kF kG kH mf mg u23 kI u28 kJ kK lu u32 u33 lx ly lz lA mi mj mD ny nz pq u44 pw nA nB nC nD nE nG nH:Value):WC bc bd br come gone Wg lV wb wo n wc k bl bw {tmps:=#[u0,u1,.pointer (some ⟨bc,0,none⟩),.pointer (some ⟨bd,0,none⟩),.pointer (some ⟨br,0,none⟩),.int .i64 0,u6,.chan (some come),.chan (some gone),.pointer (some ⟨Wg,0,none⟩),lV,.int .i64 k,.pointer (some ⟨bl,0,none⟩),.pointer (some ⟨bw,0,none⟩),lr,kE,u16,ku,kF,kG,kH,mf,mg,u23,.slice (some ⟨wb,wo,none⟩) n wc,.int .i64 n,.int .i64 k,kI,u28,kJ,kK,lu,u32,u33,lx,ly,lz,lA,mi,mj,mD,ny,nz,pq,u44,pw,nA,nB,nC,nD,nE,nG,nH],defers:=[]}
noncomputable def bM:Code:=(f33.body).getD .skip
noncomputable def fI:Code:=bM.r.r.r.r.r.l.r
noncomputable def fQ:Code:=fI.l.l.r.r.l.l
theorem Dm:bM=.seq bM.l (.seq bM.r.l (.seq bM.r.r.l (.seq bM.r.r.r.l (.seq bM.r.r.r.r.l (.seq (.seq bM.r.r.r.r.r.l.l fI) bM.r.r.r.r.r.r))))):=by simp only[fI,bM,f33,Code.l,Code.r,bJ]
theorem PR:fI=.block 0 (.loop (.seq fI.l.l.l (.seq (.cond (.tmp 27) .skip (.exit 0)) (.seq (.block 1 fQ) fI.l.l.r.r.r)))):=by simp only[fQ,fI,bM,f33,Code.l,Code.r,bJ]
theorem PS:fQ=.seq fQ.l (.seq fQ.r.l (.seq fQ.r.r.l (.seq fQ.r.r.r.l fQ.r.r.r.r))):=by simp only[fQ,fI,bM,f33,Code.l,Code.r,bJ]
section
variable{gone:Nat}{w:World}
def fA:Obj:=.chan 0 #[] false 0 0 false
theorem PT(hA:WB bc bd br a):(bM.r.r.l).wp prog (qO λa' w'=>∃come gone,LP bc bd br come gone a'/\((come=w.heap.size/\gone=w.heap.size+1)\/(gone=w.heap.size/\come=w.heap.size+1))/\Alike ((w.alloc fA).alloc fA) w') a w:=by
 cases hA;simp only[bM,f33,Code.l,Code.r,bJ];refine aL.start (λ_=>True) [] ax ?_ (λhHeld=>?_)
 ·exact Zh
 refine aL.two (i:=0) (j:=1) rfl rfl ax (λK hK=>?_) (λK hK=>?_)
 ·go_simp;refine hK.out _ _ (λ_=>?_) (λhHeld=>?_)
  ·exact Zh
  replace hHeld:=hHeld az;clear hK K;try refine pt ?_
  refine aL.tv 2 hHeld ?_;refine aL.to 1 (λK hK=>?_);go_simp;refine hK.out _ _ (λ_=>?_) (λhHeld=>?_)
  ·exact Zh
  replace hHeld:=hHeld az;clear hK K;try refine pt ?_
  refine aL.tv 3 hHeld ?_;refine aL.done ax ?_ _
  (first|exact⟨_,_,LP.mk ..,.inl ⟨rfl,au⟩,⟨rfl,rfl,rfl⟩⟩|exact⟨_,_,LP.mk ..,.inr ⟨rfl,au⟩,⟨rfl,rfl,rfl⟩⟩)
 ·go_simp;refine hK.out _ _ (λ_=>?_) (λhHeld=>?_)
  ·exact Zh
  replace hHeld:=hHeld az;clear hK K;try refine pt ?_
  refine aL.to 0 (λK hK=>?_);go_simp;refine hK.out _ _ (λ_=>?_) (λhHeld=>?_)
  ·exact Zh
  replace hHeld:=hHeld az;clear hK K;try refine pt ?_
  refine aL.tv 2 hHeld ?_;refine aL.tv 3 hHeld ?_;refine aL.done ax ?_ _
  (first|exact⟨_,_,LP.mk ..,.inl ⟨rfl,au⟩,⟨rfl,rfl,rfl⟩⟩|exact⟨_,_,LP.mk ..,.inr ⟨rfl,au⟩,⟨rfl,rfl,rfl⟩⟩)
end
structure aay(cs:Array Value)(dv:Value)(a w:World):Prop where
 size:a.heap.size+3<=w.heap.size
 old:∀b,b<a.heap.size->w.heap[b]? =a.heap[b]?
 c:w.heap[a.heap.size]? =some (.cells cs 25 (0,0))
 d:∃e,w.heap[a.heap.size+1]? =some (.cells #[dv] e (0,0))
 r:w.heap[a.heap.size+2]? =some (.cells #[.slice none 0 0,.slice none 0 0,.int .i64 0,.bool false] 31 (0,0))
section
variable{a0:World}{P:Program}{cs0:List Frame}{ι:Type}{J:dA ι}{Stop:ι->Frame->List Frame->World->Prop}{U:List Frame->Prop}{i:ι}
theorem Dn(hcs:NE cs0)(wk:Option Addr)(wc tn tc hn hc:Nat)(tu ha:Option Addr)(lens:List Nat)(un v:Int)(tI:TypeId)(xv:Value)(hl:lens.length<100000)(hv:v=if eB lens un then 0 else 30)
  (hw:∀w':World,(∀b,b<a0.heap.size->w'.heap[b]? =a0.heap[b]?)->Calls prog 70 #[.agg (aC wk tu ha lens.length wc tn tc hn hc un)] w' λe w''=>e=.returned (.int .i64 v)/\Below w'.heap.size w' w''){tail:Code}{Q:ι->Exit->Act->World->Prop}
  (hok:eB lens un=true->∀a' w',WB a0.heap.size (a0.heap.size+1) (a0.heap.size+2) a'->aay (aC wk tu ha lens.length wc tn tc hn hc un) (.iface tI xv) a0 w'->wpM prog true cs0 J Stop U 33 tail Q i a' w')
  (hbad:eB lens un=false->∀a' w',a'.defers=[]->a0.heap.size<=w'.heap.size->(∀b,b<a0.heap.size->w'.heap[b]? =a0.heap[b]?)->(results f33 a'.tmps).run prog w'=.ok (.tuple #[.agg #[.slice none 0 0,.slice none 0 0,.int .i64 0,.bool false],.int .i64 30]) w'->Q i .ret a' w'):
  wpM prog true cs0 J Stop U 33 (.seq bM.l (.seq bM.r.l tail)) Q i {tmps:=#[.agg (aC wk tu ha lens.length wc tn tc hn hc un),.iface tI xv] ++Array.replicate 51 undef,defers:=[]} a0:=by
 let w1:World:=((a0.alloc (.cells (aC wk tu ha lens.length wc tn tc hn hc un) 25)).alloc (.cells #[.iface tI xv] 155)).alloc (.cells #[.slice none 0 0,.slice none 0 0,.int .i64 0,.bool false] 31);have hold:∀b,b<a0.heap.size->w1.heap[b]? =a0.heap[b]? :=λb hb=>by simp only[w1,←cG,cF,fV];rw[if_neg ae,if_neg ae,if_neg ae]
 have hsz:w1.heap.size=a0.heap.size+3:=by simp[w1]
 have hB:∀w':World,w1.heap.size<=w'.heap.size->(∀b,b<w1.heap.size->w'.heap[b]? =w1.heap[b]?)->aay (aC wk tu ha lens.length wc tn tc hn hc un) (.iface tI xv) a0 w':=λw' h1 h2=>by
  refine⟨ae,λb hb=>by rw[h2 b ae];exact hold b hb,?_,⟨155,?_⟩,?_⟩
  ·rw[h2 _ ae];simp only[w1,←cG,cF,fV];rw[if_neg ae,if_neg ae,if_pos trivial]
  ·rw[h2 _ ae];simp only[w1,←cG,cF,fV];rw[if_neg ae,if_pos trivial]
  ·rw[h2 _ ae];simp only[w1,←cG,cF,fV];rw[if_pos trivial]
 have hck:=λτ=>hw (w1.tp τ) (λb hb=>hold b hb);have HB:=ai hB;have HK:=ai hck;have HO:=ai hok;have HX:=ai hbad;have HH:=ai hold;have HS:=ai hsz;have HV:=ai hv;clear hB hck hok hbad hold hsz hw hv;walk_nrm;simp only[aC]at HB HK HO⊢;simp only[bM,f33,Code.l,Code.r,bJ];refine wpM_seq (wpM_lone fH hcs ax (l8 rfl) (xT _ az _) (λτ=>?_));go_wp2;refine⟨w1,?_,?_⟩
 ·exact⟨rfl,rfl,rfl⟩
 try simp only[Exit.then]
 have hb0:=HB.out w1 (aY _) λ_ _=>rfl;have q:∀o v,(#[.slice wk lens.length wc,.slice tu tn tc,.slice ha hn hc,.int .i64 un]:Array Value)[o]? =some v->w1.cell? ⟨a0.heap.size,o,none⟩=some v:=λo v h=>by rw[af hb0.c];exact h
 have q0:=q 0 _ rfl;have q1:=q 1 _ rfl;have q2:=q 2 _ rfl;have q3:=q 3 _ rfl;clear q hb0
 clear_value w1
 refine wpM_seq (wpM_seq (wpM_lone fH hcs ax (l8 rfl) (xT _ az _) (λτ=>?_)));have HK:=ai (HK.out τ);go_wp2_with (go_at_call 70;refine HK.out.mono ?_;rintro e w2 ⟨rfl,hb⟩)
 have hb1:=hb.size;have hb2:=hb.block;have HB2:=ai (HB.out w2 hb1 hb2);clear hb;refine⟨w2,⟨rfl,rfl,rfl⟩,?_⟩;try simp only[Exit.then]
 have hv:=HV.out;clear HV;cases hoc:eB lens un with
 |true=>rw[hoc]at hv;simp only[if_true]at hv;subst hv;have HO:=ai (HO.out hoc);refine VG λτ=>?_;refine Bl ?_;simp only[Exit.then];exact HO.out _ _ (WB.mk ..) HB2.out
 |false=>
  rw[hoc]at hv;simp only[dS,if_false]at hv;subst hv;have HX:=ai (HX.out hoc);refine VG λτ=>?_;refine ctx ?_;have hr:=HB2.out.r;have y0:=cO hr 0;have y1:=cO hr 1;have y2:=cO hr 2;have y3:=cO hr 3;have z0:=zO hr 0;have z1:=zO hr 1;have z2:=zO hr 2;have z3:=zO hr 3;have Gd:∀b,b<a0.heap.size->((((w2.setCell ⟨a0.heap.size+2,0,none⟩ (.slice none 0 0)).setCell ⟨a0.heap.size+2,1,none⟩ (.slice none 0 0)).setCell ⟨a0.heap.size+2,2,none⟩ (.int .i64 0)).setCell ⟨a0.heap.size+2,3,none⟩ (.bool false)).heap[b]? =a0.heap[b]? :=λb hb=>by rw[ah ae,ah ae,ah ae,ah ae];exact HB2.out.old b hb
  have mC:a0.heap.size<=((((w2.setCell ⟨a0.heap.size+2,0,none⟩ (.slice none 0 0)).setCell ⟨a0.heap.size+2,1,none⟩ (.slice none 0 0)).setCell ⟨a0.heap.size+2,2,none⟩ (.int .i64 0)).setCell ⟨a0.heap.size+2,3,none⟩ (.bool false)).heap.size:=by have:=HB2.out.size;simp only[World.setCell,uw];omega
  have HL:=ai Gd;have HZ:=ai mC;clear Gd mC hr hb1 hb2;refine VG λτ=>?_;refine bn ?_;simp only[Exit.then];exact HX.out _ _ rfl HZ.out HL.out (by simp[results,go_sem, *])
end
theorem aaz:(prog.info? 117).map (λi=>(i.zero,i.size,i.bytes))=some (some (.pointer none),1,8):=ax
structure Made(k come gone:Nat)(cv:Value)(w w':World):Prop where
 size:w.heap.size+5<=w'.heap.size
 c:∃e,w'.heap[w.heap.size]? =some (.cells #[cv] e (0,0))
 t:w'.heap[w.heap.size+1]? =some fA
 W:w'.heap[w.heap.size+2]? =some (.cells (cy k (w.heap.size+1) come gone false 0 0 0 (.slice none 0 0)) 170 (0,0))
 w:w'.heap[w.heap.size+3]? =some (.cells #[.pointer (some ⟨w.heap.size+2,0,none⟩)] 117 (0,0))
section
variable{J:dA ι}{Stop:ι->Frame->List Frame->World->Prop}{gone n:Nat}{w:World}
theorem run_make(hcs:NE cs0)(hA:IV bc bd br come gone Wg lV wb wo n wc k a)(hk:k<n)(hn:n<=8)(hwc:n<=wc){x:Option Addr}{len cap base:Nat}(hcv:w.cell? ⟨wb,wo+k,none⟩=some (.slice x len cap))(hbase:base<=w.heap.size)(hrow:w.ownsRow base 117 1 lV k ps)
  {tail:Code}{Q:ι->Exit->Act->World->Prop}
  (hQ:∀a' w' g c,WC bc bd br come gone Wg (.slice (some ⟨g,0,none⟩) (k+1) c) wb wo n wc k w.heap.size (w.heap.size+3) a'->Made k come gone (.slice x len cap) w w'->(∀b,b<w.heap.size->some b≠lV.ownBlock->w'.heap[b]? =w.heap[b]?)->w'.ownsRow base 117 1 (.slice (some ⟨g,0,none⟩) (k+1) c) (k+1) (ps++[.pointer (some ⟨w.heap.size+2,0,none⟩)])->(lV.ownBlock=some g\/w.heap.size+5<=g)->
   wpM prog true cs0 J Stop U 33 tail Q i a' w'):
  wpM prog true cs0 J Stop U 33 (.seq fQ.l (.seq fQ.r.l (.seq fQ.r.r.l tail))) Q i a w:=by
 let w4:World:=(((w.alloc (.cells #[.slice x len cap] 51)).alloc fA).alloc (.cells (cy k (w.heap.size+1) come gone false 0 0 0 (.slice none 0 0)) 170)).alloc (.cells #[.pointer (some ⟨w.heap.size+2,0,none⟩)] 117);have Om:w4.heap.size=w.heap.size+4:=by simp[w4]
 have EZ:∀b,b<w.heap.size->w4.heap[b]? =w.heap[b]? :=λb hb=>by simp only[w4,←cG,cF,fV];rw[if_neg ae,if_neg ae,if_neg ae,if_neg ae]
 have Xz:w4.heap[w.heap.size]? =some (.cells #[.slice x len cap] 51 (0,0))/\w4.heap[w.heap.size+1]? =some fA/\w4.heap[w.heap.size+2]? =some (.cells (cy k (w.heap.size+1) come gone false 0 0 0 (.slice none 0 0)) 170 (0,0))/\w4.heap[w.heap.size+3]? =some (.cells #[.pointer (some ⟨w.heap.size+2,0,none⟩)] 117 (0,0)):=by
  refine⟨?_,?_,?_,?_⟩ <;>simp only[w4,←cG,cF,fV]
  ·rw[if_neg ae,if_neg ae,if_neg ae,if_pos trivial]
  ·exact NT
  ·rw[if_neg ae,if_pos trivial]
  ·rw[if_pos trivial]
 have hend:∀(w':World) g c,w'.ownsRow base 117 1 (.slice (some ⟨g,0,none⟩) (k+1) c) (k+1) (ps++[.pointer (some ⟨w.heap.size+2,0,none⟩)])->w4.heap.size+1<=w'.heap.size->(∀b,b<w4.heap.size+1->some b≠lV.ownBlock->w'.heap[b]? =(w4.alloc (.cells #[.pointer (some ⟨w.heap.size+2,0,none⟩)] 117)).heap[b]?)->(lV.ownBlock=some g\/g=w.heap.size+5)->
   Made k come gone (.slice x len cap) w w'/\(∀b,b<w.heap.size->some b≠lV.ownBlock->w'.heap[b]? =w.heap[b]?)/\(lV.ownBlock=some g\/w.heap.size+5<=g):=λw' g c hown hsz hgrow hat=>by
  have hlt:∀gg,lV.ownBlock=some gg->gg<w.heap.size:=λgg h=>own_lt hrow h;have hb:∀b,b<w4.heap.size->some b≠lV.ownBlock->w'.heap[b]? =w4.heap[b]? :=λb hb hne=>by rw[hgrow b ae hne];show(w4.heap.push _)[b]? =_;rw[cF,if_neg ae]
  have CX:∀b,w.heap.size<=b->some b≠lV.ownBlock:=λb hb e=>by have:=hlt b e.symm;omega
  refine⟨⟨ae,⟨_,by rw[hb _ ae (CX _ ae)];exact Xz.1⟩,by rw[hb _ ae (CX _ ae)];exact Xz.2.1,by rw[hb _ ae (CX _ ae)];exact Xz.2.2.1,by rw[hb _ ae (CX _ ae)];exact Xz.2.2.2⟩,λb h1 h2=>by rw[hb b ae h2];exact EZ b h1,hat.imp id λe=>ae⟩
 obtain⟨ie,Ea,Kj,Kk,Kl⟩:=info_parts aaz;have hrow4:w4.ownsRow base 117 1 lV k ps:=own_same hrow λg hg=>EZ g (own_lt hrow hg);have c3:=cO Xz.2.2.2 0;have HE:=ai hend;have HQ:=ai hQ;have HR:=ai hrow4;have HS:=ai Om;clear hend hQ hrow hrow4 Xz EZ Om;have Sj:(0:Int)<=(k:Int)/\(k:Int) < (n:Int):=⟨ae,ae⟩;cases hA;simp only[fQ,fI,bM,f33,Code.l,Code.r,bJ];refine VG λτ=>?_;refine nQ ?_;refine o2w ?_
 (refine yN fH rfl rfl ax (xT _ az _) (λτ K hK=>?_);go_simp;refine hK _ _ ((w.alloc (.cells #[.slice x len cap] 51)).alloc fA) ⟨rfl,rfl,rfl⟩ ?_;clear hK K;walk_nrm)
 iterate 6
  refine o2w ?_
 refine on ?_;refine N9 (w:=w4) ⟨rfl,rfl,rfl⟩ ?_;simp only[Nat.add_assoc,Nat.reduceAdd]
 clear_value w4
 refine wpM_seq (wpM_lone fH hcs ax (l8 rfl) (xT _ az _) (λτ=>?_));go_wp2_with (at_builtin;go_loud (refine wpList_append_lies _ rfl (.tmp 37) (.tmp 39) 166 rfl base 117 ie _ 1 8 underlying166 Ea Kj Kk Kl rfl az lV k ps rfl (own_same HR.out λg hg=>by have:=own_lt HR.out hg;show(w4.heap.push _)[g]? =_;rw[cF,if_neg ae]) ⟨w4.heap.size,0,none⟩ 1 1 [.pointer (some ⟨w.heap.size+2,0,none⟩)] rfl rfl (pR (cs:=#[.pointer (some ⟨w.heap.size+2,0,none⟩)]) (t:=117) (fr:=(0,0)) (heap_alloc_new _ _)) qP az iw ae (by simp only[aT,bI];have:=HS.out;omega) (w4.heap.size+1) (by simp only[aT,bI]) ?_;intro gg cap' w5 kZ hgrow hat Wn;have HF:=ai (HE.out w5 gg cap' kZ (by have:=hgrow.size;simp only[aT,bI]at this;exact this) (λb hb hne=>by rw[hgrow.block b (by simp only[aT,bI];exact hb) hne];rfl) (hat.imp id λe=>by have:=HS.out;omega));have TG:=ai kZ;clear kZ hgrow hat Wn))
 refine⟨w5,⟨rfl,rfl,rfl⟩,?_⟩;try simp only[Exit.then]
 exact HQ.out _ _ _ _ (WC.mk ..) HF.out.1 HF.out.2.1 TG.out HF.out.2.2
end
end
section
open Go Go.Conc Go.ConcN Go.RowKit
attribute [local go_sem] aF aG aT aD aO aW aA aB
variable[Inhabited bO]
section
structure RunBase(J:eM σ)(d0:aK)(bc bd br:Nat)(cs:Array Value)(dv:Value)(wb wo:Nat)(w1:World):Prop where
 n8:J.n<=8
 c:w1.heap[bc]? =some (.cells cs 25 (0,0))
 d:w1.cell? ⟨bd,0,none⟩=some dv/\d0.ro bd≠none
 r:w1.heap[br]? =some (.cells #[.slice none 0 0,.slice none 0 0,.int .i64 0,.bool false] 31 (0,0))
 ro:V4 d0.ro w1
 work:∀i,i<J.n->∃x c,w1.cell? ⟨wb,wo+i,none⟩=some (.slice x (J.c.calls i).length c)/\gC J d0.ro i w1 (.slice x (J.c.calls i).length c)
 size:w1.heap.size=d0.Wg+1
structure RunAt(J:eM σ)(d0:aK)(w1:World)(d:aK)(nb:Nat->Nat)(lV:Value)(w:World):Prop where
 Sq:Squad J d0 d nb
 j:d.j<=J.n
 B:d.B<=w.heap.size
 old:∀(b:Nat) o,w1.heap[b]? =some o->o≠cI->w.heap[b]? =some o
 row:∃ps,w.ownsRow (d0.Wg+1) 117 1 lV d.j ps/\∀i,i<d.j->ps[i]? =some (.pointer (some ⟨d.W i,0,none⟩))
 far:∀g,lV.ownBlock=some g->∀i,i<d.j->g≠d.W i
 eyes:∀i,i<d.j->w.cell? ⟨d.W i,2,none⟩=some (.chan (some (d.turn i)))/\w.cell? ⟨d.W i,10,none⟩=some (.bool (decide (i<d.j/\J.len i<=((J.ar d.j).w i).got.length)))
variable{d:aK}{w:World}{cs:Array Value}
theorem RunAt.SG(R:RunAt J d0 w1 d nb lV w)(h:w1.cell? y=some v):w.cell? y=some v:=by obtain⟨o,h1,h2⟩:=gR h;rw[←h];exact bP (w:=w1) (by rw[R.old _ o h1 h2,h1])
theorem RunAt.aaA(R:RunAt J d0 w1 d nb lV w)(Ba:RunBase J d0 bc bd br cs dv wb wo w1)(hj:d.j<J.n){xs:Option Addr}{len cap:Nat}(hx:gC J d0.ro d.j w1 (.slice xs len cap))(M:Made d.j d.come d.gone (.slice xs len cap) w w2)(hold:∀b,b<w.heap.size->some b≠lV.ownBlock->w2.heap[b]? =w.heap[b]?):
  Cradle J d (w.heap.size+2) (w.heap.size+1) (w.heap.size+3) w.heap.size bd 170 dv (.slice xs len cap) w2:=by
 have hB:=R.B;have E:=R.Sq.E;obtain⟨ps,hrow,_⟩:=R.row;have jR:d0.Wg=d.Wg:=E.Wg.symm;have yx:=R.Sq.low;have hlt:∀(b:Nat),b<d.Wg+1->w2.heap[b]? =w.heap[b]? :=λb hb=>hold b ae λe=>by have:=dH hrow e.symm;omega
 have hro:d.ro=d0.ro:=E.ro;have iE:∀b,d0.ro b≠none->w2.heap[b]? =w1.heap[b]?/\∃c e f,w1.heap[b]? =some (.cells c e f):=λb hb=>by obtain⟨c,e,f,h⟩:=Ba.ro b hb;have h1:=R.Sq.ro b (by rw[hro];exact hb);exact⟨by rw[hlt b ae,R.old b _ h aJ,h],c,e,f,h⟩
 refine⟨⟨ae,ae,ae,ae⟩,⟨ae,ae,ae,ae,ae,ae⟩,M.W,M.t,M.w,M.c,⟨?_,by rw[hro];exact Ba.d.2⟩,λb hb=>?_,?_⟩
 ·rw[←Ba.d.1];exact bP (w:=w1) (iE bd Ba.d.2).1
 ·rw[hro]at hb;obtain⟨h1,c,e,f,h2⟩:=iE b hb;exact⟨c,e,f,by rw[h1];exact h2⟩
 ·rw[hro];exact hx.same λb hb y hy=>bP (w:=w1) (by rw[hy];exact(iE b hb).1)
theorem RunAt.born(R:RunAt J d0 w1 d nb lV w)(Ba:RunBase J d0 bc bd br cs dv wb wo w1)(hj:d.j<J.n){xs:Option Addr}{len cap g:Nat}(FH:∀i,i<d.j->ps[i]? =some (.pointer (some ⟨d.W i,0,none⟩)))(oD:w.ownsRow (d0.Wg+1) 117 1 lV d.j ps)(M:Made d.j d.come d.gone (.slice xs len cap) w w2)(hold:∀b,b<w.heap.size->some b≠lV.ownBlock->w2.heap[b]? =w.heap[b]?)
  (hrow:w2.ownsRow (d0.Wg+1) 117 1 (.slice (some ⟨g,0,none⟩) (d.j+1) c) (d.j+1) (ps++[.pointer (some ⟨w.heap.size+2,0,none⟩)]))(hg:lV.ownBlock=some g\/w.heap.size+5<=g)
  (MR:mN (d.join (w.heap.size+2) (w.heap.size+1) w2.heap.size [rf,bot]) (J.bE (d.join (w.heap.size+2) (w.heap.size+1) w2.heap.size [rf,bot]).W) (λb=>Taken (w.heap.size+2) (w.heap.size+3) w.heap.size w2.heap.size b\/b=w.heap.size+1) w2 (d.j+1) w'):
  RunAt J d0 w1 (d.join (w.heap.size+2) (w.heap.size+1) w2.heap.size [rf,bot]) (λi=>if i=d.j then w2.heap.size else nb i) (.slice (some ⟨g,0,none⟩) (d.j+1) c) w':=by
 have hB:=R.B;have E:=R.Sq.E;have hs2:=M.size;have jR:d0.Wg=d.Wg:=E.Wg.symm;have yx:=R.Sq.low;have Ll:g<w2.heap.size:=own_lt hrow rfl;have hgb:d0.Wg+1<=g:=dH hrow rfl;have qa:∀i,i<d.j->(d.join (w.heap.size+2) (w.heap.size+1) w2.heap.size [rf,bot]).W i=d.W i:=λi hi=>by show(if i=d.j then _ else d.W i)=_;rw[if_neg ae]
 have eW:(d.join (w.heap.size+2) (w.heap.size+1) w2.heap.size [rf,bot]).W d.j=w.heap.size+2:=by show(if d.j=d.j then _ else _)=_;rw[if_pos rfl]
 have Kf:∀i,i<d.j+1->g≠(d.join (w.heap.size+2) (w.heap.size+1) w2.heap.size [rf,bot]).W i:=λi hi=>by
  by_cases e:i=d.j
  ·subst e;rw[eW];rcases hg with h|h
   ·have:=own_lt oD h;omega
   ·omega
  ·rw[qa i ae];rcases hg with h|h
   ·exact R.far g h i ae
   ·have:=(R.Sq.lt i ae).1;omega
 have Z8:¬(Taken (w.heap.size+2) (w.heap.size+3) w.heap.size w2.heap.size g\/g=w.heap.size+1):=by
  rintro((h|h|h|h)|h)
  ·omega
  all_goals
   rcases hg with h'|h'
   ·have:=own_lt oD h';omega
   ·omega
 obtain⟨S',_⟩:=R.Sq.join (gN:=[rf,bot]) (Wk:=w.heap.size+2) (tk:=w.heap.size+1) (mo:=w2.heap.size) ae ae ae ae au;have hjj:(d.join (w.heap.size+2) (w.heap.size+1) w2.heap.size [rf,bot]).j=d.j+1:=rfl;refine⟨S',by rw[hjj];omega,?_,λb o h1 h2=>?_,⟨_,own_same hrow λgg xa=>?_,λi hi=>?_⟩,λgg xa i hi=>?_,λi hi=>?_⟩
 ·have:=MR.fwl d.j (Nat.lt_succ_self _) w2.heap.size (0,1) (by show(if d.j=d.j then p8 (w.heap.size+2) w2.heap.size else _) w2.heap.size=_;rw[if_pos rfl];have hne:¬w2.heap.size=w.heap.size+2:=ae;simp[p8,hne]);show w2.heap.size+1<=_;omega
 ·have hb:=(aQ.1 h1).1;rw[Ba.size]at hb;refine MR.same b o ?_ h2 (λi hi e=>?_) λh=>?_
  ·rw[hold b ae λe=>by have:=dH oD e.symm;omega];exact R.old b o h1 h2
  ·rw[e]at hb;by_cases e':i=d.j
   ·rw[e',eW]at hb;omega
   ·have hi:i<d.j+1:=hi;rw[qa i ae]at hb;have:=(R.Sq.lt i ae).2.2.2.1;omega
  ·rcases h with(h|h|h|h)|h<;>omega
 ·obtain rfl:g=gg:=by simpa[Value.ownBlock]using xa
  obtain⟨g',cap',cur,e,_,h2,_⟩:=hrow.2.resolve_left (λh=>by cases h.1);simp only[Value.slice.injEq,cu,Addr.mk.injEq,and_true,true_and]at e;rw[←e.1]at h2;rw[h2];exact MR.same g _ h2 aJ (λi hi=>Kf i hi) Z8
 ·have hi:i<d.j+1:=hi;have hl:ps.length=d.j:=by have:=oD.1;omega
  by_cases e:i=d.j
  ·subst e;rw[pQ ae,hl,Nat.sub_self,eW];rfl
  ·rw[oC ae,qa i ae];exact FH i ae
 ·obtain rfl:g=gg:=by simpa[Value.ownBlock]using xa
  exact Kf i hi
 ·refine⟨MR.facts i hi (⟨_,2,none⟩,.chan (some _)) ?_ rfl,?_⟩
  ·rw[S'.facts i hi];simp[eN]
  ·obtain⟨r,hwr,⟨c,e,f,hc,_,hc'⟩,_⟩:=MR.recs i hi;have hi:i<d.j+1:=hi;obtain⟨be,ow,sl,_,_,_,h10,_⟩:=hwr ae;rw[af hc]at h10;rw[af hc'];exact h10
end
section
variable{d:aK}{w:World}{cs:Array Value}
variable{Stop:Ph->Frame->List Frame->World->Prop}
theorem TH(R:RunAt J d0 w1 d nb lV w)(Ba:RunBase J d0 bc bd br cs dv wb wo w1)(hP:d0.P=prog)(E8:d0.ty=link.tWg)(hbase:d0.base=J.n)(hcC:J.n<=d0.csC.size)(G:Gig J d0.ro yR x dv)(hj:d.j<J.n){xs:Option Addr}{len cap g:Nat}(hx:gC J d0.ro d.j w1 (.slice xs len cap))(FH:∀i,i<d.j->ps[i]? =some (.pointer (some ⟨d.W i,0,none⟩)))(oD:w.ownsRow (d0.Wg+1) 117 1 lV d.j ps)(M:Made d.j d.come d.gone (.slice xs len cap) w w2)(hold:∀b,b<w.heap.size->some b≠lV.ownBlock->w2.heap[b]? =w.heap[b]?)
  (hrow:w2.ownsRow (d0.Wg+1) 117 1 (.slice (some ⟨g,0,none⟩) (d.j+1) c) (d.j+1) (ps++[.pointer (some ⟨w.heap.size+2,0,none⟩)]))(hg:lV.ownBlock=some g\/w.heap.size+5<=g)(hA:WC bc bd br d.come d.gone d.Wg (.slice (some ⟨g,0,none⟩) (d.j+1) c) wb wo J.n wc d.j w.heap.size (w.heap.size+3) a)
   (hQ:∀a' w' d' X8,IV bc bd br d'.come d'.gone d'.Wg (.slice (some ⟨g,0,none⟩) (d.j+1) c) wb wo J.n wc d.j a'->d'.j=d.j+1->RunAt J d0 w1 d' X8 (.slice (some ⟨g,0,none⟩) (d.j+1) c) w'->Q (.run (d.j+1) d') .normal a' w'):
  wpM prog true d0.cs0 (JP prog S d0.cs0 λd=>J.bE d.W) Stop U 33 (.seq fQ.r.r.r.l fQ.r.r.r.r) Q (.run d.j d) a w2:=by
 have E:=R.Sq.E;have W6:d.P=prog:=E.P.trans hP;have aax:d.ty=link.tWg:=E.ty.trans E8;have hcs:d.cs0=d0.cs0:=E.cs0;have C:=R.aaA Ba hj hx M hold;have G':Gig J d.ro yR x dv:=by rw[E.ro];exact G
 have X9:=λrf w' MR=>RunAt.born R Ba hj FH oD M hold hrow hg (rf:=rf) (w':=w') MR;have HB:=ai X9;have HQ:=ai hQ;have HC:=ai C;refine Kw λb k fs hfn FL hu hnext=>?_;have HX:=ai hnext;have IE:b.kind≠.early:=by rw[FL];decide
 clear hnext hQ X9 hu hfn;cases hA;simp only[fQ,fI,bM,f33,Code.l,Code.r,bJ];refine .pure (λ_=>stepG_seq) (.pure (λ_=>stepG_region) ?_);refine rg ?_;have hSq:=R.Sq;have hn8:=Ba.n8;have aeE:J.n<=d.csC.size:=by rw[E.csC];exact hcC
 have hb':=E.base.trans hbase;clear R Ba FH oD M hold hrow hg hx C G;refine .jump (K:=λi' aZ bz a'=>∃t' d',i'=.run t' d'/\((t',d')=(d.j+1,d.join (w.heap.size+2) (w.heap.size+1) w2.heap.size [PO d.Wg (w.heap.size+3) bd w.heap.size (w.heap.size+2) dv (.slice xs len cap),bot])/\(∃v,aZ=Frame.finish _ v)/\bz=fs/\mN (d.join (w.heap.size+2) (w.heap.size+1) w2.heap.size [PO d.Wg (w.heap.size+3) bd w.heap.size (w.heap.size+2) dv (.slice xs len cap),bot]) (J.bE (d.join (w.heap.size+2) (w.heap.size+1) w2.heap.size [PO d.Wg (w.heap.size+3) bd w.heap.size (w.heap.size+2) dv (.slice xs len cap),bot]).W) (λb=>Taken (w.heap.size+2) (w.heap.size+3) w.heap.size w2.heap.size b\/b=w.heap.size+1) w2 (d.j+1) a'))
  (.inl ⟨_,.inr ⟨w.heap.size+2,w.heap.size+1,(0,12),_,_,_,_,_,_,_,_,PQ (v:=.func (.func 72) #[] #[.pointer (some ⟨d.Wg,0,none⟩),.pointer (some ⟨w.heap.size+3,0,none⟩),.pointer (some ⟨bd,0,none⟩),.pointer (some ⟨w.heap.size,0,none⟩)]) (v3:=.chan (some d.come)) hSq W6 aax hb' hj hn8 aeE G' HC.out (eM.D9 G'.L) IE rfl rfl rfl cC rfl rfl rfl (λw=>by simp[go_sem,execOp,Act.eval,Act.put]) rfl rfl (λw=>by simp[go_sem,execOp,Act.eval,Act.put,cl]) (λw=>by simp[go_sem,execOp,Act.eval,Act.put]) rfl rfl rfl (λw=>by simp[go_sem,execOp,Act.eval,Act.put]) rfl rfl (λw=>by simp[go_sem,execOp,Act.eval,Act.put,rcase]) (λw=>by simp[go_sem,execOp,Act.eval,Act.put]),rfl⟩,rfl⟩) ?_
 rintro i' aZ bz a' ⟨t',d',rfl,h1,⟨v,rfl⟩,rfl,hR⟩;simp only[Prod.mk.injEq]at h1;obtain⟨rfl,rfl⟩:=h1;rw[fy];walk_nrm;exact .pure (λ_=>stepG_region_end) (HX.out _ _ _ (HQ.out _ _ _ _ (IV.mk ..) rfl (HB.out _ _ hR)))
end
section
variable{d:aK}{w:World}{cs:Array Value}
variable{Stop:Ph->Frame->List Frame->World->Prop}
theorem PU(ER:NE (d0.cs0))(R:RunAt J d0 w1 d nb lV w)(Ba:RunBase J d0 bc bd br cs dv wb wo w1)(hwc:J.n<=wc)(hP:d0.P=prog)(E8:d0.ty=link.tWg)(hbase:d0.base=J.n)(hcC:J.n<=d0.csC.size)(G:Gig J d0.ro yR x dv)(hj:d.j<J.n)
  (hA:IV bc bd br d.come d.gone d.Wg lV wb wo J.n wc d.j a)(hQ:∀a' w' d' X8 Ya,IV bc bd br d'.come d'.gone d'.Wg Ya wb wo J.n wc d.j a'->d'.j=d.j+1->RunAt J d0 w1 d' X8 Ya w'->Q (.run (d.j+1) d') .normal a' w'):
  wpM prog true d0.cs0 (JP prog S d0.cs0 λd=>J.bE d.W) Stop U 33 fQ Q (.run d.j d) a w:=by
 obtain⟨ps,hrow,FH⟩:=R.row;obtain⟨xs,cap,hcv,hcalls⟩:=Ba.work d.j hj;rw[PS];refine run_make ER hA hj Ba.n8 hwc (R.SG hcv) (base:=d0.Wg+1) (by have:=R.B;have:=R.Sq.low;have:=R.Sq.E.Wg;omega) hrow λa' w' g c hA' M hold hrow' hg=>?_;exact TH R Ba hP E8 hbase hcC G hj hcalls FH hrow M hold hrow' hg hA' λa2 w3 d' X8 qI hj' R'=>hQ _ _ _ _ _ qI hj' R'
theorem TI(ER:NE (d0.cs0))(R:RunAt J d0 w1 d nb lV w)(Ba:RunBase J d0 bc bd br cs dv wb wo w1)(hwc:J.n<=wc)(hP:d0.P=prog)(E8:d0.ty=link.tWg)(hbase:d0.base=J.n)(hcC:J.n<=d0.csC.size)(G:Gig J d0.ro yR x dv)(hj:d.j=0)
  (hA:IV bc bd br d.come d.gone d.Wg lV wb wo J.n wc 0 a)(hQ:∀a' w' d' X8 Ya,IV bc bd br d'.come d'.gone d'.Wg Ya wb wo J.n wc J.n a'->d'.j=J.n->RunAt J d0 w1 d' X8 Ya w'->Q (.run J.n d') .normal a' w'):
  wpM prog true d0.cs0 (JP prog S d0.cs0 λd=>J.bE d.W) Stop U 33 fI Q (.run 0 d) a w:=by
 rw[PR];refine bt (fZ (λm i a w=>∃d nb lV,m=J.n-d.j/\i=.run d.j d/\IV bc bd br d.come d.gone d.Wg lV wb wo J.n wc d.j a/\RunAt J d0 w1 d nb lV w) (n:=J.n) ⟨d,nb,lV,by rw[hj];rfl,by rw[hj],by rw[hj];exact hA,R⟩ ?_);clear hA R hj;rintro m i a w ⟨d,nb,lV,rfl,rfl,hA,R⟩;have hjn:=R.j;have hn8:=Ba.n8;have hR8:wpM prog true d0.cs0 (JP prog S d0.cs0 λd=>J.bE d.W) Stop U 33 fI.l.l.l (λi' e a' w'=>e=.normal/\i'=.run d.j d/\IV bc bd br d.come d.gone d.Wg lV wb wo J.n wc d.j a'/\a'.eval (.tmp 27)=.bool (decide (d.j<J.n))/\w'=w) (.run d.j d) a w:=by have Hb:(decide ((d.j:Int) < (J.n:Int)))=decide (d.j<J.n):=au;clear R Ba G hQ;cases hA;simp only[fQ,fI,bM,f33,Code.l,Code.r,bJ];refine wpM_lone fH ER ax (l8 rfl) (xT _ az _) (λτ=>?_);go_wp2;exact⟨aN _ _,IV.mk ..⟩
 refine wpM_seq (di hR8 ?_);rintro i2 e2 a2 w2 ⟨rfl,rfl,qI,h27,rfl⟩;simp only[Exit.then];by_cases hlt:d.j<J.n
 ·refine wpM_seq (aH (t:=true) (by rw[h27];simp[hlt]) (dm ?_));simp only[Exit.then];refine wpM_seq (bt (PU ER R Ba hwc hP E8 hbase hcC G hlt qI λa3 w3 d' X8 Ya CV hj' R3=>?_));simp only[Exit.then,Exit.inBlock];have hwr:IntKind.i64.wrap ((d.j:Int) +1)=((d.j+1:Nat):Int):=by rw[dR];omega
  have V3:wpM prog true d0.cs0 (JP prog S d0.cs0 λd=>J.bE d.W) Stop U 33 fI.l.l.r.r.r (λi' e a' w'=>e=.normal/\i'=.run (d.j+1) d'/\IV bc bd br d'.come d'.gone d'.Wg Ya wb wo J.n wc (d.j+1) a'/\w'=w3) (.run (d.j+1) d') a3 w3:=by clear R R3 Ba G hQ hR8 hA qI h27;cases CV;simp only[fQ,fI,bM,f33,Code.l,Code.r,bJ];refine wpM_lone fH ER ax (l8 rfl) (xT _ az _) (λτ=>?_);go_wp2;exact⟨aN _ _,IV.mk ..⟩
  refine di V3 ?_;rintro i4 e4 a4 w4 ⟨rfl,rfl,KS,rfl⟩;simp only[Exit.then];exact⟨J.n- (d.j+1),ae,d',X8,Ya,by rw[hj'],by rw[hj'],by rw[hj'];exact KS,R3⟩
 ·have hje:d.j=J.n:=ae;refine wpM_seq (aH (t:=false) (by rw[h27];simp[hlt]) (fY ?_));simp only[Exit.then,Exit.inBlock,if_true];have:=hQ a2 w2 d nb lV (by rw[hje]at qI;exact qI) hje R;rw[hje];exact this
end
end
section
open Go Go.Conc Go.ConcN Go.RowKit
open Go.ConcR (KK wgBlock WgAt stA smA rd wr mk Payload Aside2 DC0)
attribute [local go_sem] aF aG aT aD aO aW aA aB
variable[Inhabited bO]
section
def roW(ro0:Nat->Option (Nat×Nat))(bd:Nat)(b:Nat):Option (Nat×Nat):=if b=bd then some (0,1)else ro0 b
structure fR(J:eM σ)(ro0:Nat->Option (Nat×Nat))(wb wo wc tc hc:Nat)(tu ha:Option Addr)(csC:Array Value)(eC:TypeId)(a:World):Prop where
 ok:eB (J.c.work.map List.length) J.c.until_=true
 rof:∀b f,ro0 b=some f->f.1=0/\∃c e,a.heap[b]? =some (.cells c e (0,0))/\c.size<=f.2
 C:a.heap[wb]? =some (.cells csC eC (0,0))/\ro0 wb=some (0,csC.size)/\J.n<=csC.size/\J.n<=wc
 w:∀i,i<J.n->∃x c,a.cell? ⟨wb,wo+i,none⟩=some (.slice x (J.c.calls i).length c)/\gC J ro0 i a (.slice x (J.c.calls i).length c)
 tu:(tu=none/\J.c.turns=[]/\tc=0)\/∃tb to,tu=some ⟨tb,to,none⟩/\∀i,i<J.c.turns.length->ro0 tb≠none/\a.cell? ⟨tb,to+i,none⟩=some (.int .i64 (J.c.turns.getD i 0))
 ha:∀i,i<J.c.halt.length->∃hb ho,ha=some ⟨hb,ho,none⟩/\a.cell? ⟨hb,ho+i,none⟩=some (.int .i64 (J.c.halt.getD i 0))/\ro0 hb≠none
 rep:J.L.Rep J.s0 a
 L0:J.L.Ok ro0
 tl:J.c.turns.length<100000
theorem fR.n{tu:Option Addr}{a:World}(C:fR J ro0 wb wo wc tc hc tu ha csC eC a):0<J.n/\J.n<=8/\J.c.until_<=20000:=by have h:=C.ok;unfold eB at h;simp only[pW,bK,decide_eq_true_eq]at h;have:J.n=J.c.work.length:=rfl;omega
noncomputable def gW(S:ba)(cs0:List Frame)(n come gone Wg wb:Nat)(csC:Array Value)(eC:TypeId)(ro:Nat->Option (Nat×Nat)):aK where
 P:=prog
 S:=S
 j:=0
 base:=n
 come:=come
 gone:=gone
 Wg:=Wg
 C:=wb
 B:=Wg+1
 ty:=link.tWg
 turn _:=0
 W _:=0
 facts _:=[]
 csC:=csC
 eC:=eC
 cs0:=cs0
 cw _:=[bot]
 ro:=ro
 fw _ _:=none
 fm _:=none
variable{tu:Option Addr}{a w:World}{gone:Nat}{cs:Array Value}
theorem aeF(hcs:NE cs0){n:Nat}{ro:Nat->Option (Nat×Nat)}(h1:come≠gone)(h2:come≠Wg)(h3:gone≠Wg)(h4:wb≠Wg)(h5:ro wb=some (0,csC.size))(h6:∀b f,ro b=some f->f.1=0)(h7:ro Wg=none):(gW S cs0 n come gone Wg wb csC eC ro).Fit:=
 ⟨⟨h4,h1,λi hi=>absurd hi (dV _),λi hi=>absurd hi (dV _),λi i' hi=>absurd hi (dV _),bp h2,bp h3,λi hi=>absurd hi (dV _),λi hi=>absurd hi (dV _),h5⟩,
  λi hi=>absurd hi (dV _),λi hi=>absurd hi (dV _),λb f h=>bY,λi hi=>absurd hi (dV _),λi hi=>absurd hi (dV _),λi=>rfl,rfl,h6,λi hi=>absurd hi (dV _),h7,hcs,λi=>by simp[gW]⟩
structure ik(J:eM σ)(ro0:Nat->Option (Nat×Nat))(cs:Array Value)(dv:Value)(come gone:Nat)(a w:World):Prop where
 size:a.heap.size+5<=w.heap.size
 old:∀b,b<a.heap.size->w.heap[b]? =a.heap[b]?
 c:w.heap[a.heap.size]? =some (.cells cs 25 (0,0))
 d:∃e,w.heap[a.heap.size+1]? =some (.cells #[dv] e (0,0))
 r:w.heap[a.heap.size+2]? =some (.cells #[.slice none 0 0,.slice none 0 0,.int .i64 0,.bool false] 31 (0,0))
 hcome:w.heap[come]? =some fA
 hgone:w.heap[gone]? =some fA
 ne:come≠gone/\a.heap.size+3<=come/\a.heap.size+3<=gone
theorem LQ(B:aay cs dv a w1)(h:(come=w1.heap.size/\gone=w1.heap.size+1)\/(gone=w1.heap.size/\come=w1.heap.size+1)):ik J ro0 cs dv come gone a ((w1.alloc fA).alloc fA):=by
 have hs:=B.size;have hold:∀b,b<w1.heap.size->((w1.alloc fA).alloc fA).heap[b]? =w1.heap[b]? :=λb hb=>by simp only[←cG,cF,fV];rw[if_neg ae,if_neg ae]
 have h0:((w1.alloc fA).alloc fA).heap[w1.heap.size]? =some fA:=by simp only[←cG,cF,fV];rw[if_neg ae,if_pos trivial]
 have h1:((w1.alloc fA).alloc fA).heap[w1.heap.size+1]? =some fA:=by simp only[←cG,cF,fV];rw[if_pos trivial]
 obtain⟨e,hd⟩:=B.d;refine⟨bV,λb hb=>by rw[hold b ae];exact B.old b hb,by rw[hold _ ae];exact B.c,⟨e,by rw[hold _ ae];exact hd⟩,by rw[hold _ ae];exact B.r,?_,?_,?_⟩
 ·rcases h with⟨rfl,rfl⟩|⟨rfl,rfl⟩ <;>assumption
 ·rcases h with⟨rfl,rfl⟩|⟨rfl,rfl⟩ <;>assumption
 ·omega
theorem vH(hr:∀b,ro0 b≠none->b<a.heap.size)(h:ro0 b≠none):roW ro0 (a.heap.size+1) b=ro0 b:=by have:=hr b h;unfold roW;rw[if_neg ae]
theorem fR.lt(C:fR J ro0 wb wo wc tc hc tu ha csC eC a)(h:ro0 b≠none):b<a.heap.size:=by obtain⟨f,hf⟩:=kU.1 h;obtain⟨_,c,e,hc,_⟩:=C.rof b f hf;exact(aQ.1 hc).1
theorem ik.rep(A:ik J ro0 cs dv come gone a w)(C:fR J ro0 wb wo wc tc hc tu ha csC eC a):J.L.Rep J.s0 w/\(∀b,J.L.Foot w b↔J.L.Foot a b)/\∀b,J.L.Foot a b->b<a.heap.size/\ro0 b=none:=by
 have hlt:∀b,J.L.Foot a b->b<a.heap.size/\ro0 b=none:=λb hb=>by obtain⟨⟨c,e,hc⟩,h⟩:=C.L0.foot _ _ _ C.rep hb;exact⟨(aQ.1 hc).1,h⟩
 obtain⟨h1,h2⟩:=C.L0.rep _ a w C.rep λb hb=>A.old b (hlt b hb).1;exact⟨h1,h2,hlt⟩
theorem ik.ro(A:ik J ro0 cs dv come gone a w)(C:fR J ro0 wb wo wc tc hc tu ha csC eC a)(b:Nat)(f:Nat×Nat)(h:roW ro0 (a.heap.size+1) b=some f):f.1=0/\∃c e,w.heap[b]? =some (.cells c e (0,0))/\c.size<=f.2:=by
 obtain⟨ed,hd⟩:=A.d;unfold roW at h;split at h
 ·rename_i e;obtain rfl:=aP h;subst e;exact⟨rfl,_,_,hd,au⟩
 ·obtain⟨h1,c,e,hc,h2⟩:=C.rof b f h;exact⟨h1,c,e,by rw[A.old b (aQ.1 hc).1];exact hc,h2⟩
theorem Dp(hcs:NE cs0)(A:ik J ro0 cs dv come gone a w)(C:fR J ro0 wb wo wc tc hc tu ha csC eC a)(hcl:come<w.heap.size/\gone<w.heap.size):(gW S cs0 J.n come gone w.heap.size wb csC eC (roW ro0 (a.heap.size+1))).Fit:=by
 have hs:=A.size;have hlt:=λb (h:ro0 b≠none)=>C.lt h;have hwb:=hlt wb (by rw[C.C.2.1];simp);refine aeF hcs A.ne.1 ae ae ae ?_ (λb f h=>(A.ro C b f h).1) ?_
 ·rw[vH hlt (by rw[C.C.2.1];simp)];exact C.C.2.1
 ·cases e:roW ro0 (a.heap.size+1) w.heap.size with
  |none=>rfl
  |some f=>obtain⟨_,c,e',hc,_⟩:=A.ro C _ f e;have:=(aQ.1 hc).1;omega
theorem PV(hcs:NE cs0)(A:ik J ro0 cs dv come gone a w)(C:fR J ro0 wb wo wc tc hc tu ha csC eC a)(hL:J.L.Ok (roW ro0 (a.heap.size+1))){fr aZ:Frame}
  (hstep:∀w3:World,w3.heap.size=w.heap.size->stepG prog true (bh fr (fs++cs0)) w3=.go (bh aZ (fs++cs0)) {w3 with heap:=w3.heap.push (wgBlock link.tWg 0 0)} #[])(hcl:come<w.heap.size/\gone<w.heap.size):
  Start (gW S cs0 J.n come gone w.heap.size wb csC eC (roW ro0 (a.heap.size+1))) (J.bE (gW S cs0 J.n come gone w.heap.size wb csC eC (roW ro0 (a.heap.size+1))).W) w fr fs aZ:=by
 have hlt:=λb (h:ro0 b≠none)=>C.lt h;have hwb:=hlt wb (by rw[C.C.2.1];simp);obtain⟨cT,dK,BH⟩:=A.rep C;refine⟨rfl,rfl,hstep,Dp hcs A C hcl,eM.D9 hL,A.hcome,A.hgone,?_,?_,λb f h=>(A.ro C b f h).2⟩
 ·show w.heap[wb]? =_;rw[A.old wb hwb];exact C.C.1
 ·show J.L.Rep (J.ar 0).s w;rw[J.qL (bj _)];exact cT
theorem pD(A:ik J ro0 cs dv come gone a w)(C:fR J ro0 wb wo wc tc hc tu ha csC eC a)(yI:d0=gW S cs0 J.n come gone w.heap.size wb csC eC (roW ro0 (a.heap.size+1)))(V:mQ d0 (J.bE d0.W) w a'):
  RunBase J d0 a.heap.size (a.heap.size+1) (a.heap.size+2) cs dv wb wo a'/\(∀b o,a.heap[b]? =some o->o≠cI->¬J.L.Foot a b->(ro0 b=none->a'.heap[b]? =some o)/\(∀f,ro0 b=some f->∃c e,o=.cells c e (0,0)/\a'.heap[b]? =some (.cells c e f))):=by
 have hs:=A.size;obtain⟨cT,dK,BH⟩:=A.rep C;have hro:d0.ro=roW ro0 (a.heap.size+1):=by rw[yI];rfl
 have hlt:=λb (h:ro0 b≠none)=>C.lt h;have hF:∀b,a.heap.size<=b->¬(J.bE d0.W).Foot w b:=λb hb hf=>by have:=(BH b ((dK b).1 hf)).1;omega
 have Ci:d0.come=come/\d0.gone=gone:=by rw[yI];exact⟨rfl,rfl⟩
 have yB:∀b,a.heap.size<=b->b≠a.heap.size+1->d0.ro b=none:=λb hb hne=>by
  rw[hro];unfold roW;rw[if_neg hne];cases e:ro0 b with
  |none=>rfl
  |some f=>have:=hlt b lY;omega
 obtain⟨ed,hd⟩:=A.d;have IH:d0.ro (a.heap.size+1)=some (0,1):=by rw[hro];simp[roW]
 have N0:∀b f,ro0 b=some f->∃c e,a.heap[b]? =some (.cells c e (0,0))/\a'.heap[b]? =some (.cells c e f):=λb f h=>by have hb:=hlt b (by rw[h];simp);obtain⟨c,e,h1,h2⟩:=V.ro b f (by rw[hro,vH hlt (by rw[h];simp)];exact h);exact⟨c,e,by rw[←A.old b hb];exact h1,h2⟩
 have hcell:∀b,ro0 b≠none->∀y:Addr,y.block=b->a'.cell? y=a.cell? y:=λb hb y hy=>by obtain⟨f,hf⟩:=kU.1 hb;obtain⟨c,e,h1,h2⟩:=N0 b f hf;simp only[World.cell?,hy,h1,h2]
 refine⟨⟨C.n.2.1,?_,⟨?_,by rw[IH];simp⟩,?_,λb hb=>?_,λi hi=>?_,by rw[V.size,yI];rfl⟩,λb o h1 h2 h3=>⟨λh4=>?_,λf h4=>?_⟩⟩
 ·refine V.same _ _ A.c aJ (hF _ (aY _)) (by rw[Ci.1];have:=A.ne;omega) (by rw[Ci.2];have:=A.ne;omega) (yB _ (aY _) ae)
 ·obtain⟨c,e,h1,h2⟩:=V.ro _ _ IH;rw[hd]at h1;simp only[cu,sL,and_true]at h1;rw[af h2,←h1.1];rfl
 ·refine V.same _ _ A.r aJ (hF _ ae) (by rw[Ci.1];have:=A.ne;omega) (by rw[Ci.2];have:=A.ne;omega) (yB _ ae ae)
 ·obtain⟨f,hf⟩:=kU.1 hb;obtain⟨c,e,h1,h2⟩:=V.ro _ _ hf;exact⟨c,e,f,h2⟩
 ·obtain⟨x,c,h1,h2⟩:=C.w i hi;refine⟨x,c,?_,?_⟩
  ·rw[hcell wb (by rw[C.C.2.1];simp) _ rfl];exact h1
  ·have h3:=h2.same (w':=a') hcell;obtain⟨cb,co,cap,g1,g2,g3⟩:=h3.ex;have Yb:∀b,ro0 b≠none->d0.ro b≠none:=λb hb=>(by rw[hro,vH hlt hb];exact hb);exact⟨⟨cb,co,cap,g1,λhne=>Yb _ (g2 hne),λi c hc=>by obtain⟨pv,b0,b1,b2,b3,b4,b5,b6⟩:=g3 i c hc;exact⟨pv,b0,b1,b2,b3,b4,b5,λy n e h=>Yb _ (b6 y n e h)⟩⟩⟩
 ·have hb:=(aQ.1 h1).1;refine V.same b o (by rw[A.old b hb];exact h1) h2 (λhf=>h3 ((dK b).1 hf)) (by rw[Ci.1];have:=A.ne;omega) (by rw[Ci.2];have:=A.ne;omega) ?_;rw[hro];unfold roW;rw[if_neg ae];exact h4
 ·obtain⟨c,e,g1,g2⟩:=N0 b f h4;rw[h1]at g1;exact⟨c,e,aP g1,g2⟩
end
section
variable{σ:Type}{J:eM σ}{ro0:Nat->Option (Nat×Nat)}{wb wo wc tc hc:Nat}{tu ha:Option Addr}{csC:Array Value}{eC:TypeId}{a0 w w2 a':World}{S:ba}{cs0:List Frame}{come gone:Nat}{yR:Nat}{x dv:Value}
variable{Stop:Ph->Frame->List Frame->World->Prop}{U:List Frame->Prop}
theorem LS{b:Frame}{act:Act}{ops:Array Oper}{k:List Item}{cs:List Frame}{o:Oper}(hk:b.kind≠.early)(ho:ops[0]? =some o)(hw:Region.wanted o (yielded ops act.tmps)=true)(hop:o.op=.alloc 165)(w3:World):
  stepG prog true (bh (b.at act (.inRegion ops [0]::k)) cs) w3=.go (bh (b.at (act.put o.dst (.pointer (some ⟨w3.heap.size,0,none⟩))) (.inRegion ops []::k)) cs) {w3 with heap:=w3.heap.push (wgBlock link.tWg 0 0)} #[]:=by
 have hr:(execOp act.eval o).runT prog w3 #[]=(.ok (.value (.pointer (some ⟨w3.heap.size,0,none⟩))) {w3 with heap:=w3.heap.push (wgBlock link.tWg 0 0)},#[]):=by unfold execOp;simp only[hop];simp[go_sem,wgBlock]
 have oT:((b.at act (.inRegion ops [0]::k)).kind==CallKind.early)=false:=by show(b.kind==CallKind.early)=false;cases e:b.kind<;>first|rfl|exact absurd e hk
 have lS:(b.at act (.inRegion ops [0]::k)).finish (.pointer (some ⟨w3.heap.size,0,none⟩))=b.at (act.put o.dst (.pointer (some ⟨w3.heap.size,0,none⟩))) (.inRegion ops []::k):=by rw[fy,ho];rfl
 have h:=(stepG_oper (P:=prog) (main:=true) (b:=b) (a:=act) (k:=k) (cs:=cs) (w:=w3) (rest:=[]) ho hw).trans (gL (fr:=b.at act (.inRegion ops [0]::k)) (cs:=cs) oT hr);rw[lS,show seen prog (b.at act (.inRegion ops [0]::k)).fn #[] ++ #[]=#[]from by simp[seen]]at h;exact h
theorem LU(hcs:NE cs0)(C:fR J ro0 wb wo wc tc hc tu ha csC eC a0){cs:Array Value}(A:ik J ro0 cs dv come gone a0 w)(hcl:come<w.heap.size/\gone<w.heap.size)(hL:J.L.Ok (roW ro0 (a0.heap.size+1)))
  {b:Frame}{act:Act}{ops:Array Oper}{k:List Item}{fs:List Frame}{o:Oper}(hk:b.kind≠.early)(ho:ops[0]? =some o)(hw:Region.wanted o (yielded ops act.tmps)=true)(hop:o.op=.alloc 165)
  (h:∀w1,mQ (gW S cs0 J.n come gone w.heap.size wb csC eC (roW ro0 (a0.heap.size+1))) (J.bE (gW S cs0 J.n come gone w.heap.size wb csC eC (roW ro0 (a0.heap.size+1))).W) w w1->
   ZigC prog true cs0 (JP prog S cs0 λd=>J.bE d.W) Stop (.run 0 (gW S cs0 J.n come gone w.heap.size wb csC eC (roW ro0 (a0.heap.size+1)))) (b.at (act.put o.dst (.pointer (some ⟨w.heap.size,0,none⟩))) (.inRegion ops []::k)) fs w1):
  ZigC prog true cs0 (JP prog S cs0 λd=>J.bE d.W) Stop .pre (b.at act (.inRegion ops [0]::k)) fs w:=by
 refine .jump (K:=λi' VA bz a'=>i'=.run 0 (gW S cs0 J.n come gone w.heap.size wb csC eC (roW ro0 (a0.heap.size+1)))/\VA=b.at (act.put o.dst (.pointer (some ⟨w.heap.size,0,none⟩))) (.inRegion ops []::k)/\bz=fs/\mQ (gW S cs0 J.n come gone w.heap.size wb csC eC (roW ro0 (a0.heap.size+1))) (J.bE (gW S cs0 J.n come gone w.heap.size wb csC eC (roW ro0 (a0.heap.size+1))).W) w a')
  ⟨_,b.at (act.put o.dst (.pointer (some ⟨w.heap.size,0,none⟩))) (.inRegion ops []::k),rfl,rfl,rfl,PV hcs A C hL (λw3 hw3=>?_) hcl,rfl⟩ ?_
 ·have:=LS (b:=b) (act:=act) (k:=k) (cs:=fs++cs0) hk ho hw hop w3;rw[hw3]at this;exact this
 ·rintro i' VA bz a' ⟨rfl,rfl,rfl,V⟩;exact h a' V
theorem PW(hcs:NE cs0)(C:fR J ro0 wb wo wc tc hc tu ha csC eC a0)(A:ik J ro0 (aC (some ⟨wb,wo,none⟩) tu ha J.n wc J.c.turns.length tc J.c.halt.length hc J.c.until_) dv come gone a0 w)(hcl:come<w.heap.size/\gone<w.heap.size)(hL:J.L.Ok (roW ro0 (a0.heap.size+1))){a:Act}(hA:LP a0.heap.size (a0.heap.size+1) (a0.heap.size+2) come gone a)
  {tail:Code}{Q:Ph->Exit->Act->World->Prop}(hQ:∀a' w1,mQ (gW S cs0 J.n come gone w.heap.size wb csC eC (roW ro0 (a0.heap.size+1))) (J.bE (gW S cs0 J.n come gone w.heap.size wb csC eC (roW ro0 (a0.heap.size+1))).W) w w1->IV a0.heap.size (a0.heap.size+1) (a0.heap.size+2) come gone w.heap.size (.slice none 0 0) wb wo J.n wc 0 a'->
   wpM prog true cs0 (JP prog S cs0 λd=>J.bE d.W) Stop U 33 fI (λi'=>Exit.then (λa' w'=>wpM prog true cs0 (JP prog S cs0 λd=>J.bE d.W) Stop U 33 tail Q i' a' w') (Q i')) (.run 0 (gW S cs0 J.n come gone w.heap.size wb csC eC (roW ro0 (a0.heap.size+1)))) a' w1):
  wpM prog true cs0 (JP prog S cs0 λd=>J.bE d.W) Stop U 33 (.seq bM.r.r.r.l (.seq bM.r.r.r.r.l (.seq (.seq bM.r.r.r.r.r.l.l fI) tail))) Q .pre a w:=by
 have hbase:=λw1 (V:mQ (gW S cs0 J.n come gone w.heap.size wb csC eC (roW ro0 (a0.heap.size+1))) (J.bE (gW S cs0 J.n come gone w.heap.size wb csC eC (roW ro0 (a0.heap.size+1))).W) w w1)=>(pD A C rfl V).1.c;have hj:=λ{b act ops k fs o}=> @LU _ σ J ro0 wb wo wc tc hc tu ha csC eC a0 w S cs0 come gone dv Stop hcs C _ A hcl hL b act ops k fs o;have HB:=ai hbase;have HQ:=ai hQ;clear hbase hQ A C hL;generalize yI:gW S cs0 J.n come gone w.heap.size wb csC eC (roW ro0 (a0.heap.size+1))=d0 at*;refine wpM_seq (Kw λb k fs hfn FL hu hnext=>?_);have HX:=ai hnext;have IE:b.kind≠.early:=by rw[FL];decide
 clear hnext hu;simp only[Exit.then]at HX;cases hA;simp only[aC]at HB;simp only[bM,f33,Code.l,Code.r,bJ]at HX⊢;refine .pure (λ_=>stepG_region) ?_;refine rg ?_;refine hj IE rfl rfl rfl λw1 V=>?_;clear hj;have hc:=HB.out w1 V;have HV:=ai V;clear V;walk_nrm;refine .pure (λ_=>stepG_region_end) (HX.out _ _ _ ?_);have q0:=cO hc 0;clear hc HB;refine VG λτ=>?_;have Yc:fI=fI:=rfl
 conv at Yc=>rhs;simp only[fI,bM,f33,Code.l,Code.r,bJ]
 refine wpM_seq (wpM_seq (wpM_lone fH hcs ax (l8 rfl) (xT _ az _) (λτ=>?_)));go_wp2;refine⟨_,aN _ _,?_⟩;rw[←Yc];exact di (HQ.out _ _ HV.out (IV.mk ..)) λi' e a' w' h=>by cases e<;>exact h
end
end
section
open Go Go.Conc Go.ConcN Go.RowKit
attribute [local go_sem] aF aG aT aD aO aW aA aB
variable[Inhabited bO]
inductive IsE(br gone Wg tb:Nat):Act->Prop
 |mk (u0 u1 u2 u3 u5 u6 u7 sr mF mG mb kE u16 ku kF kG kH mf mg u23 u24 mh u26 kI u28 kJ kK lu u32 u33 lx ly lz lA mi mj mD ny nz pq u44 pw nA nB nC nD nE nG nH:Value):IsE br gone Wg tb {tmps:=#[u0,u1,u2,u3,.pointer (some ⟨br,0,none⟩),u5,u6,u7,.chan (some gone),.pointer (some ⟨Wg,0,none⟩),sr,mF,mG,mb,.pointer (some ⟨tb,0,none⟩),kE,u16,ku,kF,kG,kH,mf,mg,u23,u24,mh,u26,kI,u28,kJ,kK,lu,u32,u33,lx,ly,lz,lA,mi,mj,mD,ny,nz,pq,u44,pw,nA,nB,nC,nD,nE,nG,nH],defers:=[]}
section
variable{tu:Option Addr}{a0 w:World}{d:aK}
variable{Stop:Ph->Frame->List Frame->World->Prop}
theorem RunAt.acZ(R:RunAt J d0 w1 d nb lV w)(C:fR J ro0 wb wo wc tc hc tu ha csC eC a0)(hj:d.j=J.n)(hro:∀b f,ro0 b=some f->∃c e,a0.heap[b]? =some (.cells c e (0,0))/\w1.heap[b]? =some (.cells c e f))(hrd:∀b,ro0 b≠none->d0.ro b≠none){g:Nat}(hlV:lV=.slice (some ⟨g,0,none⟩) J.n c):
  PCall J d (some ⟨wb,wo,none⟩) tu ha wc tc hc g c w:=by
 obtain⟨n0,n8,nu⟩:=C.n;obtain⟨ps,hrow,FH⟩:=R.row;have hrow':=hrow;rw[hlV,hj]at hrow';have hB:=R.B;have hc1:∀(b o:Nat) v,ro0 b≠none->a0.cell? ⟨b,o,none⟩=some v->w.cell? ⟨b,o,none⟩=some v:=λb o v hb h=>by obtain⟨f,hf⟩:=kU.1 hb;obtain⟨c',e,h1,h2⟩:=hro b f hf;refine R.SG (y:=⟨b,o,none⟩) ?_;rw[←h];simp only[World.cell?,h1,h2]
 have ZF:∀b,ro0 b≠none->∀k,k<J.n->b≠d.W k:=λb hb k hk e=>by have h1:=R.Sq.ro b (by rw[R.Sq.E.ro];exact hrd b hb);have h2:=R.Sq.lt k ae;omega
 have YC:J.n<=c:=by
  rcases hrow'.2 with⟨e,_⟩|⟨g',cap',cur,e,_,_,h,_⟩
  ·cases e
  ·simp only[Value.slice.injEq]at e;rw[e.2.2];exact h
 refine⟨n8,nu,YC,own_lt hrow' rfl,λi hi=>by have:=R.Sq.lt i ae;omega,λi hi=>⟨?_,λk hk=>R.far g (by rw[hlV];rfl) k ae⟩,λi hi=>?_,?_,C.tl,λi hi=>?_⟩
 ·rw[hrow'.cellAt i ae];exact FH i ae
 ·obtain⟨hb,ho,h1,h2,h3⟩:=C.ha i hi;exact⟨hb,ho,h1,hc1 _ _ _ h3 h2,ZF hb h3⟩
 ·rcases C.tu with h|⟨tb,to,h1,h2⟩
  ·exact⟨.inl h⟩
  ·exact⟨.inr ⟨tb,to,h1,λi hi=>hc1 _ _ _ (h2 i hi).1 (h2 i hi).2⟩⟩
 ·have:=R.eyes i ae;rwa [hj]at this
theorem RunAt.aeG(R:RunAt J d0 w1 d nb lV w)(hP:d0.P=prog)(hbase:d0.base=J.n)(hj:d.j=J.n):OG J d:=by refine⟨R.Sq.E.P.trans hP,R.Sq.E.base.trans hbase,hj,λi hi=>?_⟩;rw[R.Sq.facts i ae];simp[eN]
theorem TJ(hU:∀c fs,U fs->U (c::fs))(hcs:NE (d0.cs0))(R:RunAt J d0 w1 d nb lV w)(C:fR J ro0 wb wo wc tc hc tu ha csC eC a0)(Ba:RunBase J d0 bc bd br (aC (some ⟨wb,wo,none⟩) tu ha J.n wc J.c.turns.length tc J.c.halt.length hc J.c.until_) dv wb wo w1)(hj:d.j=J.n)(hro:∀b f,ro0 b=some f->∃c e,a0.heap[b]? =some (.cells c e (0,0))/\w1.heap[b]? =some (.cells c e f))(hrd:∀b,ro0 b≠none->d0.ro b≠none)(hP:d0.P=prog)(hbase:d0.base=J.n)(hgot:∀t i,i<J.n->((J.ar t).w i).got.length<100000)
   (hA:IV bc bd br d.come d.gone d.Wg lV wb wo J.n wc J.n a) {tail:Code}
  (hQ:∀a' t w0 w3 aa ca ao no co,IsE br d.gone d.Wg w3.heap.size a'->Ex J d w t w0 (.agg #[.slice aa J.n ca,.slice ao no co,.int .i64 ((t-J.n:Nat):Int),.bool ((J.ar t).any J.c)]) w3->
   wpM prog true d0.cs0 (JP prog S d0.cs0 λd=>J.bE d.W) Stop U 33 tail Q (.read t d w0) a' (w3.alloc (.cells #[.slice aa J.n ca,.slice ao no co,.int .i64 ((t-J.n:Nat):Int),.bool ((J.ar t).any J.c)] 31))):
  wpM prog true d0.cs0 (JP prog S d0.cs0 λd=>J.bE d.W) Stop U 33 (.seq bM.r.r.r.r.r.r.l tail) Q (.run J.n d) a w:=by
 obtain⟨n0,n8,nu⟩:=C.n;obtain⟨g,c,hlV⟩:∃g c,lV=.slice (some ⟨g,0,none⟩) J.n c:=by
  obtain⟨ps,hrow,_⟩:=R.row;rcases hrow.2 with⟨_,h⟩|⟨g,cap,cur,h,_⟩
  ·omega
  ·exact⟨g,cap,by rw[h,hj]⟩
 have PC:=R.acZ C hj hro hrd hlV;have Bo:=R.aeG hP hbase hj;have aeH:NE (d.cs0):=trivial;have hp:=OV (S:=S) (Stop:=Stop) (U:=U) aeH Bo PC hgot;rw[R.Sq.E.cs0]at hp;have hbc:w.heap[bc]? =some (.cells (aC (some ⟨wb,wo,none⟩) tu ha J.n wc J.c.turns.length tc J.c.halt.length hc J.c.until_) 25 (0,0)):=R.old _ _ Ba.c aJ;have q:∀o v,(aC (some ⟨wb,wo,none⟩) tu ha J.n wc J.c.turns.length tc J.c.halt.length hc J.c.until_)[o]? =some v->w.cell? ⟨bc,o,none⟩=some v:=λo v h=>by rw[af hbc];exact h
 have q0:=q 0 _ rfl;have q1:=q 1 _ rfl;have q2:=q 2 _ rfl;have q3:=q 3 _ rfl;have HP:=ai hp;have HQ:=ai hQ;clear hp hQ q hbc PC Bo R C Ba hro hrd hgot;subst hlV;cases hA;simp only[bM,f33,Code.l,Code.r,bJ];refine nQ ?_;iterate 3
  refine o2w ?_
 refine aM (f:=75) (args:=#[.agg (aC (some ⟨wb,wo,none⟩) tu ha J.n wc J.c.turns.length tc J.c.halt.length hc J.c.until_),.slice (some ⟨g,0,none⟩) J.n c,.chan (some d.come)]) rfl rfl rfl func75 rfl rfl (by simp[Act.eval,aC]) (λ_ _ _ _ h=>hU _ _ h) HP.out ?_
 ·rintro i' v w3 ⟨t,w0,rfl,hR⟩;obtain⟨va,vo,rS,rfl,h1,h2,h3⟩:=hR.ex;obtain⟨aa,ca,rfl⟩:∃aa ca,va=.slice aa J.n ca:=by
   rcases h1.2 with⟨rfl,e⟩|⟨g,cap,cur,rfl,_⟩
   ·exact⟨none,0,by rw[e]⟩
   ·exact⟨_,_,rfl⟩
  obtain⟨ao,no,co,rfl⟩:∃ao no co,vo=.slice ao no co:=by
   rcases h2.2 with⟨rfl,e⟩|⟨g,cap,cur,rfl,_⟩
   ·exact⟨none,0,0,rfl⟩
   ·exact⟨_,_,_,rfl⟩
  have HR:=ai hR;clear hR h1 h2 h3;walk_nrm;refine o2w ?_;refine o2w ?_;refine on ?_;exact HQ.out _ _ _ _ _ _ _ _ _ (IsE.mk ..) HR.out
end
theorem PX:bM.r.r.r.r.r.r.r=.seq bM.r.r.r.r.r.r.r.l (.seq bM.r.r.r.r.r.r.r.r.l (.seq bM.r.r.r.r.r.r.r.r.r.l .ret)):=by simp only[bM,f33,Code.l,Code.r,bJ]
section
variable{w:World}{d:aK}{tb:Nat}
variable{Stop:Ph->Frame->List Frame->World->Prop}
theorem WE(hcs:NE cs0)(hd:d.cs0=cs0)(hP:d.P=prog)(E8:d.ty=link.tWg)(nv:∀b,ig d (J.bE d.W) w0 b->w.heap[b]? =w0.heap[b]?)(hA:IsE br d.gone d.Wg tb a)
  (hQ:∀a' w',IsE br d.gone d.Wg tb a'->uS d (J.bE d.W) t w w'->wpM prog true cs0 (JP prog S cs0 λd=>J.bE d.W) Stop U 33 (.seq bM.r.r.r.r.r.r.r.r.r.l .ret) Q .post a' w'):
  wpM prog true cs0 (JP prog S cs0 λd=>J.bE d.W) Stop U 33 bM.r.r.r.r.r.r.r Q (.read t d w0) a w:=by
 subst hd;rw[PX];intro b k fs hfn FL hu hc;have HQ:=ai hQ;have HC:=ai hc;have IE:b.kind≠.early:=by rw[FL];decide
 have hnr:(prog.funcs[b.fn]?).any (·.norace)=false:=by rw[hfn];rfl
 clear hQ hc;have acm:bM.r.r.r.r.r.r.r.r.r.l=bM.r.r.r.r.r.r.r.r.r.l:=rfl;generalize hz:(Code.seq bM.r.r.r.r.r.r.r.r.r.l .ret)=z at*;cases hA;simp only[bM,f33,Code.l,Code.r,bJ];refine .pure (λ_=>stepG_seq) (.pure (λ_=>stepG_region) ?_);refine rg ?_
 (refine fN fH (.inl FL) rfl rfl (by rw[hfn];kernel_rfl) (by rw[hfn];exact xT _ az _) (λτ K hK=>?_);go_simp;refine hK _ _ _ (aN _ _) ?_;clear hK K;walk_nrm)
 refine .jump (K:=λi' aZ bz a'=>i'=.post/\aZ=_/\bz=fs/\uS d (J.bE d.W) t w a') ⟨_,SA (x:=.tmp 50) hP E8 IE rfl rfl rfl cC hnr ?_ rfl rfl rfl rfl (by simp[Act.eval,Act.put]),nv,rfl⟩ ?_
 ·rfl
 ·rintro i' aZ bz a' ⟨rfl,rfl,rfl,V⟩;walk_nrm;exact .pure (λ_=>stepG_region_end) (HQ.out _ _ (IsE.mk ..) V b k bz hfn FL hu HC.out)
structure RunEnd(J:eM σ)(a0:World)(v:Value)(a':World):Prop where
 ex:∃t,(J.ar t).goes J.c=false/\J.n<=t/\t<=J.n+J.c.most/\a0.heap.size<=a'.heap.size/\(∀(b:Nat) o,a0.heap[b]? =some o->o≠cI->¬J.L.Foot a0 b->a'.heap[b]? =some o)/\J.L.Rep (J.ar t).s a'/\
  ∃va vo rS B,v=.agg #[va,vo,.int .i64 ((t-J.n:Nat):Int),.bool ((J.ar t).any J.c)]/\a'.ownsRow B 45 1 va J.n rS/\a'.ownsRow B 108 3 vo (dc (J.ar t).w J.n).length (jl (dc (J.ar t).w J.n))/\(∀g,va.ownBlock=some g->¬J.L.Foot a' g)/\∀i,i<J.n->∃sl,rS[i]? =some sl/\AnsAt a' sl ((J.ar t).w i).got/\(((J.ar t).w i).got≠[]->∀b,bs a' sl b->b<a'.heap.size/\¬J.L.Foot a' b/\∀o,a0.heap[b]? =some o->o≠cI->J.L.Foot a0 b)
theorem WG(hcs:NE cs0){n:Nat}{all:Int}{cut:Bool}{gone:Nat}(hA:IsE br gone Wg tb a)(h5:a.eval (.tmp 5)=a.eval (.tmp 5))(hne:tb≠br)(hb:w.heap[br]? =some (.cells #[.slice none 0 0,.slice none 0 0,.int .i64 0,.bool false] 31 (0,0)))(ht:w.heap[tb]? =some (.cells #[.slice aa n ca,.slice ao no co,.int .i64 all,.bool cut] 31 (0,0)))
   (hQ:Post .post (.tuple #[.agg #[.slice aa n ca,.slice ao no co,.int .i64 all,.bool cut],.int .i64 0]) ((((w.setCell ⟨br,0,none⟩ (.slice aa n ca)).setCell ⟨br,1,none⟩ (.slice ao no co)).setCell ⟨br,2,none⟩ (.int .i64 all)).setCell ⟨br,3,none⟩ (.bool cut))):
  wpM prog true cs0 (JP prog S cs0 λd=>J.bE d.W) Stop U 33 (.seq bM.r.r.r.r.r.r.r.r.r.l .ret) (bodyPostM prog f33 Post) .post a w:=by
 have q:∀o v,(#[.slice aa n ca,.slice ao no co,.int .i64 all,.bool cut]:Array Value)[o]? =some v->w.cell? ⟨tb,o,none⟩=some v:=λo v h=>by rw[af ht];exact h
 have q0:=q 0 _ rfl;have q1:=q 1 _ rfl;have q2:=q 2 _ rfl;have q3:=q 3 _ rfl;have y0:=cO hb 0;have y1:=cO hb 1;have y2:=cO hb 2;have y3:=cO hb 3;have z0:=zO hb 0;have z1:=zO hb 1;have z2:=zO hb 2;have z3:=zO hb 3;have HQ:=ai hQ;clear q hQ hb ht h5;cases hA;simp only[bM,f33,Code.l,Code.r,bJ];refine wpM_seq (wpM_lone fH hcs ax (l8 rfl) (xT _ az _) (λτ=>?_));go_wp2;refine⟨_,aN _ _,bn ⟨rfl,_,?_,HQ.out⟩⟩;simp[results,go_sem, *]
end
theorem PY:bM.r.r.r.r.r.r=.seq bM.r.r.r.r.r.r.l bM.r.r.r.r.r.r.r:=by simp only[bM,f33,Code.l,Code.r,bJ]
section
variable{tu:Option Addr}{a0 w w3 aE:World}{d:aK}{gone:Nat}
variable{Stop:Ph->Frame->List Frame->World->Prop}
theorem Ext.rfl'(d:aK):Ext d d:=⟨rfl,rfl,aY _,rfl,rfl,rfl,rfl,rfl,aY _,rfl,rfl,rfl,rfl,rfl,λ_ _=>rfl,λ_ _=>rfl,λ_ _=>rfl,λ_ _=>rfl,λ_ _=>rfl⟩
theorem aaB(hcs:NE cs0){cs:Array Value}(C:fR J ro0 wb wo wc tc hc tu ha csC eC a0)(A:ik J ro0 cs dv come gone a0 w)(hcl:come<w.heap.size/\gone<w.heap.size)(hL:J.L.Ok (roW ro0 (a0.heap.size+1)))(hsz:w1.heap.size=w.heap.size+1):
  RunAt J (gW S cs0 J.n come gone w.heap.size wb csC eC (roW ro0 (a0.heap.size+1))) w1 (gW S cs0 J.n come gone w.heap.size wb csC eC (roW ro0 (a0.heap.size+1))) (λ_=>0) (.slice none 0 0) w1:=by
 have hs:=A.size;have hlt:=λb (h:ro0 b≠none)=>C.lt h;have hwb:=hlt wb (by rw[C.C.2.1];simp);have yw:∀b,roW ro0 (a0.heap.size+1) b≠none->b<w.heap.size:=λb hb=>by
  by_cases e:b=a0.heap.size+1
  ·omega
  ·unfold roW at hb;rw[if_neg e]at hb;have:=hlt b hb;omega
 have aeI:=Dp (S:=S) hcs A C hcl;refine⟨⟨Ext.rfl' _,aeI,λi hi=>absurd hi (dV _),λi hi=>absurd hi (dV _),λi hi=>absurd hi (dV _),⟨hcl.1,hcl.2,by show wb<w.heap.size;omega,Nat.lt_succ_self _⟩,yw⟩,bj _,by rw[hsz];exact aY _,λb o h _=>h,⟨[],⟨rfl,.inl ⟨rfl,rfl⟩⟩,λi hi=>absurd hi (dV _)⟩,λg h=>bY,λi hi=>absurd hi (dV _)⟩
theorem PZ{cs:Array Value}(C:fR J ro0 wb wo wc tc hc tu ha csC eC a0)(A:ik J ro0 cs dv come gone a0 w)(yI:d0=gW S cs0 J.n come gone w.heap.size wb csC eC (roW ro0 (a0.heap.size+1)))(V1:mQ d0 (J.bE d0.W) w w1)(R:RunAt J d0 w1 d nb lV wp)(hj:d.j=J.n)
  (RO:Ex J d wp t w0 (.agg #[.slice aa J.n ca,.slice ao no co,.int .i64 ((t-J.n:Nat):Int),.bool ((J.ar t).any J.c)]) w3)(hL:J.L.Ok (roW ro0 (a0.heap.size+1)))
  (V:uS d (J.bE d.W) t (w3.alloc (.cells #[.slice aa J.n ca,.slice ao no co,.int .i64 ((t-J.n:Nat):Int),.bool ((J.ar t).any J.c)] 31)) aE):
  w3.heap.size≠a0.heap.size+2/\aE.heap[a0.heap.size+2]? =some (.cells #[.slice none 0 0,.slice none 0 0,.int .i64 0,.bool false] 31 (0,0))/\aE.heap[w3.heap.size]? =some (.cells #[.slice aa J.n ca,.slice ao no co,.int .i64 ((t-J.n:Nat):Int),.bool ((J.ar t).any J.c)] 31 (0,0))/\
  RunEnd J a0 (.agg #[.slice aa J.n ca,.slice ao no co,.int .i64 ((t-J.n:Nat):Int),.bool ((J.ar t).any J.c)]) ((((aE.setCell ⟨a0.heap.size+2,0,none⟩ (.slice aa J.n ca)).setCell ⟨a0.heap.size+2,1,none⟩ (.slice ao no co)).setCell ⟨a0.heap.size+2,2,none⟩ (.int .i64 ((t-J.n:Nat):Int))).setCell ⟨a0.heap.size+2,3,none⟩ (.bool ((J.ar t).any J.c))):=by
 obtain⟨Ba,hback⟩:=pD A C yI V1;have hs:=A.size;obtain⟨hs1,hs2⟩:=RO.size;have hwp:w1.heap.size<=wp.heap.size:=by
  have:=R.B;have:=R.Sq.E.B;have:d0.B=w.heap.size+1:=by rw[yI];rfl
  have:=V1.size;omega
 have BL:=V1.size;have hro:d.ro=roW ro0 (a0.heap.size+1):=by rw[R.Sq.E.ro,yI];rfl
 have Xr:d.Wg=w.heap.size:=by rw[R.Sq.E.Wg,yI];rfl
 have yB:∀b,w.heap.size<=b->d.ro b=none:=λb hb=>by
  cases e:d.ro b with
  |none=>rfl
  |some f=>have:=R.Sq.ro b lY;omega
 have Yd:∀b,ro0 b=none->b≠a0.heap.size+1->d.ro b=none:=λb h1 h2=>by rw[hro];unfold roW;rw[if_neg h2];exact h1
 have TK:∀b,a0.heap.size<=b->ro0 b=none:=λb hb=>by
  cases e:ro0 b with
  |none=>rfl
  |some f=>have:=C.lt (b:=b) lY;omega
 have J5:∀i,i<J.n->w.heap.size<d.W i:=λi hi=>by have:=R.Sq.lt i ae;omega
 generalize hA:(w3.alloc (.cells #[.slice aa J.n ca,.slice ao no co,.int .i64 ((t-J.n:Nat):Int),.bool ((J.ar t).any J.c)] 31))=wA at V;have Im:∀b,b<w3.heap.size->wA.heap[b]? =w3.heap[b]? :=λb hb=>by rw[←hA];show(w3.heap.push _)[b]? =_;rw[cF,if_neg ae]
 have Ye:wA.heap[w3.heap.size]? =some (.cells #[.slice aa J.n ca,.slice ao no co,.int .i64 ((t-J.n:Nat):Int),.bool ((J.ar t).any J.c)] 31 (0,0)):=by rw[←hA];show(w3.heap.push _)[_]? =_;rw[cF,if_pos rfl]
 have vI:∀b,ig d (J.bE d.W) wA b↔ig d (J.bE d.W) w0 b:=λb=>by
  have hh:∀i,i<d.j->∀b,eF wA (d.W i) b↔eF w0 (d.W i) b:=λi hi=>rblocks_same (w:=w0) (w':=wA) (W:=d.W i) λx hx=>by obtain⟨h1,h2,_⟩:=RO.pub x.block ⟨i,hi,hx⟩;exact bP (w:=w0) (by rw[Im _ ae,h2])
  exact⟨λ⟨i,hi,h⟩=>⟨i,hi,(hh i hi b).1 h⟩,λ⟨i,hi,h⟩=>⟨i,hi,(hh i hi b).2 h⟩⟩
 have iD:∀(b:Nat) o,wp.heap[b]? =some o->o≠cI->b<w.heap.size->wA.heap[b]? =some o/\¬ig d (J.bE d.W) wA b:=λb o h1 h2 h3=>by refine⟨by rw[Im b ae];exact RO.old b o h1 h2 λi hi e=>by have:=J5 i hi;omega,λhp=>?_⟩;obtain⟨_,_,h4⟩:=RO.pub b ((vI b).1 hp);obtain⟨i,hi,e⟩:=h4 o h1 h2;have:=J5 i hi;omega
 have hnew:∀b,w0.heap.size<=b->¬ig d (J.bE d.W) wA b:=λb hb hp=>by have:=(RO.pub b ((vI b).1 hp)).1;omega
 have hbr:=R.old _ _ Ba.r aJ;obtain⟨aaC,aaD⟩:=iD _ _ hbr aJ ae;have Yf:=Yd (a0.heap.size+2) (TK _ ae) ae;have aeJ:=V.same _ _ aaC aJ aaD Yf;have ac0:=V.foot _ _ aaC aJ rfl aaD Yf;have aeK:=V.same _ _ Ye aJ (hnew _ hs2) (yB _ ae);have bT:∀b,b≠a0.heap.size+2->((((aE.setCell ⟨a0.heap.size+2,0,none⟩ (.slice aa J.n ca)).setCell ⟨a0.heap.size+2,1,none⟩ (.slice ao no co)).setCell ⟨a0.heap.size+2,2,none⟩ (.int .i64 ((t-J.n:Nat):Int))).setCell ⟨a0.heap.size+2,3,none⟩ (.bool ((J.ar t).any J.c))).heap[b]? =aE.heap[b]? :=λb hb=>by rw[ah hb,ah hb,ah hb,ah hb]
 have ac1:((((aE.setCell ⟨a0.heap.size+2,0,none⟩ (.slice aa J.n ca)).setCell ⟨a0.heap.size+2,1,none⟩ (.slice ao no co)).setCell ⟨a0.heap.size+2,2,none⟩ (.int .i64 ((t-J.n:Nat):Int))).setCell ⟨a0.heap.size+2,3,none⟩ (.bool ((J.ar t).any J.c))).heap.size=aE.heap.size:=gF;generalize ((((aE.setCell ⟨a0.heap.size+2,0,none⟩ (.slice aa J.n ca)).setCell ⟨a0.heap.size+2,1,none⟩ (.slice ao no co)).setCell ⟨a0.heap.size+2,2,none⟩ (.int .i64 ((t-J.n:Nat):Int))).setCell ⟨a0.heap.size+2,3,none⟩ (.bool ((J.ar t).any J.c)))=wF at*;refine⟨ae,aeJ,aeK,⟨t,RO.over,RO.le.1,RO.le.2,?_,λb o h1 h2 h3=>?_,?_,?_⟩⟩
 ·have h1:=V.size;have h2:=(aQ.1 aaC).1;omega
 ·have hb:=(aQ.1 h1).1;rw[bT b ae];obtain⟨hb1,hb2⟩:=hback b o h1 h2 h3;cases e:ro0 b with
  |none=>obtain⟨g1,g2⟩:=iD b o (R.old b o (hb1 e) h2) h2 ae;exact V.same b o g1 h2 g2 (Yd b e ae)
  |some f=>obtain⟨c,e',rfl,g1⟩:=hb2 f e;obtain⟨g2,_⟩:=iD b _ (R.old b _ g1 aJ) aJ ae;obtain⟨c',e'',g3,g4⟩:=V.ro b f (by rw[hro,vH (λb h=>C.lt h) lY];exact e);rw[g2]at g3;simp only[cu,sL]at g3;rw[g4,←g3.1,←g3.2.1]
 ·have hinv:J.L.Rep (J.ar t).s aE:=V.inv;exact(hL.rep _ aE _ hinv λb hb=>bT b λe=>ac0 (by rw[←e];exact hb)).1
 ·obtain⟨va,vo,rS,e,h1,h2,h3⟩:=RO.ex;obtain⟨e1,e2⟩:va=.slice aa J.n ca/\vo=.slice ao no co:=by simp only[Value.agg.injEq]at e;have e0:=congrArg (λl=>l[0]?) e;have e1:=congrArg (λl=>l[1]?) e;simp only[jh,mP,ma,cu]at e0 e1;exact⟨e0.symm,e1.symm⟩
  subst e1 e2;have TL:∀g,w0.heap.size<=g->g<w3.heap.size->(∃o,w3.heap[g]? =some o/\o≠cI)->wF.heap[g]? =w3.heap[g]? :=λg h4 h5 ⟨o,h6,h7⟩=>by rw[bT g ae,h6];exact V.same g o (by rw[Im g h5];exact h6) h7 (hnew g h4) (yB g ae)
  have hown:∀{e:TypeId} {s n:Nat} {v:Value} {xs:List Value},w3.ownsRow w0.heap.size e s v n xs->wF.ownsRow w0.heap.size e s v n xs:=λ{e s n v xs} h=>own_same h λg hg=>by
   have hb:=dH h hg;refine TL g hb (own_lt h hg) ?_;rcases h.2 with⟨rfl,_⟩|⟨g',cap,cur,rfl,_,h6,_⟩
   ·cases hg
   ·obtain rfl:=aP hg;exact⟨_,h6,aJ⟩
  have hFE:∀b,J.L.Foot wF b↔J.L.Foot aE b:=by have hinv:J.L.Rep (J.ar t).s aE:=V.inv;exact(hL.rep _ aE _ hinv λb hb=>bT b λe=>ac0 (by rw[←e];exact hb)).2
  have F9:∀g,g<w3.heap.size->g<wF.heap.size:=λg hg=>by have h4:=V.size;have h5:=(aQ.1 Ye).1;omega
  have Yg:∀g,w0.heap.size<=g->g<w3.heap.size->(∃c e f,w3.heap[g]? =some (.cells c e f))->¬J.L.Foot wF g:=λg h4 h5 ⟨c,e,f,h6⟩ h7=>V.foot g _ (by rw[Im g h5];exact h6) aJ rfl (hnew g h4) (yB g ae) ((hFE g).1 h7);refine⟨_,_,rS,w0.heap.size,rfl,hown h1,hown h2,λg hg=>?_,λi hi=>?_⟩
  ·refine Yg g (dH h1 hg) (own_lt h1 hg) ?_;rcases h1.2 with⟨h,_⟩|⟨g',cap,cur,h,_,h6,_⟩
   ·rw[h]at hg;cases hg
   ·rw[h]at hg;obtain rfl:=aP hg;exact⟨_,_,_,h6⟩
  obtain⟨sl,g1,g2,g3,g4⟩:=h3 i hi;refine⟨sl,g1,?_⟩;by_cases h0:((J.ar t).w i).got=[]
  ·obtain⟨a,c,e,_⟩:=g2;refine⟨⟨a,c,e,λi x h=>?_⟩,λh=>absurd h0 h⟩;rw[h0]at h;cases h
  have lN:∀g,sl.ownBlock=some g->∃c e f,w3.heap[g]? =some (.cells c e f):=by
   intro g hg;obtain⟨a,c,e,h⟩:=g2;obtain⟨y,hy⟩:∃y,((J.ar t).w i).got[0]? =some y:=⟨_,eA (List.length_pos_iff.2 h0)⟩;obtain⟨b,hb,hc⟩:=h 0 y hy;subst hb;rw[e]at hg;obtain rfl:=aP hg;have h1:=hc.c0;unfold World.cell? at h1;split at h1
   ·exact⟨_,_,_,by assumption⟩
   ·cases h1
  have hcell:∃g,sl.ownBlock=some g/\∃o,w3.heap[g]? =some o/\o≠cI:=by obtain⟨a,c,e,h⟩:=g2;obtain⟨y,hy⟩:∃y,((J.ar t).w i).got[0]? =some y:=⟨_,eA (List.length_pos_iff.2 h0)⟩;obtain⟨b,hb,hc⟩:=h 0 y hy;subst hb;exact⟨b,by rw[e];rfl,gR hc.c0⟩
  obtain⟨g,hg,ho⟩:=hcell;refine⟨?_,λ_ b hb=>?_⟩;rotate_left
  ·have hb':bs w3 sl b:=(sblocks_same (w:=w3) (w':=wF) (sl:=sl) (λx n e h1 o=>by have hgx:sl.ownBlock=some x.block:=(by rw[h1];rfl);obtain⟨k1,k2⟩:=g3 _ hgx;rw[hg]at hgx;obtain rfl:=aP hgx;exact bP (w:=w3) (TL _ k1 k2 ho)) b).1 hb;rcases g4 _ hb' with h|h
   ·obtain⟨k1,k2⟩:=g3 _ h;exact⟨F9 b k2,Yg b k1 k2 (lN b h),λo ho _=>by have:=(aQ.1 ho).1;omega⟩
   ·have hp:ig d (J.bE d.W) w0 b:=⟨i,ae,h⟩;refine⟨F9 b (by have:=(RO.pub b hp).1;omega),λhf=>V.pubF b ((vI _).2 hp) ((hFE b).1 hf),λo ho hne=>?_⟩;apply cY;intro hF;have hbl:=(aQ.1 ho).1;obtain⟨hb1,hb2⟩:=hback b o ho hne hF;cases e:ro0 b with
    |none=>exact(iD b o (R.old b o (hb1 e) hne) hne ae).2 ((vI b).2 hp)
    |some f=>obtain⟨c',e',_,g5⟩:=hb2 f e;exact(iD b _ (R.old b _ g5 aJ) aJ ae).2 ((vI b).2 hp)
  refine eX (λy hy=>?_) g2;rcases g4 _ hy with h|h
  ·obtain⟨k1,k2⟩:=g3 _ h;rw[hg]at h;obtain rfl:=aP h;exact bP (w:=w3) (TL _ k1 k2 ho)
  ·have hp:ig d (J.bE d.W) w0 y.block:=⟨i,ae,h⟩;obtain⟨k1,k2,k3⟩:=RO.pub _ hp;have hne:y.block≠a0.heap.size+2:=λe=>aaD (by rw[←e];exact(vI _).2 hp);have e1:wF.cell? y=aE.cell? y:=bP (w:=aE) (bT _ hne);rw[e1,V.pub y.block ((vI _).2 hp) y rfl];exact bP (w:=w3) (Im _ ae)
end
section
variable{tu:Option Addr}{a0:World}{xv:Value}
variable{Stop:Ph->Frame->List Frame->World->Prop}
theorem WH(hU:∀c fs,U fs->U (c::fs))(hcs:NE cs0)(C:fR J ro0 wb wo wc tc hc tu ha csC eC a0)(G:Gig J (roW ro0 (a0.heap.size+1)) yR x (.iface tI xv)):
  CallsM prog true cs0 (JP prog S cs0 λd=>J.bE d.W) Stop U .pre 33 #[.agg (aC (some ⟨wb,wo,none⟩) tu ha J.n wc J.c.turns.length tc J.c.halt.length hc J.c.until_),.iface tI xv] a0
   (λi v a'=>i=.post/\∃rv,v=.tuple #[rv,.int .i64 0]/\RunEnd J a0 rv a'):=by
 obtain⟨n0,n8,nu⟩:=C.n;have hlen:(J.c.work.map List.length).length=J.n:=by rw[pW];rfl
 have kr:∀i,i<J.n->(J.c.work.map List.length).getD i 0=(J.c.calls i).length:=λi hi=>by have hi:i<J.c.work.length:=hi;unfold bq.calls;rw[cQ,cQ,ml,eA hi];rfl
 refine aX func33 (c:=bM) bF ?_;rw[show(f33).ntmps- (#[Value.agg (aC (some ⟨wb,wo,none⟩) tu ha J.n wc J.c.turns.length tc J.c.halt.length hc J.c.until_),Value.iface tI xv]:Array Value).size=51 from rfl,Dm];have aaE:=λ{tail Q}=> @Dn a0 cs0 Ph (JP prog S cs0 λd=>J.bE d.W) Stop U .pre hcs (some ⟨wb,wo,none⟩) wc J.c.turns.length tc J.c.halt.length hc tu ha (J.c.work.map List.length) J.c.until_ 0 tI xv (by rw[hlen];omega) (by rw[C.ok];rfl) (λw' hw'=>check_any wb wo wc J.c.turns.length tc J.c.halt.length hc tu ha (J.c.work.map List.length) J.c.until_ 0 w' (by rw[hlen];omega) (by rw[C.ok];rfl) λi hi=>by rw[hlen]at hi;obtain⟨x,c,h,_⟩:=C.w i hi;refine⟨x,c,?_⟩;rw[kr i hi,←h];exact bP (w:=a0) (hw' wb (dw a0 _ h))) tail Q;rw[hlen]at aaE;refine aaE (λ_ a1 w1 F7 RB=>?_) (λhb=>by rw[C.ok]at hb;cases hb);clear aaE;refine wpM_seq (wpM_lone fH hcs ax (l8 (by cases F7;rfl)) (xT _ az _) (λτ=>?_));refine kv (PT (w:=w1.tp τ) F7) ?_;rintro a2 w2 ⟨come,gone,qI,Ci,qd⟩;refine⟨(w1.alloc fA).alloc fA,⟨qd.heap,qd.os,qd.output⟩,?_⟩;simp only[Exit.then];have aeL:(come=w1.heap.size/\gone=w1.heap.size+1)\/(gone=w1.heap.size/\come=w1.heap.size+1):=Ci;have A:ik J ro0 _ (.iface tI xv) come gone a0 ((w1.alloc fA).alloc fA):=LQ RB aeL;have hcl:come< ((w1.alloc fA).alloc fA).heap.size/\gone< ((w1.alloc fA).alloc fA).heap.size:=bV;clear qd;generalize (w1.alloc fA).alloc fA=w at*;refine PW hcs C A hcl G.L qI λa3 w3 V CV=>?_;have Ba:=(pD A C rfl V).1;have hback:=(pD A C rfl V).2;have R0:=aaB (S:=S) hcs C A hcl G.L V.size;have hro:∀b f,ro0 b=some f->∃c e,a0.heap[b]? =some (.cells c e (0,0))/\w3.heap[b]? =some (.cells c e f):=λb f h=>by obtain⟨_,c,e,h1,_⟩:=C.rof b f h;obtain⟨c',e',h2,h3⟩:=(hback b _ h1 aJ (λhF=>by have:=(C.L0.foot _ _ _ C.rep hF).2;rw[h]at this;cases this)).2 f h;simp only[sL]at h2;exact⟨c,e,h1,by rw[h2.1,h2.2.1];exact h3⟩
 have hrd:∀b,ro0 b≠none->(gW S cs0 J.n come gone w.heap.size wb csC eC (roW ro0 (a0.heap.size+1))).ro b≠none:=λb hb=>by show roW ro0 (a0.heap.size+1) b≠none;rw[vH (λb h=>C.lt h) hb];exact hb
 generalize yI:gW S cs0 J.n come gone w.heap.size wb csC eC (roW ro0 (a0.heap.size+1))=d0 at*;have e1:d0.P=prog:=by rw[←yI];rfl
 have e3:d0.cs0=cs0:=by rw[←yI];rfl
 have e4:d0.ty=link.tWg:=by rw[←yI];rfl
 have e5:d0.base=J.n:=by rw[←yI];rfl
 have e6:d0.csC=csC:=by rw[←yI];rfl
 have e7:d0.ro=roW ro0 (a0.heap.size+1):=by rw[←yI];rfl
 have e8:d0.come=come/\d0.gone=gone/\d0.Wg=w.heap.size/\d0.j=0:=by rw[←yI];exact⟨rfl,rfl,rfl,rfl⟩
 subst e3;have G':Gig J d0.ro yR x (.iface tI xv):=by rw[e7];exact G
 rw[←e8.1,←e8.2.1,←e8.2.2.1]at CV;refine TI hcs R0 Ba C.C.2.2.2 e1 e4 e5 (by rw[e6];exact C.C.2.2.1) G' e8.2.2.2 CV λa4 w4 d nb lV KS hj R=>?_;simp only[Exit.then];rw[PY];refine TJ hU hcs R C Ba hj hro hrd e1 e5 G.got KS λa5 t w0 w5 aa ca ao no co ZH RO=>?_;have hP:d.P=prog:=R.Sq.E.P.trans e1;have E8:d.ty=link.tWg:=R.Sq.E.ty.trans e4;have vI:∀b,ig d (J.bE d.W) w0 b->(w5.alloc (.cells #[.slice aa J.n ca,.slice ao no co,.int .i64 ((t-J.n:Nat):Int),.bool ((J.ar t).any J.c)] 31)).heap[b]? =w0.heap[b]? :=λb hb=>by obtain⟨h1,h2,_⟩:=RO.pub b hb;have:=RO.size;show(w5.heap.push _)[b]? =_;rw[cF,if_neg ae,h2]
 refine WE hcs R.Sq.E.cs0 hP E8 vI ZH λa6 aE hA6 VE=>?_;obtain⟨hne,hbr,htb,hend⟩:=PZ C A yI.symm V R hj RO (by rw[←e7];exact G'.L) VE;exact WG hcs hA6 rfl hne hbr htb ⟨rfl,_,rfl,hend⟩
theorem aaF{Stop:ι->Frame->List Frame->World->Prop}(hcs:NE cs0)(wk:Option Addr)(wc tn tc hn hc:Nat)(tu ha:Option Addr)(lens:List Nat)(un:Int)(tI:TypeId)(xv:Value)(hl:lens.length<100000)(hbad:eB lens un=false)
  (hw:∀w':World,(∀b,b<a0.heap.size->w'.heap[b]? =a0.heap[b]?)->Calls prog 70 #[.agg (aC wk tu ha lens.length wc tn tc hn hc un)] w' λe w''=>e=.returned (.int .i64 30)/\Below w'.heap.size w' w''):
  CallsM prog true cs0 Jm Stop U i 33 #[.agg (aC wk tu ha lens.length wc tn tc hn hc un),.iface tI xv] a0
   (λi' v a'=>i'=i/\v=.tuple #[.agg #[.slice none 0 0,.slice none 0 0,.int .i64 0,.bool false],.int .i64 30]/\a0.heap.size<=a'.heap.size/\∀b,b<a0.heap.size->a'.heap[b]? =a0.heap[b]?):=by
 refine aX func33 (c:=bM) bF ?_;rw[show(f33).ntmps- (#[Value.agg (aC wk tu ha lens.length wc tn tc hn hc un),Value.iface tI xv]:Array Value).size=51 from rfl,Dm];refine Dn hcs wk wc tn tc hn hc tu ha lens un 30 tI xv hl (by rw[hbad];rfl) hw (λh=>by rw[hbad]at h;cases h) (λ_ a' w' h1 h2 h3 h4=>?_);exact⟨h1,_,h4,rfl,rfl,h2,h3⟩
end
end
section
open Go Go.Conc Go.ConcN Go.RowKit
attribute [local go_sem] aF aG aT aD aO aW aA aB dE cB dF a8
variable[Inhabited bO]
theorem WI(b:Nat)(w:World)(args:Array Value):(callMethod (.iface 56 (.pointer (some ⟨b,0,none⟩))) "Do" args).runT prog w #[]=(.ok (.enter 181 (#[.pointer (some ⟨b,0,none⟩)] ++args)) w,#[]):=ax
noncomputable def dr(m:Nat)(zs:List Int)(cc:bq):eM JS:=PE 20004 (m+3) (m+2) (m+6) zs.length cc (AJ zs)
inductive P0(m fr:Nat)(ov vn vk:Value):Act->Prop
 |mk (u0 u1 u2 u5 u6 u8 mF mG mb lr kE u16 ku kF kG kH mf mg u23 u24 mh u26 kI u28 kJ kK lu u32 u33 lx ly lz lA mD ny nz pq u44 pw nA nB nC nD nE nG nH si sj:Value):P0 m fr ov vn vk {tmps:=#[u0,u1,u2,.pointer (some ⟨m,0,none⟩),.pointer (some ⟨m+1,0,none⟩),u5,u6,.pointer (some ⟨m+3,0,none⟩),u8,.pointer (some ⟨fr,0,none⟩),ov,mF,mG,mb,lr,kE,u16,ku,kF,kG,kH,mf,mg,u23,u24,mh,u26,kI,u28,kJ,kK,lu,u32,u33,lx,ly,lz,lA,vn,vk,mD,ny,nz,pq,u44,pw,nA,nB,nC,nD,nE,nG,nH,si,sj],defers:=[]}
noncomputable def LV:Code:=(f10.body).getD .skip
noncomputable def LX:Code:=LV.r.r.r.r.r
section
variable{main:Bool}{Stop:ι->Frame->List Frame->World->Prop}{w:World}
structure aaG(b c lo n:Nat)(w0:World)(pre:List Int)(ov:Value)(w:World):Prop where
 keep:xZ (bA 20004 b c lo n) w0 w
 own:w.ownsRow w0.heap.size 3 1 ov pre.length (pre.map (Value.int .i64))
 nf:∀g,ov.ownBlock=some g->¬bL b c w g
def TM(b c lo n m:Nat)(w0:World)(rv:Value)(vs:List Int)(s':JS)(v:Value)(w':World):Prop:=∃ov,v=.tuple #[rv,ov,.int .i64 0]/\w'.ownsRow w0.heap.size 3 1 ov n (vs.map (Value.int .i64))/\JRep b c lo n s' w'/\w0.heap.size<=w'.heap.size/\∀(y:Nat) o,y≠m+1->w0.heap[y]? =some o->¬bL b c w0 y->w'.heap[y]? =some o
structure aaH(Jm:dA ι)(Stop:ι->Frame->List Frame->World->Prop)(main:Bool)(cs:List Frame)(i:ι)(b c lo n m fr:Nat)(vs:List Int)(s':JS)(w0:World)(q:Nat)(i':ι)(a':Act)(w':World):Prop where
 ex:∃pre ov,q=n-pre.length/\pre.length<=n/\P0 m fr ov (.int .i64 n) (.int .i64 pre.length) a'/\(Tt 20004 b c lo n main cs Jm Stop i vs s').At i' ((gz 20004 n (List.range' pre.length (n-pre.length))).bind λx=>.ret (pre++x)) w'/\aaG b c lo n w0 pre ov w'
theorem LY{n:Nat}{pre:List Int}:((gz F n []).bind λx=>Pr.ret (pre++x))=(Pr.ret pre:oF (List Int)):=by simp[gz,Pr.bind]
theorem Io{n:Nat}{l:List Nat}{pre:List Int}:((gz F n (c::l)).bind λx=>Pr.ret (pre++x))=(pT F n c).bind λr=>(gz F n l).bind λx=>(Pr.ret ((pre++[r.1]) ++x):oF (List Int)):=by simp only[gz,Pr.bind_assoc,Pr.bind,uH,jc,kR]
theorem play_rest(hU:∀c fs,U fs->U (c::fs)){n:Nat}(hn:1<=n/\n<=64)(R:JRep b c lo n s w)(qd:(gz 20004 n (List.range n)).alone s=some (vs,s')){na:Nat}{st:Int}{cut:Bool}{er em:TypeId}{q0 q1 q2 q3:Value}(hb:b=m+3)(sI:w.heap[fr]? =some (.cells #[.slice aa na ca,.slice ao no co,.int .i64 st,.bool cut] er (0,0)))(hm:w.heap[m+1]? =some (.cells #[q0,q1,q2,q3] em (0,0)))(mE:¬bL b c w fr/\¬bL b c w (m+1))(hne:fr≠m+1)
  {ov0 vn0 vk0:Value}(hA:P0 m fr ov0 vn0 vk0 a){Q:ι->Value->World->Prop}(hQ:∀v w',TM b c lo n m w (.agg #[.slice aa na ca,.slice ao no co,.int .i64 st,.bool cut]) vs s' v w'->Q i v w'):
  wpM prog main cs Jm Stop U 10 LX (bodyPostM prog f10 Q) i a w:=by
 have hcs:=kY;simp only[LX,LV,f10,Code.l,Code.r,bJ];subst hb;have hdr:=JRep.hdr R;have h0:(Tt 20004 (m+3) c lo n main cs Jm Stop i vs s').At i ((gz 20004 n (List.range' ([]:List Int).length (n- ([]:List Int).length))).bind λx=>.ret ([] ++x)) w:=by have:=at_of (F:=20004) (main:=main) (cs:=cs) (Jm:=Jm) (Stop:=Stop) (i:=i) R qd;rw[List.range_eq_range']at this;simpa using this
 have X0:aaG (m+3) c lo n w [] (.slice none 0 0) w:=⟨⟨aY _,λb o h1 h2=>⟨h1,h2⟩,(bA 20004 (m+3) c lo n).grefl w⟩,oK _ _ _ _,λg hg=>by cases hg⟩;have H0:=ai h0;have H0':=ai h0;have HX0:=ai X0;have HR:=ai R;have Hal:=ai qd;have HQ:=ai hQ;have Hfr:=ai sI;have Hm:=ai hm;have Hnf:=ai mE;clear h0 X0 R qd hQ sI hm mE;cases hA;refine eG λτ=>?_;refine xe λτ=>?_;clear hdr;refine bt (fZ (aaH Jm Stop main cs i (m+3) c lo n m fr vs s' w) (n:=n) ⟨[],_,rfl,bj _,P0.mk ..,H0.out,HX0.out⟩ ?_);rintro q' i2 a2 w2 ⟨pre,ov,rfl,hle,hA,h2,X2⟩;by_cases hlt:pre.length<n
 ·have hwr:IntKind.i64.wrap ((pre.length:Int) +1)=((pre.length+1:Nat):Int):=by rw[dR];omega
  rw[show n-pre.length=(n- (pre.length+1)) +1 by omega,List.range'_succ,Io]at h2;have H2:=ai h2;have kX:=ai X2;clear h2 X2 HX0 H0;generalize hk:pre.length=k at*;have Hk:=ai hk;clear hk;cases hA;refine eG λτ=>?_;refine wpM_seq (aH (t:=true) (by simp[Act.eval,hlt]) (dm ?_));try simp only[Exit.then]
  refine wpM_seq (bt ?_);refine eG λτ=>?_;refine nQ ?_;refine eU ?_;refine eU ?_;refine aM (args:=#[.pointer (some ⟨m+3,0,none⟩),.pointer none,.int .i64 k]) rfl rfl rfl func22 rfl rfl cC (λb k fs h1 h2=>hU _ _ h2) (λc0 fs0 _=>read_any' (Tt 20004 (m+3) c lo n main cs Jm Stop i vs s') hn.2 H2.out c0 fs0 trivial) ?_;rintro i3 r3 w3 ⟨x,e,rfl,h3,K3⟩;have H3:=ai h3;have HK3:=ai K3;clear h3 K3 H2;walk_nrm;iterate 5
   refine eU ?_
  refine on ?_;obtain⟨ii,MJ,MK,ML,MM⟩:=info_parts M6;have LZ:=kX.out.keep.trans HK3.out;have hown2:=kX.out.own;have hrow:∀g,ov.ownBlock=some g->w3.heap[g]? =w2.heap[g]?/\¬bL (m+3) c w3 g:=λg hg=>by obtain⟨cur,Ci⟩:=cP hown2 hg;obtain⟨a1,a2⟩:=HK3.out.same g _ Ci (kX.out.nf g hg);exact⟨a1.trans Ci.symm,a2⟩
  have hown:=row_keep hown2 λg hg=>(hrow g hg).1;rw[Hk.out]at hown;have EB:=ai hown;have yD:=ai hrow;have ac2:=ai LZ;have hsz:w.heap.size<=w3.heap.size:=LZ.size;clear hown hrow LZ hown2;refine l3 hcs (λτ=>?_);go_wp2_with (at_builtin;go_loud (refine wpList_append_lies _ rfl (.tmp 48) (.tmp 50) 22 rfl w.heap.size 3 ii _ 1 8 underlying22 MJ MK ML MM rfl az ov k (pre.map (Value.int .i64)) rfl ((EB.out.alloc _)) ⟨w3.heap.size,0,none⟩ 1 1 [.int .i64 x] rfl rfl (pR (cs:=#[.int .i64 x]) (t:=3) (fr:=(0,0)) (heap_alloc_new (w3.tp τ) _)) qP az iw ae (show w.heap.size<=(w3.alloc _).heap.size by rw[bI];omega) (w3.heap.size+1) (show(w3.alloc _).heap.size=w3.heap.size+1 by rw[bI]) ?_;intro gg cap' w5 hown1 hgrow hat uZ;have HF:=ai (And.intro hown1 (And.intro hgrow (And.intro hat uZ)));clear hown1 hgrow hat uZ))
  refine⟨w5,⟨rfl,rfl,rfl⟩,?_⟩;obtain⟨kZ,hgrow,hat,Wn⟩:=HF.out;have hown:=EB.out;have hs5:w3.heap.size+1<=w5.heap.size:=by have h1:=hgrow.size;have h2:(w3.alloc (.cells #[.int .i64 x] 3)).heap.size<=w5.heap.size:=h1;rw[bI]at h2;exact h2
  have Ag:∀y,y<w3.heap.size->ov.ownBlock≠some y->w5.heap[y]? =w3.heap[y]? :=λy hy hne=>by rw[hgrow.block y (by show y< (w3.alloc _).heap.size;rw[bI];omega) (λe=>hne e.symm)];exact eh w3 _ _ hy
  obtain⟨h6,K6,Tl⟩:=(Tt 20004 (m+3) c lo n main cs Jm Stop i vs s').fresh _ _ _ _ _ _ w5 H0'.out H3.out ac2.out ae (λy hy hne=>by
   by_cases e1:ov.ownBlock=some y
   ·exact⟨(hown.lt y e1).1,(yD.out y e1).2⟩
   ·exact absurd (Ag y hy e1) hne)
  have Ho:∀g',w3.heap.size<=g'->¬bL (m+3) c w5 g':=λg' hg hf=>by have:=(Tt 20004 (m+3) c lo n main cs Jm Stop i vs s').foot _ _ _ _ H3.out ((Tl g').1 hf);omega
  have hlen:(pre++[x]).length=k+1:=by simp[Hk.out]
  have X5:aaG (m+3) c lo n w (pre++[x]) (.slice (some ⟨gg,0,none⟩) (k+1) cap') w5:=by
   refine⟨K6,?_,λg' p9=>?_⟩
   ·rw[hlen,List.map_append];exact kZ
   ·obtain rfl:gg=g':=(by simpa[Value.ownBlock]using p9);rcases hat with e|e
    ·exact λhf=>(yD.out _ e).2 ((Tl _).1 hf)
    ·exact Ho _ ae
  have HX5:=ai X5;have H6:=ai h6;clear X5 h6 hown kZ hgrow hat H3 EB HF Tl Ho Ag K6 kX yD;try simp only[Exit.inBlock,Exit.then]
  refine l3 hcs (λτ=>?_);go_wp2;refine⟨_,aN _ _,?_⟩;refine⟨n- (pre++[x]).length,by rw[hlen];omega,⟨pre++[x],_,rfl,by rw[hlen];omega,?_,?_,HX5.out⟩⟩
  ·rw[hlen];exact P0.mk ..
  ·rw[hlen];exact H6.out
 ·have BX:pre.length=n:=ae;have hd:¬((n:Int) < (n:Int)):=ae;rw[BX]at hA;rw[BX,Nat.sub_self,List.range'_zero,LY]at h2;obtain⟨e2,hvs,R2⟩:=at_end h2;have hvs:pre=vs:=hvs;subst hvs;obtain⟨TN,_⟩:=X2.keep.same fr _ Hfr.out Hnf.out.1;obtain⟨xI,hmF⟩:=X2.keep.same (m+1) _ Hm.out Hnf.out.2;have f0:=cO TN 0;have f1:=cO TN 1;have f2:=cO TN 2;have f3:=cO TN 3;have g0:=cO xI 0;have g1:=cO xI 1;have g2:=cO xI 2;have g3:=cO xI 3;have z0:=zO xI 0;have z1:=zO xI 1;have z2:=zO xI 2;have z3:=zO xI 3;have kX:=ai X2;have HR2:=ai R2;have HmF:=ai hmF;clear X2 h2 R2 TN xI hmF HX0 H0 hlt hle H0';cases hA;refine wpM_seq (l3 hcs (λτ=>?_));go_wp2;refine qK ?_;refine wpM_seq (aH (t:=false) cC (fY ?_));simp only[Exit.then,Exit.inBlock,if_true];refine wpM_seq (l3 hcs (λτ=>?_));go_wp2;refine qK ?_;refine bn ?_;refine⟨rfl,.tuple #[.agg #[.slice aa na ca,.slice ao no co,.int .i64 st,.bool cut],ov,.int .i64 0],?_,?_⟩
  ·simp[results,go_sem, *]
  ·have bT:∀y,y≠m+1->((((w2.setCell ⟨m+1,0,none⟩ (.slice aa na ca)).setCell ⟨m+1,1,none⟩ (.slice ao no co)).setCell ⟨m+1,2,none⟩ (.int .i64 st)).setCell ⟨m+1,3,none⟩ (.bool cut)).heap[y]? =w2.heap[y]? :=λy hy=>(by rw[ah hy,ah hy,ah hy,ah hy]);have ac1:((((w2.setCell ⟨m+1,0,none⟩ (.slice aa na ca)).setCell ⟨m+1,1,none⟩ (.slice ao no co)).setCell ⟨m+1,2,none⟩ (.int .i64 st)).setCell ⟨m+1,3,none⟩ (.bool cut)).heap.size=w2.heap.size:=gF;generalize (((w2.setCell ⟨m+1,0,none⟩ (.slice aa na ca)).setCell ⟨m+1,1,none⟩ (.slice ao no co)).setCell ⟨m+1,2,none⟩ (.int .i64 st)).setCell ⟨m+1,3,none⟩ (.bool cut)=wF at*;have hml:=(aQ.1 Hm.out).1;have X2:=kX.out;have hown:=X2.own;rw[BX]at hown;refine HQ.out _ _ ⟨ov,rfl,row_keep hown λg hg=>bT g λe=>?_,((okN 0 (m+3) c lo n).rep _ w2 wF HR2.out λy hy=>bT y λe=>HmF.out (by rw[←e];exact hy)).1,by rw[ac1];exact X2.keep.size,λy o hy h1 h2=>by rw[bT y hy];exact(X2.keep.same y o h1 h2).1⟩;have:=(hown.lt g hg).1;omega
end
theorem Nn{n:Nat}{w:World}{x:Nat}(R:JRep b c lo n s w)(h:bL b c w x):x=b\/x=c\/lo<=x:=by
 rcases h with h|h|⟨d,t,hd,hc,rfl⟩
 ·exact .inl h
 ·exact .inr (.inl h)
 ·have:=R.all d hd;split at this
  ·obtain⟨u,hu,hne⟩:=this;rw[hu]at hc;cases hc;exact absurd rfl (hne t)
  ·obtain⟨t',ht,hlo,_⟩:=this;rw[ht]at hc;cases hc;exact .inr (.inr hlo)
theorem vJ{cc:bq}(h:eB (cc.work.map List.length) cc.until_=true):cc.n<=8/\cc.most<=20000/\∀i,(cc.calls i).length<=64:=by
 unfold eB at h;simp only[pW,bK,decide_eq_true_eq,fT,og]at h;obtain⟨⟨h1,h2,h3,h4⟩,h5⟩:=h;refine⟨h2,?_,λi=>?_⟩
 ·unfold bq.most;split<;>omega
 ·unfold bq.calls;rw[cQ];cases e:cc.work[i]? with
  |none=>simp
  |some l=>exact h5 _ ⟨l,mX e,rfl⟩
theorem Dq{w:World}(h:w.ownsRow B e sz v m xs):∃a c,v=.slice a m c:=by
 rcases h.2 with⟨rfl,rfl⟩|⟨g,cap,cur,rfl,_⟩
 ·exact⟨none,0,rfl⟩
 ·exact⟨_,_,rfl⟩
structure ES(J:eM JS)(n:Nat)(a0:World)(v:Value)(a':World):Prop where
 ex:∃t,(J.ar t).goes J.c=false/\J.n<=t/\t<=J.n+J.c.most/\a0.heap.size<=a'.heap.size/\(∀(b:Nat) o,a0.heap[b]? =some o->o≠cI->a'.heap[b]? =some o)/\
  ∃vs s',(gz 20004 n (List.range n)).alone (J.ar t).s=some (vs,s')/\
  ∃va ao no co ov rS B,v=.tuple #[.agg #[va,.slice ao no co,.int .i64 ((t-J.n:Nat):Int),.bool ((J.ar t).any J.c)],ov,.int .i64 0]/\a'.ownsRow B 45 1 va J.n rS/\a'.ownsRow a0.heap.size 3 1 ov n (vs.map (Value.int .i64))/\
   ∀i,i<J.n->∃sl,rS[i]? =some sl/\∀w',a'.heap.size<=w'.heap.size->(∀y,y<a'.heap.size->(∀o,a0.heap[y]? =some o->o=cI)->w'.heap[y]? =a'.heap[y]?)->AnsAt w' sl ((J.ar t).w i).got
section
variable{Stop:Ph->Frame->List Frame->World->Prop}{tu:Option Addr}{a0:World}
theorem TP(hU:∀c fs,U fs->U (c::fs))(ER:NE cs0){s o cap:Nat}{cc:bq}(hzs:ij s o zs a0)(hs:s<a0.heap.size)(hn:1<=zs.length/\zs.length<=64)(hl:nI zs=true)(hok:eB (cc.work.map List.length) cc.until_=true)(hk2:∀k d,d∈cc.calls k->d.kind≠2)
  (hC:∀(J:eM JS) (a':World),J.c=cc->a0.heap.size<=a'.heap.size->(∀y,y<a0.heap.size->a'.heap[y]? =a0.heap[y]?)->J.L.Rep J.s0 a'->J.L.Ok ro0->fR J ro0 wb wo wc tc hc tu ha csC eC a')(hro:∀y,ro0 y≠none->y<a0.heap.size)
  (hrd:∀t,((dr a0.heap.size zs cc).ar t).goes cc=false->∃vs s',(gz 20004 zs.length (List.range zs.length)).alone ((dr a0.heap.size zs cc).ar t).s=some (vs,s')):
  CallsM prog true cs0 (JP prog S cs0 λd=>(dr a0.heap.size zs cc).bE d.W) Stop U .pre 10 #[.slice (some ⟨s,o,none⟩) zs.length cap,.agg (aC (some ⟨wb,wo,none⟩) tu ha cc.n wc cc.turns.length tc cc.halt.length hc cc.until_)] a0
   (λi v a'=>i=.post/\ES (dr a0.heap.size zs cc) zs.length a0 v a'):=by
 have hcs:=kY;obtain⟨k8,ac3,ac4⟩:=vJ hok;have ac5:=(mr zs).1 hl;have Hzs:=ai hzs;have HC:=ai hC;have Hrd:=ai hrd;have Hro:=ai hro;have Hk2:=ai hk2;have ZK:=ai ac4;have Hzl:=ai ac5;have ZV:=ai hok;clear hzs hC hrd hro hk2 ac4 ac5 hok;refine aX func10 rfl ?_;simp only[f10,bJ,aC];walk_nrm;refine eG λτ=>?_;generalize fE:World.alloc _ _=w1;have hs1:w1.heap.size=a0.heap.size+2:=by subst fE;simp
 have ho1:∀y,y<a0.heap.size->w1.heap[y]? =a0.heap[y]? :=λy hy=>by subst fE;simp only[←cG,cF,fV];rw[if_neg ae,if_neg ae]
 have hc1:w1.heap[a0.heap.size]? =some (.cells #[.slice (some ⟨wb,wo,none⟩) cc.n wc,.slice tu cc.turns.length tc,.slice ha cc.halt.length hc,.int .i64 cc.until_] 25 (0,0)):=by subst fE;simp only[←cG,cF,fV];rw[if_neg ae,if_pos trivial]
 have hr1:w1.heap[a0.heap.size+1]? =some (.cells #[.slice none 0 0,.slice none 0 0,.int .i64 0,.bool false] 31 (0,0)):=by subst fE;simp only[←cG,cF,fV];rw[if_pos trivial]
 clear fE;have hnew:∀τ,Calls prog 18 #[.slice (some ⟨s,o,none⟩) zs.length cap] (w1.tp τ) (Lp zs (w1.tp τ)):=λτ=>new_yes s o cap zs (w1.tp τ) (λi hi=>(bP (w:=a0) (ho1 s hs)).trans (Hzs.out i hi)) hn.1 hn.2 hl (show s<w1.heap.size by omega);have xk:=ai hnew;have WJ:=ai ho1;have Hc1:=ai hc1;have Hr1:=ai hr1;have Qz:=ai hs1;clear hnew ho1 hc1 hr1 hs1;refine wpM_seq (wpM_lone pV hcs ax AG (nK ax _) (λτ=>?_));go_wp2_with fail
 refine(xk.out τ).mono ?_;rintro e w2 ⟨rfl,hblk,dx,mC⟩;have hs1:=Qz.out;have hblk:xg (w1.heap.size+1) w1.heap.size (yC zs) w2:=hblk;have mC:w2.heap.size=w1.heap.size+2:=mC;have hb2:∀y,y<w1.heap.size->w2.heap[y]? =w1.heap[y]? :=λy hy=>dx.block y hy;obtain⟨bb,CY⟩:∃bb,bb=(w1.tp τ).heap.size+1:=⟨_,rfl⟩;rw[←CY];obtain rfl:bb=a0.heap.size+3:=by rw[CY];show w1.heap.size+1=_;omega
 rw[hs1]at hblk mC;have R2:JRep (a0.heap.size+3) (a0.heap.size+2) (a0.heap.size+6) zs.length (AJ zs) w2:=Nf hn Hzl.out hblk ae;have yM:∀y,y<a0.heap.size->w2.heap[y]? =a0.heap[y]? :=λy hy=>by rw[hb2 y ae];exact WJ.out y hy
 have hc2:=hb2 a0.heap.size ae;rw[Hc1.out]at hc2;have hr2:=hb2 (a0.heap.size+1) ae;rw[Hr1.out]at hr2;have HR2:=ai R2;have TQ:=ai yM;have Hc2:=ai hc2;have Hr2:=ai hr2;have Fa:=ai mC;clear hblk dx hb2 R2 yM hc2 hr2 hs1 CY xk mC;go_wp2_with fail
 refine⟨w2,⟨rfl,rfl,rfl⟩,?_⟩;try simp only[Exit.then]
 have hc2:=Hc2.out;have k0:=cO hc2 0;have k1:=cO hc2 1;have k2:=cO hc2 2;have k3:=cO hc2 3;clear hc2;refine xe λτ=>?_;refine Bl ?_;try simp only[Exit.then]
 have hJ:∃J,J=dr a0.heap.size zs cc:=⟨_,rfl⟩;obtain⟨J,hJ⟩:=hJ;have hJc:J.c=cc:=by rw[hJ];rfl
 have hs2:=Fa.out;have hCI:fR J ro0 wb wo wc tc hc tu ha csC eC w2:=HC.out J w2 hJc ae TQ.out (by rw[hJ];exact HR2.out) (by
  rw[hJ];exact xd (F:=20004) (n:=zs.length) (by
   cases e:ro0 (a0.heap.size+3)with
   |none=>rfl
   |some f=>have:=Hro.out (a0.heap.size+3) lY;omega) (by
   cases e:ro0 (a0.heap.size+2)with
   |none=>rfl
   |some f=>have:=Hro.out (a0.heap.size+2) lY;omega) (λx hx=>by
   cases e:ro0 x with
   |none=>rfl
   |some f=>have:=Hro.out x lY;omega))
 have ac6:Gig J (roW ro0 (w2.heap.size+1)) 181 (.pointer (some ⟨a0.heap.size+3,0,none⟩)) (.iface 56 (.pointer (some ⟨a0.heap.size+3,0,none⟩))):=by
  have TK:∀x,a0.heap.size<=x->x≠w2.heap.size+1->roW ro0 (w2.heap.size+1) x=none:=λx hx hne=>by
   unfold roW;rw[if_neg hne];cases e:ro0 x with
   |none=>rfl
   |some f=>have:=Hro.out x lY;omega
  rw[hJ];exact PG (xd (TK _ ae ae) (TK _ ae ae) (λx hx=>TK x ae ae)) ⟨w2.heap.size+1,by unfold roW;rw[if_pos rfl];simp,ae⟩ ac3 k8 hn ae Hk2.out ZK.out (WI _)
 have hrun:=WH (S:=S) (Stop:=Stop) (U:=U) hU ER hCI ac6;have sf:J.n=cc.n:=by rw[hJ];rfl
 rw[sf,hJc,show(λd:aK=>J.bE d.W)=(λd:aK=>(dr a0.heap.size zs cc).bE d.W)by rw[hJ]]at hrun;have TS:=ai hrun;clear hrun ac6 hCI;refine nQ ?_;iterate 3
  refine eU ?_
 refine aM (args:=#[.agg #[.slice (some ⟨wb,wo,none⟩) cc.n wc,.slice tu cc.turns.length tc,.slice ha cc.halt.length hc,.int .i64 cc.until_],.iface 56 (.pointer (some ⟨a0.heap.size+3,0,none⟩))]) rfl rfl rfl func33 rfl rfl cC (λb k fs h1 h2=>hU _ _ h2) TS.out ?_;rintro i3 v3 w3 ⟨rfl,rv,rfl,RE⟩;obtain⟨t,yu,ht1,U2,yy,iD,sS,va,vo,rS,B,rfl,MU,UM,ac7,jA⟩:=RE.ex;obtain⟨aa,ca,rfl⟩:=Dq MU;obtain⟨ao,co,rfl⟩:=Dq UM;have Hov:=ai yu;have Ht1:=ai ht1;have Ht2:=ai U2;have aeM:=ai yy;have AX:=ai iD;have ac8:=ai sS;have Hva:=ai MU;have aeN:=ai ac7;have aaI:=ai jA;clear yu ht1 U2 yy iD sS MU ac7 jA UM RE TS;generalize hst:((t-J.n:Nat):Int)=st at*;generalize hcut:(J.ar t).any J.c=cut at*;generalize hno:(dc (J.ar t).w J.n).length=no at*;walk_nrm;iterate 6
  refine eU ?_
 refine on ?_;have Hst:=ai hst;have aeO:=ai hcut;clear hst hcut hno;refine xe λτ=>?_;refine Bl ?_;try simp only[Exit.then]
 subst hJ;generalize Oo:World.alloc _ _=w5;have aeP:w5.heap[w3.heap.size]? =some (.cells #[.slice aa (dr a0.heap.size zs cc).n ca,.slice ao no co,.int .i64 st,.bool cut] 31 (0,0)):=by rw[←Oo];exact heap_alloc_new w3 _
 have Ag:∀y,y<w3.heap.size->w5.heap[y]? =w3.heap[y]? :=λy hy=>by rw[←Oo];exact eh w3 _ _ hy
 have hs5:w5.heap.size=w3.heap.size+1:=by rw[←Oo];exact bI _ _
 clear Oo;have sS:JRep (a0.heap.size+3) (a0.heap.size+2) (a0.heap.size+6) zs.length ((dr a0.heap.size zs cc).ar t).s w3:=ac8.out;obtain⟨R5,K5⟩:=vD 20004 sS ae Ag;have ZY:∀b,bL (a0.heap.size+3) (a0.heap.size+2) w5 b↔bL (a0.heap.size+3) (a0.heap.size+2) w3 b:=λb=>((okN 0 (a0.heap.size+3) (a0.heap.size+2) (a0.heap.size+6) zs.length).rep _ w3 w5 sS λy hy=>Ag y (yV sS hy)).2 b;have WK:∀b,b≠a0.heap.size+3->b≠a0.heap.size+2->¬bL (a0.heap.size+3) (a0.heap.size+2) w2 b:=λb h1 h2 h=>by
  rcases Ie HR2.out b h with h|h
  ·exact h1 h
  ·exact h2 h
 have hm3:w3.heap[a0.heap.size+1]? =some (.cells #[.slice none 0 0,.slice none 0 0,.int .i64 0,.bool false] 31 (0,0)):=AX.out _ _ Hr2.out aJ (WK _ ae ae);have aeQ:=(aQ.1 hm3).1;obtain⟨vs,s',qd⟩:=Hrd.out t Hov.out;have Sl:=λa hA=>play_rest (main:=true) (cs:=cs0) (Jm:=JP prog S cs0 λd=>(dr a0.heap.size zs cc).bE d.W) (Stop:=Stop) (i:=Ph.post) (a:=a) (m:=a0.heap.size) (fr:=w3.heap.size) (U:=U) hU hn R5 qd rfl aeP (by rw[Ag _ aeQ];exact hm3) ⟨λh=>by have:=yV sS ((ZY _).1 h);omega,λh=>by rcases Nn R5 h with h|h|h<;>omega⟩ ae (ov0:=undef) (vn0:=undef) (vk0:=undef) hA (Q:=λi v a'=>i=.post/\ES (dr a0.heap.size zs cc) zs.length a0 v a') (λv w' hPR=>?_)
 ·simp only[LX,LV,f10,Code.l,Code.r,bJ]at Sl;exact Sl _ (P0.mk ..)
 obtain⟨ov,rfl,hown,hR',hsz',hsame⟩:=hPR;have yy:=aeM.out;refine⟨rfl,⟨t,Hov.out,Ht1.out,Ht2.out,ae,λbk ob h1 h2=>?_,vs,s',qd,_,_,_,_,ov,rS,B,by rw[Hst.out,aeO.out],?_,?_,λi hi=>?_⟩⟩
 ·have hbl:=(aQ.1 h1).1;have e2:=TQ.out bk hbl;rw[h1]at e2;have e3:=AX.out bk ob e2 h2 (WK bk ae ae);have e5:w5.heap[bk]? =some ob:=by rw[Ag bk (aQ.1 e3).1];exact e3
  exact hsame bk ob ae e5 (λh=>by rcases Nn R5 h with h|h|h<;>omega)
 ·refine row_keep Hva.out λg hg=>?_;obtain⟨cur,Ci⟩:=cP Hva.out hg;have e5:w5.heap[g]? =w3.heap[g]? :=Ag g (aQ.1 Ci).1;rw[Ci]at e5;rw[Ci];exact hsame g _ (λe=>by rw[e,hm3]at Ci;cases Ci) e5 (λh=>aeN.out g hg ((ZY g).1 h))
 ·exact⟨hown.1,hown.2.imp id λ⟨g',cap',cur,h1,h2,h4⟩=>⟨g',cap',cur,h1,ae,h4⟩⟩
 ·obtain⟨sl,g1,g2,g3⟩:=aaI.out i hi;refine⟨sl,g1,λwl hwl Nz=>?_⟩;by_cases h0:(((dr a0.heap.size zs cc).ar t).w i).got=[]
  ·obtain⟨a,c,e,_⟩:=g2;refine⟨a,c,e,λi x h=>?_⟩;rw[h0]at h;cases h
  ·refine eX (λx hx=>?_) g2;obtain⟨b1,b2,b3⟩:=g3 h0 x.block hx;have UL:w3.heap[x.block]? =some w3.heap[x.block]:=dI b1;have e5:w5.heap[x.block]? =some w3.heap[x.block]:=(by rw[Ag _ b1];exact UL);have:=hsame x.block _ (λe=>WK (a0.heap.size+1) ae ae (by have:=b3 _ (by rw[e];exact Hr2.out) aJ;rw[e]at this;exact this)) e5 (λh=>b2 ((ZY _).1 h));refine(bP (w:=w') ?_).trans (bP (w:=w3) (this.trans UL.symm));refine Nz x.block (aQ.1 this).1 λo ho=>cY λhne=>?_;have hl0:=(aQ.1 ho).1;have:=b3 o (by rw[TQ.out _ hl0];exact ho) hne;exact WK x.block ae ae this
end
def ET(i:ι)(a0:World)(i':ι)(v:Value)(a':World):Prop:=i'=i/\(∃e,v=.tuple #[.agg #[.slice none 0 0,.slice none 0 0,.int .i64 0,.bool false],.slice none 0 0,.int .i64 e]/\e≠0)/\a0.heap.size<=a'.heap.size/\∀y,y<a0.heap.size->a'.heap[y]? =a0.heap[y]?
section
variable{main:Bool}{Stop:ι->Frame->List Frame->World->Prop}{a0:World}
theorem AY{a:Option Addr}{n cap:Nat}{v0 v1 v2:Value}{e:Int}{w0 w1 w2:Nat×Nat}{x0 x1 x2:Option Addr}(h0:v0=.slice x0 w0.1 w0.2)(h1:v1=.slice x1 w1.1 w1.2)(h2:v2=.slice x2 w2.1 w2.2)(he:e≠0)
  (hnew:∀W:World,(∀y,y<a0.heap.size->W.heap[y]? =a0.heap[y]?)->Calls prog 18 #[.slice a n cap] W λr W'=>r=.returned (.tuple #[.pointer none,.int .i64 e])/\W=W'):
  CallsM prog main cs0 Jm Stop U i 10 #[.slice a n cap,.agg #[v0,v1,v2,.int .i64 un]] a0 (ET i a0):=by
 have hcs:=kY;have xk:=ai hnew;clear hnew;subst h0 h1 h2;refine aX func10 rfl ?_;simp only[f10,bJ];walk_nrm;refine eG λτ=>?_;generalize fE:World.alloc _ _=w1;have hs1:w1.heap.size=a0.heap.size+2:=by subst fE;simp
 have ho1:∀y,y<a0.heap.size->w1.heap[y]? =a0.heap[y]? :=λy hy=>by subst fE;simp only[←cG,cF,fV];rw[if_neg ae,if_neg ae]
 have hr1:w1.heap[a0.heap.size+1]? =some (.cells #[.slice none 0 0,.slice none 0 0,.int .i64 0,.bool false] 31 (0,0)):=by subst fE;simp only[←cG,cF,fV];rw[if_pos trivial]
 clear fE;have Hn:=ai (λτ=>xk.out (w1.tp τ) ho1);have WJ:=ai ho1;have Qz:=ai hs1;have k0:=cO hr1 0;have k1:=cO hr1 1;have k2:=cO hr1 2;have k3:=cO hr1 3;have z0:=ay hr1 0 (bj _);have z1:=ay hr1 1 (bj _);have z2:=ay hr1 2 (bj _);have z3:=ay hr1 3 (bj _);clear ho1 hs1 hr1 xk;refine wpM_seq (wpM_lone pV hcs ax AG (nK ax _) (λτ=>?_));go_wp2_with fail
 refine(Hn.out τ).mono ?_;rintro r W' ⟨rfl,rfl⟩;go_wp2_with fail
 refine⟨w1,⟨rfl,rfl,rfl⟩,?_⟩;try simp only[Exit.then]
 have hne:(e !=0)=true:=by simpa using he
 refine xe λτ=>?_;refine aH (t:=true) (by simp[Act.eval,hne]) ?_;refine eG λτ=>?_;refine bn ?_;refine⟨rfl,.tuple #[.agg #[.slice none 0 0,.slice none 0 0,.int .i64 0,.bool false],.slice none 0 0,.int .i64 e],?_,rfl,⟨e,rfl,he⟩,?_,λy hy=>?_⟩
 ·simp[results,go_sem, *]
 ·have:=Qz.out;simp only[World.setCell,uw];omega
 ·have hne:y≠a0.heap.size+1:=ae;rw[ah hne,ah hne,ah hne,ah hne];exact WJ.out y hy
theorem P5(hU:∀c fs,U fs->U (c::fs))(ER:NE cs0){s o cap:Nat}(hzs:ij s o zs a0)(hs:s<a0.heap.size)(hn:1<=zs.length/\zs.length<=64)(hl:nI zs=true){wk tu:Option Addr}{tn hh:Nat}{lens:List Nat}(hlen:lens.length<100000)(hbad:eB lens un=false)
  (hck:∀W:World,(∀y,y<a0.heap.size->W.heap[y]? =a0.heap[y]?)->Calls prog 70 #[.agg (aC wk tu ha lens.length wc tn tc hh hc un)] W λe w''=>e=.returned (.int .i64 30)/\Below W.heap.size W w''):
  CallsM prog true cs0 Jm Stop U i 10 #[.slice (some ⟨s,o,none⟩) zs.length cap,.agg (aC wk tu ha lens.length wc tn tc hh hc un)] a0 (ET i a0):=by
 have hcs:=kY;have Hzs:=ai hzs;have Hck:=ai hck;clear hzs hck;refine aX func10 rfl ?_;simp only[f10,bJ,aC]at Hck⊢;walk_nrm;refine eG λτ=>?_;generalize fE:World.alloc _ _=w1;have hs1:w1.heap.size=a0.heap.size+2:=by subst fE;simp
 have ho1:∀y,y<a0.heap.size->w1.heap[y]? =a0.heap[y]? :=λy hy=>by subst fE;simp only[←cG,cF,fV];rw[if_neg ae,if_neg ae]
 have hc1:w1.heap[a0.heap.size]? =some (.cells #[.slice wk lens.length wc,.slice tu tn tc,.slice ha hh hc,.int .i64 un] 25 (0,0)):=by subst fE;simp only[←cG,cF,fV];rw[if_neg ae,if_pos trivial]
 have hr1:w1.heap[a0.heap.size+1]? =some (.cells #[.slice none 0 0,.slice none 0 0,.int .i64 0,.bool false] 31 (0,0)):=by subst fE;simp only[←cG,cF,fV];rw[if_pos trivial]
 clear fE;have hnew:∀τ,Calls prog 18 #[.slice (some ⟨s,o,none⟩) zs.length cap] (w1.tp τ) (Lp zs (w1.tp τ)):=λτ=>new_yes s o cap zs (w1.tp τ) (λi hi=>(bP (w:=a0) (ho1 s hs)).trans (Hzs.out i hi)) hn.1 hn.2 hl (show s<w1.heap.size by omega);have xk:=ai hnew;have WJ:=ai ho1;have Hc1:=ai hc1;have Hr1:=ai hr1;have Qz:=ai hs1;clear hnew ho1 hc1 hr1 hs1;refine wpM_seq (wpM_lone pV hcs ax AG (nK ax _) (λτ=>?_));go_wp2_with fail
 refine(xk.out τ).mono ?_;rintro e w2 ⟨rfl,hblk,dx,mC⟩;have hs1:=Qz.out;have mC:w2.heap.size=w1.heap.size+2:=mC;have hb2:∀y,y<w1.heap.size->w2.heap[y]? =w1.heap[y]? :=λy hy=>dx.block y hy;obtain⟨bb,CY⟩:∃bb,bb=(w1.tp τ).heap.size+1:=⟨_,rfl⟩;rw[←CY];clear CY;have yM:∀y,y<a0.heap.size->w2.heap[y]? =a0.heap[y]? :=λy hy=>by rw[hb2 y ae];exact WJ.out y hy
 have hc2:=hb2 a0.heap.size ae;rw[Hc1.out]at hc2;have hr2:=hb2 (a0.heap.size+1) ae;rw[Hr1.out]at hr2;have TQ:=ai yM;have Hc2:=ai hc2;have Hr2:=ai hr2;have Fa:Go.RowKit.Hid (a0.heap.size+2<=w2.heap.size):=ai ae;clear hblk dx hb2 yM hc2 hr2 hs1 xk mC;go_wp2_with fail
 refine⟨w2,⟨rfl,rfl,rfl⟩,?_⟩;try simp only[Exit.then]
 have hc2:=Hc2.out;have k0:=cO hc2 0;have k1:=cO hc2 1;have k2:=cO hc2 2;have k3:=cO hc2 3;clear hc2;refine xe λτ=>?_;refine Bl ?_;try simp only[Exit.then]
 have hrun:=aaF (U:=U) (a0:=w2) (Jm:=Jm) (Stop:=Stop) (i:=i) ER wk wc tn tc hh hc tu ha lens un 56 (.pointer (some ⟨bb,0,none⟩)) hlen hbad (λW hW=>Hck.out W λy hy=>by rw[hW y (by have:=Fa.out;omega)];exact TQ.out y hy);have TS:=ai hrun;clear hrun;refine nQ ?_;iterate 3
  refine eU ?_
 refine aM (args:=#[.agg #[.slice wk lens.length wc,.slice tu tn tc,.slice ha hh hc,.int .i64 un],.iface 56 (.pointer (some ⟨bb,0,none⟩))]) rfl rfl rfl func33 rfl rfl cC (λb k fs h1 h2=>hU _ _ h2) TS.out ?_;rintro i3 v3 w3 ⟨rfl,rfl,yy,ho3⟩;have Ho3:=ai ho3;have UQ:=ai yy;clear ho3 yy TS;walk_nrm;iterate 6
  refine eU ?_
 refine on ?_;refine xe λτ=>?_;refine aH (t:=true) cC ?_;try simp only[Exit.then]
 generalize Oo:World.alloc _ _=w5;have hs2:=Fa.out;have hs3:=UQ.out;have Ag:∀y,y<w2.heap.size->w5.heap[y]? =w2.heap[y]? :=λy hy=>by rw[←Oo,←Ho3.out y hy];exact eh w3 _ _ ae
 have hs5:w5.heap.size=w3.heap.size+1:=by rw[←Oo];exact bI _ _
 clear Oo;have UR:=Ag (a0.heap.size+1) ae;rw[Hr2.out]at UR;have j0:=cO UR 0;have j1:=cO UR 1;have j2:=cO UR 2;have j3:=cO UR 3;have z0:=ay UR 0 (bj _);have z1:=ay UR 1 (bj _);have z2:=ay UR 2 (bj _);have z3:=ay UR 3 (bj _);have Ho5:=ai Ag;have Hs5:=ai hs5;clear Ag hs5 UR k0 k1 k2 k3 hs2 hs3;refine eG λτ=>?_;refine bn ?_;refine⟨rfl,.tuple #[.agg #[.slice none 0 0,.slice none 0 0,.int .i64 0,.bool false],.slice none 0 0,.int .i64 30],?_,rfl,⟨30,rfl,az⟩,?_,λy hy=>?_⟩
 ·simp[results,go_sem, *]
 ·have:=Hs5.out;have:=UQ.out;have:=Fa.out;simp only[World.setCell,uw];omega
 ·have hne:y≠a0.heap.size+1:=ae;rw[ah hne,ah hne,ah hne,ah hne];rw[Ho5.out y (by have:=Fa.out;omega)];exact TQ.out y hy
end
end
section
open Go Go.Conc Go.ConcN Go.RowKit
theorem TV:(prog.info? 53).map (λi=>(i.zero,i.size,i.bytes))=some (some (.agg #[.int .i64 0,.int .i64 0]),2,16):=ax
theorem TW:(prog.info? 50).map (λi=>(i.zero,i.size,i.bytes))=some (some (.agg #[.int .i64 0,.int .i64 0,.int .i64 0,.int .i64 0,.slice none 0 0]),5,56):=ax
theorem WM:(prog.info? 51).map (λi=>(i.zero,i.size,i.bytes))=some (some (.slice none 0 0),1,24):=ax
section
theorem wp_copy{w:World}{K:Act->World->Prop}{Q:Exit->Act->World->Prop}(x:Operand)(t:TypeId)
  (ho:o.op=.call {callee:=.builtin .append,args:=#[.const (.slice none 0 0),x],argTypes:=#[t,t]})
  (base:Nat)(e:TypeId)(i:TypeInfo)(z:Value)(size bytes:Nat)(ht:P.underlying t=some (.slice e))(hi:P.info? e=some i)(hz:i.zero=some z)
  (hsize:i.size=size)(hby:i.bytes=bytes)(hzs:z.cells.size=size)(hsz:0<size)
  (ad:Option Addr)(m c:Nat)(news:List Value)(hx:a.eval x=.slice ad m c)(hl:news.length=m*size)(hnews:∀j u,news[j]? =some u->∃y,ad=some y/\w.cell? (y.add j)=some u)(h1:∀u∈news,u.oneCell'=true)
  (h63:m<=maxLen)(hbytes:m*bytes<=140737488355328)(hbase:base<=w.heap.size)
  (h:∀v w',w'.ownsRow base e size v m news->w.grownBy w' none->K (a.put o.dst v) w'):o.wp P a w K Q:=by
 rcases jH m with rfl|hm
 ·obtain rfl:news=[]:=Ip (by simpa using hl);have hrun:=kL (P:=P) (w:=w) t o.type e i ht hi ad c;have hc:a.eval (.const (.slice none 0 0))=.slice none 0 0:=rfl;unfold Oper.wp;simp[execOp,ho,resolve,invoke,builtin,hx,hc,hrun,Result.andThen];exact h _ _ (oK _ _ _ _) ⟨rfl,rfl,rfl,aY _,λ_ _ _=>rfl⟩
 ·have jS:0<news.length:=by rw[hl];exact Nat.mul_pos hm hsz
  obtain⟨x',lL,_⟩:=hnews 0 news[0] (eA jS);subst lL;refine wp_append_lies w (.const (.slice none 0 0)) x t ho base e i z size bytes ht hi hz hsize hby hzs hsz (.slice none 0 0) 0 [] rfl (oK _ _ _ _) x' m c news hx hl (λj u hj=>?_) h1 hm ae (by rw[cM];exact hbytes) hbase _ rfl ?_
  ·obtain⟨y,hy,hc⟩:=hnews j u hj;obtain rfl:=aP hy;exact hc
  ·intro g cap w' h2 h3 _ _;simp only[cM,kR]at h2⊢;exact h _ _ h2 h3
theorem oO{ops:Array Oper}{w:World}{K:Act->World->Prop}{Q:Exit->Act->World->Prop}{E:Prop}(hgd:o.guard=none)(x:Operand)(t:TypeId)
  (ho:o.op=.call {callee:=.builtin .append,args:=#[.const (.slice none 0 0),x],argTypes:=#[t,t]})
  (base:Nat)(e:TypeId)(i:TypeInfo)(z:Value)(size bytes:Nat)(ht:P.underlying t=some (.slice e))(hi:P.info? e=some i)(hz:i.zero=some z)
  (hsize:i.size=size)(hby:i.bytes=bytes)(hzs:z.cells.size=size)(hsz:0<size)
  (ad:Option Addr)(m c:Nat)(news:List Value)(hx:a.eval x=.slice ad m c)(hl:news.length=m*size)(hnews:∀j u,news[j]? =some u->∃y,ad=some y/\w.cell? (y.add j)=some u)(h1:∀u∈news,u.oneCell'=true)
  (h63:m<=maxLen)(hbytes:m*bytes<=140737488355328)(hbase:base<=w.heap.size)
  (h:∀v w',w'.ownsRow base e size v m news->w.grownBy w' none->K (a.put o.dst v) w'):if Region.wanted o (yielded ops a.tmps)=true then Oper.wp P o a w K Q else E:=by
 rw[if_pos (by simp[Region.wanted,hgd])];exact wp_copy x t ho base e i z size bytes ht hi hz hsize hby hzs hsz ad m c news hx hl hnews h1 h63 hbytes hbase h
theorem Iq{ops:Array Oper}{rest:List Oper}{w:World}{Q:Exit->Act->World->Prop}(hgd:o.guard=none)(x:Operand)(t:TypeId)
  (ho:o.op=.call {callee:=.builtin .append,args:=#[.const (.slice none 0 0),x],argTypes:=#[t,t]})
  (base:Nat)(e:TypeId)(i:TypeInfo)(z:Value)(size bytes:Nat)(ht:P.underlying t=some (.slice e))(hi:P.info? e=some i)(hz:i.zero=some z)
  (hsize:i.size=size)(hby:i.bytes=bytes)(hzs:z.cells.size=size)(hsz:0<size)
  (ad:Option Addr)(m c:Nat)(news:List Value)(hx:a.eval x=.slice ad m c)(hl:news.length=m*size)(hnews:∀j u,news[j]? =some u->∃y,ad=some y/\w.cell? (y.add j)=some u)(h1:∀u∈news,u.oneCell'=true)
  (h63:m<=maxLen)(hbytes:m*bytes<=140737488355328)(hbase:base<=w.heap.size)
  (h:∀v w',w'.ownsRow base e size v m news->w.grownBy w' none->wpList P ops Q rest (a.put o.dst v) w'):wpList P ops Q (o::rest) a w:=
 wpList_plain hgd λ_ hK=>wp_copy x t ho base e i z size bytes ht hi hz hsize hby hzs hsz ad m c news hx hl hnews h1 h63 hbytes hbase λv w' h2 h3=>hK _ _ (h v w' h2 h3)
end
def eI(l:List Int):List Value:=l.map (Value.int .i64)
theorem oP(l:List Int):∀u∈eI l,u.oneCell'=true:=λu hu=>by obtain⟨z,_,rfl⟩:=og.1 hu;rfl
def eE(w:World)(a:Option Addr)(l:List Int):Prop:=∀i,i<l.length->∃b o,a=some ⟨b,o,none⟩/\b<w.heap.size/\w.cell? ⟨b,o+i,none⟩=some (.int .i64 (l.getD i 0))
theorem eE.same{w:World}{a:Option Addr}{l:List Int}(h:eE w a l)(hs:w.heap.size<=w'.heap.size)(hb:∀b,b<w.heap.size->w'.heap[b]? =w.heap[b]?):eE w' a l:=λi hi=>by obtain⟨b,o,e,h1,h2⟩:=h i hi;exact⟨b,o,e,ae,(bP (w:=w) (hb b h1)).trans h2⟩
theorem eE.news{w:World}{a:Option Addr}{l:List Int}(h:eE w a l):∀j u,(eI l)[j]? =some u->∃y,a=some y/\w.cell? (y.add j)=some u:=λj u hj=>by
 unfold eI at hj;rw[ml]at hj;cases hl:l[j]? with
 |none=>rw[hl]at hj;cases hj
 |some z=>
  rw[hl]at hj;obtain rfl:Value.int .i64 z=u:=by simpa using hj
  obtain⟨b,o,e,_,h2⟩:=h j (eL.1 hl).1;refine⟨_,e,?_⟩;rw[cQ,hl]at h2;have JO:(⟨b,o,none⟩:Addr).add j=⟨b,o+j,none⟩:=by cases j<;>simp[Addr.add]
  rw[JO];simpa using h2
def eO(l:List (Int×Int)):List Value:=l.flatMap λp=>[.int .i64 p.1,.int .i64 p.2]
theorem sZ(l:List (Int×Int)):(eO l).length=l.length*2:=by
 induction l with
 |nil=>rfl
 |cons p l ih=>rw[eO,List.flatMap_cons,mM];show 2+(eO l).length=_;rw[ih,ew];omega
theorem Cl(l:List (Int×Int)):∀u∈eO l,u.oneCell'=true:=λu hu=>by
 obtain⟨p,_,hp⟩:=List.mem_flatMap.1 hu;rcases dM.1 hp with rfl|hp
 ·rfl
 ·obtain rfl:=List.mem_singleton.1 hp;rfl
theorem s7:∀(l:List (Int×Int)) (i:Nat),i<l.length->(eO l)[2*i]? =some (.int .i64 (l.getD i (0,0)).1)/\(eO l)[2*i+1]? =some (.int .i64 (l.getD i (0,0)).2):=by
 intro l;induction l with
 |nil=>intro i hi;cases hi
 |cons p l ih=>
  intro i hi;cases i with
  |zero=>exact⟨rfl,rfl⟩
  |succ i=>have:=ih i (by simpa using hi);simpa[eO,List.flatMap_cons,Nat.mul_add]using this
theorem ju.news{w:World}{a:Option Addr}{cap:Nat}{l:List (Int×Int)}(h:ju w (.slice a l.length cap) l):∀j u,(eO l)[j]? =some u->∃y,a=some y/\w.cell? (y.add j)=some u:=λj u hj=>by
 obtain⟨a',cap',e,h⟩:=h;cases e;have hlt:=(eL.1 hj).1;rw[sZ]at hlt;obtain⟨b,o,e,_,h1,h2⟩:=h (j / 2) ae;obtain⟨g1,g2⟩:=s7 l (j / 2) ae;refine⟨_,e,?_⟩;have JO:(⟨b,o,none⟩:Addr).add j=⟨b,o+j,none⟩:=by cases j<;>simp[Addr.add]
 rw[JO];rcases Nat.mod_two_eq_zero_or_one j with e|e
 ·rw[show 2*(j / 2)=j by omega]at g1 h1;rw[h1,←g1,hj]
 ·rw[show 2*(j / 2) +1=j by omega]at g2;rw[show o+2*(j / 2) +1=o+j by omega]at h2;rw[h2,←g2,hj]
def dZ(c:bG)(pv:Value):List Value:=[.int .i64 c.kind,.int .i64 c.a,.int .i64 c.b,.int .i64 c.c,pv]
def gY(l:List bG)(pE:List Value):List Value:=(l.zip pE).flatMap λx=>dZ x.1 x.2
theorem Cm{l:List bG}(h:l.length=pE.length)(c:bG)(pv:Value):gY (l++[c]) (pE++[pv])=gY l pE++dZ c pv:=by unfold gY;rw[List.zip_append h,List.flatMap_append];rfl
def AZ(w:World)(B:Nat)(v:Value)(l:List (Int×Int)):Prop:=w.ownsRow B 53 2 v l.length (eO l)
def j6(w:World)(B:Nat)(v:Value)(l:List bG):Prop:=∃pE:List Value,pE.length=l.length/\w.ownsRow B 50 5 v l.length (gY l pE)/\∀(i:Nat) (c:bG) (pv:Value),l[i]? =some c->pE[i]? =some pv->AZ w B pv c.pairs
def AllNew(w:World)(B:Nat)(v:Value)(work:List (List bG)):Prop:=∃vQ:List Value,vQ.length=work.length/\w.ownsRow B 51 1 v work.length vQ/\∀(k:Nat) (l:List bG) (rv:Value),work[k]? =some l->vQ[k]? =some rv->j6 w B rv l
theorem row_base{w:World}(h:w.ownsRow B e sz v m xs)(hB:B'<=B):w.ownsRow B' e sz v m xs:=⟨h.1,h.2.imp id λ⟨g,cap,cur,h1,h2,h3⟩=>⟨g,cap,cur,h1,cn hB h2,h3⟩⟩
theorem dp{w:World}(h:w.ownsRow B e sz v m xs):∃a c,v=.slice a m c:=by
 rcases h.2 with⟨rfl,rfl⟩|⟨g,cap,cur,rfl,_⟩
 ·exact⟨none,0,rfl⟩
 ·exact⟨_,_,rfl⟩
theorem j6.base{w:World}{l:List bG}(h:j6 w B v l)(hB:B'<=B):j6 w B' v l:=by obtain⟨pE,h1,h2,h3⟩:=h;exact⟨pE,h1,row_base h2 hB,λi c pv a b=>row_base (h3 i c pv a b) hB⟩
def ng(w w':World)(e:TypeId):Prop:=∀(g:Nat) (cur:Array Value),w.heap[g]? =some (Obj.cells cur e (0,0))->w'.heap[g]? =w.heap[g]?
theorem row_stand{w:World}(h:w.ownsRow B e sz v m xs)(hs:ng w w' e):w'.ownsRow B e sz v m xs:=row_keep h λg hg=>by obtain⟨cur,hc⟩:=cP h hg;exact hs g cur hc
theorem j6.stand{w:World}{l:List bG}(h:j6 w B v l)(h1:ng w w' 50)(h2:ng w w' 53):j6 w' B v l:=by obtain⟨pE,a,b,c⟩:=h;exact⟨pE,a,row_stand b h1,λi d pv x y=>row_stand (c i d pv x y) h2⟩
theorem AllNew.stand{w:World}{work:List (List bG)}(h:AllNew w B v work)(h0:ng w w' 51)(h1:ng w w' 50)(h2:ng w w' 53):AllNew w' B v work:=by obtain⟨vQ,a,b,c⟩:=h;exact⟨vQ,a,row_stand b h0,λk l rv x y=>(c k l rv x y).stand h1 h2⟩
inductive TX(cb rb:Nat):Act->Prop
 |mk (u0 u3 u4 u5 u6 u7 u8 u9 sr mF mG mb lr kE u16 ku kF kG kH mf mg u23 u24 mh u26 kI u28 kJ kK lu u32 u33 lx ly lz lA mi mj mD ny nz pq u44 pw nA nB nC nD nE nG nH si sj tS tT:Value):TX cb rb {tmps:=#[u0,.pointer (some ⟨cb,0,none⟩),.pointer (some ⟨rb,0,none⟩),u3,u4,u5,u6,u7,u8,u9,sr,mF,mG,mb,lr,kE,u16,ku,kF,kG,kH,mf,mg,u23,u24,mh,u26,kI,u28,kJ,kK,lu,u32,u33,lx,ly,lz,lA,mi,mj,mD,ny,nz,pq,u44,pw,nA,nB,nC,nD,nE,nG,nH,si,sj,tS,tT],defers:=[]}
inductive TY(cb rb ob:Nat):Act->Prop
 |mk (u0 u4 u5 u6 u7 u8 u9 sr mF mG mb lr kE u16 ku kF kG kH mf mg u23 u24 mh u26 kI u28 kJ kK lu u32 u33 lx ly lz lA mi mj mD ny nz pq u44 pw nA nB nC nD nE nG nH si sj tS tT:Value):TY cb rb ob {tmps:=#[u0,.pointer (some ⟨cb,0,none⟩),.pointer (some ⟨rb,0,none⟩),.pointer (some ⟨ob,0,none⟩),u4,u5,u6,u7,u8,u9,sr,mF,mG,mb,lr,kE,u16,ku,kF,kG,kH,mf,mg,u23,u24,mh,u26,kI,u28,kJ,kK,lu,u32,u33,lx,ly,lz,lA,mi,mj,mD,ny,nz,pq,u44,pw,nA,nB,nC,nD,nE,nG,nH,si,sj,tS,tT],defers:=[]}
noncomputable def cpCode:Code:=(f9.body).getD .skip
structure CpFirst(tu ha:Option Addr)(wk:Value)(un:Int)(cc:bq)(tc hc B ob:Nat)(w w':World):Prop where
 bel:Below w.heap.size w w'
 ge:w.heap.size<=ob
 ho:∃tv hv,w'.heap[ob]? =some (.cells #[.slice none 0 0,tv,hv,.int .i64 un] 25 (0,0))/\w'.ownsRow B 3 1 tv cc.turns.length (eI cc.turns)/\w'.ownsRow B 3 1 hv cc.halt.length (eI cc.halt)
def s8:Obj:=.cells #[.slice none 0 0,.slice none 0 0,.slice none 0 0,.int .i64 0] 25 (0,0)
theorem ni{w:World}(h:w.heap[b]? =some s8):(w.cell? ⟨b,0,none⟩=some (.slice none 0 0)/\w.cell? ⟨b,1,none⟩=some (.slice none 0 0)/\w.cell? ⟨b,2,none⟩=some (.slice none 0 0)/\w.cell? ⟨b,3,none⟩=some (.int .i64 0))/\(w.frozen? ⟨b,0,none⟩=false/\w.frozen? ⟨b,1,none⟩=false/\w.frozen? ⟨b,2,none⟩=false/\w.frozen? ⟨b,3,none⟩=false):=by unfold s8 at h;exact⟨⟨by rw[af h];rfl,by rw[af h];rfl,by rw[af h];rfl,by rw[af h];rfl⟩,ay h _ (bj _),ay h _ (bj _),ay h _ (bj _),ay h _ (bj _)⟩
section
variable{tu:Option Addr}{wk tv hv:Value}{cc:bq}{X:Nat}{w:World}
theorem im(h:w1.ownsRow B' e sz v m xs)(g:w1.grownBy w2 none):w2.ownsRow B' e sz v m xs:=h.kept g (by cases v.ownBlock<;>simp)
theorem pF(hb:Below w.heap.size w w2)(rT:w2.ownsRow B 3 1 tv cc.turns.length (eI cc.turns))(rH:w2.ownsRow B 3 1 hv cc.halt.length (eI cc.halt)):
  CpFirst tu ha wk un cc tc hc B w2.heap.size w (w2.alloc (.cells #[.slice none 0 0,tv,hv,.int .i64 un] 25)):=
 ⟨hb.alloc hb.size _,hb.size,tv,hv,heap_alloc_new _ _,rT.alloc _,rH.alloc _⟩
theorem j7(hb:Below w.heap.size w w2)(hX:w.heap.size<=X)(h0:w2.heap[X]? =some s8)(rT:w2.ownsRow B 3 1 tv cc.turns.length (eI cc.turns))(rH:w2.ownsRow B 3 1 hv cc.halt.length (eI cc.halt)):
  CpFirst tu ha wk un cc tc hc B X w ((((w2.setCell ⟨X,0,none⟩ (.slice none 0 0)).setCell ⟨X,1,none⟩ tv).setCell ⟨X,2,none⟩ hv).setCell ⟨X,3,none⟩ (.int .i64 un)):=by
 have bT:∀y,y≠X->((((w2.setCell ⟨X,0,none⟩ (.slice none 0 0)).setCell ⟨X,1,none⟩ tv).setCell ⟨X,2,none⟩ hv).setCell ⟨X,3,none⟩ (.int .i64 un)).heap[y]? =w2.heap[y]? :=λy hy=>by rw[ah hy,ah hy,ah hy,ah hy]
 have hrow:∀{v:Value} {m:Nat} {xs:List Value},w2.ownsRow B 3 1 v m xs->∀g,v.ownBlock=some g->g≠X:=λh g hg e=>by obtain⟨cur,hc⟩:=cP h hg;rw[e,h0]at hc;cases hc
 refine⟨(((hb.setCell hX _).setCell hX _).setCell hX _).setCell hX _,hX,tv,hv,?_,row_keep rT λg hg=>bT g (hrow rT g hg),row_keep rH λg hg=>bT g (hrow rH g hg)⟩;exact aq (aq (aq (aq h0 _) _) _) _
end
theorem cp_first{cb rb:Nat}{w:World}{tu:Option Addr}{wk:Value}{cc:bq}(hA:TX cb rb a)(hcb:w.heap[cb]? =some (.cells #[wk,.slice tu cc.turns.length tc,.slice ha cc.halt.length hc,.int .i64 un] 25 (0,0)))
  (hT:eE w tu cc.turns)(hH:eE w ha cc.halt)(hB:B<=w.heap.size)(hn:cc.turns.length<=20000/\cc.halt.length<=1000):
  (cpCode.r.l).wp prog (qO λa' w'=>∃ob,TY cb rb ob a'/\CpFirst tu ha wk un cc tc hc B ob w w') a w:=by
 have hcl:=(aQ.1 hcb).1;have c1:=cO hcb 1;have c2:=cO hcb 2;have c3:=cO hcb 3;have ac9:∀w',Below w.heap.size w w'->Below w.heap.size w w'/\w'.cell? ⟨cb,1,none⟩=some (.slice tu cc.turns.length tc)/\w'.cell? ⟨cb,2,none⟩=some (.slice ha cc.halt.length hc)/\w'.cell? ⟨cb,3,none⟩=some (.int .i64 un):=λw' h=>⟨h,(h.cell hcl).trans c1,(h.cell hcl).trans c2,(h.cell hcl).trans c3⟩;have HT:=ai hT;have HH:=ai hH;have HC:=ai hcb;clear hT hH hcb c1 c2 c3;cases hA;obtain⟨ii,MJ,MK,ML,MM⟩:=info_parts M6;simp only[cpCode,f9,Code.l,Code.r,bJ];refine aL.start (λw'=>Below w.heap.size w w'/\w'.cell? ⟨cb,1,none⟩=some (.slice tu cc.turns.length tc)/\w'.cell? ⟨cb,2,none⟩=some (.slice ha cc.halt.length hc)/\w'.cell? ⟨cb,3,none⟩=some (.int .i64 un)) [10] ax ?_ (λhHeld=>?_)
 ·exact SK
 refine aL.tv 0 hHeld ?_;refine aL.tt 1 hHeld ?_;refine aL.tv 3 hHeld ?_;refine aL.tt 4 hHeld ?_;refine aL.tv 6 hHeld ?_;refine aL.tt 7 hHeld ?_;refine aL.two (i:=2) (j:=9) rfl rfl ax (λK hK=>?_) (λK hK=>?_)
 ·(refine oO bF (.tmp 9) 22 bF B 3 ii _ 1 8 underlying22 MJ MK ML MM rfl az tu cc.turns.length tc (eI cc.turns) bF (by simp[eI]) (HT.out.same hHeld.1.size hHeld.1.block).news (oP _) iw ae (cn hB hHeld.1.size) ?_;intro tv w1 pX nO;have hB1:w.heap.size<=w1.heap.size:=(by have e:=nO.size;have e2:=hHeld.1.size;simp only[bI,pS]at e e2;omega);obtain⟨ta,tcp,rfl⟩:=dp pX)
  refine hK.out _ _ (λ_=>?_) (λhHeld=>?_)
  ·exact SK
  replace hHeld:=hHeld az;clear hK K;try refine pt ?_
  refine aL.two (i:=5) (j:=9) rfl rfl ax (λK hK=>?_) (λK hK=>?_)
  ·(refine oO bF (.tmp 12) 22 bF B 3 ii _ 1 8 underlying22 MJ MK ML MM rfl az ha cc.halt.length hc (eI cc.halt) bF (by simp[eI]) (HH.out.same hHeld.1.size hHeld.1.block).news (oP _) iw ae (cn hB hHeld.1.size) ?_;intro hv w2 nj fo;have TZ:=hHeld.1.grown fo hHeld.1.size (λk hk=>G5);obtain⟨Yi,hcp,rfl⟩:=dp nj)
   refine hK.out _ _ (λ_=>?_) (λhHeld=>?_)
   ·exact SK
   replace hHeld:=hHeld az;clear hK K;try refine pt ?_
   refine aL.tv 8 hHeld ?_;refine aL.to 9 (λK hK=>?_);go_simp;refine hK.out _ _ (λ_=>?_) (λhHeld=>?_)
   ·exact SK
   replace hHeld:=hHeld az;clear hK K;try refine pt ?_
   refine aL.to 10 (λK hK=>?_)
   ((first|(have hz0:w2.heap[w.heap.size]? =some s8:=(by rw[fo.block _ (by have e:=nO.size;simp only[bI,pS]at e;omega) au,nO.block _ au au];exact heap_alloc_new _ _))|(have hz0:w2.heap[w1.heap.size]? =some s8:=(by rw[fo.block _ au au];exact heap_alloc_new _ _))|have hz0:True:=kY);(first|have hzz:=ni hz0|have hzz:True:=kY);(first|have Yj:=ai hz0);clear hz0;go_simp)
   refine hK.out _ _ (λhF=>absurd hF az) (λ_=>?_);clear hK K;try refine pt ?_
   refine aL.done ax ?_ _
   (refine⟨_,TY.mk ..,?_⟩;first|exact pF TZ (im pX fo) nj|exact j7 TZ hB1 Yj.out (im (pX.alloc _) fo) nj|exact j7 TZ (aY _) Yj.out (im pX fo) nj)
  ·go_simp;refine hK.out _ _ (λ_=>?_) (λhHeld=>?_)
   ·exact SK
   replace hHeld:=hHeld az;clear hK K;try refine pt ?_
   refine aL.to 5 (λK hK=>?_)
   (refine oO bF (.tmp 12) 22 bF B 3 ii _ 1 8 underlying22 MJ MK ML MM rfl az ha cc.halt.length hc (eI cc.halt) bF (by simp[eI]) (HH.out.same hHeld.1.size hHeld.1.block).news (oP _) iw ae (cn hB hHeld.1.size) ?_;intro hv w2 nj fo;have TZ:=hHeld.1.grown fo hHeld.1.size (λk hk=>G5);obtain⟨Yi,hcp,rfl⟩:=dp nj)
   refine hK.out _ _ (λ_=>?_) (λhHeld=>?_)
   ·exact SK
   replace hHeld:=hHeld az;clear hK K;try refine pt ?_
   refine aL.tv 8 hHeld ?_;refine aL.to 10 (λK hK=>?_)
   ((first|(have hz0:w2.heap[w.heap.size]? =some s8:=(by rw[fo.block _ (by have e:=nO.size;simp only[bI,pS]at e;omega) au,nO.block _ au au];exact heap_alloc_new _ _))|(have hz0:w2.heap[w1.heap.size]? =some s8:=(by rw[fo.block _ au au];exact heap_alloc_new _ _))|have hz0:True:=kY);(first|have hzz:=ni hz0|have hzz:True:=kY);(first|have Yj:=ai hz0);clear hz0;go_simp)
   refine hK.out _ _ (λhF=>absurd hF az) (λ_=>?_);clear hK K;try refine pt ?_
   refine aL.done ax ?_ _
   (refine⟨_,TY.mk ..,?_⟩;first|exact pF TZ (im pX fo) nj|exact j7 TZ hB1 Yj.out (im (pX.alloc _) fo) nj|exact j7 TZ (aY _) Yj.out (im pX fo) nj)
 ·go_simp;refine hK.out _ _ (λ_=>?_) (λhHeld=>?_)
  ·exact SK
  replace hHeld:=hHeld az;clear hK K;try refine pt ?_
  refine aL.to 2 (λK hK=>?_)
  (refine oO bF (.tmp 9) 22 bF B 3 ii _ 1 8 underlying22 MJ MK ML MM rfl az tu cc.turns.length tc (eI cc.turns) bF (by simp[eI]) (HT.out.same hHeld.1.size hHeld.1.block).news (oP _) iw ae (cn hB hHeld.1.size) ?_;intro tv w1 pX nO;have hB1:w.heap.size<=w1.heap.size:=(by have e:=nO.size;have e2:=hHeld.1.size;simp only[bI,pS]at e e2;omega);obtain⟨ta,tcp,rfl⟩:=dp pX)
  refine hK.out _ _ (λ_=>?_) (λhHeld=>?_)
  ·exact SK
  replace hHeld:=hHeld az;clear hK K;try refine pt ?_
  refine aL.to 5 (λK hK=>?_)
  (refine oO bF (.tmp 12) 22 bF B 3 ii _ 1 8 underlying22 MJ MK ML MM rfl az ha cc.halt.length hc (eI cc.halt) bF (by simp[eI]) (HH.out.same hHeld.1.size hHeld.1.block).news (oP _) iw ae (cn hB hHeld.1.size) ?_;intro hv w2 nj fo;have TZ:=hHeld.1.grown fo hHeld.1.size (λk hk=>G5);obtain⟨Yi,hcp,rfl⟩:=dp nj)
  refine hK.out _ _ (λ_=>?_) (λhHeld=>?_)
  ·exact SK
  replace hHeld:=hHeld az;clear hK K;try refine pt ?_
  refine aL.tv 8 hHeld ?_;refine aL.to 10 (λK hK=>?_)
  ((first|(have hz0:w2.heap[w.heap.size]? =some s8:=(by rw[fo.block _ (by have e:=nO.size;simp only[bI,pS]at e;omega) au,nO.block _ au au];exact heap_alloc_new _ _))|(have hz0:w2.heap[w1.heap.size]? =some s8:=(by rw[fo.block _ au au];exact heap_alloc_new _ _))|have hz0:True:=kY);(first|have hzz:=ni hz0|have hzz:True:=kY);(first|have Yj:=ai hz0);clear hz0;go_simp)
  refine hK.out _ _ (λhF=>absurd hF az) (λ_=>?_);clear hK K;try refine pt ?_
  refine aL.done ax ?_ _
  (refine⟨_,TY.mk ..,?_⟩;first|exact pF TZ (im pX fo) nj|exact j7 TZ hB1 Yj.out (im (pX.alloc _) fo) nj|exact j7 TZ (aY _) Yj.out (im pX fo) nj)
end
end Go.Proofs.YtfmibhmknlnoiaaGreat
