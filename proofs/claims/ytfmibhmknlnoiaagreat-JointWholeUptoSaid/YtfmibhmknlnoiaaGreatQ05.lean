import Derived.Test.YtfmibhmknlnoiaaGreatQ00
import Derived.Test.YtfmibhmknlnoiaaGreatQ04
import Derived.Test.YtfmibhmknlnoiaaGreatQ03
import Derived.Test.YtfmibhmknlnoiaaGreatQ02
import Derived.Deep.AppendLies
set_option linter.all false
set_option maxRecDepth 100000
set_option maxHeartbeats 4000000
namespace Go.Proofs.YtfmibhmknlnoiaaGreat
open _root_.Go.Proofs.Tryz
open _root_.Option renaming some→ae,none→ah
open _root_.Bool renaming true→au,false→aw
open _root_.Go.Value renaming int→aq,pointer→aI,slice→aD,ownBlock→iE
open _root_.Go.Obj renaming cells→aK
open _root_.Go.Item renaming inRegion→bI
open _root_.Go renaming World→aj,Value→ay,Frame→aB,Program→bh,Oper→aZ,Addr→aP,TypeId→bq,undef→aO,yielded→dW,execOp→bT,Calls→b9,results→eL,stepG→bn,heap_alloc_new→gN,info_parts→kq
open _root_.Go.Conc renaming stepG_region_end→bP,stepG_seq→bU,stepG_region→gv,rcase→dh
open _root_.Go.Proofs.Tryz renaming prog→aC
open _root_.Go.Exit renaming «then»→bE,inBlock→gu
open _root_.Go.Region renaming wanted→dF
open _root_.Go.World renaming setCell→fF,cell?→fG
open _root_.Go.Act renaming eval→cS
open _root_.List renaming replicate→eA,range→dx
open _root_.Go.IntKind renaming i64→af
variable{ι σ α:Type}{a:Act}{C:Act->aj->Prop}{y:aP}{ats:Array bq}{csC tm:Array ay}{ok sw:Bool}{bG:Bool×Int->Pr JS α}{d0:bp}{rf:aB}{A E N W W' er h mm t un:Int}{S:Int->Prop}{D:mK}{s s':JS}{R:JS->JS->Prop}{J:gS σ}{Jm:fM ι}{prs:List (Int×Int)}{eN:List (List bs)}{l':List bs}{cs cs0 fs:List aB}{U:List aB->Prop}{hs zs:List Int}{ps oB xs:List ay}{B F L Wg a0 a1 ab ak b bc bd br c come d db AD fr hc i j k lo m ob sz tc wb wc wo x:Nat}{f:Nat×Nat}{p q:Nat->Bool}{j6:Nat->qM Bool}{nb:Nat->Nat}{ro0:Nat->Option (Nat×Nat)}{M:Nat->Prop}{o1 o2 oA:Obj}{ha:Option aP}{P:bh}{β:Type}{e eC:bq}{cv dv fv iv lV pv zY v v3:ay}{a' w' w0 w1 w2:aj}{Q':α->σ->Prop}{Q:ι->Exit->Act->aj->Prop}
section
open Go Go.Conc Go.ConcN Go.RowKit
attribute [local go_sem] ba bf bH a8 bC bK aS aV fy dI fA bO
section
variable{n:Nat}{main:Bool}{Stop:ι->aB->List aB->aj->Prop}
structure uy(S:lT α (cI F b c lo n) main cs Jm Stop)(w0:aj)(f t x r m:Nat)(fr to:Nat)(mm:Int)(w:aj):Prop where
 at0:∃i0 p0,S.At i0 p0 w0
 lo:lo<=w0.heap.size
 keep:S.Keep w0 w
 ge:w0.heap.size<=f/\w0.heap.size<=t/\w0.heap.size<=x/\w0.heap.size<=r/\w0.heap.size<=m
 hf:∃e,w.heap[f]? =ae (aK #[aq af fr] e (0,0))
 ht:∃e,w.heap[t]? =ae (aK #[aq af to] e (0,0))
 hx:∃e,w.heap[x]? =ae (aK #[aI (ae ⟨b,0,ah⟩)] e (0,0))
 hr:∃e,w.heap[r]? =ae (aK #[.pointer S.wv] e (0,0))
 hm:∃e,w.heap[m]? =ae (aK #[aq af mm] e (0,0))
 nf:¬cU b c w f/\¬cU b c w t/\¬cU b c w x/\¬cU b c w r/\¬cU b c w m
variable{S:lT α (cI F b c lo n) main cs Jm Stop}{w:aj}{f t r to:Nat}
theorem uy.step(X:uy S w0 f t x r m fr to mm w)(K:S.Keep w w'):uy S w0 f t x r m fr to mm w':=by obtain⟨i0,p0,h0⟩:=X.at0;have key:∀y o,w.heap[y]? =ae o->o≠eh->¬cU b c w y->w0.heap.size<=y->w'.heap[y]? =ae o/\¬cU b c w' y:=λy o h1 h2 h3 h4=>S.same _ _ _ _ K h1 h2 h3 (S.new _ _ _ _ h0 h4);obtain⟨g1,g2,g3,g4,g5⟩:=X.ge;obtain⟨n1,n2,n3,n4,n5⟩:=X.nf;obtain⟨e1,h1⟩:=X.hf;obtain⟨e2,h2⟩:=X.ht;obtain⟨e3,h3⟩:=X.hx;obtain⟨e4,h4⟩:=X.hr;obtain⟨e5,h5⟩:=X.hm;obtain⟨a1,b1⟩:=key _ _ h1 bu n1 g1;obtain⟨a2,b2⟩:=key _ _ h2 bu n2 g2;obtain⟨a3,b3⟩:=key _ _ h3 bu n3 g3;obtain⟨a4,b4⟩:=key _ _ h4 bu n4 g4;obtain⟨a5,b5⟩:=key _ _ h5 bu n5 g5;exact⟨⟨i0,p0,h0⟩,X.lo,S.trans _ _ _ X.keep K,⟨g1,g2,g3,g4,g5⟩,⟨e1,a1⟩,⟨e2,a2⟩,⟨e3,a3⟩,⟨e4,a4⟩,⟨e5,a5⟩,b1,b2,b3,b4,b5⟩
theorem uy.cells(X:uy S w0 f t x r m fr to mm w):w.cell? ⟨f,0,ah⟩=ae (aq af fr)/\w.cell? ⟨t,0,ah⟩=ae (aq af to)/\w.cell? ⟨x,0,ah⟩=ae (aI (ae ⟨b,0,ah⟩))/\w.cell? ⟨r,0,ah⟩=ae (.pointer S.wv)/\w.cell? ⟨m,0,ah⟩=ae (aq af mm):=by
 obtain⟨e1,h1⟩:=X.hf;obtain⟨e2,h2⟩:=X.ht;obtain⟨e3,h3⟩:=X.hx;obtain⟨e4,h4⟩:=X.hr;obtain⟨e5,h5⟩:=X.hm;refine⟨?_,?_,?_,?_,?_⟩
 .rw[ax h1];rfl
 .rw[ax h2];rfl
 .rw[ax h3];rfl
 .rw[ax h4];rfl
 .rw[ax h5];rfl
def FA(F k a0 a1:Nat)(sw:Bool)(mm:Int)(bG:Bool×Int->Pr JS α)(hs:List Int):Pr JS α:=
 let h:=hs.getD 0 0;let g:=hs.getD 1 0;let x:=if sw then bV h+mm else bV h-mm
 let y:=if sw then bV g-mm else bV g+mm
 let lo:=if sw then y else x
 let hi:=if sw then x else y
 if lo<0 then bG (aw,265)else if mL hi=aw then bG (aw,263)else(doesP F k [⟨a0,h,x⟩,⟨a1,g,y⟩]).bind bG
theorem NC:(ya F k a0 a1 sw mm).bind bG=(g7 F [a0,a1]).bind λhs'=>FA F k a0 a1 sw mm bG ([] ++hs'):=by simp only[ya,g7,FA,Pr.bind_assoc,Pr.bind,mM,kU,List.getD_cons_zero,List.getD_cons_succ]
structure qE(S:lT α (cI F b c lo n) main cs Jm Stop)(w0:aj)(f t x r m fr to:Nat)(mm:Int)(L a0 a1:Nat)(hs:List Int)(w:aj):Prop where
 box:uy S w0 f t x r m fr to mm w
 hL:w0.heap.size<=L/\f<L/\t<L/\x<L/\r<L/\m<L
 ent:w.heap[L]? =ae (aK (rE a0 a1 hs) 121 (0,0))
 nfL:¬cU b c w L
 bd:∀h∈hs,0<=h/\h<=1152921504606846975
theorem qE.step(X:qE S w0 f t x r m fr to mm L a0 a1 hs w)(K:S.Keep w w'):qE S w0 f t x r m fr to mm L a0 a1 hs w':=by obtain⟨i0,p0,h0⟩:=X.box.at0;obtain⟨h1,h2⟩:=S.same _ _ _ _ K X.ent bu X.nfL (S.new _ _ _ _ h0 X.hL.1);exact⟨X.box.step K,X.hL,h1,h2,X.bd⟩
theorem qE.set{hs':List Int}{i:ι}{p:Pr JS α}(X:qE S w0 f t x r m fr to mm L a0 a1 hs w)(h:S.At i p w)(hL:w'.heap[L]? =ae (aK (rE a0 a1 hs') 121 (0,0)))(ho:∀y,y≠L->w'.heap[y]? =w.heap[y]?)(hsz:w'.heap.size=w.heap.size)(Ga:∀h∈hs',0<=h/\h<=1152921504606846975):
  S.At i p w'/\qE S w0 f t x r m fr to mm L a0 a1 hs' w':=by
 obtain⟨i0,p0,h0⟩:=X.box.at0;obtain⟨h1,K1,hF⟩:=S.fresh _ _ _ _ _ _ w' h0 h X.box.keep ai (λy hy hne=>by
  by_cases e:y=L
  .subst e;exact⟨X.hL.1,X.nfL⟩
  .exact aT (ho y e) hne)
 obtain⟨g0,g1,g2,g3,g4,g5⟩:=X.hL;obtain⟨n1,n2,n3,n4,n5⟩:=X.box.nf;obtain⟨e1,q1⟩:=X.box.hf;obtain⟨e2,q2⟩:=X.box.ht;obtain⟨e3,q3⟩:=X.box.hx;obtain⟨e4,q4⟩:=X.box.hr;obtain⟨e5,q5⟩:=X.box.hm;refine⟨h1,⟨⟨i0,p0,h0⟩,X.box.lo,K1,X.box.ge,⟨e1,by rw[ho _ ai];exact q1⟩,⟨e2,by rw[ho _ ai];exact q2⟩,⟨e3,by rw[ho _ ai];exact q3⟩,⟨e4,by rw[ho _ ai];exact q4⟩,⟨e5,by rw[ho _ ai];exact q5⟩,?_⟩,⟨g0,g1,g2,g3,g4,g5⟩,hL,λhf=>X.nfL ((hF _).1 hf),Ga⟩;exact⟨λhf=>n1 ((hF _).1 hf),λhf=>n2 ((hF _).1 hf),λhf=>n3 ((hF _).1 hf),λhf=>n4 ((hF _).1 hf),λhf=>n5 ((hF _).1 hf)⟩
theorem mv_round0(hn:n<=64){i:ι}(QC:ak=[a0,a1].getD 0 0)(UI:ak<n)(hlen:hs.length=0){bG:Int->Pr JS α}(hA:Eu f t x r m L 0 a)(X:qE S w0 f t x r m fr to mm L a0 a1 hs w)(h:S.At i ((iF F F ak).bind bG) w)
  (hend:∀i' a' w' v,Eu f t x r m L 1 a'->qE S w0 f t x r m fr to mm L a0 a1 (hs++[v]) w'->S.At i' (bG v) w'->Q i' .normal a' w'):wpM aC main cs Jm Stop S.U 44 pZ Q i a w:=by
 have hcs:=S.hcs;obtain⟨cf,ct,cx,cr,cm⟩:=X.box.cells;have cL:w.cell? ⟨L,0*3,ah⟩=ae (aq af ak):=by rw[ax X.ent,QC];rfl
 have H:=aA h;have HX:=aA X;have Hl:=aA hlen;have Hkn:=aA UI;have Hak:=aA QC;clear h X hlen UI QC;cases hA;simp only[pZ,ux,lY,f44,Code.l,Code.r,cN];refine iI λτ=>?_;refine wpM_seq (bz (t:=au) dS (eY ?_));try simp only[bE]
 refine wpM_seq (cE ?_);refine iI λτ=>?_;have hC:=λ{a ops} hA cH=>mv_script (f:=f) (t:=t) (x:=x) (r:=r) (m:=m) (L:=L) (k:=0) (b:=b) (cell:=ak) (wv:=S.wv) (a:=a) (G:=λw1=>w1.cell? ⟨x,0,ah⟩=ae (aI (ae ⟨b,0,ah⟩))/\w1.cell? ⟨r,0,ah⟩=ae (.pointer S.wv)/\w1.cell? ⟨L,0*3,ah⟩=ae (aq af ak)) hA ai (λ_ h=>h) (id:=5) (ops:=ops) cH;refine wpM_seq (Pd lA [10,11,12] rfl (S.Num bG w) aQ (hC (PI.mk ..) (by simp only[aav,aau,pZ,ux,lY,f44,Code.l,Code.r,cN])) (λw1 e=>?_) (λxR v w' hp=>?_) (o:=_) rfl rfl (args:=#[aI (ae ⟨b,0,ah⟩),.pointer S.wv,aq af ak]) rfl func45 rfl rfl (λa' hd _=>?_) (λb a' k fs rest h1 h2 h3=>S.upush _ _ rfl h2 ⟨f44,by show prog.funcs[b.fn]? =_;rw[h1];exact func44⟩ h3) (qC S hn H.out Hkn.out) ?_)
 .have hc:∀y:aP,w1.cell? y=w.cell? y:=λy=>by simp only[fG,e.heap]
  rw[hc,hc,hc];exact⟨cx,cr,cL⟩
 .obtain⟨v,_,_,_,K⟩:=hp;have X':=HX.out.step K;obtain⟨_,_,c1,c2,_⟩:=X'.box.cells;exact⟨c1,c2,by rw[ax X'.ent,Hak.out];rfl⟩
 .have h1:=hd ⟨2,.data⟩ aJ rfl;have h2:=hd ⟨3,.data⟩ aJ rfl;have h3:=hd ⟨8,.data⟩ aJ rfl;simp only[NB]at h1 h2 h3;simp[cS,h1,h2,h3]
 rintro i2 v2 w2 ⟨v,rfl,hv,h2,K2⟩;have X2:=HX.out.step K2;simp only[Script.tmps,dx,List.range.loop,qX,List.foldl_nil,NB,Nat.reduceAdd,Nat.reduceEqDiff,if_true,if_false,reduceIte,oF,sS,uX];have c1:w2.cell? ⟨L,0*3+1,ah⟩=ae (aq af (hs.getD 0 0)):=by rw[ax X2.ent];rfl
 have z1:w2.frozen? ⟨L,0*3+1,ah⟩=aw:=aM X2.ent _ (bQ _);simp only[Nat.reduceMul,Nat.reduceAdd]at c1 z1;have oy:=aA X2;have H2:=aA h2;clear X2 h2 HX H hC cx cr cL cf ct cm;iterate 3
  refine gP ?_
 refine on ?_;have e3:=aH (o:=0*3+1) oy.out.ent (aq af v);have o3:∀y,y≠L->(w2.setCell ⟨L,0*3+1,ah⟩ (aq af v)).heap[y]? =w2.heap[y]? :=λy hy=>az hy _;have s3:(w2.setCell ⟨L,0*3+1,ah⟩ (aq af v)).heap.size=w2.heap.size:=jM;simp only[Nat.reduceMul,Nat.reduceAdd]at e3 o3 s3;generalize w2.setCell ⟨L,_,ah⟩ (aq af v)=w3 at*;clear c1 z1;have c2:w3.cell? ⟨L,0*3+1,ah⟩=ae (aq af v):=by rw[ax e3];rfl
 have c3:w3.cell? ⟨L,0*3+2,ah⟩=ae (aq af (bV (hs.getD 0 0))):=by rw[ax e3];rfl
 have z3:w3.frozen? ⟨L,0*3+2,ah⟩=aw:=aM e3 _ (bQ _);simp only[Nat.reduceMul,Nat.reduceAdd]at c2 c3 z3;have Hv:=aA hv;have E3:=aA e3;have O3:=aA o3;have S3':=aA s3;clear hv e3 o3 s3;refine l3 hcs (λτ=>?_);go_wp2_with (first|(go_at_call 46;refine(hvalue_word v _ Hv.out.1 Hv.out.2).mono ?_;rintro e w' ⟨rfl,rfl⟩))
 refine⟨_,bD _ _,?_⟩;try simp only[gu,bE]
 have e4:=aH (o:=0*3+2) E3.out (aq af (v / 1099511627776));have o4:∀y,y≠L->(w3.setCell ⟨L,0*3+2,ah⟩ (aq af (v / 1099511627776))).heap[y]? =w3.heap[y]? :=λy hy=>az hy _;have s4:(w3.setCell ⟨L,0*3+2,ah⟩ (aq af (v / 1099511627776))).heap.size=w3.heap.size:=jM;simp only[Nat.reduceMul,Nat.reduceAdd]at e4 o4 s4;generalize w3.setCell ⟨L,_,ah⟩ (aq af (v / 1099511627776))=w4 at*;have oD:((rE a0 a1 hs).setIfInBounds (0*3+1) (aq af v)).setIfInBounds (0*3+2) (aq af (v / 1099511627776))=rE a0 a1 (hs++[v]):=by
  have hl:=Hl.out;match hs,hl with
  |[],_=>rfl
 obtain⟨h4,X4⟩:=qE.set (hs':=hs++[v]) (w':=w4) oy.out H2.out (by rw[←oD];exact e4) (λy hy=>(o4 y hy).trans (O3.out y hy)) (by rw[s4,S3'.out]) (λy hy=>by
  rcases List.mem_append.1 hy with h|h
  .exact oy.out.bd y h
  .obtain rfl:y=v:=(by simpa using h);exact Hv.out)
 have H4:=aA h4;have PH:=aA X4;clear h4 X4 e4 o4 s4 c2 c3 z3 oD;refine l3 hcs (λτ=>?_);go_wp2;refine⟨_,bD _ _,?_⟩;exact hend _ _ _ _ (Eu.mk ..) PH.out H4.out
theorem mv_round1(hn:n<=64){i:ι}(QC:ak=[a0,a1].getD 1 0)(UI:ak<n)(hlen:hs.length=1){bG:Int->Pr JS α}(hA:Eu f t x r m L 1 a)(X:qE S w0 f t x r m fr to mm L a0 a1 hs w)(h:S.At i ((iF F F ak).bind bG) w)
  (hend:∀i' a' w' v,Eu f t x r m L 2 a'->qE S w0 f t x r m fr to mm L a0 a1 (hs++[v]) w'->S.At i' (bG v) w'->Q i' .normal a' w'):wpM aC main cs Jm Stop S.U 44 pZ Q i a w:=by
 have hcs:=S.hcs;obtain⟨cf,ct,cx,cr,cm⟩:=X.box.cells;have cL:w.cell? ⟨L,1*3,ah⟩=ae (aq af ak):=by rw[ax X.ent,QC];rfl
 have H:=aA h;have HX:=aA X;have Hl:=aA hlen;have Hkn:=aA UI;have Hak:=aA QC;clear h X hlen UI QC;cases hA;simp only[pZ,ux,lY,f44,Code.l,Code.r,cN];refine iI λτ=>?_;refine wpM_seq (bz (t:=au) dS (eY ?_));try simp only[bE]
 refine wpM_seq (cE ?_);refine iI λτ=>?_;have hC:=λ{a ops} hA cH=>mv_script (f:=f) (t:=t) (x:=x) (r:=r) (m:=m) (L:=L) (k:=1) (b:=b) (cell:=ak) (wv:=S.wv) (a:=a) (G:=λw1=>w1.cell? ⟨x,0,ah⟩=ae (aI (ae ⟨b,0,ah⟩))/\w1.cell? ⟨r,0,ah⟩=ae (.pointer S.wv)/\w1.cell? ⟨L,1*3,ah⟩=ae (aq af ak)) hA ai (λ_ h=>h) (id:=5) (ops:=ops) cH;refine wpM_seq (Pd lA [10,11,12] rfl (S.Num bG w) aQ (hC (PI.mk ..) (by simp only[aav,aau,pZ,ux,lY,f44,Code.l,Code.r,cN])) (λw1 e=>?_) (λxR v w' hp=>?_) (o:=_) rfl rfl (args:=#[aI (ae ⟨b,0,ah⟩),.pointer S.wv,aq af ak]) rfl func45 rfl rfl (λa' hd _=>?_) (λb a' k fs rest h1 h2 h3=>S.upush _ _ rfl h2 ⟨f44,by show prog.funcs[b.fn]? =_;rw[h1];exact func44⟩ h3) (qC S hn H.out Hkn.out) ?_)
 .have hc:∀y:aP,w1.cell? y=w.cell? y:=λy=>by simp only[fG,e.heap]
  rw[hc,hc,hc];exact⟨cx,cr,cL⟩
 .obtain⟨v,_,_,_,K⟩:=hp;have X':=HX.out.step K;obtain⟨_,_,c1,c2,_⟩:=X'.box.cells;exact⟨c1,c2,by rw[ax X'.ent,Hak.out];rfl⟩
 .have h1:=hd ⟨2,.data⟩ aJ rfl;have h2:=hd ⟨3,.data⟩ aJ rfl;have h3:=hd ⟨8,.data⟩ aJ rfl;simp only[NB]at h1 h2 h3;simp[cS,h1,h2,h3]
 rintro i2 v2 w2 ⟨v,rfl,hv,h2,K2⟩;have X2:=HX.out.step K2;simp only[Script.tmps,dx,List.range.loop,qX,List.foldl_nil,NB,Nat.reduceAdd,Nat.reduceEqDiff,if_true,if_false,reduceIte,oF,sS,uX];have c1:w2.cell? ⟨L,1*3+1,ah⟩=ae (aq af (hs.getD 1 0)):=by rw[ax X2.ent];rfl
 have z1:w2.frozen? ⟨L,1*3+1,ah⟩=aw:=aM X2.ent _ (bQ _);simp only[Nat.reduceMul,Nat.reduceAdd]at c1 z1;have oy:=aA X2;have H2:=aA h2;clear X2 h2 HX H hC cx cr cL cf ct cm;iterate 3
  refine gP ?_
 refine on ?_;have e3:=aH (o:=1*3+1) oy.out.ent (aq af v);have o3:∀y,y≠L->(w2.setCell ⟨L,1*3+1,ah⟩ (aq af v)).heap[y]? =w2.heap[y]? :=λy hy=>az hy _;have s3:(w2.setCell ⟨L,1*3+1,ah⟩ (aq af v)).heap.size=w2.heap.size:=jM;simp only[Nat.reduceMul,Nat.reduceAdd]at e3 o3 s3;generalize w2.setCell ⟨L,_,ah⟩ (aq af v)=w3 at*;clear c1 z1;have c2:w3.cell? ⟨L,1*3+1,ah⟩=ae (aq af v):=by rw[ax e3];rfl
 have c3:w3.cell? ⟨L,1*3+2,ah⟩=ae (aq af (bV (hs.getD 1 0))):=by rw[ax e3];rfl
 have z3:w3.frozen? ⟨L,1*3+2,ah⟩=aw:=aM e3 _ (bQ _);simp only[Nat.reduceMul,Nat.reduceAdd]at c2 c3 z3;have Hv:=aA hv;have E3:=aA e3;have O3:=aA o3;have S3':=aA s3;clear hv e3 o3 s3;refine l3 hcs (λτ=>?_);go_wp2_with (first|(go_at_call 46;refine(hvalue_word v _ Hv.out.1 Hv.out.2).mono ?_;rintro e w' ⟨rfl,rfl⟩))
 refine⟨_,bD _ _,?_⟩;try simp only[gu,bE]
 have e4:=aH (o:=1*3+2) E3.out (aq af (v / 1099511627776));have o4:∀y,y≠L->(w3.setCell ⟨L,1*3+2,ah⟩ (aq af (v / 1099511627776))).heap[y]? =w3.heap[y]? :=λy hy=>az hy _;have s4:(w3.setCell ⟨L,1*3+2,ah⟩ (aq af (v / 1099511627776))).heap.size=w3.heap.size:=jM;simp only[Nat.reduceMul,Nat.reduceAdd]at e4 o4 s4;generalize w3.setCell ⟨L,_,ah⟩ (aq af (v / 1099511627776))=w4 at*;have oD:((rE a0 a1 hs).setIfInBounds (1*3+1) (aq af v)).setIfInBounds (1*3+2) (aq af (v / 1099511627776))=rE a0 a1 (hs++[v]):=by
  have hl:=Hl.out;match hs,hl with
  |[_],_=>rfl
 obtain⟨h4,X4⟩:=qE.set (hs':=hs++[v]) (w':=w4) oy.out H2.out (by rw[←oD];exact e4) (λy hy=>(o4 y hy).trans (O3.out y hy)) (by rw[s4,S3'.out]) (λy hy=>by
  rcases List.mem_append.1 hy with h|h
  .exact oy.out.bd y h
  .obtain rfl:y=v:=(by simpa using h);exact Hv.out)
 have H4:=aA h4;have PH:=aA X4;clear h4 X4 e4 o4 s4 c2 c3 z3 oD;refine l3 hcs (λτ=>?_);go_wp2;refine⟨_,bD _ _,?_⟩;exact hend _ _ _ _ (Eu.mk ..) PH.out H4.out
end
inductive KH(f t x r m L pa pb:Nat):Act->Prop
 |mk (u5 u6 u8 nW nX mU mA mB u16 lK lL lM lN mV mX u23 u24 mY u26 lO u28 lQ lR mC u32 u33 mD mE mF mG mZ m9 nV oU oV pU u44 pV oX oY oZ o6 o7 o8 o9 sH sI ub ud wE wG wH wI wJ wK wL u64 wM wN D5 D6 D7 AG AH AJ Cy Cz CB CE CG D8 D9 Ea Gz GA GC GD GF GG GH GI GJ GL GM GN GQ GR:ay):KH f t x r m L pa pb {tmps:=#[aI (ae ⟨f,0,ah⟩),aI (ae ⟨t,0,ah⟩),aI (ae ⟨x,0,ah⟩),aI (ae ⟨r,0,ah⟩),aI (ae ⟨m,0,ah⟩),u5,u6,aD (ae ⟨L,0,ah⟩) 2 2,u8,aI (ae ⟨L,pa,ah⟩),aI (ae ⟨L,pb,ah⟩),nW,nX,mU,mA,mB,u16,lK,lL,lM,lN,mV,mX,u23,u24,mY,u26,lO,u28,lQ,lR,mC,u32,u33,mD,mE,mF,mG,mZ,m9,nV,oU,oV,pU,u44,pV,oX,oY,oZ,o6,o7,o8,o9,sH,sI,ub,ud,wE,wG,wH,wI,wJ,wK,wL,u64,wM,wN,D5,D6,D7,AG,AH,AJ,Cy,Cz,CB,CE,CG,D8,D9,Ea,Gz,GA,GC,GD,GF,GG,GH,GI,GJ,GL,GM,GN,GQ,GR],defers:=[]}
section
variable{n:Nat}{main:Bool}{Stop:ι->aB->List aB->aj->Prop}
variable{S:lT α (cI F b c lo n) main cs Jm Stop}{w:aj}{f t r to:Nat}
theorem qE.put{i:ι}{p:Pr JS α}(X:qE S w0 f t x r m fr to mm L a0 a1 hs w)(h:S.At i p w)(ho:∀y,y≠L->w'.heap[y]? =w.heap[y]?)(hsz:w'.heap.size=w.heap.size):
  S.At i p w'/\uy S w0 f t x r m fr to mm w'/\¬cU b c w' L:=by
 obtain⟨i0,p0,h0⟩:=X.box.at0;obtain⟨h1,K1,hF⟩:=S.fresh _ _ _ _ _ _ w' h0 h X.box.keep ai (λy hy hne=>by
  by_cases e:y=L
  .subst e;exact⟨X.hL.1,X.nfL⟩
  .exact aT (ho y e) hne)
 obtain⟨g0,g1,g2,g3,g4,g5⟩:=X.hL;obtain⟨n1,n2,n3,n4,n5⟩:=X.box.nf;obtain⟨e1,q1⟩:=X.box.hf;obtain⟨e2,q2⟩:=X.box.ht;obtain⟨e3,q3⟩:=X.box.hx;obtain⟨e4,q4⟩:=X.box.hr;obtain⟨e5,q5⟩:=X.box.hm;refine⟨h1,⟨⟨i0,p0,h0⟩,X.box.lo,K1,X.box.ge,⟨e1,by rw[ho _ ai];exact q1⟩,⟨e2,by rw[ho _ ai];exact q2⟩,⟨e3,by rw[ho _ ai];exact q3⟩,⟨e4,by rw[ho _ ai];exact q4⟩,⟨e5,by rw[ho _ ai];exact q5⟩,?_⟩,λhf=>X.nfL ((hF _).1 hf)⟩;exact⟨λhf=>n1 ((hF _).1 hf),λhf=>n2 ((hF _).1 hf),λhf=>n3 ((hF _).1 hf),λhf=>n4 ((hF _).1 hf),λhf=>n5 ((hF _).1 hf)⟩
noncomputable def zx:Code:=lY.r.r.r.r.r
theorem VP{e1 e2:fC}{w:aj}{f:Nat×Nat}(h:w.heap[L]? =ae (aK #[aq af e1.cell,aq af e1.old,aq af e1.next,aq af e2.cell,aq af e2.old,aq af e2.next] e f)):PE L 0 [e1,e2] w:=by intro j v hv;rw[ax h,eB];simpa[fD]using hv
theorem mv_tail0(hn:n<=64){i:ι}{g:Int}(ha:a0<n/\a1<n)(Ax:lo<=w.heap.size)(hA:KH f t x r m L 0 3 a)(X:qE S w0 f t x r m fr to mm L a0 a1 [h,g] w)(hmm:0<=mm/\mm<=1048575)
  (hp:S.At i (if bV h-mm<0 then bG (aw,265)else if mL (bV g+mm)=aw then bG (aw,263)else(doesP F S.num [⟨a0,h,bV h-mm⟩,⟨a1,g,bV g+mm⟩]).bind bG) w):
  wpM aC main cs Jm Stop S.U 44 zx (bodyPostM aC f44 (S.Did id (λ_ _=>True) (uy S w0 f t x r m fr to mm) bG)) i a w:=by
 have hcs:=S.hcs;obtain⟨cf,ct,cx,cr,cm⟩:=X.box.cells;have hL:=X.hL;have hL2:=X.hL;obtain⟨e1,q1⟩:=X.box.hf;have hbh:=X.bd h aJ;have hbg:=X.bd g aJ;have Ent:=aA X.ent;have wh:0<=bV h/\bV h<=1048575:=by unfold bV;omega
 have wg:0<=bV g/\bV g<=1048575:=by unfold bV;omega
 have ads:=(bF.1 X.ent).1;have qx:w.heap[L]? =ae (aK #[aq af a0,aq af h,aq af (bV h),aq af a1,aq af g,aq af (bV g)] 121 (0,0)):=X.ent;have HX:=aA X;have Hp:=aA hp;have Hbh:=aA hbh;have Hbg:=aA hbg;clear X hp hbh hbg q1 hL hL2;generalize bV h=vh at*;generalize bV g=vg at*;have k2:=cO qx 2;have k5:=cO qx 5;have z2:=zO qx 2;have z5:=zO qx 5;have wr1:IntKind.i64.wrap (vh-mm)=vh-mm:=by rw[gq];omega
 have wr2:IntKind.i64.wrap (vg+mm)=vg+mm:=by rw[gq];omega
 have RP:=aA qx;have Wh:=aA wh;have Wg:=aA wg;have Y5:=aA hmm;clear qx wh wg hmm;simp only[zx,lY,f44,Code.l,Code.r,cN];cases hA;refine wpM_seq (iX lA 8 95 [8] rfl aQ (λt=>qz) aQ rfl ?_);simp only[qA,qB];iterate 8
  refine ov ?_
 refine ky ?_;refine gP ?_;refine on ?_;have e1:=aH (o:=2) RP.out (aq af (vh-mm));have o1:∀y,y≠L->(w.setCell ⟨L,2,ah⟩ (aq af (vh-mm))).heap[y]? =w.heap[y]? :=λy hy=>az hy _;have s1:(w.setCell ⟨L,2,ah⟩ (aq af (vh-mm))).heap.size=w.heap.size:=jM;generalize w.setCell ⟨L,_,ah⟩ (aq af (vh-mm))=w1 at*;have hmL:m≠L:=by have:=HX.out.hL;omega
 have cm1:w1.cell? ⟨m,0,ah⟩=ae (aq af mm):=(dr (w:=w) (o1 m hmL)).trans cm;have k1:=cO e1 5;have z1:=zO e1 5;have E1:=aA e1;have O1:=aA o1;have S1:=aA s1;clear e1 o1 s1 cm k2 k5 z2 z5 wr1 cf ct cx cr hmL;refine wpM_seq (iX lA 8 95 [8] rfl aQ (λt=>qz) aQ rfl ?_);simp only[qA,qB];iterate 8
  refine ov ?_
 refine ky ?_;refine gP ?_;refine on ?_;have e2:=aH (o:=5) E1.out (aq af (vg+mm));have o2:∀y,y≠L->(w1.setCell ⟨L,5,ah⟩ (aq af (vg+mm))).heap[y]? =w1.heap[y]? :=λy hy=>az hy _;have s2:(w1.setCell ⟨L,5,ah⟩ (aq af (vg+mm))).heap.size=w1.heap.size:=jM;generalize w1.setCell ⟨L,_,ah⟩ (aq af (vg+mm))=w2 at*;obtain⟨h2,X2,nf2⟩:=qE.put (w':=w2) HX.out Hp.out (λy hy=>(o2 y hy).trans (O1.out y hy)) (by rw[s2,S1.out]);have hs2:w2.heap.size=w.heap.size:=by rw[s2,S1.out]
 have e2:w2.heap[L]? =ae (aK #[aq af a0,aq af h,aq af (vh-mm),aq af a1,aq af g,aq af (vg+mm)] 121 (0,0)):=e2;obtain⟨_,_,cx2,cr2,_⟩:=X2.cells;have l2:=cO e2 2;have l5:=cO e2 5;have E2:=aA e2;have H2:=aA h2;have oy:=aA X2;have IC:=aA hs2;clear e2 o2 s2 h2 X2 hs2 k1 z1 cm1 wr2;refine wpM_seq (cE ?_);refine iI λτ=>?_;by_cases iN:vh-mm<0
 .have h3:S.At i (bG (aw,265)) w2:=by simpa[iN]using H2.out
  refine bz (t:=au) (by simp[cS,iN]) ?_;simp only[if_true];refine iI λτ=>?_;refine cD ?_;exact⟨rfl,.tuple #[.bool aw,aq af 265],jT,(aw,265),rfl,h3,oy.out,trivial⟩
 .refine bz (t:=aw) (by simp[cS,iN]) ?_;simp only[iy,if_false];by_cases CL:vg+mm<=1048575
  .have hl:mL (vg+mm)=au:=(by have:=Wg.out;have:=Wh.out;have:=Y5.out;simp[mL];omega);have h3:S.At i ((doesP F S.num [⟨a0,h,vh-mm⟩,⟨a1,g,vg+mm⟩]).bind bG) w2:=(by simpa[iN,hl]using H2.out);have adt:=aA iN;have G7:=aA CL;clear iN CL hl;refine wpM_seq (l3 hcs (λτ=>?_));go_wp2_with (first|(go_at_call 38;refine(oQ (vg+mm) _ (by have:=Wg.out;have:=Wh.out;have:=Y5.out;omega) G7.out).mono ?_;rintro e w' ⟨rfl,rfl⟩))
   refine px ?_;refine Cs ?_;simp only[gu,bE];have hd:=rC S hn (s:=L) (o:=0) (cap:=2) (es:=[⟨a0,h,vh-mm⟩,⟨a1,g,vg+mm⟩]) h3 (by rw[IC.out];exact Ax) (VP E2.out) (λe=>nf2 (.inl e)) (by rw[IC.out];exact ads) (λe he=>by
    have:=Wg.out;have:=Wh.out;have:=Y5.out;have:=adt.out;have:=G7.out;simp at he;rcases he with rfl|rfl
    .exact⟨ha.1,Hbh.out.1,Hbh.out.2,by show 0<=vh-mm;omega,by show vh-mm<=_;omega⟩
    .exact⟨ha.2,Hbg.out.1,Hbg.out.2,by show 0<=vg+mm;omega,by show vg+mm<=_;omega⟩) aJ
   have Hd:=aA hd;clear hd h3;refine pS ?_;iterate 3
    refine gP ?_
   refine bA (args:=#[aI (ae ⟨b,0,ah⟩),.pointer S.wv,aD (ae ⟨L,0,ah⟩) 2 2]) rfl rfl rfl func47 rfl rfl dS (λb k fs h1 h2=>S.upush _ _ rfl rfl ⟨f44,by show prog.funcs[b.fn]? =_;rw[h1];exact func44⟩ h2) (Hd.out) ?_;rintro i3 r3 w3 ⟨ok,er,rfl,h3,K3⟩;walk_nrm;iterate 4
    refine gP ?_
   refine on ?_;refine cD ?_;exact⟨rfl,.tuple #[.bool ok,aq af er],jT,(ok,er),rfl,h3,oy.out.step K3,trivial⟩
  .have hl:mL (vg+mm)=aw:=(by simp[mL];omega);have h3:S.At i (bG (aw,263)) w2:=(by simpa[iN,hl]using H2.out);have G7:=aA CL;clear iN CL hl;refine wpM_seq (l3 hcs (λτ=>?_));go_wp2_with (first|(go_at_call 38;refine(uM (vg+mm) _ (.inr (by have:=G7.out;omega))).mono ?_;rintro e w' ⟨rfl,rfl⟩))
   refine px ?_;refine ctx ?_;refine iI λτ=>?_;refine cD ?_;exact⟨rfl,.tuple #[.bool aw,aq af 263],jT,(aw,263),rfl,h3,oy.out,trivial⟩
theorem mv_tail3(hn:n<=64){i:ι}{g:Int}(ha:a0<n/\a1<n)(Ax:lo<=w.heap.size)(hA:KH f t x r m L 3 0 a)(X:qE S w0 f t x r m fr to mm L a0 a1 [h,g] w)(hmm:0<=mm/\mm<=1048575)
  (hp:S.At i (if bV g-mm<0 then bG (aw,265)else if mL (bV h+mm)=aw then bG (aw,263)else(doesP F S.num [⟨a0,h,bV h+mm⟩,⟨a1,g,bV g-mm⟩]).bind bG) w):
  wpM aC main cs Jm Stop S.U 44 zx (bodyPostM aC f44 (S.Did id (λ_ _=>True) (uy S w0 f t x r m fr to mm) bG)) i a w:=by
 have hcs:=S.hcs;obtain⟨cf,ct,cx,cr,cm⟩:=X.box.cells;have hL:=X.hL;have hL2:=X.hL;obtain⟨e1,q1⟩:=X.box.hf;have hbh:=X.bd h aJ;have hbg:=X.bd g aJ;have Ent:=aA X.ent;have wh:0<=bV h/\bV h<=1048575:=by unfold bV;omega
 have wg:0<=bV g/\bV g<=1048575:=by unfold bV;omega
 have ads:=(bF.1 X.ent).1;have qx:w.heap[L]? =ae (aK #[aq af a0,aq af h,aq af (bV h),aq af a1,aq af g,aq af (bV g)] 121 (0,0)):=X.ent;have HX:=aA X;have Hp:=aA hp;have Hbh:=aA hbh;have Hbg:=aA hbg;clear X hp hbh hbg q1 hL hL2;generalize bV h=vh at*;generalize bV g=vg at*;have k2:=cO qx 2;have k5:=cO qx 5;have z2:=zO qx 2;have z5:=zO qx 5;have wr1:IntKind.i64.wrap (vg-mm)=vg-mm:=by rw[gq];omega
 have wr2:IntKind.i64.wrap (vh+mm)=vh+mm:=by rw[gq];omega
 have RP:=aA qx;have Wh:=aA wh;have Wg:=aA wg;have Y5:=aA hmm;clear qx wh wg hmm;simp only[zx,lY,f44,Code.l,Code.r,cN];cases hA;refine wpM_seq (iX lA 8 95 [8] rfl aQ (λt=>qz) aQ rfl ?_);simp only[qA,qB];iterate 8
  refine ov ?_
 refine ky ?_;refine gP ?_;refine on ?_;have e1:=aH (o:=5) RP.out (aq af (vg-mm));have o1:∀y,y≠L->(w.setCell ⟨L,5,ah⟩ (aq af (vg-mm))).heap[y]? =w.heap[y]? :=λy hy=>az hy _;have s1:(w.setCell ⟨L,5,ah⟩ (aq af (vg-mm))).heap.size=w.heap.size:=jM;generalize w.setCell ⟨L,_,ah⟩ (aq af (vg-mm))=w1 at*;have hmL:m≠L:=by have:=HX.out.hL;omega
 have cm1:w1.cell? ⟨m,0,ah⟩=ae (aq af mm):=(dr (w:=w) (o1 m hmL)).trans cm;have k1:=cO e1 2;have z1:=zO e1 2;have E1:=aA e1;have O1:=aA o1;have S1:=aA s1;clear e1 o1 s1 cm k2 k5 z2 z5 wr1 cf ct cx cr hmL;refine wpM_seq (iX lA 8 95 [8] rfl aQ (λt=>qz) aQ rfl ?_);simp only[qA,qB];iterate 8
  refine ov ?_
 refine ky ?_;refine gP ?_;refine on ?_;have e2:=aH (o:=2) E1.out (aq af (vh+mm));have o2:∀y,y≠L->(w1.setCell ⟨L,2,ah⟩ (aq af (vh+mm))).heap[y]? =w1.heap[y]? :=λy hy=>az hy _;have s2:(w1.setCell ⟨L,2,ah⟩ (aq af (vh+mm))).heap.size=w1.heap.size:=jM;generalize w1.setCell ⟨L,_,ah⟩ (aq af (vh+mm))=w2 at*;obtain⟨h2,X2,nf2⟩:=qE.put (w':=w2) HX.out Hp.out (λy hy=>(o2 y hy).trans (O1.out y hy)) (by rw[s2,S1.out]);have hs2:w2.heap.size=w.heap.size:=by rw[s2,S1.out]
 have e2:w2.heap[L]? =ae (aK #[aq af a0,aq af h,aq af (vh+mm),aq af a1,aq af g,aq af (vg-mm)] 121 (0,0)):=e2;obtain⟨_,_,cx2,cr2,_⟩:=X2.cells;have l2:=cO e2 5;have l5:=cO e2 2;have E2:=aA e2;have H2:=aA h2;have oy:=aA X2;have IC:=aA hs2;clear e2 o2 s2 h2 X2 hs2 k1 z1 cm1 wr2;refine wpM_seq (cE ?_);refine iI λτ=>?_;by_cases iN:vg-mm<0
 .have h3:S.At i (bG (aw,265)) w2:=by simpa[iN]using H2.out
  refine bz (t:=au) (by simp[cS,iN]) ?_;simp only[if_true];refine iI λτ=>?_;refine cD ?_;exact⟨rfl,.tuple #[.bool aw,aq af 265],jT,(aw,265),rfl,h3,oy.out,trivial⟩
 .refine bz (t:=aw) (by simp[cS,iN]) ?_;simp only[iy,if_false];by_cases CL:vh+mm<=1048575
  .have hl:mL (vh+mm)=au:=(by have:=Wg.out;have:=Wh.out;have:=Y5.out;simp[mL];omega);have h3:S.At i ((doesP F S.num [⟨a0,h,vh+mm⟩,⟨a1,g,vg-mm⟩]).bind bG) w2:=(by simpa[iN,hl]using H2.out);have adt:=aA iN;have G7:=aA CL;clear iN CL hl;refine wpM_seq (l3 hcs (λτ=>?_));go_wp2_with (first|(go_at_call 38;refine(oQ (vh+mm) _ (by have:=Wg.out;have:=Wh.out;have:=Y5.out;omega) G7.out).mono ?_;rintro e w' ⟨rfl,rfl⟩))
   refine px ?_;refine Cs ?_;simp only[gu,bE];have hd:=rC S hn (s:=L) (o:=0) (cap:=2) (es:=[⟨a0,h,vh+mm⟩,⟨a1,g,vg-mm⟩]) h3 (by rw[IC.out];exact Ax) (VP E2.out) (λe=>nf2 (.inl e)) (by rw[IC.out];exact ads) (λe he=>by
    have:=Wg.out;have:=Wh.out;have:=Y5.out;have:=adt.out;have:=G7.out;simp at he;rcases he with rfl|rfl
    .exact⟨ha.1,Hbh.out.1,Hbh.out.2,by show 0<=vh+mm;omega,by show vh+mm<=_;omega⟩
    .exact⟨ha.2,Hbg.out.1,Hbg.out.2,by show 0<=vg-mm;omega,by show vg-mm<=_;omega⟩) aJ
   have Hd:=aA hd;clear hd h3;refine pS ?_;iterate 3
    refine gP ?_
   refine bA (args:=#[aI (ae ⟨b,0,ah⟩),.pointer S.wv,aD (ae ⟨L,0,ah⟩) 2 2]) rfl rfl rfl func47 rfl rfl dS (λb k fs h1 h2=>S.upush _ _ rfl rfl ⟨f44,by show prog.funcs[b.fn]? =_;rw[h1];exact func44⟩ h2) (Hd.out) ?_;rintro i3 r3 w3 ⟨ok,er,rfl,h3,K3⟩;walk_nrm;iterate 4
    refine gP ?_
   refine on ?_;refine cD ?_;exact⟨rfl,.tuple #[.bool ok,aq af er],jT,(ok,er),rfl,h3,oy.out.step K3,trivial⟩
  .have hl:mL (vh+mm)=aw:=(by simp[mL];omega);have h3:S.At i (bG (aw,263)) w2:=(by simpa[iN,hl]using H2.out);have G7:=aA CL;clear iN CL hl;refine wpM_seq (l3 hcs (λτ=>?_));go_wp2_with (first|(go_at_call 38;refine(uM (vh+mm) _ (.inr (by have:=G7.out;omega))).mono ?_;rintro e w' ⟨rfl,rfl⟩))
   refine px ?_;refine ctx ?_;refine iI λτ=>?_;refine cD ?_;exact⟨rfl,.tuple #[.bool aw,aq af 263],jT,(aw,263),rfl,h3,oy.out,trivial⟩
end
section
variable{n:Nat}{main:Bool}{Stop:ι->aB->List aB->aj->Prop}
variable{S:lT α (cI F b c lo n) main cs Jm Stop}{w:aj}{f t r to:Nat}
structure adu(S:lT α (cI F b c lo n) main cs Jm Stop)(w0:aj)(f t x r m fr to:Nat)(mm:Int)(L a0 a1:Nat)(bG:List Int->Pr JS α)(j:Nat)(i':ι)(a':Act)(w':aj):Prop where
 ex:∃hs,j=2-hs.length/\hs.length<=2/\Eu f t x r m L hs.length a'/\S.At i' ((g7 F ([a0,a1].drop hs.length)).bind λhs'=>bG (hs++hs')) w'/\qE S w0 f t x r m fr to mm L a0 a1 hs w'
theorem ND{K:List Int->Pr JS α}:((g7 F []).bind λhs'=>K (hs++hs'))=K hs:=by simp[g7,Pr.bind]
theorem Ak{K:List Int->Pr JS α}{l:List Nat}:((g7 F (k::l)).bind λhs'=>K (hs++hs'))=(iF F F k).bind λh=>(g7 F l).bind λhs'=>K ((hs++[h]) ++hs'):=by simp only[g7,Pr.bind_assoc,Pr.bind,vq,jZ,kU]
theorem NF(S:lT α (cI F b c lo n) main cs Jm Stop)(hn:n<=64)(w0:aj)(f t x r m fr to:Nat)(mm:Int)(yD:fr<n)(hto:to<n)(hne:fr≠to)(hmm:0<=mm/\mm<=1048575):
  CloSpec S 44 #[aI (ae ⟨f,0,ah⟩),aI (ae ⟨t,0,ah⟩),aI (ae ⟨x,0,ah⟩),aI (ae ⟨r,0,ah⟩),aI (ae ⟨m,0,ah⟩)] (ya F S.num (min fr to) (max fr to) (decide (to<fr)) mm) id (λ_ _=>True) (uy S w0 f t x r m fr to mm):=by
 intro i w bG X h;rw[NC]at h;have hcs:=S.hcs;obtain⟨i0,p0,h0⟩:=X.at0;obtain⟨cf,ct,cx,cr,cm⟩:=X.cells;refine bL func44 rfl ?_;simp only[f44,cN];walk_nrm;iterate 2
  refine iI λτ=>?_
 generalize iA:World.alloc _ _=w1;have hL1:w1.heap[w.heap.size]? =ae (aK (rE (min fr to) (max fr to) []) 121 (0,0)):=by subst iA;simp only[←dt,dz];rw[aX trivial];have e1:min (fr:Int) (to:Int)=((min fr to:Nat):Int):=ai;have e2:max (fr:Int) (to:Int)=((max fr to:Nat):Int):=ai;rw[e1,e2];rfl
 have ho1:∀y,y<w.heap.size->w1.heap[y]? =w.heap[y]? :=λy hy=>by subst iA;simp only[←dt,dz];rw[aU ai]
 have hs1:w1.heap.size=w.heap.size+1:=by subst iA;simp
 clear iA;obtain⟨h1,K1,xa⟩:=S.fresh _ _ _ _ _ _ w1 h0 h X.keep ai (λy hy hne=>aT (ho1 y hy) hne);have Ax:lo<=w1.heap.size:=by have:=X.lo;have:=S.size _ _ K1;omega
 have X1:qE S w0 f t x r m fr to mm w.heap.size (min fr to) (max fr to) [] w1:=by
  obtain⟨g1,g2,g3,g4,g5⟩:=X.ge;obtain⟨n1,n2,n3,n4,n5⟩:=X.nf;obtain⟨e1,q1⟩:=X.hf;obtain⟨e2,q2⟩:=X.ht;obtain⟨e3,q3⟩:=X.hx;obtain⟨e4,q4⟩:=X.hr;obtain⟨e5,q5⟩:=X.hm;have l1:=(bF.1 q1).1;have l2:=(bF.1 q2).1;have l3:=(bF.1 q3).1;have l4:=(bF.1 q4).1;have l5:=(bF.1 q5).1;refine⟨⟨⟨i0,p0,h0⟩,X.lo,K1,X.ge,⟨e1,by rw[ho1 _ l1];exact q1⟩,⟨e2,by rw[ho1 _ l2];exact q2⟩,⟨e3,by rw[ho1 _ l3];exact q3⟩,⟨e4,by rw[ho1 _ l4];exact q4⟩,⟨e5,by rw[ho1 _ l5];exact q5⟩,?_⟩,⟨ai,l1,l2,l3,l4,l5⟩,hL1,λhf=>?_,λy hy=>(by cases hy)⟩
  .exact⟨λhf=>n1 ((xa _).1 hf),λhf=>n2 ((xa _).1 hf),λhf=>n3 ((xa _).1 hf),λhf=>n4 ((xa _).1 hf),λhf=>n5 ((xa _).1 hf)⟩
  .have:=S.foot _ _ _ _ h ((xa _).1 hf);omega
 have H1:=aA h1;have HX:=aA X1;have ajb:=aA Ax;have Y5:=aA hmm;have Hfr:=aA yD;have Hto:=aA hto;have Hne:=aA hne;clear h1 X1 Ax h X hL1 ho1 hs1 K1 xa cf ct cx cr cm h0 hmm yD hto hne;generalize w.heap.size=L at*;refine Ai λτ=>?_;refine cE (iV (adu S w0 f t x r m fr to mm L (min fr to) (max fr to) (FA F S.num (min fr to) (max fr to) (decide (to<fr)) mm bG)) (n:=2) ⟨[],rfl,aJ,Eu.mk ..,H1.out,HX.out⟩ ?_);rintro j i2 a2 w2 ⟨hs,rfl,hle,hA,h2,X2⟩;match hs,hle with
 |[],_=>rw[gK,List.drop_zero,Ak]at h2;have hr:=λ{Q}=>mv_round0 (Q:=Q) hn (ak:=min fr to) (a0:=min fr to) (a1:=max fr to) (hs:=[]) rfl (by have:=Hfr.out;omega) rfl hA X2 h2;simp only[pZ,ux,lY,f44,Code.l,Code.r,cN]at hr;refine hr λi' a' w' v hA' X' h'=>?_;exact⟨1,aJ,[v],rfl,aJ,hA',h',X'⟩
 |[h0],_=>rw[List.length_singleton,List.drop_succ_cons,List.drop_zero,Ak]at h2;have hr:=λ{Q}=>mv_round1 (Q:=Q) hn (ak:=max fr to) (a0:=min fr to) (a1:=max fr to) (hs:=[h0]) rfl (by have:=Hfr.out;have:=Hto.out;omega) rfl hA X2 h2;simp only[pZ,ux,lY,f44,Code.l,Code.r,cN]at hr;refine hr λi' a' w' v hA' X' h'=>?_;exact⟨0,aJ,[h0,v],rfl,aJ,hA',h',X'⟩
 |[h,g],_=>
  have h2:S.At i2 ((g7 F []).bind λhs'=>FA F S.num (min fr to) (max fr to) (decide (to<fr)) mm bG ([h,g] ++hs')) w2:=h2;rw[ND]at h2;have abv:lo<=w2.heap.size:=by have:=X2.box.lo;have:=S.size _ _ X2.box.keep;omega
  have afQ:w2.heap[L]? =ae (aK #[aq af (min fr to:Nat),aq af h,aq af (bV h),aq af (max fr to:Nat),aq af g,aq af (bV g)] 121 (0,0)):=X2.ent;have ca:=cO afQ 0;obtain⟨cf,_⟩:=X2.box.cells;have oy:=aA X2;have H2:=aA h2;have S9:=aA abv;clear X2 h2 abv afQ H1 HX;have hA:Eu f t x r m L 2 a2:=hA;cases hA;refine iI λτ=>?_;refine wpM_seq (bz (t:=aw) dS (iU ?_));simp only[bE,gu,if_true];refine wpM_seq (iX lA 5 95 [5] rfl aQ (λt=>qz) aQ rfl ?_);simp only[qA,qB];iterate 5
   refine ov ?_
  refine ky ?_;refine gP ?_;refine on ?_;refine wpM_seq ?_;obtain⟨hi2,e2,hs2⟩:∃hi,hi=max fr to/\True:=⟨_,rfl,trivial⟩;by_cases hsw:to<fr
  .have ea:min fr to=to:=ai;have eb:max fr to=fr:=ai;have hfv:((to:Int) !=(fr:Int))=au:=dp;have H3:=H2.out;unfold FA at H3;simp only[List.getD_cons_zero,List.getD_cons_succ,hsw,decide_true,if_true]at H3;have IB:=oy.out;rw[ea]at ca IB H3;rw[eb]at IB H3;have ht:=λa hA=>mv_tail3 (S:=S) (w0:=w0) (w:=w2) (f:=f) (t:=t) (x:=x) (r:=r) (m:=m) (fr:=fr) (to:=to) (mm:=mm) hn (i:=i2) (a:=a) (L:=L) (a0:=to) (a1:=fr) (h:=h) (g:=g) ⟨Hto.out,Hfr.out⟩ S9.out hA IB Y5.out (bG:=bG) H3;simp only[zx,lY,f44,Code.l,Code.r,cN]at ht;have Ht:=aA ht;clear H3 ht H2 hsw IB oy ea eb e2 hs2;refine wpM_seq (iX lA 5 95 [5] rfl aQ (λt=>qz) aQ rfl ?_);simp only[qA,qB];iterate 5
    refine ov ?_
   refine ky ?_;refine gP ?_;refine on ?_;refine bz (t:=au) (by simp[cS,hfv]) ?_;simp only[if_true];refine l3 hcs (λτ=>?_);go_wp2;refine px ?_;exact Ht.out _ (KH.mk ..)
  .have ea:min fr to=fr:=ai;have eb:max fr to=to:=ai;have hfv:((fr:Int) !=(fr:Int))=aw:=aJ;have H3:=H2.out;unfold FA at H3;simp only[List.getD_cons_zero,List.getD_cons_succ,hsw,decide_false,iy,if_false]at H3;have IB:=oy.out;rw[ea]at ca IB H3;rw[eb]at IB H3;have ht:=λa hA=>mv_tail0 (S:=S) (w0:=w0) (w:=w2) (f:=f) (t:=t) (x:=x) (r:=r) (m:=m) (fr:=fr) (to:=to) (mm:=mm) hn (i:=i2) (a:=a) (L:=L) (a0:=fr) (a1:=to) (h:=h) (g:=g) ⟨Hfr.out,Hto.out⟩ S9.out hA IB Y5.out (bG:=bG) H3;simp only[zx,lY,f44,Code.l,Code.r,cN]at ht;have Ht:=aA ht;clear H3 ht H2 hsw IB oy ea eb e2 hs2;refine wpM_seq (iX lA 5 95 [5] rfl aQ (λt=>qz) aQ rfl ?_);simp only[qA,qB];iterate 5
    refine ov ?_
   refine ky ?_;refine gP ?_;refine on ?_;refine bz (t:=aw) (by simp[cS,hfv]) (eY ?_);simp only[bE];exact Ht.out _ (KH.mk ..)
end
theorem VQ{w:aj}{o3 o4 o5:Obj}(h:((((w.alloc o1).alloc o2).alloc o3).alloc o4).alloc o5=w1):w1.heap.size=w.heap.size+5/\(∀b,b<w.heap.size->w1.heap[b]? =w.heap[b]?)/\w1.heap[w.heap.size]? =ae o1/\w1.heap[w.heap.size+1]? =ae o2/\w1.heap[w.heap.size+1+1]? =ae o3/\w1.heap[w.heap.size+1+1+1]? =ae o4/\w1.heap[w.heap.size+1+1+1+1]? =ae o5:=by
 subst h;refine⟨aJ,λb hb=>?_,?_,?_,?_,?_,?_⟩ <;>simp only[←dt,dz,fN]
 .rw[aU ai,aU ai,aU ai,aU ai,aU ai]
 .rw[aU ai,aU ai,aU ai,aU ai,aX trivial]
 .rw[aU ai,aU ai,aU ai,aX trivial]
 .exact ZU
 .rw[aU ai,aX trivial]
 .rw[aX trivial]
section
variable{n:Nat}{main:Bool}{Stop:ι->aB->List aB->aj->Prop}{i:ι}{w:aj}
theorem move_any'(S:lT α (cI F b c lo n) main cs Jm Stop)(hn:1<=n/\n<=64){f m:Int}(h:S.At i ((Kr F S.num n f t m).bind bG) w)(hlo:lo<=w.heap.size):
  CallsM aC main cs Jm Stop S.U i 19 #[aI (ae ⟨b,0,ah⟩),.pointer S.wv,aq af f,aq af t,aq af m] w (S.aao bG w):=by
 unfold Kr at h;have hcs:=S.hcs;refine bL func19 rfl ?_;simp only[f19,cN];walk_nrm;iterate 2
  refine iI λτ=>?_
 generalize iA:World.alloc _ _=w1;obtain⟨a1,a2,a3,a4,a5,a6,a7⟩:=VQ iA;clear iA;obtain⟨h1,K1,xa⟩:=S.fresh _ _ _ _ _ _ w1 h h (S.refl w) ai (λy hy hne=>aT (a2 y hy) hne);have py:∀g,w.heap.size<=g->¬cU b c w1 g:=λg hg hf=>by have:=S.foot _ _ _ _ h ((xa g).1 hf);omega
 obtain⟨s1,jE⟩:=S.rep _ _ _ h1;have hdr:=JRep.hdr jE;have c1:=cO a3 0;have c2:=cO a4 0;have c3:=cO a5 0;have c4:=cO a6 0;have c5:=cO a7 0;have A3:=aA a3;have A4:=aA a4;have A5:=aA a5;have A6:=aA a6;have A7:=aA a7;have H0:=aA h;have HF1:=aA py;have HK1:=aA K1;have yr:∀τ,(w1.tp τ).cell? ⟨b,0,ah⟩=ae (aD (ae ⟨c,0,ah⟩) n n):=λ_=>hdr;have Hd:=aA yr;clear a3 a4 a5 a6 a7 jE xa K1 h py a1 a2 yr;by_cases hf:0<=f/\f<n
 .by_cases ht:0<=t/\t<n
  .by_cases hne:f=t
   .subst hne;have Hf:=aA hf;have h3:S.At i (.line (bG (aw,262))) w1:=(by rw[aX (.inr (.inr rfl))]at h1;exact h1);have H3:=aA h3;clear h3 h1 hf ht;refine wpM_seq (l3 hcs (λτ=>?_));go_wp2_with (first|(go_at_call 41;((with_reducible refine(pR b c n f (w1.tp τ) (Hd.out τ) Hf.out.1 Hf.out.2).mono ?_);rintro e w' ⟨rfl,rfl⟩)))
    refine px ?_;refine Ai λτ=>?_;refine ctx ?_;refine pS ?_;refine gP ?_;refine bA (args:=#[.pointer S.wv]) rfl rfl rfl func42 rfl rfl dS (λb k fs h1 h2=>S.upush _ _ rfl rfl ⟨f19,by show prog.funcs[b.fn]? =_;rw[h1];exact func19⟩ h2) (S.step _ _ _ H3.out) ?_;rintro i2 r w2 ⟨rfl,h2,K2⟩;walk_nrm;refine on ?_;refine iI λτ=>?_;refine cD ?_;exact⟨rfl,.tuple #[.bool aw,aq af 262],jT,aw,262,rfl,h2,S.trans _ _ _ HK1.out K2⟩
   .have hnb:(f==t)=aw:=(by simpa using hne);have afR:¬((¬(0<=f/\f<n))\/(¬(0<=t/\t<n))\/f=t):=λh=>(by rcases h with h|h|h<;>omega);rw[aU afR]at h1;clear afR;by_cases hm:0<=m/\m<=1048575
    .obtain⟨fr,rfl⟩:∃k:Nat,f=k:=⟨f.toNat,ai⟩;obtain⟨to,rfl⟩:∃k:Nat,t=k:=⟨t.toNat,ai⟩;have hl:¬mL m=aw:=(by simp[mL];omega);rw[aU hl]at h1;clear hl;have e1:(min (fr:Int) (to:Int)).toNat=min fr to:=ai;have e2:(max (fr:Int) (to:Int)).toNat=max fr to:=ai;have e3:decide ((to:Int) < (fr:Int))=decide (to<fr):=aJ;rw[e1,e2,e3]at h1;clear e1 e2 e3;have Hf:=aA hf;have Ht:=aA ht;have Hne:=aA hne;have Hm:=aA hm;have X1:uy S w (w.heap.size+1+1) (w.heap.size+1+1+1) w.heap.size (w.heap.size+1) (w.heap.size+1+1+1+1) fr to m w1:=⟨⟨_,_,H0.out⟩,hlo,HK1.out,ai,⟨_,A5.out⟩,⟨_,A6.out⟩,⟨_,A3.out⟩,⟨_,A4.out⟩,⟨_,A7.out⟩,HF1.out _ ai,HF1.out _ ai,HF1.out _ ai,HF1.out _ ai,HF1.out _ ai⟩;have HX1:=aA X1;have H1:=aA h1;clear hf ht hne hm h1 X1;refine wpM_seq (l3 hcs (λτ=>?_));go_wp2_with (first|(go_at_call 41;((with_reducible refine(pR b c n fr (w1.tp τ) (Hd.out τ) Hf.out.1 Hf.out.2).mono ?_);rintro e w' ⟨rfl,rfl⟩))|(go_at_call 41;((with_reducible refine(pR b c n to (w1.tp τ) (Hd.out τ) Ht.out.1 Ht.out.2).mono ?_);rintro e w' ⟨rfl,rfl⟩))|(go_at_call 38;((with_reducible refine(oQ m (w1.tp τ) Hm.out.1 Hm.out.2).mono ?_);rintro e w' ⟨rfl,rfl⟩)))
     refine px ?_;refine Ai λτ=>?_;refine Cs ?_;try simp only[bE]
     refine pS ?_;refine gP ?_;refine bA (args:=#[.func (.func 44) #[] #[aI (ae ⟨w.heap.size+1+1,0,ah⟩),aI (ae ⟨w.heap.size+1+1+1,0,ah⟩),aI (ae ⟨w.heap.size,0,ah⟩),aI (ae ⟨w.heap.size+1,0,ah⟩),aI (ae ⟨w.heap.size+1+1+1+1,0,ah⟩)]]) rfl rfl rfl func43 rfl rfl dS (λb k fs h1 h2=>S.upush _ _ rfl rfl ⟨f19,by show prog.funcs[b.fn]? =_;rw[h1];exact func19⟩ h2) (wW S func44 rfl rfl (NF S hn.2 w _ _ _ _ _ fr to m (by have:=Hf.out;omega) (by have:=Ht.out;omega) (λe=>Hne.out (by rw[e])) Hm.out) HX1.out H1.out) ?_;rintro i2 r2 w2 ⟨⟨ok,er⟩,rfl,h2,X2,-⟩;have H2:=aA h2;have oy:=aA X2;clear h2 X2;walk_nrm;iterate 4
      refine gP ?_
     refine on ?_;refine cD ?_;exact⟨rfl,.tuple #[.bool ok,aq af er],jT,ok,er,rfl,H2.out,oy.out.keep⟩
    .have hl:mL m=aw:=(by simp[mL];omega);have Hf:=aA hf;have Ht:=aA ht;have Hm:=aA hm;have h3:S.At i (.line (bG (aw,263))) w1:=(by rw[aX hl]at h1;exact h1);have H3:=aA h3;clear h3 h1 hf ht hm hne;refine wpM_seq (l3 hcs (λτ=>?_));go_wp2_with (first|(go_at_call 41;((with_reducible refine(pR b c n f (w1.tp τ) (Hd.out τ) Hf.out.1 Hf.out.2).mono ?_);rintro e w' ⟨rfl,rfl⟩))|(go_at_call 41;((with_reducible refine(pR b c n t (w1.tp τ) (Hd.out τ) Ht.out.1 Ht.out.2).mono ?_);rintro e w' ⟨rfl,rfl⟩))|(go_at_call 38;((with_reducible refine(uM m (w1.tp τ) (by have:=Hm.out;omega)).mono ?_);rintro e w' ⟨rfl,rfl⟩)))
     refine px ?_;refine Ai λτ=>?_;refine ctx ?_;refine pS ?_;refine gP ?_;refine bA (args:=#[.pointer S.wv]) rfl rfl rfl func42 rfl rfl dS (λb k fs h1 h2=>S.upush _ _ rfl rfl ⟨f19,by show prog.funcs[b.fn]? =_;rw[h1];exact func19⟩ h2) (S.step _ _ _ H3.out) ?_;rintro i2 r w2 ⟨rfl,h2,K2⟩;walk_nrm;refine on ?_;refine iI λτ=>?_;refine cD ?_;exact⟨rfl,.tuple #[.bool aw,aq af 263],jT,aw,263,rfl,h2,S.trans _ _ _ HK1.out K2⟩
  .have Ht:=aA ht;have Hf:=aA hf;have h3:S.At i (.line (bG (aw,262))) w1:=(by rw[aX (.inr (.inl ht))]at h1;exact h1);have H3:=aA h3;clear h3 h1 hf ht;refine wpM_seq (l3 hcs (λτ=>?_));go_wp2_with (first|(go_at_call 41;((with_reducible refine(pR b c n f (w1.tp τ) (Hd.out τ) Hf.out.1 Hf.out.2).mono ?_);rintro e w' ⟨rfl,rfl⟩))|(go_at_call 41;((with_reducible refine(Bj b c n t (w1.tp τ) (Hd.out τ) Ht.out).mono ?_);rintro e w' ⟨rfl,rfl⟩)))
   refine px ?_;refine Ai λτ=>?_;refine ctx ?_;refine pS ?_;refine gP ?_;refine bA (args:=#[.pointer S.wv]) rfl rfl rfl func42 rfl rfl dS (λb k fs h1 h2=>S.upush _ _ rfl rfl ⟨f19,by show prog.funcs[b.fn]? =_;rw[h1];exact func19⟩ h2) (S.step _ _ _ H3.out) ?_;rintro i2 r w2 ⟨rfl,h2,K2⟩;walk_nrm;refine on ?_;refine iI λτ=>?_;refine cD ?_;exact⟨rfl,.tuple #[.bool aw,aq af 262],jT,aw,262,rfl,h2,S.trans _ _ _ HK1.out K2⟩
 .have Hf:=aA hf
  skip
  have h3:S.At i (.line (bG (aw,262))) w1:=by rw[aX (.inl hf)]at h1;exact h1
  have H3:=aA h3;clear h3 h1 hf;refine wpM_seq (l3 hcs (λτ=>?_));go_wp2_with (first|(go_at_call 41;((with_reducible refine(Bj b c n f (w1.tp τ) (Hd.out τ) Hf.out).mono ?_);rintro e w' ⟨rfl,rfl⟩)))
  refine px ?_;refine Ai λτ=>?_;refine ctx ?_;refine pS ?_;refine gP ?_;refine bA (args:=#[.pointer S.wv]) rfl rfl rfl func42 rfl rfl dS (λb k fs h1 h2=>S.upush _ _ rfl rfl ⟨f19,by show prog.funcs[b.fn]? =_;rw[h1];exact func19⟩ h2) (S.step _ _ _ H3.out) ?_;rintro i2 r w2 ⟨rfl,h2,K2⟩;walk_nrm;refine on ?_;refine iI λτ=>?_;refine cD ?_;exact⟨rfl,.tuple #[.bool aw,aq af 262],jT,aw,262,rfl,h2,S.trans _ _ _ HK1.out K2⟩
end
def uz(ok:Bool)(N E:Int)(iv:ay):Array ay:=#[aq af 0,aq af 0,aq af 0,.bool ok,aq af N,aq af 0,aq af E,iv,aD ah 0 0]
noncomputable def NG:Code:=(f181.body).getD .skip
noncomputable def G8:Code:=NG.r.r
inductive KI(ab:Nat):Act->Prop
 |mk (u0 u1 u2 u3 u4 u5 u7 u8 u9 sK nW nX mU mA mB u16 lK lL lM lN mV mX u23 u24 mY u26 lO u28 lQ lR mC u32 u33 mD mE mF mG mZ m9 nV oU oV pU u44 pV oX oY oZ o6 o7 o8 o9 sH sI ub ud wE wG wH wI wJ wK wL u64 wM wN D5 D6 D7 AG AH AJ:ay):KI ab {tmps:=#[u0,u1,u2,u3,u4,u5,aI (ae ⟨ab,0,ah⟩),u7,u8,u9,sK,nW,nX,mU,mA,mB,u16,lK,lL,lM,lN,mV,mX,u23,u24,mY,u26,lO,u28,lQ,lR,mC,u32,u33,mD,mE,mF,mG,mZ,m9,nV,oU,oV,pU,u44,pV,oX,oY,oZ,o6,o7,o8,o9,sH,sI,ub,ud,wE,wG,wH,wI,wJ,wK,wL,u64,wM,wN,D5,D6,D7,AG,AH,AJ],defers:=[]}
section
variable{n:Nat}{main:Bool}{Stop:ι->aB->List aB->aj->Prop}{i:ι}{w:aj}
structure uA(b:Nat)(c:Array ay)(e:bq)(w w':aj):Prop where
 at_:w'.heap[b]? =ae (aK c e (0,0))
 off:∀y,y≠b->w'.heap[y]? =w.heap[y]?
 size:w'.heap.size=w.heap.size
theorem uA.set{c:Array ay}{w:aj}(h:uA b c e w w')(o:Nat)(v:ay):uA b (c.setIfInBounds o v) e w (w'.setCell ⟨b,o,ah⟩ v):=⟨aH h.at_ v,λy hy=>(az hy v).trans (h.off y hy),by rw[←h.size];simp[fF]⟩
def lT.Ans(S:lT kC (cI F b c lo n) main cs Jm Stop)(w:aj)(i':ι)(r:ay)(w':aj):Prop:=∃a iv,r=.agg (uz a.ok a.n a.err iv)/\a.m=0/\a.pairs=[]/\S.At i' (.ret a) w'/\S.Keep w w'/\uw b c w.heap.size iv a.ints w'
theorem aax(S:lT kC (cI F b c lo n) main cs Jm Stop){l:List Int}(hA:KI ab a)(hab:w.heap[ab]? =ae (aK (uz aw N E iv) 48 (0,0)))(CO:w0.heap.size<=ab)(nf:¬cU b c w ab)(h0:∃i0 p0,S.At i0 p0 w0)(K:S.Keep w0 w)(h:S.At i (.ret (yb E N l)) w)(hi:uw b c w0.heap.size iv l w)(hne:∀g,iv.ownBlock=ae g->g≠ab):
  wpM aC main cs Jm Stop S.U 181 G8 (bodyPostM aC f181 (S.Ans w0)) i a w:=by
 have hcs:=S.hcs;obtain⟨sa,sn,sc,rfl⟩:∃sa sn sc,iv=aD sa sn sc:=by
  rcases hi.1.2 with⟨h,_⟩|⟨g,cap,cur,h,_⟩
  .exact⟨_,_,_,h⟩
  .exact⟨_,_,_,h⟩
 have hcell:∀o,w.cell? ⟨ab,o,ah⟩=(uz aw N E (aD sa sn sc))[o]? :=λo=>ax hab o;have c0:=hcell 0;have c1:=hcell 1;have c2:=hcell 2;have c3:=hcell 3;have c4:=hcell 4;have c5:=hcell 5;have c6:=hcell 6;have c7:=hcell 7;have c8:=hcell 8;have z:∀o,w.frozen? ⟨ab,o,ah⟩=aw:=λo=>aM hab o (bQ _);clear hcell;simp[uz]at c0 c1 c2 c3 c4 c5 c6 c7 c8;have Hab:=aA hab;have Hnf:=aA nf;have H:=aA h;have Hi:=aA hi;have HK:=aA K;clear hab nf h hi K;cases hA;generalize hQ:bodyPostM aC f181 (S.Ans w0)=Q;simp only[G8,NG,f181,Code.l,Code.r,cN];iterate 2
  refine iI λτ=>?_
 refine cD ?_;subst hQ;have O:=((((((((((⟨Hab.out,λ_ _=>rfl,rfl⟩:uA ab _ _ w w).set 3 (.bool (E==0))).set 0 (aq af 0)).set 1 (aq af 0)).set 2 (aq af 0)).set 3 (.bool (E==0))).set 4 (aq af N)).set 5 (aq af 0)).set 6 (aq af E)).set 7 (aD sa sn sc)).set 8 (aD ah 0 0);simp only[uz,oF,sS,uX]at O;generalize fF _ _ _=w' at*;have O:uA ab (uz (E==0) N E (aD sa sn sc)) 48 w w':=O;clear c0 c1 c2 c3 c4 c5 c6 c7 c8 z;have hcell:∀o,w'.cell? ⟨ab,o,ah⟩=(uz (E==0) N E (aD sa sn sc))[o]? :=λo=>ax O.at_ o;obtain⟨i0,p0,h0⟩:=h0;obtain⟨h1,K1,hF⟩:=S.fresh _ _ _ _ _ _ w' h0 H.out HK.out (by rw[O.size];exact bJ _) (λy hy hne=>by
  by_cases e:y=ab
  .subst e;exact⟨CO,Hnf.out⟩
  .exact aT (O.off y e) hne)
 refine⟨rfl,.agg (uz (E==0) N E (aD sa sn sc)),?_,yb E N l,aD sa sn sc,?_,rfl,rfl,h1,K1,row_keep Hi.out.1 λg hg=>O.off g (hne g hg),λg hg hf=>Hi.out.2 g hg ((hF g).1 hf)⟩
 .have e0:=hcell 0;have e1:=hcell 1;have e2:=hcell 2;have e3:=hcell 3;have e4:=hcell 4;have e5:=hcell 5;have e6:=hcell 6;have e7:=hcell 7;have e8:=hcell 8;simp[uz]at e0 e1 e2 e3 e4 e5 e6 e7 e8;simp[eL,f181,go_sem,e0,e1,e2,e3,e4,e5,e6,e7,e8,uz]
 .have:(E==0)=decide (E=0):=by by_cases e:E=0<;>simp[e]
  rw[this];rfl
end
def PK(n:Nat)(es:List cT):Prop:=∀k,k<es.length->0<=(es[k]!).c/\(es[k]!).c<n/\0<=(es[k]!).n/\(es[k]!).n<=1048575
inductive aay(p q r g cap m k:Nat)(lv:ay):Act->Prop
 |mk (u3 u4 u6 u7 u8 nX mU mA mB u16 lK lL lM lN mV mX u23 u24 mY u26 lO u28 lQ lR mC u32 u33 mD mE mF mG mZ m9 nV:ay):aay p q r g cap m k lv {tmps:=#[aI (ae ⟨p,0,ah⟩),aI (ae ⟨q,0,ah⟩),aI (ae ⟨r,0,ah⟩),u3,u4,lv,u6,u7,u8,aD (ae ⟨g,0,ah⟩) m cap,aq af m,aq af k,nX,mU,mA,mB,u16,lK,lL,lM,lN,mV,mX,u23,u24,mY,u26,lO,u28,lQ,lR,mC,u32,u33,mD,mE,mF,mG,mZ,m9,nV],defers:=[]}
section
variable{n:Nat}{main:Bool}{Stop:ι->aB->List aB->aj->Prop}
structure FB(S:lT α (cI F b c lo n) main cs Jm Stop)(w0:aj)(p q r g cap:Nat)(es:List cT)(w:aj):Prop where
 at0:∃i0 p0,S.At i0 p0 w0
 lo:lo<=w0.heap.size
 keep:S.Keep w0 w
 ge:w0.heap.size<=p/\w0.heap.size<=q/\w0.heap.size<=r/\w0.heap.size<=g
 hp:∃e,w.heap[p]? =ae (aK #[aD (ae ⟨g,0,ah⟩) es.length cap] e (0,0))
 hq:∃e,w.heap[q]? =ae (aK #[aI (ae ⟨b,0,ah⟩)] e (0,0))
 hr:∃e,w.heap[r]? =ae (aK #[.pointer S.wv] e (0,0))
 hg:∃cb e f,w.heap[g]? =ae (aK cb e f)
 ent:fB g 0 es w
 nf:¬cU b c w p/\¬cU b c w q/\¬cU b c w r/\¬cU b c w g
structure RQ(S:lT α (cI F b c lo n) main cs Jm Stop)(w0:aj)(B p q r g cap:Nat)(es:List cT)(pre:List fC)(lv:ay)(w:aj):Prop where
 box:FB S w0 p q r g cap es w
 hB:w0.heap.size<=B/\B<=w.heap.size/\p<B/\q<B/\r<B/\g<B
 own:w.ownsRow B 121 3 lv pre.length (pre.flatMap fD)
 nfl:∀g',lv.ownBlock=ae g'->¬cU b c w g'
 bd:∀e∈pre,e.Ok n
variable{S:lT α (cI F b c lo n) main cs Jm Stop}{w:aj}{p q r g cap:Nat}{es:List cT}{pre:List fC}{lv:ay}
theorem FB.step(X:FB S w0 p q r g cap es w)(K:S.Keep w w'):FB S w0 p q r g cap es w':=by obtain⟨i0,p0,h0⟩:=X.at0;obtain⟨ep,hp⟩:=X.hp;obtain⟨eq,hq⟩:=X.hq;obtain⟨er,hr⟩:=X.hr;obtain⟨cb,eg,fg,hg⟩:=X.hg;obtain⟨a1,a2⟩:=S.same _ _ _ _ K hp bu X.nf.1 (S.new _ _ _ _ h0 X.ge.1);obtain⟨b1,b2⟩:=S.same _ _ _ _ K hq bu X.nf.2.1 (S.new _ _ _ _ h0 X.ge.2.1);obtain⟨c1,c2⟩:=S.same _ _ _ _ K hr bu X.nf.2.2.1 (S.new _ _ _ _ h0 X.ge.2.2.1);obtain⟨d1,d2⟩:=S.same _ _ _ _ K hg bu X.nf.2.2.2 (S.new _ _ _ _ h0 X.ge.2.2.2);exact⟨⟨i0,p0,h0⟩,X.lo,S.trans _ _ _ X.keep K,X.ge,⟨ep,a1⟩,⟨eq,b1⟩,⟨er,c1⟩,⟨_,_,_,d1⟩,X.ent.of_block (by rw[d1,hg]),a2,b2,c2,d2⟩
theorem RQ.step(X:RQ S w0 B p q r g cap es pre lv w)(K:S.Keep w w'):RQ S w0 B p q r g cap es pre lv w':=by
 obtain⟨i0,p0,h0⟩:=X.box.at0;have key:∀g',lv.ownBlock=ae g'->w'.heap[g']? =w.heap[g']?/\¬cU b c w' g':=λg' hg=>by obtain⟨cur,hc⟩:=dV X.own hg;have:=(X.own.lt g' hg).1;obtain⟨a1,a2⟩:=S.same _ _ _ _ K hc bu (X.nfl g' hg) (S.new _ _ _ _ h0 (by have:=X.hB.1;omega));exact⟨by rw[a1,hc],a2⟩
 exact⟨X.box.step K,⟨X.hB.1,by have:=X.hB.2.1;have:=S.size _ _ K;omega,X.hB.2.2⟩,row_keep X.own λg' hg=>(key g' hg).1,λg' hg=>(key g' hg).2,X.bd⟩
theorem NH{e:cT}{l:List cT}:(tryChP F k pre (e::l)).bind bG=(iF F F e.c.toNat).bind λh=>if bV h≠e.o then bG (aw,264)else(tryChP F k (pre++[⟨e.c.toNat,h,e.n⟩]) l).bind bG:=by simp only[tryChP,Pr.bind_assoc,mM,Pr.bind]
structure adv(S:lT α (cI F b c lo n) main cs Jm Stop)(bG:Bool×Int->Pr JS α)(w0:aj)(B p q r g cap:Nat)(es:List cT)(m:Nat)(i':ι)(a':Act)(w':aj):Prop where
 ex:∃pre lv,m=es.length-pre.length/\pre.length<=es.length/\aay p q r g cap es.length pre.length lv a'/\S.At i' ((tryChP F S.num pre (es.drop pre.length)).bind bG) w'/\RQ S w0 B p q r g cap es pre lv w'
theorem G9(S:lT α (cI F b c lo n) main cs Jm Stop)(hn:n<=64)(w0:aj)(p q r g cap:Nat)(es:List cT)(h1e:1<=es.length/\es.length<=64)(hes:PK n es):
  CloSpec S 54 #[aI (ae ⟨p,0,ah⟩),aI (ae ⟨q,0,ah⟩),aI (ae ⟨r,0,ah⟩)] (tryChP F S.num [] es) id (λ_ _=>True) (FB S w0 p q r g cap es):=by
 intro i w bG X h;have hcs:=S.hcs;obtain⟨i0,p0,h0⟩:=X.at0;obtain⟨ep,hp⟩:=X.hp;obtain⟨eq,hq⟩:=X.hq;obtain⟨er,hr⟩:=X.hr;obtain⟨cb,eg,fg,hg⟩:=X.hg;have hpl:=(bF.1 hp).1;have Gm:=(bF.1 hq).1;have Av:=(bF.1 hr).1;have NA:=(bF.1 hg).1;have cp:=cO hp 0;have X1:RQ S w0 w.heap.size p q r g cap es [] (aD ah 0 0) w:=⟨X,⟨by have:=X.ge;omega,bJ _,hpl,Gm,Av,NA⟩,pL _ _ _ _,λg hg=>(by cases hg),λx hx=>(by cases hx)⟩;have HX:=aA X1;have H1:=aA h;have Hes:=aA hes;have Hge:=aA X.ge;clear X1 h X hp hq hr hg hes;refine bL func54 rfl ?_;simp only[f54,cN];walk_nrm;iterate 2
  refine iI λτ=>?_
 refine Ai λτ=>?_;clear cp;refine cE (iV (adv S bG w0 w.heap.size p q r g cap es) (n:=es.length) ⟨[],_,rfl,bQ _,aay.mk ..,H1.out,HX.out⟩ ?_);rintro m i2 a2 w2 ⟨pre,lv,rfl,hle,hA,h2,X2⟩;have Iy:=X2.box;obtain⟨eq2,Qk⟩:=Iy.hq;obtain⟨Ze,hr2⟩:=Iy.hr;clear Iy;by_cases hlt:pre.length<es.length
 .obtain⟨k0,k1,k2,k3⟩:=Hes.out _ hlt;obtain⟨c0,c1,c2⟩:=X2.box.ent _ hlt;simp only[eB]at c0 c1 c2;rw[List.drop_eq_getElem_cons hlt,NH]at h2;have hz:es[pre.length]=es[pre.length]! :=(getElem!_pos es _ hlt).symm;rw[hz]at h2;clear hz;have hwr:IntKind.i64.wrap ((pre.length:Int) +1)=((pre.length+1:Nat):Int):=by rw[gq];omega
  generalize hzz:es[pre.length]! =z at*;obtain⟨zc,zo,zn⟩:=z;dsimp only at k0 k1 k2 k3 c0 c1 c2 h2;obtain⟨kc,rfl⟩:∃k:Nat,zc=k:=⟨zc.toNat,ai⟩;have hkc:kc<n:=ai;rw[Int.toNat_natCast]at h2;have H2:=aA h2;have oy:=aA X2;have Hle:=aA hle;have Hq2:=aA Qk;have Hr2:=aA hr2;clear h2 X2 HX H1 hzz Qk hr2;generalize hk:pre.length=k at*;have Hk:=aA hk;clear hk;cases hA;refine iI λτ=>?_;refine wpM_seq (bz (t:=au) (by simp[cS,hlt]) (eY ?_));try simp only[bE]
  refine wpM_seq (cE ?_);refine iI λτ=>?_;generalize hw3:World.alloc _ _=w3;have hs3:w3.heap.size=w2.heap.size+1:=by subst hw3;simp
  have ho3:∀y,y<w2.heap.size->w3.heap[y]? =w2.heap[y]? :=λy hy=>by subst hw3;simp only[←dt,dz];rw[aU ai]
  have he3:w3.heap[w2.heap.size]? =ae (aK #[aq af kc,aq af zo,aq af zn] 65 (0,0)):=by subst hw3;simp only[←dt,dz];rw[aX trivial]
  clear hw3;obtain⟨h3,K3,hF3⟩:=S.fresh _ _ _ _ _ _ w3 H2.out H2.out (S.refl w2) ai (λy hy hne=>aT (ho3 y hy) hne);have X3:=oy.out.step K3;have aas:¬cU b c w3 w2.heap.size:=λhf=>by have:=S.foot _ _ _ _ H2.out ((hF3 _).1 hf);omega
  have hnew:=S.new _ _ _ _ H2.out (bJ w2.heap.size);obtain⟨eq3,hq3⟩:=X3.box.hq;obtain⟨er3,hr3⟩:=X3.box.hr;have cq3:=cO hq3 0;have cr3:=cO hr3 0;have ce3:=cO he3 0;have H3:=aA h3;have IB:=aA X3;have He3:=aA he3;have Hn3:=aA aas;have zy:=aA hnew;clear h3 X3 he3 aas hnew hq3 hr3 hF3 K3 H2 oy Hq2 Hr2 c0 c1 c2 ho3;refine pS ?_;iterate 4
   refine gP ?_
  refine bA (args:=#[aI (ae ⟨b,0,ah⟩),.pointer S.wv,aq af kc]) rfl rfl rfl func45 rfl rfl dS (λb k fs h1 h2=>S.upush _ _ rfl rfl ⟨f54,by show prog.funcs[b.fn]? =_;rw[h1];exact func54⟩ h2) (qC S hn H3.out hkc) ?_;rintro i3 r3 w4 ⟨x,rfl,hx,h4,K4⟩;walk_nrm;refine gP ?_;refine on ?_;have X4:=IB.out.step K4;obtain⟨he4,ahS⟩:=S.same _ _ _ _ K4 He3.out bu Hn3.out zy.out;have ce4:=cO he4 0;have cf4:=cO he4 1;have cg4:=cO he4 2;have YU:w2.heap.size<w4.heap.size:=(bF.1 he4).1;have H4:=aA h4;have PH:=aA X4;obtain⟨hx0,hx1⟩:=hx;clear h4 X4 he4 ahS IB H3 cq3 cr3 ce3;generalize w2.heap.size=eb at*;refine wpM_seq ?_;refine wpM_seq (iX lA 4 41 [4] rfl aQ (λt=>qz) aQ rfl ?_);simp only[qA,qB];refine ov ?_;refine xT (args:=#[aq af x]) rfl func46 rfl rfl dS ⟨rfl,λt h=>by simp[S3,iq]at h⟩ (λτ k=>hvalue_word _ _ hx0 hx1) ?_;walk_nrm;refine ov ?_;refine ov ?_;refine ky ?_;refine gP ?_;refine on ?_;by_cases hxz:bV x=zo
  .have hq:((x / 1099511627776) !=zo)=aw:=(by simpa[bV]using hxz);have h5:S.At i3 (if bV x≠zo then bG (aw,264)else _) w4:=H4.out;rw[aU (by simpa using hxz)]at h5;have H5:=aA h5;clear h5 H4 hxz;refine bz (t:=aw) (by simp[cS,hq]) (eY ?_);try simp only[bE]
   obtain⟨ie,Dk,Ir,Iu,Iw⟩:=kq abu;have hown:=PH.out.own;rw[Hk.out]at hown;have G4:=aA hown;have HB:=aA PH.out.hB;clear hown;refine l3 hcs (λτ=>?_);go_wp2_with (at_builtin;go_loud (refine wpList_append_lies _ rfl (.tmp 25) (.tmp 32) 122 rfl w.heap.size 121 ie _ 3 24 underlying122 Dk Ir Iu Iw rfl aN lv k (pre.flatMap fD) rfl ((G4.out.alloc _)) ⟨w4.heap.size,0,ah⟩ 1 1 [aq af kc,aq af x,aq af zn] rfl rfl (pd (cs:=#[aq af kc,aq af x,aq af zn]) (t:=121) (fr:=(0,0)) (gN (w4.tp τ) _)) pI aN jk ai (show w.heap.size<=(w4.alloc _).heap.size by have:=HB.out.2.1;rw[cM];omega) (w4.heap.size+1) (show(w4.alloc _).heap.size=w4.heap.size+1 by rw[cM]) ?_;intro gg cap' w5 hown1 hgrow hat CH;have HF:=aA (And.intro hown1 (And.intro hgrow (And.intro hat CH)));clear hown1 hgrow hat CH))
   refine⟨w5,⟨rfl,rfl,rfl⟩,?_⟩;obtain⟨nO,hgrow,hat,aaz⟩:=HF.out;have X4:=PH.out;have hown:=G4.out;have hB:=HB.out;have hs5:w4.heap.size+1<=w5.heap.size:=(by have h1:=hgrow.size;have h2:(w4.alloc (aK #[aq af kc,aq af x,aq af zn] 121)).heap.size<=w5.heap.size:=h1;rw[cM]at h2;exact h2);have CJ:∀y,y<w4.heap.size->lv.ownBlock≠ae y->w5.heap[y]? =w4.heap[y]? :=λy hy hne=>(by rw[hgrow.block y (by show y< (w4.alloc _).heap.size;rw[cM];omega) (λe=>hne e.symm)];exact gT w4 _ _ hy);have RN:∀g',lv.ownBlock=ae g'->w.heap.size<=g':=λg' hg=>(hown.lt g' hg).1;obtain⟨h6,K6,VR⟩:=S.fresh _ _ _ _ _ _ w5 h0 H5.out X4.box.keep ai (λy hy hne=>by
    by_cases e1:lv.ownBlock=ae y
    .exact⟨by have:=RN y e1;omega,X4.nfl y e1⟩
    .exact aT (CJ y hy e1) hne)
   have KJ:∀g',w4.heap.size<=g'->¬cU b c w5 g':=λg' hg hf=>(by have:=S.foot _ _ _ _ H5.out ((VR g').1 hf);omega);have jd:∀y,y<w.heap.size->w5.heap[y]? =w4.heap[y]? :=λy hy=>CJ y ai (λe=>by have:=RN y e;omega);have hlen:(pre++[(⟨kc,x,zn⟩:fC)]).length=k+1:=(by simp[Hk.out]);have X5:RQ S w0 w.heap.size p q r g cap es (pre++[⟨kc,x,zn⟩]) (aD (ae ⟨gg,0,ah⟩) (k+1) cap') w5:=by
    obtain⟨ep4,Lv⟩:=X4.box.hp;obtain⟨eq4,hq4⟩:=X4.box.hq;obtain⟨er4,hr4⟩:=X4.box.hr;obtain⟨cg4,eg4,fg4,hg4⟩:=X4.box.hg;refine⟨⟨⟨i0,p0,h0⟩,X4.box.lo,K6,X4.box.ge,⟨_,by rw[jd p hpl];exact Lv⟩,⟨_,by rw[jd q Gm];exact hq4⟩,⟨_,by rw[jd r Av];exact hr4⟩,⟨_,_,_,by rw[jd g NA];exact hg4⟩,X4.box.ent.of_block (jd g NA),λhf=>X4.box.nf.1 ((VR _).1 hf),λhf=>X4.box.nf.2.1 ((VR _).1 hf),λhf=>X4.box.nf.2.2.1 ((VR _).1 hf),λhf=>X4.box.nf.2.2.2 ((VR _).1 hf)⟩,⟨hB.1,ai,hB.2.2⟩,?_,?_,?_⟩
    .rw[hlen,wY];exact nO
    .intro g' nA;obtain rfl:gg=g':=(by simpa[iE]using nA);rcases hat with e|e
     .exact λhf=>X4.nfl _ e ((VR _).1 hf)
     .exact KJ _ ai
    .intro y hy;rcases List.mem_append.1 hy with h|h
     .exact X4.bd y h
     .obtain rfl:y=⟨kc,x,zn⟩:=(by simpa using h);exact⟨hkc,hx0,hx1,k2,k3⟩
   have HX5:=aA X5;have H6:=aA h6;clear X5 h6 X4 hown nO hgrow hat PH H5 G4 HF VR KJ jd CJ K6;try simp only[gu,bE]
   refine l3 hcs (λτ=>?_);go_wp2;refine⟨_,bD _ _,?_⟩;refine⟨es.length- (pre++[(⟨kc,x,zn⟩:fC)]).length,by rw[hlen];omega,⟨pre++[⟨kc,x,zn⟩],_,rfl,by rw[hlen];omega,?_,?_,HX5.out⟩⟩
   .rw[hlen];exact aay.mk ..
   .rw[hlen];exact H6.out
  .have hq:((x / 1099511627776) !=zo)=au:=(by simpa[bV]using hxz);have h5:S.At i3 (if bV x≠zo then bG (aw,264)else _) w4:=H4.out;rw[aX (by simpa using hxz)]at h5;have H5:=aA h5;clear h5 H4 hxz;refine bz (t:=au) (by simp[cS,hq]) ?_;refine iI λτ=>?_;refine cD ?_;exact⟨rfl,.tuple #[.bool aw,aq af 264],jT,(aw,264),rfl,H5.out,PH.out.box,trivial⟩
 .have C0:pre.length=es.length:=ai;have hd:¬((es.length:Int) < (es.length:Int)):=ai;rw[C0]at hA;rw[C0,List.drop_length]at h2;have h2:S.At i2 ((doesP F S.num pre).bind bG) w2:=h2;obtain⟨gg,cap',hlv,hBg,ahT⟩:=X2.own.form ai;rw[C0]at hlv;have hown:=X2.own;have VJ:=X2.nfl;subst hlv;rw[C0]at hown;have VT:PE gg 0 pre w2:=λj v hv=>by have hj:=(eX.1 hv).1;rw[ja,C0]at hj;rw[eB,hown.cellAt j ai];exact hv
  have hgF:¬cU b c w2 gg:=VJ gg rfl;have hgb:gg≠b:=λe=>hgF (.inl e);have Da:=rC S hn (s:=gg) (o:=0) (cap:=cap') (es:=pre) h2 (by have:=X2.box.lo;have:=X2.hB;omega) VT hgb ahT X2.bd ai;rw[C0]at Da;have cq2:=cO Qk 0;have cr2:=cO hr2 0;have Hd:=aA Da;have oy:=aA X2;clear Da X2 h2 hown VT VJ H1 HX hlt hle Qk hr2;cases hA;simp only[Int.not_lt]at hd;refine iI λτ=>?_;refine wpM_seq (bz (t:=aw) dS (iU ?_));simp only[bE,gu,if_true];refine pS ?_;iterate 3
   refine gP ?_
  refine bA (args:=#[aI (ae ⟨b,0,ah⟩),.pointer S.wv,aD (ae ⟨gg,0,ah⟩) es.length cap']) rfl rfl rfl func47 rfl rfl dS (λb k fs h1 h2=>S.upush _ _ rfl rfl ⟨f54,by show prog.funcs[b.fn]? =_;rw[h1];exact func54⟩ h2) (Hd.out) ?_;rintro i3 r3 w3 ⟨ok,er',rfl,h3,K3⟩;walk_nrm;iterate 4
   refine gP ?_
  refine on ?_;refine cD ?_;exact⟨rfl,.tuple #[.bool ok,aq af er'],jT,(ok,er'),rfl,h3,(oy.out.step K3).box,trivial⟩
end
end
section
open Go Go.Conc Go.ConcN Go.RowKit
theorem vL:um aC lkL=au:=aQ
theorem NI:hZ.Plain aC:=by
 have h:Bq aC hZ lkL=au:=aQ;intro g hg;unfold Bq at h;rw[iT]at h;have h1:=h g (by simpa[hZ]using hg);obtain⟨fn,e1,_,e3⟩:=nY (c:=lkC) (x:=lkX) (f:=BC) vL g hg;rw[e1]at h1⊢;cases Ga:fn.body with
 |none=>rw[Ga]at e3;cases e3
 |some b=>simp only[Option.bind_some,Ga,cN]at h1⊢;exact h1
def KL(P:bh):Bool:=lkI.all (λg=>lkL.contains g&&BC.all λp=>p.1 !=g||(!abO.contains p&&(p.2==0||decide (8<=p.2)))) &&aeg.all λg=>match P.funcs[g]? with
 |some fn=>(match fn.results with
  |⟨[.tmp r]⟩=>BC.contains (g,r) &&abO.contains (g,r)
  |_=>aw)
 |none=>aw
theorem RS:hZ.abU aC:=by
 have h:KL aC=au:=aQ;unfold KL at h;rw[cR,iT,iT]at h;refine⟨λ_=>⟨rfl,rfl⟩,λg hg=>?_,λg hg=>?_⟩
 .have h1:=h.1 g (by simpa[hZ]using hg);rw[cR,iT]at h1;refine⟨h1.1,λt ht=>?_⟩;have DJ:BC.contains (g,t)=au:=ht;have h2:=h1.2 (g,t) (by simpa using DJ);simp only[bne_self_eq_false,Bool.false_or,cR,xu,qQ,beq_iff_eq,decide_eq_true_eq]at h2;exact h2
 .have h1:=h.2 g (by simpa[hZ]using hg);split at h1
  .rename_i fn e;split at h1
   .rename_i r e2;rw[cR]at h1;exact⟨fn,r,e,e2,h1.1,h1.2⟩
   .cases h1
  .cases h1
theorem RU(H:Nat->Prop):hZ.Rows H aC:=by
 refine⟨λg hg=>?_,λ_ h=>dB,RS⟩;have hg:g=81\/g=126\/g=152\/g=153\/g=162:=by simpa[hZ,lkX]using hg
 rcases hg with rfl|rfl|rfl|rfl|rfl
 .exact ng func81 aQ aQ aQ (e:=Extern.Atomic.storeT) aQ yy
 .exact ng func126 aQ aQ aQ (e:=Extern.Atomic.loadT (.int .i64)) aQ (xq _)
 .exact ng func152 aQ aQ aQ (e:=Extern.Atomic.casT (.int .i32)) aQ (AY _)
 .exact ng func153 aQ aQ aQ (e:=Extern.Atomic.loadT (.int .i32)) aQ (xq _)
 .exact ng func162 aQ aQ aQ (e:=Extern.Atomic.casT (.int .i64)) aQ (AY _)
theorem pP:Stat aC hZ:=⟨RU,nY (c:=lkC) (x:=lkX) (f:=BC) vL,Ag (c:=lkC) (x:=lkX) (f:=BC) aQ,NI⟩
theorem ni{f:Nat}(h:BC.all (λp=>p.1 !=f)=au)(tm:Array ay):p8 hZ f tm:=by intro t ht;have DJ:BC.contains (f,t)=au:=ht;rw[iT]at h;have:=h (f,t) (by simpa using DJ);simp at this
end
section
open Go Go.Conc Go.ConcN Go.RowKit
attribute [local go_sem] ba bf bH a8 bC bK aS aV fy dI fA bO
open Classical in
noncomputable def kE(n:Nat)(es:List cT):Int:=if∀k,k<es.length->wQ es n k then if∀k,k<es.length->(es[k]!).lies then 0 else 263 else 262
theorem xV.eq{es:List cT}{n:Nat}{w:aj}{e:Ending}(h:xV es n w e w'):e=.returned (aq af (kE n es)):=by
 unfold kE;split
 .rename_i h1;split
  .rename_i h2;exact h.ok h1 h2
  .rename_i h2;refine eV λhn=>h2 λk hk=>?_;refine eV λhb=>hn (h.value h1 k hk hb)
 .rename_i h1;refine eV λhn=>h1 λk hk=>?_;refine eV λhb=>hn (h.cell k hk hb)
theorem NJ{es:List cT}{n:Nat}(h:kE n es=0):PK n es:=by
 unfold kE at h;split at h
 .rename_i h1;split at h
  .rename_i h2;intro k hk;exact⟨(h1 k hk).1,(h1 k hk).2.1,(h2 k hk).2.1,(h2 k hk).2.2⟩
  .cases h
 .cases h
noncomputable def ma(F k n:Nat)(es:List cT):qM (Bool×Int):=if kE n es≠0 then .line (.ret (aw,kE n es))else againG id (tryChP F k [] es) F
theorem NK(s:Option aP)(n cap:Nat)(w:aj):b9 aC 50 #[aD s n cap] w λe w'=>e=.returned (.func (.func 92) #[] #[aI (ae ⟨w.heap.size,0,ah⟩)])/\w.alloc (aK #[aD s n cap] 66)=w':=by
 go_enter func50,ntmps50
 go_wp2;go_ret
 exact⟨rfl,rfl⟩
theorem afS(h1:VS hZ 21 13 (tm.getD 13 aO)=au)(h2:VS hZ 21 23 (tm.getD 23 aO)=au):p8 hZ 21 tm:=by
 intro t ht;have DJ:BC.contains (21,t)=au:=ht;have:t=13\/t=23:=by simpa[BC]using DJ
 rcases this with rfl|rfl
 .exact h1
 .exact h2
theorem yg:∀d∈([]:List Deferred),nv aC hZ d:=aJ
theorem Ev{w:aj}{p:aP}(h:w.cell? p=ae v):∃c e f,w.heap[p.block]? =ae (aK c e f):=by
 unfold fG at h;split at h
 .exact⟨_,_,_,by assumption⟩
 .cases h
section
variable{n:Nat}{main:Bool}{Stop:ι->aB->List aB->aj->Prop}{i:ι}{w:aj}
theorem change_any'(S:lT α (cI F b c lo n) main cs Jm Stop)(hn:1<=n/\n<=64){es:List cT}{s o cap:Nat}(h1e:1<=es.length/\es.length<=64)(hso:CX es.length)(he:fB s o es w)(hs:s<w.heap.size)
  (h:∀es':List cT,es'.Perm es->kr es' 0 es.length->S.At i ((ma F S.num n es').bind bG) w)(hlo:lo<=w.heap.size):
  CallsM aC main cs Jm Stop S.U i 21 #[aI (ae ⟨b,0,ah⟩),.pointer S.wv,aD (ae ⟨s,o,ah⟩) es.length cap] w (S.aao bG w):=by
 have hcs:=S.hcs;have H:=aA h;have He:=aA he;have Hso:=aA hso;clear h he hso;refine bL func21 rfl ?_;simp only[f21,cN];walk_nrm;refine iI λτ=>?_;generalize iA:World.alloc _ _=w1;obtain⟨a1,a2,a3,a4,a5⟩:=KG iA;clear iA;have cl:=cO a5 0;have hd:decide ((es.length:Int)<=64)=au:=dp;have A2:=aA a2;have A3:=aA a3;have A4:=aA a4;have A5:=aA a5;clear a2 a3 a4 a5;refine Ai λτ=>?_;refine bz (t:=au) dS ?_;refine wpM_lone pP hcs aQ yg (afS rfl rfl) (λτ=>?_);go_wp2_with fail
 refine(NK _ _ _ _).mono ?_;rintro e w1' ⟨rfl,rfl⟩;have Fh:=M0 (w.heap.size+3) s o cap es h1e.1 ai Hso.out ((w1.alloc (aK #[aD (ae ⟨s,o,ah⟩) es.length cap] 66)).tp τ) (UK w1 _ _ _ a1.symm) ((He.out.of_block (w':=w1) (A2.out s hs)).of_block (gT w1 _ _ ai)) (show s< (w1.alloc _).heap.size by rw[cM];omega);have abw:=aA Fh;clear Fh;go_wp2_with fail
 refine abw.out.mono ?_;rintro e w2 ⟨g,kN,es',rfl,hr,hg1,hg2,hp,hsd,dQ⟩;have hg1:(w1.alloc (aK #[aD (ae ⟨s,o,ah⟩) es.length cap] 66)).heap.size<=g:=hg1;rw[cM]at hg1;have hb2:∀y,y<w1.heap.size->w2.heap[y]? =w1.heap[y]? :=λy hy=>by rw[dQ.block y (show y< (w1.alloc _).heap.size by rw[cM];omega)];exact gT w1 _ _ hy
 have AO:=hb2 (w.heap.size+1+1) ai;rw[A5.out]at AO;have RM:=aH (o:=0) AO (aD (ae ⟨g,0,ah⟩) es.length kN);have c2:=cO AO 0;have f2:=aM AO 0 (bJ _);have hb3:∀y,y<w1.heap.size->y≠w.heap.size+1+1->(w2.setCell ⟨w.heap.size+1+1,0,ah⟩ (aD (ae ⟨g,0,ah⟩) es.length kN)).heap[y]? =w1.heap[y]? :=λy hy hne=>by rw[az hne];exact hb2 y hy
 have hs3:(w2.setCell ⟨w.heap.size+1+1,0,ah⟩ (aD (ae ⟨g,0,ah⟩) es.length kN)).heap.size=w2.heap.size:=jM;have r3:fB g 0 es' (w2.setCell ⟨w.heap.size+1+1,0,ah⟩ (aD (ae ⟨g,0,ah⟩) es.length kN)):=hr.ent.of_block (az ai _);have el:es'.length=es.length:=hp.length_eq;have h1:=H.out es' hp hsd;have HB3:=aA hb3;have HP3:=aA RM;have HS3:=aA hs3;have HR3:=aA r3;have H1:=aA h1;have El:=aA el;clear hb3 RM hs3 r3 h1 hb2 AO dQ hr abw hp hsd H He el;go_wp2_with fail
 refine⟨_,⟨rfl,rfl,rfl⟩,?_⟩;have hb3:=HB3.out;have RM:=HP3.out;have hs3:=HS3.out;have r3:=HR3.out;generalize w2.setCell ⟨w.heap.size+1+1,0,ah⟩ (aD (ae ⟨g,0,ah⟩) es.length kN)=w3 at*;have el:=El.out;obtain⟨s1,jE⟩:=S.rep _ _ _ H1.out;have afL:=(JRep.lt jE).1;have hdr:abl b c n w3:=(dr (w:=w) (by rw[hb3 b ai ai];exact A2.out b afL)).trans (JRep.hdr jE);have g3:g<w3.heap.size:=ai;have VU:∀τ,b9 aC 53 #[aI (ae ⟨b,0,ah⟩),aD (ae ⟨g,0,ah⟩) es.length kN] (w3.tp τ) (xV es' n (w3.tp τ)):=λτ=>by have:=Q0 b c n g kN es' (w3.tp τ) hdr r3 ai ai g3;rw[el]at this;exact this
 have x3:=hb3 w.heap.size ai ai;rw[A3.out]at x3;have y3:=hb3 (w.heap.size+1) ai ai;rw[A4.out]at y3;have cl3:=cO RM 0;have cx3:=cO x3 0;have Ay:w1.heap.size<=w3.heap.size:=ai;have hall:∀y,y<w.heap.size->w3.heap[y]? =w.heap[y]? :=λy hy=>by rw[hb3 y ai ai];exact A2.out y hy
 have HA:=aA hall;clear hall;have HR:=aA VU;have X3:=aA x3;have Y3:=aA y3;clear VU hdr jE x3 y3 HP3 HS3 HR3 HB3 c2 f2 el hs3 hb3 hg2;have P3:=aA RM;have R3:=aA r3;clear RM r3;try simp only[bE]
 refine wpM_seq (wpM_seq (wpM_lone pP hcs aQ yg (afS rfl rfl) (λτ=>?_)));go_wp2_with fail
 refine(HR.out τ).mono ?_;intro e w4 hend;obtain rfl:=hend.eq;have adw:=aA hend.below;clear hend;go_wp2_with fail
 refine⟨w4,⟨rfl,rfl,rfl⟩,?_⟩;try simp only[bE]
 have hb4:∀y,y<w3.heap.size->w4.heap[y]? =w3.heap[y]? :=λy hy=>adw.out.block y hy;have YU:w3.heap.size<=w4.heap.size:=adw.out.size;have p4:=hb4 (w.heap.size+1+1) ai;rw[P3.out]at p4;have x4:=hb4 w.heap.size ai;rw[X3.out]at x4;have y4:=hb4 (w.heap.size+1) ai;rw[Y3.out]at y4;have r4:fB g 0 es' w4:=R3.out.of_block (hb4 g g3);obtain⟨h5,K5,Y2⟩:=S.fresh _ _ _ _ _ _ w4 H1.out H1.out (S.refl w) ai (λy hy hne=>aT (by rw[hb4 y ai];exact HA.out y hy) hne);have py:∀y,w.heap.size<=y->¬cU b c w4 y:=λy hy hf=>by have:=S.foot _ _ _ _ H1.out ((Y2 y).1 hf);omega
 have cl4:=cO p4 0;have cx4:=cO x4 0;have cw4:=cO y4 0;have el:=El.out;have X4:FB S w (w.heap.size+1+1) w.heap.size (w.heap.size+1) g kN es' w4:=by obtain⟨cb,eg,fg,hg⟩:=Ev (r4 0 ai).1;exact⟨⟨_,_,H1.out⟩,hlo,K5,ai,⟨_,by rw[el];exact p4⟩,⟨_,x4⟩,⟨_,y4⟩,⟨_,_,_,hg⟩,r4,py _ ai,py _ ai,py _ ai,py _ ai⟩
 have PH:=aA X4;have H5:=aA h5;clear X4 h5 Y2 py p4 x4 y4 r4 hb4 adw P3 R3 X3 Y3 HA HR A2 A3 A4 A5 cl3 cx3 el H1 K5;by_cases her:kE n es'=0
 .have Jv:=NJ her;have h6:=H5.out;simp only[ma,her,ne_eq,not_true_eq_false,if_false]at h6;have H6:=aA h6;have ahU:=aA Jv;rw[her];clear h6 Jv H5;refine iI λτ=>?_;refine Cs ?_;try simp only[bE]
  refine pS ?_;refine gP ?_;refine bA (args:=#[.func (.func 54) #[] #[aI (ae ⟨w.heap.size+1+1,0,ah⟩),aI (ae ⟨w.heap.size,0,ah⟩),aI (ae ⟨w.heap.size+1,0,ah⟩)]]) rfl rfl rfl func43 rfl rfl dS (λb k fs h1 h2=>S.upush _ _ rfl rfl ⟨f21,by show prog.funcs[b.fn]? =_;rw[h1];exact func21⟩ h2) (wW S func54 rfl rfl (G9 S hn.2 w _ _ _ g kN es' (by rw[El.out];exact h1e) ahU.out) PH.out H6.out) ?_;rintro i2 r2 w5 ⟨⟨ok,er⟩,rfl,h2,X2,-⟩;have H2:=aA h2;have oy:=aA X2;clear h2 X2;walk_nrm;iterate 4
   refine gP ?_
  refine on ?_;refine cD ?_;exact⟨rfl,.tuple #[.bool ok,aq af er],jT,ok,er,rfl,H2.out,oy.out.keep⟩
 .have h6:=H5.out;simp only[ma,aX (show kE n es'≠0 from her),Pr.bind]at h6;generalize kE n es'=er at*;have hne:(er !=0)=au:=by simpa using her
  have H6:=aA h6;clear h6 H5 her;refine iI λτ=>?_;refine bz (t:=au) (by simp[cS,hne]) ?_;refine pS ?_;refine gP ?_;refine bA (args:=#[.pointer S.wv]) rfl rfl rfl func42 rfl rfl dS (λb k fs h1 h2=>S.upush _ _ rfl rfl ⟨f21,by show prog.funcs[b.fn]? =_;rw[h1];exact func21⟩ h2) (S.step _ _ _ H6.out) ?_;rintro i2 r w5 ⟨rfl,h2,K2⟩;walk_nrm;refine on ?_;refine iI λτ=>?_;refine cD ?_;exact⟨rfl,.tuple #[.bool aw,aq af er],jT,aw,er,rfl,h2,S.trans _ _ _ PH.out.keep K2⟩
end
end
section
open Go Go.RowKit Go.Shelf
attribute [local go_sem] Oper.semAt_some
def EntI(es:List cT)(w:aj)(pre:List (Ck es.length))(W:aj):Prop:=(∃v,Boxed W (w.heap.size+2) 66 v/\W.ownsRow w.heap.size 65 3 v pre.length (gZ (pre.map λk=>es[k.1]!)))/\Boxed W w.heap.size 66 (aD ah 0 0)/\Boxed W (w.heap.size+1) 4 (.bool aw)/\Below w.heap.size w W/\(∃c,Boxed W (w.heap.size+3) 46 c)/\∃c,Boxed W (w.heap.size+4) 3 c
def VV(es:List cT)(w:aj)(e:Ending)(w':aj):Prop:=Below w.heap.size w w'/\∃v,e=.returned (.tuple #[v,.bool au])/\w'.ownsRow w.heap.size 65 3 v es.length (gZ es)
def VW(a:Option aP)(m cap B:Nat)(x:ay):Act:={tmps:=#[aD a m cap,aO,aI (ae ⟨B,0,ah⟩),aI (ae ⟨B+1,0,ah⟩),aI (ae ⟨B+1+1,0,ah⟩),x,aD a m cap,.func (.func 184) #[] #[aI (ae ⟨B+1+1+1,0,ah⟩),aI (ae ⟨B+1+1+1+1,0,ah⟩)],x,aO,aO,aO,aO,aO,aO,aO,aO,aO,aO,aO,aO,aO,aO,aO,aO,aO,aO,aO,aO,aO,aO,aO,aO,aO,aO,aO,aO,aO,aO,aO],defers:=[]}
theorem NL(F:Fence)(n:Nat)(h2:F.fn 182)(h3:F.fn 183)(h4:F.fn 184)(hro:F.round=ah)(hn:5<=n)(es:List cT)(hl:es.length<=100)(b o m cap:Nat)(hm:m=2*es.length)(tC:m<=cap)(w:aj)
  (hp:qy (ae ⟨b,o,ah⟩) es w):
  CallsIn F n aC 182 #[aD (ae ⟨b,o,ah⟩) m cap] w (VV es w):=by
 have h1:1<=n:=ai;have Hm:=aA hm;clear hm;obtain⟨ie,Dk,Ir,Iu,Iw⟩:=kq MT;refine callsIn_of_wp_marks func182 rfl h2 ?_ hro;simp only[ntmps182,j9,fO,gK,Nat.reduceAdd,Nat.reduceSub,Array.replicate_succ,Array.replicate_zero,List.push_toArray,List.append_toArray,kU,jZ]
 gi_wp2
 refine(Vb F (n-1) h3 hro _ _ _ _).mono ?_;rintro e w' ⟨rfl,rfl⟩
 gi_wp2
 have bR:=Boxed.new w 66 (aD ah 0 0);obtain⟨W0,hW0⟩:∃W0,((((w.alloc (aK #[aD ah 0 0] 66)).alloc (aK #[.bool aw] 4)).alloc (aK #[aD ah 0 0] 66)).alloc (aK #[aD (ae ⟨b,o,ah⟩) m cap] 46)).alloc (aK #[aq af 2] 3)=W0:=⟨_,rfl⟩;have hs0:W0.heap.size=w.heap.size+5:=by rw[←hW0];simp
 have k0:∀y,y<w.heap.size->W0.heap[y]? =w.heap[y]? :=λy hy=>by rw[←hW0];simp only[←dt,dz,fN];iterate 5 rw[aU ai]
 have g0:W0.heap[w.heap.size]? =ae (aK #[aD ah 0 0] 66 (0,0)):=by
  rw[←hW0];simp only[←dt,dz,fN];iterate 4 rw[aU ai]
  rw[aX trivial]
 have g1:W0.heap[w.heap.size+1]? =ae (aK #[.bool aw] 4 (0,0)):=by
  rw[←hW0];simp only[←dt,dz,fN];iterate 3 rw[aU ai]
  rw[aX trivial]
 have g2:W0.heap[w.heap.size+2]? =ae (aK #[aD ah 0 0] 66 (0,0)):=by
  rw[←hW0];simp only[←dt,dz,fN];iterate 2 rw[aU ai]
  rw[aX trivial]
 have g3:W0.heap[w.heap.size+3]? =ae (aK #[aD (ae ⟨b,o,ah⟩) m cap] 46 (0,0)):=by rw[←hW0];simp only[←dt,dz,fN];rw[aU ai,aX trivial]
 have g4:W0.heap[w.heap.size+4]? =ae (aK #[aq af 2] 3 (0,0)):=by rw[←hW0];simp only[←dt,dz,fN];rw[aX trivial]
 have hb0:Below w.heap.size w W0:=by rw[←hW0];exact(((((gw _ w).alloc (bJ _) _).alloc aJ _).alloc dp _).alloc dp _).alloc dp _
 rw[hW0];clear hW0 bR;have hBs:=cO g3 0;have hBn:=cO g4 0;have B2:Boxed W0 (w.heap.size+2) 66 (aD ah 0 0):=g2;have B0:Boxed W0 w.heap.size 66 (aD ah 0 0):=g0;have B1:Boxed W0 (w.heap.size+1) 4 (.bool aw):=g1;refine wpIn_rangeFunc_ownH hro h1 (gf:=184) (lb:=#[aI (ae ⟨w.heap.size+3,0,ah⟩),aI (ae ⟨w.heap.size+4,0,ah⟩)]) rfl h4 (enters_of func184 aQ rfl)
  (chunk_stops F (n-1) h4 hro ai (w.heap.size+3) (w.heap.size+4) w.heap.size cap m es.length b o (by have:=Hm.out;omega) Hm.out tC W0 hBs hBn) (λh g=>Lz.trans h g) ?hkb (gw _ _) (λ_=>rfl)
  (EntI es w)
  (λ_ _ _=>False)
  ?hI (λ_ _ _ _ _ h _ _=>h.elim)
  ⟨⟨_,B2,pL _ _ _ _⟩,B0,B1,hb0,⟨_,g3⟩,⟨_,g4⟩⟩
  (λx a' _=>a'=VW (ae ⟨b,o,ah⟩) m cap w.heap.size (chV ⟨b,o,ah⟩ x.1))
  ?hAx
  ?assign ?body ?done ?stop
 case hkb=>
  intro W l' o o' h5 h6 h7 h8;refine⟨belowK_b (w:=w) (bJ _) W l' o o' ai h6 h7 h8,?_,?_⟩
  .exact rB W l' o' _ ai
  .exact rB W l' o' _ ai
 case hI=>
  rintro pre W W' row ⟨⟨v,hv,hr⟩,h5,h6,dQ,⟨c7,h7⟩,c8,h8⟩ hg hrow;have key:∀y c t,t≠65->W.heap[y]? =ae (aK #[c] t (0,0))->row≠ae y:=λy c t ht hy e=>by obtain⟨_,o,k1,k2⟩:=hrow y e;rw[hy]at k1;cases k1;cases k2
  refine⟨⟨v,hv.kept hg (bZ (key _ v _ aN hv)),hr.kept hg ?_⟩,h5.kept hg (bZ (key _ _ _ aN h5)),h6.kept hg (bZ (key _ _ _ aN h6)),dQ.grown hg (by have:=dQ.size;omega) (λk e=>by have:=(hrow k e).1;omega),⟨c7,h7.kept hg (bZ (key _ _ _ aN h7))⟩,c8,h8.kept hg (bZ (key _ _ _ aN h8))⟩;rcases hr.2 with⟨rfl,_⟩|⟨g,cap',cur,rfl,_,hgb,_⟩
  .exact .inl rfl
  .refine .inr (λe=>?_);obtain⟨_,o,k1,k2⟩:=hrow g e.symm;rw[hgb]at k1;cases k1;cases k2
 case hAx=>exact λ_ _ _ _ _ _ h _ _=>h
 case assign=>
  rintro l' pre x W K hi hK;unfold chV at*
  gi_wp2
  refine hK _ _ ((KeepsOthers.refl _).from _) (Lz.refl _) hi ?_;kernel_rfl
 case body=>
  rintro l' pre ⟨k,hk⟩ a' W hl' ⟨r,hr⟩ ⟨⟨v,hv,hrow⟩,h5,h6,dQ,⟨c7,h7⟩,c8,h8⟩ rfl hlt;obtain⟨b',o',e0,c0,c1,c2,c3⟩:=hp k es[k] (eQ hk);obtain⟨rfl,rfl⟩:b=b'/\o=o':=by simpa using e0
  have cW:∀x v,w.cell? ⟨b,x,ah⟩=ae v->W.cell? ⟨b,x,ah⟩=ae v:=λx v h=>(dQ.cell (p:=⟨b,x,ah⟩) (ez w _ h)).trans h;have c0:=cW _ _ c0;have c1:=cW _ _ c1;have c2:=cW _ _ c2;have c3:=cW _ _ c3;have hBW:=dQ.size;have ho:∀x:Nat,o+2*(2*x)=o+2*x*2:=λx=>ai;rw[ho]at c0 c1 c2 c3;refine wpIn_block (wpIn_seq (wpIn_seq ?_));refine acW (b:=b) (off:=o+2*k*2) (p0:=es[k].c) (q0:=es[k].c) rfl rfl c0 c2 ?_;obtain⟨_,_,_,afT,UU⟩:=uh abn;generalize IA:AP 14 ds4 (uW b (o+2*k*2) es[k].c es[k].c) (VW (ae ⟨b,o,ah⟩) m cap w.heap.size (chV ⟨b,o,ah⟩ k)).tmps=A4;have s4:A4.size=40:=by rw[←IA,Fl];rfl
  have g22:A4[22]? =ae (.bool (es[k].c !=es[k].c)):=by rw[←IA];exact Pf (ds:=ds4) (i:=13) (s:=22) aN rfl afT (iR (by decide:22<40) (Nat.le_of_eq rfl))
  have g4:A4[4]? =ae (aI (ae ⟨w.heap.size+2,0,ah⟩)):=by rw[←IA,CZ (λj hj e=>by unfold ds4 at e;rw[aX hj]at e;have:=bj e;omega)];rfl
  have g5:A4[5]? =ae (aD (ae ⟨b,o+2*k*2,ah⟩) 2 2):=by rw[←IA,CZ (λj hj e=>by unfold ds4 at e;rw[aX hj]at e;have:=bj e;omega)];rfl
  have gd:∀(i:Nat) v,A4[i]? =ae v->A4.getD i aO=v:=λi v h=>by rw[dO,h];rfl
  clear IA afT UU;refine wpIn_cond_false (by show A4.getD 22 aO=_;rw[gd _ _ g22];simp) (wpIn_skip ?_);refine acX (k:=pre.length) (base:=w.heap.size) (v0:=v) (b:=b) (off:=o+2*k*2) (bx:=w.heap.size+2) (p0:=es[k].c) (p1:=es[k].o) (q1:=es[k].n) s4 (gd _ _ g4) (gd _ _ g5) c0 c1 c3 hv hrow ai hBW (bZ (hv.not_row aN hrow)) ?_;intro g hr6 hg6;have hvd:Boxed W.drew (w.heap.size+2) 66 v:=hv;have hrd:W.drew.ownsRow w.heap.size 65 3 v pre.length (gZ (pre.map λk=>es[k.1]!)):=hrow;obtain⟨_,hv2,hr2,hk2,hb2⟩:=hvd.appended aN hrd hBW ai hr6 hg6;have same:∀y c t,t≠65->y≠w.heap.size+2->Boxed W y t c->(g.w.setCell ⟨w.heap.size+2,0,ah⟩ g.v).heap[y]? =W.heap[y]? :=λy c t ht hy h=>by have h':Boxed W.drew y t c:=h;rw[az hy,show g.w.heap[y]? =_ from((h'.alloc _).kept hg6 (h'.not_row ht hrd)),show W.heap[y]? =_ from h]
  have s5:=same _ _ _ aN ai h5;have s6:=same _ _ _ aN ai h6;have s7:=same _ _ _ aN ai h7;have s8:=same _ _ _ aN ai h8;have hb3:=((gw w.heap.size W).drew).trans hb2;refine⟨((KeepsOthers.drew W).trans hk2).from _,⟨hb3,s7,s8⟩,⟨_,hv2,?_⟩,s5.trans h5,s6.trans h6,dQ.trans hb3,⟨c7,s7.trans h7⟩,c8,s8.trans h8⟩;rw[vE,vD];simpa[gZ,hk]using hr2
 case done=>
  rintro D ys W hD rfl ⟨⟨v,hv,hrow⟩,h5,h6,dQ,_,_⟩ hK;obtain⟨sa,sn,sc,rfl⟩:∃sa sn sc,v=aD sa sn sc:=by
   rcases hrow.2 with⟨h,_⟩|⟨g,cap,cur,h,_⟩
   .exact⟨_,_,_,h⟩
   .exact⟨_,_,_,h⟩
  have hc1:=hv.cell;have hc2:=h5.cell;have hf2:=h5.frozen;have hc3:=h6.cell;have hf3:=h6.frozen;have e2:∀u,(W.setCell ⟨w.heap.size,0,ah⟩ u).cell? ⟨w.heap.size+1,0,ah⟩=ae (.bool aw):=λu=>(h6.other ai u).cell;have e3:∀u,(W.setCell ⟨w.heap.size,0,ah⟩ u).frozen? ⟨w.heap.size+1,0,ah⟩=aw:=λu=>(h6.other ai u).frozen;have uU:=aA hrow;have jm:=aA dQ;have HK:=aA hK;clear hrow dQ hK
  gi_wp2
  have b2:Boxed ((W.setCell ⟨w.heap.size,0,ah⟩ (aD sa sn sc)).setCell ⟨w.heap.size+1,0,ah⟩ (.bool au)) w.heap.size 66 (aD sa sn sc):=(h5.set _).other ai _;have b3:Boxed ((W.setCell ⟨w.heap.size,0,ah⟩ (aD sa sn sc)).setCell ⟨w.heap.size+1,0,ah⟩ (.bool au)) (w.heap.size+1) 4 (.bool au):=(h6.other ai _).set _;have hK2:((W.setCell ⟨w.heap.size,0,ah⟩ (aD sa sn sc)).setCell ⟨w.heap.size+1,0,ah⟩ (.bool au)).heap[D]? =ae (.deferred (ae [])):=by rw[az ai,az ai];exact HK.out
  have hb2:Below w.heap.size w ((W.setCell ⟨w.heap.size,0,ah⟩ (aD sa sn sc)).setCell ⟨w.heap.size+1,0,ah⟩ (.bool au)):=(jm.out.setCell (bJ _) _).setCell (Nat.le_succ _) _;have hr2:((W.setCell ⟨w.heap.size,0,ah⟩ (aD sa sn sc)).setCell ⟨w.heap.size+1,0,ah⟩ (.bool au)).ownsRow w.heap.size 65 3 (aD sa sn sc) es.length (gZ es):=by have h1:=uU.out;rw[Pn _ _ (bJ _),aaa _ es rfl _ (bJ _),List.take_length]at h1;have n2:=h5.not_row aN h1;have n3:=h6.not_row aN h1;refine row_keep h1 λg hg=>?_;rw[az (λe=>n3 (by rw[hg,e])),az (λe=>n2 (by rw[hg,e]))]
  generalize ((W.setCell ⟨w.heap.size,0,ah⟩ (aD sa sn sc)).setCell ⟨w.heap.size+1,0,ah⟩ (.bool au))=W2 at*;refine⟨aJ,.inl ⟨_,_,rfl,run_takeDeferred hK2,?_⟩⟩;have c2:=(show Boxed (W2.putObj D (.deferred ah)) w.heap.size _ _ from(rB W2 D _ _ ai).trans b2).cell;have c3:=(show Boxed (W2.putObj D (.deferred ah)) (w.heap.size+1) _ _ from(rB W2 D _ _ ai).trans b3).cell;refine⟨.tuple #[aD sa sn sc,.bool au],by simp[eL,go_sem,c2,c3],hb2.trans (belowK_b (w:=w) (bJ _) W2 D _ _ ai hK2 rfl rfl),_,rfl,ownsRow_putObj hr2 _ hK2 rfl⟩
 case stop=>rintro D c pre W _ _ h _;exact h.elim
theorem entries_any(es:List cT)(hl:es.length<=100)(b o m cap:Nat)(hm:m=2*es.length)(tC:m<=cap)(w:aj)(hp:qy (ae ⟨b,o,ah⟩) es w):b9 aC 182 #[aD (ae ⟨b,o,ah⟩) m cap] w (VV es w):=callsIn_wide.1 (NL Fence.wide 5 trivial trivial trivial rfl ai es hl b o m cap hm tC w hp)
end
section
open Go Go.Conc Go.ConcN Go.RowKit
attribute [local go_sem] ba bf bH a8 bC bK aS aV fy dI fA bO
theorem KM{w:aj}(h:(w.alloc o1).alloc o2=w1):w1.heap.size=w.heap.size+2/\(∀b,b<w.heap.size->w1.heap[b]? =w.heap[b]?)/\w1.heap[w.heap.size]? =ae o1/\w1.heap[w.heap.size+1]? =ae o2:=by
 subst h;refine⟨aJ,λb hb=>?_,?_,?_⟩ <;>simp only[←dt,dz,fN]
 .rw[aU ai,aU ai]
 .rw[aU ai,aX trivial]
 .rw[aX trivial]
theorem wZ(n:Nat)(A B:Int):(jI n A B).length=2*n:=by
 unfold jI;induction n with
 |zero=>rfl
 |succ n ih=>rw[tD,wY,mo,ih];simp;omega
theorem NM(n:Nat)(A B:Int)(j:Nat)(h:j<n):(jI n A B).getD (2*j) (0,0)=((j:Int),A)/\(jI n A B).getD (2*j+1) (0,0)=((j:Int),B):=by
 induction n with
 |zero=>omega
 |succ n ih=>
  have e:jI (n+1) A B=jI n A B++[((n:Int),A),((n:Int),B)]:=by unfold jI;rw[tD,wY];simp
  have hl:=wZ n A B;simp only[eF,e]at ih⊢;by_cases hj:j<n
  .rw[lz ai,lz ai];exact ih hj
  .obtain rfl:j=n:=ai;rw[nI ai,nI ai,hl,show 2*j-2*j=0 by omega,show 2*j+1-2*j=1 by omega];simp
theorem qF(n:Nat)(A B:Int):(ij n A B).length=n:=by simp[ij]
theorem FC(n:Nat)(A B:Int)(k:Nat)(h:k<n):(ij n A B)[k]? =ae ⟨(k:Int),A,B⟩:=by unfold ij;rw[nM,wT h];rfl
theorem KN(n:Nat)(A B:Int)(k:Nat)(h:k<n):(ij n A B)[k]! =⟨(k:Int),A,B⟩:=by rw[List.getElem!_eq_getElem?_getD,FC n A B k h];rfl
theorem KO{n:Nat}{B:Int}(hA:0<=A/\A<=1000)(hB:0<=B/\B<=1000):kE n (ij n A B)=0:=by
 have hk:∀k,k<n->key (ij n A B) k=k:=λk h=>by unfold key;rw[KN n A B k h]
 unfold kE;rw[qF,aX,aX]
 .intro k h;rw[KN n A B k h];exact⟨⟨hA.1,by show A<=_;omega⟩,hB.1,by show B<=_;omega⟩
 .intro k h;refine⟨by rw[hk k h];omega,by rw[hk k h];omega,λm hm=>?_⟩;rw[hk k h,hk m ai];omega
theorem NN{n:Nat}{B:Int}{es:List cT}(hp:es.Perm (ij n A B))(hs:kr es 0 (ij n A B).length):es=ij n A B:=by
 have hl:=hp.length_eq;refine List.Perm.eq_of_pairwise (le:=λa b=>a.c<=b.c) (λa b ha hb h1 h2=>?_) ?_ ?_ hp
 .have hx:∀e∈ij n A B,e=⟨e.c,A,B⟩:=λe he=>by unfold ij at he;obtain⟨k,_,rfl⟩:=pA.1 he;rfl
  rw[hx a (hp.subset ha),hx b hb,show a.c=b.c by omega]
 .rw[List.pairwise_iff_getElem];intro i j hi hj sD;have:=hs i j (bQ _) sD ai;simpa[key,hi,hj]using this
 .rw[List.pairwise_iff_getElem];intro i j hi hj sD;simp[ij];omega
section
variable{n:Nat}{main:Bool}{Stop:ι->aB->List aB->aj->Prop}{i:ι}{w:aj}
theorem NP(B:Nat)(w:aj):uw b c B (aD ah 0 0) [] w:=⟨pL _ _ _ _,λg hg=>by cases hg⟩
structure uB(S:lT kC (cI F b c lo n) main cs Jm Stop)(w0:aj)(ab:Nat)(w:aj):Prop where
 at0:∃i0 p0,S.At i0 p0 w0
 keep:S.Keep w0 w
 ge:w0.heap.size<=ab
 ent:w.heap[ab]? =ae (aK (uz aw 0 0 (aD ah 0 0)) 48 (0,0))
 nf:¬cU b c w ab
theorem uB.step{S:lT kC (cI F b c lo n) main cs Jm Stop}(X:uB S w0 ab w)(K:S.Keep w w'):uB S w0 ab w':=by obtain⟨i0,p0,h0⟩:=X.at0;obtain⟨h1,h2⟩:=S.same _ _ _ _ K X.ent bu X.nf (S.new _ _ _ _ h0 X.ge);exact⟨⟨i0,p0,h0⟩,S.trans _ _ _ X.keep K,X.ge,h1,h2⟩
theorem uB.fill{S:lT kC (cI F b c lo n) main cs Jm Stop}{l:List Int}(X:uB S w0 ab w)(O:uA ab (uz aw N E iv) 48 w w')(hA:KI ab a)(h:S.At i (.ret (yb E N l)) w)(hi:uw b c w0.heap.size iv l w)(hne:∀g,iv.ownBlock=ae g->g≠ab):
  wpM aC main cs Jm Stop S.U 181 G8 (bodyPostM aC f181 (S.Ans w0)) i a w':=by
 obtain⟨i0,p0,h0⟩:=X.at0;obtain⟨h1,K1,hF⟩:=S.fresh _ _ _ _ _ _ w' h0 h X.keep (by rw[O.size];exact bJ _) (λy hy hx=>by
  by_cases e:y=ab
  .subst e;exact⟨X.ge,X.nf⟩
  .exact aT (O.off y e) hx)
 exact aax S hA O.at_ X.ge (λhf=>X.nf ((hF _).1 hf)) ⟨i0,p0,h0⟩ K1 h1 ⟨row_keep hi.1 λg hg=>O.off g (hne g hg),λg hg hf=>hi.2 g hg ((hF g).1 hf)⟩ hne
theorem VX(S:lT kC (cI F b c lo n) main cs Jm Stop)(hn:1<=n/\n<=64){cc:bs}(hk:cc.kind=2\/cc.kind=4)(hok:pq n cc)(Lt:cc.kind=2->∃pb po pc,pv=aD (ae ⟨pb,po,ah⟩) (2*n) pc/\2*n<=pc/\qy (ae ⟨pb,po,ah⟩) (ij n cc.a cc.b) w)(h:S.At i (uk F n S.num cc) w)(hlo:lo<=w.heap.size):
  CallsM aC main cs Jm Stop S.U i 181 #[aI (ae ⟨b,0,ah⟩),.pointer S.wv,.agg #[aq af cc.kind,aq af cc.a,aq af cc.b,aq af cc.c,pv]] w (S.Ans w):=by
 have hcs:=S.hcs;refine bL func181 rfl ?_;generalize hQ:bodyPostM aC f181 (S.Ans w)=Q;simp only[f181,cN];walk_nrm;refine iI λτ=>?_;generalize iA:World.alloc _ _=w1;obtain⟨a1,a2,a3,a4⟩:=KM iA;clear iA;obtain⟨h1,K1,xa⟩:=S.fresh _ _ _ _ _ _ w1 h h (S.refl w) ai (λy hy hne=>aT (a2 y hy) hne);have X1:uB S w (w.heap.size+1) w1:=⟨⟨_,_,h⟩,K1,ai,a4,λhf=>by have:=S.foot _ _ _ _ h ((xa _).1 hf);omega⟩;have afU:lo<=w1.heap.size:=ai;have c0:=cO a3 0;have c1:=cO a3 1;have c2:=cO a3 2;have c4:=cO a3 4;have hsame:∀y,y<w.heap.size->w1.heap[y]? =w.heap[y]? :=a2;have afV:=aA hsame;have Hpv:=aA Lt;have Hok:=aA hok;clear hsame Lt hok;have c3:=cO a3 3;have hB:w.heap.size+1<w1.heap.size:=ai;have HX1:=aA X1;have H1:=aA h1;have HB:=aA hB;have Hlo:=aA afU;clear a1 a2 a3 a4 xa h1 K1 X1 h hB afU;obtain⟨k0,k1,k2,k3,kp⟩:=cc;simp only at c0 c1 c2 c3 hk H1;have hdone:=λ{i' w2 w' N E iv l a} X O hA h hi hne=>uB.fill (S:=S) (w0:=w) (ab:=w.heap.size+1) (i:=i') (w:=w2) (w':=w') (N:=N) (E:=E) (iv:=iv) (l:=l) (a:=a) X O hA h hi hne;simp only[hQ]at hdone;simp only[G8,NG,Code.l,Code.r,f181,cN]at hdone;have abx:=@hdone;clear hdone hQ;have VY:∀{i':ι} {w2:aj} {p:Pr JS kC},uB S w (w.heap.size+1) w2->(∀o,w2.cell? ⟨w.heap.size+1,o,ah⟩=(uz aw 0 0 (aD ah 0 0))[o]?)/\∀o,w2.frozen? ⟨w.heap.size+1,o,ah⟩=aw:=λX=>⟨λo=>ax X.ent o,λo=>aM X.ent o (bQ _)⟩;refine wpM_seq ?_;refine iI λτ=>?_;refine cE ?_;have b1:(k0==1)=aw:=by rcases hk with h|h<;>rw[h] <;>rfl
 by_cases e2:k0=2
 .subst e2;obtain⟨pb,po,pc,rfl,hpc,hpt⟩:=Hpv.out rfl;obtain⟨hA,hB,adx,ady⟩:=Hok.out rfl;simp only at hpt hA hB ady;have h2:S.At i ((ma F S.num n (ij n k1 k2)).bind λr=>.ret (yb r.2 0 [])) w1:=by have:=H1.out;unfold uk at this;rw[aU aJ,aU aJ,aU aJ,aX rfl]at this;simp only[ady,C1]at this;rw[ma,aU (by rw[KO hA hB];simp)];exact this
  have afW:qy (ae ⟨pb,po,ah⟩) (ij n k1 k2) w1:=λk e he=>by obtain⟨b',o',e0,q0,q1,q2,q3⟩:=hpt k e he;have hb:b'<w.heap.size:=ez w _ q0;have hc:∀x,w1.cell? ⟨b',x,ah⟩=w.cell? ⟨b',x,ah⟩:=λx=>dr (w:=w) (afV.out _ hb);exact⟨b',o',e0,by rw[hc];exact q0,by rw[hc];exact q1,by rw[hc];exact q2,by rw[hc];exact q3⟩
  have qx:=λτ=>entries_any (ij n k1 k2) (by rw[qF];omega) pb po (2*n) pc (by rw[qF]) hpc (w1.tp τ) afW;have RP:=aA qx;have H2:=aA h2;have ahV:=aA adx;clear h2 hk qx afW hpt ady hA hB adx H1 b1;refine wpM_seq (l3 hcs (λτ=>?_));go_wp2;refine px ?_;refine bz (t:=aw) dS ?_;simp only[iy,if_false];refine wpM_seq (l3 hcs (λτ=>?_));go_wp2;refine px ?_;refine ctx ?_;refine wpM_seq (wpM_lone pP hcs aQ yg (ni aQ _) (λτ=>?_));go_wp2_with fail
  refine(RP.out τ).mono ?_;rintro e w2 ⟨dQ,v,rfl,hrow⟩;have hlen:(ij n k1 k2).length=n:=qF n k1 k2;obtain⟨g,gc,rfl,hg1,hg2⟩:=hrow.form (by rw[hlen];exact hn.1);have her:xU g (ij n k1 k2) w2:=xW hrow;have hg1:w1.heap.size<=g:=hg1;have hb2:∀y,y<w1.heap.size->w2.heap[y]? =w1.heap[y]? :=λy hy=>dQ.block y hy;have nT:w1.heap.size<=w2.heap.size:=dQ.size;have Her:=aA her;have Hb2:=aA hb2;have Gs:=aA hlen;rw[hlen];clear hrow dQ her hb2 RP hlen;go_wp2_with fail
  refine⟨w2,⟨rfl,rfl,rfl⟩,?_⟩;try simp only[bE]
  obtain⟨h3,K2,hF2⟩:=S.fresh _ _ _ _ _ _ w2 H2.out H2.out (S.refl w1) nT (λy hy hne=>aT (Hb2.out y hy) hne);have hX2:=HX1.out.step K2;have H3:=aA h3;have oy:=aA hX2;clear h3 hX2 K2 hF2 c0 c1 c2 c3 c4;refine wpM_seq ?_;refine wpM_seq (l3 hcs (λτ=>?_));go_wp2;refine px ?_;refine Cs ?_;try simp only[bE]
  refine kD ?_;refine rg ?_;iterate 3
   refine gP ?_
  have hch:CallsM aC main cs Jm Stop S.U i 21 #[aI (ae ⟨b,0,ah⟩),.pointer S.wv,aD (ae ⟨g,0,ah⟩) n gc] w2 (S.aao (λr=>.ret (yb r.2 0 [])) w2):=by have h16:=ahV.out;have:=change_any' S hn (es:=ij n k1 k2) (s:=g) (o:=0) (cap:=gc) (bG:=λr=>.ret (yb r.2 0 [])) (w:=w2) (i:=i) (by rw[Gs.out];omega) (by rw[Gs.out];exact rA n ai) Her.out.ent hg2 (λes' h1 h2=>by rw[NN h1 h2];exact H3.out) (by have:=Hlo.out;omega);rw[Gs.out]at this;exact this
  have Hch:=aA hch;clear hch;refine bA (args:=#[aI (ae ⟨b,0,ah⟩),.pointer S.wv,aD (ae ⟨g,0,ah⟩) n gc]) rfl rfl rfl func21 rfl rfl dS (λb k fs h1 h2=>S.upush _ _ rfl rfl ⟨f181,by show prog.funcs[b.fn]? =_;rw[h1];exact func181⟩ h2) (Hch.out) ?_;rintro i3 r3 w3 ⟨ok,er,rfl,h4,K3⟩;have X3:=oy.out.step K3;obtain⟨hc,hz⟩:=VY (i':=i3) (p:=.ret (yb er 0 [])) X3;have d6:=hc 6;simp[uz]at d6;have O:=(⟨X3.ent,λ_ _=>rfl,rfl⟩:uA (w.heap.size+1) _ _ w3 w3).set 6 (aq af er);simp only[uz,oF,sS,uX]at O;have HO:=aA O;have H4:=aA h4;have IB:=aA X3;clear O h4 X3 hc;walk_nrm;iterate 5
   refine gP ?_
  refine mz ?_;simp only[gu,bE];exact abx IB.out HO.out (KI.mk ..) H4.out (NP _ _) (λg hg=>by cases hg)
 have b2:(k0==2)=aw:=by simpa using e2
 have e4:k0=4:=hk.resolve_left e2;have b3:(k0==3)=aw:=by rw[e4];rfl
 subst e4
 .have h2:S.At i ((vG F S.num n).bind λr=>.ret (yb r.2 0 r.1)) w1:=by have:=H1.out;unfold uk at this;rw[aU aJ,aU aJ,aX rfl]at this;exact this
  have H2:=aA h2;clear h2 hk e2 b1 b2 b3;iterate 3
   refine wpM_seq (l3 hcs (λτ=>?_));go_wp2;refine px ?_;refine bz (t:=aw) dS ?_;simp only[iy,if_false]
  refine wpM_seq (l3 hcs (λτ=>?_));go_wp2;refine px ?_;refine ctx ?_;refine kD ?_;refine rg ?_;refine gP ?_;refine gP ?_;refine bA (args:=#[aI (ae ⟨b,0,ah⟩),.pointer S.wv]) rfl rfl rfl func20 rfl rfl dS (λb k fs h1 h2=>S.upush _ _ rfl rfl ⟨f181,by show prog.funcs[b.fn]? =_;rw[h1];exact func181⟩ h2) (look_any' S hn H2.out Hlo.out) ?_;rintro i2 r2 w2 ⟨iv,er,l,rfl,h3,K2,hi⟩;obtain⟨sa,sn,sc,rfl⟩:∃sa sn sc,iv=aD sa sn sc:=by
   rcases hi.1.2 with⟨h,_⟩|⟨g,cap,cur,h,_⟩
   .exact⟨_,_,_,h⟩
   .exact⟨_,_,_,h⟩
  have X2:=HX1.out.step K2;obtain⟨hc,hz⟩:=VY (i':=i2) (p:=.ret (yb er 0 l)) X2;have d7:=hc 7;have d6:=hc 6;simp[uz]at d7 d6;have O:=((⟨X2.ent,λ_ _=>rfl,rfl⟩:uA (w.heap.size+1) _ _ w2 w2).set 7 (aD sa sn sc)).set 6 (aq af er);simp only[uz,oF,sS,uX]at O;have afX:∀g,(Value.slice sa sn sc).ownBlock=ae g->g≠w.heap.size+1:=λg hg=>by have:=(hi.1.lt g hg).1;have:=HB.out;omega
  have xb:uw b c w.heap.size (aD sa sn sc) l w2:=⟨⟨hi.1.1,hi.1.2.imp id λ⟨g',cap',cur,q1,q2,q3⟩=>⟨g',cap',cur,q1,by have:=HB.out;omega,q3⟩⟩,hi.2⟩;have HO:=aA O;have H3:=aA h3;have oy:=aA X2;have Hi:=aA xb;have ahW:=aA afX;clear O h3 X2 hc hi xb afX;walk_nrm;iterate 7
   refine gP ?_
  refine mz ?_;simp only[gu,bE];exact abx oy.out HO.out (KI.mk ..) H3.out Hi.out ahW.out
end
end
section
open Go Go.Conc Go.ConcN Go.RowKit
theorem NQ{c:Code}{w:aj}{Q:Exit->Act->aj->Prop}(h:c.wp aC (ue C) a w)(hC:∀a' w',C a' w'->Q .normal a' w'):c.wp aC Q a w:=Code.wp_mono (λe a' w' h=>by cases e<;>first|exact hC _ _ h|exact h.elim) h
section
variable{w wr wi wA w4 w5:aj}{wk tu:Option aP}{cc:cu}{lv lv' VZ RX:ay}{l:List bs}{c:bs}{jo:List ay}{o:Obj}
theorem stand_below(h:Below B w w1)(hB:w.heap.size<=B):nN w w1 e:=λg cur hg=>h.block g (iR (bF.1 hg).1 hB)
theorem aaA(hb:Below wr.heap.size wr wi)(hp:jo.length=(l.take j).length)(hrow:wi.ownsRow wr.heap.size 50 5 lv (l.take j).length (fL (l.take j) jo))(I9:∀(i:Nat) (c:bs) (pv:ay),(l.take j)[i]? =ae c->jo[i]? =ae pv->mN wi wr.heap.size pv c.pairs)
  (hc:l[j]? =ae c)(hbA:Below wi.heap.size wi wA)(h1:wA.grownBy w1 ah)(hpr:w1.ownsRow wr.heap.size 53 2 zY c.pairs.length (eZ c.pairs))(hdb:wi.heap.size<=ob)(h4:((w1.setCell ⟨ob,4,ah⟩ zY).alloc o).grownBy w4 lv.ownBlock)
  (hdt:∃cs,w1.heap[ob]? =ae (aK cs 50 (0,0)))
  (hown:w4.ownsRow wr.heap.size 50 5 lv' ((l.take j).length+1) (fL (l.take j) jo++dN c zY)):Below wr.heap.size wr w4/\ln w4 wr.heap.size lv' (l.take (j+1)):=by
 have hs1:=hb.size;have hs2:=hbA.size;have hs3:=h1.size;have U7:l.take (j+1)=l.take j++[c]:=by rw[List.take_add_one,hc];rfl
 have afY:∀g,lv.ownBlock=ae g->wr.heap.size<=g/\g<wi.heap.size:=hrow.lt;have hb1:Below wi.heap.size wi w1:=hbA.grown h1 hs2 λk hk=>J7;have hb2:Below wi.heap.size wi ((w1.setCell ⟨ob,4,ah⟩ zY).alloc o):=(hb1.setCell hdb _).alloc (by show wi.heap.size<=(w1.setCell _ _).heap.size;simp[fF];omega) _;have YU:=hb2.size;refine⟨(hb.trans (hb2.mono hs1)).grown h4 ai λg hg=>(afY g hg).1,?_⟩;have stP:nN wi w4 53:=λg cur hg=>by have hl:=(bF.1 hg).1;rw[h4.block g ai (λe=>?_),hb2.block g hl];obtain⟨cur',hc'⟩:=dV hrow e.symm;rw[hg]at hc';cases hc'
 have ahX:nN w1 w4 53:=λg cur hg=>by
  have hl:=(bF.1 hg).1;obtain⟨cs,hcs⟩:=hdt;have hne:g≠ob:=λe=>by rw[e,hcs]at hg;cases hg
  have hl2:g< (w1.setCell ⟨ob,4,ah⟩ zY).heap.size:=by simp[fF];exact hl
  rw[h4.block g (by rw[cM];omega) (λe=>?_),gT _ _ _ hl2,az hne];obtain⟨cur',hc'⟩:=dV hrow e.symm;rw[←hb1.block g (afY g e.symm).2,hg]at hc';cases hc'
 have hlen:(l.take (j+1)).length=(l.take j).length+1:=by rw[U7];simp
 refine⟨jo++[zY],by rw[hlen];simp[hp],?_,λi d pv hd Lt=>?_⟩
 .rw[hlen,U7,Et hp.symm];exact hown
 .rw[U7]at hd;rcases ji i (l.take j).length with hi|hi
  .rw[lz hi]at hd;rw[lz ai]at Lt;exact row_stand (I9 i d pv hd Lt) stP
  .rw[nI hi]at hd;rw[nI ai]at Lt;have e0:i- (l.take j).length=0:=by
    rcases mr (i- (l.take j).length)with h|h
    .exact h
    .rw[vz (by rw[List.length_singleton];exact h)]at hd;cases hd
   rw[e0]at hd;rw[hp,e0]at Lt;obtain rfl:c=d:=(by simpa using hd);obtain rfl:zY=pv:=(by simpa using Lt);exact row_stand hpr ahX
theorem cp_row(h:wr.ownsRow B e sz lv m xs)(h1:(wr.alloc oA).grownBy w1 ah):((w1.setCell ⟨wr.heap.size,4,ah⟩ zY).alloc o).ownsRow B e sz lv m xs:=by refine World.ownsRow.alloc (row_keep h λg hg=>?_) _;have hlt:=(h.lt g hg).2;rw[az ai,h1.block g (by rw[cM];omega) aJ,gT _ _ _ hlt]
theorem Ew(w:aj)(x:aP)(v:ay)(o:Obj):((w.setCell x v).alloc o).heap[w.heap.size]? =ae o:=by have:=gN (w.setCell x v) o;rwa [show(w.setCell x v).heap.size=w.heap.size by simp[fF]]at this
structure CpO(wk tu ha:Option aP)(wc tc hc:Nat)(un:Int)(cc:cu)(ob k:Nat)(w wr:aj)(VZ tv hv:ay)(oB:List ay):Prop where
 bel:Below w.heap.size w wr
 big:w.heap.size+2<=wr.heap.size
 c:wr.heap[w.heap.size]? =ae (aK (aW wk tu ha cc.work.length wc cc.turns.length tc cc.halt.length hc un) 25 (0,0))
 r:wr.heap[w.heap.size+1]? =ae vK
 ge:w.heap.size+2<=ob
 o:wr.heap[ob]? =ae (aK #[VZ,tv,hv,aq af un] 25 (0,0))
 rl:oB.length=k
 row:wr.ownsRow w.heap.size 51 1 VZ k oB
 rows:∀(q:Nat) (l:List bs) (rv:ay),q<k->cc.work[q]? =ae l->oB[q]? =ae rv->ln wr w.heap.size rv l
 dis:Apart oB
 tv:wr.ownsRow w.heap.size 3 1 tv cc.turns.length (gH cc.turns)
 hv:wr.ownsRow w.heap.size 3 1 hv cc.halt.length (gH cc.halt)
theorem V0{tv hv:ay}(O:CpO wk tu ha wc tc hc un cc ob k w wr VZ tv hv oB)(hl:cc.work[k]? =ae l)(hb:Below wr.heap.size wr wi)(hrow:ln wi wr.heap.size lv l)(hg:(wi.alloc o).grownBy w5 VZ.ownBlock)
  (hown:w5.ownsRow w.heap.size 51 1 RX (k+1) (oB++[lv])):CpO wk tu ha wc tc hc un cc ob (k+1) w (w5.setCell ⟨ob,0,ah⟩ RX) RX tv hv (oB++[lv]):=by
 have hs0:=O.bel.size;have hs1:=hb.size;have hol:=(bF.1 O.o).1;have hcl:=(bF.1 O.c).1;have Av:=(bF.1 O.r).1;have hs2:=hg.size;rw[cM]at hs2;have nO:∀g,g<wi.heap.size->VZ.ownBlock≠ae g->w5.heap[g]? =wi.heap[g]? :=λg h1 h2=>by rw[hg.block g (by rw[cM];omega) (λe=>h2 e.symm),gT _ _ _ h1]
 have aaB:∀{g:Nat} {cur:Array ay} {e:bq},wr.heap[g]? =ae (aK cur e (0,0))->e≠51->VZ.ownBlock≠ae g:=λh hne e=>by obtain⟨cur',hc'⟩:=dV O.row e;rw[h]at hc';cases hc';exact hne rfl
 have h5:∀{g:Nat} {cur:Array ay} {e:bq},wr.heap[g]? =ae (aK cur e (0,0))->e≠51->w5.heap[g]? =ae (aK cur e (0,0)):=λ{g cur e} h hne=>by have hlt:=(bF.1 h).1;rw[nO _ ai (aaB h hne),hb.block _ hlt,h]
 have mh:∀{g:Nat},g≠ob->(w5.setCell ⟨ob,0,ah⟩ RX).heap[g]? =w5.heap[g]? :=λh=>az h _;have sti:∀e,e≠51->e≠25->nN wi (w5.setCell ⟨ob,0,ah⟩ RX) e:=λe n1 n2 g cur h=>by
  have hlt:=(bF.1 h).1;have hne:g≠ob:=λe'=>by rw[e',hb.block _ hol,O.o]at h;cases h;exact n2 rfl
  rw[mh hne,nO g hlt (λe'=>?_)];obtain⟨cur',hc'⟩:=dV O.row e';rw[←hb.block g (O.row.lt g e').2,h]at hc';cases hc';exact n1 rfl
 have str:∀e,nN wr wi e:=λe=>stand_below hb (bJ _);have stt:∀e,e≠51->e≠25->nN wr (w5.setCell ⟨ob,0,ah⟩ RX) e:=λe n1 n2 g cur h=>by have h2:=str e g cur h;rw[h]at h2;rw[sti e n1 n2 g cur h2,h2,h]
 refine⟨(O.bel.trans ((hb.mono hs0).trans ⟨hg.os,hg.tape,hg.output,ai,λg NA=>nO g ai (λe=>by have:=(O.row.lt g e).1;omega)⟩)).setCell (by have:=O.ge;show w.heap.size<=ob;omega) _,?_,?_,?_,O.ge,?_,by simp[O.rl],?_,λq l' rv hq hl' Ex=>?_,λq q' rv Y4 x hqq h1 h2 h3 h4=>?_,row_stand O.tv (stt _ aN aN),row_stand O.hv (stt _ aN aN)⟩
 .have:=O.big;simp[fF];omega
 .rw[mh (by have:=O.ge;omega)];exact h5 O.c aN
 .rw[mh (by have:=O.ge;omega)];exact h5 O.r aN
 .exact aH (h5 O.o aN) _
 .refine row_keep hown λg hgo=>mh λe=>?_;obtain⟨cur',hc'⟩:=dV hown hgo;rw[e,h5 O.o aN]at hc';cases hc'
 .rcases ji q k with hqk|hqk
  .rw[lz (by rw[O.rl];exact hqk)]at Ex;exact(O.rows q l' rv hqk hl' Ex).stand (stt _ aN aN) (stt _ aN aN)
  .obtain rfl:q=k:=ai;rw[hl]at hl';obtain rfl:=bj hl';rw[nI (by rw[O.rl];exact bJ _),O.rl,Nat.sub_self]at Ex;obtain rfl:lv=rv:=(by simpa using Ex);exact(hrow.base hs0).stand (sti _ aN aN) (sti _ aN aN)
 .have hq':q'<=k:=by have:=(eX.1 h2).1;rw[mo,O.rl]at this;simp at this;omega
  rw[lz (by rw[O.rl];omega)]at h1;rcases ji q' k with hlt|CO
  .rw[lz (by rw[O.rl];exact hlt)]at h2;exact O.dis q q' rv Y4 x hqq h1 h2 h3 h4
  .obtain rfl:q'=k:=ai;rw[nI (by rw[O.rl];exact bJ _),O.rl,Nat.sub_self]at h2;obtain rfl:lv=Y4:=rW;have hkl:=(eX.1 hl).1;obtain⟨_,_,r1,_⟩:=O.rows q cc.work[q] rv hqq (eQ ai) h1;obtain⟨_,_,r2,_⟩:=hrow;have:=(r1.lt x h3).2;have:=(r2.lt x h4).1;omega
end
def aaC(cc:cu)(un:Int)(w:aj)(e:Ending)(w':aj):Prop:=∃wk tu ha wc tc hc,e=.returned (.agg (aW wk tu ha cc.work.length wc cc.turns.length tc cc.halt.length hc un))/\Below w.heap.size w w'/\
 AllNewD w' w.heap.size (aD wk cc.work.length wc) cc.work/\w'.ownsRow w.heap.size 3 1 (aD tu cc.turns.length tc) cc.turns.length (gH cc.turns)/\w'.ownsRow w.heap.size 3 1 (aD ha cc.halt.length hc) cc.halt.length (gH cc.halt)
theorem adz{w Wk:aj}{wk tu Y6 ta hha:Option aP}{Y7 tcc hcc:Nat}{cc:cu}{v0 v1 v2:ay}(O:CpO wk tu ha wc tc hc un cc ob cc.work.length w Wk (aD Y6 cc.work.length Y7) (aD ta cc.turns.length tcc) (aD hha cc.halt.length hcc) oB):
  let w':=(((Wk.setCell ⟨w.heap.size+1,0,ah⟩ v0).setCell ⟨w.heap.size+1,1,ah⟩ v1).setCell ⟨w.heap.size+1,2,ah⟩ v2).setCell ⟨w.heap.size+1,3,ah⟩ v3
  Below w.heap.size w w'/\AllNewD w' w.heap.size (aD Y6 cc.work.length Y7) cc.work/\w'.ownsRow w.heap.size 3 1 (aD ta cc.turns.length tcc) cc.turns.length (gH cc.turns)/\w'.ownsRow w.heap.size 3 1 (aD hha cc.halt.length hcc) cc.halt.length (gH cc.halt):=by
 intro w';have dA:∀y,y≠w.heap.size+1->w'.heap[y]? =Wk.heap[y]? :=λy hy=>by show((((Wk.setCell _ v0).setCell _ v1).setCell _ v2).setCell _ v3).heap[y]? =_;rw[az hy,az hy,az hy,az hy]
 have st:∀e,e≠25->nN Wk w' e:=λe he g cur h=>dA g λe'=>by rw[e',O.r]at h;cases h;exact he rfl
 refine⟨(((O.bel.setCell (by show _<=w.heap.size+1;omega) _).setCell (by show _<=w.heap.size+1;omega) _).setCell (by show _<=w.heap.size+1;omega) _).setCell (by show _<=w.heap.size+1;omega) _,?_,row_stand O.tv (st _ aN),row_stand O.hv (st _ aN)⟩;exact AllNewD.stand ⟨oB,⟨O.rl,O.row,λq l rv hq Ex=>O.rows q l rv (eX.1 hq).1 hq Ex⟩,O.dis⟩ (st _ aN) (st _ aN) (st _ aN)
theorem V2(wk tu ha:Option aP)(wc tc hc:Nat)(cc:cu)(un:Int)(w:aj)(hR:RowsIn w wk cc.work)(hT:j7 w tu cc.turns)(hH:j7 w ha cc.halt)(hn:cc.turns.length<=20000/\cc.halt.length<=1000)(hL:cc.work.length<=16/\∀l∈cc.work,l.length<=600/\∀c∈l,c.pairs.length<=4000):
  b9 aC 9 #[.agg (aW wk tu ha cc.work.length wc cc.turns.length tc cc.halt.length hc un)] w (aaC cc un w):=by
 simp only[aW];obtain⟨W,hW⟩:∃W,W=(w.alloc (aK #[aD wk cc.work.length wc,aD tu cc.turns.length tc,aD ha cc.halt.length hc,aq af un] 25)).alloc (aK #[aD ah 0 0,aD ah 0 0,aD ah 0 0,aq af 0] 25):=⟨_,rfl⟩;obtain⟨hsW,hoW,OV,hrW⟩:=KM hW.symm;have hbW:Below w.heap.size w W:=by rw[hW];exact((gw _ _).alloc (bJ _) _).alloc (by rw[cM];omega) _
 have hF:=λa hA=>cp_first (cb:=w.heap.size) (rb:=w.heap.size+1) (B:=w.heap.size) (a:=a) (w:=W) (wk:=aD wk cc.work.length wc) (un:=un) (cc:=cc) (tc:=tc) (hc:=hc) hA OV (hT.same ai hoW) (hH.same ai hoW) ai hn;simp only[cpCode,f9,Code.l,Code.r,cN]at hF;have HF:=aA hF;have HR:=aA hR;have HW:=aA hW;have HcW:=aA OV;have HrW:=aA hrW;have HbW:=aA hbW;have HL:=aA hL;have HsW:=aA hsW;clear hF hR hW OV hrW hT hH hbW hoW hL hsW;go_enter func9,ntmps9
 go_wp2;rw[←HW.out];refine NQ (HF.out _ (VL.mk ..)) ?_;rintro a' w1 ⟨ob,hA,hb1,CO,tv,hv,ho,rT,rH⟩;have hO:CpO wk tu ha wc tc hc un cc ob 0 w w1 (aD ah 0 0) tv hv []:=by have h1:=HsW.out;have h2:=hb1.size;refine⟨HbW.out.trans (hb1.mono ai),ai,by rw[hb1.block _ ai];exact HcW.out,by rw[hb1.block _ ai];exact HrW.out,ai,ho,rfl,pL _ _ _ _,λq l rv hq=>ai,λq q' rv Y4 x _ h=>by simp at h,rT,rH⟩
 have HO:=aA hO;clear hO rT rH ho CO hb1 HW HF HcW HrW HbW HsW;cases hA;have l16:=HL.out.1;go_wp2;go_loopw [4] (λi wr=>∃k:Nat,k<=cc.work.length/\i=aq af k/\∃VZ tv hv oB,CpO wk tu ha wc tc hc un cc ob k w wr VZ tv hv oB) (λi _=>cc.work.length- (intOf i).toNat)
 case atStart=>exact⟨0,bQ _,rfl,_,_,_,_,HO.out⟩
 case round=>
  obtain⟨k,hk,rfl,VZ,tv,hv,oB,O⟩:=hrel;obtain⟨Wk,rfl⟩:∃x,x=wr:=⟨_,rfl⟩;have bW:=cO O.c 0;have O':=aA O;clear O;by_cases hlt:k<cc.work.length
  .obtain⟨l,hl⟩:∃l,cc.work[k]? =ae l:=⟨_,eQ hlt⟩;obtain⟨b,o,v,rfl,hb,OV,a,cap,rfl,hrow⟩:=HR.out k l hl;have Lr:=HL.out.2 l (nJ hl);have hlen:=Lr.1;have Iy:=O'.out.bel.size;have hc:=(O'.out.bel.cell (p:=⟨b,o+k,ah⟩) hb).trans OV;have uU:=aA hrow;have Hl:=aA hl;have Hll:=aA Lr.2;clear hrow hl Lr;go_wp2;go_loopw [6,5] (λi lv wi=>∃j:Nat,j<=l.length/\i=aq af j/\Below Wk.heap.size Wk wi/\ln wi Wk.heap.size lv (l.take j)) (λi _ _=>l.length- (intOf i).toNat)
   case atStart=>exact⟨0,bQ _,rfl,gw _ _,[],rfl,pL _ _ _ _,λi c pv h=>dB⟩
   case round=>
    obtain⟨j,hj,rfl,hbi,jo,hpl,YM,I9⟩:=hrel;have hcc:=λ(x:aP) v (h:w.cell? x=ae v)=>((hbi.cell (iR (ez w _ h) Iy)).trans ((O'.out.bel.cell (ez w _ h)).trans h));have bW':=(hbi.cell (p:=⟨w.heap.size,0,ah⟩) (by have:=O'.out.big;show w.heap.size<_;omega)).trans bW;have ajc:=hcc _ _ OV;obtain⟨la,lc,rfl⟩:=dX YM;have U7:(l.take j).length=j:=(by rw[List.length_take];omega);rw[U7]at YM hpl⊢;have Hbi:=aA hbi;have Hrw:=aA YM;have Hps:=aA I9;have Hpl:=aA hpl;have Htk:=aA U7;have YT:=aA hcc;clear hbi YM I9 hpl hcc U7;by_cases Io:j<l.length
    .obtain⟨b2,o2,rfl,hcall⟩:=uU.out j l[j] (eQ Io);have c0:=YT.out _ _ hcall.c0;have c1:=YT.out _ _ hcall.c1;have c2:=YT.out _ _ hcall.c2;have c3:=YT.out _ _ hcall.c3;obtain⟨pv,c4,adA⟩:=hcall.c4;have c4:=YT.out _ _ c4;obtain⟨c,hcj⟩:∃c,l[j]=c:=⟨_,rfl⟩;rw[hcj]at c0 c1 c2 c3 adA;have Hcj:=aA hcj;clear hcall hcj;have V3:Below w.heap.size w wr:=O'.out.bel.trans (Hbi.out.mono Iy);have V4:∀o j u,(eZ c.pairs)[j]? =ae u->∀pa sG,pv=aD pa c.pairs.length sG->∃y,pa=ae y/\(wr.alloc o).cell? (y.add j)=ae u:=λo j u hu pa sG e=>(by subst e;exact(adA.same (w':=wr.alloc o) (by have:=V3.size;rw[cM];omega) (λb hb=>by rw[gT _ _ _ (by have:=V3.size;omega)];exact V3.block b hb)).news j u hu);obtain⟨pa,sG,rfl,Zp⟩:=adA;have HnA:=aA λo j u hu=>V4 o j u hu pa sG rfl;obtain⟨ip,hip,zp0,zp1,zp2⟩:=kq KE;obtain⟨ic,hic,zq0,zq1,zq2⟩:=kq VK;have ahY:c.pairs.length<=4000:=Hll.out c (by rw[←Hcj.out];exact rV _);have PY:Wk.heap.size<=wr.heap.size:=Hbi.out.size;have ajd:=aA V3;have aje:=aA ahY;clear Zp V4 V3;go_wp2_with (at_builtin;first
      |go_loud (
        refine KF rfl (.tmp 43) 46 rfl Wk.heap.size 53 ip _ 2 16 underlying46 hip zp0 zp1 zp2 rfl aN pa c.pairs.length sG (eZ c.pairs) rfl (vI _) (HnA.out _) (Es _) jk ai (by rw[cM];omega) ?_;intro zY w1 hpr hg1;have Hpr:=aA hpr;obtain⟨pa',pc',rfl⟩:=dX hpr;clear hpr;have Hg1:=aA hg1;have hd:=(hg1.block wr.heap.size (by rw[cM];omega) aJ).trans (gN _ _);have d0:=cO hd 0;have d1:=cO hd 1;have d2:=cO hd 2;have d3:=cO hd 3;have d4:=cO hd 4;have z4:=zO hd 4;have hs1:=hg1.size;rw[cM]at hs1;have ahZ:=aA (λo=>cp_row (o:=o) (zY:=aD pa' c.pairs.length pc') Hrw.out hg1);have Hd:=aA hd;clear hd hg1)
      |go_loud (refine wpList_append_lies _ rfl (.tmp 46) (.tmp 48) 51 rfl Wk.heap.size 50 ic _ 5 56 underlying51 hic zq0 zq1 zq2 rfl aN (aD la j lc) j (fL (l.take j) jo) rfl (ahZ.out _) ⟨w1.heap.size,0,ah⟩ 1 1 (dN c (aD pa' c.pairs.length pc')) rfl rfl (pd (cs:=#[aq af c.kind,aq af c.a,aq af c.b,aq af c.c,aD pa' c.pairs.length pc']) (t:=50) (fr:=(0,0)) (Ew _ _ _ _)) (by simp[dN,Value.oneCell']) aN jk ai (by rw[cM];simp[fF];omega) (w1.heap.size+1) (by rw[cM];simp[fF]) ?_;intro gg cap' w4 zZ hg4 afZ UU))
     go_roundw
     case rel=>exact⟨j+1,ai,fY,aaA (c:=c) Hbi.out (by rw[Htk.out];exact Hpl.out) (by rw[Htk.out];exact Hrw.out) Hps.out (by rw[eQ Io,Hcj.out]) ((gw _ _).alloc (bJ _) _) Hg1.out Hpr.out (bJ _) hg4 ⟨_,Hd.out⟩ (by rw[Htk.out];exact zZ)⟩
     case measure=>simp[intOf];omega
    .obtain rfl:j=l.length:=ai;have hOi:=Hbi.out.block ob (bF.1 O'.out.o).1;rw[O'.out.o]at hOi;have qu:ln wr Wk.heap.size (aD la l.length lc) l:=⟨jo,Hpl.out,by have:=Hrw.out;rwa [List.take_length]at this,by have:=Hps.out;rwa [List.take_length]at this⟩;have adB:wr.ownsRow w.heap.size 51 1 VZ k oB:=row_stand O'.out.row (stand_below Hbi.out (bJ _));obtain⟨Y6,Y7,rfl⟩:=dX O'.out.row;have o0:=cO hOi 0;have aaB:(Value.slice Y6 k Y7).ownBlock≠ae ob:=λe=>(by obtain⟨cur',hc'⟩:=dV adB e;rw[hOi]at hc';cases hc');have JZ:ob<wr.heap.size:=(bF.1 hOi).1;have PY:w.heap.size<=wr.heap.size:=dm Iy Hbi.out.size;have af0:=aA qu;have ah0:=aA adB;have HOi:=aA hOi;have ah1:=aA aaB;clear qu adB hOi aaB;obtain⟨ir,hir,zr0,zr1,zr2⟩:=kq aat;go_wp2_with (at_builtin;go_loud (refine wpList_append_lies _ rfl (.tmp 51) (.tmp 53) 23 rfl w.heap.size 51 ir _ 1 24 underlying23 hir zr0 zr1 zr2 rfl aN (aD Y6 k Y7) k oB rfl (ah0.out.alloc _) ⟨wr.heap.size,0,ah⟩ 1 1 [aD la l.length lc] rfl rfl (pd (cs:=#[aD la l.length lc]) (t:=51) (fr:=(0,0)) (gN _ _)) pI aN jk ai (by rw[cM];omega) (wr.heap.size+1) (by rw[cM]) ?_;intro gg cap' w5 nO YS Up aaz;have hO5:w5.heap[ob]? =ae (aK #[aD Y6 k Y7,tv,hv,aq af un] 25 (0,0)):=(by rw[YS.block ob (by rw[cM];omega) (bZ ah1.out),gT _ _ _ JZ];exact HOi.out);have o5:w5.cell? ⟨ob,0,ah⟩=ae (aD Y6 k Y7):=(by rw[ax hO5];rfl);have z5:=zO hO5 0;have V5:=aA nO;have Hg5:=aA YS;clear hO5 nO YS Up))
     go_roundw
     case rel=>exact⟨k+1,ai,fY,_,_,_,_,V0 O'.out Hl.out Hbi.out af0.out Hg5.out V5.out⟩
     case measure=>simp[intOf];omega
  .obtain rfl:k=cc.work.length:=ai;obtain⟨Y6,Y7,rfl⟩:=dX O'.out.row;obtain⟨ta,tcc,rfl⟩:=dX O'.out.tv;obtain⟨hha,hcc,rfl⟩:=dX O'.out.hv;have o0:Wk.cell? ⟨ob,0,ah⟩=ae (aD Y6 cc.work.length Y7):=(by rw[ax O'.out.o];rfl);have o1:Wk.cell? ⟨ob,1,ah⟩=ae (aD ta cc.turns.length tcc):=(by rw[ax O'.out.o];rfl);have o2:Wk.cell? ⟨ob,2,ah⟩=ae (aD hha cc.halt.length hcc):=(by rw[ax O'.out.o];rfl);have o3:Wk.cell? ⟨ob,3,ah⟩=ae (aq af un):=(by rw[ax O'.out.o];rfl);obtain⟨⟨r0,r1,r2,r3⟩,zr0,zr1,zr2,zr3⟩:=pN O'.out.r;go_wp2;try simp only[bE,gu]
   refine bodyPost_ret (v:=.agg #[aD Y6 cc.work.length Y7,aD ta cc.turns.length tcc,aD hha cc.halt.length hcc,aq af un]) ?_ rfl ?_
   .simp[eL,go_sem, *]
   exact⟨_,_,_,_,_,_,rfl,adz O'.out⟩
end
section
open Go Go.Conc Go.ConcN Go.RowKit
open Go.ConcR (KK wgBlock WgAt stA smA rd wr mk Payload Aside2 DC0)
variable[Inhabited dc]
section
variable{d:bp}{Wk tk bw tW:Nat}{x:ay}{w:aj}
structure Cradle(J:gS σ)(d:bp)(Wk tk bw bc bd tW:Nat)(dv cv:ay)(w:aj):Prop where
 hB:d.B<=Wk/\d.B<=tk/\d.B<=bw/\d.B<=bc
 hne:Wk≠tk/\bw≠tk/\bc≠tk/\Wk≠bw/\Wk≠bc/\bw≠bc
 hW:w.heap[Wk]? =ae (aK (dK d.j tk d.come d.gone aw 0 0 0 (aD ah 0 0)) tW (0,0))
 ht:w.heap[tk]? =ae (.chan 0 #[] aw 0 0 aw)
 hw:w.heap[bw]? =ae (aK #[aI (ae ⟨Wk,0,ah⟩)] 117 (0,0))
 hc:∃e,w.heap[bc]? =ae (aK #[cv] e (0,0))
 hd:w.cell? ⟨bd,0,ah⟩=ae dv/\d.ro bd≠ah
 hro:aah d.ro w
 hcalls:jl J d.ro d.j w cv
def Taken(Wk bw bc n:Nat)(b:Nat):Prop:=b=n\/b=Wk\/b=bw\/b=bc
noncomputable def RY(Wg bw bd bc W:Nat)(dv cv:ay):aB:=Classical.choose (yT Wg bw bd bc W dv cv)
theorem RZ(Sq:Squad J d0 d nb)(hP:d.P=aC)(Iz:d.ty=link.tWg)(hbase:d.base=J.n)(hj:d.j<J.n)(hn8:J.n<=8)(hcs:J.n<=d.csC.size)(G:Gig J d.ro AD x dv)(C:Cradle J d Wk tk bw bc bd tW dv cv w)(uok:(J.cP d.W).Ok d)
  {b:aB}{ops eO Ce:Array aZ}{id id3:Nat}{o o0 o1 o2 o3:aZ}{k:List Item}{xs:Array Operand}(hk:b.kind≠.early)
  (ho:ops[0]? =ae o)(hw:dF o (dW ops a.tmps)=au)(hop:o.op=.call {callee:=.value (.func link.add),args:=xs,argTypes:=ats})(hxs:xs.map a.eval=#[aI (ae ⟨d.Wg,0,ah⟩),aq af 1])
  (hs:eO.size=2)(ho0:eO[0]? =ae o0)(hw0:dF o0 (dW eO (a.put o.dst (.tuple #[])).tmps)=au)(vY:∀w,(bT (a.put o.dst (.tuple #[])).eval o0).runT aC w #[]=(.ok (.value v) w,#[]))
  (ho1:eO[1]? =ae o1)(iA:dF o1 (dW eO ((a.put o.dst (.tuple #[])).put o0.dst v).tmps)=au)(hr1:∀w,(bT ((a.put o.dst (.tuple #[])).put o0.dst v).eval o1).run aC w=.ok (.spawn (cl 72 #[aI (ae ⟨d.Wg,0,ah⟩),aI (ae ⟨bw,0,ah⟩),aI (ae ⟨bd,0,ah⟩),aI (ae ⟨bc,0,ah⟩)])) w)(he1:∀w,(bT ((a.put o.dst (.tuple #[])).put o0.dst v).eval o1).events aC w #[]=#[])
  (hs3:Ce.size=2)(Az:Ce[0]? =ae o2)(hw2:dF o2 (dW Ce (((a.put o.dst (.tuple #[])).put o0.dst v).put o1.dst aO).tmps)=au)(hr2:∀w,(bT (((a.put o.dst (.tuple #[])).put o0.dst v).put o1.dst aO).eval o2).runT aC w #[]=(.ok (.value v3) w,#[]))
  (ho3:Ce[1]? =ae o3)(hw3:dF o3 (dW Ce ((((a.put o.dst (.tuple #[])).put o0.dst v).put o1.dst aO).put o2.dst v3).tmps)=au)(hr3:∀w,(bT ((((a.put o.dst (.tuple #[])).put o0.dst v).put o1.dst aO).put o2.dst v3).eval o3).run aC w=.ok (.comm #[dh d.come (aq af 0)] au (.recv aw)) w)(he3:∀w,(bT ((((a.put o.dst (.tuple #[])).put o0.dst v).put o1.dst aO).put o2.dst v3).eval o3).events aC w #[]=#[]):
  Birth d (J.cP d.W) (J.cP (d.join Wk tk w.heap.size [RY d.Wg bw bd bc Wk dv cv,bot]).W) d.j Wk tk (0,12) ((gO Wk d.j tk d.come d.gone w.heap.size).take 5) (gO Wk d.j tk d.come d.gone w.heap.size) [RY d.Wg bw bd bc Wk dv cv,bot] (sL Wk w.heap.size) (w.heap.size+1) (Taken Wk bw bc w.heap.size) (aK #[aI (ae ⟨Wk,0,ah⟩)] 117 (0,0))
   (b.at a (bI ops [0]:: .code (.seq (.region id eO aw) (.region id3 Ce aw))::k)) fs (b.at ((((a.put o.dst (.tuple #[])).put o0.dst v).put o1.dst aO).put o2.dst v3) (bI Ce [1]::k)) w:=by
 have af1:=Classical.choose_spec (yT d.Wg bw bd bc Wk dv cv);unfold RY;generalize Classical.choose (yT d.Wg bw bd bc Wk dv cv)=rf at*;obtain⟨af2,adC⟩:=af1;have L:=Sq.low;obtain⟨B1,B2,B3,B4⟩:=C.hB;obtain⟨n1,n2,n3,n4,n5,n6⟩:=C.hne;have lW:=(bF.1 C.hW).1;have lt_:=(bF.1 C.ht).1;have lw:=(bF.1 C.hw).1;obtain⟨ec,hbc⟩:=C.hc;have lc:=(bF.1 hbc).1;obtain⟨S',O1⟩:=Sq.join (jC:=[rf,bot]) B2 B1 lW lt_ aJ;have Hd:Hand J (d.join Wk tk w.heap.size [rf,bot]) d.j w.heap.size:=Sq.hand hP hbase hj B2 B1 lW lt_;have AU:∀b,d.B<=b->d.ro b=ah:=λb hb=>by
  cases e:d.ro b with
  |none=>rfl
  |some f=>have:=Sq.ro b oM;omega
 have af3:∀i,i<d.j->d.W i<d.B:=λi hi=>(Sq.lt i hi).1;have kI:∀(b:Nat) o,w.heap[b]? =ae o->o≠eh->di o=au->d.B<=b->jB d w b:=λb o h1 h2 h3 h4=>⟨o,h1,h2,h3,λi hi e=>by have:=af3 i hi;omega,AU b h4⟩;have mW:=kI _ _ C.hW bu rfl B1;have mw:=kI _ _ C.hw bu rfl B3;have mc:=kI _ _ hbc bu rfl B4;have mt:=kI _ _ C.ht (by simp[eh]) rfl B2;have adD:∀x∈(gO Wk d.j tk d.come d.gone w.heap.size).take 5,x.1.block=Wk/\w.cell? x.1=ae x.2:=λx hx=>by have hW:=C.hW;simp only[gO,List.take,fU,rP,or_false]at hx;rcases hx with rfl|rfl|rfl|rfl|rfl<;>exact⟨rfl,UD⟩
 refine⟨ai,ai,?_,λx hx=>List.mem_of_mem_take hx,S'.fit,gS.Gj G.L,O1,?_,?_,?_,.inl rfl,⟨C.ht,mt⟩,?_,?_,⟨_,_,rfl⟩,?_,?_,?_,?_,?_⟩
 .
  refine⟨rfl,rfl,rfl,rfl,rfl,λi hi=>?_,λi hi=>?_,λi hi=>rfl⟩;all_goals
   have e:(d.join Wk tk w.heap.size [rf,bot]).W i=d.W i:=(by show(if i=d.j then Wk else d.W i)=_;rw[aU ai]);funext t;simp only[gS.cP,e]
 .show(if d.j+1<=J.n then d.j+1-1 else _)=_;rw[aX ai];rfl
 .rintro⟨h,_⟩;exact Nat.lt_irrefl _ h
 .rintro b (rfl|rfl|rfl|rfl)
  .exact .inl rfl
  .exact .inr ⟨mW,n1⟩
  .exact .inr ⟨mw,n2⟩
  .exact .inr ⟨mc,n3⟩
 .intro x hx;obtain⟨h1,h2⟩:=adD x hx;exact⟨.inr (.inl h1),ai,h2⟩
 .intro x hx;rcases lj hx with⟨_,_,h⟩|⟨h1,_,h⟩
  .exact .inl h
  .right;refine⟨h1,λw' hw'=>?_⟩;rw[h]at hw'⊢;simp only at hw';rw[ax hw'];rfl
 .
  intro b f hf;unfold sL at hf;split at hf
  .rename_i e;subst e;exact⟨.inr (.inl rfl),.inr ⟨_,_,C.hW⟩⟩
  .split at hf
   .rename_i e;exact⟨.inl e,.inl e⟩
   .cases hf
 .exact⟨.inr (.inl rfl),ai,_,_,C.hW,by simp[dK]⟩
 .exact λi hi e=>by have:=af3 i hi;omega
 .
  intro w' hw';have eW:(d.join Wk tk w.heap.size [rf,bot]).W d.j=Wk:=by show(if d.j=d.j then Wk else _)=_;rw[aX rfl]
  have ZR:w'.heap[Wk]? =ae (aK (dK d.j tk d.come d.gone aw 0 0 0 (aD ah 0 0)) tW (0,0)):=by rw[hw' Wk (.inr (.inl rfl)) ai];exact C.hW
  have e0:J.ar d.j=AR.yP J.c J.s0:=J.tU ai;refine⟨λ_=>?_,λb hb=>?_⟩
  .show WRm w' ((d.join Wk tk w.heap.size [rf,bot]).W d.j) ((J.ar d.j).w d.j) (decide (d.j<d.j/\_));rw[eW,e0];refine⟨0,0,aD ah 0 0,by rw[ax ZR];rfl,by rw[ax ZR];rfl,by rw[ax ZR];rfl,by rw[ax ZR];simp[dK],⟨ah,0,rfl,λi x h=>dB⟩,λb o p h=>dB,λ_=>rfl⟩
  .have hb:gF w' ((d.join Wk tk w.heap.size [rf,bot]).W d.j) b:=hb;rw[eW]at hb;rcases hb with rfl|⟨sl,h1,y,m,e,h2,_⟩
   .exact .inr (.inl rfl)
   .rw[ax ZR]at h1;simp only[dK,kJ,nK,oP,dD]at h1;rw[←h1]at h2;cases h2
 .
  refine⟨b.at ((a.put o.dst (.tuple #[])).put o0.dst v) (bI eO [1]:: .code (.region id3 Ce aw)::k),b.at (((a.put o.dst (.tuple #[])).put o0.dst v).put o1.dst aO) (bI eO []:: .code (.region id3 Ce aw)::k),born aC (cl 72 #[aI (ae ⟨d.Wg,0,ah⟩),aI (ae ⟨bw,0,ah⟩),aI (ae ⟨bd,0,ah⟩),aI (ae ⟨bc,0,ah⟩)]),uO w.heap.size Wk dv cv,[],4,λr Low hK=>?_,λw'=>?_,?_,λr Inb hK hC hsz hcell=>?_,λa1 F=>?_⟩
  .exact Vw hP Iz hk ho hw hop hxs hs ho0 hw0 vY r Low hK
  .have:=stepG_spawn (P:=aC) (main:=au) (b:=b) (k:=.code (.region id3 Ce aw)::k) (cs:=fs++d.cs0) (rest:=[]) (w:=w') ho1 iA hk (hr1 w') rfl;rw[listed_none (he1 w')]at this;rw[hP];exact this
  .exact Kj (d:=d.grow Wk tk (0,12) ((gO Wk d.j tk d.come d.gone w.heap.size).take 5) [rf,bot] (sL Wk w.heap.size) (w.heap.size+1)) hP hk hs3 Az hw2 hr2 ho3 hw3 hr3 he3
  .
   have hce:∀y:aP,Taken Wk bw bc w.heap.size y.block->y.block≠w.heap.size->r.cell? y=w.cell? y:=λy h1 h2=>hcell y (.inl ⟨h1,h2⟩);have cw:r.cell? ⟨bw,0,ah⟩=ae (aI (ae ⟨Wk,0,ah⟩)):=(by rw[hce _ (.inr (.inr (.inl rfl))) nD,ax C.hw];rfl);have cc:r.cell? ⟨bc,0,ah⟩=ae cv:=(by rw[hce _ (.inr (.inr (.inr rfl))) nD,ax hbc];rfl);have cd:r.cell? ⟨bd,0,ah⟩=ae dv:=(by rw[hcell _ (.inr C.hd.2)];exact C.hd.1);have Ga:bd<d.Wg:=Sq.ro bd C.hd.2;let d1:bp:=d.grow Wk tk (0,12) ((gO Wk d.j tk d.come d.gone w.heap.size).take 5) [rf,bot] (sL Wk w.heap.size) (w.heap.size+1);have hP1:d1.P=aC:=hP;have O1':d1.Ok:=O1;have hgo:=adC (R:=RH d1.cc) (D:=Ln d1.cc Inb (d.j+1)) (Q:=λg w'=>g=cy (uO w.heap.size Wk dv cv) ([] ++[rf,bot])/\Grown d.Wg (aK #[aI (ae ⟨Wk,0,ah⟩)] 117 (0,0)) r w') (F:=λw'=>Vv d1 r 0 w') (F':=λw'=>Vv d1 r 1 w'/\w'.heap[r.heap.size]? =ae (aK #[aI (ae ⟨Wk,0,ah⟩)] 117 (0,0))) (nb:=w.heap.size)
    (λw1 w2 hr F=>F.rely O1' hr) (λw1 w2 hr F=>⟨F.1.rely O1' hr,by rw[hr.block _ (by show r.heap.size≠d.Wg;omega)];exact F.2⟩)
    (λw1 F=>by have same:∀(bb oo:Nat) (vv:ay),r.cell? ⟨bb,oo,ah⟩=ae vv->bb≠d.Wg->w1.cell? ⟨bb,oo,ah⟩=ae vv:=λbb oo vv h hne=>(by rw[←h];exact dr (w:=r) (F.old bb (ez r _ h) hne));exact⟨by rw[F.size,hsz];rfl,same _ _ _ cw ai,same _ _ _ cd ai,same _ _ _ cc ai⟩)
    (λw1 es F he=>Vv.read λe h=>by obtain⟨ad,rfl,hb⟩:=he e h;refine⟨ad,rfl,?_⟩;show ad.block≠d.Wg;omega)
    (λw1 F=>by obtain⟨h1,h2,h3⟩:=F.alloc (h:=d.j+1) hC (aK #[aI (ae ⟨Wk,0,ah⟩)] 117 (0,0));refine⟨h1,h2,?_⟩;have:w1.heap.size=r.heap.size:=F.size;rw[←this];exact h3)
    (λw1 F=>⟨Vv.read (es:=#[]) (λe h=>by simp at h),rfl,F.1.size,F.2,λbb h1 h2=>F.1.old bb h1 h2,F.1.os⟩)
    r ⟨rfl,λ_ _ _=>rfl,hK,rfl,rfl⟩
   refine kY (c:=d1.cc) (R:=RH d1.cc) (λ_ _ h=>h) (n:=40) ?_;have hP2:d1.cc.P=aC:=hP1;rw[hP2];exact hgo
  .
   have af4:=Vx (rf:=rf) (cv:=cv) (tW:=tW) Sq hj B2 B1 lW lt_ rfl G (.inr (.inl rfl)) C.hW C.hro C.hcalls F;have hT:QK (d.join Wk tk w.heap.size [rf,bot]) d.j:=by
    intro pf h1 h2 h3 h4 w';have ecw:(d.join Wk tk w.heap.size [rf,bot]).cw d.j=[rf,bot]:=(by show(if d.j=d.j then [rf,bot]else _)=_;rw[aX rfl]);rw[ecw];have hh:=af2 (pf:=pf) (K0:=(d.join Wk tk w.heap.size [rf,bot]).K0) (S:=(d.join Wk tk w.heap.size [rf,bot]).Sp (d.j+1)) (B:=(d.join Wk tk w.heap.size [rf,bot]).B) (C:=d.C) (n:=d.csC.size+1) (i:=d.j) (val:=d.csC.getD d.j aO) h1 h2 h3 h4 (λw'' hK=>?_) w'
    .unfold CC.Wk;have adE:(d.join Wk tk w.heap.size [rf,bot]).cc.ty=link.tWg:=Iz;have hP':(d.join Wk tk w.heap.size [rf,bot]).cc.P=aC:=hP;rw[adE,hP'];exact hh
    .obtain⟨k1,k2,k3⟩:=hK;refine⟨by rw[←Iz];exact k1,?_⟩;show w''.cell? ⟨d.C,d.j,ah⟩=_;have k3:w''.heap[d.C]? =ae (aK d.csC d.eC (0,0)):=k3;rw[ax k3,dO,fP ai];rfl
   have hz:=QP Hd hT G.L G.most G.tA (tW:=tW) (AD:=AD) (x:=x) (dv:=dv) (cv:=cv) G.meth (λc t w1 v hc hR hV=>G.do_ _ _ _ tW Hd rfl c t w1 v hc hR hV) (λt=>G.got t d.j hj) (G.big d.j hj) af4;have eW:(d.join Wk tk w.heap.size [rf,bot]).W d.j=Wk:=(by show(if d.j=d.j then Wk else _)=_;rw[aX rfl]);have ecw:(d.join Wk tk w.heap.size [rf,bot]).cw d.j=[rf,bot]:=(by show(if d.j=d.j then [rf,bot]else _)=_;rw[aX rfl]);rw[eW,ecw]at hz;rw[hP];exact hz
end
end
section
open Go Go.Conc Go.ConcN Go.RowKit
attribute [local go_sem] ba bf bH a8 bC bK aS aV
inductive aaD(bc bd br:Nat):Act->Prop
 |mk (u0 u1 u6 u7 u8 u9 sK nW nX mU mA mB u16 lK lL lM lN mV mX u23 u24 mY u26 lO u28 lQ lR mC u32 u33 mD mE mF mG mZ m9 nV oU oV pU u44 pV oX oY oZ o6 o7 o8 o9:ay):aaD bc bd br {tmps:=#[u0,u1,aI (ae ⟨bc,0,ah⟩),aI (ae ⟨bd,0,ah⟩),aI (ae ⟨br,0,ah⟩),aq af 0,u6,u7,u8,u9,sK,nW,nX,mU,mA,mB,u16,lK,lL,lM,lN,mV,mX,u23,u24,mY,u26,lO,u28,lQ,lR,mC,u32,u33,mD,mE,mF,mG,mZ,m9,nV,oU,oV,pU,u44,pV,oX,oY,oZ,o6,o7,o8,o9],defers:=[]}
inductive NS(bc bd br come gone:Nat):Act->Prop
 |mk (u0 u1 u6 u9 sK nW nX mU mA mB u16 lK lL lM lN mV mX u23 u24 mY u26 lO u28 lQ lR mC u32 u33 mD mE mF mG mZ m9 nV oU oV pU u44 pV oX oY oZ o6 o7 o8 o9:ay):NS bc bd br come gone {tmps:=#[u0,u1,aI (ae ⟨bc,0,ah⟩),aI (ae ⟨bd,0,ah⟩),aI (ae ⟨br,0,ah⟩),aq af 0,u6,.chan (ae come),.chan (ae gone),u9,sK,nW,nX,mU,mA,mB,u16,lK,lL,lM,lN,mV,mX,u23,u24,mY,u26,lO,u28,lQ,lR,mC,u32,u33,mD,mE,mF,mG,mZ,m9,nV,oU,oV,pU,u44,pV,oX,oY,oZ,o6,o7,o8,o9],defers:=[]}
inductive LA(bc bd br come gone Wg:Nat)(lV:ay)(wb wo n wc k:Nat):Act->Prop
 |mk (u0 u1 u6 nW nX mU mA mB u16 lK lL lM lN mV mX u23 lO u28 lQ lR mC u32 u33 mD mE mF mG mZ m9 nV oU oV pU u44 pV oX oY oZ o6 o7 o8 o9:ay):LA bc bd br come gone Wg lV wb wo n wc k {tmps:=#[u0,u1,aI (ae ⟨bc,0,ah⟩),aI (ae ⟨bd,0,ah⟩),aI (ae ⟨br,0,ah⟩),aq af 0,u6,.chan (ae come),.chan (ae gone),aI (ae ⟨Wg,0,ah⟩),lV,nW,nX,mU,mA,mB,u16,lK,lL,lM,lN,mV,mX,u23,aD (ae ⟨wb,wo,ah⟩) n wc,aq af n,aq af k,lO,u28,lQ,lR,mC,u32,u33,mD,mE,mF,mG,mZ,m9,nV,oU,oV,pU,u44,pV,oX,oY,oZ,o6,o7,o8,o9],defers:=[]}
inductive aaE(bc bd br come gone Wg:Nat)(lV:ay)(wb wo n wc k bl bw:Nat):Act->Prop
 |mk (u0 u1 u6 mA mB u16 lK lL lM lN mV mX u23 lO u28 lQ lR mC u32 u33 mD mE mF mG mZ m9 nV oU oV pU u44 pV oX oY oZ o6 o7 o8 o9:ay):aaE bc bd br come gone Wg lV wb wo n wc k bl bw {tmps:=#[u0,u1,aI (ae ⟨bc,0,ah⟩),aI (ae ⟨bd,0,ah⟩),aI (ae ⟨br,0,ah⟩),aq af 0,u6,.chan (ae come),.chan (ae gone),aI (ae ⟨Wg,0,ah⟩),lV,aq af k,aI (ae ⟨bl,0,ah⟩),aI (ae ⟨bw,0,ah⟩),mA,mB,u16,lK,lL,lM,lN,mV,mX,u23,aD (ae ⟨wb,wo,ah⟩) n wc,aq af n,aq af k,lO,u28,lQ,lR,mC,u32,u33,mD,mE,mF,mG,mZ,m9,nV,oU,oV,pU,u44,pV,oX,oY,oZ,o6,o7,o8,o9],defers:=[]}
noncomputable def cX:Code:=(f33.body).getD .skip
noncomputable def iG:Code:=cX.r.r.r.r.r.l.r
noncomputable def iO:Code:=iG.l.l.r.r.l.l
theorem FD:cX=.seq cX.l (.seq cX.r.l (.seq cX.r.r.l (.seq cX.r.r.r.l (.seq cX.r.r.r.r.l (.seq (.seq cX.r.r.r.r.r.l.l iG) cX.r.r.r.r.r.r))))):=by simp only[iG,cX,f33,Code.l,Code.r,cN]
theorem Sa:iG=.block 0 (.loop (.seq iG.l.l.l (.seq (.cond (.tmp 27) .skip (.exit 0)) (.seq (.block 1 iO) iG.l.l.r.r.r)))):=by simp only[iO,iG,cX,f33,Code.l,Code.r,cN]
theorem Sb:iO=.seq iO.l (.seq iO.r.l (.seq iO.r.r.l (.seq iO.r.r.r.l iO.r.r.r.r))):=by simp only[iO,iG,cX,f33,Code.l,Code.r,cN]
section
variable{gone:Nat}{w:aj}
def ik:Obj:=.chan 0 #[] aw 0 0 aw
theorem Sc(hA:aaD bc bd br a):(cX.r.r.l).wp aC (ue λa' w'=>∃come gone,NS bc bd br come gone a'/\((come=w.heap.size/\gone=w.heap.size+1)\/(gone=w.heap.size/\come=w.heap.size+1))/\Alike ((w.alloc ik).alloc ik) w') a w:=by
 cases hA;simp only[cX,f33,Code.l,Code.r,cN];refine bt.start (λ_=>True) [] aQ ?_ (λaF=>?_)
 .exact QY
 refine bt.two (i:=0) (j:=1) rfl rfl aQ (λK hK=>?_) (λK hK=>?_)
 .go_simp;refine hK.out _ _ (λ_=>?_) (λaF=>?_)
  .exact QY
  replace aF:=aF aN;clear hK K;try refine pt ?_
  refine bt.tv 2 aF ?_;refine bt.to 1 (λK hK=>?_);go_simp;refine hK.out _ _ (λ_=>?_) (λaF=>?_)
  .exact QY
  replace aF:=aF aN;clear hK K;try refine pt ?_
  refine bt.tv 3 aF ?_;refine bt.done aQ ?_ _
  (first|exact⟨_,_,NS.mk ..,.inl ⟨rfl,aJ⟩,⟨rfl,rfl,rfl⟩⟩|exact⟨_,_,NS.mk ..,.inr ⟨rfl,aJ⟩,⟨rfl,rfl,rfl⟩⟩)
 .go_simp;refine hK.out _ _ (λ_=>?_) (λaF=>?_)
  .exact QY
  replace aF:=aF aN;clear hK K;try refine pt ?_
  refine bt.to 0 (λK hK=>?_);go_simp;refine hK.out _ _ (λ_=>?_) (λaF=>?_)
  .exact QY
  replace aF:=aF aN;clear hK K;try refine pt ?_
  refine bt.tv 2 aF ?_;refine bt.tv 3 aF ?_;refine bt.done aQ ?_ _
  (first|exact⟨_,_,NS.mk ..,.inl ⟨rfl,aJ⟩,⟨rfl,rfl,rfl⟩⟩|exact⟨_,_,NS.mk ..,.inr ⟨rfl,aJ⟩,⟨rfl,rfl,rfl⟩⟩)
end
structure adF(cs:Array ay)(dv:ay)(a w:aj):Prop where
 size:a.heap.size+3<=w.heap.size
 old:∀b,b<a.heap.size->w.heap[b]? =a.heap[b]?
 c:w.heap[a.heap.size]? =ae (aK cs 25 (0,0))
 d:∃e,w.heap[a.heap.size+1]? =ae (aK #[dv] e (0,0))
 r:w.heap[a.heap.size+2]? =ae (aK #[aD ah 0 0,aD ah 0 0,aq af 0,.bool aw] 31 (0,0))
section
variable{a0:aj}{P:bh}{cs0:List aB}{ι:Type}{J:fM ι}{Stop:ι->aB->List aB->aj->Prop}{U:List aB->Prop}{i:ι}
theorem FE(hcs:NE cs0)(wk:Option aP)(wc tn tc hn hc:Nat)(tu ha:Option aP)(lens:List Nat)(un v:Int)(tI:bq)(xv:ay)(hl:lens.length<100000)(hv:v=if gh lens un then 0 else 30)
  (hw:∀w':aj,(∀b,b<a0.heap.size->w'.heap[b]? =a0.heap[b]?)->b9 aC 70 #[.agg (aW wk tu ha lens.length wc tn tc hn hc un)] w' λe w''=>e=.returned (aq af v)/\Below w'.heap.size w' w''){tail:Code}{Q:ι->Exit->Act->aj->Prop}
  (hok:gh lens un=au->∀a' w',aaD a0.heap.size (a0.heap.size+1) (a0.heap.size+2) a'->adF (aW wk tu ha lens.length wc tn tc hn hc un) (.iface tI xv) a0 w'->wpM aC au cs0 J Stop U 33 tail Q i a' w')
  (hbad:gh lens un=aw->∀a' w',a'.defers=[]->a0.heap.size<=w'.heap.size->(∀b,b<a0.heap.size->w'.heap[b]? =a0.heap[b]?)->(eL f33 a'.tmps).run aC w'=.ok (.tuple #[.agg #[aD ah 0 0,aD ah 0 0,aq af 0,.bool aw],aq af 30]) w'->Q i .ret a' w'):
  wpM aC au cs0 J Stop U 33 (.seq cX.l (.seq cX.r.l tail)) Q i {tmps:=#[.agg (aW wk tu ha lens.length wc tn tc hn hc un),.iface tI xv] ++Array.replicate 51 aO,defers:=[]} a0:=by
 let w1:aj:=((a0.alloc (aK (aW wk tu ha lens.length wc tn tc hn hc un) 25)).alloc (aK #[.iface tI xv] 155)).alloc (aK #[aD ah 0 0,aD ah 0 0,aq af 0,.bool aw] 31);have hold:∀b,b<a0.heap.size->w1.heap[b]? =a0.heap[b]? :=λb hb=>by simp only[w1,←dt,dz,fN];rw[aU ai,aU ai,aU ai]
 have hsz:w1.heap.size=a0.heap.size+3:=by simp[w1]
 have hB:∀w':aj,w1.heap.size<=w'.heap.size->(∀b,b<w1.heap.size->w'.heap[b]? =w1.heap[b]?)->adF (aW wk tu ha lens.length wc tn tc hn hc un) (.iface tI xv) a0 w':=λw' h1 h2=>by
  refine⟨ai,λb hb=>by rw[h2 b ai];exact hold b hb,?_,⟨155,?_⟩,?_⟩
  .rw[h2 _ ai];simp only[w1,←dt,dz,fN];rw[aU ai,aU ai,aX trivial]
  .rw[h2 _ ai];simp only[w1,←dt,dz,fN];rw[aU ai,aX trivial]
  .rw[h2 _ ai];simp only[w1,←dt,dz,fN];rw[aX trivial]
 have hck:=λτ=>hw (w1.tp τ) (λb hb=>hold b hb);have HB:=aA hB;have HK:=aA hck;have HO:=aA hok;have HX:=aA hbad;have HH:=aA hold;have HS:=aA hsz;have HV:=aA hv;clear hB hck hok hbad hold hsz hw hv;walk_nrm;simp only[aW]at HB HK HO⊢;simp only[cX,f33,Code.l,Code.r,cN];refine wpM_seq (wpM_lone iD hcs aQ (oT rfl) (zX _ aN _) (λτ=>?_));go_wp2;refine⟨w1,?_,?_⟩
 .exact⟨rfl,rfl,rfl⟩
 try simp only[bE]
 have hb0:=HB.out w1 (bJ _) λ_ _=>rfl;have q:∀o v,(#[aD wk lens.length wc,aD tu tn tc,aD ha hn hc,aq af un]:Array ay)[o]? =ae v->w1.cell? ⟨a0.heap.size,o,ah⟩=ae v:=λo v h=>by rw[ax hb0.c];exact h
 have q0:=q 0 _ rfl;have q1:=q 1 _ rfl;have q2:=q 2 _ rfl;have q3:=q 3 _ rfl;clear q hb0
 clear_value w1
 refine wpM_seq (wpM_seq (wpM_lone iD hcs aQ (oT rfl) (zX _ aN _) (λτ=>?_)));have HK:=aA (HK.out τ);go_wp2_with (go_at_call 70;refine HK.out.mono ?_;rintro e w2 ⟨rfl,hb⟩)
 have hb1:=hb.size;have hb2:=hb.block;have HB2:=aA (HB.out w2 hb1 hb2);clear hb;refine⟨w2,⟨rfl,rfl,rfl⟩,?_⟩;try simp only[bE]
 have hv:=HV.out;clear HV;cases hoc:gh lens un with
 |true=>rw[hoc]at hv;simp only[if_true]at hv;subst hv;have HO:=aA (HO.out hoc);refine ZQ λτ=>?_;refine Cs ?_;simp only[bE];exact HO.out _ _ (aaD.mk ..) HB2.out
 |false=>
  rw[hoc]at hv;simp only[iy,if_false]at hv;subst hv;have HX:=aA (HX.out hoc);refine ZQ λτ=>?_;refine ctx ?_;have hr:=HB2.out.r;have y0:=cO hr 0;have y1:=cO hr 1;have y2:=cO hr 2;have y3:=cO hr 3;have z0:=zO hr 0;have z1:=zO hr 1;have z2:=zO hr 2;have z3:=zO hr 3;have Jy:∀b,b<a0.heap.size->((((w2.setCell ⟨a0.heap.size+2,0,ah⟩ (aD ah 0 0)).setCell ⟨a0.heap.size+2,1,ah⟩ (aD ah 0 0)).setCell ⟨a0.heap.size+2,2,ah⟩ (aq af 0)).setCell ⟨a0.heap.size+2,3,ah⟩ (.bool aw)).heap[b]? =a0.heap[b]? :=λb hb=>by rw[az ai,az ai,az ai,az ai];exact HB2.out.old b hb
  have nT:a0.heap.size<=((((w2.setCell ⟨a0.heap.size+2,0,ah⟩ (aD ah 0 0)).setCell ⟨a0.heap.size+2,1,ah⟩ (aD ah 0 0)).setCell ⟨a0.heap.size+2,2,ah⟩ (aq af 0)).setCell ⟨a0.heap.size+2,3,ah⟩ (.bool aw)).heap.size:=by have:=HB2.out.size;simp only[fF,xi];omega
  have HL:=aA Jy;have HZ:=aA nT;clear Jy nT hr hb1 hb2;refine ZQ λτ=>?_;refine cD ?_;simp only[bE];exact HX.out _ _ rfl HZ.out HL.out (by simp[eL,go_sem, *])
end
theorem adG:(prog.info? 117).map (λi=>(i.zero,i.size,i.bytes))=ae (ae (aI ah),1,8):=aQ
structure Made(k come gone:Nat)(cv:ay)(w w':aj):Prop where
 size:w.heap.size+5<=w'.heap.size
 c:∃e,w'.heap[w.heap.size]? =ae (aK #[cv] e (0,0))
 t:w'.heap[w.heap.size+1]? =ae ik
 W:w'.heap[w.heap.size+2]? =ae (aK (dK k (w.heap.size+1) come gone aw 0 0 0 (aD ah 0 0)) 170 (0,0))
 w:w'.heap[w.heap.size+3]? =ae (aK #[aI (ae ⟨w.heap.size+2,0,ah⟩)] 117 (0,0))
section
variable{J:fM ι}{Stop:ι->aB->List aB->aj->Prop}{i:ι}{gone n:Nat}{w:aj}
theorem run_make(hcs:NE cs0)(hA:LA bc bd br come gone Wg lV wb wo n wc k a)(hk:k<n)(hn:n<=8)(hwc:n<=wc){x:Option aP}{len cap base:Nat}(hcv:w.cell? ⟨wb,wo+k,ah⟩=ae (aD x len cap))(hbase:base<=w.heap.size)(hrow:w.ownsRow base 117 1 lV k ps)
  {tail:Code}
  (hQ:∀a' w' g c,aaE bc bd br come gone Wg (aD (ae ⟨g,0,ah⟩) (k+1) c) wb wo n wc k w.heap.size (w.heap.size+3) a'->Made k come gone (aD x len cap) w w'->(∀b,b<w.heap.size->ae b≠lV.ownBlock->w'.heap[b]? =w.heap[b]?)->w'.ownsRow base 117 1 (aD (ae ⟨g,0,ah⟩) (k+1) c) (k+1) (ps++[aI (ae ⟨w.heap.size+2,0,ah⟩)])->(lV.ownBlock=ae g\/w.heap.size+5<=g)->
   wpM aC au cs0 J Stop U 33 tail Q i a' w'):
  wpM aC au cs0 J Stop U 33 (.seq iO.l (.seq iO.r.l (.seq iO.r.r.l tail))) Q i a w:=by
 let w4:aj:=(((w.alloc (aK #[aD x len cap] 51)).alloc ik).alloc (aK (dK k (w.heap.size+1) come gone aw 0 0 0 (aD ah 0 0)) 170)).alloc (aK #[aI (ae ⟨w.heap.size+2,0,ah⟩)] 117);have YU:w4.heap.size=w.heap.size+4:=by simp[w4]
 have Gp:∀b,b<w.heap.size->w4.heap[b]? =w.heap[b]? :=λb hb=>by simp only[w4,←dt,dz,fN];rw[aU ai,aU ai,aU ai,aU ai]
 have hM4:w4.heap[w.heap.size]? =ae (aK #[aD x len cap] 51 (0,0))/\w4.heap[w.heap.size+1]? =ae ik/\w4.heap[w.heap.size+2]? =ae (aK (dK k (w.heap.size+1) come gone aw 0 0 0 (aD ah 0 0)) 170 (0,0))/\w4.heap[w.heap.size+3]? =ae (aK #[aI (ae ⟨w.heap.size+2,0,ah⟩)] 117 (0,0)):=by
  refine⟨?_,?_,?_,?_⟩ <;>simp only[w4,←dt,dz,fN]
  .rw[aU ai,aU ai,aU ai,aX trivial]
  .exact ZU
  .rw[aU ai,aX trivial]
  .rw[aX trivial]
 have hend:∀(w':aj) g c,w'.ownsRow base 117 1 (aD (ae ⟨g,0,ah⟩) (k+1) c) (k+1) (ps++[aI (ae ⟨w.heap.size+2,0,ah⟩)])->w4.heap.size+1<=w'.heap.size->(∀b,b<w4.heap.size+1->ae b≠lV.ownBlock->w'.heap[b]? =(w4.alloc (aK #[aI (ae ⟨w.heap.size+2,0,ah⟩)] 117)).heap[b]?)->(lV.ownBlock=ae g\/g=w.heap.size+5)->
   Made k come gone (aD x len cap) w w'/\(∀b,b<w.heap.size->ae b≠lV.ownBlock->w'.heap[b]? =w.heap[b]?)/\(lV.ownBlock=ae g\/w.heap.size+5<=g):=λw' g c hown hsz hgrow hat=>by
  have hlt:∀gg,lV.ownBlock=ae gg->gg<w.heap.size:=λgg h=>own_lt hrow h;have hb:∀b,b<w4.heap.size->ae b≠lV.ownBlock->w'.heap[b]? =w4.heap[b]? :=λb hb hne=>by rw[hgrow b ai hne];show(w4.heap.push _)[b]? =_;rw[dz,aU ai]
  have CO:∀b,w.heap.size<=b->ae b≠lV.ownBlock:=λb hb e=>by have:=hlt b e.symm;omega
  refine⟨⟨ai,⟨_,by rw[hb _ ai (CO _ ai)];exact hM4.1⟩,by rw[hb _ ai (CO _ ai)];exact hM4.2.1,by rw[hb _ ai (CO _ ai)];exact hM4.2.2.1,by rw[hb _ ai (CO _ ai)];exact hM4.2.2.2⟩,λb h1 h2=>by rw[hb b ai h2];exact Gp b h1,hat.imp id λe=>ai⟩
 obtain⟨ie,Dk,Ir,Iu,Iw⟩:=kq adG;have hrow4:w4.ownsRow base 117 1 lV k ps:=own_same hrow λg hg=>Gp g (own_lt hrow hg);have c3:=cO hM4.2.2.2 0;have HE:=aA hend;have HQ:=aA hQ;have HR:=aA hrow4;have HS:=aA YU;clear hend hQ hrow hrow4 hM4 Gp YU;have UI:(0:Int)<=(k:Int)/\(k:Int) < (n:Int):=⟨ai,ai⟩;cases hA;simp only[iO,iG,cX,f33,Code.l,Code.r,cN];refine ZQ λτ=>?_;refine pS ?_;refine o2w ?_
 (refine Bf iD rfl rfl aQ (zX _ aN _) (λτ K hK=>?_);go_simp;refine hK _ _ ((w.alloc (aK #[aD x len cap] 51)).alloc ik) ⟨rfl,rfl,rfl⟩ ?_;clear hK K;walk_nrm)
 iterate 6
  refine o2w ?_
 refine on ?_;refine Qw (w:=w4) ⟨rfl,rfl,rfl⟩ ?_;simp only[Nat.add_assoc,Nat.reduceAdd]
 clear_value w4
 refine wpM_seq (wpM_lone iD hcs aQ (oT rfl) (zX _ aN _) (λτ=>?_));go_wp2_with (at_builtin;go_loud (refine wpList_append_lies _ rfl (.tmp 37) (.tmp 39) 166 rfl base 117 ie _ 1 8 underlying166 Dk Ir Iu Iw rfl aN lV k ps rfl (own_same HR.out λg hg=>by have:=own_lt HR.out hg;show(w4.heap.push _)[g]? =_;rw[dz,aU ai]) ⟨w4.heap.size,0,ah⟩ 1 1 [aI (ae ⟨w.heap.size+2,0,ah⟩)] rfl rfl (pd (cs:=#[aI (ae ⟨w.heap.size+2,0,ah⟩)]) (t:=117) (fr:=(0,0)) (gN _ _)) pI aN jk ai (by simp only[bH,cM];have:=HS.out;omega) (w4.heap.size+1) (by simp only[bH,cM]) ?_;intro gg cap' w5 nO hgrow hat aaz;have HF:=aA (HE.out w5 gg cap' nO (by have:=hgrow.size;simp only[bH,cM]at this;exact this) (λb hb hne=>by rw[hgrow.block b (by simp only[bH,cM];exact hb) hne];rfl) (hat.imp id λe=>by have:=HS.out;omega));have V5:=aA nO;clear nO hgrow hat aaz))
 refine⟨w5,⟨rfl,rfl,rfl⟩,?_⟩;try simp only[bE]
 exact HQ.out _ _ _ _ (aaE.mk ..) HF.out.1 HF.out.2.1 V5.out HF.out.2.2
end
end
section
open Go Go.Conc Go.ConcN Go.RowKit
attribute [local go_sem] ba bf bH a8 bC bK aS aV
variable[Inhabited dc]
section
structure RunBase(J:gS σ)(d0:bp)(bc bd br:Nat)(cs:Array ay)(dv:ay)(wb wo:Nat)(w1:aj):Prop where
 n8:J.n<=8
 c:w1.heap[bc]? =ae (aK cs 25 (0,0))
 d:w1.cell? ⟨bd,0,ah⟩=ae dv/\d0.ro bd≠ah
 r:w1.heap[br]? =ae (aK #[aD ah 0 0,aD ah 0 0,aq af 0,.bool aw] 31 (0,0))
 ro:aah d0.ro w1
 work:∀i,i<J.n->∃x c,w1.cell? ⟨wb,wo+i,ah⟩=ae (aD x (J.c.calls i).length c)/\jl J d0.ro i w1 (aD x (J.c.calls i).length c)
 size:w1.heap.size=d0.Wg+1
structure RunAt(J:gS σ)(d0:bp)(w1:aj)(d:bp)(nb:Nat->Nat)(lV:ay)(w:aj):Prop where
 Sq:Squad J d0 d nb
 j:d.j<=J.n
 B:d.B<=w.heap.size
 old:∀(b:Nat) o,w1.heap[b]? =ae o->o≠eh->w.heap[b]? =ae o
 row:∃ps,w.ownsRow (d0.Wg+1) 117 1 lV d.j ps/\∀i,i<d.j->ps[i]? =ae (aI (ae ⟨d.W i,0,ah⟩))
 far:∀g,lV.ownBlock=ae g->∀i,i<d.j->g≠d.W i
 eyes:∀i,i<d.j->w.cell? ⟨d.W i,2,ah⟩=ae (.chan (ae (d.turn i)))/\w.cell? ⟨d.W i,10,ah⟩=ae (.bool (decide (i<d.j/\J.len i<=((J.ar d.j).w i).got.length)))
variable{d:bp}{w:aj}{cs:Array ay}{x:ay}
theorem RunAt.Vk(R:RunAt J d0 w1 d nb lV w)(h:w1.cell? y=ae v):w.cell? y=ae v:=by obtain⟨o,h1,h2⟩:=lS h;rw[←h];exact dr (w:=w1) (by rw[R.old _ o h1 h2,h1])
theorem RunAt.adH(R:RunAt J d0 w1 d nb lV w)(Ba:RunBase J d0 bc bd br cs dv wb wo w1)(hj:d.j<J.n){xs:Option aP}{len cap:Nat}(hx:jl J d0.ro d.j w1 (aD xs len cap))(M:Made d.j d.come d.gone (aD xs len cap) w w2)(hold:∀b,b<w.heap.size->ae b≠lV.ownBlock->w2.heap[b]? =w.heap[b]?):
  Cradle J d (w.heap.size+2) (w.heap.size+1) (w.heap.size+3) w.heap.size bd 170 dv (aD xs len cap) w2:=by
 have hB:=R.B;have E:=R.Sq.E;obtain⟨ps,hrow,_⟩:=R.row;have lI:d0.Wg=d.Wg:=E.Wg.symm;have Ax:=R.Sq.low;have hlt:∀(b:Nat),b<d.Wg+1->w2.heap[b]? =w.heap[b]? :=λb hb=>hold b ai λe=>by have:=fK hrow e.symm;omega
 have hro:d.ro=d0.ro:=E.ro;have ko:∀b,d0.ro b≠ah->w2.heap[b]? =w1.heap[b]?/\∃c e f,w1.heap[b]? =ae (aK c e f):=λb hb=>by obtain⟨c,e,f,h⟩:=Ba.ro b hb;have h1:=R.Sq.ro b (by rw[hro];exact hb);exact⟨by rw[hlt b ai,R.old b _ h bu,h],c,e,f,h⟩
 refine⟨⟨ai,ai,ai,ai⟩,⟨ai,ai,ai,ai,ai,ai⟩,M.W,M.t,M.w,M.c,⟨?_,by rw[hro];exact Ba.d.2⟩,λb hb=>?_,?_⟩
 .rw[←Ba.d.1];exact dr (w:=w1) (ko bd Ba.d.2).1
 .rw[hro]at hb;obtain⟨h1,c,e,f,h2⟩:=ko b hb;exact⟨c,e,f,by rw[h1];exact h2⟩
 .rw[hro];exact hx.same λb hb y hy=>dr (w:=w1) (by rw[hy];exact(ko b hb).1)
theorem RunAt.born(R:RunAt J d0 w1 d nb lV w)(Ba:RunBase J d0 bc bd br cs dv wb wo w1)(hj:d.j<J.n){xs:Option aP}{len cap g:Nat}(I9:∀i,i<d.j->ps[i]? =ae (aI (ae ⟨d.W i,0,ah⟩)))(qu:w.ownsRow (d0.Wg+1) 117 1 lV d.j ps)(M:Made d.j d.come d.gone (aD xs len cap) w w2)(hold:∀b,b<w.heap.size->ae b≠lV.ownBlock->w2.heap[b]? =w.heap[b]?)
  (hrow:w2.ownsRow (d0.Wg+1) 117 1 (aD (ae ⟨g,0,ah⟩) (d.j+1) c) (d.j+1) (ps++[aI (ae ⟨w.heap.size+2,0,ah⟩)]))(hg:lV.ownBlock=ae g\/w.heap.size+5<=g)
  (MR:pC (d.join (w.heap.size+2) (w.heap.size+1) w2.heap.size [rf,bot]) (J.cP (d.join (w.heap.size+2) (w.heap.size+1) w2.heap.size [rf,bot]).W) (λb=>Taken (w.heap.size+2) (w.heap.size+3) w.heap.size w2.heap.size b\/b=w.heap.size+1) w2 (d.j+1) w'):
  RunAt J d0 w1 (d.join (w.heap.size+2) (w.heap.size+1) w2.heap.size [rf,bot]) (λi=>if i=d.j then w2.heap.size else nb i) (aD (ae ⟨g,0,ah⟩) (d.j+1) c) w':=by
 have hB:=R.B;have E:=R.Sq.E;have hs2:=M.size;have lI:d0.Wg=d.Wg:=E.Wg.symm;have Ax:=R.Sq.low;have NA:g<w2.heap.size:=own_lt hrow rfl;have hgb:d0.Wg+1<=g:=fK hrow rfl;have sN:∀i,i<d.j->(d.join (w.heap.size+2) (w.heap.size+1) w2.heap.size [rf,bot]).W i=d.W i:=λi hi=>by show(if i=d.j then _ else d.W i)=_;rw[aU ai]
 have eW:(d.join (w.heap.size+2) (w.heap.size+1) w2.heap.size [rf,bot]).W d.j=w.heap.size+2:=by show(if d.j=d.j then _ else _)=_;rw[aX rfl]
 have MA:∀i,i<d.j+1->g≠(d.join (w.heap.size+2) (w.heap.size+1) w2.heap.size [rf,bot]).W i:=λi hi=>by
  by_cases e:i=d.j
  .subst e;rw[eW];rcases hg with h|h
   .have:=own_lt qu h;omega
   .omega
  .rw[sN i ai];rcases hg with h|h
   .exact R.far g h i ai
   .have:=(R.Sq.lt i ai).1;omega
 have adp:¬(Taken (w.heap.size+2) (w.heap.size+3) w.heap.size w2.heap.size g\/g=w.heap.size+1):=by
  rintro((h|h|h|h)|h)
  .omega
  all_goals
   rcases hg with h'|h'
   .have:=own_lt qu h';omega
   .omega
 obtain⟨S',_⟩:=R.Sq.join (jC:=[rf,bot]) (Wk:=w.heap.size+2) (tk:=w.heap.size+1) (pn:=w2.heap.size) ai ai ai ai aJ;have hjj:(d.join (w.heap.size+2) (w.heap.size+1) w2.heap.size [rf,bot]).j=d.j+1:=rfl;refine⟨S',by rw[hjj];omega,?_,λb o h1 h2=>?_,⟨_,own_same hrow λgg xf=>?_,λi hi=>?_⟩,λgg xf i hi=>?_,λi hi=>?_⟩
 .have:=MR.fwl d.j (Nat.lt_succ_self _) w2.heap.size (0,1) (by show(if d.j=d.j then sL (w.heap.size+2) w2.heap.size else _) w2.heap.size=_;rw[aX rfl];have hne:¬w2.heap.size=w.heap.size+2:=ai;simp[sL,hne]);show w2.heap.size+1<=_;omega
 .have hb:=(bF.1 h1).1;rw[Ba.size]at hb;refine MR.same b o ?_ h2 (λi hi e=>?_) λh=>?_
  .rw[hold b ai λe=>by have:=fK qu e.symm;omega];exact R.old b o h1 h2
  .rw[e]at hb;by_cases e':i=d.j
   .rw[e',eW]at hb;omega
   .have hi:i<d.j+1:=hi;rw[sN i ai]at hb;have:=(R.Sq.lt i ai).2.2.2.1;omega
  .rcases h with(h|h|h|h)|h<;>omega
 .obtain rfl:g=gg:=by simpa[iE]using xf
  obtain⟨g',cap',cur,e,_,h2,_⟩:=hrow.2.resolve_left (λh=>by cases h.1);simp only[uj,dD,Addr.mk.injEq,and_true,true_and]at e;rw[←e.1]at h2;rw[h2];exact MR.same g _ h2 bu (λi hi=>MA i hi) adp
 .have hi:i<d.j+1:=hi;have hl:ps.length=d.j:=by have:=qu.1;omega
  by_cases e:i=d.j
  .subst e;rw[nI ai,hl,Nat.sub_self,eW];rfl
  .rw[lz ai,sN i ai];exact I9 i ai
 .obtain rfl:g=gg:=by simpa[iE]using xf
  exact MA i hi
 .refine⟨MR.facts i hi (⟨_,2,ah⟩,.chan (ae _)) ?_ rfl,?_⟩
  .rw[S'.facts i hi];simp[gO]
  .obtain⟨r,hwr,⟨c,e,f,hc,_,hc'⟩,_⟩:=MR.recs i hi;have hi:i<d.j+1:=hi;obtain⟨be,ow,sl,_,_,_,h10,_⟩:=hwr ai;rw[ax hc]at h10;rw[ax hc'];exact h10
end
section
variable{d:bp}{w:aj}{cs:Array ay}{x:ay}
variable{S:bN}{Stop:Ph->aB->List aB->aj->Prop}
theorem V6(R:RunAt J d0 w1 d nb lV w)(Ba:RunBase J d0 bc bd br cs dv wb wo w1)(hP:d0.P=aC)(Iz:d0.ty=link.tWg)(hbase:d0.base=J.n)(hcC:J.n<=d0.csC.size)(G:Gig J d0.ro AD x dv)(hj:d.j<J.n){xs:Option aP}{len cap g:Nat}(hx:jl J d0.ro d.j w1 (aD xs len cap))(I9:∀i,i<d.j->ps[i]? =ae (aI (ae ⟨d.W i,0,ah⟩)))(qu:w.ownsRow (d0.Wg+1) 117 1 lV d.j ps)(M:Made d.j d.come d.gone (aD xs len cap) w w2)(hold:∀b,b<w.heap.size->ae b≠lV.ownBlock->w2.heap[b]? =w.heap[b]?)
  (hrow:w2.ownsRow (d0.Wg+1) 117 1 (aD (ae ⟨g,0,ah⟩) (d.j+1) c) (d.j+1) (ps++[aI (ae ⟨w.heap.size+2,0,ah⟩)]))(hg:lV.ownBlock=ae g\/w.heap.size+5<=g)(hA:aaE bc bd br d.come d.gone d.Wg (aD (ae ⟨g,0,ah⟩) (d.j+1) c) wb wo J.n wc d.j w.heap.size (w.heap.size+3) a)
  {Q:Ph->Exit->Act->aj->Prop}(hQ:∀a' w' d' nb',LA bc bd br d'.come d'.gone d'.Wg (aD (ae ⟨g,0,ah⟩) (d.j+1) c) wb wo J.n wc d.j a'->d'.j=d.j+1->RunAt J d0 w1 d' nb' (aD (ae ⟨g,0,ah⟩) (d.j+1) c) w'->Q (.run (d.j+1) d') .normal a' w'):
  wpM aC au d0.cs0 (JP aC S d0.cs0 λd=>J.cP d.W) Stop U 33 (.seq iO.r.r.r.l iO.r.r.r.r) Q (.run d.j d) a w2:=by
 have E:=R.Sq.E;have hP':d.P=aC:=E.P.trans hP;have adE:d.ty=link.tWg:=E.ty.trans Iz;have hcs:d.cs0=d0.cs0:=E.cs0;have C:=R.adH Ba hj hx M hold;have G':Gig J d.ro AD x dv:=by rw[E.ro];exact G
 have aby:=λrf w' MR=>RunAt.born R Ba hj I9 qu M hold hrow hg (rf:=rf) (w':=w') MR;have HB:=aA aby;have HQ:=aA hQ;have HC:=aA C;refine M8 λb k fs hfn Jc hu hnext=>?_;have HX:=aA hnext;have Lj:b.kind≠.early:=by rw[Jc];decide
 clear hnext hQ aby hu hfn;cases hA;simp only[iO,iG,cX,f33,Code.l,Code.r,cN];refine .pure (λ_=>bU) (.pure (λ_=>gv) ?_);refine rg ?_;have hSq:=R.Sq;have hn8:=Ba.n8;have ah2:J.n<=d.csC.size:=by rw[E.csC];exact hcC
 have hb':=E.base.trans hbase;clear R Ba I9 qu M hold hrow hg hx C G;refine .jump (K:=λi' cB dg a'=>∃t' d',i'=.run t' d'/\((t',d')=(d.j+1,d.join (w.heap.size+2) (w.heap.size+1) w2.heap.size [RY d.Wg (w.heap.size+3) bd w.heap.size (w.heap.size+2) dv (aD xs len cap),bot])/\(∃v,cB=Frame.finish _ v)/\dg=fs/\pC (d.join (w.heap.size+2) (w.heap.size+1) w2.heap.size [RY d.Wg (w.heap.size+3) bd w.heap.size (w.heap.size+2) dv (aD xs len cap),bot]) (J.cP (d.join (w.heap.size+2) (w.heap.size+1) w2.heap.size [RY d.Wg (w.heap.size+3) bd w.heap.size (w.heap.size+2) dv (aD xs len cap),bot]).W) (λb=>Taken (w.heap.size+2) (w.heap.size+3) w.heap.size w2.heap.size b\/b=w.heap.size+1) w2 (d.j+1) a'))
  (.inl ⟨_,.inr ⟨w.heap.size+2,w.heap.size+1,(0,12),_,_,_,_,_,_,_,_,RZ (v:=.func (.func 72) #[] #[aI (ae ⟨d.Wg,0,ah⟩),aI (ae ⟨w.heap.size+3,0,ah⟩),aI (ae ⟨bd,0,ah⟩),aI (ae ⟨w.heap.size,0,ah⟩)]) (v3:=.chan (ae d.come)) hSq hP' adE hb' hj hn8 ah2 G' HC.out (gS.Gj G'.L) Lj rfl rfl rfl dS rfl rfl rfl (λw=>by simp[go_sem,bT,cS,Act.put]) rfl rfl (λw=>by simp[go_sem,bT,cS,Act.put,cl]) (λw=>by simp[go_sem,bT,cS,Act.put]) rfl rfl rfl (λw=>by simp[go_sem,bT,cS,Act.put]) rfl rfl (λw=>by simp[go_sem,bT,cS,Act.put,dh]) (λw=>by simp[go_sem,bT,cS,Act.put]),rfl⟩,rfl⟩) ?_
 rintro i' cB dg a' ⟨t',d',rfl,h1,⟨v,rfl⟩,rfl,hR⟩;simp only[Prod.mk.injEq]at h1;obtain⟨rfl,rfl⟩:=h1;rw[iB];walk_nrm;exact .pure (λ_=>bP) (HX.out _ _ _ (HQ.out _ _ _ _ (LA.mk ..) rfl (HB.out _ _ hR)))
end
section
variable{d:bp}{w:aj}{cs:Array ay}{x:ay}
variable{S:bN}{Stop:Ph->aB->List aB->aj->Prop}
theorem Sd(Ha:NE (d0.cs0))(R:RunAt J d0 w1 d nb lV w)(Ba:RunBase J d0 bc bd br cs dv wb wo w1)(hwc:J.n<=wc)(hP:d0.P=aC)(Iz:d0.ty=link.tWg)(hbase:d0.base=J.n)(hcC:J.n<=d0.csC.size)(G:Gig J d0.ro AD x dv)(hj:d.j<J.n)
  (hA:LA bc bd br d.come d.gone d.Wg lV wb wo J.n wc d.j a){Q:Ph->Exit->Act->aj->Prop}(hQ:∀a' w' d' nb' lV',LA bc bd br d'.come d'.gone d'.Wg lV' wb wo J.n wc d.j a'->d'.j=d.j+1->RunAt J d0 w1 d' nb' lV' w'->Q (.run (d.j+1) d') .normal a' w'):
  wpM aC au d0.cs0 (JP aC S d0.cs0 λd=>J.cP d.W) Stop U 33 iO Q (.run d.j d) a w:=by
 obtain⟨ps,hrow,I9⟩:=R.row;obtain⟨xs,cap,hcv,hcalls⟩:=Ba.work d.j hj;rw[Sb];refine run_make Ha hA hj Ba.n8 hwc (R.Vk hcv) (base:=d0.Wg+1) (by have:=R.B;have:=R.Sq.low;have:=R.Sq.E.Wg;omega) hrow λa' w' g c hA' M hold hrow' hg=>?_;exact V6 R Ba hP Iz hbase hcC G hj hcalls I9 hrow M hold hrow' hg hA' λa2 w3 d' nb' tT hj' R'=>hQ _ _ _ _ _ tT hj' R'
theorem V7(Ha:NE (d0.cs0))(R:RunAt J d0 w1 d nb lV w)(Ba:RunBase J d0 bc bd br cs dv wb wo w1)(hwc:J.n<=wc)(hP:d0.P=aC)(Iz:d0.ty=link.tWg)(hbase:d0.base=J.n)(hcC:J.n<=d0.csC.size)(G:Gig J d0.ro AD x dv)(hj:d.j=0)
  (hA:LA bc bd br d.come d.gone d.Wg lV wb wo J.n wc 0 a){Q:Ph->Exit->Act->aj->Prop}(hQ:∀a' w' d' nb' lV',LA bc bd br d'.come d'.gone d'.Wg lV' wb wo J.n wc J.n a'->d'.j=J.n->RunAt J d0 w1 d' nb' lV' w'->Q (.run J.n d') .normal a' w'):
  wpM aC au d0.cs0 (JP aC S d0.cs0 λd=>J.cP d.W) Stop U 33 iG Q (.run 0 d) a w:=by
 rw[Sa];refine cE (iV (λm i a w=>∃d nb lV,m=J.n-d.j/\i=.run d.j d/\LA bc bd br d.come d.gone d.Wg lV wb wo J.n wc d.j a/\RunAt J d0 w1 d nb lV w) (n:=J.n) ⟨d,nb,lV,by rw[hj];rfl,by rw[hj],by rw[hj];exact hA,R⟩ ?_);clear hA R hj;rintro m i a w ⟨d,nb,lV,rfl,rfl,hA,R⟩;have hjn:=R.j;have hn8:=Ba.n8;have hR8:wpM aC au d0.cs0 (JP aC S d0.cs0 λd=>J.cP d.W) Stop U 33 iG.l.l.l (λi' e a' w'=>e=.normal/\i'=.run d.j d/\LA bc bd br d.come d.gone d.Wg lV wb wo J.n wc d.j a'/\a'.eval (.tmp 27)=.bool (decide (d.j<J.n))/\w'=w) (.run d.j d) a w:=by have Hb:(decide ((d.j:Int) < (J.n:Int)))=decide (d.j<J.n):=aJ;clear R Ba G hQ;cases hA;simp only[iO,iG,cX,f33,Code.l,Code.r,cN];refine wpM_lone iD Ha aQ (oT rfl) (zX _ aN _) (λτ=>?_);go_wp2;exact⟨bD _ _,LA.mk ..⟩
 refine wpM_seq (fu hR8 ?_);rintro i2 e2 a2 w2 ⟨rfl,rfl,tT,h27,rfl⟩;simp only[bE];by_cases hlt:d.j<J.n
 .refine wpM_seq (bz (t:=au) (by rw[h27];simp[hlt]) (eY ?_));simp only[bE];refine wpM_seq (cE (Sd Ha R Ba hwc hP Iz hbase hcC G hlt tT λa3 w3 d' nb' lV' Fc hj' R3=>?_));simp only[bE,gu];have hwr:IntKind.i64.wrap ((d.j:Int) +1)=((d.j+1:Nat):Int):=by rw[gq];omega
  have aag:wpM aC au d0.cs0 (JP aC S d0.cs0 λd=>J.cP d.W) Stop U 33 iG.l.l.r.r.r (λi' e a' w'=>e=.normal/\i'=.run (d.j+1) d'/\LA bc bd br d'.come d'.gone d'.Wg lV' wb wo J.n wc (d.j+1) a'/\w'=w3) (.run (d.j+1) d') a3 w3:=by clear R R3 Ba G hQ hR8 hA tT h27;cases Fc;simp only[iO,iG,cX,f33,Code.l,Code.r,cN];refine wpM_lone iD Ha aQ (oT rfl) (zX _ aN _) (λτ=>?_);go_wp2;exact⟨bD _ _,LA.mk ..⟩
  refine fu aag ?_;rintro i4 e4 a4 w4 ⟨rfl,rfl,IA,rfl⟩;simp only[bE];exact⟨J.n- (d.j+1),ai,d',nb',lV',by rw[hj'],by rw[hj'],by rw[hj'];exact IA,R3⟩
 .have hje:d.j=J.n:=ai;refine wpM_seq (bz (t:=aw) (by rw[h27];simp[hlt]) (iU ?_));simp only[bE,gu,if_true];have:=hQ a2 w2 d nb lV (by rw[hje]at tT;exact tT) hje R;rw[hje];exact this
end
end
section
open Go Go.Conc Go.ConcN Go.RowKit
open Go.ConcR (KK wgBlock WgAt stA smA rd wr mk Payload Aside2 DC0)
attribute [local go_sem] ba bf bH a8 bC bK aS aV
variable[Inhabited dc]
section
def roW(ro0:Nat->Option (Nat×Nat))(bd:Nat)(b:Nat):Option (Nat×Nat):=if b=bd then ae (0,1)else ro0 b
structure iP(J:gS σ)(ro0:Nat->Option (Nat×Nat))(wb wo wc tc hc:Nat)(tu ha:Option aP)(csC:Array ay)(eC:bq)(a:aj):Prop where
 ok:gh (J.c.work.map List.length) J.c.until_=au
 rof:∀b f,ro0 b=ae f->f.1=0/\∃c e,a.heap[b]? =ae (aK c e (0,0))/\c.size<=f.2
 C:a.heap[wb]? =ae (aK csC eC (0,0))/\ro0 wb=ae (0,csC.size)/\J.n<=csC.size/\J.n<=wc
 w:∀i,i<J.n->∃x c,a.cell? ⟨wb,wo+i,ah⟩=ae (aD x (J.c.calls i).length c)/\jl J ro0 i a (aD x (J.c.calls i).length c)
 tu:(tu=ah/\J.c.turns=[]/\tc=0)\/∃tb to,tu=ae ⟨tb,to,ah⟩/\∀i,i<J.c.turns.length->ro0 tb≠ah/\a.cell? ⟨tb,to+i,ah⟩=ae (aq af (J.c.turns.getD i 0))
 ha:∀i,i<J.c.halt.length->∃hb ho,ha=ae ⟨hb,ho,ah⟩/\a.cell? ⟨hb,ho+i,ah⟩=ae (aq af (J.c.halt.getD i 0))/\ro0 hb≠ah
 rep:J.L.Rep J.s0 a
 L0:J.L.Ok ro0
 tl:J.c.turns.length<100000
theorem iP.n{tu:Option aP}{a:aj}(C:iP J ro0 wb wo wc tc hc tu ha csC eC a):0<J.n/\J.n<=8/\J.c.until_<=20000:=by have h:=C.ok;unfold gh at h;simp only[uC,cR,decide_eq_true_eq]at h;have:J.n=J.c.work.length:=rfl;omega
noncomputable def jK(S:bN)(cs0:List aB)(n come gone Wg wb:Nat)(csC:Array ay)(eC:bq)(ro:Nat->Option (Nat×Nat)):bp where
 P:=aC
 S:=S
 j:=0
 base:=n
 come:=come
 gone:=gone
 Wg:=Wg
 C:=wb
 B:=Wg+1
 ty:=link.tWg
 turn _:=0
 W _:=0
 facts _:=[]
 csC:=csC
 eC:=eC
 cs0:=cs0
 cw _:=[bot]
 ro:=ro
 fw _ _:=ah
 fm _:=ah
variable{tu:Option aP}{a w:aj}{S:bN}{gone:Nat}{x:ay}{cs:Array ay}
theorem ah3(hcs:NE cs0){n:Nat}{ro:Nat->Option (Nat×Nat)}(h1:come≠gone)(h2:come≠Wg)(h3:gone≠Wg)(h4:wb≠Wg)(h5:ro wb=ae (0,csC.size))(h6:∀b f,ro b=ae f->f.1=0)(h7:ro Wg=ah):(jK S cs0 n come gone Wg wb csC eC ro).Fit:=
 ⟨⟨h4,h1,λi hi=>aT hi (fR _),λi hi=>aT hi (fR _),λi i' hi=>aT hi (fR _),bZ h2,bZ h3,λi hi=>aT hi (fR _),λi hi=>aT hi (fR _),h5⟩,
  λi hi=>aT hi (fR _),λi hi=>aT hi (fR _),λb f h=>dB,λi hi=>aT hi (fR _),λi hi=>aT hi (fR _),λi=>rfl,rfl,h6,λi hi=>aT hi (fR _),h7,hcs,λi=>by simp[jK]⟩
structure jV(J:gS σ)(ro0:Nat->Option (Nat×Nat))(cs:Array ay)(dv:ay)(come gone:Nat)(a w:aj):Prop where
 size:a.heap.size+5<=w.heap.size
 old:∀b,b<a.heap.size->w.heap[b]? =a.heap[b]?
 c:w.heap[a.heap.size]? =ae (aK cs 25 (0,0))
 d:∃e,w.heap[a.heap.size+1]? =ae (aK #[dv] e (0,0))
 r:w.heap[a.heap.size+2]? =ae (aK #[aD ah 0 0,aD ah 0 0,aq af 0,.bool aw] 31 (0,0))
 hcome:w.heap[come]? =ae ik
 hgone:w.heap[gone]? =ae ik
 ne:come≠gone/\a.heap.size+3<=come/\a.heap.size+3<=gone
theorem NT(B:adF cs dv a w1)(h:(come=w1.heap.size/\gone=w1.heap.size+1)\/(gone=w1.heap.size/\come=w1.heap.size+1)):jV J ro0 cs dv come gone a ((w1.alloc ik).alloc ik):=by
 have hs:=B.size;have hold:∀b,b<w1.heap.size->((w1.alloc ik).alloc ik).heap[b]? =w1.heap[b]? :=λb hb=>by simp only[←dt,dz,fN];rw[aU ai,aU ai]
 have h0:((w1.alloc ik).alloc ik).heap[w1.heap.size]? =ae ik:=by simp only[←dt,dz,fN];rw[aU ai,aX trivial]
 have h1:((w1.alloc ik).alloc ik).heap[w1.heap.size+1]? =ae ik:=by simp only[←dt,dz,fN];rw[aX trivial]
 obtain⟨e,hd⟩:=B.d;refine⟨dp,λb hb=>by rw[hold b ai];exact B.old b hb,by rw[hold _ ai];exact B.c,⟨e,by rw[hold _ ai];exact hd⟩,by rw[hold _ ai];exact B.r,?_,?_,?_⟩
 .rcases h with⟨rfl,rfl⟩|⟨rfl,rfl⟩ <;>assumption
 .rcases h with⟨rfl,rfl⟩|⟨rfl,rfl⟩ <;>assumption
 .omega
theorem yh(hr:∀b,ro0 b≠ah->b<a.heap.size)(h:ro0 b≠ah):roW ro0 (a.heap.size+1) b=ro0 b:=by have:=hr b h;unfold roW;rw[aU ai]
theorem iP.lt(C:iP J ro0 wb wo wc tc hc tu ha csC eC a)(h:ro0 b≠ah):b<a.heap.size:=by obtain⟨f,hf⟩:=nE.1 h;obtain⟨_,c,e,hc,_⟩:=C.rof b f hf;exact(bF.1 hc).1
theorem jV.rep(A:jV J ro0 cs dv come gone a w)(C:iP J ro0 wb wo wc tc hc tu ha csC eC a):J.L.Rep J.s0 w/\(∀b,J.L.Foot w b↔J.L.Foot a b)/\∀b,J.L.Foot a b->b<a.heap.size/\ro0 b=ah:=by
 have hlt:∀b,J.L.Foot a b->b<a.heap.size/\ro0 b=ah:=λb hb=>by obtain⟨⟨c,e,hc⟩,h⟩:=C.L0.foot _ _ _ C.rep hb;exact⟨(bF.1 hc).1,h⟩
 obtain⟨h1,h2⟩:=C.L0.rep _ a w C.rep λb hb=>A.old b (hlt b hb).1;exact⟨h1,h2,hlt⟩
theorem jV.ro(A:jV J ro0 cs dv come gone a w)(C:iP J ro0 wb wo wc tc hc tu ha csC eC a)(b:Nat)(f:Nat×Nat)(h:roW ro0 (a.heap.size+1) b=ae f):f.1=0/\∃c e,w.heap[b]? =ae (aK c e (0,0))/\c.size<=f.2:=by
 obtain⟨ed,hd⟩:=A.d;unfold roW at h;split at h
 .rename_i e;obtain rfl:=bj h;subst e;exact⟨rfl,_,_,hd,aJ⟩
 .obtain⟨h1,c,e,hc,h2⟩:=C.rof b f h;exact⟨h1,c,e,by rw[A.old b (bF.1 hc).1];exact hc,h2⟩
theorem FH(hcs:NE cs0)(A:jV J ro0 cs dv come gone a w)(C:iP J ro0 wb wo wc tc hc tu ha csC eC a)(hcl:come<w.heap.size/\gone<w.heap.size):(jK S cs0 J.n come gone w.heap.size wb csC eC (roW ro0 (a.heap.size+1))).Fit:=by
 have hs:=A.size;have hlt:=λb (h:ro0 b≠ah)=>C.lt h;have hwb:=hlt wb (by rw[C.C.2.1];simp);refine ah3 hcs A.ne.1 ai ai ai ?_ (λb f h=>(A.ro C b f h).1) ?_
 .rw[yh hlt (by rw[C.C.2.1];simp)];exact C.C.2.1
 .cases e:roW ro0 (a.heap.size+1) w.heap.size with
  |none=>rfl
  |some f=>obtain⟨_,c,e',hc,_⟩:=A.ro C _ f e;have:=(bF.1 hc).1;omega
theorem Sg(hcs:NE cs0)(A:jV J ro0 cs dv come gone a w)(C:iP J ro0 wb wo wc tc hc tu ha csC eC a)(hL:J.L.Ok (roW ro0 (a.heap.size+1))){fr cB:aB}
  (hstep:∀w3:aj,w3.heap.size=w.heap.size->bn aC au (cy fr (fs++cs0)) w3=.go (cy cB (fs++cs0)) {w3 with heap:=w3.heap.push (wgBlock link.tWg 0 0)} #[])(hcl:come<w.heap.size/\gone<w.heap.size):
  Start (jK S cs0 J.n come gone w.heap.size wb csC eC (roW ro0 (a.heap.size+1))) (J.cP (jK S cs0 J.n come gone w.heap.size wb csC eC (roW ro0 (a.heap.size+1))).W) w fr fs cB:=by
 have hlt:=λb (h:ro0 b≠ah)=>C.lt h;have hwb:=hlt wb (by rw[C.C.2.1];simp);obtain⟨eI,fS,DM⟩:=A.rep C;refine⟨rfl,rfl,hstep,FH hcs A C hcl,gS.Gj hL,A.hcome,A.hgone,?_,?_,λb f h=>(A.ro C b f h).2⟩
 .show w.heap[wb]? =_;rw[A.old wb hwb];exact C.C.1
 .show J.L.Rep (J.ar 0).s w;rw[J.tU (bQ _)];exact eI
theorem rF(A:jV J ro0 cs dv come gone a w)(C:iP J ro0 wb wo wc tc hc tu ha csC eC a)(A8:d0=jK S cs0 J.n come gone w.heap.size wb csC eC (roW ro0 (a.heap.size+1)))(V:pE d0 (J.cP d0.W) w a'):
  RunBase J d0 a.heap.size (a.heap.size+1) (a.heap.size+2) cs dv wb wo a'/\(∀b o,a.heap[b]? =ae o->o≠eh->¬J.L.Foot a b->(ro0 b=ah->a'.heap[b]? =ae o)/\(∀f,ro0 b=ae f->∃c e,o=aK c e (0,0)/\a'.heap[b]? =ae (aK c e f))):=by
 have hs:=A.size;obtain⟨eI,fS,DM⟩:=A.rep C;have hro:d0.ro=roW ro0 (a.heap.size+1):=by rw[A8];rfl
 have hlt:=λb (h:ro0 b≠ah)=>C.lt h;have hF:∀b,a.heap.size<=b->¬(J.cP d0.W).Foot w b:=λb hb hf=>by have:=(DM b ((fS b).1 hf)).1;omega
 have Ey:d0.come=come/\d0.gone=gone:=by rw[A8];exact⟨rfl,rfl⟩
 have AU:∀b,a.heap.size<=b->b≠a.heap.size+1->d0.ro b=ah:=λb hb hne=>by
  rw[hro];unfold roW;rw[aU hne];cases e:ro0 b with
  |none=>rfl
  |some f=>have:=hlt b oM;omega
 obtain⟨ed,hd⟩:=A.d;have Ga:d0.ro (a.heap.size+1)=ae (0,1):=by rw[hro];simp[roW]
 have Qn:∀b f,ro0 b=ae f->∃c e,a.heap[b]? =ae (aK c e (0,0))/\a'.heap[b]? =ae (aK c e f):=λb f h=>by have hb:=hlt b (by rw[h];simp);obtain⟨c,e,h1,h2⟩:=V.ro b f (by rw[hro,yh hlt (by rw[h];simp)];exact h);exact⟨c,e,by rw[←A.old b hb];exact h1,h2⟩
 have hcell:∀b,ro0 b≠ah->∀y:aP,y.block=b->a'.cell? y=a.cell? y:=λb hb y hy=>by obtain⟨f,hf⟩:=nE.1 hb;obtain⟨c,e,h1,h2⟩:=Qn b f hf;simp only[fG,hy,h1,h2]
 refine⟨⟨C.n.2.1,?_,⟨?_,by rw[Ga];simp⟩,?_,λb hb=>?_,λi hi=>?_,by rw[V.size,A8];rfl⟩,λb o h1 h2 h3=>⟨λh4=>?_,λf h4=>?_⟩⟩
 .refine V.same _ _ A.c bu (hF _ (bJ _)) (by rw[Ey.1];have:=A.ne;omega) (by rw[Ey.2];have:=A.ne;omega) (AU _ (bJ _) ai)
 .obtain⟨c,e,h1,h2⟩:=V.ro _ _ Ga;rw[hd]at h1;simp only[dD,vw,and_true]at h1;rw[ax h2,←h1.1];rfl
 .refine V.same _ _ A.r bu (hF _ ai) (by rw[Ey.1];have:=A.ne;omega) (by rw[Ey.2];have:=A.ne;omega) (AU _ ai ai)
 .obtain⟨f,hf⟩:=nE.1 hb;obtain⟨c,e,h1,h2⟩:=V.ro _ _ hf;exact⟨c,e,f,h2⟩
 .obtain⟨x,c,h1,h2⟩:=C.w i hi;refine⟨x,c,?_,?_⟩
  .rw[hcell wb (by rw[C.C.2.1];simp) _ rfl];exact h1
  .have h3:=h2.same (w':=a') hcell;obtain⟨cb,co,cap,g1,g2,g3⟩:=h3.ex;have abz:∀b,ro0 b≠ah->d0.ro b≠ah:=λb hb=>(by rw[hro,yh hlt hb];exact hb);exact⟨⟨cb,co,cap,g1,λhne=>abz _ (g2 hne),λi c hc=>by obtain⟨pv,b0,b1,b2,b3,b4,b5,b6⟩:=g3 i c hc;exact⟨pv,b0,b1,b2,b3,b4,b5,λy n e h=>abz _ (b6 y n e h)⟩⟩⟩
 .have hb:=(bF.1 h1).1;refine V.same b o (by rw[A.old b hb];exact h1) h2 (λhf=>h3 ((fS b).1 hf)) (by rw[Ey.1];have:=A.ne;omega) (by rw[Ey.2];have:=A.ne;omega) ?_;rw[hro];unfold roW;rw[aU ai];exact h4
 .obtain⟨c,e,g1,g2⟩:=Qn b f h4;rw[h1]at g1;exact⟨c,e,bj g1,g2⟩
end
end
section
open Go Go.Conc Go.ConcN Go.RowKit
variable[Inhabited dc]
def Ez(lo:Nat)(w:aj)(b:Nat):Option (Nat×Nat):=if lo<=b then(match w.heap[b]? with|some (aK c _ f)=>if f=(0,0)then ae (0,c.size)else ah|_=>ah)else ah
theorem PL{w:aj}(h:Ez lo w b≠ah):b<w.heap.size:=by
 unfold Ez at h;split at h
 .rcases ji b w.heap.size with hl|hl
  .exact hl
  .rw[np hl]at h;exact aT rfl h
 .exact aT rfl h
theorem Sh{w:aj}(h:Ez lo w b=ae f):f.1=0/\∃c e,w.heap[b]? =ae (aK c e (0,0))/\c.size<=f.2:=by
 unfold Ez at h;split at h
 .split at h
  .rename_i c e f' he;split at h
   .rename_i h0;subst h0;obtain rfl:=bj h;exact⟨rfl,c,e,he,bJ _⟩
   .cases h
  .cases h
 .cases h
theorem Db{w:aj}{c:Array ay}(h:w.heap[b]? =ae (aK c e (0,0)))(hl:lo<=b):Ez lo w b=ae (0,c.size):=by unfold Ez;rw[aX hl,h];simp
theorem yi{w:aj}{g:Nat}(h:w.ownsRow lo e sz v m xs)(hg:v.ownBlock=ae g):Ez lo w g≠ah:=by obtain⟨cur,hc⟩:=dV h hg;rw[Db hc (h.lt g hg).1];simp
theorem Hh:∀(l:List bs) (jo:List ay) (i q:Nat) (c:bs) (pv:ay),l[i]? =ae c->jo[i]? =ae pv->q<5->(fL l jo)[i*5+q]? =(dN c pv)[q]? :=by
 intro l;induction l with
 |nil=>intro jo i q c pv h;cases h
 |cons d l ih=>
  intro jo i q c pv h1 h2 hq;cases jo with
  |nil=>cases h2
  |cons p jo=>
   have e:fL (d::l) (p::jo)=dN d p++fL l jo:=(by simp[fL,List.flatMap_cons]);rw[e];cases i with
   |zero=>obtain rfl:d=c:=nG;obtain rfl:p=pv:=rW;rw[lz (by simp[dN];omega)];congr 1;omega
   |succ i=>rw[nI (by simp[dN];omega),←ih jo i q c pv nG rW hq];congr 1;simp[dN];omega
section
variable{w:aj}{cc:cu}{wk tu:Option aP}
theorem uD(h:w.ownsRow B e sz v m xs)(hp:0<m):∃g cap,v=aD (ae ⟨g,0,ah⟩) m cap/\∀j,j<m*sz->w.cell? ⟨g,j,ah⟩=xs[j]? :=by obtain⟨g,cap,rfl,_⟩:=h.form hp;exact⟨g,cap,rfl,λj hj=>h.cellAt j hj⟩
theorem adI{l:List (Int×Int)}(h:mN w B v l):SlP w v l:=by
 rcases mr l.length with h0|h0
 .obtain⟨a,c,rfl⟩:=dX h;exact⟨a,c,rfl,ai,λi hi=>ai⟩
 .obtain⟨g,cap,rfl,hc⟩:=uD h h0;have tC:l.length<=cap:=by
   rcases h.2 with⟨_,h1⟩|⟨g',cap',cur,h1,_,_,h2,_⟩
   .omega
   .simp only[uj]at h1;omega
  refine⟨_,cap,rfl,tC,λi hi=>⟨_,rfl,rfl,?_⟩⟩;obtain⟨h1,h2⟩:=vJ l i hi;refine⟨?_,?_⟩
  .rw[eB,hc _ ai];exact h1
  .rw[eB,hc _ ai];exact h2
theorem NU{l:List bs}(h:ln w lo v l)(hk:J.c.calls k=l):jl J (Ez lo w) k w v:=by
 obtain⟨jo,hl,hrow,I9⟩:=h;rcases mr l.length with h0|h0
 .have hnil:l=[]:=List.eq_nil_of_length_eq_zero h0;subst hnil;rcases hrow.2 with⟨rfl,_⟩|⟨g,cap,cur,rfl,_⟩
  .exact⟨0,0,0,.inr ⟨rfl,hk⟩,λhne=>aT hk hne,λi c hc=>by rw[hk]at hc;cases hc⟩
  .exact⟨g,0,cap,.inl (by rw[hk]),λhne=>aT hk hne,λi c hc=>by rw[hk]at hc;cases hc⟩
 .obtain⟨g,cap,rfl,hc⟩:=uD hrow h0;refine⟨g,0,cap,.inl (by rw[hk]),λ_=>yi hrow rfl,λi c hi=>?_⟩;rw[hk]at hi;have Uu:=(eX.1 hi).1;have hpi:jo[i]? =ae jo[i]:=eQ ai;have hq:∀q,q<5->w.cell? ⟨g,0+i*5+q,ah⟩=(dN c jo[i])[q]? :=λq hq=>by rw[eB,hc _ ai];exact Hh l jo i q c _ hi hpi hq
  have Zp:=I9 i c _ hi hpi;exact⟨jo[i],hq 0 ai,hq 1 ai,hq 2 ai,hq 3 ai,hq 4 ai,adI Zp,λy n e hv=>yi Zp (by rw[hv];rfl)⟩
theorem Ho(hok:gh (cc.work.map List.length) cc.until_=au)(A:uv w lo (aD wk cc.work.length wc) cc.work)(T:w.ownsRow lo 3 1 (aD tu cc.turns.length tc) cc.turns.length (gH cc.turns))(H:w.ownsRow lo 3 1 (aD ha cc.halt.length hc) cc.halt.length (gH cc.halt))(tl:cc.turns.length<100000):
  ∃wb csC eC,wk=ae ⟨wb,0,ah⟩/\∀(J:gS σ) (a':aj),J.c=cc->w.heap.size<=a'.heap.size->(∀y,y<w.heap.size->a'.heap[y]? =w.heap[y]?)->J.L.Rep J.s0 a'->J.L.Ok (Ez lo w)->iP J (Ez lo w) wb 0 wc tc hc tu ha csC eC a':=by
 have lJ:0<cc.work.length:=by unfold gh at hok;simp only[uC,cR,decide_eq_true_eq]at hok;exact hok.1.1
 obtain⟨oB,Av,hrow,V8⟩:=A;rcases hrow.2 with⟨_,h0⟩|⟨g,cap,cur,he,hlo,hg,tC,ajf,hcs,U7⟩
 .omega
 have Mg:wk=ae ⟨g,0,ah⟩/\wc=cap:=by have:=sr he;exact⟨this.1,this.2.2⟩
 obtain⟨rfl,rfl⟩:=Mg;refine⟨g,cur,51,rfl,λJ a' hJ hsz hs hr hL=>?_⟩;subst hJ;have cl:∀{x:aP} {v:ay},w.cell? x=ae v->a'.cell? x=ae v:=λ{x v} h=>(dr (w:=w) (hs _ (ez w _ h))).trans h;have hcell:∀j,j<J.c.work.length->w.cell? ⟨g,j,ah⟩=oB[j]? :=λj hj=>hrow.cellAt j ai;refine⟨hok,λb f hb=>?_,⟨by rw[hs g (bF.1 hg).1];exact hg,Db hg hlo,by show J.c.work.length<=_;omega,by show J.c.work.length<=_;omega⟩,λi hi=>?_,?_,λi hi=>?_,hr,hL,tl⟩
 .obtain⟨h1,c,e,h2,h3⟩:=Sh hb;exact⟨h1,c,e,by rw[hs b (bF.1 h2).1];exact h2,h3⟩
 .have hi:i<J.c.work.length:=hi;obtain⟨l,hl⟩:∃l,J.c.work[i]? =ae l:=⟨_,eQ hi⟩;have Ex:oB[i]? =ae oB[i]:=eQ ai;have hrn:=V8 i l _ hl Ex;have hk:J.c.calls i=l:=by unfold cu.calls;rw[eF,hl];rfl
  obtain⟨jo,h1,h2,h3⟩:=hrn;obtain⟨a,c,hv⟩:=dX h2;refine⟨a,c,by rw[eB,hk];exact cl (by rw[hcell i hi,Ex,hv]),?_⟩;rw[hk,←hv];exact(NU (J:=J) ⟨jo,h1,h2,h3⟩ hk).same λb hb x hx=>by subst hx;exact dr (w:=w) (hs _ (PL hb))
 .rcases mr J.c.turns.length with h0|h0
  .rcases T.2 with⟨h1,_⟩|⟨g',cap',cur',h1,h2,h3,_⟩
   .obtain⟨rfl,_,rfl⟩:=sr h1;exact .inl ⟨rfl,List.eq_nil_of_length_eq_zero h0,rfl⟩
   .obtain⟨rfl,_,_⟩:=sr h1;exact .inr ⟨g',0,rfl,λi hi=>ai⟩
  .obtain⟨g',cap',h1,h2⟩:=uD T h0;have hro:=λg (hg:(Value.slice tu J.c.turns.length tc).ownBlock=ae g)=>yi T hg;obtain⟨rfl,_,_⟩:=sr h1;refine .inr ⟨g',0,rfl,λi hi=>⟨hro g' rfl,cl ?_⟩⟩;rw[eB,h2 i ai];unfold gH;rw[nM,eQ hi,eF,eQ hi];rfl
 .obtain⟨g',cap',h1,h2⟩:=uD H ai;have hro:=λg (hg:(Value.slice ha J.c.halt.length hc).ownBlock=ae g)=>yi H hg;obtain⟨rfl,_,_⟩:=sr h1;refine⟨g',0,rfl,cl ?_,hro g' rfl⟩;rw[eB,h2 i ai];unfold gH;rw[nM,eQ hi,eF,eQ hi];rfl
theorem check_copy(un:Int)(mO:gh (cc.work.map List.length) un=aw)(A:uv w lo (aD wk cc.work.length wc) cc.work)(hl:cc.work.length<100000)(W:aj)(hs:∀y,y<w.heap.size->W.heap[y]? =w.heap[y]?)(tn hn:Nat):
  b9 aC 70 #[.agg (aW wk tu ha (cc.work.map List.length).length wc tn tc hn hc un)] W λe w''=>e=.returned (aq af 30)/\Below W.heap.size W w'':=by
 obtain⟨oB,Av,hrow,V8⟩:=A;rcases mr cc.work.length with h0|h0
 .have hnil:cc.work=[]:=List.eq_nil_of_length_eq_zero h0;rw[hnil];simp only[aW,List.map_nil,gK];have hb1:Below W.heap.size W (W.alloc (aK #[aD wk 0 wc,aD tu tn tc,aD ha hn hc,aq af un] 25)):=(gw _ _).alloc (bJ _) _;have Hb:=aA hb1;clear hb1;go_enter func70,ntmps70
  go_wp2;go_ret
  exact⟨rfl,Hb.out⟩
 .obtain⟨g,cap,hv,hcw⟩:=uD hrow h0;obtain⟨rfl,_,rfl⟩:=sr hv;refine check_any g 0 wc tn tc hn hc tu ha (cc.work.map List.length) un 30 W (by simpa using hl) (by rw[mO];rfl) λi hi=>?_;rw[uC]at hi;obtain⟨l,Lr⟩:∃l,cc.work[i]? =ae l:=⟨_,eQ hi⟩;have Ex:oB[i]? =ae oB[i]:=eQ ai;obtain⟨jo,h1,h2,h3⟩:=V8 i l _ Lr Ex;obtain⟨a,c,hv'⟩:=dX h2;refine⟨a,c,?_⟩;have hw:w.cell? ⟨g,i,ah⟩=ae (aD a l.length c):=by rw[hcw i ai,Ex,hv']
  rw[eB,dr (w:=w) (hs g (ez w _ hw)),hw];rw[eF,nM,Lr];rfl
end
end
section
open Go Go.RowKit
def HJ(n:Nat)(c:bs):bs:=if c.kind=2 then{c with pairs:=jI n c.a c.b}else c
theorem V9{n:Nat}{c:bs}(h:c.kind≠2):HJ n c=c:=aU h
theorem Si(n:Nat)(c:bs):(HJ n c).kind=c.kind/\(HJ n c).a=c.a/\(HJ n c).b=c.b/\(HJ n c).c=c.c:=by unfold HJ;split<;>exact⟨rfl,rfl,rfl,rfl⟩
structure je(n:Nat)(work eN:List (List bs))(k i:Nat):Prop where
 len:eN.length=work.length
 row:∀(q:Nat) (l:List bs),work[q]? =ae l->∃l',eN[q]? =ae l'/\l'.length=l.length/\∀(j:Nat) (c:bs),l[j]? =ae c->l'[j]? =ae (if q<k\/(q=k/\j<i)then HJ n c else c)
 bd:∀(q j:Nat) (l:List bs) (c:bs),work[q]? =ae l->l[j]? =ae c->(q<k\/(q=k/\j<i))->c.kind=2->(0<=c.a/\c.a<=1000)/\(0<=c.b/\c.b<=1000)
section
variable{n:Nat}{work:List (List bs)}{l:List bs}{c:bs}
theorem je.refl(n:Nat)(work:List (List bs)):je n work work 0 0:=⟨rfl,λq l h=>⟨l,h,rfl,λj c hj=>by rw[aU ai];exact hj⟩,λq j l c _ _ h=>ai⟩
theorem je.next(M:je n work eN k l.length)(hl:work[k]? =ae l):je n work eN (k+1) 0:=by
 have key:∀(q j:Nat) (l':List bs) (c:bs),work[q]? =ae l'->l'[j]? =ae c->((q<k+1\/(q=k+1/\j<0))↔(q<k\/(q=k/\j<l.length))):=λq j l' c h1 h2=>by
  have h3:=(eX.1 h2).1;by_cases e:q=k
  .subst e;rw[hl]at h1;obtain rfl:=bj h1;omega
  .omega
 refine⟨M.len,λq l' h=>?_,λq j l' c h1 h2 h3 h4=>M.bd q j l' c h1 h2 ((key q j l' c h1 h2).1 h3) h4⟩;obtain⟨l2,a1,a2,a3⟩:=M.row q l' h;exact⟨l2,a1,a2,λj c hj=>by rw[a3 j c hj];simp only[key q j l' c h hj]⟩
theorem je.skip(M:je n work eN k i)(hl:work[k]? =ae l)(hc:l[i]? =ae c)(h2:c.kind≠2):je n work eN k (i+1):=by
 have key:∀(q j:Nat),¬(q=k/\j=i)->((q<k\/(q=k/\j<i+1))↔(q<k\/(q=k/\j<i))):=λq j h=>ai;refine⟨M.len,λq l' h=>?_,λq j l' c' h1 h3 h4 h5=>?_⟩
 .obtain⟨l2,a1,a2,a3⟩:=M.row q l' h;refine⟨l2,a1,a2,λj c' hj=>?_⟩;rw[a3 j c' hj];by_cases e:q=k/\j=i
  .obtain⟨rfl,rfl⟩:=e;rw[hl]at h;obtain rfl:=bj h;rw[hc]at hj;obtain rfl:=bj hj;rw[V9 h2];split<;>split<;>rfl
  .simp only[key q j e]
 .by_cases e:q=k/\j=i
  .obtain⟨rfl,rfl⟩:=e;rw[hl]at h1;obtain rfl:=bj h1;rw[hc]at h3;obtain rfl:=bj h3;exact aT h5 h2
  .exact M.bd q j l' c' h1 h3 ((key q j e).1 h4) h5
theorem je.set(M:je n work eN k i)(hl:work[k]? =ae l)(hc:l[i]? =ae c)(h2:c.kind=2)(hb:(0<=c.a/\c.a<=1000)/\(0<=c.b/\c.b<=1000))(hl':eN[k]? =ae l'):je n work (eN.set k (l'.set i {c with pairs:=jI n c.a c.b})) k (i+1):=by
 have key:∀(q j:Nat),¬(q=k/\j=i)->((q<k\/(q=k/\j<i+1))↔(q<k\/(q=k/\j<i))):=λq j h=>ai;have hk:=(eX.1 hl').1;refine⟨by rw[r9];exact M.len,λq l1 h=>?_,λq j l1 c' h1 h3 h4 h5=>?_⟩
 .obtain⟨l2,a1,a2,a3⟩:=M.row q l1 h;by_cases e:q=k
  .subst e;rw[hl']at a1;obtain rfl:=bj a1;rw[hl]at h;obtain rfl:=bj h;refine⟨_,List.getElem?_set_self hk,by rw[r9];exact a2,λj c' hj=>?_⟩;have Io:=(eX.1 hj).1;by_cases e2:j=i
   .subst e2;rw[hc]at hj;obtain rfl:=bj hj;rw[List.getElem?_set_self ai,aX ai];simp[HJ,h2]
   .rw[List.getElem?_set_ne (bZ e2),a3 j c' hj];exact congrArg ae (ite_congr (propext (key q j (λh=>e2 h.2)).symm) (λ_=>rfl) (λ_=>rfl))
  .rw[List.getElem?_set_ne (bZ e)];exact⟨l2,a1,a2,λj c' hj=>by rw[a3 j c' hj];simp only[key q j (λh=>e h.1)]⟩
 .by_cases e:q=k/\j=i
  .obtain⟨rfl,rfl⟩:=e;rw[hl]at h1;obtain rfl:=bj h1;rw[hc]at h3;obtain rfl:=bj h3;exact hb
  .exact M.bd q j l1 c' h1 h3 ((key q j e).1 h4) h5
end
structure nj(a w:aj):Prop where
 size:a.heap.size<=w.heap.size
 old:∀y,y<a.heap.size->w.heap[y]? =a.heap[y]?
theorem nj.refl(a:aj):nj a a:=⟨bJ _,λ_ _=>rfl⟩
theorem nj.trans{a b c:aj}(h:nj a b)(g:nj b c):nj a c:=⟨dm h.size g.size,λy hy=>(g.old y (iR hy h.size)).trans (h.old y hy)⟩
theorem nj.below{a b:aj}(h:Below a.heap.size a b):nj a b:=⟨h.size,h.block⟩
theorem nj.alloc{a w:aj}(h:nj a w)(o:Obj):nj a (w.alloc o):=h.trans (.below ((gw _ _).alloc (bJ _) _))
theorem nj.set{a w:aj}(h:nj a w){g:Nat}(hg:a.heap.size<=g):nj a (w.setCell ⟨g,j,ah⟩ v):=⟨by simp[fF];exact h.size,λy hy=>by rw[az ai];exact h.old y hy⟩
section
variable{w:aj}{g cap:Nat}{u:ay}
theorem aaF(h:w.ownsRow B e sz (aD (ae ⟨g,0,ah⟩) m cap) m xs):(w.setCell ⟨g,j,ah⟩ u).ownsRow B e sz (aD (ae ⟨g,0,ah⟩) m cap) m (xs.set j u):=by
 obtain⟨h1,h2⟩:=h;refine⟨by rw[r9];exact h1,.inr ?_⟩;rcases h2 with⟨h2,_⟩|⟨g',cap',cur,h2,h3,h4,h5,h6,h7,h8⟩
 .cases h2
 .cases h2;refine⟨g,cap,cur.setIfInBounds j u,rfl,h3,aH h4 _,h5,h6,by simpa using h7,?_⟩;rw[←h8,Array.toList_setIfInBounds,List.take_set]
theorem H9:∀(l:List bs) (jo:List ay) (i:Nat) (c:bs) (prs:List (Int×Int)) (pv:ay),jo.length=l.length->l[i]? =ae c->(fL l jo).set (i*5+4) pv=fL (l.set i {c with pairs:=prs}) (jo.set i pv):=by
 intro l;induction l with
 |nil=>intro jo i c prs pv _ h;simp at h
 |cons x l ih=>
  intro jo i c prs pv hl hc;cases jo with
  |nil=>simp at hl
  |cons y jo=>
   have e:fL (x::l) (y::jo)=dN x y++fL l jo:=rfl;cases i with
   |zero=>obtain rfl:x=c:=(by simpa using hc);rw[e];rfl
   |succ i=>rw[e,show(i+1) *5+4=i*5+4+5 by omega,List.set_append_right _ _ (by simp[dN])];have:=ih jo i c prs pv (by simpa using hl) (by simpa using hc);simp only[dN,fO,gK,Nat.reduceAdd,Nat.add_sub_cancel,this,uX];rfl
theorem uE:∀(l:List bs) (jo:List ay) (i:Nat) (c:bs) (pv:ay),l[i]? =ae c->jo[i]? =ae pv->∀j,j<5->(fL l jo)[i*5+j]? =(dN c pv)[j]? :=by
 intro l;induction l with
 |nil=>intro jo i c pv h;simp at h
 |cons x l ih=>
  intro jo i c pv hc hp j hj;cases jo with
  |nil=>simp at hp
  |cons y jo=>
   have e:fL (x::l) (y::jo)=dN x y++fL l jo:=rfl;cases i with
   |zero=>obtain rfl:x=c:=(by simpa using hc);obtain rfl:y=pv:=(by simpa using hp);rw[e,lz (by simp[dN];omega)];congr 1;omega
   |succ i=>rw[e,nI (by simp[dN];omega),←ih jo i c pv (by simpa using hc) (by simpa using hp) j hj];congr 1;simp[dN];omega
end
section
variable{w:aj}{work:List (List bs)}{l:List bs}{c:bs}
structure Wa(w:aj)(B:Nat)(v:ay)(work:List (List bs))(k i:Nat)(l:List bs)(c:bs)(vg g rc:Nat)(pv:ay):Prop where
 vk:∃vc,v=aD (ae ⟨vg,0,ah⟩) work.length vc
 ck:w.cell? ⟨vg,k,ah⟩=ae (aD (ae ⟨g,0,ah⟩) l.length rc)
 cells:∀j,j<5->w.cell? ⟨g,i*5+j,ah⟩=(dN c pv)[j]?
 fz:∀j,w.frozen? ⟨g,j,ah⟩=aw
 prs:mN w B pv c.pairs
 gb:B<=g/\∃cur,w.heap[g]? =ae (aK cur 50 (0,0))
 put:∀(w':aj) (zY:ay) (prs:List (Int×Int)),w.heap.size<=w'.heap.size->(∀y,y<w.heap.size->w'.heap[y]? =w.heap[y]?)->mN w' B zY prs->AllNewD (w'.setCell ⟨g,i*5+4,ah⟩ zY) B v (work.set k (l.set i {c with pairs:=prs}))
theorem AllNewD.call(A:AllNewD w B v work)(hl:work[k]? =ae l)(hc:l[i]? =ae c):∃vg g rc pv,Wa w B v work k i l c vg g rc pv:=by
 obtain⟨oB,⟨h1,h2,h3⟩,h4⟩:=A;have hk:=(eX.1 hl).1;have hi:=(eX.1 hc).1;have Cr:oB[k]? =ae oB[k]:=eQ ai;generalize oB[k]=rv at Cr;obtain⟨jo,p1,p2,p3⟩:=h3 k l rv hl Cr;obtain⟨vg,vc,rfl,hv1,hv2⟩:=h2.form ai;obtain⟨g,rc,rfl,hg1,hg2⟩:=p2.form ai;have hpi:jo[i]? =ae jo[i]:=eQ ai;generalize jo[i]=pv at hpi;obtain⟨cur,AV⟩:=dV p2 (g:=g) rfl;obtain⟨ajg,aiF⟩:=dV h2 (g:=vg) rfl;refine⟨vg,g,rc,pv,⟨vc,rfl⟩,?_,λj hj=>?_,λj=>aM AV j (bQ _),p3 i c pv hc hpi,⟨hg1,cur,AV⟩,λw' zY prs hs hw hp=>?_⟩
 .rw[h2.cellAt k ai];exact Cr
 .rw[p2.cellAt (i*5+j) ai];exact uE l jo i c pv hc hpi j hj
 .have dA:∀y,y≠g->(w'.setCell ⟨g,i*5+4,ah⟩ zY).heap[y]? =w'.heap[y]? :=λy hy=>az hy _;have keep:∀{B' sz m:Nat} {e:bq} {v:ay} {xs:List ay},w.ownsRow B' e sz v m xs->v.ownBlock≠ae g->(w'.setCell ⟨g,i*5+4,ah⟩ zY).ownsRow B' e sz v m xs:=λh hne=>row_keep h λy hy=>by rw[dA y (λe=>hne (by rw[hy,e])),hw y (h.lt y hy).2]
  have ty:∀{B' sz m:Nat} {e:bq} {v:ay} {xs:List ay},w.ownsRow B' e sz v m xs->e≠50->v.ownBlock≠ae g:=λh hne e=>by obtain⟨cur',hc'⟩:=dV h e;rw[AV]at hc';cases hc';exact hne rfl
  have ty':zY.ownBlock≠ae g:=λe=>by obtain⟨cur',hc'⟩:=dV hp e;rw[hw g (bF.1 AV).1,AV]at hc';cases hc'
  refine⟨oB,⟨by rw[r9];exact h1,by rw[r9];exact keep h2 (ty h2 aN),λq l' Y4 hq Ex=>?_⟩,h4⟩;by_cases e:q=k
  .subst e;rw[List.getElem?_set_self hk]at hq;obtain rfl:=bj hq;rw[Cr]at Ex;obtain rfl:=bj Ex;refine⟨jo.set i zY,by simp[p1],?_,λi' c' Wb hi' Zg=>?_⟩
   .rw[r9,←H9 l jo i c prs zY p1 hc];exact aaF (row_keep p2 λy hy=>hw y (p2.lt y hy).2)
   .by_cases e2:i'=i
    .subst e2;rw[List.getElem?_set_self hi]at hi';obtain rfl:=bj hi';rw[List.getElem?_set_self ai]at Zg;obtain rfl:=bj Zg;exact row_keep hp λy hy=>dA y (λe=>ty' (by rw[hy,e]))
    .rw[List.getElem?_set_ne (bZ e2)]at hi' Zg;exact keep (p3 i' c' Wb hi' Zg) (ty (p3 i' c' Wb hi' Zg) aN)
  .rw[List.getElem?_set_ne (bZ e)]at hq;obtain⟨ah4,q1,q2,q3⟩:=h3 q l' Y4 hq Ex;refine⟨ah4,q1,keep q2 (λhg=>?_),λi' c' Wb a b=>keep (q3 i' c' Wb a b) (ty (q3 i' c' Wb a b) aN)⟩;rcases Nat.lt_or_gt_of_ne e with hlt|ZH
   .exact h4 q k Y4 _ g hlt Ex Cr hg rfl
   .exact h4 k q _ Y4 g ZH Cr Ex rfl hg
theorem uv.Wc{wk:Option aP}(A:uv w B (aD wk work.length wc) work):za w wk work:=λk l hl=>by obtain⟨oB,h1,h2,h3⟩:=A;have hk:=(eX.1 hl).1;have Cr:oB[k]? =ae oB[k]:=eQ ai;generalize oB[k]=rv at Cr;obtain⟨jo,p1,p2,p3⟩:=h3 k l rv hl Cr;obtain⟨vg,vc,hv,_,_⟩:=h2.form ai;obtain⟨rfl,_,rfl⟩:=sr hv;obtain⟨a,cap,rfl⟩:=dX p2;refine⟨vg,0,a,cap,rfl,by rw[eB,h2.cellAt k ai];exact Cr,λi c hc=>?_⟩;have hi:=(eX.1 hc).1;obtain⟨g,rc,hv,_,_⟩:=p2.form ai;obtain⟨rfl,_,rfl⟩:=sr hv;have hpi:jo[i]? =ae jo[i]:=eQ ai;exact⟨g,0,rfl,by rw[eB,←Nat.add_zero (i*5),p2.cellAt _ ai];exact uE l jo i c _ hc hpi 0 aN,by rw[eB,p2.cellAt _ ai];exact uE l jo i c _ hc hpi 2 aN⟩
end
inductive Sj(n v:Int)(fv:ay)(db:Nat):Act->Prop
 |mk (u2 u3 u4 u5 u6 u8 sK nW nX mU mA mB u16 lK lL lM lN mV mX u23 u24 mY u26 lO u28 lQ lR mC u32 u33 mD mE mF mG mZ m9 nV oU oV pU u44 pV oX oY oZ o6 o7 o8 o9 sH sI ub ud wE wG wH wI wJ wK wL u64 wM wN D5 D6 D7 AG AH AJ Cy Cz CB CE CG D8 D9 Ea Gz GA GC GD GF GG GH GI GJ GL GM GN GQ GR Q6 Q7 Q8 Q9 Ra zb ze zf zh zi zl Wd We Wi Wj Wl Wm Wn Wo Wp Wq Ws Wt Wu Wv Ww Wx Wy Wz WA WC WE WG WH WK WL WM WN WO WQ WS WT WU u138 WV WW WX WY WZ W7 W8 W9 Xa Xb Xc Xd Xe Xf Xg Xh Xi Xj Xk Xl Xn Xo Xp Xq Xr Xs Xt Xu Xv Xw Xx Xy Xz XA XB XC XD XE XF XG XH XI XJ XK XL XM XN XO XP XQ XR XS XT XU u193 XV XW XX XY u198 XZ X6:ay):Sj n v fv db {tmps:=#[aq af n,aq af v,u2,u3,u4,u5,u6,fv,u8,aI (ae ⟨db,0,ah⟩),sK,nW,nX,mU,mA,mB,u16,lK,lL,lM,lN,mV,mX,u23,u24,mY,u26,lO,u28,lQ,lR,mC,u32,u33,mD,mE,mF,mG,mZ,m9,nV,oU,oV,pU,u44,pV,oX,oY,oZ,o6,o7,o8,o9,sH,sI,ub,ud,wE,wG,wH,wI,wJ,wK,wL,u64,wM,wN,D5,D6,D7,AG,AH,AJ,Cy,Cz,CB,CE,CG,D8,D9,Ea,Gz,GA,GC,GD,GF,GG,GH,GI,GJ,GL,GM,GN,GQ,GR,Q6,Q7,Q8,Q9,Ra,zb,ze,zf,zh,zi,zl,Wd,We,Wi,Wj,Wl,Wm,Wn,Wo,Wp,Wq,Ws,Wt,Wu,Wv,Ww,Wx,Wy,Wz,WA,WC,WE,WG,WH,WK,WL,WM,WN,WO,WQ,WS,WT,WU,u138,WV,WW,WX,WY,WZ,W7,W8,W9,Xa,Xb,Xc,Xd,Xe,Xf,Xg,Xh,Xi,Xj,Xk,Xl,Xn,Xo,Xp,Xq,Xr,Xs,Xt,Xu,Xv,Xw,Xx,Xy,Xz,XA,XB,XC,XD,XE,XF,XG,XH,XI,XJ,XK,XL,XM,XN,XO,XP,XQ,XR,XS,XT,XU,u193,XV,XW,XX,XY,u198,XZ,X6],defers:=[]}
noncomputable def wlCode:Code:=(f5.body).getD .skip
noncomputable def wlMid:Code:=wlCode.r.r.r.r.r.r.l
structure Td(a0:aj)(db:Nat)(wk tu ha:Option aP)(wc tc hc:Nat)(un:Int)(cc:cu)(fv:ay)(zs:List Int)(eN:List (List bs))(w:aj):Prop where
 bel:nj a0 w
 big:a0.heap.size<=db
 box:w.heap[db]? =ae (aK (aW wk tu ha cc.work.length wc cc.turns.length tc cc.halt.length hc un) 25 (0,0))
 len:eN.length=cc.work.length
 all:AllNewD w a0.heap.size (aD wk cc.work.length wc) eN
 T:w.ownsRow a0.heap.size 3 1 (aD tu cc.turns.length tc) cc.turns.length (gH cc.turns)
 H:w.ownsRow a0.heap.size 3 1 (aD ha cc.halt.length hc) cc.halt.length (gH cc.halt)
 F:w.ownsRow a0.heap.size 3 1 fv zs.length (gH zs)
section
variable{a0 w:aj}{wk tu:Option aP}{cc:cu}{vg g rc:Nat}{l:List bs}{c:bs}
theorem Td.grow(S:Td a0 db wk tu ha wc tc hc un cc fv zs eN w)(hb:Below w.heap.size w w'):Td a0 db wk tu ha wc tc hc un cc fv zs eN w':=by have st:∀e,nN w w' e:=λe g cur h=>hb.block g (bF.1 h).1;exact⟨S.bel.trans (.below hb),S.big,(hb.block db (bF.1 S.box).1).trans S.box,S.len,S.all.stand (st _) (st _) (st _),row_stand S.T (st _),row_stand S.H (st _),row_stand S.F (st _)⟩
theorem Td.put(S:Td a0 db wk tu ha wc tc hc un cc fv zs eN w)(C:Wa w a0.heap.size (aD wk cc.work.length wc) eN k i l c vg g rc pv)(hb:Below w.heap.size w w')(hp:mN w' a0.heap.size zY prs):Td a0 db wk tu ha wc tc hc un cc fv zs (eN.set k (l.set i {c with pairs:=prs})) (w'.setCell ⟨g,i*5+4,ah⟩ zY):=by obtain⟨hg,cur,AV⟩:=C.gb;have S':=S.grow hb;have af5:=(hb.block g (bF.1 AV).1).trans AV;have st:∀e,e≠50->nN w' (w'.setCell ⟨g,i*5+4,ah⟩ zY) e:=λe he y cur' h=>az (λe'=>by rw[e',af5]at h;cases h;exact he rfl) _;exact⟨S'.bel.set hg,S'.big,(st _ aN _ _ S'.box).trans S'.box,by rw[r9];exact S.len,C.put w' zY prs hb.size hb.block hp,row_stand S'.T (st _ aN),row_stand S'.H (st _ aN),row_stand S'.F (st _ aN)⟩
end
def ah5(n v:Int)(nn:Nat)(a0:aj)(db:Nat)(wk tu ha:Option aP)(wc tc hc:Nat)(un:Int)(cc:cu)(fv:ay)(zs:List Int)(e:Exit)(a:Act)(w:aj):Prop:=(e=.normal/\Sj n v fv db a/\∃eN,je nn cc.work eN cc.work.length 0/\Td a0 db wk tu ha wc tc hc un cc fv zs eN w)\/(e=.ret/\a.tmps[6]? =ae (.bool au)/\a.defers=[]/\nj a0 w)
theorem AX(l:List (Int×Int))(p q:Int×Int):eZ (l++[p,q])=eZ l++[aq af p.1,aq af p.2,aq af q.1,aq af q.2]:=by unfold eZ;rw[wY];rfl
theorem KP(j:Nat)(A B:Int):jI (j+1) A B=jI j A B++[((j:Int),A),((j:Int),B)]:=by unfold jI;rw[tD,wY];simp
theorem mid_walk{n:Nat}{v:Int}{a0 w:aj}{wk tu:Option aP}{cc:cu}(hA:Sj n v fv db a)(S:Td a0 db wk tu ha wc tc hc un cc fv zs cc.work w)(hn:1<=n/\n<=16)(hL:cc.work.length<=16/\∀l∈cc.work,l.length<=600):
  wlMid.wp aC (ah5 n v n a0 db wk tu ha wc tc hc un cc fv zs) a w:=by
 obtain⟨hL1,hL⟩:=hL;have HL:=aA hL;have HS:=aA S;clear hL S;cases hA;simp only[wlMid,wlCode,f5,Code.l,Code.r,cN];go_wp2;go_loopw [10] (λi wr=>∃k:Nat,k<=cc.work.length/\i=aq af k/\∃eN,je n cc.work eN k 0/\Td a0 db wk tu ha wc tc hc un cc fv zs eN wr) (λi _=>cc.work.length- (intOf i).toNat)
 case atStart=>exact⟨0,bQ _,rfl,cc.work,je.refl _ _,HS.out⟩
 case round=>
  obtain⟨k,hk,rfl,eN,M,S⟩:=hrel;have bk:=cO S.box 0;have HM:=aA M;have HS1:=aA S;clear M S;by_cases hlt:k<cc.work.length
  .obtain⟨l,hl⟩:∃l,cc.work[k]? =ae l:=⟨_,eQ hlt⟩;have Lr:=HL.out l (nJ hl);have Hl:=aA hl;clear hl;go_wp2;go_loopw [11] (λi wi=>∃j:Nat,j<=l.length/\i=aq af j/\∃eN,je n cc.work eN k j/\Td a0 db wk tu ha wc tc hc un cc fv zs eN wi) (λi _=>l.length- (intOf i).toNat)
   case atStart=>exact⟨0,bQ _,rfl,eN,HM.out,HS1.out⟩
   case round=>
    clear HM HS1 bk;obtain⟨j,hj,rfl,PM,M,S⟩:=hrel;obtain⟨wi,rfl⟩:∃x,x=wr:=⟨_,rfl⟩;have bk:=cO S.box 0;obtain⟨l1,hl1,af6,hlc⟩:=M.row k l Hl.out;have HM:=aA M;by_cases Io:j<l.length
    .have hcj:l[j]? =ae l[j]:=eQ Io;generalize l[j]=c at hcj;have h1j:=hlc j c hcj;rw[aU ai]at h1j;obtain⟨vg,g,rc,pv,C⟩:=S.all.call hl1 h1j;obtain⟨vc,hvk⟩:=C.vk;obtain⟨rfl,hv1,hv2⟩:=sr hvk;clear hv1 hv2;have ck:=C.ck;rw[af6]at ck;obtain⟨pa,pc,Lt⟩:=dX C.prs;subst Lt;have c0:wi.cell? ⟨g,j*5,ah⟩=ae (aq af c.kind):=C.cells 0 aN;have c1:wi.cell? ⟨g,j*5+1,ah⟩=ae (aq af c.a):=C.cells 1 aN;have c2:wi.cell? ⟨g,j*5+2,ah⟩=ae (aq af c.b):=C.cells 2 aN;have c3:wi.cell? ⟨g,j*5+3,ah⟩=ae (aq af c.c):=C.cells 3 aN;have c4:wi.cell? ⟨g,j*5+4,ah⟩=ae (aD pa c.pairs.length pc):=C.cells 4 aN;have HC:=aA C;have Q3:=aA S;have Hcj:=aA hcj;have Hl1:=aA hl1;clear C hvk M S hlc hl1 h1j hcj;generalize hkd:c.kind=kd at*;generalize hca:c.a=A at*;generalize hcb:c.b=B at*;generalize c.c=C3 at*;generalize c.pairs.length=pl at*;have Hkd:=aA hkd;have Hca:=aA hca;have Hcb:=aA hcb;clear hkd hca hcb;by_cases hk2:kd=2
     .have hb:(kd !=2)=aw:=(by simpa using hk2);have ah6:=aA hk2;clear hk2;by_cases Y8:A<0
      .have e1:decide (A<0)=au:=(by simpa using Y8);clear Y8;go_wp2;exact .inr ⟨rfl,rfl,rfl,Q3.out.bel.alloc _⟩
      have e1:decide (A<0)=aw:=(by simpa using Y8);by_cases Bb:1000<A
      .have e2:decide (1000<A)=au:=(by simpa using Bb);clear Y8 Bb;go_wp2;exact .inr ⟨rfl,rfl,rfl,Q3.out.bel.alloc _⟩
      have e2:decide (1000<A)=aw:=(by simpa using Bb);by_cases hB0:B<0
      .have e3:decide (B<0)=au:=(by simpa using hB0);clear Y8 Bb hB0;go_wp2;exact .inr ⟨rfl,rfl,rfl,Q3.out.bel.alloc _⟩
      have e3:decide (B<0)=aw:=(by simpa using hB0);by_cases hB1:1000<B
      .have e4:decide (1000<B)=au:=(by simpa using hB1);clear Y8 Bb hB0 hB1;go_wp2;exact .inr ⟨rfl,rfl,rfl,Q3.out.bel.alloc _⟩
      have e4:decide (1000<B)=aw:=(by simpa using hB1);have Ga:(0<=A/\A<=1000)/\(0<=B/\B<=1000):=ai;have Hbd:=aA Ga;clear Y8 Bb hB0 hB1 Ga;obtain⟨ip,hip,zp0,zp1,zp2⟩:=kq KE;have hbi:=Q3.out.bel.size;go_wp2;generalize hW1:wi.alloc (aK #[aq af kd,aq af A,aq af B,aq af C3,aD pa pl pc] 50)=W1;have b1:Below wi.heap.size wi W1:=(by rw[←hW1];exact(gw _ _).alloc (bJ _) _);have hx:W1.heap[wi.heap.size]? =ae (aK #[aq af kd,aq af A,aq af B,aq af C3,aD pa pl pc] 50 (0,0)):=(by rw[←hW1];exact gN _ _);clear hW1 c0 c1 c2 c3;have HB1:=aA b1;have HX:=aA hx;clear b1 hx;go_loopw [14,13] (λi p wr3=>∃q:Nat,q<=n/\i=aq af q/\Below W1.heap.size W1 wr3/\wr3.ownsRow W1.heap.size 53 2 p (2*q) (eZ (jI q A B))) (λi _ _=>n- (intOf i).toNat)
      case atStart=>exact⟨0,bQ _,rfl,gw _ _,pL _ _ _ _⟩
      case round=>
       obtain⟨q,hq,rfl,hb3,hp⟩:=hrel;have hxl:=(bF.1 HX.out).1;have hx3:=(hb3.block wi.heap.size hxl).trans HX.out;have x1:=cO hx3 1;have x2:=cO hx3 2;obtain⟨p1,p2,rfl⟩:=dX hp;have Hp:=aA hp;have Hb3:=aA hb3;have hs3:=hb3.size;clear hp hb3 hx3;by_cases C0:q<n
       .go_wp2_with (at_builtin;go_loud (refine wpList_append_lies _ rfl (.tmp 110) (.tmp 119) 46 rfl W1.heap.size 53 ip _ 2 16 underlying46 hip zp0 zp1 zp2 rfl aN (aD p1 (2*q) p2) (2*q) (eZ (jI q A B)) rfl (Hp.out.alloc _) ⟨wr.heap.size,0,ah⟩ 2 2 [aq af q,aq af A,aq af q,aq af B] rfl rfl (pd (cs:=#[aq af q,aq af A,aq af q,aq af B]) (t:=53) (fr:=(0,0)) (gN _ _)) pI aN jk ai (by rw[cM];omega) (wr.heap.size+1) (by rw[cM]) ?_;intro gg cap' w4 zZ hg4 afZ UU))
        go_roundw
        case rel=>exact⟨q+1,ai,fY,(Hb3.out.alloc hs3 _).grown hg4 (by rw[cM];omega) (λx hx=>(Hp.out.lt x hx).1),by rw[show 2*(q+1)=2*q+2 by omega,KP,AX];exact zZ⟩
        case measure=>simp[intOf];omega
       .obtain rfl:q=n:=ai;have hb:=HB1.out.trans (Hb3.out.mono HB1.out.size);have hcc:=λ(x:aP) v (h:wi.cell? x=ae v)=>(hb.cell (ez wi _ h)).trans h;have bk:=hcc _ _ bk;have ck:=hcc _ _ ck;have c4:=hcc _ _ c4;obtain⟨hgb,cur,AV⟩:=HC.out.gb;have fz:=λo=>aM ((hb.block g (bF.1 AV).1).trans AV) o (bQ _);have Hb:=aA hb;clear hb hcc hgb AV;go_wp2;go_roundw
        case rel=>have hP:mN wr a0.heap.size (aD p1 (2*q) p2) (jI q c.a c.b):=(by unfold mN;rw[wZ,Hca.out,Hcb.out];exact row_base Hp.out (dm hbi HB1.out.size));exact⟨j+1,ai,fY,_,HM.out.set Hl.out Hcj.out (by rw[Hkd.out];exact ah6.out) (by rw[Hca.out,Hcb.out];exact Hbd.out) Hl1.out,Q3.out.put HC.out Hb.out hP⟩
        case measure=>simp[intOf];omega
     .have hb:(kd !=2)=au:=(by simpa using hk2);have hne:=aA hk2;clear hk2;go_wp2;go_roundw
      case rel=>exact⟨j+1,ai,fY,PM,HM.out.skip Hl.out Hcj.out (by rw[Hkd.out];exact hne.out),Q3.out.grow ((gw _ _).alloc (bJ _) _)⟩
      case measure=>simp[intOf];omega
    .obtain rfl:j=l.length:=ai;have hA:uv wi a0.heap.size (aD wk PM.length wc) PM:=(by rw[S.len];exact S.all.all);obtain⟨b,o,a,cap,rfl,hck,_⟩:=hA.Wc k l1 hl1;rw[af6]at hck;have Q3:=aA S;clear S hA M hlc hl1;go_wp2;go_roundw
     case rel=>exact⟨k+1,ai,fY,PM,HM.out.next Hl.out,Q3.out⟩
     case measure=>simp[intOf];omega
  .obtain rfl:k=cc.work.length:=ai;go_wp2;exact .inl ⟨rfl,Sj.mk ..,eN,HM.out,HS1.out⟩
end
section
def gm(h:Int):Int:=h % 1099511627776
theorem Ic(x v:Int)(h:gm x<1099511627775):gm (dR x v)=gm x+1:=by unfold gm dR at *;omega
theorem jb{a:Nat}(h:bo a=bo b):a=b:=by unfold bo at h;omega
theorem fT(d:Nat):bo d<0:=by unfold bo;omega
def jY(p:Nat->Bool):Nat->Nat
 |0=>0
 |m+1=>jY p m+if p m=au then 1 else 0
theorem rG:∀m,(∀d,d<m->p d=q d)->jY p m=jY q m:=by
 intro m;induction m with
 |zero=>exact λ_=>rfl
 |succ m ih=>exact λh=>by unfold jY;rw[ih (λd hd=>h d ai),h m ai]
theorem qG:∀m,(∀d,d<m->p d=au->q d=au)->jY p m<=jY q m:=by
 intro m;induction m with
 |zero=>exact λ_=>bJ _
 |succ m ih=>
  intro h;have h1:=ih (λd hd=>h d ai);have h2:=h m ai;unfold jY;split
  .rename_i hp;rw[aX (h2 hp)];omega
  .split<;>omega
theorem Sk:∀m,x<m->(∀d,d<m->p d=au->q d=au)->p x=aw->q x=au->jY p m+1<=jY q m:=by
 intro m;induction m with
 |zero=>exact λh=>ai
 |succ m ih=>
  intro hx h h1 h2;by_cases e:x=m
  .subst e;have:=qG x (p:=p) (q:=q) (λd hd=>h d ai);unfold jY;rw[h1,h2];simp;omega
  .have h3:=ih ai (λd hd=>h d ai) h1 h2;have h4:=h m ai;unfold jY;split
   .rename_i hp;rw[aX (h4 hp)];omega
   .split<;>omega
theorem KQ:∀m,x<m->(∀d,d<m->d≠x->p d=q d)->p x=aw->q x=au->jY q m=jY p m+1:=by
 intro m;induction m with
 |zero=>exact λh=>ai
 |succ m ih=>
  intro hx h h1 h2;by_cases e:x=m
  .subst e;have:=rG x (p:=p) (q:=q) (λd hd=>h d ai ai);unfold jY;rw[h1,h2];simp;omega
  .have h3:=ih ai (λd hd=>h d ai) h1 h2;unfold jY;rw[h m ai (bZ e)];omega
theorem X7(p:Nat->Bool)(L:Nat):∀m,(∀k,k<8->jY (λd=>d % 8==k&&p d) m<=L)->jY p m<=8*L:=by
 intro m h;have key:∀m,jY p m=jY (λd=>d % 8==0&&p d) m+jY (λd=>d % 8==1&&p d) m+jY (λd=>d % 8==2&&p d) m+jY (λd=>d % 8==3&&p d) m+jY (λd=>d % 8==4&&p d) m+jY (λd=>d % 8==5&&p d) m+jY (λd=>d % 8==6&&p d) m+jY (λd=>d % 8==7&&p d) m:=by
  intro m;induction m with
  |zero=>rfl
  |succ m ih=>
   unfold jY;rw[ih];cases p m with
   |false=>simp
   |true=>have:m % 8=0\/m % 8=1\/m % 8=2\/m % 8=3\/m % 8=4\/m % 8=5\/m % 8=6\/m % 8=7:=ai;rcases this with e|e|e|e|e|e|e|e<;> · rw[e];simp;omega
 rw[key];have h0:=h 0 ai;have h1:=h 1 ai;have h2:=h 2 ai;have h3:=h 3 ai;have h4:=h 4 ai;have h5:=h 5 ai;have h6:=h 6 ai;have h7:=h 7 ai;omega
def g9(s:JS)(d:Nat):Bool:=match s.ds d with
 |some D=>D.st !=2
 |none=>aw
def lv(s:JS)(k:Nat):Nat:=jY (λd=>d % 8==k&&g9 s d) 8192
def dn(s:JS):Nat:=jY (λd=>s.st d==1) 8192
def mK.o(D:mK):Int:=(D.es.getD 0 ⟨0,0,0⟩).old
def Sl(s:JS)(c:Nat):Prop:=∃d,s.w c=bo d/\s.st d=1
structure Full(n:Nat)(S:Int->Prop)(es:List fC):Prop where
 len:es.length=n
 ent:∀(i:Nat) e,es[i]? =ae e->e.cell=i/\0<=e.old/\e.old<=1152921504606846975/\0<=e.next/\e.next<=1048575
 nx:(∀e∈es,e.next=bV e.old)\/∃y,S y/\∀e∈es,e.next=y
structure WI(n:Nat)(S:Int->Prop)(s:JS)(W:Int):Prop where
 len:s.ws.length=n
 fresh:∀k m,k<8->s.made k<=m->s.ds (k+8*m)=ah
 there:∀k m,k<8->m<s.made k->s.ds (k+8*m)≠ah
 W0:0<=W/\W<=1152921504606846975
 val:S (bV W)
 tag:gm W=dn s
 desc:∀d D,s.ds d=ae D->d<8192/\D.st<=2/\Full n S D.es
 tg:∀d D e,s.ds d=ae D->e∈D.es->gm e.old<=gm W/\(D.st=1->gm e.old<gm W)
 one:∀d D,s.ds d=ae D->D.st=1->∃o,S (bV o)/\∀e∈D.es,e.old=o
 cur:∀d D,s.ds d=ae D->D.st=0->D.o=W->(∀e∈D.es,e.old=W)/\∀c,c<n->¬Sl s c
 cell:∀c,c<n->s.w c=W\/∃d D,s.w c=bo d/\s.ds d=ae D/\((D.st=0/\D.o=W)\/(D.st=1/\∀e∈D.es,dR e.old e.next=W))
 pre:∀d D c c',s.ds d=ae D->D.st=0->s.w c=bo d->c'<c->s.w c'=bo d
 live:∀k,k<8->lv s k<=64
structure WB(s s':JS)(W W':Int):Prop where
 ds:∀d D,s.ds d=ae D->∃D',s'.ds d=ae D'/\D'.es=D.es/\(D.st≠0->D'.st=D.st)
 und:∀d D D' c,s.ds d=ae D->s'.ds d=ae D'->D'.st=0->s.w c=bo d->s'.w c=bo d
 tag:gm W<=gm W'/\(gm W=gm W'->W'=W)
 dn:∀d,s.st d≠1->s'.st d=1->gm W<gm W'
 out:∀d c,s.st d=1->s.w c≠bo d->s'.w c≠bo d
 nu:∀d D,s.ds d=ae D->D.st=0->s.w 0=bo d->s'.st d≠2
theorem cA(h:s.ds d=ae D):s.st d=D.st:=by simp[JS.st,h]
theorem Br(h:s.st d≠0):∃D,s.ds d=ae D:=by
 unfold JS.st at h;cases e:s.ds d with
 |none=>rw[e]at h;exact aT rfl h
 |some D=>exact⟨D,rfl⟩
theorem WB.refl(s:JS)(W:Int):WB s s W W:=⟨λ_ D h=>⟨D,h,rfl,λ_=>rfl⟩,λ_ _ _ _ _ _ _ h=>h,⟨Int.le_refl _,λ_=>rfl⟩,λ_ h1 h2=>aT h2 h1,λ_ _ _ h=>h,λd D h h0 _ h2=>by rw[cA h,h0]at h2;cases h2⟩
theorem WB.trans{a b c:JS}{B C:Int}(h:WB a b A B)(g:WB b c B C):WB a c A C:=by
 refine⟨λd D e=>?_,λd D D' x e e' h0 hw=>?_,⟨Int.le_trans h.tag.1 g.tag.1,λe=>?_⟩,λd h1 h2=>?_,λd x h1 h2=>?_,λd D e h0 hw=>?_⟩
 .obtain⟨D1,a1,a2,a3⟩:=h.ds d D e;obtain⟨D2,b1,b2,b3⟩:=g.ds d D1 a1;exact⟨D2,b1,b2.trans a2,λh0=>by rw[b3 (by rw[a3 h0];exact h0),a3 h0]⟩
 .obtain⟨D1,a1,a2,a3⟩:=h.ds d D e;obtain⟨D2,b1,b2,b3⟩:=g.ds d D1 a1;rw[e']at b1;obtain rfl:=bj b1;have h1:D1.st=0:=eV λhc=>by rw[b3 hc]at h0;exact hc h0
  exact g.und d D1 _ x a1 e' h0 (h.und d D D1 x e a1 h1 hw)
 .have h1:=h.tag;have h2:=g.tag;have:=h1.2 ai;have:=h2.2 ai;omega
 .have t1:=h.tag.1;have t2:=g.tag.1;by_cases hb:b.st d=1
  .have:=h.dn d h1 hb;omega
  .have:=g.dn d hb h2;omega
 .obtain⟨D,hD⟩:=Br (s:=a) (d:=d) ai;obtain⟨D1,a1,_,a3⟩:=h.ds d D hD;rw[cA hD]at h1;exact g.out d x (by rw[cA a1,a3 ai,h1]) (h.out d x (by rw[cA hD,h1]) h2)
 .obtain⟨D1,a1,_,a3⟩:=h.ds d D e;have hn:=h.nu d D e h0 hw;rw[cA a1]at hn;by_cases h1:D1.st=0
  .exact g.nu d D1 a1 h1 (h.und d D D1 0 e a1 h1 hw)
  .obtain⟨D2,b1,_,b3⟩:=g.ds d D1 a1;rw[cA b1,b3 h1];exact hn
structure WR(n:Nat)(S:Int->Prop)(K M:Nat->Prop)(s s':JS):Prop where
 wb:∀W,WI n S s W->∃W',WI n S s' W'/\WB s s' W W'
 own:∀d D,K (d % 8)->s.ds d=ae D->D.st=0->s.w 0≠bo d->(∃D',s'.ds d=ae D'/\D'.st=0)/\s'.w 0≠bo d
 made:∀k,M k->s'.made k=s.made k
section
variable{n:Nat}{K K' M':Nat->Prop}
theorem WR.refl(s:JS):WR n S K M s s:=⟨λW h=>⟨W,h,WB.refl s W⟩,λ_ D _ h h0 hw=>⟨⟨D,h,h0⟩,hw⟩,λ_ _=>rfl⟩
theorem WR.trans(a b c:JS)(h:WR n S K M a b)(g:WR n S K M b c):WR n S K M a c:=by
 refine⟨λW hW=>?_,λd D hk e h0 hw=>?_,λk hk=>(g.made k hk).trans (h.made k hk)⟩
 .obtain⟨W1,a1,a2⟩:=h.wb W hW;obtain⟨W2,b1,b2⟩:=g.wb W1 a1;exact⟨W2,b1,a2.trans b2⟩
 .obtain⟨⟨D1,a1,a2⟩,a3⟩:=h.own d D hk e h0 hw;exact g.own d D1 hk a1 a2 a3
theorem WR.weak(hK:∀k,K' k->K k)(hM:∀k,M' k->M k)(a b:JS)(h:WR n S K M a b):WR n S K' M' a b:=⟨h.wb,λd D hk=>h.own d D (hK _ hk),λk hk=>h.made k (hM k hk)⟩
theorem JS.af7(s:JS)(h:s.ws.length=n)(hc:n<=c):s.w c=0:=by unfold JS.w;rw[eF,vz ai];rfl
theorem WI.lt(I:WI n S s W)(h:s.w c=bo d):c<n:=by apply eV;intro hc;rw[s.af7 I.len ai]at h;have:=fT d;omega
theorem WI.who(I:WI n S s W)(h:s.w c=bo d):∃D,s.ds d=ae D/\((D.st=0/\D.o=W/\s.w 0=bo d)\/(D.st=1/\∀e∈D.es,dR e.old e.next=W)):=by
 rcases I.cell c (I.lt h)with h1|⟨d',D,h1,h2,h3⟩
 .have:=fT d;have:=I.W0;omega
 .rw[h]at h1;obtain rfl:=jb h1;refine⟨D,h2,h3.imp (λ⟨a,b⟩=>⟨a,b,?_⟩) id⟩;by_cases e:c=0
  .subst e;exact h
  .exact I.pre d D c 0 h2 a h ai
theorem WI.plain(I:WI n S s W)(hc:c<n)(h:0<=s.w c):s.w c=W:=by
 rcases I.cell c hc with h1|⟨d',D,h1,_⟩
 .exact h1
 .have:=fT d';omega
theorem WI.KS(hn:0<n)(F:Full n S D.es):∃e,e∈D.es/\e.old=D.o:=by
 have hl:=F.len;cases h:D.es with
 |nil=>rw[h]at hl;simp at hl;omega
 |cons e l=>exact⟨e,nt ..,by simp[mK.o,h]⟩
theorem WI.uniq(hn:0<n)(I:WI n S s W)(I':WI n S s W'):W'=W:=by
 rcases I.cell 0 hn with h|⟨x,D,h1,h2,h3⟩
 .have:=I'.plain hn (by rw[h];exact I.W0.1);omega
 .obtain⟨D',g1,g2⟩:=I'.who h1;rw[h2]at g1;obtain rfl:=bj g1;rcases h3 with⟨a1,a2⟩|⟨a1,a2⟩ <;>rcases g2 with⟨b1,b2,_⟩|⟨b1,b2⟩
  .omega
  .omega
  .omega
  .obtain⟨e,he,_⟩:=WI.KS hn (I.desc x D h2).2.2;rw[←a2 e he,←b2 e he]
theorem WI.abA(I:WI n S s W):gm W<=512:=by
 rw[I.tag];have h1:dn s<=jY (λd=>g9 s d) 8192:=qG _ λd _ h=>by
  have h:s.st d=1:=by simpa using h
  obtain⟨D,hD⟩:=Br (s:=s) (d:=d) ai;rw[cA hD]at h;simp[g9,hD,h]
 have h2:=X7 (λd=>g9 s d) 64 8192 I.live;omega
theorem WI.put(I:WI n S s W){v:Int}(hi:i<n)(hs:s'={s with ws:=s.ws.set i v})
  (hv:v=W\/∃D,v=bo d/\s.ds d=ae D/\D.st=0/\D.o=W)
  (hp:∀d' D' c c',s.ds d'=ae D'->D'.st=0->(if i=c then v else s.w c)=bo d'->c'<c->(if i=c' then v else s.w c')=bo d')
  (hund:∀d' D',s.ds d'=ae D'->D'.st=0->s.w i=bo d'->v=bo d')
  (hown:∀d' D',K (d' % 8)->s.ds d'=ae D'->D'.st=0->i=0->s.w 0≠bo d'->v≠bo d'):
  WI n S s' W/\WB s s' W W/\(∀d' D',K (d' % 8)->s.ds d'=ae D'->D'.st=0->s.w 0≠bo d'->(∃D2,s'.ds d'=ae D2/\D2.st=0)/\s'.w 0≠bo d'):=by
 subst hs;have Uu:i<s.ws.length:=by rw[I.len];exact hi
 have hw:∀x,({s with ws:=s.ws.set i v}:JS).w x=if i=x then v else s.w x:=λx=>JS.Pv s i x v Uu
 have NV:∀c,Sl ({s with ws:=s.ws.set i v}:JS) c->Sl s c:=λc ⟨x,h1,h2⟩=>by
  rw[hw]at h1;have h2:s.st x=1:=h2;by_cases e:i=c
  .rw[aX e]at h1;have:=fT x;have hW:=I.W0;rcases hv with h|⟨D,h3,h4,h5,_⟩
   .omega
   .rw[h3]at h1;obtain rfl:=jb h1;rw[cA h4]at h2;omega
  .rw[aU e]at h1;exact⟨x,h1,h2⟩
 refine⟨⟨by simpa using I.len,I.fresh,I.there,I.W0,I.val,I.tag,I.desc,I.tg,I.one,λx D hx h0 ho=>⟨(I.cur x D hx h0 ho).1,λc hc hl=>(I.cur x D hx h0 ho).2 c hc (NV c hl)⟩,λc hc=>?_,λx D c c' hx h0 h1 h2=>?_,I.live⟩,
  ⟨λ_ D h=>⟨D,h,rfl,λ_=>rfl⟩,λx D D' c h1 h2 h3 h4=>?_,⟨Int.le_refl _,λ_=>rfl⟩,λ_ h1 h2=>aT h2 h1,λx c h1 h2 h3=>?_,λx D h h0 _ h2=>?_⟩,λx D hk h h0 hx=>⟨⟨D,h,h0⟩,?_⟩⟩
 .rw[hw];by_cases e:i=c
  .rw[aX e];rcases hv with h|⟨D,h3,h4,h5,h6⟩
   .exact .inl h
   .exact .inr ⟨d,D,h3,h4,.inl ⟨h5,h6⟩⟩
  .rw[aU e];exact I.cell c hc
 .rw[hw]at h1⊢;exact hp x D c c' hx h0 h1 h2
 .rw[hw];by_cases e:i=c
  .subst e;have h2:s.ds x=ae D':=h2;rw[aX rfl];exact hund x D' h2 h3 h4
  .rw[aU e];exact h4
 .rw[hw]at h3;by_cases e:i=c
  .rw[aX e]at h3;have:=fT x;have hW:=I.W0;rcases hv with h|⟨D,h4,h5,h6,_⟩
   .omega
   .rw[h4]at h3;obtain rfl:=jb h3;rw[cA h5]at h1;omega
  .rw[aU e]at h3;exact h2 h3
 .have h2:s.st x=2:=h2;rw[cA h]at h2;omega
 .rw[hw];by_cases e:i=0
  .rw[aX e];exact hown x D hk h h0 e hx
  .rw[aU e];exact hx
theorem WI.install(I:WI n S s W){e:fC}(hd:s.ds d=ae D)(h0:D.st=0)(he:D.es[i]? =ae e)(hi:i<n)(hw:s.w i=e.old)(ho:D.o=W)(hp:∀j,j<i->s.w j=bo d)(hK:i=0->¬K (d % 8)):
  WR n S K M s (s.vF i e.old (bo d))/\(s.vF i e.old (bo d)).w i=bo d/\(s.vF i e.old (bo d)).ds=s.ds/\∀j,j<i->(s.vF i e.old (bo d)).w j=bo d:=by
 have Uu:i<s.ws.length:=by rw[I.len];exact hi
 have hs:s.vF i e.old (bo d)={s with ws:=s.ws.set i (bo d)}:=by unfold JS.vF;rw[aX hw]
 have Ec:=(((I.desc d D hd).2.2).ent i e he).2.1;have hx:∀x,(s.vF i e.old (bo d)).w x=if i=x then bo d else s.w x:=λx=>by rw[hs];exact JS.Pv s i x _ Uu
 have hput:=I.put (K:=K) (d:=d) (v:=bo d) hi hs (.inr ⟨D,rfl,hd,h0,ho⟩) (λd' D' c c' h1 h2 h3 h4=>?_) (λd' D' _ _ h3=>?_) (λd' D' hk h1 h2 h3 h4 h5=>?_)
 .refine⟨⟨λW' I'=>?_,hput.2.2,λk _=>by rw[hs]⟩,by rw[hx,aX rfl],by rw[hs],λj hj=>by rw[hx,aU ai];exact hp j hj⟩;obtain rfl:=I.uniq ai I';exact⟨W',hput.1,hput.2.1⟩
 .by_cases e1:i=c
  .rw[aX e1]at h3;obtain rfl:=jb h3;rw[aU ai];exact hp c' ai
  .rw[aU e1]at h3;have h5:=I.pre d' D' c c' h1 h2 h3 h4;by_cases e2:i=c'
   .subst e2;rw[hw]at h5;have:=fT d';omega
   .rw[aU e2];exact h5
 .rw[hw]at h3;have:=fT d';omega
 .obtain rfl:=jb h5;exact hK h3 hk
theorem WI.clean(I:WI n S s W){e:fC}{v:Int}(hd:s.ds d=ae D)(hst:D.st≠0)(he:D.es[i]? =ae e)(hv:D.st=1->v=dR e.old e.next):
  WR n S K M s (s.vF i (bo d) v)/\(s.vF i (bo d) v).ds=s.ds:=by
 by_cases hw:s.w i=bo d
 .have hi:=I.lt hw;have Uu:i<s.ws.length:=by rw[I.len];exact hi
  have hs:s.vF i (bo d) v={s with ws:=s.ws.set i v}:=by unfold JS.vF;rw[aX hw]
  have hval:∀W',WI n S s W'->v=W':=λW' I'=>by
   obtain⟨D',h1,h2⟩:=I'.who hw;rw[hd]at h1;obtain rfl:=bj h1;rcases h2 with⟨h2,_⟩|⟨h2,h3⟩
   .exact aT h2 hst
   .rw[hv h2];exact h3 e (nJ he)
  have hput:=λW' (I':WI n S s W')=>I'.put (K:=K) (d:=d) (v:=v) hi hs (.inl (hval W' I')) (λd' D' c c' h1 h2 h3 h4=>by
    have h5:=hval W' I';have:=fT d';have hW:=I'.W0;by_cases e1:i=c
    .rw[aX e1]at h3;omega
    .rw[aU e1]at h3;have h6:=I.pre d' D' c c' h1 h2 h3 h4;rw[aU]
     .exact h6
     .rintro rfl;rw[hw]at h6;obtain rfl:=jb h6;rw[hd]at h1;obtain rfl:=bj h1;exact hst h2) (λd' D' h1 h2 h3=>by
    rw[hw]at h3;obtain rfl:=jb h3;rw[hd]at h1;obtain rfl:=bj h1;exact aT h2 hst) (λd' D' _ _ _ _ _ h=>by
    have h5:=hval W' I';have:=fT d';have hW:=I'.W0;omega)
  exact⟨⟨λW' I'=>⟨W',(hput W' I').1,(hput W' I').2.1⟩,(hput W I).2.2,λk _=>by rw[hs]⟩,by rw[hs]⟩
 .have hs:s.vF i (bo d) v=s:=by unfold JS.vF;rw[aU hw]
  rw[hs];exact⟨WR.refl s,rfl⟩
theorem FJ(s:JS){v:Nat}(hd:s.ds d=ae D)(h0:D.st=0):s.decide d v={s with ds:=λx=>if x=d then ae {D with st:=v}else s.ds x}:=by unfold JS.decide;rw[aX (by rw[cA hd,h0]),hd];rfl
theorem Dd(s:JS){v:Nat}(hd:s.ds d=ae D)(h0:D.st≠0):s.decide d v=s:=by unfold JS.decide;rw[aU (by rw[cA hd];exact h0)]
theorem WI.ah7(hd:s.ds d=ae D)(h0:D.st=0)(hw:s.w 0≠bo d)(hK:¬K (d % 8)):WR n S K M s (s.decide d 2)/\(s.decide d 2).ds d=ae {D with st:=2}:=by
 rw[FJ s hd h0];generalize hs':({s with ds:=λx=>if x=d then ae {D with st:=2}else s.ds x}:JS)=s';have Dl:∀x,s'.ds x=if x=d then ae {D with st:=2}else s.ds x:=λx=>by subst hs';rfl
 have FK:∀x,s'.w x=s.w x:=λx=>by subst hs';rfl
 have hlen:s'.ws=s.ws:=by subst hs';rfl
 have su:s'.made=s.made:=by subst hs';rfl
 have hdd:s'.ds d=ae {D with st:=2}:=by rw[Dl,aX rfl]
 have q9:∀x,x≠d->s'.ds x=s.ds x:=λx hx=>by rw[Dl,aU hx]
 have hst:∀x,s'.st x=1↔s.st x=1:=λx=>by
  by_cases e:x=d
  .subst e;rw[cA hdd,cA hd,h0];simp
  .simp only[JS.st,q9 x e]
 have hback:∀x D',s'.ds x=ae D'->D'.st≠2->x≠d/\s.ds x=ae D':=λx D' h h2=>by
  by_cases e:x=d
  .subst e;rw[hdd]at h;obtain rfl:=bj h;exact aT rfl h2
  .exact⟨e,by rw[←q9 x e];exact h⟩
 have NV:∀c,Sl s' c->Sl s c:=λc ⟨x,h1,h2⟩=>⟨x,by rw[←FK];exact h1,(hst x).1 h2⟩;refine⟨⟨λW I=>⟨W,⟨by rw[hlen];exact I.len,λk m hk hm=>?_,λk m hk hm=>?_,I.W0,I.val,?_,λx D' h=>?_,λx D' e h he=>?_,λx D' h h1=>?_,λx D' h h1 ho=>?_,λc hc=>?_,λx D' c c' h h1 h2 h3=>?_,λk hk=>?_⟩,⟨λx D' h=>?_,λx D1 D' c h1 h2 h3 h4=>by rw[FK];exact h4,⟨Int.le_refl _,λ_=>rfl⟩,λx h1 h2=>aT ((hst x).1 h2) h1,λx c _ h=>by rw[FK];exact h,λx D' h h1 h2=>?_⟩⟩,λx D' hk h h1 h2=>?_,λk _=>by rw[su]⟩,hdd⟩
 .rw[su]at hm;rw[q9]
  .exact I.fresh k m hk hm
  .intro e;have:=I.fresh k m hk hm;rw[e,hd]at this;cases this
 .rw[su]at hm;have:=I.there k m hk hm;by_cases e:k+8*m=d
  .rw[e,hdd];simp
  .rw[q9 _ e];exact this
 .rw[I.tag];exact congrArg _ (rG _ λx _=>by
   have:=hst x;by_cases h:s.st x=1
   .rw[h,this.2 h]
   .have h2:¬s'.st x=1:=λh'=>h (this.1 h');rw[beq_eq_false_iff_ne.2 h,beq_eq_false_iff_ne.2 h2])
 .by_cases e:x=d
  .subst e;rw[hdd]at h;obtain rfl:=bj h;obtain⟨a1,a2,a3⟩:=I.desc _ _ hd;exact⟨a1,aJ,a3⟩
  .rw[q9 x e]at h;exact I.desc x D' h
 .by_cases e':x=d
  .subst e';rw[hdd]at h;obtain rfl:=bj h;exact⟨(I.tg _ _ e hd he).1,λh=>by simp at h⟩
  .rw[q9 x e']at h;exact I.tg x D' e h he
 .obtain⟨_,h2⟩:=hback x D' h ai;exact I.one x D' h2 h1
 .obtain⟨_,h2⟩:=hback x D' h ai;obtain⟨a1,a2⟩:=I.cur x D' h2 h1 ho;exact⟨a1,λc hc hl=>a2 c hc (NV c hl)⟩
 .rw[FK];refine(I.cell c hc).imp id λ⟨x,D',h1,h2,h3⟩=>⟨x,D',h1,?_,h3⟩;rw[q9]
  .exact h2
  .rintro rfl;obtain⟨D2,g1,g2⟩:=I.who h1;rw[hd]at g1;obtain rfl:=bj g1;rcases g2 with⟨_,_,g2⟩|⟨g2,_⟩
   .exact hw g2
   .omega
 .obtain⟨_,h4⟩:=hback x D' h ai;rw[FK]at h2⊢;exact I.pre x D' c c' h4 h1 h2 h3
 .refine dm (qG _ λx _ h=>?_) (I.live k hk);simp only[cR]at h⊢;refine⟨h.1,?_⟩;by_cases e:x=d
  .subst e;simp[g9,hd,h0]
  .have:=h.2;simpa[g9,q9 x e]using this
 .by_cases e:x=d
  .subst e;rw[hd]at h;obtain rfl:=bj h;exact⟨_,hdd,rfl,λh=>aT h0 h⟩
  .exact⟨D',by rw[q9 x e];exact h,rfl,λ_=>rfl⟩
 .have e:x≠d:=by rintro rfl;exact hw h2
  simp only[JS.st,q9 x e];rw[h];simp[h1]
 .have e:x≠d:=by rintro rfl;exact hK hk
  exact⟨⟨D',by rw[q9 x e];exact h,h1⟩,by rw[FK];exact h2⟩
theorem WI.do(hn:0<n)(hd:s.ds d=ae D)(h0:D.st=0)(hall:∀c,c<n->s.w c=bo d):WR n S K M s (s.decide d 1)/\(s.decide d 1).ds d=ae {D with st:=1}:=by
 rw[FJ s hd h0];generalize hs':({s with ds:=λx=>if x=d then ae {D with st:=1}else s.ds x}:JS)=s';have Dl:∀x,s'.ds x=if x=d then ae {D with st:=1}else s.ds x:=λx=>by subst hs';rfl
 have FK:∀x,s'.w x=s.w x:=λx=>by subst hs';rfl
 have hlen:s'.ws=s.ws:=by subst hs';rfl
 have su:s'.made=s.made:=by subst hs';rfl
 have hdd:s'.ds d=ae {D with st:=1}:=by rw[Dl,aX rfl]
 have q9:∀x,x≠d->s'.ds x=s.ds x:=λx hx=>by rw[Dl,aU hx]
 have hback:∀x D',s'.ds x=ae D'->(x=d/\D'={D with st:=1})\/(x≠d/\s.ds x=ae D'):=λx D' h=>by
  by_cases e:x=d
  .subst e;rw[hdd]at h;exact .inl ⟨rfl,(bj h).symm⟩
  .rw[q9 x e]at h;exact .inr ⟨e,h⟩
 refine⟨⟨λW I=>?_,λx D' _ h h1 h2=>?_,λk _=>by rw[su]⟩,hdd⟩
 .obtain⟨Y0,adh,hF⟩:=I.desc d D hd;obtain⟨D',g1,g2⟩:=I.who (hall 0 hn);rw[hd]at g1;obtain rfl:=bj g1;have ho:D.o=W:=by
   rcases g2 with⟨_,g,_⟩|⟨g,_⟩
   .exact g
   .omega
  obtain⟨hold,hnl⟩:=I.cur d D hd h0 ho;obtain⟨e0,Ec,_⟩:=WI.KS hn hF;obtain⟨i0,xb⟩:=rS.1 Ec;obtain⟨_,_,_,b3,b4⟩:=hF.ent i0 e0 xb;have Iq:∀e∈D.es,e.next=e0.next:=λe he=>by
   rcases hF.nx with h|⟨y,_,h⟩
   .rw[h e he,h e0 Ec,hold e he,hold e0 Ec]
   .rw[h e he,h e0 Ec]
  have hS:S e0.next:=by
   rcases hF.nx with h|⟨y,hy,h⟩
   .rw[h e0 Ec,hold e0 Ec];exact I.val
   .rw[h e0 Ec];exact hy
  obtain⟨c1,c2,c3⟩:=tY W e0.next b3 b4;have ht:=Ic W e0.next (by have:=I.abA;omega);have hdn:dn s'=dn s+1:=KQ (x:=d) 8192 Y0 (λx _ hx=>by simp only[JS.st,q9 x hx]) (by rw[cA hd,h0];rfl) (by rw[cA hdd];rfl);have hnw:∀e∈D.es,dR e.old e.next=dR W e0.next:=λe he=>by rw[hold e he,Iq e he]
  generalize dR W e0.next=W' at*;refine⟨W',⟨by rw[hlen];exact I.len,λk m hk hm=>?_,λk m hk hm=>?_,⟨c1,c2⟩,by rw[show bV W'=e0.next from c3];exact hS,by rw[ht,I.tag,hdn];omega,λx D' h=>?_,λx D' e h he=>?_,λx D' h h1=>?_,λx D' h h1 h2=>?_,λc hc=>?_,λx D' c c' h h1 h2 h3=>?_,λk hk=>?_⟩,⟨λx D' h=>?_,λx D1 D' c h1 h2 h3 h4=>by rw[FK];exact h4,⟨by omega,λh=>ai⟩,λx _ _=>ai,λx c _ h=>by rw[FK];exact h,λx D' h h1 h2=>?_⟩⟩
  .rw[su]at hm;rw[q9]
   .exact I.fresh k m hk hm
   .intro e;have:=I.fresh k m hk hm;rw[e,hd]at this;cases this
  .rw[su]at hm;have:=I.there k m hk hm;by_cases e:k+8*m=d
   .rw[e,hdd];simp
   .rw[q9 _ e];exact this
  .rcases hback x D' h with⟨rfl,rfl⟩|⟨_,h⟩
   .exact⟨Y0,aJ,hF⟩
   .exact I.desc x D' h
  .rcases hback x D' h with⟨rfl,rfl⟩|⟨_,h⟩
   .have:=(I.tg x D e hd he).1;exact⟨ai,λ_=>ai⟩
   .have:=(I.tg x D' e h he).1;exact⟨ai,λ_=>ai⟩
  .rcases hback x D' h with⟨rfl,rfl⟩|⟨_,h⟩
   .exact⟨W,I.val,hold⟩
   .exact I.one x D' h h1
  .rcases hback x D' h with⟨rfl,rfl⟩|⟨_,h⟩
   .simp at h1
   .obtain⟨e,a1,a2⟩:=WI.KS hn (I.desc x D' h).2.2;have:=(I.tg x D' e h a1).1;rw[a2,h2]at this;omega
  .rw[FK];exact .inr ⟨d,_,hall c hc,hdd,.inr ⟨rfl,hnw⟩⟩
  .rw[FK]at h2;have hc:=I.lt h2;rw[hall c hc]at h2;obtain rfl:=jb h2;rw[hdd]at h;obtain rfl:=bj h;simp at h1
  .refine dm (qG _ λx _ h=>?_) (I.live k hk);simp only[cR]at h⊢;refine⟨h.1,?_⟩;by_cases e:x=d
   .subst e;simp[g9,hd,h0]
   .have:=h.2;simpa[g9,q9 x e]using this
  .by_cases e:x=d
   .subst e;rw[hd]at h;obtain rfl:=bj h;exact⟨_,hdd,rfl,λh=>aT h0 h⟩
   .exact⟨D',by rw[q9 x e];exact h,rfl,λ_=>rfl⟩
  .by_cases e:x=d
   .subst e;rw[cA hdd];simp
   .simp only[JS.st,q9 x e];rw[h];simp[h1]
 .have e:x≠d:=by rintro rfl;exact h2 (hall 0 hn)
  exact⟨⟨D',by rw[q9 x e];exact h,h1⟩,by rw[FK];exact h2⟩
theorem WI.make(I:WI n S s W){es:List fC}(hk:k<8)(hm:s.made k<1024)(hF:Full n S es)(ht:∀e∈es,gm e.old<=gm W)(hc:(mK.mk es 0).o=W->(∀e∈es,e.old=W)/\∀c,c<n->¬Sl s c)(hl:lv s k<64)(hM:¬M k)(hn:0<n):
  WR n S K M s (s.make k es)/\(s.make k es).ds (k+8*s.made k)=ae ⟨es,0⟩/\(s.make k es).w 0≠bo (k+8*s.made k)/\lv (s.make k es) k=lv s k+1/\(s.make k es).made k=s.made k+1/\(∀c,Sl (s.make k es) c->Sl s c):=by
 have hnone:=I.fresh k (s.made k) hk (bJ _);obtain⟨d,hd⟩:∃d,d=k+8*s.made k:=⟨_,rfl⟩;have hmk:s.make k es={s with ds:=λx=>if x=d then ae ⟨es,0⟩else s.ds x,made:=λx=>if x=k then s.made k+1 else s.made x}:=by rw[hd];rfl
 rw[←hd]at hnone⊢;rw[hmk];generalize hs':({s with ds:=λx=>if x=d then ae ⟨es,0⟩else s.ds x,made:=λx=>if x=k then s.made k+1 else s.made x}:JS)=s';have Dl:∀x,s'.ds x=if x=d then ae ⟨es,0⟩else s.ds x:=λx=>by subst hs';rfl
 have FK:∀x,s'.w x=s.w x:=λx=>by subst hs';rfl
 have hlen:s'.ws=s.ws:=by subst hs';rfl
 have su:∀x,s'.made x=if x=k then s.made k+1 else s.made x:=λx=>by subst hs';rfl
 have hdd:s'.ds d=ae ⟨es,0⟩:=by rw[Dl,aX rfl]
 have q9:∀x,x≠d->s'.ds x=s.ds x:=λx hx=>by rw[Dl,aU hx]
 have hne:∀x D',s.ds x=ae D'->x≠d:=λx D' h e=>by rw[e,hnone]at h;cases h
 have hst:∀x,s'.st x=s.st x:=λx=>by
  by_cases e:x=d
  .subst e;rw[cA hdd];simp[JS.st,hnone]
  .simp only[JS.st,q9 x e]
 have hback:∀x D',s'.ds x=ae D'->(x=d/\D'=⟨es,0⟩)\/(x≠d/\s.ds x=ae D'):=λx D' h=>by
  by_cases e:x=d
  .subst e;rw[hdd]at h;exact .inl ⟨rfl,(bj h).symm⟩
  .rw[q9 x e]at h;exact .inr ⟨e,h⟩
 have NV:∀c,Sl s' c->Sl s c:=λc ⟨x,h1,h2⟩=>⟨x,by rw[←FK];exact h1,by rw[←hst];exact h2⟩;have xz:∀c,s.w c≠bo d:=λc h=>by obtain⟨D',h1,_⟩:=I.who h;exact hne d D' h1 rfl
 have Y0:d<8192:=ai;have hlv:lv s' k=lv s k+1:=KQ (x:=d) 8192 Y0 (λx _ hx=>by simp only[g9,q9 x hx]) (by simp[g9,hnone]) (by simp[g9,hdd];omega);refine⟨⟨λW' I'=>?_,λx D' _ h h1 h2=>⟨⟨D',by rw[q9 x (hne x D' h)];exact h,h1⟩,by rw[FK];exact h2⟩,λx hx=>?_⟩,hdd,by rw[FK];exact xz 0,hlv,by rw[su,aX rfl],NV⟩
 .obtain rfl:=I.uniq hn I';refine⟨W',⟨by rw[hlen];exact I.len,λk' m qK vx=>?_,λk' m qK vx=>?_,I.W0,I.val,?_,λx D' h=>?_,λx D' e h he=>?_,λx D' h h1=>?_,λx D' h h1 ho=>?_,λc hc=>?_,λx D' c c' h h1 h2 h3=>?_,λk' qK=>?_⟩,⟨λx D' h=>⟨D',by rw[q9 x (hne x D' h)];exact h,rfl,λ_=>rfl⟩,λx D1 D' c h1 h2 h3 h4=>by rw[FK];exact h4,⟨Int.le_refl _,λ_=>rfl⟩,λx h1 h2=>aT (by rw[←hst];exact h2) h1,λx c _ h=>by rw[FK];exact h,λx D' h h1 h2 h3=>?_⟩⟩
  .rw[su]at vx;rw[q9]
   .refine I.fresh k' m qK ?_;split at vx
    .rename_i e;subst e;omega
    .exact vx
   .intro e;split at vx
    .omega
    .rename_i Im;apply Im;omega
  .rw[su]at vx;by_cases e:k'+8*m=d
   .rw[e,hdd];simp
   .rw[q9 _ e];refine I.there k' m qK ?_;split at vx
    .rename_i e';subst e';omega
    .exact vx
  .rw[I.tag];exact congrArg _ (rG _ λx _=>by rw[hst])
  .rcases hback x D' h with⟨rfl,rfl⟩|⟨_,h⟩
   .exact⟨Y0,aJ,hF⟩
   .exact I.desc x D' h
  .rcases hback x D' h with⟨rfl,rfl⟩|⟨_,h⟩
   .exact⟨ht e he,λh=>by simp at h⟩
   .exact I.tg x D' e h he
  .rcases hback x D' h with⟨rfl,rfl⟩|⟨_,h⟩
   .simp at h1
   .exact I.one x D' h h1
  .rcases hback x D' h with⟨rfl,rfl⟩|⟨_,h⟩
   .obtain⟨a1,a2⟩:=hc ho;exact⟨a1,λc hc hl=>a2 c hc (NV c hl)⟩
   .obtain⟨a1,a2⟩:=I.cur x D' h h1 ho;exact⟨a1,λc hc hl=>a2 c hc (NV c hl)⟩
  .rw[FK];exact(I.cell c hc).imp id λ⟨x,D',h1,h2,h3⟩=>⟨x,D',h1,by rw[q9 x (hne x D' h2)];exact h2,h3⟩
  .rw[FK]at h2⊢;rcases hback x D' h with⟨rfl,rfl⟩|⟨_,h⟩
   .exact aT h2 (xz c)
   .exact I.pre x D' c c' h h1 h2 h3
  .by_cases e:k'=k
   .subst e;rw[hlv];omega
   .refine dm (Nat.le_of_eq (rG _ λx _=>?_)) (I.live k' qK);by_cases ex:x=d
    .have:(x % 8==k')=aw:=dp;rw[this];rfl
    .simp only[g9,q9 x ex]
  .rw[hst,cA h,h1]at h3;cases h3
 .rw[su,aU];rintro rfl;exact hM hx
end
end
section
open Go.Proofs.YtfmibhmknlnoiaaGreat.Pr
section
variable{n:Nat}{K:Nat->Prop}{es:List fC}
def WJ(n:Nat)(S:Int->Prop)(s:JS):Prop:=∃W,WI n S s W
abbrev RK(n:Nat)(S:Int->Prop)(k:Nat):JS->JS->Prop:=WR n S (λj=>j=k) (λj=>j=k)
abbrev GK(n:Nat)(S:Int->Prop)(K:Nat->Prop):JS->JS->Prop:=WR n S K (λ_=>True)
abbrev oE(es:List fC):Int:=(mK.mk es 0).o
def LF(n:Nat)(S:Int->Prop)(s:JS)(c:Nat)(h:Int):Prop:=∀W,WI n S s W->gm h<=gm W/\(gm h=gm W->h=W/\¬Sl s c)
def Kn(s:JS)(d:Nat)(es:List fC)(i:Nat):Prop:=∃D,s.ds d=ae D/\D.es=es/\(D.st=1\/(D.st=0/\s.w 0=bo d/\∀j,j<i->s.w j=bo d))
def Ow(s:JS)(d:Nat)(es:List fC):Prop:=(∃D,s.ds d=ae D/\D.es=es/\D.st=0)/\s.w 0≠bo d
def Dc(n:Nat)(S:Int->Prop)(s:JS)(d:Nat)(es:List fC):Prop:=∃D,s.ds d=ae D/\D.es=es/\(D.st=1\/(D.st=2/\∀W,WI n S s W->gm (oE es) <gm W))
theorem WR.go(hn:0<n)(I:WI n S s W)(I':WI n S s' W')(g:WR n S K M s s'):WB s s' W W':=by obtain⟨W2,h1,h2⟩:=g.wb W I;obtain rfl:=I'.uniq hn h1;exact h2
theorem LF.rely(hn:0<n)(I:WJ n S s)(H:LF n S s c h)(g:WR n S K M s s'):LF n S s' c h:=by
 intro W' I';obtain⟨W,I⟩:=I;have B:=g.go hn I I';have h1:=H W I;have h2:=B.tag;refine⟨ai,λe=>?_⟩;have h3:=h1.2 ai;have h4:=h2.2 ai;refine⟨ai,λ⟨x,l1,l2⟩=>?_⟩;by_cases hx:s.st x=1
 .by_cases hw:s.w c=bo x
  .exact h3.2 ⟨x,hw,hx⟩
  .exact B.out x c hx hw l1
 .have:=B.dn x hx l2;omega
theorem Kn.rely(hn:0<n)(I:WJ n S s)(I':WJ n S s')(H:Kn s d es i)(g:WR n S K M s s'):Kn s' d es i:=by
 obtain⟨W,I⟩:=I;obtain⟨W',I'⟩:=I';have B:=g.go hn I I';obtain⟨D,h1,h2,h3⟩:=H;obtain⟨D',g1,g2,g3⟩:=B.ds d D h1;refine⟨D',g1,g2.trans h2,?_⟩;rcases h3 with h3|⟨h3,h4,h5⟩
 .exact .inl (by rw[g3 ai];exact h3)
 .have a1:=B.nu d D h1 h3 h4;rw[cA g1]at a1;have a2:=(I'.desc d D' g1).2.1;by_cases e:D'.st=0
  .exact .inr ⟨e,B.und d D D' 0 h1 g1 e h4,λj hj=>B.und d D D' j h1 g1 e (h5 j hj)⟩
  .exact .inl ai
theorem Kn.less(H:Kn s d es i)(h:j<=i):Kn s d es j:=by obtain⟨D,h1,h2,h3⟩:=H;exact⟨D,h1,h2,h3.imp id λ⟨a,b,c⟩=>⟨a,b,λx hx=>c x ai⟩⟩
theorem Kn.more(H:Kn s d es i)(h:s.w i=bo d):Kn s d es (i+1):=by
 obtain⟨D,h1,h2,h3⟩:=H;refine⟨D,h1,h2,h3.imp id λ⟨a,b,c⟩=>⟨a,b,λx hx=>?_⟩⟩;by_cases e:x=i
 .rw[e];exact h
 .exact c x ai
theorem Ow.rely(I:WJ n S s)(H:Ow s d es)(g:WR n S K M s s')(hK:K (d % 8)):Ow s' d es:=by obtain⟨W,I⟩:=I;obtain⟨W',_,B⟩:=g.wb W I;obtain⟨⟨D,h1,h2,h3⟩,h4⟩:=H;obtain⟨⟨D',g1,g2⟩,g3⟩:=g.own d D hK h1 h3 h4;obtain⟨D2,b1,b2,_⟩:=B.ds d D h1;rw[g1]at b1;obtain rfl:=bj b1;exact⟨⟨D',g1,b2.trans h2,g2⟩,g3⟩
theorem Dc.rely(hn:0<n)(I:WJ n S s)(H:Dc n S s d es)(g:WR n S K M s s'):Dc n S s' d es:=by
 obtain⟨W,I⟩:=I;obtain⟨D,h1,h2,h3⟩:=H;obtain⟨_,_,B⟩:=g.wb W I;obtain⟨D',g1,g2,g3⟩:=B.ds d D h1;have h0:D.st≠0:=by rcases h3 with h|⟨h,_⟩ <;>omega
 refine⟨D',g1,g2.trans h2,?_⟩;rw[g3 h0];refine h3.imp id λ⟨a,b⟩=>⟨a,λW' I'=>?_⟩;have:=b W I;have:=(g.go hn I I').tag.1;omega
theorem Dc.st(H:Dc n S s d es):s.st d≠0:=by obtain⟨D,h1,_,h3⟩:=H;rw[cA h1];rcases h3 with h|⟨h,_⟩ <;>omega
theorem Ie(I:WJ n S s)(g:WR n S K M s s')(h:s.st d≠0):s'.st d=s.st d:=by obtain⟨W,I⟩:=I;obtain⟨_,_,B⟩:=g.wb W I;obtain⟨D,h1⟩:=Br h;obtain⟨D',g1,_,g3⟩:=B.ds d D h1;rw[cA h1]at h⊢;rw[cA g1,g3 h]
theorem WI.kn(I:WI n S s W)(h:s.w c=bo d):∃D,s.ds d=ae D/\Kn s d D.es 0:=by obtain⟨D,h1,h2⟩:=I.who h;exact⟨D,h1,D,h1,rfl,h2.elim (λ⟨a,_,b⟩=>.inr ⟨a,b,λj hj=>ai⟩) λ⟨a,_⟩=>.inl a⟩
theorem yj{x:Int}(h:x<0):∃d':Nat,x=bo d'/\(-x-1).toNat=d':=⟨(-x-1).toNat,by unfold bo;omega,rfl⟩
theorem X8{o v:Int}{G:JS->JS->Prop}{Q:Bool->JS->Prop}(h:∀s',WJ n S s'->R s s'->WJ n S (s'.vF c o v)/\G s' (s'.vF c o v)/\Q (s'.w c==o) (s'.vF c o v)):(casP c o v).Sf (WJ n S) R G Q s:=λs' h1 h2=>h s' h1 h2
theorem PO{o v:Int}(h:s.w c≠o):s.vF c o v=s:=by unfold JS.vF;rw[aU h]
theorem WR.wj(I:WJ n S s)(g:WR n S K M s s'):WJ n S s':=by obtain⟨W,I⟩:=I;obtain⟨W',I',_⟩:=g.wb W I;exact⟨W',I'⟩
theorem KT(hn:0<n)(hF:Full n S es)(hh:∀d' s es',WJ n S s->Kn s d' es' 0->(j6 d').Sf (WJ n S) (RK n S k) (GK n S λ_=>True) (λ_ _=>True) s):∀f i s,WJ n S s->(Kn s d es i\/(i=0/\Ow s d es/\LF n S s 0 (oE es)/\d % 8=k/\¬K k))->
  (installsP j6 d es f i).Sf (WJ n S) (RK n S k) (GK n S K) (λok s'=>(ok=au->Kn s' d es n)/\(ok=aw->Dc n S s' d es)) s:=by
 intro f;induction f with
 |zero=>exact λ_ _ _ _=>trivial
 |succ f ih=>
  intro i s hI hK;unfold installsP;cases he:es[i]? with
  |none=>
   have j4:=List.getElem?_eq_none_iff.1 he;rw[hF.len]at j4;refine⟨λ_=>?_,λh=>dB⟩;rcases hK with hK|⟨h,_⟩
   .exact hK.less j4
   .omega
  |some e=>
   have j4:i<n:=(by have:=(eX.1 he).1;rw[hF.len]at this;exact this);obtain⟨Py,ho1,Az,ho3,Gp⟩:=hF.ent i e he;have rel:∀{s s':JS},WJ n S s->WJ n S s'->RK n S k s s'->(Kn s d es i\/(i=0/\Ow s d es/\LF n S s 0 (oE es)/\d % 8=k/\¬K k))->(Kn s' d es i\/(i=0/\Ow s' d es/\LF n S s' 0 (oE es)/\d % 8=k/\¬K k)):=λhI hI' hR h=>h.imp (λh=>h.rely hn hI hI' hR) λ⟨a,b,c,x,y⟩=>⟨a,b.rely hI hR x,c.rely hn hI hR,x,y⟩;simp only[];rw[Py];intro s1 DO hR1;have hK1:=rel hI DO hR1 hK;refine⟨DO,WR.refl _,?_⟩;by_cases h0:s1.st d≠0
   .simp only[id,aX h0];refine Pr.Sf.nd ⟨λh=>dB,λ_=>?_⟩;rcases hK1 with⟨D,h1,h2,h3⟩|⟨_,⟨⟨D,h1,_,h3⟩,_⟩,_⟩
    .rw[cA h1]at h0;exact⟨D,h1,h2,.inl (by rcases h3 with h|⟨h,_⟩ <;>omega)⟩
    .rw[cA h1]at h0;exact aT h3 h0
   .simp only[id,aU h0];refine Pr.Sf.bind (Q:=λok s2=>(ok=au->Kn s2 d es (i+1))/\(ok=aw->(Kn s2 d es i/\(s2.st d=0->s2.w i=bo d))\/(i=0/\Ow s2 d es/\LF n S s2 0 (oE es)/\d % 8=k/\¬K k)/\s2.w 0≠oE es)) (λok s2 sO ⟨hok,hno⟩=>?_) DO (X8 λs2 sO hR2=>?_)
    .cases ok with
     |true=>exact ih _ _ sO (.inl (hok rfl))
     |false=>
      simp only[iy,if_false];have hno:=hno rfl;intro s3 EA hR3;have hK3:=rel sO EA hR3 (hno.imp And.left And.left);refine⟨EA,WR.refl _,?_⟩;simp only[id];by_cases hu:s3.w i=bo d
      .rw[aX hu];rcases hK3 with h|⟨rfl,h,_⟩
       .exact ih _ _ EA (.inl (h.more hu))
       .exact aT hu h.2
      .rw[aU hu];obtain⟨W3,I3⟩:=id EA;by_cases iN:s3.w i<0
       .rw[aX iN];obtain⟨d',yr,hx⟩:=yj iN;rw[hx];obtain⟨D',_,qK⟩:=I3.kn yr;refine Pr.Sf.bind (λ_ s4 hI4 h4=>ih _ _ hI4 (rel EA hI4 h4.2 hK3)) EA (Pr.Sf.mono (WR.weak (λ_ _=>trivial) λ_ h=>h) (λ_ _ _ h=>h) EA (Pr.Sf.Po (T:=RK n S k) WR.trans (λ_ _ h=>h) (WR.weak (λ_ _=>trivial) λ_ _=>trivial) (WR.refl _) (hh d' s3 D'.es EA qK)))
       .rw[aU iN];have hpl:=I3.plain j4 ai;obtain⟨W2,I2⟩:=id sO;have B:=hR3.go hn I2 I3;intro s4 hI4 hR4;rcases hno with⟨hk2,mO⟩|⟨⟨rfl,how,Lx,vt,hKk⟩,ah8⟩
        .have hk3:Kn s3 d es i:=hk2.rely hn sO EA hR3;have hk4:=hk3.rely hn EA hI4 hR4;obtain⟨D3,b1,b2,b3⟩:=hk3;have ah9:D3.st=1:=by
          rcases b3 with h|⟨h,_⟩
          .exact h
          .exfalso;obtain⟨D2,c1,c2,_⟩:=hk2;obtain⟨D3',e1,_,e3⟩:=B.ds d D2 c1;rw[b1]at e1;obtain rfl:=bj e1;have h20:D2.st=0:=eV λhc=>(by rw[e3 hc]at h;exact hc h);exact hu (B.und d D2 D3 i c1 b1 h (mO (by rw[cA c1];exact h20)))
         have adJ:=Ie (d:=d) EA hR4 (by rw[cA b1];omega);rw[cA b1,ah9]at adJ;obtain⟨D4,c1,c2,c3⟩:=hk4;rw[cA c1]at adJ;show WJ n S (s4.decide d 2)/\GK n S K s4 (s4.decide d 2)/\Pr.Sf _ _ _ _ _ (s4.decide d 2);rw[Dd s4 c1 ai];exact⟨hI4,WR.refl _,Pr.Sf.nd ⟨λh=>dB,λ_=>⟨D4,c1,c2,.inl adJ⟩⟩⟩
        .have aia:=how.rely sO hR3 vt;have aib:=aia.rely EA hR4 vt;have hlt:gm (oE es) <gm W3:=by
          have t1:=Lx W2 I2;have t2:=B.tag;apply eV;intro hc;have t3:=t1.2 ai;have hW2:=I2.W0;rcases I2.cell 0 j4 with h|⟨x,D2,h1,h2,h3⟩
          .exact ah8 (by rw[h,t3.1])
          .rcases h3 with⟨h3,_⟩|⟨h3,_⟩
           .obtain⟨D3,e1,e2,e3⟩:=B.ds x D2 h2;have e4:=B.nu x D2 h2 h3 h1;rw[cA e1]at e4;have e5:=(I3.desc x D3 e1).2.1;by_cases e6:D3.st=0
            .have:=B.und x D2 D3 0 h2 e1 e6 h1;have:=fT x;omega
            .have:=B.dn x (by rw[cA h2];omega) (by rw[cA e1];omega);omega
           .exact t3.2 ⟨x,h1,by rw[cA h2];exact h3⟩
         obtain⟨W4,I4⟩:=id hI4;obtain⟨⟨D4,c1,c2,c3⟩,c4⟩:=aib;obtain⟨u1,u2⟩:=WI.ah7 (n:=n) (S:=S) (K:=K) (M:=λ_=>True) c1 c3 c4 (by rw[vt];exact hKk);refine⟨u1.wj hI4,u1,Pr.Sf.nd ⟨λh=>dB,λ_=>⟨_,u2,c2,.inr ⟨rfl,λW5 I5=>?_⟩⟩⟩⟩;have:=(u1.go hn I4 I5).tag.1;have:=(hR4.go hn I3 I4).tag.1;omega
    .have hK2:=rel DO sO hR2 hK1;obtain⟨W2,I2⟩:=id sO;by_cases hw:s2.w i=e.old
     .have hb:(s2.w i==e.old)=au:=(by simpa using hw);have hpl:=I2.plain j4 ai;rw[hb];rcases hK2 with⟨D,h1,h2,h3⟩|⟨rfl,⟨⟨D,h1,h2,h3⟩,h4⟩,Lx,vt,hKk⟩
      .have hem:e∈D.es:=(by rw[h2];exact nJ he);rcases h3 with h3|⟨h3,h4,h5⟩
       .have:=(I2.tg d D e h1 hem).2 h3;rw[←hw,hpl]at this;omega
       .obtain⟨D',g1,g2⟩:=I2.who h4;rw[h1]at g1;obtain rfl:=bj g1;have xb:i≠0:=λhi=>(by subst hi;have:=fT d;omega);rcases g2 with⟨_,g,_⟩|⟨g,_⟩
        .obtain⟨u1,u2,u3,u4⟩:=I2.install (K:=K) (M:=λ_=>True) (i:=i) h1 h3 (by rw[h2];exact he) j4 hw g h5 (λh=>aT h xb);exact⟨u1.wj sO,u1,λ_=>⟨D,by rw[u3];exact h1,h2,.inr ⟨h3,u4 0 ai,λj hj=>by
          by_cases ej:j=i
          .rw[ej];exact u2
          .exact u4 j ai⟩⟩,λh=>dB⟩
        .omega
      .have ho:D.o=W2:=(by rw[←hpl,hw];simp only[mK.o,h2,eF,he,cN]);obtain⟨u1,u2,u3,u4⟩:=I2.install (K:=K) (M:=λ_=>True) (i:=0) h1 h3 (by rw[h2];exact he) j4 hw ho (λj hj=>ai) (λ_=>by rw[vt];exact hKk);exact⟨u1.wj sO,u1,λ_=>⟨D,by rw[u3];exact h1,h2,.inr ⟨h3,u2,λj hj=>by obtain rfl:j=0:=ai;exact u2⟩⟩,λh=>dB⟩
     .have hb:(s2.w i==e.old)=aw:=(by simpa using hw);rw[hb,PO hw];refine⟨sO,WR.refl _,λh=>dB,λ_=>?_⟩;rcases hK2 with hk2|⟨rfl,how,Lx,vt,hKk⟩
      .refine .inl ⟨hk2,λh0=>?_⟩;obtain⟨D,h1,h2,h3⟩:=hk2;rw[cA h1]at h0;rcases h3 with h3|⟨h3,h4,h5⟩
       .omega
       .obtain⟨D',g1,g2⟩:=I2.who h4;rw[h1]at g1;obtain rfl:=bj g1;rcases g2 with⟨_,g,_⟩|⟨g,_⟩
        .obtain⟨a1,a2⟩:=I2.cur d D h1 h3 g;have:=a1 e (by rw[h2];exact nJ he);rcases I2.cell i j4 with h|⟨x,D2,x1,x2,x3⟩
         .exact aT (by rw[h,this]) hw
         .rcases x3 with⟨x3,_⟩|⟨x3,_⟩
          .obtain⟨D3,y1,y2⟩:=I2.who x1;rw[x2]at y1;obtain rfl:=bj y1;rcases y2 with⟨_,_,y2⟩|⟨y2,_⟩
           .rw[h4]at y2;rw[jb y2];exact x1
           .omega
          .exact aT ⟨x,x1,by rw[cA x2];exact x3⟩ (a2 i j4)
        .omega
      .refine .inr ⟨⟨rfl,how,Lx,vt,hKk⟩,λh=>hw ?_⟩;rw[h];simp only[oE,mK.o,eF,he,cN]
theorem X9(hn:0<n)(hF:Full n S es){b:Bool}:∀(l:List fC) (s:JS),(∀e∈l,e∈es)->WJ n S s->Dc n S s d es->(b=au↔s.st d=1)->(jH d b l).Sf (WJ n S) (RK n S k) (GK n S λ_=>True) (λ_ s'=>Dc n S s' d es/\(b=au↔s'.st d=1)) s:=by
 intro l;induction l with
 |nil=>exact λs _ _ h1 h2=>⟨h1,h2⟩
 |cons e l ih=>intro s hl hI hD hb;unfold jH;obtain⟨i,hi⟩:=rS.1 (hl e (nt ..));refine Pr.Sf.bind (Q:=λ_ s2=>Dc n S s2 d es/\(b=au↔s2.st d=1)) (λ_ s2 sO h2=>ih s2 (λe he=>hl e (kH _ he)) sO h2.1 h2.2) hI (X8 λs2 sO hR2=>?_);have Pz:=hD.rely hn hI hR2;have hs2:=Ie hI hR2 hD.st;obtain⟨W2,I2⟩:=id sO;obtain⟨D,h1,h2,h3⟩:=id Pz;obtain⟨u1,u2⟩:=I2.clean (K:=λ_=>True) (M:=λ_=>True) (i:=i) (v:=if b=au then dR e.old e.next else e.old) h1 (by rw[←cA h1];exact Pz.st) (by rw[h2];exact hi) (λh=>by rw[aX];rw[hb,←hs2,cA h1];exact h);rw[←(hF.ent i e hi).1]at u1 u2;have hs3:=Ie sO u1 Pz.st;exact⟨u1.wj sO,u1,Pz.rely hn sO u1,by rw[hs3,hs2];exact hb⟩
theorem PQ(hn:0<n):∀(f d:Nat) (s:JS) (es:List fC) (K:Nat->Prop),WJ n S s->(Kn s d es 0\/(Ow s d es/\LF n S s 0 (oE es)/\d % 8=k/\¬K k))->(kt f d).Sf (WJ n S) (RK n S k) (GK n S K) (λok s'=>Dc n S s' d es/\(ok=au↔s'.st d=1)) s:=by
 intro f;induction f with
 |zero=>exact λ_ _ _ _ _ _=>trivial
 |succ f ih=>
  intro d s es K hI hK;unfold kt;refine⟨hI,WR.refl _,?_⟩;obtain⟨W,I⟩:=id hI;have hD:∃D,s.ds d=ae D/\D.es=es:=by
   rcases hK with⟨D,h1,h2,_⟩|⟨⟨⟨D,h1,h2,_⟩,_⟩,_⟩
   .exact⟨D,h1,h2⟩
   .exact⟨D,h1,h2⟩
  obtain⟨D,hd,hes⟩:=hD;have hF:Full n S es:=by rw[←hes];exact(I.desc d D hd).2.2
  have VT:(id s:JS).es d=es:=by simp[JS.es,hd,hes]
  simp only[id]at VT⊢;rw[VT];have weak:∀a b,GK n S (λ_=>True) a b->GK n S K a b:=WR.weak (λ_ _=>trivial) λ_ h=>h;refine Pr.Sf.bind (λok s1 DO h1=>?_) hI (KT (K:=K) hn hF (λd' s' es' hI' qK=>Pr.Sf.mono (λ_ _ h=>h) (λ_ _ _ _=>trivial) hI' (ih d' s' es' (λ_=>True) hI' (.inl qK))) f 0 s hI (hK.imp id λh=>⟨rfl,h⟩));refine Pr.Sf.bind (Q:=λ_ s'=>Dc n S s' d es) (λ_ s2 sO h2=>?_) DO ?_
  .intro s3 EA hR3;have h3:=h2.rely hn sO hR3;refine⟨EA,WR.refl _,?_⟩;simp only[id];refine Pr.Sf.bind (λ_ s4 hI4 h4=>Pr.Sf.nd ?_) EA (Pr.Sf.mono weak (λ_ _ _ h=>h) EA (X9 hn hF es s3 (λ_ h=>h) EA h3 aJ));exact h4
  .cases ok with
   |true=>
    intro s3 EA hR3;obtain⟨D3,a1,a2,a3⟩:=(h1.1 rfl).rely hn DO EA hR3;show WJ n S (s3.decide d 1)/\GK n S K s3 (s3.decide d 1)/\Pr.Sf _ _ _ _ _ (s3.decide d 1);rcases a3 with a3|⟨a3,a4,a5⟩
    .rw[Dd s3 a1 ai];exact⟨EA,WR.refl _,Pr.Sf.nd ⟨D3,a1,a2,.inl a3⟩⟩
    .obtain⟨u1,u2⟩:=WI.do (n:=n) (S:=S) (K:=K) (M:=λ_=>True) hn a1 a3 a5;exact⟨u1.wj EA,u1,Pr.Sf.nd ⟨_,u2,a2,.inl rfl⟩⟩
   |false=>exact Pr.Sf.nd (h1.2 rfl)
theorem PR(hn:0<n)(F:Nat)(hc:c<n):∀(f:Nat) (s:JS),WJ n S s->(iF F f c).Sf (WJ n S) (RK n S k) (GK n S λ_=>True) (λh s'=>(0<=h/\h<=1152921504606846975)/\LF n S s' c h/\∀W,WI n S s W->gm W<=gm h) s:=by
 intro f;induction f with
 |zero=>exact λ_ _=>trivial
 |succ f ih=>
  intro s hI;unfold iF;intro s1 DO hR1;refine⟨DO,WR.refl _,?_⟩;simp only[id];obtain⟨W1,I1⟩:=id DO;by_cases iN:s1.w c<0
  .rw[aX iN];obtain⟨d',yr,hx⟩:=yj iN;rw[hx];obtain⟨D',_,qK⟩:=I1.kn yr;refine Pr.Sf.bind (λ_ s2 sO h2=>?_) DO (Pr.Sf.Po (T:=RK n S k) WR.trans (λ_ _ h=>h) (WR.weak (λ_ _=>trivial) λ_ _=>trivial) (WR.refl _) (PQ hn F d' s1 D'.es (λ_=>True) DO (.inl qK)));refine Pr.Sf.mono (λ_ _ h=>h) (λh s3 _ ⟨a1,a2,a3⟩=>⟨a1,a2,λW I=>?_⟩) sO (ih s2 sO);obtain⟨W2,I2⟩:=sO;have:=a3 W2 I2;have:=(hR1.go hn I I1).tag.1;have:=(h2.2.go hn I1 I2).tag.1;omega
  .rw[aU iN];have hpl:=I1.plain hc ai;refine Pr.Sf.nd ⟨by rw[hpl];exact I1.W0,λW I=>?_,λW I=>?_⟩
   .obtain rfl:=I1.uniq hn I;rw[hpl];refine⟨Int.le_refl _,λ_=>⟨rfl,λ⟨x,h,_⟩=>?_⟩⟩;have:=fT x;omega
   .rw[hpl];exact(hR1.go hn I I1).tag.1
def Cn(n:Nat)(S:Int->Prop)(k i:Nat)(s:JS):Prop:=lv s k<=i/\∀W,WI n S s W->(s.made k:Int)<=i+gm W
theorem Ya(hk:k<8)(I:WJ n S s)(I':WJ n S s')(g:WR n S K M s s')(hM:M k):lv s' k<=lv s k/\∀d,d<8192->d % 8=k->s'.st d=2->g9 s d=au->lv s' k+1<=lv s k:=by
 obtain⟨W,I⟩:=I;obtain⟨W',I'⟩:=I';obtain⟨_,_,B⟩:=g.wb W I;have hm:=g.made k hM;have key:∀d,d<8192->(d % 8==k&&g9 s' d)=au->(d % 8==k&&g9 s d)=au:=λd hd h=>by
  simp only[cR,beq_iff_eq]at h⊢;obtain⟨h1,h2⟩:=h;refine⟨h1,?_⟩;obtain⟨m,rfl⟩:∃m,d=k+8*m:=⟨d / 8,ai⟩;by_cases hlt:m<s.made k
  .obtain⟨D,hD⟩:=nE.1 (I.there k m hk hlt);obtain⟨D',g1,_,g3⟩:=B.ds _ D hD;simp only[g9,g1,hD]at h2⊢;by_cases h0:D.st=0
   .simp[h0]
   .rw[g3 h0]at h2;exact h2
  .have:=I'.fresh k m hk ai;simp[g9,this]at h2
 refine⟨qG _ key,λd hd vt hst ha=>Sk (x:=d) _ hd key ?_ ?_⟩
 .obtain⟨D,hD⟩:=Br (s:=s') (d:=d) ai;rw[cA hD]at hst;simp[g9,hD,hst]
 .simp[vt,ha]
theorem Cn.rely(hn:0<n)(hk:k<8)(I:WJ n S s)(I':WJ n S s')(H:Cn n S k i s)(g:WR n S K M s s')(hM:M k):Cn n S k i s':=by refine⟨dm (Ya hk I I' g hM).1 H.1,λW' I2=>?_⟩;obtain⟨W,I⟩:=I;have:=H.2 W I;have:=(g.go hn I I2).tag.1;rw[g.made k hM];omega
theorem Cn.more(H:Cn n S k i s):Cn n S k (i+1) s:=⟨Nat.le_succ_of_le H.1,λW I=>by have:=H.2 W I;omega⟩
abbrev GW(n:Nat)(S:Int->Prop)(k:Nat):JS->JS->Prop:=WR n S (λj=>j≠k) (λj=>j≠k)
theorem af8(a b:JS)(h:GK n S (λ_=>True) a b):GW n S k a b:=h.weak (λ_ _=>trivial) (λ_ _=>trivial)
theorem aaG(hn:0<n)(F:Nat)(hk:k<8)(hi:i<64)(I:WI n S s W)(hF:Full n S es)(ht:∀e∈es,gm e.old<=gm W)(hc:oE es=W->(∀e∈es,e.old=W)/\∀c,c<n->¬Sl s c)(Lx:LF n S s 0 (oE es))(hl:lv s k<=i)(hm:(s.made k:Int)<=i+gm (oE es)):
  (doesP F k es).Sf (WJ n S) (RK n S k) (GW n S k) (λr s'=>r.2=0/\(r.1=au->(∃o,S (bV o)/\∀e∈es,e.old=o)/\Cn n S k (i+1) s')/\(r.1=aw->Cn n S k i s')) s:=by
 unfold doesP;refine⟨⟨W,I⟩,WR.refl _,?_⟩;simp only[id];have htW:=(Lx W I).1;have ajh:=I.abA;rw[aU ai];obtain⟨u1,u2,u3,u4,u5,u6⟩:=I.make (K:=λj=>j≠k) (M:=λj=>j≠k) hk ai hF ht hc ai (λh=>h rfl) hn;have Z5:=u1.wj ⟨W,I⟩;refine⟨Z5,u1,?_⟩;show Pr.Sf _ _ _ _ ((kt F (k+8*s.made k)).bind _) (s.make k es);generalize hd:k+8*s.made k=d at*;have how:Ow (s.make k es) d es:=⟨⟨_,u2,rfl,rfl⟩,u3⟩;have aic:=Lx.rely hn ⟨W,I⟩ u1;refine Pr.Sf.bind (λok s2 sO h2=>Pr.Sf.nd ?_) Z5 (Pr.Sf.mono (WR.weak (λ_ h=>h) (λ_ _=>trivial)) (λ_ _ _ h=>h) Z5 (Pr.Sf.Po (T:=WR n S (λ_=>False) (λj=>j=k)) WR.trans (WR.weak (λ_ h=>h.elim) λ_ h=>h) (WR.weak (λ_ h=>h.elim) λ_ _=>trivial) (WR.refl _) (PQ hn F d (s.make k es) es (λj=>j≠k) Z5 (.inr ⟨how,aic,ai,λh=>h rfl⟩))));obtain⟨⟨hdc,hok⟩,hT⟩:=h2;obtain⟨W1,I1⟩:=id Z5;obtain⟨W2,I2⟩:=id sO;obtain⟨l1,l2⟩:=Ya hk Z5 sO hT rfl;have Dx:=hT.made k rfl;obtain⟨D,c1,c2,c3⟩:=hdc;have Y0:=(I2.desc d D c1).1;refine⟨rfl,λh=>?_,λh=>?_⟩
 .have h:=hok.1 h;rw[cA c1]at h;obtain⟨o,o1,o2⟩:=I2.one d D c1 h;refine⟨⟨o,o1,by rw[←c2];exact o2⟩,ai,λW' I'=>?_⟩;obtain rfl:=I2.uniq hn I';obtain⟨e,e1,e2⟩:=WI.KS hn (I2.desc d D c1).2.2;have:=(I2.tg d D e c1 e1).1;have e3:D.o=oE es:=by simp[mK.o,c2]
  rw[e2,e3]at this;omega
 .have OX:¬s2.st d=1:=λhc=>by rw[hok.2 hc]at h;cases h
  rw[cA c1]at OX;rcases c3 with c3|⟨c3,c4⟩
  .exact aT c3 OX
  .have:=l2 d Y0 ai (by rw[cA c1];exact c3) (by simp[g9,u2]);refine⟨ai,λW' I'=>?_⟩;have:=c4 W' I';omega
theorem KU{pr:β->Bool×Int}{q:qM β}{Q:β->Prop}(hq:∀s,WJ n S s->Cn n S k i s->q.Sf (WJ n S) (RK n S k) (GW n S k) (λx s'=>if(pr x).1=au\/(pr x).2≠0 then Q x/\Cn n S k (i+1) s' else Cn n S k i s') s):∀(m:Nat) (s:JS),WJ n S s->Cn n S k i s->(againG pr q m).Sf (WJ n S) (RK n S k) (GW n S k) (λx s'=>Q x/\Cn n S k (i+1) s') s:=by
 intro m;induction m with
 |zero=>exact λ_ _ _=>trivial
 |succ m ih=>
  intro s hI hC;unfold againG;refine Pr.Sf.bind (λx s1 DO h1=>?_) hI (hq s hI hC);by_cases h:(pr x).1=au\/(pr x).2≠0
  .simp only[aX h]at h1⊢;exact Pr.Sf.nd h1
  .simp only[aU h]at h1⊢;exact ih s1 DO h1
end
section
variable{n:Nat}{s0:JS}
structure Ld(n:Nat)(S:Int->Prop)(k:Nat)(s0 s:JS)(hs:List Int):Prop where
 word:∀(c:Nat) h,hs[c]? =ae h->(0<=h/\h<=1152921504606846975)/\LF n S s c h
 tag:∀(c:Nat) h,hs[c]? =ae h->(∀W,WI n S s0 W->gm W<=gm h)/\∀h0,hs[0]? =ae h0->gm h0<=gm h
 go:WR n S (λ_=>False) (λj=>j=k) s0 s
theorem Ld.nil(s:JS):Ld n S k s s []:=⟨λc h e=>by simp at e,λc h e=>by simp at e,WR.refl s⟩
theorem Ld.more(hn:0<n)(I0:WJ n S s0)(I:WJ n S s)(L:Ld n S k s0 s hs)(h1:(0<=h/\h<=1152921504606846975)/\LF n S s' hs.length h/\∀W,WI n S s W->gm W<=gm h)(g:RK n S k s s'):Ld n S k s0 s' (hs++[h]):=by
 obtain⟨b,lf,t⟩:=h1;have hw:∀(c:Nat) x,(hs++[h])[c]? =ae x->hs[c]? =ae x\/(c=hs.length/\x=h):=λc x e=>by
  rw[List.getElem?_append]at e;split at e
  .exact .inl e
  .rename_i hc;have:=(eX.1 e).1;have hc:c=hs.length:=(by simp at this;omega);subst hc;simp at e;exact .inr ⟨rfl,e.symm⟩
 obtain⟨W,I⟩:=I;have tW:=t W I;have t0:∀W0,WI n S s0 W0->gm W0<=gm h:=λW0 I0=>by have:=(L.go.go hn I0 I).tag.1;omega
 refine⟨λc x e=>?_,λc x e=>?_,WR.trans _ _ _ L.go (WR.weak (λ_ h=>h.elim) (λ_ h=>h) _ _ g)⟩
 .rcases hw c x e with e|⟨rfl,rfl⟩
  .exact⟨(L.word c x e).1,(L.word c x e).2.rely hn ⟨W,I⟩ g⟩
  .exact⟨b,lf⟩
 .rcases hw c x e with e1|⟨rfl,rfl⟩
  .refine⟨(L.tag c x e1).1,λy ey=>?_⟩;rcases hw 0 y ey with ey|⟨hl,rfl⟩
   .exact(L.tag c x e1).2 y ey
   .have h9:=(eX.1 e1).1;rw[←hl]at h9;exact aT h9 (fR _)
  .refine⟨t0,λy ey=>?_⟩;rcases hw 0 y ey with ey|⟨_,rfl⟩
   .have:=((L.word 0 y ey).2 W I).1;omega
   .exact Int.le_refl _
theorem Ld.does(hn:0<n)(F:Nat)(hk:k<8)(hi:i<64){es:List fC}(I0:WJ n S s0)(I:WJ n S s)(L:Ld n S k s0 s hs)(hl:hs.length=n)(C:Cn n S k i s0)(he:∀(c:Nat) e,es[c]? =ae e->e.cell=c/\hs[c]? =ae e.old/\0<=e.next/\e.next<=1048575)(hes:es.length=n)(Iq:(∀e∈es,e.next=bV e.old)\/∃y,S y/\∀e∈es,e.next=y):
  (doesP F k es).Sf (WJ n S) (RK n S k) (GW n S k) (λr s'=>r.2=0/\(r.1=au->(∃o,S (bV o)/\∀e∈es,e.old=o)/\Cn n S k (i+1) s')/\(r.1=aw->Cn n S k i s')) s:=by
 obtain⟨W,I⟩:=id I;have hF:Full n S es:=⟨hes,λc e h=>by obtain⟨a,b,c1,c2⟩:=he c e h;exact⟨a,(L.word c _ b).1.1,(L.word c _ b).1.2,c1,c2⟩,Iq⟩;obtain⟨e0,m0,h0⟩:=WI.KS (D:=⟨es,0⟩) hn hF;have g0:hs[0]? =ae (oE es):=by
  cases h:es with
  |nil=>rw[h]at hes;simp at hes;omega
  |cons e l=>have:=(he 0 e (by rw[h];rfl)).2.1;rw[this];rfl
 have Lx:=(L.word 0 _ g0).2;have htW:=Lx W I;have all:∀c e,es[c]? =ae e->gm (oE es)<=gm e.old/\gm e.old<=gm W/\(gm e.old=gm W->e.old=W/\¬Sl s c):=λc e h=>by have b:=(he c e h).2.1;exact⟨(L.tag c _ b).2 _ g0,((L.word c _ b).2 W I).1,((L.word c _ b).2 W I).2⟩
 refine aaG hn F hk hi I hF (λe hm=>?_) (λho=>⟨λe hm=>?_,λc hc=>?_⟩) Lx (dm (Ya hk I0 ⟨W,I⟩ L.go rfl).1 C.1) ?_
 .obtain⟨c,h⟩:=rS.1 hm;exact(all c e h).2.1
 .obtain⟨c,h⟩:=rS.1 hm;obtain⟨a1,a2,a3⟩:=all c e h;rw[ho]at a1;exact(a3 ai).1
 .have hc':c<es.length:=ai;obtain⟨a1,a2,a3⟩:=all c es[c] (eQ hc');rw[ho]at a1;exact(a3 ai).2
 .obtain⟨W0,J0⟩:=I0;have:=C.2 W0 J0;have:=(L.tag 0 _ g0).1 W0 J0;rw[L.go.made k rfl];omega
theorem KV{p:qM α}{Q:α->JS->Prop}(I:WJ n S s)(h:p.Sf (WJ n S) (RK n S k) (GK n S λ_=>True) Q s):p.Sf (WJ n S) (RK n S k) (GW n S k) (λa s'=>Q a s'/\RK n S k s s') s:=Pr.Sf.mono af8 (λ_ _ _ h=>h) I (Pr.Sf.Po (T:=RK n S k) WR.trans (λ_ _ h=>h) (WR.weak (λ_ _=>trivial) λ_ _=>trivial) (WR.refl _) h)
theorem Yb(hn:0<n)(F:Nat)(I0:WJ n S s0):∀(m:Nat) (pre:List Int) (s:JS),pre.length+m=n->WJ n S s->Ld n S k s0 s pre->(g7 F (List.range' pre.length m)).Sf (WJ n S) (RK n S k) (GW n S k) (λhs s'=>Ld n S k s0 s' (pre++hs)/\hs.length=m) s:=by
 intro m;induction m with
 |zero=>exact λpre s _ _ L=>⟨by rw[List.append_nil];exact L,rfl⟩
 |succ m ih=>intro pre s hm I L;rw[xS];unfold g7;refine Pr.Sf.bind (λh s1 I1 h1=>?_) I (KV I (PR hn F ai F s I));have L1:=L.more hn I0 I h1.1 h1.2;have:=ih (pre++[h]) s1 dp I1 L1;rw[show(pre++[h]).length=pre.length+1 by simp]at this;refine Pr.Sf.bind (λhs s2 I2 h2=>?_) I1 this;refine Pr.Sf.nd ⟨?_,by simp[h2.2]⟩;have h3:=h2.1;rw[vq]at h3;exact h3
theorem Ig(hs:List Int)(c:Nat):(hs.zipIdx.map λp=>(⟨p.2,p.1,bV p.1⟩:fC))[c]? =(hs[c]?).map λh=>⟨c,h,bV h⟩:=by rw[nM,List.getElem?_zipIdx];cases hs[c]? <;>simp
theorem aaH(hn:0<n)(F:Nat)(hk:k<8)(hi:i<64)(I:WJ n S s)(C:Cn n S k i s):(vG F k n).Sf (WJ n S) (RK n S k) (GW n S k) (λr s'=>(r.2=0/\∃x,S x/\r.1=eA n x)/\Cn n S k (i+1) s') s:=by
 unfold vG;refine Pr.Sf.bind (λr s1 I1 h1=>?_) I (KU (Q:=λr=>r.1.2=0/\∃x,S x/\r.2=eA n x) (λs I C=>?_) F s I C)
 .rw[aU ai];exact Pr.Sf.nd ⟨⟨rfl,h1.1.2⟩,h1.2⟩
 .unfold ku;rw[CQ];refine Pr.Sf.bind (λhs s1 I1 h1=>?_) I (Yb hn F I n [] s aJ I (Ld.nil s));obtain⟨L,hl⟩:=h1;rw[kU]at L;refine Pr.Sf.bind (λr s2 I2 h2=>Pr.Sf.nd ?_) I1 (L.does hn F hk hi I I1 hl C (es:=hs.zipIdx.map λp=>⟨p.2,p.1,bV p.1⟩) (λc e h=>?_) (by simp[hl]) (.inl λe hm=>?_))
  .obtain⟨a1,a2,a3⟩:=h2;by_cases hr:r.1=au
   .rw[aX (.inl hr)];obtain⟨⟨o,o1,o2⟩,c⟩:=a2 hr;refine⟨⟨a1,bV o,o1,?_⟩,c⟩;rw[List.eq_replicate_iff];refine⟨by simp[hl],λx hx=>?_⟩;obtain⟨h,hm,rfl⟩:=pA.1 hx;obtain⟨j,hj⟩:=rS.1 hm;have:=o2 ⟨j,h,bV h⟩ (nJ (i:=j) (by rw[Ig,hj];rfl));rw[show h=o from this]
   .rw[aU (λh=>h.elim hr λh=>h a1)];exact a3 (by simpa using hr)
  .rw[Ig]at h;cases hh:hs[c]? with
   |none=>rw[hh]at h;cases h
   |some x=>rw[hh]at h;obtain rfl:=bj h;have:=(L.word c x hh).1;refine⟨rfl,rfl,?_,?_⟩ <;>unfold bV<;>show _<=_<;>dsimp only<;>omega
  .obtain⟨c,h⟩:=rS.1 hm;rw[Ig]at h;cases hh:hs[c]? with
   |none=>rw[hh]at h;cases h
   |some x=>rw[hh]at h;obtain rfl:=bj h;rfl
theorem Sm(hn:0<n)(F:Nat)(hk:k<8)(hi:i<64){B:Int}(hB:0<=B/\B<=1000)(hS:S B)(I0:WJ n S s0)(C:Cn n S k i s0):∀(l:List cT) (pre:List fC) (s:JS),WJ n S s->Ld n S k s0 s (pre.map (·.old))->(∀(c:Nat) e,pre[c]? =ae e->e.cell=c/\e.next=B)->(∀(c:Nat) e,l[c]? =ae e->e.c=((pre.length+c:Nat):Int)/\e.n=B)->pre.length+l.length=n->
  (tryChP F k pre l).Sf (WJ n S) (RK n S k) (GW n S k) (λx s'=>if x.1=au\/x.2≠0 then(x.2=0\/x.2=264)/\Cn n S k (i+1) s' else Cn n S k i s') s:=by
 intro l;induction l with
 |nil=>
  intro pre s I L hp _ hl;simp only[gK,Nat.add_zero]at hl;unfold tryChP;refine Pr.Sf.mono (λ_ _ h=>h) (λx s' _ ⟨a1,a2,a3⟩=>?_) I (L.does hn F hk hi I0 I (by simp[hl]) C (es:=pre) (λc e h=>?_) hl (.inr ⟨B,hS,λe hm=>?_⟩))
  .obtain⟨a,b⟩:=hp c e h;exact⟨a,by simp[h],ai,ai⟩
  .obtain⟨c,h⟩:=rS.1 hm;exact(hp c e h).2
  .by_cases hr:x.1=au
   .rw[aX (.inl hr)];exact⟨.inl a1,(a2 hr).2⟩
   .rw[aU (λh=>h.elim hr λh=>h a1)];exact a3 (by simpa using hr)
 |cons e l ih=>
  intro pre s I L hp hc hl;unfold tryChP;obtain⟨e1,e2⟩:=hc 0 e rfl;simp only[fO]at hl;have ec:e.c.toNat=(pre.map (·.old)).length:=by rw[e1];simp
  have hlt:e.c.toNat<n:=by rw[ec];simp;omega
  refine Pr.Sf.bind (λh s1 I1 h1=>?_) I (KV I (PR hn F hlt F s I));rw[ec]at h1;have L1:=L.more hn I0 I h1.1 h1.2;by_cases hne:bV h≠e.o
  .rw[aX hne];refine Pr.Sf.nd ?_;rw[aX (.inr aJ)];exact⟨.inr rfl,(C.rely hn hk I0 I1 L1.go rfl).more⟩
  .rw[aU hne];refine ih (pre++[⟨e.c.toNat,h,e.n⟩]) s1 I1 (by simpa using L1) (λc x hx=>?_) (λc x hx=>?_) dp
   .rw[List.getElem?_append]at hx;split at hx
    .exact hp c x hx
    .rename_i CO;have:=(eX.1 hx).1;have hcc:c=pre.length:=(by simp at this;omega);subst hcc;simp at hx;subst hx;exact⟨by simp[ec],e2⟩
   .obtain⟨a,b⟩:=hc (c+1) x hx;exact⟨by rw[a];simp;omega,b⟩
def adK(n:Nat)(S:Int->Prop)(c:bs)(a:kC):Prop:=(a.err=0\/a.err=264)/\(c.kind=4->a.err=0/\∃x,S x/\a.ints=eA n x)
theorem NW(hn:0<n)(F:Nat)(hk:k<8)(hi:i<64)(c:bs)(hc:c.kind=2\/c.kind=4)(hok:pq n c)(hS:c.kind=2->S c.b)(I:WJ n S s)(C:Cn n S k i s):(uk F n k c).Sf (WJ n S) (RK n S k) (GW n S k) (λa s'=>adK n S c a/\Cn n S k (i+1) s') s:=by
 unfold uk;rw[aU (by rcases hc with h|h<;>rw[h] <;>decide),aU (by rcases hc with h|h<;>rw[h] <;>decide)];by_cases h4:c.kind=4
 .rw[aX h4];refine Pr.Sf.bind (λr s' _ h=>Pr.Sf.nd ⟨⟨.inl h.1.1,λ_=>h.1⟩,h.2⟩) I (aaH hn F hk hi I C)
 .have h2:c.kind=2:=hc.resolve_right h4;rw[aU h4,aX h2];obtain⟨_,hB,_,hp⟩:=hok h2;have hS:=hS h2;rw[hp,C1];refine Pr.Sf.bind (λr s' _ h=>Pr.Sf.nd ⟨⟨h.1,λh'=>aT h' h4⟩,h.2⟩) I (KU (Q:=λx=>x.2=0\/x.2=264) (λs I C=>?_) F s I C);refine Sm hn F hk hi hB hS I C (ij n c.a c.b) [] s I (Ld.nil s) (λc e h=>by simp at h) (λc' e h=>?_) (by simp[ij]);unfold ij at h;rw[nM]at h;have hlt:c'<n:=by apply eV;intro hx;rw[vz dp]at h;cases h
  rw[wT hlt]at h;obtain rfl:=bj h;exact⟨aJ,rfl⟩
end
section
def Pr.lr(Q:α->σ->Prop):Pr σ α->σ->Prop
 |.ret a,s=>Q a s
 |.line p,s=>Pr.lr Q p s
 |.eff f k,s=>Pr.lr Q (k s) (f s)
 |.stop,_=>False
theorem Pr.lr.nd{Q:α->σ->Prop}{a:α}{s:σ}(h:Q a s):(Pr.ret a).lr Q s:=h
theorem Pr.lr.mono{Q:α->σ->Prop}(h:∀a s,Q a s->Q' a s):∀{p:Pr σ α} {s:σ},p.lr Q s->p.lr Q' s:=by
 intro p;induction p with
 |ret a=>exact λhp=>h _ _ hp
 |line p ih=>exact λhp=>ih hp
 |eff f k ih=>exact λhp=>ih _ hp
 |stop=>exact λhp=>hp
theorem Pr.lr.bind{Q:α->σ->Prop}{Q':β->σ->Prop}{k:α->Pr σ β}(h:∀a s,Q a s->(k a).lr Q' s):∀{p:Pr σ α} {s:σ},p.lr Q s->(p.bind k).lr Q' s:=by
 intro p;induction p with
 |ret a=>exact λhp=>h _ _ hp
 |line p ih=>exact λhp=>ih hp
 |eff f q ih=>exact λhp=>ih _ hp
 |stop=>exact λhp=>hp.elim
theorem Pr.lr.alone{Q:α->σ->Prop}:∀{p:Pr σ α} {s:σ},p.lr Q s->∃a s',p.alone s=ae (a,s')/\Q a s':=by
 intro p;induction p with
 |ret a=>exact λ{s} hp=>⟨a,s,rfl,hp⟩
 |line p ih=>exact λhp=>ih hp
 |eff f k ih=>exact λ{s} hp=>ih s hp
 |stop=>exact λhp=>hp.elim
def iQ(F n:Nat):List Nat->qM (List Int)
 |[]=>.ret []
 |c::l=>(x9 F n c).bind λr=>(iQ F n l).bind λx=>.ret (r.1::x)
end
section
theorem AR.Yc{L:Lay σ}{c:cu}{x:AR σ}(h:∀k,(x.w k).got.length<=(c.calls k).length/\((x.w k).now≠ah->(x.w k).got.length< (c.calls k).length))(k:Nat):((x.next L c).w k).got.length<=(c.calls k).length/\(((x.next L c).w k).now≠ah->((x.next L c).w k).got.length< (c.calls k).length):=by
 by_cases e:k=x.pick c
 .subst e;have hw:(x.next L c).w (x.pick c)=(x.w (x.pick c)).settle (x.all+1) ((x.w (x.pick c)).seg L c (x.pick c) (x.all+1) x.s).1 ((x.w (x.pick c)).seg L c (x.pick c) (x.all+1) x.s).2:=by show(if x.pick c=x.pick c then _ else _)=_;rw[aX rfl]
  rw[hw];generalize x.pick c=k;obtain⟨h1,h2⟩:=h k;have hlt:(∃be,(x.w k).seg L c k (x.all+1) x.s=(be,.lost))\/(x.w k).got.length< (c.calls k).length:=by
   cases hn:(x.w k).now with
   |some q=>exact .inr (h2 (by rw[hn];simp))
   |none=>
    by_cases hl:(x.w k).got.length< (c.calls k).length
    .exact .inr hl
    .refine .inl ⟨x.all+1,?_⟩;unfold AW.seg;rw[hn];simp only;rw[vz ai]
  rcases hlt with⟨be,he⟩|hlt
  .rw[he];exact h k
  .cases((x.w k).seg L c k (x.all+1) x.s).2 with
   |fin a g o s'=>refine⟨?_,λhc=>aT rfl hc⟩;show((x.w k).got++[_]).length<=_;rw[mo,List.length_singleton];omega
   |line p o s'=>exact⟨h1,λ_=>hlt⟩
   |lost=>exact h k
 .have hw:(x.next L c).w k=x.w k:=by show(if k=x.pick c then _ else x.w k)=_;rw[aU e]
  rw[hw];exact h k
theorem AR.at_len(L:Lay σ)(c:cu)(s:σ)(t k:Nat):((AR.at L c s t).w k).got.length<=(c.calls k).length:=by
 have key:∀k,((AR.at L c s t).w k).got.length<=(c.calls k).length/\(((AR.at L c s t).w k).now≠ah->((AR.at L c s t).w k).got.length< (c.calls k).length):=by
  induction t with
  |zero=>exact λk=>⟨bQ _,λh=>aT rfl h⟩
  |succ t ih=>exact λk=>AR.Yc ih k
 exact(key k).1
theorem Be{c:cu}(x:AR σ)(hn:0<c.n):x.pick c<c.n:=by
 have hw:∀k∈x.who c,k<c.n:=λk hk=>by unfold AR.who at hk;have:=(List.mem_filter.1 hk).1;simpa using this
 have hD:∀(i:Nat),(x.who c).getD i 0<c.n:=λi=>by
  rw[eF];cases e:(x.who c)[i]? with
  |none=>exact hn
  |some k=>exact hw k (nJ e)
 unfold AR.pick rU;split
 .exact hD _
 .cases e:(x.who c).find? λ(k:Nat)=>decide (x.last< (k:Int))with
  |some k=>exact hw k (List.mem_of_find?_eq_some e)
  |none=>
   show(x.who c).headD 0<c.n;cases h:x.who c with
   |nil=>exact hn
   |cons k l=>exact hw k (by rw[h];exact nt ..)
end
end
section
open Go Go.Conc Go.ConcN Go.RowKit
def KW:Nat->List ay->Bool
 |0,l=>match l with
  |[aq af 0,aq af 0,aq af 0,aq af 0,aq af 0,aq af 0,aq af 0,aq af 0]=>au
  |_=>aw
 |n+1,l=>match l with
  |aI ah::l=>KW n l
  |_=>aw
theorem KX:∀(n:Nat) (l:List ay),KW n l=au->l=eA n (aI ah) ++eA 8 (aq af 0)
 |0,l,h=>by
  unfold KW at h;split at h
  .rfl
  .cases h
 |n+1,l,h=>by
  unfold KW at h;split at h
  .rename_i l';rw[KX n l' h];rfl
  .cases h
theorem Sn:KW 8192 Tryz.zeroCells105.toList.tail=au:=aQ
theorem Sr:Tryz.zeroCells105.toList.head? =ae (aD ah 0 0):=aQ
theorem NX:Tryz.zeroCells105=(Value.slice ah 0 0::(eA 8192 (Value.pointer ah) ++eA 8 (Value.int .i64 0))).toArray:=by
 have h1:=KX _ _ Sn;have h2:=Sr;generalize Tryz.zeroCells105=z at*;obtain⟨l⟩:=z;cases l with
 |nil=>cases h2
 |cons x l=>simp only[List.head?_cons,dD,List.tail_cons]at h1 h2;rw[h1,h2]
theorem Yd(x:ay)(l:List ay)(s:ay):((x::l).toArray).setIfInBounds 0 s=(s::l).toArray:=by rw[oF,sS]
theorem Al(s:ay):jF s=(s::(eA 8192 (Value.pointer ah) ++eA 8 (Value.int .i64 0))).toArray:=by rw[jF,NX];generalize eA 8192 (Value.pointer ah) ++eA 8 (Value.int .i64 0)=l;exact Yd _ _ _
theorem Ye(n m d:Nat)(x y s:ay)(hd:d<n):(s::(eA n x++eA m y)).toArray[1+d]? =ae x:=by rw[kJ,show 1+d=d+1 by omega,nK,lz (by simpa using hd),List.getElem?_replicate,aX hd]
theorem Ss(n m d:Nat)(x y s:ay)(hd:d<m):(s::(eA n x++eA m y)).toArray[1+n+d]? =ae y:=by rw[kJ,show 1+n+d=(n+d) +1 by omega,nK,nI aJ,si,show n+d-n=d by omega,List.getElem?_replicate,aX hd]
theorem yl(s:ay)(d:Nat)(hd:d<8192):(jF s)[1+d]? =ae (aI ah):=by rw[Al];exact Ye 8192 8 d _ _ s hd
theorem De(s:ay)(k:Nat)(hk:k<8):(jF s)[8193+k]? =ae (aq af 0):=by rw[Al];exact Ss 8192 8 k _ _ s hk
def sM(zs:List Int):JS:=⟨AK zs,λ_=>ah,λ_=>0⟩
theorem aaI(h1:1<=zs.length/\zs.length<=64)(hl:∀i,i<zs.length->pW (zs.getD i 0)):(sM zs).Ok:=by refine⟨by show 1<=(AK zs).length/\(AK zs).length<=64;rw[pK];exact h1,λc hc=>.inl ?_,λd D h=>dB,λk hk=>⟨by show 0<=1024;omega,λm hm=>rfl⟩⟩;have hc:c< (AK zs).length:=hc;exact MP zs hl c hc
theorem PS{w:aj}(h1:1<=zs.length/\zs.length<=64)(hl:∀i,i<zs.length->pW (zs.getD i 0))(h:yY b c (AK zs) w)(hlo:b<lo/\c<lo):JRep b c lo zs.length (sM zs) w:=by
 have hlen:=pK zs;refine⟨aaI h1 hl,hlen,h.ne,hlo,⟨_,_,h.bb,Ee _⟩,h.cc,by rw[h.hdr,hlen],λd hd=>?_,λk hk=>?_,λd d' t hd yr e _=>?_⟩
 .show∃u,_;exact⟨aI ah,by rw[ax h.bb];exact yl _ _ hd,λt ht=>by cases ht⟩
 .rw[ax h.bb];exact De _ _ hk
 .rw[ax h.bb,yl _ _ hd]at e;cases e
end
section
open Go Go.Conc Go.ConcN Go.RowKit
variable[Inhabited dc]
theorem okN(F b c lo n:Nat):(cI F b c lo n).Ok λ_=>ah:=zv rfl rfl λ_ _=>rfl
section
variable{n:Nat}{main:Bool}{Stop:ι->aB->List aB->aj->Prop}{i:ι}{w:aj}{s1:JS}
noncomputable abbrev Yf (F b c lo n:Nat)(main:Bool)(cs:List aB)(Jm:fM ι)(Stop:ι->aB->List aB->aj->Prop)(i:ι)(x:α)(s1:JS):lT α (cI F b c lo n) main cs Jm Stop:=ahJ (cI F b c lo n) (okN F b c lo n) Jm Stop i x s1
theorem at_of{p:Pr JS α}{x:α}(R:JRep b c lo n s w)(h:p.alone s=ae (x,s1)):(Yf F b c lo n main cs Jm Stop i x s1).At i (p.bind .ret) w:=by rw[Pr.Us];exact⟨rfl,s,R,h⟩
theorem at_end{x y:α}{i':ι}(h:(Yf F b c lo n main cs Jm Stop i x s1).At i' (.ret y) w):i'=i/\y=x/\JRep b c lo n s1 w:=by obtain⟨h1,s',h2,h3⟩:=h;have h4:ae (y,s')=ae (x,s1):=h3;cases h4;exact⟨h1,rfl,h2⟩
def aaJ(F b c lo n:Nat)(i:ι)(v:ay)(s1:JS)(w:aj)(i':ι)(v':ay)(w':aj):Prop:=i'=i/\v'=v/\JRep b c lo n s1 w'/\Af (cI F b c lo n) w w'
theorem abB(hn:1<=n/\n<=64){f m:Int}(R:JRep b c lo n s w)(hlo:lo<=w.heap.size)(h:(Kr F 0 n f t m).alone s=ae ((ok,er),s1)):
  CallsM aC main cs Jm Stop (λ_=>True) i 19 #[aI (ae ⟨b,0,ah⟩),aI ah,aq af f,aq af t,aq af m] w (aaJ F b c lo n i (.tuple #[.bool ok,aq af er]) s1 w):=
 (move_any' (Yf F b c lo n main cs Jm Stop i (ok,er) s1) hn (at_of R h) hlo).mono λi' v w' ⟨ok',er',h1,h2,h3⟩=>by obtain⟨a1,a2,a3⟩:=at_end h2;cases a2;exact⟨a1,h1,a3,h3⟩
theorem af9(hn:n<=64){c0 v e:Int}(R:JRep b c lo n s w)(h:(x9 F n c0).alone s=ae ((v,e),s1)):
  CallsM aC main cs Jm Stop (λ_=>True) i 22 #[aI (ae ⟨b,0,ah⟩),aI ah,aq af c0] w (aaJ F b c lo n i (.tuple #[aq af v,aq af e]) s1 w):=
 (read_any' (Yf F b c lo n main cs Jm Stop i (v,e) s1) hn (at_of R h)).mono λi' x w' ⟨v',e',h1,h2,h3⟩=>by obtain⟨a1,a2,a3⟩:=at_end h2;cases a2;exact⟨a1,h1,a3,h3⟩
theorem aga(hn:1<=n/\n<=64){l:List Int}{e:Int}(R:JRep b c lo n s w)(hlo:lo<=w.heap.size)(h:(vG F 0 n).alone s=ae ((l,e),s1)):
  CallsM aC main cs Jm Stop (λ_=>True) i 20 #[aI (ae ⟨b,0,ah⟩),aI ah] w λi' v w'=>∃iv,v=.tuple #[iv,aq af e]/\aaJ F b c lo n i v s1 w i' v w'/\uw b c w.heap.size iv l w':=
 (look_any' (Yf F b c lo n main cs Jm Stop i (l,e) s1) hn (at_of R h) hlo).mono λi' v w' ⟨iv,e',l',h1,h2,h3,h4⟩=>by obtain⟨a1,a2,a3⟩:=at_end h2;cases a2;exact⟨iv,h1,⟨a1,rfl,a3,h3⟩,h4⟩
theorem PT(hn:1<=n/\n<=64){es:List cT}{o cap:Nat}(h1e:1<=es.length/\es.length<=64)(hso:CX es.length)(he:fB x o es w)(hx:x<w.heap.size)(R:JRep b c lo n s w)(hlo:lo<=w.heap.size)(h:∀es':List cT,es'.Perm es->kr es' 0 es.length->(ma F 0 n es').alone s=ae ((ok,er),s1)):
  CallsM aC main cs Jm Stop (λ_=>True) i 21 #[aI (ae ⟨b,0,ah⟩),aI ah,aD (ae ⟨x,o,ah⟩) es.length cap] w (aaJ F b c lo n i (.tuple #[.bool ok,aq af er]) s1 w):=
 (change_any' (Yf F b c lo n main cs Jm Stop i (ok,er) s1) hn h1e hso he hx (λes' h1 h2=>at_of R (h es' h1 h2)) hlo).mono λi' v w' ⟨ok',er',h1,h2,h3⟩=>by obtain⟨a1,a2,a3⟩:=at_end h2;cases a2;exact⟨a1,h1,a3,h3⟩
end
def nxS(p:qM α)(s:JS):JS:=match p.alone s with
 |some (_,s')=>s'
 |none=>s
theorem qH{p:qM α}{x:α}(h:(p.alone s).map Prod.fst=ae x):p.alone s=ae (x,nxS p s):=by
 unfold nxS;cases e:p.alone s with
 |none=>rw[e]at h;cases h
 |some r=>rw[e]at h;obtain⟨a,s'⟩:=r;simp only[nC,dD]at h;rw[h]
def kn1:qM (Bool×Int):=Kr 10 0 2 0 1 2
def kn2:qM (List Int×Int):=vG 10 0 2
def kn3:qM (Bool×Int):=againG id (tryChP 10 0 [] [⟨0,3,1⟩,⟨1,9,1⟩]) 10
def kn4:qM (Bool×Int):=againG id (tryChP 10 0 [] [⟨0,3,4⟩]) 10
def kn5:qM (Int×Int):=x9 10 2 1
def ks0:JS:=sM [5,7]
def ks1:JS:=nxS kn1 ks0
def ks2:JS:=nxS kn2 ks1
def ks3:JS:=nxS kn3 ks2
def ks4:JS:=nxS kn4 ks3
def ks5:JS:=nxS kn5 ks4
def ks6:JS:=nxS kn1 ks5
theorem adL:kn1.alone ks0=ae ((au,0),ks1):=qH aQ
theorem adM:kn2.alone ks1=ae (([3,9],0),ks2):=qH aQ
theorem adN:kn3.alone ks2=ae ((au,0),ks3):=qH aQ
theorem adO:kn4.alone ks3=ae ((aw,264),ks4):=qH aQ
theorem adP:kn5.alone ks4=ae ((1,0),ks5):=qH aQ
theorem adQ:kn1.alone ks5=ae ((aw,265),ks6):=qH aQ
theorem Su:kE 2 [⟨0,3,1⟩,⟨1,9,1⟩]=0:=by
 unfold kE;rw[aX,aX]
 .intro k hk;match k,hk with
  |0,_=>exact⟨⟨aN,aN⟩,aN,aN⟩
  |1,_=>exact⟨⟨aN,aN⟩,aN,aN⟩
 .intro k hk;match k,hk with
  |0,_=>exact⟨aN,aN,λm hm=>ai⟩
  |1,_=>refine⟨aN,aN,λm hm=>?_⟩;obtain rfl:m=0:=ai;decide
theorem Sv:kE 2 [⟨0,3,4⟩]=0:=by
 unfold kE;rw[aX,aX]
 .intro k hk;match k,hk with
  |0,_=>exact⟨⟨aN,aN⟩,aN,aN⟩
 .intro k hk;match k,hk with
  |0,_=>exact⟨aN,aN,λm hm=>ai⟩
theorem aaK:∀es':List cT,es'.Perm [⟨0,3,1⟩,⟨1,9,1⟩]->kr es' 0 2->(ma 10 0 2 es').alone ks2=ae ((au,0),ks3):=by
 intro es' hp hs;have h2:es'=[⟨0,3,1⟩,⟨1,9,1⟩]:=by
  have hl:=hp.length_eq;match es',hl with
  |[x,y],_=>
   have hx:x∈([⟨0,3,1⟩,⟨1,9,1⟩]:List cT):=hp.subset aJ;have hk:x.c<=y.c:=hs 0 1 ai ai ai;rcases fU.1 hx with rfl|hx
   .have:=List.Perm.cons_inv hp;rw[List.perm_singleton]at this;rw[this]
   .obtain rfl:x=⟨1,9,1⟩:=(by simpa using hx);have:=List.Perm.cons_inv (hp.trans (List.Perm.swap _ _ _));rw[List.perm_singleton]at this;have:y=⟨0,3,1⟩:=(by simpa using this);subst this;exact aT hk aN
 subst h2;rw[ma,Su];exact adN
theorem aaL:∀es':List cT,es'.Perm [⟨0,3,4⟩]->kr es' 0 1->(ma 10 0 2 es').alone ks3=ae ((aw,264),ks4):=by intro es' hp _;rw[List.perm_singleton]at hp;subst hp;rw[ma,Sv];exact adO
end
section
open Go Go.Conc Go.ConcN Go.RowKit
attribute [local go_sem] ba bf bH a8 bC bK aS aV fy dI fA bO
variable[Inhabited dc]
theorem abC(w:aj)(x y:Int)(t:bq)(n:Nat)(hn:n=w.heap.size):jS n 0 [x,y] (w.alloc (aK #[aq af x,aq af y] t)):=by
 subst hn;intro i hi;rw[zW];match i,hi with
 |0,_=>rfl
 |1,_=>rfl
theorem abD(w:aj)(es:List cT)(cs:Array ay)(t:bq)(n:Nat)(hn:n=w.heap.size)(hc:cs.toList=gZ es):fB n 0 es (w.alloc (aK cs t)):=by subst hn;intro k hk;obtain⟨a,b,c⟩:=CS es k hk;rw[←hc]at a b c;rw[zW,zW,zW];simp only[eB];rw[Array.getElem?_toList]at a b c;exact⟨a,b,c⟩
theorem ints_yes(s o cap t p cap':Nat)(l:List Int)(w:aj)(h1:jS s o l w)(h2:jS t p l w)(hs:s<w.heap.size)(ht:t<w.heap.size)(hl:l.length<=1000):
  b9 aC 12 #[aD (ae ⟨s,o,ah⟩) l.length cap,aD (ae ⟨t,p,ah⟩) l.length cap'] w λe w'=>e=.returned (.bool au)/\Below w.heap.size w w':=by
 have H1:=aA h1;have H2:=aA h2;clear h1 h2;go_enter func12,ntmps12
 go_wp2;go_loopw [5] (λi wr=>∃k:Nat,k<=l.length/\i=aq af k/\Below w.heap.size w wr) (λi _=>l.length- (intOf i).toNat)
 case atStart=>exact⟨0,bQ _,rfl,gw _ _⟩
 case round=>
  obtain⟨k,hk,rfl,dQ⟩:=hrel;have jm:=aA dQ;by_cases hlt:k<l.length
  .have c0:=(dQ.cell (p:=⟨s,o+k,ah⟩) hs).trans (H1.out k hlt);have c1:=(dQ.cell (p:=⟨t,p+k,ah⟩) ht).trans (H2.out k hlt);generalize l.getD k 0=x at c0 c1;clear dQ;go_wp2_with fail
   refine wp_region_still_tail 8 aQ aQ ?_;simp only[qA,qB,List.drop_succ_cons,List.drop_zero];change wpStill _ _ (World.drew _) _ _ _;repeat(first|(refine wpStill_step (λK hK=>?_);go_simp;refine hK _ ?_;clear hK K))
   refine wpStill_nil ?_;change wpList _ _ _ _ _ (World.drew _);go_wp2;go_roundw
   case rel=>exact⟨k+1,ai,fY,jm.out.drew⟩
   case measure=>simp[intOf];omega
  .have:k=l.length:=ai;subst this;clear dQ;go_wp2;go_ret
   exact⟨rfl,jm.out⟩
section
variable{n:Nat}{w:aj}
theorem Bt(R:JRep b c lo n s w)(h:cU b c w x):x<w.heap.size:=by obtain⟨⟨cb,e,hc⟩,_⟩:=(okN 0 b c lo n).foot s w x R h;exact(bF.1 hc).1
theorem ym(F:Nat)(R:JRep b c lo n s w)(hsz:w.heap.size<=w'.heap.size)(hs:∀y,y<w.heap.size->w'.heap[y]? =w.heap[y]?):JRep b c lo n s w'/\Af (cI F b c lo n) w w':=by have hf:∀x,(cI F b c lo n).Foot w x->w'.heap[x]? =w.heap[x]? :=λx hx=>hs x (Bt R hx);obtain⟨r1,r2⟩:=(okN F b c lo n).rep s w w' R hf;refine⟨r1,hsz,λx o h1 h2=>⟨?_,λh=>h2 ((r2 x).1 h)⟩,(okN F b c lo n).gsame s w w' R hf⟩;rw[hs x (bF.1 h1).1];exact h1
theorem rI(w:aj)(o:Obj):w.heap.size<=(w.alloc o).heap.size/\∀y,y<w.heap.size->(w.alloc o).heap[y]? =w.heap[y]? :=⟨by rw[cM];omega,λy hy=>gT w o _ hy⟩
theorem Af.trans{L:wq JS}{a b c:aj}(h:Af L a b)(g:Af L b c):Af L a c:=⟨dm h.size g.size,λx o h1 h2=>by obtain⟨h3,h4⟩:=h.same x o h1 h2;exact g.same x o h3 h4,L.gtrans _ _ _ h.go g.go⟩
theorem KY(R:JRep b c lo n (sM zs) w)(x:Nat)(h:cU b c w x):x=b\/x=c:=by
 rcases h with h|h|⟨d,t,hd,hc,_⟩
 .exact .inl h
 .exact .inr h
 .have:=R.all d hd;simp only[sM]at this;obtain⟨u,hu,hne⟩:=this;rw[hu]at hc;cases hc;exact aT rfl (hne t)
end
section
variable{main:Bool}{Stop:ι->aB->List aB->aj->Prop}{i:ι}{w:aj}
theorem NY:CallsM aC main cs Jm Stop (λ_=>True) i 6 #[] w λi' v w'=>i'=i/\v=.bool au/\w.heap.size<=w'.heap.size/\∀y,y<w.heap.size->w'.heap[y]? =w.heap[y]? :=by
 refine bL func6 rfl ?_;simp only[f6,cN];walk_nrm;have hcs:=mI;refine iI λτ=>?_;have hnew:∀τ,b9 aC 18 #[aD (ae ⟨w.heap.size,0,ah⟩) 2 2] ((w.alloc (aK #[aq af 5,aq af 7] 3)).tp τ) (λe w'=>∃b c,e=.returned (.tuple #[aI (ae ⟨b,0,ah⟩),aq af 0])/\yY b c (AK [5,7]) w'/\Below ((w.alloc (aK #[aq af 5,aq af 7] 3)).tp τ).heap.size ((w.alloc (aK #[aq af 5,aq af 7] 3)).tp τ) w'/\((w.alloc (aK #[aq af 5,aq af 7] 3)).tp τ).heap.size<=b/\((w.alloc (aK #[aq af 5,aq af 7] 3)).tp τ).heap.size<=c):=λτ=>(new_yes w.heap.size 0 2 [5,7] ((w.alloc (aK #[aq af 5,aq af 7] 3)).tp τ) (abC w 5 7 _ _ rfl) aN aN aN (show w.heap.size< (w.alloc _).heap.size by rw[cM];omega)).mono λe w' ⟨h1,h2,h3,_⟩=>⟨_,_,h1,h2,h3,ai,bJ _⟩;have zy:=aA hnew;clear hnew;refine wpM_seq (wpM_lone pP hcs aQ yg (ni aQ _) (λτ=>?_));go_wp2_with fail
 refine(zy.out τ).mono ?_;rintro e w1 ⟨b,c,rfl,hblk,dQ,hgb,hgc⟩;have yO:∀y,y<w.heap.size->w1.heap[y]? =w.heap[y]? :=λy hy=>by rw[dQ.block y (show y< (w.alloc _).heap.size by rw[cM];omega)];exact gT w _ _ hy
 have hgb:(w.alloc (aK #[aq af 5,aq af 7] 3)).heap.size<=b:=hgb;have hgc:(w.alloc (aK #[aq af 5,aq af 7] 3)).heap.size<=c:=hgc;rw[cM]at hgb hgc;have hb1:=(bF.1 hblk.bb).1;obtain⟨ec,hcc⟩:=hblk.cc;have hc1:=(bF.1 hcc).1;have R1:JRep b c w1.heap.size 2 ks0 w1:=PS (zs:=[5,7]) ⟨aN,aN⟩ (by
  intro i hi;match i,hi with
  |0,_=>exact⟨aN,aN⟩
  |1,_=>exact⟨aN,aN⟩) hblk ⟨hb1,hc1⟩
 have py:∀y,y<w.heap.size->¬cU b c w1 y:=λy hy hf=>by rcases KY R1 y hf with h|h<;>omega
 have HS:=aA yO;have HF:=aA py;have HR1:=aA R1;clear hblk dQ hgb hgc hb1 hc1 hcc R1 py yO zy;go_wp2_with fail
 refine⟨w1,⟨rfl,rfl,rfl⟩,?_⟩;try simp only[bE]
 refine Ai λτ=>?_;refine Cs ?_;try simp only[bE]
 refine pS ?_;refine gP ?_;refine bA (args:=#[aI (ae ⟨b,0,ah⟩),aI ah,aq af 0,aq af 1,aq af 2]) rfl rfl rfl func19 rfl rfl dS (λ_ _ _ _ _=>trivial) (abB (F:=10) ⟨ai,ai⟩ HR1.out (bJ _) adL) ?_;rintro i2 v2 w2 ⟨rfl,rfl,R2,K2⟩;have HR2:=aA R2;have HK2:=aA K2;clear R2 K2;walk_nrm;iterate 5
  refine gP ?_
 refine on ?_;refine pS ?_;refine gP ?_;refine bA (args:=#[aI (ae ⟨b,0,ah⟩),aI ah]) rfl rfl rfl func20 rfl rfl dS (λ_ _ _ _ _=>trivial) (aga (F:=10) ⟨ai,ai⟩ HR2.out HK2.out.size adM) ?_;rintro i3 v3 w3 ⟨iv,rfl,⟨rfl,-,R3,K3⟩,hiv,agb⟩;obtain⟨g,agd,aid,hg2,hg3⟩:=hiv.form aN;subst aid;have HR3:=aA R3;have HK3:=aA (HK2.out.trans K3);have HV:=aA hiv;have HVF:=aA agb;clear R3 K3 hiv agb;walk_nrm;iterate 5
  refine gP ?_
 refine on ?_;have hs3:w1.heap.size<=w3.heap.size:=HK3.out.size;obtain⟨R4,K4⟩:=ym 10 HR3.out (rI w3 (aK #[aq af 0,aq af 3,aq af 1,aq af 1,aq af 9,aq af 1] 65)).1 (rI w3 _).2;have E4:fB w3.heap.size 0 [⟨0,3,1⟩,⟨1,9,1⟩] (w3.alloc (aK #[aq af 0,aq af 3,aq af 1,aq af 1,aq af 9,aq af 1] 65)):=abD _ _ _ _ _ rfl rfl;have s4:(w3.alloc (aK #[aq af 0,aq af 3,aq af 1,aq af 1,aq af 9,aq af 1] 65)).heap.size=w3.heap.size+1:=cM _ _;refine pS ?_;iterate 4
  refine gP ?_
 generalize w3.alloc (aK #[aq af 0,aq af 3,aq af 1,aq af 1,aq af 9,aq af 1] 65)=w4 at*;have HR4:=aA R4;have HK4:=aA K4;have HE4:=aA E4;clear R4 K4 E4;refine bA (args:=#[aI (ae ⟨b,0,ah⟩),aI ah,aD (ae ⟨w3.heap.size,0,ah⟩) 2 2]) rfl rfl rfl func21 rfl rfl dS (λ_ _ _ _ _=>trivial) (PT (F:=10) (n:=2) (es:=[⟨0,3,1⟩,⟨1,9,1⟩]) ⟨ai,ai⟩ ⟨aN,aN⟩ (rA 2 ai) HE4.out ai HR4.out ai aaK) ?_;rintro i5 v5 w5 ⟨rfl,rfl,R5,K5⟩;have HR5:=aA R5;have HK5:=aA (HK4.out.trans K5);clear R5 K5 HR4 HE4 HK4;walk_nrm;iterate 5
  refine gP ?_
 refine on ?_;have hs5:w3.heap.size<=w5.heap.size:=HK5.out.size;obtain⟨R6,K6⟩:=ym 10 HR5.out (rI w5 (aK #[aq af 0,aq af 3,aq af 4] 65)).1 (rI w5 _).2;have E6:fB w5.heap.size 0 [⟨0,3,4⟩] (w5.alloc (aK #[aq af 0,aq af 3,aq af 4] 65)):=abD _ _ _ _ _ rfl rfl;have s6:(w5.alloc (aK #[aq af 0,aq af 3,aq af 4] 65)).heap.size=w5.heap.size+1:=cM _ _;refine pS ?_;iterate 3
  refine gP ?_
 generalize w5.alloc (aK #[aq af 0,aq af 3,aq af 4] 65)=w6 at*;have HR6:=aA R6;have HK6:=aA (HK5.out.trans K6);have HE6:=aA E6;clear R6 K6 E6;refine bA (args:=#[aI (ae ⟨b,0,ah⟩),aI ah,aD (ae ⟨w5.heap.size,0,ah⟩) 1 1]) rfl rfl rfl func21 rfl rfl dS (λ_ _ _ _ _=>trivial) (PT (F:=10) (n:=2) (es:=[⟨0,3,4⟩]) ⟨ai,ai⟩ ⟨aN,aN⟩ (rA 1 ai) HE6.out ai HR6.out ai aaL) ?_;rintro i7 v7 w7 ⟨rfl,rfl,R7,K7⟩;have HR7:=aA R7;have HK7:=aA (HK6.out.trans K7);clear R7 K7 HR6 HE6 HK6;walk_nrm;iterate 5
  refine gP ?_
 refine on ?_;obtain⟨cur,Ey⟩:=dV HV.out rfl;have adR:=(HK7.out.same g _ Ey (HVF.out g rfl)).1;have hV7:jS g 0 [3,9] w7:=λj hj=>by
  rw[dr (w:=w3) (adR.trans Ey.symm),eB,HV.out.cellAt j (by simpa using hj)];match j,hj with
  |0,_=>rfl
  |1,_=>rfl
 have hg7:g<w7.heap.size:=(bF.1 adR).1;have hints:∀τ,b9 aC 12 #[aD (ae ⟨g,0,ah⟩) 2 agd,aD (ae ⟨w7.heap.size,0,ah⟩) 2 2] ((w7.alloc (aK #[aq af 3,aq af 9] 3)).tp τ) _:=λτ=>ints_yes g 0 agd w7.heap.size 0 2 [3,9] ((w7.alloc (aK #[aq af 3,aq af 9] 3)).tp τ) (λj hj=>(qs w7 _ ⟨g,0+j,ah⟩ hg7).trans (hV7 j hj)) (abC w7 3 9 _ _ rfl) (show g< (w7.alloc _).heap.size by rw[cM];omega) (show w7.heap.size< (w7.alloc _).heap.size by rw[cM];omega) aN;have Hints:=aA hints;clear hints hV7 adR Ey hg7;refine wpM_seq (wpM_seq (wpM_lone pP hcs aQ yg (ni aQ _) (λτ=>?_)));go_wp2_with fail
 refine(Hints.out τ).mono ?_;rintro e w8 ⟨rfl,Yg⟩;have Yh:∀y,y<w7.heap.size->w8.heap[y]? =w7.heap[y]? :=λy hy=>by rw[Yg.block y (show y< (w7.alloc _).heap.size by rw[cM];omega)];exact gT w7 _ _ hy
 have hs8:w7.heap.size<=w8.heap.size:=by have h1:(w7.alloc (aK #[aq af 3,aq af 9] 3)).heap.size<=w8.heap.size:=Yg.size;rw[cM]at h1;omega
 obtain⟨R8,K8⟩:=ym 10 HR7.out hs8 Yh;have HR8:=aA R8;have HK8:=aA (HK7.out.trans K8);clear Yg Yh R8 K8 Hints HV HVF HR7 HK5;go_wp2_with fail
 refine⟨w8,⟨rfl,rfl,rfl⟩,?_⟩;try simp only[bE]
 refine Cs ?_;try simp only[bE]
 refine pS ?_;refine gP ?_;refine bA (args:=#[aI (ae ⟨b,0,ah⟩),aI ah,aq af 1]) rfl rfl rfl func22 rfl rfl dS (λ_ _ _ _ _=>trivial) (af9 (F:=10) ai HR8.out adP) ?_;rintro i9 v9 w9 ⟨rfl,rfl,R9,K9⟩;have HR9:=aA R9;have HK9:=aA (HK8.out.trans K9);have hs9:w7.heap.size<=w9.heap.size:=dm hs8 K9.size;clear R9 K9 HR8 HK8;walk_nrm;iterate 5
  refine gP ?_
 refine on ?_;refine pS ?_;refine gP ?_;refine bA (args:=#[aI (ae ⟨b,0,ah⟩),aI ah,aq af 0,aq af 1,aq af 2]) rfl rfl rfl func19 rfl rfl dS (λ_ _ _ _ _=>trivial) (abB (F:=10) ⟨ai,ai⟩ HR9.out (by have:=HK9.out.size;omega) adQ) ?_;rintro i10 v10 w10 ⟨rfl,rfl,R10,K10⟩;have age:=aA (HK3.out.trans (HK9.out.trans K10));clear R10 K10 HR9 HK9;walk_nrm;iterate 4
  refine gP ?_
 refine on ?_;refine iI λτ=>?_;refine cD ?_;refine⟨rfl,.bool au,jT,rfl,rfl,?_,λy hy=>?_⟩
 .have:=age.out.size;have:=Bt HR1.out (.inl rfl);have iA:w.heap.size<=w1.heap.size:=by apply eV;intro hn;have h1:=HS.out w1.heap.size ai;rw[np (bJ _)]at h1;exact aT h1.symm (by rw[fP ai];simp)
  omega
 .have h1:=HS.out y hy;have h2:w.heap[y]? =ae w.heap[y]:=fP hy;rw[h2]at h1⊢;exact(age.out.same y _ h1 (HF.out y hy)).1
end
end
end Go.Proofs.YtfmibhmknlnoiaaGreat
