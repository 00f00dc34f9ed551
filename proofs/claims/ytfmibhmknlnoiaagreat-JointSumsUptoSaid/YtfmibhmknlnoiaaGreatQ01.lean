import Derived.Test.YtfmibhmknlnoiaaGreatQ00
import Derived.Orders
import Derived.Conc.CrowdBase
import Derived.Conc.Own4
import Derived.Conc.CrowdRun
import Derived.Conc.WgGenN3
import Derived.Conc.Always
set_option linter.all false
set_option maxRecDepth 100000
set_option maxHeartbeats 4000000
namespace Go.Proofs.YtfmibhmknlnoiaaGreat
open _root_.Go.Proofs.Tryz
variable{ι:Type}{x:Addr}{er:Array Event}{gs gs' Rz:Array Goroutine}{ops₀:Array Oper}{ats:Array TypeId}{tm:Bool}{c c':CC}{bD:ConcN.CTag}{Hs:ConcN.CTag->Goroutine->World->Prop}{sh:CommShape}{e:Event}{b₀ fr aZ bo:Frame}{At At':Frame->List Frame->World->Prop}{fn:FuncId}{H' a g':Goroutine}{Q abp:Goroutine->World->Prop}{sm:Int}{J J':dA ι}{S:ba}{xs Bi:List (Addr×Value)}{cs cs0 gN fs bz lf wfs:List Frame}{k₀:List Item}{rest₀:List Nat}{X:Loc->Prop}{m1:Machine}{B' b d0 h i i₀ k kj kk m n' nh t tk:Nat}{fk y:Nat×Nat}{abA:Nat->Bool}{S':Nat->Loc->Prop}{kg q q2:Nat->Nat}{F iX:Nat->Option (Nat×Nat)}{Inb g9 wG:Nat->Option Conc.Seat}{H M M' N N' Nk Xm:Nat->Prop}{z:Nat->Value}{D D2:Nat->ConcN.WD}{A A':Nat->World}{o:Obj}{RI:Oper}{f um:Option (Nat×Nat)}{s s0 sy:Conc.Seat}{T T' T2 t1:Trace}{v z1 z2:Value}{Post:Value->World->Prop}{d:ConcN.WD}{a' a1 a₀ r' bH w' w₁:World}{K' UA:World->Prop}{D' zJ:World->World->Array Event->Prop}{R R':World->World->Prop}
section
open Go Go.Conc Go.ConcN
def uK(P:Program)(main:Bool)(cs:List Frame)(At:Frame->List Frame->World->Prop)(fr:Frame)(fs:List Frame)(a:World):Prop:=
 ∀(H:Nat->Prop) (R:World->World->Prop) (D:World->World->Array Event->Prop) (Q:Goroutine->World->Prop) (Jw:World->World->Prop),Beside H R D Jw->
  (∀aZ bz a' r',At aZ bz a'->Rel H a' r'->Jw a' r'->fU P main R D Q (bh aZ (bz++cs)) r')->∀r,Rel H a r->Jw a r->fU P main R D Q (bh fr (fs++cs)) r
section
variable{P:Program}{main:Bool}{a:World}
theorem uK.stop(h:At fr fs a):uK P main cs At fr fs a:=λ_ _ _ _ _ _ hQ r hr hj=>hQ _ _ _ _ h hr hj
theorem uK.bind(h:uK P main cs At fr fs a)(hn:∀aZ bz a',At aZ bz a'->uK P main cs At' aZ bz a'):uK P main cs At' fr fs a:=λH R D Q Jw B hQ r hr hj=>h H R D Q Jw B (λaZ bz a' r' h1 h2 h3=>hn aZ bz a' h1 H R D Q Jw B hQ r' h2 h3) r hr hj
theorem uK.alike(e:Alike a a')(h:uK P main cs At fr fs a):uK P main cs At fr fs a':=λH R D Q Jw B hQ r hr hj=>h H R D Q Jw B hQ r (e.symm.rel hr) (B.alike _ _ _ e.symm hj)
theorem zL{a r:World}(h:Rel H a r):Rel H a a:=⟨rfl,λ_ _=>.inl rfl,λb hb=>⟨(h.hid b hb).1,_,(h.hid b hb).1,rfl⟩,h.objs,rfl,rfl⟩
theorem uK.pure(hs:∀w,stepG P main (bh fr (fs++cs)) w=.go (bh aZ (bz++cs)) w #[])(h:uK P main cs At aZ bz a):uK P main cs At fr fs a:=λH R D Q Jw B hQ r hr hj=>by
 refine .step rfl (λw₁ h₁=>?_) λw₁ g' w' es h₁ e=>?_
 ·obtain⟨h2,h3⟩:=B.others a r w₁ h₁ hr hj;exact⟨_,_,_,hs w₁,B.does a a w₁ w₁ #[] h2 h3 (iN h2 #[])⟩
 ·rw[hs w₁]at e;injection e with e1 e2 e3
  subst e1 e2 e3;obtain⟨h2,h3⟩:=B.others a r w₁ h₁ hr hj;exact h H R D Q Jw B hQ w₁ h2 h3
theorem Vj(hR:∀H,S.Rows H P)(hB:S.iM P)(hL:S.nV)(hP:S.Plain P){b:Frame}{k:List Item}{c:Code}{act:Act}{Post:Act->World->Prop}(hk:b.kind=.normal)(hok:cR P S b.fn c=true)(hd:∀d∈act.defers,mK P S d)(wm:pY S b.fn act.tmps)
  (h:∀τ,c.wp P (λe a' w'=>e=.normal/\Post a' w') act (aV a τ))(hPost:∀a' w' τ,Post a' w'->Post a' (aV w' τ))(hnext:∀a' w',Post a' w'->uK P main cs At (b.at a' k) fs w'):uK P main cs At (b.at act (.code c::k)) fs a:=by
 intro H R D Q Jw B hQ r hr hj;let Xa:Frame->List Frame->World->Prop:=λfr fs w=>∃a',fr=b.at a' K0/\fs=[]/\Post a' w;have hS:bQ P S (b.at act (.code c::K0)) []:=⟨⟨λit hit=>by
  rcases dM.1 hit with rfl|hit
  ·show DJ P S b.fn false c=true;unfold DJ;rw[hok];rfl
  ·simp only[K0,List.mem_singleton]at hit;subst hit;rfl,hd,.inl hk,.inl rfl,wm⟩,hk⟩
 have hall:uI P Xa (b.at act (.code c::K0)) [] a:=λτ=>by obtain⟨e,a',w',⟨rfl,hp⟩,har⟩:=h τ b K0 [base P];obtain⟨n,hn⟩:=(har:Steps P _ _);exact⟨n,b.at a' K0,[],w',hn,a',rfl,rfl,hp⟩
 have YN:Vg P Xa (b.at act (.code c::K0)) [] a:=qy (hR H) hB hL hP (λfr fs a τ _ ⟨a',h1,h2,h3⟩=>⟨a',h1,h2,hPost _ _ τ h3⟩) hS (zL hr) hall;have:=walk_of_bar_sw (κ:=some k) (cs:=fs++cs) (R:=R) (D:=D) (Q:=Q) (main:=main) (hR H) hB hL hP B (λgD lf a1 r1 bo cj hst _ hsw hrel hj1=>by
  obtain⟨a',rfl,rfl,hp⟩:=hst;obtain⟨⟨A,h1,rfl⟩,rfl⟩:=hsw;have hA:A=[]:=by have h1:K0=A++K0:=h1;have:=congrArg List.length h1;simp only[mM]at this;exact List.length_eq_zero_iff.1 ae
  subst hA;exact hnext a' a1 hp H R D Q Jw B hQ r1 hrel hj1) YN (r:=r) (bo:=b.at act (.code c::k)) (cj:=[]) hS ⟨⟨[.code c],rfl,rfl⟩,rfl⟩ hr hj
 simpa using this
theorem co_op(hR:∀H,S.Rows H P)(hB:S.iM P)(hL:S.nV){b:Frame}{k:List Item}{act:Act}{ops:Array Oper}{j:Nat}{rest:List Nat}{o:Oper}(hk:b.kind=.normal\/b.kind=.deferred)(ho:ops[j]? =some o)(hw:Region.wanted o (yielded ops act.tmps)=true)(hok:eV P S b.fn o=true)(wm:pY S b.fn act.tmps)
  (h:∀τ,∃v w',((execOp act.eval o).run P (aV a τ)=.ok (.value v) w'\/(execOp act.eval o).run P (aV a τ)=.ok .skip w'/\v=undef)/\uK P main cs At (b.at (act.put o.dst v) (.inRegion ops rest::k)) fs w'):uK P main cs At (b.at act (.inRegion ops (j::rest)::k)) fs a:=by
 intro H R D Q Jw B hQ r hr hj;have one:∀w₁,R r w₁->∃v a' r' er,stepG P main (bh (b.at act (.inRegion ops (j::rest)::k)) (fs++cs)) w₁=.go (bh (b.at (act.put o.dst v) (.inRegion ops rest::k)) (fs++cs)) r' er/\Rel H a w₁/\Jw a w₁/\Went H #[] a a' w₁ r' er/\uK P main cs At (b.at (act.put o.dst v) (.inRegion ops rest::k)) fs a':=λw₁ h₁=>by
  obtain⟨h2,h3⟩:=B.others a r w₁ h₁ hr hj;let τ:Nat->Question->Nat:=λi q=>w₁.tape (w₁.drawn+(i-a.drawn)) q;obtain⟨v,w',hrun,hc⟩:=h τ;have bf:=zL h2;have jd:Simu H P (lO P S b.fn o) (execOp act.eval o):=QY (hR H) hB hL (ρ:=act.eval) (tmps:=act.tmps) (λ_=>rfl) (λ_=>rfl) (λ_=>rfl) wm hok;have hm:=jd (aV a τ) w₁ #[] #[] ⟨h2.size,h2.same,h2.hid,h2.objs,h2.os,h2.output⟩;generalize hX:(execOp act.eval o).runT P (aV a τ) #[]=X at hm;have hX1:X.1=(execOp act.eval o).run P (aV a τ):=by rw[←hX];simp
  obtain⟨rx,ex⟩:=X;simp only at hX1;have hg:=stepG_oper (P:=P) (main:=main) (b:=b) (a:=act) (k:=k) (cs:=fs++cs) (w:=w₁) (rest:=rest) ho hw;have oT:((b.at act (.inRegion ops (j::rest)::k)).kind==CallKind.early)=false:=by rw[show(b.at act (.inRegion ops (j::rest)::k)).kind=b.kind from rfl];rcases hk with hk|hk<;>rw[hk] <;>rfl
  have lS:∀v,(b.at act (.inRegion ops (j::rest)::k)).finish v=b.at (act.put o.dst v) (.inRegion ops rest::k):=by intro v;rw[fy,ho];rfl
  have fB:pH (aV a τ) w' w₁:=λi q _=>by show w₁.tape (w₁.drawn+(a.drawn+i-a.drawn)) q=w₁.tape (w₁.drawn+i) q;rw[Nat.add_sub_cancel_left]
  rcases hrun with hrun|⟨hrun,rfl⟩
  ·rw[hrun]at hX1;subst hX1;obtain⟨_,_,_,h4⟩:=hm;obtain⟨r',er,e,hwn⟩:=h4 fB;refine⟨v,w',r',seen P b.fn er++ #[],?_,h2,h3,bS (nZ hwn),hc⟩;rw[←lS];exact hg.trans (gL oT e)
  ·rw[hrun]at hX1;subst hX1;obtain⟨_,_,_,h4⟩:=hm;obtain⟨r',er,e,hwn⟩:=h4 fB;refine⟨undef,w',r',seen P b.fn er++ #[],?_,h2,h3,bS (nZ hwn),hc⟩;rw[←lS];exact hg.trans (tF oT e)
 refine .step rfl (λw₁ h₁=>?_) λw₁ g' w' es h₁ e=>?_
 ·obtain⟨v,a',r',er,e,h2,h3,h4,_⟩:=one w₁ h₁;exact⟨_,_,_,e,B.does a a' w₁ r' er h2 h3 h4⟩
 ·obtain⟨v,a',r',er,e',h2,h3,h4,hc⟩:=one w₁ h₁;rw[e]at e';injection e' with e1 e2 e3
  subst e1 e2 e3;exact hc H R D Q Jw B hQ _ h4.rel (B.own _ _ _ _ _ h2 h3 h4)
theorem Mt(hR:∀H,S.Rows H P)(hB:S.iM P)(hL:S.nV)(hP:S.Plain P){c:Frame}{f:FuncId}{args:Array Value}(lR:wj P S f args)(hPost:∀v w τ,Post v w->Post v (aV w τ))(h:∀τ,Calls P f args (aV a τ) λe w'=>∃v,e=.returned v/\Post v w')
  (hnext:∀v w',Post v w'->uK P main cs At (c.finish v) fs w'):uK P main cs At (Frame.enter P f args .normal) (c::fs) a:=by
 intro H R D Q Jw B hQ r hr hj;exact age (cs:=fs++cs) (hR H) hB hL hP B hPost hr hj lR h λv a' w' hp h2 h3=>hnext v a' hp H R D Q Jw B hQ w' h2 h3
theorem FU{c:Frame}{fn:Func}(hm:fr.mode=.returning)(hd:fr.defers=[])(hk:fr.kind=.normal)(hf:P.funcs[fr.fn]? =some fn)(hr:(results fn fr.tmps).run P a=.ok v a)(h:uK P main cs At (c.finish v) fs a):uK P main cs At fr (c::fs) a:=by
 intro H R D Q Jw B hQ r hrel hj;have one:∀w₁,R r w₁->∃r' er,stepG P main (bh fr (c::fs++cs)) w₁=.go (bh (c.finish v) (fs++cs)) r' er/\Rel H a w₁/\Jw a w₁/\Went H #[] a a w₁ r' er:=λw₁ h₁=>by obtain⟨h2,h3⟩:=B.others a r w₁ h₁ hrel hj;obtain⟨r',er,e1,e2⟩:=qA h2 (zL h2) hr;refine⟨r',seen P fr.fn er++ #[],?_,h2,h3,bS e2⟩;simp only[stepG,hm,unwind,hd,hf,e1,doReturn,hk,jc];rfl
 refine .step rfl (λw₁ h₁=>?_) λw₁ g' w' es h₁ e=>?_
 ·obtain⟨r',er,e,h2,h3,h4⟩:=one w₁ h₁;exact⟨_,_,_,e,B.does a a w₁ r' er h2 h3 h4⟩
 ·obtain⟨r',er,e',h2,h3,h4⟩:=one w₁ h₁;rw[e]at e';injection e' with e1 e2 e3
  subst e1 e2 e3;exact h H R D Q Jw B hQ _ h4.rel (B.own _ _ _ _ _ h2 h3 h4)
theorem DU{b:Frame}{k:List Item}{act:Act}{id:Nat}{ops:Array Oper}(hm:P.follows .mixedOrders=true)
  (h:∀t,uK P main cs At (b.at act (.inRegion ops (Region.linearise.go .any ops ops.size t (Array.replicate ops.size false) [])::k)) fs {a with drawn:=a.drawn+1}):uK P main cs At (b.at act (.code (.region id ops true)::k)) fs a:=by
 intro H R D Q Jw B hQ r hr hj;have one:∀w₁,∃t,stepG P main (bh (b.at act (.code (.region id ops true)::k)) (fs++cs)) w₁=.go (bh (b.at act (.inRegion ops (Region.linearise.go .any ops ops.size t (Array.replicate ops.size false) [])::k)) (fs++cs)) {w₁ with drawn:=w₁.drawn+1} #[]:=λw₁=>by
  have e:stepG P main (bh (b.at act (.code (.region id ops true)::k)) (fs++cs)) w₁=.go (bh (b.at act (.inRegion ops (Region.schedule (P.follows .mixedOrders) ops (w₁.tape w₁.drawn (.order b.fn id)))::k)) (fs++cs)) {w₁ with drawn:=w₁.drawn+1} #[]:=by simp[bh,stepG,stepG.exec,Frame.at,choose,Sem.run,Question.forced,Question.cut]
  rw[e];simp only[Region.schedule,hm,Bool.true_or,if_true];exact⟨_,rfl⟩
 have went:∀w₁,Rel H a w₁->Went H #[] a {a with drawn:=a.drawn+1} w₁ {w₁ with drawn:=w₁.drawn+1} #[]:=λw₁ hrel=>⟨⟨hrel.size,hrel.same,hrel.hid,hrel.objs,hrel.os,hrel.output⟩,rfl,by show w₁.drawn+1=w₁.drawn+(a.drawn+1-a.drawn);omega,λ_ _=>rfl,λ_ h=>.inl h,λ_ h=>.inl h,aY _,gH hrel,λy hy=>⟨rfl,hy⟩,λ_ h=>.inl h,aY _,cJ _,cJ _,rfl,rfl⟩;refine .step rfl (λw₁ h₁=>?_) λw₁ g' w' es h₁ e=>?_
 ·obtain⟨h2,h3⟩:=B.others a r w₁ h₁ hr hj;obtain⟨t,e⟩:=one w₁;exact⟨_,_,_,e,B.does a _ w₁ _ #[] h2 h3 (went w₁ h2)⟩
 ·obtain⟨h2,h3⟩:=B.others a r w₁ h₁ hr hj;obtain⟨t,e'⟩:=one w₁;rw[e]at e';injection e' with e1 e2 e3
  subst e1 e2 e3;have hW:=went w₁ h2;exact h t H R D Q Jw B hQ _ hW.rel (B.own _ _ _ _ _ h2 h3 hW)
end
section
variable{P:Program}{main:Bool}{ops:Array Oper}
def Bh(n:Nat)(listed:Array Bool):Nat:=sumTo n λi=>if listed.getD i true then 0 else 1
theorem Vk{n:Nat}{listed:Array Bool}(hn:listed.size=n)(h:listed.getD i true=false):Bh n (listed.setIfInBounds i true) +1=Bh n listed:=by
 have hi:i<n:=by
  rcases iC i n with h1|h1
  ·exact h1
  ·rw[cE,kP ae]at h;cases h
 have:=sumTo_upd (λx=>listed.getD x true) true (λb=>if b=true then 0 else 1) hi;have e:(λx=>(listed.setIfInBounds i true).getD x true)=upd (λx=>listed.getD x true) i true:=by
  funext x;simp only[upd,cE,Ff];by_cases e:i=x
  ·subst e;simp[hn,hi]
  ·simp[e,bp e]
 have e2:Bh n (listed.setIfInBounds i true)=sumTo n λa=>if upd (λx=>listed.getD x true) i true a=true then 0 else 1:=by unfold Bh;rw[←e]
 rw[e2];simp only[h]at this;unfold Bh;simpa using this
theorem FV{n:Nat}{listed:Array Bool}(bC:ops.size=n)(hn:listed.size=n)(hedge:∀(i:Nat) (o:Oper),ops[i]? =some o->∀e∈o.after,Region.binds .any e=true->e.on<i)(h:0<Bh n listed):∃i,i∈Region.ready .any ops listed:=by
 have hex:∃i,i<n/\listed.getD i true=false:=by
  apply cY;intro hc;have:Bh n listed=sumTo n λ_=>0:=sumTo_congr λi hi=>by
   have:listed.getD i true=true:=by
    cases e:listed.getD i true with
    |true=>rfl
    |false=>exact absurd ⟨i,hi,e⟩ hc
   simp[this]
  rw[this]at h;have z:∀n,sumTo n (λ_=>0)=0:=λn=>by induction n with
   |zero=>rfl
   |succ n ih=>simp[sumTo,ih]
  rw[z]at h;omega
 let p:Nat->Prop:=λi=>i<n/\listed.getD i true=false;have least:∀m i,i<=m->p i->∃j,p j/\∀x,x<j->¬p x:=by
  intro m;induction m with
  |zero=>exact λi hi hp=>⟨i,hp,λx hx=>ae⟩
  |succ m ih=>
   intro i hi hp;by_cases hc:∃x,x<i/\p x
   ·obtain⟨x,hx,hpx⟩:=hc;exact ih x ae hpx
   ·exact⟨i,hp,λx hx hpx=>hc ⟨x,hx,hpx⟩⟩
 obtain⟨i,hi⟩:=hex;obtain⟨j,⟨hj,JJ⟩,Vl⟩:=least i i (aY _) hi;obtain⟨o,ho⟩:∃o,ops[j]? =some o:=⟨_,dI ae⟩;refine⟨j,mem_ready.2 ⟨JJ,o,ho,λe he hb=>?_⟩⟩;have h1:=hedge j o ho e he hb;have h2:listed.getD e.on true=true:=by
  cases h3:listed.getD e.on true with
  |true=>rfl
  |false=>exact absurd ⟨ae,h3⟩ (Vl e.on h1)
 rw[cE]at h2⊢;rw[dI ae]at h2⊢;simpa using h2
abbrev sg(listed:Array Bool)(i:Nat):Array Bool:=listed.setIfInBounds i true
theorem zM(n:Nat):Bh n (Array.replicate n false)=n:=by
 have:Bh n (Array.replicate n false)=sumTo n λ_=>1:=sumTo_congr λi hi=>by simp[cE,mL,hi]
 rw[this];have z:∀n,sumTo n (λ_=>1)=n:=λn=>by induction n with
  |zero=>rfl
  |succ n ih=>simp[sumTo,ih]
 exact z n
end
end
section
open Go Go.Conc Go.ConcN
open Go.ConcR (KK WgAt stA smA Payload Aside2 DC0)
structure Sees(N:Nat->Prop)(F:Nat->Option (Nat×Nat))(a r:World):Prop where
 size:a.heap.size=r.heap.size
 os:a.os=r.os
 output:a.output=r.output
 get:∀(b:Nat),a.heap[b]? =(fJ N F r).heap[b]?
theorem dD(N:Nat->Prop)(F:Nat->Option (Nat×Nat))(r:World):Sees N F (fJ N F r) r:=⟨by simp[fJ],rfl,rfl,λ_=>rfl⟩
theorem Sees.alike{a r:World}(h:Sees N F a r)(e:Alike a a'):Sees N F a' r:=⟨by rw[e.heap];exact h.size,by rw[e.os];exact h.os,by rw[e.output];exact h.output,λb=>by rw[e.heap];exact h.get b⟩
theorem Sees.tape{a r:World}(h:Sees N F a r)(τ:Nat->Question->Nat):Sees N F (aV a τ) r:=⟨h.size,h.os,h.output,h.get⟩
def wz(F:Nat->Option (Nat×Nat))(r:World):Prop:=∀(b:Nat) f,F b=some f->∃c e,r.heap[b]? =some (.cells c e (0,0))
theorem qB{c:Array Value}{e:TypeId}:dJ f (.cells c e (0,0))=.cells c e (f.getD (0,0)):=by cases f<;>rfl
section
variable{a r:World}
theorem Sees.need(h:Sees N F a r)(hb:N b):a.heap[b]? =(r.heap[b]?).map (dJ (F b)):=by rw[h.get,hide_need hb]
theorem Sees.hid(h:Sees N F a r)(hb:Hid N r b):a.heap[b]? =some cI:=by obtain⟨o,e,h1,h2⟩:=hb;rw[h.get,dh,e];simp[h1,h2]
theorem Sees.num(h:Sees N F a r){l:Bool}(hb:r.heap[b]? =some (.number x l)):a.heap[b]? =some (.number x l):=by rw[h.get,dh,hb];simp[bU,dJ]
theorem Sees.went(h:Sees N F a r)(hF:wz F r)(hN:∀b,bH.heap.size<=b->N b/\F b=none)(tJ:bH.heap.size<=r.heap.size)(hH:∀b,Hid N bH b↔Hid N r b)(w:Went (Hid N bH) #[] a a' r r' er):Sees N F a' r'/\wz F r'/\∀b,Hid N bH b↔Hid N r' b:=by
 have Rn:∀b,Hid N bH b↔Hid N r' b:=λb=>by
  constructor
  ·intro hb;obtain⟨o,e,h1,h2⟩:=(hH b).1 hb;exact⟨o,by rw[w.hidden b hb];exact e,h1,h2⟩
  ·rintro⟨o,e,h1,h2⟩;have hlt:b<bH.heap.size:=by
    rcases iC b bH.heap.size with h|h
    ·exact h
    ·exact absurd (hN b h).1 h2
   cases e':r.heap[b]? with
   |none=>have:=Array.getElem?_eq_none_iff.1 e';omega
   |some o'=>refine(hH b).2 ⟨o',e',?_,h2⟩;cases o'<;>first|rfl|(rw[w.shpr.2 _ _ _ e']at e;obtain rfl:=aP e;cases h1)
 have hF':wz F r':=λb f hf=>by obtain⟨c,e,hc⟩:=hF b f hf;obtain⟨c',_,hc'⟩:=w.shpr.1 _ _ _ _ hc;exact⟨c',e,hc'⟩
 refine⟨⟨w.rel.size,w.rel.os,w.rel.output,λb=>?_⟩,hF',Rn⟩;by_cases hb:Hid N bH b
 ·rw[(w.rel.hid b hb).1];obtain⟨o,e,h1,h2⟩:=(Rn b).1 hb;rw[dh,e];simp[h1,h2]
 ·
  by_cases hf:∃f,F b=some f
  ·obtain⟨f,hf⟩:=hf;have hNb:N b:=(by obtain⟨c,e,hc⟩:=hF b f hf;apply cY;intro hn;exact hb ((hH b).2 ⟨_,hc,rfl,hn⟩));obtain⟨c,e,hc⟩:=hF b f hf;have ha:a.heap[b]? =some (.cells c e f):=(by rw[h.need hNb,hc,hf];rfl);obtain⟨c1,_,h1⟩:=w.shp.1 _ _ _ _ ha;obtain⟨c2,_,h2⟩:=w.shpr.1 _ _ _ _ hc;rw[hide_need hNb,h2,h1,hf];show some (Obj.cells c1 e f)=some (Obj.cells c2 e f);rcases w.rel.same b hb with hs|⟨c3,e3,f3,h3,h4⟩
   ·rw[h1,h2]at hs;simp only[cu,sL]at hs⊢;exact⟨hs.1,trivial,trivial⟩
   ·rw[h1]at h3;rw[h2]at h4;simp only[cu,sL]at h3 h4⊢;exact⟨h3.1.trans h4.1.symm,trivial,trivial⟩
  ·have hfn:F b=none:=by
    cases e:F b with
    |none=>rfl
    |some f=>exact absurd ⟨f,e⟩ hf
   have hh:∀(w:World),(¬Hid N w b)->(fJ N F w).heap[b]? =w.heap[b]? :=λw hnw=>by
    rw[dh,hfn];cases e:w.heap[b]? with
    |none=>rfl
    |some o=>have:N b\/bU o=false:=(by apply cY;intro hc;simp only[not_or,Bool.not_eq_false]at hc;exact hnw ⟨o,e,hc.2,hc.1⟩);simp only[kS,this,if_true];rfl
   rw[hh r' (λx=>hb ((Rn b).2 x))];exact w.eqk b hb λ_=>by rw[h.get,hh r (λx=>hb ((hH b).2 x))]
end
def Fz(F:Nat->Option (Nat×Nat))(x:Addr):Prop:=∃f,F x.block=some f/\f.1<=x.off/\x.off<f.2
theorem Sees.frozen{a r:World}(h:Sees N F a r)(hF:wz F r)(hN:∀b f,F b=some f->N b)(hx:Fz F x):a.frozen? x=true:=by
 obtain⟨f,hf,h1,h2⟩:=hx;obtain⟨c,e,hc⟩:=hF _ _ hf;have:a.heap[x.block]? =some (.cells c e f):=by rw[h.need (hN _ _ hf),hc,hf];rfl
 obtain⟨lo,hi⟩:=f;simp only[World.frozen?,this];simp only at h1 h2;simp[h1,h2]
def Whole(F:Nat->Option (Nat×Nat))(bH:World)(b:Nat):Prop:=∃f c e,F b=some f/\f.1=0/\bH.heap[b]? =some (.cells c e (0,0))/\c.size<=f.2
theorem whole_same{r:World}(h:Whole F bH b)(h0:Mk bH r)(h1:Mk r r')(hc:∀x,Fz F x->r'.cell? x=r.cell? x):r'.heap[b]? =r.heap[b]? :=by
 obtain⟨f,c,e,hf,U5,hb,hsz⟩:=h;obtain⟨c1,s1,e1⟩:=h0.1 _ _ _ _ hb;obtain⟨c2,s2,e2⟩:=h1.1 _ _ _ _ e1;rw[e1,e2];congr 2;apply Array.ext_getElem?;intro x;by_cases hx:x<c1.size
 ·have:=hc ⟨b,x,none⟩ ⟨f,hf,by simp[U5],kT⟩;simpa[World.cell?,e1,e2]using this
 ·rw[kP ae,kP ae]
section
variable[Payload]
structure tK(c:CC)(N:Nat->Prop)(F:Nat->Option (Nat×Nat))(bH a r:World):Prop where
 sees:Sees N F a r
 fz:wz F r
 hid:∀b,Hid N bH b↔Hid N r b
 grow:bH.heap.size<=r.heap.size
 keep:c.K r
 live:WgLive c.ty c.Wg r
 still:∀(b:Nat),Hid N bH b->b≠c.Wg->r.heap[b]? =bH.heap[b]?
 cells:∀x,Fz F x->r.cell? x=bH.cell? x
 shp:Mk bH r
 same:r.os=bH.os/\r.output=bH.output
structure Vm(c:CC)(h:Nat)(Inb:Nat->Option Seat)(N:Nat->Prop)(F:Nat->Option (Nat×Nat))(bH:World):Prop where
 wg:¬N c.Wg
 dum:Hid N bH c.C\/Whole F bH c.C
 fzn:∀b f,F b=some f->N b
 new:∀b,bH.heap.size<=b->N b/\F b=none
 chans:∀i s b,i≠h->Inb i=some s->s.has b->Hid N bH b/\b≠c.Wg/\b≠c.C
 K:∀r r',c.K r->(r'.os=r.os/\r'.output=r.output)->(∀(b:Nat),Hid N bH b->r'.heap[b]? =r.heap[b]?)->(∀x,Fz F x->r'.cell? x=r.cell? x)->(∀b,Whole F bH b->r'.heap[b]? =r.heap[b]?)->c.K r'
 S:∀g l,c.S g l->∃x,l=.cell x/\(Hid N bH x.block\/Fz F x)
variable{a r:World}
omit[Payload]in
theorem lh{r:World}{cs:Array Value}{e:TypeId}{f:Nat×Nat}(h:r.heap[b]? =some (.cells cs e f))(hn:¬N b):Hid N r b:=⟨_,h,rfl,hn⟩
theorem tK.rel(L:tK c N F bH a r)(hrel:Rel (Hid N bH) a r):Rel (Hid N bH) a r:=hrel
theorem YO{r r₁:World}(hr:RH c r r₁)(hl:WgLive c.ty c.Wg r):Mk r r₁:=by
 obtain⟨st1,sm1,h1⟩:=hr.live hl;obtain⟨st,sm,h0⟩:=hl;refine⟨λb cs e f hb=>?_,λb x l hb=>?_⟩
 ·by_cases e1:b=c.Wg
  ·subst e1;have U1:r.heap[c.Wg]? =some (Go.ConcR.wgBlock c.ty st sm):=h0;rw[hb]at U1;simp only[Go.ConcR.wgBlock,cu,sL]at U1;obtain⟨rfl,rfl,rfl⟩:=U1;exact⟨#[.int .u64 st1,.int .u32 sm1],rfl,h1⟩
  ·exact⟨cs,rfl,by rw[hr.block b e1];exact hb⟩
 ·by_cases e1:b=c.Wg
  ·subst e1;have U1:r.heap[c.Wg]? =some (Go.ConcR.wgBlock c.ty st sm):=h0;rw[hb]at U1;cases U1
  ·rw[hr.block b e1];exact hb
theorem xM(O:c.Ok)(V:Vm c h Inb N F bH):Beside (Hid N bH) (RH c) (FP c Inb h) (tK c N F bH):=by
 refine⟨λa r r₁ hr hrel L=>?_,λa a' r r' er hrel L w=>?_,λa a' r hA L=>?_,λa a' r r' er hrel L w=>?_⟩
 ·
  have hK:c.K r₁:=O.keep _ _ hr.g L.keep;have oq:=hr.live L.live;have jR:Hid N r c.Wg:=by obtain⟨st,sm,hw⟩:=L.live;exact lh hw V.wg
  have adv:Hid N r₁ c.Wg:=by obtain⟨st,sm,hw⟩:=oq;exact lh hw V.wg
  have hsame:∀b,¬Hid N bH b->r₁.heap[b]? =r.heap[b]? :=λb hb=>hr.block b (λe=>hb (by rw[e];exact(L.hid _).2 jR));have hh1:∀b,Hid N bH b↔Hid N r₁ b:=λb=>by
   by_cases e1:b=c.Wg
   ·subst e1;exact⟨λ_=>adv,λ_=>(L.hid _).2 jR⟩
   ·rw[L.hid b];unfold Hid;rw[hr.block b e1]
  have FW:Rel (Hid N bH) a r₁:=by
   refine⟨hrel.size.trans hr.size.symm,λb hb=>?_,λb hb=>⟨(hrel.hid b hb).1,?_⟩,hrel.objs,hrel.os.trans hr.os.symm,hrel.output.trans hr.output.symm⟩
   ·rw[hsame b hb];exact hrel.same b hb
   ·obtain⟨o,e,h1,_⟩:=(hh1 b).1 hb;exact⟨o,e,h1⟩
  have hFz:∀b f,F b=some f->r₁.heap[b]? =r.heap[b]? :=λb f hf=>hsame b λhb=>by obtain⟨_,_,_,hn⟩:=hb;exact hn (V.fzn b f hf)
  refine⟨FW,⟨L.sees.size.trans hr.size.symm,L.sees.os.trans hr.os.symm,L.sees.output.trans hr.output.symm,λb=>?_⟩,λb f hf=>by rw[hFz b f hf];exact L.fz b f hf,hh1,by rw[hr.size];exact L.grow,hK,oq,λb hb e1=>by rw[hr.block b e1];exact L.still b hb e1,λx hx=>?_,L.shp.trans (YO hr L.live),hr.os.trans L.same.1,hr.output.trans L.same.2⟩
  ·by_cases hb:Hid N bH b
   ·rw[L.sees.hid ((L.hid b).1 hb)];obtain⟨o,e,h1,h2⟩:=(hh1 b).1 hb;rw[dh,e];simp[h1,h2]
   ·rw[L.sees.get,dh,dh,hsame b hb]
  ·obtain⟨f,hf,_⟩:=hx;have e:r₁.cell? x=r.cell? x:=(by simp only[World.cell?,hFz _ _ hf]);rw[e];exact L.cells x ⟨f,hf,‹_›⟩
 ·
  obtain⟨h1,h2,h3⟩:=L.sees.went L.fz V.new L.grow L.hid w;have hcell:∀x,Fz F x->r'.cell? x=r.cell? x:=λx hx=>(w.kept x (L.sees.frozen L.fz V.fzn hx)).1;have jR:Hid N bH c.Wg:=by obtain⟨st,sm,hw⟩:=L.live;exact(L.hid _).2 (lh hw V.wg)
  refine⟨h1,h2,h3,cn L.grow w.grow,V.K r r' L.keep w.same (λb hb=>w.hidden b hb) hcell (λb hb=>whole_same hb L.shp w.shpr hcell),?_,λb hb e1=>(w.hidden b hb).trans (L.still b hb e1),λx hx=>(hcell x hx).trans (L.cells x hx),L.shp.trans w.shpr,w.same.1.trans L.same.1,w.same.2.trans L.same.2⟩;obtain⟨st,sm,hw⟩:=L.live;exact⟨st,sm,(w.hidden _ jR).trans hw⟩
 ·exact⟨L.sees.alike hA,L.fz,L.hid,L.grow,L.keep,L.live,L.still,L.cells,L.shp,L.same⟩
 ·
  have hcell:∀x,Fz F x->r'.cell? x=r.cell? x:=λx hx=>(w.kept x (L.sees.frozen L.fz V.fzn hx)).1;have jR:Hid N bH c.Wg:=by obtain⟨st,sm,hw⟩:=L.live;exact(L.hid _).2 (lh hw V.wg)
  refine⟨λhk=>V.K r r' hk w.same (λb hb=>w.hidden b hb) hcell (λb hb=>whole_same hb L.shp w.shpr hcell),λi s b h1 h2 h3=>w.hidden b (V.chans i s b h1 h2 h3).1,w.hidden _ jR,V.dum.elim (λh=>w.hidden _ h) (λh=>whole_same h L.shp w.shpr hcell),λe he=>?_⟩;have bT:Fc (Hid N bH) e:=(w.evs e he).resolve_left au;have adw:∀x,e.loc=.cell x->e.write=true->a.frozen? x=false:=(w.rov e he).resolve_left au;obtain⟨loc,wr,sy⟩:=e;cases loc with
  |cell x=>
   refine⟨λt ht=>?_,au,au,au⟩;simp only[MemAct.ofEvent,MemAct.touch?,cu]at ht;subst ht;refine⟨λg hg=>?_,λhs=>?_⟩
   ·obtain⟨y,hy,hor⟩:=V.S g _ hg;simp only[Loc.cell.injEq]at hy;subst hy;cases hw:wr with
    |false=>rfl
    |true=>
     rcases hor with hh|hh
     ·exact absurd hh bT
     ·have:=adw x rfl hw;rw[L.sees.frozen L.fz V.fzn hh]at this;cases this
   ·obtain⟨y,hy,hyb⟩:=hs;simp only[Loc.cell.injEq]at hy;subst hy;exact absurd (hyb▸jR:Hid N bH x.block) bT
  |obj b=>
   refine⟨λt ht=>?_,au,au,au⟩;refine⟨λg hg=>?_,λhs=>?_⟩
   ·obtain⟨y,hy,_⟩:=V.S g _ hg;cases wr<;>cases sy<;>simp only[MemAct.ofEvent,MemAct.touch?,cu]at ht<;>first|(subst ht;cases hy)|cases ht
   ·obtain⟨y,hy,_⟩:=hs;cases wr<;>cases sy<;>simp only[MemAct.ofEvent,MemAct.touch?,cu]at ht<;>first|(subst ht;cases hy)|cases ht
  |mark m=>have hm:(∃f,m=.extern f)\/m=.noRoom:=(by cases m<;>first|exact .inl ⟨_,rfl⟩|exact .inr rfl|exact bT.elim);rcases hm with⟨f,rfl⟩|rfl<;>exact⟨λt ht=>by simp[MemAct.ofEvent,MemAct.touch?]at ht,au,au,au⟩
  |output=>refine⟨λt ht=>?_,au,au,au⟩;simp only[MemAct.ofEvent,MemAct.touch?,cu]at ht;subst ht;exact⟨λg hg=>(by obtain⟨y,hy,_⟩:=V.S g _ hg;cases hy),λhs=>(by obtain⟨y,hy,_⟩:=hs;cases hy)⟩
  |goroutines=>exact bT.elim
end
end
section
open Go.Conc Go.ConcN
open Go.ConcR (KK WgAt stA smA Payload Aside2 DC0)
variable[Payload]
structure CI(cases:Array CommCase)(kk b:Nat)(v:Value):Prop where
 at_:∃z,cases[kk]? =some (scase b v z)
 oth:∀m cc,m≠kk->cases[m]? =some cc->∃b' z',cc=rcase b' z'/\b'≠b
omit[Payload]in
theorem CI.off{cases:Array CommCase}(G:CI cases kk b v)(g:Goroutine)(sh:CommShape){x:Nat}(hx:x≠b):offersAt (parked g cases sh) x true=[]:=by
 simp only[offersAt,parked];rw[List.map_eq_nil_iff,List.filter_eq_nil_iff];rintro⟨cc,m⟩ hm;have vP:=mem_of_zipIdx hm;by_cases e:m=kk
 ·subst e;obtain⟨z,hz⟩:=G.at_;rw[hz]at vP;obtain rfl:=aP vP;simp[scase,bp hx]
 ·obtain⟨b',z',rfl,_⟩:=G.oth m cc e vP;simp[rcase]
omit[Payload]in
theorem CI.on{cases:Array CommCase}(G:CI cases kk b v)(g:Goroutine)(sh:CommShape):offersAt (parked g cases sh) b true=[kk]:=by
 obtain⟨z,hk⟩:=G.at_;simp only[offersAt,parked];have hz:∀m:Nat,cases.zipIdx.toList[m]? =(cases[m]?).map λx=>(x,m):=by intro m;simp
 have:=filter_map_one (id:CommCase×Nat->CommCase×Nat) (λ(x:CommCase×Nat)=>x.1.send.isSome==true&&(match x.1.chan with|.chan (some r')=>r'==b|_=>false)) cases.zipIdx.toList kk (scase b v z,kk) (by rw[hz,hk];rfl) (by simp[scase])
  (λm x hm hx=>by
   rw[hz]at hx;cases e:cases[m]? with
   |none=>rw[e]at hx;cases hx
   |some y=>rw[e]at hx;simp only[kS,cu]at hx;subst hx;obtain⟨b',z',rfl,_⟩:=G.oth m y hm e;simp[rcase])
 simp only[List.map_id,id]at this;exact(congrArg (List.map λx=>x.snd) this).trans rfl
omit[Payload]in
theorem JK{g:Goroutine}{cs:Array CommCase}{w:World}(h:∀cc∈cs,∃b cap buf s r tm,cc.chan=.chan (some b)/\w.heap[b]? =some (.chan cap buf false s r tm)):(parked g cs sh).again w=parked g cs sh:=by simp[Goroutine.again,parked];intro x hx;obtain⟨c,cap,buf,s,r,tm,e,hc⟩:=h cs[x] (Array.getElem_mem hx);rw[e];simp[hc]
def uL(h:Nat)(g9:Nat->Option Seat)(u:Nat->Bool):Nat->Bool:=λx=>if x+1=h then(g9 h).isNone else u x
structure After(c:CC)(h:Nat)(Inb g9:Nat->Option Seat)(H':Goroutine)(nh:Nat):Prop where
 seat:∀s,g9 h=some s->c.Re h s nh H'/\s.Wf
 chans:∀s b w,c.K w->g9 h=some s->s.has b->(∃k,w.heap[b]? =some (.chan 0 #[] false k k false))/\b≠c.Wg/\b≠c.C
 apart:∀i s s' b,i≠h->Inb i=some s->g9 h=some s'->s.has b->s'.has b->b=c.gone
 main:h=0->g9 h≠none
 walk:∀x,h=x+1->g9 h=none->∀w,c.K0 w->c.YH x nh H' w
 same:∀i,i≠h->g9 i=Inb i
section
variable{j y:Nat}{tag:CTag}{dt:Nat->Bool}{w:World}
theorem CF.pass(F:CF c h j 0 Inb tag D dt q T gs w)(hy:y≠h)(FX:Inb y=some sy)(A:After c h Inb g9 H' nh)(hsz:gs'.size=gs.size)(lg:∀x,x≠h->x≠y->gs'[x]? =gs[x]?)(hH:gs'[h]? =some H')
  (hK:c.K w')(hch:∀b:Nat,(∃k:Nat,w.heap[b]? =some (Obj.chan 0 #[] false k k false))->∃k:Nat,w'.heap[b]? =some (Obj.chan 0 #[] false k k false))(jR:w'.heap[c.Wg]? =w.heap[c.Wg]?)(hdum:w'.heap[c.C]? =w.heap[c.C]?)
  (hled:Led (λ_=>False) c.S (ShN c.Wg) (λi=>Knows T' y i) T')(qz:∀x,Deaf T' x=Deaf T x)(hno:∀op∈T',op.act≠.mark (.release (stA c.Wg)))(Ro:∀op∈T',op.g<gs.size)(hrel:∀i,i<j->(D i).stage<=6->∀r,RelBy (stA c.Wg) T (i+1) r->RelBy (stA c.Wg) T' (i+1) r):
  CF c y j 0 g9 tag D (uL h g9 dt) (upd q h nh) T' gs' w':=by
 obtain⟨st,sm,hw,hm⟩:=F.group;have hw':WgAt c.ty c.Wg w' st sm:=jR.trans hw;have FY:∀i s,i≠h->g9 i=some s->Inb i=some s:=λi s hi e=>by rw[A.same i hi]at e;exact e
 refine⟨hsz.trans F.size,by rw[hsz];exact F.inR y sy FX,λi g s h1 h2 h3=>?_,λhy0=>?_,λi g h1 h2 h3=>?_,λi hi h1=>?_,λi s h1=>?_,λi s h1=>?_,λi s b h1 h2 h3=>?_,λi i' s s' b h1 h2 h3 h4 h5 h6 h7=>?_,hK,⟨st,sm,hw',hm⟩,F.pend,hled,
  by rw[qz];exact F.deaf0,λi hi=>by rw[qz];exact F.deafW i hi,λi hi=>by rw[qz];exact F.above i ae,hno,λi hi hs=>by obtain⟨r,hr⟩:=F.rel i hi hs;exact⟨r,hrel i hi hs r hr⟩,by rw[hsz];exact Ro⟩
 ·by_cases e:i=h
  ·subst e;rw[hH]at h2;obtain rfl:=aP h2;rw[upd_same];exact(A.seat s h3).1
  ·rw[lg i e h1]at h2;rw[upd_ne q nh e];exact F.seat i g s e h2 (FY i s e h3)
 ·by_cases e:h=0
  ·rw[←e];exact A.main e
  ·rw[A.same 0 (bp e)];exact F.main e
 ·by_cases e:i+1=h
  ·have zh:=h2;rw[e,hH]at h2;obtain rfl:=aP h2;have pM:i<j:=(by have:=F.hlt;have:=F.size;omega);obtain⟨f1,f2⟩:=F.full i pM (.inr e);rw[e]at h3;refine .inl ⟨by simp[uL,e,h3],f1,f2,?_⟩;rw[e,upd_same];exact A.walk i e.symm h3 w' (c.sub _ hK)
  ·rw[lg _ e h1]at h2;rw[A.same _ e]at h3;rw[upd_ne q nh e];simp only[uL,if_neg e];refine(F.work i g e h2 h3).imp (λ⟨a,b,d,f⟩=>⟨a,b,d,je (λ_ _ _ _ x=>x) f (c.sub _ hK)⟩) (λ⟨a,b⟩=>⟨a,b.rely ?_⟩);exact⟨λb hb=>absurd hb (dV b),λ_=>⟨st,sm,hw'⟩,λ⟨cs,h1,h2⟩=>⟨cs,hdum.trans h1,h2⟩,cell_of_block hdum _⟩
 ·by_cases e:i+1=h
  ·exact F.full i hi (.inr e)
  ·by_cases ey:i+1=y
   ·exact F.full i hi (.inl (by rw[ey,FX];simp))
   ·refine F.full i hi (h1.imp (λz=>?_) (λz=>absurd z ey));rwa [A.same _ e]at z
 ·rw[hsz];by_cases e:i=h
  ·rw[e];exact F.hlt
  ·exact F.inR i s (FY i s e h1)
 ·by_cases e:i=h
  ·subst e;exact(A.seat s h1).2
  ·exact F.wf i s (FY i s e h1)
 ·by_cases e:i=h
  ·subst e;exact A.chans s b w' hK h2 h3
  ·obtain⟨h4,h5,h6⟩:=F.chans i s b e (FY i s e h2) h3;exact⟨hch b h4,h5,h6⟩
 ·by_cases e:i=h
  ·by_cases e':i'=h
   ·rw[e,e']
   ·subst e;exact absurd (A.apart i' s' s b e' (FY i' s' e' h4) h3 h6 h5) h7
  ·by_cases e':i'=h
   ·subst e';exact absurd (A.apart i s s' b e (FY i s e h3) h4 h5 h6) h7
   ·exact F.inj i i' s s' b e e' (FY i s e h3) (FY i' s' e' h4) h5 h6 h7
def Passed(c:CC)(y j b kj:Nat)(v:Value)(s:Seat)(g9:Nat->Option Seat)(tag:CTag)(w:World)(m:Machine)(t:Trace):Prop:=
 ∃gs' w₁ k sl' D' u' q' g₂,m=crowd gs' (w₁.setChan b 0 #[] false (k+1) (k+1) false) sl'/\RH c w w₁/\w₁.heap[b]? =some (.chan 0 #[] false k k false)/\gs'[y]? =some (Go.Conc.served g₂ (commResult s.cases s.shape kj v true))/\s.home g₂/\
  CF c y j 0 g9 tag D' u' q' t gs' (w₁.setChan b 0 #[] false (k+1) (k+1) false)
omit[Payload]in
theorem Rp(h j:Nat)(fh:FuncId)(ph:String)(fj:FuncId)(pj:String)(b k cap:Nat):∀op∈met h j fh ph fj pj b k cap,∀m,op.act≠.mark m:=by intro op hop m;simp only[met,List.mem_toArray,dM,pK,or_false]at hop;rcases hop with rfl|rfl|rfl|rfl<;>simp
omit[Payload]in
theorem Xb(h j:Nat)(fh:FuncId)(ph:String)(fj:FuncId)(pj:String)(b k cap:Nat):∀op∈met h j fh ph fj pj b k cap,op.g=h\/op.g=j:=by intro op hop;simp only[met,List.mem_toArray,dM,pK,or_false]at hop;rcases hop with rfl|rfl|rfl|rfl<;>simp
omit[Payload]in
theorem Led.met{S:Nat->Loc->Prop}{t:Trace}{j:Nat}(H:Led (λ_=>False) S X (λi=>Knows t h i) t)(hh:Deaf t h=0)(hj:Deaf t j=0)(fh:FuncId)(ph:String)(fj:FuncId)(pj:String)(b k:Nat):
  Led (λ_=>False) S X (λi=>Knows (t++met h j fh ph fj pj b k 0) j i) (t++met h j fh ph fj pj b k 0):=by
 have e0:(t++Go.Conc.met h j fh ph fj pj b k 0)[t.size]? =some {g:=h,fn:=fh,pos:=ph,act:=.send b k}:=by simp[Go.Conc.met]
 have e3:(t++Go.Conc.met h j fh ph fj pj b k 0)[t.size+3]? =some {g:=j,fn:=fj,pos:=pj,act:=.recvDone b k}:=by simp[Go.Conc.met]
 have edge:HappensBefore (t++Go.Conc.met h j fh ph fj pj b k 0) t.size (t.size+3):=Relation.TransGen.single (.inr ⟨.handOver (act?_of e0) (act?_of e3),⟨h,g?_of e0,by rw[deaf_old (aY _)];exact hh⟩,⟨j,g?_of e3,by rw[deaf_quiet (met_quiet _ _ _ _ _ _ _ _ _ j) 3 (by simp[Go.Conc.met])];exact hj⟩⟩);exact H.pass (met_mute _ _ _ _ _ _ _ _ _) (aY _) e0 rfl e3 rfl edge (λ_ _ h=>h) (λ_ _ h=>.inl h) (λ_ h=>h.elim)
theorem give(O:c.Ok)(nt:tag≠.blk){a₂:Goroutine}{z:Value}{cases:Array CommCase}{shape:CommShape}{es:Array Event}{sl:Option (Nat×Nat)}(hy:y≠h)(FX:Inb y=some s)(hkj:s.cases[kj]? =some (rcase b z))(hbg:b≠c.gone)(G:CI cases kk b v)
  (hrun:a.status=.running)(hsend:∀w₁,RH c w w₁->stepG c.P (h==0) a w₁=.comm a₂ cases true shape w₁ es)(hes:∀e∈es,W9 c e)
  (hothers:∀w,c.K w->∀(m b':Nat) (z':Value),cases[m]? =some (rcase b' z')->∃k:Nat,w.heap[b']? =some (Obj.chan 0 #[] false k k false))(hKc:∀(w:World) (k:Nat),c.K w->w.heap[b]? =some (Obj.chan 0 #[] false k k false)->c.K (w.setChan b 0 #[] false (k+1) (k+1) false))
  (A:After c h Inb g9 (Go.Conc.served a₂ (commResult cases shape kk undef false)) nh)(ha:gs[h]? =some a)(F:CF c h j 0 Inb tag D dt q T gs w):
  ∃N m' T',runNT c.P N (crowd gs w sl) T=(.next m',T')/\Passed c y j b kj v s g9 tag w m' T':=by
 have Xc:s.has b:=⟨kj,z,hkj⟩;have YP:=F.wf y s FX;have hu:∀(m:Nat) (cc:CommCase),m≠kj->s.cases[m]? =some cc->cc.chan≠.chan (some b):=by intro m cc hm hcc ec;obtain⟨c₂,Vn,rfl⟩:=YP.recvs cc (od hcc);simp only[rcase,Value.chan.injEq,cu]at ec;subst ec;exact hm (YP.apart m kj _ _ _ hcc hkj)
 suffices H:∀μ gs w₁ D dt q T sl (pk:Bool),(Uz j D dt,Qp j D q+if pk then 0 else 1)=μ->RH c w w₁->gs[h]? =some (if pk then parked a₂ cases shape else a)->(pk=true->0<q y)->CF c h j 0 Inb tag D dt q T gs w₁->
   ∃N m' T',runNT c.P N (crowd gs w₁ sl) T=(.next m',T')/\Passed c y j b kj v s g9 tag w m' T' from H _ gs w D dt q T sl false rfl (.refl c w) ha au F
 intro μ;induction μ using DO.induction with
 |_ μ ih=>
 intro gs w₁ D dt q T sl pk hμ hr ha Rq F;have Vo:=F.inR y s FX;obtain⟨gy,hgy⟩:∃gy,gs[y]? =some gy:=⟨gs[y]'Vo,dI Vo⟩;have hSy:=F.seat y gy s hy hgy FX;have hsome:∃(i:Nat) (g:Goroutine),gs[i]? =some g/\g.status=.running:=by
  cases pk with
  |false=>exact⟨h,a,ha,hrun⟩
  |true=>exact⟨y,gy,hgy,(Sits.status (c.sub _ F.keep) hSy).elim (·.1) (λz=>by have:=Rq rfl;omega)⟩
 obtain⟨i,g,d,sl',hi,hg,hst⟩:=crowd_pick (P:=c.P) (w:=w₁) (sl:=sl) (F.awake ha (by cases pk<;>simp[hrun,parked])) hsome;have Fd:=F.at O d;have hrd:RH c w (w₁.at d):=hr.trans (.at c w₁ d);generalize w₁.at d=w₂ at hst Fd hrd;obtain⟨⟨k,hcb⟩,Xd,hbC⟩:=Fd.chans y s b hy FX Xc;have hdh:Deaf T h=0:=by
  cases h with
  |zero=>exact Fd.deaf0
  |succ x=>rw[Fd.deafW x (by have:=Fd.hlt;have:=Fd.size;omega)];exact(Fd.full x (by have:=Fd.hlt;have:=Fd.size;omega) (.inr rfl)).2
 have hdy:Deaf T y=0:=by
  cases y with
  |zero=>exact Fd.deaf0
  |succ x=>rw[Fd.deafW x (by have:=Fd.size;omega)];exact(Fd.full x (by have:=Fd.size;omega) (.inl (by rw[FX];simp))).2
 have fin:∀(gs':Array Goroutine) (u:Array MemOp) (g₂:Goroutine) (YQ YR:FuncId) (YS YT:String),gs'.size=gs.size->(∀x,x≠h->x≠y->gs'[x]? =gs[x]?)->gs'[h]? =some (Go.Conc.served a₂ (commResult cases shape kk undef false))->gs'[y]? =some (Go.Conc.served g₂ (commResult s.cases s.shape kj v true))->s.home g₂->
   Led (λ_=>False) c.S (ShN c.Wg) (λi=>Knows (T++u) h i) (T++u)->(∀x,Deaf (T++u) x=Deaf T x)->(∀op∈u,op.act≠.mark (.release (stA c.Wg)))->(∀op∈u,op.g=h\/op.g=y)->
   Passed c y j b kj v s g9 tag w (crowd gs' (w₂.setChan b 0 #[] false (k+1) (k+1) false) sl') (T++(u++met h y YQ YS YR YT b k 0)):=by
  intro gs' u g₂ YQ YR YS YT hsz lg hH hJ FZ led Mu hno hg;have qz:∀x,Deaf (T++(u++met h y YQ YS YR YT b k 0)) x=Deaf T x:=λx=>by rw[←Array.append_assoc,Deaf_quiet (met_quiet _ _ _ _ _ _ _ _ _ x),Mu]
  refine⟨gs',w₂,k,sl',D,uL h g9 dt,upd q h nh,g₂,rfl,hrd,hcb,hJ,FZ,Fd.pass hy FX A hsz lg hH (hKc w₂ k Fd.keep hcb) (λb' ⟨k',xK⟩=>?_) (heap_setChan_ne w₂ _ _ _ _ _ _ Xd) (heap_setChan_ne w₂ _ _ _ _ _ _ hbC) ?_ qz (λop hop=>?_) (λop hop=>?_) (λi hi hs r hr=>?_)⟩
  ·by_cases e:b=b'
   ·exact⟨k+1,by rw[←e];exact heap_setChan_self w₂ hcb _ _ _ _ _ _⟩
   ·exact⟨k',by rw[heap_setChan_ne w₂ _ _ _ _ _ _ e];exact xK⟩
  ·rw[←Array.append_assoc];exact Led.met led (by rw[Mu];exact hdh) (by rw[Mu];exact hdy) _ _ _ _ _ _
  ·rcases fu.1 hop with h1|h1
   ·exact Fd.norel op h1
   ·rcases fu.1 h1 with h2|h2
    ·exact hno op h2
    ·exact Rp _ _ _ _ _ _ _ _ _ op h2 _
  ·rcases fu.1 hop with h1|h1
   ·exact Fd.who op h1
   ·have:op.g=h\/op.g=y:=(fu.1 h1).elim (hg op) (Xb _ _ _ _ _ _ _ _ _ op);have:=Fd.hlt;omega
  ·refine hr.appNot λop hop=>?_;have hne:i+1≠h/\i+1≠y:=by
    constructor
    ·intro e;have:=(Fd.full i hi (.inr e)).1;omega
    ·intro e;have:=(Fd.full i hi (.inl (by rw[e,FX];simp))).1;omega
   have:op.g=h\/op.g=y:=by
    rcases fu.1 hop with h2|h2
    ·exact hg op h2
    ·exact Xb _ _ _ _ _ _ _ _ _ op h2
   omega
 by_cases e:i=h
 ·
  subst e;cases pk with
  |true=>rw[ha]at hi;obtain rfl:=aP hi;cases hg
  |false=>
   obtain rfl:g=a:=(by rw[ha]at hi;exact(aP hi).symm);obtain⟨bC,hs,hno,qz⟩:=yK (c:=c) (i:=i) (fn:=g.frame.fn) (pos:=g.frame.place) hes;have hDH:FP c Inb i w₂ w₂ es:=⟨id,λ_ _ _ _ _ _=>rfl,rfl,rfl,hes⟩;have bT:∀(x:Nat) (t:Goroutine),x≠y->(gs.setIfInBounds i ph)[x]? =some t->offersAt t b false=[]:=by
    intro x t Mv ht;rcases getElem?_stand gs i x t ht with⟨_,rfl⟩|⟨hx,BD⟩
    ·exact offersAt_ph _ _
    ·exact Fd.YI hx BD λs' hs' hb'=>Mv (Fd.inj x y s' s b hx hy hs' FX hb' Xc hbg)
   have adx:∀(x:Nat) (t:Goroutine) (b':Nat),(gs.setIfInBounds i ph)[x]? =some t->offersAt t b' true=[]:=by
    intro x t b' ht;rcases getElem?_stand gs i x t ht with⟨_,rfl⟩|⟨hx,BD⟩
    ·exact offersAt_ph _ _
    ·exact Fd.noSend hx BD _
   have lg:∀(m:Nat) (c':CommCase),m≠kk->cases[m]? =some c'->NoWays w₂ (gs.setIfInBounds i ph) c':=(by intro m c' hm hc';obtain⟨b',z',rfl,_⟩:=G.oth m c' hm hc';obtain⟨k',xK⟩:=hothers w₂ Fd.keep m b' z' hc';exact ways_recv_none xK (partners_nil λx t ht=>adx x t b' ht));obtain⟨zz,Qo⟩:=G.at_;rcases hSy with⟨k',w₀,hq,hG⟩|⟨hq0,g₀,g₂,rfl,hat⟩
   ·
    have hyr:gy.status=.running:=(Sits.status (c.sub _ F.keep) (.inl ⟨k',w₀,hq,hG⟩)).elim (·.1) (λz=>ae);have hp:partners (gs.setIfInBounds i ph) b false=[]:=partners_nil λx t ht=>by
     by_cases Mv:x=y
     ·subst Mv;rw[stand_get hy hgy]at ht;obtain rfl:=aP ht;exact offersAt_of_not_blocked (by rw[hyr];simp) _ _
     ·exact bT x t Mv ht
    have hw:∀cc∈cases,NoWays w₂ (gs.setIfInBounds i ph) cc:=by
     intro cc hcc;obtain⟨m,hm⟩:=Array.mem_iff_getElem?.1 hcc;by_cases em:m=kk
     ·subst em;rw[Qo]at hm;obtain rfl:=aP hm;exact ways_send_none hcb (aY _) hp
     ·exact lg m cc em hm
    have hstep:=crowd_waits (sl:=sl') hi (hsend w₂ hrd) hw;obtain⟨N,m',T',hN,hP⟩:=ih _ (by rw[←hμ];exact Prod.Lex.right _ au) (gs.setIfInBounds i (parked a₂ cases shape)) w₂ D dt q _ sl' true rfl hrd (by simpa using fD Fd.hlt) (λ_=>ae)
     (Fd.abm (fn:=g.frame.fn) (pos:=g.frame.place) hDH au λx t hx ht=>by rwa [eH (λe=>hx e.symm)]at ht)
    exact⟨N+1,m',T',by rw[runNT_succ_next (hst.trans hstep)];exact hN,hP⟩
   ·
    have hp:partners (gs.setIfInBounds i ph) b false=[(y,kj)]:=(by rw[partners_one (stand_get hy hgy) λx t Mv ht=>bT x t Mv ht,offersAt_parked_at hkj hu];rfl);have hstep:=NP (sl:=sl') hi (hsend w₂ hrd) Qo lg hcb hy hgy hkj hp;refine⟨1,_,_,by rw[runNT_succ_next (hst.trans hstep)];rfl,?_⟩;refine fin _ _ g₂ _ _ _ _ au (λx hx Mv=>by rw[eH (λz=>hx z.symm),eH (λz=>Mv z.symm)]) (by rw[fD (by simpa using Fd.hlt),finishComm_served])
     (by rw[eH (bp hy),fD Vo,finishComm_served]) hat.2.2.2.2.1 (Fd.led.own bC hs (λ_ h=>h.elim)) (λx=>?_) hno (λop hop=>.inl (bC op hop))
    by_cases ex:x=i
    ·subst ex;exact qz T
    ·exact Deaf_other T (λz=>ex z.symm) _ bC
 ·by_cases ey:i=y/\pk=true/\∃g₂,AtIn c.P (i==0) c.K0 (c.S i) c.B s g g₂
  ·
   obtain⟨rfl,rfl,g₂,hat⟩:=ey;obtain⟨_,_,_,_,FZ,esj,ady,yv⟩:=hat;obtain⟨bC,Vp,hmk,hd⟩:=rM (i:=i) (fn:=g.frame.fn) (pos:=g.frame.place) ady;simp only[if_true]at ha;have hp:partners (gs.setIfInBounds i ph) b true=[(h,kk)]:=by
    rw[partners_one (stand_get (bp hy) ha) λx t Vi ht=>by
     rcases getElem?_stand gs i x t ht with⟨_,rfl⟩|⟨_,BD⟩
     ·exact offersAt_ph _ _
     ·exact Fd.noSend Vi BD _,G.on]
    rfl
   have ho:∀(m:Nat) (c':CommCase),m≠kj->s.cases[m]? =some c'->NoWays w₂ (gs.setIfInBounds i ph) c':=by
    intro m c' hm hc';obtain⟨c₂,Vn,rfl⟩:=YP.recvs c' (od hc');have hne:c₂≠b:=λec=>hu m _ hm hc' (by rw[ec];rfl);obtain⟨⟨k₂,abo⟩,_⟩:=Fd.chans i s c₂ hy FX ⟨m,Vn,hc'⟩;refine ways_recv_none abo (partners_nil λx t ht=>?_);rcases getElem?_stand gs i x t ht with⟨_,rfl⟩|⟨_,BD⟩
    ·exact offersAt_ph _ _
    ·by_cases Vi:x=h
     ·subst Vi;rw[ha]at BD;obtain rfl:=aP BD;exact G.off _ _ hne
     ·exact Fd.noSend Vi BD _
   obtain⟨zz,Qo⟩:=G.at_;have hstep:=NQ (sl:=sl') hi (yv _ (c.sub _ Fd.keep)) hkj ho hcb (bp hy) ha Qo hp;refine⟨1,_,_,by rw[runNT_succ_next (hst.trans hstep)];rfl,?_⟩;refine fin _ _ g₂ _ _ _ _ au (λx hx Mv=>by rw[eH (λz=>Mv z.symm),eH (λz=>hx z.symm)])
    (by rw[eH hy,fD Fd.hlt,finishComm_served]) (by rw[fD (by simpa using Vo),finishComm_served]) FZ
    (Fd.led.beside (λx=>Knows.app _) bC (λop hop b hb=>.inl ⟨(Vp op hop b hb).1,(Vp op hop b hb).2.1,(O.still i _ (Vp op hop b hb).2.1).2,(Vp op hop b hb).2.2⟩) (λ_ h=>h.elim)) (λx=>?_) (λop hop=>hmk op hop _) (λop hop=>.inr (bC op hop))
   by_cases ex:x=i
   ·subst ex;exact hd T
   ·exact Deaf_other T (λz=>ex z.symm) _ bC
  ·
   have fB:∀g' w',RH c w₂ w'->woken c.P g g' w' (if pk then parked a₂ cases shape else a)=(if pk then parked a₂ cases shape else a):=by
    intro g' w' NU;refine woken_of_again ?_;cases pk with
    |false=>exact again_running _ (.inl hrun)
    |true=>
     refine JK λcc hcc=>?_;obtain⟨m,hm⟩:=Array.mem_iff_getElem?.1 hcc;by_cases em:m=kk
     ·subst em;obtain⟨zz,Qo⟩:=G.at_;rw[Qo]at hm;obtain rfl:=aP hm;exact⟨b,0,#[],k,k,false,rfl,by rw[NU.block b Xd];exact hcb⟩
     ·obtain⟨b',z',rfl,_⟩:=G.oth m cc em hm;obtain⟨k',xK⟩:=hothers w' (O.keep _ _ NU.g Fd.keep) m b' z' hm;exact⟨b',0,#[],k',k',false,rfl,xK⟩
   obtain⟨gs',w',ops,bD,a',D',jf,q',hrt,ha',⟨rfl,rfl⟩,NU,F',hlt,hqo,hq0⟩:=Fd.by_step O (Hs:=λtg x _=>tg=tag/\x=(if pk then parked a₂ cases shape else a)) (sl:=sl') hi e hg ha ⟨rfl,rfl⟩
    (λg' w' NU=>⟨tag,.inl rfl,λ_ _=>nt,rfl,fB g' w' NU⟩) (λs' g₂ hs' hat b' hb'=>by
     cases pk with
     |false=>exact offersAt_of_not_blocked (by simp[hrun]) _ _
     |true=>refine G.off _ _ λeb=>?_;subst eb;have hiy:i=y:=Fd.inj i y s' s b' e hy hs' FX hb' Xc hbg;subst hiy;rw[FX]at hs';obtain rfl:=aP hs';exact ey ⟨rfl,rfl,g₂,hat⟩)
   have FO:Lt2 (Uz j D' jf,Qp j D' q'+if pk then 0 else 1) μ:=by
    rw[←hμ];rcases Prod.lex_def.1 hlt with h1|⟨h1,h2⟩
    ·exact Prod.lex_def.2 (.inl h1)
    ·exact Prod.lex_def.2 (.inr ⟨h1,by simp only at h2⊢;omega⟩)
   obtain⟨N,m',T',hN,hP⟩:=ih _ FO gs' w' D' jf q' (T++ops) sl' pk rfl (hrd.trans NU) ha' (λhp=>by
    by_cases hiy:i=y
    ·subst hiy;rcases jH (q' i)with h0|h0
     ·obtain⟨g₂,hat⟩:=hq0 s FX h0;exact absurd ⟨rfl,hp,g₂,hat⟩ ey
     ·exact h0
    ·rw[hqo y (bp hiy)];exact Rq hp) F'
   exact⟨N+1,m',T',by rw[runNT_succ_next (hst.trans hrt)];exact hN,hP⟩
end
end
section
open Go.Conc Go.ConcN
open Go.ConcR (KK WgAt stA smA Payload Aside2 DC0)
variable[Payload]
section
variable{P:Program}{K:World->Prop}{S S':Loc->Prop}{B:Nat}
omit[Payload]in
theorem ot(hS:∀l,S l->S' l)(hB:B<=B')(h:EvC S B e):EvC S' B' e:=by obtain⟨a,rfl,h1,h2⟩:=h;exact⟨a,rfl,hS _ h1,ae⟩
omit[Payload]in
theorem goes_mono{main:Bool}{D:World->World->Array Event->Prop}{Stop:Goroutine->World->Prop}(hR:∀a b,R' a b->R a b)(hD:∀a b es,D a b es->D' a b es):
  ∀{n:Nat} {g:Goroutine} {w:World},(∀g w₀ w,R' w₀ w->Stop g w->abp g w)->Goes P main R D Stop n g w->Goes P main R' D' abp n g w:=by
 intro n;induction n with
 |zero=>exact λhS h w₁ hr=>hS _ _ _ hr (h w₁ (hR _ _ hr))
 |succ n ih=>
  intro g w hS h;rcases h with h|⟨hs,h⟩
  ·exact .inl λw₁ hr=>hS _ _ _ hr (h w₁ (hR _ _ hr))
  ·refine .inr ⟨hs,λw₁ hr=>?_⟩;have:=h w₁ (hR _ _ hr);cases e:stepG P main g w₁ with
   |go g' w' es=>rw[e,goes_go]at this;rw[goes_go];exact⟨hD _ _ _ this.1,ih hS this.2⟩
   |_=>rw[e]at this;exact this.elim
omit[Payload]in
theorem CJ{main:Bool}{g g₂:Goroutine}(hK:∀w,K' w->K w)(hS:∀l,S l->S' l)(hB:B<=B')(h:AtIn P main K S B s g g₂):AtIn P main K' S' B' s g g₂:=by obtain⟨h1,h2,h3,h4,h5,es,h6,h7⟩:=h;exact⟨h1,h2,h3,h4,h5,es,λe he=>ot hS hB (h6 e he),λw hw=>h7 w (hK w hw)⟩
omit[Payload]in
theorem sits_mono{main:Bool}{n:Nat}{g:Goroutine}(hK:∀w,K' w->K w)(hS:∀l,S l->S' l)(hB:B<=B')(h:Sits P main K S B s n g):Sits P main K' S' B' s n g:=by
 rcases h with⟨k,w,hn,hg⟩|⟨hn,g₀,g₂,hg,ha⟩
 ·exact .inl ⟨k,w,hn,goes_mono (λ_ _ h=>hK _ h) (λ_ _ _ h=>⟨h.1,λe he=>ot hS hB (h.2 e he)⟩) (λ_ _ _ _ ⟨g₂,h⟩=>⟨g₂,CJ hK hS hB h⟩) hg⟩
 ·exact .inr ⟨hn,g₀,g₂,hg,CJ hK hS hB ha⟩
end
section
variable{j:Nat}{tag:CTag}{dt:Nat->Bool}{w:World}
theorem await(O:c.Ok)(nt:tag≠.blk)(hrun:a.status=.running){sl:Option (Nat×Nat)}(ha:gs[h]? =some a)(F:CF c h j d0 Inb tag D dt q T gs w):
  ∃N gs₁ w₁ sl₁ BF w₂ lZ D' jf q',runNT c.P N (crowd gs w sl) T=(.next (crowd gs₁ w₁ sl₁),BF)/\stepT c.P (crowd gs₁ w₁ sl₁)=runT c.P (crowd gs₁ w₂ lZ) h/\gs₁[h]? =some a/\RH c w w₂/\CF c h j d0 Inb tag D' jf q' BF gs₁ w₂:=by
 suffices H:∀μ gs w₁ D dt q T sl,(Uz j D dt,Qp j D q)=μ->RH c w w₁->gs[h]? =some a->CF c h j d0 Inb tag D dt q T gs w₁->
   ∃N gs₁ w₁' sl₁ BF w₂ lZ D' jf q',runNT c.P N (crowd gs w₁ sl) T=(.next (crowd gs₁ w₁' sl₁),BF)/\stepT c.P (crowd gs₁ w₁' sl₁)=runT c.P (crowd gs₁ w₂ lZ) h/\gs₁[h]? =some a/\RH c w w₂/\CF c h j d0 Inb tag D' jf q' BF gs₁ w₂ from
  H _ gs w D dt q T sl rfl (.refl c w) ha F
 intro μ;induction μ using DO.induction with
 |_ μ ih=>
  intro gs w₁ D dt q T sl hμ hr ha F;obtain⟨i,g,d,sl',hi,hg,hst⟩:=crowd_pick (P:=c.P) (w:=w₁) (sl:=sl) (F.awake ha (.inl hrun)) ⟨h,a,ha,hrun⟩;have Fd:=F.at O d;have hrd:RH c w (w₁.at d):=hr.trans (.at c w₁ d);by_cases e:i=h
  ·subst e;exact⟨0,gs,w₁,sl,T,_,sl',D,dt,q,rfl,hst,ha,hrd,Fd⟩
  ·obtain⟨gs',w',ops,bD,a',D',jf,q',hrt,ha',⟨rfl,rfl⟩,NU,F',hlt,_,_⟩:=Fd.by_step O (Hs:=λtg x _=>tg=tag/\x=a) (sl:=sl') hi e hg ha ⟨rfl,rfl⟩
    (λg' w' _=>⟨tag,.inl rfl,λ_ _=>nt,rfl,woken_of_again (again_running _ (.inl hrun))⟩) (λ_ _ _ _ b _=>offersAt_of_not_blocked (by rw[hrun];simp) _ _)
   obtain⟨N,gs₁,w₁',sl₁,BF,w₂,lZ,YU,YV,YW,hN,r⟩:=ih _ (hμ▸hlt) gs' w' D' jf q' (T++ops) sl' rfl (hrd.trans NU) ha' F';exact⟨N+1,gs₁,w₁',sl₁,BF,w₂,lZ,YU,YV,YW,by rw[runNT_succ_next (hst.trans hrt)];exact hN,r⟩
def CC.more(c:CC)(K' UA:World->Prop)(hs:∀w,K' w->UA w)(S':Nat->Loc->Prop)(B':Nat):CC:={c with K:=K',K0:=UA,sub:=hs,S:=S',B:=B'}
omit[Payload]in
theorem JL{r:Nat}{st:Int}(h:ConcN.Mode j D (.sp r 3) st sm):ConcN.Mode (j+1) (upd D j ⟨7,0,0⟩) .kd st sm:=by
 cases h with
 |opn h1 h2 h3=>
  have hv:Vc (j+1) (upd D j ⟨7,0,0⟩)=Vc j D+1:=by simp only[Vc,sumTo,upd_same];have:(sumTo j λi=>cnt (upd D j ⟨7,0,0⟩ i))=sumTo j λi=>cnt (D i):=sumTo_congr λi hi=>(by rw[upd_ne D _ ae]);rw[this];rfl
  have e:Vc j D+ConcN.pend (.sp r 3)=Vc (j+1) (upd D j ⟨7,0,0⟩) +ConcN.pend .kd:=by rw[hv];rfl
  rw[e];refine .opn trivial (λi hi=>?_) (λvs h=>bY);by_cases ei:i=j
  ·subst ei;rw[upd_same];exact .inl rfl
  ·rw[upd_ne D _ ei];exact h2 i ae
 |reg h1 _ _=>exact h1.elim
 |last L h1 _ _ _=>exact h1.elim
 |fin h1 _=>exact h1.elim
theorem spawn{hs0:∀w,K' w->UA w}{S':Nat->Loc->Prop}(hc':c'=c.more K' UA hs0 S' B')(O:c.Ok)(O':c'.Ok)(hB:c.B<=B')
  (hS1:∀g l,c.S g l->S' g l)(YG:∀g l,S' g l->c.S g l\/g=0\/g=j+1)(Xe:∀w,UA w->c.K0 w)
  {r n0:Nat}{a' child:Goroutine}{es:Array Event}{sl:Option (Nat×Nat)}(hrun:a.status=.running)(hsp:∀w₁,RH c w w₁->stepG c.P true a w₁=.spawn a' child w₁ es)(hes:∀e∈es,W9 c e)(hK':∀w₁,RH c w w₁->c.K w₁->K' w₁)
  (hsit:c'.Re 0 s0 n0 a')(YP:s0.Wf)(hch:∀b w,K' w->s0.has b->(∃k:Nat,w.heap[b]? =some (Obj.chan 0 #[] false k k false))/\b≠c.Wg/\b≠c.C)(hap:∀i s b,i≠0->Inb i=some s->s.has b->s0.has b->b=c.gone)
  (ha:gs[0]? =some a)(F:CF c 0 j 0 Inb (.sp r 3) D dt q T gs w):
  ∃N gs' w₁ sl' T' D' u' q',runNT c.P N (crowd gs w sl) T=(.next (crowd gs' w₁ sl'),T')/\RH c w w₁/\gs'[j+1]? =some child/\CF c' (j+1) (j+1) 0 (λx=>if x=0 then some s0 else Inb x) .kd D' u' q' T' gs' w₁:=by
 subst hc';obtain⟨N,gs,w₀,sl₁,T,w₁,lZ,D,dt,q,hN,hst,ha,hr,F⟩:=await O au hrun (sl:=sl) ha F;have hstep:=runT_crowd_spawn (P:=c.P) (sl:=lZ) ha (by simpa using hsp w₁ hr);have hsz:gs.size=j+1:=F.size;rw[hsz]at hstep;generalize hu0:MemOp.ofEvents 0 a.frame.fn a.frame.place es=u0 at hstep;generalize hx1:({g:=0,fn:=a.frame.fn,pos:=a.frame.place,act:=.go (j+1)}:MemOp)=x1 at hstep;generalize hx2:({g:=j+1,fn:=child.frame.fn,pos:=a.frame.place,act:=.start}:MemOp)=x2 at hstep;have eT:T++((u0.push x1).push x2)=(T++u0) ++ #[x1,x2]:=by rw[Array.push_eq_append,Array.push_eq_append,Array.append_assoc (xs:=u0),←Array.append_assoc (xs:=T)];rfl
 obtain⟨bC,hs,hno,qz⟩:=yK (c:=c) (i:=0) (fn:=a.frame.fn) (pos:=a.frame.place) hes;rw[hu0]at bC hs hno qz;have Mu:∀x,Deaf (T++u0) x=Deaf T x:=λx=>by
  by_cases ex:x=0
  ·subst ex;exact qz T
  ·exact Deaf_other T (λz=>ex z.symm) _ bC
 have NX:∀g,∀op∈(#[x1,x2]:Trace),∀d,deafStep g d op=d:=by intro g op hop d;subst hx1 hx2;simp only[List.mem_toArray,dM,pK,or_false]at hop;rcases hop with rfl|rfl<;>rfl
 have Xf:∀op∈(#[x1,x2]:Trace),op.act.touch? =none:=by intro op hop;subst hx1 hx2;simp only[List.mem_toArray,dM,pK,or_false]at hop;rcases hop with rfl|rfl<;>rfl
 have hg2:∀op∈(#[x1,x2]:Trace),op.g=0\/op.g=j+1:=by intro op hop;subst hx1 hx2;simp only[List.mem_toArray,dM,pK,or_false]at hop;rcases hop with rfl|rfl<;>simp
 have xI:∀op∈(#[x1,x2]:Trace),∀m,op.act≠.mark m:=by intro op hop;subst hx1 hx2;simp only[List.mem_toArray,dM,pK,or_false]at hop;rcases hop with rfl|rfl<;>simp
 have YX:∀x,Deaf (T++((u0.push x1).push x2)) x=Deaf T x:=λx=>by rw[eT,Deaf_quiet (NX x),Mu]
 have e0:((T++u0) ++ #[x1,x2])[(T++u0).size]? =some x1:=by rw[←Nat.add_zero (T++u0).size,at_new];rfl
 have e1:((T++u0) ++ #[x1,x2])[(T++u0).size+1]? =some x2:=by rw[at_new];rfl
 have a1:x1.act=.go (j+1):=by subst hx1;rfl
 have a2:x2.act=.start:=by subst hx2;rfl
 have g1:x1.g=0:=by subst hx1;rfl
 have g2:x2.g=j+1:=by subst hx2;rfl
 have hdj:Deaf (T++u0) (j+1)=0:=by rw[Mu];exact F.above (j+1) ae
 have edge:HappensBefore ((T++u0) ++ #[x1,x2]) (T++u0).size ((T++u0).size+1):=Relation.TransGen.single (.inr ⟨.spawn (by rw[act?_of e0,a1]) (by rw[act?_of e1,a2]) (by rw[g?_of e1,g2]),⟨0,by rw[g?_of e0,g1],by rw[deaf_old (aY _)];exact(Mu 0).trans F.deaf0⟩,⟨j+1,by rw[g?_of e1,g2],by rw[deaf_quiet (NX (j+1)) 1 au];exact hdj⟩⟩);have hled:=(F.led.own (BB:=λ_=>False) bC hs (λ_ h=>h.elim)).pass (BB:=λ_=>False) (S':=S') Xf (aY _) e0 g1 e1 g2 edge hS1 (λg l hl=>(YG g l hl).imp id λh=>⟨(O'.still g l hl).1,(O'.still g l hl).2,h⟩) (λ_ h=>h.elim);rw[←eT]at hled;have hKw:K' w₁:=hK' w₁ hr F.keep;have kr:∀x t,x≠0->x≠j+1->((gs.setIfInBounds 0 a').push child)[x]? =some t->gs[x]? =some t:=λx t h0 h1 ht=>by rw[cF]at ht;rw[if_neg bV,eH (λe=>h0 e.symm)]at ht;exact ht
 have hI:∀i s,i≠0->(if i=0 then some s0 else Inb i)=some s->Inb i=some s:=λi s h0 e=>by rwa [if_neg h0]at e
 obtain⟨st,sm,hw,hm⟩:=F.group;refine⟨N+1,(gs.setIfInBounds 0 a').push child,w₁,lZ,T++((u0.push x1).push x2),upd D j ⟨7,0,0⟩,upd dt j false,upd q 0 n0,by rw[runNT_add,hN];simp only[runNT,hst,hstep],hr,by rw[cF];simp[hsz],?_⟩;refine⟨by simp[hsz],by simp[hsz],λi g s h1 h2 h3=>?_,λ_=>au,λi g h1 h2 h3=>?_,λi hi h1=>?_,λi s h1=>?_,λi s h1=>?_,λi s b h1 h2 h3=>?_,λi i' s s' b h1 h2 h3 h4 h5 h6 h7=>?_,hKw,⟨st,sm,hw,JL hm⟩,?_,hled,by rw[YX];exact F.deaf0,λi hi=>?_,λi hi=>?_,λop hop=>?_,λi hi hst=>?_,λop hop=>?_⟩
 ·by_cases e:i=0
  ·subst e;simp only[if_true,cu]at h3;subst h3;have:g=a':=(by rw[cF,if_neg (by simp[hsz]),fD ae]at h2;exact(aP h2).symm);subst this;rw[upd_same];exact hsit
  ·rw[upd_ne q n0 e];exact sits_mono Xe (hS1 i) hB (F.seat i g s e (kr i g e h1 h2) (hI i s e h3))
 ·have pM:i<j:=by have:=(aQ.1 h2).1;simp[hsz]at this;omega
  have zh:=kr (i+1) g ae h1 h2;rw[if_neg ae]at h3;rw[upd_ne q n0 ae,upd_ne D _ ae];have eu:upd dt j false i=dt i:=by simp[upd,show i≠j by omega]
  rw[eu];refine(F.work i g ae zh h3).imp (λ⟨u1,u2,u3,u4⟩=>⟨u1,u2,u3,?_⟩) (λ⟨u1,u2⟩=>⟨u1,u2⟩);exact goes_mono (λ_ _ h=>Xe _ h) (λ_ _ _ h=>⟨h.1,λe he=>ot (hS1 (i+1)) hB (h.2 e he)⟩) (λ_ _ _ _ ⟨h1,m,h2⟩=>⟨h1,m,h2⟩) u4
 ·by_cases e:i=j
  ·subst e;rw[upd_same];exact⟨rfl,rfl⟩
  ·rw[upd_ne D _ e];refine F.full i ae (.inl ?_);rcases h1 with h1|h1
   ·rwa [if_neg ae]at h1
   ·omega
 ·by_cases e:i=0
  ·subst e;simp
  ·have:=F.inR i s (hI i s e h1);simp;omega
 ·by_cases e:i=0
  ·subst e;simp only[if_true,cu]at h1;subst h1;exact YP
  ·exact F.wf i s (hI i s e h1)
 ·by_cases e:i=0
  ·subst e;simp only[if_true,cu]at h2;subst h2;exact hch b w₁ hKw h3
  ·exact F.chans i s b e (hI i s e h2) h3
 ·by_cases e:i=0
  ·by_cases e':i'=0
   ·rw[e,e']
   ·subst e;simp only[if_true,cu]at h3;subst h3;exact absurd (hap i' s' b e' (hI i' s' e' h4) h6 h5) h7
  ·by_cases e':i'=0
   ·subst e';simp only[if_true,cu]at h4;subst h4;exact absurd (hap i s b e (hI i s e h3) h5 h6) h7
   ·exact F.inj i i' s s' b e e' (hI i s e h3) (hI i' s' e' h4) h5 h6 h7
 ·have:=F.pend;simp only[ConcN.pend]at this⊢;simp at this;omega
 ·rw[YX];by_cases e:i=j
  ·subst e;rw[upd_same];exact F.above _ ae
  ·rw[upd_ne D _ e];exact F.deafW i ae
 ·simp at hi;rw[YX];exact F.above i ae
 ·rw[eT]at hop;rcases fu.1 hop with h1|h1
  ·rcases fu.1 h1 with h2|h2
   ·exact F.norel op h2
   ·exact hno op h2
  ·exact xI op h1 _
 ·by_cases e:i=j
  ·subst e;rw[upd_same]at hst;simp at hst
  ·rw[upd_ne D _ e]at hst;obtain⟨r,hr⟩:=F.rel i ae hst;refine⟨r,?_⟩;rw[eT];refine(hr.appOther bC ae).appNot λop hop=>?_;have:=hg2 op hop;omega
 ·rw[eT]at hop;simp only[fV,xN,hsz];rcases fu.1 hop with h1|h1
  ·rcases fu.1 h1 with h2|h2
   ·have:=F.who op h2;omega
   ·rw[bC op h2];omega
  ·have:=hg2 op h1;omega
end
end
section
open Go.Conc Go.ConcN
open Go.ConcR (KK WgAt stA smA rd wr mk Payload Aside2 DC0)
variable[Payload]
def CC.Rd(c:CC):Nat->Loc->Prop:=λ_ l=>∃g,c.S g l
section
variable{j:Nat}{tag:CTag}{dt:Nat->Bool}{w:World}
omit[Payload]in
theorem RH.rc{w:World}(h:RH c w w₁):RC c.ty c.Wg c.C w w₁:=⟨⟨h.tape,h.os,h.output,h.size,λb _ h2=>h.block b h2⟩,h.live⟩
structure Vq(c:CC)(Inb:Nat->Option Seat)(Low:Nat):Prop where
 keep:∀w w',(∀b,b<Low->w'.heap[b]? =w.heap[b]?)->c.K w->c.K w'
 chans:∀i s b,i≠0->Inb i=some s->s.has b->b<Low
 wg:c.Wg<Low
 dum:c.C<Low
theorem Rs{j:Nat}(O:c.Ok)(hS0:j=0->∀g l,¬c.S g l)(h:Ev0 c.Wg BC c.Rd j e):W9 c e:=by
 refine⟨λx hx=>⟨λg hg=>?_,λhs=>?_⟩,h.2.1,h.2.2.1,h.2.2.2⟩
 ·rcases((h.1 0 "").2 x hx)with⟨h1,_⟩|⟨_,_,h3⟩
  ·exact absurd h1 (O.still g _ hg).2
  ·cases hw:x.write with
   |false=>rfl
   |true=>
    rcases jH j with h0|h0
    ·exact absurd hg (hS0 h0 g _)
    ·exact absurd ⟨g,hg⟩ (h3 hw 1 (aY _) h0)
 ·rcases((h.1 0 "").2 x hx)with⟨_,h2⟩|⟨h2,_⟩
  ·exact h2
  ·exact absurd hs h2
theorem dhc_of_dp{Low:Nat}(O:c.Ok)(L:Vq c Inb Low)(hS0:j=0->∀g l,¬c.S g l){w:World}{es:Array Event}(h:DP c.Wg BC c.Rd j Low w w' es):FP c Inb 0 w w' es:=⟨L.keep _ _ h.1,λi s b h1 h2 h3=>h.1 b (L.chans i s b h1 h2 h3),h.1 _ L.wg,h.1 _ L.dum,λe he=>Rs O hS0 (h.2 e he)⟩
omit[Payload]in
theorem qC{P:Program}{N:Nat}{m m':Machine}{t:Trace}{ops:Array MemOp}(h:runNT P N m t=(.next m1,t1))(h':stepT P m1=(.next m',ops)):runNT P (N+1) m t=(.next m',t1++ops):=by rw[runNT_add,h];simp only[runNT,h']
omit[Payload]in
theorem b9{P:Program}{N K:Nat}{m:Machine}{r:Stepped×Trace}{t:Trace}(h:runNT P N m t=(.next m1,t1))(h':runNT P K m1 t1=r):runNT P (N+K) m t=r:=by rw[runNT_add,h];exact h'
theorem wB(O:c.Ok)(nt:tag≠.blk){Stop:Goroutine->World->Prop}(hD:∀w w' es,zJ w w' es->FP c Inb h w w' es)(hSr:∀g w,Stop g w->g.status=.running)(hW:Walk c (h==0) zJ Stop a w)
  {sl:Option (Nat×Nat)}(ha:gs[h]? =some a)(F:CF c h j d0 Inb tag D dt q T gs w):
  ∃N gs₁ w₁ sl₁ BF w₂ lZ D' jf q' a',runNT c.P N (crowd gs w sl) T=(.next (crowd gs₁ w₁ sl₁),BF)/\stepT c.P (crowd gs₁ w₁ sl₁)=runT c.P (crowd gs₁ w₂ lZ) h/\gs₁[h]? =some a'/\(∀w₃,RH c w₂ w₃->Stop a' w₃)/\CF c h j d0 Inb tag D' jf q' BF gs₁ w₂:=by
 obtain⟨N,m',T',hN,gs₁,w₁,sl₁,a',D',u',q',rfl,ha',hS,F'⟩:=hold O nt hD hW (sl:=sl) ha F;obtain⟨N',abq,w₂,lZ,adz,w₃,abr,YU,YV,YW,hN',hst,abt,hr,adA⟩:=await O nt (hSr _ _ (hS _ (.refl c w₁))) (sl:=sl₁) ha' F';exact⟨N+N',abq,w₂,lZ,adz,w₃,abr,YU,YV,YW,a',by rw[runNT_add,hN];exact hN',hst,abt,λw₄ h₄=>hS _ (hr.trans h₄),adA⟩
theorem step0(O:c.Ok)(F:CF c 0 j d0 Inb tag D dt q T gs w){g:Goroutine}{es:Array Event}{sl:Option (Nat×Nat)}(hi:gs[0]? =some g)(hgo:stepG c.P true g w=.go g' w' es)(UB:RH c w w')(hdum:w'.heap[c.C]? =w.heap[c.C]?)
  (hgroup:∃st sm,WgAt c.ty c.Wg w' st sm/\ConcN.Mode j D bD st sm)(hpend:j+ConcN.pend bD<2147483648)(hes:∀e∈es,FT c e):
  ∃gs' ops,runT c.P (crowd gs w sl) 0=(.next (crowd gs' w' sl),ops)/\gs'[0]? =some g'/\CF c 0 j (deafBehind d0 es) Inb bD D dt q (T++ops) gs' w':=by
 refine⟨_,_,runT_crowd_go (sl:=sl) (i:=0) hi hgo,fD (by simpa using F.hlt),F.DT (O.keep _ _ UB.g) (λi s b h1 h2 h3=>?_) hdum hgroup hpend hes au λx y hx hy=>?_⟩
 ·obtain⟨_,h4,h5⟩:=F.chans i s b h1 h2 h3;exact UB.block b h4
 ·rw[eH (λe=>hx e.symm),lQ]at hy;obtain⟨adu,FQ,rfl⟩:=km.1 hy;rw[FQ,woken_of_again (F.Rf O hx FQ UB)]
omit[Payload]in
theorem Rt{r:Nat}{st:Int}(h:ConcN.Mode j D .kd st sm):∃v:Nat,st=(v:Int) *KK/\sm=0/\v<=j/\ConcN.Mode j D (.sp r 3) (((v:Nat) +1:Int) *KK) 0:=by
 cases h with
 |opn h1 h2 h3=>refine⟨Vc j D,by simp[ConcN.pend],rfl,Vc_le j D,?_⟩;have:=ConcN.Mode.opn (j:=j) (D:=D) (tag:=.sp r 3) trivial h2 (λvs h=>bY);simpa[ConcN.pend]using this
 |reg h1 _ _=>exact h1.elim
 |last L h1 _ _ _=>exact h1.elim
 |fin h1 _=>exact h1.elim
end
end
section
open Go Go.Conc Go.ConcN
open Go.ConcR (KK WgAt stA smA Payload Aside2 DC0)
variable[Payload]
structure l6(c:CC)(h b:Nat)(v:Value)(a:Goroutine)(w:World)(H':Goroutine):Prop where
 run:a.status=.running
 ex:∃(a₂:Goroutine) (kk:Nat) (cases:Array CommCase) (shape:CommShape),(∀w₁,RH c w w₁->stepG c.P (h==0) a w₁=.comm a₂ cases true shape w₁ #[])/\CI cases kk b v/\
  (∀w,c.K w->∀(m b':Nat) (z':Value),cases[m]? =some (rcase b' z')->∃k:Nat,w.heap[b']? =some (Obj.chan 0 #[] false k k false))/\H'=Go.Conc.served a₂ (commResult cases shape kk undef false)
omit[Payload]in
theorem l6.rely{w:World}(g:l6 c h b v a w H')(hr:RH c w w₁):l6 c h b v a w₁ H':=by obtain⟨h1,a₂,kk,cases,shape,h2,h4,h5,h6⟩:=g;exact⟨h1,a₂,kk,cases,shape,λw₂ h=>h2 w₂ (hr.trans h),h4,h5,h6⟩
section
variable{j y:Nat}{tag:CTag}{dt:Nat->Bool}{w:World}
def Xg(c:CC)(b:Nat):Prop:=b≠c.gone/\∀(w:World) (k:Nat),c.K w->w.heap[b]? =some (Obj.chan 0 #[] false k k false)->c.K (w.setChan b 0 #[] false (k+1) (k+1) false)
theorem Mw(O:c.Ok)(nt:tag≠.blk){z:Value}{sl:Option (Nat×Nat)}(hy:y≠h)(FX:Inb y=some s)(hkj:s.cases[kj]? =some (rcase b z))(hK:Xg c b)(G:l6 c h b v a w H')
  (A:After c h Inb g9 H' nh)(ha:gs[h]? =some a)(F:CF c h j 0 Inb tag D dt q T gs w):∃N m' T',runNT c.P N (crowd gs w sl) T=(.next m',T')/\Passed c y j b kj v s g9 tag w m' T':=by
 obtain⟨h1,a₂,kk,cases,shape,h2,h4,h5,rfl⟩:=G;exact give O nt hy FX hkj hK.1 h4 h1 h2 (λe he=>by simp at he) h5 hK.2 A ha F
end
end
section
open Go Go.Conc Go.ConcN
open Go.ConcR (KK WgAt stA smA Payload Aside2 DC0)
variable[Payload]
theorem xO{a r:World}(h:Sees N F a r)(hok:∀(b:Nat) o,N b->r.heap[b]? =some o->ej o=true):Rel (Hid N r) a r:=by
 have h0:=zK (N:=N) (F:=F) (r:=r) hok;refine⟨h.size,λb hb=>?_,λb hb=>?_,λb hb o ho=>?_,h.os,h.output⟩
 ·rw[h.get];exact h0.same b hb
 ·rw[h.get];exact h0.hid b hb
 ·rw[h.get]at ho;exact h0.objs b hb o ho
theorem seg{Stop:ι->Frame->List Frame->World->Prop}{j:Nat}{tag:CTag}{dt:Nat->Bool}{sl:Option (Nat×Nat)}
  (hR:∀H,S.Rows H c.P)(hB:S.iM c.P)(hL:S.nV)(hP:S.Plain c.P)(hcs:NE cs)(O:c.Ok)(nt:tag≠.blk)(V:Vm c h Inb N F bH)
  (hStop:∀i fr fs a τ,Stop i fr fs a->Stop i fr fs (aV a τ))(hJt:∀i fr fs a K τ,J i fr fs a K->J i fr fs (aV a τ) K)
  {i:ι}(hz:JD c.P J Stop i fr fs a₀)(hS:bQ c.P S fr fs)(fX:Sees N F a₀ bH)(W4:wz F bH)(hok:∀(b:Nat) o,N b->bH.heap[b]? =some o->ej o=true)
  (ha:gs[h]? =some (bh fr (fs++cs)))(Fm:CF c h j d0 Inb tag D dt q T gs bH):
  ∃n m' T',runNT c.P n (crowd gs bH sl) T=(.next m',T')/\∃gs' r' sl' aZ bz a' D' jf q',m'=crowd gs' r' sl'/\gs'[h]? =some (bh aZ (bz++cs))/\CH c.P J Stop i aZ bz a'/\bQ c.P S aZ bz/\tK c N F bH a' r'/\Rel (Hid N bH) a' r'/\CF c h j d0 Inb tag D' jf q' T' gs' r':=by
 have hrel:=xO fX hok;obtain⟨st,sm,hw,_⟩:=Fm.group;have YY:tK c N F bH a₀ bH:=⟨fX,W4,λ_=>Iff.rfl,aY _,Fm.keep,⟨st,sm,hw⟩,λ_ _ _=>rfl,λ_ _=>rfl,cJ _,rfl,rfl⟩;have B:=xM O V;let Q:Goroutine->World->Prop:=λg w=>∃aZ bz a',g=bh aZ (bz++cs)/\CH c.P J Stop i aZ bz a'/\bQ c.P S aZ bz/\tK c N F bH a' w/\Rel (Hid N bH) a' w;have hW:Walk c (h==0) (FP c Inb h) Q (bh fr (fs++cs)) bH:=Rl (hR _) hB hL hP B hStop hJt (λaZ bz a' r' hat hst hrel hl=>.stop λw₁ h₁=>by obtain⟨FW,hl1⟩:=B.others a' r' w₁ h₁ hrel hl;exact⟨aZ,bz,a',rfl,hat,hst,hl1,FW⟩) hz hS hrel YY;obtain⟨n,m',T',hN,gs',r',sl',g',D',jf,q',rfl,p9,hQ,F'⟩:=hold O nt (λ_ _ _ hd=>hd) hW (sl:=sl) ha Fm;obtain⟨aZ,bz,a',rfl,h1,h2,h3,h4⟩:=hQ r' (.refl c r');exact⟨n,_,T',hN,gs',r',sl',aZ,bz,a',D',jf,q',rfl,p9,h1,h2,h3,h4,F'⟩
structure aK where
 P:Program
 S:ba
 j:Nat
 base:Nat
 come:Nat
 gone:Nat
 Wg:Nat
 C:Nat
 B:Nat
 ty:TypeId
 turn:Nat->Nat
 W:Nat->Nat
 facts:Nat->List (Addr×Value)
 csC:Array Value
 eC:TypeId
 cs0:List Frame
 cw:Nat->List Frame
 ro:Nat->Option (Nat×Nat)
 fw:Nat->Nat->Option (Nat×Nat)
 fm:Nat->Option (Nat×Nat)
def fF(w:World)(b:Nat):Prop:=∃k:Nat,w.heap[b]? =some (Obj.chan 0 #[] false k k false)
def aK.K0(d:aK)(w:World):Prop:=WgLive d.ty d.Wg w/\(∀i,i<d.j->∀x∈d.facts i,w.cell? x.1=some x.2)/\w.heap[d.C]? =some (.cells d.csC d.eC (0,0))
structure bO where
 w0:World
def Kx[Inhabited bO](w:World):Prop:=∀(b:Nat) o,(default:bO).w0.heap[b]? =some o->ej o=false->w.heap[b]? =some o
variable[Inhabited bO]
theorem Kx.same{w:World}(h:Kx w)(hb:∀(b:Nat) o,w.heap[b]? =some o->ej o=false->w'.heap[b]? =some o):Kx w':=λb o h1 h2=>hb b o (h b o h1 h2) h2
def DV(w:World):Prop:=w.os=(default:bO).w0.os/\w.output=(default:bO).w0.output
theorem DV.same{w:World}(h:DV w)(ho:w'.os=w.os/\w'.output=w.output):DV w':=⟨ho.1.trans h.1,ho.2.trans h.2⟩
def aK.K(d:aK)(w:World):Prop:=d.K0 w/\fF w d.come/\fF w d.gone/\(∀i,i<d.j->fF w (d.turn i))/\Kx w
def aK.Sp(d:aK):Nat->Loc->Prop:=λg l=>∃i,g=i+1/\i<d.j/\∃x∈d.facts i,l=.cell x.1
def aK.cc(d:aK):CC:={P:=d.P,K:=d.K,K0:=d.K0,sub:=λ_ h=>h.1,S:=d.Sp,gone:=d.gone,ty:=d.ty,Wg:=d.Wg,n:=d.csC.size+1,B:=d.B,C:=d.C,val:=λ_=>undef}
structure aK.Ok(d:aK):Prop where
 cw:d.C≠d.Wg
 cg:d.come≠d.gone
 ct:∀i,i<d.j->d.come≠d.turn i
 gt:∀i,i<d.j->d.gone≠d.turn i
 tt:∀i i',i<d.j->i'<d.j->d.turn i=d.turn i'->i=i'
 wc:d.Wg≠d.come
 wg:d.Wg≠d.gone
 wt:∀i,i<d.j->d.Wg≠d.turn i
 wf:∀i,i<d.j->∀x∈d.facts i,x.1.block≠d.Wg
 roC:d.ro d.C=some (0,d.csC.size)
theorem uM{w:World}{cap:Nat}{buf:Array Value}{cl:Bool}{s r:Nat}(h:w.heap[x.block]? =some (.chan cap buf cl s r tm)):w.cell? x=none:=by simp[World.cell?,h]
theorem ln{d:aK}(O:d.Ok):d.cc.Ok:=by
 refine⟨λw w₁ hr hk=>?_,λw hk=>aw hk.1.2.2,O.cw,λw hk hp=>?_,λg l hl=>?_⟩
 ·obtain⟨⟨h1,h2,h3⟩,h4,h5,h6,hx⟩:=hk;have lL:Kx w₁:=hx.same λb o hb ho=>by rw[hr.block b (aw hb) (λe=>by obtain⟨st,sm,hw⟩:=h1;rw[e]at hb;have hw:w.heap[d.Wg]? =_:=hw;have hb:w.heap[d.Wg]? =some o:=hb;rw[hw]at hb;obtain rfl:=aP hb;cases ho)];exact hb
  have op:∀b,d.Wg≠b->fF w b->fF w₁ b:=λb hb ⟨k,hk⟩=>⟨k,by rw[hr.block b (aw hk) (bp hb)];exact hk⟩;refine⟨⟨hr.live h1,λi hi x hx=>?_,by rw[hr.block d.C (aw h3) O.cw];exact h3⟩,op _ O.wc h4,op _ O.wg h5,λi hi=>op _ (O.wt i hi) (h6 i hi),lL⟩;have h:=h2 i hi x hx;have e:w₁.heap[x.1.block]? =w.heap[x.1.block]? :=hr.block _ (iK h) (O.wf i hi x hx);rw[←h];simp only[World.cell?,e]
 ·obtain⟨cs,h1,h2⟩:=hp;have h3:w.heap[d.C]? =some (.cells d.csC d.eC (0,0)):=hk.1.2.2;rw[show d.cc.C=d.C from rfl,h3]at h1;simp only[cu,sL]at h1;rw[←h1.1]at h2;have:d.csC.size=d.csC.size+1:=h2;omega
 ·obtain⟨i,_,hi,x,hx,rfl⟩:=hl;exact⟨rfl,λ⟨a,h1,h2⟩=>by simp only[Loc.cell.injEq]at h1;subst h1;exact O.wf i hi x hx h2⟩
theorem ib{w:World}(h:w.heap[b]? =some (Obj.chan 0 #[] false k k false))(x:Nat):(w.setChan b 0 #[] false (k+1) (k+1) false).heap[x]? =if x=b then some (Obj.chan 0 #[] false (k+1) (k+1) false)else w.heap[x]? :=by
 by_cases e:x=b
 ·subst e;rw[if_pos rfl];exact heap_setChan_self w h _ _ _ _ _ _
 ·rw[if_neg e];exact heap_setChan_ne w _ _ _ _ _ _ (bp e)
theorem CK{d:aK}(O:d.Ok)(hg:b≠d.gone)(hw:d.Wg≠b):Xg d.cc b:=by
 refine⟨hg,λw k hk hb=>?_⟩;obtain⟨⟨h1,h2,h3⟩,h4,h5,h6,hx⟩:=hk;have lL:Kx (w.setChan b 0 #[] false (k+1) (k+1) false):=hx.same λy o hy ho=>by rw[ib hb,if_neg (λe=>by rw[e,hb]at hy;obtain rfl:=aP hy;cases ho)];exact hy
 have op:∀x,fF w x->fF (w.setChan b 0 #[] false (k+1) (k+1) false) x:=λx ⟨k',xK⟩=>by
  unfold fF;rw[ib hb];split
  ·exact⟨k+1,rfl⟩
  ·exact⟨k',xK⟩
 refine⟨⟨?_,λi hi x hx=>?_,?_⟩,op _ h4,op _ h5,λi hi=>op _ (h6 i hi),lL⟩
 ·obtain⟨st,sm,hst⟩:=h1;exact⟨st,sm,by show(w.setChan b 0 #[] false (k+1) (k+1) false).heap[d.Wg]? =_;rw[ib hb,if_neg hw];exact hst⟩
 ·have h:=h2 i hi x hx;have hne:x.1.block≠b:=λe=>by rw[uM (by rw[e];exact hb)]at h;cases h
  rw[←h];simp only[World.cell?,ib hb,if_neg hne]
 ·rw[ib hb,if_neg (λe=>by rw[e,hb]at h3;cases h3)];exact h3
structure aK.Eye(d:aK)(N:Nat->Prop)(F:Nat->Option (Nat×Nat))(bH:World):Prop where
 wg:¬N d.Wg
 come:¬N d.come
 gone:¬N d.gone
 turn:∀i,i<d.j->¬N (d.turn i)
 facts:∀i,i<d.j->∀x∈d.facts i,¬N x.1.block\/Fz F x.1
 C:F d.C=some (0,d.csC.size)
 fzn:∀b f,F b=some f->N b
 new:∀b,bH.heap.size<=b->N b/\F b=none
 bad:∀(b:Nat) o,N b->bH.heap[b]? =some o->ej o=true
def aK.pd(d:aK)(Inb:Nat->Option Seat):Prop:=∀i s b,Inb i=some s->s.has b->b=d.come\/b=d.gone\/∃k,k<d.j/\b=d.turn k
theorem wC{d:aK}(O:d.Ok)(E:d.Eye N F bH)(hI:d.pd Inb)(hK:d.K bH):Vm d.cc h Inb N F bH:=by
 obtain⟨⟨k1,k2,k3⟩,k4,k5,k6,kx⟩:=hK;have hop:∀b,fF bH b->¬N b->Hid N bH b:=λb ⟨k,hk⟩ hn=>⟨_,hk,rfl,hn⟩;have hcell:∀x v,bH.cell? x=some v->¬N x.block->Hid N bH x.block:=λx v hx hn=>by
  unfold World.cell? at hx;cases e:bH.heap[x.block]? with
  |none=>rw[e]at hx;simp at hx
  |some o=>rw[e]at hx;refine⟨o,e,?_,hn⟩;cases o<;>first|rfl|simp at hx
 refine⟨E.wg,.inr ⟨_,d.csC,d.eC,E.C,rfl,k3,aY _⟩,E.fzn,E.new,λi s b _ h2 h3=>?_,λr r' hk ho hh hz hwh=>?_,λg l hl=>?_⟩
 ·have ne:∀b,fF bH b->b≠d.C:=λb ⟨k,hk⟩ e=>by rw[e,k3]at hk;cases hk
  rcases hI i s b h2 h3 with rfl|rfl|⟨k,hk,rfl⟩
  ·exact⟨hop _ k4 E.come,bp O.wc,ne _ k4⟩
  ·exact⟨hop _ k5 E.gone,bp O.wg,ne _ k5⟩
  ·exact⟨hop _ (k6 k hk) (E.turn k hk),bp (O.wt k hk),ne _ (k6 k hk)⟩
 ·obtain⟨⟨h1,h2,h3⟩,h4,h5,h6,hx⟩:=hk;have lL:Kx r':=λb o hb hok=>by have h0:=kx b o hb hok;rw[hh b ⟨o,h0,(by cases o<;>first|rfl|cases hok),λhn=>by have:=E.bad b o hn h0;rw[hok]at this;cases this⟩];exact hx b o hb hok
  have op:∀b,fF bH b->¬N b->fF r b->fF r' b:=λb h0 hn ⟨k,hk⟩=>⟨k,by rw[hh b (hop b h0 hn)];exact hk⟩;refine⟨⟨?_,λi hi x hx=>?_,?_⟩,op _ k4 E.come h4,op _ k5 E.gone h5,λi hi=>op _ (k6 i hi) (E.turn i hi) (h6 i hi),lL⟩
  ·obtain⟨st,sm,hw⟩:=h1;obtain⟨st0,sm0,hw0⟩:=k1;exact⟨st,sm,(hh d.Wg ⟨_,hw0,rfl,E.wg⟩).trans hw⟩
  ·have h:=h2 i hi x hx;rcases E.facts i hi x hx with hn|hf
   ·rw[←h];have:=hh _ (hcell _ _ (k2 i hi x hx) hn);simp only[World.cell?,this]
   ·rw[hz _ hf];exact h
  ·rw[hwh d.C ⟨_,d.csC,d.eC,E.C,rfl,k3,aY _⟩];exact h3
 ·obtain⟨i,_,hi,x,hx,rfl⟩:=hl;refine⟨x.1,rfl,?_⟩;rcases E.facts i hi x hx with hn|hf
  ·exact .inl (hcell _ _ (k2 i hi x hx) hn)
  ·exact .inr hf
end
section
open Go Go.Conc Go.ConcN
open Go.ConcR (KK WgAt stA smA Payload Aside2 DC0)
inductive ZigC(P:Program)(main:Bool)(cs:List Frame){ι:Type}(J:dA ι)(Stop:ι->Frame->List Frame->World->Prop):ι->Frame->List Frame->World->Prop
 |mk {i:ι} {fr:Frame} {fs:List Frame} {a:World} (K:Frame->List Frame->World->ι->Frame->List Frame->World->Prop)
   (h1:uK P main cs (λaZ bz a'=>Stop i aZ bz a'\/J i aZ bz a' (K aZ bz a')) fr fs a)
   (h2:∀gD lf a1 i' aZ bz a',K gD lf a1 i' aZ bz a'->ZigC P main cs J Stop i' aZ bz a'):ZigC P main cs J Stop i fr fs a
def Vr(P:Program)(main:Bool)(cs:List Frame)(J:dA ι)(Stop:ι->Frame->List Frame->World->Prop)(i:ι)(fr:Frame)(fs:List Frame)(a:World):Prop:=Stop i fr fs a\/∃K,J i fr fs a K/\∀i' aZ bz a',K i' aZ bz a'->ZigC P main cs J Stop i' aZ bz a'
section
variable{P:Program}{main:Bool}{Stop:ι->Frame->List Frame->World->Prop}{i:ι}{a:World}
theorem ZigC.all(h:ZigC P main cs J Stop i fr fs a):uK P main cs (Vr P main cs J Stop i) fr fs a:=by
 cases h with
 |mk K h1 h2=>exact h1.bind λaZ bz a' h=>.stop (h.imp id λhj=>⟨_,hj,h2 aZ bz a'⟩)
theorem uN(h:uK P main cs (Vr P main cs J Stop i) fr fs a):ZigC P main cs J Stop i fr fs a:=by
 classical
 let good:Frame->List Frame->World->(ι->Frame->List Frame->World->Prop)->Prop:=λfr fs a K=>J i fr fs a K/\∀i' aZ bz a',K i' aZ bz a'->ZigC P main cs J Stop i' aZ bz a';let K:Frame->List Frame->World->ι->Frame->List Frame->World->Prop:=λfr fs a=>if h:∃K,good fr fs a K then Classical.choose h else λ_ _ _ _=>False
 have hK:∀fr fs a,(∃K,good fr fs a K)->good fr fs a (K fr fs a):=λfr fs a h=>by show good fr fs a (if h:∃K,good fr fs a K then Classical.choose h else λ_ _ _ _=>False);rw[dif_pos h];exact Classical.choose_spec h
 refine .mk K (h.bind λaZ bz a' h=>.stop (h.imp id λh=>(hK _ _ _ h).1)) λgD lf a1 i' aZ bz a' hk=>?_;by_cases h:∃K,good gD lf a1 K
 ·exact(hK _ _ _ h).2 _ _ _ _ hk
 ·have:(K gD lf a1 i' aZ bz a')=False:=by show(if h:∃K,good gD lf a1 K then Classical.choose h else λ_ _ _ _=>False) i' aZ bz a'=False;rw[dif_neg h]
  rw[this]at hk;exact hk.elim
theorem ZigC.walk(h:uK P main cs (λaZ bz a'=>ZigC P main cs J Stop i aZ bz a') fr fs a):ZigC P main cs J Stop i fr fs a:=uN (h.bind λ_ _ _ h=>h.all)
theorem ZigC.stop(h:Stop i fr fs a):ZigC P main cs J Stop i fr fs a:=uN (.stop (.inl h))
theorem ZigC.jump{K:ι->Frame->List Frame->World->Prop}(h:J i fr fs a K)(hn:∀i' aZ bz a',K i' aZ bz a'->ZigC P main cs J Stop i' aZ bz a'):ZigC P main cs J Stop i fr fs a:=uN (.stop (.inr ⟨K,h,hn⟩))
theorem NY(hJ:∀i fr fs a K,J i fr fs a K->J' i fr fs a K)(h:ZigC P main cs J Stop i fr fs a):ZigC P main cs J' Stop i fr fs a:=by
 induction h with
 |mk K h1 h2 ih=>exact .mk K (h1.bind λaZ bz a' h=>.stop (h.imp id (hJ _ _ _ _ _))) ih
theorem ZigC.along(C:ι->Frame->List Frame->World->Prop)
  (step:∀i fr fs a,ZigC P main cs (λi fr fs a K=>J i fr fs a K/\∀i' aZ bz a',K i' aZ bz a'->C i' aZ bz a') Stop i fr fs a->C i fr fs a)(h:ZigC P main cs J Stop i fr fs a):C i fr fs a:=by
 suffices H:ZigC P main cs (λi fr fs a K=>J i fr fs a K/\∀i' aZ bz a',K i' aZ bz a'->C i' aZ bz a') Stop i fr fs a from step _ _ _ _ H
 induction h with
 |mk K h1 h2 ih=>exact .mk K (h1.bind λaZ bz a' h=>.stop (h.imp id λhj=>⟨hj,λi' bo cj a2 hk=>step _ _ _ _ (ih aZ bz a' i' bo cj a2 hk)⟩)) λgD lf a1 i' aZ bz a' hk=>ih gD lf a1 i' aZ bz a' hk
end
theorem YZ[Payload]{Stop:ι->Frame->List Frame->World->Prop}{j:Nat}{tag:CTag}{dt:Nat->Bool}{sl:Option (Nat×Nat)}
  {main:Bool}(abu:(h==0)=main)(O:c.Ok)(nt:tag≠.blk)(V:Vm c h Inb N F bH)
  {i:ι}(hz:ZigC c.P main cs J Stop i fr fs a₀)(fX:Sees N F a₀ bH)(W4:wz F bH)(hok:∀(b:Nat) o,N b->bH.heap[b]? =some o->ej o=true)
  (ha:gs[h]? =some (bh fr (fs++cs)))(Fm:CF c h j d0 Inb tag D dt q T gs bH):
  ∃n m' T',runNT c.P n (crowd gs bH sl) T=(.next m',T')/\∃gs' r' sl' aZ bz a' D' jf q',m'=crowd gs' r' sl'/\gs'[h]? =some (bh aZ (bz++cs))/\Vr c.P main cs J Stop i aZ bz a'/\tK c N F bH a' r'/\Rel (Hid N bH) a' r'/\CF c h j d0 Inb tag D' jf q' T' gs' r':=by
 subst abu;have hrel:=xO fX hok;obtain⟨st,sm,hw,_⟩:=Fm.group;have YY:tK c N F bH a₀ bH:=⟨fX,W4,λ_=>Iff.rfl,aY _,Fm.keep,⟨st,sm,hw⟩,λ_ _ _=>rfl,λ_ _=>rfl,cJ _,rfl,rfl⟩;have B:=xM O V;let Q:Goroutine->World->Prop:=λg w=>∃aZ bz a',g=bh aZ (bz++cs)/\Vr c.P (h==0) cs J Stop i aZ bz a'/\tK c N F bH a' w/\Rel (Hid N bH) a' w;have hW:Walk c (h==0) (FP c Inb h) Q (bh fr (fs++cs)) bH:=hz.all (Hid N bH) (RH c) (FP c Inb h) Q (tK c N F bH) B (λaZ bz a' r' hat hrel hl=>.stop λw₁ h₁=>by obtain⟨FW,hl1⟩:=B.others a' r' w₁ h₁ hrel hl;exact⟨aZ,bz,a',rfl,hat,hl1,FW⟩) bH hrel YY;obtain⟨n,m',T',hN,gs',r',sl',g',D',jf,q',rfl,p9,hQ,F'⟩:=hold O nt (λ_ _ _ hd=>hd) hW (sl:=sl) ha Fm;obtain⟨aZ,bz,a',rfl,h1,h3,h4⟩:=hQ r' (.refl c r');exact⟨n,_,T',hN,gs',r',sl',aZ,bz,a',D',jf,q',rfl,p9,h1,h3,h4,F'⟩
end
section
open Go.Conc Go.ConcN
open Go.ConcR (KK WgAt stA smA rd wr mk Payload Aside2 DC0)
variable[Payload]
inductive K2 where
 |fl (s:Seat) (kg:Nat) (z:Value)|un|wg
def K2.num:K2->Nat
 |.fl _ _ _=>2
 |.un=>1
 |.wg=>0
abbrev CC.BG(c:CC)(i n:Nat)(g:Goroutine)(w:World):Prop:=Goes c.P false (RK c.K0) (λw w' es=>Uy w w'/\∀e∈es,EvC (c.S (i+1)) c.B e) (λg w=>g.status=.running/\∃m,c.Wk i 7 m 0 g w) n g w
theorem abv:∀{n:Nat} {g:Goroutine} {w:World},c.YH i n g w->c.BG i n g w:=by
 intro n;induction n with
 |zero=>exact λh=>eK h
 |succ n ih=>
  intro g w h;rcases h with h|⟨hs,h⟩
  ·exact eK h
  ·refine .inr ⟨hs,λw₁ hr=>?_⟩;have:=h w₁ hr;cases e:stepG c.P false g w₁ with
   |go g' w' es=>rw[e,goes_go]at this;rw[goes_go];exact⟨⟨this.1.1▸ .refl _,this.1.2⟩,ih this.2⟩
   |_=>rw[e]at this;exact this.elim
structure abw(c:CC)(i:Nat)(s:Seat)(kg:Nat)(z:Value)(n:Nat)(g:Goroutine)(w:World):Prop where
 goes:Goes c.P false (RK c.K0) (DS (c.S (i+1)) c.B) (λg _=>∃g₂,AtIn c.P false c.K0 (c.S (i+1)) c.B s g g₂) n g w
 wf:s.Wf
 case:s.cases[kg]? =some (rcase c.gone z)
 shut:∀w,c.K w->∃k r:Nat,w.heap[c.gone]? =some (Obj.chan 0 #[] true k r false)
 oth:∀w,c.K w->∀b,s.has b->b≠c.gone->∃k:Nat,w.heap[b]? =some (Obj.chan 0 #[] false k k false)
 next:∀g₂,s.home g₂->∃n',∀w,c.K0 w->c.BG i n' (Go.Conc.served g₂ (commResult s.cases s.shape kg z false)) w
def W2(c:CC)(i:Nat):K2->WD->Nat->Goroutine->World->Prop
 |.fl s kg z,d,n,g,w=>d.stage=7/\d.deaf=0/\abw c i s kg z n g w
 |.un,d,n,g,w=>d.stage=7/\d.deaf=0/\c.BG i n g w
 |.wg,d,_,g,w=>c.Wk i d.stage d.fuel d.deaf g w
structure JF(c:CC)(j d0:Nat)(tag:CTag)(D:Nat->WD)(kd:Nat->K2)(q:Nat->Nat)(T:Trace)(gs:Array Goroutine)(w:World):Prop where
 size:gs.size=j+1
 work:∀i,i<j->∃g,gs[i+1]? =some g/\W2 c i (kd i) (D i) (q i) g w
 keep:c.K w
 group:∃st sm,WgAt c.ty c.Wg w st sm/\ConcN.Mode j D tag st sm
 pend:j+pend tag<2147483648
 led:Led (λ_=>False) c.S (ShN c.Wg) (λi=>Knows T 0 i) T
 deaf0:Deaf T 0=d0
 deafW:∀i,i<j->Deaf T (i+1)=(D i).deaf
 above:∀i,gs.size<=i->Deaf T i=0
 norel:∀op∈T,op.act≠.mark (.release (stA c.Wg))
 rel:∀i,i<j->(D i).stage<=6->∃r,RelBy (stA c.Wg) T (i+1) r
 who:∀op∈T,op.g<gs.size
def muJ(j:Nat)(D:Nat->WD)(kd:Nat->K2):Nat:=(sumTo j λi=>(D i).stage) +sumTo j λi=>(kd i).num
def muF(j:Nat)(D:Nat->WD)(q:Nat->Nat):Nat:=(sumTo j λi=>(D i).fuel) +sumTo j q
section
variable{j:Nat}{tag:CTag}{kd:Nat->K2}{w:World}
theorem W2.rely{k:K2}{n:Nat}{g:Goroutine}{w:World}(h:W2 c i k d n g w)(hK:c.K w')(hr:RW c.ty c.Wg c.C c.n 0 i w w'):W2 c i k d n g w':=by
 cases k with
 |fl s kg z=>exact⟨h.1,h.2.1,⟨je (λ_ _ _ _ x=>x) h.2.2.goes (c.sub _ hK),h.2.2.wf,h.2.2.case,h.2.2.shut,h.2.2.oth,h.2.2.next⟩⟩
 |un=>exact⟨h.1,h.2.1,je (λ_ _ _ _ x=>x) h.2.2 (c.sub _ hK)⟩
 |wg=>exact iu.rely h hr
theorem W2.status{k:K2}{n:Nat}{g:Goroutine}{w:World}(h:W2 c i k d n g w)(hK:c.K w):g.status=.running\/g.status=.finished:=by
 cases k with
 |fl s kg z=>exact .inl (iB (λ_ _ x=>x.choose_spec.1) w (c.sub _ hK) h.2.2.goes)
 |un=>exact .inl (iB (λ_ _ x=>x.1) w (c.sub _ hK) h.2.2)
 |wg=>exact iu.status h
theorem JF.at(F:JF c j d0 tag D kd q T gs w)(O:c.Ok)(d:Nat):JF c j d0 tag D kd q T gs (w.at d):=⟨F.size,λi hi=>let⟨g,h1,h2⟩:=F.work i hi;⟨g,h1,h2.rely (O.keep _ _ (RH.at c w d).g F.keep) (RW.at w d)⟩,O.keep _ _ (RH.at c w d).g F.keep,F.group,F.pend,F.led,F.deaf0,F.deafW,F.above,F.norel,F.rel,F.who⟩
theorem JF.awake(F:JF c j d0 tag D kd q T gs w)(ha:gs[0]? =some a)(hs:a.status=.running\/a.status=.blocked):∀g∈gs,awake g:=by
 intro g hg;obtain⟨i,hi⟩:=Array.mem_iff_getElem?.1 hg;cases i with
 |zero=>rw[ha]at hi;obtain rfl:=aP hi;exact awake_of (hs.elim .inl λx=>.inr (.inl x))
 |succ i=>
  have hlt:i<j:=by have:=(aQ.1 hi).1;have:=F.size;omega
  obtain⟨g',p9,hw⟩:=F.work i hlt;rw[hi]at p9;obtain rfl:=aP p9;exact awake_of ((hw.status F.keep).elim .inl λx=>.inr (.inr x))
theorem JF.put(F:JF c j d0 tag D kd q T gs w)(O:c.Ok){ops:Array MemOp}{d':WD}{k':K2}(hi:i<j)(nt:ConcN.pend bD=ConcN.pend tag)
  (hsz:gs'.size=gs.size)(lg:∀x,x≠i->x<j->gs'[x+1]? =gs[x+1]?)(bf:gs'[i+1]? =some g')(bC:∀op∈ops,op.g=i+1)(hr:IJ c w w')(hC:∀x,x<j->x≠i->w'.cell? ⟨c.C,x,none⟩=w.cell? ⟨c.C,x,none⟩)
  (hW:W2 c i k' d' n' g' w')(hgroup:∃st sm,WgAt c.ty c.Wg w' st sm/\ConcN.Mode j (upd D i d') bD st sm)(hled:Led (λ_=>False) c.S (ShN c.Wg) (λi=>Knows (T++ops) 0 i) (T++ops))(hdW:Deaf (T++ops) (i+1)=d'.deaf)
  (hno:∀op∈ops,op.act≠.mark (.release (stA c.Wg)))(hrel:d'.stage<=6->∃r,RelBy (stA c.Wg) (T++ops) (i+1) r):JF c j d0 bD (upd D i d') (upd kd i k') (upd q i n') (T++ops) gs' w':=by
 have hK':=O.keep _ _ hr F.keep;obtain⟨st,sm,hw,hm⟩:=hgroup;refine⟨hsz.trans F.size,λx hx=>?_,hK',⟨st,sm,hw,hm⟩,by rw[nt];exact F.pend,hled,by rw[Deaf_other T (by omega:i+1≠0) _ bC];exact F.deaf0,λx hx=>?_,λx hx=>?_,λop hop=>?_,λx hx hs=>?_,λop hop=>by rw[hsz];exact(fu.1 hop).elim (F.who op) (λh=>by rw[bC op h];have:=F.size;omega)⟩
 ·by_cases e:x=i
  ·subst e;rw[upd_same,upd_same,upd_same];exact⟨g',bf,hW⟩
  ·obtain⟨g,h1,h2⟩:=F.work x hx;rw[upd_ne _ _ e,upd_ne _ _ e,upd_ne _ _ e];exact⟨g,by rw[lg x e hx];exact h1,h2.rely hK' ⟨λb hb=>absurd hb (dV b),λ_=>⟨st,sm,hw⟩,λhp=>absurd hp (O.pay _ F.keep),hC x hx e⟩⟩
 ·by_cases e:x=i
  ·subst e;rw[upd_same];exact hdW
  ·rw[upd_ne _ _ e,Deaf_other T (by omega:i+1≠x+1) _ bC];exact F.deafW x hx
 ·rw[hsz]at hx;have:=F.size;rw[Deaf_other T (by omega:i+1≠x) _ bC];exact F.above x hx
 ·rcases fu.1 hop with h1|h1
  ·exact F.norel op h1
  ·exact hno op h1
 ·by_cases e:x=i
  ·subst e;rw[upd_same]at hs;exact hrel hs
  ·rw[upd_ne _ _ e]at hs;obtain⟨r,hr⟩:=F.rel x hx hs;exact⟨r,hr.appOther bC ae⟩
def Moved2(c:CC)(j d0:Nat)(tag:CTag)(D:Nat->WD)(kd:Nat->K2)(q:Nat->Nat)(T:Trace)(gs:Array Goroutine)(w:World)(sl:Option (Nat×Nat))(Hs:CTag->Goroutine->World->Prop)(i:Nat)(a g:Goroutine):Prop:=
 ∃gs' w' ops bD a' D' Ru q',runT c.P (crowd gs w sl) (i+1)=(.next (crowd gs' w' sl),ops)/\gs'[0]? =some a'/\Hs bD a' w'/\(bD=tag\/(tag=.blk/\bD=.w3))/\(a'=a\/∃g',a'=woken c.P g g' w' a)/\IJ c w w'/\JF c j d0 bD D' Ru q' (T++ops) gs' w'/\
  ((muJ j D' Ru<muJ j D kd/\Vc j D'<=Vc j D)\/(muJ j D' Ru=muJ j D kd/\Vc j D'=Vc j D/\muF j D' q'<muF j D q))/\∀r,(∃p,T.act? p=some (.mark (.acquire r)))->∃p,(T++ops).act? p=some (.mark (.acquire r))
theorem JF.step(F:JF c j d0 tag D kd q T gs w)(O:c.Ok){g:Goroutine}{sl:Option (Nat×Nat)}(pM:i<j)(hi:gs[i+1]? =some g)(hrun:g.status=.running)(ha:gs[0]? =some a)
  (hH0:Hs tag a w)(hH:∀g' w',IJ c w w'->∃bD,(bD=tag\/(tag=.blk/\bD=.w3))/\(mayWake c.P g=true->g'.status=.running->bD≠.blk)/\Hs bD (woken c.P g g' w' a) w')(bT:∀b,offersAt a b true=[]):
  Moved2 c j d0 tag D kd q T gs w sl Hs i a g:=by
 have hlt:i+1<gs.size:=(aQ.1 hi).1;have hsz:=F.size;have Xh:∀(ops:Trace) r,(∃p,T.act? p=some (.mark (.acquire r)))->∃p,(T++ops).act? p=some (.mark (.acquire r)):=λops r ⟨p,hp⟩=>⟨p,by rw[act?_old (lt_of_act? hp)];exact hp⟩;have zI:∀(g':Goroutine) (w':World),IJ c w w'->(∀x,x≠i->x<j->((gs.map (woken c.P g g' w')).setIfInBounds (i+1) g')[x+1]? =gs[x+1]?)/\((gs.map (woken c.P g g' w')).setIfInBounds (i+1) g')[i+1]? =some g'/\((gs.map (woken c.P g g' w')).setIfInBounds (i+1) g')[0]? =some (woken c.P g g' w' a):=by
  intro g' w' hr;refine⟨λx hx hxj=>?_,fD (by simpa using hlt),?_⟩
  ·obtain⟨y,hy,hW⟩:=F.work x hxj;rw[eH ae,lQ,hy];simp[woken_of_again (again_running w' (hW.status F.keep))]
  ·rw[eH ae,lQ,ha];rfl
 obtain⟨g₀,Xi,hW⟩:=F.work i pM;rw[hi]at Xi;obtain rfl:=aP Xi;have Rv:∀(d':WD) (k':K2) (n':Nat),muJ j (upd D i d') (upd kd i k') +((D i).stage+(kd i).num)=muJ j D kd+(d'.stage+k'.num)/\Vc j (upd D i d') +cnt (D i)=Vc j D+cnt d'/\muF j (upd D i d') (upd q i n') +((D i).fuel+q i)=muF j D q+(d'.fuel+n'):=by
  intro d' k' n';have e1:(sumTo j λx=>(upd D i d' x).stage) +(D i).stage=(sumTo j λx=>(D x).stage) +d'.stage:=sumTo_upd D d' WD.stage pM;have e2:(sumTo j λx=>(upd D i d' x).fuel) +(D i).fuel=(sumTo j λx=>(D x).fuel) +d'.fuel:=sumTo_upd D d' WD.fuel pM;have e3:(sumTo j λx=>(upd kd i k' x).num) +(kd i).num=(sumTo j λx=>(kd x).num) +k'.num:=sumTo_upd kd k' K2.num pM;have e4:(sumTo j λx=>upd q i n' x) +q i=(sumTo j λx=>q x) +n':=by have:=sumTo_upd q n' id pM;simpa using this
  have e5:=Vc_upd D d' pM;refine⟨by simp only[muJ];omega,e5,?_⟩;simp only[muF];have e6:(sumTo j λx=>upd q i n' x)=sumTo j (upd q i n'):=rfl;have e7:(sumTo j λx=>q x)=sumTo j q:=rfl;omega
 have wg:∀m,c.Wk i (D i).stage m (D i).deaf g w->(m=(D i).fuel/\kd i=.wg\/1<=(kd i).num)->Moved2 c j d0 tag D kd q T gs w sl Hs i a g:=λm hw hm=>by
  obtain⟨st,sm,jR,gB⟩:=F.group;obtain⟨g',w',es,s',m',dd',CG,II,hgo,hA,qa,hdd,Jt,zH,Jv,yw,Jy,hle⟩:=Ms (kk:=i+1) O.away F.pend jR gB pM rfl hw hrun;have hr:IJ c w w':=(RH.FM hA ⟨_,_,Jt⟩).g;obtain⟨g1,g2,g3⟩:=zI g' w' hr;obtain⟨bD,t1,t2,t3⟩:=hH g' w' hr;have bC:∀op∈MemOp.ofEvents (i+1) g.frame.fn g.frame.place es,op.g=i+1:=λop hop=>by obtain⟨e,_,rfl⟩:=Go.Conc.mem_ofEvents hop;rfl
  have Bg:=F.deafW i pM;obtain⟨s1,s2,s3⟩:=Rv ⟨s',m',dd'⟩ .wg (q i);refine⟨_,w',_,bD,_,upd D i ⟨s',m',dd'⟩,upd kd i .wg,upd q i (q i),runT_crowd_go (sl:=sl) (i:=i+1) hi (by simpa using hgo),g3,t3,t1,.inr ⟨g',rfl⟩,hr,
   F.put O pM (lX t1) au g1 g2 bC hr (λx _ _=>cell_of_block (hA.block _ O.away) x) qa ⟨CG,II,Jt,zH bD t1 t2⟩ (F.led.beside (λx=>Knows.app _) bC (λop hop b hb=>.inr (by
    obtain⟨ev,Jz,rfl⟩:=Go.Conc.mem_ofEvents hop;rcases(Jv ev Jz).1 with h1|⟨x,h1,h2,h3⟩
    ·rw[h1]at hb;cases hb
    ·rw[h1]at hb;obtain rfl:=aP hb;exact⟨h2,h3,λg' p9=>(O.still g' _ p9).2 h2⟩)) (λ_ h=>h.elim)) (by rw[Deaf_own,Bg];exact hdd) (λop hop hm=>by
     obtain⟨ev,Jz,rfl⟩:=Go.Conc.mem_ofEvents hop;exact(Jv ev Jz).2 (by obtain⟨loc,wr,sy⟩:=ev;cases loc<;>simp_all [MemAct.ofEvent] <;>(split at hm<;>simp_all))) (λhs=>by
     obtain⟨r1,r2⟩:=yw T g.frame.fn g.frame.place Bg;by_cases h6:(D i).stage<=6
     ·obtain⟨r,hr⟩:=F.rel i pM h6;exact⟨r,r1 r h6 hr⟩
     ·refine r2 hs ?_;have:=FN hw;omega),?_,Xh _⟩
  have hz:K2.wg.num=0:=rfl;rw[hz]at s1;have c0:cnt (⟨s',m',dd'⟩:WD)<=cnt (D i):=by simp only[cnt];split<;>split<;>omega
  simp only at s1 s2 s3;rcases hm with⟨rfl,hk⟩|hk
  ·rw[hk,hz]at s1;rcases Jy with h1|⟨h1,h2⟩
   ·exact .inl ⟨ae,ae⟩
   ·have c1:cnt (⟨s',m',dd'⟩:WD)=cnt (D i):=(by simp only[cnt,h1]);exact .inr ⟨ae,ae,ae⟩
  ·exact .inl ⟨ae,ae⟩
 have quiet:∀(gs':Array Goroutine) (g':Goroutine) (w':World) (es:Array Event) (u:Array MemOp) (k':K2) (n':Nat) (bD:CTag) (a':Goroutine),Uy w w'->runT c.P (crowd gs w sl) (i+1)=(.next (crowd gs' w' sl),MemOp.ofEvents (i+1) g.frame.fn g.frame.place es++u)->(∀e∈es,EvC (c.S (i+1)) c.B e)->(∀op∈u,op.g=i+1/\op.act.touch? =none/\(∀m,op.act≠.mark m)/\∀gg d,deafStep gg d op=d)->gs'.size=gs.size->
   (∀x,x≠i->x<j->gs'[x+1]? =gs[x+1]?)->gs'[i+1]? =some g'->gs'[0]? =some a'->Hs bD a' w'->(bD=tag\/(tag=.blk/\bD=.w3))->(a'=a\/∃g',a'=woken c.P g g' w' a)->(D i).stage=7->(D i).deaf=0->W2 c i k' (D i) n' g' w'->(k'.num< (kd i).num\/(k'.num=(kd i).num/\n'<q i))->Moved2 c j d0 tag D kd q T gs w sl Hs i a g:=by
  intro gs' g' w' es u k' n' bD a' hgr hrt hes hu hsz' lg bf ha' hHs ht haa h7 qz qa hlt;obtain⟨bC,hr,hmk,hd⟩:=rM (i:=i+1) (fn:=g.frame.fn) (pos:=g.frame.place) hes;have hD:Deaf (T++(MemOp.ofEvents (i+1) g.frame.fn g.frame.place es++u)) (i+1)=Deaf T (i+1):=by rw[←Array.append_assoc,Deaf_quiet (λop hop d=>(hu op hop).2.2.2 (i+1) d),hd]
  obtain⟨s1,s2,s3⟩:=Rv (D i) k' n';obtain⟨st,sm,h1,h2⟩:=F.group;have eD:upd D i (D i)=D:=by funext x;by_cases e:x=i<;>simp[upd,e]
  have hCl:=O.cin _ F.keep;refine⟨gs',w',_,bD,a',upd D i (D i),upd kd i k',upd q i n',hrt,ha',hHs,ht,haa,hgr.g,F.put O pM (lX ht) hsz' lg bf (λop hop=>?_) hgr.g (λx _ _=>cell_of_block (hgr.block _ hCl) _) qa ⟨st,sm,(hgr.block _ (aw h1)).trans h1,by rw[eD];exact h2.retag ht⟩ ?_ (by rw[hD];exact F.deafW i pM) (λop hop=>?_) (λh6=>ae),?_,Xh _⟩
  ·rcases fu.1 hop with h|h
   ·exact bC op h
   ·exact(hu op h).1
  ·rw[←Array.append_assoc];exact(F.led.beside (BB:=λ_=>False) (λx=>Knows.app _) bC (λop hop b hb=>.inl ⟨(hr op hop b hb).1,(hr op hop b hb).2.1,(O.still _ _ (hr op hop b hb).2.1).2,(hr op hop b hb).2.2⟩) (λ_ h=>h.elim)).mute (λx=>Knows.app _) (λop hop=>(hu op hop).2.1) (λ_ h=>h.elim)
  ·rcases fu.1 hop with h|h
   ·exact hmk op h _
   ·exact(hu op h).2.2.1 _
  ·rcases hlt with h|⟨h,h'⟩
   ·exact .inl ⟨ae,ae⟩
   ·exact .inr ⟨ae,ae,ae⟩
 cases hk:kd i with
 |fl s kg z=>
  rw[hk]at hW;obtain⟨h7,qz,BH⟩:=hW;rcases jG BH.goes with cN|⟨n',sf,hstep⟩
  ·obtain⟨g₂,hat⟩:=cN w (c.sub _ F.keep);obtain⟨_,_,_,_,FZ,es,hes,yv⟩:=hat;obtain⟨kc,rc,hc⟩:=BH.shut w F.keep;have Vh:∀b,partners (gs.setIfInBounds (i+1) ph) b true=[]:=λb=>partners_nil λx t ht=>by
    rcases getElem?_stand gs (i+1) x t ht with⟨_,rfl⟩|⟨_,BD⟩
    ·exact offersAt_ph _ _
    ·cases x with
     |zero=>rw[ha]at BD;obtain rfl:=aP BD;exact bT b
     |succ x=>have hxj:x<j:=(by have:=(aQ.1 BD).1;omega);obtain⟨y,hy,hW⟩:=F.work x hxj;rw[BD]at hy;obtain rfl:=aP hy;exact offersAt_of_not_blocked (by rcases hW.status F.keep with e|e<;>rw[e] <;>simp) _ _
   have ho:∀(m:Nat) (c':CommCase),m≠kg->s.cases[m]? =some c'->NoWays w (gs.setIfInBounds (i+1) ph) c':=(by intro m c' hm hc';obtain⟨b,Vn,rfl⟩:=BH.wf.recvs c' (od hc');have hne:b≠c.gone:=λe=>(by subst e;exact hm (BH.wf.apart m kg _ _ _ hc' BH.case));obtain⟨kb,hb⟩:=BH.oth w F.keep b ⟨m,Vn,hc'⟩ hne;exact ways_recv_none hb (Vh b));have hrt:=crowd_sel_recv_closed (sl:=sl) (i:=i+1) hi (by simpa using yv w (c.sub _ F.keep)) BH.case ho hc (Vh _);obtain⟨n',sf⟩:=BH.next g₂ FZ;exact quiet _ _ w es _ .un n' tag a (.refl w) hrt hes (by intro op hop;simp at hop;subst hop;exact⟨rfl,rfl,au,λ_ _=>rfl⟩) au (λx hx hxj=>eH ae) (fD hlt) (by rw[eH ae];exact ha) hH0 (.inl rfl) (.inl rfl) h7 qz
    ⟨h7,qz,by rw[finishComm_served];exact sf w (c.sub _ F.keep)⟩ (.inl (by rw[hk];simp[K2.num]))
  ·obtain⟨g',w',es,hgo,⟨rfl,hes⟩,YJ⟩:=hstep w (c.sub _ F.keep);obtain⟨g1,g2,g3⟩:=zI g' w' (.refl c w');obtain⟨bD,t1,t2,t3⟩:=hH g' w' (.refl c w');exact quiet _ g' w' es #[] (.fl s kg z) n' bD _ (.refl w') (by rw[uG];exact runT_crowd_go (sl:=sl) (i:=i+1) hi (by simpa using hgo)) hes (by intro op hop;simp at hop) au g1 g2 g3 t3 t1 (.inr ⟨g',rfl⟩) h7 qz ⟨h7,qz,⟨YJ,BH.wf,BH.case,BH.shut,BH.oth,BH.next⟩⟩ (.inr ⟨by rw[hk],ae⟩)
 |un=>
  rw[hk]at hW;obtain⟨h7,qz,hgo⟩:=hW;rcases jG hgo with cN|⟨n',sf,hstep⟩
  ·obtain⟨_,m,hm⟩:=cN w (c.sub _ F.keep);exact wg m (by rw[h7,qz];exact hm) (.inr (by rw[hk];simp[K2.num]))
  ·obtain⟨g',w',es,Rj,⟨hgr,hes⟩,YJ⟩:=hstep w (c.sub _ F.keep);obtain⟨g1,g2,g3⟩:=zI g' w' hgr.g;obtain⟨bD,t1,t2,t3⟩:=hH g' w' hgr.g;exact quiet _ g' w' es #[] .un n' bD _ hgr (by rw[uG];exact runT_crowd_go (sl:=sl) (i:=i+1) hi (by simpa using Rj)) hes (by intro op hop;simp at hop) au g1 g2 g3 t3 t1 (.inr ⟨g',rfl⟩) h7 qz ⟨h7,qz,YJ⟩ (.inr ⟨by rw[hk],ae⟩)
 |wg=>rw[hk]at hW;exact wg _ hW (.inl ⟨rfl,hk⟩)
end
end
section
open Go Go.Conc Go.ConcN
open Go.ConcR (KK WgAt stA smA Payload Aside2 DC0)
variable[Payload]
variable[Inhabited bO]
structure qD where
 t:Nat
 a:World
instance:Coe qD Nat:=⟨qD.t⟩
structure dX where
 Inv:Nat->World->Prop
 G:World->World->Prop
 Foot:World->Nat->Prop
 WR:Nat->Nat->World->Prop
 Pub:Nat->World->Nat->Prop
 live:Nat->Nat->Prop
 sched:Nat->Nat
 may:Nat->Prop
def dX.next(u:dX)(i t t':Nat):Prop:=u.sched t'=i/\u.may t'/\∀s,t<s->s<t'->u.sched s≠i
structure dX.Ok(u:dX)(d:aK):Prop where
 inv:∀t w w',u.Inv t w->(∀b,u.Foot w b->w'.heap[b]? =w.heap[b]?)->u.Inv t w'/\∀b,u.Foot w' b↔u.Foot w b
 foot:∀t w b,u.Inv t w->u.Foot w b->(∃c e,w.heap[b]? =some (.cells c e (0,0)))/\d.ro b=none
 gsame:∀t w w',u.Inv t w->(∀b,u.Foot w b->w'.heap[b]? =w.heap[b]?)->u.G w w'
 gtrans:∀a b c,u.G a b->u.G b c->u.G a c
 wr:∀i t w w',u.WR i t w->(∀x:Addr,u.Pub i w x.block->w'.cell? x=w.cell? x)->u.WR i t w'/\∀b,u.Pub i w' b↔u.Pub i w b
 pubW:∀i t w,i<d.j->u.WR i t w->u.Pub i w (d.W i)
 idle:∀i t t' w,t<=t'->(∀s,t<s->s<=t'->u.sched s≠i)->(u.WR i t w->u.WR i t' w)/\(u.live i t'↔u.live i t)
def Mine(d:aK)(u:dX)(a:World)(b:Nat):Prop:=∃o,a.heap[b]? =some o/\o≠cI/\bU o=true/\¬u.Foot a b/\d.ro b=none
def gM(d:aK)(a:World)(b:Nat):Prop:=∃o,a.heap[b]? =some o/\o≠cI/\bU o=true/\(∀i,i<d.j->b≠d.W i)/\d.ro b=none
def aK.Fw(d:aK)(i:Nat):Nat->Option (Nat×Nat):=λb=>(d.fw i b).or (d.ro b)
def aK.Fm(d:aK):Nat->Option (Nat×Nat):=λb=>(d.fm b).or (d.ro b)
structure aK.Fit(d:aK):Prop where
 ok:d.Ok
 fwW:∀i,i<d.j->∃f,d.fw i (d.W i)=some f
 fwf:∀i,i<d.j->∀x∈d.facts i,∃f,d.fw i x.1.block=some f/\f.1<=x.1.off/\x.1.off<f.2
 fmW:∀b f,d.fm b=some f->f.1=0/\∃i,i<d.j/\b=d.W i
 Wfm:∀i,i<d.j->∃f,d.fm (d.W i)=some f
 ffm:∀i,i<d.j->∀x∈d.facts i,(∃f,d.fm x.1.block=some f/\f.1<=x.1.off/\x.1.off<f.2)\/∀i',i'<d.j->x.1.block≠d.W i'
 roC:∀i,d.fw i d.C=none
 rom:d.fm d.C=none
 ro0:∀b f,d.ro b=some f->f.1=0
 roW:∀i,i<d.j->d.ro (d.W i)=none
 rowg:d.ro d.Wg=none
 cs0:NE (d.cs0)
 csw:∀i,d.cw i≠[]
def aK.seat(d:aK)(i:Nat)(z1 z2:Value)(g:Goroutine):Seat:={cases:=#[rcase (d.turn i) z1,rcase d.gone z2],shape:=.select,home:=λx=>x=g}
def aK.told(d:aK)(i:Nat)(z1 z2:Value)(t:Nat):Value:=commResult #[rcase (d.turn i) z1,rcase d.gone z2] .select 0 (goInt ((t-d.base:Nat):Int)) true
structure adB(d:aK)(i:Nat)(z1 z2:Value)(fr:Frame)(fs:List Frame)(bo:Frame)(cj:List Frame):Prop where
 give:∃H' n v,(∀r,l6 d.cc (i+1) d.come v (bh fr (fs++d.cw i)) r H')/\d.cc.Re (i+1) (d.seat i z1 z2 (bh bo (cj++d.cw i))) n H'
 flee:∃n',∀w,d.K0 w->d.cc.BG i n' (Go.Conc.served (bh bo (cj++d.cw i)) (commResult #[rcase (d.turn i) z1,rcase d.gone z2] .select 1 z2 false)) w
def Xj(d:aK)(i:Nat)(fr:Frame)(fs:List Frame):Prop:=∃H' n v,(∀r,l6 d.cc (i+1) d.come v (bh fr (fs++d.cw i)) r H')/\∀w,d.K0 w->d.cc.YH i n H' w
structure MSpot(d:aK)(k t:Nat)(fr:Frame)(fs:List Frame)(bo:Frame):Prop where
 give:∃H0 n0,(∀r,l6 d.cc 0 (d.turn k) (goInt ((t-d.base:Nat):Int)) (bh fr (fs++d.cs0)) r H0)/\d.cc.Re 0 (Seat.one d.come (.int .i64 0) false λx=>x=bh bo (fs++d.cs0)) n0 H0
structure qE(u:dX)(a:World)(t:Nat)(a':World):Prop where
 size:a.heap.size<=a'.heap.size
 same:∀(b:Nat) o,a.heap[b]? =some o->o≠cI->¬u.Foot a b->a'.heap[b]? =some o/\¬u.Foot a' b
 inv:u.Inv t a'
 g:u.G a a'
structure DW(d:aK)(u:dX)(i:Nat)(t:qD)(a:World):Prop where
 g:u.G t.a a
 inv:u.Inv t a
 wr:u.WR i t a
 pub:∀b,u.Pub i a b->Mine d u a b
 fwm:∀b f,d.fw i b=some f->Mine d u a b/\∃c e,a.heap[b]? =some (.cells c e f)
def JW(d:aK)(u:dX)(i:Nat):dA qD:=λt fr fs a K=>DW d u i t a/\
 ((u.live i t/\∃z1 z2 bo cj,adB d i z1 z2 fr fs bo cj/\K=λ(t':qD) aZ bz a'=>t.t<t'.t/\u.next i t t'/\aZ=bo.finish (d.told i z1 z2 t')/\bz=cj/\qE u a (t'.t-1) a'/\t'.a=a')\/
  (¬u.live i t/\Xj d i fr fs/\K=λ_ _ _ _=>False))
structure Rest(d:aK)(u:dX)(i t:Nat)(a:World)(tp:Nat)(Inb:Nat->Option Seat)(r:World):Prop where
 le:tp<=t
 wait:∀s,tp<s->s<=t->u.sched s≠i
 size:a.heap.size<=r.heap.size
 own:∀b,Mine d u a b->a.heap[b]? =(r.heap[b]?).map (dJ (d.Fw i b))
 ro:∀b,d.ro b≠none->a.heap[b]? =(r.heap[b]?).map (dJ (d.Fw i b))
 see:∀(b:Nat) o,a.heap[b]? =some o->o≠cI->bU o=false->r.heap[b]? =some o
 fw:∀b f,d.fw i b=some f->Mine d u a b/\∃c e,r.heap[b]? =some (.cells c e (0,0))
 wr:u.WR i t r
 pub:∀b,u.Pub i r b->Mine d u a b
 go:u.live i t->∃z1 z2 bo cj,Inb (i+1)=some (d.seat i z1 z2 (bh bo (cj++d.cw i)))/\(∃n',∀w,d.K0 w->d.cc.BG i n' (Go.Conc.served (bh bo (cj++d.cw i)) (commResult #[rcase (d.turn i) z1,rcase d.gone z2] .select 1 z2 false)) w)/\
  ∀t' a',tp<t'->u.next i tp t'->qE u a (t'-1) a'->ZigC d.P false (d.cw i) (JW d u i) (λ_ _ _ _=>False) ⟨t',a'⟩ (bo.finish (d.told i z1 z2 t')) cj a'
 over:¬u.live i t->Inb (i+1)=none
 g:u.G a r
structure Between(d:aK)(u:dX)(t:Nat)(A:Nat->World)(tp:Nat->Nat)(M:Nat->Prop)(Inb:Nat->Option Seat)(r:World):Prop where
 inv:u.Inv t r
 rest:∀i,i<d.j->Rest d u i t (A i) (tp i) Inb r
 apart:∀i i' b,i<d.j->i'<d.j->Mine d u (A i) b->Mine d u (A i') b->i=i'
 foot:∀i b,i<d.j->Mine d u (A i) b->¬u.Foot r b
 far:∀i b,i<d.j->Mine d u (A i) b->b≠d.Wg/\b≠d.come/\b≠d.gone/\∀k,k<d.j->b≠d.turn k
 footg:∀b,u.Foot r b->b≠d.Wg
 m:∀b,M b->b<r.heap.size/\(∀i,i<d.j->¬Mine d u (A i) b)/\¬u.Foot r b/\d.ro b=none/\b≠d.Wg/\b≠d.come/\b≠d.gone/\∀k,k<d.j->b≠d.turn k
 rook:∀b f,d.ro b=some f->∃c e,r.heap[b]? =some (.cells c e (0,0))/\c.size<=f.2
 wok:∀i f,i<d.j->d.fm (d.W i)=some f->∃c e,r.heap[d.W i]? =some (.cells c e (0,0))/\c.size<=f.2
 oks:∀(b:Nat) o,(M b\/u.Foot r b\/d.ro b≠none\/∃i,i<d.j/\Mine d u (A i) b)->r.heap[b]? =some o->ej o=true
 chairs:d.pd Inb
 out:∀i,d.j<i->Inb i=none
 os:DV r
section
variable{d:aK}{u:dX}{tp:Nat->Nat}{r:World}
omit[Payload]in
theorem F0{o:Option Obj}{x:Obj}(h:some x=o.map (dJ f)):∃y,o=some y/\x=dJ f y:=by
 cases o with
 |none=>cases h
 |some y=>exact⟨y,rfl,aP h⟩
theorem Between.there(B:Between d u t A tp M Inb r)(hi:i<d.j)(h:Mine d u (A i) b):∃o,r.heap[b]? =some o/\bU o=true:=by have h0:=h;obtain⟨o,h1,h2,h3,h4,h5⟩:=h;have:=(B.rest i hi).own b h0;rw[h1]at this;obtain⟨y,hy,rfl⟩:=F0 this;exact⟨y,hy,by rw[←h3,om]⟩
theorem Between.keep(B:Between d u t A tp M Inb r)(X:d.Fit)(U:u.Ok d)(hK:d.K r)(hs:r.heap.size<=r'.heap.size)(hw:∀i b,i<d.j->Mine d u (A i) b->r'.heap[b]? =r.heap[b]?)(hro:∀b,d.ro b≠none->r'.heap[b]? =r.heap[b]?)(hf:∀b,u.Foot r b->r'.heap[b]? =r.heap[b]?)
  (hM:∀b,M' b->M b\/(r.heap.size<=b/\b<r'.heap.size/\d.ro b=none))(hm:∀b o,M' b->r'.heap[b]? =some o->ej o=true)(Vs:∀(b:Nat) x l,r.heap[b]? =some (.number x l)->r'.heap[b]? =some (.number x l))(JN:r'.os=r.os/\r'.output=r.output):Between d u t A tp M' Inb r':=by
 obtain⟨hinv,dK⟩:=U.inv t r r' B.inv hf;refine⟨hinv,λi hi=>?_,B.apart,λi b hi hb=>by rw[dK];exact B.foot i b hi hb,B.far,λb hb=>B.footg b ((dK b).1 hb),λb hb=>?_,λb f h=>?_,λi f hi h=>?_,λb o hb ho=>?_,B.chairs,B.out,B.os.same JN⟩
 ·have R:=B.rest i hi;have hc:∀x:Addr,u.Pub i r x.block->r'.cell? x=r.cell? x:=λx hx=>by simp only[World.cell?,hw i _ hi (R.pub _ hx)]
  obtain⟨h1,h2⟩:=U.wr i t r r' R.wr hc;refine⟨R.le,R.wait,cn R.size hs,λb hb=>by rw[hw i b hi hb];exact R.own b hb,λb hb=>by rw[hro b hb];exact R.ro b hb,λb o h1 h2 h3=>?_,λb f h=>?_,h1,λb hb=>R.pub b ((h2 b).1 hb),R.go,R.over,U.gtrans _ _ _ R.g (U.gsame t _ _ B.inv hf)⟩
  ·have:=R.see b o h1 h2 h3;cases o<;>first|exact Vs _ _ _ this|cases h3
  ·obtain⟨h3,h4⟩:=R.fw b f h;exact⟨h3,by rw[hw i b hi h3];exact h4⟩
 ·rcases hM b hb with h|⟨h1,h2,h3⟩
  ·obtain⟨h1,h2,h3,h4⟩:=B.m b h;exact⟨fp h1 hs,h2,by rw[dK];exact h3,h4⟩
  ·obtain⟨⟨⟨st,sm,k1⟩,k2,k3⟩,⟨_,k4⟩,⟨_,k5⟩,k6,_⟩:=hK;have out:∀(x:Nat) o,r.heap[x]? =some o->b≠x:=λx o hx e=>(by have:=aw hx;omega);refine⟨h2,λi hi UC=>?_,λUD=>?_,h3,out _ _ k1,out _ _ k4,out _ _ k5,λk hk=>by obtain⟨_,k7⟩:=k6 k hk;exact out _ _ k7⟩
   ·obtain⟨o,ho,_⟩:=B.there hi UC;exact out _ _ ho rfl
   ·rw[dK]at UD;obtain⟨⟨c,e,hc⟩,_⟩:=U.foot t r b B.inv UD;exact out _ _ hc rfl
 ·rw[hro b (by rw[h];simp)];exact B.rook b f h
 ·obtain⟨c,e,hc,hsz⟩:=B.wok i f hi h;obtain⟨f',hf'⟩:=X.fwW i hi;rw[hw i _ hi ((B.rest i hi).fw _ _ hf').1];exact⟨c,e,hc,hsz⟩
 ·rcases hb with hb|hb|hb|⟨i,hi,hb⟩
  ·exact hm b o hb ho
  ·rw[dK]at hb;rw[hf b hb]at ho;exact B.oks b o (.inr (.inl hb)) ho
  ·rw[hro b hb]at ho;exact B.oks b o (.inr (.inr (.inl hb))) ho
  ·rw[hw i b hi hb]at ho;exact B.oks b o (.inr (.inr (.inr ⟨i,hi,hb⟩))) ho
theorem Between.inb(B:Between d u t A tp M Inb r)(h:∀i,g9 (i+1)=Inb (i+1))(hc:d.pd g9):Between d u t A tp M g9 r:=by
 refine⟨B.inv,λi hi=>?_,B.apart,B.foot,B.far,B.footg,B.m,B.rook,B.wok,B.oks,hc,λi hi=>?_,B.os⟩
 ·have R:=B.rest i hi;refine⟨R.le,R.wait,R.size,R.own,R.ro,R.see,R.fw,R.wr,R.pub,λhl=>?_,λhl=>by rw[h];exact R.over hl,R.g⟩;rw[h];exact R.go hl
 ·obtain⟨i,rfl⟩:∃x,i=x+1:=⟨i-1,ae⟩;rw[h];exact B.out _ hi
def Nm(d:aK)(M:Nat->Prop)(r:World)(b:Nat):Prop:=M b\/(∃i,i<d.j/\b=d.W i)\/d.ro b≠none\/r.heap.size<=b
def Nw(d:aK)(u:dX)(a r:World)(b:Nat):Prop:=Mine d u a b\/u.Foot r b\/d.ro b≠none\/r.heap.size<=b
omit[Payload]in
theorem or_some{g x:Option (Nat×Nat)}(h:f.or g=some y):f=some y\/(f=none/\g=some y):=by cases f<;>simp_all
theorem Between.qF(B:Between d u t A tp M Inb r)(X:d.Fit)(hi:i<d.j):Mine d u (A i) (d.W i):=by obtain⟨f,hf⟩:=X.fwW i hi;exact((B.rest i hi).fw _ _ hf).1
theorem Between.abx(B:Between d u t A tp M Inb r)(X:d.Fit)(hK:d.K r):d.Eye (Nm d M r) d.Fm r:=by
 obtain⟨⟨⟨st,sm,k1⟩,k2,k3⟩,⟨_,k4⟩,⟨_,k5⟩,k6,_⟩:=hK;have ro:∀(x:Nat) o,r.heap[x]? =some o->(∀c e,o≠.cells c e (0,0))->d.ro x=none:=λx o hx hn=>by
  cases e:d.ro x with
  |none=>rfl
  |some f=>obtain⟨c,e',hc,_⟩:=B.rook x f e;rw[hx]at hc;exact absurd (aP hc) (hn c e')
 have no:∀(x:Nat) o,r.heap[x]? =some o->¬M x->(∀i,i<d.j->x≠d.W i)->d.ro x=none->¬Nm d M r x:=by
  rintro x o hx h1 h2 h3 (h|⟨i,hi,h⟩|h|h)
  ·exact h1 h
  ·exact h2 i hi h
  ·exact h h3
  ·have:=aw hx;omega
 refine⟨no _ _ k1 (λh=>(B.m _ h).2.2.2.2.1 rfl) (λi hi e=>(B.far i _ hi (B.qF X hi)).1 e.symm) X.rowg,no _ _ k4 (λh=>(B.m _ h).2.2.2.2.2.1 rfl) (λi hi e=>(B.far i _ hi (B.qF X hi)).2.1 e.symm) (ro _ _ k4 au),
  no _ _ k5 (λh=>(B.m _ h).2.2.2.2.2.2.1 rfl) (λi hi e=>(B.far i _ hi (B.qF X hi)).2.2.1 e.symm) (ro _ _ k5 au),λk hk=>?_,λi hi x hx=>?_,?_,λb f hf=>?_,λb hb=>⟨.inr (.inr (.inr hb)),?_⟩,λb o hb ho=>?_⟩
 ·obtain⟨_,k7⟩:=k6 k hk;exact no _ _ k7 (λh=>(B.m _ h).2.2.2.2.2.2.2 k hk rfl) (λi hi e=>(B.far i _ hi (B.qF X hi)).2.2.2 k hk e.symm) (ro _ _ k7 au)
 ·rcases X.ffm i hi x hx with⟨f,hf,h1,h2⟩|hn
  ·exact .inr ⟨f,by simp[aK.Fm,hf],h1,h2⟩
  ·left;obtain⟨f,hf,_⟩:=X.fwf i hi x hx;have hm:=((B.rest i hi).fw _ _ hf).1;obtain⟨o,ho,_⟩:=B.there hi hm;exact no _ _ ho (λh=>(B.m _ h).2.1 i hi hm) hn hm.choose_spec.2.2.2.2
 ·simp[aK.Fm,X.rom,X.ok.roC]
 ·rcases or_some (x:=none) hf with h|⟨_,h⟩
  ·obtain⟨_,i,hi,rfl⟩:=X.fmW b f h;exact .inr (.inl ⟨i,hi,rfl⟩)
  ·exact .inr (.inr (.inl (by rw[h];simp)))
 ·cases e:d.Fm b with
  |none=>rfl
  |some f=>
   rcases or_some (x:=none) e with h|⟨_,h⟩
   ·obtain⟨_,i,hi,rfl⟩:=X.fmW b f h;obtain⟨o,ho,_⟩:=B.there hi (B.qF X hi);have:=aw ho;omega
   ·obtain⟨c,e',hc,_⟩:=B.rook b f h;have:=aw hc;omega
 ·rcases hb with h|⟨i,hi,rfl⟩|h|h
  ·exact B.oks b o (.inl h) ho
  ·exact B.oks _ o (.inr (.inr (.inr ⟨i,hi,B.qF X hi⟩))) ho
  ·exact B.oks b o (.inr (.inr (.inl h))) ho
  ·have:=aw ho;omega
theorem Between.aby(B:Between d u t A tp M Inb r)(X:d.Fit)(U:u.Ok d)(hK:d.K r)(hk:k<d.j):d.Eye (Nw d u (A k) r) (d.Fw k) r:=by
 obtain⟨⟨⟨st,sm,k1⟩,k2,k3⟩,⟨_,k4⟩,⟨_,k5⟩,k6,_⟩:=hK;have ro:∀(x:Nat) o,r.heap[x]? =some o->(∀c e,o≠.cells c e (0,0))->d.ro x=none:=λx o hx hn=>by
  cases e:d.ro x with
  |none=>rfl
  |some f=>obtain⟨c,e',hc,_⟩:=B.rook x f e;rw[hx]at hc;exact absurd (aP hc) (hn c e')
 have foot:∀(x:Nat) o,r.heap[x]? =some o->(∀c e,o≠.cells c e (0,0))->¬u.Foot r x:=λx o hx hn h=>by obtain⟨⟨c,e',hc⟩,_⟩:=U.foot t r x B.inv h;rw[hx]at hc;exact absurd (aP hc) (hn c e')
 have no:∀(x:Nat) o,r.heap[x]? =some o->¬Mine d u (A k) x->¬u.Foot r x->d.ro x=none->¬Nw d u (A k) r x:=by
  rintro x o hx h1 h2 h3 (h|h|h|h)
  ·exact h1 h
  ·exact h2 h
  ·exact h h3
  ·have:=aw hx;omega
 have far:=λb=>B.far k b hk;refine⟨no _ _ k1 (λh=>(far _ h).1 rfl) (λh=>B.footg _ h rfl) X.rowg,no _ _ k4 (λh=>(far _ h).2.1 rfl) (foot _ _ k4 au) (ro _ _ k4 au),no _ _ k5 (λh=>(far _ h).2.2.1 rfl) (foot _ _ k5 au) (ro _ _ k5 au),λi hi=>?_,λi hi x hx=>?_,?_,λb f hf=>?_,λb hb=>⟨.inr (.inr (.inr hb)),?_⟩,λb o hb ho=>?_⟩
 ·obtain⟨_,k7⟩:=k6 i hi;exact no _ _ k7 (λh=>(far _ h).2.2.2 i hi rfl) (foot _ _ k7 au) (ro _ _ k7 au)
 ·obtain⟨f,hf,h1,h2⟩:=X.fwf i hi x hx;by_cases e:i=k
  ·subst e;exact .inr ⟨f,by simp[aK.Fw,hf],h1,h2⟩
  ·left;have hm:=((B.rest i hi).fw _ _ hf).1;obtain⟨o,ho,_⟩:=B.there hi hm;exact no _ _ ho (λh=>e (B.apart i k _ hi hk hm h)) (B.foot i _ hi hm) hm.choose_spec.2.2.2.2
 ·simp[aK.Fw,X.roC,X.ok.roC]
 ·rcases or_some (x:=none) hf with h|⟨_,h⟩
  ·exact .inl ((B.rest k hk).fw _ _ h).1
  ·exact .inr (.inr (.inl (by rw[h];simp)))
 ·cases e:d.Fw k b with
  |none=>rfl
  |some f=>
   rcases or_some (x:=none) e with h|⟨_,h⟩
   ·obtain⟨o,ho,_⟩:=B.there hk ((B.rest k hk).fw _ _ h).1;have:=aw ho;omega
   ·obtain⟨c,e',hc,_⟩:=B.rook b f h;have:=aw hc;omega
 ·rcases hb with h|h|h|h
  ·exact B.oks b o (.inr (.inr (.inr ⟨k,hk,h⟩))) ho
  ·exact B.oks b o (.inr (.inl h)) ho
  ·exact B.oks b o (.inr (.inr (.inl h))) ho
  ·have:=aw ho;omega
theorem Between.fzM(B:Between d u t A tp M Inb r):(∀b f,d.fm b=some f->∃i,i<d.j/\b=d.W i)->wz d.Fm r:=λh b f hf=>by
 rcases or_some (x:=none) hf with h1|⟨_,h1⟩
 ·obtain⟨i,hi,rfl⟩:=h b f h1;obtain⟨c,e,hc,_⟩:=B.wok i f hi h1;exact⟨c,e,hc⟩
 ·obtain⟨c,e,hc,_⟩:=B.rook b f h1;exact⟨c,e,hc⟩
theorem Between.fzW(B:Between d u t A tp M Inb r)(hk:k<d.j):wz (d.Fw k) r:=λb f hf=>by
 rcases or_some (x:=none) hf with h1|⟨_,h1⟩
 ·exact((B.rest k hk).fw _ _ h1).2
 ·obtain⟨c,e,hc,_⟩:=B.rook b f h1;exact⟨c,e,hc⟩
end
structure qG(d:aK)(M:Nat->Prop)(a r:World):Prop where
 size:a.heap.size<=r.heap.size
 own:∀b,M b->a.heap[b]? =r.heap[b]?
 ro:∀b,d.ro b≠none->a.heap[b]? =(r.heap[b]?).map (dJ (d.Fm b))
 see:∀(b:Nat) o,a.heap[b]? =some o->bU o=false->r.heap[b]? =some o
section
variable{d:aK}{u:dX}{tp:Nat->Nat}{a r:World}
omit[Payload]in
theorem dY(S:Sees N F a r)(h:a.heap[b]? =some o)(hp:o≠cI):∃y,r.heap[b]? =some y/\o=dJ (F b) y/\(bU o=true->N b):=by
 rw[S.get,dh]at h;cases e:r.heap[b]? with
 |none=>rw[e]at h;cases h
 |some y=>
  rw[e]at h;simp only[kS,cu]at h;split at h
  ·rename_i hn;refine⟨y,rfl,h.symm,λhx=>hn.resolve_right λhy=>?_⟩;rw[←h,om,hy]at hx;cases hx
  ·exact absurd h.symm hp
omit[Payload]in
theorem ou(h:bU o=false):dJ f o=o:=by cases o<;>first|(cases f<;>rfl)|cases h
omit[Payload]in
theorem sees_num(S:Sees N F a r)(h:a.heap[b]? =some o)(hn:bU o=false):r.heap[b]? =some o:=by
 obtain⟨y,hy,h1,_⟩:=dY S h (λe=>by rw[e]at hn;cases hn);rw[hy];have:bU y=false:=by rw[←om (f:=F b),←h1];exact hn
 rw[h1,ou this]
omit[Payload]in
theorem tL(h:r.heap[b]? =some o)(hn:bU o=true)(h2:¬N b):Hid N r b:=⟨o,h,hn,h2⟩
omit[Payload]in
theorem uO(X:d.Fit){f:Nat×Nat}(B:∃c e,r.heap[b]? =some (.cells c e (0,0))/\c.size<=f.2)(h:F b=some f)(h0:f.1=0):Whole F r b:=by obtain⟨c,e,hc,hs⟩:=B;exact⟨f,c,e,h,h0,hc,hs⟩
omit[Payload]in
theorem cell_chill(h:a.heap[x.block]? =(r.heap[x.block]?).map (dJ f)):r.cell? x=a.cell? x:=by
 simp only[World.cell?,h];cases e:r.heap[x.block]? with
 |none=>rfl
 |some o=>
  have:dJ f o=o\/∃c e g,o=.cells c e (0,0)/\dJ f o=.cells c e g:=by
   unfold dJ;split
   ·exact .inr ⟨_,_,_,rfl,rfl⟩
   ·exact .inl rfl
  rcases this with h|⟨c,e,g,rfl,h⟩
  ·simp only[kS,h]
  ·simp only[kS,h]
theorem Between.main(B:Between d u t A tp M Inb r)(X:d.Fit)(U:u.Ok d)(hK:d.K r)(L:tK d.cc (Nm d M r) d.Fm r a r')(R:Rel (Hid (Nm d M r) r) a r'):Between d u t A tp (gM d a) Inb r'/\qG d (gM d a) a r':=by
 have hro:∀b,d.ro b≠none->r'.heap[b]? =r.heap[b]? :=λb hb=>by
  obtain⟨f,hf⟩:=kU.1 hb;have Qq:d.fm b=none:=by
   cases e:d.fm b with
   |none=>rfl
   |some g=>obtain⟨_,i,hi,rfl⟩:=X.fmW b g e;rw[X.roW i hi]at hf;cases hf
  exact whole_same (uO X (B.rook b f hf) (by simp[aK.Fm,Qq,hf]) (X.ro0 b f hf)) (cJ r) L.shp λx hx=>L.cells x hx
 have hWi:∀i,i<d.j->r'.heap[d.W i]? =r.heap[d.W i]? :=λi hi=>by obtain⟨f,hf⟩:=X.Wfm i hi;exact whole_same (uO X (B.wok i f hi hf) (by simp[aK.Fm,hf]) (X.fmW _ f hf).1) (cJ r) L.shp λx hx=>L.cells x hx
 have hw:∀i b,i<d.j->Mine d u (A i) b->r'.heap[b]? =r.heap[b]? :=λi b hi hb=>by
  by_cases Xd:∃i',i'<d.j/\b=d.W i'
  ·obtain⟨i',hi',rfl⟩:=Xd;exact hWi i' hi'
  ·obtain⟨o,ho,hn⟩:=B.there hi hb;refine L.still b (tL ho hn ?_) (B.far i b hi hb).1;rintro(h|h|h|h)
   ·exact(B.m b h).2.1 i hi hb
   ·exact Xd h
   ·exact h hb.choose_spec.2.2.2.2
   ·have:=aw ho;omega
 have hf:∀b,u.Foot r b->r'.heap[b]? =r.heap[b]? :=λb hb=>by
  obtain⟨⟨c,e,hc⟩,hr⟩:=U.foot t r b B.inv hb;refine L.still b (tL hc rfl ?_) (B.footg b hb);rintro(h|⟨i,hi,rfl⟩|h|h)
  ·exact(B.m b h).2.2.1 hb
  ·exact B.foot i _ hi (B.qF X hi) hb
  ·exact h hr
  ·have:=aw hc;omega
 have hback:∀b,gM d a b->r'.heap[b]? =a.heap[b]? :=λb ⟨o,h1,h2,h3,h4,h5⟩=>by
  obtain⟨y,hy,h6,_⟩:=dY L.sees h1 h2;have:d.Fm b=none:=by
   cases e:d.Fm b with
   |none=>rfl
   |some f=>
    rcases or_some (x:=none) e with h|⟨_,h⟩
    ·obtain⟨_,i,hi,rfl⟩:=X.fmW b f h;exact absurd rfl (h4 i hi)
    ·rw[h5]at h;cases h
  rw[this]at h6;rw[h1,hy,h6];cases y<;>rfl
 refine⟨B.keep X U hK L.grow hw hro hf (λb ⟨o,h1,h2,h3,h4,h5⟩=>?_) (λb o hb ho=>?_) (λb x l h=>L.shp.2 _ _ _ h) L.same,L.sees.size▸aY _,λb hb=>(hback b hb).symm,λb hb=>?_,λb o h1 h2=>sees_num L.sees h1 h2⟩
 ·obtain⟨y,hy,_,hN⟩:=dY L.sees h1 h2;rcases hN h3 with h|⟨i,hi,h⟩|h|h
  ·exact .inl h
  ·exact absurd h (h4 i hi)
  ·exact absurd h5 h
  ·exact .inr ⟨h,aw hy,h5⟩
 ·rw[hback b hb]at ho;obtain⟨o',h1,h2,h3,_⟩:=hb;rw[h1]at ho;obtain rfl:=aP ho;refine R.objs b (λhh=>?_) o' h1;have:=(R.hid b hh).1;rw[h1]at this;exact h2 (aP this)
 ·rw[L.sees.need (.inr (.inr (.inl hb)))]
theorem Between.Y0(B:Between d u t A tp M Inb r)(X:d.Fit)(hk:k<d.j)(L:tK d.cc (Nw d u (A k) r) (d.Fw k) r a r'):∀b,d.ro b≠none->r'.heap[b]? =r.heap[b]? :=λb hb=>by
 obtain⟨f,hf⟩:=kU.1 hb;have hfw:d.fw k b=none:=by
  cases e:d.fw k b with
  |none=>rfl
  |some g=>have:=((B.rest k hk).fw _ _ e).1;rw[this.choose_spec.2.2.2.2]at hf;cases hf
 exact whole_same (uO X (B.rook b f hf) (by simp[aK.Fw,hfw,hf]) (X.ro0 b f hf)) (cJ r) L.shp λx hx=>L.cells x hx
theorem Between.F6(B:Between d u t A tp M Inb r)(U:u.Ok d)(hk:k<d.j):∀b,u.Foot r b->(fJ (Nw d u (A k) r) (d.Fw k) r).heap[b]? =r.heap[b]? :=λb hb=>by
 have h0:d.Fw k b=none:=by
  cases e:d.Fw k b with
  |none=>rfl
  |some f=>
   rcases or_some (x:=none) e with h|⟨_,h⟩
   ·exact absurd hb (B.foot k b hk ((B.rest k hk).fw b f h).1)
   ·rw[(U.foot t r b B.inv hb).2]at h;cases h
 rw[hide_need (.inr (.inl hb)),h0];cases r.heap[b]? with
 |none=>rfl
 |some o=>cases o<;>rfl
theorem Between.work(B:Between d u t A tp M Inb r)(X:d.Fit)(U:u.Ok d)(hK:d.K r)(hk:k<d.j)(L:tK d.cc (Nw d u (A k) r) (d.Fw k) r a r')(R:Rel (Hid (Nw d u (A k) r) r) a r')(hs:u.sched (t+1)=k)(AL:DW d u k ⟨t+1,fJ (Nw d u (A k) r) (d.Fw k) r⟩ a)
  (hInb:∀i,i≠k->g9 (i+1)=Inb (i+1))(hc:d.pd g9)
  (hgo:u.live k (t+1)->∃z1 z2 bo cj,g9 (k+1)=some (d.seat k z1 z2 (bh bo (cj++d.cw k)))/\(∃n',∀w,d.K0 w->d.cc.BG k n' (Go.Conc.served (bh bo (cj++d.cw k)) (commResult #[rcase (d.turn k) z1,rcase d.gone z2] .select 1 z2 false)) w)/\
   ∀t' a',t+1<t'->u.next k (t+1) t'->qE u a (t'-1) a'->ZigC d.P false (d.cw k) (JW d u k) (λ_ _ _ _=>False) ⟨t',a'⟩ (bo.finish (d.told k z1 z2 t')) cj a') (abz:¬u.live k (t+1)->g9 (k+1)=none):
  Between d u (t+1) (λi=>if i=k then a else A i) (λi=>if i=k then t+1 else tp i) M g9 r'/\∀a0,qG d M a0 r->qG d M a0 r':=by
 have E:=B.aby X U hK hk;have hro:=B.Y0 X hk L;have iP:∀b,Mine d u a b->Nw d u (A k) r b:=λb ⟨o,h1,h2,h3,_,_⟩=>by obtain⟨y,hy,_,hN⟩:=dY L.sees h1 h2;exact hN h3
 have DX:∀b,u.Foot a b->Nw d u (A k) r b:=λb hb=>by obtain⟨⟨c,e,h1⟩,h2⟩:=U.foot _ a b AL.inv hb;obtain⟨y,hy,_,hN⟩:=dY L.sees h1 (by simp[cI]);exact hN rfl
 have zN:∀b,u.Foot a b->r'.heap[b]? =a.heap[b]? :=λb hb=>by
  obtain⟨⟨c,e,h1⟩,h2⟩:=U.foot _ a b AL.inv hb;have:d.Fw k b=none:=by
   cases e:d.Fw k b with
   |none=>rfl
   |some f=>
    rcases or_some (x:=none) e with h|⟨_,h⟩
    ·exact absurd hb (AL.fwm b f h).1.choose_spec.2.2.2.1
    ·rw[h2]at h;cases h
  rw[L.sees.need (DX b hb),this];cases r'.heap[b]? with
  |none=>rfl
  |some o=>cases o<;>rfl
 obtain⟨hinv,dK⟩:=U.inv (t+1) a r' AL.inv zN;have BI:u.G a r':=U.gsame (t+1) _ _ AL.inv zN;have Rj:u.G r r':=U.gtrans _ _ _ (U.gtrans _ _ _ (U.gsame t _ _ B.inv (B.F6 U hk)) AL.g) BI;have DY:∀i b,i<d.j->i≠k->Mine d u (A i) b->¬Nw d u (A k) r b:=by
  rintro i b hi hik hb (h|h|h|h)
  ·exact hik (B.apart i k b hi hk hb h)
  ·exact B.foot i b hi hb h
  ·exact h hb.choose_spec.2.2.2.2
  ·obtain⟨o,ho,_⟩:=B.there hi hb;have:=aw ho;omega
 have hmN:∀b,M b->¬Nw d u (A k) r b:=by
  rintro b hb (h|h|h|h)
  ·exact(B.m b hb).2.1 k hk h
  ·exact(B.m b hb).2.2.1 h
  ·exact h (B.m b hb).2.2.2.1
  ·have:=(B.m b hb).1;omega
 have hw:∀i b,i<d.j->i≠k->Mine d u (A i) b->r'.heap[b]? =r.heap[b]? :=λi b hi hik hb=>by obtain⟨o,ho,hn⟩:=B.there hi hb;exact L.still b (tL ho hn (DY i b hi hik hb)) (B.far i b hi hb).1
 have hsome:∀i,i≠k->(if i=k then a else A i)=A i:=λi h=>if_neg h;have wD:(if k=k then a else A k)=a:=if_pos rfl;have Rw:∀b o,M b->r.heap[b]? =some o->bU o=true->r'.heap[b]? =some o:=λb o hb ho hn=>by rw[L.still b (tL ho hn (hmN b hb)) (B.m b hb).2.2.2.2.1];exact ho
 refine⟨⟨hinv,λi hi=>?_,λi i' b hi hi' h h'=>?_,λi b hi h=>?_,λi b hi h=>?_,λb hb=>?_,λb hb=>?_,λb f h=>?_,λi f hi h=>?_,λb o hb ho=>?_,hc,λi hi=>?_,B.os.same L.same⟩,λa0 MR=>⟨cn MR.size L.grow,λb hb=>?_,λb hb=>by rw[hro b hb];exact MR.ro b hb,λb o h1 h2=>?_⟩⟩
 ·by_cases e:i=k
  ·subst e;simp only[if_true];obtain⟨hwr,nv⟩:=U.wr i (t+1) a r' AL.wr λx hx=>cell_chill (L.sees.need (iP _ (AL.pub _ hx)));refine⟨aY _,λs h1 h2=>ae,L.sees.size▸aY _,λb hb=>L.sees.need (iP b hb),λb hb=>L.sees.need (.inr (.inr (.inl hb))),λb o h1 _ h3=>sees_num L.sees h1 h3,λb f h=>⟨(AL.fwm b f h).1,L.fz b f (by simp[aK.Fw,h])⟩,hwr,λb hb=>AL.pub b ((nv b).1 hb),hgo,abz,BI⟩
  ·simp only[if_neg e];have Ri:=B.rest i hi;obtain⟨id1,id2⟩:=U.idle i t (t+1) r ae λs h1 h2=>(by have:s=t+1:=ae;rw[this,hs];exact λh=>e h.symm);obtain⟨hwr,nv⟩:=U.wr i (t+1) r r' (id1 Ri.wr) λx hx=>(by obtain⟨_,h2⟩:=U.wr i t r r Ri.wr λ_ _=>rfl;simp only[World.cell?,hw i _ hi e (Ri.pub _ hx)]);refine⟨by have:=Ri.le;omega,λs h1 h2=>?_,cn Ri.size L.grow,λb hb=>by rw[hw i b hi e hb];exact Ri.own b hb,λb hb=>by rw[hro b hb];exact Ri.ro b hb,λb o h1 h2 h3=>?_,λb f h=>?_,hwr,λb hb=>Ri.pub b ((nv b).1 hb),λhl=>?_,λhl=>?_,U.gtrans _ _ _ Ri.g Rj⟩
   ·by_cases es:s=t+1
    ·rw[es,hs];exact λh=>e h.symm
    ·exact Ri.wait s h1 ae
   ·have:=Ri.see b o h1 h2 h3;cases o<;>first|exact L.shp.2 _ _ _ this|cases h3
   ·obtain⟨h3,h4⟩:=Ri.fw b f h;exact⟨h3,by rw[hw i b hi e h3];exact h4⟩
   ·rw[hInb i e];exact Ri.go (id2.1 hl)
   ·rw[hInb i e];exact Ri.over λh=>hl (id2.2 h)
 ·by_cases e:i=k<;>by_cases e':i'=k
  ·rw[e,e']
  ·subst e;rw[wD]at h;rw[hsome i' e']at h';exact absurd (iP b h) (DY i' b hi' e' h')
  ·subst e';rw[wD]at h';rw[hsome i e]at h;exact absurd (iP b h') (DY i b hi e h)
  ·rw[hsome i e]at h;rw[hsome i' e']at h';exact B.apart i i' b hi hi' h h'
 ·rw[dK];by_cases e:i=k
  ·subst e;rw[wD]at h;exact h.choose_spec.2.2.2.1
  ·rw[hsome i e]at h;exact λhf=>DY i b hi e h (DX b hf)
 ·by_cases e:i=k
  ·subst e;rw[wD]at h;have:=iP b h;exact⟨λe=>E.wg (e▸this),λe=>E.come (e▸this),λe=>E.gone (e▸this),λk' xK e=>E.turn k' xK (e▸this)⟩
  ·rw[hsome i e]at h;exact B.far i b hi h
 ·exact λe=>E.wg (e▸DX b ((dK b).1 hb))
 ·obtain⟨h1,h2,h3,h4⟩:=B.m b hb;refine⟨fp h1 L.grow,λi hi UC=>?_,λhf=>hmN b hb (DX b ((dK b).1 hf)),h4⟩;by_cases e:i=k
  ·subst e;rw[wD]at UC;exact hmN b hb (iP b UC)
  ·rw[hsome i e]at UC;exact h2 i hi UC
 ·rw[hro b (by rw[h];simp)];exact B.rook b f h
 ·obtain⟨c,e,hc,hsz⟩:=B.wok i f hi h;obtain⟨c',h1,h2⟩:=L.shp.1 _ _ _ _ hc;exact⟨c',e,h2,by rw[h1];exact hsz⟩
 ·rcases hb with hb|hb|hb|⟨i,hi,hb⟩
  ·obtain⟨y,hy⟩:∃y,r.heap[b]? =some y:=⟨_,dI (B.m b hb).1⟩;by_cases hn:bU y=true
   ·rw[Rw b y hb hy hn]at ho;obtain rfl:=aP ho;exact B.oks b y (.inl hb) hy
   ·cases y<;>first|exact absurd rfl hn|skip
    rw[L.shp.2 _ _ _ hy]at ho;obtain rfl:=aP ho;rfl
  ·obtain⟨⟨c,e,h1⟩,_⟩:=U.foot _ r' b hinv hb;rw[h1]at ho;obtain rfl:=aP ho;rfl
  ·rw[hro b hb]at ho;exact B.oks b o (.inr (.inr (.inl hb))) ho
  ·by_cases e:i=k
   ·subst e;rw[wD]at hb;have h1:=L.sees.need (iP b hb);rw[ho]at h1;obtain⟨o',h2,h3,_⟩:=hb;have:=R.objs b (λhh=>by have:=(R.hid b hh).1;rw[h2]at this;exact h3 (aP this)) _ h1;rwa [oh]at this
   ·rw[hsome i e]at hb;rw[hw i b hi e hb]at ho;exact B.oks b o (.inr (.inr (.inr ⟨i,hi,hb⟩))) ho
 ·obtain⟨x,rfl⟩:∃x,i=x+1:=⟨i-1,ae⟩;rw[hInb x ae];exact B.out _ hi
 ·rw[MR.own b hb];obtain⟨y,hy⟩:∃y,r.heap[b]? =some y:=⟨_,dI (B.m b hb).1⟩;by_cases hn:bU y=true
  ·rw[hy,Rw b y hb hy hn]
  ·cases y<;>first|exact absurd rfl hn|(rw[hy,L.shp.2 _ _ _ hy])
 ·have:=MR.see b o h1 h2;cases o<;>first|exact L.shp.2 _ _ _ this|cases h2
end
section
variable{d:aK}{u:dX}{tp:Nat->Nat}{a r:World}
theorem Between.chan(B:Between d u t A tp M Inb r)(X:d.Fit)(U:u.Ok d)(hK:d.K r){x:Nat}(hr:RH d.cc r w₁)(hx:w₁.heap[x]? =some (.chan 0 #[] false k k false))(hxW:x≠d.Wg)(hxc:x=d.come\/x=d.gone\/∃k,k<d.j/\x=d.turn k):
  Between d u t A tp M Inb (w₁.setChan x 0 #[] false (k+1) (k+1) false)/\∀a0,qG d M a0 r->qG d M a0 (w₁.setChan x 0 #[] false (k+1) (k+1) false):=by
 have tJ:r.heap[x]? =some (.chan 0 #[] false k k false):=by rw[←hr.block x hxW];exact hx
 have same:∀b,b≠d.Wg->b≠x->(w₁.setChan x 0 #[] false (k+1) (k+1) false).heap[b]? =r.heap[b]? :=λb h1 h2=>by rw[ib hx,if_neg h2];exact hr.block b h1
 have hM:∀b,M b->b≠d.Wg/\b≠x:=λb hb=>by
  obtain⟨_,_,_,_,h1,h2,h3,h4⟩:=B.m b hb;refine⟨h1,?_⟩;rcases hxc with rfl|rfl|⟨k',xK,rfl⟩
  ·exact h2
  ·exact h3
  ·exact h4 k' xK
 have hro:∀b,d.ro b≠none->(w₁.setChan x 0 #[] false (k+1) (k+1) false).heap[b]? =r.heap[b]? :=λb hb=>by obtain⟨f,hf⟩:=kU.1 hb;obtain⟨c,e,hc,_⟩:=B.rook b f hf;exact same b (λe=>by rw[e,X.rowg]at hf;cases hf) (λe=>by rw[e,tJ]at hc;cases hc)
 have Vs:∀(b:Nat) y l,r.heap[b]? =some (.number y l)->(w₁.setChan x 0 #[] false (k+1) (k+1) false).heap[b]? =some (.number y l):=λb y l hb=>by obtain⟨⟨⟨st,sm,k1⟩,_⟩,_⟩:=hK;rw[same b (λe=>by rw[e]at hb;exact absurd (hb.symm.trans k1) (by simp[Go.ConcR.wgBlock])) (λe=>by rw[e,tJ]at hb;cases hb)];exact hb
 have hsz:r.heap.size<=(w₁.setChan x 0 #[] false (k+1) (k+1) false).heap.size:=by
  have:(w₁.setChan x 0 #[] false (k+1) (k+1) false).heap.size=w₁.heap.size:=by simp[World.setChan]
  rw[this,hr.size];exact aY _
 refine⟨B.keep X U hK hsz (λi b hi hb=>?_) hro (λb hb=>?_) (λb hb=>.inl hb) (λb o hb ho=>?_) Vs ⟨hr.os,hr.output⟩,λa0 MR=>⟨cn MR.size hsz,λb hb=>?_,λb hb=>by rw[hro b hb];exact MR.ro b hb,λb o h1 h2=>?_⟩⟩
 ·obtain⟨h1,h2,h3,h4⟩:=B.far i b hi hb;refine same b h1 ?_;rcases hxc with rfl|rfl|⟨k',xK,rfl⟩
  ·exact h2
  ·exact h3
  ·exact h4 k' xK
 ·obtain⟨⟨c,e,hc⟩,_⟩:=U.foot t r b B.inv hb;exact same b (B.footg b hb) (λe=>by rw[e,tJ]at hc;cases hc)
 ·rw[same b (hM b hb).1 (hM b hb).2]at ho;exact B.oks b o (.inl hb) ho
 ·rw[same b (hM b hb).1 (hM b hb).2];exact MR.own b hb
 ·have:=MR.see b o h1 h2;cases o<;>first|exact Vs _ _ _ this|cases h2
omit[Payload]in
theorem Sees.norm(S:Sees N F a r)(hp:∀(b:Nat) o,N b->r.heap[b]? =some o->ej o=true)(h:∀(b:Nat) o,a.heap[b]? =some o->bU o=true->(o≠cI↔N' b)):Sees N' F a r:=by
 refine⟨S.size,S.os,S.output,λb=>?_⟩;have hb:=S.get b;rw[hb];rw[dh]at hb;rw[dh,dh];cases e:r.heap[b]? with
 |none=>rfl
 |some o=>
  rw[e]at hb;simp only[kS]at hb⊢;by_cases hn:bU o=false
  ·simp[hn]
  ·have sf:bU o=true:=(by simpa using hn);by_cases hN:N b
   ·simp only[hN,true_or,if_true]at hb⊢;have hne:dJ (F b) o≠cI:=λe'=>(by have:=hp b o hN e;rw[←oh (f:=F b),e']at this;cases this);have:=(h b _ hb (by rw[om];exact sf)).1 hne;simp[this]
   ·simp only[hN,false_or,hn,if_false]at hb⊢;have:¬N' b:=λhN'=>(h b _ hb rfl).2 hN' rfl;simp[this,sf]
omit[Payload]in
theorem Vt{g:Goroutine}(h:d.gone≠d.turn i):(d.seat i z1 z2 g).Wf:=by
 refine⟨λcc hc=>?_,λk m c z z' h1 h2=>?_⟩
 ·simp only[aK.seat,List.mem_toArray,dM,pK,or_false]at hc;rcases hc with rfl|rfl<;>exact⟨_,_,rfl⟩
 ·rcases k with _|_|k<;>rcases m with _|_|m<;>simp_all [aK.seat,rcase]
omit[Payload]in
theorem l7{g:Goroutine}(h:(d.seat i z1 z2 g).has b):b=d.turn i\/b=d.gone:=by obtain⟨k,z,h⟩:=h;rcases k with _|_|k<;>simp_all [aK.seat,rcase]
end
section
variable{d:aK}{u:dX}{tp:Nat->Nat}{a r:World}
theorem CF.K{j:Nat}{tag:CTag}{dt:Nat->Bool}{w:World}(F:CF c h j d0 Inb tag D dt q T gs w):c.K w:=F.keep
theorem Between.seats(B:Between d u t A tp M Inb r)(i:Nat)(s:Seat)(hs:Inb (i+1)=some s):∃(z1 z2:Value) (g:Goroutine),i<d.j/\s=d.seat i z1 z2 g:=by
 have hi:i<d.j:=by apply cY;intro hn;rw[B.out (i+1) ae]at hs;cases hs
 by_cases hl:u.live i t
 ·obtain⟨z1,z2,f2,s2,h1,_⟩:=(B.rest i hi).go hl;rw[hs]at h1;exact⟨z1,z2,_,hi,aP h1⟩
 ·rw[(B.rest i hi).over hl]at hs;cases hs
theorem Between.resume(B2:Between d u t A tp M Inb r)(U:u.Ok d)(hk:k<d.j):qE u (A k) t (fJ (Nw d u (A k) r) (d.Fw k) r):=by
 have Rk:=B2.rest k hk;have adC:∀b,u.Foot r b->d.Fw k b=none:=λb hb=>by
  cases e:d.Fw k b with
  |none=>rfl
  |some f=>
   rcases or_some (x:=none) e with h|⟨_,h⟩
   ·exact absurd hb (B2.foot k b hk (Rk.fw b f h).1)
   ·rw[(U.foot t r b B2.inv hb).2]at h;cases h
 obtain⟨Rx,zP⟩:=U.inv t r (fJ (Nw d u (A k) r) (d.Fw k) r) B2.inv λb hb=>by
  rw[hide_need (.inr (.inl hb)),adC b hb];cases r.heap[b]? with
  |none=>rfl
  |some o=>cases o<;>rfl
 refine⟨by rw[(dD _ _ _).size];exact Rk.size,λb o h1 h2 h3=>?_,Rx,U.gtrans _ _ _ Rk.g (U.gsame t _ _ B2.inv (B2.F6 U hk))⟩;have UD:∀c,(fJ (Nw d u (A k) r) (d.Fw k) r).heap[b]? =some c->(u.Foot r b->False)->(fJ (Nw d u (A k) r) (d.Fw k) r).heap[b]? =some c/\¬u.Foot (fJ (Nw d u (A k) r) (d.Fw k) r) b:=λc h h'=>⟨h,λh2=>h' ((zP b).1 h2)⟩;by_cases hn:bU o=true
 ·by_cases hr:d.ro b=none
  ·have hm:Mine d u (A k) b:=⟨o,h1,h2,hn,h3,hr⟩;refine UD o ?_ (B2.foot k b hk hm);rw[hide_need (.inl hm),←Rk.own b hm];exact h1
  ·refine UD o ?_ λhf=>hr (U.foot t r b B2.inv hf).2;rw[hide_need (.inr (.inr (.inl hr))),←Rk.ro b hr];exact h1
 ·have sf:bU o=false:=by simpa using hn
  have h4:=Rk.see b o h1 h2 sf;refine UD o ?_ λhf=>?_
  ·rw[dh,h4];simp[sf,ou sf]
  ·obtain⟨⟨c,e,hc⟩,_⟩:=U.foot t r b B2.inv hf;rw[h4]at hc;obtain rfl:=aP hc;cases sf
theorem line(X:d.Fit)(U:u.Ok d)(hk:k<d.j)(wE:u.sched (t+1)=k){wfr:Frame}{r2:World}
  (hI10:wG 0=some (Seat.one d.come (.int .i64 0) false λx=>x=bh bo (lf++d.cs0)))(B2:Between d u t A tp M wG r2)(MR2:qG d M a1 r2)(hg2:Rz[k+1]? =some (bh wfr (wfs++d.cw k)))
  (hzw:ZigC d.P false (d.cw k) (JW d u k) (λ_ _ _ _=>False) ⟨t+1,fJ (Nw d u (A k) r2) (d.Fw k) r2⟩ wfr wfs (fJ (Nw d u (A k) r2) (d.Fw k) r2))(F2:CF d.cc (k+1) d.j 0 wG .kd D2 abA q2 T2 Rz r2):
  ∃n m' T',runNT d.P n (crowd Rz r2 um) T2=(.next m',T')/\∃Qr r4 Qs D4 DZ q4 A' Y1 qH v',m'=crowd Qr r4 Qs/\Qr[0]? =some (bh (bo.finish v') (lf++d.cs0))/\CF d.cc 0 d.j 0 qH .kd D4 DZ q4 T' Qr r4/\Between d u (t+1) A' Y1 M qH r4/\qG d M a1 r4:=by
 have O:=X.ok;have OK:=ln O;have hK2:d.K r2:=F2.K;have Vu:=B2.chairs;have Y2:∀i s,i≠k->wG (i+1)=some s->∃(z1 z2:Value) (g:Goroutine),i<d.j/\s=d.seat i z1 z2 g:=λi s _ hs=>B2.seats i s hs;have adD:∀(b:Nat) o,Nw d u (A k) r2 b->r2.heap[b]? =some o->ej o=true:=λb o hb ho=>by
  rcases hb with h|h|h|h
  ·exact B2.oks _ o (.inr (.inr (.inr ⟨k,hk,h⟩))) ho
  ·exact B2.oks b o (.inr (.inl h)) ho
  ·exact B2.oks b o (.inr (.inr (.inl h))) ho
  ·have:=aw ho;omega
 obtain⟨n3,m3,T3,RA,gs3,r3,Vv,qp,se,a3,D3,Y4,q3,rfl,hg3,Y5,L3,R3,F3⟩:=YZ (sl:=um) au OK au (wC O (B2.aby X U hK2 hk) B2.chairs hK2) hzw (dD _ _ _) (B2.fzW hk) adD hg2 F2;have hK3:d.K r3:=F3.K;rcases Y5 with h|⟨K3,⟨AL,hJ3⟩,hC3⟩
 ·exact h.elim
 obtain⟨qH,H',nh,v',xP,afA,adE,BI,Y6,G3,A3⟩:∃(qH:Nat->Option Seat) (H':Goroutine) (nh:Nat) (v':Value),(∀i,i≠k+1->qH i=wG i)/\(∀s,qH (k+1)=some s->∃z1 z2 g,s=d.seat k z1 z2 g)/\d.pd qH/\
   (u.live k (t+1)->∃z1 z2 bo cj,qH (k+1)=some (d.seat k z1 z2 (bh bo (cj++d.cw k)))/\(∃n',∀w,d.K0 w->d.cc.BG k n' (Go.Conc.served (bh bo (cj++d.cw k)) (commResult #[rcase (d.turn k) z1,rcase d.gone z2] .select 1 z2 false)) w)/\
    ∀t' a',t+1<t'->u.next k (t+1) t'->qE u a3 (t'-1) a'->ZigC d.P false (d.cw k) (JW d u k) (λ_ _ _ _=>False) ⟨t',a'⟩ (bo.finish (d.told k z1 z2 t')) cj a')/\(¬u.live k (t+1)->qH (k+1)=none)/\(∀r,l6 d.cc (k+1) d.come v' (bh qp (se++d.cw k)) r H')/\After d.cc (k+1) wG qH H' nh:=by
  have Y7:∀(s':Seat),(∃z1 z2 g,s'=d.seat k z1 z2 g)->∀i s b,i≠k+1->wG i=some s->s.has b->s'.has b->b=d.gone:=by
   rintro _ ⟨z1,z2,g,rfl⟩ i s b hi hs hb hb';rcases l7 hb' with e|e
   ·rcases i with _|i
    ·rw[hI10]at hs;obtain rfl:=aP hs;exact absurd ((Seat.one_has.1 hb).symm.trans e) (O.ct k hk)
    ·obtain⟨_,_,_,pM,rfl⟩:=Y2 i s ae hs;rcases l7 hb with e'|e'
     ·exact absurd (O.tt i k pM hk (e'.symm.trans e)) ae
     ·exact e'
   ·exact e
  rcases hJ3 with⟨hl,y1,y2,f2,s2,⟨⟨H',nh,v',G,sit⟩,⟨n',flee⟩⟩,rfl⟩|⟨hl,⟨H',nh,v',G,hu⟩,rfl⟩
  ·refine⟨λx=>if x=k+1 then some (d.seat k y1 y2 (bh f2 (s2++d.cw k)))else wG x,H',nh,v',λi hi=>if_neg hi,λs hs=>⟨y1,y2,_,by simp only[if_true,cu]at hs;exact hs.symm⟩,λi s b hs hb=>?_,λ_=>⟨y1,y2,f2,s2,if_pos rfl,⟨n',flee⟩,λt' a' h1 h2 h3=>hC3 ⟨t',a'⟩ _ _ a' ⟨h1,h2,rfl,rfl,h3,rfl⟩⟩,λh=>absurd hl h,G,?_⟩
   ·by_cases e:i=k+1
    ·simp only[if_pos e]at hs;obtain rfl:=aP hs;rcases l7 hb with h|h
     ·exact .inr (.inr ⟨k,hk,h⟩)
     ·exact .inr (.inl h)
    ·simp only[if_neg e]at hs;exact Vu i s b hs hb
   ·refine⟨λs hs=>?_,λs b w hw hs hb=>?_,λi s s' b hi hs hs' hb hb'=>?_,λh=>ae,λx _ h=>by simp at h,λi hi=>if_neg hi⟩
    ·simp only[if_true,cu]at hs;subst hs;exact⟨sit,Vt (O.gt k hk)⟩
    ·simp only[if_true,cu]at hs;subst hs;obtain⟨⟨_,_,k3⟩,_,⟨k5,h5⟩,k6,_⟩:=hw;obtain⟨k7,h7⟩:=k6 k hk;rcases l7 hb with rfl|rfl
     ·exact⟨⟨k7,h7⟩,bp (O.wt k hk),λe=>by have e:d.turn k=d.C:=e;rw[e,k3]at h7;cases h7⟩
     ·exact⟨⟨k5,h5⟩,bp O.wg,λe=>by have e:d.gone=d.C:=e;rw[e,k3]at h5;cases h5⟩
    ·simp only[if_true,cu]at hs';exact Y7 s' ⟨y1,y2,_,hs'.symm⟩ i s b hi hs hb hb'
  ·refine⟨λx=>if x=k+1 then none else wG x,H',nh,v',λi hi=>if_neg hi,λs hs=>by simp at hs,λi s b hs hb=>?_,λh=>absurd h hl,λ_=>if_pos rfl,G,?_⟩
   ·by_cases e:i=k+1
    ·simp only[if_pos e]at hs;cases hs
    ·simp only[if_neg e]at hs;exact Vu i s b hs hb
   ·exact⟨λs hs=>by simp at hs,λs b w hw hs hb=>by simp at hs,λi s s' b hi hs hs' hb hb'=>by simp at hs',λh=>ae,λx hx _ w hw=>(show x=k by omega)▸hu w hw,λi hi=>if_neg hi⟩
 have afB:qH 0=some (Seat.one d.come (.int .i64 0) false λx=>x=bh bo (lf++d.cs0)):=by rw[xP 0 ae];exact hI10
 obtain⟨B3,MR3⟩:=B2.work (g9:=qH) X U hK2 hk L3 R3 wE AL (λi hi=>by rw[xP _ ae]) adE BI Y6;have MR3:=MR3 a1 MR2;obtain⟨n4,m4,T4,Y8,Qr,w4,k4,Qs,D4,DZ,q4,g4,rfl,hr4,hc4,hg4,hh4,F4⟩:=Mw (sl:=Vv) OK au (y:=0) ae hI10 (kj:=0) rfl (CK O O.cg O.wc) (G3 r3) A3 hg3 F3;obtain⟨B4,UE⟩:=B3.chan X U hK3 hr4 hc4 (bp O.wc) (.inl rfl);have UE:=UE a1 MR3;generalize w4.setChan d.come 0 #[] false (k4+1) (k4+1) false=r4 at Y8 F4 B4 UE;obtain rfl:g4=bh bo (lf++d.cs0):=hh4;exact⟨n3+n4,_,T4,b9 RA Y8,Qr,r4,Qs,D4,DZ,q4,_,_,qH,v',rfl,hg4,F4,B4,UE⟩
end
omit[Payload]in
theorem Led.more{Mem:Nat->Prop}{S:Nat->Loc->Prop}{t:Trace}(H:Led Mem S X (λi=>Knows t h i) t)(h1:∀g l,S g l->S' g l)(h2:∀g l,S' g l->S g l\/(g=h/\l.isMemory=true/\¬X l)):Led Mem S' X (λi=>Knows t h i) t:=by
 refine⟨H.clean,λi a ha hm=>?_,λi a ha hw g hg=>?_,H.plain,H.hears⟩
 ·exact(H.known i a ha hm).imp id (Or.imp id λ⟨x1,x2,g,x3,x4⟩=>⟨x1,x2,g,x3,h1 g _ x4⟩)
 ·rcases h2 g _ hg with h3|⟨rfl,hm,hx⟩
  ·exact H.wrote i a ha hw g h3
  ·rcases H.known i a ha hm with h|⟨h,_⟩|⟨h,_⟩
   ·exact h
   ·exact absurd h hx
   ·rw[hw]at h;cases h
section
variable{j:Nat}{tag:CTag}{dt:Nat->Bool}{w:World}
theorem CF.more{hs0:∀w,K' w->UA w}(hc':c'=c.more K' UA hs0 S' B')(O':c'.Ok)(hB:c.B<=B')(hS1:∀g l,c.S g l->S' g l)(YG:∀g l,S' g l->c.S g l\/g=h)(Xe:∀w,UA w->c.K0 w)(hK':K' w)
  (F:CF c h j d0 Inb tag D dt q T gs w):CF c' h j d0 Inb tag D dt q T gs w:=by
 subst hc';refine⟨F.size,F.hlt,λi g s h1 h2 h3=>sits_mono Xe (hS1 i) hB (F.seat i g s h1 h2 h3),F.main,λi g h1 h2 h3=>(F.work i g h1 h2 h3).imp (λ⟨u1,u2,u3,u4⟩=>⟨u1,u2,u3,?_⟩) (λ⟨u1,u2⟩=>⟨u1,u2⟩),F.full,F.inR,F.wf,F.chans,F.inj,hK',F.group,F.pend,
  F.led.more hS1 λg l hl=>(YG g l hl).imp id λe=>⟨e,(O'.still g l hl).1,(O'.still g l hl).2⟩,F.deaf0,F.deafW,F.above,F.norel,F.rel,F.who⟩
 exact goes_mono (λ_ _ h=>Xe _ h) (λ_ _ _ h=>⟨h.1,λe he=>ot (hS1 (i+1)) hB (h.2 e he)⟩) (λ_ _ _ _ ⟨h1,m,h2⟩=>⟨h1,m,h2⟩) u4
end
def aK.grow(d:aK)(Wk tk:Nat)(fk:Nat×Nat)(xs:List (Addr×Value))(gN:List Frame)(iX:Nat->Option (Nat×Nat))(B':Nat):aK:={d with j:=d.j+1,B:=B',turn:=λi=>if i=d.j then tk else d.turn i,W:=λi=>if i=d.j then Wk else d.W i,facts:=λi=>if i=d.j then xs else d.facts i,cw:=λi=>if i=d.j then gN else d.cw i,fw:=λi=>if i=d.j then iX else d.fw i,fm:=λb=>if b=Wk then some fk else d.fm b}
structure Ext(d d':aK):Prop where
 P:d'.P=d.P
 S:d'.S=d.S
 j:d.j<=d'.j
 base:d'.base=d.base
 come:d'.come=d.come
 gone:d'.gone=d.gone
 Wg:d'.Wg=d.Wg
 C:d'.C=d.C
 B:d.B<=d'.B
 ty:d'.ty=d.ty
 csC:d'.csC=d.csC
 eC:d'.eC=d.eC
 cs0:d'.cs0=d.cs0
 ro:d'.ro=d.ro
 turn:∀i,i<d.j->d'.turn i=d.turn i
 W:∀i,i<d.j->d'.W i=d.W i
 facts:∀i,i<d.j->d'.facts i=d.facts i
 cw:∀i,i<d.j->d'.cw i=d.cw i
 fw:∀i,i<d.j->d'.fw i=d.fw i
structure NZ(d:aK)(u u':dX):Prop where
 Inv:u'.Inv=u.Inv
 G:u'.G=u.G
 Foot:u'.Foot=u.Foot
 sched:u'.sched=u.sched
 may:u'.may=u.may
 WR:∀i,i<d.j->u'.WR i=u.WR i
 Pub:∀i,i<d.j->u'.Pub i=u.Pub i
 live:∀i,i<d.j->u'.live i=u.live i
section
variable{d d':aK}{u u':dX}
omit[Payload]in
theorem zQ(d:aK){Wk:Nat}(hB:d.B<=B'):Ext d (d.grow Wk tk fk xs gN iX B'):=⟨rfl,rfl,Nat.le_succ _,rfl,rfl,rfl,rfl,rfl,hB,rfl,rfl,rfl,rfl,rfl,λi h=>if_neg (Nat.ne_of_lt h),λi h=>if_neg (Nat.ne_of_lt h),λi h=>if_neg (Nat.ne_of_lt h),λi h=>if_neg (Nat.ne_of_lt h),λi h=>if_neg (Nat.ne_of_lt h)⟩
omit[Payload]in
theorem Ext.K0(E:Ext d d'){w:World}(h:d'.K0 w):d.K0 w:=by obtain⟨h1,h2,h3⟩:=h;rw[E.ty,E.Wg]at h1;rw[E.C,E.csC,E.eC]at h3;exact⟨h1,λi hi x hx=>h2 i (fp hi E.j) x (by rw[E.facts i hi];exact hx),h3⟩
omit[Payload]in
theorem Ext.K(E:Ext d d'){w:World}(h:d'.K w):d.K w:=by obtain⟨h1,h2,h3,h4,hx⟩:=h;rw[E.come]at h2;rw[E.gone]at h3;exact⟨E.K0 h1,h2,h3,λi hi=>by have:=h4 i (fp hi E.j);rwa [E.turn i hi]at this,hx⟩
omit[Payload]in
theorem Ext.Sp(E:Ext d d'){g:Nat}{l:Loc}(h:d.Sp g l):d'.Sp g l:=by obtain⟨i,h1,h2,x,hx,h3⟩:=h;exact⟨i,h1,fp h2 E.j,x,by rw[E.facts i h2];exact hx,h3⟩
omit[Payload]in
theorem Ext.RH(E:Ext d d'){w:World}(h:Go.Proofs.YtfmibhmknlnoiaaGreat.RH d'.cc w w₁):Go.Proofs.YtfmibhmknlnoiaaGreat.RH d.cc w w₁:=⟨h.tape,h.os,h.output,h.size,λb hb=>h.block b (by show b≠d'.Wg;rw[E.Wg];exact hb),λhl=>by have:=h.live (by show WgLive d'.ty d'.Wg w;rw[E.ty,E.Wg];exact hl);have h2:WgLive d'.ty d'.Wg w₁:=this;rwa [E.ty,E.Wg]at h2⟩
omit[Payload]in
theorem Ext.give(E:Ext d d'){w:World}(g:l6 d.cc h b v a w H'):l6 d'.cc h b v a w H':=by obtain⟨h1,a₂,kk,cases,shape,h2,h3,h4,h5⟩:=g;refine⟨h1,a₂,kk,cases,shape,λw₁ hr=>?_,h3,λw hw=>h4 w (E.K hw),h5⟩;have:=h2 w₁ (E.RH hr);show stepG d'.P (h==0) a w₁=_;rw[E.P];exact this
omit[Payload]in
theorem Ext.sit(E:Ext d d'){n:Nat}{g:Goroutine}(h:d.cc.Re i s n g):d'.cc.Re i s n g:=by show Sits d'.P (i==0) d'.K0 (d'.Sp i) d'.B s n g;rw[E.P];exact sits_mono (λw hw=>E.K0 hw) (λl hl=>E.Sp hl) E.B h
theorem Ext.wk(E:Ext d d'){s dd:Nat}{g:Goroutine}{w:World}(h:d.cc.Wk i s m dd g w):d'.cc.Wk i s m dd g w:=by show iu d'.P d'.ty d'.Wg d'.C (d'.csC.size+1) (i+1) s m dd g w;rw[E.P,E.ty,E.Wg,E.C,E.csC];exact h
theorem Ext.abB(E:Ext d d'){n:Nat}{g:Goroutine}{w:World}(h:d.cc.BG i n g w):d'.cc.BG i n g w:=by show Goes d'.P false (RK d'.K0) _ _ n g w;rw[E.P];exact goes_mono (λ_ _ hw=>E.K0 hw) (λ_ _ _ h=>⟨h.1,λe he=>ot (λl hl=>E.Sp hl) E.B (h.2 e he)⟩) (λ_ _ _ _ ⟨h1,m,h2⟩=>⟨h1,m,E.wk h2⟩) h
theorem Ext.dt(E:Ext d d'){n:Nat}{g:Goroutine}{w:World}(h:d.cc.YH i n g w):d'.cc.YH i n g w:=by show Goes d'.P false (RK d'.K0) _ _ n g w;rw[E.P];exact goes_mono (λ_ _ hw=>E.K0 hw) (λ_ _ _ h=>⟨h.1,λe he=>ot (λl hl=>E.Sp hl) E.B (h.2 e he)⟩) (λ_ _ _ _ ⟨h1,m,h2⟩=>⟨h1,m,E.wk h2⟩) h
omit[Payload]in
theorem Ext.seat(E:Ext d d')(hi:i<d.j)(z1 z2:Value)(g:Goroutine):d'.seat i z1 z2 g=d.seat i z1 z2 g:=by simp only[aK.seat,E.turn i hi,E.gone]
omit[Payload]in
theorem Ext.told(E:Ext d d')(hi:i<d.j)(z1 z2:Value)(t:Nat):d'.told i z1 z2 t=d.told i z1 z2 t:=by simp only[aK.told,E.turn i hi,E.gone,E.base]
omit[Payload]in
theorem Ext.mine(E:Ext d d')(V:NZ d u u')(a:World)(b:Nat):Mine d' u' a b↔Mine d u a b:=by simp only[Mine,E.ro,V.Foot]
omit[Payload]in
theorem Ext.resume(V:NZ d u u')(a:World):qE u' a=qE u a:=by
 funext t' a';exact propext ⟨λh=>⟨h.size,λb o h1 h2 h3=>by have:=h.same b o h1 h2 (by rw[V.Foot];exact h3);rwa [V.Foot]at this,by have:=h.inv;rwa [V.Inv]at this,by have:=h.g;rwa [V.G]at this⟩,
  λh=>⟨h.size,λb o h1 h2 h3=>by rw[V.Foot]at h3⊢;exact h.same b o h1 h2 h3,by rw[V.Inv];exact h.inv,by rw[V.G];exact h.g⟩⟩
theorem Ext.jw(E:Ext d d')(V:NZ d u u')(hi:i<d.j){t:qD}{a:World}{K:qD->Frame->List Frame->World->Prop}(h:JW d u i t fr fs a K):JW d' u' i t fr fs a K:=by
 obtain⟨AL,h⟩:=h;refine⟨⟨by rw[V.G];exact AL.g,by rw[V.Inv];exact AL.inv,by rw[V.WR i hi];exact AL.wr,λb hb=>(E.mine V a b).2 (AL.pub b (by rwa [V.Pub i hi]at hb)),λb f hf=>by rw[E.fw i hi]at hf;obtain⟨h1,h2⟩:=AL.fwm b f hf;exact⟨(E.mine V a b).2 h1,h2⟩⟩,?_⟩;rcases h with⟨hl,z1,z2,bo,cj,sp,rfl⟩|⟨hl,⟨H',n,v,h1,h2⟩,rfl⟩
 ·refine .inl ⟨by rw[V.live i hi];exact hl,z1,z2,bo,cj,⟨?_,?_⟩,?_⟩
  ·obtain⟨H',n,v,h1,h2⟩:=sp.give;exact⟨H',n,v,λr=>by rw[E.cw i hi,E.come];exact E.give (h1 r),by rw[E.seat hi,E.cw i hi];exact E.sit h2⟩
  ·obtain⟨n',hf⟩:=sp.flee;refine⟨n',λw hw=>?_⟩;rw[E.cw i hi,E.turn i hi,E.gone];exact E.abB (hf w (E.K0 hw))
  ·funext t' aZ bz a';simp only[dX.next,V.sched,V.may,E.told hi,Ext.resume V]
 ·exact .inr ⟨by rw[V.live i hi];exact hl,⟨H',n,v,λr=>by rw[E.cw i hi,E.come];exact E.give (h1 r),λw hw=>E.dt (h2 w (E.K0 hw))⟩,rfl⟩
theorem Ext.rest(E:Ext d d')(V:NZ d u u')(hi:i<d.j){a:World}{tp:Nat}{r:World}(R:Rest d u i t a tp Inb r):Rest d' u' i t a tp Inb r:=by
 have hF:d'.Fw i=d.Fw i:=by funext b;simp only[aK.Fw,E.fw i hi,E.ro]
 refine⟨R.le,by rw[V.sched];exact R.wait,R.size,λb hb=>by rw[hF];exact R.own b ((E.mine V a b).1 hb),λb hb=>by rw[hF];rw[E.ro]at hb;exact R.ro b hb,R.see,λb f hf=>?_,by rw[V.WR i hi];exact R.wr,λb hb=>(E.mine V a b).2 (R.pub b (by rwa [V.Pub i hi]at hb)),λhl=>?_,λhl=>R.over (by rwa [V.live i hi]at hl),by rw[V.G];exact R.g⟩
 ·rw[E.fw i hi]at hf;obtain⟨h1,h2⟩:=R.fw b f hf;exact⟨(E.mine V a b).2 h1,h2⟩
 ·rw[V.live i hi]at hl;obtain⟨z1,z2,bo,cj,h1,⟨n',h2⟩,h4⟩:=R.go hl;refine⟨z1,z2,bo,cj,by rw[E.seat hi,E.cw i hi];exact h1,⟨n',λw hw=>?_⟩,λt' a' h5 h6 h7=>?_⟩
  ·rw[E.cw i hi,E.turn i hi,E.gone];exact E.abB (h2 w (E.K0 hw))
  ·simp only[dX.next,V.sched,V.may]at h6;rw[Ext.resume V]at h7;rw[E.P,E.told hi,E.cw i hi];exact NY (λ_ _ _ _ _ h=>E.jw V hi h) (h4 t' a' h5 h6 h7)
end
end
section
open Go Go.Conc Go.ConcN
open Go.ConcR (KK WgAt stA smA Payload Aside2 DC0)
variable[Payload]
variable[Inhabited bO]
section
variable{d d':aK}{u u':dX}{tp:Nat->Nat}{r:World}
def Nb(d:aK)(u:dX)(Nk:Nat->Prop)(r:World)(b:Nat):Prop:=Nk b\/u.Foot r b\/d.ro b≠none\/r.heap.size<=b
theorem Between.grow(B:Between d u t A tp M Inb r)(E:Ext d d')(V:NZ d u u')(hj:d'.j=d.j+1)(X':d'.Fit)(U:u.Ok d)(Qq:∀i,i<d.j->d'.fm (d.W i)=d.fm (d.W i))(Y9:∀f,d'.fm (d'.W d.j)=some f->∃c e,r.heap[d'.W d.j]? =some (.cells c e (0,0))/\c.size<=f.2)
  (hN:∀b,Nk b->(∃o,r.heap[b]? =some o/\bU o=true/\ej o=true)/\¬M b/\(∀i,i<d.j->¬Mine d u (A i) b)/\¬u.Foot r b/\d.ro b=none/\b≠d.Wg/\b≠d.come/\b≠d.gone/\∀k,k<d'.j->b≠d'.turn k)
  (hturn:¬M (d'.turn d.j)/\∀i,i<d.j->¬Mine d u (A i) (d'.turn d.j))(hfw:∀b f,d'.fw d.j b=some f->Nk b/\∃c e,r.heap[b]? =some (.cells c e (0,0)))(hwr:u'.WR d.j t r)(nv:∀b,u'.Pub d.j r b->Nk b)(oq:¬u'.live d.j t):
  Between d' u' t (λi=>if i=d.j then fJ (Nb d u Nk r) (d'.Fw d.j) r else A i) (λi=>if i=d.j then t else tp i) M Inb r/\∀b,Mine d' u' (fJ (Nb d u Nk r) (d'.Fw d.j) r) b↔Nk b:=by
 have hS:=dD (Nb d u Nk r) (d'.Fw d.j) r;have hF0:∀b,u.Foot r b->d'.Fw d.j b=none:=λb hb=>by
  cases e:d'.Fw d.j b with
  |none=>rfl
  |some f=>
   rcases or_some (x:=none) e with h|⟨_,h⟩
   ·exact absurd hb (hN b (hfw b f h).1).2.2.2.1
   ·rw[E.ro,(U.foot t r b B.inv hb).2]at h;cases h
 have zN:∀b,u.Foot r b->(fJ (Nb d u Nk r) (d'.Fw d.j) r).heap[b]? =r.heap[b]? :=λb hb=>by
  rw[hide_need (.inr (.inl hb)),hF0 b hb];cases r.heap[b]? with
  |none=>rfl
  |some o=>cases o<;>rfl
 obtain⟨hinv,dK⟩:=U.inv t r (fJ (Nb d u Nk r) (d'.Fw d.j) r) B.inv zN;have hm:∀b,Mine d' u' (fJ (Nb d u Nk r) (d'.Fw d.j) r) b↔Nk b:=λb=>by
  constructor
  ·rintro⟨o,h1,h2,h3,h4,h5⟩;obtain⟨y,hy,_,hn⟩:=dY hS h1 h2;rcases hn h3 with h|h|h|h
   ·exact h
   ·rw[V.Foot,dK]at h4;exact absurd h h4
   ·rw[E.ro]at h5;exact absurd h5 h
   ·have:=aw hy;omega
  ·intro h;obtain⟨⟨o,h1,h2,h3⟩,_,_,h4,h5,_⟩:=hN b h;refine⟨dJ (d'.Fw d.j b) o,by rw[hide_need (.inl h),h1];rfl,λe=>?_,by rw[om];exact h2,by rw[V.Foot,dK];exact h4,by rw[E.ro];exact h5⟩;have:=oh (f:=d'.Fw d.j b) (o:=o);rw[e,h3]at this;cases this
 have hlt:∀i,i<d'.j->i≠d.j->i<d.j:=λi h1 h2=>ae;have hne:∀i,i≠d.j->(if i=d.j then fJ (Nb d u Nk r) (d'.Fw d.j) r else A i)=A i:=λi h=>if_neg h;have UF:∀i b,i<d'.j->Mine d' u' (if i=d.j then fJ (Nb d u Nk r) (d'.Fw d.j) r else A i) b->(i=d.j/\Nk b)\/(i<d.j/\Mine d u (A i) b):=λi b hi h=>by
  by_cases e:i=d.j
  ·rw[if_pos e]at h;exact .inl ⟨e,(hm b).1 h⟩
  ·rw[if_neg e]at h;exact .inr ⟨hlt i hi e,(E.mine V _ _).1 h⟩
 refine⟨⟨by rw[V.Inv];exact B.inv,λi hi=>?_,λi i' b hi hi' h h'=>?_,λi b hi h=>?_,λi b hi h=>?_,λb hb=>?_,λb hb=>?_,λb f h=>?_,λi f hi h=>?_,λb o hb ho=>?_,λi s b hs hb=>?_,λi hi=>B.out i ae,B.os⟩,hm⟩
 ·by_cases e:i=d.j
  ·subst e;simp only[if_true];refine⟨aY _,λs h1 h2=>ae,hS.size▸aY _,λb hb=>hide_need (.inl ((hm b).1 hb)),λb hb=>hide_need (.inr (.inr (.inl (by rwa [E.ro]at hb)))),λb o h1 _ h3=>sees_num hS h1 h3,λb f hf=>⟨(hm b).2 (hfw b f hf).1,(hfw b f hf).2⟩,hwr,λb hb=>(hm b).2 (nv b hb),λhl=>absurd hl oq,λ_=>B.out _ ae,by rw[V.G];exact U.gsame t _ _ hinv λb hb=>(zN b ((dK b).1 hb)).symm⟩
  ·simp only[if_neg e];exact E.rest V (hlt i hi e) (B.rest i (hlt i hi e))
 ·rcases UF i b hi h with⟨rfl,h1⟩|⟨h1,h2⟩ <;>rcases UF i' b hi' h' with⟨rfl,h3⟩|⟨h3,h4⟩
  ·rfl
  ·exact absurd h4 ((hN b h1).2.2.1 i' h3)
  ·exact absurd h2 ((hN b h3).2.2.1 i h1)
  ·exact B.apart i i' b h1 h3 h2 h4
 ·rw[V.Foot];rcases UF i b hi h with⟨rfl,h1⟩|⟨h1,h2⟩
  ·exact(hN b h1).2.2.2.1
  ·exact B.foot i b h1 h2
 ·rcases UF i b hi h with⟨rfl,h1⟩|⟨h1,h2⟩
  ·rw[E.Wg,E.come,E.gone];exact(hN b h1).2.2.2.2.2
  ·obtain⟨h3,h4,h5,h6⟩:=B.far i b h1 h2;rw[E.Wg,E.come,E.gone];refine⟨h3,h4,h5,λk hk=>?_⟩;by_cases e:k=d.j
   ·subst e;exact λe=>hturn.2 i h1 (e▸h2)
   ·rw[E.turn k (hlt k hk e)];exact h6 k (hlt k hk e)
 ·rw[V.Foot]at hb;rw[E.Wg];exact B.footg b hb
 ·obtain⟨h1,h2,h3,h4,h5,h6,h7,h8⟩:=B.m b hb;rw[V.Foot,E.ro,E.Wg,E.come,E.gone];refine⟨h1,λi hi h=>?_,h3,h4,h5,h6,h7,λk hk=>?_⟩
  ·rcases UF i b hi h with⟨rfl,h1⟩|⟨h1,zh⟩
   ·exact(hN b h1).2.1 hb
   ·exact h2 i h1 zh
  ·by_cases e:k=d.j
   ·subst e;exact λe=>hturn.1 (e▸hb)
   ·rw[E.turn k (hlt k hk e)];exact h8 k (hlt k hk e)
 ·rw[E.ro]at h;exact B.rook b f h
 ·by_cases e:i=d.j
  ·subst e;exact Y9 f h
  ·have hi':=hlt i hi e;rw[E.W i hi',Qq i hi']at h;rw[E.W i hi'];exact B.wok i f hi' h
 ·rw[V.Foot,E.ro]at hb;rcases hb with hb|hb|hb|⟨i,hi,hb⟩
  ·exact B.oks b o (.inl hb) ho
  ·exact B.oks b o (.inr (.inl hb)) ho
  ·exact B.oks b o (.inr (.inr (.inl hb))) ho
  ·rcases UF i b hi hb with⟨rfl,h1⟩|⟨h1,h2⟩
   ·obtain⟨⟨o',h3,_,h4⟩,_⟩:=hN b h1;rw[h3]at ho;obtain rfl:=aP ho;exact h4
   ·exact B.oks b o (.inr (.inr (.inr ⟨i,h1,h2⟩))) ho
 ·rw[E.come,E.gone];exact(B.chairs i s b hs hb).imp id (Or.imp id λ⟨k,h1,h2⟩=>⟨k,ae,by rw[E.turn k h1];exact h2⟩)
end
end
section
open Go Go.Conc Go.ConcN
open Go.ConcR (KK wgBlock WgAt stA smA rd wr mk Payload Aside2 DC0)
section
variable(P:Program)(ty:TypeId)(Wg C:Nat)(Rd:Nat->Loc->Prop)(Low j:Nat)(Fin:Goroutine->World->Prop)
def abC(g:Goroutine)(w:World):Prop:=g.status=.running/\∃g',stepG P true g w=.go g' w #[mk .enable]/\∃m,Goes P true (RC ty Wg C) (DP Wg BC Rd j Low) Fin m g' w
def abD(g:Goroutine)(w:World):Prop:=
 g.status=.running/\∀v:Nat,v<2147483647->WgAt ty Wg w (v*KK) 0->
  ∃g',stepG P true g w=.go g' (w.setCell (stA Wg) (.int .u64 ((v+1) *KK))) #[rd (stA Wg),wr (stA Wg)]/\
   ∃m,Goes P true (RC ty Wg C) (DP Wg BC Rd j Low) (abC P ty Wg C Rd Low j Fin) m g' (w.setCell (stA Wg) (.int .u64 ((v+1) *KK)))
def Mx(g:Goroutine)(w:World):Prop:=g.status=.running/\∃g',stepG P true g w=.go g' w #[mk .disable]/\∃m,Goes P true (RC ty Wg C) (DP Wg BC Rd j Low) (abD P ty Wg C Rd Low j Fin) m g' w
end
end
section
open Go.Conc Go.ConcN
open Go.ConcR (KK WgAt stA smA rd wr mk Payload Aside2 DC0)
variable[Payload]
section
variable{j:Nat}{tag:CTag}{dt:Nat->Bool}{w:World}
theorem abE{Low:Nat}{Fin:Goroutine->World->Prop}(O:c.Ok)(L:Vq c Inb Low)(hS0:j=0->∀g l,¬c.S g l)(hj:j+1<2147483647){sl:Option (Nat×Nat)}
  (hG:Goes c.P true (RC c.ty c.Wg c.C) (DP c.Wg BC c.Rd j Low) (Mx c.P c.ty c.Wg c.C c.Rd Low j Fin) m a w)(ha:gs[0]? =some a)(F:CF c 0 j 0 Inb .kd D dt q T gs w):
  ∃N m' T',runNT c.P N (crowd gs w sl) T=(.next m',T')/\Held c 0 j 0 Inb (.sp 0 3) Fin m' T':=by
 have Vw:∀w w' es,DP c.Wg BC c.Rd j Low w w' es->FP c Inb 0 w w' es:=λ_ _ _ h=>dhc_of_dp O L hS0 h;have Xk:∀m,m≠.release (stA c.Wg)->(MemAct.mark m).touch? =none->∀e∈#[mk m],FT c e:=by intro m h1 h2 e he;simp at he;subst he;exact⟨λx hx=>(by simp only[mk,MemAct.ofEvent]at hx;rw[h2]at hx;cases hx),(by simp[mk,h1])⟩
 obtain⟨N1,gs,w0,CL,T,w,um,D,dt,q,a,r1,s1,ha,hS,F⟩:=wB O au Vw (λ_ _ h=>h.1) (jg (λ_ _ h=>h.rc) hG) (sl:=sl) ha F;obtain⟨_,g',hgo,m1,hG1⟩:=hS w (.refl c w);obtain⟨gs',ops,e1,ha',F⟩:=step0 (sl:=um) O F ha hgo (.refl c w) rfl F.group F.pend (Xk .disable au rfl);have r1:=qC r1 (s1.trans e1);obtain⟨N2,gs,w0,CL,T,w,um,D,dt,q,a,r2,s2,ha,hS,F⟩:=wB O au Vw (λ_ _ h=>h.1) (jg (λ_ _ h=>h.rc) hG1) (sl:=um) ha' F;obtain⟨st,sm,hw,hm⟩:=F.group;obtain⟨v,rfl,rfl,hv,vP⟩:=Rt (r:=0) hm;obtain⟨_,hA⟩:=hS w (.refl c w);obtain⟨g',hgo,m2,hG2⟩:=hA v ae hw;have hw2:WgAt c.ty c.Wg (w.setCell (stA c.Wg) (.int .u64 (((v:Nat) +1:Int) *KK))) (((v:Nat) +1:Int) *KK) 0:=hw.setSt _;have qI:=aside_setCell w (stA c.Wg) (.int .u64 (((v:Nat) +1:Int) *KK));obtain⟨gs',cZ,e2,ha',F⟩:=step0 (sl:=um) (bD:=.sp 0 3) O F ha hgo ⟨qI.tape,qI.os,qI.output,qI.size,λb h1=>qI.block b h1,λ_=>⟨_,_,hw2⟩⟩ (qI.block _ O.away) ⟨_,_,hw2,vP⟩ (by simp[ConcN.pend];omega) (by
  intro e he;have ur:ShN c.Wg (.cell (stA c.Wg)):=⟨_,rfl,rfl⟩;simp at he;rcases he with rfl|rfl
  ·exact⟨λx hx=>(by simp only[rd,MemAct.ofEvent,MemAct.touch?,cu]at hx;subst hx;exact⟨λg hg=>absurd ur (O.still g _ hg).2,λ_=>au⟩),(by simp[rd])⟩
  ·exact⟨λx hx=>(by simp only[wr,MemAct.ofEvent,MemAct.touch?,cu]at hx;subst hx;exact⟨λg hg=>absurd ur (O.still g _ hg).2,λ_=>au⟩),(by simp[wr])⟩)
 have r2:=qC r2 (s2.trans e2);obtain⟨N3,gs,w0,CL,T,w,um,D,dt,q,a,r3,s3,ha,hS,F⟩:=wB O au Vw (λ_ _ h=>h.1) (jg (λ_ _ h=>h.rc) hG2) (sl:=um) ha' F;obtain⟨_,g',hgo,m3,hG3⟩:=hS w (.refl c w);obtain⟨gs',zR,e3,ha',F⟩:=step0 (sl:=um) O F ha hgo (.refl c w) rfl F.group F.pend (Xk .enable au rfl);have r3:=qC r3 (s3.trans e3);obtain⟨N4,m',T',r4,hH⟩:=hold O au Vw (jg (λ_ _ h=>h.rc) hG3) (sl:=um) ha' F;exact⟨N1+1+(N2+1) +(N3+1) +N4,m',T',b9 (b9 (b9 r1 r2) r3) r4,hH⟩
end
end
section
open Go Go.Conc Go.ConcN
open Go.ConcR (KK WgAt stA smA Payload Aside2 DC0)
variable[Payload]
variable[Inhabited bO]
structure Grown(Wg:Nat)(ob:Obj)(r w:World):Prop where
 size:w.heap.size=r.heap.size+1
 new:w.heap[r.heap.size]? =some ob
 old:∀b,b<r.heap.size->b≠Wg->w.heap[b]? =r.heap[b]?
 os:w.os=r.os/\w.output=r.output
structure First(d d':aK)(u':dX)(t:Nat)(Nk:Nat->Prop)(ob:Obj)(a a0:World):Prop where
 size:a0.heap.size=a.heap.size+1
 own:∀b,Nk b->b≠a.heap.size->a0.heap[b]? =(a.heap[b]?).map (dJ (d'.fw d.j b))
 new:a0.heap[a.heap.size]? =some (dJ (d'.fw d.j a.heap.size) ob)
 ro:∀b,d.ro b≠none->a0.heap[b]? =a.heap[b]?
 inv:u'.Inv t a0
structure Birth(d:aK)(u u':dX)(t:Nat)(Wk tk:Nat)(fk:Nat×Nat)(Bi xs:List (Addr×Value))(gN:List Frame)(iX:Nat->Option (Nat×Nat))(B':Nat)(Nk:Nat->Prop)(ob:Obj)(fr:Frame)(fs:List Frame)(bo:Frame)(a:World):Prop where
 few:d.j<1000000
 Bd:d.B<=B'
 uext:NZ d u u'
 sub:∀x∈Bi,x∈xs
 fit:(d.grow Wk tk fk xs gN iX B').Fit
 uok:u'.Ok (d.grow Wk tk fk xs gN iX B')
 ok1:(d.grow Wk tk fk Bi gN iX B').Ok
 sched:u.sched (t+1)=d.j
 live:¬u'.live d.j t
 nk:∀b,Nk b->b=a.heap.size\/(gM d a b/\b≠tk)
 new:Nk a.heap.size
 turn:a.heap[tk]? =some (.chan 0 #[] false 0 0 false)/\gM d a tk
 facts1:∀x∈Bi,Nk x.1.block/\x.1.block≠a.heap.size/\a.cell? x.1=some x.2
 facts:∀x∈xs,x∈Bi\/(x.1.block=a.heap.size/\∀w:World,w.heap[x.1.block]? =some ob->w.cell? x.1=some x.2)
 isob:∃c e,ob=.cells c e (0,0)
 fw:∀b f,iX b=some f->Nk b/\(b=a.heap.size\/∃c e,a.heap[b]? =some (.cells c e (0,0)))
 hfk:Nk Wk/\Wk≠a.heap.size/\∃c e,a.heap[Wk]? =some (.cells c e (0,0))/\c.size<=fk.2
 wk:∀i,i<d.j->d.W i≠Wk
 wr:∀w:World,(∀b,Nk b->b≠a.heap.size->w.heap[b]? =a.heap[b]?)->u'.WR d.j t w/\∀b,u'.Pub d.j w b->Nk b
 code:∃(frg frs:Frame) (child:Goroutine) (frp:Frame) (fsp:List Frame) (n0:Nat),
  (∀r Low,d.K r->∃m,Goes d.P true (RC d.ty d.Wg d.C) (DP d.Wg BC d.cc.Rd d.j Low) (Mx d.P d.ty d.Wg d.C d.cc.Rd Low d.j (λg w=>g=bh frg (fs++d.cs0)/\Aside2 d.C d.Wg r w)) m (bh fr (fs++d.cs0)) r)/\
  (∀w,stepG d.P true (bh frg (fs++d.cs0)) w=.spawn (bh frs (fs++d.cs0)) child w #[])/\
  (d.grow Wk tk fk Bi gN iX B').cc.Re 0 (Seat.one d.come (.int .i64 0) false λx=>x=bh bo (fs++d.cs0)) n0 (bh frs (fs++d.cs0))/\
  (∀r Inb,(d.grow Wk tk fk Bi gN iX B').K r->(d.grow Wk tk fk Bi gN iX B').pd Inb->r.heap.size=a.heap.size->(∀x:Addr,(Nk x.block/\x.block≠a.heap.size\/d.ro x.block≠none)->r.cell? x=a.cell? x)->
   Walk (d.grow Wk tk fk Bi gN iX B').cc false (FP (d.grow Wk tk fk Bi gN iX B').cc Inb (d.j+1)) (λg w=>g=bh frp (fsp++gN)/\Grown d.Wg ob r w) child r)/\
  (∀a0,First d (d.grow Wk tk fk xs gN iX B') u' t Nk ob a a0->ZigC d.P false gN (JW (d.grow Wk tk fk xs gN iX B') u' d.j) (λ_ _ _ _=>False) ⟨t+1,a0⟩ frp fsp a0)
section
variable{d:aK}{u u':dX}{Wk:Nat}{ob:Obj}{a:World}{tp:Nat->Nat}{dt:Nat->Bool}{r:World}{sl:Option (Nat×Nat)}
omit[Payload]in
theorem RD{w:World}(h:Aside2 d.C d.Wg r w)(hC:w.heap[d.C]? =r.heap[d.C]?)(hl:WgLive d.ty d.Wg w):RH d.cc r w:=
 ⟨h.tape,h.os,h.output,h.size,λb hb=>by
  by_cases e:b=d.C
  ·rw[e];exact hC
  ·exact h.block b e hb,λ_=>hl⟩
theorem abF(X:d.Fit)(U:u.Ok d)(H:Birth d u u' t Wk tk fk Bi xs gN iX B' Nk ob fr fs bo a)
  (B:Between d u t A tp (gM d a) Inb r)(MR:qG d (gM d a) a r)(hsz:a.heap.size=r.heap.size)(hg:gs[0]? =some (bh fr (fs++d.cs0)))(F:CF d.cc 0 d.j 0 Inb .kd D dt q T gs r):
  ∃n m' T',runNT d.P n (crowd gs r sl) T=(.next m',T')/\∃gs' r' sl' D' jf q' A' Y1 g9 v',m'=crowd gs' r' sl'/\gs'[0]? =some (bh (bo.finish v') (fs++d.cs0))/\CF (d.grow Wk tk fk xs gN iX B').cc 0 (d.j+1) 0 g9 .kd D' jf q' T' gs' r'/\
   Between (d.grow Wk tk fk xs gN iX B') u' (t+1) A' Y1 (λb=>gM d a b/\¬Nk b/\b≠tk) g9 r'/\qG (d.grow Wk tk fk xs gN iX B') (λb=>gM d a b/\¬Nk b/\b≠tk) a r':=by
 obtain⟨frg,frs,child,frp,fsp,n0,JO,hgo,hsit,hstart,Jq⟩:=H.code;have O:=X.ok;have OK:=ln O;have OK1:=ln H.ok1;have X':=H.fit;have OK':=ln X'.ok;have hK:d.K r:=F.K;have E:Ext d (d.grow Wk tk fk xs gN iX B'):=zQ d H.Bd;have E1:Ext d (d.grow Wk tk fk Bi gN iX B'):=zQ d H.Bd;obtain⟨⟨⟨st0,sm0,kw⟩,k2,k3⟩,⟨c1,k4⟩,⟨c2,k5⟩,k6,kx⟩:=id hK;obtain⟨m0,hG⟩:=JO r r.heap.size hK;have yx:Vq d.cc Inb r.heap.size:=by
  refine⟨λw w' hw hk=>?_,λi s b hi hs hb=>?_,aw kw,aw k3⟩
  ·obtain⟨⟨⟨st,sm,h1⟩,h2,h3⟩,h4,h5,h6,hx⟩:=hk;have op:∀b,fF r b->fF w b->fF w' b:=λb ⟨k,hk⟩ ⟨k',xK⟩=>⟨k',by rw[hw b (aw hk)];exact xK⟩;refine⟨⟨⟨st,sm,by show w'.heap[d.Wg]? =_;rw[hw d.Wg (aw kw)];exact h1⟩,λi hi x hx=>?_,by rw[hw d.C (aw k3)];exact h3⟩,op _ ⟨c1,k4⟩ h4,op _ ⟨c2,k5⟩ h5,λi hi=>op _ (k6 i hi) (h6 i hi),λb o h1 h2=>by rw[hw b (aw (kx b o h1 h2))];exact hx b o h1 h2⟩;have:=h2 i hi x hx;rw[←this];simp only[World.cell?,hw _ (iK (k2 i hi x hx))]
  ·obtain⟨⟨k,hk⟩,_⟩:=F.chans i s b hi hs hb;exact aw hk
 obtain⟨N1,m1,T1,IK,gs1,w1,CL,a1,D1,abG,q1,rfl,ha1,hS1,F1⟩:=abE (sl:=sl) OK yx (λh0 g l ⟨i,_,hi,_⟩=>by have hi:i<d.j:=hi;omega) (by have:=H.few;omega) hG hg F;obtain⟨rfl,F7⟩:=hS1 w1 (.refl d.cc w1);have hK1:d.K w1:=F1.keep;have hC1:w1.heap[d.C]? =r.heap[d.C]? :=by rw[k3];exact hK1.1.2.2
 have RF:RH d.cc r w1:=RD F7 hC1 hK1.1.1;have iP:∀b,gM d a b->b≠d.Wg/\b<r.heap.size:=λb hb=>⟨(B.m b hb).2.2.2.2.1,(B.m b hb).1⟩;have wH:∀w,RH d.cc w1 w->∀b,b≠d.Wg->w.heap[b]? =r.heap[b]? :=λw hr b hb=>((hr.block b hb).trans (RF.block b hb));have hown:∀w,RH d.cc w1 w->∀b,gM d a b->w.heap[b]? =a.heap[b]? :=λw hr b hb=>(wH w hr b (iP b hb).1).trans (MR.own b hb).symm;have hcell:∀w,RH d.cc w1 w->∀x∈Bi,w.cell? x.1=some x.2:=λw hr x hx=>by obtain⟨h1,h2,h3⟩:=H.facts1 x hx;rw[←h3];simp only[World.cell?,hown w hr _ ((H.nk _ h1).resolve_left h2).1]
 have adF:∀w₁,RH d.cc w1 w₁->d.K w₁->(d.grow Wk tk fk Bi gN iX B').K w₁:=by
  intro w hr hk;obtain⟨⟨h1,h2,h3⟩,h4,h5,h6,lL⟩:=hk;refine⟨⟨h1,λi hi x hx=>?_,h3⟩,h4,h5,λi hi=>?_,lL⟩
  ·simp only[aK.grow]at hx hi;by_cases e:i=d.j
   ·rw[if_pos e]at hx;exact hcell w hr x hx
   ·rw[if_neg e]at hx;exact h2 i ae x hx
  ·simp only[aK.grow]at hi⊢;by_cases e:i=d.j
   ·rw[if_pos e];exact⟨0,by rw[hown w hr _ H.turn.2];exact H.turn.1⟩
   ·rw[if_neg e];exact h6 i ae
 obtain⟨N2,Rz,w2,um,T2,D2,abA,q2,JQ,RH2,hg2,F2⟩:=spawn (c':=(d.grow Wk tk fk Bi gN iX B').cc) (K':=(d.grow Wk tk fk Bi gN iX B').K) (UA:=(d.grow Wk tk fk Bi gN iX B').K0) (hs0:=λ_ h=>h.1) (S':=(d.grow Wk tk fk Bi gN iX B').Sp) (B':=B') (sl:=CL) rfl OK OK1 H.Bd
  (λg l h=>E1.Sp h) (λg l h=>by
   obtain⟨i,h1,h2,x,hx,h3⟩:=h;simp only[aK.grow]at h2 hx;by_cases e:i=d.j
   ·right;right;rw[h1,e]
   ·rw[if_neg e]at hx;exact .inl ⟨i,h1,ae,x,hx,h3⟩) (λw h=>E1.K0 h) (r:=0) (n0:=n0) (a:=bh frg (fs++d.cs0)) (a':=bh frs (fs++d.cs0)) (child:=child) (s0:=Seat.one d.come (.int .i64 0) false λx=>x=bh bo (fs++d.cs0)) (es:=#[]) rfl (λw _=>hgo w) (λe he=>by simp at he) adF hsit (Seat.one_wf _ _ _ _)
  (λb w hw hb=>by obtain rfl:=Seat.one_has.1 hb;obtain⟨⟨_,_,h3⟩,⟨k,h4⟩,_⟩:=hw;exact⟨⟨k,h4⟩,bp O.wc,λe=>by have e:d.come=d.C:=e;have h3:w.heap[d.C]? =_:=h3;have h4:w.heap[d.come]? =_:=h4;rw[e,h3]at h4;cases h4⟩)
  (λi s b hi hs hb hb'=>by
   obtain rfl:=Seat.one_has.1 hb';obtain⟨i,rfl⟩:∃x,i=x+1:=⟨i-1,ae⟩;obtain⟨_,_,_,hi,rfl⟩:=B.seats i s hs;rcases l7 hb with e|e
   ·exact absurd e (O.ct i hi)
   ·exact e) ha1 F1
 have hch:(d.grow Wk tk fk Bi gN iX B').pd (λx=>if x=0 then some (Seat.one d.come (.int .i64 0) false λx=>x=bh bo (fs++d.cs0))else Inb x):=λi s b hs hb=>by
  by_cases e:i=0
  ·simp only[if_pos e]at hs;obtain rfl:=aP hs;exact .inl (Seat.one_has.1 hb)
  ·simp only[if_neg e]at hs;rcases B.chairs i s b hs hb with h|h|⟨k,hk,h⟩
   ·exact .inl h
   ·exact .inr (.inl h)
   ·exact .inr (.inr ⟨k,Nat.lt_succ_of_lt hk,by rw[E1.turn k hk];exact h⟩)
 have mC:w2.heap.size=a.heap.size:=by rw[hsz,←RF.size];exact RH2.size
 have adG:∀x:Addr,(Nk x.block/\x.block≠a.heap.size\/d.ro x.block≠none)->w2.cell? x=a.cell? x:=by
  rintro x (⟨h1,h2⟩|h)
  ·simp only[World.cell?,hown w2 RH2 _ ((H.nk _ h1).resolve_left h2).1]
  ·have hb:x.block≠d.Wg:=λe=>h (by rw[e];exact X.rowg);rw[cell_chill (MR.ro _ h)|>.symm];simp only[World.cell?,wH w2 RH2 _ hb]
 have hW:=hstart w2 _ F2.keep hch mC adG;obtain⟨N3,m3,T3,RA,gs3,w3,Vv,a3,D3,Y4,q3,rfl,ha3,hS3,F3⟩:=hold (h:=d.j+1) (sl:=um) OK1 au (λ_ _ _ h=>h) hW hg2 F2;obtain⟨rfl,G3⟩:=hS3 w3 (.refl _ w3);have iD:∀b,b<r.heap.size->b≠d.Wg->w3.heap[b]? =r.heap[b]? :=λb h1 h2=>(G3.old b (by rw[mC,hsz];exact h1) h2).trans (wH w2 RH2 b h2);have F8:w3.heap[a.heap.size]? =some ob:=by have:=G3.new;rwa [mC]at this
 have yy:w3.heap.size=a.heap.size+1:=by rw[G3.size,mC]
 have xQ:∀b,gM d a b->w3.heap[b]? =a.heap[b]? :=λb hb=>(iD b (iP b hb).2 (iP b hb).1).trans (MR.own b hb).symm;have hK3:(d.grow Wk tk fk xs gN iX B').K w3:=by
  obtain⟨⟨h1,h2,h3⟩,h4,h5,h6,lL⟩:=F3.keep;refine⟨⟨h1,λi hi x hx=>?_,h3⟩,h4,h5,h6,lL⟩;simp only[aK.grow]at hx hi;by_cases e:i=d.j
  ·rw[if_pos e]at hx;rcases H.facts x hx with h|⟨h,h'⟩
   ·exact h2 i hi x (by simp only[aK.grow];rw[if_pos e];exact h)
   ·exact h' w3 (by rw[h];exact F8)
  ·rw[if_neg e]at hx;exact h2 i hi x (by simp only[aK.grow];rw[if_neg e];exact hx)
 have F3':CF (d.grow Wk tk fk xs gN iX B').cc (d.j+1) (d.j+1) 0 _ .kd D3 Y4 q3 T3 gs3 w3:=CF.more (c:=(d.grow Wk tk fk Bi gN iX B').cc) (K':=(d.grow Wk tk fk xs gN iX B').K) (UA:=(d.grow Wk tk fk xs gN iX B').K0) (hs0:=λ_ h=>h.1) (S':=(d.grow Wk tk fk xs gN iX B').Sp) (B':=B') rfl OK' (aY _)
  (λg l ⟨i,h1,h2,x,hx,h3⟩=>⟨i,h1,h2,x,by
   simp only[aK.grow]at hx⊢;by_cases e:i=d.j
   ·rw[if_pos e]at hx⊢;exact H.sub x hx
   ·rw[if_neg e]at hx⊢;exact hx,h3⟩)
  (λg l ⟨i,h1,h2,x,hx,h3⟩=>by
   simp only[aK.grow]at hx h2;by_cases e:i=d.j
   ·right;rw[h1,e]
   ·left;rw[if_neg e]at hx;exact⟨i,h1,h2,x,by simp only[aK.grow];rw[if_neg e];exact hx,h3⟩)
  (λw ⟨h1,h2,h3⟩=>⟨h1,λi hi x hx=>h2 i hi x (by
   simp only[aK.grow]at hx⊢;by_cases e:i=d.j
   ·rw[if_pos e]at hx⊢;exact H.sub x hx
   ·rw[if_neg e]at hx⊢;exact hx),h3⟩) hK3 F3
 have Za:∀b,d.ro b≠none->w3.heap[b]? =r.heap[b]? :=λb hb=>by obtain⟨f,hf⟩:=kU.1 hb;obtain⟨c,e,hc,_⟩:=B.rook b f hf;exact iD b (aw hc) (λe=>by rw[e,X.rowg]at hf;cases hf)
 have Xl:∀(b:Nat) x l,r.heap[b]? =some (.number x l)->w3.heap[b]? =some (.number x l):=λb x l hb=>by rw[iD b (aw hb) (λe=>by rw[e]at hb;exact absurd (hb.symm.trans kw) (by simp[Go.ConcR.wgBlock]))];exact hb
 have B3:Between d u t A tp (λb=>gM d a b/\¬Nk b/\b≠tk) Inb w3:=by
  refine B.keep X U hK ae (λi b hi hb=>?_) Za (λb hb=>?_) (λb hb=>.inl hb.1) (λb o hb ho=>?_) Xl ⟨G3.os.1.trans (RH2.os.trans RF.os),G3.os.2.trans (RH2.output.trans RF.output)⟩
  ·obtain⟨o,ho,_⟩:=B.there hi hb;exact iD b (aw ho) (B.far i b hi hb).1
  ·obtain⟨⟨c,e,hc⟩,_⟩:=U.foot t r b B.inv hb;exact iD b (aw hc) (B.footg b hb)
  ·rw[iD b (iP b hb.1).2 (iP b hb.1).1]at ho;exact B.oks b o (.inl hb.1) ho
 have MR3:qG (d.grow Wk tk fk xs gN iX B') (λb=>gM d a b/\¬Nk b/\b≠tk) a w3:=by
  refine⟨ae,λb hb=>(xQ b hb.1).symm,λb hb=>?_,λb o h1 h2=>?_⟩
  ·have hb':d.ro b≠none:=hb;have:(d.grow Wk tk fk xs gN iX B').Fm b=d.Fm b:=by
    simp only[aK.Fm,aK.grow];by_cases e:b=Wk
    ·obtain⟨h1,h2,_⟩:=H.hfk;exact absurd ((H.nk _ h1).resolve_left h2).1.choose_spec.2.2.2.2 (e▸hb')
    ·rw[if_neg e]
   rw[Za b hb',this];exact MR.ro b hb'
  ·have:=MR.see b o h1 h2;cases o<;>first|exact Xl _ _ _ this|cases h2
 obtain⟨cb,eb,rfl⟩:=H.isob;have abH:∀b,r.heap.size<=b->¬gM d a b/\¬u.Foot w3 b/\d.ro b=none/\(∀i,i<d.j->¬Mine d u (A i) b)/\b≠d.Wg/\b≠d.come/\b≠d.gone/\(∀k,k<d.j->b≠d.turn k)/\b≠tk:=λb hb=>by
  have out:∀(x:Nat) o,r.heap[x]? =some o->b≠x:=λx o hx e=>by have:=aw hx;omega
  refine⟨λh=>by have:=(iP b h).2;omega,λh=>?_,?_,λi hi h=>?_,out _ _ kw,out _ _ k4,out _ _ k5,λk hk=>?_,λe=>by have:=(iP tk H.turn.2).2;omega⟩
  ·have hf:=(U.inv t r w3 B.inv λb' hb'=>?_).2 b
   ·obtain⟨⟨c,e,hc⟩,_⟩:=U.foot t r b B.inv (hf.1 h);exact out _ _ hc rfl
   ·obtain⟨⟨c,e,hc⟩,_⟩:=U.foot t r b' B.inv hb';exact iD b' (aw hc) (B.footg b' hb')
  ·cases e:d.ro b with
   |none=>rfl
   |some f=>obtain⟨c,e',hc,_⟩:=B.rook b f e;exact absurd rfl (out _ _ hc)
  ·obtain⟨o,ho,_⟩:=B.there hi h;exact out _ _ ho rfl
  ·obtain⟨_,hk⟩:=k6 k hk;exact out _ _ hk
 have abI:=H.wr w3 λb h1 h2=>xQ b ((H.nk b h1).resolve_left h2).1;obtain⟨B4,hm4⟩:=B3.grow (d':=d.grow Wk tk fk xs gN iX B') (u':=u') (Nk:=Nk) E H.uext rfl X' U (λi hi=>by simp only[aK.grow];rw[if_neg (H.wk i hi)]) (λf hf=>by
   obtain⟨h1,h2,c,e,h3,h4⟩:=H.hfk;simp only[aK.grow,if_true,cu]at hf⊢;subst hf;exact⟨c,e,by rw[xQ _ ((H.nk _ h1).resolve_left h2).1];exact h3,h4⟩)
  (λb hb=>by
   have F9:∀k,k<d.j+1->k≠d.j->k<d.j:=λk h1 h2=>ae;rcases H.nk b hb with rfl|⟨h1,h2⟩
   ·obtain⟨n1,n2,n3,n4,n5,n6,n7,n8,n9⟩:=abH a.heap.size ae;refine⟨⟨_,F8,rfl,rfl⟩,λh=>n1 h.1,n4,n2,n3,n5,n6,n7,λk hk=>?_⟩;simp only[aK.grow]at hk⊢;by_cases e:k=d.j
    ·rw[if_pos e];exact n9
    ·rw[if_neg e];exact n8 k (F9 k hk e)
   ·obtain⟨m1,m2,m3,m4,m5,m6,m7,m8⟩:=B.m b h1;obtain⟨o,o1,o2,o3,_⟩:=id h1;have ho3:=(xQ b h1).trans o1;refine⟨⟨o,ho3,o3,B.oks b o (.inl h1) (by rw[←MR.own b h1];exact o1)⟩,λh=>h.2.1 hb,m2,λh=>?_,m4,m5,m6,m7,λk hk=>?_⟩
    ·have hf:=(U.inv t r w3 B.inv λb' hb'=>by obtain⟨⟨c,e,hc⟩,_⟩:=U.foot t r b' B.inv hb';exact iD b' (aw hc) (B.footg b' hb')).2 b;exact m3 (hf.1 h)
    ·simp only[aK.grow]at hk⊢;by_cases e:k=d.j
     ·rw[if_pos e];exact h2
     ·rw[if_neg e];exact m8 k (F9 k hk e))
  (by
   simp only[aK.grow,if_true];exact⟨λh=>h.2.2 rfl,(B.m tk H.turn.2).2.1⟩) (λb f hf=>by
   simp only[aK.grow,if_true]at hf;obtain⟨h1,h2⟩:=H.fw b f hf;refine⟨h1,?_⟩;rcases H.nk b h1 with rfl|⟨h3,_⟩
   ·exact⟨_,_,F8⟩
   ·rcases h2 with rfl|⟨c,e,h2⟩
    ·exact⟨_,_,F8⟩
    ·exact⟨c,e,by rw[xQ b h3];exact h2⟩) abI.1 abI.2 H.live
 have uP:∀i,(λx=>if x=0 then some (Seat.one d.come (.int .i64 0) false λx=>x=bh bo (fs++d.cs0))else Inb x) (i+1)=Inb (i+1):=λi=>if_neg ae;have B5:=B4.inb (g9:=λx=>if x=0 then some (Seat.one d.come (.int .i64 0) false λx=>x=bh bo (fs++d.cs0))else Inb x) uP hch;have hk:d.j< (d.grow Wk tk fk xs gN iX B').j:=Nat.lt_succ_self _;have hres:=B5.resume H.uok hk;have bf:(if d.j=d.j then fJ (Nb d u Nk w3) ((d.grow Wk tk fk xs gN iX B').Fw d.j) w3 else A d.j)=fJ (Nb d u Nk w3) ((d.grow Wk tk fk xs gN iX B').Fw d.j) w3:=if_pos rfl;have hcw:(d.grow Wk tk fk xs gN iX B').cw d.j=gN:=by simp only[aK.grow,if_true]
 have hNm:∀b,Nk b->Nw (d.grow Wk tk fk xs gN iX B') u' (if d.j=d.j then fJ (Nb d u Nk w3) ((d.grow Wk tk fk xs gN iX B').Fw d.j) w3 else A d.j) w3 b:=λb hb=>.inl (by rw[bf];exact(hm4 b).2 hb);have N0:∀b,Nk b->d.ro b=none:=λb hb=>by
  rcases H.nk b hb with rfl|⟨h,_⟩
  ·exact(abH a.heap.size ae).2.2.1
  ·exact h.choose_spec.2.2.2.2
 have hFw:∀b,(d.grow Wk tk fk xs gN iX B').Fw d.j b=((d.grow Wk tk fk xs gN iX B').fw d.j b).or (d.ro b):=λb=>rfl;have hz:=Jq _ ⟨by rw[(dD _ _ _).size];exact yy,λb hb hne=>by
   have h1:=((H.nk b hb).resolve_left hne).1;rw[hide_need (hNm b hb),xQ b h1,hFw,N0 b hb,Option.or_none],by
   rw[hide_need (hNm _ H.new),F8,hFw,N0 _ H.new,Option.or_none];rfl,λb hb=>by
   rw[hide_need (.inr (.inr (.inl hb))),Za b hb,MR.ro b hb];have h1:(d.grow Wk tk fk xs gN iX B').fw d.j b=none:=by
    cases e:(d.grow Wk tk fk xs gN iX B').fw d.j b with
    |none=>rfl
    |some f=>simp only[aK.grow,if_true]at e;exact absurd (N0 b (H.fw b f e).1) hb
   have h2:d.fm b=none:=by
    cases e:d.fm b with
    |none=>rfl
    |some f=>obtain⟨_,i,hi,rfl⟩:=X.fmW b f e;exact absurd (X.roW i hi) hb
   rw[hFw,h1,aK.Fm,h2],hres.inv⟩
 obtain⟨N4,m4,T4,Y8,Qr,w4,Qs,D4,DZ,q4,A',Y1,qH,v',rfl,hg4,F4,B6,UE⟩:=line (d:=d.grow Wk tk fk xs gN iX B') (um:=Vv) X' H.uok hk (by rw[H.uext.sched];exact H.sched) (bo:=bo) (lf:=fs) (wfr:=frp) (wfs:=fsp) (if_pos rfl) B5 MR3 (by rw[hcw];exact ha3) (by rw[hcw];exact hz) F3';exact⟨N1+N2+N3+N4,_,T4,b9 (b9 (b9 IK JQ) RA) Y8,Qr,w4,Qs,D4,DZ,q4,A',Y1,qH,v',rfl,hg4,F4,B6,UE⟩
end
structure mN(d:aK)(u:dX)(X:Nat->Prop)(a:World)(t:Nat)(a':World):Prop where
 size:a.heap.size<=a'.heap.size
 same:∀(b:Nat) o,a.heap[b]? =some o->o≠cI->(∀i,i<d.j->b≠d.W i)->¬X b->a'.heap[b]? =some o
 recs:∀i,i<d.j->∃r,u.WR i t r/\(∃c e f,r.heap[d.W i]? =some (.cells c e (0,0))/\d.fm (d.W i)=some f/\a'.heap[d.W i]? =some (.cells c e f))/\(u.Pub i r (d.W i))
 facts:∀i,i<d.j->∀x∈d.facts i,x.1.block=d.W i->a'.cell? x.1=some x.2
 fwl:∀i,i<d.j->∀b f,d.fw i b=some f->b<a'.heap.size
def JM(U:aK->dX):dA (Nat×aK):=λi fr fs a K=>
 (∃k bo,k<i.2.j/\(U i.2).live k i.1/\(U i.2).sched (i.1+1)=k/\(U i.2).may (i.1+1)/\MSpot i.2 k (i.1+1) fr fs bo/\K=λi' aZ bz a'=>i'=(i.1+1,i.2)/\(∃v,aZ=bo.finish v)/\bz=fs/\mN i.2 (U i.2) (λ_=>False) a (i.1+1) a')\/
 (∃Wk tk fk Bi xs gN iX B' Nk ob bo,Birth i.2 (U i.2) (U (i.2.grow Wk tk fk xs gN iX B')) i.1 Wk tk fk Bi xs gN iX B' Nk ob fr fs bo a/\K=λi' aZ bz a'=>i'=(i.1+1,i.2.grow Wk tk fk xs gN iX B')/\(∃v,aZ=bo.finish v)/\bz=fs/\mN (i.2.grow Wk tk fk xs gN iX B') (U (i.2.grow Wk tk fk xs gN iX B')) (λb=>Nk b\/b=tk) a (i.1+1) a')
structure Xn(P:Program)(S:ba)(cs0:List Frame)(U:aK->dX)(Stop:Nat×aK->Frame->List Frame->World->Prop)(m:Machine)(T:Trace):Prop where
 ex:∃gs r sl t d fr fs a A tp Inb D dt q,m=crowd gs r sl/\d.P=P/\d.S=S/\d.cs0=cs0/\d.Fit/\(U d).Ok d/\gs[0]? =some (bh fr (fs++d.cs0))/\Stop (t,d) fr fs a/\Sees (Nm d (gM d a) r) d.Fm a r/\Between d (U d) t A tp (gM d a) Inb r/\CF d.cc 0 d.j 0 Inb .kd D dt q T gs r
section
variable{d:aK}{u:dX}{tp:Nat->Nat}{a r:World}
theorem Between.My(B:Between d u t A tp M Inb r)(X:d.Fit)(U:u.Ok d){d0:aK}(hM:∀b o,a.heap[b]? =some o->o≠cI->bU o=true->(∀i,i<d.j->b≠d.W i)->d.ro b=none->¬Xm b->M b)(MR:qG d M a r)(hK:d.K r):mN d u Xm a t (fJ (Nm d M r) d.Fm r):=by
 have Vx:∀b,(∀i,i<d.j->b≠d.W i)->d.ro b=none->d.Fm b=none:=λb h1 h2=>by
  cases e:d.Fm b with
  |none=>rfl
  |some f=>
   rcases or_some (x:=none) e with h|⟨_,h⟩
   ·obtain⟨_,i,hi,rfl⟩:=X.fmW b f h;exact absurd rfl (h1 i hi)
   ·rw[h2]at h;cases h
 refine⟨by rw[(dD _ _ _).size];exact MR.size,λb o h1 h2 h3 h4=>?_,λi hi=>?_,λi hi x hx hb=>?_,λi hi b f h=>?_⟩
 ·by_cases hn:bU o=true
  ·by_cases hr:d.ro b=none
   ·have hm:M b:=hM b o h1 h2 hn h3 hr h4;rw[hide_need (.inl hm),←MR.own b hm,h1,Vx b h3 hr];cases o<;>rfl
   ·rw[hide_need (.inr (.inr (.inl hr))),←MR.ro b hr];exact h1
  ·have sf:bU o=false:=(by simpa using hn);rw[dh,MR.see b o h1 sf];simp[sf,ou sf]
 ·obtain⟨f,hf⟩:=X.Wfm i hi;obtain⟨c,e,hc,_⟩:=B.wok i f hi hf;have hwr:=(B.rest i hi).wr;refine⟨r,hwr,⟨c,e,f,hc,hf,?_⟩,U.pubW i _ r hi hwr⟩;have:d.Fm (d.W i)=some f:=by simp[aK.Fm,hf]
  rw[hide_need (.inr (.inl ⟨i,hi,rfl⟩)),hc,this];rfl
 ·rw[←hK.1.2.1 i hi x hx];exact(cell_chill ((dD (Nm d M r) d.Fm r).need (b:=x.1.block) (.inr (.inl ⟨i,hi,hb⟩)))).symm
 ·obtain⟨_,c,e,hc⟩:=(B.rest i hi).fw b f h;rw[(dD _ _ _).size];exact aw hc
theorem Between.norm(X:d.Fit){r1:World}(B1:Between d u t A' tp (gM d a1) Inb r1)(L1:tK d.cc (Nm d M r) d.Fm r a1 r1)(R1:Rel (Hid (Nm d M r) r) a1 r1):Sees (Nm d (gM d a1) r1) d.Fm a1 r1:=by
 refine L1.sees.norm (λb o hb ho=>?_) λb o hb hn=>⟨λhp=>?_,λh hp=>?_⟩
 ·rcases hb with h|⟨i,hi,rfl⟩|h|h
  ·by_cases hM:gM d a1 b
   ·exact B1.oks b o (.inl hM) ho
   ·have hn:=L1.sees.need (.inl h);rw[ho]at hn;by_cases sM:ej o=true
    ·exact sM
    ·exfalso;have hh:¬Hid (Nm d M r) r b:=λ⟨_,_,_,h2⟩=>h2 (.inl h);have:=R1.objs b hh _ hn;rw[oh]at this;exact sM this
  ·exact B1.oks _ o (.inr (.inr (.inr ⟨i,hi,B1.qF X hi⟩))) ho
  ·exact B1.oks b o (.inr (.inr (.inl h))) ho
  ·have hn:=L1.sees.need (.inr (.inr (.inr h)));rw[ho]at hn;have hh:¬Hid (Nm d M r) r b:=λ⟨_,_,_,h2⟩=>h2 (.inr (.inr (.inr h)));have:=R1.objs b hh _ hn;rwa [oh]at this
 ·by_cases h1:∃i,i<d.j/\b=d.W i
  ·exact .inr (.inl h1)
  ·by_cases h2:d.ro b=none
   ·exact .inl ⟨o,hb,hp,hn,λi hi e=>h1 ⟨i,hi,e⟩,h2⟩
   ·exact .inr (.inr (.inl h2))
 ·subst hp;obtain⟨y,hy⟩:∃y,r1.heap[b]? =some y:=by have:=aw hb;rw[L1.sees.size]at this;exact⟨_,dI this⟩
  have hcell:∀c e,y≠.cells c e (0,0)\/¬Nm d M r b:=λc e=>by apply cY;intro hc;simp only[not_or]at hc;have:=L1.sees.need (Classical.not_not.1 hc.2);rw[hb,hy,Classical.not_not.1 hc.1,kS,qB]at this;cases this
  rcases h with⟨o',h1,h2,_⟩|⟨i,hi,rfl⟩|h|h
  ·rw[hb]at h1;exact h2 (aP h1).symm
  ·obtain⟨f,hf⟩:=X.Wfm i hi;obtain⟨c,e,hc,_⟩:=B1.wok i f hi hf;rw[hy]at hc;exact(hcell c e).elim (λh=>h (aP hc)) λh=>h (.inr (.inl ⟨i,hi,rfl⟩))
  ·obtain⟨f,hf⟩:=kU.1 h;obtain⟨c,e,hc,_⟩:=B1.rook b f hf;rw[hy]at hc;exact(hcell c e).elim (λh=>h (aP hc)) λh'=>h' (.inr (.inr (.inl h)))
  ·have:=aw hy;omega
theorem abJ{P:Program}{U:aK->dX}{Stop:Nat×aK->Frame->List Frame->World->Prop}{i:Nat×aK}(hz:ZigC P true cs0 (JM U) Stop i fr fs a):
  i.2.P=P->i.2.S=S->i.2.cs0=cs0->i.2.Fit->(U i.2).Ok i.2->∀(A:Nat->World) (tp:Nat->Nat) (M:Nat->Prop) (Inb:Nat->Option Seat) (D:Nat->WD) (dt:Nat->Bool) (q:Nat->Nat) (T:Trace) (gs:Array Goroutine) (r:World) (sl:Option (Nat×Nat)),
   Sees (Nm i.2 M r) i.2.Fm a r->Between i.2 (U i.2) i.1 A tp M Inb r->gs[0]? =some (bh fr (fs++i.2.cs0))->CF i.2.cc 0 i.2.j 0 Inb .kd D dt q T gs r->
   ∃n m' T',runNT P n (crowd gs r sl) T=(.next m',T')/\Xn P S cs0 U Stop m' T':=by
 refine ZigC.along (λi fr fs a=>i.2.P=P->i.2.S=S->i.2.cs0=cs0->i.2.Fit->(U i.2).Ok i.2->∀(A:Nat->World) (tp:Nat->Nat) (M:Nat->Prop) (Inb:Nat->Option Seat) (D:Nat->WD) (dt:Nat->Bool) (q:Nat->Nat) (T:Trace) (gs:Array Goroutine) (r:World) (sl:Option (Nat×Nat)),
   Sees (Nm i.2 M r) i.2.Fm a r->Between i.2 (U i.2) i.1 A tp M Inb r->gs[0]? =some (bh fr (fs++i.2.cs0))->CF i.2.cc 0 i.2.j 0 Inb .kd D dt q T gs r->
   ∃n m' T',runNT P n (crowd gs r sl) T=(.next m',T')/\Xn P S cs0 U Stop m' T') ?_ hz
 clear hz;rintro⟨t,d⟩ fr fs a hz hPe hSe hce X V A tp M Inb D dt q T gs r sl fX B hg F;simp only at hPe hSe hce X V fX B hg F;subst hPe hSe hce;have O:=X.ok;have OK:=ln O;have hK:d.K r:=F.K;have hok:∀(b:Nat) o,Nm d M r b->r.heap[b]? =some o->ej o=true:=λb o hb ho=>by
  rcases hb with h|⟨i,hi,rfl⟩|h|h
  ·exact B.oks b o (.inl h) ho
  ·exact B.oks _ o (.inr (.inr (.inr ⟨i,hi,B.qF X hi⟩))) ho
  ·exact B.oks b o (.inr (.inr (.inl h))) ho
  ·have:=aw ho;omega
 have W4:wz d.Fm r:=B.fzM λb f h=>(X.fmW b f h).2;obtain⟨n1,m1,T1,IK,gs1,r1,CL,gD,lf,a1,D1,abG,q1,rfl,hg1,hat,L1,R1,F1⟩:=YZ (main:=true) (sl:=sl) rfl OK au (wC O (B.abx X hK) B.chairs hK) hz fX W4 hok hg F;obtain⟨B1,MR1⟩:=B.main X V hK L1 R1;have hK1:d.K r1:=F1.K;rcases hat with cN|⟨K,⟨hJ,hC⟩,-⟩
 ·exact⟨n1,_,T1,IK,⟨gs1,r1,CL,t,d,gD,lf,a1,A,tp,Inb,D1,abG,q1,rfl,rfl,rfl,rfl,X,V,hg1,cN,B1.norm X L1 R1,B1,F1⟩⟩
 rcases hJ with⟨k,bo,hk,oq,wE,Ga,⟨⟨H0,n0,G0,adH⟩⟩,rfl⟩|⟨Wk,tk,fk,Bi,xs,gN,iX,B',Nk,ob,bo,H,rfl⟩
 ·
  obtain⟨z1,z2,wf2,ws2,abK,⟨nf,hflee⟩,hgo⟩:=(B1.rest k hk).go oq;let wG:Nat->Option Seat:=λx=>if x=0 then some (Seat.one d.come (.int .i64 0) false λx=>x=bh bo (lf++d.cs0))else Inb x
  have uP:∀i,wG (i+1)=Inb (i+1):=λi=>if_neg ae;have hI10:wG 0=some (Seat.one d.come (.int .i64 0) false λx=>x=bh bo (lf++d.cs0)):=if_pos rfl;have Vu:d.pd wG:=λi s b hs hb=>by
   rcases i with _|i
   ·rw[hI10]at hs;obtain rfl:=aP hs;exact .inl (Seat.one_has.1 hb)
   ·rw[uP]at hs;exact B.chairs _ s b hs hb
  have A0:After d.cc 0 Inb wG H0 n0:=by
   refine⟨λs hs=>?_,λs b w hw hs hb=>?_,λi s s' b hi hs hs' hb hb'=>?_,λ_=>by rw[hI10];simp,λx hx=>ae,λi hi=>if_neg hi⟩
   ·rw[hI10]at hs;obtain rfl:=aP hs;exact⟨adH,Seat.one_wf _ _ _ _⟩
   ·rw[hI10]at hs;obtain rfl:=aP hs;obtain rfl:=Seat.one_has.1 hb;obtain⟨⟨_,_,k3⟩,⟨k',k4⟩,_,_⟩:=hw;exact⟨⟨k',k4⟩,bp O.wc,λe=>by have e:d.come=d.C:=e;rw[e,k3]at k4;cases k4⟩
   ·rw[hI10]at hs';obtain rfl:=aP hs';obtain rfl:=Seat.one_has.1 hb';obtain⟨i,rfl⟩:∃x,i=x+1:=⟨i-1,ae⟩;obtain⟨_,_,_,hi,rfl⟩:=B1.seats i s hs;rcases l7 hb with e|e
    ·exact absurd e (O.ct i hi)
    ·exact e
  obtain⟨n2,m2,T2,JQ,Rz,w2,k2,um,D2,abA,q2,g2,rfl,hr2,hc2,hg2,hh2,F2⟩:=Mw (sl:=CL) OK au (y:=k+1) ae abK (kj:=0) rfl (CK O (bp (O.gt k hk)) (O.wt k hk)) (G0 r1) A0 hg1 F1;obtain⟨B2,MR2⟩:=(B1.inb uP Vu).chan X V hK1 hr2 hc2 (bp (O.wt k hk)) (.inr (.inr ⟨k,hk,rfl⟩));have MR2:=MR2 a1 MR1;generalize w2.setChan (d.turn k) 0 #[] false (k2+1) (k2+1) false=r2 at JQ F2 B2 MR2;have hK2:d.K r2:=F2.K;obtain rfl:g2=bh wf2 (ws2++d.cw k):=hh2;have hres:=B2.resume V hk;have hzw:=hgo (t+1) _ (by have:=(B1.rest k hk).le;omega) ⟨wE,Ga,λs h1 h2=>(B1.rest k hk).wait s h1 ae⟩ hres;obtain⟨n3,m3,T3,RA,Qr,r4,Qs,D4,DZ,q4,A',Y1,qH,v',rfl,hg4,F4,B4,UE⟩:=line (um:=um) X V hk wE hI10 B2 MR2 hg2 hzw F2;obtain⟨n5,m5,T5,Zb,hP5⟩:=hC (t+1,d) (bo.finish v') lf _ ⟨rfl,⟨_,rfl⟩,rfl,B4.My (d0:=d) X V (λb o h1 h2 h3 h4 h5 _=>⟨o,h1,h2,h3,h4,h5⟩) UE F4.K⟩ rfl rfl rfl X V _ _ _ _ D4 DZ q4 T3 Qr r4 Qs (dD _ _ _) B4 hg4 F4;exact⟨n1+n2+n3+n5,m5,T5,b9 (b9 (b9 IK JQ) RA) Zb,hP5⟩
 ·
  obtain⟨n2,m2,T2,JQ,Qr,r4,Qs,D4,DZ,q4,A',Y1,qH,v',rfl,hg4,F4,B4,UE⟩:=abF (sl:=CL) X V H B1 MR1 L1.sees.size hg1 F1;obtain⟨n5,m5,T5,Zb,hP5⟩:=hC (t+1,d.grow Wk tk fk xs gN iX B') (bo.finish v') lf _ ⟨rfl,⟨_,rfl⟩,rfl,B4.My (d0:=d) H.fit H.uok (λb o h1 h2 h3 h4 h5 h6=>⟨⟨o,h1,h2,h3,λi hi=>by have:=h4 i (Nat.lt_succ_of_lt hi);simp only[aK.grow]at this;rwa [if_neg ae]at this,h5⟩,λh=>h6 (.inl h),λh=>h6 (.inr h)⟩) UE F4.K⟩ rfl rfl rfl H.fit H.uok _ _ _ _ D4 DZ q4 T2 Qr r4 Qs (dD _ _ _) B4 hg4 F4;exact⟨n1+n2+n5,m5,T5,b9 (b9 IK JQ) Zb,hP5⟩
end
end
section
open Go.Conc Go.ConcN
open Go.ConcR (KK WgAt stA smA rd wr mk Payload Aside2 DC0)
variable[Payload]
def CC.now(c:CC)(K':World->Prop)(hs:∀w,K' w->c.K0 w):CC:={c with K:=K',sub:=hs}
omit[Payload]in
theorem goes_le{P:Program}{main:Bool}{D:World->World->Array Event->Prop}{Stop:Goroutine->World->Prop}:∀{n n':Nat} {g:Goroutine} {w:World},n<=n'->Goes P main R D Stop n g w->Goes P main R D Stop n' g w:=by
 intro n;induction n with
 |zero=>exact λ_ h=>eK h
 |succ n ih=>
  intro n' g w hn h;rcases h with h|⟨hs,h⟩
  ·exact eK h
  ·obtain⟨m,rfl⟩:∃m,n'=m+1:=⟨n'-1,ae⟩;refine .inr ⟨hs,λw₁ hr=>?_⟩;have:=h w₁ hr;cases e:stepG P main g w₁ with
   |go g' w' es=>rw[e,goes_go]at this;rw[goes_go];exact⟨this.1,ih ae this.2⟩
   |_=>rw[e]at this;exact this.elim
section
variable{j:Nat}{dt:Nat->Bool}{w:World}
def JU(Inb:Nat->Option Seat)(dt:Nat->Bool)(kg:Nat->Nat)(z:Nat->Value):Nat->K2:=λi=>match Inb (i+1)with
 |some s=>.fl s (kg i) (z i)
 |none=>if dt i then .un else .wg
theorem closes{hs:∀w,K' w->c.K0 w}(O:c.Ok){a':Goroutine}{es:Array Event}{sl:Option (Nat×Nat)}(hrun:a.status=.running)(hrun':a'.status=.running)(hmw:mayWake c.P a=true)
  (hcl:∀w₁,RH c w w₁->c.K w₁->∃w₂,stepG c.P true a w₁=.go a' w₂ es/\K' w₂/\(∀b,b≠c.gone->w₂.heap[b]? =w₁.heap[b]?))(hes:∀e∈es,W9 c e)(hgw:c.gone≠c.Wg)(hgc:c.gone≠c.C)
  (hseat:∀i s,Inb (i+1)=some s->s.cases[kg i]? =some (rcase c.gone (z i))/\∀g₂,s.home g₂->∃n',∀w,c.K0 w->c.BG i n' (Go.Conc.served g₂ (commResult s.cases s.shape (kg i) (z i) false)) w)
  (hshut:∀w,K' w->∃k r:Nat,w.heap[c.gone]? =some (Obj.chan 0 #[] true k r false))(lg:∀w,K' w->∀i s b,Inb (i+1)=some s->s.has b->b≠c.gone->∃k:Nat,w.heap[b]? =some (Obj.chan 0 #[] false k k false))
  (ha:gs[0]? =some a)(F:CF c 0 j 0 Inb .kd D dt q T gs w):
  ∃N gs' w₁ w₂ sl' T' D' kd q',runNT c.P N (crowd gs w sl) T=(.next (crowd gs' w₂ sl'),T')/\RH c w w₁/\stepG c.P true a w₁=.go a' w₂ es/\gs'[0]? =some a'/\JF (c.now K' hs) j 0 .kd D' kd q' T' gs' w₂:=by
 obtain⟨N,gs,w₀,sl₁,T,w₁,lZ,D,dt,q,hN,hst,ha,hr,F⟩:=await O au hrun (sl:=sl) ha F;obtain⟨w₂,hgo,hK',hb⟩:=hcl w₁ hr F.keep;have hstep:=runT_crowd_go (sl:=lZ) (i:=0) ha (by simpa using hgo);obtain⟨bC,Bj,hno,qz⟩:=yK (c:=c) (i:=0) (fn:=a.frame.fn) (pos:=a.frame.place) hes;have hsz:=F.size;obtain⟨kc,rc,hgone⟩:=hshut w₂ hK';obtain⟨st,sm,hw,hm⟩:=F.group;have hw':WgAt c.ty c.Wg w₂ st sm:=(hb _ (bp hgw)).trans hw;have hdum:w₂.heap[c.C]? =w₁.heap[c.C]? :=hb _ (bp hgc);refine⟨N+1,_,w₁,w₂,lZ,_,D,JU Inb dt kg z,λi=>q (i+1),qC hN (hst.trans hstep),hr,hgo,fD (by simpa using F.hlt),?_⟩;refine⟨by simp[hsz],λi hi=>?_,hK',⟨st,sm,hw',hm⟩,F.pend,F.led.own bC Bj (λ_ h=>h.elim),by rw[qz];exact F.deaf0,λi hi=>by rw[Deaf_other T (by omega:0≠i+1) _ bC];exact F.deafW i hi,λi hi=>?_,λop hop=>?_,λi hi hs=>?_,λop hop=>by simp only[xN,Array.size_map];exact(fu.1 hop).elim (F.who op) (λh=>by rw[bC op h];exact F.hlt)⟩
 ·obtain⟨g,hg⟩:∃g,gs[i+1]? =some g:=⟨gs[i+1]'ae,dI ae⟩;refine⟨woken c.P a a' w₂ g,by rw[eH ae,lQ,hg];rfl,?_⟩;cases e:Inb (i+1)with
  |some s=>
   obtain⟨h7,yI⟩:=F.full i hi (.inl lY);obtain⟨hk,UG⟩:=hseat i s e;have hsit:=F.seat (i+1) g s ae hg e;have YP:=F.wf _ s e;have ek:JU Inb dt kg z i=.fl s (kg i) (z i):=(by simp[JU,e]);rw[ek];refine⟨h7,yI,?_,YP,hk,hshut,λw hw b=>lg w hw i s b e,UG⟩;rcases hsit with⟨k,w₃,hq,hG⟩|⟨hq,g₀,g₂,rfl,hat⟩
   ·have hr:g.status=.running:=iB (λ_ _ x=>x.choose_spec.1) w₁ (c.sub _ F.keep) hG;rw[woken_of_again (again_running w₂ (.inl hr))];have:=je (λ_ _ _ _ x=>x) hG (hs _ hK':RK c.K0 w₃ w₂);exact goes_le ae this
   ·have hw:woken c.P a a' w₂ (parked g₂ s.cases s.shape)={parked g₂ s.cases s.shape with status:=.running}:=(by unfold woken;rw[if_pos (by simp[hmw,hrun'])];exact again_some_closed hk hgone);rw[hw];exact eK λ_ _=>⟨g₂,hat.tries _ _⟩
  |none=>
   rcases F.work i g ae hg e with⟨hu,h7,yI,hU⟩|⟨hu,hW⟩
   ·have ek:JU Inb dt kg z i=.un:=(by simp[JU,e,hu]);rw[ek,woken_of_again (again_running w₂ (.inl (iB (λ_ _ x=>x.1) w₁ (c.sub _ F.keep) hU)))];exact⟨h7,yI,je (λ_ _ _ _ x=>x) (abv hU) (hs _ hK':RK c.K0 w₁ w₂)⟩
   ·have ek:JU Inb dt kg z i=.wg:=(by simp[JU,e,hu]);rw[ek,woken_of_again (again_running w₂ hW.status)];exact iu.rely hW ⟨λb hb=>absurd hb (dV b),λ_=>⟨st,sm,hw'⟩,λ⟨cs,h1,h2⟩=>⟨cs,hdum.trans h1,h2⟩,cell_of_block hdum _⟩
 ·simp only[xN,Array.size_map]at hi;rw[Deaf_other T (by omega:0≠i) _ bC];exact F.above i hi
 ·rcases fu.1 hop with h1|h1
  ·exact F.norel op h1
  ·exact hno op h1
 ·obtain⟨r,hr⟩:=F.rel i hi hs;exact⟨r,hr.appOther bC ae⟩
end
end
section
open Go.Conc Go.ConcN
open Go.ConcR (KK WgAt stA smA rd wr mk Payload Aside2 DC0)
variable[Payload]
theorem iu.running_of{P:Program}{ty:TypeId}{Wg C n s d:Nat}{g:Goroutine}{w:World}(h:iu P ty Wg C n k s m d g w)(h1:s≠1):g.status=.running:=by
 cases h with
 |r0 h=>exact iB (λ_ _ x=>x.1) w (RW.refl w) h
 |low _ h'=>exact h'.running_of h1
structure tM(C Wg:Nat)(w w₁:World):Prop where
 tape:w₁.tape=w.tape
 os:w₁.os=w.os
 output:w₁.output=w.output
 size:w.heap.size<=w₁.heap.size
 block:∀k,k<w.heap.size->k≠C->k≠Wg->w₁.heap[k]? =w.heap[k]?
structure oy(ty:TypeId)(Wg C:Nat)(w w₁:World):Prop where
 aside:tM C Wg w w₁
 live:WgLive ty Wg w->WgLive ty Wg w₁
omit[Payload]in
theorem oy.refl{ty:TypeId}{Wg C:Nat}(w:World):oy ty Wg C w w:=⟨⟨rfl,rfl,rfl,aY _,λ_ _ _ _=>rfl⟩,id⟩
omit[Payload]in
theorem oy.at{ty:TypeId}{Wg C:Nat}(w:World)(d:Nat):oy ty Wg C w (w.at d):=⟨⟨rfl,rfl,rfl,aY _,λ_ _ _ _=>rfl⟩,id⟩
omit[Payload]in
theorem oy.trans{ty:TypeId}{Wg C:Nat}{a b d:World}(h:oy ty Wg C a b)(k:oy ty Wg C b d):oy ty Wg C a d:=⟨⟨k.aside.tape.trans h.aside.tape,k.aside.os.trans h.aside.os,k.aside.output.trans h.aside.output,cn h.aside.size k.aside.size,λx h0 h1 h2=>(k.aside.block x (fp h0 h.aside.size) h1 h2).trans (h.aside.block x h0 h1 h2)⟩,k.live∘h.live⟩
omit[Payload]in
theorem IJ.rc{w:World}(h:IJ c w w'):oy c.ty c.Wg c.C w w':=⟨⟨h.tape,h.os,h.output,h.size,λb h0 _ h2=>h.block b h0 h2⟩,h.live⟩
section
variable(P:Program)(ty:TypeId)(Wg C:Nat)(Rd:Nat->Loc->Prop)(n Low:Nat)(ez Fin:Goroutine->World->Prop)
abbrev GP(Stop:Goroutine->World->Prop):Nat->Goroutine->World->Prop:=Goes P true (oy ty Wg C) (DP Wg BC Rd n Low) Stop
def abL(g:Goroutine)(w:World):Prop:=g.status=.running/\∃g',stepG P true g w=.go g' w #[mk (.acquire (stA Wg))]/\∃m,GP P ty Wg C Rd n Low Fin m g' w
def JEn(g:Goroutine)(w:World):Prop:=g.status=.running/\∃g',stepG P true g w=.go g' w #[mk .enable]/\∃m,GP P ty Wg C Rd n Low (abL P ty Wg C Rd n Low Fin) m g' w
def J4(g:Goroutine)(w:World):Prop:=g.status=.running/\(WgAt ty Wg w 0 0->∃g',stepG P true g w=.go g' w #[rd (stA Wg)]/\∃m,GP P ty Wg C Rd n Low (JEn P ty Wg C Rd n Low Fin) m g' w)
def J3(g:Goroutine)(w:World):Prop:=
 g.status=.running/\g.offers=none/\((∃st,WgAt ty Wg w st 0)->stepG P true g w=.go {g with status:=.blocked} w #[])/\
  (WgAt ty Wg w 0 1->∃g',stepG P true g w=.go g' (w.setCell (smA Wg) (.int .u32 0)) (semEvents (smA Wg))/\∃m,GP P ty Wg C Rd n Low (J4 P ty Wg C Rd n Low Fin) m g' (w.setCell (smA Wg) (.int .u32 0)))
def J2(vs:Nat)(g:Goroutine)(w:World):Prop:=
 g.status=.running/\∀v:Nat,v<2147483648->WgAt ty Wg w (v*KK) 0->
  (v=vs->∃g',stepG P true g w=.go g' (w.setCell (stA Wg) (.int .u64 (v*KK+1))) #[rd (stA Wg),wr (stA Wg)]/\∃m,GP P ty Wg C Rd n Low (J3 P ty Wg C Rd n Low Fin) m g' (w.setCell (stA Wg) (.int .u64 (v*KK+1))))/\
  (v≠vs->∃g',stepG P true g w=.go g' w #[rd (stA Wg)]/\∃m,GP P ty Wg C Rd n Low ez m g' w)
def J1(g:Goroutine)(w:World):Prop:=
 g.status=.running/\∀v:Nat,v<2147483648->WgAt ty Wg w (v*KK) 0->∃g',stepG P true g w=.go g' w #[rd (stA Wg)]/\
  (v=0->∃m,GP P ty Wg C Rd n Low (JEn P ty Wg C Rd n Low Fin) m g' w)/\(v≠0->∃m,GP P ty Wg C Rd n Low (J2 P ty Wg C Rd n Low ez Fin v) m g' w)
def J0(g:Goroutine)(w:World):Prop:=g.status=.running/\∃g',stepG P true g w=.go g' w #[mk .disable]/\∃m,GP P ty Wg C Rd n Low ez m g' w
inductive MSit:CTag->Nat->Nat->Goroutine->World->Prop
 |kd {m:Nat} {g:Goroutine} {w:World}:GP P ty Wg C Rd n Low (J0 P ty Wg C Rd n Low ez) m g w->MSit .kd m 0 g w
 |anch {m:Nat} {g:Goroutine} {w:World}:GP P ty Wg C Rd n Low ez m g w->MSit .anch m 1 g w
 |w1 {m:Nat} {g:Goroutine} {w:World}:GP P ty Wg C Rd n Low (J1 P ty Wg C Rd n Low ez Fin) m g w->MSit .w1 m 1 g w
 |w2 {vs m:Nat} {g:Goroutine} {w:World}:GP P ty Wg C Rd n Low (J2 P ty Wg C Rd n Low ez Fin vs) m g w->MSit (.w2 vs) m 1 g w
 |w3 {m:Nat} {g:Goroutine} {w:World}:GP P ty Wg C Rd n Low (J3 P ty Wg C Rd n Low Fin) m g w->MSit .w3 (m+1) 1 g w
 |blk {g:Goroutine} {w:World}:(∀w₁,oy ty Wg C w w₁->J3 P ty Wg C Rd n Low Fin g w₁)->MSit .blk 0 1 {g with status:=.blocked} w
 |w4 {m:Nat} {g:Goroutine} {w:World}:GP P ty Wg C Rd n Low (J4 P ty Wg C Rd n Low Fin) m g w->MSit .w4 m 1 g w
 |ke {m:Nat} {g:Goroutine} {w:World}:GP P ty Wg C Rd n Low (JEn P ty Wg C Rd n Low Fin) m g w->MSit .ke m 1 g w
 |acq {m:Nat} {g:Goroutine} {w:World}:GP P ty Wg C Rd n Low (abL P ty Wg C Rd n Low Fin) m g w->MSit .acq m 0 g w
 |ret {m:Nat} {g:Goroutine} {w:World}:GP P ty Wg C Rd n Low Fin m g w->MSit .ret m 0 g w
end
section
variable{P:Program}{ty:TypeId}{Wg C:Nat}{Rd:Nat->Loc->Prop}{n Low:Nat}{ez Fin:Goroutine->World->Prop}{tag:CTag}{f d:Nat}{g:Goroutine}{w:World}
omit[Payload]in
theorem MSit.rely(h:MSit P ty Wg C Rd n Low ez Fin tag f d g w)(hr:oy ty Wg C w w'):MSit P ty Wg C Rd n Low ez Fin tag f d g w':=by
 have tr:∀a b c,oy ty Wg C a b->oy ty Wg C b c->oy ty Wg C a c:=λ_ _ _ h1 h2=>h1.trans h2;cases h with
 |kd h=>exact .kd (je tr h hr)
 |anch h=>exact .anch (je tr h hr)
 |w1 h=>exact .w1 (je tr h hr)
 |w2 h=>exact .w2 (je tr h hr)
 |w3 h=>exact .w3 (je tr h hr)
 |blk h=>exact .blk λw₁ h₁=>h w₁ (hr.trans h₁)
 |w4 h=>exact .w4 (je tr h hr)
 |ke h=>exact .ke (je tr h hr)
 |acq h=>exact .acq (je tr h hr)
 |ret h=>exact .ret (je tr h hr)
omit[Payload]in
theorem MSit.status(hA:∀g w,ez g w->g.status=.running)(hF:∀g w,Fin g w->g.status=.running)(h:MSit P ty Wg C Rd n Low ez Fin tag f d g w):
  (g.status=.running/\tag≠.blk)\/(tag=.blk/\f=0/\d=1/\g.status=.blocked/\g.offers=none/\∃g₀,g={g₀ with status:=.blocked}/\∀w₁,oy ty Wg C w w₁->J3 P ty Wg C Rd n Low Fin g₀ w₁):=by
 cases h with
 |kd h=>exact .inl ⟨iB (λ_ _ x=>x.1) w (oy.refl w) h,au⟩
 |anch h=>exact .inl ⟨iB hA w (oy.refl w) h,au⟩
 |w1 h=>exact .inl ⟨iB (λ_ _ x=>x.1) w (oy.refl w) h,au⟩
 |w2 h=>exact .inl ⟨iB (λ_ _ x=>x.1) w (oy.refl w) h,au⟩
 |w3 h=>exact .inl ⟨iB (λ_ _ x=>x.1) w (oy.refl w) h,au⟩
 |blk h=>exact .inr ⟨rfl,rfl,rfl,rfl,(h w (oy.refl w)).2.1,_,rfl,h⟩
 |w4 h=>exact .inl ⟨iB (λ_ _ x=>x.1) w (oy.refl w) h,au⟩
 |ke h=>exact .inl ⟨iB (λ_ _ x=>x.1) w (oy.refl w) h,au⟩
 |acq h=>exact .inl ⟨iB (λ_ _ x=>x.1) w (oy.refl w) h,au⟩
 |ret h=>exact .inl ⟨iB hF w (oy.refl w) h,au⟩
omit[Payload]in
theorem MSit.woken(hA:∀g w,ez g w->g.status=.running)(hF:∀g w,Fin g w->g.status=.running)(h:MSit P ty Wg C Rd n Low ez Fin tag f d g w)(hr:oy ty Wg C w w')(x x':Goroutine):
  ∃bD f',(bD=tag\/(tag=.blk/\bD=.w3))/\(mayWake P x=true->x'.status=.running->bD≠.blk)/\MSit P ty Wg C Rd n Low ez Fin bD f' d (Go.Conc.woken P x x' w' g) w'/\f'<=f+1:=by
 rcases h.status hA hF with⟨hs,ht⟩|⟨rfl,rfl,rfl,_,ho,g₀,rfl,h3⟩
 ·exact⟨tag,f,.inl rfl,λ_ _=>ht,by rw[woken_of_again (again_running w' (.inl hs))];exact h.rely hr,ae⟩
 ·by_cases hw:(mayWake P x&&x'.status !=.blocked&&x'.status !=.waiting)=true
  ·have e:Go.Conc.woken P x x' w' {g₀ with status:=.blocked}=g₀:=(by have h1:=(h3 w (oy.refl w)).1;have sM:g₀.offers=none:=(h3 w (oy.refl w)).2.1;unfold Go.Conc.woken;rw[if_pos hw];obtain⟨fr,cs,st,dy,off⟩:=g₀;simp only at h1 sM;subst h1 sM;simp[Goroutine.again]);rw[e];exact⟨.w3,1,.inr ⟨rfl,rfl⟩,λ_ _=>au,.w3 (m:=0) (eK λw₁ h₁=>h3 w₁ (hr.trans h₁)),ae⟩
  ·refine⟨.blk,0,.inl rfl,λh1 h2=>absurd (by rw[h1,h2];rfl) hw,?_,ae⟩;unfold Go.Conc.woken;rw[if_neg hw];exact .blk λw₁ h₁=>h3 w₁ (hr.trans h₁)
end
section
variable{j:Nat}{tag:CTag}{kd:Nat->K2}{w:World}
theorem JF.DT(F:JF c j d0 tag D kd q T gs w){pos:String}{es:Array Event}(hK:c.K w')(hdum:w'.heap[c.C]? =w.heap[c.C]?)(hgroup:∃st sm,WgAt c.ty c.Wg w' st sm/\ConcN.Mode j D bD st sm)
  (hpend:j+ConcN.pend bD<2147483648)(hes:∀e∈es,FT c e)(hsz:gs'.size=gs.size)(kr:∀x,x<j->gs'[x+1]? =gs[x+1]?):JF c j (deafBehind d0 es) bD D kd q (T++MemOp.ofEvents 0 fn pos es) gs' w':=by
 have bC:∀op∈MemOp.ofEvents 0 fn pos es,op.g=0:=λop hop=>by obtain⟨e,_,rfl⟩:=Go.Conc.mem_ofEvents hop;rfl
 have hs:∀op∈MemOp.ofEvents 0 fn pos es,∀b,op.act.touch? =some b->(∀g,c.S g b.loc->b.write=false)/\(ShN c.Wg b.loc->b.kind≠.plain):=λop hop b hb=>by obtain⟨e,h,rfl⟩:=Go.Conc.mem_ofEvents hop;exact(hes e h).1 b hb
 have hno:∀op∈MemOp.ofEvents 0 fn pos es,op.act≠.mark (.release (stA c.Wg)):=λop hop hm=>by obtain⟨ev,Jv,rfl⟩:=Go.Conc.mem_ofEvents hop;refine(hes ev Jv).2 ?_;obtain⟨loc,wr,sy⟩:=ev;cases loc<;>simp_all [MemAct.ofEvent] <;>(split at hm<;>simp_all)
 obtain⟨st,sm,hw',hm⟩:=hgroup;refine⟨hsz.trans F.size,λi hi=>?_,hK,⟨st,sm,hw',hm⟩,hpend,F.led.own bC hs (λ_ h=>h.elim),by rw[Deaf_own,F.deaf0],λi hi=>?_,λi hi=>?_,λop hop=>?_,λi hi hst=>?_,λop hop=>by rw[hsz];exact(fu.1 hop).elim (F.who op) (λh=>by rw[bC op h];have:=F.size;omega)⟩
 ·obtain⟨g,h1,h2⟩:=F.work i hi;exact⟨g,by rw[kr i hi];exact h1,h2.rely hK ⟨λb hb=>absurd hb (dV b),λ_=>⟨st,sm,hw'⟩,λ⟨cs,h1,h2⟩=>⟨cs,hdum.trans h1,h2⟩,cell_of_block hdum _⟩⟩
 ·rw[Deaf_other T (by omega:0≠i+1) _ bC];exact F.deafW i hi
 ·rw[hsz]at hi;have:=F.size;rw[Deaf_other T (by omega:0≠i) _ bC];exact F.above i hi
 ·rcases fu.1 hop with h1|h1
  ·exact F.norel op h1
  ·exact hno op h1
 ·obtain⟨r,hr⟩:=F.rel i hi hst;exact⟨r,hr.appOther bC ae⟩
def Moved0(c:CC)(j:Nat)(Rd:Nat->Loc->Prop)(n Low:Nat)(ez Fin:Goroutine->World->Prop)(tag:CTag)(f:Nat)(D:Nat->WD)(kd:Nat->K2)(q:Nat->Nat)(T:Trace)(gs:Array Goroutine)(w:World)(sl:Option (Nat×Nat)):Prop:=
 ∃gs' w' ops bD f' d' a',runT c.P (crowd gs w sl) 0=(.next (crowd gs' w' sl),ops)/\gs'[0]? =some a'/\MSit c.P c.ty c.Wg c.C Rd n Low ez Fin bD f' d' a' w'/\JF c j d' bD D kd q (T++ops) gs' w'/\
  (phi j (Vc j D) bD<phi j (Vc j D) tag\/(phi j (Vc j D) bD=phi j (Vc j D) tag/\f'<f))/\(bD=.ret->AcqAll c.Wg j (T++ops))
theorem JF.step0(F:JF c j d0 tag D kd q T gs w)(O:c.Ok){Rd:Nat->Loc->Prop}{n Low:Nat}{ez Fin:Goroutine->World->Prop}(Vw:∀w w' es,DP c.Wg BC Rd n Low w w' es->FP c (λ_=>none) 0 w w' es)
  (hAn:∀g w,ez g w->∃m,GP c.P c.ty c.Wg c.C Rd n Low (J1 c.P c.ty c.Wg c.C Rd n Low ez Fin) m g w){f:Nat}{sl:Option (Nat×Nat)}(ha:gs[0]? =some a)(hM:MSit c.P c.ty c.Wg c.C Rd n Low ez Fin tag f d0 a w)(hrun:a.status=.running)(Gb:tag≠.ret)(hsp:∀r s,tag≠.sp r s):
  Moved0 c j Rd n Low ez Fin tag f D kd q T gs w sl:=by
 have hsz:=F.size;have hp0:∀tg,(∀r s,tg≠CTag.sp r s)->ConcN.pend tg=0:=λtg h=>by cases tg<;>first|rfl|exact absurd rfl (h _ _)
 have hpj:∀tg,(∀r s,tg≠CTag.sp r s)->j+ConcN.pend tg<2147483648:=λtg h=>by rw[hp0 tg h];have:=F.pend;omega
 have get:∀(a':Goroutine) (w':World) (x:Nat),x<j->((gs.map (woken c.P a a' w')).setIfInBounds 0 a')[x+1]? =gs[x+1]? :=by intro a' w' x hx;obtain⟨y,hy,hW⟩:=F.work x hx;rw[eH ae,lQ,hy];simp[woken_of_again (again_running w' (hW.status F.keep))]
 have Zc:∀(a':Goroutine) (w':World),((gs.map (woken c.P a a' w')).setIfInBounds 0 a')[0]? =some a':=λa' w'=>fD (by simp[hsz]);obtain⟨st,sm,jR,gB⟩:=F.group;have hVj:=Vc_le j D;have hVb:Vc j D<2147483648:=by have:=F.pend;omega
 have act:∀{a':Goroutine} {w':World} {es:Array Event} {bD:CTag} {f':Nat} {CG II:Int},stepG c.P true a w=.go a' w' es->Aside c.Wg w w'->WgAt c.ty c.Wg w' CG II->ConcN.Mode j D bD CG II->(∀r s,bD≠.sp r s)->(∀e∈es,FT c e)->
   MSit c.P c.ty c.Wg c.C Rd n Low ez Fin bD f' (deafBehind d0 es) a' w'->(phi j (Vc j D) bD<phi j (Vc j D) tag\/(phi j (Vc j D) bD=phi j (Vc j D) tag/\f'<f))->(bD=.ret->AcqAll c.Wg j (T++MemOp.ofEvents 0 a.frame.fn a.frame.place es))->Moved0 c j Rd n Low ez Fin tag f D kd q T gs w sl:=by
  intro a' w' es bD f' CG II hgo hA hw' vP RG hes JX adI Zd;have hr:RH c w w':=⟨hA.tape,hA.os,hA.output,hA.size,λb h1=>hA.block b h1,λ_=>⟨_,_,hw'⟩⟩;exact⟨_,w',_,bD,f',_,a',runT_crowd_go (sl:=sl) (i:=0) ha (by simpa using hgo),Zc a' w',JX,F.DT (O.keep _ _ hr.g F.keep) (hA.block _ O.away) ⟨CG,II,hw',vP⟩ (hpj bD RG) hes au (get a' w'),adI,Zd⟩
 have idle:∀{a':Goroutine} {w':World} {es:Array Event} {f':Nat},stepG c.P true a w=.go a' w' es->DP c.Wg BC Rd n Low w w' es->MSit c.P c.ty c.Wg c.C Rd n Low ez Fin tag f' d0 a' w'->f'<f->Moved0 c j Rd n Low ez Fin tag f D kd q T gs w sl:=by intro a' w' es f' hgo hd JX hf;have hD:=Vw _ _ _ hd;have qz:deafBehind d0 es=d0:=deafBehind_still (λe h=>⟨(hD.evs e h).2.1,(hD.evs e h).2.2.1⟩) _;refine⟨_,w',_,tag,f',_,a',runT_crowd_go (sl:=sl) (i:=0) ha (by simpa using hgo),Zc a' w',by rw[qz];exact JX,F.DT (hD.keep F.keep) hD.dum ⟨st,sm,hD.wg.trans jR,gB⟩ F.pend (λe h=>⟨(hD.evs e h).1,(hD.evs e h).2.2.2⟩) au (get a' w'),.inr ⟨rfl,hf⟩,λe=>absurd e Gb⟩
 have Xk:∀m,m≠.release (stA c.Wg)->(MemAct.mark m).touch? =none->∀e∈#[Go.ConcR.mk m],FT c e:=by intro m h1 h2 e he;simp at he;subst he;exact⟨λx hx=>(by simp only[Go.ConcR.mk,MemAct.ofEvent]at hx;rw[h2]at hx;cases hx),(by simp[Go.ConcR.mk,h1])⟩
 have wgE:∀(ad:Addr) (wr:Bool),ad.block=c.Wg->FT c ⟨.cell ad,wr,true⟩:=λad wr hb=>⟨λx hx=>(by cases wr<;>(simp only[MemAct.ofEvent,MemAct.touch?,cu]at hx;subst hx;exact⟨λg hg=>absurd ⟨_,rfl,hb⟩ (O.still g _ hg).2,λ_=>au⟩)),au⟩;have opn:∀{tg:CTag},isOpen tg->(∀r s,tg≠.sp r s)->ConcN.Mode j D tag st sm->isOpen tag->OpenSt j D/\st=((Vc j D:Nat):Int) *KK/\sm=0/\((∀vs,tg=.w2 vs->Vc j D<=vs/\1<=vs)->ConcN.Mode j D tg (((Vc j D:Nat):Int) *KK) 0):=by
  intro tg ht hs hm ho;cases hm with
  |opn h1 h2 h3=>refine⟨h2,by rw[hp0 tag hsp];simp,rfl,λh=>?_⟩;have:=ConcN.Mode.opn (j:=j) (D:=D) (tag:=tg) ht h2 h;rwa [hp0 tg hs,Nat.add_zero]at this
  |reg h1 _ _=>cases tag<;>first|exact h1.elim|exact ho.elim
  |last L h1 _ _ _=>cases tag<;>first|exact h1.elim|exact ho.elim
  |sema _=>exact ho.elim
  |fin h1 _=>cases tag<;>first|exact h1.elim|exact ho.elim
 have load:isOpen tag->8*Vc j D+5<=phi j (Vc j D) tag->d0=1->∀m,GP c.P c.ty c.Wg c.C Rd n Low (J1 c.P c.ty c.Wg c.C Rd n Low ez Fin) m a w->(∀a' w' f',MSit c.P c.ty c.Wg c.C Rd n Low ez Fin .w1 f' 1 a' w'->f'<m->∀es,stepG c.P true a w=.go a' w' es->DP c.Wg BC Rd n Low w w' es->Moved0 c j Rd n Low ez Fin tag f D kd q T gs w sl)->Moved0 c j Rd n Low ez Fin tag f D kd q T gs w sl:=by
  intro ho hph NN m hG mO;rcases jG hG with cN|⟨m',vP,hstep⟩
  ·obtain⟨_,hall⟩:=cN w (oy.refl w);obtain⟨hop,rfl,rfl,hmk⟩:=opn (tg:=.w2 (Vc j D)) trivial au gB ho;obtain⟨g',hgo,h0,h1⟩:=hall (Vc j D) hVb jR;have hes:∀e∈#[rd (stA c.Wg)],FT c e:=(by intro e he;simp at he;subst he;exact wgE _ _ rfl);have qz:deafBehind d0 #[rd (stA c.Wg)]=1:=(by rw[NN];rfl);by_cases hv:Vc j D=0
   ·obtain⟨m2,hk⟩:=h0 hv;have hq:AllQuit j D:=λi hi=>(by have h2:=hop i hi;have h3:=le_sumTo (f:=λx=>cnt (D x)) hi;simp only[Vc]at hv;have h4:cnt (D i)=0:=ae;simp only[cnt]at h4;split at h4<;>omega);refine act hgo (.refl c.Wg w) jR (by rw[hv];simpa using ConcN.Mode.fin (j:=j) (D:=D) (tag:=.ke) trivial hq) au hes (by rw[qz];exact .ke hk) (.inl ?_) au;rw[show phi j (Vc j D) .ke=3 from rfl];omega
   ·obtain⟨m2,hk⟩:=h1 hv;refine act hgo (.refl c.Wg w) jR (hmk λvs e=>by cases e;omega) au hes (by rw[qz];exact .w2 hk) (.inl ?_) au;rw[show phi j (Vc j D) (.w2 (Vc j D))=8*Vc j D+4 from rfl];omega
  ·obtain⟨g',w',es,hgo,hd,p9⟩:=hstep w (oy.refl w);exact mO g' w' m' (.w1 p9) ae es hgo hd
 cases hM with
 |kd h=>
  rcases jG h with cN|⟨m',rfl,hstep⟩
  ·obtain⟨_,g',hgo,m2,hk⟩:=cN w (oy.refl w);obtain⟨_,rfl,rfl,hmk⟩:=opn (tg:=.anch) trivial au gB trivial;exact act hgo (.refl c.Wg w) jR (hmk au) au (Xk .disable au rfl) (.anch hk) (.inl sN) au
  ·obtain⟨g',w',es,hgo,hd,p9⟩:=hstep w (oy.refl w);exact idle hgo hd (.kd p9) ae
 |anch h=>
  rcases jG h with cN|⟨m',rfl,hstep⟩
  ·obtain⟨m,hG⟩:=hAn a w (cN w (oy.refl w));refine load trivial sN rfl m hG λa' w' f' JX hf es hgo hd=>?_;have hD:=Vw _ _ _ hd;have qz:deafBehind 1 es=1:=deafBehind_still (λe h=>⟨(hD.evs e h).2.1,(hD.evs e h).2.2.1⟩) _;obtain⟨_,rfl,rfl,hmk⟩:=opn (tg:=.w1) trivial au gB trivial;exact⟨_,w',_,.w1,f',_,a',runT_crowd_go (sl:=sl) (i:=0) ha (by simpa using hgo),Zc a' w',by rw[qz];exact JX,F.DT (hD.keep F.keep) hD.dum ⟨_,_,hD.wg.trans jR,hmk au⟩ (hpj _ au) (λe h=>⟨(hD.evs e h).1,(hD.evs e h).2.2.2⟩) au (get a' w'),.inl sN,au⟩
  ·obtain⟨g',w',es,hgo,hd,p9⟩:=hstep w (oy.refl w);exact idle hgo hd (.anch p9) ae
 |w1 h=>exact load trivial sN rfl _ h λa' w' f' JX hf es hgo hd=>idle hgo hd JX hf
 | @w2 vs _ _ _ h=>
  rcases jG h with cN|⟨m',rfl,hstep⟩
  ·obtain⟨_,hall⟩:=cN w (oy.refl w);have hvs:Vc j D<=vs/\1<=vs:=by
    cases gB with
    |opn _ _ h3=>exact h3 vs rfl
    |reg h1 _ _=>exact h1.elim
    |last L h1 _ _ _=>exact h1.elim
    |fin h1 _=>exact h1.elim
   obtain⟨hop,rfl,rfl,hmk⟩:=opn (tg:=.anch) trivial au gB trivial;obtain⟨hit,adJ⟩:=hall (Vc j D) hVb jR;by_cases hv:Vc j D=vs
   ·obtain⟨g',hgo,m2,hk⟩:=hit hv;exact act hgo (aside_setCell w (stA c.Wg) _) (jR.setSt _) (.reg (j:=j) (D:=D) (tag:=.w3) trivial hop ae) au (by intro e he;simp at he;rcases he with rfl|rfl<;>exact wgE _ _ rfl) (.w3 hk) (.inl sN) au
   ·obtain⟨g',hgo,m2,hk⟩:=adJ hv;exact act hgo (.refl c.Wg w) jR (hmk au) au (by intro e he;simp at he;subst he;exact wgE _ _ rfl) (.anch hk) (.inl sN) au
  ·obtain⟨g',w',es,hgo,hd,p9⟩:=hstep w (oy.refl w);exact idle hgo hd (.w2 p9) ae
 |w3 h=>
  rcases jG h with cN|⟨m',rfl,hstep⟩
  ·obtain⟨_,_,hblk,hgot⟩:=cN w (oy.refl w);have blk:sm=0->ConcN.Mode j D .blk st sm->Moved0 c j Rd n Low ez Fin .w3 _ D kd q T gs w sl:=λh0 hm=>(by subst h0;have hgo:=hblk ⟨st,jR⟩;exact act hgo (.refl c.Wg w) jR hm au au (.blk cN) (.inr ⟨by simp only[phi],ae⟩) au);cases gB with
   |opn h1 _ _=>exact h1.elim
   |reg _ h2 h3=>exact blk rfl (.reg trivial h2 h3)
   |last L _ h2 h3 h4=>exact blk rfl (.last L trivial h2 h3 h4)
   |sema h2=>
    obtain⟨g',hgo,m2,hk⟩:=hgot jR;refine act hgo (aside_setCell w (smA c.Wg) _) (jR.setSm 0) (.fin (j:=j) (D:=D) (tag:=.w4) trivial h2) au (λe he=>?_) (by simpa[deafBehind,semEvents]using MSit.w4 hk) (.inl sN) au;simp[semEvents]at he;rcases he with rfl|rfl|rfl|rfl
    ·exact Xk .disable au rfl _ (by simp[Go.ConcR.mk])
    ·exact wgE _ _ rfl
    ·exact wgE _ _ rfl
    ·exact Xk .enable au rfl _ (by simp[Go.ConcR.mk])
   |fin h1 _=>exact h1.elim
  ·obtain⟨g',w',es,hgo,hd,p9⟩:=hstep w (oy.refl w);exact idle hgo hd (.w3 p9) ae
 |blk h=>cases hrun
 |w4 h=>
  rcases jG h with cN|⟨m',rfl,hstep⟩
  ·obtain⟨_,hx⟩:=cN w (oy.refl w);cases gB with
   |fin _ h2=>obtain⟨g',hgo,m2,hk⟩:=hx jR;exact act hgo (.refl c.Wg w) jR (.fin (j:=j) (D:=D) (tag:=.ke) trivial h2) au (by intro e he;simp at he;subst he;exact wgE _ _ rfl) (.ke hk) (.inl sN) au
   |opn h1 _ _=>exact h1.elim
   |reg h1 _ _=>exact h1.elim
   |last L h1 _ _ _=>exact h1.elim
  ·obtain⟨g',w',es,hgo,hd,p9⟩:=hstep w (oy.refl w);exact idle hgo hd (.w4 p9) ae
 |ke h=>
  rcases jG h with cN|⟨m',rfl,hstep⟩
  ·obtain⟨_,g',hgo,m2,hk⟩:=cN w (oy.refl w);cases gB with
   |fin _ h2=>exact act hgo (.refl c.Wg w) jR (.fin (j:=j) (D:=D) (tag:=.acq) trivial h2) au (Xk .enable au rfl) (.acq hk) (.inl sN) au
   |opn h1 _ _=>exact h1.elim
   |reg h1 _ _=>exact h1.elim
   |last L h1 _ _ _=>exact h1.elim
  ·obtain⟨g',w',es,hgo,hd,p9⟩:=hstep w (oy.refl w);exact idle hgo hd (.ke p9) ae
 |acq h=>
  rcases jG h with cN|⟨m',rfl,hstep⟩
  ·obtain⟨_,g',hgo,m2,hk⟩:=cN w (oy.refl w);cases gB with
   |fin _ h2=>refine act hgo (.refl c.Wg w) jR (.fin (j:=j) (D:=D) (tag:=.ret) trivial h2) au (Xk (.acquire _) au rfl) (.ret hk) (.inl sN) λ_=>?_;have e1:MemOp.ofEvents 0 a.frame.fn a.frame.place #[Go.ConcR.mk (.acquire (stA c.Wg))]=#[{g:=0,fn:=a.frame.fn,pos:=a.frame.place,act:=.mark (.acquire (stA c.Wg))}]:=(by rw[ofEvents_eq];simp[Go.ConcR.mk,MemAct.ofEvent]);rw[e1];have hy:(T++ #[({g:=0,fn:=a.frame.fn,pos:=a.frame.place,act:=.mark (.acquire (stA c.Wg))}:MemOp)])[T.size]? =some {g:=0,fn:=a.frame.fn,pos:=a.frame.place,act:=.mark (.acquire (stA c.Wg))}:=au;refine⟨T.size,by rw[act?_of hy],by rw[g?_of hy],⟨0,by rw[g?_of hy],by rw[deaf_old (aY _)];exact F.deaf0⟩,λi hi=>?_⟩;obtain⟨r,hr⟩:=F.rel i hi (by rw[h2 i hi];omega);exact⟨r,hr.appOther (g:=0) (by intro op hop;simp at hop;subst hop;rfl) ae,lt_of_act? hr.act⟩
   |opn h1 _ _=>exact h1.elim
   |reg h1 _ _=>exact h1.elim
   |last L h1 _ _ _=>exact h1.elim
  ·obtain⟨g',w',es,hgo,hd,p9⟩:=hstep w (oy.refl w);exact idle hgo hd (.acq p9) ae
 |ret h=>exact absurd rfl Gb
theorem JF.Vy(F:JF c j d0 tag D kd q T gs w){Rd:Nat->Loc->Prop}{n Low f:Nat}{ez Fin:Goroutine->World->Prop}(hA:∀g w,ez g w->g.status=.running)(hF:∀g w,Fin g w->g.status=.running)(ha:gs[0]? =some a)
  (hM:MSit c.P c.ty c.Wg c.C Rd n Low ez Fin tag f d0 a w):∃(i:Nat) (g:Goroutine),gs[i]? =some g/\g.status=.running:=by
 rcases hM.status hA hF with⟨hs,_⟩|⟨rfl,_⟩
 ·exact⟨0,a,ha,hs⟩
 ·have run:∀i,i<j->(D i).stage≠1->∃g,gs[i+1]? =some g/\g.status=.running:=λi hi h1=>by
   obtain⟨g,hg,hW⟩:=F.work i hi;refine⟨g,hg,?_⟩;cases hk:kd i with
   |fl s kg z=>rw[hk]at hW;exact iB (λ_ _ x=>x.choose_spec.1) w (c.sub _ F.keep) hW.2.2.goes
   |un=>rw[hk]at hW;exact iB (λ_ _ x=>x.1) w (c.sub _ F.keep) hW.2.2
   |wg=>rw[hk]at hW;exact iu.running_of hW h1
  obtain⟨st,sm,_,hm⟩:=F.group;cases hm with
  |opn h1 _ _=>exact h1.elim
  |reg _ _ h3=>obtain⟨i,hi,h5⟩:=exists_counted h3;obtain⟨g,hg,hs⟩:=run i hi ae;exact⟨i+1,g,hg,hs⟩
  |last L _ h2 h3 _=>obtain⟨g,hg,hs⟩:=run L h2 ae;exact⟨L+1,g,hg,hs⟩
  |fin h1 _=>exact h1.elim
theorem joins(O:c.Ok){Rd:Nat->Loc->Prop}{n Low:Nat}{ez Fin:Goroutine->World->Prop}(Vw:∀w w' es,DP c.Wg BC Rd n Low w w' es->FP c (λ_=>none) 0 w w' es)(hA:∀g w,ez g w->g.status=.running)(hF:∀g w,Fin g w->g.status=.running)
  (hAn:∀g w,ez g w->∃m,GP c.P c.ty c.Wg c.C Rd n Low (J1 c.P c.ty c.Wg c.C Rd n Low ez Fin) m g w){f:Nat}{sl:Option (Nat×Nat)}(ha:gs[0]? =some a)(hM:MSit c.P c.ty c.Wg c.C Rd n Low ez Fin tag f d0 a w)(Gb:tag≠.ret)(hsp:∀r s,tag≠.sp r s)(F:JF c j d0 tag D kd q T gs w):
  ∃N gs' w' sl' T' D' Ru q' a' m,runNT c.P N (crowd gs w sl) T=(.next (crowd gs' w' sl'),T')/\gs'[0]? =some a'/\GP c.P c.ty c.Wg c.C Rd n Low Fin m a' w'/\JF c j 0 .ret D' Ru q' T' gs' w'/\AcqAll c.Wg j T'/\AllQuit j D':=by
 suffices H:∀μ tag f d0 a gs w D kd q T sl,(phi j (Vc j D) tag+muJ j D kd,f+2*muF j D q)=μ->gs[0]? =some a->MSit c.P c.ty c.Wg c.C Rd n Low ez Fin tag f d0 a w->(∀r s,tag≠.sp r s)->(tag=.ret->AcqAll c.Wg j T)->JF c j d0 tag D kd q T gs w->
   ∃N gs' w' sl' T' D' Ru q' a' m,runNT c.P N (crowd gs w sl) T=(.next (crowd gs' w' sl'),T')/\gs'[0]? =some a'/\GP c.P c.ty c.Wg c.C Rd n Low Fin m a' w'/\JF c j 0 .ret D' Ru q' T' gs' w'/\AcqAll c.Wg j T'/\AllQuit j D' from
  H _ tag f d0 a gs w D kd q T sl rfl ha hM hsp (λe=>absurd e Gb) F
 intro μ;induction μ using DO.induction with
 |_ μ ih=>
  intro tag f d0 a gs w D kd q T sl hμ ha hM hsp Zd F;by_cases Gb:tag=.ret
  ·subst Gb;have hq:AllQuit j D:=by
    obtain⟨st,sm,_,hm⟩:=F.group;cases hm with
    |opn h1 _ _=>exact h1.elim
    |reg h1 _ _=>exact h1.elim
    |last L h1 _ _ _=>exact h1.elim
    |fin _ h2=>exact h2
   cases hM with
   |ret h=>exact⟨0,gs,w,sl,T,D,kd,q,a,_,rfl,ha,h,F,Zd rfl,hq⟩
  ·have Xo:=hM.status hA hF;obtain⟨i,g,d,sl',hi,hg,hst⟩:=crowd_pick (P:=c.P) (w:=w) (sl:=sl) (F.awake ha (Xo.elim (λx=>.inl x.1) (λx=>.inr x.2.2.2.1))) (F.Vy hA hF ha hM);have Fd:=F.at O d;have hMd:=hM.rely (oy.at w d);generalize w.at d=w₂ at hst Fd hMd;cases i with
   |zero=>
    rw[ha]at hi;obtain rfl:=aP hi;obtain⟨gs',w',ops,bD,f',d',a',hrt,ha',JX,F',hlt,adK⟩:=Fd.step0 O Vw hAn (sl:=sl') ha hMd hg Gb hsp;have RG:∀r s,bD≠.sp r s:=λr s e=>(by subst e;cases JX);obtain⟨N,r⟩:=ih _ (by
     rw[←hμ];rcases hlt with h1|⟨h1,h2⟩
     ·exact Prod.lex_def.2 (.inl kT)
     ·exact Prod.lex_def.2 (.inr ⟨kT,kT⟩)) bD f' d' a' gs' w' D kd q (T++ops) sl' rfl ha' JX RG adK F'
    obtain⟨Ze,w'',Zf,T',D',Ru,q',a'',m,hN,r⟩:=r;exact⟨N+1,Ze,w'',Zf,T',D',Ru,q',a'',m,by rw[runNT_succ_next (hst.trans hrt)];exact hN,r⟩
   |succ i=>
    have pM:i<j:=(by have:=(aQ.1 hi).1;have:=F.size;omega);have bT:∀b,offersAt a b true=[]:=λb=>by
     rcases Xo with⟨hs,_⟩|⟨_,_,_,hs,ho,_⟩
     ·exact offersAt_of_not_blocked (by rw[hs];simp) _ _
     ·simp[offersAt,hs,ho]
    obtain⟨gs',w',ops,bD,a',D',Ru,q',hrt,ha',⟨f',JX,hf'⟩,nt,_,hr,F',hlt,iE⟩:=Fd.step O (Hs:=λtg x w'=>∃f',MSit c.P c.ty c.Wg c.C Rd n Low ez Fin tg f' d0 x w'/\f'<=f+1) (sl:=sl') pM hi hg ha ⟨f,hMd,ae⟩
     (λg' w' hr=>by obtain⟨bD,f',h1,h2,h3,h4⟩:=hMd.woken hA hF hr.rc g g';exact⟨bD,h1,h2,f',h3,h4⟩) bT
    have RG:∀r s,bD≠.sp r s:=λr s e=>(by subst e;cases JX);have abM:bD≠.ret:=by
     rcases nt with rfl|⟨_,rfl⟩
     ·exact Gb
     ·simp
    have hph:phi j (Vc j D') bD=phi j (Vc j D') tag:=phi_retag j _ nt;obtain⟨N,r⟩:=ih _ (by
     rw[←hμ];rcases hlt with⟨h1,h2⟩|⟨h1,h2,h3⟩
     ·have:=phi_mono j h2 tag;exact Prod.lex_def.2 (.inl kT)
     ·rw[h2]at hph;exact Prod.lex_def.2 (.inr ⟨by simp only;rw[h2];omega,kT⟩)) bD f' d0 a' gs' w' D' Ru q' (T++ops) sl' rfl ha' JX RG (λe=>absurd e abM) F'
    obtain⟨Ze,w'',Zf,T',D'',adL,q'',a'',m,hN,r⟩:=r;exact⟨N+1,Ze,w'',Zf,T',D'',adL,q'',a'',m,by rw[runNT_succ_next (hst.trans hrt)];exact hN,r⟩
end
end
section
open Go.Conc Go.ConcN
open Go.ConcR (KK WgAt stA smA Payload Aside2 DC0)
variable[Payload]
structure TF(P:Program)(Wg:Nat)(q:Nat->Nat)(T:Trace)(gs:Array Goroutine):Prop where
 old:∀i g,0<i->gs[i]? =some g->QuitsD P (q i) (Deaf T i) g
 above:∀i,gs.size<=i->Deaf T i=0
 led:Led (λ_=>False) (λ_ _=>False) (ShN Wg) (λi=>Knows T 0 i) T
 over:∀i g,T.g? i=some g->g≠0->T.counts i->Knows T 0 i
 deaf0:Deaf T 0=0
section
variable{j:Nat}{tag:CTag}{kd:Nat->K2}{w:World}
theorem JF.known(F:JF c j d0 tag D kd q T gs w)(hac:AcqAll c.Wg j T)(i g:Nat)(hg:T.g? i=some g)(hc:T.counts i):Knows T 0 i:=by
 obtain⟨op,ho,rfl⟩:=km.1 hg;by_cases h0:op.g=0
 ·have:=knows_own ho;rwa [h0]at this
 ·have hlt:=F.who op (od ho);have:=F.size;obtain⟨x,hx⟩:∃x,op.g=x+1:=⟨op.g-1,ae⟩;obtain⟨p,ha,hg0,hh,hall⟩:=hac;obtain⟨r,hr,hrp⟩:=hall x ae;obtain⟨zp,hzp,hzg⟩:=km.1 hg0;obtain⟨zr,hzr,adM⟩:=km.1 hr.g;have edge:HappensBefore T r p:=Relation.TransGen.single (.inr ⟨.marked hrp (.inr hr.act) ha (λk _ _ hk=>by obtain⟨zk,hzk,adN⟩:=km.1 hk;exact F.norel zk (od hzk) adN),hr.heard,hh⟩);refine⟨p,zp,hzp,hzg,.inr ?_⟩;rcases Nat.lt_trichotomy i r with hlt|rfl|hgt
  ·exact(hb_po hlt ho hzr (by rw[adM,hx])).trans edge
  ·exact edge
  ·exact absurd hc (hr.after i hgt (by rw[hg,hx]))
theorem TF.of(F:JF c j 0 .ret D kd q T gs w)(hq:AllQuit j D)(hac:AcqAll c.Wg j T):TF c.P c.Wg (λi=>(D (i-1)).fuel) T gs:=by
 refine⟨λi g hi hg=>?_,F.above,⟨F.led.clean,λi a ha hm=>?_,λ_ _ _ _ _ h=>h.elim,F.led.plain,λ_ h=>h.elim⟩,λi g hg _ hc=>F.known hac i g hg hc,F.deaf0⟩
 ·obtain⟨x,rfl⟩:∃x,i=x+1:=⟨i-1,ae⟩;have hx:x<j:=by have:=(aQ.1 hg).1;have:=F.size;omega
  obtain⟨g',p9,hW⟩:=F.work x hx;rw[hg]at p9;obtain rfl:=aP p9;have h1:=hq x hx;rw[F.deafW x hx,Nat.add_sub_cancel];cases hk:kd x with
  |fl s kg z=>rw[hk]at hW;have:=hW.1;omega
  |un=>rw[hk]at hW;have:=hW.1;omega
  |wg=>
   rw[hk]at hW;generalize hs:(D x).stage=s at hW;have hW:c.Wk x s (D x).fuel (D x).deaf g w:=(by have:=hW;simpa only[W2,hs]using this);rw[h1]at hs;subst hs;cases hW with
   |low _ hW=>
    cases hW with
    |quit h=>exact h
 ·rcases F.led.known i a ha hm with h|h|⟨h1,h2,g,h3,h4⟩
  ·exact .inl h
  ·exact .inr (.inl h)
  ·exact .inl (F.known hac i g h3 ⟨a,ha,hm,.inl h2⟩)
end
def Vz(Wg:Nat)(e:Event):Prop:=(∀x,(MemAct.ofEvent e).touch? =some x->ShN Wg x.loc->x.kind≠.plain)/\e.loc≠.mark .disable/\e.loc≠.mark .enable
def Xp(P:Program)(Wg:Nat)(Post:Value->World->Prop)(g:Goroutine)(w:World):Prop:=g.status=.running/\∃v es,stepG P true g w=.ended (.done v) w es/\(∀e∈es,Vz Wg e)/\Post v w
section
variable{P:Program}{Wg:Nat}{w:World}
omit[Payload]in
theorem TF.own(F:TF P Wg q T gs){pos:String}{es:Array Event}(hes:∀e∈es,Vz Wg e)(hsz:gs'.size=gs.size)(jS:0<gs.size)(kr:∀i y,0<i->gs'[i]? =some y->gs[i]? =some y):TF P Wg q (T++MemOp.ofEvents 0 fn pos es) gs':=by
 have bC:∀op∈MemOp.ofEvents 0 fn pos es,op.g=0:=λop hop=>by obtain⟨e,_,rfl⟩:=Go.Conc.mem_ofEvents hop;rfl
 refine⟨λi g hi hg=>?_,λi hi=>?_,F.led.own bC (λop hop b hb=>?_) (λ_ h=>h.elim),λi g hg hne hc=>?_,?_⟩
 ·rw[Deaf_other T (by omega:0≠i) _ bC];exact F.old i g hi (kr i g hi hg)
 ·rw[hsz]at hi;rw[Deaf_other T (by omega:0≠i) _ bC];exact F.above i hi
 ·obtain⟨e,h,rfl⟩:=Go.Conc.mem_ofEvents hop;exact⟨λ_ h=>h.elim,(hes e h).1 b hb⟩
 ·obtain⟨op,ho,rfl⟩:=km.1 hg;rcases getElem?_append_cases ho with⟨hlt,sM⟩|⟨_,hou⟩
  ·exact(F.over i op.g (by rw[g?_of sM]) hne ((counts_old hlt).1 hc)).app _
  ·exact absurd (bC op hou) hne
 ·rw[Deaf_own,F.deaf0];exact deafBehind_still (λe h=>(hes e h).2) _
omit[Payload]in
theorem TF.handed(F:TF P Wg q T gs):T.HandedOver:=λi g hg hne hc=>by
 obtain⟨p,z,hp,hz,hb⟩:=F.over i g hg hne hc;rcases hb with rfl|hb
 ·rw[g?_of hp,hz]at hg;exact absurd (aP hg).symm hne
 ·exact⟨p,by rw[g?_of hp,hz],hb⟩
omit[Payload]in
theorem N6(hD:∀w w' es,zJ w w' es->∀e∈es,Vz Wg e)(hW:fU P true AtRel zJ (Xp P Wg Post) a w){sl:Option (Nat×Nat)}(ha:gs[0]? =some a)(F:TF P Wg q T gs):
  ∃N last o w' t',runNT P (N+1) (crowd gs w sl) T=(.ended o w',t')/\runN P N (crowd gs w sl)=.next last/\step P last=.ended o w'/\Conc.Good P Post last o w' t':=by
 suffices H:∀a w₀,fU P true AtRel zJ (Xp P Wg Post) a w₀->∀gs w q T sl,AtRel w₀ w->gs[0]? =some a->TF P Wg q T gs->
   ∃N last o w' t',runNT P (N+1) (crowd gs w sl) T=(.ended o w',t')/\runN P N (crowd gs w sl)=.next last/\step P last=.ended o w'/\Conc.Good P Post last o w' t' from H a w hW gs w q T sl (atRel_refl w) ha F
 intro a w₀ hW;have awk:∀{gs:Array Goroutine} {q:Nat->Nat} {T:Trace} {a:Goroutine},a.status=.running->gs[0]? =some a->TF P Wg q T gs->∀g∈gs,awake g:=by
  intro gs q T a hr ha F g hg;obtain⟨i,hi⟩:=Array.mem_iff_getElem?.1 hg;rcases jH i with rfl|jS
  ·rw[ha]at hi;obtain rfl:=aP hi;exact awake_of (.inl hr)
  ·exact awake_of ((F.old i g jS hi).status.elim .inl λx=>.inr (.inr x))
 have quit:∀{gs:Array Goroutine} {q:Nat->Nat} {T:Trace} {a:Goroutine} {w:World} {sl:Option (Nat×Nat)} {i:Nat} {g:Goroutine},a.status=.running->gs[0]? =some a->TF P Wg q T gs->0<i->gs[i]? =some g->g.status=.running->
   ∃gs' ops q',runT P (crowd gs w sl) i=(.next (crowd gs' w sl),ops)/\gs'[0]? =some a/\TF P Wg q' (T++ops) gs'/\gs'.size=gs.size/\sumTo gs.size q'<sumTo gs.size q:=by
  intro gs q T a w sl i g hr ha F jS hi hg;have hq:=F.old i g jS hi;have yJ:(i==0)=false:=bV;have hlt:i<gs.size:=(aQ.1 hi).1;cases W8:q i with
  |zero=>rw[W8]at hq;rw[hq.1]at hg;cases hg
  |succ k=>
   rw[W8]at hq;rcases hq with⟨hf,_⟩|⟨_,g',es,hm,yv,hq'⟩
   ·rw[hf]at hg;cases hg
   have bC:∀op∈MemOp.ofEvents i g.frame.fn g.frame.place es,op.g=i:=λop hop=>(by obtain⟨e,_,rfl⟩:=Go.Conc.mem_ofEvents hop;rfl);have hn:∀op∈MemOp.ofEvents i g.frame.fn g.frame.place es,op.act.touch? =none:=λop hop=>(by obtain⟨e,he,rfl⟩:=Go.Conc.mem_ofEvents hop;exact touch_mute (hm e he));refine⟨_,_,upd q i k,runT_crowd_go (P:=P) (sl:=sl) (i:=i) hi (by rw[yJ];exact yv w),?_,⟨λx y hx hy=>?_,λx hx=>?_,F.led.mute (λx=>Knows.app _) hn (λ_ h=>h.elim),λx gx hgx hne hc=>?_,?_⟩,au,?_⟩
   ·rw[eH ae,lQ,ha];simp[woken_of_again (again_running w (.inl hr))]
   ·by_cases e:x=i
    ·subst e;rw[fD (by simpa using hlt)]at hy;obtain rfl:=aP hy;rw[upd_same,Deaf_own];exact hq'
    ·rw[eH (bp e),lQ]at hy;obtain⟨z,hz,rfl⟩:=km.1 hy;have hqx:=F.old x z hx hz;rw[woken_of_again (again_running w hqx.status),upd_ne q k e,Deaf_other T (λz=>e z.symm) _ bC];exact hqx
   ·simp only[xN,Array.size_map]at hx;rw[Deaf_other T (by omega:i≠x) _ bC];exact F.above x hx
   ·obtain⟨op,ho,rfl⟩:=km.1 hgx;rcases getElem?_append_cases ho with⟨hlt,sM⟩|⟨_,hou⟩
    ·exact(F.over x op.g (by rw[g?_of sM]) hne ((counts_old hlt).1 hc)).app _
    ·obtain⟨y,hy,_⟩:=hc;obtain⟨z,hz,hzt⟩:=touch_of hy;rw[ho]at hz;obtain rfl:=aP hz;rw[hn op hou]at hzt;cases hzt
   ·rw[Deaf_other T (by omega:i≠0) _ bC];exact F.deaf0
   ·have h2:sumTo gs.size (upd q i k) +(k+1)=sumTo gs.size q+k:=(by have:=sumTo_upd q k id hlt;simpa[W8]using this);omega
 induction hW with
 | @stop a w₀ hQ=>
  intro gs w q T sl;generalize hμ:sumTo gs.size q=μ;induction μ using Nat.strongRecOn generalizing gs w q T sl with
  |_ μ JB=>
   intro hr ha F;have hrun:=(hQ w hr).1;obtain⟨i,g,d,sl',hi,hg,hst⟩:=crowd_pick (P:=P) (w:=w) (sl:=sl) (awk hrun ha F) ⟨0,a,ha,hrun⟩;have hrd:AtRel w₀ (w.at d):=atRel_trans _ _ _ hr ⟨d,rfl⟩;rcases jH i with rfl|jS
   ·obtain rfl:g=a:=(by rw[ha]at hi;exact(aP hi).symm);obtain⟨_,v,es,hend,hes,Mz⟩:=hQ _ hrd;have Xq:=runT_many_ended (P:=P) (sl:=sl') (i:=0) hi (show stepG P (0==0) g (w.at d)=_ from hend);have F':=F.own (gs':=gs) (fn:=g.frame.fn) (pos:=g.frame.place) hes rfl (aQ.1 ha).1 (λ_ _ _ h=>h);refine⟨0,crowd gs w sl,_,_,_,by simp only[runNT,hst.trans Xq],rfl,by rw[step,hst.trans Xq],v,rfl,Mz,F'.led.clean,F'.handed,⟨λx hx=>?_,rfl⟩,λx y hy hx=>?_⟩
    ·obtain⟨k,hk⟩:=pN.1 hx;rw[List.getElem?_drop]at hk;exact⟨_,(F.old (1+k) x ae (by simpa[crowd]using hk)).leaves⟩
    ·have hq:=F.old x y ae hy;refine⟨q x,?_⟩;have e:(T++MemOp.ofEvents 0 g.frame.fn g.frame.place es).deaf x (T++MemOp.ofEvents 0 g.frame.fn g.frame.place es).size=Deaf T x:=Deaf_other T (g:=x) (g':=0) ae _ (λop hop=>by obtain⟨e,_,rfl⟩:=Go.Conc.mem_ofEvents hop;rfl);rw[e];exact hq.hears _
   ·obtain⟨gs',ops,q',hrt,ha',F',hsz,hlt⟩:=quit (w:=w.at d) (sl:=sl') hrun ha F jS hi hg;obtain⟨N,last,o,w',t',h1,h2,h3,h4⟩:=JB _ (hμ▸hlt) gs' (w.at d) q' (T++ops) sl' (by rw[hsz]) hrd ha' F';have hs:=hst.trans hrt;exact⟨N+1,last,o,w',t',by rw[runNT_succ_next hs];exact h1,by rw[runN,step,hs];exact h2,h3,h4⟩
 | @step a w₀ hrun hstep hnext ih=>
  intro gs w q T sl;generalize hμ:sumTo gs.size q=μ;induction μ using Nat.strongRecOn generalizing gs w q T sl with
  |_ μ JB=>
   intro hr ha F;obtain⟨i,g,d,sl',hi,hg,hst⟩:=crowd_pick (P:=P) (w:=w) (sl:=sl) (awk hrun ha F) ⟨0,a,ha,hrun⟩;have hrd:AtRel w₀ (w.at d):=atRel_trans _ _ _ hr ⟨d,rfl⟩;rcases jH i with rfl|jS
   ·obtain rfl:g=a:=(by rw[ha]at hi;exact(aP hi).symm);obtain⟨g',w',es,hgo,hd⟩:=hstep _ hrd;have hrt:=runT_crowd_go (P:=P) (sl:=sl') (i:=0) hi (show stepG P (0==0) g (w.at d)=_ from hgo);have hlt:0<gs.size:=(aQ.1 ha).1;have F':=F.own (gs':=(gs.map (woken P g g' w')).setIfInBounds 0 g') (fn:=g.frame.fn) (pos:=g.frame.place) (hD _ _ _ hd) au hlt (λx y hx hy=>by rw[eH ae,lQ]at hy;obtain⟨z,hz,rfl⟩:=km.1 hy;rw[hz,woken_of_again (again_running w' (F.old x z hx hz).status)]);obtain⟨N,last,o,w'',t',h1,h2,h3,h4⟩:=ih _ g' w' es hrd hgo _ w' q _ sl' (atRel_refl w') (fD (by simpa using hlt)) F';have hs:=hst.trans hrt;exact⟨N+1,last,o,w'',t',by rw[runNT_succ_next hs];exact h1,by rw[runN,step,hs];exact h2,h3,h4⟩
   ·obtain⟨gs',ops,q',hrt,ha',F',hsz,hlt⟩:=quit (w:=w.at d) (sl:=sl') hrun ha F jS hi hg;obtain⟨N,last,o,w',t',h1,h2,h3,h4⟩:=JB _ (hμ▸hlt) gs' (w.at d) q' (T++ops) sl' (by rw[hsz]) hrd ha' F';have hs:=hst.trans hrt;exact⟨N+1,last,o,w',t',by rw[runNT_succ_next hs];exact h1,by rw[runN,step,hs];exact h2,h3,h4⟩
end
end
section
open Go.Conc Go.ConcN Go.RowKit Go.Conc.Lib Go.ConcR.Gen Go.ConcN.Gen
open Go.ConcR (KK wgBlock WgAt stA smA rd wr mk Payload Aside2 DC0)
variable[Payload]{L:WgLink}
omit[Payload]in
theorem CM{C Wg:Nat}{w:World}(h:Aside Wg w w₁):tM C Wg w w₁:=⟨h.tape,h.os,h.output,Nat.le_of_eq h.size.symm,λk _ _ b=>h.block k b⟩
omit[Payload]in
theorem aj{ty:TypeId}{Wg C:Nat}{F:World->Prop}(hF2:∀w w',tM C Wg w w'->F w->F w'){w:World}(h:F w/\WgLive ty Wg w)(r:oy ty Wg C w w₁):F w₁/\WgLive ty Wg w₁:=⟨hF2 _ _ r.aside h.1,r.live h.2⟩
section
variable{Wg C n Low:Nat}{Rd:Nat->Loc->Prop}{F:World->Prop}{a₀:Act}
def MA(L:WgLink)(F:World->Prop)(Wg:Nat)(b₀:Frame)(a₀:Act)(ops₀:Array Oper)(i₀:Nat)(rest₀:List Nat)(k₀:List Item)(cs:List Frame)(g:Goroutine)(w:World):Prop:=g=G (b₀.at (a₀.put ((ops₀[i₀]?).bind (·.dst)) (.tuple #[])) (.inRegion ops₀ rest₀::k₀)) cs/\F w/\WgLive L.tWg Wg w
omit[Payload]in
theorem JY{P:Program}(H:WgLib P L)(hF2:∀w w',tM C Wg w w'->F w->F w')(g:Goroutine)(w:World)(h:AnchWN L F Wg (b₀.at a₀ (.inRegion ops₀ (i₀::rest₀)::k₀)) cs g w):
  ∃m,GP P L.tWg Wg C Rd n Low (J1 P L.tWg Wg C Rd n Low (AnchWN L F Wg (b₀.at a₀ (.inRegion ops₀ (i₀::rest₀)::k₀)) cs) (MA L F Wg b₀ a₀ ops₀ i₀ rest₀ k₀ cs)) m g w:=by
 lib_facts
 obtain⟨T,rfl,hT84,t0,hF⟩:=h;obtain⟨v0,v1,v2,v3,v4,v5,v6,v7,v8,v9,v10,v11,v12,v13,v14,v15,v16,v17,v18,v19,v20,v21,v22,v23,v24,v25,v26,v27,v28,v29,v30,v31,v32,v33,v34,v35,v36,v37,v38,v39,v40,v41,v42,v43,v44,v45,v46,v47,v48,v49,v50,v51,v52,v53,v54,v55,v56,v57,v58,v59,v60,v61,v62,v63,v64,v65,v66,v67,v68,v69,v70,v71,v72,v73,v74,v75,v76,v77,v78,v79,v80,v81,v82,v83,rfl⟩:=array84 T hT84;simp only[jh,mP,cu]at t0;subst t0;refine⟨30,?_⟩;simp only[L7,body_wait,waitFn,bJ];u_c stepG_block (aj hF2) hF
 u_c stepG_seq (aj hF2) hF
 u_reg (aj hF2) hF
 iterate 3 (u_op (aj hF2) hF)
 u_call H.f_uLoad (nm_uLoad L) uLoadFn (aj hF2) hF
 u_c stepG_seq (aj hF2) hF
 u_reg (aj hF2) hF
 u_op (aj hF2) hF
 u_c stepG_region_end (aj hF2) hF
 u_c stepG_seq (aj hF2) hF
 u_reg (aj hF2) hF
 iterate 3 (u_op (aj hF2) hF)
 refine eK (λw₁ h₁=>?_);replace hF:=aj hF2 hF h₁;clear h₁;refine⟨rfl,λv hv hw=>?_⟩;rcases jH v with rfl|hvp
 ·
  replace hw:WgAt L.tWg Wg w₁ 0 0:=by simpa using hw
  refine⟨_,stepG_load_atomic (v:=0) rfl rfl (by k_ne) rfl H.f_loadU64 (x_loadU64_n L) (x_loadU64_b L) (x_loadU64_x L) .u64 (x_loadU64_f L) rfl hw.cellSt,λ_=>⟨50,?_⟩,λh=>absurd rfl h⟩;clear hw;walk_nrm;u_op (aj hF2) hF
  u_c stepG_region_end (aj hF2) hF
  u_c stepG_ret' (aj hF2) hF
  u_leave1 H.f_uLoad (aj hF2) hF
  u_op (aj hF2) hF
  u_c stepG_region_end (aj hF2) hF
  u_c stepG_seq (aj hF2) hF
  u_reg (aj hF2) hF
  iterate 4 (u_op (aj hF2) hF)
  u_c stepG_region_end (aj hF2) hF
  u_c stepG_seq (aj hF2) hF
  u_reg (aj hF2) hF
  iterate 4 (u_op (aj hF2) hF)
  u_c stepG_region_end (aj hF2) hF
  iterate 2 (u_c stepG_seq (aj hF2) hF)
  u_reg (aj hF2) hF
  iterate 2 (u_op (aj hF2) hF)
  u_c stepG_region_end (aj hF2) hF
  u_cond true (aj hF2) hF
  u_c stepG_seq (aj hF2) hF
  u_cond true (aj hF2) hF
  u_c stepG_seq (aj hF2) hF
  u_reg (aj hF2) hF
  refine eK (λw₅ h₅=>?_);replace hF:=aj hF2 hF h₅;clear h₅;refine⟨rfl,_,stepG_mark0 .enable au rfl rfl (by k_ne) rfl H.f_enable (x_enable_n L) (x_enable_b L) (x_enable_x L) (x_enable_f L),12,?_⟩;walk_nrm;u_c stepG_region_end (aj hF2) hF
  u_reg (aj hF2) hF
  u_op (aj hF2) hF
  u_conv H.underlying_tWgP H.room_tWg (WgLive.cell0 hF.2).choose_spec (aj hF2) hF
  refine eK (λw₆ h₆=>?_);replace hF:=aj hF2 hF h₆;clear h₆;refine⟨rfl,_,stepG_markAt .acquire au rfl rfl (by k_ne) rfl H.f_acquire (x_acquire_n L) (x_acquire_b L) (x_acquire_x L) (x_acquire_f L) (by simp[Act.eval,stA]),⟨20,?_⟩⟩;walk_nrm;u_c stepG_region_end (aj hF2) hF
  iterate 2 (u_c stepG_seq (aj hF2) hF)
  u_reg (aj hF2) hF
  iterate 8 (u_op (aj hF2) hF)
  iterate 2 (u_skip (aj hF2) hF)
  u_op (aj hF2) hF
  u_c stepG_region_end (aj hF2) hF
  u_cond false (aj hF2) hF
  u_c stepG_skip (aj hF2) hF
  u_c stepG_ret' (aj hF2) hF
  u_leave0 H.f_wait (aj hF2) hF
  exact eK λadO Zi=>⟨rfl,aj hF2 hF Zi⟩
 ·
  obtain⟨S,hS⟩:∃S:Int,(v:Int) *KK=S:=⟨_,rfl⟩;have a1:S / 4294967296=(v:Int):=by rw[←hS];simp only[KK];omega
  have b1:bits .and .u64 S 2147483648=0:=by rw[←hS];have:=st_flag v 0 ae ae;simpa[KK]using this
  have b2:bits .and .u64 S 2147483647=0:=by rw[←hS];have:=st_waiters v 0 ae ae;simpa[KK]using this
  have c1:IntKind.i32.wrap (v:Int)=(v:Int):=by rw[IntKind.wrap_i32];omega
  have w1:IntKind.u64.wrap (S+1)=S+1:=by rw[IntKind.wrap_u64,←hS];simp only[KK];omega
  have q3:decide ((v:Int) <0)=false:=decide_eq_false ae;have q4:decide (0< (v:Int))=true:=decide_eq_true ae;have q5:((v:Int)==0)=false:=bV;have q6:decide ((v:Int)=0)=false:=decide_eq_false ae;rw[hS]at hw;refine⟨_,stepG_load_atomic (v:=S) rfl rfl (by k_ne) rfl H.f_loadU64 (x_loadU64_n L) (x_loadU64_b L) (x_loadU64_x L) .u64 (x_loadU64_f L) rfl hw.cellSt,λh0=>absurd h0 ae,λ_=>⟨60,?_⟩⟩;clear hw;walk_nrm;u_op (aj hF2) hF
  u_c stepG_region_end (aj hF2) hF
  u_c stepG_ret' (aj hF2) hF
  u_leave1 H.f_uLoad (aj hF2) hF
  u_op (aj hF2) hF
  u_c stepG_region_end (aj hF2) hF
  u_c stepG_seq (aj hF2) hF
  u_reg (aj hF2) hF
  iterate 4 (u_op (aj hF2) hF)
  u_c stepG_region_end (aj hF2) hF
  u_c stepG_seq (aj hF2) hF
  u_reg (aj hF2) hF
  iterate 4 (u_op (aj hF2) hF)
  u_c stepG_region_end (aj hF2) hF
  iterate 2 (u_c stepG_seq (aj hF2) hF)
  u_reg (aj hF2) hF
  iterate 2 (u_op (aj hF2) hF)
  u_c stepG_region_end (aj hF2) hF
  u_cnd false (aj hF2) hF
  u_c stepG_skip (aj hF2) hF
  u_c stepG_seq (aj hF2) hF
  u_reg (aj hF2) hF
  iterate 6 (u_op (aj hF2) hF)
  u_call H.f_uCas (nm_uCas L) uCasFn (aj hF2) hF
  u_c stepG_seq (aj hF2) hF
  u_reg (aj hF2) hF
  u_op (aj hF2) hF
  u_c stepG_region_end (aj hF2) hF
  u_c stepG_seq (aj hF2) hF
  u_reg (aj hF2) hF
  iterate 5 (u_op (aj hF2) hF)
  refine eK (λw₂ h₂=>?_);replace hF:=aj hF2 hF h₂;clear h₂;refine⟨rfl,λv' hv' hw=>⟨λe=>?_,λe=>?_⟩⟩
  ·
   subst e;rw[hS]at hw⊢;refine⟨_,(stepG_cas_hit (v:=S) (n:=S+1) rfl rfl (by k_ne) rfl H.f_casU64 (x_casU64_n L) (x_casU64_b L) (x_casU64_x L) .u64 (x_casU64_f L) rfl rfl rfl hw.cellSt (hw.thaw 0)).trans bF,70,?_⟩;replace hF:F (w₂.setCell (stA Wg) (.int .u64 (S+1)))/\WgLive L.tWg Wg (w₂.setCell (stA Wg) (.int .u64 (S+1))):=⟨hF2 _ _ (CM (aside_setCell w₂ (stA Wg) _)) hF.1,⟨_,_,hw.setSt _⟩⟩;clear hw;walk_nrm;u_op (aj hF2) hF
   u_c stepG_region_end (aj hF2) hF
   u_c stepG_ret' (aj hF2) hF
   u_leave1 H.f_uCas (aj hF2) hF
   u_c stepG_region_end (aj hF2) hF
   u_cond true (aj hF2) hF
   iterate 2 (u_c stepG_seq (aj hF2) hF)
   u_reg (aj hF2) hF
   iterate 4 (u_op (aj hF2) hF)
   u_c stepG_region_end (aj hF2) hF
   u_cond true (aj hF2) hF
   u_reg (aj hF2) hF
   iterate 3 (u_op (aj hF2) hF)
   u_conv H.underlying_tPU32 H.room_tU32 (WgLive.cell1 hF.2).choose_spec (aj hF2) hF
   u_wrn (aj hF2) hF
   u_c stepG_region_end (aj hF2) hF
   u_c stepG_seq (aj hF2) hF
   u_reg (aj hF2) hF
   u_op (aj hF2) hF
   u_c stepG_region_end (aj hF2) hF
   iterate 2 (u_c stepG_seq (aj hF2) hF)
   u_reg (aj hF2) hF
   iterate 4 (u_op (aj hF2) hF)
   u_skip (aj hF2) hF
   u_op (aj hF2) hF
   u_c stepG_region_end (aj hF2) hF
   u_cond false (aj hF2) hF
   u_c stepG_skip (aj hF2) hF
   u_c stepG_seq (aj hF2) hF
   u_reg (aj hF2) hF
   iterate 4 (u_op (aj hF2) hF)
   refine eK (λw₃ h₃=>?_);replace hF:=aj hF2 hF h₃;clear h₃;refine⟨rfl,rfl,λ⟨st,hw⟩=>stepG_semacquire_wait rfl rfl rfl H.f_semacquire (x_semacquire_n L) (x_semacquire_b L) (x_semacquire_x L) (x_semacquire_f L) (by simp[Act.eval,smA]) hw.cellSm,λhf=>?_⟩;refine⟨_,(stepG_semacquire (n:=1) rfl rfl (by k_ne) rfl H.f_semacquire (x_semacquire_n L) (x_semacquire_b L) (x_semacquire_x L) (x_semacquire_f L) (by simp[Act.eval,smA]) hf.cellSm (by k_ne) (hf.thaw 1)).trans bF,30,?_⟩;replace hF:F (w₃.setCell (smA Wg) (.int .u32 0))/\WgLive L.tWg Wg (w₃.setCell (smA Wg) (.int .u32 0)):=⟨hF2 _ _ (CM (aside_setCell w₃ (smA Wg) _)) hF.1,⟨_,_,hf.setSm 0⟩⟩;clear hf;walk_nrm;u_c stepG_region_end (aj hF2) hF
   u_c stepG_seq (aj hF2) hF
   u_reg (aj hF2) hF
   iterate 3 (u_op (aj hF2) hF)
   u_call H.f_uLoad (nm_uLoad L) uLoadFn (aj hF2) hF
   u_c stepG_seq (aj hF2) hF
   u_reg (aj hF2) hF
   u_op (aj hF2) hF
   u_c stepG_region_end (aj hF2) hF
   u_c stepG_seq (aj hF2) hF
   u_reg (aj hF2) hF
   iterate 3 (u_op (aj hF2) hF)
   refine eK (λw₄ h₄=>?_);replace hF:=aj hF2 hF h₄;clear h₄;refine⟨rfl,λhw=>⟨_,stepG_load_atomic (v:=0) rfl rfl (by k_ne) rfl H.f_loadU64 (x_loadU64_n L) (x_loadU64_b L) (x_loadU64_x L) .u64 (x_loadU64_f L) rfl hw.cellSt,30,?_⟩⟩;clear hw;walk_nrm;u_op (aj hF2) hF
   u_c stepG_region_end (aj hF2) hF
   u_c stepG_ret' (aj hF2) hF
   u_leave1 H.f_uLoad (aj hF2) hF
   iterate 2 (u_op (aj hF2) hF)
   u_c stepG_region_end (aj hF2) hF
   u_c stepG_seq (aj hF2) hF
   u_cond true (aj hF2) hF
   u_c stepG_seq (aj hF2) hF
   u_reg (aj hF2) hF
   refine eK (λw₅ h₅=>?_);replace hF:=aj hF2 hF h₅;clear h₅;refine⟨rfl,_,stepG_mark0 .enable au rfl rfl (by k_ne) rfl H.f_enable (x_enable_n L) (x_enable_b L) (x_enable_x L) (x_enable_f L),12,?_⟩;walk_nrm;u_c stepG_region_end (aj hF2) hF
   u_reg (aj hF2) hF
   u_op (aj hF2) hF
   u_conv H.underlying_tWgP H.room_tWg (WgLive.cell0 hF.2).choose_spec (aj hF2) hF
   refine eK (λw₆ h₆=>?_);replace hF:=aj hF2 hF h₆;clear h₆;refine⟨rfl,_,stepG_markAt .acquire au rfl rfl (by k_ne) rfl H.f_acquire (x_acquire_n L) (x_acquire_b L) (x_acquire_x L) (x_acquire_f L) (by simp[Act.eval,stA]),⟨10,?_⟩⟩;walk_nrm;u_c stepG_region_end (aj hF2) hF
   iterate 2 (u_c stepG_seq (aj hF2) hF)
   u_reg (aj hF2) hF
   u_op (aj hF2) hF
   u_c stepG_region_end (aj hF2) hF
   u_cond false (aj hF2) hF
   u_c stepG_skip (aj hF2) hF
   u_c stepG_ret' (aj hF2) hF
   u_leave0 H.f_wait (aj hF2) hF
   exact eK λadO Zi=>⟨rfl,aj hF2 hF Zi⟩
  ·
   refine⟨_,stepG_cas_miss (v:=(v':Int) *KK) (old:=S) (n:=S+1) rfl rfl (by k_ne) rfl H.f_casU64 (x_casU64_n L) (x_casU64_b L) (x_casU64_x L) .u64 (x_casU64_f L) rfl rfl rfl hw.cellSt (hw.thaw 0) (by rw[←hS];simp only[KK];omega),20,?_⟩;clear hw;walk_nrm;u_op (aj hF2) hF
   u_c stepG_region_end (aj hF2) hF
   u_c stepG_ret' (aj hF2) hF
   u_leave1 H.f_uCas (aj hF2) hF
   u_c stepG_region_end (aj hF2) hF
   u_cond false (aj hF2) hF
   u_c stepG_skip (aj hF2) hF
   u_c stepG_inBlock (aj hF2) hF
   u_c stepG_inLoop (aj hF2) hF
   refine eK (λw₃ h₃=>?_);replace hF:=aj hF2 hF h₃;exact⟨_,rfl,au,au,hF⟩
end
end
section
open Go Go.Conc Go.ConcN Go.RowKit Go.Conc.Lib Go.ConcR.Gen Go.ConcN.Gen
open Go.ConcR (KK wgBlock WgAt stA smA rd wr mk Payload Aside2 DC0)
variable[Payload]{L:WgLink}
section
variable{Wg C n Low:Nat}{Rd:Nat->Loc->Prop}{F:World->Prop}{Fin:Goroutine->World->Prop}{a₀:Act}
omit[Payload]in
theorem wait_start{P:Program}(H:WgLib P L)(hF2:∀w w',tM C Wg w w'->F w->F w')
   {xs:Array Operand} (ho:ops₀[i₀]? =some RI) (RJ:Region.wanted RI (yielded ops₀ a₀.tmps)=true) (RL:b₀.kind≠.early) (hop:RI.op=.call {callee:=.value (.func L.wait),args:=xs,argTypes:=ats})
  (hxs:xs.map a₀.eval=#[.pointer (some ⟨Wg,0,none⟩)])(w:World)(hF:F w/\WgLive L.tWg Wg w):
  GP P L.tWg Wg C Rd n Low (J0 P L.tWg Wg C Rd n Low (AnchWN L F Wg (b₀.at a₀ (.inRegion ops₀ (i₀::rest₀)::k₀)) cs)) 20 (G (b₀.at a₀ (.inRegion ops₀ (i₀::rest₀)::k₀)) cs) w:=by
 lib_facts
 u_in (aj hF2) hF
 refine goes_call ho RJ RL hop H.f_wait (nm_wait L) rfl ⟨by u_nil,?_⟩;rw[hxs]
 walk_nrmf waitFn
 u_c stepG_seq (aj hF2) hF
 u_cond true (aj hF2) hF
 u_reg (aj hF2) hF
 refine eK (λw₁ h₁=>?_);replace hF:=aj hF2 hF h₁;clear h₁;refine⟨rfl,_,stepG_mark0 .disable au rfl rfl (by k_ne) rfl H.f_disable (x_disable_n L) (x_disable_b L) (x_disable_x L) (x_disable_f L),3,?_⟩;walk_nrm;u_c stepG_region_end (aj hF2) hF
 u_c stepG_block (aj hF2) hF
 u_c stepG_loop (aj hF2) hF
 exact eK (λw₂ h₂=>⟨_,rfl,au,au,aj hF2 hF h₂⟩)
end
end
section
open Go Go.Conc Go.ConcN
open Go.ConcR (KK WgAt stA smA Payload Aside2 DC0)
variable[Payload]
variable[Inhabited bO]
section
variable{P:Program}{Wg:Nat}{w:World}
omit[Payload]in
theorem N7{D:World->World->Array Event->Prop}{Stop:Goroutine->World->Prop}{X:World->Prop}(hR:∀w d,R w (w.at d))(hX:∀w d,X w->X (w.at d))(hD:∀w w' es,D w w' es->X w->X w'):
  ∀{n:Nat} {g:Goroutine} {w:World},X w->Goes P true R D Stop n g w->fU P true AtRel D (λg w=>Stop g w/\X w) g w:=by
 intro n;induction n with
 |zero=>exact λhx h=>.stop λw₁ ⟨d,e⟩=>by subst e;exact⟨h _ (hR _ d),hX _ d hx⟩
 |succ n ih=>
  intro g w hx h;rcases h with h|⟨hs,h⟩
  ·exact .stop λw₁ ⟨d,e⟩=>by subst e;exact⟨h _ (hR _ d),hX _ d hx⟩
  ·refine .step hs (λw₁ ⟨d,e⟩=>?_) λw₁ g' w' es ⟨d,e⟩ hst=>?_
   ·subst e;obtain⟨g',w',es,h1,h2,_⟩:=goes_elim (h _ (hR _ d));exact⟨g',w',es,h1,h2⟩
   ·subst e;have:=h _ (hR _ d);rw[hst,goes_go]at this;exact ih (hD _ _ _ this.1 (hX _ d hx)) this.2
omit[Payload]in
theorem D6(hD:∀w w' es,zJ w w' es->∀e∈es,Vz Wg e)(hW:fU P true AtRel zJ Q a w){sl:Option (Nat×Nat)}(ha:gs[0]? =some a)(F:TF P Wg q T gs):
  ∃N gs' w' sl' q' T' a',runNT P N (crowd gs w sl) T=(.next (crowd gs' w' sl'),T')/\gs'[0]? =some a'/\TF P Wg q' T' gs'/\∀w₁,AtRel w' w₁->Q a' w₁:=by
 suffices H:∀a w₀,fU P true AtRel zJ Q a w₀->∀gs w q T sl,AtRel w₀ w->gs[0]? =some a->TF P Wg q T gs->
   ∃N gs' w' sl' q' T' a',runNT P N (crowd gs w sl) T=(.next (crowd gs' w' sl'),T')/\gs'[0]? =some a'/\TF P Wg q' T' gs'/\∀w₁,AtRel w' w₁->Q a' w₁ from H a w hW gs w q T sl (atRel_refl w) ha F
 intro a w₀ hW;have awk:∀{gs:Array Goroutine} {q:Nat->Nat} {T:Trace} {a:Goroutine},a.status=.running->gs[0]? =some a->TF P Wg q T gs->∀g∈gs,awake g:=by
  intro gs q T a hr ha F g hg;obtain⟨i,hi⟩:=Array.mem_iff_getElem?.1 hg;rcases jH i with rfl|jS
  ·rw[ha]at hi;obtain rfl:=aP hi;exact awake_of (.inl hr)
  ·exact awake_of ((F.old i g jS hi).status.elim .inl λx=>.inr (.inr x))
 have quit:∀{gs:Array Goroutine} {q:Nat->Nat} {T:Trace} {a:Goroutine} {w:World} {sl:Option (Nat×Nat)} {i:Nat} {g:Goroutine},a.status=.running->gs[0]? =some a->TF P Wg q T gs->0<i->gs[i]? =some g->g.status=.running->
   ∃gs' ops q',runT P (crowd gs w sl) i=(.next (crowd gs' w sl),ops)/\gs'[0]? =some a/\TF P Wg q' (T++ops) gs'/\gs'.size=gs.size/\sumTo gs.size q'<sumTo gs.size q:=by
  intro gs q T a w sl i g hr ha F jS hi hg;have hq:=F.old i g jS hi;have yJ:(i==0)=false:=bV;have hlt:i<gs.size:=(aQ.1 hi).1;cases W8:q i with
  |zero=>rw[W8]at hq;rw[hq.1]at hg;cases hg
  |succ k=>
   rw[W8]at hq;rcases hq with⟨hf,_⟩|⟨_,g',es,hm,yv,hq'⟩
   ·rw[hf]at hg;cases hg
   have bC:∀op∈MemOp.ofEvents i g.frame.fn g.frame.place es,op.g=i:=λop hop=>(by obtain⟨e,_,rfl⟩:=Go.Conc.mem_ofEvents hop;rfl);have hn:∀op∈MemOp.ofEvents i g.frame.fn g.frame.place es,op.act.touch? =none:=λop hop=>(by obtain⟨e,he,rfl⟩:=Go.Conc.mem_ofEvents hop;exact touch_mute (hm e he));refine⟨_,_,upd q i k,runT_crowd_go (P:=P) (sl:=sl) (i:=i) hi (by rw[yJ];exact yv w),?_,⟨λx y hx hy=>?_,λx hx=>?_,F.led.mute (λx=>Knows.app _) hn (λ_ h=>h.elim),λx gx hgx hne hc=>?_,?_⟩,au,?_⟩
   ·rw[eH ae,lQ,ha];simp[woken_of_again (again_running w (.inl hr))]
   ·by_cases e:x=i
    ·subst e;rw[fD (by simpa using hlt)]at hy;obtain rfl:=aP hy;rw[upd_same,Deaf_own];exact hq'
    ·rw[eH (bp e),lQ]at hy;obtain⟨z,hz,rfl⟩:=km.1 hy;have hqx:=F.old x z hx hz;rw[woken_of_again (again_running w hqx.status),upd_ne q k e,Deaf_other T (λz=>e z.symm) _ bC];exact hqx
   ·simp only[xN,Array.size_map]at hx;rw[Deaf_other T (by omega:i≠x) _ bC];exact F.above x hx
   ·obtain⟨op,ho,rfl⟩:=km.1 hgx;rcases getElem?_append_cases ho with⟨hlt,sM⟩|⟨_,hou⟩
    ·exact(F.over x op.g (by rw[g?_of sM]) hne ((counts_old hlt).1 hc)).app _
    ·obtain⟨y,hy,_⟩:=hc;obtain⟨z,hz,hzt⟩:=touch_of hy;rw[ho]at hz;obtain rfl:=aP hz;rw[hn op hou]at hzt;cases hzt
   ·rw[Deaf_other T (by omega:i≠0) _ bC];exact F.deaf0
   ·have h2:sumTo gs.size (upd q i k) +(k+1)=sumTo gs.size q+k:=(by have:=sumTo_upd q k id hlt;simpa[W8]using this);omega
 induction hW with
 | @stop a w₀ hQ=>exact λgs w q T sl hr ha F=>⟨0,gs,w,sl,q,T,a,rfl,ha,F,λw₁ h₁=>hQ w₁ (atRel_trans _ _ _ hr h₁)⟩
 | @step a w₀ hrun hstep hnext ih=>
  intro gs w q T sl;generalize hμ:sumTo gs.size q=μ;induction μ using Nat.strongRecOn generalizing gs w q T sl with
  |_ μ JB=>
   intro hr ha F;obtain⟨i,g,d,sl',hi,hg,hst⟩:=crowd_pick (P:=P) (w:=w) (sl:=sl) (awk hrun ha F) ⟨0,a,ha,hrun⟩;have hrd:AtRel w₀ (w.at d):=atRel_trans _ _ _ hr ⟨d,rfl⟩;rcases jH i with rfl|jS
   ·obtain rfl:g=a:=(by rw[ha]at hi;exact(aP hi).symm);obtain⟨g',w',es,hgo,hd⟩:=hstep _ hrd;have hrt:=runT_crowd_go (P:=P) (sl:=sl') (i:=0) hi (show stepG P (0==0) g (w.at d)=_ from hgo);have hlt:0<gs.size:=(aQ.1 ha).1;have F':=F.own (gs':=(gs.map (woken P g g' w')).setIfInBounds 0 g') (fn:=g.frame.fn) (pos:=g.frame.place) (hD _ _ _ hd) au hlt (λx y hx hy=>by rw[eH ae,lQ]at hy;obtain⟨z,hz,rfl⟩:=km.1 hy;rw[hz,woken_of_again (again_running w' (F.old x z hx hz).status)]);obtain⟨N,Rz,w2,um,q2,t2,a2,h1,h2⟩:=ih _ g' w' es hrd hgo _ w' q _ sl' (atRel_refl w') (fD (by simpa using hlt)) F';have hs:=hst.trans hrt;exact⟨N+1,Rz,w2,um,q2,t2,a2,by rw[runNT_succ_next hs];exact h1,h2⟩
   ·obtain⟨gs',ops,q',hrt,ha',F',hsz,hlt⟩:=quit (w:=w.at d) (sl:=sl') hrun ha F jS hi hg;obtain⟨N,Rz,w2,um,q2,t2,a2,h1,h2⟩:=JB _ (hμ▸hlt) gs' (w.at d) q' (T++ops) sl' (by rw[hsz]) hrd ha' F';have hs:=hst.trans hrt;exact⟨N+1,Rz,w2,um,q2,t2,a2,by rw[runNT_succ_next hs];exact h1,h2⟩
end
structure EndSpot(d:aK)(fr:Frame)(fs:List Frame)(UH:Frame):Prop where
 wake:mayWake d.P (bh fr (fs++d.cs0))=true
 ex:∃frc:Frame,(∀w,d.K w->∃w₂,stepG d.P true (bh fr (fs++d.cs0)) w=.go (bh frc (fs++d.cs0)) w₂ (closeEvents d.gone)/\w₂.tape=w.tape/\w₂.os=w.os/\w₂.output=w.output/\w₂.heap.size=w.heap.size/\(∃k r:Nat,w₂.heap[d.gone]? =some (.chan 0 #[] true k r false))/\∀b,b≠d.gone->w₂.heap[b]? =w.heap[b]?)/\
  ∀(Rd:Nat->Loc->Prop) (n Low:Nat) (F:World->Prop),(∀w w',tM d.C d.Wg w w'->F w->F w')->∃ez:Goroutine->World->Prop,(∀g w,ez g w->g.status=.running)/\
   (∀g w,ez g w->∃m,GP d.P d.ty d.Wg d.C Rd n Low (J1 d.P d.ty d.Wg d.C Rd n Low ez λg w=>g=bh UH (fs++d.cs0)/\F w/\WgLive d.ty d.Wg w) m g w)/\∀w,F w->WgLive d.ty d.Wg w->∃m,GP d.P d.ty d.Wg d.C Rd n Low (J0 d.P d.ty d.Wg d.C Rd n Low ez) m (bh frc (fs++d.cs0)) w
def JZ(w:World)(b:Nat):Prop:=∃k r:Nat,w.heap[b]? =some (Obj.chan 0 #[] true k r false)
def aK.K2(d:aK)(w:World):Prop:=d.K0 w/\fF w d.come/\JZ w d.gone/\(∀i,i<d.j->fF w (d.turn i))/\Kx w
section
variable{d:aK}{u:dX}{tp:Nat->Nat}{dt:Nat->Bool}{r:World}{sl:Option (Nat×Nat)}
theorem Zj(O:d.Ok):(d.cc.now d.K2 λ_ h=>h.1).Ok:=by
 refine⟨λw w₁ hr hk=>?_,λw hk=>aw hk.1.2.2,O.cw,λw hk hp=>?_,(ln O).still⟩
 ·obtain⟨⟨h1,h2,h3⟩,h4,h5,h6,hx⟩:=hk;have lL:Kx w₁:=hx.same λb o hb ho=>by rw[hr.block b (aw hb) (λe=>by obtain⟨st,sm,hw⟩:=h1;have hw:w.heap[d.Wg]? =_:=hw;have hb:w.heap[d.Wg]? =some o:=(by rw[←hb];exact congrArg _ e.symm);rw[hw]at hb;obtain rfl:=aP hb;cases ho)];exact hb
  have op:∀b,d.Wg≠b->fF w b->fF w₁ b:=λb hb ⟨k,hk⟩=>⟨k,by rw[hr.block b (aw hk) (bp hb)];exact hk⟩;have sh:∀b,d.Wg≠b->JZ w b->JZ w₁ b:=λb hb ⟨k,r,hk⟩=>⟨k,r,by rw[hr.block b (aw hk) (bp hb)];exact hk⟩;refine⟨⟨hr.live h1,λi hi x hx=>?_,by rw[hr.block d.C (aw h3) O.cw];exact h3⟩,op _ O.wc h4,sh _ O.wg h5,λi hi=>op _ (O.wt i hi) (h6 i hi),lL⟩;have h:=h2 i hi x hx;have e:w₁.heap[x.1.block]? =w.heap[x.1.block]? :=hr.block _ (iK h) (O.wf i hi x hx);rw[←h];simp only[World.cell?,e]
 ·obtain⟨cs,h1,h2⟩:=hp;have h3:w.heap[d.C]? =some (.cells d.csC d.eC (0,0)):=hk.1.2.2;rw[show(d.cc.now d.K2 λ_ h=>h.1).C=d.C from rfl,h3]at h1;simp only[cu,sL]at h1;rw[←h1.1]at h2;have:d.csC.size=d.csC.size+1:=h2;omega
omit[Payload]in
theorem Zk{Wg:Nat}{Rd:Nat->Loc->Prop}{j:Nat}(h:Ev0 Wg BC Rd j e):Vz Wg e:=by
 refine⟨λx hx hs=>?_,h.2.1,h.2.2.1⟩;rcases((h.1 0 "").2 x hx)with⟨_,h2⟩|⟨h2,_⟩
 ·exact h2
 ·exact absurd hs h2
theorem evH_close(d:aK):∀e∈closeEvents d.gone,W9 d.cc e:=by
 intro e he;simp only[closeEvents,List.mem_toArray,dM,pK,or_false]at he;have hS:∀g l,d.cc.S g l->∃x,l=.cell x:=λg l ⟨_,_,_,x,_,h⟩=>⟨_,h⟩;rcases he with rfl|rfl
 all_goals
  refine⟨λt ht=>⟨λg hg=>?_,λhs=>?_⟩,au,au,au⟩
  ·obtain⟨y,hy⟩:=hS g _ hg;simp only[MemAct.ofEvent,MemAct.touch?,cu]at ht;first|(subst ht;cases hy)|cases ht
  ·obtain⟨y,hy,_⟩:=hs;simp only[MemAct.ofEvent,MemAct.touch?,cu]at ht;first|(subst ht;cases hy)|cases ht
theorem over(X:d.Fit){UH:Frame}(E:EndSpot d fr fs UH)(B:Between d u t A tp M Inb r)(hg:gs[0]? =some (bh fr (fs++d.cs0)))(F:CF d.cc 0 d.j 0 Inb .kd D dt q T gs r):
  ∃N gs' r' sl' q' T',runNT d.P N (crowd gs r sl) T=(.next (crowd gs' r' sl'),T')/\gs'[0]? =some (bh UH (fs++d.cs0))/\TF d.P d.Wg q' T' gs'/\r'.os=r.os/\r'.output=r.output/\r.heap.size<=r'.heap.size/\WgLive d.ty d.Wg r'/\∀b,b<r.heap.size->b≠d.Wg->b≠d.gone->r'.heap[b]? =r.heap[b]? :=by
 have O:=X.ok;have OK:=ln O;have OK2:=Zj O;obtain⟨frc,hclose,abN⟩:=E.ex;have hKr:d.K r:=F.K;obtain⟨N1,gs1,w1,w2,CL,T1,D1,kd1,q1,IK,RF,Zl,hg1,J1'⟩:=closes (c:=d.cc) (K':=d.K2) (hs:=λ_ h=>h.1) (sl:=sl) OK (kg:=λ_=>1) (z:=λi=>((Inb (i+1)).bind λs=>s.cases[1]?).elim undef (·.zero)) (a:=bh fr (fs++d.cs0)) (a':=bh frc (fs++d.cs0)) (es:=closeEvents d.gone) rfl rfl E.wake
  (λw₁ hr hk=>by
   obtain⟨w₂,h1,_,_,_,_,h2,h3⟩:=hclose w₁ hk;obtain⟨⟨⟨st,sm,k1⟩,k2,k3⟩,⟨c1,k4⟩,⟨c2,k5⟩,k6,kx⟩:=hk;refine⟨w₂,h1,⟨⟨⟨st,sm,by show w₂.heap[d.Wg]? =_;rw[h3 _ O.wg];exact k1⟩,λi hi x hx=>?_,by rw[h3 _ (λe=>by rw[e,k5]at k3;cases k3)];exact k3⟩,⟨c1,by rw[h3 _ O.cg];exact k4⟩,h2,λi hi=>?_,kx.same λb o hb ho=>by rw[h3 b (λe=>by rw[e,k5]at hb;obtain rfl:=aP hb;cases ho)];exact hb⟩,h3⟩
   ·have h:=k2 i hi x hx;rw[←h];simp only[World.cell?,h3 x.1.block (λe=>by rw[uM (by rw[e];exact k5)]at h;cases h)]
   ·obtain⟨k,hk⟩:=k6 i hi;exact⟨k,by rw[h3 _ (bp (O.gt i hi))];exact hk⟩)
  (evH_close d) (bp O.wg) (λe=>by obtain⟨⟨_,_,k3⟩,_,⟨_,k5⟩,_⟩:=hKr;have e:d.gone=d.C:=e;rw[e,k3]at k5;cases k5)
  (λi s hs=>by
   obtain⟨z1,z2,g,hi,rfl⟩:=B.seats i s hs;have hz:((Inb (i+1)).bind λs=>s.cases[1]?).elim undef (·.zero)=z2:=(by rw[hs];rfl);refine⟨by rw[hz];rfl,λg₂ abO=>?_⟩;obtain rfl:g₂=g:=abO;by_cases hl:u.live i t
   ·obtain⟨y1,y2,f2,s2,h1,⟨n',h2⟩,_⟩:=(B.rest i hi).go hl;rw[hs]at h1;simp only[aK.seat,cu,Seat.mk.injEq]at h1;obtain⟨hc,_,hh⟩:=h1;have e1:g₂=bh f2 (s2++d.cw i):=(by have:=congrFun hh g₂;simpa using this);have e2:z1=y1/\z2=y2:=(by simpa[rcase]using hc);refine⟨n',λw hw=>?_⟩;rw[hz];subst e1;obtain⟨rfl,rfl⟩:=e2;exact h2 w hw
   ·rw[(B.rest i hi).over hl]at hs;cases hs)
  (λw hw=>hw.2.2.1) (λw hw i s b hs hb hne=>by
   obtain⟨z1,z2,g,hi,rfl⟩:=B.seats i s hs;rcases l7 hb with rfl|e
   ·exact hw.2.2.2.1 i hi
   ·exact absurd e hne) hg F
 obtain⟨_,hc1,_,ho1,yM,mC,abP,hb2⟩:=hclose w1 (OK.keep _ _ RF.g hKr);have Zl:stepG d.P true (bh fr (fs++d.cs0)) w1=_:=Zl;rw[Zl]at hc1;injection hc1 with _ hw2 _
 subst hw2;obtain⟨ez,hA,hAn,hJ0⟩:=abN (d.cc.now d.K2 λ_ h=>h.1).Rd d.j w2.heap.size (λw=>tM d.C d.Wg w2 w) (λw w' h1 h2=>⟨h1.tape.trans h2.tape,h1.os.trans h2.os,h1.output.trans h2.output,cn h2.size h1.size,λk h3 h4 h5=>(h1.block k (fp h3 h2.size) h4 h5).trans (h2.block k h3 h4 h5)⟩);have hK2:d.K2 w2:=J1'.keep;obtain⟨m0,hG0⟩:=hJ0 w2 ⟨rfl,rfl,rfl,aY _,λ_ _ _ _=>rfl⟩ hK2.1.1;have yx:Vq (d.cc.now d.K2 λ_ h=>h.1) (λ_=>none) w2.heap.size:=by
  obtain⟨⟨⟨st0,sm0,kw⟩,k2,k3⟩,⟨c1,k4⟩,⟨c2,c3,k5⟩,k6,kx⟩:=id hK2;refine⟨λw w' hw hk=>?_,λi s b hi hs hb=>(by cases hs),aw kw,aw k3⟩;obtain⟨⟨⟨st,sm,h1⟩,h2,h3⟩,⟨x4,h4⟩,⟨x5,y5,h5⟩,h6,hx⟩:=hk;refine⟨⟨⟨st,sm,by show w'.heap[d.Wg]? =_;rw[hw d.Wg (aw kw)];exact h1⟩,λi hi x hx=>?_,by rw[hw d.C (aw k3)];exact h3⟩,⟨x4,by rw[hw _ (aw k4)];exact h4⟩,⟨x5,y5,by rw[hw _ (aw k5)];exact h5⟩,λi hi=>?_,λb o h1 h2=>by rw[hw b (aw (kx b o h1 h2))];exact hx b o h1 h2⟩
  ·have:=h2 i hi x hx;rw[←this];simp only[World.cell?,hw _ (iK (k2 i hi x hx))]
  ·obtain⟨x6,h6⟩:=h6 i hi;obtain⟨_,h7⟩:=k6 i hi;exact⟨x6,by rw[hw _ (aw h7)];exact h6⟩
 obtain⟨N2,Rz,w3,um,T2,D2,kd2,q2,a2,m2,JQ,hg2,hG2,J2,hac,hall⟩:=joins (c:=d.cc.now d.K2 λ_ h=>h.1) (sl:=CL) OK2 (Rd:=(d.cc.now d.K2 λ_ h=>h.1).Rd) (n:=d.j) (Low:=w2.heap.size) (λw w' es h=>dhc_of_dp OK2 yx (λh0 g l ⟨i,_,hi,_⟩=>by have hi:i<d.j:=hi;omega) h) hA (λg w h=>by obtain⟨rfl,_⟩:=h;rfl) hAn hg1 (.kd hG0) au au J1';have F2:=TF.of J2 hall hac;have adP:w3.heap[d.C]? =some (.cells d.csC d.eC (0,0)):=J2.keep.1.2.2;have adQ:d.C<w2.heap.size:=aw hK2.1.2.2;have J5:d.Wg<w2.heap.size:=by obtain⟨st,sm,h⟩:=hK2.1.1;exact aw h
 have hW:=N7 (P:=d.P) (X:=λw=>w.heap[d.C]? =some (.cells d.csC d.eC (0,0))/\WgLive d.ty d.Wg w) (λw dd=>oy.at w dd) (λw dd h=>h) (λw w' es hd hx=>⟨by rw[hd.1 d.C adQ];exact hx.1,by obtain⟨st,sm,h⟩:=hx.2;exact⟨st,sm,(hd.1 d.Wg J5).trans h⟩⟩) ⟨adP,J2.keep.1.1⟩ hG2;obtain⟨N3,gs3,w4,Vv,q3,T3,a3,RA,hg3,F3,hQ⟩:=D6 (sl:=um) (λw w' es hd e he=>Zk (hd.2 e he)) hW hg2 F2;obtain⟨⟨rfl,hAs,_⟩,hC4,RM⟩:=hQ w4 (atRel_refl w4);refine⟨N1+N2+N3,gs3,w4,Vv,q3,T3,b9 (b9 IK JQ) RA,hg3,F3,hAs.os.trans (ho1.trans RF.os),hAs.output.trans (yM.trans RF.output),?_,RM,λb h1 h2 h3=>?_⟩
 ·have:=hAs.size;rw[mC,RF.size]at this;exact this
 ·by_cases e:b=d.C
  ·rw[e,hC4];exact hKr.1.2.2.symm
  ·rw[hAs.block b (by rw[mC,RF.size];exact h1) e h2,hb2 b h3];exact RF.block b h2
end
end
section
open Go Go.Conc Go.ConcN
open Go.ConcR (KK WgAt stA smA Payload Aside2 DC0)
variable[Payload]
structure SF(T:Trace)(w:World):Prop where
 who:∀op∈T,op.g=0
 deaf:Deaf T 0=0
 norel:∀op∈T,∀a,op.act≠.mark (.release a)
 inside:∀i a,touchAt T i=some a->∀x,a.loc=.cell x->x.block<w.heap.size
structure Zm(w w':World)(es:Array Event):Prop where
 size:w.heap.size<=w'.heap.size
 evs:∀e∈es,(∀t x,(MemAct.ofEvent e).touch? =some t->t.loc=.cell x->x.block<w'.heap.size)/\e.loc≠.mark .disable/\e.loc≠.mark .enable/\∀a,e.loc≠.mark (.release a)
section
variable{P:Program}{w:World}{es:Array Event}
omit[Payload]in
theorem Zn(w:World):SF #[] w:=⟨λop h=>by simp at h,rfl,λop h=>by simp at h,λi a h=>by obtain⟨x,hx,_⟩:=touch_of h;simp at hx⟩
omit[Payload]in
theorem SF.own(F:SF T w)(hd:Zm w w' es){pos:String}:SF (T++MemOp.ofEvents 0 fn pos es) w':=by
 have bC:∀op∈MemOp.ofEvents 0 fn pos es,op.g=0:=λop hop=>by obtain⟨e,_,rfl⟩:=Go.Conc.mem_ofEvents hop;rfl
 refine⟨λop hop=>(fu.1 hop).elim (F.who op) (bC op),?_,λop hop a=>?_,λi a ha x hx=>?_⟩
 ·rw[Deaf_own,F.deaf];exact deafBehind_still (λe h=>⟨(hd.evs e h).2.1,(hd.evs e h).2.2.1⟩) _
 ·rcases fu.1 hop with h|h
  ·exact F.norel op h a
  ·obtain⟨e,he,rfl⟩:=Go.Conc.mem_ofEvents h;intro hm;refine(hd.evs e he).2.2.2 a ?_;obtain⟨loc,wr,sy⟩:=e;cases loc<;>simp_all [MemAct.ofEvent] <;>(split at hm<;>simp_all)
 ·obtain⟨y,hy,hya⟩:=touch_of ha;rcases getElem?_append_cases hy with⟨hlt,hy'⟩|⟨_,hyu⟩
  ·exact fp (F.inside i a (by rw[touchAt_of hy'];exact hya) x hx) hd.size
  ·obtain⟨e,he,rfl⟩:=Go.Conc.mem_ofEvents hyu;exact(hd.evs e he).1 a x hya hx
omit[Payload]in
theorem CN(hW:fU P true AtRel Zm Q a w){sl:Option (Nat×Nat)}(F:SF T w):
  ∃N w' sl' T' a',runNT P N (crowd #[a] w sl) T=(.next (crowd #[a'] w' sl'),T')/\SF T' w'/\∀w₁,AtRel w' w₁->Q a' w₁:=by
 suffices H:∀a w₀,fU P true AtRel Zm Q a w₀->∀w T sl,AtRel w₀ w->SF T w->∃N w' sl' T' a',runNT P N (crowd #[a] w sl) T=(.next (crowd #[a'] w' sl'),T')/\SF T' w'/\∀w₁,AtRel w' w₁->Q a' w₁ from H a w hW w T sl (atRel_refl w) F
 intro a w₀ hW;induction hW with
 | @stop a w₀ hQ=>exact λw T sl hr F=>⟨0,w,sl,T,a,rfl,F,λw₁ h₁=>hQ w₁ (atRel_trans _ _ _ hr h₁)⟩
 | @step a w₀ hrun hstep hnext ih=>
  intro w T sl hr F;obtain⟨i,g,d,sl',hi,hg,hst⟩:=crowd_pick (P:=P) (w:=w) (sl:=sl) (gs:=#[a]) (λg hg=>by simp at hg;subst hg;exact awake_of (.inl hrun)) ⟨0,a,rfl,hrun⟩;have hrd:AtRel w₀ (w.at d):=atRel_trans _ _ _ hr ⟨d,rfl⟩;obtain rfl:i=0:=by have:=(aQ.1 hi).1;simp at this;exact this
  obtain rfl:g=a:=by simp at hi;exact hi.symm
  obtain⟨g',w',es,hgo,hd⟩:=hstep _ hrd;have hrt:=runT_crowd_go (P:=P) (sl:=sl') (i:=0) hi (show stepG P (0==0) g (w.at d)=_ from hgo);have F1:SF T (w.at d):=⟨F.who,F.deaf,F.norel,F.inside⟩;obtain⟨N,w2,um,t2,a2,h1,h2⟩:=ih _ g' w' es hrd hgo w' _ sl' (atRel_refl w') (F1.own hd (fn:=g.frame.fn) (pos:=g.frame.place));have hs:=hst.trans hrt;have e:(#[g].map (woken P g g' w')).setIfInBounds 0 g'=#[g']:=au;rw[e]at hs;exact⟨N+1,w2,um,t2,a2,by rw[runNT_succ_next hs];exact h1,h2⟩
theorem J6(F:SF T w)(hsz:c.Wg=w.heap.size)(hw:WgAt c.ty c.Wg w' 0 0)(hK:c.K w')(hS:∀g l,¬c.S g l){a':Goroutine}{dt:Nat->Bool}:
  CF c 0 0 0 (λ_=>none) .kd D dt q T #[a'] w':=by
 refine⟨rfl,au,λi g s _ _ h=>bY,λh=>absurd rfl h,λi g h1 h2 _=>?_,λi hi=>absurd hi (dV i),λi s h=>bY,λi s h=>bY,λi s b _ h _=>bY,λi i' s s' b _ _ h _ _ _ _=>bY,hK,⟨0,0,hw,?_⟩,by simp[ConcN.pend],⟨λsaid=>noRace_of_lone F.who,λi a ha _=>?_,λi a ha _ g _=>?_,λi a ha hX=>?_,λ_ h=>h.elim⟩,F.deaf,λi hi=>absurd hi (dV i),λi hi=>?_,λop hop=>F.norel op hop _,λi hi=>absurd hi (dV i),λop hop=>by rw[F.who op hop];simp⟩
 ·simp at h2
 ·have:=ConcN.Mode.opn (j:=0) (D:=D) (tag:=.kd) trivial (λi hi=>absurd hi (dV i)) (λvs h=>bY);simpa[ConcN.pend,Vc,sumTo]using this
 ·obtain⟨x,hx,_⟩:=touch_of ha;have:=knows_own hx;rw[F.who x (od hx)]at this;exact .inl this
 ·obtain⟨x,hx,_⟩:=touch_of ha;have:=knows_own hx;rw[F.who x (od hx)]at this;exact absurd ‹c.S g a.loc› (by intro h;exact hS g _ h)
 ·obtain⟨x,hx,hb⟩:=hX;have:=F.inside i a ha x hx;omega
 ·have:=Deaf_other #[] (g:=i) (g':=0) (by simp at hi;omega) T F.who;rw[Array.empty_append]at this;exact this
end
end
section
open Go Go.Conc Go.ConcN
open Go.ConcR (KK WgAt stA smA Payload Aside2 DC0)
variable[Payload]
variable[Inhabited bO]
def ig(d:aK)(u:dX)(r:World)(b:Nat):Prop:=∃i,i<d.j/\u.Pub i r b
open Classical in
noncomputable def zS(d:aK)(b:Nat):Option (Nat×Nat):=if h:∃f i,i<d.j/\d.fw i b=some f then some (Classical.choose h)else none
def Nr(d:aK)(u:dX)(M:Nat->Prop)(r:World)(b:Nat):Prop:=Nm d M r b\/ig d u r b
open Classical in
noncomputable def aK.Fr(d:aK)(u:dX)(r:World)(b:Nat):Option (Nat×Nat):=(d.Fm b).or (if ig d u r b then zS d b else none)
section
variable{d:aK}{u:dX}{tp:Nat->Nat}{a r:World}
theorem Between.zS(B:Between d u t A tp M Inb r){f:Nat×Nat}(hi:i<d.j)(h:d.fw i b=some f):zS d b=some f:=by have hex:∃f i,i<d.j/\d.fw i b=some f:=⟨f,i,hi,h⟩;unfold Go.Proofs.YtfmibhmknlnoiaaGreat.zS;rw[dif_pos hex];obtain⟨i',hi',h'⟩:=Classical.choose_spec hex;have:i=i':=B.apart i i' b hi hi' ((B.rest i hi).fw _ _ h).1 ((B.rest i' hi').fw _ _ h').1;subst this;rw[h]at h';exact h'.symm
omit[Payload]in
theorem J7{f:Nat×Nat}(h:zS d b=some f):∃i,i<d.j/\d.fw i b=some f:=by
 unfold Go.Proofs.YtfmibhmknlnoiaaGreat.zS at h;split at h
 ·rename_i hex;obtain rfl:=aP h;exact Classical.choose_spec hex
 ·cases h
theorem Between.rN(B:Between d u t A tp M Inb r)(h:ig d u r b):∃i,i<d.j/\Mine d u (A i) b:=by obtain⟨i,hi,hb⟩:=h;exact⟨i,hi,(B.rest i hi).pub b hb⟩
omit[Payload]in
theorem uQ{f:Nat×Nat}(h:d.Fr u r b=some f):d.Fm b=some f\/(d.Fm b=none/\ig d u r b/\∃i,i<d.j/\d.fw i b=some f):=by
 rcases or_some (x:=none) h with h|⟨h1,h⟩
 ·exact .inl h
 ·split at h
  ·rename_i hp;exact .inr ⟨h1,hp,J7 h⟩
  ·cases h
theorem Between.adR(B:Between d u t A tp M Inb r)(X:d.Fit)(hK:d.K r):d.Eye (Nr d u M r) (d.Fr u r) r:=by
 have E:=B.abx X hK;have far:∀b,ig d u r b->b≠d.Wg/\b≠d.come/\b≠d.gone/\∀k,k<d.j->b≠d.turn k:=λb h=>by obtain⟨i,hi,hm⟩:=B.rN h;exact B.far i b hi hm
 refine⟨λh=>h.elim E.wg λh=>(far _ h).1 rfl,λh=>h.elim E.come λh=>(far _ h).2.1 rfl,λh=>h.elim E.gone λh=>(far _ h).2.2.1 rfl,λk hk h=>h.elim (E.turn k hk) λh=>(far _ h).2.2.2 k hk rfl,λi hi x hx=>?_,?_,λb f hf=>?_,λb hb=>⟨.inl (E.new b hb).1,?_⟩,λb o hb ho=>hb.elim (λh=>E.bad b o h ho) λh=>by obtain⟨i,hi,hm⟩:=B.rN h;exact B.oks b o (.inr (.inr (.inr ⟨i,hi,hm⟩))) ho⟩
 ·rcases E.facts i hi x hx with h|⟨f,hf,h1,h2⟩
  ·by_cases hp:ig d u r x.1.block
   ·right;obtain⟨f,hf,h1,h2⟩:=X.fwf i hi x hx;refine⟨f,?_,h1,h2⟩;have Qq:d.Fm x.1.block=none:=by
     cases e:d.Fm x.1.block with
     |none=>rfl
     |some g=>exact absurd (E.fzn _ _ e) h
    simp only[aK.Fr,Qq,if_pos hp,Option.none_or];exact B.zS hi hf
   ·exact .inl λhn=>hn.elim h hp
  ·exact .inr ⟨f,by simp only[aK.Fr,hf,Option.some_or],h1,h2⟩
 ·simp only[aK.Fr,E.C,Option.some_or]
 ·rcases uQ hf with h|⟨_,h,_⟩
  ·exact .inl (E.fzn _ _ h)
  ·exact .inr h
 ·cases e:d.Fr u r b with
  |none=>rfl
  |some f=>
   rcases uQ e with h|⟨_,h,_⟩
   ·rw[(E.new b hb).2]at h;cases h
   ·obtain⟨i,hi,hm⟩:=B.rN h;obtain⟨o,ho,_⟩:=B.there hi hm;have:=aw ho;omega
theorem Between.fzR(B:Between d u t A tp M Inb r)(X:d.Fit):wz (d.Fr u r) r:=λb f hf=>by
 rcases uQ hf with h|⟨_,_,i,hi,h⟩
 ·exact B.fzM (λb f h=>(X.fmW b f h).2) b f h
 ·exact((B.rest i hi).fw _ _ h).2
omit[Payload]in
theorem N8(h0:wz F r)(h1:wz F r')(h:(r.heap[b]?).map (dJ (F b))=(r'.heap[b]?).map (dJ (F b))):r'.heap[b]? =r.heap[b]? :=by
 cases e:F b with
 |some f=>obtain⟨c,e1,hc⟩:=h0 b f e;obtain⟨c',e1',hc'⟩:=h1 b f e;rw[hc,hc',e,kS,kS,qB,qB]at h;simp only[cu,sL,and_true]at h;rw[hc,hc',h.1,h.2]
 |none=>
  have id':∀o:Option Obj,o.map (dJ none)=o:=λo=>by
   cases o with
   |none=>rfl
   |some o=>cases o<;>rfl
  rw[e,id',id']at h;exact h.symm
def zT(d:aK)(u:dX)(r a:World)(b:Nat):Prop:=gM d a b/\¬ig d u r b
theorem Between.read(B:Between d u t A tp M Inb r)(X:d.Fit)(U:u.Ok d)(hK:d.K r)(L:tK d.cc (Nr d u M r) (d.Fr u r) r a r')(R:Rel (Hid (Nr d u M r) r) a r')(iE:∀b,ig d u r b->a.heap[b]? =(r.heap[b]?).map (dJ (d.Fr u r b))):Between d u t A tp (zT d u r a) Inb r':=by
 have sI:∀b f,d.Fm b=some f->d.Fr u r b=some f:=λb f h=>by simp only[aK.Fr,h,Option.some_or]
 have hro:∀b,d.ro b≠none->r'.heap[b]? =r.heap[b]? :=λb hb=>by
  obtain⟨f,hf⟩:=kU.1 hb;have Qq:d.fm b=none:=by
   cases e:d.fm b with
   |none=>rfl
   |some g=>obtain⟨_,i,hi,rfl⟩:=X.fmW b g e;rw[X.roW i hi]at hf;cases hf
  exact whole_same (uO X (B.rook b f hf) (sI _ _ (by simp[aK.Fm,Qq,hf])) (X.ro0 b f hf)) (cJ r) L.shp λx hx=>L.cells x hx
 have nv:∀b,ig d u r b->r'.heap[b]? =r.heap[b]? :=λb hb=>by refine N8 (B.fzR X) L.fz ?_;rw[←iE b hb];exact L.sees.need (.inr hb)
 have hw:∀i b,i<d.j->Mine d u (A i) b->r'.heap[b]? =r.heap[b]? :=λi b hi hb=>by
  by_cases hp:ig d u r b
  ·exact nv b hp
  ·obtain⟨o,ho,hn⟩:=B.there hi hb;refine L.still b (tL ho hn ?_) (B.far i b hi hb).1;rintro((h|⟨i',hi',rfl⟩|h|h)|h)
   ·exact(B.m b h).2.1 i hi hb
   ·exact hp ⟨i',hi',U.pubW i' _ r hi' (B.rest i' hi').wr⟩
   ·exact h hb.choose_spec.2.2.2.2
   ·have:=aw ho;omega
   ·exact hp h
 have hf:∀b,u.Foot r b->r'.heap[b]? =r.heap[b]? :=λb hb=>by
  obtain⟨⟨c,e,hc⟩,hr⟩:=U.foot t r b B.inv hb;refine L.still b (tL hc rfl ?_) (B.footg b hb);rintro((h|⟨i,hi,rfl⟩|h|h)|h)
  ·exact(B.m b h).2.2.1 hb
  ·exact B.foot i _ hi (B.qF X hi) hb
  ·exact h hr
  ·have:=aw hc;omega
  ·obtain⟨i,hi,hm⟩:=B.rN h;exact B.foot i b hi hm hb
 have hback:∀b,zT d u r a b->r'.heap[b]? =a.heap[b]? :=λb ⟨⟨o,h1,h2,h3,h4,h5⟩,h6⟩=>by
  obtain⟨y,hy,h7,_⟩:=dY L.sees h1 h2;have:d.Fr u r b=none:=by
   cases e:d.Fr u r b with
   |none=>rfl
   |some f=>
    rcases uQ e with h|⟨_,h,_⟩
    ·rcases or_some (x:=none) h with h|⟨_,h⟩
     ·obtain⟨_,i,hi,rfl⟩:=X.fmW b f h;exact absurd rfl (h4 i hi)
     ·rw[h5]at h;cases h
    ·exact absurd h h6
  rw[this]at h7;rw[h1,hy,h7];cases y<;>rfl
 refine B.keep X U hK L.grow hw hro hf (λb ⟨⟨o,h1,h2,h3,h4,h5⟩,h6⟩=>?_) (λb o hb ho=>?_) (λb x l h=>L.shp.2 _ _ _ h) L.same
 ·obtain⟨y,hy,_,hN⟩:=dY L.sees h1 h2;rcases hN h3 with(h|⟨i,hi,h⟩|h|h)|h
  ·exact .inl h
  ·exact absurd h (h4 i hi)
  ·exact absurd h5 h
  ·exact .inr ⟨h,aw hy,h5⟩
  ·exact absurd h h6
 ·rw[hback b hb]at ho;obtain⟨⟨o',h1,h2,h3,_⟩,_⟩:=hb;rw[h1]at ho;obtain rfl:=aP ho;refine R.objs b (λhh=>?_) o' h1;have:=(R.hid b hh).1;rw[h1]at this;exact h2 (aP this)
structure uR(d:aK)(u:dX)(t:Nat)(a a':World):Prop where
 size:a'.heap.size=a.heap.size
 same:∀(b:Nat) o,a.heap[b]? =some o->o≠cI->a'.heap[b]? =some o
 wr:∀i,i<d.j->u.WR i t a'
 pub:∀i,i<d.j->∀b,u.Pub i a' b->(∀k,k<d.j->b≠d.W k)->a.heap[b]? =some cI
theorem Between.RN(B:Between d u t A tp M Inb r)(X:d.Fit)(U:u.Ok d)(fX:Sees (Nm d M r) d.Fm a r):uR d u t a (fJ (Nr d u M r) (d.Fr u r) r)/\∀b,ig d u (fJ (Nr d u M r) (d.Fr u r) r) b↔ig d u r b:=by
 have S:=dD (Nr d u M r) (d.Fr u r) r;have hwr:∀i,i<d.j->u.WR i t (fJ (Nr d u M r) (d.Fr u r) r)/\∀b,u.Pub i (fJ (Nr d u M r) (d.Fr u r) r) b↔u.Pub i r b:=λi hi=>U.wr i t r _ (B.rest i hi).wr λx hx=>(cell_chill (S.need (.inr ⟨i,hi,hx⟩))).symm;refine⟨⟨by rw[S.size,fX.size],λb o h1 h2=>?_,λi hi=>(hwr i hi).1,λi hi b hb hW=>?_⟩,λb=>⟨λ⟨i,hi,h⟩=>⟨i,hi,((hwr i hi).2 b).1 h⟩,λ⟨i,hi,h⟩=>⟨i,hi,((hwr i hi).2 b).2 h⟩⟩⟩
 ·obtain⟨y,hy,h3,h4⟩:=dY fX h1 h2;by_cases hn:bU o=true
  ·have hN:=h4 hn;rw[hide_need (.inl hN),hy];have:d.Fr u r b=d.Fm b:=by
    unfold aK.Fr;cases e:d.Fm b with
    |some f=>rfl
    |none=>
     split
     ·rename_i hp;obtain⟨i,hi,hm⟩:=B.rN hp;exfalso;rcases hN with h|⟨i',hi',rfl⟩|h|h
      ·exact(B.m b h).2.1 i hi hm
      ·obtain⟨f,hf⟩:=X.Wfm i' hi';simp[aK.Fm,hf]at e
      ·exact h hm.choose_spec.2.2.2.2
      ·have:=aw hy;omega
     ·rfl
   rw[this,h3];rfl
  ·have sf:bU o=false:=(by simpa using hn);have hy':=sees_num fX h1 sf;rw[dh,hy'];simp[sf,ou sf]
 ·have hb':u.Pub i r b:=((hwr i hi).2 b).1 hb;have hm:=(B.rest i hi).pub b hb';obtain⟨o,ho,hn⟩:=B.there hi hm;refine fX.hid (tL ho hn ?_);rintro(h|⟨i',hi',h⟩|h|h)
  ·exact(B.m b h).2.1 i hi hm
  ·exact hW i' hi' h
  ·exact h hm.choose_spec.2.2.2.2
  ·have:=aw ho;omega
end
inductive Ph where
 |pre|run (t:Nat) (d:aK)|read (t:Nat) (d:aK) (w:World)|post
structure mQ(d:aK)(u:dX)(a a':World):Prop where
 size:a'.heap.size=a.heap.size+1
 same:∀(b:Nat) o,a.heap[b]? =some o->o≠cI->¬u.Foot a b->b≠d.come->b≠d.gone->d.ro b=none->a'.heap[b]? =some o
 ro:∀b f,d.ro b=some f->∃c e,a.heap[b]? =some (.cells c e (0,0))/\a'.heap[b]? =some (.cells c e f)
structure Start(d:aK)(u:dX)(a:World)(fr:Frame)(fs:List Frame)(aZ:Frame):Prop where
 Wg:d.Wg=a.heap.size
 j:d.j=0
 step:∀w:World,w.heap.size=a.heap.size->stepG d.P true (bh fr (fs++d.cs0)) w=.go (bh aZ (fs++d.cs0)) {w with heap:=w.heap.push (Go.ConcR.wgBlock d.ty 0 0)} #[]
 fit:d.Fit
 uok:u.Ok d
 come:a.heap[d.come]? =some (.chan 0 #[] false 0 0 false)
 gone:a.heap[d.gone]? =some (.chan 0 #[] false 0 0 false)
 C:a.heap[d.C]? =some (.cells d.csC d.eC (0,0))
 inv:u.Inv 0 a
 ro:∀b f,d.ro b=some f->∃c e,a.heap[b]? =some (.cells c e (0,0))/\c.size<=f.2
structure uS(d:aK)(u:dX)(t:Nat)(a a':World):Prop where
 size:a.heap.size<=a'.heap.size
 same:∀(b:Nat) o,a.heap[b]? =some o->o≠cI->¬ig d u a b->d.ro b=none->a'.heap[b]? =some o
 ro:∀b f,d.ro b=some f->∃c e,a.heap[b]? =some (.cells c e f)/\a'.heap[b]? =some (.cells c e (0,0))
 inv:u.Inv t a'
 wr:∀i,i<d.j->u.WR i t a'
 pub:∀b,ig d u a b->∀x:Addr,x.block=b->a'.cell? x=a.cell? x
 foot:∀(b:Nat) o,a.heap[b]? =some o->o≠cI->bU o=true->¬ig d u a b->d.ro b=none->¬u.Foot a' b
 pubF:∀b,ig d u a b->¬u.Foot a' b
def JA(P:Program)(S:ba)(cs0:List Frame)(U:aK->dX)(fr:Frame)(fs:List Frame)(a:World)(K:Ph->Frame->List Frame->World->Prop):Prop:=∃d aZ,d.P=P/\d.S=S/\d.cs0=cs0/\Start d (U d) a fr fs aZ/\K=λi' VA bz a'=>i'=.run 0 d/\VA=aZ/\bz=fs/\mQ d (U d) a a'
def JV(U:aK->dX)(t:Nat)(d:aK)(fr:Frame)(fs:List Frame)(a:World)(K:Ph->Frame->List Frame->World->Prop):Prop:=K=λi' aZ bz a'=>i'=.read t d a'/\aZ=fr/\bz=fs/\uR d (U d) t a a'
def JE(U:aK->dX)(t:Nat)(d:aK)(w:World)(fr:Frame)(fs:List Frame)(a:World)(K:Ph->Frame->List Frame->World->Prop):Prop:=∃UH,EndSpot d fr fs UH/\(∀b,ig d (U d) w b->a.heap[b]? =w.heap[b]?)/\K=λi' aZ bz a'=>i'=.post/\aZ=UH/\bz=fs/\uS d (U d) t a a'
def JP(P:Program)(S:ba)(cs0:List Frame)(U:aK->dX):dA Ph:=λi fr fs a K=>match i with
 |.pre=>JA P S cs0 U fr fs a K
 |.run t d=>(∃K',JM U (t,d) fr fs a K'/\K=λi' aZ bz a'=>∃t' d',i'=.run t' d'/\K' (t',d') aZ bz a')\/JV U t d fr fs a K
 |.read t d w=>JE U t d w fr fs a K
 |.post=>False
section
variable{P:Program}{U:aK->dX}
theorem VB{Stop:Ph->Frame->List Frame->World->Prop}{i:Ph}{a:World}(h:ZigC P true cs0 (JP P S cs0 U) Stop i fr fs a):∀t d,i=.run t d->
  ZigC P true cs0 (JM U) (λi fr fs a=>Stop (.run i.1 i.2) fr fs a\/∃K,JV U i.1 i.2 fr fs a K/\∀i' aZ bz a',K i' aZ bz a'->ZigC P true cs0 (JP P S cs0 U) Stop i' aZ bz a') (t,d) fr fs a:=by
 induction h with
 | @mk i fr fs a K h1 h2 ih=>
  rintro t d rfl;refine uN (h1.bind λaZ bz a' hs=>.stop ?_);rcases hs with hs|⟨K',hj,hk⟩|hj
  ·exact .inl (.inl hs)
  ·refine .inr ⟨K',hj,λi' bo cj a2 h=>?_⟩;exact ih aZ bz a' (.run i'.1 i'.2) bo cj a2 (by rw[hk];exact⟨i'.1,i'.2,rfl,h⟩) i'.1 i'.2 rfl
  ·exact .inl (.inr ⟨K aZ bz a',hj,h2 aZ bz a'⟩)
omit[Payload]in
theorem CO{a:Touch}(h:(MemAct.ofEvent e).touch? =some a)(hx:a.loc=.cell x):e.loc=.cell x\/(∃m,e.loc=.mark m):=by
 obtain⟨loc,wr,sy⟩:=e;cases loc with
 |mark m=>exact .inr ⟨m,rfl⟩
 |cell y=>left;cases wr<;>cases sy<;>simp[MemAct.ofEvent,MemAct.touch?]at h<;>(subst h;simpa using hx)
 |obj y=>exfalso;cases wr<;>cases sy<;>simp[MemAct.ofEvent,MemAct.touch?]at h<;>first|(subst h;cases hx)|cases h
 |output=>exfalso;simp[MemAct.ofEvent,MemAct.touch?]at h;subst h;cases hx
 |goroutines=>exfalso;simp[MemAct.ofEvent,MemAct.touch?]at h<;>first|(subst h;cases hx)|cases h
omit[Payload]in
theorem went_solo{a r:World}(w:Went H #[] a a' r r' er):Zm r r' er:=by
 refine⟨w.grow,λe he=>?_⟩;have h1:=(w.evs e he).resolve_left au;have h2:=(w.evin e he).resolve_left au;refine⟨λt x ht hx=>?_,λe'=>?_,λe'=>?_,λa e'=>?_⟩
 ·rcases CO ht hx with h|⟨m,h⟩
  ·exact h2 x h
  ·obtain⟨loc,wr,sy⟩:=e;simp only at h;subst h;cases m<;>first|(simp[MemAct.ofEvent,MemAct.touch?]at ht;done)|exact h1.elim
 all_goals
  unfold Fc at h1;rw[e']at h1;exact h1
structure Zo(P:Program)(S:ba)(cs0:List Frame)(Stop:Ph->Frame->List Frame->World->Prop)(m:Machine)(T:Trace):Prop where
 ex:∃gs r sl fr fs a,m=crowd gs r sl/\gs[0]? =some (bh fr (fs++cs0))/\((gs.size=1/\SF T r/\Stop .pre fr fs a/\Kx r/\DV r/\∃N:Nat->Prop,Rel (Hid N r) a r/\Sees N (λ_=>none) a r/\∀b,r.heap.size<=b->N b)\/
  ∃q Wg N,Kx r/\DV r/\TF P Wg q T gs/\Stop .post fr fs a/\Rel (Hid N r) a r/\Sees N (λ_=>none) a r/\Hid N r Wg/\(∀b,r.heap.size<=b->N b))
theorem MB{a r:World}(hrel:Rel H a r)(hx:Kx r)(w:Went H #[] a a' r r' er):Kx r':=hx.same λb o hb ho=>by
 rw[w.hidden b (cY λhn=>?_)]
 ·exact hb
 ·rcases hrel.same b hn with e|⟨c,e,f,h1,h2⟩
  ·have:=hrel.objs b hn o (e.trans hb);rw[ho]at this;cases this
  ·rw[hb]at h2;obtain rfl:=aP h2;cases ho
theorem lq(hN:∀b,bH.heap.size<=b->N b):Beside (Hid N bH) AtRel Zm (λa r=>Sees N (λ_=>none) a r/\(∀b,Hid N bH b↔Hid N r b)/\bH.heap.size<=r.heap.size/\Kx r/\DV r):=by
 refine⟨λa r r₁ ⟨d,e⟩ hrel L=>?_,λa a' r r' er hrel L w=>?_,λa a' r hA L=>⟨L.1.alike hA,L.2⟩,λa a' r r' er hrel L w=>went_solo w⟩
 ·subst e;exact⟨⟨hrel.size,hrel.same,hrel.hid,hrel.objs,hrel.os,hrel.output⟩,⟨L.1.size,L.1.os,L.1.output,L.1.get⟩,L.2⟩
 ·obtain⟨h1,_,h3⟩:=L.1.went (λb f h=>bY) (λb hb=>⟨hN b hb,rfl⟩) L.2.2.1 L.2.1 w;exact⟨h1,h3,cn L.2.2.1 w.grow,MB hrel L.2.2.2.1 w,L.2.2.2.2.same w.same⟩
theorem xR{Wg:Nat}(hW:Hid N bH Wg)(hN:∀b,bH.heap.size<=b->N b):Beside (Hid N bH) AtRel (λ_ _ es=>∀e∈es,Vz Wg e) (λa r=>Sees N (λ_=>none) a r/\(∀b,Hid N bH b↔Hid N r b)/\bH.heap.size<=r.heap.size/\Kx r/\DV r):=by
 refine⟨λa r r₁ ⟨d,e⟩ hrel L=>?_,λa a' r r' er hrel L w=>?_,λa a' r hA L=>⟨L.1.alike hA,L.2⟩,λa a' r r' er hrel L w e he=>?_⟩
 ·subst e;exact⟨⟨hrel.size,hrel.same,hrel.hid,hrel.objs,hrel.os,hrel.output⟩,⟨L.1.size,L.1.os,L.1.output,L.1.get⟩,L.2⟩
 ·obtain⟨h1,_,h3⟩:=L.1.went (λb f h=>bY) (λb hb=>⟨hN b hb,rfl⟩) L.2.2.1 L.2.1 w;exact⟨h1,h3,cn L.2.2.1 w.grow,MB hrel L.2.2.2.1 w,L.2.2.2.2.same w.same⟩
 ·have h1:=(w.evs e he).resolve_left au;refine⟨λt ht hs=>?_,λe'=>?_,λe'=>?_⟩
  ·obtain⟨x,hx,hb⟩:=hs;rcases CO ht hx with h|⟨m,h⟩
   ·unfold Fc at h1;rw[h]at h1;exact absurd (hb▸hW:Hid N bH x.block) h1
   ·obtain⟨loc,wr,sy⟩:=e;simp only at h;subst h;cases m<;>first|(simp[MemAct.ofEvent,MemAct.touch?]at ht;done)|exact h1.elim
  all_goals
   unfold Fc at h1;rw[e']at h1;exact h1
end
end
end Go.Proofs.YtfmibhmknlnoiaaGreat
