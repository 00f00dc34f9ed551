import Derived.Test.YtfmibhmknlnoiaaGreatQ00
import Derived.Conc.CrowdRun
import Derived.Conc.WgGenN3
import Derived.Conc.Always
set_option linter.all false
set_option maxRecDepth 100000
set_option maxHeartbeats 4000000
namespace Go.Proofs.YtfmibhmknlnoiaaGreat
open _root_.Go.Proofs.Tryz
open _root_.Option renaming some→ae,none→ah
open _root_.Bool renaming true→au,false→aw
open _root_.Go.Value renaming int→aq,pointer→aI
open _root_.Go.Obj renaming cells→aK
open _root_.Go.Item renaming inRegion→bI
open _root_.Go renaming World→aj,Value→ay,Frame→aB,Goroutine→aY,Program→bh,Oper→aZ,Addr→aP,TypeId→bq,Event→cK,undef→aO,yielded→dW,stepG→bn,runNT_succ_next→pB
open _root_.Go.Conc renaming stepG_region_end→bP,stepG_seq→bU,goes_go→cG,Deaf_other→ig,getElem?_append_cases→tG,woken_of_again→mi,offersAt_of_not_blocked→tH,runT_crowd_go→mj,again_running→nB,rcase→dh,crowd→bS,mem_ofEvents→iK,served→mq
open _root_.Go.ConcN renaming WgLive→dG,sumTo→cZ,upd_same→gR
open _root_.Go.ConcR renaming Payload→fQ,wgBlock→qi
open _root_.Go.Region renaming wanted→dF
open _root_.Go.MemOp renaming ofEvents→eM
open _root_.Go.MemAct renaming ofEvent→fH,touch?→ly
open _root_.Go.World renaming cell?→fG
open _root_.Go.Act renaming eval→cS
open _root_.List renaming range→dx
open _root_.Go.IntKind renaming i64→af
variable{ι σ α:Type}{a₀:Act}{x:aP}{er:Array cK}{gs gs' Uc:Array aY}{ops₀:Array aZ}{ats:Array bq}{tm:Bool}{c c':CC}{cJ:ConcN.CTag}{Hs:ConcN.CTag->aY->aj->Prop}{sh:CommShape}{e:cK}{b₀ fr cB cz:aB}{fn:FuncId}{H' a a' g':aY}{Q Jp:aY->aj->Prop}{sm:Int}{J J':fM ι}{xs Dj:List (aP×ay)}{cs cs0 jC fs ny wfs:List aB}{k₀:List Item}{rest₀:List Nat}{X:Loc->Prop}{m1:Machine}{B' b d0 h i i₀ k kj kk m n' nh t tk:Nat}{fk y:Nat×Nat}{aeF:Nat->Bool}{S S':Nat->Loc->Prop}{kg q q2:Nat->Nat}{F kO:Nat->Option (Nat×Nat)}{Inb jP yM:Nat->Option Conc.Seat}{H M M' N N' Nk qo Xm:Nat->Prop}{z:Nat->ay}{D D2:Nat->ConcN.WD}{A A':Nat->aj}{Uh:aZ}{f sl xd:Option (Nat×Nat)}{s s0 sy:Conc.Seat}{T T' T2 t1:Trace}{γ:Type}{v z1 z2:ay}{Post:ay->aj->Prop}{d:ConcN.WD}{a1 r' dJ w' w₁:aj}{K' YL:aj->Prop}{D' B7:aj->aj->Array cK->Prop}{R R':aj->aj->Prop}
section
open Go.Conc Go.ConcN
open Go.ConcR (KK WgAt stA smA Payload Aside2 DC0)
variable[fQ]
structure ES(cases:Array CommCase)(kk b:Nat)(v:ay):Prop where
 at_:∃z,cases[kk]? =ae (scase b v z)
 oth:∀m cc,m≠kk->cases[m]? =ae cc->∃b' z',cc=dh b' z'/\b'≠b
omit[Payload]in
theorem ES.off{cases:Array CommCase}(G:ES cases kk b v)(g:aY)(sh:CommShape){x:Nat}(hx:x≠b):offersAt (parked g cases sh) x au=[]:=by
 simp only[offersAt,parked];rw[List.map_eq_nil_iff,List.filter_eq_nil_iff];rintro⟨cc,m⟩ hm;have vx:=mem_of_zipIdx hm;by_cases e:m=kk
 .subst e;obtain⟨z,hz⟩:=G.at_;rw[hz]at vx;obtain rfl:=bj vx;simp[scase,bZ hx]
 .obtain⟨b',z',rfl,_⟩:=G.oth m cc e vx;simp[dh]
omit[Payload]in
theorem ES.on{cases:Array CommCase}(G:ES cases kk b v)(g:aY)(sh:CommShape):offersAt (parked g cases sh) b au=[kk]:=by
 obtain⟨z,hk⟩:=G.at_;simp only[offersAt,parked];have hz:∀m:Nat,cases.zipIdx.toList[m]? =(cases[m]?).map λx=>(x,m):=by intro m;simp
 have:=filter_map_one (id:CommCase×Nat->CommCase×Nat) (λ(x:CommCase×Nat)=>x.1.send.isSome==au&&(match x.1.chan with|.chan (ae r')=>r'==b|_=>aw)) cases.zipIdx.toList kk (scase b v z,kk) (by rw[hz,hk];rfl) (by simp[scase])
  (λm x hm hx=>by
   rw[hz]at hx;cases e:cases[m]? with
   |none=>rw[e]at hx;cases hx
   |some y=>rw[e]at hx;simp only[nC,dD]at hx;subst hx;obtain⟨b',z',rfl,_⟩:=G.oth m y hm e;simp[dh])
 simp only[List.map_id,id]at this;exact(congrArg (List.map λx=>x.snd) this).trans rfl
omit[Payload]in
theorem Md{g:aY}{cs:Array CommCase}{w:aj}(h:∀cc∈cs,∃b cap buf s r tm,cc.chan=.chan (ae b)/\w.heap[b]? =ae (.chan cap buf aw s r tm)):(parked g cs sh).again w=parked g cs sh:=by simp[Goroutine.again,parked];intro x hx;obtain⟨c,cap,buf,s,r,tm,e,hc⟩:=h cs[x] (Array.getElem_mem hx);rw[e];simp[hc]
def xB(h:Nat)(jP:Nat->Option Seat)(u:Nat->Bool):Nat->Bool:=λx=>if x+1=h then(jP h).isNone else u x
structure After(c:CC)(h:Nat)(Inb jP:Nat->Option Seat)(H':aY)(nh:Nat):Prop where
 seat:∀s,jP h=ae s->c.TN h s nh H'/\s.Wf
 chans:∀s b w,c.K w->jP h=ae s->s.has b->(∃k,w.heap[b]? =ae (.chan 0 #[] aw k k aw))/\b≠c.Wg/\b≠c.C
 apart:∀i s s' b,i≠h->Inb i=ae s->jP h=ae s'->s.has b->s'.has b->b=c.gone
 main:h=0->jP h≠ah
 walk:∀x,h=x+1->jP h=ah->∀w,c.K0 w->c.Unw x nh H' w
 same:∀i,i≠h->jP i=Inb i
section
variable{j y:Nat}{tag:CTag}{fe:Nat->Bool}{w:aj}
theorem CF.pass(F:CF c h j 0 Inb tag D fe q T gs w)(hy:y≠h)(Jl:Inb y=ae sy)(A:After c h Inb jP H' nh)(hsz:gs'.size=gs.size)(nQ:∀x,x≠h->x≠y->gs'[x]? =gs[x]?)(hH:gs'[h]? =ae H')
  (hK:c.K w')(hch:∀b:Nat,(∃k:Nat,w.heap[b]? =ae (Obj.chan 0 #[] aw k k aw))->∃k:Nat,w'.heap[b]? =ae (Obj.chan 0 #[] aw k k aw))(lI:w'.heap[c.Wg]? =w.heap[c.Wg]?)(hdum:w'.heap[c.C]? =w.heap[c.C]?)
  (hled:Led (λ_=>False) c.S (ShN c.Wg) (λi=>Knows T' y i) T')(tJ:∀x,Deaf T' x=Deaf T x)(hno:∀op∈T',op.act≠.mark (.release (stA c.Wg)))(TX:∀op∈T',op.g<gs.size)(hrel:∀i,i<j->(D i).stage<=6->∀r,RelBy (stA c.Wg) T (i+1) r->RelBy (stA c.Wg) T' (i+1) r):
  CF c y j 0 jP tag D (xB h jP fe) (upd q h nh) T' gs' w':=by
 obtain⟨st,sm,hw,hm⟩:=F.group;have hw':WgAt c.ty c.Wg w' st sm:=lI.trans hw;have Jn:∀i s,i≠h->jP i=ae s->Inb i=ae s:=λi s hi e=>by rw[A.same i hi]at e;exact e
 refine⟨hsz.trans F.size,by rw[hsz];exact F.inR y sy Jl,λi g s h1 h2 h3=>?_,λhy0=>?_,λi g h1 h2 h3=>?_,λi hi h1=>?_,λi s h1=>?_,λi s h1=>?_,λi s b h1 h2 h3=>?_,λi i' s s' b h1 h2 h3 h4 h5 h6 h7=>?_,hK,⟨st,sm,hw',hm⟩,F.pend,hled,
  by rw[tJ];exact F.deaf0,λi hi=>by rw[tJ];exact F.deafW i hi,λi hi=>by rw[tJ];exact F.above i ai,hno,λi hi hs=>by obtain⟨r,hr⟩:=F.rel i hi hs;exact⟨r,hrel i hi hs r hr⟩,by rw[hsz];exact TX⟩
 .by_cases e:i=h
  .subst e;rw[hH]at h2;obtain rfl:=bj h2;rw[gR];exact(A.seat s h3).1
  .rw[nQ i e h1]at h2;rw[upd_ne q nh e];exact F.seat i g s e h2 (Jn i s e h3)
 .by_cases e:h=0
  .rw[←e];exact A.main e
  .rw[A.same 0 (bZ e)];exact F.main e
 .by_cases e:i+1=h
  .have BF:=h2;rw[e,hH]at h2;obtain rfl:=bj h2;have sD:i<j:=(by have:=F.hlt;have:=F.size;omega);obtain⟨f1,f2⟩:=F.full i sD (.inr e);rw[e]at h3;refine .inl ⟨by simp[xB,e,h3],f1,f2,?_⟩;rw[e,gR];exact A.walk i e.symm h3 w' (c.sub _ hK)
  .rw[nQ _ e h1]at h2;rw[A.same _ e]at h3;rw[upd_ne q nh e];simp only[xB,aU e];refine(F.work i g e h2 h3).imp (λ⟨a,b,d,f⟩=>⟨a,b,d,kX (λ_ _ _ _ x=>x) f (c.sub _ hK)⟩) (λ⟨a,b⟩=>⟨a,b.rely ?_⟩);exact⟨λb hb=>aT hb (fR b),λ_=>⟨st,sm,hw'⟩,λ⟨cs,h1,h2⟩=>⟨cs,hdum.trans h1,h2⟩,cell_of_block hdum _⟩
 .by_cases e:i+1=h
  .exact F.full i hi (.inr e)
  .by_cases ey:i+1=y
   .exact F.full i hi (.inl (by rw[ey,Jl];simp))
   .refine F.full i hi (h1.imp (λz=>?_) (λz=>aT z ey));rwa [A.same _ e]at z
 .rw[hsz];by_cases e:i=h
  .rw[e];exact F.hlt
  .exact F.inR i s (Jn i s e h1)
 .by_cases e:i=h
  .subst e;exact(A.seat s h1).2
  .exact F.wf i s (Jn i s e h1)
 .by_cases e:i=h
  .subst e;exact A.chans s b w' hK h2 h3
  .obtain⟨h4,h5,h6⟩:=F.chans i s b e (Jn i s e h2) h3;exact⟨hch b h4,h5,h6⟩
 .by_cases e:i=h
  .by_cases e':i'=h
   .rw[e,e']
   .subst e;exact aT (A.apart i' s' s b e' (Jn i' s' e' h4) h3 h6 h5) h7
  .by_cases e':i'=h
   .subst e';exact aT (A.apart i s s' b e (Jn i s e h3) h4 h5 h6) h7
   .exact F.inj i i' s s' b e e' (Jn i s e h3) (Jn i' s' e' h4) h5 h6 h7
def Passed(c:CC)(y j b kj:Nat)(v:ay)(s:Seat)(jP:Nat->Option Seat)(tag:CTag)(w:aj)(m:Machine)(t:Trace):Prop:=
 ∃gs' w₁ k sl' D' u' q' g₂,m=bS gs' (w₁.setChan b 0 #[] aw (k+1) (k+1) aw) sl'/\RH c w w₁/\w₁.heap[b]? =ae (.chan 0 #[] aw k k aw)/\gs'[y]? =ae (mq g₂ (commResult s.cases s.shape kj v au))/\s.home g₂/\
  CF c y j 0 jP tag D' u' q' t gs' (w₁.setChan b 0 #[] aw (k+1) (k+1) aw)
omit[Payload]in
theorem TY(h j:Nat)(fh:FuncId)(ph:String)(fj:FuncId)(pj:String)(b k cap:Nat):∀op∈met h j fh ph fj pj b k cap,∀m,op.act≠.mark m:=by intro op hop m;simp only[met,List.mem_toArray,fU,rP,or_false]at hop;rcases hop with rfl|rfl|rfl|rfl<;>simp
omit[Payload]in
theorem aaX(h j:Nat)(fh:FuncId)(ph:String)(fj:FuncId)(pj:String)(b k cap:Nat):∀op∈met h j fh ph fj pj b k cap,op.g=h\/op.g=j:=by intro op hop;simp only[met,List.mem_toArray,fU,rP,or_false]at hop;rcases hop with rfl|rfl|rfl|rfl<;>simp
omit[Payload]in
theorem Led.met{t:Trace}{j:Nat}(H:Led (λ_=>False) S X (λi=>Knows t h i) t)(hh:Deaf t h=0)(hj:Deaf t j=0)(fh:FuncId)(ph:String)(fj:FuncId)(pj:String)(b k:Nat):
  Led (λ_=>False) S X (λi=>Knows (t++met h j fh ph fj pj b k 0) j i) (t++met h j fh ph fj pj b k 0):=by
 have e0:(t++Go.Conc.met h j fh ph fj pj b k 0)[t.size]? =ae {g:=h,fn:=fh,pos:=ph,act:=.send b k}:=by simp[Go.Conc.met]
 have e3:(t++Go.Conc.met h j fh ph fj pj b k 0)[t.size+3]? =ae {g:=j,fn:=fj,pos:=pj,act:=.recvDone b k}:=by simp[Go.Conc.met]
 have edge:HappensBefore (t++Go.Conc.met h j fh ph fj pj b k 0) t.size (t.size+3):=Relation.TransGen.single (.inr ⟨.handOver (act?_of e0) (act?_of e3),⟨h,g?_of e0,by rw[deaf_old (bJ _)];exact hh⟩,⟨j,g?_of e3,by rw[deaf_quiet (met_quiet _ _ _ _ _ _ _ _ _ j) 3 (by simp[Go.Conc.met])];exact hj⟩⟩);exact H.pass (met_mute _ _ _ _ _ _ _ _ _) (bJ _) e0 rfl e3 rfl edge (λ_ _ h=>h) (λ_ _ h=>.inl h) (λ_ h=>h.elim)
theorem give(O:c.Ok)(rh:tag≠.blk){a₂:aY}{z:ay}{cases:Array CommCase}{shape:CommShape}{es:Array cK}(hy:y≠h)(Jl:Inb y=ae s)(hkj:s.cases[kj]? =ae (dh b z))(hbg:b≠c.gone)(G:ES cases kk b v)
  (hrun:a.status=.running)(hsend:∀w₁,RH c w w₁->bn c.P (h==0) a w₁=.comm a₂ cases au shape w₁ es)(hes:∀e∈es,EvH c e)
  (hothers:∀w,c.K w->∀(m b':Nat) (z':ay),cases[m]? =ae (dh b' z')->∃k:Nat,w.heap[b']? =ae (Obj.chan 0 #[] aw k k aw))(hKc:∀(w:aj) (k:Nat),c.K w->w.heap[b]? =ae (Obj.chan 0 #[] aw k k aw)->c.K (w.setChan b 0 #[] aw (k+1) (k+1) aw))
  (A:After c h Inb jP (mq a₂ (commResult cases shape kk aO aw)) nh)(ha:gs[h]? =ae a)(F:CF c h j 0 Inb tag D fe q T gs w):
  ∃N m' T',runNT c.P N (bS gs w sl) T=(.next m',T')/\Passed c y j b kj v s jP tag w m' T':=by
 have hsb:s.has b:=⟨kj,z,hkj⟩;have hwf:=F.wf y s Jl;have hu:∀(m:Nat) (cc:CommCase),m≠kj->s.cases[m]? =ae cc->cc.chan≠.chan (ae b):=by intro m cc hm hcc ec;obtain⟨c₂,Zu,rfl⟩:=hwf.recvs cc (qf hcc);simp only[dh,Value.chan.injEq,dD]at ec;subst ec;exact hm (hwf.apart m kj _ _ _ hcc hkj)
 suffices H:∀μ gs w₁ D fe q T sl (pk:Bool),(YK j D fe,SZ j D q+if pk then 0 else 1)=μ->RH c w w₁->gs[h]? =ae (if pk then parked a₂ cases shape else a)->(pk=au->0<q y)->CF c h j 0 Inb tag D fe q T gs w₁->
   ∃N m' T',runNT c.P N (bS gs w₁ sl) T=(.next m',T')/\Passed c y j b kj v s jP tag w m' T' from H _ gs w D fe q T sl aw rfl (.refl c w) ha aJ F
 intro μ;induction μ using Gb.induction with
 |_ μ ih=>
 intro gs w₁ D fe q T sl pk hμ hr ha TZ F;have Zv:=F.inR y s Jl;obtain⟨gy,hgy⟩:∃gy,gs[y]? =ae gy:=⟨gs[y]'Zv,fP Zv⟩;have hSy:=F.seat y gy s hy hgy Jl;have hsome:∃(i:Nat) (g:aY),gs[i]? =ae g/\g.status=.running:=by
  cases pk with
  |false=>exact⟨h,a,ha,hrun⟩
  |true=>exact⟨y,gy,hgy,(Sits.status (c.sub _ F.keep) hSy).elim (·.1) (λz=>by have:=TZ rfl;omega)⟩
 obtain⟨i,g,d,sl',hi,hg,hst⟩:=crowd_pick (P:=c.P) (w:=w₁) (sl:=sl) (F.awake ha (by cases pk<;>simp[hrun,parked])) hsome;have Fd:=F.at O d;have hrd:RH c w (w₁.at d):=hr.trans (.at c w₁ d);generalize w₁.at d=w₂ at hst Fd hrd;obtain⟨⟨k,hcb⟩,hbW,hbC⟩:=Fd.chans y s b hy Jl hsb;have hdh:Deaf T h=0:=by
  cases h with
  |zero=>exact Fd.deaf0
  |succ x=>rw[Fd.deafW x (by have:=Fd.hlt;have:=Fd.size;omega)];exact(Fd.full x (by have:=Fd.hlt;have:=Fd.size;omega) (.inr rfl)).2
 have hdy:Deaf T y=0:=by
  cases y with
  |zero=>exact Fd.deaf0
  |succ x=>rw[Fd.deafW x (by have:=Fd.size;omega)];exact(Fd.full x (by have:=Fd.size;omega) (.inl (by rw[Jl];simp))).2
 have fin:∀(gs':Array aY) (u:Array MemOp) (g₂:aY) (ab5 ab6:FuncId) (ab7 ab8:String),gs'.size=gs.size->(∀x,x≠h->x≠y->gs'[x]? =gs[x]?)->gs'[h]? =ae (mq a₂ (commResult cases shape kk aO aw))->gs'[y]? =ae (mq g₂ (commResult s.cases s.shape kj v au))->s.home g₂->
   Led (λ_=>False) c.S (ShN c.Wg) (λi=>Knows (T++u) h i) (T++u)->(∀x,Deaf (T++u) x=Deaf T x)->(∀op∈u,op.act≠.mark (.release (stA c.Wg)))->(∀op∈u,op.g=h\/op.g=y)->
   Passed c y j b kj v s jP tag w (bS gs' (w₂.setChan b 0 #[] aw (k+1) (k+1) aw) sl') (T++(u++met h y ab5 ab7 ab6 ab8 b k 0)):=by
  intro gs' u g₂ ab5 ab6 ab7 ab8 hsz nQ hH hJ Jo led T6 hno hg;have tJ:∀x,Deaf (T++(u++met h y ab5 ab7 ab6 ab8 b k 0)) x=Deaf T x:=λx=>by rw[←Array.append_assoc,Deaf_quiet (met_quiet _ _ _ _ _ _ _ _ _ x),T6]
  refine⟨gs',w₂,k,sl',D,xB h jP fe,upd q h nh,g₂,rfl,hrd,hcb,hJ,Jo,Fd.pass hy Jl A hsz nQ hH (hKc w₂ k Fd.keep hcb) (λb' ⟨k',qK⟩=>?_) (heap_setChan_ne w₂ _ _ _ _ _ _ hbW) (heap_setChan_ne w₂ _ _ _ _ _ _ hbC) ?_ tJ (λop hop=>?_) (λop hop=>?_) (λi hi hs r hr=>?_)⟩
  .by_cases e:b=b'
   .exact⟨k+1,by rw[←e];exact heap_setChan_self w₂ hcb _ _ _ _ _ _⟩
   .exact⟨k',by rw[heap_setChan_ne w₂ _ _ _ _ _ _ e];exact qK⟩
  .rw[←Array.append_assoc];exact Led.met led (by rw[T6];exact hdh) (by rw[T6];exact hdy) _ _ _ _ _ _
  .rcases ib.1 hop with h1|h1
   .exact Fd.norel op h1
   .rcases ib.1 h1 with h2|h2
    .exact hno op h2
    .exact TY _ _ _ _ _ _ _ _ _ op h2 _
  .rcases ib.1 hop with h1|h1
   .exact Fd.who op h1
   .have:op.g=h\/op.g=y:=(ib.1 h1).elim (hg op) (aaX _ _ _ _ _ _ _ _ _ op);have:=Fd.hlt;omega
  .refine hr.appNot λop hop=>?_;have hne:i+1≠h/\i+1≠y:=by
    constructor
    .intro e;have:=(Fd.full i hi (.inr e)).1;omega
    .intro e;have:=(Fd.full i hi (.inl (by rw[e,Jl];simp))).1;omega
   have:op.g=h\/op.g=y:=by
    rcases ib.1 hop with h2|h2
    .exact hg op h2
    .exact aaX _ _ _ _ _ _ _ _ _ op h2
   omega
 by_cases e:i=h
 .
  subst e;cases pk with
  |true=>rw[ha]at hi;obtain rfl:=bj hi;cases hg
  |false=>
   obtain rfl:g=a:=(by rw[ha]at hi;exact(bj hi).symm);obtain⟨cH,hs,hno,tJ⟩:=A9 (c:=c) (i:=i) (fn:=g.frame.fn) (pos:=g.frame.place) hes;have hDH:Ln c Inb i w₂ w₂ es:=⟨id,λ_ _ _ _ _ _=>rfl,rfl,rfl,hes⟩;have dA:∀(x:Nat) (t:aY),x≠y->(gs.setIfInBounds i ph)[x]? =ae t->offersAt t b aw=[]:=by
    intro x t OI ht;rcases getElem?_stand gs i x t ht with⟨_,rfl⟩|⟨hx,DJ⟩
    .exact offersAt_ph _ _
    .exact Fd.ab0 hx DJ λs' hs' hb'=>OI (Fd.inj x y s' s b hx hy hs' Jl hb' hsb hbg)
   have agH:∀(x:Nat) (t:aY) (b':Nat),(gs.setIfInBounds i ph)[x]? =ae t->offersAt t b' au=[]:=by
    intro x t b' ht;rcases getElem?_stand gs i x t ht with⟨_,rfl⟩|⟨hx,DJ⟩
    .exact offersAt_ph _ _
    .exact Fd.noSend hx DJ _
   have nQ:∀(m:Nat) (c':CommCase),m≠kk->cases[m]? =ae c'->NoWays w₂ (gs.setIfInBounds i ph) c':=(by intro m c' hm hc';obtain⟨b',z',rfl,_⟩:=G.oth m c' hm hc';obtain⟨k',qK⟩:=hothers w₂ Fd.keep m b' z' hc';exact ways_recv_none qK (partners_nil λx t ht=>agH x t b' ht));obtain⟨zz,Im⟩:=G.at_;rcases hSy with⟨k',w₀,hq,hG⟩|⟨hq0,g₀,g₂,rfl,hat⟩
   .
    have hyr:gy.status=.running:=(Sits.status (c.sub _ F.keep) (.inl ⟨k',w₀,hq,hG⟩)).elim (·.1) (λz=>ai);have hp:partners (gs.setIfInBounds i ph) b aw=[]:=partners_nil λx t ht=>by
     by_cases OI:x=y
     .subst OI;rw[stand_get hy hgy]at ht;obtain rfl:=bj ht;exact tH (by rw[hyr];simp) _ _
     .exact dA x t OI ht
    have hw:∀cc∈cases,NoWays w₂ (gs.setIfInBounds i ph) cc:=by
     intro cc hcc;obtain⟨m,hm⟩:=Array.mem_iff_getElem?.1 hcc;by_cases em:m=kk
     .subst em;rw[Im]at hm;obtain rfl:=bj hm;exact ways_send_none hcb (bJ _) hp
     .exact nQ m cc em hm
    have hstep:=crowd_waits (sl:=sl') hi (hsend w₂ hrd) hw;obtain⟨N,m',T',hN,hP⟩:=ih _ (by rw[←hμ];exact Prod.Lex.right _ aJ) (gs.setIfInBounds i (parked a₂ cases shape)) w₂ D fe q _ sl' au rfl hrd (by simpa using iw Fd.hlt) (λ_=>ai)
     (Fd.aes (fn:=g.frame.fn) (pos:=g.frame.place) hDH aJ λx t hx ht=>by rwa [gG (λe=>hx e.symm)]at ht)
    exact⟨N+1,m',T',by rw[pB (hst.trans hstep)];exact hN,hP⟩
   .
    have hp:partners (gs.setIfInBounds i ph) b aw=[(y,kj)]:=(by rw[partners_one (stand_get hy hgy) λx t OI ht=>dA x t OI ht,offersAt_parked_at hkj hu];rfl);have hstep:=Qf (sl:=sl') hi (hsend w₂ hrd) Im nQ hcb hy hgy hkj hp;refine⟨1,_,_,by rw[pB (hst.trans hstep)];rfl,?_⟩;refine fin _ _ g₂ _ _ _ _ aJ (λx hx OI=>by rw[gG (λz=>hx z.symm),gG (λz=>OI z.symm)]) (by rw[iw (by simpa using Fd.hlt),finishComm_served])
     (by rw[gG (bZ hy),iw Zv,finishComm_served]) hat.2.2.2.2.1 (Fd.led.own cH hs (λ_ h=>h.elim)) (λx=>?_) hno (λop hop=>.inl (cH op hop))
    by_cases ex:x=i
    .subst ex;exact tJ T
    .exact ig T (λz=>ex z.symm) _ cH
 .by_cases ey:i=y/\pk=au/\∃g₂,AtIn c.P (i==0) c.K0 (c.S i) c.B s g g₂
  .
   obtain⟨rfl,rfl,g₂,hat⟩:=ey;obtain⟨_,_,_,_,Jo,esj,agI,Au⟩:=hat;obtain⟨cH,Zw,hmk,hd⟩:=uK (i:=i) (fn:=g.frame.fn) (pos:=g.frame.place) agI;simp only[if_true]at ha;have hp:partners (gs.setIfInBounds i ph) b au=[(h,kk)]:=by
    rw[partners_one (stand_get (bZ hy) ha) λx t Zq ht=>by
     rcases getElem?_stand gs i x t ht with⟨_,rfl⟩|⟨_,DJ⟩
     .exact offersAt_ph _ _
     .exact Fd.noSend Zq DJ _,G.on]
    rfl
   have ho:∀(m:Nat) (c':CommCase),m≠kj->s.cases[m]? =ae c'->NoWays w₂ (gs.setIfInBounds i ph) c':=by
    intro m c' hm hc';obtain⟨c₂,Zu,rfl⟩:=hwf.recvs c' (qf hc');have hne:c₂≠b:=λec=>hu m _ hm hc' (by rw[ec];rfl);obtain⟨⟨k₂,aeu⟩,_⟩:=Fd.chans i s c₂ hy Jl ⟨m,Zu,hc'⟩;refine ways_recv_none aeu (partners_nil λx t ht=>?_);rcases getElem?_stand gs i x t ht with⟨_,rfl⟩|⟨_,DJ⟩
    .exact offersAt_ph _ _
    .by_cases Zq:x=h
     .subst Zq;rw[ha]at DJ;obtain rfl:=bj DJ;exact G.off _ _ hne
     .exact Fd.noSend Zq DJ _
   obtain⟨zz,Im⟩:=G.at_;have hstep:=Qg (sl:=sl') hi (Au _ (c.sub _ Fd.keep)) hkj ho hcb (bZ hy) ha Im hp;refine⟨1,_,_,by rw[pB (hst.trans hstep)];rfl,?_⟩;refine fin _ _ g₂ _ _ _ _ aJ (λx hx OI=>by rw[gG (λz=>OI z.symm),gG (λz=>hx z.symm)])
    (by rw[gG hy,iw Fd.hlt,finishComm_served]) (by rw[iw (by simpa using Zv),finishComm_served]) Jo
    (Fd.led.beside (λx=>Knows.app _) cH (λop hop b hb=>.inl ⟨(Zw op hop b hb).1,(Zw op hop b hb).2.1,(O.still i _ (Zw op hop b hb).2.1).2,(Zw op hop b hb).2.2⟩) (λ_ h=>h.elim)) (λx=>?_) (λop hop=>hmk op hop _) (λop hop=>.inr (cH op hop))
   by_cases ex:x=i
   .subst ex;exact hd T
   .exact ig T (λz=>ex z.symm) _ cH
  .
   have im:∀g' w',RH c w₂ w'->woken c.P g g' w' (if pk then parked a₂ cases shape else a)=(if pk then parked a₂ cases shape else a):=by
    intro g' w' Qi;refine mi ?_;cases pk with
    |false=>exact nB _ (.inl hrun)
    |true=>
     refine Md λcc hcc=>?_;obtain⟨m,hm⟩:=Array.mem_iff_getElem?.1 hcc;by_cases em:m=kk
     .subst em;obtain⟨zz,Im⟩:=G.at_;rw[Im]at hm;obtain rfl:=bj hm;exact⟨b,0,#[],k,k,aw,rfl,by rw[Qi.block b hbW];exact hcb⟩
     .obtain⟨b',z',rfl,_⟩:=G.oth m cc em hm;obtain⟨k',qK⟩:=hothers w' (O.keep _ _ Qi.g Fd.keep) m b' z' hm;exact⟨b',0,#[],k',k',aw,rfl,qK⟩
   obtain⟨gs',w',ops,cJ,a',D',mQ,q',hrt,ha',⟨rfl,rfl⟩,Qi,F',hlt,hqo,hq0⟩:=Fd.by_step O (Hs:=λtg x _=>tg=tag/\x=(if pk then parked a₂ cases shape else a)) (sl:=sl') hi e hg ha ⟨rfl,rfl⟩
    (λg' w' Qi=>⟨tag,.inl rfl,λ_ _=>rh,rfl,im g' w' Qi⟩) (λs' g₂ hs' hat b' hb'=>by
     cases pk with
     |false=>exact tH (by simp[hrun]) _ _
     |true=>refine G.off _ _ λeb=>?_;subst eb;have hiy:i=y:=Fd.inj i y s' s b' e hy hs' Jl hb' hsb hbg;subst hiy;rw[Jl]at hs';obtain rfl:=bj hs';exact ey ⟨rfl,rfl,g₂,hat⟩)
   have Ar:Lt2 (YK j D' mQ,SZ j D' q'+if pk then 0 else 1) μ:=by
    rw[←hμ];rcases Prod.lex_def.1 hlt with h1|⟨h1,h2⟩
    .exact Prod.lex_def.2 (.inl h1)
    .exact Prod.lex_def.2 (.inr ⟨h1,by simp only at h2⊢;omega⟩)
   obtain⟨N,m',T',hN,hP⟩:=ih _ Ar gs' w' D' mQ q' (T++ops) sl' pk rfl (hrd.trans Qi) ha' (λhp=>by
    by_cases hiy:i=y
    .subst hiy;rcases mr (q' i)with h0|h0
     .obtain⟨g₂,hat⟩:=hq0 s Jl h0;exact aT ⟨rfl,hp,g₂,hat⟩ ey
     .exact h0
    .rw[hqo y (bZ hiy)];exact TZ hp) F'
   exact⟨N+1,m',T',by rw[pB (hst.trans hrt)];exact hN,hP⟩
end
end
section
open Go.Conc Go.ConcN
open Go.ConcR (KK WgAt stA smA Payload Aside2 DC0)
variable[fQ]
section
variable{P:bh}{K:aj->Prop}{S S':Loc->Prop}{B:Nat}
omit[Payload]in
theorem ql(hS:∀l,S l->S' l)(hB:B<=B')(h:EvC S B e):EvC S' B' e:=by obtain⟨a,rfl,h1,h2⟩:=h;exact⟨a,rfl,hS _ h1,ai⟩
omit[Payload]in
theorem goes_mono{main:Bool}{D:aj->aj->Array cK->Prop}{Stop:aY->aj->Prop}(hR:∀a b,R' a b->R a b)(hD:∀a b es,D a b es->D' a b es):
  ∀{n:Nat} {g:aY} {w:aj},(∀g w₀ w,R' w₀ w->Stop g w->Jp g w)->Goes P main R D Stop n g w->Goes P main R' D' Jp n g w:=by
 intro n;induction n with
 |zero=>exact λhS h w₁ hr=>hS _ _ _ hr (h w₁ (hR _ _ hr))
 |succ n ih=>
  intro g w hS h;rcases h with h|⟨hs,h⟩
  .exact .inl λw₁ hr=>hS _ _ _ hr (h w₁ (hR _ _ hr))
  .refine .inr ⟨hs,λw₁ hr=>?_⟩;have:=h w₁ (hR _ _ hr);cases e:bn P main g w₁ with
   |go g' w' es=>rw[e,cG]at this;rw[cG];exact⟨hD _ _ _ this.1,ih hS this.2⟩
   |_=>rw[e]at this;exact this.elim
omit[Payload]in
theorem ET{main:Bool}{g g₂:aY}(hK:∀w,K' w->K w)(hS:∀l,S l->S' l)(hB:B<=B')(h:AtIn P main K S B s g g₂):AtIn P main K' S' B' s g g₂:=by obtain⟨h1,h2,h3,h4,h5,es,h6,h7⟩:=h;exact⟨h1,h2,h3,h4,h5,es,λe he=>ql hS hB (h6 e he),λw hw=>h7 w (hK w hw)⟩
omit[Payload]in
theorem sits_mono{main:Bool}{n:Nat}{g:aY}(hK:∀w,K' w->K w)(hS:∀l,S l->S' l)(hB:B<=B')(h:Sits P main K S B s n g):Sits P main K' S' B' s n g:=by
 rcases h with⟨k,w,hn,hg⟩|⟨hn,g₀,g₂,hg,ha⟩
 .exact .inl ⟨k,w,hn,goes_mono (λ_ _ h=>hK _ h) (λ_ _ _ h=>⟨h.1,λe he=>ql hS hB (h.2 e he)⟩) (λ_ _ _ _ ⟨g₂,h⟩=>⟨g₂,ET hK hS hB h⟩) hg⟩
 .exact .inr ⟨hn,g₀,g₂,hg,ET hK hS hB ha⟩
end
section
variable{j:Nat}{tag:CTag}{fe:Nat->Bool}{w:aj}
theorem await(O:c.Ok)(rh:tag≠.blk)(hrun:a.status=.running)(ha:gs[h]? =ae a)(F:CF c h j d0 Inb tag D fe q T gs w):
  ∃N gs₁ w₁ sl₁ DK w₂ oN D' mQ q',runNT c.P N (bS gs w sl) T=(.next (bS gs₁ w₁ sl₁),DK)/\stepT c.P (bS gs₁ w₁ sl₁)=runT c.P (bS gs₁ w₂ oN) h/\gs₁[h]? =ae a/\RH c w w₂/\CF c h j d0 Inb tag D' mQ q' DK gs₁ w₂:=by
 suffices H:∀μ gs w₁ D fe q T sl,(YK j D fe,SZ j D q)=μ->RH c w w₁->gs[h]? =ae a->CF c h j d0 Inb tag D fe q T gs w₁->
   ∃N gs₁ w₁' sl₁ DK w₂ oN D' mQ q',runNT c.P N (bS gs w₁ sl) T=(.next (bS gs₁ w₁' sl₁),DK)/\stepT c.P (bS gs₁ w₁' sl₁)=runT c.P (bS gs₁ w₂ oN) h/\gs₁[h]? =ae a/\RH c w w₂/\CF c h j d0 Inb tag D' mQ q' DK gs₁ w₂ from
  H _ gs w D fe q T sl rfl (.refl c w) ha F
 intro μ;induction μ using Gb.induction with
 |_ μ ih=>
  intro gs w₁ D fe q T sl hμ hr ha F;obtain⟨i,g,d,sl',hi,hg,hst⟩:=crowd_pick (P:=c.P) (w:=w₁) (sl:=sl) (F.awake ha (.inl hrun)) ⟨h,a,ha,hrun⟩;have Fd:=F.at O d;have hrd:RH c w (w₁.at d):=hr.trans (.at c w₁ d);by_cases e:i=h
  .subst e;exact⟨0,gs,w₁,sl,T,_,sl',D,fe,q,rfl,hst,ha,hrd,Fd⟩
  .obtain⟨gs',w',ops,cJ,a',D',mQ,q',hrt,ha',⟨rfl,rfl⟩,Qi,F',hlt,_,_⟩:=Fd.by_step O (Hs:=λtg x _=>tg=tag/\x=a) (sl:=sl') hi e hg ha ⟨rfl,rfl⟩
    (λg' w' _=>⟨tag,.inl rfl,λ_ _=>rh,rfl,mi (nB _ (.inl hrun))⟩) (λ_ _ _ _ b _=>tH (by rw[hrun];simp) _ _)
   obtain⟨N,gs₁,w₁',sl₁,DK,w₂,oN,ab9,aca,acb,hN,r⟩:=ih _ (hμ▸hlt) gs' w' D' mQ q' (T++ops) sl' rfl (hrd.trans Qi) ha' F';exact⟨N+1,gs₁,w₁',sl₁,DK,w₂,oN,ab9,aca,acb,by rw[pB (hst.trans hrt)];exact hN,r⟩
def CC.more(c:CC)(K' YL:aj->Prop)(hs:∀w,K' w->YL w)(S':Nat->Loc->Prop)(B':Nat):CC:={c with K:=K',K0:=YL,sub:=hs,S:=S',B:=B'}
omit[Payload]in
theorem Me{r:Nat}{st:Int}(h:ConcN.Mode j D (.sp r 3) st sm):ConcN.Mode (j+1) (upd D j ⟨7,0,0⟩) .kd st sm:=by
 cases h with
 |opn h1 h2 h3=>
  have hv:Vc (j+1) (upd D j ⟨7,0,0⟩)=Vc j D+1:=by simp only[Vc,cZ,gR];have:(cZ j λi=>cnt (upd D j ⟨7,0,0⟩ i))=cZ j λi=>cnt (D i):=sumTo_congr λi hi=>(by rw[upd_ne D _ ai]);rw[this];rfl
  have e:Vc j D+ConcN.pend (.sp r 3)=Vc (j+1) (upd D j ⟨7,0,0⟩) +ConcN.pend .kd:=by rw[hv];rfl
  rw[e];refine .opn trivial (λi hi=>?_) (λvs h=>dB);by_cases ei:i=j
  .subst ei;rw[gR];exact .inl rfl
  .rw[upd_ne D _ ei];exact h2 i ai
 |reg h1 _ _=>exact h1.elim
 |last L h1 _ _ _=>exact h1.elim
 |fin h1 _=>exact h1.elim
theorem spawn{hs0:∀w,K' w->YL w}{S':Nat->Loc->Prop}(hc':c'=c.more K' YL hs0 S' B')(O:c.Ok)(O':c'.Ok)(hB:c.B<=B')
  (hS1:∀g l,c.S g l->S' g l)(YI:∀g l,S' g l->c.S g l\/g=0\/g=j+1)(hKK:∀w,YL w->c.K0 w)
  {r n0:Nat}{child:aY}{es:Array cK}(hrun:a.status=.running)(hsp:∀w₁,RH c w w₁->bn c.P au a w₁=.spawn a' child w₁ es)(hes:∀e∈es,EvH c e)(hK':∀w₁,RH c w w₁->c.K w₁->K' w₁)
  (hsit:c'.TN 0 s0 n0 a')(hwf:s0.Wf)(hch:∀b w,K' w->s0.has b->(∃k:Nat,w.heap[b]? =ae (Obj.chan 0 #[] aw k k aw))/\b≠c.Wg/\b≠c.C)(hap:∀i s b,i≠0->Inb i=ae s->s.has b->s0.has b->b=c.gone)
  (ha:gs[0]? =ae a)(F:CF c 0 j 0 Inb (.sp r 3) D fe q T gs w):
  ∃N gs' w₁ sl' T' D' u' q',runNT c.P N (bS gs w sl) T=(.next (bS gs' w₁ sl'),T')/\RH c w w₁/\gs'[j+1]? =ae child/\CF c' (j+1) (j+1) 0 (λx=>if x=0 then ae s0 else Inb x) .kd D' u' q' T' gs' w₁:=by
 subst hc';obtain⟨N,gs,w₀,sl₁,T,w₁,oN,D,fe,q,hN,hst,ha,hr,F⟩:=await O aJ hrun (sl:=sl) ha F;have hstep:=runT_crowd_spawn (P:=c.P) (sl:=oN) ha (by simpa using hsp w₁ hr);have hsz:gs.size=j+1:=F.size;rw[hsz]at hstep;generalize hu0:eM 0 a.frame.fn a.frame.place es=u0 at hstep;generalize hx1:({g:=0,fn:=a.frame.fn,pos:=a.frame.place,act:=.go (j+1)}:MemOp)=x1 at hstep;generalize hx2:({g:=j+1,fn:=child.frame.fn,pos:=a.frame.place,act:=.start}:MemOp)=x2 at hstep;have eT:T++((u0.push x1).push x2)=(T++u0) ++ #[x1,x2]:=by rw[Array.push_eq_append,Array.push_eq_append,Array.append_assoc (xs:=u0),←Array.append_assoc (xs:=T)];rfl
 obtain⟨cH,hs,hno,tJ⟩:=A9 (c:=c) (i:=0) (fn:=a.frame.fn) (pos:=a.frame.place) hes;rw[hu0]at cH hs hno tJ;have T6:∀x,Deaf (T++u0) x=Deaf T x:=λx=>by
  by_cases ex:x=0
  .subst ex;exact tJ T
  .exact ig T (λz=>ex z.symm) _ cH
 have Qk:∀g,∀op∈(#[x1,x2]:Trace),∀d,deafStep g d op=d:=by intro g op hop d;subst hx1 hx2;simp only[List.mem_toArray,fU,rP,or_false]at hop;rcases hop with rfl|rfl<;>rfl
 have hn2:∀op∈(#[x1,x2]:Trace),op.act.touch? =ah:=by intro op hop;subst hx1 hx2;simp only[List.mem_toArray,fU,rP,or_false]at hop;rcases hop with rfl|rfl<;>rfl
 have hg2:∀op∈(#[x1,x2]:Trace),op.g=0\/op.g=j+1:=by intro op hop;subst hx1 hx2;simp only[List.mem_toArray,fU,rP,or_false]at hop;rcases hop with rfl|rfl<;>simp
 have zL:∀op∈(#[x1,x2]:Trace),∀m,op.act≠.mark m:=by intro op hop;subst hx1 hx2;simp only[List.mem_toArray,fU,rP,or_false]at hop;rcases hop with rfl|rfl<;>simp
 have acd:∀x,Deaf (T++((u0.push x1).push x2)) x=Deaf T x:=λx=>by rw[eT,Deaf_quiet (Qk x),T6]
 have e0:((T++u0) ++ #[x1,x2])[(T++u0).size]? =ae x1:=by rw[←Nat.add_zero (T++u0).size,at_new];rfl
 have e1:((T++u0) ++ #[x1,x2])[(T++u0).size+1]? =ae x2:=by rw[at_new];rfl
 have a1:x1.act=.go (j+1):=by subst hx1;rfl
 have a2:x2.act=.start:=by subst hx2;rfl
 have g1:x1.g=0:=by subst hx1;rfl
 have g2:x2.g=j+1:=by subst hx2;rfl
 have hdj:Deaf (T++u0) (j+1)=0:=by rw[T6];exact F.above (j+1) ai
 have edge:HappensBefore ((T++u0) ++ #[x1,x2]) (T++u0).size ((T++u0).size+1):=Relation.TransGen.single (.inr ⟨.spawn (by rw[act?_of e0,a1]) (by rw[act?_of e1,a2]) (by rw[g?_of e1,g2]),⟨0,by rw[g?_of e0,g1],by rw[deaf_old (bJ _)];exact(T6 0).trans F.deaf0⟩,⟨j+1,by rw[g?_of e1,g2],by rw[deaf_quiet (Qk (j+1)) 1 aJ];exact hdj⟩⟩);have hled:=(F.led.own (Dy:=λ_=>False) cH hs (λ_ h=>h.elim)).pass (Dy:=λ_=>False) (S':=S') hn2 (bJ _) e0 g1 e1 g2 edge hS1 (λg l hl=>(YI g l hl).imp id λh=>⟨(O'.still g l hl).1,(O'.still g l hl).2,h⟩) (λ_ h=>h.elim);rw[←eT]at hled;have hKw:K' w₁:=hK' w₁ hr F.keep;have ml:∀x t,x≠0->x≠j+1->((gs.setIfInBounds 0 a').push child)[x]? =ae t->gs[x]? =ae t:=λx t h0 h1 ht=>by rw[dz]at ht;rw[aU dp,gG (λe=>h0 e.symm)]at ht;exact ht
 have hI:∀i s,i≠0->(if i=0 then ae s0 else Inb i)=ae s->Inb i=ae s:=λi s h0 e=>by rwa [aU h0]at e
 obtain⟨st,sm,hw,hm⟩:=F.group;refine⟨N+1,(gs.setIfInBounds 0 a').push child,w₁,oN,T++((u0.push x1).push x2),upd D j ⟨7,0,0⟩,upd fe j aw,upd q 0 n0,by rw[runNT_add,hN];simp only[runNT,hst,hstep],hr,by rw[dz];simp[hsz],?_⟩;refine⟨by simp[hsz],by simp[hsz],λi g s h1 h2 h3=>?_,λ_=>aJ,λi g h1 h2 h3=>?_,λi hi h1=>?_,λi s h1=>?_,λi s h1=>?_,λi s b h1 h2 h3=>?_,λi i' s s' b h1 h2 h3 h4 h5 h6 h7=>?_,hKw,⟨st,sm,hw,Me hm⟩,?_,hled,by rw[acd];exact F.deaf0,λi hi=>?_,λi hi=>?_,λop hop=>?_,λi hi hst=>?_,λop hop=>?_⟩
 .by_cases e:i=0
  .subst e;simp only[if_true,dD]at h3;subst h3;have:g=a':=(by rw[dz,aU (by simp[hsz]),iw ai]at h2;exact(bj h2).symm);subst this;rw[gR];exact hsit
  .rw[upd_ne q n0 e];exact sits_mono hKK (hS1 i) hB (F.seat i g s e (ml i g e h1 h2) (hI i s e h3))
 .have sD:i<j:=by have:=(bF.1 h2).1;simp[hsz]at this;omega
  have BF:=ml (i+1) g ai h1 h2;rw[aU ai]at h3;rw[upd_ne q n0 ai,upd_ne D _ ai];have eu:upd fe j aw i=fe i:=by simp[upd,show i≠j by omega]
  rw[eu];refine(F.work i g ai BF h3).imp (λ⟨u1,u2,u3,u4⟩=>⟨u1,u2,u3,?_⟩) (λ⟨u1,u2⟩=>⟨u1,u2⟩);exact goes_mono (λ_ _ h=>hKK _ h) (λ_ _ _ h=>⟨h.1,λe he=>ql (hS1 (i+1)) hB (h.2 e he)⟩) (λ_ _ _ _ ⟨h1,m,h2⟩=>⟨h1,m,h2⟩) u4
 .by_cases e:i=j
  .subst e;rw[gR];exact⟨rfl,rfl⟩
  .rw[upd_ne D _ e];refine F.full i ai (.inl ?_);rcases h1 with h1|h1
   .rwa [aU ai]at h1
   .omega
 .by_cases e:i=0
  .subst e;simp
  .have:=F.inR i s (hI i s e h1);simp;omega
 .by_cases e:i=0
  .subst e;simp only[if_true,dD]at h1;subst h1;exact hwf
  .exact F.wf i s (hI i s e h1)
 .by_cases e:i=0
  .subst e;simp only[if_true,dD]at h2;subst h2;exact hch b w₁ hKw h3
  .exact F.chans i s b e (hI i s e h2) h3
 .by_cases e:i=0
  .by_cases e':i'=0
   .rw[e,e']
   .subst e;simp only[if_true,dD]at h3;subst h3;exact aT (hap i' s' b e' (hI i' s' e' h4) h6 h5) h7
  .by_cases e':i'=0
   .subst e';simp only[if_true,dD]at h4;subst h4;exact aT (hap i s b e (hI i s e h3) h5 h6) h7
   .exact F.inj i i' s s' b e e' (hI i s e h3) (hI i' s' e' h4) h5 h6 h7
 .have:=F.pend;simp only[ConcN.pend]at this⊢;simp at this;omega
 .rw[acd];by_cases e:i=j
  .subst e;rw[gR];exact F.above _ ai
  .rw[upd_ne D _ e];exact F.deafW i ai
 .simp at hi;rw[acd];exact F.above i ai
 .rw[eT]at hop;rcases ib.1 hop with h1|h1
  .rcases ib.1 h1 with h2|h2
   .exact F.norel op h2
   .exact hno op h2
  .exact zL op h1 _
 .by_cases e:i=j
  .subst e;rw[gR]at hst;simp at hst
  .rw[upd_ne D _ e]at hst;obtain⟨r,hr⟩:=F.rel i ai hst;refine⟨r,?_⟩;rw[eT];refine(hr.appOther cH ai).appNot λop hop=>?_;have:=hg2 op hop;omega
 .rw[eT]at hop;simp only[fN,zP,hsz];rcases ib.1 hop with h1|h1
  .rcases ib.1 h1 with h2|h2
   .have:=F.who op h2;omega
   .rw[cH op h2];omega
  .have:=hg2 op h1;omega
end
end
section
open Go.Conc Go.ConcN
open Go.ConcR (KK WgAt stA smA rd wr mk Payload Aside2 DC0)
variable[fQ]
def CC.Rd(c:CC):Nat->Loc->Prop:=λ_ l=>∃g,c.S g l
section
variable{j:Nat}{tag:CTag}{fe:Nat->Bool}{w:aj}
omit[Payload]in
theorem RH.rc{w:aj}(h:RH c w w₁):RC c.ty c.Wg c.C w w₁:=⟨⟨h.tape,h.os,h.output,h.size,λb _ h2=>h.block b h2⟩,h.live⟩
structure Zx(c:CC)(Inb:Nat->Option Seat)(Low:Nat):Prop where
 keep:∀w w',(∀b,b<Low->w'.heap[b]? =w.heap[b]?)->c.K w->c.K w'
 chans:∀i s b,i≠0->Inb i=ae s->s.has b->b<Low
 wg:c.Wg<Low
 dum:c.C<Low
theorem T7{j:Nat}(O:c.Ok)(hS0:j=0->∀g l,¬c.S g l)(h:Ev0 c.Wg Dz c.Rd j e):EvH c e:=by
 refine⟨λx hx=>⟨λg hg=>?_,λhs=>?_⟩,h.2.1,h.2.2.1,h.2.2.2⟩
 .rcases((h.1 0 "").2 x hx)with⟨h1,_⟩|⟨_,_,h3⟩
  .exact aT h1 (O.still g _ hg).2
  .cases hw:x.write with
   |false=>rfl
   |true=>
    rcases mr j with h0|h0
    .exact aT hg (hS0 h0 g _)
    .exact aT ⟨g,hg⟩ (h3 hw 1 (bJ _) h0)
 .rcases((h.1 0 "").2 x hx)with⟨_,h2⟩|⟨h2,_⟩
  .exact h2
  .exact aT hs h2
theorem dhc_of_dp{Low:Nat}(O:c.Ok)(L:Zx c Inb Low)(hS0:j=0->∀g l,¬c.S g l){w:aj}{es:Array cK}(h:DP c.Wg Dz c.Rd j Low w w' es):Ln c Inb 0 w w' es:=⟨L.keep _ _ h.1,λi s b h1 h2 h3=>h.1 b (L.chans i s b h1 h2 h3),h.1 _ L.wg,h.1 _ L.dum,λe he=>T7 O hS0 (h.2 e he)⟩
omit[Payload]in
theorem tM{P:bh}{N:Nat}{m m':Machine}{t:Trace}{ops:Array MemOp}(h:runNT P N m t=(.next m1,t1))(h':stepT P m1=(.next m',ops)):runNT P (N+1) m t=(.next m',t1++ops):=by rw[runNT_add,h];simp only[runNT,h']
omit[Payload]in
theorem dH{P:bh}{N K:Nat}{m:Machine}{r:Stepped×Trace}{t:Trace}(h:runNT P N m t=(.next m1,t1))(h':runNT P K m1 t1=r):runNT P (N+K) m t=r:=by rw[runNT_add,h];exact h'
theorem yI(O:c.Ok)(rh:tag≠.blk){Stop:aY->aj->Prop}(hD:∀w w' es,B7 w w' es->Ln c Inb h w w' es)(hSr:∀g w,Stop g w->g.status=.running)(hW:Walk c (h==0) B7 Stop a w)
   (ha:gs[h]? =ae a) (F:CF c h j d0 Inb tag D fe q T gs w):
  ∃N gs₁ w₁ sl₁ DK w₂ oN D' mQ q' a',runNT c.P N (bS gs w sl) T=(.next (bS gs₁ w₁ sl₁),DK)/\stepT c.P (bS gs₁ w₁ sl₁)=runT c.P (bS gs₁ w₂ oN) h/\gs₁[h]? =ae a'/\(∀w₃,RH c w₂ w₃->Stop a' w₃)/\CF c h j d0 Inb tag D' mQ q' DK gs₁ w₂:=by
 obtain⟨N,m',T',hN,gs₁,w₁,sl₁,a',D',u',q',rfl,ha',hS,F'⟩:=hold O rh hD hW (sl:=sl) ha F;obtain⟨N',aev,w₂,oN,agJ,w₃,aew,ab9,aca,acb,hN',hst,aex,hr,agK⟩:=await O rh (hSr _ _ (hS _ (.refl c w₁))) (sl:=sl₁) ha' F';exact⟨N+N',aev,w₂,oN,agJ,w₃,aew,ab9,aca,acb,a',by rw[runNT_add,hN];exact hN',hst,aex,λw₄ h₄=>hS _ (hr.trans h₄),agK⟩
theorem step0(O:c.Ok)(F:CF c 0 j d0 Inb tag D fe q T gs w){g:aY}{es:Array cK}(hi:gs[0]? =ae g)(hgo:bn c.P au g w=.go g' w' es)(YM:RH c w w')(hdum:w'.heap[c.C]? =w.heap[c.C]?)
  (hgroup:∃st sm,WgAt c.ty c.Wg w' st sm/\ConcN.Mode j D cJ st sm)(hpend:j+ConcN.pend cJ<2147483648)(hes:∀e∈es,Jg c e):
  ∃gs' ops,runT c.P (bS gs w sl) 0=(.next (bS gs' w' sl),ops)/\gs'[0]? =ae g'/\CF c 0 j (deafBehind d0 es) Inb cJ D fe q (T++ops) gs' w':=by
 refine⟨_,_,mj (sl:=sl) (i:=0) hi hgo,iw (by simpa using F.hlt),F.Gc (O.keep _ _ YM.g) (λi s b h1 h2 h3=>?_) hdum hgroup hpend hes aJ λx y hx hy=>?_⟩
 .obtain⟨_,h4,h5⟩:=F.chans i s b h1 h2 h3;exact YM.block b h4
 .rw[gG (λe=>hx e.symm),oH]at hy;obtain⟨agE,Jf,rfl⟩:=mb.1 hy;rw[Jf,mi (F.TP O hx Jf YM)]
omit[Payload]in
theorem T8{r:Nat}{st:Int}(h:ConcN.Mode j D .kd st sm):∃v:Nat,st=(v:Int) *KK/\sm=0/\v<=j/\ConcN.Mode j D (.sp r 3) (((v:Nat) +1:Int) *KK) 0:=by
 cases h with
 |opn h1 h2 h3=>refine⟨Vc j D,by simp[ConcN.pend],rfl,Vc_le j D,?_⟩;have:=ConcN.Mode.opn (j:=j) (D:=D) (tag:=.sp r 3) trivial h2 (λvs h=>dB);simpa[ConcN.pend]using this
 |reg h1 _ _=>exact h1.elim
 |last L h1 _ _ _=>exact h1.elim
 |fin h1 _=>exact h1.elim
end
end
section
open Go Go.Conc Go.ConcN
open Go.ConcR (KK WgAt stA smA Payload Aside2 DC0)
variable[fQ]
structure tN(c:CC)(h b:Nat)(v:ay)(a:aY)(w:aj)(H':aY):Prop where
 run:a.status=.running
 ex:∃(a₂:aY) (kk:Nat) (cases:Array CommCase) (shape:CommShape),(∀w₁,RH c w w₁->bn c.P (h==0) a w₁=.comm a₂ cases au shape w₁ #[])/\ES cases kk b v/\
  (∀w,c.K w->∀(m b':Nat) (z':ay),cases[m]? =ae (dh b' z')->∃k:Nat,w.heap[b']? =ae (Obj.chan 0 #[] aw k k aw))/\H'=mq a₂ (commResult cases shape kk aO aw)
section
variable{j y:Nat}{tag:CTag}{fe:Nat->Bool}{w:aj}
def aaY(c:CC)(b:Nat):Prop:=b≠c.gone/\∀(w:aj) (k:Nat),c.K w->w.heap[b]? =ae (Obj.chan 0 #[] aw k k aw)->c.K (w.setChan b 0 #[] aw (k+1) (k+1) aw)
theorem OJ(O:c.Ok)(rh:tag≠.blk){z:ay}(hy:y≠h)(Jl:Inb y=ae s)(hkj:s.cases[kj]? =ae (dh b z))(hK:aaY c b)(G:tN c h b v a w H')
  (A:After c h Inb jP H' nh)(ha:gs[h]? =ae a)(F:CF c h j 0 Inb tag D fe q T gs w):∃N m' T',runNT c.P N (bS gs w sl) T=(.next m',T')/\Passed c y j b kj v s jP tag w m' T':=by
 obtain⟨h1,a₂,kk,cases,shape,h2,h4,h5,rfl⟩:=G;exact give O rh hy Jl hkj hK.1 h4 h1 h2 (λe he=>by simp at he) h5 hK.2 A ha F
end
theorem Jq{a r:aj}(h:Sees N F a r)(hok:∀(b:Nat) o,N b->r.heap[b]? =ae o->gI o=au):Rel (Hid N r) a r:=by
 have h0:=B8 (N:=N) (F:=F) (r:=r) hok;refine⟨h.size,λb hb=>?_,λb hb=>?_,λb hb o ho=>?_,h.os,h.output⟩
 .rw[h.get];exact h0.same b hb
 .rw[h.get];exact h0.hid b hb
 .rw[h.get]at ho;exact h0.objs b hb o ho
structure bp where
 P:bh
 S:bN
 j:Nat
 base:Nat
 come:Nat
 gone:Nat
 Wg:Nat
 C:Nat
 B:Nat
 ty:bq
 turn:Nat->Nat
 W:Nat->Nat
 facts:Nat->List (aP×ay)
 csC:Array ay
 eC:bq
 cs0:List aB
 cw:Nat->List aB
 ro:Nat->Option (Nat×Nat)
 fw:Nat->Nat->Option (Nat×Nat)
 fm:Nat->Option (Nat×Nat)
def iC(w:aj)(b:Nat):Prop:=∃k:Nat,w.heap[b]? =ae (Obj.chan 0 #[] aw k k aw)
def bp.K0(d:bp)(w:aj):Prop:=dG d.ty d.Wg w/\(∀i,i<d.j->∀x∈d.facts i,w.cell? x.1=ae x.2)/\w.heap[d.C]? =ae (aK d.csC d.eC (0,0))
structure dc where
 w0:aj
def Kx[Inhabited dc](w:aj):Prop:=∀(b:Nat) o,(default:dc).w0.heap[b]? =ae o->gI o=aw->w.heap[b]? =ae o
variable[Inhabited dc]
theorem Kx.same{w:aj}(h:Kx w)(hb:∀(b:Nat) o,w.heap[b]? =ae o->gI o=aw->w'.heap[b]? =ae o):Kx w':=λb o h1 h2=>hb b o (h b o h1 h2) h2
def Gd(w:aj):Prop:=w.os=(default:dc).w0.os/\w.output=(default:dc).w0.output
theorem Gd.same{w:aj}(h:Gd w)(ho:w'.os=w.os/\w'.output=w.output):Gd w':=⟨ho.1.trans h.1,ho.2.trans h.2⟩
def bp.K(d:bp)(w:aj):Prop:=d.K0 w/\iC w d.come/\iC w d.gone/\(∀i,i<d.j->iC w (d.turn i))/\Kx w
def bp.Sp(d:bp):Nat->Loc->Prop:=λg l=>∃i,g=i+1/\i<d.j/\∃x∈d.facts i,l=.cell x.1
def bp.cc(d:bp):CC:={P:=d.P,K:=d.K,K0:=d.K0,sub:=λ_ h=>h.1,S:=d.Sp,gone:=d.gone,ty:=d.ty,Wg:=d.Wg,n:=d.csC.size+1,B:=d.B,C:=d.C,val:=λ_=>aO}
structure bp.Ok(d:bp):Prop where
 cw:d.C≠d.Wg
 cg:d.come≠d.gone
 ct:∀i,i<d.j->d.come≠d.turn i
 gt:∀i,i<d.j->d.gone≠d.turn i
 tt:∀i i',i<d.j->i'<d.j->d.turn i=d.turn i'->i=i'
 wc:d.Wg≠d.come
 wg:d.Wg≠d.gone
 wt:∀i,i<d.j->d.Wg≠d.turn i
 wf:∀i,i<d.j->∀x∈d.facts i,x.1.block≠d.Wg
 roC:d.ro d.C=ae (0,d.csC.size)
theorem xC{w:aj}{cap:Nat}{buf:Array ay}{cl:Bool}{s r:Nat}(h:w.heap[x.block]? =ae (.chan cap buf cl s r tm)):w.cell? x=ah:=by simp[fG,h]
theorem nS{d:bp}(O:d.Ok):d.cc.Ok:=by
 refine⟨λw w₁ hr hk=>?_,λw hk=>aL hk.1.2.2,O.cw,λw hk hp=>?_,λg l hl=>?_⟩
 .obtain⟨⟨h1,h2,h3⟩,h4,h5,h6,hx⟩:=hk;have pw:Kx w₁:=hx.same λb o hb ho=>by rw[hr.block b (aL hb) (λe=>by obtain⟨st,sm,hw⟩:=h1;rw[e]at hb;have hw:w.heap[d.Wg]? =_:=hw;have hb:w.heap[d.Wg]? =ae o:=hb;rw[hw]at hb;obtain rfl:=bj hb;cases ho)];exact hb
  have op:∀b,d.Wg≠b->iC w b->iC w₁ b:=λb hb ⟨k,hk⟩=>⟨k,by rw[hr.block b (aL hk) (bZ hb)];exact hk⟩;refine⟨⟨hr.live h1,λi hi x hx=>?_,by rw[hr.block d.C (aL h3) O.cw];exact h3⟩,op _ O.wc h4,op _ O.wg h5,λi hi=>op _ (O.wt i hi) (h6 i hi),pw⟩;have h:=h2 i hi x hx;have e:w₁.heap[x.1.block]? =w.heap[x.1.block]? :=hr.block _ (kA h) (O.wf i hi x hx);rw[←h];simp only[fG,e]
 .obtain⟨cs,h1,h2⟩:=hp;have h3:w.heap[d.C]? =ae (aK d.csC d.eC (0,0)):=hk.1.2.2;rw[show d.cc.C=d.C from rfl,h3]at h1;simp only[dD,vw]at h1;rw[←h1.1]at h2;have:d.csC.size=d.csC.size+1:=h2;omega
 .obtain⟨i,_,hi,x,hx,rfl⟩:=hl;exact⟨rfl,λ⟨a,h1,h2⟩=>by simp only[Loc.cell.injEq]at h1;subst h1;exact O.wf i hi x hx h2⟩
theorem jQ{w:aj}(h:w.heap[b]? =ae (Obj.chan 0 #[] aw k k aw))(x:Nat):(w.setChan b 0 #[] aw (k+1) (k+1) aw).heap[x]? =if x=b then ae (Obj.chan 0 #[] aw (k+1) (k+1) aw)else w.heap[x]? :=by
 by_cases e:x=b
 .subst e;rw[aX rfl];exact heap_setChan_self w h _ _ _ _ _ _
 .rw[aU e];exact heap_setChan_ne w _ _ _ _ _ _ (bZ e)
theorem EU{d:bp}(O:d.Ok)(hg:b≠d.gone)(hw:d.Wg≠b):aaY d.cc b:=by
 refine⟨hg,λw k hk hb=>?_⟩;obtain⟨⟨h1,h2,h3⟩,h4,h5,h6,hx⟩:=hk;have pw:Kx (w.setChan b 0 #[] aw (k+1) (k+1) aw):=hx.same λy o hy ho=>by rw[jQ hb,aU (λe=>by rw[e,hb]at hy;obtain rfl:=bj hy;cases ho)];exact hy
 have op:∀x,iC w x->iC (w.setChan b 0 #[] aw (k+1) (k+1) aw) x:=λx ⟨k',qK⟩=>by
  unfold iC;rw[jQ hb];split
  .exact⟨k+1,rfl⟩
  .exact⟨k',qK⟩
 refine⟨⟨?_,λi hi x hx=>?_,?_⟩,op _ h4,op _ h5,λi hi=>op _ (h6 i hi),pw⟩
 .obtain⟨st,sm,hst⟩:=h1;exact⟨st,sm,by show(w.setChan b 0 #[] aw (k+1) (k+1) aw).heap[d.Wg]? =_;rw[jQ hb,aU hw];exact hst⟩
 .have h:=h2 i hi x hx;have hne:x.1.block≠b:=λe=>by rw[xC (by rw[e];exact hb)]at h;cases h
  rw[←h];simp only[fG,jQ hb,aU hne]
 .rw[jQ hb,aU (λe=>by rw[e,hb]at h3;cases h3)];exact h3
structure bp.Eye(d:bp)(N:Nat->Prop)(F:Nat->Option (Nat×Nat))(dJ:aj):Prop where
 wg:¬N d.Wg
 come:¬N d.come
 gone:¬N d.gone
 turn:∀i,i<d.j->¬N (d.turn i)
 facts:∀i,i<d.j->∀x∈d.facts i,¬N x.1.block\/Fz F x.1
 C:F d.C=ae (0,d.csC.size)
 fzn:∀b f,F b=ae f->N b
 new:∀b,dJ.heap.size<=b->N b/\F b=ah
 bad:∀(b:Nat) o,N b->dJ.heap[b]? =ae o->gI o=au
def bp.ri(d:bp)(Inb:Nat->Option Seat):Prop:=∀i s b,Inb i=ae s->s.has b->b=d.come\/b=d.gone\/∃k,k<d.j/\b=d.turn k
theorem yJ{d:bp}(O:d.Ok)(E:d.Eye N F dJ)(hI:d.ri Inb)(hK:d.K dJ):ab3 d.cc h Inb N F dJ:=by
 obtain⟨⟨k1,k2,k3⟩,k4,k5,k6,kx⟩:=hK;have hop:∀b,iC dJ b->¬N b->Hid N dJ b:=λb ⟨k,hk⟩ hn=>⟨_,hk,rfl,hn⟩;have hcell:∀x v,dJ.cell? x=ae v->¬N x.block->Hid N dJ x.block:=λx v hx hn=>by
  unfold fG at hx;cases e:dJ.heap[x.block]? with
  |none=>rw[e]at hx;simp at hx
  |some o=>rw[e]at hx;refine⟨o,e,?_,hn⟩;cases o<;>first|rfl|simp at hx
 refine⟨E.wg,.inr ⟨_,d.csC,d.eC,E.C,rfl,k3,bJ _⟩,E.fzn,E.new,λi s b _ h2 h3=>?_,λr r' hk ho hh hz hwh=>?_,λg l hl=>?_⟩
 .have ne:∀b,iC dJ b->b≠d.C:=λb ⟨k,hk⟩ e=>by rw[e,k3]at hk;cases hk
  rcases hI i s b h2 h3 with rfl|rfl|⟨k,hk,rfl⟩
  .exact⟨hop _ k4 E.come,bZ O.wc,ne _ k4⟩
  .exact⟨hop _ k5 E.gone,bZ O.wg,ne _ k5⟩
  .exact⟨hop _ (k6 k hk) (E.turn k hk),bZ (O.wt k hk),ne _ (k6 k hk)⟩
 .obtain⟨⟨h1,h2,h3⟩,h4,h5,h6,hx⟩:=hk;have pw:Kx r':=λb o hb hok=>by have h0:=kx b o hb hok;rw[hh b ⟨o,h0,(by cases o<;>first|rfl|cases hok),λhn=>by have:=E.bad b o hn h0;rw[hok]at this;cases this⟩];exact hx b o hb hok
  have op:∀b,iC dJ b->¬N b->iC r b->iC r' b:=λb h0 hn ⟨k,hk⟩=>⟨k,by rw[hh b (hop b h0 hn)];exact hk⟩;refine⟨⟨?_,λi hi x hx=>?_,?_⟩,op _ k4 E.come h4,op _ k5 E.gone h5,λi hi=>op _ (k6 i hi) (E.turn i hi) (h6 i hi),pw⟩
  .obtain⟨st,sm,hw⟩:=h1;obtain⟨st0,sm0,hw0⟩:=k1;exact⟨st,sm,(hh d.Wg ⟨_,hw0,rfl,E.wg⟩).trans hw⟩
  .have h:=h2 i hi x hx;rcases E.facts i hi x hx with hn|hf
   .rw[←h];have:=hh _ (hcell _ _ (k2 i hi x hx) hn);simp only[fG,this]
   .rw[hz _ hf];exact h
  .rw[hwh d.C ⟨_,d.csC,d.eC,E.C,rfl,k3,bJ _⟩];exact h3
 .obtain⟨i,_,hi,x,hx,rfl⟩:=hl;refine⟨x.1,rfl,?_⟩;rcases E.facts i hi x hx with hn|hf
  .exact .inl (hcell _ _ (k2 i hi x hx) hn)
  .exact .inr hf
end
section
open Go Go.Conc Go.ConcN
open Go.ConcR (KK WgAt stA smA Payload Aside2 DC0)
inductive ZigC(P:bh)(main:Bool)(cs:List aB){ι:Type}(J:fM ι)(Stop:ι->aB->List aB->aj->Prop):ι->aB->List aB->aj->Prop
 |mk {i:ι} {fr:aB} {fs:List aB} {a:aj} (K:aB->List aB->aj->ι->aB->List aB->aj->Prop)
   (h1:vu P main cs (λcB dg a'=>Stop i cB dg a'\/J i cB dg a' (K cB dg a')) fr fs a)
   (h2:∀jg ny a1 i' cB dg a',K jg ny a1 i' cB dg a'->ZigC P main cs J Stop i' cB dg a'):ZigC P main cs J Stop i fr fs a
def Zy(P:bh)(main:Bool)(cs:List aB)(J:fM ι)(Stop:ι->aB->List aB->aj->Prop)(i:ι)(fr:aB)(fs:List aB)(a:aj):Prop:=Stop i fr fs a\/∃K,J i fr fs a K/\∀i' cB dg a',K i' cB dg a'->ZigC P main cs J Stop i' cB dg a'
section
variable{P:bh}{main:Bool}{Stop:ι->aB->List aB->aj->Prop}{i:ι}{a:aj}
theorem ZigC.all(h:ZigC P main cs J Stop i fr fs a):vu P main cs (Zy P main cs J Stop i) fr fs a:=by
 cases h with
 |mk K h1 h2=>exact h1.bind λcB dg a' h=>.stop (h.imp id λhj=>⟨_,hj,h2 cB dg a'⟩)
theorem xD(h:vu P main cs (Zy P main cs J Stop i) fr fs a):ZigC P main cs J Stop i fr fs a:=by
 classical
 let good:aB->List aB->aj->(ι->aB->List aB->aj->Prop)->Prop:=λfr fs a K=>J i fr fs a K/\∀i' cB dg a',K i' cB dg a'->ZigC P main cs J Stop i' cB dg a';let K:aB->List aB->aj->ι->aB->List aB->aj->Prop:=λfr fs a=>if h:∃K,good fr fs a K then Classical.choose h else λ_ _ _ _=>False
 have hK:∀fr fs a,(∃K,good fr fs a K)->good fr fs a (K fr fs a):=λfr fs a h=>by show good fr fs a (if h:∃K,good fr fs a K then Classical.choose h else λ_ _ _ _=>False);rw[dif_pos h];exact Classical.choose_spec h
 refine .mk K (h.bind λcB dg a' h=>.stop (h.imp id λh=>(hK _ _ _ h).1)) λjg ny a1 i' cB dg a' hk=>?_;by_cases h:∃K,good jg ny a1 K
 .exact(hK _ _ _ h).2 _ _ _ _ hk
 .have:(K jg ny a1 i' cB dg a')=False:=by show(if h:∃K,good jg ny a1 K then Classical.choose h else λ_ _ _ _=>False) i' cB dg a'=False;rw[dif_neg h]
  rw[this]at hk;exact hk.elim
theorem ZigC.walk(h:vu P main cs (λcB dg a'=>ZigC P main cs J Stop i cB dg a') fr fs a):ZigC P main cs J Stop i fr fs a:=xD (h.bind λ_ _ _ h=>h.all)
theorem ZigC.stop(h:Stop i fr fs a):ZigC P main cs J Stop i fr fs a:=xD (.stop (.inl h))
theorem ZigC.jump{K:ι->aB->List aB->aj->Prop}(h:J i fr fs a K)(hn:∀i' cB dg a',K i' cB dg a'->ZigC P main cs J Stop i' cB dg a'):ZigC P main cs J Stop i fr fs a:=xD (.stop (.inr ⟨K,h,hn⟩))
theorem Ql(hJ:∀i fr fs a K,J i fr fs a K->J' i fr fs a K)(h:ZigC P main cs J Stop i fr fs a):ZigC P main cs J' Stop i fr fs a:=by
 induction h with
 |mk K h1 h2 ih=>exact .mk K (h1.bind λcB dg a' h=>.stop (h.imp id (hJ _ _ _ _ _))) ih
theorem ZigC.along(C:ι->aB->List aB->aj->Prop)
  (step:∀i fr fs a,ZigC P main cs (λi fr fs a K=>J i fr fs a K/\∀i' cB dg a',K i' cB dg a'->C i' cB dg a') Stop i fr fs a->C i fr fs a)(h:ZigC P main cs J Stop i fr fs a):C i fr fs a:=by
 suffices H:ZigC P main cs (λi fr fs a K=>J i fr fs a K/\∀i' cB dg a',K i' cB dg a'->C i' cB dg a') Stop i fr fs a from step _ _ _ _ H
 induction h with
 |mk K h1 h2 ih=>exact .mk K (h1.bind λcB dg a' h=>.stop (h.imp id λhj=>⟨hj,λi' cz dC a2 hk=>step _ _ _ _ (ih cB dg a' i' cz dC a2 hk)⟩)) λjg ny a1 i' cB dg a' hk=>ih jg ny a1 i' cB dg a' hk
end
theorem ace[fQ]{Stop:ι->aB->List aB->aj->Prop}{j:Nat}{tag:CTag}{fe:Nat->Bool}{a₀:aj}
  {main:Bool}(aey:(h==0)=main)(O:c.Ok)(rh:tag≠.blk)(V:ab3 c h Inb N F dJ)
  {i:ι}(hz:ZigC c.P main cs J Stop i fr fs a₀)(jA:Sees N F a₀ dJ)(hfz:Aw F dJ)(hok:∀(b:Nat) o,N b->dJ.heap[b]? =ae o->gI o=au)
  (ha:gs[h]? =ae (cy fr (fs++cs)))(Fm:CF c h j d0 Inb tag D fe q T gs dJ):
  ∃n m' T',runNT c.P n (bS gs dJ sl) T=(.next m',T')/\∃gs' r' sl' cB dg a' D' mQ q',m'=bS gs' r' sl'/\gs'[h]? =ae (cy cB (dg++cs))/\Zy c.P main cs J Stop i cB dg a'/\DI c N F dJ a' r'/\Rel (Hid N dJ) a' r'/\CF c h j d0 Inb tag D' mQ q' T' gs' r':=by
 subst aey;have hrel:=Jq jA hok;obtain⟨st,sm,hw,_⟩:=Fm.group;have agL:DI c N F dJ a₀ dJ:=⟨jA,hfz,λ_=>Iff.rfl,bJ _,Fm.keep,⟨st,sm,hw⟩,λ_ _ _=>rfl,λ_ _=>rfl,eG _,rfl,rfl⟩;have B:=Jk O V;let Q:aY->aj->Prop:=λg w=>∃cB dg a',g=cy cB (dg++cs)/\Zy c.P (h==0) cs J Stop i cB dg a'/\DI c N F dJ a' w/\Rel (Hid N dJ) a' w;have hW:Walk c (h==0) (Ln c Inb h) Q (cy fr (fs++cs)) dJ:=hz.all (Hid N dJ) (RH c) (Ln c Inb h) Q (DI c N F dJ) B (λcB dg a' r' hat hrel hl=>.stop λw₁ h₁=>by obtain⟨TW,hl1⟩:=B.others a' r' w₁ h₁ hrel hl;exact⟨cB,dg,a',rfl,hat,hl1,TW⟩) dJ hrel agL;obtain⟨n,m',T',hN,gs',r',sl',g',D',mQ,q',rfl,nA,hQ,F'⟩:=hold O rh (λ_ _ _ hd=>hd) hW (sl:=sl) ha Fm;obtain⟨cB,dg,a',rfl,h1,h3,h4⟩:=hQ r' (.refl c r');exact⟨n,_,T',hN,gs',r',sl',cB,dg,a',D',mQ,q',rfl,nA,h1,h3,h4,F'⟩
end
section
open Go.Conc Go.ConcN
open Go.ConcR (KK WgAt stA smA rd wr mk Payload Aside2 DC0)
variable[fQ]
inductive K2 where
 |fl (s:Seat) (kg:Nat) (z:ay)|un|wg
def K2.num:K2->Nat
 |.fl _ _ _=>2
 |.un=>1
 |.wg=>0
abbrev CC.DL(c:CC)(i n:Nat)(g:aY)(w:aj):Prop:=Goes c.P aw (RK c.K0) (λw w' es=>YJ w w'/\∀e∈es,EvC (c.S (i+1)) c.B e) (λg w=>g.status=.running/\∃m,c.Wk i 7 m 0 g w) n g w
theorem aez:∀{n:Nat} {g:aY} {w:aj},c.Unw i n g w->c.DL i n g w:=by
 intro n;induction n with
 |zero=>exact λh=>gM h
 |succ n ih=>
  intro g w h;rcases h with h|⟨hs,h⟩
  .exact gM h
  .refine .inr ⟨hs,λw₁ hr=>?_⟩;have:=h w₁ hr;cases e:bn c.P aw g w₁ with
   |go g' w' es=>rw[e,cG]at this;rw[cG];exact⟨⟨this.1.1▸ .refl _,this.1.2⟩,ih this.2⟩
   |_=>rw[e]at this;exact this.elim
structure aeA(c:CC)(i:Nat)(s:Seat)(kg:Nat)(z:ay)(n:Nat)(g:aY)(w:aj):Prop where
 goes:Goes c.P aw (RK c.K0) (DS (c.S (i+1)) c.B) (λg _=>∃g₂,AtIn c.P aw c.K0 (c.S (i+1)) c.B s g g₂) n g w
 wf:s.Wf
 case:s.cases[kg]? =ae (dh c.gone z)
 shut:∀w,c.K w->∃k r:Nat,w.heap[c.gone]? =ae (Obj.chan 0 #[] au k r aw)
 oth:∀w,c.K w->∀b,s.has b->b≠c.gone->∃k:Nat,w.heap[b]? =ae (Obj.chan 0 #[] aw k k aw)
 next:∀g₂,s.home g₂->∃n',∀w,c.K0 w->c.DL i n' (mq g₂ (commResult s.cases s.shape kg z aw)) w
def W2(c:CC)(i:Nat):K2->WD->Nat->aY->aj->Prop
 |.fl s kg z,d,n,g,w=>d.stage=7/\d.deaf=0/\aeA c i s kg z n g w
 |.un,d,n,g,w=>d.stage=7/\d.deaf=0/\c.DL i n g w
 |.wg,d,_,g,w=>c.Wk i d.stage d.fuel d.deaf g w
structure JF(c:CC)(j d0:Nat)(tag:CTag)(D:Nat->WD)(kd:Nat->K2)(q:Nat->Nat)(T:Trace)(gs:Array aY)(w:aj):Prop where
 size:gs.size=j+1
 work:∀i,i<j->∃g,gs[i+1]? =ae g/\W2 c i (kd i) (D i) (q i) g w
 keep:c.K w
 group:∃st sm,WgAt c.ty c.Wg w st sm/\ConcN.Mode j D tag st sm
 pend:j+pend tag<2147483648
 led:Led (λ_=>False) c.S (ShN c.Wg) (λi=>Knows T 0 i) T
 deaf0:Deaf T 0=d0
 deafW:∀i,i<j->Deaf T (i+1)=(D i).deaf
 above:∀i,gs.size<=i->Deaf T i=0
 norel:∀op∈T,op.act≠.mark (.release (stA c.Wg))
 rel:∀i,i<j->(D i).stage<=6->∃r,RelBy (stA c.Wg) T (i+1) r
 who:∀op∈T,op.g<gs.size
def muJ(j:Nat)(D:Nat->WD)(kd:Nat->K2):Nat:=(cZ j λi=>(D i).stage) +cZ j λi=>(kd i).num
def muF(j:Nat)(D:Nat->WD)(q:Nat->Nat):Nat:=(cZ j λi=>(D i).fuel) +cZ j q
section
variable{j:Nat}{tag:CTag}{kd:Nat->K2}{w:aj}
theorem W2.rely{k:K2}{n:Nat}{g:aY}{w:aj}(h:W2 c i k d n g w)(hK:c.K w')(hr:RW c.ty c.Wg c.C c.n 0 i w w'):W2 c i k d n g w':=by
 cases k with
 |fl s kg z=>exact⟨h.1,h.2.1,⟨kX (λ_ _ _ _ x=>x) h.2.2.goes (c.sub _ hK),h.2.2.wf,h.2.2.case,h.2.2.shut,h.2.2.oth,h.2.2.next⟩⟩
 |un=>exact⟨h.1,h.2.1,kX (λ_ _ _ _ x=>x) h.2.2 (c.sub _ hK)⟩
 |wg=>exact j5.rely h hr
theorem W2.status{k:K2}{n:Nat}{g:aY}{w:aj}(h:W2 c i k d n g w)(hK:c.K w):g.status=.running\/g.status=.finished:=by
 cases k with
 |fl s kg z=>exact .inl (kh (λ_ _ x=>x.choose_spec.1) w (c.sub _ hK) h.2.2.goes)
 |un=>exact .inl (kh (λ_ _ x=>x.1) w (c.sub _ hK) h.2.2)
 |wg=>exact j5.status h
theorem JF.at(F:JF c j d0 tag D kd q T gs w)(O:c.Ok)(d:Nat):JF c j d0 tag D kd q T gs (w.at d):=⟨F.size,λi hi=>let⟨g,h1,h2⟩:=F.work i hi;⟨g,h1,h2.rely (O.keep _ _ (RH.at c w d).g F.keep) (RW.at w d)⟩,O.keep _ _ (RH.at c w d).g F.keep,F.group,F.pend,F.led,F.deaf0,F.deafW,F.above,F.norel,F.rel,F.who⟩
theorem JF.awake(F:JF c j d0 tag D kd q T gs w)(ha:gs[0]? =ae a)(hs:a.status=.running\/a.status=.blocked):∀g∈gs,awake g:=by
 intro g hg;obtain⟨i,hi⟩:=Array.mem_iff_getElem?.1 hg;cases i with
 |zero=>rw[ha]at hi;obtain rfl:=bj hi;exact awake_of (hs.elim .inl λx=>.inr (.inl x))
 |succ i=>
  have hlt:i<j:=by have:=(bF.1 hi).1;have:=F.size;omega
  obtain⟨g',nA,hw⟩:=F.work i hlt;rw[hi]at nA;obtain rfl:=bj nA;exact awake_of ((hw.status F.keep).elim .inl λx=>.inr (.inr x))
theorem JF.put(F:JF c j d0 tag D kd q T gs w)(O:c.Ok){ops:Array MemOp}{d':WD}{k':K2}(hi:i<j)(rh:ConcN.pend cJ=ConcN.pend tag)
  (hsz:gs'.size=gs.size)(nQ:∀x,x≠i->x<j->gs'[x+1]? =gs[x+1]?)(bY:gs'[i+1]? =ae g')(cH:∀op∈ops,op.g=i+1)(hr:SY c w w')(hC:∀x,x<j->x≠i->w'.cell? ⟨c.C,x,ah⟩=w.cell? ⟨c.C,x,ah⟩)
  (hW:W2 c i k' d' n' g' w')(hgroup:∃st sm,WgAt c.ty c.Wg w' st sm/\ConcN.Mode j (upd D i d') cJ st sm)(hled:Led (λ_=>False) c.S (ShN c.Wg) (λi=>Knows (T++ops) 0 i) (T++ops))(hdW:Deaf (T++ops) (i+1)=d'.deaf)
  (hno:∀op∈ops,op.act≠.mark (.release (stA c.Wg)))(hrel:d'.stage<=6->∃r,RelBy (stA c.Wg) (T++ops) (i+1) r):JF c j d0 cJ (upd D i d') (upd kd i k') (upd q i n') (T++ops) gs' w':=by
 have hK':=O.keep _ _ hr F.keep;obtain⟨st,sm,hw,hm⟩:=hgroup;refine⟨hsz.trans F.size,λx hx=>?_,hK',⟨st,sm,hw,hm⟩,by rw[rh];exact F.pend,hled,by rw[ig T (by omega:i+1≠0) _ cH];exact F.deaf0,λx hx=>?_,λx hx=>?_,λop hop=>?_,λx hx hs=>?_,λop hop=>by rw[hsz];exact(ib.1 hop).elim (F.who op) (λh=>by rw[cH op h];have:=F.size;omega)⟩
 .by_cases e:x=i
  .subst e;rw[gR,gR,gR];exact⟨g',bY,hW⟩
  .obtain⟨g,h1,h2⟩:=F.work x hx;rw[upd_ne _ _ e,upd_ne _ _ e,upd_ne _ _ e];exact⟨g,by rw[nQ x e hx];exact h1,h2.rely hK' ⟨λb hb=>aT hb (fR b),λ_=>⟨st,sm,hw⟩,λhp=>aT hp (O.pay _ F.keep),hC x hx e⟩⟩
 .by_cases e:x=i
  .subst e;rw[gR];exact hdW
  .rw[upd_ne _ _ e,ig T (by omega:i+1≠x+1) _ cH];exact F.deafW x hx
 .rw[hsz]at hx;have:=F.size;rw[ig T (by omega:i+1≠x) _ cH];exact F.above x hx
 .rcases ib.1 hop with h1|h1
  .exact F.norel op h1
  .exact hno op h1
 .by_cases e:x=i
  .subst e;rw[gR]at hs;exact hrel hs
  .rw[upd_ne _ _ e]at hs;obtain⟨r,hr⟩:=F.rel x hx hs;exact⟨r,hr.appOther cH ai⟩
def Moved2(c:CC)(j d0:Nat)(tag:CTag)(D:Nat->WD)(kd:Nat->K2)(q:Nat->Nat)(T:Trace)(gs:Array aY)(w:aj)(sl:Option (Nat×Nat))(Hs:CTag->aY->aj->Prop)(i:Nat)(a g:aY):Prop:=
 ∃gs' w' ops cJ a' D' T9 q',runT c.P (bS gs w sl) (i+1)=(.next (bS gs' w' sl),ops)/\gs'[0]? =ae a'/\Hs cJ a' w'/\(cJ=tag\/(tag=.blk/\cJ=.w3))/\(a'=a\/∃g',a'=woken c.P g g' w' a)/\SY c w w'/\JF c j d0 cJ D' T9 q' (T++ops) gs' w'/\
  ((muJ j D' T9<muJ j D kd/\Vc j D'<=Vc j D)\/(muJ j D' T9=muJ j D kd/\Vc j D'=Vc j D/\muF j D' q'<muF j D q))/\∀r,(∃p,T.act? p=ae (.mark (.acquire r)))->∃p,(T++ops).act? p=ae (.mark (.acquire r))
theorem JF.step(F:JF c j d0 tag D kd q T gs w)(O:c.Ok){g:aY}(sD:i<j)(hi:gs[i+1]? =ae g)(hrun:g.status=.running)(ha:gs[0]? =ae a)
  (hH0:Hs tag a w)(hH:∀g' w',SY c w w'->∃cJ,(cJ=tag\/(tag=.blk/\cJ=.w3))/\(mayWake c.P g=au->g'.status=.running->cJ≠.blk)/\Hs cJ (woken c.P g g' w' a) w')(dA:∀b,offersAt a b au=[]):
  Moved2 c j d0 tag D kd q T gs w sl Hs i a g:=by
 have hlt:i+1<gs.size:=(bF.1 hi).1;have hsz:=F.size;have aaZ:∀(ops:Trace) r,(∃p,T.act? p=ae (.mark (.acquire r)))->∃p,(T++ops).act? p=ae (.mark (.acquire r)):=λops r ⟨p,hp⟩=>⟨p,by rw[act?_old (lt_of_act? hp)];exact hp⟩;have BZ:∀(g':aY) (w':aj),SY c w w'->(∀x,x≠i->x<j->((gs.map (woken c.P g g' w')).setIfInBounds (i+1) g')[x+1]? =gs[x+1]?)/\((gs.map (woken c.P g g' w')).setIfInBounds (i+1) g')[i+1]? =ae g'/\((gs.map (woken c.P g g' w')).setIfInBounds (i+1) g')[0]? =ae (woken c.P g g' w' a):=by
  intro g' w' hr;refine⟨λx hx hxj=>?_,iw (by simpa using hlt),?_⟩
  .obtain⟨y,hy,hW⟩:=F.work x hxj;rw[gG ai,oH,hy];simp[mi (nB w' (hW.status F.keep))]
  .rw[gG ai,oH,ha];rfl
 obtain⟨g₀,aa0,hW⟩:=F.work i sD;rw[hi]at aa0;obtain rfl:=bj aa0;have aeB:∀(d':WD) (k':K2) (n':Nat),muJ j (upd D i d') (upd kd i k') +((D i).stage+(kd i).num)=muJ j D kd+(d'.stage+k'.num)/\Vc j (upd D i d') +cnt (D i)=Vc j D+cnt d'/\muF j (upd D i d') (upd q i n') +((D i).fuel+q i)=muF j D q+(d'.fuel+n'):=by
  intro d' k' n';have e1:(cZ j λx=>(upd D i d' x).stage) +(D i).stage=(cZ j λx=>(D x).stage) +d'.stage:=sumTo_upd D d' WD.stage sD;have e2:(cZ j λx=>(upd D i d' x).fuel) +(D i).fuel=(cZ j λx=>(D x).fuel) +d'.fuel:=sumTo_upd D d' WD.fuel sD;have e3:(cZ j λx=>(upd kd i k' x).num) +(kd i).num=(cZ j λx=>(kd x).num) +k'.num:=sumTo_upd kd k' K2.num sD;have e4:(cZ j λx=>upd q i n' x) +q i=(cZ j λx=>q x) +n':=by have:=sumTo_upd q n' id sD;simpa using this
  have e5:=Vc_upd D d' sD;refine⟨by simp only[muJ];omega,e5,?_⟩;simp only[muF];have e6:(cZ j λx=>upd q i n' x)=cZ j (upd q i n'):=rfl;have e7:(cZ j λx=>q x)=cZ j q:=rfl;omega
 have wg:∀m,c.Wk i (D i).stage m (D i).deaf g w->(m=(D i).fuel/\kd i=.wg\/1<=(kd i).num)->Moved2 c j d0 tag D kd q T gs w sl Hs i a g:=λm hw hm=>by
  obtain⟨st,sm,lI,jh⟩:=F.group;obtain⟨g',w',es,s',m',dd',ER,Lm,hgo,hA,sN,hdd,L6,BX,L9,Av,DC,hle⟩:=OD (kk:=i+1) O.away F.pend lI jh sD rfl hw hrun;have hr:SY c w w':=(RH.Jd hA ⟨_,_,L6⟩).g;obtain⟨g1,g2,g3⟩:=BZ g' w' hr;obtain⟨cJ,t1,t2,t3⟩:=hH g' w' hr;have cH:∀op∈eM (i+1) g.frame.fn g.frame.place es,op.g=i+1:=λop hop=>by obtain⟨e,_,rfl⟩:=iK hop;rfl
  have vt:=F.deafW i sD;obtain⟨s1,s2,s3⟩:=aeB ⟨s',m',dd'⟩ .wg (q i);refine⟨_,w',_,cJ,_,upd D i ⟨s',m',dd'⟩,upd kd i .wg,upd q i (q i),mj (sl:=sl) (i:=i+1) hi (by simpa using hgo),g3,t3,t1,.inr ⟨g',rfl⟩,hr,
   F.put O sD (oL t1) aJ g1 g2 cH hr (λx _ _=>cell_of_block (hA.block _ O.away) x) sN ⟨ER,Lm,L6,BX cJ t1 t2⟩ (F.led.beside (λx=>Knows.app _) cH (λop hop b hb=>.inr (by
    obtain⟨ev,Ma,rfl⟩:=iK hop;rcases(L9 ev Ma).1 with h1|⟨x,h1,h2,h3⟩
    .rw[h1]at hb;cases hb
    .rw[h1]at hb;obtain rfl:=bj hb;exact⟨h2,h3,λg' nA=>(O.still g' _ nA).2 h2⟩)) (λ_ h=>h.elim)) (by rw[Deaf_own,vt];exact hdd) (λop hop hm=>by
     obtain⟨ev,Ma,rfl⟩:=iK hop;exact(L9 ev Ma).2 (by obtain⟨loc,wr,sy⟩:=ev;cases loc<;>simp_all [fH] <;>(split at hm<;>simp_all))) (λhs=>by
     obtain⟨r1,r2⟩:=Av T g.frame.fn g.frame.place vt;by_cases h6:(D i).stage<=6
     .obtain⟨r,hr⟩:=F.rel i sD h6;exact⟨r,r1 r h6 hr⟩
     .refine r2 hs ?_;have:=Je hw;omega),?_,aaZ _⟩
  have hz:K2.wg.num=0:=rfl;rw[hz]at s1;have c0:cnt (⟨s',m',dd'⟩:WD)<=cnt (D i):=by simp only[cnt];split<;>split<;>omega
  simp only at s1 s2 s3;rcases hm with⟨rfl,hk⟩|hk
  .rw[hk,hz]at s1;rcases DC with h1|⟨h1,h2⟩
   .exact .inl ⟨ai,ai⟩
   .have c1:cnt (⟨s',m',dd'⟩:WD)=cnt (D i):=(by simp only[cnt,h1]);exact .inr ⟨ai,ai,ai⟩
  .exact .inl ⟨ai,ai⟩
 have quiet:∀(gs':Array aY) (g':aY) (w':aj) (es:Array cK) (u:Array MemOp) (k':K2) (n':Nat) (cJ:CTag) (a':aY),YJ w w'->runT c.P (bS gs w sl) (i+1)=(.next (bS gs' w' sl),eM (i+1) g.frame.fn g.frame.place es++u)->(∀e∈es,EvC (c.S (i+1)) c.B e)->(∀op∈u,op.g=i+1/\op.act.touch? =ah/\(∀m,op.act≠.mark m)/\∀gg d,deafStep gg d op=d)->gs'.size=gs.size->
   (∀x,x≠i->x<j->gs'[x+1]? =gs[x+1]?)->gs'[i+1]? =ae g'->gs'[0]? =ae a'->Hs cJ a' w'->(cJ=tag\/(tag=.blk/\cJ=.w3))->(a'=a\/∃g',a'=woken c.P g g' w' a)->(D i).stage=7->(D i).deaf=0->W2 c i k' (D i) n' g' w'->(k'.num< (kd i).num\/(k'.num=(kd i).num/\n'<q i))->Moved2 c j d0 tag D kd q T gs w sl Hs i a g:=by
  intro gs' g' w' es u k' n' cJ a' hgr hrt hes hu hsz' nQ bY ha' hHs ht haa h7 tJ sN hlt;obtain⟨cH,hr,hmk,hd⟩:=uK (i:=i+1) (fn:=g.frame.fn) (pos:=g.frame.place) hes;have hD:Deaf (T++(eM (i+1) g.frame.fn g.frame.place es++u)) (i+1)=Deaf T (i+1):=by rw[←Array.append_assoc,Deaf_quiet (λop hop d=>(hu op hop).2.2.2 (i+1) d),hd]
  obtain⟨s1,s2,s3⟩:=aeB (D i) k' n';obtain⟨st,sm,h1,h2⟩:=F.group;have eD:upd D i (D i)=D:=by funext x;by_cases e:x=i<;>simp[upd,e]
  have hCl:=O.cin _ F.keep;refine⟨gs',w',_,cJ,a',upd D i (D i),upd kd i k',upd q i n',hrt,ha',hHs,ht,haa,hgr.g,F.put O sD (oL ht) hsz' nQ bY (λop hop=>?_) hgr.g (λx _ _=>cell_of_block (hgr.block _ hCl) _) sN ⟨st,sm,(hgr.block _ (aL h1)).trans h1,by rw[eD];exact h2.retag ht⟩ ?_ (by rw[hD];exact F.deafW i sD) (λop hop=>?_) (λh6=>ai),?_,aaZ _⟩
  .rcases ib.1 hop with h|h
   .exact cH op h
   .exact(hu op h).1
  .rw[←Array.append_assoc];exact(F.led.beside (Dy:=λ_=>False) (λx=>Knows.app _) cH (λop hop b hb=>.inl ⟨(hr op hop b hb).1,(hr op hop b hb).2.1,(O.still _ _ (hr op hop b hb).2.1).2,(hr op hop b hb).2.2⟩) (λ_ h=>h.elim)).mute (λx=>Knows.app _) (λop hop=>(hu op hop).2.1) (λ_ h=>h.elim)
  .rcases ib.1 hop with h|h
   .exact hmk op h _
   .exact(hu op h).2.2.1 _
  .rcases hlt with h|⟨h,h'⟩
   .exact .inl ⟨ai,ai⟩
   .exact .inr ⟨ai,ai,ai⟩
 cases hk:kd i with
 |fl s kg z=>
  rw[hk]at hW;obtain⟨h7,tJ,DM⟩:=hW;rcases lx DM.goes with eE|⟨n',qJ,hstep⟩
  .obtain⟨g₂,hat⟩:=eE w (c.sub _ F.keep);obtain⟨_,_,_,_,Jo,es,hes,Au⟩:=hat;obtain⟨kc,rc,hc⟩:=DM.shut w F.keep;have Zp:∀b,partners (gs.setIfInBounds (i+1) ph) b au=[]:=λb=>partners_nil λx t ht=>by
    rcases getElem?_stand gs (i+1) x t ht with⟨_,rfl⟩|⟨_,DJ⟩
    .exact offersAt_ph _ _
    .cases x with
     |zero=>rw[ha]at DJ;obtain rfl:=bj DJ;exact dA b
     |succ x=>have hxj:x<j:=(by have:=(bF.1 DJ).1;omega);obtain⟨y,hy,hW⟩:=F.work x hxj;rw[DJ]at hy;obtain rfl:=bj hy;exact tH (by rcases hW.status F.keep with e|e<;>rw[e] <;>simp) _ _
   have ho:∀(m:Nat) (c':CommCase),m≠kg->s.cases[m]? =ae c'->NoWays w (gs.setIfInBounds (i+1) ph) c':=(by intro m c' hm hc';obtain⟨b,Zu,rfl⟩:=DM.wf.recvs c' (qf hc');have hne:b≠c.gone:=λe=>(by subst e;exact hm (DM.wf.apart m kg _ _ _ hc' DM.case));obtain⟨kb,hb⟩:=DM.oth w F.keep b ⟨m,Zu,hc'⟩ hne;exact ways_recv_none hb (Zp b));have hrt:=crowd_sel_recv_closed (sl:=sl) (i:=i+1) hi (by simpa using Au w (c.sub _ F.keep)) DM.case ho hc (Zp _);obtain⟨n',qJ⟩:=DM.next g₂ Jo;exact quiet _ _ w es _ .un n' tag a (.refl w) hrt hes (by intro op hop;simp at hop;subst hop;exact⟨rfl,rfl,aJ,λ_ _=>rfl⟩) aJ (λx hx hxj=>gG ai) (iw hlt) (by rw[gG ai];exact ha) hH0 (.inl rfl) (.inl rfl) h7 tJ
    ⟨h7,tJ,by rw[finishComm_served];exact qJ w (c.sub _ F.keep)⟩ (.inl (by rw[hk];simp[K2.num]))
  .obtain⟨g',w',es,hgo,⟨rfl,hes⟩,hG'⟩:=hstep w (c.sub _ F.keep);obtain⟨g1,g2,g3⟩:=BZ g' w' (.refl c w');obtain⟨cJ,t1,t2,t3⟩:=hH g' w' (.refl c w');exact quiet _ g' w' es #[] (.fl s kg z) n' cJ _ (.refl w') (by rw[xw];exact mj (sl:=sl) (i:=i+1) hi (by simpa using hgo)) hes (by intro op hop;simp at hop) aJ g1 g2 g3 t3 t1 (.inr ⟨g',rfl⟩) h7 tJ ⟨h7,tJ,⟨hG',DM.wf,DM.case,DM.shut,DM.oth,DM.next⟩⟩ (.inr ⟨by rw[hk],ai⟩)
 |un=>
  rw[hk]at hW;obtain⟨h7,tJ,hgo⟩:=hW;rcases lx hgo with eE|⟨n',qJ,hstep⟩
  .obtain⟨_,m,hm⟩:=eE w (c.sub _ F.keep);exact wg m (by rw[h7,tJ];exact hm) (.inr (by rw[hk];simp[K2.num]))
  .obtain⟨g',w',es,TT,⟨hgr,hes⟩,hG'⟩:=hstep w (c.sub _ F.keep);obtain⟨g1,g2,g3⟩:=BZ g' w' hgr.g;obtain⟨cJ,t1,t2,t3⟩:=hH g' w' hgr.g;exact quiet _ g' w' es #[] .un n' cJ _ hgr (by rw[xw];exact mj (sl:=sl) (i:=i+1) hi (by simpa using TT)) hes (by intro op hop;simp at hop) aJ g1 g2 g3 t3 t1 (.inr ⟨g',rfl⟩) h7 tJ ⟨h7,tJ,hG'⟩ (.inr ⟨by rw[hk],ai⟩)
 |wg=>rw[hk]at hW;exact wg _ hW (.inl ⟨rfl,hk⟩)
end
end
section
open Go Go.Conc Go.ConcN
open Go.ConcR (KK WgAt stA smA Payload Aside2 DC0)
variable[fQ]
variable[Inhabited dc]
structure tO where
 t:Nat
 a:aj
instance:Coe tO Nat:=⟨tO.t⟩
structure fX where
 Inv:Nat->aj->Prop
 G:aj->aj->Prop
 Foot:aj->Nat->Prop
 WR:Nat->Nat->aj->Prop
 Pub:Nat->aj->Nat->Prop
 live:Nat->Nat->Prop
 sched:Nat->Nat
 may:Nat->Prop
def fX.next(u:fX)(i t t':Nat):Prop:=u.sched t'=i/\u.may t'/\∀s,t<s->s<t'->u.sched s≠i
structure fX.Ok(u:fX)(d:bp):Prop where
 inv:∀t w w',u.Inv t w->(∀b,u.Foot w b->w'.heap[b]? =w.heap[b]?)->u.Inv t w'/\∀b,u.Foot w' b↔u.Foot w b
 foot:∀t w b,u.Inv t w->u.Foot w b->(∃c e,w.heap[b]? =ae (aK c e (0,0)))/\d.ro b=ah
 gsame:∀t w w',u.Inv t w->(∀b,u.Foot w b->w'.heap[b]? =w.heap[b]?)->u.G w w'
 gtrans:∀a b c,u.G a b->u.G b c->u.G a c
 wr:∀i t w w',u.WR i t w->(∀x:aP,u.Pub i w x.block->w'.cell? x=w.cell? x)->u.WR i t w'/\∀b,u.Pub i w' b↔u.Pub i w b
 pubW:∀i t w,i<d.j->u.WR i t w->u.Pub i w (d.W i)
 idle:∀i t t' w,t<=t'->(∀s,t<s->s<=t'->u.sched s≠i)->(u.WR i t w->u.WR i t' w)/\(u.live i t'↔u.live i t)
def Mine(d:bp)(u:fX)(a:aj)(b:Nat):Prop:=∃o,a.heap[b]? =ae o/\o≠eh/\di o=au/\¬u.Foot a b/\d.ro b=ah
def jB(d:bp)(a:aj)(b:Nat):Prop:=∃o,a.heap[b]? =ae o/\o≠eh/\di o=au/\(∀i,i<d.j->b≠d.W i)/\d.ro b=ah
def bp.Fw(d:bp)(i:Nat):Nat->Option (Nat×Nat):=λb=>(d.fw i b).or (d.ro b)
def bp.Fm(d:bp):Nat->Option (Nat×Nat):=λb=>(d.fm b).or (d.ro b)
structure bp.Fit(d:bp):Prop where
 ok:d.Ok
 fwW:∀i,i<d.j->∃f,d.fw i (d.W i)=ae f
 fwf:∀i,i<d.j->∀x∈d.facts i,∃f,d.fw i x.1.block=ae f/\f.1<=x.1.off/\x.1.off<f.2
 fmW:∀b f,d.fm b=ae f->f.1=0/\∃i,i<d.j/\b=d.W i
 Wfm:∀i,i<d.j->∃f,d.fm (d.W i)=ae f
 ffm:∀i,i<d.j->∀x∈d.facts i,(∃f,d.fm x.1.block=ae f/\f.1<=x.1.off/\x.1.off<f.2)\/∀i',i'<d.j->x.1.block≠d.W i'
 roC:∀i,d.fw i d.C=ah
 rom:d.fm d.C=ah
 ro0:∀b f,d.ro b=ae f->f.1=0
 roW:∀i,i<d.j->d.ro (d.W i)=ah
 rowg:d.ro d.Wg=ah
 cs0:NE (d.cs0)
 csw:∀i,d.cw i≠[]
def bp.seat(d:bp)(i:Nat)(z1 z2:ay)(g:aY):Seat:={cases:=#[dh (d.turn i) z1,dh d.gone z2],shape:=.select,home:=λx=>x=g}
def bp.told(d:bp)(i:Nat)(z1 z2:ay)(t:Nat):ay:=commResult #[dh (d.turn i) z1,dh d.gone z2] .select 0 (goInt ((t-d.base:Nat):Int)) au
structure agM(d:bp)(i:Nat)(z1 z2:ay)(fr:aB)(fs:List aB)(cz:aB)(dC:List aB):Prop where
 give:∃H' n v,(∀r,tN d.cc (i+1) d.come v (cy fr (fs++d.cw i)) r H')/\d.cc.TN (i+1) (d.seat i z1 z2 (cy cz (dC++d.cw i))) n H'
 flee:∃n',∀w,d.K0 w->d.cc.DL i n' (mq (cy cz (dC++d.cw i)) (commResult #[dh (d.turn i) z1,dh d.gone z2] .select 1 z2 aw)) w
def aa1(d:bp)(i:Nat)(fr:aB)(fs:List aB):Prop:=∃H' n v,(∀r,tN d.cc (i+1) d.come v (cy fr (fs++d.cw i)) r H')/\∀w,d.K0 w->d.cc.Unw i n H' w
structure MSpot(d:bp)(k t:Nat)(fr:aB)(fs:List aB)(cz:aB):Prop where
 give:∃H0 n0,(∀r,tN d.cc 0 (d.turn k) (goInt ((t-d.base:Nat):Int)) (cy fr (fs++d.cs0)) r H0)/\d.cc.TN 0 (Seat.one d.come (aq af 0) aw λx=>x=cy cz (fs++d.cs0)) n0 H0
structure tP(u:fX)(a:aj)(t:Nat)(a':aj):Prop where
 size:a.heap.size<=a'.heap.size
 same:∀(b:Nat) o,a.heap[b]? =ae o->o≠eh->¬u.Foot a b->a'.heap[b]? =ae o/\¬u.Foot a' b
 inv:u.Inv t a'
 g:u.G a a'
structure Ge(d:bp)(u:fX)(i:Nat)(t:tO)(a:aj):Prop where
 g:u.G t.a a
 inv:u.Inv t a
 wr:u.WR i t a
 pub:∀b,u.Pub i a b->Mine d u a b
 fwm:∀b f,d.fw i b=ae f->Mine d u a b/\∃c e,a.heap[b]? =ae (aK c e f)
def JW(d:bp)(u:fX)(i:Nat):fM tO:=λt fr fs a K=>Ge d u i t a/\
 ((u.live i t/\∃z1 z2 cz dC,agM d i z1 z2 fr fs cz dC/\K=λ(t':tO) cB dg a'=>t.t<t'.t/\u.next i t t'/\cB=cz.finish (d.told i z1 z2 t')/\dg=dC/\tP u a (t'.t-1) a'/\t'.a=a')\/
  (¬u.live i t/\aa1 d i fr fs/\K=λ_ _ _ _=>False))
structure Rest(d:bp)(u:fX)(i t:Nat)(a:aj)(tp:Nat)(Inb:Nat->Option Seat)(r:aj):Prop where
 le:tp<=t
 wait:∀s,tp<s->s<=t->u.sched s≠i
 size:a.heap.size<=r.heap.size
 own:∀b,Mine d u a b->a.heap[b]? =(r.heap[b]?).map (fV (d.Fw i b))
 ro:∀b,d.ro b≠ah->a.heap[b]? =(r.heap[b]?).map (fV (d.Fw i b))
 see:∀(b:Nat) o,a.heap[b]? =ae o->o≠eh->di o=aw->r.heap[b]? =ae o
 fw:∀b f,d.fw i b=ae f->Mine d u a b/\∃c e,r.heap[b]? =ae (aK c e (0,0))
 wr:u.WR i t r
 pub:∀b,u.Pub i r b->Mine d u a b
 go:u.live i t->∃z1 z2 cz dC,Inb (i+1)=ae (d.seat i z1 z2 (cy cz (dC++d.cw i)))/\(∃n',∀w,d.K0 w->d.cc.DL i n' (mq (cy cz (dC++d.cw i)) (commResult #[dh (d.turn i) z1,dh d.gone z2] .select 1 z2 aw)) w)/\
  ∀t' a',tp<t'->u.next i tp t'->tP u a (t'-1) a'->ZigC d.P aw (d.cw i) (JW d u i) (λ_ _ _ _=>False) ⟨t',a'⟩ (cz.finish (d.told i z1 z2 t')) dC a'
 over:¬u.live i t->Inb (i+1)=ah
 g:u.G a r
structure Between(d:bp)(u:fX)(t:Nat)(A:Nat->aj)(tp:Nat->Nat)(M:Nat->Prop)(Inb:Nat->Option Seat)(r:aj):Prop where
 inv:u.Inv t r
 rest:∀i,i<d.j->Rest d u i t (A i) (tp i) Inb r
 apart:∀i i' b,i<d.j->i'<d.j->Mine d u (A i) b->Mine d u (A i') b->i=i'
 foot:∀i b,i<d.j->Mine d u (A i) b->¬u.Foot r b
 far:∀i b,i<d.j->Mine d u (A i) b->b≠d.Wg/\b≠d.come/\b≠d.gone/\∀k,k<d.j->b≠d.turn k
 footg:∀b,u.Foot r b->b≠d.Wg
 m:∀b,M b->b<r.heap.size/\(∀i,i<d.j->¬Mine d u (A i) b)/\¬u.Foot r b/\d.ro b=ah/\b≠d.Wg/\b≠d.come/\b≠d.gone/\∀k,k<d.j->b≠d.turn k
 rook:∀b f,d.ro b=ae f->∃c e,r.heap[b]? =ae (aK c e (0,0))/\c.size<=f.2
 wok:∀i f,i<d.j->d.fm (d.W i)=ae f->∃c e,r.heap[d.W i]? =ae (aK c e (0,0))/\c.size<=f.2
 oks:∀(b:Nat) o,(M b\/u.Foot r b\/d.ro b≠ah\/∃i,i<d.j/\Mine d u (A i) b)->r.heap[b]? =ae o->gI o=au
 chairs:d.ri Inb
 out:∀i,d.j<i->Inb i=ah
 os:Gd r
section
variable{d:bp}{u:fX}{tp:Nat->Nat}{r:aj}
omit[Payload]in
theorem Jr{o:Option Obj}{x:Obj}(h:ae x=o.map (fV f)):∃y,o=ae y/\x=fV f y:=by
 cases o with
 |none=>cases h
 |some y=>exact⟨y,rfl,bj h⟩
theorem Between.there(B:Between d u t A tp M Inb r)(hi:i<d.j)(h:Mine d u (A i) b):∃o,r.heap[b]? =ae o/\di o=au:=by have h0:=h;obtain⟨o,h1,h2,h3,h4,h5⟩:=h;have:=(B.rest i hi).own b h0;rw[h1]at this;obtain⟨y,hy,rfl⟩:=Jr this;exact⟨y,hy,by rw[←h3,qh]⟩
theorem Between.keep(B:Between d u t A tp M Inb r)(X:d.Fit)(U:u.Ok d)(hK:d.K r)(hs:r.heap.size<=r'.heap.size)(hw:∀i b,i<d.j->Mine d u (A i) b->r'.heap[b]? =r.heap[b]?)(hro:∀b,d.ro b≠ah->r'.heap[b]? =r.heap[b]?)(hf:∀b,u.Foot r b->r'.heap[b]? =r.heap[b]?)
  (hM:∀b,M' b->M b\/(r.heap.size<=b/\b<r'.heap.size/\d.ro b=ah))(hm:∀b o,M' b->r'.heap[b]? =ae o->gI o=au)(Zz:∀(b:Nat) x l,r.heap[b]? =ae (.number x l)->r'.heap[b]? =ae (.number x l))(Mf:r'.os=r.os/\r'.output=r.output):Between d u t A tp M' Inb r':=by
 obtain⟨hinv,fS⟩:=U.inv t r r' B.inv hf;refine⟨hinv,λi hi=>?_,B.apart,λi b hi hb=>by rw[fS];exact B.foot i b hi hb,B.far,λb hb=>B.footg b ((fS b).1 hb),λb hb=>?_,λb f h=>?_,λi f hi h=>?_,λb o hb ho=>?_,B.chairs,B.out,B.os.same Mf⟩
 .have R:=B.rest i hi;have hc:∀x:aP,u.Pub i r x.block->r'.cell? x=r.cell? x:=λx hx=>by simp only[fG,hw i _ hi (R.pub _ hx)]
  obtain⟨h1,h2⟩:=U.wr i t r r' R.wr hc;refine⟨R.le,R.wait,dm R.size hs,λb hb=>by rw[hw i b hi hb];exact R.own b hb,λb hb=>by rw[hro b hb];exact R.ro b hb,λb o h1 h2 h3=>?_,λb f h=>?_,h1,λb hb=>R.pub b ((h2 b).1 hb),R.go,R.over,U.gtrans _ _ _ R.g (U.gsame t _ _ B.inv hf)⟩
  .have:=R.see b o h1 h2 h3;cases o<;>first|exact Zz _ _ _ this|cases h3
  .obtain⟨h3,h4⟩:=R.fw b f h;exact⟨h3,by rw[hw i b hi h3];exact h4⟩
 .rcases hM b hb with h|⟨h1,h2,h3⟩
  .obtain⟨h1,h2,h3,h4⟩:=B.m b h;exact⟨iR h1 hs,h2,by rw[fS];exact h3,h4⟩
  .obtain⟨⟨⟨st,sm,k1⟩,k2,k3⟩,⟨_,k4⟩,⟨_,k5⟩,k6,_⟩:=hK;have out:∀(x:Nat) o,r.heap[x]? =ae o->b≠x:=λx o hx e=>(by have:=aL hx;omega);refine⟨h2,λi hi YN=>?_,λYO=>?_,h3,out _ _ k1,out _ _ k4,out _ _ k5,λk hk=>by obtain⟨_,k7⟩:=k6 k hk;exact out _ _ k7⟩
   .obtain⟨o,ho,_⟩:=B.there hi YN;exact out _ _ ho rfl
   .rw[fS]at YO;obtain⟨⟨c,e,hc⟩,_⟩:=U.foot t r b B.inv YO;exact out _ _ hc rfl
 .rw[hro b (by rw[h];simp)];exact B.rook b f h
 .obtain⟨c,e,hc,hsz⟩:=B.wok i f hi h;obtain⟨f',hf'⟩:=X.fwW i hi;rw[hw i _ hi ((B.rest i hi).fw _ _ hf').1];exact⟨c,e,hc,hsz⟩
 .rcases hb with hb|hb|hb|⟨i,hi,hb⟩
  .exact hm b o hb ho
  .rw[fS]at hb;rw[hf b hb]at ho;exact B.oks b o (.inr (.inl hb)) ho
  .rw[hro b hb]at ho;exact B.oks b o (.inr (.inr (.inl hb))) ho
  .rw[hw i b hi hb]at ho;exact B.oks b o (.inr (.inr (.inr ⟨i,hi,hb⟩))) ho
theorem Between.inb(B:Between d u t A tp M Inb r)(h:∀i,jP (i+1)=Inb (i+1))(hc:d.ri jP):Between d u t A tp M jP r:=by
 refine⟨B.inv,λi hi=>?_,B.apart,B.foot,B.far,B.footg,B.m,B.rook,B.wok,B.oks,hc,λi hi=>?_,B.os⟩
 .have R:=B.rest i hi;refine⟨R.le,R.wait,R.size,R.own,R.ro,R.see,R.fw,R.wr,R.pub,λhl=>?_,λhl=>by rw[h];exact R.over hl,R.g⟩;rw[h];exact R.go hl
 .obtain⟨i,rfl⟩:∃x,i=x+1:=⟨i-1,ai⟩;rw[h];exact B.out _ hi
def Nm(d:bp)(M:Nat->Prop)(r:aj)(b:Nat):Prop:=M b\/(∃i,i<d.j/\b=d.W i)\/d.ro b≠ah\/r.heap.size<=b
def Nw(d:bp)(u:fX)(a r:aj)(b:Nat):Prop:=Mine d u a b\/u.Foot r b\/d.ro b≠ah\/r.heap.size<=b
omit[Payload]in
theorem or_some{g x:Option (Nat×Nat)}(h:f.or g=ae y):f=ae y\/(f=ah/\g=ae y):=by cases f<;>simp_all
theorem Between.tQ(B:Between d u t A tp M Inb r)(X:d.Fit)(hi:i<d.j):Mine d u (A i) (d.W i):=by obtain⟨f,hf⟩:=X.fwW i hi;exact((B.rest i hi).fw _ _ hf).1
theorem Between.aeC(B:Between d u t A tp M Inb r)(X:d.Fit)(hK:d.K r):d.Eye (Nm d M r) d.Fm r:=by
 obtain⟨⟨⟨st,sm,k1⟩,k2,k3⟩,⟨_,k4⟩,⟨_,k5⟩,k6,_⟩:=hK;have ro:∀(x:Nat) o,r.heap[x]? =ae o->(∀c e,o≠aK c e (0,0))->d.ro x=ah:=λx o hx hn=>by
  cases e:d.ro x with
  |none=>rfl
  |some f=>obtain⟨c,e',hc,_⟩:=B.rook x f e;rw[hx]at hc;exact aT (bj hc) (hn c e')
 have no:∀(x:Nat) o,r.heap[x]? =ae o->¬M x->(∀i,i<d.j->x≠d.W i)->d.ro x=ah->¬Nm d M r x:=by
  rintro x o hx h1 h2 h3 (h|⟨i,hi,h⟩|h|h)
  .exact h1 h
  .exact h2 i hi h
  .exact h h3
  .have:=aL hx;omega
 refine⟨no _ _ k1 (λh=>(B.m _ h).2.2.2.2.1 rfl) (λi hi e=>(B.far i _ hi (B.tQ X hi)).1 e.symm) X.rowg,no _ _ k4 (λh=>(B.m _ h).2.2.2.2.2.1 rfl) (λi hi e=>(B.far i _ hi (B.tQ X hi)).2.1 e.symm) (ro _ _ k4 aJ),
  no _ _ k5 (λh=>(B.m _ h).2.2.2.2.2.2.1 rfl) (λi hi e=>(B.far i _ hi (B.tQ X hi)).2.2.1 e.symm) (ro _ _ k5 aJ),λk hk=>?_,λi hi x hx=>?_,?_,λb f hf=>?_,λb hb=>⟨.inr (.inr (.inr hb)),?_⟩,λb o hb ho=>?_⟩
 .obtain⟨_,k7⟩:=k6 k hk;exact no _ _ k7 (λh=>(B.m _ h).2.2.2.2.2.2.2 k hk rfl) (λi hi e=>(B.far i _ hi (B.tQ X hi)).2.2.2 k hk e.symm) (ro _ _ k7 aJ)
 .rcases X.ffm i hi x hx with⟨f,hf,h1,h2⟩|hn
  .exact .inr ⟨f,by simp[bp.Fm,hf],h1,h2⟩
  .left;obtain⟨f,hf,_⟩:=X.fwf i hi x hx;have hm:=((B.rest i hi).fw _ _ hf).1;obtain⟨o,ho,_⟩:=B.there hi hm;exact no _ _ ho (λh=>(B.m _ h).2.1 i hi hm) hn hm.choose_spec.2.2.2.2
 .simp[bp.Fm,X.rom,X.ok.roC]
 .rcases or_some (x:=ah) hf with h|⟨_,h⟩
  .obtain⟨_,i,hi,rfl⟩:=X.fmW b f h;exact .inr (.inl ⟨i,hi,rfl⟩)
  .exact .inr (.inr (.inl (by rw[h];simp)))
 .cases e:d.Fm b with
  |none=>rfl
  |some f=>
   rcases or_some (x:=ah) e with h|⟨_,h⟩
   .obtain⟨_,i,hi,rfl⟩:=X.fmW b f h;obtain⟨o,ho,_⟩:=B.there hi (B.tQ X hi);have:=aL ho;omega
   .obtain⟨c,e',hc,_⟩:=B.rook b f h;have:=aL hc;omega
 .rcases hb with h|⟨i,hi,rfl⟩|h|h
  .exact B.oks b o (.inl h) ho
  .exact B.oks _ o (.inr (.inr (.inr ⟨i,hi,B.tQ X hi⟩))) ho
  .exact B.oks b o (.inr (.inr (.inl h))) ho
  .have:=aL ho;omega
theorem Between.aeD(B:Between d u t A tp M Inb r)(X:d.Fit)(U:u.Ok d)(hK:d.K r)(hk:k<d.j):d.Eye (Nw d u (A k) r) (d.Fw k) r:=by
 obtain⟨⟨⟨st,sm,k1⟩,k2,k3⟩,⟨_,k4⟩,⟨_,k5⟩,k6,_⟩:=hK;have ro:∀(x:Nat) o,r.heap[x]? =ae o->(∀c e,o≠aK c e (0,0))->d.ro x=ah:=λx o hx hn=>by
  cases e:d.ro x with
  |none=>rfl
  |some f=>obtain⟨c,e',hc,_⟩:=B.rook x f e;rw[hx]at hc;exact aT (bj hc) (hn c e')
 have foot:∀(x:Nat) o,r.heap[x]? =ae o->(∀c e,o≠aK c e (0,0))->¬u.Foot r x:=λx o hx hn h=>by obtain⟨⟨c,e',hc⟩,_⟩:=U.foot t r x B.inv h;rw[hx]at hc;exact aT (bj hc) (hn c e')
 have no:∀(x:Nat) o,r.heap[x]? =ae o->¬Mine d u (A k) x->¬u.Foot r x->d.ro x=ah->¬Nw d u (A k) r x:=by
  rintro x o hx h1 h2 h3 (h|h|h|h)
  .exact h1 h
  .exact h2 h
  .exact h h3
  .have:=aL hx;omega
 have far:=λb=>B.far k b hk;refine⟨no _ _ k1 (λh=>(far _ h).1 rfl) (λh=>B.footg _ h rfl) X.rowg,no _ _ k4 (λh=>(far _ h).2.1 rfl) (foot _ _ k4 aJ) (ro _ _ k4 aJ),no _ _ k5 (λh=>(far _ h).2.2.1 rfl) (foot _ _ k5 aJ) (ro _ _ k5 aJ),λi hi=>?_,λi hi x hx=>?_,?_,λb f hf=>?_,λb hb=>⟨.inr (.inr (.inr hb)),?_⟩,λb o hb ho=>?_⟩
 .obtain⟨_,k7⟩:=k6 i hi;exact no _ _ k7 (λh=>(far _ h).2.2.2 i hi rfl) (foot _ _ k7 aJ) (ro _ _ k7 aJ)
 .obtain⟨f,hf,h1,h2⟩:=X.fwf i hi x hx;by_cases e:i=k
  .subst e;exact .inr ⟨f,by simp[bp.Fw,hf],h1,h2⟩
  .left;have hm:=((B.rest i hi).fw _ _ hf).1;obtain⟨o,ho,_⟩:=B.there hi hm;exact no _ _ ho (λh=>e (B.apart i k _ hi hk hm h)) (B.foot i _ hi hm) hm.choose_spec.2.2.2.2
 .simp[bp.Fw,X.roC,X.ok.roC]
 .rcases or_some (x:=ah) hf with h|⟨_,h⟩
  .exact .inl ((B.rest k hk).fw _ _ h).1
  .exact .inr (.inr (.inl (by rw[h];simp)))
 .cases e:d.Fw k b with
  |none=>rfl
  |some f=>
   rcases or_some (x:=ah) e with h|⟨_,h⟩
   .obtain⟨o,ho,_⟩:=B.there hk ((B.rest k hk).fw _ _ h).1;have:=aL ho;omega
   .obtain⟨c,e',hc,_⟩:=B.rook b f h;have:=aL hc;omega
 .rcases hb with h|h|h|h
  .exact B.oks b o (.inr (.inr (.inr ⟨k,hk,h⟩))) ho
  .exact B.oks b o (.inr (.inl h)) ho
  .exact B.oks b o (.inr (.inr (.inl h))) ho
  .have:=aL ho;omega
theorem Between.fzM(B:Between d u t A tp M Inb r):(∀b f,d.fm b=ae f->∃i,i<d.j/\b=d.W i)->Aw d.Fm r:=λh b f hf=>by
 rcases or_some (x:=ah) hf with h1|⟨_,h1⟩
 .obtain⟨i,hi,rfl⟩:=h b f h1;obtain⟨c,e,hc,_⟩:=B.wok i f hi h1;exact⟨c,e,hc⟩
 .obtain⟨c,e,hc,_⟩:=B.rook b f h1;exact⟨c,e,hc⟩
theorem Between.fzW(B:Between d u t A tp M Inb r)(hk:k<d.j):Aw (d.Fw k) r:=λb f hf=>by
 rcases or_some (x:=ah) hf with h1|⟨_,h1⟩
 .exact((B.rest k hk).fw _ _ h1).2
 .obtain⟨c,e,hc,_⟩:=B.rook b f h1;exact⟨c,e,hc⟩
end
structure tR(d:bp)(M:Nat->Prop)(a r:aj):Prop where
 size:a.heap.size<=r.heap.size
 own:∀b,M b->a.heap[b]? =r.heap[b]?
 ro:∀b,d.ro b≠ah->a.heap[b]? =(r.heap[b]?).map (fV (d.Fm b))
 see:∀(b:Nat) o,a.heap[b]? =ae o->di o=aw->r.heap[b]? =ae o
section
variable{d:bp}{u:fX}{tp:Nat->Nat}{a r:aj}
omit[Payload]in
theorem gz(S:Sees N F a r){o:Obj}(h:a.heap[b]? =ae o)(hp:o≠eh):∃y,r.heap[b]? =ae y/\o=fV (F b) y/\(di o=au->N b):=by
 rw[S.get,fp]at h;cases e:r.heap[b]? with
 |none=>rw[e]at h;cases h
 |some y=>
  rw[e]at h;simp only[nC,dD]at h;split at h
  .rename_i hn;refine⟨y,rfl,h.symm,λhx=>hn.resolve_right λhy=>?_⟩;rw[←h,qh,hy]at hx;cases hx
  .exact aT h.symm hp
omit[Payload]in
theorem qm{o:Obj}(h:di o=aw):fV f o=o:=by cases o<;>first|(cases f<;>rfl)|cases h
omit[Payload]in
theorem sees_num(S:Sees N F a r){o:Obj}(h:a.heap[b]? =ae o)(hn:di o=aw):r.heap[b]? =ae o:=by
 obtain⟨y,hy,h1,_⟩:=gz S h (λe=>by rw[e]at hn;cases hn);rw[hy];have:di y=aw:=by rw[←qh (f:=F b),←h1];exact hn
 rw[h1,qm this]
omit[Payload]in
theorem vZ{o:Obj}(h:r.heap[b]? =ae o)(hn:di o=au)(h2:¬N b):Hid N r b:=⟨o,h,hn,h2⟩
omit[Payload]in
theorem xE(X:d.Fit){f:Nat×Nat}(B:∃c e,r.heap[b]? =ae (aK c e (0,0))/\c.size<=f.2)(h:F b=ae f)(h0:f.1=0):Whole F r b:=by obtain⟨c,e,hc,hs⟩:=B;exact⟨f,c,e,h,h0,hc,hs⟩
omit[Payload]in
theorem cell_chill(h:a.heap[x.block]? =(r.heap[x.block]?).map (fV f)):r.cell? x=a.cell? x:=by
 simp only[fG,h];cases e:r.heap[x.block]? with
 |none=>rfl
 |some o=>
  have:fV f o=o\/∃c e g,o=aK c e (0,0)/\fV f o=aK c e g:=by
   unfold fV;split
   .exact .inr ⟨_,_,_,rfl,rfl⟩
   .exact .inl rfl
  rcases this with h|⟨c,e,g,rfl,h⟩
  .simp only[nC,h]
  .simp only[nC,h]
theorem Between.main(B:Between d u t A tp M Inb r)(X:d.Fit)(U:u.Ok d)(hK:d.K r)(L:DI d.cc (Nm d M r) d.Fm r a r')(R:Rel (Hid (Nm d M r) r) a r'):Between d u t A tp (jB d a) Inb r'/\tR d (jB d a) a r':=by
 have hro:∀b,d.ro b≠ah->r'.heap[b]? =r.heap[b]? :=λb hb=>by
  obtain⟨f,hf⟩:=nE.1 hb;have S4:d.fm b=ah:=by
   cases e:d.fm b with
   |none=>rfl
   |some g=>obtain⟨_,i,hi,rfl⟩:=X.fmW b g e;rw[X.roW i hi]at hf;cases hf
  exact whole_same (xE X (B.rook b f hf) (by simp[bp.Fm,S4,hf]) (X.ro0 b f hf)) (eG r) L.shp λx hx=>L.cells x hx
 have hWi:∀i,i<d.j->r'.heap[d.W i]? =r.heap[d.W i]? :=λi hi=>by obtain⟨f,hf⟩:=X.Wfm i hi;exact whole_same (xE X (B.wok i f hi hf) (by simp[bp.Fm,hf]) (X.fmW _ f hf).1) (eG r) L.shp λx hx=>L.cells x hx
 have hw:∀i b,i<d.j->Mine d u (A i) b->r'.heap[b]? =r.heap[b]? :=λi b hi hb=>by
  by_cases hbW:∃i',i'<d.j/\b=d.W i'
  .obtain⟨i',hi',rfl⟩:=hbW;exact hWi i' hi'
  .obtain⟨o,ho,hn⟩:=B.there hi hb;refine L.still b (vZ ho hn ?_) (B.far i b hi hb).1;rintro(h|h|h|h)
   .exact(B.m b h).2.1 i hi hb
   .exact hbW h
   .exact h hb.choose_spec.2.2.2.2
   .have:=aL ho;omega
 have hf:∀b,u.Foot r b->r'.heap[b]? =r.heap[b]? :=λb hb=>by
  obtain⟨⟨c,e,hc⟩,hr⟩:=U.foot t r b B.inv hb;refine L.still b (vZ hc rfl ?_) (B.footg b hb);rintro(h|⟨i,hi,rfl⟩|h|h)
  .exact(B.m b h).2.2.1 hb
  .exact B.foot i _ hi (B.tQ X hi) hb
  .exact h hr
  .have:=aL hc;omega
 have hback:∀b,jB d a b->r'.heap[b]? =a.heap[b]? :=λb ⟨o,h1,h2,h3,h4,h5⟩=>by
  obtain⟨y,hy,h6,_⟩:=gz L.sees h1 h2;have:d.Fm b=ah:=by
   cases e:d.Fm b with
   |none=>rfl
   |some f=>
    rcases or_some (x:=ah) e with h|⟨_,h⟩
    .obtain⟨_,i,hi,rfl⟩:=X.fmW b f h;exact aT rfl (h4 i hi)
    .rw[h5]at h;cases h
  rw[this]at h6;rw[h1,hy,h6];cases y<;>rfl
 refine⟨B.keep X U hK L.grow hw hro hf (λb ⟨o,h1,h2,h3,h4,h5⟩=>?_) (λb o hb ho=>?_) (λb x l h=>L.shp.2 _ _ _ h) L.same,L.sees.size▸bJ _,λb hb=>(hback b hb).symm,λb hb=>?_,λb o h1 h2=>sees_num L.sees h1 h2⟩
 .obtain⟨y,hy,_,hN⟩:=gz L.sees h1 h2;rcases hN h3 with h|⟨i,hi,h⟩|h|h
  .exact .inl h
  .exact aT h (h4 i hi)
  .exact aT h5 h
  .exact .inr ⟨h,aL hy,h5⟩
 .rw[hback b hb]at ho;obtain⟨o',h1,h2,h3,_⟩:=hb;rw[h1]at ho;obtain rfl:=bj ho;refine R.objs b (λhh=>?_) o' h1;have:=(R.hid b hh).1;rw[h1]at this;exact h2 (bj this)
 .rw[L.sees.need (.inr (.inr (.inl hb)))]
theorem Between.acf(B:Between d u t A tp M Inb r)(X:d.Fit)(hk:k<d.j)(L:DI d.cc (Nw d u (A k) r) (d.Fw k) r a r'):∀b,d.ro b≠ah->r'.heap[b]? =r.heap[b]? :=λb hb=>by
 obtain⟨f,hf⟩:=nE.1 hb;have hfw:d.fw k b=ah:=by
  cases e:d.fw k b with
  |none=>rfl
  |some g=>have:=((B.rest k hk).fw _ _ e).1;rw[this.choose_spec.2.2.2.2]at hf;cases hf
 exact whole_same (xE X (B.rook b f hf) (by simp[bp.Fw,hfw,hf]) (X.ro0 b f hf)) (eG r) L.shp λx hx=>L.cells x hx
theorem Between.Js(B:Between d u t A tp M Inb r)(U:u.Ok d)(hk:k<d.j):∀b,u.Foot r b->(iH (Nw d u (A k) r) (d.Fw k) r).heap[b]? =r.heap[b]? :=λb hb=>by
 have h0:d.Fw k b=ah:=by
  cases e:d.Fw k b with
  |none=>rfl
  |some f=>
   rcases or_some (x:=ah) e with h|⟨_,h⟩
   .exact aT hb (B.foot k b hk ((B.rest k hk).fw b f h).1)
   .rw[(U.foot t r b B.inv hb).2]at h;cases h
 rw[hide_need (.inr (.inl hb)),h0];cases r.heap[b]? with
 |none=>rfl
 |some o=>cases o<;>rfl
theorem Between.work(B:Between d u t A tp M Inb r)(X:d.Fit)(U:u.Ok d)(hK:d.K r)(hk:k<d.j)(L:DI d.cc (Nw d u (A k) r) (d.Fw k) r a r')(R:Rel (Hid (Nw d u (A k) r) r) a r')(hs:u.sched (t+1)=k)(AL:Ge d u k ⟨t+1,iH (Nw d u (A k) r) (d.Fw k) r⟩ a)
  (hInb:∀i,i≠k->jP (i+1)=Inb (i+1))(hc:d.ri jP)
  (hgo:u.live k (t+1)->∃z1 z2 cz dC,jP (k+1)=ae (d.seat k z1 z2 (cy cz (dC++d.cw k)))/\(∃n',∀w,d.K0 w->d.cc.DL k n' (mq (cy cz (dC++d.cw k)) (commResult #[dh (d.turn k) z1,dh d.gone z2] .select 1 z2 aw)) w)/\
   ∀t' a',t+1<t'->u.next k (t+1) t'->tP u a (t'-1) a'->ZigC d.P aw (d.cw k) (JW d u k) (λ_ _ _ _=>False) ⟨t',a'⟩ (cz.finish (d.told k z1 z2 t')) dC a') (aeE:¬u.live k (t+1)->jP (k+1)=ah):
  Between d u (t+1) (λi=>if i=k then a else A i) (λi=>if i=k then t+1 else tp i) M jP r'/\∀a0,tR d M a0 r->tR d M a0 r':=by
 have E:=B.aeD X U hK hk;have hro:=B.acf X hk L;have kI:∀b,Mine d u a b->Nw d u (A k) r b:=λb ⟨o,h1,h2,h3,_,_⟩=>by obtain⟨y,hy,_,hN⟩:=gz L.sees h1 h2;exact hN h3
 have Gf:∀b,u.Foot a b->Nw d u (A k) r b:=λb hb=>by obtain⟨⟨c,e,h1⟩,h2⟩:=U.foot _ a b AL.inv hb;obtain⟨y,hy,_,hN⟩:=gz L.sees h1 (by simp[eh]);exact hN rfl
 have Ca:∀b,u.Foot a b->r'.heap[b]? =a.heap[b]? :=λb hb=>by
  obtain⟨⟨c,e,h1⟩,h2⟩:=U.foot _ a b AL.inv hb;have:d.Fw k b=ah:=by
   cases e:d.Fw k b with
   |none=>rfl
   |some f=>
    rcases or_some (x:=ah) e with h|⟨_,h⟩
    .exact aT hb (AL.fwm b f h).1.choose_spec.2.2.2.1
    .rw[h2]at h;cases h
  rw[L.sees.need (Gf b hb),this];cases r'.heap[b]? with
  |none=>rfl
  |some o=>cases o<;>rfl
 obtain⟨hinv,fS⟩:=U.inv (t+1) a r' AL.inv Ca;have DN:u.G a r':=U.gsame (t+1) _ _ AL.inv Ca;have TT:u.G r r':=U.gtrans _ _ _ (U.gtrans _ _ _ (U.gsame t _ _ B.inv (B.Js U hk)) AL.g) DN;have Gg:∀i b,i<d.j->i≠k->Mine d u (A i) b->¬Nw d u (A k) r b:=by
  rintro i b hi hik hb (h|h|h|h)
  .exact hik (B.apart i k b hi hk hb h)
  .exact B.foot i b hi hb h
  .exact h hb.choose_spec.2.2.2.2
  .obtain⟨o,ho,_⟩:=B.there hi hb;have:=aL ho;omega
 have hmN:∀b,M b->¬Nw d u (A k) r b:=by
  rintro b hb (h|h|h|h)
  .exact(B.m b hb).2.1 k hk h
  .exact(B.m b hb).2.2.1 h
  .exact h (B.m b hb).2.2.2.1
  .have:=(B.m b hb).1;omega
 have hw:∀i b,i<d.j->i≠k->Mine d u (A i) b->r'.heap[b]? =r.heap[b]? :=λi b hi hik hb=>by obtain⟨o,ho,hn⟩:=B.there hi hb;exact L.still b (vZ ho hn (Gg i b hi hik hb)) (B.far i b hi hb).1
 have hsome:∀i,i≠k->(if i=k then a else A i)=A i:=λi h=>aU h;have yK:(if k=k then a else A k)=a:=aX rfl;have Ua:∀b o,M b->r.heap[b]? =ae o->di o=au->r'.heap[b]? =ae o:=λb o hb ho hn=>by rw[L.still b (vZ ho hn (hmN b hb)) (B.m b hb).2.2.2.2.1];exact ho
 refine⟨⟨hinv,λi hi=>?_,λi i' b hi hi' h h'=>?_,λi b hi h=>?_,λi b hi h=>?_,λb hb=>?_,λb hb=>?_,λb f h=>?_,λi f hi h=>?_,λb o hb ho=>?_,hc,λi hi=>?_,B.os.same L.same⟩,λa0 MR=>⟨dm MR.size L.grow,λb hb=>?_,λb hb=>by rw[hro b hb];exact MR.ro b hb,λb o h1 h2=>?_⟩⟩
 .by_cases e:i=k
  .subst e;simp only[if_true];obtain⟨hwr,pQ⟩:=U.wr i (t+1) a r' AL.wr λx hx=>cell_chill (L.sees.need (kI _ (AL.pub _ hx)));refine⟨bJ _,λs h1 h2=>ai,L.sees.size▸bJ _,λb hb=>L.sees.need (kI b hb),λb hb=>L.sees.need (.inr (.inr (.inl hb))),λb o h1 _ h3=>sees_num L.sees h1 h3,λb f h=>⟨(AL.fwm b f h).1,L.fz b f (by simp[bp.Fw,h])⟩,hwr,λb hb=>AL.pub b ((pQ b).1 hb),hgo,aeE,DN⟩
  .simp only[aU e];have Ri:=B.rest i hi;obtain⟨id1,id2⟩:=U.idle i t (t+1) r ai λs h1 h2=>(by have:s=t+1:=ai;rw[this,hs];exact λh=>e h.symm);obtain⟨hwr,pQ⟩:=U.wr i (t+1) r r' (id1 Ri.wr) λx hx=>(by obtain⟨_,h2⟩:=U.wr i t r r Ri.wr λ_ _=>rfl;simp only[fG,hw i _ hi e (Ri.pub _ hx)]);refine⟨by have:=Ri.le;omega,λs h1 h2=>?_,dm Ri.size L.grow,λb hb=>by rw[hw i b hi e hb];exact Ri.own b hb,λb hb=>by rw[hro b hb];exact Ri.ro b hb,λb o h1 h2 h3=>?_,λb f h=>?_,hwr,λb hb=>Ri.pub b ((pQ b).1 hb),λhl=>?_,λhl=>?_,U.gtrans _ _ _ Ri.g TT⟩
   .by_cases es:s=t+1
    .rw[es,hs];exact λh=>e h.symm
    .exact Ri.wait s h1 ai
   .have:=Ri.see b o h1 h2 h3;cases o<;>first|exact L.shp.2 _ _ _ this|cases h3
   .obtain⟨h3,h4⟩:=Ri.fw b f h;exact⟨h3,by rw[hw i b hi e h3];exact h4⟩
   .rw[hInb i e];exact Ri.go (id2.1 hl)
   .rw[hInb i e];exact Ri.over λh=>hl (id2.2 h)
 .by_cases e:i=k<;>by_cases e':i'=k
  .rw[e,e']
  .subst e;rw[yK]at h;rw[hsome i' e']at h';exact aT (kI b h) (Gg i' b hi' e' h')
  .subst e';rw[yK]at h';rw[hsome i e]at h;exact aT (kI b h') (Gg i b hi e h)
  .rw[hsome i e]at h;rw[hsome i' e']at h';exact B.apart i i' b hi hi' h h'
 .rw[fS];by_cases e:i=k
  .subst e;rw[yK]at h;exact h.choose_spec.2.2.2.1
  .rw[hsome i e]at h;exact λhf=>Gg i b hi e h (Gf b hf)
 .by_cases e:i=k
  .subst e;rw[yK]at h;have:=kI b h;exact⟨λe=>E.wg (e▸this),λe=>E.come (e▸this),λe=>E.gone (e▸this),λk' qK e=>E.turn k' qK (e▸this)⟩
  .rw[hsome i e]at h;exact B.far i b hi h
 .exact λe=>E.wg (e▸Gf b ((fS b).1 hb))
 .obtain⟨h1,h2,h3,h4⟩:=B.m b hb;refine⟨iR h1 L.grow,λi hi YN=>?_,λhf=>hmN b hb (Gf b ((fS b).1 hf)),h4⟩;by_cases e:i=k
  .subst e;rw[yK]at YN;exact hmN b hb (kI b YN)
  .rw[hsome i e]at YN;exact h2 i hi YN
 .rw[hro b (by rw[h];simp)];exact B.rook b f h
 .obtain⟨c,e,hc,hsz⟩:=B.wok i f hi h;obtain⟨c',h1,h2⟩:=L.shp.1 _ _ _ _ hc;exact⟨c',e,h2,by rw[h1];exact hsz⟩
 .rcases hb with hb|hb|hb|⟨i,hi,hb⟩
  .obtain⟨y,hy⟩:∃y,r.heap[b]? =ae y:=⟨_,fP (B.m b hb).1⟩;by_cases hn:di y=au
   .rw[Ua b y hb hy hn]at ho;obtain rfl:=bj ho;exact B.oks b y (.inl hb) hy
   .cases y<;>first|exact aT rfl hn|skip
    rw[L.shp.2 _ _ _ hy]at ho;obtain rfl:=bj ho;rfl
  .obtain⟨⟨c,e,h1⟩,_⟩:=U.foot _ r' b hinv hb;rw[h1]at ho;obtain rfl:=bj ho;rfl
  .rw[hro b hb]at ho;exact B.oks b o (.inr (.inr (.inl hb))) ho
  .by_cases e:i=k
   .subst e;rw[yK]at hb;have h1:=L.sees.need (kI b hb);rw[ho]at h1;obtain⟨o',h2,h3,_⟩:=hb;have:=R.objs b (λhh=>by have:=(R.hid b hh).1;rw[h2]at this;exact h3 (bj this)) _ h1;rwa [qg]at this
   .rw[hsome i e]at hb;rw[hw i b hi e hb]at ho;exact B.oks b o (.inr (.inr (.inr ⟨i,hi,hb⟩))) ho
 .obtain⟨x,rfl⟩:∃x,i=x+1:=⟨i-1,ai⟩;rw[hInb x ai];exact B.out _ hi
 .rw[MR.own b hb];obtain⟨y,hy⟩:∃y,r.heap[b]? =ae y:=⟨_,fP (B.m b hb).1⟩;by_cases hn:di y=au
  .rw[hy,Ua b y hb hy hn]
  .cases y<;>first|exact aT rfl hn|(rw[hy,L.shp.2 _ _ _ hy])
 .have:=MR.see b o h1 h2;cases o<;>first|exact L.shp.2 _ _ _ this|cases h2
end
section
variable{d:bp}{u:fX}{tp:Nat->Nat}{a r:aj}
theorem Between.chan(B:Between d u t A tp M Inb r)(X:d.Fit)(U:u.Ok d)(hK:d.K r){x:Nat}(hr:RH d.cc r w₁)(hx:w₁.heap[x]? =ae (.chan 0 #[] aw k k aw))(hxW:x≠d.Wg)(hxc:x=d.come\/x=d.gone\/∃k,k<d.j/\x=d.turn k):
  Between d u t A tp M Inb (w₁.setChan x 0 #[] aw (k+1) (k+1) aw)/\∀a0,tR d M a0 r->tR d M a0 (w₁.setChan x 0 #[] aw (k+1) (k+1) aw):=by
 have vY:r.heap[x]? =ae (.chan 0 #[] aw k k aw):=by rw[←hr.block x hxW];exact hx
 have same:∀b,b≠d.Wg->b≠x->(w₁.setChan x 0 #[] aw (k+1) (k+1) aw).heap[b]? =r.heap[b]? :=λb h1 h2=>by rw[jQ hx,aU h2];exact hr.block b h1
 have hM:∀b,M b->b≠d.Wg/\b≠x:=λb hb=>by
  obtain⟨_,_,_,_,h1,h2,h3,h4⟩:=B.m b hb;refine⟨h1,?_⟩;rcases hxc with rfl|rfl|⟨k',qK,rfl⟩
  .exact h2
  .exact h3
  .exact h4 k' qK
 have hro:∀b,d.ro b≠ah->(w₁.setChan x 0 #[] aw (k+1) (k+1) aw).heap[b]? =r.heap[b]? :=λb hb=>by obtain⟨f,hf⟩:=nE.1 hb;obtain⟨c,e,hc,_⟩:=B.rook b f hf;exact same b (λe=>by rw[e,X.rowg]at hf;cases hf) (λe=>by rw[e,vY]at hc;cases hc)
 have Zz:∀(b:Nat) y l,r.heap[b]? =ae (.number y l)->(w₁.setChan x 0 #[] aw (k+1) (k+1) aw).heap[b]? =ae (.number y l):=λb y l hb=>by obtain⟨⟨⟨st,sm,k1⟩,_⟩,_⟩:=hK;rw[same b (λe=>by rw[e]at hb;exact aT (hb.symm.trans k1) (by simp[qi])) (λe=>by rw[e,vY]at hb;cases hb)];exact hb
 have hsz:r.heap.size<=(w₁.setChan x 0 #[] aw (k+1) (k+1) aw).heap.size:=by
  have:(w₁.setChan x 0 #[] aw (k+1) (k+1) aw).heap.size=w₁.heap.size:=by simp[World.setChan]
  rw[this,hr.size];exact bJ _
 refine⟨B.keep X U hK hsz (λi b hi hb=>?_) hro (λb hb=>?_) (λb hb=>.inl hb) (λb o hb ho=>?_) Zz ⟨hr.os,hr.output⟩,λa0 MR=>⟨dm MR.size hsz,λb hb=>?_,λb hb=>by rw[hro b hb];exact MR.ro b hb,λb o h1 h2=>?_⟩⟩
 .obtain⟨h1,h2,h3,h4⟩:=B.far i b hi hb;refine same b h1 ?_;rcases hxc with rfl|rfl|⟨k',qK,rfl⟩
  .exact h2
  .exact h3
  .exact h4 k' qK
 .obtain⟨⟨c,e,hc⟩,_⟩:=U.foot t r b B.inv hb;exact same b (B.footg b hb) (λe=>by rw[e,vY]at hc;cases hc)
 .rw[same b (hM b hb).1 (hM b hb).2]at ho;exact B.oks b o (.inl hb) ho
 .rw[same b (hM b hb).1 (hM b hb).2];exact MR.own b hb
 .have:=MR.see b o h1 h2;cases o<;>first|exact Zz _ _ _ this|cases h2
omit[Payload]in
theorem Sees.norm(S:Sees N F a r)(hp:∀(b:Nat) o,N b->r.heap[b]? =ae o->gI o=au)(h:∀(b:Nat) o,a.heap[b]? =ae o->di o=au->(o≠eh↔N' b)):Sees N' F a r:=by
 refine⟨S.size,S.os,S.output,λb=>?_⟩;have hb:=S.get b;rw[hb];rw[fp]at hb;rw[fp,fp];cases e:r.heap[b]? with
 |none=>rfl
 |some o=>
  rw[e]at hb;simp only[nC]at hb⊢;by_cases hn:di o=aw
  .simp[hn]
  .have qJ:di o=au:=(by simpa using hn);by_cases hN:N b
   .simp only[hN,true_or,if_true]at hb⊢;have hne:fV (F b) o≠eh:=λe'=>(by have:=hp b o hN e;rw[←qg (f:=F b),e']at this;cases this);have:=(h b _ hb (by rw[qh];exact qJ)).1 hne;simp[this]
   .simp only[hN,false_or,hn,if_false]at hb⊢;have:¬N' b:=λhN'=>(h b _ hb rfl).2 hN' rfl;simp[this,qJ]
omit[Payload]in
theorem ZA{g:aY}(h:d.gone≠d.turn i):(d.seat i z1 z2 g).Wf:=by
 refine⟨λcc hc=>?_,λk m c z z' h1 h2=>?_⟩
 .simp only[bp.seat,List.mem_toArray,fU,rP,or_false]at hc;rcases hc with rfl|rfl<;>exact⟨_,_,rfl⟩
 .rcases k with _|_|k<;>rcases m with _|_|m<;>simp_all [bp.seat,dh]
omit[Payload]in
theorem oO{g:aY}(h:(d.seat i z1 z2 g).has b):b=d.turn i\/b=d.gone:=by obtain⟨k,z,h⟩:=h;rcases k with _|_|k<;>simp_all [bp.seat,dh]
end
section
variable{d:bp}{u:fX}{tp:Nat->Nat}{a r:aj}
theorem CF.K{j:Nat}{tag:CTag}{fe:Nat->Bool}{w:aj}(F:CF c h j d0 Inb tag D fe q T gs w):c.K w:=F.keep
theorem Between.seats(B:Between d u t A tp M Inb r)(i:Nat)(s:Seat)(hs:Inb (i+1)=ae s):∃(z1 z2:ay) (g:aY),i<d.j/\s=d.seat i z1 z2 g:=by
 have hi:i<d.j:=by apply eV;intro hn;rw[B.out (i+1) ai]at hs;cases hs
 by_cases hl:u.live i t
 .obtain⟨z1,z2,f2,s2,h1,_⟩:=(B.rest i hi).go hl;rw[hs]at h1;exact⟨z1,z2,_,hi,bj h1⟩
 .rw[(B.rest i hi).over hl]at hs;cases hs
theorem Between.resume(B2:Between d u t A tp M Inb r)(U:u.Ok d)(hk:k<d.j):tP u (A k) t (iH (Nw d u (A k) r) (d.Fw k) r):=by
 have Rk:=B2.rest k hk;have agN:∀b,u.Foot r b->d.Fw k b=ah:=λb hb=>by
  cases e:d.Fw k b with
  |none=>rfl
  |some f=>
   rcases or_some (x:=ah) e with h|⟨_,h⟩
   .exact aT hb (B2.foot k b hk (Rk.fw b f h).1)
   .rw[(U.foot t r b B2.inv hb).2]at h;cases h
 obtain⟨Ub,Cb⟩:=U.inv t r (iH (Nw d u (A k) r) (d.Fw k) r) B2.inv λb hb=>by
  rw[hide_need (.inr (.inl hb)),agN b hb];cases r.heap[b]? with
  |none=>rfl
  |some o=>cases o<;>rfl
 refine⟨by rw[(fE _ _ _).size];exact Rk.size,λb o h1 h2 h3=>?_,Ub,U.gtrans _ _ _ Rk.g (U.gsame t _ _ B2.inv (B2.Js U hk))⟩;have YO:∀c,(iH (Nw d u (A k) r) (d.Fw k) r).heap[b]? =ae c->(u.Foot r b->False)->(iH (Nw d u (A k) r) (d.Fw k) r).heap[b]? =ae c/\¬u.Foot (iH (Nw d u (A k) r) (d.Fw k) r) b:=λc h h'=>⟨h,λh2=>h' ((Cb b).1 h2)⟩;by_cases hn:di o=au
 .by_cases hr:d.ro b=ah
  .have hm:Mine d u (A k) b:=⟨o,h1,h2,hn,h3,hr⟩;refine YO o ?_ (B2.foot k b hk hm);rw[hide_need (.inl hm),←Rk.own b hm];exact h1
  .refine YO o ?_ λhf=>hr (U.foot t r b B2.inv hf).2;rw[hide_need (.inr (.inr (.inl hr))),←Rk.ro b hr];exact h1
 .have qJ:di o=aw:=by simpa using hn
  have h4:=Rk.see b o h1 h2 qJ;refine YO o ?_ λhf=>?_
  .rw[fp,h4];simp[qJ,qm qJ]
  .obtain⟨⟨c,e,hc⟩,_⟩:=U.foot t r b B2.inv hf;rw[h4]at hc;obtain rfl:=bj hc;cases qJ
theorem line(X:d.Fit)(U:u.Ok d)(hk:k<d.j)(yL:u.sched (t+1)=k){wfr:aB}{r2:aj}
  (hI10:yM 0=ae (Seat.one d.come (aq af 0) aw λx=>x=cy cz (ny++d.cs0)))(B2:Between d u t A tp M yM r2)(MR2:tR d M a1 r2)(hg2:Uc[k+1]? =ae (cy wfr (wfs++d.cw k)))
  (hzw:ZigC d.P aw (d.cw k) (JW d u k) (λ_ _ _ _=>False) ⟨t+1,iH (Nw d u (A k) r2) (d.Fw k) r2⟩ wfr wfs (iH (Nw d u (A k) r2) (d.Fw k) r2))(F2:CF d.cc (k+1) d.j 0 yM .kd D2 aeF q2 T2 Uc r2):
  ∃n m' T',runNT d.P n (bS Uc r2 xd) T2=(.next m',T')/\∃S5 r4 S6 D4 Gh q4 A' tp' tS v',m'=bS S5 r4 S6/\S5[0]? =ae (cy (cz.finish v') (ny++d.cs0))/\CF d.cc 0 d.j 0 tS .kd D4 Gh q4 T' S5 r4/\Between d u (t+1) A' tp' M tS r4/\tR d M a1 r4:=by
 have O:=X.ok;have OK:=nS O;have hK2:d.K r2:=F2.K;have ZB:=B2.chairs;have acg:∀i s,i≠k->yM (i+1)=ae s->∃(z1 z2:ay) (g:aY),i<d.j/\s=d.seat i z1 z2 g:=λi s _ hs=>B2.seats i s hs;have agO:∀(b:Nat) o,Nw d u (A k) r2 b->r2.heap[b]? =ae o->gI o=au:=λb o hb ho=>by
  rcases hb with h|h|h|h
  .exact B2.oks _ o (.inr (.inr (.inr ⟨k,hk,h⟩))) ho
  .exact B2.oks b o (.inr (.inl h)) ho
  .exact B2.oks b o (.inr (.inr (.inl h))) ho
  .have:=aL ho;omega
 obtain⟨n3,m3,T3,Ud,gs3,r3,ZC,th,uT,a3,D3,ach,q3,rfl,hg3,aci,L3,R3,F3⟩:=ace (sl:=xd) aJ OK aJ (yJ O (B2.aeD X U hK2 hk) B2.chairs hK2) hzw (fE _ _ _) (B2.fzW hk) agO hg2 F2;have hK3:d.K r3:=F3.K;rcases aci with h|⟨K3,⟨AL,hJ3⟩,hC3⟩
 .exact h.elim
 obtain⟨tS,H',nh,v',sO,aiL,agP,DN,acj,G3,A3⟩:∃(tS:Nat->Option Seat) (H':aY) (nh:Nat) (v':ay),(∀i,i≠k+1->tS i=yM i)/\(∀s,tS (k+1)=ae s->∃z1 z2 g,s=d.seat k z1 z2 g)/\d.ri tS/\
   (u.live k (t+1)->∃z1 z2 cz dC,tS (k+1)=ae (d.seat k z1 z2 (cy cz (dC++d.cw k)))/\(∃n',∀w,d.K0 w->d.cc.DL k n' (mq (cy cz (dC++d.cw k)) (commResult #[dh (d.turn k) z1,dh d.gone z2] .select 1 z2 aw)) w)/\
    ∀t' a',t+1<t'->u.next k (t+1) t'->tP u a3 (t'-1) a'->ZigC d.P aw (d.cw k) (JW d u k) (λ_ _ _ _=>False) ⟨t',a'⟩ (cz.finish (d.told k z1 z2 t')) dC a')/\(¬u.live k (t+1)->tS (k+1)=ah)/\(∀r,tN d.cc (k+1) d.come v' (cy th (uT++d.cw k)) r H')/\After d.cc (k+1) yM tS H' nh:=by
  have ack:∀(s':Seat),(∃z1 z2 g,s'=d.seat k z1 z2 g)->∀i s b,i≠k+1->yM i=ae s->s.has b->s'.has b->b=d.gone:=by
   rintro _ ⟨z1,z2,g,rfl⟩ i s b hi hs hb hb';rcases oO hb' with e|e
   .rcases i with _|i
    .rw[hI10]at hs;obtain rfl:=bj hs;exact aT ((Seat.one_has.1 hb).symm.trans e) (O.ct k hk)
    .obtain⟨_,_,_,sD,rfl⟩:=acg i s ai hs;rcases oO hb with e'|e'
     .exact aT (O.tt i k sD hk (e'.symm.trans e)) ai
     .exact e'
   .exact e
  rcases hJ3 with⟨hl,y1,y2,f2,s2,⟨⟨H',nh,v',G,sit⟩,⟨n',flee⟩⟩,rfl⟩|⟨hl,⟨H',nh,v',G,hu⟩,rfl⟩
  .refine⟨λx=>if x=k+1 then ae (d.seat k y1 y2 (cy f2 (s2++d.cw k)))else yM x,H',nh,v',λi hi=>aU hi,λs hs=>⟨y1,y2,_,by simp only[if_true,dD]at hs;exact hs.symm⟩,λi s b hs hb=>?_,λ_=>⟨y1,y2,f2,s2,aX rfl,⟨n',flee⟩,λt' a' h1 h2 h3=>hC3 ⟨t',a'⟩ _ _ a' ⟨h1,h2,rfl,rfl,h3,rfl⟩⟩,λh=>aT hl h,G,?_⟩
   .by_cases e:i=k+1
    .simp only[aX e]at hs;obtain rfl:=bj hs;rcases oO hb with h|h
     .exact .inr (.inr ⟨k,hk,h⟩)
     .exact .inr (.inl h)
    .simp only[aU e]at hs;exact ZB i s b hs hb
   .refine⟨λs hs=>?_,λs b w hw hs hb=>?_,λi s s' b hi hs hs' hb hb'=>?_,λh=>ai,λx _ h=>by simp at h,λi hi=>aU hi⟩
    .simp only[if_true,dD]at hs;subst hs;exact⟨sit,ZA (O.gt k hk)⟩
    .simp only[if_true,dD]at hs;subst hs;obtain⟨⟨_,_,k3⟩,_,⟨k5,h5⟩,k6,_⟩:=hw;obtain⟨k7,h7⟩:=k6 k hk;rcases oO hb with rfl|rfl
     .exact⟨⟨k7,h7⟩,bZ (O.wt k hk),λe=>by have e:d.turn k=d.C:=e;rw[e,k3]at h7;cases h7⟩
     .exact⟨⟨k5,h5⟩,bZ O.wg,λe=>by have e:d.gone=d.C:=e;rw[e,k3]at h5;cases h5⟩
    .simp only[if_true,dD]at hs';exact ack s' ⟨y1,y2,_,hs'.symm⟩ i s b hi hs hb hb'
  .refine⟨λx=>if x=k+1 then ah else yM x,H',nh,v',λi hi=>aU hi,λs hs=>by simp at hs,λi s b hs hb=>?_,λh=>aT h hl,λ_=>aX rfl,G,?_⟩
   .by_cases e:i=k+1
    .simp only[aX e]at hs;cases hs
    .simp only[aU e]at hs;exact ZB i s b hs hb
   .exact⟨λs hs=>by simp at hs,λs b w hw hs hb=>by simp at hs,λi s s' b hi hs hs' hb hb'=>by simp at hs',λh=>ai,λx hx _ w hw=>(show x=k by omega)▸hu w hw,λi hi=>aU hi⟩
 have aiM:tS 0=ae (Seat.one d.come (aq af 0) aw λx=>x=cy cz (ny++d.cs0)):=by rw[sO 0 ai];exact hI10
 obtain⟨B3,MR3⟩:=B2.work (jP:=tS) X U hK2 hk L3 R3 yL AL (λi hi=>by rw[sO _ ai]) agP DN acj;have MR3:=MR3 a1 MR2;obtain⟨n4,m4,T4,hN4,S5,w4,k4,S6,D4,Gh,q4,g4,rfl,hr4,hc4,hg4,hh4,F4⟩:=OJ (sl:=ZC) OK aJ (y:=0) ai hI10 (kj:=0) rfl (EU O O.cg O.wc) (G3 r3) A3 hg3 F3;obtain⟨B4,YP⟩:=B3.chan X U hK3 hr4 hc4 (bZ O.wc) (.inl rfl);have YP:=YP a1 MR3;generalize w4.setChan d.come 0 #[] aw (k4+1) (k4+1) aw=r4 at hN4 F4 B4 YP;obtain rfl:g4=cy cz (ny++d.cs0):=hh4;exact⟨n3+n4,_,T4,dH Ud hN4,S5,r4,S6,D4,Gh,q4,_,_,tS,v',rfl,hg4,F4,B4,YP⟩
end
omit[Payload]in
theorem Led.more{Mem:Nat->Prop}{t:Trace}(H:Led Mem S X (λi=>Knows t h i) t)(h1:∀g l,S g l->S' g l)(h2:∀g l,S' g l->S g l\/(g=h/\l.isMemory=au/\¬X l)):Led Mem S' X (λi=>Knows t h i) t:=by
 refine⟨H.clean,λi a ha hm=>?_,λi a ha hw g hg=>?_,H.plain,H.hears⟩
 .exact(H.known i a ha hm).imp id (Or.imp id λ⟨x1,x2,g,x3,x4⟩=>⟨x1,x2,g,x3,h1 g _ x4⟩)
 .rcases h2 g _ hg with h3|⟨rfl,hm,hx⟩
  .exact H.wrote i a ha hw g h3
  .rcases H.known i a ha hm with h|⟨h,_⟩|⟨h,_⟩
   .exact h
   .exact aT h hx
   .rw[hw]at h;cases h
section
variable{j:Nat}{tag:CTag}{fe:Nat->Bool}{w:aj}
theorem CF.more{hs0:∀w,K' w->YL w}(hc':c'=c.more K' YL hs0 S' B')(O':c'.Ok)(hB:c.B<=B')(hS1:∀g l,c.S g l->S' g l)(YI:∀g l,S' g l->c.S g l\/g=h)(hKK:∀w,YL w->c.K0 w)(hK':K' w)
  (F:CF c h j d0 Inb tag D fe q T gs w):CF c' h j d0 Inb tag D fe q T gs w:=by
 subst hc';refine⟨F.size,F.hlt,λi g s h1 h2 h3=>sits_mono hKK (hS1 i) hB (F.seat i g s h1 h2 h3),F.main,λi g h1 h2 h3=>(F.work i g h1 h2 h3).imp (λ⟨u1,u2,u3,u4⟩=>⟨u1,u2,u3,?_⟩) (λ⟨u1,u2⟩=>⟨u1,u2⟩),F.full,F.inR,F.wf,F.chans,F.inj,hK',F.group,F.pend,
  F.led.more hS1 λg l hl=>(YI g l hl).imp id λe=>⟨e,(O'.still g l hl).1,(O'.still g l hl).2⟩,F.deaf0,F.deafW,F.above,F.norel,F.rel,F.who⟩
 exact goes_mono (λ_ _ h=>hKK _ h) (λ_ _ _ h=>⟨h.1,λe he=>ql (hS1 (i+1)) hB (h.2 e he)⟩) (λ_ _ _ _ ⟨h1,m,h2⟩=>⟨h1,m,h2⟩) u4
end
def bp.grow(d:bp)(Wk tk:Nat)(fk:Nat×Nat)(xs:List (aP×ay))(jC:List aB)(kO:Nat->Option (Nat×Nat))(B':Nat):bp:={d with j:=d.j+1,B:=B',turn:=λi=>if i=d.j then tk else d.turn i,W:=λi=>if i=d.j then Wk else d.W i,facts:=λi=>if i=d.j then xs else d.facts i,cw:=λi=>if i=d.j then jC else d.cw i,fw:=λi=>if i=d.j then kO else d.fw i,fm:=λb=>if b=Wk then ae fk else d.fm b}
structure Ext(d d':bp):Prop where
 P:d'.P=d.P
 S:d'.S=d.S
 j:d.j<=d'.j
 base:d'.base=d.base
 come:d'.come=d.come
 gone:d'.gone=d.gone
 Wg:d'.Wg=d.Wg
 C:d'.C=d.C
 B:d.B<=d'.B
 ty:d'.ty=d.ty
 csC:d'.csC=d.csC
 eC:d'.eC=d.eC
 cs0:d'.cs0=d.cs0
 ro:d'.ro=d.ro
 turn:∀i,i<d.j->d'.turn i=d.turn i
 W:∀i,i<d.j->d'.W i=d.W i
 facts:∀i,i<d.j->d'.facts i=d.facts i
 cw:∀i,i<d.j->d'.cw i=d.cw i
 fw:∀i,i<d.j->d'.fw i=d.fw i
structure Qm(d:bp)(u u':fX):Prop where
 Inv:u'.Inv=u.Inv
 G:u'.G=u.G
 Foot:u'.Foot=u.Foot
 sched:u'.sched=u.sched
 may:u'.may=u.may
 WR:∀i,i<d.j->u'.WR i=u.WR i
 Pub:∀i,i<d.j->u'.Pub i=u.Pub i
 live:∀i,i<d.j->u'.live i=u.live i
section
variable{d d':bp}{u u':fX}
omit[Payload]in
theorem Cc(d:bp){Wk:Nat}(hB:d.B<=B'):Ext d (d.grow Wk tk fk xs jC kO B'):=⟨rfl,rfl,Nat.le_succ _,rfl,rfl,rfl,rfl,rfl,hB,rfl,rfl,rfl,rfl,rfl,λi h=>aU (Nat.ne_of_lt h),λi h=>aU (Nat.ne_of_lt h),λi h=>aU (Nat.ne_of_lt h),λi h=>aU (Nat.ne_of_lt h),λi h=>aU (Nat.ne_of_lt h)⟩
omit[Payload]in
theorem Ext.K0(E:Ext d d'){w:aj}(h:d'.K0 w):d.K0 w:=by obtain⟨h1,h2,h3⟩:=h;rw[E.ty,E.Wg]at h1;rw[E.C,E.csC,E.eC]at h3;exact⟨h1,λi hi x hx=>h2 i (iR hi E.j) x (by rw[E.facts i hi];exact hx),h3⟩
omit[Payload]in
theorem Ext.K(E:Ext d d'){w:aj}(h:d'.K w):d.K w:=by obtain⟨h1,h2,h3,h4,hx⟩:=h;rw[E.come]at h2;rw[E.gone]at h3;exact⟨E.K0 h1,h2,h3,λi hi=>by have:=h4 i (iR hi E.j);rwa [E.turn i hi]at this,hx⟩
omit[Payload]in
theorem Ext.Sp(E:Ext d d'){g:Nat}{l:Loc}(h:d.Sp g l):d'.Sp g l:=by obtain⟨i,h1,h2,x,hx,h3⟩:=h;exact⟨i,h1,iR h2 E.j,x,by rw[E.facts i h2];exact hx,h3⟩
omit[Payload]in
theorem Ext.RH(E:Ext d d'){w:aj}(h:Go.Proofs.YtfmibhmknlnoiaaGreat.RH d'.cc w w₁):Go.Proofs.YtfmibhmknlnoiaaGreat.RH d.cc w w₁:=⟨h.tape,h.os,h.output,h.size,λb hb=>h.block b (by show b≠d'.Wg;rw[E.Wg];exact hb),λhl=>by have:=h.live (by show dG d'.ty d'.Wg w;rw[E.ty,E.Wg];exact hl);have h2:dG d'.ty d'.Wg w₁:=this;rwa [E.ty,E.Wg]at h2⟩
omit[Payload]in
theorem Ext.give(E:Ext d d'){w:aj}(g:tN d.cc h b v a w H'):tN d'.cc h b v a w H':=by obtain⟨h1,a₂,kk,cases,shape,h2,h3,h4,h5⟩:=g;refine⟨h1,a₂,kk,cases,shape,λw₁ hr=>?_,h3,λw hw=>h4 w (E.K hw),h5⟩;have:=h2 w₁ (E.RH hr);show bn d'.P (h==0) a w₁=_;rw[E.P];exact this
omit[Payload]in
theorem Ext.sit(E:Ext d d'){n:Nat}{g:aY}(h:d.cc.TN i s n g):d'.cc.TN i s n g:=by show Sits d'.P (i==0) d'.K0 (d'.Sp i) d'.B s n g;rw[E.P];exact sits_mono (λw hw=>E.K0 hw) (λl hl=>E.Sp hl) E.B h
theorem Ext.wk(E:Ext d d'){s dd:Nat}{g:aY}{w:aj}(h:d.cc.Wk i s m dd g w):d'.cc.Wk i s m dd g w:=by show j5 d'.P d'.ty d'.Wg d'.C (d'.csC.size+1) (i+1) s m dd g w;rw[E.P,E.ty,E.Wg,E.C,E.csC];exact h
theorem Ext.aeG(E:Ext d d'){n:Nat}{g:aY}{w:aj}(h:d.cc.DL i n g w):d'.cc.DL i n g w:=by show Goes d'.P aw (RK d'.K0) _ _ n g w;rw[E.P];exact goes_mono (λ_ _ hw=>E.K0 hw) (λ_ _ _ h=>⟨h.1,λe he=>ql (λl hl=>E.Sp hl) E.B (h.2 e he)⟩) (λ_ _ _ _ ⟨h1,m,h2⟩=>⟨h1,m,E.wk h2⟩) h
theorem Ext.fe(E:Ext d d'){n:Nat}{g:aY}{w:aj}(h:d.cc.Unw i n g w):d'.cc.Unw i n g w:=by show Goes d'.P aw (RK d'.K0) _ _ n g w;rw[E.P];exact goes_mono (λ_ _ hw=>E.K0 hw) (λ_ _ _ h=>⟨h.1,λe he=>ql (λl hl=>E.Sp hl) E.B (h.2 e he)⟩) (λ_ _ _ _ ⟨h1,m,h2⟩=>⟨h1,m,E.wk h2⟩) h
omit[Payload]in
theorem Ext.seat(E:Ext d d')(hi:i<d.j)(z1 z2:ay)(g:aY):d'.seat i z1 z2 g=d.seat i z1 z2 g:=by simp only[bp.seat,E.turn i hi,E.gone]
omit[Payload]in
theorem Ext.told(E:Ext d d')(hi:i<d.j)(z1 z2:ay)(t:Nat):d'.told i z1 z2 t=d.told i z1 z2 t:=by simp only[bp.told,E.turn i hi,E.gone,E.base]
omit[Payload]in
theorem Ext.mine(E:Ext d d')(V:Qm d u u')(a:aj)(b:Nat):Mine d' u' a b↔Mine d u a b:=by simp only[Mine,E.ro,V.Foot]
omit[Payload]in
theorem Ext.resume(V:Qm d u u')(a:aj):tP u' a=tP u a:=by
 funext t' a';exact propext ⟨λh=>⟨h.size,λb o h1 h2 h3=>by have:=h.same b o h1 h2 (by rw[V.Foot];exact h3);rwa [V.Foot]at this,by have:=h.inv;rwa [V.Inv]at this,by have:=h.g;rwa [V.G]at this⟩,
  λh=>⟨h.size,λb o h1 h2 h3=>by rw[V.Foot]at h3⊢;exact h.same b o h1 h2 h3,by rw[V.Inv];exact h.inv,by rw[V.G];exact h.g⟩⟩
theorem Ext.jw(E:Ext d d')(V:Qm d u u')(hi:i<d.j){t:tO}{a:aj}{K:tO->aB->List aB->aj->Prop}(h:JW d u i t fr fs a K):JW d' u' i t fr fs a K:=by
 obtain⟨AL,h⟩:=h;refine⟨⟨by rw[V.G];exact AL.g,by rw[V.Inv];exact AL.inv,by rw[V.WR i hi];exact AL.wr,λb hb=>(E.mine V a b).2 (AL.pub b (by rwa [V.Pub i hi]at hb)),λb f hf=>by rw[E.fw i hi]at hf;obtain⟨h1,h2⟩:=AL.fwm b f hf;exact⟨(E.mine V a b).2 h1,h2⟩⟩,?_⟩;rcases h with⟨hl,z1,z2,cz,dC,sp,rfl⟩|⟨hl,⟨H',n,v,h1,h2⟩,rfl⟩
 .refine .inl ⟨by rw[V.live i hi];exact hl,z1,z2,cz,dC,⟨?_,?_⟩,?_⟩
  .obtain⟨H',n,v,h1,h2⟩:=sp.give;exact⟨H',n,v,λr=>by rw[E.cw i hi,E.come];exact E.give (h1 r),by rw[E.seat hi,E.cw i hi];exact E.sit h2⟩
  .obtain⟨n',hf⟩:=sp.flee;refine⟨n',λw hw=>?_⟩;rw[E.cw i hi,E.turn i hi,E.gone];exact E.aeG (hf w (E.K0 hw))
  .funext t' cB dg a';simp only[fX.next,V.sched,V.may,E.told hi,Ext.resume V]
 .exact .inr ⟨by rw[V.live i hi];exact hl,⟨H',n,v,λr=>by rw[E.cw i hi,E.come];exact E.give (h1 r),λw hw=>E.fe (h2 w (E.K0 hw))⟩,rfl⟩
theorem Ext.rest(E:Ext d d')(V:Qm d u u')(hi:i<d.j){a:aj}{tp:Nat}{r:aj}(R:Rest d u i t a tp Inb r):Rest d' u' i t a tp Inb r:=by
 have hF:d'.Fw i=d.Fw i:=by funext b;simp only[bp.Fw,E.fw i hi,E.ro]
 refine⟨R.le,by rw[V.sched];exact R.wait,R.size,λb hb=>by rw[hF];exact R.own b ((E.mine V a b).1 hb),λb hb=>by rw[hF];rw[E.ro]at hb;exact R.ro b hb,R.see,λb f hf=>?_,by rw[V.WR i hi];exact R.wr,λb hb=>(E.mine V a b).2 (R.pub b (by rwa [V.Pub i hi]at hb)),λhl=>?_,λhl=>R.over (by rwa [V.live i hi]at hl),by rw[V.G];exact R.g⟩
 .rw[E.fw i hi]at hf;obtain⟨h1,h2⟩:=R.fw b f hf;exact⟨(E.mine V a b).2 h1,h2⟩
 .rw[V.live i hi]at hl;obtain⟨z1,z2,cz,dC,h1,⟨n',h2⟩,h4⟩:=R.go hl;refine⟨z1,z2,cz,dC,by rw[E.seat hi,E.cw i hi];exact h1,⟨n',λw hw=>?_⟩,λt' a' h5 h6 h7=>?_⟩
  .rw[E.cw i hi,E.turn i hi,E.gone];exact E.aeG (h2 w (E.K0 hw))
  .simp only[fX.next,V.sched,V.may]at h6;rw[Ext.resume V]at h7;rw[E.P,E.told hi,E.cw i hi];exact Ql (λ_ _ _ _ _ h=>E.jw V hi h) (h4 t' a' h5 h6 h7)
end
end
section
open Go Go.Conc Go.ConcN
open Go.ConcR (KK WgAt stA smA Payload Aside2 DC0)
variable[fQ]
variable[Inhabited dc]
section
variable{d d':bp}{u u':fX}{tp:Nat->Nat}{r:aj}
def Nb(d:bp)(u:fX)(Nk:Nat->Prop)(r:aj)(b:Nat):Prop:=Nk b\/u.Foot r b\/d.ro b≠ah\/r.heap.size<=b
theorem Between.grow(B:Between d u t A tp M Inb r)(E:Ext d d')(V:Qm d u u')(hj:d'.j=d.j+1)(X':d'.Fit)(U:u.Ok d)(S4:∀i,i<d.j->d'.fm (d.W i)=d.fm (d.W i))(Mg:∀f,d'.fm (d'.W d.j)=ae f->∃c e,r.heap[d'.W d.j]? =ae (aK c e (0,0))/\c.size<=f.2)
  (hN:∀b,Nk b->(∃o,r.heap[b]? =ae o/\di o=au/\gI o=au)/\¬M b/\(∀i,i<d.j->¬Mine d u (A i) b)/\¬u.Foot r b/\d.ro b=ah/\b≠d.Wg/\b≠d.come/\b≠d.gone/\∀k,k<d'.j->b≠d'.turn k)
  (hturn:¬M (d'.turn d.j)/\∀i,i<d.j->¬Mine d u (A i) (d'.turn d.j))(hfw:∀b f,d'.fw d.j b=ae f->Nk b/\∃c e,r.heap[b]? =ae (aK c e (0,0)))(hwr:u'.WR d.j t r)(pQ:∀b,u'.Pub d.j r b->Nk b)(qj:¬u'.live d.j t):
  Between d' u' t (λi=>if i=d.j then iH (Nb d u Nk r) (d'.Fw d.j) r else A i) (λi=>if i=d.j then t else tp i) M Inb r/\∀b,Mine d' u' (iH (Nb d u Nk r) (d'.Fw d.j) r) b↔Nk b:=by
 have hS:=fE (Nb d u Nk r) (d'.Fw d.j) r;have hF0:∀b,u.Foot r b->d'.Fw d.j b=ah:=λb hb=>by
  cases e:d'.Fw d.j b with
  |none=>rfl
  |some f=>
   rcases or_some (x:=ah) e with h|⟨_,h⟩
   .exact aT hb (hN b (hfw b f h).1).2.2.2.1
   .rw[E.ro,(U.foot t r b B.inv hb).2]at h;cases h
 have Ca:∀b,u.Foot r b->(iH (Nb d u Nk r) (d'.Fw d.j) r).heap[b]? =r.heap[b]? :=λb hb=>by
  rw[hide_need (.inr (.inl hb)),hF0 b hb];cases r.heap[b]? with
  |none=>rfl
  |some o=>cases o<;>rfl
 obtain⟨hinv,fS⟩:=U.inv t r (iH (Nb d u Nk r) (d'.Fw d.j) r) B.inv Ca;have hm:∀b,Mine d' u' (iH (Nb d u Nk r) (d'.Fw d.j) r) b↔Nk b:=λb=>by
  constructor
  .rintro⟨o,h1,h2,h3,h4,h5⟩;obtain⟨y,hy,_,hn⟩:=gz hS h1 h2;rcases hn h3 with h|h|h|h
   .exact h
   .rw[V.Foot,fS]at h4;exact aT h h4
   .rw[E.ro]at h5;exact aT h5 h
   .have:=aL hy;omega
  .intro h;obtain⟨⟨o,h1,h2,h3⟩,_,_,h4,h5,_⟩:=hN b h;refine⟨fV (d'.Fw d.j b) o,by rw[hide_need (.inl h),h1];rfl,λe=>?_,by rw[qh];exact h2,by rw[V.Foot,fS];exact h4,by rw[E.ro];exact h5⟩;have:=qg (f:=d'.Fw d.j b) (o:=o);rw[e,h3]at this;cases this
 have hlt:∀i,i<d'.j->i≠d.j->i<d.j:=λi h1 h2=>ai;have hne:∀i,i≠d.j->(if i=d.j then iH (Nb d u Nk r) (d'.Fw d.j) r else A i)=A i:=λi h=>aU h;have YQ:∀i b,i<d'.j->Mine d' u' (if i=d.j then iH (Nb d u Nk r) (d'.Fw d.j) r else A i) b->(i=d.j/\Nk b)\/(i<d.j/\Mine d u (A i) b):=λi b hi h=>by
  by_cases e:i=d.j
  .rw[aX e]at h;exact .inl ⟨e,(hm b).1 h⟩
  .rw[aU e]at h;exact .inr ⟨hlt i hi e,(E.mine V _ _).1 h⟩
 refine⟨⟨by rw[V.Inv];exact B.inv,λi hi=>?_,λi i' b hi hi' h h'=>?_,λi b hi h=>?_,λi b hi h=>?_,λb hb=>?_,λb hb=>?_,λb f h=>?_,λi f hi h=>?_,λb o hb ho=>?_,λi s b hs hb=>?_,λi hi=>B.out i ai,B.os⟩,hm⟩
 .by_cases e:i=d.j
  .subst e;simp only[if_true];refine⟨bJ _,λs h1 h2=>ai,hS.size▸bJ _,λb hb=>hide_need (.inl ((hm b).1 hb)),λb hb=>hide_need (.inr (.inr (.inl (by rwa [E.ro]at hb)))),λb o h1 _ h3=>sees_num hS h1 h3,λb f hf=>⟨(hm b).2 (hfw b f hf).1,(hfw b f hf).2⟩,hwr,λb hb=>(hm b).2 (pQ b hb),λhl=>aT hl qj,λ_=>B.out _ ai,by rw[V.G];exact U.gsame t _ _ hinv λb hb=>(Ca b ((fS b).1 hb)).symm⟩
  .simp only[aU e];exact E.rest V (hlt i hi e) (B.rest i (hlt i hi e))
 .rcases YQ i b hi h with⟨rfl,h1⟩|⟨h1,h2⟩ <;>rcases YQ i' b hi' h' with⟨rfl,h3⟩|⟨h3,h4⟩
  .rfl
  .exact aT h4 ((hN b h1).2.2.1 i' h3)
  .exact aT h2 ((hN b h3).2.2.1 i h1)
  .exact B.apart i i' b h1 h3 h2 h4
 .rw[V.Foot];rcases YQ i b hi h with⟨rfl,h1⟩|⟨h1,h2⟩
  .exact(hN b h1).2.2.2.1
  .exact B.foot i b h1 h2
 .rcases YQ i b hi h with⟨rfl,h1⟩|⟨h1,h2⟩
  .rw[E.Wg,E.come,E.gone];exact(hN b h1).2.2.2.2.2
  .obtain⟨h3,h4,h5,h6⟩:=B.far i b h1 h2;rw[E.Wg,E.come,E.gone];refine⟨h3,h4,h5,λk hk=>?_⟩;by_cases e:k=d.j
   .subst e;exact λe=>hturn.2 i h1 (e▸h2)
   .rw[E.turn k (hlt k hk e)];exact h6 k (hlt k hk e)
 .rw[V.Foot]at hb;rw[E.Wg];exact B.footg b hb
 .obtain⟨h1,h2,h3,h4,h5,h6,h7,h8⟩:=B.m b hb;rw[V.Foot,E.ro,E.Wg,E.come,E.gone];refine⟨h1,λi hi h=>?_,h3,h4,h5,h6,h7,λk hk=>?_⟩
  .rcases YQ i b hi h with⟨rfl,h1⟩|⟨h1,BF⟩
   .exact(hN b h1).2.1 hb
   .exact h2 i h1 BF
  .by_cases e:k=d.j
   .subst e;exact λe=>hturn.1 (e▸hb)
   .rw[E.turn k (hlt k hk e)];exact h8 k (hlt k hk e)
 .rw[E.ro]at h;exact B.rook b f h
 .by_cases e:i=d.j
  .subst e;exact Mg f h
  .have hi':=hlt i hi e;rw[E.W i hi',S4 i hi']at h;rw[E.W i hi'];exact B.wok i f hi' h
 .rw[V.Foot,E.ro]at hb;rcases hb with hb|hb|hb|⟨i,hi,hb⟩
  .exact B.oks b o (.inl hb) ho
  .exact B.oks b o (.inr (.inl hb)) ho
  .exact B.oks b o (.inr (.inr (.inl hb))) ho
  .rcases YQ i b hi hb with⟨rfl,h1⟩|⟨h1,h2⟩
   .obtain⟨⟨o',h3,_,h4⟩,_⟩:=hN b h1;rw[h3]at ho;obtain rfl:=bj ho;exact h4
   .exact B.oks b o (.inr (.inr (.inr ⟨i,h1,h2⟩))) ho
 .rw[E.come,E.gone];exact(B.chairs i s b hs hb).imp id (Or.imp id λ⟨k,h1,h2⟩=>⟨k,ai,by rw[E.turn k h1];exact h2⟩)
end
end
section
open Go Go.Conc Go.ConcN
open Go.ConcR (KK wgBlock WgAt stA smA rd wr mk Payload Aside2 DC0)
section
variable(P:bh)(ty:bq)(Wg C:Nat)(Rd:Nat->Loc->Prop)(Low j:Nat)(Fin:aY->aj->Prop)
def aeH(g:aY)(w:aj):Prop:=g.status=.running/\∃g',bn P au g w=.go g' w #[mk .enable]/\∃m,Goes P au (RC ty Wg C) (DP Wg Dz Rd j Low) Fin m g' w
def aeI(g:aY)(w:aj):Prop:=
 g.status=.running/\∀v:Nat,v<2147483647->WgAt ty Wg w (v*KK) 0->
  ∃g',bn P au g w=.go g' (w.setCell (stA Wg) (.int .u64 ((v+1) *KK))) #[rd (stA Wg),wr (stA Wg)]/\
   ∃m,Goes P au (RC ty Wg C) (DP Wg Dz Rd j Low) (aeH P ty Wg C Rd Low j Fin) m g' (w.setCell (stA Wg) (.int .u64 ((v+1) *KK)))
def OL(g:aY)(w:aj):Prop:=g.status=.running/\∃g',bn P au g w=.go g' w #[mk .disable]/\∃m,Goes P au (RC ty Wg C) (DP Wg Dz Rd j Low) (aeI P ty Wg C Rd Low j Fin) m g' w
end
end
section
open Go.Conc Go.ConcN
open Go.ConcR (KK WgAt stA smA rd wr mk Payload Aside2 DC0)
variable[fQ]
section
variable{j:Nat}{tag:CTag}{fe:Nat->Bool}{w:aj}
theorem aeJ{Low:Nat}{Fin:aY->aj->Prop}(O:c.Ok)(L:Zx c Inb Low)(hS0:j=0->∀g l,¬c.S g l)(hj:j+1<2147483647)
  (hG:Goes c.P au (RC c.ty c.Wg c.C) (DP c.Wg Dz c.Rd j Low) (OL c.P c.ty c.Wg c.C c.Rd Low j Fin) m a w)(ha:gs[0]? =ae a)(F:CF c 0 j 0 Inb .kd D fe q T gs w):
  ∃N m' T',runNT c.P N (bS gs w sl) T=(.next m',T')/\Held c 0 j 0 Inb (.sp 0 3) Fin m' T':=by
 have ZE:∀w w' es,DP c.Wg Dz c.Rd j Low w w' es->Ln c Inb 0 w w' es:=λ_ _ _ h=>dhc_of_dp O L hS0 h;have mkE:∀m,m≠.release (stA c.Wg)->(MemAct.mark m).touch? =ah->∀e∈#[mk m],Jg c e:=by intro m h1 h2 e he;simp at he;subst he;exact⟨λx hx=>(by simp only[mk,fH]at hx;rw[h2]at hx;cases hx),(by simp[mk,h1])⟩
 obtain⟨N1,gs,w0,EW,T,w,xd,D,fe,q,a,r1,s1,ha,hS,F⟩:=yI O aJ ZE (λ_ _ h=>h.1) (kY (λ_ _ h=>h.rc) hG) (sl:=sl) ha F;obtain⟨_,g',hgo,m1,hG1⟩:=hS w (.refl c w);obtain⟨gs',ops,e1,ha',F⟩:=step0 (sl:=xd) O F ha hgo (.refl c w) rfl F.group F.pend (mkE .disable aJ rfl);have r1:=tM r1 (s1.trans e1);obtain⟨N2,gs,w0,EW,T,w,xd,D,fe,q,a,r2,s2,ha,hS,F⟩:=yI O aJ ZE (λ_ _ h=>h.1) (kY (λ_ _ h=>h.rc) hG1) (sl:=xd) ha' F;obtain⟨st,sm,hw,hm⟩:=F.group;obtain⟨v,rfl,rfl,hv,vx⟩:=T8 (r:=0) hm;obtain⟨_,hA⟩:=hS w (.refl c w);obtain⟨g',hgo,m2,hG2⟩:=hA v ai hw;have hw2:WgAt c.ty c.Wg (w.setCell (stA c.Wg) (.int .u64 (((v:Nat) +1:Int) *KK))) (((v:Nat) +1:Int) *KK) 0:=hw.setSt _;have tT:=aside_setCell w (stA c.Wg) (.int .u64 (((v:Nat) +1:Int) *KK));obtain⟨gs',eO,e2,ha',F⟩:=step0 (sl:=xd) (cJ:=.sp 0 3) O F ha hgo ⟨tT.tape,tT.os,tT.output,tT.size,λb h1=>tT.block b h1,λ_=>⟨_,_,hw2⟩⟩ (tT.block _ O.away) ⟨_,_,hw2,vx⟩ (by simp[ConcN.pend];omega) (by
  intro e he;have yN:ShN c.Wg (.cell (stA c.Wg)):=⟨_,rfl,rfl⟩;simp at he;rcases he with rfl|rfl
  .exact⟨λx hx=>(by simp only[rd,fH,ly,dD]at hx;subst hx;exact⟨λg hg=>aT yN (O.still g _ hg).2,λ_=>aJ⟩),(by simp[rd])⟩
  .exact⟨λx hx=>(by simp only[wr,fH,ly,dD]at hx;subst hx;exact⟨λg hg=>aT yN (O.still g _ hg).2,λ_=>aJ⟩),(by simp[wr])⟩)
 have r2:=tM r2 (s2.trans e2);obtain⟨N3,gs,w0,EW,T,w,xd,D,fe,q,a,r3,s3,ha,hS,F⟩:=yI O aJ ZE (λ_ _ h=>h.1) (kY (λ_ _ h=>h.rc) hG2) (sl:=xd) ha' F;obtain⟨_,g',hgo,m3,hG3⟩:=hS w (.refl c w);obtain⟨gs',Ce,e3,ha',F⟩:=step0 (sl:=xd) O F ha hgo (.refl c w) rfl F.group F.pend (mkE .enable aJ rfl);have r3:=tM r3 (s3.trans e3);obtain⟨N4,m',T',r4,hH⟩:=hold O aJ ZE (kY (λ_ _ h=>h.rc) hG3) (sl:=xd) ha' F;exact⟨N1+1+(N2+1) +(N3+1) +N4,m',T',dH (dH (dH r1 r2) r3) r4,hH⟩
end
end
section
open Go Go.Conc Go.ConcN
open Go.ConcR (KK WgAt stA smA Payload Aside2 DC0)
variable[fQ]
variable[Inhabited dc]
structure Grown(Wg:Nat)(ob:Obj)(r w:aj):Prop where
 size:w.heap.size=r.heap.size+1
 new:w.heap[r.heap.size]? =ae ob
 old:∀b,b<r.heap.size->b≠Wg->w.heap[b]? =r.heap[b]?
 os:w.os=r.os/\w.output=r.output
structure First(d d':bp)(u':fX)(t:Nat)(Nk:Nat->Prop)(ob:Obj)(a a0:aj):Prop where
 size:a0.heap.size=a.heap.size+1
 own:∀b,Nk b->b≠a.heap.size->a0.heap[b]? =(a.heap[b]?).map (fV (d'.fw d.j b))
 new:a0.heap[a.heap.size]? =ae (fV (d'.fw d.j a.heap.size) ob)
 ro:∀b,d.ro b≠ah->a0.heap[b]? =a.heap[b]?
 inv:u'.Inv t a0
structure Birth(d:bp)(u u':fX)(t:Nat)(Wk tk:Nat)(fk:Nat×Nat)(Dj xs:List (aP×ay))(jC:List aB)(kO:Nat->Option (Nat×Nat))(B':Nat)(Nk:Nat->Prop)(ob:Obj)(fr:aB)(fs:List aB)(cz:aB)(a:aj):Prop where
 few:d.j<1000000
 Bd:d.B<=B'
 uext:Qm d u u'
 sub:∀x∈Dj,x∈xs
 fit:(d.grow Wk tk fk xs jC kO B').Fit
 uok:u'.Ok (d.grow Wk tk fk xs jC kO B')
 ok1:(d.grow Wk tk fk Dj jC kO B').Ok
 sched:u.sched (t+1)=d.j
 live:¬u'.live d.j t
 nk:∀b,Nk b->b=a.heap.size\/(jB d a b/\b≠tk)
 new:Nk a.heap.size
 turn:a.heap[tk]? =ae (.chan 0 #[] aw 0 0 aw)/\jB d a tk
 facts1:∀x∈Dj,Nk x.1.block/\x.1.block≠a.heap.size/\a.cell? x.1=ae x.2
 facts:∀x∈xs,x∈Dj\/(x.1.block=a.heap.size/\∀w:aj,w.heap[x.1.block]? =ae ob->w.cell? x.1=ae x.2)
 isob:∃c e,ob=aK c e (0,0)
 fw:∀b f,kO b=ae f->Nk b/\(b=a.heap.size\/∃c e,a.heap[b]? =ae (aK c e (0,0)))
 hfk:Nk Wk/\Wk≠a.heap.size/\∃c e,a.heap[Wk]? =ae (aK c e (0,0))/\c.size<=fk.2
 wk:∀i,i<d.j->d.W i≠Wk
 wr:∀w:aj,(∀b,Nk b->b≠a.heap.size->w.heap[b]? =a.heap[b]?)->u'.WR d.j t w/\∀b,u'.Pub d.j w b->Nk b
 code:∃(frg frs:aB) (child:aY) (frp:aB) (fsp:List aB) (n0:Nat),
  (∀r Low,d.K r->∃m,Goes d.P au (RC d.ty d.Wg d.C) (DP d.Wg Dz d.cc.Rd d.j Low) (OL d.P d.ty d.Wg d.C d.cc.Rd Low d.j (λg w=>g=cy frg (fs++d.cs0)/\Aside2 d.C d.Wg r w)) m (cy fr (fs++d.cs0)) r)/\
  (∀w,bn d.P au (cy frg (fs++d.cs0)) w=.spawn (cy frs (fs++d.cs0)) child w #[])/\
  (d.grow Wk tk fk Dj jC kO B').cc.TN 0 (Seat.one d.come (aq af 0) aw λx=>x=cy cz (fs++d.cs0)) n0 (cy frs (fs++d.cs0))/\
  (∀r Inb,(d.grow Wk tk fk Dj jC kO B').K r->(d.grow Wk tk fk Dj jC kO B').ri Inb->r.heap.size=a.heap.size->(∀x:aP,(Nk x.block/\x.block≠a.heap.size\/d.ro x.block≠ah)->r.cell? x=a.cell? x)->
   Walk (d.grow Wk tk fk Dj jC kO B').cc aw (Ln (d.grow Wk tk fk Dj jC kO B').cc Inb (d.j+1)) (λg w=>g=cy frp (fsp++jC)/\Grown d.Wg ob r w) child r)/\
  (∀a0,First d (d.grow Wk tk fk xs jC kO B') u' t Nk ob a a0->ZigC d.P aw jC (JW (d.grow Wk tk fk xs jC kO B') u' d.j) (λ_ _ _ _=>False) ⟨t+1,a0⟩ frp fsp a0)
section
variable{d:bp}{u u':fX}{Wk:Nat}{ob:Obj}{a:aj}{tp:Nat->Nat}{fe:Nat->Bool}{r:aj}
omit[Payload]in
theorem Ue{w:aj}(h:Aside2 d.C d.Wg r w)(hC:w.heap[d.C]? =r.heap[d.C]?)(hl:dG d.ty d.Wg w):RH d.cc r w:=
 ⟨h.tape,h.os,h.output,h.size,λb hb=>by
  by_cases e:b=d.C
  .rw[e];exact hC
  .exact h.block b e hb,λ_=>hl⟩
theorem aeK(X:d.Fit)(U:u.Ok d)(H:Birth d u u' t Wk tk fk Dj xs jC kO B' Nk ob fr fs cz a)
  (B:Between d u t A tp (jB d a) Inb r)(MR:tR d (jB d a) a r)(hsz:a.heap.size=r.heap.size)(hg:gs[0]? =ae (cy fr (fs++d.cs0)))(F:CF d.cc 0 d.j 0 Inb .kd D fe q T gs r):
  ∃n m' T',runNT d.P n (bS gs r sl) T=(.next m',T')/\∃gs' r' sl' D' mQ q' A' tp' jP v',m'=bS gs' r' sl'/\gs'[0]? =ae (cy (cz.finish v') (fs++d.cs0))/\CF (d.grow Wk tk fk xs jC kO B').cc 0 (d.j+1) 0 jP .kd D' mQ q' T' gs' r'/\
   Between (d.grow Wk tk fk xs jC kO B') u' (t+1) A' tp' (λb=>jB d a b/\¬Nk b/\b≠tk) jP r'/\tR (d.grow Wk tk fk xs jC kO B') (λb=>jB d a b/\¬Nk b/\b≠tk) a r':=by
 obtain⟨frg,frs,child,frp,fsp,n0,Mh,hgo,hsit,hstart,vX⟩:=H.code;have O:=X.ok;have OK:=nS O;have OK1:=nS H.ok1;have X':=H.fit;have OK':=nS X'.ok;have hK:d.K r:=F.K;have E:Ext d (d.grow Wk tk fk xs jC kO B'):=Cc d H.Bd;have E1:Ext d (d.grow Wk tk fk Dj jC kO B'):=Cc d H.Bd;obtain⟨⟨⟨st0,sm0,kw⟩,k2,k3⟩,⟨c1,k4⟩,⟨c2,k5⟩,k6,kx⟩:=id hK;obtain⟨m0,hG⟩:=Mh r r.heap.size hK;have Ax:Zx d.cc Inb r.heap.size:=by
  refine⟨λw w' hw hk=>?_,λi s b hi hs hb=>?_,aL kw,aL k3⟩
  .obtain⟨⟨⟨st,sm,h1⟩,h2,h3⟩,h4,h5,h6,hx⟩:=hk;have op:∀b,iC r b->iC w b->iC w' b:=λb ⟨k,hk⟩ ⟨k',qK⟩=>⟨k',by rw[hw b (aL hk)];exact qK⟩;refine⟨⟨⟨st,sm,by show w'.heap[d.Wg]? =_;rw[hw d.Wg (aL kw)];exact h1⟩,λi hi x hx=>?_,by rw[hw d.C (aL k3)];exact h3⟩,op _ ⟨c1,k4⟩ h4,op _ ⟨c2,k5⟩ h5,λi hi=>op _ (k6 i hi) (h6 i hi),λb o h1 h2=>by rw[hw b (aL (kx b o h1 h2))];exact hx b o h1 h2⟩;have:=h2 i hi x hx;rw[←this];simp only[fG,hw _ (kA (k2 i hi x hx))]
  .obtain⟨⟨k,hk⟩,_⟩:=F.chans i s b hi hs hb;exact aL hk
 obtain⟨N1,m1,T1,Lp,gs1,w1,EW,a1,D1,aeL,q1,rfl,ha1,hS1,F1⟩:=aeJ (sl:=sl) OK Ax (λh0 g l ⟨i,_,hi,_⟩=>by have hi:i<d.j:=hi;omega) (by have:=H.few;omega) hG hg F;obtain⟨rfl,Bb⟩:=hS1 w1 (.refl d.cc w1);have hK1:d.K w1:=F1.keep;have hC1:w1.heap[d.C]? =r.heap[d.C]? :=by rw[k3];exact hK1.1.2.2
 have Uf:RH d.cc r w1:=Ue Bb hC1 hK1.1.1;have kI:∀b,jB d a b->b≠d.Wg/\b<r.heap.size:=λb hb=>⟨(B.m b hb).2.2.2.2.1,(B.m b hb).1⟩;have yO:∀w,RH d.cc w1 w->∀b,b≠d.Wg->w.heap[b]? =r.heap[b]? :=λw hr b hb=>((hr.block b hb).trans (Uf.block b hb));have hown:∀w,RH d.cc w1 w->∀b,jB d a b->w.heap[b]? =a.heap[b]? :=λw hr b hb=>(yO w hr b (kI b hb).1).trans (MR.own b hb).symm;have hcell:∀w,RH d.cc w1 w->∀x∈Dj,w.cell? x.1=ae x.2:=λw hr x hx=>by obtain⟨h1,h2,h3⟩:=H.facts1 x hx;rw[←h3];simp only[fG,hown w hr _ ((H.nk _ h1).resolve_left h2).1]
 have agQ:∀w₁,RH d.cc w1 w₁->d.K w₁->(d.grow Wk tk fk Dj jC kO B').K w₁:=by
  intro w hr hk;obtain⟨⟨h1,h2,h3⟩,h4,h5,h6,pw⟩:=hk;refine⟨⟨h1,λi hi x hx=>?_,h3⟩,h4,h5,λi hi=>?_,pw⟩
  .simp only[bp.grow]at hx hi;by_cases e:i=d.j
   .rw[aX e]at hx;exact hcell w hr x hx
   .rw[aU e]at hx;exact h2 i ai x hx
  .simp only[bp.grow]at hi⊢;by_cases e:i=d.j
   .rw[aX e];exact⟨0,by rw[hown w hr _ H.turn.2];exact H.turn.1⟩
   .rw[aU e];exact h6 i ai
 obtain⟨N2,Uc,w2,xd,T2,D2,aeF,q2,Mi,RH2,hg2,F2⟩:=spawn (c':=(d.grow Wk tk fk Dj jC kO B').cc) (K':=(d.grow Wk tk fk Dj jC kO B').K) (YL:=(d.grow Wk tk fk Dj jC kO B').K0) (hs0:=λ_ h=>h.1) (S':=(d.grow Wk tk fk Dj jC kO B').Sp) (B':=B') (sl:=EW) rfl OK OK1 H.Bd
  (λg l h=>E1.Sp h) (λg l h=>by
   obtain⟨i,h1,h2,x,hx,h3⟩:=h;simp only[bp.grow]at h2 hx;by_cases e:i=d.j
   .right;right;rw[h1,e]
   .rw[aU e]at hx;exact .inl ⟨i,h1,ai,x,hx,h3⟩) (λw h=>E1.K0 h) (r:=0) (n0:=n0) (a:=cy frg (fs++d.cs0)) (a':=cy frs (fs++d.cs0)) (child:=child) (s0:=Seat.one d.come (aq af 0) aw λx=>x=cy cz (fs++d.cs0)) (es:=#[]) rfl (λw _=>hgo w) (λe he=>by simp at he) agQ hsit (Seat.one_wf _ _ _ _)
  (λb w hw hb=>by obtain rfl:=Seat.one_has.1 hb;obtain⟨⟨_,_,h3⟩,⟨k,h4⟩,_⟩:=hw;exact⟨⟨k,h4⟩,bZ O.wc,λe=>by have e:d.come=d.C:=e;have h3:w.heap[d.C]? =_:=h3;have h4:w.heap[d.come]? =_:=h4;rw[e,h3]at h4;cases h4⟩)
  (λi s b hi hs hb hb'=>by
   obtain rfl:=Seat.one_has.1 hb';obtain⟨i,rfl⟩:∃x,i=x+1:=⟨i-1,ai⟩;obtain⟨_,_,_,hi,rfl⟩:=B.seats i s hs;rcases oO hb with e|e
   .exact aT e (O.ct i hi)
   .exact e) ha1 F1
 have hch:(d.grow Wk tk fk Dj jC kO B').ri (λx=>if x=0 then ae (Seat.one d.come (aq af 0) aw λx=>x=cy cz (fs++d.cs0))else Inb x):=λi s b hs hb=>by
  by_cases e:i=0
  .simp only[aX e]at hs;obtain rfl:=bj hs;exact .inl (Seat.one_has.1 hb)
  .simp only[aU e]at hs;rcases B.chairs i s b hs hb with h|h|⟨k,hk,h⟩
   .exact .inl h
   .exact .inr (.inl h)
   .exact .inr (.inr ⟨k,Nat.lt_succ_of_lt hk,by rw[E1.turn k hk];exact h⟩)
 have nT:w2.heap.size=a.heap.size:=by rw[hsz,←Uf.size];exact RH2.size
 have agR:∀x:aP,(Nk x.block/\x.block≠a.heap.size\/d.ro x.block≠ah)->w2.cell? x=a.cell? x:=by
  rintro x (⟨h1,h2⟩|h)
  .simp only[fG,hown w2 RH2 _ ((H.nk _ h1).resolve_left h2).1]
  .have hb:x.block≠d.Wg:=λe=>h (by rw[e];exact X.rowg);rw[cell_chill (MR.ro _ h)|>.symm];simp only[fG,yO w2 RH2 _ hb]
 have hW:=hstart w2 _ F2.keep hch nT agR;obtain⟨N3,m3,T3,Ud,gs3,w3,ZC,a3,D3,ach,q3,rfl,ha3,hS3,F3⟩:=hold (h:=d.j+1) (sl:=xd) OK1 aJ (λ_ _ _ h=>h) hW hg2 F2;obtain⟨rfl,G3⟩:=hS3 w3 (.refl _ w3);have km:∀b,b<r.heap.size->b≠d.Wg->w3.heap[b]? =r.heap[b]? :=λb h1 h2=>(G3.old b (by rw[nT,hsz];exact h1) h2).trans (yO w2 RH2 b h2);have Jt:w3.heap[a.heap.size]? =ae ob:=by have:=G3.new;rwa [nT]at this
 have Ay:w3.heap.size=a.heap.size+1:=by rw[G3.size,nT]
 have zQ:∀b,jB d a b->w3.heap[b]? =a.heap[b]? :=λb hb=>(km b (kI b hb).2 (kI b hb).1).trans (MR.own b hb).symm;have hK3:(d.grow Wk tk fk xs jC kO B').K w3:=by
  obtain⟨⟨h1,h2,h3⟩,h4,h5,h6,pw⟩:=F3.keep;refine⟨⟨h1,λi hi x hx=>?_,h3⟩,h4,h5,h6,pw⟩;simp only[bp.grow]at hx hi;by_cases e:i=d.j
  .rw[aX e]at hx;rcases H.facts x hx with h|⟨h,h'⟩
   .exact h2 i hi x (by simp only[bp.grow];rw[aX e];exact h)
   .exact h' w3 (by rw[h];exact Jt)
  .rw[aU e]at hx;exact h2 i hi x (by simp only[bp.grow];rw[aU e];exact hx)
 have F3':CF (d.grow Wk tk fk xs jC kO B').cc (d.j+1) (d.j+1) 0 _ .kd D3 ach q3 T3 gs3 w3:=CF.more (c:=(d.grow Wk tk fk Dj jC kO B').cc) (K':=(d.grow Wk tk fk xs jC kO B').K) (YL:=(d.grow Wk tk fk xs jC kO B').K0) (hs0:=λ_ h=>h.1) (S':=(d.grow Wk tk fk xs jC kO B').Sp) (B':=B') rfl OK' (bJ _)
  (λg l ⟨i,h1,h2,x,hx,h3⟩=>⟨i,h1,h2,x,by
   simp only[bp.grow]at hx⊢;by_cases e:i=d.j
   .rw[aX e]at hx⊢;exact H.sub x hx
   .rw[aU e]at hx⊢;exact hx,h3⟩)
  (λg l ⟨i,h1,h2,x,hx,h3⟩=>by
   simp only[bp.grow]at hx h2;by_cases e:i=d.j
   .right;rw[h1,e]
   .left;rw[aU e]at hx;exact⟨i,h1,h2,x,by simp only[bp.grow];rw[aU e];exact hx,h3⟩)
  (λw ⟨h1,h2,h3⟩=>⟨h1,λi hi x hx=>h2 i hi x (by
   simp only[bp.grow]at hx⊢;by_cases e:i=d.j
   .rw[aX e]at hx⊢;exact H.sub x hx
   .rw[aU e]at hx⊢;exact hx),h3⟩) hK3 F3
 have acm:∀b,d.ro b≠ah->w3.heap[b]? =r.heap[b]? :=λb hb=>by obtain⟨f,hf⟩:=nE.1 hb;obtain⟨c,e,hc,_⟩:=B.rook b f hf;exact km b (aL hc) (λe=>by rw[e,X.rowg]at hf;cases hf)
 have aa2:∀(b:Nat) x l,r.heap[b]? =ae (.number x l)->w3.heap[b]? =ae (.number x l):=λb x l hb=>by rw[km b (aL hb) (λe=>by rw[e]at hb;exact aT (hb.symm.trans kw) (by simp[qi]))];exact hb
 have B3:Between d u t A tp (λb=>jB d a b/\¬Nk b/\b≠tk) Inb w3:=by
  refine B.keep X U hK ai (λi b hi hb=>?_) acm (λb hb=>?_) (λb hb=>.inl hb.1) (λb o hb ho=>?_) aa2 ⟨G3.os.1.trans (RH2.os.trans Uf.os),G3.os.2.trans (RH2.output.trans Uf.output)⟩
  .obtain⟨o,ho,_⟩:=B.there hi hb;exact km b (aL ho) (B.far i b hi hb).1
  .obtain⟨⟨c,e,hc⟩,_⟩:=U.foot t r b B.inv hb;exact km b (aL hc) (B.footg b hb)
  .rw[km b (kI b hb.1).2 (kI b hb.1).1]at ho;exact B.oks b o (.inl hb.1) ho
 have MR3:tR (d.grow Wk tk fk xs jC kO B') (λb=>jB d a b/\¬Nk b/\b≠tk) a w3:=by
  refine⟨ai,λb hb=>(zQ b hb.1).symm,λb hb=>?_,λb o h1 h2=>?_⟩
  .have hb':d.ro b≠ah:=hb;have:(d.grow Wk tk fk xs jC kO B').Fm b=d.Fm b:=by
    simp only[bp.Fm,bp.grow];by_cases e:b=Wk
    .obtain⟨h1,h2,_⟩:=H.hfk;exact aT ((H.nk _ h1).resolve_left h2).1.choose_spec.2.2.2.2 (e▸hb')
    .rw[aU e]
   rw[acm b hb',this];exact MR.ro b hb'
  .have:=MR.see b o h1 h2;cases o<;>first|exact aa2 _ _ _ this|cases h2
 obtain⟨cb,eb,rfl⟩:=H.isob;have aeM:∀b,r.heap.size<=b->¬jB d a b/\¬u.Foot w3 b/\d.ro b=ah/\(∀i,i<d.j->¬Mine d u (A i) b)/\b≠d.Wg/\b≠d.come/\b≠d.gone/\(∀k,k<d.j->b≠d.turn k)/\b≠tk:=λb hb=>by
  have out:∀(x:Nat) o,r.heap[x]? =ae o->b≠x:=λx o hx e=>by have:=aL hx;omega
  refine⟨λh=>by have:=(kI b h).2;omega,λh=>?_,?_,λi hi h=>?_,out _ _ kw,out _ _ k4,out _ _ k5,λk hk=>?_,λe=>by have:=(kI tk H.turn.2).2;omega⟩
  .have hf:=(U.inv t r w3 B.inv λb' hb'=>?_).2 b
   .obtain⟨⟨c,e,hc⟩,_⟩:=U.foot t r b B.inv (hf.1 h);exact out _ _ hc rfl
   .obtain⟨⟨c,e,hc⟩,_⟩:=U.foot t r b' B.inv hb';exact km b' (aL hc) (B.footg b' hb')
  .cases e:d.ro b with
   |none=>rfl
   |some f=>obtain⟨c,e',hc,_⟩:=B.rook b f e;exact aT rfl (out _ _ hc)
  .obtain⟨o,ho,_⟩:=B.there hi h;exact out _ _ ho rfl
  .obtain⟨_,hk⟩:=k6 k hk;exact out _ _ hk
 have aeN:=H.wr w3 λb h1 h2=>zQ b ((H.nk b h1).resolve_left h2).1;obtain⟨B4,hm4⟩:=B3.grow (d':=d.grow Wk tk fk xs jC kO B') (u':=u') (Nk:=Nk) E H.uext rfl X' U (λi hi=>by simp only[bp.grow];rw[aU (H.wk i hi)]) (λf hf=>by
   obtain⟨h1,h2,c,e,h3,h4⟩:=H.hfk;simp only[bp.grow,if_true,dD]at hf⊢;subst hf;exact⟨c,e,by rw[zQ _ ((H.nk _ h1).resolve_left h2).1];exact h3,h4⟩)
  (λb hb=>by
   have Ju:∀k,k<d.j+1->k≠d.j->k<d.j:=λk h1 h2=>ai;rcases H.nk b hb with rfl|⟨h1,h2⟩
   .obtain⟨n1,n2,n3,n4,n5,n6,n7,n8,n9⟩:=aeM a.heap.size ai;refine⟨⟨_,Jt,rfl,rfl⟩,λh=>n1 h.1,n4,n2,n3,n5,n6,n7,λk hk=>?_⟩;simp only[bp.grow]at hk⊢;by_cases e:k=d.j
    .rw[aX e];exact n9
    .rw[aU e];exact n8 k (Ju k hk e)
   .obtain⟨m1,m2,m3,m4,m5,m6,m7,m8⟩:=B.m b h1;obtain⟨o,o1,o2,o3,_⟩:=id h1;have ho3:=(zQ b h1).trans o1;refine⟨⟨o,ho3,o3,B.oks b o (.inl h1) (by rw[←MR.own b h1];exact o1)⟩,λh=>h.2.1 hb,m2,λh=>?_,m4,m5,m6,m7,λk hk=>?_⟩
    .have hf:=(U.inv t r w3 B.inv λb' hb'=>by obtain⟨⟨c,e,hc⟩,_⟩:=U.foot t r b' B.inv hb';exact km b' (aL hc) (B.footg b' hb')).2 b;exact m3 (hf.1 h)
    .simp only[bp.grow]at hk⊢;by_cases e:k=d.j
     .rw[aX e];exact h2
     .rw[aU e];exact m8 k (Ju k hk e))
  (by
   simp only[bp.grow,if_true];exact⟨λh=>h.2.2 rfl,(B.m tk H.turn.2).2.1⟩) (λb f hf=>by
   simp only[bp.grow,if_true]at hf;obtain⟨h1,h2⟩:=H.fw b f hf;refine⟨h1,?_⟩;rcases H.nk b h1 with rfl|⟨h3,_⟩
   .exact⟨_,_,Jt⟩
   .rcases h2 with rfl|⟨c,e,h2⟩
    .exact⟨_,_,Jt⟩
    .exact⟨c,e,by rw[zQ b h3];exact h2⟩) aeN.1 aeN.2 H.live
 have DO:∀i,(λx=>if x=0 then ae (Seat.one d.come (aq af 0) aw λx=>x=cy cz (fs++d.cs0))else Inb x) (i+1)=Inb (i+1):=λi=>aU ai;have B5:=B4.inb (jP:=λx=>if x=0 then ae (Seat.one d.come (aq af 0) aw λx=>x=cy cz (fs++d.cs0))else Inb x) DO hch;have hk:d.j< (d.grow Wk tk fk xs jC kO B').j:=Nat.lt_succ_self _;have hres:=B5.resume H.uok hk;have bY:(if d.j=d.j then iH (Nb d u Nk w3) ((d.grow Wk tk fk xs jC kO B').Fw d.j) w3 else A d.j)=iH (Nb d u Nk w3) ((d.grow Wk tk fk xs jC kO B').Fw d.j) w3:=aX rfl;have hcw:(d.grow Wk tk fk xs jC kO B').cw d.j=jC:=by simp only[bp.grow,if_true]
 have hNm:∀b,Nk b->Nw (d.grow Wk tk fk xs jC kO B') u' (if d.j=d.j then iH (Nb d u Nk w3) ((d.grow Wk tk fk xs jC kO B').Fw d.j) w3 else A d.j) w3 b:=λb hb=>.inl (by rw[bY];exact(hm4 b).2 hb);have Qn:∀b,Nk b->d.ro b=ah:=λb hb=>by
  rcases H.nk b hb with rfl|⟨h,_⟩
  .exact(aeM a.heap.size ai).2.2.1
  .exact h.choose_spec.2.2.2.2
 have hFw:∀b,(d.grow Wk tk fk xs jC kO B').Fw d.j b=((d.grow Wk tk fk xs jC kO B').fw d.j b).or (d.ro b):=λb=>rfl;have hz:=vX _ ⟨by rw[(fE _ _ _).size];exact Ay,λb hb hne=>by
   have h1:=((H.nk b hb).resolve_left hne).1;rw[hide_need (hNm b hb),zQ b h1,hFw,Qn b hb,Option.or_none],by
   rw[hide_need (hNm _ H.new),Jt,hFw,Qn _ H.new,Option.or_none];rfl,λb hb=>by
   rw[hide_need (.inr (.inr (.inl hb))),acm b hb,MR.ro b hb];have h1:(d.grow Wk tk fk xs jC kO B').fw d.j b=ah:=by
    cases e:(d.grow Wk tk fk xs jC kO B').fw d.j b with
    |none=>rfl
    |some f=>simp only[bp.grow,if_true]at e;exact aT (Qn b (H.fw b f e).1) hb
   have h2:d.fm b=ah:=by
    cases e:d.fm b with
    |none=>rfl
    |some f=>obtain⟨_,i,hi,rfl⟩:=X.fmW b f e;exact aT (X.roW i hi) hb
   rw[hFw,h1,bp.Fm,h2],hres.inv⟩
 obtain⟨N4,m4,T4,hN4,S5,w4,S6,D4,Gh,q4,A',tp',tS,v',rfl,hg4,F4,B6,YP⟩:=line (d:=d.grow Wk tk fk xs jC kO B') (xd:=ZC) X' H.uok hk (by rw[H.uext.sched];exact H.sched) (cz:=cz) (ny:=fs) (wfr:=frp) (wfs:=fsp) (aX rfl) B5 MR3 (by rw[hcw];exact ha3) (by rw[hcw];exact hz) F3';exact⟨N1+N2+N3+N4,_,T4,dH (dH (dH Lp Mi) Ud) hN4,S5,w4,S6,D4,Gh,q4,A',tp',tS,v',rfl,hg4,F4,B6,YP⟩
end
structure pC(d:bp)(u:fX)(X:Nat->Prop)(a:aj)(t:Nat)(a':aj):Prop where
 size:a.heap.size<=a'.heap.size
 same:∀(b:Nat) o,a.heap[b]? =ae o->o≠eh->(∀i,i<d.j->b≠d.W i)->¬X b->a'.heap[b]? =ae o
 recs:∀i,i<d.j->∃r,u.WR i t r/\(∃c e f,r.heap[d.W i]? =ae (aK c e (0,0))/\d.fm (d.W i)=ae f/\a'.heap[d.W i]? =ae (aK c e f))/\(u.Pub i r (d.W i))
 facts:∀i,i<d.j->∀x∈d.facts i,x.1.block=d.W i->a'.cell? x.1=ae x.2
 fwl:∀i,i<d.j->∀b f,d.fw i b=ae f->b<a'.heap.size
def JM(U:bp->fX):fM (Nat×bp):=λi fr fs a K=>
 (∃k cz,k<i.2.j/\(U i.2).live k i.1/\(U i.2).sched (i.1+1)=k/\(U i.2).may (i.1+1)/\MSpot i.2 k (i.1+1) fr fs cz/\K=λi' cB dg a'=>i'=(i.1+1,i.2)/\(∃v,cB=cz.finish v)/\dg=fs/\pC i.2 (U i.2) (λ_=>False) a (i.1+1) a')\/
 (∃Wk tk fk Dj xs jC kO B' Nk ob cz,Birth i.2 (U i.2) (U (i.2.grow Wk tk fk xs jC kO B')) i.1 Wk tk fk Dj xs jC kO B' Nk ob fr fs cz a/\K=λi' cB dg a'=>i'=(i.1+1,i.2.grow Wk tk fk xs jC kO B')/\(∃v,cB=cz.finish v)/\dg=fs/\pC (i.2.grow Wk tk fk xs jC kO B') (U (i.2.grow Wk tk fk xs jC kO B')) (λb=>Nk b\/b=tk) a (i.1+1) a')
structure aa3(P:bh)(S:bN)(cs0:List aB)(U:bp->fX)(Stop:Nat×bp->aB->List aB->aj->Prop)(m:Machine)(T:Trace):Prop where
 ex:∃gs r sl t d fr fs a A tp Inb D fe q,m=bS gs r sl/\d.P=P/\d.S=S/\d.cs0=cs0/\d.Fit/\(U d).Ok d/\gs[0]? =ae (cy fr (fs++d.cs0))/\Stop (t,d) fr fs a/\Sees (Nm d (jB d a) r) d.Fm a r/\Between d (U d) t A tp (jB d a) Inb r/\CF d.cc 0 d.j 0 Inb .kd D fe q T gs r
section
variable{d:bp}{u:fX}{tp:Nat->Nat}{a r:aj}
theorem Between.OM(B:Between d u t A tp M Inb r)(X:d.Fit)(U:u.Ok d){d0:bp}(hM:∀b o,a.heap[b]? =ae o->o≠eh->di o=au->(∀i,i<d.j->b≠d.W i)->d.ro b=ah->¬Xm b->M b)(MR:tR d M a r)(hK:d.K r):pC d u Xm a t (iH (Nm d M r) d.Fm r):=by
 have ZF:∀b,(∀i,i<d.j->b≠d.W i)->d.ro b=ah->d.Fm b=ah:=λb h1 h2=>by
  cases e:d.Fm b with
  |none=>rfl
  |some f=>
   rcases or_some (x:=ah) e with h|⟨_,h⟩
   .obtain⟨_,i,hi,rfl⟩:=X.fmW b f h;exact aT rfl (h1 i hi)
   .rw[h2]at h;cases h
 refine⟨by rw[(fE _ _ _).size];exact MR.size,λb o h1 h2 h3 h4=>?_,λi hi=>?_,λi hi x hx hb=>?_,λi hi b f h=>?_⟩
 .by_cases hn:di o=au
  .by_cases hr:d.ro b=ah
   .have hm:M b:=hM b o h1 h2 hn h3 hr h4;rw[hide_need (.inl hm),←MR.own b hm,h1,ZF b h3 hr];cases o<;>rfl
   .rw[hide_need (.inr (.inr (.inl hr))),←MR.ro b hr];exact h1
  .have qJ:di o=aw:=(by simpa using hn);rw[fp,MR.see b o h1 qJ];simp[qJ,qm qJ]
 .obtain⟨f,hf⟩:=X.Wfm i hi;obtain⟨c,e,hc,_⟩:=B.wok i f hi hf;have hwr:=(B.rest i hi).wr;refine⟨r,hwr,⟨c,e,f,hc,hf,?_⟩,U.pubW i _ r hi hwr⟩;have:d.Fm (d.W i)=ae f:=by simp[bp.Fm,hf]
  rw[hide_need (.inr (.inl ⟨i,hi,rfl⟩)),hc,this];rfl
 .rw[←hK.1.2.1 i hi x hx];exact(cell_chill ((fE (Nm d M r) d.Fm r).need (b:=x.1.block) (.inr (.inl ⟨i,hi,hb⟩)))).symm
 .obtain⟨_,c,e,hc⟩:=(B.rest i hi).fw b f h;rw[(fE _ _ _).size];exact aL hc
theorem Between.norm(X:d.Fit){r1:aj}(B1:Between d u t A' tp (jB d a1) Inb r1)(L1:DI d.cc (Nm d M r) d.Fm r a1 r1)(R1:Rel (Hid (Nm d M r) r) a1 r1):Sees (Nm d (jB d a1) r1) d.Fm a1 r1:=by
 refine L1.sees.norm (λb o hb ho=>?_) λb o hb hn=>⟨λhp=>?_,λh hp=>?_⟩
 .rcases hb with h|⟨i,hi,rfl⟩|h|h
  .by_cases hM:jB d a1 b
   .exact B1.oks b o (.inl hM) ho
   .have hn:=L1.sees.need (.inl h);rw[ho]at hn;by_cases xe:gI o=au
    .exact xe
    .exfalso;have hh:¬Hid (Nm d M r) r b:=λ⟨_,_,_,h2⟩=>h2 (.inl h);have:=R1.objs b hh _ hn;rw[qg]at this;exact xe this
  .exact B1.oks _ o (.inr (.inr (.inr ⟨i,hi,B1.tQ X hi⟩))) ho
  .exact B1.oks b o (.inr (.inr (.inl h))) ho
  .have hn:=L1.sees.need (.inr (.inr (.inr h)));rw[ho]at hn;have hh:¬Hid (Nm d M r) r b:=λ⟨_,_,_,h2⟩=>h2 (.inr (.inr (.inr h)));have:=R1.objs b hh _ hn;rwa [qg]at this
 .by_cases h1:∃i,i<d.j/\b=d.W i
  .exact .inr (.inl h1)
  .by_cases h2:d.ro b=ah
   .exact .inl ⟨o,hb,hp,hn,λi hi e=>h1 ⟨i,hi,e⟩,h2⟩
   .exact .inr (.inr (.inl h2))
 .subst hp;obtain⟨y,hy⟩:∃y,r1.heap[b]? =ae y:=by have:=aL hb;rw[L1.sees.size]at this;exact⟨_,fP this⟩
  have hcell:∀c e,y≠aK c e (0,0)\/¬Nm d M r b:=λc e=>by apply eV;intro hc;simp only[not_or]at hc;have:=L1.sees.need (Classical.not_not.1 hc.2);rw[hb,hy,Classical.not_not.1 hc.1,nC,tL]at this;cases this
  rcases h with⟨o',h1,h2,_⟩|⟨i,hi,rfl⟩|h|h
  .rw[hb]at h1;exact h2 (bj h1).symm
  .obtain⟨f,hf⟩:=X.Wfm i hi;obtain⟨c,e,hc,_⟩:=B1.wok i f hi hf;rw[hy]at hc;exact(hcell c e).elim (λh=>h (bj hc)) λh=>h (.inr (.inl ⟨i,hi,rfl⟩))
  .obtain⟨f,hf⟩:=nE.1 h;obtain⟨c,e,hc,_⟩:=B1.rook b f hf;rw[hy]at hc;exact(hcell c e).elim (λh=>h (bj hc)) λh'=>h' (.inr (.inr (.inl h)))
  .have:=aL hy;omega
theorem aeO{P:bh}{S:bN}{U:bp->fX}{Stop:Nat×bp->aB->List aB->aj->Prop}{i:Nat×bp}(hz:ZigC P au cs0 (JM U) Stop i fr fs a):
  i.2.P=P->i.2.S=S->i.2.cs0=cs0->i.2.Fit->(U i.2).Ok i.2->∀(A:Nat->aj) (tp:Nat->Nat) (M:Nat->Prop) (Inb:Nat->Option Seat) (D:Nat->WD) (fe:Nat->Bool) (q:Nat->Nat) (T:Trace) (gs:Array aY) (r:aj) (sl:Option (Nat×Nat)),
   Sees (Nm i.2 M r) i.2.Fm a r->Between i.2 (U i.2) i.1 A tp M Inb r->gs[0]? =ae (cy fr (fs++i.2.cs0))->CF i.2.cc 0 i.2.j 0 Inb .kd D fe q T gs r->
   ∃n m' T',runNT P n (bS gs r sl) T=(.next m',T')/\aa3 P S cs0 U Stop m' T':=by
 refine ZigC.along (λi fr fs a=>i.2.P=P->i.2.S=S->i.2.cs0=cs0->i.2.Fit->(U i.2).Ok i.2->∀(A:Nat->aj) (tp:Nat->Nat) (M:Nat->Prop) (Inb:Nat->Option Seat) (D:Nat->WD) (fe:Nat->Bool) (q:Nat->Nat) (T:Trace) (gs:Array aY) (r:aj) (sl:Option (Nat×Nat)),
   Sees (Nm i.2 M r) i.2.Fm a r->Between i.2 (U i.2) i.1 A tp M Inb r->gs[0]? =ae (cy fr (fs++i.2.cs0))->CF i.2.cc 0 i.2.j 0 Inb .kd D fe q T gs r->
   ∃n m' T',runNT P n (bS gs r sl) T=(.next m',T')/\aa3 P S cs0 U Stop m' T') ?_ hz
 clear hz;rintro⟨t,d⟩ fr fs a hz hPe hSe hce X V A tp M Inb D fe q T gs r sl jA B hg F;simp only at hPe hSe hce X V jA B hg F;subst hPe hSe hce;have O:=X.ok;have OK:=nS O;have hK:d.K r:=F.K;have hok:∀(b:Nat) o,Nm d M r b->r.heap[b]? =ae o->gI o=au:=λb o hb ho=>by
  rcases hb with h|⟨i,hi,rfl⟩|h|h
  .exact B.oks b o (.inl h) ho
  .exact B.oks _ o (.inr (.inr (.inr ⟨i,hi,B.tQ X hi⟩))) ho
  .exact B.oks b o (.inr (.inr (.inl h))) ho
  .have:=aL ho;omega
 have hfz:Aw d.Fm r:=B.fzM λb f h=>(X.fmW b f h).2;obtain⟨n1,m1,T1,Lp,gs1,r1,EW,jg,ny,a1,D1,aeL,q1,rfl,hg1,hat,L1,R1,F1⟩:=ace (main:=au) (sl:=sl) rfl OK aJ (yJ O (B.aeC X hK) B.chairs hK) hz jA hfz hok hg F;obtain⟨B1,MR1⟩:=B.main X V hK L1 R1;have hK1:d.K r1:=F1.K;rcases hat with eE|⟨K,⟨hJ,hC⟩,-⟩
 .exact⟨n1,_,T1,Lp,⟨gs1,r1,EW,t,d,jg,ny,a1,A,tp,Inb,D1,aeL,q1,rfl,rfl,rfl,rfl,X,V,hg1,eE,B1.norm X L1 R1,B1,F1⟩⟩
 rcases hJ with⟨k,cz,hk,qj,yL,Jv,⟨⟨H0,n0,G0,agS⟩⟩,rfl⟩|⟨Wk,tk,fk,Dj,xs,jC,kO,B',Nk,ob,cz,H,rfl⟩
 .
  obtain⟨z1,z2,wf2,ws2,aeP,⟨nf,hflee⟩,hgo⟩:=(B1.rest k hk).go qj;let yM:Nat->Option Seat:=λx=>if x=0 then ae (Seat.one d.come (aq af 0) aw λx=>x=cy cz (ny++d.cs0))else Inb x
  have DO:∀i,yM (i+1)=Inb (i+1):=λi=>aU ai;have hI10:yM 0=ae (Seat.one d.come (aq af 0) aw λx=>x=cy cz (ny++d.cs0)):=aX rfl;have ZB:d.ri yM:=λi s b hs hb=>by
   rcases i with _|i
   .rw[hI10]at hs;obtain rfl:=bj hs;exact .inl (Seat.one_has.1 hb)
   .rw[DO]at hs;exact B.chairs _ s b hs hb
  have A0:After d.cc 0 Inb yM H0 n0:=by
   refine⟨λs hs=>?_,λs b w hw hs hb=>?_,λi s s' b hi hs hs' hb hb'=>?_,λ_=>by rw[hI10];simp,λx hx=>ai,λi hi=>aU hi⟩
   .rw[hI10]at hs;obtain rfl:=bj hs;exact⟨agS,Seat.one_wf _ _ _ _⟩
   .rw[hI10]at hs;obtain rfl:=bj hs;obtain rfl:=Seat.one_has.1 hb;obtain⟨⟨_,_,k3⟩,⟨k',k4⟩,_,_⟩:=hw;exact⟨⟨k',k4⟩,bZ O.wc,λe=>by have e:d.come=d.C:=e;rw[e,k3]at k4;cases k4⟩
   .rw[hI10]at hs';obtain rfl:=bj hs';obtain rfl:=Seat.one_has.1 hb';obtain⟨i,rfl⟩:∃x,i=x+1:=⟨i-1,ai⟩;obtain⟨_,_,_,hi,rfl⟩:=B1.seats i s hs;rcases oO hb with e|e
    .exact aT e (O.ct i hi)
    .exact e
  obtain⟨n2,m2,T2,Mi,Uc,w2,k2,xd,D2,aeF,q2,g2,rfl,hr2,hc2,hg2,hh2,F2⟩:=OJ (sl:=EW) OK aJ (y:=k+1) ai aeP (kj:=0) rfl (EU O (bZ (O.gt k hk)) (O.wt k hk)) (G0 r1) A0 hg1 F1;obtain⟨B2,MR2⟩:=(B1.inb DO ZB).chan X V hK1 hr2 hc2 (bZ (O.wt k hk)) (.inr (.inr ⟨k,hk,rfl⟩));have MR2:=MR2 a1 MR1;generalize w2.setChan (d.turn k) 0 #[] aw (k2+1) (k2+1) aw=r2 at Mi F2 B2 MR2;have hK2:d.K r2:=F2.K;obtain rfl:g2=cy wf2 (ws2++d.cw k):=hh2;have hres:=B2.resume V hk;have hzw:=hgo (t+1) _ (by have:=(B1.rest k hk).le;omega) ⟨yL,Jv,λs h1 h2=>(B1.rest k hk).wait s h1 ai⟩ hres;obtain⟨n3,m3,T3,Ud,S5,r4,S6,D4,Gh,q4,A',tp',tS,v',rfl,hg4,F4,B4,YP⟩:=line (xd:=xd) X V hk yL hI10 B2 MR2 hg2 hzw F2;obtain⟨n5,m5,T5,hN5,hP5⟩:=hC (t+1,d) (cz.finish v') ny _ ⟨rfl,⟨_,rfl⟩,rfl,B4.OM (d0:=d) X V (λb o h1 h2 h3 h4 h5 _=>⟨o,h1,h2,h3,h4,h5⟩) YP F4.K⟩ rfl rfl rfl X V _ _ _ _ D4 Gh q4 T3 S5 r4 S6 (fE _ _ _) B4 hg4 F4;exact⟨n1+n2+n3+n5,m5,T5,dH (dH (dH Lp Mi) Ud) hN5,hP5⟩
 .
  obtain⟨n2,m2,T2,Mi,S5,r4,S6,D4,Gh,q4,A',tp',tS,v',rfl,hg4,F4,B4,YP⟩:=aeK (sl:=EW) X V H B1 MR1 L1.sees.size hg1 F1;obtain⟨n5,m5,T5,hN5,hP5⟩:=hC (t+1,d.grow Wk tk fk xs jC kO B') (cz.finish v') ny _ ⟨rfl,⟨_,rfl⟩,rfl,B4.OM (d0:=d) H.fit H.uok (λb o h1 h2 h3 h4 h5 h6=>⟨⟨o,h1,h2,h3,λi hi=>by have:=h4 i (Nat.lt_succ_of_lt hi);simp only[bp.grow]at this;rwa [aU ai]at this,h5⟩,λh=>h6 (.inl h),λh=>h6 (.inr h)⟩) YP F4.K⟩ rfl rfl rfl H.fit H.uok _ _ _ _ D4 Gh q4 T2 S5 r4 S6 (fE _ _ _) B4 hg4 F4;exact⟨n1+n2+n5,m5,T5,dH (dH Lp Mi) hN5,hP5⟩
end
end
section
open Go.Conc Go.ConcN
open Go.ConcR (KK WgAt stA smA rd wr mk Payload Aside2 DC0)
variable[fQ]
def CC.now(c:CC)(K':aj->Prop)(hs:∀w,K' w->c.K0 w):CC:={c with K:=K',sub:=hs}
omit[Payload]in
theorem goes_le{P:bh}{main:Bool}{D:aj->aj->Array cK->Prop}{Stop:aY->aj->Prop}:∀{n n':Nat} {g:aY} {w:aj},n<=n'->Goes P main R D Stop n g w->Goes P main R D Stop n' g w:=by
 intro n;induction n with
 |zero=>exact λ_ h=>gM h
 |succ n ih=>
  intro n' g w hn h;rcases h with h|⟨hs,h⟩
  .exact gM h
  .obtain⟨m,rfl⟩:∃m,n'=m+1:=⟨n'-1,ai⟩;refine .inr ⟨hs,λw₁ hr=>?_⟩;have:=h w₁ hr;cases e:bn P main g w₁ with
   |go g' w' es=>rw[e,cG]at this;rw[cG];exact⟨this.1,ih ai this.2⟩
   |_=>rw[e]at this;exact this.elim
section
variable{j:Nat}{fe:Nat->Bool}{w:aj}
def Mj(Inb:Nat->Option Seat)(fe:Nat->Bool)(kg:Nat->Nat)(z:Nat->ay):Nat->K2:=λi=>match Inb (i+1)with
 |some s=>.fl s (kg i) (z i)
 |none=>if fe i then .un else .wg
theorem closes{hs:∀w,K' w->c.K0 w}(O:c.Ok){es:Array cK}(hrun:a.status=.running)(hrun':a'.status=.running)(hmw:mayWake c.P a=au)
  (hcl:∀w₁,RH c w w₁->c.K w₁->∃w₂,bn c.P au a w₁=.go a' w₂ es/\K' w₂/\(∀b,b≠c.gone->w₂.heap[b]? =w₁.heap[b]?))(hes:∀e∈es,EvH c e)(hgw:c.gone≠c.Wg)(hgc:c.gone≠c.C)
  (hseat:∀i s,Inb (i+1)=ae s->s.cases[kg i]? =ae (dh c.gone (z i))/\∀g₂,s.home g₂->∃n',∀w,c.K0 w->c.DL i n' (mq g₂ (commResult s.cases s.shape (kg i) (z i) aw)) w)
  (hshut:∀w,K' w->∃k r:Nat,w.heap[c.gone]? =ae (Obj.chan 0 #[] au k r aw))(nQ:∀w,K' w->∀i s b,Inb (i+1)=ae s->s.has b->b≠c.gone->∃k:Nat,w.heap[b]? =ae (Obj.chan 0 #[] aw k k aw))
  (ha:gs[0]? =ae a)(F:CF c 0 j 0 Inb .kd D fe q T gs w):
  ∃N gs' w₁ w₂ sl' T' D' kd q',runNT c.P N (bS gs w sl) T=(.next (bS gs' w₂ sl'),T')/\RH c w w₁/\bn c.P au a w₁=.go a' w₂ es/\gs'[0]? =ae a'/\JF (c.now K' hs) j 0 .kd D' kd q' T' gs' w₂:=by
 obtain⟨N,gs,w₀,sl₁,T,w₁,oN,D,fe,q,hN,hst,ha,hr,F⟩:=await O aJ hrun (sl:=sl) ha F;obtain⟨w₂,hgo,hK',hb⟩:=hcl w₁ hr F.keep;have hstep:=mj (sl:=oN) (i:=0) ha (by simpa using hgo);obtain⟨cH,Ip,hno,tJ⟩:=A9 (c:=c) (i:=0) (fn:=a.frame.fn) (pos:=a.frame.place) hes;have hsz:=F.size;obtain⟨kc,rc,hgone⟩:=hshut w₂ hK';obtain⟨st,sm,hw,hm⟩:=F.group;have hw':WgAt c.ty c.Wg w₂ st sm:=(hb _ (bZ hgw)).trans hw;have hdum:w₂.heap[c.C]? =w₁.heap[c.C]? :=hb _ (bZ hgc);refine⟨N+1,_,w₁,w₂,oN,_,D,Mj Inb fe kg z,λi=>q (i+1),tM hN (hst.trans hstep),hr,hgo,iw (by simpa using F.hlt),?_⟩;refine⟨by simp[hsz],λi hi=>?_,hK',⟨st,sm,hw',hm⟩,F.pend,F.led.own cH Ip (λ_ h=>h.elim),by rw[tJ];exact F.deaf0,λi hi=>by rw[ig T (by omega:0≠i+1) _ cH];exact F.deafW i hi,λi hi=>?_,λop hop=>?_,λi hi hs=>?_,λop hop=>by simp only[zP,Array.size_map];exact(ib.1 hop).elim (F.who op) (λh=>by rw[cH op h];exact F.hlt)⟩
 .obtain⟨g,hg⟩:∃g,gs[i+1]? =ae g:=⟨gs[i+1]'ai,fP ai⟩;refine⟨woken c.P a a' w₂ g,by rw[gG ai,oH,hg];rfl,?_⟩;cases e:Inb (i+1)with
  |some s=>
   obtain⟨h7,A8⟩:=F.full i hi (.inl oM);obtain⟨hk,Iq⟩:=hseat i s e;have hsit:=F.seat (i+1) g s ai hg e;have hwf:=F.wf _ s e;have ek:Mj Inb fe kg z i=.fl s (kg i) (z i):=(by simp[Mj,e]);rw[ek];refine⟨h7,A8,?_,hwf,hk,hshut,λw hw b=>nQ w hw i s b e,Iq⟩;rcases hsit with⟨k,w₃,hq,hG⟩|⟨hq,g₀,g₂,rfl,hat⟩
   .have hr:g.status=.running:=kh (λ_ _ x=>x.choose_spec.1) w₁ (c.sub _ F.keep) hG;rw[mi (nB w₂ (.inl hr))];have:=kX (λ_ _ _ _ x=>x) hG (hs _ hK':RK c.K0 w₃ w₂);exact goes_le ai this
   .have hw:woken c.P a a' w₂ (parked g₂ s.cases s.shape)={parked g₂ s.cases s.shape with status:=.running}:=(by unfold woken;rw[aX (by simp[hmw,hrun'])];exact again_some_closed hk hgone);rw[hw];exact gM λ_ _=>⟨g₂,hat.tries _ _⟩
  |none=>
   rcases F.work i g ai hg e with⟨hu,h7,A8,hU⟩|⟨hu,hW⟩
   .have ek:Mj Inb fe kg z i=.un:=(by simp[Mj,e,hu]);rw[ek,mi (nB w₂ (.inl (kh (λ_ _ x=>x.1) w₁ (c.sub _ F.keep) hU)))];exact⟨h7,A8,kX (λ_ _ _ _ x=>x) (aez hU) (hs _ hK':RK c.K0 w₁ w₂)⟩
   .have ek:Mj Inb fe kg z i=.wg:=(by simp[Mj,e,hu]);rw[ek,mi (nB w₂ hW.status)];exact j5.rely hW ⟨λb hb=>aT hb (fR b),λ_=>⟨st,sm,hw'⟩,λ⟨cs,h1,h2⟩=>⟨cs,hdum.trans h1,h2⟩,cell_of_block hdum _⟩
 .simp only[zP,Array.size_map]at hi;rw[ig T (by omega:0≠i) _ cH];exact F.above i hi
 .rcases ib.1 hop with h1|h1
  .exact F.norel op h1
  .exact hno op h1
 .obtain⟨r,hr⟩:=F.rel i hi hs;exact⟨r,hr.appOther cH ai⟩
end
end
section
open Go.Conc Go.ConcN
open Go.ConcR (KK WgAt stA smA rd wr mk Payload Aside2 DC0)
variable[fQ]
theorem j5.running_of{P:bh}{ty:bq}{Wg C n s d:Nat}{g:aY}{w:aj}(h:j5 P ty Wg C n k s m d g w)(h1:s≠1):g.status=.running:=by
 cases h with
 |r0 h=>exact kh (λ_ _ x=>x.1) w (RW.refl w) h
 |low _ h'=>exact h'.running_of h1
structure wm(C Wg:Nat)(w w₁:aj):Prop where
 tape:w₁.tape=w.tape
 os:w₁.os=w.os
 output:w₁.output=w.output
 size:w.heap.size<=w₁.heap.size
 block:∀k,k<w.heap.size->k≠C->k≠Wg->w₁.heap[k]? =w.heap[k]?
structure ot(ty:bq)(Wg C:Nat)(w w₁:aj):Prop where
 aside:wm C Wg w w₁
 live:dG ty Wg w->dG ty Wg w₁
omit[Payload]in
theorem ot.refl{ty:bq}{Wg C:Nat}(w:aj):ot ty Wg C w w:=⟨⟨rfl,rfl,rfl,bJ _,λ_ _ _ _=>rfl⟩,id⟩
omit[Payload]in
theorem ot.at{ty:bq}{Wg C:Nat}(w:aj)(d:Nat):ot ty Wg C w (w.at d):=⟨⟨rfl,rfl,rfl,bJ _,λ_ _ _ _=>rfl⟩,id⟩
omit[Payload]in
theorem ot.trans{ty:bq}{Wg C:Nat}{a b d:aj}(h:ot ty Wg C a b)(k:ot ty Wg C b d):ot ty Wg C a d:=⟨⟨k.aside.tape.trans h.aside.tape,k.aside.os.trans h.aside.os,k.aside.output.trans h.aside.output,dm h.aside.size k.aside.size,λx h0 h1 h2=>(k.aside.block x (iR h0 h.aside.size) h1 h2).trans (h.aside.block x h0 h1 h2)⟩,k.live∘h.live⟩
omit[Payload]in
theorem SY.rc{w:aj}(h:SY c w w'):ot c.ty c.Wg c.C w w':=⟨⟨h.tape,h.os,h.output,h.size,λb h0 _ h2=>h.block b h0 h2⟩,h.live⟩
section
variable(P:bh)(ty:bq)(Wg C:Nat)(Rd:Nat->Loc->Prop)(n Low:Nat)(gC Fin:aY->aj->Prop)
abbrev GP(Stop:aY->aj->Prop):Nat->aY->aj->Prop:=Goes P au (ot ty Wg C) (DP Wg Dz Rd n Low) Stop
def aeQ(g:aY)(w:aj):Prop:=g.status=.running/\∃g',bn P au g w=.go g' w #[mk (.acquire (stA Wg))]/\∃m,GP P ty Wg C Rd n Low Fin m g' w
def JEn(g:aY)(w:aj):Prop:=g.status=.running/\∃g',bn P au g w=.go g' w #[mk .enable]/\∃m,GP P ty Wg C Rd n Low (aeQ P ty Wg C Rd n Low Fin) m g' w
def J4(g:aY)(w:aj):Prop:=g.status=.running/\(WgAt ty Wg w 0 0->∃g',bn P au g w=.go g' w #[rd (stA Wg)]/\∃m,GP P ty Wg C Rd n Low (JEn P ty Wg C Rd n Low Fin) m g' w)
def J3(g:aY)(w:aj):Prop:=
 g.status=.running/\g.offers=ah/\((∃st,WgAt ty Wg w st 0)->bn P au g w=.go {g with status:=.blocked} w #[])/\
  (WgAt ty Wg w 0 1->∃g',bn P au g w=.go g' (w.setCell (smA Wg) (.int .u32 0)) (semEvents (smA Wg))/\∃m,GP P ty Wg C Rd n Low (J4 P ty Wg C Rd n Low Fin) m g' (w.setCell (smA Wg) (.int .u32 0)))
def J2(vs:Nat)(g:aY)(w:aj):Prop:=
 g.status=.running/\∀v:Nat,v<2147483648->WgAt ty Wg w (v*KK) 0->
  (v=vs->∃g',bn P au g w=.go g' (w.setCell (stA Wg) (.int .u64 (v*KK+1))) #[rd (stA Wg),wr (stA Wg)]/\∃m,GP P ty Wg C Rd n Low (J3 P ty Wg C Rd n Low Fin) m g' (w.setCell (stA Wg) (.int .u64 (v*KK+1))))/\
  (v≠vs->∃g',bn P au g w=.go g' w #[rd (stA Wg)]/\∃m,GP P ty Wg C Rd n Low gC m g' w)
def J1(g:aY)(w:aj):Prop:=
 g.status=.running/\∀v:Nat,v<2147483648->WgAt ty Wg w (v*KK) 0->∃g',bn P au g w=.go g' w #[rd (stA Wg)]/\
  (v=0->∃m,GP P ty Wg C Rd n Low (JEn P ty Wg C Rd n Low Fin) m g' w)/\(v≠0->∃m,GP P ty Wg C Rd n Low (J2 P ty Wg C Rd n Low gC Fin v) m g' w)
def J0(g:aY)(w:aj):Prop:=g.status=.running/\∃g',bn P au g w=.go g' w #[mk .disable]/\∃m,GP P ty Wg C Rd n Low gC m g' w
inductive MSit:CTag->Nat->Nat->aY->aj->Prop
 |kd {m:Nat} {g:aY} {w:aj}:GP P ty Wg C Rd n Low (J0 P ty Wg C Rd n Low gC) m g w->MSit .kd m 0 g w
 |anch {m:Nat} {g:aY} {w:aj}:GP P ty Wg C Rd n Low gC m g w->MSit .anch m 1 g w
 |w1 {m:Nat} {g:aY} {w:aj}:GP P ty Wg C Rd n Low (J1 P ty Wg C Rd n Low gC Fin) m g w->MSit .w1 m 1 g w
 |w2 {vs m:Nat} {g:aY} {w:aj}:GP P ty Wg C Rd n Low (J2 P ty Wg C Rd n Low gC Fin vs) m g w->MSit (.w2 vs) m 1 g w
 |w3 {m:Nat} {g:aY} {w:aj}:GP P ty Wg C Rd n Low (J3 P ty Wg C Rd n Low Fin) m g w->MSit .w3 (m+1) 1 g w
 |blk {g:aY} {w:aj}:(∀w₁,ot ty Wg C w w₁->J3 P ty Wg C Rd n Low Fin g w₁)->MSit .blk 0 1 {g with status:=.blocked} w
 |w4 {m:Nat} {g:aY} {w:aj}:GP P ty Wg C Rd n Low (J4 P ty Wg C Rd n Low Fin) m g w->MSit .w4 m 1 g w
 |ke {m:Nat} {g:aY} {w:aj}:GP P ty Wg C Rd n Low (JEn P ty Wg C Rd n Low Fin) m g w->MSit .ke m 1 g w
 |acq {m:Nat} {g:aY} {w:aj}:GP P ty Wg C Rd n Low (aeQ P ty Wg C Rd n Low Fin) m g w->MSit .acq m 0 g w
 |ret {m:Nat} {g:aY} {w:aj}:GP P ty Wg C Rd n Low Fin m g w->MSit .ret m 0 g w
end
section
variable{P:bh}{ty:bq}{Wg C:Nat}{Rd:Nat->Loc->Prop}{n Low:Nat}{gC Fin:aY->aj->Prop}{tag:CTag}{f d:Nat}{g:aY}{w:aj}
omit[Payload]in
theorem MSit.rely(h:MSit P ty Wg C Rd n Low gC Fin tag f d g w)(hr:ot ty Wg C w w'):MSit P ty Wg C Rd n Low gC Fin tag f d g w':=by
 have tr:∀a b c,ot ty Wg C a b->ot ty Wg C b c->ot ty Wg C a c:=λ_ _ _ h1 h2=>h1.trans h2;cases h with
 |kd h=>exact .kd (kX tr h hr)
 |anch h=>exact .anch (kX tr h hr)
 |w1 h=>exact .w1 (kX tr h hr)
 |w2 h=>exact .w2 (kX tr h hr)
 |w3 h=>exact .w3 (kX tr h hr)
 |blk h=>exact .blk λw₁ h₁=>h w₁ (hr.trans h₁)
 |w4 h=>exact .w4 (kX tr h hr)
 |ke h=>exact .ke (kX tr h hr)
 |acq h=>exact .acq (kX tr h hr)
 |ret h=>exact .ret (kX tr h hr)
omit[Payload]in
theorem MSit.status(hA:∀g w,gC g w->g.status=.running)(hF:∀g w,Fin g w->g.status=.running)(h:MSit P ty Wg C Rd n Low gC Fin tag f d g w):
  (g.status=.running/\tag≠.blk)\/(tag=.blk/\f=0/\d=1/\g.status=.blocked/\g.offers=ah/\∃g₀,g={g₀ with status:=.blocked}/\∀w₁,ot ty Wg C w w₁->J3 P ty Wg C Rd n Low Fin g₀ w₁):=by
 cases h with
 |kd h=>exact .inl ⟨kh (λ_ _ x=>x.1) w (ot.refl w) h,aJ⟩
 |anch h=>exact .inl ⟨kh hA w (ot.refl w) h,aJ⟩
 |w1 h=>exact .inl ⟨kh (λ_ _ x=>x.1) w (ot.refl w) h,aJ⟩
 |w2 h=>exact .inl ⟨kh (λ_ _ x=>x.1) w (ot.refl w) h,aJ⟩
 |w3 h=>exact .inl ⟨kh (λ_ _ x=>x.1) w (ot.refl w) h,aJ⟩
 |blk h=>exact .inr ⟨rfl,rfl,rfl,rfl,(h w (ot.refl w)).2.1,_,rfl,h⟩
 |w4 h=>exact .inl ⟨kh (λ_ _ x=>x.1) w (ot.refl w) h,aJ⟩
 |ke h=>exact .inl ⟨kh (λ_ _ x=>x.1) w (ot.refl w) h,aJ⟩
 |acq h=>exact .inl ⟨kh (λ_ _ x=>x.1) w (ot.refl w) h,aJ⟩
 |ret h=>exact .inl ⟨kh hF w (ot.refl w) h,aJ⟩
omit[Payload]in
theorem MSit.woken(hA:∀g w,gC g w->g.status=.running)(hF:∀g w,Fin g w->g.status=.running)(h:MSit P ty Wg C Rd n Low gC Fin tag f d g w)(hr:ot ty Wg C w w')(x x':aY):
  ∃cJ f',(cJ=tag\/(tag=.blk/\cJ=.w3))/\(mayWake P x=au->x'.status=.running->cJ≠.blk)/\MSit P ty Wg C Rd n Low gC Fin cJ f' d (Go.Conc.woken P x x' w' g) w'/\f'<=f+1:=by
 rcases h.status hA hF with⟨hs,ht⟩|⟨rfl,rfl,rfl,_,ho,g₀,rfl,h3⟩
 .exact⟨tag,f,.inl rfl,λ_ _=>ht,by rw[mi (nB w' (.inl hs))];exact h.rely hr,ai⟩
 .by_cases hw:(mayWake P x&&x'.status !=.blocked&&x'.status !=.waiting)=au
  .have e:Go.Conc.woken P x x' w' {g₀ with status:=.blocked}=g₀:=(by have h1:=(h3 w (ot.refl w)).1;have xe:g₀.offers=ah:=(h3 w (ot.refl w)).2.1;unfold Go.Conc.woken;rw[aX hw];obtain⟨fr,cs,st,dy,off⟩:=g₀;simp only at h1 xe;subst h1 xe;simp[Goroutine.again]);rw[e];exact⟨.w3,1,.inr ⟨rfl,rfl⟩,λ_ _=>aJ,.w3 (m:=0) (gM λw₁ h₁=>h3 w₁ (hr.trans h₁)),ai⟩
  .refine⟨.blk,0,.inl rfl,λh1 h2=>aT (by rw[h1,h2];rfl) hw,?_,ai⟩;unfold Go.Conc.woken;rw[aU hw];exact .blk λw₁ h₁=>h3 w₁ (hr.trans h₁)
end
section
variable{j:Nat}{tag:CTag}{kd:Nat->K2}{w:aj}
theorem JF.Gc(F:JF c j d0 tag D kd q T gs w){pos:String}{es:Array cK}(hK:c.K w')(hdum:w'.heap[c.C]? =w.heap[c.C]?)(hgroup:∃st sm,WgAt c.ty c.Wg w' st sm/\ConcN.Mode j D cJ st sm)
  (hpend:j+ConcN.pend cJ<2147483648)(hes:∀e∈es,Jg c e)(hsz:gs'.size=gs.size)(ml:∀x,x<j->gs'[x+1]? =gs[x+1]?):JF c j (deafBehind d0 es) cJ D kd q (T++eM 0 fn pos es) gs' w':=by
 have cH:∀op∈eM 0 fn pos es,op.g=0:=λop hop=>by obtain⟨e,_,rfl⟩:=iK hop;rfl
 have hs:∀op∈eM 0 fn pos es,∀b,op.act.touch? =ae b->(∀g,c.S g b.loc->b.write=aw)/\(ShN c.Wg b.loc->b.kind≠.plain):=λop hop b hb=>by obtain⟨e,h,rfl⟩:=iK hop;exact(hes e h).1 b hb
 have hno:∀op∈eM 0 fn pos es,op.act≠.mark (.release (stA c.Wg)):=λop hop hm=>by obtain⟨ev,L9,rfl⟩:=iK hop;refine(hes ev L9).2 ?_;obtain⟨loc,wr,sy⟩:=ev;cases loc<;>simp_all [fH] <;>(split at hm<;>simp_all)
 obtain⟨st,sm,hw',hm⟩:=hgroup;refine⟨hsz.trans F.size,λi hi=>?_,hK,⟨st,sm,hw',hm⟩,hpend,F.led.own cH hs (λ_ h=>h.elim),by rw[Deaf_own,F.deaf0],λi hi=>?_,λi hi=>?_,λop hop=>?_,λi hi hst=>?_,λop hop=>by rw[hsz];exact(ib.1 hop).elim (F.who op) (λh=>by rw[cH op h];have:=F.size;omega)⟩
 .obtain⟨g,h1,h2⟩:=F.work i hi;exact⟨g,by rw[ml i hi];exact h1,h2.rely hK ⟨λb hb=>aT hb (fR b),λ_=>⟨st,sm,hw'⟩,λ⟨cs,h1,h2⟩=>⟨cs,hdum.trans h1,h2⟩,cell_of_block hdum _⟩⟩
 .rw[ig T (by omega:0≠i+1) _ cH];exact F.deafW i hi
 .rw[hsz]at hi;have:=F.size;rw[ig T (by omega:0≠i) _ cH];exact F.above i hi
 .rcases ib.1 hop with h1|h1
  .exact F.norel op h1
  .exact hno op h1
 .obtain⟨r,hr⟩:=F.rel i hi hst;exact⟨r,hr.appOther cH ai⟩
def Moved0(c:CC)(j:Nat)(Rd:Nat->Loc->Prop)(n Low:Nat)(gC Fin:aY->aj->Prop)(tag:CTag)(f:Nat)(D:Nat->WD)(kd:Nat->K2)(q:Nat->Nat)(T:Trace)(gs:Array aY)(w:aj)(sl:Option (Nat×Nat)):Prop:=
 ∃gs' w' ops cJ f' d' a',runT c.P (bS gs w sl) 0=(.next (bS gs' w' sl),ops)/\gs'[0]? =ae a'/\MSit c.P c.ty c.Wg c.C Rd n Low gC Fin cJ f' d' a' w'/\JF c j d' cJ D kd q (T++ops) gs' w'/\
  (phi j (Vc j D) cJ<phi j (Vc j D) tag\/(phi j (Vc j D) cJ=phi j (Vc j D) tag/\f'<f))/\(cJ=.ret->AcqAll c.Wg j (T++ops))
theorem JF.step0(F:JF c j d0 tag D kd q T gs w)(O:c.Ok){Rd:Nat->Loc->Prop}{n Low:Nat}{gC Fin:aY->aj->Prop}(ZE:∀w w' es,DP c.Wg Dz Rd n Low w w' es->Ln c (λ_=>ah) 0 w w' es)
  (hAn:∀g w,gC g w->∃m,GP c.P c.ty c.Wg c.C Rd n Low (J1 c.P c.ty c.Wg c.C Rd n Low gC Fin) m g w){f:Nat}(ha:gs[0]? =ae a)(hM:MSit c.P c.ty c.Wg c.C Rd n Low gC Fin tag f d0 a w)(hrun:a.status=.running)(DT:tag≠.ret)(hsp:∀r s,tag≠.sp r s):
  Moved0 c j Rd n Low gC Fin tag f D kd q T gs w sl:=by
 have hsz:=F.size;have hp0:∀tg,(∀r s,tg≠CTag.sp r s)->ConcN.pend tg=0:=λtg h=>by cases tg<;>first|rfl|exact aT rfl (h _ _)
 have hpj:∀tg,(∀r s,tg≠CTag.sp r s)->j+ConcN.pend tg<2147483648:=λtg h=>by rw[hp0 tg h];have:=F.pend;omega
 have get:∀(a':aY) (w':aj) (x:Nat),x<j->((gs.map (woken c.P a a' w')).setIfInBounds 0 a')[x+1]? =gs[x+1]? :=by intro a' w' x hx;obtain⟨y,hy,hW⟩:=F.work x hx;rw[gG ai,oH,hy];simp[mi (nB w' (hW.status F.keep))]
 have acn:∀(a':aY) (w':aj),((gs.map (woken c.P a a' w')).setIfInBounds 0 a')[0]? =ae a':=λa' w'=>iw (by simp[hsz]);obtain⟨st,sm,lI,jh⟩:=F.group;have hVj:=Vc_le j D;have hVb:Vc j D<2147483648:=by have:=F.pend;omega
 have act:∀{a':aY} {w':aj} {es:Array cK} {cJ:CTag} {f':Nat} {ER Lm:Int},bn c.P au a w=.go a' w' es->Aside c.Wg w w'->WgAt c.ty c.Wg w' ER Lm->ConcN.Mode j D cJ ER Lm->(∀r s,cJ≠.sp r s)->(∀e∈es,Jg c e)->
   MSit c.P c.ty c.Wg c.C Rd n Low gC Fin cJ f' (deafBehind d0 es) a' w'->(phi j (Vc j D) cJ<phi j (Vc j D) tag\/(phi j (Vc j D) cJ=phi j (Vc j D) tag/\f'<f))->(cJ=.ret->AcqAll c.Wg j (T++eM 0 a.frame.fn a.frame.place es))->Moved0 c j Rd n Low gC Fin tag f D kd q T gs w sl:=by
  intro a' w' es cJ f' ER Lm hgo hA hw' vx Ug hes Mk agT aco;have hr:RH c w w':=⟨hA.tape,hA.os,hA.output,hA.size,λb h1=>hA.block b h1,λ_=>⟨_,_,hw'⟩⟩;exact⟨_,w',_,cJ,f',_,a',mj (sl:=sl) (i:=0) ha (by simpa using hgo),acn a' w',Mk,F.Gc (O.keep _ _ hr.g F.keep) (hA.block _ O.away) ⟨ER,Lm,hw',vx⟩ (hpj cJ Ug) hes aJ (get a' w'),agT,aco⟩
 have idle:∀{a':aY} {w':aj} {es:Array cK} {f':Nat},bn c.P au a w=.go a' w' es->DP c.Wg Dz Rd n Low w w' es->MSit c.P c.ty c.Wg c.C Rd n Low gC Fin tag f' d0 a' w'->f'<f->Moved0 c j Rd n Low gC Fin tag f D kd q T gs w sl:=by intro a' w' es f' hgo hd Mk hf;have hD:=ZE _ _ _ hd;have tJ:deafBehind d0 es=d0:=deafBehind_still (λe h=>⟨(hD.evs e h).2.1,(hD.evs e h).2.2.1⟩) _;refine⟨_,w',_,tag,f',_,a',mj (sl:=sl) (i:=0) ha (by simpa using hgo),acn a' w',by rw[tJ];exact Mk,F.Gc (hD.keep F.keep) hD.dum ⟨st,sm,hD.wg.trans lI,jh⟩ F.pend (λe h=>⟨(hD.evs e h).1,(hD.evs e h).2.2.2⟩) aJ (get a' w'),.inr ⟨rfl,hf⟩,λe=>aT e DT⟩
 have mkE:∀m,m≠.release (stA c.Wg)->(MemAct.mark m).touch? =ah->∀e∈#[Go.ConcR.mk m],Jg c e:=by intro m h1 h2 e he;simp at he;subst he;exact⟨λx hx=>(by simp only[Go.ConcR.mk,fH]at hx;rw[h2]at hx;cases hx),(by simp[Go.ConcR.mk,h1])⟩
 have wgE:∀(ad:aP) (wr:Bool),ad.block=c.Wg->Jg c ⟨.cell ad,wr,au⟩:=λad wr hb=>⟨λx hx=>(by cases wr<;>(simp only[fH,ly,dD]at hx;subst hx;exact⟨λg hg=>aT ⟨_,rfl,hb⟩ (O.still g _ hg).2,λ_=>aJ⟩)),aJ⟩;have opn:∀{tg:CTag},isOpen tg->(∀r s,tg≠.sp r s)->ConcN.Mode j D tag st sm->isOpen tag->OpenSt j D/\st=((Vc j D:Nat):Int) *KK/\sm=0/\((∀vs,tg=.w2 vs->Vc j D<=vs/\1<=vs)->ConcN.Mode j D tg (((Vc j D:Nat):Int) *KK) 0):=by
  intro tg ht hs hm ho;cases hm with
  |opn h1 h2 h3=>refine⟨h2,by rw[hp0 tag hsp];simp,rfl,λh=>?_⟩;have:=ConcN.Mode.opn (j:=j) (D:=D) (tag:=tg) ht h2 h;rwa [hp0 tg hs,Nat.add_zero]at this
  |reg h1 _ _=>cases tag<;>first|exact h1.elim|exact ho.elim
  |last L h1 _ _ _=>cases tag<;>first|exact h1.elim|exact ho.elim
  |sema _=>exact ho.elim
  |fin h1 _=>cases tag<;>first|exact h1.elim|exact ho.elim
 have load:isOpen tag->8*Vc j D+5<=phi j (Vc j D) tag->d0=1->∀m,GP c.P c.ty c.Wg c.C Rd n Low (J1 c.P c.ty c.Wg c.C Rd n Low gC Fin) m a w->(∀a' w' f',MSit c.P c.ty c.Wg c.C Rd n Low gC Fin .w1 f' 1 a' w'->f'<m->∀es,bn c.P au a w=.go a' w' es->DP c.Wg Dz Rd n Low w w' es->Moved0 c j Rd n Low gC Fin tag f D kd q T gs w sl)->Moved0 c j Rd n Low gC Fin tag f D kd q T gs w sl:=by
  intro ho hph hd1 m hG pD;rcases lx hG with eE|⟨m',vx,hstep⟩
  .obtain⟨_,hall⟩:=eE w (ot.refl w);obtain⟨hop,rfl,rfl,hmk⟩:=opn (tg:=.w2 (Vc j D)) trivial aJ jh ho;obtain⟨g',hgo,h0,h1⟩:=hall (Vc j D) hVb lI;have hes:∀e∈#[rd (stA c.Wg)],Jg c e:=(by intro e he;simp at he;subst he;exact wgE _ _ rfl);have tJ:deafBehind d0 #[rd (stA c.Wg)]=1:=(by rw[hd1];rfl);by_cases hv:Vc j D=0
   .obtain⟨m2,hk⟩:=h0 hv;have hq:AllQuit j D:=λi hi=>(by have h2:=hop i hi;have h3:=le_sumTo (f:=λx=>cnt (D x)) hi;simp only[Vc]at hv;have h4:cnt (D i)=0:=ai;simp only[cnt]at h4;split at h4<;>omega);refine act hgo (.refl c.Wg w) lI (by rw[hv];simpa using ConcN.Mode.fin (j:=j) (D:=D) (tag:=.ke) trivial hq) aJ hes (by rw[tJ];exact .ke hk) (.inl ?_) aJ;rw[show phi j (Vc j D) .ke=3 from rfl];omega
   .obtain⟨m2,hk⟩:=h1 hv;refine act hgo (.refl c.Wg w) lI (hmk λvs e=>by cases e;omega) aJ hes (by rw[tJ];exact .w2 hk) (.inl ?_) aJ;rw[show phi j (Vc j D) (.w2 (Vc j D))=8*Vc j D+4 from rfl];omega
  .obtain⟨g',w',es,hgo,hd,nA⟩:=hstep w (ot.refl w);exact pD g' w' m' (.w1 nA) ai es hgo hd
 cases hM with
 |kd h=>
  rcases lx h with eE|⟨m',rfl,hstep⟩
  .obtain⟨_,g',hgo,m2,hk⟩:=eE w (ot.refl w);obtain⟨_,rfl,rfl,hmk⟩:=opn (tg:=.anch) trivial aJ jh trivial;exact act hgo (.refl c.Wg w) lI (hmk aJ) aJ (mkE .disable aJ rfl) (.anch hk) (.inl vy) aJ
  .obtain⟨g',w',es,hgo,hd,nA⟩:=hstep w (ot.refl w);exact idle hgo hd (.kd nA) ai
 |anch h=>
  rcases lx h with eE|⟨m',rfl,hstep⟩
  .obtain⟨m,hG⟩:=hAn a w (eE w (ot.refl w));refine load trivial vy rfl m hG λa' w' f' Mk hf es hgo hd=>?_;have hD:=ZE _ _ _ hd;have tJ:deafBehind 1 es=1:=deafBehind_still (λe h=>⟨(hD.evs e h).2.1,(hD.evs e h).2.2.1⟩) _;obtain⟨_,rfl,rfl,hmk⟩:=opn (tg:=.w1) trivial aJ jh trivial;exact⟨_,w',_,.w1,f',_,a',mj (sl:=sl) (i:=0) ha (by simpa using hgo),acn a' w',by rw[tJ];exact Mk,F.Gc (hD.keep F.keep) hD.dum ⟨_,_,hD.wg.trans lI,hmk aJ⟩ (hpj _ aJ) (λe h=>⟨(hD.evs e h).1,(hD.evs e h).2.2.2⟩) aJ (get a' w'),.inl vy,aJ⟩
  .obtain⟨g',w',es,hgo,hd,nA⟩:=hstep w (ot.refl w);exact idle hgo hd (.anch nA) ai
 |w1 h=>exact load trivial vy rfl _ h λa' w' f' Mk hf es hgo hd=>idle hgo hd Mk hf
 | @w2 vs _ _ _ h=>
  rcases lx h with eE|⟨m',rfl,hstep⟩
  .obtain⟨_,hall⟩:=eE w (ot.refl w);have hvs:Vc j D<=vs/\1<=vs:=by
    cases jh with
    |opn _ _ h3=>exact h3 vs rfl
    |reg h1 _ _=>exact h1.elim
    |last L h1 _ _ _=>exact h1.elim
    |fin h1 _=>exact h1.elim
   obtain⟨hop,rfl,rfl,hmk⟩:=opn (tg:=.anch) trivial aJ jh trivial;obtain⟨hit,agU⟩:=hall (Vc j D) hVb lI;by_cases hv:Vc j D=vs
   .obtain⟨g',hgo,m2,hk⟩:=hit hv;exact act hgo (aside_setCell w (stA c.Wg) _) (lI.setSt _) (.reg (j:=j) (D:=D) (tag:=.w3) trivial hop ai) aJ (by intro e he;simp at he;rcases he with rfl|rfl<;>exact wgE _ _ rfl) (.w3 hk) (.inl vy) aJ
   .obtain⟨g',hgo,m2,hk⟩:=agU hv;exact act hgo (.refl c.Wg w) lI (hmk aJ) aJ (by intro e he;simp at he;subst he;exact wgE _ _ rfl) (.anch hk) (.inl vy) aJ
  .obtain⟨g',w',es,hgo,hd,nA⟩:=hstep w (ot.refl w);exact idle hgo hd (.w2 nA) ai
 |w3 h=>
  rcases lx h with eE|⟨m',rfl,hstep⟩
  .obtain⟨_,_,hblk,hgot⟩:=eE w (ot.refl w);have blk:sm=0->ConcN.Mode j D .blk st sm->Moved0 c j Rd n Low gC Fin .w3 _ D kd q T gs w sl:=λh0 hm=>(by subst h0;have hgo:=hblk ⟨st,lI⟩;exact act hgo (.refl c.Wg w) lI hm aJ aJ (.blk eE) (.inr ⟨by simp only[phi],ai⟩) aJ);cases jh with
   |opn h1 _ _=>exact h1.elim
   |reg _ h2 h3=>exact blk rfl (.reg trivial h2 h3)
   |last L _ h2 h3 h4=>exact blk rfl (.last L trivial h2 h3 h4)
   |sema h2=>
    obtain⟨g',hgo,m2,hk⟩:=hgot lI;refine act hgo (aside_setCell w (smA c.Wg) _) (lI.setSm 0) (.fin (j:=j) (D:=D) (tag:=.w4) trivial h2) aJ (λe he=>?_) (by simpa[deafBehind,semEvents]using MSit.w4 hk) (.inl vy) aJ;simp[semEvents]at he;rcases he with rfl|rfl|rfl|rfl
    .exact mkE .disable aJ rfl _ (by simp[Go.ConcR.mk])
    .exact wgE _ _ rfl
    .exact wgE _ _ rfl
    .exact mkE .enable aJ rfl _ (by simp[Go.ConcR.mk])
   |fin h1 _=>exact h1.elim
  .obtain⟨g',w',es,hgo,hd,nA⟩:=hstep w (ot.refl w);exact idle hgo hd (.w3 nA) ai
 |blk h=>cases hrun
 |w4 h=>
  rcases lx h with eE|⟨m',rfl,hstep⟩
  .obtain⟨_,hx⟩:=eE w (ot.refl w);cases jh with
   |fin _ h2=>obtain⟨g',hgo,m2,hk⟩:=hx lI;exact act hgo (.refl c.Wg w) lI (.fin (j:=j) (D:=D) (tag:=.ke) trivial h2) aJ (by intro e he;simp at he;subst he;exact wgE _ _ rfl) (.ke hk) (.inl vy) aJ
   |opn h1 _ _=>exact h1.elim
   |reg h1 _ _=>exact h1.elim
   |last L h1 _ _ _=>exact h1.elim
  .obtain⟨g',w',es,hgo,hd,nA⟩:=hstep w (ot.refl w);exact idle hgo hd (.w4 nA) ai
 |ke h=>
  rcases lx h with eE|⟨m',rfl,hstep⟩
  .obtain⟨_,g',hgo,m2,hk⟩:=eE w (ot.refl w);cases jh with
   |fin _ h2=>exact act hgo (.refl c.Wg w) lI (.fin (j:=j) (D:=D) (tag:=.acq) trivial h2) aJ (mkE .enable aJ rfl) (.acq hk) (.inl vy) aJ
   |opn h1 _ _=>exact h1.elim
   |reg h1 _ _=>exact h1.elim
   |last L h1 _ _ _=>exact h1.elim
  .obtain⟨g',w',es,hgo,hd,nA⟩:=hstep w (ot.refl w);exact idle hgo hd (.ke nA) ai
 |acq h=>
  rcases lx h with eE|⟨m',rfl,hstep⟩
  .obtain⟨_,g',hgo,m2,hk⟩:=eE w (ot.refl w);cases jh with
   |fin _ h2=>refine act hgo (.refl c.Wg w) lI (.fin (j:=j) (D:=D) (tag:=.ret) trivial h2) aJ (mkE (.acquire _) aJ rfl) (.ret hk) (.inl vy) λ_=>?_;have e1:eM 0 a.frame.fn a.frame.place #[Go.ConcR.mk (.acquire (stA c.Wg))]=#[{g:=0,fn:=a.frame.fn,pos:=a.frame.place,act:=.mark (.acquire (stA c.Wg))}]:=(by rw[ofEvents_eq];simp[Go.ConcR.mk,fH]);rw[e1];have hy:(T++ #[({g:=0,fn:=a.frame.fn,pos:=a.frame.place,act:=.mark (.acquire (stA c.Wg))}:MemOp)])[T.size]? =ae {g:=0,fn:=a.frame.fn,pos:=a.frame.place,act:=.mark (.acquire (stA c.Wg))}:=aJ;refine⟨T.size,by rw[act?_of hy],by rw[g?_of hy],⟨0,by rw[g?_of hy],by rw[deaf_old (bJ _)];exact F.deaf0⟩,λi hi=>?_⟩;obtain⟨r,hr⟩:=F.rel i hi (by rw[h2 i hi];omega);exact⟨r,hr.appOther (g:=0) (by intro op hop;simp at hop;subst hop;rfl) ai,lt_of_act? hr.act⟩
   |opn h1 _ _=>exact h1.elim
   |reg h1 _ _=>exact h1.elim
   |last L h1 _ _ _=>exact h1.elim
  .obtain⟨g',w',es,hgo,hd,nA⟩:=hstep w (ot.refl w);exact idle hgo hd (.acq nA) ai
 |ret h=>exact aT rfl DT
theorem JF.ZG(F:JF c j d0 tag D kd q T gs w){Rd:Nat->Loc->Prop}{n Low f:Nat}{gC Fin:aY->aj->Prop}(hA:∀g w,gC g w->g.status=.running)(hF:∀g w,Fin g w->g.status=.running)(ha:gs[0]? =ae a)
  (hM:MSit c.P c.ty c.Wg c.C Rd n Low gC Fin tag f d0 a w):∃(i:Nat) (g:aY),gs[i]? =ae g/\g.status=.running:=by
 rcases hM.status hA hF with⟨hs,_⟩|⟨rfl,_⟩
 .exact⟨0,a,ha,hs⟩
 .have run:∀i,i<j->(D i).stage≠1->∃g,gs[i+1]? =ae g/\g.status=.running:=λi hi h1=>by
   obtain⟨g,hg,hW⟩:=F.work i hi;refine⟨g,hg,?_⟩;cases hk:kd i with
   |fl s kg z=>rw[hk]at hW;exact kh (λ_ _ x=>x.choose_spec.1) w (c.sub _ F.keep) hW.2.2.goes
   |un=>rw[hk]at hW;exact kh (λ_ _ x=>x.1) w (c.sub _ F.keep) hW.2.2
   |wg=>rw[hk]at hW;exact j5.running_of hW h1
  obtain⟨st,sm,_,hm⟩:=F.group;cases hm with
  |opn h1 _ _=>exact h1.elim
  |reg _ _ h3=>obtain⟨i,hi,h5⟩:=exists_counted h3;obtain⟨g,hg,hs⟩:=run i hi ai;exact⟨i+1,g,hg,hs⟩
  |last L _ h2 h3 _=>obtain⟨g,hg,hs⟩:=run L h2 ai;exact⟨L+1,g,hg,hs⟩
  |fin h1 _=>exact h1.elim
theorem joins(O:c.Ok){Rd:Nat->Loc->Prop}{n Low:Nat}{gC Fin:aY->aj->Prop}(ZE:∀w w' es,DP c.Wg Dz Rd n Low w w' es->Ln c (λ_=>ah) 0 w w' es)(hA:∀g w,gC g w->g.status=.running)(hF:∀g w,Fin g w->g.status=.running)
  (hAn:∀g w,gC g w->∃m,GP c.P c.ty c.Wg c.C Rd n Low (J1 c.P c.ty c.Wg c.C Rd n Low gC Fin) m g w){f:Nat}(ha:gs[0]? =ae a)(hM:MSit c.P c.ty c.Wg c.C Rd n Low gC Fin tag f d0 a w)(DT:tag≠.ret)(hsp:∀r s,tag≠.sp r s)(F:JF c j d0 tag D kd q T gs w):
  ∃N gs' w' sl' T' D' T9 q' a' m,runNT c.P N (bS gs w sl) T=(.next (bS gs' w' sl'),T')/\gs'[0]? =ae a'/\GP c.P c.ty c.Wg c.C Rd n Low Fin m a' w'/\JF c j 0 .ret D' T9 q' T' gs' w'/\AcqAll c.Wg j T'/\AllQuit j D':=by
 suffices H:∀μ tag f d0 a gs w D kd q T sl,(phi j (Vc j D) tag+muJ j D kd,f+2*muF j D q)=μ->gs[0]? =ae a->MSit c.P c.ty c.Wg c.C Rd n Low gC Fin tag f d0 a w->(∀r s,tag≠.sp r s)->(tag=.ret->AcqAll c.Wg j T)->JF c j d0 tag D kd q T gs w->
   ∃N gs' w' sl' T' D' T9 q' a' m,runNT c.P N (bS gs w sl) T=(.next (bS gs' w' sl'),T')/\gs'[0]? =ae a'/\GP c.P c.ty c.Wg c.C Rd n Low Fin m a' w'/\JF c j 0 .ret D' T9 q' T' gs' w'/\AcqAll c.Wg j T'/\AllQuit j D' from
  H _ tag f d0 a gs w D kd q T sl rfl ha hM hsp (λe=>aT e DT) F
 intro μ;induction μ using Gb.induction with
 |_ μ ih=>
  intro tag f d0 a gs w D kd q T sl hμ ha hM hsp aco F;by_cases DT:tag=.ret
  .subst DT;have hq:AllQuit j D:=by
    obtain⟨st,sm,_,hm⟩:=F.group;cases hm with
    |opn h1 _ _=>exact h1.elim
    |reg h1 _ _=>exact h1.elim
    |last L h1 _ _ _=>exact h1.elim
    |fin _ h2=>exact h2
   cases hM with
   |ret h=>exact⟨0,gs,w,sl,T,D,kd,q,a,_,rfl,ha,h,F,aco rfl,hq⟩
  .have aa4:=hM.status hA hF;obtain⟨i,g,d,sl',hi,hg,hst⟩:=crowd_pick (P:=c.P) (w:=w) (sl:=sl) (F.awake ha (aa4.elim (λx=>.inl x.1) (λx=>.inr x.2.2.2.1))) (F.ZG hA hF ha hM);have Fd:=F.at O d;have hMd:=hM.rely (ot.at w d);generalize w.at d=w₂ at hst Fd hMd;cases i with
   |zero=>
    rw[ha]at hi;obtain rfl:=bj hi;obtain⟨gs',w',ops,cJ,f',d',a',hrt,ha',Mk,F',hlt,agV⟩:=Fd.step0 O ZE hAn (sl:=sl') ha hMd hg DT hsp;have Ug:∀r s,cJ≠.sp r s:=λr s e=>(by subst e;cases Mk);obtain⟨N,r⟩:=ih _ (by
     rw[←hμ];rcases hlt with h1|⟨h1,h2⟩
     .exact Prod.lex_def.2 (.inl nD)
     .exact Prod.lex_def.2 (.inr ⟨nD,nD⟩)) cJ f' d' a' gs' w' D kd q (T++ops) sl' rfl ha' Mk Ug agV F'
    obtain⟨acp,w'',acr,T',D',T9,q',a'',m,hN,r⟩:=r;exact⟨N+1,acp,w'',acr,T',D',T9,q',a'',m,by rw[pB (hst.trans hrt)];exact hN,r⟩
   |succ i=>
    have sD:i<j:=(by have:=(bF.1 hi).1;have:=F.size;omega);have dA:∀b,offersAt a b au=[]:=λb=>by
     rcases aa4 with⟨hs,_⟩|⟨_,_,_,hs,ho,_⟩
     .exact tH (by rw[hs];simp) _ _
     .simp[offersAt,hs,ho]
    obtain⟨gs',w',ops,cJ,a',D',T9,q',hrt,ha',⟨f',Mk,hf'⟩,rh,_,hr,F',hlt,ko⟩:=Fd.step O (Hs:=λtg x w'=>∃f',MSit c.P c.ty c.Wg c.C Rd n Low gC Fin tg f' d0 x w'/\f'<=f+1) (sl:=sl') sD hi hg ha ⟨f,hMd,ai⟩
     (λg' w' hr=>by obtain⟨cJ,f',h1,h2,h3,h4⟩:=hMd.woken hA hF hr.rc g g';exact⟨cJ,h1,h2,f',h3,h4⟩) dA
    have Ug:∀r s,cJ≠.sp r s:=λr s e=>(by subst e;cases Mk);have aeR:cJ≠.ret:=by
     rcases rh with rfl|⟨_,rfl⟩
     .exact DT
     .simp
    have hph:phi j (Vc j D') cJ=phi j (Vc j D') tag:=phi_retag j _ rh;obtain⟨N,r⟩:=ih _ (by
     rw[←hμ];rcases hlt with⟨h1,h2⟩|⟨h1,h2,h3⟩
     .have:=phi_mono j h2 tag;exact Prod.lex_def.2 (.inl nD)
     .rw[h2]at hph;exact Prod.lex_def.2 (.inr ⟨by simp only;rw[h2];omega,nD⟩)) cJ f' d0 a' gs' w' D' T9 q' (T++ops) sl' rfl ha' Mk Ug (λe=>aT e aeR) F'
    obtain⟨acp,w'',acr,T',D'',agW,q'',a'',m,hN,r⟩:=r;exact⟨N+1,acp,w'',acr,T',D'',agW,q'',a'',m,by rw[pB (hst.trans hrt)];exact hN,r⟩
end
end
section
open Go.Conc Go.ConcN
open Go.ConcR (KK WgAt stA smA Payload Aside2 DC0)
variable[fQ]
structure TF(P:bh)(Wg:Nat)(q:Nat->Nat)(T:Trace)(gs:Array aY):Prop where
 old:∀i g,0<i->gs[i]? =ae g->QuitsD P (q i) (Deaf T i) g
 above:∀i,gs.size<=i->Deaf T i=0
 led:Led (λ_=>False) (λ_ _=>False) (ShN Wg) (λi=>Knows T 0 i) T
 over:∀i g,T.g? i=ae g->g≠0->T.counts i->Knows T 0 i
 deaf0:Deaf T 0=0
section
variable{j:Nat}{tag:CTag}{kd:Nat->K2}{w:aj}
theorem JF.known(F:JF c j d0 tag D kd q T gs w)(hac:AcqAll c.Wg j T)(i g:Nat)(hg:T.g? i=ae g)(hc:T.counts i):Knows T 0 i:=by
 obtain⟨op,ho,rfl⟩:=mb.1 hg;by_cases h0:op.g=0
 .have:=knows_own ho;rwa [h0]at this
 .have hlt:=F.who op (qf ho);have:=F.size;obtain⟨x,hx⟩:∃x,op.g=x+1:=⟨op.g-1,ai⟩;obtain⟨p,ha,hg0,hh,hall⟩:=hac;obtain⟨r,hr,hrp⟩:=hall x ai;obtain⟨zp,hzp,hzg⟩:=mb.1 hg0;obtain⟨zr,hzr,agX⟩:=mb.1 hr.g;have edge:HappensBefore T r p:=Relation.TransGen.single (.inr ⟨.marked hrp (.inr hr.act) ha (λk _ _ hk=>by obtain⟨zk,hzk,agY⟩:=mb.1 hk;exact F.norel zk (qf hzk) agY),hr.heard,hh⟩);refine⟨p,zp,hzp,hzg,.inr ?_⟩;rcases Nat.lt_trichotomy i r with hlt|rfl|ZH
  .exact(hb_po hlt ho hzr (by rw[agX,hx])).trans edge
  .exact edge
  .exact aT hc (hr.after i ZH (by rw[hg,hx]))
theorem TF.of(F:JF c j 0 .ret D kd q T gs w)(hq:AllQuit j D)(hac:AcqAll c.Wg j T):TF c.P c.Wg (λi=>(D (i-1)).fuel) T gs:=by
 refine⟨λi g hi hg=>?_,F.above,⟨F.led.clean,λi a ha hm=>?_,λ_ _ _ _ _ h=>h.elim,F.led.plain,λ_ h=>h.elim⟩,λi g hg _ hc=>F.known hac i g hg hc,F.deaf0⟩
 .obtain⟨x,rfl⟩:∃x,i=x+1:=⟨i-1,ai⟩;have hx:x<j:=by have:=(bF.1 hg).1;have:=F.size;omega
  obtain⟨g',nA,hW⟩:=F.work x hx;rw[hg]at nA;obtain rfl:=bj nA;have h1:=hq x hx;rw[F.deafW x hx,Nat.add_sub_cancel];cases hk:kd x with
  |fl s kg z=>rw[hk]at hW;have:=hW.1;omega
  |un=>rw[hk]at hW;have:=hW.1;omega
  |wg=>
   rw[hk]at hW;generalize hs:(D x).stage=s at hW;have hW:c.Wk x s (D x).fuel (D x).deaf g w:=(by have:=hW;simpa only[W2,hs]using this);rw[h1]at hs;subst hs;cases hW with
   |low _ hW=>
    cases hW with
    |quit h=>exact h
 .rcases F.led.known i a ha hm with h|h|⟨h1,h2,g,h3,h4⟩
  .exact .inl h
  .exact .inr (.inl h)
  .exact .inl (F.known hac i g h3 ⟨a,ha,hm,.inl h2⟩)
end
def ZI(Wg:Nat)(e:cK):Prop:=(∀x,(fH e).touch? =ae x->ShN Wg x.loc->x.kind≠.plain)/\e.loc≠.mark .disable/\e.loc≠.mark .enable
def aa5(P:bh)(Wg:Nat)(Post:ay->aj->Prop)(g:aY)(w:aj):Prop:=g.status=.running/\∃v es,bn P au g w=.ended (.done v) w es/\(∀e∈es,ZI Wg e)/\Post v w
section
variable{P:bh}{Wg:Nat}{w:aj}
omit[Payload]in
theorem TF.own(F:TF P Wg q T gs){pos:String}{es:Array cK}(hes:∀e∈es,ZI Wg e)(hsz:gs'.size=gs.size)(lJ:0<gs.size)(ml:∀i y,0<i->gs'[i]? =ae y->gs[i]? =ae y):TF P Wg q (T++eM 0 fn pos es) gs':=by
 have cH:∀op∈eM 0 fn pos es,op.g=0:=λop hop=>by obtain⟨e,_,rfl⟩:=iK hop;rfl
 refine⟨λi g hi hg=>?_,λi hi=>?_,F.led.own cH (λop hop b hb=>?_) (λ_ h=>h.elim),λi g hg hne hc=>?_,?_⟩
 .rw[ig T (by omega:0≠i) _ cH];exact F.old i g hi (ml i g hi hg)
 .rw[hsz]at hi;rw[ig T (by omega:0≠i) _ cH];exact F.above i hi
 .obtain⟨e,h,rfl⟩:=iK hop;exact⟨λ_ h=>h.elim,(hes e h).1 b hb⟩
 .obtain⟨op,ho,rfl⟩:=mb.1 hg;rcases tG ho with⟨hlt,xe⟩|⟨_,hou⟩
  .exact(F.over i op.g (by rw[g?_of xe]) hne ((counts_old hlt).1 hc)).app _
  .exact aT (cH op hou) hne
 .rw[Deaf_own,F.deaf0];exact deafBehind_still (λe h=>(hes e h).2) _
omit[Payload]in
theorem TF.handed(F:TF P Wg q T gs):T.HandedOver:=λi g hg hne hc=>by
 obtain⟨p,z,hp,hz,hb⟩:=F.over i g hg hne hc;rcases hb with rfl|hb
 .rw[g?_of hp,hz]at hg;exact aT (bj hg).symm hne
 .exact⟨p,by rw[g?_of hp,hz],hb⟩
omit[Payload]in
theorem Qo(hD:∀w w' es,B7 w w' es->∀e∈es,ZI Wg e)(hW:jz P au AtRel B7 (aa5 P Wg Post) a w)(ha:gs[0]? =ae a)(F:TF P Wg q T gs):
  ∃N last o w' t',runNT P (N+1) (bS gs w sl) T=(.ended o w',t')/\runN P N (bS gs w sl)=.next last/\step P last=.ended o w'/\Conc.Good P Post last o w' t':=by
 suffices H:∀a w₀,jz P au AtRel B7 (aa5 P Wg Post) a w₀->∀gs w q T sl,AtRel w₀ w->gs[0]? =ae a->TF P Wg q T gs->
   ∃N last o w' t',runNT P (N+1) (bS gs w sl) T=(.ended o w',t')/\runN P N (bS gs w sl)=.next last/\step P last=.ended o w'/\Conc.Good P Post last o w' t' from H a w hW gs w q T sl (atRel_refl w) ha F
 intro a w₀ hW;have awk:∀{gs:Array aY} {q:Nat->Nat} {T:Trace} {a:aY},a.status=.running->gs[0]? =ae a->TF P Wg q T gs->∀g∈gs,awake g:=by
  intro gs q T a hr ha F g hg;obtain⟨i,hi⟩:=Array.mem_iff_getElem?.1 hg;rcases mr i with rfl|lJ
  .rw[ha]at hi;obtain rfl:=bj hi;exact awake_of (.inl hr)
  .exact awake_of ((F.old i g lJ hi).status.elim .inl λx=>.inr (.inr x))
 have quit:∀{gs:Array aY} {q:Nat->Nat} {T:Trace} {a:aY} {w:aj} {sl:Option (Nat×Nat)} {i:Nat} {g:aY},a.status=.running->gs[0]? =ae a->TF P Wg q T gs->0<i->gs[i]? =ae g->g.status=.running->
   ∃gs' ops q',runT P (bS gs w sl) i=(.next (bS gs' w sl),ops)/\gs'[0]? =ae a/\TF P Wg q' (T++ops) gs'/\gs'.size=gs.size/\cZ gs.size q'<cZ gs.size q:=by
  intro gs q T a w sl i g hr ha F lJ hi hg;have hq:=F.old i g lJ hi;have xb:(i==0)=aw:=dp;have hlt:i<gs.size:=(bF.1 hi).1;cases hqi:q i with
  |zero=>rw[hqi]at hq;rw[hq.1]at hg;cases hg
  |succ k=>
   rw[hqi]at hq;rcases hq with⟨hf,_⟩|⟨_,g',es,hm,Au,hq'⟩
   .rw[hf]at hg;cases hg
   have cH:∀op∈eM i g.frame.fn g.frame.place es,op.g=i:=λop hop=>(by obtain⟨e,_,rfl⟩:=iK hop;rfl);have hn:∀op∈eM i g.frame.fn g.frame.place es,op.act.touch? =ah:=λop hop=>(by obtain⟨e,he,rfl⟩:=iK hop;exact touch_mute (hm e he));refine⟨_,_,upd q i k,mj (P:=P) (sl:=sl) (i:=i) hi (by rw[xb];exact Au w),?_,⟨λx y hx hy=>?_,λx hx=>?_,F.led.mute (λx=>Knows.app _) hn (λ_ h=>h.elim),λx gx hgx hne hc=>?_,?_⟩,aJ,?_⟩
   .rw[gG ai,oH,ha];simp[mi (nB w (.inl hr))]
   .by_cases e:x=i
    .subst e;rw[iw (by simpa using hlt)]at hy;obtain rfl:=bj hy;rw[gR,Deaf_own];exact hq'
    .rw[gG (bZ e),oH]at hy;obtain⟨z,hz,rfl⟩:=mb.1 hy;have hqx:=F.old x z hx hz;rw[mi (nB w hqx.status),upd_ne q k e,ig T (λz=>e z.symm) _ cH];exact hqx
   .simp only[zP,Array.size_map]at hx;rw[ig T (by omega:i≠x) _ cH];exact F.above x hx
   .obtain⟨op,ho,rfl⟩:=mb.1 hgx;rcases tG ho with⟨hlt,xe⟩|⟨_,hou⟩
    .exact(F.over x op.g (by rw[g?_of xe]) hne ((counts_old hlt).1 hc)).app _
    .obtain⟨y,hy,_⟩:=hc;obtain⟨z,hz,hzt⟩:=touch_of hy;rw[ho]at hz;obtain rfl:=bj hz;rw[hn op hou]at hzt;cases hzt
   .rw[ig T (by omega:i≠0) _ cH];exact F.deaf0
   .have h2:cZ gs.size (upd q i k) +(k+1)=cZ gs.size q+k:=(by have:=sumTo_upd q k id hlt;simpa[hqi]using this);omega
 induction hW with
 | @stop a w₀ hQ=>
  intro gs w q T sl;generalize hμ:cZ gs.size q=μ;induction μ using Nat.strongRecOn generalizing gs w q T sl with
  |_ μ Mb=>
   intro hr ha F;have hrun:=(hQ w hr).1;obtain⟨i,g,d,sl',hi,hg,hst⟩:=crowd_pick (P:=P) (w:=w) (sl:=sl) (awk hrun ha F) ⟨0,a,ha,hrun⟩;have hrd:AtRel w₀ (w.at d):=atRel_trans _ _ _ hr ⟨d,rfl⟩;rcases mr i with rfl|lJ
   .obtain rfl:g=a:=(by rw[ha]at hi;exact(bj hi).symm);obtain⟨_,v,es,hend,hes,OO⟩:=hQ _ hrd;have aa6:=runT_many_ended (P:=P) (sl:=sl') (i:=0) hi (show bn P (0==0) g (w.at d)=_ from hend);have F':=F.own (gs':=gs) (fn:=g.frame.fn) (pos:=g.frame.place) hes rfl (bF.1 ha).1 (λ_ _ _ h=>h);refine⟨0,bS gs w sl,_,_,_,by simp only[runNT,hst.trans aa6],rfl,by rw[step,hst.trans aa6],v,rfl,OO,F'.led.clean,F'.handed,⟨λx hx=>?_,rfl⟩,λx y hy hx=>?_⟩
    .obtain⟨k,hk⟩:=rS.1 hx;rw[List.getElem?_drop]at hk;exact⟨_,(F.old (1+k) x ai (by simpa[bS]using hk)).leaves⟩
    .have hq:=F.old x y ai hy;refine⟨q x,?_⟩;have e:(T++eM 0 g.frame.fn g.frame.place es).deaf x (T++eM 0 g.frame.fn g.frame.place es).size=Deaf T x:=ig T (g:=x) (g':=0) ai _ (λop hop=>by obtain⟨e,_,rfl⟩:=iK hop;rfl);rw[e];exact hq.hears _
   .obtain⟨gs',ops,q',hrt,ha',F',hsz,hlt⟩:=quit (w:=w.at d) (sl:=sl') hrun ha F lJ hi hg;obtain⟨N,last,o,w',t',h1,h2,h3,h4⟩:=Mb _ (hμ▸hlt) gs' (w.at d) q' (T++ops) sl' (by rw[hsz]) hrd ha' F';have hs:=hst.trans hrt;exact⟨N+1,last,o,w',t',by rw[pB hs];exact h1,by rw[runN,step,hs];exact h2,h3,h4⟩
 | @step a w₀ hrun hstep hnext ih=>
  intro gs w q T sl;generalize hμ:cZ gs.size q=μ;induction μ using Nat.strongRecOn generalizing gs w q T sl with
  |_ μ Mb=>
   intro hr ha F;obtain⟨i,g,d,sl',hi,hg,hst⟩:=crowd_pick (P:=P) (w:=w) (sl:=sl) (awk hrun ha F) ⟨0,a,ha,hrun⟩;have hrd:AtRel w₀ (w.at d):=atRel_trans _ _ _ hr ⟨d,rfl⟩;rcases mr i with rfl|lJ
   .obtain rfl:g=a:=(by rw[ha]at hi;exact(bj hi).symm);obtain⟨g',w',es,hgo,hd⟩:=hstep _ hrd;have hrt:=mj (P:=P) (sl:=sl') (i:=0) hi (show bn P (0==0) g (w.at d)=_ from hgo);have hlt:0<gs.size:=(bF.1 ha).1;have F':=F.own (gs':=(gs.map (woken P g g' w')).setIfInBounds 0 g') (fn:=g.frame.fn) (pos:=g.frame.place) (hD _ _ _ hd) aJ hlt (λx y hx hy=>by rw[gG ai,oH]at hy;obtain⟨z,hz,rfl⟩:=mb.1 hy;rw[hz,mi (nB w' (F.old x z hx hz).status)]);obtain⟨N,last,o,w'',t',h1,h2,h3,h4⟩:=ih _ g' w' es hrd hgo _ w' q _ sl' (atRel_refl w') (iw (by simpa using hlt)) F';have hs:=hst.trans hrt;exact⟨N+1,last,o,w'',t',by rw[pB hs];exact h1,by rw[runN,step,hs];exact h2,h3,h4⟩
   .obtain⟨gs',ops,q',hrt,ha',F',hsz,hlt⟩:=quit (w:=w.at d) (sl:=sl') hrun ha F lJ hi hg;obtain⟨N,last,o,w',t',h1,h2,h3,h4⟩:=Mb _ (hμ▸hlt) gs' (w.at d) q' (T++ops) sl' (by rw[hsz]) hrd ha' F';have hs:=hst.trans hrt;exact⟨N+1,last,o,w',t',by rw[pB hs];exact h1,by rw[runN,step,hs];exact h2,h3,h4⟩
end
end
section
open Go.Conc Go.ConcN Go.RowKit Go.Conc.Lib Go.ConcR.Gen Go.ConcN.Gen
open Go.ConcR (KK wgBlock WgAt stA smA rd wr mk Payload Aside2 DC0)
variable[fQ]{L:WgLink}
omit[Payload]in
theorem EX{C Wg:Nat}{w:aj}(h:Aside Wg w w₁):wm C Wg w w₁:=⟨h.tape,h.os,h.output,Nat.le_of_eq h.size.symm,λk _ _ b=>h.block k b⟩
omit[Payload]in
theorem aG{ty:bq}{Wg C:Nat}{F:aj->Prop}(hF2:∀w w',wm C Wg w w'->F w->F w'){w:aj}(h:F w/\dG ty Wg w)(r:ot ty Wg C w w₁):F w₁/\dG ty Wg w₁:=⟨hF2 _ _ r.aside h.1,r.live h.2⟩
section
variable{Wg C n Low:Nat}{Rd:Nat->Loc->Prop}{F:aj->Prop}
def OP(L:WgLink)(F:aj->Prop)(Wg:Nat)(b₀:aB)(a₀:Act)(ops₀:Array aZ)(i₀:Nat)(rest₀:List Nat)(k₀:List Item)(cs:List aB)(g:aY)(w:aj):Prop:=g=G (b₀.at (a₀.put ((ops₀[i₀]?).bind (·.dst)) (.tuple #[])) (bI ops₀ rest₀::k₀)) cs/\F w/\dG L.tWg Wg w
omit[Payload]in
theorem Ml{P:bh}(H:WgLib P L)(hF2:∀w w',wm C Wg w w'->F w->F w')(g:aY)(w:aj)(h:AnchWN L F Wg (b₀.at a₀ (bI ops₀ (i₀::rest₀)::k₀)) cs g w):
  ∃m,GP P L.tWg Wg C Rd n Low (J1 P L.tWg Wg C Rd n Low (AnchWN L F Wg (b₀.at a₀ (bI ops₀ (i₀::rest₀)::k₀)) cs) (OP L F Wg b₀ a₀ ops₀ i₀ rest₀ k₀ cs)) m g w:=by
 lib_facts
 obtain⟨T,rfl,hT84,t0,hF⟩:=h;obtain⟨v0,v1,v2,v3,v4,v5,v6,v7,v8,v9,v10,v11,v12,v13,v14,v15,v16,v17,v18,v19,v20,v21,v22,v23,v24,v25,v26,v27,v28,v29,v30,v31,v32,v33,v34,v35,v36,v37,v38,v39,v40,v41,v42,v43,v44,v45,v46,v47,v48,v49,v50,v51,v52,v53,v54,v55,v56,v57,v58,v59,v60,v61,v62,v63,v64,v65,v66,v67,v68,v69,v70,v71,v72,v73,v74,v75,v76,v77,v78,v79,v80,v81,v82,v83,rfl⟩:=array84 T hT84;simp only[kJ,oP,dD]at t0;subst t0;refine⟨30,?_⟩;simp only[L7,body_wait,waitFn,cN];u_c stepG_block (aG hF2) hF
 u_c bU (aG hF2) hF
 u_reg (aG hF2) hF
 iterate 3 (u_op (aG hF2) hF)
 u_call H.f_uLoad (nm_uLoad L) uLoadFn (aG hF2) hF
 u_c bU (aG hF2) hF
 u_reg (aG hF2) hF
 u_op (aG hF2) hF
 u_c bP (aG hF2) hF
 u_c bU (aG hF2) hF
 u_reg (aG hF2) hF
 iterate 3 (u_op (aG hF2) hF)
 refine gM (λw₁ h₁=>?_);replace hF:=aG hF2 hF h₁;clear h₁;refine⟨rfl,λv hv hw=>?_⟩;rcases mr v with rfl|hvp
 .
  replace hw:WgAt L.tWg Wg w₁ 0 0:=by simpa using hw
  refine⟨_,stepG_load_atomic (v:=0) rfl rfl (by k_ne) rfl H.f_loadU64 (x_loadU64_n L) (x_loadU64_b L) (x_loadU64_x L) .u64 (x_loadU64_f L) rfl hw.cellSt,λ_=>⟨50,?_⟩,λh=>aT rfl h⟩;clear hw;walk_nrm;u_op (aG hF2) hF
  u_c bP (aG hF2) hF
  u_c stepG_ret' (aG hF2) hF
  u_leave1 H.f_uLoad (aG hF2) hF
  u_op (aG hF2) hF
  u_c bP (aG hF2) hF
  u_c bU (aG hF2) hF
  u_reg (aG hF2) hF
  iterate 4 (u_op (aG hF2) hF)
  u_c bP (aG hF2) hF
  u_c bU (aG hF2) hF
  u_reg (aG hF2) hF
  iterate 4 (u_op (aG hF2) hF)
  u_c bP (aG hF2) hF
  iterate 2 (u_c bU (aG hF2) hF)
  u_reg (aG hF2) hF
  iterate 2 (u_op (aG hF2) hF)
  u_c bP (aG hF2) hF
  u_cond au (aG hF2) hF
  u_c bU (aG hF2) hF
  u_cond au (aG hF2) hF
  u_c bU (aG hF2) hF
  u_reg (aG hF2) hF
  refine gM (λw₅ h₅=>?_);replace hF:=aG hF2 hF h₅;clear h₅;refine⟨rfl,_,stepG_mark0 .enable aJ rfl rfl (by k_ne) rfl H.f_enable (x_enable_n L) (x_enable_b L) (x_enable_x L) (x_enable_f L),12,?_⟩;walk_nrm;u_c bP (aG hF2) hF
  u_reg (aG hF2) hF
  u_op (aG hF2) hF
  u_conv H.underlying_tWgP H.room_tWg (WgLive.cell0 hF.2).choose_spec (aG hF2) hF
  refine gM (λw₆ h₆=>?_);replace hF:=aG hF2 hF h₆;clear h₆;refine⟨rfl,_,stepG_markAt .acquire aJ rfl rfl (by k_ne) rfl H.f_acquire (x_acquire_n L) (x_acquire_b L) (x_acquire_x L) (x_acquire_f L) (by simp[cS,stA]),⟨20,?_⟩⟩;walk_nrm;u_c bP (aG hF2) hF
  iterate 2 (u_c bU (aG hF2) hF)
  u_reg (aG hF2) hF
  iterate 8 (u_op (aG hF2) hF)
  iterate 2 (u_skip (aG hF2) hF)
  u_op (aG hF2) hF
  u_c bP (aG hF2) hF
  u_cond aw (aG hF2) hF
  u_c stepG_skip (aG hF2) hF
  u_c stepG_ret' (aG hF2) hF
  u_leave0 H.f_wait (aG hF2) hF
  exact gM λagZ acs=>⟨rfl,aG hF2 hF acs⟩
 .
  obtain⟨S,hS⟩:∃S:Int,(v:Int) *KK=S:=⟨_,rfl⟩;have a1:S / 4294967296=(v:Int):=by rw[←hS];simp only[KK];omega
  have b1:bits .and .u64 S 2147483648=0:=by rw[←hS];have:=st_flag v 0 ai ai;simpa[KK]using this
  have b2:bits .and .u64 S 2147483647=0:=by rw[←hS];have:=st_waiters v 0 ai ai;simpa[KK]using this
  have c1:IntKind.i32.wrap (v:Int)=(v:Int):=by rw[IntKind.wrap_i32];omega
  have w1:IntKind.u64.wrap (S+1)=S+1:=by rw[IntKind.wrap_u64,←hS];simp only[KK];omega
  have q3:decide ((v:Int) <0)=aw:=decide_eq_false ai;have q4:decide (0< (v:Int))=au:=decide_eq_true ai;have q5:((v:Int)==0)=aw:=dp;have q6:decide ((v:Int)=0)=aw:=decide_eq_false ai;rw[hS]at hw;refine⟨_,stepG_load_atomic (v:=S) rfl rfl (by k_ne) rfl H.f_loadU64 (x_loadU64_n L) (x_loadU64_b L) (x_loadU64_x L) .u64 (x_loadU64_f L) rfl hw.cellSt,λh0=>aT h0 ai,λ_=>⟨60,?_⟩⟩;clear hw;walk_nrm;u_op (aG hF2) hF
  u_c bP (aG hF2) hF
  u_c stepG_ret' (aG hF2) hF
  u_leave1 H.f_uLoad (aG hF2) hF
  u_op (aG hF2) hF
  u_c bP (aG hF2) hF
  u_c bU (aG hF2) hF
  u_reg (aG hF2) hF
  iterate 4 (u_op (aG hF2) hF)
  u_c bP (aG hF2) hF
  u_c bU (aG hF2) hF
  u_reg (aG hF2) hF
  iterate 4 (u_op (aG hF2) hF)
  u_c bP (aG hF2) hF
  iterate 2 (u_c bU (aG hF2) hF)
  u_reg (aG hF2) hF
  iterate 2 (u_op (aG hF2) hF)
  u_c bP (aG hF2) hF
  u_cnd aw (aG hF2) hF
  u_c stepG_skip (aG hF2) hF
  u_c bU (aG hF2) hF
  u_reg (aG hF2) hF
  iterate 6 (u_op (aG hF2) hF)
  u_call H.f_uCas (nm_uCas L) uCasFn (aG hF2) hF
  u_c bU (aG hF2) hF
  u_reg (aG hF2) hF
  u_op (aG hF2) hF
  u_c bP (aG hF2) hF
  u_c bU (aG hF2) hF
  u_reg (aG hF2) hF
  iterate 5 (u_op (aG hF2) hF)
  refine gM (λw₂ h₂=>?_);replace hF:=aG hF2 hF h₂;clear h₂;refine⟨rfl,λv' hv' hw=>⟨λe=>?_,λe=>?_⟩⟩
  .
   subst e;rw[hS]at hw⊢;refine⟨_,(stepG_cas_hit (v:=S) (n:=S+1) rfl rfl (by k_ne) rfl H.f_casU64 (x_casU64_n L) (x_casU64_b L) (x_casU64_x L) .u64 (x_casU64_f L) rfl rfl rfl hw.cellSt (hw.thaw 0)).trans cQ,70,?_⟩;replace hF:F (w₂.setCell (stA Wg) (.int .u64 (S+1)))/\dG L.tWg Wg (w₂.setCell (stA Wg) (.int .u64 (S+1))):=⟨hF2 _ _ (EX (aside_setCell w₂ (stA Wg) _)) hF.1,⟨_,_,hw.setSt _⟩⟩;clear hw;walk_nrm;u_op (aG hF2) hF
   u_c bP (aG hF2) hF
   u_c stepG_ret' (aG hF2) hF
   u_leave1 H.f_uCas (aG hF2) hF
   u_c bP (aG hF2) hF
   u_cond au (aG hF2) hF
   iterate 2 (u_c bU (aG hF2) hF)
   u_reg (aG hF2) hF
   iterate 4 (u_op (aG hF2) hF)
   u_c bP (aG hF2) hF
   u_cond au (aG hF2) hF
   u_reg (aG hF2) hF
   iterate 3 (u_op (aG hF2) hF)
   u_conv H.underlying_tPU32 H.room_tU32 (WgLive.cell1 hF.2).choose_spec (aG hF2) hF
   u_wrn (aG hF2) hF
   u_c bP (aG hF2) hF
   u_c bU (aG hF2) hF
   u_reg (aG hF2) hF
   u_op (aG hF2) hF
   u_c bP (aG hF2) hF
   iterate 2 (u_c bU (aG hF2) hF)
   u_reg (aG hF2) hF
   iterate 4 (u_op (aG hF2) hF)
   u_skip (aG hF2) hF
   u_op (aG hF2) hF
   u_c bP (aG hF2) hF
   u_cond aw (aG hF2) hF
   u_c stepG_skip (aG hF2) hF
   u_c bU (aG hF2) hF
   u_reg (aG hF2) hF
   iterate 4 (u_op (aG hF2) hF)
   refine gM (λw₃ h₃=>?_);replace hF:=aG hF2 hF h₃;clear h₃;refine⟨rfl,rfl,λ⟨st,hw⟩=>stepG_semacquire_wait rfl rfl rfl H.f_semacquire (x_semacquire_n L) (x_semacquire_b L) (x_semacquire_x L) (x_semacquire_f L) (by simp[cS,smA]) hw.cellSm,λhf=>?_⟩;refine⟨_,(stepG_semacquire (n:=1) rfl rfl (by k_ne) rfl H.f_semacquire (x_semacquire_n L) (x_semacquire_b L) (x_semacquire_x L) (x_semacquire_f L) (by simp[cS,smA]) hf.cellSm (by k_ne) (hf.thaw 1)).trans cQ,30,?_⟩;replace hF:F (w₃.setCell (smA Wg) (.int .u32 0))/\dG L.tWg Wg (w₃.setCell (smA Wg) (.int .u32 0)):=⟨hF2 _ _ (EX (aside_setCell w₃ (smA Wg) _)) hF.1,⟨_,_,hf.setSm 0⟩⟩;clear hf;walk_nrm;u_c bP (aG hF2) hF
   u_c bU (aG hF2) hF
   u_reg (aG hF2) hF
   iterate 3 (u_op (aG hF2) hF)
   u_call H.f_uLoad (nm_uLoad L) uLoadFn (aG hF2) hF
   u_c bU (aG hF2) hF
   u_reg (aG hF2) hF
   u_op (aG hF2) hF
   u_c bP (aG hF2) hF
   u_c bU (aG hF2) hF
   u_reg (aG hF2) hF
   iterate 3 (u_op (aG hF2) hF)
   refine gM (λw₄ h₄=>?_);replace hF:=aG hF2 hF h₄;clear h₄;refine⟨rfl,λhw=>⟨_,stepG_load_atomic (v:=0) rfl rfl (by k_ne) rfl H.f_loadU64 (x_loadU64_n L) (x_loadU64_b L) (x_loadU64_x L) .u64 (x_loadU64_f L) rfl hw.cellSt,30,?_⟩⟩;clear hw;walk_nrm;u_op (aG hF2) hF
   u_c bP (aG hF2) hF
   u_c stepG_ret' (aG hF2) hF
   u_leave1 H.f_uLoad (aG hF2) hF
   iterate 2 (u_op (aG hF2) hF)
   u_c bP (aG hF2) hF
   u_c bU (aG hF2) hF
   u_cond au (aG hF2) hF
   u_c bU (aG hF2) hF
   u_reg (aG hF2) hF
   refine gM (λw₅ h₅=>?_);replace hF:=aG hF2 hF h₅;clear h₅;refine⟨rfl,_,stepG_mark0 .enable aJ rfl rfl (by k_ne) rfl H.f_enable (x_enable_n L) (x_enable_b L) (x_enable_x L) (x_enable_f L),12,?_⟩;walk_nrm;u_c bP (aG hF2) hF
   u_reg (aG hF2) hF
   u_op (aG hF2) hF
   u_conv H.underlying_tWgP H.room_tWg (WgLive.cell0 hF.2).choose_spec (aG hF2) hF
   refine gM (λw₆ h₆=>?_);replace hF:=aG hF2 hF h₆;clear h₆;refine⟨rfl,_,stepG_markAt .acquire aJ rfl rfl (by k_ne) rfl H.f_acquire (x_acquire_n L) (x_acquire_b L) (x_acquire_x L) (x_acquire_f L) (by simp[cS,stA]),⟨10,?_⟩⟩;walk_nrm;u_c bP (aG hF2) hF
   iterate 2 (u_c bU (aG hF2) hF)
   u_reg (aG hF2) hF
   u_op (aG hF2) hF
   u_c bP (aG hF2) hF
   u_cond aw (aG hF2) hF
   u_c stepG_skip (aG hF2) hF
   u_c stepG_ret' (aG hF2) hF
   u_leave0 H.f_wait (aG hF2) hF
   exact gM λagZ acs=>⟨rfl,aG hF2 hF acs⟩
  .
   refine⟨_,stepG_cas_miss (v:=(v':Int) *KK) (old:=S) (n:=S+1) rfl rfl (by k_ne) rfl H.f_casU64 (x_casU64_n L) (x_casU64_b L) (x_casU64_x L) .u64 (x_casU64_f L) rfl rfl rfl hw.cellSt (hw.thaw 0) (by rw[←hS];simp only[KK];omega),20,?_⟩;clear hw;walk_nrm;u_op (aG hF2) hF
   u_c bP (aG hF2) hF
   u_c stepG_ret' (aG hF2) hF
   u_leave1 H.f_uCas (aG hF2) hF
   u_c bP (aG hF2) hF
   u_cond aw (aG hF2) hF
   u_c stepG_skip (aG hF2) hF
   u_c stepG_inBlock (aG hF2) hF
   u_c stepG_inLoop (aG hF2) hF
   refine gM (λw₃ h₃=>?_);replace hF:=aG hF2 hF h₃;exact⟨_,rfl,aJ,aJ,hF⟩
end
end
section
open Go Go.Conc Go.ConcN Go.RowKit Go.Conc.Lib Go.ConcR.Gen Go.ConcN.Gen
open Go.ConcR (KK wgBlock WgAt stA smA rd wr mk Payload Aside2 DC0)
variable[fQ]{L:WgLink}
section
variable{Wg C n Low:Nat}{Rd:Nat->Loc->Prop}{F:aj->Prop}{Fin:aY->aj->Prop}
omit[Payload]in
theorem wait_start{P:bh}(H:WgLib P L)(hF2:∀w w',wm C Wg w w'->F w->F w')
   {xs:Array Operand} (ho:ops₀[i₀]? =ae Uh) (Ui:dF Uh (dW ops₀ a₀.tmps)=au) (Uj:b₀.kind≠.early) (hop:Uh.op=.call {callee:=.value (.func L.wait),args:=xs,argTypes:=ats})
  (hxs:xs.map a₀.eval=#[aI (ae ⟨Wg,0,ah⟩)])(w:aj)(hF:F w/\dG L.tWg Wg w):
  GP P L.tWg Wg C Rd n Low (J0 P L.tWg Wg C Rd n Low (AnchWN L F Wg (b₀.at a₀ (bI ops₀ (i₀::rest₀)::k₀)) cs)) 20 (G (b₀.at a₀ (bI ops₀ (i₀::rest₀)::k₀)) cs) w:=by
 lib_facts
 u_in (aG hF2) hF
 refine goes_call ho Ui Uj hop H.f_wait (nm_wait L) rfl ⟨by u_nil,?_⟩;rw[hxs]
 walk_nrmf waitFn
 u_c bU (aG hF2) hF
 u_cond au (aG hF2) hF
 u_reg (aG hF2) hF
 refine gM (λw₁ h₁=>?_);replace hF:=aG hF2 hF h₁;clear h₁;refine⟨rfl,_,stepG_mark0 .disable aJ rfl rfl (by k_ne) rfl H.f_disable (x_disable_n L) (x_disable_b L) (x_disable_x L) (x_disable_f L),3,?_⟩;walk_nrm;u_c bP (aG hF2) hF
 u_c stepG_block (aG hF2) hF
 u_c stepG_loop (aG hF2) hF
 exact gM (λw₂ h₂=>⟨_,rfl,aJ,aJ,aG hF2 hF h₂⟩)
end
end
section
open Go Go.Conc Go.ConcN
open Go.ConcR (KK WgAt stA smA Payload Aside2 DC0)
variable[fQ]
variable[Inhabited dc]
section
variable{P:bh}{Wg:Nat}{w:aj}
omit[Payload]in
theorem Qp{D:aj->aj->Array cK->Prop}{Stop:aY->aj->Prop}{X:aj->Prop}(hR:∀w d,R w (w.at d))(hX:∀w d,X w->X (w.at d))(hD:∀w w' es,D w w' es->X w->X w'):
  ∀{n:Nat} {g:aY} {w:aj},X w->Goes P au R D Stop n g w->jz P au AtRel D (λg w=>Stop g w/\X w) g w:=by
 intro n;induction n with
 |zero=>exact λhx h=>.stop λw₁ ⟨d,e⟩=>by subst e;exact⟨h _ (hR _ d),hX _ d hx⟩
 |succ n ih=>
  intro g w hx h;rcases h with h|⟨hs,h⟩
  .exact .stop λw₁ ⟨d,e⟩=>by subst e;exact⟨h _ (hR _ d),hX _ d hx⟩
  .refine .step hs (λw₁ ⟨d,e⟩=>?_) λw₁ g' w' es ⟨d,e⟩ hst=>?_
   .subst e;obtain⟨g',w',es,h1,h2,_⟩:=goes_elim (h _ (hR _ d));exact⟨g',w',es,h1,h2⟩
   .subst e;have:=h _ (hR _ d);rw[hst,cG]at this;exact ih (hD _ _ _ this.1 (hX _ d hx)) this.2
omit[Payload]in
theorem Gi(hD:∀w w' es,B7 w w' es->∀e∈es,ZI Wg e)(hW:jz P au AtRel B7 Q a w)(ha:gs[0]? =ae a)(F:TF P Wg q T gs):
  ∃N gs' w' sl' q' T' a',runNT P N (bS gs w sl) T=(.next (bS gs' w' sl'),T')/\gs'[0]? =ae a'/\TF P Wg q' T' gs'/\∀w₁,AtRel w' w₁->Q a' w₁:=by
 suffices H:∀a w₀,jz P au AtRel B7 Q a w₀->∀gs w q T sl,AtRel w₀ w->gs[0]? =ae a->TF P Wg q T gs->
   ∃N gs' w' sl' q' T' a',runNT P N (bS gs w sl) T=(.next (bS gs' w' sl'),T')/\gs'[0]? =ae a'/\TF P Wg q' T' gs'/\∀w₁,AtRel w' w₁->Q a' w₁ from H a w hW gs w q T sl (atRel_refl w) ha F
 intro a w₀ hW;have awk:∀{gs:Array aY} {q:Nat->Nat} {T:Trace} {a:aY},a.status=.running->gs[0]? =ae a->TF P Wg q T gs->∀g∈gs,awake g:=by
  intro gs q T a hr ha F g hg;obtain⟨i,hi⟩:=Array.mem_iff_getElem?.1 hg;rcases mr i with rfl|lJ
  .rw[ha]at hi;obtain rfl:=bj hi;exact awake_of (.inl hr)
  .exact awake_of ((F.old i g lJ hi).status.elim .inl λx=>.inr (.inr x))
 have quit:∀{gs:Array aY} {q:Nat->Nat} {T:Trace} {a:aY} {w:aj} {sl:Option (Nat×Nat)} {i:Nat} {g:aY},a.status=.running->gs[0]? =ae a->TF P Wg q T gs->0<i->gs[i]? =ae g->g.status=.running->
   ∃gs' ops q',runT P (bS gs w sl) i=(.next (bS gs' w sl),ops)/\gs'[0]? =ae a/\TF P Wg q' (T++ops) gs'/\gs'.size=gs.size/\cZ gs.size q'<cZ gs.size q:=by
  intro gs q T a w sl i g hr ha F lJ hi hg;have hq:=F.old i g lJ hi;have xb:(i==0)=aw:=dp;have hlt:i<gs.size:=(bF.1 hi).1;cases hqi:q i with
  |zero=>rw[hqi]at hq;rw[hq.1]at hg;cases hg
  |succ k=>
   rw[hqi]at hq;rcases hq with⟨hf,_⟩|⟨_,g',es,hm,Au,hq'⟩
   .rw[hf]at hg;cases hg
   have cH:∀op∈eM i g.frame.fn g.frame.place es,op.g=i:=λop hop=>(by obtain⟨e,_,rfl⟩:=iK hop;rfl);have hn:∀op∈eM i g.frame.fn g.frame.place es,op.act.touch? =ah:=λop hop=>(by obtain⟨e,he,rfl⟩:=iK hop;exact touch_mute (hm e he));refine⟨_,_,upd q i k,mj (P:=P) (sl:=sl) (i:=i) hi (by rw[xb];exact Au w),?_,⟨λx y hx hy=>?_,λx hx=>?_,F.led.mute (λx=>Knows.app _) hn (λ_ h=>h.elim),λx gx hgx hne hc=>?_,?_⟩,aJ,?_⟩
   .rw[gG ai,oH,ha];simp[mi (nB w (.inl hr))]
   .by_cases e:x=i
    .subst e;rw[iw (by simpa using hlt)]at hy;obtain rfl:=bj hy;rw[gR,Deaf_own];exact hq'
    .rw[gG (bZ e),oH]at hy;obtain⟨z,hz,rfl⟩:=mb.1 hy;have hqx:=F.old x z hx hz;rw[mi (nB w hqx.status),upd_ne q k e,ig T (λz=>e z.symm) _ cH];exact hqx
   .simp only[zP,Array.size_map]at hx;rw[ig T (by omega:i≠x) _ cH];exact F.above x hx
   .obtain⟨op,ho,rfl⟩:=mb.1 hgx;rcases tG ho with⟨hlt,xe⟩|⟨_,hou⟩
    .exact(F.over x op.g (by rw[g?_of xe]) hne ((counts_old hlt).1 hc)).app _
    .obtain⟨y,hy,_⟩:=hc;obtain⟨z,hz,hzt⟩:=touch_of hy;rw[ho]at hz;obtain rfl:=bj hz;rw[hn op hou]at hzt;cases hzt
   .rw[ig T (by omega:i≠0) _ cH];exact F.deaf0
   .have h2:cZ gs.size (upd q i k) +(k+1)=cZ gs.size q+k:=(by have:=sumTo_upd q k id hlt;simpa[hqi]using this);omega
 induction hW with
 | @stop a w₀ hQ=>exact λgs w q T sl hr ha F=>⟨0,gs,w,sl,q,T,a,rfl,ha,F,λw₁ h₁=>hQ w₁ (atRel_trans _ _ _ hr h₁)⟩
 | @step a w₀ hrun hstep hnext ih=>
  intro gs w q T sl;generalize hμ:cZ gs.size q=μ;induction μ using Nat.strongRecOn generalizing gs w q T sl with
  |_ μ Mb=>
   intro hr ha F;obtain⟨i,g,d,sl',hi,hg,hst⟩:=crowd_pick (P:=P) (w:=w) (sl:=sl) (awk hrun ha F) ⟨0,a,ha,hrun⟩;have hrd:AtRel w₀ (w.at d):=atRel_trans _ _ _ hr ⟨d,rfl⟩;rcases mr i with rfl|lJ
   .obtain rfl:g=a:=(by rw[ha]at hi;exact(bj hi).symm);obtain⟨g',w',es,hgo,hd⟩:=hstep _ hrd;have hrt:=mj (P:=P) (sl:=sl') (i:=0) hi (show bn P (0==0) g (w.at d)=_ from hgo);have hlt:0<gs.size:=(bF.1 ha).1;have F':=F.own (gs':=(gs.map (woken P g g' w')).setIfInBounds 0 g') (fn:=g.frame.fn) (pos:=g.frame.place) (hD _ _ _ hd) aJ hlt (λx y hx hy=>by rw[gG ai,oH]at hy;obtain⟨z,hz,rfl⟩:=mb.1 hy;rw[hz,mi (nB w' (F.old x z hx hz).status)]);obtain⟨N,Uc,w2,xd,q2,t2,a2,h1,h2⟩:=ih _ g' w' es hrd hgo _ w' q _ sl' (atRel_refl w') (iw (by simpa using hlt)) F';have hs:=hst.trans hrt;exact⟨N+1,Uc,w2,xd,q2,t2,a2,by rw[pB hs];exact h1,h2⟩
   .obtain⟨gs',ops,q',hrt,ha',F',hsz,hlt⟩:=quit (w:=w.at d) (sl:=sl') hrun ha F lJ hi hg;obtain⟨N,Uc,w2,xd,q2,t2,a2,h1,h2⟩:=Mb _ (hμ▸hlt) gs' (w.at d) q' (T++ops) sl' (by rw[hsz]) hrd ha' F';have hs:=hst.trans hrt;exact⟨N+1,Uc,w2,xd,q2,t2,a2,by rw[pB hs];exact h1,h2⟩
end
structure EndSpot(d:bp)(fr:aB)(fs:List aB)(YR:aB):Prop where
 wake:mayWake d.P (cy fr (fs++d.cs0))=au
 ex:∃frc:aB,(∀w,d.K w->∃w₂,bn d.P au (cy fr (fs++d.cs0)) w=.go (cy frc (fs++d.cs0)) w₂ (closeEvents d.gone)/\w₂.tape=w.tape/\w₂.os=w.os/\w₂.output=w.output/\w₂.heap.size=w.heap.size/\(∃k r:Nat,w₂.heap[d.gone]? =ae (.chan 0 #[] au k r aw))/\∀b,b≠d.gone->w₂.heap[b]? =w.heap[b]?)/\
  ∀(Rd:Nat->Loc->Prop) (n Low:Nat) (F:aj->Prop),(∀w w',wm d.C d.Wg w w'->F w->F w')->∃gC:aY->aj->Prop,(∀g w,gC g w->g.status=.running)/\
   (∀g w,gC g w->∃m,GP d.P d.ty d.Wg d.C Rd n Low (J1 d.P d.ty d.Wg d.C Rd n Low gC λg w=>g=cy YR (fs++d.cs0)/\F w/\dG d.ty d.Wg w) m g w)/\∀w,F w->dG d.ty d.Wg w->∃m,GP d.P d.ty d.Wg d.C Rd n Low (J0 d.P d.ty d.Wg d.C Rd n Low gC) m (cy frc (fs++d.cs0)) w
def Mm(w:aj)(b:Nat):Prop:=∃k r:Nat,w.heap[b]? =ae (Obj.chan 0 #[] au k r aw)
def bp.K2(d:bp)(w:aj):Prop:=d.K0 w/\iC w d.come/\Mm w d.gone/\(∀i,i<d.j->iC w (d.turn i))/\Kx w
section
variable{d:bp}{u:fX}{tp:Nat->Nat}{fe:Nat->Bool}{r:aj}
theorem acu(O:d.Ok):(d.cc.now d.K2 λ_ h=>h.1).Ok:=by
 refine⟨λw w₁ hr hk=>?_,λw hk=>aL hk.1.2.2,O.cw,λw hk hp=>?_,(nS O).still⟩
 .obtain⟨⟨h1,h2,h3⟩,h4,h5,h6,hx⟩:=hk;have pw:Kx w₁:=hx.same λb o hb ho=>by rw[hr.block b (aL hb) (λe=>by obtain⟨st,sm,hw⟩:=h1;have hw:w.heap[d.Wg]? =_:=hw;have hb:w.heap[d.Wg]? =ae o:=(by rw[←hb];exact congrArg _ e.symm);rw[hw]at hb;obtain rfl:=bj hb;cases ho)];exact hb
  have op:∀b,d.Wg≠b->iC w b->iC w₁ b:=λb hb ⟨k,hk⟩=>⟨k,by rw[hr.block b (aL hk) (bZ hb)];exact hk⟩;have sh:∀b,d.Wg≠b->Mm w b->Mm w₁ b:=λb hb ⟨k,r,hk⟩=>⟨k,r,by rw[hr.block b (aL hk) (bZ hb)];exact hk⟩;refine⟨⟨hr.live h1,λi hi x hx=>?_,by rw[hr.block d.C (aL h3) O.cw];exact h3⟩,op _ O.wc h4,sh _ O.wg h5,λi hi=>op _ (O.wt i hi) (h6 i hi),pw⟩;have h:=h2 i hi x hx;have e:w₁.heap[x.1.block]? =w.heap[x.1.block]? :=hr.block _ (kA h) (O.wf i hi x hx);rw[←h];simp only[fG,e]
 .obtain⟨cs,h1,h2⟩:=hp;have h3:w.heap[d.C]? =ae (aK d.csC d.eC (0,0)):=hk.1.2.2;rw[show(d.cc.now d.K2 λ_ h=>h.1).C=d.C from rfl,h3]at h1;simp only[dD,vw]at h1;rw[←h1.1]at h2;have:d.csC.size=d.csC.size+1:=h2;omega
omit[Payload]in
theorem acv{Wg:Nat}{Rd:Nat->Loc->Prop}{j:Nat}(h:Ev0 Wg Dz Rd j e):ZI Wg e:=by
 refine⟨λx hx hs=>?_,h.2.1,h.2.2.1⟩;rcases((h.1 0 "").2 x hx)with⟨_,h2⟩|⟨h2,_⟩
 .exact h2
 .exact aT hs h2
theorem evH_close(d:bp):∀e∈closeEvents d.gone,EvH d.cc e:=by
 intro e he;simp only[closeEvents,List.mem_toArray,fU,rP,or_false]at he;have hS:∀g l,d.cc.S g l->∃x,l=.cell x:=λg l ⟨_,_,_,x,_,h⟩=>⟨_,h⟩;rcases he with rfl|rfl
 all_goals
  refine⟨λt ht=>⟨λg hg=>?_,λhs=>?_⟩,aJ,aJ,aJ⟩
  .obtain⟨y,hy⟩:=hS g _ hg;simp only[fH,ly,dD]at ht;first|(subst ht;cases hy)|cases ht
  .obtain⟨y,hy,_⟩:=hs;simp only[fH,ly,dD]at ht;first|(subst ht;cases hy)|cases ht
theorem over(X:d.Fit){YR:aB}(E:EndSpot d fr fs YR)(B:Between d u t A tp M Inb r)(hg:gs[0]? =ae (cy fr (fs++d.cs0)))(F:CF d.cc 0 d.j 0 Inb .kd D fe q T gs r):
  ∃N gs' r' sl' q' T',runNT d.P N (bS gs r sl) T=(.next (bS gs' r' sl'),T')/\gs'[0]? =ae (cy YR (fs++d.cs0))/\TF d.P d.Wg q' T' gs'/\r'.os=r.os/\r'.output=r.output/\r.heap.size<=r'.heap.size/\dG d.ty d.Wg r'/\∀b,b<r.heap.size->b≠d.Wg->b≠d.gone->r'.heap[b]? =r.heap[b]? :=by
 have O:=X.ok;have OK:=nS O;have OK2:=acu O;obtain⟨frc,hclose,aeS⟩:=E.ex;have hKr:d.K r:=F.K;obtain⟨N1,gs1,w1,w2,EW,T1,D1,kd1,q1,Lp,Uf,acw,hg1,J1'⟩:=closes (c:=d.cc) (K':=d.K2) (hs:=λ_ h=>h.1) (sl:=sl) OK (kg:=λ_=>1) (z:=λi=>((Inb (i+1)).bind λs=>s.cases[1]?).elim aO (·.zero)) (a:=cy fr (fs++d.cs0)) (a':=cy frc (fs++d.cs0)) (es:=closeEvents d.gone) rfl rfl E.wake
  (λw₁ hr hk=>by
   obtain⟨w₂,h1,_,_,_,_,h2,h3⟩:=hclose w₁ hk;obtain⟨⟨⟨st,sm,k1⟩,k2,k3⟩,⟨c1,k4⟩,⟨c2,k5⟩,k6,kx⟩:=hk;refine⟨w₂,h1,⟨⟨⟨st,sm,by show w₂.heap[d.Wg]? =_;rw[h3 _ O.wg];exact k1⟩,λi hi x hx=>?_,by rw[h3 _ (λe=>by rw[e,k5]at k3;cases k3)];exact k3⟩,⟨c1,by rw[h3 _ O.cg];exact k4⟩,h2,λi hi=>?_,kx.same λb o hb ho=>by rw[h3 b (λe=>by rw[e,k5]at hb;obtain rfl:=bj hb;cases ho)];exact hb⟩,h3⟩
   .have h:=k2 i hi x hx;rw[←h];simp only[fG,h3 x.1.block (λe=>by rw[xC (by rw[e];exact k5)]at h;cases h)]
   .obtain⟨k,hk⟩:=k6 i hi;exact⟨k,by rw[h3 _ (bZ (O.gt i hi))];exact hk⟩)
  (evH_close d) (bZ O.wg) (λe=>by obtain⟨⟨_,_,k3⟩,_,⟨_,k5⟩,_⟩:=hKr;have e:d.gone=d.C:=e;rw[e,k3]at k5;cases k5)
  (λi s hs=>by
   obtain⟨z1,z2,g,hi,rfl⟩:=B.seats i s hs;have hz:((Inb (i+1)).bind λs=>s.cases[1]?).elim aO (·.zero)=z2:=(by rw[hs];rfl);refine⟨by rw[hz];rfl,λg₂ aeT=>?_⟩;obtain rfl:g₂=g:=aeT;by_cases hl:u.live i t
   .obtain⟨y1,y2,f2,s2,h1,⟨n',h2⟩,_⟩:=(B.rest i hi).go hl;rw[hs]at h1;simp only[bp.seat,dD,Seat.mk.injEq]at h1;obtain⟨hc,_,hh⟩:=h1;have e1:g₂=cy f2 (s2++d.cw i):=(by have:=congrFun hh g₂;simpa using this);have e2:z1=y1/\z2=y2:=(by simpa[dh]using hc);refine⟨n',λw hw=>?_⟩;rw[hz];subst e1;obtain⟨rfl,rfl⟩:=e2;exact h2 w hw
   .rw[(B.rest i hi).over hl]at hs;cases hs)
  (λw hw=>hw.2.2.1) (λw hw i s b hs hb hne=>by
   obtain⟨z1,z2,g,hi,rfl⟩:=B.seats i s hs;rcases oO hb with rfl|e
   .exact hw.2.2.2.1 i hi
   .exact aT e hne) hg F
 obtain⟨_,hc1,_,ho1,Az,nT,aeU,hb2⟩:=hclose w1 (OK.keep _ _ Uf.g hKr);have acw:bn d.P au (cy fr (fs++d.cs0)) w1=_:=acw;rw[acw]at hc1;injection hc1 with _ hw2 _
 subst hw2;obtain⟨gC,hA,hAn,hJ0⟩:=aeS (d.cc.now d.K2 λ_ h=>h.1).Rd d.j w2.heap.size (λw=>wm d.C d.Wg w2 w) (λw w' h1 h2=>⟨h1.tape.trans h2.tape,h1.os.trans h2.os,h1.output.trans h2.output,dm h2.size h1.size,λk h3 h4 h5=>(h1.block k (iR h3 h2.size) h4 h5).trans (h2.block k h3 h4 h5)⟩);have hK2:d.K2 w2:=J1'.keep;obtain⟨m0,hG0⟩:=hJ0 w2 ⟨rfl,rfl,rfl,bJ _,λ_ _ _ _=>rfl⟩ hK2.1.1;have Ax:Zx (d.cc.now d.K2 λ_ h=>h.1) (λ_=>ah) w2.heap.size:=by
  obtain⟨⟨⟨st0,sm0,kw⟩,k2,k3⟩,⟨c1,k4⟩,⟨c2,c3,k5⟩,k6,kx⟩:=id hK2;refine⟨λw w' hw hk=>?_,λi s b hi hs hb=>(by cases hs),aL kw,aL k3⟩;obtain⟨⟨⟨st,sm,h1⟩,h2,h3⟩,⟨x4,h4⟩,⟨x5,y5,h5⟩,h6,hx⟩:=hk;refine⟨⟨⟨st,sm,by show w'.heap[d.Wg]? =_;rw[hw d.Wg (aL kw)];exact h1⟩,λi hi x hx=>?_,by rw[hw d.C (aL k3)];exact h3⟩,⟨x4,by rw[hw _ (aL k4)];exact h4⟩,⟨x5,y5,by rw[hw _ (aL k5)];exact h5⟩,λi hi=>?_,λb o h1 h2=>by rw[hw b (aL (kx b o h1 h2))];exact hx b o h1 h2⟩
  .have:=h2 i hi x hx;rw[←this];simp only[fG,hw _ (kA (k2 i hi x hx))]
  .obtain⟨x6,h6⟩:=h6 i hi;obtain⟨_,h7⟩:=k6 i hi;exact⟨x6,by rw[hw _ (aL h7)];exact h6⟩
 obtain⟨N2,Uc,w3,xd,T2,D2,kd2,q2,a2,m2,Mi,hg2,hG2,J2,hac,hall⟩:=joins (c:=d.cc.now d.K2 λ_ h=>h.1) (sl:=EW) OK2 (Rd:=(d.cc.now d.K2 λ_ h=>h.1).Rd) (n:=d.j) (Low:=w2.heap.size) (λw w' es h=>dhc_of_dp OK2 Ax (λh0 g l ⟨i,_,hi,_⟩=>by have hi:i<d.j:=hi;omega) h) hA (λg w h=>by obtain⟨rfl,_⟩:=h;rfl) hAn hg1 (.kd hG0) aJ aJ J1';have F2:=TF.of J2 hall hac;have ag0:w3.heap[d.C]? =ae (aK d.csC d.eC (0,0)):=J2.keep.1.2.2;have ag1:d.C<w2.heap.size:=aL hK2.1.2.2;have Mn:d.Wg<w2.heap.size:=by obtain⟨st,sm,h⟩:=hK2.1.1;exact aL h
 have hW:=Qp (P:=d.P) (X:=λw=>w.heap[d.C]? =ae (aK d.csC d.eC (0,0))/\dG d.ty d.Wg w) (λw dd=>ot.at w dd) (λw dd h=>h) (λw w' es hd hx=>⟨by rw[hd.1 d.C ag1];exact hx.1,by obtain⟨st,sm,h⟩:=hx.2;exact⟨st,sm,(hd.1 d.Wg Mn).trans h⟩⟩) ⟨ag0,J2.keep.1.1⟩ hG2;obtain⟨N3,gs3,w4,ZC,q3,T3,a3,Ud,hg3,F3,hQ⟩:=Gi (sl:=xd) (λw w' es hd e he=>acv (hd.2 e he)) hW hg2 F2;obtain⟨⟨rfl,hAs,_⟩,hC4,Uk⟩:=hQ w4 (atRel_refl w4);refine⟨N1+N2+N3,gs3,w4,ZC,q3,T3,dH (dH Lp Mi) Ud,hg3,F3,hAs.os.trans (ho1.trans Uf.os),hAs.output.trans (Az.trans Uf.output),?_,Uk,λb h1 h2 h3=>?_⟩
 .have:=hAs.size;rw[nT,Uf.size]at this;exact this
 .by_cases e:b=d.C
  .rw[e,hC4];exact hKr.1.2.2.symm
  .rw[hAs.block b (by rw[nT,Uf.size];exact h1) e h2,hb2 b h3];exact Uf.block b h2
end
end
section
open Go Go.Conc Go.ConcN
open Go.ConcR (KK WgAt stA smA Payload Aside2 DC0)
variable[fQ]
structure SF(T:Trace)(w:aj):Prop where
 who:∀op∈T,op.g=0
 deaf:Deaf T 0=0
 norel:∀op∈T,∀a,op.act≠.mark (.release a)
 inside:∀i a,touchAt T i=ae a->∀x,a.loc=.cell x->x.block<w.heap.size
structure DSo(w w':aj)(es:Array cK):Prop where
 size:w.heap.size<=w'.heap.size
 evs:∀e∈es,(∀t x,(fH e).touch? =ae t->t.loc=.cell x->x.block<w'.heap.size)/\e.loc≠.mark .disable/\e.loc≠.mark .enable/\∀a,e.loc≠.mark (.release a)
section
variable{P:bh}{w:aj}{es:Array cK}
omit[Payload]in
theorem acx(w:aj):SF #[] w:=⟨λop h=>by simp at h,rfl,λop h=>by simp at h,λi a h=>by obtain⟨x,hx,_⟩:=touch_of h;simp at hx⟩
omit[Payload]in
theorem SF.own(F:SF T w)(hd:DSo w w' es){pos:String}:SF (T++eM 0 fn pos es) w':=by
 have cH:∀op∈eM 0 fn pos es,op.g=0:=λop hop=>by obtain⟨e,_,rfl⟩:=iK hop;rfl
 refine⟨λop hop=>(ib.1 hop).elim (F.who op) (cH op),?_,λop hop a=>?_,λi a ha x hx=>?_⟩
 .rw[Deaf_own,F.deaf];exact deafBehind_still (λe h=>⟨(hd.evs e h).2.1,(hd.evs e h).2.2.1⟩) _
 .rcases ib.1 hop with h|h
  .exact F.norel op h a
  .obtain⟨e,he,rfl⟩:=iK h;intro hm;refine(hd.evs e he).2.2.2 a ?_;obtain⟨loc,wr,sy⟩:=e;cases loc<;>simp_all [fH] <;>(split at hm<;>simp_all)
 .obtain⟨y,hy,hya⟩:=touch_of ha;rcases tG hy with⟨hlt,hy'⟩|⟨_,hyu⟩
  .exact iR (F.inside i a (by rw[touchAt_of hy'];exact hya) x hx) hd.size
  .obtain⟨e,he,rfl⟩:=iK hyu;exact(hd.evs e he).1 a x hya hx
omit[Payload]in
theorem EY(hW:jz P au AtRel DSo Q a w)(F:SF T w):
  ∃N w' sl' T' a',runNT P N (bS #[a] w sl) T=(.next (bS #[a'] w' sl'),T')/\SF T' w'/\∀w₁,AtRel w' w₁->Q a' w₁:=by
 suffices H:∀a w₀,jz P au AtRel DSo Q a w₀->∀w T sl,AtRel w₀ w->SF T w->∃N w' sl' T' a',runNT P N (bS #[a] w sl) T=(.next (bS #[a'] w' sl'),T')/\SF T' w'/\∀w₁,AtRel w' w₁->Q a' w₁ from H a w hW w T sl (atRel_refl w) F
 intro a w₀ hW;induction hW with
 | @stop a w₀ hQ=>exact λw T sl hr F=>⟨0,w,sl,T,a,rfl,F,λw₁ h₁=>hQ w₁ (atRel_trans _ _ _ hr h₁)⟩
 | @step a w₀ hrun hstep hnext ih=>
  intro w T sl hr F;obtain⟨i,g,d,sl',hi,hg,hst⟩:=crowd_pick (P:=P) (w:=w) (sl:=sl) (gs:=#[a]) (λg hg=>by simp at hg;subst hg;exact awake_of (.inl hrun)) ⟨0,a,rfl,hrun⟩;have hrd:AtRel w₀ (w.at d):=atRel_trans _ _ _ hr ⟨d,rfl⟩;obtain rfl:i=0:=by have:=(bF.1 hi).1;simp at this;exact this
  obtain rfl:g=a:=by simp at hi;exact hi.symm
  obtain⟨g',w',es,hgo,hd⟩:=hstep _ hrd;have hrt:=mj (P:=P) (sl:=sl') (i:=0) hi (show bn P (0==0) g (w.at d)=_ from hgo);have F1:SF T (w.at d):=⟨F.who,F.deaf,F.norel,F.inside⟩;obtain⟨N,w2,xd,t2,a2,h1,h2⟩:=ih _ g' w' es hrd hgo w' _ sl' (atRel_refl w') (F1.own hd (fn:=g.frame.fn) (pos:=g.frame.place));have hs:=hst.trans hrt;have e:(#[g].map (woken P g g' w')).setIfInBounds 0 g'=#[g']:=aJ;rw[e]at hs;exact⟨N+1,w2,xd,t2,a2,by rw[pB hs];exact h1,h2⟩
theorem Mo(F:SF T w)(hsz:c.Wg=w.heap.size)(hw:WgAt c.ty c.Wg w' 0 0)(hK:c.K w')(hS:∀g l,¬c.S g l){fe:Nat->Bool}:
  CF c 0 0 0 (λ_=>ah) .kd D fe q T #[a'] w':=by
 refine⟨rfl,aJ,λi g s _ _ h=>dB,λh=>aT rfl h,λi g h1 h2 _=>?_,λi hi=>aT hi (fR i),λi s h=>dB,λi s h=>dB,λi s b _ h _=>dB,λi i' s s' b _ _ h _ _ _ _=>dB,hK,⟨0,0,hw,?_⟩,by simp[ConcN.pend],⟨λsaid=>noRace_of_lone F.who,λi a ha _=>?_,λi a ha _ g _=>?_,λi a ha hX=>?_,λ_ h=>h.elim⟩,F.deaf,λi hi=>aT hi (fR i),λi hi=>?_,λop hop=>F.norel op hop _,λi hi=>aT hi (fR i),λop hop=>by rw[F.who op hop];simp⟩
 .simp at h2
 .have:=ConcN.Mode.opn (j:=0) (D:=D) (tag:=.kd) trivial (λi hi=>aT hi (fR i)) (λvs h=>dB);simpa[ConcN.pend,Vc,cZ]using this
 .obtain⟨x,hx,_⟩:=touch_of ha;have:=knows_own hx;rw[F.who x (qf hx)]at this;exact .inl this
 .obtain⟨x,hx,_⟩:=touch_of ha;have:=knows_own hx;rw[F.who x (qf hx)]at this;exact aT ‹c.S g a.loc› (by intro h;exact hS g _ h)
 .obtain⟨x,hx,hb⟩:=hX;have:=F.inside i a ha x hx;omega
 .have:=ig #[] (g:=i) (g':=0) (by simp at hi;omega) T F.who;rw[Array.empty_append]at this;exact this
end
end
section
open Go Go.Conc Go.ConcN
open Go.ConcR (KK WgAt stA smA Payload Aside2 DC0)
variable[fQ]
variable[Inhabited dc]
def jR(d:bp)(u:fX)(r:aj)(b:Nat):Prop:=∃i,i<d.j/\u.Pub i r b
open Classical in
noncomputable def Cf(d:bp)(b:Nat):Option (Nat×Nat):=if h:∃f i,i<d.j/\d.fw i b=ae f then ae (Classical.choose h)else ah
def Nr(d:bp)(u:fX)(M:Nat->Prop)(r:aj)(b:Nat):Prop:=Nm d M r b\/jR d u r b
open Classical in
noncomputable def bp.Fr(d:bp)(u:fX)(r:aj)(b:Nat):Option (Nat×Nat):=(d.Fm b).or (if jR d u r b then Cf d b else ah)
section
variable{d:bp}{u:fX}{tp:Nat->Nat}{a r:aj}
theorem Between.Cf(B:Between d u t A tp M Inb r){f:Nat×Nat}(hi:i<d.j)(h:d.fw i b=ae f):Cf d b=ae f:=by have hex:∃f i,i<d.j/\d.fw i b=ae f:=⟨f,i,hi,h⟩;unfold Go.Proofs.YtfmibhmknlnoiaaGreat.Cf;rw[dif_pos hex];obtain⟨i',hi',h'⟩:=Classical.choose_spec hex;have:i=i':=B.apart i i' b hi hi' ((B.rest i hi).fw _ _ h).1 ((B.rest i' hi').fw _ _ h').1;subst this;rw[h]at h';exact h'.symm
omit[Payload]in
theorem Mp{f:Nat×Nat}(h:Cf d b=ae f):∃i,i<d.j/\d.fw i b=ae f:=by
 unfold Go.Proofs.YtfmibhmknlnoiaaGreat.Cf at h;split at h
 .rename_i hex;obtain rfl:=bj h;exact Classical.choose_spec hex
 .cases h
theorem Between.uL(B:Between d u t A tp M Inb r)(h:jR d u r b):∃i,i<d.j/\Mine d u (A i) b:=by obtain⟨i,hi,hb⟩:=h;exact⟨i,hi,(B.rest i hi).pub b hb⟩
omit[Payload]in
theorem xF{f:Nat×Nat}(h:d.Fr u r b=ae f):d.Fm b=ae f\/(d.Fm b=ah/\jR d u r b/\∃i,i<d.j/\d.fw i b=ae f):=by
 rcases or_some (x:=ah) h with h|⟨h1,h⟩
 .exact .inl h
 .split at h
  .rename_i hp;exact .inr ⟨h1,hp,Mp h⟩
  .cases h
theorem Between.ag2(B:Between d u t A tp M Inb r)(X:d.Fit)(hK:d.K r):d.Eye (Nr d u M r) (d.Fr u r) r:=by
 have E:=B.aeC X hK;have far:∀b,jR d u r b->b≠d.Wg/\b≠d.come/\b≠d.gone/\∀k,k<d.j->b≠d.turn k:=λb h=>by obtain⟨i,hi,hm⟩:=B.uL h;exact B.far i b hi hm
 refine⟨λh=>h.elim E.wg λh=>(far _ h).1 rfl,λh=>h.elim E.come λh=>(far _ h).2.1 rfl,λh=>h.elim E.gone λh=>(far _ h).2.2.1 rfl,λk hk h=>h.elim (E.turn k hk) λh=>(far _ h).2.2.2 k hk rfl,λi hi x hx=>?_,?_,λb f hf=>?_,λb hb=>⟨.inl (E.new b hb).1,?_⟩,λb o hb ho=>hb.elim (λh=>E.bad b o h ho) λh=>by obtain⟨i,hi,hm⟩:=B.uL h;exact B.oks b o (.inr (.inr (.inr ⟨i,hi,hm⟩))) ho⟩
 .rcases E.facts i hi x hx with h|⟨f,hf,h1,h2⟩
  .by_cases hp:jR d u r x.1.block
   .right;obtain⟨f,hf,h1,h2⟩:=X.fwf i hi x hx;refine⟨f,?_,h1,h2⟩;have S4:d.Fm x.1.block=ah:=by
     cases e:d.Fm x.1.block with
     |none=>rfl
     |some g=>exact aT (E.fzn _ _ e) h
    simp only[bp.Fr,S4,aX hp,Option.none_or];exact B.Cf hi hf
   .exact .inl λhn=>hn.elim h hp
  .exact .inr ⟨f,by simp only[bp.Fr,hf,Option.some_or],h1,h2⟩
 .simp only[bp.Fr,E.C,Option.some_or]
 .rcases xF hf with h|⟨_,h,_⟩
  .exact .inl (E.fzn _ _ h)
  .exact .inr h
 .cases e:d.Fr u r b with
  |none=>rfl
  |some f=>
   rcases xF e with h|⟨_,h,_⟩
   .rw[(E.new b hb).2]at h;cases h
   .obtain⟨i,hi,hm⟩:=B.uL h;obtain⟨o,ho,_⟩:=B.there hi hm;have:=aL ho;omega
theorem Between.fzR(B:Between d u t A tp M Inb r)(X:d.Fit):Aw (d.Fr u r) r:=λb f hf=>by
 rcases xF hf with h|⟨_,_,i,hi,h⟩
 .exact B.fzM (λb f h=>(X.fmW b f h).2) b f h
 .exact((B.rest i hi).fw _ _ h).2
omit[Payload]in
theorem Qq(h0:Aw F r)(h1:Aw F r')(h:(r.heap[b]?).map (fV (F b))=(r'.heap[b]?).map (fV (F b))):r'.heap[b]? =r.heap[b]? :=by
 cases e:F b with
 |some f=>obtain⟨c,e1,hc⟩:=h0 b f e;obtain⟨c',e1',hc'⟩:=h1 b f e;rw[hc,hc',e,nC,nC,tL,tL]at h;simp only[dD,vw,and_true]at h;rw[hc,hc',h.1,h.2]
 |none=>
  have id':∀o:Option Obj,o.map (fV ah)=o:=λo=>by
   cases o with
   |none=>rfl
   |some o=>cases o<;>rfl
  rw[e,id',id']at h;exact h.symm
def Cg(d:bp)(u:fX)(r a:aj)(b:Nat):Prop:=jB d a b/\¬jR d u r b
theorem Between.read(B:Between d u t A tp M Inb r)(X:d.Fit)(U:u.Ok d)(hK:d.K r)(L:DI d.cc (Nr d u M r) (d.Fr u r) r a r')(R:Rel (Hid (Nr d u M r) r) a r')(ko:∀b,jR d u r b->a.heap[b]? =(r.heap[b]?).map (fV (d.Fr u r b))):Between d u t A tp (Cg d u r a) Inb r':=by
 have yD:∀b f,d.Fm b=ae f->d.Fr u r b=ae f:=λb f h=>by simp only[bp.Fr,h,Option.some_or]
 have hro:∀b,d.ro b≠ah->r'.heap[b]? =r.heap[b]? :=λb hb=>by
  obtain⟨f,hf⟩:=nE.1 hb;have S4:d.fm b=ah:=by
   cases e:d.fm b with
   |none=>rfl
   |some g=>obtain⟨_,i,hi,rfl⟩:=X.fmW b g e;rw[X.roW i hi]at hf;cases hf
  exact whole_same (xE X (B.rook b f hf) (yD _ _ (by simp[bp.Fm,S4,hf])) (X.ro0 b f hf)) (eG r) L.shp λx hx=>L.cells x hx
 have pQ:∀b,jR d u r b->r'.heap[b]? =r.heap[b]? :=λb hb=>by refine Qq (B.fzR X) L.fz ?_;rw[←ko b hb];exact L.sees.need (.inr hb)
 have hw:∀i b,i<d.j->Mine d u (A i) b->r'.heap[b]? =r.heap[b]? :=λi b hi hb=>by
  by_cases hp:jR d u r b
  .exact pQ b hp
  .obtain⟨o,ho,hn⟩:=B.there hi hb;refine L.still b (vZ ho hn ?_) (B.far i b hi hb).1;rintro((h|⟨i',hi',rfl⟩|h|h)|h)
   .exact(B.m b h).2.1 i hi hb
   .exact hp ⟨i',hi',U.pubW i' _ r hi' (B.rest i' hi').wr⟩
   .exact h hb.choose_spec.2.2.2.2
   .have:=aL ho;omega
   .exact hp h
 have hf:∀b,u.Foot r b->r'.heap[b]? =r.heap[b]? :=λb hb=>by
  obtain⟨⟨c,e,hc⟩,hr⟩:=U.foot t r b B.inv hb;refine L.still b (vZ hc rfl ?_) (B.footg b hb);rintro((h|⟨i,hi,rfl⟩|h|h)|h)
  .exact(B.m b h).2.2.1 hb
  .exact B.foot i _ hi (B.tQ X hi) hb
  .exact h hr
  .have:=aL hc;omega
  .obtain⟨i,hi,hm⟩:=B.uL h;exact B.foot i b hi hm hb
 have hback:∀b,Cg d u r a b->r'.heap[b]? =a.heap[b]? :=λb ⟨⟨o,h1,h2,h3,h4,h5⟩,h6⟩=>by
  obtain⟨y,hy,h7,_⟩:=gz L.sees h1 h2;have:d.Fr u r b=ah:=by
   cases e:d.Fr u r b with
   |none=>rfl
   |some f=>
    rcases xF e with h|⟨_,h,_⟩
    .rcases or_some (x:=ah) h with h|⟨_,h⟩
     .obtain⟨_,i,hi,rfl⟩:=X.fmW b f h;exact aT rfl (h4 i hi)
     .rw[h5]at h;cases h
    .exact aT h h6
  rw[this]at h7;rw[h1,hy,h7];cases y<;>rfl
 refine B.keep X U hK L.grow hw hro hf (λb ⟨⟨o,h1,h2,h3,h4,h5⟩,h6⟩=>?_) (λb o hb ho=>?_) (λb x l h=>L.shp.2 _ _ _ h) L.same
 .obtain⟨y,hy,_,hN⟩:=gz L.sees h1 h2;rcases hN h3 with(h|⟨i,hi,h⟩|h|h)|h
  .exact .inl h
  .exact aT h (h4 i hi)
  .exact aT h5 h
  .exact .inr ⟨h,aL hy,h5⟩
  .exact aT h h6
 .rw[hback b hb]at ho;obtain⟨⟨o',h1,h2,h3,_⟩,_⟩:=hb;rw[h1]at ho;obtain rfl:=bj ho;refine R.objs b (λhh=>?_) o' h1;have:=(R.hid b hh).1;rw[h1]at this;exact h2 (bj this)
structure xG(d:bp)(u:fX)(t:Nat)(a a':aj):Prop where
 size:a'.heap.size=a.heap.size
 same:∀(b:Nat) o,a.heap[b]? =ae o->o≠eh->a'.heap[b]? =ae o
 wr:∀i,i<d.j->u.WR i t a'
 pub:∀i,i<d.j->∀b,u.Pub i a' b->(∀k,k<d.j->b≠d.W k)->a.heap[b]? =ae eh
theorem Between.Ul(B:Between d u t A tp M Inb r)(X:d.Fit)(U:u.Ok d)(jA:Sees (Nm d M r) d.Fm a r):xG d u t a (iH (Nr d u M r) (d.Fr u r) r)/\∀b,jR d u (iH (Nr d u M r) (d.Fr u r) r) b↔jR d u r b:=by
 have S:=fE (Nr d u M r) (d.Fr u r) r;have hwr:∀i,i<d.j->u.WR i t (iH (Nr d u M r) (d.Fr u r) r)/\∀b,u.Pub i (iH (Nr d u M r) (d.Fr u r) r) b↔u.Pub i r b:=λi hi=>U.wr i t r _ (B.rest i hi).wr λx hx=>(cell_chill (S.need (.inr ⟨i,hi,hx⟩))).symm;refine⟨⟨by rw[S.size,jA.size],λb o h1 h2=>?_,λi hi=>(hwr i hi).1,λi hi b hb hW=>?_⟩,λb=>⟨λ⟨i,hi,h⟩=>⟨i,hi,((hwr i hi).2 b).1 h⟩,λ⟨i,hi,h⟩=>⟨i,hi,((hwr i hi).2 b).2 h⟩⟩⟩
 .obtain⟨y,hy,h3,h4⟩:=gz jA h1 h2;by_cases hn:di o=au
  .have hN:=h4 hn;rw[hide_need (.inl hN),hy];have:d.Fr u r b=d.Fm b:=by
    unfold bp.Fr;cases e:d.Fm b with
    |some f=>rfl
    |none=>
     split
     .rename_i hp;obtain⟨i,hi,hm⟩:=B.uL hp;exfalso;rcases hN with h|⟨i',hi',rfl⟩|h|h
      .exact(B.m b h).2.1 i hi hm
      .obtain⟨f,hf⟩:=X.Wfm i' hi';simp[bp.Fm,hf]at e
      .exact h hm.choose_spec.2.2.2.2
      .have:=aL hy;omega
     .rfl
   rw[this,h3];rfl
  .have qJ:di o=aw:=(by simpa using hn);have hy':=sees_num jA h1 qJ;rw[fp,hy'];simp[qJ,qm qJ]
 .have hb':u.Pub i r b:=((hwr i hi).2 b).1 hb;have hm:=(B.rest i hi).pub b hb';obtain⟨o,ho,hn⟩:=B.there hi hm;refine jA.hid (vZ ho hn ?_);rintro(h|⟨i',hi',h⟩|h|h)
  .exact(B.m b h).2.1 i hi hm
  .exact hW i' hi' h
  .exact h hm.choose_spec.2.2.2.2
  .have:=aL ho;omega
end
inductive Ph where
 |pre|run (t:Nat) (d:bp)|read (t:Nat) (d:bp) (w:aj)|post
structure pE(d:bp)(u:fX)(a a':aj):Prop where
 size:a'.heap.size=a.heap.size+1
 same:∀(b:Nat) o,a.heap[b]? =ae o->o≠eh->¬u.Foot a b->b≠d.come->b≠d.gone->d.ro b=ah->a'.heap[b]? =ae o
 ro:∀b f,d.ro b=ae f->∃c e,a.heap[b]? =ae (aK c e (0,0))/\a'.heap[b]? =ae (aK c e f)
structure Start(d:bp)(u:fX)(a:aj)(fr:aB)(fs:List aB)(cB:aB):Prop where
 Wg:d.Wg=a.heap.size
 j:d.j=0
 step:∀w:aj,w.heap.size=a.heap.size->bn d.P au (cy fr (fs++d.cs0)) w=.go (cy cB (fs++d.cs0)) {w with heap:=w.heap.push (qi d.ty 0 0)} #[]
 fit:d.Fit
 uok:u.Ok d
 come:a.heap[d.come]? =ae (.chan 0 #[] aw 0 0 aw)
 gone:a.heap[d.gone]? =ae (.chan 0 #[] aw 0 0 aw)
 C:a.heap[d.C]? =ae (aK d.csC d.eC (0,0))
 inv:u.Inv 0 a
 ro:∀b f,d.ro b=ae f->∃c e,a.heap[b]? =ae (aK c e (0,0))/\c.size<=f.2
structure xH(d:bp)(u:fX)(t:Nat)(a a':aj):Prop where
 size:a.heap.size<=a'.heap.size
 same:∀(b:Nat) o,a.heap[b]? =ae o->o≠eh->¬jR d u a b->d.ro b=ah->a'.heap[b]? =ae o
 ro:∀b f,d.ro b=ae f->∃c e,a.heap[b]? =ae (aK c e f)/\a'.heap[b]? =ae (aK c e (0,0))
 inv:u.Inv t a'
 wr:∀i,i<d.j->u.WR i t a'
 pub:∀b,jR d u a b->∀x:aP,x.block=b->a'.cell? x=a.cell? x
 foot:∀(b:Nat) o,a.heap[b]? =ae o->o≠eh->di o=au->¬jR d u a b->d.ro b=ah->¬u.Foot a' b
 pubF:∀b,jR d u a b->¬u.Foot a' b
def JA(P:bh)(S:bN)(cs0:List aB)(U:bp->fX)(fr:aB)(fs:List aB)(a:aj)(K:Ph->aB->List aB->aj->Prop):Prop:=∃d cB,d.P=P/\d.S=S/\d.cs0=cs0/\Start d (U d) a fr fs cB/\K=λi' ZJ dg a'=>i'=.run 0 d/\ZJ=cB/\dg=fs/\pE d (U d) a a'
def JV(U:bp->fX)(t:Nat)(d:bp)(fr:aB)(fs:List aB)(a:aj)(K:Ph->aB->List aB->aj->Prop):Prop:=K=λi' cB dg a'=>i'=.read t d a'/\cB=fr/\dg=fs/\xG d (U d) t a a'
def JE(U:bp->fX)(t:Nat)(d:bp)(w:aj)(fr:aB)(fs:List aB)(a:aj)(K:Ph->aB->List aB->aj->Prop):Prop:=∃YR,EndSpot d fr fs YR/\(∀b,jR d (U d) w b->a.heap[b]? =w.heap[b]?)/\K=λi' cB dg a'=>i'=.post/\cB=YR/\dg=fs/\xH d (U d) t a a'
def JP(P:bh)(S:bN)(cs0:List aB)(U:bp->fX):fM Ph:=λi fr fs a K=>match i with
 |.pre=>JA P S cs0 U fr fs a K
 |.run t d=>(∃K',JM U (t,d) fr fs a K'/\K=λi' cB dg a'=>∃t' d',i'=.run t' d'/\K' (t',d') cB dg a')\/JV U t d fr fs a K
 |.read t d w=>JE U t d w fr fs a K
 |.post=>False
section
variable{P:bh}{S:bN}{U:bp->fX}
theorem ZK{Stop:Ph->aB->List aB->aj->Prop}{i:Ph}{a:aj}(h:ZigC P au cs0 (JP P S cs0 U) Stop i fr fs a):∀t d,i=.run t d->
  ZigC P au cs0 (JM U) (λi fr fs a=>Stop (.run i.1 i.2) fr fs a\/∃K,JV U i.1 i.2 fr fs a K/\∀i' cB dg a',K i' cB dg a'->ZigC P au cs0 (JP P S cs0 U) Stop i' cB dg a') (t,d) fr fs a:=by
 induction h with
 | @mk i fr fs a K h1 h2 ih=>
  rintro t d rfl;refine xD (h1.bind λcB dg a' hs=>.stop ?_);rcases hs with hs|⟨K',hj,hk⟩|hj
  .exact .inl (.inl hs)
  .refine .inr ⟨K',hj,λi' cz dC a2 h=>?_⟩;exact ih cB dg a' (.run i'.1 i'.2) cz dC a2 (by rw[hk];exact⟨i'.1,i'.2,rfl,h⟩) i'.1 i'.2 rfl
  .exact .inl (.inr ⟨K cB dg a',hj,h2 cB dg a'⟩)
omit[Payload]in
theorem EZ{a:Touch}(h:(fH e).touch? =ae a)(hx:a.loc=.cell x):e.loc=.cell x\/(∃m,e.loc=.mark m):=by
 obtain⟨loc,wr,sy⟩:=e;cases loc with
 |mark m=>exact .inr ⟨m,rfl⟩
 |cell y=>left;cases wr<;>cases sy<;>simp[fH,ly]at h<;>(subst h;simpa using hx)
 |obj y=>exfalso;cases wr<;>cases sy<;>simp[fH,ly]at h<;>first|(subst h;cases hx)|cases h
 |output=>exfalso;simp[fH,ly]at h;subst h;cases hx
 |goroutines=>exfalso;simp[fH,ly]at h<;>first|(subst h;cases hx)|cases h
omit[Payload]in
theorem went_solo{a a' r:aj}(w:Went H #[] a a' r r' er):DSo r r' er:=by
 refine⟨w.grow,λe he=>?_⟩;have h1:=(w.evs e he).resolve_left aJ;have h2:=(w.evin e he).resolve_left aJ;refine⟨λt x ht hx=>?_,λe'=>?_,λe'=>?_,λa e'=>?_⟩
 .rcases EZ ht hx with h|⟨m,h⟩
  .exact h2 x h
  .obtain⟨loc,wr,sy⟩:=e;simp only at h;subst h;cases m<;>first|(simp[fH,ly]at ht;done)|exact h1.elim
 all_goals
  unfold IE at h1;rw[e']at h1;exact h1
structure acy(P:bh)(S:bN)(cs0:List aB)(Stop:Ph->aB->List aB->aj->Prop)(m:Machine)(T:Trace):Prop where
 ex:∃gs r sl fr fs a,m=bS gs r sl/\gs[0]? =ae (cy fr (fs++cs0))/\((gs.size=1/\SF T r/\Stop .pre fr fs a/\Kx r/\Gd r/\∃N:Nat->Prop,Rel (Hid N r) a r/\Sees N (λ_=>ah) a r/\∀b,r.heap.size<=b->N b)\/
  ∃q Wg N,Kx r/\Gd r/\TF P Wg q T gs/\Stop .post fr fs a/\Rel (Hid N r) a r/\Sees N (λ_=>ah) a r/\Hid N r Wg/\(∀b,r.heap.size<=b->N b))
theorem OQ{a a' r:aj}(hrel:Rel H a r)(hx:Kx r)(w:Went H #[] a a' r r' er):Kx r':=hx.same λb o hb ho=>by
 rw[w.hidden b (eV λhn=>?_)]
 .exact hb
 .rcases hrel.same b hn with e|⟨c,e,f,h1,h2⟩
  .have:=hrel.objs b hn o (e.trans hb);rw[ho]at this;cases this
  .rw[hb]at h2;obtain rfl:=bj h2;cases ho
theorem nU(hN:∀b,dJ.heap.size<=b->N b):Beside (Hid N dJ) AtRel DSo (λa r=>Sees N (λ_=>ah) a r/\(∀b,Hid N dJ b↔Hid N r b)/\dJ.heap.size<=r.heap.size/\Kx r/\Gd r):=by
 refine⟨λa r r₁ ⟨d,e⟩ hrel L=>?_,λa a' r r' er hrel L w=>?_,λa a' r hA L=>⟨L.1.alike hA,L.2⟩,λa a' r r' er hrel L w=>went_solo w⟩
 .subst e;exact⟨⟨hrel.size,hrel.same,hrel.hid,hrel.objs,hrel.os,hrel.output⟩,⟨L.1.size,L.1.os,L.1.output,L.1.get⟩,L.2⟩
 .obtain⟨h1,_,h3⟩:=L.1.went (λb f h=>dB) (λb hb=>⟨hN b hb,rfl⟩) L.2.2.1 L.2.1 w;exact⟨h1,h3,dm L.2.2.1 w.grow,OQ hrel L.2.2.2.1 w,L.2.2.2.2.same w.same⟩
theorem zR{Wg:Nat}(hW:Hid N dJ Wg)(hN:∀b,dJ.heap.size<=b->N b):Beside (Hid N dJ) AtRel (λ_ _ es=>∀e∈es,ZI Wg e) (λa r=>Sees N (λ_=>ah) a r/\(∀b,Hid N dJ b↔Hid N r b)/\dJ.heap.size<=r.heap.size/\Kx r/\Gd r):=by
 refine⟨λa r r₁ ⟨d,e⟩ hrel L=>?_,λa a' r r' er hrel L w=>?_,λa a' r hA L=>⟨L.1.alike hA,L.2⟩,λa a' r r' er hrel L w e he=>?_⟩
 .subst e;exact⟨⟨hrel.size,hrel.same,hrel.hid,hrel.objs,hrel.os,hrel.output⟩,⟨L.1.size,L.1.os,L.1.output,L.1.get⟩,L.2⟩
 .obtain⟨h1,_,h3⟩:=L.1.went (λb f h=>dB) (λb hb=>⟨hN b hb,rfl⟩) L.2.2.1 L.2.1 w;exact⟨h1,h3,dm L.2.2.1 w.grow,OQ hrel L.2.2.2.1 w,L.2.2.2.2.same w.same⟩
 .have h1:=(w.evs e he).resolve_left aJ;refine⟨λt ht hs=>?_,λe'=>?_,λe'=>?_⟩
  .obtain⟨x,hx,hb⟩:=hs;rcases EZ ht hx with h|⟨m,h⟩
   .unfold IE at h1;rw[h]at h1;exact aT (hb▸hW:Hid N dJ x.block) h1
   .obtain⟨loc,wr,sy⟩:=e;simp only at h;subst h;cases m<;>first|(simp[fH,ly]at ht;done)|exact h1.elim
  all_goals
   unfold IE at h1;rw[e']at h1;exact h1
end
section
variable{P:bh}{S:bN}{U:bp->fX}
theorem DU{d:bp}{u:fX}{a:aj}(H:Start d u a fr fs cB){w w2:aj}(jA:Sees qo (λ_=>ah) a w)(ag3:∀(b:Nat) o,a.heap[b]? =ae o->o≠eh->gI o=au)(hsz:w2.heap.size=w.heap.size+1)(hold:∀b,b<w.heap.size->w2.heap[b]? =w.heap[b]?)(hnew:w2.heap[w.heap.size]? =ae (qi d.ty 0 0))(Um:Kx w2)(Mf:Gd w2):
  d.K w2/\∃M:Nat->Prop,(∀A tp,Between d u 0 A tp M (λ_=>ah) w2)/\pE d u a (iH (Nm d M w2) d.Fm w2):=by
 have hWg:d.Wg=w.heap.size:=H.Wg.trans jA.size;have ko:∀(b:Nat) o,a.heap[b]? =ae o->o≠eh->w2.heap[b]? =ae o/\b<d.Wg:=λb o ho hp=>by
  obtain⟨y,hy,e,_⟩:=gz jA ho hp;have ey:fV ah y=y:=by cases y<;>rfl
  rw[ey]at e;subst e;have ho:=hy;exact⟨by rw[hold b (aL ho)];exact ho,by rw[hWg];exact aL ho⟩
 have Un:∀{i:Nat},¬i<d.j:=λ{i}=>by rw[H.j];omega
 have S4:∀b,d.fm b=ah:=λb=>by
  cases e:d.fm b with
  |none=>rfl
  |some f=>obtain⟨_,i,hi,_⟩:=H.fit.fmW b f e;exact aT hi Un
 have fS:∀b,u.Foot a b->∃c e,a.heap[b]? =ae (aK c e (0,0)):=λb h=>(H.uok.foot 0 a b H.inv h).1;obtain⟨Ub,Cb⟩:=H.uok.inv 0 a w2 H.inv λb h=>by obtain⟨c,e,hc⟩:=fS b h;rw[(ko b _ hc (λh=>dB)).1,hc]
 have hK:d.K w2:=by refine⟨⟨⟨0,0,by show w2.heap[d.Wg]? =_;rw[hWg];exact hnew⟩,λi hi=>aT hi Un,(ko _ _ H.C (λh=>dB)).1⟩,⟨0,(ko _ _ H.come (λh=>dB)).1⟩,⟨0,(ko _ _ H.gone (λh=>dB)).1⟩,λi hi=>aT hi Un,Um⟩
 refine⟨hK,λb=>∃o,a.heap[b]? =ae o/\o≠eh/\di o=au/\¬u.Foot a b/\b≠d.come/\b≠d.gone/\d.ro b=ah,λA tp=>?_,?_⟩
 .refine⟨Ub,λi hi=>aT hi Un,λi i' b hi=>aT hi Un,λi b hi=>aT hi Un,λi b hi=>aT hi Un,λb hf=>?_,λb ⟨o,h1,h2,h3,h4,h5,h6,h7⟩=>?_,λb f hf=>?_,λi f hi=>aT hi Un,λb o hx ho=>?_,λi s b hs=>(by cases hs),λi _=>rfl,Mf⟩
  .obtain⟨c,e,hc⟩:=fS b ((Cb b).1 hf);have:=(ko b _ hc (λh=>dB)).2;omega
  .refine⟨?_,λi hi=>aT hi Un,λhf=>h4 ((Cb b).1 hf),h7,?_,h5,h6,λk hk=>aT hk Un⟩
   .have:=(ko b _ h1 h2).2;omega
   .have:=(ko b _ h1 h2).2;omega
  .obtain⟨c,e,hc,hs⟩:=H.ro b f hf;exact⟨c,e,(ko b _ hc (λh=>dB)).1,hs⟩
  .rcases hx with⟨o',h1,h2,_⟩|hx|hx|⟨i,hi,_⟩
   .rw[(ko b _ h1 h2).1]at ho;obtain rfl:=bj ho;exact ag3 b _ h1 h2
   .obtain⟨c,e,hc⟩:=fS b ((Cb b).1 hx);rw[(ko b _ hc (λh=>dB)).1]at ho;obtain rfl:=bj ho;rfl
   .obtain⟨f,hf⟩:=nE.1 hx;obtain⟨c,e,hc,_⟩:=H.ro b f hf;rw[(ko b _ hc (λh=>dB)).1]at ho;obtain rfl:=bj ho;rfl
   .exact aT hi Un
 .refine⟨by rw[(fE _ _ _).size,hsz,jA.size],λb o h1 h2 h3 h4 h5 h6=>?_,λb f hf=>?_⟩
  .by_cases hn:di o=au
   .rw[hide_need (.inl ⟨o,h1,h2,hn,h3,h4,h5,h6⟩),(ko b o h1 h2).1];have:d.Fm b=ah:=(by simp[bp.Fm,S4,h6]);rw[this];rfl
   .have qJ:di o=aw:=(by simpa using hn);rw[fp,(ko b o h1 h2).1];simp[qJ,qm qJ]
  .obtain⟨c,e,hc,_⟩:=H.ro b f hf;refine⟨c,e,hc,?_⟩;have:d.Fm b=ae f:=(by simp[bp.Fm,S4,hf]);rw[hide_need (.inr (.inr (.inl (by rw[hf];simp)))),(ko b _ hc (λh=>dB)).1,this];rfl
theorem Uo{d:bp}{u:fX}{tp:Nat->Nat}{a r0 r:aj}(X:d.Fit)(U:u.Ok d)(hK:d.K r)(B:Between d u t A tp (Cg d u r0 a) Inb r)(jA:Sees (Nr d u M r0) (d.Fr u r0) a r)(pQ:∀b,jR d u a b↔jR d u r0 b)(hpW:∀i,i<d.j->jR d u r0 (d.W i))(hpm:∀i,i<d.j->∀b,u.Pub i r0 b->Mine d u (A i) b)(hsz:r.heap.size<=r'.heap.size)(hl:dG d.ty d.Wg r')(hold:∀b,b<r.heap.size->b≠d.Wg->b≠d.gone->r'.heap[b]? =r.heap[b]?):
  ∃N:Nat->Prop,xH d u t a (iH N (λ_=>ah) r')/\Rel (Hid N r') (iH N (λ_=>ah) r') r'/\Hid N r' d.Wg/\∀b,r'.heap.size<=b->N b:=by
 let N:Nat->Prop:=λb=>Cg d u r0 a b\/(∃i,i<d.j/\Mine d u (A i) b)\/u.Foot r b\/d.ro b≠ah\/r'.heap.size<=b;obtain⟨⟨⟨st0,sm0,kw⟩,k2,k3⟩,⟨c1,k4⟩,⟨c2,k5⟩,k6,_⟩:=id hK;have hM:∀b,Cg d u r0 a b->r'.heap[b]? =r.heap[b]? :=λb hb=>by obtain⟨h1,_,_,_,h5,_,h7,_⟩:=B.m b hb;exact hold b h1 h5 h7
 have YQ:∀i b,i<d.j->Mine d u (A i) b->r'.heap[b]? =r.heap[b]? :=λi b hi hb=>by obtain⟨h1,_,h3,_⟩:=B.far i b hi hb;obtain⟨o,ho,_⟩:=B.there hi hb;exact hold b (aL ho) h1 h3
 have hF:∀b,u.Foot r b->r'.heap[b]? =r.heap[b]? :=λb hb=>by obtain⟨⟨c,e,hc⟩,_⟩:=U.foot t r b B.inv hb;exact hold b (aL hc) (B.footg b hb) (λe=>by rw[e,k5]at hc;cases hc)
 have hro:∀b f,d.ro b=ae f->r'.heap[b]? =r.heap[b]? :=λb f hb=>by obtain⟨c,e,hc,_⟩:=B.rook b f hb;exact hold b (aL hc) (λe=>by rw[e,X.rowg]at hb;cases hb) (λe=>by rw[e,k5]at hc;cases hc)
 have ZF:∀b,(∀i,i<d.j->b≠d.W i)->d.fm b=ah:=λb h1=>by
  cases e:d.fm b with
  |none=>rfl
  |some f=>obtain⟨_,i,hi,rfl⟩:=X.fmW b f e;exact aT rfl (h1 i hi)
 have hN:∀b,N b->(iH N (λ_=>ah) r').heap[b]? =r'.heap[b]? :=λb hb=>by
  rw[hide_need hb];cases r'.heap[b]? with
  |none=>rfl
  |some o=>rfl
 refine⟨N,⟨?_,λb o h1 h2 h3 h4=>?_,λb f hf=>?_,?_,λi hi=>?_,λb hb x hx=>?_,λb o h1 h2 hn h3 h4=>?_,λb hb=>?_⟩,B8 λb o hb ho=>?_,?_,λb hb=>.inr (.inr (.inr (.inr hb)))⟩
 .rw[(fE _ _ _).size,jA.size];exact hsz
 .rw[pQ]at h3;by_cases hn:di o=au
  .have hW:∀i,i<d.j->b≠d.W i:=λi hi e=>h3 (by rw[e];exact hpW i hi);have hm:Cg d u r0 a b:=⟨⟨o,h1,h2,hn,hW,h4⟩,h3⟩;rw[hN b (.inl hm),hM b hm];obtain⟨y,hy,e,_⟩:=gz jA h1 h2;have hf:d.Fr u r0 b=ah:=by
    cases e:d.Fr u r0 b with
    |none=>rfl
    |some f=>
     rcases xF e with h|⟨_,h,_⟩
     .simp[bp.Fm,ZF b hW,h4]at h
     .exact aT h h3
   rw[hf]at e;rw[hy,e];cases y<;>rfl
  .have qJ:di o=aw:=(by simpa using hn);have h5:=sees_num jA h1 qJ;have h6:r'.heap[b]? =ae o:=(by rw[hold b (aL h5) (λe=>by rw[e]at h5;rw[bj (h5.symm.trans kw)]at qJ;cases qJ) (λe=>by rw[e,k5]at h5;obtain rfl:=bj h5;cases qJ)];exact h5);rw[fp,h6];simp[qJ,qm qJ]
 .obtain⟨c,e,hc,_⟩:=B.rook b f hf;have hne:d.ro b≠ah:=by rw[hf];simp
  have S4:d.Fr u r0 b=ae f:=by have:=ZF b λi hi e=>(by rw[e,X.roW i hi]at hf;cases hf);simp[bp.Fr,bp.Fm,this,hf]
  refine⟨c,e,?_,by rw[hN b (.inr (.inr (.inr (.inl hne)))),hro b f hf];exact hc⟩;rw[jA.need (.inl (.inr (.inr (.inl hne)))),hc,S4];rfl
 .refine(U.inv t r _ B.inv λb hb=>?_).1;rw[hN b (.inr (.inr (.inl hb))),hF b hb]
 .refine(U.wr i t r _ (B.rest i hi).wr λx hx=>?_).1;have hm:=(B.rest i hi).pub _ hx;simp only[fG,hN x.block (.inr (.inl ⟨i,hi,hm⟩)),YQ i x.block hi hm]
 .subst hx;have hb0:=(pQ _).1 hb;obtain⟨i,hi,hp⟩:=hb0;have hm:=hpm i hi _ hp;have e1:(iH N (λ_=>ah) r').cell? x=r.cell? x:=by simp only[fG,hN x.block (.inr (.inl ⟨i,hi,hm⟩)),YQ i x.block hi hm]
  rw[e1];exact cell_chill (jA.need (.inr ⟨i,hi,hp⟩))
 .rw[pQ]at h3;have hW:∀i,i<d.j->b≠d.W i:=λi hi e=>h3 (by rw[e];exact hpW i hi);have hm:Cg d u r0 a b:=⟨⟨o,h1,h2,hn,hW,h4⟩,h3⟩;rw[(U.inv t r _ B.inv λb hb=>by rw[hN b (.inr (.inr (.inl hb))),hF b hb]).2];exact(B.m b hm).2.2.1
 .obtain⟨i,hi,hp⟩:=(pQ _).1 hb;rw[(U.inv t r _ B.inv λb hb=>by rw[hN b (.inr (.inr (.inl hb))),hF b hb]).2];exact B.foot i b hi (hpm i hi _ hp)
 .rcases hb with hb|⟨i,hi,hb⟩|hb|hb|hb
  .rw[hM b hb]at ho;exact B.oks b o (.inl hb) ho
  .rw[YQ i b hi hb]at ho;exact B.oks b o (.inr (.inr (.inr ⟨i,hi,hb⟩))) ho
  .rw[hF b hb]at ho;exact B.oks b o (.inr (.inl hb)) ho
  .obtain⟨f,hf⟩:=nE.1 hb;rw[hro b f hf]at ho;exact B.oks b o (.inr (.inr (.inl hb))) ho
  .have:=aL ho;omega
 .obtain⟨st,sm,h⟩:=hl;refine⟨_,h,rfl,?_⟩;rintro(hb|⟨i,hi,hb⟩|hb|hb|hb)
  .exact(B.m _ hb).2.2.2.2.1 rfl
  .exact(B.far i _ hi hb).1 rfl
  .exact B.footg _ hb rfl
  .exact hb X.rowg
  .have:=aL h;omega
theorem ag4(hcs:NE cs0){Stop:Ph->aB->List aB->aj->Prop}(hPh:∀t d fr fs a,¬Stop (.run t d) fr fs a)(hPr:∀t d w fr fs a,¬Stop (.read t d w) fr fs a)
   {a r:aj} (hz:ZigC P au cs0 (JP P S cs0 U) Stop .pre fr fs a) (jA:Sees qo (λ_=>ah) a r) (hrel:Rel (Hid qo r) a r) (Ch:∀b,r.heap.size<=b->qo b) (Um:Kx r) (Mf:Gd r) (F:SF T r):
  ∃n m' T',runNT P n (bS #[cy fr (fs++cs0)] r sl) T=(.next m',T')/\acy P S cs0 Stop m' T':=by
 let Q:aY->aj->Prop:=λg w=>∃cB dg a',g=cy cB (dg++cs0)/\Zy P au cs0 (JP P S cs0 U) Stop .pre cB dg a'/\(Sees qo (λ_=>ah) a' w/\(∀b,Hid qo r b↔Hid qo w b)/\r.heap.size<=w.heap.size/\Kx w/\Gd w)/\Rel (Hid qo r) a' w;have hW:jz P au AtRel DSo Q (cy fr (fs++cs0)) r:=hz.all _ _ _ _ _ (nU Ch) (λcB dg a' r' hat hrel hl=>.stop λw₁ h₁=>by obtain⟨h1,h2⟩:=(nU Ch).others a' r' w₁ h₁ hrel hl;exact⟨cB,dg,a',rfl,hat,h2,h1⟩) r hrel ⟨jA,λ_=>Iff.rfl,bJ _,Um,Mf⟩;obtain⟨N1,w1,EW,T1,g1,Lp,F1,hQ1⟩:=EY (sl:=sl) hW F;obtain⟨jg,ny,a1,rfl,hat,⟨DV,ZL,DW,Mq,Mr⟩,Ms⟩:=hQ1 w1 (atRel_refl w1);have aeV:∀(b:Nat) o,a1.heap[b]? =ae o->o≠eh->gI o=au:=λb o ho hp=>Ms.objs b (λhh=>by
  obtain⟨y,hy,hn,hNb⟩:=(ZL b).1 hh;obtain⟨y',hy',e,hN'⟩:=gz DV ho hp;rw[hy]at hy';obtain rfl:=bj hy';have ey:fV ah y=y:=by cases y<;>rfl
  rw[ey]at e;subst e;exact hNb (hN' hn)) o ho
 rcases hat with eE|⟨K,hJ,hC⟩
 .exact⟨N1,_,T1,Lp,⟨#[_],w1,EW,jg,ny,a1,rfl,rfl,.inl ⟨rfl,F1,eE,Mq,Mr,qo,by have hid:Hid qo r=Hid qo w1:=funext λb=>propext (ZL b);rw[←hid];exact Ms,DV,λb hb=>Ch b (dm DW hb)⟩⟩⟩
 obtain⟨d,cz,rfl,rfl,rfl,H,rfl⟩:=hJ;obtain⟨i,g,dd,xd,hi,hg,hst⟩:=crowd_pick (P:=d.P) (w:=w1) (sl:=EW) (gs:=#[cy jg (ny++d.cs0)]) (λg hg=>by simp at hg;subst hg;exact awake_of (.inl rfl)) ⟨0,cy jg (ny++d.cs0),rfl,rfl⟩;obtain rfl:i=0:=by have:=(bF.1 hi).1;simp at this;exact this
 obtain rfl:g=cy jg (ny++d.cs0):=by simp at hi;exact hi.symm
 have hgo:=H.step (w1.at dd) (by rw[DV.size];rfl);have hrt:=mj (P:=d.P) (sl:=xd) (i:=0) hi (show bn d.P (0==0) _ (w1.at dd)=_ from hgo);have e2:(#[cy jg (ny++d.cs0)].map (woken d.P (cy jg (ny++d.cs0)) (cy cz (ny++d.cs0)) {w1.at dd with heap:=(w1.at dd).heap.push (qi d.ty 0 0)})).setIfInBounds 0 (cy cz (ny++d.cs0))=#[cy cz (ny++d.cs0)]:=aJ;rw[e2]at hrt;have hs2:=hst.trans hrt;have nT:({w1.at dd with heap:=(w1.at dd).heap.push (qi d.ty 0 0)}:aj).heap.size=w1.heap.size+1:=by simp[World.at]
 have Jy:∀b,b<w1.heap.size->({w1.at dd with heap:=(w1.at dd).heap.push (qi d.ty 0 0)}:aj).heap[b]? =w1.heap[b]? :=λb hb=>by show(w1.heap.push _)[b]? =_;rw[dz,aU ai]
 have aa7:({w1.at dd with heap:=(w1.at dd).heap.push (qi d.ty 0 0)}:aj).heap[w1.heap.size]? =ae (qi d.ty 0 0):=by show(w1.heap.push _)[w1.heap.size]? =_;rw[dz,aX rfl]
 obtain⟨hK2,M,hBt,hRV⟩:=DU H DV aeV nT Jy aa7 (Mq.same λb o hb _=>by rw[Jy b (aL hb)];exact hb) (Mr.same ⟨rfl,rfl⟩);have F1':SF T1 (w1.at dd):=⟨F1.who,F1.deaf,F1.norel,F1.inside⟩;have hWg:d.Wg=w1.heap.size:=H.Wg.trans DV.size;generalize ({w1.at dd with heap:=(w1.at dd).heap.push (qi d.ty 0 0)}:aj)=w2 at*;have F2:CF d.cc 0 0 0 (λ_=>ah) .kd (λ_=>⟨7,0,0⟩) (λ_=>aw) (λ_=>0) T1 #[cy cz (ny++d.cs0)] w2:=Mo (c:=d.cc) F1 hWg (by
  have:w2.heap[d.Wg]? =ae (qi d.ty 0 0):=by rw[hWg];exact aa7
  exact this) hK2 (λg l ⟨i,_,hi,_⟩=>by have hi:i<d.j:=hi;rw[H.j]at hi;omega)
 have hT:T1++eM 0 (cy jg (ny++d.cs0)).frame.fn (cy jg (ny++d.cs0)).frame.place #[]=T1:=by simp[eM]
 have Mi:=tM Lp hs2;rw[hT]at Mi;have hz2:=ZK (hC (.run 0 d) cz ny _ ⟨rfl,rfl,rfl,hRV⟩) 0 d rfl;obtain⟨N3,m3,T3,Ud,hP3⟩:=aeO (cs0:=d.cs0) hz2 rfl rfl rfl H.fit H.uok (λ_=>a1) (λ_=>0) M (λ_=>ah) _ _ _ T1 #[cy cz (ny++d.cs0)] w2 xd (fE _ _ _) (hBt _ _) rfl (by rw[H.j];exact F2);obtain⟨gs3,r3,ZC,t,d3,th,uT,a3,A3,tp3,aiN,D3,ach,q3,rfl,hP3,hS3,hc3,X3,U3,hg3,acz,acA,B3,F3⟩:=hP3;rcases acz with h|⟨K3,hV,hC3⟩
 .exact aT h (hPh _ _ _ _ _)
 try simp only at hC3
 obtain rfl:K3=_:=hV;obtain⟨RV,aeW⟩:=B3.Ul X3 U3 acA;have hK3:d3.K r3:=F3.K;have ag5:∀(b:Nat) o,Nr d3 (U d3) (jB d3 a3) r3 b->r3.heap[b]? =ae o->gI o=au:=λb o hb ho=>by
  rcases hb with(h|⟨i,hi,rfl⟩|h|h)|h
  .exact B3.oks b o (.inl h) ho
  .exact B3.oks _ o (.inr (.inr (.inr ⟨i,hi,B3.tQ X3 hi⟩))) ho
  .exact B3.oks b o (.inr (.inr (.inl h))) ho
  .have:=aL ho;omega
  .exact B3.oks b o (.inr (.inr (.inr (B3.uL h)))) ho
 have hzR:=hC3 (.read t d3 _) th uT _ ⟨rfl,rfl,rfl,RV⟩;rw[←hP3]at hzR;obtain⟨NR,mR,TR,hNR,gsR,rR,slR,frR,fsR,aR,DR,aiO,qR,rfl,hgR,ag6,LR,RR,FR⟩:=ace (main:=au) (sl:=ZC) rfl (nS X3.ok) aJ (yJ X3.ok (B3.ag2 X3 hK3) B3.chairs hK3) hzR (fE _ _ _) (B3.fzR X3) ag5 (by rw[hc3]at hg3;exact hg3) F3;rcases ag6 with h|⟨KR,⟨YR,E3,hkR,rfl⟩,hCR⟩
 .exact aT h (hPr _ _ _ _ _ _)
 have aeX:∀b,jR d3 (U d3) r3 b->aR.heap[b]? =(r3.heap[b]?).map (fV (d3.Fr (U d3) r3 b)):=λb hb=>by rw[hkR b ((aeW b).2 hb),hide_need (.inr hb)]
 have BR:=B3.read X3 U3 hK3 LR RR aeX;have aeY:∀b,jR d3 (U d3) aR b↔jR d3 (U d3) r3 b:=λb=>by have hh:∀i,i<d3.j->∀b,(U d3).Pub i aR b↔(U d3).Pub i r3 b:=λi hi=>(U3.wr i t r3 aR (B3.rest i hi).wr λx hx=>(cell_chill (aeX _ ⟨i,hi,hx⟩)).symm).2;exact⟨λ⟨i,hi,h⟩=>⟨i,hi,(hh i hi b).1 h⟩,λ⟨i,hi,h⟩=>⟨i,hi,(hh i hi b).2 h⟩⟩
 obtain⟨N4,S5,r4,S6,q4,T4,hN4,hg4,F4,ho1,Az,aeZ,hl4,aa8⟩:=over (sl:=slR) X3 E3 BR (by rw[hc3];exact hgR) FR;obtain⟨N,EV,ag7,hW4,aa9⟩:=Uo X3 U3 FR.K BR LR.sees aeY (λi hi=>⟨i,hi,U3.pubW i _ r3 hi (B3.rest i hi).wr⟩) (λi hi b hb=>(B3.rest i hi).pub b hb) aeZ hl4 aa8;have ag8:Kx r4:=FR.K.2.2.2.2.same λb o hb ho=>by obtain⟨⟨⟨st,sm,kw⟩,_,_⟩,_,⟨_,k5⟩,_⟩:=FR.K;rw[aa8 b (aL hb) (λe=>by have kw:rR.heap[d3.Wg]? =_:=kw;rw[e,kw]at hb;obtain rfl:=bj hb;cases ho) (λe=>by rw[e,k5]at hb;obtain rfl:=bj hb;cases ho)];exact hb
 have ae0:=hNR;rw[show d3.cc.P=d.P from hP3]at ae0;rw[hP3]at hN4 F4;have hz4:=hCR .post YR fsR _ ⟨rfl,rfl,rfl,EV⟩;rw[show d3.cc.P=d.P from hP3,hP3]at hz4;have BT:=zR (N:=N) (dJ:=r4) hW4 aa9;let Q4:aY->aj->Prop:=λg w=>∃cB dg a',g=cy cB (dg++d.cs0)/\Zy d.P au d.cs0 (JP d.P d.S d.cs0 U) Stop .post cB dg a'/\(Sees N (λ_=>ah) a' w/\(∀b,Hid N r4 b↔Hid N w b)/\r4.heap.size<=w.heap.size/\Kx w/\Gd w)/\Rel (Hid N r4) a' w;have hW5:jz d.P au AtRel (λ_ _ es=>∀e∈es,ZI d3.Wg e) Q4 (cy YR (fsR++d.cs0)) r4:=hz4.all _ _ _ _ _ BT (λcB dg a' r' hat hrel hl=>.stop λw₁ h₁=>by obtain⟨h1,h2⟩:=BT.others a' r' w₁ h₁ hrel hl;exact⟨cB,dg,a',rfl,hat,h2,h1⟩) r4 ag7 ⟨fE _ _ _,λ_=>Iff.rfl,bJ _,ag8,BR.os.same ⟨ho1,Az⟩⟩;obtain⟨N5,gs5,r5,sl5,q5,T5,g5,hN5,YS,F5,hQ5⟩:=Gi (sl:=S6) (λ_ _ _ h=>h) hW5 (by rw[hc3]at hg4;exact hg4) F4;obtain⟨fr5,fs5,a5,rfl,Up,⟨acB,Uq,acC,acD,acE⟩,Ur⟩:=hQ5 r5 (atRel_refl r5);rcases Up with Mt|⟨K,hJ,_⟩
 .have hid:Hid N r4=Hid N r5:=funext λb=>propext (Uq b);rw[hid]at Ur;exact⟨N1+1+N3+NR+N4+N5,_,T5,dH (dH (dH (dH Mi Ud) ae0) hN4) hN5,⟨gs5,r5,sl5,fr5,fs5,a5,rfl,YS,.inr ⟨q5,d3.Wg,N,acD,acE,F5,Mt,Ur,acB,(Uq _).1 hW4,λb hb=>aa9 b (dm acC hb)⟩⟩⟩
 .exact hJ.elim
end
end
section
inductive Pr(σ α:Type) where
 |ret (a:α)
 |line (p:Pr σ α)
 |eff (f:σ->σ) (k:σ->Pr σ α)
 |stop
namespace Pr
variable{σ α β:Type}
def bind(p:Pr σ α)(k:α->Pr σ β):Pr σ β:=match p with
 |.ret a=>k a
 |.line p=>.line (p.bind k)
 |.eff f q=>.eff f λs=>(q s).bind k
 |.stop=>.stop
def get(h:σ->α):Pr σ α:=.eff id λs=>.ret (h s)
def put(f:σ->σ):Pr σ Unit:=.eff f λ_=>.ret ()
def act(f:σ->σ)(h:σ->α):Pr σ α:=.eff f λs=>.ret (h s)
def step:Pr σ Unit:=.line (.ret ())
theorem bind_assoc{γ:Type}(p:Pr σ α)(k:α->Pr σ β)(l:β->Pr σ γ):(p.bind k).bind l=p.bind λa=>(k a).bind l:=by
 induction p with
 |ret a=>rfl
 |line p ih=>simp only[bind,ih]
 |eff f q ih=>simp only[bind,ih]
 |stop=>rfl
theorem Us(p:Pr σ α):p.bind .ret=p:=by
 induction p with
 |ret a=>rfl
 |line p ih=>simp only[bind,ih]
 |eff f q ih=>simp only[bind,ih]
 |stop=>rfl
inductive End(σ α:Type) where
 |fin (a:α) (g:Bool) (own:Nat) (s:σ)
 |line (p:Pr σ α) (own:Nat) (s:σ)
 |lost
def seg:Pr σ α->Bool->Nat->σ->End σ α
 |.ret a,g,own,s=>.fin a g own s
 |.line p,au,own,s=>seg p aw (own+1) s
 |.line p,aw,own,s=>.line p own s
 |.eff f q,g,own,s=>seg (q s) g own (f s)
 |.stop,_,_,_=>.lost
end Pr
structure bs where
 kind:Int
 a:Int
 b:Int
 c:Int
 pairs:List (Int×Int)
 deriving DecidableEq
structure kC where
 ok:Bool
 n:Int
 m:Int
 err:Int
 ints:List Int
 pairs:List (Int×Int)
 deriving DecidableEq
structure my where
 ans:kC
 begin_:Nat
 end_:Nat
 own:Nat
 deriving DecidableEq
structure AW(σ:Type) where
 got:List my
 now:Option (Nat×Nat×Pr σ kC)
 lost:Bool
structure cu where
 work:List (List bs)
 turns:List Int
 halt:List Int
 until_:Nat
structure Lay(σ:Type) where
 call:Nat->bs->Pr σ kC
def cu.n(c:cu):Nat:=c.work.length
def cu.calls(c:cu)(k:Nat):List bs:=c.work.getD k []
def cu.most(c:cu):Nat:=if c.until_=0 then 20000 else c.until_
def cu.halted(c:cu)(k steps:Nat):Bool:=decide (0<c.halt.getD k 0/\c.halt.getD k 0<=(steps:Int))
def AW.settle{σ:Type}(x:AW σ)(t b:Nat):Pr.End σ kC->AW σ
 |.fin a g own _=>{got:=x.got++[⟨a,b,t,if g then own+1 else own⟩],now:=ah,lost:=x.lost}
 |.line p own _=>{x with now:=ae (b,own,p)}
 |.lost=>{x with lost:=au}
def Pr.End.state{σ α:Type}(s:σ):Pr.End σ α->σ
 |.fin _ _ _ s=>s
 |.line _ _ s=>s
 |.lost=>s
def AW.seg{σ:Type}(L:Lay σ)(c:cu)(k t:Nat)(x:AW σ)(s:σ):Nat×Pr.End σ kC:=match x.now with
 |some (b,own,p)=>(b,p.seg aw (own+1) s)
 |none=>match(c.calls k)[x.got.length]? with
  |some d=>(t,(L.call k d).seg au 0 s)
  |none=>(t,.lost)
structure AR(σ:Type) where
 s:σ
 w:Nat->AW σ
 left:List Int
 last:Int
 steps:Nat->Nat
 all:Nat
def AR.ready{σ:Type}(c:cu)(x:AR σ)(k:Nat):Bool:=decide ((x.w k).got.length< (c.calls k).length) &&!c.halted k (x.steps k)
def AR.who{σ:Type}(c:cu)(x:AR σ):List Nat:=(dx c.n).filter λk=>x.ready c k
def AR.any{σ:Type}(c:cu)(x:AR σ):Bool:=!(x.who c).isEmpty
def rU(left:List Int)(last:Int)(l:List Nat):Nat:=match left with
 |t::_=>l.getD ((t.tmod l.length+l.length).tmod l.length).toNat 0
 |[]=>(l.find? λ(k:Nat)=>decide (last< (k:Int))).getD (l.headD 0)
def AR.pick{σ:Type}(c:cu)(x:AR σ):Nat:=rU x.left x.last (x.who c)
def AR.goes{σ:Type}(c:cu)(x:AR σ):Bool:=x.any c&&decide (x.all<c.most)
def AR.next{σ:Type}(L:Lay σ)(c:cu)(x:AR σ):AR σ:=
 let k:=x.pick c;let e:=(x.w k).seg L c k (x.all+1) x.s
 {s:=e.2.state x.s,w:=λi=>if i=k then(x.w k).settle (x.all+1) e.1 e.2 else x.w i,left:=x.left.tail,last:=k,steps:=λi=>if i=k then x.steps k+1 else x.steps i,all:=x.all+1}
def AR.yP{σ:Type}(c:cu)(s:σ):AR σ:={s,w:=λ_=>⟨[],ah,aw⟩,left:=c.turns,last:= -1,steps:=λ_=>0,all:=0}
def AR.at{σ:Type}(L:Lay σ)(c:cu)(s:σ):Nat->AR σ
 |0=>.yP c s
 |t+1=>(AR.at L c s t).next L c
theorem AR.Mu{σ:Type}(L:Lay σ)(c:cu)(s:σ)(t:Nat):(AR.at L c s t).all=t:=by
 induction t with
 |zero=>rfl
 |succ t ih=>show(AR.at L c s t).all+1=t+1;rw[ih]
end
end Go.Proofs.YtfmibhmknlnoiaaGreat
