import Derived.Test.YtfmibhmknlnoiaaGreatQ00
import Derived.Test.YtfmibhmknlnoiaaGreatQ02
import Derived.Shelf.SlicesE.Clone
import Derived.Conc.TokenWalk
import Derived.Lib.Hide
import Derived.Laws.OwnMore
import Derived.KernelRfl
import Derived.Deep.QuietTactic
import Derived.BigQuiet
import Derived.Laws.IdiomCopy
import Derived.OwnWalk
import Derived.Laws.Pointers
import Derived.Deep.AppendLies
import Derived.Deep.DrawnRows
set_option linter.all false
set_option maxRecDepth 100000
set_option maxHeartbeats 4000000
namespace Go.Proofs.YtfmibhmknlnoiaaGreat
open _root_.Go.Proofs.Tryz
open _root_.Option renaming some→ae,none→ah
open _root_.Bool renaming true→au,false→aw
open _root_.Go.Value renaming int→aq,pointer→aI,slice→aD,ownBlock→iE
open _root_.Go.Obj renaming cells→aK
open _root_.Go.Item renaming inRegion→bI
open _root_.Go renaming World→aj,Value→ay,Frame→aB,Program→bh,Oper→aZ,Addr→aP,TypeId→bq,Event→cK,undef→aO,yielded→dW,execOp→bT,Question→iz,Calls→b9,results→eL,stepG→bn,heap_alloc_new→gN,info_parts→kq
open _root_.Go.Conc renaming stepG_region_end→bP,stepG_seq→bU,stepG_region→gv,goes_go→cG,rcase→dh,served→mq
open _root_.Go.ConcN renaming WgLive→dG
open _root_.Go.ConcN.Gen renaming fl_rely→bg
open _root_.Go.Proofs.Tryz renaming prog→aC
open _root_.Go.Exit renaming «then»→bE,inBlock→gu
open _root_.Go.Region renaming wanted→dF,binds→fq
open _root_.Go.MemAct renaming ofEvent→fH,touch?→ly
open _root_.Go.World renaming setCell→fF,cell?→fG
open _root_.Go.Act renaming eval→cS
open _root_.Go.CallKind renaming early→gA
open _root_.List renaming replicate→eA,range→dx
open _root_.Go.IntKind renaming i64→af
variable{ι σ α:Type}{q:(Nat->iz->Nat)->Prop}{a:Act}{eO:Array aZ}{ats ai3:Array bq}{is:Bool}{c cd z:Code}{d d0:bp}{At:aB->List aB->aj->Prop}{OA:Func}{fn:FuncId}{un:Int}{J:gS σ}{Jm:fM ι}{S:bN}{f:List (Nat×Nat)}{ds:List Deferred}{cs cs0 jC fs:List aB}{U:List aB->Prop}{hs:List Int}{les lvs jo uR xs:List ay}{B B' F L b be c0 cb come gb hc ix j k lb lc lo m pn ob ow rb s sb sc sz t t' tW tc tk wc:Nat}{fk:Nat×Nat}{x:Nat->AW σ}{W nb Bh:Nat->Nat}{kO:Nat->Option (Nat×Nat)}{Inb:Nat->Option Conc.Seat}{H Nk:Nat->Prop}{o0 o1:aZ}{ha sa wv:Option aP}{Q:Ph->Exit->Act->aj->Prop}{pp:Pr σ kC}{P:bh}{E X p:Prop}{β:Type}{e:bq}{cv sl sln u v va vo:ay}{a0 w' w0 w1:aj}{I R2:aj->Prop}{i i0:ι}{R1:ι->aj->Prop}
section
open Go Go.Conc Go.RowKit
def Ek:Go.Shelf.Ren:=⟨fun|41=>148|n=>n,fun|22=>22|23=>3|4=>4|n=>n,fun|n=>n⟩
theorem Fp:Go.Proofs.SlLaysE0.n41 aC Ek:={
 mixed:=aQ
 f41:=⟨f148.name,aN,func148.trans (congrArg ae aQ)⟩
 t4:=underlying4
 a4:=Tryz.isAgg4
 z4:=Tryz.sizeOf4
 v4:=Tryz.zeroValue4
 t22:=underlying22
 a22:=Tryz.isAgg22
 z22:=Tryz.sizeOf22
 v22:=Tryz.zeroValue22}
structure M7(w:aj)(ta:Option aP)(tc:Nat)(l:List Int):Prop where
 ex:(ta=ah/\l=[]/\tc=0)\/∃tb to,ta=ae ⟨tb,to,ah⟩/\∀i,i<l.length->w.cell? ⟨tb,to+i,ah⟩=ae (aq af (l.getD i 0))
theorem Em(ta:Option aP)(tc:Nat)(l:List Int)(w:aj)(h:M7 w ta tc l)(hl:l.length<100000):
  b9 aC 148 #[aD ta l.length tc] w λe w'=>∃la lc,e=.returned (aD la l.length lc)/\l.length<=lc/\Below w.heap.size w w'/\∀i,i<l.length->∃tb,la=ae ⟨tb,0,ah⟩/\w.heap.size<=tb/\w'.cell? ⟨tb,i,ah⟩=ae (aq af (l.getD i 0)):=by
 rcases h.ex with⟨rfl,rfl,rfl⟩|⟨tb,to,rfl,hc⟩
 .have h0:=AnyE.slices_Clone_nil Fp 0 0 w;change b9 aC 148 _ _ _ at h0;refine h0.mono ?_;rintro e w' ⟨rfl,rfl⟩;exact⟨ah,0,rfl,bJ _,gw _ _,λi hi=>aT hi (fR _)⟩
 .obtain⟨ii,O5,O6,O7,O8⟩:=info_parts' Gt;have h0:=AnyE.slices_Clone Fp ii _ 1 8 O5 O6 O7 O8 rfl aN Tryz.sizeOf3 tb to l.length tc (l.map (Value.int .i64)) w aJ jk ai (λj u hj=>?_) (λu hu=>?_)
  .change b9 aC 148 _ _ _ at h0;refine h0.mono ?_;rintro e w' ⟨v',rfl,hown,hne,hb⟩;have hown:w'.ownsRow w.heap.size 3 1 v' l.length (l.map (Value.int .i64)):=hown;rcases hown.2 with⟨e1,e2⟩|⟨g,cap,cur,rfl,hg,hh,h1,h2,_⟩
   .exact aT e1 hne
   .refine⟨_,cap,rfl,h1,hb,λi hi=>⟨g,rfl,hg,?_⟩⟩;rw[hown.cellAt i ai];simp[eF,hi]
  .simp only[nM,mb]at hj;obtain⟨x,hx,rfl⟩:=hj;have Io:=(eX.1 hx).1;rw[hc j Io,eF,hx];rfl
  .simp only[pA]at hu;obtain⟨x,_,rfl⟩:=hu;rfl
theorem new_any(ta:Option aP)(tc:Nat)(l:List Int)(w:aj)(h:M7 w ta tc l)(hl:l.length<100000):
  b9 aC 118 #[aD ta l.length tc] w λe w'=>∃ob,e=.returned (aI (ae ⟨ob,0,ah⟩))/\OrderAt w' w.heap.size ob l (-1)/\w.heap.size<=ob/\Below w.heap.size w w':=by
 have H:=aA (Em ta tc l w h hl);clear h;go_enter func118,ntmps118
 go_wp2_with (go_at_call 148;refine H.out.mono ?_;rintro e w1 ⟨la,lc,rfl,h1,h2,h3⟩;have H3:=aA h3;have H2:=aA h2;clear h2 h3)
 go_ret
 have hsz:w.heap.size<=w1.heap.size:=H2.out.size;refine⟨w1.heap.size,rfl,⟨la,lc,gN _ _,h1,λi hi=>?_⟩,hsz,H2.out.alloc hsz _⟩;obtain⟨tb,e,hb,hc⟩:=H3.out i hi;have hlt:=ez w1 _ hc;refine⟨tb,0,e,⟨hb,hlt⟩,?_⟩;rw[eB,←hc];refine dr (w:=w1) ?_;simp only[←dt,dz];rw[aU (Nat.ne_of_lt hlt)]
def gh(lens:List Nat)(un:Int):Bool:=decide (0<lens.length/\lens.length<=8/\0<=un/\un<=20000) &&lens.all λn=>decide (n<=64)
theorem check_any(wb wo wc tn tc hn hc:Nat)(tu ha:Option aP)(lens:List Nat)(un v:Int)(w:aj)(hl:lens.length<100000)(hv:v=if gh lens un then 0 else 30)
  (hw:∀i,i<lens.length->∃a c,w.cell? ⟨wb,wo+i,ah⟩=ae (aD a (lens.getD i 0) c)):
  b9 aC 70 #[.agg (aW (ae ⟨wb,wo,ah⟩) tu ha lens.length wc tn tc hn hc un)] w λe w'=>e=.returned (aq af v)/\Below w.heap.size w w':=by
 simp only[aW];have Hw:=aA hw;clear hw;have hb1:Below w.heap.size w (w.alloc (aK (aW (ae ⟨wb,wo,ah⟩) tu ha lens.length wc tn tc hn hc un) 25)):=(gw _ _).alloc (bJ _) _;simp only[aW]at hb1;have Hb:=aA hb1;clear hb1;have no:¬(0<lens.length/\lens.length<=8/\0<=un/\un<=20000)->v=30:=λh=>by rw[hv];simp[gh,h]
 have Hno:=aA no;have Hv:=aA hv;clear no hv;by_cases h1:lens.length=0
 .have hv:=Hno.out ai;subst hv;rw[h1]at Hb⊢;go_enter func70,ntmps70
  go_wp2;go_ret
  exact⟨rfl,Hb.out⟩
 by_cases h2:8<lens.length
 .have hv:=Hno.out ai;subst hv;have d1:((lens.length:Int)==0)=aw:=nG;have d2:decide ((8:Int) < (lens.length:Int))=au:=dp;go_enter func70,ntmps70
  go_wp2;go_ret
  exact⟨rfl,Hb.out⟩
 by_cases h3:un<0
 .have hv:=Hno.out ai;subst hv;have d1:((lens.length:Int)==0)=aw:=nG;have d2:decide ((8:Int) < (lens.length:Int))=aw:=dp;have d3:decide (un<0)=au:=by simpa using h3
  go_enter func70,ntmps70
  go_wp2;go_ret
  exact⟨rfl,Hb.out⟩
 by_cases h4:20000<un
 .have hv:=Hno.out ai;subst hv;have d1:((lens.length:Int)==0)=aw:=nG;have d2:decide ((8:Int) < (lens.length:Int))=aw:=dp;have d3:decide (un<0)=aw:=by simpa using h3
  have d4:decide (20000<un)=au:=by simpa using h4
  go_enter func70,ntmps70
  go_wp2;go_ret
  exact⟨rfl,Hb.out⟩
 have d1:((lens.length:Int)==0)=aw:=nG;have d2:decide ((8:Int) < (lens.length:Int))=aw:=dp;have d3:decide (un<0)=aw:=by simpa using h3
 have d4:decide (20000<un)=aw:=by simpa using h4
 go_enter func70,ntmps70
 go_wp2;go_loopw [28] (λiv wr=>∃k:Nat,k<=lens.length/\iv=aq af k/\(Below w.heap.size w wr/\∀i,i<lens.length->∃a c,wr.cell? ⟨wb,wo+i,ah⟩=ae (aD a (lens.getD i 0) c))/\∀j,j<k->lens.getD j 0<=64) (λi _=>lens.length- (intOf i).toNat)
 case atStart=>refine⟨0,bQ _,rfl,⟨Hb.out,λi hi=>?_⟩,λj hj=>aT hj (fR _)⟩;obtain⟨a,c,h⟩:=Hw.out i hi;exact⟨a,c,by simp[h,afx]⟩
 case round=>
  obtain⟨k,hk,rfl,hbw,hall⟩:=hrel;have Hbw:=aA hbw;clear hbw;have afy:=aA hall;clear hall;have hwr:IntKind.i64.wrap ((k:Int) +1)=(k:Int) +1:=by rw[gq];omega
  by_cases hlt:k<lens.length
  .obtain⟨a,c,f1⟩:=Hbw.out.2 k hlt;generalize hlk:lens.getD k 0=lk at*;have Hlk:=aA hlk;clear hlk;by_cases h5:64<lk
   .have hv:v=30:=(by rw[Hv.out];have:lens.all (λn=>decide (n<=64))=aw:=(by rw[List.all_eq_false];refine⟨lens[k],rV hlt,?_⟩;have:=Hlk.out;rw[eF,eQ hlt]at this;simp at this⊢;omega);simp[gh,this]);subst hv;go_wp2;go_ret
    exact⟨rfl,Hbw.out.1⟩
   .go_wp2;refine⟨⟨k+1,ai,aJ,Hbw.out,λj hj=>?_⟩,by simp[intOf];omega⟩;by_cases e:j=k
    .subst e;rw[Hlk.out];omega
    .exact afy.out j ai
  .have hkl:k=lens.length:=ai;have hv:v=0:=(by rw[Hv.out];have:lens.all (λn=>decide (n<=64))=au:=(by rw[iT];intro x hx;obtain⟨j,hj,rfl⟩:=List.getElem_of_mem hx;have:=afy.out j ai;rw[eF,eQ hj]at this;simpa using this);have h0:0<lens.length/\lens.length<=8/\0<=un/\un<=20000:=ai;simp only[gh,this];rw[decide_eq_true h0];rfl);subst hv;go_wp2;go_ret
   exact⟨rfl,Hbw.out.1⟩
end
section
open Go Go.Conc Go.ConcN Go.RowKit Go.Conc.Lib Go.ConcR.Gen Go.ConcN.Gen
open Go.ConcR (KK wgBlock WgAt stA smA rd wr mk Payload Aside2 DC0)
variable[Inhabited dc]
theorem xY{w:aj}{r:Nat}(h:w.heap[b]? =ae (Obj.chan 0 #[] aw k r aw))(x:Nat):(w.setChan b 0 #[] au k r aw).heap[x]? =if x=b then ae (Obj.chan 0 #[] au k r aw)else w.heap[x]? :=by
 by_cases e:x=b
 .subst e;rw[aX rfl];exact heap_setChan_self w h _ _ _ _ _ _
 .rw[aU e];exact heap_setChan_ne w _ _ _ _ _ _ (bZ e)
theorem Vh(hP:d.P=aC)(Iz:d.ty=link.tWg){b:aB}{ops:Array aZ}{id:Nat}{o o2:aZ}{k:List Item}{x:Operand}{xs:Array Operand}
  (hk:b.kind≠.early)(ho:ops[j]? =ae o)(hw:dF o (dW ops a.tmps)=au)(hop:o.op=.call {callee:=.builtin .close,args:=#[x],argTypes:=ats})(hx:a.eval x=.chan (ae d.gone))(hnr:(prog.funcs[b.fn]?).any (·.norace)=aw)
  (hwake:mayWake d.P (cy (b.at a (bI ops [j]:: .code (.seq (.region id eO aw) z)::k)) (fs++d.cs0))=au)
  (hs:eO.size=1)(Az:eO[0]? =ae o2)(hw2:dF o2 (dW eO (a.put o.dst (.tuple #[])).tmps)=au)(ahz:o2.op=.call {callee:=.value (.func link.wait),args:=xs,argTypes:=ai3})
  (hxs:xs.map (a.put o.dst (.tuple #[])).eval=#[aI (ae ⟨d.Wg,0,ah⟩)]):
  EndSpot d (b.at a (bI ops [j]:: .code (.seq (.region id eO aw) z)::k)) fs (b.at ((a.put o.dst (.tuple #[])).put o2.dst (.tuple #[])) (bI eO []:: .code z::k)):=by
 refine⟨hwake,b.at (a.put o.dst (.tuple #[])) (bI ops []:: .code (.seq (.region id eO aw) z)::k),λw hK=>?_,λRd n Low F hF2=>?_⟩
 .obtain⟨_,_,⟨kg,hg⟩,_⟩:=hK;refine⟨w.setChan d.gone 0 #[] au kg kg aw,?_,rfl,rfl,rfl,by simp[World.setChan],⟨kg,kg,?_⟩,λy hy=>?_⟩
  .have:=stepG_close (P:=aC) (main:=au) (b:=b) (kk:=.code (.seq (.region id eO aw) z)::k) (cs:=fs++d.cs0) (rest:=[]) ho hw hk hop hx hg hnr;rw[hP];exact this
  .rw[xY hg,aX rfl]
  .rw[xY hg,aU hy]
 .rw[hP,Iz];refine⟨AnchWN link F d.Wg (b.at (a.put o.dst (.tuple #[])) (bI eO (0::[]):: .code z::k)) (fs++d.cs0),λg w h=>?_,λg w h=>?_,λw hF hl=>?_⟩
  .obtain⟨T,rfl,_⟩:=h;rfl
  .obtain⟨m,h⟩:=Ml (Rd:=Rd) (n:=n) (Low:=Low) (C:=d.C) OW hF2 g w h;refine⟨m,?_⟩;unfold OP at h;rw[Az]at h;exact h
  .have hW:=λw hF=>wait_start (C:=d.C) (Rd:=Rd) (n:=n) (Low:=Low) (F:=F) (i₀:=0) (rest₀:=[]) (k₀:=.code z::k) (cs:=fs++d.cs0) OW hF2 Az hw2 hk ahz hxs w hF;have hFl:F w/\dG link.tWg d.Wg w:=⟨hF,hl⟩;clear hF hl;refine⟨20+3,?_⟩;change Goes aC au _ _ _ (20+3) (G (b.at (a.put o.dst (.tuple #[])) (bI ops []:: .code (.seq (.region id eO aw) z)::k)) (fs++d.cs0)) w;refine cn rfl (λw₁ h₁=>?_);replace hFl:=aG hF2 hFl h₁;clear h₁;rw[bP];simp only[cG];refine⟨by u_nil,?_⟩;refine cn rfl (λw₁ h₁=>?_);replace hFl:=aG hF2 hFl h₁;clear h₁;rw[bU];simp only[cG];refine⟨by u_nil,?_⟩;refine cn rfl (λw₁ h₁=>?_);replace hFl:=aG hF2 hFl h₁;clear h₁;rw[gv];simp only[cG];refine⟨by u_nil,?_⟩;rw[hs];exact hW _ hFl
section
variable{main:Bool}{J:fM ι}{Stop:ι->aB->List aB->aj->Prop}{Q:ι->Exit->Act->aj->Prop}{w:aj}
theorem M8(h:∀(b:aB) (k:List Item) (fs:List aB),b.fn=fn->b.kind=.normal->U fs->(∀i' a' w',Q i' .normal a' w'->ZigC P main cs J Stop i' (b.at a' k) fs w')->ZigC P main cs J Stop i (b.at a (.code c::k)) fs w):wpM P main cs J Stop U fn c Q i a w:=λb k fs h1 h2 h3 hc=>h b k fs h1 h2 h3 λi' a' w' q=>hc i' .normal a' w' q
theorem Vi(hJ:∀(fr:aB) (fs:List aB),J i fr fs w (λi' cB dg a'=>R1 i' a'/\cB=fr/\dg=fs/\R2 a'))(h:∀i' w',R1 i' w'->R2 w'->wpM P main cs J Stop U fn c Q i' a w'):wpM P main cs J Stop U fn c Q i a w:=λb k fs h1 h2 h3 hc=> .jump (hJ _ _) λi' cB dg a' ⟨r1,e1,e2,r2⟩=>by subst e1 e2;exact h i' a' r1 r2 b k dg h1 h2 h3 hc
end
theorem Kj(hP:d.P=aC){b:aB}{ops:Array aZ}{id:Nat}{k:List Item}(hk:b.kind≠.early)(hs:eO.size=2)
  (ho0:eO[0]? =ae o0)(hw0:dF o0 (dW eO a.tmps)=au)(vY:∀w,(bT a.eval o0).runT aC w #[]=(.ok (.value v) w,#[]))
  (ho1:eO[1]? =ae o1)(iA:dF o1 (dW eO (a.put o0.dst v).tmps)=au)(hr1:∀w,(bT (a.put o0.dst v).eval o1).run aC w=.ok (.comm #[dh d.come (aq af 0)] au (.recv aw)) w)(he1:∀w,(bT (a.put o0.dst v).eval o1).events aC w #[]=#[]):
  d.cc.TN 0 (Seat.one d.come (aq af 0) aw λx=>x=cy (b.at (a.put o0.dst v) (bI eO [1]::k)) (fs++d.cs0)) 4 (cy (b.at a (bI ops []:: .code (.region id eO aw)::k)) (fs++d.cs0)):=by
 refine .inl ⟨3,default,rfl,?_⟩;change Goes d.P au (RK d.K0) (DS (d.Sp 0) d.B) _ 3 (G (b.at a (bI ops []:: .code (.region id eO aw)::k)) (fs++d.cs0)) default;rw[hP];k_c bP
 k_in
 rw[gv,hs];simp only[cG];refine⟨ds_none _,?_⟩
 k_in
 have hg:=stepG_oper (P:=aC) (main:=au) (b:=b) (a:=a) (k:=k) (cs:=fs++d.cs0) (w:=w₁) (rest:=[1]) ho0 hw0;have qI:((b.at a (bI eO [0,1]::k)).kind==gA)=aw:=by show(b.kind==gA)=aw;cases e:b.kind<;>first|rfl|exact aT e hk
 have mh:(b.at a (bI eO [0,1]::k)).finish v=b.at (a.put o0.dst v) (bI eO [1]::k):=by rw[iB,ho0];rfl
 have h:=hg.trans (jy (fr:=b.at a (bI eO [0,1]::k)) (cs:=fs++d.cs0) qI (vY w₁));rw[mh,show seen aC (b.at a (bI eO [0,1]::k)).fn #[] ++ #[]=#[]from by simp[seen]]at h;change (bn aC au (G (b.at a (bI eO [0,1]::k)) (fs++d.cs0)) w₁).goes _;rw[show bn aC au (G (b.at a (bI eO [0,1]::k)) (fs++d.cs0)) w₁=_ from h];simp only[cG];refine⟨ds_none _,?_⟩;refine gM (λw₂ h₂=>⟨cy (b.at (a.put o0.dst v) (bI eO [1]::k)) (fs++d.cs0),?_⟩);show AtIn d.P au _ _ _ _ (G (b.at (a.put o0.dst v) (bI eO [1]::k)) (fs++d.cs0)) (G (b.at (a.put o0.dst v) (bI eO [1]::k)) (fs++d.cs0));rw[hP];exact atIn_of ho1 iA hk (λw=>hr1 w) he1 rfl
theorem Vj(hP:d.P=aC){b:aB}{ops:Array aZ}{id kk:Nat}{o:aZ}{x y:Operand}{k:List Item}(hk:b.kind≠.early)(hs:eO.size=2)
  (ho:ops[j]? =ae o)(hw:dF o (dW ops a.tmps)=au)(hop:o.op=.send x y)(hx:a.eval x=.chan (ae (d.turn kk)))(hy:a.eval y=goInt ((t-d.base:Nat):Int))
  (ho0:eO[0]? =ae o0)(hw0:dF o0 (dW eO (a.put o.dst aO).tmps)=au)(vY:∀w,(bT (a.put o.dst aO).eval o0).runT aC w #[]=(.ok (.value v) w,#[]))
  (ho1:eO[1]? =ae o1)(iA:dF o1 (dW eO ((a.put o.dst aO).put o0.dst v).tmps)=au)(hr1:∀w,(bT ((a.put o.dst aO).put o0.dst v).eval o1).run aC w=.ok (.comm #[dh d.come (aq af 0)] au (.recv aw)) w)(he1:∀w,(bT ((a.put o.dst aO).put o0.dst v).eval o1).events aC w #[]=#[]):
  MSpot d kk t (b.at a (bI ops [j]:: .code (.region id eO aw)::k)) fs (b.at ((a.put o.dst aO).put o0.dst v) (bI eO [1]::k)):=by
 refine⟨⟨cy (b.at (a.put o.dst aO) (bI ops []:: .code (.region id eO aw)::k)) (fs++d.cs0),4,λr=>⟨rfl,cy (b.at a (bI ops [j]:: .code (.region id eO aw)::k)) (fs++d.cs0),0,#[scase (d.turn kk) (goInt ((t-d.base:Nat):Int)) (.tuple #[])],.send,λw₁ _=>?_,⟨⟨.tuple #[],rfl⟩,λm cc hm hcc=>?_⟩,λw hw m b' z' h=>?_,?_⟩,Kj hP hk hs ho0 hw0 vY ho1 iA hr1 he1⟩⟩
 .have hr:(bT a.eval o).run aC w₁=.ok (.comm #[scase (d.turn kk) (goInt ((t-d.base:Nat):Int)) (.tuple #[])] au .send) w₁:=by simp[bT,hop,hx,hy,scase]
  have he:(bT a.eval o).events aC w₁ #[]=#[]:=by unfold bT;simp only[hop];rfl
  have:=stepG_comm (P:=aC) (main:=au) (b:=b) (k:=.code (.region id eO aw)::k) (cs:=fs++d.cs0) (rest:=[]) ho hw hk hr;rw[show listed aC b.fn a o w₁=#[]from listed_none he]at this;show bn d.P au _ _=_;rw[hP];exact this
 .rcases m with _|m
  .exact aT rfl hm
  .simp at hcc
 .rcases m with _|m
  .simp[scase,dh]at h
  .simp at h
 .have e:mq (G (b.at a (bI ops [j]:: .code (.region id eO aw)::k)) (fs++d.cs0)) aO=G (b.at (a.put o.dst aO) (bI ops []:: .code (.region id eO aw)::k)) (fs++d.cs0):=by rw[served_G];simp[ho]
  exact e.symm
end
section
open Go Go.Conc Go.ConcN Go.RowKit
attribute [local go_sem] ba bf bH a8 bC bK aS aV
def S2:bN:={L:=λg=>[119,118,148,120,149,78,70].contains g,C:=λg=>g==149,X:=λ_=>aw,ft:=λf t=>(f==78&&(t==1||t==11)) ||(f==120&&t==68)}
theorem iD:Stat aC S2:=by
 have hL:∀g,S2.L g=au->g=119\/g=118\/g=148\/g=120\/g=149\/g=78\/g=70:=λg h=>by simpa[S2]using h
 refine⟨λ_=>⟨λ_ h=>dB,λ_ h=>dB,IV rfl (λ_=>rfl) (λ_=>rfl)⟩,λg h=>?_,λg h=>?_,λg h=>?_⟩
 .rcases hL g h with rfl|rfl|rfl|rfl|rfl|rfl|rfl
  .exact⟨_,func119,rfl,rfl⟩
  .exact⟨_,func118,rfl,rfl⟩
  .exact⟨_,func148,rfl,rfl⟩
  .exact⟨_,func120,rfl,rfl⟩
  .exact⟨_,func149,rfl,rfl⟩
  .exact⟨_,func78,rfl,rfl⟩
  .exact⟨_,func70,rfl,rfl⟩
 .simp only[S2,beq_iff_eq]at h;subst h;exact⟨aN,λt=>by simp[S2]⟩
 .rcases hL g h with rfl|rfl|rfl|rfl|rfl|rfl|rfl<;>kernel_rfl
theorem zX(f:Nat)(hf:f≠78/\f≠120)(t:Array ay):p8 S2 f t:=λx h=>by simp[S2,hf.1,hf.2]at h
theorem oT(h:ds=[]):∀d∈ds,nv aC S2 d:=λd hd=>by subst h;cases hd
inductive Ta(cV:ay)(lb lc n come cb res ob sb rb:Nat)(most:Int):Act->Prop
 |mk (u4 u5 nW nX mU mA mB u16 lK lL lM lN mV mX u23 u24 mY u26 lO u28 lQ lR mC u32 u33 mD mE mF mG mZ m9 nV oU oV pU u44 pV oX oY oZ o6 o7 o8 o9 sH sI ub ud wE wG wH wI wJ wK wL u64 wM wN D5 D6 D7 AG AH AJ Cy Cz CB CE CG D8 D9 Ea Gz GA GC GD GF GG GH GI GJ GL GM GN GQ GR Q6 Q7 Q8 Q9 Ra zb ze zf zh zi zl:ay):Ta cV lb lc n come cb res ob sb rb most {tmps:=#[cV,aD (ae ⟨lb,0,ah⟩) n lc,.chan (ae come),aI (ae ⟨cb,0,ah⟩),u4,u5,aI (ae ⟨res,0,ah⟩),aq af most,aI (ae ⟨ob,0,ah⟩),aD (ae ⟨sb,0,ah⟩) n n,aI (ae ⟨rb,0,ah⟩),nW,nX,mU,mA,mB,u16,lK,lL,lM,lN,mV,mX,u23,u24,mY,u26,lO,u28,lQ,lR,mC,u32,u33,mD,mE,mF,mG,mZ,m9,nV,oU,oV,pU,u44,pV,oX,oY,oZ,o6,o7,o8,o9,sH,sI,ub,ud,wE,wG,wH,wI,wJ,wK,wL,u64,wM,wN,D5,D6,D7,AG,AH,AJ,Cy,Cz,CB,CE,CG,D8,D9,Ea,Gz,GA,GC,GD,GF,GG,GH,GI,GJ,GL,GM,GN,GQ,GR,Q6,Q7,Q8,Q9,Ra,zb,ze,zf,zh,zi,zl],defers:=[]}
structure PN where
 wk:Option aP
 tu:Option aP
 ha:Option aP
 wc:Nat
 tc:Nat
 hc:Nat
 lb:Nat
 lc:Nat
 cb:Nat
 res:Nat
 ob:Nat
 sb:Nat
 rb:Nat
section
structure PSet(J:gS σ)(d:bp)(K:PN)(a0:aj):Prop where
 n:J.n<=8
 lc:J.n<=K.lc
 lbl:K.lb<a0.heap.size
 cb:K.cb=a0.heap.size
 res:K.res=a0.heap.size+1
 ob:a0.heap.size+2<=K.ob
 sb:K.ob<K.sb
 rb:K.sb<K.rb
 W:∀i,i<J.n->d.W i<a0.heap.size
 l:∀i,i<J.n->a0.cell? ⟨K.lb,i,ah⟩=ae (aI (ae ⟨d.W i,0,ah⟩))/\∀k,k<J.n->K.lb≠d.W k
 h:∀i,i<J.c.halt.length->∃hb ho,K.ha=ae ⟨hb,ho,ah⟩/\a0.cell? ⟨hb,ho+i,ah⟩=ae (aq af (J.c.halt.getD i 0))/\∀k,k<J.n->hb≠d.W k
def ui(n:Nat)(Bh:Nat->Nat):Array ay:=Array.ofFn λi:Fin n=>Value.int .i64 (Bh i.1)
structure PAt(J:gS σ)(d:bp)(K:PN)(a0:aj)(t all:Nat)(cut:Bool)(Bh:Nat->Nat)(left:List Int)(last:Int)(w:aj):Prop where
 size:K.rb<w.heap.size
 old:∀(b:Nat) o,a0.heap[b]? =ae o->o≠eh->(∀i,i<J.n->b≠d.W i)->w.heap[b]? =ae o
 c:w.heap[K.cb]? =ae (aK (aW K.wk K.tu K.ha J.n K.wc J.c.turns.length K.tc J.c.halt.length K.hc J.c.until_) 25 (0,0))
 res:w.heap[K.res]? =ae (aK #[aD ah 0 0,aD ah 0 0,aq af 0,.bool aw] 31 (0,0))
 r:w.heap[K.rb]? =ae (aK #[aD ah 0 0,aD ah 0 0,aq af all,.bool cut] 31 (0,0))
 s:w.heap[K.sb]? =ae (aK (ui J.n Bh) 3 (0,0))
 o:OrderAt w (a0.heap.size+2) K.ob left last
 eyes:∀i,i<J.n->w.cell? ⟨d.W i,2,ah⟩=ae (.chan (ae (d.turn i)))/\w.cell? ⟨d.W i,10,ah⟩=ae (.bool (decide (i<t/\J.len i<=((J.ar t).w i).got.length)))
theorem lS{w:aj}{x:aP}(h:w.cell? x=ae v):∃o,w.heap[x.block]? =ae o/\o≠eh:=by
 unfold fG at h;cases e:w.heap[x.block]? with
 |none=>rw[e]at h;simp at h
 |some o=>refine⟨o,rfl,λhp=>?_⟩;rw[e,hp]at h;simp[eh]at h
section
variable{K:PN}{w:aj}{all afz:Nat}{cut afA:Bool}{afB:Nat->Nat}{left left':List Int}{last abp:Int}
theorem PAt.Vk(P:PAt J d K a0 t all cut Bh left last w){x:aP}(h:a0.cell? x=ae v)(hW:∀i,i<J.n->x.block≠d.W i):w.cell? x=ae v:=by obtain⟨o,h1,h2⟩:=lS h;rw[←h];exact dr (w:=a0) (by rw[P.old _ o h1 h2 hW,h1])
theorem PAt.ll(P:PAt J d K a0 t all cut Bh left last w)(H:PSet J d K a0)(i:Nat)(hi:i<J.n):w.cell? ⟨K.lb,i,ah⟩=ae (aI (ae ⟨d.W i,0,ah⟩)):=P.Vk (H.l i hi).1 (H.l i hi).2
theorem PAt.hh(P:PAt J d K a0 t all cut Bh left last w)(H:PSet J d K a0)(i:Nat)(hi:i<J.c.halt.length):∃hb ho,K.ha=ae ⟨hb,ho,ah⟩/\w.cell? ⟨hb,ho+i,ah⟩=ae (aq af (J.c.halt.getD i 0)):=by obtain⟨hb,ho,h1,h2,h3⟩:=H.h i hi;exact⟨hb,ho,h1,P.Vk h2 h3⟩
theorem Kk{n:Nat}{i:Nat}(h:i<n):(ui n Bh)[i]? =ae (aq af (Bh i)):=by simp[ui,h]
theorem Vl{n:Nat}{i:Nat}(h:i<n):(ui n Bh).setIfInBounds i (aq af ((Bh i:Int) +1))=ui n λk=>if k=i then Bh i+1 else Bh k:=by
 apply Array.ext
 .simp[ui]
 .intro k h1 h2;simp only[ui,zP,Array.size_ofFn]at h1 h2;rw[Array.getElem_setIfInBounds (by simpa[ui]using h1)];simp only[ui,Array.getElem_ofFn];by_cases e:i=k
  .subst e;simp
  .rw[aU e,aU (bZ e)]
theorem PAt.ss(P:PAt J d K a0 t all cut Bh left last w)(i:Nat)(hi:i<J.n):w.cell? ⟨K.sb,i,ah⟩=ae (aq af (Bh i)):=by rw[ax P.s];exact Kk hi
theorem PAt.turn(P:PAt J d K a0 t all cut Bh left last w)(H:PSet J d K a0)(hs:w.heap.size<=w'.heap.size)(ho:∀b,b<w.heap.size->b≠K.rb->b≠K.sb->b≠K.ob->w'.heap[b]? =w.heap[b]?)
  (hr:w'.heap[K.rb]? =ae (aK #[aD ah 0 0,aD ah 0 0,aq af afz,.bool afA] 31 (0,0)))(hst:w'.heap[K.sb]? =ae (aK (ui J.n afB) 3 (0,0)))(ahA:OrderAt w' (a0.heap.size+2) K.ob left' abp):
  PAt J d K a0 t afz afA afB left' abp w':=by
 have hlt:∀b,b<a0.heap.size+2->w'.heap[b]? =w.heap[b]? :=λb hb=>ho b (by have:=P.size;have:=H.rb;have:=H.sb;have:=H.ob;omega) (by have:=H.rb;have:=H.sb;have:=H.ob;omega) (by have:=H.sb;have:=H.ob;omega) (by have:=H.ob;omega);refine⟨iR P.size hs,λb o h1 h2 h3=>?_,?_,?_,hr,hst,ahA,λi hi=>?_⟩
 .have:=(bF.1 h1).1;rw[hlt b ai];exact P.old b o h1 h2 h3
 .rw[hlt K.cb (by rw[H.cb];omega)];exact P.c
 .rw[hlt K.res (by rw[H.res];omega)];exact P.res
 .obtain⟨h1,h2⟩:=P.eyes i hi;have hW:=H.W i hi;have e:=hlt (d.W i) ai;exact⟨by rw[←h1];exact dr (w:=w) e,by rw[←h2];exact dr (w:=w) e⟩
theorem OrderAt.same(O:OrderAt w lo ob left last)(h:∀b,lo<=b->b<=ob->w'.heap[b]? =w.heap[b]?)(hl:lo<=ob):OrderAt w' lo ob left last:=by obtain⟨la,lc,h1,h2,h3⟩:=O.ex;refine⟨la,lc,by rw[h ob hl (bJ _)];exact h1,h2,λi hi=>?_⟩;obtain⟨tb,to,e,⟨h4,h5⟩,h6⟩:=h3 i hi;exact⟨tb,to,e,⟨h4,h5⟩,by rw[←h6];exact dr (w:=w) (h tb h4 (Nat.le_of_lt h5))⟩
theorem PAt.resume(P:PAt J d K a0 t all cut Bh left last w)(H:PSet J d K a0)(hj:d.j=J.n)(hf:∀i,i<J.n->(⟨d.W i,2,ah⟩,.chan (ae (d.turn i)))∈d.facts i)(R:pC d (J.cP d.W) (λ_=>False) w t' w'):PAt J d K a0 t' all cut Bh left last w':=by
 have hs:∀(b:Nat) o,w.heap[b]? =ae o->o≠eh->(∀i,i<J.n->b≠d.W i)->w'.heap[b]? =ae o:=λb o h1 h2 h3=>R.same b o h1 h2 (λi hi=>h3 i ai) id;have hne:∀b,a0.heap.size<=b->∀i,i<J.n->b≠d.W i:=λb hb i hi=>by have:=H.W i hi;omega
 have hcell:∀b c e f,a0.heap.size<=b->w.heap[b]? =ae (aK c e f)->w'.heap[b]? =ae (aK c e f):=λb c e f hb h=>hs b _ h bu (hne b hb);have Lk:a0.heap.size+2<=K.ob:=H.ob;refine⟨iR P.size R.size,λb o h1 h2 h3=>hs b o (P.old b o h1 h2 h3) h2 h3,hcell _ _ _ _ (by rw[H.cb];omega) P.c,hcell _ _ _ _ (by rw[H.res];omega) P.res,hcell _ _ _ _ (by have:=H.rb;have:=H.sb;omega) P.r,?_,?_,λi hi=>?_⟩
 .exact hcell _ _ _ _ (by have:=H.sb;omega) P.s
 .obtain⟨la,lc,h1,h2,h3⟩:=P.o.ex;refine⟨la,lc,hcell _ _ _ _ ai h1,h2,λi hi=>?_⟩;obtain⟨tb,to,e,⟨h4,h5⟩,h6⟩:=h3 i hi;obtain⟨o,h7,h8⟩:=lS h6;exact⟨tb,to,e,⟨h4,h5⟩,by rw[←h6];exact dr (w:=w) (by rw[hs tb o h7 h8 (hne tb ai),h7])⟩
 .refine⟨R.facts i ai _ (hf i hi) rfl,?_⟩;obtain⟨r,hwr,⟨c,e,f,hc,_,hc'⟩,_⟩:=R.recs i ai;obtain⟨be,ow,sl,_,_,_,h10,_⟩:=hwr hi;rw[ax hc]at h10;rw[ax hc'];exact h10
end
end
end
section
open Go Go.Conc Go.ConcN Go.RowKit
attribute [local go_sem] ba bf bH a8 bC bK aS aV
variable[Inhabited dc]
noncomputable def dL:Code:=(f75.body).getD .skip
noncomputable def lg:Code:=dL.r.r.r.r.r.r.l
noncomputable def gi:Code:=lg.l.l.l
noncomputable def gl:Code:=dL.r.r.r.r.r.r.r
section
variable{K:PN}{w:aj}{cut:Bool}
theorem gS.all(t:Nat):(J.ar t).all=t-J.n:=by unfold gS.ar;exact AR.Mu _ _ _ _
structure mJ(J:gS σ)(d:bp)(K:PN)(a0:aj)(t:Nat)(cut:Bool)(w:aj):Prop where
 le:J.n<=t
 at_:PAt J d K a0 t (t-J.n) cut (J.ar t).steps (J.ar t).left (J.ar t).last w
def PN.cV(J:gS σ)(K:PN):ay:=.agg (aW K.wk K.tu K.ha J.n K.wc J.c.turns.length K.tc J.c.halt.length K.hc J.c.until_)
abbrev PN.Is(J:gS σ)(d:bp)(K:PN):Act->Prop:=Ta (K.cV J) K.lb K.lc J.n d.come K.cb K.res K.ob K.sb K.rb J.c.most
theorem M9(P:mJ J d K a0 t cut w)(H:PSet J d K a0)(τ:Nat->iz->Nat):OU (w.tp τ) J.n K.lb K.sb d.W (λi=>decide (i<t/\J.len i<=((J.ar t).w i).got.length)) (J.ar t).steps K.ha J.c.halt:=⟨λi hi=>P.at_.ll H i hi,λi hi=>P.at_.ss i hi,λi hi=>(P.at_.eyes i hi).2,λi hi=>P.at_.hh H i hi⟩
theorem ac8(P:mJ J d K a0 t cut w){r:Nat->Bool}(hr:∀k,r k=(!decide (k<t/\J.len k<=((J.ar t).w k).got.length) &&!decide (0<J.c.halt.getD k 0/\J.c.halt.getD k 0<=((J.ar t).steps k:Int)))):
  readyL r J.n=(J.ar t).who J.c/\DX r J.n=(J.ar t).any J.c/\∀k,k<J.n->r k=(J.ar t).ready J.c k:=by
 have hk:∀k,k<J.n->r k=(J.ar t).ready J.c k:=λk hk=>by rw[hr];unfold AR.ready cu.halted gS.len;have:k<t:=iR hk P.le;simp only[this,true_and];congr 1;rw[←decide_not];congr 1;simp
 have h1:readyL r J.n=(J.ar t).who J.c:=by unfold readyL AR.who;exact List.filter_congr λx hx=>hk x (pz.1 hx)
 refine⟨h1,?_,hk⟩;unfold AR.any;rw[←h1];unfold DX readyL;cases e:(dx J.n).any r with
 |true=>
  obtain⟨x,h2,h3⟩:=List.any_eq_true.1 e;have:x∈(dx J.n).filter r:=List.mem_filter.2 ⟨h2,h3⟩;cases e2:(dx J.n).filter r with
  |nil=>rw[e2]at this;cases this
  |cons y ys=>rfl
 |false=>
  have:(dx J.n).filter r=[]:=List.filter_eq_nil_iff.2 λx hx h=>by have:(dx J.n).any r=au:=List.any_eq_true.2 ⟨x,hx,h⟩;rw[e]at this;cases this
  rw[this];rfl
theorem Rb{Stop:Ph->aB->List aB->aj->Prop}(hcs:NE cs0)(H:PSet J d K a0)(hA:K.Is J d a)(P:mJ J d K a0 t cut w):
  wpM aC au cs0 (JP aC S cs0 λd=>J.cP d.W) Stop U 75 gi.l (λi' e a' w'=>e=.normal/\i'=.run t d/\K.Is J d a'/\mJ J d K a0 t cut w'/\a'.eval (.tmp 12)=.bool ((J.ar t).any J.c)/\
   ∃gb,gb≠K.rb/\a'.eval (.tmp 11)=aD (ae ⟨gb,0,ah⟩) J.n J.n/\∀i,i<J.n->w'.cell? ⟨gb,i,ah⟩=ae (.bool ((J.ar t).ready J.c i))) (.run t d) a w:=by
 have hR:=λτ=>M9 P H τ;have q:∀o v,(aW K.wk K.tu K.ha J.n K.wc J.c.turns.length K.tc J.c.halt.length K.hc J.c.until_)[o]? =ae v->w.cell? ⟨K.cb,o,ah⟩=ae v:=λo v h=>by rw[ax P.at_.c];exact h
 have q0:=q 0 _ rfl;have q1:=q 1 _ rfl;have q2:=q 2 _ rfl;have q3:=q 3 _ rfl;clear q;have HP:=aA P;have HH:=aA H;have hn:=H.n;have hlc:=H.lc;clear P H;unfold PN.Is at hA;unfold PN.Is;generalize YV:K.cV J=cV at*;unfold PN.cV at YV;obtain⟨wk,tu,ha,wc,tc,hc,lb,lc,cb,res,ob,sb,rb⟩:=K;simp only at*;cases hA;simp only[gi,lg,dL,f75,Code.l,Code.r,cN];refine wpM_lone iD hcs aQ (oT rfl) (zX _ aN _) (λτ=>?_);have hR:=hR τ;have HR:=aA hR;clear hR;go_wp2_with (go_at_call 119;refine(QB J.n lb lc sb J.n J.n wc J.c.turns.length tc hc wk tu ha J.c.halt J.c.until_ d.W _ _ (w.tp τ) hn hlc HR.out).mono ?_;rintro e w1 ⟨r,hr,rfl,h1,h2,h3,h4,h5⟩)
 obtain⟨e1,e2,e3⟩:=ac8 HP.out hr;have P:=HP.out.at_;have H:=HH.out;have hold:∀b,b<w.heap.size->w1.heap[b]? =w.heap[b]? :=h2;have hp:=P.size;have hsz:w1.heap.size=w.heap.size+2:=h1;have h6:=H.rb;have h7:=H.sb;simp only at hp h6 h7;refine⟨w1,⟨rfl,rfl,rfl⟩,Ta.mk ..,⟨HP.out.le,P.turn H ai (λb hb _ _ _=>hold b hb) (by rw[hold _ hp];exact P.r) (by rw[hold _ nD];exact P.s) (P.o.same (λb _ hb=>hold b (by simp only at hb;omega)) H.ob)⟩,e2,_,ai,rfl,λi hi=>?_⟩;have h3':w1.heap[w.heap.size+1]? =ae (Obj.cells (xL J.n J.n r) 4 (0,0)):=h3;rw[ax h3',JI _ _ _ _ hi,e3 i hi];simp[hi]
theorem Rc{Stop:Ph->aB->List aB->aj->Prop}(hcs:NE cs0)(hsm:J.c.most<=20000)(H:PSet J d K a0)(hA:K.Is J d a)(P:mJ J d K a0 t cut w)(h12:a.eval (.tmp 12)=.bool ((J.ar t).any J.c))(h11:a.eval (.tmp 11)=aD (ae ⟨gb,0,ah⟩) J.n J.n)
   (hno:(J.ar t).goes J.c=aw->∀a' w',K.Is J d a'->mJ J d K a0 t ((J.ar t).any J.c) w'->Q (.run t d) (.exit 0) a' w')
  (hyes:(J.ar t).goes J.c=au->∀a' w',K.Is J d a'->mJ J d K a0 t ((J.ar t).any J.c) w'->(∀b,b≠K.rb->w'.heap[b]? =w.heap[b]?)->a'.eval (.tmp 11)=aD (ae ⟨gb,0,ah⟩) J.n J.n->wpM aC au cs0 (JP aC S cs0 λd=>J.cP d.W) Stop U 75 gi.r.r.r Q (.run t d) a' w'):
  wpM aC au cs0 (JP aC S cs0 λd=>J.cP d.W) Stop U 75 gi.r Q (.run t d) a w:=by
 have q0:=cO P.at_.r 2;have q1:=cO P.at_.r 3;have z1:=zO P.at_.r 3;have hP':mJ J d K a0 t ((J.ar t).any J.c) (w.setCell ⟨K.rb,3,ah⟩ (.bool ((J.ar t).any J.c))):=by have h6:=H.rb;have h7:=H.sb;refine⟨P.le,P.at_.turn H jM (λb _ h1 _ _=>az h1 _) (by rw[aH P.at_.r];rfl) (by rw[az ai];exact P.at_.s) (P.at_.o.same (λb _ hb=>az ai _) H.ob)⟩
 have dA:∀b,b≠K.rb->(w.setCell ⟨K.rb,3,ah⟩ (.bool ((J.ar t).any J.c))).heap[b]? =w.heap[b]? :=λb h=>az h _;have hg:(J.ar t).goes J.c=((J.ar t).any J.c&&decide (t-J.n<J.c.most)):=by unfold AR.goes;rw[gS.all]
 have HP:=aA hP';have HO:=aA dA;have HN:=aA hno;have HY:=aA hyes;have HG:=aA hg;clear P H hP' dA hno hyes hg;unfold PN.Is at hA HN HY;generalize YV:K.cV J=cV at*;generalize UX:(J.ar t).any J.c=any at*;obtain⟨wk,tu,ha,wc,tc,hc,lb,lc,cb,res,ob,sb,rb⟩:=K;simp only at*;cases hA;simp only[cS,dO]at h11 h12;simp only[kJ,nK,oP,cN]at h11 h12;subst h11 h12;simp only[gi,lg,dL,f75,Code.l,Code.r,cN]at HY⊢;refine ZQ λτ=>?_;cases any with
 |false=>refine l2y λτ=>?_;refine bz (t:=au) dS (iU ?_);simp only[bE];exact HN.out (by rw[HG.out];rfl) _ _ (Ta.mk ..) HP.out
 |true=>
  by_cases hlt:t-J.n<J.c.most
  .have hd:decide (((J.c.most:Nat):Int)<=((t-J.n:Nat):Int))=aw:=dp;refine l2y λτ=>?_;refine bz (t:=aw) (by simp[cS];try omega) (eY ?_);simp only[bE];exact HY.out (by rw[HG.out];simp[hlt]) _ _ (Ta.mk ..) HP.out HO.out rfl
  .have hd:decide (((J.c.most:Nat):Int)<=((t-J.n:Nat):Int))=au:=dp;refine l2y λτ=>?_;refine bz (t:=au) (by simp[cS];try omega) (iU ?_);simp only[bE];exact HN.out (by rw[HG.out];simp[hlt]) _ _ (Ta.mk ..) HP.out
end
section
variable{K:PN}{w:aj}{cut:Bool}
theorem AR.Vm(L:Lay σ)(c:cu)(s:σ)(t i:Nat):(AR.at L c s t).steps i<=t:=by
 induction t with
 |zero=>exact bJ _
 |succ t ih=>
  show(if i=(AR.at L c s t).pick c then(AR.at L c s t).steps ((AR.at L c s t).pick c) +1 else(AR.at L c s t).steps i)<=t+1;by_cases e:i=(AR.at L c s t).pick c
  .rw[aX e,←e];omega
  .rw[aU e];omega
theorem gS.steps(J:gS σ)(t i:Nat):(J.ar t).steps i<=t-J.n:=AR.Vm _ _ _ _ _
abbrev PGive(J:gS σ)(d:bp)(K:PN)(a0:aj)(t:Nat)(cut:Bool)(w:aj):Prop:=PAt J d K a0 t (t-J.n+1) cut (λi=>if i=(J.ar t).pick J.c then(J.ar t).steps ((J.ar t).pick J.c) +1 else(J.ar t).steps i) (J.ar t).left.tail (((J.ar t).pick J.c:Nat):Int) w
theorem Na{Stop:Ph->aB->List aB->aj->Prop}(hcs:NE cs0)(hsm:J.c.most<=20000)(H:PSet J d K a0)(hA:K.Is J d a)(P:mJ J d K a0 t cut w)(hgo:(J.ar t).goes J.c=au)(h11:a.eval (.tmp 11)=aD (ae ⟨gb,0,ah⟩) J.n J.n)
  (hg:∀i,i<J.n->w.cell? ⟨gb,i,ah⟩=ae (.bool ((J.ar t).ready J.c i)))
  (hQ:∀a' w',K.Is J d a'->PGive J d K a0 t cut w'->a'.eval (.tmp 13)=aq af (((J.ar t).pick J.c:Nat):Int)->wpM aC au cs0 (JP aC S cs0 λd=>J.cP d.W) Stop U 75 gi.r.r.r.r.r.r Q (.run t d) a' w'):
  wpM aC au cs0 (JP aC S cs0 λd=>J.cP d.W) Stop U 75 gi.r.r.r Q (.run t d) a w:=by
 have TZ:(J.ar t).pick J.c<J.n:=AR.Be hgo;have hlt:t-J.n<J.c.most:=by have:=hgo;unfold AR.goes at this;simp only[cR,decide_eq_true_eq,gS.all]at this;exact this.2
 have TX:readyL ((J.ar t).ready J.c) J.n=(J.ar t).who J.c:=rfl;have UX:0< (readyL ((J.ar t).ready J.c) J.n).length:=by rw[TX];have:=hgo;unfold AR.goes AR.any at this;simp only[cR,xu,List.isEmpty_eq_false_iff]at this;exact List.length_pos_iff.2 this.1
 have xN:=λτ=>pick_any (a0.heap.size+2) K.ob gb J.n J.n (J.ar t).left (J.ar t).last ((J.ar t).ready J.c) (w.tp τ) H.n ⟨P.at_.o.ex⟩ UX hg;have hst:=J.steps t ((J.ar t).pick J.c);rw[TX,show rU (J.ar t).left (J.ar t).last ((J.ar t).who J.c)=(J.ar t).pick J.c from rfl]at xN;have hend:∀w1:aj,w.heap.size<=w1.heap.size->(∀b,b<w.heap.size->b≠K.ob->w1.heap[b]? =w.heap[b]?)->OrderAt w1 (a0.heap.size+2) K.ob (J.ar t).left.tail (((J.ar t).pick J.c:Nat):Int)->
   (w1.cell? ⟨K.rb,2,ah⟩=ae (aq af ((t-J.n:Nat):Int))/\w1.frozen? ⟨K.rb,2,ah⟩=aw/\w1.cell? ⟨K.sb,(J.ar t).pick J.c,ah⟩=ae (aq af ((J.ar t).steps ((J.ar t).pick J.c)))/\w1.frozen? ⟨K.sb,(J.ar t).pick J.c,ah⟩=aw/\K.sb≠K.rb)/\
   PGive J d K a0 t cut ((w1.setCell ⟨K.rb,2,ah⟩ (aq af (((t-J.n:Nat):Int) +1))).setCell ⟨K.sb,(J.ar t).pick J.c,ah⟩ (aq af (((J.ar t).steps ((J.ar t).pick J.c):Int) +1))):=λw1 hs ho hO=>by
  have h6:=H.rb;have h7:=H.sb;have h8:=P.at_.size;have hr1:w1.heap[K.rb]? =ae (aK #[aD ah 0 0,aD ah 0 0,aq af ((t-J.n:Nat):Int),.bool cut] 31 (0,0)):=by rw[ho _ ai ai];exact P.at_.r
  have hs1:w1.heap[K.sb]? =ae (aK (ui J.n (J.ar t).steps) 3 (0,0)):=by rw[ho _ ai ai];exact P.at_.s
  refine⟨⟨by rw[ax hr1];rfl,aM hr1 _ (bQ _),by rw[ax hs1];exact Kk TZ,aM hs1 _ (bQ _),ai⟩,?_⟩;refine P.at_.turn H (by simpa[fF]using hs) (λb hb h1 h2 h3=>by rw[az h2,az h1];exact ho b hb h3) ?_ ?_ (hO.same (λb _ hb=>by rw[az ai,az ai]) H.ob)
  .rw[az ai,aH hr1];rfl
  .rw[aH (by rw[az ai];exact hs1),Vl TZ]
 have HP:=aA P;have HH:=aA H;have HE:=aA hend;have HK:=aA xN;have HQ:=aA hQ;have hn:=H.n;clear P H hend xN hQ hg hgo TX UX;unfold PN.Is at hA HQ;generalize YV:K.cV J=cV at*;generalize Im:(J.ar t).pick J.c=k at*;generalize hsk:(J.ar t).steps k=sk at*;obtain⟨wk,tu,ha,wc,tc,hc,lb,lc,cb,res,ob,sb,rb⟩:=K;simp only at*;cases hA;simp only[cS,dO]at h11;simp only[kJ,nK,oP,cN]at h11;subst h11;have ai4:k<J.n:=TZ;have iA:IntKind.i64.wrap (((t-J.n:Nat):Int) +1)=((t-J.n:Nat):Int) +1:=by rw[gq];omega
 have hw2:IntKind.i64.wrap ((sk:Int) +1)=(sk:Int) +1:=by rw[gq];omega
 simp only[gi,lg,dL,f75,Code.l,Code.r,cN]at HQ⊢;refine wpM_seq (wpM_lone iD hcs aQ (oT rfl) (zX _ aN _) (λτ=>?_));have HK:=aA (HK.out τ);go_wp2_with (go_at_call 120;refine HK.out.mono ?_;rintro e w1 ⟨rfl,hO,h1,h2,h4,h5⟩)
 have HW:=aA (HE.out w1 h1 h2 hO);clear h1 h2 hO h4 h5;refine⟨w1,⟨rfl,rfl,rfl⟩,?_⟩;try simp only[bE]
 obtain⟨⟨q0,z0,q1,z1,hne⟩,-⟩:=HW.out;iterate 2
  refine ZQ λτ=>?_
 exact HQ.out _ _ (Ta.mk ..) HW.out.2 rfl
end
end
section
open Go Go.Conc Go.ConcN Go.RowKit
attribute [local go_sem] ba bf bH a8 bC bK aS aV
section
variable{K:PN}{w:aj}{cut:Bool}
def GS(lb lc n k W turn rb all:Nat):Nat->ay
 |0=>aD (ae ⟨lb,0,ah⟩) n lc
 |1=>aq af k
 |2=>aI (ae ⟨lb,k,ah⟩)
 |3=>aI (ae ⟨W,0,ah⟩)
 |4=>aI (ae ⟨W,0,ah⟩)
 |5=>aI (ae ⟨W,2,ah⟩)
 |6=>.chan (ae turn)
 |7=>aI (ae ⟨rb,2,ah⟩)
 |_=>aq af all
theorem zm{w:aj}(h:w1.heap=w.heap)(x:aP):w1.cell? x=w.cell? x:=by simp only[fG,h]
theorem ac9{n:Nat}(w1:aj)(hk:k<n)(hn:n<=8):Sem.run aC (Instr.indexAt 166 (aD (ae ⟨lb,0,ah⟩) n lc) (aq af (k:Int))) w1=.ok (aI (ae ⟨lb,k,ah⟩)) w1:=by have h0:(0:Int)<=(k:Int)/\(k:Int) < (n:Int):=⟨ai,ai⟩;simp[Instr.indexAt,asIntOf,go_sem,h0];intro h;omega
theorem Kl{cV:ay}{n res W turn all:Nat}{most:Int}(hA:Ta cV lb lc n come cb res ob sb rb most a)(h13:a.eval (.tmp 13)=aq af (k:Int))(hk:k<n)(hn:n<=8)(hlc:n<=lc)
  (hl:w.cell? ⟨lb,k,ah⟩=ae (aI (ae ⟨W,0,ah⟩)))(hW:w.cell? ⟨W,2,ah⟩=ae (.chan (ae turn)))(hr:w.cell? ⟨rb,2,ah⟩=ae (aq af (all:Int))){id:Nat}{ops:Array aZ}(cH:gi.r.r.r.r.r.r.l=.region id ops au):
  Script aC S2 75 ops 9 (λi=>56+i) (GS lb lc n k W turn rb all) a w:=by
 have h1:a.tmps.getD 1 aO=aD (ae ⟨lb,0,ah⟩) n lc:=by cases hA;rfl
 have h10:a.tmps.getD 10 aO=aI (ae ⟨rb,0,ah⟩):=by cases hA;rfl
 have h13:a.tmps.getD 13 aO=aq af (k:Int):=h13;have hsz:a.tmps.size=106:=by cases hA;rfl
 clear hA;simp only[gi,lg,dL,f75,Code.l,Code.r,cN,Code.region.injEq]at cH;obtain⟨-,cH,-⟩:=cH;subst cH;have split:∀{P:Nat->aZ->Prop} {ops:Array aZ} (n:Nat),(∀i:Fin n,∀o,ops[i.1]? =ae o->P i.1 o)->∀(i:Nat) (o:aZ),i<n->ops[i]? =ae o->P i o:=λn h i o hi ho=>h ⟨i,hi⟩ o ho;refine⟨aN,?_,?_,λi j _ _ h=>by simpa using h,λi hi=>by rw[hsz];omega,?_,?_,λt=>by simp[S2],?_,λt o ht ho=>?_,aQ,?_⟩
 .intro i o ho;have hi:=(bF.1 ho).1;simp only[j9,fO,gK]at hi;match i,hi with
  |0,_|1,_|2,_|3,_|4,_|5,_|6,_|7,_|8,_|9,_=>(obtain rfl:=bj ho;simp)
 .intro i o hi ho;match i,hi with
  |0,_|1,_|2,_|3,_|4,_|5,_|6,_|7,_|8,_=>(obtain rfl:=bj ho;rfl)
 .intro i o hi ho;match i,hi with
  |0,_|1,_|2,_|3,_|4,_|5,_|6,_|7,_|8,_=>(obtain rfl:=bj ho;rfl)
 .intro i o hi ho;match i,hi with
  |0,_|1,_|2,_|3,_|4,_|5,_|6,_|7,_|8,_=>(obtain rfl:=bj ho;show iu aC S2 _ _=au;kernel_rfl)
 .intro i o a' hi ho eR dA;refine .inl λτ dd=>?_;have iA:(w.td τ dd).heap=w.heap:=rfl;generalize w.td τ dd=w1 at*;have e1:a'.tmps.getD 1 aO=aD (ae ⟨lb,0,ah⟩) n lc:=by rw[dA 1 (λj hj=>ai)];exact h1
  have e10:a'.tmps.getD 10 aO=aI (ae ⟨rb,0,ah⟩):=by rw[dA 10 (λj hj=>ai)];exact h10
  have e13:a'.tmps.getD 13 aO=aq af (k:Int):=by rw[dA 13 (λj hj=>ai)];exact h13
  have f1:=(zm iA ⟨lb,k,ah⟩).trans hl;have f2:=(zm iA ⟨W,2,ah⟩).trans hW;have f3:=(zm iA ⟨rb,2,ah⟩).trans hr;clear dA h1 h10 h13 hl hW hr;match i,hi with
  |0,_|1,_|2,_|3,_|4,_|5,_|6,_|7,_|8,_=>
   obtain rfl:=bj ho
   (try simp[fq,GS]at eR)
   simp[bT,go_sem,cS,dO,GS]at*;simp[*,ac9 w1 hk hn]
 .have:=(bF.1 ho).1;simp only[j9,fO,gK]at this;omega
 .intro listed hc hd;have c9:=hd _ rfl;have c8:=hc 8 _ ai rfl;have c6:=hc 6 _ ai rfl;have c5:=hc 5 _ ai rfl;have c4:=hc 4 _ ai rfl;have c3:=hc 3 _ ai rfl;have c2:=hc 2 _ ai rfl;clear hc hd;simp[fq]at c9 c8 c6 c5 c4 c3 c2;obtain⟨d6,d8⟩:=c9;have d7:=c8 d8;have d5:=c6 d6;have d4:=c5 d5;have d3:=c4 d4;have d2:=c3 d3;obtain⟨d0,d1⟩:=c2 d2;intro i hi;match i,hi with
  |0,_|1,_|2,_|3,_|4,_|5,_|6,_|7,_|8,_=>(simp[dO];assumption)
end
end
section
open Go Go.Conc Go.ConcN Go.RowKit
attribute [local go_sem] ba bf bH a8 bC bK aS aV
variable[Inhabited dc]
section
variable{K:PN}{w:aj}{cut:Bool}
structure Re(J:gS σ)(d:bp):Prop where
 P:d.P=aC
 base:d.base=J.n
 j:d.j=J.n
 facts:∀i,i<J.n->(⟨d.W i,2,ah⟩,.chan (ae (d.turn i)))∈d.facts i
theorem PGive.next(P:PGive J d K a0 t cut w)(hle:J.n<=t)(H:PSet J d K a0)(B:Re J d)(R:pC d (J.cP d.W) (λ_=>False) w (t+1) w'):mJ J d K a0 (t+1) cut w':=by have h:=PAt.resume P H B.j B.facts R;refine⟨ai,?_⟩;rw[J.Bc hle,show t+1-J.n=t-J.n+1 by omega];exact⟨h.size,h.old,h.c,h.res,h.r,h.s,h.o,λi hi=>h.eyes i hi⟩
theorem Nc{Stop:Ph->aB->List aB->aj->Prop}(H:PSet J d K a0)(B:Re J d)(hA:K.Is J d a)(hle:J.n<=t)(P:PGive J d K a0 t cut w)(hgo:(J.ar t).goes J.c=au)(h13:a.eval (.tmp 13)=aq af (((J.ar t).pick J.c:Nat):Int))
   (hQ:∀a' w',K.Is J d a'->mJ J d K a0 (t+1) cut w'->Q (.run (t+1) d) .normal a' w'):
  wpM aC au d.cs0 (JP aC S d.cs0 λd=>J.cP d.W) Stop U 75 gi.r.r.r.r.r.r Q (.run t d) a w:=by
 have TZ:(J.ar t).pick J.c<J.n:=AR.Be hgo;have hN:=λw' R=>PGive.next P hle H B (w':=w') R;have hl:=P.ll H _ TZ;have hW:=(P.eyes _ TZ).1;have hr:=cO P.r 2;have qj:(J.cP d.W).live ((J.ar t).pick J.c) t:=by
  refine⟨ai,?_⟩;have hm:(J.ar t).pick J.c∈(J.ar t).who J.c:=by have:=AR.Jz hgo;exact this
  unfold AR.who at hm;have:=(List.mem_filter.1 hm).2;unfold AR.ready at this;simp only[cR,decide_eq_true_eq]at this;exact this.1
 have yL:(J.cP d.W).sched (t+1)=(J.ar t).pick J.c:=by show(if t+1<=J.n then t+1-1 else(J.ar (t+1-1)).pick J.c)=_;rw[aU ai];rfl
 have Jv:(J.cP d.W).may (t+1):=hgo;refine M8 λb k fs hfn Jc hu hnext=>?_;have hseq:gi.r.r.r.r.r.r=.seq gi.r.r.r.r.r.r.l gi.r.r.r.r.r.r.r:=by simp only[gi,lg,dL,f75,Code.l,Code.r,cN]
 obtain⟨id,ops,Km⟩:∃id ops,gi.r.r.r.r.r.r.l=.region id ops au:=by simp only[gi,lg,dL,f75,Code.l,Code.r,cN];exact⟨_,_,rfl⟩
 have afC:=Kl (w:=w) hA h13 TZ H.n H.lc hl hW hr Km;rw[hseq];refine .pure (λ_=>bU) ?_;rw[Km];refine Ab iD Jc aQ (by rw[hfn];exact afC) ?_;have Lj:b.kind≠.early:=by rw[Jc];decide
 have HQ:=aA hQ;have HN:=aA hN;have HX:=aA hnext;have hP:=B.P;have hbase:=B.base;have hj:(J.ar t).pick J.c<d.j:=by rw[B.j];exact TZ
 clear hQ hN hnext P H afC hseq hl hr hW B hgo hfn hu;unfold PN.Is at hA HQ;generalize YV:K.cV J=cV at*;generalize Im:(J.ar t).pick J.c=kk at*;obtain⟨wk,tu,ha,wc,tc,hc,lb,lc,cb,res,ob,sb,rb⟩:=K;simp only at*;have hde:a.defers=[]:=by cases hA;rfl
 cases hA;simp only[gi,lg,dL,f75,Code.l,Code.r,cN,Code.region.injEq]at Km⊢;obtain⟨-,cH,-⟩:=Km;subst cH;simp only[Script.tmps,dx,List.range.loop,qX,List.foldl_nil,Nat.reduceAdd,GS];walk_nrm;refine .jump (K:=λi' cB dg a'=>∃t' d',i'=.run t' d'/\((t',d')=(t+1,d)/\(∃v,cB=Frame.finish _ v)/\dg=fs/\pC d (J.cP d.W) (λ_=>False) w (t+1) a')) (.inl ⟨_,.inl ⟨kk,_,hj,qj,yL,Jv,Vj hP (v:=.chan (ae d.come)) (x:=.tmp 62) (y:=.tmp 64) Lj rfl rfl rfl rfl dS (by simp[cS,goInt,hbase];omega) rfl rfl (λw=>by simp[go_sem,bT,cS,Act.put]) rfl rfl (λw=>by simp[go_sem,bT,cS,Act.put,dh]) (λw=>by simp[go_sem,bT,cS,Act.put]),rfl⟩,rfl⟩) ?_;rintro i' cB dg a' ⟨t',d',rfl,h1,⟨v,rfl⟩,rfl,hR⟩;simp only[Prod.mk.injEq]at h1;obtain⟨rfl,rfl⟩:=h1;rw[iB];walk_nrm;exact .pure (λ_=>bP) (HX.out _ _ _ (HQ.out _ _ (Ta.mk ..) (HN.out _ hR)))
end
end
section
open Go Go.Conc Go.ConcN Go.RowKit
variable[Inhabited dc]
section
variable{K:PN}{w:aj}{cut:Bool}
theorem Rf:lg=.block 0 (.loop (.block 1 gi)):=by simp only[gi,lg,dL,f75,Code.l,Code.r,cN]
theorem Rg:gi=.seq gi.l gi.r:=by simp only[gi,lg,dL,f75,Code.l,Code.r,cN]
theorem Nd{Stop:Ph->aB->List aB->aj->Prop}(hcs:NE (d.cs0))(hsm:J.c.most<=20000)(H:PSet J d K a0)(B:Re J d)(hA:K.Is J d a)(P:mJ J d K a0 t cut w)(ht:t<=J.n+J.c.most):
  wpM aC au d.cs0 (JP aC S d.cs0 λd=>J.cP d.W) Stop U 75 lg (λi' e a' w'=>e=.normal/\∃t',i'=.run t' d/\(J.ar t').goes J.c=aw/\K.Is J d a'/\mJ J d K a0 t' ((J.ar t').any J.c) w'/\t'<=J.n+J.c.most) (.run t d) a w:=by
 rw[Rf];refine cE (iV (λn i a w=>∃t cut,n=J.n+J.c.most-t/\i=.run t d/\K.Is J d a/\mJ J d K a0 t cut w/\t<=J.n+J.c.most) (n:=J.n+J.c.most-t) ⟨t,cut,rfl,rfl,hA,P,ht⟩ ?_);rintro n i a w ⟨t,cut,rfl,rfl,hA,P,ht⟩;refine cE ?_;rw[Rg];refine wpM_seq (fu (Rb hcs H hA P) ?_);rintro i' e a1 w1 ⟨rfl,rfl,Bb,P1,h12,gb,hgb,h11,hg⟩;simp only[bE];refine Rc hcs hsm H Bb P1 h12 h11 (λhno a2 w2 tT P2=>?_) λhgo a2 w2 tT P2 hsame ahB=>?_
 .simp only[gu,bE];exact⟨by trivial,t,rfl,hno,tT,P2,ht⟩
 .refine Na hcs hsm H tT P2 hgo ahB (λi hi=>?_) λa3 w3 Fc P3 h13=>?_
  .rw[←hg i hi];exact dr (w:=w1) (hsame gb hgb)
  .refine Nc H B Fc P2.le P3 hgo h13 λa4 w4 IA P4=>?_;simp only[gu,bE];have hlt:t-J.n<J.c.most:=(by have:=hgo;unfold AR.goes at this;simp only[cR,decide_eq_true_eq,gS.all]at this;exact this.2);have:=P2.le;exact⟨J.n+J.c.most- (t+1),ai,t+1,_,rfl,rfl,IA,P4,ai⟩
end
end
section
open Go Go.Conc Go.ConcN Go.RowKit
inductive Ko(lb lc n res rb q k W:Nat):Act->Prop
 |mk (u0 u2 u3 u4 u5 u7 u8 u9 nW nX mU u16 lK lL lM lN mV mX u23 u24 mY u26 lO u28 lQ lR mC u32 u33 mD mE mF mG mZ m9 nV oU oV pU u44 pV oX oY oZ o6 o7 o8 o9 sH sI ub ud wE wG wH wI wJ wK wL u64 wM wN AG AH AJ Cy Cz CB CE CG D8 D9 Ea Gz GA GC GD GF GG GH GI GJ GL GM GN GQ GR Q6 Q7 Q8 Q9 Ra zb ze zf zh zi zl:ay):Ko lb lc n res rb q k W {tmps:=#[u0,aD (ae ⟨lb,0,ah⟩) n lc,u2,u3,u4,u5,aI (ae ⟨res,0,ah⟩),u7,u8,u9,aI (ae ⟨rb,0,ah⟩),nW,nX,mU,aq af k,aI (ae ⟨W,0,ah⟩),u16,lK,lL,lM,lN,mV,mX,u23,u24,mY,u26,lO,u28,lQ,lR,mC,u32,u33,mD,mE,mF,mG,mZ,m9,nV,oU,oV,pU,u44,pV,oX,oY,oZ,o6,o7,o8,o9,sH,sI,ub,ud,wE,wG,wH,wI,wJ,wK,wL,u64,wM,wN,aD (ae ⟨lb,0,ah⟩) n lc,aq af n,aq af q,AG,AH,AJ,Cy,Cz,CB,CE,CG,D8,D9,Ea,Gz,GA,GC,GD,GF,GG,GH,GI,GJ,GL,GM,GN,GQ,GR,Q6,Q7,Q8,Q9,Ra,zb,ze,zf,zh,zi,zl],defers:=[]}
inductive zt(lb lc n res rb q:Nat):Act->Prop
 |mk (u0 u2 u3 u4 u5 u7 u8 u9 nW nX mU mA mB u16 lK lL lM lN mV mX u23 u24 mY u26 lO u28 lQ lR mC u32 u33 mD mE mF mG mZ m9 nV oU oV pU u44 pV oX oY oZ o6 o7 o8 o9 sH sI ub ud wE wG wH wI wJ wK wL u64 wM wN AG AH AJ Cy Cz CB CE CG D8 D9 Ea Gz GA GC GD GF GG GH GI GJ GL GM GN GQ GR Q6 Q7 Q8 Q9 Ra zb ze zf zh zi zl:ay):zt lb lc n res rb q {tmps:=#[u0,aD (ae ⟨lb,0,ah⟩) n lc,u2,u3,u4,u5,aI (ae ⟨res,0,ah⟩),u7,u8,u9,aI (ae ⟨rb,0,ah⟩),nW,nX,mU,mA,mB,u16,lK,lL,lM,lN,mV,mX,u23,u24,mY,u26,lO,u28,lQ,lR,mC,u32,u33,mD,mE,mF,mG,mZ,m9,nV,oU,oV,pU,u44,pV,oX,oY,oZ,o6,o7,o8,o9,sH,sI,ub,ud,wE,wG,wH,wI,wJ,wK,wL,u64,wM,wN,aD (ae ⟨lb,0,ah⟩) n lc,aq af n,aq af q,AG,AH,AJ,Cy,Cz,CB,CE,CG,D8,D9,Ea,Gz,GA,GC,GD,GF,GG,GH,GI,GJ,GL,GM,GN,GQ,GR,Q6,Q7,Q8,Q9,Ra,zb,ze,zf,zh,zi,zl],defers:=[]}
noncomputable def pdColl:Code:=gl.l.r.l.l.r.r.l.l
section
theorem sg{w:aj}(t ty e:bq)(i:TypeInfo)(ht:P.underlying t=ae (.slice e))(hi:P.info? e=ae i)(a:Option aP)(c:Nat):(Builtin.append_ #[t,t] ty #[aD ah 0 0,aD a 0 c]).run P w=.ok (aD ah 0 0) w:=by cases a<;>simp[Builtin.append_,run_underlying ht,sizeOf,typeInfo,hi,Builtin.lenOf,Builtin.firstCells,loadCells,loadCellsFrom]
theorem zu{ops:Array aZ}{o:aZ}{w:aj}{K:Act->aj->Prop}{Q:Exit->Act->aj->Prop}(hgd:o.guard=ah)(s x:Operand)(t:bq)
  (ho:o.op=.call {callee:=.builtin .append,args:=#[s,x],argTypes:=#[t,t]})(e:bq)(i:TypeInfo)(ht:P.underlying t=ae (.slice e))(hi:P.info? e=ae i)
  (hs:a.eval s=aD ah 0 0)(ad:Option aP)(c:Nat)(hx:a.eval x=aD ad 0 c)(h:K (a.put o.dst (aD ah 0 0)) w):if dF o (dW ops a.tmps)=au then Oper.wp P o a w K Q else E:=by
 have hw:dF o (dW ops a.tmps)=au:=by simp[dF,hgd]
 rw[aX hw];have hrun:=sg (P:=P) (w:=w) t o.type e i ht hi ad c;unfold Oper.wp;simp[bT,ho,resolve,invoke,builtin,hs,hx,hrun,Result.andThen];exact h
end
theorem Pp:(prog.info? 45).map (λi=>(i.zero,i.size,i.bytes))=ae (ae (aD ah 0 0),1,24):=aQ
theorem Vn:(prog.info? 108).map (λi=>(i.zero,i.size,i.bytes))=ae (ae (.agg #[aq af 0,aq af 0,aq af 0]),3,24):=aQ
section
variable{n res q W:Nat}{w:aj}
theorem Rh(hA:Ko lb lc n res rb q k W a){base:Nat}{cs:List ay}(hm:m<100000)(c0:w.cell? ⟨rb,0,ah⟩=ae va)(z0:w.frozen? ⟨rb,0,ah⟩=aw)(c9:w.cell? ⟨W,9,ah⟩=ae (aD sa 0 sc))(hne:rb≠W)
  (hbase:base<=w.heap.size)(hrow:w.ownsRow base 45 1 va m cs)(hr1:ae rb≠va.ownBlock)(hr2:ae W≠va.ownBlock):
  (pdColl.r.l).wp aC (ue λa' w'=>Ko lb lc n res rb q k W a'/\∃(g cap:Nat) (w1:aj),w1.ownsRow base 45 1 (aD (ae ⟨g,0,ah⟩) (m+1) cap) (m+1) (cs++[aD ah 0 0])/\w.heap.size<=w1.heap.size/\(∀b,b<w.heap.size->ae b≠va.ownBlock->w1.heap[b]? =w.heap[b]?)/\(va.ownBlock=ae g\/w.heap.size<=g)/\Alike (w1.setCell ⟨rb,0,ah⟩ (aD (ae ⟨g,0,ah⟩) (m+1) cap)) w') a w:=by
 cases hA;have Av:=ez w _ c0;have Uk:=ez w _ c9;simp only at Av Uk;obtain⟨ie,Dk,Ir,Iu,Iw⟩:=kq Pp;obtain⟨ia,hia,-,-,-⟩:=kq Gq;simp only[pdColl,gl,dL,f75,Code.l,Code.r,cN];refine bt.start (λw'=>w'.cell? ⟨rb,0,ah⟩=ae va/\w'.cell? ⟨W,9,ah⟩=ae (aD sa 0 sc)) [10] aQ ?_ (λaF=>?_)
 .exact aae
 refine bt.tv 0 aF ?_;refine bt.tt 1 aF ?_;refine bt.tv 2 aF ?_;refine bt.tv 3 aF ?_;refine bt.tv 4 aF ?_;refine bt.tt 5 aF ?_;refine bt.to 6 (λK hK=>?_)
 (refine zu cQ (.const (aD ah 0 0)) (.tmp 79) _ cQ 48 ia underlying45 hia cQ sa sc cQ ?_)
 refine hK.out _ _ (λ_=>?_) (λaF=>?_)
 .exact aae
 replace aF:=aF aN;clear hK K;try refine pt ?_
 refine bt.to 7 (λK hK=>?_);go_simp;refine hK.out _ _ (λ_=>?_) (λaF=>?_)
 .exact aae
 replace aF:=aF aN;clear hK K;try refine pt ?_
 refine bt.to 8 (λK hK=>?_)
 (refine step_append_lies _ cQ (.tmp 75) (.tmp 81) _ cQ base 45 ie _ 1 24 underlying28 Dk Ir Iu Iw rfl ai va m cs cQ ((hrow.alloc _).drew) ⟨w.heap.size,0,ah⟩ 1 1 [aD ah 0 0] cQ cQ (pd (cs:=#[aD ah 0 0]) (t:=45) (fr:=(0,0)) (gN w _)) pI ai jk ai dp (w.heap.size+1) aJ ?_;intro gg cap w1 hown1 hgrow hat CH;have hs1:=hgrow.size;simp only[rY,cM]at hs1;have hz9:w1.frozen? ⟨rb,0,ah⟩=aw:=(by rw[hgrow.frozen_far _ dp hr1];first|(simp[*];done)|(go_simp;done)))
 refine hK.out _ _ (λ_=>?_) (λaF=>?_)
 .exact aae
 replace aF:=aF aN;clear hK K;try refine pt ?_
 refine bt.tv 9 aF ?_;refine bt.to 10 (λK hK=>?_);go_simp;refine hK.out _ _ (λhF=>aT hF aN) (λ_=>?_);clear hK K;try refine pt ?_
 refine bt.done aQ ?_ _;refine⟨Ko.mk ..,gg,cap,w1,hown1,ai,λb hb hne=>?_,hat.imp id (λe=>ai),⟨rfl,rfl,rfl⟩⟩;rw[hgrow.block b dp hne];show(w.alloc _).heap[b]? =_;simp only[←dt,dz];rw[aU ai]
theorem own_same{w:aj}{base:Nat}{n:Nat}(h:w.ownsRow base e s v n xs)(hw:∀g,v.ownBlock=ae g->w'.heap[g]? =w.heap[g]?):w'.ownsRow base e s v n xs:=by refine⟨h.1,h.2.imp id ?_⟩;rintro⟨g,cap,cur,rfl,h1,h2,h3⟩;exact⟨g,cap,cur,rfl,h1,by rw[hw g rfl];exact h2,h3⟩
theorem own_lt{w:aj}{base:Nat}{n:Nat}(h:w.ownsRow base e s v n xs){g:Nat}(hg:v.ownBlock=ae g):g<w.heap.size:=by
 rcases h.2 with⟨rfl,_⟩|⟨g',cap,cur,rfl,h1,h2,_⟩
 .cases hg
 .obtain rfl:=bj hg;exact(bF.1 h2).1
theorem Rj(hA:Ko lb lc n res rb q k W a){base len:Nat}{cs news:List ay}(hm:m<100000)(c0:w.cell? ⟨rb,0,ah⟩=ae va)(z0:w.frozen? ⟨rb,0,ah⟩=aw)(c9:w.cell? ⟨W,9,ah⟩=ae (aD (ae ⟨sb,0,ah⟩) len sc))(hne:rb≠W)
  (hlen:0<len)(aiE:len<100000)(hl:news.length=len*9)(hnews:∀j u,news[j]? =ae u->w.cell? ⟨sb,j,ah⟩=ae u)(h1:∀u∈news,u.oneCell'=au)
  (hbase:base<=w.heap.size)(hrow:w.ownsRow base 45 1 va m cs)(hr1:ae rb≠va.ownBlock)(hr2:ae W≠va.ownBlock):
  (pdColl.r.l).wp aC (ue λa' w'=>Ko lb lc n res rb q k W a'/\∃(g cap kN:Nat) (w1:aj),w1.ownsRow base 45 1 (aD (ae ⟨g,0,ah⟩) (m+1) cap) (m+1) (cs++[aD (ae ⟨w.heap.size,0,ah⟩) len kN])/\w1.ownsRow 0 48 9 (aD (ae ⟨w.heap.size,0,ah⟩) len kN) len news/\
   w.heap.size<w1.heap.size/\(∀b,b<w.heap.size->ae b≠va.ownBlock->w1.heap[b]? =w.heap[b]?)/\(va.ownBlock=ae g\/w.heap.size<g)/\Alike (w1.setCell ⟨rb,0,ah⟩ (aD (ae ⟨g,0,ah⟩) (m+1) cap)) w') a w:=by
 cases hA;have Av:=ez w _ c0;have Uk:=ez w _ c9;simp only at Av Uk;obtain⟨ie,Dk,Ir,Iu,Iw⟩:=kq Pp;obtain⟨ia,hia,za0,za1,za2⟩:=kq Gq;have Mh:∀j,(⟨sb,0,ah⟩:aP).add j=⟨sb,j,ah⟩:=λj=>by unfold Addr.add;split<;>simp_all
 have hvl:∀g,va.ownBlock=ae g->g<w.heap.size:=λg hg=>own_lt hrow hg;simp only[pdColl,gl,dL,f75,Code.l,Code.r,cN];refine bt.start (λw'=>w'.cell? ⟨rb,0,ah⟩=ae va/\w'.cell? ⟨W,9,ah⟩=ae (aD (ae ⟨sb,0,ah⟩) len sc)) [10] aQ ?_ (λaF=>?_)
 .exact aaf
 refine bt.tv 0 aF ?_;refine bt.tt 1 aF ?_;refine bt.tv 2 aF ?_;refine bt.tv 3 aF ?_;refine bt.tv 4 aF ?_;refine bt.tt 5 aF ?_;refine bt.to 6 (λK hK=>?_)
 (refine step_append_lies _ cQ (.const (aD ah 0 0)) (.tmp 79) _ cQ 0 48 ia _ 9 104 underlying45 hia za0 za1 za2 rfl ai (aD ah 0 0) 0 [] cQ ⟨aJ,.inl ⟨rfl,rfl⟩⟩ ⟨sb,0,ah⟩ len sc news cQ hl (λj u hu=>by rw[Mh];first|exact hnews j u hu|exact(World.cell?_drew _ _).trans (hnews j u hu)) h1 hlen jk ai (bQ _) w.heap.size aJ ?_;intro g2 kN w1 hown2 wR ahC CH;obtain rfl:g2=w.heap.size:=(by(rcases ahC with h|h;cases h;exact h));have hs1:=wR.size;simp only[rY]at hs1;have ai5:rb<w1.heap.size:=ai;have ai6:W<w1.heap.size:=ai;simp only[eB,kU]at hown2;have hz1:w1.frozen? ⟨rb,0,ah⟩=aw:=(by rw[wR.frozen_far _ dp (by simp[iE])];first|(simp[*];done)|(go_simp;done));have c01:w1.cell? ⟨rb,0,ah⟩=ae va:=(by rw[wR.cell_far _ dp (by simp[iE])];first|(simp[*];done)|(go_simp;done));have c91:w1.cell? ⟨W,9,ah⟩=ae (aD (ae ⟨sb,0,ah⟩) len sc):=(by rw[wR.cell_far _ dp (by simp[iE])];first|(simp[*];done)|(go_simp;done)))
 refine hK.out _ _ (λ_=>?_) (λaF=>?_)
 .exact aaf
 replace aF:=aF aN;clear hK K;try refine pt ?_
 refine bt.to 7 (λK hK=>?_);go_simp;refine hK.out _ _ (λ_=>?_) (λaF=>?_)
 .exact aaf
 replace aF:=aF aN;clear hK K;try refine pt ?_
 refine bt.to 8 (λK hK=>?_)
 (refine step_append_lies _ cQ (.tmp 75) (.tmp 81) _ cQ base 45 ie _ 1 24 underlying28 Dk Ir Iu Iw rfl ai va m cs cQ (own_same hrow (λg hg=>by have hx:=hvl g hg;show(w1.heap.push _)[g]? =_;rw[dz,aU ai,wR.block g (by simp;exact hx) (by simp[iE])];rfl)) ⟨w1.heap.size,0,ah⟩ 1 1 [aD (ae ⟨w.heap.size,0,ah⟩) len kN] cQ cQ (pd (cs:=#[aD (ae ⟨w.heap.size,0,ah⟩) len kN]) (t:=45) (fr:=(0,0)) (gN w1 _)) pI ai jk ai dp (w1.heap.size+1) aJ ?_;intro gg cap w3 zQ hgrow hat ai7;have hs3:=hgrow.size;simp only[rY,cM]at hs3;have hz9:w3.frozen? ⟨rb,0,ah⟩=aw:=(by rw[hgrow.frozen_far _ dp hr1];first|(simp[*];done)|(go_simp;done)))
 refine hK.out _ _ (λ_=>?_) (λaF=>?_)
 .exact aaf
 replace aF:=aF aN;clear hK K;try refine pt ?_
 refine bt.tv 9 aF ?_;refine bt.to 10 (λK hK=>?_);go_simp;refine hK.out _ _ (λhF=>aT hF aN) (λ_=>?_);clear hK K;try refine pt ?_
 refine bt.done aQ ?_ _;have ahD:ae w.heap.size≠va.ownBlock:=λe=>by have:=hvl _ e.symm;omega
 have MA:∀b,b<w1.heap.size->ae b≠va.ownBlock->w3.heap[b]? =w1.heap[b]? :=λb hb hne=>by rw[hgrow.block b dp hne];show(w1.heap.push _)[b]? =_;rw[dz,aU ai]
 refine⟨Ko.mk ..,gg,cap,kN,w3,zQ,own_same hown2 (λg hg=>?_),ai,λb hb hne=>?_,hat.imp id (λe=>ai),⟨rfl,rfl,rfl⟩⟩
 .obtain rfl:w.heap.size=g:=by simpa[iE]using hg
  exact MA _ CH ahD
 .rw[MA b ai hne,wR.block b (by simp;exact hb) (by simp[iE])];rfl
end
section
variable{n res q W:Nat}{w:aj}
theorem Rl(hA:Ko lb lc n res rb q k W a){base:Nat}{cs:List ay}(hm:m<100000)(c1:w.cell? ⟨rb,1,ah⟩=ae vo)(z1:w.frozen? ⟨rb,1,ah⟩=aw)(c7:w.cell? ⟨W,7,ah⟩=ae (aq af be))(c8:w.cell? ⟨W,8,ah⟩=ae (aq af ow))(hne:rb≠W)
  (hbase:base<=w.heap.size)(hrow:w.ownsRow base 108 3 vo m cs)(hr1:ae rb≠vo.ownBlock)(hr2:ae W≠vo.ownBlock):
  (Code.region 20 (match pdColl.r.r.r with|.cond _ (.region _ o _) _=>o|_=> #[]) au).wp aC (ue λa' w'=>Ko lb lc n res rb q k W a'/\∃(g cap:Nat) (w1:aj),w1.ownsRow base 108 3 (aD (ae ⟨g,0,ah⟩) (m+1) cap) (m+1) (cs++[aq af k,aq af be,aq af ow])/\w.heap.size<=w1.heap.size/\(∀b,b<w.heap.size->ae b≠vo.ownBlock->w1.heap[b]? =w.heap[b]?)/\(vo.ownBlock=ae g\/w.heap.size<=g)/\Alike (w1.setCell ⟨rb,1,ah⟩ (aD (ae ⟨g,0,ah⟩) (m+1) cap)) w') a w:=by
 cases hA;have Av:=ez w _ c1;have Uk:=ez w _ c7;simp only at Av Uk;obtain⟨ie,Dk,Ir,Iu,Iw⟩:=kq Vn;simp only[pdColl,gl,dL,f75,Code.l,Code.r,cN];refine bt.start (λw'=>w'.cell? ⟨rb,1,ah⟩=ae vo/\w'.cell? ⟨W,7,ah⟩=ae (aq af be)/\w'.cell? ⟨W,8,ah⟩=ae (aq af ow)) [15] aQ ?_ (λaF=>?_)
 .exact Vo
 refine bt.tv 0 aF ?_;refine bt.tt 1 aF ?_;refine bt.tv 2 aF ?_;refine bt.tv 3 aF ?_;refine bt.tv 4 aF ?_;refine bt.tv 5 aF ?_;refine bt.tt 6 aF ?_;refine bt.tv 7 aF ?_;refine bt.tv 8 aF ?_;refine bt.tv 9 aF ?_;refine bt.tt 10 aF ?_;refine bt.tv 11 aF ?_;refine bt.to 12 (λK hK=>?_);go_simp;refine hK.out _ _ (λ_=>?_) (λaF=>?_)
 .exact Vo
 replace aF:=aF aN;clear hK K;try refine pt ?_
 refine bt.to 13 (λK hK=>?_)
 (refine step_append_lies _ cQ (.tmp 90) (.tmp 101) _ cQ base 108 ie _ 3 24 underlying29 Dk Ir Iu Iw rfl ai vo m cs cQ ((hrow.alloc _).drew) ⟨w.heap.size,0,ah⟩ 1 1 [aq af k,aq af be,aq af ow] cQ cQ (pd (cs:=#[aq af k,aq af be,aq af ow]) (t:=108) (fr:=(0,0)) (gN w _)) pI ai jk ai dp (w.heap.size+1) aJ ?_;intro gg cap w1 hown1 hgrow hat CH;have hs1:=hgrow.size;simp only[rY,cM]at hs1;have hz9:w1.frozen? ⟨rb,1,ah⟩=aw:=(by rw[hgrow.frozen_far _ dp hr1];first|(simp[*];done)|(go_simp;done)))
 refine hK.out _ _ (λ_=>?_) (λaF=>?_)
 .exact Vo
 replace aF:=aF aN;clear hK K;try refine pt ?_
 refine bt.tv 14 aF ?_;refine bt.to 15 (λK hK=>?_);go_simp;refine hK.out _ _ (λhF=>aT hF aN) (λ_=>?_);clear hK K;try refine pt ?_
 refine bt.done aQ ?_ _;refine⟨Ko.mk ..,gg,cap,w1,hown1,ai,λb hb hne=>?_,hat.imp id (λe=>ai),⟨rfl,rfl,rfl⟩⟩;rw[hgrow.block b dp hne];show(w.alloc _).heap[b]? =_;simp only[←dt,dz];rw[aU ai]
end
end
section
open Go Go.Conc Go.ConcN Go.RowKit
attribute [local go_sem] ba bf bH a8 bC bK aS aV
section
theorem Vp{w:aj}{g cap cap':Nat}{l:List my}(h:AnsAt w (aD (ae ⟨b,0,ah⟩) l.length cap) l)(hc:∀j,j<l.length*9->w'.cell? ⟨g,j,ah⟩=w.cell? ⟨b,j,ah⟩)
  (hs:∀j y m e',j<9*l.length->w.cell? ⟨b,j,ah⟩=ae (aD (ae y) m e')->∀z:aP,z.block=y.block->w'.cell? z=w.cell? z):AnsAt w' (aD (ae ⟨g,0,ah⟩) l.length cap') l:=by
 obtain⟨a,c,e,h⟩:=h;simp only[uj]at e;obtain⟨e1,-,-⟩:=e;refine⟨_,cap',rfl,λi x hx=>⟨g,rfl,?_⟩⟩;obtain⟨b',hb',A⟩:=h i x hx;rw[←e1]at hb';obtain rfl:b=b':=by simpa using hb'
 have Uu:i<l.length:=(eX.1 hx).1;have hcc:∀j,j<9->w'.cell? ⟨g,9*i+j,ah⟩=w.cell? ⟨b,9*i+j,ah⟩:=λj hj=>hc _ ai;refine⟨(hcc 0 ai).trans A.c0,(hcc 1 ai).trans A.c1,(hcc 2 ai).trans A.c2,(hcc 3 ai).trans A.c3,(hcc 4 ai).trans A.c4,(hcc 5 ai).trans A.c5,(hcc 6 ai).trans A.c6,?_,?_⟩
 .obtain⟨v,h2,h3⟩:=A.c7;exact⟨v,(hcc 7 ai).trans h2,h3.same λx' n e e1 z hz=>hs (9*i+7) x' n e ai (by rw[h2,e1]) z hz⟩
 .obtain⟨v,h2,h3⟩:=A.c8;exact⟨v,(hcc 8 ai).trans h2,h3.same λx' n e e1 z hz=>hs (9*i+8) x' n e ai (by rw[h2,e1]) z hz⟩
theorem Pq{w:aj}{cap:Nat}{l:List my}(h:AnsAt w (aD (ae ⟨b,0,ah⟩) l.length cap) l)(hj:j<l.length*9):∃u,w.cell? ⟨b,j,ah⟩=ae u/\u.oneCell'=au:=by
 obtain⟨a,c,e,h⟩:=h;simp only[uj]at e;obtain⟨e1,-,-⟩:=e;have hi:j / 9<l.length:=ai;obtain⟨b',hb',A⟩:=h (j / 9) _ (eQ hi);rw[←e1]at hb';obtain rfl:b=b':=by simpa using hb'
 have hj9:j=9*(j / 9) +j % 9:=ai;have hlt:j % 9<9:=Nat.mod_lt _ ai;generalize j / 9=q at*;generalize j % 9=r at*;subst hj9;match r,hlt with
 |0,_=>exact⟨_,A.c0,rfl⟩
 |1,_=>exact⟨_,A.c1,rfl⟩
 |2,_=>exact⟨_,A.c2,rfl⟩
 |3,_=>exact⟨_,A.c3,rfl⟩
 |4,_=>exact⟨_,A.c4,rfl⟩
 |5,_=>exact⟨_,A.c5,rfl⟩
 |6,_=>exact⟨_,A.c6,rfl⟩
 |7,_=>obtain⟨v,h2,⟨_,_,rfl,_⟩⟩:=A.c7;exact⟨_,h2,rfl⟩
 |8,_=>obtain⟨v,h2,⟨_,_,rfl,_⟩⟩:=A.c8;exact⟨_,h2,rfl⟩
def eU(x:Nat->AW σ)(q:Nat):List (Nat×Nat×Nat):=(dx q).filterMap λi=>(x i).now.map λp=>(i,p.1,p.2.1)
def lh(l:List (Nat×Nat×Nat)):List ay:=l.flatMap λp=>[aq af p.1,aq af p.2.1,aq af p.2.2]
theorem Ae(x:Nat->AW σ)(q:Nat):eU x (q+1)=eU x q++match(x q).now with|some p=>[(q,p.1,p.2.1)]|none=>[]:=by unfold eU;rw[tD,List.filterMap_append];congr 1;cases e:(x q).now<;>simp[e]
theorem Rm(x:Nat->AW σ)(q:Nat):(eU x q).length<=q:=by unfold eU;exact dm (List.length_filterMap_le _ _) aJ
structure CollIn(n lb rb:Nat)(W:Nat->Nat)(x:Nat->AW σ)(w0:aj):Prop where
 n8:n<=8
 hl:∀i,i<n->w0.cell? ⟨lb,i,ah⟩=ae (aI (ae ⟨W i,0,ah⟩))
 hlb:lb≠rb
 wr:∀i,i<n->∃dn,WRm w0 (W i) (x i) dn
 pub:∀i,i<n->∀b,gF w0 (W i) b->b≠rb/\b<w0.heap.size
 rbl:rb<w0.heap.size
 got:∀i,i<n->(x i).got.length<100000
 pos:∀i b o p,(x i).now=ae (b,o,p)->0<b
structure CollAt(rb all:Nat)(cut:Bool)(W:Nat->Nat)(x:Nat->AW σ)(w0:aj)(q p:Nat)(w:aj):Prop where
 size:w0.heap.size<=w.heap.size
 old:∀b,b<w0.heap.size->b≠rb->w.heap[b]? =w0.heap[b]?
 ex:∃va vo uR,w.heap[rb]? =ae (aK #[va,vo,aq af all,.bool cut] 31 (0,0))/\w.ownsRow w0.heap.size 45 1 va q uR/\w.ownsRow w0.heap.size 108 3 vo (eU x p).length (lh (eU x p))/\(∀g,va.ownBlock=ae g->vo.ownBlock≠ae g)/\
  ∀i,i<q->∃sl,uR[i]? =ae sl/\AnsAt w sl (x i).got/\(∀g,sl.ownBlock=ae g->w0.heap.size<=g/\g<w.heap.size/\va.ownBlock≠ae g/\vo.ownBlock≠ae g)/\∀b,cC w sl b->sl.ownBlock=ae b\/gF w0 (W i) b
variable{n all q p:Nat}{cut:Bool}{w:aj}
theorem afD{l:List my}(h:AnsAt w v l):∃a c,v=aD a l.length c:=by obtain⟨a,c,h,_⟩:=h;exact⟨a,c,h⟩
theorem fK{w:aj}{base:Nat}{n:Nat}(h:w.ownsRow base e s v n xs){g:Nat}(hg:v.ownBlock=ae g):base<=g:=by
 rcases h.2 with⟨rfl,_⟩|⟨g',cap,cur,rfl,h1,h2,_⟩
 .cases hg
 .obtain rfl:=bj hg;exact h1
theorem CollAt.keep(I:CollIn n lb rb W x w0){i:Nat}(hi:i<n){l:List my}(h:AnsAt w sl l)(hs:∀b,cC w sl b->sl.ownBlock=ae b\/gF w0 (W i) b)(hown:∀g,sl.ownBlock=ae g->w1.heap[g]? =w.heap[g]?)(hold:∀b,b<w0.heap.size->b≠rb->w1.heap[b]? =w.heap[b]?):
  AnsAt w1 sl l/\∀b,cC w1 sl b->sl.ownBlock=ae b\/gF w0 (W i) b:=by
 have hb:∀b,cC w sl b->w1.heap[b]? =w.heap[b]? :=λb hb=>by
  rcases hs b hb with h|h
  .exact hown b h
  .obtain⟨h1,h2⟩:=I.pub i hi b h;exact hold b h2 h1
 refine⟨gV (λx hx=>dr (w:=w) (hb _ hx)) h,λb h=>hs b ?_⟩;exact(sblocks_same (w:=w) (w':=w1) (sl:=sl) (λx n e h1 o=>dr (w:=w) (hb x.block ⟨x,n,e,h1,.inl rfl⟩)) b).1 h
theorem CollAt.answer(C:CollAt rb all cut W x w0 q p w)(I:CollIn n lb rb W x w0)(hq:q<n)(hr:w.heap[rb]? =ae (aK #[va,vo,aq af all,.bool cut] 31 (0,0)))(h1:w.ownsRow w0.heap.size 45 1 va q uR)(h2:w.ownsRow w0.heap.size 108 3 vo (eU x p).length (lh (eU x p)))(h3:∀g,va.ownBlock=ae g->vo.ownBlock≠ae g)
  (h4:∀i,i<q->∃sl,uR[i]? =ae sl/\AnsAt w sl (x i).got/\(∀g,sl.ownBlock=ae g->w0.heap.size<=g/\g<w.heap.size/\va.ownBlock≠ae g/\vo.ownBlock≠ae g)/\∀b,cC w sl b->sl.ownBlock=ae b\/gF w0 (W i) b)
  {g cap:Nat}(hown:w1.ownsRow w0.heap.size 45 1 (aD (ae ⟨g,0,ah⟩) (q+1) cap) (q+1) (uR++[sln]))(hsz:w.heap.size<=w1.heap.size)(hold:∀b,b<w.heap.size->ae b≠va.ownBlock->w1.heap[b]? =w.heap[b]?)(hg:va.ownBlock=ae g\/w.heap.size<=g)
  (hnew:∀gn,sln.ownBlock=ae gn->w.heap.size<=gn/\gn<w1.heap.size/\gn≠g)(lq:AnsAt w1 sln (x q).got)(hblk:∀b,cC w1 sln b->sln.ownBlock=ae b\/gF w0 (W q) b):
  CollAt rb all cut W x w0 (q+1) p (w1.setCell ⟨rb,0,ah⟩ (aD (ae ⟨g,0,ah⟩) (q+1) cap)):=by
 have Av:=I.rbl;have Rn:=C.size;have Ps:∀b,b<w0.heap.size->ae b≠va.ownBlock:=λb hb e=>by have:=fK h1 e.symm;omega
 have YZ:∀gg,vo.ownBlock=ae gg->w0.heap.size<=gg/\gg<w.heap.size:=λgg hg=>⟨fK h2 hg,own_lt h2 hg⟩;have dA:∀b,b≠rb->(w1.setCell ⟨rb,0,ah⟩ (aD (ae ⟨g,0,ah⟩) (q+1) cap)).heap[b]? =w1.heap[b]? :=λb hb=>az hb _;have hr1:w1.heap[rb]? =w.heap[rb]? :=hold rb ai (Ps rb Av);have hgb:=fK hown (g:=g) rfl;refine⟨by simp only[fF,xi];omega,λb hb hne=>by rw[dA b hne,hold b ai (Ps b hb)];exact C.old b hb hne,aD (ae ⟨g,0,ah⟩) (q+1) cap,vo,uR++[sln],?_,own_same hown (λgg xf=>?_),own_same h2 (λgg xf=>?_),λgg xf e=>?_,λi hi=>?_⟩
 .rw[aH (by rw[hr1];exact hr)];rfl
 .obtain rfl:g=gg:=by simpa[iE]using xf
  exact dA _ ai
 .obtain⟨h5,h6⟩:=YZ gg xf;rw[dA gg ai];exact hold gg h6 λe=>h3 gg e.symm xf
 .obtain rfl:g=gg:=by simpa[iE]using xf
  rcases hg with h|h
  .exact h3 _ h e
  .have:=(YZ _ e).2;omega
 .rcases ji i q with hlt|CO
  .obtain⟨sl,h5,h6,h7,h8⟩:=h4 i hlt;obtain⟨h9,h10⟩:=CollAt.keep (w1:=w1.setCell ⟨rb,0,ah⟩ (aD (ae ⟨g,0,ah⟩) (q+1) cap)) I ai h6 h8 (λgg xf=>by obtain⟨a1,a2,a3,a4⟩:=h7 gg xf;rw[dA gg ai];exact hold gg a2 (bZ a3)) (λb hb hne=>by rw[dA b hne];exact hold b ai (Ps b hb));refine⟨sl,by rw[lz (eX.1 h5).1];exact h5,h9,λgg xf=>?_,h10⟩;obtain⟨a1,a2,a3,a4⟩:=h7 gg xf;refine⟨a1,by simp only[fF,xi];omega,λe=>?_,a4⟩;obtain rfl:g=gg:=(by simpa[iE]using e);rcases hg with h|h
   .exact a3 h
   .omega
  .obtain rfl:i=q:=ai;have hl:uR.length=i:=(by have:=h1.1;omega);obtain⟨h9,h10⟩:=CollAt.keep (w1:=w1.setCell ⟨rb,0,ah⟩ (aD (ae ⟨g,0,ah⟩) (i+1) cap)) I hq lq hblk (λgg xf=>dA gg (by have:=(hnew gg xf).1;omega)) (λb hb hne=>dA b hne);refine⟨sln,by rw[nI ai,hl,Nat.sub_self];rfl,h9,λgg xf=>?_,h10⟩;obtain⟨a1,a2,a3⟩:=hnew gg xf;refine⟨ai,by simp only[fF,xi];omega,λe=>a3 (by simpa[iE]using e.symm),λe=>?_⟩;have:=(YZ _ e).2;omega
theorem CollAt.opened(C:CollAt rb all cut W x w0 q p w)(I:CollIn n lb rb W x w0)(C0:q<=n)(hr:w.heap[rb]? =ae (aK #[va,vo,aq af all,.bool cut] 31 (0,0)))(h1:w.ownsRow w0.heap.size 45 1 va q uR)(h2:w.ownsRow w0.heap.size 108 3 vo (eU x p).length (lh (eU x p)))(h3:∀g,va.ownBlock=ae g->vo.ownBlock≠ae g)
  (h4:∀i,i<q->∃sl,uR[i]? =ae sl/\AnsAt w sl (x i).got/\(∀g,sl.ownBlock=ae g->w0.heap.size<=g/\g<w.heap.size/\va.ownBlock≠ae g/\vo.ownBlock≠ae g)/\∀b,cC w sl b->sl.ownBlock=ae b\/gF w0 (W i) b)
  {g cap:Nat}(hnow:(x p).now=ae (be,ow,pp))(hown:w1.ownsRow w0.heap.size 108 3 (aD (ae ⟨g,0,ah⟩) ((eU x p).length+1) cap) ((eU x p).length+1) (lh (eU x p) ++[aq af p,aq af be,aq af ow]))(hsz:w.heap.size<=w1.heap.size)(hold:∀b,b<w.heap.size->ae b≠vo.ownBlock->w1.heap[b]? =w.heap[b]?)(hg:vo.ownBlock=ae g\/w.heap.size<=g):
  CollAt rb all cut W x w0 q (p+1) (w1.setCell ⟨rb,1,ah⟩ (aD (ae ⟨g,0,ah⟩) ((eU x p).length+1) cap)):=by
 have Av:=I.rbl;have Rn:=C.size;have YZ:∀b,b<w0.heap.size->ae b≠vo.ownBlock:=λb hb e=>by have:=fK h2 e.symm;omega
 have Ps:∀gg,va.ownBlock=ae gg->w0.heap.size<=gg/\gg<w.heap.size:=λgg hg=>⟨fK h1 hg,own_lt h1 hg⟩;have dA:∀b,b≠rb->(w1.setCell ⟨rb,1,ah⟩ (aD (ae ⟨g,0,ah⟩) ((eU x p).length+1) cap)).heap[b]? =w1.heap[b]? :=λb hb=>az hb _;have hr1:w1.heap[rb]? =w.heap[rb]? :=hold rb ai (YZ rb Av);have hgb:=fK hown (g:=g) rfl;have ho:eU x (p+1)=eU x p++[(p,be,ow)]:=by rw[Ae,hnow]
 refine⟨by simp only[fF,xi];omega,λb hb hne=>by rw[dA b hne,hold b ai (YZ b hb)];exact C.old b hb hne,va,aD (ae ⟨g,0,ah⟩) ((eU x p).length+1) cap,uR,?_,own_same h1 (λgg xf=>?_),?_,λgg xf e=>?_,λi hi=>?_⟩
 .rw[aH (by rw[hr1];exact hr)];rfl
 .obtain⟨h5,h6⟩:=Ps gg xf;rw[dA gg ai];exact hold gg h6 λe=>h3 gg xf e.symm
 .rw[ho];have:lh (eU x p++[(p,be,ow)])=lh (eU x p) ++[aq af p,aq af be,aq af ow]:=by simp[lh]
  rw[this,mo];refine own_same hown (λgg xf=>?_);obtain rfl:g=gg:=by simpa[iE]using xf
  exact dA _ ai
 .obtain rfl:g=gg:=by simpa[iE]using e
  rcases hg with h|h
  .exact h3 _ xf h
  .have:=(Ps _ xf).2;omega
 .obtain⟨sl,h5,h6,h7,h8⟩:=h4 i hi;obtain⟨h9,h10⟩:=CollAt.keep (w1:=w1.setCell ⟨rb,1,ah⟩ (aD (ae ⟨g,0,ah⟩) ((eU x p).length+1) cap)) I ai h6 h8 (λgg xf=>by obtain⟨a1,a2,a3,a4⟩:=h7 gg xf;rw[dA gg ai];exact hold gg a2 (bZ a4)) (λb hb hne=>by rw[dA b hne];exact hold b ai (YZ b hb));refine⟨sl,h5,h9,λgg xf=>?_,h10⟩;obtain⟨a1,a2,a3,a4⟩:=h7 gg xf;refine⟨a1,by simp only[fF,xi];omega,a3,λe=>?_⟩;obtain rfl:g=gg:=by simpa[iE]using e
  rcases hg with h|h
  .exact a4 h
  .omega
theorem CollAt.closed(C:CollAt rb all cut W x w0 q p w)(hnow:(x p).now=ah):CollAt rb all cut W x w0 q (p+1) w:=by
 have ho:eU x (p+1)=eU x p:=by rw[Ae,hnow];simp
 exact⟨C.size,C.old,by rw[ho];exact C.ex⟩
end
theorem Ro:pdColl=.seq pdColl.l (.seq pdColl.r.l (.seq pdColl.r.r.l pdColl.r.r.r)):=by simp only[pdColl,gl,dL,f75,Code.l,Code.r,cN]
section
variable{n res all q p:Nat}{cut:Bool}{w:aj}
variable{main:Bool}{J:fM ι}{Stop:ι->aB->List aB->aj->Prop}
theorem CollAt.Vq(C:CollAt rb all cut W x w0 q p w)(I:CollIn n lb rb W x w0)(hk:k<n)(o:Nat):w.cell? ⟨W k,o,ah⟩=w0.cell? ⟨W k,o,ah⟩:=by obtain⟨h1,h2⟩:=I.pub k hk (W k) (.inl rfl);exact dr (w:=w0) (C.old _ h2 h1)
theorem GU(hcs:NE cs0)(I:CollIn n lb rb W x w0)(hq:q<n)(hA:Ko lb lc n res rb q q (W q) a)(C:CollAt rb all cut W x w0 q q w):
  wpM aC main cs0 J Stop U 75 pdColl.r.l (λi' e a' w'=>e=.normal/\i'=i/\Ko lb lc n res rb q q (W q) a'/\CollAt rb all cut W x w0 (q+1) q w') i a w:=by
 obtain⟨dn,be,ow,sl,c7,c8,c9,c10,lq,hnow,Vr⟩:=I.wr q hq;have c9':=(C.Vq I hq 9).trans c9;obtain⟨sa,sc,rfl⟩:=afD lq;obtain⟨va,vo,uR,hr,h1,h2,h3,h4⟩:=C.ex;obtain⟨hne,Uk⟩:=I.pub q hq (W q) (.inl rfl);have Av:=I.rbl;have Rn:=C.size;have c0:=cO hr 0;have z0:=zO hr 0;have hr1:ae rb≠va.ownBlock:=λe=>by have:=fK h1 e.symm;omega
 have hr2:ae (W q)≠va.ownBlock:=λe=>by have:=fK h1 e.symm;omega
 have hm:q<100000:=by have:=I.n8;omega
 have hlen:=I.got q hq;have Nf:∀b,cC w0 (aD sa (x q).got.length sc) b->gF w0 (W q) b:=λb hb=>.inr ⟨_,c9,hb⟩;refine wpM_lone iD hcs aQ (oT (by cases hA;rfl)) (zX _ aN _) (λτ=>?_);by_cases h0:(x q).got.length=0
 .have hl0:(x q).got=[]:=yH.1 h0;rw[h0]at c9';refine mH (Rh (w:=w.tp τ) hA hm c0 z0 c9' (bZ hne) Rn h1 hr1 hr2) ?_;rintro a' w' ⟨hA',g,cap,w1,hown,hs1,hold,hg,qL⟩;refine⟨_,qL,rfl,rfl,hA',C.answer I hq hr h1 h2 h3 h4 hown hs1 hold hg (λgn h=>dB) ?_ λb hb=>?_⟩
  .rw[hl0];exact⟨ah,0,rfl,λi x h=>dB⟩
  .obtain⟨y,m,e,h,_⟩:=hb;cases h
 .obtain⟨sb,hsa⟩:∃sb,sa=ae ⟨sb,0,ah⟩:=by obtain⟨a',c',e,h⟩:=lq;obtain⟨y,hy⟩:∃y,(x q).got[0]? =ae y:=⟨_,eQ ai⟩;obtain⟨b,hb,_⟩:=h 0 y hy;simp only[uj]at e;exact⟨b,e.1.trans hb⟩
  subst hsa;have hsb:=I.pub q hq sb (Nf sb ⟨_,_,_,rfl,.inl rfl⟩);let news:List ay:=(dx ((x q).got.length*9)).map λj=>(w0.cell? ⟨sb,j,ah⟩).getD aO;have hnl:news.length=(x q).got.length*9:=by simp[news]
  have ml:∀j,j< (x q).got.length*9->news[j]? =w0.cell? ⟨sb,j,ah⟩:=λj hj=>by obtain⟨u,hu,_⟩:=Pq lq hj;simp[news,nM,wT hj,hu]
  have PY:∀j,w.cell? ⟨sb,j,ah⟩=w0.cell? ⟨sb,j,ah⟩:=λj=>dr (w:=w0) (C.old sb hsb.2 hsb.1);have hnews:∀j u,news[j]? =ae u->(w.tp τ).cell? ⟨sb,j,ah⟩=ae u:=λj u hu=>by have hj:j< (x q).got.length*9:=(by rw[←hnl];exact(eX.1 hu).1);rw[←hu,ml j hj];exact PY j
  have qw:∀u∈news,u.oneCell'=au:=λu hu=>by obtain⟨j,hj,rfl⟩:=pA.1 hu;obtain⟨u,h5,h6⟩:=Pq lq (pz.1 hj);rw[h5];exact h6
  refine mH (Rj (w:=w.tp τ) hA hm c0 z0 c9' (bZ hne) ai hlen hnl hnews qw Rn h1 hr1 hr2) ?_;rintro a' w' ⟨hA',g,cap,kN,w1,hown,hown2,hs1,hold,hg,qL⟩;have hs1:w.heap.size<w1.heap.size:=hs1;have hcell:∀j,j< (x q).got.length*9->w1.cell? ⟨w.heap.size,j,ah⟩=w0.cell? ⟨sb,j,ah⟩:=λj hj=>by rw[←ml j hj];exact hown2.cellAt j hj
  have j4:∀b,gF w0 (W q) b->w1.heap[b]? =w0.heap[b]? :=λb hb=>by obtain⟨h5,h6⟩:=I.pub q hq b hb;rw[hold b (by show b<w.heap.size;omega) (λe=>by have:=fK h1 e.symm;omega)];exact C.old b h6 h5
  refine⟨_,qL,rfl,rfl,hA',C.answer I hq hr h1 h2 h3 h4 hown (Nat.le_of_lt hs1) hold (hg.imp id λh=>Nat.le_of_lt h) (λgn h=>?_) (Vp lq hcell λj y m e' hj h5 z hz=>?_) λb hb=>?_⟩
  .obtain rfl:w.heap.size=gn:=(by have h:ae w.heap.size=ae gn:=h;exact bj h);refine⟨bJ _,hs1,λe=>?_⟩;rcases hg with h|h
   .have:=own_lt h1 h;omega
   .have:w.heap.size<g:=h;omega
  .refine dr (w:=w0) ?_;rw[hz];exact j4 _ (Nf _ ⟨_,_,_,rfl,.inr ⟨j,y,m,e',hj,h5,rfl⟩⟩)
  .obtain⟨y,m,e,h5,h6⟩:=hb;simp only[uj,dD]at h5;obtain⟨h7,h8,h9⟩:=h5;subst h7;rcases h6 with rfl|⟨j,y,m',e',hj,h6,rfl⟩
   .exact .inl rfl
   .right;rw[←h8]at hj;have h6:w1.cell? ⟨w.heap.size,j,ah⟩=ae (aD (ae y) m' e'):=h6;rw[hcell j ai]at h6;exact Nf _ ⟨_,_,_,rfl,.inr ⟨j,y,m',e',hj,h6,rfl⟩⟩
theorem Ng(hcs:NE cs0)(I:CollIn n lb rb W x w0)(hq:q<n)(hlc:n<=lc)(hA:zt lb lc n res rb q a)(C:CollAt rb all cut W x w0 q q w):
  wpM aC main cs0 J Stop U 75 pdColl (λi' e a' w'=>e=.normal/\i'=i/\zt lb lc n res rb q a'/\CollAt rb all cut W x w0 (q+1) (q+1) w') i a w:=by
 rw[Ro];have hn8:=I.n8;have afE:lb<w0.heap.size:=ez w0 _ (I.hl q hq);have cl:w.cell? ⟨lb,q,ah⟩=ae (aI (ae ⟨W q,0,ah⟩)):=by rw[←I.hl q hq];exact dr (w:=w0) (C.old lb afE I.hlb)
 have HI:=aA I;have HC:=aA C;clear I C afE;refine wpM_seq ?_;have ahE:wpM aC main cs0 J Stop U 75 pdColl.l (λi' e a' w'=>e=.normal/\i'=i/\Ko lb lc n res rb q q (W q) a'/\w'=w) i a w:=by cases hA;simp only[pdColl,gl,dL,f75,Code.l,Code.r,cN];refine wpM_lone iD hcs aQ (oT rfl) (zX _ aN _) (λτ=>?_);go_wp2;exact⟨bD _ _,Ko.mk ..⟩
 refine fu ahE ?_;rintro i1 e1 a1 w1 ⟨rfl,rfl,Bb,rfl⟩;simp only[bE];refine wpM_seq (fu (GU hcs HI.out hq Bb HC.out) ?_);rintro i2 e2 a2 w2 ⟨rfl,rfl,tT,C2⟩;simp only[bE];obtain⟨dn,be,ow,sl,c7,c8,c9,c10,lq,hnow,Vr⟩:=HI.out.wr q hq;have c7':=(C2.Vq HI.out hq 7).trans c7;have c8':=(C2.Vq HI.out hq 8).trans c8;have afF:wpM aC main cs0 J Stop U 75 pdColl.r.r.l (λi' e a' w'=>e=.normal/\i'=i2/\Ko lb lc n res rb q q (W q) a'/\w'=w2/\a'.eval (.tmp 88)=.bool (decide (0<be))) i2 a2 w2:=by have Hb:(decide ((0:Int) < (be:Int)))=decide (0<be):=aJ;clear lq hnow Vr C2 c9 c10 c7 c8;cases tT;simp only[pdColl,gl,dL,f75,Code.l,Code.r,cN];refine wpM_lone iD hcs aQ (oT rfl) (zX _ aN _) (λτ=>?_);go_wp2;exact⟨bD _ _,Ko.mk ..⟩
 refine wpM_seq (fu afF ?_);rintro i3 e3 a3 w3 ⟨rfl,rfl,Fc,rfl,h88⟩;simp only[bE];obtain⟨ops,Vs⟩:∃ops,pdColl.r.r.r=.cond (.tmp 88) (.region 20 ops au) .skip:=by simp only[pdColl,gl,dL,f75,Code.l,Code.r,cN];exact⟨_,rfl⟩
 rw[Vs];have hC0:∀a',Ko lb lc n res rb q q (W q) a'->zt lb lc n res rb q a':=λa' h=>by cases h;exact zt.mk ..
 cases hx:(x q).now with
 |none=>have hb0:be=0:=Vr hx;refine bz (t:=aw) (by rw[h88,hb0];rfl) (eY ?_);exact⟨rfl,rfl,hC0 _ Fc,C2.closed hx⟩
 |some pp=>
  obtain⟨b,o,pr⟩:=pp;obtain⟨rfl,rfl⟩:=hnow b o pr hx;have lJ:=HI.out.pos q _ _ _ hx;refine bz (t:=au) (by rw[h88];simp[lJ]) ?_;simp only[if_true];obtain⟨va,vo,uR,hr,h1,h2,h3,h4⟩:=C2.ex;obtain⟨hne,Uk⟩:=HI.out.pub q hq (W q) (.inl rfl);have Av:=HI.out.rbl;have Rn:=C2.size;have c1:=cO hr 1;have z1:=zO hr 1;have hr1:ae rb≠vo.ownBlock:=λe=>by have:=fK h2 e.symm;omega
  have hr2:ae (W q)≠vo.ownBlock:=λe=>by have:=fK h2 e.symm;omega
  have hm:(eU x q).length<100000:=by have:=Rm x q;omega
  have hok:dZ aC S2 75 (.region 20 ops au)=au:=by have h:dZ aC S2 75 pdColl.r.r.r=au:=aQ;rw[Vs]at h;simpa[dZ]using h
  refine wpM_lone iD hcs hok (oT (by cases Fc;rfl)) (zX _ aN _) (λτ=>?_);have hop:=Rl (w:=w3.tp τ) Fc hm c1 z1 c7' c8' (bZ hne) Rn h2 hr1 hr2;rw[Vs]at hop;refine mH hop ?_;rintro a' w' ⟨hA',g,cap,w1,hown,hs1,hold,hg,qL⟩;exact⟨_,qL,rfl,rfl,hC0 _ hA',C2.opened HI.out ai hr h1 h2 h3 h4 hx hown hs1 hold hg⟩
end
theorem Rp:gl.l=.seq gl.l.l (.block 2 (.loop (.seq gl.l.r.l.l.l (.seq (.cond (.tmp 70) .skip (.exit 2)) (.seq (.block 3 pdColl) gl.l.r.l.l.r.r.r))))):=by simp only[pdColl,gl,dL,f75,Code.l,Code.r,cN]
section
variable{n res all q p:Nat}{cut:Bool}{w:aj}
variable{main:Bool}{J:fM ι}{Stop:ι->aB->List aB->aj->Prop}
theorem CollAt.start(I:CollIn n lb rb W x w0)(h:w0.heap[rb]? =ae (aK #[aD ah 0 0,aD ah 0 0,aq af all,.bool cut] 31 (0,0))):CollAt rb all cut W x w0 0 0 w0:=⟨bJ _,λ_ _ _=>rfl,aD ah 0 0,aD ah 0 0,[],h,⟨rfl,.inl ⟨rfl,rfl⟩⟩,⟨rfl,.inl ⟨rfl,rfl⟩⟩,λg h=>dB,λi hi=>aT hi (fR _)⟩
theorem Vt{cV:ay}{most:Int}(hcs:NE cs0)(I:CollIn n lb rb W x w0)(hlc:n<=lc)(hA:Ta cV lb lc n come cb res ob sb rb most a)(h:w0.heap[rb]? =ae (aK #[aD ah 0 0,aD ah 0 0,aq af all,.bool cut] 31 (0,0))):
  wpM aC main cs0 J Stop U 75 gl.l (λi' e a' w'=>e=.normal/\i'=i/\zt lb lc n res rb n a'/\CollAt rb all cut W x w0 n n w') i a w0:=by
 rw[Rp];have aag:wpM aC main cs0 J Stop U 75 gl.l.l (λi' e a' w'=>e=.normal/\i'=i/\zt lb lc n res rb 0 a'/\w'=w0) i a w0:=by clear I h;cases hA;simp only[pdColl,gl,dL,f75,Code.l,Code.r,cN];refine wpM_lone iD hcs aQ (oT rfl) (zX _ aN _) (λτ=>?_);go_wp2;exact⟨bD _ _,zt.mk ..⟩
 refine wpM_seq (fu aag ?_);rintro i1 e1 a1 w1 ⟨rfl,rfl,Bb,rfl⟩;simp only[bE];clear aag hA;refine cE (iV (λm i a w=>∃q,m=n-q/\q<=n/\i=i1/\zt lb lc n res rb q a/\CollAt rb all cut W x w1 q q w) (n:=n) ⟨0,rfl,bQ _,rfl,Bb,CollAt.start I h⟩ ?_);rintro m i a w ⟨q,rfl,hq,rfl,hA,C⟩;clear Bb;have afG:wpM aC main cs0 J Stop U 75 gl.l.r.l.l.l (λi' e a' w'=>e=.normal/\i'=i/\zt lb lc n res rb q a'/\a'.eval (.tmp 70)=.bool (decide (q<n))/\w'=w) i a w:=by have Hb:(decide ((q:Int) < (n:Int)))=decide (q<n):=aJ;clear I h C;cases hA;simp only[pdColl,gl,dL,f75,Code.l,Code.r,cN];refine wpM_lone iD hcs aQ (oT rfl) (zX _ aN _) (λτ=>?_);go_wp2;exact⟨bD _ _,zt.mk ..⟩
 refine wpM_seq (fu afG ?_);rintro i2 e2 a2 w2 ⟨rfl,rfl,tT,h70,rfl⟩;simp only[bE];by_cases hlt:q<n
 .refine wpM_seq (bz (t:=au) (by rw[h70];simp[hlt]) (eY ?_));simp only[bE];refine wpM_seq (cE (fu (Ng hcs I hlt hlc tT C) ?_));rintro i3 e3 a3 w3 ⟨rfl,rfl,Fc,C3⟩;simp only[bE,gu];have hn8:=I.n8;have HC:=aA C3;have hwr:IntKind.i64.wrap ((q:Int) +1)=((q+1:Nat):Int):=by rw[gq];omega
  have ahF:wpM aC main cs0 J Stop U 75 gl.l.r.l.l.r.r.r (λi' e a' w'=>e=.normal/\i'=i3/\zt lb lc n res rb (q+1) a'/\w'=w3) i3 a3 w3:=by clear I h C C3 afG HC;cases Fc;simp only[pdColl,gl,dL,f75,Code.l,Code.r,cN];refine wpM_lone iD hcs aQ (oT rfl) (zX _ aN _) (λτ=>?_);go_wp2;exact⟨bD _ _,zt.mk ..⟩
  refine fu ahF ?_;rintro i4 e4 a4 w4 ⟨rfl,rfl,IA,rfl⟩;simp only[bE];exact⟨n- (q+1),ai,q+1,by trivial,ai,by trivial,IA,C3⟩
 .obtain rfl:q=n:=ai;refine wpM_seq (bz (t:=aw) (by rw[h70];simp) (iU ?_));simp only[bE,gu,if_true];exact⟨by trivial,by trivial,tT,C⟩
end
section
theorem AR.GV(L:Lay σ)(c:cu)(s:σ)(t i b o:Nat)(p:Pr σ kC)(h:((AR.at L c s t).w i).now=ae (b,o,p)):0<b:=by
 induction t generalizing i b o p with
 |zero=>cases h
 |succ t ih=>
  have h:(if i=(AR.at L c s t).pick c then((AR.at L c s t).w ((AR.at L c s t).pick c)).settle ((AR.at L c s t).all+1) (((AR.at L c s t).w ((AR.at L c s t).pick c)).seg L c ((AR.at L c s t).pick c) ((AR.at L c s t).all+1) (AR.at L c s t).s).1 (((AR.at L c s t).w ((AR.at L c s t).pick c)).seg L c ((AR.at L c s t).pick c) ((AR.at L c s t).all+1) (AR.at L c s t).s).2 else(AR.at L c s t).w i).now=ae (b,o,p):=h;by_cases e:i=(AR.at L c s t).pick c
  .rw[aX e]at h;generalize hy:(AR.at L c s t).w ((AR.at L c s t).pick c)=y at h;have lJ:0< (y.seg L c ((AR.at L c s t).pick c) ((AR.at L c s t).all+1) (AR.at L c s t).s).1:=by
    unfold AW.seg;split
    .rename_i b' o' p' he;rw[←hy]at he;exact ih _ _ _ _ he
    .split<;>simp
   generalize y.seg L c ((AR.at L c s t).pick c) ((AR.at L c s t).all+1) (AR.at L c s t).s=z at h lJ;obtain⟨z1,z2⟩:=z;cases z2 with
   |fin a g own s'=>cases h
   |line p' own s'=>simp only[AW.settle,dD,Prod.mk.injEq]at h;obtain⟨rfl,_⟩:=h;exact lJ
   |lost=>simp only[AW.settle]at h;rw[←hy]at h;exact ih _ _ _ _ h
  .rw[aU e]at h;exact ih _ _ _ _ h
theorem gS.GV(J:gS σ)(t i b o:Nat)(p:Pr σ kC)(h:((J.ar t).w i).now=ae (b,o,p)):0<b:=AR.GV _ _ _ _ _ _ _ _ h
structure GX(J:gS σ)(d:bp)(a0:aj)(t:Nat)(w0:aj)(v:ay)(w:aj):Prop where
 over:(J.ar t).goes J.c=aw
 le:J.n<=t/\t<=J.n+J.c.most
 size:a0.heap.size<=w0.heap.size/\w0.heap.size<=w.heap.size
 old:∀(b:Nat) o,a0.heap[b]? =ae o->o≠eh->(∀i,i<J.n->b≠d.W i)->w.heap[b]? =ae o
 pub:∀b,jR d (J.cP d.W) w0 b->b<w0.heap.size/\w.heap[b]? =w0.heap[b]?/\∀o,a0.heap[b]? =ae o->o≠eh->∃i,i<J.n/\b=d.W i
 ex:∃va vo uR,v=.agg #[va,vo,aq af ((t-J.n:Nat):Int),.bool ((J.ar t).any J.c)]/\w.ownsRow w0.heap.size 45 1 va J.n uR/\w.ownsRow w0.heap.size 108 3 vo (eU (J.ar t).w J.n).length (lh (eU (J.ar t).w J.n))/\
  ∀i,i<J.n->∃sl,uR[i]? =ae sl/\AnsAt w sl ((J.ar t).w i).got/\(∀g,sl.ownBlock=ae g->w0.heap.size<=g/\g<w.heap.size)/\∀b,cC w sl b->sl.ownBlock=ae b\/gF w0 (d.W i) b
theorem Rq:dL=.seq dL.l (.seq dL.r.l (.seq dL.r.r.l (.seq dL.r.r.r.l (.seq dL.r.r.r.r.l (.seq dL.r.r.r.r.r.l (.seq lg (.seq gl.l (.seq gl.r.l .ret)))))))):=by simp only[lg,gl,dL,f75,Code.l,Code.r,cN]
variable{w:aj}
theorem Rs{K:PN}{cut:Bool}(H:PSet J d K a0)(B:Re J d)(P:mJ J d K a0 t cut w)(R:xG d (J.cP d.W) t w w0)(hgot:∀i,i<J.n->((J.ar t).w i).got.length<100000):
  CollIn J.n K.lb K.rb d.W (J.ar t).w w0/\(∀b,jR d (J.cP d.W) w0 b->b<w0.heap.size/\b≠K.rb/\b≠K.res/\∀o,a0.heap[b]? =ae o->o≠eh->∃i,i<J.n/\b=d.W i):=by
 have h6:=H.rb;have h7:=H.sb;have h8:=H.ob;have h9:=P.at_.size;have pQ:∀b,jR d (J.cP d.W) w0 b->b<w0.heap.size/\b≠K.rb/\b≠K.res/\∀o,a0.heap[b]? =ae o->o≠eh->∃i,i<J.n/\b=d.W i:=λb ⟨i,hi,hb⟩=>by
  rw[R.size];by_cases hW:∃k,k<d.j/\b=d.W k
  .obtain⟨k,hk,rfl⟩:=hW;have:=H.W k (by rw[←B.j];exact hk);have:=H.res;exact⟨ai,ai,ai,λ_ _ _=>⟨k,by rw[←B.j];exact hk,rfl⟩⟩
  .have h:=R.pub i hi b hb λk hk e=>hW ⟨k,hk,e⟩;refine⟨(bF.1 h).1,λe=>?_,λe=>?_,λo h1 h2=>?_⟩
   .rw[e,P.at_.r]at h;cases h
   .rw[e,P.at_.res]at h;cases h
   .have h3:=P.at_.old b o h1 h2 λi hi e=>hW ⟨i,by rw[B.j];exact hi,e⟩;rw[h]at h3;exact aT (bj h3).symm h2
 refine⟨⟨H.n,λi hi=>?_,?_,λi hi=>⟨_,R.wr i (by rw[B.j];exact hi) hi⟩,λi hi b hb=>?_,by rw[R.size];exact h9,hgot,λi b o p h=>J.GV t i b o p h⟩,pQ⟩
 .have h:=P.at_.ll H i hi;obtain⟨o,h1,h2⟩:=lS h;rw[←h];exact dr (w:=w) (by rw[R.same _ o h1 h2,h1])
 .rcases mr J.n with h0|h0
  .have hl:=H.lbl;omega
  .have:=ez a0 _ (H.l 0 h0).1;simp only at this;omega
 .obtain⟨h1,h2,_⟩:=pQ b ⟨i,by rw[B.j];exact hi,hb⟩;exact⟨h2,h1⟩
end
end
section
open Go Go.Conc Go.ConcN Go.RowKit
attribute [local go_sem] ba bf bH a8 bC bK aS aV
variable[Inhabited dc]
section
variable{w:aj}
structure PCall(J:gS σ)(d:bp)(wk tu ha:Option aP)(wc tc hc lb lc:Nat)(a0:aj):Prop where
 n:J.n<=8
 un:J.c.until_<=20000
 lc:J.n<=lc
 lbl:lb<a0.heap.size
 W:∀i,i<J.n->d.W i<a0.heap.size
 l:∀i,i<J.n->a0.cell? ⟨lb,i,ah⟩=ae (aI (ae ⟨d.W i,0,ah⟩))/\∀k,k<J.n->lb≠d.W k
 h:∀i,i<J.c.halt.length->∃hb ho,ha=ae ⟨hb,ho,ah⟩/\a0.cell? ⟨hb,ho+i,ah⟩=ae (aq af (J.c.halt.getD i 0))/\∀k,k<J.n->hb≠d.W k
 tu:M7 a0 tu tc J.c.turns
 tl:J.c.turns.length<100000
 eyes:∀i,i<J.n->a0.cell? ⟨d.W i,2,ah⟩=ae (.chan (ae (d.turn i)))/\a0.cell? ⟨d.W i,10,ah⟩=ae (.bool (decide (i<J.n/\J.len i<=((J.ar J.n).w i).got.length)))
inductive IsS(cV:ay)(lb lc n come cb res:Nat)(most:Int):Act->Prop
 |mk (u4 u5 u8 u9 sK nW nX mU mA mB u16 lK lL lM lN mV mX u23 u24 mY u26 lO u28 lQ lR mC u32 u33 mD mE mF mG mZ m9 nV oU oV pU u44 pV oX oY oZ o6 o7 o8 o9 sH sI ub ud wE wG wH wI wJ wK wL u64 wM wN D5 D6 D7 AG AH AJ Cy Cz CB CE CG D8 D9 Ea Gz GA GC GD GF GG GH GI GJ GL GM GN GQ GR Q6 Q7 Q8 Q9 Ra zb ze zf zh zi zl:ay):IsS cV lb lc n come cb res most {tmps:=#[cV,aD (ae ⟨lb,0,ah⟩) n lc,.chan (ae come),aI (ae ⟨cb,0,ah⟩),u4,u5,aI (ae ⟨res,0,ah⟩),aq af most,u8,u9,sK,nW,nX,mU,mA,mB,u16,lK,lL,lM,lN,mV,mX,u23,u24,mY,u26,lO,u28,lQ,lR,mC,u32,u33,mD,mE,mF,mG,mZ,m9,nV,oU,oV,pU,u44,pV,oX,oY,oZ,o6,o7,o8,o9,sH,sI,ub,ud,wE,wG,wH,wI,wJ,wK,wL,u64,wM,wN,D5,D6,D7,AG,AH,AJ,Cy,Cz,CB,CE,CG,D8,D9,Ea,Gz,GA,GC,GD,GF,GG,GH,GI,GJ,GL,GM,GN,GQ,GR,Q6,Q7,Q8,Q9,Ra,zb,ze,zf,zh,zi,zl],defers:=[]}
structure ada(J:gS σ)(wk tu ha:Option aP)(wc tc hc:Nat)(a0 w:aj):Prop where
 size:w.heap.size=a0.heap.size+2
 old:∀b,b<a0.heap.size->w.heap[b]? =a0.heap[b]?
 c:w.heap[a0.heap.size]? =ae (aK (aW wk tu ha J.n wc J.c.turns.length tc J.c.halt.length hc J.c.until_) 25 (0,0))
 res:w.heap[a0.heap.size+1]? =ae (aK #[aD ah 0 0,aD ah 0 0,aq af 0,.bool aw] 31 (0,0))
theorem Kp{Stop:Ph->aB->List aB->aj->Prop}(hcs:NE (d.cs0)){wk tu:Option aP}(C:PCall J d wk tu ha wc tc hc lb lc a0){cV:ay}(YV:cV=.agg (aW wk tu ha J.n wc J.c.turns.length tc J.c.halt.length hc J.c.until_)){tail:Code}
   (hQ:∀a' w',IsS cV lb lc J.n d.come a0.heap.size (a0.heap.size+1) J.c.most a'->ada J wk tu ha wc tc hc a0 w'->
   wpM aC au d.cs0 (JP aC S d.cs0 λd=>J.cP d.W) Stop U 75 tail Q (.run J.n d) a' w'):
  wpM aC au d.cs0 (JP aC S d.cs0 λd=>J.cP d.W) Stop U 75 (.seq dL.l (.seq dL.r.l (.seq dL.r.r.l tail))) Q (.run J.n d) {tmps:=#[cV,aD (ae ⟨lb,0,ah⟩) J.n lc,.chan (ae d.come)] ++Array.replicate 103 aO,defers:=[]} a0:=by
 have HQ:=aA hQ;clear hQ;have xZ:J.c.most=if J.c.until_=0 then 20000 else J.c.until_:=rfl
 have mO:=C.un;clear C;walk_nrm;have hB:ada J wk tu ha wc tc hc a0 ((a0.alloc (aK (aW wk tu ha J.n wc J.c.turns.length tc J.c.halt.length hc J.c.until_) 25)).alloc (aK #[aD ah 0 0,aD ah 0 0,aq af 0,.bool aw] 31)):=by
  refine⟨aJ,λb hb=>?_,?_,?_⟩
  .simp only[←dt,dz,fN];rw[aU ai,aU ai]
  .simp only[←dt,dz,fN];rw[aU ai,aX trivial]
  .simp only[←dt,dz,fN];rw[aX trivial]
 have HB:=aA hB;clear hB;simp only[aW]at HB YV;generalize J.c.most=most at*;subst YV;simp only[dL,f75,Code.l,Code.r,cN];iterate 2
  refine ZQ λτ=>?_
 by_cases h0:J.c.until_=0
 .have h1:(J.c.until_:Int)=0:=ai;have H1:=aA h1;have H0:=aA h0;rw[aX h0]at xZ;subst xZ;clear h0 h1;refine l2y λτ=>?_;refine bz (t:=au) (by simp[cS,H0.out]) ?_;simp only[if_true];refine wpM_lone iD hcs aQ (oT rfl) (zX _ aN _) (λτ=>?_);go_wp2;refine px ?_;exact HQ.out _ _ (IsS.mk ..) HB.out
 .rw[aU h0]at xZ;subst xZ;have H0:=aA h0;clear h0;refine l2y λτ=>?_;refine bz (t:=aw) (by simp[cS,H0.out]) (eY ?_);try simp only[bE]
  exact HQ.out _ _ (IsS.mk ..) HB.out
theorem Kq{Stop:Ph->aB->List aB->aj->Prop}(hcs:NE (d.cs0)){wk tu:Option aP}(C:PCall J d wk tu ha wc tc hc lb lc a0){cV:ay}(hA:IsS cV lb lc J.n d.come a0.heap.size (a0.heap.size+1) J.c.most a)(PB:ada J wk tu ha wc tc hc a0 w){tail:Code}
   (hQ:∀a' w' ob sb rb,Ta cV lb lc J.n d.come a0.heap.size (a0.heap.size+1) ob sb rb J.c.most a'->PSet J d ⟨wk,tu,ha,wc,tc,hc,lb,lc,a0.heap.size,a0.heap.size+1,ob,sb,rb⟩ a0->mJ J d ⟨wk,tu,ha,wc,tc,hc,lb,lc,a0.heap.size,a0.heap.size+1,ob,sb,rb⟩ a0 J.n aw w'->
   wpM aC au d.cs0 (JP aC S d.cs0 λd=>J.cP d.W) Stop U 75 tail Q (.run J.n d) a' w'):
  wpM aC au d.cs0 (JP aC S d.cs0 λd=>J.cP d.W) Stop U 75 (.seq dL.r.r.r.l (.seq dL.r.r.r.r.l (.seq dL.r.r.r.r.r.l tail))) Q (.run J.n d) a w:=by
 have hN:=λτ=>new_any tu tc J.c.turns (w.tp τ) (by
  rcases C.tu.ex with h|⟨tb,to,rfl,h⟩
  .exact⟨.inl h⟩
  .exact⟨.inr ⟨tb,to,rfl,λi hi=>by have h:=h i hi;have hb:=ez a0 _ h;rw[←h];exact dr (w:=a0) (PB.old tb hb)⟩⟩) C.tl
 have hn:=C.n;have c1:=cO PB.c 1;have hmk:=run_make_row' (P:=aC) 22 3 (aq af 0) 8 underlying22 Gt rfl .i64 .i64 J.n ai ai;have hend:∀(ob:Nat) (w1:aj),OrderAt w1 w.heap.size ob J.c.turns (-1)->w.heap.size<=ob->w.heap.size<=w1.heap.size->(∀b,b<w.heap.size->w1.heap[b]? =w.heap[b]?)->
   PSet J d ⟨wk,tu,ha,wc,tc,hc,lb,lc,a0.heap.size,a0.heap.size+1,ob,w1.heap.size,w1.heap.size+1⟩ a0/\mJ J d ⟨wk,tu,ha,wc,tc,hc,lb,lc,a0.heap.size,a0.heap.size+1,ob,w1.heap.size,w1.heap.size+1⟩ a0 J.n aw
    ((w1.alloc (aK (ui J.n λ_=>0) 3)).alloc (aK #[aD ah 0 0,aD ah 0 0,aq af 0,.bool aw] 31)):=λob w1 hO Lk hs1 hw=>by
  have ahG:ob<w1.heap.size:=by obtain⟨la,lc,h,_⟩:=hO.ex;exact(bF.1 h).1
  have hsz:=PB.size;have hold:∀b,b<w1.heap.size->((w1.alloc (aK (ui J.n λ_=>0) 3)).alloc (aK #[aD ah 0 0,aD ah 0 0,aq af 0,.bool aw] 31)).heap[b]? =w1.heap[b]? :=λb hb=>by simp only[←dt,dz,fN];rw[aU ai,aU ai]
  have hH:PSet J d ⟨wk,tu,ha,wc,tc,hc,lb,lc,a0.heap.size,a0.heap.size+1,ob,w1.heap.size,w1.heap.size+1⟩ a0:=⟨C.n,C.lc,C.lbl,rfl,rfl,nD,ahG,aJ,C.W,C.l,C.h⟩;refine⟨hH,bJ _,?_⟩;have e0:J.ar J.n=AR.yP J.c J.s0:=J.tU (bJ _);refine⟨aJ,λb o h1 h2 h3=>?_,?_,?_,?_,?_,?_,λi hi=>?_⟩
  .have:=(bF.1 h1).1;rw[hold b ai,hw b ai,PB.old b this];exact h1
  .rw[hold _ nD,hw _ nD];exact PB.c
  .rw[hold _ nD,hw _ nD];exact PB.res
  .simp only[←dt,dz,fN];rw[aX trivial,Nat.sub_self];rfl
  .simp only[←dt,dz,fN];rw[aU ai,aX trivial,e0];rfl
  .rw[e0];refine OrderAt.same (w:=w1) ?_ (λb _ h=>hold b (by simp only at h;omega)) nD;rw[←hsz];exact hO
  .obtain⟨h1,h2⟩:=C.eyes i hi;have hW:=C.W i hi;have e:((w1.alloc (aK (ui J.n λ_=>0) 3)).alloc (aK #[aD ah 0 0,aD ah 0 0,aq af 0,.bool aw] 31)).heap[d.W i]? =a0.heap[d.W i]? :=(by rw[hold _ ai,hw _ ai,PB.old _ hW]);exact⟨by rw[←h1];exact dr (w:=a0) e,by rw[←h2];exact dr (w:=a0) e⟩
 have Au:(ui J.n λ_=>0)=madeCells #[aq af 0] J.n:=by
  apply Array.ext
  .simp[ui,size_madeCells]
  .intro i h1 h2;simp[ui,madeCells,Nat.mod_one]
 rw[Au]at hend;have HQ:=aA hQ;have HE:=aA hend;have HN:=aA hN;clear hQ hend hN C PB Au;cases hA;simp only[dL,f75,Code.l,Code.r,cN];refine wpM_seq (wpM_lone iD hcs aQ (oT rfl) (zX _ aN _) (λτ=>?_));have HN:=aA (HN.out τ);go_wp2_with (go_at_call 118;refine HN.out.mono ?_;rintro e w1 ⟨ob,rfl,hO,Lk,hb⟩)
 have HE:=aA (HE.out ob w1 hO Lk hb.size hb.block);clear hO Lk hb;refine⟨w1,⟨rfl,rfl,rfl⟩,?_⟩;try simp only[bE]
 iterate 2
  refine ZQ λτ=>?_
 exact HQ.out _ _ _ _ _ (Ta.mk ..) HE.out.1 HE.out.2
theorem Rt{Stop:Ph->aB->List aB->aj->Prop}(hcs:NE (d.cs0))(B:Re J d){wk tu:Option aP}(C:PCall J d wk tu ha wc tc hc lb lc a0)(hgot:∀t i,i<J.n->((J.ar t).w i).got.length<100000):
  CallsM aC au d.cs0 (JP aC S d.cs0 λd=>J.cP d.W) Stop U (.run J.n d) 75 #[.agg (aW wk tu ha J.n wc J.c.turns.length tc J.c.halt.length hc J.c.until_),aD (ae ⟨lb,0,ah⟩) J.n lc,.chan (ae d.come)] a0
   (λi' v w'=>∃t w0,i'=.read t d w0/\GX J d a0 t w0 v w'):=by
 have hsm:J.c.most<=20000:=by unfold cu.most;have:=C.un;split<;>omega
 refine bL func75 (c:=dL) cQ ?_;rw[show(f75).ntmps- (#[Value.agg (aW wk tu ha J.n wc J.c.turns.length tc J.c.halt.length hc J.c.until_),Value.slice (ae ⟨lb,0,ah⟩) J.n lc,Value.chan (ae d.come)]:Array ay).size=103 from rfl,Rq];refine Kp hcs C rfl λa1 w1 Bb PB=>?_;refine Kq hcs C Bb PB λa2 w2 ob sb rb tT H P=>?_;refine wpM_seq (fu (Nd hcs hsm H B (cut:=aw) (t:=J.n) (by exact tT) P ai) ?_);rintro i3 e3 a3 w3 ⟨rfl,t,rfl,hno,Fc,P3,ht⟩;simp only[bE];refine Vi (R1:=λi' a'=>i'=Ph.read t d a') (R2:=λa'=>xG d (J.cP d.W) t w3 a') (λfr fs=>.inr rfl) ?_;rintro i4 w4 rfl RV;obtain⟨I,pQ⟩:=Rs H B P3 RV (hgot t);have hr4:w4.heap[rb]? =ae (aK #[aD ah 0 0,aD ah 0 0,aq af ((t-J.n:Nat):Int),.bool ((J.ar t).any J.c)] 31 (0,0)):=RV.same _ _ P3.at_.r bu;have abq:w4.heap[a0.heap.size+1]? =ae (aK #[aD ah 0 0,aD ah 0 0,aq af 0,.bool aw] 31 (0,0)):=RV.same _ _ P3.at_.res bu;refine wpM_seq (fu (Vt hcs I H.lc Fc hr4) ?_);rintro i5 e5 a5 w5 ⟨rfl,rfl,O4,C5⟩;simp only[bE];obtain⟨va,vo,uR,hr,h1,h2,h3,h4⟩:=C5.ex;obtain⟨aa,ca,rfl⟩:∃aa ca,va=aD aa J.n ca:=by
  rcases h1.2 with⟨rfl,e⟩|⟨g,cap,cur,rfl,_⟩
  .exact⟨ah,0,by rw[e]⟩
  .exact⟨_,_,rfl⟩
 obtain⟨ao,no,co,abW,rfl⟩:∃ao no co,no=(eU (J.ar t).w J.n).length/\vo=aD ao no co:=by
  rcases h2.2 with⟨rfl,e⟩|⟨g,cap,cur,rfl,_⟩
  .exact⟨ah,0,0,e.symm,rfl⟩
  .exact⟨_,_,_,rfl,rfl⟩
 have hne:a0.heap.size+1≠rb:=by have h6:=H.rb;have h7:=H.sb;have h8:=H.ob;simp only at h6 h7 h8;omega
 have YU:a0.heap.size+2<=w4.heap.size:=by have h6:=H.rb;have h7:=H.sb;have h8:=H.ob;have h9:=P3.at_.size;rw[RV.size];simp only at h6 h7 h8 h9;omega
 have hres:w5.heap[a0.heap.size+1]? =ae (aK #[aD ah 0 0,aD ah 0 0,aq af 0,.bool aw] 31 (0,0)):=by rw[C5.old _ ai hne];exact abq
 have hout:GX J d a0 t w4 (.agg #[(aD aa J.n ca),(aD ao no co),aq af ((t-J.n:Nat):Int),.bool ((J.ar t).any J.c)]) ((((w5.setCell ⟨a0.heap.size+1,0,ah⟩ (aD aa J.n ca)).setCell ⟨a0.heap.size+1,1,ah⟩ (aD ao no co)).setCell ⟨a0.heap.size+1,2,ah⟩ (aq af ((t-J.n:Nat):Int))).setCell ⟨a0.heap.size+1,3,ah⟩ (.bool ((J.ar t).any J.c))):=by
  have dA:∀b,b≠a0.heap.size+1->((((w5.setCell ⟨a0.heap.size+1,0,ah⟩ (aD aa J.n ca)).setCell ⟨a0.heap.size+1,1,ah⟩ (aD ao no co)).setCell ⟨a0.heap.size+1,2,ah⟩ (aq af ((t-J.n:Nat):Int))).setCell ⟨a0.heap.size+1,3,ah⟩ (.bool ((J.ar t).any J.c))).heap[b]? =w5.heap[b]? :=λb hb=>by rw[az hb,az hb,az hb,az hb]
  have hsz:((((w5.setCell ⟨a0.heap.size+1,0,ah⟩ (aD aa J.n ca)).setCell ⟨a0.heap.size+1,1,ah⟩ (aD ao no co)).setCell ⟨a0.heap.size+1,2,ah⟩ (aq af ((t-J.n:Nat):Int))).setCell ⟨a0.heap.size+1,3,ah⟩ (.bool ((J.ar t).any J.c))).heap.size=w5.heap.size:=jM;have h5s:=C5.size;refine⟨hno,⟨P3.le,ht⟩,⟨ai,by rw[hsz];exact C5.size⟩,λb o a1 a2 a3=>?_,λb hb=>?_,(aD aa J.n ca),(aD ao no co),uR,rfl,own_same h1 λg hg=>dA g (by have:=fK h1 hg;omega),own_same h2 λg hg=>dA g (by have:=fK h2 hg;omega),λi hi=>?_⟩
  .have hb:=(bF.1 a1).1;rw[dA b ai,C5.old b ai (show b≠rb by have h6:=H.rb;have h7:=H.sb;have h8:=H.ob;simp only at h6 h7 h8;omega)];exact RV.same _ _ (P3.at_.old b o a1 a2 a3) a2
  .obtain⟨b1,b2,b3,b4⟩:=pQ b hb;exact⟨b1,by rw[dA b b3];exact C5.old b b1 b2,b4⟩
  .obtain⟨sl,g1,g2,g3,g4⟩:=h4 i hi;have hb:∀b,cC w5 sl b->b≠a0.heap.size+1:=λb hb=>by
    rcases g4 b hb with h|h
    .have:=(g3 b h).1;omega
    .exact(pQ b ⟨i,by rw[B.j];exact hi,h⟩).2.2.1
   refine⟨sl,g1,gV (λx hx=>dr (w:=w5) (dA _ (hb _ hx))) g2,λg hg=>?_,λb hbb=>g4 b ?_⟩
   .obtain⟨k1,k2,_⟩:=g3 g hg;exact⟨k1,by rw[hsz];exact k2⟩
   .exact(sblocks_same (w:=w5) (sl:=sl) (λx n e h1 o=>dr (w:=w5) (dA _ (hb x.block ⟨x,n,e,h1,.inl rfl⟩))) b).1 hbb
 have q0:=cO hr 0;have q1:=cO hr 1;have q2:=cO hr 2;have q3:=cO hr 3;have y0:=cO hres 0;have y1:=cO hres 1;have y2:=cO hres 2;have y3:=cO hres 3;have z0:=zO hres 0;have z1:=zO hres 1;have z2:=zO hres 2;have z3:=zO hres 3;have HO:=aA hout;subst abW;clear hout hr h1 h2 h3 h4 C5 I pQ hr4 abq RV P3 Fc H P tT PB Bb hres hgot C B;generalize hb1:a0.heap.size+1=res at*;cases O4;simp only[gl,dL,f75,Code.l,Code.r,cN];refine wpM_seq (wpM_lone iD hcs aQ (oT rfl) (zX _ aN _) (λτ=>?_));go_wp2;refine⟨_,bD _ _,cD ⟨rfl,_,?_,t,w4,rfl,HO.out⟩⟩;simp[eL,go_sem, *]
end
end
section
open Go Go.Conc Go.ConcN
variable[Inhabited dc]
section
variable{Wk:Nat}{xs:List (aP×ay)}
theorem Pt(O:d.Ok)(h1:d.come≠tk)(h2:d.gone≠tk)(h3:d.Wg≠tk)(h4:∀i,i<d.j->d.turn i≠tk)(h5:∀x∈xs,x.1.block≠d.Wg):(d.grow Wk tk fk xs jC kO B').Ok:=by
 refine⟨O.cw,O.cg,λi hi=>?_,λi hi=>?_,λi i' hi hi' e=>?_,O.wc,O.wg,λi hi=>?_,λi hi x hx=>?_,O.roC⟩;all_goals simp only[bp.grow]at*
 .split
  .exact h1
  .exact O.ct i ai
 .split
  .exact h2
  .exact O.gt i ai
 .by_cases a:i=d.j<;>by_cases b:i'=d.j
  .omega
  .rw[aX a,aU b]at e;exact aT e.symm (h4 i' ai)
  .rw[aU a,aX b]at e;exact aT e (h4 i ai)
  .rw[aU a,aU b]at e;exact O.tt i i' ai ai e
 .split
  .exact h3
  .exact O.wt i ai
 .split at hx
  .exact h5 x hx
  .exact O.wf i ai x hx
theorem Vu(X:d.Fit)(O':(d.grow Wk tk fk xs jC kO B').Ok)(h1:∃f,kO Wk=ae f)(h2:∀x∈xs,∃f,kO x.1.block=ae f/\f.1<=x.1.off/\x.1.off<f.2)(h3:fk.1=0)
  (h4:∀x∈xs,(x.1.block=Wk/\fk.1<=x.1.off/\x.1.off<fk.2)\/(x.1.block≠Wk/\∀i,i<d.j->x.1.block≠d.W i))(h5:∀i,i<d.j->∀x∈d.facts i,x.1.block≠Wk)(h6:kO d.C=ah)(h7:d.C≠Wk)(h8:d.ro Wk=ah)(h9:jC≠[])(h10:∀i,i<d.j->d.W i≠Wk):(d.grow Wk tk fk xs jC kO B').Fit:=by
 refine⟨O',λi hi=>?_,λi hi x hx=>?_,λb f hf=>?_,λi hi=>?_,λi hi x hx=>?_,λi=>?_,?_,X.ro0,λi hi=>?_,X.rowg,X.cs0,λi=>?_⟩;all_goals simp only[bp.grow]at*
 .split
  .exact h1
  .exact X.fwW i ai
 .split at hx
  .rename_i e;simp only[e,if_true];exact h2 x hx
  .rename_i e;simp only[e,if_false];exact X.fwf i ai x hx
 .split at hf
  .rename_i e;obtain rfl:=bj hf;exact⟨h3,d.j,ai,by rw[aX rfl];exact e⟩
  .obtain⟨a,i,hi,e⟩:=X.fmW b f hf;exact⟨a,i,ai,by rw[aU ai];exact e⟩
 .by_cases e:i=d.j
  .simp only[e,if_true];exact⟨_,rfl⟩
  .simp only[e,if_false];rw[aU (h10 i ai)];exact X.Wfm i ai
 .split at hx
  .rcases h4 x hx with⟨a,b⟩|⟨a,b⟩
   .left;rw[aX a];exact⟨_,rfl,b⟩
   .right;intro i' hi';split
    .exact a
    .exact b i' ai
  .rename_i e;have hne:=h5 i ai x hx;rcases X.ffm i ai x hx with⟨f,a,b⟩|a
   .left;rw[aU hne];exact⟨f,a,b⟩
   .right;intro i' hi';split
    .exact hne
    .exact a i' ai
 .split
  .exact h6
  .exact X.roC i
 .rw[aU h7];exact X.rom
 .split
  .exact h8
  .exact X.roW i ai
 .split
  .exact h9
  .exact X.csw i
end
section
structure Squad(J:gS σ)(d0 d:bp)(nb:Nat->Nat):Prop where
 E:Ext d0 d
 fit:d.Fit
 fm:∀i,i<d.j->d.fm (d.W i)=ae (0,12)
 facts:∀i,i<d.j->d.facts i=gO (d.W i) i (d.turn i) d.come d.gone (nb i)
 lt:∀i,i<d.j->d.W i<d.B/\nb i<d.B/\d.turn i<d.B/\d.Wg<d.W i/\d.Wg<nb i/\d.Wg<d.turn i
 low:d.come<d.Wg/\d.gone<d.Wg/\d.C<d.Wg/\d.Wg<d.B
 ro:∀b,d.ro b≠ah->b<d.Wg
theorem lj{W turn gone nb:Nat}{x:aP×ay}(h:x∈gO W k turn come gone nb):(x.1.block=W/\x.1.off<5/\x∈(gO W k turn come gone nb).take 5)\/(x.1.block=nb/\x.1.off=0/\x=(⟨nb,0,ah⟩,aI (ae ⟨W,0,ah⟩))):=by simp only[gO,fU,rP,or_false]at h;rcases h with rfl|rfl|rfl|rfl|rfl|rfl<;>simp[gO]
def sL(W nb:Nat)(b:Nat):Option (Nat×Nat):=if b=W then ae (0,5)else if b=nb then ae (0,1)else ah
def bp.join(d:bp)(Wk tk pn:Nat)(jC:List aB):bp:=d.grow Wk tk (0,12) (gO Wk d.j tk d.come d.gone pn) jC (sL Wk pn) (pn+1)
theorem Squad.join(S:Squad J d0 d nb){Wk:Nat}(h1:d.B<=tk)(h2:d.B<=Wk)(h3:Wk<pn)(h4:tk<pn)(hcw:jC≠[]):
  Squad J d0 (d.join Wk tk pn jC) (λi=>if i=d.j then pn else nb i)/\(d.grow Wk tk (0,12) ((gO Wk d.j tk d.come d.gone pn).take 5) jC (sL Wk pn) (pn+1)).Ok:=by
 have L:=S.low;have E':Ext d (d.join Wk tk pn jC):=Cc d ai;have hro:∀b,d.ro b≠ah->b<d.B:=λb hb=>by have:=S.ro b hb;omega
 have hxs:∀x∈gO Wk d.j tk d.come d.gone pn,x.1.block≠d.Wg:=λx hx=>by rcases lj hx with⟨h,_⟩|⟨h,_⟩ <;>(rw[h];omega)
 have O':(d.join Wk tk pn jC).Ok:=Pt S.fit.ok ai ai ai (λi hi=>by have:=(S.lt i hi).2.2.1;omega) hxs;have hW:∀i,i<d.j->d.W i≠Wk:=λi hi=>by have:=(S.lt i hi).1;omega
 refine⟨⟨⟨E'.P.trans S.E.P,E'.S.trans S.E.S,dm S.E.j E'.j,E'.base.trans S.E.base,E'.come.trans S.E.come,E'.gone.trans S.E.gone,E'.Wg.trans S.E.Wg,E'.C.trans S.E.C,dm S.E.B E'.B,E'.ty.trans S.E.ty,E'.csC.trans S.E.csC,E'.eC.trans S.E.eC,E'.cs0.trans S.E.cs0,E'.ro.trans S.E.ro,λi hi=>(E'.turn i (iR hi S.E.j)).trans (S.E.turn i hi),λi hi=>(E'.W i (iR hi S.E.j)).trans (S.E.W i hi),λi hi=>(E'.facts i (iR hi S.E.j)).trans (S.E.facts i hi),λi hi=>(E'.cw i (iR hi S.E.j)).trans (S.E.cw i hi),λi hi=>(E'.fw i (iR hi S.E.j)).trans (S.E.fw i hi)⟩,?_,λi hi=>?_,λi hi=>?_,λi hi=>?_,⟨L.1,L.2.1,L.2.2.1,by show d.Wg<pn+1;omega⟩,S.ro⟩,Pt S.fit.ok ai ai ai (λi hi=>by have:=(S.lt i hi).2.2.1;omega) λx hx=>hxs x (List.mem_of_mem_take hx)⟩
 .refine Vu S.fit O' ⟨(0,5),by simp[sL]⟩ (λx hx=>?_) rfl (λx hx=>?_) (λi hi x hx=>?_) ?_ ai ?_ hcw hW
  .rcases lj hx with⟨h,h',_⟩|⟨h,h',_⟩
   .exact⟨(0,5),by simp[sL,h],bQ _,h'⟩
   .exact⟨(0,1),by simp[sL,h];omega,bQ _,by rw[h'];exact Nat.zero_lt_one⟩
  .rcases lj hx with⟨h,h',_⟩|⟨h,h',_⟩
   .exact .inl ⟨h,bQ _,nD⟩
   .exact .inr ⟨ai,λi hi=>by have:=(S.lt i hi).1;omega⟩
  .rw[S.facts i hi]at hx;have:=S.lt i hi;rcases lj hx with⟨h,_⟩|⟨h,_⟩ <;>omega
  .have h1:¬d.C=Wk:=ai;have h2:¬d.C=pn:=ai;simp[sL,h1,h2]
  .cases e:d.ro Wk with
   |none=>rfl
   |some f=>have:=hro Wk oM;omega
 .show(if(if i=d.j then Wk else d.W i)=Wk then ae (0,12)else d.fm (if i=d.j then Wk else d.W i))=_;have hi:i<d.j+1:=hi;by_cases e:i=d.j
  .simp[e]
  .simp only[aU e];rw[aU (hW i ai)];exact S.fm i ai
 .have hi:i<d.j+1:=hi;show(if i=d.j then _ else d.facts i)=gO (if i=d.j then Wk else d.W i) i (if i=d.j then tk else d.turn i) d.come d.gone (if i=d.j then pn else nb i);by_cases e:i=d.j
  .simp[e]
  .rw[aU e,aU e,aU e,aU e];exact S.facts i ai
 .have hi:i<d.j+1:=hi;show(if i=d.j then Wk else d.W i) <pn+1/\(if i=d.j then pn else nb i) <pn+1/\(if i=d.j then tk else d.turn i) <pn+1/\d.Wg< (if i=d.j then Wk else d.W i)/\d.Wg< (if i=d.j then pn else nb i)/\d.Wg< (if i=d.j then tk else d.turn i);by_cases e:i=d.j
  .simp only[e,if_true];omega
  .simp only[e,if_false];have:=S.lt i ai;omega
end
end
section
open Go Go.Conc Go.ConcN Go.RowKit Go.Conc.Lib Go.ConcR.Gen Go.ConcN.Gen
open Go.ConcR (KK wgBlock WgAt stA smA rd wr mk Payload Aside2 DC0)
variable[Inhabited dc]
structure Vv(d:bp)(r:aj)(n:Nat)(w:aj):Prop where
 size:w.heap.size=r.heap.size+n
 old:∀b,b<r.heap.size->b≠d.Wg->w.heap[b]? =r.heap[b]?
 keep:d.K w
 os:w.os=r.os/\w.output=r.output
section
variable{r w w₁:aj}{n h:Nat}
theorem Vv.rely(O:d.Ok)(hr:RH d.cc w w₁)(F:Vv d r n w):Vv d r n w₁:=⟨hr.size.trans F.size,λb h1 h2=>(hr.block b h2).trans (F.old b h1 h2),(nS O).keep _ _ hr.g F.keep,hr.os.trans F.os.1,hr.output.trans F.os.2⟩
theorem adb{a:aP}(h:a.block≠d.Wg):EvH d.cc ⟨.cell a,aw,aw⟩:=by
 refine⟨λx hx=>⟨λg hg=>?_,λhs=>?_⟩,aJ,aJ,aJ⟩
 .simp only[fH,ly,dD]at hx;subst hx;rfl
 .simp only[fH,ly,dD]at hx;subst hx;obtain⟨y,hy,hb⟩:=hs;simp only[Loc.cell.injEq]at hy;subst hy;exact aT hb h
theorem Vv.read{es:Array cK}(he:∀e∈es,∃a:aP,e=⟨.cell a,aw,aw⟩/\a.block≠d.Wg):Ln d.cc Inb h w w es:=⟨id,λ_ _ _ _ _ _=>rfl,rfl,rfl,λe h=>by obtain⟨a,rfl,ha⟩:=he e h;exact adb ha⟩
theorem Vv.alloc(hC:d.ri Inb)(F:Vv d r n w)(o:Obj):Ln d.cc Inb h w (w.alloc o) #[]/\Vv d r (n+1) (w.alloc o)/\(w.alloc o).heap[w.heap.size]? =ae o:=by
 have hold:∀b,b<w.heap.size->(w.alloc o).heap[b]? =w.heap[b]? :=λb hb=>by show(w.heap.push o)[b]? =_;rw[dz,aU ai]
 have old:∀(b:Nat) x,w.heap[b]? =ae x->(w.alloc o).heap[b]? =ae x:=λb x hx=>(hold b (aL hx)).trans hx;have hKK:d.K w->d.K (w.alloc o):=λ⟨⟨⟨st,sm,k1⟩,k2,k3⟩,⟨c1,k4⟩,⟨c2,k5⟩,k6,kx⟩=>⟨⟨⟨st,sm,old _ _ k1⟩,λi hi x hx=>by rw[←k2 i hi x hx];exact dr (w:=w) (hold _ (kA (k2 i hi x hx))),old _ _ k3⟩,⟨c1,old _ _ k4⟩,⟨c2,old _ _ k5⟩,λi hi=>by obtain⟨k,hk⟩:=k6 i hi;exact⟨k,old _ _ hk⟩,λb o h1 h2=>old _ _ (kx b o h1 h2)⟩;obtain⟨⟨⟨st,sm,k1⟩,k2,k3⟩,⟨c1,k4⟩,⟨c2,k5⟩,k6,_⟩:=id F.keep;refine⟨⟨hKK,λi s b _ hs hb=>?_,hold _ (aL k1),hold _ (aL k3),λe he=>by simp at he⟩,⟨by simp[F.size];omega,λb h1 h2=>by rw[hold b (by rw[F.size];omega)];exact F.old b h1 h2,hKK F.keep,F.os⟩,?_⟩
 .rcases hC i s b hs hb with rfl|rfl|⟨k,hk,rfl⟩
  .exact hold _ (aL k4)
  .exact hold _ (aL k5)
  .obtain⟨x,hx⟩:=k6 k hk;exact hold _ (aL hx)
 .show(w.heap.push o)[w.heap.size]? =_;rw[dz,aX rfl]
end
theorem GY{C Wg:Nat}{a b c:aj}(h1:Aside2 C Wg a b)(h2:Aside2 C Wg b c):Aside2 C Wg a c:=⟨h2.tape.trans h1.tape,h2.os.trans h1.os,h2.output.trans h1.output,h2.size.trans h1.size,λk x y=>(h2.block k x y).trans (h1.block k x y)⟩
theorem Vw(hP:d.P=aC)(Iz:d.ty=link.tWg){b:aB}{ops:Array aZ}{id:Nat}{o:aZ}{k:List Item}{xs:Array Operand}(hk:b.kind≠.early)
  (ho:ops[0]? =ae o)(hw:dF o (dW ops a.tmps)=au)(hop:o.op=.call {callee:=.value (.func link.add),args:=xs,argTypes:=ats})(hxs:xs.map a.eval=#[aI (ae ⟨d.Wg,0,ah⟩),aq af 1])
  (hs:eO.size=2)(ho0:eO[0]? =ae o0)(hw0:dF o0 (dW eO (a.put o.dst (.tuple #[])).tmps)=au)(vY:∀w,(bT (a.put o.dst (.tuple #[])).eval o0).runT aC w #[]=(.ok (.value v) w,#[]))(r:aj)(Low:Nat)(hK:d.K r):
  ∃m,Goes d.P au (RC d.ty d.Wg d.C) (DP d.Wg Dz d.cc.Rd d.j Low) (OL d.P d.ty d.Wg d.C d.cc.Rd Low d.j (λg w=>g=cy (b.at ((a.put o.dst (.tuple #[])).put o0.dst v) (bI eO [1]:: .code z::k)) (fs++d.cs0)/\Aside2 d.C d.Wg r w)) m (cy (b.at a (bI ops [0]:: .code (.seq (.region id eO aw) z)::k)) (fs++d.cs0)) r:=by
 rw[hP,Iz];have hF2:∀w w',Aside2 d.C d.Wg w w'->Aside2 d.C d.Wg r w->Aside2 d.C d.Wg r w':=λw w' h1 h2=>GY h2 h1;have hl:dG link.tWg d.Wg r:=by have:=hK.1.1;rwa [Iz]at this
 refine⟨60,ahj (C:=d.C) (Rd:=d.cc.Rd) (Low:=Low) (j:=d.j) (mT:=4) (F:=Aside2 d.C d.Wg r) (b₀:=b) (a₀:=a) (ops₀:=ops) (i₀:=0) (rest₀:=[]) (k₀:=.code (.seq (.region id eO aw) z)::k) (cs:=fs++d.cs0) OW hF2 (λw hA hl=>?_) ho hw hk hop hxs r ⟨⟨rfl,rfl,rfl,rfl,λ_ _ _=>rfl⟩,hl⟩⟩;rw[ho];have hF:Aside2 d.C d.Wg r w/\dG link.tWg d.Wg w:=⟨hA,hl⟩;clear hA hl;change Goes aC au _ _ _ 4 (G (b.at (a.put o.dst (.tuple #[])) (bI ops []:: .code (.seq (.region id eO aw) z)::k)) (fs++d.cs0)) w;u_c bP (bg hF2) hF
 u_c bU (bg hF2) hF
 u_in (bg hF2) hF
 rw[gv,hs];simp only[cG];refine⟨by u_nil,?_⟩;refine cn rfl (λw₁ h₁=>?_);replace hF:=bg hF2 hF h₁;clear h₁;have hg:=stepG_oper (P:=aC) (main:=au) (b:=b) (a:=a.put o.dst (.tuple #[])) (k:=.code z::k) (cs:=fs++d.cs0) (w:=w₁) (rest:=[1]) ho0 hw0;have qI:((b.at (a.put o.dst (.tuple #[])) (bI eO [0,1]:: .code z::k)).kind==gA)=aw:=by show(b.kind==gA)=aw;cases e:b.kind<;>first|rfl|exact aT e hk
 have mh:(b.at (a.put o.dst (.tuple #[])) (bI eO [0,1]:: .code z::k)).finish v=b.at ((a.put o.dst (.tuple #[])).put o0.dst v) (bI eO [1]:: .code z::k):=by rw[iB,ho0];rfl
 have h:=hg.trans (jy (fr:=b.at (a.put o.dst (.tuple #[])) (bI eO [0,1]:: .code z::k)) (cs:=fs++d.cs0) qI (vY w₁));rw[mh,show seen aC (b.at (a.put o.dst (.tuple #[])) (bI eO [0,1]:: .code z::k)).fn #[] ++ #[]=#[]from by simp[seen]]at h;change (bn aC au (G (b.at (a.put o.dst (.tuple #[])) (bI eO [0,1]:: .code z::k)) (fs++d.cs0)) w₁).goes _;rw[show bn aC au (G (b.at (a.put o.dst (.tuple #[])) (bI eO [0,1]:: .code z::k)) (fs++d.cs0)) w₁=_ from h];simp only[cG];refine⟨by u_nil,?_⟩;refine gM (λw₂ h₂=>?_);exact⟨rfl,(bg hF2 hF h₂).1⟩
end
section
open Go Go.Conc Go.ConcN Go.RowKit
open Go.ConcR (KK wgBlock WgAt stA smA rd wr mk Payload Aside2 DC0)
variable[Inhabited dc]
section
structure jl(J:gS σ)(ro:Nat->Option (Nat×Nat))(k:Nat)(w:aj)(cv:ay):Prop where
 ex:∃cb co cap,(cv=aD (ae ⟨cb,co,ah⟩) (J.c.calls k).length cap\/(cv=aD ah 0 0/\J.c.calls k=[]))/\(J.c.calls k≠[]->ro cb≠ah)/\
  ∀i c,(J.c.calls k)[i]? =ae c->∃pv,w.cell? ⟨cb,co+i*5,ah⟩=ae (aq af c.kind)/\w.cell? ⟨cb,co+i*5+1,ah⟩=ae (aq af c.a)/\w.cell? ⟨cb,co+i*5+2,ah⟩=ae (aq af c.b)/\w.cell? ⟨cb,co+i*5+3,ah⟩=ae (aq af c.c)/\w.cell? ⟨cb,co+i*5+4,ah⟩=ae pv/\
   SlP w pv c.pairs/\∀y n e,pv=aD (ae y) n e->ro y.block≠ah
def aah(ro:Nat->Option (Nat×Nat))(w:aj):Prop:=∀b,ro b≠ah->∃c e f,w.heap[b]? =ae (aK c e f)
theorem jl.same{ro:Nat->Option (Nat×Nat)}{w:aj}(h:jl J ro k w cv)(hs:∀b,ro b≠ah->∀x:aP,x.block=b->w'.cell? x=w.cell? x):jl J ro k w' cv:=by
 obtain⟨cb,co,cap,h1,h2,h3⟩:=h.ex;refine⟨cb,co,cap,h1,h2,λi c hc=>?_⟩;have hne:J.c.calls k≠[]:=λe=>by rw[e]at hc;cases hc
 obtain⟨pv,a0,a1,a2,a3,a4,a5,a6⟩:=h3 i c hc;have hb:=λo=>hs cb (h2 hne) ⟨cb,o,ah⟩ rfl;exact⟨pv,(hb _).trans a0,(hb _).trans a1,(hb _).trans a2,(hb _).trans a3,(hb _).trans a4,a5.same λx n e h y hy=>hs x.block (a6 x n e h) y hy,a6⟩
theorem jl.to{w:aj}{s:σ}(h:jl J d.ro k w cv)(hL:J.L.Ok d.ro)(hr:J.L.Rep s w)(hro:aah d.ro w)(hW:d.ro (d.W k)=ah):CK J d k w cv:=by
 have key:∀b,d.ro b≠ah->b≠d.W k/\¬J.L.Foot w b/\∃o,w.heap[b]? =ae o/\o≠eh:=λb hb=>by refine⟨λe=>hb (by rw[e];exact hW),λhf=>hb (hL.foot _ _ _ hr hf).2,?_⟩;obtain⟨c,e,f,hc⟩:=hro b hb;exact⟨_,hc,bu⟩
 obtain⟨cb,co,cap,h1,h2,h3⟩:=h.ex;refine⟨cb,co,cap,h1,λhne=>?_,λi c hc=>?_⟩
 .obtain⟨a,b,o,e,g⟩:=key cb (h2 hne);exact⟨a,b,h2 hne,o,e,g⟩
 .obtain⟨pv,a0,a1,a2,a3,a4,a5,a6⟩:=h3 i c hc;exact⟨pv,a0,a1,a2,a3,a4,⟨pv,rfl,a5,λx n e h=>key _ (a6 x n e h)⟩,a6⟩
def DoSpec(J:gS σ)(ro:Nat->Option (Nat×Nat))(AD:Nat)(x:ay):Prop:=
 ∀(d:bp) (k nb tW:Nat),Hand J d k nb->d.ro=ro->∀c t w1 v,c∈J.c.calls k->Run J d tW k t au (t-J.n) (J.L.call k c) w1->CallV J d k w1 v c->
  CallsM aC aw (d.cw k) (JW d (J.cP d.W) k) (λ_ _ _ _=>False) (pT d k) t AD #[x,aI (ae ⟨d.W k,0,ah⟩),v] w1 λt' v w'=>∃g' a,Run J d tW k t' g' (t-J.n) (.ret a) w'/\gD J d k w1 w'/\AB J w1.heap.size w' v a
structure Gig(J:gS σ)(ro:Nat->Option (Nat×Nat))(AD:Nat)(x dv:ay):Prop where
 L:J.L.Ok ro
 most:J.c.most<=20000
 tA:J.tA=48
 meth:∀(w:aj) (args:Array ay),(callMethod dv "Do" args).runT aC w #[]=(.ok (.enter AD (#[x] ++args)) w,#[])
 do_:DoSpec J ro AD x
 got:∀t i,i<J.n->((J.ar t).w i).got.length<100000
 big:∀i,i<J.n->J.len i<100000
variable{AD Wk:Nat}{x dv:ay}{w:aj}{rf:aB}
theorem Squad.hand(Sq:Squad J d0 d nb)(hP:d.P=aC)(hbase:d.base=J.n)(hj:d.j<J.n)(h1:d.B<=tk)(h2:d.B<=Wk)(h3:Wk<pn)(h4:tk<pn):Hand J (d.join Wk tk pn [rf,bot]) d.j pn:=by
 obtain⟨S',_⟩:=Sq.join (jC:=[rf,bot]) h1 h2 h3 h4 aJ;have L:=Sq.low;have eW:(d.join Wk tk pn [rf,bot]).W d.j=Wk:=by show(if d.j=d.j then Wk else _)=_;rw[aX rfl]
 have ecw:(d.join Wk tk pn [rf,bot]).cw d.j=[rf,bot]:=by show(if d.j=d.j then [rf,bot]else _)=_;rw[aX rfl]
 refine⟨hP,S'.fit.ok,hbase,Nat.lt_succ_self _,hj,?_,λb=>?_,?_,λb hb=>?_,?_,?_⟩
 .have:=S'.facts d.j (Nat.lt_succ_self _);rw[aX rfl]at this;exact this
 .rw[eW];show(if d.j=d.j then sL Wk pn else _) b=_;rw[aX rfl];rfl
 .rw[eW];omega
 .have hb:d.ro b≠ah:=hb;have:=Sq.ro b hb;rw[eW];omega
 .rw[eW];exact⟨by show Wk<pn+1;omega,by show pn<pn+1;omega⟩
 .rw[ecw];simp
theorem Vx(Sq:Squad J d0 d nb)(hj:d.j<J.n)(h1:d.B<=tk)(h2:d.B<=Wk)(h3:Wk<pn)(h4:tk<pn)(hsz:w.heap.size=pn)(G:Gig J d.ro AD x dv)(hNk:Nk Wk)
  (hW:w.heap[Wk]? =ae (aK (dK d.j tk d.come d.gone aw 0 0 0 (aD ah 0 0)) tW (0,0)))(hro:aah d.ro w)(hcalls:jl J d.ro d.j w cv)
  (F:First d (d.join Wk tk pn [rf,bot]) (J.cP (d.join Wk tk pn [rf,bot]).W) d.j Nk (aK #[aI (ae ⟨Wk,0,ah⟩)] 117 (0,0)) w a0):
  LoopAt J (d.join Wk tk pn [rf,bot]) tW d.j pn 0 ⟨d.j+1,a0⟩ cv a0:=by
 obtain⟨S',_⟩:=Sq.join (jC:=[rf,bot]) h1 h2 h3 h4 aJ;have L:=Sq.low;have eW:(d.join Wk tk pn [rf,bot]).W d.j=Wk:=by show(if d.j=d.j then Wk else _)=_;rw[aX rfl]
 have et:(d.join Wk tk pn [rf,bot]).turn d.j=tk:=by show(if d.j=d.j then tk else _)=_;rw[aX rfl]
 have efw:(d.join Wk tk pn [rf,bot]).fw d.j=sL Wk pn:=by show(if d.j=d.j then sL Wk pn else _)=_;rw[aX rfl]
 have e0:J.ar d.j=AR.yP J.c J.s0:=J.tU ai;have e1:J.ar (d.j+1)=AR.yP J.c J.s0:=J.tU ai;have hinv:J.L.Rep J.s0 a0:=by have h:J.L.Rep (J.ar d.j).s a0:=F.inv;rw[e0]at h;exact h
 have Mg:a0.heap[Wk]? =ae (aK (dK d.j tk d.come d.gone aw 0 0 0 (aD ah 0 0)) tW (0,5)):=by rw[F.own Wk hNk ai,hW,efw];simp[sL,tL]
 have jd:a0.heap[pn]? =ae (aK #[aI (ae ⟨Wk,0,ah⟩)] 117 (0,1)):=by have:=F.new;rw[hsz,efw]at this;rw[this,tL];have hne:¬pn=Wk:=ai;simp[sL,hne]
 have py:∀b c e f,a0.heap[b]? =ae (aK c e f)->f≠(0,0)->¬J.L.Foot a0 b:=λb c e f h hf hF=>by obtain⟨⟨c',e',h'⟩,_⟩:=G.L.foot _ _ _ hinv hF;rw[h]at h';simp only[dD,vw]at h';exact hf h'.2.2
 have ahH:∀b,d.ro b≠ah->b<d.B:=λb hb=>by have:=Sq.ro b hb;omega
 have AU:∀b,d.B<=b->d.ro b=ah:=λb hb=>by
  cases e:d.ro b with
  |none=>rfl
  |some f=>have:=ahH b oM;omega
 refine⟨J.L.grefl _,⟨0,0,aD ah 0 0,?_⟩,by rw[e1];rfl,by rw[e1];rfl,Nat.lt_succ_self _,by rw[eW];exact jd,?_⟩
 .rw[e1];refine⟨hinv,by rw[eW,et];exact Mg,⟨ah,0,rfl,λi x h=>dB⟩,⟨λb hb=>?_,⟨[],rfl,.inl ⟨rfl,rfl⟩⟩,λx n e h=>dB⟩,λb f hf=>?_,⟨λb o p h=>dB,λ_=>rfl⟩⟩
  .obtain⟨y,m,e,h,_⟩:=hb;cases h
  .rw[efw]at hf;unfold sL at hf;split at hf
   .rename_i e;obtain rfl:=bj hf;subst e;exact⟨⟨_,_,Mg⟩,py _ _ _ _ Mg aJ,AU _ h2⟩
   .split at hf
    .rename_i e;obtain rfl:=bj hf;subst e;exact⟨⟨_,_,jd⟩,py _ _ _ _ jd aJ,AU _ ai⟩
    .cases hf
 .have hc':jl J d.ro d.j a0 cv:=hcalls.same λb hb x hx=>dr (w:=w) (by rw[hx];exact F.ro b hb);exact jl.to (d:=d.join Wk tk pn [rf,bot]) hc' G.L hinv (λb hb=>by rw[F.ro b hb];exact hro b hb) (by rw[eW];exact AU _ h2)
end
end
section
open Go Go.Conc Go.ConcN Go.RowKit
structure fC where
 cell:Nat
 old:Int
 next:Int
structure mK where
 es:List fC
 st:Nat
structure JS where
 ws:List Int
 ds:Nat->Option mK
 made:Nat->Nat
namespace JS
def w(s:JS)(c:Nat):Int:=s.ws.getD c 0
def st(s:JS)(d:Nat):Nat:=((s.ds d).map (·.st)).getD 0
def es(s:JS)(d:Nat):List fC:=((s.ds d).map (·.es)).getD []
def vF(c:Nat)(o v:Int)(s:JS):JS:=if s.w c=o then{s with ws:=s.ws.set c v}else s
def decide(d v:Nat)(s:JS):JS:=if s.st d=0 then{s with ds:=λx=>if x=d then(s.ds d).map ({· with st:=v})else s.ds x}else s
def make(k:Nat)(es:List fC)(s:JS):JS:={s with ds:=λx=>if x=k+8*s.made k then ae ⟨es,0⟩else s.ds x,made:=λx=>if x=k then s.made k+1 else s.made x}
end JS
def bo(d:Nat):Int:= -(d:Int) -1
def bV(h:Int):Int:=h / 1099511627776
abbrev qM(α:Type):=Go.Proofs.YtfmibhmknlnoiaaGreat.Pr JS α
section
open Go.Proofs.YtfmibhmknlnoiaaGreat.Pr
def casP(c:Nat)(o v:Int):qM Bool:=.line (.eff (JS.vF c o v) λs=>.ret (s.w c==o))
def installsP(j6:Nat->qM Bool)(d:Nat)(es:List fC):Nat->Nat->qM Bool
 |0,_=>.stop
 |f+1,i=>match es[i]? with
  |none=>.ret au
  |some e=>.line (.eff id λs=>if s.st d≠0 then .ret aw else
    (casP e.cell e.old (bo d)).bind λok=>if ok then installsP j6 d es f (i+1)else
     .line (.eff id λs=>if s.w e.cell=bo d then installsP j6 d es f (i+1)else
      if s.w e.cell<0 then(j6 (-(s.w e.cell) -1).toNat).bind λ_=>installsP j6 d es f i else
       .line (.eff (JS.decide d 2) λ_=>.ret aw)))
def jH(d:Nat)(is:Bool):List fC->qM Unit
 |[]=>.ret ()
 |e::es=>(casP e.cell (bo d) (if is then dR e.old e.next else e.old)).bind λ_=>jH d is es
def kt:Nat->Nat->qM Bool
 |0,_=>.stop
 |f+1,d=>.eff id λs=>(installsP (kt f) d (s.es d) f 0).bind λok=>(if ok then .line (.eff (JS.decide d 1) λ_=>.ret ())else .ret ():qM Unit).bind λ_=> .line (.eff id λs'=>(jH d (decide (s'.st d=1)) (s.es d)).bind λ_=>.ret (decide (s'.st d=1)))
def iF(F:Nat):Nat->Nat->qM Int
 |0,_=>.stop
 |f+1,c=>.line (.eff id λs=>if s.w c<0 then(kt F (-(s.w c) -1).toNat).bind λ_=>iF F f c else .ret (s.w c))
def doesP(F k:Nat)(es:List fC):qM (Bool×Int):=.eff id λs=>if 1024<=s.made k then .ret (aw,261)else
 .eff (JS.make k es) λs=>(kt F (k+8*s.made k)).bind λok=>.ret (ok,0)
def againG(pr:β->Bool×Int)(q:qM β):Nat->qM β
 |0=>.stop
 |m+1=>q.bind λx=>if(pr x).1=au\/(pr x).2≠0 then .ret x else againG pr q m
def x9(F n:Nat)(c:Int):qM (Int×Int):=if 0<=c/\c<n then(iF F F c.toNat).bind λh=>.ret (bV h,0)else .line (.ret (0,262))
def mL(v:Int):Bool:=decide (0<=v/\v<=1048575)
def ya(F k a b:Nat)(sw:Bool)(m:Int):qM (Bool×Int):=(iF F F a).bind λh=>(iF F F b).bind λg=>
 let x:=if sw then bV h+m else bV h-m
 let y:=if sw then bV g-m else bV g+m
 let lo:=if sw then y else x
 let hi:=if sw then x else y
 if lo<0 then .ret (aw,265)else if mL hi=aw then .ret (aw,263)else doesP F k [⟨a,h,x⟩,⟨b,g,y⟩]
def Kr(F k n:Nat)(f t m:Int):qM (Bool×Int):=
 if¬(0<=f/\f<n)\/¬(0<=t/\t<n)\/f=t then .line (.ret (aw,262))else if mL m=aw then .line (.ret (aw,263))else
  againG id (ya F k (min f t).toNat (max f t).toNat (decide (t<f)) m) F
def g7(F:Nat):List Nat->qM (List Int)
 |[]=>.ret []
 |c::l=>(iF F F c).bind λh=>(g7 F l).bind λr=>.ret (h::r)
def ku(F k n:Nat):qM ((Bool×Int)×List Int):=(g7 F (dx n)).bind λhs=>(doesP F k (hs.zipIdx.map λp=>⟨p.2,p.1,bV p.1⟩)).bind λr=>.ret (r,hs.map bV)
def vG(F k n:Nat):qM (List Int×Int):=(againG Prod.fst (ku F k n) F).bind λr=>if r.1.2≠0 then .ret ([],r.1.2)else .ret (r.2,0)
def tryChP(F k:Nat)(pre:List fC):List cT->qM (Bool×Int)
 |[]=>doesP F k pre
 |e::l=>(iF F F e.c.toNat).bind λh=>if bV h≠e.o then .ret (aw,264)else tryChP F k (pre++[⟨e.c.toNat,h,e.n⟩]) l
def GZ:List (Int×Int)->List cT
 |p::q::r=>⟨p.1,p.2,q.2⟩::GZ r
 |_=>[]
def jI(n:Nat)(A B:Int):List (Int×Int):=(dx n).flatMap λ(j:Nat)=>[((j:Int),A),((j:Int),B)]
def pq(n:Nat)(c:bs):Prop:=c.kind=2->(0<=c.a/\c.a<=1000)/\(0<=c.b/\c.b<=1000)/\(1<=n/\n<=16)/\c.pairs=jI n c.a c.b
def ij(n:Nat)(A B:Int):List cT:=(dx n).map λ(j:Nat)=>⟨(j:Int),A,B⟩
theorem C1(n:Nat)(A B:Int):GZ (jI n A B)=ij n A B:=by
 have key:∀l:List Nat,GZ (l.flatMap λ(j:Nat)=>[((j:Int),A),((j:Int),B)])=l.map λ(j:Nat)=>⟨(j:Int),A,B⟩:=by
  intro l;induction l with
  |nil=>rfl
  |cons x l ih=>exact congrArg (_:: ·) ih
 exact key _
def yb(e:Int)(n:Int)(l:List Int):kC:={ok:=decide (e=0),n:=n,m:=0,err:=e,ints:=l,pairs:=[]}
def uk(F n k:Nat)(c:bs):qM kC:=
 if c.kind=1 then(x9 F n c.a).bind λr=>.ret (yb r.2 r.1 [])else
 if c.kind=3 then(Kr F k n c.a c.b c.c).bind λr=>.ret (yb r.2 0 [])else
 if c.kind=4 then(vG F k n).bind λr=>.ret (yb r.2 0 r.1)else
 if c.kind=2 then(againG id (tryChP F k [] (GZ c.pairs)) F).bind λr=>.ret (yb r.2 0 [])else .ret (yb 260 0 [])
end
def fD(e:fC):List ay:=[Value.int .i64 e.cell,Value.int .i64 e.old,Value.int .i64 e.next]
def gU(D:mK):Array ay:=(Value.int .i64 (D.es.length:Int)::D.es.flatMap fD++eA (192-3*D.es.length) (Value.int .i64 0) ++[Value.int .i32 (D.st:Int)]).toArray
structure JS.Ok(s:JS):Prop where
 few:1<=s.ws.length/\s.ws.length<=64
 word:∀c,c<s.ws.length->(0<=s.w c/\s.w c<=1152921504606846975)\/∃d,d<8192/\s.w c=bo d/\s.ds d≠ah
 desc:∀d D,s.ds d=ae D->d<8192/\1<=D.es.length/\D.es.length<=64/\D.st<=2/\∀e∈D.es,e.cell<s.ws.length/\0<=e.old/\e.old<=1152921504606846975/\0<=e.next/\e.next<=1048575
 made:∀k,k<8->s.made k<=1024/\∀m,s.made k<=m->s.ds (k+8*m)=ah
structure JRep(b c lo n:Nat)(s:JS)(w:aj):Prop where
 ok:s.Ok
 len:s.ws.length=n
 ne:b≠c
 hlo:b<lo/\c<lo
 bb:∃cb e,w.heap[b]? =ae (aK cb e (0,0))/\cb.size=8201
 cc:∃e,w.heap[c]? =ae (aK (s.ws.map λx=>Value.int .i64 x).toArray e (0,0))
 hdr:w.cell? ⟨b,0,ah⟩=ae (aD (ae ⟨c,0,ah⟩) n n)
 all:∀d,d<8192->match s.ds d with
  |none=>∃u,w.cell? ⟨b,1+d,ah⟩=ae u/\∀t,u≠aI (ae t)
  |some D=>∃t,w.cell? ⟨b,1+d,ah⟩=ae (aI (ae ⟨t,0,ah⟩))/\lo<=t/\w.heap[t]? =ae (aK (gU D) 187 (0,0))
 made:∀k,k<8->w.cell? ⟨b,8193+k,ah⟩=ae (aq af (s.made k))
 inj:∀d d' t,d<8192->d'<8192->w.cell? ⟨b,1+d,ah⟩=ae (aI (ae t))->w.cell? ⟨b,1+d',ah⟩=ae (aI (ae t))->d=d'
def cU(b c:Nat)(w:aj)(x:Nat):Prop:=x=b\/x=c\/∃d t,d<8192/\w.cell? ⟨b,1+d,ah⟩=ae (aI (ae t))/\x=t.block
def JG(b:Nat)(w w':aj):Prop:=∀d t,d<8192->w.cell? ⟨b,1+d,ah⟩=ae (aI (ae t))->w'.cell? ⟨b,1+d,ah⟩=ae (aI (ae t))/\∀i,i<193->w'.cell? ⟨t.block,i,ah⟩=w.cell? ⟨t.block,i,ah⟩
def cI(F b c lo n:Nat):wq JS:={call:=uk F n,Rep:=JRep b c lo n,Foot:=cU b c,G:=JG b,grefl:=λ_ _ _ _ h=>⟨h,λ_ _=>rfl⟩,gtrans:=λ_ _ _ h g d t hd e=>⟨(g d t hd (h d t hd e).1).1,λi hi=>((g d t hd (h d t hd e).1).2 i hi).trans ((h d t hd e).2 i hi)⟩}
theorem zv{c n:Nat}{ro:Nat->Option (Nat×Nat)}(hb:ro b=ah)(hc:ro c=ah)(hl:∀x,lo<=x->ro x=ah):(cI F b c lo n).Ok ro:=by
 refine⟨λs w w' R h=>?_,λs w x R h=>?_,λs w w' R h d t hd e=>?_⟩
 .have R:JRep b c lo n s w:=R;have h:∀x,cU b c w x->w'.heap[x]? =w.heap[x]? :=h;have hbb:=h b (.inl rfl);have hcell:∀o,w'.cell? ⟨b,o,ah⟩=w.cell? ⟨b,o,ah⟩:=λo=>dr (w:=w) hbb;refine⟨⟨R.ok,R.len,R.ne,R.hlo,by rw[hbb];exact R.bb,by rw[h c (.inr (.inl rfl))];exact R.cc,by rw[hcell];exact R.hdr,λd hd=>?_,λk hk=>by rw[hcell];exact R.made k hk,λd d' t h1 h2 h3 h4=>R.inj d d' t h1 h2 (by rw[←hcell];exact h3) (by rw[←hcell];exact h4)⟩,λx=>?_⟩
  .have ha:=R.all d hd;cases e:s.ds d with
   |none=>simp only[e]at ha⊢;rw[hcell];exact ha
   |some D=>simp only[e]at ha⊢;obtain⟨t,h1,h2,h3⟩:=ha;exact⟨t,by rw[hcell];exact h1,h2,by rw[h t (.inr (.inr ⟨d,_,hd,h1,rfl⟩))];exact h3⟩
  .show cU b c w' x↔cU b c w x;unfold cU;simp only[hcell]
 .have R:JRep b c lo n s w:=R;rcases h with rfl|rfl|⟨d,t,hd,h1,rfl⟩
  .obtain⟨cb,e,h1,_⟩:=R.bb;exact⟨⟨_,_,h1⟩,hb⟩
  .obtain⟨e,h1⟩:=R.cc;exact⟨⟨_,_,h1⟩,hc⟩
  .have ha:=R.all d hd;cases e:s.ds d with
   |none=>simp only[e]at ha;obtain⟨u,h2,h3⟩:=ha;rw[h1]at h2;exact aT (bj h2).symm (h3 t)
   |some D=>simp only[e]at ha;obtain⟨t',h2,h3,h4⟩:=ha;rw[h1]at h2;simp only[dD,Value.pointer.injEq]at h2;subst h2;exact⟨⟨_,_,h4⟩,hl _ h3⟩
 .have h:∀x,cU b c w x->w'.heap[x]? =w.heap[x]? :=h;exact⟨(dr (w:=w) (h b (.inl rfl))).trans e,λi _=>dr (w:=w) (h t.block (.inr (.inr ⟨d,t,hd,e,rfl⟩)))⟩
section
variable{be0:Nat}{t t0:tO}{w:aj}{p p0:Pr σ kC}{g g0:Bool}{f:σ->σ}{q:σ->Pr σ kC}
theorem aai(hL:J.L.Ok d.ro)(R0:Run J d tW k t0 g0 be0 p0 w0)(R:Run J d tW k t g be (.eff f q) w)(K:gD J d k w0 w):∃s,J.L.Rep s w/\∀w',J.L.Rep (f s) w'->J.L.G w w'->w.heap.size<=w'.heap.size->(∀b,b<w.heap.size->w'.heap[b]?≠w.heap[b]?->J.L.Foot w b)->(∀b,J.L.Foot w' b->J.L.Foot w b\/w0.heap.size<=b)->
  Run J d tW k t g be (q s) w'/\gD J d k w0 w':=by
 obtain⟨s,ow,sl,hM,hb,eI,hW,lq,hown⟩:=R.ex;refine⟨s,eI,λw' Cj hgo hsz hX hF=>?_⟩;have DM:∀b,J.L.Foot w b->(∃c e,w.heap[b]? =ae (aK c e (0,0)))/\d.ro b=ah:=λb hb=>hL.foot _ _ _ eI hb;have hsame:∀b,b<w.heap.size->¬J.L.Foot w b->w'.heap[b]? =w.heap[b]? :=λb hb h=>by apply eV;intro hc;exact h (hX b hb hc)
 have hWn:¬J.L.Foot w (d.W k):=λh=>by obtain⟨⟨c,e,hc⟩,_⟩:=DM _ h;rw[hW]at hc;cases hc
 have h9:=cO hW 9;have sN:=hW;rw[←hsame _ R.blk hWn]at sN;have hblk:∀b,cC w sl b->w'.heap[b]? =w.heap[b]? :=λb hb=>by obtain⟨_,h2,_,o,h3,_⟩:=hown.blk b hb;exact hsame b (bF.1 h3).1 h2
 have hs:∀b,cC w' sl b↔cC w sl b:=sblocks_same λx n e h1 o=>dr (w:=w) (hblk x.block ⟨x,n,e,h1,.inl rfl⟩);have py:∀b,¬J.L.Foot w b->b<w0.heap.size->¬J.L.Foot w' b:=λb h1 h2 h3=>by
  rcases hF b h3 with h|h
  .exact h1 h
  .omega
 refine⟨⟨J.L.gtrans _ _ _ R.go hgo,⟨f s,ow,sl,hM.eff,hb,Cj,sN,gV (λx hx=>dr (w:=w) (hblk _ hx)) lq,λb hb=>?_,tX hown.row hblk,tV hown.far hblk⟩,λb f' hf=>?_⟩,dm K.size hsz,λb o h1 h2 h3 h4=>?_,?_,J.L.gtrans _ _ _ K.go hgo⟩
 .have hb:=(hs b).1 hb;obtain⟨h1,h2,h3,h4⟩:=hown.blk b hb;obtain⟨_,h5⟩:=acI R0 K h9 b hb;exact⟨h1,py b h2 h5,h3,by rw[hblk b hb];exact h4⟩
 .obtain⟨⟨c,e,hc⟩,h2,h3⟩:=R.fw b f' hf;obtain⟨⟨c0,e0,hc0⟩,_,_⟩:=R0.fw b f' hf;have hb0:=(bF.1 hc0).1;exact⟨⟨c,e,by rw[hsame b (bF.1 hc).1 h2];exact hc⟩,py b h2 hb0,h3⟩
 .obtain⟨h5,h6⟩:=K.same b o h1 h2 h3 h4;exact⟨by rw[hsame b (bF.1 h5).1 h6];exact h5,py b h6 (bF.1 h1).1⟩
 .rw[←K.sl9,h9,ax sN];rfl
theorem run_get(R:Run J d tW k t g be (.eff id q) w):∃s,J.L.Rep s w/\Run J d tW k t g be (q s) w:=by obtain⟨s,ow,sl,hM,h⟩:=R.ex;exact⟨s,h.2.1,⟨R.go,⟨s,ow,sl,hM.eff,h⟩,R.fw⟩⟩
end
def fC.Ok(n:Nat)(e:fC):Prop:=e.cell<n/\0<=e.old/\e.old<=1152921504606846975/\0<=e.next/\e.next<=1048575
structure jJ(b n:Nat)(w:aj)(d t:Nat)(es:List fC):Prop where
 lt:d<8192
 ptr:w.cell? ⟨b,1+d,ah⟩=ae (aI (ae ⟨t,0,ah⟩))
 len:w.cell? ⟨t,0,ah⟩=ae (aq af es.length)
 ent:∀i e,es[i]? =ae e->w.cell? ⟨t,1+i*3,ah⟩=ae (aq af e.cell)/\w.cell? ⟨t,1+i*3+1,ah⟩=ae (aq af e.old)/\w.cell? ⟨t,1+i*3+2,ah⟩=ae (aq af e.next)
 ok:∀e∈es,e.Ok n
 few:1<=es.length/\es.length<=64
theorem jJ.keep{n d:Nat}{w:aj}{es:List fC}(h:jJ b n w d t es)(g:JG b w w'):jJ b n w' d t es:=by obtain⟨g1,g2⟩:=g d _ h.lt h.ptr;have hf:=h.few;refine⟨h.lt,g1,by rw[g2 0 ai];exact h.len,λi e he=>?_,h.ok,h.few⟩;have hi:=(eX.1 he).1;obtain⟨a1,a2,a3⟩:=h.ent i e he;exact⟨by rw[g2 _ ai];exact a1,by rw[g2 _ ai];exact a2,by rw[g2 _ ai];exact a3⟩
theorem Ru(es:List fC):∀i e,es[i]? =ae e->∀j,j<3->(es.flatMap fD)[3*i+j]? =(fD e)[j]? :=by
 induction es with
 |nil=>intro i e h;simp at h
 |cons x xs ih=>
  intro i e h j hj;have hl:(fD x).length=3:=rfl;cases i with
  |zero=>simp at h;subst h;rw[List.flatMap_cons,lz ai];simp
  |succ i=>simp at h;rw[List.flatMap_cons,nI ai,←ih i e h j hj];congr 1;omega
theorem ja(es:List fC):(es.flatMap fD).length=3*es.length:=by
 induction es with
 |nil=>rfl
 |cons x xs ih=>rw[List.flatMap_cons,mo,ih];have hl:(fD x).length=3:=rfl;simp;omega
theorem Pu(D:mK)(h:D.es.length<=64):(gU D).size=194:=by unfold gU;simp only[j9,mo,fO,gK,si,ja];omega
theorem ade(D:mK):(gU D)[0]? =ae (aq af (D.es.length:Int)):=by unfold gU;simp
theorem Nh(D:mK)(i:Nat)(e:fC)(h:D.es[i]? =ae e)(j:Nat)(hj:j<3):(gU D)[1+i*3+j]? =(fD e)[j]? :=by have hi:=(eX.1 h).1;unfold gU;rw[kJ,vq,show 1+i*3+j=(3*i+j) +1 by omega];simp only[jZ,nK];rw[lz (by rw[ja];omega),Ru _ _ _ h _ hj]
theorem afH(D:mK)(h:D.es.length<=64):(gU D)[193]? =ae (.int .i32 (D.st:Int)):=by unfold gU;rw[kJ,nI (by simp only[mo,fO,si,ja];omega)];simp only[mo,fO,si,ja];rw[show 193- (3*D.es.length+1+(192-3*D.es.length))=0 by omega];rfl
theorem adf(D:mK)(h:D.es.length<=64)(v:Nat):(gU D).setIfInBounds 193 (.int .i32 (v:Int))=gU {D with st:=v}:=by unfold gU;rw[oF,List.set_append_right _ _ (by simp only[mo,fO,si,ja];omega)];simp only[mo,fO,si,ja];rw[show 193- (3*D.es.length+1+(192-3*D.es.length))=0 by omega];rfl
section
variable{c n:Nat}{s:JS}{w:aj}
theorem JRep.lt(R:JRep b c lo n s w):b<w.heap.size/\c<w.heap.size:=by obtain⟨cb,e,h,_⟩:=R.bb;obtain⟨e',h'⟩:=R.cc;exact⟨(bF.1 h).1,(bF.1 h').1⟩
theorem JRep.word(R:JRep b c lo n s w){i:Nat}(hi:i<n):w.cell? ⟨c,i,ah⟩=ae (aq af (s.w i))/\w.frozen? ⟨c,i,ah⟩=aw:=by
 obtain⟨e,h⟩:=R.cc;refine⟨?_,aM h i (bQ _)⟩;rw[ax h];have:i<s.ws.length:=by rw[R.len];exact hi
 simp[JS.w,eF,this]
theorem JRep.bit(R:JRep b c lo n s w)(o:Nat):w.frozen? ⟨b,o,ah⟩=aw:=by obtain⟨cb,e,h,_⟩:=R.bb;exact aM h o (bQ _)
theorem JRep.desc(R:JRep b c lo n s w){d:Nat}{D:mK}(h:s.ds d=ae D):∃t,jJ b n w d t D.es:=by
 obtain⟨hd,h1,h2,h3,h4⟩:=R.ok.desc d D h;have ha:=R.all d hd;simp only[h]at ha;obtain⟨t,hp,_,ht⟩:=ha;refine⟨t,hd,hp,by rw[ax ht];exact ade D,λi e he=>?_,λe he=>?_,h1,h2⟩
 .refine⟨?_,?_,?_⟩
  .have:=Nh D i e he 0 ai;rw[ax ht];exact this
  .rw[ax ht];exact Nh D i e he 1 ai
  .rw[ax ht];exact Nh D i e he 2 ai
 .have:=h4 e he;rw[R.len]at this;exact this
theorem jJ.there{d:Nat}{es:List fC}(h:jJ b n w d t es)(R:JRep b c lo n s w):∃D,s.ds d=ae D/\lo<=t/\w.heap[t]? =ae (aK (gU D) 187 (0,0)):=by
 have ha:=R.all d h.lt;cases e:s.ds d with
 |none=>simp only[e]at ha;obtain⟨u,h1,h2⟩:=ha;rw[h.ptr]at h1;exact aT (bj h1).symm (h2 _)
 |some D=>simp only[e]at ha;obtain⟨t',h1,h2,h3⟩:=ha;rw[h.ptr]at h1;obtain rfl:t=t':=nG;exact⟨D,rfl,h2,h3⟩
theorem jJ.status{d:Nat}{es:List fC}(h:jJ b n w d t es)(R:JRep b c lo n s w):w.cell? ⟨t,193,ah⟩=ae (.int .i32 (s.st d))/\w.frozen? ⟨t,193,ah⟩=aw/\w.shape? t=ae (187,194):=by
 obtain⟨D,h1,h2,h3⟩:=h.there R;obtain⟨_,_,h4,_⟩:=R.ok.desc d D h1;refine⟨?_,aM h3 _ (bQ _),?_⟩
 .rw[ax h3,afH D h4];simp[JS.st,h1]
 .simp[World.shape?,h3,Pu D h4]
def wU(b n:Nat)(w:aj)(v:Int):Prop:=(0<=v/\v<=1152921504606846975)\/∃d t es,v=bo d/\jJ b n w d t es
theorem wU.keep{v:Int}(h:wU b n w v)(g:JG b w w'):wU b n w' v:=h.imp id λ⟨d,t,es,h1,h2⟩=>⟨d,t,es,h1,h2.keep g⟩
theorem Rv(l:List Int)(i j:Nat)(y:Int)(hi:i<l.length):(l.set i y).getD j 0=if i=j then y else l.getD j 0:=by simp only[eF,List.getElem?_set];split<;>simp_all
theorem JS.Pv(s:JS)(i j:Nat)(v:Int)(hi:i<s.ws.length):({s with ws:=s.ws.set i v}:JS).w j=if i=j then v else s.w j:=Rv _ _ _ _ hi
theorem JRep.put(R:JRep b c lo n s w){i:Nat}{v:Int}(hi:i<n)(hv:wU b n w v):JRep b c lo n {s with ws:=s.ws.set i v} (w.setCell ⟨c,i,ah⟩ (aq af v))/\JG b w (w.setCell ⟨c,i,ah⟩ (aq af v))/\(∀x,cU b c (w.setCell ⟨c,i,ah⟩ (aq af v)) x↔cU b c w x):=by
 have hl:i<s.ws.length:=by rw[R.len];exact hi
 have dA:∀x,x≠c->(w.setCell ⟨c,i,ah⟩ (aq af v)).heap[x]? =w.heap[x]? :=λx hx=>az hx _;have hcell:∀x:aP,x.block≠c->(w.setCell ⟨c,i,ah⟩ (aq af v)).cell? x=w.cell? x:=λx hx=>dr (w:=w) (dA _ hx);have htc:∀d t,d<8192->w.cell? ⟨b,1+d,ah⟩=ae (aI (ae t))->t.block≠c:=λd t hd ht e=>by
  have ha:=R.all d hd;cases e2:s.ds d with
  |none=>simp only[e2]at ha;obtain⟨u,h1,h2⟩:=ha;rw[ht]at h1;exact aT (bj h1).symm (h2 _)
  |some D=>simp only[e2]at ha;obtain⟨t',h1,h2,h3⟩:=ha;rw[ht]at h1;obtain rfl:t=⟨t',0,ah⟩:=nG;have:=R.hlo.2;simp only at e;omega
 have hf:∀x,cU b c (w.setCell ⟨c,i,ah⟩ (aq af v)) x↔cU b c w x:=λx=>by unfold cU;simp only[λo=>hcell ⟨b,o,ah⟩ R.ne]
 refine⟨⟨⟨by simpa using R.ok.few,λj hj=>?_,λd D hd=>by simpa using R.ok.desc d D hd,R.ok.made⟩,by simpa using R.len,R.ne,R.hlo,by rw[dA _ R.ne];exact R.bb,?_,by rw[hcell _ R.ne];exact R.hdr,λd hd=>?_,λk hk=>by rw[hcell _ R.ne];exact R.made k hk,λd d' t h1 h2 h3 h4=>R.inj d d' t h1 h2 (by rw[←hcell _ R.ne];exact h3) (by rw[←hcell _ R.ne];exact h4)⟩,λd t hd e=>⟨(hcell _ R.ne).trans e,λj _=>hcell _ (htc d t hd e)⟩,hf⟩
 .simp only[r9]at hj;rw[JS.Pv s i j v hl];by_cases e:i=j
  .rw[aX e];rcases hv with h|⟨d,t,es,h1,h2⟩
   .exact .inl h
   .obtain⟨D,h3,_⟩:=h2.there R;exact .inr ⟨d,h2.lt,h1,by show s.ds d≠ah;rw[h3];simp⟩
  .rw[aU e];exact R.ok.word j hj
 .obtain⟨e,h⟩:=R.cc;refine⟨e,?_⟩;rw[aH h,oF];simp only[List.map_set]
 .have ha:=R.all d hd;show match s.ds d with|none=>_|some D=>_
  cases e:s.ds d with
  |none=>simp only[e]at ha⊢;rw[hcell _ R.ne];exact ha
  |some D=>simp only[e]at ha⊢;obtain⟨t,h1,h2,h3⟩:=ha;exact⟨t,by rw[hcell _ R.ne];exact h1,h2,by rw[dA _ (htc d ⟨t,0,ah⟩ hd h1)];exact h3⟩
theorem jJ.decide{d:Nat}{es:List fC}(h:jJ b n w d t es)(R:JRep b c lo n s w){v:Nat}(hv:v<=2)(h0:s.st d=0):JRep b c lo n (s.decide d v) (w.setCell ⟨t,193,ah⟩ (.int .i32 v))/\JG b w (w.setCell ⟨t,193,ah⟩ (.int .i32 v))/\(∀x,cU b c (w.setCell ⟨t,193,ah⟩ (.int .i32 v)) x↔cU b c w x):=by
 obtain⟨D0,e0,hlo,h3⟩:=h.there R;have hlt:=R.hlo;have dA:∀x,x≠t->(w.setCell ⟨t,193,ah⟩ (.int .i32 v)).heap[x]? =w.heap[x]? :=λx hx=>az hx _;have hcell:∀x:aP,x.block≠t->(w.setCell ⟨t,193,ah⟩ (.int .i32 v)).cell? x=w.cell? x:=λx hx=>dr (w:=w) (dA _ hx);have hbt:b≠t:=ai;have hb:=λo=>hcell ⟨b,o,ah⟩ hbt;have Dl:(s.decide d v)={s with ds:=λx=>if x=d then(s.ds d).map ({· with st:=v})else s.ds x}:=by unfold JS.decide;rw[aX h0]
 obtain⟨_,_,wV,_⟩:=R.ok.desc d D0 e0;rw[Dl];refine⟨⟨⟨R.ok.few,λj hj=>?_,λd' D' yr=>?_,λk hk=>⟨(R.ok.made k hk).1,λm hm=>?_⟩⟩,R.len,R.ne,R.hlo,by rw[dA _ hbt];exact R.bb,by rw[dA _ ai];exact R.cc,by rw[hb];exact R.hdr,λd' hd=>?_,λk hk=>by rw[hb];exact R.made k hk,λd d' t h1 h2 h3 h4=>R.inj d d' t h1 h2 (by rw[←hb];exact h3) (by rw[←hb];exact h4)⟩,λd' t' yr e=>⟨(hb _).trans e,λj hj=>?_⟩,λx=>?_⟩
 .refine(R.ok.word j hj).imp id λ⟨d',h1,h2,h3⟩=>⟨d',h1,h2,?_⟩;show(if d'=d then _ else _)≠ah;by_cases e:d'=d
  .subst e;rw[aX rfl,e0];simp
  .rw[aU e];exact h3
 .have yr:(if d'=d then(s.ds d).map ({· with st:=v})else s.ds d')=ae D':=yr;by_cases e:d'=d
  .rw[aX e,e0]at yr;simp only[nC,dD]at yr;subst yr e;obtain⟨a1,a2,a3,a4,a5⟩:=R.ok.desc d' D0 e0;exact⟨a1,a2,a3,hv,a5⟩
  .rw[aU e]at yr;exact R.ok.desc d' D' yr
 .show(if k+8*m=d then _ else _)=ah;have:=(R.ok.made k hk).2 m hm;by_cases e:k+8*m=d
  .rw[e,e0]at this;cases this
  .rw[aU e];exact this
 .have ha:=R.all d' hd;show match(if d'=d then(s.ds d).map ({· with st:=v})else s.ds d')with|none=>_|some D=>_;by_cases e:d'=d
  .subst e;rw[aX rfl,e0];simp only[nC];refine⟨t,by rw[hb];exact h.ptr,hlo,?_⟩;rw[aH h3,adf D0 wV]
  .rw[aU e];cases e2:s.ds d' with
   |none=>simp only[e2]at ha⊢;rw[hb];exact ha
   |some D=>
    simp only[e2]at ha⊢;obtain⟨t',h1,h2,h4⟩:=ha;refine⟨t',by rw[hb];exact h1,h2,?_⟩;rw[dA t' λe3=>?_]
    .exact h4
    .subst e3;exact e (R.inj d' d _ hd h.lt h1 h.ptr)
 .by_cases e2:t'.block=t
  .rw[sQ];intro e3;have:(193:Nat)=j:=(by cases e3;rfl);omega
  .exact hcell _ e2
 .unfold cU;simp only[hb]
end
end
section
open Go Go.Conc Go.ConcN Go.RowKit
attribute [local go_sem] ba bf bH a8 bC bK aS aV
variable[Inhabited dc]
structure lT{σ:Type}(α:Type)(L:wq σ)(main:Bool)(cs:List aB){ι:Type}(Jm:fM ι)(Stop:ι->aB->List aB->aj->Prop) where
 U:List aB->Prop
 At:ι->Pr σ α->aj->Prop
 Keep:aj->aj->Prop
 Own:Nat->Prop
 wv:Option aP
 num:Nat
 hcs:True
 refl:∀w,Keep w w
 trans:∀a b c,Keep a b->Keep b c->Keep a c
 go:∀a b,Keep a b->L.G a b
 size:∀a b,Keep a b->a.heap.size<=b.heap.size
 same:∀(w w':aj) (b:Nat) o,Keep w w'->w.heap[b]? =ae o->o≠eh->¬L.Foot w b->Own b->w'.heap[b]? =ae o/\¬L.Foot w' b
 new:∀(b:Nat) i p w,At i p w->w.heap.size<=b->Own b
 rep:∀i p w,At i p w->∃s,L.Rep s w
 foot:∀i p w b,At i p w->L.Foot w b->b<w.heap.size
 upush:∀fr fs,fr.mode=.run->fr.defers=[]->(∃f,prog.funcs[fr.fn]? =ae f)->U fs->U (fr::fs)
 step:∀i p w,At i (.line p) w->CallsM aC main cs Jm Stop U i 42 #[.pointer wv] w λi' v w'=>v=.tuple #[]/\At i' p w'/\Keep w w'
 number:∀i p w,At i p w->CallsM aC main cs Jm Stop U i 88 #[.pointer wv] w λi' v w'=>v=aq af num/\i'=i/\w'=w
 few:num<8
 eff:∀i0 p0 w0 i f q w,At i0 p0 w0->At i (.eff f q) w->Keep w0 w->∃s,L.Rep s w/\∀w',L.Rep (f s) w'->L.G w w'->w.heap.size<=w'.heap.size->(∀b,b<w.heap.size->w'.heap[b]?≠w.heap[b]?->L.Foot w b)->(∀b,L.Foot w' b->L.Foot w b\/w0.heap.size<=b)->At i (q s) w'/\Keep w0 w'
 get:∀i q w,At i (.eff id q) w->∃s,L.Rep s w/\At i (q s) w
 fresh:∀i0 p0 w0 i p w w',At i0 p0 w0->At i p w->Keep w0 w->w.heap.size<=w'.heap.size->(∀b,b<w.heap.size->w'.heap[b]?≠w.heap[b]?->w0.heap.size<=b/\¬L.Foot w b)->At i p w'/\Keep w0 w'/\∀b,L.Foot w' b↔L.Foot w b
 on:∀i w,¬At i .stop w
theorem Ks(W:Nat)(k:Int)(w:aj)(h:w.cell? ⟨W,0,ah⟩=ae (aq af k)):b9 aC 88 #[aI (ae ⟨W,0,ah⟩)] w λe w'=>e=.returned (aq af k)/\w=w':=by
 go_enter func88,ntmps88
 go_wp2;go_ret
 exact⟨rfl,rfl⟩
def adg:bN:={L:=λg=>g==88,C:=λ_=>aw,X:=λ_=>aw,ft:=λ_ _=>aw}
theorem Pw:Stat aC adg:=by
 refine⟨λ_=>⟨λ_ h=>dB,λ_ h=>dB,IV rfl (λ_=>rfl) (λ_=>rfl)⟩,λg h=>?_,λg h=>dB,λg h=>?_⟩
 .obtain rfl:g=88:=by simpa[adg]using h
  exact⟨_,func88,rfl,rfl⟩
 .obtain rfl:g=88:=by simpa[adg]using h
  kernel_rfl
section
variable{nb:Nat}
noncomputable def ahI(H:Hand J d k nb)(hL:J.L.Ok d.ro)(hm:J.c.most<=20000)(h8:k<8)(DY:∀t g w,¬Run J d tW k t g be .stop w):lT kC J.L aw (d.cw k) (JW d (J.cP d.W) k) (λ_ _ _ _=>False) where
 U:=pT d k
 At:=λt p w=>∃g,Run J d tW k t g be p w
 Keep:=gD J d k
 Own:=λb=>b≠d.W k
 wv:=ae ⟨d.W k,0,ah⟩
 num:=k
 hcs:=trivial
 refl:=gD.refl J d k
 trans:=λ_ _ _ h g=>h.trans g
 go:=λ_ _ h=>h.go
 size:=λ_ _ h=>h.size
 same:=λ_ _ b o h=>h.same b o
 new:=λb t p w ⟨g,R⟩ hb e=>by have:=R.blk;omega
 rep:=λt p w ⟨g,R⟩=>by obtain⟨s,_,_,_,_,h,_⟩:=R.ex;exact⟨s,h⟩
 foot:=λt p w b ⟨g,R⟩ h=>R.foot hL h
 upush:=λfr fs h1 h2 h3 h4=>h4.push h1 h2 (by rw[H.P];exact h3)
 step:=λt p w ⟨g,R⟩=>(UM H hL hm R).mono λt' v w' ⟨h1,h2,h3⟩=>⟨h1,⟨_,h2⟩,h3⟩
 number:=λt p w ⟨g,R⟩=>by
  refine tZ Pw ⟨rfl,λt h=>dB⟩ λτ=>?_;refine(Ks (d.W k) k _ ?_).mono ?_
  .obtain⟨s,ow,sl,_,_,_,hW,_⟩:=R.ex;rw[ba,ax hW];rfl
  .rintro e w' ⟨rfl,rfl⟩;exact⟨_,rfl,_,bD _ _,rfl,rfl,rfl⟩
 few:=h8
 eff:=λt0 p0 w0 t f q w ⟨g0,R0⟩ ⟨g,R⟩ K=>by obtain⟨s,h1,h2⟩:=aai hL R0 R K;refine⟨s,h1,λw' a1 a2 a3 a4 a5=>?_⟩;obtain⟨b1,b2⟩:=h2 w' a1 a2 a3 a4 a5;exact⟨⟨_,b1⟩,b2⟩
 get:=λt q w ⟨g,R⟩=>by obtain⟨s,h1,h2⟩:=run_get R;exact⟨s,h1,_,h2⟩
 fresh:=λt0 p0 w0 t p w w' ⟨g0,R0⟩ ⟨g,R⟩ K h1 h2=>by obtain⟨a1,a2,a3⟩:=Bg hL R0 R K h1 h2;exact⟨⟨_,a1⟩,a2,a3⟩
 on:=λt w ⟨g,R⟩=>DY t g w R
end
def Pr.alone:Pr σ α->σ->Option (α×σ)
 |.ret a,s=>ae (a,s)
 |.line p,s=>p.alone s
 |.eff f q,s=>(q s).alone (f s)
 |.stop,_=>ah
structure Af{σ:Type}(L:wq σ)(w w':aj):Prop where
 size:w.heap.size<=w'.heap.size
 same:∀(b:Nat) o,w.heap[b]? =ae o->¬L.Foot w b->w'.heap[b]? =ae o/\¬L.Foot w' b
 go:L.G w w'
noncomputable def ahJ(L:wq σ){ro:Nat->Option (Nat×Nat)}(hL:L.Ok ro){main:Bool}(Jm:fM ι)(Stop:ι->aB->List aB->aj->Prop)(i0:ι)(a:α)(s1:σ):lT α L main cs Jm Stop where
 U:=λ_=>True
 At:=λi p w=>i=i0/\∃s,L.Rep s w/\p.alone s=ae (a,s1)
 Keep:=Af L
 Own:=λ_=>True
 wv:=ah
 num:=0
 hcs:=trivial
 refl:=λw=>⟨bJ _,λb o h1 h2=>⟨h1,h2⟩,L.grefl w⟩
 trans:=λ_ _ _ h g=>⟨dm h.size g.size,λb o h1 h2=>by obtain⟨h3,h4⟩:=h.same b o h1 h2;exact g.same b o h3 h4,L.gtrans _ _ _ h.go g.go⟩
 go:=λ_ _ h=>h.go
 size:=λ_ _ h=>h.size
 same:=λ_ _ b o h h1 _ h3 _=>h.same b o h1 h3
 new:=λ_ _ _ _ _ _=>trivial
 rep:=λi p w ⟨_,s,h,_⟩=>⟨s,h⟩
 foot:=λi p w b ⟨_,s,h,_⟩ hb=>by obtain⟨⟨c,e,hc⟩,_⟩:=hL.foot s w b h hb;exact(bF.1 hc).1
 upush:=λ_ _ _ _ _ _=>trivial
 step:=λi p w ⟨h1,s,h2,h3⟩=>by refine bL func42 rfl ?_;simp only[f42,cN];walk_nrm;refine wpM_seq (wpM_seq (wpM_lone (nH _) trivial aQ (JB _ _) (Lq _ _) (λτ=>?_)));go_wp2;refine px ?_;refine bz (t:=au) rfl (cD ?_);exact⟨rfl,.tuple #[],results_none rfl _ _ _,rfl,⟨(by first|exact h1|rfl),s,h2,h3⟩,⟨bJ _,λb o h1 h2=>⟨h1,h2⟩,L.grefl w⟩⟩
 number:=λi p w _=>by refine tZ Pw ⟨rfl,λt h=>dB⟩ λτ=>?_;refine(Mv _).mono ?_;rintro e w' ⟨rfl,rfl⟩;exact⟨_,rfl,_,bD _ _,rfl,rfl,rfl⟩
 few:=ai
 eff:=λ_ p0 w0 i f q w h0 ⟨h1,s,h2,h3⟩ K=>by
  refine⟨s,h2,λw' a1 a2 a3 a4 a5=>⟨⟨h1,f s,a1,h3⟩,dm K.size a3,λb o b1 b2=>?_,L.gtrans _ _ _ K.go a2⟩⟩;obtain⟨c1,c2⟩:=K.same b o b1 b2;have hlt:=(bF.1 b1).1;refine⟨?_,λh=>?_⟩
  .rw[←c1];apply eV;intro hc;exact c2 (a4 b (bF.1 c1).1 hc)
  .rcases a5 b h with h|h
   .exact c2 h
   .omega
 get:=λi q w ⟨h1,s,h2,h3⟩=>⟨s,h2,h1,s,h2,h3⟩
 fresh:=λ_ p0 w0 i p w w' h0 ⟨h1,s,h2,h3⟩ K hsz hX=>by
  have hsame:∀b,L.Foot w b->w'.heap[b]? =w.heap[b]? :=λb hb=>by obtain⟨⟨c,e,hc⟩,_⟩:=hL.foot s w b h2 hb;apply eV;intro hne;exact(hX b (bF.1 hc).1 hne).2 hb
  obtain⟨r1,r2⟩:=hL.rep s w w' h2 hsame;refine⟨⟨h1,s,r1,h3⟩,⟨dm K.size hsz,λb o b1 b2=>?_,L.gtrans _ _ _ K.go (hL.gsame s w w' h2 hsame)⟩,r2⟩;obtain⟨c1,c2⟩:=K.same b o b1 b2;have hlt:=(bF.1 b1).1;refine⟨?_,λh=>c2 ((r2 b).1 h)⟩;rw[←c1];apply eV;intro hc;have:=(hX b (bF.1 c1).1 hc).1;omega
 on:=λi w ⟨_,s,_,h⟩=>dB
end
section
open Go Go.Conc Go.ConcN Go.RowKit
attribute [local go_sem] ba bf bH a8 bC bK aS aV
def iq(l c x:List Nat)(f:List (Nat×Nat)):bN:={L:=λg=>l.contains g,C:=λg=>c.contains g,X:=λg=>x.contains g,ft:=λg t=>f.contains (g,t)}
def Px(l c:List Nat)(f:List (Nat×Nat)):Bool:=c.all λg=>l.contains g&&f.all λp=>p.1 !=g
def um(P:bh)(l:List Nat):Bool:=l.all λg=>match P.funcs[g]? with
 |some fn=>!(fn.name== "runtime.NumGoroutine") &&!fn.body.isNone
 |none=>aw
def Bq(P:bh)(S:bN)(l:List Nat):Bool:=l.all λg=>dZ P S g (((P.funcs[g]?).bind (·.body)).getD (.refuse ""))
theorem Ag{l c x:List Nat}(h:Px l c f=au):(iq l c x f).rN:=by intro g hg;unfold Px at h;rw[iT]at h;have h1:=h g (by simpa[iq]using hg);rw[cR]at h1;refine⟨h1.1,λt=>?_⟩;have h2:=h1.2;rw[iT]at h2;show f.contains (g,t)=aw;rw[←Bool.not_eq_true];intro hc;have:=h2 (g,t) (by simpa using hc);simp at this
theorem nY{l c x:List Nat}(h:um P l=au):(iq l c x f).kS P:=by
 intro g hg;unfold um at h;rw[iT]at h;have h1:=h g (by simpa[iq]using hg);split at h1
 .rename_i fn e;simp only[cR,xu]at h1;exact⟨fn,e,h1.1,h1.2⟩
 .cases h1
theorem Kt{l c x:List Nat}(h:Bq P (iq l c x f) l=au)(hb:um P l=au):(iq l c x f).Plain P:=by
 intro g hg;unfold Bq at h;rw[iT]at h;have h1:=h g (by simpa[iq]using hg);obtain⟨fn,e1,_,e3⟩:=nY (c:=c) (x:=x) (f:=f) hb g hg;rw[e1]at h1⊢;cases Ga:fn.body with
 |none=>rw[Ga]at e3;cases e3
 |some b=>simp only[Option.bind_some,Ga,cN]at h1⊢;exact h1
theorem ng{g:Nat}{fn:Func}{e:Array ay->Sem ay}(hf:prog.funcs[g]? =ae fn)(h1:(fn.name== "runtime.NumGoroutine")=aw)(h2:fn.body.isNone=au)(h3:Extern.findNext fn=ah)(h4:Extern.find fn=ae e)(h5:∀args,ST H aC (e args)):
  ∃fn e,prog.funcs[g]? =ae fn/\(fn.name== "runtime.NumGoroutine")=aw/\fn.body.isNone=au/\Extern.findNext fn=ah/\Extern.find fn=ae e/\∀args,ST H aC (e args):=⟨fn,e,hf,h1,h2,h3,h4,h5⟩
theorem st_readp(a:aP):ST H P (Extern.Atomic.read .ptr a):=by unfold Extern.Atomic.read;exact sT
theorem Vy(vs:Array ay):ST H P (Extern.Atomic.loadT .ptr vs):=by
 obtain⟨l⟩:=vs;rcases l with _|⟨x,_|⟨y,l⟩⟩
 .exact cF _
 .exact(oh x).then λ_=>st_readp _
 .exact cF _
def jL:List Nat:=[84,155,40,130,129,133,85,131,46,154,134,79,80,39,161,87,38,41]
def jX:List Nat:=[81,126,162,153,152,151,135]
def S3:bN:=iq jL [] jX []
theorem Ah:um aC jL=au:=aQ
theorem aaj(H:Nat->Prop):S3.Rows H aC:=by
 refine⟨λg hg=>?_,λ_ h=>dB,IV rfl (λ_=>rfl) (λ_=>rfl)⟩;have hg:g=81\/g=126\/g=162\/g=153\/g=152\/g=151\/g=135:=by simpa[S3,iq,jX]using hg
 rcases hg with rfl|rfl|rfl|rfl|rfl|rfl|rfl
 .exact ng func81 aQ aQ aQ (e:=Extern.Atomic.storeT) aQ yy
 .exact ng func126 aQ aQ aQ (e:=Extern.Atomic.loadT (.int .i64)) aQ (xq _)
 .exact ng func162 aQ aQ aQ (e:=Extern.Atomic.casT (.int .i64)) aQ (AY _)
 .exact ng func153 aQ aQ aQ (e:=Extern.Atomic.loadT (.int .i32)) aQ (xq _)
 .exact ng func152 aQ aQ aQ (e:=Extern.Atomic.casT (.int .i32)) aQ (AY _)
 .exact ng func151 aQ aQ aQ (e:=Extern.Atomic.loadT .ptr) aQ Vy
 .exact ng func135 aQ aQ aQ (e:=Extern.Atomic.storeT) aQ yy
theorem lA:Stat aC S3:=⟨aaj,nY Ah,Ag aQ,Kt aQ Ah⟩
theorem ft3(f:Nat)(t:Array ay):p8 S3 f t:=λ_ h=>by simp[S3,iq]at h
theorem afI:∀d∈([]:List Deferred),nv aC S3 d:=aJ
section
variable{main:Bool}{J:fM ι}{Stop:ι->aB->List aB->aj->Prop}{Q:ι->Exit->Act->aj->Prop}{w:aj}
theorem o3{ops:Array aZ}{rest:List Nat}{o:aZ}(h:∀(τ:Nat->iz->Nat) (K:ay->aj->Prop),(∀v w' W,Alike W w'->rj aC main cs J Stop U fn ops rest Q i (a.put o.dst v) W->K v w')->wy K ((bT a.eval o).run aC (w.tp τ)))
  (ho:ops[j]? =some o:=by rfl)(hw:Region.wanted o (yielded ops a.tmps)=true:=by rfl)(hok:iu prog S3 fn o=true:=by kernel_rfl):rj prog main cs J Stop U fn ops (j::rest) Q i a w:=Bf lA ho hw hok (ft3 _ _) h
theorem l3(x:X){d:Array Value}(h:∀τ,c.wp prog (λe a' w'=>e=.normal/\∃W,Alike W w'/\Q i .normal a' W) ⟨d,[]⟩ (w.tp τ))(hok:dZ prog S3 fn c=true:=by kernel_rfl):wpM prog main cs J Stop U fn c Q i ⟨d,[]⟩ w:=wpM_lone lA x hok afI (ft3 _ _) h
end
theorem o3v{q:Prop}(h:q)(t:Hq q->p:=by intro hq;refine o3 (λτ K hK=>?_);go_simp;refine hK _ _ _ (bD _ _) ?_;clear hK K;exact hq.o):p:=t ⟨h⟩
theorem gP{q:Prop}(h:q)(t:Hq q->p:=by intro hq;refine o3 (λτ K hK=>?_);go_simp;refine hK _ _ _ (bD _ _) ?_;clear hK K;walk_nrm;exact hq.o):p:=t ⟨h⟩
theorem iI(h:∀τ,q τ)(t:Hq (∀τ,q τ)->p:=by intro hq;refine wpM_seq (l3 hcs (λτ=>?_));go_wp2;refine⟨_,bD _ _,?_⟩;(try simp only[Exit.then]);exact hq.o τ):p:=t ⟨h⟩
theorem l3x(h:∀τ,q τ)(t:Hq (∀τ,q τ)->p:=by intro hq;refine wpM_seq (l3 hcs (λτ=>?_));go_wp2;refine⟨_,bD _ _,?_⟩;exact hq.o τ):p:=t ⟨h⟩
theorem Ai(h:∀τ,q τ)(t:Hq (∀τ,q τ)->p:=by intro hq;refine wpM_seq (wpM_seq (l3 hcs (λτ=>?_)));go_wp2;refine⟨_,bD _ _,?_⟩;(try simp only[Exit.then]);exact hq.o τ):p:=t ⟨h⟩
theorem ov{q:Prop}(h:q)(t:Hq q->p:=by intro hq;apply Z3;(focus (intro τ k Kv hKv;go_simp;exact hKv _ rfl));walk_nrm;exact hq.o):p:=t ⟨h⟩
theorem uo(x:Int)(w:aj)(h0:x<0)(h1: -100000<=x):b9 aC 85 #[aq af x] w λe w'=>e=.returned (.tuple #[aq af (-x-1),.bool au])/\w=w':=by
 have hb:decide (x<0)=au:=by simpa using h0
 go_enter func85,ntmps85
 go_wp2;go_ret2
 exact⟨rfl,rfl⟩
theorem Vz(a:aP)(x o y:Int)(w:aj)(hc:w.cell? a=ae (aq af x))(hz:w.frozen? a=aw)(hne:¬x=o):(callFunc 162 #[aI (ae a),aq af o,aq af y]).run aC w=.ok (.value (.bool aw)) w:=run_call_cas_miss (P:=aC) func162 aQ aQ aQ .i64 aQ hc hz hne
theorem VA(a:aP)(x o y:Int)(w:aj)(hc:w.cell? a=ae (.int .i32 x))(hz:w.frozen? a=aw)(hne:¬x=o):(callFunc 152 #[aI (ae a),.int .i32 o,.int .i32 y]).run aC w=.ok (.value (.bool aw)) w:=run_call_cas_miss (P:=aC) func152 aQ aQ aQ .i32 aQ hc hz hne
theorem i64cas_any(b o:Nat)(x z y:Int)(w:aj)(hc:w.cell? ⟨b,o,ah⟩=ae (aq af x))(hz:w.frozen? ⟨b,o,ah⟩=aw):b9 aC 155 #[aI (ae ⟨b,o,ah⟩),aq af z,aq af y] w λe w'=>e=.returned (.bool (x==z))/\w'=if x=z then w.setCell ⟨b,o,ah⟩ (aq af y)else w:=by
 by_cases e:x=z
 .subst e;refine(acG b o x y w hc hz).mono ?_;rintro e w' ⟨rfl,rfl⟩;simp
 .have hx:=Vz ⟨b,o,ah⟩ x z y w hc hz e;rw[aU e,beq_eq_false_iff_ne.2 e];go_enter func155,ntmps155
  go_wp2;go_ret
  exact⟨rfl,rfl⟩
theorem i32cas_any(b o:Nat)(x z y:Int)(w:aj)(hc:w.cell? ⟨b,o,ah⟩=ae (.int .i32 x))(hz:w.frozen? ⟨b,o,ah⟩=aw):b9 aC 129 #[aI (ae ⟨b,o,ah⟩),.int .i32 z,.int .i32 y] w λe w'=>e=.returned (.bool (x==z))/\w'=if x=z then w.setCell ⟨b,o,ah⟩ (.int .i32 y)else w:=by
 by_cases e:x=z
 .subst e;refine(acH b o x y w hc hz).mono ?_;rintro e w' ⟨rfl,rfl⟩;simp
 .have hx:=VA ⟨b,o,ah⟩ x z y w hc hz e;rw[aU e,beq_eq_false_iff_ne.2 e];go_enter func129,ntmps129
  go_wp2;go_ret
  exact⟨rfl,rfl⟩
theorem Rw(b o:Nat)(x z y:Int)(w W:aj)(ok:Bool)(hc:w.cell? ⟨b,o,ah⟩=ae (aq af x))(hz:w.frozen? ⟨b,o,ah⟩=aw)(hok:(x==z)=ok)(hW:(if x=z then w.setCell ⟨b,o,ah⟩ (aq af y)else w)=W):b9 aC 155 #[aI (ae ⟨b,o,ah⟩),aq af z,aq af y] w λe w'=>e=.returned (.bool ok)/\W=w':=(i64cas_any b o x z y w hc hz).mono λe w' ⟨h1,h2⟩=>⟨by rw[h1,hok],by rw[h2,hW]⟩
theorem Fq(b o:Nat)(x z y:Int)(w W:aj)(ok:Bool)(hc:w.cell? ⟨b,o,ah⟩=ae (.int .i32 x))(hz:w.frozen? ⟨b,o,ah⟩=aw)(hok:(x==z)=ok)(hW:(if x=z then w.setCell ⟨b,o,ah⟩ (.int .i32 y)else w)=W):b9 aC 129 #[aI (ae ⟨b,o,ah⟩),.int .i32 z,.int .i32 y] w λe w'=>e=.returned (.bool ok)/\W=w':=(i32cas_any b o x z y w hc hz).mono λe w' ⟨h1,h2⟩=>⟨by rw[h1,hok],by rw[h2,hW]⟩
section
variable{main:Bool}{a:aj}
theorem aak{b:aB}{k:List Item}{act:Act}{ops:Array aZ}{rest:List Nat}{o:aZ}(X:Nat->Prop)(hk:b.kind≠.early)(ho:ops[j]? =ae o)(hw:dF o (dW ops act.tmps)=au)(hX:∀x,X x->∃y,a.heap[x]? =ae y/\y≠eh)
  (hr:∀r:aj,(∀x,X x->BD a.heap[x]? r.heap[x]?)->(bT act.eval o).runT P r #[]=(.ok (.value v) r,#[]))(h:vu P main cs At (b.at (act.put o.dst v) (bI ops rest::k)) fs a):vu P main cs At (b.at act (bI ops (j::rest)::k)) fs a:=by
 intro H R D Q Jw B hQ r hrel hj;have one:∀w₁,R r w₁->bn P main (cy (b.at act (bI ops (j::rest)::k)) (fs++cs)) w₁=.go (cy (b.at (act.put o.dst v) (bI ops rest::k)) (fs++cs)) w₁ #[]/\Rel H a w₁/\Jw a w₁:=λw₁ h₁=>by
  obtain⟨h2,h3⟩:=B.others a r w₁ h₁ hrel hj;refine⟨?_,h2,h3⟩;have qI:((b.at act (bI ops (j::rest)::k)).kind==gA)=aw:=by show(b.kind==gA)=aw;cases e:b.kind<;>first|rfl|exact aT e hk
  have mh:(b.at act (bI ops (j::rest)::k)).finish v=b.at (act.put o.dst v) (bI ops rest::k):=by rw[iB,ho];rfl
  have:=(stepG_oper (P:=P) (main:=main) (b:=b) (a:=act) (k:=k) (cs:=fs++cs) (w:=w₁) (rest:=rest) ho hw).trans (jy (fr:=b.at act (bI ops (j::rest)::k)) (cs:=fs++cs) qI (hr w₁ λx hx=>h2.same x λhh=>by obtain⟨y,h4,h5⟩:=hX x hx;rw[(h2.hid x hh).1]at h4;exact h5 (bj h4).symm));rw[mh,show seen P (b.at act (bI ops (j::rest)::k)).fn #[] ++ #[]=#[]from by simp[seen]]at this;exact this
 refine .step rfl (λw₁ h₁=>?_) λw₁ g' w' es h₁ e=>?_
 .obtain⟨h1,h2,h3⟩:=one w₁ h₁;exact⟨_,_,_,h1,B.does a a w₁ w₁ #[] h2 h3 (kF h2 #[])⟩
 .obtain⟨h1,h2,h3⟩:=one w₁ h₁;rw[h1]at e;injection e with e1 e2 e3
  subst e1 e2 e3;exact h H R D Q Jw B hQ w₁ h2 h3
theorem Rx{J:fM ι}{Stop:ι->aB->List aB->aj->Prop}{b:aB}{k:List Item}{act:Act}{ops:Array aZ}{rest:List Nat}{o:aZ}(X:Nat->Prop)(hk:b.kind≠.early)(ho:ops[j]? =ae o)(hw:dF o (dW ops act.tmps)=au)(hX:∀x,X x->∃y,a.heap[x]? =ae y/\y≠eh)
  (hr:∀r:aj,(∀x,X x->BD a.heap[x]? r.heap[x]?)->(bT act.eval o).runT P r #[]=(.ok (.value v) r,#[]))(h:ZigC P main cs J Stop i (b.at (act.put o.dst v) (bI ops rest::k)) fs a):ZigC P main cs J Stop i (b.at act (bI ops (j::rest)::k)) fs a:=
 .walk (aak X hk ho hw hX hr (.stop h))
theorem Fs{J:fM ι}{Stop:ι->aB->List aB->aj->Prop}{Q:ι->Exit->Act->aj->Prop}{act:Act}{ops:Array aZ}{rest:List Nat}{o:aZ}(X:Nat->Prop)(ho:ops[j]? =ae o)(hw:dF o (dW ops act.tmps)=au)(hX:∀x,X x->∃y,a.heap[x]? =ae y/\y≠eh)
  (hr:∀r:aj,(∀x,X x->BD a.heap[x]? r.heap[x]?)->(bT act.eval o).runT P r #[]=(.ok (.value v) r,#[]))(h:rj P main cs J Stop U fn ops rest Q i (act.put o.dst v) a):rj P main cs J Stop U fn ops (j::rest) Q i act a:=
 λb k fs h1 h2 h3 hc=>Rx X (by rw[h2];simp) ho hw hX hr (h b k fs h1 h2 h3 hc)
end
theorem C4{a r:aj}{x:Nat}(h:BD a.heap[x]? r.heap[x]?):r.shape? x=a.shape? x:=(BG h).symm
theorem aal(c:Nat)(w:aj)(yN:w.shape? c=ae (187,194)):(convert 100 96 (aI (ae ⟨c,0,ah⟩))).runT aC w #[]=(.ok (aI (ae ⟨c,0,ah⟩)) w,#[]):=by
 have h1:=Gl c w yN;have h2:(convert 100 96 (aI (ae ⟨c,0,ah⟩))).events aC w #[]=#[]:=by obtain⟨i,hi,hz⟩:=uN;have e1:=underlying100;have e2:=underlying96;have e3:=E7;simp[convert,run_underlying e1,run_underlying e2,Conv.unsafePointer,Conv.seenAt,viewAt,yN,variablesAt,e3,sizeOf,typeInfo,hi]
 rw[Sem.runT_eq,h1,h2]
theorem afJ(c:Nat)(w:aj)(yN:w.shape? c=ae (187,194)):(convert 96 100 (aI (ae ⟨c,0,ah⟩))).runT aC w #[]=(.ok (aI (ae ⟨c,0,ah⟩)) w,#[]):=by
 have h1:=Mz c w yN;have h2:(convert 96 100 (aI (ae ⟨c,0,ah⟩))).events aC w #[]=#[]:=by obtain⟨i,hi,hz⟩:=uN;have e1:=underlying100;have e2:=underlying96;simp[convert,run_underlying e1,run_underlying e2,Conv.unsafePointer,Conv.seenAt,viewAt,cellsIn,yN,sizeOf,typeInfo,hi,hz]
 rw[Sem.runT_eq,h1,h2]
section
variable{main:Bool}{J:fM ι}{Stop:ι->aB->List aB->aj->Prop}{w:aj}
theorem ye{c:Nat}(yN:w.shape? c=ae (187,194)):∃y,w.heap[c]? =ae y/\y≠eh:=by
 cases e:w.heap[c]? with
 |none=>simp[World.shape?,e]at yN
 |some y=>refine⟨y,rfl,λh=>?_⟩;subst h;simp[World.shape?,e,eh]at yN
theorem Ry(hcs:X)(b o c:Nat)(hc:w.cell? ⟨b,o,ah⟩=ae (aI (ae ⟨c,0,ah⟩)))(yN:w.shape? c=ae (187,194)):CallsM aC main cs J Stop U i 127 #[aI (ae ⟨b,o,ah⟩)] w λi' v w'=>v=aI (ae ⟨c,0,ah⟩)/\i'=i/\w'=w:=by
 have hv:=ye yN;have hx:=OS ⟨b,o,ah⟩ _ w hc;refine bL func127 rfl ?_;simp only[f127,cN];walk_nrm;refine iI λτ=>?_;refine pS ?_;iterate 3
  refine gP ?_
 refine o3 (λτ K hK=>?_);have hx:=OS ⟨b,o,ah⟩ _ (w.tp τ) hc;go_simp;refine hK _ _ _ (bD _ _) ?_;clear hK K;walk_nrm;refine Fs (X:=λx=>x=c) (v:=aI (ae ⟨c,0,ah⟩)) rfl rfl (λx hx=>hx▸hv) (λr hr=>?_) ?_
 .have:=aal c r (by rw[C4 (hr c rfl)];exact yN);simp[bT,cS,go_sem,Sem.runT_eq]at this⊢;rw[this.1];exact⟨rfl,this.2⟩
 walk_nrm;refine gP ?_;refine mz (cD ?_);exact⟨rfl,_,by simp[eL,f127,go_sem],rfl,rfl,rfl⟩
theorem Ni(hcs:X)(b o c:Nat)(hc:w.cell? ⟨b,o,ah⟩=ae u)(hz:w.frozen? ⟨b,o,ah⟩=aw)(yN:w.shape? c=ae (187,194)):CallsM aC main cs J Stop U i 89 #[aI (ae ⟨b,o,ah⟩),aI (ae ⟨c,0,ah⟩)] w λi' v w'=>v=.tuple #[]/\i'=i/\w'=w.setCell ⟨b,o,ah⟩ (aI (ae ⟨c,0,ah⟩)):=by
 have hv:=ye yN;refine bL func89 rfl ?_;simp only[f89,cN];walk_nrm;refine kD ?_;refine rg ?_;iterate 4
  refine gP ?_
 refine Fs (X:=λx=>x=c) (v:=aI (ae ⟨c,0,ah⟩)) rfl rfl (λx hx=>hx▸hv) (λr hr=>?_) ?_
 .have:=afJ c r (by rw[C4 (hr c rfl)];exact yN);simp[bT,cS,go_sem,Sem.runT_eq]at this⊢;rw[this.1];exact⟨rfl,this.2⟩
 walk_nrm;refine o3 (λτ K hK=>?_);have hx:=Uz ⟨b,o,ah⟩ (ae ⟨c,0,ah⟩) u (w.tp τ) hc hz;go_simp;refine hK _ _ _ (bD _ _) ?_;clear hK K;walk_nrm;refine mz ?_;exact⟨rfl,_,results_none rfl _ _ _,rfl,rfl,rfl⟩
end
section
variable{c n:Nat}{main:Bool}{Stop:ι->aB->List aB->aj->Prop}{w:aj}
theorem lT.put(S:lT α (cI F b c lo n) main cs Jm Stop){p0:Pr JS α}{o v:Int}{q:JS->Pr JS α}(h0:S.At i0 p0 w0)(h:S.At i (.eff (JS.vF c0 o v) q) w)(K:S.Keep w0 w)(hc0:c0<n)(hv:wU b n w v):
  ∃s,JRep b c lo n s w/\∀W,W=(if s.w c0=o then w.setCell ⟨c,c0,ah⟩ (aq af v)else w)->S.At i (q s) W/\S.Keep w0 W:=by
 obtain⟨s,eI,hnext⟩:=S.eff _ _ _ _ _ _ _ h0 h K;have eI:JRep b c lo n s w:=eI;refine⟨s,eI,λW hW=>?_⟩;subst hW;by_cases e:s.w c0=o
 .simp only[aX e];obtain⟨r1,r2,r3⟩:=eI.put hc0 hv;have hcs:JS.vF c0 o v s={s with ws:=s.ws.set c0 v}:=by unfold JS.vF;rw[aX e]
  refine hnext _ (by show JRep b c lo n (JS.vF c0 o v s) _;rw[hcs];exact r1) r2 jM (λx hx hne=>?_) λx hx=>.inl ((r3 x).1 hx);by_cases ex:x=c
  .exact .inr (.inl ex)
  .exact aT (az ex _) hne
 .simp only[aU e];have hcs:JS.vF c0 o v s=s:=by unfold JS.vF;rw[aU e]
  exact hnext _ (by show JRep b c lo n (JS.vF c0 o v s) _;rw[hcs];exact eI) ((cI F b c lo n).grefl w) (bJ _) (λx _ hne=>aT rfl hne) λx hx=>.inl hx
theorem lT.dec(S:lT α (cI F b c lo n) main cs Jm Stop){p0:Pr JS α}{d v:Nat}{es:List fC}{q:JS->Pr JS α}(h0:S.At i0 p0 w0)(h:S.At i (.eff (JS.decide d v) q) w)(K:S.Keep w0 w)(hD:jJ b n w d t es)(hv:v<=2):
  ∃s,JRep b c lo n s w/\∀W,W=(if(s.st d:Int)=0 then w.setCell ⟨t,193,ah⟩ (.int .i32 v)else w)->S.At i (q s) W/\S.Keep w0 W:=by
 obtain⟨s,eI,hnext⟩:=S.eff _ _ _ _ _ _ _ h0 h K;have eI:JRep b c lo n s w:=eI;refine⟨s,eI,λW hW=>?_⟩;subst hW;by_cases e:s.st d=0
 .have e':(s.st d:Int)=0:=ai;simp only[aX e'];obtain⟨r1,r2,r3⟩:=hD.decide eI hv e;refine hnext _ r1 r2 jM (λx hx hne=>?_) λx hx=>.inl ((r3 x).1 hx);by_cases ex:x=t
  .exact .inr (.inr ⟨d,⟨t,0,ah⟩,hD.lt,hD.ptr,ex⟩)
  .exact aT (az ex _) hne
 .have e':¬(s.st d:Int)=0:=ai;simp only[aU e'];have hcs:JS.decide d v s=s:=by unfold JS.decide;rw[aU e]
  exact hnext _ (by show JRep b c lo n (JS.decide d v s) _;rw[hcs];exact eI) ((cI F b c lo n).grefl w) (bJ _) (λx _ hne=>aT rfl hne) λx hx=>.inl hx
def lT.Yes{L:wq JS}(S:lT α L main cs Jm Stop)(bG:Bool->Pr JS α)(w:aj)(i':ι)(r:ay)(w':aj):Prop:=∃ok,r=.bool ok/\S.At i' (bG ok) w'/\S.Keep w w'
theorem Ku(S:lT α (cI F b c lo n) main cs Jm Stop){o v:Int}{bG:Bool->Pr JS α}(h:S.At i ((casP c0 o v).bind bG) w)(hc0:c0<n)(hn:n<=64)(hv:wU b n w v):
  CallsM aC main cs Jm Stop S.U i 132 #[aI (ae ⟨b,0,ah⟩),.pointer S.wv,aq af c0,aq af o,aq af v] w (S.Yes bG w):=by
 have hcs:=S.hcs;refine bL func132 rfl ?_;simp only[f132,cN];walk_nrm;refine iI λτ=>?_;refine pS ?_;refine gP ?_;refine bA (args:=#[.pointer S.wv]) rfl rfl rfl func42 rfl rfl dS (λb k fs h1 h2=>S.upush _ _ rfl rfl ⟨f132,by show prog.funcs[b.fn]? =_;rw[h1];exact func132⟩ h2) (S.step _ _ _ h) ?_;rintro i' r w1 ⟨rfl,h1,K1⟩;walk_nrm;refine on ?_;obtain⟨s,eI,hnext⟩:=S.put h h1 K1 hc0 (hv.keep (S.go _ _ K1));obtain⟨hw,hz⟩:=eI.word hc0;have hh:=eI.hdr;clear eI h h1 hv;have hnext:∀W,W=(if s.w c0=o then w1.setCell ⟨c,c0,ah⟩ (aq af v)else w1)->S.At i' (bG (s.w c0==o)) W/\S.Keep w W:=hnext;generalize hx:s.w c0=x at*;obtain⟨W,hW⟩:∃W,W=if x=o then w1.setCell ⟨c,c0,ah⟩ (aq af v)else w1:=⟨_,rfl⟩
 obtain⟨ok,hok⟩:∃ok,(x==o)=ok:=⟨_,rfl⟩;have HN:=aA (hnext W hW);have HW:∀τ,(if x=o then(w1.tp τ).setCell ⟨c,c0,ah⟩ (aq af v)else w1.tp τ)=W.tp τ:=λτ=>by subst hW;split<;>rfl
 have HW:=aA HW;have Hok:=aA hok;clear hnext hW hok hx;refine wpM_seq (l3 hcs (λτ=>?_));go_wp2_with (first|(go_at_call 155;refine(Rw c c0 x o v (w1.tp τ) (W.tp τ) ok hw hz Hok.out (HW.out τ)).mono ?_;rintro e w' ⟨rfl,rfl⟩))
 refine⟨W,bD _ _,?_⟩;try simp only[bE]
 refine cD ?_;obtain⟨a1,a2⟩:=HN.out;rw[Hok.out]at a1;exact⟨rfl,.bool ok,jT,ok,rfl,a1,a2⟩
end
end
section
open Go Go.Conc Go.ConcN Go.RowKit
attribute [local go_sem] ba bf bH a8 bC bK aS aV fy dI fA bO
inductive IsI(b:Nat)(wv:Option aP)(d t ix:Nat):Act->Prop
 |mk (u4 u5 u6 u7 u8 sK nW nX mU mA mB u16 lK lL lM lN mV mX u23 u24 mY u26 lO u28 lQ lR mC u32 u33 mD mE mF mG mZ m9 nV oU oV pU u44 pV oX oY oZ o6 o7 o8 o9 sH sI ub ud wE wG wH wI wJ wK wL u64 wM wN D5 D6 D7 AG AH AJ Cy Cz CB CE CG:ay):IsI b wv d t ix {tmps:=#[aI (ae ⟨b,0,ah⟩),.pointer wv,aq af d,aI (ae ⟨t,0,ah⟩),u4,u5,u6,u7,u8,aq af ix,sK,nW,nX,mU,mA,mB,u16,lK,lL,lM,lN,mV,mX,u23,u24,mY,u26,lO,u28,lQ,lR,mC,u32,u33,mD,mE,mF,mG,mZ,m9,nV,oU,oV,pU,u44,pV,oX,oY,oZ,o6,o7,o8,o9,sH,sI,ub,ud,wE,wG,wH,wI,wJ,wK,wL,u64,wM,wN,D5,D6,D7,AG,AH,AJ,Cy,Cz,CB,CE,CG],defers:=[]}
section
variable{c n:Nat}{main:Bool}{Stop:ι->aB->List aB->aj->Prop}{w:aj}
theorem G1{j6:Nat->qM Bool}{d f:Nat}{es:List fC}{bG:Bool->Pr JS α}(h:es[ix]? =ah):(installsP j6 d es (f+1) ix).bind bG=bG au:=by simp only[installsP,h];rfl
def zw(j6:Nat->qM Bool)(d f ix:Nat)(es:List fC)(e:fC)(bG:Bool->Pr JS α):Pr JS α:=
 .line (.eff id λs=>if s.st d≠0 then bG aw else(casP e.cell e.old (bo d)).bind λok=>if ok then(installsP j6 d es f (ix+1)).bind bG else
  .line (.eff id λs=>if s.w e.cell=bo d then(installsP j6 d es f (ix+1)).bind bG else if s.w e.cell<0 then(j6 (-(s.w e.cell) -1).toNat).bind λ_=>(installsP j6 d es f ix).bind bG else
   .line (.eff (JS.decide d 2) λ_=>bG aw)))
theorem mM{c:Prop} [Decidable c]{γ:Type}{p q:Pr JS β}{k:β->Pr JS γ}:(if c then p else q).bind k=if c then p.bind k else q.bind k:=by split<;>rfl
theorem C6{j6:Nat->qM Bool}{d f:Nat}{es:List fC}{e:fC}{bG:Bool->Pr JS α}(h:es[ix]? =ae e):(installsP j6 d es (f+1) ix).bind bG=zw j6 d f ix es e bG:=by simp only[installsP,h,zw,Pr.bind,mM,Pr.bind_assoc]
def Kw(S:lT α (cI F b c lo n) main cs Jm Stop)(j6:Nat->qM Bool):Prop:=∀(i:ι) (w:aj) (d t:Nat) (es:List fC) (bG:Bool->Pr JS α),S.At i ((j6 d).bind bG) w->jJ b n w d t es->
 CallsM aC main cs Jm Stop S.U i 86 #[aI (ae ⟨b,0,ah⟩),.pointer S.wv,aq af d] w (S.Yes bG w)
theorem En(S:lT α (cI F b c lo n) main cs Jm Stop){j6:Nat->qM Bool}(hH:Kw S j6){d f:Nat}{es:List fC}{bG:Bool->Pr JS α}(hn:n<=64)(h:S.At i ((installsP j6 d es f 0).bind bG) w)(hD:jJ b n w d t es):
  CallsM aC main cs Jm Stop S.U i 128 #[aI (ae ⟨b,0,ah⟩),.pointer S.wv,aq af d,aI (ae ⟨t,0,ah⟩)] w (S.Yes bG w):=by
 have hcs:=S.hcs;refine bL func128 rfl ?_;simp only[f128,cN];walk_nrm;refine iI λτ=>?_;refine Ai λτ=>?_;refine cE (iV (λm i' a' w'=>∃ix,ix<=es.length/\IsI b S.wv d t ix a'/\S.At i' ((installsP j6 d es m ix).bind bG) w'/\S.Keep w w') (n:=f) ⟨0,bQ _,IsI.mk ..,h,S.refl w⟩ ?_);rintro m i1 a1 w1 ⟨ix,UW,hA,h1,K1⟩;have hD1:=hD.keep (S.go _ _ K1);cases m with
 |zero=>exact(S.on _ _ h1).elim
 |succ m=>
  have hlen:=hD1.len;have wV:=hD1.few;cases he:es[ix]? with
  |none=>rw[G1 he]at h1;have CO:¬(ix<es.length):=λhc=>(by rw[eQ hc]at he;cases he);cases hA;refine Ai λτ=>?_;refine bz (t:=aw) dS (iU ?_);simp only[bE,gu,if_true];refine iI λτ=>?_;refine cD ?_;exact⟨rfl,.bool au,jT,au,rfl,h1,K1⟩
  |some e=>
   rw[C6 he]at h1;unfold zw at h1;have hlt:ix<es.length:=(eX.1 he).1;have hen:=hD1.ok e (nJ he);obtain⟨Py,ho0,ho1,hn0,OX⟩:=hen;have afK:=aA hH;clear hH;cases hA;refine Ai λτ=>?_;refine bz (t:=au) dS (eY ?_);refine cE ?_;refine pS ?_;refine gP ?_;refine bA (args:=#[.pointer S.wv]) rfl rfl rfl func42 rfl rfl dS (λb k fs h1 h2=>S.upush _ _ rfl rfl ⟨f128,by show prog.funcs[b.fn]? =_;rw[h1];exact func128⟩ h2) (S.step _ _ _ h1) ?_;rintro i2 r w2 ⟨rfl,h2,K2⟩;walk_nrm;refine on ?_;have Pz:=hD1.keep (S.go _ _ K2);obtain⟨s2,uf,BF⟩:=S.get _ _ _ h2;obtain⟨hst,hsz,yN⟩:=Pz.status uf;have hs2:s2.st d<=2:=(by obtain⟨D,e1,_⟩:=Pz.there uf;have:=(uf.ok.desc d D e1).2.2.2.1;simpa[JS.st,e1]using this);generalize adh:s2.st d=st at*;clear h1 h2 uf;by_cases adi:st=0;case neg=>
    have hne:¬((st:Int)=0):=ai;have h3:S.At i2 (bG aw) w2:=(by simpa[adh,adi]using BF);clear BF;refine wpM_seq (wpM_seq (l3 hcs (λτ=>?_)));go_wp2_with (first|(go_at_call 130;refine(Gk t 193 _ (w2.tp τ) hst).mono ?_;rintro e w' ⟨rfl,rfl⟩))
    refine px ?_;refine bz (t:=au) (by simp[cS,adi]) ?_;refine iI λτ=>?_;refine cD ?_;exact⟨rfl,.bool aw,jT,aw,rfl,h3,S.trans _ _ _ K1 K2⟩
   subst adi;have h3:S.At i2 ((casP e.cell e.old (bo d)).bind λok=>if ok then(installsP j6 d es m (ix+1)).bind bG else
    .line (.eff id λs=>if s.w e.cell=bo d then(installsP j6 d es m (ix+1)).bind bG else if s.w e.cell<0 then(j6 (-(s.w e.cell) -1).toNat).bind λ_=>(installsP j6 d es m ix).bind bG else
    .line (.eff (JS.decide d 2) λ_=>bG aw))) w2:=by simpa[adh]using BF
   clear BF;refine wpM_seq (wpM_seq (l3 hcs (λτ=>?_)));go_wp2_with (first|(go_at_call 130;refine(Gk t 193 _ (w2.tp τ) hst).mono ?_;rintro e w' ⟨rfl,rfl⟩))
   refine px ?_;refine Cs ?_;try simp only[bE]
   obtain⟨c1,c2,c3⟩:=Pz.ent ix e he;have MH:=S.trans _ _ _ K1 K2;have HD:=aA Pz;obtain⟨ec,eo,en⟩:=e;simp only at c1 c2 c3 Py ho0 ho1 hn0 OX;clear hD1 Pz hlen hsz yN hst K1 K2;have H3:=aA h3;clear h3;simp only at H3;refine iI λτ=>?_;have Y0:=hD.lt;generalize hw3:w2.alloc _=w3;have hb3:w3.heap[w2.heap.size]? =ae (aK #[aq af ec,aq af eo,aq af en] 121 (0,0)):=(by subst hw3;simp only[←dt,dz];rw[aX trivial]);obtain⟨h4,K3,hF3⟩:=S.fresh _ _ _ _ _ _ w3 h H3.out MH (by subst hw3;simp) (λx hx hne=>by refine aT ?_ hne;subst hw3;simp only[←dt,dz];rw[aU ai]);have Ay:=S.size _ _ MH;have hbF:¬(cI F b c lo n).Foot w3 w2.heap.size:=λhc=>(by have:=S.foot _ _ _ _ H3.out ((hF3 _).1 hc);omega);have hbO:=S.new w2.heap.size _ _ _ h ai;have Tb:=hD.keep (S.go _ _ K3);generalize w2.heap.size=eb at*;clear hw3 c1 c2 c3 H3 HD;have H4:=aA h4;clear h4;have d0:=ax hb3 0;have d1:=ax hb3 1;simp only[kJ,oP,nK]at d0 d1;refine wpM_seq ?_;refine wpM_seq (iX lA 8 78 [8] rfl aQ (λt=>qz) aQ rfl ?_);simp only[qA,qB];iterate 7
    refine ov ?_
   refine xT (args:=#[aq af d]) rfl func133 rfl rfl dS ⟨rfl,λt h=>by simp[S3,iq]at h⟩ (λτ k=>under_any d _ ai ai) ?_;walk_nrm;refine ky ?_;refine bA (args:=#[aI (ae ⟨b,0,ah⟩),.pointer S.wv,aq af ec,aq af eo,aq af (bo d)]) rfl rfl rfl func132 rfl rfl (by simp[cS,bo]) (λb k fs h1 h2=>S.upush _ _ rfl rfl ⟨f128,by show prog.funcs[b.fn]? =_;rw[h1];exact func128⟩ h2) (Ku S H4.out Py hn (.inr ⟨d,t,es,rfl,Tb⟩)) ?_;rintro i3 r w4 ⟨ok,rfl,h5,K4⟩;walk_nrm;refine on ?_;have K14:=S.trans _ _ _ K3 K4;have hb4:=(S.same _ _ _ _ K4 hb3 bu hbF hbO).1;have Tc:=(S.same _ _ _ _ K4 hb3 bu hbF hbO).2;clear d0 d1 hb3 hbF hF3 MH K3 Ay H4 Tb;cases ok with
   |true=>simp only[if_true]at h5;refine ctx ?_;have hwr:IntKind.i64.wrap ((ix:Int) +1)=((ix+1:Nat):Int):=(by rw[gq];omega);refine iI λτ=>?_;refine iU ?_;simp only[bE,gu,if_true];exact⟨m,ai,ix+1,ai,IsI.mk ..,h5,K14⟩
   |false=>
    simp only[iy,if_false]at h5;refine Cs ?_;simp only[bE];refine pS ?_;refine gP ?_;refine bA (args:=#[.pointer S.wv]) rfl rfl rfl func42 rfl rfl dS (λb k fs h1 h2=>S.upush _ _ rfl rfl ⟨f128,by show prog.funcs[b.fn]? =_;rw[h1];exact func128⟩ h2) (S.step _ _ _ h5) ?_;rintro i5 r w5 ⟨rfl,h6,K5⟩;walk_nrm;refine on ?_;have K15:=S.trans _ _ _ K14 K5;have Y1:=(S.same _ _ _ _ K5 hb4 bu Tc hbO).1;have Y2:=(S.same _ _ _ _ K5 hb4 bu Tc hbO).2;have hD5:=hD.keep (S.go _ _ K15);obtain⟨s5,pJ,VB⟩:=S.get _ _ _ h6;have Ky:=(pJ.word Py).1;have hh:=pJ.hdr;have hwo:=pJ.ok.word ec (by rw[pJ.len];exact Py);have PD:s5.w ec<0->∃d' t' es',s5.w ec=bo d'/\jJ b n w5 d' t' es':=λiN=>by
     rcases hwo with⟨h1,_⟩|⟨d',h1,h2,h3⟩
     .omega
     .obtain⟨D,hD'⟩:=nE.1 h3;obtain⟨t',hdt⟩:=pJ.desc hD';exact⟨d',t',_,h2,hdt⟩
    have hlo: -100000<=s5.w ec/\s5.w ec<=1152921504606846975:=by
     rcases hwo with h1|⟨d',h1,h2,_⟩
     .omega
     .unfold bo at h2;omega
    clear pJ hwo h6 h5 hb4 Tc K4;have VB:S.At i5 (if s5.w ec=bo d then(installsP j6 d es m (ix+1)).bind bG else if s5.w ec<0 then(j6 (-(s5.w ec) -1).toNat).bind λ_=>(installsP j6 d es m ix).bind bG else
     .line (.eff (JS.decide d 2) λ_=>bG aw)) w5:=VB
    generalize hx:s5.w ec=x at*;have d0:=ax Y1 0;simp only[kJ,oP,nK]at d0;refine wpM_seq (iX lA 8 78 [8] rfl aQ (λt=>qz) aQ rfl ?_);simp only[qA,qB];iterate 7
     refine ov ?_
    refine xT (args:=#[aI (ae ⟨c,ec,ah⟩)]) rfl func84 rfl rfl dS ⟨rfl,λt h=>by simp[S3,iq]at h⟩ (λτ k=>OT c ec x (w5.td τ k) Ky) ?_;walk_nrm;refine ky ?_;refine gP ?_;refine on ?_;clear d0 Ky hh;have hwr:IntKind.i64.wrap ((ix:Int) +1)=((ix+1:Nat):Int):=(by rw[gq];omega);by_cases hA:x=bo d
    .have iN:x<0:=(by unfold bo at hA;omega);rw[aX hA]at VB;have HA:=aA hA;clear hA;refine wpM_seq (l3 hcs (λτ=>?_));go_wp2_with (first|(go_at_call 85;refine(uo x _ iN hlo.1).mono ?_;rintro e w' ⟨rfl,rfl⟩))
     refine px ?_;refine cE ?_;refine wpM_seq (l3 hcs (λτ=>?_));go_wp2_with (first|(go_at_call 133;refine(under_any d _ ai ai).mono ?_;rintro e w' ⟨rfl,rfl⟩))
     refine px ?_;refine bz (t:=au) (by have:=HA.out;unfold bo at this;simp[cS,this]) ?_;simp only[if_true];refine l3 hcs (λτ=>?_);go_wp2;refine⟨_,bD _ _,?_⟩;try simp only[bE,gu]
     exact⟨m,ai,ix+1,ai,IsI.mk ..,VB,K15⟩
    rw[aU hA]at VB;have hA':¬(x= -(d:Int) -1):=hA;by_cases iN:x<0
    .rw[aX iN]at VB;obtain⟨d',t',es',pw,hdt⟩:=PD iN;have yr:(-x-1).toNat=d':=(by unfold bo at pw;omega);have Il: -x-1=(d':Int):=(by unfold bo at pw;omega);rw[yr]at VB;have Hd2:=aA Il;clear pw yr Il;refine wpM_seq (l3 hcs (λτ=>?_));go_wp2_with (first|(go_at_call 85;refine(uo x _ iN hlo.1).mono ?_;rintro e w' ⟨rfl,rfl⟩))
     refine px ?_;refine cE ?_;refine wpM_seq (l3 hcs (λτ=>?_));go_wp2_with (first|(go_at_call 133;refine(under_any d _ ai ai).mono ?_;rintro e w' ⟨rfl,rfl⟩))
     refine px ?_;refine bz (t:=aw) (by simp[cS,hA']) ?_;simp only[iy,if_false];refine iI λτ=>?_;refine ctx ?_;refine kD ?_;refine rg ?_;iterate 3
      refine gP ?_
     refine bA (args:=#[aI (ae ⟨b,0,ah⟩),.pointer S.wv,aq af d']) rfl rfl rfl func86 rfl rfl (by simp[cS,Hd2.out]) (λb k fs h1 h2=>S.upush _ _ rfl rfl ⟨f128,by show prog.funcs[b.fn]? =_;rw[h1];exact func128⟩ h2) (afK.out i5 w5 d' t' es' _ VB hdt) ?_;rintro i6 r w6 ⟨ok,rfl,h7,K6⟩;walk_nrm;refine mz ?_;try simp only[bE,gu]
     exact⟨m,ai,ix,ai,IsI.mk ..,h7,S.trans _ _ _ K15 K6⟩
    rw[aU iN]at VB;refine wpM_seq (l3 hcs (λτ=>?_));go_wp2_with (first|(go_at_call 85;refine(Cm x _ ai hlo.2).mono ?_;rintro e w' ⟨rfl,rfl⟩))
    refine px ?_;refine cE ?_;refine wpM_seq (l3 hcs (λτ=>?_));go_wp2_with (first|(go_at_call 133;refine(under_any d _ ai ai).mono ?_;rintro e w' ⟨rfl,rfl⟩))
    refine px ?_;refine bz (t:=aw) (by simp[cS,hA']) ?_;simp only[iy,if_false];refine iI λτ=>?_;refine bz (t:=aw) dS ?_;simp only[iy,if_false];refine pS ?_;refine gP ?_;refine bA (args:=#[.pointer S.wv]) rfl rfl rfl func42 rfl rfl dS (λb k fs h1 h2=>S.upush _ _ rfl rfl ⟨f128,by show prog.funcs[b.fn]? =_;rw[h1];exact func128⟩ h2) (S.step _ _ _ VB) ?_;rintro i6 r w6 ⟨rfl,h7,K6⟩;walk_nrm;refine on ?_;have K16:=S.trans _ _ _ K15 K6;have hD6:=hD.keep (S.go _ _ K16);obtain⟨s6,abr,hnext⟩:=S.dec h h7 K16 hD6 ai;obtain⟨hst,hsz,_⟩:=hD6.status abr;generalize (s6.st d:Int)=y at*;obtain⟨W,hW⟩:∃W,W=if y=0 then w6.setCell ⟨t,193,ah⟩ (.int .i32 (2:Nat))else w6:=⟨_,rfl⟩
    obtain⟨ok,hok⟩:∃ok,(y==0)=ok:=⟨_,rfl⟩;have HN:=aA (hnext W hW);have HW:∀τ,(if y=0 then(w6.tp τ).setCell ⟨t,193,ah⟩ (.int .i32 2)else w6.tp τ)=W.tp τ:=λτ=>(by subst hW;split<;>rfl);have HW:=aA HW;have Hok:=aA hok;clear hnext hW hok abr h7 VB hD6 PD;refine wpM_seq (l3 hcs (λτ=>?_));go_wp2_with (first|(go_at_call 129;refine(Fq t 193 y 0 2 (w6.tp τ) (W.tp τ) ok hst hsz Hok.out (HW.out τ)).mono ?_;rintro e w' ⟨rfl,rfl⟩))
    refine⟨W,bD _ _,?_⟩;try simp only[bE]
    refine iI λτ=>?_;refine cD ?_;try simp only[bE,gu]
    exact⟨rfl,.bool aw,jT,aw,rfl,HN.out.1,HN.out.2⟩
end
inductive aam(b:Nat)(wv:Option aP)(d t:Nat):Act->Prop
 |mk (u3 u4 u5 u6 u8 u9 sK nW nX mU mA mB u16 lK lL lM lN mV mX u23 u24 mY u26 lO u28 lQ lR mC u32 u33 mD mE mF mG mZ m9 nV oU oV pU u44 pV oX oY oZ o6 o7 o8 o9 sH sI ub ud wE wG wH wI wJ wK wL u64 wM wN:ay):aam b wv d t {tmps:=#[aI (ae ⟨b,0,ah⟩),.pointer wv,aq af d,u3,u4,u5,u6,aI (ae ⟨t,0,ah⟩),u8,u9,sK,nW,nX,mU,mA,mB,u16,lK,lL,lM,lN,mV,mX,u23,u24,mY,u26,lO,u28,lQ,lR,mC,u32,u33,mD,mE,mF,mG,mZ,m9,nV,oU,oV,pU,u44,pV,oX,oY,oZ,o6,o7,o8,o9,sH,sI,ub,ud,wE,wG,wH,wI,wJ,wK,wL,u64,wM,wN],defers:=[]}
inductive Rz(b:Nat)(wv:Option aP)(d t:Nat)(is:Bool)(len cap ix:Nat):Act->Prop
 |mk (u3 u4 u5 u6 u9 sK nW nX mU mA mB u16 lK lL lM lN mV mX u23 u24 mY u26 lO u28 lQ lR mC u32 u33 mD mE mF mG mZ m9 nV oU oV oX oY oZ o6 o7 o8 o9 sH sI ub ud wE wG wH wI wJ wK wL u64 wM wN:ay):Rz b wv d t is len cap ix {tmps:=#[aI (ae ⟨b,0,ah⟩),.pointer wv,aq af d,u3,u4,u5,u6,aI (ae ⟨t,0,ah⟩),.bool is,u9,sK,nW,nX,mU,mA,mB,u16,lK,lL,lM,lN,mV,mX,u23,u24,mY,u26,lO,u28,lQ,lR,mC,u32,u33,mD,mE,mF,mG,mZ,m9,nV,oU,oV,aD (ae ⟨t,1,ah⟩) len cap,aq af len,aq af ix,oX,oY,oZ,o6,o7,o8,o9,sH,sI,ub,ud,wE,wG,wH,wI,wJ,wK,wL,u64,wM,wN],defers:=[]}
inductive aan(b:Nat)(wv:Option aP)(d t:Nat)(is:Bool)(len cap ix eb:Nat)(to:Int):Act->Prop
 |mk (u3 u4 u5 u6 u9 nX mU mA mB u16 lK lL lM lN mV mX u23 u24 mY u26 lO u28 lQ lR mC u32 u33 mD mE mF mG mZ m9 nV oU oV oX oY oZ o6 o7 o8 o9 sH sI ub ud wE wG wH wI wJ wK wL u64 wM wN:ay):aan b wv d t is len cap ix eb to {tmps:=#[aI (ae ⟨b,0,ah⟩),.pointer wv,aq af d,u3,u4,u5,u6,aI (ae ⟨t,0,ah⟩),.bool is,u9,aI (ae ⟨eb,0,ah⟩),aq af to,nX,mU,mA,mB,u16,lK,lL,lM,lN,mV,mX,u23,u24,mY,u26,lO,u28,lQ,lR,mC,u32,u33,mD,mE,mF,mG,mZ,m9,nV,oU,oV,aD (ae ⟨t,1,ah⟩) len cap,aq af len,aq af ix,oX,oY,oZ,o6,o7,o8,o9,sH,sI,ub,ud,wE,wG,wH,wI,wJ,wK,wL,u64,wM,wN],defers:=[]}
section
variable{c n:Nat}{main:Bool}{Stop:ι->aB->List aB->aj->Prop}{w:aj}
structure ahK{ι:Type}(i:ι)(w:aj)(P:Act->Prop)(i':ι)(e:Exit)(a:Act)(w':aj):Prop where
 i:i'=i
 e:e=.normal
 w:w'=w
 p:P a
def uq(d:Nat)(es:List fC)(bG:Bool->Pr JS α):Pr JS α:= .line (.eff id λs=>(jH d (decide (s.st d=1)) es).bind λ_=>bG (decide (s.st d=1)))
theorem Nj{d:Nat}{e:fC}{es:List fC}{p:Pr JS α}:(jH d is (e::es)).bind (λ_=>p)=(casP e.cell (bo d) (if is then dR e.old e.next else e.old)).bind λ_=>(jH d is es).bind λ_=>p:=by simp only[jH,Pr.bind_assoc]
theorem Nl{f d:Nat}{bG:Bool->Pr JS α}:(kt (f+1) d).bind bG=.eff id λs=>(installsP (kt f) d (s.es d) f 0).bind λok=>if ok then .line (.eff (JS.decide d 1) λ_=>uq d (s.es d) bG)else uq d (s.es d) bG:=by simp only[kt,Pr.bind,Pr.bind_assoc,mM,uq]
theorem Fu(S:lT α (cI F b c lo n) main cs Jm Stop)(hn:n<=64):∀f,Kw S (kt f):=by
 intro f;induction f with
 |zero=>exact λi w d t es bG h _=>(S.on _ _ h).elim
 |succ f ih=>
  intro i w d t es bG h T6;rw[Nl]at h;have h00:=h;obtain⟨s,eI,h1⟩:=S.get _ _ _ h;obtain⟨D,Dl,_,_⟩:=T6.there eI;obtain⟨t',hD⟩:=eI.desc Dl;obtain rfl:t=t':=by have:=hD.ptr;rw[T6.ptr]at this;simpa using this
  have hes:s.es d=D.es:=by simp[JS.es,Dl]
  rw[hes]at h1;obtain⟨_,_,yN⟩:=hD.status eI;have Nn:=hD.ptr;have Y0:=hD.lt;clear T6 hes Dl eI;generalize D.es=es at*;have hcs:=S.hcs;refine bL func86 rfl ?_;simp only[f86,cN];walk_nrm;refine iI λτ=>?_;refine pS ?_;have ai8:(d:Int) <8192:=ai;iterate 5
   refine gP ?_
  refine bA (args:=#[aI (ae ⟨b,1+d,ah⟩)]) rfl rfl rfl func127 rfl rfl dS (λb k fs h1 h2=>S.upush _ _ rfl rfl ⟨f86,by show prog.funcs[b.fn]? =_;rw[h1];exact func86⟩ h2) (Ry S.hcs b (1+d) t Nn yN) ?_;rintro i' r w' ⟨rfl,e1,e2⟩;obtain rfl:=e1.symm;obtain rfl:=e2.symm;walk_nrm;refine gP ?_;refine on ?_;refine zU (λi' a' w'=>aam b S.wv d t a'/\S.At i' (uq d es bG) w'/\S.Keep w w') ?_ ?_
  .refine wpM_seq (kD ?_);refine rg ?_;iterate 4
    refine gP ?_
   refine bA (args:=#[aI (ae ⟨b,0,ah⟩),.pointer S.wv,aq af d,aI (ae ⟨t,0,ah⟩)]) rfl rfl rfl func128 rfl rfl dS (λb k fs h1 h2=>S.upush _ _ rfl rfl ⟨f86,by show prog.funcs[b.fn]? =_;rw[h1];exact func86⟩ h2) (En S ih hn h1 hD) ?_;rintro i2 r w2 ⟨ok,rfl,h2,K2⟩;walk_nrm;refine on ?_;cases ok with
   |false=>simp only[iy,if_false]at h2;refine Cs ?_;exact⟨aam.mk ..,h2,K2⟩
   |true=>
    simp only[if_true]at h2;refine ctx ?_;refine pS ?_;refine gP ?_;refine bA (args:=#[.pointer S.wv]) rfl rfl rfl func42 rfl rfl dS (λb k fs h1 h2=>S.upush _ _ rfl rfl ⟨f86,by show prog.funcs[b.fn]? =_;rw[h1];exact func86⟩ h2) (S.step _ _ _ h2) ?_;rintro i3 r w3 ⟨rfl,h3,K3⟩;walk_nrm;refine on ?_;have K13:=S.trans _ _ _ K2 K3;have Tb:=hD.keep (S.go _ _ K13);obtain⟨s3,vH,hnext⟩:=S.dec h h3 K13 Tb ai;obtain⟨hst,hsz,_⟩:=Tb.status vH;generalize (s3.st d:Int)=y at*;obtain⟨W,hW⟩:∃W,W=if y=0 then w3.setCell ⟨t,193,ah⟩ (.int .i32 (1:Nat))else w3:=⟨_,rfl⟩
    obtain⟨ok,hok⟩:∃ok,(y==0)=ok:=⟨_,rfl⟩;have HN:=aA (hnext W hW);have HW:∀τ,(if y=0 then(w3.tp τ).setCell ⟨t,193,ah⟩ (.int .i32 1)else w3.tp τ)=W.tp τ:=λτ=>(by subst hW;split<;>rfl);have HW:=aA HW;have Hok:=aA hok;clear hnext hW hok vH h3 h2 Tb;refine l3 hcs (λτ=>?_);go_wp2_with (first|(go_at_call 129;refine(Fq t 193 y 0 1 (w3.tp τ) (W.tp τ) ok hst hsz Hok.out (HW.out τ)).mono ?_;rintro e w' ⟨rfl,rfl⟩))
    refine⟨W,bD _ _,?_⟩;try simp only[bE]
    exact⟨aam.mk ..,HN.out.1,HN.out.2⟩
  rintro i1 a1 w1 ⟨hA,h4,K1⟩;unfold uq at h4;cases hA;refine pS ?_;refine gP ?_;refine bA (args:=#[.pointer S.wv]) rfl rfl rfl func42 rfl rfl dS (λb k fs h1 h2=>S.upush _ _ rfl rfl ⟨f86,by show prog.funcs[b.fn]? =_;rw[h1];exact func86⟩ h2) (S.step _ _ _ h4) ?_;rintro i2 r w2 ⟨rfl,h5,K2⟩;walk_nrm;refine on ?_;have MH:=S.trans _ _ _ K1 K2;have Pz:=hD.keep (S.go _ _ MH);obtain⟨s2,uf,h5'⟩:=S.get _ _ _ h5;obtain⟨hst,_,_⟩:=Pz.status uf;have h6:S.At i2 ((jH d (decide (s2.st d=1)) es).bind λ_=>bG (decide (s2.st d=1))) w2:=h5';have hsi:((s2.st d:Int)==1)=decide (s2.st d=1):=by rw[Bool.eq_iff_iff];simp;omega
  generalize hy:(s2.st d:Int)=y at*;generalize decide (s2.st d=1)=is at*;clear h5 h5' h4 uf hy;have Hsi:=aA hsi;clear hsi;refine wpM_seq (l3 hcs (λτ=>?_));go_wp2_with (first|(go_at_call 130;refine(Gk t 193 y (w2.tp τ) hst).mono ?_;rintro e w' ⟨rfl,rfl⟩))
  refine px ?_;rw[Hsi.out];have hlen:=Pz.len;have wV:=Pz.few;have hl:(es.length:Int)<=64:=ai;clear hst;refine wpM_seq (wpM_seq (l3 hcs (λτ=>?_)))
  go_quiet (fail)
  go_wp2;refine⟨w2,⟨rfl,rfl,rfl⟩,?_⟩;try simp only[bE]
  clear Hsi hlen;refine cE (iV (λm i' a' w'=>∃ix,m=es.length-ix/\ix<=es.length/\Rz b S.wv d t is es.length 64 ix a'/\S.At i' ((jH d is (es.drop ix)).bind λ_=>bG is) w'/\S.Keep w w') (n:=es.length) ⟨0,rfl,bQ _,Rz.mk ..,h6,MH⟩ ?_);rintro m i3 a3 w3 ⟨ix,rfl,UW,hA,h7,K3⟩;have Tb:=hD.keep (S.go _ _ K3);have hlen:=Tb.len;by_cases hlt:ix<es.length
  .obtain⟨e,he⟩:∃e,es[ix]? =ae e:=⟨_,eQ hlt⟩;have abt:es.drop ix=e::es.drop (ix+1):=(by rw[List.drop_eq_getElem_cons hlt];congr 1;rw[eQ hlt]at he;exact bj he);rw[abt,Nj]at h7;obtain⟨Py,ho0,ho1,hn0,OX⟩:=Tb.ok e (nJ he);obtain⟨c1,c2,c3⟩:=Tb.ent ix e he;obtain⟨ec,eo,en⟩:=e;simp only at c1 c2 c3 Py ho0 ho1 hn0 OX h7;have hwr:IntKind.i64.wrap ((ix:Int) +1)=((ix+1:Nat):Int):=(by rw[gq];omega);have Ih:=aA ih;clear ih Tb h h1 h6 abt he hlen;cases hA;refine iI λτ=>?_;refine wpM_seq (bz (t:=au) (by simp[cS,hlt]) (eY ?_));try simp only[bE]
   refine wpM_seq (cE ?_);refine iI λτ=>?_;generalize hw4:w3.alloc _=w4;have hb4:w4.heap[w3.heap.size]? =ae (aK #[aq af ec,aq af eo,aq af en] 121 (0,0)):=(by subst hw4;simp only[←dt,dz];rw[aX trivial]);obtain⟨h8,K4,Tc⟩:=S.fresh _ _ _ _ _ _ w4 h00 h7 K3 (by subst hw4;simp) (λx hx hne=>by refine aT ?_ hne;subst hw4;simp only[←dt,dz];rw[aU ai]);have hD4:=hD.keep (S.go _ _ K4);generalize w3.heap.size=eb at*;clear hw4 c1 c2 c3 h7 Tc h00;have H8:=aA h8;clear h8;have d0:=ax hb4 0;have d1:=ax hb4 1;have d2:=ax hb4 2;simp only[kJ,oP,nK]at d0 d1 d2;refine iI λτ=>?_;have hto:wU b n w4 (if is then dR eo en else eo):=by
    have:=tY eo en hn0 OX;refine .inl ?_;split
    .exact⟨this.1,this.2.1⟩
    .exact⟨ho0,ho1⟩
   refine zU (λi' a' w'=>ahK i3 w4 (aan b S.wv d t is es.length 64 ix eb (if is then dR eo en else eo)) i' .normal a' w') ?_ ?_
   .cases is with
    |true=>
     refine wpM_seq (l3 hcs (λτ=>?_));go_wp2;refine px ?_;refine ctx ?_;refine l3 hcs (λτ=>?_);go_wp2_with (first|(go_at_call 131;refine(My eo en _ ho0 ho1 hn0 OX).mono ?_;rintro e w' ⟨rfl,rfl⟩))
     refine px ?_;exact⟨rfl,rfl,rfl,aan.mk ..⟩
    |false=>refine wpM_seq (l3 hcs (λτ=>?_));go_wp2;refine px ?_;refine Cs ?_;exact⟨rfl,rfl,rfl,aan.mk ..⟩
   rintro i4 a4 w5 ⟨e1,_,e2,IA⟩;obtain rfl:=e1.symm;obtain rfl:=e2.symm;generalize (if is then dR eo en else eo)=to at*;cases IA;refine fu (Q:=λi' e' a' w'=>e'=.normal/\Rz b S.wv d t is es.length 64 ix a'/\S.At i' ((jH d is (es.drop (ix+1))).bind λ_=>bG is) w'/\S.Keep w w') ?_ ?_
   .refine iX lA 7 67 [7] rfl aQ (λt=>qz) aQ rfl ?_;simp only[qA,qB];iterate 5
     refine ov ?_
    refine xT (args:=#[aq af d]) rfl func133 rfl rfl dS ⟨rfl,λt h=>by simp[S3,iq]at h⟩ (λτ k=>under_any d _ ai ai) ?_;walk_nrm;refine ov ?_;refine ky ?_;refine bA (args:=#[aI (ae ⟨b,0,ah⟩),.pointer S.wv,aq af ec,aq af (bo d),aq af to]) rfl rfl rfl func132 rfl rfl (by simp[cS,bo]) (λb k fs h1 h2=>S.upush _ _ rfl rfl ⟨f86,by show prog.funcs[b.fn]? =_;rw[h1];exact func86⟩ h2) (Ku S H8.out Py hn hto) ?_;rintro i5 r w6 ⟨ok,rfl,h9,K6⟩;walk_nrm;refine mz ?_;exact⟨rfl,Rz.mk ..,h9,S.trans _ _ _ K4 K6⟩
   .rintro i5 e' a5 w6 ⟨rfl,O4,h9,K6⟩;simp only[gu,bE];cases O4;refine l3 hcs (λτ=>?_);go_wp2;refine⟨_,bD _ _,?_⟩;exact⟨es.length- (ix+1),ai,ix+1,rfl,ai,Rz.mk ..,h9,K6⟩
  .have Gm:ix=es.length:=ai;rw[Gm,List.drop_length]at h7;have hd:¬((es.length:Int) < (es.length:Int)):=ai;rw[Gm]at hA;have Ih:=aA ih;clear ih Gm hlt UW hlen Tb;cases hA;clear e1 e2;simp only[Int.not_lt]at hd;refine iI λτ=>?_;refine wpM_seq (bz (t:=aw) dS (iU ?_));simp only[bE,gu,if_true];refine iI λτ=>?_;refine cD ?_;exact⟨rfl,.bool is,jT,is,rfl,h7,K3⟩
end
end
section
open Go Go.Conc Go.ConcN Go.RowKit
def PE(s o:Nat)(es:List fC)(w:aj):Prop:=∀j v,(es.flatMap fD)[j]? =ae v->w.cell? ⟨s,o+j,ah⟩=ae v
section
variable{c n:Nat}{s:JS}{w:aj}
theorem JRep.make(R:JRep b c lo n s w){es:List fC}(hk:k<8)(hm:s.made k<1024)(hes:∀e∈es,e.Ok n)(wV:1<=es.length/\es.length<=64)(hlo:lo<=w.heap.size)(ht:t=w.heap.size)
  (hsz:w'.heap.size=w.heap.size+1)(dA:∀x,x<w.heap.size->x≠b->w'.heap[x]? =w.heap[x]?)(hb:∃cb e,w'.heap[b]? =ae (aK cb e (0,0))/\cb.size=8201)(hbo:∀o,o≠8193+k->o≠1+(k+8*s.made k)->w'.cell? ⟨b,o,ah⟩=w.cell? ⟨b,o,ah⟩)
  (hmk:w'.cell? ⟨b,8193+k,ah⟩=ae (aq af ((s.made k+1:Nat):Int)))(Nn:w'.cell? ⟨b,1+(k+8*s.made k),ah⟩=ae (aI (ae ⟨t,0,ah⟩)))(htb:w'.heap[t]? =ae (aK (gU ⟨es,0⟩) 187 (0,0))):
  JRep b c lo n (s.make k es) w'/\JG b w w'/\(∀x,cU b c w' x->cU b c w x\/x=w.heap.size)/\jJ b n w' (k+8*s.made k) t es:=by
 have hlt:=R.lt;have hd:k+8*s.made k<8192:=ai;have hnone:s.ds (k+8*s.made k)=ah:=(R.ok.made k hk).2 _ (bJ _);have hne:∀d',d'<8192->d'≠k+8*s.made k->w'.cell? ⟨b,1+d',ah⟩=w.cell? ⟨b,1+d',ah⟩:=λd' h1 h2=>hbo _ ai ai;have old:∀d' D,s.ds d'=ae D->d'≠k+8*s.made k:=λd' D h e=>by rw[e,hnone]at h;cases h
 have hold:∀d' t',d'<8192->w.cell? ⟨b,1+d',ah⟩=ae (aI (ae t'))->(∃D,s.ds d'=ae D/\t'.off=0/\t'.spot=ah/\w.heap[t'.block]? =ae (aK (gU D) 187 (0,0))/\lo<=t'.block)/\d'≠k+8*s.made k:=λd' t' h1 h2=>by
  have ha:=R.all d' h1;cases e:s.ds d' with
  |none=>simp only[e]at ha;obtain⟨u,h3,h4⟩:=ha;rw[h2]at h3;exact aT (bj h3).symm (h4 _)
  |some D=>simp only[e]at ha;obtain⟨t'',h3,h4,h5⟩:=ha;rw[h2]at h3;obtain rfl:t'=⟨t'',0,ah⟩:=(by simpa using h3);exact⟨⟨D,rfl,rfl,rfl,h5,h4⟩,old d' D e⟩
 have VC:∀x,x≠b->x<w.heap.size->w'.heap[x]? =w.heap[x]? :=λx h1 h2=>dA x h2 h1;have eI:JRep b c lo n (s.make k es) w':=by
  refine⟨⟨R.ok.few,λi hi=>?_,λd' D' h=>?_,λk' qK=>?_⟩,R.len,R.ne,R.hlo,hb,?_,?_,λd' yr=>?_,λk' qK=>?_,λd1 d2 t' h1 h2 h3 h4=>?_⟩
  .refine(R.ok.word i hi).imp id λ⟨d',h1,h2,h3⟩=>⟨d',h1,h2,?_⟩;show(if d'=k+8*s.made k then ae ⟨es,0⟩else s.ds d')≠ah;split
   .simp
   .exact h3
  .have h:(if d'=k+8*s.made k then ae ⟨es,0⟩else s.ds d')=ae D':=h;split at h
   .rename_i e;obtain rfl:=bj h;refine⟨ai,wV.1,wV.2,by show(0:Nat)<=2;omega,λe' S8=>?_⟩;have:=hes e' S8;rw[←R.len]at this;exact this
   .exact R.ok.desc d' D' h
  .show(if k'=k then s.made k+1 else s.made k')<=1024/\∀m,(if k'=k then s.made k+1 else s.made k')<=m->(if k'+8*m=k+8*s.made k then _ else _)=ah;obtain⟨a1,a2⟩:=R.ok.made k' qK;by_cases e:k'=k
   .subst e;simp only[if_true];refine⟨ai,λm vx=>?_⟩;rw[aU ai];exact a2 m ai
   .simp only[aU e];refine⟨a1,λm vx=>?_⟩;rw[aU ai];exact a2 m vx
  .obtain⟨e,h⟩:=R.cc;exact⟨e,by rw[VC c (bZ R.ne) hlt.2];exact h⟩
  .rw[hbo 0 ai ai];exact R.hdr
  .show match(if d'=k+8*s.made k then ae (⟨es,0⟩:mK)else s.ds d')with|none=>_|some D=>_;by_cases e:d'=k+8*s.made k
   .rw[aX e,e];exact⟨t,Nn,ai,htb⟩
   .rw[aU e];have ha:=R.all d' yr;cases e2:s.ds d' with
    |none=>simp only[e2]at ha⊢;rw[hne d' yr e];exact ha
    |some D=>simp only[e2]at ha⊢;obtain⟨t',h1,h2,h3⟩:=ha;have Ar:=(bF.1 h3).1;have:=R.hlo.1;exact⟨t',by rw[hne d' yr e];exact h1,h2,by rw[VC t' ai Ar];exact h3⟩
  .show _=ae (Value.int .i64 ((if k'=k then s.made k+1 else s.made k':Nat):Int));by_cases e:k'=k
   .subst e;rw[aX rfl];exact hmk
   .rw[aU e,hbo _ ai ai];exact R.made k' qK
  .by_cases e1:d1=k+8*s.made k<;>by_cases e2:d2=k+8*s.made k
   .rw[e1,e2]
   .exfalso;rw[e1,Nn]at h3;obtain rfl:(⟨t,0,ah⟩:aP)=t':=(by simpa using h3);rw[hne d2 h2 e2]at h4;obtain⟨⟨D,_,_,_,h5,_⟩,_⟩:=hold d2 _ h2 h4;have:=(bF.1 h5).1;simp only at this;omega
   .exfalso;rw[e2,Nn]at h4;obtain rfl:(⟨t,0,ah⟩:aP)=t':=(by simpa using h4);rw[hne d1 h1 e1]at h3;obtain⟨⟨D,_,_,_,h5,_⟩,_⟩:=hold d1 _ h1 h3;have:=(bF.1 h5).1;simp only at this;omega
   .rw[hne d1 h1 e1]at h3;rw[hne d2 h2 e2]at h4;exact R.inj d1 d2 t' h1 h2 h3 h4
 refine⟨eI,λd' t' h1 h2=>?_,λx hx=>?_,?_⟩
 .obtain⟨⟨D,_,_,_,h5,h6⟩,h7⟩:=hold d' t' h1 h2;have hl:=(bF.1 h5).1;have:=R.hlo.1;exact⟨by rw[hne d' h1 h7];exact h2,λi _=>dr (w:=w) (VC t'.block ai hl)⟩
 .rcases hx with h|h|⟨d',t',h1,h2,h3⟩
  .exact .inl (.inl h)
  .exact .inl (.inr (.inl h))
  .by_cases e:d'=k+8*s.made k
   .rw[e,Nn]at h2;obtain rfl:(⟨t,0,ah⟩:aP)=t':=rW;exact .inr (by rw[h3,ht])
   .rw[hne d' h1 e]at h2;exact .inl (.inr (.inr ⟨d',t',h1,h2,h3⟩))
 .obtain⟨t',h⟩:=eI.desc (d:=k+8*s.made k) (D:=⟨es,0⟩) (by show(if _=_ then _ else _)=_;rw[aX rfl]);obtain rfl:t=t':=by have:=h.ptr;rw[Nn]at this;simpa using this
  exact h
end
end
section
open Go Go.Conc Go.ConcN Go.RowKit
attribute [local go_sem] ba bf bH a8 bC bK aS aV fy dI fA bO
def kL(n:Int):Array ay:=(Value.int .i64 n::(eA 192 (Value.int .i64 0) ++[Value.int .i32 0])).toArray
theorem C7(n:Int):(kL n).size=194:=by show(Value.int .i64 n::(eA 192 (Value.int .i64 0) ++[Value.int .i32 0])).length=194;rw[fO,mo,si];rfl
theorem RA:Tryz.zeroCells187=kL 0:=aQ
theorem Eo(n:Int):Tryz.zeroCells187.setIfInBounds 0 (aq af n)=kL n:=by rw[RA];unfold kL;rw[oF,sS]
theorem Er(w:aj)(dT sT ty elem:bq)(b o adj ahL sz:Nat)(a:aP)(adk ahM:Nat)(cs:List ay)
  (hu:P.underlying dT=ae (.slice elem))(hs:(P.info? elem).map (·.size)=ae sz)(hn:cs.length=Nat.min adk adj*sz)
  (hsrc:∀j v,cs[j]? =ae v->w.cell? (a.add j)=ae v)(hc:∀j,j<cs.length->(w.cell? ⟨b,o+j,ah⟩).isSome=au)(hf:∀j,j<cs.length->w.frozen? ⟨b,o+j,ah⟩=aw)(h1:∀v∈cs,v.oneCell'=au):
  (Builtin.copy_ #[dT,sT] ty #[aD (ae ⟨b,o,ah⟩) adj ahL,aD (ae a) adk ahM]).run P w=.ok (goInt (Nat.min adk adj)) (w.setCells b o cs):=by
 have hl:=run_loadCells_list (P:=P) w a cs hsrc;have hst:=run_storeCells_cells (P:=P) b o cs 0 w (by simpa using hc) (by simpa using hf) h1;cases hq:P.info? elem with
 |none=>simp[hq]at hs
 |some i=>
  have hi:i.size=sz:=by simpa[hq]using hs
  simp[Builtin.copy_,run_underlying hu,Builtin.lenOf,Builtin.firstCells,sizeOf,typeInfo,hq,hi,←hn,hl,hst]
theorem Np:(prog.info? 121).map (·.size)=ae 3:=aQ
theorem C8(b o j:Nat):(⟨b,o,ah⟩:aP).add j=⟨b,o+j,ah⟩:=by unfold Addr.add;split<;>simp_all
theorem Kz(es:List fC):∀v∈es.flatMap fD,v.oneCell'=au:=by intro v hv;obtain⟨e,_,h⟩:=List.mem_flatMap.1 hv;simp only[fD,fU,rP,or_false]at h;rcases h with rfl|rfl|rfl<;>rfl
theorem ur:∀(vs:List ay) (o b:Nat) (w:aj) (pre mid post:List ay) (e:bq) (f:Nat×Nat),w.heap[b]? =ae (aK (pre++mid++post).toArray e f)->pre.length=o->mid.length=vs.length->(w.setCells b o vs).heap[b]? =ae (aK (pre++vs++post).toArray e f)/\(w.setCells b o vs).heap.size=w.heap.size/\∀x,x≠b->(w.setCells b o vs).heap[x]? =w.heap[x]?
 |[],o,b,w,pre,mid,post,e,f,h,_,hm=>by obtain rfl:mid=[]:=yH.1 hm;exact⟨h,rfl,λ_ _=>rfl⟩
 |v::vs,o,b,w,pre,mid,post,e,f,h,hp,hm=>by
  cases mid with
  |nil=>simp at hm
  |cons m mid=>simp only[fO,Nat.add_right_cancel_iff]at hm;have h1:=aH (o:=o) h v;rw[oF,show(pre++m::mid++post).set o v=(pre++[v]) ++mid++post by rw[vq,List.set_append_right _ _ ai,hp.symm,Nat.sub_self];simp]at h1;obtain⟨a1,a2,a3⟩:=ur vs (o+1) b (w.setCell ⟨b,o,ah⟩ v) (pre++[v]) mid post e f h1 (by simp[hp]) hm;refine⟨by rw[World.setCells,a1];simp,by rw[World.setCells,a2];simp[fF],λx hx=>by rw[World.setCells,a3 x hx,az hx]⟩
theorem KA{w:aj}{es:List fC}(hn:es.length<=64)(hb:w.heap[t]? =ae (aK (kL es.length) 187 (0,0))):(w.setCells t 1 (es.flatMap fD)).heap[t]? =ae (aK (gU ⟨es,0⟩) 187 (0,0))/\(w.setCells t 1 (es.flatMap fD)).heap.size=w.heap.size/\∀x,x≠t->(w.setCells t 1 (es.flatMap fD)).heap[x]? =w.heap[x]? :=by
 have hl:=ja es;have adl:eA 192 (Value.int .i64 0)=eA (3*es.length) (Value.int .i64 0) ++eA (192-3*es.length) (Value.int .i64 0):=by rw[List.replicate_append_replicate];congr 1;omega
 have:=ur (es.flatMap fD) 1 t w [Value.int .i64 es.length] (eA (3*es.length) (Value.int .i64 0)) (eA (192-3*es.length) (Value.int .i64 0) ++[Value.int .i32 0]) 187 (0,0) (by rw[hb];unfold kL;rw[adl];simp only[vq,jZ,kU]) rfl (by simp[hl]);obtain⟨a1,a2,a3⟩:=this;refine⟨?_,a2,a3⟩;rw[a1];unfold gU;simp only[vq,jZ,kU];rfl
theorem Aj(b:Nat)(τ:Nat->iz->Nat):∀(vs:List ay) (o:Nat) (w:aj),(w.tp τ).setCells b o vs=(w.setCells b o vs).tp τ
 |[],_,_=>rfl
 |v::vs,o,w=>by rw[World.setCells,World.setCells,←Aj b τ vs];rfl
section
variable{c n:Nat}{main:Bool}{Stop:ι->aB->List aB->aj->Prop}{w:aj}
def lT.aao{L:wq JS}(S:lT α L main cs Jm Stop)(bG:Bool×Int->Pr JS α)(w:aj)(i':ι)(r:ay)(w':aj):Prop:=∃ok e,r=.tuple #[.bool ok,aq af e]/\S.At i' (bG (ok,e)) w'/\S.Keep w w'
theorem Nq{es:List fC}{bG:Bool×Int->Pr JS α}:(doesP F k es).bind bG=.eff id λs=>if 1024<=s.made k then bG (aw,261)else .eff (JS.make k es) λs=>(kt F (k+8*s.made k)).bind λok=>bG (ok,0):=by simp only[doesP,Pr.bind,mM,Pr.bind_assoc]
theorem rC(S:lT α (cI F b c lo n) main cs Jm Stop)(hn:n<=64){es:List fC}{bG:Bool×Int->Pr JS α}{o cap:Nat}(h:S.At i ((doesP F S.num es).bind bG) w)(hlo:lo<=w.heap.size)(hs:PE s o es w)(hsb:s≠b)(Ip:s<w.heap.size)(hes:∀e∈es,e.Ok n)(wV:1<=es.length/\es.length<=64):
  CallsM aC main cs Jm Stop S.U i 47 #[aI (ae ⟨b,0,ah⟩),.pointer S.wv,aD (ae ⟨s,o,ah⟩) es.length cap] w (S.aao bG w):=by
 have h00:=h;rw[Nq]at h;have hcs:=S.hcs;refine bL func47 rfl ?_;simp only[f47,cN];walk_nrm;refine iI λτ=>?_;refine pS ?_;refine gP ?_;refine bA (args:=#[.pointer S.wv]) rfl rfl rfl func88 rfl rfl dS (λb k fs h1 h2=>S.upush _ _ rfl rfl ⟨f47,by show prog.funcs[b.fn]? =_;rw[h1];exact func47⟩ h2) (S.number _ _ _ h) ?_;rintro i' r w' ⟨rfl,e1,e2⟩;obtain rfl:=e1.symm;obtain rfl:=e2.symm;walk_nrm;refine gP ?_;refine on ?_;obtain⟨s0,eI,h1⟩:=S.get _ _ _ h;have hk:=S.few;generalize S.num=k at*;have hmk:=eI.made k hk;have hki:(k:Int) <8:=ai;have hbz:=eI.bit (8193+k);by_cases hm:1024<=s0.made k
 .have YN:(1024:Int)<=(s0.made k:Int):=ai;simp only[aX hm]at h1;clear eI h h00;clear e1 e2;refine Ai λτ=>?_;refine bz (t:=au) dS ?_;refine iI λτ=>?_;refine cD ?_;exact⟨rfl,.tuple #[.bool aw,aq af 261],jT,aw,261,rfl,h1,S.refl _⟩
 .have YN:¬((1024:Int)<=(s0.made k:Int)):=ai;simp only[aU hm]at h1;obtain⟨s1,jE,hnext⟩:=S.eff _ _ _ _ _ _ _ h00 h1 (S.refl w);have jE:JRep b c lo n s1 w:=jE;have hm1:s0.made k=s1.made k:=by have:=jE.made k hk;rw[hmk]at this;simp at this;omega
  rw[hm1]at hmk YN hm;obtain⟨m,Dx⟩:∃m,m=s1.made k:=⟨_,rfl⟩;rw[←Dx]at hmk YN hm;have vx:m<1024:=ai;have iA:IntKind.i64.wrap (8*(m:Int))=((8*m:Nat):Int):=by rw[gq];omega
  have hw2:IntKind.i64.wrap ((k:Int) +((8*m:Nat):Int))=((k+8*m:Nat):Int):=by rw[gq];omega
  have hw3:IntKind.i64.wrap ((m:Int) +1)=((m+1:Nat):Int):=by rw[gq];omega
  have afL:=jE.lt.1;have hall:=jE.all (k+8*m) ai;have hnone:s1.ds (k+8*m)=ah:=by rw[Dx];exact(jE.ok.made k hk).2 _ (bJ _)
  simp only[hnone]at hall;obtain⟨u,hu,_⟩:=hall;have hbb:=jE.bb;have HR:=aA jE;have HN:=aA hnext;have HM:=aA Dx;have Hs:=aA hs;have Hes:=aA hes;have Hu:=aA hu;have Hb:=aA hbb;have H0:=aA h00;clear eI jE hnext h h1 h00 Dx hm1 hs hes hnone hu hbb;refine wpM_seq (wpM_seq (l3 hcs (λτ=>?_)));go_wp2;refine px ?_;refine Cs ?_;try simp only[bE]
  refine iI λτ=>?_;refine wpM_seq (iX lA 10 60 [10] rfl aQ (λt=>qz) aQ rfl ?_);simp only[qA,qB];iterate 10
   refine ov ?_
  refine ky ?_;refine gP ?_;refine on ?_;refine iI λτ=>?_;rw[Eo];generalize hW1:(w.setCell ⟨b,8193+k,ah⟩ (aq af ((m:Int) +1))).alloc (aK (kL es.length) 187)=W1;have hs1:W1.heap.size=w.heap.size+1:=by subst hW1;simp[fF]
  have ht1:W1.heap[w.heap.size]? =ae (aK (kL es.length) 187 (0,0)):=by subst hW1;simp only[←dt,dz];rw[aX jM]
  have ho1:∀x,x<w.heap.size->x≠b->W1.heap[x]? =w.heap[x]? :=λx hx hxb=>by subst hW1;simp only[←dt,dz];rw[aU (by simp[fF];omega),az hxb]
  have hb1:∃cb e,w.heap[b]? =ae (aK cb e (0,0))/\cb.size=8201/\W1.heap[b]? =ae (aK (cb.setIfInBounds (8193+k) (aq af ((m:Int) +1))) e (0,0)):=by obtain⟨cb,e,h1,h2⟩:=Hb.out;refine⟨cb,e,h1,h2,?_⟩;subst hW1;simp only[←dt,dz];rw[aU (by simp[fF];omega),aH h1]
  clear hW1;have Fv:∀τ,(Builtin.copy_ #[122,122] 3 #[aD (ae ⟨w.heap.size,1,ah⟩) 64 64,aD (ae ⟨s,o,ah⟩) es.length cap]).run aC (W1.tp τ)=.ok (goInt es.length) ((W1.setCells w.heap.size 1 (es.flatMap fD)).tp τ):=λτ=>by
   have Zt:Nat.min es.length 64=es.length:=Nat.min_eq_left wV.2;have hl:=ja es;have hc:∀i,i<194->((W1.tp τ).cell? ⟨w.heap.size,i,ah⟩).isSome=au:=λi hi=>(by rw[ba,ax ht1,fP (by rw[C7];exact hi)];rfl);have:=Er (P:=aC) (W1.tp τ) 122 122 3 121 w.heap.size 1 64 64 3 ⟨s,o,ah⟩ es.length cap (es.flatMap fD) underlying122 Np (by rw[Zt,hl];omega)
    (λj v hv=>by rw[C8,ba];exact(dr (w:=w) (ho1 s Ip hsb)).trans (Hs.out j v hv)) (λj hj=>hc _ ai) (λj hj=>aM (w:=W1.tp τ) ht1 _ (bQ _)) (Kz es)
   rw[Zt]at this;rw[this,Aj]
  obtain⟨Zd,hs2,Az⟩:=KA wV.2 ht1;generalize W1.setCells w.heap.size 1 (es.flatMap fD)=W2 at*;have HC:=aA Fv;clear Fv;refine wpM_seq (l3 hcs (λτ=>?_));have Fv:=HC.out τ;go_wp2;refine⟨W2,bD _ _,?_⟩;try simp only[bE]
  clear HC;obtain⟨cb,eb,hb0,hb2,hb3⟩:=hb1;have hbt:b≠w.heap.size:=ai;have hb4:W2.heap[b]? =ae (aK (cb.setIfInBounds (8193+k) (aq af ((m:Int) +1))) eb (0,0)):=by rw[Az b hbt];exact hb3
  have hu2:W2.cell? ⟨b,1+(k+8*m),ah⟩=ae u:=by have:=Hu.out;rw[ax hb0]at this;rw[ax hb4,gG ai];exact this
  have aeU:W2.shape? w.heap.size=ae (187,194):=by simp[World.shape?,Zd,Pu ⟨es,0⟩ wV.2]
  have Y0:((k:Int) +8*(m:Int)) <8192:=ai;refine pS ?_;iterate 6
   refine gP ?_
  refine bA (args:=#[aI (ae ⟨b,1+(k+8*m),ah⟩),aI (ae ⟨w.heap.size,0,ah⟩)]) rfl rfl rfl func89 rfl rfl (by simp[cS];try omega) (λb k fs h1 h2=>S.upush _ _ rfl rfl ⟨f47,by show prog.funcs[b.fn]? =_;rw[h1];exact func47⟩ h2) (Ni S.hcs b (1+(k+8*m)) w.heap.size hu2 (aM hb4 _ (bQ _)) aeU) ?_;rintro i' r w' ⟨rfl,e1,e2⟩;obtain rfl:=e1.symm;have Y1:w'.heap[b]? =ae (aK ((cb.setIfInBounds (8193+k) (aq af ((m:Int) +1))).setIfInBounds (1+(k+8*m)) (aI (ae ⟨w.heap.size,0,ah⟩))) eb (0,0)):=by rw[e2];exact aH hb4 _
  have CJ:∀x,x≠b->w'.heap[x]? =W2.heap[x]? :=λx hx=>by rw[e2];exact az hx _
  have hs5:w'.heap.size=w.heap.size+1:=by rw[e2];simp[fF,hs2,hs1]
  clear e2;walk_nrm;refine on ?_;have Dx:=HM.out;have hsame:∀x,x<w.heap.size->x≠b->w'.heap[x]? =w.heap[x]? :=λx h1 h2=>by rw[CJ x h2,Az x ai,ho1 x h1 h2]
  obtain⟨r1,r2,r3,r4⟩:=HR.out.make (w':=w') (k:=k) (t:=w.heap.size) (es:=es) hk ai Hes.out wV hlo rfl hs5 hsame ⟨_,_,Y1,by simp[hb2]⟩ (λo' h1 h2=>by
   rw[ax Y1,ax hb0,gG ai,gG ai]) (by
   rw[ax Y1,gG ai,iw ai,←Dx];rfl) (by
   rw[ax Y1,←Dx,iw dp]) (by rw[CJ _ ai];exact Zd)
  obtain⟨h6,K6⟩:=HN.out w' r1 r2 ai (λx hx hne=>by
   by_cases e:x=b
   .exact .inl e
   .exact aT (hsame x hx e) hne) λx hx=>(r3 x hx).imp id λe=>ai
  have h6:S.At i ((kt F (k+8*s1.made k)).bind λok=>bG (ok,0)) w':=h6;rw[←Dx]at h6 r4;clear Dx HM HN HR;refine pS ?_;iterate 3
   refine gP ?_
  refine bA (args:=#[aI (ae ⟨b,0,ah⟩),.pointer S.wv,aq af ((k+8*m:Nat):Int)]) rfl rfl rfl func86 rfl rfl dS (λb k fs h1 h2=>S.upush _ _ rfl rfl ⟨f47,by show prog.funcs[b.fn]? =_;rw[h1];exact func47⟩ h2) (Fu S hn F _ _ _ _ _ _ h6 r4) ?_;rintro i2 r w2 ⟨ok,rfl,h7,K7⟩;walk_nrm;refine gP ?_;refine gP ?_;refine on ?_;refine cD ?_;exact⟨rfl,.tuple #[.bool ok,aq af 0],jT,ok,0,rfl,h7,S.trans _ _ _ K6 K7⟩
end
inductive aap(b:Nat)(wv:Option aP)(c0:Nat):Act->Prop
 |mk (u3 u4 u5 u6 u7 u8 u9 sK nW nX mU mA mB u16 lK lL lM lN mV mX u23 u24 mY u26 lO u28 lQ lR:ay):aap b wv c0 {tmps:=#[aI (ae ⟨b,0,ah⟩),.pointer wv,aq af c0,u3,u4,u5,u6,u7,u8,u9,sK,nW,nX,mU,mA,mB,u16,lK,lL,lM,lN,mV,mX,u23,u24,mY,u26,lO,u28,lQ,lR],defers:=[]}
section
variable{c n:Nat}{main:Bool}{Stop:ι->aB->List aB->aj->Prop}{w:aj}
def lT.Num{L:wq JS}(S:lT α L main cs Jm Stop)(bG:Int->Pr JS α)(w:aj)(i':ι)(r:ay)(w':aj):Prop:=∃v,r=aq af v/\(0<=v/\v<=1152921504606846975)/\S.At i' (bG v) w'/\S.Keep w w'
def lT.ahN{L:wq JS}(S:lT α L main cs Jm Stop)(bG:Int×Int->Pr JS α)(w:aj)(i':ι)(r:ay)(w':aj):Prop:=∃v e,r=.tuple #[aq af v,aq af e]/\S.At i' (bG (v,e)) w'/\S.Keep w w'
theorem Ns{f:Nat}{bG:Int->Pr JS α}:(iF F (f+1) c0).bind bG=.line (.eff id λs=>if s.w c0<0 then(kt F (-(s.w c0) -1).toNat).bind λ_=>(iF F f c0).bind bG else bG (s.w c0)):=by simp only[iF,Pr.bind,mM,Pr.bind_assoc]
theorem qC(S:lT α (cI F b c lo n) main cs Jm Stop)(hn:n<=64){f:Nat}{bG:Int->Pr JS α}(h:S.At i ((iF F f c0).bind bG) w)(hc0:c0<n):
  CallsM aC main cs Jm Stop S.U i 45 #[aI (ae ⟨b,0,ah⟩),.pointer S.wv,aq af c0] w (S.Num bG w):=by
 have hcs:=S.hcs;refine bL func45 rfl ?_;simp only[f45,cN];walk_nrm;refine iI λτ=>?_;refine cE (iV (λm i' a' w'=>aap b S.wv c0 a'/\S.At i' ((iF F m c0).bind bG) w'/\S.Keep w w') (n:=f) ⟨aap.mk ..,h,S.refl w⟩ ?_);rintro m i1 a1 w1 ⟨hA,h1,K1⟩;cases m with
 |zero=>exact(S.on _ _ h1).elim
 |succ m=>
  rw[Ns]at h1;cases hA;refine cE ?_;refine pS ?_;refine gP ?_;refine bA (args:=#[.pointer S.wv]) rfl rfl rfl func42 rfl rfl dS (λb k fs h1 h2=>S.upush _ _ rfl rfl ⟨f45,by show prog.funcs[b.fn]? =_;rw[h1];exact func45⟩ h2) (S.step _ _ _ h1) ?_;rintro i2 r w2 ⟨rfl,h2,K2⟩;walk_nrm;refine on ?_;have MH:=S.trans _ _ _ K1 K2;obtain⟨s2,eI,BF⟩:=S.get _ _ _ h2;have h3:S.At i2 (if s2.w c0<0 then(kt F (-(s2.w c0) -1).toNat).bind λ_=>(iF F m c0).bind bG else bG (s2.w c0)) w2:=BF;have Ky:=(eI.word hc0).1;have hh:=eI.hdr;have hwo:=eI.ok.word c0 (by rw[eI.len];exact hc0);have PD:s2.w c0<0->∃d' t' es',s2.w c0=bo d'/\jJ b n w2 d' t' es':=λiN=>by
   rcases hwo with⟨h1,_⟩|⟨d',h1,h2,h3⟩
   .omega
   .obtain⟨D,hD'⟩:=nE.1 h3;obtain⟨t',hdt⟩:=eI.desc hD';exact⟨d',t',_,h2,hdt⟩
  have hlo: -100000<=s2.w c0/\s2.w c0<=1152921504606846975:=by
   rcases hwo with h1|⟨d',h1,h2,_⟩
   .omega
   .unfold bo at h2;omega
  clear eI hwo h2 BF h1;generalize hx:s2.w c0=x at*;refine wpM_seq (l3 hcs (λτ=>?_));go_wp2_with (first|(go_at_call 84;refine(OT c c0 x (w2.tp τ) Ky).mono ?_;rintro e w' ⟨rfl,rfl⟩))
  refine px ?_;clear Ky hh;by_cases iN:x<0
  .rw[aX iN]at h3;obtain⟨d',t',es',pw,hdt⟩:=PD iN;have yr:(-x-1).toNat=d':=(by unfold bo at pw;omega);have Il: -x-1=(d':Int):=(by unfold bo at pw;omega);rw[yr]at h3;have Hd2:=aA Il;clear pw yr Il;refine wpM_seq (l3 hcs (λτ=>?_));go_wp2_with (first|(go_at_call 85;refine(uo x _ iN hlo.1).mono ?_;rintro e w' ⟨rfl,rfl⟩))
   refine px ?_;refine Ai λτ=>?_;refine Cs ?_;refine kD ?_;refine rg ?_;iterate 3
    refine gP ?_
   refine bA (args:=#[aI (ae ⟨b,0,ah⟩),.pointer S.wv,aq af d']) rfl rfl rfl func86 rfl rfl (by simp[cS,Hd2.out]) (λb k fs h1 h2=>S.upush _ _ rfl rfl ⟨f45,by show prog.funcs[b.fn]? =_;rw[h1];exact func45⟩ h2) (Fu S hn F i2 w2 d' t' es' _ h3 hdt) ?_;rintro i6 r w6 ⟨ok,rfl,h7,K6⟩;walk_nrm;refine mz ?_;try simp only[bE,gu]
   exact⟨m,ai,aap.mk ..,h7,S.trans _ _ _ MH K6⟩
  .rw[aU iN]at h3;have h0:0<=x:=ai;refine wpM_seq (l3 hcs (λτ=>?_));go_wp2_with (first|(go_at_call 85;refine(Cm x _ h0 hlo.2).mono ?_;rintro e w' ⟨rfl,rfl⟩))
   refine px ?_;refine Ai λτ=>?_;refine bz (t:=au) dS ?_;refine iI λτ=>?_;refine cD ?_;exact⟨rfl,aq af x,jT,x,rfl,⟨h0,hlo.2⟩,h3,MH⟩
end
theorem RD{main:Bool}{J:fM ι}{Stop:ι->aB->List aB->aj->Prop}{Q:ι->Exit->Act->aj->Prop}{w:aj}(st:Stat P S){ops:Array aZ}{rest:List Nat}{o:aZ}{f:FuncId}{c:Code}{xs:Array Operand}{args:Array ay}(ho:ops[j]? =ae o)(hw:dF o (dW ops a.tmps)=au)
  (hop:o.op=.call {callee:=.value (.func f),args:=xs,argTypes:=ats})(hf:P.funcs[f]? =ae OA)(hname:(OA.name== "runtime.NumGoroutine")=aw)(hb:OA.body=ae c)(hxs:xs.map a.eval=args)(j4:yB P S f args)(hc:∀τ,b9 P f args (w.tp τ) λe w'=>e=.returned v/\w.tp τ=w')
  (h:rj P main cs J Stop U fn ops rest Q i (a.put o.dst v) w):rj P main cs J Stop U fn ops (j::rest) Q i a w:=by
 intro b k fs h1 h2 h3 hk;refine ou (by rw[h2];simp) ho hw hop hf hname hb hxs ?_;refine tZ (U:=λ_=>True) (Post:=λi' v' w'=>i'=i/\v'=v/\w'=w) st j4 (λτ=>(hc τ).mono λe w' ⟨h4,h5⟩=>⟨v,h4,w,h5▸bD _ _,rfl,rfl,rfl⟩) _ fs trivial ?_;rintro i' v' w' ⟨rfl,rfl,rfl⟩;rw[iB,ho];exact h b k fs h1 h2 h3 hk
section
variable{c n:Nat}{main:Bool}{Stop:ι->aB->List aB->aj->Prop}{w:aj}
theorem read_any'(S:lT α (cI F b c lo n) main cs Jm Stop)(hn:n<=64){c0:Int}{bG:Int×Int->Pr JS α}(h:S.At i ((x9 F n c0).bind bG) w):
  CallsM aC main cs Jm Stop S.U i 22 #[aI (ae ⟨b,0,ah⟩),.pointer S.wv,aq af c0] w (S.ahN bG w):=by
 have hcs:=S.hcs;obtain⟨s,eI⟩:=S.rep _ _ _ h;have hh:=JRep.hdr eI;clear eI;unfold x9 at h;refine bL func22 rfl ?_;simp only[f22,cN];walk_nrm;refine iI λτ=>?_;by_cases hc0:0<=c0/\c0<n
 .rw[aX hc0,Pr.bind_assoc]at h;obtain⟨k0,hk0⟩:∃k0:Nat,c0=k0:=⟨c0.toNat,ai⟩;subst hk0;have hlt:k0<n:=ai;rw[show((k0:Int)).toNat=k0 by omega]at h;have H:=aA h;clear h;refine wpM_seq (wpM_seq (l3 hcs (λτ=>?_)));go_wp2_with (first|(go_at_call 41;refine(pR b c n k0 (w.tp τ) hh hc0.1 hc0.2).mono ?_;rintro e w' ⟨rfl,rfl⟩))
  refine px ?_;refine Cs ?_;try simp only[bE]
  refine pS ?_;iterate 3
   refine gP ?_
  refine bA (args:=#[aI (ae ⟨b,0,ah⟩),.pointer S.wv,aq af k0]) rfl rfl rfl func45 rfl rfl dS (λb k fs h1 h2=>S.upush _ _ rfl rfl ⟨f22,by show prog.funcs[b.fn]? =_;rw[h1];exact func22⟩ h2) (qC S hn H.out hlt) ?_;rintro i2 r w2 ⟨v,rfl,hv,h2,K2⟩;walk_nrm;refine RD lA (args:=#[aq af v]) rfl rfl rfl func46 rfl rfl dS ⟨rfl,λt h=>by simp[S3,iq]at h⟩ (λτ=>hvalue_word v _ hv.1 hv.2) ?_;walk_nrm;refine gP ?_;refine gP ?_;refine on ?_;refine cD ?_;exact⟨rfl,.tuple #[aq af (bV v),aq af 0],by simp[eL,go_sem,bV],bV v,0,rfl,h2,K2⟩
 .rw[aU hc0]at h;have H:=aA h;have Hc:=aA hc0;clear h hc0;refine wpM_seq (wpM_seq (l3 hcs (λτ=>?_)));go_wp2_with (first|(go_at_call 41;refine(Bj b c n c0 (w.tp τ) hh Hc.out).mono ?_;rintro e w' ⟨rfl,rfl⟩))
  refine px ?_;refine bz (t:=au) dS ?_;refine pS ?_;refine gP ?_;refine bA (args:=#[.pointer S.wv]) rfl rfl rfl func42 rfl rfl dS (λb k fs h1 h2=>S.upush _ _ rfl rfl ⟨f22,by show prog.funcs[b.fn]? =_;rw[h1];exact func22⟩ h2) (S.step _ _ _ H.out) ?_;rintro i2 r w2 ⟨rfl,h2,K2⟩;walk_nrm;refine on ?_;refine iI λτ=>?_;refine cD ?_;exact⟨rfl,.tuple #[aq af 0,aq af 262],jT,0,262,rfl,h2,K2⟩
end
theorem RF{o:aZ}{g:FuncId}{fn:Func}{x:Operand}{cap:Array ay}(hop:o.op=.call {callee:=.value x,args:=#[],argTypes:=ats})(hx:a.eval x=.func (.func g) #[] cap)(hf:P.funcs[g]? =ae fn)(hname:(fn.name== "runtime.NumGoroutine")=aw){c:Code}(hb:fn.body=ae c)(w:aj):
  (bT a.eval o).runT P w #[]=(.ok (.enter g cap) w,#[]):=by
 have h1:¬fn.name= "runtime.NumGoroutine" :=by simpa using hname
 generalize a.eval=ρ at hx;simp[bT,hop,resolve,hx,Deferred.ofValue,invoke,callFunc,hf,h1,hb,go_sem]
section
variable{c n:Nat}{main:Bool}{Stop:ι->aB->List aB->aj->Prop}{w:aj}
def lT.Did{L:wq JS}(S:lT α L main cs Jm Stop)(pr:β->Bool×Int)(M:β->aj->Prop)(I:aj->Prop)(bG:β->Pr JS α)(i':ι)(r:ay)(w':aj):Prop:=∃x,r=.tuple #[.bool (pr x).1,aq af (pr x).2]/\S.At i' (bG x) w'/\I w'/\M x w'
def CloSpec{L:wq JS}(S:lT α L main cs Jm Stop)(g:FuncId)(cap:Array ay)(q:qM β)(pr:β->Bool×Int)(M:β->aj->Prop)(I:aj->Prop):Prop:=∀(i:ι) (w:aj) (bG:β->Pr JS α),I w->S.At i (q.bind bG) w->CallsM aC main cs Jm Stop S.U i g cap w (S.Did pr M I bG)
inductive aaq(g:FuncId)(cap:Array ay):Act->Prop
 |mk (u1 u2 u3 u4 u5 u6 u7 u8 u9 sK nW nX mU mA mB u16 lK:ay):aaq g cap {tmps:=#[.func (.func g) #[] cap,u1,u2,u3,u4,u5,u6,u7,u8,u9,sK,nW,nX,mU,mA,mB,u16,lK],defers:=[]}
theorem KB{pr:β->Bool×Int}{q:qM β}{bG:β->Pr JS α}:(againG pr q (m+1)).bind bG=q.bind λx=>if(pr x).1=au\/(pr x).2≠0 then bG x else(againG pr q m).bind bG:=by simp only[againG,Pr.bind_assoc,mM,Pr.bind]
theorem wW{L:wq JS}(S:lT α L main cs Jm Stop){g:FuncId}{fn:Func}{cap:Array ay}{q:qM β}{pr:β->Bool×Int}{M:β->aj->Prop}(hf:prog.funcs[g]? =ae fn)(hname:(fn.name== "runtime.NumGoroutine")=aw)(hb:fn.body=ae cd)(hC:CloSpec S g cap q pr M I){f:Nat}{bG:β->Pr JS α}(hI:I w)(h:S.At i ((againG pr q f).bind bG) w):
  CallsM aC main cs Jm Stop S.U i 43 #[.func (.func g) #[] cap] w (S.Did pr M I bG):=by
 have hcs:=S.hcs;refine bL func43 rfl ?_;simp only[f43,cN];walk_nrm;refine iI λτ=>?_;refine cE (iV (λm i' a' w'=>aaq g cap a'/\S.At i' ((againG pr q m).bind bG) w'/\I w') (n:=f) ⟨aaq.mk ..,h,hI⟩ ?_);rintro m i1 a1 w1 ⟨hA,h1,DO⟩;cases m with
 |zero=>exact(S.on _ _ h1).elim
 |succ m=>
  rw[KB]at h1;cases hA;refine cE ?_;refine pS ?_;refine gP ?_;refine opsM_call (f:=g) (args:=cap) rfl rfl (RF rfl rfl hf hname hb) (λb k fs h1 h2=>S.upush _ _ rfl rfl ⟨f43,by show prog.funcs[b.fn]? =_;rw[h1];exact func43⟩ h2) (hC _ _ _ DO h1) ?_;rintro i2 r w2 ⟨x,rfl,h2,sO,hM2⟩;have Hx:=aA hM2;clear hM2;obtain⟨ok,hok⟩:∃ok,(pr x).1=ok:=⟨_,rfl⟩;obtain⟨er,her⟩:∃er,(pr x).2=er:=⟨_,rfl⟩;have h2:S.At i2 (if(pr x).1=au\/(pr x).2≠0 then bG x else(againG pr q m).bind bG) w2:=h2;rw[hok,her]at h2;rw[hok,her];have Hr:=aA (show Value.tuple #[.bool ok,aq af er]=Value.tuple #[.bool (pr x).1,aq af (pr x).2]by rw[hok,her]);clear hok her;walk_nrm;iterate 5
   refine gP ?_
  refine on ?_;cases ok with
  |true=>have h3:S.At i2 (bG x) w2:=rW;clear h2;refine iI λτ=>?_;refine bz (t:=au) dS ?_;refine iI λτ=>?_;refine cD ?_;exact⟨rfl,.tuple #[.bool au,aq af er],jT,x,Hr.out,h3,sO,Hx.out⟩
  |false=>
   by_cases he:er=0
   .subst he;have h3:S.At i2 ((againG pr q m).bind bG) w2:=rW;clear h2;refine iI λτ=>?_;refine Cs ?_;try simp only[bE,gu]
    exact⟨m,ai,aaq.mk ..,h3,sO⟩
   .have h3:S.At i2 (bG x) w2:=(by simpa[he]using h2);have hne:(er !=0)=au:=(by simpa using he);clear h2;refine iI λτ=>?_;refine bz (t:=au) (by simp[cS,he]) ?_;refine iI λτ=>?_;refine cD ?_;exact⟨rfl,.tuple #[.bool aw,aq af er],jT,x,Hr.out,h3,sO,Hx.out⟩
end
end
section
open Go Go.Conc Go.ConcN Go.RowKit
attribute [local go_sem ↓] Go.wp_at_zero Go.wp_at_succ
theorem abu:(prog.info? 121).map (λi=>(i.zero,i.size,i.bytes))=ae (ae (.agg #[aq af 0,aq af 0,aq af 0]),3,24):=aQ
theorem PF:(prog.info? 3).map (λi=>(i.zero,i.size,i.bytes))=ae (ae (aq af 0),1,8):=aQ
inductive RG(p q r n k:Nat)(lv:ay):Act->Prop
 |mk (u3 u4 u6 u7 u8 u9 sK nW mA mB u16 lK lL lM lN mV mX u23 u24 mY u26 lO u28 lQ lR mC u32 u33 mD mE mF mG mZ m9:ay):RG p q r n k lv {tmps:=#[aI (ae ⟨p,0,ah⟩),aI (ae ⟨q,0,ah⟩),aI (ae ⟨r,0,ah⟩),u3,u4,lv,u6,u7,u8,u9,sK,nW,aq af n,aq af k,mA,mB,u16,lK,lL,lM,lN,mV,mX,u23,u24,mY,u26,lO,u28,lQ,lR,mC,u32,u33,mD,mE,mF,mG,mZ,m9],defers:=[]}
inductive VD(p q r n k:Nat)(lv:ay)(x:Int):Act->Prop
 |mk (u3 u4 u8 u9 sK nW mA mB u16 lK lL lM lN mV mX u23 u24 mY u26 lO u28 lQ lR mC u32 u33 mD mE mF mG mZ m9:ay):VD p q r n k lv x {tmps:=#[aI (ae ⟨p,0,ah⟩),aI (ae ⟨q,0,ah⟩),aI (ae ⟨r,0,ah⟩),u3,u4,lv,aq af k,aq af x,u8,u9,sK,nW,aq af n,aq af k,mA,mB,u16,lK,lL,lM,lN,mV,mX,u23,u24,mY,u26,lO,u28,lQ,lR,mC,u32,u33,mD,mE,mF,mG,mZ,m9],defers:=[]}
noncomputable def Nt:Code:=(f48.body).getD .skip
noncomputable def Nu:Code:=Nt.r.r.r.l.r
noncomputable def Nv:Code:=Nu.l.l
noncomputable def adm:Code:=Nv.r.r.l.l
noncomputable def lkR7:Code:=adm.r.r
theorem lk_region{p q r n:Nat}{lv ov:ay}{x:Int}{w:aj}(B:Nat)(hA:VD p q r n k lv x a)(hp:w.cell? ⟨p,0,ah⟩=ae ov)(hof:w.frozen? ⟨p,0,ah⟩=aw)(hB:B<=w.heap.size)(hown:w.ownsRow B 121 3 lv k les)(VG:w.ownsRow B 3 1 ov k lvs)
  (hap:∀g,lv.ownBlock=ae g->ov.ownBlock≠ae g)(hpB:p<B)(hk:k<64)(g0:0<=x)(g1:x<=1152921504606846975):
  lkR7.wp aC (ue λa' w'=>∃(gg cap Fx kN:Nat) (w2:aj),RG p q r n k (aD (ae ⟨gg,0,ah⟩) (k+1) cap) a'/\Alike (w2.setCell ⟨p,0,ah⟩ (aD (ae ⟨Fx,0,ah⟩) (k+1) kN)) w'/\w2.ownsRow B 121 3 (aD (ae ⟨gg,0,ah⟩) (k+1) cap) (k+1) (les++[aq af k,aq af x,aq af (x / 1099511627776)])/\
   w2.ownsRow B 3 1 (aD (ae ⟨Fx,0,ah⟩) (k+1) kN) (k+1) (lvs++[aq af (x / 1099511627776)])/\gg≠Fx/\w.heap.size<=w2.heap.size/\(∀b,b<w.heap.size->lv.ownBlock≠ae b->ov.ownBlock≠ae b->w2.heap[b]? =w.heap[b]?)/\(lv.ownBlock=ae gg\/w.heap.size<=gg)/\(ov.ownBlock=ae Fx\/w.heap.size<=Fx)) a w:=by
 cases hA;have afM:ov.ownBlock=ah\/ov.ownBlock≠lv.ownBlock:=by
  by_cases e:lv.ownBlock=ah
  .cases EO:ov.ownBlock with
   |none=>exact .inl rfl
   |some z=>exact .inr (by rw[e];exact λh=>dB)
  .obtain⟨z,hz⟩:=nE.1 e;exact .inr (by rw[hz];exact hap z hz)
 obtain⟨ie,Dk,Ir,Iu,Iw⟩:=kq abu;obtain⟨ii,O5,O6,O7,O8⟩:=kq PF;have hpo:ae p≠ov.ownBlock:=λe=>by have:=(VG.lt p e.symm).1;omega
 have hpu:ae p≠lv.ownBlock:=λe=>by have:=(hown.lt p e.symm).1;omega
 have hpl:p<w.heap.size:=ai;have G4:=aA hown;have VH:=aA VG;have QQ:=aA hap;have ahO:=aA afM;clear hown VG hap afM;simp only[lkR7,adm,Nv,Nu,Nt,f48,Code.l,Code.r,cN];refine bt.start (λw'=>w'.cell? ⟨p,0,ah⟩=ae ov) [14] aQ ?_ (λaF=>?_)
 .exact C9
 refine bt.tv 0 aF ?_;refine bt.tv 1 aF ?_;refine bt.tv 2 aF ?_;refine bt.tv 3 aF ?_;refine bt.tt 8 aF ?_;refine bt.tv 9 aF ?_;refine bt.to 4 (λK hK=>?_)
 (go_simp;refine(hvalue_word _ _ g0 g1).mono ?_;rintro e w' ⟨rfl,rfl⟩;dsimp only)
 refine hK.out _ _ (λ_=>?_) (λaF=>?_)
 .exact C9
 replace aF:=aF aN;clear hK K;try refine pt ?_
 refine bt.tv 5 aF ?_;refine bt.to 6 (λK hK=>?_);go_simp;refine hK.out _ _ (λ_=>?_) (λaF=>?_)
 .exact C9
 replace aF:=aF aN;clear hK K;try refine pt ?_
 refine bt.to 7 (λK hK=>?_)
 (refine step_append_lies _ cQ (.tmp 20) (.tmp 26) _ cQ B 121 ie _ 3 24 underlying122 Dk Ir Iu Iw rfl ai lv k les cQ ((G4.out.alloc _).drew) ⟨w.heap.size,0,ah⟩ 1 1 [aq af k,aq af x,aq af (x / 1099511627776)] cQ cQ (pd (cs:=#[aq af k,aq af x,aq af (x / 1099511627776)]) (t:=121) (fr:=(0,0)) (gN w _)) pI ai jk ai dp (w.heap.size+1) aJ ?_;intro gg cap w1 hown1 hgrow hat CH;have hs1:=hgrow.size;simp only[rY,cM]at hs1)
 refine hK.out _ _ (λ_=>?_) (λaF=>?_)
 .exact C9
 replace aF:=aF aN;clear hK K;try refine pt ?_
 refine bt.to 10 (λK hK=>?_)
 (go_simp;refine(hvalue_word _ _ g0 g1).mono ?_;rintro e w' ⟨rfl,rfl⟩;dsimp only)
 refine hK.out _ _ (λ_=>?_) (λaF=>?_)
 .exact C9
 replace aF:=aF aN;clear hK K;try refine pt ?_
 refine bt.to 11 (λK hK=>?_);go_simp;refine hK.out _ _ (λ_=>?_) (λaF=>?_)
 .exact C9
 replace aF:=aF aN;clear hK K;try refine pt ?_
 refine bt.to 12 (λK hK=>?_)
 (refine step_append_lies _ cQ (.tmp 28) (.tmp 31) _ cQ B 3 ii _ 1 8 underlying22 O5 O6 O7 O8 rfl ai ov k lvs cQ ((((VH.out.alloc _).drew).kept hgrow ahO.out).alloc _) ⟨w1.heap.size,0,ah⟩ 1 1 [aq af (x / 1099511627776)] cQ cQ (pd (cs:=#[aq af (x / 1099511627776)]) (t:=3) (fr:=(0,0)) (gN w1 _)) pI ai jk ai dp (w1.heap.size+1) aJ ?_;intro Fx kN w2 hown2 hgrow2 aar DC;have hs2:=hgrow2.size;simp only[rY,cM]at hs2;have ai9:w2.frozen? ⟨p,0,ah⟩=aw:=(by rw[hgrow2.frozen_far _ dp hpo,World.frozen?_alloc_old _ _ _ (by show p≠_;omega),hgrow.frozen_far _ dp hpu,World.frozen?_drew,World.frozen?_alloc_old _ _ _ (by show p≠_;omega)];exact hof))
 refine hK.out _ _ (λ_=>?_) (λaF=>?_)
 .exact C9
 replace aF:=aF aN;clear hK K;try refine pt ?_
 refine bt.tv 13 aF ?_;refine bt.to 14 (λK hK=>?_);go_simp;refine hK.out _ _ (λhF=>aT hF aN) (λ_=>?_);clear hK K;try refine pt ?_
 refine bt.done aQ ?_ _;have ahP:(Value.slice (ae ⟨gg,0,ah⟩) (k+1) cap).ownBlock≠ov.ownBlock:=by
  show ae gg≠ov.ownBlock;rcases hat with e|e
  .exact λh=>QQ.out gg e h.symm
  .intro h;have:=(VH.out.lt gg h.symm).2;omega
 have ahQ:gg≠Fx:=by
  rcases aar with e|e
  .intro h;subst h;rcases hat with e'|e'
   .exact QQ.out gg e' e
   .have:=(VH.out.lt gg e).2;omega
  .omega
 refine⟨gg,cap,Fx,kN,w2,RG.mk ..,⟨rfl,rfl,rfl⟩,(hown1.alloc _).kept hgrow2 (.inr ahP),hown2,ahQ,ai,λb hb h1 h2=>?_,hat.imp id λe=>ai,aar.imp id λe=>ai⟩;rw[hgrow2.block b dp (λe=>h2 e.symm),gT _ _ _ ai,hgrow.block b dp (λe=>h1 e.symm)];exact gT _ _ _ hb
end
section
open Go Go.Conc Go.ConcN Go.RowKit
attribute [local go_sem] ba bf bH a8 bC bK aS aV fy dI fA bO
def lU(hs:List Int):List fC:=hs.zipIdx.map λp=>⟨p.2,p.1,bV p.1⟩
theorem KC(hs:List Int)(h:Int):lU (hs++[h])=lU hs++[⟨hs.length,h,bV h⟩]:=by unfold lU;rw[List.zipIdx_append,vE];simp
theorem wX(hs:List Int):(lU hs).length=hs.length:=by simp[lU]
theorem G5(hs:List Int)(h:Int):(lU (hs++[h])).flatMap fD=(lU hs).flatMap fD++[aq af hs.length,aq af h,aq af (bV h)]:=by rw[KC,wY];rfl
theorem RI{n:Nat}(hn:hs.length=n)(hb:∀h∈hs,0<=h/\h<=1152921504606846975):∀e∈lU hs,e.Ok n:=by intro e he;obtain⟨⟨h,i⟩,hp,rfl⟩:=pA.1 he;obtain⟨h1,h2⟩:=List.mk_mem_zipIdx_iff_getElem?.1 hp |> eX.1;have hm:=hb h (by rw[←h2];exact rV _);refine⟨by show i<n;omega,hm.1,hm.2,?_,?_⟩ <;>simp only[bV] <;>omega
section
variable{c n:Nat}{main:Bool}{Stop:ι->aB->List aB->aj->Prop}
structure Fy(S:lT α (cI F b c lo n) main cs Jm Stop)(w0:aj)(p q r:Nat)(w:aj):Prop where
 at0:∃i0 p0,S.At i0 p0 w0
 lo:lo<=w0.heap.size
 keep:S.Keep w0 w
 ne:p≠q/\p≠r
 ge:w0.heap.size<=p/\w0.heap.size<=q/\w0.heap.size<=r
 hq:∃e,w.heap[q]? =ae (aK #[aI (ae ⟨b,0,ah⟩)] e (0,0))
 hr:∃e,w.heap[r]? =ae (aK #[.pointer S.wv] e (0,0))
 hp:∃ov e,w.heap[p]? =ae (aK #[ov] e (0,0))
 nf:¬cU b c w p/\¬cU b c w q/\¬cU b c w r
def afN(B p n:Nat)(x:(Bool×Int)×List Int)(w:aj):Prop:=∃ov e,w.heap[p]? =ae (aK #[ov] e (0,0))/\w.ownsRow B 3 1 ov n (x.2.map (Value.int .i64))/\x.2.length=n/\∀g,ov.ownBlock=ae g->¬cU b c w g
structure RJ(S:lT α (cI F b c lo n) main cs Jm Stop)(w0:aj)(B p q r:Nat)(hs:List Int)(lv:ay)(w:aj):Prop where
 box:Fy S w0 p q r w
 hB:w0.heap.size<=B/\B<=w.heap.size/\p<B/\q<B/\r<B
 own:w.ownsRow B 121 3 lv hs.length ((lU hs).flatMap fD)
 out:∃ov e,w.heap[p]? =ae (aK #[ov] e (0,0))/\w.ownsRow B 3 1 ov hs.length ((hs.map bV).map (Value.int .i64))/\(∀g,lv.ownBlock=ae g->ov.ownBlock≠ae g)/\∀g,ov.ownBlock=ae g->¬cU b c w g
 nfl:∀g,lv.ownBlock=ae g->¬cU b c w g
 bd:∀h∈hs,0<=h/\h<=1152921504606846975
variable{S:lT α (cI F b c lo n) main cs Jm Stop}{w:aj}{p q r:Nat}{lv:ay}
theorem row_keep{w:aj}(h:w.ownsRow B e sz v m xs)(hk:∀g,v.ownBlock=ae g->w'.heap[g]? =w.heap[g]?):w'.ownsRow B e sz v m xs:=by obtain⟨h1,h2⟩:=h;refine⟨h1,h2.imp id ?_⟩;rintro⟨g,cap,cur,rfl,h3,h4,h5⟩;exact⟨g,cap,cur,rfl,h3,by rw[hk g rfl];exact h4,h5⟩
theorem dV{w:aj}{g:Nat}(h:w.ownsRow B e sz v m xs)(hg:v.ownBlock=ae g):∃cur,w.heap[g]? =ae (aK cur e (0,0)):=by
 rcases h.2 with⟨rfl,_⟩|⟨g',cap,cur,rfl,_,h4,_⟩
 .cases hg
 .obtain rfl:g'=g:=by simpa[iE]using hg
  exact⟨cur,h4⟩
theorem Fy.step(X:Fy S w0 p q r w)(K:S.Keep w w'):Fy S w0 p q r w'/\w'.heap[p]? =w.heap[p]? :=by obtain⟨i0,p0,h0⟩:=X.at0;obtain⟨eq,hq⟩:=X.hq;obtain⟨er,hr⟩:=X.hr;obtain⟨ov,ep,hp⟩:=X.hp;obtain⟨a1,a2⟩:=S.same _ _ _ _ K hp bu X.nf.1 (S.new _ _ _ _ h0 X.ge.1);obtain⟨b1,b2⟩:=S.same _ _ _ _ K hq bu X.nf.2.1 (S.new _ _ _ _ h0 X.ge.2.1);obtain⟨c1,c2⟩:=S.same _ _ _ _ K hr bu X.nf.2.2 (S.new _ _ _ _ h0 X.ge.2.2);exact⟨⟨⟨i0,p0,h0⟩,X.lo,S.trans _ _ _ X.keep K,X.ne,X.ge,⟨eq,b1⟩,⟨er,c1⟩,⟨ov,ep,a1⟩,a2,b2,c2⟩,by rw[a1,hp]⟩
theorem RJ.step(X:RJ S w0 B p q r hs lv w)(K:S.Keep w w'):RJ S w0 B p q r hs lv w':=by
 obtain⟨hb,hpp⟩:=X.box.step K;obtain⟨i0,p0,h0⟩:=X.box.at0;obtain⟨ov,e,hp,EO,hap,py⟩:=X.out;have key:∀{e:bq} {sz:Nat} {v:ay} {xs:List ay},w.ownsRow B e sz v hs.length xs->(∀g,v.ownBlock=ae g->¬cU b c w g)->∀g,v.ownBlock=ae g->w'.heap[g]? =w.heap[g]?/\¬cU b c w' g:=λh hn g hg=>by obtain⟨cur,hc⟩:=dV h hg;have:=(h.lt g hg).1;obtain⟨a1,a2⟩:=S.same _ _ _ _ K hc bu (hn g hg) (S.new _ _ _ _ h0 (by have:=X.hB.1;omega));exact⟨by rw[a1,hc],a2⟩
 exact⟨hb,⟨X.hB.1,by have:=X.hB.2.1;have:=S.size _ _ K;omega,X.hB.2.2⟩,row_keep X.own λg hg=>(key X.own X.nfl g hg).1,⟨ov,e,by rw[hpp];exact hp,row_keep EO λg hg=>(key EO py g hg).1,hap,λg hg=>(key EO py g hg).2⟩,λg hg=>(key X.own X.nfl g hg).2,X.bd⟩
theorem RL{K:List Int->Pr JS α}:((g7 F []).bind λhs'=>K (hs++hs'))=K hs:=by simp[g7,Pr.bind]
theorem Nx{K:List Int->Pr JS α}{l:List Nat}:((g7 F (k::l)).bind λhs'=>K (hs++hs'))=(iF F F k).bind λh=>(g7 F l).bind λhs'=>K ((hs++[h]) ++hs'):=by simp only[g7,Pr.bind_assoc,Pr.bind,vq,jZ,kU]
def PG(F k:Nat)(bG:(Bool×Int)×List Int->Pr JS α)(hs:List Int):Pr JS α:=(doesP F k (lU hs)).bind λr=>bG (r,hs.map bV)
theorem Ny{n:Nat}{bG:(Bool×Int)×List Int->Pr JS α}:(ku F k n).bind bG=(g7 F (List.range' 0 n)).bind λhs'=>PG F k bG ([] ++hs'):=by simp only[ku,PG,Pr.bind_assoc,Pr.bind,kU,CQ,lU]
structure adn(S:lT α (cI F b c lo n) main cs Jm Stop)(bG:(Bool×Int)×List Int->Pr JS α)(w0:aj)(B p q r:Nat)(m:Nat)(i':ι)(a':Act)(w':aj):Prop where
 ex:∃hs lv,m=n-hs.length/\hs.length<=n/\RG p q r n hs.length lv a'/\S.At i' ((g7 F (List.range' hs.length (n-hs.length))).bind λhs'=>PG F S.num bG (hs++hs')) w'/\RJ S w0 B p q r hs lv w'
theorem Nz(S:lT α (cI F b c lo n) main cs Jm Stop)(hn:1<=n/\n<=64)(w0:aj)(p q r:Nat):
  CloSpec S 48 #[aI (ae ⟨p,0,ah⟩),aI (ae ⟨q,0,ah⟩),aI (ae ⟨r,0,ah⟩)] (ku F S.num n) Prod.fst (afN (b:=b) (c:=c) w0.heap.size p n) (Fy S w0 p q r):=by
 intro i w bG X h;rw[Ny]at h;have hcs:=S.hcs;obtain⟨i0,p0,h0⟩:=X.at0;obtain⟨eq,hq⟩:=X.hq;obtain⟨er,hr⟩:=X.hr;obtain⟨ov,ep,hp⟩:=X.hp;have hpl:=(bF.1 hp).1;have Gm:=(bF.1 hq).1;have Av:=(bF.1 hr).1;have cp:=cO hp 0;have zp:=aM hp 0 (bJ _);refine bL func48 rfl ?_;simp only[f48,cN];walk_nrm;iterate 3
  refine iI λτ=>?_
 have hp1:=aH (o:=0) hp (aD ah 0 0);obtain⟨h1,K1,xa⟩:=S.fresh _ _ _ _ _ _ (w.setCell ⟨p,0,ah⟩ (aD ah 0 0)) h0 h X.keep jM (λx hx hne=>by
  by_cases e:x=p
  .subst e;exact⟨X.ge.1,X.nf.1⟩
  .exact aT (az e _) hne)
 have ho1:∀x,x≠p->(w.setCell ⟨p,0,ah⟩ (aD ah 0 0)).heap[x]? =w.heap[x]? :=λx hx=>az hx _;have hs1:(w.setCell ⟨p,0,ah⟩ (aD ah 0 0)).heap.size=w.heap.size:=jM;generalize w.setCell ⟨p,0,ah⟩ (aD ah 0 0)=w1 at*;have hq1:w1.heap[q]? =ae (aK #[aI (ae ⟨b,0,ah⟩)] eq (0,0)):=by rw[ho1 q (bZ X.ne.1)];exact hq
 have hr1:w1.heap[r]? =ae (aK #[.pointer S.wv] er (0,0)):=by rw[ho1 r (bZ X.ne.2)];exact hr
 have X1:RJ S w0 w.heap.size p q r [] (aD ah 0 0) w1:=by
  have:=X.ge;have nl:∀g,(Value.slice ah 0 0).ownBlock=ae g->False:=λg hg=>by cases hg
  refine⟨⟨⟨i0,p0,h0⟩,X.lo,K1,X.ne,X.ge,⟨_,hq1⟩,⟨_,hr1⟩,⟨_,_,hp1⟩,λhf=>X.nf.1 ((xa _).1 hf),λhf=>X.nf.2.1 ((xa _).1 hf),λhf=>X.nf.2.2 ((xa _).1 hf)⟩,⟨ai,ai,hpl,Gm,Av⟩,pL _ _ _ _,⟨aD ah 0 0,ep,by simpa using hp1,pL _ _ _ _,λg hg=>(nl g hg).elim,λg hg=>(nl g hg).elim⟩,λg hg=>(nl g hg).elim,λx hx=>(by cases hx)⟩
 obtain⟨s1,jE⟩:=S.rep _ _ _ h1;have hdr:=JRep.hdr jE;have aja:n≠0:=ai;have cq:=cO hq1 0;have HX:=aA X1;have H1:=aA h1;clear X1 h1 jE hp hq hr hp1 hq1 hr1 cp zp h xa K1;refine Ai λτ=>?_;clear cq hdr;refine cE (iV (adn S bG w0 w.heap.size p q r) (n:=n) ⟨[],_,rfl,bQ _,RG.mk ..,H1.out,HX.out⟩ ?_);rintro m i2 a2 w2 ⟨hs,lv,rfl,hle,hA,h2,X2⟩;have Iy:=X2.box;obtain⟨eq2,Qk⟩:=Iy.hq;obtain⟨Ze,hr2⟩:=Iy.hr;have cq2:=cO Qk 0;have cr2:=cO hr2 0;clear Iy Qk hr2;by_cases hlt:hs.length<n
 .have hwr:IntKind.i64.wrap ((hs.length:Int) +1)=((hs.length+1:Nat):Int):=by rw[gq];omega
  rw[show n-hs.length=(n- (hs.length+1)) +1 by omega,xS,Nx]at h2;have H2:=aA h2;have oy:=aA X2;clear h2 X2 HX H1 X;generalize hk:hs.length=k at*;have Hk:=aA hk;clear hk;cases hA;refine iI λτ=>?_;refine wpM_seq (bz (t:=au) (by simp[cS,hlt]) (eY ?_));try simp only[bE]
  refine wpM_seq (cE ?_);refine iI λτ=>?_;refine pS ?_;iterate 3
   refine gP ?_
  refine bA (args:=#[aI (ae ⟨b,0,ah⟩),.pointer S.wv,aq af k]) rfl rfl rfl func45 rfl rfl dS (λb k fs h1 h2=>S.upush _ _ rfl rfl ⟨f48,by show prog.funcs[b.fn]? =_;rw[h1];exact func48⟩ h2) (qC S hn.2 H2.out hlt) ?_;rintro i3 r3 w3 ⟨x,rfl,hx,h3,K3⟩;walk_nrm;refine gP ?_;refine on ?_;have X3:=oy.out.step K3;clear oy H2 cq2 cr2;obtain⟨ov,eo,RM,EO,hap,py⟩:=X3.out;have hown:=X3.own;rw[Hk.out]at hown EO;have H3:=aA h3;have IB:=aA X3;clear h3 X3;have hBs:=IB.out.hB;have Km:=λτ a hA=>lk_region (p:=p) (q:=q) (r:=r) (n:=n) (k:=k) (lv:=lv) (ov:=ov) (x:=x) (w:=w3.tp τ) (a:=a) w.heap.size hA (by rw[ba,ax RM];rfl) (aM (w:=w3.tp τ) RM 0 (bJ _)) hBs.2.1 hown EO hap hBs.2.2.1 ai hx.1 hx.2;simp only[lkR7,adm,Nv,Nu,Nt,f48,Code.l,Code.r,cN]at Km;refine wpM_lone lA hcs aQ afI (ft3 _ _) (λτ=>mH (Km τ _ (VD.mk ..)) ?_);rintro a' w' ⟨gg,cap,Fx,kN,wa,hA',e',hown',ado,adp,hsz',KD,hat,aar⟩;refine⟨wa.setCell ⟨p,0,ah⟩ (aD (ae ⟨Fx,0,ah⟩) (k+1) kN),⟨e'.heap,e'.os,e'.output⟩,?_⟩;have KD:∀b,b<w3.heap.size->lv.ownBlock≠ae b->ov.ownBlock≠ae b->wa.heap[b]? =w3.heap[b]? :=KD;have hsz':w3.heap.size<=wa.heap.size:=hsz';clear Km;have X3:=IB.out;have h3:=H3.out;have RN:∀g,lv.ownBlock=ae g->w.heap.size<=g:=λg hg=>(hown.lt g hg).1;have adq:∀g,ov.ownBlock=ae g->w.heap.size<=g:=λg hg=>(EO.lt g hg).1;have hpa:wa.heap[p]? =ae (aK #[ov] eo (0,0)):=by rw[KD p ai (λe=>by have:=RN p e;omega) (λe=>by have:=adq p e;omega)];exact RM
  have Lv:=aH (o:=0) hpa (aD (ae ⟨Fx,0,ah⟩) (k+1) kN);have Gp:∀y,y≠p->(wa.setCell ⟨p,0,ah⟩ (aD (ae ⟨Fx,0,ah⟩) (k+1) kN)).heap[y]? =wa.heap[y]? :=λy hy=>az hy _;have YU:(wa.setCell ⟨p,0,ah⟩ (aD (ae ⟨Fx,0,ah⟩) (k+1) kN)).heap.size=wa.heap.size:=jM;generalize wa.setCell ⟨p,0,ah⟩ (aD (ae ⟨Fx,0,ah⟩) (k+1) kN)=w4 at*;obtain⟨h4,K4,Tc⟩:=S.fresh _ _ _ _ _ _ w4 h0 h3 X3.box.keep ai (λy hy hne=>by
   by_cases e:y=p
   .subst e;exact⟨X3.box.ge.1,X3.box.nf.1⟩
   .rw[Gp y e]at hne;by_cases e1:lv.ownBlock=ae y
    .exact⟨by have:=RN y e1;omega,X3.nfl y e1⟩
    .by_cases e2:ov.ownBlock=ae y
     .exact⟨by have:=adq y e2;omega,py y e2⟩
     .exact aT (KD y hy e1 e2) hne)
  have hnew:∀g,w3.heap.size<=g->¬cU b c w4 g:=λg hg hf=>by have:=S.foot _ _ _ _ h3 ((Tc g).1 hf);omega
  have jd:∀y v e,y≠p->y<w.heap.size->w3.heap[y]? =ae (aK v e (0,0))->w4.heap[y]? =ae (aK v e (0,0)):=λy v e h1 h2 h5=>by rw[Gp y h1,KD y ai (λe=>by have:=RN y e;omega) (λe=>by have:=adq y e;omega)];exact h5
  obtain⟨eq3,hq3⟩:=X3.box.hq;obtain⟨er3,hr3⟩:=X3.box.hr;have hlen:(hs++[x]).length=k+1:=by simp[Hk.out]
  have afO:gg≠p/\Fx≠p:=by have h1:∀g,(Value.slice (ae ⟨g,0,ah⟩) (k+1) cap).ownBlock=ae g:=λg=>rfl;have:=(hown'.lt gg rfl).1;have:=(ado.lt Fx rfl).1;omega
  have X4:RJ S w0 w.heap.size p q r (hs++[x]) (aD (ae ⟨gg,0,ah⟩) (k+1) cap) w4:=by
   refine⟨⟨⟨i0,p0,h0⟩,X3.box.lo,K4,X3.box.ne,X3.box.ge,⟨_,jd q _ _ (bZ X3.box.ne.1) hBs.2.2.2.1 hq3⟩,⟨_,jd r _ _ (bZ X3.box.ne.2) hBs.2.2.2.2 hr3⟩,⟨_,_,Lv⟩,λhf=>X3.box.nf.1 ((Tc _).1 hf),λhf=>X3.box.nf.2.1 ((Tc _).1 hf),λhf=>X3.box.nf.2.2 ((Tc _).1 hf)⟩,⟨hBs.1,ai,hBs.2.2⟩,?_,⟨aD (ae ⟨Fx,0,ah⟩) (k+1) kN,eo,by simpa using Lv,?_,?_,?_⟩,?_,?_⟩
   .rw[hlen,G5,Hk.out];exact row_keep hown' λg hg=>Gp g (by obtain rfl:gg=g:=(by simpa[iE]using hg);exact afO.1)
   .rw[hlen,vE,vE];exact row_keep ado λg hg=>Gp g (by obtain rfl:Fx=g:=(by simpa[iE]using hg);exact afO.2)
   .intro g hg h;obtain rfl:gg=g:=(by simpa[iE]using hg);obtain rfl:Fx=gg:=(by simpa[iE]using h);exact adp rfl
   .intro g hg;obtain rfl:Fx=g:=(by simpa[iE]using hg);rcases aar with e|e
    .exact λhf=>py _ e ((Tc _).1 hf)
    .exact hnew _ e
   .intro g hg;obtain rfl:gg=g:=(by simpa[iE]using hg);rcases hat with e|e
    .exact λhf=>X3.nfl _ e ((Tc _).1 hf)
    .exact hnew _ e
   .intro y hy;rcases List.mem_append.1 hy with h|h
    .exact X3.bd y h
    .obtain rfl:y=x:=(by simpa using h);exact hx
  have PH:=aA X4;have H4:=aA h4;clear X4 h4 X3 h3 H3 IB Lv hpa hown' ado hown EO hap py RM;cases hA';try simp only[gu,bE]
  refine l3 hcs (λτ=>?_);go_wp2;refine⟨_,bD _ _,?_⟩;refine⟨n- (hs++[x]).length,by rw[hlen];omega,⟨hs++[x],_,rfl,by rw[hlen];omega,?_,?_,PH.out⟩⟩
  .rw[hlen];exact RG.mk ..
  .rw[hlen];exact H4.out
 .have C0:hs.length=n:=ai;have hd:¬((n:Int) < (n:Int)):=ai;rw[C0]at hA;rw[C0,Nat.sub_self,List.range'_zero,RL]at h2;unfold PG at h2;obtain⟨g,cap,hlv,hBg,NA⟩:=X2.own.form ai;rw[C0]at hlv;have hown:=X2.own;have VJ:=X2.nfl;subst hlv;rw[C0]at hown;have hes:PE g 0 (lU hs) w2:=λj v hv=>by have hj:=(eX.1 hv).1;rw[ja,wX,C0]at hj;rw[eB,hown.cellAt j ai];exact hv
  have hgF:¬cU b c w2 g:=VJ g rfl;have hgb:g≠b:=λe=>hgF (.inl e);have Da:=rC S hn.2 (s:=g) (o:=0) (cap:=cap) (es:=lU hs) h2 (by have:=X2.box.lo;have:=X2.hB;omega) hes hgb NA (RI C0 X2.bd) (by rw[wX];omega);rw[wX,C0]at Da;have Hd:=aA Da;have oy:=aA X2;clear Da X2 h2 hown hes VJ H1 HX hlt hle;cases hA;simp only[Int.not_lt]at hd;refine iI λτ=>?_;refine wpM_seq (bz (t:=aw) dS (iU ?_));simp only[bE,gu,if_true];refine pS ?_;iterate 3
   refine gP ?_
  refine bA (args:=#[aI (ae ⟨b,0,ah⟩),.pointer S.wv,aD (ae ⟨g,0,ah⟩) n cap]) rfl rfl rfl func47 rfl rfl dS (λb k fs h1 h2=>S.upush _ _ rfl rfl ⟨f48,by show prog.funcs[b.fn]? =_;rw[h1];exact func48⟩ h2) (Hd.out) ?_;rintro i3 r3 w3 ⟨ok,er,rfl,h3,K3⟩;walk_nrm;iterate 4
   refine gP ?_
  refine on ?_;refine cD ?_;have X3:=oy.out.step K3;obtain⟨ov3,e3,RM,adr,_,aas⟩:=X3.out;rw[C0]at adr;have hB3:=X3.hB;exact⟨rfl,.tuple #[.bool ok,aq af er],jT,((ok,er),hs.map bV),rfl,h3,X3.box,ov3,e3,RM,⟨adr.1,adr.2.imp id λ⟨g',cap',cur,h1,h2,h4⟩=>⟨g',cap',cur,h1,ai,h4⟩⟩,by simp[C0],aas⟩
end
end
section
open Go Go.Conc Go.ConcN Go.RowKit
theorem KE:(prog.info? 53).map (λi=>(i.zero,i.size,i.bytes))=ae (ae (.agg #[aq af 0,aq af 0]),2,16):=aQ
theorem VK:(prog.info? 50).map (λi=>(i.zero,i.size,i.bytes))=ae (ae (.agg #[aq af 0,aq af 0,aq af 0,aq af 0,aD ah 0 0]),5,56):=aQ
theorem aat:(prog.info? 51).map (λi=>(i.zero,i.size,i.bytes))=ae (ae (aD ah 0 0),1,24):=aQ
section
theorem wp_copy{o:aZ}{w:aj}{K:Act->aj->Prop}{Q:Exit->Act->aj->Prop}(x:Operand)(t:bq)
  (ho:o.op=.call {callee:=.builtin .append,args:=#[.const (aD ah 0 0),x],argTypes:=#[t,t]})
  (base:Nat)(e:bq)(i:TypeInfo)(z:ay)(size bytes:Nat)(ht:P.underlying t=ae (.slice e))(hi:P.info? e=ae i)(hz:i.zero=ae z)
  (hsize:i.size=size)(hby:i.bytes=bytes)(hzs:z.cells.size=size)(hsz:0<size)
  (ad:Option aP)(m c:Nat)(news:List ay)(hx:a.eval x=aD ad m c)(hl:news.length=m*size)(hnews:∀j u,news[j]? =ae u->∃y,ad=ae y/\w.cell? (y.add j)=ae u)(h1:∀u∈news,u.oneCell'=au)
  (h63:m<=maxLen)(hbytes:m*bytes<=140737488355328)(hbase:base<=w.heap.size)
  (h:∀v w',w'.ownsRow base e size v m news->w.grownBy w' ah->K (a.put o.dst v) w'):o.wp P a w K Q:=by
 rcases mr m with rfl|hm
 .obtain rfl:news=[]:=List.eq_nil_of_length_eq_zero (by simpa using hl);have hrun:=sg (P:=P) (w:=w) t o.type e i ht hi ad c;have hc:a.eval (.const (aD ah 0 0))=aD ah 0 0:=rfl;unfold Oper.wp;simp[bT,ho,resolve,invoke,builtin,hx,hc,hrun,Result.andThen];exact h _ _ (pL _ _ _ _) ⟨rfl,rfl,rfl,bJ _,λ_ _ _=>rfl⟩
 .have lJ:0<news.length:=by rw[hl];exact Nat.mul_pos hm hsz
  obtain⟨x',pw,_⟩:=hnews 0 news[0] (eQ lJ);subst pw;refine wp_append_lies w (.const (aD ah 0 0)) x t ho base e i z size bytes ht hi hz hsize hby hzs hsz (aD ah 0 0) 0 [] rfl (pL _ _ _ _) x' m c news hx hl (λj u hj=>?_) h1 hm ai (by rw[eB];exact hbytes) hbase _ rfl ?_
  .obtain⟨y,hy,hc⟩:=hnews j u hj;obtain rfl:=bj hy;exact hc
  .intro g cap w' h2 h3 _ _;simp only[eB,kU]at h2⊢;exact h _ _ h2 h3
theorem qD{ops:Array aZ}{o:aZ}{w:aj}{K:Act->aj->Prop}{Q:Exit->Act->aj->Prop}(hgd:o.guard=ah)(x:Operand)(t:bq)
  (ho:o.op=.call {callee:=.builtin .append,args:=#[.const (aD ah 0 0),x],argTypes:=#[t,t]})
  (base:Nat)(e:bq)(i:TypeInfo)(z:ay)(size bytes:Nat)(ht:P.underlying t=ae (.slice e))(hi:P.info? e=ae i)(hz:i.zero=ae z)
  (hsize:i.size=size)(hby:i.bytes=bytes)(hzs:z.cells.size=size)(hsz:0<size)
  (ad:Option aP)(m c:Nat)(news:List ay)(hx:a.eval x=aD ad m c)(hl:news.length=m*size)(hnews:∀j u,news[j]? =ae u->∃y,ad=ae y/\w.cell? (y.add j)=ae u)(h1:∀u∈news,u.oneCell'=au)
  (h63:m<=maxLen)(hbytes:m*bytes<=140737488355328)(hbase:base<=w.heap.size)
  (h:∀v w',w'.ownsRow base e size v m news->w.grownBy w' ah->K (a.put o.dst v) w'):if dF o (dW ops a.tmps)=au then Oper.wp P o a w K Q else E:=by
 rw[aX (by simp[dF,hgd])];exact wp_copy x t ho base e i z size bytes ht hi hz hsize hby hzs hsz ad m c news hx hl hnews h1 h63 hbytes hbase h
theorem KF{ops:Array aZ}{rest:List aZ}{o:aZ}{w:aj}{Q:Exit->Act->aj->Prop}(hgd:o.guard=ah)(x:Operand)(t:bq)
  (ho:o.op=.call {callee:=.builtin .append,args:=#[.const (aD ah 0 0),x],argTypes:=#[t,t]})
  (base:Nat)(e:bq)(i:TypeInfo)(z:ay)(size bytes:Nat)(ht:P.underlying t=ae (.slice e))(hi:P.info? e=ae i)(hz:i.zero=ae z)
  (hsize:i.size=size)(hby:i.bytes=bytes)(hzs:z.cells.size=size)(hsz:0<size)
  (ad:Option aP)(m c:Nat)(news:List ay)(hx:a.eval x=aD ad m c)(hl:news.length=m*size)(hnews:∀j u,news[j]? =ae u->∃y,ad=ae y/\w.cell? (y.add j)=ae u)(h1:∀u∈news,u.oneCell'=au)
  (h63:m<=maxLen)(hbytes:m*bytes<=140737488355328)(hbase:base<=w.heap.size)
  (h:∀v w',w'.ownsRow base e size v m news->w.grownBy w' ah->wpList P ops Q rest (a.put o.dst v) w'):wpList P ops Q (o::rest) a w:=
 wpList_plain hgd λ_ hK=>wp_copy x t ho base e i z size bytes ht hi hz hsize hby hzs hsz ad m c news hx hl hnews h1 h63 hbytes hbase λv w' h2 h3=>hK _ _ (h v w' h2 h3)
end
def gH(l:List Int):List ay:=l.map (Value.int .i64)
theorem uu(l:List Int):∀u∈gH l,u.oneCell'=au:=λu hu=>by obtain⟨z,_,rfl⟩:=pA.1 hu;rfl
def j7(w:aj)(a:Option aP)(l:List Int):Prop:=∀i,i<l.length->∃b o,a=ae ⟨b,o,ah⟩/\b<w.heap.size/\w.cell? ⟨b,o+i,ah⟩=ae (aq af (l.getD i 0))
theorem j7.same{w:aj}{a:Option aP}{l:List Int}(h:j7 w a l)(hs:w.heap.size<=w'.heap.size)(hb:∀b,b<w.heap.size->w'.heap[b]? =w.heap[b]?):j7 w' a l:=λi hi=>by obtain⟨b,o,e,h1,h2⟩:=h i hi;exact⟨b,o,e,ai,(dr (w:=w) (hb b h1)).trans h2⟩
theorem j7.news{w:aj}{a:Option aP}{l:List Int}(h:j7 w a l):∀j u,(gH l)[j]? =ae u->∃y,a=ae y/\w.cell? (y.add j)=ae u:=λj u hj=>by
 unfold gH at hj;rw[nM]at hj;cases hl:l[j]? with
 |none=>rw[hl]at hj;cases hj
 |some z=>
  rw[hl]at hj;obtain rfl:Value.int .i64 z=u:=by simpa using hj
  obtain⟨b,o,e,_,h2⟩:=h j (eX.1 hl).1;refine⟨_,e,?_⟩;rw[eF,hl]at h2;have Mh:(⟨b,o,ah⟩:aP).add j=⟨b,o+j,ah⟩:=by cases j<;>simp[Addr.add]
  rw[Mh];simpa using h2
def eZ(l:List (Int×Int)):List ay:=l.flatMap λp=>[aq af p.1,aq af p.2]
theorem vI(l:List (Int×Int)):(eZ l).length=l.length*2:=by
 induction l with
 |nil=>rfl
 |cons p l ih=>rw[eZ,List.flatMap_cons,mo];show 2+(eZ l).length=_;rw[ih,fO];omega
theorem Es(l:List (Int×Int)):∀u∈eZ l,u.oneCell'=au:=λu hu=>by
 obtain⟨p,_,hp⟩:=List.mem_flatMap.1 hu;rcases fU.1 hp with rfl|hp
 .rfl
 .obtain rfl:=List.mem_singleton.1 hp;rfl
theorem vJ:∀(l:List (Int×Int)) (i:Nat),i<l.length->(eZ l)[2*i]? =ae (aq af (l.getD i (0,0)).1)/\(eZ l)[2*i+1]? =ae (aq af (l.getD i (0,0)).2):=by
 intro l;induction l with
 |nil=>intro i hi;cases hi
 |cons p l ih=>
  intro i hi;cases i with
  |zero=>exact⟨rfl,rfl⟩
  |succ i=>have:=ih i (by simpa using hi);simpa[eZ,List.flatMap_cons,Nat.mul_add]using this
theorem kZ.news{w:aj}{a:Option aP}{cap:Nat}{l:List (Int×Int)}(h:kZ w (aD a l.length cap) l):∀j u,(eZ l)[j]? =ae u->∃y,a=ae y/\w.cell? (y.add j)=ae u:=λj u hj=>by
 obtain⟨a',cap',e,h⟩:=h;cases e;have hlt:=(eX.1 hj).1;rw[vI]at hlt;obtain⟨b,o,e,_,h1,h2⟩:=h (j / 2) ai;obtain⟨g1,g2⟩:=vJ l (j / 2) ai;refine⟨_,e,?_⟩;have Mh:(⟨b,o,ah⟩:aP).add j=⟨b,o+j,ah⟩:=by cases j<;>simp[Addr.add]
 rw[Mh];rcases Nat.mod_two_eq_zero_or_one j with e|e
 .rw[show 2*(j / 2)=j by omega]at g1 h1;rw[h1,←g1,hj]
 .rw[show 2*(j / 2) +1=j by omega]at g2;rw[show o+2*(j / 2) +1=o+j by omega]at h2;rw[h2,←g2,hj]
def dN(c:bs)(pv:ay):List ay:=[aq af c.kind,aq af c.a,aq af c.b,aq af c.c,pv]
def fL(l:List bs)(jo:List ay):List ay:=(l.zip jo).flatMap λx=>dN x.1 x.2
theorem Et{l:List bs}(h:l.length=jo.length)(c:bs)(pv:ay):fL (l++[c]) (jo++[pv])=fL l jo++dN c pv:=by unfold fL;rw[List.zip_append h,wY];rfl
def mN(w:aj)(B:Nat)(v:ay)(l:List (Int×Int)):Prop:=w.ownsRow B 53 2 v l.length (eZ l)
def ln(w:aj)(B:Nat)(v:ay)(l:List bs):Prop:=∃jo:List ay,jo.length=l.length/\w.ownsRow B 50 5 v l.length (fL l jo)/\∀(i:Nat) (c:bs) (pv:ay),l[i]? =ae c->jo[i]? =ae pv->mN w B pv c.pairs
def uv(w:aj)(B:Nat)(v:ay)(work:List (List bs)):Prop:=∃oB:List ay,oB.length=work.length/\w.ownsRow B 51 1 v work.length oB/\∀(k:Nat) (l:List bs) (rv:ay),work[k]? =ae l->oB[k]? =ae rv->ln w B rv l
def Apart(oB:List ay):Prop:=∀(q q':Nat) rv Y4 x,q<q'->oB[q]? =ae rv->oB[q']? =ae Y4->rv.ownBlock=ae x->Y4.ownBlock≠ae x
def AllNewD(w:aj)(B:Nat)(v:ay)(work:List (List bs)):Prop:=∃oB:List ay,(oB.length=work.length/\w.ownsRow B 51 1 v work.length oB/\∀(k:Nat) (l:List bs) (rv:ay),work[k]? =ae l->oB[k]? =ae rv->ln w B rv l)/\Apart oB
theorem AllNewD.all{w:aj}{work:List (List bs)}(h:AllNewD w B v work):uv w B v work:=by obtain⟨oB,h1,_⟩:=h;exact⟨oB,h1⟩
theorem row_base{w:aj}(h:w.ownsRow B e sz v m xs)(hB:B'<=B):w.ownsRow B' e sz v m xs:=⟨h.1,h.2.imp id λ⟨g,cap,cur,h1,h2,h3⟩=>⟨g,cap,cur,h1,dm hB h2,h3⟩⟩
theorem dX{w:aj}(h:w.ownsRow B e sz v m xs):∃a c,v=aD a m c:=by
 rcases h.2 with⟨rfl,rfl⟩|⟨g,cap,cur,rfl,_⟩
 .exact⟨ah,0,rfl⟩
 .exact⟨_,_,rfl⟩
theorem ln.base{w:aj}{l:List bs}(h:ln w B v l)(hB:B'<=B):ln w B' v l:=by obtain⟨jo,h1,h2,h3⟩:=h;exact⟨jo,h1,row_base h2 hB,λi c pv a b=>row_base (h3 i c pv a b) hB⟩
def nN(w w':aj)(e:bq):Prop:=∀(g:Nat) (cur:Array ay),w.heap[g]? =ae (Obj.cells cur e (0,0))->w'.heap[g]? =w.heap[g]?
theorem row_stand{w:aj}(h:w.ownsRow B e sz v m xs)(hs:nN w w' e):w'.ownsRow B e sz v m xs:=row_keep h λg hg=>by obtain⟨cur,hc⟩:=dV h hg;exact hs g cur hc
theorem ln.stand{w:aj}{l:List bs}(h:ln w B v l)(h1:nN w w' 50)(h2:nN w w' 53):ln w' B v l:=by obtain⟨jo,a,b,c⟩:=h;exact⟨jo,a,row_stand b h1,λi d pv x y=>row_stand (c i d pv x y) h2⟩
theorem AllNewD.stand{w:aj}{work:List (List bs)}(h:AllNewD w B v work)(h0:nN w w' 51)(h1:nN w w' 50)(h2:nN w w' 53):AllNewD w' B v work:=by obtain⟨oB,⟨a,b,c⟩,d⟩:=h;exact⟨oB,⟨a,row_stand b h0,λk l rv x y=>(c k l rv x y).stand h1 h2⟩,d⟩
inductive VL(cb rb:Nat):Act->Prop
 |mk (u0 u3 u4 u5 u6 u7 u8 u9 sK nW nX mU mA mB u16 lK lL lM lN mV mX u23 u24 mY u26 lO u28 lQ lR mC u32 u33 mD mE mF mG mZ m9 nV oU oV pU u44 pV oX oY oZ o6 o7 o8 o9 sH sI ub ud:ay):VL cb rb {tmps:=#[u0,aI (ae ⟨cb,0,ah⟩),aI (ae ⟨rb,0,ah⟩),u3,u4,u5,u6,u7,u8,u9,sK,nW,nX,mU,mA,mB,u16,lK,lL,lM,lN,mV,mX,u23,u24,mY,u26,lO,u28,lQ,lR,mC,u32,u33,mD,mE,mF,mG,mZ,m9,nV,oU,oV,pU,u44,pV,oX,oY,oZ,o6,o7,o8,o9,sH,sI,ub,ud],defers:=[]}
inductive VM(cb rb ob:Nat):Act->Prop
 |mk (u0 u4 u5 u6 u7 u8 u9 sK nW nX mU mA mB u16 lK lL lM lN mV mX u23 u24 mY u26 lO u28 lQ lR mC u32 u33 mD mE mF mG mZ m9 nV oU oV pU u44 pV oX oY oZ o6 o7 o8 o9 sH sI ub ud:ay):VM cb rb ob {tmps:=#[u0,aI (ae ⟨cb,0,ah⟩),aI (ae ⟨rb,0,ah⟩),aI (ae ⟨ob,0,ah⟩),u4,u5,u6,u7,u8,u9,sK,nW,nX,mU,mA,mB,u16,lK,lL,lM,lN,mV,mX,u23,u24,mY,u26,lO,u28,lQ,lR,mC,u32,u33,mD,mE,mF,mG,mZ,m9,nV,oU,oV,pU,u44,pV,oX,oY,oZ,o6,o7,o8,o9,sH,sI,ub,ud],defers:=[]}
noncomputable def cpCode:Code:=(f9.body).getD .skip
structure CpFirst(tu ha:Option aP)(wk:ay)(un:Int)(cc:cu)(tc hc B ob:Nat)(w w':aj):Prop where
 bel:Below w.heap.size w w'
 ge:w.heap.size<=ob
 ho:∃tv hv,w'.heap[ob]? =ae (aK #[aD ah 0 0,tv,hv,aq af un] 25 (0,0))/\w'.ownsRow B 3 1 tv cc.turns.length (gH cc.turns)/\w'.ownsRow B 3 1 hv cc.halt.length (gH cc.halt)
def vK:Obj:=aK #[aD ah 0 0,aD ah 0 0,aD ah 0 0,aq af 0] 25 (0,0)
theorem pN{w:aj}(h:w.heap[b]? =ae vK):(w.cell? ⟨b,0,ah⟩=ae (aD ah 0 0)/\w.cell? ⟨b,1,ah⟩=ae (aD ah 0 0)/\w.cell? ⟨b,2,ah⟩=ae (aD ah 0 0)/\w.cell? ⟨b,3,ah⟩=ae (aq af 0))/\(w.frozen? ⟨b,0,ah⟩=aw/\w.frozen? ⟨b,1,ah⟩=aw/\w.frozen? ⟨b,2,ah⟩=aw/\w.frozen? ⟨b,3,ah⟩=aw):=by unfold vK at h;exact⟨⟨by rw[ax h];rfl,by rw[ax h];rfl,by rw[ax h];rfl,by rw[ax h];rfl⟩,aM h _ (bQ _),aM h _ (bQ _),aM h _ (bQ _),aM h _ (bQ _)⟩
section
variable{tu:Option aP}{wk tv hv:ay}{cc:cu}{X:Nat}{w w2:aj}
theorem jU(h:w1.ownsRow B' e sz v m xs)(g:w1.grownBy w2 ah):w2.ownsRow B' e sz v m xs:=h.kept g (by cases v.ownBlock<;>simp)
theorem rD(hb:Below w.heap.size w w2)(rT:w2.ownsRow B 3 1 tv cc.turns.length (gH cc.turns))(rH:w2.ownsRow B 3 1 hv cc.halt.length (gH cc.halt)):
  CpFirst tu ha wk un cc tc hc B w2.heap.size w (w2.alloc (aK #[aD ah 0 0,tv,hv,aq af un] 25)):=
 ⟨hb.alloc hb.size _,hb.size,tv,hv,gN _ _,rT.alloc _,rH.alloc _⟩
theorem lX(hb:Below w.heap.size w w2)(hX:w.heap.size<=X)(h0:w2.heap[X]? =ae vK)(rT:w2.ownsRow B 3 1 tv cc.turns.length (gH cc.turns))(rH:w2.ownsRow B 3 1 hv cc.halt.length (gH cc.halt)):
  CpFirst tu ha wk un cc tc hc B X w ((((w2.setCell ⟨X,0,ah⟩ (aD ah 0 0)).setCell ⟨X,1,ah⟩ tv).setCell ⟨X,2,ah⟩ hv).setCell ⟨X,3,ah⟩ (aq af un)):=by
 have dA:∀y,y≠X->((((w2.setCell ⟨X,0,ah⟩ (aD ah 0 0)).setCell ⟨X,1,ah⟩ tv).setCell ⟨X,2,ah⟩ hv).setCell ⟨X,3,ah⟩ (aq af un)).heap[y]? =w2.heap[y]? :=λy hy=>by rw[az hy,az hy,az hy,az hy]
 have hrow:∀{v:ay} {m:Nat} {xs:List ay},w2.ownsRow B 3 1 v m xs->∀g,v.ownBlock=ae g->g≠X:=λh g hg e=>by obtain⟨cur,hc⟩:=dV h hg;rw[e,h0]at hc;cases hc
 refine⟨(((hb.setCell hX _).setCell hX _).setCell hX _).setCell hX _,hX,tv,hv,?_,row_keep rT λg hg=>dA g (hrow rT g hg),row_keep rH λg hg=>dA g (hrow rH g hg)⟩;exact aH (aH (aH (aH h0 _) _) _) _
end
theorem cp_first{w:aj}{tu:Option aP}{wk:ay}{cc:cu}(hA:VL cb rb a)(hcb:w.heap[cb]? =ae (aK #[wk,aD tu cc.turns.length tc,aD ha cc.halt.length hc,aq af un] 25 (0,0)))
  (hT:j7 w tu cc.turns)(hH:j7 w ha cc.halt)(hB:B<=w.heap.size)(hn:cc.turns.length<=20000/\cc.halt.length<=1000):
  (cpCode.r.l).wp aC (ue λa' w'=>∃ob,VM cb rb ob a'/\CpFirst tu ha wk un cc tc hc B ob w w') a w:=by
 have hcl:=(bF.1 hcb).1;have c1:=cO hcb 1;have c2:=cO hcb 2;have c3:=cO hcb 3;have afP:∀w',Below w.heap.size w w'->Below w.heap.size w w'/\w'.cell? ⟨cb,1,ah⟩=ae (aD tu cc.turns.length tc)/\w'.cell? ⟨cb,2,ah⟩=ae (aD ha cc.halt.length hc)/\w'.cell? ⟨cb,3,ah⟩=ae (aq af un):=λw' h=>⟨h,(h.cell hcl).trans c1,(h.cell hcl).trans c2,(h.cell hcl).trans c3⟩;have HT:=aA hT;have HH:=aA hH;have HC:=aA hcb;clear hT hH hcb c1 c2 c3;cases hA;obtain⟨ii,O5,O6,O7,O8⟩:=kq PF;simp only[cpCode,f9,Code.l,Code.r,cN];refine bt.start (λw'=>Below w.heap.size w w'/\w'.cell? ⟨cb,1,ah⟩=ae (aD tu cc.turns.length tc)/\w'.cell? ⟨cb,2,ah⟩=ae (aD ha cc.halt.length hc)/\w'.cell? ⟨cb,3,ah⟩=ae (aq af un)) [10] aQ ?_ (λaF=>?_)
 .exact yf
 refine bt.tv 0 aF ?_;refine bt.tt 1 aF ?_;refine bt.tv 3 aF ?_;refine bt.tt 4 aF ?_;refine bt.tv 6 aF ?_;refine bt.tt 7 aF ?_;refine bt.two (i:=2) (j:=9) rfl rfl aQ (λK hK=>?_) (λK hK=>?_)
 ·(refine qD cQ (.tmp 9) 22 cQ B 3 ii _ 1 8 underlying22 O5 O6 O7 O8 rfl aN tu cc.turns.length tc (gH cc.turns) cQ (by simp[gH]) (HT.out.same aF.1.size aF.1.block).news (uu _) jk ai (dm hB aF.1.size) ?_;intro tv w1 sj pY;have hB1:w.heap.size<=w1.heap.size:=(by have e:=pY.size;have e2:=aF.1.size;simp only[cM,rY]at e e2;omega);obtain⟨ta,tcp,rfl⟩:=dX sj)
  refine hK.out _ _ (λ_=>?_) (λaF=>?_)
  .exact yf
  replace aF:=aF aN;clear hK K;try refine pt ?_
  refine bt.two (i:=5) (j:=9) rfl rfl aQ (λK hK=>?_) (λK hK=>?_)
  ·(refine qD cQ (.tmp 12) 22 cQ B 3 ii _ 1 8 underlying22 O5 O6 O7 O8 rfl aN ha cc.halt.length hc (gH cc.halt) cQ (by simp[gH]) (HH.out.same aF.1.size aF.1.block).news (uu _) jk ai (dm hB aF.1.size) ?_;intro hv w2 pO g8;have VN:=aF.1.grown g8 aF.1.size (λk hk=>J7);obtain⟨hha,hcp,rfl⟩:=dX pO)
   refine hK.out _ _ (λ_=>?_) (λaF=>?_)
   .exact yf
   replace aF:=aF aN;clear hK K;try refine pt ?_
   refine bt.tv 8 aF ?_;refine bt.to 9 (λK hK=>?_);go_simp;refine hK.out _ _ (λ_=>?_) (λaF=>?_)
   .exact yf
   replace aF:=aF aN;clear hK K;try refine pt ?_
   refine bt.to 10 (λK hK=>?_)
   ((first|(have hz0:w2.heap[w.heap.size]? =ae vK:=(by rw[g8.block _ (by have e:=pY.size;simp only[cM,rY]at e;omega) aJ,pY.block _ aJ aJ];exact gN _ _))|(have hz0:w2.heap[w1.heap.size]? =ae vK:=(by rw[g8.block _ aJ aJ];exact gN _ _))|have hz0:True:=mI);(first|have hzz:=pN hz0|have hzz:True:=mI);(first|have Hz0:=aA hz0);clear hz0;go_simp)
   refine hK.out _ _ (λhF=>aT hF aN) (λ_=>?_);clear hK K;try refine pt ?_
   refine bt.done aQ ?_ _
   (refine⟨_,VM.mk ..,?_⟩;first|exact rD VN (jU sj g8) pO|exact lX VN hB1 Hz0.out (jU (sj.alloc _) g8) pO|exact lX VN (bJ _) Hz0.out (jU sj g8) pO)
  .go_simp;refine hK.out _ _ (λ_=>?_) (λaF=>?_)
   .exact yf
   replace aF:=aF aN;clear hK K;try refine pt ?_
   refine bt.to 5 (λK hK=>?_)
   (refine qD cQ (.tmp 12) 22 cQ B 3 ii _ 1 8 underlying22 O5 O6 O7 O8 rfl aN ha cc.halt.length hc (gH cc.halt) cQ (by simp[gH]) (HH.out.same aF.1.size aF.1.block).news (uu _) jk ai (dm hB aF.1.size) ?_;intro hv w2 pO g8;have VN:=aF.1.grown g8 aF.1.size (λk hk=>J7);obtain⟨hha,hcp,rfl⟩:=dX pO)
   refine hK.out _ _ (λ_=>?_) (λaF=>?_)
   .exact yf
   replace aF:=aF aN;clear hK K;try refine pt ?_
   refine bt.tv 8 aF ?_;refine bt.to 10 (λK hK=>?_)
   ((first|(have hz0:w2.heap[w.heap.size]? =ae vK:=(by rw[g8.block _ (by have e:=pY.size;simp only[cM,rY]at e;omega) aJ,pY.block _ aJ aJ];exact gN _ _))|(have hz0:w2.heap[w1.heap.size]? =ae vK:=(by rw[g8.block _ aJ aJ];exact gN _ _))|have hz0:True:=mI);(first|have hzz:=pN hz0|have hzz:True:=mI);(first|have Hz0:=aA hz0);clear hz0;go_simp)
   refine hK.out _ _ (λhF=>aT hF aN) (λ_=>?_);clear hK K;try refine pt ?_
   refine bt.done aQ ?_ _
   (refine⟨_,VM.mk ..,?_⟩;first|exact rD VN (jU sj g8) pO|exact lX VN hB1 Hz0.out (jU (sj.alloc _) g8) pO|exact lX VN (bJ _) Hz0.out (jU sj g8) pO)
 .go_simp;refine hK.out _ _ (λ_=>?_) (λaF=>?_)
  .exact yf
  replace aF:=aF aN;clear hK K;try refine pt ?_
  refine bt.to 2 (λK hK=>?_)
  (refine qD cQ (.tmp 9) 22 cQ B 3 ii _ 1 8 underlying22 O5 O6 O7 O8 rfl aN tu cc.turns.length tc (gH cc.turns) cQ (by simp[gH]) (HT.out.same aF.1.size aF.1.block).news (uu _) jk ai (dm hB aF.1.size) ?_;intro tv w1 sj pY;have hB1:w.heap.size<=w1.heap.size:=(by have e:=pY.size;have e2:=aF.1.size;simp only[cM,rY]at e e2;omega);obtain⟨ta,tcp,rfl⟩:=dX sj)
  refine hK.out _ _ (λ_=>?_) (λaF=>?_)
  .exact yf
  replace aF:=aF aN;clear hK K;try refine pt ?_
  refine bt.to 5 (λK hK=>?_)
  (refine qD cQ (.tmp 12) 22 cQ B 3 ii _ 1 8 underlying22 O5 O6 O7 O8 rfl aN ha cc.halt.length hc (gH cc.halt) cQ (by simp[gH]) (HH.out.same aF.1.size aF.1.block).news (uu _) jk ai (dm hB aF.1.size) ?_;intro hv w2 pO g8;have VN:=aF.1.grown g8 aF.1.size (λk hk=>J7);obtain⟨hha,hcp,rfl⟩:=dX pO)
  refine hK.out _ _ (λ_=>?_) (λaF=>?_)
  .exact yf
  replace aF:=aF aN;clear hK K;try refine pt ?_
  refine bt.tv 8 aF ?_;refine bt.to 10 (λK hK=>?_)
  ((first|(have hz0:w2.heap[w.heap.size]? =ae vK:=(by rw[g8.block _ (by have e:=pY.size;simp only[cM,rY]at e;omega) aJ,pY.block _ aJ aJ];exact gN _ _))|(have hz0:w2.heap[w1.heap.size]? =ae vK:=(by rw[g8.block _ aJ aJ];exact gN _ _))|have hz0:True:=mI);(first|have hzz:=pN hz0|have hzz:True:=mI);(first|have Hz0:=aA hz0);clear hz0;go_simp)
  refine hK.out _ _ (λhF=>aT hF aN) (λ_=>?_);clear hK K;try refine pt ?_
  refine bt.done aQ ?_ _
  (refine⟨_,VM.mk ..,?_⟩;first|exact rD VN (jU sj g8) pO|exact lX VN hB1 Hz0.out (jU (sj.alloc _) g8) pO|exact lX VN (bJ _) Hz0.out (jU sj g8) pO)
end
section
open Go Go.Conc Go.ConcN Go.RowKit
attribute [local go_sem] ba bf bH a8 bC bK aS aV fy dI fA bO
theorem KG{w:aj}{o1 o2 o3:Obj}(h:((w.alloc o1).alloc o2).alloc o3=w1):w1.heap.size=w.heap.size+3/\(∀b,b<w.heap.size->w1.heap[b]? =w.heap[b]?)/\w1.heap[w.heap.size]? =ae o1/\w1.heap[w.heap.size+1]? =ae o2/\w1.heap[w.heap.size+1+1]? =ae o3:=by
 subst h;refine⟨aJ,λb hb=>?_,?_,?_,?_⟩ <;>simp only[←dt,dz,fN]
 .rw[aU ai,aU ai,aU ai]
 .exact ZU
 .rw[aU ai,aX trivial]
 .rw[aX trivial]
section
variable{c n:Nat}{main:Bool}{Stop:ι->aB->List aB->aj->Prop}{w:aj}
def uw(b c B:Nat)(iv:ay)(l:List Int)(w:aj):Prop:=w.ownsRow B 3 1 iv l.length (l.map (Value.int .i64))/\∀g,iv.ownBlock=ae g->¬cU b c w g
def lT.Ints(S:lT α (cI F b c lo n) main cs Jm Stop)(bG:List Int×Int->Pr JS α)(w:aj)(i':ι)(r:ay)(w':aj):Prop:=∃iv e l,r=.tuple #[iv,aq af e]/\S.At i' (bG (l,e)) w'/\S.Keep w w'/\uw b c w.heap.size iv l w'
theorem look_eq{n:Nat}{bG:List Int×Int->Pr JS α}:(vG F k n).bind bG=(againG Prod.fst (ku F k n) F).bind λr=>if r.1.2≠0 then bG ([],r.1.2)else bG (r.2,0):=by simp only[vG,Pr.bind_assoc,mM,Pr.bind]
theorem look_any'(S:lT α (cI F b c lo n) main cs Jm Stop)(hn:1<=n/\n<=64){bG:List Int×Int->Pr JS α}(h:S.At i ((vG F S.num n).bind bG) w)(hlo:lo<=w.heap.size):
  CallsM aC main cs Jm Stop S.U i 20 #[aI (ae ⟨b,0,ah⟩),.pointer S.wv] w (S.Ints bG w):=by
 rw[look_eq]at h;have hcs:=S.hcs;refine bL func20 rfl ?_;simp only[f20,cN];walk_nrm;iterate 2
  refine iI λτ=>?_
 generalize iA:World.alloc _ _=w1;obtain⟨a1,a2,a3,a4,a5⟩:=KG iA;clear iA;obtain⟨h1,K1,xa⟩:=S.fresh _ _ _ _ _ _ w1 h h (S.refl w) ai (λy hy hne=>aT (a2 y hy) hne);have py:∀g,w.heap.size<=g->¬cU b c w1 g:=λg hg hf=>by have:=S.foot _ _ _ _ h ((xa g).1 hf);omega
 have X1:Fy S w (w.heap.size+1+1) w.heap.size (w.heap.size+1) w1:=⟨⟨_,_,h⟩,hlo,K1,ai,ai,⟨_,a3⟩,⟨_,a4⟩,⟨_,_,a5⟩,py _ ai,py _ ai,py _ ai⟩;have H1:=aA h1;have HX1:=aA X1;clear h1 X1 a3 a4 a5 xa py;refine pS ?_;refine gP ?_;refine bA (args:=#[.func (.func 48) #[] #[aI (ae ⟨w.heap.size+1+1,0,ah⟩),aI (ae ⟨w.heap.size,0,ah⟩),aI (ae ⟨w.heap.size+1,0,ah⟩)]]) rfl rfl rfl func43 rfl rfl dS (λb k fs h1 h2=>S.upush _ _ rfl rfl ⟨f20,by show prog.funcs[b.fn]? =_;rw[h1];exact func20⟩ h2) (wW S func48 rfl rfl (Nz S hn w _ _ _) HX1.out H1.out) ?_;rintro i2 r2 w2 ⟨⟨⟨ok,er⟩,l⟩,rfl,h2,X2,ov,eo,AO,EO,hl,ahR⟩;simp only at h2 EO hl;have cp:=cO AO 0;have H2:=aA h2;have oy:=aA X2;clear h2 X2 AO;walk_nrm;iterate 5
  refine gP ?_
 refine on ?_;by_cases he:er=0
 .subst he;have h3:S.At i2 (bG (l,0)) w2:=by simpa using H2.out
  refine Ai λτ=>?_;refine Cs ?_;try simp only[bE]
  refine iI λτ=>?_;refine cD ?_;refine⟨rfl,.tuple #[ov,aq af 0],jT,ov,0,l,rfl,h3,oy.out.keep,?_,ahR⟩;rw[hl];exact EO
 .have h3:S.At i2 (bG ([],er)) w2:=by simpa[he]using H2.out
  have hne:(er !=0)=au:=by simpa using he
  refine Ai λτ=>?_;refine bz (t:=au) (by simp[cS,he]) ?_;refine iI λτ=>?_;refine cD ?_;exact⟨rfl,.tuple #[aD ah 0 0,aq af er],jT,aD ah 0 0,er,[],rfl,h3,oy.out.keep,pL _ _ _ _,λg hg=>by cases hg⟩
end
inductive Eu(f t x r m L k:Nat):Act->Prop
 |mk (u5 u6 u8 u9 sK nW nX mU mA mB u16 lK lL lM lN u23 u24 mY u26 lO u28 lQ lR mC u32 u33 mD mE mF mG mZ m9 nV oU oV pU u44 pV oX oY oZ o6 o7 o8 o9 sH sI ub ud wE wG wH wI wJ wK wL u64 wM wN D5 D6 D7 AG AH AJ Cy Cz CB CE CG D8 D9 Ea Gz GA GC GD GF GG GH GI GJ GL GM GN GQ GR:ay):Eu f t x r m L k {tmps:=#[aI (ae ⟨f,0,ah⟩),aI (ae ⟨t,0,ah⟩),aI (ae ⟨x,0,ah⟩),aI (ae ⟨r,0,ah⟩),aI (ae ⟨m,0,ah⟩),u5,u6,aD (ae ⟨L,0,ah⟩) 2 2,u8,u9,sK,nW,nX,mU,mA,mB,u16,lK,lL,lM,lN,aq af 2,aq af k,u23,u24,mY,u26,lO,u28,lQ,lR,mC,u32,u33,mD,mE,mF,mG,mZ,m9,nV,oU,oV,pU,u44,pV,oX,oY,oZ,o6,o7,o8,o9,sH,sI,ub,ud,wE,wG,wH,wI,wJ,wK,wL,u64,wM,wN,D5,D6,D7,AG,AH,AJ,Cy,Cz,CB,CE,CG,D8,D9,Ea,Gz,GA,GC,GD,GF,GG,GH,GI,GJ,GL,GM,GN,GQ,GR],defers:=[]}
inductive PI(f t x r m L k:Nat):Act->Prop
 |mk (u5 u6 u9 sK nW nX mU mA mB u16 lK lL lM lN u23 u24 mY u26 lO u28 lQ lR mC u32 u33 mD mE mF mG mZ m9 nV oU oV pU u44 pV oX oY oZ o6 o7 o8 o9 sH sI ub ud wE wG wH wI wJ wK wL u64 wM wN D5 D6 D7 AG AH AJ Cy Cz CB CE CG D8 D9 Ea Gz GA GC GD GF GG GH GI GJ GL GM GN GQ GR:ay):PI f t x r m L k {tmps:=#[aI (ae ⟨f,0,ah⟩),aI (ae ⟨t,0,ah⟩),aI (ae ⟨x,0,ah⟩),aI (ae ⟨r,0,ah⟩),aI (ae ⟨m,0,ah⟩),u5,u6,aD (ae ⟨L,0,ah⟩) 2 2,aq af k,u9,sK,nW,nX,mU,mA,mB,u16,lK,lL,lM,lN,aq af 2,aq af k,u23,u24,mY,u26,lO,u28,lQ,lR,mC,u32,u33,mD,mE,mF,mG,mZ,m9,nV,oU,oV,pU,u44,pV,oX,oY,oZ,o6,o7,o8,o9,sH,sI,ub,ud,wE,wG,wH,wI,wJ,wK,wL,u64,wM,wN,D5,D6,D7,AG,AH,AJ,Cy,Cz,CB,CE,CG,D8,D9,Ea,Gz,GA,GC,GD,GF,GG,GH,GI,GJ,GL,GM,GN,GQ,GR],defers:=[]}
noncomputable def lY:Code:=(f44.body).getD .skip
noncomputable def ux:Code:=lY.r.r.l.r
noncomputable def pZ:Code:=ux.l.l
noncomputable def aau:Code:=pZ.r.r.l.l
noncomputable def aav:Code:=aau.r.l
def rE(a0 a1:Nat)(hs:List Int):Array ay:=#[aq af a0,aq af (hs.getD 0 0),aq af (bV (hs.getD 0 0)),aq af a1,aq af (hs.getD 1 0),aq af (bV (hs.getD 1 0))]
def NB(L b k:Nat)(wv:Option aP)(cell:Nat):Nat->ay
 |0=>aD (ae ⟨L,0,ah⟩) 2 2
 |1=>aq af k
 |2=>aI (ae ⟨b,0,ah⟩)
 |3=>.pointer wv
 |4=>aD (ae ⟨L,0,ah⟩) 2 2
 |5=>aq af k
 |6=>aI (ae ⟨L,k*3,ah⟩)
 |7=>aI (ae ⟨L,k*3,ah⟩)
 |8=>aq af cell
 |10=>aI (ae ⟨L,k*3,ah⟩)
 |_=>aI (ae ⟨L,k*3+1,ah⟩)
theorem aaw(w1:aj)(hk:k<2):Sem.run aC (Instr.indexAt 122 (aD (ae ⟨L,0,ah⟩) 2 2) (aq af (k:Int))) w1=.ok (aI (ae ⟨L,k*3,ah⟩)) w1:=by
 rcases k with _|_|k
 .kernel_rfl
 .kernel_rfl
 .omega
theorem mv_script{f x r cell:Nat}{G:aj->Prop}(hA:PI f t x r m L k a)(hk:k<2)(hG:∀w,G w->w.cell? ⟨x,0,ah⟩=ae (aI (ae ⟨b,0,ah⟩))/\w.cell? ⟨r,0,ah⟩=ae (.pointer wv)/\w.cell? ⟨L,k*3,ah⟩=ae (aq af cell)){id:Nat}{ops:Array aZ}(cH:aav=.region id ops au):
  ScriptM aC S3 44 ops 9 10 (λi=>25+i) (NB L b k wv cell) G a:=by
 have h7:a.tmps.getD 7 aO=aD (ae ⟨L,0,ah⟩) 2 2:=by cases hA;rfl
 have h8:a.tmps.getD 8 aO=aq af k:=by cases hA;rfl
 have h2:a.tmps.getD 2 aO=aI (ae ⟨x,0,ah⟩):=by cases hA;rfl
 have h3:a.tmps.getD 3 aO=aI (ae ⟨r,0,ah⟩):=by cases hA;rfl
 have hsz:a.tmps.size=95:=by cases hA;rfl
 clear hA;simp only[aav,aau,pZ,ux,lY,f44,Code.l,Code.r,cN,Code.region.injEq]at cH;obtain⟨-,cH,-⟩:=cH;subst cH;refine⟨aN,ai,?_,?_,λi j _ _ h=>by simpa using h,λi hi=>by rw[hsz];omega,?_,?_,λt=>qz,?_,?_,?_,aQ,?_⟩
 .intro i o ho;have hi:=(bF.1 ho).1;simp only[j9,fO,gK]at hi;match i,hi with
  |0,_|1,_|2,_|3,_|4,_|5,_|6,_|7,_|8,_|9,_|10,_|11,_|12,_=>(obtain rfl:=bj ho;simp)
 .intro i o hi ho;match i,hi with
  |0,_|1,_|2,_|3,_|4,_|5,_|6,_|7,_|8,_|9,_=>(obtain rfl:=bj ho;rfl)
 .intro i o hi ho;match i,hi with
  |0,_|1,_|2,_|3,_|4,_|5,_|6,_|7,_|8,_|9,_=>(obtain rfl:=bj ho;rfl)
 .intro i o hi hm ho;match i,hi with
  |9,_=>exact aT rfl hm
  |0,_|1,_|2,_|3,_|4,_|5,_|6,_|7,_|8,_=>(obtain rfl:=bj ho;show iu aC S3 _ _=au;kernel_rfl)
 .intro i o hi ho;match i,hi with
  |0,_|1,_|2,_|3,_|4,_|5,_|6,_|7,_|8,_|9,_=>(obtain rfl:=bj ho;simp[fq])
 .intro i o a' hi hm ho eR dA w hw;obtain⟨g1,g2,g3⟩:=hG w hw;have e7:a'.tmps.getD 7 aO=aD (ae ⟨L,0,ah⟩) 2 2:=by rw[dA 7 (λj hj=>ai)];exact h7
  have e8:a'.tmps.getD 8 aO=aq af k:=by rw[dA 8 (λj hj=>ai)];exact h8
  have e2:a'.tmps.getD 2 aO=aI (ae ⟨x,0,ah⟩):=by rw[dA 2 (λj hj=>ai)];exact h2
  have e3:a'.tmps.getD 3 aO=aI (ae ⟨r,0,ah⟩):=by rw[dA 3 (λj hj=>ai)];exact h3
  refine .inl λτ dd=>?_;have f1:(w.td τ dd).cell? ⟨x,0,ah⟩=_:=g1;have f2:(w.td τ dd).cell? ⟨r,0,ah⟩=_:=g2;have f3:(w.td τ dd).cell? ⟨L,k*3,ah⟩=_:=g3;generalize w.td τ dd=w1 at*;clear dA h7 h8 h2 h3 g1 g2 g3 hG hw;match i,hi with
  |9,_=>exact aT rfl hm
  |0,_|1,_|2,_|3,_|4,_|5,_|6,_|7,_|8,_=>
   obtain rfl:=bj ho
   (try simp[fq,NB]at eR)
   simp[bT,go_sem,cS,dO,NB]at*;simp[*,aaw w1 hk]
 .intro t o ht ho;have hi:=(bF.1 ho).1;simp only[j9,fO,gK]at hi;match t,hi,ht with
  |11,_,_|12,_,_=>(obtain rfl:=bj ho;simp[fq])
 .intro listed hc hd i hi;have c10:=hd _ rfl;clear hc hd;simp[fq]at c10;match i,hi with
  |0,_|1,_|2,_|3,_|4,_|5,_|6,_|7,_|8,_|9,_=>(simp[dO];simp[c10])
end
end Go.Proofs.YtfmibhmknlnoiaaGreat
