import Derived.Test.YtfmibhmknlnoiaaGreatQ00
import Derived.Test.YtfmibhmknlnoiaaGreatQ02
import Derived.Lib.Hide
import Derived.Laws.Pointers
import Derived.OwnWalk
import Derived.Deep.AppendLies
import Derived.Deep.DrawnRows
import Derived.RangeFuncNested
import Derived.RangeFuncBound
import Derived.RangeFuncCalls
import Derived.RangeFuncLeaves
import Derived.RangeFuncBox
import Derived.Shelf.Abstract
import Derived.Shelf.RegionOpen
import Derived.OwnWalkIn
import Derived.TacticsInMore
import Derived.LoopNIn
import Derived.LoopIn
import Derived.OrdersIn
import Derived.Test.YtfmibhmknlnoiaaGreatQ01
import Derived.Conc.LeavingOf
import Derived.JoinedCond
set_option linter.all false
set_option maxRecDepth 100000
set_option maxHeartbeats 4000000
namespace Go.Proofs.YtfmibhmknlnoiaaGreat
open _root_.Go.Proofs.Tryz
open _root_.Option renaming some→ae,none→ah
open _root_.Bool renaming true→au,false→aw
open _root_.Go.Value renaming int→aq,pointer→aI,slice→aD
open _root_.Go.Obj renaming cells→aK
open _root_.Go renaming World→aj,Value→ay,Frame→aB,Goroutine→aY,Program→bh,Oper→aZ,Addr→aP,TypeId→bq,undef→aO,yielded→dW,execOp→bT,Calls→b9,results→eL,stepG→bn,heap_alloc_new→gN,info_parts→kq
open _root_.Go.Conc renaming Deaf_other→ig,crowd→bS
open _root_.Go.ConcR renaming Payload→fQ
open _root_.Go.Proofs.Tryz renaming prog→aC
open _root_.Go.Region renaming wanted→dF,binds→fq,ready→ki
open _root_.Go.World renaming setCell→fF,cell?→fG
open _root_.Go.Act renaming eval→cS
open _root_.Go.Frame renaming enter→gL
open _root_.List renaming replicate→eA,range→dx
open _root_.Go.IntKind renaming i64→af
variable{ι σ α:Type}{x:cT}{a0:Act}{t:Array ay}{C:Checked}{Q:Exit->Act->aj->Prop}{F:Fence}{fr:aB}{fn:Func}{f:FuncId}{p0 y:Int}{J:fM ι}{S:bN}{L:Lay σ}{cs fs:List aB}{ws:List Int}{xs:List ay}{m:Machine}{B Bn Bs N a b c i j n₀ tm:Nat}{q:Nat->Nat}{Pre:Nat->Nat->σ->Prop}{ds:Nat->Option Nat}{qo:Nat->Prop}{vs:Nat->ay}{R:Nat->σ->σ->Prop}{s:OpenSpec}{sl:Option (Nat×Nat)}{p:Pinned}{P:bh}{T:Trace}{v v0:ay}{Post:ay->aj->Prop}{A w' w0:aj}{Q':α->σ->Prop}{I:σ->Prop}{G':σ->σ->Prop}
section
open Go.RowKit
def jS(s o:Nat)(zs:List Int)(w:aj):Prop:=∀i,i<zs.length->w.cell? ⟨s,o+i,ah⟩=ae (aq af (zs.getD i 0))
def pW(z:Int):Prop:=0<=z/\z<=1048575
theorem QT(z:Int)(w:aj)(h:pW z):b9 aC 37 #[aq af z] w λe w'=>e=.returned (.bool aw)/\w=w':=by
 obtain⟨h0,h1⟩:=h;go_enter func37,ntmps37
 go_wp2_with (first|(go_at_call 38;((with_reducible refine(oQ _ _ h0 h1).mono ?_);rintro e w' ⟨rfl,rfl⟩)))
 go_ret
 exact⟨rfl,rfl⟩
theorem U4(z:Int)(w:aj)(h:¬pW z):b9 aC 37 #[aq af z] w λe w'=>e=.returned (.bool au)/\w=w':=by
 have hh:z<0\/1048575<z:=by unfold pW at h;omega
 have H:=aA hh;clear h hh;go_enter func37,ntmps37
 go_wp2_with (first|(go_at_call 38;((with_reducible refine(uM _ _ H.out).mono ?_);rintro e w' ⟨rfl,rfl⟩)))
 go_ret
 exact⟨rfl,rfl⟩
theorem U5(cap:Array ay):∀w,(callFunc 37 cap).run aC w=.ok (.enter 37 cap) w:=λw=>aQ
def afj(zs:List Int)(r:Int):Prop:=(r= -1/\∀i,i<zs.length->pW (zs.getD i 0))\/(∃k:Nat,r=k/\k<zs.length/\¬pW (zs.getD k 0))
def U6(zs:List Int)(w:aj)(e:Ending)(w':aj):Prop:=∃r:Int,e=.returned (aq af r)/\afj zs r/\w=w'
theorem MO(s o cap:Nat)(zs:List Int)(w:aj)(h:jS s o zs w)(hn:zs.length<=1000):b9 aC 78 #[aD (ae ⟨s,o,ah⟩) zs.length cap,.func (.func 37) #[] #[]] w (U6 zs w):=by
 have H:=aA h;clear h;have hcall:=U5;go_enter func78,ntmps78
 go_wp2
 go_loop [8] (λi=>∃k:Nat,k<=zs.length/\i=aq af k/\∀j,j<k->pW (zs.getD j 0)) (λi=>zs.length- (intOf i).toNat)
 case atStart=>exact⟨0,bQ _,rfl,λj hj=>ai⟩
 case round=>
  obtain⟨k,hk,rfl,qp⟩:=hrel;have Hg:=aA qp;clear qp;by_cases hlt:k<zs.length
  .have hc:=H.out k hlt;generalize hz:zs.getD k 0=z at hc;have Hz:=aA hz;clear hz;by_cases hl:pW z
   .have Hl:=aA hl;clear hl;go_wp2_with (first|(go_at_call 37;((with_reducible refine(QT _ _ Hl.out).mono ?_);rintro e w' ⟨rfl,rfl⟩)))
    go_round
    case rel=>exact⟨k+1,ai,fY,λj hj=>by
     by_cases e:j=k
     .subst e;rw[Hz.out];exact Hl.out
     .exact Hg.out j ai⟩
    case measure=>simp[intOf];omega
   .have Hl:=aA hl;clear hl;go_wp2_with (first|(go_at_call 37;((with_reducible refine(U4 _ _ Hl.out).mono ?_);rintro e w' ⟨rfl,rfl⟩)))
    go_ret
    exact⟨k,rfl,.inr ⟨k,rfl,hlt,by rw[Hz.out];exact Hl.out⟩,rfl⟩
  .go_wp2;go_ret
   exact⟨-1,rfl,.inl ⟨rfl,λi hi=>Hg.out i ai⟩,rfl⟩
def pX(zs:List Int):Bool:=zs.all λz=>decide (0<=z/\z<=1048575)
theorem pg(zs:List Int):pX zs=au↔∀i,i<zs.length->pW (zs.getD i 0):=by
 unfold pX pW;rw[iT];constructor
 .intro h i hi;have:=h (zs[i]) (rV hi);simpa[eF,hi]using this
 .intro h z hz;obtain⟨i,hi,rfl⟩:=List.getElem_of_mem hz;have:=h i hi;simpa[eF,hi]using this
theorem vC(s o cap:Nat)(zs:List Int)(w:aj)(h:jS s o zs w)(hn:zs.length<=1000):b9 aC 36 #[aD (ae ⟨s,o,ah⟩) zs.length cap,.func (.func 37) #[] #[]] w λe w'=>e=.returned (.bool (!pX zs))/\w=w':=by
 have H:=aA h;clear h;go_enter func36,ntmps36
 go_wp2_with fail
 refine(MO s o cap zs w H.out hn).mono ?_;rintro e w' ⟨r,rfl,hb,rfl⟩;have hd:decide (0<=r)=!pX zs:=by
  rcases hb with⟨rfl,hg⟩|⟨k,rfl,hk,hg⟩
  .rw[(pg zs).2 hg];rfl
  .have:pX zs=aw:=(by rw[Bool.eq_false_iff];exact λe=>hg ((pg zs).1 e k hk));rw[this];simp
 have Hd:=aA hd;clear hd hb;go_wp2;go_ret
 exact⟨by rw[←Hd.out];rfl,rfl⟩
theorem afk:(prog.info? 115).map (λi=>(i.zero,i.size,i.bytes))=ae (ae (.agg #[aq af 0]),1,8):=aQ
noncomputable def jF(s:ay):Array ay:=Tryz.zeroCells105.setIfInBounds 0 s
theorem Ee(s:ay):(jF s).size=8201:=by rw[jF,zP];exact Tryz.zeroCells105_size
theorem Ef(s:ay):(jF s)[0]? =ae s:=by rw[jF,EH,aX rfl,aX (by rw[Tryz.zeroCells105_size];omega)]
def rZ(zs:List Int):Nat->List Int
 |0=>eA zs.length 0
 |k+1=>(rZ zs k).set k (zs.getD k 0*1099511627776)
theorem ld(zs:List Int)(k:Nat):(rZ zs k).length=zs.length:=by
 induction k with
 |zero=>simp[rZ]
 |succ k ih=>simp[rZ,ih]
theorem QU(zs:List Int)(k i:Nat)(hk:k<=zs.length)(hi:i<zs.length):(rZ zs k).getD i 0=if i<k then zs.getD i 0*1099511627776 else 0:=by
 induction k with
 |zero=>simp[rZ,eF,List.getElem?_replicate,hi]
 |succ k ih=>
  rw[rZ,JK _ _ _ _ (by rw[ld];omega),ih ai];by_cases e:k=i
  .subst e;rw[aX rfl,aX ai]
  .rw[aU e];by_cases h:i<k
   .rw[aX h,aX ai]
   .rw[aU h,aU ai]
def AK(zs:List Int):List Int:=rZ zs zs.length
theorem pK(zs:List Int):(AK zs).length=zs.length:=ld _ _
theorem J6(zs:List Int)(i:Nat)(hi:i<zs.length):(AK zs).getD i 0=zs.getD i 0*1099511627776:=by rw[AK,QU _ _ _ (bJ _) hi,aX hi]
theorem MP(zs:List Int)(h:∀i,i<zs.length->pW (zs.getD i 0)):Words (AK zs):=by intro i hi;rw[pK]at hi;rw[J6 _ _ hi];obtain⟨a,b⟩:=h i hi;omega
structure yY(b c:Nat)(ws:List Int)(w:aj):Prop where
 ne:b≠c
 bb:w.heap[b]? =ae (aK (jF (aD (ae ⟨c,0,ah⟩) ws.length ws.length)) 105 (0,0))
 cc:∃e,w.heap[c]? =ae (aK (ws.map λx=>Value.int .i64 x).toArray e (0,0))
theorem yY.hdr{w:aj}(h:yY b c ws w):w.cell? ⟨b,0,ah⟩=ae (aD (ae ⟨c,0,ah⟩) ws.length ws.length):=by rw[ax h.bb];exact Ef _
theorem yY.word{w:aj}(h:yY b c ws w)(i:Nat)(hi:i<ws.length):w.cell? ⟨c,i,ah⟩=ae (aq af (ws.getD i 0))/\w.frozen? ⟨c,i,ah⟩=aw:=by obtain⟨e,hc⟩:=h.cc;refine⟨?_,aM hc i (bQ _)⟩;rw[ax hc];simp[eF,hi]
theorem yY.set{w:aj}(h:yY b c ws w):yY b c (ws.set i y) (w.setCell ⟨c,i,ah⟩ (aq af y)):=by obtain⟨e,hc⟩:=h.cc;refine⟨h.ne,by rw[r9,az h.ne];exact h.bb,e,?_⟩;rw[aH hc,oF,List.map_set]
def MQ(zs:List Int)(w:aj)(e:Ending)(w':aj):Prop:=e=.returned (.tuple #[aI (ae ⟨w.heap.size+1,0,ah⟩),aq af 0])/\yY (w.heap.size+1) w.heap.size (AK zs) w'/\Below w.heap.size w w'/\w'.heap.size=w.heap.size+2
theorem CR(w:aj)(base:Nat)(t e:bq)(i:TypeInfo)(z:ay)(size:Nat)(ht:P.underlying t=ae (.slice e))(hi:P.info? e=ae i)(hz:i.zero=ae z)(hsize:i.size=size)
  (kl kc:IntKind)(n:Nat)(hbytes:i.bytes*n<=281474976710656)(h63:n<=maxLen)(hbase:base<=w.heap.size):
  ∃w',(Instr.makeSlice t (.int kl (n:Int)) (.int kc (n:Int))).run P w=.ok (aD (ae ⟨w.heap.size,0,ah⟩) n n) w'/\
   w'.ownsRow base e size (aD (ae ⟨w.heap.size,0,ah⟩) n n) n (madeCells z.cells (n*size)).toList/\w.grownBy w' ah/\w'.heap.size=w.heap.size+1:=by
 subst hsize;have ahk:(n:Int)<=9223372036854775807:=by have h:=h63;simp[maxLen]at h;omega
 have hb':(i.bytes:Int) *(n:Int)<=281474976710656:=by have h:((i.bytes*n:Nat):Int)<=281474976710656:=ai;rwa [Int.natCast_mul]at h
 have hr:=run_make (P:=P) w t e i z ht hi hz kl kc n n ai (Int.le_refl _) hb' ahk;simp only[Int.toNat_natCast]at hr;exact⟨_,hr,World.ownsRow_lit w _ n hbase h63 (size_madeCells _ _),World.grownBy_alloc w _ ah,cM _ _⟩
theorem new_few(a:Option aP)(cap:Nat)(w:aj):b9 aC 18 #[aD a 0 cap] w λe w'=>e=.returned (.tuple #[aI ah,aq af 261])/\w=w':=by
 go_enter func18,ntmps18
 go_wp2;go_ret2
 exact⟨rfl,rfl⟩
theorem new_many(a:Option aP)(n cap:Nat)(w:aj)(_h:64<n)(h2:n<=1000):b9 aC 18 #[aD a n cap] w λe w'=>e=.returned (.tuple #[aI ah,aq af 261])/\w=w':=by
 have h1:((n:Int)==0)=aw:=by rw[beq_eq_false_iff_ne];omega
 have h3:decide (64< (n:Int))=au:=dp;go_enter func18,ntmps18
 go_wp2;go_ret2
 exact⟨rfl,rfl⟩
theorem new_value(s o cap:Nat)(zs:List Int)(w:aj)(h:jS s o zs w)(h1:1<=zs.length)(h2:zs.length<=64)(hb:pX zs=aw):b9 aC 18 #[aD (ae ⟨s,o,ah⟩) zs.length cap] w λe w'=>e=.returned (.tuple #[aI ah,aq af 263])/\w=w':=by
 have h3:((zs.length:Int)==0)=aw:=by rw[beq_eq_false_iff_ne];omega
 have h4:decide (64< (zs.length:Int))=aw:=dp;have hc:=vC s o cap zs w h ai;rw[hb]at hc;have Hc:=aA hc;clear h hb hc;go_enter func18,ntmps18
 go_wp2_with (go_at_call 36;refine Hc.out.mono ?_;rintro e w' ⟨rfl,rfl⟩)
 go_ret2
 exact⟨rfl,rfl⟩
theorem new_yes(s o cap:Nat)(zs:List Int)(w:aj)(h:jS s o zs w)(h1:1<=zs.length)(h2:zs.length<=64)(hb:pX zs=au)(hs:s<w.heap.size):b9 aC 18 #[aD (ae ⟨s,o,ah⟩) zs.length cap] w (MQ zs w):=by
 have h3:((zs.length:Int)==0)=aw:=by rw[beq_eq_false_iff_ne];omega
 have h4:decide (64< (zs.length:Int))=aw:=dp;have hc:=vC s o cap zs w h ai;have hl:=(pg zs).1 hb;rw[hb]at hc;obtain⟨ia,hia,za0,za1,za2⟩:=kq afk;obtain⟨w1,hrun,hown,hgrow,DW⟩:=CR (P:=aC) w w.heap.size 95 115 ia _ 1 underlying95 hia za0 za1 .i64 .i64 zs.length (by rw[za2];omega) jk (bJ _);have hb1:Below w.heap.size w w1:=(gw _ _).grown hgrow (bJ _) (λk hk=>J7);have hsz:w.heap.size<w1.heap.size:=(hown.lt w.heap.size rfl).2;have hi1:jS s o zs w1:=λi hi=>(hb1.cell (p:=⟨s,o+i,ah⟩) hs).trans (h i hi);obtain⟨W,hW⟩:∃W,W=w1.alloc (aK (Tryz.zeroCells105.setIfInBounds 0 (aD (ae ⟨w.heap.size,0,ah⟩) zs.length zs.length)) 105):=⟨_,rfl⟩;have bW:W.heap[w1.heap.size]? =ae (aK (jF (aD (ae ⟨w.heap.size,0,ah⟩) zs.length zs.length)) 105 (0,0)):=by rw[hW];show(w1.heap.push _)[w1.heap.size]? =_;rw[dz,aX rfl];rfl
 have cW:∀i,W.cell? ⟨w1.heap.size,i,ah⟩=(jF (aD (ae ⟨w.heap.size,0,ah⟩) zs.length zs.length))[i]? :=λi=>by simp[fG,bW]
 have fW:∀i,W.frozen? ⟨w1.heap.size,i,ah⟩=aw:=λi=>by simp[World.frozen?,bW]
 have kW:Below w.heap.size w W:=by rw[hW];exact hb1.alloc ai _
 have iW:jS s o zs W:=λi hi=>by rw[hW,qs _ _ _ (by show s<_;omega)];exact hi1 i hi
 have jW:yY w1.heap.size w.heap.size (rZ zs 0) W:=by
  refine⟨ai,by rw[ld];exact bW,115,?_⟩;rcases hown.2 with⟨h,_⟩|⟨g,cap',cur,heq,_,hb',_,_,hcs,U7⟩
  .cases h
  .cases heq;have e:(madeCells (Value.agg #[aq af 0]).cells (zs.length*1)).toList=eA (zs.length*1) (aq af 0):=toList_madeCells_one _ _;rw[e,List.take_of_length_le (by simp only[Array.length_toList];omega)]at U7;rw[hW];show(w1.heap.push _)[w.heap.size]? =_;rw[dz,aU ai,hb'];congr 2;rw[←Array.toList_inj,U7];simp[rZ]
 have sW:W.heap.size=w.heap.size+2:=by rw[hW,cM,DW]
 have HsW:=aA sW;have HW:=aA jW;have Hc:=aA hc;have HkW:=aA kW;have HiW:=aA iW;have Hl:=aA hl;have HWe:=aA hW;have Hi:=aA h;have ahl:=aA DW;clear h hb hc hl hown hgrow hb1 hi1 bW cW fW kW iW jW hW sW DW;go_enter func18,ntmps18
 go_wp2_with (go_at_call 36;refine Hc.out.mono ?_;rintro e w' ⟨rfl,rfl⟩)
 rw[←HWe.out];go_loopw [28] (λi wr=>∃k:Nat,k<=zs.length/\i=aq af k/\yY w1.heap.size w.heap.size (rZ zs k) wr/\Below w.heap.size w wr/\wr.heap.size=w.heap.size+2) (λi _=>zs.length- (intOf i).toNat)
 case atStart=>exact⟨0,bQ _,rfl,HW.out,HkW.out,HsW.out⟩
 case round=>
  obtain⟨k,hk,rfl,hj,hkp,hsw⟩:=hrel;have Hsw:=aA hsw;clear hsw;by_cases hlt:k<zs.length
  .have hc:=(hkp.cell (p:=⟨s,o+k,ah⟩) hs).trans (Hi.out k hlt);obtain⟨g0,g1⟩:=Hl.out k hlt;generalize hz:zs.getD k 0=z at*;have Lx:k< (rZ zs k).length:=(by rw[ld];exact hlt);have hdr:=hj.hdr;rw[ld]at hdr;obtain⟨hck,hfk⟩:=hj.word k Lx;have ahm:=aA (hj.set (i:=k) (y:=z*1099511627776));have Hz:=aA hz;have Hj:=aA hj;have Z4:=aA hkp;have Hck:=aA hck;clear hj hkp Lx hz hck;go_wp2_with (first|(go_at_call 39;((with_reducible refine(Qt _ _ g0 g1).mono ?_);rintro e w' ⟨rfl,rfl⟩))|(go_at_call 40;refine(UA _ _ _ _ _ Hck.out hfk).mono ?_;rintro e w' ⟨rfl,rfl⟩))
   go_roundw
   case rel=>refine⟨k+1,ai,fY,?_,Z4.out.setCell (bJ _) _,by rw[←Hsw.out];simp[fF]⟩;have:=ahm.out;rw[←Hz.out]at this⊢;exact this
   case measure=>simp[intOf];omega
  .have:k=zs.length:=ai;subst this;go_wp2;go_ret2
   have h1:=ahl.out;rw[h1]at hj⊢;exact⟨rfl,hj,hkp,Hsw.out⟩
end
section
open Go.RowKit Go.Shelf
attribute [local go_sem] Oper.semAt_some
def gZ:List cT->List ay
 |[]=>[]
 |e::r=>aq af e.c:: aq af e.o:: aq af e.n::gZ r
def uV(e:cT):ay:=.agg #[aq af e.c,aq af e.o,aq af e.n]
theorem vD(l m:List cT):gZ (l++m)=gZ l++gZ m:=by
 induction l with
 |nil=>rfl
 |cons e r ih=>simp[gZ,ih]
theorem CS(es:List cT):∀k,k<es.length->(gZ es)[k*3]? =ae (aq af (es[k]!).c)/\(gZ es)[k*3+1]? =ae (aq af (es[k]!).o)/\(gZ es)[k*3+2]? =ae (aq af (es[k]!).n):=by
 induction es with
 |nil=>intro k hk;simp at hk
 |cons e r ih=>
  intro k hk;cases k with
  |zero=>simp[gZ]
  |succ k=>have:=ih k (by simpa using hk);rw[show(k+1) *3=k*3+3 by omega];simpa[gZ]using this
def fB(s o:Nat)(es:List cT)(w:aj):Prop:=∀k,k<es.length->w.cell? ⟨s,o+k*3,ah⟩=ae (aq af (es[k]!).c)/\w.cell? ⟨s,o+k*3+1,ah⟩=ae (aq af (es[k]!).o)/\w.cell? ⟨s,o+k*3+2,ah⟩=ae (aq af (es[k]!).n)
theorem fB.of_block{s o:Nat}{es:List cT}{w:aj}(h:fB s o es w)(hb:w'.heap[s]? =w.heap[s]?):fB s o es w':=λk hk=>by have e:∀q,w'.cell? ⟨s,q,ah⟩=w.cell? ⟨s,q,ah⟩:=λq=>dr hb;rw[e,e,e];exact h k hk
theorem MS(F:Fence)(n:Nat)(h7:F.fn 92)(hro:F.round=ah)(hn:1<=n)(l Bs n₀ b off cap:Nat)(zs:List cT)(hlen:zs.length<=1000)(hb:b<n₀)(J Jx:List cT->aj->Prop)
  (W:aj)(hJa:AbidesFrom W.heap.size J)(afl:n₀<=W.heap.size)
  (hY:∀pre x W,J pre W->pre.length<zs.length->YieldAt F (n-1) aC l #[uV x] W λe W'=>(e=.returned (.bool au)/\J (pre++[x]) W'/\Below n₀ W W')\/(e=.returned (.bool aw)/\Jx (pre++[x]) W'))
  (hBs:W.cell? ⟨Bs,0,ah⟩=ae (aD (ae ⟨b,off,ah⟩) zs.length cap))(hc:fB b off zs W)(h0:J [] W):
  CallsIn F n aC 92 #[.func (.yield l) #[] #[],aI (ae ⟨Bs,0,ah⟩)] W λe W'=>(∃v,e=.returned v)/\
   ((∃ys,ys=zs/\J ys W')\/(∃pre,pre <+: zs/\Jx pre W')):=by
 have Hc:=aA hc;have HJa:=aA hJa;clear hc hJa;refine callsIn_of_wp func92 rfl h7 ?_ hro;simp only[ntmps92,j9,fO,gK,Nat.reduceAdd,Nat.reduceSub,Array.replicate_succ,Array.replicate_zero,List.push_toArray,List.append_toArray,kU,jZ]
 gi_wp2
 gi_loopw [7] (λi wr=>∃k:Nat,k<=zs.length/\i=aq af k/\J (zs.take k) wr/\Below n₀ W wr/\W.heap.size<=wr.heap.size)
  (λi _=>zs.length- (intOf i).toNat)
 case atStart=>exact⟨0,bQ _,rfl,h0,gw _ _,bJ _⟩
 case round=>
  obtain⟨k,hk,rfl,hJs,Iq,hsz⟩:=hrel;by_cases hlt:k<zs.length
  .obtain⟨c1,c2,c3⟩:=Hc.out k hlt;have c1:=(Iq.cell (p:=⟨b,off+k*3,ah⟩) hb).trans c1;have c2:=(Iq.cell (p:=⟨b,off+k*3+1,ah⟩) hb).trans c2;have c3:=(Iq.cell (p:=⟨b,off+k*3+2,ah⟩) hb).trans c3;have Z5:=HJa.out (zs.take k) wr _ ah hJs (World.grownBy_alloc wr (aK #[aq af (zs[k]!).c,aq af (zs[k]!).o,aq af (zs[k]!).n] 65) ah) (λr e=>by cases e);have hY1:=hY _ (zs[k]!) _ Z5 (by rw[List.length_take];omega);have J8:zs.take (k+1)=zs.take k++[zs[k]!]:=(by rw[J9 hlt];simp[hlt]);generalize hx:zs[k]! =x at*;obtain⟨xc,xo,xn⟩:=x;have HY:=aA hY1;have Hs:=aA J8;clear hY1 Z5 J8 hx;dsimp only at c1 c2 c3;obtain⟨fn,tmps,assign,body,hy,hR⟩:=HY.out;dsimp only[uV]at hy
   gi_wp2
   refine hR.mono ?_;rintro e W3 (⟨rfl,hJ3,hk3⟩|⟨rfl,Z6⟩)
   .have hs3:=hk3.size;rw[cM]at hs3;have hb3:Below n₀ W W3:=(Iq.alloc ai _).trans hk3;have hJ4:J (zs.take (k+1)) W3:=(by rw[Hs.out];exact hJ3);clear hJ3 hk3 hJs
    gi_wp2
    go_roundw
    case rel=>exact⟨k+1,ai,aJ,hJ4,hb3,ai⟩
    case measure=>simp[intOf];omega
   .gi_wp2
    refine bodyPost_ret (results_none rfl _ _ _) rfl ?_;exact⟨⟨_,rfl⟩,.inr ⟨_,by rw[←Hs.out];exact List.take_prefix _ _,Z6⟩⟩
  .obtain rfl:k=zs.length:=ai
   gi_wp2
   go_end0
   rw[List.take_length]at hJs;exact⟨⟨_,rfl⟩,.inl ⟨_,rfl,hJs⟩⟩
theorem values_stops(F:Fence)(n:Nat)(h7:F.fn 92)(hro:F.round=ah)(hn:1<=n)(Bs n₀ b off cap:Nat)(zs:List cT)(hlen:zs.length<=1000)(w:aj)(hBs:Bs<w.heap.size)(afl:n₀<=w.heap.size)(hb:b<n₀)
  (hc:w.cell? ⟨Bs,0,ah⟩=ae (aD (ae ⟨b,off,ah⟩) zs.length cap))(hI:fB b off zs w):
  SeqStopsK F n aC 92 #[aI (ae ⟨Bs,0,ah⟩)] (λx:cT=> #[uV x]) (Below n₀) (λys=>ys=zs) (λpre=>pre <+: zs) zs.length w:=λl J Jx W hW hJ _ hY h0=>by
 have hc':=(hW.cell (p:=⟨Bs,0,ah⟩) hBs).trans hc;exact MS F n h7 hro hn l Bs n₀ b off cap zs hlen hb J Jx W hJ (by have:=hW.size;omega) hY hc' (hI.of_block (hW.block b ai)) h0
theorem MT:(prog.info? 65).map (λi=>(i.zero,i.size,i.bytes))=ae (ae (.agg #[aq af 0,aq af 0,aq af 0]),3,24):=aQ
def SeqI(n₀ Bs:Nat)(w:aj)(pre:List cT)(W:aj):Prop:=(∃v,Boxed W Bs 66 v/\W.ownsRow n₀ 65 3 v pre.length (gZ pre))/\Below n₀ w W
theorem seqI_own(n₀ Bs B:Nat)(w:aj)(hB:n₀<=B)(hw:n₀<=w.heap.size):OwnFrom B (SeqI n₀ Bs w):=λpre W W' row ⟨⟨v,hb,ho⟩,dQ⟩ hg hr=>by
 refine⟨⟨v,hb.kept hg (λe=>?_),ho.kept hg ?_⟩,dQ.grown hg (by have:=dQ.size;omega) (λk e=>by have:=(hr k e).1;omega)⟩
 .obtain⟨_,o,h1,h2⟩:=hr Bs e.symm;rw[show W.heap[Bs]? =_ from hb]at h1;cases h1;cases h2
 .rcases ho.2 with⟨rfl,_⟩|⟨g,cap,cur,rfl,_,hgb,_⟩
  .exact .inl rfl
  .refine .inr (λe=>?_);obtain⟨_,o,h1,h2⟩:=hr g e.symm;rw[hgb]at h1;cases h1;cases h2
def LoopVar(sq:ay)(Bs:Nat)(x:cT)(a':Act)(W:aj):Prop:=
 ∃Bx,Bs<Bx/\W.heap[Bx]? =ae (aK #[aq af x.c,aq af x.o,aq af x.n] 65 (0,0))/\
  a'={tmps:=#[aD ah 0 0,sq,aI (ae ⟨Bs,0,ah⟩),aO,aD ah 0 0,aI (ae ⟨Bx,0,ah⟩),sq,uV x,aO,aO,aO,aO,aO],defers:=[]}
theorem loopVar_own(sq:ay)(Bs B:Nat)(x:cT)(a':Act):OwnFrom B (λ(_:Unit) W=>LoopVar sq Bs x a' W):=λ_ W W' row ⟨Bx,h1,h2,h3⟩ hg hr=>by
 refine⟨Bx,h1,?_,h3⟩;rw[hg.block Bx (bF.1 h2).1 (λe=>?_)]
 .exact h2
 .obtain⟨_,o,k1,k2⟩:=hr Bx e.symm;rw[h2]at k1;cases k1;cases k2
def U8(n₀:Nat)(es:List cT)(w:aj)(e:Ending)(w':aj):Prop:=∃v,e=.returned v/\w'.ownsRow n₀ 65 3 v es.length (gZ es)/\Below n₀ w w'
theorem appendSeq_in(F:Fence)(n:Nat)(h50:F.fn 92)(h64:F.fn 136)(hro:F.round=ah)(hn:4<=n)(Bv b off cap:Nat)(es:List cT)(hlen:es.length<=1000)(w:aj)
  (hc:w.cell? ⟨Bv,0,ah⟩=ae (aD (ae ⟨b,off,ah⟩) es.length cap))(hI:fB b off es w)(hbl:b<w.heap.size):
  CallsIn F n aC 136 #[aD ah 0 0,.func (.func 92) #[] #[aI (ae ⟨Bv,0,ah⟩)]] w (U8 w.heap.size es w):=by
 have h1:1<=n:=ai;have hBv:=ez w _ hc;dsimp only at hBv;obtain⟨ie,Dk,Ir,Iu,Iw⟩:=kq MT;refine callsIn_of_wp_marks func136 rfl h64 ?_ hro;simp only[ntmps136,j9,fO,gK,Nat.reduceAdd,Nat.reduceSub,Array.replicate_succ,Array.replicate_zero,List.push_toArray,List.append_toArray,kU,jZ]
 gi_wp2
 have bB:=Boxed.new w 66 (aD ah 0 0);have hB0:Below w.heap.size w (w.alloc (aK #[aD ah 0 0] 66)):=(gw _ w).alloc (bJ _) _;have hsz:(w.alloc (aK #[aD ah 0 0] 66)).heap.size=w.heap.size+1:=aJ;have hc':(w.alloc (aK #[aD ah 0 0] 66)).cell? ⟨Bv,0,ah⟩=ae (aD (ae ⟨b,off,ah⟩) es.length cap):=(qs w _ _ hBv).trans hc;have hI':fB b off es (w.alloc (aK #[aD ah 0 0] 66)):=hI.of_block (gT _ _ _ hbl);obtain⟨W0,hW0⟩:∃W0,w.alloc (aK #[aD ah 0 0] 66)=W0:=⟨_,rfl⟩;rw[hW0]at bB hB0 hsz hc' hI'⊢;clear hW0 hc hI;refine wpIn_rangeFunc_ownH hro h1 (gf:=92) (lb:=#[aI (ae ⟨Bv,0,ah⟩)]) rfl h50 (enters_of func92 aQ rfl)
  (values_stops F (n-1) h50 hro ai Bv w.heap.size b off cap es hlen W0 ai ai hbl hc' hI') belowK_t (belowK_b ai) (gw _ _) (λ_=>rfl)
  (SeqI w.heap.size w.heap.size w)
  (λ_ _ _=>False)
  (seqI_own _ _ _ _ ai (bJ _))
  (λ_ _ _ _ _ hs _ _=>hs)
  ⟨⟨_,bB,pL _ _ _ _⟩,hB0⟩
  (LoopVar (.func (.func 92) #[] #[aI (ae ⟨Bv,0,ah⟩)]) w.heap.size)
  (loopVar_own _ _ _)
  ?assign ?body ?done ?stop
 case assign=>
  rintro l pre x W K hi hK;have hBW:=hi.2.size;have hlt:=hi.1.choose_spec.1.lt;dsimp only[uV]
  gi_wp2
  exact hK _ _ ((KeepsOthers.alloc _ _).from _) ((gw _ W).alloc hBW _) ((seqI_own _ _ W0.heap.size w ai (bJ _)).alloc _ hi) ⟨W.heap.size,hlt,World.alloc_heap_new W _,rfl⟩
 case body=>
  rintro l pre x a' W hl ⟨r,hr⟩ ⟨⟨v,hv,hrow⟩,dQ⟩ ⟨Bx,hBx,bX,rfl⟩ hlt;have hc1:=hv.cell;have hf1:=hv.frozen;have hBW:=dQ.size;have x0:W.cell? ⟨Bx,0,ah⟩=ae (aq af x.c):=by simp[fG,bX]
  have x1:W.cell? ⟨Bx,1,ah⟩=ae (aq af x.o):=by simp[fG,bX]
  have x2:W.cell? ⟨Bx,2,ah⟩=ae (aq af x.n):=by simp[fG,bX]
  have hvl:=hv.lt;obtain⟨xc,xo,xn⟩:=x;dsimp only at x0 x1 x2;dsimp only[uV];have OV:∀o,(W.alloc o).cell? ⟨w.heap.size,0,ah⟩=ae v:=λo=>(qs W o _ hvl).trans hc1;have uU:=aA hrow;have Hv:=aA hv;have jm:=aA dQ;clear hr hv dQ hrow bX
  gi_wp2_with (gi_at_builtin;refine wpListIn_append_own _ rfl (.tmp 8) (.tmp 10) 66 rfl w.heap.size 65 ie _ 3 24 underlying66 Dk Ir Iu Iw rfl aN v pre.length (gZ pre) rfl (uU.out.alloc _) ⟨W.heap.size,0,ah⟩ 1 1 [aq af xc,aq af xo,aq af xn] rfl rfl (pd (cs:=#[aq af xc,aq af xo,aq af xn]) (t:=65) (fr:=(0,0)) (gN W _)) pI jk ai dp ?_;intro v' w1 hown' hgrow _;obtain⟨g',cap',rfl⟩:=ownsRow_succ hown';obtain⟨hv1,hv2,hr2,hk2,hb2⟩:=Hv.out.appended aN uU.out hBW (bJ _) hown' hgrow;have hd1:=hv1.cell;have he1:=hv1.frozen)
  refine⟨hk2.from _,hb2,⟨_,hv2,?_⟩,jm.out.trans hb2⟩;rw[vD];simpa[gZ]using hr2
 case done=>
  rintro D ys W hD rfl ⟨⟨v,hv,hrow⟩,dQ⟩ hK;have hc1:=hv.cell
  gi_wp2
  refine⟨aJ,.inl ⟨_,_,rfl,run_takeDeferred hK,?_⟩⟩;refine⟨_,Go.results_tmp rfl _ _ _,_,rfl,ownsRow_putObj hrow _ hK rfl,dQ.trans (belowK_b (w:=w) (bJ _) W D _ _ ai hK rfl rfl)⟩
 case stop=>rintro D c pre W _ _ h _;exact h.elim
end
section
open Go.RowKit
attribute [local go_sem ↓] Go.wp_at_zero Go.wp_at_succ
theorem yZ(x:Int)(w:aj):b9 aC 93 #[aq af x] w λe w'=>e=.returned (.bool aw)/\w=w':=by
 go_enter func93,ntmps93
 go_wp2;go_ret
 exact⟨rfl,rfl⟩
def Eg(a b:Int):Int:=if a<b then -1 else if b<a then 1 else 0
theorem Ka(a b:Int)(w:aj):b9 aC 52 #[aq af a,aq af b] w λe w'=>e=.returned (aq af (Eg a b))/\w=w':=by
 by_cases h1:a<b
 .have e:Eg a b= -1:=by unfold Eg;rw[aX h1]
  rw[e];clear e;have hd:decide (a<b)=au:=nG;go_enter func52,ntmps52
  go_wp2_with (first|(go_at_call 93;((with_reducible refine(yZ _ _).mono ?_);rintro e w' ⟨rfl,rfl⟩)))
  go_ret
  exact⟨rfl,rfl⟩
 .by_cases h2:b<a
  .have e:Eg a b=1:=(by unfold Eg;rw[aU h1,aX h2]);rw[e];clear e;have hd:decide (a<b)=aw:=nG;have Il:decide (b<a)=au:=rW;go_enter func52,ntmps52
   go_wp2_with (first|(go_at_call 93;((with_reducible refine(yZ _ _).mono ?_);rintro e w' ⟨rfl,rfl⟩)))
   go_ret
   exact⟨rfl,rfl⟩
  .have e:Eg a b=0:=(by unfold Eg;rw[aU h1,aU h2]);rw[e];clear e;have hd:decide (a<b)=aw:=nG;have Il:decide (b<a)=aw:=rW;go_enter func52,ntmps52
   go_wp2_with (first|(go_at_call 93;((with_reducible refine(yZ _ _).mono ?_);rintro e w' ⟨rfl,rfl⟩)))
   go_ret
   exact⟨rfl,rfl⟩
def Fe(x y:cT)(w:aj):aj:=(w.alloc (aK #[aq af x.c,aq af x.o,aq af x.n] 65)).alloc (aK #[aq af y.c,aq af y.o,aq af y.n] 65)
theorem Kb(x y:cT)(w:aj):b9 aC 51 #[uV x,uV y] w λe w'=>e=.returned (aq af (Eg x.c y.c))/\Fe x y w=w':=by
 unfold uV Fe;go_enter func51,ntmps51
 go_wp2_with (first|(go_at_call 52;((with_reducible refine(Ka _ _ _).mono ?_);rintro e w' ⟨rfl,rfl⟩)))
 go_ret
 exact⟨rfl,rfl⟩
theorem Z7(cap:Array ay):∀w,(callFunc 51 cap).run aC w=.ok (.enter 51 cap) w:=λw=>aQ
structure xU(g:Nat)(es:List cT)(w:aj):Prop where
 ent:fB g 0 es w
 frz:∀i,i<es.length*3->w.frozen? ⟨g,i,ah⟩=aw
theorem xU.of_block{g:Nat}{es:List cT}{w:aj}(h:xU g es w)(hb:w'.heap[g]? =w.heap[g]?):xU g es w':=⟨h.ent.of_block hb,λi hi=>(World.frozen?_of_block (w:=w) hb).trans (h.frz i hi)⟩
def y6(g i:Nat)(x:cT)(w:aj):aj:=((w.setCell ⟨g,i*3,ah⟩ (aq af x.c)).setCell ⟨g,i*3+1,ah⟩ (aq af x.o)).setCell ⟨g,i*3+2,ah⟩ (aq af x.n)
theorem ru (es:List cT)(i k:Nat)(x:cT)(hi:i<es.length):(es.set i x)[k]! =if i=k then x else es[k]! :=by
 simp only[List.getElem!_eq_getElem?_getD,List.getElem?_set];split
 .subst_vars;simp[hi]
 .rfl
theorem xU.put{g:Nat}{es:List cT}{w:aj}(h:xU g es w)(hi:i<es.length):xU g (es.set i x) (y6 g i x w):=by
 have ne:∀p q:Nat,p≠q->(⟨g,p,ah⟩:aP)≠⟨g,q,ah⟩:=λp q hpq e=>hpq (by cases e;rfl);refine⟨λk hk=>?_,λj hj=>?_⟩
 .rw[r9]at hk;obtain⟨a,b,c⟩:=h.ent k hk;obtain⟨a',b',c'⟩:=h.ent i hi;simp only[eB]at a b c a' b' c'⊢;rw[ru _ _ _ _ hi];unfold y6;by_cases e:i=k
  .subst e;rw[aX rfl];refine⟨?_,?_,?_⟩
   .rw[sQ _ _ _ _ (ne _ _ ai),sQ _ _ _ _ (ne _ _ ai)];exact World.cell?_setCell_same _ _ _ a
   .rw[sQ _ _ _ _ (ne _ _ ai)];exact World.cell?_setCell_same _ _ _ ((sQ _ _ _ _ (ne _ _ ai)).trans b)
   .exact World.cell?_setCell_same _ _ _ ((sQ _ _ _ _ (ne _ _ ai)).trans ((sQ _ _ _ _ (ne _ _ ai)).trans c))
  .rw[aU e];refine⟨?_,?_,?_⟩ <;>rw[sQ _ _ _ _ (ne _ _ ai),sQ _ _ _ _ (ne _ _ ai),sQ _ _ _ _ (ne _ _ ai)] <;>assumption
 .rw[r9]at hj;unfold y6;rw[World.frozen?_setCell,World.frozen?_setCell,World.frozen?_setCell];exact h.frz j hj
theorem Keep.y6{g:Nat}{a w:aj}(h:Keep (· =g) B a w):Keep (· =g) B a (y6 g i x w):=((h.setCell (.inl rfl) _).setCell (.inl rfl) _).setCell (.inl rfl) _
def key(es:List cT)(p:Nat):Int:=(es[p]!).c
def kr(es:List cT)(a b:Nat):Prop:=∀p q,a<=p->p<q->q<b->key es p<=key es q
def rz(es es':List cT)(a b:Nat):Prop:=es'.length=es.length/\∀p,(p<a\/b<=p)->es'[p]! =es[p]!
def pM(es:List cT)(j:Nat):List cT:=(es.set (j+1) (es[j]!)).set j (es[j+1]!)
theorem Gv(es:List cT)(j:Nat):(pM es j).length=es.length:=by simp[pM]
theorem uQ(es:List cT)(j p:Nat)(hj:j+1<es.length):(pM es j)[p]! =if p=j then es[j+1]! else if p=j+1 then es[j]! else es[p]! :=by
 rw[pM,ru _ _ _ _ dp,ru _ _ _ _ hj];by_cases e:p=j
 .subst e;rw[aX rfl,aX rfl]
 .rw[aU (bZ e),aU e];by_cases e2:p=j+1
  .subst e2;simp
  .rw[aU (bZ e2),aU e2]
theorem MU(es:List cT)(j:Nat)(hj:j+1<es.length):(pM es j).Perm es:=by
 have h1:es[j]! =es[j]:=by simp[show j<es.length by omega]
 have h2:es[j+1]! =es[j+1]:=by simp[hj]
 unfold pM;rw[h1,h2];exact List.set_set_perm ai ai
def CU(es:List cT)(a i j:Nat):Prop:=∀p q,a<=p->p<q->q<=i->q≠j->key es p<=key es q
theorem Gw{es:List cT}(h:kr es a i):CU es a i i:=λp q h1 h2 h3 h4=>h p q h1 h2 ai
theorem Ff(es:List cT)(j:Nat)(hj:j+1<es.length):key (pM es j) j=key es (j+1):=by unfold key;rw[uQ _ _ _ hj,aX rfl]
theorem Fg(es:List cT)(j:Nat)(hj:j+1<es.length):key (pM es j) (j+1)=key es j:=by unfold key;rw[uQ _ _ _ hj,aU ai,aX rfl]
theorem y7(es:List cT)(j p:Nat)(hj:j+1<es.length)(h1:p≠j)(h2:p≠j+1):key (pM es j) p=key es p:=by unfold key;rw[uQ _ _ _ hj,aU h1,aU h2]
theorem Kc{es:List cT}(h:CU es a i (j+1))(hj:a<=j)(OY:j+1<=i)(hi:i<es.length)(hlt:key es (j+1) <key es j):CU (pM es j) a i j:=by
 intro p q h1 h2 h3 h4;have hl:j+1<es.length:=ai;by_cases hq:q=j+1
 .subst hq;rw[Fg _ _ hl];by_cases hp:p=j
  .subst hp;rw[Ff _ _ hl];omega
  .rw[y7 _ _ _ hl hp ai];exact h p j h1 ai ai ai
 .rw[y7 _ _ _ hl h4 hq];by_cases hp:p=j
  .subst hp;rw[Ff _ _ hl];exact h (p+1) q ai ai h3 hq
  .by_cases AO:p=j+1
   .subst AO;rw[Fg _ _ hl];exact h j q hj ai h3 hq
   .rw[y7 _ _ _ hl hp AO];exact h p q h1 h2 h3 hq
theorem CV{es:List cT}(h:CU es a i j)(hj:j=a\/∃m,j=m+1/\a<=m/\key es m<=key es j):kr es a (i+1):=by
 intro p q h1 h2 h3;by_cases hq:q=j
 .subst hq;rcases hj with rfl|⟨m,rfl,hm,hk⟩
  .omega
  .by_cases hp:p=m
   .subst hp;exact hk
   .have:=h p m h1 ai ai ai;omega
 .exact h p q h1 h2 ai hq
structure Part(g a b:Nat)(es:List cT)(w:aj)(es':List cT)(w':aj):Prop where
 row:xU g es' w'
 perm:es'.Perm es
 same:rz es es' a b
 keep:Keep (· =g) w.heap.size w w'
theorem rz.refl(es:List cT)(a b:Nat):rz es es a b:=⟨rfl,λ_ _=>rfl⟩
theorem rz.swap{es es':List cT}(h:rz es es' a b)(hj:a<=j)(hb:j+1<b)(hl:b<=es.length):rz es (pM es' j) a b:=⟨by rw[Gv];exact h.1,λp hp=>by rw[uQ _ _ _ (by rw[h.1];omega),aU ai,aU ai];exact h.2 p hp⟩
def MV(g a b:Nat)(es:List cT)(w:aj)(e:Ending)(w':aj):Prop:=e=.returned (.tuple #[])/\∃es',Part g a b es w es' w'/\kr es' a b
theorem Eh(g cap a b:Nat)(es:List cT)(w:aj)(h:xU g es w)(hab:a<=b)(hb:b<=es.length)(hl:es.length<=1000)(hg:g<w.heap.size):
  b9 aC 156 #[aD (ae ⟨g,0,ah⟩) es.length cap,aq af a,aq af b,.func (.func 51) #[] #[]] w (MV g a b es w):=by
 have H:=aA h;have hcall:=Z7;clear h;go_enter func156,ntmps156
 go_wp2;go_loopw [8] (λi wr=>∃k es',i=aq af ((k:Nat):Int)/\a+1<=k/\(k<=b\/k=a+1)/\Part g a b es w es' wr/\kr es' a k) (λi _=>b- (intOf i).toNat)
 case atStart=>exact⟨a+1,es,fY,bJ _,.inr rfl,⟨H.out,List.Perm.refl _,rz.refl _ _ _,Keep.refl _ _ _⟩,λp q h1 h2 h3=>ai⟩
 case round=>
  obtain⟨k,es',rfl,hka,hkb,U9,Fh⟩:=hrel;by_cases hlt:k<b
  .obtain⟨wo,rfl⟩:∃wo:aj,wo=wr:=⟨_,rfl⟩;have Hp:=aA U9;have Hs:=aA Fh;clear U9 Fh;go_wp2;go_loopw [9] (λjv wi=>∃j Pe,jv=aq af ((j:Nat):Int)/\a<=j/\j<=k/\Part g a b es w Pe wi/\CU Pe a k j) (λj _=>(intOf j).toNat)
   case atStart=>exact⟨k,es',rfl,ai,bJ _,Hp.out,Gw Hs.out⟩
   case round=>
    clear Hp Hs;obtain⟨j,Pe,rfl,hja,hjk,AO,hn2⟩:=hrel;have hl2:=AO.same.1;by_cases hj:a<j
    .obtain⟨m,rfl⟩:∃m,j=m+1:=⟨j-1,ai⟩;obtain⟨x0,x1,x2⟩:=AO.row.ent (m+1) ai;obtain⟨y0,y1,y2⟩:=AO.row.ent m ai;simp only[eB]at x0 x1 x2 y0 y1 y2;generalize hx:Pe[m+1]! =x at*;generalize hy:Pe[m]! =y at*;obtain⟨xc,xo,xn⟩:=x;obtain⟨yc,yo,yn⟩:=y;dsimp only at x0 x1 x2 y0 y1 y2;have Hx:=aA hx;have Hy:=aA hy;have Fi:=aA AO;have Hn2:=aA hn2;have S9:=aA hl2;clear hx hy AO hn2 hl2;have hd:decide ((a:Int) < (m:Int) +1)=au:=dp;have b0:(0:Int)<=(m:Int):=ai;have b2:(0:Int)<=(m:Int) +1:=ai;have b1:(m:Int) +1< (es.length:Int):=ai;have b3:(m:Int) < (es.length:Int):=ai;have hwm:IntKind.i64.wrap (m:Int)=m:=(by rw[gq];omega);have hgi:g<wr.heap.size:=(by have:=Fi.out.keep.size;omega);go_wp2_with fail
     by_cases OI:xc<yc;all_goals
      have hcm:decide (Eg xc yc<0)=decide (xc<yc):=by
       unfold Eg;by_cases h1:xc<yc
       .rw[aX h1];simp[h1]
       .rw[aU h1];by_cases h2:yc<xc
        .rw[aX h2];simp[h1];
        .rw[aU h2];simp[h1]
     .have acQ:decide (xc<yc)=au:=(by simpa using OI);rw[acQ]at hcm;refine bt.start (λw'=>w'.cell? ⟨g,(m+1) *3,ah⟩=ae (aq af xc)/\w'.cell? ⟨g,(m+1) *3+1,ah⟩=ae (aq af xo)/\w'.cell? ⟨g,(m+1) *3+2,ah⟩=ae (aq af xn)/\w'.cell? ⟨g,m*3,ah⟩=ae (aq af yc)/\w'.cell? ⟨g,m*3+1,ah⟩=ae (aq af yo)/\w'.cell? ⟨g,m*3+2,ah⟩=ae (aq af yn)) [14] aQ ?_ (λaF=>?_)
      .first|exact mI|((try dsimp only);exact⟨x0,x1,x2,y0,y1,y2⟩)
      refine bt.tv 0 aF ?_;refine bt.tv 1 aF ?_;refine bt.tv 2 aF ?_;refine bt.tv 3 aF ?_;refine bt.tv 4 aF ?_;refine bt.tv 5 aF ?_;refine bt.tv 6 aF ?_;refine bt.tv 7 aF ?_;refine bt.tt 8 aF ?_;refine bt.tv 9 aF ?_;refine bt.tv 10 aF ?_;refine bt.tv 11 aF ?_;refine bt.tv 12 aF ?_;refine bt.tt 13 aF ?_;refine bt.to 14 (λK hK=>?_)
      (go_simp;refine(Kb ⟨xc,xo,xn⟩ ⟨yc,yo,yn⟩ _).mono ?_;rintro e w4 ⟨rfl,hw4⟩;have Hw4:=aA hw4;clear hw4;dsimp only)
      refine hK.out _ _ (λhF=>aT hF aN) (λ_=>?_);clear hK K;try refine pt ?_
      refine bt.Cx (i:=15) (v:=?aea) rfl aQ aQ aQ aQ (λ_ _ _ h=>h) (Or.inl ⟨cQ,?QV⟩) (λhF=>aT hF aN) ?aeb;case QV=>(intro wS hSw;(try dsimp only at hSw);go_simp;all_goals with_reducible rfl)
      try refine pt ?_
      refine bt.Cx (i:=16) (v:=?aec) rfl aQ aQ aQ aQ (λ_ _ _ h=>h) (Or.inl ⟨cQ,?QW⟩) (λhF=>aT hF aN) ?aed;case QW=>(intro wS hSw;(try dsimp only at hSw);go_simp;all_goals with_reducible rfl)
      try refine pt ?_
      refine bt.done aQ ?_ _;go_wp2;have e4:w4.heap[g]? =wr.heap[g]? :=(by rw[←Hw4.out];unfold Fe;rw[gT _ _ _ dp,gT _ _ _ dp];rfl);have Ei:=Fi.out.row.of_block e4;have abk:Keep (· =g) w.heap.size w w4:=(by rw[←Hw4.out];unfold Fe;have hz:=Fi.out.keep.size;exact(Fi.out.keep.drew.alloc dp _).alloc dp _);obtain⟨x0',x1',x2'⟩:=Ei.ent (m+1) (by rw[S9.out];omega);obtain⟨y0',y1',y2'⟩:=Ei.ent m (by rw[S9.out];omega);rw[Hx.out]at x0' x1' x2';rw[Hy.out]at y0' y1' y2';simp only[eB]at x0' x1' x2' y0' y1' y2';have f0:=Ei.frz ((m+1) *3) (by rw[S9.out];omega);have f1:=Ei.frz ((m+1) *3+1) (by rw[S9.out];omega);have f2:=Ei.frz ((m+1) *3+2) (by rw[S9.out];omega);have f3:=Ei.frz (m*3) (by rw[S9.out];omega);have f4:=Ei.frz (m*3+1) (by rw[S9.out];omega);have f5:=Ei.frz (m*3+2) (by rw[S9.out];omega);have afm:=aA Ei;have acR:=aA abk;clear Ei abk e4 x0 x1 x2 y0 y1 y2 hcm aF;refine bt.start (λw'=>w'.cell? ⟨g,(m+1) *3,ah⟩=ae (aq af xc)/\w'.cell? ⟨g,(m+1) *3+1,ah⟩=ae (aq af xo)/\w'.cell? ⟨g,(m+1) *3+2,ah⟩=ae (aq af xn)/\w'.cell? ⟨g,m*3,ah⟩=ae (aq af yc)/\w'.cell? ⟨g,m*3+1,ah⟩=ae (aq af yo)/\w'.cell? ⟨g,m*3+2,ah⟩=ae (aq af yn)) [15,17] aQ ?_ (λaF=>?_)
      .first|exact mI|((try dsimp only);exact⟨x0',x1',x2',y0',y1',y2'⟩)
      refine bt.tv 0 aF ?_;refine bt.tv 1 aF ?_;refine bt.tv 2 aF ?_;refine bt.tv 3 aF ?_;refine bt.tv 4 aF ?_;refine bt.tv 5 aF ?_;refine bt.tv 6 aF ?_;refine bt.tv 7 aF ?_;refine bt.tv 8 aF ?_;refine bt.tt 9 aF ?_;refine bt.tv 10 aF ?_;refine bt.tv 11 aF ?_;refine bt.tv 12 aF ?_;refine bt.tt 13 aF ?_;refine bt.tv 14 aF ?_;refine bt.to 15 (λK hK=>?_);go_simp;refine hK.out _ _ (λhF=>aT hF aN) (λ_=>?_);clear hK K;try refine pt ?_
      refine bt.Cx (i:=16) (v:=?aee) rfl aQ aQ aQ aQ (λ_ _ _ h=>h) (Or.inl ⟨cQ,?QX⟩) (λhF=>aT hF aN) ?aef;case QX=>(intro wS hSw;(try dsimp only at hSw);go_simp;all_goals with_reducible rfl)
      try refine pt ?_
      refine bt.to 17 (λK hK=>?_);go_simp;refine hK.out _ _ (λhF=>aT hF aN) (λ_=>?_);clear hK K;try refine pt ?_
      refine bt.done aQ ?_ _;go_wp2;go_roundw
      case rel=>
       have hlx:(Pe[m+1]!)=⟨xc,xo,xn⟩:=Hx.out;have hly:(Pe[m]!)=⟨yc,yo,yn⟩:=Hy.out;have hsw:pM Pe m=(Pe.set (m+1) ⟨yc,yo,yn⟩).set m ⟨xc,xo,xn⟩:=(by unfold pM;rw[hlx,hly]);have hl2:=S9.out;refine⟨m,pM Pe m,rfl,ai,ai,⟨?_,(MU _ _ ai).trans Fi.out.perm,Fi.out.same.swap ai ai hb,?_⟩,Kc Hn2.out ai ai ai (by unfold key;rw[hlx,hly];exact OI)⟩
       .rw[hsw];have h1:=afm.out.put (i:=m+1) (x:=⟨yc,yo,yn⟩) ai;have h2:=h1.put (i:=m) (x:=⟨xc,xo,xn⟩) (by rw[r9];omega);show xU g _ (World.drew (y6 g m ⟨xc,xo,xn⟩ (y6 g (m+1) ⟨yc,yo,yn⟩ w4)));generalize y6 g m ⟨xc,xo,xn⟩ (y6 g (m+1) ⟨yc,yo,yn⟩ w4)=w5 at h2⊢;exact h2.of_block rfl
       .have k5:=(acR.out.y6 (i:=m+1) (x:=⟨yc,yo,yn⟩)).y6 (i:=m) (x:=⟨xc,xo,xn⟩);show Keep _ _ _ (World.drew (y6 g m ⟨xc,xo,xn⟩ (y6 g (m+1) ⟨yc,yo,yn⟩ w4)));exact k5.drew
      case measure=>simp[intOf]
     .have acQ:decide (xc<yc)=aw:=(by simpa using OI);rw[acQ]at hcm;refine bt.start (λw'=>w'.cell? ⟨g,(m+1) *3,ah⟩=ae (aq af xc)/\w'.cell? ⟨g,(m+1) *3+1,ah⟩=ae (aq af xo)/\w'.cell? ⟨g,(m+1) *3+2,ah⟩=ae (aq af xn)/\w'.cell? ⟨g,m*3,ah⟩=ae (aq af yc)/\w'.cell? ⟨g,m*3+1,ah⟩=ae (aq af yo)/\w'.cell? ⟨g,m*3+2,ah⟩=ae (aq af yn)) [14] aQ ?_ (λaF=>?_)
      .first|exact mI|((try dsimp only);exact⟨x0,x1,x2,y0,y1,y2⟩)
      refine bt.tv 0 aF ?_;refine bt.tv 1 aF ?_;refine bt.tv 2 aF ?_;refine bt.tv 3 aF ?_;refine bt.tv 4 aF ?_;refine bt.tv 5 aF ?_;refine bt.tv 6 aF ?_;refine bt.tv 7 aF ?_;refine bt.tt 8 aF ?_;refine bt.tv 9 aF ?_;refine bt.tv 10 aF ?_;refine bt.tv 11 aF ?_;refine bt.tv 12 aF ?_;refine bt.tt 13 aF ?_;refine bt.to 14 (λK hK=>?_)
      (go_simp;refine(Kb ⟨xc,xo,xn⟩ ⟨yc,yo,yn⟩ _).mono ?_;rintro e w4 ⟨rfl,hw4⟩;have Hw4:=aA hw4;clear hw4;dsimp only)
      refine hK.out _ _ (λhF=>aT hF aN) (λ_=>?_);clear hK K;try refine pt ?_
      refine bt.Cx (i:=15) (v:=?aiA) rfl aQ aQ aQ aQ (λ_ _ _ h=>h) (Or.inl ⟨cQ,?afn⟩) (λhF=>aT hF aN) ?aiB;case afn=>(intro wS hSw;(try dsimp only at hSw);go_simp;all_goals with_reducible rfl)
      try refine pt ?_
      refine bt.Cx (i:=16) (v:=?aiC) rfl aQ aQ aQ aQ (λ_ _ _ h=>h) (Or.inl ⟨cQ,?afo⟩) (λhF=>aT hF aN) ?aiD;case afo=>(intro wS hSw;(try dsimp only at hSw);go_simp;all_goals with_reducible rfl)
      try refine pt ?_
      refine bt.done aQ ?_ _;go_wp2;go_roundw
      case rel=>
       have hlx:(Pe[m+1]!)=⟨xc,xo,xn⟩:=Hx.out;have hly:(Pe[m]!)=⟨yc,yo,yn⟩:=Hy.out;refine⟨k+1,Pe,fY,ai,.inl ai,⟨?_,Fi.out.perm,Fi.out.same,?_⟩,CV Hn2.out (.inr ⟨m,rfl,ai,by unfold key;rw[hlx,hly];dsimp only;omega⟩)⟩
       .refine Fi.out.row.of_block ?_;rw[←Hw4.out];unfold Fe;rw[gT _ _ _ dp,gT _ _ _ dp];rfl
       .rw[←Hw4.out];unfold Fe;have hz:=Fi.out.keep.size;exact(Fi.out.keep.drew.alloc dp _).alloc dp _
      case measure=>simp[intOf];omega
    .obtain rfl:j=a:=ai;have Fi:=aA AO;have Hn2:=aA hn2;clear AO hn2 hl2;go_wp2_with fail
     refine bt.start (λ_=>True) [] aQ ?_ (λaF=>?_)
     .exact QY
     refine bt.tv 0 aF ?_;refine bt.tv 1 aF ?_;refine bt.tv 2 aF ?_;refine bt.tv 3 aF ?_;refine bt.tu 4 aF ?_;refine bt.tu 5 aF ?_;refine bt.tu 6 aF ?_;refine bt.tu 7 aF ?_;refine bt.tu 8 aF ?_;refine bt.tu 9 aF ?_;refine bt.tu 10 aF ?_;refine bt.tu 11 aF ?_;refine bt.tu 12 aF ?_;refine bt.tu 13 aF ?_;refine bt.tu 14 aF ?_;refine bt.tu 15 aF ?_;refine bt.tv 16 aF ?_;refine bt.done aQ ?_ _;go_wp2;go_roundw
     case rel=>exact⟨k+1,Pe,fY,ai,.inl ai,⟨Fi.out.row.of_block rfl,Fi.out.perm,Fi.out.same,Fi.out.keep.drew⟩,CV Hn2.out (.inl rfl)⟩
     case measure=>simp[intOf];omega
  .go_wp2;refine bodyPost_end (results_none rfl _ _ _) rfl ?_;exact⟨rfl,es',U9,λp q h1 h2 h3=>Fh p q h1 h2 ai⟩
def cT.lies(x:cT):Prop:=pW x.o/\pW x.n
def Fj(x:cT)(w:aj):aj:=w.alloc (aK #[aq af x.c,aq af x.o,aq af x.n] 65)
theorem Kd(x:cT)(w:aj)(h:x.lies):b9 aC 95 #[uV x] w λe w'=>e=.returned (.bool aw)/\Fj x w=w':=by
 obtain⟨⟨h0,h1⟩,h2,h3⟩:=h;unfold uV Fj;go_enter func95,ntmps95
 go_wp2_with (first|(go_at_call 38;((with_reducible refine(oQ _ _ h0 h1).mono ?_);rintro e w' ⟨rfl,rfl⟩))|(go_at_call 38;((with_reducible refine(oQ _ _ h2 h3).mono ?_);rintro e w' ⟨rfl,rfl⟩)))
 go_ret
 exact⟨rfl,rfl⟩
theorem MW(x:cT)(w:aj)(h:¬x.lies):b9 aC 95 #[uV x] w λe w'=>e=.returned (.bool au)/\Fj x w=w':=by
 by_cases ho:pW x.o
 .have hn:x.n<0\/1048575<x.n:=by have:¬pW x.n:=λhn=>h ⟨ho,hn⟩;unfold pW at this;omega
  obtain⟨h0,h1⟩:=ho;have Hn:=aA hn;clear h hn;unfold uV Fj;go_enter func95,ntmps95
  go_wp2_with (first|(go_at_call 38;((with_reducible refine(oQ _ _ h0 h1).mono ?_);rintro e w' ⟨rfl,rfl⟩))|(go_at_call 38;((with_reducible refine(uM _ _ Hn.out).mono ?_);rintro e w' ⟨rfl,rfl⟩)))
  go_ret
  exact⟨rfl,rfl⟩
 .have hn:x.o<0\/1048575<x.o:=by unfold pW at ho;omega
  have Hn:=aA hn;clear h hn ho;unfold uV Fj;go_enter func95,ntmps95
  go_wp2_with (first|(go_at_call 38;((with_reducible refine(uM _ _ Hn.out).mono ?_);rintro e w' ⟨rfl,rfl⟩)))
  go_ret
  exact⟨rfl,rfl⟩
theorem MX(cap:Array ay):∀w,(callFunc 95 cap).run aC w=.ok (.enter 95 cap) w:=λw=>aQ
def acS(es:List cT)(r:Int):Prop:=(r= -1/\∀i,i<es.length->(es[i]!).lies)\/(∃k:Nat,r=k/\k<es.length/\¬(es[k]!).lies)
def QZ(es:List cT)(w:aj)(e:Ending)(w':aj):Prop:=∃r:Int,e=.returned (aq af r)/\acS es r/\Below w.heap.size w w'
theorem Ac{a w:aj}(x:cT)(h:Below B a w)(hB:B<=w.heap.size):Below B a (Fj x w):=h.alloc hB _
theorem CW(s cap:Nat)(es:List cT)(w:aj)(h:fB s 0 es w)(hn:es.length<=1000)(hs:s<w.heap.size):b9 aC 138 #[aD (ae ⟨s,0,ah⟩) es.length cap,.func (.func 95) #[] #[]] w (QZ es w):=by
 have H:=aA h;clear h;have hcall:=MX;go_enter func138,ntmps138
 go_wp2;go_loopw [8] (λi wr=>∃k:Nat,k<=es.length/\i=aq af k/\(∀j,j<k->(es[j]!).lies)/\Below w.heap.size w wr) (λi _=>es.length- (intOf i).toNat)
 case atStart=>exact⟨0,bQ _,rfl,λj hj=>ai,gw _ _⟩
 case round=>
  obtain⟨k,hk,rfl,qp,dQ⟩:=hrel;have Hg:=aA qp;have jm:=aA dQ;by_cases hlt:k<es.length
  .obtain⟨c0,c1,c2⟩:=H.out k hlt;simp only[eB]at c0 c1 c2;have c0:=(dQ.cell (p:=⟨s,k*3,ah⟩) hs).trans c0;have c1:=(dQ.cell (p:=⟨s,k*3+1,ah⟩) hs).trans c1;have c2:=(dQ.cell (p:=⟨s,k*3+2,ah⟩) hs).trans c2;generalize hz:es[k]! =z at c0 c1 c2;have Hz:=aA hz;clear hz qp dQ;by_cases hl:z.lies
   .have hc:=Kd z wr hl;have Hl:=aA hl;obtain⟨zc,zo,zn⟩:=z;dsimp only at c0 c1 c2;dsimp only[uV]at hc;have Hc:=aA hc;clear hl hc;go_wp2_with (go_at_call 95;refine Hc.out.mono ?_;rintro e w' ⟨rfl,hw'⟩;have Hw':=aA hw';clear hw')
    go_roundw
    case rel=>exact⟨k+1,ai,fY,λj hj=>by
     by_cases e:j=k
     .subst e;rw[Hz.out];exact Hl.out
     .exact Hg.out j ai,by rw[←Hw'.out];exact Ac _ jm.out jm.out.size⟩
    case measure=>simp[intOf];omega
   .have hc:=MW z wr hl;have Hl:=aA hl;obtain⟨zc,zo,zn⟩:=z;dsimp only at c0 c1 c2;dsimp only[uV]at hc;have Hc:=aA hc;clear hl hc;go_wp2_with (go_at_call 95;refine Hc.out.mono ?_;rintro e w' ⟨rfl,hw'⟩;have Hw':=aA hw';clear hw')
    go_ret
    exact⟨k,rfl,.inr ⟨k,rfl,hlt,by rw[Hz.out];exact Hl.out⟩,by rw[←Hw'.out];exact Ac _ jm.out jm.out.size⟩
  .go_wp2;go_ret
   exact⟨-1,rfl,.inl ⟨rfl,λi hi=>Hg.out i ai⟩,dQ⟩
theorem Ej(s cap:Nat)(es:List cT)(w:aj)(h:fB s 0 es w)(hn:es.length<=1000)(hs:s<w.heap.size)(hb:∀i,i<es.length->(es[i]!).lies):b9 aC 94 #[aD (ae ⟨s,0,ah⟩) es.length cap,.func (.func 95) #[] #[]] w λe w'=>e=.returned (.bool aw)/\Below w.heap.size w w':=by
 have H:=aA h;have Hb:=aA hb;clear h hb;go_enter func94,ntmps94
 go_wp2_with fail
 refine(CW s cap es w H.out hn hs).mono ?_;rintro e w' ⟨r,rfl,hbad,dQ⟩;obtain rfl:r= -1:=by
  rcases hbad with⟨rfl,_⟩|⟨k,_,hk,hg⟩
  .rfl
  .exact aT (Hb.out k hk) hg
 have jm:=aA dQ;clear hbad dQ;go_wp2;go_ret
 exact⟨rfl,jm.out⟩
theorem Gx(s cap j:Nat)(es:List cT)(w:aj)(h:fB s 0 es w)(hn:es.length<=1000)(hs:s<w.heap.size)(hj:j<es.length)(hb:¬(es[j]!).lies):b9 aC 94 #[aD (ae ⟨s,0,ah⟩) es.length cap,.func (.func 95) #[] #[]] w λe w'=>e=.returned (.bool au)/\Below w.heap.size w w':=by
 have H:=aA h;have Hb:=aA hb;clear h hb;go_enter func94,ntmps94
 go_wp2_with fail
 refine(CW s cap es w H.out hn hs).mono ?_;rintro e w' ⟨r,rfl,hbad,dQ⟩;obtain⟨k,rfl,hk⟩:∃k:Nat,r=k/\True:=by
  rcases hbad with⟨_,hg⟩|⟨k,rfl,hk,hg⟩
  .exact aT (hg j hj) Hb.out
  .exact⟨k,rfl,trivial⟩
 have jm:=aA dQ;clear hbad dQ hk;go_wp2;go_ret
 exact⟨rfl,jm.out⟩
def abl(b c n:Nat)(w:aj):Prop:=w.cell? ⟨b,0,ah⟩=ae (aD (ae ⟨c,0,ah⟩) n n)
def wQ(es:List cT)(n k:Nat):Prop:=0<=key es k/\key es k<n/\∀m,k=m+1->key es m≠key es k
structure xV(es:List cT)(n:Nat)(w:aj)(e:Ending)(w':aj):Prop where
 below:Below w.heap.size w w'
 cell:∀k,k<es.length->¬wQ es n k->e=.returned (aq af 262)
 value:(∀k,k<es.length->wQ es n k)->∀k,k<es.length->¬(es[k]!).lies->e=.returned (aq af 263)
 ok:(∀k,k<es.length->wQ es n k)->(∀k,k<es.length->(es[k]!).lies)->e=.returned (aq af 0)
theorem Q0(b c nc s cap:Nat)(es:List cT)(w:aj)(h:abl b c nc w)(he:fB s 0 es w)(h1:1<=es.length)(h2:es.length<=64)(hs:s<w.heap.size):
  b9 aC 53 #[aI (ae ⟨b,0,ah⟩),aD (ae ⟨s,0,ah⟩) es.length cap] w (xV es nc w):=by
 have h3:((es.length:Int)==0)=aw:=by rw[beq_eq_false_iff_ne];omega
 have h4:decide (64< (es.length:Int))=aw:=dp;have H:=aA h;have He:=aA he;clear h he;go_enter func53,ntmps53
 go_wp2;go_loopw [17] (λi wr=>∃k:Nat,k<=es.length/\i=aq af k/\(∀j,j<k->wQ es nc j)/\Below w.heap.size w wr) (λi _=>es.length- (intOf i).toNat)
 case atStart=>exact⟨0,bQ _,rfl,λj hj=>ai,gw _ _⟩
 case round=>
  obtain⟨k,hk,rfl,qp,dQ⟩:=hrel;have Hg:=aA qp;have jm:=aA dQ;have Iy:=dQ.size;by_cases hlt:k<es.length
  .obtain⟨c0,c1,c2⟩:=He.out k hlt;simp only[eB]at c0 c1 c2;have c0:=(dQ.cell (p:=⟨s,k*3,ah⟩) hs).trans c0;have c1:=(dQ.cell (p:=⟨s,k*3+1,ah⟩) hs).trans c1;have c2:=(dQ.cell (p:=⟨s,k*3+2,ah⟩) hs).trans c2;have Hj:Go.RowKit.Hid (∀o,(wr.alloc o).drew.cell? ⟨b,0,ah⟩=ae (aD (ae ⟨c,0,ah⟩) nc nc)):=λo=>(qs _ _ _ (by have:=ez _ _ H.out;omega)).trans ((dQ.cell (ez _ _ H.out)).trans H.out);generalize hz:es[k]! =z at c0 c1 c2;have Hz:=aA hz;clear hz qp dQ;obtain⟨zc,zo,zn⟩:=z;dsimp only at c0 c1 c2;have hkey:key es k=zc:=(by unfold key;rw[Hz.out]);have MZ:=aA hkey;clear hkey;by_cases hr:0<=zc/\zc< (nc:Int)
   .obtain⟨vY,hr1⟩:=hr;obtain⟨YY,rfl⟩:=Int.eq_ofNat_of_zero_le vY;have hzl:YY<nc:=ai;by_cases hk0:k=0
    .subst hk0;go_wp2_with fail
     refine bt.start (λw'=>w'.cell? ⟨wr.heap.size,0,ah⟩=ae (aq af YY)) [] aQ ?_ (λaF=>?_)
     .exact Z8
     refine bt.tv 0 aF ?_;refine bt.tv 1 aF ?_;refine bt.tt 2 aF ?_;refine bt.to 3 (λK hK=>?_)
     (go_simp;refine(pR b c nc YY _ (Hj.out _) ai ai).mono ?_;rintro e w' ⟨rfl,rfl⟩;dsimp only)
     refine hK.out _ _ (λ_=>?_) (λaF=>?_)
     .exact Z8
     replace aF:=aF aN;clear hK K;try refine pt ?_
     refine bt.tv 4 aF ?_;refine bt.tv 5 aF ?_;refine bt.tv 6 aF ?_;refine bt.tv 7 aF ?_;refine bt.tv 8 aF ?_;refine bt.tu 9 aF ?_;refine bt.tu 10 aF ?_;refine bt.tu 11 aF ?_;refine bt.tu 12 aF ?_;refine bt.tu 13 aF ?_;refine bt.tu 14 aF ?_;refine bt.tu 15 aF ?_;refine bt.tu 16 aF ?_;refine bt.tu 17 aF ?_;refine bt.tv 18 aF ?_;refine bt.tv 19 aF ?_;refine bt.done aQ ?_ _;go_wp2;go_roundw
     case rel=>exact⟨1,ai,fY,λj hj=>by obtain rfl:j=0:=ai;exact⟨by rw[MZ.out];exact vY,by rw[MZ.out];exact hr1,λm hm=>ai⟩,(jm.out.alloc Iy _).drew⟩
     case measure=>(simp[intOf] <;>omega)
    .obtain⟨m,rfl⟩:∃m,k=m+1:=⟨k-1,ai⟩;obtain⟨d0,_,_⟩:=He.out m ai;simp only[eB]at d0;have d0:=(jm.out.cell (p:=⟨s,m*3,ah⟩) hs).trans d0;have hpl:=World.new_ne wr _ d0;generalize hy:(es[m]!).c=yc at d0;have Hy:=aA (show key es m=yc from hy);clear hy;have b0:(0:Int)<=(m:Int):=ai;have b1:(m:Int) < (es.length:Int):=ai;have b2:(m:Int) +1< (es.length:Int):=ai;have b3:(0:Int)<=(m:Int) +1:=ai;have ZH:decide ((0:Int) < (m:Int) +1)=au:=(by simp<;>omega);have hwm:IntKind.i64.wrap (m:Int)=m:=(by rw[gq];omega);by_cases hyz:yc=(YY:Int)
     .have hq:(yc==(YY:Int))=au:=(by rw[beq_iff_eq];exact hyz);have Hyz:=aA hyz;clear hyz;go_wp2_with fail
      refine bt.start (λw'=>w'.cell? ⟨wr.heap.size,0,ah⟩=ae (aq af YY)/\w'.cell? ⟨s,m*3,ah⟩=ae (aq af yc)) [] aQ ?_ (λaF=>?_)
      .exact Z9
      refine bt.tv 0 aF ?_;refine bt.tv 1 aF ?_;refine bt.tt 2 aF ?_;refine bt.to 3 (λK hK=>?_)
      (go_simp;refine(pR b c nc YY _ (Hj.out _) ai ai).mono ?_;rintro e w' ⟨rfl,rfl⟩;dsimp only)
      refine hK.out _ _ (λ_=>?_) (λaF=>?_)
      .exact Z9
      replace aF:=aF aN;clear hK K;try refine pt ?_
      refine bt.tv 4 aF ?_;refine bt.tv 5 aF ?_;refine bt.tv 6 aF ?_;refine bt.tv 7 aF ?_;refine bt.tv 8 aF ?_;refine bt.tv 9 aF ?_;refine bt.tv 10 aF ?_;refine bt.tv 11 aF ?_;refine bt.tv 12 aF ?_;refine bt.tv 13 aF ?_;refine bt.tt 14 aF ?_;refine bt.tv 15 aF ?_;refine bt.tt 16 aF ?_;refine bt.tv 17 aF ?_;refine bt.tv 18 aF ?_;refine bt.tv 19 aF ?_;refine bt.done aQ ?_ _;go_wp2;go_ret
      have hbad:¬wQ es nc (m+1):=λh=>(by have:=h.2.2 m rfl;rw[Hy.out,MZ.out,Hyz.out]at this;exact this rfl);exact⟨(jm.out.alloc Iy _).drew,λ_ _ _=>rfl,λh=>aT (h _ hlt) hbad,λh=>aT (h _ hlt) hbad⟩
     .have hq:(yc==(YY:Int))=aw:=(by rw[beq_eq_false_iff_ne];exact hyz);have Hyz:=aA hyz;clear hyz;go_wp2_with fail
      refine bt.start (λw'=>w'.cell? ⟨wr.heap.size,0,ah⟩=ae (aq af YY)/\w'.cell? ⟨s,m*3,ah⟩=ae (aq af yc)) [] aQ ?_ (λaF=>?_)
      .exact Z9
      refine bt.tv 0 aF ?_;refine bt.tv 1 aF ?_;refine bt.tt 2 aF ?_;refine bt.to 3 (λK hK=>?_)
      (go_simp;refine(pR b c nc YY _ (Hj.out _) ai ai).mono ?_;rintro e w' ⟨rfl,rfl⟩;dsimp only)
      refine hK.out _ _ (λ_=>?_) (λaF=>?_)
      .exact Z9
      replace aF:=aF aN;clear hK K;try refine pt ?_
      refine bt.tv 4 aF ?_;refine bt.tv 5 aF ?_;refine bt.tv 6 aF ?_;refine bt.tv 7 aF ?_;refine bt.tv 8 aF ?_;refine bt.tv 9 aF ?_;refine bt.tv 10 aF ?_;refine bt.tv 11 aF ?_;refine bt.tv 12 aF ?_;refine bt.tv 13 aF ?_;refine bt.tt 14 aF ?_;refine bt.tv 15 aF ?_;refine bt.tt 16 aF ?_;refine bt.tv 17 aF ?_;refine bt.tv 18 aF ?_;refine bt.tv 19 aF ?_;refine bt.done aQ ?_ _;go_wp2;go_roundw
      case rel=>exact⟨m+1+1,ai,fY,λj hj=>by
       by_cases e:j=m+1
       .subst e;exact⟨by rw[MZ.out];omega,by rw[MZ.out];omega,λm' hm=>by obtain rfl:m'=m:=ai;rw[Hy.out,MZ.out];exact Hyz.out⟩
       .exact Hg.out j ai,(jm.out.alloc Iy _).drew⟩
      case measure=>simp[intOf];omega
   .have Qi:zc<0\/(nc:Int)<=zc:=ai;have Hr':=aA Qi;have hbad:¬wQ es nc k:=λh=>(by have h1:=h.1;have h2:=h.2.1;rw[MZ.out]at h1 h2;exact hr ⟨h1,h2⟩);have afp:=aA hbad;clear hr Qi hbad;go_wp2_with fail
    refine bt.start (λw'=>w'.cell? ⟨wr.heap.size,0,ah⟩=ae (aq af zc)) [] aQ ?_ (λaF=>?_)
    .exact Z8
    refine bt.tv 0 aF ?_;refine bt.tv 1 aF ?_;refine bt.tt 2 aF ?_;refine bt.to 3 (λK hK=>?_)
    (go_simp;refine(Bj b c nc zc _ (Hj.out _) (by have:=Hr'.out;omega)).mono ?_;rintro e w' ⟨rfl,rfl⟩;dsimp only)
    refine hK.out _ _ (λ_=>?_) (λaF=>?_)
    .exact Z8
    replace aF:=aF aN;clear hK K;try refine pt ?_
    refine bt.tv 4 aF ?_;refine bt.tv 5 aF ?_;refine bt.tu 6 aF ?_;refine bt.tu 7 aF ?_;refine bt.tu 8 aF ?_;refine bt.tu 9 aF ?_;refine bt.tu 10 aF ?_;refine bt.tu 11 aF ?_;refine bt.tu 12 aF ?_;refine bt.tu 13 aF ?_;refine bt.tu 14 aF ?_;refine bt.tu 15 aF ?_;refine bt.tu 16 aF ?_;refine bt.tu 17 aF ?_;refine bt.tu 18 aF ?_;refine bt.tv 19 aF ?_;refine bt.done aQ ?_ _;go_wp2;go_ret
    exact⟨(jm.out.alloc Iy _).drew,λ_ _ _=>rfl,λh=>aT (h _ hlt) afp.out,λh=>aT (h _ hlt) afp.out⟩
  .have qK:k=es.length:=ai;subst qK;have Va:=qp;have S8:fB s 0 es wr:=He.out.of_block (dQ.block s hs);clear qp;by_cases hv:∀i,i<es.length->(es[i]!).lies
   .have hc:=Ej s cap es wr S8 ai ai hv;have Hc:=aA hc;have Hv:=aA hv;clear S8 hc hv Va dQ;go_wp2_with (go_at_call 94;refine Hc.out.mono ?_;rintro e w' ⟨rfl,hb'⟩;have Hb':=aA hb';clear hb')
    go_ret
    exact⟨jm.out.trans (Hb'.out.mono Iy),λk hk h=>aT (Hg.out k hk) h,λ_ k hk h=>aT (Hv.out k hk) h,λ_ _=>rfl⟩
   .obtain⟨j,hj,hbad⟩:∃j,j<es.length/\¬(es[j]!).lies:=(by refine eV λhne=>hv λi hi=>?_;exact eV λhb=>hne ⟨i,hi,hb⟩);have hc:=Gx s cap j es wr S8 ai ai hj hbad;have Hc:=aA hc;have Hv:=aA hv;clear S8 hc hv Va dQ hbad;go_wp2_with (go_at_call 94;refine Hc.out.mono ?_;rintro e w' ⟨rfl,hb'⟩;have Hb':=aA hb';clear hb')
    go_ret
    exact⟨jm.out.trans (Hb'.out.mono Iy),λk hk h=>aT (Hg.out k hk) h,λ_ _ _ _=>rfl,λ_ h=>aT h Hv.out⟩
end
section
open Go.RowKit
theorem Ke(Bv b off cap:Nat)(es:List cT)(hlen:es.length<=1000)(w:aj)
  (hc:w.cell? ⟨Bv,0,ah⟩=ae (aD (ae ⟨b,off,ah⟩) es.length cap))(hI:fB b off es w)(hbl:b<w.heap.size):
  b9 aC 90 #[.func (.func 92) #[] #[aI (ae ⟨Bv,0,ah⟩)]] w (U8 w.heap.size es w):=by
 have h:=(appendSeq_in {fn:=λ_=>True} 4 trivial trivial rfl (bJ _) Bv b off cap es hlen w hc hI hbl).calls (λk d hd=>by cases hd);have H:=aA h;clear h hI hc;go_enter func90,ntmps90
 go_wp2_with (go_at_call 136;refine H.out.mono ?_;rintro e w' ⟨v,rfl,hr,hb⟩;have Hr:=aA hr;have Hb:=aA hb;clear hr hb)
 go_ret
 exact⟨_,rfl,Hr.out,Hb.out⟩
theorem xW{w:aj}{base g cap:Nat}{es:List cT}(h:w.ownsRow base 65 3 (aD (ae ⟨g,0,ah⟩) es.length cap) es.length (gZ es)):xU g es w:=⟨λk hk=>by obtain⟨a,b,c⟩:=CS es k hk;simp only[eB];rw[h.cellAt _ ai,h.cellAt _ ai,h.cellAt _ ai];exact⟨a,b,c⟩,λi _=>h.frozenAt i⟩
def CX(n:Nat):Prop:=∀(g cap:Nat) (es:List cT) (w:aj),es.length=n->xU g es w->g<w.heap.size->
 b9 aC 137 #[aD (ae ⟨g,0,ah⟩) es.length cap,aq af es.length,.func (.func 51) #[] #[]] w (MV g 0 es.length es w)
theorem rA(n:Nat)(hn:n<20):CX n:=by
 intro g cap es w hl hr hg;subst hl;have H:=aA hr;clear hr;have hd:decide ((20:Int)<=(es.length:Int))=aw:=dp;have Il:decide ((20:Int) < (es.length:Int))=aw:=dp;have hi:=Eh g cap 0 es.length es w H.out (bQ _) (bJ _) ai hg;have Hi:=aA hi;clear hi;go_enter func137,ntmps137
 go_wp2;refine wp_loop_rounds 1 ?_;rw[rounds_succ];go_wp2_with fail
 refine Hi.out.mono ?_;rintro e w' ⟨rfl,es',hp,hs⟩;have Hp:=aA hp;have Hs:=aA hs;clear hp hs;go_wp2;refine wp_loop_rounds 1 ?_;rw[rounds_succ];go_wp2;refine bodyPost_end (results_none rfl _ _ _) rfl ?_;exact⟨rfl,es',Hp.out,Hs.out⟩
theorem CY(g cap:Nat)(es:List cT)(w:aj)(hs:CX es.length)(hr:xU g es w)(hg:g<w.heap.size):
  b9 aC 91 #[aD (ae ⟨g,0,ah⟩) es.length cap,.func (.func 51) #[] #[]] w (MV g 0 es.length es w):=by
 have H:=aA (hs g cap es w rfl hr hg);clear hs hr;go_enter func91,ntmps91
 go_wp2_with fail
 refine H.out.mono ?_;rintro e w' ⟨rfl,es',hp,hs⟩;have Hp:=aA hp;have Hs:=aA hs;clear hp hs;go_wp2;refine bodyPost_end (results_none rfl _ _ _) rfl ?_;exact⟨rfl,es',Hp.out,Hs.out⟩
def Q1(es:List cT)(w:aj)(e:Ending)(w':aj):Prop:=∃g cap es',e=.returned (aD (ae ⟨g,0,ah⟩) es.length cap)/\xU g es' w'/\w.heap.size<=g/\g<w'.heap.size/\es'.Perm es/\kr es' 0 es.length/\Below w.heap.size w w'
theorem M0(Bv b off cap:Nat)(es:List cT)(h1:1<=es.length)(hlen:es.length<=1000)(hs:CX es.length)(w:aj)
  (hc:w.cell? ⟨Bv,0,ah⟩=ae (aD (ae ⟨b,off,ah⟩) es.length cap))(hI:fB b off es w)(hbl:b<w.heap.size):
  b9 aC 49 #[.func (.func 92) #[] #[aI (ae ⟨Bv,0,ah⟩)],.func (.func 51) #[] #[]] w (Q1 es w):=by
 have H:=aA (Ke Bv b off cap es hlen w hc hI hbl);have Hs:=aA hs;clear hs hI hc;go_enter func49,ntmps49
 go_wp2_with fail
 refine H.out.mono ?_;rintro e w1 ⟨v,rfl,hr,hb⟩;obtain⟨g,cap',rfl,hg1,hg2⟩:=hr.form ai;have hrow:=xW hr;have Hst:=aA (CY g cap' es w1 Hs.out hrow hg2);have Hb:=aA hb;clear hr hb hrow;go_wp2_with fail
 refine Hst.out.mono ?_;rintro e w2 ⟨rfl,es',hp,hso⟩;have Hp:=aA hp;have Hso:=aA hso;clear hp hso;go_wp2;go_ret
 have hk:=Hp.out.keep;have dQ:Below w.heap.size w w2:=Hb.out.trans ⟨hk.os,hk.tape,hk.output,hk.size,λk hkl=>hk.block k ai ai⟩;exact⟨g,cap',es',rfl,Hp.out.row,hg1,by have:=hk.size;omega,Hp.out.perm,Hso.out,dQ⟩
end
section
open Go Go.Conc Go.ConcN
def AP(N:Nat)(ds:Nat->Option Nat)(vs:Nat->ay)(t:Array ay):Array ay:=(dx N).foldl (λt i=>match ds i with|some s=>t.setIfInBounds s (vs i)|none=>t) t
theorem y9(N:Nat)(ds:Nat->Option Nat)(vs:Nat->ay)(t:Array ay):AP (N+1) ds vs t=(match ds N with|some s=>(AP N ds vs t).setIfInBounds s (vs N)|none=>AP N ds vs t):=by unfold AP;rw[tD,List.foldl_append];rfl
theorem Fl(N:Nat)(ds:Nat->Option Nat)(vs:Nat->ay)(t:Array ay):(AP N ds vs t).size=t.size:=by
 induction N with
 |zero=>rfl
 |succ N ih=>rw[y9];split<;>simp[ih]
theorem CZ{s:Nat}(h:∀j,j<N->ds j≠ae s):(AP N ds vs t)[s]? =t[s]? :=by
 induction N with
 |zero=>rfl
 |succ N ih=>
  rw[y9];have h1:=ih λj hj=>h j ai;split
  .rename_i s' e;rw[gG (λe'=>h N ai (by rw[e,e']))];exact h1
  .exact h1
theorem Pf{s:Nat}(hi:i<N)(hs:ds i=ae s)(inj:∀i j s,i<N->j<N->ds i=ae s->ds j=ae s->i=j)(hlt:s<t.size):(AP N ds vs t)[s]? =ae (vs i):=by
 induction N with
 |zero=>omega
 |succ N ih=>
  rw[y9];by_cases h:i=N
  .subst h;rw[hs];simp only[];rw[iw (by rw[Fl];exact hlt)]
  .have h1:=ih ai (λi j s h1 h2=>inj i j s ai ai);split
   .rename_i s' e;rw[gG (λe'=>h (inj i N s ai ai hs (by rw[e,e'])))];exact h1
   .exact h1
theorem jG{listed:Array Bool}{x:Nat}(hx:x≠i):(DF listed i).getD x aw=listed.getD x aw:=by rw[dO,dO,show(DF listed i)[x]? =listed[x]? from gG (bZ hx)]
theorem l9{listed:Array Bool}(hi:i<listed.size):(DF listed i).getD i aw=au:=by rw[dO];simp[DF,hi]
section
variable{main:Bool}{Stop:ι->aB->List aB->aj->Prop}
structure Ad{G:Type}(N:Nat)(ds:Nat->Option Nat)(val:G->Nat->ay)(a0:Act)(g:G)(listed:Array Bool)(a:Act):Prop where
 size:listed.size=N
 defers:a.defers=a0.defers
 tsize:a.tmps.size=a0.tmps.size
 on:∀j s,j<N->ds j=ae s->listed.getD j aw=au->a.tmps.getD s aO=val g j
 off:∀s,(∀j,j<N->ds j≠ae s)->a.tmps.getD s aO=a0.tmps.getD s aO
def Pg(ops:Array aZ)(N M:Nat)(ds:Nat->Option Nat):Bool:=ops.size==N&&((dx N).all λi=>(match ops[i]? with|some o=>(o.dst==ds i) &&o.after.all (λe=>!(fq .any e) ||decide (e.on<i))|none=>aw) &&(match ds i with|some s=>decide (s<M)|none=>au) &&(dx N).all λj=>i==j||ds i==ah||!(ds i==ds j))
theorem uh{ops:Array aZ}{M:Nat}(h:Pg ops N M ds=au):ops.size=N/\(∀(i:Nat) (o:aZ),ops[i]? =ae o->∀e∈o.after,fq .any e=au->e.on<i)/\(∀(i:Nat) (o:aZ),ops[i]? =ae o->o.dst=ds i)/\(∀i j s,i<N->j<N->ds i=ae s->ds j=ae s->i=j)/\∀i s,i<N->ds i=ae s->s<M:=by
 unfold Pg at h;simp only[cR,beq_iff_eq,iT,pz]at h;obtain⟨h0,h⟩:=h;refine⟨h0,λi o ho e he hb=>?_,λi o ho=>?_,λi j s hi hj h1 h2=>?_,λi s hi hs=>?_⟩
 .have hi:i<N:=by rw[←h0];exact(bF.1 ho).1
  have:=(h i hi).1.1;rw[ho]at this;simp only[cR,beq_iff_eq,EL,qQ,xu,decide_eq_true_eq]at this;rcases this.2 e he with h1|h1
  .rw[hb]at h1;cases h1
  .exact h1
 .have hi:i<N:=by rw[←h0];exact(bF.1 ho).1
  have:=(h i hi).1.1;rw[ho]at this;simp only[cR,beq_iff_eq]at this;exact this.1
 .have:=(h i hi).2 j hj;rw[h1,h2]at this;simpa using this
 .have:=(h i hi).1.2;rw[hs]at this;simpa using this
end
section
variable{G:Type}{val:G->Nat->ay}{a:Act}{g g':G}{listed:Array Bool}
theorem Ad.put(T:Ad N ds val a0 g listed a)(inj:∀i j s,i<N->j<N->ds i=ae s->ds j=ae s->i=j)(hlt:∀i s,i<N->ds i=ae s->s<a0.tmps.size)(j4:i<N)
  (hv:∀j,j<N->listed.getD j aw=au->val g' j=val g j)(hvi:ds i≠ah->v=val g' i):Ad N ds val a0 g' (DF listed i) (a.put (ds i) v):=by
 refine⟨by simp[DF,T.size],(by rw[←T.defers];cases ds i<;>rfl),?_,λj s hj hs hl=>?_,λs hs=>?_⟩
 .rw[←T.tsize];cases ds i<;>simp[Act.put]
 .by_cases e:j=i
  .subst e;have:=hvi (by rw[hs];simp);subst this;have acT:=hlt j s hj hs;rw[hs];show(a.tmps.setIfInBounds s _).getD s aO=_;rw[dO,iw (by rw[T.tsize];exact acT)];rfl
  .rw[jG e]at hl;rw[hv j hj hl,←T.on j s hj hs hl];cases hd:ds i with
   |none=>rfl
   |some s'=>show(a.tmps.setIfInBounds s' v).getD s aO=_;rw[dO,gG (λe'=>e (inj j i s hj j4 hs (by rw[hd,e']))),←dO]
 .rw[←T.off s hs];cases hd:ds i with
  |none=>rfl
  |some s'=>show(a.tmps.setIfInBounds s' v).getD s aO=_;rw[dO,gG (λe'=>hs i j4 (by rw[hd,e'])),←dO]
theorem Ad.end_(T:Ad N ds val a0 g listed a)(inj:∀i j s,i<N->j<N->ds i=ae s->ds j=ae s->i=j)(hlt:∀i s,i<N->ds i=ae s->s<a0.tmps.size)(hall:∀j,j<N->listed.getD j aw=au):a=⟨AP N ds (val g) a0.tmps,a0.defers⟩:=by
 obtain⟨t',d'⟩:=a;obtain⟨_,hd,YW,DY,dA⟩:=T;simp only at hd YW DY dA;subst hd;congr 1;apply Array.ext_getElem?;intro s;by_cases hs:∃j,j<N/\ds j=ae s
 .obtain⟨j,hj,hs⟩:=hs;have acT:=hlt j s hj hs;rw[Pf hj hs inj acT];have:=DY j s hj hs (hall j hj);rw[dO]at this;rw[fP ai]at this⊢;simpa using this
 .have hs':∀j,j<N->ds j≠ae s:=λj hj e=>hs ⟨j,hj,e⟩;rw[CZ hs'];have:=dA s hs';rw[dO,dO]at this;rcases ji s t'.size with h|CO
  .rw[fP h,fP ai]at this⊢;simpa using this
  .rw[np CO,np ai]
end
section
variable{n:Nat}{ops:Array aZ}
def abm(ops:Array aZ)(listed:Array Bool):Prop:=∀(j:Nat) (o:aZ),ops[j]? =ae o->listed.getD j aw=au->∀e∈o.after,fq .any e=au->listed.getD e.on aw=au
theorem se{G:Type}{id:Nat}(cH:ops.size=N)(hm:P.follows .mixedOrders=au)
  (hedge:∀(i:Nat) (o:aZ),ops[i]? =ae o->∀e∈o.after,fq .any e=au->e.on<i)
  (ds:Nat->Option Nat)(Dl:∀(i:Nat) (o:aZ),ops[i]? =ae o->o.dst=ds i)(inj:∀i j s,i<N->j<N->ds i=ae s->ds j=ae s->i=j)(hlt:∀i s,i<N->ds i=ae s->s<a0.tmps.size)
  (val:G->Nat->ay)(W:G->Array Bool->aj->Prop)(g0:G)(h0:W g0 (Array.replicate N aw) w0.drew)
  (step:∀(g:G) (listed:Array Bool) (i:Nat) (o:aZ) (a:Act) (w:aj),ops[i]? =ae o->i<N->listed.getD i aw=aw->abm ops listed->(∀e∈o.after,fq .any e=au->listed.getD e.on aw=au)->Ad N ds val a0 g listed a->W g listed w->
   ∀K:Act->aj->Prop,(∀g' v w',(∀j,j<N->listed.getD j aw=au->val g' j=val g j)->(ds i≠ah->v=val g' i)->W g' (DF listed i) w'->K (a.put o.dst v) w')->if dF o (dW ops a.tmps)=au then Oper.wpIn F n P o a w K Q else(∀f,o.about P w a.eval=ae f->F.fn f)/\K (a.put o.dst aO) w)
  (hend:∀g listed w,(∀j,j<N->listed.getD j aw=au)->W g listed w->Q .normal ⟨AP N ds (val g) a0.tmps,a0.defers⟩ w):
  (Code.region id ops au).wpIn F n P Q a0 w0:=by
 subst cH;refine wpIn_region_any hm ?_;have key:∀(m:Nat) (listed:Array Bool) (a:Act) (w:aj) (g:G),DD ops.size listed=m->Ad ops.size ds val a0 g listed a->abm ops listed->W g listed w->wpAnyIn F n P .any ops Q m listed a w:=by
  intro m;have mh:∀(listed:Array Bool) (a:Act) (w:aj) (g:G),Ad ops.size ds val a0 g listed a->W g listed w->ki .any ops listed=[]->Q .normal a w:=λlisted a w g T hW hr=>by have hall:∀j,j<ops.size->listed.getD j aw=au:=λj hj=>(by apply eV;intro hc;have:0<DD ops.size listed:=Bl (i:=j) hj (by rw[dO,fP (by rw[T.size];exact hj)]at hc⊢;simpa using hc);obtain⟨x,hx⟩:=zN rfl T.size hedge this;rw[hr]at hx;cases hx);rw[T.end_ inj hlt hall];exact hend g listed w hall hW
  induction m with
  |zero=>intro listed a w g hu T hs hW;have hr:ki .any ops listed=[]:=(by apply List.eq_nil_iff_forall_not_mem.2;intro x hx;obtain⟨mO,o,ho,_⟩:=mem_ready.1 hx;have:=Bl (bF.1 ho).1 mO;omega);exact⟨hr,mh _ _ _ g T hW hr⟩
  |succ m ih=>
   intro listed a w g hu T hs hW;refine⟨mh _ _ _ g T hW,λi hi=>?_⟩;obtain⟨mO,o,ho,eR⟩:=mem_ready.1 hi;have j4:i<ops.size:=(bF.1 ho).1;have acU:listed.getD i aw=aw:=(by rw[dO,fP (by rw[T.size];exact j4)]at mO⊢;exact mO);refine wpOpIn_step ho λK hK=>?_;refine step g listed i o a w ho j4 acU hs eR T hW K λg' v w' hv hvi sN=>hK _ _ (ih _ _ _ g' ?_ ?_ ?_ sN)
   .have:=OH T.size mO;show DD ops.size (listed.setIfInBounds i au)=m;omega
   .rw[Dl i o ho];exact T.put inj hlt j4 hv hvi
   .intro j o' xe hl e he hb;by_cases e2:e.on=i
    .rw[e2];exact l9 (by rw[T.size];exact j4)
    .rw[jG e2];by_cases e1:j=i
     .subst e1;rw[ho]at xe;obtain rfl:=bj xe;exact eR e he hb
     .rw[jG e1]at hl;exact hs j o' xe hl e he hb
 refine key _ _ _ _ g0 (B9 _) ⟨aJ,rfl,rfl,λj s hj _ h=>?_,λs _=>rfl⟩ (λj o hj h=>?_) h0
 .simp[dO,hj]at h
 .have:=(bF.1 hj).1;simp[dO,this]at h
end
end
section
open Go Go.RowKit Go.Shelf
attribute [local go_sem] Oper.semAt_some
noncomputable def M3:Code:=(f182.body).getD .skip
def ds4:Nat->Option Nat:=λj=>if j<14 then ae (9+j)else ah
def uW(b off:Nat)(p q:Int):Nat->ay
 |0=>aD (ae ⟨b,off,ah⟩) 2 2|1=>aq af 2|2=>.bool aw|3=>.bool aw|4=>aD (ae ⟨b,off,ah⟩) 2 2|5=>aI (ae ⟨b,off,ah⟩)|6=>aI (ae ⟨b,off,ah⟩)|7=>aq af p
 |8=>aD (ae ⟨b,off,ah⟩) 2 2|9=>aI (ae ⟨b,off+2,ah⟩)|10=>aI (ae ⟨b,off+2,ah⟩)|11=>aq af q|_=>.bool (p !=q)
def Pj:Code->Array aZ
 |.region _ ops _=>ops
 |_=> #[]
def acV:Code->Code
 |.rangeFunc _ _ _ b=>b
 |x=>x
noncomputable def Gy:Code:=acV M3.r.r.l.r.l
noncomputable def Fo:Array aZ:=Pj Gy.l.l.l
noncomputable def Kf:Array aZ:=Pj Gy.l.r
theorem abn:Pg Fo 14 40 ds4=au:=aQ
theorem acW{n l:Nat}{off:Nat}{q0:Int}(hsz:a0.tmps.size=40)(h5:a0.tmps.getD 5 aO=aD (ae ⟨b,off,ah⟩) 2 2)(c0:w0.cell? ⟨b,off,ah⟩=ae (aq af p0))(c1:w0.cell? ⟨b,off+2,ah⟩=ae (aq af q0))
  (h:Q .normal ⟨AP 14 ds4 (uW b off p0 q0) a0.tmps,a0.defers⟩ w0.drew):(Code.region 4 Fo au).wpIn (F.inRound l) n aC Q a0 w0:=by
 obtain⟨cH,hedge,Dl,inj,hlt⟩:=uh abn;refine se (G:=Unit) cH aQ hedge ds4 Dl inj (λi s hi hs=>by rw[hsz];exact hlt i s hi hs) (λ_=>uW b off p0 q0) (λ_ _ w=>w=w0.drew) () rfl ?_ (λ_ _ w _ hw=>by subst hw;exact h);rintro⟨⟩ listed i o a w ho hi mO hs eR T rfl K hK;have t5:a.tmps.getD 5 aO=aD (ae ⟨b,off,ah⟩) 2 2:=(T.off 5 aN).trans h5;have hK':=hK ();have Bp:∀(o:aZ),o.guard=ah->dF o (dW Fo a.tmps)=au:=λo h=>by unfold dF;rw[h]
 have g3:∀(o:aZ),o.guard=ae (3,aw)->(∀e∈o.after,fq .any e=au->listed.getD e.on aw=au)->(⟨3,.guard⟩:Edge)∈o.after->dF o (dW Fo a.tmps)=au:=λo h1 h2 h3=>by
  have h4:=T.on 3 12 aN rfl (h2 _ h3 rfl);have e3:(Fo[3]?).bind (·.dst)=ae 12:=aQ;rw[dO]at h4;unfold dF dW;rw[h1];simp only[e3,Option.bind_some];cases e:a.tmps[12]? with
  |none=>rw[e]at h4;cases h4
  |some v=>rw[e]at h4;have h4:v=.bool aw:=h4;subst h4;rfl
 clear Dl hedge hlt inj cH hK;simp only[Fo,Pj,Gy,acV,M3,f182,Code.l,Code.r,cN]at ho;obtain rfl|rfl|rfl|rfl|rfl|rfl|rfl|rfl|rfl|rfl|rfl|rfl|rfl|rfl:i=0\/i=1\/i=2\/i=3\/i=4\/i=5\/i=6\/i=7\/i=8\/i=9\/i=10\/i=11\/i=12\/i=13:=ai;all_goals (simp only[kJ,oP,nK,dD]at ho;subst ho)
 .rw[aX (Bp _ rfl)];go_simp;exact hK' _ _ (λ_ _ _=>rfl) (λ_=>rfl) rfl
 .have t9:a.tmps.getD 9 aO=_:=T.on 0 9 aN rfl (eR ⟨0,.data⟩ aJ rfl);simp only[uW]at t9;rw[aX (Bp _ rfl)];go_simp;exact hK' _ _ (λ_ _ _=>rfl) (λ_=>rfl) rfl
 .have t10:a.tmps.getD 10 aO=_:=T.on 1 10 aN rfl (eR ⟨1,.data⟩ aJ rfl);simp only[uW]at t10;rw[aX (Bp _ rfl)];go_simp;exact hK' _ _ (λ_ _ _=>rfl) (λ_=>rfl) rfl
 .have t11:a.tmps.getD 11 aO=_:=T.on 2 11 aN rfl (eR ⟨2,.data⟩ aJ rfl);simp only[uW]at t11;rw[aX (Bp _ rfl)];go_simp;exact hK' _ _ (λ_ _ _=>rfl) (λ_=>rfl) rfl
 .rw[aX (g3 _ rfl eR aJ)];go_simp;exact hK' _ _ (λ_ _ _=>rfl) (λ_=>rfl) rfl
 .have t13:a.tmps.getD 13 aO=_:=T.on 4 13 aN rfl (eR ⟨4,.data⟩ aJ rfl);simp only[uW]at t13;rw[aX (g3 _ rfl eR aJ)];go_simp;exact hK' _ _ (λ_ _ _=>rfl) (λ_=>rfl) rfl
 .have t14:a.tmps.getD 14 aO=_:=T.on 5 14 aN rfl (eR ⟨5,.data⟩ aJ rfl);simp only[uW]at t14;rw[aX (g3 _ rfl eR aJ)];go_simp;exact hK' _ _ (λ_ _ _=>rfl) (λ_=>rfl) rfl
 .have t15:a.tmps.getD 15 aO=_:=T.on 6 15 aN rfl (eR ⟨6,.data⟩ aJ rfl);simp only[uW]at t15;rw[aX (g3 _ rfl eR aJ)];go_simp;exact hK' _ _ (λ_ _ _=>rfl) (λ_=>rfl) rfl
 .rw[aX (g3 _ rfl eR aJ)];go_simp;exact hK' _ _ (λ_ _ _=>rfl) (λ_=>rfl) rfl
 .have t17:a.tmps.getD 17 aO=_:=T.on 8 17 aN rfl (eR ⟨8,.data⟩ aJ rfl);simp only[uW]at t17;rw[aX (g3 _ rfl eR aJ)];go_simp;exact hK' _ _ (λ_ _ _=>rfl) (λ_=>rfl) rfl
 .have t18:a.tmps.getD 18 aO=_:=T.on 9 18 aN rfl (eR ⟨9,.data⟩ aJ rfl);simp only[uW]at t18;rw[aX (g3 _ rfl eR aJ)];go_simp;exact hK' _ _ (λ_ _ _=>rfl) (λ_=>rfl) rfl
 .have t19:a.tmps.getD 19 aO=_:=T.on 10 19 aN rfl (eR ⟨10,.data⟩ aJ rfl);simp only[uW]at t19;rw[aX (g3 _ rfl eR aJ)];go_simp;exact hK' _ _ (λ_ _ _=>rfl) (λ_=>rfl) rfl
 .have t16:a.tmps.getD 16 aO=_:=T.on 7 16 aN rfl (eR ⟨7,.data⟩ aJ rfl);simp only[uW]at t16;have t20:a.tmps.getD 20 aO=_:=T.on 11 20 aN rfl (eR ⟨11,.data⟩ aJ rfl);simp only[uW]at t20;rw[aX (g3 _ rfl eR aJ)];go_simp;exact hK' _ _ (λ_ _ _=>rfl) (λ_=>rfl) rfl
 .have t12:a.tmps.getD 12 aO=_:=T.on 3 12 aN rfl (eR ⟨3,.data⟩ aJ rfl);simp only[uW]at t12;have t21:a.tmps.getD 21 aO=_:=T.on 12 21 aN rfl (eR ⟨12,.data⟩ aJ rfl);simp only[uW]at t21;rw[aX (Bp _ rfl)];go_simp;exact hK' _ _ (λ_ _ _=>rfl) (λ_=>rfl) rfl
def ds6:Nat->Option Nat:=λj=>if j<16 then ae (23+j)else ah
structure G6 where
 v:ay
 w:aj
def sJ(b off nb:Nat)(v0:ay)(p0 p1 q1:Int)(g:G6):Nat->ay
 |0=>v0|1=>aD (ae ⟨b,off,ah⟩) 2 2|2=>aI (ae ⟨b,off,ah⟩)|3=>aI (ae ⟨b,off,ah⟩)|4=>aq af p0
 |5=>aD (ae ⟨b,off,ah⟩) 2 2|6=>aI (ae ⟨b,off,ah⟩)|7=>aI (ae ⟨b,off+1,ah⟩)|8=>aq af p1
 |9=>aD (ae ⟨b,off,ah⟩) 2 2|10=>aI (ae ⟨b,off+2,ah⟩)|11=>aI (ae ⟨b,off+2+1,ah⟩)|12=>aq af q1
 |13=>.agg #[aq af p0,aq af p1,aq af q1]|14=>aD (ae ⟨nb,0,ah⟩) 1 1|_=>g.v
theorem afq:Pg Kf 17 40 ds6=au:=aQ
def W6(base:Nat)(w1:aj)(box:aP)(v0:ay)(k:Nat)(xs:List ay)(p0 p1 q1:Int)(g:G6)(l:Array Bool)(w:aj):Prop:=
 (l.getD 14 aw=aw->w=w1)/\(l.getD 14 aw=au->l.getD 15 aw=aw->w=w1.alloc (aK #[aq af p0,aq af p1,aq af q1] 65))/\
 (l.getD 15 aw=au->g.w.ownsRow base 65 3 g.v (k+1) (xs++[aq af p0,aq af p1,aq af q1])/\(w1.alloc (aK #[aq af p0,aq af p1,aq af q1] 65)).grownBy g.w v0.ownBlock/\w=if l.getD 16 aw=au then g.w.setCell box g.v else g.w)
theorem acX{n l:Nat}{off bx base k:Nat}{p1 q1:Int}(hsz:a0.tmps.size=40)(h4:a0.tmps.getD 4 aO=aI (ae ⟨bx,0,ah⟩))(h5:a0.tmps.getD 5 aO=aD (ae ⟨b,off,ah⟩) 2 2)
  (c0:w0.cell? ⟨b,off,ah⟩=ae (aq af p0))(c1:w0.cell? ⟨b,off+1,ah⟩=ae (aq af p1))(c2:w0.cell? ⟨b,off+2+1,ah⟩=ae (aq af q1))(cb:w0.heap[bx]? =ae (aK #[v0] 66 (0,0)))(hrow:w0.ownsRow base 65 3 v0 k xs)(hk:k<=1000000)(hbase:base<=w0.heap.size)
  (hbb:v0.ownBlock≠ae bx)
  (h:∀g:G6,g.w.ownsRow base 65 3 g.v (k+1) (xs++[aq af p0,aq af p1,aq af q1])->(w0.alloc (aK #[aq af p0,aq af p1,aq af q1] 65)).grownBy g.w v0.ownBlock->Q .normal ⟨AP 17 ds6 (sJ b off w0.heap.size v0 p0 p1 q1 g) a0.tmps,a0.defers⟩ (g.w.setCell ⟨bx,0,ah⟩ g.v)):(Code.region 6 Kf au).wpIn (F.inRound l) n aC Q a0 w0:=by
 obtain⟨cH,hedge,Dl,inj,hlt⟩:=uh afq;refine se (G:=G6) cH aQ hedge ds6 Dl inj (λi s hi hs=>by rw[hsz];exact hlt i s hi hs) (sJ b off w0.heap.size v0 p0 p1 q1) (W6 base w0.drew ⟨bx,0,ah⟩ v0 k xs p0 p1 q1) ⟨aO,w0⟩ ?_ ?_ (λg l w hl hw=>?_)
 .have nl:∀x,(Array.replicate 17 aw).getD x aw=aw:=λx=>by rw[dO];simp[rO];split<;>simp
  refine⟨λ_=>rfl,λh=>?_,λh=>?_⟩ <;> · rw[nl]at h;cases h
 .rintro g listed i o a w ho j4 mO hs eR T hW K hK;have t4:a.tmps.getD 4 aO=aI (ae ⟨bx,0,ah⟩):=(T.off 4 aN).trans h4;have t5:a.tmps.getD 5 aO=aD (ae ⟨b,off,ah⟩) 2 2:=(T.off 5 aN).trans h5;have Bp:∀(o:aZ),o.guard=ah->dF o (dW Kf a.tmps)=au:=λo h=>by unfold dF;rw[h]
  have keep:i≠14->i≠15->i≠16->W6 base w0.drew ⟨bx,0,ah⟩ v0 k xs p0 p1 q1 g (DF listed i) w:=λh1 h2 h3=>by unfold W6;rw[jG (bZ h1),jG (bZ h2),jG (bZ h3)];exact hW
  have back:∀(j x:Nat) (o:aZ),Kf[j]? =ae o->(∃e∈o.after,fq .any e=au/\e.on=x)->listed.getD x aw=aw->listed.getD j aw=aw:=λj x o h1 ⟨e,h2,h3,h4⟩ h5=>by
   cases h6:listed.getD j aw with
   |false=>rfl
   |true=>have:=hs j o h1 h6 e h2 h3;rw[h4,h5]at this;cases this
  clear Dl hedge hlt inj cH hs;simp only[Kf,Pj,Gy,acV,M3,f182,Code.l,Code.r,cN]at ho back;obtain rfl|rfl|rfl|rfl|rfl|rfl|rfl|rfl|rfl|rfl|rfl|rfl|rfl|rfl|rfl|rfl|rfl:i=0\/i=1\/i=2\/i=3\/i=4\/i=5\/i=6\/i=7\/i=8\/i=9\/i=10\/i=11\/i=12\/i=13\/i=14\/i=15\/i=16:=ai;all_goals (simp only[kJ,oP,nK,dD]at ho;subst ho)
  .have l15:=back 15 0 _ rfl ⟨⟨0,.data⟩,aJ,rfl,rfl⟩ mO;have cb0:=cO cb 0;have hc:w.cell? ⟨bx,0,ah⟩=ae v0:=by
    cases Pk:listed.getD 14 aw with
    |false=>rw[hW.1 Pk];exact cb0
    |true=>rw[hW.2.1 Pk l15];exact(qs w0.drew _ _ (ez w0 _ cb0)).trans cb0
   rw[aX (Bp _ rfl)];go_simp;exact hK g _ _ (λ_ _ _=>rfl) (λ_=>rfl) (keep aN aN aN)
  .rw[aX (Bp _ rfl)];go_simp;exact hK g _ _ (λ_ _ _=>rfl) (λ_=>rfl) (keep aN aN aN)
  .have t24:a.tmps.getD 24 aO=_:=T.on 1 24 aN rfl (eR ⟨1,.data⟩ aJ rfl);simp only[sJ]at t24;rw[aX (Bp _ rfl)];go_simp;exact hK g _ _ (λ_ _ _=>rfl) (λ_=>rfl) (keep aN aN aN)
  .have t25:a.tmps.getD 25 aO=_:=T.on 2 25 aN rfl (eR ⟨2,.data⟩ aJ rfl);simp only[sJ]at t25;rw[aX (Bp _ rfl)];go_simp;exact hK g _ _ (λ_ _ _=>rfl) (λ_=>rfl) (keep aN aN aN)
  .have t26:a.tmps.getD 26 aO=_:=T.on 3 26 aN rfl (eR ⟨3,.data⟩ aJ rfl);simp only[sJ]at t26;have l13:=back 13 4 _ rfl ⟨⟨4,.data⟩,aJ,rfl,rfl⟩ mO;have Pk:=back 14 13 _ rfl ⟨⟨13,.data⟩,aJ,rfl,rfl⟩ l13;obtain rfl:=hW.1 Pk;rw[aX (Bp _ rfl)];go_simp;exact hK g _ _ (λ_ _ _=>rfl) (λ_=>rfl) (keep aN aN aN)
  .rw[aX (Bp _ rfl)];go_simp;exact hK g _ _ (λ_ _ _=>rfl) (λ_=>rfl) (keep aN aN aN)
  .have t28:a.tmps.getD 28 aO=_:=T.on 5 28 aN rfl (eR ⟨5,.data⟩ aJ rfl);simp only[sJ]at t28;rw[aX (Bp _ rfl)];go_simp;exact hK g _ _ (λ_ _ _=>rfl) (λ_=>rfl) (keep aN aN aN)
  .have t29:a.tmps.getD 29 aO=_:=T.on 6 29 aN rfl (eR ⟨6,.data⟩ aJ rfl);simp only[sJ]at t29;rw[aX (Bp _ rfl)];go_simp;exact hK g _ _ (λ_ _ _=>rfl) (λ_=>rfl) (keep aN aN aN)
  .have t30:a.tmps.getD 30 aO=_:=T.on 7 30 aN rfl (eR ⟨7,.data⟩ aJ rfl);simp only[sJ]at t30;have l13:=back 13 8 _ rfl ⟨⟨8,.data⟩,aJ,rfl,rfl⟩ mO;have Pk:=back 14 13 _ rfl ⟨⟨13,.data⟩,aJ,rfl,rfl⟩ l13;obtain rfl:=hW.1 Pk;rw[aX (Bp _ rfl)];go_simp;exact hK g _ _ (λ_ _ _=>rfl) (λ_=>rfl) (keep aN aN aN)
  .rw[aX (Bp _ rfl)];go_simp;exact hK g _ _ (λ_ _ _=>rfl) (λ_=>rfl) (keep aN aN aN)
  .have t32:a.tmps.getD 32 aO=_:=T.on 9 32 aN rfl (eR ⟨9,.data⟩ aJ rfl);simp only[sJ]at t32;rw[aX (Bp _ rfl)];go_simp;exact hK g _ _ (λ_ _ _=>rfl) (λ_=>rfl) (keep aN aN aN)
  .have t33:a.tmps.getD 33 aO=_:=T.on 10 33 aN rfl (eR ⟨10,.data⟩ aJ rfl);simp only[sJ]at t33;rw[aX (Bp _ rfl)];go_simp;exact hK g _ _ (λ_ _ _=>rfl) (λ_=>rfl) (keep aN aN aN)
  .have t34:a.tmps.getD 34 aO=_:=T.on 11 34 aN rfl (eR ⟨11,.data⟩ aJ rfl);simp only[sJ]at t34;have l13:=back 13 12 _ rfl ⟨⟨12,.data⟩,aJ,rfl,rfl⟩ mO;have Pk:=back 14 13 _ rfl ⟨⟨13,.data⟩,aJ,rfl,rfl⟩ l13;obtain rfl:=hW.1 Pk;rw[aX (Bp _ rfl)];go_simp;exact hK g _ _ (λ_ _ _=>rfl) (λ_=>rfl) (keep aN aN aN)
  .have t27:a.tmps.getD 27 aO=_:=T.on 4 27 aN rfl (eR ⟨4,.data⟩ aJ rfl);simp only[sJ]at t27;have t31:a.tmps.getD 31 aO=_:=T.on 8 31 aN rfl (eR ⟨8,.data⟩ aJ rfl);simp only[sJ]at t31;have t35:a.tmps.getD 35 aO=_:=T.on 12 35 aN rfl (eR ⟨12,.data⟩ aJ rfl);simp only[sJ]at t35;have s27:=t27;have s31:=t31;have s35:=t35;rw[dO]at s27 s31 s35;rw[aX (Bp _ rfl)];go_simp;exact hK g _ _ (λ_ _ _=>rfl) (λ_=>rfl) (keep aN aN aN)
  .have t36:a.tmps.getD 36 aO=_:=T.on 13 36 aN rfl (eR ⟨13,.data⟩ aJ rfl);simp only[sJ]at t36;have l15:=back 15 14 _ rfl ⟨⟨14,.data⟩,aJ,rfl,rfl⟩ mO;obtain rfl:=hW.1 mO;have s36:=t36;rw[dO]at s36;rw[aX (Bp _ rfl)];go_simp;refine hK g _ _ (λ_ _ _=>rfl) (λ_=>rfl) ⟨λh=>?_,λ_ _=>rfl,λh=>?_⟩
   .rw[l9 (by rw[T.size];exact j4)]at h;cases h
   .rw[jG aN,l15]at h;cases h
  .have t23:a.tmps.getD 23 aO=_:=T.on 0 23 aN rfl (eR ⟨0,.data⟩ aJ rfl);simp only[sJ]at t23;have t37:a.tmps.getD 37 aO=_:=T.on 14 37 aN rfl (eR ⟨14,.data⟩ aJ rfl);simp only[sJ]at t37;have l16:=back 16 15 _ rfl ⟨⟨15,.data⟩,aJ,rfl,rfl⟩ mO;have Pk:listed.getD 14 aw=au:=eR ⟨14,.data⟩ aJ rfl;obtain rfl:=hW.2.1 Pk mO;rw[aX (Bp _ rfl)];obtain⟨ie,Dk,Ir,Iu,Iw⟩:=kq MT;obtain⟨v',w',hrun,r1,r2,r3⟩:=run_append_own (P:=aC) (w0.drew.alloc (aK #[aq af p0,aq af p1,aq af q1] 65)) base 66 66 65 ie _ 3 24 underlying66 Dk Ir Iu Iw rfl aN v0 k xs (hrow.alloc _) ⟨w0.heap.size,0,ah⟩ 1 1 [aq af p0,aq af p1,aq af q1] rfl (pd (cs:=#[aq af p0,aq af p1,aq af q1]) (t:=65) (fr:=(0,0)) (gN w0.drew _)) pI jk ai (by simp;exact Nat.le_succ_of_le hbase);unfold Oper.wpIn;refine⟨by simp[Oper.about,resolve,Target.leads,Sem.run_pure],?_⟩;rw[Oper.semAt_plain _ _ _ (λc h=>dB)];simp[bT,resolve,invoke,builtin,cS,t23,t37,hrun,Result.andThen];refine hK ⟨v',w'⟩ _ _ (λj hj hl=>?_) (λ_=>rfl) ⟨λh=>?_,λ_ h=>?_,λ_=>⟨r1,r2,?_⟩⟩
   .by_cases e:j=15
    .subst e;rw[mO]at hl;cases hl
    .by_cases e':j=16
     .subst e';rw[l16]at hl;cases hl
     .obtain rfl|rfl|rfl|rfl|rfl|rfl|rfl|rfl|rfl|rfl|rfl|rfl|rfl|rfl|rfl:j=0\/j=1\/j=2\/j=3\/j=4\/j=5\/j=6\/j=7\/j=8\/j=9\/j=10\/j=11\/j=12\/j=13\/j=14:=ai;all_goals rfl
   .rw[jG aN,Pk]at h;cases h
   .rw[l9 (by rw[T.size];exact j4)]at h;cases h
   .rw[jG aN,l16];rfl
  .have t38:a.tmps.getD 38 aO=_:=T.on 15 38 aN rfl (eR ⟨15,.data⟩ aJ rfl);simp only[sJ]at t38;have l15:listed.getD 15 aw=au:=eR ⟨15,.data⟩ aJ rfl;obtain⟨r1,r2,r3⟩:=hW.2.2 l15;rw[mO]at r3;obtain rfl:w=g.w:=(by simpa using r3);have cbg:g.w.heap[bx]? =ae (aK #[v0] 66 (0,0)):=(by have hlt:=(bF.1 cb).1;rw[r2.block bx (by rw[cM];exact Nat.lt_succ_of_lt hlt) (bZ hbb)];exact(gT w0.drew _ _ hlt).trans cb);have cc:=ax (o:=0) cbg;have cf:=aM cbg 0 (bJ _);have cc:g.w.cell? ⟨bx,0,ah⟩=ae v0:=cc;obtain⟨gb,cap',nA⟩:=ownsRow_succ r1;rw[nA]at t38;have Pk:listed.getD 14 aw=au:=by
    cases h:listed.getD 14 aw with
    |true=>rfl
    |false=>have:=back 15 14 _ rfl ⟨⟨14,.data⟩,aJ,rfl,rfl⟩ h;rw[l15]at this;cases this
   have L14:=aA Pk;have HK:=aA hK;have R1:=aA r1;have R2:=aA r2;have HG:=aA nA;have HT:=aA T;have L15:=aA l15;rw[aX (Bp _ rfl)];clear hK r1 r2 r3 nA cbg hW keep back hrow hbb h Bp eR T Pk l15 mO h4 h5 c0 c1 c2 cb;go_simp;have hT:=HT.out;refine HK.out g .nilIface _ (λ_ _ _=>rfl) (λh=>aT rfl h) ⟨λh=>?_,λ_ h=>?_,λ_=>⟨R1.out,R2.out,?_⟩⟩
   .rw[jG aN,L14.out]at h;cases h
   .rw[jG aN,L15.out]at h;cases h
   .rw[l9 (by rw[hT.size];exact j4),aX rfl,HG.out]
 .obtain⟨_,_,h3⟩:=hw;obtain⟨r1,r2,r3⟩:=h3 (hl 15 aN);rw[r3,aX (hl 16 aN)];exact h g r1 ⟨r2.os,r2.tape,r2.output,r2.size,r2.block⟩
def qy(a:Option aP)(es:List cT)(w:aj):Prop:=∀(k:Nat) e,es[k]? =ae e->∃b o,a=ae ⟨b,o,ah⟩/\w.cell? ⟨b,o+2*(2*k),ah⟩=ae (aq af e.c)/\w.cell? ⟨b,o+2*(2*k) +1,ah⟩=ae (aq af e.o)/\w.cell? ⟨b,o+2*(2*k) +2,ah⟩=ae (aq af e.c)/\w.cell? ⟨b,o+2*(2*k) +2+1,ah⟩=ae (aq af e.n)
def chV(x:aP)(k:Nat):ay:=aD (ae ⟨x.block,x.off+2*k*2,ah⟩) 2 2
def Lz(n₀ Bs Bn:Nat)(W W':aj):Prop:=Below n₀ W W'/\W'.heap[Bs]? =W.heap[Bs]?/\W'.heap[Bn]? =W.heap[Bn]?
theorem Lz.refl(W:aj):Lz n₀ Bs Bn W W:=⟨gw _ _,rfl,rfl⟩
theorem Lz.trans{B C:aj}(h:Lz n₀ Bs Bn A B)(g:Lz n₀ Bs Bn B C):Lz n₀ Bs Bn A C:=⟨h.1.trans g.1,g.2.1.trans h.2.1,g.2.2.trans h.2.2⟩
theorem Lz.drew{B:aj}(h:Lz n₀ Bs Bn A B):Lz n₀ Bs Bn A B.drew:=⟨h.1.drew,h.2⟩
abbrev Ck(q:Nat):={k:Nat // k<q}
def Pm(q:Nat):Nat->List (Ck q)
 |0=>[]
 |k+1=>if h:k<q then Pm q k++[⟨k,h⟩]else Pm q k
theorem aaa(q:Nat)(es:List cT)(hq:es.length=q):∀k,k<=q->((Pm q k).map λx=>es[x.1]!)=es.take k:=by
 intro k;induction k with
 |zero=>exact λ_=>by simp[Pm]
 |succ k ih=>intro h;have hk:k<q:=ai;simp only[Pm,hk,dite_true,vE,List.map_cons,List.map_nil];rw[ih ai,J9 ai];simp[show k<es.length by omega]
theorem Pn(q:Nat):∀k,k<=q->(Pm q k).length=k:=by
 intro k;induction k with
 |zero=>exact λ_=>rfl
 |succ k ih=>intro h;have hk:k<q:=ai;simp only[Pm,hk,dite_true,mo,List.length_singleton];rw[ih ai]
theorem Q2(F:Fence)(n:Nat)(h7:F.fn 184)(hro:F.round=ah)(hn:1<=n)(l Bs Bn n₀ cap m q b o:Nat)(hm:m<=1000000)(hq:m=2*q)(J Jx:List (Ck q)->aj->Prop)
  (W:aj)(hJd:∀pre W,J pre W->J pre W.drew)
  (hY:∀pre (k:Ck q) W,J pre W->pre.length<q->YieldAt F (n-1) aC l #[chV ⟨b,o,ah⟩ k.1] W λe W'=>(e=.returned (.bool au)/\J (pre++[k]) W'/\Lz n₀ Bs Bn W W')\/(e=.returned (.bool aw)/\Jx (pre++[k]) W'))
  (hBs:W.cell? ⟨Bs,0,ah⟩=ae (aD (ae ⟨b,o,ah⟩) m cap))(hBn:W.cell? ⟨Bn,0,ah⟩=ae (aq af 2))(tC:m<=cap)(h0:J [] W):
  CallsIn F n aC 184 #[.func (.yield l) #[] #[],aI (ae ⟨Bs,0,ah⟩),aI (ae ⟨Bn,0,ah⟩)] W λe W'=>(∃v,e=.returned v)/\
   ((∃xs,xs=Pm q q/\J xs W')\/(∃pre,True/\Jx pre W')):=by
 have Hq:=aA hq;clear hq;cases F;cases hro;refine callsIn_of_wp func184 rfl h7 ?_ rfl;simp only[ntmps184,j9,fO,gK,Nat.reduceAdd,Nat.reduceSub,Array.replicate_succ,Array.replicate_zero,List.push_toArray,List.append_toArray,kU,jZ]
 gi_wp2
 gi_loopw [4] (λi wr=>∃k:Nat,k<=q/\i=aq af ((2*k:Nat):Int)/\J (Pm q k) wr/\Lz n₀ Bs Bn W wr/\W.heap.size<=wr.heap.size)
  (λi _=>m+2- (intOf i).toNat)
 case atStart=>exact⟨0,ai,rfl,h0,Lz.refl _,bJ _⟩
 case round=>
  obtain⟨k,hk,rfl,hJs,Iq,hsz⟩:=hrel;have aiY:=(dr (w:=W) (a:=⟨Bs,0,ah⟩) Iq.2.1).trans hBs;have aiZ:=(dr (w:=W) (a:=⟨Bn,0,ah⟩) Iq.2.2).trans hBn;by_cases hlt:2*k<m
  .have h2k:2*k+2<=m:=(by have:=Hq.out;omega);have hkq:k<q:=(by have:=Hq.out;omega);have Ar:(((2*k:Nat):Int) < (m:Int)):=ai;have z0:(0:Int)<=((2*k:Nat):Int):=ai;have z1:((2*k:Nat):Int)<=(m:Int):=ai;have hY1:=hY (Pm q k) ⟨k,hkq⟩ wr.drew (hJd _ _ hJs) (by rw[Pn q k hk];exact hkq);dsimp only[chV]at hY1;have J8:Pm q (k+1)=Pm q k++[⟨k,hkq⟩]:=(by simp[Pm,hkq]);rw[←J8]at hY1;have hif:(if((m-2*k:Nat):Int) <2 then((m-2*k:Nat):Int)else 2)=2:=(by rw[aU ai]);have y0:(0:Int)<=((2*k+2:Nat):Int):=ai;have y1:((2*k+2:Nat):Int)<=(cap:Int):=ai;have y2:((2*k:Nat):Int)<=((2*k+2:Nat):Int):=ai;have HY:=aA hY1;have Hif:=aA hif;clear hY1 J8 hif hY;have hw2:IntKind.i64.wrap (((2*k:Nat):Int) +2)=((2*k+2:Nat):Int):=(by rw[gq];omega);generalize Im:2*k=kk at*;have Hkk:=aA Im;clear Im;obtain⟨fn,tmps,assign,body,hy,hR⟩:=HY.out
   gi_wp2
   gi_big_region
   gi_wp2
   refine hR.mono ?_;rintro e W3 (⟨rfl,hJ3,hk3⟩|⟨rfl,Z6⟩)
   .have hs3:wr.heap.size<=W3.heap.size:=hk3.1.size;have hb3:Lz n₀ Bs Bn W W3:=Iq.drew.trans hk3;have ai0:=(dr (w:=W) (a:=⟨Bn,0,ah⟩) hb3.2.2).trans hBn;have Im:=Hkk.out
    gi_wp2
    go_roundw
    case rel=>exact⟨k+1,hkq,by congr 1;omega,hJ3,hb3,ai⟩
    case measure=>simp[intOf];omega
   .gi_wp2
    refine bodyPost_ret (results_none rfl _ _ _) rfl ?_;exact⟨⟨_,rfl⟩,.inr (by first|exact⟨_,trivial,Z6⟩|exact⟨_,Z6⟩)⟩
  .have Ar:¬(((2*k:Nat):Int) < (m:Int)):=ai
   gi_wp2
   go_end0
   obtain rfl:k=q:=(by have:=Hq.out;omega);exact⟨⟨_,rfl⟩,.inl (by first|exact hJs|exact⟨_,rfl,hJs⟩)⟩
theorem chunk_stops(F:Fence)(n:Nat)(h7:F.fn 184)(hro:F.round=ah)(hn:1<=n)(Bs Bn n₀ cap m q b o:Nat)(hm:m<=1000000)(hq:m=2*q)(tC:m<=cap)(w:aj)
  (hBs:w.cell? ⟨Bs,0,ah⟩=ae (aD (ae ⟨b,o,ah⟩) m cap))(hBn:w.cell? ⟨Bn,0,ah⟩=ae (aq af 2)):
  SeqStopsK F n aC 184 #[aI (ae ⟨Bs,0,ah⟩),aI (ae ⟨Bn,0,ah⟩)] (λk:Ck q=> #[chV ⟨b,o,ah⟩ k.1]) (Lz n₀ Bs Bn) (λys=>ys=Pm q q) (λ_=>True) q w:=λl J Jx W hW hJ _ hY h0=>by
 have b1:=ez w _ hBs;have b2:=ez w _ hBn;exact Q2 F n h7 hro hn l Bs Bn n₀ cap m q b o hm hq J Jx W (λpre W1 h=>hJ _ _ _ ah h ⟨rfl,rfl,rfl,bJ _,λ_ _ _=>rfl⟩ (λr e=>by cases e)) hY
  ((hW.cell (p:=⟨Bs,0,ah⟩) b1).trans hBs) ((hW.cell (p:=⟨Bn,0,ah⟩) b2).trans hBn) tC h0
theorem Vb(F:Fence)(n:Nat)(h3:F.fn 183)(hro:F.round=ah)(a:Option aP)(m cap:Nat)(w:aj):
  CallsIn F n aC 183 #[aD a m cap,aq af 2] w λe w'=>e=.returned (.func (.func 184) #[] #[aI (ae ⟨w.heap.size,0,ah⟩),aI (ae ⟨w.heap.size+1,0,ah⟩)])/\(w.alloc (aK #[aD a m cap] 46)).alloc (aK #[aq af 2] 3)=w':=by
 refine callsIn_of_wp func183 rfl h3 ?_ hro;simp only[ntmps183,j9,fO,gK,Nat.reduceAdd,Nat.reduceSub,Array.replicate_succ,Array.replicate_zero,List.push_toArray,List.append_toArray,kU,jZ]
 gi_wp2
 go_ret
 exact⟨rfl,rfl⟩
theorem rB(W:aj)(l:Nat)(o:Obj)(y:Nat)(h:y≠l):(W.putObj l o).heap[y]? =W.heap[y]? :=by simp[World.putObj,EH,bZ h]
end
section
open Go Go.RowKit
def za(w:aj)(wk:Option aP)(work:List (List bs)):Prop:=∀(k:Nat) l,work[k]? =ae l->∃b o a cap,wk=ae ⟨b,o,ah⟩/\w.cell? ⟨b,o+k,ah⟩=ae (aD a l.length cap)/\
 ∀(i:Nat) c,l[i]? =ae c->∃b' o',a=ae ⟨b',o',ah⟩/\w.cell? ⟨b',o'+i*5,ah⟩=ae (aq af c.kind)/\w.cell? ⟨b',o'+i*5+2,ah⟩=ae (aq af c.b)
theorem za.at{w:aj}{wk:Option aP}{work:List (List bs)}(h:za w wk work)(hc:∀(x:aP) u,w.cell? x=ae u->w'.cell? x=ae u):za w' wk work:=λk l hl=>by obtain⟨b,o,a,cap,e,h1,h2⟩:=h k l hl;exact⟨b,o,a,cap,e,hc _ _ h1,λi c hi=>by obtain⟨b',o',e',h3,h4⟩:=h2 i c hi;exact⟨b',o',e',hc _ _ h3,hc _ _ h4⟩⟩
def acY(w:aj)(e:Ending)(w':aj):Prop:=e=.returned (.bool au)/\Below w.heap.size w w'
theorem one_any(gb gf lc n:Nat)(x v un:Int)(wk tu ha:Option aP)(wc tn tc hm hc:Nat)(work:List (List bs))(w:aj)(hn:1<=n/\n<=1000)(hl:∀i,i<n->w.cell? ⟨gb,gf+i,ah⟩=ae (aq af x))(h:za w wk work)(hL:work.length<=1000/\∀l∈work,l.length<=1000)
  (hS:x=v\/∃(k:Nat) (l:List bs),work[k]? =ae l/\∃(i:Nat) (c:bs),l[i]? =ae c/\c.kind=2/\c.b=x):
  b9 aC 17 #[aD (ae ⟨gb,gf,ah⟩) n lc,aq af n,aq af v,.agg (aW wk tu ha work.length wc tn tc hm hc un)] w (acY w):=by
 simp only[aW];obtain⟨hL1,hL⟩:=hL;obtain⟨W,hW⟩:∃W,W=w.alloc (aK #[aD wk work.length wc,aD tu tn tc,aD ha hm hc,aq af un] 25):=⟨_,rfl⟩;have kW:Below w.heap.size w W:=by rw[hW];exact(gw _ _).alloc (bJ _) _
 have cW:∀(x:aP) u,w.cell? x=ae u->W.cell? x=ae u:=λx u h=>(kW.cell (ez w _ h)).trans h;have bW:W.cell? ⟨w.heap.size,0,ah⟩=ae (aD wk work.length wc):=by rw[hW,zW];rfl
 have HI:=aA (h.at cW);have Hl:=aA (λi hi=>cW _ _ (hl i hi));have HK:=aA kW;have HW:=aA hW;have HL:=aA hL;have HB:=aA bW;have HS:=aA hS;clear hW kW cW h hL hl bW hS;have hnn:((n:Int) !=(n:Int))=aw:=aJ;have hxx:(x !=x)=aw:=aJ;go_enter func17,ntmps17
 go_wp2;rw[←HW.out];clear HW;have c0:=Hl.out 0 hn.1;rw[Nat.add_zero]at c0;go_loopw [9] (λi wr=>∃j:Nat,j<=n/\1<=j/\i=aq af j/\Below W.heap.size W wr) (λi _=>n- (intOf i).toNat)
 case atStart=>exact⟨1,hn.1,bJ _,rfl,gw _ _⟩
 case round=>
  obtain⟨j,hj,hj1,rfl,dQ⟩:=hrel;have hcc:=λ(x:aP) v (h:W.cell? x=ae v)=>(dQ.cell (ez W _ h)).trans h;have c0':=hcc _ _ c0;have YT:=aA hcc;have jm:=aA dQ;clear hcc dQ;by_cases hlt:j<n
  .have cj:=YT.out _ _ (Hl.out j hlt);go_wp2_with fail
   go_quiet (fail)
   go_wp2;go_roundw
   case rel=>exact⟨j+1,ai,ai,fY,below_drewN jm.out⟩
   case measure=>simp[intOf];omega
  .obtain rfl:j=n:=ai;have bW:=YT.out _ _ HB.out;by_cases hv:x=v
   .have hb:(x==v)=au:=(by simpa using hv);clear hv;go_wp2;go_ret
    exact⟨rfl,HK.out.trans (jm.out.mono HK.out.size)⟩
   .have hb:(x==v)=aw:=(by simpa using hv);have hS:=HS.out.resolve_left hv;have Q3:=aA hS;clear hv hS;go_wp2;go_loopw [10] (λi wr2=>∃k:Nat,k<=work.length/\i=aq af k/\(∃(k0:Nat) (l:List bs),k<=k0/\work[k0]? =ae l/\∃(i:Nat) (c:bs),l[i]? =ae c/\c.kind=2/\c.b=x)/\Below W.heap.size W wr2) (λi _=>work.length- (intOf i).toNat)
    case atStart=>obtain⟨k0,l,h1,h2⟩:=Q3.out;exact⟨0,bQ _,rfl,⟨k0,l,bQ _,h1,h2⟩,jm.out⟩
    case round=>
     obtain⟨k,hk,rfl,hex,rX⟩:=hrel;have acZ:=λ(x:aP) v (h:W.cell? x=ae v)=>(rX.cell (ez W _ h)).trans h;have bW:=acZ _ _ HB.out;have ahn:k<work.length:=(by obtain⟨k0,l,h1,h2,_⟩:=hex;have:=(eX.1 h2).1;omega);obtain⟨l,hlk⟩:∃l,work[k]? =ae l:=⟨_,eQ ahn⟩;obtain⟨b,o,a,cap,rfl,OV,hrow⟩:=HI.out k l hlk;have hcr:=acZ _ _ OV;have Lr:=HL.out l (nJ hlk);have Hex:=aA hex;have uU:=aA hrow;have Hlk:=aA hlk;have qq:=aA rX;clear hex hrow hlk rX acZ;go_wp2;go_loopw [11] (λi wr3=>∃q:Nat,q<=l.length/\i=aq af q/\((∃(k0:Nat) (l:List bs),k+1<=k0/\work[k0]? =ae l/\∃(i:Nat) (c:bs),l[i]? =ae c/\c.kind=2/\c.b=x)\/∃(i:Nat) (c:bs),q<=i/\l[i]? =ae c/\c.kind=2/\c.b=x)/\Below W.heap.size W wr3) (λi _=>l.length- (intOf i).toNat)
     case atStart=>
      refine⟨0,bQ _,rfl,?_,qq.out⟩;obtain⟨k0,l0,h1,h2,i,c,h3,h4⟩:=Hex.out;rcases ji k k0 with Ar|CO
      .exact .inl ⟨k0,l0,Ar,h2,i,c,h3,h4⟩
      .obtain rfl:k=k0:=ai;rw[Hlk.out]at h2;obtain rfl:=bj h2;exact .inr ⟨i,c,bQ _,h3,h4⟩
     case round=>
      obtain⟨q,hq,rfl,afr,pG⟩:=hrel;have Vd:=λ(x:aP) v (h:W.cell? x=ae v)=>(pG.cell (ez W _ h)).trans h;have bW:=Vd _ _ HB.out;have hcr:=Vd _ _ OV;have ai1:=Vd _ _ c0;have afs:=aA Vd;have ac0:=aA afr;have ua:=aA pG;clear Vd afr pG;by_cases Gm:q<l.length
      .obtain⟨b2,o2,rfl,d0,d2⟩:=uU.out q l[q] (eQ Gm);have d0:=afs.out _ _ d0;have d2:=afs.out _ _ d2;generalize hcq:l[q]=c at*;have Hcq:=aA hcq;clear hcq;by_cases hk2:c.kind=2
       .have hb2:(c.kind==2)=au:=(by simpa using hk2);by_cases UQ:c.b=x
        .have hb3:(c.b==x)=au:=(by simpa using UQ);clear hk2 UQ;generalize c.kind=kd at*;generalize c.b=cb at*;go_wp2_with fail
         go_quiet (fail)
         go_wp2;go_ret
         exact⟨rfl,HK.out.trans ((below_drewN ua.out).mono HK.out.size)⟩
        .have hb3:(c.b==x)=aw:=(by simpa using UQ);have hne:=aA UQ;clear hk2 UQ;have Hgo:RowKit.Hid ((∃(k0:Nat) (l:List bs),k+1<=k0/\work[k0]? =ae l/\∃(i:Nat) (c:bs),l[i]? =ae c/\c.kind=2/\c.b=x)\/∃(i:Nat) (c:bs),q+1<=i/\l[i]? =ae c/\c.kind=2/\c.b=x):=aA (ac0.out.imp id λ⟨i,c',h1,h2,h3,h4⟩=>⟨i,c',by
          rcases ji q i with h|h
          .exact h
          .obtain rfl:q=i:=ai;rw[eQ Gm,Hcq.out]at h2;obtain rfl:=bj h2;exact aT h4 hne.out,h2,h3,h4⟩)
         generalize c.kind=kd at*;generalize c.b=cb at*;go_wp2_with fail
         go_quiet (fail)
         go_wp2;go_roundw
         case rel=>exact⟨q+1,ai,fY,Hgo.out,below_drewN ua.out⟩
         case measure=>simp[intOf];omega
       .have hb2:(c.kind==2)=aw:=(by simpa using hk2);have hne:=aA hk2;clear hk2;have Hgo:RowKit.Hid ((∃(k0:Nat) (l:List bs),k+1<=k0/\work[k0]? =ae l/\∃(i:Nat) (c:bs),l[i]? =ae c/\c.kind=2/\c.b=x)\/∃(i:Nat) (c:bs),q+1<=i/\l[i]? =ae c/\c.kind=2/\c.b=x):=aA (ac0.out.imp id λ⟨i,c',h1,h2,h3,h4⟩=>⟨i,c',by
         rcases ji q i with h|h
         .exact h
         .obtain rfl:q=i:=ai;rw[eQ Gm,Hcq.out]at h2;obtain rfl:=bj h2;exact aT h3 hne.out,h2,h3,h4⟩)
        generalize c.kind=kd at*;generalize c.b=cb at*;go_wp2_with fail
        go_quiet (fail)
        go_wp2;go_roundw
        case rel=>exact⟨q+1,ai,fY,Hgo.out,below_drewN ua.out⟩
        case measure=>simp[intOf];omega
      .obtain rfl:q=l.length:=ai;have Hgo:=aA (ac0.out.resolve_right λ⟨i,c,h1,h2,_⟩=>by have:=(eX.1 h2).1;omega);go_wp2;go_roundw
       case rel=>exact⟨k+1,ai,fY,Hgo.out,ua.out⟩
       case measure=>simp[intOf];omega
end
section
section
variable{β:Type}{R G:σ->σ->Prop}
def Pr.Sf(I:σ->Prop)(R G:σ->σ->Prop)(Q:α->σ->Prop):Pr σ α->σ->Prop
 |.ret a,s=>Q a s
 |.line p,s=>∀s',I s'->R s s'->Pr.Sf I R G Q p s'
 |.eff f k,s=>I (f s)/\G s (f s)/\Pr.Sf I R G Q (k s) (f s)
 |.stop,_=>True
theorem Pr.Sf.nd{Q:α->σ->Prop}{a:α}{s:σ}(h:Q a s):(Pr.ret a).Sf I R G Q s:=h
theorem Pr.Sf.mono{Q:α->σ->Prop}(hG:∀a b,G a b->G' a b)(h:∀a s,I s->Q a s->Q' a s):∀{p:Pr σ α} {s:σ},I s->p.Sf I R G Q s->p.Sf I R G' Q' s:=by
 intro p;induction p with
 |ret a=>exact λhI hp=>h _ _ hI hp
 |line p ih=>exact λ_ hp s' h1 h2=>ih h1 (hp s' h1 h2)
 |eff f k ih=>exact λ_ hp=>⟨hp.1,hG _ _ hp.2.1,ih _ hp.1 hp.2.2⟩
 |stop=>exact λ_ _=>trivial
theorem Pr.Sf.bind{Q:α->σ->Prop}{Q':β->σ->Prop}{k:α->Pr σ β}(h:∀a s,I s->Q a s->(k a).Sf I R G Q' s):∀{p:Pr σ α} {s:σ},I s->p.Sf I R G Q s->(p.bind k).Sf I R G Q' s:=by
 intro p;induction p with
 |ret a=>exact λhI hp=>h _ _ hI hp
 |line p ih=>exact λ_ hp s' h1 h2=>ih h1 (hp s' h1 h2)
 |eff f q ih=>exact λ_ hp=>⟨hp.1,hp.2.1,ih _ hp.1 hp.2.2⟩
 |stop=>exact λ_ _=>trivial
theorem Pr.Sf.Po{T:σ->σ->Prop}(ht:∀a b c,T a b->T b c->T a c)(h1:∀a b,R a b->T a b)(h2:∀a b,G a b->T a b){Q:α->σ->Prop}{s0:σ}:∀{p:Pr σ α} {s:σ},T s0 s->p.Sf I R G Q s->p.Sf I R G (λa s'=>Q a s'/\T s0 s') s:=by
 intro p;induction p with
 |ret a=>exact λh hp=>⟨hp,h⟩
 |line p ih=>exact λh hp s' g1 g2=>ih (ht _ _ _ h (h1 _ _ g2)) (hp s' g1 g2)
 |eff f q ih=>exact λh hp=>⟨hp.1,hp.2.1,ih _ (ht _ _ _ h (h2 _ _ hp.2.1)) hp.2.2⟩
 |stop=>exact λ_ _=>trivial
theorem Pr.Sf.seg(hr:∀a,R a a)(hg:∀a,G a a)(ht:∀a b c,G a b->G b c->G a c){Q:α->σ->Prop}:∀{p:Pr σ α} {g:Bool} {own:Nat} {s:σ},I s->p.Sf I R G Q s->
  match p.seg g own s with
  |.fin a _ _ s'=>I s'/\G s s'/\Q a s'
  |.line p' _ s'=>I s'/\G s s'/\(Pr.line p').Sf I R G Q s'
  |.lost=>True:=by
 intro p;induction p with
 |ret a=>exact λhI hp=>⟨hI,hg _,hp⟩
 |line p ih=>
  intro g own s hI hp;cases g with
  |true=>exact ih hI (hp s hI (hr s))
  |false=>exact⟨hI,hg _,hp⟩
 |eff f k ih=>
  intro g own s hI hp;have:=ih s (g:=g) (own:=own) hp.1 hp.2.2;show match(k s).seg g own (f s)with|.fin a _ _ s'=>_|.line p' _ s'=>_|.lost=>_;split<;>simp_all
  .exact ht _ _ _ hp.2.1 this.2.1
  .exact ht _ _ _ hp.2.1 this.2.1
 |stop=>exact λ_ _=>trivial
structure AR.Kg(I:σ->Prop)(R G:Nat->σ->σ->Prop)(Pre:Nat->Nat->σ->Prop)(c:cu)(Q:Nat->bs->kC->Prop)(x:AR σ):Prop where
 inv:I x.s
 now:∀k b own p,k<c.n->(x.w k).now=ae (b,own,p)->∃d,(c.calls k)[(x.w k).got.length]? =ae d/\(Pr.line p).Sf I (R k) (G k) (λa s=>Q k d a/\Pre k ((x.w k).got.length+1) s) x.s
 idle:∀k,k<c.n->(x.w k).now=ah->Pre k (x.w k).got.length x.s
 got:∀k (i:Nat) (a:my),k<c.n->(x.w k).got[i]? =ae a->∃d,(c.calls k)[i]? =ae d/\Q k d a.ans
theorem AR.M4{R G:Nat->σ->σ->Prop}(hr:∀k a,R k a a)(hg:∀k a,G k a a)(ht:∀k a b c,R k a b->R k b c->R k a c)(ZH:∀k a b c,G k a b->G k b c->G k a c)(hgr:∀k j a b,j≠k->G k a b->R j a b)
   {c:cu} (ac1:∀k i a b,k<c.n->I a->I b->R k a b->Pre k i a->Pre k i b) {Q:Nat->bs->kC->Prop} (hcall:∀k (i:Nat) d s,k<c.n->(c.calls k)[i]? =ae d->I s->Pre k i s->(L.call k d).Sf I (R k) (G k) (λa s=>Q k d a/\Pre k (i+1) s) s)
  {x:AR σ}(h:x.Kg I R G Pre c Q)(hp:x.pick c<c.n):(x.next L c).Kg I R G Pre c Q:=by
 generalize hk:x.pick c=k at hp;have hs:(∃be p own g d,(x.w k).seg L c k (x.all+1) x.s=(be,Pr.seg p g own x.s)/\(c.calls k)[(x.w k).got.length]? =ae d/\p.Sf I (R k) (G k) (λa s=>Q k d a/\Pre k ((x.w k).got.length+1) s) x.s)\/∃be,(x.w k).seg L c k (x.all+1) x.s=(be,.lost):=by
  cases hn:(x.w k).now with
  |some q=>obtain⟨b,own,p⟩:=q;obtain⟨d,h1,h2⟩:=h.now k b own p hp hn;exact .inl ⟨b,p,own+1,aw,d,by unfold AW.seg;rw[hn],h1,h2 x.s h.inv (hr _ _)⟩
  |none=>
   cases hd:(c.calls k)[(x.w k).got.length]? with
   |none=>exact .inr ⟨x.all+1,by unfold AW.seg;rw[hn,hd]⟩
   |some d=>exact .inl ⟨x.all+1,L.call k d,0,au,d,by unfold AW.seg;rw[hn,hd],rfl,hcall k _ d x.s hp hd h.inv (h.idle k hp hn)⟩
 have Iq:∀be e,(x.w k).seg L c k (x.all+1) x.s=(be,e)->(x.next L c).s=e.state x.s/\(x.next L c).w k=(x.w k).settle (x.all+1) be e/\∀i,i≠k->(x.next L c).w i=x.w i:=λbe e he=>by unfold AR.next;simp only[hk,he];exact⟨trivial,aJ,λi hi=>by simp[hi]⟩
 have hold:∀s',I s'->G k x.s s'->(x.next L c).s=s'->(∀i,i≠k->(x.next L c).w i=x.w i)->(∀b own p,((x.next L c).w k).now=ae (b,own,p)->∃d,(c.calls k)[((x.next L c).w k).got.length]? =ae d/\(Pr.line p).Sf I (R k) (G k) (λa s=>Q k d a/\Pre k (((x.next L c).w k).got.length+1) s) s')->
   (((x.next L c).w k).now=ah->Pre k ((x.next L c).w k).got.length s')->(∀(i:Nat) (a:my),((x.next L c).w k).got[i]? =ae a->∃d,(c.calls k)[i]? =ae d/\Q k d a.ans)->(x.next L c).Kg I R G Pre c Q:=by
  intro s' hI hR e ho hn hi hg;refine⟨by rw[e];exact hI,λi b own p hi hnow=>?_,λi hi' hnow=>?_,λi j a hi ml=>?_⟩
  .by_cases ei:i=k
   .subst ei;rw[e];exact hn b own p hnow
   .rw[ho i ei]at hnow⊢;obtain⟨d,h1,h2⟩:=h.now i b own p hi hnow;exact⟨d,h1,λs2 sO hR2=>h2 s2 sO (ht i _ _ _ (hgr k i _ _ ei hR) (by rw[e]at hR2;exact hR2))⟩
  .by_cases ei:i=k
   .subst ei;rw[e];exact hi hnow
   .rw[ho i ei]at hnow⊢;rw[e];exact ac1 i _ _ _ hi' h.inv hI (hgr k i _ _ ei hR) (h.idle i hi' hnow)
  .by_cases ei:i=k
   .subst ei;exact hg j a ml
   .rw[ho i ei]at ml;exact h.got i j a hi ml
 have abo:∀be,(x.w k).seg L c k (x.all+1) x.s=(be,.lost)->(x.next L c).Kg I R G Pre c Q:=λbe he=>by
  obtain⟨e1,e2,e3⟩:=Iq _ _ he;refine hold x.s h.inv (hg _ _) e1 e3 (λb own p hn=>?_) (λhn=>?_) (λi a hg=>?_)
  .rw[e2]at hn⊢;exact h.now k b own p hp hn
  .rw[e2]at hn⊢;exact h.idle k hp hn
  .rw[e2]at hg;exact h.got k i a hp hg
 rcases hs with⟨be,p,own,g,d,he,hd,aft⟩|⟨be,he⟩
 .have aab:=Pr.Sf.seg (hr k) (hg k) (ZH k) (g:=g) (own:=own) h.inv aft;cases hc:Pr.seg p g own x.s with
  |fin a g' xX s'=>
   rw[hc]at aab he;obtain⟨hI,hR,hQ,hP⟩:=aab;obtain⟨e1,e2,e3⟩:=Iq _ _ he;refine hold s' hI hR e1 e3 (λb own p hn=>?_) (λhn=>?_) (λi a' hg=>?_)
   .rw[e2]at hn;cases hn
   .rw[e2];show Pre k ((x.w k).got++[_]).length s';rw[mo];exact hP
   .rw[e2]at hg;have hg:((x.w k).got++[_])[i]? =ae a':=hg;rw[List.getElem?_append]at hg;split at hg
    .exact h.got k i a' hp hg
    .rename_i hlt;have hi:i=(x.w k).got.length:=(by have:=(eX.1 hg).1;simp at this;omega);subst hi;simp at hg;subst hg;exact⟨d,hd,hQ⟩
  |line p' xX s'=>
   rw[hc]at aab he;obtain⟨hI,hR,hS⟩:=aab;obtain⟨e1,e2,e3⟩:=Iq _ _ he;refine hold s' hI hR e1 e3 (λb own p hn=>?_) (λhn=>?_) (λi a' hg=>?_)
   .rw[e2]at hn⊢;have hn:ae (be,xX,p')=ae (b,own,p):=hn;obtain⟨rfl,rfl,rfl⟩:be=b/\xX=own/\p'=p:=(by simpa using hn);exact⟨d,hd,hS⟩
   .rw[e2]at hn;cases hn
   .rw[e2]at hg;exact h.got k i a' hp hg
  |lost=>rw[hc]at he;exact abo _ he
 .exact abo _ he
end
end
section
open Go Go.Conc Go.ConcN
open Go.ConcR (KK WgAt stA smA Payload Aside2 DC0)
variable[fQ]
variable[Inhabited dc]
def sf(P:bh)(S:bN):fM Ph:=λi fr fs a K=>i=.pre/\∃U:bp->fX,ZigC P au [] (JP P S [] U) (λph cB dg a'=>(ph=.pre\/ph=.post)/\K .post cB dg a') .pre fr fs a
structure Ve(P:bh)(Stop:aB->List aB->aj->Prop)(m:Machine)(T:Trace):Prop where
 ex:∃gs r sl fr fs a,m=bS gs r sl/\gs[0]? =ae (cy fr (fs++[]))/\Stop fr fs a/\Kx r/\Gd r/\((gs.size=1/\SF T r/\∃N:Nat->Prop,Rel (Hid N r) a r/\Sees N (λ_=>ah) a r/\∀b,r.heap.size<=b->N b)\/
  ∃q Wg N,TF P Wg q T gs/\Rel (Hid N r) a r/\Sees N (λ_=>ah) a r/\Hid N r Wg/\(∀b,r.heap.size<=b->N b))
theorem Vf{Stop:aB->List aB->aj->Prop}{a r:aj}(hz:ZigC P au [] (sf P S) (λ_=>Stop) .pre fr fs a)(jA:Sees qo (λ_=>ah) a r)(hrel:Rel (Hid qo r) a r)(Ch:∀b,r.heap.size<=b->qo b)(Um:Kx r)(Mf:Gd r)(F:SF T r):
  ∃n m' T',runNT P n (bS #[cy fr (fs++[])] r sl) T=(.next m',T')/\Ve P Stop m' T':=by
 have alone:∀{i:Ph} {fr:aB} {fs:List aB} {a r:aj} {T:Trace} {sl:Option (Nat×Nat)} {N:Nat->Prop},ZigC P au [] (sf P S) (λ_=>Stop) i fr fs a->Sees N (λ_=>ah) a r->Rel (Hid N r) a r->(∀b,r.heap.size<=b->N b)->Kx r->Gd r->SF T r->
   ∃N1 w1 EW T1 jg ny a1,runNT P N1 (bS #[cy fr (fs++[])] r sl) T=(.next (bS #[cy jg (ny++[])] w1 EW),T1)/\SF T1 w1/\Zy P au [] (sf P S) (λ_=>Stop) i jg ny a1/\Sees N (λ_=>ah) a1 w1/\Rel (Hid N w1) a1 w1/\(∀b,w1.heap.size<=b->N b)/\Kx w1/\Gd w1:=by
  intro i fr fs a r T sl N hz jA hrel hN Um Mf F;let Q:aY->aj->Prop:=λg w=>∃cB dg a',g=cy cB (dg++[])/\Zy P au [] (sf P S) (λ_=>Stop) i cB dg a'/\(Sees N (λ_=>ah) a' w/\(∀b,Hid N r b↔Hid N w b)/\r.heap.size<=w.heap.size/\Kx w/\Gd w)/\Rel (Hid N r) a' w;have hW:jz P au AtRel DSo Q (cy fr (fs++[])) r:=hz.all _ _ _ _ _ (nU hN) (λcB dg a' r' hat hrel hl=>.stop λw₁ h₁=>by obtain⟨h1,h2⟩:=(nU hN).others a' r' w₁ h₁ hrel hl;exact⟨cB,dg,a',rfl,hat,h2,h1⟩) r hrel ⟨jA,λ_=>Iff.rfl,bJ _,Um,Mf⟩;obtain⟨N1,w1,EW,T1,g1,Lp,F1,hQ1⟩:=EY (sl:=sl) hW F;obtain⟨jg,ny,a1,rfl,hat,⟨DV,ZL,DW,Mq,Mr⟩,Ms⟩:=hQ1 w1 (atRel_refl w1);have hid:Hid N r=Hid N w1:=funext λb=>propext (ZL b);exact⟨N1,w1,EW,T1,jg,ny,a1,Lp,F1,hat,DV,by rw[←hid];exact Ms,λb hb=>hN b (dm DW hb),Mq,Mr⟩
 obtain⟨N1,w1,EW,T1,jg,ny,a1,Lp,F1,hat,DV,Ms,afu,Mq,Mr⟩:=alone (sl:=sl) hz jA hrel Ch Um Mf F;rcases hat with eE|⟨K,⟨_,U,hJ⟩,hC⟩
 .exact⟨N1,_,T1,Lp,⟨#[_],w1,EW,jg,ny,a1,rfl,rfl,eE,Mq,Mr,.inl ⟨rfl,F1,_,Ms,DV,afu⟩⟩⟩
 obtain⟨N2,m2,T2,Mi,hP⟩:=ag4 (cs0:=[]) (S:=S) trivial (λt d fr fs a h=>by rcases h.1 with h|h<;>cases h) (λt d w fr fs a h=>by rcases h.1 with h|h<;>cases h) hJ (sl:=EW) DV Ms afu Mq Mr F1;obtain⟨Uc,r2,xd,cz,dC,a2,rfl,hg2,hP⟩:=hP.ex;rcases hP with⟨hsz,F2,⟨_,hK⟩,ac2,ac3,N,ac4,ac5,hNb⟩|⟨q,Wg,N,ac2,ac3,F2,⟨_,hK⟩,ac4,ac5,hWg,hNb⟩
 .have e2:Uc=#[cy cz (dC++[])]:=by obtain⟨_,h⟩:=bF.1 hg2;refine Array.ext (by simpa using hsz) λk h1 h2=>?_;have hk:k=0:=(by simp at h2;exact h2);subst hk;exact h
  rw[e2]at Mi;obtain⟨N3,w3,ZC,T3,th,uT,a3,Ud,F3,aci,acA,aho,ahp,ahq,ahr⟩:=alone (sl:=xd) (hC .post cz dC a2 hK) ac5 ac4 hNb ac2 ac3 F2;rcases aci with eE|⟨K',⟨h,_⟩,_⟩
  .exact⟨N1+N2+N3,_,T3,dH (dH Lp Mi) Ud,⟨#[_],w3,ZC,th,uT,a3,rfl,rfl,eE,ahq,ahr,.inl ⟨rfl,F3,_,aho,acA,ahp⟩⟩⟩
  .cases h
 .have hz4:=hC .post cz dC a2 hK;have hWr:Hid N r2 Wg:=hWg;have BT:=zR (N:=N) (dJ:=r2) hWr hNb;let Q4:aY->aj->Prop:=λg w=>∃cB dg a',g=cy cB (dg++[])/\Zy P au [] (sf P S) (λ_=>Stop) .post cB dg a'/\(Sees N (λ_=>ah) a' w/\(∀b,Hid N r2 b↔Hid N w b)/\r2.heap.size<=w.heap.size/\Kx w/\Gd w)/\Rel (Hid N r2) a' w;have hW5:jz P au AtRel (λ_ _ es=>∀e∈es,ZI Wg e) Q4 (cy cz (dC++[])) r2:=hz4.all _ _ _ _ _ BT (λcB dg a' r' hat hrel hl=>.stop λw₁ h₁=>by obtain⟨h1,h2⟩:=BT.others a' r' w₁ h₁ hrel hl;exact⟨cB,dg,a',rfl,hat,h2,h1⟩) r2 ac4 ⟨ac5,λ_=>Iff.rfl,bJ _,ac2,ac3⟩;obtain⟨N5,gs5,r5,sl5,q5,T5,g5,hN5,YS,F5,hQ5⟩:=Gi (sl:=xd) (λ_ _ _ h=>h) hW5 hg2 F2;obtain⟨fr5,fs5,a5,rfl,Up,⟨acB,Uq,acC,acD,acE⟩,Ur⟩:=hQ5 r5 (atRel_refl r5);rcases Up with Mt|⟨K',⟨h,_⟩,_⟩
  .have hid:Hid N r2=Hid N r5:=funext λb=>propext (Uq b);rw[hid]at Ur;exact⟨N1+N2+N5,_,T5,dH (dH Lp Mi) hN5,⟨gs5,r5,sl5,fr5,fs5,a5,rfl,YS,Mt,acD,acE,.inr ⟨q5,Wg,N,F5,Ur,acB,(Uq _).1 hWr,λb hb=>hNb b (dm acC hb)⟩⟩⟩
  .cases h
end
section
open Go Go.RowKit
theorem Kh(work:List (List bs))(k:Nat)(hk:k<work.length):gW (work.take (k+1))=gW (work.take k) +(work[k]).length:=by unfold gW;rw[J9 hk,vE,List.sum_append];simp
theorem Ki(work:List (List bs))(k:Nat)(hk:k<work.length):wx (work.take (k+1))=wx (work.take k) +((work[k]).map λc=>c.pairs.length).sum:=by unfold wx;rw[J9 hk,vE,List.sum_append];simp
theorem Q5(work:List (List bs))(hL:∀l∈work,l.length<=140737488355328):gW work<=work.length*140737488355328:=by
 induction work with
 |nil=>simp[gW]
 |cons l r ih=>
  have h1:=hL l aJ;have h2:=ih λx hx=>hL x (by simp[hx]);have e:gW (l::r)=l.length+gW r:=by simp[gW]
  rw[e,fO,Nat.add_mul,Nat.one_mul];omega
theorem aac(l:List bs)(j:Nat)(hj:j<l.length):((l.take (j+1)).map λc=>c.pairs.length).sum=((l.take j).map λc=>c.pairs.length).sum+(l[j]).pairs.length:=by rw[J9 hj,vE,List.sum_append];simp
def ac6(work:List (List bs))(tn hn:Nat)(w:aj)(e:Ending)(w':aj):Prop:=∃b,e=.returned (.bool b)/\(b=au->work.length<=16/\tn<=20000/\hn<=1000/\gW work<=600/\wx work<=4000)/\Below w.heap.size w w'
theorem aad(wk tu ha:Option aP)(wc tn tc hn hc:Nat)(un:Int)(work:List (List bs))(w:aj)(h:RowsIn w wk work)(hL:∀l∈work,l.length<=140737488355328/\∀c∈l,c.pairs.length<=140737488355328):
  b9 aC 7 #[.agg (aW wk tu ha work.length wc tn tc hn hc un)] w (ac6 work tn hn w):=by
 simp only[aW];have H:=aA h;have HL:=aA hL;clear h hL;go_enter func7,ntmps7
 by_cases h16:work.length<=16
 .by_cases h20:tn<=20000
  .by_cases h10:hn<=1000
   .have e1:decide ((16:Int) < (work.length:Int))=aw:=dp;have e2:decide ((20000:Int) < (tn:Int))=aw:=dp;have e3:decide ((1000:Int) < (hn:Int))=aw:=dp;obtain⟨W,hW⟩:∃W,W=w.alloc (aK #[aD wk work.length wc,aD tu tn tc,aD ha hn hc,aq af un] 25):=⟨_,rfl⟩;have sW:w.heap.size<=W.heap.size:=(by rw[hW,cM];omega);have oW:∀b,b<w.heap.size->W.heap[b]? =w.heap[b]? :=λb hb=>(by rw[hW];exact gT w _ _ hb);have bW:W.cell? ⟨w.heap.size,0,ah⟩=ae (aD wk work.length wc):=(by rw[hW,zW];rfl);have kW:Below w.heap.size w W:=(by rw[hW];exact(gw _ _).alloc (bJ _) _);have HI:=aA (H.out.same sW oW);have HK:=aA kW;have HW:=aA hW;clear hW kW oW sW;go_wp2;rw[←HW.out];clear HW;go_loopw [5,3,4] (λi c q wr=>∃(k:Nat) (p:Int),k<=work.length/\i=aq af k/\c=aq af (gW (work.take k):Nat)/\q=aq af p/\0<=p/\p<=140737488359328/\(gW (work.take k)<=600->p<=4000->p=(wx (work.take k):Nat))/\W=wr) (λi _ _ _=>work.length- (intOf i).toNat)
    case atStart=>exact⟨0,0,bQ _,rfl,rfl,rfl,ai,ai,λ_ _=>rfl,rfl⟩
    case round=>
     obtain⟨k,p,hk,rfl,rfl,rfl,hp0,hp1,AO,rfl⟩:=hrel;by_cases hlt:k<work.length
     .obtain⟨l,hl⟩:∃l,work[k]=l:=⟨_,rfl⟩;obtain⟨b,o,v,rfl,hb,hc,a,cap,rfl,hrow⟩:=HI.out k l (by rw[eQ hlt,hl]);have Lr:=HL.out l (by rw[←hl];exact rV _);have eC:=Kh work k hlt;have eP:=Ki work k hlt;rw[hl]at eC eP;have hCb:=Q5 (work.take k) λx hx=>(HL.out x (List.mem_of_mem_take hx)).1;have ahs:(work.take k).length<=16:=dp;have ai2:gW (work.take k)<=2251799813685248:=ai;have hwr:IntKind.i64.wrap (((gW (work.take k):Nat):Int) +(l.length:Int))=((gW (work.take (k+1)):Nat):Int):=(by rw[eC,gq];have:=Lr.1;omega);have uU:=aA hrow;have Hll:=aA Lr;have EC:=aA eC;have EP:=aA eP;have Fi:=aA AO;have Hk:=aA hk;clear hrow Lr eC eP AO hCb ahs hk hl;generalize gW (work.take k)=C at*;generalize hC':gW (work.take (k+1))=C' at*;have HC':=aA hC';clear hC';go_wp2;go_loopw [6,4] (λi q wr=>∃(j:Nat) (p':Int),j<=l.length/\i=aq af j/\q=aq af p'/\p<=p'/\p'<=140737488359328/\(C'<=600->p'<=4000->p'=p+(((l.take j).map λc=>c.pairs.length).sum:Nat))/\W=wr) (λi _ _=>l.length- (intOf i).toNat)
      case atStart=>exact⟨0,p,bQ _,rfl,rfl,Int.le_refl _,hp1,λ_ _=>aJ,rfl⟩
      case round=>
       obtain⟨j,p',hj,rfl,rfl,hq0,hq1,Qk,rfl⟩:=hrel;have HQ2:=aA Qk;have hjb:=Hll.out.1;clear Qk;by_cases Io:j<l.length
       .by_cases hc6:C'<=600
        .have d1:decide ((C':Int)<=600)=au:=dp;by_cases Lv:p'<=4000
         .have d2:decide (p'<=4000)=au:=(by simpa using Lv);obtain⟨b2,o2,rfl,hcall⟩:=uU.out j l[j] (eQ Io);obtain⟨pv,c4,pa,sG,rfl,_⟩:=hcall.c4;have hpl:=Hll.out.2 l[j] (rV _);have ep:=aac l j Io;have hw2:IntKind.i64.wrap (p'+((l[j]).pairs.length:Int))=p'+((l[j]).pairs.length:Int):=(by rw[gq];omega);have Ep:=aA ep;clear hcall ep;generalize (l[j]).pairs.length=pl at*;go_wp2;go_roundw
          case rel=>exact⟨j+1,p'+pl,ai,fY,rfl,ai,ai,λh1 h2=>by have:=HQ2.out hc6 Lv;have:=Ep.out;omega,trivial⟩
          case measure=>simp[intOf];omega
         .have d2:decide (p'<=4000)=aw:=(by simpa using Lv);go_wp2;go_roundw
          case rel=>exact⟨k+1,p',ai,fY,by rw[HC'.out],rfl,ai,ai,λh1 h2=>aT h2 Lv,trivial⟩
          case measure=>simp[intOf];omega
        .have d1:decide ((C':Int)<=600)=aw:=dp;go_wp2;go_roundw
         case rel=>exact⟨k+1,p',ai,fY,by rw[HC'.out],rfl,ai,ai,λh1 h2=>by rw[HC'.out]at h1;exact aT h1 hc6,trivial⟩
         case measure=>simp[intOf];omega
       .have hjn:j=l.length:=ai;subst hjn;go_wp2;go_roundw
        case rel=>exact⟨k+1,p',ai,fY,by rw[HC'.out],rfl,ai,ai,λh1 h2=>by rw[HC'.out]at h1;have h3:=HQ2.out h1 h2;rw[List.take_length]at h3;have h4:=EC.out;have h5:=EP.out;have h6:=HC'.out;have h7:=Fi.out ai ai;omega,trivial⟩
        case measure=>simp[intOf];omega
     .obtain rfl:k=work.length:=ai;rw[List.take_length]at AO⊢;have Fi:=aA AO;have HKo:=HK;clear AO hlt;by_cases hc6:gW work<=600
      .have d1:decide (((gW work:Nat):Int)<=600)=au:=dp;by_cases Lv:p<=4000
       .have d2:decide (p<=4000)=au:=(by simpa using Lv);go_wp2;go_ret
        exact⟨au,rfl,λ_=>⟨h16,h20,h10,hc6,by have:=Fi.out hc6 Lv;omega⟩,HK.out⟩
       .have d2:decide (p<=4000)=aw:=(by simpa using Lv);go_wp2;go_ret
        exact⟨aw,rfl,λh=>dB,HK.out⟩
      .have d1:decide (((gW work:Nat):Int)<=600)=aw:=dp;go_wp2;go_ret
       exact⟨aw,rfl,λh=>dB,HK.out⟩
   .have e1:decide ((16:Int) < (work.length:Int))=aw:=dp;have e2:decide ((20000:Int) < (tn:Int))=aw:=dp;have e3:decide ((1000:Int) < (hn:Int))=au:=dp;go_wp2;go_ret
    exact⟨aw,rfl,λh=>dB,(gw _ _).alloc (bJ _) _⟩
  .have e1:decide ((16:Int) < (work.length:Int))=aw:=dp;have e2:decide ((20000:Int) < (tn:Int))=au:=dp;go_wp2;go_ret
   exact⟨aw,rfl,λh=>dB,(gw _ _).alloc (bJ _) _⟩
 .have e1:decide ((16:Int) < (work.length:Int))=au:=dp;go_wp2;go_ret
  exact⟨aw,rfl,λh=>dB,(gw _ _).alloc (bJ _) _⟩
end
section
open Go Go.Conc Go.ConcN
open Go.ConcR (KK WgAt stA smA Payload Aside2 DC0)
variable[fQ]
variable[Inhabited dc]
omit[Payload] [Inhabited dc]in
theorem M5{w:aj}(hm:fr.mode=.returning)(hd:fr.defers=[])(hk:fr.kind=.normal)(hf:P.funcs[fr.fn]? =ae fn)(hr:fn.results=#[.tmp tm])(hi:P.inits.idxOf? fr.fn=ah):
  bn P au (cy fr []) w=.ended (.done (fr.tmps.getD tm aO)) w #[]:=by
 have hres:(eL fn fr.tmps).runT P w #[]=(.ok (fr.tmps.getD tm aO) w,#[]):=by simp[eL,hr,go_sem]
 have h1:(eL fn fr.tmps).run P w=.ok (fr.tmps.getD tm aO) w:=by simp[eL,hr,go_sem]
 have h2:Sem.events P (eL fn fr.tmps) w #[]=#[]:=by have:=congrArg Prod.snd hres;simpa using this
 simp[bn,unwind,hm,hd,hf,h1,h2,doReturn,hi,hk,GStep.after,seen]
omit[Payload] [Inhabited dc]in
theorem M6{w:aj}{a:aY}(F:SF T w):TF P w.heap.size q T #[a]:=by
 refine⟨λi g h1 h2=>?_,λi hi=>?_,⟨λsaid=>noRace_of_lone F.who,λi a ha _=>?_,λi a ha _ g h=>h.elim,λi a ha hX=>?_,λ_ h=>h.elim⟩,λi g hg hne hc=>?_,F.deaf⟩
 .have:=(bF.1 h2).1;simp at this;omega
 .have:=ig #[] (g:=i) (g':=0) (by simp at hi;omega) T F.who;rw[Array.empty_append]at this;exact this
 .obtain⟨x,hx,_⟩:=touch_of ha;have:=knows_own hx;rw[F.who x (qf hx)]at this;exact .inl this
 .obtain⟨x,hx,hb⟩:=hX;have:=F.inside i a ha x hx;omega
 .obtain⟨op,ho,rfl⟩:=mb.1 hg;exact aT (F.who op (qf ho)) hne
theorem Vg{Stop:aB->List aB->aj->Prop}(hr:fn.results=#[.tmp tm])(h:Ve P Stop m T)
  (hS:∀fr fs a,Stop fr fs a->fs=[]/\fr.mode=.returning/\fr.defers=[]/\fr.kind=.normal/\P.funcs[fr.fn]? =ae fn/\P.inits.idxOf? fr.fn=ah/\fr.tmps.getD tm aO=v)
  (hPost:∀fr fs a r N,Stop fr fs a->Kx r->Gd r->Sees N (λ_=>ah) a r->Post v r):
  ∃N last o w' t',runNT P (N+1) m T=(.ended o w',t')/\runN P N m=.next last/\step P last=.ended o w'/\Conc.Good P Post last o w' t':=by
 obtain⟨gs,r,sl,fr,fs,a,rfl,hg,hst,Um,Mf,hend⟩:=h.ex;obtain⟨rfl,h1,h2,h3,h4,h5,h6⟩:=hS fr fs a hst;have hN:∃N,Sees N (λ_=>ah) a r:=by rcases hend with⟨_,_,N,_,h,_⟩|⟨_,_,N,_,_,h,_⟩ <;>exact⟨N,h⟩
 obtain⟨N,jA⟩:=hN;have hF:∃q Wg,TF P Wg q T gs:=by
  rcases hend with⟨hsz,F,_⟩|⟨q,Wg,_,F,_⟩
  .have e:gs=#[cy fr ([] ++[])]:=(by obtain⟨_,h⟩:=bF.1 hg;refine Array.ext (by simpa using hsz) λk h1 h2=>?_;have hk:k=0:=(by simp at h2;exact h2);subst hk;exact h);rw[e];exact⟨λ_=>0,_,M6 F⟩
  .exact⟨q,Wg,F⟩
 obtain⟨q,Wg,F⟩:=hF;refine Qo (B7:=λ_ _ es=>∀e∈es,ZI Wg e) (λ_ _ _ h=>h) (.stop λw₁ hw=>?_) hg F;obtain⟨d,rfl⟩:=hw;have hs:=M5 (P:=P) (w:=r.at d) h1 h2 h3 h4 hr h5;refine⟨rfl,_,_,hs,λe he=>by simp at he,?_⟩;rw[h6];exact hPost fr [] a (r.at d) N hst Um ⟨Mf.1,Mf.2⟩ ⟨jA.size,jA.os,jA.output,jA.get⟩
end
section
open Go Go.Conc
section
variable{H:Type}{enc:bq×ay->H}
theorem AQ{a:Assume}{os:Os}{k:(H:Type)->List (DataW H)->Bool}(hk:s.cond=ae k){F:Stop.Interp}{conds:List PathCond}{apart fresh handsOn again:Bool}
  (own:ownKnob C.prog.godebug=ah)(started:os.Started)(hfn:C.prog.funcs[f]? =ae fn)
  (witness:∃(w:aj) (tape:Tape) (i:Input),w.os=os/\(w.forCall tape i).Shaped C.prog/\i.vars=[]/\Input.okWide C.prog (w.forCall tape i) .any w.heap.size f i/\
   s.pre6 enc C.prog fn conds apart (w.forCall tape i).memory i.args/\a.holds C.prog (lone (gL C.prog f i.args .normal) [] (w.forCall tape i)))
  (runs:∀(W:aj) (base:Nat) (args:Array ay) (ds gs:List (DataW H)) (before:List MemPlace),
   (∀(j:Nat) t v,fn.params[j]? =ae t->args[j]? =ae v->Value.okWide C.prog W .any base t v)->DataW.Whole enc C.prog fn.params.toList s.vars apart W args.toList ds gs before->k H (ds++gs)=au->
   ∃N last o w' t',runNT C.prog (N+1) (bS #[cy (gL C.prog f args .normal) []] W ah) #[]=(.ended o w',t')/\runN C.prog N (bS #[cy (gL C.prog f args .normal) []] W ah)=.next last/\step C.prog last=.ended o w'/\
    Conc.Good C.prog (λv W'=>(s.at F).post enc C.prog fn apart fresh handsOn again W args v W') last o w' t'):
  ReturnsInLeavingWide a C os f .any (s.pre6 enc C.prog fn conds apart) ((s.at F).post enc C.prog fn apart fresh handsOn again):=by
 refine returnsInLeavingWide_of_good own started witness λw tape i _ _ _ hok ac1 _=>?_;obtain⟨_,_,_,OA,aht,_,_,_,_,hval⟩:=hok;obtain rfl:OA=fn:=bj (aht.symm.trans hfn);obtain⟨ds,gs,before,hw,_,Im⟩:=(OpenSpec.pre_some hk conds apart _ _).1 ac1.1;obtain⟨N,last,o,w',t',h1,h2,h3,h4⟩:=runs (w.forCall tape i) w.heap.size i.args ds gs before hval (DataW.Whole.of_heap (w':=w.forCall tape i) cQ hw) Im;exact⟨N,last,o,w',t',h1,h2,h3,Conc.Good.mono h4 λv hp=>ChangeSpec.post_blind hp⟩
end
theorem holds_leaving{c:OpenClaim}(f:FuncId)(fn:Func)(name:c.program=p.name/\c.sum=p.sum/\c.spec=s.name)
  (plain:c.start=.entering/\c.outside=[]/\c.inits=[]/\c.under=ah/\(c.initsInPlace=[]/\c.initsUnfollowed=aw/\c.initsRecurse=aw/\c.initsNamed=[]/\c.initsPassed=[])/\c.noBlocks=aw/\c.leaving=au/\c.followed=ah/\c.still=aw)(ahu:c.narrowed=s.cond.isSome)
  (hfn:p.checked.prog.funcNamed c.func=ae f)(hf:p.checked.prog.funcs[f]? =ae fn)(closed:joinedFacts p.checked.prog f fn s.bare c=au)(afv:fn.isInstance p.checked.prog c.origin c.targs)(afw:fn.isWrapper p.checked.prog c.wrapper c.mainSum)
  (h:∀os:Os,os.Started->∀(H:Type) (enc:bq×ay->H) (F:Stop.Interp),ReturnsInLeavingWide c.assume p.checked os f .any (c.pre enc p.checked.prog fn s) ((s.at F).post enc p.checked.prog fn c.apart c.fresh c.handsOn c.again)):c.holds p s:=by
 obtain⟨hn,hs,hsp⟩:=name;obtain⟨hstart,hout,j4,mO,hi4,hnb,hlv,YO,ac7⟩:=plain;simp only[joinedFacts,cR,beq_iff_eq,EL,iT,decide_eq_true_eq]at closed;obtain⟨⟨⟨⟨⟨⟨⟨⟨⟨⟨⟨⟨⟨⟨⟨⟨⟨⟨⟨⟨⟨⟨⟨⟨⟨⟨⟨⟨⟨⟨⟨k1,k2⟩,k3⟩,k4⟩,k5⟩,k6⟩,k7⟩,k8⟩,k9⟩,k10⟩,k11⟩,k12⟩,k13⟩,k14⟩,k15⟩,k16⟩,k17⟩,ahv⟩,k18⟩,k19⟩,k20⟩,k21⟩,k22⟩,k23⟩,ahw⟩,k24⟩,ahx⟩,ahy⟩,k25⟩,k26⟩,k27⟩,k28⟩:=closed;have quiet:∀os:Os,Stop.quiet p.checked.prog os:=λos q hq=>by rw[k9]at hq;cases hq
 have short:c.shortTexts=ah:=by
  cases yN:c.shortTexts with
  |none=>rfl
  |some _=>rw[yN]at k23;cases k23
 refine⟨k1,hn,hs,hsp,k2,k3,by unfold OpenClaim.startFits;rw[hstart];exact k24,by unfold OpenClaim.startTold;rw[hstart];exact⟨j4,mO,hi4⟩,f,fn,hfn,hf,⟨k4,k19⟩,(λhb=>by rw[hnb]at hb;cases hb),by unfold OpenClaim.namedList;rw[YO];exact k5,afv,afw,
  k6.trans k7.symm,⟨k8.trans k9.symm,by unfold Program.envWorded;rw[k9];rfl,ahw⟩,k10,k11,k12,k13,k14,⟨k15,k27,k28⟩,⟨k16,k20⟩,⟨k17,k21,k25,k26⟩,⟨k22,ahx,ahy,ahv⟩,by rw[hout,ahu,short];simp,λn qJ=>varReadable_some (k18 n qJ),
  ⟨_,by unfold OpenClaim.world;rw[hout,hstart];exact WideRow.started_initial,quiet _⟩,[],by unfold OpenClaim.lists;rw[YO],λos st _ H enc _=>?_⟩
 have ER:os.Started:=by unfold OpenClaim.world at st;rw[hout,hstart]at st;exact st
 rw[OpenClaim.post_not_still ac7];unfold OpenClaim.form;rw[hstart,k6];intro F;rw[show c.okInput=Input.okWide by unfold OpenClaim.okInput;rw[hnb],show c.atReturn p.checked.prog=leavingAtReturn p.checked.prog by unfold OpenClaim.atReturn;rw[hlv],show c.always p.checked.prog []=nothingAlways by unfold OpenClaim.always;rw[YO]];show ReturnsInOpen _ _ _ _ _ _ _ _ (s.post enc p.checked.prog fn F c.outside c.apart c.fresh c.handsOn c.again) _ _;rw[show s.post enc p.checked.prog fn F c.outside c.apart c.fresh c.handsOn c.again=(s.at F).post enc p.checked.prog fn c.apart c.fresh c.handsOn c.again by rw[hout];rfl];exact h os ER H enc F k24
end
end Go.Proofs.YtfmibhmknlnoiaaGreat
