/- Lemmas. -/
import Derived.Laws.EntriesVeiled
import Derived.RangeFuncNested
import Derived.Shelf.Abstract
import Derived.OwnWalkIn
import Derived.TacticsInMore
import Derived.LoopNIn
import Derived.LoopIn
import Derived.Deep.DeepCutAuto
import Derived.Test.YtkmaeipoaoikpaaGreatEC02
namespace Go.Proofs.YtkmaeipoaoikpaaGreat
set_option linter.all false
set_option maxRecDepth 100000
set_option maxHeartbeats 4000000
open Lib (hid)
open Tryz
section
open Go.RowKit Go.Shelf
attribute [local go_sem] Oper.semAt_some
def ZbE(l:List (Int×Int))(b:Int):List (Int×Int):=l.map fun r=>(r.1+b,r.2+b)
theorem ZaR(l:List (Int×Int))(b:Int):(ZbE l b).length=l.length:=by simp[ZbE]
theorem Zfn(l:List (Int×Int))(b:Int)(k:Nat)(x y:Int)(h:l[k]?=some (x,y)):(ZbE l b)[k]?=some (x+b,y+b):=by simp[ZbE,h]
def ZfG(l:List (Int×Int)):Prop:=∀r∈l,(0<=r.1/\r.1<=1000000000)/\0<=r.2/\r.2<=1000000000
theorem ZfG.at{l:List (Int×Int)}(h:ZfG l){k:Nat}{x y:Int}(hx:l[k]?=some (x,y)):(0<=x/\x<=1000000000)/\0<=y/\y<=1000000000:=h (x,y) (YaL hx)
theorem Blk.turn{X Y:World}{row:Option Nat}{B g:Nat}{t:TypeId}{cs:Array Value}(h:Blk X g t cs)(hg:X.grownBy Y row)(hr:∀r,row=some r->B<=r/\∃o:Obj,X.heap[r]?=some o/\o.isCells=false):Blk Y g t cs:=
 h.grown hg (fun e=>by
  obtain⟨_,o,ho,hc⟩:=hr g e.symm;unfold Blk at h;rw[h] at ho
  cases ho
  cases hc)
theorem But.below'{S:Nat->Prop}{B:Nat}{a b:World}(h:Below B a b)(hS:∀i,¬S i->i<B):But S a b:=⟨h.os,h.tape,h.output,h.size,fun i _ hn=>h.block i (hS i hn)⟩
theorem Znk{S:Nat->Prop}{w:World}(hS:∀i,w.heap.size<=i->S i)(W:World)(l:Nat)(o o':Obj)(hl:w.heap.size<=l)(h:W.heap[l]?=some o)(_:o.isCells=false)(_:o.isWalk=false):But S W (W.putObj l o'):=
 But.of_gr (grownBy_putObj' W l o') (hS l hl)
theorem But.cell{S:Nat->Prop}{a b:World}(h:But S a b){g o:Nat}(hg:g<a.heap.size)(hn:¬S g):b.cell? ⟨g,o,none⟩=a.cell? ⟨g,o,none⟩:=World.cell?_of_block (a:=⟨g,o,none⟩) (h.block g hg hn)
def ZvH(r:Int×Int):Array Value:=#[.agg #[.int .i64 r.1,.int .i64 r.2]]
theorem Zsr(F:Fence)(n:Nat)(hf:F.fn 263)(hro:F.round=none)(Bb:Nat)(x y b:Int)(W:World)(hb:W.cell? ⟨Bb,0,none⟩=some (.int .i64 b))(hBb:Bb<W.heap.size)(hx:0<=x/\x<=1000000000)(hy:0<=y/\y<=1000000000)(hb0:0<=b/\b<=1000000000) :
  CallsIn F n prog 263 #[.agg #[.int .i64 x,.int .i64 y],.pointer (some ⟨Bb,0,none⟩)] W fun e w'=>e=.returned (.agg #[.int .i64 (x+b),.int .i64 (y+b)])/\Below W.heap.size W w':=by
 obtain⟨hx0,hx1⟩:=hx;obtain⟨hy0,hy1⟩:=hy;obtain⟨hb0,hb1⟩:=hb0;refine callsIn_of_wp func263 rfl hf ?_ hro;simp only[ntmps263,List.size_toArray,List.length_cons,List.length_nil,Nat.reduceAdd,Nat.reduceSub,Array.replicate_succ,Array.replicate_zero,List.push_toArray,List.append_toArray,List.nil_append,List.cons_append]
 gi_wp2
 refine bodyPost_ret (v:=.agg #[.int .i64 (x+b),.int .i64 (y+b)]) (by simp[results,results263,go_sem]) rfl ⟨rfl,?_⟩
 first
  |exact(((bA0 _).alloc (by simp) _).setCell (by simp) _).setCell (by simp) _
  |exact(bA0 _).alloc (by simp) _
theorem ZpI{β:Type}(f:β->Int×Int)(ls:List β)(F:Fence)(n:Nat)(hf:F.fn 264)(hf1:F.fn 263)(hro:F.round=none)(hn:1<=n)(ly Bl Bf Bb len cap:Nat)(A:Option Addr)(rs:List (Int×Int))(b:Int)(hreach:len<=10000000)(hrl:rs.length=len)(hsm:ZfG rs)(hb:0<=b/\b<=1000000000)
  (hls:ls.map f=ZbE rs b) (S:Nat->Prop) (hBf:¬S Bf) (hBb:¬S Bb) (W:World) (hBf0:Bf<W.heap.size) (hBb0:Bb<W.heap.size) (J Jx:List β->World->Prop)
  (hY:∀pre x W,J pre W->pre.length<len->YieldAt F (n-1) prog ly (ZvH (f x)) W fun e W'=>
   (e=.returned (.bool true)/\J (pre++[x]) W'/\But S W W')\/(e=.returned (.bool false)/\Jx (pre++[x]) W'))
  (hJ:AbidesFrom W.heap.size J) (hBl:W.cell? ⟨Bl,0,none⟩=some (.slice A len cap)) (hcf:W.cell? ⟨Bf,0,none⟩=some (.func (.func 263) #[] #[.pointer (some ⟨Bb,0,none⟩)])) (hcb:W.cell? ⟨Bb,0,none⟩=some (.int .i64 b))
  (hc:0<len->∃g off,A=some ⟨g,off,none⟩/\(g<W.heap.size/\¬S g)/\∀j u,(rv rs)[j]?=some u->W.cell? ⟨g,off+j,none⟩=some u) (h0:J [] W) :
  CallsIn F n prog 264 #[.func (.yield ly) #[] #[],.pointer (some ⟨Bl,0,none⟩),.pointer (some ⟨Bf,0,none⟩)] W fun e W'=>(∃v,e=.returned v) /\
   ((∃ys,ys=ls/\J ys W')\/(∃pre,pre <+:ls/\Jx pre W')):=by
 have hyl:ls.length=len:=by have:=congrArg List.length hls;rw[List.length_map,ZaR,hrl] at this;exact this
 have HLS:=hid hls;have HYL:=hid hyl;have HRL:=hid hrl;have HB:=hid hb;clear hyl hrl hb hls;refine callsIn_of_wp func264 rfl hf ?_ hro;simp only[ntmps264,List.size_toArray,List.length_cons,List.length_nil,Nat.reduceAdd,Nat.reduceSub,Array.replicate_succ,Array.replicate_zero,List.push_toArray,List.append_toArray,List.nil_append,List.cons_append]
 gi_wp2_with fail
 gi_loopw [8] (fun i wr=>∃k:Nat,k<=len/\i=.int .i64 k/\J (ls.take k) wr/\But S W wr)
  (fun i _=>len-(intOf i).toNat)
 case atStart=>exact⟨0,Nat.zero_le _,rfl,by simpa using h0,But.refl _ _⟩
 case round=>
  obtain⟨k,hk,rfl,hJs,hnx⟩:=hrel
  by_cases hlt:k<len
  ·obtain⟨g,off,rfl,hg,hcc⟩:=hc (by omega);have hkl:k<rs.length:=by rw[HRL.out];omega
   obtain⟨x,y,hxy⟩:∃x y,rs[k]?=some (x,y):=⟨_,_,YaA hkl⟩;obtain⟨s1,s2⟩:=hsm.at hxy;have gx:=Zj5 rs k hkl;rw[YaA hkl] at hxy;injection hxy with hxy
   rw[hxy] at gx;have c1:wr.cell? ⟨g,off+k*2,none⟩=some (.int .i64 x):=(hnx.cell hg.1 hg.2).trans (hcc _ _ gx.1);have c2:wr.cell? ⟨g,off+k*2+1,none⟩=some (.int .i64 y):=(hnx.cell hg.1 hg.2).trans (by rw[Nat.add_assoc];exact hcc _ _ gx.2);have cf:wr.cell? ⟨Bf,0,none⟩=some (.func (.func 263) #[] #[.pointer (some ⟨Bb,0,none⟩)]):=(hnx.cell hBf0 hBf).trans hcf;have cb:wr.cell? ⟨Bb,0,none⟩=some (.int .i64 b):=(hnx.cell hBb0 hBb).trans hcb;have hws:W.heap.size<=wr.heap.size:=hnx.size;have hg0:=hg.1;obtain⟨z,hz⟩:∃z,ls[k]?=some z:=⟨_,YaA (by rw[HYL.out];exact hlt)⟩;have hsn:Hid (ls.take (k+1)=ls.take k++[z]):=hid (by
    obtain⟨h1,h2⟩:=YaG.1 hz;rw[List.take_succ_eq_append_getElem h1,h2])
   have hfz:f z=(x+b,y+b):=by
    have h1:=congrArg (fun l=>l[k]?) HLS.out;simp only[YaR,hz,Option.map_some] at h1;rw[Zfn rs b k x y (by rw[YaA hkl,hxy])] at h1;injection h1
   have HJS:=hid hJs;have HN:=hid hnx;have cb2:(wr.alloc (.cells #[.int .i64 x,.int .i64 y] 218)).cell? ⟨Bb,0,none⟩=some (.int .i64 b):=(((bR0 wr.heap.size wr).alloc (YaF _) _).cell (p:=⟨Bb,0,none⟩) (show Bb<wr.heap.size by omega)).trans cb;have HS:=hid (Zsr F (n-1) hf1 hro Bb x y b (wr.alloc (.cells #[.int .i64 x,.int .i64 y] 218)) cb2 (by simp;omega) s1 s2 HB.out);have hBf':Bf<wr.heap.size:=by omega
   have hg':g<wr.heap.size:=by omega
   clear hJs hnx hcc gx hxy hkl s1 s2 cb2 cb
   gi_wp2_with fail
   refine HS.out.mono ?_;rintro e w1 ⟨rfl,hb1⟩;have hb2:Below wr.heap.size wr w1:=(bA0 _).trans (hb1.mono (by simp));obtain⟨fn,tmps,assign,body,hy,hR⟩:=hY _ z w1 (hJ _ _ _ none HJS.out (Zcj hb2 none) (fun r e=>by cases e)) (by rw[List.length_take,HYL.out];omega);have HR:=hid hR;have HN2:=hid (HN.out.call hb2);clear hb1 hb2 c1 c2 cf HS hR HJS HN;rw[hfz] at hy;dsimp only[ZvH] at hy;clear hfz hz
   gi_wp2_with fail
   refine HR.out.mono ?_;rintro e W3 (⟨rfl,hJ3,hk3⟩|⟨rfl,hJx3⟩)
   ·gi_wp2
    go_roundw
    case rel=>exact⟨k+1,by omega,by simp,by rw[hsn.out];exact hJ3,HN2.out.trans hk3⟩
    case measure=>simp[intOf];omega
   ·gi_wp2
    refine bodyPost_ret (results_none rfl _ _ _) rfl ?_;exact⟨⟨_,rfl⟩,.inr ⟨_,by rw[<-hsn.out];exact List.take_prefix _ _,hJx3⟩⟩
  ·obtain rfl:k=len:=by omega
   rw[YaX (by rw[HYL.out];omega)] at hJs
   gi_wp2
   go_end0
   exact⟨⟨_,rfl⟩,.inl ⟨_,rfl,hJs⟩⟩
def Znl(w:World)(A:Option Addr)(n c:Nat)(b:Int)(e:Ending)(w':World):Prop:=
 e=.returned (.func (.func 264) #[] #[.pointer (some ⟨w.heap.size,0,none⟩),.pointer (some ⟨w.heap.size+1+1,0,none⟩)])/\w'.cell? ⟨w.heap.size,0,none⟩=some (.slice A n c)/\w'.cell? ⟨w.heap.size+1,0,none⟩=some (.int .i64 b) /\
  w'.cell? ⟨w.heap.size+1+1,0,none⟩=some (.func (.func 263) #[] #[.pointer (some ⟨w.heap.size+1,0,none⟩)])/\w.heap.size+3<=w'.heap.size/\Below w.heap.size w w'
theorem Zss(F:Fence)(nF:Nat)(hf:F.fn 229)(hro:F.round=none)(A:Option Addr)(n c:Nat)(b:Int)(w:World) :
  CallsIn F nF prog 229 #[.slice A n c,.int .i64 b] w (Znl w A n c b):=by
 refine callsIn_of_wp func229 rfl hf ?_ hro;simp only[ntmps229,List.size_toArray,List.length_cons,List.length_nil,Nat.reduceAdd,Nat.reduceSub,Array.replicate_succ,Array.replicate_zero,List.push_toArray,List.append_toArray,List.nil_append,List.cons_append]
 gi_wp2
 go_ret;refine⟨rfl,?_,?_,?_,?_,?_⟩
 ·go_simp
 ·go_simp
 ·go_simp
 ·simp
 ·exact((bA0 _).alloc (by simp) _).alloc (by simp<;>omega) _
theorem ZlL{β:Type}(f:β->Int×Int)(ls:List β)(F:Fence)(n:Nat)(hf:F.fn 264)(hf1:F.fn 263)(hro:F.round=none)(hn:1<=n)(Bl Bf Bb len cap:Nat)(A:Option Addr)(rs:List (Int×Int))(b:Int)(hreach:len<=10000000)(hrl:rs.length=len)(hsm:ZfG rs)(hb:0<=b/\b<=1000000000)
  (hls:ls.map f=ZbE rs b) (S:Nat->Prop) (w:World) (hBl:Bl<w.heap.size) (hBf:Bf<w.heap.size/\¬S Bf) (hBb:Bb<w.heap.size/\¬S Bb) (hl:w.cell? ⟨Bl,0,none⟩=some (.slice A len cap)) (hcf:w.cell? ⟨Bf,0,none⟩=some (.func (.func 263) #[] #[.pointer (some ⟨Bb,0,none⟩)])) (hcb:w.cell? ⟨Bb,0,none⟩=some (.int .i64 b))
  (hc:0<len->∃g off,A=some ⟨g,off,none⟩/\(g<w.heap.size/\¬S g)/\∀j u,(rv rs)[j]?=some u->w.cell? ⟨g,off+j,none⟩=some u) :
  SeqStopsK F n prog 264 #[.pointer (some ⟨Bl,0,none⟩),.pointer (some ⟨Bf,0,none⟩)] (fun x=>ZvH (f x)) (But S) (fun ys=>ys=ls) (fun pre=>pre <+:ls) len w:=fun l J Jx W hW hJ _ hY h0=>
 ZpI f ls F n hf hf1 hro hn l Bl Bf Bb len cap A rs b hreach hrl hsm hb hls S hBf.2 hBb.2 W (YaK hBf.1 hW.size) (YaK hBb.1 hW.size) J Jx hY hJ ((hW.cell (p:=⟨Bl,0,none⟩) hBl).trans hl) ((hW.cell (p:=⟨Bf,0,none⟩) hBf.1).trans hcf) ((hW.cell (p:=⟨Bb,0,none⟩) hBb.1).trans hcb)
  (fun h=>by
   obtain⟨g,off,e,hg,hcc⟩:=hc h;exact⟨g,off,e,⟨YaK hg.1 hW.size,hg.2⟩,fun j u hu=>(hW.cell (p:=⟨g,off+j,none⟩) hg.1).trans (hcc j u hu)⟩) h0
end
section
open Go.RowKit
variable{P:Program}{Q:Exit→Act→World→Prop}{ops:Array Oper}{l n:Nat}
theorem ZlM{row:String}{args:Array Value}{w:World}{R:Value->World->Prop}(h:Rows P row args w R):RowsIn (Fence.wide.inRound l) n P row args w R:=fun c cs _=>by
 obtain⟨v,w',r,s⟩:=h c cs;exact⟨v,w',r,stepsIn_wide.2 s⟩
theorem ZpJ{o:Oper}{a:Act}{K:Act->World->Prop}{r:Result Next}(h:o.upon P a K Q r):o.uponIn (Fence.wide.inRound l) n P a K Q r:=by
 cases r with
 |ok x w'=>
  cases x<;>simp only[Oper.upon,Oper.uponIn] at h ⊢ <;>
   first
    |exact h
    |exact⟨fun h0=>(by cases h0),(callsIn_wide.2 h).inRound l⟩
    |exact⟨fun h0=>(by cases h0),ZlM h⟩
 |halt x w'=>cases x<;>simp only[Oper.upon,Oper.uponIn] at h ⊢<;>exact h
theorem ZpK{i:Nat}{K:Act->World->Prop}{a:Act}{w:World}(hd:∀(o:Oper) (c:Call),ops[i]?=some o->o.op≠.defer c)(hno:¬LetsOut Q)(h:wpOp P ops Q i K a w):wpOpIn (Fence.wide.inRound l) n P ops Q i K a w:=by
 unfold wpOp at h;unfold wpOpIn
 cases ho:ops[i]? with
 |none=>simpa [ho] using h
 |some o=>
  simp only[ho] at h ⊢
  split
  ·rename_i hw
   simp only[hw,if_true] at h
   rcases h with h|h
   ·refine⟨fun _ _=>trivial,?_⟩;rw[Oper.semAt_eq _ _ _ (fun c=>hd o c ho)];exact ZpJ h
   ·exact absurd h.2 hno
  ·rename_i hw
   simp only[hw] at h;exact⟨fun _ _=>trivial,h⟩
theorem Zh8{md:Region.Mode}(hd:∀(i:Nat) (o:Oper) (c:Call),ops[i]?=some o->o.op≠.defer c)(hno:¬LetsOut Q):∀(fuel:Nat) (listed:Array Bool) (a:Act) (w:World),wpAny P md ops Q fuel listed a w->wpAnyIn (Fence.wide.inRound l) n P md ops Q fuel listed a w:=by
 intro fuel
 induction fuel with
 |zero=>intro listed a w h;exact h
 |succ fuel ih=>
  intro listed a w h;exact⟨h.1,fun i hi=>wpOpIn_mono (fun a' w' h'=>ih _ a' w' h') (ZpK (fun o c ho=>hd i o c ho) hno (h.2 i hi))⟩
end
section
open Go.RowKit
def ZiY(Q:Exit->Act->World->Prop):Exit->Act->World->Prop
 |.outgrown,_,_=>False
 |e,a,w=>Q e a w
theorem ZiY.normal{Q:Exit->Act->World->Prop}{a:Act}{w:World}(h:Q .normal a w):ZiY Q .normal a w:=h
def ZlN(ops:Array Oper):Bool:=ops.all fun o=>match o.op with|.defer _=>false|_=>true
theorem ZfH{ops:Array Oper}(h:ZlN ops=true):∀(i:Nat) (o:Oper) (c:Call),ops[i]?=some o->o.op≠.defer c:=by
 intro i o c ho hc;have:=Array.all_eq_true_iff_forall_mem.1 h o (Array.mem_of_getElem? ho);rw[hc] at this
 cases this
theorem ZfX{P:Program}{id:Nat}{Q:Exit->Act->World->Prop}{a:Act}{w:World}{l:List Oper}{r n:Nat}(W0:World)(E H:List Nat)(t0:Nat)(us:List Nat)(hm:P.follows .mixedOrders=true)(hB:Zt0 l.toArray E H t0 us=true)(hD:ZlN l.toArray=true)(hT:((t0::us).all fun t=>decide (t<l.length))=true)(hk:Zag W0 w)
  (h:Zdj P l.toArray (fun a'=>wpQuiet P l.toArray (fun w'=>∃u:KW W0,w'=u.w) (fun a''=>∀u:KW W0,wpList P l.toArray (NoPanic (ZiY Q)) ((t0::us).filterMap (l[·]?)) a'' u.w) (H.filterMap (l[·]?)) a') E a):(Code.region id l.toArray true).wpIn (Fence.wide.inRound r) n P Q a w:=by
 have h1:=Zsl (Q:=ZiY Q) W0 E H t0 us hB hT hk h;refine wpIn_mono (wpIn_region_any hm (Zh8 (ZfH hD) (fun h=>?_) _ _ _ _ h1)) (fun e a w he=>?_)
 ·obtain⟨a,w,h⟩:=h;exact h
 ·cases e<;>first|exact he|exact(he:False).elim
theorem Zaj{P:Program}{w:World}{ops:Array Oper}{rest:List Oper}{o:Oper}{a:Act}{Q:Exit->Act->World->Prop}{t e:TypeId}{z:Value}{size bytes:Nat}
  (sl:Sl P t e z size bytes) (hgd:o.guard=none) (s x:Operand) (ho:o.op=.call { callee:=.builtin .append,args:=#[s,x],argTypes:=#[t,t] })
  (base:Nat) (v:Value) (n:Nat) (xs:List Value) (hs:a.eval s=v) (hown:w.ownsRow base e size v n xs)
  (news:Array Value) (g:Nat) (hx:a.eval x=.slice (some ⟨g,0,none⟩) 1 1) (hg:g=w.heap.size) (hl:news.size=size) (h1:∀u∈news.toList,u.oneCell'=true)
  (h63:n+1<=maxLen) (hbytes:(n+1)*bytes<=140737488355328) (hbase:base<=w.heap.size)
  (h:∀A' cap' w',w'.ownsRow base e size (.slice A' (n+1) cap') (n+1) (xs++news.toList)->Below base w w'->w.grownBy w' v.ownBlock->(∀k,(Value.slice A' (n+1) cap').ownBlock=some k->v.ownBlock=some k\/w.heap.size<k) ->
   wpList P ops Q rest (a.put o.dst (.slice A' (n+1) cap')) w') :
  wpList P ops Q (o::rest) a (w.alloc (.cells news e)):=by
 subst hg;obtain⟨i,hi,hz0,hz1,hz2⟩:=info_parts sl.info;refine wpList_append_own_at _ hgd s x t ho base e i z size bytes sl.slice hi hz0 hz1 hz2 sl.cells sl.pos v n xs hs (hown.alloc _) ⟨w.heap.size,0,none⟩ 1 1 news.toList hx (by simpa using hl) (Zdi w news e) h1 h63 hbytes (by simp;omega) ?_;intro v' w' h2 h3 _ h5;obtain⟨A,cap,rfl,_⟩:=ZaF h2;refine h A cap w' h2 (((bR0 _ _).alloc hbase _).grown h3 (by simp;omega) fun k hk=>(hown.lt k hk).1) (ZaB (bA0 _) h3) (fun k hk=>?_)
 rcases h5 with h5|h5
 ·exact .inl (h5▸hk)
 ·right
  rw[hk] at h5;injection h5 with h5
  rw[h5];simp
def iv(l:List Int):List Value:=l.map (Value.int .i64)
theorem Zay(l:List Int):(iv l).length=l.length:=by simp[iv]
theorem Zbq(l k:List Int):iv (l++k)=iv l++iv k:=by simp[iv]
theorem Zkc(l:List Int)(k:Nat)(hk:k<l.length):(iv l)[k]?=some (.int .i64 l[k]):=by simp[iv,hk]
theorem Znm(l:List Int):∀u∈iv l,u.oneCell'=true:=by
 intro u hu;unfold iv at hu;simp only[List.mem_map] at hu;obtain⟨x,_,rfl⟩:=hu;rfl
theorem Zcs(l:List Int)(k:Nat)(x:Int):(iv l).set k (.int .i64 x)=iv (l.set k x):=by simp[iv,List.map_set]
theorem Zb7{w:World}{A:Option Addr}{n k:Nat}{l:List Int}(hl:l.length=n)(h:Rd w 1 A n (iv l))(hk:k<n):∃b o x,A=some ⟨b,o,none⟩/\b<w.heap.size/\l[k]?=some x/\w.cell? ⟨b,o+k,none⟩=some (.int .i64 x):=by
 obtain⟨b,o,e,hb,hc⟩:=h.2 (by omega);have hk':k<l.length:=by omega
 exact⟨b,o,l[k],e,hb,YaA hk',hc _ _ (Zkc l k hk')⟩
theorem Zhs{P:Program}(w:World)(base:Nat)(t ty e:TypeId)(i:TypeInfo)(size:Nat)(ht:P.underlying t=some (.slice e))(hi:P.info? e=some i)
  (v:Value) (n:Nat) (xs:List Value) (hown:w.ownsRow base e size v n xs) (c:Nat):(Builtin.append_ #[t,t] ty #[v,.slice none 0 c]).run P w=.ok v w:=by
 rcases hown.2 with⟨rfl,rfl⟩|⟨g,cap,cur,rfl,_,_,hnc,_⟩
 ·simp[Builtin.append_,run_underlying ht,sizeOf,typeInfo,hi,Builtin.lenOf,Builtin.firstCells]
 ·simp[Builtin.append_,run_underlying ht,sizeOf,typeInfo,hi,Builtin.lenOf,Builtin.firstCells,hnc,storeCells]
theorem Za5{P:Program}{w:World}{ops:Array Oper}{rest:List Oper}{o:Oper}{a:Act}{Q:Exit->Act->World->Prop}{t e:TypeId}{z:Value}{size bytes:Nat}
  (sl:Sl P t e z size bytes) (hgd:o.guard=none) (s x:Operand) (ho:o.op=.call { callee:=.builtin .append,args:=#[s,x],argTypes:=#[t,t] })
  (base:Nat) (v:Value) (n:Nat) (xs:List Value) (hs:a.eval s=v) (hown:w.ownsRow base e size v n xs)
  (A:Option Addr) (m c:Nat) (news:List Value) (hx:a.eval x=.slice A m c) (hr:Rd w size A m news) (h1:∀u∈news,u.oneCell'=true)
  (h63:n+m<=maxLen) (hbytes:(n+m)*bytes<=140737488355328) (hbase:base<=w.heap.size)
  (h:∀A' cap' w',w'.ownsRow base e size (.slice A' (n+m) cap') (n+m) (xs++news)->Below base w w'->wpList P ops Q rest (a.put o.dst (.slice A' (n+m) cap')) w') :
  wpList P ops Q (o::rest) a w:=by
 obtain⟨i,hi,hz0,hz1,hz2⟩:=info_parts sl.info
 rcases A with _|ad
 ·have hm:m=0:=by
   rcases Nat.eq_zero_or_pos m with h0|h0
   ·exact h0
   ·obtain⟨b,o,h,_⟩:=hr.2 h0
    cases h
  subst hm;have hn:news=[]:=List.eq_nil_of_length_eq_zero (by simpa using hr.1);subst hn;refine wpList_plain hgd fun K hK=>?_
  have hrun:=Zhs (P:=P) w base t o.type e i size sl.slice hi v n xs hown c;unfold Oper.wp execOp;simp only[ho,resolve,invoke,builtin,Sem.run_bind,Sem.run_pure,Result.andThen_ok,List.map_toArray,List.map_cons,List.map_nil,hs,hx,hrun];obtain⟨A,cap,rfl,_⟩:=ZaF hown;exact hK _ _ (h A cap w (by simpa using hown) (bR0 _ _))
 ·refine wpList_append_own _ hgd s x t ho base e i z size bytes sl.slice hi hz0 hz1 hz2 sl.cells sl.pos v n xs hs hown ad m c news hx hr.1 ?_ h1 h63 hbytes hbase ?_
  ·intro j u hu
   rcases Nat.eq_zero_or_pos m with h0|h0
   ·subst h0;have hn:news=[]:=List.eq_nil_of_length_eq_zero (by simpa using hr.1);subst hn;simp at hu
   ·obtain⟨b,o',h,_,hc⟩:=hr.2 h0;injection h with h
    subst h;rw[show ((⟨b,o',none⟩:Addr).add j)=⟨b,o'+j,none⟩ by unfold Addr.add;by_cases hj:j=0<;>simp[hj]];exact hc j u hu
  ·intro v' w' h2 h3 _;obtain⟨A,cap,rfl,_⟩:=ZaF h2;exact h A cap w' h2 ((bR0 _ _).grown h3 hbase fun k hk=>(hown.lt k hk).1)
def hs1(h x:Int):Int:=IntKind.u64.wrap (IntKind.u64.wrap (h+IntKind.u64.wrap x)*1099511628211)
def ZbK(xs:List Int)(o:Nat)(ys:List Int)(k:Nat):List Int:=xs.mapIdx fun i x=>if o<=i/\i<o+k then wrap64 (x+ys.getD (i-o) 0) else x
theorem Zbg(xs:List Int)(o:Nat)(ys:List Int)(k:Nat):(ZbK xs o ys k).length=xs.length:=by simp[ZbK]
theorem Zbh(xs:List Int)(o:Nat)(ys:List Int)(k i:Nat):(ZbK xs o ys k)[i]?=xs[i]?.map fun x=>if o<=i/\i<o+k then wrap64 (x+ys.getD (i-o) 0) else x:=by simp[ZbK]
theorem Zfo(xs:List Int)(o:Nat)(ys:List Int):ZbK xs o ys 0=xs:=by
 apply List.ext_getElem?
 intro i;rw[Zbh]
 cases xs[i]? with
 |none=>rfl
 |some x=>simp;omega
theorem Zh9(xs:List Int)(o:Nat)(ys:List Int)(k:Nat)(x y:Int)(hx:xs[o+k]?=some x)(hy:ys[k]?=some y):(ZbK xs o ys k).set (o+k) (wrap64 (x+y))=ZbK xs o ys (k+1):=by
 apply List.ext_getElem?
 intro i;rw[List.getElem?_set,Zbh,Zbh]
 by_cases e:o+k=i
 ·subst e;have hlt:o+k<xs.length:=(YaG.1 hx).1;rw[if_pos rfl,if_pos (by rw[Zbg];exact hlt),hx];simp[hy]
 ·rw[if_neg e]
  cases xs[i]? with
  |none=>rfl
  |some x=>
   simp only[Option.map_some]
   congr 1
   by_cases h1:o<=i/\i<o+k
   ·rw[if_pos h1,if_pos (by omega)]
   ·rw[if_neg h1,if_neg (by omega)]
theorem Znn(xs:List Int)(o:Nat)(ys:List Int)(k:Nat)(x:Int)(hx:xs[o+k]?=some x):(ZbK xs o ys k)[o+k]?=some x:=by
 rw[Zbh,hx];simp
def addL(xs ys:List Int):List Int:=ZbK xs 0 ys xs.length
def ZbM(acc:List Int):List (List Int)->Option (List Int)
 |[]=>some acc
 |z::zs=>if z.length=acc.length then ZbM (addL acc z) zs else none
def ZvI:List (List Int)->Option (List Int)
 |[]=>some []
 |z::zs=>ZbM z zs
theorem Zgw(x y:List Int):(addL x y).length=x.length:=Zbg _ _ _ _
theorem ZfI(acc:List Int)(zs:List (List Int))(k:Nat)(z:List Int)(h:zs[k]?=some z)(hl:z.length=acc.length):ZbM acc (zs.drop k)=ZbM (addL acc z) (zs.drop (k+1)):=by
 obtain⟨hk,hz⟩:=YaG.1 h;rw[List.drop_eq_getElem_cons hk,hz];simp only[ZbM];rw[if_pos hl]
theorem Zkd(acc:List Int)(zs:List (List Int))(k:Nat)(z:List Int)(h:zs[k]?=some z)(hl:z.length≠acc.length):ZbM acc (zs.drop k)=none:=by
 obtain⟨hk,hz⟩:=YaG.1 h;rw[List.drop_eq_getElem_cons hk,hz];simp only[ZbM];rw[if_neg hl]
theorem ZlO(acc:List Int)(zs:List (List Int))(k:Nat)(h:zs.length<=k):ZbM acc (zs.drop k)=some acc:=by
 rw[List.drop_eq_nil_of_le h];rfl
theorem Zoi(zs:List (List Int))(z:List Int)(h:zs[0]?=some z):ZvI zs=ZbM z (zs.drop 1):=by
 cases zs with
 |nil=>simp at h
 |cons a l=>
  simp at h;subst h;rfl
def slv(s:Option Addr×Nat×Nat):Value:=.slice s.1 s.2.1 s.2.2
def RdV(w:World)(ss:List (Option Addr×Nat×Nat))(zs:List (List Int)):Prop:=
 ss.length=zs.length/\∀(i:Nat) (s:Option Addr×Nat×Nat) (z:List Int),ss[i]?=some s->zs[i]?=some z->z.length=s.2.1/\Rd w 1 s.1 s.2.1 (iv z)
theorem ZvS{w:World}{A:Option Addr}{n k:Nat}{ss:List (Option Addr×Nat×Nat)}{zs:List (List Int)}(hl:ss.length=n)(h:Rd w 1 A n (ss.map slv))(hv:RdV w ss zs)(hk:k<n) :
  ∃b o As ns cs z,A=some ⟨b,o,none⟩/\b<w.heap.size/\ss[k]?=some (As,ns,cs)/\zs[k]?=some z/\w.cell? ⟨b,o+k,none⟩=some (.slice As ns cs)/\z.length=ns/\Rd w 1 As ns (iv z):=by
 obtain⟨b,o,e,hb,hc⟩:=h.2 (by omega);have hks:k<ss.length:=by omega
 have hkz:k<zs.length:=by rw[<-hv.1];omega
 have h1:=hc k (slv ss[k]) (by simp[hks]);have h2:=hv.2 k _ _ (YaA hks) (YaA hkz);exact⟨b,o,ss[k].1,ss[k].2.1,ss[k].2.2,zs[k],e,hb,YaA hks,YaA hkz,h1,h2.1,h2.2⟩
abbrev Zde:=(Bool×Bool)×(Int×Int×Int×Int×Int)×(Int×Int)
def ZlB(a:Zde):List Value:=[.bool a.1.1,.bool a.1.2,.int .i64 a.2.1.1,.int .i64 a.2.1.2.1,.int .i64 a.2.1.2.2.1,.int .i64 a.2.1.2.2.2.1,.int .i64 a.2.1.2.2.2.2,.int .i64 a.2.2.1,.int .i64 a.2.2.2]
def Zd3(l:List Zde):List Value:=l.flatMap ZlB
theorem Zno:Zd3 []=[]:=rfl
theorem ZcT(l k:List Zde):Zd3 (l++k)=Zd3 l++Zd3 k:=by simp[Zd3]
theorem Zgd(a:Zde):Zd3 [a]=ZlB a:=by simp[Zd3]
theorem Zke(a:Zde)(l:List Zde):Zd3 (a::l)=ZlB a++Zd3 l:=by simp[Zd3]
theorem ZcU(a:Zde):(ZlB a).length=9:=rfl
theorem Zgx(l:List Zde):(Zd3 l).length=l.length*9:=by
 induction l with
 |nil=>rfl
 |cons a l ih=>rw[Zke,YaS,ZcU,ih,List.length_cons];omega
theorem Zst(l:List Zde)(k:Nat)(a:Zde)(h:l[k]?=some a)(j:Nat)(hj:j<9):(Zd3 l)[k*9+j]?=(ZlB a)[j]?:=by
 induction l generalizing k with
 |nil=>simp at h
 |cons b l ih=>
  rw[Zke]
  cases k with
  |zero=>
   simp at h;subst h;rw[Nat.zero_mul,Nat.zero_add,YaV (by rw[ZcU];exact hj)]
  |succ k=>
   rw[YaU (by rw[ZcU];omega),ZcU,show (k+1)*9+j-9=k*9+j by omega];exact ih k (by simpa using h)
theorem Zcf(a:Zde):∀u∈(ZlB a).toArray.toList,u.oneCell'=true:=by
 intro u hu;simp only[ZlB,List.mem_cons,List.not_mem_nil,or_false] at hu
 rcases hu with rfl|rfl|rfl|rfl|rfl|rfl|rfl|rfl|rfl<;>rfl
theorem Zkf{w:World}{A:Option Addr}{n k:Nat}{l:List Zde}(hl:l.length=n)(h:Rd w 9 A n (Zd3 l))(hk:k<n) :
  ∃b o sd ad s bu p r i x y,A=some ⟨b,o,none⟩/\b<w.heap.size/\l[k]?=some ((sd,ad),(s,bu,p,r,i),(x,y)) /\
   w.cell? ⟨b,o+k*9,none⟩=some (.bool sd)/\w.cell? ⟨b,o+k*9+1,none⟩=some (.bool ad)/\w.cell? ⟨b,o+k*9+2,none⟩=some (.int .i64 s)/\w.cell? ⟨b,o+k*9+3,none⟩=some (.int .i64 bu)/\w.cell? ⟨b,o+k*9+4,none⟩=some (.int .i64 p) /\
   w.cell? ⟨b,o+k*9+5,none⟩=some (.int .i64 r)/\w.cell? ⟨b,o+k*9+6,none⟩=some (.int .i64 i)/\w.cell? ⟨b,o+k*9+7,none⟩=some (.int .i64 x)/\w.cell? ⟨b,o+k*9+8,none⟩=some (.int .i64 y):=by
 obtain⟨b,o,e,hb,hc⟩:=h.2 (by omega);obtain⟨⟨⟨sd,ad⟩,⟨s,bu,p,r,i⟩,x,y⟩,ha⟩:∃a,l[k]?=some a:=⟨_,YaA (by omega)⟩;have g:=fun j hj=>Zst l k _ ha j hj
 refine⟨b,o,sd,ad,s,bu,p,r,i,x,y,e,hb,ha,?_,?_,?_,?_,?_,?_,?_,?_,?_⟩
 ·exact hc _ _ (g 0 (by omega))
 ·rw[Nat.add_assoc];exact hc _ _ (g 1 (by omega))
 ·rw[Nat.add_assoc];exact hc _ _ (g 2 (by omega))
 ·rw[Nat.add_assoc];exact hc _ _ (g 3 (by omega))
 ·rw[Nat.add_assoc];exact hc _ _ (g 4 (by omega))
 ·rw[Nat.add_assoc];exact hc _ _ (g 5 (by omega))
 ·rw[Nat.add_assoc];exact hc _ _ (g 6 (by omega))
 ·rw[Nat.add_assoc];exact hc _ _ (g 7 (by omega))
 ·rw[Nat.add_assoc];exact hc _ _ (g 8 (by omega))
def Zei(w:World)(e:TypeId)(n:Nat)(L:List Zde)(v:Value)(wr:World):Prop:=
 (∃A cap,v=.slice A n cap)/\wr.ownsRow w.heap.size e 9 v n (Zd3 L)/\Below w.heap.size w wr
theorem Zei.start(w:World)(e:TypeId):Zei w e 0 [] (.slice none 0 0) w:=⟨⟨_,_,rfl⟩,by simpa [Zno] using World.ownsRow_nil w w.heap.size e 9,bR0 _ _⟩
theorem Zei.len{w wr:World}{e:TypeId}{n:Nat}{L:List Zde}{v:Value}(h:Zei w e n L v wr):L.length=n:=by
 have:=h.2.1.1;rw[Zgx] at this;omega
theorem Zei.next{w wr w1:World}{e:TypeId}{n:Nat}{L:List Zde}{v:Value}{A:Option Addr}{cap:Nat}{a:Zde}(h:Zei w e n L v wr)
  (hown:w1.ownsRow w.heap.size e 9 (.slice A (n+1) cap) (n+1) (Zd3 L++(ZlB a).toArray.toList)) (hb:Below w.heap.size wr w1):Zei w e (n+1) (L++[a]) (.slice A (n+1) cap) w1:=by
 refine⟨⟨_,_,rfl⟩,?_,h.2.2.trans hb⟩;rw[ZcT,Zgd];exact hown
theorem Zei.below{w wr w1:World}{e:TypeId}{n:Nat}{L:List Zde}{v:Value}(h:Zei w e n L v wr)(hb:Below wr.heap.size wr w1):Zei w e n L v w1:=⟨h.1,Zac h.2.1 hb,bT0 h.2.2 hb⟩
theorem Zei.done{w wr:World}{e:TypeId}{n:Nat}{L:List Zde}{v:Value}(h:Zei w e n L v wr):Zal w e 9 n (Zd3 L) (.returned v) wr:=by
 obtain⟨A,cap,rfl⟩:=h.1;exact⟨A,cap,rfl,h.2.1,h.2.2⟩
def ZpL(s b p r:Int)(xs ys:List (Int×Int))(i:Nat):List Zde:=
 (match xs[i]? with|some x=>[((true,false),(s,b,p,r,(i:Int)),x)]|none=>[])++(match ys[i]? with|some y=>[((false,decide (p=0)),(s,b,p,r,(i:Int)),y)]|none=>[])
def Zhn(s b p r:Int)(xs ys:List (Int×Int))(k:Nat):List Zde:=(List.range k).flatMap (ZpL s b p r xs ys)
def Zc7(s b p r:Int)(xs ys:List (Int×Int)):List Zde:=Zhn s b p r xs ys (max xs.length ys.length)
theorem ZcI(s b p r:Int)(xs ys:List (Int×Int))(k:Nat):Zhn s b p r xs ys (k+1)=Zhn s b p r xs ys k++ZpL s b p r xs ys k:=by simp[Zhn,List.range_succ]
theorem Zuu(s b p r:Int)(xs ys:List (Int×Int))(i:Nat):(ZpL s b p r xs ys i).length<=2:=by
 unfold ZpL
 split<;>split<;>simp
theorem ZlP(s b p r:Int)(xs ys:List (Int×Int))(k:Nat):(Zhn s b p r xs ys k).length<=2*k:=by
 induction k with
 |zero=>simp[Zhn]
 |succ k ih=>
  rw[ZcI,YaS];have:=Zuu s b p r xs ys k;omega
abbrev ZaH:=(Int×Int×Int)×Zde
def ZfY(x:ZaH):List Value:=[.int .i64 x.1.1,.int .i64 x.1.2.1,.int .i64 x.1.2.2]++ZlB x.2
def ZaJ(l:List ZaH):List Value:=l.flatMap ZfY
theorem Zia:ZaJ []=[]:=rfl
theorem ZeF(l k:List ZaH):ZaJ (l++k)=ZaJ l++ZaJ k:=by simp[ZaJ]
theorem Zib(x:ZaH):ZaJ [x]=ZfY x:=by simp[ZaJ]
theorem Zej(x:ZaH):∀u∈(ZfY x).toArray.toList,u.oneCell'=true:=by
 intro u hu;simp[ZfY,ZlB] at hu
 rcases hu with rfl|rfl|rfl|rfl|rfl|rfl|rfl|rfl|rfl|rfl|rfl|rfl<;>rfl
def Zcx(t u:TypeId)(w w':World):Prop:=∀g e cs,e≠t->e≠u->Blk w g e cs->Blk w' g e cs
theorem Zcx.refl(t u:TypeId)(w:World):Zcx t u w w:=fun _ _ _ _ _ h=>h
theorem Zcx.trans{t u:TypeId}{a b c:World}(h:Zcx t u a b)(k:Zcx t u b c):Zcx t u a c:=fun g e cs h1 h2 hb=>k g e cs h1 h2 (h g e cs h1 h2 hb)
theorem Zcx.of_below{t u:TypeId}{w w':World}(h:Below w.heap.size w w'):Zcx t u w w':=fun g e cs _ _ hb=>hb.kept h
theorem Zcx.of_own{t u:TypeId}{w w':World}{base size n:Nat}{v:Value}{xs:List Value}(ho:w.ownsRow base u size v n xs)(h:w.grownBy w' v.ownBlock):Zcx t u w w':=fun g e cs _ h2 hb=>hb.other ho h (fun e'=>h2 e'.symm)
theorem Zcx.of_own'{t u:TypeId}{w w':World}{base size n:Nat}{v:Value}{xs:List Value}(ho:w.ownsRow base t size v n xs)(h:w.grownBy w' v.ownBlock):Zcx t u w w':=fun g e cs h1 _ hb=>hb.other ho h (fun e'=>h1 e'.symm)
theorem Zcx.of_gr{t u:TypeId}{w w':World}{b:Nat}{cs':Array Value}(hb':Blk w b t cs')(h:w.grownBy w' (some b)):Zcx t u w w':=fun g e cs h1 _ hb=>hb.grown h (by simpa using hb.ne_ hb' h1)
theorem Zcx.own{t u:TypeId}{w w':World}(h:Zcx t u w w')(hs:w.heap.size<=w'.heap.size){e:TypeId}{base size n:Nat}{v:Value}{xs:List Value}(ho:w.ownsRow base e size v n xs)(h1:e≠t)(h2:e≠u):w'.ownsRow base e size v n xs:=by
 refine⟨ho.1,?_⟩
 rcases ho.2 with h3|⟨g,cap,cur,rfl,hbg,hh,r⟩
 ·exact .inl h3
 ·exact .inr ⟨g,cap,cur,rfl,hbg,h g e cur h1 h2 hh,r⟩
def ZaU(l:List Int):Bool:=l.any fun x=>decide (x<1) || decide (1048576<x)
theorem Zck{l:List Int}{k:Nat}{x:Int}(hx:l[k]?=some x)(h:x<1\/1048576<x):ZaU l=true:=by
 unfold ZaU;rw[List.any_eq_true];exact⟨x,YaL hx,by simpa using h⟩
theorem Zgy{l:List Int}{n:Nat}(hl:l.length=n)(h:∀i x,i<n->l[i]?=some x->1<=x/\x<=1048576):ZaU l=false:=by
 unfold ZaU;rw[List.any_eq_false];intro x hx;obtain⟨i,hi,rfl⟩:=List.mem_iff_getElem.1 hx;have:=h i _ (by omega) (YaA hi);simp;omega
theorem Zb1{l:List Int}(h:ZaU l=false){k:Nat}{x:Int}(hx:l[k]?=some x):1<=x/\x<=1048576:=by
 apply Classical.byContradiction
 intro hno;rw[Zck hx (by omega)] at h
 cases h
def Zbp(l:List Int):Nat->Int
 |0=>0
 |k+1=>Zbp l k+(l.getD k 0+1)*l.getD (k+1) 0
theorem Zsu{x y:Int}(hx:1<=x/\x<=1048576)(hy:1<=y/\y<=1048576):0<=x*y/\x*y<=1099511627776:=by
 have h1:=Int.mul_nonneg (show 0<=x by omega) (show 0<=y by omega);have h2:x*y<=1048576*1048576:=Int.mul_le_mul hx.2 hy.2 (by omega) (by omega);omega
theorem ZbN{l:List Int}(h:ZaU l=false):∀k:Nat,k<l.length\/k=0->0<=Zbp l k/\Zbp l k<=(k:Int)*1099512676352
 |0,_=>by simp[Zbp]
 |k+1,hk=>by
  have ih:=ZbN h k (by omega);have hx:=Zb1 h (YaA (show k<l.length by omega));have hy:=Zb1 h (YaA (show k+1<l.length by omega));have hp:=Zsu hx hy;rw[Zbp,show l.getD k 0=l[k]'(by omega) by simp[List.getD,show k<l.length by omega],show l.getD (k+1) 0=l[k+1]'(by omega) by simp[List.getD,show k+1<l.length by omega],Int.add_mul,Int.one_mul];omega
def ZaI(l:List Int):Bool:=decide (2<=l.length) && decide (l.length<=16) && !ZaU l && decide (Zbp l (l.length-1)<=1048576)
end
section
open Go.RowKit
variable(A:Option Addr)(n cap:Nat)(l:List Int)(w:World)
theorem Zht(hl:l.length=n)(h:Rd w 1 A n (iv l))(hn:n<=1000000) :
  Calls prog 180 #[.slice A n cap,.func (.func 101) #[] #[]] w fun e w'=>∃v:Int,e=.returned (.int .i64 v)/\decide (0<=v)=ZaU l/\w=w':=by
 have HL:=hid hl;have HR:=hid h;clear hl h
 go_enter func180,ntmps180
 go_wp2_with fail
 go_loop [8] (fun c=>∃k:Nat,k<=n/\c=.int .i64 k/\Hid (∀j x,j<k->l[j]?=some x->1<=x/\x<=1048576)) (fun c=>n-(intOf c).toNat)
 case atStart=>exact⟨0,by omega,rfl,hid (fun j x h=>by omega)⟩
 case round=>
  obtain⟨k,hk,rfl,he⟩:=hrel
  by_cases hlt:k<n
  ·obtain⟨b,o,x,rfl,hbl,hx,c1⟩:=Zb7 HL.out HR.out hlt;have HX:=hid hx;clear hx
   by_cases hlow:x<1
   ·go_wp2;go_ret;exact⟨k,rfl,by rw[Zck HX.out (.inl hlow)];simp,rfl⟩
   ·by_cases hhi:1048576<x
    ·go_wp2;go_ret;exact⟨k,rfl,by rw[Zck HX.out (.inr hhi)];simp,rfl⟩
    ·go_wp2
     go_round
     case rel=>
      refine⟨k+1,by omega,by go_num,hid (fun j y hj hy=>?_)⟩
      by_cases hjk:j<k
      ·exact he.out j y hjk hy
      ·obtain rfl:j=k:=by omega
       rw[HX.out] at hy;injection hy with hy
       omega
     case measure=>simp[intOf];omega
  ·obtain rfl:k=n:=by omega
   go_wp2;go_ret;exact⟨-1,rfl,by rw[Zgy HL.out he.out];rfl,rfl⟩
theorem ZbO(hl:l.length=n)(h:Rd w 1 A n (iv l))(hn:n<=1000000) :
  Calls prog 102 #[.slice A n cap,.func (.func 101) #[] #[]] w fun e w'=>e=.returned (.bool (ZaU l))/\w=w':=by
 have HL:=hid hl;have HR:=hid h;clear hl h
 go_enter func102,ntmps102
 go_wp2_with fail;((with_reducible refine(Zht A n cap l _ HL.out HR.out hn).mono ?_);rintro e w1 ⟨v,rfl,hv,rfl⟩);have HV:=hid hv;clear hv;go_wp2_with fail;go_ret;exact⟨Zao HV.out,rfl⟩
theorem Zbr(hl:l.length=n)(h:Rd w 1 A n (iv l))(hn:n<=16)(hw:ZaU l=false) :
  Calls prog 37 #[.slice A n cap] w fun e w'=>e=.returned (.int .i64 (Zbp l (n-1)))/\Below w.heap.size w w':=by
 have HL:=hid hl;have HR:=hid h;have HW:=hid hw;clear hl h hw
 go_enter func37,ntmps37
 go_wp2_with fail
 go_loopw [3,4] (fun s i wr=>∃(k:Nat) (c:Int),(k<n\/k=0)/\i=.int .i64 k/\s=.int .i64 c/\Hid (c=Zbp l k)/\Below w.heap.size w wr) (fun _ i _=>n-(intOf i).toNat)
 case atStart=>exact⟨0,0,.inr rfl,rfl,rfl,hid rfl,bR0 _ _⟩
 case round=>
  obtain⟨k,c,hk,rfl,rfl,hc,hb⟩:=hrel
  by_cases hlt:k+1<n
  ·obtain⟨b,o,x,rfl,hbl,hx,c1⟩:=Zb7 HL.out (HR.out.below hb) (show k<n by omega);obtain⟨b',o',y,hA,hbl',hy,c2⟩:=Zb7 HL.out (HR.out.below hb) hlt;injection hA with hA
   injection hA with e1 e2
   subst e1 e2;have wx:=Zb1 HW.out hx;have wy:=Zb1 HW.out hy;have hp:=Zsu wx wy;have hcb:=ZbN HW.out k (by rw[HL.out];omega);rw[<-hc.out] at hcb;have HN:Hid (Zbp l (k+1)=c+(x+1)*y):=hid (by rw[Zbp,<-hc.out];simp[List.getD,hx,hy]);have hxy:(x+1)*y=x*y+y:=by rw[Int.add_mul,Int.one_mul]
   obtain⟨p,hpp⟩:∃p,(x+1)*y=p:=⟨_,rfl⟩;have hpb:0<=p/\p<=1099512676352:=by rw[<-hpp,hxy];omega
   have hk16:(k:Int)*1099512676352<=17592202821632:=by omega
   have hw1:IntKind.i64.wrap ((x+1)*y)=p:=by rw[hpp];exact IntWalk.i64_in _ (by omega)
   have hcc:0<=c/\c<=17592202821632:=by omega
   rw[hpp] at HN;have HB:=hid hb;have i1:(0:Int)<=(k:Int):=by omega
   have i2:(k:Int)<(n:Int):=by omega
   have i3:(k:Int)+1<(n:Int):=by omega
   have i4:(0:Int)<=(k:Int)+1:=by omega
   have e9:decide ((k:Int)+1<(n:Int))=true:=YaJ (by omega);have c3:wr.cell? ⟨b,o+(k+1),none⟩=some (.int .i64 y):=c2;clear hx hy hp hcb hxy hpp hc hb hk16;go_wp2_with fail;go_region;go_wp2_with fail
   go_roundw
   case rel=>exact⟨k+1,c+p,.inl hlt,by go_num,rfl,hid HN.out.symm,HB.out.drew⟩
   case measure=>simp[intOf];omega
  ·have e9:decide ((k:Int)+1<(n:Int))=false:=YaI (by omega);have HK:Hid (c=Zbp l (n-1)):=hid (by rw[hc.out];congr 1;omega);go_wp2_with fail;go_ret;exact⟨ZaG HK.out,hb⟩
def Zek(ok:Bool)(w:World)(e:Ending)(w':World):Prop:=∃c:Int,e=.returned (.int .i64 c)/\(c=0↔ok=true)/\Below w.heap.size w w'
theorem Zhu(hl:l.length=n)(h:Rd w 1 A n (iv l))(hn:n<=1000) :
  Calls prog 98 #[.slice A n cap] w (Zek (ZaI l) w):=by
 by_cases h2:n<2
 ·have e1:decide ((n:Int)<2)=true:=YaJ (by omega);have hs:ZaI l=false:=by rw[ZaI,hl,YaI (by omega)];rfl
  rw[hs];clear h hl hs
  go_enter func98,ntmps98
  go_wp2_with fail;go_ret;exact⟨5,rfl,by simp,bR0 _ _⟩
 ·by_cases h16:16<n
  ·have e1:decide ((n:Int)<2)=false:=YaI (by omega);have e2:decide ((16:Int)<(n:Int))=true:=YaJ (by omega);have hs:ZaI l=false:=by rw[ZaI,hl,YaI (show ¬n<=16 by omega)];simp
   rw[hs];clear h hl hs
   go_enter func98,ntmps98
   go_wp2_with fail;go_ret;exact⟨5,rfl,by simp,bR0 _ _⟩
  ·have e1:decide ((n:Int)<2)=false:=YaI (by omega);have e2:decide ((16:Int)<(n:Int))=false:=YaI (by omega);have HL:=hid hl;have HR:=hid h;have HNO:Hid (ZaU l=true->ZaI l=false):=hid (fun h=>by rw[ZaI,h];simp);have HY:Hid (ZaU l=false->ZaI l=decide (Zbp l (n-1)<=1048576)):=hid (fun h=>by rw[ZaI,h,hl,YaJ (show 2<=n by omega),YaJ (show n<=16 by omega)];simp);obtain⟨q,hq⟩:∃q,ZaI l=q:=⟨_,rfl⟩;rw[hq] at HNO HY ⊢;clear h hl hq
   go_enter func98,ntmps98
   go_wp2_with fail
   go_loopw [3] (fun i wr=>∃k:Nat,k<=n/\i=.int .i64 k/\wr=w/\Hid (∀j x,j<k->l[j]?=some x->1<=x/\x<=1048576)) (fun i _=>n-(intOf i).toNat)
   case atStart=>exact⟨0,by omega,rfl,rfl,hid (fun j x h=>by omega)⟩
   case round=>
    obtain⟨k,hk,rfl,hwr,he⟩:=hrel;subst hwr
    by_cases hlt:k<n
    ·obtain⟨b,o,x,rfl,hbl,hx,c1⟩:=Zb7 HL.out HR.out hlt;have HX:=hid hx;have i1:(0:Int)<=(k:Int):=by omega
     have i2:(k:Int)<(n:Int):=by omega
     clear hx
     by_cases hlow:x<1
     ·have f1:decide (x<1)=true:=YaJ hlow;have HQ:=hid (HNO.out (Zck HX.out (.inl hlow)));go_wp2_with fail;go_ret;exact⟨5,rfl,by rw[HQ.out];simp,bR0 _ _⟩
     ·have f1:decide (x<1)=false:=YaI hlow
      by_cases hhi:1048576<x
      ·have f2:decide (1048576<x)=true:=YaJ hhi;have HQ:=hid (HNO.out (Zck HX.out (.inr hhi)));go_wp2_with fail;go_ret;exact⟨5,rfl,by rw[HQ.out];simp,bR0 _ _⟩
      ·have f2:decide (1048576<x)=false:=YaI hhi;go_wp2_with fail
       go_roundw
       case rel=>
        refine⟨k+1,by omega,by go_num,trivial,hid (fun j y hj hy=>?_)⟩
        by_cases hjk:j<k
        ·exact he.out j y hjk hy
        ·obtain rfl:j=k:=by omega
         rw[HX.out] at hy;injection hy with hy
         omega
       case measure=>simp[intOf];omega
    ·obtain rfl:k=n:=by omega
     have hwf:ZaU l=false:=Zgy HL.out he.out;have C:=Zbr A k cap l wr HL.out HR.out (by omega) hwf;have HQ:=hid (HY.out hwf);have hcb:=ZbN hwf (k-1) (by rw[HL.out];omega);obtain⟨c,hc⟩:∃c,Zbp l (k-1)=c:=⟨_,rfl⟩;rw[hc] at C HQ hcb;have HC:=hid C;clear C hc hwf
     by_cases hbig:1048576<c
     ·have f1:decide (1048576<c)=true:=YaJ hbig;go_wp2_with fail;((with_reducible refine HC.out.mono ?_);rintro e w1 ⟨rfl,hb1⟩);go_wp2_with fail;go_ret;exact⟨4,rfl,by rw[HQ.out];simp;omega,hb1⟩
     ·have f1:decide (1048576<c)=false:=YaI hbig;go_wp2_with fail;((with_reducible refine HC.out.mono ?_);rintro e w1 ⟨rfl,hb1⟩);go_wp2_with fail;go_ret;exact⟨0,rfl,by rw[HQ.out];simp;omega,hb1⟩
end
section
open Go.RowKit
theorem Zw2{w:World}{g:Nat}{t:TypeId}{x y z u:Value}(h:Blk w g t #[x,y,z,u])(v:Value) :
  w.grownBy (w.setCell ⟨g,3,none⟩ v) (some g)/\Blk (w.setCell ⟨g,3,none⟩ v) g t #[x,y,z,v]:=
 ⟨Zak (p:=⟨g,3,none⟩) (World.grownBy.refl w _) (.inl rfl) v,by simpa using h.set_ 3 v⟩
theorem ZvT{w:World}{g:Nat}{t:TypeId}{x y z u:Value}(h:Blk w g t #[x,y,z,u])(v:Value) :
  w.grownBy (w.setCell ⟨g,1,none⟩ v) (some g)/\Blk (w.setCell ⟨g,1,none⟩ v) g t #[x,v,z,u]:=
 ⟨Zak (p:=⟨g,1,none⟩) (World.grownBy.refl w _) (.inl rfl) v,by simpa using h.set_ 1 v⟩
theorem ZvU{w:World}{g:Nat}{t:TypeId}{x y z u:Value}(h:Blk w g t #[x,y,z,u])(v:Value) :
  w.grownBy (w.setCell ⟨g,2,none⟩ v) (some g)/\Blk (w.setCell ⟨g,2,none⟩ v) g t #[x,y,v,u]:=
 ⟨Zak (p:=⟨g,2,none⟩) (World.grownBy.refl w _) (.inl rfl) v,by simpa using h.set_ 2 v⟩
theorem Zb9(gs bs:Nat)(sz ws bi:Value)(c m:Int)(w:World)(h1:Blk w gs 98 #[.pointer (some ⟨bs,0,none⟩)])(h2:Blk w bs 228 #[sz,ws,bi,.int .i64 c])
  (hc:0<=c/\c<=1000000000000000) (hm:0<=m/\m<=1000000000000000) :
  Calls prog 103 #[.int .i64 m,.pointer (some ⟨gs,0,none⟩)] w fun e w'=>e=.returned (.agg #[.int .i64 c,.int .i64 (c+m)])/\Blk w' bs 228 #[sz,ws,bi,.int .i64 (c+m)]/\w.grownBy w' (some bs):=by
 have hne:gs≠bs:=h1.ne_ h2 (by decide);have c0:w.cell? ⟨gs,0,none⟩=some (.pointer (some ⟨bs,0,none⟩)):=h1.cell 0;have c3:w.cell? ⟨bs,3,none⟩=some (.int .i64 c):=h2.cell 3;have f3:=h2.frozen 3;have l1:=h1.lt;have l2:=h2.lt;have hw:IntKind.i64.wrap (c+m)=c+m:=IntWalk.i64_in _ (by omega);have H2:=hid h2;clear h1 h2
 go_enter func103,ntmps103
 go_wp2_with fail;go_region;go_wp2;have hst:=Zw2 H2.out (.int .i64 (c+m));exact bodyPost_ret (v:=.agg #[.int .i64 c,.int .i64 (c+m)]) (by simp[results,results103,go_sem]) rfl ⟨rfl,((hst.2.alloc _).alloc _).drew,ZcS (Znj (Znj hst.1 _) _)⟩
theorem ZdM(A:Option Addr)(n cap:Nat)(l:List Int)(w:World)(hl:l.length=n)(h:Rd w 1 A n (iv l))(hn:n<=1000000) :
  Calls prog 87 #[.slice A n cap] w (Zal w 3 1 n (iv l)):=by
 have HR:=hid h;have HL:=hid hl;have hq:=fun(w:World) (a:Option Addr) (n c:Nat)=>Lib.run_eql_slice_nil (P:=prog) w 22 3 a n c 0 0 underlying22
 clear h hl
 cases A with
 |none=>
  have hn0:n=0:=by
   rcases Nat.eq_zero_or_pos n with h0|h0
   ·exact h0
   ·obtain⟨b,o,h,_⟩:=HR.out.2 h0;cases h
  subst hn0;have hl0:l=[]:=List.eq_nil_of_length_eq_zero HL.out;subst hl0
  go_enter func87,ntmps87
  go_wp2;go_ret;exact⟨none,0,rfl,by simpa [iv] using World.ownsRow_nil _ _ _ _,bR0 _ _⟩
 |some ad=>
  go_enter func87,ntmps87
  go_wp2_with (at_builtin;go_must (refine Za5 Zhr rfl _ _ rfl w.heap.size _ 0 [] rfl (World.ownsRow_lit w #[] 0 (YaF _) (by unfold maxLen;omega) rfl) (some ad) n cap (iv l) rfl (HR.out.alloc _) (Znm l) (by unfold maxLen;omega) (by omega) (by simp) ?_);intro A' cap' w1 hown1 hb1)
  go_ret;exact⟨A',cap',by simp,by simpa using hown1,(bA0 _).trans hb1⟩
def ZlQ(ok:Bool)(w:World)(e:Ending)(w':World):Prop:=∃(pv:Option Addr) (c:Int),e=.returned (.tuple #[.pointer pv,.int .i64 c])/\(c=0↔ok=true)/\Below w.heap.size w w'
end
section
open Go.RowKit
variable(A:Option Addr)(n cap:Nat)(l:List Int)(w:World)
theorem Zkg(hl:l.length=n)(h:Rd w 1 A n (iv l))(hn:n<=1000000)(hbad:n<2\/16<n\/ZaU l=true) :
  Calls prog 39 #[.slice A n cap] w (ZlQ (ZaI l) w):=by
 by_cases h2:n<2
 ·have e1:decide ((n:Int)<2)=true:=YaJ (by omega);have hs:ZaI l=false:=by rw[ZaI,hl,YaI (by omega)];rfl
  rw[hs];clear h hl hs hbad
  go_enter func39,ntmps39
  go_wp2_with fail
  go_ret2
  exact⟨none,5,rfl,by simp,bR0 _ _⟩
 ·by_cases h16:16<n
  ·have e1:decide ((n:Int)<2)=false:=YaI (by omega);have e2:decide ((16:Int)<(n:Int))=true:=YaJ (by omega);have hs:ZaI l=false:=by rw[ZaI,hl,YaI (show ¬n<=16 by omega)];simp
   rw[hs];clear h hl hs hbad
   go_enter func39,ntmps39
   go_wp2_with fail
   go_ret2
   exact⟨none,5,rfl,by simp,bR0 _ _⟩
  ·have hwr:ZaU l=true:=by rcases hbad with h|h|h;omega;omega;exact h
   have e1:decide ((n:Int)<2)=false:=YaI (by omega);have e2:decide ((16:Int)<(n:Int))=false:=YaI (by omega);have C:=ZbO A n cap l w hl h hn;rw[hwr] at C;have HC:=hid C;have hs:ZaI l=false:=by rw[ZaI,hwr];simp
   rw[hs];clear h hl hs C hbad hwr
   go_enter func39,ntmps39
   go_wp2_with fail;((with_reducible refine HC.out.mono ?_);rintro e w1 ⟨rfl,rfl⟩);go_wp2_with fail
   go_ret2
   exact⟨none,5,rfl,by simp,bR0 _ _⟩
theorem ZeG{u v:Value}(h:∀g,u.ownBlock=some g->v.ownBlock≠some g):v.ownBlock=none\/v.ownBlock≠u.ownBlock:=by
 cases hv:v.ownBlock with
 |none=>exact .inl rfl
 |some g=>exact .inr (fun e=>h g e.symm hv)
def Zt2(w:World)(base:Nat)(v:Value)(n:Nat):Prop:=∃xs,w.ownsRow base 218 2 v n xs
theorem ZiZ(hl:l.length=n)(h:Rd w 1 A n (iv l))(hcap:n<=cap)(h2:2<=n)(h16:n<=16)(hw:ZaU l=false) :
  Calls prog 39 #[.slice A n cap] w (ZlQ (ZaI l) w):=by
 have e1:decide ((n:Int)<2)=false:=YaI (by omega);have e2:decide ((16:Int)<(n:Int))=false:=YaI (by omega);have C:=ZbO A n cap l w hl h (by omega);rw[hw] at C;have HC:=hid C;have HS:Hid (ZaI l=decide (Zbp l (n-1)<=1048576)):=hid (by rw[ZaI,hw,hl,YaJ h2,YaJ h16];simp);have HCL:=hid (fun W (r:Rd W 1 A n (iv l))=>ZdM A n cap l W hl r (by omega));have HL:=hid hl;have HR:=hid h;have HW:=hid hw;obtain⟨b0,o0,rfl,hb0,hcell⟩:=h.2 (by omega);have HCE:=hid hcell;clear hl h hw C hcell;have i0:(1:Int)<=(n:Int):=by omega
 have i9:(n:Int)<=(cap:Int):=by omega
 go_enter func39,ntmps39
 go_wp2_with fail;((with_reducible refine HC.out.mono ?_);rintro e w1 ⟨rfl,rfl⟩);go_wp2_with fail;((with_reducible refine(HCL.out w HR.out).mono ?_);rintro e w2 ⟨A2,c2,rfl,hown2,hb2⟩);have HB2:=hid hb2;clear hown2 hb2;obtain⟨m,hm⟩:∃m,n-1=m:=⟨_,rfl⟩;have HX:Hid (∀W,(w2.alloc (.cells #[.slice A2 n c2,.slice none 0 0,.slice none 0 0,.int .i64 0] 228)).alloc (.cells #[.pointer (some ⟨w2.heap.size,0,none⟩)] 98)=W->Below w2.heap.size w2 W/\Blk W w2.heap.size 228 #[.slice A2 n c2,.slice none 0 0,.slice none 0 0,.int .i64 0]/\Blk W (w2.heap.size+1) 98 #[.pointer (some ⟨w2.heap.size,0,none⟩)]):=hid (by
  rintro W rfl;exact⟨(bA0 _).alloc (by simp) _,(Blk.new _ _ _).alloc _,Blk.new' _ _ (by simp)⟩)
 go_wp2_with fail;have HMN:=hid hm;have hmn:m+1=n:=by omega
 clear hm;obtain⟨h3,b3,g3⟩:=HX.out _ rfl;obtain⟨w3,hw3⟩:∃w3,(w2.alloc (.cells #[.slice A2 n c2,.slice none 0 0,.slice none 0 0,.int .i64 0] 228)).alloc (.cells #[.pointer (some ⟨w2.heap.size,0,none⟩)] 98)=w3:=⟨_,rfl⟩;rw[hw3] at h3 b3 g3 ⊢;obtain⟨bs,hbs⟩:∃bs,w2.heap.size=bs:=⟨_,rfl⟩;have hwb:w.heap.size<=bs:=by rw[<-hbs];exact HB2.out.size
 have HB3:=hid ((Zag.of HB2.out).call h3).2.2;rw[hbs] at b3 g3 ⊢;have HBS:=hid b3;have HGS:=hid g3;clear h3 b3 g3 hw3 hbs HX HC HCL;obtain⟨sz,hsz⟩:∃sz,Value.slice A2 n c2=sz:=⟨_,rfl⟩;rw[hsz] at HBS;clear hsz;have hn1:cap-1+1=cap:=by omega
 go_loopw [30] (fun i wr=>∃(k:Nat) (c:Int) (Aw Ab:Option Addr) (cw cb:Nat),k<=m/\i=.int .i64 k/\Hid (c=Zbp l k)/\Blk wr bs 228 #[sz,.slice Aw k cw,.slice Ab k cb,.int .i64 c]/\Blk wr (bs+1) 98 #[.pointer (some ⟨bs,0,none⟩)] /\
   Zt2 wr w.heap.size (.slice Aw k cw) k/\Zt2 wr w.heap.size (.slice Ab k cb) k/\(∀g,(Value.slice Aw k cw).ownBlock=some g->(Value.slice Ab k cb).ownBlock≠some g)/\Below w.heap.size w wr) (fun i _=>m-(intOf i).toNat)
 case atStart=>exact⟨0,0,none,none,0,0,by omega,rfl,hid rfl,HBS.out,HGS.out,⟨[],World.ownsRow_nil _ _ _ _⟩,⟨[],World.ownsRow_nil _ _ _ _⟩,fun g e=>by simp[Value.ownBlock] at e,HB3.out⟩
 case round=>
  obtain⟨k,c,Aw,Ab,cw,cb,hk,rfl,hc,hbk,hgk,⟨xw,how⟩,⟨xb,hob⟩,hne,hb⟩:=hrel
  by_cases hlt:k<m
  ·obtain⟨x,hx⟩:∃x,l[k]?=some x:=⟨_,YaA (by rw[HL.out];omega)⟩;obtain⟨y,hy⟩:∃y,l[k+1]?=some y:=⟨_,YaA (by rw[HL.out];omega)⟩;have wx:=Zb1 HW.out hx;have wy:=Zb1 HW.out hy;have hp:=Zsu wy wx;have hcb:=ZbN HW.out k (by rw[HL.out];omega);rw[<-hc.out] at hcb;have hk16:(k:Int)*1099512676352<=17592202821632:=by omega
   have hcc:0<=c/\c<=17592202821632:=by omega
   have HN:Hid (Zbp l (k+1)=c+y*x+y):=hid (by
    rw[Zbp,<-hc.out,show l.getD k 0=x by simp[List.getD,hx],show l.getD (k+1) 0=y by simp[List.getD,hy],Int.add_mul,Int.one_mul,Int.mul_comm x y]
    omega)
   obtain⟨p,hpp⟩:∃p,y*x=p:=⟨_,rfl⟩;rw[hpp] at hp HN;have hw1:IntKind.i64.wrap (y*x)=p:=by rw[hpp];exact IntWalk.i64_in _ (by omega)
   have cx:wr.cell? ⟨b0,o0+k,none⟩=some (.int .i64 x):=((ZiO hb).1 b0 (o0+k) hb0).trans (HCE.out k _ (by rw[iv,YaR,hx];rfl));have cy:wr.cell? ⟨b0,o0+1+k,none⟩=some (.int .i64 y):=((ZiO hb).1 b0 (o0+1+k) hb0).trans (HCE.out (k+1) _ (by rw[iv,YaR,hy];rfl)▸by rw[show o0+1+k=o0+(k+1) by omega]);have HBK:=hid hbk;have HGK:=hid hgk;have HOW:=hid how;have HOB:=hid hob;have HNE:=hid hne;have HB:=hid hb;have i1:(0:Int)<=(k:Int):=by omega
   have i2:(k:Int)<(m:Int):=by omega
   have i3:(k:Int)<(n:Int):=by omega
   have lb0:b0<wr.heap.size:=YaK hb0 hb.size;clear hbk hgk how hob hne hb hx hy hpp hcb hk16;have HN1:=hid (fun W (h1:Blk W (bs+1) 98 #[.pointer (some ⟨bs,0,none⟩)]) (h2:Blk W bs 228 #[sz,.slice Aw k cw,.slice Ab k cb,.int .i64 c])=>Zb9 (bs+1) bs sz (.slice Aw k cw) (.slice Ab k cb) c p W h1 h2 (by omega) (by omega));have hb0s:b0≠bs:=by omega
   go_wp2_with fail;have hS:(fun W:World=>W.cell? ⟨bs+1,0,none⟩=some (.pointer (some ⟨bs,0,none⟩))/\W.cell? ⟨bs,1,none⟩=some (.slice Aw k cw)/\W.cell? ⟨b0,o0+k,none⟩=some (.int .i64 x)) wr.drew:=⟨HGK.out.cell 0,HBK.out.cell 1,cx⟩;refine Zad (fun W:World=>W.cell? ⟨bs+1,0,none⟩=some (.pointer (some ⟨bs,0,none⟩))/\W.cell? ⟨bs,1,none⟩=some (.slice Aw k cw)/\W.cell? ⟨b0,o0+k,none⟩=some (.int .i64 x)) [0,1,2,3,4,5,6,7,8,9,10,11] [12,13,14] [15,16,17] (by kernel_rfl) (by kernel_rfl) hS ?_;clear hS;simp only[YaO,YaP,YaB,YaC];refine Zaa (.pointer (some ⟨bs,0,none⟩)) rfl (fun W hW=>?_) ?_
   ·obtain⟨hc1,hc2,hc3⟩:=hW;go_simp
   go_simp;refine Zaa (.pointer (some ⟨bs,0,none⟩)) rfl (fun W hW=>?_) ?_
   ·obtain⟨hc1,hc2,hc3⟩:=hW;go_simp
   go_simp;refine Zaa (.pointer (some ⟨bs,0,none⟩)) rfl (fun W hW=>?_) ?_
   ·go_simp
   go_simp;refine Zaa (.pointer (some ⟨bs,1,none⟩)) rfl (fun W hW=>?_) ?_
   ·go_simp
   go_simp;refine Zaa (.slice Aw k cw) rfl (fun W hW=>?_) ?_
   ·obtain⟨hc1,hc2,hc3⟩:=hW;go_simp
   go_simp;refine Zaa (.func (.func 103) #[] #[.pointer (some ⟨bs+1,0,none⟩)]) rfl (fun W hW=>?_) ?_
   ·go_simp
   go_simp;refine Zaa (.int .i64 y) rfl (fun W hW=>?_) ?_
   ·go_simp
   go_simp;refine Zaa (.slice (some ⟨b0,o0,none⟩) n cap) rfl (fun W hW=>?_) ?_
   ·go_simp
   go_simp;refine Zaa (.int .i64 k) rfl (fun W hW=>?_) ?_
   ·go_simp
   go_simp;refine Zaa (.pointer (some ⟨b0,o0+k,none⟩)) rfl (fun W hW=>?_) ?_
   ·go_simp
   go_simp;refine Zaa (.int .i64 x) rfl (fun W hW=>?_) ?_
   ·obtain⟨hc1,hc2,hc3⟩:=hW;go_simp
   go_simp;refine Zaa (.int .i64 p) rfl (fun W hW=>?_) ?_
   ·go_simp
   go_simp;change Zah _ _ _ _ _ (_::_::_::[]) _ _;unfold Zah;go_wp2_with fail;((with_reducible refine(HN1.out _ HGK.out.drew HBK.out.drew).mono ?_);rintro e w4 ⟨rfl,hk4,hg4⟩);have HBK4:=hid hk4;have HGK4:=hid (HGK.out.drew.grown hg4 (by simp));have HB4:=hid (Zai HB.out.drew (by simpa using HB.out.size) hg4 hwb);have HOW4:=hid (World.ownsRow.kept (show wr.drew.ownsRow w.heap.size 218 2 (.slice Aw k cw) k xw from HOW.out) hg4 (.inr (Zab HOW.out HBK.out (by decide))));have HOB4:=hid (World.ownsRow.kept (show wr.drew.ownsRow w.heap.size 218 2 (.slice Ab k cb) k xb from HOB.out) hg4 (.inr (Zab HOB.out HBK.out (by decide))));have HCX4:Hid (w4.cell? ⟨b0,o0+k,none⟩=some (.int .i64 x)):=hid ((ZlK hg4 lb0 hb0s).trans cx);have lb4:b0<w4.heap.size:=YaK lb0 hg4.size;have hs04:wr.heap.size<=w4.heap.size:=hg4.size;clear hk4 hg4;go_wp2_with fail;refine⟨⟨HGK4.out.cell 0,HBK4.out.cell 1,HCX4.out⟩,?_⟩;unfold Zah;go_wp2_with fail;refine⟨⟨(HGK4.out.alloc _).cell 0,(HBK4.out.alloc _).cell 1,HCX4.out⟩,?_⟩;unfold Zah;change wpList _ _ _ (_::[]) _ (w4.alloc (.cells #[.int .i64 c,.int .i64 (c+p)] 218));have hsz4:=HB4.out.size
   go_wp2_with (at_builtin;go_must (refine Zaj ZfF rfl _ _ rfl w.heap.size _ k xw rfl HOW4.out #[.int .i64 c,.int .i64 (c+p)] w4.heap.size rfl rfl rfl (Za4 _ _) (by unfold maxLen;omega) (by omega) hsz4 ?_);go_must (intro A5 c5 w5 hown5 hb5 hg5 hat5;(have HBK5:=hid (HBK4.out.other HOW4.out hg5 (by decide)));(have HGK5:=hid (HGK4.out.other HOW4.out hg5 (by decide)));(have HOW5:=hid hown5);(have HOB5:=hid (HOB4.out.kept hg5 (ZeG HNE.out)));(have HB5:=hid (HB4.out.trans hb5));(have HAT5:=hid hat5);(have hs45:w4.heap.size<=w5.heap.size:=hg5.size);(have HLT:=hid (fun g (e:(Value.slice Ab k cb).ownBlock=some g)=>(HOB4.out.lt g e).2));(have HCX5:Hid (w5.cell? ⟨b0,o0+k,none⟩=some (.int .i64 x)):=hid ((hb5.cell (p:=⟨b0,o0+k,none⟩) hb0).trans HCX4.out));clear hown5 hb5 hg5 hat5))
   refine⟨⟨HGK5.out.cell 0,HBK5.out.cell 1,HCX5.out⟩,?_⟩;unfold Zah;change wpList _ _ _ (_::_::_::[]) _ _;have v1:w5.cell? ⟨bs,1,none⟩=some (.slice Aw k cw):=HBK5.out.cell 1;have f1:=HBK5.out.frozen 1;have l5:=HBK5.out.lt;go_wp2_with fail;refine NoPanic.normal ?_;have hst:=ZvT HBK5.out (.slice A5 (k+1) c5);obtain⟨w6,hw6⟩:∃w6,w5.setCell ⟨bs,1,none⟩ (.slice A5 (k+1) c5)=w6:=⟨_,rfl⟩;rw[hw6] at hst;have HW6:=hid hw6;have HBK6:=hid hst.2;have HGK6:=hid (HGK5.out.grown hst.1 (by simp));have HOW6:=hid (HOW5.out.kept hst.1 (.inr (Zab HOW5.out HBK5.out (by decide))));have HOB6:=hid (HOB5.out.kept hst.1 (.inr (Zab HOB5.out HBK5.out (by decide))));have HB6:=hid (Zai HB5.out HB5.out.size hst.1 hwb);have hsw6:w6.heap.size=w5.heap.size:=by rw[<-hw6];simp[World.setCell]
   clear hst hw6 v1 f1 l5;have HN2:=hid (fun W (h1:Blk W (bs+1) 98 #[.pointer (some ⟨bs,0,none⟩)]) (h2:Blk W bs 228 #[sz,.slice A5 (k+1) c5,.slice Ab k cb,.int .i64 (c+p)])=>Zb9 (bs+1) bs sz (.slice A5 (k+1) c5) (.slice Ab k cb) (c+p) y W h1 h2 (by omega) (by omega));go_wp2_with fail;rw[HW6.out];have hS:(fun W:World=>W.cell? ⟨bs+1,0,none⟩=some (.pointer (some ⟨bs,0,none⟩))/\W.cell? ⟨bs,2,none⟩=some (.slice Ab k cb)) w6.drew:=⟨HGK6.out.cell 0,HBK6.out.cell 2⟩;refine Zad (fun W:World=>W.cell? ⟨bs+1,0,none⟩=some (.pointer (some ⟨bs,0,none⟩))/\W.cell? ⟨bs,2,none⟩=some (.slice Ab k cb)) [0,1,2,3,4,5,6] [7,8,9] [10,11,12] (by kernel_rfl) (by kernel_rfl) hS ?_;clear hS;simp only[YaO,YaP,YaB,YaC];refine Zaa (.pointer (some ⟨bs,0,none⟩)) rfl (fun W hW=>?_) ?_
   ·obtain⟨hc1,hc2⟩:=hW;go_simp
   go_simp;refine Zaa (.pointer (some ⟨bs,0,none⟩)) rfl (fun W hW=>?_) ?_
   ·obtain⟨hc1,hc2⟩:=hW;go_simp
   go_simp;refine Zaa (.pointer (some ⟨bs,0,none⟩)) rfl (fun W hW=>?_) ?_
   ·go_simp
   go_simp;refine Zaa (.pointer (some ⟨bs,2,none⟩)) rfl (fun W hW=>?_) ?_
   ·go_simp
   go_simp;refine Zaa (.slice Ab k cb) rfl (fun W hW=>?_) ?_
   ·obtain⟨hc1,hc2⟩:=hW;go_simp
   go_simp;refine Zaa (.func (.func 103) #[] #[.pointer (some ⟨bs+1,0,none⟩)]) rfl (fun W hW=>?_) ?_
   ·go_simp
   go_simp;refine Zaa (.int .i64 y) rfl (fun W hW=>?_) ?_
   ·go_simp
   go_simp;change Zah _ _ _ _ _ (_::_::_::[]) _ _;unfold Zah;go_wp2_with fail;((with_reducible refine(HN2.out _ HGK6.out.drew HBK6.out.drew).mono ?_);rintro e w7 ⟨rfl,hk7,hg7⟩);have HBK7:=hid hk7;have HGK7:=hid (HGK6.out.drew.grown hg7 (by simp));have HB7:=hid (Zai HB6.out.drew (by simpa using HB6.out.size) hg7 hwb);have HOW7:=hid (World.ownsRow.kept (show w6.drew.ownsRow w.heap.size 218 2 (.slice A5 (k+1) c5) (k+1) (xw++_) from HOW6.out) hg7 (.inr (Zab HOW6.out HBK6.out (by decide))));have HOB7:=hid (World.ownsRow.kept (show w6.drew.ownsRow w.heap.size 218 2 (.slice Ab k cb) k xb from HOB6.out) hg7 (.inr (Zab HOB6.out HBK6.out (by decide))));have hs67:w6.heap.size<=w7.heap.size:=hg7.size;have hg5lt:∀g,(Value.slice A5 (k+1) c5).ownBlock=some g->g<w5.heap.size:=fun g e=>(HOW5.out.lt g e).2
   have hawlt:∀g,(Value.slice Aw k cw).ownBlock=some g->g<wr.heap.size:=fun g e=>(HOW.out.lt g e).2
   have HAP:Hid (∀g,(Value.slice Ab k cb).ownBlock=some g->(Value.slice A5 (k+1) c5).ownBlock≠some g):=hid (fun g e e2=>by
    rcases HAT5.out g e2 with h|h
    ·exact HNE.out g h e
    ·have:=HLT.out g e;omega)
   have HG5:=hid hg5lt;have HAW:=hid hawlt;clear hk7 hg7 hg5lt hawlt;go_wp2_with fail;refine⟨⟨HGK7.out.cell 0,HBK7.out.cell 2⟩,?_⟩;unfold Zah;go_wp2_with fail;refine⟨⟨(HGK7.out.alloc _).cell 0,(HBK7.out.alloc _).cell 2⟩,?_⟩;unfold Zah;change wpList _ _ _ (_::[]) _ (w7.alloc (.cells #[.int .i64 (c+p),.int .i64 (c+p+y)] 218));have hsz7:=HB7.out.size
   go_wp2_with (at_builtin;go_must (refine Zaj ZfF rfl _ _ rfl w.heap.size _ k xb rfl HOB7.out #[.int .i64 (c+p),.int .i64 (c+p+y)] w7.heap.size rfl rfl rfl (Za4 _ _) (by unfold maxLen;omega) (by omega) hsz7 ?_);go_must (intro A8 c8 w8 hown8 hb8 hg8 hat8;(have HBK8:=hid (HBK7.out.other HOB7.out hg8 (by decide)));(have HGK8:=hid (HGK7.out.other HOB7.out hg8 (by decide)));(have HOB8:=hid hown8);(have HOW8:=hid (HOW7.out.kept hg8 (ZeG HAP.out)));(have HB8:=hid (HB7.out.trans hb8));(have HAT8:=hid hat8);clear hown8 hb8 hg8 hat8))
   refine⟨⟨HGK8.out.cell 0,HBK8.out.cell 2⟩,?_⟩;unfold Zah;change wpList _ _ _ (_::_::_::[]) _ _;have v1:w8.cell? ⟨bs,2,none⟩=some (.slice Ab k cb):=HBK8.out.cell 2;have f1:=HBK8.out.frozen 2;have l8:=HBK8.out.lt;go_wp2_with fail;refine NoPanic.normal ?_;have hst:=ZvU HBK8.out (.slice A8 (k+1) c8);have HST:=hid hst;clear hst v1 f1;go_wp2_with fail
   go_roundw
   case rel=>
    refine⟨k+1,c+p+y,A5,A8,c5,c8,by omega,by go_num,hid HN.out.symm,HST.out.2,HGK8.out.grown HST.out.1 (by simp),⟨_,HOW8.out.kept HST.out.1 (.inr (Zab HOW8.out HBK8.out (by decide)))⟩,⟨_,HOB8.out.kept HST.out.1 (.inr (Zab HOB8.out HBK8.out (by decide)))⟩,fun g e1 e2=>?_,Zai HB8.out HB8.out.size HST.out.1 hwb⟩
    rcases HAT8.out g e2 with h|h
    ·exact HAP.out g h e1
    ·have:=HG5.out g e1;omega
   case measure=>simp[intOf];omega
  ·obtain rfl:k=m:=by omega
   have hcb:=ZbN HW.out k (by rw[HL.out];omega);rw[<-hc.out] at hcb;have HQ:Hid (ZaI l=decide (c<=1048576)):=hid (by rw[HS.out,hc.out,show n-1=k by omega]);have c0:wr.cell? ⟨bs+1,0,none⟩=some (.pointer (some ⟨bs,0,none⟩)):=hgk.cell 0;have c3:wr.cell? ⟨bs,3,none⟩=some (.int .i64 c):=hbk.cell 3;have l1:=hgk.lt;have l2:=hbk.lt;have HB:=hid hb;clear hbk hgk how hob hne hb
   by_cases hbig:1048576<c
   ·have f1:decide (1048576<c)=true:=YaJ hbig;go_wp2_with fail
    go_ret2
    exact⟨none,4,rfl,by rw[HQ.out];simp;omega,HB.out⟩
   ·have f1:decide (1048576<c)=false:=YaI hbig;go_wp2_with fail
    go_ret2
    exact⟨_,0,rfl,by rw[HQ.out];simp;omega,HB.out⟩
theorem Zkh(hl:l.length=n)(h:Rd w 1 A n (iv l))(hcap:n<=cap)(hn:n<=1000000) :
  Calls prog 39 #[.slice A n cap] w (ZlQ (ZaI l) w):=by
 by_cases h1:n<2\/16<n\/ZaU l=true
 ·exact Zkg A n cap l w hl h hn h1
 ·have hwf:ZaU l=false:=by
   cases hq:ZaU l with
   |false=>rfl
   |true=>exact absurd (.inr (.inr hq)) h1
  exact ZiZ A n cap l w hl h hcap (by omega) (by omega) hwf
end
section
open Go.RowKit
def Mid(lo hi:Nat)(w w':World):Prop:=w.heap.size<=w'.heap.size/\∀i,lo<=i->i<hi->w'.heap[i]?=w.heap[i]?
end
section
open Go.RowKit
variable{lo hi:Nat}{a b c w w':World}{own own':Nat→Nat}{P Q:World→Prop}
theorem Mid.of_below(h:Below a.heap.size a b)(lo:Nat):Mid lo a.heap.size a b:=⟨h.size,fun i _ h2=>h.block i h2⟩
theorem Blk.mid{g:Nat}{t:TypeId}{cs:Array Value}(h:Blk w g t cs)(hm:Mid lo w.heap.size w w')(hg:lo<=g):Blk w' g t cs:=(hm.2 g hg h.lt).trans h
theorem Zbo{base:Nat}{e:TypeId}{size n:Nat}{v:Value}{xs:List Value}(h:w.ownsRow base e size v n xs)(hm:Mid lo w.heap.size w w')(hb:lo<=base):w'.ownsRow base e size v n xs:=by
 refine⟨h.1,?_⟩;have hlt:=h.lt
 rcases h.2 with h2|⟨g,cap,cur,rfl,hbg,hh,r⟩
 ·exact .inl h2
 ·exact .inr ⟨g,cap,cur,rfl,hbg,(hm.2 g (by omega) (hlt g rfl).2).trans hh,r⟩
end
section
open Go.RowKit
def Zps(l:List Int)(k:Nat):List (Int×Int):=(List.range k).map fun j=>(Zbp l j,Zbp l j+l.getD (j+1) 0*l.getD j 0)
def Zpt(l:List Int)(k:Nat):List (Int×Int):=(List.range k).map fun j=>(Zbp l j+l.getD (j+1) 0*l.getD j 0,Zbp l (j+1))
theorem ZpM(l:List Int)(k:Nat):Zps l (k+1)=Zps l k++[(Zbp l k,Zbp l k+l.getD (k+1) 0*l.getD k 0)]:=by simp[Zps,List.range_succ]
theorem ZpN(l:List Int)(k:Nat):Zpt l (k+1)=Zpt l k++[(Zbp l k+l.getD (k+1) 0*l.getD k 0,Zbp l (k+1))]:=by simp[Zpt,List.range_succ]
theorem ZpO(a b:Int):rv [(a,b)]=[.int .i64 a,.int .i64 b]:=rfl
def ZaC(w:World)(base bs:Nat)(l:List Int)(n:Nat):Prop:=base<=bs/\∃A c Aw cw Ab cb,Blk w bs 228 #[.slice A n c,.slice Aw (n-1) cw,.slice Ab (n-1) cb,.int .i64 (Zbp l (n-1))] /\
 w.ownsRow base 3 1 (.slice A n c) n (iv l)/\w.ownsRow base 218 2 (.slice Aw (n-1) cw) (n-1) (rv (Zps l (n-1)))/\w.ownsRow base 218 2 (.slice Ab (n-1) cb) (n-1) (rv (Zpt l (n-1)))
theorem ZaC.mid{w w':World}{base bs n lo:Nat}{l:List Int}(h:ZaC w base bs l n)(hm:Mid lo w.heap.size w w')(hl:lo<=base):ZaC w' base bs l n:=by
 obtain⟨h0,A,c,Aw,cw,Ab,cb,h1,h2,h3,h4⟩:=h;exact⟨h0,A,c,Aw,cw,Ab,cb,h1.mid hm (by omega),Zbo h2 hm hl,Zbo h3 hm hl,Zbo h4 hm hl⟩
theorem ZaC.below{w w':World}{base bs n:Nat}{l:List Int}(h:ZaC w base bs l n)(hb:Below w.heap.size w w'):ZaC w' base bs l n:=h.mid (Mid.of_below hb 0) (Nat.zero_le _)
def Zsv(l:List Int)(n:Nat)(w:World)(e:Ending)(w':World):Prop:=∃bs,e=.returned (.tuple #[.pointer (some ⟨bs,0,none⟩),.int .i64 0])/\ZaC w' w.heap.size bs l n/\Below w.heap.size w w'
end
section
open Go.RowKit
variable(A:Option Addr)(n cap:Nat)(l:List Int)(w:World)
theorem ZeH(hl:l.length=n)(h:Rd w 1 A n (iv l))(hcap:n<=cap)(h2:2<=n)(h16:n<=16)(hw:ZaU l=false)(hok:ZaI l=true) :
  Calls prog 39 #[.slice A n cap] w (Zsv l n w):=by
 have e1:decide ((n:Int)<2)=false:=YaI (by omega);have e2:decide ((16:Int)<(n:Int))=false:=YaI (by omega);have C:=ZbO A n cap l w hl h (by omega);rw[hw] at C;have HC:=hid C;have HS:Hid (ZaI l=decide (Zbp l (n-1)<=1048576)):=hid (by rw[ZaI,hw,hl,YaJ h2,YaJ h16];simp);have HCL:=hid (fun W (r:Rd W 1 A n (iv l))=>ZdM A n cap l W hl r (by omega));have HL:=hid hl;have HR:=hid h;have HW:=hid hw;obtain⟨b0,o0,rfl,hb0,hcell⟩:=h.2 (by omega);have HCE:=hid hcell;clear hl h hw C hcell;have i0:(1:Int)<=(n:Int):=by omega
 have i9:(n:Int)<=(cap:Int):=by omega
 go_enter func39,ntmps39
 go_wp2_with fail;((with_reducible refine HC.out.mono ?_);rintro e w1 ⟨rfl,rfl⟩);go_wp2_with fail;((with_reducible refine(HCL.out w HR.out).mono ?_);rintro e w2 ⟨A2,c2,rfl,hown2,hb2⟩);have HB2:=hid hb2;have HO2:=hid hown2;have HCE2:Hid (∀j u,(iv l)[j]?=some u->w2.cell? ⟨b0,o0+j,none⟩=some u):=hid (fun j u hu=>(hb2.cell (p:=⟨b0,o0+j,none⟩) hb0).trans (HCE.out j u hu));have hb02:b0<w2.heap.size:=YaK hb0 hb2.size;clear hown2 hb2;obtain⟨m,hm⟩:∃m,n-1=m:=⟨_,rfl⟩;have HX:Hid (∀W,(w2.alloc (.cells #[.slice A2 n c2,.slice none 0 0,.slice none 0 0,.int .i64 0] 228)).alloc (.cells #[.pointer (some ⟨w2.heap.size,0,none⟩)] 98)=W->Below w2.heap.size w2 W/\Blk W w2.heap.size 228 #[.slice A2 n c2,.slice none 0 0,.slice none 0 0,.int .i64 0]/\Blk W (w2.heap.size+1) 98 #[.pointer (some ⟨w2.heap.size,0,none⟩)]):=hid (by
  rintro W rfl;exact⟨(bA0 _).alloc (by simp) _,(Blk.new _ _ _).alloc _,Blk.new' _ _ (by simp)⟩)
 go_wp2_with fail;have HMN:=hid hm;have hmn:m+1=n:=by omega
 clear hm;obtain⟨h3,b3,g3⟩:=HX.out _ rfl;obtain⟨w3,hw3⟩:∃w3,(w2.alloc (.cells #[.slice A2 n c2,.slice none 0 0,.slice none 0 0,.int .i64 0] 228)).alloc (.cells #[.pointer (some ⟨w2.heap.size,0,none⟩)] 98)=w3:=⟨_,rfl⟩;rw[hw3] at h3 b3 g3 ⊢;obtain⟨bs,hbs⟩:∃bs,w2.heap.size=bs:=⟨_,rfl⟩;have hwb:bs<=bs:=YaF _;have HWB:Hid (w.heap.size<=bs):=hid (by rw[<-hbs];exact HB2.out.size);have HO3:Hid (∀W,Below bs w2 W->W.ownsRow w.heap.size 3 1 (.slice A2 n c2) n (iv l)):=hid (fun W h=>Zac HO2.out (by rw[hbs];exact h));clear HO2;rw[hbs] at h3 b3 g3 hb02 ⊢;have HB3:=hid h3;have HSB:Hid (w2.heap.size=bs):=hid hbs;have HBS:=hid b3;have HGS:=hid g3;clear h3 b3 g3 hw3 hbs HX HC HCL;obtain⟨sz,hsz⟩:∃sz,Value.slice A2 n c2=sz:=⟨_,rfl⟩;rw[hsz] at HBS;have HSZ:=hid hsz;clear hsz;have hn1:cap-1+1=cap:=by omega
 go_loopw [30] (fun i wr=>∃(k:Nat) (c:Int) (Aw Ab:Option Addr) (cw cb:Nat),k<=m/\i=.int .i64 k/\Hid (c=Zbp l k)/\Blk wr bs 228 #[sz,.slice Aw k cw,.slice Ab k cb,.int .i64 c]/\Blk wr (bs+1) 98 #[.pointer (some ⟨bs,0,none⟩)] /\
   wr.ownsRow bs 218 2 (.slice Aw k cw) k (rv (Zps l k))/\wr.ownsRow bs 218 2 (.slice Ab k cb) k (rv (Zpt l k))/\(∀g,(Value.slice Aw k cw).ownBlock=some g->(Value.slice Ab k cb).ownBlock≠some g)/\Below bs w2 wr) (fun i _=>m-(intOf i).toNat)
 case atStart=>exact⟨0,0,none,none,0,0,by omega,rfl,hid rfl,HBS.out,HGS.out,World.ownsRow_nil _ _ _ _,World.ownsRow_nil _ _ _ _,fun g e=>by simp[Value.ownBlock] at e,HB3.out⟩
 case round=>
  obtain⟨k,c,Aw,Ab,cw,cb,hk,rfl,hc,hbk,hgk,how,hob,hne,hb⟩:=hrel
  by_cases hlt:k<m
  ·obtain⟨x,hx⟩:∃x,l[k]?=some x:=⟨_,YaA (by rw[HL.out];omega)⟩;obtain⟨y,hy⟩:∃y,l[k+1]?=some y:=⟨_,YaA (by rw[HL.out];omega)⟩;have wx:=Zb1 HW.out hx;have wy:=Zb1 HW.out hy;have hp:=Zsu wy wx;have hcb:=ZbN HW.out k (by rw[HL.out];omega);rw[<-hc.out] at hcb;have hk16:(k:Int)*1099512676352<=17592202821632:=by omega
   have hcc:0<=c/\c<=17592202821632:=by omega
   have HN:Hid (Zbp l (k+1)=c+y*x+y):=hid (by
    rw[Zbp,<-hc.out,show l.getD k 0=x by simp[List.getD,hx],show l.getD (k+1) 0=y by simp[List.getD,hy],Int.add_mul,Int.one_mul,Int.mul_comm x y]
    omega)
   obtain⟨p,hpp⟩:∃p,y*x=p:=⟨_,rfl⟩;rw[hpp] at hp HN;have HRW:Hid (rv (Zps l k)++#[Value.int .i64 c,.int .i64 (c+p)].toList=rv (Zps l (k+1))):=hid (by rw[ZpM,ZeD,ZpO,hc.out,show l.getD k 0=x by simp[List.getD,hx],show l.getD (k+1) 0=y by simp[List.getD,hy],hpp]);have HRB:Hid (rv (Zpt l k)++#[Value.int .i64 (c+p),.int .i64 (c+p+y)].toList=rv (Zpt l (k+1))):=hid (by rw[ZpN,ZeD,ZpO,HN.out,hc.out,show l.getD k 0=x by simp[List.getD,hx],show l.getD (k+1) 0=y by simp[List.getD,hy],hpp]);have hw1:IntKind.i64.wrap (y*x)=p:=by rw[hpp];exact IntWalk.i64_in _ (by omega)
   have cx:wr.cell? ⟨b0,o0+k,none⟩=some (.int .i64 x):=(hb.cell (p:=⟨b0,o0+k,none⟩) hb02).trans (HCE2.out k _ (by rw[iv,YaR,hx];rfl));have cy:wr.cell? ⟨b0,o0+1+k,none⟩=some (.int .i64 y):=(hb.cell (p:=⟨b0,o0+1+k,none⟩) hb02).trans (HCE2.out (k+1) _ (by rw[iv,YaR,hy];rfl)▸by rw[show o0+1+k=o0+(k+1) by omega]);have HBK:=hid hbk;have HGK:=hid hgk;have HOW:=hid how;have HOB:=hid hob;have HNE:=hid hne;have HB:=hid hb;have i1:(0:Int)<=(k:Int):=by omega
   have i2:(k:Int)<(m:Int):=by omega
   have i3:(k:Int)<(n:Int):=by omega
   have lb0:b0<wr.heap.size:=YaK hb02 (YaH (Nat.le_of_eq HSB.out.symm) hb.size);clear hbk hgk how hob hne hb hx hy hpp hcb hk16;have HN1:=hid (fun W (h1:Blk W (bs+1) 98 #[.pointer (some ⟨bs,0,none⟩)]) (h2:Blk W bs 228 #[sz,.slice Aw k cw,.slice Ab k cb,.int .i64 c])=>Zb9 (bs+1) bs sz (.slice Aw k cw) (.slice Ab k cb) c p W h1 h2 (by omega) (by omega));have hb0s:b0≠bs:=by omega
   go_wp2_with fail;have hS:(fun W:World=>W.cell? ⟨bs+1,0,none⟩=some (.pointer (some ⟨bs,0,none⟩))/\W.cell? ⟨bs,1,none⟩=some (.slice Aw k cw)/\W.cell? ⟨b0,o0+k,none⟩=some (.int .i64 x)) wr.drew:=⟨HGK.out.cell 0,HBK.out.cell 1,cx⟩;refine Zad (fun W:World=>W.cell? ⟨bs+1,0,none⟩=some (.pointer (some ⟨bs,0,none⟩))/\W.cell? ⟨bs,1,none⟩=some (.slice Aw k cw)/\W.cell? ⟨b0,o0+k,none⟩=some (.int .i64 x)) [0,1,2,3,4,5,6,7,8,9,10,11] [12,13,14] [15,16,17] (by kernel_rfl) (by kernel_rfl) hS ?_;clear hS;simp only[YaO,YaP,YaB,YaC];refine Zaa (.pointer (some ⟨bs,0,none⟩)) rfl (fun W hW=>?_) ?_
   ·obtain⟨hc1,hc2,hc3⟩:=hW;go_simp
   go_simp;refine Zaa (.pointer (some ⟨bs,0,none⟩)) rfl (fun W hW=>?_) ?_
   ·obtain⟨hc1,hc2,hc3⟩:=hW;go_simp
   go_simp;refine Zaa (.pointer (some ⟨bs,0,none⟩)) rfl (fun W hW=>?_) ?_
   ·go_simp
   go_simp;refine Zaa (.pointer (some ⟨bs,1,none⟩)) rfl (fun W hW=>?_) ?_
   ·go_simp
   go_simp;refine Zaa (.slice Aw k cw) rfl (fun W hW=>?_) ?_
   ·obtain⟨hc1,hc2,hc3⟩:=hW;go_simp
   go_simp;refine Zaa (.func (.func 103) #[] #[.pointer (some ⟨bs+1,0,none⟩)]) rfl (fun W hW=>?_) ?_
   ·go_simp
   go_simp;refine Zaa (.int .i64 y) rfl (fun W hW=>?_) ?_
   ·go_simp
   go_simp;refine Zaa (.slice (some ⟨b0,o0,none⟩) n cap) rfl (fun W hW=>?_) ?_
   ·go_simp
   go_simp;refine Zaa (.int .i64 k) rfl (fun W hW=>?_) ?_
   ·go_simp
   go_simp;refine Zaa (.pointer (some ⟨b0,o0+k,none⟩)) rfl (fun W hW=>?_) ?_
   ·go_simp
   go_simp;refine Zaa (.int .i64 x) rfl (fun W hW=>?_) ?_
   ·obtain⟨hc1,hc2,hc3⟩:=hW;go_simp
   go_simp;refine Zaa (.int .i64 p) rfl (fun W hW=>?_) ?_
   ·go_simp
   go_simp;change Zah _ _ _ _ _ (_::_::_::[]) _ _;unfold Zah;go_wp2_with fail;((with_reducible refine(HN1.out _ HGK.out.drew HBK.out.drew).mono ?_);rintro e w4 ⟨rfl,hk4,hg4⟩);have HBK4:=hid hk4;have HGK4:=hid (HGK.out.drew.grown hg4 (by simp));have HB4:=hid (Zai HB.out.drew (YaH (Nat.le_of_eq HSB.out.symm) HB.out.size) hg4 hwb);have HOW4:=hid (World.ownsRow.kept (show wr.drew.ownsRow bs 218 2 (.slice Aw k cw) k (rv (Zps l k)) from HOW.out) hg4 (.inr (Zab HOW.out HBK.out (by decide))));have HOB4:=hid (World.ownsRow.kept (show wr.drew.ownsRow bs 218 2 (.slice Ab k cb) k (rv (Zpt l k)) from HOB.out) hg4 (.inr (Zab HOB.out HBK.out (by decide))));have HCX4:Hid (w4.cell? ⟨b0,o0+k,none⟩=some (.int .i64 x)):=hid ((ZlK hg4 lb0 hb0s).trans cx);have lb4:b0<w4.heap.size:=YaK lb0 hg4.size;have hs04:wr.heap.size<=w4.heap.size:=hg4.size;clear hk4 hg4;go_wp2_with fail;refine⟨⟨HGK4.out.cell 0,HBK4.out.cell 1,HCX4.out⟩,?_⟩;unfold Zah;go_wp2_with fail;refine⟨⟨(HGK4.out.alloc _).cell 0,(HBK4.out.alloc _).cell 1,HCX4.out⟩,?_⟩;unfold Zah;change wpList _ _ _ (_::[]) _ (w4.alloc (.cells #[.int .i64 c,.int .i64 (c+p)] 218));have hsz4:bs<=_:=(YaH (Nat.le_of_eq HSB.out.symm) HB4.out.size)
   go_wp2_with (at_builtin;go_must (refine Zaj ZfF rfl _ _ rfl bs _ k (rv (Zps l k)) rfl HOW4.out #[.int .i64 c,.int .i64 (c+p)] w4.heap.size rfl rfl rfl (Za4 _ _) (by unfold maxLen;omega) (by omega) hsz4 ?_);go_must (intro A5 c5 w5 hown5 hb5 hg5 hat5;(have HBK5:=hid (HBK4.out.other HOW4.out hg5 (by decide)));(have HGK5:=hid (HGK4.out.other HOW4.out hg5 (by decide)));(have HOW5:=hid hown5);(have HOB5:=hid (HOB4.out.kept hg5 (ZeG HNE.out)));(have HB5:=hid (HB4.out.trans hb5));(have HAT5:=hid hat5);(have hs45:w4.heap.size<=w5.heap.size:=hg5.size);(have HLT:=hid (fun g (e:(Value.slice Ab k cb).ownBlock=some g)=>(HOB4.out.lt g e).2));(have HCX5:Hid (w5.cell? ⟨b0,o0+k,none⟩=some (.int .i64 x)):=hid ((hb5.cell (p:=⟨b0,o0+k,none⟩) hb02).trans HCX4.out));clear hown5 hb5 hg5 hat5))
   refine⟨⟨HGK5.out.cell 0,HBK5.out.cell 1,HCX5.out⟩,?_⟩;unfold Zah;change wpList _ _ _ (_::_::_::[]) _ _;have v1:w5.cell? ⟨bs,1,none⟩=some (.slice Aw k cw):=HBK5.out.cell 1;have f1:=HBK5.out.frozen 1;have l5:=HBK5.out.lt;go_wp2_with fail;refine NoPanic.normal ?_;have hst:=ZvT HBK5.out (.slice A5 (k+1) c5);obtain⟨w6,hw6⟩:∃w6,w5.setCell ⟨bs,1,none⟩ (.slice A5 (k+1) c5)=w6:=⟨_,rfl⟩;rw[hw6] at hst;have HW6:=hid hw6;have HBK6:=hid hst.2;have HGK6:=hid (HGK5.out.grown hst.1 (by simp));have HOW6:=hid (HOW5.out.kept hst.1 (.inr (Zab HOW5.out HBK5.out (by decide))));have HOB6:=hid (HOB5.out.kept hst.1 (.inr (Zab HOB5.out HBK5.out (by decide))));have HB6:=hid (Zai HB5.out (YaH (Nat.le_of_eq HSB.out.symm) HB5.out.size) hst.1 hwb);have hsw6:w6.heap.size=w5.heap.size:=by rw[<-hw6];simp[World.setCell]
   clear hst hw6 v1 f1 l5;have HN2:=hid (fun W (h1:Blk W (bs+1) 98 #[.pointer (some ⟨bs,0,none⟩)]) (h2:Blk W bs 228 #[sz,.slice A5 (k+1) c5,.slice Ab k cb,.int .i64 (c+p)])=>Zb9 (bs+1) bs sz (.slice A5 (k+1) c5) (.slice Ab k cb) (c+p) y W h1 h2 (by omega) (by omega));go_wp2_with fail;rw[HW6.out];have hS:(fun W:World=>W.cell? ⟨bs+1,0,none⟩=some (.pointer (some ⟨bs,0,none⟩))/\W.cell? ⟨bs,2,none⟩=some (.slice Ab k cb)) w6.drew:=⟨HGK6.out.cell 0,HBK6.out.cell 2⟩;refine Zad (fun W:World=>W.cell? ⟨bs+1,0,none⟩=some (.pointer (some ⟨bs,0,none⟩))/\W.cell? ⟨bs,2,none⟩=some (.slice Ab k cb)) [0,1,2,3,4,5,6] [7,8,9] [10,11,12] (by kernel_rfl) (by kernel_rfl) hS ?_;clear hS;simp only[YaO,YaP,YaB,YaC];refine Zaa (.pointer (some ⟨bs,0,none⟩)) rfl (fun W hW=>?_) ?_
   ·obtain⟨hc1,hc2⟩:=hW;go_simp
   go_simp;refine Zaa (.pointer (some ⟨bs,0,none⟩)) rfl (fun W hW=>?_) ?_
   ·obtain⟨hc1,hc2⟩:=hW;go_simp
   go_simp;refine Zaa (.pointer (some ⟨bs,0,none⟩)) rfl (fun W hW=>?_) ?_
   ·go_simp
   go_simp;refine Zaa (.pointer (some ⟨bs,2,none⟩)) rfl (fun W hW=>?_) ?_
   ·go_simp
   go_simp;refine Zaa (.slice Ab k cb) rfl (fun W hW=>?_) ?_
   ·obtain⟨hc1,hc2⟩:=hW;go_simp
   go_simp;refine Zaa (.func (.func 103) #[] #[.pointer (some ⟨bs+1,0,none⟩)]) rfl (fun W hW=>?_) ?_
   ·go_simp
   go_simp;refine Zaa (.int .i64 y) rfl (fun W hW=>?_) ?_
   ·go_simp
   go_simp;change Zah _ _ _ _ _ (_::_::_::[]) _ _;unfold Zah;go_wp2_with fail;((with_reducible refine(HN2.out _ HGK6.out.drew HBK6.out.drew).mono ?_);rintro e w7 ⟨rfl,hk7,hg7⟩);have HBK7:=hid hk7;have HGK7:=hid (HGK6.out.drew.grown hg7 (by simp));have HB7:=hid (Zai HB6.out.drew (YaH (Nat.le_of_eq HSB.out.symm) HB6.out.size) hg7 hwb);have HOW7:=hid (World.ownsRow.kept (show w6.drew.ownsRow bs 218 2 (.slice A5 (k+1) c5) (k+1) ((rv (Zps l k))++_) from HOW6.out) hg7 (.inr (Zab HOW6.out HBK6.out (by decide))));have HOB7:=hid (World.ownsRow.kept (show w6.drew.ownsRow bs 218 2 (.slice Ab k cb) k (rv (Zpt l k)) from HOB6.out) hg7 (.inr (Zab HOB6.out HBK6.out (by decide))));have hs67:w6.heap.size<=w7.heap.size:=hg7.size;have hg5lt:∀g,(Value.slice A5 (k+1) c5).ownBlock=some g->g<w5.heap.size:=fun g e=>(HOW5.out.lt g e).2
   have hawlt:∀g,(Value.slice Aw k cw).ownBlock=some g->g<wr.heap.size:=fun g e=>(HOW.out.lt g e).2
   have HAP:Hid (∀g,(Value.slice Ab k cb).ownBlock=some g->(Value.slice A5 (k+1) c5).ownBlock≠some g):=hid (fun g e e2=>by
    rcases HAT5.out g e2 with h|h
    ·exact HNE.out g h e
    ·have:=HLT.out g e;omega)
   have HG5:=hid hg5lt;have HAW:=hid hawlt;clear hk7 hg7 hg5lt hawlt;go_wp2_with fail;refine⟨⟨HGK7.out.cell 0,HBK7.out.cell 2⟩,?_⟩;unfold Zah;go_wp2_with fail;refine⟨⟨(HGK7.out.alloc _).cell 0,(HBK7.out.alloc _).cell 2⟩,?_⟩;unfold Zah;change wpList _ _ _ (_::[]) _ (w7.alloc (.cells #[.int .i64 (c+p),.int .i64 (c+p+y)] 218));have hsz7:bs<=_:=(YaH (Nat.le_of_eq HSB.out.symm) HB7.out.size)
   go_wp2_with (at_builtin;go_must (refine Zaj ZfF rfl _ _ rfl bs _ k (rv (Zpt l k)) rfl HOB7.out #[.int .i64 (c+p),.int .i64 (c+p+y)] w7.heap.size rfl rfl rfl (Za4 _ _) (by unfold maxLen;omega) (by omega) hsz7 ?_);go_must (intro A8 c8 w8 hown8 hb8 hg8 hat8;(have HBK8:=hid (HBK7.out.other HOB7.out hg8 (by decide)));(have HGK8:=hid (HGK7.out.other HOB7.out hg8 (by decide)));(have HOB8:=hid hown8);(have HOW8:=hid (HOW7.out.kept hg8 (ZeG HAP.out)));(have HB8:=hid (HB7.out.trans hb8));(have HAT8:=hid hat8);clear hown8 hb8 hg8 hat8))
   refine⟨⟨HGK8.out.cell 0,HBK8.out.cell 2⟩,?_⟩;unfold Zah;change wpList _ _ _ (_::_::_::[]) _ _;have v1:w8.cell? ⟨bs,2,none⟩=some (.slice Ab k cb):=HBK8.out.cell 2;have f1:=HBK8.out.frozen 2;have l8:=HBK8.out.lt;go_wp2_with fail;refine NoPanic.normal ?_;have hst:=ZvU HBK8.out (.slice A8 (k+1) c8);have HST:=hid hst;clear hst v1 f1;go_wp2_with fail
   go_roundw
   case rel=>
    refine⟨k+1,c+p+y,A5,A8,c5,c8,by omega,by go_num,hid HN.out.symm,HST.out.2,HGK8.out.grown HST.out.1 (by simp),HRW.out▸HOW8.out.kept HST.out.1 (.inr (Zab HOW8.out HBK8.out (by decide))),HRB.out▸HOB8.out.kept HST.out.1 (.inr (Zab HOB8.out HBK8.out (by decide))),fun g e1 e2=>?_,Zai HB8.out (YaH (Nat.le_of_eq HSB.out.symm) HB8.out.size) HST.out.1 hwb⟩
    rcases HAT8.out g e2 with h|h
    ·exact HAP.out g h e1
    ·have:=HG5.out g e1;omega
   case measure=>simp[intOf];omega
  ·obtain rfl:k=m:=by omega
   have hcb:=ZbN HW.out k (by rw[HL.out];omega);rw[<-hc.out] at hcb;have HQ:Hid (ZaI l=decide (c<=1048576)):=hid (by rw[HS.out,hc.out,show n-1=k by omega]);have c0:wr.cell? ⟨bs+1,0,none⟩=some (.pointer (some ⟨bs,0,none⟩)):=hgk.cell 0;have c3:wr.cell? ⟨bs,3,none⟩=some (.int .i64 c):=hbk.cell 3;have l1:=hgk.lt;have l2:=hbk.lt;have hsh:ZaC wr w.heap.size bs l n:=⟨HWB.out,_,_,_,_,_,_,by rw[show n-1=k by omega,<-hc.out];exact HSZ.out▸hbk,HO3.out wr hb,by rw[show n-1=k by omega];exact Zae how HWB.out,by rw[show n-1=k by omega];exact Zae hob HWB.out⟩;have HSH:=hid hsh;have HB:Hid (Below w.heap.size w wr):=hid (HB2.out.trans (hb.mono HWB.out));have hbig:¬1048576<c:=by
    have:=HQ.out;rw[hok] at this;have:=of_decide_eq_true this.symm;omega
   clear hbk hgk how hob hne hb hsh;have f1:decide (1048576<c)=false:=YaI hbig;go_wp2_with fail
   go_ret2
   exact⟨bs,rfl,HSH.out,HB.out⟩
end
section
open Go.RowKit
variable(base bs n:Nat)(l:List Int)(w:World)
theorem Zbs(h:ZaC w base bs l n) :
  Calls prog 43 #[.pointer (some ⟨bs,0,none⟩)] w fun e w'=>e=.returned (.int .i64 (Zbp l (n-1)))/\w=w':=by
 obtain⟨h0,A,c,Aw,cw,Ab,cb,h1,h2,h3,h4⟩:=h;have c3:=h1.cell 3;have l1:=h1.lt;clear h1 h2 h3 h4
 go_enter func43,ntmps43
 go_wp2;go_ret;exact⟨rfl,rfl⟩
theorem ZbW(h:ZaC w base bs l n) :
  Calls prog 142 #[.pointer (some ⟨bs,0,none⟩)] w fun e w'=>e=.returned (.int .i64 ((n-1:Nat):Int))/\w=w':=by
 obtain⟨h0,A,c,Aw,cw,Ab,cb,h1,h2,h3,h4⟩:=h;have c1:=h1.cell 1;have l1:=h1.lt;clear h1 h2 h3 h4;obtain⟨m,hm⟩:∃m,n-1=m:=⟨_,rfl⟩;rw[hm] at c1 ⊢;clear hm
 go_enter func142,ntmps142
 go_wp2;go_ret;exact⟨rfl,rfl⟩
theorem Zd4(h:ZaC w base bs l n)(hl:l.length=n)(hn:n<=1000000) :
  Calls prog 141 #[.pointer (some ⟨bs,0,none⟩)] w (Zal w 3 1 n (iv l)):=by
 obtain⟨h0,A,c,Aw,cw,Ab,cb,h1,h2,h3,h4⟩:=h;have c0:=h1.cell 0;have l1:=h1.lt;have HC:=hid (ZdM A n c l w hl (Rd.of_own h2) hn);clear h1 h2 h3 h4
 go_enter func141,ntmps141
 go_wp2_with fail;((with_reducible refine HC.out.mono ?_);rintro e w1 ⟨A1,c1,rfl,ho,hb⟩);have HO:=hid ho;have HB:=hid hb;clear ho hb;go_wp2_with fail;go_ret;exact⟨A1,c1,rfl,HO.out,HB.out⟩
end
section
open Go.RowKit
theorem Zi0{w:World}{base n k:Nat}{e:TypeId}{A:Option Addr}{c:Nat}{l:List (Int×Int)}{x:Int×Int}(h:w.ownsRow base e 2 (.slice A n c) n (rv l))(hx:l[k]?=some x)(hk:k<n) :
  ∃b,A=some ⟨b,0,none⟩/\b<w.heap.size/\w.cell? ⟨b,k*2,none⟩=some (.int .i64 x.1)/\w.cell? ⟨b,k*2+1,none⟩=some (.int .i64 x.2):=by
 have hkl:k<l.length:=(YaG.1 hx).1;have hxe:l[k]=x:=(YaG.1 hx).2;obtain⟨g1,g2⟩:=Zj5 l k hkl;rw[hxe] at g1 g2;have hr:=Rd.of_own h;obtain⟨b,o,e',hlt,hc⟩:=hr.2 (by omega);have hf:=ZaF h;obtain⟨A',cap',hv,_,_,hg⟩:=hf;injection hv with hA _ _
 obtain⟨g,hg1,_,_⟩:=hg (by omega);rw[hA,hg1] at e';injection e' with e'
 injection e' with e1 e2
 subst e1 e2;refine⟨g,by rw[hA,hg1],hlt,?_,?_⟩
 ·have:=hc _ _ g1
  rwa [Nat.zero_add] at this
 ·have:=hc _ _ g2
  rwa [Nat.zero_add] at this
end
section
open Go.RowKit
variable(base bs n k:Nat)(l:List Int)(w:World)
theorem Zc8(h:ZaC w base bs l n)(hk:k<n-1) :
  Calls prog 143 #[.pointer (some ⟨bs,0,none⟩),.int .i64 k] w fun e w'=>e=.returned (.agg #[.int .i64 (Zbp l k),.int .i64 (Zbp l k+l.getD (k+1) 0*l.getD k 0)])/\Below w.heap.size w w':=by
 have HSH:=hid h;have HLK:=hid (fun W (r:ZaC W base bs l n)=>ZbW base bs n l W r);have HG:Hid (∀W,w.alloc (.cells #[.int .i64 0,.int .i64 0] 218)=W->Below w.heap.size w W/\Blk W w.heap.size 218 #[.int .i64 0,.int .i64 0]):=hid (by
  rintro W rfl;exact⟨bA0 _,Blk.new _ _ _⟩)
 have e1:decide ((k:Int)<0)=false:=YaI (by omega);obtain⟨m,hm⟩:∃m,n-1=m:=⟨_,rfl⟩;have e2:decide ((m:Int)<=(k:Int))=false:=YaI (by omega);have hw:(Zps l m)[k]?=some (Zbp l k,Zbp l k+l.getD (k+1) 0*l.getD k 0):=by simp[Zps,show k<m by omega]
 obtain⟨z1,z2,hz⟩:∃z1 z2,(Zbp l k,Zbp l k+l.getD (k+1) 0*l.getD k 0)=(z1,z2):=⟨_,_,rfl⟩;rw[hz] at hw;injection hz with hz1 hz2
 rw[hz1] at hz2 ⊢;rw[hz2];have HW:=hid hw;have HM:=hid hm;have hkm:k<m:=by omega
 clear h hm hw hz1 hz2
 go_enter func143,ntmps143
 go_wp2_with fail;obtain⟨hB,hK⟩:=HG.out _ rfl;have HB:=hid hB;have HK:=hid hK;((with_reducible refine(HLK.out _ (HSH.out.below hB)).mono ?_);rintro e w1 ⟨rfl,rfl⟩);rw[HM.out];have hs1:=HSH.out.below hB;clear hB hK;obtain⟨h0,A,c,Aw,cw,Ab,cb,h1,h2,h3,h4⟩:=hs1;rw[HM.out] at h1 h3 h4;obtain⟨b,rfl,hb,q1,q2⟩:=Zi0 h3 HW.out hkm;have c1:=h1.cell 1;have l1:=h1.lt;have i1:(0:Int)<=(k:Int):=by omega
 have i2:(k:Int)<(m:Int):=by omega
 have v0:=HK.out.cell 0;have v1:=HK.out.cell 1;have f0:=HK.out.frozen 0;have f1:=HK.out.frozen 1;have vl:=HK.out.lt;clear h1 h2 h3 h4;go_wp2_with fail;exact bodyPost_ret (v:=.agg #[.int .i64 z1,.int .i64 z2]) (by simp[results,results143,go_sem]) rfl ⟨rfl,bA0 _⟩
theorem Zdp(h:ZaC w base bs l n)(hk:k<n-1) :
  Calls prog 144 #[.pointer (some ⟨bs,0,none⟩),.int .i64 k] w fun e w'=>e=.returned (.agg #[.int .i64 (Zbp l k+l.getD (k+1) 0*l.getD k 0),.int .i64 (Zbp l (k+1))])/\Below w.heap.size w w':=by
 have HSH:=hid h;have HLK:=hid (fun W (r:ZaC W base bs l n)=>ZbW base bs n l W r);have HG:Hid (∀W,w.alloc (.cells #[.int .i64 0,.int .i64 0] 218)=W->Below w.heap.size w W/\Blk W w.heap.size 218 #[.int .i64 0,.int .i64 0]):=hid (by
  rintro W rfl;exact⟨bA0 _,Blk.new _ _ _⟩)
 have e1:decide ((k:Int)<0)=false:=YaI (by omega);obtain⟨m,hm⟩:∃m,n-1=m:=⟨_,rfl⟩;have e2:decide ((m:Int)<=(k:Int))=false:=YaI (by omega);have hw:(Zpt l m)[k]?=some (Zbp l k+l.getD (k+1) 0*l.getD k 0,Zbp l (k+1)):=by simp[Zpt,show k<m by omega]
 obtain⟨z1,z2,hz⟩:∃z1 z2,(Zbp l k+l.getD (k+1) 0*l.getD k 0,Zbp l (k+1))=(z1,z2):=⟨_,_,rfl⟩;rw[hz] at hw;injection hz with hz1 hz2
 rw[hz1,hz2];have HW:=hid hw;have HM:=hid hm;have hkm:k<m:=by omega
 clear h hm hw hz1 hz2
 go_enter func144,ntmps144
 go_wp2_with fail;obtain⟨hB,hK⟩:=HG.out _ rfl;have HB:=hid hB;have HK:=hid hK;((with_reducible refine(HLK.out _ (HSH.out.below hB)).mono ?_);rintro e w1 ⟨rfl,rfl⟩);rw[HM.out];have hs1:=HSH.out.below hB;clear hB hK;obtain⟨h0,A,c,Aw,cw,Ab,cb,h1,h2,h3,h4⟩:=hs1;rw[HM.out] at h1 h3 h4;obtain⟨b,rfl,hb,q1,q2⟩:=Zi0 h4 HW.out hkm;have c2:=h1.cell 2;have l1:=h1.lt;have i1:(0:Int)<=(k:Int):=by omega
 have i2:(k:Int)<(m:Int):=by omega
 have v0:=HK.out.cell 0;have v1:=HK.out.cell 1;have f0:=HK.out.frozen 0;have f1:=HK.out.frozen 1;have vl:=HK.out.lt;clear h1 h2 h3 h4;go_wp2_with fail;exact bodyPost_ret (v:=.agg #[.int .i64 z1,.int .i64 z2]) (by simp[results,results144,go_sem]) rfl ⟨rfl,bA0 _⟩
end
section
open Go.RowKit
def Hg(S:Nat->Prop)(w:World)(P:World->Prop):Prop:=∀w',w.heap.size<=w'.heap.size->(∀i,i<w.heap.size->S i->w'.heap[i]?=w.heap[i]?)->P w'
end
section
open Go.RowKit
variable{S T:Nat→Prop}{w w':World}{P Q:World→Prop}
theorem Hg.here(h:Hg S w P):P w:=h w (YaF _) (fun _ _ _=>rfl)
theorem Hg.mono(h:Hg S w P)(hST:∀i,i<w.heap.size->S i->T i):Hg T w P:=fun w' h1 h2=>h w' h1 (fun i hi hS=>h2 i hi (hST i hi hS))
theorem Hg.imp(h:Hg S w P)(hPQ:∀W,P W->Q W):Hg S w Q:=fun w' h1 h2=>hPQ w' (h w' h1 h2)
theorem Hg.and(h:Hg S w P)(k:Hg S w Q):Hg S w (fun W=>P W/\Q W):=fun w' h1 h2=>⟨h w' h1 h2,k w' h1 h2⟩
theorem Hg.step(h:Hg S w P)(hs:w.heap.size<=w'.heap.size)(hb:∀i,i<w.heap.size->S i->w'.heap[i]?=w.heap[i]?):Hg S w' P:=
 fun w2 h1 h2=>h w2 (YaH hs h1) (fun i hi hS=>(h2 i (YaK hi hs) hS).trans (hb i hi hS))
theorem Hg.but(h:Hg S w P)(hb:But T w w')(hST:∀i,i<w.heap.size->S i->¬T i):Hg S w' P:=h.step hb.size (fun i hi hS=>hb.block i hi (hST i hi hS))
theorem Hg.below(h:Hg S w P)(hb:Below w.heap.size w w'):Hg S w' P:=h.step hb.size (fun i hi _=>hb.block i hi)
theorem Hg.of_mid{lo:Nat}(h:∀w',Mid lo w.heap.size w w'->P w')(hS:∀i,lo<=i->i<w.heap.size->S i):Hg S w P:=
 fun w' h1 h2=>h w' ⟨h1,fun i hl hi=>h2 i hi (hS i hl hi)⟩
theorem Hg.blk{g:Nat}{t:TypeId}{cs:Array Value}(h:Blk w g t cs)(hS:S g):Hg S w (fun W=>Blk W g t cs):=fun w' h1 h2=>(h2 g h.lt hS).trans h
theorem Hg.own{base:Nat}{e:TypeId}{size n:Nat}{v:Value}{xs:List Value}(h:w.ownsRow base e size v n xs)(hS:∀g,v.ownBlock=some g->S g):Hg S w (fun W=>W.ownsRow base e size v n xs):=fun w' h1 h2=>by
 refine⟨h.1,?_⟩;have hlt:=h.lt
 rcases h.2 with h3|⟨g,cap,cur,rfl,hbg,hh,r⟩
 ·exact .inl h3
 ·exact .inr ⟨g,cap,cur,rfl,hbg,(h2 g (hlt g rfl).2 (hS g rfl)).trans hh,r⟩
end
