/- Lemmas. -/
import Derived.Test.YtkmaeipoaoikpaaGreatEC06
namespace Go.Proofs.YtkmaeipoaoikpaaGreat
set_option linter.all false
set_option maxRecDepth 100000
set_option maxHeartbeats 4000000
open Lib (hid)
open Tryz
section
open Go.RowKit
theorem ZsX(r q n:Nat)(w:World)(hr:1<=r/\r<=1048576)(hq:1<=q/\q<=1048576)(hn:n<=1048576)(he:r*q=n) :
  Calls prog 218 #[.int .i64 r,.int .i64 q] w (ZuE w r q n):=by
 obtain⟨i0,hi0,q0,q1,q2⟩:=info_parts Zhy.info;have HH':=hid (fun(w0:World) (hw0:w.alloc (.cells #[.int .i64 0,.int .i64 0,.slice none 0 0] 271)=w0)=>(⟨by rw[<-hw0];exact bA0 _,by rw[<-hw0];exact Blk.new _ _ _⟩:Below w.heap.size w w0/\Blk w0 w.heap.size 271 #[.int .i64 0,.int .i64 0,.slice none 0 0]));have C:=fun W=>Zkl r q W
 rw[show decide (Zf0 r q)=true from YaJ ⟨by omega,by omega,by omega,by omega⟩] at C;have HC:=hid C;have he':IntKind.i64.wrap ((r:Int)*(q:Int))=(n:Int):=by rw[<-Int.natCast_mul,he];exact Zf1 _ (by omega) (by omega)
 have he2:wrap64 ((r:Int)*(q:Int))=(n:Int):=by rw[<-Int.natCast_mul,he];exact Za6 _ (by omega) (by omega)
 have e5:decide ((1048576:Int)<(n:Int))=false:=YaI (by omega);clear C he
 go_enter func218,ntmps218
 go_wp2_with fail;((with_reducible refine(HC.out _).mono ?_);rintro e w1 ⟨rfl,rfl⟩)
 go_wp2_with (at_make;obtain⟨w0,hw0⟩:∃w0,w.alloc (.cells #[.int .i64 0,.int .i64 0,.slice none 0 0] 271)=w0:=⟨_,rfl⟩;rw[hw0];have KD:=hid (HH'.out w0 hw0).1;have SD:=hid (HH'.out w0 hw0).2;clear hw0;go_must (refine wpList_make_full w0 rfl _ _ _ rfl w0.heap.size 2 i0 (.int .i64 0) 1 Zhy.slice hi0 q0 q1 .i64 .i64 _ _ n rfl rfl rfl rfl (by rw[q2];omega) (by unfold maxLen;omega) (YaF _) ?_);go_must (intro w2 hown2 hg2;(have K2:=hid (Below.grown (bR0 w0.heap.size w0) hg2 (YaF _) (by simp)));(have O2:=hid hown2);(have s0:=(SD.out.kept K2.out).cell 0);(have s1:=(SD.out.kept K2.out).cell 1);(have s2:=(SD.out.kept K2.out).cell 2);(have f0:=(SD.out.kept K2.out).frozen 0);(have f1:=(SD.out.kept K2.out).frozen 1);(have f2:=(SD.out.kept K2.out).frozen 2);(have ls:=(SD.out.kept K2.out).lt);clear hown2 hg2))
 have S2:=SD.out.kept K2.out;have hst:=ZwS S2 (.int .i64 r) (.int .i64 q) (.slice (some ⟨w0.heap.size,0,none⟩) n n);have hz:=KD.out.size;have o2:=O2.out;rw[ZeN] at o2;exact bodyPost_ret (v:=.agg #[.int .i64 r,.int .i64 q,.slice (some ⟨w0.heap.size,0,none⟩) n n]) (by simp[results,results218,go_sem,s0,s1,s2,ls]) rfl ⟨_,_,rfl,Zae (o2.kept hst.1 (.inr (Zab o2 S2 (by decide)))) hz,Zai ((Zag.of KD.out).call K2.out).2.2 (YaH hz K2.out.size) hst.1 (YaF _)⟩
end
section
open Go.RowKit Go.Shelf
attribute [local go_sem] Oper.semAt_some
def Zv0(w:World)(r q n:Nat)(l:List Int)(en:Ending)(w':World):Prop:=
 ∃A c,en=.returned (.agg #[.int .i64 r,.int .i64 q,.slice A n c])/\w'.ownsRow w.heap.size 2 1 (.slice A n c) n (iv l)/\Below w.heap.size w w'
def Zkr(n:Nat)(F:Nat->Int)(P:Nat->Bool):List Int:=ZcK n fun i=>if P i then F i else 0
theorem ZcW(n:Nat)(F:Nat->Int)(P:Nat->Bool):(Zkr n F P).length=n:=ZaD _ _
theorem Zqm(n:Nat)(F:Nat->Int):Zkr n F (fun _=>false)=Zas n:=by
 rw[<-Zop n F];exact Zfp (fun i _=>by simp)
theorem ZsY{n:Nat}{F:Nat->Int}{P:Nat->Bool}(h:∀i,i<n->P i=true):Zkr n F P=ZcK n F:=Zfp (fun i hi=>by rw[if_pos (h i hi)])
theorem Zii{n:Nat}{F:Nat->Int}{P Q:Nat->Bool}(h:∀i,i<n->P i=Q i):Zkr n F P=Zkr n F Q:=Zfp (fun i hi=>by rw[h i hi])
theorem ZsZ{n:Nat}{F:Nat->Int}{P Q:Nat->Bool}{k:Nat}(h:k<n)(hq:∀i,i<n->Q i=(P i || i==k)):(Zkr n F P).set k (F k)=Zkr n F Q:=by
 apply List.ext_getElem?
 intro i;rw[List.getElem?_set,ZcW]
 by_cases hi:i<n
 ·rw[Zkr,Zkr,Zca _ _ _ hi,Zca _ _ _ hi,hq i hi]
  by_cases e:k=i
  ·subst e;simp[h]
  ·have e2:(i==k)=false:=by simp;omega
   rw[if_neg e,e2,Bool.or_false]
 ·rw[YaN (l:=Zkr n F P) (by rw[ZcW];omega),YaN (l:=Zkr n F Q) (by rw[ZcW];omega),if_neg (by omega)]
def ZgC{R:Nat}(m:Nat)(pre:List (Fin R))(i:Nat):Bool:=pre.any fun k=>k.val==i/m
def Zse{R:Nat}(m:Nat)(pre:List (Fin R))(k c i:Nat):Bool:=ZgC m pre i || (i/m==k && decide (i%m<c))
theorem Zqn{R:Nat}(m:Nat)(pre:List (Fin R))(k i:Nat):Zse m pre k 0 i=ZgC m pre i:=by simp[Zse]
theorem Zs0{R m:Nat}(hm:1<=m)(pre:List (Fin R))(k:Fin R)(i:Nat):Zse m pre k.val m i=ZgC m (pre++[k]) i:=by
 have h:=Nat.mod_lt i (show 0<m by omega);simp[Zse,ZgC,h]
 congr 1
 exact Bool.eq_iff_iff.2 ⟨fun h=>by simpa using (of_decide_eq_true h).symm,fun h=>by simpa using (of_decide_eq_true h).symm⟩
theorem Zqo{R m:Nat}(hm:1<=m)(pre:List (Fin R))(k c i:Nat)(hc:c<m):Zse m pre k (c+1) i=(Zse m pre k c i || i==k*m+c):=by
 have e:(i==k*m+c)=(i/m==k && i%m==c):=by
  rw[Bool.eq_iff_iff];simp only[YaQ,beq_iff_eq]
  constructor
  ·rintro rfl;exact⟨ZlZ k c m hc,Zl0 k c m hc⟩
  ·rintro⟨rfl,rfl⟩;rw[Nat.mul_comm];exact(Nat.div_add_mod i m).symm
 have e2:decide (i%m<c+1)=(decide (i%m<c) || i%m==c):=by
  rw[Bool.eq_iff_iff];simp only[Bool.or_eq_true,beq_iff_eq,decide_eq_true_eq];omega
 rw[e,Zse,Zse,e2,Bool.and_or_distrib_left,Bool.or_assoc]
theorem Zqp{R m i:Nat}(h:i<R*m)(hm:1<=m):ZgC m (List.finRange R) i=true:=by
 have h1:i/m<R:=(Nat.div_lt_iff_lt_mul (by omega)).2 h;unfold ZgC;rw[List.any_eq_true];exact⟨⟨i/m,h1⟩,List.mem_finRange _,by simp⟩
theorem ZgD{β:Type}(n₀:Nat)(e:TypeId)(size:Nat)(v:Value)(k:Nat)(f:β->List Value):Own (fun s W=>W.ownsRow n₀ e size v k (f s)):=by
 intro s X Y row hs hg hrow;refine hs.kept hg ?_
 rcases hs.2 with⟨rfl,_⟩|⟨g,cap,cur,rfl,_,hgb,_⟩
 ·exact .inl rfl
 ·refine .inr fun e'=>?_
  obtain⟨o,ho,hc⟩:=hrow g (by rw[<-e'];rfl);rw[hgb] at ho
  cases ho
  cases hc
attribute [local go_sem] Oper.semAt_some
theorem ZcL{w:World}{base:Nat}{e:TypeId}{size g n cap:Nat}{xs:List Value}(h:w.ownsRow base e size (.slice (some ⟨g,0,none⟩) n cap) n xs):∃cur,w.heap[g]?=some (.cells cur e (0,0)):=by
 rcases h.2 with⟨h,_⟩|⟨g',cap',cur,h,_,hgb,_⟩
 ·cases h
 ·cases h
  exact⟨_,hgb⟩
theorem Zoy(n m p:Nat)(A B:Option Addr)(c d:Nat)(ly lx:List Int)(q:Int)(w:World)(hn:1<=n/\n<=1000)(hm:1<=m/\m<=1000)(hp:n*m=p)(hp':1<=p/\p<=1048576)(hly:ly.length=n)(hlx:lx.length=m)
  (h:Rd w 1 A n (iv ly)) (h':Rd w 1 B m (iv lx)) (h1:∀v∈ly,In1 v) (h2:∀v∈lx,In1 v) :
  Calls prog 167 #[.slice A n c,.slice B m d,.int .i64 q] w (Zv0 w n m p (ZlY ly lx q)):=by
 have HC:=hid (fun W=>ZsX n m p W (by omega) (by omega) hp'.2 hp);have hrt:decide (Zc9 n m p)=true:=YaJ ⟨⟨by omega,by omega,by omega,by omega⟩,by rw[<-hp];exact Int.natCast_mul n m⟩;have C2:=fun A c W=>ZeO n m A p c W (by omega)
 rw[hrt] at C2;have HC2:=hid C2;obtain⟨W0,hW0⟩:∃W0,(((w.alloc (.cells #[.slice A n c] 74)).alloc (.cells #[.slice B m d] 74)).alloc (.cells #[.int .i64 q] 3)).alloc (.cells #[.int .i64 0,.int .i64 0,.slice none 0 0] 271)=W0:=⟨_,rfl⟩;have k0:Below w.heap.size w W0:=by rw[<-hW0];exact(((bA0 _).alloc (by simp) _).alloc (by simp<;>omega) _).alloc (by simp<;>omega) _
 have b0:Blk W0 w.heap.size 74 #[.slice A n c]:=by rw[<-hW0];exact(((Blk.new _ _ _).alloc _).alloc _).alloc _
 have b1:Blk W0 (w.heap.size+1) 74 #[.slice B m d]:=by rw[<-hW0];exact((Blk.new' _ _ (by simp)).alloc _).alloc _
 have b2:Blk W0 (w.heap.size+1+1) 3 #[.int .i64 q]:=by rw[<-hW0];exact(Blk.new' _ _ (by simp)).alloc _
 have b3:Blk W0 (w.heap.size+1+1+1) 271 #[.int .i64 0,.int .i64 0,.slice none 0 0]:=by rw[<-hW0];exact Blk.new' _ _ (by simp)
 have a0:W0.cell? ⟨w.heap.size,0,none⟩=some (.slice A n c):=b0.cell 0;have a1:W0.cell? ⟨w.heap.size+1,0,none⟩=some (.slice B m d):=b1.cell 0;have HW:=hid hW0;have HB0:=hid b0;have HB1:=hid b1;have HB2:=hid b2;have HB3:=hid b3;have HK:=hid k0;have HRY:=hid (h.below k0);have HRX:=hid (h'.below k0);have HLY:=hid hly;have HLX:=hid hlx;have HIN:=hid (And.intro h1 h2);have HP:=hid hp;have HN:=hid hn;have HM:=hid hm;clear hW0 b0 b1 b2 b3 k0 hrt C2 h h' hly hlx h1 h2 hp hn hm;refine(callsIn_wide (n:=9)).1 (callsIn_of_wp_marks func167 rfl trivial (wpIn_wide.2 ?_) rfl);simp only[ntmps167,List.size_toArray,List.length_cons,List.length_nil,Nat.reduceAdd,Nat.reduceSub,Array.replicate_succ,Array.replicate_zero,List.push_toArray,List.append_toArray,List.nil_append,List.cons_append];go_wp2_with fail;rw[HW.out];go_wp2_with fail;((with_reducible refine(HC.out _).mono ?_);rintro e w1 ⟨A',c',rfl,hown,hb1⟩);obtain⟨_,_,q1,q2,q3,q6⟩:=ZaF hown;injection q1 with q4 q5 q7
 subst q4 q7;obtain⟨g,rfl,hg0,hg1⟩:=q6 (by omega);have k1:=hid hb1;have HO:=hid hown;clear a0 a1 hb1 hown q6 HW;go_wp2_with fail;obtain⟨W2,hW2⟩:∃W2,w1.alloc (.cells #[.int .i64 n,.int .i64 m,.slice (some ⟨g,0,none⟩) p c'] 271)=W2:=⟨_,rfl⟩;rw[hW2];have k2:Below w1.heap.size w1 W2:=by rw[<-hW2];exact bA0 _
 have o2:Blk W2 w1.heap.size 271 #[.int .i64 n,.int .i64 m,.slice (some ⟨g,0,none⟩) p c']:=by rw[<-hW2];exact Blk.new _ _ _
 clear hW2;((with_reducible refine(HC2.out _ _ _).mono ?_);rintro e w3 ⟨rfl,hb3⟩);have o3:=o2.kept hb3;have k3:Below w1.heap.size w1 w3:=bT0 k2 hb3;have l3:=o3.lt;have y0:w3.cell? ⟨w1.heap.size,0,none⟩=some (.int .i64 n):=o3.cell 0;have y1:w3.cell? ⟨w1.heap.size,1,none⟩=some (.int .i64 m):=o3.cell 1;have y2:w3.cell? ⟨w1.heap.size,2,none⟩=some (.slice (some ⟨g,0,none⟩) p c'):=o3.cell 2;have HO3:=hid o3;have HK3:=hid k3;clear hb3 k2 o2 o3 k3;go_wp2_with fail;((with_reducible refine(Zi7 n m _ p c' _).mono ?_);rintro e w4 ⟨rfl,hbm,hb4⟩);clear y0 y1 y2;go_wp2_with fail;have z1:=k1.out.size;have z3:=HK3.out.size;have z4:w3.heap.size<w4.heap.size:=hbm.lt;have K4:Below W0.heap.size W0 w4:=k1.out.trans ((HK3.out.mono z1).trans (hb4.mono (by omega)));have O4:w4.ownsRow W0.heap.size 2 1 (.slice (some ⟨g,0,none⟩) p c') p (iv (Zkr p (Zp2 ly lx q) (ZgC m ([]:List (Fin n))))):=by
  have e:Zkr p (Zp2 ly lx q) (ZgC m ([]:List (Fin n)))=Zas p:=Zqm p _;rw[e];exact Zac (Zac HO.out HK3.out) hb4
 have M4:=HO3.out.kept hb4;have hseq:=Zfq (9-1) w3.heap.size n m p c' g 0 (by omega) (by have:=HN.out;omega) HM.out.1 HP.out q2 (by have:=q3;unfold maxLen at this;omega) (fun b=>b=g\/w4.heap.size<=b) (by omega) _ w4 hbm;clear hb4 hbm;refine wpIn_wide.1 (wpIn_rangeFunc_ownH (F:=Fence.wide) (n:=9) rfl (by omega) (gf:=255) (lb:=#[.pointer (some ⟨w3.heap.size,0,none⟩)]) rfl trivial (enters_of func255 (by kernel_rfl) rfl) hseq (fun h k=>h.trans k) (Znk (w:=w4) (fun i hi=>.inr hi)) (bR0 _ _) (fun _=>rfl)
  (fun pre W=>(W.ownsRow W0.heap.size 2 1 (.slice (some ⟨g,0,none⟩) p c') p (iv (Zkr p (Zp2 ly lx q) (ZgC m pre)))/\Blk W w1.heap.size 271 #[.int .i64 n,.int .i64 m,.slice (some ⟨g,0,none⟩) p c'])/\Below W0.heap.size W0 W)
  (fun _ _ _=>False)
  (OwnFrom.and (OwnFrom.and (Own.from (ZgD W0.heap.size 2 1 (.slice (some ⟨g,0,none⟩) p c') p (fun pre:List (Fin n)=>iv (Zkr p (Zp2 ly lx q) (ZgC m pre)))) _) (fun _ X Y row hs hg hr=>Blk.turn hs hg hr)) (ownFrom_below (YaF _) K4.size))
  (fun _ _ _ _ _ hs _ _=>hs)
  ⟨⟨O4,M4⟩,K4⟩
  (fun k a' W=>a'={ tmps:=#[.slice A n c,.slice B m d,.int .i64 q,.pointer (some ⟨w.heap.size,0,none⟩),.pointer (some ⟨w.heap.size+1,0,none⟩),.pointer (some ⟨w.heap.size+1+1,0,none⟩),.pointer (some ⟨w.heap.size+1+1+1,0,none⟩),.pointer (some ⟨w1.heap.size,0,none⟩),.int .i64 k.val,.slice (some ⟨g,k.val*m,none⟩) m m,undef,.slice A n c,.int .i64 n,.slice B m d,.int .i64 m,.agg #[.int .i64 n,.int .i64 m,.slice (some ⟨g,0,none⟩) p c'],.agg #[.int .i64 n,.int .i64 m,.slice (some ⟨g,0,none⟩) p c'],.bool true,.bool false,undef,.agg #[.int .i64 n,.int .i64 m,.slice (some ⟨g,0,none⟩) p c'],.func (.func 255) #[] #[.pointer (some ⟨w3.heap.size,0,none⟩)],.int .i64 k.val,.slice (some ⟨g,k.val*m,none⟩) m m,undef,undef,undef,undef,undef,undef,undef,undef,undef,undef,undef,undef,undef,undef,undef,undef,undef,undef,undef,undef],defers:=[] })
  (fun x a' s X Y row hs hg hr=>hs) ?assign ?body ?done ?stop)
 case assign=>
  rintro l' pre k W K hI hK;simp only[Zif]
  gi_wp2_with fail
  exact hK _ _ ((KeepsOthers.refl _).from _) (But.refl _ _) hI rfl
 case body=>
  rintro l' pre k a' W hl3 ⟨r0,hr0⟩ ⟨⟨hown,hblk⟩,hB⟩ rfl hlt;obtain⟨b0,hb0⟩:∃b0,k.val*m=b0:=⟨_,rfl⟩;obtain⟨kv,hkv⟩:∃kv,k.val=kv:=⟨_,rfl⟩;have hkn:kv<n:=by rw[<-hkv];exact k.isLt
  rw[hb0,hkv];have HB0':=hid hb0;have HKV:=hid hkv;have HOW:=hid hown;have HBK:=hid hblk;have HBB:=hid hB;have hmm:=HM.out;have hnn:=HN.out;clear hb0 hkv hown hblk hB hl3 hr0 hlt O4 M4 K4 hseq
  gi_wp2_with fail
  gi_loopw [26] (fun i wr=>∃j:Nat,j<=m/\i=.int .i64 j/\wr.ownsRow W0.heap.size 2 1 (.slice (some ⟨g,0,none⟩) p c') p (iv (Zkr p (Zp2 ly lx q) (Zse m pre k.val j)))/\W.grownBy wr (some g)) (fun i _=>m-(intOf i).toNat)
  case atStart=>exact⟨0,by omega,rfl,by rw[Zii (fun i _=>Zqn m pre k.val i)];exact HOW.out,World.grownBy.refl _ _⟩
  case round=>
   obtain⟨j,hj,rfl,ho,hg⟩:=hrel
   by_cases hlt:j<m
   ·have hBr:Below W0.heap.size W0 wr:=Zai HBB.out HBB.out.size hg hg0;obtain⟨gy,oy,y,rfl,hbly,hy,cy⟩:=Zb7 HLY.out (HRY.out.below hBr) hkn;obtain⟨gx,ox,x,rfl,hblx,hx,cx⟩:=Zb7 HLX.out (HRX.out.below hBr) hlt;have x0:wr.cell? ⟨w.heap.size,0,none⟩=some (.slice (some ⟨gy,oy,none⟩) n c):=(HB0.out.kept hBr).cell 0;have x1:wr.cell? ⟨w.heap.size+1,0,none⟩=some (.slice (some ⟨gx,ox,none⟩) m d):=(HB1.out.kept hBr).cell 0;have x2:wr.cell? ⟨w.heap.size+1+1,0,none⟩=some (.int .i64 q):=(HB2.out.kept hBr).cell 0;have l0:=(HB0.out.kept hBr).lt;have l1:=(HB1.out.kept hBr).lt;have l2:=(HB2.out.kept hBr).lt;have HMU:=hid (fun W=>ZeM y x q W (HIN.out.1 y (YaL hy)) (HIN.out.2 x (YaL hx)));have HOO:=hid ho;have HG:=hid hg;have HY:=hid hy;have HX:=hid hx;have i0:(0:Int)<=(kv:Int):=by omega
    have i1:(kv:Int)<(n:Int):=by omega
    have i2:(0:Int)<=(j:Int):=by omega
    have i3:(j:Int)<(m:Int):=by omega
    clear ho hg hBr hy hx
    gi_wp2_with fail
    refine ZfX wr [] [0,1,2,3,4,5,6,7,8,9,10,11,12] 13 [] (by kernel_rfl) (by kernel_rfl) (by kernel_rfl) (by kernel_rfl) (Zag.of (bR0 _ _)) ?_;simp only[Zdj,YaO,YaP,YaB,YaC];go_simp;change wpQuiet _ _ _ _ (_::_::_::_::_::_::_::_::_::_::_::_::_::[]) _;have KC:=fun(u:KW wr) b o h=>KW.cells u b o h
    iterate 13 (go_big_quiet_step (first|(go_at_call 205;(with_reducible exact ZbC (HMU.out _)))))
    refine wpQuiet_nil ?_;rintro⟨w5,k5⟩;change wpList _ _ _ (_::[]) _ _;dsimp only;clear KC;have hO5:=Zac HOO.out k5.2.2;have hlp:b0+j<p:=by rw[<-HB0'.out,<-HP.out];exact Zp3 k.val j n m k.isLt hlt
    obtain⟨u,hu⟩:∃u,w5.cell? ⟨g,b0+j,none⟩=some u:=by
     rw[hO5.cellAt (b0+j) (by omega),Zkc _ _ (by rw[ZcW];exact hlp)];exact⟨_,rfl⟩
    have fu:=hO5.frozenAt (b0+j);have hlg:g<w5.heap.size:=(hO5.lt g rfl).2;have hst:=hO5.stored (b0+j) (.int .i64 (Zd5 y x q));have HS:=hid hst;have HK5:=hid k5.2.2;have hF:Zp2 ly lx q (b0+j)=Zd5 y x q:=by
     rw[Zp2,HLX.out,<-HB0'.out,ZlZ _ _ _ hlt,Zl0 _ _ _ hlt,HKV.out,YaT,HY.out,YaT,HX.out];rfl
    have HF:=hid hF;have HLP:=hid hlp;clear hst k5 hO5 hF hlp x0 x1 x2 cy cx;go_wp2_with fail;refine NoPanic.normal (ZiY.normal ?_)
    gi_wp2
    go_roundw
    case rel=>
     refine⟨j+1,by omega,by go_num,?_,(ZaB HK5.out HS.out.2 |> fun h=>World.grownBy.trans HG.out h)⟩;have h3:=HS.out.1;rw[Zcs,<-HF.out,ZsZ (Q:=Zse m pre k.val (j+1)) HLP.out (fun i _=>by rw[<-HB0'.out];exact Zqo hmm.1 pre k.val j i hlt),HF.out] at h3;exact h3
    case measure=>simp[intOf];omega
   ·obtain rfl:j=m:=by omega
    gi_wp2
    refine⟨(KeepsOthers.of_grownBy hg (fun a o e ha=>?_)).from _,But.of_gr hg (.inl rfl),⟨?_,HBK.out.grown hg ?_⟩,Zai HBB.out HBB.out.size hg hg0⟩
    ·cases e
     obtain⟨cur,hcur⟩:=ZcL HOW.out;rw[hcur] at ha
     cases ha
     rfl
    ·rw[Zii (fun i _=>Zs0 hmm.1 pre k i)] at ho;exact ho
    ·intro e;injection e with e
     omega
 case done=>
  rintro D ys W hD rfl ⟨⟨hown,hblk⟩,hB⟩ hK;have hc0:W.cell? ⟨w1.heap.size,0,none⟩=some (.int .i64 n):=hblk.cell 0;have hc1:W.cell? ⟨w1.heap.size,1,none⟩=some (.int .i64 m):=hblk.cell 1;have hc2:W.cell? ⟨w1.heap.size,2,none⟩=some (.slice (some ⟨g,0,none⟩) p c'):=hblk.cell 2;have hlw:=hblk.lt;have m3:=HB3.out.kept hB;have t0:W.cell? ⟨w.heap.size+1+1+1,0,none⟩=some (.int .i64 0):=m3.cell 0;have t1:W.cell? ⟨w.heap.size+1+1+1,1,none⟩=some (.int .i64 0):=m3.cell 1;have t2:W.cell? ⟨w.heap.size+1+1+1,2,none⟩=some (.slice none 0 0):=m3.cell 2;have g0:=m3.frozen 0;have g1:=m3.frozen 1;have g2:=m3.frozen 2;have l3':=m3.lt;have HM3:=hid m3;have HOW:=hid hown;have HBB:=hid hB;clear hown hB m3 hseq;go_wp2_with fail;have hst:=ZwS HM3.out (.int .i64 n) (.int .i64 m) (.slice (some ⟨g,0,none⟩) p c');have hDw:w.heap.size+1+1+1<w4.heap.size:=by have:=HB3.out.lt;omega
  have hK5:(((W.setCell ⟨w.heap.size+1+1+1,0,none⟩ (.int .i64 n)).setCell ⟨w.heap.size+1+1+1,1,none⟩ (.int .i64 m)).setCell ⟨w.heap.size+1+1+1,2,none⟩ (.slice (some ⟨g,0,none⟩) p c')).heap[D]?=some (.deferred (some [])):=by
   rw[heap_setCell_other _ _ _ _ (by simp;omega),heap_setCell_other _ _ _ _ (by simp;omega),heap_setCell_other _ _ _ _ (by simp;omega)];exact hK
  obtain⟨W5,hW5⟩:∃W5,((W.setCell ⟨w.heap.size+1+1+1,0,none⟩ (.int .i64 n)).setCell ⟨w.heap.size+1+1+1,1,none⟩ (.int .i64 m)).setCell ⟨w.heap.size+1+1+1,2,none⟩ (.slice (some ⟨g,0,none⟩) p c')=W5:=⟨_,rfl⟩;rw[hW5] at hst hK5 ⊢;refine⟨by simp,.inl ⟨_,_,rfl,run_takeDeferred hK5,?_⟩⟩;have hg5:W5.grownBy (W5.putObj D (.deferred none)) (some D):=grownBy_putObj' W5 D (.deferred none);have hb6:Blk (W5.putObj D (.deferred none)) (w.heap.size+1+1+1) 271 #[.int .i64 n,.int .i64 m,.slice (some ⟨g,0,none⟩) p c']:=hst.2.grown hg5 (by simp;omega);have hz:=HK.out.size;have ho5:=HOW.out.kept hst.1 (.inr (Zab HOW.out HM3.out (by decide)));have ho6:=ownsRow_putObj ho5 (.deferred none) hK5 rfl;have e:Zkr p (Zp2 ly lx q) (ZgC m (List.finRange n))=ZlY ly lx q:=by
   rw[ZlY,HLY.out,HLX.out,HP.out];exact ZsY (fun i hi=>Zqp (by rw[HP.out];exact hi) HM.out.1)
  rw[e] at ho6;exact⟨_,results_cell_row rfl _ _ _ _ _ _ _ rfl hb6 underlying271 rfl (by kernel_rfl),_,_,rfl,Zae ho6 hz,(Zai ((Zag.of HK.out).call HBB.out).2.2 (YaH hz HBB.out.size) hst.1 (by omega)).trans ((bR0 _ _).grown hg5 (YaH (YaH hz HBB.out.size) hst.1.size) (fun k e=>by cases e;omega))⟩
 case stop=>
  rintro D c pre W _ _ h _;exact h.elim
end
section
open Go.RowKit
theorem Zij{w:World}{base n k c:Nat}{A:Option Addr}{l:List Int}{ls:List StS}{s:StS}(h:w.ownsRow base 275 4 (.slice A n c) n (lkV l ls))(hx:ls[k]?=some s)(hk:k<n) :
  ∃b,A=some ⟨b,0,none⟩/\b<w.heap.size/\∀j,j<4->w.cell? ⟨b,k*4+j,none⟩=(lkE l k s)[j]?:=by
 obtain⟨b,o,e',hlt,hc⟩:=(Rd.of_own h).2 (by omega);obtain⟨A',cap',hv,_,_,hg⟩:=ZaF h;injection hv with hA _ _
 obtain⟨g,hg1,_,_⟩:=hg (by omega);rw[hA,hg1] at e';injection e' with e'
 injection e' with e1 e2
 subst e1 e2;refine⟨g,by rw[hA,hg1],hlt,fun j hj=>?_⟩;have h2:=ZuN l ls k j s hj hx;have hj':j<(lkE l k s).length:=hj;rw[YaA hj'] at h2 ⊢;have:=hc _ _ h2
 rwa [Nat.zero_add] at this
theorem Zds{w:World}{base n k c:Nat}{A:Option Addr}{ss:List Zel}{s:Zel}{e:TypeId}(h:w.ownsRow base e 1 (.slice A n c) n (ss.map slv))(hx:ss[k]?=some s)(hk:k<n) :
  ∃b,A=some ⟨b,0,none⟩/\b<w.heap.size/\w.cell? ⟨b,k,none⟩=some (slv s):=by
 obtain⟨b,o,e',hlt,hc⟩:=(Rd.of_own h).2 (by omega);obtain⟨A',cap',hv,_,_,hg⟩:=ZaF h;injection hv with hA _ _
 obtain⟨g,hg1,_,_⟩:=hg (by omega);rw[hA,hg1] at e';injection e' with e'
 injection e' with e1 e2
 subst e1 e2;refine⟨g,by rw[hA,hg1],hlt,?_⟩;have:=hc k (slv s) (by simp[hx])
 rwa [Nat.zero_add] at this
theorem Zik{w:World}{base g n size:Nat}{e:TypeId}{cs:Array Value}(h:Blk w g e cs)(hb:base<=g)(hs:cs.size=n*size)(hn:n<=maxLen):w.ownsRow base e size (.slice (some ⟨g,0,none⟩) n n) n cs.toList:=
 ⟨by rw[Array.length_toList];exact hs,.inr ⟨g,n,cs,rfl,hb,h,YaF _,hn,hs,by rw[<-hs,<-Array.length_toList,List.take_length]⟩⟩
theorem Zks(nb:Nat)(l:List Int)(n NP:Nat)(P:List Int)(q:Int)(x:List Int)(X:Option Addr)(N c:Nat)(w:World)(hN:NetP l n NP P q)(hA:ZsS w nb l n NP P q)(hxl:x.length=N)(hx:Rd w 1 X N (iv x))(hxN:N=szN l 0)(hxi:Zaw x) :
  Calls prog 203 #[.pointer (some ⟨nb,0,none⟩),.slice X N c] w (ZsW l n P q x w):=by
 obtain⟨base,bs,Ap,cp,Al,cl,ls,lb0,hA⟩:=hA;obtain⟨m,hm⟩:∃m,n-1=m:=⟨_,rfl⟩;have hn2:=hN.n2;have hn16:=hN.n16;have hNP:=hN.np;have hpl:=hN.pl;have hs0:=hN.sz (show 0<n by omega);rw[<-hxN] at hs0;have b0:w.cell? ⟨nb,0,none⟩=some (.pointer (some ⟨bs,0,none⟩)):=hA.blk.cell 0;have lb:=hA.blk.lt;have HC1:=hid (Zd4 base bs n l w hA.shp hN.len (by omega));have HC2:=hid (fun W (k:Below w.heap.size w W)=>Za0 X N c x W hxl (hx.below k) (by omega));have HN:=hid hN;have HA:=hid hA;have HM:=hid hm;have HXL:=hid hxl;have HXI:=hid hxi;have HXN:=hid hxN;clear hN hA hx hm hxl hxi hxN
 go_enter func203,ntmps203
 go_wp2_with fail;((with_reducible refine HC1.out.mono ?_);rintro e w1 ⟨A1,c1,rfl,ho1,hb1⟩);obtain⟨g1,o1,rfl,lg1,hc1⟩:=(Rd.of_own ho1).2 (by omega);have a0:w1.cell? ⟨g1,o1,none⟩=some (.int .i64 N):=by
  have:=hc1 0 (.int .i64 N) (by rw[iv,YaR,hs0.1];rfl)
  rwa [Nat.add_zero] at this
 have HB1:=hid hb1;have e3:((N:Int) !=(N:Int))=false:=by simp
 have i0:(0:Int)<(n:Int):=by omega
 clear ho1 hb1 hc1 b0;go_wp2_with fail;((with_reducible refine(HC2.out w1 HB1.out).mono ?_);rintro e w2 ⟨A2,c2,rfl,ho2,hb2⟩);obtain⟨w3,hw3⟩:∃w3,(w2.alloc (.cells #[.slice A2 N c2] 74)).alloc (.cells #[.slice (some ⟨w2.heap.size,0,none⟩) 1 1] 276)=w3:=⟨_,rfl⟩;obtain⟨tb,htb⟩:∃tb,w2.heap.size+1=tb:=⟨_,rfl⟩;have hB2:Below w.heap.size w w2:=bT0 HB1.out hb2;have hB3:Below w.heap.size w w3:=by rw[<-hw3];exact(hB2.alloc hB2.size _).alloc (by simp;have:=hB2.size;omega) _
 have hR3:Blk w3 w2.heap.size 74 #[.slice A2 N c2]:=by rw[<-hw3];exact(Blk.new _ _ _).alloc _
 have hT3:Blk w3 tb 276 #[.slice (some ⟨w2.heap.size,0,none⟩) 1 1]:=by rw[<-hw3];exact Blk.new' _ _ (by simp[htb])
 have hX3:w3.ownsRow w.heap.size 2 1 (.slice A2 N c2) N (iv x):=by rw[<-hw3];exact Zae (((ho2.alloc _).alloc _)) HB1.out.size
 have HWE:=hid hw3;have HTE:=hid htb;have HB3:=hid hB3;have HT3:=hid hT3;have HR3:Hid (w3.ownsRow w.heap.size 74 1 (.slice (some ⟨w2.heap.size,0,none⟩) 1 1) 1 ([((A2,N,c2):Zel)].map slv)):=hid (Zik hR3 hB2.size rfl (by unfold maxLen;omega));have HX3:=hid hX3;have HTB:=hid (show w.heap.size<=tb by rw[<-htb];have:=hB2.size;omega);have hA3:=HA.out.below hB3;have b3:w3.cell? ⟨nb,3,none⟩=some (.slice Al m cl):=by have:=hA3.blk.cell 3;rw[HM.out] at this;exact this
 have lb3:=hA3.blk.lt;have HQ3:Hid (w2.cell? ⟨nb,3,none⟩=some (.slice Al m cl)):=hid (by have:=(HA.out.below hB2).blk.cell 3;rw[HM.out] at this;exact this);have b3':=HQ3.out;have lb2:=(HA.out.below hB2).blk.lt;clear hw3 htb hB2 hB3 hR3 hT3 hX3 hA3 ho2 hb2;go_wp2_with fail;rw[HWE.out,HTE.out];clear b3' lb2 HQ3 HWE b3 lb3 a0 lg1 i0
 go_loopw [37] (fun v wr=>∃(k:Nat) (A:Option Addr) (c:Nat) (ss:List Zel),k<=m/\v=.int .i64 k/\Blk wr tb 276 #[.slice A (k+1) c]/\wr.ownsRow w.heap.size 74 1 (.slice A (k+1) c) (k+1) (ss.map slv)/\ss.length=k+1/\Znu wr w.heap.size l (trN l n P q x) ss/\Below w.heap.size w wr) (fun v _=>m-(intOf v).toNat)
 case atStart=>
  refine⟨0,some ⟨w2.heap.size,0,none⟩,1,[(A2,N,c2)],by omega,rfl,HT3.out,HR3.out,rfl,fun j s hs=>?_,HB3.out⟩;have hj:j<[((A2,N,c2):Zel)].length:=(YaG.1 hs).1;obtain rfl:j=0:=by simpa using hj
  simp at hs;subst hs;exact⟨HXN.out,by rw[<-HXN.out];exact HX3.out⟩
 case round=>
  obtain⟨wo,rfl⟩:∃wo,wo=wr:=⟨_,rfl⟩;obtain⟨k,A,c2,ss,hk,rfl,hT,hR,hsl,hOK,hB⟩:=hrel
  by_cases hlt:k<m
  ·have HT:=hid hT;have HR:=hid hR;have HSL:=hid hsl;have HOK:=hid hOK;have HB:=hid hB;have HLT:=hid hlt;have hmn:=HM.out;have hRR:=HN.out.sz (show k+1<n by omega);have hCC:=HN.out.sz (show k<n by omega);have hfit:=HN.out.fit (show k<n-1 by omega);obtain⟨R,hRe⟩:∃R,szN l (k+1)=R:=⟨_,rfl⟩;obtain⟨C,hCe⟩:∃C,szN l k=C:=⟨_,rfl⟩;obtain⟨M,hMe⟩:∃M,R*C=M:=⟨_,rfl⟩;rw[hRe] at hRR hfit;rw[hCe] at hCC;have hM1:1<=M:=by rw[<-hMe];exact Nat.mul_pos hRR.2.1 hCC.2.1
   have hMNP:M<=NP:=by
    have:obN l k=ofN l k+szN l (k+1)*szN l k:=rfl;rw[hRe,hCe,hMe] at this;omega
   obtain⟨⟨AV,cV,Ab,cb⟩,hsk⟩:∃s,ls[k]?=some s:=⟨_,YaA (by rw[HA.out.len];omega)⟩;obtain⟨hwt,hAb,hcb⟩:=HA.out.wts k _ hsk;dsimp only at hwt hAb hcb;rw[hRe,hCe,hMe] at hwt;obtain⟨gw,rfl⟩:=Zbu hwt (by omega);obtain⟨gl,hgl,lgl,hcl⟩:=Zij (Zac HA.out.lrow hB) hsk (by omega);subst hgl;have hle:lkE l k (some ⟨gw,0,none⟩,cV,Ab,cb)=[.int .i64 R,.int .i64 C,.slice (some ⟨gw,0,none⟩) M cV,.slice Ab R cb]:=by rw[<-hMe,<-hRe,<-hCe];rfl
   rw[hle] at hcl;have l0:wo.cell? ⟨gl,k*4,none⟩=some (.int .i64 R):=hcl 0 (by omega);have l1:wo.cell? ⟨gl,k*4+1,none⟩=some (.int .i64 C):=hcl 1 (by omega);have l2:wo.cell? ⟨gl,k*4+2,none⟩=some (.slice (some ⟨gw,0,none⟩) M cV):=hcl 2 (by omega);have l3:wo.cell? ⟨gl,k*4+3,none⟩=some (.slice Ab R cb):=hcl 3 (by omega);have j1:(0:Int)<=(k:Int):=by omega
   have j2:(k:Int)<(m:Int):=by omega
   have HGW:=hid hwt;have HAB:=hid hAb;have HRR:Hid (szN l (k+1)=R):=hid hRe;have HCC:Hid (szN l k=C):=hid hCe;have HMM:=hid hMe;have HBF:=hid hfit;clear hT hR hsl hOK hB hwt hAb hcb hcl hle hsk hRe hCe hMe hfit;go_wp2_with fail;obtain⟨w5,hw5⟩:∃w5,wo.alloc (.cells #[.int .i64 R,.int .i64 C,.slice (some ⟨gw,0,none⟩) M cV,.slice Ab R cb] 275)=w5:=⟨_,rfl⟩;obtain⟨lb9,hlb9⟩:∃lb9,wo.heap.size=lb9:=⟨_,rfl⟩;have hb5:Below wo.heap.size wo w5:=by rw[<-hw5];exact bA0 _
   have hk5:Blk w5 lb9 275 #[.int .i64 R,.int .i64 C,.slice (some ⟨gw,0,none⟩) M cV,.slice Ab R cb]:=by rw[<-hw5];exact Blk.new' _ _ hlb9
   rw[hw5,hlb9];have HB5:=hid (bT0 HB.out hb5);have HT5:=hid (HT.out.kept hb5);have HR5:=hid (Zac HR.out hb5);have HOK5:=hid (HOK.out.below hb5);have HK5:=hid hk5;have HLB:=hid (show w.heap.size<=lb9 by rw[<-hlb9];exact HB.out.size);clear hw5 hlb9 hb5 hk5 HB HT HR HOK l0 l1 l2 l3 j1 j2 lgl;have v0:=HK5.out.cell 0;have v1:=HK5.out.cell 1;have v2:=HK5.out.cell 2;have v3:=HK5.out.cell 3;have lk5:=HK5.out.lt;have t0:=HT5.out.cell 0;have lt5:=HT5.out.lt;obtain⟨⟨Ak,nk,ck⟩,hsk⟩:∃s,ss[k]?=some s:=⟨_,YaA (by have:=HSL.out;omega)⟩;obtain⟨hnk,hok⟩:=HOK5.out k _ hsk;dsimp only at hnk;rw[HCC.out] at hnk hok;subst hnk;obtain⟨gr,hgr,lgr,hcr⟩:=Zds HR5.out hsk (by omega);subst hgr;have hcr':w5.cell? ⟨gr,k,none⟩=some (.slice Ak nk ck):=hcr;have b2:w5.cell? ⟨nb,2,none⟩=some (.int .i64 q):=(HA.out.below HB5.out).blk.cell 2;have lb5:=(HA.out.below HB5.out).blk.lt;have j1:(0:Int)<=(k:Int):=by omega
   have j2:(k:Int)<((k+1:Nat):Int):=by omega
   have j3:(k:Int)<(k:Int)+1:=by omega
   have HXK:=hid hok;have HMU:=hid (fun W (kk:Zag w5 W)=>ZsJ R nk M cV gw 0 Ak ck (wtL l P k) (trN l n P q x k) q W ⟨by omega,by omega⟩ ⟨by omega,by omega⟩ HMM.out (by omega) (Zdq HGW.out) (by have:=ZaF HGW.out;obtain⟨_,_,hv,_,h2,_⟩:=this;injection hv with _ _ h3;rw[h3];unfold maxLen at h2;omega) (by have:=HGW.out.1;rw[Zay] at this;omega) (by have:=HXK.out.1;rw[Zay] at this;omega) (Rd.of_own (Zac (Zac HGW.out HB5.out) kk.2.2)) (Rd.of_own (Zac HXK.out kk.2.2)) (fun v hv=>HN.out.pin v (List.mem_of_mem_drop (List.mem_of_mem_take hv))) (Zql HXI.out k));have KS:Zag w5 w5.drew:=Zag.start w5;clear hok hsk hcr
   go_region_held3 (fun w'=>Zag w5 w') (first|exact kk|exact KS) (first
    | (go_at_call 247;(with_reducible refine(HMU.out _ KS).mono ?_);rintro e w6 ⟨Az,cz,rfl,hoz,hb6⟩;have kk:Zag w5 w6:=KS.call hb6;have HKK:=hid kk;have HOZ:=hid hoz;clear hoz hb6))
   obtain⟨gz,rfl⟩:=Zbu HOZ.out (by omega);have hgz:w5.heap.size<=gz:=(HOZ.out.lt gz rfl).1;have HGZ:=hid hgz;have HB6:=hid (bT0 HB5.out kk.2.2);have u3:=(HK5.out.kept kk.2.2).cell 3;have lu:=(HK5.out.kept kk.2.2).lt;have hbs:Rd w6 1 Ab R (iv (bsL l P k)):=by
    have h1:=ZsF (e:=obN l k) (k:=R) (Zac HA.out.prow HB6.out) hpl (by have:=HBF.out;omega);rw[HAB.out];unfold bsL;rw[HRR.out];exact h1
   have hbl:(bsL l P k).length=R:=by unfold bsL;rw[HRR.out,List.length_take,List.length_drop,hpl];have:=HBF.out;omega
   have hne:∀b o',Ab=some ⟨b,o',none⟩->0<R->b≠gz:=by
    intro b o' hb h0 e;obtain⟨gp,hgp,hp⟩:=Zp0 (e:=obN l k) (k:=R) HA.out.prow (by omega) (by have:=HBF.out;omega);rw[HAB.out,hp] at hb;injection hb with hb
    injection hb with hb
    have h1:=(HA.out.prow.lt gp (by rw[hgp];rfl)).2;have h2:=HB5.out.size;omega
   have HZL:Hid ((Zig (wtL l P k) (trN l n P q x k) q R).length=R):=hid (by rw[Zig,ZaD]);have HAD:=hid (Zi4 (some ⟨gz,0,none⟩) Ab gz 0 R cz cb R cz w5.heap.size (Zig (wtL l P k) (trN l n P q x k) q R) (bsL l P k) w6 (fun _=>rfl) (by omega) (by omega) HZL.out hbl HOZ.out hbs hne);clear v0 v1 v2 v3 lk5 t0 lt5 b2 lb5 hcr' lgr j1 j2 j3 KS hgz kk hbs hbl hne HMU;go_wp2_with fail;((with_reducible refine HAD.out.mono ?_);rintro e w7 ⟨rfl,hz7,hg7⟩);have hb67:Below w5.heap.size w6 w7:=Zai (bR0 _ _) HKK.out.2.1 hg7 HGZ.out;have hb57:Below w5.heap.size w5 w7:=HKK.out.2.2.trans hb67;have hlz:Zpu l P q k (trN l n P q x k)=ZbK (Zig (wtL l P k) (trN l n P q x k) q R) 0 (bsL l P k) R:=by unfold Zpu;rw[HRR.out]
   rw[<-hlz] at hz7;obtain⟨Z,hZ⟩:∃Z,Zpu l P q k (trN l n P q x k)=Z:=⟨_,rfl⟩;rw[hZ] at hz7;have HZE:=hid hZ;have HZ7:=hid hz7;have HB57:=hid hb57;have HZLE:Hid (Z.length=R):=hid (by have:=hz7.1;rw[Zay] at this;omega);have b7:w7.cell? ⟨nb,3,none⟩=some (.slice (some ⟨gl,0,none⟩) m cl):=by have:=(HA.out.below (bT0 HB5.out hb57)).blk.cell 3;rw[HM.out] at this;exact this
   have lb7:=(HA.out.below (bT0 HB5.out hb57)).blk.lt;have hkw:IntKind.i64.wrap ((k:Int)+1)=((k+1:Nat):Int):=by rw[show (k:Int)+1=((k+1:Nat):Int) by omega];exact IntWalk.i64_in _ (by omega)
   clear hz7 hb67 hb57 hlz hZ u3 lu hg7 HAD
   by_cases hlast:k+1<m
   ·have e5:decide ((k:Int)+1<(m:Int))=true:=YaJ (by omega);go_wp2_with fail;clear b7 lb7 e5
    go_loopw [70] (fun v wi=>∃i:Nat,i<=R/\v=.int .i64 i/\wi.ownsRow w5.heap.size 2 1 (.slice (some ⟨gz,0,none⟩) R cz) R (iv (Zdr Z i))/\Below w5.heap.size w5 wi) (fun v _=>R-(intOf v).toNat)
    case atStart=>exact⟨0,by omega,rfl,by rw[Zmf];exact HZ7.out,HB57.out⟩
    case round=>
     obtain⟨i,hi,rfl,hz,hb⟩:=hrel
     by_cases hir:i<R
     ·obtain⟨v,hv⟩:∃v,Z[i]?=some v:=⟨_,YaA (by rw[HZLE.out];exact hir)⟩;have hcv:wr.cell? ⟨gz,i,none⟩=some (.int .i64 v):=(hz.cellAt i (by omega)).trans (by rw[iv,YaR,Zow hv];rfl);obtain⟨cur,hcur⟩:=ZcL hz;have fz:wr.frozen? ⟨gz,i,none⟩=false:=by simp[World.frozen?,hcur]
      have lz:gz<wr.heap.size:=(hz.lt gz rfl).2;have h1:=hz.stored i (.int .i64 (Zb2 v v));rw[Zcs,Zox hv] at h1;have HZ8:=hid h1.1;have HB8:=hid (Zai hb hb.size h1.2 HGZ.out);have HRE:=hid (ZsT v wr);have r1:(0:Int)<=(i:Int):=by omega
      have r2:(i:Int)<(R:Int):=by omega
      have HIR:=hid hir;clear hz hb hv hcur h1;go_wp2_with fail;((with_reducible refine HRE.out.mono ?_);rintro e w8 ⟨rfl,hw8⟩);subst hw8;go_wp2_with fail
      go_roundw
      case rel=>exact⟨i+1,HIR.out,by go_num,HZ8.out,HB8.out⟩
      case measure=>simp[intOf];have:=HIR.out;omega
     ·obtain rfl:i=R:=by omega
      have HZ9:Hid (wr.ownsRow w.heap.size 2 1 (.slice (some ⟨gz,0,none⟩) i cz) i (iv (trN l n P q x (k+1)))):=hid (by
       rw[trN,ZsV,if_pos (by rw[HM.out];exact hlast),HZE.out,<-Zov Z i (by rw[HZLE.out];exact YaF _)];exact Zae hz HB5.out.size)
      have HB9:=hid (bT0 HB5.out hb);have HT9:=hid (HT5.out.kept hb);have HR9:=hid (Zac HR5.out hb);have HOK9:=hid (HOK5.out.below hb);clear hz hb;go_wp2_with fail;((with_reducible refine(Zkq tb w.heap.size (k+1) c2 (some ⟨gr,0,none⟩) ss (some ⟨gz,0,none⟩,i,cz) wr HT9.out HR9.out (by omega) HB9.out.size).mono ?_);rintro e wb ⟨rfl,A',c',ht,hr,hst,hsz,hbb⟩);have HTb:=hid ht;have HRb:=hid hr;have HBb:=hid (HB9.out.trans (hbb w.heap.size (YaF _) HTB.out));have HOb:=hid ((HOK9.out.snoc HSL.out (by rw[HRR.out];exact HZ9.out)).stay hst hsz (by decide) (by decide));clear ht hr hst hsz hbb;go_wp2_with fail
      go_roundw
      case rel=>
       refine⟨k+1,A',c',ss++[(some ⟨gz,0,none⟩,i,cz)],HLT.out,by go_num,HTb.out,HRb.out,by simp[HSL.out],?_,HBb.out⟩;rw[<-HRR.out];exact HOb.out
      case measure=>simp[intOf];have:=HLT.out;omega
   ·have e5:decide ((k:Int)+1<(m:Int))=false:=YaI (by omega);have HZ9:Hid (w7.ownsRow w.heap.size 2 1 (.slice (some ⟨gz,0,none⟩) R cz) R (iv (trN l n P q x (k+1)))):=hid (by
     rw[trN,ZsV,if_neg (by rw[HM.out];exact hlast),HZE.out];exact Zae HZ7.out HB5.out.size)
    have HB9:=hid (bT0 HB5.out HB57.out);have HT9:=hid (HT5.out.kept HB57.out);have HR9:=hid (Zac HR5.out HB57.out);have HOK9:=hid (HOK5.out.below HB57.out);go_wp2_with fail;((with_reducible refine(Zkq tb w.heap.size (k+1) c2 (some ⟨gr,0,none⟩) ss (some ⟨gz,0,none⟩,R,cz) w7 HT9.out HR9.out (by omega) HB9.out.size).mono ?_);rintro e wb ⟨rfl,A',c',ht,hr,hst,hsz,hbb⟩);have HTb:=hid ht;have HRb:=hid hr;have HBb:=hid (HB9.out.trans (hbb w.heap.size (YaF _) HTB.out));have HOb:=hid ((HOK9.out.snoc HSL.out (by rw[HRR.out];exact HZ9.out)).stay hst hsz (by decide) (by decide));clear ht hr hst hsz hbb;go_wp2_with fail
    go_roundw
    case rel=>
     refine⟨k+1,A',c',ss++[(some ⟨gz,0,none⟩,R,cz)],HLT.out,by go_num,HTb.out,HRb.out,by simp[HSL.out],?_,HBb.out⟩;rw[<-HRR.out];exact HOb.out
    case measure=>simp[intOf];have:=HLT.out;omega
  ·obtain rfl:k=m:=by omega
   have HR:=hid hR;have HSL:=hid hsl;have HOK:=hid hOK;have HB:=hid hB;have t0:=hT.cell 0;have lt0:=hT.lt;clear hT hR hsl hOK hB;go_wp2_with fail
   go_ret2
   have hmn:n=k+1:=by have:=HM.out;omega
   refine⟨A,c2,ss,by rw[hmn];rfl,by rw[hmn];exact HR.out,by rw[hmn];exact HSL.out,HOK.out,HB.out⟩
def Zem(z y:List Int)(i:Nat):List Int:=z.mapIdx fun j v=>if j<i then wrap64 (v-y.getD j 0) else v
theorem Zoz(z y:List Int):Zem z y 0=z:=by
 unfold Zem
 apply List.ext_getElem?
 intro i;simp
theorem Zb3(z y:List Int)(i:Nat):(Zem z y i).length=z.length:=by simp[Zem]
theorem Zqq{z y:List Int}{i:Nat}{v:Int}(h:z[i]?=some v):(Zem z y i)[i]?=some v:=by simp[Zem,h]
theorem Zqr{z y:List Int}{i:Nat}{v u:Int}(h:z[i]?=some v)(hy:y[i]?=some u):(Zem z y i).set i (wrap64 (v-u))=Zem z y (i+1):=by
 obtain⟨hl,hv⟩:=YaG.1 h
 apply List.ext_getElem?
 intro j;rw[List.getElem?_set,Zb3]
 by_cases e:i=j
 ·subst e;rw[if_pos rfl,if_pos hl];simp[Zem,h,hy]
 ·rw[if_neg e]
  by_cases hj:j<z.length
  ·simp only[Zem,List.getElem?_mapIdx];rw[YaA hj];simp only[Option.map_some]
   by_cases h1:j<i
   ·rw[if_pos h1,if_pos (by omega)]
   ·rw[if_neg h1,if_neg (by omega)]
  ·rw[YaN (by rw[Zb3];omega),YaN (by rw[Zb3];omega)]
theorem Zs1{z y:List Int}(i:Nat)(h:Zaw z):Zaw (Zem z y i):=by
 intro v hv;obtain⟨j,hj⟩:=List.getElem?_of_mem hv;simp only[Zem,List.getElem?_mapIdx] at hj;obtain⟨u,hu,rfl⟩:=Option.map_eq_some_iff.1 hj
 split
 ·exact ZaZ _
 ·exact h u (YaL hu)
def ZvL(l:List Int)(n:Nat)(P:List Int)(q:Int)(x y:List Int):List Int:=Zem (trN l n P q x (n-1)) y (szN l (n-1))
def ZuQ(l:List Int)(n:Nat)(P:List Int)(q:Int)(x y:List Int)(w:World)(e:Ending)(w':World):Prop:=
 ∃A c ss D dc,e=.returned (.tuple #[.slice A n c,.slice D (szN l (n-1)) dc,.bool true])/\w'.ownsRow w.heap.size 74 1 (.slice A n c) n (ss.map slv)/\ss.length=n/\Znu w' w.heap.size l (trN l n P q x) ss /\
  w'.ownsRow w.heap.size 2 1 (.slice D (szN l (n-1)) dc) (szN l (n-1)) (iv (ZvL l n P q x y))/\Below w.heap.size w w'/\(∀(j:Nat) (s:Zel),ss[j]?=some s->∀g,(slv s).ownBlock=some g->(Value.slice D (szN l (n-1)) dc).ownBlock≠some g)
theorem Zbi{w:World}{base:Nat}{e:TypeId}{size n:Nat}{v:Value}{xs:List Value}(h:w.ownsRow base e size v n xs):w.drew.ownsRow base e size v n xs:=h
theorem Zmh(nb:Nat)(l:List Int)(n NP:Nat)(P:List Int)(q:Int)(x y:List Int)(X Y:Option Addr)(N c R d:Nat)(w:World)(hN:NetP l n NP P q)(hA:ZsS w nb l n NP P q)(hxl:x.length=N)(hx:Rd w 1 X N (iv x))(hxN:N=szN l 0)(hxi:Zaw x)
  (hyl:y.length=R) (hy:Rd w 1 Y R (iv y)) (hR:szN l (n-1)=R) :
  Calls prog 146 #[.pointer (some ⟨nb,0,none⟩),.slice X N c,.slice Y R d] w (ZuQ l n P q x y w):=by
 have HC1:=hid (Zks nb l n NP P q x X N c w hN hA hxl hx hxN hxi);have hn2:=hN.n2;have hsR:=hN.sz (show n-1<n by omega);rw[hR] at hsR;obtain⟨m,hm⟩:∃m,n-1=m:=⟨_,rfl⟩;rw[hm] at hsR;have HN:=hid hN;have HRE:=hid hR;have HM:=hid hm;have HY:=hid hy;have HYL:=hid hyl;have HXI:=hid hxi;clear hN hA hx hxl hxN hxi hy hyl hR hm
 go_enter func146,ntmps146
 go_wp2_with fail;((with_reducible refine HC1.out.mono ?_);rintro e w1 ⟨A,cA,ss,rfl,hr1,hsl,hok,hb1⟩);obtain⟨⟨Am,nm,cm⟩,hsm⟩:∃s,ss[m]?=some s:=⟨_,YaA (by rw[hsl];have:=HM.out;omega)⟩;obtain⟨hnm,hom⟩:=hok m _ hsm;dsimp only at hnm;rw[<-HM.out,HRE.out] at hnm;subst hnm;rw[<-HM.out,HRE.out] at hom;obtain⟨gr,hgr,lgr,hcr⟩:=Zds hr1 hsm (by have:=HM.out;omega);subst hgr;have hcr':w1.cell? ⟨gr,m,none⟩=some (.slice Am nm cm):=hcr;have hw1:IntKind.i64.wrap ((n:Int)-1)=(m:Int):=by have:=HM.out;rw[show (n:Int)-1=(m:Int) by omega];exact IntWalk.i64_in _ (by have:=HN.out.n16;omega)
 have i1:(0:Int)<=(m:Int):=by omega
 have i2:(m:Int)<(n:Int):=by have:=HM.out;omega
 have e1:((nm:Int) !=(nm:Int))=false:=by simp
 have HR1:=hid hr1;have HSL:=hid hsl;have HOK:=hid hok;have HB1:=hid hb1;have HC2:=hid (Za0 Am nm cm (trN l n P q x (n-1)) w1 (by have:=hom.1;rw[Zay] at this;omega) (Rd.of_own hom) (by omega));clear hr1 hsl hok hb1 hsm hom hcr;go_wp2_with fail;((with_reducible refine HC2.out.mono ?_);rintro e w2 ⟨D,dc,rfl,ho2,hb2⟩);obtain⟨gd,rfl⟩:=Zbu ho2 (by omega);have HD2:=hid ho2;have HB2:=hid hb2;have HGD:=hid (show w1.heap.size<=gd from(ho2.lt gd rfl).1);have HZL:Hid ((trN l n P q x (n-1)).length=nm):=hid (by have:=ho2.1;rw[Zay] at this;omega);clear ho2 hb2 hcr' lgr hw1 i1 i2 e1;go_wp2_with fail
 go_loopw [42] (fun v wr=>∃i:Nat,i<=nm/\v=.int .i64 i/\wr.ownsRow w1.heap.size 2 1 (.slice (some ⟨gd,0,none⟩) nm dc) nm (iv (Zem (trN l n P q x (n-1)) y i))/\Below w1.heap.size w1 wr) (fun v _=>nm-(intOf v).toNat)
 case atStart=>exact⟨0,by omega,rfl,by rw[Zoz];exact HD2.out,HB2.out⟩
 case round=>
  obtain⟨i,hi,rfl,hz,hb⟩:=hrel
  by_cases hir:i<nm
  ·obtain⟨v,hv⟩:∃v,(trN l n P q x (n-1))[i]?=some v:=⟨_,YaA (by rw[HZL.out];exact hir)⟩;have hcv:wr.cell? ⟨gd,i,none⟩=some (.int .i64 v):=(hz.cellAt i (by omega)).trans (by rw[iv,YaR,Zqq hv];rfl);obtain⟨b,o,u,rfl,lb,hu,cu⟩:=Zb7 HYL.out (HY.out.below (bT0 HB1.out hb)) hir;obtain⟨cur,hcur⟩:=ZcL hz;have fz:wr.frozen? ⟨gd,i,none⟩=false:=by simp[World.frozen?,hcur]
   have lz:gd<wr.heap.size:=(hz.lt gd rfl).2;have h1:=hz.stored i (.int .i64 (wrap64 (v-u)));rw[Zcs,Zqr hv hu] at h1;have HZ8:=hid h1.1;have HB8:=hid (Zai hb hb.size h1.2 HGD.out);have HSB:=hid (fun W=>ZuO v u W);have r1:(0:Int)<=(i:Int):=by omega
   have r2:(i:Int)<(nm:Int):=by omega
   have HIR:=hid hir;clear hz hb hv hcur h1;go_wp2_with fail;refine Zad (Zag wr) [0,1,2,3,4,5,6,7,8,9] [10] [11,12] (by kernel_rfl) (by kernel_rfl) (Zag.start wr) ?_;simp only[YaO,YaP,YaB,YaC];refine Zaa (.slice (some ⟨gd,0,none⟩) nm dc) rfl (fun W hW=>?_) ?_
   ·obtain⟨hc,-,-⟩:=hW;go_simp
   go_simp;refine Zaa (.int .i64 i) rfl (fun W hW=>?_) ?_
   ·obtain⟨hc,-,-⟩:=hW;go_simp
   go_simp;refine Zaa (.slice (some ⟨gd,0,none⟩) nm dc) rfl (fun W hW=>?_) ?_
   ·obtain⟨hc,-,-⟩:=hW;go_simp
   go_simp;refine Zaa (.int .i64 i) rfl (fun W hW=>?_) ?_
   ·obtain⟨hc,-,-⟩:=hW;go_simp
   go_simp;refine Zaa (.pointer (some ⟨gd,i,none⟩)) rfl (fun W hW=>?_) ?_
   ·obtain⟨hc,-,-⟩:=hW;go_simp
   go_simp;refine Zaa (.int .i64 v) rfl (fun W hW=>?_) ?_
   ·obtain⟨hc,-,-⟩:=hW;go_simp
   go_simp;refine Zaa (.slice (some ⟨b,o,none⟩) nm d) rfl (fun W hW=>?_) ?_
   ·obtain⟨hc,-,-⟩:=hW;go_simp
   go_simp;refine Zaa (.int .i64 i) rfl (fun W hW=>?_) ?_
   ·obtain⟨hc,-,-⟩:=hW;go_simp
   go_simp;refine Zaa (.pointer (some ⟨b,o+i,none⟩)) rfl (fun W hW=>?_) ?_
   ·obtain⟨hc,-,-⟩:=hW;go_simp
   go_simp;refine Zaa (.int .i64 u) rfl (fun W hW=>?_) ?_
   ·obtain⟨hc,-,-⟩:=hW;go_simp
   go_simp;change Zah _ _ _ _ _ (_::[]) _ _;unfold Zah;go_wp2_with fail;((with_reducible refine(HSB.out _).mono ?_);rintro e w8 ⟨rfl,hw8⟩);subst hw8;go_wp2_with fail;refine⟨Zag.start wr,?_⟩;unfold Zah;change wpList _ _ _ (_::_::[]) _ _;go_wp2_with fail;refine NoPanic.normal ?_;go_wp2_with fail
   go_roundw
   case rel=>exact⟨i+1,HIR.out,by go_num,Zbi HZ8.out,HB8.out.drew⟩
   case measure=>simp[intOf];have:=HIR.out;omega
  ·obtain rfl:i=nm:=by omega
   have HZ9:=hid hz;have HB9:=hid hb;clear hz hb;go_wp2_with fail
   go_ret3
   refine⟨_,cA,ss,some ⟨gd,0,none⟩,dc,by rw[HRE.out];rfl,Zac HR1.out HB9.out,HSL.out,HOK.out.below HB9.out,?_,bT0 HB1.out HB9.out,?_⟩
   ·unfold ZvL;rw[HRE.out];exact Zae HZ9.out HB1.out.size
   ·intro j s hs g hg e;rw[HRE.out] at e;have h1:=((HOK.out j s hs).2.lt g hg).2;have h2:=HGD.out;have h3:gd=g:=by simpa [Value.ownBlock] using e
    omega
end
section
open Go.RowKit Go.Shelf
attribute [local go_sem] Oper.semAt_some
theorem Zqs(n:Nat):(madeCells #[Value.int .i64 0] n).toList=iv (Zas n):=by
 have h:=ZeN n;rw[Nat.mul_one] at h;exact h
theorem Zqt(n:Nat):(madeCells #[Value.int .i64 0] n).size=n:=by
 have h:=congrArg List.length (Zqs n);rw[Array.length_toList,Zay,List.length_replicate] at h;exact h
theorem Zgf(w:World)(n g base:Nat)(e:TypeId)(hg:w.heap.size=g)(hb:base<=g)(hn:n<=1048576):(w.alloc (.cells (madeCells #[Value.int .i64 0] n) e)).ownsRow base e 1 (.slice (some ⟨g,0,none⟩) n n) n (iv (Zas n)):=by
 subst hg;rw[<-Zqs];exact World.ownsRow_lit w _ n hb (by unfold maxLen;omega) (by rw[Zqt,Nat.mul_one])
attribute [local go_sem] Oper.semAt_some
theorem Zfr{P:Program}{id:Nat}{Q:Exit->Act->World->Prop}{a:Act}{w:World}{l:List Oper}{r n:Nat}(S:World->Prop)(E M F:List Nat)(hm:P.follows .mixedOrders=true)(hB:ZeC l.toArray E M F=true)(hD:ZlN l.toArray=true)(hS:S w.drew)
  (h:ZbZ P l.toArray S (fun a'=>Zah P l.toArray (NoPanic (ZiY Q)) S (fun a'' w''=>wpList P l.toArray (NoPanic (ZiY Q)) (F.filterMap (l[·]?)) a'' w'') (M.filterMap (l[·]?)) a' w.drew) (E.filterMap (l[·]?)) a):(Code.region id l.toArray true).wpIn (Fence.wide.inRound r) n P Q a w:=by
 simp only[ZeC,YaQ,decide_eq_true_eq] at hB;obtain⟨⟨⟨⟨⟨⟨⟨hsel,hE⟩,hM⟩,hF⟩,hlen⟩,hEs⟩,hMs⟩,hFs⟩:=hB;have h2:=Zdk (P:=P) (md:=.any) (Q:=ZiY Q) (S:=S) (F:=F) (N:=l.toArray.size) (fuel:=M.length+F.length) hsel hS E (E.filterMap (l[·]?)) (Array.replicate l.toArray.size false) a (fun j oj _ hl=>by rw[getD_replicate_false] at hl;cases hl) (Zau E (fun i hi=>by simpa using List.all_eq_true.1 hEs i hi)) hE
  (fun a' h'=>Znd M (M.filterMap (l[·]?)) _ a' _ (Zau M (fun i hi=>by simpa using List.all_eq_true.1 hMs i hi)) (fun a'' w'' h''=>Zf9 F (F.filterMap (l[·]?)) _ a'' w'' (fun _ h=>h) (Zau F (fun i hi=>by simpa using List.all_eq_true.1 hFs i hi)) hF h'') true rfl (fun _=>Zj3 M _ hM) h') h
 rw[hlen] at h2;have h1:=ZiR.any (S:=S) (F:=F) _ _ _ _ h2;refine wpIn_mono (wpIn_region_any hm (Zh8 (ZfH hD) (fun h=>?_) _ _ _ _ h1)) (fun e a w he=>?_)
 ·obtain⟨a,w,h⟩:=h;exact h
 ·cases e<;>first|exact he|exact(he:False).elim
def ZhB{R:Nat}(l y:List Int)(q:Int)(C:Nat)(pre:List (Fin R)):List Int:=pre.foldl (fun acc k=>ZbK acc 0 (Zd6 (Zd0 l C k.val) (y.getD k.val 0) q) C) (Zas C)
theorem Zil{R:Nat}(l y:List Int)(q:Int)(C:Nat)(pre:List (Fin R))(k:Fin R):ZhB l y q C (pre++[k])=ZbK (ZhB l y q C pre) 0 (Zd6 (Zd0 l C k.val) (y.getD k.val 0) q) C:=by
 unfold ZhB;rw[List.foldl_append];rfl
theorem ZfJ{R:Nat}(l y:List Int)(q:Int)(C:Nat)(pre:List (Fin R)):(ZhB l y q C pre).length=C:=by
 have h:∀(pre:List (Fin R)) (acc:List Int),acc.length=C->(pre.foldl (fun acc k=>ZbK acc 0 (Zd6 (Zd0 l C k.val) (y.getD k.val 0) q) C) acc).length=C:=by
  intro pre
  induction pre with
  |nil=>intro acc h;exact h
  |cons k pre ih=>
   intro acc h;rw[List.foldl_cons];exact ih _ (by rw[Zbg];exact h)
 exact h pre (Zas C) (by simp)
theorem Zs2{R C m:Nat}{l y:List Int}{q:Int}(hm:R*C=m)(hl:l.length=m)(hy:y.length=R){c:Nat}(hc:c<C):∀k,k<=R->∃s,(ZhB l y q C ((List.finRange R).take k))[c]?=some s/\Hid (Zl2 q (Zd0 (ZdZ l R C) R c) y=Zl1 q ((Zd0 (ZdZ l R C) R c).drop k) (y.drop k) s):=by
 intro k
 induction k with
 |zero=>
  intro _;refine⟨0,?_,hid rfl⟩;simp[ZhB,List.getElem?_replicate,hc]
 |succ k ih=>
  intro hk;obtain⟨s,h1,h2⟩:=ih (by omega);have hkR:k<R:=by omega
  have hyk:y[k]?=some (y.getD k 0):=by
   rw[YaT,YaA (by omega)];rfl
  have hidx:c*R+k<C*R:=Zp3 c k C R hc hkR;have hrow:(Zd0 (ZdZ l R C) R c)[k]?=some (l.getD (k*C+c) 0):=by
   rw[Zi8 hkR,ZdZ,Zca _ _ _ hidx,ZuG,Zl0 _ _ _ hkR,ZlZ _ _ _ hkR]
  refine⟨_,?_,Zt4 h2 (hid hrow) (hid hyk)⟩;rw[Zi6 hkR,Zil,Zbh,h1];simp only[Option.map_some,Nat.zero_le,Nat.zero_add,hc,and_self,if_true,Nat.sub_zero]
  congr 3
  have hlk:k*C+c<m:=by rw[<-hm];exact Zp3 k c R C hkR hc
  rw[YaT,Zd6,YaR,Zi8 hc,YaT (l:=l),YaA (by omega)];rfl
theorem Zqu{R C m:Nat}{l y:List Int}{q:Int}(hm:R*C=m)(hl:l.length=m)(hy:y.length=R):ZhB l y q C (List.finRange R)=Zig (ZdZ l R C) y q C:=by
 apply List.ext_getElem?
 intro c
 by_cases hc:c<C
 ·obtain⟨s,h1,h2⟩:=Zs2 (q:=q) hm hl hy hc R (YaF _);rw[YaX (by rw[List.length_finRange];exact YaF _)] at h1;have hT:(ZdZ l R C).length=C*R:=ZaD _ _;have hrl:(Zd0 (ZdZ l R C) R c).length=R:=ZbQ rfl hT hc;have e:=Zp4 h2 (hid hrl) (YaF _);rw[h1,Zig,Zca _ _ _ hc,hy,e]
 ·rw[YaN (by rw[ZfJ];omega),YaN (by rw[Zig,ZaD];omega)]
end
