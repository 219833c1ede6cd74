/- Lemmas. -/
import Derived.Test.YtkmaeipoaoikpaaGreatEC06
namespace Go.Proofs.YtkmaeipoaoikpaaGreat
set_option linter.all false
set_option maxRecDepth 100000
set_option maxHeartbeats 4000000
open Lib (hid)
open Tryz
section
open Go.RowKit
theorem Zs8(r q n:Nat)(w:World)(hr:1<=r/\r<=1048576)(hq:1<=q/\q<=1048576)(hn:n<=1048576)(he:r*q=n) :
  Calls prog 218 #[.int .i64 r,.int .i64 q] w (ZuS w r q n):=by
 obtain⟨i0,hi0,q0,q1,q2⟩:=info_parts ZhD.info;have HH':=hid (fun(w0:World) (hw0:w.alloc (.cells #[.int .i64 0,.int .i64 0,.slice none 0 0] 271)=w0)=>(⟨by rw[<-hw0];exact bA0 _,by rw[<-hw0];exact Blk.new _ _ _⟩:Below w.heap.size w w0/\Blk w0 w.heap.size 271 #[.int .i64 0,.int .i64 0,.slice none 0 0]));have C:=fun W=>Zkn r q W
 rw[show decide (Zf9 r q)=true from YaJ ⟨by omega,by omega,by omega,by omega⟩] at C;have HC:=hid C;have he':IntKind.i64.wrap ((r:Int)*(q:Int))=(n:Int):=by rw[<-Int.natCast_mul,he];exact Zga _ (by omega) (by omega)
 have he2:wrap64 ((r:Int)*(q:Int))=(n:Int):=by rw[<-Int.natCast_mul,he];exact Za6 _ (by omega) (by omega)
 have e5:decide ((1048576:Int)<(n:Int))=false:=YaI (by omega);clear C he
 go_enter func218,ntmps218
 go_wp2_with fail;((with_reducible refine(HC.out _).mono ?_);rintro e w1 ⟨rfl,rfl⟩)
 go_wp2_with (at_make;obtain⟨w0,hw0⟩:∃w0,w.alloc (.cells #[.int .i64 0,.int .i64 0,.slice none 0 0] 271)=w0:=⟨_,rfl⟩;rw[hw0];have KD:=hid (HH'.out w0 hw0).1;have SD:=hid (HH'.out w0 hw0).2;clear hw0;go_must (refine wpList_make_full w0 rfl _ _ _ rfl w0.heap.size 2 i0 (.int .i64 0) 1 ZhD.slice hi0 q0 q1 .i64 .i64 _ _ n rfl rfl rfl rfl (by rw[q2];omega) (by unfold maxLen;omega) (YaF _) ?_);go_must (intro w2 hown2 hg2;(have K2:=hid (Below.grown (bR0 w0.heap.size w0) hg2 (YaF _) (by simp)));(have O2:=hid hown2);(have s0:=(SD.out.kept K2.out).cell 0);(have s1:=(SD.out.kept K2.out).cell 1);(have s2:=(SD.out.kept K2.out).cell 2);(have f0:=(SD.out.kept K2.out).frozen 0);(have f1:=(SD.out.kept K2.out).frozen 1);(have f2:=(SD.out.kept K2.out).frozen 2);(have ls:=(SD.out.kept K2.out).lt);clear hown2 hg2))
 have S2:=SD.out.kept K2.out;have hst:=ZxC S2 (.int .i64 r) (.int .i64 q) (.slice (some ⟨w0.heap.size,0,none⟩) n n);have hz:=KD.out.size;have o2:=O2.out;rw[ZeS] at o2;exact bodyPost_ret (v:=.agg #[.int .i64 r,.int .i64 q,.slice (some ⟨w0.heap.size,0,none⟩) n n]) (by simp[results,results218,go_sem,s0,s1,s2,ls]) rfl ⟨_,_,rfl,Zae (o2.kept hst.1 (.inr (Zab o2 S2 (by decide)))) hz,Zai ((Zag.of KD.out).call K2.out).2.2 (YaH hz K2.out.size) hst.1 (YaF _)⟩
end
section
open Go.RowKit Go.Shelf
attribute [local go_sem] Oper.semAt_some
def Zwr(w:World)(r q n:Nat)(l:List Int)(en:Ending)(w':World):Prop:=
 ∃A c,en=.returned (.agg #[.int .i64 r,.int .i64 q,.slice A n c])/\w'.ownsRow w.heap.size 2 1 (.slice A n c) n (iv l)/\Below w.heap.size w w'
def Zku(n:Nat)(F:Nat->Int)(P:Nat->Bool):List Int:=ZcN n fun i=>if P i then F i else 0
theorem ZcZ(n:Nat)(F:Nat->Int)(P:Nat->Bool):(Zku n F P).length=n:=ZaE _ _
theorem Zqu(n:Nat)(F:Nat->Int):Zku n F (fun _=>false)=Zas n:=by
 rw[<-Zow n F];exact Zfw (fun i _=>by simp)
theorem Zs9{n:Nat}{F:Nat->Int}{P:Nat->Bool}(h:∀i,i<n->P i=true):Zku n F P=ZcN n F:=Zfw (fun i hi=>by rw[if_pos (h i hi)])
theorem Zim{n:Nat}{F:Nat->Int}{P Q:Nat->Bool}(h:∀i,i<n->P i=Q i):Zku n F P=Zku n F Q:=Zfw (fun i hi=>by rw[h i hi])
theorem Zta{n:Nat}{F:Nat->Int}{P Q:Nat->Bool}{k:Nat}(h:k<n)(hq:∀i,i<n->Q i=(P i || i==k)):(Zku n F P).set k (F k)=Zku n F Q:=by
 apply List.ext_getElem?
 intro i;rw[List.getElem?_set,ZcZ]
 by_cases hi:i<n
 ·rw[Zku,Zku,Zcc _ _ _ hi,Zcc _ _ _ hi,hq i hi]
  by_cases e:k=i
  ·subst e;simp[h]
  ·have e2:(i==k)=false:=by simp;omega
   rw[if_neg e,e2,Bool.or_false]
 ·rw[YaN (l:=Zku n F P) (by rw[ZcZ];omega),YaN (l:=Zku n F Q) (by rw[ZcZ];omega),if_neg (by omega)]
def ZgK{R:Nat}(m:Nat)(pre:List (Fin R))(i:Nat):Bool:=pre.any fun k=>k.val==i/m
def Zsp{R:Nat}(m:Nat)(pre:List (Fin R))(k c i:Nat):Bool:=ZgK m pre i || (i/m==k && decide (i%m<c))
theorem Zqv{R:Nat}(m:Nat)(pre:List (Fin R))(k i:Nat):Zsp m pre k 0 i=ZgK m pre i:=by simp[Zsp]
theorem Ztb{R m:Nat}(hm:1<=m)(pre:List (Fin R))(k:Fin R)(i:Nat):Zsp m pre k.val m i=ZgK m (pre++[k]) i:=by
 have h:=Nat.mod_lt i (show 0<m by omega);simp[Zsp,ZgK,h]
 congr 1
 exact Bool.eq_iff_iff.2 ⟨fun h=>by simpa using (of_decide_eq_true h).symm,fun h=>by simpa using (of_decide_eq_true h).symm⟩
theorem Zqw{R m:Nat}(hm:1<=m)(pre:List (Fin R))(k c i:Nat)(hc:c<m):Zsp m pre k (c+1) i=(Zsp m pre k c i || i==k*m+c):=by
 have e:(i==k*m+c)=(i/m==k && i%m==c):=by
  rw[Bool.eq_iff_iff];simp only[YaQ,beq_iff_eq]
  constructor
  ·rintro rfl;exact⟨Zl3 k c m hc,Zl4 k c m hc⟩
  ·rintro⟨rfl,rfl⟩;rw[Nat.mul_comm];exact(Nat.div_add_mod i m).symm
 have e2:decide (i%m<c+1)=(decide (i%m<c) || i%m==c):=by
  rw[Bool.eq_iff_iff];simp only[Bool.or_eq_true,beq_iff_eq,decide_eq_true_eq];omega
 rw[e,Zsp,Zsp,e2,Bool.and_or_distrib_left,Bool.or_assoc]
theorem Zqx{R m i:Nat}(h:i<R*m)(hm:1<=m):ZgK m (List.finRange R) i=true:=by
 have h1:i/m<R:=(Nat.div_lt_iff_lt_mul (by omega)).2 h;unfold ZgK;rw[List.any_eq_true];exact⟨⟨i/m,h1⟩,List.mem_finRange _,by simp⟩
theorem ZgL{β:Type}(n₀:Nat)(e:TypeId)(size:Nat)(v:Value)(k:Nat)(f:β->List Value):Own (fun s W=>W.ownsRow n₀ e size v k (f s)):=by
 intro s X Y row hs hg hrow;refine hs.kept hg ?_
 rcases hs.2 with⟨rfl,_⟩|⟨g,cap,cur,rfl,_,hgb,_⟩
 ·exact .inl rfl
 ·refine .inr fun e'=>?_
  obtain⟨o,ho,hc⟩:=hrow g (by rw[<-e'];rfl);rw[hgb] at ho
  cases ho
  cases hc
attribute [local go_sem] Oper.semAt_some
theorem ZcO{w:World}{base:Nat}{e:TypeId}{size g n cap:Nat}{xs:List Value}(h:w.ownsRow base e size (.slice (some ⟨g,0,none⟩) n cap) n xs):∃cur,w.heap[g]?=some (.cells cur e (0,0)):=by
 rcases h.2 with⟨h,_⟩|⟨g',cap',cur,h,_,hgb,_⟩
 ·cases h
 ·cases h
  exact⟨_,hgb⟩
theorem ZoF(n m p:Nat)(A B:Option Addr)(c d:Nat)(ly lx:List Int)(q:Int)(w:World)(hn:1<=n/\n<=1000)(hm:1<=m/\m<=1000)(hp:n*m=p)(hp':1<=p/\p<=1048576)(hly:ly.length=n)(hlx:lx.length=m)
  (h:Rd w 1 A n (iv ly)) (h':Rd w 1 B m (iv lx)) (h1:∀v∈ly,In1 v) (h2:∀v∈lx,In1 v) :
  Calls prog 167 #[.slice A n c,.slice B m d,.int .i64 q] w (Zwr w n m p (Zl2 ly lx q)):=by
 have HC:=hid (fun W=>Zs8 n m p W (by omega) (by omega) hp'.2 hp);have hrt:decide (Zdd n m p)=true:=YaJ ⟨⟨by omega,by omega,by omega,by omega⟩,by rw[<-hp];exact Int.natCast_mul n m⟩;have C2:=fun A c W=>ZeT n m A p c W (by omega)
 rw[hrt] at C2;have HC2:=hid C2;obtain⟨W0,hW0⟩:∃W0,(((w.alloc (.cells #[.slice A n c] 74)).alloc (.cells #[.slice B m d] 74)).alloc (.cells #[.int .i64 q] 3)).alloc (.cells #[.int .i64 0,.int .i64 0,.slice none 0 0] 271)=W0:=⟨_,rfl⟩;have k0:Below w.heap.size w W0:=by rw[<-hW0];exact(((bA0 _).alloc (by simp) _).alloc (by simp<;>omega) _).alloc (by simp<;>omega) _
 have b0:Blk W0 w.heap.size 74 #[.slice A n c]:=by rw[<-hW0];exact(((Blk.new _ _ _).alloc _).alloc _).alloc _
 have b1:Blk W0 (w.heap.size+1) 74 #[.slice B m d]:=by rw[<-hW0];exact((Blk.new' _ _ (by simp)).alloc _).alloc _
 have b2:Blk W0 (w.heap.size+1+1) 3 #[.int .i64 q]:=by rw[<-hW0];exact(Blk.new' _ _ (by simp)).alloc _
 have b3:Blk W0 (w.heap.size+1+1+1) 271 #[.int .i64 0,.int .i64 0,.slice none 0 0]:=by rw[<-hW0];exact Blk.new' _ _ (by simp)
 have a0:W0.cell? ⟨w.heap.size,0,none⟩=some (.slice A n c):=b0.cell 0;have a1:W0.cell? ⟨w.heap.size+1,0,none⟩=some (.slice B m d):=b1.cell 0;have HW:=hid hW0;have HB0:=hid b0;have HB1:=hid b1;have HB2:=hid b2;have HB3:=hid b3;have HK:=hid k0;have HRY:=hid (h.below k0);have HRX:=hid (h'.below k0);have HLY:=hid hly;have HLX:=hid hlx;have HIN:=hid (And.intro h1 h2);have HP:=hid hp;have HN:=hid hn;have HM:=hid hm;clear hW0 b0 b1 b2 b3 k0 hrt C2 h h' hly hlx h1 h2 hp hn hm;refine(callsIn_wide (n:=9)).1 (callsIn_of_wp_marks func167 rfl trivial (wpIn_wide.2 ?_) rfl);simp only[ntmps167,List.size_toArray,List.length_cons,List.length_nil,Nat.reduceAdd,Nat.reduceSub,Array.replicate_succ,Array.replicate_zero,List.push_toArray,List.append_toArray,List.nil_append,List.cons_append];go_wp2_with fail;rw[HW.out];go_wp2_with fail;((with_reducible refine(HC.out _).mono ?_);rintro e w1 ⟨A',c',rfl,hown,hb1⟩);obtain⟨_,_,q1,q2,q3,q6⟩:=ZaG hown;injection q1 with q4 q5 q7
 subst q4 q7;obtain⟨g,rfl,hg0,hg1⟩:=q6 (by omega);have k1:=hid hb1;have HO:=hid hown;clear a0 a1 hb1 hown q6 HW;go_wp2_with fail;obtain⟨W2,hW2⟩:∃W2,w1.alloc (.cells #[.int .i64 n,.int .i64 m,.slice (some ⟨g,0,none⟩) p c'] 271)=W2:=⟨_,rfl⟩;rw[hW2];have k2:Below w1.heap.size w1 W2:=by rw[<-hW2];exact bA0 _
 have o2:Blk W2 w1.heap.size 271 #[.int .i64 n,.int .i64 m,.slice (some ⟨g,0,none⟩) p c']:=by rw[<-hW2];exact Blk.new _ _ _
 clear hW2;((with_reducible refine(HC2.out _ _ _).mono ?_);rintro e w3 ⟨rfl,hb3⟩);have o3:=o2.kept hb3;have k3:Below w1.heap.size w1 w3:=bT0 k2 hb3;have l3:=o3.lt;have y0:w3.cell? ⟨w1.heap.size,0,none⟩=some (.int .i64 n):=o3.cell 0;have y1:w3.cell? ⟨w1.heap.size,1,none⟩=some (.int .i64 m):=o3.cell 1;have y2:w3.cell? ⟨w1.heap.size,2,none⟩=some (.slice (some ⟨g,0,none⟩) p c'):=o3.cell 2;have HO3:=hid o3;have HK3:=hid k3;clear hb3 k2 o2 o3 k3;go_wp2_with fail;((with_reducible refine(Zjb n m _ p c' _).mono ?_);rintro e w4 ⟨rfl,hbm,hb4⟩);clear y0 y1 y2;go_wp2_with fail;have z1:=k1.out.size;have z3:=HK3.out.size;have z4:w3.heap.size<w4.heap.size:=hbm.lt;have K4:Below W0.heap.size W0 w4:=k1.out.trans ((HK3.out.mono z1).trans (hb4.mono (by omega)));have O4:w4.ownsRow W0.heap.size 2 1 (.slice (some ⟨g,0,none⟩) p c') p (iv (Zku p (Zqa ly lx q) (ZgK m ([]:List (Fin n))))):=by
  have e:Zku p (Zqa ly lx q) (ZgK m ([]:List (Fin n)))=Zas p:=Zqu p _;rw[e];exact Zac (Zac HO.out HK3.out) hb4
 have M4:=HO3.out.kept hb4;have hseq:=Zfx (9-1) w3.heap.size n m p c' g 0 (by omega) (by have:=HN.out;omega) HM.out.1 HP.out q2 (by have:=q3;unfold maxLen at this;omega) (fun b=>b=g\/w4.heap.size<=b) (by omega) _ w4 hbm;clear hb4 hbm;refine wpIn_wide.1 (wpIn_rangeFunc_ownH (F:=Fence.wide) (n:=9) rfl (by omega) (gf:=255) (lb:=#[.pointer (some ⟨w3.heap.size,0,none⟩)]) rfl trivial (enters_of func255 (by kernel_rfl) rfl) hseq (fun h k=>h.trans k) (Zno (w:=w4) (fun i hi=>.inr hi)) (bR0 _ _) (fun _=>rfl)
  (fun pre W=>(W.ownsRow W0.heap.size 2 1 (.slice (some ⟨g,0,none⟩) p c') p (iv (Zku p (Zqa ly lx q) (ZgK m pre)))/\Blk W w1.heap.size 271 #[.int .i64 n,.int .i64 m,.slice (some ⟨g,0,none⟩) p c'])/\Below W0.heap.size W0 W)
  (fun _ _ _=>False)
  (OwnFrom.and (OwnFrom.and (Own.from (ZgL W0.heap.size 2 1 (.slice (some ⟨g,0,none⟩) p c') p (fun pre:List (Fin n)=>iv (Zku p (Zqa ly lx q) (ZgK m pre)))) _) (fun _ X Y row hs hg hr=>Blk.turn hs hg hr)) (ownFrom_below (YaF _) K4.size))
  (fun _ _ _ _ _ hs _ _=>hs)
  ⟨⟨O4,M4⟩,K4⟩
  (fun k a' W=>a'={ tmps:=#[.slice A n c,.slice B m d,.int .i64 q,.pointer (some ⟨w.heap.size,0,none⟩),.pointer (some ⟨w.heap.size+1,0,none⟩),.pointer (some ⟨w.heap.size+1+1,0,none⟩),.pointer (some ⟨w.heap.size+1+1+1,0,none⟩),.pointer (some ⟨w1.heap.size,0,none⟩),.int .i64 k.val,.slice (some ⟨g,k.val*m,none⟩) m m,undef,.slice A n c,.int .i64 n,.slice B m d,.int .i64 m,.agg #[.int .i64 n,.int .i64 m,.slice (some ⟨g,0,none⟩) p c'],.agg #[.int .i64 n,.int .i64 m,.slice (some ⟨g,0,none⟩) p c'],.bool true,.bool false,undef,.agg #[.int .i64 n,.int .i64 m,.slice (some ⟨g,0,none⟩) p c'],.func (.func 255) #[] #[.pointer (some ⟨w3.heap.size,0,none⟩)],.int .i64 k.val,.slice (some ⟨g,k.val*m,none⟩) m m,undef,undef,undef,undef,undef,undef,undef,undef,undef,undef,undef,undef,undef,undef,undef,undef,undef,undef,undef,undef],defers:=[] })
  (fun x a' s X Y row hs hg hr=>hs) ?assign ?body ?done ?stop)
 case assign=>
  rintro l' pre k W K hI hK;simp only[Zij]
  gi_wp2_with fail
  exact hK _ _ ((KeepsOthers.refl _).from _) (But.refl _ _) hI rfl
 case body=>
  rintro l' pre k a' W hl3 ⟨r0,hr0⟩ ⟨⟨hown,hblk⟩,hB⟩ rfl hlt;obtain⟨b0,hb0⟩:∃b0,k.val*m=b0:=⟨_,rfl⟩;obtain⟨kv,hkv⟩:∃kv,k.val=kv:=⟨_,rfl⟩;have hkn:kv<n:=by rw[<-hkv];exact k.isLt
  rw[hb0,hkv];have HB0':=hid hb0;have HKV:=hid hkv;have HOW:=hid hown;have HBK:=hid hblk;have HBB:=hid hB;have hmm:=HM.out;have hnn:=HN.out;clear hb0 hkv hown hblk hB hl3 hr0 hlt O4 M4 K4 hseq
  gi_wp2_with fail
  gi_loopw [26] (fun i wr=>∃j:Nat,j<=m/\i=.int .i64 j/\wr.ownsRow W0.heap.size 2 1 (.slice (some ⟨g,0,none⟩) p c') p (iv (Zku p (Zqa ly lx q) (Zsp m pre k.val j)))/\W.grownBy wr (some g)) (fun i _=>m-(intOf i).toNat)
  case atStart=>exact⟨0,by omega,rfl,by rw[Zim (fun i _=>Zqv m pre k.val i)];exact HOW.out,World.grownBy.refl _ _⟩
  case round=>
   obtain⟨j,hj,rfl,ho,hg⟩:=hrel
   by_cases hlt:j<m
   ·have hBr:Below W0.heap.size W0 wr:=Zai HBB.out HBB.out.size hg hg0;obtain⟨gy,oy,y,rfl,hbly,hy,cy⟩:=Zb9 HLY.out (HRY.out.below hBr) hkn;obtain⟨gx,ox,x,rfl,hblx,hx,cx⟩:=Zb9 HLX.out (HRX.out.below hBr) hlt;have x0:wr.cell? ⟨w.heap.size,0,none⟩=some (.slice (some ⟨gy,oy,none⟩) n c):=(HB0.out.kept hBr).cell 0;have x1:wr.cell? ⟨w.heap.size+1,0,none⟩=some (.slice (some ⟨gx,ox,none⟩) m d):=(HB1.out.kept hBr).cell 0;have x2:wr.cell? ⟨w.heap.size+1+1,0,none⟩=some (.int .i64 q):=(HB2.out.kept hBr).cell 0;have l0:=(HB0.out.kept hBr).lt;have l1:=(HB1.out.kept hBr).lt;have l2:=(HB2.out.kept hBr).lt;have HMU:=hid (fun W=>ZeR y x q W (HIN.out.1 y (YaL hy)) (HIN.out.2 x (YaL hx)));have HOO:=hid ho;have HG:=hid hg;have HY:=hid hy;have HX:=hid hx;have i0:(0:Int)<=(kv:Int):=by omega
    have i1:(kv:Int)<(n:Int):=by omega
    have i2:(0:Int)<=(j:Int):=by omega
    have i3:(j:Int)<(m:Int):=by omega
    clear ho hg hBr hy hx
    gi_wp2_with fail
    refine Zf6 wr [] [0,1,2,3,4,5,6,7,8,9,10,11,12] 13 [] (by kernel_rfl) (by kernel_rfl) (by kernel_rfl) (by kernel_rfl) (Zag.of (bR0 _ _)) ?_;simp only[Zdn,YaO,YaP,YaB,YaC];go_simp;change wpQuiet _ _ _ _ (_::_::_::_::_::_::_::_::_::_::_::_::_::[]) _;have KC:=fun(u:KW wr) b o h=>KW.cells u b o h
    iterate 13 (go_big_quiet_step (first|(go_at_call 205;(with_reducible exact ZbE (HMU.out _)))))
    refine wpQuiet_nil ?_;rintro⟨w5,k5⟩;change wpList _ _ _ (_::[]) _ _;dsimp only;clear KC;have hO5:=Zac HOO.out k5.2.2;have hlp:b0+j<p:=by rw[<-HB0'.out,<-HP.out];exact Zqb k.val j n m k.isLt hlt
    obtain⟨u,hu⟩:∃u,w5.cell? ⟨g,b0+j,none⟩=some u:=by
     rw[hO5.cellAt (b0+j) (by omega),Zke _ _ (by rw[ZcZ];exact hlp)];exact⟨_,rfl⟩
    have fu:=hO5.frozenAt (b0+j);have hlg:g<w5.heap.size:=(hO5.lt g rfl).2;have hst:=hO5.stored (b0+j) (.int .i64 (Zeb y x q));have HS:=hid hst;have HK5:=hid k5.2.2;have hF:Zqa ly lx q (b0+j)=Zeb y x q:=by
     rw[Zqa,HLX.out,<-HB0'.out,Zl3 _ _ _ hlt,Zl4 _ _ _ hlt,HKV.out,YaT,HY.out,YaT,HX.out];rfl
    have HF:=hid hF;have HLP:=hid hlp;clear hst k5 hO5 hF hlp x0 x1 x2 cy cx;go_wp2_with fail;refine NoPanic.normal (Zi2.normal ?_)
    gi_wp2
    go_roundw
    case rel=>
     refine⟨j+1,by omega,by go_num,?_,(ZaC HK5.out HS.out.2 |> fun h=>World.grownBy.trans HG.out h)⟩;have h3:=HS.out.1;rw[Zcv,<-HF.out,Zta (Q:=Zsp m pre k.val (j+1)) HLP.out (fun i _=>by rw[<-HB0'.out];exact Zqw hmm.1 pre k.val j i hlt),HF.out] at h3;exact h3
    case measure=>simp[intOf];omega
   ·obtain rfl:j=m:=by omega
    gi_wp2
    refine⟨(KeepsOthers.of_grownBy hg (fun a o e ha=>?_)).from _,But.of_gr hg (.inl rfl),⟨?_,HBK.out.grown hg ?_⟩,Zai HBB.out HBB.out.size hg hg0⟩
    ·cases e
     obtain⟨cur,hcur⟩:=ZcO HOW.out;rw[hcur] at ha
     cases ha
     rfl
    ·rw[Zim (fun i _=>Ztb hmm.1 pre k i)] at ho;exact ho
    ·intro e;injection e with e
     omega
 case done=>
  rintro D ys W hD rfl ⟨⟨hown,hblk⟩,hB⟩ hK;have hc0:W.cell? ⟨w1.heap.size,0,none⟩=some (.int .i64 n):=hblk.cell 0;have hc1:W.cell? ⟨w1.heap.size,1,none⟩=some (.int .i64 m):=hblk.cell 1;have hc2:W.cell? ⟨w1.heap.size,2,none⟩=some (.slice (some ⟨g,0,none⟩) p c'):=hblk.cell 2;have hlw:=hblk.lt;have m3:=HB3.out.kept hB;have t0:W.cell? ⟨w.heap.size+1+1+1,0,none⟩=some (.int .i64 0):=m3.cell 0;have t1:W.cell? ⟨w.heap.size+1+1+1,1,none⟩=some (.int .i64 0):=m3.cell 1;have t2:W.cell? ⟨w.heap.size+1+1+1,2,none⟩=some (.slice none 0 0):=m3.cell 2;have g0:=m3.frozen 0;have g1:=m3.frozen 1;have g2:=m3.frozen 2;have l3':=m3.lt;have HM3:=hid m3;have HOW:=hid hown;have HBB:=hid hB;clear hown hB m3 hseq;go_wp2_with fail;have hst:=ZxC HM3.out (.int .i64 n) (.int .i64 m) (.slice (some ⟨g,0,none⟩) p c');have hDw:w.heap.size+1+1+1<w4.heap.size:=by have:=HB3.out.lt;omega
  have hK5:(((W.setCell ⟨w.heap.size+1+1+1,0,none⟩ (.int .i64 n)).setCell ⟨w.heap.size+1+1+1,1,none⟩ (.int .i64 m)).setCell ⟨w.heap.size+1+1+1,2,none⟩ (.slice (some ⟨g,0,none⟩) p c')).heap[D]?=some (.deferred (some [])):=by
   rw[heap_setCell_other _ _ _ _ (by simp;omega),heap_setCell_other _ _ _ _ (by simp;omega),heap_setCell_other _ _ _ _ (by simp;omega)];exact hK
  obtain⟨W5,hW5⟩:∃W5,((W.setCell ⟨w.heap.size+1+1+1,0,none⟩ (.int .i64 n)).setCell ⟨w.heap.size+1+1+1,1,none⟩ (.int .i64 m)).setCell ⟨w.heap.size+1+1+1,2,none⟩ (.slice (some ⟨g,0,none⟩) p c')=W5:=⟨_,rfl⟩;rw[hW5] at hst hK5 ⊢;refine⟨by simp,.inl ⟨_,_,rfl,run_takeDeferred hK5,?_⟩⟩;have hg5:W5.grownBy (W5.putObj D (.deferred none)) (some D):=grownBy_putObj' W5 D (.deferred none);have hb6:Blk (W5.putObj D (.deferred none)) (w.heap.size+1+1+1) 271 #[.int .i64 n,.int .i64 m,.slice (some ⟨g,0,none⟩) p c']:=hst.2.grown hg5 (by simp;omega);have hz:=HK.out.size;have ho5:=HOW.out.kept hst.1 (.inr (Zab HOW.out HM3.out (by decide)));have ho6:=ownsRow_putObj ho5 (.deferred none) hK5 rfl;have e:Zku p (Zqa ly lx q) (ZgK m (List.finRange n))=Zl2 ly lx q:=by
   rw[Zl2,HLY.out,HLX.out,HP.out];exact Zs9 (fun i hi=>Zqx (by rw[HP.out];exact hi) HM.out.1)
  rw[e] at ho6;exact⟨_,results_cell_row rfl _ _ _ _ _ _ _ rfl hb6 underlying271 rfl (by kernel_rfl),_,_,rfl,Zae ho6 hz,(Zai ((Zag.of HK.out).call HBB.out).2.2 (YaH hz HBB.out.size) hst.1 (by omega)).trans ((bR0 _ _).grown hg5 (YaH (YaH hz HBB.out.size) hst.1.size) (fun k e=>by cases e;omega))⟩
 case stop=>
  rintro D c pre W _ _ h _;exact h.elim
end
section
open Go.RowKit
theorem Zin{w:World}{base n k c:Nat}{A:Option Addr}{l:List Int}{ls:List StS}{s:StS}(h:w.ownsRow base 275 4 (.slice A n c) n (lkV l ls))(hx:ls[k]?=some s)(hk:k<n) :
  ∃b,A=some ⟨b,0,none⟩/\b<w.heap.size/\∀j,j<4->w.cell? ⟨b,k*4+j,none⟩=(lkE l k s)[j]?:=by
 obtain⟨b,o,e',hlt,hc⟩:=(Rd.of_own h).2 (by omega);obtain⟨A',cap',hv,_,_,hg⟩:=ZaG h;injection hv with hA _ _
 obtain⟨g,hg1,_,_⟩:=hg (by omega);rw[hA,hg1] at e';injection e' with e'
 injection e' with e1 e2
 subst e1 e2;refine⟨g,by rw[hA,hg1],hlt,fun j hj=>?_⟩;have h2:=Zu1 l ls k j s hj hx;have hj':j<(lkE l k s).length:=hj;rw[YaA hj'] at h2 ⊢;have:=hc _ _ h2
 rwa [Nat.zero_add] at this
theorem Zdw{w:World}{base n k c:Nat}{A:Option Addr}{ss:List Zer}{s:Zer}{e:TypeId}(h:w.ownsRow base e 1 (.slice A n c) n (ss.map slv))(hx:ss[k]?=some s)(hk:k<n) :
  ∃b,A=some ⟨b,0,none⟩/\b<w.heap.size/\w.cell? ⟨b,k,none⟩=some (slv s):=by
 obtain⟨b,o,e',hlt,hc⟩:=(Rd.of_own h).2 (by omega);obtain⟨A',cap',hv,_,_,hg⟩:=ZaG h;injection hv with hA _ _
 obtain⟨g,hg1,_,_⟩:=hg (by omega);rw[hA,hg1] at e';injection e' with e'
 injection e' with e1 e2
 subst e1 e2;refine⟨g,by rw[hA,hg1],hlt,?_⟩;have:=hc k (slv s) (by simp[hx])
 rwa [Nat.zero_add] at this
theorem Zio{w:World}{base g n size:Nat}{e:TypeId}{cs:Array Value}(h:Blk w g e cs)(hb:base<=g)(hs:cs.size=n*size)(hn:n<=maxLen):w.ownsRow base e size (.slice (some ⟨g,0,none⟩) n n) n cs.toList:=
 ⟨by rw[Array.length_toList];exact hs,.inr ⟨g,n,cs,rfl,hb,h,YaF _,hn,hs,by rw[<-hs,<-Array.length_toList,List.take_length]⟩⟩
theorem Zkv(nb:Nat)(l:List Int)(n NP:Nat)(P:List Int)(q:Int)(x:List Int)(X:Option Addr)(N c:Nat)(w:World)(hN:NetP l n NP P q)(hA:Zs3 w nb l n NP P q)(hxl:x.length=N)(hx:Rd w 1 X N (iv x))(hxN:N=szN l 0)(hxi:Zaw x) :
  Calls prog 203 #[.pointer (some ⟨nb,0,none⟩),.slice X N c] w (Zs7 l n P q x w):=by
 obtain⟨base,bs,Ap,cp,Al,cl,ls,lb0,hA⟩:=hA;obtain⟨m,hm⟩:∃m,n-1=m:=⟨_,rfl⟩;have hn2:=hN.n2;have hn16:=hN.n16;have hNP:=hN.np;have hpl:=hN.pl;have hs0:=hN.sz (show 0<n by omega);rw[<-hxN] at hs0;have b0:w.cell? ⟨nb,0,none⟩=some (.pointer (some ⟨bs,0,none⟩)):=hA.blk.cell 0;have lb:=hA.blk.lt;have HC1:=hid (Zea base bs n l w hA.shp hN.len (by omega));have HC2:=hid (fun W (k:Below w.heap.size w W)=>Za1 X N c x W hxl (hx.below k) (by omega));have HN:=hid hN;have HA:=hid hA;have HM:=hid hm;have HXL:=hid hxl;have HXI:=hid hxi;have HXN:=hid hxN;clear hN hA hx hm hxl hxi hxN
 go_enter func203,ntmps203
 go_wp2_with fail;((with_reducible refine HC1.out.mono ?_);rintro e w1 ⟨A1,c1,rfl,ho1,hb1⟩);obtain⟨g1,o1,rfl,lg1,hc1⟩:=(Rd.of_own ho1).2 (by omega);have a0:w1.cell? ⟨g1,o1,none⟩=some (.int .i64 N):=by
  have:=hc1 0 (.int .i64 N) (by rw[iv,YaR,hs0.1];rfl)
  rwa [Nat.add_zero] at this
 have HB1:=hid hb1;have e3:((N:Int) !=(N:Int))=false:=by simp
 have i0:(0:Int)<(n:Int):=by omega
 clear ho1 hb1 hc1 b0;go_wp2_with fail;((with_reducible refine(HC2.out w1 HB1.out).mono ?_);rintro e w2 ⟨A2,c2,rfl,ho2,hb2⟩);obtain⟨w3,hw3⟩:∃w3,(w2.alloc (.cells #[.slice A2 N c2] 74)).alloc (.cells #[.slice (some ⟨w2.heap.size,0,none⟩) 1 1] 276)=w3:=⟨_,rfl⟩;obtain⟨tb,htb⟩:∃tb,w2.heap.size+1=tb:=⟨_,rfl⟩;have hB2:Below w.heap.size w w2:=bT0 HB1.out hb2;have hB3:Below w.heap.size w w3:=by rw[<-hw3];exact(hB2.alloc hB2.size _).alloc (by simp;have:=hB2.size;omega) _
 have hR3:Blk w3 w2.heap.size 74 #[.slice A2 N c2]:=by rw[<-hw3];exact(Blk.new _ _ _).alloc _
 have hT3:Blk w3 tb 276 #[.slice (some ⟨w2.heap.size,0,none⟩) 1 1]:=by rw[<-hw3];exact Blk.new' _ _ (by simp[htb])
 have hX3:w3.ownsRow w.heap.size 2 1 (.slice A2 N c2) N (iv x):=by rw[<-hw3];exact Zae (((ho2.alloc _).alloc _)) HB1.out.size
 have HWE:=hid hw3;have HTE:=hid htb;have HB3:=hid hB3;have HT3:=hid hT3;have HR3:Hid (w3.ownsRow w.heap.size 74 1 (.slice (some ⟨w2.heap.size,0,none⟩) 1 1) 1 ([((A2,N,c2):Zer)].map slv)):=hid (Zio hR3 hB2.size rfl (by unfold maxLen;omega));have HX3:=hid hX3;have HTB:=hid (show w.heap.size<=tb by rw[<-htb];have:=hB2.size;omega);have hA3:=HA.out.below hB3;have b3:w3.cell? ⟨nb,3,none⟩=some (.slice Al m cl):=by have:=hA3.blk.cell 3;rw[HM.out] at this;exact this
 have lb3:=hA3.blk.lt;have HQ3:Hid (w2.cell? ⟨nb,3,none⟩=some (.slice Al m cl)):=hid (by have:=(HA.out.below hB2).blk.cell 3;rw[HM.out] at this;exact this);have b3':=HQ3.out;have lb2:=(HA.out.below hB2).blk.lt;clear hw3 htb hB2 hB3 hR3 hT3 hX3 hA3 ho2 hb2;go_wp2_with fail;rw[HWE.out,HTE.out];clear b3' lb2 HQ3 HWE b3 lb3 a0 lg1 i0
 go_loopw [37] (fun v wr=>∃(k:Nat) (A:Option Addr) (c:Nat) (ss:List Zer),k<=m/\v=.int .i64 k/\Blk wr tb 276 #[.slice A (k+1) c]/\wr.ownsRow w.heap.size 74 1 (.slice A (k+1) c) (k+1) (ss.map slv)/\ss.length=k+1/\Zny wr w.heap.size l (trN l n P q x) ss/\Below w.heap.size w wr) (fun v _=>m-(intOf v).toNat)
 case atStart=>
  refine⟨0,some ⟨w2.heap.size,0,none⟩,1,[(A2,N,c2)],by omega,rfl,HT3.out,HR3.out,rfl,fun j s hs=>?_,HB3.out⟩;have hj:j<[((A2,N,c2):Zer)].length:=(YaG.1 hs).1;obtain rfl:j=0:=by simpa using hj
  simp at hs;subst hs;exact⟨HXN.out,by rw[<-HXN.out];exact HX3.out⟩
 case round=>
  obtain⟨wo,rfl⟩:∃wo,wo=wr:=⟨_,rfl⟩;obtain⟨k,A,c2,ss,hk,rfl,hT,hR,hsl,hOK,hB⟩:=hrel
  by_cases hlt:k<m
  ·have HT:=hid hT;have HR:=hid hR;have HSL:=hid hsl;have HOK:=hid hOK;have HB:=hid hB;have HLT:=hid hlt;have hmn:=HM.out;have hRR:=HN.out.sz (show k+1<n by omega);have hCC:=HN.out.sz (show k<n by omega);have hfit:=HN.out.fit (show k<n-1 by omega);obtain⟨R,hRe⟩:∃R,szN l (k+1)=R:=⟨_,rfl⟩;obtain⟨C,hCe⟩:∃C,szN l k=C:=⟨_,rfl⟩;obtain⟨M,hMe⟩:∃M,R*C=M:=⟨_,rfl⟩;rw[hRe] at hRR hfit;rw[hCe] at hCC;have hM1:1<=M:=by rw[<-hMe];exact Nat.mul_pos hRR.2.1 hCC.2.1
   have hMNP:M<=NP:=by
    have:obN l k=ofN l k+szN l (k+1)*szN l k:=rfl;rw[hRe,hCe,hMe] at this;omega
   obtain⟨⟨AV,cV,Ab,cb⟩,hsk⟩:∃s,ls[k]?=some s:=⟨_,YaA (by rw[HA.out.len];omega)⟩;obtain⟨hwt,hAb,hcb⟩:=HA.out.wts k _ hsk;dsimp only at hwt hAb hcb;rw[hRe,hCe,hMe] at hwt;obtain⟨gw,rfl⟩:=Zbw hwt (by omega);obtain⟨gl,hgl,lgl,hcl⟩:=Zin (Zac HA.out.lrow hB) hsk (by omega);subst hgl;have hle:lkE l k (some ⟨gw,0,none⟩,cV,Ab,cb)=[.int .i64 R,.int .i64 C,.slice (some ⟨gw,0,none⟩) M cV,.slice Ab R cb]:=by rw[<-hMe,<-hRe,<-hCe];rfl
   rw[hle] at hcl;have l0:wo.cell? ⟨gl,k*4,none⟩=some (.int .i64 R):=hcl 0 (by omega);have l1:wo.cell? ⟨gl,k*4+1,none⟩=some (.int .i64 C):=hcl 1 (by omega);have l2:wo.cell? ⟨gl,k*4+2,none⟩=some (.slice (some ⟨gw,0,none⟩) M cV):=hcl 2 (by omega);have l3:wo.cell? ⟨gl,k*4+3,none⟩=some (.slice Ab R cb):=hcl 3 (by omega);have j1:(0:Int)<=(k:Int):=by omega
   have j2:(k:Int)<(m:Int):=by omega
   have HGW:=hid hwt;have HAB:=hid hAb;have HRR:Hid (szN l (k+1)=R):=hid hRe;have HCC:Hid (szN l k=C):=hid hCe;have HMM:=hid hMe;have HBF:=hid hfit;clear hT hR hsl hOK hB hwt hAb hcb hcl hle hsk hRe hCe hMe hfit;go_wp2_with fail;obtain⟨w5,hw5⟩:∃w5,wo.alloc (.cells #[.int .i64 R,.int .i64 C,.slice (some ⟨gw,0,none⟩) M cV,.slice Ab R cb] 275)=w5:=⟨_,rfl⟩;obtain⟨lb9,hlb9⟩:∃lb9,wo.heap.size=lb9:=⟨_,rfl⟩;have hb5:Below wo.heap.size wo w5:=by rw[<-hw5];exact bA0 _
   have hk5:Blk w5 lb9 275 #[.int .i64 R,.int .i64 C,.slice (some ⟨gw,0,none⟩) M cV,.slice Ab R cb]:=by rw[<-hw5];exact Blk.new' _ _ hlb9
   rw[hw5,hlb9];have HB5:=hid (bT0 HB.out hb5);have HT5:=hid (HT.out.kept hb5);have HR5:=hid (Zac HR.out hb5);have HOK5:=hid (HOK.out.below hb5);have HK5:=hid hk5;have HLB:=hid (show w.heap.size<=lb9 by rw[<-hlb9];exact HB.out.size);clear hw5 hlb9 hb5 hk5 HB HT HR HOK l0 l1 l2 l3 j1 j2 lgl;have v0:=HK5.out.cell 0;have v1:=HK5.out.cell 1;have v2:=HK5.out.cell 2;have v3:=HK5.out.cell 3;have lk5:=HK5.out.lt;have t0:=HT5.out.cell 0;have lt5:=HT5.out.lt;obtain⟨⟨Ak,nk,ck⟩,hsk⟩:∃s,ss[k]?=some s:=⟨_,YaA (by have:=HSL.out;omega)⟩;obtain⟨hnk,hok⟩:=HOK5.out k _ hsk;dsimp only at hnk;rw[HCC.out] at hnk hok;subst hnk;obtain⟨gr,hgr,lgr,hcr⟩:=Zdw HR5.out hsk (by omega);subst hgr;have hcr':w5.cell? ⟨gr,k,none⟩=some (.slice Ak nk ck):=hcr;have b2:w5.cell? ⟨nb,2,none⟩=some (.int .i64 q):=(HA.out.below HB5.out).blk.cell 2;have lb5:=(HA.out.below HB5.out).blk.lt;have j1:(0:Int)<=(k:Int):=by omega
   have j2:(k:Int)<((k+1:Nat):Int):=by omega
   have j3:(k:Int)<(k:Int)+1:=by omega
   have HXK:=hid hok;have HMU:=hid (fun W (kk:Zag w5 W)=>ZsU R nk M cV gw 0 Ak ck (wtL l P k) (trN l n P q x k) q W ⟨by omega,by omega⟩ ⟨by omega,by omega⟩ HMM.out (by omega) (Zdu HGW.out) (by have:=ZaG HGW.out;obtain⟨_,_,hv,_,h2,_⟩:=this;injection hv with _ _ h3;rw[h3];unfold maxLen at h2;omega) (by have:=HGW.out.1;rw[Zay] at this;omega) (by have:=HXK.out.1;rw[Zay] at this;omega) (Rd.of_own (Zac (Zac HGW.out HB5.out) kk.2.2)) (Rd.of_own (Zac HXK.out kk.2.2)) (fun v hv=>HN.out.pin v (List.mem_of_mem_drop (List.mem_of_mem_take hv))) (Zqt HXI.out k));have KS:Zag w5 w5.drew:=Zag.start w5;clear hok hsk hcr
   go_region_held3 (fun w'=>Zag w5 w') (first|exact kk|exact KS) (first
    | (go_at_call 247;(with_reducible refine(HMU.out _ KS).mono ?_);rintro e w6 ⟨Az,cz,rfl,hoz,hb6⟩;have kk:Zag w5 w6:=KS.call hb6;have HKK:=hid kk;have HOZ:=hid hoz;clear hoz hb6))
   obtain⟨gz,rfl⟩:=Zbw HOZ.out (by omega);have hgz:w5.heap.size<=gz:=(HOZ.out.lt gz rfl).1;have HGZ:=hid hgz;have HB6:=hid (bT0 HB5.out kk.2.2);have u3:=(HK5.out.kept kk.2.2).cell 3;have lu:=(HK5.out.kept kk.2.2).lt;have hbs:Rd w6 1 Ab R (iv (bsL l P k)):=by
    have h1:=ZsQ (e:=obN l k) (k:=R) (Zac HA.out.prow HB6.out) hpl (by have:=HBF.out;omega);rw[HAB.out];unfold bsL;rw[HRR.out];exact h1
   have hbl:(bsL l P k).length=R:=by unfold bsL;rw[HRR.out,List.length_take,List.length_drop,hpl];have:=HBF.out;omega
   have hne:∀b o',Ab=some ⟨b,o',none⟩->0<R->b≠gz:=by
    intro b o' hb h0 e;obtain⟨gp,hgp,hp⟩:=Zp8 (e:=obN l k) (k:=R) HA.out.prow (by omega) (by have:=HBF.out;omega);rw[HAB.out,hp] at hb;injection hb with hb
    injection hb with hb
    have h1:=(HA.out.prow.lt gp (by rw[hgp];rfl)).2;have h2:=HB5.out.size;omega
   have HZL:Hid ((Zik (wtL l P k) (trN l n P q x k) q R).length=R):=hid (by rw[Zik,ZaE]);have HAD:=hid (Zi8 (some ⟨gz,0,none⟩) Ab gz 0 R cz cb R cz w5.heap.size (Zik (wtL l P k) (trN l n P q x k) q R) (bsL l P k) w6 (fun _=>rfl) (by omega) (by omega) HZL.out hbl HOZ.out hbs hne);clear v0 v1 v2 v3 lk5 t0 lt5 b2 lb5 hcr' lgr j1 j2 j3 KS hgz kk hbs hbl hne HMU;go_wp2_with fail;((with_reducible refine HAD.out.mono ?_);rintro e w7 ⟨rfl,hz7,hg7⟩);have hb67:Below w5.heap.size w6 w7:=Zai (bR0 _ _) HKK.out.2.1 hg7 HGZ.out;have hb57:Below w5.heap.size w5 w7:=HKK.out.2.2.trans hb67;have hlz:ZpB l P q k (trN l n P q x k)=ZbM (Zik (wtL l P k) (trN l n P q x k) q R) 0 (bsL l P k) R:=by unfold ZpB;rw[HRR.out]
   rw[<-hlz] at hz7;obtain⟨Z,hZ⟩:∃Z,ZpB l P q k (trN l n P q x k)=Z:=⟨_,rfl⟩;rw[hZ] at hz7;have HZE:=hid hZ;have HZ7:=hid hz7;have HB57:=hid hb57;have HZLE:Hid (Z.length=R):=hid (by have:=hz7.1;rw[Zay] at this;omega);have b7:w7.cell? ⟨nb,3,none⟩=some (.slice (some ⟨gl,0,none⟩) m cl):=by have:=(HA.out.below (bT0 HB5.out hb57)).blk.cell 3;rw[HM.out] at this;exact this
   have lb7:=(HA.out.below (bT0 HB5.out hb57)).blk.lt;have hkw:IntKind.i64.wrap ((k:Int)+1)=((k+1:Nat):Int):=by rw[show (k:Int)+1=((k+1:Nat):Int) by omega];exact IntWalk.i64_in _ (by omega)
   clear hz7 hb67 hb57 hlz hZ u3 lu hg7 HAD
   by_cases hlast:k+1<m
   ·have e5:decide ((k:Int)+1<(m:Int))=true:=YaJ (by omega);go_wp2_with fail;clear b7 lb7 e5
    go_loopw [70] (fun v wi=>∃i:Nat,i<=R/\v=.int .i64 i/\wi.ownsRow w5.heap.size 2 1 (.slice (some ⟨gz,0,none⟩) R cz) R (iv (Zdv Z i))/\Below w5.heap.size w5 wi) (fun v _=>R-(intOf v).toNat)
    case atStart=>exact⟨0,by omega,rfl,by rw[Zmi];exact HZ7.out,HB57.out⟩
    case round=>
     obtain⟨i,hi,rfl,hz,hb⟩:=hrel
     by_cases hir:i<R
     ·obtain⟨v,hv⟩:∃v,Z[i]?=some v:=⟨_,YaA (by rw[HZLE.out];exact hir)⟩;have hcv:wr.cell? ⟨gz,i,none⟩=some (.int .i64 v):=(hz.cellAt i (by omega)).trans (by rw[iv,YaR,ZoD hv];rfl);obtain⟨cur,hcur⟩:=ZcO hz;have fz:wr.frozen? ⟨gz,i,none⟩=false:=by simp[World.frozen?,hcur]
      have lz:gz<wr.heap.size:=(hz.lt gz rfl).2;have h1:=hz.stored i (.int .i64 (Zb4 v v));rw[Zcv,ZoE hv] at h1;have HZ8:=hid h1.1;have HB8:=hid (Zai hb hb.size h1.2 HGZ.out);have HRE:=hid (Zs4 v wr);have r1:(0:Int)<=(i:Int):=by omega
      have r2:(i:Int)<(R:Int):=by omega
      have HIR:=hid hir;clear hz hb hv hcur h1;go_wp2_with fail;((with_reducible refine HRE.out.mono ?_);rintro e w8 ⟨rfl,hw8⟩);subst hw8;go_wp2_with fail
      go_roundw
      case rel=>exact⟨i+1,HIR.out,by go_num,HZ8.out,HB8.out⟩
      case measure=>simp[intOf];have:=HIR.out;omega
     ·obtain rfl:i=R:=by omega
      have HZ9:Hid (wr.ownsRow w.heap.size 2 1 (.slice (some ⟨gz,0,none⟩) i cz) i (iv (trN l n P q x (k+1)))):=hid (by
       rw[trN,Zs6,if_pos (by rw[HM.out];exact hlast),HZE.out,<-ZoC Z i (by rw[HZLE.out];exact YaF _)];exact Zae hz HB5.out.size)
      have HB9:=hid (bT0 HB5.out hb);have HT9:=hid (HT5.out.kept hb);have HR9:=hid (Zac HR5.out hb);have HOK9:=hid (HOK5.out.below hb);clear hz hb;go_wp2_with fail;((with_reducible refine(Zkt tb w.heap.size (k+1) c2 (some ⟨gr,0,none⟩) ss (some ⟨gz,0,none⟩,i,cz) wr HT9.out HR9.out (by omega) HB9.out.size).mono ?_);rintro e wb ⟨rfl,A',c',ht,hr,hst,hsz,hbb⟩);have HTb:=hid ht;have HRb:=hid hr;have HBb:=hid (HB9.out.trans (hbb w.heap.size (YaF _) HTB.out));have HOb:=hid ((HOK9.out.snoc HSL.out (by rw[HRR.out];exact HZ9.out)).stay hst hsz (by decide) (by decide));clear ht hr hst hsz hbb;go_wp2_with fail
      go_roundw
      case rel=>
       refine⟨k+1,A',c',ss++[(some ⟨gz,0,none⟩,i,cz)],HLT.out,by go_num,HTb.out,HRb.out,by simp[HSL.out],?_,HBb.out⟩;rw[<-HRR.out];exact HOb.out
      case measure=>simp[intOf];have:=HLT.out;omega
   ·have e5:decide ((k:Int)+1<(m:Int))=false:=YaI (by omega);have HZ9:Hid (w7.ownsRow w.heap.size 2 1 (.slice (some ⟨gz,0,none⟩) R cz) R (iv (trN l n P q x (k+1)))):=hid (by
     rw[trN,Zs6,if_neg (by rw[HM.out];exact hlast),HZE.out];exact Zae HZ7.out HB5.out.size)
    have HB9:=hid (bT0 HB5.out HB57.out);have HT9:=hid (HT5.out.kept HB57.out);have HR9:=hid (Zac HR5.out HB57.out);have HOK9:=hid (HOK5.out.below HB57.out);go_wp2_with fail;((with_reducible refine(Zkt tb w.heap.size (k+1) c2 (some ⟨gr,0,none⟩) ss (some ⟨gz,0,none⟩,R,cz) w7 HT9.out HR9.out (by omega) HB9.out.size).mono ?_);rintro e wb ⟨rfl,A',c',ht,hr,hst,hsz,hbb⟩);have HTb:=hid ht;have HRb:=hid hr;have HBb:=hid (HB9.out.trans (hbb w.heap.size (YaF _) HTB.out));have HOb:=hid ((HOK9.out.snoc HSL.out (by rw[HRR.out];exact HZ9.out)).stay hst hsz (by decide) (by decide));clear ht hr hst hsz hbb;go_wp2_with fail
    go_roundw
    case rel=>
     refine⟨k+1,A',c',ss++[(some ⟨gz,0,none⟩,R,cz)],HLT.out,by go_num,HTb.out,HRb.out,by simp[HSL.out],?_,HBb.out⟩;rw[<-HRR.out];exact HOb.out
    case measure=>simp[intOf];have:=HLT.out;omega
  ·obtain rfl:k=m:=by omega
   have HR:=hid hR;have HSL:=hid hsl;have HOK:=hid hOK;have HB:=hid hB;have t0:=hT.cell 0;have lt0:=hT.lt;clear hT hR hsl hOK hB;go_wp2_with fail
   go_ret2
   have hmn:n=k+1:=by have:=HM.out;omega
   refine⟨A,c2,ss,by rw[hmn];rfl,by rw[hmn];exact HR.out,by rw[hmn];exact HSL.out,HOK.out,HB.out⟩
def Zes(z y:List Int)(i:Nat):List Int:=z.mapIdx fun j v=>if j<i then wrap64 (v-y.getD j 0) else v
theorem ZoG(z y:List Int):Zes z y 0=z:=by
 unfold Zes
 apply List.ext_getElem?
 intro i;simp
theorem Zb5(z y:List Int)(i:Nat):(Zes z y i).length=z.length:=by simp[Zes]
theorem Zqy{z y:List Int}{i:Nat}{v:Int}(h:z[i]?=some v):(Zes z y i)[i]?=some v:=by simp[Zes,h]
theorem Zqz{z y:List Int}{i:Nat}{v u:Int}(h:z[i]?=some v)(hy:y[i]?=some u):(Zes z y i).set i (wrap64 (v-u))=Zes z y (i+1):=by
 obtain⟨hl,hv⟩:=YaG.1 h
 apply List.ext_getElem?
 intro j;rw[List.getElem?_set,Zb5]
 by_cases e:i=j
 ·subst e;rw[if_pos rfl,if_pos hl];simp[Zes,h,hy]
 ·rw[if_neg e]
  by_cases hj:j<z.length
  ·simp only[Zes,List.getElem?_mapIdx];rw[YaA hj];simp only[Option.map_some]
   by_cases h1:j<i
   ·rw[if_pos h1,if_pos (by omega)]
   ·rw[if_neg h1,if_neg (by omega)]
  ·rw[YaN (by rw[Zb5];omega),YaN (by rw[Zb5];omega)]
theorem Ztc{z y:List Int}(i:Nat)(h:Zaw z):Zaw (Zes z y i):=by
 intro v hv;obtain⟨j,hj⟩:=List.getElem?_of_mem hv;simp only[Zes,List.getElem?_mapIdx] at hj;obtain⟨u,hu,rfl⟩:=Option.map_eq_some_iff.1 hj
 split
 ·exact Za0 _
 ·exact h u (YaL hu)
def Zwc(l:List Int)(n:Nat)(P:List Int)(q:Int)(x y:List Int):List Int:=Zes (trN l n P q x (n-1)) y (szN l (n-1))
def Zu4(l:List Int)(n:Nat)(P:List Int)(q:Int)(x y:List Int)(w:World)(e:Ending)(w':World):Prop:=
 ∃A c ss D dc,e=.returned (.tuple #[.slice A n c,.slice D (szN l (n-1)) dc,.bool true])/\w'.ownsRow w.heap.size 74 1 (.slice A n c) n (ss.map slv)/\ss.length=n/\Zny w' w.heap.size l (trN l n P q x) ss /\
  w'.ownsRow w.heap.size 2 1 (.slice D (szN l (n-1)) dc) (szN l (n-1)) (iv (Zwc l n P q x y))/\Below w.heap.size w w'/\(∀(j:Nat) (s:Zer),ss[j]?=some s->∀g,(slv s).ownBlock=some g->(Value.slice D (szN l (n-1)) dc).ownBlock≠some g)
theorem Zbk{w:World}{base:Nat}{e:TypeId}{size n:Nat}{v:Value}{xs:List Value}(h:w.ownsRow base e size v n xs):w.drew.ownsRow base e size v n xs:=h
theorem Zmk(nb:Nat)(l:List Int)(n NP:Nat)(P:List Int)(q:Int)(x y:List Int)(X Y:Option Addr)(N c R d:Nat)(w:World)(hN:NetP l n NP P q)(hA:Zs3 w nb l n NP P q)(hxl:x.length=N)(hx:Rd w 1 X N (iv x))(hxN:N=szN l 0)(hxi:Zaw x)
  (hyl:y.length=R) (hy:Rd w 1 Y R (iv y)) (hR:szN l (n-1)=R) :
  Calls prog 146 #[.pointer (some ⟨nb,0,none⟩),.slice X N c,.slice Y R d] w (Zu4 l n P q x y w):=by
 have HC1:=hid (Zkv nb l n NP P q x X N c w hN hA hxl hx hxN hxi);have hn2:=hN.n2;have hsR:=hN.sz (show n-1<n by omega);rw[hR] at hsR;obtain⟨m,hm⟩:∃m,n-1=m:=⟨_,rfl⟩;rw[hm] at hsR;have HN:=hid hN;have HRE:=hid hR;have HM:=hid hm;have HY:=hid hy;have HYL:=hid hyl;have HXI:=hid hxi;clear hN hA hx hxl hxN hxi hy hyl hR hm
 go_enter func146,ntmps146
 go_wp2_with fail;((with_reducible refine HC1.out.mono ?_);rintro e w1 ⟨A,cA,ss,rfl,hr1,hsl,hok,hb1⟩);obtain⟨⟨Am,nm,cm⟩,hsm⟩:∃s,ss[m]?=some s:=⟨_,YaA (by rw[hsl];have:=HM.out;omega)⟩;obtain⟨hnm,hom⟩:=hok m _ hsm;dsimp only at hnm;rw[<-HM.out,HRE.out] at hnm;subst hnm;rw[<-HM.out,HRE.out] at hom;obtain⟨gr,hgr,lgr,hcr⟩:=Zdw hr1 hsm (by have:=HM.out;omega);subst hgr;have hcr':w1.cell? ⟨gr,m,none⟩=some (.slice Am nm cm):=hcr;have hw1:IntKind.i64.wrap ((n:Int)-1)=(m:Int):=by have:=HM.out;rw[show (n:Int)-1=(m:Int) by omega];exact IntWalk.i64_in _ (by have:=HN.out.n16;omega)
 have i1:(0:Int)<=(m:Int):=by omega
 have i2:(m:Int)<(n:Int):=by have:=HM.out;omega
 have e1:((nm:Int) !=(nm:Int))=false:=by simp
 have HR1:=hid hr1;have HSL:=hid hsl;have HOK:=hid hok;have HB1:=hid hb1;have HC2:=hid (Za1 Am nm cm (trN l n P q x (n-1)) w1 (by have:=hom.1;rw[Zay] at this;omega) (Rd.of_own hom) (by omega));clear hr1 hsl hok hb1 hsm hom hcr;go_wp2_with fail;((with_reducible refine HC2.out.mono ?_);rintro e w2 ⟨D,dc,rfl,ho2,hb2⟩);obtain⟨gd,rfl⟩:=Zbw ho2 (by omega);have HD2:=hid ho2;have HB2:=hid hb2;have HGD:=hid (show w1.heap.size<=gd from(ho2.lt gd rfl).1);have HZL:Hid ((trN l n P q x (n-1)).length=nm):=hid (by have:=ho2.1;rw[Zay] at this;omega);clear ho2 hb2 hcr' lgr hw1 i1 i2 e1;go_wp2_with fail
 go_loopw [42] (fun v wr=>∃i:Nat,i<=nm/\v=.int .i64 i/\wr.ownsRow w1.heap.size 2 1 (.slice (some ⟨gd,0,none⟩) nm dc) nm (iv (Zes (trN l n P q x (n-1)) y i))/\Below w1.heap.size w1 wr) (fun v _=>nm-(intOf v).toNat)
 case atStart=>exact⟨0,by omega,rfl,by rw[ZoG];exact HD2.out,HB2.out⟩
 case round=>
  obtain⟨i,hi,rfl,hz,hb⟩:=hrel
  by_cases hir:i<nm
  ·obtain⟨v,hv⟩:∃v,(trN l n P q x (n-1))[i]?=some v:=⟨_,YaA (by rw[HZL.out];exact hir)⟩;have hcv:wr.cell? ⟨gd,i,none⟩=some (.int .i64 v):=(hz.cellAt i (by omega)).trans (by rw[iv,YaR,Zqy hv];rfl);obtain⟨b,o,u,rfl,lb,hu,cu⟩:=Zb9 HYL.out (HY.out.below (bT0 HB1.out hb)) hir;obtain⟨cur,hcur⟩:=ZcO hz;have fz:wr.frozen? ⟨gd,i,none⟩=false:=by simp[World.frozen?,hcur]
   have lz:gd<wr.heap.size:=(hz.lt gd rfl).2;have h1:=hz.stored i (.int .i64 (wrap64 (v-u)));rw[Zcv,Zqz hv hu] at h1;have HZ8:=hid h1.1;have HB8:=hid (Zai hb hb.size h1.2 HGD.out);have HSB:=hid (fun W=>Zu2 v u W);have r1:(0:Int)<=(i:Int):=by omega
   have r2:(i:Int)<(nm:Int):=by omega
   have HIR:=hid hir;clear hz hb hv hcur h1;go_wp2_with fail;refine Zad (Zag wr) [0,1,2,3,4,5,6,7,8,9] [10] [11,12] (by kernel_rfl) (by kernel_rfl) (Zag.start wr) ?_;simp only[YaO,YaP,YaB,YaC];refine Zaa (.slice (some ⟨gd,0,none⟩) nm dc) rfl (fun W hW=>?_) ?_
   ·obtain⟨hc,-,-⟩:=hW;go_simp
   go_simp;refine Zaa (.int .i64 i) rfl (fun W hW=>?_) ?_
   ·obtain⟨hc,-,-⟩:=hW;go_simp
   go_simp;refine Zaa (.slice (some ⟨gd,0,none⟩) nm dc) rfl (fun W hW=>?_) ?_
   ·obtain⟨hc,-,-⟩:=hW;go_simp
   go_simp;refine Zaa (.int .i64 i) rfl (fun W hW=>?_) ?_
   ·obtain⟨hc,-,-⟩:=hW;go_simp
   go_simp;refine Zaa (.pointer (some ⟨gd,i,none⟩)) rfl (fun W hW=>?_) ?_
   ·obtain⟨hc,-,-⟩:=hW;go_simp
   go_simp;refine Zaa (.int .i64 v) rfl (fun W hW=>?_) ?_
   ·obtain⟨hc,-,-⟩:=hW;go_simp
   go_simp;refine Zaa (.slice (some ⟨b,o,none⟩) nm d) rfl (fun W hW=>?_) ?_
   ·obtain⟨hc,-,-⟩:=hW;go_simp
   go_simp;refine Zaa (.int .i64 i) rfl (fun W hW=>?_) ?_
   ·obtain⟨hc,-,-⟩:=hW;go_simp
   go_simp;refine Zaa (.pointer (some ⟨b,o+i,none⟩)) rfl (fun W hW=>?_) ?_
   ·obtain⟨hc,-,-⟩:=hW;go_simp
   go_simp;refine Zaa (.int .i64 u) rfl (fun W hW=>?_) ?_
   ·obtain⟨hc,-,-⟩:=hW;go_simp
   go_simp;change Zah _ _ _ _ _ (_::[]) _ _;unfold Zah;go_wp2_with fail;((with_reducible refine(HSB.out _).mono ?_);rintro e w8 ⟨rfl,hw8⟩);subst hw8;go_wp2_with fail;refine⟨Zag.start wr,?_⟩;unfold Zah;change wpList _ _ _ (_::_::[]) _ _;go_wp2_with fail;refine NoPanic.normal ?_;go_wp2_with fail
   go_roundw
   case rel=>exact⟨i+1,HIR.out,by go_num,Zbk HZ8.out,HB8.out.drew⟩
   case measure=>simp[intOf];have:=HIR.out;omega
  ·obtain rfl:i=nm:=by omega
   have HZ9:=hid hz;have HB9:=hid hb;clear hz hb;go_wp2_with fail
   go_ret3
   refine⟨_,cA,ss,some ⟨gd,0,none⟩,dc,by rw[HRE.out];rfl,Zac HR1.out HB9.out,HSL.out,HOK.out.below HB9.out,?_,bT0 HB1.out HB9.out,?_⟩
   ·unfold Zwc;rw[HRE.out];exact Zae HZ9.out HB1.out.size
   ·intro j s hs g hg e;rw[HRE.out] at e;have h1:=((HOK.out j s hs).2.lt g hg).2;have h2:=HGD.out;have h3:gd=g:=by simpa [Value.ownBlock] using e
    omega
end
section
open Go.RowKit Go.Shelf
attribute [local go_sem] Oper.semAt_some
theorem ZqA(n:Nat):(madeCells #[Value.int .i64 0] n).toList=iv (Zas n):=by
 have h:=ZeS n;rw[Nat.mul_one] at h;exact h
theorem ZqB(n:Nat):(madeCells #[Value.int .i64 0] n).size=n:=by
 have h:=congrArg List.length (ZqA n);rw[Array.length_toList,Zay,List.length_replicate] at h;exact h
theorem Zgn(w:World)(n g base:Nat)(e:TypeId)(hg:w.heap.size=g)(hb:base<=g)(hn:n<=1048576):(w.alloc (.cells (madeCells #[Value.int .i64 0] n) e)).ownsRow base e 1 (.slice (some ⟨g,0,none⟩) n n) n (iv (Zas n)):=by
 subst hg;rw[<-ZqA];exact World.ownsRow_lit w _ n hb (by unfold maxLen;omega) (by rw[ZqB,Nat.mul_one])
attribute [local go_sem] Oper.semAt_some
theorem Zfz{P:Program}{id:Nat}{Q:Exit->Act->World->Prop}{a:Act}{w:World}{l:List Oper}{r n:Nat}(S:World->Prop)(E M F:List Nat)(hm:P.follows .mixedOrders=true)(hB:ZeH l.toArray E M F=true)(hD:ZlR l.toArray=true)(hS:S w.drew)
  (h:Zb1 P l.toArray S (fun a'=>Zah P l.toArray (NoPanic (Zi2 Q)) S (fun a'' w''=>wpList P l.toArray (NoPanic (Zi2 Q)) (F.filterMap (l[·]?)) a'' w'') (M.filterMap (l[·]?)) a' w.drew) (E.filterMap (l[·]?)) a):(Code.region id l.toArray true).wpIn (Fence.wide.inRound r) n P Q a w:=by
 simp only[ZeH,YaQ,decide_eq_true_eq] at hB;obtain⟨⟨⟨⟨⟨⟨⟨hsel,hE⟩,hM⟩,hF⟩,hlen⟩,hEs⟩,hMs⟩,hFs⟩:=hB;have h2:=Zdo (P:=P) (md:=.any) (Q:=Zi2 Q) (S:=S) (F:=F) (N:=l.toArray.size) (fuel:=M.length+F.length) hsel hS E (E.filterMap (l[·]?)) (Array.replicate l.toArray.size false) a (fun j oj _ hl=>by rw[getD_replicate_false] at hl;cases hl) (Zau E (fun i hi=>by simpa using List.all_eq_true.1 hEs i hi)) hE
  (fun a' h'=>Znh M (M.filterMap (l[·]?)) _ a' _ (Zau M (fun i hi=>by simpa using List.all_eq_true.1 hMs i hi)) (fun a'' w'' h''=>Zgh F (F.filterMap (l[·]?)) _ a'' w'' (fun _ h=>h) (Zau F (fun i hi=>by simpa using List.all_eq_true.1 hFs i hi)) hF h'') true rfl (fun _=>Zj5 M _ hM) h') h
 rw[hlen] at h2;have h1:=ZiV.any (S:=S) (F:=F) _ _ _ _ h2;refine wpIn_mono (wpIn_region_any hm (Zic (ZfP hD) (fun h=>?_) _ _ _ _ h1)) (fun e a w he=>?_)
 ·obtain⟨a,w,h⟩:=h;exact h
 ·cases e<;>first|exact he|exact(he:False).elim
def ZhG{R:Nat}(l y:List Int)(q:Int)(C:Nat)(pre:List (Fin R)):List Int:=pre.foldl (fun acc k=>ZbM acc 0 (Zec (Zd6 l C k.val) (y.getD k.val 0) q) C) (Zas C)
theorem Zip{R:Nat}(l y:List Int)(q:Int)(C:Nat)(pre:List (Fin R))(k:Fin R):ZhG l y q C (pre++[k])=ZbM (ZhG l y q C pre) 0 (Zec (Zd6 l C k.val) (y.getD k.val 0) q) C:=by
 unfold ZhG;rw[List.foldl_append];rfl
theorem ZfR{R:Nat}(l y:List Int)(q:Int)(C:Nat)(pre:List (Fin R)):(ZhG l y q C pre).length=C:=by
 have h:∀(pre:List (Fin R)) (acc:List Int),acc.length=C->(pre.foldl (fun acc k=>ZbM acc 0 (Zec (Zd6 l C k.val) (y.getD k.val 0) q) C) acc).length=C:=by
  intro pre
  induction pre with
  |nil=>intro acc h;exact h
  |cons k pre ih=>
   intro acc h;rw[List.foldl_cons];exact ih _ (by rw[Zbi];exact h)
 exact h pre (Zas C) (by simp)
theorem Ztd{R C m:Nat}{l y:List Int}{q:Int}(hm:R*C=m)(hl:l.length=m)(hy:y.length=R){c:Nat}(hc:c<C):∀k,k<=R->∃s,(ZhG l y q C ((List.finRange R).take k))[c]?=some s/\Hid (Zl6 q (Zd6 (Zd5 l R C) R c) y=Zl5 q ((Zd6 (Zd5 l R C) R c).drop k) (y.drop k) s):=by
 intro k
 induction k with
 |zero=>
  intro _;refine⟨0,?_,hid rfl⟩;simp[ZhG,List.getElem?_replicate,hc]
 |succ k ih=>
  intro hk;obtain⟨s,h1,h2⟩:=ih (by omega);have hkR:k<R:=by omega
  have hyk:y[k]?=some (y.getD k 0):=by
   rw[YaT,YaA (by omega)];rfl
  have hidx:c*R+k<C*R:=Zqb c k C R hc hkR;have hrow:(Zd6 (Zd5 l R C) R c)[k]?=some (l.getD (k*C+c) 0):=by
   rw[Zjc hkR,Zd5,Zcc _ _ _ hidx,ZuU,Zl4 _ _ _ hkR,Zl3 _ _ _ hkR]
  refine⟨_,?_,Zuh h2 (hid hrow) (hid hyk)⟩;rw[Zja hkR,Zip,Zbj,h1];simp only[Option.map_some,Nat.zero_le,Nat.zero_add,hc,and_self,if_true,Nat.sub_zero]
  congr 3
  have hlk:k*C+c<m:=by rw[<-hm];exact Zqb k c R C hkR hc
  rw[YaT,Zec,YaR,Zjc hc,YaT (l:=l),YaA (by omega)];rfl
theorem ZqC{R C m:Nat}{l y:List Int}{q:Int}(hm:R*C=m)(hl:l.length=m)(hy:y.length=R):ZhG l y q C (List.finRange R)=Zik (Zd5 l R C) y q C:=by
 apply List.ext_getElem?
 intro c
 by_cases hc:c<C
 ·obtain⟨s,h1,h2⟩:=Ztd (q:=q) hm hl hy hc R (YaF _);rw[YaX (by rw[List.length_finRange];exact YaF _)] at h1;have hT:(Zd5 l R C).length=C*R:=ZaE _ _;have hrl:(Zd6 (Zd5 l R C) R c).length=R:=ZbS rfl hT hc;have e:=Zqc h2 (hid hrl) (YaF _);rw[h1,Zik,Zcc _ _ _ hc,hy,e]
 ·rw[YaN (by rw[ZfR];omega),YaN (by rw[Zik,ZaE];omega)]
attribute [local go_sem] Oper.semAt_some
theorem ZqD(R C m cap g o:Nat)(B:Option Addr)(d:Nat)(l y:List Int)(q:Int)(w:World)(hR:1<=R/\R<=1048576)(hC:1<=C/\C<=1048576)(hm:R*C=m)(hm':m<=1048576)(hcap:m<=cap)(hcm:cap<=9223372036854775807)(hl:l.length=m)(hyl:y.length=R)
  (h:Rd w 1 (some ⟨g,o,none⟩) m (iv l)) (hy:Rd w 1 B R (iv y)) (h1:∀v∈l,In1 v) (h2:∀v∈y,In1 v) :
  Calls prog 168 #[.agg #[.int .i64 R,.int .i64 C,.slice (some ⟨g,o,none⟩) m cap],.slice B R d,.int .i64 q] w fun e w'=>∃A c,e=.returned (.tuple #[.slice A C c,.bool true])/\w'.ownsRow w.heap.size 2 1 (.slice A C c) C (iv (Zik (Zd5 l R C) y q C))/\Below w.heap.size w w':=by
 have hmk:=fun W=>run_make_row' (P:=prog) 74 2 (.int .i64 0) 8 underlying74 ZhD.info rfl .i64 .i64 C (by omega) (by omega) W
 obtain⟨gy,oy,rfl,hgy,_⟩:=hy.2 (by omega);have hgl:g<w.heap.size:=h.lt g o rfl (by rw[<-hm];exact Nat.mul_pos hR.1 hC.1);obtain⟨W0,hW0⟩:∃W0,((w.alloc (.cells #[.int .i64 R,.int .i64 C,.slice (some ⟨g,o,none⟩) m cap] 271)).alloc (.cells #[.slice (some ⟨gy,oy,none⟩) R d] 74)).alloc (.cells #[.int .i64 q] 3)=W0:=⟨_,rfl⟩;have k0:Below w.heap.size w W0:=by rw[<-hW0];exact((bA0 _).alloc (by simp) _).alloc (by simp<;>omega) _
 have b0:Blk W0 w.heap.size 271 #[.int .i64 R,.int .i64 C,.slice (some ⟨g,o,none⟩) m cap]:=by rw[<-hW0];exact((Blk.new _ _ _).alloc _).alloc _
 have b1:Blk W0 (w.heap.size+1) 74 #[.slice (some ⟨gy,oy,none⟩) R d]:=by rw[<-hW0];exact(Blk.new' _ _ (by simp)).alloc _
 have b2:Blk W0 (w.heap.size+1+1) 3 #[.int .i64 q]:=by rw[<-hW0];exact Blk.new' _ _ (by simp)
 have hrt:decide (Zdd R C m)=true:=YaJ ⟨⟨by omega,by omega,by omega,by omega⟩,by rw[<-hm];exact Int.natCast_mul R C⟩;have C1:=fun W=>ZeT R C (some ⟨g,o,none⟩) m cap W (by omega)
 rw[hrt] at C1;have HC1:=hid C1;have HR0:=hid (h.below k0);have HX0:=hid (hy.below k0);have HK0:=hid k0;have HB0:=hid b0;have HB1:=hid b1;have HB2:=hid b2;have HL:=hid (And.intro hl hyl);have HIN:=hid (And.intro h1 h2);have HM:=hid hm;have HR:=hid hR;have HC:=hid hC;have HMK:=hid hmk;have a0:W0.cell? ⟨w.heap.size,0,none⟩=some (.int .i64 R):=b0.cell 0;have a1:W0.cell? ⟨w.heap.size,1,none⟩=some (.int .i64 C):=b0.cell 1;have a2:W0.cell? ⟨w.heap.size,2,none⟩=some (.slice (some ⟨g,o,none⟩) m cap):=b0.cell 2;have lt0:=b0.lt;have HW0:=hid hW0;clear C1 k0 b0 b1 b2 hrt h hy hl hyl h1 h2 hm hW0 hR hC hmk;refine(callsIn_wide (n:=9)).1 (callsIn_of_wp_marks func168 rfl trivial (wpIn_wide.2 ?_) rfl);simp only[ntmps168,List.size_toArray,List.length_cons,List.length_nil,Nat.reduceAdd,Nat.reduceSub,Array.replicate_succ,Array.replicate_zero,List.push_toArray,List.append_toArray,List.nil_append,List.cons_append];go_wp2_with fail;rw[HW0.out];clear HW0;go_wp2_with fail;((with_reducible refine(HC1.out _).mono ?_);rintro e w1 ⟨rfl,hb1⟩);have m0:Blk w1 w.heap.size 271 #[.int .i64 R,.int .i64 C,.slice (some ⟨g,o,none⟩) m cap]:=HB0.out.kept hb1;have m1:Blk w1 (w.heap.size+1) 74 #[.slice (some ⟨gy,oy,none⟩) R d]:=HB1.out.kept hb1;have m2:Blk w1 (w.heap.size+1+1) 3 #[.int .i64 q]:=HB2.out.kept hb1;have hr1:=HR0.out.below hb1;have hx1:=HX0.out.below hb1;have hk1:=((Zag.of HK0.out).call hb1).2.2;have d1:((R:Int) !=(R:Int))=false:=by simp
 have y1:w1.cell? ⟨w.heap.size,1,none⟩=some (.int .i64 C):=m0.cell 1;have y2:w1.cell? ⟨w.heap.size+1,0,none⟩=some (.slice (some ⟨gy,oy,none⟩) R d):=m1.cell 0;have y3:w1.cell? ⟨w.heap.size,0,none⟩=some (.int .i64 R):=m0.cell 0;have y4:w1.cell? ⟨w.heap.size,2,none⟩=some (.slice (some ⟨g,o,none⟩) m cap):=m0.cell 2;have ly1:=m0.lt;have ly2:=m1.lt;have HM0:=hid m0;have HM1:=hid m1;have HM2:=hid m2;have HR1:=hid hr1;have HX1:=hid hx1;have HK1:=hid hk1;have hmk:=HMK.out;clear m0 m1 m2 hr1 hx1 hk1 hb1 a0 a1 a2 lt0 HB0 HB1 HB2 HR0 HX0 HK0 HC1;go_wp2_with fail;obtain⟨W2,hW2⟩:∃W2,(w1.alloc (.cells (madeCells #[Value.int .i64 0] C) 2)).alloc (.cells #[.slice (some ⟨w1.heap.size,0,none⟩) C C] 74)=W2:=⟨_,rfl⟩;rw[hW2];have k2:Below w1.heap.size w1 W2:=by rw[<-hW2];exact(bA0 _).alloc (by simp) _
 have o2:Blk W2 (w1.heap.size+1) 74 #[.slice (some ⟨w1.heap.size,0,none⟩) C C]:=by rw[<-hW2];exact Blk.new' _ _ (by simp)
 have p2:W2.ownsRow w1.heap.size 2 1 (.slice (some ⟨w1.heap.size,0,none⟩) C C) C (iv (Zas C)):=by rw[<-hW2];exact(Zgn _ C _ _ _ rfl (YaF _) HC.out.2).alloc _
 clear hW2;((with_reducible refine(Zjb R C _ m cap _).mono ?_);rintro e w3 ⟨rfl,hbm,hb3⟩);clear y1 y2 y3 y4 d1 hmk HMK;go_wp2_with fail;have z2:w1.heap.size+1<W2.heap.size:=o2.lt;have z3:W2.heap.size<w3.heap.size:=hbm.lt;have K3:Below w1.heap.size w1 w3:=((Zag.of k2).call hb3).2.2;have o3:=o2.kept hb3;have p3:=Zac p2 hb3;have hseq:=Zfx (9-1) W2.heap.size R C m cap g o (by omega) HR.out.2 HC.out.1 HM.out hcap hcm (fun b=>b=w1.heap.size\/w3.heap.size<=b) (by omega) _ w3 hbm;clear hb3 k2 o2 p2 hbm;refine wpIn_wide.1 (wpIn_rangeFunc_ownH (F:=Fence.wide) (n:=9) rfl (by omega) (gf:=255) (lb:=#[.pointer (some ⟨W2.heap.size,0,none⟩)]) rfl trivial (enters_of func255 (by kernel_rfl) rfl) hseq (fun h k=>h.trans k) (Zno (w:=w3) (fun i hi=>.inr hi)) (bR0 _ _) (fun _=>rfl)
  (fun pre W=>(W.ownsRow w1.heap.size 2 1 (.slice (some ⟨w1.heap.size,0,none⟩) C C) C (iv (ZhG l y q C pre))/\Blk W (w1.heap.size+1) 74 #[.slice (some ⟨w1.heap.size,0,none⟩) C C])/\Below w1.heap.size w1 W)
  (fun _ _ _=>False)
  (OwnFrom.and (OwnFrom.and (Own.from (ZgL w1.heap.size 2 1 (.slice (some ⟨w1.heap.size,0,none⟩) C C) C (fun pre:List (Fin R)=>iv (ZhG l y q C pre))) _) (fun _ X Y row hs hg hr=>Blk.turn hs hg hr)) (ownFrom_below (YaF _) K3.size))
  (fun _ _ _ _ _ hs _ _=>hs)
  ⟨⟨p3,o3⟩,K3⟩
  (fun k a' W=>a'={ tmps:=#[.agg #[.int .i64 R,.int .i64 C,.slice (some ⟨g,o,none⟩) m cap],.slice (some ⟨gy,oy,none⟩) R d,.int .i64 q,.pointer (some ⟨w.heap.size,0,none⟩),.pointer (some ⟨w.heap.size+1,0,none⟩),.pointer (some ⟨w.heap.size+1+1,0,none⟩),.slice none 0 0,.bool false,.pointer (some ⟨w1.heap.size+1,0,none⟩),.int .i64 k.val,.slice (some ⟨g,o+k.val*C,none⟩) C C,.agg #[.int .i64 R,.int .i64 C,.slice (some ⟨g,o,none⟩) m cap],.bool true,.bool false,.bool false,.slice (some ⟨gy,oy,none⟩) R d,.int .i64 R,.pointer (some ⟨w.heap.size,0,none⟩),.int .i64 R,.bool false,.bool false,.pointer (some ⟨w.heap.size,1,none⟩),.int .i64 C,.slice (some ⟨w1.heap.size,0,none⟩) C C,.agg #[.int .i64 R,.int .i64 C,.slice (some ⟨g,o,none⟩) m cap],.func (.func 255) #[] #[.pointer (some ⟨W2.heap.size,0,none⟩)],.int .i64 k.val,.slice (some ⟨g,o+k.val*C,none⟩) C C,undef,undef,undef,undef,undef,undef,undef,undef,undef,undef],defers:=[] })
  (fun x a' s X Y row hs hg hr=>hs) ?assign ?body ?done ?stop)
 case assign=>
  rintro l' pre k W K hI hK;simp only[Zij]
  gi_wp2_with fail
  exact hK _ _ ((KeepsOthers.refl _).from _) (But.refl _ _) hI rfl
 case body=>
  rintro l' pre k a' W hl3 ⟨r0,hr0⟩ ⟨⟨hown,hblk⟩,hB⟩ rfl hlt;obtain⟨gy',oy',v,e1,hbv,hv,cv⟩:=Zb9 HL.out.2 (HX1.out.below hB) k.isLt
  cases e1
  have hyv:y.getD k.val 0=v:=by rw[YaT,hv];rfl
  have inv:In1 v:=HIN.out.2 v (YaL hv);have HSC:=hid (fun W' (hk:Below W.heap.size W W')=>Zp5 (some ⟨g,o+k.val*C,none⟩) C C v q (Zd6 l C k.val) W' (by have:=HC.out;omega) (ZbS HM.out HL.out.1 k.isLt) (Rd.row HM.out HL.out.1 k.isLt HC.out.1 ((HR1.out.below hB).below hk)) (Zqd HIN.out.1 C k.val) inv);have x1:W.cell? ⟨w.heap.size+1,0,none⟩=some (.slice (some ⟨gy,oy,none⟩) R d):=(HM1.out.kept hB).cell 0;have x2:W.cell? ⟨w.heap.size+1+1,0,none⟩=some (.int .i64 q):=(HM2.out.kept hB).cell 0;have l1:=(HM1.out.kept hB).lt;have l2:=(HM2.out.kept hB).lt;have x3:W.cell? ⟨w1.heap.size+1,0,none⟩=some (.slice (some ⟨w1.heap.size,0,none⟩) C C):=hblk.cell 0;have l3:=hblk.lt;obtain⟨kv,hkv⟩:∃kv,k.val=kv:=⟨_,rfl⟩;have hkn:kv<R:=by rw[<-hkv];exact k.isLt
  obtain⟨b0,hb0⟩:∃b0,o+k.val*C=b0:=⟨_,rfl⟩;rw[hb0] at HSC ⊢;rw[hkv] at cv ⊢;have i0:(0:Int)<=(kv:Int):=by omega
  have i1:(kv:Int)<(R:Int):=by omega
  have HYV:=hid hyv;have HOW:=hid hown;have HBK:=hid hblk;have HBB:=hid hB;have HCC:=HC.out;clear hown hblk hB hl3 hr0 hlt o3 p3 K3 hseq hyv hv inv hb0 hkv
  gi_wp2_with fail
  refine Zfz (Zag W) [0,1,2,3,4,5,6] [7] [8] (by kernel_rfl) (by kernel_rfl) (by kernel_rfl) (Zag.start W) ?_;simp only[YaO,YaP,YaB,YaC];refine Zaa (.slice (some ⟨w1.heap.size,0,none⟩) C C) rfl (fun W hW=>?_) ?_
  ·obtain⟨hc,-,-⟩:=hW;go_simp
  go_simp;refine Zaa (.slice (some ⟨g,b0,none⟩) C C) rfl (fun W hW=>?_) ?_
  ·obtain⟨hc,-,-⟩:=hW;go_simp
  go_simp;refine Zaa (.slice (some ⟨gy,oy,none⟩) R d) rfl (fun W hW=>?_) ?_
  ·obtain⟨hc,-,-⟩:=hW;go_simp
  go_simp;refine Zaa (.int .i64 kv) rfl (fun W hW=>?_) ?_
  ·obtain⟨hc,-,-⟩:=hW;go_simp
  go_simp;refine Zaa (.pointer (some ⟨gy,oy+kv,none⟩)) rfl (fun W hW=>?_) ?_
  ·obtain⟨hc,-,-⟩:=hW;go_simp
  go_simp;refine Zaa (.int .i64 v) rfl (fun W hW=>?_) ?_
  ·obtain⟨hc,-,-⟩:=hW;go_simp
  go_simp;refine Zaa (.int .i64 q) rfl (fun W hW=>?_) ?_
  ·obtain⟨hc,-,-⟩:=hW;go_simp
  go_simp;change Zah _ _ _ _ _ (_::[]) _ _;unfold Zah;go_wp2_with fail;((with_reducible refine(HSC.out W.drew (bR0 _ _).drew).mono ?_);rintro e w5 ⟨A5,c5,rfl,hown5,hb5⟩);have k5:=(Zag.start W).call hb5;have hO5:=Zac HOW.out k5.2.2;have h5b:∀b o',A5=some ⟨b,o',none⟩->0<C->b≠w1.heap.size:=fun b o' e h0=>by
   have h3:=(Zbh hown5 b o' e).1;have h4:W.heap.size<=b:=h3;have h5:w1.heap.size+1<W.heap.size:=l3;omega
  have HADD:=hid (Zi8 (some ⟨w1.heap.size,0,none⟩) A5 w1.heap.size 0 C C c5 C C w1.heap.size (ZhG l y q C pre) (Zec (Zd6 l C k.val) v q) w5 (fun _=>rfl) (by omega) (by omega) (ZfR _ _ _ _ _) (by rw[Zi6,ZbS HM.out HL.out.1 k.isLt]) hO5 (Rd.of_own hown5) h5b);have HK5:=hid k5.2.2;clear hb5 hO5 h5b hown5 x1 x2 x3 cv;go_wp2_with fail;refine⟨k5,?_⟩;unfold Zah;change wpList _ _ _ (_::[]) _ _;go_wp2_with fail;((with_reducible refine HADD.out.mono ?_);rintro e w6 ⟨rfl,hown6,hgr6⟩);go_wp2_with fail;refine NoPanic.normal (Zi2.normal ?_);have hgW:W.grownBy w6 (some w1.heap.size):=ZaC HK5.out hgr6;go_wp2_with fail;refine⟨(KeepsOthers.of_grownBy hgW (fun a o e ha=>?_)).from _,But.of_gr hgW (.inl rfl),⟨?_,HBK.out.grown hgW (by simp)⟩,Zai HBB.out HBB.out.size hgW (YaF _)⟩
  ·cases e
   obtain⟨cur,hcur⟩:=ZcO HOW.out;rw[hcur] at ha
   cases ha
   rfl
  ·rw[Zip,HYV.out];exact hown6
 case done=>
  rintro D ys W hD rfl ⟨⟨hown,hblk⟩,hB⟩ hK;have hc:W.cell? ⟨w1.heap.size+1,0,none⟩=some (.slice (some ⟨w1.heap.size,0,none⟩) C C):=hblk.cell 0;have hlw:=hblk.lt;have HOW:=hid hown;have HBB:=hid hB;clear hown hB hseq;go_wp2_with fail;refine⟨by simp,.inl ⟨_,_,rfl,run_takeDeferred hK,?_⟩⟩;have ho6:=ownsRow_putObj HOW.out (.deferred none) hK rfl;rw[ZqC HM.out HL.out.1 HL.out.2] at ho6;have hz:=HK1.out.size;exact⟨.tuple #[.slice (some ⟨w1.heap.size,0,none⟩) C C,.bool true],by simp[results,results168,go_sem],_,_,rfl,Zae ho6 hz,(HK1.out.trans (HBB.out.mono hz)).trans (belowK_b (w:=w) (YaF _) W D _ _ (by have:=K3.size;omega) hK rfl rfl)⟩
 case stop=>
  rintro D c pre W _ _ h _;exact h.elim
end
section
open Go.RowKit
def Zcq(v d:List Int)(i:Nat):List Int:=d.mapIdx fun j x=>if j<i then Zb4 (v.getD j 0) x else x
theorem Zml(v d:List Int):Zcq v d 0=d:=by
 unfold Zcq
 apply List.ext_getElem?
 intro i;simp
theorem ZbH(v d:List Int)(i:Nat):(Zcq v d i).length=d.length:=by simp[Zcq]
theorem ZoH{v d:List Int}{i:Nat}{x:Int}(h:d[i]?=some x):(Zcq v d i)[i]?=some x:=by simp[Zcq,h]
theorem ZoI{v d:List Int}{i:Nat}{x u:Int}(h:d[i]?=some x)(hy:v[i]?=some u):(Zcq v d i).set i (Zb4 u x)=Zcq v d (i+1):=by
 obtain⟨hl,hv⟩:=YaG.1 h
 apply List.ext_getElem?
 intro j;rw[List.getElem?_set,ZbH]
 by_cases e:i=j
 ·subst e;rw[if_pos rfl,if_pos hl];simp[Zcq,h,hy]
 ·rw[if_neg e]
  by_cases hj:j<d.length
  ·simp only[Zcq,List.getElem?_mapIdx];rw[YaA hj];simp only[Option.map_some]
   by_cases h1:j<i
   ·rw[if_pos h1,if_pos (by omega)]
   ·rw[if_neg h1,if_neg (by omega)]
  ·rw[YaN (by rw[ZbH];omega),YaN (by rw[ZbH];omega)]
theorem Zte(u:Int){x:Int}(h:In1 x):In1 (Zb4 u x):=by
 unfold Zb4
 split
 ·exact h
 ·exact⟨by decide,by decide⟩
theorem ZqE{v d:List Int}(i:Nat)(h:Zaw d):Zaw (Zcq v d i):=by
 intro x hx;obtain⟨j,hj⟩:=List.getElem?_of_mem hx;simp only[Zcq,List.getElem?_mapIdx] at hj;obtain⟨u,hu,rfl⟩:=Option.map_eq_some_iff.1 hj
 split
 ·exact Zte _ (h u (YaL hu))
 ·exact h u (YaL hu)
def dlN(l:List Int)(n:Nat)(P:List Int)(q:Int)(x y:List Int):Nat->List Int
 |0=>Zwc l n P q x y
 |j+1=>Zcq (trN l n P q x (n-2-j)) (Zik (Zd5 (wtL l P (n-2-j)) (szN l (n-1-j)) (szN l (n-2-j))) (dlN l n P q x y j) q (szN l (n-2-j))) (szN l (n-2-j))
def sgN(l:List Int)(n:Nat)(P:List Int)(q:Int)(x y:List Int)(j:Nat):List Int:=Zl2 (dlN l n P q x y j) (trN l n P q x (n-2-j)) q++dlN l n P q x y j
def grT(l:List Int)(n:Nat)(P:List Int)(q:Int)(x y:List Int):Nat->List Int
 |0=>[]
 |j+1=>sgN l n P q x y j++grT l n P q x y j
def Zkw(l:List Int)(n:Nat)(P:List Int)(q:Int)(x y:List Int):List Int:=grT l n P q x y (n-1)
theorem ZqF{n:Nat}{F:Nat->Int}{p:Int->Prop}(h:∀i,i<n->p (F i)):∀x∈ZcN n F,p x:=by
 intro x hx;obtain⟨i,hi,rfl⟩:=List.mem_map.1 hx;exact h i (List.mem_range.1 hi)
theorem Znz(q:Int):∀(a b:List Int) (s:Int),In1 s->In1 (Zl5 q a b s)
 |[],_,s,h=>by simpa [Zl5] using h
 |_::_,[],s,h=>by simpa [Zl5] using h
 |x::a,y::b,s,h=>by
  rw[Zl5];exact Znz q a b _ (Za0 _)
theorem Zu5(q:Int)(a b:List Int):In1 (Zl6 q a b):=Znz q a b 0 ⟨by decide,by decide⟩
end
section
open Go.RowKit
variable{l:List Int}{n NP:Nat}{P:List Int}{q:Int}{x y:List Int}
theorem Zmm(hx:x.length=szN l 0):(Zwc l n P q x y).length=szN l (n-1):=by rw[Zwc,Zb5,ZbA hx]
theorem ZdW(hx:x.length=szN l 0):∀j,j<=n-1->(dlN l n P q x y j).length=szN l (n-1-j)
 |0,_=>Zmm hx
 |j+1,h=>by rw[dlN,ZbH,Zik,ZaE,show n-1-(j+1)=n-2-j by omega]
theorem Zu6(l x:List Int)(q:Int)(R:Nat):Zaw (Zik l x q R):=ZqF (fun i _=>Zu5 _ _ _)
theorem ZqG(hx:Zaw x):∀j,Zaw (dlN l n P q x y j)
 |0=>Ztc _ (Zqt hx _)
 |j+1=>ZqE _ (Zu6 _ _ _ _)
theorem ZgM(y x:List Int)(q:Int):(Zl2 y x q).length=y.length*x.length:=by rw[Zl2,ZaE]
theorem ZoJ(hN:NetP l n NP P q)(hx:x.length=szN l 0){j:Nat}(hj:j<n-1):(sgN l n P q x y j).length=ofN l (n-1-j)-ofN l (n-2-j):=by
 rw[sgN,YaS,ZgM,ZdW hx j (by omega),ZbA hx,show n-1-j=(n-2-j)+1 by omega,ofN];omega
theorem ZfA(hN:NetP l n NP P q)(hx:x.length=szN l 0):∀j,j<=n-1->(grT l n P q x y j).length=NP-ofN l (n-1-j)
 |0,_=>by rw[grT,Nat.sub_zero,hN.cnt];simp
 |j+1,h=>by
  have h1:=ZfA hN hx j (by omega);have h2:=ZoJ (y:=y) hN hx (show j<n-1 by omega);have h3:=ZcY l (n-2-j) (n-1-j) (by omega);have h4:=ZcY l (n-1-j) (n-1) (by omega);rw[hN.cnt] at h4;rw[grT,YaS,h1,h2,show n-1-(j+1)=n-2-j by omega];omega
theorem ZoK(y x:List Int)(q:Int):Zaw (Zl2 y x q):=ZqF (fun i _=>Zp3 _ _ _)
theorem Zuj(hx:Zaw x):∀j,Zaw (grT l n P q x y j)
 |0=>fun v hv=>by cases hv
 |j+1=>fun v hv=>by
  rw[grT,List.mem_append,sgN,List.mem_append] at hv
  rcases hv with(h|h)|h
  ·exact ZoK _ _ _ v h
  ·exact ZqG hx j v h
  ·exact Zuj hx j v h
theorem ZfS(hN:NetP l n NP P q)(hx:x.length=szN l 0):(Zkw l n P q x y).length=NP:=by
 rw[Zkw,ZfA hN hx _ (YaF _),Nat.sub_self];rfl
theorem Ztf(hx:Zaw x):Zaw (Zkw l n P q x y):=Zuj hx _
theorem Zu7{Z G o:List Int}{a b:Nat}(hZ:Z=Zas b)(hab:a+o.length<=b):(Z++G).take a++(o++(Z++G).drop (a+o.length))=Zas a++o++(Zas (b-a-o.length)++G):=by
 subst hZ;have h1:(Zas b).length=b:=by simp
 rw[List.take_append_of_le_length (by rw[h1];omega),List.drop_append_of_le_length (by rw[h1];omega)];simp only[Zas,List.take_replicate,List.drop_replicate,Nat.min_eq_left (show a<=b by omega),YaY,Nat.sub_sub]
theorem Zu8{G o d:List Int}{a:Nat}:(Zas a++o++(Zas d.length++G)).take (a+o.length)++(d++(Zas a++o++(Zas d.length++G)).drop (a+o.length+d.length))=Zas a++((o++d)++G):=by
 have h1:(Zas a++o).length=a+o.length:=by simp
 rw[List.take_left' h1,<-YaY (Zas a++o) (Zas d.length) G,List.drop_left' (by simp;omega)];simp[YaY,Nat.add_assoc]
end
section
open Go.RowKit
theorem Zx8{w:World}{g:Nat}{t:TypeId}{a0 a1:Value}(h:Blk w g t #[a0,a1])(u v:Value) :
  w.grownBy ((w.setCell ⟨g,0,none⟩ u).setCell ⟨g,1,none⟩ v) (some g)/\Blk ((w.setCell ⟨g,0,none⟩ u).setCell ⟨g,1,none⟩ v) g t #[u,v]:=
 ⟨Zak (p:=⟨g,1,none⟩) (Zak (p:=⟨g,0,none⟩) (World.grownBy.refl w _) (.inl rfl) u) (.inl rfl) v,by
  have h1:Blk (w.setCell ⟨g,0,none⟩ u) g t #[u,a1]:=by simpa using h.set_ 0 u
  simpa using h1.set_ 1 v⟩
def Ziq(w0 w:World)(v:Value)(p:Int×Int->Prop):Prop:=∃a x y,v=.pointer (some ⟨a,0,none⟩)/\w0.heap.size<=a/\Blk w a 218 #[.int .i64 x,.int .i64 y]/\p (x,y)
theorem Ziq.below{w0 w w':World}{v:Value}{p:Int×Int->Prop}(h:Ziq w0 w v p)(hb:Below w.heap.size w w'):Ziq w0 w' v p:=by
 obtain⟨a,x,y,e,h1,h2,h3⟩:=h;exact⟨a,x,y,e,h1,h2.kept hb,h3⟩
theorem Ziq.lt{w0 w:World}{v:Value}{p:Int×Int->Prop}(h:Ziq w0 w v p){g:Nat}(hg:v=.pointer (some ⟨g,0,none⟩)):g<w.heap.size:=by
 obtain⟨a,x,y,rfl,h1,h2,h3⟩:=h;injection hg with hg
 injection hg with hg
 injection hg with hg
 subst hg;exact h2.lt
def Zmn(w0:World)(x y:Int×Int)(j:Nat)(v:Value)(w:World):Prop:=
 (j=5->v=.agg #[.int .i64 x.1,.int .i64 x.2])/\(j=11->v=.agg #[.int .i64 y.1,.int .i64 y.2])/\(j=12\/j=13->Ziq w0 w v (fun _=>True))
def ZpC(j:Nat)(v:Value)(k:Nat)(v':Value):Prop:=(j=12\/j=13)->(k=12\/k=13)->v≠v'
theorem Zmn.below{w0:World}{x y:Int×Int}(j:Nat)(v:Value)(w w':World)(h:Zmn w0 x y j v w)(hb:Below w.heap.size w w'):Zmn w0 x y j v w':=⟨h.1,h.2.1,fun e=>(h.2.2 e).below hb⟩
theorem Zmn.five{w0 w:World}{x1 x2 y1 y2:Int}:Zmn w0 (x1,x2) (y1,y2) 5 (.agg #[.int .i64 x1,.int .i64 x2]) w:=⟨fun _=>rfl,fun e=>(by cases e),fun e=>by omega⟩
theorem Zmn.eleven{w0 w:World}{x1 x2 y1 y2:Int}:Zmn w0 (x1,x2) (y1,y2) 11 (.agg #[.int .i64 y1,.int .i64 y2]) w:=⟨fun e=>(by cases e),fun _=>rfl,fun e=>by omega⟩
theorem Zmn.box{w0 W:World}{x y:Int×Int}{j:Nat}(hj:j=12\/j=13)(hk:Zag w0 W):Zmn w0 x y j (.pointer (some ⟨W.heap.size,0,none⟩)) (W.alloc (.cells #[.int .i64 0,.int .i64 0] 218)):=
 ⟨fun e=>by omega,fun e=>by omega,fun _=>⟨W.heap.size,0,0,rfl,hk.2.1,Blk.new _ _ _,trivial⟩⟩
theorem ZpC.call{j k:Nat}{v v':Value}(hj:¬(j=12\/j=13)):ZpC j v k v':=fun h=>absurd h hj
theorem ZpC.box{w0 W:World}{x y:Int×Int}{j k:Nat}{v':Value}(h:Zmn w0 x y k v' W):ZpC j (.pointer (some ⟨W.heap.size,0,none⟩)) k v':=fun _ hk e=>absurd ((h.2.2 hk).lt e.symm) (Nat.lt_irrefl _)
theorem ZpC.symm(j:Nat)(v:Value)(k:Nat)(v':Value)(h:ZpC j v k v'):ZpC k v' j v:=fun h1 h2 e=>h h2 h1 e.symm
def Zu9(l:List Int)(n NP:Nat)(P:List Int)(q:Int)(x y:List Int)(w:World)(e:Ending)(w':World):Prop:=
 ∃A c,e=.returned (.tuple #[.slice A NP c,.bool true])/\w'.ownsRow w.heap.size 2 1 (.slice A NP c) NP (iv (Zkw l n P q x y))/\Below w.heap.size w w'
theorem Zmo(nb:Nat)(l:List Int)(n NP:Nat)(P:List Int)(q:Int)(x y:List Int)(X Y:Option Addr)(N c R0 d:Nat)(w:World)(hN:NetP l n NP P q)(hA:Zs3 w nb l n NP P q)(hxl:x.length=N)(hx:Rd w 1 X N (iv x))(hxN:N=szN l 0)(hxi:Zaw x)
  (hyl:y.length=R0) (hy:Rd w 1 Y R0 (iv y)) (hR:szN l (n-1)=R0) :
  Calls prog 85 #[.pointer (some ⟨nb,0,none⟩),.slice X N c,.slice Y R0 d] w (Zu9 l n NP P q x y w):=by
 have HC1:=hid (Zmk nb l n NP P q x y X Y N c R0 d w hN hA hxl hx hxN hxi hyl hy hR);obtain⟨base,bs,Ap,cp,Al,cl,ls,lb0,hA⟩:=hA;have hcnt:Zbr l (n-1)=(NP:Int):=by rw[hN.cnt_eq _ (by have:=hN.n2;omega),hN.cnt]
 have hn2:=hN.n2;have hn16:=hN.n16;have hNP:=hN.np;have hpl:=hN.pl;obtain⟨m1,hm1⟩:∃m1,n=m1+2:=⟨n-2,by omega⟩;obtain⟨m,hm⟩:∃m,m1+1=m:=⟨_,rfl⟩;have hnm:n-1=m:=by omega
 have HC2:=hid (fun W (s:ZaD W base bs l n)=>by
  have:=Zbu base bs n l W s;rw[hcnt] at this;exact this)
 have HC4:=hid (fun W (s:ZaD W base bs l n)=>by
  have:=ZbY base bs n l W s;rw[hnm] at this;exact this)
 have HN:=hid hN;have HA:=hid hA;have HM1:=hid hm1;have HM:=hid hm;have HNM:=hid hnm;have HXI:=hid hxi;have HX0:Hid (x.length=szN l 0):=hid (by rw[hxl,hxN]);clear hN hA hcnt hxl hx hxN hxi hyl hy hR hm1 hm hnm hn2
 go_enter func85,ntmps85
 go_wp2_with fail
 go_step3
 go_wp2_with fail;((with_reducible refine HC1.out.mono ?_);rintro e w1 ⟨A,cA,ss,D,dc,rfl,hr1,hsl,hok,hD,hb1,hne⟩);have hA1:=HA.out.below hb1;have b0:w1.cell? ⟨nb,0,none⟩=some (.pointer (some ⟨bs,0,none⟩)):=hA1.blk.cell 0;have lb:=hA1.blk.lt;have HA1:=hid hA1;have HR1:=hid hr1;have HSL:=hid hsl;have HOK1:=hid hok;have HD1:=hid hD;have HB1:=hid hb1;rw[HNM.out] at HD1 ⊢;clear hA1 hr1 hsl hok hD hb1 hne HC1;go_wp2_with fail;((with_reducible refine(HC2.out _ HA1.out.shp).mono ?_);rintro e w2 ⟨rfl,rfl⟩);have hmk:=fun W=>run_make_row' (P:=prog) 74 2 (.int .i64 0) 8 underlying74 ZhD.info rfl .i64 .i64 NP (by omega) (by omega) W
 go_wp2_with fail;clear hmk b0 lb;obtain⟨w3,hw3⟩:∃w3,w1.alloc (.cells (madeCells #[Value.int .i64 0] NP) 2)=w3:=⟨_,rfl⟩;obtain⟨go,hgo⟩:∃go,w1.heap.size=go:=⟨_,rfl⟩;have hb3:Below w1.heap.size w1 w3:=by rw[<-hw3];exact bA0 _
 have ho3:w3.ownsRow w.heap.size 2 1 (.slice (some ⟨go,0,none⟩) NP NP) NP (iv (Zas NP)):=by rw[<-hw3];exact Zgn w1 NP go _ _ hgo (by rw[<-hgo];exact HB1.out.size) (by omega)
 rw[hw3,hgo];have HGO:=hid hgo;have HO3:=hid ho3;have HA3:=hid (HA1.out.below hb3);have HR3:=hid (Zac HR1.out hb3);have HOK3:=hid (HOK1.out.below hb3);have HD3:=hid (Zac HD1.out hb3);have HB3:=hid (bT0 HB1.out hb3);have HGW:Hid (w.heap.size<=go):=hid (by rw[<-hgo];exact HB1.out.size);have HTG:Hid (∀(j:Nat) (s:Zer),ss[j]?=some s->∀g,(slv s).ownBlock=some g->g≠go):=hid (by
  intro j s hs g hg;have:=((HOK1.out j s hs).2.lt g hg).2
  omega)
 have HRG:Hid (∀g,(Value.slice A n cA).ownBlock=some g->g≠go):=hid (by
  intro g hg;have:=(HR1.out.lt g hg).2
  omega)
 have HDG:Hid (∀g,(Value.slice D (szN l m) dc).ownBlock=some g->g≠go):=hid (by
  intro g hg;have:=(HD1.out.lt g hg).2
  omega)
 clear hw3 hgo hb3 ho3 HA1 HR1 HOK1 HD1 HB1;have b0:w3.cell? ⟨nb,0,none⟩=some (.pointer (some ⟨bs,0,none⟩)):=HA3.out.blk.cell 0;have lb:=HA3.out.blk.lt;go_wp2_with fail
 go_step3
 go_wp2_with fail;((with_reducible refine(HC4.out _ HA3.out.shp).mono ?_);rintro e w4 ⟨rfl,rfl⟩);have hwm:IntKind.i64.wrap ((m:Int)-1)=(m1:Int):=by rw[show (m:Int)-1=(m1:Int) by have:=HM.out;omega];exact IntWalk.i64_in _ (by have:=HM1.out;omega)
 go_wp2_with fail;clear b0 lb hwm
 go_loopw [9,12] (fun dv v wr=>∃(j k:Nat) (D:Option Addr) (dc:Nat),j+k=m1/\dv=.slice D (szN l (k+1)) dc/\v=.int .i64 k/\wr.ownsRow w.heap.size 2 1 (.slice D (szN l (k+1)) dc) (szN l (k+1)) (iv (dlN l n P q x y j))/\(∀g,(Value.slice D (szN l (k+1)) dc).ownBlock=some g->g≠go)/\wr.ownsRow w.heap.size 2 1 (.slice (some ⟨go,0,none⟩) NP NP) NP (iv (Zas (ofN l (k+1))++grT l n P q x y j))/\But (fun b=>b=go) w3 wr) (fun _ v _=>(intOf v).toNat)
 case atStart=>
  have e:m1+1=m:=HM.out;refine⟨0,m1,D,dc,by omega,by rw[e],rfl,by rw[e];exact HD3.out,by rw[e];exact HDG.out,?_,But.refl _ _⟩;rw[e,show ofN l m=NP by rw[<-HNM.out];exact HN.out.cnt,grT,List.append_nil];exact HO3.out
 case round=>
  obtain⟨j,k,D,dc,hjk,rfl,rfl,hd,hdn,ho,hbut⟩:=hrel;have hbel:Below w.heap.size w wr:=HB3.out.trans (hbut.below HB3.out.size (fun i hi=>by rw[hi];exact HGW.out));have hTr:Zny wr w.heap.size l (trN l n P q x) ss:=fun i s hs=>⟨(HOK3.out i s hs).1,Zaq (HOK3.out i s hs).2 hbut (fun g hg=>HTG.out i s hs g hg)⟩
  have hRr:=Zaq HR3.out hbut (fun g hg=>HRG.out g hg);have hA:=HA.out.below hbel;have hmn:=HNM.out;have hmm:=HM.out;have hkn:k<n-1:=by omega
  have hjn:n-2-j=k:=by omega
  have hjn1:n-1-j=k+1:=by omega
  have hRR:=HN.out.sz (show k+1<n by omega);have hCC:=HN.out.sz (show k<n by omega);have hfit:=HN.out.fit hkn;have hob:(ofN l k:Int)+(szN l (k+1):Int)*(szN l k:Int)=(obN l k:Int):=by unfold obN;simp
  have HC5:Hid (∀W,ZaD W base bs l n->Calls prog 143 #[.pointer (some ⟨bs,0,none⟩),.int .i64 k] W fun e w'=>e=.returned (.agg #[.int .i64 (ofN l k),.int .i64 (obN l k)])/\Below W.heap.size W w'):=hid (fun W s=>by
   have:=Zdc base bs n k l W s hkn;rw[HN.out.cnt_eq k (by omega),HN.out.getD (show k<n by omega),HN.out.getD (show k+1<n by omega),hob] at this;exact this)
  have HC6:Hid (∀W,ZaD W base bs l n->Calls prog 144 #[.pointer (some ⟨bs,0,none⟩),.int .i64 k] W fun e w'=>e=.returned (.agg #[.int .i64 (obN l k),.int .i64 (ofN l (k+1))])/\Below W.heap.size W w'):=hid (fun W s=>by
   have:=Zdt base bs n k l W s hkn;rw[HN.out.cnt_eq k (by omega),HN.out.cnt_eq (k+1) (by omega),HN.out.getD (show k<n by omega),HN.out.getD (show k+1<n by omega),hob] at this;exact this)
  have hof:obN l k=ofN l k+szN l (k+1)*szN l k:=rfl;have hof2:ofN l (k+1)=obN l k+szN l (k+1):=rfl;have hmono:ofN l (k+1)<=NP:=by rw[hof2];exact hfit
  have HSG:Hid (sgN l n P q x y j=Zl2 (dlN l n P q x y j) (trN l n P q x k) q++dlN l n P q x y j):=hid (by unfold sgN;rw[hjn]);have HDL:Hid ((dlN l n P q x y j).length=szN l (k+1)):=hid (by rw[ZdW HX0.out j (by omega),hjn1]);have HTL:Hid ((trN l n P q x k).length=szN l k):=hid (ZbA HX0.out k);have HGL:Hid ((grT l n P q x y j).length=NP-ofN l (k+1)):=hid (by rw[ZfA HN.out HX0.out j (by omega),hjn1]);obtain⟨R,hRe⟩:∃R,szN l (k+1)=R:=⟨_,rfl⟩;obtain⟨C,hCe⟩:∃C,szN l k=C:=⟨_,rfl⟩;obtain⟨M,hMe⟩:∃M,R*C=M:=⟨_,rfl⟩;obtain⟨o,hoe⟩:∃o,ofN l k=o:=⟨_,rfl⟩;obtain⟨ob,hobe⟩:∃ob,obN l k=ob:=⟨_,rfl⟩;obtain⟨o2,ho2e⟩:∃o2,ofN l (k+1)=o2:=⟨_,rfl⟩;rw[hRe,hCe,hMe,hoe,hobe] at hof;rw[hRe,ho2e,hobe] at hof2;rw[ho2e] at hmono ho HGL;rw[hRe] at hd hdn hRR HDL ⊢;rw[hCe] at hCC HTL;rw[hoe,hobe] at HC5;rw[hobe,ho2e] at HC6;have hM1:1<=M:=by rw[<-hMe];exact Nat.mul_pos hRR.2.1 hCC.2.1
  have HRE:=hid hRe;have HCE:=hid hCe;have HME:=hid hMe;have HOE:=hid hoe;have HOF:=hid hof;have HOF2:=hid hof2;have b0:wr.cell? ⟨nb,0,none⟩=some (.pointer (some ⟨bs,0,none⟩)):=hA.blk.cell 0;have lb:=hA.blk.lt;clear hRe hCe hMe hoe hobe ho2e hfit hob hof hof2;have HTR:=hid hTr;have HRR:=hid hRr;have HAR:=hid hA;have HDR:=hid hd;have HDN:=hid hdn;have HOR:=hid ho;have HBR:=hid hbut;have HBL:=hid hbel;have HJ:=hid hjk;clear hTr hRr hA hd hdn ho hbut hbel;go_wp2_with fail;refine ZaZ (Zag wr) (Zmn wr ((o:Int),(ob:Int)) ((ob:Int),(o2:Int))) ZpC [0,1,2,3,4,6,7,8,9,10] [5,11,12,13] [14,15] (by kernel_rfl) (by kernel_rfl) (Zag.start wr) ZpC.symm Zmn.below ?_;simp only[YaO,YaP,YaB,YaC];refine Zaa (.pointer (some ⟨nb,0,none⟩)) rfl (fun W hW=>?_) ?_
  ·obtain⟨hc,-,-⟩:=hW;go_simp
  go_simp;refine Zaa (.pointer (some ⟨nb,0,none⟩)) rfl (fun W hW=>?_) ?_
  ·obtain⟨hc,-,-⟩:=hW;go_simp
  go_simp;refine Zaa (.pointer (some ⟨nb,0,none⟩)) rfl (fun W hW=>?_) ?_
  ·obtain⟨hc,-,-⟩:=hW;go_simp
  go_simp;refine Zaa (.pointer (some ⟨bs,0,none⟩)) rfl (fun W hW=>?_) ?_
  ·obtain⟨hc,-,-⟩:=hW;go_simp
  go_simp;refine Zaa (.int .i64 k) rfl (fun W hW=>?_) ?_
  ·obtain⟨hc,-,-⟩:=hW;go_simp
  go_simp;refine Zaa (.pointer (some ⟨nb,0,none⟩)) rfl (fun W hW=>?_) ?_
  ·obtain⟨hc,-,-⟩:=hW;go_simp
  go_simp;refine Zaa (.pointer (some ⟨nb,0,none⟩)) rfl (fun W hW=>?_) ?_
  ·obtain⟨hc,-,-⟩:=hW;go_simp
  go_simp;refine Zaa (.pointer (some ⟨nb,0,none⟩)) rfl (fun W hW=>?_) ?_
  ·obtain⟨hc,-,-⟩:=hW;go_simp
  go_simp;refine Zaa (.pointer (some ⟨bs,0,none⟩)) rfl (fun W hW=>?_) ?_
  ·obtain⟨hc,-,-⟩:=hW;go_simp
  go_simp;refine Zaa (.int .i64 k) rfl (fun W hW=>?_) ?_
  ·obtain⟨hc,-,-⟩:=hW;go_simp
  go_simp;refine Zen.mk ?_ ?_
  ·intro j8 hj8 o ho8 vs W hS hV;simp only[List.mem_cons,List.not_mem_nil,or_false] at hj8;have HS:=hid hS;clear hS
   rcases hj8 with rfl|rfl|rfl|rfl
   ·cases ho8
    unfold Zbo;simp only[ZaL,ZaT,YaD,YaB,YaC,YaE];change wpList _ _ _ (_::[]) _ _;go_wp2_with fail;((with_reducible refine(HC5.out W (HAR.out.shp.below HS.out.2.2)).mono ?_);rintro e w8 ⟨rfl,hb8⟩);go_wp2_with fail;exact⟨HS.out.call hb8,Zmn.five,fun _ _ _ _=>ZpC.call (by decide)⟩
   ·cases ho8
    unfold Zbo;simp only[ZaL,ZaT,YaD,YaB,YaC,YaE];change wpList _ _ _ (_::[]) _ _;go_wp2_with fail;((with_reducible refine(HC6.out W (HAR.out.shp.below HS.out.2.2)).mono ?_);rintro e w8 ⟨rfl,hb8⟩);go_wp2_with fail;exact⟨HS.out.call hb8,Zmn.eleven,fun _ _ _ _=>ZpC.call (by decide)⟩
   all_goals cases ho8
   all_goals unfold Zbo
   all_goals simp only[ZaL,ZaT,YaD,YaB,YaC,YaE]
   all_goals change wpList _ _ _ (_::[]) _ _
   all_goals go_wp2_with fail
   all_goals exact⟨HS.out.alloc _,Zmn.box (by decide) HS.out,bA0 _,fun _ _ _ h=>ZpC.box h⟩
  ·intro vs W hS hV hR;have h5:=(hV 5 (by simp)).1 rfl;have h11:=(hV 11 (by simp)).2.1 rfl;obtain⟨ga,a1,a2,e12,hga,hba,-⟩:=(hV 12 (by simp)).2.2 (.inl rfl);obtain⟨gb,b1,b2,e13,hgb,hbb,-⟩:=(hV 13 (by simp)).2.2 (.inr rfl);have hne:ga≠gb:=by
    have h:=hR 12 (by simp) 13 (by simp) (by decide) (.inl rfl) (.inr rfl);rw[e12,e13] at h;exact fun e=>h (by rw[e])
   simp only[ZaL,ZaT,YaO,YaP,YaD,YaB,YaC,YaE];rw[h5,h11,e12,e13];have HS:=hid hS.2.2;have HBA:=hid hba;have HBB:=hid hbb;have HGA:=hid hga;have HGB:=hid hgb;have hne':=hne.symm;have k0:=hba.frozen 0;have k1:=hba.frozen 1;have k2:=hbb.frozen 0;have k3:=hbb.frozen 1;have c0:=hba.cell 0;have c1:=hba.cell 1;have c2:=hbb.cell 0;have c3:=hbb.cell 1;have l0:=hba.lt;have l1:=hbb.lt;clear hS hV hR h5 h11 e12 e13 hga hgb hba hbb b0 lb;change wpList _ _ _ (_::_::[]) _ _;go_wp2_with fail;refine NoPanic.normal ?_;obtain⟨hg1,hb1'⟩:=Zx8 HBA.out (.int .i64 o) (.int .i64 ob);have hbb1:=HBB.out.grown hg1 (by intro e;injection e with e;exact hne e.symm);obtain⟨hg2,hb2'⟩:=Zx8 hbb1 (.int .i64 ob) (.int .i64 o2);have hba2:=hb1'.grown hg2 (by intro e;injection e with e;exact hne e);have hbe:=Zai (Zai HS.out HS.out.size hg1 HGA.out) (YaH HS.out.size hg1.size) hg2 HGB.out;obtain⟨w7,hw7⟩:∃w7,(((W.setCell ⟨ga,0,none⟩ (.int .i64 o)).setCell ⟨ga,1,none⟩ (.int .i64 ob)).setCell ⟨gb,0,none⟩ (.int .i64 ob)).setCell ⟨gb,1,none⟩ (.int .i64 o2)=w7:=⟨_,rfl⟩;rw[hw7] at hb2' hba2 hbe ⊢;have HA7:=hid (HAR.out.below hbe);have HTR7:=hid (HTR.out.below hbe);have HRR7:=hid (Zac HRR.out hbe);have HD7:=hid (Zac HDR.out hbe);have HO7:=hid (Zac HOR.out hbe);have HBU7:=hid (HBR.out.call hbe);have HPA:=hid hba2;have HPB:=hid hb2';have HB7:=hid (bT0 HBL.out hbe);clear hw7 hb1' hbb1 hb2' hba2 hbe hg1 hg2 k0 k1 k2 k3 c0 c1 c2 c3 l0 l1 hne hne' HS HBA HBB HGA HGB HAR HTR HRR HDR HOR HBR HBL vs;go_wp2_with fail;obtain⟨⟨Ak,nk,ck⟩,hsk⟩:∃s,ss[k]?=some s:=⟨_,YaA (by have:=HSL.out;omega)⟩;obtain⟨hnk,hok⟩:=HTR7.out k _ hsk;dsimp only at hnk;rw[HCE.out] at hnk hok;subst hnk;obtain⟨gr,hgr,lgr,hcr⟩:=Zdw HRR7.out hsk (by omega);subst hgr;have hcr':w7.cell? ⟨gr,k,none⟩=some (.slice Ak nk ck):=hcr;have HTK:=hid hok;have HSK:=hid hsk;have p0:=HPA.out.cell 0;have p1:=HPA.out.cell 1;have lp:=HPA.out.lt;have n2:w7.cell? ⟨nb,2,none⟩=some (.int .i64 q):=HA7.out.blk.cell 2;have ln:=HA7.out.blk.lt;have i1:(0:Int)<=(k:Int):=by omega
   have i2:(k:Int)<(n:Int):=by omega
   obtain⟨Aw,hAw⟩:∃Aw,Zax (some ⟨go,0,none⟩) NP o=Aw:=⟨_,rfl⟩;have hsl:=fun W=>Zco (P:=prog) (T:=74) (A:=some ⟨go,0,none⟩) (n:=NP) (c:=NP) (e:=o) (e2:=ob) (k:=M) (c1:=NP-o) (P1:=Aw) underlying74 (fun W=>rfl) (by have:=HOF.out;omega) (by have:=HOF.out;have:=HOF2.out;omega) (by have:=HOF.out;omega) rfl hAw W
   have HAW:=hid hAw;have HOU:=hid (fun W (kk:Zag w7 W)=>ZoF R nk M D Ak dc ck (dlN l n P q x y j) (trN l n P q x k) q W ⟨hRR.2.1,hRR.2.2⟩ ⟨hCC.2.1,hCC.2.2⟩ HME.out ⟨hM1,by have:=HOF.out;have:=HOF2.out;omega⟩ HDL.out HTL.out (Rd.of_own (Zac HD7.out kk.2.2)) (Rd.of_own (Zac HTK.out kk.2.2)) (ZqG HXI.out j) (Zqt HXI.out k));clear hok hsk hcr hAw;refine Zad (Zag w7) [0,1,2,3,4,5,6,7,8,9,10,11,12,13,14] [15,16] [17] (by kernel_rfl) (by kernel_rfl) (Zag.start w7) ?_;simp only[YaO,YaP,YaB,YaC];refine Zaa (.slice (some ⟨go,0,none⟩) NP NP) rfl (fun W hW=>?_) ?_
   ·obtain⟨hc,-,-⟩:=hW;go_simp
   go_simp;refine Zaa (.pointer (some ⟨ga,0,none⟩)) rfl (fun W hW=>?_) ?_
   ·obtain⟨hc,-,-⟩:=hW;go_simp
   go_simp;refine Zaa (.int .i64 o) rfl (fun W hW=>?_) ?_
   ·obtain⟨hc,-,-⟩:=hW;go_simp
   go_simp;refine Zaa (.pointer (some ⟨ga,1,none⟩)) rfl (fun W hW=>?_) ?_
   ·obtain⟨hc,-,-⟩:=hW;go_simp
   go_simp;refine Zaa (.int .i64 ob) rfl (fun W hW=>?_) ?_
   ·obtain⟨hc,-,-⟩:=hW;go_simp
   go_simp;refine Zaa (.slice Aw M (NP-o)) rfl (fun W hW=>?_) ?_
   ·obtain⟨hc,-,-⟩:=hW;go_simp
   go_simp;refine Zaa (.slice D R dc) rfl (fun W hW=>?_) ?_
   ·obtain⟨hc,-,-⟩:=hW;go_simp
   go_simp;refine Zaa (.slice (some ⟨gr,0,none⟩) n cA) rfl (fun W hW=>?_) ?_
   ·obtain⟨hc,-,-⟩:=hW;go_simp
   go_simp;refine Zaa (.int .i64 k) rfl (fun W hW=>?_) ?_
   ·obtain⟨hc,-,-⟩:=hW;go_simp
   go_simp;refine Zaa (.pointer (some ⟨gr,k,none⟩)) rfl (fun W hW=>?_) ?_
   ·obtain⟨hc,-,-⟩:=hW;go_simp
   go_simp;refine Zaa (.slice Ak nk ck) rfl (fun W hW=>?_) ?_
   ·obtain⟨hc,-,-⟩:=hW;go_simp
   go_simp;refine Zaa (.pointer (some ⟨nb,0,none⟩)) rfl (fun W hW=>?_) ?_
   ·obtain⟨hc,-,-⟩:=hW;go_simp
   go_simp;refine Zaa (.pointer (some ⟨nb,0,none⟩)) rfl (fun W hW=>?_) ?_
   ·obtain⟨hc,-,-⟩:=hW;go_simp
   go_simp;refine Zaa (.pointer (some ⟨nb,2,none⟩)) rfl (fun W hW=>?_) ?_
   ·obtain⟨hc,-,-⟩:=hW;go_simp
   go_simp;refine Zaa (.int .i64 q) rfl (fun W hW=>?_) ?_
   ·obtain⟨hc,-,-⟩:=hW;go_simp
   go_simp;change Zah _ _ _ _ _ (_::_::[]) _ _;unfold Zah;go_wp2_with fail;((with_reducible refine(HOU.out _ (Zag.start w7)).mono ?_);rintro e w8 ⟨Ao,co,rfl,hoo,hb8⟩);have kk:=(Zag.start w7).call hb8;have HOO:=hid hoo;have HKK:=hid kk;clear hoo hb8 kk p0 p1 lp n2 ln hcr' lgr hsl;go_wp2_with fail;refine⟨HKK.out,?_⟩;unfold Zah;change wpList _ _ _ (_::[]) _ _;have hfd:(Instr.field 271 (.agg #[.int .i64 R,.int .i64 nk,.slice Ao M co]) 2).run prog w8=.ok (.slice Ao M co) w8:=rfl;go_wp2_with fail;refine⟨HKK.out,?_⟩;unfold Zah;change wpList _ _ _ (_::[]) _ _;have HO8:=hid (Zac HO7.out HKK.out.2.2);have HD8:=hid (Zac HD7.out HKK.out.2.2);have HPB8:=hid (HPB.out.kept HKK.out.2.2);have HZL:Hid ((Zas o2++grT l n P q x y j).length=NP):=hid (by rw[YaS,HGL.out,List.length_replicate];omega);have HOL:Hid ((Zl2 (dlN l n P q x y j) (trN l n P q x k) q).length=M):=hid (by rw[ZgM,HDL.out,HTL.out,HME.out]);have HFE:Hid (o+M<=NP):=hid (by have:=HOF.out;have:=HOF2.out;omega);have HOR8:=hid (Rd.of_own HOO.out);clear hfd
   go_wp2_with (refine ZbR rfl (.tmp 58) (.tmp 69) _ _ rfl underlying74 (by kernel_rfl) (some ⟨go,0,none⟩) NP NP o M (NP-o) (Zas o2++grT l n P q x y j) Ao co (Zl2 (dlN l n P q x y j) (trN l n P q x k) q) w.heap.size Aw HAW.out rfl rfl HO8.out HZL.out HFE.out HOL.out HOR8.out ?_;intro w9 hown9 hg9)
   refine NoPanic.normal ?_;have hlay1:=Zu7 (Z:=Zas o2) (G:=grT l n P q x y j) (o:=Zl2 (dlN l n P q x y j) (trN l n P q x k) q) (a:=o) (b:=o2) rfl (by rw[HOL.out];have:=HOF.out;have:=HOF2.out;omega);rw[HOL.out,show o2-o-M=R by have:=HOF.out;have:=HOF2.out;omega] at hlay1;rw[hlay1] at hown9;have HBU9:=hid ((HBU7.out.call HKK.out.2.2).trans (But.of_gr hg9 rfl));have HD9:=hid (Zaq HD8.out (But.of_gr (S:=fun b=>b=go) hg9 rfl) (fun g hg=>HDN.out g hg));have HPB9:=hid (HPB8.out.other HO8.out hg9 (by decide));have HO9:=hid hown9;obtain⟨Ab,hAb⟩:∃Ab,Zax (some ⟨go,0,none⟩) NP ob=Ab:=⟨_,rfl⟩;have hsl2:=fun W=>Zco (P:=prog) (T:=74) (A:=some ⟨go,0,none⟩) (n:=NP) (c:=NP) (e:=ob) (e2:=o2) (k:=R) (c1:=NP-ob) (P1:=Ab) underlying74 (fun W=>rfl) (by have:=HOF2.out;omega) (by omega) (by have:=HOF2.out;omega) rfl hAb W
   have HAB:=hid hAb;have p0:=HPB9.out.cell 0;have p1:=HPB9.out.cell 1;have lp:=HPB9.out.lt;have HZL2:Hid ((Zas o++Zl2 (dlN l n P q x y j) (trN l n P q x k) q++(Zas R++grT l n P q x y j)).length=NP):=hid (by
    simp only[YaS,HGL.out,HOL.out,List.length_replicate];have:=HOF.out;have:=HOF2.out
    omega)
   have HFE2:Hid (ob+R<=NP):=hid (by have:=HOF2.out;omega);have HDR9:=hid (Rd.of_own HD9.out);clear hown9 hg9 hlay1 hAb HO8 HD8 HPB8 HPA HPB HO7 HTR7 HRR7 HD7 HB7 HOO HOR8
   go_wp2_with (refine ZbR rfl (.tmp 76) (.tmp 77) _ _ rfl underlying74 (by kernel_rfl) (some ⟨go,0,none⟩) NP NP ob R (NP-ob) (Zas o++Zl2 (dlN l n P q x y j) (trN l n P q x k) q++(Zas R++grT l n P q x y j)) D dc (dlN l n P q x y j) w.heap.size Ab HAB.out rfl rfl HO9.out HZL2.out HFE2.out HDL.out HDR9.out ?_;intro w10 hown10 hg10)
   all_goals (
    have hlay2:=Zu8 (G:=grT l n P q x y j) (o:=Zl2 (dlN l n P q x y j) (trN l n P q x k) q) (d:=dlN l n P q x y j) (a:=o);rw[HOL.out,HDL.out,<-HSG.out,show o+M=ob by have:=HOF.out;omega] at hlay2;rw[hlay2] at hown10;have HO10:Hid (w10.ownsRow w.heap.size 2 1 (.slice (some ⟨go,0,none⟩) NP NP) NP (iv (Zas o++grT l n P q x y (j+1)))):=hid hown10;have hbut:=HBU9.out.trans (But.of_gr hg10 rfl);have hbel:Below w.heap.size w w10:=HB3.out.trans (hbut.below HB3.out.size (fun i hi=>by rw[hi];exact HGW.out));have HTR:=hid (show Zny w10 w.heap.size l (trN l n P q x) ss from fun i s hs=>⟨(HOK3.out i s hs).1,Zaq (HOK3.out i s hs).2 hbut (fun g hg=>HTG.out i s hs g hg)⟩);have HRR:=hid (Zaq HR3.out hbut (fun g hg=>HRG.out g hg));have HAR:=hid (HA.out.below hbel);have HD10:=hid (Zaq HD9.out (But.of_gr (S:=fun b=>b=go) hg10 rfl) (fun g hg=>HDN.out g hg));have HBR:=hid hbut;have HBL:=hid hbel;clear hown10 hg10 hlay2 hbut hbel p0 p1 lp hsl2 HO9 HD9 HDR9 HPB9 HBU9 HZL HZL2 HA7 HBU7)
   ·
    rename_i hz
    have hk0:k=0:=by simpa using hz
    rw[Exit.noGoto_ret]
    go_ret2
    refine⟨some ⟨go,0,none⟩,NP,rfl,?_,HBL.out⟩;have e1:o=0:=by rw[<-HOE.out,hk0];rfl
    have e2:j+1=n-1:=by have:=HJ.out;have:=HM1.out;omega
    have h:=HO10.out;rw[e1,e2] at h
    simpa [Zkw] using h
   ·
    rename_i hz _ _
    have hk0:k≠0:=by simpa using hz
    have hmn:=HNM.out;have hmm:=HM.out;have hjj:=HJ.out;obtain⟨⟨AV,cV,Ab2,cb⟩,hsk⟩:∃s,ls[k]?=some s:=⟨_,YaA (by rw[HAR.out.len];omega)⟩;obtain⟨hwt,-,-⟩:=HAR.out.wts k _ hsk;dsimp only at hwt;rw[HRE.out,HCE.out,HME.out] at hwt;obtain⟨gw,rfl⟩:=Zbw hwt (by omega);obtain⟨gl,hgl,lgl,hcl⟩:=Zin HAR.out.lrow hsk (by omega);subst hgl;have hle:lkE l k (some ⟨gw,0,none⟩,cV,Ab2,cb)=[.int .i64 R,.int .i64 nk,.slice (some ⟨gw,0,none⟩) M cV,.slice Ab2 R cb]:=by rw[<-HME.out,<-HRE.out,<-HCE.out];rfl
    rw[hle] at hcl;have l0:w10.cell? ⟨gl,k*4,none⟩=some (.int .i64 R):=hcl 0 (by omega);have l1:w10.cell? ⟨gl,k*4+1,none⟩=some (.int .i64 nk):=hcl 1 (by omega);have l2:w10.cell? ⟨gl,k*4+2,none⟩=some (.slice (some ⟨gw,0,none⟩) M cV):=hcl 2 (by omega);have n3:w10.cell? ⟨nb,3,none⟩=some (.slice (some ⟨gl,0,none⟩) m cl):=by have:=HAR.out.blk.cell 3;rw[HNM.out] at this;exact this
    have n2:w10.cell? ⟨nb,2,none⟩=some (.int .i64 q):=HAR.out.blk.cell 2;have ln:=HAR.out.blk.lt;have j2:(k:Int)<(m:Int):=by omega
    have HGW2:=hid hwt;have HBK:=hid (fun W (kk:Zag w10 W)=>ZqD R nk M cV gw 0 D dc (wtL l P k) (dlN l n P q x y j) q W ⟨by omega,by omega⟩ ⟨by omega,by omega⟩ HME.out (by have:=HFE.out;omega) (Zdu HGW2.out) (by have:=ZaG HGW2.out;obtain⟨_,_,hv,_,h2,_⟩:=this;injection hv with _ _ h3;rw[h3];unfold maxLen at h2;omega) (by have:=HGW2.out.1;rw[Zay] at this;omega) HDL.out (Rd.of_own (Zac HGW2.out kk.2.2)) (Rd.of_own (Zac HD10.out kk.2.2)) (fun v hv=>HN.out.pin v (List.mem_of_mem_drop (List.mem_of_mem_take hv))) (ZqG HXI.out j));have KS:Zag w10 w10.drew:=Zag.start w10;clear hwt hsk hcl hle hz
    go_region_held3 (fun w'=>Zag w10 w') (first|exact kk|exact KS) (first
     | (go_at_call 168;(with_reducible refine(HBK.out _ KS).mono ?_);rintro e w11 ⟨B,cB,rfl,hbo,hb11⟩;have kk:Zag w10 w11:=KS.call hb11;have HKB:=hid kk;have HBO:=hid hbo;clear hbo hb11))
    obtain⟨gB,rfl⟩:=Zbw HBO.out (by omega);obtain⟨Z,hZ⟩:∃Z,Zik (Zd5 (wtL l P k) R nk) (dlN l n P q x y j) q nk=Z:=⟨_,rfl⟩;have HBO':=HBO.out;rw[hZ] at HBO';have HZ0:=hid HBO';have HZE:=hid hZ;have HZLE:Hid (Z.length=nk):=hid (by have:=HBO'.1;rw[Zay] at this;omega);have HGB:Hid (w10.heap.size<=gB):=hid (HBO'.lt gB rfl).1;obtain⟨-,htk⟩:=HTR.out k _ HSK.out;rw[HCE.out] at htk;have HTK10:=hid htk;obtain⟨gr',hgr',lgr,hcr⟩:=Zdw (Zac HRR.out HKB.out.2.2) HSK.out (by omega);injection hgr' with hgr'
    injection hgr' with hgr'
    subst hgr';have hcr':w11.cell? ⟨gr,k,none⟩=some (.slice Ak nk ck):=hcr;clear HBO' hZ htk hcr l0 l1 l2 n3 n2 ln kk KS HBO;go_wp2_with fail;clear hcr' lgr
    go_loopw [103] (fun v wi=>∃i:Nat,i<=nk/\v=.int .i64 i/\wi.ownsRow w10.heap.size 2 1 (.slice (some ⟨gB,0,none⟩) nk cB) nk (iv (Zcq (trN l n P q x k) Z i))/\Below w10.heap.size w10 wi) (fun v _=>nk-(intOf v).toNat)
    case atStart=>exact⟨0,by omega,rfl,by rw[Zml];exact HZ0.out,HKB.out.2.2⟩
    case round=>
     obtain⟨i,hi,rfl,hz,hb⟩:=hrel
     by_cases hir:i<nk
     ·obtain⟨v,hv⟩:∃v,Z[i]?=some v:=⟨_,YaA (by rw[HZLE.out];exact hir)⟩;have hcv:wr.cell? ⟨gB,i,none⟩=some (.int .i64 v):=(hz.cellAt i (by omega)).trans (by rw[iv,YaR,ZoH hv];rfl);obtain⟨bk,ok,u,rfl,lbk,hu,cu⟩:=Zb9 HTL.out (Rd.of_own (Zac HTK10.out hb)) hir;obtain⟨gr',hgr',lgr,hcr⟩:=Zdw (Zac HRR.out hb) HSK.out (by omega);injection hgr' with hgr'
      injection hgr' with hgr'
      subst hgr';have hcr':wr.cell? ⟨gr,k,none⟩=some (.slice (some ⟨bk,ok,none⟩) nk ck):=hcr;obtain⟨cur,hcur⟩:=ZcO hz;have fz:wr.frozen? ⟨gB,i,none⟩=false:=by simp[World.frozen?,hcur]
      have lz:gB<wr.heap.size:=(hz.lt gB rfl).2;have h1:=hz.stored i (.int .i64 (Zb4 u v));rw[Zcv,ZoI hv hu] at h1;have HZ8:=hid h1.1;have HB8:=hid (Zai hb hb.size h1.2 HGB.out);have HGT:=hid (Zs5 u v wr);have r1:(0:Int)<=(i:Int):=by omega
      have r2:(i:Int)<(nk:Int):=by omega
      have HIR:=hid hir;clear hz hb hv hcur h1 hcr;go_wp2_with fail;((with_reducible refine HGT.out.mono ?_);rintro e w12 ⟨rfl,hw12⟩);subst hw12;go_wp2_with fail
      go_roundw
      case rel=>exact⟨i+1,HIR.out,by go_num,HZ8.out,HB8.out⟩
      case measure=>simp[intOf];have:=HIR.out;omega
     ·obtain rfl:i=nk:=by omega
      have HZ9:Hid (wr.ownsRow w.heap.size 2 1 (.slice (some ⟨gB,0,none⟩) i cB) i (iv (dlN l n P q x y (j+1)))):=hid (by
       rw[dlN,show n-2-j=k by have:=HJ.out;have:=HM1.out;omega,show n-1-j=k+1 by have:=HJ.out;have:=HM1.out;omega,HRE.out,HCE.out,HZE.out];exact Zae hz HBL.out.size)
      have HB9:=hid hb;obtain⟨k',hk'⟩:∃k',k=k'+1:=⟨k-1,by omega⟩;have hkw:IntKind.i64.wrap ((k:Int)-1)=(k':Int):=by rw[show (k:Int)-1=(k':Int) by omega];exact IntWalk.i64_in _ (by omega)
      have HK':=hid hk';clear hz hb hk';go_wp2_with fail
      go_roundw
      case rel=>
       have e1:k'+1=k:=HK'.out.symm;refine⟨j+1,k',some ⟨gB,0,none⟩,cB,by have:=HJ.out;omega,by rw[e1,HCE.out],rfl,by rw[e1,HCE.out];exact HZ9.out,?_,by rw[e1,HOE.out];exact Zac HO10.out HB9.out,HBR.out.call HB9.out⟩;rw[e1,HCE.out];intro g hg e;have h1:gB=g:=by simpa [Value.ownBlock] using hg
       have h2:=(HO10.out.lt go rfl).2;have h3:=HGB.out;omega
      case measure=>simp[intOf];have:=HK'.out;omega
theorem Zkx(a b:Nat)(w:World)(ha:a<=1000000000)(hb:b<=9223372036854775807) :
  Calls prog 81 #[.int .i64 a,.int .i64 b] w fun e w'=>e=.returned (.int .i64 (cnt a b))/\w=w':=by
 have h:=Zj9 a b w (by omega) (by omega) (by omega)
 simpa using h
theorem Zmp(n s:Int)(w:World)(hn:-9223372036854775808<=n)(hn2:n<=1000000000)(hs:s<=9223372036854775807)(h:n<1\/s<1) :
  Calls prog 77 #[.int .i64 n,.int .i64 s] w (Zal w 218 2 0 (rv [])):=by
 have H:=hid h;clear h
 go_enter func77,ntmps77
 go_wp2_with fail;((with_reducible refine(Zj9 n s _ (by omega) (by omega) (by omega)).mono ?_);rintro e w1 ⟨rfl,rfl⟩);rw[<-Zgj n s H.out];go_wp2_with fail
 go_loop [5,11] (fun v c=>v=.slice none 0 0/\c=.int .i64 0) (fun _ c=>0)
 case atStart=>exact⟨rfl,rfl⟩
 case round=>
  obtain⟨rfl,rfl⟩:=hrel;go_wp2;go_ret;exact⟨none,0,rfl,World.ownsRow_nil _ _ _ _,bR0 _ _⟩
theorem ZdX(a b:Nat)(w:World)(ha1:1<=a)(ha:a<=10000000)(hb1:1<=b)(hb:b<=9223372036854775807) :
  Calls prog 77 #[.int .i64 a,.int .i64 b] w (Zal w 218 2 (cnt a b) (rv (Zat a b))):=by
 go_enter func77,ntmps77
 go_wp2_with fail;((with_reducible refine(Zkx a b _ (by omega) (by omega)).mono ?_);rintro e w1 ⟨rfl,rfl⟩);have hc:=Zck a b;go_wp2_with fail
 go_loopw [5,11] (fun v c wr=>∃i:Nat,i<=cnt a b/\c=.int .i64 i/\ZiZ w 218 (Zat a b) i v wr) (fun _ c _=>cnt a b-(intOf c).toNat)
 case atStart=>exact⟨0,by omega,rfl,ZiZ.start _ _ _⟩
 case round=>
  obtain⟨i,hi,rfl,hcoll⟩:=hrel
  by_cases hlt:i<cnt a b
  ·have hin:=(ZfL a b i ha1 hb1).1 hlt;have HX:=hid (ZeJ a b i hlt);obtain⟨q,hq⟩:∃q,i*b=q:=⟨_,rfl⟩;have hq':(i:Int)*(b:Int)=(q:Int):=by rw[<-hq];simp
   rw[hq] at HX hin;clear hq
   by_cases hm:b<=a-q
   all_goals
    go_wp2_with (at_builtin;refine Zav ZfN rfl _ _ rfl w.heap.size _ i (rv ((Zat a b).take i)) rfl hcoll.2.1 _ _ rfl (by simp) rfl (Za4 _ _) (by unfold maxLen;omega) (by omega) hcoll.2.2.size ?_;intro A' cap' w1 hown1 hb1)
    go_roundw
    case rel=>exact⟨i+1,by omega,by go_num,hcoll.next (by first|(have:=HX.out;rw[Nat.min_eq_left hm] at this;exact hid this)|(have:=HX.out;rw[Nat.min_eq_right (by omega),show ((q+(a-q):Nat):Int)=(q:Int)+((a:Int)-(q:Int)) by omega] at this;exact hid this)) hown1 hb1⟩
    case measure=>simp[intOf];omega
  ·go_wp2;go_ret;exact hcoll.done (hid (Zan a b)) hi hlt
def ZjY{α:Type}(l:List α)(k:Nat):List α:=(List.range l.length).filterMap fun x=>if x<k\/l.length-k<=x then l[l.length-1-x]? else l[x]?
theorem Zjd{α β:Type}(f:α->Option β)(l:List α)(h:∀x∈l,(f x).isSome=true)(i:Nat):(l.filterMap f)[i]?=(l[i]?).bind f:=by
 induction l generalizing i with
 |nil=>simp
 |cons a l ih=>
  obtain⟨b,hb⟩:=Option.isSome_iff_exists.1 (h a (by simp));rw[List.filterMap_cons_some hb]
  cases i with
  |zero=>simp[hb]
  |succ i=>simpa using ih (fun x hx=>h x (by simp[hx])) i
theorem ZqH{α:Type}(l:List α)(k:Nat):∀x∈List.range l.length,((fun x=>if x<k\/l.length-k<=x then l[l.length-1-x]? else l[x]?) x).isSome=true:=by
 intro x hx;simp only[List.mem_range] at hx;dsimp only
 split
 ·rw[YaA (by omega)];rfl
 ·rw[YaA hx];rfl
theorem Zc0{α:Type}(l:List α)(k x:Nat)(hx:x<l.length):(ZjY l k)[x]?=if x<k\/l.length-k<=x then l[l.length-1-x]? else l[x]?:=by
 unfold ZjY;rw[Zjd _ _ (ZqH l k),List.getElem?_range hx];rfl
theorem Zbl{α:Type}(l:List α)(k:Nat):(ZjY l k).length=l.length:=by
 apply Nat.le_antisymm
 ·exact YaH (List.length_filterMap_le _ _) (by simp)
 ·rcases Nat.lt_or_ge (ZjY l k).length l.length with h|h
  ·have h1:=Zc0 l k (ZjY l k).length h;rw[YaN (YaF _)] at h1
   exfalso
   split at h1
   ·rw[YaA (by omega)] at h1;cases h1
   ·rw[YaA h] at h1;cases h1
  ·exact h
theorem ZqI{α:Type}(l:List α):ZjY l 0=l:=by
 apply List.ext_getElem?
 intro i
 by_cases h:i<l.length
 ·rw[Zc0 l 0 i h,if_neg (by omega)]
 ·rw[YaN (by rw[Zbl];omega),YaN (by omega)]
theorem ZqJ{α:Type}(l:List α)(k:Nat)(h:l.length<=2*k+1):ZjY l k=l.reverse:=by
 apply List.ext_getElem?
 intro i
 by_cases hi:i<l.length
 ·rw[Zc0 l k i hi,List.getElem?_reverse hi]
  split
  ·rfl
  ·congr 1;omega
 ·rw[YaN (by rw[Zbl];omega),YaN (by simp;omega)]
theorem ZqK{α:Type}(l:List α)(k j:Nat)(a b:α)(hj:k+j+1=l.length)(hlt:k<j)(ha:(ZjY l k)[k]?=some a)(hb:(ZjY l k)[j]?=some b):((ZjY l k).set k b).set j a=ZjY l (k+1):=by
 apply List.ext_getElem?
 intro i
 by_cases hi:i<l.length
 ·rw[List.getElem?_set,List.getElem?_set,Zc0 l (k+1) i hi];rw[Zc0 l k k (by omega),if_neg (by omega)] at ha;rw[Zc0 l k j (by omega),if_neg (by omega)] at hb
  by_cases e1:j=i
  ·subst e1;rw[if_pos rfl,if_pos (by simp[Zbl];omega),if_pos (by omega),<-ha]
   congr 1;omega
  ·rw[if_neg e1]
   by_cases e2:k=i
   ·subst e2;rw[if_pos rfl,if_pos (by rw[Zbl];omega),if_pos (by omega),<-hb]
    congr 1;omega
   ·rw[if_neg e2,Zc0 l k i hi]
    by_cases h3:i<k\/l.length-k<=i
    ·rw[if_pos h3,if_pos (by omega)]
    ·rw[if_neg h3,if_neg (by omega)]
 ·rw[YaN (by simp[Zbl];omega),YaN (by rw[Zbl];omega)]
end
theorem Zuk(l:List (Int×Int))(k:Nat)(x y:Int):((rv l).set (k*2) (.int .i64 x)).set (k*2+1) (.int .i64 y)=rv (l.set k (x,y)):=by
 induction l generalizing k with
 |nil=>simp[rv]
 |cons r l ih=>
  obtain⟨a,b⟩:=r
  cases k with
  |zero=>simp[ZiY]
  |succ k=>
   rw[show (k+1)*2=k*2+2 by omega,ZiY];simp only[List.set_cons_succ,ZiY];rw[ih k]
