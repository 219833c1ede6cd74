/- Lemmas. -/
import Derived.Test.YtkmaeipoaoikpaaGreatEC09
namespace Go.Proofs.YtkmaeipoaoikpaaGreat
set_option linter.all false
set_option maxRecDepth 100000
set_option maxHeartbeats 4000000
open Lib (hid)
open Go.RowKit
open Tryz
theorem Zny(sd:Bool)(i m c Bj Bp Br Bl:Nat)(A:Option Addr)(w:World)(hmi:m<=i)(hi:i<=1000000) :
  Calls prog 262 #[.bool sd,.int .i64 i,.slice A m c,.pointer (some ⟨Bj,0,none⟩),.pointer (some ⟨Bp,0,none⟩),.pointer (some ⟨Br,0,none⟩),.pointer (some ⟨Bl,0,none⟩)] w fun e w'=>e=.returned (.tuple #[])/\w=w':=by
 go_enter func262,ntmps262
 go_wp2_with fail
 go_end0
 exact⟨rfl,rfl⟩
def ZuY(base n Bl:Nat)(L:List Zde)(w:World)(e:Ending)(w':World):Prop:=
 e=.returned (.tuple #[])/\∃A' cap',Boxed w' Bl 381 (.slice A' n cap')/\w'.ownsRow base 220 9 (.slice A' n cap') n (Zd3 L)/\But (fun q=>q=Bl\/base<=q) w w'
theorem Zs6(p:Int)(i m c base n c0:Nat)(s b lo hi mm cc r x y:Int)(A A0:Option Addr)(Bj Bp Br Bl:Nat)(L:List Zde)(ys:List (Int×Int))(w:World)(him:i<m)(hm:m<=1000000)(hyl:ys.length=m)(hy:ys[i]?=some (x,y))(hR:Rd w 2 A m (rv ys))
  (hJ:Blk w Bj 380 #[.int .i64 s,.int .i64 b,.int .i64 lo,.int .i64 hi,.int .i64 mm,.int .i64 cc]) (hP:Boxed w Bp 3 (.int .i64 p)) (hRr:Boxed w Br 3 (.int .i64 r)) (hL:Boxed w Bl 381 (.slice A0 n c0)) (hown:w.ownsRow base 220 9 (.slice A0 n c0) n (Zd3 L)) (hn:n<=1000000) (hbase:base<=w.heap.size) :
  Calls prog 262 #[.bool true,.int .i64 i,.slice A m c,.pointer (some ⟨Bj,0,none⟩),.pointer (some ⟨Bp,0,none⟩),.pointer (some ⟨Br,0,none⟩),.pointer (some ⟨Bl,0,none⟩)] w (ZuY base (n+1) Bl (L++[((true,false),(s,b,p,r,(i:Int)),(x,y))]) w):=by
 obtain⟨g,o,x',y',rfl,hg,hxy,e0,e1⟩:=Zdn hyl hR him;rw[hy] at hxy;injection hxy with hxy
 injection hxy with e2 e3
 subst e2 e3;have j0:w.cell? ⟨Bj,0,none⟩=some (.int .i64 s):=hJ.cell 0;have j1:w.cell? ⟨Bj,1,none⟩=some (.int .i64 b):=hJ.cell 1;have p0:=hP.cell;have r0:=hRr.cell;have lj:=hJ.lt;have lp:=hP.lt;have lr:=hRr.lt;have ll:=hL.lt;have i1:(0:Int)<=(i:Int):=by omega
 have i2:(i:Int)<(m:Int):=by omega
 have HL:=hid hL;have HO:=hid hown;have HP:=hid hP;have HE:=hid (And.intro e0 e1);clear hJ hP hRr hL hown hR hyl hy e0 e1
 go_enter func262,ntmps262
 go_wp2_with fail;obtain⟨w1,hw1⟩:∃w1,w.alloc (.cells #[.int .i64 s,.int .i64 b,.int .i64 p,.int .i64 r,.int .i64 i] 216)=w1:=⟨_,rfl⟩;have k1:Below w.heap.size w w1:=by rw[<-hw1];exact bA0 _
 have t1:Blk w1 w.heap.size 216 #[.int .i64 s,.int .i64 b,.int .i64 p,.int .i64 r,.int .i64 i]:=by rw[<-hw1];exact Blk.new _ _ _
 rw[hw1];clear hw1 j0 j1 p0 r0 lj lr;have t0c:w1.cell? ⟨w.heap.size,0,none⟩=some (.int .i64 s):=t1.cell 0;have t1c:w1.cell? ⟨w.heap.size,1,none⟩=some (.int .i64 b):=t1.cell 1;have t2c:w1.cell? ⟨w.heap.size,2,none⟩=some (.int .i64 p):=t1.cell 2;have t3c:w1.cell? ⟨w.heap.size,3,none⟩=some (.int .i64 r):=t1.cell 3;have t4c:w1.cell? ⟨w.heap.size,4,none⟩=some (.int .i64 i):=t1.cell 4;have tl:=t1.lt;have hL1:Boxed w1 Bl 381 (.slice A0 n c0):=Blk.kept HL.out k1;have hP1:Boxed w1 Bp 3 (.int .i64 p):=Blk.kept HP.out k1;have l0:=hL1.cell;have pp:=hP1.cell;have e0:w1.cell? ⟨g,o+i*2,none⟩=some (.int .i64 x):=(k1.cell (p:=⟨g,o+i*2,none⟩) hg).trans HE.out.1;have e1:w1.cell? ⟨g,o+i*2+1,none⟩=some (.int .i64 y):=(k1.cell (p:=⟨g,o+i*2+1,none⟩) hg).trans HE.out.2;have ls:=k1.size;have g1:g<w1.heap.size:=by omega
 have g2:Bl<w1.heap.size:=by omega
 have g3:Bp<w1.heap.size:=by omega
 have HL1:=hid hL1;have HO1:=hid (Zac HO.out k1);have HK1:=hid k1;clear hL1 hP1 t1 k1 lp ll hg;refine Zad (Zag w1) [0,1,2,3,4,5,6,7,8,9,10,11,12,13] [14] [15,16] (by kernel_rfl) (by kernel_rfl) (Zag.start w1) ?_;simp only[YaO,YaP,YaB,YaC];refine Zaa (.slice A0 n c0) rfl (fun W hW=>?_) ?_
 ·obtain⟨hc,-,-⟩:=hW;go_simp
 go_simp;refine Zaa (.bool true) rfl (fun W hW=>?_) ?_
 ·obtain⟨hc,-,-⟩:=hW;go_simp
 go_simp;refine Zaa (.bool true) rfl (fun W hW=>?_) ?_
 ·obtain⟨hc,-,-⟩:=hW;go_simp
 go_simp;refine Zaa (.bool false) rfl (fun W hW=>?_) ?_
 ·obtain⟨hc,-,-⟩:=hW;go_simp
 go_simp;refine Zaa (.bool false) rfl (fun W hW=>?_) ?_
 ·obtain⟨hc,-,-⟩:=hW;go_simp
 go_simp;refine⟨undef,.inr ⟨rfl,rfl⟩,?_⟩;go_simp;refine⟨undef,.inr ⟨rfl,rfl⟩,?_⟩;go_simp;refine Zaa (.bool false) rfl (fun W hW=>?_) ?_
 ·obtain⟨hc,-,-⟩:=hW;go_simp
 go_simp;refine Zaa (.agg #[.int .i64 s,.int .i64 b,.int .i64 p,.int .i64 r,.int .i64 i]) rfl (fun W hW=>?_) ?_
 ·obtain⟨hc,-,-⟩:=hW;go_simp
 go_simp;refine Zaa (.slice (some ⟨g,o,none⟩) m c) rfl (fun W hW=>?_) ?_
 ·obtain⟨hc,-,-⟩:=hW;go_simp
 go_simp;refine Zaa (.int .i64 i) rfl (fun W hW=>?_) ?_
 ·obtain⟨hc,-,-⟩:=hW;go_simp
 go_simp;refine Zaa (.pointer (some ⟨g,o+i*2,none⟩)) rfl (fun W hW=>?_) ?_
 ·obtain⟨hc,-,-⟩:=hW;go_simp
 go_simp;refine Zaa (.agg #[.int .i64 x,.int .i64 y]) rfl (fun W hW=>?_) ?_
 ·obtain⟨hc,-,-⟩:=hW;go_simp
 go_simp;refine Zaa (.agg #[.bool true,.bool false,.int .i64 s,.int .i64 b,.int .i64 p,.int .i64 r,.int .i64 i,.int .i64 x,.int .i64 y]) rfl (fun W hW=>?_) ?_
 ·obtain⟨hc,-,-⟩:=hW;go_simp
 go_simp;change Zah _ _ _ _ _ (_::[]) _ _;unfold Zah;go_wp2_with fail;refine⟨(Zag.start w1).alloc _,?_⟩;unfold Zah;clear t0c t1c t2c t3c t4c l0 pp e0 e1;change wpList _ _ _ (_::_::[]) _ (w1.drew.alloc (.cells #[.bool true,.bool false,.int .i64 s,.int .i64 b,.int .i64 p,.int .i64 r,.int .i64 i,.int .i64 x,.int .i64 y] 220));have HL2:=hid (Blk.drew HL1.out);have HO2:=hid (ZbB HO1.out 1);have hz1:base<=w1.drew.heap.size:=by show base<=w1.heap.size;omega
 go_wp2_with (at_builtin;go_must (refine ZaM ZuX rfl _ _ rfl base _ n (Zd3 L) rfl HO2.out (ZlB ((true,false),(s,b,p,r,(i:Int)),(x,y))).toArray w1.heap.size rfl rfl rfl (Zcf _) (by unfold maxLen;omega) (by omega) hz1 ?_);intro A' cap' w3 hown3 hb3 hgr3;(have HL3:=hid (Blk.other HL2.out HO2.out hgr3 (by decide)));(have v0:w3.cell? ⟨Bl,0,none⟩=some (.slice A0 n c0):=HL3.out.cell 0);(have f0:=HL3.out.frozen 0))
 refine NoPanic.normal ?_;go_wp2_with fail
 go_end0
 have hb:Boxed w3 Bl 381 (.slice A0 n c0):=HL3.out;refine⟨rfl,A',cap',hb.set _,?_,?_⟩
 ·rw[ZcT,Zgd];exact hown3.kept (grownBy_setCell' _ _ _) (.inr (Zab hown3 HL3.out (by decide)))
 ·exact((But.of_below _ HK1.out).trans (But.of_below _ (bR0 _ _).drew)).trans ((But.of_own hgr3 (fun q hq=>.inr (HO1.out.lt q hq).1)).trans (But.of_gr (grownBy_setCell' _ _ _) (.inl rfl)))
theorem ZqI(i m c base n c0:Nat)(s b lo hi mm cc r x y:Int)(A A0:Option Addr)(Bj Bp Br Bl:Nat)(L:List Zde)(ys:List (Int×Int))(w:World)(him:i<m)(hm:m<=1000000)(hyl:ys.length=m)(hy:ys[i]?=some (x,y))(hR:Rd w 2 A m (rv ys))
  (hJ:Blk w Bj 380 #[.int .i64 s,.int .i64 b,.int .i64 lo,.int .i64 hi,.int .i64 mm,.int .i64 cc]) (hP:Boxed w Bp 3 (.int .i64 0)) (hRr:Boxed w Br 3 (.int .i64 r)) (hL:Boxed w Bl 381 (.slice A0 n c0)) (hown:w.ownsRow base 220 9 (.slice A0 n c0) n (Zd3 L)) (hn:n<=1000000) (hbase:base<=w.heap.size) :
  Calls prog 262 #[.bool false,.int .i64 i,.slice A m c,.pointer (some ⟨Bj,0,none⟩),.pointer (some ⟨Bp,0,none⟩),.pointer (some ⟨Br,0,none⟩),.pointer (some ⟨Bl,0,none⟩)] w (ZuY base (n+1) Bl (L++[((false,true),(s,b,0,r,(i:Int)),(x,y))]) w):=by
 obtain⟨g,o,x',y',rfl,hg,hxy,e0,e1⟩:=Zdn hyl hR him;rw[hy] at hxy;injection hxy with hxy
 injection hxy with e2 e3
 subst e2 e3;have j0:w.cell? ⟨Bj,0,none⟩=some (.int .i64 s):=hJ.cell 0;have j1:w.cell? ⟨Bj,1,none⟩=some (.int .i64 b):=hJ.cell 1;have p0:=hP.cell;have r0:=hRr.cell;have lj:=hJ.lt;have lp:=hP.lt;have lr:=hRr.lt;have ll:=hL.lt;have i1:(0:Int)<=(i:Int):=by omega
 have i2:(i:Int)<(m:Int):=by omega
 have HL:=hid hL;have HO:=hid hown;have HP:=hid hP;have HE:=hid (And.intro e0 e1);clear hJ hP hRr hL hown hR hyl hy e0 e1
 go_enter func262,ntmps262
 go_wp2_with fail;obtain⟨w1,hw1⟩:∃w1,w.alloc (.cells #[.int .i64 s,.int .i64 b,.int .i64 0,.int .i64 r,.int .i64 i] 216)=w1:=⟨_,rfl⟩;have k1:Below w.heap.size w w1:=by rw[<-hw1];exact bA0 _
 have t1:Blk w1 w.heap.size 216 #[.int .i64 s,.int .i64 b,.int .i64 0,.int .i64 r,.int .i64 i]:=by rw[<-hw1];exact Blk.new _ _ _
 rw[hw1];clear hw1 j0 j1 p0 r0 lj lr;have t0c:w1.cell? ⟨w.heap.size,0,none⟩=some (.int .i64 s):=t1.cell 0;have t1c:w1.cell? ⟨w.heap.size,1,none⟩=some (.int .i64 b):=t1.cell 1;have t2c:w1.cell? ⟨w.heap.size,2,none⟩=some (.int .i64 0):=t1.cell 2;have t3c:w1.cell? ⟨w.heap.size,3,none⟩=some (.int .i64 r):=t1.cell 3;have t4c:w1.cell? ⟨w.heap.size,4,none⟩=some (.int .i64 i):=t1.cell 4;have tl:=t1.lt;have hL1:Boxed w1 Bl 381 (.slice A0 n c0):=Blk.kept HL.out k1;have hP1:Boxed w1 Bp 3 (.int .i64 0):=Blk.kept HP.out k1;have l0:=hL1.cell;have pp:=hP1.cell;have e0:w1.cell? ⟨g,o+i*2,none⟩=some (.int .i64 x):=(k1.cell (p:=⟨g,o+i*2,none⟩) hg).trans HE.out.1;have e1:w1.cell? ⟨g,o+i*2+1,none⟩=some (.int .i64 y):=(k1.cell (p:=⟨g,o+i*2+1,none⟩) hg).trans HE.out.2;have ls:=k1.size;have g1:g<w1.heap.size:=by omega
 have g2:Bl<w1.heap.size:=by omega
 have g3:Bp<w1.heap.size:=by omega
 have HL1:=hid hL1;have HO1:=hid (Zac HO.out k1);have HK1:=hid k1;clear hL1 hP1 t1 k1 lp ll hg;refine Zad (Zag w1) [0,1,2,3,4,5,6,7,8,9,10,11,12,13] [14] [15,16] (by kernel_rfl) (by kernel_rfl) (Zag.start w1) ?_;simp only[YaO,YaP,YaB,YaC];refine Zaa (.slice A0 n c0) rfl (fun W hW=>?_) ?_
 ·obtain⟨hc,-,-⟩:=hW;go_simp
 go_simp;refine Zaa (.bool false) rfl (fun W hW=>?_) ?_
 ·obtain⟨hc,-,-⟩:=hW;go_simp
 go_simp;refine Zaa (.bool false) rfl (fun W hW=>?_) ?_
 ·obtain⟨hc,-,-⟩:=hW;go_simp
 go_simp;refine Zaa (.bool true) rfl (fun W hW=>?_) ?_
 ·obtain⟨hc,-,-⟩:=hW;go_simp
 go_simp;refine Zaa (.bool true) rfl (fun W hW=>?_) ?_
 ·obtain⟨hc,-,-⟩:=hW;go_simp
 go_simp;refine Zaa (.int .i64 0) rfl (fun W hW=>?_) ?_
 ·obtain⟨hc,-,-⟩:=hW;go_simp
 go_simp;refine Zaa (.bool true) rfl (fun W hW=>?_) ?_
 ·obtain⟨hc,-,-⟩:=hW;go_simp
 go_simp;refine Zaa (.bool true) rfl (fun W hW=>?_) ?_
 ·obtain⟨hc,-,-⟩:=hW;go_simp
 go_simp;refine Zaa (.agg #[.int .i64 s,.int .i64 b,.int .i64 0,.int .i64 r,.int .i64 i]) rfl (fun W hW=>?_) ?_
 ·obtain⟨hc,-,-⟩:=hW;go_simp
 go_simp;refine Zaa (.slice (some ⟨g,o,none⟩) m c) rfl (fun W hW=>?_) ?_
 ·obtain⟨hc,-,-⟩:=hW;go_simp
 go_simp;refine Zaa (.int .i64 i) rfl (fun W hW=>?_) ?_
 ·obtain⟨hc,-,-⟩:=hW;go_simp
 go_simp;refine Zaa (.pointer (some ⟨g,o+i*2,none⟩)) rfl (fun W hW=>?_) ?_
 ·obtain⟨hc,-,-⟩:=hW;go_simp
 go_simp;refine Zaa (.agg #[.int .i64 x,.int .i64 y]) rfl (fun W hW=>?_) ?_
 ·obtain⟨hc,-,-⟩:=hW;go_simp
 go_simp;refine Zaa (.agg #[.bool false,.bool true,.int .i64 s,.int .i64 b,.int .i64 0,.int .i64 r,.int .i64 i,.int .i64 x,.int .i64 y]) rfl (fun W hW=>?_) ?_
 ·obtain⟨hc,-,-⟩:=hW;go_simp
 go_simp;change Zah _ _ _ _ _ (_::[]) _ _;unfold Zah;go_wp2_with fail;refine⟨(Zag.start w1).alloc _,?_⟩;unfold Zah;clear t0c t1c t2c t3c t4c l0 pp e0 e1;change wpList _ _ _ (_::_::[]) _ (w1.drew.alloc (.cells #[.bool false,.bool true,.int .i64 s,.int .i64 b,.int .i64 0,.int .i64 r,.int .i64 i,.int .i64 x,.int .i64 y] 220));have HL2:=hid (Blk.drew HL1.out);have HO2:=hid (ZbB HO1.out 1);have hz1:base<=w1.drew.heap.size:=by show base<=w1.heap.size;omega
 go_wp2_with (at_builtin;go_must (refine ZaM ZuX rfl _ _ rfl base _ n (Zd3 L) rfl HO2.out (ZlB ((false,true),(s,b,0,r,(i:Int)),(x,y))).toArray w1.heap.size rfl rfl rfl (Zcf _) (by unfold maxLen;omega) (by omega) hz1 ?_);intro A' cap' w3 hown3 hb3 hgr3;(have HL3:=hid (Blk.other HL2.out HO2.out hgr3 (by decide)));(have v0:w3.cell? ⟨Bl,0,none⟩=some (.slice A0 n c0):=HL3.out.cell 0);(have f0:=HL3.out.frozen 0))
 refine NoPanic.normal ?_;go_wp2_with fail
 go_end0
 have hb:Boxed w3 Bl 381 (.slice A0 n c0):=HL3.out;refine⟨rfl,A',cap',hb.set _,?_,?_⟩
 ·rw[ZcT,Zgd];exact hown3.kept (grownBy_setCell' _ _ _) (.inr (Zab hown3 HL3.out (by decide)))
 ·exact((But.of_below _ HK1.out).trans (But.of_below _ (bR0 _ _).drew)).trans ((But.of_own hgr3 (fun q hq=>.inr (HO1.out.lt q hq).1)).trans (But.of_gr (grownBy_setCell' _ _ _) (.inl rfl)))
theorem ZqJ(i m c base n c0:Nat)(s b lo hi mm cc r x y:Int)(A A0:Option Addr)(Bj Bp Br Bl:Nat)(L:List Zde)(ys:List (Int×Int))(w:World)(him:i<m)(hm:m<=1000000)(hyl:ys.length=m)(hy:ys[i]?=some (x,y))(hR:Rd w 2 A m (rv ys))
  (hJ:Blk w Bj 380 #[.int .i64 s,.int .i64 b,.int .i64 lo,.int .i64 hi,.int .i64 mm,.int .i64 cc]) (hP:Boxed w Bp 3 (.int .i64 1)) (hRr:Boxed w Br 3 (.int .i64 r)) (hL:Boxed w Bl 381 (.slice A0 n c0)) (hown:w.ownsRow base 220 9 (.slice A0 n c0) n (Zd3 L)) (hn:n<=1000000) (hbase:base<=w.heap.size) :
  Calls prog 262 #[.bool false,.int .i64 i,.slice A m c,.pointer (some ⟨Bj,0,none⟩),.pointer (some ⟨Bp,0,none⟩),.pointer (some ⟨Br,0,none⟩),.pointer (some ⟨Bl,0,none⟩)] w (ZuY base (n+1) Bl (L++[((false,false),(s,b,1,r,(i:Int)),(x,y))]) w):=by
 obtain⟨g,o,x',y',rfl,hg,hxy,e0,e1⟩:=Zdn hyl hR him;rw[hy] at hxy;injection hxy with hxy
 injection hxy with e2 e3
 subst e2 e3;have j0:w.cell? ⟨Bj,0,none⟩=some (.int .i64 s):=hJ.cell 0;have j1:w.cell? ⟨Bj,1,none⟩=some (.int .i64 b):=hJ.cell 1;have p0:=hP.cell;have r0:=hRr.cell;have lj:=hJ.lt;have lp:=hP.lt;have lr:=hRr.lt;have ll:=hL.lt;have i1:(0:Int)<=(i:Int):=by omega
 have i2:(i:Int)<(m:Int):=by omega
 have HL:=hid hL;have HO:=hid hown;have HP:=hid hP;have HE:=hid (And.intro e0 e1);clear hJ hP hRr hL hown hR hyl hy e0 e1
 go_enter func262,ntmps262
 go_wp2_with fail;obtain⟨w1,hw1⟩:∃w1,w.alloc (.cells #[.int .i64 s,.int .i64 b,.int .i64 1,.int .i64 r,.int .i64 i] 216)=w1:=⟨_,rfl⟩;have k1:Below w.heap.size w w1:=by rw[<-hw1];exact bA0 _
 have t1:Blk w1 w.heap.size 216 #[.int .i64 s,.int .i64 b,.int .i64 1,.int .i64 r,.int .i64 i]:=by rw[<-hw1];exact Blk.new _ _ _
 rw[hw1];clear hw1 j0 j1 p0 r0 lj lr;have t0c:w1.cell? ⟨w.heap.size,0,none⟩=some (.int .i64 s):=t1.cell 0;have t1c:w1.cell? ⟨w.heap.size,1,none⟩=some (.int .i64 b):=t1.cell 1;have t2c:w1.cell? ⟨w.heap.size,2,none⟩=some (.int .i64 1):=t1.cell 2;have t3c:w1.cell? ⟨w.heap.size,3,none⟩=some (.int .i64 r):=t1.cell 3;have t4c:w1.cell? ⟨w.heap.size,4,none⟩=some (.int .i64 i):=t1.cell 4;have tl:=t1.lt;have hL1:Boxed w1 Bl 381 (.slice A0 n c0):=Blk.kept HL.out k1;have hP1:Boxed w1 Bp 3 (.int .i64 1):=Blk.kept HP.out k1;have l0:=hL1.cell;have pp:=hP1.cell;have e0:w1.cell? ⟨g,o+i*2,none⟩=some (.int .i64 x):=(k1.cell (p:=⟨g,o+i*2,none⟩) hg).trans HE.out.1;have e1:w1.cell? ⟨g,o+i*2+1,none⟩=some (.int .i64 y):=(k1.cell (p:=⟨g,o+i*2+1,none⟩) hg).trans HE.out.2;have ls:=k1.size;have g1:g<w1.heap.size:=by omega
 have g2:Bl<w1.heap.size:=by omega
 have g3:Bp<w1.heap.size:=by omega
 have HL1:=hid hL1;have HO1:=hid (Zac HO.out k1);have HK1:=hid k1;clear hL1 hP1 t1 k1 lp ll hg;refine Zad (Zag w1) [0,1,2,3,4,5,6,7,8,9,10,11,12,13] [14] [15,16] (by kernel_rfl) (by kernel_rfl) (Zag.start w1) ?_;simp only[YaO,YaP,YaB,YaC];refine Zaa (.slice A0 n c0) rfl (fun W hW=>?_) ?_
 ·obtain⟨hc,-,-⟩:=hW;go_simp
 go_simp;refine Zaa (.bool false) rfl (fun W hW=>?_) ?_
 ·obtain⟨hc,-,-⟩:=hW;go_simp
 go_simp;refine Zaa (.bool false) rfl (fun W hW=>?_) ?_
 ·obtain⟨hc,-,-⟩:=hW;go_simp
 go_simp;refine Zaa (.bool true) rfl (fun W hW=>?_) ?_
 ·obtain⟨hc,-,-⟩:=hW;go_simp
 go_simp;refine Zaa (.bool true) rfl (fun W hW=>?_) ?_
 ·obtain⟨hc,-,-⟩:=hW;go_simp
 go_simp;refine Zaa (.int .i64 1) rfl (fun W hW=>?_) ?_
 ·obtain⟨hc,-,-⟩:=hW;go_simp
 go_simp;refine Zaa (.bool false) rfl (fun W hW=>?_) ?_
 ·obtain⟨hc,-,-⟩:=hW;go_simp
 go_simp;refine Zaa (.bool false) rfl (fun W hW=>?_) ?_
 ·obtain⟨hc,-,-⟩:=hW;go_simp
 go_simp;refine Zaa (.agg #[.int .i64 s,.int .i64 b,.int .i64 1,.int .i64 r,.int .i64 i]) rfl (fun W hW=>?_) ?_
 ·obtain⟨hc,-,-⟩:=hW;go_simp
 go_simp;refine Zaa (.slice (some ⟨g,o,none⟩) m c) rfl (fun W hW=>?_) ?_
 ·obtain⟨hc,-,-⟩:=hW;go_simp
 go_simp;refine Zaa (.int .i64 i) rfl (fun W hW=>?_) ?_
 ·obtain⟨hc,-,-⟩:=hW;go_simp
 go_simp;refine Zaa (.pointer (some ⟨g,o+i*2,none⟩)) rfl (fun W hW=>?_) ?_
 ·obtain⟨hc,-,-⟩:=hW;go_simp
 go_simp;refine Zaa (.agg #[.int .i64 x,.int .i64 y]) rfl (fun W hW=>?_) ?_
 ·obtain⟨hc,-,-⟩:=hW;go_simp
 go_simp;refine Zaa (.agg #[.bool false,.bool false,.int .i64 s,.int .i64 b,.int .i64 1,.int .i64 r,.int .i64 i,.int .i64 x,.int .i64 y]) rfl (fun W hW=>?_) ?_
 ·obtain⟨hc,-,-⟩:=hW;go_simp
 go_simp;change Zah _ _ _ _ _ (_::[]) _ _;unfold Zah;go_wp2_with fail;refine⟨(Zag.start w1).alloc _,?_⟩;unfold Zah;clear t0c t1c t2c t3c t4c l0 pp e0 e1;change wpList _ _ _ (_::_::[]) _ (w1.drew.alloc (.cells #[.bool false,.bool false,.int .i64 s,.int .i64 b,.int .i64 1,.int .i64 r,.int .i64 i,.int .i64 x,.int .i64 y] 220));have HL2:=hid (Blk.drew HL1.out);have HO2:=hid (ZbB HO1.out 1);have hz1:base<=w1.drew.heap.size:=by show base<=w1.heap.size;omega
 go_wp2_with (at_builtin;go_must (refine ZaM ZuX rfl _ _ rfl base _ n (Zd3 L) rfl HO2.out (ZlB ((false,false),(s,b,1,r,(i:Int)),(x,y))).toArray w1.heap.size rfl rfl rfl (Zcf _) (by unfold maxLen;omega) (by omega) hz1 ?_);intro A' cap' w3 hown3 hb3 hgr3;(have HL3:=hid (Blk.other HL2.out HO2.out hgr3 (by decide)));(have v0:w3.cell? ⟨Bl,0,none⟩=some (.slice A0 n c0):=HL3.out.cell 0);(have f0:=HL3.out.frozen 0))
 refine NoPanic.normal ?_;go_wp2_with fail
 go_end0
 have hb:Boxed w3 Bl 381 (.slice A0 n c0):=HL3.out;refine⟨rfl,A',cap',hb.set _,?_,?_⟩
 ·rw[ZcT,Zgd];exact hown3.kept (grownBy_setCell' _ _ _) (.inr (Zab hown3 HL3.out (by decide)))
 ·exact((But.of_below _ HK1.out).trans (But.of_below _ (bR0 _ _).drew)).trans ((But.of_own hgr3 (fun q hq=>.inr (HO1.out.lt q hq).1)).trans (But.of_gr (grownBy_setCell' _ _ _) (.inl rfl)))
def Zb8(s b p r:Int)(xs:List (Int×Int))(i:Nat):List Zde:=match xs[i]? with|some x=>[((true,false),(s,b,p,r,(i:Int)),x)]|none=>[]
def Zda(s b p r:Int)(ys:List (Int×Int))(i:Nat):List Zde:=match ys[i]? with|some y=>[((false,decide (p=0)),(s,b,p,r,(i:Int)),y)]|none=>[]
theorem Zjf(s b p r:Int)(xs ys:List (Int×Int))(i:Nat):ZpL s b p r xs ys i=Zb8 s b p r xs i++Zda s b p r ys i:=rfl
def ZkC(base Bl:Nat)(L:List Zde)(w:World):Prop:=∃A0 n c0,Boxed w Bl 381 (.slice A0 n c0)/\w.ownsRow base 220 9 (.slice A0 n c0) n (Zd3 L)
theorem ZkC.len{base n:Nat}{v:Value}{L:List Zde}{w:World}(h:w.ownsRow base 220 9 v n (Zd3 L)):L.length=n:=by
 have:=h.1;rw[Zgx] at this;omega
def Zt8(base Bl:Nat)(L:List Zde)(w:World)(e:Ending)(w':World):Prop:=
 e=.returned (.tuple #[])/\ZkC base Bl L w'/\But (fun q=>q=Bl\/base<=q) w w'
section
variable(i m c base:Nat)(s b lo hi mm cc r:Int)(A:Option Addr)(Bj Bp Br Bl:Nat)(L:List Zde)(ys:List (Int×Int))(w:World)
theorem ZqK(p:Int)(hi':i<=1000000)(hm:m<=1000000)(hyl:ys.length=m)(hR:Rd w 2 A m (rv ys))(hJ:Blk w Bj 380 #[.int .i64 s,.int .i64 b,.int .i64 lo,.int .i64 hi,.int .i64 mm,.int .i64 cc])(hP:Boxed w Bp 3 (.int .i64 p))(hRr:Boxed w Br 3 (.int .i64 r))(hst:ZkC base Bl L w)(hn:L.length<=1000000)(hbase:base<=w.heap.size) :
  Calls prog 262 #[.bool true,.int .i64 i,.slice A m c,.pointer (some ⟨Bj,0,none⟩),.pointer (some ⟨Bp,0,none⟩),.pointer (some ⟨Br,0,none⟩),.pointer (some ⟨Bl,0,none⟩)] w (Zt8 base Bl (L++Zb8 s b p r ys i) w):=by
 by_cases h:i<m
 ·obtain⟨A0,n,c0,hL,hown⟩:=hst;have hln:=ZkC.len hown;have hy:ys[i]?=some (ys[i]'(by omega)):=YaA (by omega);generalize ys[i]'(by omega)=x at hy;obtain⟨x,y⟩:=x;refine(Zs6 p i m c base n c0 s b lo hi mm cc r x y A A0 Bj Bp Br Bl L ys w h hm hyl hy hR hJ hP hRr hL hown (by omega) hbase).mono ?_;rintro e w' ⟨rfl,A',cap',h1,h2,h3⟩;refine⟨rfl,⟨A',n+1,cap',h1,?_⟩,h3⟩;have e2:Zb8 s b p r ys i=[((true,false),(s,b,p,r,(i:Int)),(x,y))]:=by unfold Zb8;rw[hy]
  rw[e2];exact h2
 ·refine(Zny true i m c Bj Bp Br Bl A w (by omega) hi').mono ?_;rintro e w' ⟨rfl,rfl⟩;have e2:Zb8 s b p r ys i=[]:=by unfold Zb8;rw[YaN (by omega)]
  rw[e2,List.append_nil];exact⟨rfl,hst,But.refl _ _⟩
theorem ZqL(p:Int)(hp:p=0\/p=1)(hi':i<=1000000)(hm:m<=1000000)(hyl:ys.length=m)(hR:Rd w 2 A m (rv ys))(hJ:Blk w Bj 380 #[.int .i64 s,.int .i64 b,.int .i64 lo,.int .i64 hi,.int .i64 mm,.int .i64 cc])(hP:Boxed w Bp 3 (.int .i64 p))(hRr:Boxed w Br 3 (.int .i64 r))(hst:ZkC base Bl L w)(hn:L.length<=1000000)(hbase:base<=w.heap.size) :
  Calls prog 262 #[.bool false,.int .i64 i,.slice A m c,.pointer (some ⟨Bj,0,none⟩),.pointer (some ⟨Bp,0,none⟩),.pointer (some ⟨Br,0,none⟩),.pointer (some ⟨Bl,0,none⟩)] w (Zt8 base Bl (L++Zda s b p r ys i) w):=by
 by_cases h:i<m
 ·obtain⟨A0,n,c0,hL,hown⟩:=hst;have hln:=ZkC.len hown;have hy:ys[i]?=some (ys[i]'(by omega)):=YaA (by omega);generalize ys[i]'(by omega)=x at hy;obtain⟨x,y⟩:=x;have e2:Zda s b p r ys i=[((false,decide (p=0)),(s,b,p,r,(i:Int)),(x,y))]:=by unfold Zda;rw[hy]
  rw[e2]
  rcases hp with rfl|rfl
  ·refine(ZqI i m c base n c0 s b lo hi mm cc r x y A A0 Bj Bp Br Bl L ys w h hm hyl hy hR hJ hP hRr hL hown (by omega) hbase).mono ?_;rintro e w' ⟨rfl,A',cap',h1,h2,h3⟩;exact⟨rfl,⟨A',n+1,cap',h1,h2⟩,h3⟩
  ·refine(ZqJ i m c base n c0 s b lo hi mm cc r x y A A0 Bj Bp Br Bl L ys w h hm hyl hy hR hJ hP hRr hL hown (by omega) hbase).mono ?_;rintro e w' ⟨rfl,A',cap',h1,h2,h3⟩;exact⟨rfl,⟨A',n+1,cap',h1,h2⟩,h3⟩
 ·refine(Zny false i m c Bj Bp Br Bl A w (by omega) hi').mono ?_;rintro e w' ⟨rfl,rfl⟩;have e2:Zda s b p r ys i=[]:=by unfold Zda;rw[YaN (by omega)]
  rw[e2,List.append_nil];exact⟨rfl,hst,But.refl _ _⟩
end
def Zdb(lo hi m:Int)(q:Nat):Int×Int:=((bnd (hi-lo).toNat m.toNat q:Int)+lo,(bnd (hi-lo).toNat m.toNat (q+1):Int)+lo)
def chS(lo hi m c:Int)(q:Nat):List (Int×Int):=Zbb (Zdb lo hi m q).1 (Zdb lo hi m q).2 c
def ZcM(s b lo hi m c x p r:Int):List Zde:=Zc7 s b p r (chS lo hi m c ((x-r+p)%m).toNat) (chS lo hi m c ((x-r+p-1)%m).toNat)
theorem ZcA(lo hi m:Int)(q:Nat)(h1:lo<=hi)(hq:(q:Int)<m):lo<=(Zdb lo hi m q).1/\(Zdb lo hi m q).1<=(Zdb lo hi m q).2/\(Zdb lo hi m q).2<=hi:=
 ZuW lo hi m h1 _ (YaL (ZgK lo hi m q h1 hq))
theorem Zir(lo hi m c:Int)(q:Nat)(h1:lo<=hi)(h2:hi<=1000)(h0:0<=lo)(hq:(q:Int)<m):(chS lo hi m c q).length<=1000:=by
 obtain⟨a1,a2,a3⟩:=ZcA lo hi m q h1 hq;rw[chS,Zd7];have:=Zci ((Zdb lo hi m q).2-(Zdb lo hi m q).1).toNat c.toNat;omega
theorem ZqM(s b lo hi m c x p r:Int)(w:World)(hm1:1<=m)(hm2:m<=1000000)(h:x<0\/m<=x\/p<0\/1<p\/r<0\/m-1<=r) :
  Calls prog 228 #[Zkz s b lo hi m c,.int .i64 x,.int .i64 p,.int .i64 r] w fun e w'=>e=.returned (.slice none 0 0)/\Below w.heap.size w w':=by
 have HS:=hid (fun z W=>Zms s b lo hi m c x p r z W hm1 hm2 h);clear h
 go_enter func228,ntmps228
 go_wp2_with fail;((with_reducible refine(HS.out _ _).mono ?_);rintro e w1 ⟨rfl,hb1⟩);go_wp2_with fail;go_ret;exact⟨rfl,((((Zag.of (bR0 _ w)).alloc _).alloc _).alloc _ |>.call hb1).2.2⟩
theorem Zs7(s b lo hi m c x p r:Int)(w:World)(h0:0<=lo)(h1:lo<=hi)(h2:hi<=1000)(hm2:m<=1000)(hx1:0<=x)(hx2:x<m)(hp:p=0\/p=1)(hr1:0<=r)(hr2:r<m-1)(hc:c<=9223372036854775807) :
  Calls prog 228 #[Zkz s b lo hi m c,.int .i64 x,.int .i64 p,.int .i64 r] w (Zal w 220 9 (ZcM s b lo hi m c x p r).length (Zd3 (ZcM s b lo hi m c x p r))):=by
 have z1:=Int.emod_nonneg (x-r+p) (b:=m) (by omega);have z2:=Int.emod_lt_of_pos (x-r+p) (b:=m) (by omega);have z3:=Int.emod_nonneg (x-r+p-1) (b:=m) (by omega);have z4:=Int.emod_lt_of_pos (x-r+p-1) (b:=m) (by omega);obtain⟨q1,hq1⟩:=YaM z1;obtain⟨q2,hq2⟩:=YaM z3;have e:ZcM s b lo hi m c x p r=Zc7 s b p r (chS lo hi m c q1) (chS lo hi m c q2):=by unfold ZcM;rw[hq1,hq2];rfl
 rw[e];have CS:=fun W=>ZkA s b lo hi m c x p r W (by omega) (by omega) hx1 hx2 hp hr1 hr2
 have CR:=fun W=>ZkB s b lo hi m c x p r W (by omega) (by omega) hx1 hx2 hp hr1 hr2
 rw[hq1] at CS z2;rw[hq2] at CR z4;have HCS:=hid CS;have HCR:=hid CR;have CSg:=fun W=>Zky lo hi m W h0 h1 (by omega) (by omega)
 have hlen:=Zdv lo hi m h1;rw[hlen] at CSg;have HCSg:=hid CSg;have HLen:=hid hlen;obtain⟨a1,a2,a3⟩:=ZcA lo hi m q1 h1 z2;obtain⟨b1,b2,b3⟩:=ZcA lo hi m q2 h1 z4;have HA1:=hid (ZgK lo hi m q1 h1 z2);have HA2:=hid (ZgK lo hi m q2 h1 z4);have hle1:=Zir lo hi m c q1 h1 (by omega) h0 z2;have hle2:=Zir lo hi m c q2 h1 (by omega) h0 z4;obtain⟨x1,hx1'⟩:∃v,(Zdb lo hi m q1).1=v:=⟨_,rfl⟩;obtain⟨y1,hy1'⟩:∃v,(Zdb lo hi m q1).2=v:=⟨_,rfl⟩;obtain⟨x2,hx2'⟩:∃v,(Zdb lo hi m q2).1=v:=⟨_,rfl⟩;obtain⟨y2,hy2'⟩:∃v,(Zdb lo hi m q2).2=v:=⟨_,rfl⟩;rw[hx1',hy1'] at a2;rw[hx1'] at a1;rw[hy1'] at a3;rw[hx2',hy2'] at b2;rw[hx2'] at b1;rw[hy2'] at b3;have HC1:=hid (fun W=>Zio x1 y1 c W (by omega) a2 (by omega) hc);have HC2:=hid (fun W=>Zio x2 y2 c W (by omega) b2 (by omega) hc);have e1:chS lo hi m c q1=Zbb x1 y1 c:=by rw[chS,hx1',hy1']
 have e2:chS lo hi m c q2=Zbb x2 y2 c:=by rw[chS,hx2',hy2']
 rw[e1] at hle1;rw[e2] at hle2;rw[e1,e2];have HA1':Hid ((Zdu lo hi m)[q1]?=some (x1,y1)):=hid (by rw[HA1.out,<-hx1',<-hy1'];rfl);have HA2':Hid ((Zdu lo hi m)[q2]?=some (x2,y2)):=hid (by rw[HA2.out,<-hx2',<-hy2'];rfl);obtain⟨xs,hxs⟩:∃v,Zbb x1 y1 c=v:=⟨_,rfl⟩;obtain⟨ys,hys⟩:∃v,Zbb x2 y2 c=v:=⟨_,rfl⟩;rw[hxs] at HC1 hle1 ⊢;rw[hys] at HC2 hle2 ⊢;obtain⟨n1,hn1⟩:∃v,xs.length=v:=⟨_,rfl⟩;obtain⟨n2,hn2⟩:∃v,ys.length=v:=⟨_,rfl⟩;rw[hn1] at HC1 hle1;rw[hn2] at HC2 hle2;have HN1:=hid hn1;have HN2:=hid hn2;clear e e1 e2 hx1' hy1' hx2' hy2' hxs hys hn1 hn2 CS CR CSg HA1 HA2 hlen hq1 hq2 z1 z3
 go_enter func228,ntmps228
 go_wp2_with fail;obtain⟨w0,hw0⟩:∃w0,((w.alloc (.cells #[.int .i64 s,.int .i64 b,.int .i64 lo,.int .i64 hi,.int .i64 m,.int .i64 c] 380)).alloc (.cells #[.int .i64 p] 3)).alloc (.cells #[.int .i64 r] 3)=w0:=⟨_,rfl⟩;have k0:Below w.heap.size w w0:=by rw[<-hw0];exact((bA0 _).alloc (by simp) _).alloc (by simp<;>omega) _
 have J0:Blk w0 w.heap.size 380 #[.int .i64 s,.int .i64 b,.int .i64 lo,.int .i64 hi,.int .i64 m,.int .i64 c]:=by rw[<-hw0];exact((Blk.new w _ _).alloc _).alloc _
 have P0:Blk w0 (w.heap.size+1) 3 #[.int .i64 p]:=by rw[<-hw0];exact(Blk.new' _ _ (by simp)).alloc _
 have R0:Blk w0 (w.heap.size+1+1) 3 #[.int .i64 r]:=by rw[<-hw0];exact Blk.new' _ _ (by simp)
 rw[hw0];clear hw0;((with_reducible refine(HCS.out _).mono ?_);rintro e wa ⟨rfl,hba⟩);have Ja:=J0.kept hba;have Pa:=P0.kept hba;have Ra:=R0.kept hba;have ka:=((Zag.of k0).call hba).2.2;have j0:wa.cell? ⟨w.heap.size,0,none⟩=some (.int .i64 s):=Ja.cell 0;have j1:wa.cell? ⟨w.heap.size,1,none⟩=some (.int .i64 b):=Ja.cell 1;have j2:wa.cell? ⟨w.heap.size,2,none⟩=some (.int .i64 lo):=Ja.cell 2;have j3:wa.cell? ⟨w.heap.size,3,none⟩=some (.int .i64 hi):=Ja.cell 3;have j4:wa.cell? ⟨w.heap.size,4,none⟩=some (.int .i64 m):=Ja.cell 4;have j5:wa.cell? ⟨w.heap.size,5,none⟩=some (.int .i64 c):=Ja.cell 5;have p0:wa.cell? ⟨w.heap.size+1,0,none⟩=some (.int .i64 p):=Pa.cell 0;have r0:wa.cell? ⟨w.heap.size+1+1,0,none⟩=some (.int .i64 r):=Ra.cell 0;clear hba J0 P0 R0 k0;go_wp2_with fail;((with_reducible refine(HCR.out _).mono ?_);rintro e wb ⟨rfl,hbb⟩);have Jb:=Ja.kept hbb;have Pb:=Pa.kept hbb;have Rb:=Ra.kept hbb;have kb:=((Zag.of ka).call hbb).2.2;clear j0 j1 j2 j3 j4 j5 p0 r0 hbb Ja Pa Ra ka;have j2:wb.cell? ⟨w.heap.size,2,none⟩=some (.int .i64 lo):=Jb.cell 2;have j3:wb.cell? ⟨w.heap.size,3,none⟩=some (.int .i64 hi):=Jb.cell 3;have j4:wb.cell? ⟨w.heap.size,4,none⟩=some (.int .i64 m):=Jb.cell 4;go_wp2_with fail;((with_reducible refine(HCSg.out _).mono ?_);rintro e wc ⟨A,cA,rfl,hown,hbc⟩);have Jc:=Jb.kept hbc;have Pc:=Pb.kept hbc;have Rc:=Rb.kept hbc;have kc:=((Zag.of kb).call hbc).2.2;clear j2 j3 j4 hbc Jb Pb Rb kb;have j5:wc.cell? ⟨w.heap.size,5,none⟩=some (.int .i64 c):=Jc.cell 5;obtain⟨n,hn⟩:∃n,m.toNat=n:=⟨_,rfl⟩;rw[hn] at hown ⊢;have HL:Hid ((Zdu lo hi m).length=n):=hid (HLen.out.trans hn);have hRd:=Rd.of_own hown;obtain⟨g,o,x',y',hA,hg,hxy,d0,d1⟩:=Zdn HL.out hRd (show q1<n by omega);subst hA;obtain⟨g',o',x'',y'',hA,_,hxy',d2,d3⟩:=Zdn HL.out hRd (show q2<n by omega);injection hA with hA
 injection hA with eg eo
 subst eg eo;rw[HA1'.out] at hxy;rw[HA2'.out] at hxy';injection hxy with hxy
 injection hxy with f1 f2
 injection hxy' with hxy'
 injection hxy' with f3 f4
 subst f1 f2 f3 f4;have i1:(0:Int)<=(q1:Int):=by omega
 have i2:(q1:Int)<(n:Int):=by omega
 have i3:(0:Int)<=(q2:Int):=by omega
 have i4:(q2:Int)<(n:Int):=by omega
 have lj:=Jc.lt;have HJc:=hid Jc;have HPc:=hid Pc;have HRc:=hid Rc;have HKc:=hid kc;clear hown hRd hn Jc Pc Rc kc;go_wp2_with fail
 go_region_held3 (fun w'=>Zag wc w') (first|exact kk|exact kk.alloc _|exact Zag.start wc) (first
  | (go_at_call 261;(with_reducible refine(HC1.out _).mono ?_);rintro e wd ⟨A1,c1,rfl,hown1,hbd⟩;have kk:=(Zag.start wc).call hbd;have HR1:=hid (Rd.of_own hown1);clear hown1 hbd)
  | (go_at_call 261;(with_reducible refine(HC2.out _).mono ?_);rintro e we ⟨A2,c2,rfl,hown2,hbe⟩;replace kk:=kk.call hbe;replace HR1:=hid (HR1.out.below hbe);have HR2:=hid (Rd.of_own hown2);clear hown2 hbe))
 all_goals clear d0 d1 d2 d3 j5 lj
 all_goals go_wp2_with fail
 all_goals
  obtain⟨w3,hw3⟩:∃w3,we.alloc (.cells #[.slice none 0 0] 381)=w3:=⟨_,rfl⟩;have k3:Below we.heap.size we w3:=by rw[<-hw3];exact bA0 _
  have L3:Blk w3 we.heap.size 381 #[.slice none 0 0]:=by rw[<-hw3];exact Blk.new _ _ _
  rw[hw3];clear hw3;have hc3:=(kk.call k3).2.2;have HJ3:=hid (HJc.out.kept hc3);have HP3:=hid (HPc.out.kept hc3);have HR3:=hid (HRc.out.kept hc3);have HK3:=hid (((Zag.of HKc.out).call hc3).2.2);have HX3:=hid (HR1.out.below k3);have HY3:=hid (HR2.out.below k3);have HXB:=hid (HR1.out.lt);have HYB:=hid (HR2.out.lt);have HL3:=hid L3;have z1:=HJc.out.lt;have z2:=HPc.out.lt;have z3:=HRc.out.lt;have z4:=kk.2.1;have z5:=L3.lt;clear k3 L3 hc3 kk HR1 HR2
  go_loopw [62] (fun i wr=>∃k:Nat,k<=max n1 n2/\i=.int .i64 k/\ZkC w3.heap.size we.heap.size (Zhn s b p r xs ys k) wr/\But (fun q=>q=we.heap.size\/w3.heap.size<=q) w3 wr) (fun i _=>max n1 n2-(intOf i).toNat)
  case atStart=>exact⟨0,by omega,rfl,⟨none,0,0,HL3.out,by simpa [Zhn,Zno] using World.ownsRow_nil w3 w3.heap.size 220 9⟩,But.refl _ _⟩
  case round=>
   obtain⟨k,hk,rfl,hst,hB⟩:=hrel
   by_cases hlt:k<max n1 n2
   ·have hrl:=ZlP s b p r xs ys k;have nJ:¬(w.heap.size=we.heap.size\/w3.heap.size<=w.heap.size):=by omega
    have nP:¬(w.heap.size+1=we.heap.size\/w3.heap.size<=w.heap.size+1):=by omega
    have nR:¬(w.heap.size+1+1=we.heap.size\/w3.heap.size<=w.heap.size+1+1):=by omega
    have HC1:=hid (ZqK k n1 c1 w3.heap.size s b lo hi m c r A1 w.heap.size (w.heap.size+1) (w.heap.size+1+1) we.heap.size (Zhn s b p r xs ys k) xs wr p (by omega) (by omega) HN1.out (HX3.out.but hB (fun q o e h0=>by have:=HXB.out q o e h0;omega)) (HJ3.out.but hB nJ) (HP3.out.but hB nP) (HR3.out.but hB nR) hst (by omega) hB.size);have HB:=hid hB;clear hB hst;go_wp2_with fail;((with_reducible refine HC1.out.mono ?_);rintro e w4 ⟨rfl,hst4,hB4⟩);have hB4':=HB.out.trans hB4;have hsl:(Zhn s b p r xs ys k++Zb8 s b p r xs k).length<=1000000:=by
     rw[YaS];have:(Zb8 s b p r xs k).length<=1:=by unfold Zb8;split<;>simp
     omega
    have HC2:=hid (ZqL k n2 c2 w3.heap.size s b lo hi m c r A2 w.heap.size (w.heap.size+1) (w.heap.size+1+1) we.heap.size (Zhn s b p r xs ys k++Zb8 s b p r xs k) ys w4 p hp (by omega) (by omega) HN2.out (HY3.out.but hB4' (fun q o e h0=>by have:=HYB.out q o e h0;omega)) (HJ3.out.but hB4' nJ) (HP3.out.but hB4' nP) (HR3.out.but hB4' nR) hst4 hsl hB4'.size);have HB4:=hid hB4';clear hB4' hB4 hst4 HC1;go_wp2_with fail;((with_reducible refine HC2.out.mono ?_);rintro e w5 ⟨rfl,hst5,hB5⟩);have HB5:=hid (HB4.out.trans hB5);have HS5:=hid hst5;clear hB5 hst5 HC2;go_wp2_with fail
    go_roundw
    case rel=>exact⟨k+1,by omega,by go_num,by rw[ZcI,Zjf,<-YaY];exact HS5.out,HB5.out⟩
    case measure=>simp[intOf];omega
   ·obtain rfl:k=max n1 n2:=by omega
    obtain⟨A0,n0,c0,hb0,hown⟩:=hst;have e0:=hb0.cell;have hln:=ZkC.len hown;have eL:Zhn s b p r xs ys (max n1 n2)=Zc7 s b p r xs ys:=by rw[Zc7,HN1.out,HN2.out]
    rw[eL] at hln hown;have HO:=hid hown;have HB:=hid hB;have HLN:=hid hln;clear hown hb0 hB hln eL;go_wp2;go_ret;rw[HLN.out];exact⟨A0,c0,rfl,Zae HO.out HK3.out.size,HK3.out.trans (HB.out.below HK3.out.size (fun q hq=>by have:=HK3.out.size;omega))⟩
theorem ZhD(s b lo hi m c x p y:Int)(z:Bool)(w:World)(hm1:1<=m)(hm2:m<=1000000)(h:x<0\/m<=x\/p<0\/1<p\/y<0\/m-1<=y) :
  Calls prog 272 #[Zkz s b lo hi m c,.int .i64 x,.int .i64 p,.int .i64 y,.bool z] w fun e w'=>e=.returned (.tuple #[.int .i64 0,.bool false])/\Below w.heap.size w w':=by
 go_enter func272,ntmps272
 go_wp2
 all_goals (go_ret2;exact⟨rfl,bA0 _⟩)
theorem ZeT(s b lo hi m c x p y:Int)(z:Bool)(w:World)(hm1:1<=m)(hm2:m<=1000000)(hx1:0<=x)(hx2:x<m)(hp1:0<=p)(hp2:p<=1)(hy1:0<=y)(hy2:y<m-1) :
  Calls prog 272 #[Zkz s b lo hi m c,.int .i64 x,.int .i64 p,.int .i64 y,.bool z] w fun e w'=>e=.returned (.tuple #[.int .i64 (if z then (x-y+p)%m else (x-y+p-1)%m),.bool true])/\Below w.heap.size w w':=by
 have hmz:¬m=0:=by omega
 cases z
 all_goals
  go_enter func272,ntmps272
  go_wp2
  go_ret2
  exact⟨rfl,bA0 _⟩
theorem Zdw(s b lo hi m c:Int)(q:Nat)(w:World)(h0:0<=lo)(h1:lo<=hi)(h2:hi<=1000)(hm2:m<=1000)(hq:(q:Int)<m)(hc:c<=9223372036854775807) :
  Calls prog 273 #[Zkz s b lo hi m c,.int .i64 q] w (Zal w 355 2 (chS lo hi m c q).length (rv (chS lo hi m c q))):=by
 have CSg:=fun W=>ZgJ lo hi m W h0 h1 (by omega) (by omega)
 have hlen:=Zdv lo hi m h1;rw[hlen] at CSg;obtain⟨n,hn⟩:∃n,m.toNat=n:=⟨_,rfl⟩;rw[hn] at CSg hlen;have HCSg:=hid CSg;obtain⟨a1,a2,a3⟩:=ZcA lo hi m q h1 hq;have HA1:=hid (ZgK lo hi m q h1 hq);obtain⟨x1,hx1'⟩:∃v,(Zdb lo hi m q).1=v:=⟨_,rfl⟩;obtain⟨y1,hy1'⟩:∃v,(Zdb lo hi m q).2=v:=⟨_,rfl⟩;rw[hx1',hy1'] at a2;rw[hx1'] at a1;rw[hy1'] at a3;have HC1:=hid (fun W=>Zjd x1 y1 c W (by omega) a2 (by omega) hc);have e1:chS lo hi m c q=Zbb x1 y1 c:=by rw[chS,hx1',hy1']
 have HA1':Hid ((Zdu lo hi m)[q]?=some (x1,y1)):=hid (by rw[HA1.out,<-hx1',<-hy1'];rfl);rw[e1];have HL:=hid hlen;have i1:(0:Int)<=(q:Int):=by omega
 have i2:(q:Int)<(n:Int):=by omega
 obtain⟨W0,hW0⟩:∃W0,w.alloc (.cells #[.int .i64 s,.int .i64 b,.int .i64 lo,.int .i64 hi,.int .i64 m,.int .i64 c] 395)=W0:=⟨_,rfl⟩;have k0:Below w.heap.size w W0:=by rw[<-hW0];exact bA0 _
 have J0:Blk W0 w.heap.size 395 #[.int .i64 s,.int .i64 b,.int .i64 lo,.int .i64 hi,.int .i64 m,.int .i64 c]:=by rw[<-hW0];exact Blk.new w _ _
 have j2:W0.cell? ⟨w.heap.size,2,none⟩=some (.int .i64 lo):=J0.cell 2;have j3:W0.cell? ⟨w.heap.size,3,none⟩=some (.int .i64 hi):=J0.cell 3;have j4:W0.cell? ⟨w.heap.size,4,none⟩=some (.int .i64 m):=J0.cell 4;have j5:W0.cell? ⟨w.heap.size,5,none⟩=some (.int .i64 c):=J0.cell 5;have lj:=J0.lt;have HK0:=hid k0;have HW0:=hid hW0;clear e1 hx1' hy1' CSg HA1 hlen hn hW0 k0 J0
 go_enter func273,ntmps273
 go_wp2_with fail;rw[HW0.out];clear HW0;refine Zad (Zag W0) [0,1,2,3,5,8,9] [4,6,7] [10,11] (by kernel_rfl) (by kernel_rfl) (Zag.start W0) ?_;simp only[YaO,YaP,YaB,YaC];refine Zaa (.pointer (some ⟨w.heap.size,2,none⟩)) rfl (fun W hW=>?_) ?_
 ·obtain⟨hc,-,-⟩:=hW;go_simp
 go_simp;refine Zaa (.agg #[.int .i64 lo,.int .i64 hi]) rfl (fun W hW=>?_) ?_
 ·obtain⟨hc,-,-⟩:=hW;go_simp
 go_simp;refine Zaa (.pointer (some ⟨w.heap.size,4,none⟩)) rfl (fun W hW=>?_) ?_
 ·obtain⟨hc,-,-⟩:=hW;go_simp
 go_simp;refine Zaa (.int .i64 m) rfl (fun W hW=>?_) ?_
 ·obtain⟨hc,-,-⟩:=hW;go_simp
 go_simp;refine Zaa (.int .i64 q) rfl (fun W hW=>?_) ?_
 ·obtain⟨hc,-,-⟩:=hW;go_simp
 go_simp;refine Zaa (.pointer (some ⟨w.heap.size,5,none⟩)) rfl (fun W hW=>?_) ?_
 ·obtain⟨hc,-,-⟩:=hW;go_simp
 go_simp;refine Zaa (.int .i64 c) rfl (fun W hW=>?_) ?_
 ·obtain⟨hc,-,-⟩:=hW;go_simp
 go_simp;change Zah _ _ _ _ _ (_::_::_::[]) _ _;unfold Zah;go_wp2_with fail;((with_reducible refine(HCSg.out _).mono ?_);rintro e w2 ⟨A,cA,rfl,hown,hb2⟩);have kk:=(Zag.start W0).call hb2;obtain⟨g,o,x',y',rfl,hg,hxy,d0,d1⟩:=Zdn HL.out (Rd.of_own hown) (show q<n by omega);rw[HA1'.out] at hxy;injection hxy with hxy
 injection hxy with f1 f2
 subst f1 f2;have HKK:=hid kk;clear hown hb2 kk;go_wp2_with fail;refine⟨HKK.out,?_⟩;unfold Zah;go_wp2_with fail;refine⟨HKK.out,?_⟩;unfold Zah;go_wp2_with fail;refine⟨HKK.out,?_⟩;unfold Zah;change wpList _ _ _ (_::_::[]) _ _;go_wp2_with fail;((with_reducible refine(HC1.out _).mono ?_);rintro e w4 ⟨A',c',rfl,hown4,hb4⟩);have HO4:=hid (Zae hown4 HKK.out.2.1);have kk:=HKK.out.call hb4;clear hown4 hb4;go_wp2_with fail;refine NoPanic.normal ?_;go_wp2_with fail;go_ret;exact⟨A',c',rfl,Zae HO4.out HK0.out.size,((Zag.of HK0.out).call kk.2.2).2.2⟩
theorem ZkD(s b lo hi m c x p r:Int)(w:World)(hm1:1<=m)(hm2:m<=1000000)(h:x<0\/m<=x\/p<0\/1<p\/r<0\/m-1<=r) :
  Calls prog 253 #[Zkz s b lo hi m c,.int .i64 x,.int .i64 p,.int .i64 r] w fun e w'=>e=.returned (.slice none 0 0)/\Below w.heap.size w w':=by
 have HS:=hid (fun z W=>ZhD s b lo hi m c x p r z W hm1 hm2 h);clear h
 go_enter func253,ntmps253
 go_wp2_with fail;((with_reducible refine(HS.out _ _).mono ?_);rintro e w1 ⟨rfl,hb1⟩);go_wp2_with fail;go_ret;exact⟨rfl,(((Zag.of (bR0 _ w)).alloc _).call hb1).2.2⟩
theorem Zmt(s b lo hi m c x p r:Int)(w:World)(h0:0<=lo)(h1:lo<=hi)(h2:hi<=1000)(hm2:m<=1000)(hx1:0<=x)(hx2:x<m)(hp:p=0\/p=1)(hr1:0<=r)(hr2:r<m-1)(hc:c<=9223372036854775807) :
  Calls prog 253 #[Zkz s b lo hi m c,.int .i64 x,.int .i64 p,.int .i64 r] w (Zal w 357 9 (ZcM s b lo hi m c x p r).length (Zd3 (ZcM s b lo hi m c x p r))):=by
 have z1:=Int.emod_nonneg (x-r+p) (b:=m) (by omega);have z2:=Int.emod_lt_of_pos (x-r+p) (b:=m) (by omega);have z3:=Int.emod_nonneg (x-r+p-1) (b:=m) (by omega);have z4:=Int.emod_lt_of_pos (x-r+p-1) (b:=m) (by omega);obtain⟨q1,hq1⟩:=YaM z1;obtain⟨q2,hq2⟩:=YaM z3;have e:ZcM s b lo hi m c x p r=Zc7 s b p r (chS lo hi m c q1) (chS lo hi m c q2):=by unfold ZcM;rw[hq1,hq2];rfl
 rw[e];have CS:=fun W=>ZeT s b lo hi m c x p r true W (by omega) (by omega) hx1 hx2 (by omega) (by omega) hr1 hr2
 have CR:=fun W=>ZeT s b lo hi m c x p r false W (by omega) (by omega) hx1 hx2 (by omega) (by omega) hr1 hr2
 simp only[if_true] at CS;rw[hq1] at CS z2;simp only[Bool.false_eq_true,if_false] at CR;rw[hq2] at CR z4;have HCS:=hid CS;have HCR:=hid CR;have hle1:=Zir lo hi m c q1 h1 (by omega) h0 z2;have hle2:=Zir lo hi m c q2 h1 (by omega) h0 z4;have HC1:=hid (fun W=>Zdw s b lo hi m c q1 W h0 h1 h2 hm2 z2 hc);have HC2:=hid (fun W=>Zdw s b lo hi m c q2 W h0 h1 h2 hm2 z4 hc);obtain⟨xs,hxs⟩:∃v,chS lo hi m c q1=v:=⟨_,rfl⟩;obtain⟨ys,hys⟩:∃v,chS lo hi m c q2=v:=⟨_,rfl⟩;rw[hxs] at HC1 hle1 ⊢;rw[hys] at HC2 hle2 ⊢;obtain⟨n1,hn1⟩:∃v,xs.length=v:=⟨_,rfl⟩;obtain⟨n2,hn2⟩:∃v,ys.length=v:=⟨_,rfl⟩;rw[hn1] at HC1 hle1;rw[hn2] at HC2 hle2;have HN1:=hid hn1;have HN2:=hid hn2;obtain⟨pb,hpb⟩:∃pb,decide (p=0)=pb:=⟨_,rfl⟩;have hpe:(p==0)=pb:=by rw[<-hpb];rfl
 have HPB:=hid hpb;clear e hxs hys hn1 hn2 CS CR hq1 hq2 z1 z3 hpb
 go_enter func253,ntmps253
 go_wp2_with fail;obtain⟨w0,hw0⟩:∃w0,w.alloc (.cells #[.int .i64 s,.int .i64 b,.int .i64 lo,.int .i64 hi,.int .i64 m,.int .i64 c] 395)=w0:=⟨_,rfl⟩;have k0:Below w.heap.size w w0:=by rw[<-hw0];exact bA0 _
 have J0:Blk w0 w.heap.size 395 #[.int .i64 s,.int .i64 b,.int .i64 lo,.int .i64 hi,.int .i64 m,.int .i64 c]:=by rw[<-hw0];exact Blk.new w _ _
 rw[hw0];clear hw0;((with_reducible refine(HCS.out _).mono ?_);rintro e wa ⟨rfl,hba⟩);have Ja:=J0.kept hba;have ka:=((Zag.of k0).call hba).2.2;have j0:wa.cell? ⟨w.heap.size,0,none⟩=some (.int .i64 s):=Ja.cell 0;have j1:wa.cell? ⟨w.heap.size,1,none⟩=some (.int .i64 b):=Ja.cell 1;have j2:wa.cell? ⟨w.heap.size,2,none⟩=some (.int .i64 lo):=Ja.cell 2;have j3:wa.cell? ⟨w.heap.size,3,none⟩=some (.int .i64 hi):=Ja.cell 3;have j4:wa.cell? ⟨w.heap.size,4,none⟩=some (.int .i64 m):=Ja.cell 4;have j5:wa.cell? ⟨w.heap.size,5,none⟩=some (.int .i64 c):=Ja.cell 5;clear hba J0 k0;go_wp2_with fail;((with_reducible refine(HCR.out _).mono ?_);rintro e wb ⟨rfl,hbb⟩);have Jb:=Ja.kept hbb;have kb:=((Zag.of ka).call hbb).2.2;clear j0 j1 j2 j3 j4 j5 hbb Ja ka;have j0:wb.cell? ⟨w.heap.size,0,none⟩=some (.int .i64 s):=Jb.cell 0;have j1:wb.cell? ⟨w.heap.size,1,none⟩=some (.int .i64 b):=Jb.cell 1;have j2:wb.cell? ⟨w.heap.size,2,none⟩=some (.int .i64 lo):=Jb.cell 2;have j3:wb.cell? ⟨w.heap.size,3,none⟩=some (.int .i64 hi):=Jb.cell 3;have j4:wb.cell? ⟨w.heap.size,4,none⟩=some (.int .i64 m):=Jb.cell 4;have j5:wb.cell? ⟨w.heap.size,5,none⟩=some (.int .i64 c):=Jb.cell 5;go_wp2_with fail;((with_reducible refine(HC1.out _).mono ?_);rintro e wc ⟨A1,c1,rfl,hown1,hbc⟩);have Jc:=Jb.kept hbc;have kc:=((Zag.of kb).call hbc).2.2;have HO1:=hid hown1;clear j0 j1 j2 j3 j4 j5 hbc Jb kb hown1;have j0:wc.cell? ⟨w.heap.size,0,none⟩=some (.int .i64 s):=Jc.cell 0;have j1:wc.cell? ⟨w.heap.size,1,none⟩=some (.int .i64 b):=Jc.cell 1;have j2:wc.cell? ⟨w.heap.size,2,none⟩=some (.int .i64 lo):=Jc.cell 2;have j3:wc.cell? ⟨w.heap.size,3,none⟩=some (.int .i64 hi):=Jc.cell 3;have j4:wc.cell? ⟨w.heap.size,4,none⟩=some (.int .i64 m):=Jc.cell 4;have j5:wc.cell? ⟨w.heap.size,5,none⟩=some (.int .i64 c):=Jc.cell 5;go_wp2_with fail;((with_reducible refine(HC2.out _).mono ?_);rintro e wd ⟨A2,c2,rfl,hown2,hbd⟩);have HJd:=hid (Jc.kept hbd);have HKd:=hid (((Zag.of kc).call hbd).2.2);have HX:=hid ((Rd.of_own HO1.out).below hbd);have HY:=hid (Rd.of_own hown2);clear j0 j1 j2 j3 j4 j5 hbd Jc kc hown2 HO1;go_wp2_with fail
 go_loopw [15,16] (fun v i wr=>∃k n:Nat,k<=max n1 n2/\i=.int .i64 k/\Zei wd 357 n (Zhn s b p r xs ys k) v wr) (fun _ i _=>max n1 n2-(intOf i).toNat)
 case atStart=>exact⟨0,0,by omega,rfl,by simpa [Zhn] using Zei.start wd _⟩
 case round=>
  obtain⟨k,n,hk,rfl,hcoll⟩:=hrel;have hrl:=ZlP s b p r xs ys k;rw[hcoll.len] at hrl;have Jr:=HJd.out.below hcoll.2.2 HJd.out.lt;have rX:=HX.out.below hcoll.2.2;have rY:=HY.out.below hcoll.2.2;have j0:wr.cell? ⟨w.heap.size,0,none⟩=some (.int .i64 s):=Jr.cell 0;have j1:wr.cell? ⟨w.heap.size,1,none⟩=some (.int .i64 b):=Jr.cell 1;have j2:wr.cell? ⟨w.heap.size,2,none⟩=some (.int .i64 lo):=Jr.cell 2;have j3:wr.cell? ⟨w.heap.size,3,none⟩=some (.int .i64 hi):=Jr.cell 3;have j4:wr.cell? ⟨w.heap.size,4,none⟩=some (.int .i64 m):=Jr.cell 4;have j5:wr.cell? ⟨w.heap.size,5,none⟩=some (.int .i64 c):=Jr.cell 5;have lj:=Jr.lt;have HCo:=hid hcoll;have hzr:=hcoll.2.2.size;obtain⟨⟨Av,cv,rfl⟩,hownv,_⟩:=hcoll;have HOv:=hid hownv;have i1:(0:Int)<=(k:Int):=by omega
  clear hownv Jr
  by_cases hlt:k<max n1 n2
  ·by_cases hc1:k<n1
   ·go_upto_if 65 with(fail)
    obtain⟨w1,hw1⟩:∃w1,wr.alloc (.cells #[.int .i64 s,.int .i64 b,.int .i64 p,.int .i64 r,.int .i64 k] 216)=w1:=⟨_,rfl⟩;have k1:Below wr.heap.size wr w1:=by rw[<-hw1];exact bA0 _
    have T1:Blk w1 wr.heap.size 216 #[.int .i64 s,.int .i64 b,.int .i64 p,.int .i64 r,.int .i64 k]:=by rw[<-hw1];exact Blk.new _ _ _
    rw[hw1];clear hw1 j0 j1 j2 j3 j4 j5;have HT1:=hid T1;have HCo1:=hid (HCo.out.below k1);have HO1:=hid (Zac HOv.out k1);have HX1:=hid (rX.below k1);have HY1:=hid (rY.below k1);have hz1:wd.heap.size<=w1.heap.size:=YaH hzr k1.size;clear k1 T1 rX rY HOv
    go_cut [15] (fun v wq=>∃n',n'<=n+1/\Zei wd 357 n' (Zhn s b p r xs ys k++Zb8 s b p r xs k) v wq/\Blk wq wr.heap.size 216 #[.int .i64 s,.int .i64 b,.int .i64 p,.int .i64 r,.int .i64 k])
    case first=>
     obtain⟨g1,o1,x1,y1,rfl,hg1,hx,d0,d1⟩:=Zdn HN1.out HX1.out hc1;have i2:(k:Int)<(n1:Int):=by omega
     have HXn:Hid (Zb8 s b p r xs k=[((true,false),(s,b,p,r,(k:Int)),(x1,y1))]):=hid (by unfold Zb8;rw[hx]);have q0:w1.cell? ⟨wr.heap.size,0,none⟩=some (.int .i64 s):=HT1.out.cell 0;have q1c:w1.cell? ⟨wr.heap.size,1,none⟩=some (.int .i64 b):=HT1.out.cell 1;have q2c:w1.cell? ⟨wr.heap.size,2,none⟩=some (.int .i64 p):=HT1.out.cell 2;have q3c:w1.cell? ⟨wr.heap.size,3,none⟩=some (.int .i64 r):=HT1.out.cell 3;have q4c:w1.cell? ⟨wr.heap.size,4,none⟩=some (.int .i64 k):=HT1.out.cell 4;have lt1:=HT1.out.lt;clear hx;go_wp2_with fail;refine ZaW w1 [0] [1,2,3,4,5,6] 7 [8,9] (by kernel_rfl) (by kernel_rfl) (by kernel_rfl) (Zag.of (bR0 _ _)) ?_;refine⟨_,_,rfl,.inl ⟨rfl,fun w=>rfl⟩,?_⟩;simp only[Zdj,YaO,YaP,YaB,YaC];go_simp;change wpQuiet _ _ _ _ (_::_::_::_::_::_::[]) _;have KC:=fun(u:KW w1) b o h=>KW.cells u b o h
     iterate 6 (go_big_quiet_step (fail))
     refine wpQuiet_nil ?_;rintro⟨u,ku⟩;change wpList _ _ _ (_::_::_::[]) _ _;dsimp only;clear KC;have HU:=hid (Zac HO1.out ku.2.2);have HKu:=hid ku.2.2;have hzu:wd.heap.size<=u.heap.size:=YaH hz1 ku.2.1;clear ku
     go_wp2_with (at_builtin;go_must (refine ZaM Zje rfl _ _ rfl wd.heap.size _ n (Zd3 (Zhn s b p r xs ys k)) rfl HU.out (ZlB ((true,false),(s,b,p,r,(k:Int)),(x1,y1))).toArray u.heap.size rfl rfl rfl (Zcf _) (by unfold maxLen;omega) (by omega) hzu ?_);intro A' c' wv hown' hb' hgr')
     refine NoPanic.normal ?_;go_wp2_with fail
     go_meet
     rw[HXn.out];exact⟨n+1,YaF _,HCo1.out.next hown' ((HKu.out.mono hz1).trans hb'),Blk.other (HT1.out.kept HKu.out) HU.out hgr' (by decide)⟩
    case rest=>
     obtain⟨n',hn',hcq,hTq⟩:=hcut;have HCq:=hid hcq;have HTq:=hid hTq;have hzq:=hcq.2.2.size;have HYq:=hid (HY.out.below hcq.2.2);obtain⟨⟨Aq,cq,rfl⟩,hownq,_⟩:=hcq;have HOq:=hid hownq;clear hTq hownq HX1 HY1 HO1 HCo1
     by_cases hc2:k<n2
     ·obtain⟨g2,o2,x2,y2,rfl,hg2,hx,e0,e1⟩:=Zdn HN2.out HYq.out hc2;have i3:(k:Int)<(n2:Int):=by omega
      have HYn:Hid (Zda s b p r ys k=[((false,pb),(s,b,p,r,(k:Int)),(x2,y2))]):=hid (by unfold Zda;rw[hx,HPB.out]);have q0:wc.cell? ⟨wr.heap.size,0,none⟩=some (.int .i64 s):=HTq.out.cell 0;have q1c:wc.cell? ⟨wr.heap.size,1,none⟩=some (.int .i64 b):=HTq.out.cell 1;have q2c:wc.cell? ⟨wr.heap.size,2,none⟩=some (.int .i64 p):=HTq.out.cell 2;have q3c:wc.cell? ⟨wr.heap.size,3,none⟩=some (.int .i64 r):=HTq.out.cell 3;have q4c:wc.cell? ⟨wr.heap.size,4,none⟩=some (.int .i64 k):=HTq.out.cell 4;have lt1:=HTq.out.lt;clear hx;go_wp2_with fail;refine ZaW wc [0] [1,2,3,4,5,6,7,8] 9 [10,11] (by kernel_rfl) (by kernel_rfl) (by kernel_rfl) (Zag.of (bR0 _ _)) ?_;refine⟨_,_,rfl,.inl ⟨rfl,fun w=>rfl⟩,?_⟩;simp only[Zdj,YaO,YaP,YaB,YaC];go_simp;change wpQuiet _ _ _ _ (_::_::_::_::_::_::_::_::[]) _;have KC:=fun(u:KW wc) b o h=>KW.cells u b o h
      iterate 8 (go_big_quiet_step (fail))
      refine wpQuiet_nil ?_;rintro⟨u,ku⟩;change wpList _ _ _ (_::_::_::[]) _ _;dsimp only;clear KC;have HU:=hid (Zac HOq.out ku.2.2);have HKu:=hid ku.2.2;have hzu:wd.heap.size<=u.heap.size:=YaH hzq ku.2.1;clear ku
      go_wp2_with (at_builtin;go_must (refine ZaM Zje rfl _ _ rfl wd.heap.size _ n' (Zd3 (Zhn s b p r xs ys k++Zb8 s b p r xs k)) rfl HU.out (ZlB ((false,pb),(s,b,p,r,(k:Int)),(x2,y2))).toArray u.heap.size rfl rfl rfl (Zcf _) (by unfold maxLen;omega) (by omega) hzu ?_);intro A' c' wv hown' hb' hgr')
      refine NoPanic.normal ?_;go_wp2_with fail
      go_roundw
      case rel=>exact⟨k+1,n'+1,by omega,by go_num,by rw[ZcI,Zjf,<-YaY,HYn.out];exact HCq.out.next hown' ((HKu.out.mono hzq).trans hb')⟩
      case measure=>simp[intOf];omega
     ·have HYn:Hid (Zda s b p r ys k=[]):=hid (by unfold Zda;rw[YaN (by rw[HN2.out];omega)]);go_wp2_with fail
      go_roundw
      case rel=>exact⟨k+1,n',by omega,by go_num,by rw[ZcI,Zjf,<-YaY,HYn.out,List.append_nil];exact HCq.out⟩
      case measure=>simp[intOf];omega
   ·have HXn:Hid (Zb8 s b p r xs k=[]):=hid (by unfold Zb8;rw[YaN (by rw[HN1.out];omega)]);have hc2:k<n2:=by omega
    go_upto_if 65 with(fail)
    obtain⟨w1,hw1⟩:∃w1,wr.alloc (.cells #[.int .i64 s,.int .i64 b,.int .i64 p,.int .i64 r,.int .i64 k] 216)=w1:=⟨_,rfl⟩;have k1:Below wr.heap.size wr w1:=by rw[<-hw1];exact bA0 _
    have T1:Blk w1 wr.heap.size 216 #[.int .i64 s,.int .i64 b,.int .i64 p,.int .i64 r,.int .i64 k]:=by rw[<-hw1];exact Blk.new _ _ _
    rw[hw1];clear hw1 j0 j1 j2 j3 j4 j5;have HT1:=hid T1;have HCo1:=hid (HCo.out.below k1);have HO1:=hid (Zac HOv.out k1);have HX1:=hid (rX.below k1);have HY1:=hid (rY.below k1);have hz1:wd.heap.size<=w1.heap.size:=YaH hzr k1.size;clear k1 T1 rX rY HOv;obtain⟨g2,o2,x2,y2,rfl,hg2,hx,e0,e1⟩:=Zdn HN2.out HY1.out hc2;have i3:(k:Int)<(n2:Int):=by omega
    have HYn:Hid (Zda s b p r ys k=[((false,pb),(s,b,p,r,(k:Int)),(x2,y2))]):=hid (by unfold Zda;rw[hx,HPB.out]);have q0:w1.cell? ⟨wr.heap.size,0,none⟩=some (.int .i64 s):=HT1.out.cell 0;have q1c:w1.cell? ⟨wr.heap.size,1,none⟩=some (.int .i64 b):=HT1.out.cell 1;have q2c:w1.cell? ⟨wr.heap.size,2,none⟩=some (.int .i64 p):=HT1.out.cell 2;have q3c:w1.cell? ⟨wr.heap.size,3,none⟩=some (.int .i64 r):=HT1.out.cell 3;have q4c:w1.cell? ⟨wr.heap.size,4,none⟩=some (.int .i64 k):=HT1.out.cell 4;have lt1:=HT1.out.lt;clear hx;go_wp2_with fail;refine ZaW w1 [0] [1,2,3,4,5,6,7,8] 9 [10,11] (by kernel_rfl) (by kernel_rfl) (by kernel_rfl) (Zag.of (bR0 _ _)) ?_;refine⟨_,_,rfl,.inl ⟨rfl,fun w=>rfl⟩,?_⟩;simp only[Zdj,YaO,YaP,YaB,YaC];go_simp;change wpQuiet _ _ _ _ (_::_::_::_::_::_::_::_::[]) _;have KC:=fun(u:KW w1) b o h=>KW.cells u b o h
    iterate 8 (go_big_quiet_step (fail))
    refine wpQuiet_nil ?_;rintro⟨u,ku⟩;change wpList _ _ _ (_::_::_::[]) _ _;dsimp only;clear KC;have HU:=hid (Zac HO1.out ku.2.2);have HKu:=hid ku.2.2;have hzu:wd.heap.size<=u.heap.size:=YaH hz1 ku.2.1;clear ku
    go_wp2_with (at_builtin;go_must (refine ZaM Zje rfl _ _ rfl wd.heap.size _ n (Zd3 (Zhn s b p r xs ys k)) rfl HU.out (ZlB ((false,pb),(s,b,p,r,(k:Int)),(x2,y2))).toArray u.heap.size rfl rfl rfl (Zcf _) (by unfold maxLen;omega) (by omega) hzu ?_);intro A' c' wv hown' hb' hgr')
    refine NoPanic.normal ?_;go_wp2_with fail
    go_roundw
    case rel=>exact⟨k+1,n+1,by omega,by go_num,by rw[ZcI,Zjf,HXn.out,List.nil_append,HYn.out];exact HCo1.out.next hown' ((HKu.out.mono hz1).trans hb')⟩
    case measure=>simp[intOf];omega
  ·obtain rfl:k=max n1 n2:=by omega
   have eL:Zhn s b p r xs ys (max n1 n2)=Zc7 s b p r xs ys:=by rw[Zc7,HN1.out,HN2.out]
   rw[eL] at HCo;have HLN:=hid HCo.out.len;clear rX rY j0 j1 j2 j3 j4 j5 eL;go_wp2;go_ret;rw[HLN.out];exact HCo.out.done.lift HKd.out
def rY(s b lo hi m c x p r:Int):List Zde:=if 0<=x/\x<m/\(p=0\/p=1)/\0<=r/\r<m-1 then ZcM s b lo hi m c x p r else []
theorem ZqN(s b lo hi m c x p r:Int)(h0:0<=lo)(h1:lo<=hi)(h2:hi<=1000)(hm:1<=m):(ZcM s b lo hi m c x p r).length<=2000:=by
 have z1:=Int.emod_nonneg (x-r+p) (b:=m) (by omega);have z2:=Int.emod_lt_of_pos (x-r+p) (b:=m) (by omega);have z3:=Int.emod_nonneg (x-r+p-1) (b:=m) (by omega);have z4:=Int.emod_lt_of_pos (x-r+p-1) (b:=m) (by omega);have a1:=Zir lo hi m c ((x-r+p)%m).toNat h1 h2 h0 (by omega);have a2:=Zir lo hi m c ((x-r+p-1)%m).toNat h1 h2 h0 (by omega);have:=ZlP s b p r (chS lo hi m c ((x-r+p)%m).toNat) (chS lo hi m c ((x-r+p-1)%m).toNat) (max (chS lo hi m c ((x-r+p)%m).toNat).length (chS lo hi m c ((x-r+p-1)%m).toNat).length);rw[ZcM,Zc7];omega
theorem ZuZ(s b lo hi m c x p r:Int)(h0:0<=lo)(h1:lo<=hi)(h2:hi<=1000)(hm:1<=m):(rY s b lo hi m c x p r).length<=2000:=by
 unfold rY
 split
 ·exact ZqN s b lo hi m c x p r h0 h1 h2 hm
 ·simp
theorem ZoJ(s b lo hi m c x p r:Int)(w:World)(h0:0<=lo)(h1:lo<=hi)(h2:hi<=1000)(hm1:1<=m)(hm2:m<=1000)(hc:c<=9223372036854775807) :
  Calls prog 228 #[Zkz s b lo hi m c,.int .i64 x,.int .i64 p,.int .i64 r] w (Zal w 220 9 (rY s b lo hi m c x p r).length (Zd3 (rY s b lo hi m c x p r))):=by
 unfold rY
 split
 ·rename_i h
  obtain⟨a1,a2,a3,a4,a5⟩:=h;exact Zs7 s b lo hi m c x p r w h0 h1 h2 hm2 a1 a2 a3 a4 a5 hc
 ·refine(ZqM s b lo hi m c x p r w hm1 (by omega) (by omega)).mono ?_;rintro e w' ⟨rfl,hb⟩;exact⟨none,0,rfl,World.ownsRow_nil _ _ _ _,hb⟩
theorem Zjg(s b lo hi m c x p r:Int)(w:World)(h0:0<=lo)(h1:lo<=hi)(h2:hi<=1000)(hm1:1<=m)(hm2:m<=1000)(hc:c<=9223372036854775807) :
  Calls prog 253 #[Zkz s b lo hi m c,.int .i64 x,.int .i64 p,.int .i64 r] w (Zal w 357 9 (rY s b lo hi m c x p r).length (Zd3 (rY s b lo hi m c x p r))):=by
 unfold rY
 split
 ·rename_i h
  obtain⟨a1,a2,a3,a4,a5⟩:=h;exact Zmt s b lo hi m c x p r w h0 h1 h2 hm2 a1 a2 a3 a4 a5 hc
 ·refine(ZkD s b lo hi m c x p r w hm1 (by omega) (by omega)).mono ?_;rintro e w' ⟨rfl,hb⟩;exact⟨none,0,rfl,World.ownsRow_nil _ _ _ _,hb⟩
