/- Lemmas. -/
import Derived.Test.YtkmaeipoaoikpaaGreatEC07
namespace Go.Proofs.YtkmaeipoaoikpaaGreat
set_option linter.all false
set_option maxRecDepth 100000
set_option maxHeartbeats 4000000
open Lib (hid)
open Tryz
section
open Go.RowKit Go.Shelf
attribute [local go_sem] Oper.semAt_some
theorem Zqv(R C m cap g o:Nat)(B:Option Addr)(d:Nat)(l y:List Int)(q:Int)(w:World)(hR:1<=R/\R<=1048576)(hC:1<=C/\C<=1048576)(hm:R*C=m)(hm':m<=1048576)(hcap:m<=cap)(hcm:cap<=9223372036854775807)(hl:l.length=m)(hyl:y.length=R)
  (h:Rd w 1 (some ⟨g,o,none⟩) m (iv l)) (hy:Rd w 1 B R (iv y)) (h1:∀v∈l,In1 v) (h2:∀v∈y,In1 v) :
  Calls prog 168 #[.agg #[.int .i64 R,.int .i64 C,.slice (some ⟨g,o,none⟩) m cap],.slice B R d,.int .i64 q] w fun e w'=>∃A c,e=.returned (.tuple #[.slice A C c,.bool true])/\w'.ownsRow w.heap.size 2 1 (.slice A C c) C (iv (Zig (ZdZ l R C) y q C))/\Below w.heap.size w w':=by
 have hmk:=fun W=>run_make_row' (P:=prog) 74 2 (.int .i64 0) 8 underlying74 Zhy.info rfl .i64 .i64 C (by omega) (by omega) W
 obtain⟨gy,oy,rfl,hgy,_⟩:=hy.2 (by omega);have hgl:g<w.heap.size:=h.lt g o rfl (by rw[<-hm];exact Nat.mul_pos hR.1 hC.1);obtain⟨W0,hW0⟩:∃W0,((w.alloc (.cells #[.int .i64 R,.int .i64 C,.slice (some ⟨g,o,none⟩) m cap] 271)).alloc (.cells #[.slice (some ⟨gy,oy,none⟩) R d] 74)).alloc (.cells #[.int .i64 q] 3)=W0:=⟨_,rfl⟩;have k0:Below w.heap.size w W0:=by rw[<-hW0];exact((bA0 _).alloc (by simp) _).alloc (by simp<;>omega) _
 have b0:Blk W0 w.heap.size 271 #[.int .i64 R,.int .i64 C,.slice (some ⟨g,o,none⟩) m cap]:=by rw[<-hW0];exact((Blk.new _ _ _).alloc _).alloc _
 have b1:Blk W0 (w.heap.size+1) 74 #[.slice (some ⟨gy,oy,none⟩) R d]:=by rw[<-hW0];exact(Blk.new' _ _ (by simp)).alloc _
 have b2:Blk W0 (w.heap.size+1+1) 3 #[.int .i64 q]:=by rw[<-hW0];exact Blk.new' _ _ (by simp)
 have hrt:decide (Zc9 R C m)=true:=YaJ ⟨⟨by omega,by omega,by omega,by omega⟩,by rw[<-hm];exact Int.natCast_mul R C⟩;have C1:=fun W=>ZeO R C (some ⟨g,o,none⟩) m cap W (by omega)
 rw[hrt] at C1;have HC1:=hid C1;have HR0:=hid (h.below k0);have HX0:=hid (hy.below k0);have HK0:=hid k0;have HB0:=hid b0;have HB1:=hid b1;have HB2:=hid b2;have HL:=hid (And.intro hl hyl);have HIN:=hid (And.intro h1 h2);have HM:=hid hm;have HR:=hid hR;have HC:=hid hC;have HMK:=hid hmk;have a0:W0.cell? ⟨w.heap.size,0,none⟩=some (.int .i64 R):=b0.cell 0;have a1:W0.cell? ⟨w.heap.size,1,none⟩=some (.int .i64 C):=b0.cell 1;have a2:W0.cell? ⟨w.heap.size,2,none⟩=some (.slice (some ⟨g,o,none⟩) m cap):=b0.cell 2;have lt0:=b0.lt;have HW0:=hid hW0;clear C1 k0 b0 b1 b2 hrt h hy hl hyl h1 h2 hm hW0 hR hC hmk;refine(callsIn_wide (n:=9)).1 (callsIn_of_wp_marks func168 rfl trivial (wpIn_wide.2 ?_) rfl);simp only[ntmps168,List.size_toArray,List.length_cons,List.length_nil,Nat.reduceAdd,Nat.reduceSub,Array.replicate_succ,Array.replicate_zero,List.push_toArray,List.append_toArray,List.nil_append,List.cons_append];go_wp2_with fail;rw[HW0.out];clear HW0;go_wp2_with fail;((with_reducible refine(HC1.out _).mono ?_);rintro e w1 ⟨rfl,hb1⟩);have m0:Blk w1 w.heap.size 271 #[.int .i64 R,.int .i64 C,.slice (some ⟨g,o,none⟩) m cap]:=HB0.out.kept hb1;have m1:Blk w1 (w.heap.size+1) 74 #[.slice (some ⟨gy,oy,none⟩) R d]:=HB1.out.kept hb1;have m2:Blk w1 (w.heap.size+1+1) 3 #[.int .i64 q]:=HB2.out.kept hb1;have hr1:=HR0.out.below hb1;have hx1:=HX0.out.below hb1;have hk1:=((Zag.of HK0.out).call hb1).2.2;have d1:((R:Int) !=(R:Int))=false:=by simp
 have y1:w1.cell? ⟨w.heap.size,1,none⟩=some (.int .i64 C):=m0.cell 1;have y2:w1.cell? ⟨w.heap.size+1,0,none⟩=some (.slice (some ⟨gy,oy,none⟩) R d):=m1.cell 0;have y3:w1.cell? ⟨w.heap.size,0,none⟩=some (.int .i64 R):=m0.cell 0;have y4:w1.cell? ⟨w.heap.size,2,none⟩=some (.slice (some ⟨g,o,none⟩) m cap):=m0.cell 2;have ly1:=m0.lt;have ly2:=m1.lt;have HM0:=hid m0;have HM1:=hid m1;have HM2:=hid m2;have HR1:=hid hr1;have HX1:=hid hx1;have HK1:=hid hk1;have hmk:=HMK.out;clear m0 m1 m2 hr1 hx1 hk1 hb1 a0 a1 a2 lt0 HB0 HB1 HB2 HR0 HX0 HK0 HC1;go_wp2_with fail;obtain⟨W2,hW2⟩:∃W2,(w1.alloc (.cells (madeCells #[Value.int .i64 0] C) 2)).alloc (.cells #[.slice (some ⟨w1.heap.size,0,none⟩) C C] 74)=W2:=⟨_,rfl⟩;rw[hW2];have k2:Below w1.heap.size w1 W2:=by rw[<-hW2];exact(bA0 _).alloc (by simp) _
 have o2:Blk W2 (w1.heap.size+1) 74 #[.slice (some ⟨w1.heap.size,0,none⟩) C C]:=by rw[<-hW2];exact Blk.new' _ _ (by simp)
 have p2:W2.ownsRow w1.heap.size 2 1 (.slice (some ⟨w1.heap.size,0,none⟩) C C) C (iv (Zas C)):=by rw[<-hW2];exact(Zgf _ C _ _ _ rfl (YaF _) HC.out.2).alloc _
 clear hW2;((with_reducible refine(Zi7 R C _ m cap _).mono ?_);rintro e w3 ⟨rfl,hbm,hb3⟩);clear y1 y2 y3 y4 d1 hmk HMK;go_wp2_with fail;have z2:w1.heap.size+1<W2.heap.size:=o2.lt;have z3:W2.heap.size<w3.heap.size:=hbm.lt;have K3:Below w1.heap.size w1 w3:=((Zag.of k2).call hb3).2.2;have o3:=o2.kept hb3;have p3:=Zac p2 hb3;have hseq:=Zfq (9-1) W2.heap.size R C m cap g o (by omega) HR.out.2 HC.out.1 HM.out hcap hcm (fun b=>b=w1.heap.size\/w3.heap.size<=b) (by omega) _ w3 hbm;clear hb3 k2 o2 p2 hbm;refine wpIn_wide.1 (wpIn_rangeFunc_ownH (F:=Fence.wide) (n:=9) rfl (by omega) (gf:=255) (lb:=#[.pointer (some ⟨W2.heap.size,0,none⟩)]) rfl trivial (enters_of func255 (by kernel_rfl) rfl) hseq (fun h k=>h.trans k) (Znk (w:=w3) (fun i hi=>.inr hi)) (bR0 _ _) (fun _=>rfl)
  (fun pre W=>(W.ownsRow w1.heap.size 2 1 (.slice (some ⟨w1.heap.size,0,none⟩) C C) C (iv (ZhB l y q C pre))/\Blk W (w1.heap.size+1) 74 #[.slice (some ⟨w1.heap.size,0,none⟩) C C])/\Below w1.heap.size w1 W)
  (fun _ _ _=>False)
  (OwnFrom.and (OwnFrom.and (Own.from (ZgD w1.heap.size 2 1 (.slice (some ⟨w1.heap.size,0,none⟩) C C) C (fun pre:List (Fin R)=>iv (ZhB l y q C pre))) _) (fun _ X Y row hs hg hr=>Blk.turn hs hg hr)) (ownFrom_below (YaF _) K3.size))
  (fun _ _ _ _ _ hs _ _=>hs)
  ⟨⟨p3,o3⟩,K3⟩
  (fun k a' W=>a'={ tmps:=#[.agg #[.int .i64 R,.int .i64 C,.slice (some ⟨g,o,none⟩) m cap],.slice (some ⟨gy,oy,none⟩) R d,.int .i64 q,.pointer (some ⟨w.heap.size,0,none⟩),.pointer (some ⟨w.heap.size+1,0,none⟩),.pointer (some ⟨w.heap.size+1+1,0,none⟩),.slice none 0 0,.bool false,.pointer (some ⟨w1.heap.size+1,0,none⟩),.int .i64 k.val,.slice (some ⟨g,o+k.val*C,none⟩) C C,.agg #[.int .i64 R,.int .i64 C,.slice (some ⟨g,o,none⟩) m cap],.bool true,.bool false,.bool false,.slice (some ⟨gy,oy,none⟩) R d,.int .i64 R,.pointer (some ⟨w.heap.size,0,none⟩),.int .i64 R,.bool false,.bool false,.pointer (some ⟨w.heap.size,1,none⟩),.int .i64 C,.slice (some ⟨w1.heap.size,0,none⟩) C C,.agg #[.int .i64 R,.int .i64 C,.slice (some ⟨g,o,none⟩) m cap],.func (.func 255) #[] #[.pointer (some ⟨W2.heap.size,0,none⟩)],.int .i64 k.val,.slice (some ⟨g,o+k.val*C,none⟩) C C,undef,undef,undef,undef,undef,undef,undef,undef,undef,undef],defers:=[] })
  (fun x a' s X Y row hs hg hr=>hs) ?assign ?body ?done ?stop)
 case assign=>
  rintro l' pre k W K hI hK;simp only[Zif]
  gi_wp2_with fail
  exact hK _ _ ((KeepsOthers.refl _).from _) (But.refl _ _) hI rfl
 case body=>
  rintro l' pre k a' W hl3 ⟨r0,hr0⟩ ⟨⟨hown,hblk⟩,hB⟩ rfl hlt;obtain⟨gy',oy',v,e1,hbv,hv,cv⟩:=Zb7 HL.out.2 (HX1.out.below hB) k.isLt
  cases e1
  have hyv:y.getD k.val 0=v:=by rw[YaT,hv];rfl
  have inv:In1 v:=HIN.out.2 v (YaL hv);have HSC:=hid (fun W' (hk:Below W.heap.size W W')=>ZpX (some ⟨g,o+k.val*C,none⟩) C C v q (Zd0 l C k.val) W' (by have:=HC.out;omega) (ZbQ HM.out HL.out.1 k.isLt) (Rd.row HM.out HL.out.1 k.isLt HC.out.1 ((HR1.out.below hB).below hk)) (Zp5 HIN.out.1 C k.val) inv);have x1:W.cell? ⟨w.heap.size+1,0,none⟩=some (.slice (some ⟨gy,oy,none⟩) R d):=(HM1.out.kept hB).cell 0;have x2:W.cell? ⟨w.heap.size+1+1,0,none⟩=some (.int .i64 q):=(HM2.out.kept hB).cell 0;have l1:=(HM1.out.kept hB).lt;have l2:=(HM2.out.kept hB).lt;have x3:W.cell? ⟨w1.heap.size+1,0,none⟩=some (.slice (some ⟨w1.heap.size,0,none⟩) C C):=hblk.cell 0;have l3:=hblk.lt;obtain⟨kv,hkv⟩:∃kv,k.val=kv:=⟨_,rfl⟩;have hkn:kv<R:=by rw[<-hkv];exact k.isLt
  obtain⟨b0,hb0⟩:∃b0,o+k.val*C=b0:=⟨_,rfl⟩;rw[hb0] at HSC ⊢;rw[hkv] at cv ⊢;have i0:(0:Int)<=(kv:Int):=by omega
  have i1:(kv:Int)<(R:Int):=by omega
  have HYV:=hid hyv;have HOW:=hid hown;have HBK:=hid hblk;have HBB:=hid hB;have HCC:=HC.out;clear hown hblk hB hl3 hr0 hlt o3 p3 K3 hseq hyv hv inv hb0 hkv
  gi_wp2_with fail
  refine Zfr (Zag W) [0,1,2,3,4,5,6] [7] [8] (by kernel_rfl) (by kernel_rfl) (by kernel_rfl) (Zag.start W) ?_;simp only[YaO,YaP,YaB,YaC];refine Zaa (.slice (some ⟨w1.heap.size,0,none⟩) C C) rfl (fun W hW=>?_) ?_
  ·obtain⟨hc,-,-⟩:=hW;go_simp
  go_simp;refine Zaa (.slice (some ⟨g,b0,none⟩) C C) rfl (fun W hW=>?_) ?_
  ·obtain⟨hc,-,-⟩:=hW;go_simp
  go_simp;refine Zaa (.slice (some ⟨gy,oy,none⟩) R d) rfl (fun W hW=>?_) ?_
  ·obtain⟨hc,-,-⟩:=hW;go_simp
  go_simp;refine Zaa (.int .i64 kv) rfl (fun W hW=>?_) ?_
  ·obtain⟨hc,-,-⟩:=hW;go_simp
  go_simp;refine Zaa (.pointer (some ⟨gy,oy+kv,none⟩)) rfl (fun W hW=>?_) ?_
  ·obtain⟨hc,-,-⟩:=hW;go_simp
  go_simp;refine Zaa (.int .i64 v) rfl (fun W hW=>?_) ?_
  ·obtain⟨hc,-,-⟩:=hW;go_simp
  go_simp;refine Zaa (.int .i64 q) rfl (fun W hW=>?_) ?_
  ·obtain⟨hc,-,-⟩:=hW;go_simp
  go_simp;change Zah _ _ _ _ _ (_::[]) _ _;unfold Zah;go_wp2_with fail;((with_reducible refine(HSC.out W.drew (bR0 _ _).drew).mono ?_);rintro e w5 ⟨A5,c5,rfl,hown5,hb5⟩);have k5:=(Zag.start W).call hb5;have hO5:=Zac HOW.out k5.2.2;have h5b:∀b o',A5=some ⟨b,o',none⟩->0<C->b≠w1.heap.size:=fun b o' e h0=>by
   have h3:=(Zbf hown5 b o' e).1;have h4:W.heap.size<=b:=h3;have h5:w1.heap.size+1<W.heap.size:=l3;omega
  have HADD:=hid (Zi4 (some ⟨w1.heap.size,0,none⟩) A5 w1.heap.size 0 C C c5 C C w1.heap.size (ZhB l y q C pre) (Zd6 (Zd0 l C k.val) v q) w5 (fun _=>rfl) (by omega) (by omega) (ZfJ _ _ _ _ _) (by rw[Zi2,ZbQ HM.out HL.out.1 k.isLt]) hO5 (Rd.of_own hown5) h5b);have HK5:=hid k5.2.2;clear hb5 hO5 h5b hown5 x1 x2 x3 cv;go_wp2_with fail;refine⟨k5,?_⟩;unfold Zah;change wpList _ _ _ (_::[]) _ _;go_wp2_with fail;((with_reducible refine HADD.out.mono ?_);rintro e w6 ⟨rfl,hown6,hgr6⟩);go_wp2_with fail;refine NoPanic.normal (ZiY.normal ?_);have hgW:W.grownBy w6 (some w1.heap.size):=ZaB HK5.out hgr6;go_wp2_with fail;refine⟨(KeepsOthers.of_grownBy hgW (fun a o e ha=>?_)).from _,But.of_gr hgW (.inl rfl),⟨?_,HBK.out.grown hgW (by simp)⟩,Zai HBB.out HBB.out.size hgW (YaF _)⟩
  ·cases e
   obtain⟨cur,hcur⟩:=ZcL HOW.out;rw[hcur] at ha
   cases ha
   rfl
  ·rw[Zil,HYV.out];exact hown6
 case done=>
  rintro D ys W hD rfl ⟨⟨hown,hblk⟩,hB⟩ hK;have hc:W.cell? ⟨w1.heap.size+1,0,none⟩=some (.slice (some ⟨w1.heap.size,0,none⟩) C C):=hblk.cell 0;have hlw:=hblk.lt;have HOW:=hid hown;have HBB:=hid hB;clear hown hB hseq;go_wp2_with fail;refine⟨by simp,.inl ⟨_,_,rfl,run_takeDeferred hK,?_⟩⟩;have ho6:=ownsRow_putObj HOW.out (.deferred none) hK rfl;rw[Zqu HM.out HL.out.1 HL.out.2] at ho6;have hz:=HK1.out.size;exact⟨.tuple #[.slice (some ⟨w1.heap.size,0,none⟩) C C,.bool true],by simp[results,results168,go_sem],_,_,rfl,Zae ho6 hz,(HK1.out.trans (HBB.out.mono hz)).trans (belowK_b (w:=w) (YaF _) W D _ _ (by have:=K3.size;omega) hK rfl rfl)⟩
 case stop=>
  rintro D c pre W _ _ h _;exact h.elim
end
section
open Go.RowKit
def Zco(v d:List Int)(i:Nat):List Int:=d.mapIdx fun j x=>if j<i then Zb2 (v.getD j 0) x else x
theorem Zmi(v d:List Int):Zco v d 0=d:=by
 unfold Zco
 apply List.ext_getElem?
 intro i;simp
theorem ZbF(v d:List Int)(i:Nat):(Zco v d i).length=d.length:=by simp[Zco]
theorem ZoA{v d:List Int}{i:Nat}{x:Int}(h:d[i]?=some x):(Zco v d i)[i]?=some x:=by simp[Zco,h]
theorem ZoB{v d:List Int}{i:Nat}{x u:Int}(h:d[i]?=some x)(hy:v[i]?=some u):(Zco v d i).set i (Zb2 u x)=Zco v d (i+1):=by
 obtain⟨hl,hv⟩:=YaG.1 h
 apply List.ext_getElem?
 intro j;rw[List.getElem?_set,ZbF]
 by_cases e:i=j
 ·subst e;rw[if_pos rfl,if_pos hl];simp[Zco,h,hy]
 ·rw[if_neg e]
  by_cases hj:j<d.length
  ·simp only[Zco,List.getElem?_mapIdx];rw[YaA hj];simp only[Option.map_some]
   by_cases h1:j<i
   ·rw[if_pos h1,if_pos (by omega)]
   ·rw[if_neg h1,if_neg (by omega)]
  ·rw[YaN (by rw[ZbF];omega),YaN (by rw[ZbF];omega)]
theorem Zs3(u:Int){x:Int}(h:In1 x):In1 (Zb2 u x):=by
 unfold Zb2
 split
 ·exact h
 ·exact⟨by decide,by decide⟩
theorem Zqw{v d:List Int}(i:Nat)(h:Zaw d):Zaw (Zco v d i):=by
 intro x hx;obtain⟨j,hj⟩:=List.getElem?_of_mem hx;simp only[Zco,List.getElem?_mapIdx] at hj;obtain⟨u,hu,rfl⟩:=Option.map_eq_some_iff.1 hj
 split
 ·exact Zs3 _ (h u (YaL hu))
 ·exact h u (YaL hu)
def dlN(l:List Int)(n:Nat)(P:List Int)(q:Int)(x y:List Int):Nat->List Int
 |0=>ZvL l n P q x y
 |j+1=>Zco (trN l n P q x (n-2-j)) (Zig (ZdZ (wtL l P (n-2-j)) (szN l (n-1-j)) (szN l (n-2-j))) (dlN l n P q x y j) q (szN l (n-2-j))) (szN l (n-2-j))
def sgN(l:List Int)(n:Nat)(P:List Int)(q:Int)(x y:List Int)(j:Nat):List Int:=ZlY (dlN l n P q x y j) (trN l n P q x (n-2-j)) q++dlN l n P q x y j
def grT(l:List Int)(n:Nat)(P:List Int)(q:Int)(x y:List Int):Nat->List Int
 |0=>[]
 |j+1=>sgN l n P q x y j++grT l n P q x y j
def Zkt(l:List Int)(n:Nat)(P:List Int)(q:Int)(x y:List Int):List Int:=grT l n P q x y (n-1)
theorem Zqx{n:Nat}{F:Nat->Int}{p:Int->Prop}(h:∀i,i<n->p (F i)):∀x∈ZcK n F,p x:=by
 intro x hx;obtain⟨i,hi,rfl⟩:=List.mem_map.1 hx;exact h i (List.mem_range.1 hi)
theorem Znv(q:Int):∀(a b:List Int) (s:Int),In1 s->In1 (Zl1 q a b s)
 |[],_,s,h=>by simpa [Zl1] using h
 |_::_,[],s,h=>by simpa [Zl1] using h
 |x::a,y::b,s,h=>by
  rw[Zl1];exact Znv q a b _ (ZaZ _)
theorem ZuR(q:Int)(a b:List Int):In1 (Zl2 q a b):=Znv q a b 0 ⟨by decide,by decide⟩
end
section
open Go.RowKit
variable{l:List Int}{n NP:Nat}{P:List Int}{q:Int}{x y:List Int}
theorem Zmj(hx:x.length=szN l 0):(ZvL l n P q x y).length=szN l (n-1):=by rw[ZvL,Zb3,Zby hx]
theorem ZdQ(hx:x.length=szN l 0):∀j,j<=n-1->(dlN l n P q x y j).length=szN l (n-1-j)
 |0,_=>Zmj hx
 |j+1,h=>by rw[dlN,ZbF,Zig,ZaD,show n-1-(j+1)=n-2-j by omega]
theorem ZuS(l x:List Int)(q:Int)(R:Nat):Zaw (Zig l x q R):=Zqx (fun i _=>ZuR _ _ _)
theorem Zqy(hx:Zaw x):∀j,Zaw (dlN l n P q x y j)
 |0=>Zs1 _ (Zql hx _)
 |j+1=>Zqw _ (ZuS _ _ _ _)
theorem ZgE(y x:List Int)(q:Int):(ZlY y x q).length=y.length*x.length:=by rw[ZlY,ZaD]
theorem ZoC(hN:NetP l n NP P q)(hx:x.length=szN l 0){j:Nat}(hj:j<n-1):(sgN l n P q x y j).length=ofN l (n-1-j)-ofN l (n-2-j):=by
 rw[sgN,YaS,ZgE,ZdQ hx j (by omega),Zby hx,show n-1-j=(n-2-j)+1 by omega,ofN];omega
theorem Zfs(hN:NetP l n NP P q)(hx:x.length=szN l 0):∀j,j<=n-1->(grT l n P q x y j).length=NP-ofN l (n-1-j)
 |0,_=>by rw[grT,Nat.sub_zero,hN.cnt];simp
 |j+1,h=>by
  have h1:=Zfs hN hx j (by omega);have h2:=ZoC (y:=y) hN hx (show j<n-1 by omega);have h3:=ZcV l (n-2-j) (n-1-j) (by omega);have h4:=ZcV l (n-1-j) (n-1) (by omega);rw[hN.cnt] at h4;rw[grT,YaS,h1,h2,show n-1-(j+1)=n-2-j by omega];omega
theorem ZoD(y x:List Int)(q:Int):Zaw (ZlY y x q):=Zqx (fun i _=>ZpV _ _ _)
theorem Zt6(hx:Zaw x):∀j,Zaw (grT l n P q x y j)
 |0=>fun v hv=>by cases hv
 |j+1=>fun v hv=>by
  rw[grT,List.mem_append,sgN,List.mem_append] at hv
  rcases hv with(h|h)|h
  ·exact ZoD _ _ _ v h
  ·exact Zqy hx j v h
  ·exact Zt6 hx j v h
theorem ZfK(hN:NetP l n NP P q)(hx:x.length=szN l 0):(Zkt l n P q x y).length=NP:=by
 rw[Zkt,Zfs hN hx _ (YaF _),Nat.sub_self];rfl
theorem Zs4(hx:Zaw x):Zaw (Zkt l n P q x y):=Zt6 hx _
theorem ZuT{Z G o:List Int}{a b:Nat}(hZ:Z=Zas b)(hab:a+o.length<=b):(Z++G).take a++(o++(Z++G).drop (a+o.length))=Zas a++o++(Zas (b-a-o.length)++G):=by
 subst hZ;have h1:(Zas b).length=b:=by simp
 rw[List.take_append_of_le_length (by rw[h1];omega),List.drop_append_of_le_length (by rw[h1];omega)];simp only[Zas,List.take_replicate,List.drop_replicate,Nat.min_eq_left (show a<=b by omega),YaY,Nat.sub_sub]
theorem ZuU{G o d:List Int}{a:Nat}:(Zas a++o++(Zas d.length++G)).take (a+o.length)++(d++(Zas a++o++(Zas d.length++G)).drop (a+o.length+d.length))=Zas a++((o++d)++G):=by
 have h1:(Zas a++o).length=a+o.length:=by simp
 rw[List.take_left' h1,<-YaY (Zas a++o) (Zas d.length) G,List.drop_left' (by simp;omega)];simp[YaY,Nat.add_assoc]
end
section
open Go.RowKit
theorem Zxp{w:World}{g:Nat}{t:TypeId}{a0 a1:Value}(h:Blk w g t #[a0,a1])(u v:Value) :
  w.grownBy ((w.setCell ⟨g,0,none⟩ u).setCell ⟨g,1,none⟩ v) (some g)/\Blk ((w.setCell ⟨g,0,none⟩ u).setCell ⟨g,1,none⟩ v) g t #[u,v]:=
 ⟨Zak (p:=⟨g,1,none⟩) (Zak (p:=⟨g,0,none⟩) (World.grownBy.refl w _) (.inl rfl) u) (.inl rfl) v,by
  have h1:Blk (w.setCell ⟨g,0,none⟩ u) g t #[u,a1]:=by simpa using h.set_ 0 u
  simpa using h1.set_ 1 v⟩
def Zim(w0 w:World)(v:Value)(p:Int×Int->Prop):Prop:=∃a x y,v=.pointer (some ⟨a,0,none⟩)/\w0.heap.size<=a/\Blk w a 218 #[.int .i64 x,.int .i64 y]/\p (x,y)
theorem Zim.below{w0 w w':World}{v:Value}{p:Int×Int->Prop}(h:Zim w0 w v p)(hb:Below w.heap.size w w'):Zim w0 w' v p:=by
 obtain⟨a,x,y,e,h1,h2,h3⟩:=h;exact⟨a,x,y,e,h1,h2.kept hb,h3⟩
theorem Zim.lt{w0 w:World}{v:Value}{p:Int×Int->Prop}(h:Zim w0 w v p){g:Nat}(hg:v=.pointer (some ⟨g,0,none⟩)):g<w.heap.size:=by
 obtain⟨a,x,y,rfl,h1,h2,h3⟩:=h;injection hg with hg
 injection hg with hg
 injection hg with hg
 subst hg;exact h2.lt
def Zmk(w0:World)(x y:Int×Int)(j:Nat)(v:Value)(w:World):Prop:=
 (j=5->v=.agg #[.int .i64 x.1,.int .i64 x.2])/\(j=11->v=.agg #[.int .i64 y.1,.int .i64 y.2])/\(j=12\/j=13->Zim w0 w v (fun _=>True))
def Zpv(j:Nat)(v:Value)(k:Nat)(v':Value):Prop:=(j=12\/j=13)->(k=12\/k=13)->v≠v'
theorem Zmk.below{w0:World}{x y:Int×Int}(j:Nat)(v:Value)(w w':World)(h:Zmk w0 x y j v w)(hb:Below w.heap.size w w'):Zmk w0 x y j v w':=⟨h.1,h.2.1,fun e=>(h.2.2 e).below hb⟩
theorem Zmk.five{w0 w:World}{x1 x2 y1 y2:Int}:Zmk w0 (x1,x2) (y1,y2) 5 (.agg #[.int .i64 x1,.int .i64 x2]) w:=⟨fun _=>rfl,fun e=>(by cases e),fun e=>by omega⟩
theorem Zmk.eleven{w0 w:World}{x1 x2 y1 y2:Int}:Zmk w0 (x1,x2) (y1,y2) 11 (.agg #[.int .i64 y1,.int .i64 y2]) w:=⟨fun e=>(by cases e),fun _=>rfl,fun e=>by omega⟩
theorem Zmk.box{w0 W:World}{x y:Int×Int}{j:Nat}(hj:j=12\/j=13)(hk:Zag w0 W):Zmk w0 x y j (.pointer (some ⟨W.heap.size,0,none⟩)) (W.alloc (.cells #[.int .i64 0,.int .i64 0] 218)):=
 ⟨fun e=>by omega,fun e=>by omega,fun _=>⟨W.heap.size,0,0,rfl,hk.2.1,Blk.new _ _ _,trivial⟩⟩
theorem Zpv.call{j k:Nat}{v v':Value}(hj:¬(j=12\/j=13)):Zpv j v k v':=fun h=>absurd h hj
theorem Zpv.box{w0 W:World}{x y:Int×Int}{j k:Nat}{v':Value}(h:Zmk w0 x y k v' W):Zpv j (.pointer (some ⟨W.heap.size,0,none⟩)) k v':=fun _ hk e=>absurd ((h.2.2 hk).lt e.symm) (Nat.lt_irrefl _)
theorem Zpv.symm(j:Nat)(v:Value)(k:Nat)(v':Value)(h:Zpv j v k v'):Zpv k v' j v:=fun h1 h2 e=>h h2 h1 e.symm
def ZuV(l:List Int)(n NP:Nat)(P:List Int)(q:Int)(x y:List Int)(w:World)(e:Ending)(w':World):Prop:=
 ∃A c,e=.returned (.tuple #[.slice A NP c,.bool true])/\w'.ownsRow w.heap.size 2 1 (.slice A NP c) NP (iv (Zkt l n P q x y))/\Below w.heap.size w w'
theorem Zml(nb:Nat)(l:List Int)(n NP:Nat)(P:List Int)(q:Int)(x y:List Int)(X Y:Option Addr)(N c R0 d:Nat)(w:World)(hN:NetP l n NP P q)(hA:ZsS w nb l n NP P q)(hxl:x.length=N)(hx:Rd w 1 X N (iv x))(hxN:N=szN l 0)(hxi:Zaw x)
  (hyl:y.length=R0) (hy:Rd w 1 Y R0 (iv y)) (hR:szN l (n-1)=R0) :
  Calls prog 85 #[.pointer (some ⟨nb,0,none⟩),.slice X N c,.slice Y R0 d] w (ZuV l n NP P q x y w):=by
 have HC1:=hid (Zmh nb l n NP P q x y X Y N c R0 d w hN hA hxl hx hxN hxi hyl hy hR);obtain⟨base,bs,Ap,cp,Al,cl,ls,lb0,hA⟩:=hA;have hcnt:Zbp l (n-1)=(NP:Int):=by rw[hN.cnt_eq _ (by have:=hN.n2;omega),hN.cnt]
 have hn2:=hN.n2;have hn16:=hN.n16;have hNP:=hN.np;have hpl:=hN.pl;obtain⟨m1,hm1⟩:∃m1,n=m1+2:=⟨n-2,by omega⟩;obtain⟨m,hm⟩:∃m,m1+1=m:=⟨_,rfl⟩;have hnm:n-1=m:=by omega
 have HC2:=hid (fun W (s:ZaC W base bs l n)=>by
  have:=Zbs base bs n l W s;rw[hcnt] at this;exact this)
 have HC4:=hid (fun W (s:ZaC W base bs l n)=>by
  have:=ZbW base bs n l W s;rw[hnm] at this;exact this)
 have HN:=hid hN;have HA:=hid hA;have HM1:=hid hm1;have HM:=hid hm;have HNM:=hid hnm;have HXI:=hid hxi;have HX0:Hid (x.length=szN l 0):=hid (by rw[hxl,hxN]);clear hN hA hcnt hxl hx hxN hxi hyl hy hR hm1 hm hnm hn2
 go_enter func85,ntmps85
 go_wp2_with fail
 go_step3
 go_wp2_with fail;((with_reducible refine HC1.out.mono ?_);rintro e w1 ⟨A,cA,ss,D,dc,rfl,hr1,hsl,hok,hD,hb1,hne⟩);have hA1:=HA.out.below hb1;have b0:w1.cell? ⟨nb,0,none⟩=some (.pointer (some ⟨bs,0,none⟩)):=hA1.blk.cell 0;have lb:=hA1.blk.lt;have HA1:=hid hA1;have HR1:=hid hr1;have HSL:=hid hsl;have HOK1:=hid hok;have HD1:=hid hD;have HB1:=hid hb1;rw[HNM.out] at HD1 ⊢;clear hA1 hr1 hsl hok hD hb1 hne HC1;go_wp2_with fail;((with_reducible refine(HC2.out _ HA1.out.shp).mono ?_);rintro e w2 ⟨rfl,rfl⟩);have hmk:=fun W=>run_make_row' (P:=prog) 74 2 (.int .i64 0) 8 underlying74 Zhy.info rfl .i64 .i64 NP (by omega) (by omega) W
 go_wp2_with fail;clear hmk b0 lb;obtain⟨w3,hw3⟩:∃w3,w1.alloc (.cells (madeCells #[Value.int .i64 0] NP) 2)=w3:=⟨_,rfl⟩;obtain⟨go,hgo⟩:∃go,w1.heap.size=go:=⟨_,rfl⟩;have hb3:Below w1.heap.size w1 w3:=by rw[<-hw3];exact bA0 _
 have ho3:w3.ownsRow w.heap.size 2 1 (.slice (some ⟨go,0,none⟩) NP NP) NP (iv (Zas NP)):=by rw[<-hw3];exact Zgf w1 NP go _ _ hgo (by rw[<-hgo];exact HB1.out.size) (by omega)
 rw[hw3,hgo];have HGO:=hid hgo;have HO3:=hid ho3;have HA3:=hid (HA1.out.below hb3);have HR3:=hid (Zac HR1.out hb3);have HOK3:=hid (HOK1.out.below hb3);have HD3:=hid (Zac HD1.out hb3);have HB3:=hid (bT0 HB1.out hb3);have HGW:Hid (w.heap.size<=go):=hid (by rw[<-hgo];exact HB1.out.size);have HTG:Hid (∀(j:Nat) (s:Zel),ss[j]?=some s->∀g,(slv s).ownBlock=some g->g≠go):=hid (by
  intro j s hs g hg;have:=((HOK1.out j s hs).2.lt g hg).2
  omega)
 have HRG:Hid (∀g,(Value.slice A n cA).ownBlock=some g->g≠go):=hid (by
  intro g hg;have:=(HR1.out.lt g hg).2
  omega)
 have HDG:Hid (∀g,(Value.slice D (szN l m) dc).ownBlock=some g->g≠go):=hid (by
  intro g hg;have:=(HD1.out.lt g hg).2
  omega)
 clear hw3 hgo hb3 ho3 HA1 HR1 HOK1 HD1 HB1;have b0:w3.cell? ⟨nb,0,none⟩=some (.pointer (some ⟨bs,0,none⟩)):=HA3.out.blk.cell 0;have lb:=HA3.out.blk.lt;go_wp2_with fail
 go_step3
 go_wp2_with fail;((with_reducible refine(HC4.out _ HA3.out.shp).mono ?_);rintro e w4 ⟨rfl,rfl⟩);have hwm:IntKind.i64.wrap ((m:Int)-1)=(m1:Int):=by rw[show (m:Int)-1=(m1:Int) by have:=HM.out;omega];exact IntWalk.i64_in _ (by have:=HM1.out;omega)
 go_wp2_with fail;clear b0 lb hwm
 go_loopw [9,12] (fun dv v wr=>∃(j k:Nat) (D:Option Addr) (dc:Nat),j+k=m1/\dv=.slice D (szN l (k+1)) dc/\v=.int .i64 k/\wr.ownsRow w.heap.size 2 1 (.slice D (szN l (k+1)) dc) (szN l (k+1)) (iv (dlN l n P q x y j))/\(∀g,(Value.slice D (szN l (k+1)) dc).ownBlock=some g->g≠go)/\wr.ownsRow w.heap.size 2 1 (.slice (some ⟨go,0,none⟩) NP NP) NP (iv (Zas (ofN l (k+1))++grT l n P q x y j))/\But (fun b=>b=go) w3 wr) (fun _ v _=>(intOf v).toNat)
 case atStart=>
  have e:m1+1=m:=HM.out;refine⟨0,m1,D,dc,by omega,by rw[e],rfl,by rw[e];exact HD3.out,by rw[e];exact HDG.out,?_,But.refl _ _⟩;rw[e,show ofN l m=NP by rw[<-HNM.out];exact HN.out.cnt,grT,List.append_nil];exact HO3.out
 case round=>
  obtain⟨j,k,D,dc,hjk,rfl,rfl,hd,hdn,ho,hbut⟩:=hrel;have hbel:Below w.heap.size w wr:=HB3.out.trans (hbut.below HB3.out.size (fun i hi=>by rw[hi];exact HGW.out));have hTr:Znu wr w.heap.size l (trN l n P q x) ss:=fun i s hs=>⟨(HOK3.out i s hs).1,Zap (HOK3.out i s hs).2 hbut (fun g hg=>HTG.out i s hs g hg)⟩
  have hRr:=Zap HR3.out hbut (fun g hg=>HRG.out g hg);have hA:=HA.out.below hbel;have hmn:=HNM.out;have hmm:=HM.out;have hkn:k<n-1:=by omega
  have hjn:n-2-j=k:=by omega
  have hjn1:n-1-j=k+1:=by omega
  have hRR:=HN.out.sz (show k+1<n by omega);have hCC:=HN.out.sz (show k<n by omega);have hfit:=HN.out.fit hkn;have hob:(ofN l k:Int)+(szN l (k+1):Int)*(szN l k:Int)=(obN l k:Int):=by unfold obN;simp
  have HC5:Hid (∀W,ZaC W base bs l n->Calls prog 143 #[.pointer (some ⟨bs,0,none⟩),.int .i64 k] W fun e w'=>e=.returned (.agg #[.int .i64 (ofN l k),.int .i64 (obN l k)])/\Below W.heap.size W w'):=hid (fun W s=>by
   have:=Zc8 base bs n k l W s hkn;rw[HN.out.cnt_eq k (by omega),HN.out.getD (show k<n by omega),HN.out.getD (show k+1<n by omega),hob] at this;exact this)
  have HC6:Hid (∀W,ZaC W base bs l n->Calls prog 144 #[.pointer (some ⟨bs,0,none⟩),.int .i64 k] W fun e w'=>e=.returned (.agg #[.int .i64 (obN l k),.int .i64 (ofN l (k+1))])/\Below W.heap.size W w'):=hid (fun W s=>by
   have:=Zdp base bs n k l W s hkn;rw[HN.out.cnt_eq k (by omega),HN.out.cnt_eq (k+1) (by omega),HN.out.getD (show k<n by omega),HN.out.getD (show k+1<n by omega),hob] at this;exact this)
  have hof:obN l k=ofN l k+szN l (k+1)*szN l k:=rfl;have hof2:ofN l (k+1)=obN l k+szN l (k+1):=rfl;have hmono:ofN l (k+1)<=NP:=by rw[hof2];exact hfit
  have HSG:Hid (sgN l n P q x y j=ZlY (dlN l n P q x y j) (trN l n P q x k) q++dlN l n P q x y j):=hid (by unfold sgN;rw[hjn]);have HDL:Hid ((dlN l n P q x y j).length=szN l (k+1)):=hid (by rw[ZdQ HX0.out j (by omega),hjn1]);have HTL:Hid ((trN l n P q x k).length=szN l k):=hid (Zby HX0.out k);have HGL:Hid ((grT l n P q x y j).length=NP-ofN l (k+1)):=hid (by rw[Zfs HN.out HX0.out j (by omega),hjn1]);obtain⟨R,hRe⟩:∃R,szN l (k+1)=R:=⟨_,rfl⟩;obtain⟨C,hCe⟩:∃C,szN l k=C:=⟨_,rfl⟩;obtain⟨M,hMe⟩:∃M,R*C=M:=⟨_,rfl⟩;obtain⟨o,hoe⟩:∃o,ofN l k=o:=⟨_,rfl⟩;obtain⟨ob,hobe⟩:∃ob,obN l k=ob:=⟨_,rfl⟩;obtain⟨o2,ho2e⟩:∃o2,ofN l (k+1)=o2:=⟨_,rfl⟩;rw[hRe,hCe,hMe,hoe,hobe] at hof;rw[hRe,ho2e,hobe] at hof2;rw[ho2e] at hmono ho HGL;rw[hRe] at hd hdn hRR HDL ⊢;rw[hCe] at hCC HTL;rw[hoe,hobe] at HC5;rw[hobe,ho2e] at HC6;have hM1:1<=M:=by rw[<-hMe];exact Nat.mul_pos hRR.2.1 hCC.2.1
  have HRE:=hid hRe;have HCE:=hid hCe;have HME:=hid hMe;have HOE:=hid hoe;have HOF:=hid hof;have HOF2:=hid hof2;have b0:wr.cell? ⟨nb,0,none⟩=some (.pointer (some ⟨bs,0,none⟩)):=hA.blk.cell 0;have lb:=hA.blk.lt;clear hRe hCe hMe hoe hobe ho2e hfit hob hof hof2;have HTR:=hid hTr;have HRR:=hid hRr;have HAR:=hid hA;have HDR:=hid hd;have HDN:=hid hdn;have HOR:=hid ho;have HBR:=hid hbut;have HBL:=hid hbel;have HJ:=hid hjk;clear hTr hRr hA hd hdn ho hbut hbel;go_wp2_with fail;refine ZaY (Zag wr) (Zmk wr ((o:Int),(ob:Int)) ((ob:Int),(o2:Int))) Zpv [0,1,2,3,4,6,7,8,9,10] [5,11,12,13] [14,15] (by kernel_rfl) (by kernel_rfl) (Zag.start wr) Zpv.symm Zmk.below ?_;simp only[YaO,YaP,YaB,YaC];refine Zaa (.pointer (some ⟨nb,0,none⟩)) rfl (fun W hW=>?_) ?_
  ·obtain⟨hc,-,-⟩:=hW;go_simp
  go_simp;refine Zaa (.pointer (some ⟨nb,0,none⟩)) rfl (fun W hW=>?_) ?_
  ·obtain⟨hc,-,-⟩:=hW;go_simp
  go_simp;refine Zaa (.pointer (some ⟨nb,0,none⟩)) rfl (fun W hW=>?_) ?_
  ·obtain⟨hc,-,-⟩:=hW;go_simp
  go_simp;refine Zaa (.pointer (some ⟨bs,0,none⟩)) rfl (fun W hW=>?_) ?_
  ·obtain⟨hc,-,-⟩:=hW;go_simp
  go_simp;refine Zaa (.int .i64 k) rfl (fun W hW=>?_) ?_
  ·obtain⟨hc,-,-⟩:=hW;go_simp
  go_simp;refine Zaa (.pointer (some ⟨nb,0,none⟩)) rfl (fun W hW=>?_) ?_
  ·obtain⟨hc,-,-⟩:=hW;go_simp
  go_simp;refine Zaa (.pointer (some ⟨nb,0,none⟩)) rfl (fun W hW=>?_) ?_
  ·obtain⟨hc,-,-⟩:=hW;go_simp
  go_simp;refine Zaa (.pointer (some ⟨nb,0,none⟩)) rfl (fun W hW=>?_) ?_
  ·obtain⟨hc,-,-⟩:=hW;go_simp
  go_simp;refine Zaa (.pointer (some ⟨bs,0,none⟩)) rfl (fun W hW=>?_) ?_
  ·obtain⟨hc,-,-⟩:=hW;go_simp
  go_simp;refine Zaa (.int .i64 k) rfl (fun W hW=>?_) ?_
  ·obtain⟨hc,-,-⟩:=hW;go_simp
  go_simp;refine Zeh.mk ?_ ?_
  ·intro j8 hj8 o ho8 vs W hS hV;simp only[List.mem_cons,List.not_mem_nil,or_false] at hj8;have HS:=hid hS;clear hS
   rcases hj8 with rfl|rfl|rfl|rfl
   ·cases ho8
    unfold Zbl;simp only[ZaL,ZaT,YaD,YaB,YaC,YaE];change wpList _ _ _ (_::[]) _ _;go_wp2_with fail;((with_reducible refine(HC5.out W (HAR.out.shp.below HS.out.2.2)).mono ?_);rintro e w8 ⟨rfl,hb8⟩);go_wp2_with fail;exact⟨HS.out.call hb8,Zmk.five,fun _ _ _ _=>Zpv.call (by decide)⟩
   ·cases ho8
    unfold Zbl;simp only[ZaL,ZaT,YaD,YaB,YaC,YaE];change wpList _ _ _ (_::[]) _ _;go_wp2_with fail;((with_reducible refine(HC6.out W (HAR.out.shp.below HS.out.2.2)).mono ?_);rintro e w8 ⟨rfl,hb8⟩);go_wp2_with fail;exact⟨HS.out.call hb8,Zmk.eleven,fun _ _ _ _=>Zpv.call (by decide)⟩
   all_goals cases ho8
   all_goals unfold Zbl
   all_goals simp only[ZaL,ZaT,YaD,YaB,YaC,YaE]
   all_goals change wpList _ _ _ (_::[]) _ _
   all_goals go_wp2_with fail
   all_goals exact⟨HS.out.alloc _,Zmk.box (by decide) HS.out,bA0 _,fun _ _ _ h=>Zpv.box h⟩
  ·intro vs W hS hV hR;have h5:=(hV 5 (by simp)).1 rfl;have h11:=(hV 11 (by simp)).2.1 rfl;obtain⟨ga,a1,a2,e12,hga,hba,-⟩:=(hV 12 (by simp)).2.2 (.inl rfl);obtain⟨gb,b1,b2,e13,hgb,hbb,-⟩:=(hV 13 (by simp)).2.2 (.inr rfl);have hne:ga≠gb:=by
    have h:=hR 12 (by simp) 13 (by simp) (by decide) (.inl rfl) (.inr rfl);rw[e12,e13] at h;exact fun e=>h (by rw[e])
   simp only[ZaL,ZaT,YaO,YaP,YaD,YaB,YaC,YaE];rw[h5,h11,e12,e13];have HS:=hid hS.2.2;have HBA:=hid hba;have HBB:=hid hbb;have HGA:=hid hga;have HGB:=hid hgb;have hne':=hne.symm;have k0:=hba.frozen 0;have k1:=hba.frozen 1;have k2:=hbb.frozen 0;have k3:=hbb.frozen 1;have c0:=hba.cell 0;have c1:=hba.cell 1;have c2:=hbb.cell 0;have c3:=hbb.cell 1;have l0:=hba.lt;have l1:=hbb.lt;clear hS hV hR h5 h11 e12 e13 hga hgb hba hbb b0 lb;change wpList _ _ _ (_::_::[]) _ _;go_wp2_with fail;refine NoPanic.normal ?_;obtain⟨hg1,hb1'⟩:=Zxp HBA.out (.int .i64 o) (.int .i64 ob);have hbb1:=HBB.out.grown hg1 (by intro e;injection e with e;exact hne e.symm);obtain⟨hg2,hb2'⟩:=Zxp hbb1 (.int .i64 ob) (.int .i64 o2);have hba2:=hb1'.grown hg2 (by intro e;injection e with e;exact hne e);have hbe:=Zai (Zai HS.out HS.out.size hg1 HGA.out) (YaH HS.out.size hg1.size) hg2 HGB.out;obtain⟨w7,hw7⟩:∃w7,(((W.setCell ⟨ga,0,none⟩ (.int .i64 o)).setCell ⟨ga,1,none⟩ (.int .i64 ob)).setCell ⟨gb,0,none⟩ (.int .i64 ob)).setCell ⟨gb,1,none⟩ (.int .i64 o2)=w7:=⟨_,rfl⟩;rw[hw7] at hb2' hba2 hbe ⊢;have HA7:=hid (HAR.out.below hbe);have HTR7:=hid (HTR.out.below hbe);have HRR7:=hid (Zac HRR.out hbe);have HD7:=hid (Zac HDR.out hbe);have HO7:=hid (Zac HOR.out hbe);have HBU7:=hid (HBR.out.call hbe);have HPA:=hid hba2;have HPB:=hid hb2';have HB7:=hid (bT0 HBL.out hbe);clear hw7 hb1' hbb1 hb2' hba2 hbe hg1 hg2 k0 k1 k2 k3 c0 c1 c2 c3 l0 l1 hne hne' HS HBA HBB HGA HGB HAR HTR HRR HDR HOR HBR HBL vs;go_wp2_with fail;obtain⟨⟨Ak,nk,ck⟩,hsk⟩:∃s,ss[k]?=some s:=⟨_,YaA (by have:=HSL.out;omega)⟩;obtain⟨hnk,hok⟩:=HTR7.out k _ hsk;dsimp only at hnk;rw[HCE.out] at hnk hok;subst hnk;obtain⟨gr,hgr,lgr,hcr⟩:=Zds HRR7.out hsk (by omega);subst hgr;have hcr':w7.cell? ⟨gr,k,none⟩=some (.slice Ak nk ck):=hcr;have HTK:=hid hok;have HSK:=hid hsk;have p0:=HPA.out.cell 0;have p1:=HPA.out.cell 1;have lp:=HPA.out.lt;have n2:w7.cell? ⟨nb,2,none⟩=some (.int .i64 q):=HA7.out.blk.cell 2;have ln:=HA7.out.blk.lt;have i1:(0:Int)<=(k:Int):=by omega
   have i2:(k:Int)<(n:Int):=by omega
   obtain⟨Aw,hAw⟩:∃Aw,Zax (some ⟨go,0,none⟩) NP o=Aw:=⟨_,rfl⟩;have hsl:=fun W=>Zcm (P:=prog) (T:=74) (A:=some ⟨go,0,none⟩) (n:=NP) (c:=NP) (e:=o) (e2:=ob) (k:=M) (c1:=NP-o) (P1:=Aw) underlying74 (fun W=>rfl) (by have:=HOF.out;omega) (by have:=HOF.out;have:=HOF2.out;omega) (by have:=HOF.out;omega) rfl hAw W
   have HAW:=hid hAw;have HOU:=hid (fun W (kk:Zag w7 W)=>Zoy R nk M D Ak dc ck (dlN l n P q x y j) (trN l n P q x k) q W ⟨hRR.2.1,hRR.2.2⟩ ⟨hCC.2.1,hCC.2.2⟩ HME.out ⟨hM1,by have:=HOF.out;have:=HOF2.out;omega⟩ HDL.out HTL.out (Rd.of_own (Zac HD7.out kk.2.2)) (Rd.of_own (Zac HTK.out kk.2.2)) (Zqy HXI.out j) (Zql HXI.out k));clear hok hsk hcr hAw;refine Zad (Zag w7) [0,1,2,3,4,5,6,7,8,9,10,11,12,13,14] [15,16] [17] (by kernel_rfl) (by kernel_rfl) (Zag.start w7) ?_;simp only[YaO,YaP,YaB,YaC];refine Zaa (.slice (some ⟨go,0,none⟩) NP NP) rfl (fun W hW=>?_) ?_
   ·obtain⟨hc,-,-⟩:=hW;go_simp
   go_simp;refine Zaa (.pointer (some ⟨ga,0,none⟩)) rfl (fun W hW=>?_) ?_
   ·obtain⟨hc,-,-⟩:=hW;go_simp
   go_simp;refine Zaa (.int .i64 o) rfl (fun W hW=>?_) ?_
   ·obtain⟨hc,-,-⟩:=hW;go_simp
   go_simp;refine Zaa (.pointer (some ⟨ga,1,none⟩)) rfl (fun W hW=>?_) ?_
   ·obtain⟨hc,-,-⟩:=hW;go_simp
   go_simp;refine Zaa (.int .i64 ob) rfl (fun W hW=>?_) ?_
   ·obtain⟨hc,-,-⟩:=hW;go_simp
   go_simp;refine Zaa (.slice Aw M (NP-o)) rfl (fun W hW=>?_) ?_
   ·obtain⟨hc,-,-⟩:=hW;go_simp
   go_simp;refine Zaa (.slice D R dc) rfl (fun W hW=>?_) ?_
   ·obtain⟨hc,-,-⟩:=hW;go_simp
   go_simp;refine Zaa (.slice (some ⟨gr,0,none⟩) n cA) rfl (fun W hW=>?_) ?_
   ·obtain⟨hc,-,-⟩:=hW;go_simp
   go_simp;refine Zaa (.int .i64 k) rfl (fun W hW=>?_) ?_
   ·obtain⟨hc,-,-⟩:=hW;go_simp
   go_simp;refine Zaa (.pointer (some ⟨gr,k,none⟩)) rfl (fun W hW=>?_) ?_
   ·obtain⟨hc,-,-⟩:=hW;go_simp
   go_simp;refine Zaa (.slice Ak nk ck) rfl (fun W hW=>?_) ?_
   ·obtain⟨hc,-,-⟩:=hW;go_simp
   go_simp;refine Zaa (.pointer (some ⟨nb,0,none⟩)) rfl (fun W hW=>?_) ?_
   ·obtain⟨hc,-,-⟩:=hW;go_simp
   go_simp;refine Zaa (.pointer (some ⟨nb,0,none⟩)) rfl (fun W hW=>?_) ?_
   ·obtain⟨hc,-,-⟩:=hW;go_simp
   go_simp;refine Zaa (.pointer (some ⟨nb,2,none⟩)) rfl (fun W hW=>?_) ?_
   ·obtain⟨hc,-,-⟩:=hW;go_simp
   go_simp;refine Zaa (.int .i64 q) rfl (fun W hW=>?_) ?_
   ·obtain⟨hc,-,-⟩:=hW;go_simp
   go_simp;change Zah _ _ _ _ _ (_::_::[]) _ _;unfold Zah;go_wp2_with fail;((with_reducible refine(HOU.out _ (Zag.start w7)).mono ?_);rintro e w8 ⟨Ao,co,rfl,hoo,hb8⟩);have kk:=(Zag.start w7).call hb8;have HOO:=hid hoo;have HKK:=hid kk;clear hoo hb8 kk p0 p1 lp n2 ln hcr' lgr hsl;go_wp2_with fail;refine⟨HKK.out,?_⟩;unfold Zah;change wpList _ _ _ (_::[]) _ _;have hfd:(Instr.field 271 (.agg #[.int .i64 R,.int .i64 nk,.slice Ao M co]) 2).run prog w8=.ok (.slice Ao M co) w8:=rfl;go_wp2_with fail;refine⟨HKK.out,?_⟩;unfold Zah;change wpList _ _ _ (_::[]) _ _;have HO8:=hid (Zac HO7.out HKK.out.2.2);have HD8:=hid (Zac HD7.out HKK.out.2.2);have HPB8:=hid (HPB.out.kept HKK.out.2.2);have HZL:Hid ((Zas o2++grT l n P q x y j).length=NP):=hid (by rw[YaS,HGL.out,List.length_replicate];omega);have HOL:Hid ((ZlY (dlN l n P q x y j) (trN l n P q x k) q).length=M):=hid (by rw[ZgE,HDL.out,HTL.out,HME.out]);have HFE:Hid (o+M<=NP):=hid (by have:=HOF.out;have:=HOF2.out;omega);have HOR8:=hid (Rd.of_own HOO.out);clear hfd
   go_wp2_with (refine ZbP rfl (.tmp 58) (.tmp 69) _ _ rfl underlying74 (by kernel_rfl) (some ⟨go,0,none⟩) NP NP o M (NP-o) (Zas o2++grT l n P q x y j) Ao co (ZlY (dlN l n P q x y j) (trN l n P q x k) q) w.heap.size Aw HAW.out rfl rfl HO8.out HZL.out HFE.out HOL.out HOR8.out ?_;intro w9 hown9 hg9)
   refine NoPanic.normal ?_;have hlay1:=ZuT (Z:=Zas o2) (G:=grT l n P q x y j) (o:=ZlY (dlN l n P q x y j) (trN l n P q x k) q) (a:=o) (b:=o2) rfl (by rw[HOL.out];have:=HOF.out;have:=HOF2.out;omega);rw[HOL.out,show o2-o-M=R by have:=HOF.out;have:=HOF2.out;omega] at hlay1;rw[hlay1] at hown9;have HBU9:=hid ((HBU7.out.call HKK.out.2.2).trans (But.of_gr hg9 rfl));have HD9:=hid (Zap HD8.out (But.of_gr (S:=fun b=>b=go) hg9 rfl) (fun g hg=>HDN.out g hg));have HPB9:=hid (HPB8.out.other HO8.out hg9 (by decide));have HO9:=hid hown9;obtain⟨Ab,hAb⟩:∃Ab,Zax (some ⟨go,0,none⟩) NP ob=Ab:=⟨_,rfl⟩;have hsl2:=fun W=>Zcm (P:=prog) (T:=74) (A:=some ⟨go,0,none⟩) (n:=NP) (c:=NP) (e:=ob) (e2:=o2) (k:=R) (c1:=NP-ob) (P1:=Ab) underlying74 (fun W=>rfl) (by have:=HOF2.out;omega) (by omega) (by have:=HOF2.out;omega) rfl hAb W
   have HAB:=hid hAb;have p0:=HPB9.out.cell 0;have p1:=HPB9.out.cell 1;have lp:=HPB9.out.lt;have HZL2:Hid ((Zas o++ZlY (dlN l n P q x y j) (trN l n P q x k) q++(Zas R++grT l n P q x y j)).length=NP):=hid (by
    simp only[YaS,HGL.out,HOL.out,List.length_replicate];have:=HOF.out;have:=HOF2.out
    omega)
   have HFE2:Hid (ob+R<=NP):=hid (by have:=HOF2.out;omega);have HDR9:=hid (Rd.of_own HD9.out);clear hown9 hg9 hlay1 hAb HO8 HD8 HPB8 HPA HPB HO7 HTR7 HRR7 HD7 HB7 HOO HOR8
   go_wp2_with (refine ZbP rfl (.tmp 76) (.tmp 77) _ _ rfl underlying74 (by kernel_rfl) (some ⟨go,0,none⟩) NP NP ob R (NP-ob) (Zas o++ZlY (dlN l n P q x y j) (trN l n P q x k) q++(Zas R++grT l n P q x y j)) D dc (dlN l n P q x y j) w.heap.size Ab HAB.out rfl rfl HO9.out HZL2.out HFE2.out HDL.out HDR9.out ?_;intro w10 hown10 hg10)
   all_goals (
    have hlay2:=ZuU (G:=grT l n P q x y j) (o:=ZlY (dlN l n P q x y j) (trN l n P q x k) q) (d:=dlN l n P q x y j) (a:=o);rw[HOL.out,HDL.out,<-HSG.out,show o+M=ob by have:=HOF.out;omega] at hlay2;rw[hlay2] at hown10;have HO10:Hid (w10.ownsRow w.heap.size 2 1 (.slice (some ⟨go,0,none⟩) NP NP) NP (iv (Zas o++grT l n P q x y (j+1)))):=hid hown10;have hbut:=HBU9.out.trans (But.of_gr hg10 rfl);have hbel:Below w.heap.size w w10:=HB3.out.trans (hbut.below HB3.out.size (fun i hi=>by rw[hi];exact HGW.out));have HTR:=hid (show Znu w10 w.heap.size l (trN l n P q x) ss from fun i s hs=>⟨(HOK3.out i s hs).1,Zap (HOK3.out i s hs).2 hbut (fun g hg=>HTG.out i s hs g hg)⟩);have HRR:=hid (Zap HR3.out hbut (fun g hg=>HRG.out g hg));have HAR:=hid (HA.out.below hbel);have HD10:=hid (Zap HD9.out (But.of_gr (S:=fun b=>b=go) hg10 rfl) (fun g hg=>HDN.out g hg));have HBR:=hid hbut;have HBL:=hid hbel;clear hown10 hg10 hlay2 hbut hbel p0 p1 lp hsl2 HO9 HD9 HDR9 HPB9 HBU9 HZL HZL2 HA7 HBU7)
   ·
    rename_i hz
    have hk0:k=0:=by simpa using hz
    rw[Exit.noGoto_ret]
    go_ret2
    refine⟨some ⟨go,0,none⟩,NP,rfl,?_,HBL.out⟩;have e1:o=0:=by rw[<-HOE.out,hk0];rfl
    have e2:j+1=n-1:=by have:=HJ.out;have:=HM1.out;omega
    have h:=HO10.out;rw[e1,e2] at h
    simpa [Zkt] using h
   ·
    rename_i hz _ _
    have hk0:k≠0:=by simpa using hz
    have hmn:=HNM.out;have hmm:=HM.out;have hjj:=HJ.out;obtain⟨⟨AV,cV,Ab2,cb⟩,hsk⟩:∃s,ls[k]?=some s:=⟨_,YaA (by rw[HAR.out.len];omega)⟩;obtain⟨hwt,-,-⟩:=HAR.out.wts k _ hsk;dsimp only at hwt;rw[HRE.out,HCE.out,HME.out] at hwt;obtain⟨gw,rfl⟩:=Zbu hwt (by omega);obtain⟨gl,hgl,lgl,hcl⟩:=Zij HAR.out.lrow hsk (by omega);subst hgl;have hle:lkE l k (some ⟨gw,0,none⟩,cV,Ab2,cb)=[.int .i64 R,.int .i64 nk,.slice (some ⟨gw,0,none⟩) M cV,.slice Ab2 R cb]:=by rw[<-HME.out,<-HRE.out,<-HCE.out];rfl
    rw[hle] at hcl;have l0:w10.cell? ⟨gl,k*4,none⟩=some (.int .i64 R):=hcl 0 (by omega);have l1:w10.cell? ⟨gl,k*4+1,none⟩=some (.int .i64 nk):=hcl 1 (by omega);have l2:w10.cell? ⟨gl,k*4+2,none⟩=some (.slice (some ⟨gw,0,none⟩) M cV):=hcl 2 (by omega);have n3:w10.cell? ⟨nb,3,none⟩=some (.slice (some ⟨gl,0,none⟩) m cl):=by have:=HAR.out.blk.cell 3;rw[HNM.out] at this;exact this
    have n2:w10.cell? ⟨nb,2,none⟩=some (.int .i64 q):=HAR.out.blk.cell 2;have ln:=HAR.out.blk.lt;have j2:(k:Int)<(m:Int):=by omega
    have HGW2:=hid hwt;have HBK:=hid (fun W (kk:Zag w10 W)=>Zqv R nk M cV gw 0 D dc (wtL l P k) (dlN l n P q x y j) q W ⟨by omega,by omega⟩ ⟨by omega,by omega⟩ HME.out (by have:=HFE.out;omega) (Zdq HGW2.out) (by have:=ZaF HGW2.out;obtain⟨_,_,hv,_,h2,_⟩:=this;injection hv with _ _ h3;rw[h3];unfold maxLen at h2;omega) (by have:=HGW2.out.1;rw[Zay] at this;omega) HDL.out (Rd.of_own (Zac HGW2.out kk.2.2)) (Rd.of_own (Zac HD10.out kk.2.2)) (fun v hv=>HN.out.pin v (List.mem_of_mem_drop (List.mem_of_mem_take hv))) (Zqy HXI.out j));have KS:Zag w10 w10.drew:=Zag.start w10;clear hwt hsk hcl hle hz
    go_region_held3 (fun w'=>Zag w10 w') (first|exact kk|exact KS) (first
     | (go_at_call 168;(with_reducible refine(HBK.out _ KS).mono ?_);rintro e w11 ⟨B,cB,rfl,hbo,hb11⟩;have kk:Zag w10 w11:=KS.call hb11;have HKB:=hid kk;have HBO:=hid hbo;clear hbo hb11))
    obtain⟨gB,rfl⟩:=Zbu HBO.out (by omega);obtain⟨Z,hZ⟩:∃Z,Zig (ZdZ (wtL l P k) R nk) (dlN l n P q x y j) q nk=Z:=⟨_,rfl⟩;have HBO':=HBO.out;rw[hZ] at HBO';have HZ0:=hid HBO';have HZE:=hid hZ;have HZLE:Hid (Z.length=nk):=hid (by have:=HBO'.1;rw[Zay] at this;omega);have HGB:Hid (w10.heap.size<=gB):=hid (HBO'.lt gB rfl).1;obtain⟨-,htk⟩:=HTR.out k _ HSK.out;rw[HCE.out] at htk;have HTK10:=hid htk;obtain⟨gr',hgr',lgr,hcr⟩:=Zds (Zac HRR.out HKB.out.2.2) HSK.out (by omega);injection hgr' with hgr'
    injection hgr' with hgr'
    subst hgr';have hcr':w11.cell? ⟨gr,k,none⟩=some (.slice Ak nk ck):=hcr;clear HBO' hZ htk hcr l0 l1 l2 n3 n2 ln kk KS HBO;go_wp2_with fail;clear hcr' lgr
    go_loopw [103] (fun v wi=>∃i:Nat,i<=nk/\v=.int .i64 i/\wi.ownsRow w10.heap.size 2 1 (.slice (some ⟨gB,0,none⟩) nk cB) nk (iv (Zco (trN l n P q x k) Z i))/\Below w10.heap.size w10 wi) (fun v _=>nk-(intOf v).toNat)
    case atStart=>exact⟨0,by omega,rfl,by rw[Zmi];exact HZ0.out,HKB.out.2.2⟩
    case round=>
     obtain⟨i,hi,rfl,hz,hb⟩:=hrel
     by_cases hir:i<nk
     ·obtain⟨v,hv⟩:∃v,Z[i]?=some v:=⟨_,YaA (by rw[HZLE.out];exact hir)⟩;have hcv:wr.cell? ⟨gB,i,none⟩=some (.int .i64 v):=(hz.cellAt i (by omega)).trans (by rw[iv,YaR,ZoA hv];rfl);obtain⟨bk,ok,u,rfl,lbk,hu,cu⟩:=Zb7 HTL.out (Rd.of_own (Zac HTK10.out hb)) hir;obtain⟨gr',hgr',lgr,hcr⟩:=Zds (Zac HRR.out hb) HSK.out (by omega);injection hgr' with hgr'
      injection hgr' with hgr'
      subst hgr';have hcr':wr.cell? ⟨gr,k,none⟩=some (.slice (some ⟨bk,ok,none⟩) nk ck):=hcr;obtain⟨cur,hcur⟩:=ZcL hz;have fz:wr.frozen? ⟨gB,i,none⟩=false:=by simp[World.frozen?,hcur]
      have lz:gB<wr.heap.size:=(hz.lt gB rfl).2;have h1:=hz.stored i (.int .i64 (Zb2 u v));rw[Zcs,ZoB hv hu] at h1;have HZ8:=hid h1.1;have HB8:=hid (Zai hb hb.size h1.2 HGB.out);have HGT:=hid (ZsU u v wr);have r1:(0:Int)<=(i:Int):=by omega
      have r2:(i:Int)<(nk:Int):=by omega
      have HIR:=hid hir;clear hz hb hv hcur h1 hcr;go_wp2_with fail;((with_reducible refine HGT.out.mono ?_);rintro e w12 ⟨rfl,hw12⟩);subst hw12;go_wp2_with fail
      go_roundw
      case rel=>exact⟨i+1,HIR.out,by go_num,HZ8.out,HB8.out⟩
      case measure=>simp[intOf];have:=HIR.out;omega
     ·obtain rfl:i=nk:=by omega
      have HZ9:Hid (wr.ownsRow w.heap.size 2 1 (.slice (some ⟨gB,0,none⟩) i cB) i (iv (dlN l n P q x y (j+1)))):=hid (by
       rw[dlN,show n-2-j=k by have:=HJ.out;have:=HM1.out;omega,show n-1-j=k+1 by have:=HJ.out;have:=HM1.out;omega,HRE.out,HCE.out,HZE.out];exact Zae hz HBL.out.size)
      have HB9:=hid hb;obtain⟨k',hk'⟩:∃k',k=k'+1:=⟨k-1,by omega⟩;have hkw:IntKind.i64.wrap ((k:Int)-1)=(k':Int):=by rw[show (k:Int)-1=(k':Int) by omega];exact IntWalk.i64_in _ (by omega)
      have HK':=hid hk';clear hz hb hk';go_wp2_with fail
      go_roundw
      case rel=>
       have e1:k'+1=k:=HK'.out.symm;refine⟨j+1,k',some ⟨gB,0,none⟩,cB,by have:=HJ.out;omega,by rw[e1,HCE.out],rfl,by rw[e1,HCE.out];exact HZ9.out,?_,by rw[e1,HOE.out];exact Zac HO10.out HB9.out,HBR.out.call HB9.out⟩;rw[e1,HCE.out];intro g hg e;have h1:gB=g:=by simpa [Value.ownBlock] using hg
       have h2:=(HO10.out.lt go rfl).2;have h3:=HGB.out;omega
      case measure=>simp[intOf];have:=HK'.out;omega
theorem Zku(a b:Nat)(w:World)(ha:a<=1000000000)(hb:b<=9223372036854775807) :
  Calls prog 81 #[.int .i64 a,.int .i64 b] w fun e w'=>e=.returned (.int .i64 (cnt a b))/\w=w':=by
 have h:=Zj7 a b w (by omega) (by omega) (by omega)
 simpa using h
theorem Zmm(n s:Int)(w:World)(hn:-9223372036854775808<=n)(hn2:n<=1000000000)(hs:s<=9223372036854775807)(h:n<1\/s<1) :
  Calls prog 77 #[.int .i64 n,.int .i64 s] w (Zal w 218 2 0 (rv [])):=by
 have H:=hid h;clear h
 go_enter func77,ntmps77
 go_wp2_with fail;((with_reducible refine(Zj7 n s _ (by omega) (by omega) (by omega)).mono ?_);rintro e w1 ⟨rfl,rfl⟩);rw[<-Zgb n s H.out];go_wp2_with fail
 go_loop [5,11] (fun v c=>v=.slice none 0 0/\c=.int .i64 0) (fun _ c=>0)
 case atStart=>exact⟨rfl,rfl⟩
 case round=>
  obtain⟨rfl,rfl⟩:=hrel;go_wp2;go_ret;exact⟨none,0,rfl,World.ownsRow_nil _ _ _ _,bR0 _ _⟩
theorem ZdR(a b:Nat)(w:World)(ha1:1<=a)(ha:a<=10000000)(hb1:1<=b)(hb:b<=9223372036854775807) :
  Calls prog 77 #[.int .i64 a,.int .i64 b] w (Zal w 218 2 (cnt a b) (rv (Zat a b))):=by
 go_enter func77,ntmps77
 go_wp2_with fail;((with_reducible refine(Zku a b _ (by omega) (by omega)).mono ?_);rintro e w1 ⟨rfl,rfl⟩);have hc:=Zci a b;go_wp2_with fail
 go_loopw [5,11] (fun v c wr=>∃i:Nat,i<=cnt a b/\c=.int .i64 i/\ZiV w 218 (Zat a b) i v wr) (fun _ c _=>cnt a b-(intOf c).toNat)
 case atStart=>exact⟨0,by omega,rfl,ZiV.start _ _ _⟩
 case round=>
  obtain⟨i,hi,rfl,hcoll⟩:=hrel
  by_cases hlt:i<cnt a b
  ·have hin:=(ZfD a b i ha1 hb1).1 hlt;have HX:=hid (ZeE a b i hlt);obtain⟨q,hq⟩:∃q,i*b=q:=⟨_,rfl⟩;have hq':(i:Int)*(b:Int)=(q:Int):=by rw[<-hq];simp
   rw[hq] at HX hin;clear hq
   by_cases hm:b<=a-q
   all_goals
    go_wp2_with (at_builtin;refine Zav ZfF rfl _ _ rfl w.heap.size _ i (rv ((Zat a b).take i)) rfl hcoll.2.1 _ _ rfl (by simp) rfl (Za4 _ _) (by unfold maxLen;omega) (by omega) hcoll.2.2.size ?_;intro A' cap' w1 hown1 hb1)
    go_roundw
    case rel=>exact⟨i+1,by omega,by go_num,hcoll.next (by first|(have:=HX.out;rw[Nat.min_eq_left hm] at this;exact hid this)|(have:=HX.out;rw[Nat.min_eq_right (by omega),show ((q+(a-q):Nat):Int)=(q:Int)+((a:Int)-(q:Int)) by omega] at this;exact hid this)) hown1 hb1⟩
    case measure=>simp[intOf];omega
  ·go_wp2;go_ret;exact hcoll.done (hid (Zan a b)) hi hlt
def ZjW{α:Type}(l:List α)(k:Nat):List α:=(List.range l.length).filterMap fun x=>if x<k\/l.length-k<=x then l[l.length-1-x]? else l[x]?
theorem Zi9{α β:Type}(f:α->Option β)(l:List α)(h:∀x∈l,(f x).isSome=true)(i:Nat):(l.filterMap f)[i]?=(l[i]?).bind f:=by
 induction l generalizing i with
 |nil=>simp
 |cons a l ih=>
  obtain⟨b,hb⟩:=Option.isSome_iff_exists.1 (h a (by simp));rw[List.filterMap_cons_some hb]
  cases i with
  |zero=>simp[hb]
  |succ i=>simpa using ih (fun x hx=>h x (by simp[hx])) i
theorem Zqz{α:Type}(l:List α)(k:Nat):∀x∈List.range l.length,((fun x=>if x<k\/l.length-k<=x then l[l.length-1-x]? else l[x]?) x).isSome=true:=by
 intro x hx;simp only[List.mem_range] at hx;dsimp only
 split
 ·rw[YaA (by omega)];rfl
 ·rw[YaA hx];rfl
theorem ZcX{α:Type}(l:List α)(k x:Nat)(hx:x<l.length):(ZjW l k)[x]?=if x<k\/l.length-k<=x then l[l.length-1-x]? else l[x]?:=by
 unfold ZjW;rw[Zi9 _ _ (Zqz l k),List.getElem?_range hx];rfl
theorem Zbj{α:Type}(l:List α)(k:Nat):(ZjW l k).length=l.length:=by
 apply Nat.le_antisymm
 ·exact YaH (List.length_filterMap_le _ _) (by simp)
 ·rcases Nat.lt_or_ge (ZjW l k).length l.length with h|h
  ·have h1:=ZcX l k (ZjW l k).length h;rw[YaN (YaF _)] at h1
   exfalso
   split at h1
   ·rw[YaA (by omega)] at h1;cases h1
   ·rw[YaA h] at h1;cases h1
  ·exact h
theorem ZqA{α:Type}(l:List α):ZjW l 0=l:=by
 apply List.ext_getElem?
 intro i
 by_cases h:i<l.length
 ·rw[ZcX l 0 i h,if_neg (by omega)]
 ·rw[YaN (by rw[Zbj];omega),YaN (by omega)]
theorem ZqB{α:Type}(l:List α)(k:Nat)(h:l.length<=2*k+1):ZjW l k=l.reverse:=by
 apply List.ext_getElem?
 intro i
 by_cases hi:i<l.length
 ·rw[ZcX l k i hi,List.getElem?_reverse hi]
  split
  ·rfl
  ·congr 1;omega
 ·rw[YaN (by rw[Zbj];omega),YaN (by simp;omega)]
theorem ZqC{α:Type}(l:List α)(k j:Nat)(a b:α)(hj:k+j+1=l.length)(hlt:k<j)(ha:(ZjW l k)[k]?=some a)(hb:(ZjW l k)[j]?=some b):((ZjW l k).set k b).set j a=ZjW l (k+1):=by
 apply List.ext_getElem?
 intro i
 by_cases hi:i<l.length
 ·rw[List.getElem?_set,List.getElem?_set,ZcX l (k+1) i hi];rw[ZcX l k k (by omega),if_neg (by omega)] at ha;rw[ZcX l k j (by omega),if_neg (by omega)] at hb
  by_cases e1:j=i
  ·subst e1;rw[if_pos rfl,if_pos (by simp[Zbj];omega),if_pos (by omega),<-ha]
   congr 1;omega
  ·rw[if_neg e1]
   by_cases e2:k=i
   ·subst e2;rw[if_pos rfl,if_pos (by rw[Zbj];omega),if_pos (by omega),<-hb]
    congr 1;omega
   ·rw[if_neg e2,ZcX l k i hi]
    by_cases h3:i<k\/l.length-k<=i
    ·rw[if_pos h3,if_pos (by omega)]
    ·rw[if_neg h3,if_neg (by omega)]
 ·rw[YaN (by simp[Zbj];omega),YaN (by rw[Zbj];omega)]
end
theorem Zt7(l:List (Int×Int))(k:Nat)(x y:Int):((rv l).set (k*2) (.int .i64 x)).set (k*2+1) (.int .i64 y)=rv (l.set k (x,y)):=by
 induction l generalizing k with
 |nil=>simp[rv]
 |cons r l ih=>
  obtain⟨a,b⟩:=r
  cases k with
  |zero=>simp[ZiU]
  |succ k=>
   rw[show (k+1)*2=k*2+2 by omega,ZiU];simp only[List.set_cons_succ,ZiU];rw[ih k]
