/- Lemmas. -/
import Derived.Test.YtkmaeipoaoikpaaGreatEC04
namespace Go.Proofs.YtkmaeipoaoikpaaGreat
set_option linter.all false
set_option maxRecDepth 100000
set_option maxHeartbeats 4000000
open Lib (hid)
open Tryz
section
open Go.RowKit
def Zf0(r q:Int):Prop:=1<=r/\r<=1048576/\1<=q/\q<=1048576
instance (r q:Int):Decidable (Zf0 r q):=inferInstanceAs (Decidable (_/\_))
def Zc9(r q:Int)(n:Nat):Prop:=Zf0 r q/\(n:Int)=r*q
instance (r q:Int) (n:Nat):Decidable (Zc9 r q n):=inferInstanceAs (Decidable (_/\_))
theorem Zf1(x:Int)(h1:-9223372036854775808<=x)(h2:x<=9223372036854775807):IntKind.i64.wrap x=x:=by rw[IntKind.wrap_i64];omega
theorem Zp1{r q:Int}(h:Zf0 r q):wrap64 (r*q)=r*q:=by
 obtain⟨h1,h2,h3,h4⟩:=h;have a:0<=r*q:=Int.mul_nonneg (by omega) (by omega);have b:r*q<=1048576*1048576:=Int.mul_le_mul h2 h4 (by omega) (by omega);exact Za6 _ (by omega) (by omega)
theorem Zkl(r q:Int)(w:World) :
  Calls prog 245 #[.int .i64 r,.int .i64 q] w fun e w'=>e=.returned (.bool (decide (Zf0 r q)))/\w=w':=by
 by_cases h1:1<=r
 ·by_cases h2:r<=1048576
  ·by_cases h3:1<=q
   ·by_cases h4:q<=1048576
    ·have d1:decide (r<1)=false:=YaI (by omega);have d2:decide (1048576<r)=false:=YaI (by omega);have d3:decide (q<1)=false:=YaI (by omega);have d4:decide (1048576<q)=false:=YaI (by omega);rw[show decide (Zf0 r q)=true from YaJ ⟨h1,h2,h3,h4⟩]
     go_enter func245,ntmps245
     go_wp2;go_ret;exact⟨rfl,rfl⟩
    ·have d1:decide (r<1)=false:=YaI (by omega);have d2:decide (1048576<r)=false:=YaI (by omega);have d3:decide (q<1)=false:=YaI (by omega);have d4:decide (1048576<q)=true:=YaJ (by omega);rw[show decide (Zf0 r q)=false from YaI (fun h=>h4 h.2.2.2)]
     go_enter func245,ntmps245
     go_wp2;go_ret;exact⟨rfl,rfl⟩
   ·have d1:decide (r<1)=false:=YaI (by omega);have d2:decide (1048576<r)=false:=YaI (by omega);have d3:decide (q<1)=true:=YaJ (by omega);rw[show decide (Zf0 r q)=false from YaI (fun h=>h3 h.2.2.1)]
    go_enter func245,ntmps245
    go_wp2;go_ret;exact⟨rfl,rfl⟩
  ·have d1:decide (r<1)=false:=YaI (by omega);have d2:decide (1048576<r)=true:=YaJ (by omega);rw[show decide (Zf0 r q)=false from YaI (fun h=>h2 h.2.1)]
   go_enter func245,ntmps245
   go_wp2;go_ret;exact⟨rfl,rfl⟩
 ·have d1:decide (r<1)=true:=YaJ (by omega);rw[show decide (Zf0 r q)=false from YaI (fun h=>h1 h.1)]
  go_enter func245,ntmps245
  go_wp2;go_ret;exact⟨rfl,rfl⟩
theorem ZeO(r q:Int)(A:Option Addr)(n c:Nat)(w:World)(hn:n<=1000000000) :
  Calls prog 202 #[.agg #[.int .i64 r,.int .i64 q,.slice A n c]] w fun e w'=>e=.returned (.bool (decide (Zc9 r q n)))/\Below w.heap.size w w':=by
 obtain⟨b,hb⟩:∃b,decide (Zf0 r q)=b:=⟨_,rfl⟩;have C:=fun W=>Zkl r q W
 rw[hb] at C;have HC:=hid C;have HB:=hid hb;clear C hb
 cases b
 ·rw[show decide (Zc9 r q n)=false from YaI (fun h=>(of_decide_eq_false HB.out) h.1)];clear HB
  go_enter func202,ntmps202
  go_wp2_with fail;((with_reducible refine(HC.out _).mono ?_);rintro e w1 ⟨rfl,rfl⟩);go_wp2;go_ret;exact⟨rfl,bA0 _⟩
 ·have hs:Zf0 r q:=of_decide_eq_true HB.out;have hw:=Zp1 hs;rw[show decide (Zc9 r q n)=decide ((n:Int)=r*q) from by
   by_cases h:(n:Int)=r*q
   ·rw[YaJ h,YaJ (show Zc9 r q n from⟨hs,h⟩)]
   ·rw[YaI h,YaI (show ¬Zc9 r q n from fun k=>h k.2)]]
  obtain⟨m,hm⟩:∃m,r*q=m:=⟨_,rfl⟩;have hw':wrap64 (r*q)=m:=hw.trans hm;rw[hm];clear HB hs hm hw
  go_enter func202,ntmps202
  go_wp2_with fail;((with_reducible refine(HC.out _).mono ?_);rintro e w1 ⟨rfl,rfl⟩);go_wp2;go_ret;exact⟨Zao (by simp[hw',BEq.beq]),bA0 _⟩
theorem ZuF(R C k n cap g o:Nat)(w:World)(hk:k<R)(hC:1<=C)(hn:R*C=n)(hcap:n<=cap)(hcm:cap<=9223372036854775807) :
  Calls prog 256 #[.agg #[.int .i64 R,.int .i64 C,.slice (some ⟨g,o,none⟩) n cap],.int .i64 k] w fun e w'=>e=.returned (.slice (some ⟨g,o+k*C,none⟩) C C)/\Below w.heap.size w w':=by
 obtain⟨p,hp⟩:∃p,k*C=p:=⟨_,rfl⟩;have hpn:p+C<=n:=by
  rw[<-hp,<-hn]
  calc k*C+C=(k+1)*C:=by rw[Nat.add_mul,Nat.one_mul]
   _<=R*C:=YaW _ hk
 have hkp:k<=p:=by rw[<-hp];exact Nat.le_mul_of_pos_right _ hC
 have e1:wrap64 ((k:Int)*(C:Int))=(p:Int):=by rw[<-Int.natCast_mul,hp];exact Za6 _ (by omega) (by omega)
 have e2:wrap64 (((k:Int)+1)*(C:Int))=(p:Int)+(C:Int):=by
  rw[Int.add_mul,Int.one_mul,<-Int.natCast_mul,hp];exact Za6 _ (by omega) (by omega)
 rw[hp];clear hp hk hn
 go_enter func256,ntmps256
 go_wp2_with fail
 go_quiet (fail)
 go_wp2;go_ret;rw[show p+C-p=C by omega];exact⟨rfl,below_drewN (bA0 _) _⟩
theorem ZsG(r q:Int)(A:Option Addr)(n c:Nat)(l:List Int)(w:World)(hr:Zc9 r q n)(hn:n<=10000000)(hl:l.length=n)(h:Rd w 1 A n (iv l)) :
  Calls prog 145 #[.int .i64 r,.int .i64 q,.slice A n c] w fun e w'=>∃A' c',e=.returned (.tuple #[.agg #[.int .i64 r,.int .i64 q,.slice A' n c'],.bool true])/\w'.ownsRow w.heap.size 2 1 (.slice A' n c') n (iv l)/\Below w.heap.size w w':=by
 obtain⟨W0,hW0⟩:∃W0,w.alloc (.cells #[.int .i64 0,.int .i64 0,.slice none 0 0] 271)=W0:=⟨_,rfl⟩;have k0:Below w.heap.size w W0:=by rw[<-hW0];exact bA0 _
 have b0:Blk W0 w.heap.size 271 #[.int .i64 0,.int .i64 0,.slice none 0 0]:=by rw[<-hW0];exact Blk.new _ _ _
 have C2:=fun A c W=>ZeO r q A n c W (by omega)
 rw[show decide (Zc9 r q n)=true from YaJ hr] at C2;have HC1:=hid (Za0 A n c l W0 hl (h.below k0) hn);have HC2:=hid C2;have HW:=hid hW0;have HB0:=hid b0;have HK:=hid k0;clear hW0 b0 k0 C2 h hl hr
 go_enter func145,ntmps145
 go_wp2_with fail;rw[HW.out];((with_reducible refine HC1.out.mono ?_);rintro e w1 ⟨A',c',rfl,hown,hb1⟩);obtain⟨W2,hW2⟩:∃W2,w1.alloc (.cells #[.int .i64 r,.int .i64 q,.slice A' n c'] 271)=W2:=⟨_,rfl⟩;have k2:Below w1.heap.size w1 W2:=by rw[<-hW2];exact bA0 _
 have o2:Blk W2 w1.heap.size 271 #[.int .i64 r,.int .i64 q,.slice A' n c']:=by rw[<-hW2];exact Blk.new _ _ _
 have HB2:=hid ((HB0.out.kept hb1).kept k2);have HO2:=hid o2;have HOW:=hid (Zac hown k2);have KK:=hid (((Zag.of HK.out).call hb1).call k2).2.2;have HW2:=hid hW2;clear hW2 k2 o2 hown hb1;go_wp2_with fail;rw[HW2.out];((with_reducible refine(HC2.out _ _ _).mono ?_);rintro e w3 ⟨rfl,hb3⟩);have m2:=HO2.out.kept hb3;have m0:=HB2.out.kept hb3;have y0:w3.cell? ⟨w1.heap.size,0,none⟩=some (.int .i64 r):=m2.cell 0;have y1:w3.cell? ⟨w1.heap.size,1,none⟩=some (.int .i64 q):=m2.cell 1;have y2:w3.cell? ⟨w1.heap.size,2,none⟩=some (.slice A' n c'):=m2.cell 2;have ly:=m2.lt;have x0:w3.cell? ⟨w.heap.size,0,none⟩=some (.int .i64 0):=m0.cell 0;have x1:w3.cell? ⟨w.heap.size,1,none⟩=some (.int .i64 0):=m0.cell 1;have x2:w3.cell? ⟨w.heap.size,2,none⟩=some (.slice none 0 0):=m0.cell 2;have f0:=m0.frozen 0;have f1:=m0.frozen 1;have f2:=m0.frozen 2;have lx:=m0.lt;have HM0:=hid m0;have HO3:=hid (Zac HOW.out hb3);have K3:=hid ((Zag.of KK.out).call hb3).2.2;clear m2 m0 hb3 HW HW2;go_wp2_with fail;have hst:=ZwS HM0.out (.int .i64 r) (.int .i64 q) (.slice A' n c');have hz:=HK.out.size;exact bodyPost_ret (v:=.tuple #[.agg #[.int .i64 r,.int .i64 q,.slice A' n c'],.bool true]) (by simp[results,results145,go_sem,x0,x1,x2,lx]) rfl ⟨_,_,rfl,Zae (HO3.out.kept hst.1 (.inr (Zab HO3.out HM0.out (by decide)))) hz,Zai K3.out K3.out.size hst.1 (YaF _)⟩
def ZcK(n:Nat)(F:Nat->Int):List Int:=(List.range n).map F
def ZvV(n:Nat)(F:Nat->Int)(k:Nat):List Int:=ZcK n fun i=>if i<k then F i else 0
theorem ZaD(n:Nat)(F:Nat->Int):(ZcK n F).length=n:=by simp[ZcK]
theorem Zca(n:Nat)(F:Nat->Int)(i:Nat)(h:i<n):(ZcK n F)[i]?=some (F i):=by simp[ZcK,h]
theorem Zfp{n:Nat}{F G:Nat->Int}(h:∀i,i<n->F i=G i):ZcK n F=ZcK n G:=by
 unfold ZcK;exact List.map_congr_left (fun i hi=>h i (List.mem_range.1 hi))
theorem Zop(n:Nat)(F:Nat->Int):ZvV n F 0=Zas n:=by
 unfold ZvV ZcK Zas
 apply List.ext_getElem?
 intro i
 by_cases h:i<n<;>simp[h,List.getElem?_replicate]
def Zp2(y x:List Int)(q:Int)(i:Nat):Int:=Zd5 (y.getD (i/x.length) 0) (x.getD (i%x.length) 0) q
def ZlY(y x:List Int)(q:Int):List Int:=ZcK (y.length*x.length) (Zp2 y x q)
def ZuG(l:List Int)(r c i:Nat):Int:=l.getD (i%r*c+i/r) 0
def ZdZ(l:List Int)(r c:Nat):List Int:=ZcK (c*r) (ZuG l r c)
theorem ZlZ(r c C:Nat)(h:c<C):(r*C+c)/C=r:=by
 rw[Nat.mul_comm,Nat.mul_add_div (by omega),Nat.div_eq_of_lt h,Nat.add_zero]
theorem Zl0(r c C:Nat)(h:c<C):(r*C+c)%C=c:=by
 rw[Nat.mul_comm,Nat.mul_add_mod,Nat.mod_eq_of_lt h]
theorem Zp3(r c R C:Nat)(hr:r<R)(h:c<C):r*C+c<R*C:=by
 calc r*C+c<r*C+C:=by omega
  _=(r+1)*C:=by rw[Nat.add_mul,Nat.one_mul]
  _<=R*C:=YaW _ hr
end
section
open Go.RowKit Go.Shelf
attribute [local go_sem] Oper.semAt_some
theorem Zi6{R k:Nat}(h:k<R):(List.finRange R).take (k+1)=(List.finRange R).take k++[⟨k,h⟩]:=by
 rw[List.take_succ_eq_append_getElem (by rw[List.length_finRange];exact h),List.getElem_finRange];rfl
attribute [local go_sem] Oper.semAt_some
def Zif(g o C k:Nat):Array Value:=#[.int .i64 k,.slice (some ⟨g,o+k*C,none⟩) C C]
theorem ZuH(R:Nat)(F:Nat->Int):(List.finRange R).map (fun x=>F x.val)=ZcK R F:=by
 apply List.ext_getElem?
 intro i
 by_cases h:i<R
 ·rw[Zca _ _ _ h,YaR,YaA (by rw[List.length_finRange];exact h),List.getElem_finRange];rfl
 ·rw[YaN (by rw[List.length_map,List.length_finRange];omega),YaN (by rw[ZaD];omega)]
theorem ZsH(n ly Bm R C m cap g o:Nat)(hn:1<=n)(hR:R<=1048576)(hC:1<=C)(hm:R*C=m)(hcap:m<=cap)(hcm:cap<=9223372036854775807)(S:Nat->Prop)(hBm:¬S Bm)(t:TypeId)(W:World)(hblk:Blk W Bm t #[.int .i64 R,.int .i64 C,.slice (some ⟨g,o,none⟩) m cap])(J Jx:List (Fin R)->World->Prop)
  (hY:∀pre x W,J pre W->pre.length<R->YieldAt Fence.wide (n-1) prog ly (Zif g o C x.val) W fun e W'=>
   (e=.returned (.bool true)/\J (pre++[x]) W'/\But S W W')\/(e=.returned (.bool false)/\Jx (pre++[x]) W'))
  (hJ:AbidesFrom W.heap.size J) (h0:J [] W) :
  CallsIn Fence.wide n prog 255 #[.func (.yield ly) #[] #[],.pointer (some ⟨Bm,0,none⟩)] W fun e W'=>(∃v,e=.returned v) /\
   ((∃ys,ys=List.finRange R/\J ys W')\/(∃pre,pre <+:List.finRange R/\Jx pre W')):=by
 have HB:=hid hblk;have q0:W.cell? ⟨Bm,0,none⟩=some (.int .i64 R):=hblk.cell 0;have lt0:=hblk.lt;have HM:=hid hm;clear hblk hm;refine callsIn_of_wp func255 rfl trivial ?_ rfl;simp only[ntmps255,List.size_toArray,List.length_cons,List.length_nil,Nat.reduceAdd,Nat.reduceSub,Array.replicate_succ,Array.replicate_zero,List.push_toArray,List.append_toArray,List.nil_append,List.cons_append]
 gi_wp2_with fail
 gi_loopw [6] (fun i wr=>∃k:Nat,k<=R/\i=.int .i64 k/\J ((List.finRange R).take k) wr/\But S W wr)
  (fun i _=>R-(intOf i).toNat)
 case atStart=>exact⟨0,Nat.zero_le _,rfl,by simpa using h0,But.refl _ _⟩
 case round=>
  obtain⟨k,hk,rfl,hJs,hnx⟩:=hrel
  by_cases hlt:k<R
  ·have hb:=HB.out.but hnx hBm;have c0:wr.cell? ⟨Bm,0,none⟩=some (.int .i64 R):=hb.cell 0;have c1:wr.cell? ⟨Bm,1,none⟩=some (.int .i64 C):=hb.cell 1;have c2:wr.cell? ⟨Bm,2,none⟩=some (.slice (some ⟨g,o,none⟩) m cap):=hb.cell 2;have ltw:=hb.lt;have hws:W.heap.size<=wr.heap.size:=hnx.size;have HJS:=hid hJs;have HN:=hid hnx;have HS:=hid (ZuF R C k m cap g o wr hlt hC HM.out hcap hcm);clear hJs hnx hb q0
   gi_wp2_with fail
   refine⟨trivial,callsIn_wide.2 (HS.out.mono ?_)⟩;rintro e w1 ⟨rfl,hb1⟩;obtain⟨fn,tmps,assign,body,hy,hR'⟩:=hY _ ⟨k,hlt⟩ w1 (hJ _ _ _ none HJS.out (Zcj hb1 none) (fun r e=>by cases e)) (by rw[List.length_take,List.length_finRange];omega);have HR:=hid hR';have HN2:=hid (HN.out.call hb1);clear hb1 c0 c1 c2 HS hR' HJS HN;dsimp only[Zif] at hy
   gi_wp2_with fail
   refine HR.out.mono ?_;rintro e W3 (⟨rfl,hJ3,hk3⟩|⟨rfl,hJx3⟩)
   ·gi_wp2
    go_roundw
    case rel=>exact⟨k+1,by omega,by simp,by rw[Zi6 hlt];exact hJ3,HN2.out.trans hk3⟩
    case measure=>simp[intOf];omega
   ·gi_wp2
    refine bodyPost_ret (results_none rfl _ _ _) rfl ?_;exact⟨⟨_,rfl⟩,.inr ⟨_,by rw[<-Zi6 hlt];exact List.take_prefix _ _,hJx3⟩⟩
  ·obtain rfl:k=R:=by omega
   rw[YaX (by rw[List.length_finRange];omega)] at hJs
   gi_wp2
   go_end0
   exact⟨⟨_,rfl⟩,.inl ⟨_,rfl,hJs⟩⟩
theorem Zfq(n Bm R C m cap g o:Nat)(hn:1<=n)(hR:R<=1048576)(hC:1<=C)(hm:R*C=m)(hcap:m<=cap)(hcm:cap<=9223372036854775807)(S:Nat->Prop)(hBm:¬S Bm)(t:TypeId)(w:World)(hblk:Blk w Bm t #[.int .i64 R,.int .i64 C,.slice (some ⟨g,o,none⟩) m cap]) :
  SeqStopsK Fence.wide n prog 255 #[.pointer (some ⟨Bm,0,none⟩)] (fun x:Fin R=>Zif g o C x.val) (But S) (fun ys=>ys=List.finRange R) (fun pre=>pre <+:List.finRange R) R w:=fun l J Jx W hW hJ _ hY h0=>
 ZsH n l Bm R C m cap g o hn hR hC hm hcap hcm S hBm t W (hblk.kept hW) J Jx hY hJ h0
def ZuI(w:World)(cs:Array Value)(e:Ending)(w':World):Prop:=
 e=.returned (.func (.func 255) #[] #[.pointer (some ⟨w.heap.size,0,none⟩)])/\Blk w' w.heap.size 271 cs/\Below w.heap.size w w'
theorem Zi7(r q:Int)(A:Option Addr)(n c:Nat)(w:World) :
  Calls prog 219 #[.agg #[.int .i64 r,.int .i64 q,.slice A n c]] w (ZuI w #[.int .i64 r,.int .i64 q,.slice A n c]):=by
 go_enter func219,ntmps219
 go_wp2;go_ret;exact⟨rfl,Blk.new _ _ _,bA0 _⟩
end
section
open Go.RowKit
def Zl1(q:Int):List Int->List Int->Int->Int
 |x::a,y::b,s=>Zl1 q a b (wrap64 (s+Zd5 x y q))
 |_,_,s=>s
def Zl2(q:Int)(a b:List Int):Int:=Zl1 q a b 0
theorem Zt4{q:Int}{a b:List Int}{k:Nat}{x y s v:Int}(hv:Hid (v=Zl1 q (a.drop k) (b.drop k) s))(ha:Hid (a[k]?=some x))(hb:Hid (b[k]?=some y)):Hid (v=Zl1 q (a.drop (k+1)) (b.drop (k+1)) (wrap64 (s+Zd5 x y q))):=by
 obtain⟨h1,e1⟩:=YaG.1 ha.out;obtain⟨h2,e2⟩:=YaG.1 hb.out;refine hid ?_;rw[hv.out,List.drop_eq_getElem_cons h1,List.drop_eq_getElem_cons h2,e1,e2];rfl
theorem Zp4{q:Int}{a b:List Int}{k n:Nat}{s v:Int}(hv:Hid (v=Zl1 q (a.drop k) (b.drop k) s))(ha:Hid (a.length=n))(h1:n<=k):s=v:=by
 rw[hv.out,List.drop_eq_nil_of_le (by have:=ha.out;omega)];simp only[Zl1]
theorem ZuJ(A B:Option Addr)(n c d:Nat)(q:Int)(a b:List Int)(w:World)(hn:n<=10000000)(ha:a.length=n)(hb:b.length=n)(h:Rd w 1 A n (iv a))(h':Rd w 1 B n (iv b))(hx:∀x∈a,In1 x)(hx':∀x∈b,In1 x) :
  Calls prog 147 #[.slice A n c,.slice B n d,.int .i64 q] w fun e w'=>e=.returned (.tuple #[.int .i64 (Zl2 q a b),.bool true])/\Below w.heap.size w w':=by
 have HA:=hid ha;have HB:=hid hb;have HR:=hid h;have HR':=hid h';have HX:=hid (And.intro hx hx');clear ha hb h h' hx hx'
 go_enter func147,ntmps147
 go_wp2_with fail
 go_loopw [8,18] (fun v i wr=>∃(k:Nat) (s:Int),k<=n/\i=.int .i64 k/\v=.int .i64 s/\Below w.heap.size w wr/\Hid (Zl2 q a b=Zl1 q (a.drop k) (b.drop k) s)) (fun _ i _=>n-(intOf i).toNat)
 case atStart=>exact⟨0,0,by omega,rfl,rfl,bR0 _ _,hid rfl⟩
 case round=>
  obtain⟨k,s,hk,rfl,rfl,hb,he⟩:=hrel
  by_cases hlt:k<n
  ·obtain⟨g,o,x,rfl,hbl,hx,c1⟩:=Zb7 HA.out (HR.out.below hb) hlt;obtain⟨g',o',y,rfl,hbl',hy,c2⟩:=Zb7 HB.out (HR'.out.below hb) hlt;have HXk:=hid hx;have HYk:=hid hy;have bx:=hid (HX.out.1 x (YaL hx));have by_:=hid (HX.out.2 y (YaL hy));clear hx hy;go_wp2_with fail;((with_reducible refine(ZeM x y q _ bx.out by_.out).mono ?_);rintro e w2 ⟨rfl,hb2⟩);have hb2':=bT0 hb hb2;clear hb2;go_wp2
   go_roundw
   case rel=>exact⟨k+1,_,by omega,by go_num,rfl,hb2',Zt4 he HXk HYk⟩
   case measure=>simp[intOf];omega
  ·go_wp2
   go_ret2
   exact⟨ZeA (congrArg (Value.int .i64) (Zp4 he HA (by omega))),hb⟩
end
section
open Go.RowKit Go.Shelf
attribute [local go_sem] Oper.semAt_some
def Zd0(l:List Int)(C k:Nat):List Int:=(l.drop (k*C)).take C
def Zig(l x:List Int)(q:Int)(R:Nat):List Int:=ZcK R fun k=>Zl2 q (Zd0 l x.length k) x
theorem ZbQ{l:List Int}{R C k m:Nat}(hm:R*C=m)(hl:l.length=m)(hk:k<R):(Zd0 l C k).length=C:=by
 have h1:k*C+C<=m:=by
  rw[<-hm]
  calc k*C+C=(k+1)*C:=by rw[Nat.add_mul,Nat.one_mul]
   _<=R*C:=YaW _ hk
 unfold Zd0;rw[List.length_take,List.length_drop,hl];omega
theorem Zp5{l:List Int}{p:Int->Prop}(h:∀x∈l,p x)(C k:Nat):∀x∈Zd0 l C k,p x:=fun x hx=>h x (List.mem_of_mem_drop (List.mem_of_mem_take hx))
theorem Zi8{l:List Int}{C k j:Nat}(hj:j<C):(Zd0 l C k)[j]?=l[k*C+j]?:=by
 unfold Zd0;rw[List.getElem?_take_of_lt hj,List.getElem?_drop]
theorem Rd.row{w:World}{l:List Int}{R C k m g o:Nat}(hm:R*C=m)(hl:l.length=m)(hk:k<R)(hC:1<=C)(h:Rd w 1 (some ⟨g,o,none⟩) m (iv l)):Rd w 1 (some ⟨g,o+k*C,none⟩) C (iv (Zd0 l C k)):=by
 refine⟨by rw[Zay,ZbQ hm hl hk,Nat.mul_one],fun _=>?_⟩;have hm0:0<m:=by rw[<-hm];exact Nat.mul_pos (by omega) hC
 obtain⟨b,o',e,hb,hc⟩:=h.2 hm0
 cases e
 refine⟨_,_,rfl,hb,fun j u hu=>?_⟩;have hj:j<C:=by
  have:=(YaG.1 hu).1
  rwa [Zay,ZbQ hm hl hk] at this
 rw[Nat.add_assoc];refine hc _ _ ?_;rw[iv,YaR] at hu ⊢;rw[<-Zi8 hj];exact hu
theorem Boxed.appendedS{S:Nat->Prop}{W w1:World}{n₀ B:Nat}{t e:TypeId}{size:Nat}{v v':Value}{k m:Nat}{xs ys:List Value}{tmp:Obj}
  (hv:Boxed W B t v) (hte:t≠e) (hrow:W.ownsRow n₀ e size v k xs) (hSB:S B) (hSn:∀i,n₀<=i->S i)
  (hown':w1.ownsRow n₀ e size v' m ys) (hgrow:(W.alloc tmp).grownBy w1 v.ownBlock) :
  Boxed w1 B t v/\Boxed (w1.setCell ⟨B,0,none⟩ v') B t v'/\(w1.setCell ⟨B,0,none⟩ v').ownsRow n₀ e size v' m ys/\KeepsOthers W (w1.setCell ⟨B,0,none⟩ v')/\But S W (w1.setCell ⟨B,0,none⟩ v'):=by
 have hv1:Boxed w1 B t v:=(hv.alloc tmp).kept hgrow (hv.not_row hte hrow);refine⟨hv1,hv1.set v',hown'.kept (grownBy_setCell' w1 B v') (.inr (hv1.not_row hte hown').symm),?_,?_⟩
 ·refine((KeepsOthers.alloc W tmp).trans (KeepsOthers.of_grownBy hgrow fun j o ej hj=>?_)).trans (KeepsOthers.setCell _ _ _)
  rcases(hrow.alloc tmp).2 with⟨rfl,_⟩|⟨g,cap,cur,rfl,_,hgb,_⟩
  ·simp[Value.ownBlock] at ej
  ·obtain rfl:g=j:=by simpa [Value.ownBlock] using ej
   rw[hgb] at hj;cases hj;rfl
 ·refine((But.of_below S ((bR0 _ W).alloc (YaF _) tmp)).trans (But.of_own hgrow fun j ej=>?_)).trans (But.of_gr (grownBy_setCell' _ _ _) hSB)
  rcases hrow.2 with⟨rfl,_⟩|⟨g,cap,cur,rfl,hb,_,_⟩
  ·simp[Value.ownBlock] at ej
  ·obtain rfl:g=j:=by simpa [Value.ownBlock] using ej
   exact hSn _ hb
theorem Zp6(x:Int):∀u∈(#[Value.int .i64 x]:Array Value).toList,u.oneCell'=true:=by
 intro u hu;simp at hu;subst hu;rfl
theorem ZsI(l x:List Int)(q:Int)(R:Nat):(List.finRange R).map (fun k=>Zl2 q (Zd0 l x.length k.val) x)=Zig l x q R:=ZuH R fun k=>Zl2 q (Zd0 l x.length k) x
theorem ZsJ(R C m cap g o:Nat)(B:Option Addr)(d:Nat)(l x:List Int)(q:Int)(w:World)(hR:1<=R/\R<=1048576)(hC:1<=C/\C<=1048576)(hm:R*C=m)(hm':m<=1048576)(hcap:m<=cap)(hcm:cap<=9223372036854775807)(hl:l.length=m)(hxl:x.length=C)
  (h:Rd w 1 (some ⟨g,o,none⟩) m (iv l)) (hx:Rd w 1 B C (iv x)) (h1:∀v∈l,In1 v) (h2:∀v∈x,In1 v) :
  Calls prog 247 #[.agg #[.int .i64 R,.int .i64 C,.slice (some ⟨g,o,none⟩) m cap],.slice B C d,.int .i64 q] w fun e w'=>∃A c,e=.returned (.tuple #[.slice A R c,.bool true])/\w'.ownsRow w.heap.size 2 1 (.slice A R c) R (iv (Zig l x q R))/\Below w.heap.size w w':=by
 obtain⟨i0,hi,hz0,hz1,hz2⟩:=info_parts Zhy.info;obtain⟨W0,hW0⟩:∃W0,((w.alloc (.cells #[.int .i64 R,.int .i64 C,.slice (some ⟨g,o,none⟩) m cap] 271)).alloc (.cells #[.slice B C d] 74)).alloc (.cells #[.int .i64 q] 3)=W0:=⟨_,rfl⟩;have k0:Below w.heap.size w W0:=by rw[<-hW0];exact((bA0 _).alloc (by simp) _).alloc (by simp<;>omega) _
 have b0:Blk W0 w.heap.size 271 #[.int .i64 R,.int .i64 C,.slice (some ⟨g,o,none⟩) m cap]:=by rw[<-hW0];exact((Blk.new _ _ _).alloc _).alloc _
 have b1:Blk W0 (w.heap.size+1) 74 #[.slice B C d]:=by rw[<-hW0];exact(Blk.new' _ _ (by simp)).alloc _
 have b2:Blk W0 (w.heap.size+1+1) 3 #[.int .i64 q]:=by rw[<-hW0];exact Blk.new' _ _ (by simp)
 have hrt:decide (Zc9 R C m)=true:=YaJ ⟨⟨by omega,by omega,by omega,by omega⟩,by rw[<-hm];exact Int.natCast_mul R C⟩;have C1:=fun W=>ZeO R C (some ⟨g,o,none⟩) m cap W (by omega)
 rw[hrt] at C1;have HC1:=hid C1;have HR0:=hid (h.below k0);have HX0:=hid (hx.below k0);have HK0:=hid k0;have HB0:=hid b0;have HB1:=hid b1;have HB2:=hid b2;have HL:=hid (And.intro hl hxl);have HIN:=hid (And.intro h1 h2);have HM:=hid hm;have HR:=hid hR;have HC:=hid hC;have a0:W0.cell? ⟨w.heap.size,0,none⟩=some (.int .i64 R):=b0.cell 0;have a1:W0.cell? ⟨w.heap.size,1,none⟩=some (.int .i64 C):=b0.cell 1;have a2:W0.cell? ⟨w.heap.size,2,none⟩=some (.slice (some ⟨g,o,none⟩) m cap):=b0.cell 2;have lt0:=b0.lt;have HW0:=hid hW0;clear C1 k0 b0 b1 b2 hrt h hx hl hxl h1 h2 hm hW0 hR hC;refine(callsIn_wide (n:=9)).1 (callsIn_of_wp_marks func247 rfl trivial (wpIn_wide.2 ?_) rfl);simp only[ntmps247,List.size_toArray,List.length_cons,List.length_nil,Nat.reduceAdd,Nat.reduceSub,Array.replicate_succ,Array.replicate_zero,List.push_toArray,List.append_toArray,List.nil_append,List.cons_append];go_wp2_with fail;rw[HW0.out];clear HW0;go_wp2_with fail;((with_reducible refine(HC1.out _).mono ?_);rintro e w1 ⟨rfl,hb1⟩);have m0:Blk w1 w.heap.size 271 #[.int .i64 R,.int .i64 C,.slice (some ⟨g,o,none⟩) m cap]:=HB0.out.kept hb1;have m1:Blk w1 (w.heap.size+1) 74 #[.slice B C d]:=HB1.out.kept hb1;have m2:Blk w1 (w.heap.size+1+1) 3 #[.int .i64 q]:=HB2.out.kept hb1;have hr1:=HR0.out.below hb1;have hx1:=HX0.out.below hb1;have hk1:=((Zag.of HK0.out).call hb1).2.2;have d1:((C:Int) !=(C:Int))=false:=by simp
 have y1:w1.cell? ⟨w.heap.size,1,none⟩=some (.int .i64 C):=m0.cell 1;have y2:w1.cell? ⟨w.heap.size+1,0,none⟩=some (.slice B C d):=m1.cell 0;have y3:w1.cell? ⟨w.heap.size,0,none⟩=some (.int .i64 R):=m0.cell 0;have y4:w1.cell? ⟨w.heap.size,2,none⟩=some (.slice (some ⟨g,o,none⟩) m cap):=m0.cell 2;have ly1:=m0.lt;have ly2:=m1.lt;have HM0:=hid m0;have HM1:=hid m1;have HM2:=hid m2;have HR1:=hid hr1;have HX1:=hid hx1;have HK1:=hid hk1;clear m0 m1 m2 hr1 hx1 hk1 hb1 a0 a1 a2 lt0 HB0 HB1 HB2 HR0 HX0 HK0 HC1;go_wp2_with fail;obtain⟨W2,hW2⟩:∃W2,w1.alloc (.cells #[.slice none 0 0] 74)=W2:=⟨_,rfl⟩;rw[hW2];have k2:Below w1.heap.size w1 W2:=by rw[<-hW2];exact bA0 _
 have o2:Boxed W2 w1.heap.size 74 (.slice none 0 0):=by rw[<-hW2];exact Boxed.new _ _ _
 clear hW2;((with_reducible refine(Zi7 R C _ m cap _).mono ?_);rintro e w3 ⟨rfl,hbm,hb3⟩);clear y1 y2 y3 y4 d1;go_wp2_with fail;have z2:w1.heap.size<W2.heap.size:=o2.lt;have z3:W2.heap.size<w3.heap.size:=hbm.lt;have K13:Below w1.heap.size w1 w3:=bT0 k2 hb3;have o3:Boxed w3 w1.heap.size 74 (.slice none 0 0):=o2.kept (Zcj hb3 none) (by simp);have hseq:=Zfq (9-1) W2.heap.size R C m cap g o (by omega) HR.out.2 HC.out.1 HM.out hcap hcm (fun b=>b=w1.heap.size\/w3.heap.size<=b) (by omega) _ w3 hbm;clear hb3 k2 o2 hbm;refine wpIn_wide.1 (wpIn_rangeFunc_ownH (F:=Fence.wide) (n:=9) rfl (by omega) (gf:=255) (lb:=#[.pointer (some ⟨W2.heap.size,0,none⟩)]) rfl trivial (enters_of func255 (by kernel_rfl) rfl) hseq (fun h k=>h.trans k) (Znk (w:=w3) (fun i hi=>.inr hi)) (bR0 _ _) (fun _=>rfl)
  (fun pre W=>(∃v,Boxed W w1.heap.size 74 v/\W.ownsRow w3.heap.size 2 1 v pre.length (iv (pre.map fun k=>Zl2 q (Zd0 l C k.val) x))/\True)/\Below w1.heap.size w1 W)
  (fun _ _ _=>False)
  (OwnFrom.and (Own.from (holdsRow_own w3.heap.size w1.heap.size 74 2 1 (fun pre:List (Fin R)=>pre.length) (fun pre=>iv (pre.map fun k=>Zl2 q (Zd0 l C k.val) x)) (fun _ _=>True)) _) (ownFrom_below (YaF _) K13.size))
  (fun _ _ _ _ _ hs _ _=>hs)
  ⟨⟨_,o3,World.ownsRow_nil _ _ _ _,trivial⟩,K13⟩
  (fun k a' W=>a'={ tmps:=#[.agg #[.int .i64 R,.int .i64 C,.slice (some ⟨g,o,none⟩) m cap],.slice B C d,.int .i64 q,.pointer (some ⟨w.heap.size,0,none⟩),.pointer (some ⟨w.heap.size+1,0,none⟩),.pointer (some ⟨w.heap.size+1+1,0,none⟩),.slice none 0 0,.bool false,.pointer (some ⟨w1.heap.size,0,none⟩),undef,.slice (some ⟨g,o+k.val*C,none⟩) C C,undef,undef,.agg #[.int .i64 R,.int .i64 C,.slice (some ⟨g,o,none⟩) m cap],.bool true,.bool false,.bool false,.slice B C d,.int .i64 C,.pointer (some ⟨w.heap.size,1,none⟩),.int .i64 C,.bool false,.bool false,.agg #[.int .i64 R,.int .i64 C,.slice (some ⟨g,o,none⟩) m cap],.func (.func 255) #[] #[.pointer (some ⟨W2.heap.size,0,none⟩)],.int .i64 k.val,.slice (some ⟨g,o+k.val*C,none⟩) C C,undef,undef,undef,undef,undef,undef,undef,undef,undef,undef,undef,undef],defers:=[] })
  (fun x a' s X Y row hs hg hr=>hs) ?assign ?body ?done ?stop)
 case assign=>
  rintro l' pre k W K hI hK;simp only[Zif]
  gi_wp2_with fail
  exact hK _ _ ((KeepsOthers.refl _).from _) (But.refl _ _) hI rfl
 case body=>
  rintro l' pre k a' W hl3 ⟨r0,hr0⟩ ⟨⟨v,hv,hrow,_⟩,hB⟩ rfl hlt;have hW3:w3.heap.size<=W.heap.size:=YaH hl3 (Nat.le_of_lt (Array.getElem?_eq_some_iff.1 hr0).1);clear hl3 hr0;have hc:=hv.cell;have x1:W.cell? ⟨w.heap.size+1,0,none⟩=some (.slice B C d):=(HM1.out.kept hB).cell 0;have x2:W.cell? ⟨w.heap.size+1+1,0,none⟩=some (.int .i64 q):=(HM2.out.kept hB).cell 0;have HD:=hid (ZuJ (some ⟨g,o+k.val*C,none⟩) B C C d q (Zd0 l C k.val) x W (by have:=HC.out;omega) (ZbQ HM.out HL.out.1 k.isLt) HL.out.2 (Rd.row HM.out HL.out.1 k.isLt HC.out.1 (HR1.out.below hB)) (HX1.out.below hB) (Zp5 HIN.out.1 C k.val) HIN.out.2);have HV:=hid hv;have HRW:=hid hrow;have HBB:=hid hB;clear hv hrow hB
  gi_wp2_with fail
  refine⟨trivial,(callsIn_wide.2 (HD.out.mono ?_)).inRound _⟩;rintro e w4 ⟨rfl,hb4⟩;have hv4:Boxed w4 w1.heap.size 74 v:=HV.out.kept (Zcj hb4 none) (by simp);have hrow4:=Zac HRW.out hb4;have hB4:=bT0 HBB.out hb4;have hc4:=hv4.cell;have HK4:=hid hb4;have hRR:=HR.out.2;have HW34:=hid (YaH hW3 hb4.size);clear hc x1 x2 HD hb4 hW3
  gi_wp2_with (gi_at_builtin;go_must (refine wpListIn_append_own _ rfl _ _ 74 rfl w3.heap.size 2 i0 (.int .i64 0) 1 8 underlying74 hi hz0 hz1 hz2 rfl (by decide) _ _ _ rfl (hrow4.alloc _) ⟨w4.heap.size,0,none⟩ 1 1 [.int .i64 (Zl2 q (Zd0 l C k.val) x)] rfl rfl (Zdi w4 #[.int .i64 (Zl2 q (Zd0 l C k.val) x)] 2) (Zp6 _) (by unfold maxLen;omega) (by omega) (by have:=HW34.out;simp;omega) ?_);go_must (intro v' w5 hown' hgrow hxx);go_must (have hsu:=ownsRow_succ hown');go_must (obtain⟨g',cap',rfl⟩:=hsu);go_must (obtain⟨hv1,hv2,hr2,hk2,hb2⟩:=Boxed.appendedS (S:=fun b=>b=w1.heap.size\/w3.heap.size<=b) hv4 (by decide) hrow4 (.inl rfl) (fun i hi=>.inr hi) hown' hgrow);have hc1:=hv1.cell;have hf1:=hv1.frozen)
  exact⟨((KeepsOthers.of_grownBy (row:=none) (Zcj HK4.out none) (fun j o e=>by cases e)).trans hk2).from _,(But.of_below _ HK4.out).trans hb2,⟨_,hv2,by rw[YaS,List.map_append,Zbq];exact hr2,trivial⟩,hB4.trans (hb2.below hB4.size (fun i hi=>by have:=K13.size;omega))⟩
 case done=>
  rintro D ys W hD rfl ⟨⟨v,hv,hrow,_⟩,hB⟩ hK;have hc:=hv.cell;go_wp2_with fail;refine⟨by simp,.inl ⟨_,_,rfl,run_takeDeferred hK,?_⟩⟩;obtain⟨A,cap,rfl,_⟩:=ZaF hrow;have hrow':=hrow;rw[List.length_finRange,<-HL.out.2,ZsI] at hrow';rw[List.length_finRange];have hz:=HK1.out.size;exact⟨.tuple #[.slice A R cap,.bool true],by simp[results,results247,go_sem],A,cap,rfl,Zae (ownsRow_putObj hrow' _ hK rfl) (YaH hz K13.size),(HK1.out.trans (hB.mono hz)).trans (belowK_b (w:=w) (YaF _) W D _ _ (by have:=K13.size;omega) hK rfl rfl)⟩
 case stop=>
  rintro D c pre W _ _ h _;exact h.elim
end
section
open Go.RowKit
theorem ZuK(x y d:Nat)(w:World)(hy:y=x+d)(hx:x<=1000000)(hd:d<=1000000) :
  Calls prog 230 #[.agg #[.int .i64 x,.int .i64 y]] w fun e w'=>e=.returned (.int .i64 d)/\Below w.heap.size w w':=by
 have h1:=ZiW x y w (by omega) (by omega) (by omega) (by omega)
 rwa [show max ((y:Int)-(x:Int)) 0=(d:Int) by omega] at h1
end
section
open Go.RowKit Go.Shelf
attribute [local go_sem] Oper.semAt_some
def ZsK(l:List Int):Int:=l.foldl (fun s v=>wrap64 (s+v)) 0
theorem Zp7(pre:List Int)(x:Int):ZsK (pre++[x])=wrap64 (ZsK pre+x):=by simp[ZsK]
theorem Zoq(F:Fence)(n:Nat)(hf:F.fn 206)(hro:F.round=none)(hn:1<=n)(l Bs n₀ len cap:Nat)(A:Option Addr)(zs:List Int)(hreach:len<=10000000)(hzl:zs.length=len)(J Jx:List Int->World->Prop)
  (hY:∀pre x W,J pre W->pre.length<len->YieldAt F (n-1) prog l #[.int .i64 x] W fun e W'=>
   (e=.returned (.bool true)/\J (pre++[x]) W'/\Below n₀ W W')\/(e=.returned (.bool false)/\Jx (pre++[x]) W'))
  (W:World) (hBs:W.cell? ⟨Bs,0,none⟩=some (.slice A len cap)) (hc:0<len->∃b off,A=some ⟨b,off,none⟩/\b<n₀/\∀j u,(iv zs)[j]?=some u->W.cell? ⟨b,off+j,none⟩=some u) (h0:J [] W) :
  CallsIn F n prog 206 #[.func (.yield l) #[] #[],.pointer (some ⟨Bs,0,none⟩)] W fun e W'=>(∃v,e=.returned v) /\
   ((∃ys,ys=zs/\J ys W')\/(∃pre,pre <+:zs/\Jx pre W')):=by
 refine callsIn_of_wp func206 rfl hf ?_ hro;simp only[ntmps206,List.size_toArray,List.length_cons,List.length_nil,Nat.reduceAdd,Nat.reduceSub,Array.replicate_succ,Array.replicate_zero,List.push_toArray,List.append_toArray,List.nil_append,List.cons_append]
 gi_wp2
 gi_loopw [7] (fun i wr=>∃k:Nat,k<=len/\i=.int .i64 k/\J (zs.take k) wr/\Below n₀ W wr)
  (fun i _=>len-(intOf i).toNat)
 case atStart=>exact⟨0,Nat.zero_le _,rfl,by simpa using h0,bR0 _ _⟩
 case round=>
  obtain⟨k,hk,rfl,hJs,hnx⟩:=hrel
  by_cases hlt:k<len
  ·obtain⟨b,off,rfl,hb,hcc⟩:=hc (by omega);have hkl:k<zs.length:=by omega
   obtain⟨fn,tmps,assign,body,hy,hR⟩:=hY _ zs[k] wr hJs (by rw[List.length_take];omega);have hcx':wr.cell? ⟨b,off+k,none⟩=some (.int .i64 zs[k]):=(hnx.cell (p:=⟨b,off+k,none⟩) hb).trans (hcc k _ (Zkc zs k hkl));have hsn:=List.take_succ_eq_append_getElem hkl;generalize zs[k]=x at *
   gi_wp2
   refine hR.mono ?_;rintro e W3 (⟨rfl,hJ3,hk3⟩|⟨rfl,hJx3⟩)
   ·gi_wp2
    go_roundw
    case rel=>exact⟨k+1,by omega,by simp,by rw[hsn];exact hJ3,hnx.trans hk3⟩
    case measure=>simp[intOf];omega
   ·gi_wp2
    refine bodyPost_ret (results_none rfl _ _ _) rfl ?_;exact⟨⟨_,rfl⟩,.inr ⟨_,by rw[<-hsn];exact List.take_prefix _ _,hJx3⟩⟩
  ·obtain rfl:k=len:=by omega
   rw[YaX (by omega)] at hJs
   gi_wp2
   go_end0
   exact⟨⟨_,rfl⟩,.inl ⟨_,rfl,hJs⟩⟩
theorem Zp8(F:Fence)(n:Nat)(hf:F.fn 149)(hro:F.round=none)(a:Option Addr)(len cap:Nat)(w:World) :
  CallsIn F n prog 149 #[.slice a len cap] w fun e w'=>e=.returned (.func (.func 206) #[] #[.pointer (some ⟨w.heap.size,0,none⟩)])/\w'=w.alloc (.cells #[.slice a len cap] 26):=by
 refine callsIn_of_wp func149 rfl hf ?_ hro;simp only[ntmps149,List.size_toArray,List.length_cons,List.length_nil,Nat.reduceAdd,Nat.reduceSub,Array.replicate_succ,Array.replicate_zero,List.push_toArray,List.append_toArray,List.nil_append,List.cons_append]
 gi_wp2
 go_ret;exact⟨rfl,rfl⟩
theorem Zkm(F:Fence)(n:Nat)(hf:F.fn 206)(hro:F.round=none)(hn:1<=n)(Bs n₀ len cap:Nat)(A:Option Addr)(zs:List Int)(hreach:len<=10000000)(hzl:zs.length=len)(w:World)(hBs:Bs<w.heap.size)(hn₀:n₀<=w.heap.size)
  (hcell:w.cell? ⟨Bs,0,none⟩=some (.slice A len cap)) (hc:0<len->∃b off,A=some ⟨b,off,none⟩/\b<n₀/\∀j u,(iv zs)[j]?=some u->w.cell? ⟨b,off+j,none⟩=some u) :
  SeqStopsK F n prog 206 #[.pointer (some ⟨Bs,0,none⟩)] (fun x:Int=>#[Value.int .i64 x]) (Below n₀) (fun ys=>ys=zs) (fun pre=>pre <+:zs) len w:=fun l J Jx W hW _ _ hY h0=>
 Zoq F n hf hro hn l Bs n₀ len cap A zs hreach hzl J Jx hY W ((hW.cell (p:=⟨Bs,0,none⟩) hBs).trans hcell)
  (fun h=>by
   obtain⟨b,off,e,hb,hcc⟩:=hc h;exact⟨b,off,e,hb,fun j u hu=>(hW.cell (p:=⟨b,off+j,none⟩) (show b<_ by omega)).trans (hcc j u hu)⟩) h0
theorem ZsL(F:Fence)(n:Nat)(hf:F.fn 148)(hf1:F.fn 206)(hro:F.round=none)(hn:3<=n)(Bs n₀ len cap:Nat)(A:Option Addr)(zs:List Int)(hreach:len<=10000000)(hzl:zs.length=len)(w:World)(hBs:Bs<w.heap.size)(hn₀:n₀<=w.heap.size)
  (hcell:w.cell? ⟨Bs,0,none⟩=some (.slice A len cap)) (hc:0<len->∃b off,A=some ⟨b,off,none⟩/\b<n₀/\∀j u,(iv zs)[j]?=some u->w.cell? ⟨b,off+j,none⟩=some u) :
  CallsIn F n prog 148 #[.func (.func 206) #[] #[.pointer (some ⟨Bs,0,none⟩)]] w fun e W'=>e=.returned (.int .i64 (ZsK zs))/\Below w.heap.size w W':=by
 have h1:1<=n:=by omega
 refine callsIn_of_wp_marks func148 rfl hf ?_ hro;simp only[ntmps148,List.size_toArray,List.length_cons,List.length_nil,Nat.reduceAdd,Nat.reduceSub,Array.replicate_succ,Array.replicate_zero,List.push_toArray,List.append_toArray,List.nil_append,List.cons_append]
 gi_wp2
 have bS:=Boxed.new w 2 (.int .i64 0);have hB0:Below w.heap.size w (w.alloc (.cells #[.int .i64 0] 2)):=(bR0 _ w).alloc (YaF _) _;refine wpIn_rangeFunc_ownG hro h1 (gf:=206) (lb:=#[.pointer (some ⟨Bs,0,none⟩)]) rfl hf1 (enters_of func206 (by kernel_rfl) rfl)
  (Zkm F (n-1) hf1 hro (by omega) Bs w.heap.size len cap A zs hreach hzl _ (by simp;omega) (by simp) ((hB0.cell (p:=⟨Bs,0,none⟩) hBs).trans hcell) (fun h=>by
   obtain⟨b,off,e,hb,hcc⟩:=hc h;exact⟨b,off,e,by omega,fun j u hu=>(hB0.cell (p:=⟨b,off+j,none⟩) (show b<_ by omega)).trans (hcc j u hu)⟩)) belowK_t (belowK_b (by simp)) (bR0 _ _) (fun _=>rfl)
  (fun pre W=>(W.cell? ⟨w.heap.size,0,none⟩=some (.int .i64 (ZsK pre))/\W.frozen? ⟨w.heap.size,0,none⟩=false)/\Below w.heap.size w W)
  (fun _ _ _=>False)
  (OwnFrom.and (Own.from (fun s A B row hs hg hr=>⟨cell_kept hs.1 hg hr,(frozen_kept hs.1 hg hr).trans hs.2⟩) _) (ownFrom_below (YaF _) (by simp)))
  (fun _ _ _ _ _ hs _ _=>hs)
  ⟨⟨bS.cell,bS.frozen⟩,hB0⟩
  (fun x=>{ tmps:=#[.func (.func 206) #[] #[.pointer (some ⟨Bs,0,none⟩)],undef,.int .i64 0,.pointer (some ⟨w.heap.size,0,none⟩),.int .i64 x,.func (.func 206) #[] #[.pointer (some ⟨Bs,0,none⟩)],.int .i64 x,undef,undef,undef,undef],defers:=[] }) ?assign ?body ?done ?stop
 case assign=>
  intro l x W K hK
  gi_wp2
  exact hK
 case body=>
  rintro l pre x W ⟨⟨hc,hf⟩,hB⟩ _
  gi_wp2
  exact⟨(KeepsOthers.setCell _ _ _).from _,(bR0 w.heap.size W).setCell (p:=⟨w.heap.size,0,none⟩) (YaF _) _,⟨by rw[Zp7];exact World.cell?_setCell_same' _ _ _ (by rw[hc];rfl),by rw[World.frozen?_setCell];exact hf⟩,hB.setCell (p:=⟨w.heap.size,0,none⟩) (YaF _) _⟩
 case done=>
  rintro D ys W hD rfl ⟨⟨hc,_⟩,hB⟩ hK
  gi_wp2
  refine⟨by simp,.inl ⟨_,_,rfl,run_takeDeferred hK,?_⟩⟩;exact⟨_,results_tmp rfl _ _ _,rfl,hB.trans (belowK_b (w:=w) (YaF _) W D _ _ (by simp at hD;omega) hK rfl rfl)⟩
 case stop=>
  rintro D c pre W _ _ h _;exact h.elim
theorem Zl3(A:Option Addr)(n cap:Nat)(l:List Int)(w:World)(hl:l.length=n)(h:Rd w 1 A n (iv l))(hn:n<=10000000) :
  Calls prog 63 #[.slice A n cap] w fun e w'=>e=.returned (.int .i64 (ZsK l))/\Below w.heap.size w w':=by
 have HL:=hid hl;have HR:=hid h;clear hl h;have HV:=hid ((callsIn_wide (n:=3)).1 (Zp8 Fence.wide 3 trivial rfl A n cap w))
 go_enter func63,ntmps63
 go_wp2_with fail;((with_reducible refine HV.out.mono ?_);rintro e w1 ⟨rfl,rfl⟩);have bN:=Boxed.new w 26 (.slice A n cap);have hb0:Below w.heap.size w (w.alloc (.cells #[.slice A n cap] 26)):=bA0 _;have hT:=(callsIn_wide (n:=3)).1 (ZsL Fence.wide 3 trivial trivial rfl (by omega) w.heap.size w.heap.size n cap A l hn HL.out (w.alloc (.cells #[.slice A n cap] 26)) (by simp) (by simp) bN.cell (fun h=>by
  obtain⟨b,o,e,hlt,hcc⟩:=HR.out.2 h;exact⟨b,o,e,hlt,fun j u hu=>(hb0.cell (p:=⟨b,o+j,none⟩) hlt).trans (hcc j u hu)⟩))
 have HT:=hid hT;clear hT bN;go_wp2_with fail;((with_reducible refine HT.out.mono ?_);rintro e w2 ⟨rfl,hb2⟩);go_wp2;go_ret;exact⟨rfl,hb0.trans (hb2.mono (by simp))⟩
end
section
open Go.RowKit
theorem Zl4(a b:Int)(w:World):Calls prog 204 #[.int .i64 a,.int .i64 b] w fun e w'=>e=.returned (.int .i64 (wrap64 (a-b)))/\w=w':=by
 go_enter func204,ntmps204
 go_wp2;go_ret;exact⟨rfl,rfl⟩
theorem ZvW(w:World)(x y:Int):Rd (w.alloc (.cells #[.int .i64 x,.int .i64 y] 2)) 1 (some ⟨w.heap.size,0,none⟩) 2 (iv [x,y]):=by
 refine⟨rfl,fun h=>⟨w.heap.size,0,rfl,by simp,fun j u hu=>?_⟩⟩;have:=(Blk.new w 2 #[.int .i64 x,.int .i64 y]).cell (0+j);rw[this,Nat.zero_add,<-hu];simp[iv]
def Zf2(mo sh m g:Int):Int:=wrap64 (Zd5 mo m sh+g)
def Zl5(ra sh p m':Int):Int:=wrap64 (p-Zd5 ra m' sh)
theorem ZaZ(x:Int):In1 (wrap64 x):=by unfold wrap64;constructor<;>omega
theorem Zl6(mo sh m g:Int):In1 (Zf2 mo sh m g):=ZaZ _
theorem Zp9(ra sh p m':Int):In1 (Zl5 ra sh p m'):=ZaZ _
theorem ZsM(x y:Int)(hx:In1 x):ZsK [x,y]=wrap64 (x+y):=by
 simp only[ZsK,List.foldl_cons,List.foldl_nil,Int.zero_add]
 congr 2
 unfold wrap64;omega
theorem Zge{w:World}{base:Nat}{g N c i:Nat}{l:List Int}{x:Int}{e:TypeId}(h:w.ownsRow base e 1 (.slice (some ⟨g,0,none⟩) N c) N (iv l))(hx:l[i]?=some x):w.cell? ⟨g,i,none⟩=some (.int .i64 x):=by
 have hl:l.length=N:=by have:=h.1;rw[Zay] at this;omega
 obtain⟨hi,hx'⟩:=YaG.1 hx;rw[h.cellAt i (by omega),Zkc l i hi,hx']
theorem Zor(ra mo sh p m g:Int)(bp bm i N M cP cM base:Nat)(Ps Ms:List Int)(w:World)(hP:w.ownsRow base 2 1 (.slice (some ⟨bp,0,none⟩) N cP) N (iv Ps))(hM:w.ownsRow base 2 1 (.slice (some ⟨bm,0,none⟩) M cM) M (iv Ms))
  (hp:Ps[i]?=some p) (hm:Ms[i]?=some m) (hne:bp≠bm) (hra:In1 ra) (hmo:In1 mo) (hpi:In1 p) (hmi:In1 m) :
  Calls prog 280 #[.agg #[.int .i64 ra,.int .i64 mo,.int .i64 sh],.pointer (some ⟨bp,i,none⟩),.pointer (some ⟨bm,i,none⟩),.int .i64 g] w fun e w'=>e=.returned (.tuple #[]) /\
   w'.ownsRow base 2 1 (.slice (some ⟨bp,0,none⟩) N cP) N (iv (Ps.set i (Zl5 ra sh p (Zf2 mo sh m g))))/\w'.ownsRow base 2 1 (.slice (some ⟨bm,0,none⟩) M cM) M (iv (Ms.set i (Zf2 mo sh m g)))/\But (fun b=>b=bp\/b=bm) w w':=by
 have hbp:=(hP.lt bp rfl).2;have hbm:=(hM.lt bm rfl).2;have cp:w.cell? ⟨bp,i,none⟩=some (.int .i64 p):=Zge hP hp;have cm:w.cell? ⟨bm,i,none⟩=some (.int .i64 m):=Zge hM hm;obtain⟨x,hx⟩:∃x,Zd5 mo m sh=x:=⟨_,rfl⟩;obtain⟨m',hm'⟩:∃m',Zf2 mo sh m g=m':=⟨_,rfl⟩;obtain⟨y,hy⟩:∃y,Zd5 ra m' sh=y:=⟨_,rfl⟩;have C1:=(fun W=>ZeM mo m sh W hmo hmi);have C3:=(fun W=>ZeM ra m' sh W hra (by rw[<-hm'];exact Zl6 _ _ _ _));simp only[hx] at C1;simp only[hy] at C3;have C2:∀W:World,Calls prog 63 #[.slice (some ⟨W.heap.size,0,none⟩) 2 2] (W.alloc (.cells #[.int .i64 x,.int .i64 g] 2)) fun e w'=>e=.returned (.int .i64 m')/\Below (W.heap.size+1) (W.alloc (.cells #[.int .i64 x,.int .i64 g] 2)) w':=fun W=>by
  have:=Zl3 (some ⟨W.heap.size,0,none⟩) 2 2 [x,g] _ rfl (ZvW W x g) (by omega);have e:ZsK [x,g]=m':=by rw[ZsM x g (by rw[<-hx];exact ZpV _ _ _),<-hm',Zf2,hx]
  rw[e] at this
  simpa using this
 have HC1:=hid C1;have HC2:=hid C2;have HC3:=hid C3;have HX:=hid hx;have HM':=hid hm';have HY:=hid hy;have HP:=hid hP;have HM:=hid hM;have HPi:=hid hp;have HMi:=hid hm;clear hx hm' hy C1 C2 C3 hP hM hp hm
 go_enter func280,ntmps280
 go_wp2_with fail;obtain⟨w0,hw0⟩:∃w0,w.alloc (.cells #[.int .i64 ra,.int .i64 mo,.int .i64 sh] 102)=w0:=⟨_,rfl⟩;have k0:Below w.heap.size w w0:=by rw[<-hw0];exact bA0 _
 have hR0:Blk w0 w.heap.size 102 #[.int .i64 ra,.int .i64 mo,.int .i64 sh]:=by rw[<-hw0];exact Blk.new _ _ _
 have r0:w0.cell? ⟨w.heap.size,0,none⟩=some (.int .i64 ra):=hR0.cell 0;have r1:w0.cell? ⟨w.heap.size,1,none⟩=some (.int .i64 mo):=hR0.cell 1;have r2:w0.cell? ⟨w.heap.size,2,none⟩=some (.int .i64 sh):=hR0.cell 2;have rlt:=hR0.lt;have cm0:w0.cell? ⟨bm,i,none⟩=some (.int .i64 m):=(k0.cell (p:=⟨bm,i,none⟩) hbm).trans cm;have hlt0:bm<w0.heap.size:=by have:=k0.size;omega
 rw[hw0];clear hw0;refine ZaW w0 [0] [1,2,3,4,5,6,7,8,9] 10 [11,12,13] (by kernel_rfl) (by kernel_rfl) (by kernel_rfl) (Zag.of (bR0 _ _)) ?_;refine⟨_,_,rfl,.inl ⟨rfl,fun w=>rfl⟩,?_⟩;simp only[Zdj,YaO,YaP,YaB,YaC];go_simp;change wpQuiet _ _ _ _ (_::_::_::_::_::_::_::_::_::[]) _;have KC:=fun(u:KW w0) b o h=>KW.cells u b o h
 iterate 9 (go_big_quiet_step ((go_at_call 205;(with_reducible exact ZbC (HC1.out _)))))
 refine wpQuiet_nil ?_;rintro⟨w1,k1⟩;change wpList _ _ _ (_::_::_::_::[]) _ _;dsimp only;clear KC;go_wp2_with fail;((with_reducible refine(HC2.out _).mono ?_);rintro e w2 ⟨rfl,hb2⟩);have k2:=k1.call_alloc hb2;have hO2:w2.ownsRow base 2 1 (.slice (some ⟨bm,0,none⟩) M cM) M (iv Ms):=Zac HM.out ((Zag.of k0).call k2.2.2).2.2;have hO2p:w2.ownsRow base 2 1 (.slice (some ⟨bp,0,none⟩) N cP) N (iv Ps):=Zac HP.out ((Zag.of k0).call k2.2.2).2.2;have cm2:w2.cell? ⟨bm,i,none⟩=some (.int .i64 m):=(k2.1 bm i hlt0).trans cm0;have fm2:w2.frozen? ⟨bm,i,none⟩=false:=hO2.frozenAt i;have HK2:=hid (((Zag.of k0).call k2.2.2).2.2);have HR2:=hid (hR0.kept k2.2.2);have HO2:=hid hO2;have HO2p:=hid hO2p;clear k1 hb2 k2 hO2 hO2p r0 r1 r2 cm0 k0 hR0;go_wp2_with fail;refine NoPanic.normal ?_;go_wp2_with fail;obtain⟨w3,hw3⟩:∃w3,w2.setCell ⟨bm,i,none⟩ (.int .i64 m')=w3:=⟨_,rfl⟩;have hst:=HO2.out.stored i (.int .i64 m');rw[hw3] at hst ⊢;have HO3:=hid hst.1;have hR3:=HR2.out.grown hst.2 (by simp;omega);have HO3p:=hid (HO2p.out.kept hst.2 (.inr (by simp[Value.ownBlock];omega)));have HB3:=hid ((But.of_below (fun b=>b=bp\/b=bm) HK2.out).trans (But.of_gr hst.2 (.inr rfl)));have r0:w3.cell? ⟨w.heap.size,0,none⟩=some (.int .i64 ra):=hR3.cell 0;have r2:w3.cell? ⟨w.heap.size,2,none⟩=some (.int .i64 sh):=hR3.cell 2;have rlt3:=hR3.lt;have cp3:w3.cell? ⟨bp,i,none⟩=some (.int .i64 p):=Zge HO3p.out HPi.out;have cm3:w3.cell? ⟨bm,i,none⟩=some (.int .i64 m'):=Zge (by have:=HO3.out;rwa [Zcs] at this) (by rw[List.getElem?_set_self (YaG.1 HMi.out).1]);have hltp:bp<w3.heap.size:=(HO3p.out.lt bp rfl).2;have hltm:bm<w3.heap.size:=(HO3.out.lt bm rfl).2;clear hst hw3 cm2 fm2 hR3 HO2 HO2p HK2 HR2;refine ZaW w3 [0] [1,2,3,4,5,6,7,8,9,10,11,12] 13 [14] (by kernel_rfl) (by kernel_rfl) (by kernel_rfl) (Zag.of (bR0 _ _)) ?_;refine⟨_,_,rfl,.inl ⟨rfl,fun w=>rfl⟩,?_⟩;simp only[Zdj,YaO,YaP,YaB,YaC];go_simp;change wpQuiet _ _ _ _ (_::_::_::_::_::_::_::_::_::_::_::_::[]) _;have KC:=fun(u:KW w3) b o h=>KW.cells u b o h
 iterate 12 (go_big_quiet_step (first|(go_at_call 205;(with_reducible exact ZbC (HC3.out _)))|(go_at_call 204;(with_reducible exact ZeB (Zl4 _ _ _)))))
 refine wpQuiet_nil ?_;rintro⟨w4,k4⟩;change wpList _ _ _ (_::_::[]) _ _;dsimp only;clear KC;have hO4:=Zac HO3.out k4.2.2;have hO4p:=Zac HO3p.out k4.2.2;have cp4:w4.cell? ⟨bp,i,none⟩=some (.int .i64 p):=(k4.1 bp i hltp).trans cp3;have fp4:w4.frozen? ⟨bp,i,none⟩=false:=hO4p.frozenAt i;have HB4:=hid (HB3.out.call k4.2.2);have HO4:=hid hO4;have HO4p:=hid hO4p;clear k4 hO4 hO4p cp3 cm3 r0 r2;go_wp2_with fail;refine NoPanic.normal ?_;go_wp2_with fail
 go_end0
 have hst:=HO4p.out.stored i (.int .i64 (wrap64 (p-y)));have e1:Zl5 ra sh p (Zf2 mo sh m g)=wrap64 (p-y):=by rw[HM'.out,Zl5,HY.out]
 rw[e1,HM'.out];refine⟨rfl,?_,?_,HB4.out.trans (But.of_gr hst.2 (.inl rfl))⟩
 ·rw[<-Zcs];exact hst.1
 ·rw[<-Zcs];exact HO4.out.kept hst.2 (.inr (by simp[Value.ownBlock];omega))
def Zbm(mo sh:Int)(Ms gs:List Int)(lo k:Nat):List Int:=Ms.mapIdx fun j m=>if lo<=j/\j<lo+k then Zf2 mo sh m (gs.getD (j-lo) 0) else m
def Zbn(ra mo sh:Int)(Ps Ms gs:List Int)(lo k:Nat):List Int:=Ps.mapIdx fun j p=>if lo<=j/\j<lo+k then Zl5 ra sh p (Zf2 mo sh (Ms.getD j 0) (gs.getD (j-lo) 0)) else p
theorem Zcb(mo sh:Int)(Ms gs:List Int)(lo k:Nat):(Zbm mo sh Ms gs lo k).length=Ms.length:=by simp[Zbm]
theorem Zcc(ra mo sh:Int)(Ps Ms gs:List Int)(lo k:Nat):(Zbn ra mo sh Ps Ms gs lo k).length=Ps.length:=by simp[Zbn]
theorem ZbR(mo sh:Int)(Ms gs:List Int)(lo k i:Nat):(Zbm mo sh Ms gs lo k)[i]?=Ms[i]?.map fun m=>if lo<=i/\i<lo+k then Zf2 mo sh m (gs.getD (i-lo) 0) else m:=by simp[Zbm]
theorem ZbS(ra mo sh:Int)(Ps Ms gs:List Int)(lo k i:Nat):(Zbn ra mo sh Ps Ms gs lo k)[i]?=Ps[i]?.map fun p=>if lo<=i/\i<lo+k then Zl5 ra sh p (Zf2 mo sh (Ms.getD i 0) (gs.getD (i-lo) 0)) else p:=by simp[Zbn]
theorem Zl7(mo sh:Int)(Ms gs:List Int)(lo:Nat):Zbm mo sh Ms gs lo 0=Ms:=by
 apply List.ext_getElem?
 intro i;rw[ZbR]
 cases Ms[i]? with
 |none=>rfl
 |some x=>simp;omega
theorem Zl8(ra mo sh:Int)(Ps Ms gs:List Int)(lo:Nat):Zbn ra mo sh Ps Ms gs lo 0=Ps:=by
 apply List.ext_getElem?
 intro i;rw[ZbS]
 cases Ps[i]? with
 |none=>rfl
 |some x=>simp;omega
theorem Zl9(mo sh:Int)(Ms gs:List Int)(lo k:Nat)(m g:Int)(hm:Ms[lo+k]?=some m)(hg:gs[k]?=some g):(Zbm mo sh Ms gs lo k).set (lo+k) (Zf2 mo sh m g)=Zbm mo sh Ms gs lo (k+1):=by
 apply List.ext_getElem?
 intro i;rw[List.getElem?_set,ZbR,ZbR]
 by_cases e:lo+k=i
 ·subst e;have hlt:lo+k<Ms.length:=(YaG.1 hm).1;rw[if_pos rfl,if_pos (by rw[Zcb];exact hlt),hm];simp[hg]
 ·rw[if_neg e]
  cases Ms[i]? with
  |none=>rfl
  |some x=>
   simp only[Option.map_some]
   congr 1
   by_cases h1:lo<=i/\i<lo+k
   ·rw[if_pos h1,if_pos (by omega)]
   ·rw[if_neg h1,if_neg (by omega)]
theorem Zma(ra mo sh:Int)(Ps Ms gs:List Int)(lo k:Nat)(p m g:Int)(hp:Ps[lo+k]?=some p)(hm:Ms[lo+k]?=some m)(hg:gs[k]?=some g):(Zbn ra mo sh Ps Ms gs lo k).set (lo+k) (Zl5 ra sh p (Zf2 mo sh m g))=Zbn ra mo sh Ps Ms gs lo (k+1):=by
 apply List.ext_getElem?
 intro i;rw[List.getElem?_set,ZbS,ZbS]
 by_cases e:lo+k=i
 ·subst e;have hlt:lo+k<Ps.length:=(YaG.1 hp).1;rw[if_pos rfl,if_pos (by rw[Zcc];exact hlt),hp];simp[hg,hm]
 ·rw[if_neg e]
  cases Ps[i]? with
  |none=>rfl
  |some x=>
   simp only[Option.map_some]
   congr 1
   by_cases h1:lo<=i/\i<lo+k
   ·rw[if_pos h1,if_pos (by omega)]
   ·rw[if_neg h1,if_neg (by omega)]
theorem Zqa(mo sh:Int)(Ms gs:List Int)(lo k:Nat)(m:Int)(hm:Ms[lo+k]?=some m):(Zbm mo sh Ms gs lo k)[lo+k]?=some m:=by rw[ZbR,hm];simp
theorem Zqb(ra mo sh:Int)(Ps Ms gs:List Int)(lo k:Nat)(p:Int)(hp:Ps[lo+k]?=some p):(Zbn ra mo sh Ps Ms gs lo k)[lo+k]?=some p:=by rw[ZbS,hp];simp
def Zaw(l:List Int):Prop:=∀x∈l,In1 x
theorem Zqc(ra mo sh:Int)(AP AM AG:Option Addr)(N cP cM n cG lo hi bp bm base:Nat)(Ps Ms gs:List Int)(w:World)(hP:w.ownsRow base 2 1 (.slice AP N cP) N (iv Ps))(hM:w.ownsRow base 2 1 (.slice AM N cM) N (iv Ms))
  (hap:0<N->AP=some ⟨bp,0,none⟩/\AM=some ⟨bm,0,none⟩/\bp≠bm) (hG:Rd w 1 AG n (iv gs)) (hgl:gs.length=n) (hGb:∀b o,AG=some ⟨b,o,none⟩->0<n->b≠bp/\b≠bm) (hhi:hi=lo+n) (hfit:hi<=N) (hN:N<=1000000)
  (hra:In1 ra) (hmo:In1 mo) (hPi:Zaw Ps) (hMi:Zaw Ms) :
  Calls prog 266 #[.agg #[.int .i64 ra,.int .i64 mo,.int .i64 sh],.agg #[.slice AP N cP,.slice AM N cM],.agg #[.int .i64 lo,.int .i64 hi],.slice AG n cG] w fun e w'=>e=.returned (.bool true) /\
   w'.ownsRow base 2 1 (.slice AP N cP) N (iv (Zbn ra mo sh Ps Ms gs lo n))/\w'.ownsRow base 2 1 (.slice AM N cM) N (iv (Zbm mo sh Ms gs lo n))/\But (fun b=>0<N/\(b=bp\/b=bm)) w w':=by
 have hPl:Ps.length=N:=by have:=hP.1;rw[Zay] at this;omega
 have hMl:Ms.length=N:=by have:=hM.1;rw[Zay] at this;omega
 have HP:=hid hP;have HM:=hid hM;have HAP:=hid hap;have HG:=hid hG;have HGL:=hid hgl;have HGB:=hid hGb;have HHI:=hid hhi;have HPL:=hid hPl;have HML:=hid hMl;have HPI:=hid hPi;have HMI:=hid hMi;have h1:lo<=hi:=by omega
 have h2:lo+n<=N:=by omega
 have HSz:=hid (fun W=>ZuK lo hi n W hhi (by omega) (by omega));clear hP hM hap hG hgl hGb hhi hPl hMl hPi hMi
 go_enter func266,ntmps266
 go_wp2_with fail;obtain⟨w0,hw0⟩:∃w0,((w.alloc (.cells #[.int .i64 ra,.int .i64 mo,.int .i64 sh] 102)).alloc (.cells #[.slice AP N cP,.slice AM N cM] 92)).alloc (.cells #[.int .i64 lo,.int .i64 hi] 218)=w0:=⟨_,rfl⟩;have k0:Below w.heap.size w w0:=by rw[<-hw0];exact((bA0 _).alloc (by simp) _).alloc (by simp<;>omega) _
 have hR0:Blk w0 w.heap.size 102 #[.int .i64 ra,.int .i64 mo,.int .i64 sh]:=by rw[<-hw0];exact((Blk.new w _ _).alloc _).alloc _
 have hS0:Blk w0 (w.heap.size+1) 92 #[.slice AP N cP,.slice AM N cM]:=by rw[<-hw0];exact(Blk.new' _ _ (by simp)).alloc _
 have hA0:Blk w0 (w.heap.size+1+1) 218 #[.int .i64 lo,.int .i64 hi]:=by rw[<-hw0];exact Blk.new' _ _ (by simp)
 rw[hw0];clear hw0;((with_reducible refine(HSz.out _).mono ?_);rintro e w1 ⟨rfl,hb1⟩);have hA1:=hA0.kept hb1;have q0:w1.cell? ⟨w.heap.size+1+1,0,none⟩=some (.int .i64 lo):=hA1.cell 0;have q1:w1.cell? ⟨w.heap.size+1+1,1,none⟩=some (.int .i64 hi):=hA1.cell 1;have hn1:((n:Int) !=(n:Int))=false:=by simp
 go_wp2_with fail;((with_reducible refine(HSz.out _).mono ?_);rintro e w2 ⟨rfl,hb2⟩);have HK2:=hid (((Zag.of k0).call hb1).call hb2).2.2;have HR2:=hid ((hR0.kept hb1).kept hb2);have HS2:=hid ((hS0.kept hb1).kept hb2);have HA2:=hid (hA1.kept hb2);clear hA1 q0 q1 hn1 hb1 hb2 k0 hR0 hS0 hA0;go_wp2_with fail
 go_loopw [46] (fun c wr=>∃k:Nat,k<=n/\c=.int .i64 k/\wr.ownsRow base 2 1 (.slice AP N cP) N (iv (Zbn ra mo sh Ps Ms gs lo k))/\wr.ownsRow base 2 1 (.slice AM N cM) N (iv (Zbm mo sh Ms gs lo k))/\But (fun b=>0<N/\(b=bp\/b=bm)) w wr /\
   Blk wr w.heap.size 102 #[.int .i64 ra,.int .i64 mo,.int .i64 sh]/\Blk wr (w.heap.size+1) 92 #[.slice AP N cP,.slice AM N cM]/\Blk wr (w.heap.size+1+1) 218 #[.int .i64 lo,.int .i64 hi]) (fun c _=>n-(intOf c).toNat)
 case atStart=>exact⟨0,by omega,rfl,by rw[Zl8];exact Zac HP.out HK2.out,by rw[Zl7];exact Zac HM.out HK2.out,But.of_below _ HK2.out,HR2.out,HS2.out,HA2.out⟩
 case round=>
  obtain⟨k,hk,rfl,hP,hM,hB,hR,hS,hA⟩:=hrel
  by_cases hlt:k<n
  ·obtain⟨e1,e2,hne⟩:=HAP.out (by omega);subst e1 e2;have hbp:=(HP.out.lt bp rfl).2;have hbm:=(HM.out.lt bm rfl).2;have hPk:lo+k<Ps.length:=by rw[HPL.out];omega
   have hMk:lo+k<Ms.length:=by rw[HML.out];omega
   have hGk:k<gs.length:=by rw[HGL.out];exact hlt
   have gP:=YaA hPk;have gM:=YaA hMk;have gG:=YaA hGk;have iP:=HPI.out _ (List.getElem_mem hPk);have iM:=HMI.out _ (List.getElem_mem hMk);generalize Ps[lo+k]=p at gP iP;generalize Ms[lo+k]=m at gM iM;generalize gs[k]=g at gG;obtain⟨b,o,g',rfl,hbl,hg',cg⟩:=Zb7 HGL.out (HG.out.but hB (fun b o e h0 hh=>by have:=HGB.out b o e h0;omega)) hlt;obtain rfl:g'=g:=by rw[gG] at hg';injection hg' with e;exact e.symm
   obtain⟨j,hj⟩:∃j,lo+k=j:=⟨_,rfl⟩;rw[hj] at gP gM;have HU:=hid (fun W (kW:Zag wr W)=>Zor ra mo sh p m g' bp bm j N N cP cM base _ _ W (Zac hP kW.2.2) (Zac hM kW.2.2) (by rw[<-hj];exact Zqb _ _ _ _ _ _ _ _ _ (by rw[hj];exact gP)) (by rw[<-hj];exact Zqa _ _ _ _ _ _ _ (by rw[hj];exact gM)) hne hra hmo iP iM);have HPn:=hid (Zma ra mo sh Ps Ms gs lo k p m g' (by rw[hj];exact gP) (by rw[hj];exact gM) gG);have HMn:=hid (Zl9 mo sh Ms gs lo k m g' (by rw[hj];exact gM) gG);have c0:wr.cell? ⟨w.heap.size,0,none⟩=some (.int .i64 ra):=hR.cell 0;have c1:wr.cell? ⟨w.heap.size,1,none⟩=some (.int .i64 mo):=hR.cell 1;have c2:wr.cell? ⟨w.heap.size,2,none⟩=some (.int .i64 sh):=hR.cell 2;have c3:wr.cell? ⟨w.heap.size+1,0,none⟩=some (.slice (some ⟨bp,0,none⟩) N cP):=hS.cell 0;have c4:wr.cell? ⟨w.heap.size+1,1,none⟩=some (.slice (some ⟨bm,0,none⟩) N cM):=hS.cell 1;have c5:wr.cell? ⟨w.heap.size+1+1,0,none⟩=some (.int .i64 lo):=hA.cell 0;have lt0:=hA.lt;have lt1:=hS.lt;have lt2:=hR.lt;have z1:IntKind.i64.wrap ((lo:Int)+(k:Int))=(j:Int):=by rw[IntWalk.i64_in _ (by omega)];omega
   have z2:(lo:Int)+(k:Int)=(j:Int):=by omega
   have i1:(0:Int)<=(j:Int):=by omega
   have i2:(j:Int)<(N:Int):=by omega
   have i3:(0:Int)<=(k:Int):=by omega
   have i4:(k:Int)<(n:Int):=by omega
   have HJ:=hid hj;have HB3:=hid hB;have HR3:=hid hR;have HS3:=hid hS;have HA3:=hid hA;clear hP hM hB hR hS hA gP gM gG hg' hj hPk hMk hGk;go_wp2_with fail;have KC:=fun(u:KW wr) b o h=>KW.cells u b o h
   refine ZaW wr [] [0,1,2,3,4,5,6,7,8,9,10,11,12,13,14,15,16,17,18] 19 [] (by kernel_rfl) (by kernel_rfl) (by kernel_rfl) (Zag.of (bR0 _ _)) ?_;simp only[Zdj,YaO,YaP,YaB,YaC];change wpQuiet _ _ _ _ (_::_::_::_::_::_::_::_::_::_::_::_::_::_::_::_::_::_::_::[]) _
   iterate 19 (go_big_quiet_step (fail))
   refine wpQuiet_nil ?_;rintro⟨w4,k4⟩;change wpList _ _ _ (_::[]) _ _;dsimp only;clear KC;go_wp2_with fail;((with_reducible refine(HU.out _ k4).mono ?_);rintro e w5 ⟨rfl,hP5,hM5,hB5⟩);have HP5:=hid hP5;have HM5:=hid hM5;have HB5:=hid ((But.of_below (fun b=>b=bp\/b=bm) k4.2.2).trans hB5);clear hP5 hM5 hB5 k4 HU c0 c1 c2 c3 c4 c5 cg z1 z2;go_wp2_with fail;refine NoPanic.normal ?_;go_wp2
   go_roundw
   case rel=>exact⟨k+1,by omega,by go_num,by rw[<-HPn.out,HJ.out];exact HP5.out,by rw[<-HMn.out,HJ.out];exact HM5.out,HB3.out.trans (HB5.out.mono (fun i _ h=>⟨by omega,h⟩)),HR3.out.but HB5.out (by omega),HS3.out.but HB5.out (by omega),HA3.out.but HB5.out (by omega)⟩
   case measure=>simp[intOf];omega
  ·obtain rfl:k=n:=by omega
   go_wp2;go_ret;exact⟨rfl,hP,hM,hB⟩
def Zf3(ra mo sh:Int)(Ps Ms gs:List Int):List Int:=Zbn ra mo sh Ps Ms gs 0 Ps.length
def ZgA(mo sh:Int)(Ms gs:List Int):List Int:=Zbm mo sh Ms gs 0 Ms.length
end
