/- Lemmas. -/
import Derived.Test.YtkmaeipoaoikpaaGreatEC25
namespace Go.Proofs.YtkmaeipoaoikpaaGreat
set_option linter.all false
set_option maxRecDepth 100000
set_option maxHeartbeats 4000000
open Lib (hid)
open Go.RowKit
open Tryz
theorem ZjS:Sl prog 204 26 (.slice none 0 0) 1 24:=⟨underlying204,by kernel_rfl,rfl,by omega⟩
def zR(l:List Int)(n:Nat)(P:List Int)(q:Int)(k:Nat)(x:List Int)(r:Nat):Int:=if k+1<n-1 then Zb2 (ZlE l P q k r x (szN l k)) (ZlE l P q k r x (szN l k)) else ZlE l P q k r x (szN l k)
def ZwV(l:List Int)(n:Nat)(P:List Int)(q:Int)(k:Nat)(x:List Int):List Int:=ZcK (szN l (k+1)) (zR l n P q k x)
def trR(l:List Int)(n:Nat)(P:List Int)(q:Int)(x:List Int):Nat->List Int
 |0=>x
 |k+1=>ZwV l n P q k (trR l n P q x k)
theorem ZdX(F:Nat->Int)(k:Nat):ZcK (k+1) F=ZcK k F++[F k]:=by simp[ZcK,List.range_succ]
theorem ZiJ{l:List Int}{n:Nat}{P:List Int}{q:Int}{x:List Int}(hx:x.length=szN l 0):∀k,(trR l n P q x k).length=szN l k
 |0=>hx
 |k+1=>ZaD _ _
theorem ZrX{l P:List Int}{q:Int}{k r:Nat}{x:List Int}(hP:Zaw P):∀c,In1 (ZlE l P q k r x c)
 |0=>getD_in hP _
 |c+1=>ZaZ _
theorem Zxk{l:List Int}{n:Nat}{P:List Int}{q:Int}{k:Nat}{x:List Int}{r:Nat}(hP:Zaw P):In1 (zR l n P q k x r):=by
 unfold zR
 split
 ·exact Zqk (ZrX hP _)
 ·exact ZrX hP _
theorem Zul{l:List Int}{n:Nat}{P:List Int}{q:Int}{x:List Int}(hP:Zaw P)(hx:Zaw x):∀k,Zaw (trR l n P q x k)
 |0=>hx
 |k+1=>by
  intro v hv;obtain⟨i,_,rfl⟩:=List.mem_map.1 hv;exact Zxk hP
theorem ZdY(x:Int):∀u∈(#[Value.int .i64 x]:Array Value).toList,u.oneCell'=true:=by
 intro u hu;obtain rfl:u=.int .i64 x:=by simpa using hu
 rfl
theorem Zm1(A:Option Addr)(n c:Nat):∀u∈(#[Value.slice A n c]:Array Value).toList,u.oneCell'=true:=by
 intro u hu;obtain rfl:u=.slice A n c:=by simpa using hu
 rfl
def SlT(w:World)(B:Nat)(A:Option Addr):Prop:=∀b o,A=some ⟨b,o,none⟩->b<B\/∃cur,w.heap[b]?=some (.cells cur 2 (0,0))
theorem SlT.below{w w':World}{B:Nat}{A:Option Addr}(h:SlT w B A)(hb:Below w.heap.size w w'):SlT w' B A:=fun b o e=>by
 rcases h b o e with h1|⟨cur,h1⟩
 ·exact .inl h1
 ·have hlt:b<w.heap.size:=by
   by_cases hl:b<w.heap.size
   ·exact hl
   ·rw[Array.getElem?_eq_none (by omega)] at h1;cases h1
  exact .inr ⟨cur,(hb.block b hlt).trans h1⟩
theorem SlT.own{w:World}{B base:Nat}{A:Option Addr}{n c:Nat}{xs:List Value}(h:w.ownsRow base 2 1 (.slice A n c) n xs):SlT w B A:=fun b o e=>by
 rcases h.2 with⟨h1,_⟩|⟨g',cap',cur,h1,_,hgb,_⟩
 ·injection h1 with h1
  rw[h1] at e
  cases e
 ·injection h1 with h1
  rw[h1] at e;injection e with e
  injection e with e1 e2 e3
  subst e1;exact .inr ⟨_,hgb⟩
def TrR(w:World)(B:Nat)(l:List Int)(F:Nat->List Int)(ss:List Zel):Prop:=∀j s,ss[j]?=some s->s.2.1=szN l j/\Rd w 1 s.1 (szN l j) (iv (F j))/\SlT w B s.1
theorem TrR.below{w w':World}{B:Nat}{l:List Int}{F:Nat->List Int}{ss:List Zel}(h:TrR w B l F ss)(hb:Below w.heap.size w w'):TrR w' B l F ss:=fun j s hs=>⟨(h j s hs).1,(h j s hs).2.1.below hb,(h j s hs).2.2.below hb⟩
theorem TrR.push{w w':World}{B:Nat}{l:List Int}{F:Nat->List Int}{ss:List Zel}{v:Value}{n:Nat}{xs:List Value}(h:TrR w B l F ss)(ho:w.ownsRow B 26 1 v n xs)(hg:w.grownBy w' v.ownBlock):TrR w' B l F ss:=by
 intro j s hs;obtain⟨h1,h2,h3⟩:=h j s hs;have hne:∀b o,s.1=some ⟨b,o,none⟩->b<w.heap.size->some b≠v.ownBlock:=by
  intro b o e hlt e2
  rcases ho.2 with⟨rfl,_⟩|⟨g',cap',cur,rfl,hb,hgb,_⟩
  ·simp[Value.ownBlock] at e2
  ·have e3:b=g':=by simpa [Value.ownBlock] using e2
   subst e3
   rcases h3 b o e with h4|⟨cur',h4⟩
   ·omega
   ·rw[hgb] at h4;injection h4 with h4
    injection h4 with _ h4 _
    exact absurd h4 (by decide)
 refine⟨h1,⟨h2.1,fun hn=>?_⟩,fun b o e=>?_⟩
 ·obtain⟨b,o,e,hlt,hc⟩:=h2.2 hn;refine⟨b,o,e,YaK hlt hg.size,fun k u hu=>?_⟩;rw[World.cell?_of_block (w:=w) (hg.block b hlt (hne b o e hlt))];exact hc k u hu
 ·rcases h3 b o e with h4|⟨cur',h4⟩
  ·exact .inl h4
  ·have hlt:b<w.heap.size:=by
    by_cases hl:b<w.heap.size
    ·exact hl
    ·rw[Array.getElem?_eq_none (by omega)] at h4;cases h4
   exact .inr ⟨cur',(hg.block b hlt (hne b o e hlt)).trans h4⟩
theorem TrR.snoc{w:World}{B:Nat}{l:List Int}{F:Nat->List Int}{ss:List Zel}{k:Nat}{s:Zel}(h:TrR w B l F ss)(hl:ss.length=k)(h1:s.2.1=szN l k)(h2:Rd w 1 s.1 (szN l k) (iv (F k)))(h3:SlT w B s.1):TrR w B l F (ss++[s]):=by
 intro j t ht
 by_cases hj:j<ss.length
 ·rw[YaV hj] at ht;exact h j t ht
 ·rw[YaU (by omega)] at ht;have h0:j-ss.length=0:=by
   have:=(YaG.1 ht).1;simp at this;omega
  rw[h0] at ht;obtain rfl:s=t:=by simpa using ht
  obtain rfl:j=k:=by omega
  exact⟨h1,h2,h3⟩
def ZrY(l:List Int)(n:Nat)(F:Nat->List Int)(w:World)(e:Ending)(w':World):Prop:=
 ∃A c ss,e=.returned (.slice A n c)/\ss.length=n/\w'.ownsRow w.heap.size 26 1 (.slice A n c) n (ss.map slv)/\TrR w' w.heap.size l F ss/\Bz0 w w'
section
variable(A:Option Addr)(n cap:Nat)(l:List Int)(Ap:Option Addr)(NP cp:Nat)(P:List Int)(q:Int)(w:World)
theorem Zc3(hn:1<=n)(hn2:n<=1000):Calls prog 174 #[Zd2 A n cap Ap NP cp q] w fun e w'=>e=.returned (.int .i64 ((n-1:Nat):Int))/\Bz0 w w':=by
 have HG:Hid (∀W,w.alloc (.cells (Zce A n cap Ap NP cp q) 202)=W->Below w.heap.size w W/\Blk W w.heap.size 202 (Zce A n cap Ap NP cp q)):=hid (by
  rintro W rfl;exact⟨bA0 _,Blk.new _ _ _⟩)
 have hw:((n-1:Nat):Int)=(n:Int)-1:=by omega
 rw[hw]
 go_enter func174,ntmps174
 go_wp2_with fail;go_ret;exact⟨rfl,(HG.out _ rfl).1⟩
theorem Zlk(N cx:Nat)(X:Option Addr)(x:List Int)(h:Zb6 w A n cap l Ap NP cp P q)(hN:N=szN l 0)(hxl:x.length=N)(hx:Rd w 1 X N (iv x))(hxi:Zaw x) :
  Calls prog 172 #[Zd2 A n cap Ap NP cp q,.slice X N cx] w (ZrY l n (trR l n P q x) w):=by
 have hn2:=h.ok.n2;have hn16:=h.ok.n16;obtain⟨ga,oa,gp,op,rfl,rfl⟩:=Zfd h;have HLA:=hid (fun W=>Zc3 (some ⟨ga,oa,none⟩) n cap (some ⟨gp,op,none⟩) NP cp q W (by omega) (by omega));have HH:=hid h;have HXI:=hid hxi;have HXL:=hid hxl;have HX:=hid hx;have HNN:=hid hN;have hzl:=(ZdI h.ok (show 0<n by omega) h.rl).2;have HG:Hid (∀W,w.alloc (.cells (Zce (some ⟨ga,oa,none⟩) n cap (some ⟨gp,op,none⟩) NP cp q) 202)=W->Below w.heap.size w W/\Blk W w.heap.size 202 (Zce (some ⟨ga,oa,none⟩) n cap (some ⟨gp,op,none⟩) NP cp q)):=hid (by
  rintro W rfl;exact⟨bA0 _,Blk.new _ _ _⟩)
 clear hxi hxl hx hN h
 go_enter func172,ntmps172
 go_wp2_with fail;obtain⟨w0,hw0⟩:∃w0,w.alloc (.cells (Zce (some ⟨ga,oa,none⟩) n cap (some ⟨gp,op,none⟩) NP cp q) 202)=w0:=⟨_,rfl⟩;obtain⟨hB,hI⟩:=HG.out _ hw0;have hs0:w0.heap.size=w.heap.size+1:=by rw[<-hw0];simp
 rw[hw0];obtain⟨w1,hw1⟩:∃w1,w0.alloc (.cells #[.slice X N cx] 26)=w1:=⟨_,rfl⟩;rw[hw1];have hb1:Below w0.heap.size w0 w1:=by rw[<-hw1];exact bA0 _
 have ho1:w1.ownsRow w.heap.size 26 1 (.slice (some ⟨w.heap.size+1,0,none⟩) 1 1) 1 ([(X,N,cx)].map slv):=by
  rw[<-hw1,<-hs0];exact World.ownsRow_lit w0 #[.slice X N cx] 1 (by omega) (by unfold maxLen;omega) rfl
 have HB1:=hid (bT0 hB hb1);have HI1:=hid (hI.kept hb1);have HO1:=hid ho1;have HT1:Hid (TrR w1 w.heap.size l (trR l n P q x) [(X,N,cx)]):=hid (by
  intro j s hs
  cases j with
  |zero=>
   obtain rfl:(X,N,cx)=s:=by simpa using hs
   exact⟨HNN.out,by rw[<-HNN.out];exact HX.out.below HB1.out,fun b o e=>.inl (by
    obtain⟨b',o',e',hlt,_⟩:=HX.out.2 (by have:=(HH.out.ok.sz (show 0<n by omega)).2.1;have:=HNN.out;omega);have e2:X=some ⟨b,o,none⟩:=e;rw[e2] at e';injection e' with e'
    injection e' with e3 _ _
    omega)⟩
  |succ j=>simp at hs)
 clear hw0 hw1 hB hI hs0 hb1 ho1 HG HX
 go_loopw [5,6] (fun o v wr=>∃(k:Nat) (Ao:Option Addr) (co:Nat) (ss:List Zel),k+1<=n/\v=.int .i64 k/\o=.slice Ao (k+1) co/\ss.length=k+1/\wr.ownsRow w.heap.size 26 1 (.slice Ao (k+1) co) (k+1) (ss.map slv)/\TrR wr w.heap.size l (trR l n P q x) ss/\Bz0 w wr/\Blk wr w.heap.size 202 (Zce (some ⟨ga,oa,none⟩) n cap (some ⟨gp,op,none⟩) NP cp q)) (fun _ v _=>n-(intOf v).toNat)
 case atStart=>exact⟨0,_,_,[(X,N,cx)],by omega,rfl,rfl,rfl,HO1.out,HT1.out,HB1.out,HI1.out⟩
 case round=>
  obtain⟨k,Ao,co,ss,hk,rfl,rfl,hsl,ho,ht,hb,hi⟩:=hrel;have HO:=hid ho;have HT:=hid ht;have HBW:=hid hb;have HI:=hid hi;have HSL:=hid hsl;have HK:=hid hk;have y0:wr.cell? ⟨w.heap.size,0,none⟩=some (.slice (some ⟨ga,oa,none⟩) n cap):=hi.cell 0;have y1:wr.cell? ⟨w.heap.size,1,none⟩=some (.slice (some ⟨gp,op,none⟩) NP cp):=hi.cell 1;have y2:wr.cell? ⟨w.heap.size,2,none⟩=some (.int .i64 q):=hi.cell 2;have yl:=hi.lt;clear ho ht hb hi hsl;go_wp2_with fail;((with_reducible refine(HLA.out _).mono ?_);rintro e w2 ⟨rfl,hb2⟩);obtain⟨N1,hN1⟩:∃N1,n-1=N1:=⟨_,rfl⟩;rw[hN1];have HBW2:=hid (bT0 HBW.out hb2);have HO2:=hid (Zac HO.out hb2);have HT2:=hid (HT.out.below hb2);have HI2:=hid (HI.out.kept hb2);have HN1:=hid hN1;clear hb2 y0 y1 y2 yl
  by_cases hlt:k<N1
  ·have hkN:(k:Int)<(N1:Int):=by omega
   obtain⟨R,hR⟩:∃R,szN l (k+1)=R:=⟨_,rfl⟩;have hR1000:R<=1000:=by rw[<-hR];exact(HH.out.ok.sz (by omega)).2.2
   have HRR:=hid hR;have HLT:=hid hlt;clear hR hlt;go_wp2_with fail
   go_loopw [7,8] (fun v7 v wx=>∃(r:Nat) (A7:Option Addr) (c7:Nat),r<=R/\v=.int .i64 r/\v7=.slice A7 r c7/\wx.ownsRow w2.heap.size 2 1 (.slice A7 r c7) r (iv (ZcK r (zR l n P q k (trR l n P q x k))))/\Bz0 w2 wx) (fun _ v _=>R-(intOf v).toNat)
   case atStart=>exact⟨0,none,0,by omega,rfl,rfl,World.ownsRow_nil _ _ _ _,bR0 _ _⟩
   case round=>
    obtain⟨r,A7,c7,hr,rfl,rfl,ho,hb⟩:=hrel;have HIr:=hid (HI2.out.kept hb);have zc:=ZdI HH.out.ok (show k+1<n by omega) (HH.out.rl.below (bT0 HBW2.out hb));rw[HRR.out] at zc;obtain⟨zc,zl⟩:=zc;have y0:wr.cell? ⟨w.heap.size,0,none⟩=some (.slice (some ⟨ga,oa,none⟩) n cap):=HIr.out.cell 0;have y1:wr.cell? ⟨w.heap.size,1,none⟩=some (.slice (some ⟨gp,op,none⟩) NP cp):=HIr.out.cell 1;have y2:wr.cell? ⟨w.heap.size,2,none⟩=some (.int .i64 q):=HIr.out.cell 2;have yl:=HIr.out.lt;have hkn:k+1<n:=by have:=HLT.out;have:=HN1.out;omega
    by_cases hlt:r<R
    ·obtain⟨⟨As,ns,cs⟩,hs⟩:∃s,ss[k]?=some s:=⟨_,YaA (by rw[HSL.out];omega)⟩;obtain⟨e1,hrd,-⟩:=(HT2.out.below hb) k _ hs;dsimp only at e1 hrd;subst e1;obtain⟨go,rfl⟩:=Zbu HO2.out (by omega);have hor:=Zac HO2.out hb;have lo:=(hor.lt go rfl).2;have oc:wr.cell? ⟨go,k,none⟩=some (.slice As (szN l k) cs):=by
      rw[hor.cellAt k (by omega),YaR,hs];rfl
     obtain⟨xk,hxk⟩:∃xk,trR l n P q x k=xk:=⟨_,rfl⟩;rw[hxk] at hrd ho ⊢;have hxkl:xk.length=szN l k:=by rw[<-hxk];exact ZiJ (by rw[HXL.out,HNN.out]) k
     have hxki:Zaw xk:=by rw[<-hxk];exact Zul HH.out.ok.pin HXI.out k
     obtain⟨nk,hnk⟩:∃nk,szN l k=nk:=⟨_,rfl⟩;have hrR:r<szN l (k+1):=by rw[HRR.out];exact hlt
     have hSU:∀u:KW wr,Calls prog 223 #[Zd2 (some ⟨ga,oa,none⟩) n cap (some ⟨gp,op,none⟩) NP cp q,.int .i64 k,.int .i64 r,.slice As (szN l k) cs] u.w fun e w'=>e=.returned (.int .i64 (ZlE l P q k r xk (szN l k)))/\Below u.w.heap.size u.w w':=fun u=>
      Zm0 (some ⟨ga,oa,none⟩) n cap l (some ⟨gp,op,none⟩) NP cp P q u.w k r (szN l k) cs As xk ((HH.out.below (bT0 HBW2.out hb)).below u.h.2.2) (by omega) hrR rfl hxkl (hrd.below u.h.2.2) hxki
     rw[hnk] at hSU oc;obtain⟨sm,hsm⟩:∃sm,ZlE l P q k r xk nk=sm:=⟨_,rfl⟩;rw[hsm] at hSU;have hzz:zR l n P q k xk r=if k+1<n-1 then Zb2 sm sm else sm:=by unfold zR;rw[hnk,hsm]
     have HZ:=hid hzz;have HSU2:=hid hSU;have HO7':=hid ho;have HBX0:=hid hb;have HRL:=hid hlt;have r2:(r:Int)<(R:Int):=by omega
     have KC:=fun(u:KW wr) b o h=>KW.cells u b o h
     clear ho hb hs hrd hor hxk hxkl hxki hnk hrR hSU hsm hzz hlt;go_wp2_with fail;refine ZaK wr (by kernel_rfl) (by kernel_rfl) (Zag.of (bR0 _ _)) ?_
     repeat (go_big_quiet_step ((go_at_call 223;with_reducible exact ZbC (HSU2.out _))))
     refine wpQuiet_nil ?_;rintro w8 ⟨⟨_,k8⟩,rfl⟩
     rename World=>w8
     have HK8:=hid k8;have HI8:=hid (HIr.out.kept k8.2.2);have z0:w8.cell? ⟨w.heap.size,0,none⟩=some (.slice (some ⟨ga,oa,none⟩) n cap):=HI8.out.cell 0;have z1:w8.cell? ⟨w.heap.size,1,none⟩=some (.slice (some ⟨gp,op,none⟩) NP cp):=HI8.out.cell 1;have z2:w8.cell? ⟨w.heap.size,2,none⟩=some (.int .i64 q):=HI8.out.cell 2;have zl2:=HI8.out.lt;clear k8 KC y0 y1 y2 yl zc zl oc lo;go_wp2_with fail;((with_reducible refine(HLA.out _).mono ?_);rintro e w9 ⟨rfl,hb9⟩);rw[HN1.out];have HK9:=hid (HK8.out.call hb9);clear hb9 z0 z1 z2 zl2;have HO7:=hid (Zac HO7'.out HK9.out.2.2);have HBX:=hid (bT0 HBX0.out HK9.out.2.2);have hszz:w2.heap.size<=w9.heap.size:=HBX.out.size
     by_cases h6:k+1<N1
     ·have r6:(k:Int)+1<(N1:Int):=by omega
      have hkk:k+1<n-1:=by omega
      go_wp2_with fail;((with_reducible refine(ZgB sm sm _).mono ?_);rintro e w10 ⟨rfl,rfl⟩)
      go_wp2_with (at_builtin;go_must (refine Zav ZeL rfl _ _ rfl w2.heap.size _ r (iv (ZcK r (zR l n P q k xk))) rfl HO7.out #[.int .i64 (Zb2 sm sm)] _ rfl rfl rfl (ZdY _) (by unfold maxLen;omega) (by omega) hszz ?_);go_must (intro A4 c4 w4 hown4 hb4))
      have HO9:=hid (show w4.ownsRow w2.heap.size 2 1 (.slice A4 (r+1) c4) (r+1) (iv (ZcK (r+1) (zR l n P q k xk))) by
       rw[ZdX,Zbq,HZ.out,if_pos hkk];exact hown4)
      have HB9:=hid (HBX.out.trans hb4);clear hown4 hb4
      go_roundw
      case rel=>exact⟨r+1,A4,c4,HRL.out,by go_num,rfl,HO9.out,HB9.out⟩
      case measure=>simp[intOf];have:=HRL.out;omega
     ·have r6:¬(k:Int)+1<(N1:Int):=by omega
      have hkk:¬k+1<n-1:=by omega
      go_wp2_with (at_builtin;go_must (refine Zav ZeL rfl _ _ rfl w2.heap.size _ r (iv (ZcK r (zR l n P q k xk))) rfl HO7.out #[.int .i64 sm] _ rfl rfl rfl (ZdY _) (by unfold maxLen;omega) (by omega) hszz ?_);go_must (intro A4 c4 w4 hown4 hb4))
      have HO9:=hid (show w4.ownsRow w2.heap.size 2 1 (.slice A4 (r+1) c4) (r+1) (iv (ZcK (r+1) (zR l n P q k xk))) by
       rw[ZdX,Zbq,HZ.out,if_neg hkk];exact hown4)
      have HB9:=hid (HBX.out.trans hb4);clear hown4 hb4
      go_roundw
      case rel=>exact⟨r+1,A4,c4,HRL.out,by go_num,rfl,HO9.out,HB9.out⟩
      case measure=>simp[intOf];have:=HRL.out;omega
    ·obtain rfl:r=R:=by omega
     have HO7:=hid ho;have hor:=Zac HO2.out hb;have HOR:=hid hor;have HTR:=hid (HT2.out.below hb);have HBX:=hid hb;have hsz:w.heap.size<=wr.heap.size:=YaH HBW2.out.size hb.size;have hn16':=HH.out.ok.n16;clear ho hb hor
     go_wp2_with (at_builtin;go_must (refine ZaM ZjS rfl _ _ rfl w.heap.size _ (k+1) (ss.map slv) rfl HOR.out #[.slice A7 r c7] _ rfl rfl rfl (Zm1 _ _ _) (by unfold maxLen;omega) (by omega) hsz ?_);go_must (intro A4 c4 w4 hown4 hb4 hg4))
     have hg5:wr.grownBy w4 (Value.slice Ao (k+1) co).ownBlock:=hg4;have hrk:r=szN l (k+1):=HRR.out.symm;have ht5:=(HTR.out.snoc (s:=(A7,r,c7)) HSL.out hrk (by
      have h1:=Rd.of_own HO7.out;rw[<-hrk]
      show Rd wr 1 A7 r (iv (ZwV l n P q k (trR l n P q x k)))
      rw[ZwV,<-hrk];exact h1) (SlT.own HO7.out)).push HOR.out hg5
     have hi5:=HIr.out.grown hg5 (fun e=>Zab HOR.out HIr.out (by decide) e.symm);have HO9:=hid hown4;have HT9:=hid ht5;have HI9:=hid hi5;have HB9:=hid ((bT0 HBW2.out HBX.out).trans hb4);clear hown4 hb4 hg4 hg5 ht5 hi5
     go_roundw
     case rel=>exact⟨k+1,A4,c4,ss++[(A7,r,c7)],by omega,by go_num,rfl,by rw[YaS,HSL.out];rfl,by rw[List.map_append];exact HO9.out,HT9.out,HB9.out,HI9.out⟩
     case measure=>simp[intOf];omega
  ·have r6:¬(k:Int)<(N1:Int):=by omega
   obtain rfl:k+1=n:=by omega
   go_wp2_with fail;go_ret;exact⟨Ao,co,ss,rfl,HSL.out,HO2.out,HT2.out,HBW2.out⟩
end
def Zpw(l P:List Int)(q:Int)(k c:Nat)(d:List Int):Nat->Int
 |0=>0
 |r+1=>wrap64 (Zpw l P q k c d r+Zd5 (wtR l P k r c) (d.getD r 0) q)
def erF(l P:List Int)(q:Int)(k:Nat)(v d:List Int)(c:Nat):Int:=Zb2 (v.getD c 0) (Zpw l P q k c d d.length)
def erR(l:List Int)(n:Nat)(P:List Int)(q:Int)(V:Nat->List Int)(y:List Int):Nat->List Int
 |0=>ZcK (szN l (n-1)) fun i=>wrap64 ((V (n-1)).getD i 0-y.getD i 0)
 |j+1=>ZcK (szN l (n-2-j)) (erF l P q (n-2-j) (V (n-2-j)) (erR l n P q V y j))
theorem Zpj(l:List Int)(n:Nat)(P:List Int)(q:Int)(V:Nat->List Int)(y:List Int):∀j,(erR l n P q V y j).length=szN l (n-1-j)
 |0=>by rw[erR,ZaD];rfl
 |j+1=>by rw[erR,ZaD,show n-1-(j+1)=n-2-j by omega]
theorem Zvw{l P:List Int}{q:Int}{k c:Nat}{d:List Int}:∀r,In1 (Zpw l P q k c d r)
 |0=>by unfold Zpw;exact⟨by decide,by decide⟩
 |r+1=>ZaZ _
theorem Zum{l:List Int}{n:Nat}{P:List Int}{q:Int}{V:Nat->List Int}{y:List Int}:∀j,Zaw (erR l n P q V y j)
 |0=>by
  intro v hv;obtain⟨i,_,rfl⟩:=List.mem_map.1 hv;exact ZaZ _
 |j+1=>by
  intro v hv;obtain⟨i,_,rfl⟩:=List.mem_map.1 hv;unfold erF Zb2
  split
  ·exact Zvw _
  ·exact⟨by decide,by decide⟩
theorem Zpk(n:Int):IntKind.i64.wrap n=wrap64 n:=by unfold wrap64;exact IntKind.wrap_i64 n
theorem Zhb{w:World}{A:Option Addr}{n i:Nat}{l:List Int}(h:Rd w 1 A n (iv l))(hi:i<n):∃b o,A=some ⟨b,o,none⟩/\b<w.heap.size/\w.cell? ⟨b,o+i,none⟩=some (.int .i64 (l.getD i 0)):=by
 have hl:l.length=n:=by have:=h.1;rw[Zay] at this;omega
 obtain⟨b,o,e,hlt,hc⟩:=h.2 (by omega);refine⟨b,o,e,hlt,hc i _ ?_⟩;unfold iv;rw[YaR,YaA (by omega),YaT,YaA (by omega)];rfl
theorem Zwy{w:World}{A:Option Addr}{n i:Nat}{ss:List Zel}{s:Zel}(h:Rd w 1 A n (ss.map slv))(hs:ss[i]?=some s)(hi:i<n):∃b o,A=some ⟨b,o,none⟩/\b<w.heap.size/\w.cell? ⟨b,o+i,none⟩=some (.slice s.1 s.2.1 s.2.2):=by
 obtain⟨b,o,e,hlt,hc⟩:=h.2 (by omega);exact⟨b,o,e,hlt,hc i _ (by rw[YaR,hs];rfl)⟩
structure ZrZ(w:World)(l:List Int)(n:Nat)(F:Nat->List Int)(Av:Option Addr)(ss:List Zel):Prop where
 len:ss.length=n
 rd:Rd w 1 Av n (ss.map slv)
 row:∀j s,ss[j]?=some s->s.2.1=szN l j/\Rd w 1 s.1 (szN l j) (iv (F j))
theorem ZrZ.below{w w':World}{l:List Int}{n:Nat}{F:Nat->List Int}{Av:Option Addr}{ss:List Zel}(h:ZrZ w l n F Av ss)(hb:Below w.heap.size w w'):ZrZ w' l n F Av ss:=⟨h.len,h.rd.below hb,fun j s hs=>⟨(h.row j s hs).1,(h.row j s hs).2.below hb⟩⟩
theorem ZrZ.at{w:World}{l:List Int}{n:Nat}{F:Nat->List Int}{Av:Option Addr}{ss:List Zel}(h:ZrZ w l n F Av ss){k:Nat}(hk:k<n):∃b o As cs,Av=some ⟨b,o,none⟩/\b<w.heap.size/\w.cell? ⟨b,o+k,none⟩=some (.slice As (szN l k) cs)/\Rd w 1 As (szN l k) (iv (F k)):=by
 obtain⟨⟨As,ns,cs⟩,hs⟩:∃s,ss[k]?=some s:=⟨_,YaA (by rw[h.len];omega)⟩;obtain⟨b,o,e,hlt,hc⟩:=Zwy h.rd hs hk;obtain⟨e1,h1⟩:=h.row k _ hs;dsimp only at e1 h1 hc;subst e1;exact⟨b,o,As,cs,e,hlt,hc,h1⟩
section
variable(A:Option Addr)(n cap:Nat)(l:List Int)(Ap:Option Addr)(NP cp:Nat)(P:List Int)(q:Int)(Av:Option Addr)(cv:Nat)(F:Nat→List Int)(ss:List Zel)(Y:Option Addr)(M cy:Nat)(y:List Int)
theorem ZhZ(w:World)(h:Zb6 w A n cap l Ap NP cp P q)(hv:ZrZ w l n F Av ss)(hM:M=szN l (n-1))(hy:Rd w 1 Y M (iv y)) :
  Calls prog 175 #[Zd2 A n cap Ap NP cp q,.int .i64 ((n-1:Nat):Int),.slice Av n cv,.slice Y M cy] w (Zal w 2 1 (szN l (n-1)) (iv (erR l n P q F y 0))):=by
 have hn2:=h.ok.n2;have hn16:=h.ok.n16;have hM1:=(h.ok.sz (show n-1<n by omega)).2;rw[<-hM] at hM1;obtain⟨gv,ov,As,cs,rfl,vlt,vc,vr⟩:=hv.at (show n-1<n by omega);have HLA:=hid (fun W=>Zc3 A n cap Ap NP cp q W (by omega) (by omega));have HY:=hid hy;have HVR:=hid vr;have HVC:=hid vc;have HG:Hid (∀W,w.alloc (.cells (Zce A n cap Ap NP cp q) 202)=W->Below w.heap.size w W/\Blk W w.heap.size 202 (Zce A n cap Ap NP cp q)):=hid (by
  rintro W rfl;exact⟨bA0 _,Blk.new _ _ _⟩)
 obtain⟨N1,hN1⟩:∃N1,n-1=N1:=⟨_,rfl⟩;rw[hN1] at HLA HVR HVC hM;have her:erR l n P q F y 0=ZcK M fun i=>wrap64 ((F N1).getD i 0-y.getD i 0):=by rw[erR,hN1,hM]
 rw[hN1,<-hM,her];have HM:=hid hM;clear her h hv hy vr vc;obtain⟨G,hG⟩:∃G:Nat->Int,(fun i=>wrap64 ((F N1).getD i 0-y.getD i 0))=G:=⟨_,rfl⟩;have HGG:=hid (fun i=>congrFun hG i);rw[hG];clear hG;rw[<-hM] at HVR HVC
 go_enter func175,ntmps175
 go_wp2_with fail;obtain⟨w0,hw0⟩:∃w0,w.alloc (.cells (Zce A n cap Ap NP cp q) 202)=w0:=⟨_,rfl⟩;obtain⟨hB,hI⟩:=HG.out _ hw0;rw[hw0];have HB:=hid hB;((with_reducible refine(HLA.out _).mono ?_);rintro e w1 ⟨rfl,hb1⟩);have HB1:=hid (bT0 hB hb1);clear hb1 hB hI hw0 HG;have HY1:=hid (HY.out.below HB1.out);have HVR1:=hid (HVR.out.below HB1.out);go_wp2_with fail
 go_loopw [9,10] (fun o v wr=>∃(i:Nat) (A9:Option Addr) (c9:Nat),i<=M/\v=.int .i64 i/\o=.slice A9 i c9/\wr.ownsRow w1.heap.size 2 1 (.slice A9 i c9) i (iv (ZcK i G))/\Bz0 w1 wr) (fun _ v _=>M-(intOf v).toNat)
 case atStart=>exact⟨0,none,0,by omega,rfl,rfl,World.ownsRow_nil _ _ _ _,bR0 _ _⟩
 case round=>
  obtain⟨i,A9,c9,hi,rfl,rfl,ho,hb⟩:=hrel;have HO:=hid ho;have HBX:=hid hb;have HBW:=hid (bT0 HB1.out hb)
  by_cases hlt:i<M
  ·obtain⟨gy,oy,rfl,yl,yc⟩:=Zhb (HY1.out.below hb) hlt;obtain⟨gs,os,rfl,sl,sc⟩:=Zhb (HVR1.out.below hb) hlt;have vc:wr.cell? ⟨gv,ov+N1,none⟩=some (.slice (some ⟨gs,os,none⟩) M cs):=(HBW.out.cell (p:=⟨gv,ov+N1,none⟩) vlt).trans HVC.out;have vl:gv<wr.heap.size:=YaK vlt HBW.out.size;have hg:wrap64 ((F N1).getD i 0-y.getD i 0)=G i:=HGG.out i;obtain⟨a,ha⟩:∃a,(F N1).getD i 0=a:=⟨_,rfl⟩;obtain⟨b,hbb⟩:∃b,y.getD i 0=b:=⟨_,rfl⟩;rw[ha] at sc hg;rw[hbb] at yc hg;have HGI:=hid hg;have HLT:=hid hlt;have r2:(i:Int)<(M:Int):=by omega
   have hnn:N1<n:=by omega
   clear ho hb hg ha hbb hlt;have hszz:=HBX.out.size;go_wp2_with fail;refine Zad (Zag wr) [0,1,2,3,4,5,6,7,8,9,10,11,12] [13] [14,15] (by kernel_rfl) (by kernel_rfl) (Zag.start wr) ?_;simp only[YaO,YaP,YaB,YaC];have hwr:=Zpk (a-b);refine Zaa (.slice A9 i c9) rfl (fun W hW=>?_) ?_
   ·obtain⟨hc,-,-⟩:=hW;go_simp
   go_simp;refine Zaa (.slice (some ⟨gv,ov,none⟩) n cv) rfl (fun W hW=>?_) ?_
   ·obtain⟨hc,-,-⟩:=hW;go_simp
   go_simp;refine Zaa (.int .i64 N1) rfl (fun W hW=>?_) ?_
   ·obtain⟨hc,-,-⟩:=hW;go_simp
   go_simp;refine Zaa (.pointer (some ⟨gv,ov+N1,none⟩)) rfl (fun W hW=>?_) ?_
   ·obtain⟨hc,-,-⟩:=hW;go_simp
   go_simp;refine Zaa (.slice (some ⟨gs,os,none⟩) M cs) rfl (fun W hW=>?_) ?_
   ·obtain⟨hc,-,-⟩:=hW;go_simp
   go_simp;refine Zaa (.int .i64 i) rfl (fun W hW=>?_) ?_
   ·obtain⟨hc,-,-⟩:=hW;go_simp
   go_simp;refine Zaa (.pointer (some ⟨gs,os+i,none⟩)) rfl (fun W hW=>?_) ?_
   ·obtain⟨hc,-,-⟩:=hW;go_simp
   go_simp;refine Zaa (.int .i64 a) rfl (fun W hW=>?_) ?_
   ·obtain⟨hc,-,-⟩:=hW;go_simp
   go_simp;refine Zaa (.slice (some ⟨gy,oy,none⟩) M cy) rfl (fun W hW=>?_) ?_
   ·obtain⟨hc,-,-⟩:=hW;go_simp
   go_simp;refine Zaa (.int .i64 i) rfl (fun W hW=>?_) ?_
   ·obtain⟨hc,-,-⟩:=hW;go_simp
   go_simp;refine Zaa (.pointer (some ⟨gy,oy+i,none⟩)) rfl (fun W hW=>?_) ?_
   ·obtain⟨hc,-,-⟩:=hW;go_simp
   go_simp;refine Zaa (.int .i64 b) rfl (fun W hW=>?_) ?_
   ·obtain⟨hc,-,-⟩:=hW;go_simp
   go_simp;refine Zaa (.int .i64 (wrap64 (a-b))) rfl (fun W hW=>?_) ?_
   ·obtain⟨hc,-,-⟩:=hW;go_simp
   go_simp;unfold ZbZ;change Zah _ _ _ _ _ (_::[]) _ _;unfold Zah;go_wp2_with fail;refine⟨(Zag.start wr).alloc _,?_⟩;unfold Zah;change wpList _ _ _ (_::_::[]) _ _;have HOd:=hid (show wr.drew.ownsRow w1.heap.size 2 1 (.slice A9 i c9) i (iv (ZcK i G)) from HO.out)
   go_wp2_with (at_builtin;go_must (refine Zav (w:=wr.drew) ZeL rfl _ _ rfl w1.heap.size (.slice A9 i c9) i (iv (ZcK i G)) rfl HOd.out #[.int .i64 (wrap64 (a-b))] wr.drew.heap.size rfl rfl rfl (ZdY _) (by unfold maxLen;omega) (by omega) hszz ?_);go_must (intro A4 c4 w4 hown4 hb4))
   refine NoPanic.normal ?_;have HO9:=hid (show w4.ownsRow w1.heap.size 2 1 (.slice A4 (i+1) c4) (i+1) (iv (ZcK (i+1) G)) by
    rw[ZdX,Zbq,<-HGI.out];exact hown4)
   have HB9:=hid (HBX.out.drew.trans hb4);clear hown4 hb4;go_wp2_with fail
   go_roundw
   case rel=>exact⟨i+1,A4,c4,HLT.out,by go_num,rfl,HO9.out,HB9.out⟩
   case measure=>simp[intOf];have:=HLT.out;omega
  ·obtain rfl:i=M:=by omega
   go_wp2_with fail;go_ret;exact⟨A9,c9,rfl,Zae HO.out HB1.out.size,HBW.out⟩
theorem Zh0(j:Nat)(w:World)(h:Zb6 w A n cap l Ap NP cp P q)(hv:ZrZ w l n F Av ss)(hj:j+1<n-1)(hy:Rd w 1 Y M (iv y))
  (ih:∀W,Zb6 W A n cap l Ap NP cp P q->ZrZ W l n F Av ss->Rd W 1 Y M (iv y)->Calls prog 175 #[Zd2 A n cap Ap NP cp q,.int .i64 ((n-1-j:Nat):Int),.slice Av n cv,.slice Y M cy] W (Zal W 2 1 (szN l (n-1-j)) (iv (erR l n P q F y j)))) :
  Calls prog 175 #[Zd2 A n cap Ap NP cp q,.int .i64 ((n-1-(j+1):Nat):Int),.slice Av n cv,.slice Y M cy] w (Zal w 2 1 (szN l (n-1-(j+1))) (iv (erR l n P q F y (j+1)))):=by
 have hn2:=h.ok.n2;have hn16:=h.ok.n16;obtain⟨k,hk⟩:∃k,n-2-j=k:=⟨_,rfl⟩;have hk1:n-1-(j+1)=k:=by omega
 have hk2:n-1-j=k+1:=by omega
 have hkn:k+1<n:=by omega
 obtain⟨ga,oa,gp,op,rfl,rfl⟩:=Zfd h;obtain⟨gv,ov,As,cs,rfl,vlt,vc,vr⟩:=hv.at (show k<n by omega);obtain⟨dl,hdl⟩:∃d,erR l n P q F y j=d:=⟨_,rfl⟩;have hdlen:dl.length=szN l (k+1):=by rw[<-hdl,Zpj,hk2]
 have hdin:Zaw dl:=by rw[<-hdl];exact Zum j
 have her:erR l n P q F y (j+1)=ZcK (szN l k) (erF l P q k (F k) dl):=by rw[erR,hk,hdl]
 rw[hk1,her];rw[hk2,hdl] at ih;have HIH:=hid ih;have HLA:=hid (fun W=>Zc3 (some ⟨ga,oa,none⟩) n cap (some ⟨gp,op,none⟩) NP cp q W (by omega) (by omega));have HH:=hid h;have HV:=hid hv;have HY:=hid hy;have HVR:=hid vr;have HVC:=hid vc;have HDIN:=hid hdin;have HDL:=hid hdlen;have hR1:=(h.ok.sz (show k+1<n by omega)).2;have hC1:=(h.ok.sz (show k<n by omega)).2;have HG:Hid (∀W,w.alloc (.cells (Zce (some ⟨ga,oa,none⟩) n cap (some ⟨gp,op,none⟩) NP cp q) 202)=W->Below w.heap.size w W/\Blk W w.heap.size 202 (Zce (some ⟨ga,oa,none⟩) n cap (some ⟨gp,op,none⟩) NP cp q)):=hid (by
  rintro W rfl;exact⟨bA0 _,Blk.new _ _ _⟩)
 obtain⟨N1,hN1⟩:∃N1,n-1=N1:=⟨_,rfl⟩;rw[hN1] at HLA;have e1:((k:Int)==(N1:Int))=false:=by simp;omega
 clear h hv hy vr vc ih hk hk1 hk2 her hdl hdlen hdin
 go_enter func175,ntmps175
 go_wp2_with fail;obtain⟨w0,hw0⟩:∃w0,w.alloc (.cells (Zce (some ⟨ga,oa,none⟩) n cap (some ⟨gp,op,none⟩) NP cp q) 202)=w0:=⟨_,rfl⟩;obtain⟨hB,hI⟩:=HG.out _ hw0;rw[hw0];have HB:=hid hB;((with_reducible refine(HLA.out _).mono ?_);rintro e w1 ⟨rfl,hb1⟩);have HB1:=hid (bT0 hB hb1);have HI1:=hid (hI.kept hb1);clear hb1 hB hI hw0 HG;have y0:w1.cell? ⟨w.heap.size,0,none⟩=some (.slice (some ⟨ga,oa,none⟩) n cap):=HI1.out.cell 0;have y1:w1.cell? ⟨w.heap.size,1,none⟩=some (.slice (some ⟨gp,op,none⟩) NP cp):=HI1.out.cell 1;have y2:w1.cell? ⟨w.heap.size,2,none⟩=some (.int .i64 q):=HI1.out.cell 2;have yl:=HI1.out.lt;have hw:((k+1:Nat):Int)=(k:Int)+1:=by omega
 go_wp2_with fail;rw[<-hw];((with_reducible refine(HIH.out _ (HH.out.below HB1.out) (HV.out.below HB1.out) (HY.out.below HB1.out)).mono ?_);rintro e w2 ⟨Ad,cd,rfl,ho2,hb2⟩);have HB2:=hid (bT0 HB1.out hb2);have HI2:=hid (HI1.out.kept hb2);have HD2:=hid (Rd.of_own ho2);obtain⟨R,hR⟩:∃R,szN l (k+1)=R:=⟨_,rfl⟩;obtain⟨C,hC⟩:∃C,szN l k=C:=⟨_,rfl⟩;have HRR:=hid hR;have HCC:=hid hC;rw[hR] at HD2 hR1 HDL;rw[hC] at HVR HVC hC1;rw[hR,hC];clear ho2 hb2 y0 y1 y2 yl hR hC hw;go_wp2_with fail;obtain⟨G,hG⟩:∃G:Nat->Int,erF l P q k (F k) dl=G:=⟨_,rfl⟩;have HGG:=hid (fun i=>congrFun hG i);rw[hG];clear hG;have hzl:=(ZdI HH.out.ok (show 0<n by omega) HH.out.rl).2
 go_loopw [9,12] (fun o v wr=>∃(c:Nat) (A9:Option Addr) (c9:Nat),c<=C/\v=.int .i64 c/\o=.slice A9 c c9/\wr.ownsRow w2.heap.size 2 1 (.slice A9 c c9) c (iv (ZcK c G))/\Bz0 w2 wr) (fun _ v _=>C-(intOf v).toNat)
 case atStart=>exact⟨0,none,0,by omega,rfl,rfl,World.ownsRow_nil _ _ _ _,bR0 _ _⟩
 case round=>
  obtain⟨c,A9,c9,hc,rfl,rfl,ho,hb⟩:=hrel;have HO:=hid ho;have HBX:=hid hb;have HBW:=hid (bT0 HB2.out hb);have HIr:=hid (HI2.out.kept hb);obtain⟨zc,zl⟩:=ZdI HH.out.ok (show k<n by omega) (HH.out.rl.below HBW.out);rw[HCC.out] at zc;have y0:wr.cell? ⟨w.heap.size,0,none⟩=some (.slice (some ⟨ga,oa,none⟩) n cap):=HIr.out.cell 0;have y1:wr.cell? ⟨w.heap.size,1,none⟩=some (.slice (some ⟨gp,op,none⟩) NP cp):=HIr.out.cell 1;have y2:wr.cell? ⟨w.heap.size,2,none⟩=some (.int .i64 q):=HIr.out.cell 2;have yl:=HIr.out.lt;obtain⟨wm,rfl⟩:∃W:World,W=wr:=⟨_,rfl⟩;clear ho hb
  by_cases hlt:c<C
  ·have HLT:=hid hlt;have r2:(c:Int)<(C:Int):=by omega
   clear hlt;go_wp2_with fail;clear y0 y1 y2 yl zc zl
   go_loopw [13,14] (fun s v wx=>∃r:Nat,r<=R/\v=.int .i64 r/\s=.int .i64 (Zpw l P q k c dl r)/\Bz0 wm wx) (fun _ v _=>R-(intOf v).toNat)
   case atStart=>exact⟨0,by omega,rfl,rfl,bR0 _ _⟩
   case round=>
    obtain⟨r,hr,rfl,rfl,hb⟩:=hrel;have HBM:=hid hb;have HBW3:=hid (bT0 HBW.out hb);have HI3:=hid (HIr.out.kept hb);have y0:wr.cell? ⟨w.heap.size,0,none⟩=some (.slice (some ⟨ga,oa,none⟩) n cap):=HI3.out.cell 0;have y1:wr.cell? ⟨w.heap.size,1,none⟩=some (.slice (some ⟨gp,op,none⟩) NP cp):=HI3.out.cell 1;have y2:wr.cell? ⟨w.heap.size,2,none⟩=some (.int .i64 q):=HI3.out.cell 2;have yl:=HI3.out.lt;have hd3:=(HD2.out.below HBX.out).below hb;clear hb
    by_cases hlt:r<R
    ·obtain⟨gd,od,rfl,dlt,dc⟩:=Zhb hd3 hlt;obtain⟨u,hu⟩:∃u,dl.getD r 0=u:=⟨_,rfl⟩;obtain⟨wt,hwt⟩:∃u,wtR l P k r c=u:=⟨_,rfl⟩;obtain⟨sm,hsm⟩:∃u,Zpw l P q k c dl r=u:=⟨_,rfl⟩;rw[hu] at dc;have hHWT:∀u:KW wr,Calls prog 225 #[Zd2 (some ⟨ga,oa,none⟩) n cap (some ⟨gp,op,none⟩) NP cp q,.int .i64 k,.int .i64 r,.int .i64 c] u.w fun e w'=>e=.returned (.int .i64 wt)/\Below u.w.heap.size u.w w':=fun u=>by
      have:=Zfe (some ⟨ga,oa,none⟩) n cap l (some ⟨gp,op,none⟩) NP cp P q u.w k r c ((HH.out.below HBW3.out).below u.h.2.2) (by omega) (by rw[HRR.out];exact hlt) (by rw[HCC.out];exact HLT.out);rw[hwt] at this;exact this
     have HWT2:=hid hHWT;have HMU:=hid (fun(v:KW wr)=>Zcl wt u q v.w (by rw[<-hwt];exact getD_in HH.out.ok.pin _) (by rw[<-hu];exact getD_in HDIN.out r));have HSN:Hid (wrap64 (sm+Zd5 wt u q)=Zpw l P q k c dl (r+1)):=hid (by rw[Zpw,hu,hwt,hsm]);rw[hsm];have HR:=hid hlt;have r3:(r:Int)<(R:Int):=by omega
     have KC:=fun(u:KW wr) b o h=>KW.cells u b o h
     clear hd3 hu hwt hsm hHWT hlt;go_wp2_with fail;refine ZaK wr (by kernel_rfl) (by kernel_rfl) (Zag.of (bR0 _ _)) ?_
     repeat (go_big_quiet_step (first|(go_at_call 225;with_reducible exact ZbC (HWT2.out _))|(go_at_call 159;with_reducible exact ZeB (HMU.out _))))
     refine wpQuiet_nil ?_;rintro w8 ⟨⟨_,k8⟩,rfl⟩;go_wp2_with fail;rw[HSN.out]
     go_roundw
     case rel=>exact⟨r+1,HR.out,by go_num,rfl,bT0 HBM.out k8.2.2⟩
     case measure=>simp[intOf];have:=HR.out;omega
    ·obtain rfl:r=R:=by omega
     have hvr:=((HVR.out.below HBW3.out));obtain⟨gs,os,rfl,sl,sc⟩:=Zhb hvr HLT.out;have vc:wr.cell? ⟨gv,ov+k,none⟩=some (.slice (some ⟨gs,os,none⟩) C cs):=(HBW3.out.cell (p:=⟨gv,ov+k,none⟩) vlt).trans HVC.out;have vl:gv<wr.heap.size:=YaK vlt HBW3.out.size;obtain⟨a,ha⟩:∃a,(F k).getD c 0=a:=⟨_,rfl⟩;obtain⟨sm,hsm⟩:∃u,Zpw l P q k c dl r=u:=⟨_,rfl⟩;rw[ha] at sc;rw[hsm];have hgi:Zb2 a sm=G c:=by
      rw[<-HGG.out c,erF,ha,HDL.out,hsm]
     have HGI:=hid hgi;have hor:=Zac HO.out HBM.out;have HOR:=hid hor;have hkn':k<n:=by omega
     have HBX2:=hid (bT0 HBX.out HBM.out);have hszz:w2.heap.size<=wr.heap.size:=HBX2.out.size;clear hvr ha hsm hgi hor hlt y0 y1 y2 yl hd3;go_wp2_with fail;((with_reducible refine(ZgB a sm _).mono ?_);rintro e w10 ⟨rfl,rfl⟩)
     go_wp2_with (at_builtin;go_must (refine Zav ZeL rfl _ _ rfl w2.heap.size _ c (iv (ZcK c G)) rfl HOR.out #[.int .i64 (Zb2 a sm)] _ rfl rfl rfl (ZdY _) (by unfold maxLen;omega) (by omega) hszz ?_);go_must (intro A4 c4 w4 hown4 hb4))
     have HO9:=hid (show w4.ownsRow w2.heap.size 2 1 (.slice A4 (c+1) c4) (c+1) (iv (ZcK (c+1) G)) by
      rw[ZdX,Zbq,<-HGI.out];exact hown4)
     have HB9:=hid (HBX2.out.trans hb4);clear hown4 hb4
     go_roundw
     case rel=>exact⟨c+1,A4,c4,HLT.out,by go_num,rfl,HO9.out,HB9.out⟩
     case measure=>simp[intOf];have:=HLT.out;omega
  ·obtain rfl:c=C:=by omega
   go_wp2_with fail;go_ret;rw[HCC.out,show erF l P q k (F k) dl=G from funext HGG.out];exact⟨A9,c9,rfl,Zae HO.out HB2.out.size,HBW.out⟩
theorem Zff:∀(j:Nat) (w:World),Zb6 w A n cap l Ap NP cp P q->ZrZ w l n F Av ss->j<n-1->M=szN l (n-1)->Rd w 1 Y M (iv y) ->
  Calls prog 175 #[Zd2 A n cap Ap NP cp q,.int .i64 ((n-1-j:Nat):Int),.slice Av n cv,.slice Y M cy] w (Zal w 2 1 (szN l (n-1-j)) (iv (erR l n P q F y j)))
 |0,w,h,hv,_,hM,hy=>ZhZ A n cap l Ap NP cp P q Av cv F ss Y M cy y w h hv hM hy
 |j+1,w,h,hv,hj,hM,hy=>Zh0 A n cap l Ap NP cp P q Av cv F ss Y M cy y j w h hv hj hy (fun W a b c=>Zff j W a b (by omega) hM c)
end
abbrev Plc:=Int×Int×Int
def Zj0(l:List Plc):List Value:=l.flatMap fun p=>[.int .i64 p.1,.int .i64 p.2.1,.int .i64 p.2.2]
theorem Zhc(a b:List Plc):Zj0 (a++b)=Zj0 a++Zj0 b:=by simp[Zj0]
theorem ZtN(l:List Plc)(i:Nat)(p:Plc)(h:l[i]?=some p):(Zj0 l)[i*3]?=some (.int .i64 p.1)/\(Zj0 l)[i*3+1]?=some (.int .i64 p.2.1)/\(Zj0 l)[i*3+2]?=some (.int .i64 p.2.2):=by
 induction l generalizing i with
 |nil=>simp at h
 |cons a l ih=>
  have e:Zj0 (a::l)=.int .i64 a.1::.int .i64 a.2.1::.int .i64 a.2.2::Zj0 l:=rfl;rw[e]
  cases i with
  |zero=>
   obtain rfl:a=p:=by simpa using h
   exact⟨rfl,rfl,rfl⟩
  |succ i=>
   have:=ih i (by simpa using h);rw[show (i+1)*3=i*3+1+1+1 by omega];exact this
def Zn2(k r C:Nat):List Plc:=(List.range C).map fun(c:Nat)=>((k:Int),(r:Int),(c:Int))
def Zn3(k R C:Nat):List Plc:=(List.range R).flatMap fun r=>Zn2 k r C
def Zn4(k R:Nat):List Plc:=(List.range R).map fun(r:Nat)=>((k:Int),(r:Int),(-1:Int))
def Zll(l:List Int):Nat->List Plc
 |0=>[]
 |k+1=>Zll l k++Zn3 k (szN l (k+1)) (szN l k)++Zn4 k (szN l (k+1))
theorem Zr0(k r C:Nat):Zn2 k r (C+1)=Zn2 k r C++[((k:Int),(r:Int),(C:Int))]:=by simp[Zn2,List.range_succ]
theorem Zlm(k R C:Nat):Zn3 k (R+1) C=Zn3 k R C++Zn2 k R C:=by simp[Zn3,List.range_succ]
theorem Zr1(k R:Nat):Zn4 k (R+1)=Zn4 k R++[((k:Int),(R:Int),(-1:Int))]:=by simp[Zn4,List.range_succ]
theorem Zm2(k r C:Nat):(Zn2 k r C).length=C:=by simp[Zn2]
theorem Zm3(k R C:Nat):(Zn3 k R C).length=R*C:=by
 induction R with
 |zero=>simp[Zn3]
 |succ R ih=>rw[Zlm,YaS,ih,Zm2,Nat.succ_mul]
theorem Zm4(k R:Nat):(Zn4 k R).length=R:=by simp[Zn4]
theorem Zc4(l:List Int):∀k,(Zll l k).length=ofN l k
 |0=>rfl
 |k+1=>by rw[Zll,YaS,YaS,Zc4 l k,Zm3,Zm4,ofN]
theorem Zwz:Sl prog 308 313 (.agg #[.int .i64 0,.int .i64 0,.int .i64 0]) 3 24:=⟨underlying308,by kernel_rfl,rfl,by omega⟩
theorem Zln(x y z:Int):∀u∈(#[Value.int .i64 x,.int .i64 y,.int .i64 z]:Array Value).toList,u.oneCell'=true:=by
 intro u hu;simp at hu
 rcases hu with rfl|rfl|rfl<;>rfl
section
variable(A:Option Addr)(n cap:Nat)(l:List Int)(NP:Nat)(P:List Int)(q:Int)(w:World)
theorem ZjT(hN:NetP l n NP P q)(h:Rd w 1 A n (iv l)) :
  Calls prog 173 #[.slice A n cap] w (Zal w 313 3 NP (Zj0 (Zll l (n-1)))):=by
 have hn2:=hN.n2;have hn16:=hN.n16;obtain⟨ga,oa,rfl,hlt0,_⟩:=h.2 (by omega);have HN:=hid hN;have HR:=hid h;clear hN h
 go_enter func173,ntmps173
 go_wp2_with fail
 go_loopw [3,4] (fun o v wr=>∃(k:Nat) (B:Option Addr) (N c:Nat),k+1<=n/\v=.int .i64 k/\o=.slice B N c/\N=ofN l k/\wr.ownsRow w.heap.size 313 3 (.slice B N c) N (Zj0 (Zll l k))/\Bz0 w wr) (fun _ v _=>n-(intOf v).toNat)
 case atStart=>exact⟨0,none,0,0,by omega,rfl,rfl,rfl,World.ownsRow_nil _ _ _ _,bR0 _ _⟩
 case round=>
  obtain⟨k,B,N,c,hk,rfl,rfl,hNN,ho,hb⟩:=hrel;have HO:=hid ho;have HB:=hid hb;have HNN:=hid hNN
  by_cases hlt:k+1<n
  ·obtain⟨R,hR⟩:∃R,szN l (k+1)=R:=⟨_,rfl⟩;obtain⟨C,hC⟩:∃C,szN l k=C:=⟨_,rfl⟩;have hfit:=HN.out.fit (show k<n-1 by omega);have hob:obN l k=ofN l k+R*C:=by rw[obN,hR,hC]
   have hnp:=HN.out.np;rw[hob,<-hNN,hR] at hfit;have HFIT:Hid (N+R*C+R<=1000):=hid (by omega);have hRC:R<=1000/\C<=1000:=by
    rw[<-hR,<-hC];exact⟨(HN.out.sz (by omega)).2.2,(HN.out.sz (by omega)).2.2⟩
   obtain⟨hR1,hC1⟩:=hRC;have HRR:=hid hR;have HCC:=hid hC;have HLT:=hid hlt;have r2:(k:Int)+1<(n:Int):=by omega
   obtain⟨L0,hL0⟩:∃L,Zll l k=L:=⟨_,rfl⟩;rw[hL0] at HO;have HL0:=hid hL0;have HLL:Hid (L0.length=N):=hid (by rw[<-hL0,Zc4,<-hNN]);clear ho hb hNN hR hC hob hfit hnp hlt hL0;go_wp2_with fail;obtain⟨wk,rfl⟩:∃W:World,W=wr:=⟨_,rfl⟩
   go_loopw [3,5] (fun o v wx=>∃(r:Nat) (B:Option Addr) (N2 c:Nat),r<=R/\v=.int .i64 r/\o=.slice B N2 c/\N2=N+r*C/\wx.ownsRow w.heap.size 313 3 (.slice B N2 c) N2 (Zj0 (L0++Zn3 k r C))/\Bz0 w wx) (fun _ v _=>R-(intOf v).toNat)
   case atStart=>exact⟨0,B,N,c,by omega,rfl,rfl,by omega,by simp only[Zn3,List.range_zero,List.flatMap_nil,List.append_nil];exact HO.out,HB.out⟩
   case round=>
    obtain⟨r,B2,N2,c2,hr,rfl,rfl,hN2,ho,hb⟩:=hrel;obtain⟨zc,zl⟩:=ZdI HN.out (show k+1<n by omega) (HR.out.below hb);rw[HRR.out] at zc;have HO2:=hid ho;have HB2:=hid hb;have HN2:=hid hN2
    by_cases hlt:r<R
    ·have HLR:=hid hlt;have r3:(r:Int)<(R:Int):=by omega
     obtain⟨L1,hL1⟩:∃L,L0++Zn3 k r C=L:=⟨_,rfl⟩;rw[hL1] at HO2;have HL1:=hid hL1;have hkn:=HLT.out;have HFR:Hid (N2+C<=1000):=hid (by
      have h1:=HFIT.out;have h2:(r+1)*C<=R*C:=YaW _ hlt;rw[Nat.succ_mul] at h2
      omega)
     clear ho hb hN2 hlt hL1;go_wp2_with fail;clear zc zl
     go_loopw [3,6] (fun o v wx=>∃(j:Nat) (B:Option Addr) (N3 c:Nat),j<=C/\v=.int .i64 j/\o=.slice B N3 c/\N3=N2+j/\wx.ownsRow w.heap.size 313 3 (.slice B N3 c) N3 (Zj0 (L1++Zn2 k r j))/\Bz0 w wx) (fun _ v _=>C-(intOf v).toNat)
     case atStart=>exact⟨0,B2,N2,c2,by omega,rfl,rfl,by omega,by simp only[Zn2,List.range_zero,List.map_nil,List.append_nil];exact HO2.out,HB2.out⟩
     case round=>
      obtain⟨j,B3,N3,c3,hj,rfl,rfl,hN3,ho,hb⟩:=hrel;obtain⟨zc,zl⟩:=ZdI HN.out (show k<n by omega) (HR.out.below hb);rw[HCC.out] at zc;have HO3:=hid ho;have HB3:=hid hb;have HN3:=hid hN3;have hkn2:k<n:=by omega
      by_cases hlt:j<C
      ·have HLJ:=hid hlt;have r4:(j:Int)<(C:Int):=by omega
       have hb3:N3+1<=1001:=by have:=HFR.out;omega
       have hszz:=HB3.out.size;clear ho hb hN3 hlt
       go_wp2_with (at_builtin;go_must (refine Zav Zwz rfl _ _ rfl w.heap.size _ N3 (Zj0 (L1++Zn2 k r j)) rfl HO3.out #[.int .i64 k,.int .i64 r,.int .i64 j] _ rfl rfl rfl (Zln _ _ _) (by unfold maxLen;omega) (by omega) hszz ?_);go_must (intro A4 c4 w4 hown4 hb4))
       have HO9:=hid (show w4.ownsRow w.heap.size 313 3 (.slice A4 (N3+1) c4) (N3+1) (Zj0 (L1++Zn2 k r (j+1))) by
        rw[Zr0,<-YaY,Zhc];exact hown4)
       have HB9:=hid (HB3.out.trans hb4);clear hown4 hb4
       go_roundw
       case rel=>exact⟨j+1,A4,N3+1,c4,HLJ.out,by go_num,rfl,by have:=HN3.out;omega,HO9.out,HB9.out⟩
       case measure=>simp[intOf];have:=HLJ.out;omega
      ·obtain rfl:j=C:=by omega
       have hfin:L1++Zn2 k r j=L0++Zn3 k (r+1) j:=by rw[Zlm,<-YaY,HL1.out]
       rw[hfin] at HO3;clear ho hb hN3 hlt hfin;go_wp2_with fail
       go_roundw
       case rel=>exact⟨r+1,B3,N3,c3,HLR.out,by go_num,rfl,by have:=HN3.out;have:=HN2.out;rw[Nat.succ_mul];omega,HO3.out,HB3.out⟩
       case measure=>simp[intOf];have:=HLR.out;omega
    ·obtain rfl:r=R:=by omega
     obtain⟨L1,hL1⟩:∃L,L0++Zn3 k r C=L:=⟨_,rfl⟩;rw[hL1] at HO2;have HL1:=hid hL1;have hkn:=HLT.out;have HFR:Hid (N2+r<=1000):=hid (by have h1:=HFIT.out;omega);clear ho hb hN2 hlt hL1;go_wp2_with fail;clear zc zl
     go_loopw [3,7] (fun o v wx=>∃(j:Nat) (B:Option Addr) (N3 c:Nat),j<=r/\v=.int .i64 j/\o=.slice B N3 c/\N3=N2+j/\wx.ownsRow w.heap.size 313 3 (.slice B N3 c) N3 (Zj0 (L1++Zn4 k j))/\Bz0 w wx) (fun _ v _=>r-(intOf v).toNat)
     case atStart=>exact⟨0,B2,N2,c2,by omega,rfl,rfl,by omega,by simp only[Zn4,List.range_zero,List.map_nil,List.append_nil];exact HO2.out,HB2.out⟩
     case round=>
      obtain⟨j,B3,N3,c3,hj,rfl,rfl,hN3,ho,hb⟩:=hrel;obtain⟨zc,zl⟩:=ZdI HN.out (show k+1<n by omega) (HR.out.below hb);rw[HRR.out] at zc;have HO3:=hid ho;have HB3:=hid hb;have HN3:=hid hN3
      by_cases hlt:j<r
      ·have HLJ:=hid hlt;have r4:(j:Int)<(r:Int):=by omega
       have hb3:N3+1<=1001:=by have:=HFR.out;omega
       have hszz:=HB3.out.size;clear ho hb hN3 hlt
       go_wp2_with (at_builtin;go_must (refine Zav Zwz rfl _ _ rfl w.heap.size _ N3 (Zj0 (L1++Zn4 k j)) rfl HO3.out #[.int .i64 k,.int .i64 j,.int .i64 (-1)] _ rfl rfl rfl (Zln _ _ _) (by unfold maxLen;omega) (by omega) hszz ?_);go_must (intro A4 c4 w4 hown4 hb4))
       have HO9:=hid (show w4.ownsRow w.heap.size 313 3 (.slice A4 (N3+1) c4) (N3+1) (Zj0 (L1++Zn4 k (j+1))) by
        rw[Zr1,<-YaY,Zhc];exact hown4)
       have HB9:=hid (HB3.out.trans hb4);clear hown4 hb4
       go_roundw
       case rel=>exact⟨j+1,A4,N3+1,c4,HLJ.out,by go_num,rfl,by have:=HN3.out;omega,HO9.out,HB9.out⟩
       case measure=>simp[intOf];have:=HLJ.out;omega
      ·obtain rfl:j=r:=by omega
       have hfin:L1++Zn4 k j=Zll l (k+1):=by rw[Zll,HL0.out,HRR.out,HCC.out,HL1.out]
       rw[hfin] at HO3;have hn3:N3=ofN l (k+1):=by
        have:=Zc4 l (k+1);have h1:=HN3.out;have h2:=HN2.out;have h3:=HNN.out;rw[ofN,HRR.out,HCC.out,<-h3];exact h1.trans (by rw[h2])
       have HN3':=hid hn3;clear ho hb hN3 hlt hfin hn3;go_wp2_with fail
       go_roundw
       case rel=>exact⟨k+1,B3,N3,c3,by omega,by go_num,rfl,HN3'.out,HO3.out,HB3.out⟩
       case measure=>simp[intOf];omega
  ·obtain rfl:n=k+1:=by omega
   have hcn:=HN.out.cnt;clear ho hb hlt;go_wp2_with fail;go_ret;rw[Nat.add_sub_cancel] at hcn ⊢;obtain rfl:N=NP:=by have:=HNN.out;omega
   exact⟨B,c,rfl,HO.out,HB.out⟩
end
def grF(q:Int)(V E:Nat->List Int)(p:Plc):Int:=if 0<=p.2.2 then Zd5 ((E (p.1.toNat+1)).getD p.2.1.toNat 0) ((V p.1.toNat).getD p.2.2.toNat 0) q else (E (p.1.toNat+1)).getD p.2.1.toNat 0
def erE(l:List Int)(n:Nat)(P:List Int)(q:Int)(V:Nat->List Int)(y:List Int)(k:Nat):List Int:=erR l n P q V y (n-1-k)
def Zlo(l:List Int)(n:Nat)(P:List Int)(q:Int)(x y:List Int):List Int:=(Zll l (n-1)).map (grF q (trR l n P q x) (erE l n P q (trR l n P q x) y))
theorem Zn5(l:List Int):∀(K:Nat) (p:Plc),p∈Zll l K->∃(k r:Nat),k<K/\p.1=k/\p.2.1=r/\r<szN l (k+1)/\(p.2.2=-1\/∃c:Nat,p.2.2=c/\c<szN l k)
 |0,p,h=>by cases h
 |K+1,p,h=>by
  rw[Zll,List.mem_append,List.mem_append] at h
  rcases h with(h|h)|h
  ·obtain⟨k,r,h1,h2⟩:=Zn5 l K p h;exact⟨k,r,by omega,h2⟩
  ·unfold Zn3 Zn2 at h;obtain⟨r,hr,h⟩:=List.mem_flatMap.1 h;obtain⟨c,hc,rfl⟩:=List.mem_map.1 h;exact⟨K,r,by omega,rfl,rfl,List.mem_range.1 hr,.inr ⟨c,rfl,List.mem_range.1 hc⟩⟩
  ·unfold Zn4 at h;obtain⟨r,hr,rfl⟩:=List.mem_map.1 h;exact⟨K,r,by omega,rfl,rfl,List.mem_range.1 hr,.inl rfl⟩
def AlR(w:World)(B:Nat)(l:List Int)(E:Nat->List Int)(es:List Zel):Prop:=∀j s,es[j]?=some s->1<=j->s.2.1=szN l j/\Rd w 1 s.1 (szN l j) (iv (E j))/\SlT w B s.1
theorem AlR.below{w w':World}{B:Nat}{l:List Int}{E:Nat->List Int}{es:List Zel}(h:AlR w B l E es)(hb:Below w.heap.size w w'):AlR w' B l E es:=fun j s hs h1=>⟨(h j s hs h1).1,(h j s hs h1).2.1.below hb,(h j s hs h1).2.2.below hb⟩
theorem ZtO{w w':World}{B:Nat}{A:Option Addr}{m:Nat}{ys:List Value}{v:Value}{n:Nat}{xs:List Value}(h2:Rd w 1 A m ys)(h3:SlT w B A)(ho:w.ownsRow B 26 1 v n xs)(hg:w.grownBy w' v.ownBlock):Rd w' 1 A m ys/\SlT w' B A:=by
 have hne:∀b o,A=some ⟨b,o,none⟩->b<w.heap.size->some b≠v.ownBlock:=by
  intro b o e hlt e2
  rcases ho.2 with⟨rfl,_⟩|⟨g',cap',cur,rfl,hb,hgb,_⟩
  ·simp[Value.ownBlock] at e2
  ·have e3:b=g':=by simpa [Value.ownBlock] using e2
   subst e3
   rcases h3 b o e with h4|⟨cur',h4⟩
   ·omega
   ·rw[hgb] at h4;injection h4 with h4
    injection h4 with _ h4 _
    exact absurd h4 (by decide)
 refine⟨⟨h2.1,fun hn=>?_⟩,fun b o e=>?_⟩
 ·obtain⟨b,o,e,hlt,hc⟩:=h2.2 hn;refine⟨b,o,e,YaK hlt hg.size,fun k u hu=>?_⟩;rw[World.cell?_of_block (w:=w) (hg.block b hlt (hne b o e hlt))];exact hc k u hu
 ·rcases h3 b o e with h4|⟨cur',h4⟩
  ·exact .inl h4
  ·have hlt:b<w.heap.size:=by
    by_cases hl:b<w.heap.size
    ·exact hl
    ·rw[Array.getElem?_eq_none (by omega)] at h4;cases h4
   exact .inr ⟨cur',(hg.block b hlt (hne b o e hlt)).trans h4⟩
theorem AlR.push{w w':World}{B:Nat}{l:List Int}{E:Nat->List Int}{es:List Zel}{v:Value}{n:Nat}{xs:List Value}(h:AlR w B l E es)(ho:w.ownsRow B 26 1 v n xs)(hg:w.grownBy w' v.ownBlock):AlR w' B l E es:=fun j s hs h1=>⟨(h j s hs h1).1,ZtO (h j s hs h1).2.1 (h j s hs h1).2.2 ho hg⟩
theorem AlR.snoc{w:World}{B:Nat}{l:List Int}{E:Nat->List Int}{es:List Zel}{k:Nat}{s:Zel}(h:AlR w B l E es)(hl:es.length=k)(h1:1<=k->s.2.1=szN l k/\Rd w 1 s.1 (szN l k) (iv (E k))/\SlT w B s.1):AlR w B l E (es++[s]):=by
 intro j t ht hj1
 by_cases hj:j<es.length
 ·rw[YaV hj] at ht;exact h j t ht hj1
 ·rw[YaU (by omega)] at ht;have h0:j-es.length=0:=by
   have:=(YaG.1 ht).1;simp at this;omega
  rw[h0] at ht;obtain rfl:s=t:=by simpa using ht
  obtain rfl:j=k:=by omega
  exact h1 hj1
section
variable(A:Option Addr)(n cap:Nat)(l:List Int)(Ap:Option Addr)(NP cp:Nat)(P:List Int)(q:Int)(w:World)
theorem Zm5(N cx M cy:Nat)(X Y:Option Addr)(x y:List Int)(h:Zb6 w A n cap l Ap NP cp P q)(hN:N=szN l 0)(hxl:x.length=N)(hx:Rd w 1 X N (iv x))(hxi:Zaw x)(hM:M=szN l (n-1))(hy:Rd w 1 Y M (iv y)) :
  Calls prog 90 #[Zd2 A n cap Ap NP cp q,.slice X N cx,.slice Y M cy] w (Zal w 2 1 NP (iv (Zlo l n P q x y))):=by
 have hn2:=h.ok.n2;have hn16:=h.ok.n16;obtain⟨V,hV⟩:∃V,trR l n P q x=V:=⟨_,rfl⟩;obtain⟨E,hE⟩:∃E,erE l n P q V y=E:=⟨_,rfl⟩;have HLA:=hid (fun W=>Zc3 A n cap Ap NP cp q W (by omega) (by omega));have HTR:=hid (fun W (a:Zb6 W A n cap l Ap NP cp P q) (b:Rd W 1 X N (iv x))=>Zlk A n cap l Ap NP cp P q W N cx X x a hN hxl b hxi);rw[hV] at HTR;have HPL:=hid (fun W (a:Rd W 1 A n (iv l))=>ZjT A n cap l NP P q W h.ok a);have HER:=hid (fun k (hk1:1<=k) (hk:k<n) W (a:Zb6 W A n cap l Ap NP cp P q) Av cv ss (b:ZrZ W l n V Av ss) (c:Rd W 1 Y M (iv y))=>Zff A n cap l Ap NP cp P q Av cv V ss Y M cy y (n-1-k) W a b (by omega) hM c);have HEE:=hid (fun k=>congrFun hE k);have hrg:Zlo l n P q x y=(Zll l (n-1)).map (grF q V E):=by rw[Zlo,hV,hE]
 rw[hrg];have HVL:=hid (fun k=>(show (V k).length=szN l k by rw[<-hV];exact ZiJ (by rw[hxl,hN]) k));have HVI:=hid (fun k=>(show Zaw (V k) by rw[<-hV];exact Zul h.ok.pin hxi k));have HEI:=hid (fun k=>(show Zaw (E k) by rw[<-hE];exact Zum _));have HH:=hid h;have HX:=hid hx;have HY:=hid hy;have HPN:Hid ((Zll l (n-1)).length=NP):=hid (by rw[Zc4,h.ok.cnt]);have HNP:=hid h.ok.np;obtain⟨pls,hpls⟩:∃p,Zll l (n-1)=p:=⟨_,rfl⟩;have HPM:=hid (fun p (hp:p∈pls)=>Zn5 l (n-1) p (by rw[hpls];exact hp));rw[hpls] at HPN HPL ⊢;have HG:Hid (∀W,w.alloc (.cells (Zce A n cap Ap NP cp q) 202)=W->Below w.heap.size w W/\Blk W w.heap.size 202 (Zce A n cap Ap NP cp q)):=hid (by
  rintro W rfl;exact⟨bA0 _,Blk.new _ _ _⟩)
 clear hV hE hrg hpls h hN hxl hx hxi hM hy
 go_enter func90,ntmps90
 go_wp2_with fail;obtain⟨w0,hw0⟩:∃w0,w.alloc (.cells (Zce A n cap Ap NP cp q) 202)=w0:=⟨_,rfl⟩;obtain⟨hB,hI⟩:=HG.out _ hw0;rw[hw0];have HB:=hid hB;((with_reducible refine(HTR.out _ (HH.out.below hB) (HX.out.below hB)).mono ?_);rintro e w1 ⟨Av,cv,ss,rfl,hsl,hov,htr,hb1⟩);have HB1:=hid (bT0 hB hb1);have HI1:=hid (hI.kept hb1);have HV1:Hid (ZrZ w1 l n V Av ss):=hid ⟨hsl,Rd.of_own hov,fun j s hs=>⟨(htr j s hs).1,(htr j s hs).2.1⟩⟩;clear hw0 HG hB hI hsl hov htr hb1;have y0:=cv0 HI1.out;have y1:w1.cell? ⟨w.heap.size,1,none⟩=some (.slice Ap NP cp):=HI1.out.cell 1;have y2:w1.cell? ⟨w.heap.size,2,none⟩=some (.int .i64 q):=HI1.out.cell 2;have yl:=HI1.out.lt;go_wp2_with fail;((with_reducible refine(HPL.out _ (HH.out.rl.below HB1.out)).mono ?_);rintro e w2 ⟨Aq,cq,rfl,hoq,hb2⟩);have HB2:=hid (bT0 HB1.out hb2);have HI2:=hid (HI1.out.kept hb2);have HV2:=hid (HV1.out.below hb2);have HQ2:=hid (Rd.of_own hoq);clear y0 y1 y2 yl hb2 hoq;go_wp2_with fail
 go_loopw [9,10] (fun o v wr=>∃(k:Nat) (Al:Option Addr) (cl:Nat) (es:List Zel),k<=n/\v=.int .i64 k/\o=.slice Al k cl/\es.length=k/\wr.ownsRow w2.heap.size 26 1 (.slice Al k cl) k (es.map slv)/\AlR wr w2.heap.size l E es/\Bz0 w2 wr) (fun _ v _=>n-(intOf v).toNat)
 case atStart=>exact⟨0,none,0,[],by omega,rfl,rfl,rfl,World.ownsRow_nil _ _ _ _,fun j s hs=>by simp at hs,bR0 _ _⟩
 case round=>
  obtain⟨k,Al,cl,es,hk,rfl,rfl,hal,ho,ha,hb⟩:=hrel;have HI3:=hid (HI2.out.kept hb);have y0:=cv0 HI3.out;have y1:wr.cell? ⟨w.heap.size,1,none⟩=some (.slice Ap NP cp):=HI3.out.cell 1;have y2:wr.cell? ⟨w.heap.size,2,none⟩=some (.int .i64 q):=HI3.out.cell 2;have yl:=HI3.out.lt;have HO:=hid ho;have HA:=hid ha;have HBX:=hid hb;have HAL:=hid hal;clear ho ha hb hal;go_wp2_with fail;((with_reducible refine(HLA.out _).mono ?_);rintro e w3 ⟨rfl,hb3⟩);have HBX3:=hid (bT0 HBX.out hb3);have HO3:=hid (Zac HO.out hb3);have HA3:=hid (HA.out.below hb3);clear hb3 y0 y1 y2 yl
  by_cases hlt:k<n
  ·have r2:decide ((k:Int)<=((n-1:Nat):Int))=true:=YaJ (by omega);have hszz:=HBX3.out.size
   by_cases hk0:k=0
   ·subst hk0
    go_wp2_with (at_builtin;go_must (refine ZaM ZjS rfl _ _ rfl w2.heap.size _ 0 (es.map slv) rfl HO3.out #[.slice none 0 0] _ rfl rfl rfl (Zm1 _ _ _) (by unfold maxLen;omega) (by omega) hszz ?_);go_must (intro A4 c4 w4 hown4 hb4 hg4))
    have hg5:w3.grownBy w4 (Value.slice Al 0 cl).ownBlock:=hg4;have ha5:=(HA3.out.snoc (s:=(none,0,0)) HAL.out (fun h=>by omega)).push HO3.out hg5;have HO9:=hid hown4;have HA9:=hid ha5;have HB9:=hid (HBX3.out.trans hb4);clear hown4 hb4 hg4 hg5 ha5
    go_roundw
    case rel=>exact⟨1,A4,c4,es++[(none,0,0)],by omega,by go_num,rfl,by rw[YaS,HAL.out];rfl,by rw[List.map_append];exact HO9.out,HA9.out,HB9.out⟩
    case measure=>simp[intOf];omega
   ·have r3:(0:Int)<(k:Int):=by omega
    go_wp2_with (at_builtin;go_must (refine ZaM ZjS rfl _ _ rfl w2.heap.size _ k (es.map slv) rfl HO3.out #[.slice none 0 0] _ rfl rfl rfl (Zm1 _ _ _) (by unfold maxLen;omega) (by omega) hszz ?_);go_must (intro A4 c4 w4 hown4 hb4 hg4;(have HB4:=hid (HBX3.out.trans hb4));(have HI4:=hid (HI2.out.kept HB4.out));(have y0:w4.cell? ⟨w.heap.size,0,none⟩=some (.slice A n cap):=HI4.out.cell 0);(have y1:w4.cell? ⟨w.heap.size,1,none⟩=some (.slice Ap NP cp):=HI4.out.cell 1);(have y2:w4.cell? ⟨w.heap.size,2,none⟩=some (.int .i64 q):=HI4.out.cell 2);(have yl:=HI4.out.lt)))
    have hn1:n-1-(n-1-k)=k:=by omega
    have HE4:=HER.out k (by omega) hlt w4 (HH.out.below (bT0 HB2.out HB4.out)) Av cv ss (HV2.out.below HB4.out) (HY.out.below (bT0 HB2.out HB4.out));rw[hn1] at HE4;have hek:erR l n P q V y (n-1-k)=E k:=HEE.out k;rw[hek] at HE4;obtain⟨R,hR⟩:∃R,szN l k=R:=⟨_,rfl⟩;rw[hR] at HE4;((with_reducible refine HE4.mono ?_);rintro e w5 ⟨Ad,cd,rfl,hod,hb5⟩);have HOD:=hid hod;have HG4:=hid hg4;have HO4:=hid hown4;have HB5:=hid (bT0 HB4.out hb5);obtain⟨g4,rfl⟩:=Zbu hown4 (by omega);have hg5:w3.grownBy w4 (Value.slice Al k cl).ownBlock:=hg4;have ha5:=((HA3.out.push HO3.out hg5).below hb5).snoc (s:=(Ad,R,cd)) HAL.out (fun _=>⟨hR.symm,by rw[hR];exact Rd.of_own hod,SlT.own hod⟩);have ho5:=Zac hown4 hb5;have c1:w5.cell? ⟨g4,k,none⟩=some (.slice none 0 0):=by
     rw[ho5.cellAt k (by omega),YaU (by simp[HAL.out])];simp[HAL.out]
    have f1:=ho5.frozenAt k;have l1:=(ho5.lt g4 rfl).2;obtain⟨st1,st2⟩:=ho5.stored k (.slice Ad R cd);have hset:(es.map slv++(#[Value.slice none 0 0]:Array Value).toList).set k (.slice Ad R cd)=(es++[(Ad,R,cd)]).map slv:=by
     rw[List.set_append_right _ _ (by simp[HAL.out])];simp[HAL.out,slv]
    rw[hset] at st1;have ha6:=ha5.push ho5 (v:=.slice (some ⟨g4,0,none⟩) (k+1) c4) st2;have hb6:Below w2.heap.size w2 (w5.setCell ⟨g4,k,none⟩ (.slice Ad R cd)):=HB5.out.setCell (p:=⟨g4,k,none⟩) (ho5.lt g4 rfl).1 _;have HO9:=hid st1;have HA9:=hid ha6;have HB9:=hid hb6;have hkk:k<k+1:=by omega
    clear hod hg4 hown4 hb5 hg5 ha5 ho5 st1 st2 hset ha6 hb6 HOD HG4 HO4 hR HE4 hek hn1 y0 y1 y2 yl;go_wp2_with fail
    go_roundw
    case rel=>exact⟨k+1,some ⟨g4,0,none⟩,c4,es++[(Ad,R,cd)],by omega,by go_num,rfl,by rw[YaS,HAL.out];rfl,HO9.out,HA9.out,HB9.out⟩
    case measure=>simp[intOf];omega
  ·obtain rfl:k=n:=by omega
   have r2:decide ((k:Int)<=((k-1:Nat):Int))=false:=YaI (by omega);go_wp2_with fail;have HBX4:=hid HBX3.out
   go_loopw [11,12] (fun o v wr=>∃(i:Nat) (A7:Option Addr) (c7:Nat),i<=NP/\v=.int .i64 i/\o=.slice A7 i c7/\wr.ownsRow w3.heap.size 2 1 (.slice A7 i c7) i (iv ((pls.take i).map (grF q V E)))/\Bz0 w3 wr) (fun _ v _=>NP-(intOf v).toNat)
   case atStart=>exact⟨0,none,0,by omega,rfl,rfl,World.ownsRow_nil _ _ _ _,bR0 _ _⟩
   case round=>
    obtain⟨i,A7,c7,hi,rfl,rfl,ho,hb⟩:=hrel
    by_cases hlt:i<NP
    ·have hb2:Below w2.heap.size w2 wr:=bT0 HBX3.out hb;obtain⟨⟨a1,a2,a3⟩,hp⟩:∃p,pls[i]?=some p:=⟨_,YaA (by rw[HPN.out];exact hlt)⟩;obtain⟨kk,r,hkk,e1,e2,hr,hc⟩:=HPM.out _ (YaL hp);dsimp only at e1 e2 hc;subst e1 e2;obtain⟨p1,p2,p3⟩:=ZtN pls i _ hp;dsimp only at p1 p2 p3;obtain⟨gq,oq,rfl,ql,qc⟩:=(HQ2.out.below hb2).2 (by omega);have q1:=qc _ _ p1;have q2:=qc _ _ p2;have q3:=qc _ _ p3;rw[<-Nat.add_assoc] at q2 q3;obtain⟨gl,rfl⟩:=Zbu HO3.out (by omega);have hor:=Zac HO3.out hb;obtain⟨⟨Ae,ne,ce⟩,hs⟩:∃s,es[kk+1]?=some s:=⟨_,YaA (by rw[HAL.out];omega)⟩;obtain⟨hne,hre,-⟩:=(HA3.out.below hb) _ _ hs (by omega);dsimp only at hne hre;subst hne;have lc:wr.cell? ⟨gl,kk+1,none⟩=some (.slice Ae (szN l (kk+1)) ce):=by
      rw[hor.cellAt (kk+1) (by omega),YaR,hs];rfl
     have ll:=(hor.lt gl rfl).2;obtain⟨ge,oe,rfl,el,ec⟩:=Zhb hre hr;obtain⟨d,hd⟩:∃d,(E (kk+1)).getD r 0=d:=⟨_,rfl⟩;have hdi:In1 d:=by rw[<-hd];exact getD_in (HEI.out _) _
     rw[hd] at ec;obtain⟨R,hR⟩:∃R,szN l (kk+1)=R:=⟨_,rfl⟩;rw[hR] at lc hr;have r4:(i:Int)<(NP:Int):=by omega
     have hkn:kk+1<k:=by omega
     have hnp:=HNP.out;have HLT:=hid hlt;have HOX0:=hid ho;have HBX5:=hid hb;have htk:(pls.take (i+1)).map (grF q V E)=(pls.take i).map (grF q V E)++[grF q V E ((kk:Int),(r:Int),a3)]:=by
      rw[List.take_add_one,hp];simp
     have HTK:=hid htk;have hI5:=HI2.out.kept hb2;have y2:wr.cell? ⟨w.heap.size,2,none⟩=some (.int .i64 q):=hI5.cell 2;have yl:=hI5.lt
     rcases hc with rfl|⟨c,rfl,hc⟩
     ·have hgv:grF q V E ((kk:Int),(r:Int),-1)=d:=by
       unfold grF;rw[if_neg (show ¬(0:Int)<=-1 by decide)];simp only[Int.toNat_natCast];exact hd
      have HGV:=hid hgv;clear hp p1 p2 p3 qc hor hs hre hd hdi hR htk hgv hlt ho hb hb2 hI5;go_wp2_with fail
      go_quiet (fail)
      obtain⟨w7,hw7⟩:∃w7,(wr.alloc (.cells #[.int .i64 kk,.int .i64 r,.int .i64 (-1)] 313)).drewN nq=w7:=⟨_,rfl⟩;have hb7:Below wr.heap.size wr w7:=by rw[<-hw7];exact(((Zag.of (bR0 _ wr)).alloc _).drewN nq).2.2
      have hx7:Blk w7 wr.heap.size 313 #[.int .i64 kk,.int .i64 r,.int .i64 (-1)]:=by rw[<-hw7];exact(Blk.new _ _ _).drewN nq
      rw[hw7];have b0:w7.cell? ⟨wr.heap.size,0,none⟩=some (.int .i64 kk):=hx7.cell 0;have b1:w7.cell? ⟨wr.heap.size,1,none⟩=some (.int .i64 r):=hx7.cell 1;have b2:w7.cell? ⟨wr.heap.size,2,none⟩=some (.int .i64 (-1)):=hx7.cell 2;have bl:=hx7.lt;have HOX:=hid (Zac HOX0.out hb7);have HBX7:=hid (bT0 HBX5.out hb7);have hszz:=HBX7.out.size;clear hw7 hb7 hx7 q1 q2 q3 ql lc ll el ec y2 yl
      go_wp2_with (at_builtin;go_must (refine Zav ZeL rfl _ _ rfl w3.heap.size (.slice A7 i c7) i (iv ((pls.take i).map (grF q V E))) rfl HOX.out #[.int .i64 d] _ rfl rfl rfl (ZdY _) (by unfold maxLen;omega) (by omega) hszz ?_);go_must (intro A9 c9 w9 hown9 hb9))
      have HO9:=hid (show w9.ownsRow w3.heap.size 2 1 (.slice A9 (i+1) c9) (i+1) (iv ((pls.take (i+1)).map (grF q V E))) by
       rw[HTK.out,Zbq,HGV.out];exact hown9)
      have HB9:=hid (HBX7.out.trans hb9);clear hown9 hb9
      go_roundw
      case rel=>exact⟨i+1,HLT.out,by go_num,A9,c9,⟨rfl,rfl,rfl⟩,(by rw[<-List.map_take];exact HO9.out),HB9.out⟩
      case measure=>simp[intOf];have:=HLT.out;omega
     ·have hgv:grF q V E ((kk:Int),(r:Int),(c:Int))=Zd5 d ((V kk).getD c 0) q:=by
       unfold grF;rw[if_pos (show (0:Int)<=(c:Int) by omega)];simp only[Int.toNat_natCast];rw[hd]
      obtain⟨gv,ov,Av2,cv2,rfl,vl,vc,vr⟩:=(HV2.out.below hb2).at (show kk<k by omega);obtain⟨gs,os,rfl,sl,sc⟩:=Zhb vr hc;obtain⟨u,hu⟩:∃u,(V kk).getD c 0=u:=⟨_,rfl⟩;have hui:In1 u:=by rw[<-hu];exact getD_in (HVI.out _) _
      rw[hu] at sc hgv;obtain⟨C,hC⟩:∃C,szN l kk=C:=⟨_,rfl⟩;rw[hC] at vc hc;have HGV:=hid hgv;have HDI:=hid hdi;have HUI:=hid hui;have HVC:=hid vc;have HSC:=hid sc;have HY2:=hid y2;clear hp p1 p2 p3 qc hor hs hre hd hdi hR htk hgv hlt ho hb hb2 hI5 hu hui hC vr;have d0:(0:Int)<=(c:Int):=by omega
      go_wp2_with fail
      go_quiet (fail)
      obtain⟨w7,hw7⟩:∃w7,(wr.alloc (.cells #[.int .i64 kk,.int .i64 r,.int .i64 c] 313)).drewN nq=w7:=⟨_,rfl⟩;have hb7:Below wr.heap.size wr w7:=by rw[<-hw7];exact(((Zag.of (bR0 _ wr)).alloc _).drewN nq).2.2
      have hx7:Blk w7 wr.heap.size 313 #[.int .i64 kk,.int .i64 r,.int .i64 c]:=by rw[<-hw7];exact(Blk.new _ _ _).drewN nq
      rw[hw7];have b0:w7.cell? ⟨wr.heap.size,0,none⟩=some (.int .i64 kk):=hx7.cell 0;have b1:w7.cell? ⟨wr.heap.size,1,none⟩=some (.int .i64 r):=hx7.cell 1;have b2:w7.cell? ⟨wr.heap.size,2,none⟩=some (.int .i64 c):=hx7.cell 2;have bl:=hx7.lt;have HOX:=hid (Zac HOX0.out hb7);have HBX7:=hid (bT0 HBX5.out hb7);have hszz:=HBX7.out.size;have vc7:w7.cell? ⟨gv,ov+kk,none⟩=some (.slice (some ⟨gs,os,none⟩) C cv2):=(hb7.cell (p:=⟨gv,ov+kk,none⟩) vl).trans HVC.out;have sc7:w7.cell? ⟨gs,os+c,none⟩=some (.int .i64 u):=(hb7.cell (p:=⟨gs,os+c,none⟩) sl).trans HSC.out;have y7:w7.cell? ⟨w.heap.size,2,none⟩=some (.int .i64 q):=(hb7.cell (p:=⟨w.heap.size,2,none⟩) yl).trans HY2.out;have vl7:gv<w7.heap.size:=YaK vl hb7.size;have sl7:gs<w7.heap.size:=YaK sl hb7.size;have yl7:w.heap.size<w7.heap.size:=YaK yl hb7.size;have hkk2:kk<k:=by omega
      have HMU:=hid (fun(v:KW w7)=>Zcl d u q v.w HDI.out HUI.out);clear hw7 hb7 hx7 q1 q2 q3 ql lc ll el ec y2 yl vc sc vl sl;go_wp2_with fail;refine ZaK w7 (by kernel_rfl) (by kernel_rfl) (Zag.of (bR0 _ _)) ?_;have KC:=fun(u:KW w7) b o h=>KW.cells u b o h
      repeat (go_big_quiet_step ((go_at_call 159;with_reducible exact ZeB (HMU.out _))))
      refine wpQuiet_nil ?_;rintro w8 ⟨⟨_,k8⟩,rfl⟩
      rename World=>w8
      have HOX8:=hid (Zac HOX.out k8.2.2);have HBX8:=hid (bT0 HBX7.out k8.2.2);have hszz8:=HBX8.out.size;clear b0 b1 b2 bl vc7 sc7 y7 vl7 sl7 yl7 KC k8
      go_wp2_with (at_builtin;go_must (refine Zav ZeL rfl _ _ rfl w3.heap.size (.slice A7 i c7) i (iv ((pls.take i).map (grF q V E))) rfl HOX8.out #[.int .i64 (Zd5 d u q)] _ rfl rfl rfl (ZdY _) (by unfold maxLen;omega) (by omega) hszz8 ?_);go_must (intro A9 c9 w9 hown9 hb9))
      have HO9:=hid (show w9.ownsRow w3.heap.size 2 1 (.slice A9 (i+1) c9) (i+1) (iv ((pls.take (i+1)).map (grF q V E))) by
       rw[HTK.out,Zbq,HGV.out];exact hown9)
      have HB9:=hid (HBX8.out.trans hb9);clear hown9 hb9
      go_roundw
      case rel=>exact⟨i+1,HLT.out,by go_num,A9,c9,⟨rfl,rfl,rfl⟩,(by rw[<-List.map_take];exact HO9.out),HB9.out⟩
      case measure=>simp[intOf];have:=HLT.out;omega
    ·obtain rfl:i=NP:=by omega
     have hb2:Below w2.heap.size w2 wr:=bT0 HBX3.out hb;have HOX:=hid ho;have HBW:=hid (bT0 HB2.out hb2);have HSZ:Hid (w.heap.size<=w3.heap.size):=hid (YaH HB2.out.size HBX3.out.size);clear ho hb hb2;go_wp2_with fail;go_ret;rw[YaX (by rw[HPN.out];exact YaF _)] at HOX;exact⟨A7,c7,rfl,Zae HOX.out HSZ.out,HBW.out⟩
end
theorem Zfg(a b:Int):wrap64 (wrap64 a+b)=wrap64 (a+b):=by unfold wrap64;omega
def sgm(f:Nat->Int):Nat->Int
 |0=>0
 |c+1=>sgm f c+f c
theorem Zhd{f g:Nat->Int}:∀c,(∀i,i<c->f i=g i)->sgm f c=sgm g c
 |0,_=>rfl
 |c+1,h=>by rw[sgm,sgm,Zhd c (fun i hi=>h i (by omega)),h c (by omega)]
theorem Zlp(f:Nat->Int):∀c,sgm f (c+1)=f 0+sgm (fun i=>f (i+1)) c
 |0=>by simp[sgm]
 |c+1=>by rw[sgm,Zlp f c,sgm];omega
theorem Zn6{l P:List Int}{q:Int}{k r:Nat}{x:List Int}(hP:Zaw P):∀c,ZlE l P q k r x c=wrap64 (bsR l P k r+sgm (fun i=>Zd5 (wtR l P k r i) (x.getD i 0) q) c)
 |0=>by
  have h:=getD_in hP (obN l k+r);rw[ZlE,sgm,Int.add_zero];exact(Za6 _ h.1 h.2).symm
 |c+1=>by rw[ZlE,Zn6 hP c,Zfg,sgm];congr 1;omega
theorem Zn7{l P:List Int}{q:Int}{k c:Nat}{d:List Int}:∀r,Zpw l P q k c d r=wrap64 (sgm (fun i=>Zd5 (wtR l P k i c) (d.getD i 0) q) r)
 |0=>by rw[Zpw,sgm];exact(Za6 0 (by omega) (by omega)).symm
 |r+1=>by rw[Zpw,Zn7 r,Zfg,sgm]
theorem Zn8(q:Int):∀(a b:List Int) (s:Int),In1 s->a.length=b.length->Zl1 q a b s=wrap64 (s+sgm (fun i=>Zd5 (a.getD i 0) (b.getD i 0) q) a.length)
 |[],b,s,h,_=>by
  have e:Zl1 q [] b s=s:=by cases b<;>rfl
  rw[e];simp only[List.length_nil,sgm,Int.add_zero];exact(Za6 _ h.1 h.2).symm
 |x::a,[],s,h,hl=>by simp at hl
 |x::a,y::b,s,h,hl=>by
  rw[Zl1,Zn8 q a b _ (ZaZ _) (by simpa using hl),Zfg,List.length_cons,Zlp]
  congr 1
  simp only[List.getD_cons_zero,List.getD_cons_succ];omega
theorem Zn9(q:Int)(a b:List Int)(h:a.length=b.length):Zl2 q a b=wrap64 (sgm (fun i=>Zd5 (a.getD i 0) (b.getD i 0) q) a.length):=by
 rw[Zl2,Zn8 q a b 0 ⟨by decide,by decide⟩ h,Int.zero_add]
theorem Zr2(n:Nat)(F:Nat->Int)(i:Nat)(h:i<n):(ZcK n F).getD i 0=F i:=by
 rw[YaT,Zca n F i h];rfl
theorem Zhe{l:List Int}{n:Nat}{F:Nat->Int}(hl:l.length=n)(h:∀i,i<n->l.getD i 0=F i):l=ZcK n F:=by
 apply List.ext_getElem?
 intro i
 by_cases hi:i<n
 ·rw[Zca n F i hi,YaA (by omega)];have:=h i hi;rw[YaT,YaA (by omega)] at this
  simpa using this
 ·rw[YaN (by omega),YaN (by rw[ZaD];omega)]
theorem Zbt(P:List Int)(o m i:Nat)(h:i<m):((P.drop o).take m).getD i 0=P.getD (o+i) 0:=by
 rw[YaT,YaT,List.getElem?_take,if_pos h,List.getElem?_drop]
section
variable{l:List Int}{n NP:Nat}{P:List Int}{q:Int}
theorem Zvx(hN:NetP l n NP P q){k:Nat}(hk:k<n-1):(wtL l P k).length=szN l (k+1)*szN l k:=by
 have h1:=hN.fit hk;have h2:obN l k=ofN l k+szN l (k+1)*szN l k:=rfl;rw[wtL,List.length_take,List.length_drop,hN.pl];omega
theorem Zvy{R C r c:Nat}(hr:r<R)(hc:c<C):r*C+c<R*C:=by
 have h1:(r+1)*C<=R*C:=YaW _ hr;rw[Nat.succ_mul] at h1;omega
theorem Zvz{k r c:Nat}(hr:r<szN l (k+1))(hc:c<szN l k):(Zd0 (wtL l P k) (szN l k) r).getD c 0=wtR l P k r c:=by
 rw[Zd0,Zbt _ _ _ _ hc,wtL,Zbt _ _ _ _ (Zvy hr hc),wtR,Nat.add_assoc]
theorem Zr3(hN:NetP l n NP P q){k r:Nat}(hk:k<n-1)(hr:r<szN l (k+1)):(Zd0 (wtL l P k) (szN l k) r).length=szN l k:=by
 rw[Zd0,List.length_take,List.length_drop,Zvx hN hk];have h1:(r+1)*szN l k<=szN l (k+1)*szN l k:=YaW _ hr;rw[Nat.succ_mul] at h1;omega
theorem ZwA(hN:NetP l n NP P q){k:Nat}(hk:k<n-1){x:List Int}(hx:x.length=szN l k):ZwV l n P q k x=ZsV l n P q k x:=by
 have hz:∀r,r<szN l (k+1)->(Zpu l P q k x).getD r 0=ZlE l P q k r x (szN l k):=by
  intro r hr;have hm:(Zig (wtL l P k) x q (szN l (k+1)))[r]?=some (Zl2 q (Zd0 (wtL l P k) x.length r) x):=Zca _ _ r hr;rw[Zpu,YaT,Zbh,hm,Option.map_some,Option.getD_some,if_pos (by omega),Nat.sub_zero,hx,Zn9 q _ _ (by rw[Zr3 hN hk hr,hx]),Zr3 hN hk hr,Zfg,Zn6 hN.pin];have hb:(bsL l P k).getD r 0=bsR l P k r:=by rw[bsL,Zbt _ _ _ _ hr,bsR]
  rw[hb,Int.add_comm]
  congr 2
  exact Zhd _ (fun c hc=>by rw[Zvz hr hc])
 symm
 unfold ZsV
 split
 ·rename_i hc
  refine Zhe (by rw[List.length_map,Zcn]) (fun r hr=>?_);have hl:r<(Zpu l P q k x).length:=by rw[Zcn];exact hr
  have h1:=hz r hr;rw[YaT,YaA hl,Option.getD_some] at h1;rw[YaT,YaR,YaA hl,Option.map_some,Option.getD_some,h1,zR,if_pos hc]
 ·rename_i hc
  refine Zhe (Zcn _ _ _ _ _) (fun r hr=>?_);rw[hz r hr,zR,if_neg hc]
theorem ZtP(hN:NetP l n NP P q){x:List Int}(hx:x.length=szN l 0):∀k,k<=n-1->trR l n P q x k=trN l n P q x k
 |0,_=>rfl
 |k+1,h=>by
  rw[trR,trN,ZtP hN hx k (by omega)];exact ZwA hN (by omega) (Zby hx k)
theorem ZtQ{k r c:Nat}(hr:r<szN l (k+1))(hc:c<szN l k):(Zd0 (ZdZ (wtL l P k) (szN l (k+1)) (szN l k)) (szN l (k+1)) c).getD r 0=wtR l P k r c:=by
 have h1:=Zvy hc hr;have h2:0<szN l (k+1):=by omega
 rw[Zd0,Zbt _ _ _ _ hr,ZdZ,Zr2 _ _ _ h1,ZuG];have e1:(c*szN l (k+1)+r)%szN l (k+1)=r:=by rw[Nat.add_comm,Nat.add_mul_mod_self_right,Nat.mod_eq_of_lt hr]
 have e2:(c*szN l (k+1)+r)/szN l (k+1)=c:=by rw[Nat.add_comm,Nat.add_mul_div_right _ _ h2,Nat.div_eq_of_lt hr,Nat.zero_add]
 rw[e1,e2,wtL,Zbt _ _ _ _ (Zvy hr hc),wtR,Nat.add_assoc]
theorem Zoa{k c:Nat}(hc:c<szN l k):(Zd0 (ZdZ (wtL l P k) (szN l (k+1)) (szN l k)) (szN l (k+1)) c).length=szN l (k+1):=by
 rw[Zd0,List.length_take,List.length_drop,ZdZ,ZaD];have h1:(c+1)*szN l (k+1)<=szN l k*szN l (k+1):=YaW _ hc;rw[Nat.succ_mul] at h1;omega
theorem ZwB(hN:NetP l n NP P q){x y:List Int}(hx:x.length=szN l 0):∀j,j<=n-2->erR l n P q (trR l n P q x) y j=dlN l n P q x y j
 |0,_=>by
  rw[erR,dlN,ZvL,ZtP hN hx (n-1) (YaF _)];refine(Zhe (by rw[Zb3,Zby hx]) (fun i hi=>?_)).symm;have hl:i<(trN l n P q x (n-1)).length:=by rw[Zby hx];exact hi
  rw[YaT,Zem,List.getElem?_mapIdx,YaA hl,Option.map_some,Option.getD_some,if_pos hi];have h2:(trN l n P q x (n-1)).getD i 0=(trN l n P q x (n-1))[i]:=by rw[YaT,YaA hl];rfl
  rw[h2]
 |j+1,h=>by
  have ih:=ZwB hN (y:=y) hx j (by omega);have hdl:(dlN l n P q x y j).length=szN l (n-2-j+1):=by rw[ZdQ hx j (by omega)];congr 1;omega
  rw[erR,dlN,ih,ZtP hN hx _ (by omega)];have e1:n-1-j=n-2-j+1:=by omega
  rw[e1];generalize hk:n-2-j=k at hdl ⊢;have hkn:k<n-1:=by omega
  generalize hd:dlN l n P q x y j=d at hdl ⊢;refine(Zhe (by rw[ZbF,Zig,ZaD]) (fun c hc=>?_)).symm;have hm:(Zig (ZdZ (wtL l P k) (szN l (k+1)) (szN l k)) d q (szN l k))[c]?=some (Zl2 q (Zd0 (ZdZ (wtL l P k) (szN l (k+1)) (szN l k)) d.length c) d):=Zca _ _ c hc;rw[Zco,YaT,List.getElem?_mapIdx,hm,Option.map_some,Option.getD_some,if_pos hc,erF,hdl,Zn7,Zn9 q _ _ (by rw[Zoa hc,hdl]),Zoa hc]
  congr 2
  exact Zhd _ (fun r hr=>by rw[ZtQ hr hc])
theorem Zlq(F:Nat->Int)(C:Nat)(G:Nat->Nat->Int):∀R,(∀r c,r<R->c<C->F (r*C+c)=G r c)->((List.range R).flatMap fun r=>(List.range C).map (G r))=ZcK (R*C) F
 |0,_=>by simp[ZcK]
 |R+1,h=>by
  rw[List.range_succ,List.flatMap_append,Zlq F C G R (fun r c hr hc=>h r c (by omega) hc),List.flatMap_singleton];unfold ZcK;rw[Nat.succ_mul,List.range_add,List.map_append,List.map_map]
  congr 1
  exact List.map_congr_left (fun c hc=>(h R c (by omega) (List.mem_range.1 hc)).symm)
theorem ZvA(hN:NetP l n NP P q){x y:List Int}(hx:x.length=szN l 0){k:Nat}(hk:k<n-1) :
  ((Zn3 k (szN l (k+1)) (szN l k)++Zn4 k (szN l (k+1))).map (grF q (trR l n P q x) (erE l n P q (trR l n P q x) y)))=sgN l n P q x y (n-2-k):=by
 have hE:erE l n P q (trR l n P q x) y (k+1)=dlN l n P q x y (n-2-k):=by
  rw[erE,show n-1-(k+1)=n-2-k by omega];exact ZwB hN hx _ (by omega)
 have hV:=ZtP hN hx k (by omega);have hdl:(dlN l n P q x y (n-2-k)).length=szN l (k+1):=by rw[ZdQ hx _ (by omega)];congr 1;omega
 rw[List.map_append,sgN,show n-2-(n-2-k)=k by omega]
 congr 1
 ·rw[Zn3,List.map_flatMap,ZlY,hdl,Zby hx];have:=Zlq (Zp2 (dlN l n P q x y (n-2-k)) (trN l n P q x k) q) (szN l k) (fun r c=>grF q (trR l n P q x) (erE l n P q (trR l n P q x) y) ((k:Int),(r:Int),(c:Int))) (szN l (k+1)) (fun r c hr hc=>by
   have h2:0<szN l k:=by omega
   have e1:(r*szN l k+c)%szN l k=c:=by rw[Nat.add_comm,Nat.add_mul_mod_self_right,Nat.mod_eq_of_lt hc]
   have e2:(r*szN l k+c)/szN l k=r:=by rw[Nat.add_comm,Nat.add_mul_div_right _ _ h2,Nat.div_eq_of_lt hc,Nat.zero_add]
   rw[Zp2,Zby hx,e1,e2,grF,if_pos (show (0:Int)<=(c:Int) by omega)];simp only[Int.toNat_natCast];rw[hE,hV])
  rw[<-this]
  congr 1
  funext r
  rw[Zn2,List.map_map];rfl
 ·rw[Zn4,List.map_map]
  symm
  refine Zhe hdl (fun r hr=>?_)
  show _=grF q (trR l n P q x) (erE l n P q (trR l n P q x) y) ((k:Int),(r:Int),(-1:Int))
  rw[grF,if_neg (show ¬(0:Int)<=-1 by decide)];simp only[Int.toNat_natCast];rw[hE]
theorem ZiK(hN:NetP l n NP P q){x y:List Int}(hx:x.length=szN l 0):∀K,K<=n-1->((Zll l K).map (grF q (trR l n P q x) (erE l n P q (trR l n P q x) y)))++grT l n P q x y (n-1-K)=Zkt l n P q x y
 |0,_=>rfl
 |K+1,h=>by
  rw[<-ZiK hN hx K (by omega),Zll,YaY (Zll l K),List.map_append,ZvA hN hx (by omega),YaY]
  congr 1
  rw[show n-1-K=(n-2-K)+1 by omega,grT,show n-1-(K+1)=n-2-K by omega]
theorem ZtR(hN:NetP l n NP P q){x y:List Int}(hx:x.length=szN l 0):Zlo l n P q x y=Zkt l n P q x y:=by
 have:=ZiK (y:=y) hN hx (n-1) (YaF _);rw[Nat.sub_self,grT,List.append_nil] at this;exact this
end
abbrev ZtS(I:InC):Value:=inV I.A I.n I.cap I.c I.S I.m I.cS I.AP I.P I.cP I.AD I.D I.cD
abbrev Zr4(I:InC):Array Value:=inC I.A I.n I.cap I.c I.S I.m I.cS I.AP I.P I.cP I.AD I.D I.cD
theorem Zlr(I:InC)(Ap:Option Addr)(NP cp:Nat)(w:World) :
  Calls prog 91 #[ZtS I,.slice Ap NP cp] w fun e w'=>e=.returned (Zd2 I.A I.n I.cap Ap NP cp I.c.sh)/\Bz0 w w':=by
 have HG:Hid (∀W,(w.alloc (.cells (Zr4 I) 29)).alloc (.cells #[.slice none 0 0,.slice none 0 0,.int .i64 0] 202)=W->Below w.heap.size w W/\Blk W w.heap.size 29 (Zr4 I)/\Blk W (w.heap.size+1) 202 #[.slice none 0 0,.slice none 0 0,.int .i64 0]):=hid (by
  rintro W rfl;exact⟨(bA0 _).alloc (by simp) _,(Blk.new _ _ _).alloc _,Blk.new' _ _ (by simp)⟩)
 go_enter func91,ntmps91
 go_wp2_with fail;refine bodyPost_ret (results_cell_row rfl _ _ (w.heap.size+1) _ _ (0,0) _ rfl (Blk.new' _ _ (by simp)) underlying202 rfl (by kernel_rfl)) rfl ?_;exact⟨rfl,(bA0 _).alloc (by simp) _⟩
def Zfi(B:Nat)(rn:Value)(sv:Value)(g z:List Int)(j:Nat)(v:Value)(w:World):Prop:=
 (j=3->v=rn)/\(j=16->∃A c,v=.slice A g.length c/\Rd w 1 A g.length (iv g)) /\
 (j=17->∃b A c,v=.slice (some ⟨b,0,none⟩) 2 2/\Rd w 1 (some ⟨b,0,none⟩) 2 [sv,.slice A g.length c]/\Rd w 1 A g.length (iv g)) /\
 ((j=18\/j=19)->∃A c,v=.tuple #[.slice A z.length c,.bool true]/\w.ownsRow B 2 1 (.slice A z.length c) z.length (iv z)) /\
 ((j=20\/j=22)->∃A c,v=.slice A z.length c/\w.ownsRow B 2 1 (.slice A z.length c) z.length (iv z))
theorem Zfi.below{B:Nat}{rn sv:Value}{g z:List Int}{j:Nat}{v:Value}{w w':World}(h:Zfi B rn sv g z j v w)(hb:Below w.heap.size w w'):Zfi B rn sv g z j v w':=by
 obtain⟨h1,h2,h3,h4,h5⟩:=h;refine⟨h1,fun e=>?_,fun e=>?_,fun e=>?_,fun e=>?_⟩
 ·obtain⟨A,c,a,b⟩:=h2 e;exact⟨A,c,a,b.below hb⟩
 ·obtain⟨b,A,c,a1,a2,a3⟩:=h3 e;exact⟨b,A,c,a1,a2.below hb,a3.below hb⟩
 ·obtain⟨A,c,a,b⟩:=h4 e;exact⟨A,c,a,Zac b hb⟩
 ·obtain⟨A,c,a,b⟩:=h5 e;exact⟨A,c,a,Zac b hb⟩
section
variable{B:Nat}{rn sv:Value}{g z:List Int}{w:World}
theorem Zfi.m3:Zfi B rn sv g z 3 rn w:=⟨fun _=>rfl,fun e=>(by cases e),fun e=>(by cases e),fun e=>by omega,fun e=>by omega⟩
theorem Zfi.m16{A:Option Addr}{c:Nat}(h:Rd w 1 A g.length (iv g)):Zfi B rn sv g z 16 (.slice A g.length c) w:=⟨fun e=>(by cases e),fun _=>⟨A,c,rfl,h⟩,fun e=>(by cases e),fun e=>by omega,fun e=>by omega⟩
theorem Zfi.m17{b:Nat}{A:Option Addr}{c:Nat}(h:Rd w 1 (some ⟨b,0,none⟩) 2 [sv,.slice A g.length c])(h2:Rd w 1 A g.length (iv g)):Zfi B rn sv g z 17 (.slice (some ⟨b,0,none⟩) 2 2) w:=⟨fun e=>(by cases e),fun e=>(by cases e),fun _=>⟨b,A,c,rfl,h,h2⟩,fun e=>by omega,fun e=>by omega⟩
theorem Zfi.m18{A:Option Addr}{c:Nat}(h:w.ownsRow B 2 1 (.slice A z.length c) z.length (iv z)):Zfi B rn sv g z 18 (.tuple #[.slice A z.length c,.bool true]) w:=⟨fun e=>(by cases e),fun e=>(by cases e),fun e=>(by cases e),fun _=>⟨A,c,rfl,h⟩,fun e=>by omega⟩
theorem Zfi.m19{A:Option Addr}{c:Nat}(h:w.ownsRow B 2 1 (.slice A z.length c) z.length (iv z)):Zfi B rn sv g z 19 (.tuple #[.slice A z.length c,.bool true]) w:=⟨fun e=>(by cases e),fun e=>(by cases e),fun e=>(by cases e),fun _=>⟨A,c,rfl,h⟩,fun e=>by omega⟩
theorem Zfi.m20{A:Option Addr}{c:Nat}(h:w.ownsRow B 2 1 (.slice A z.length c) z.length (iv z)):Zfi B rn sv g z 20 (.slice A z.length c) w:=⟨fun e=>(by cases e),fun e=>(by cases e),fun e=>(by cases e),fun e=>by omega,fun _=>⟨A,c,rfl,h⟩⟩
theorem Zfi.m22{A:Option Addr}{c:Nat}(h:w.ownsRow B 2 1 (.slice A z.length c) z.length (iv z)):Zfi B rn sv g z 22 (.slice A z.length c) w:=⟨fun e=>(by cases e),fun e=>(by cases e),fun e=>(by cases e),fun e=>by omega,fun _=>⟨A,c,rfl,h⟩⟩
theorem Zfi.m21{v:Value}:Zfi B rn sv g z 21 v w:=⟨fun e=>(by cases e),fun e=>(by cases e),fun e=>(by cases e),fun e=>by omega,fun e=>by omega⟩
end
theorem Zm6{K:MC}{P G:List Int}(h:Zaw G)(l:List Int):Zaw (ZcP K P G l):=by
 induction l generalizing G with
 |nil=>exact h
 |cons i l ih=>
  rw[ZcP,List.foldl_cons];refine ih (G:=ZbK G 0 (exG K P i) K.NP) (fun v hv=>?_);obtain⟨j,hj⟩:=List.getElem?_of_mem hv;rw[Zbh] at hj;obtain⟨u,hu,rfl⟩:=Option.map_eq_some_iff.1 hj
  split
  ·exact ZaZ _
  ·exact h u (YaL hu)
theorem ZvB{w:World}{b:Nat}{t:TypeId}{x y:Value}(h:Blk w b t #[x,y]):Rd w 1 (some ⟨b,0,none⟩) 2 [x,y]:=⟨rfl,fun _=>⟨b,0,rfl,h.lt,fun j u hu=>by
 rw[Nat.zero_add,h.cell]
 simpa using hu⟩⟩
theorem ZjU(I:InC)(Ap:Option Addr)(cp:Nat)(Ps:List Int)(X:Option Addr)(nI cX:Nat)(mic:List Int)(w:World)(hI:ZmD w I)(hO:I.Ok)(hpl:Ps.length=I.P)(hpi:Zaw Ps)(hrp:Rd w 1 Ap I.P (iv Ps))(hml:mic.length=nI)(hn:nI<=1000)(hx:Rd w 1 X nI (iv mic))(hin:∀x∈mic,0<=x/\x<(I.m:Int)) :
  Calls prog 26 #[ZtS I,.slice Ap I.P cp,.slice X nI cX] w fun e w'=>∃A c,e=.returned (.tuple #[.slice A I.P c,.bool true])/\w'.ownsRow w.heap.size 2 1 (.slice A I.P c) I.P (iv (ZcP (I.mc 0) Ps (Zas I.P) mic))/\Bz0 w w':=by
 have hK:=hO.mc (x:=0) (by have:=hO.nums.wk;omega);have hNP:=hK.net hpl hpi;have hP1:I.P<=60:=hO.P60;have HG:Hid (∀W,w.alloc (.cells (Zr4 I) 29)=W->Below w.heap.size w W/\Blk W w.heap.size 29 (Zr4 I)):=hid (by
  rintro W rfl;exact⟨bA0 _,Blk.new _ _ _⟩)
 have HI:=hid hI;have HO:=hid hO;have HK:=hid hK;have HN:=hid hNP;have HPI:=hid hpi;have HRP:=hid hrp;have HML:=hid hml;have HX:=hid hx;have HIN:=hid hin;have m60:=hO.m60;clear hI hO hK hNP hpi hpl hrp hml hx hin;have hmk:=fun W=>run_make_row' (P:=prog) 26 2 (.int .i64 0) 8 underlying26 ZeL.info rfl .i64 .i64 I.P (by omega) (by omega) W
 go_enter func26,ntmps26
 go_wp2_with fail;obtain⟨w0,hw0⟩:∃w0,w.alloc (.cells (Zr4 I) 29)=w0:=⟨_,rfl⟩;obtain⟨hB,hI⟩:=HG.out _ hw0;have hs0:w0.heap.size=w.heap.size+1:=by rw[<-hw0];simp
 rw[hw0];obtain⟨w1,hw1⟩:∃w1,w0.alloc (.cells (madeCells #[Value.int .i64 0] I.P) 2)=w1:=⟨_,rfl⟩;have hb1:Below w0.heap.size w0 w1:=by rw[<-hw1];exact bA0 _
 have ho1:w1.ownsRow w.heap.size 2 1 (.slice (some ⟨w0.heap.size,0,none⟩) I.P I.P) I.P (iv (Zas I.P)):=by rw[<-hw1];exact Zgf w0 I.P w0.heap.size _ _ rfl (by omega) (by omega)
 rw[hw1];have HB1:=hid (bT0 hB hb1);have HI1:=hid (hI.kept hb1);have HO1:=hid ho1;rw[hs0] at HO1;clear hmk hw0 hw1 hB hI hb1 ho1 HG hs0
 go_loopw [8,9] (fun o v wr=>∃(i:Nat) (A:Option Addr) (c:Nat),i<=nI/\v=.int .i64 i/\o=.slice A I.P c/\wr.ownsRow w.heap.size 2 1 (.slice A I.P c) I.P (iv (ZcP (I.mc 0) Ps (Zas I.P) (mic.take i)))/\Bz0 w wr/\Blk wr w.heap.size 29 (Zr4 I)) (fun _ v _=>nI-(intOf v).toNat)
 case atStart=>exact⟨0,_,_,by omega,rfl,rfl,HO1.out,HB1.out,HI1.out⟩
 case round=>
  obtain⟨i,A,c,hi,rfl,rfl,ho,hb,hin⟩:=hrel
  by_cases hlt:i<nI
  ·obtain⟨xi,hxi⟩:∃x,mic[i]?=some x:=⟨_,YaA (by rw[HML.out];exact hlt)⟩;obtain⟨gx,ox,rfl,xl,xc⟩:=Zhb (HX.out.below hb) hlt;have hxd:mic.getD i 0=xi:=by rw[YaT,hxi];rfl
   rw[hxd] at xc;obtain⟨p0,p1⟩:=HIN.out xi (YaL hxi);obtain⟨k,rfl⟩:∃k:Nat,xi=k:=⟨xi.toNat,by omega⟩;have hkm:k<I.m:=by omega
   have hIr:=HI.out.below hb;obtain⟨⟨A1,c1,A2,c2⟩,hs⟩:∃s,I.es[k]?=some s:=⟨_,YaA (by rw[HI.out.el];exact hkm)⟩;obtain⟨b5,o5,hbS,l5,q0,q1⟩:=ZgN hIr.re hs hkm;dsimp only at q0 q1;obtain⟨r1,r2⟩:=hIr.rs k _ hs;dsimp only at r1 r2;obtain⟨fx,fy⟩:=HO.out.fl k hkm;have fi:=HO.out.fi k hkm;obtain⟨g,hg⟩:∃g,exG (I.mc 0) Ps (k:Int)=g:=⟨_,rfl⟩;have hgg:Zlo I.l I.n Ps I.c.sh (I.f (k+1)).1 (I.f (k+1)).2=g:=by
    rw[<-hg,exG,Int.toNat_natCast];exact ZtR HN.out (by rw[fx,HO.out.hN];rfl)
   have hgl:g.length=I.P:=by rw[<-hg];exact ZfK HN.out (by rw[Int.toNat_natCast];exact fx.trans HO.out.hN)
   have hgi:Zaw g:=by rw[<-hg];exact Zs4 (by rw[Int.toNat_natCast];exact fi)
   obtain⟨a,ha⟩:∃a,ZcP (I.mc 0) Ps (Zas I.P) (mic.take i)=a:=⟨_,rfl⟩;rw[ha] at ho;have hal:a.length=I.P:=by rw[<-ha,Zcr];simp
   have HACC:Hid (ZcP (I.mc 0) Ps (Zas I.P) (mic.take (i+1))=addL a g):=hid (by
    rw[List.take_add_one,hxi,Option.toList_some,Zk1,ha,hg];exact ZpZ a g _ hal)
   have hgr:=fun W (kk:Zag wr W)=>Zm5 I.A I.n I.cap I.l Ap I.P cp Ps I.c.sh W I.N c1 I.M c2 A1 A2 (I.f (k+1)).1 (I.f (k+1)).2 ⟨HN.out,hIr.rl.below kk.2.2,HI.out.cap,(HRP.out.below hb).below kk.2.2⟩ HO.out.hN fx (r1.below kk.2.2) fi HO.out.hM (r2.below kk.2.2)
   rw[hgg] at hgr;have HGR:=hid hgr;have HO2:=hid ho;have HB2:=hid hb;have HI2:=hid hin;have HGL:=hid hgl;have HGI:=hid hgi;have HAL:=hid hal;have HAI:Hid (Zaw a):=hid (by
    rw[<-ha];exact Zm6 (by intro x hx;simp at hx;obtain⟨_,rfl⟩:=hx;exact⟨by decide,by decide⟩) _)
   have HLT:=hid hlt;have y12:=cv12 hin;have yl:=hin.lt;have d1:decide ((k:Int)<0)=false:=YaI (by omega);have d2:decide ((I.m:Int)<=(k:Int))=false:=YaI (by omega);have r3:(i:Int)<(nI:Int):=by omega
   clear ho hb hin hxi hxd hs r1 r2 fx fy fi hg hgg hgl hgi ha hal hgr hIr hlt p0 p1;go_wp2_with fail;refine ZaY (Zag wr) (Zfi w.heap.size (Zd2 I.A I.n I.cap Ap I.P cp I.c.sh) (.slice A I.P c) g (addL a g)) (fun _ _ _ _=>True) [0,1,2,4,5,6,7,8,9,10,11,12,13,14,15] [3,16,17,18,19,20,21,22] [] (by kernel_rfl) (by kernel_rfl) (Zag.start wr) (fun _ _ _ _ h=>h) (fun _ _ _ _ h hb=>h.below hb) ?_;simp only[YaO,YaP,YaB,YaC];obtain⟨y0,y1,y2,y3,y4,y5,y6,y7,y8,y9,y10,y11⟩:=cl12 HI2.out;have y13:=cv13 HI2.out;have y14:=cv14 HI2.out;refine Zaa (.slice A I.P c) rfl (fun W hW=>?_) ?_
   ·obtain⟨hc,-,-⟩:=hW;go_simp
   go_simp;refine Zaa (ZtS I) rfl (fun W hW=>?_) ?_
   ·obtain⟨hc,-,-⟩:=hW;go_simp
   go_simp;refine Zaa (.slice Ap I.P cp) rfl (fun W hW=>?_) ?_
   ·obtain⟨hc,-,-⟩:=hW;go_simp
   go_simp;refine Zaa (.pointer (some ⟨w.heap.size,12,none⟩)) rfl (fun W hW=>?_) ?_
   ·obtain⟨hc,-,-⟩:=hW;go_simp
   go_simp;refine Zaa (.slice (some ⟨b5,o5,none⟩) I.m I.cS) rfl (fun W hW=>?_) ?_
   ·obtain⟨hc,-,-⟩:=hW;go_simp
   go_simp;refine Zaa (.int .i64 k) rfl (fun W hW=>?_) ?_
   ·obtain⟨hc,-,-⟩:=hW;go_simp
   go_simp;refine Zaa (.pointer (some ⟨b5,o5+k*2,none⟩)) rfl (fun W hW=>?_) ?_
   ·obtain⟨hc,-,-⟩:=hW;go_simp
   go_simp;refine Zaa (.pointer (some ⟨b5,o5+k*2,none⟩)) rfl (fun W hW=>?_) ?_
   ·obtain⟨hc,-,-⟩:=hW;go_simp
   go_simp;refine Zaa (.slice A1 I.N c1) rfl (fun W hW=>?_) ?_
   ·obtain⟨hc,-,-⟩:=hW;go_simp
   go_simp;refine Zaa (.pointer (some ⟨w.heap.size,12,none⟩)) rfl (fun W hW=>?_) ?_
   ·obtain⟨hc,-,-⟩:=hW;go_simp
   go_simp;refine Zaa (.slice (some ⟨b5,o5,none⟩) I.m I.cS) rfl (fun W hW=>?_) ?_
   ·obtain⟨hc,-,-⟩:=hW;go_simp
   go_simp;refine Zaa (.int .i64 k) rfl (fun W hW=>?_) ?_
   ·obtain⟨hc,-,-⟩:=hW;go_simp
   go_simp;refine Zaa (.pointer (some ⟨b5,o5+k*2,none⟩)) rfl (fun W hW=>?_) ?_
   ·obtain⟨hc,-,-⟩:=hW;go_simp
   go_simp;refine Zaa (.pointer (some ⟨b5,o5+k*2+1,none⟩)) rfl (fun W hW=>?_) ?_
   ·obtain⟨hc,-,-⟩:=hW;go_simp
   go_simp;refine Zaa (.slice A2 I.M c2) rfl (fun W hW=>?_) ?_
   ·obtain⟨hc,-,-⟩:=hW;go_simp
   go_simp;refine Zeh.mk ?_ ?_
   ·intro j8 hj8 o ho8 vs W hS hV;simp only[List.mem_cons,List.not_mem_nil,or_false] at hj8;have HS:=hid hS;have HV:=hid hV;have HBW:=hid (bT0 HB2.out hS.2.2);clear hS hV
    rcases hj8 with rfl|rfl|rfl|rfl|rfl|rfl|rfl|rfl
    ·cases ho8
     unfold Zbl;simp only[ZaL,ZaT,YaD,YaB,YaC,YaE];change wpList _ _ _ (_::[]) _ _;go_wp2_with fail;((with_reducible refine(Zlr I Ap I.P cp W).mono ?_);rintro e w8 ⟨rfl,hb8⟩);go_wp2_with fail;exact⟨HS.out.call hb8,Zfi.m3⟩
    ·have v3:=(HV.out 3 (by simp) (by kernel_rfl)).1 rfl
     cases ho8
     unfold Zbl;simp only[ZaL,ZaT,YaD,YaB,YaC,YaE];rw[v3];change wpList _ _ _ (_::[]) _ _;go_wp2_with fail;((with_reducible refine(HGR.out W HS.out).mono ?_);rintro e w8 ⟨A8,c8,rfl,ho8,hb8⟩);have hr8:Rd w8 1 A8 g.length (iv g):=by rw[HGL.out];exact Rd.of_own ho8
     have HR8:=hid hr8;have HGL2:=HGL.out;clear hr8 ho8;go_wp2_with fail;have h16:=Zfi.m16 (B:=w.heap.size) (rn:=Zd2 I.A I.n I.cap Ap I.P cp I.c.sh) (sv:=.slice A I.P c) (z:=addL a g) (c:=c8) HR8.out;rw[HGL.out] at h16;exact⟨HS.out.call hb8,h16⟩
    ·obtain⟨A8,c8,v16,r16⟩:=(HV.out 16 (by simp) (by kernel_rfl)).2.1 rfl;have R16:=hid r16
     cases ho8
     unfold Zbl;simp only[ZaL,ZaT,YaD,YaB,YaC,YaE];rw[v16];clear r16;change wpList _ _ _ (_::[]) _ _;go_wp2_with fail;exact⟨HS.out.alloc _,Zfi.m17 (ZvB (Blk.new _ _ _)) (R16.out.below (bA0 _)),bA0 _⟩
    ·obtain⟨b8,A8,c8,v17,r17,r16⟩:=(HV.out 17 (by simp) (by kernel_rfl)).2.2.1 rfl;have R17:=hid r17;have R16:=hid r16
     cases ho8
     unfold Zbl;simp only[ZaL,ZaT,YaD,YaB,YaC,YaE];rw[v17];clear r16 r17;have hsl:ZvI [a,g]=some (addL a g):=by
      rw[ZvI,ZbM,if_pos (by rw[HGL.out,HAL.out]),ZbM]
     have hsr:=Zac HO2.out HS.out.2.2;have C:=Zoo (some ⟨b8,0,none⟩) 2 2 [(A,I.P,c),(A8,g.length,c8)] [a,g] W rfl (by omega) (by omega) R17.out ⟨rfl,fun i s z h1 h2=>by
      rcases i with _|_|i
      ·obtain rfl:(A,I.P,c)=s:=by simpa using h1
       obtain rfl:a=z:=by simpa using h2
       exact⟨HAL.out,Rd.of_own hsr⟩
      ·obtain rfl:(A8,g.length,c8)=s:=by simpa using h1
       obtain rfl:g=z:=by simpa using h2
       exact⟨rfl,R16.out⟩
      ·simp at h1⟩ (fun z hz=>by
       simp at hz
       rcases hz with rfl|rfl
       ·rw[HAL.out];omega
       ·rw[HGL.out];omega) (fun z hz x hx=>by
       simp at hz
       rcases hz with rfl|rfl
       ·exact HAI.out x hx
       ·exact HGI.out x hx)
     rw[hsl] at C;have HC:=hid C;clear C hsl hsr;change wpList _ _ _ (_::[]) _ _;go_wp2_with fail;((with_reducible refine HC.out.mono ?_);rintro e w8 ⟨A9,c9,rfl,ho9,hb9⟩);have HO9:=hid (Zae ho9 HBW.out.size);clear ho9;go_wp2_with fail;exact⟨HS.out.call hb9,Zfi.m18 HO9.out⟩
    ·obtain⟨A9,c9,v18,r18⟩:=(HV.out 18 (by simp) (by kernel_rfl)).2.2.2.1 (.inl rfl);have R18:=hid r18
     cases ho8
     unfold Zbl;simp only[ZaL,ZaT,YaD,YaB,YaC,YaE];rw[v18];clear r18;change wpList _ _ _ (_::[]) _ _;go_wp2_with fail;exact⟨HS.out,Zfi.m19 R18.out,bR0 _ _⟩
    ·obtain⟨A9,c9,v18,r18⟩:=(HV.out 19 (by simp) (by kernel_rfl)).2.2.2.1 (.inr rfl);have R18:=hid r18
     cases ho8
     unfold Zbl;simp only[ZaL,ZaT,YaD,YaB,YaC,YaE];rw[v18];clear r18;change wpList _ _ _ (_::[]) _ _;go_wp2_with fail;exact⟨HS.out,Zfi.m20 R18.out,bR0 _ _⟩
    ·obtain⟨A9,c9,v18,r18⟩:=(HV.out 19 (by simp) (by kernel_rfl)).2.2.2.1 (.inr rfl)
     cases ho8
     unfold Zbl;simp only[ZaL,ZaT,YaD,YaB,YaC,YaE];rw[v18];clear r18;change wpList _ _ _ (_::[]) _ _;go_wp2_with fail;exact⟨HS.out,Zfi.m21,bR0 _ _⟩
    ·obtain⟨A9,c9,v20,r20⟩:=(HV.out 20 (by simp) (by kernel_rfl)).2.2.2.2 (.inl rfl);have R20:=hid r20
     cases ho8
     unfold Zbl;simp only[ZaL,ZaT,YaD,YaB,YaC,YaE];rw[v20];clear r20;change wpList _ _ _ (_::[]) _ _;go_wp2_with fail;exact⟨HS.out,Zfi.m22 R20.out,bR0 _ _⟩
   ·intro vs W hS hV hR;obtain⟨A9,c9,v20,r20⟩:=(hV 22 (by simp)).2.2.2.2 (.inr rfl);simp only[ZaL,ZaT,YaO,YaP,YaD,YaB,YaC,YaE];rw[v20];have hal2:(addL a g).length=I.P:=by rw[Zgw,HAL.out]
    rw[hal2] at r20 ⊢;have HO9:=hid r20;have HB9:=hid (bT0 HB2.out hS.2.2);have HI9:=hid (HI2.out.kept hS.2.2);clear hS hV hR v20 r20;unfold wpList;refine NoPanic.normal ?_;go_wp2_with fail
    go_roundw
    case rel=>exact⟨i+1,A9,c9,HLT.out,by go_num,rfl,by rw[HACC.out];exact HO9.out,HB9.out,HI9.out⟩
    case measure=>simp[intOf];have:=HLT.out;omega
  ·obtain rfl:i=nI:=by omega
   rw[YaX (by rw[HML.out];exact YaF _)] at ho;have HO2:=hid ho;have HB2:=hid hb;clear ho hb hin;go_wp2_with fail
   go_ret2
   exact⟨A,c,rfl,HO2.out,HB2.out⟩
theorem ZwC(w:World)(t:TypeId)(vs:Array Value)(size n:Nat)(hl:vs.toList.length=n*size):Rd (w.alloc (.cells vs t)) size (some ⟨w.heap.size,0,none⟩) n vs.toList:=by
 refine⟨hl,fun hn=>⟨_,0,rfl,by simp,fun j u hu=>?_⟩⟩;rw[Nat.zero_add,(Blk.new w t vs).cell j]
 simpa using hu
def Zpl:Cfg:={ sh:=1,ra:=1,mo:=1,wk:=2,ba:=2,mi:=1,st:=1,bu:=2,ch:=1,wi:=1,ca:=1 }
def smF:Nat->List Int×List Int:=fun i=>[([2],[6]),([4],[2])].getD (i-1) ([],[])
def smI(A:Option Addr)(cap:Nat)(S:Option Addr)(cS:Nat)(es:List StS)(AP:Option Addr)(cP:Nat)(AD:Option Addr)(cD:Nat):InC:=
 { A:=A,n:=2,cap:=cap,l:=[1,1],c:=Zpl,S:=S,m:=2,cS:=cS,es:=es,N:=1,M:=1,f:=smF,AP:=AP,P:=2,cP:=cP,P0:=[4,2],AD:=AD,D:=2,cD:=cD,L:=[1,0] }
theorem ZfA{W:World}{g:Nat}{t:TypeId}{vs:Array Value}{size n:Nat}{xs:List Value}(h:W.heap.size=g)(hx:vs.toList=xs)(hl:xs.length=n*size):Rd (W.alloc (.cells vs t)) size (some ⟨g,0,none⟩) n xs:=by
 subst h hx;exact ZwC W t vs size n hl
def ZtT(w:World)(e:Ending)(w':World):Prop:=∃A cap S cS es AP cP AD cD,e=.returned (inV A 2 cap Zpl S 2 cS AP 2 cP AD 2 cD)/\es.length=2/\ZmD w' (smI A cap S cS es AP cP AD cD)/\Bz0 w w'
theorem Zr5(w:World):Calls prog 31 #[] w (ZtT w):=by
 go_enter func31,ntmps31
 go_wp2_with fail
 (try simp only[Exit.inBlock,Exit.then])
 refine bodyPost_ret (results_cell_row rfl _ _ w.heap.size _ _ (0,0) _ rfl (Blk.alloc (Blk.alloc (Blk.alloc (Blk.alloc (Blk.alloc (Blk.alloc (Blk.alloc (Blk.alloc (Blk.alloc (Blk.new _ _ _) _) _) _) _) _) _) _) _) _) underlying29 rfl (by kernel_rfl)) rfl ?_;refine⟨some ⟨w.heap.size+1,0,none⟩,2,some ⟨w.heap.size+1+1+1+1+1+1+1,0,none⟩,2,[(some ⟨w.heap.size+1+1+1,0,none⟩,1,some ⟨w.heap.size+1+1+1+1,0,none⟩,1),(some ⟨w.heap.size+1+1+1+1+1,0,none⟩,1,some ⟨w.heap.size+1+1+1+1+1+1,0,none⟩,1)],some ⟨w.heap.size+1+1+1+1+1+1+1+1,0,none⟩,2,some ⟨w.heap.size+1+1+1+1+1+1+1+1+1,0,none⟩,2,rfl,rfl,⟨rfl,?_,(by decide:(2:Nat)<=2),rfl,?_,?_,rfl,?_,rfl,?_⟩,?_⟩
 ·repeat' first|(refine ZfA ?_ rfl rfl;(simp;done))|refine Rd.alloc ?_ _
 ·repeat' first|(refine ZfA ?_ rfl rfl;(simp;done))|refine Rd.alloc ?_ _
 ·intro i s hs
  match i,hs with
  |0,hs=>
   injection hs with hs
   subst hs;refine⟨?_,?_⟩<;>repeat' first|(refine ZfA ?_ rfl rfl;(simp;done))|refine Rd.alloc ?_ _
  |1,hs=>
   injection hs with hs
   subst hs;refine⟨?_,?_⟩<;>repeat' first|(refine ZfA ?_ rfl rfl;(simp;done))|refine Rd.alloc ?_ _
  |i+2,hs=>simp[smI] at hs
 ·repeat' first|(refine ZfA ?_ rfl rfl;(simp;done))|refine Rd.alloc ?_ _
 ·repeat' first|(refine ZfA ?_ rfl rfl;(simp;done))|refine Rd.alloc ?_ _
 ·repeat' first|exact bR0 _ _|refine Below.alloc ?_ (by simp<;>omega) _
theorem ZwD(A:Option Addr)(cap:Nat)(S:Option Addr)(cS:Nat)(es:List StS)(AP:Option Addr)(cP:Nat)(AD:Option Addr)(cD:Nat)(h:es.length=2):(smI A cap S cS es AP cP AD cD).Ok:=by
 obtain⟨⟨A1,c1,B1,d1⟩,⟨A2,c2,B2,d2⟩,rfl⟩:∃a b,es=[a,b]:=by
  match es,h with
  |[a,b],_=>exact⟨a,b,rfl⟩
 refine⟨by kernel_rfl,rfl,rfl,rfl,by kernel_rfl,by kernel_rfl,?_,?_,(by decide:(2:Nat)<=60),(by decide:(1:Int)<=12),(by decide:(2:Nat)<=60),(by decide:(2:Int)<=8),(by decide:(1:Int)<=20),(by decide:(2:Nat)<=4000),?_,?_,(by decide:In1 1),(by decide:In1 1)⟩
 ·intro i hi
  match i,hi with
  |0,_=>exact⟨rfl,rfl⟩
  |1,_=>exact⟨rfl,rfl⟩
  |i+2,hi=>exact absurd hi (by show ¬i+2<2;omega)
 ·intro i hi
  match i,hi with
  |0,_=>intro x hx;simp[smI,smF] at hx;subst hx;decide
  |1,_=>intro x hx;simp[smI,smF] at hx;subst hx;decide
  |i+2,hi=>exact absurd hi (by show ¬i+2<2;omega)
 ·intro x hx;simp[smI] at hx
  rcases hx with rfl|rfl<;>decide
 ·intro x hx;simp[smI] at hx
  rcases hx with rfl|rfl<;>decide
