/- Lemmas. -/
import Derived.Test.YtkmaeipoaoikpaaGreatEC24
namespace Go.Proofs.YtkmaeipoaoikpaaGreat
set_option linter.all false
set_option maxRecDepth 100000
set_option maxHeartbeats 4000000
open Lib (hid)
open Go.RowKit
open Tryz
def ZpE(l P:List Int)(q:Int)(k c:Nat)(d:List Int):Nat->Int
 |0=>0
 |r+1=>wrap64 (ZpE l P q k c d r+Zeb (wtR l P k r c) (d.getD r 0) q)
def erF(l P:List Int)(q:Int)(k:Nat)(v d:List Int)(c:Nat):Int:=Zb4 (v.getD c 0) (ZpE l P q k c d d.length)
def erR(l:List Int)(n:Nat)(P:List Int)(q:Int)(V:Nat->List Int)(y:List Int):Nat->List Int
 |0=>ZcN (szN l (n-1)) fun i=>wrap64 ((V (n-1)).getD i 0-y.getD i 0)
 |j+1=>ZcN (szN l (n-2-j)) (erF l P q (n-2-j) (V (n-2-j)) (erR l n P q V y j))
theorem Zpq(l:List Int)(n:Nat)(P:List Int)(q:Int)(V:Nat->List Int)(y:List Int):∀j,(erR l n P q V y j).length=szN l (n-1-j)
 |0=>by rw[erR,ZaE];rfl
 |j+1=>by rw[erR,ZaE,show n-1-(j+1)=n-2-j by omega]
theorem ZvK{l P:List Int}{q:Int}{k c:Nat}{d:List Int}:∀r,In1 (ZpE l P q k c d r)
 |0=>by unfold ZpE;exact⟨by decide,by decide⟩
 |r+1=>Za0 _
theorem Zuz{l:List Int}{n:Nat}{P:List Int}{q:Int}{V:Nat->List Int}{y:List Int}:∀j,Zaw (erR l n P q V y j)
 |0=>by
  intro v hv;obtain⟨i,_,rfl⟩:=List.mem_map.1 hv;exact Za0 _
 |j+1=>by
  intro v hv;obtain⟨i,_,rfl⟩:=List.mem_map.1 hv;unfold erF Zb4
  split
  ·exact ZvK _
  ·exact⟨by decide,by decide⟩
theorem Zpr(n:Int):IntKind.i64.wrap n=wrap64 n:=by unfold wrap64;exact IntKind.wrap_i64 n
theorem Zhh{w:World}{A:Option Addr}{n i:Nat}{l:List Int}(h:Rd w 1 A n (iv l))(hi:i<n):∃b o,A=some ⟨b,o,none⟩/\b<w.heap.size/\w.cell? ⟨b,o+i,none⟩=some (.int .i64 (l.getD i 0)):=by
 have hl:l.length=n:=by have:=h.1;rw[Zay] at this;omega
 obtain⟨b,o,e,hlt,hc⟩:=h.2 (by omega);refine⟨b,o,e,hlt,hc i _ ?_⟩;unfold iv;rw[YaR,YaA (by omega),YaT,YaA (by omega)];rfl
theorem ZwZ{w:World}{A:Option Addr}{n i:Nat}{ss:List Zer}{s:Zer}(h:Rd w 1 A n (ss.map slv))(hs:ss[i]?=some s)(hi:i<n):∃b o,A=some ⟨b,o,none⟩/\b<w.heap.size/\w.cell? ⟨b,o+i,none⟩=some (.slice s.1 s.2.1 s.2.2):=by
 obtain⟨b,o,e,hlt,hc⟩:=h.2 (by omega);exact⟨b,o,e,hlt,hc i _ (by rw[YaR,hs];rfl)⟩
structure Zr5(w:World)(l:List Int)(n:Nat)(F:Nat->List Int)(Av:Option Addr)(ss:List Zer):Prop where
 len:ss.length=n
 rd:Rd w 1 Av n (ss.map slv)
 row:∀j s,ss[j]?=some s->s.2.1=szN l j/\Rd w 1 s.1 (szN l j) (iv (F j))
theorem Zr5.below{w w':World}{l:List Int}{n:Nat}{F:Nat->List Int}{Av:Option Addr}{ss:List Zer}(h:Zr5 w l n F Av ss)(hb:Below w.heap.size w w'):Zr5 w' l n F Av ss:=⟨h.len,h.rd.below hb,fun j s hs=>⟨(h.row j s hs).1,(h.row j s hs).2.below hb⟩⟩
theorem Zr5.at{w:World}{l:List Int}{n:Nat}{F:Nat->List Int}{Av:Option Addr}{ss:List Zer}(h:Zr5 w l n F Av ss){k:Nat}(hk:k<n):∃b o As cs,Av=some ⟨b,o,none⟩/\b<w.heap.size/\w.cell? ⟨b,o+k,none⟩=some (.slice As (szN l k) cs)/\Rd w 1 As (szN l k) (iv (F k)):=by
 obtain⟨⟨As,ns,cs⟩,hs⟩:∃s,ss[k]?=some s:=⟨_,YaA (by rw[h.len];omega)⟩;obtain⟨b,o,e,hlt,hc⟩:=ZwZ h.rd hs hk;obtain⟨e1,h1⟩:=h.row k _ hs;dsimp only at e1 h1 hc;subst e1;exact⟨b,o,As,cs,e,hlt,hc,h1⟩
section
variable(A:Option Addr)(n cap:Nat)(l:List Int)(Ap:Option Addr)(NP cp:Nat)(P:List Int)(q:Int)(Av:Option Addr)(cv:Nat)(F:Nat→List Int)(ss:List Zer)(Y:Option Addr)(M cy:Nat)(y:List Int)
theorem Zh3(w:World)(h:Zb8 w A n cap l Ap NP cp P q)(hv:Zr5 w l n F Av ss)(hM:M=szN l (n-1))(hy:Rd w 1 Y M (iv y)) :
  Calls prog 175 #[Zd8 A n cap Ap NP cp q,.int .i64 ((n-1:Nat):Int),.slice Av n cv,.slice Y M cy] w (Zal w 2 1 (szN l (n-1)) (iv (erR l n P q F y 0))):=by
 have hn2:=h.ok.n2;have hn16:=h.ok.n16;have hM1:=(h.ok.sz (show n-1<n by omega)).2;rw[<-hM] at hM1;obtain⟨gv,ov,As,cs,rfl,vlt,vc,vr⟩:=hv.at (show n-1<n by omega);have HLA:=hid (fun W=>Zc6 A n cap Ap NP cp q W (by omega) (by omega));have HY:=hid hy;have HVR:=hid vr;have HVC:=hid vc;have HG:Hid (∀W,w.alloc (.cells (Zcg A n cap Ap NP cp q) 202)=W->Below w.heap.size w W/\Blk W w.heap.size 202 (Zcg A n cap Ap NP cp q)):=hid (by
  rintro W rfl;exact⟨bA0 _,Blk.new _ _ _⟩)
 obtain⟨N1,hN1⟩:∃N1,n-1=N1:=⟨_,rfl⟩;rw[hN1] at HLA HVR HVC hM;have her:erR l n P q F y 0=ZcN M fun i=>wrap64 ((F N1).getD i 0-y.getD i 0):=by rw[erR,hN1,hM]
 rw[hN1,<-hM,her];have HM:=hid hM;clear her h hv hy vr vc;obtain⟨G,hG⟩:∃G:Nat->Int,(fun i=>wrap64 ((F N1).getD i 0-y.getD i 0))=G:=⟨_,rfl⟩;have HGG:=hid (fun i=>congrFun hG i);rw[hG];clear hG;rw[<-hM] at HVR HVC
 go_enter func175,ntmps175
 go_wp2_with fail;obtain⟨w0,hw0⟩:∃w0,w.alloc (.cells (Zcg A n cap Ap NP cp q) 202)=w0:=⟨_,rfl⟩;obtain⟨hB,hI⟩:=HG.out _ hw0;rw[hw0];have HB:=hid hB;((with_reducible refine(HLA.out _).mono ?_);rintro e w1 ⟨rfl,hb1⟩);have HB1:=hid (bT0 hB hb1);clear hb1 hB hI hw0 HG;have HY1:=hid (HY.out.below HB1.out);have HVR1:=hid (HVR.out.below HB1.out);go_wp2_with fail
 go_loopw [9,10] (fun o v wr=>∃(i:Nat) (A9:Option Addr) (c9:Nat),i<=M/\v=.int .i64 i/\o=.slice A9 i c9/\wr.ownsRow w1.heap.size 2 1 (.slice A9 i c9) i (iv (ZcN i G))/\Bz0 w1 wr) (fun _ v _=>M-(intOf v).toNat)
 case atStart=>exact⟨0,none,0,by omega,rfl,rfl,World.ownsRow_nil _ _ _ _,bR0 _ _⟩
 case round=>
  obtain⟨i,A9,c9,hi,rfl,rfl,ho,hb⟩:=hrel;have HO:=hid ho;have HBX:=hid hb;have HBW:=hid (bT0 HB1.out hb)
  by_cases hlt:i<M
  ·obtain⟨gy,oy,rfl,yl,yc⟩:=Zhh (HY1.out.below hb) hlt;obtain⟨gs,os,rfl,sl,sc⟩:=Zhh (HVR1.out.below hb) hlt;have vc:wr.cell? ⟨gv,ov+N1,none⟩=some (.slice (some ⟨gs,os,none⟩) M cs):=(HBW.out.cell (p:=⟨gv,ov+N1,none⟩) vlt).trans HVC.out;have vl:gv<wr.heap.size:=YaK vlt HBW.out.size;have hg:wrap64 ((F N1).getD i 0-y.getD i 0)=G i:=HGG.out i;obtain⟨a,ha⟩:∃a,(F N1).getD i 0=a:=⟨_,rfl⟩;obtain⟨b,hbb⟩:∃b,y.getD i 0=b:=⟨_,rfl⟩;rw[ha] at sc hg;rw[hbb] at yc hg;have HGI:=hid hg;have HLT:=hid hlt;have r2:(i:Int)<(M:Int):=by omega
   have hnn:N1<n:=by omega
   clear ho hb hg ha hbb hlt;have hszz:=HBX.out.size;go_wp2_with fail;refine Zad (Zag wr) [0,1,2,3,4,5,6,7,8,9,10,11,12] [13] [14,15] (by kernel_rfl) (by kernel_rfl) (Zag.start wr) ?_;simp only[YaO,YaP,YaB,YaC];have hwr:=Zpr (a-b);refine Zaa (.slice A9 i c9) rfl (fun W hW=>?_) ?_
   ·obtain⟨hc,-,-⟩:=hW;go_simp
   go_simp;refine Zaa (.slice (some ⟨gv,ov,none⟩) n cv) rfl (fun W hW=>?_) ?_
   ·obtain⟨hc,-,-⟩:=hW;go_simp
   go_simp;refine Zaa (.int .i64 N1) rfl (fun W hW=>?_) ?_
   ·obtain⟨hc,-,-⟩:=hW;go_simp
   go_simp;refine Zaa (.pointer (some ⟨gv,ov+N1,none⟩)) rfl (fun W hW=>?_) ?_
   ·obtain⟨hc,-,-⟩:=hW;go_simp
   go_simp;refine Zaa (.slice (some ⟨gs,os,none⟩) M cs) rfl (fun W hW=>?_) ?_
   ·obtain⟨hc,-,-⟩:=hW;go_simp
   go_simp;refine Zaa (.int .i64 i) rfl (fun W hW=>?_) ?_
   ·obtain⟨hc,-,-⟩:=hW;go_simp
   go_simp;refine Zaa (.pointer (some ⟨gs,os+i,none⟩)) rfl (fun W hW=>?_) ?_
   ·obtain⟨hc,-,-⟩:=hW;go_simp
   go_simp;refine Zaa (.int .i64 a) rfl (fun W hW=>?_) ?_
   ·obtain⟨hc,-,-⟩:=hW;go_simp
   go_simp;refine Zaa (.slice (some ⟨gy,oy,none⟩) M cy) rfl (fun W hW=>?_) ?_
   ·obtain⟨hc,-,-⟩:=hW;go_simp
   go_simp;refine Zaa (.int .i64 i) rfl (fun W hW=>?_) ?_
   ·obtain⟨hc,-,-⟩:=hW;go_simp
   go_simp;refine Zaa (.pointer (some ⟨gy,oy+i,none⟩)) rfl (fun W hW=>?_) ?_
   ·obtain⟨hc,-,-⟩:=hW;go_simp
   go_simp;refine Zaa (.int .i64 b) rfl (fun W hW=>?_) ?_
   ·obtain⟨hc,-,-⟩:=hW;go_simp
   go_simp;refine Zaa (.int .i64 (wrap64 (a-b))) rfl (fun W hW=>?_) ?_
   ·obtain⟨hc,-,-⟩:=hW;go_simp
   go_simp;unfold Zb1;change Zah _ _ _ _ _ (_::[]) _ _;unfold Zah;go_wp2_with fail;refine⟨(Zag.start wr).alloc _,?_⟩;unfold Zah;change wpList _ _ _ (_::_::[]) _ _;have HOd:=hid (show wr.drew.ownsRow w1.heap.size 2 1 (.slice A9 i c9) i (iv (ZcN i G)) from HO.out)
   go_wp2_with (at_builtin;go_must (refine Zav (w:=wr.drew) ZeQ rfl _ _ rfl w1.heap.size (.slice A9 i c9) i (iv (ZcN i G)) rfl HOd.out #[.int .i64 (wrap64 (a-b))] wr.drew.heap.size rfl rfl rfl (Zd4 _) (by unfold maxLen;omega) (by omega) hszz ?_);go_must (intro A4 c4 w4 hown4 hb4))
   refine NoPanic.normal ?_;have HO9:=hid (show w4.ownsRow w1.heap.size 2 1 (.slice A4 (i+1) c4) (i+1) (iv (ZcN (i+1) G)) by
    rw[Zd3,Zbs,<-HGI.out];exact hown4)
   have HB9:=hid (HBX.out.drew.trans hb4);clear hown4 hb4;go_wp2_with fail
   go_roundw
   case rel=>exact⟨i+1,A4,c4,HLT.out,by go_num,rfl,HO9.out,HB9.out⟩
   case measure=>simp[intOf];have:=HLT.out;omega
  ·obtain rfl:i=M:=by omega
   go_wp2_with fail;go_ret;exact⟨A9,c9,rfl,Zae HO.out HB1.out.size,HBW.out⟩
theorem Zh4(j:Nat)(w:World)(h:Zb8 w A n cap l Ap NP cp P q)(hv:Zr5 w l n F Av ss)(hj:j+1<n-1)(hy:Rd w 1 Y M (iv y))
  (ih:∀W,Zb8 W A n cap l Ap NP cp P q->Zr5 W l n F Av ss->Rd W 1 Y M (iv y)->Calls prog 175 #[Zd8 A n cap Ap NP cp q,.int .i64 ((n-1-j:Nat):Int),.slice Av n cv,.slice Y M cy] W (Zal W 2 1 (szN l (n-1-j)) (iv (erR l n P q F y j)))) :
  Calls prog 175 #[Zd8 A n cap Ap NP cp q,.int .i64 ((n-1-(j+1):Nat):Int),.slice Av n cv,.slice Y M cy] w (Zal w 2 1 (szN l (n-1-(j+1))) (iv (erR l n P q F y (j+1)))):=by
 have hn2:=h.ok.n2;have hn16:=h.ok.n16;obtain⟨k,hk⟩:∃k,n-2-j=k:=⟨_,rfl⟩;have hk1:n-1-(j+1)=k:=by omega
 have hk2:n-1-j=k+1:=by omega
 have hkn:k+1<n:=by omega
 obtain⟨ga,oa,gp,op,rfl,rfl⟩:=Zfj h;obtain⟨gv,ov,As,cs,rfl,vlt,vc,vr⟩:=hv.at (show k<n by omega);obtain⟨dl,hdl⟩:∃d,erR l n P q F y j=d:=⟨_,rfl⟩;have hdlen:dl.length=szN l (k+1):=by rw[<-hdl,Zpq,hk2]
 have hdin:Zaw dl:=by rw[<-hdl];exact Zuz j
 have her:erR l n P q F y (j+1)=ZcN (szN l k) (erF l P q k (F k) dl):=by rw[erR,hk,hdl]
 rw[hk1,her];rw[hk2,hdl] at ih;have HIH:=hid ih;have HLA:=hid (fun W=>Zc6 (some ⟨ga,oa,none⟩) n cap (some ⟨gp,op,none⟩) NP cp q W (by omega) (by omega));have HH:=hid h;have HV:=hid hv;have HY:=hid hy;have HVR:=hid vr;have HVC:=hid vc;have HDIN:=hid hdin;have HDL:=hid hdlen;have hR1:=(h.ok.sz (show k+1<n by omega)).2;have hC1:=(h.ok.sz (show k<n by omega)).2;have HG:Hid (∀W,w.alloc (.cells (Zcg (some ⟨ga,oa,none⟩) n cap (some ⟨gp,op,none⟩) NP cp q) 202)=W->Below w.heap.size w W/\Blk W w.heap.size 202 (Zcg (some ⟨ga,oa,none⟩) n cap (some ⟨gp,op,none⟩) NP cp q)):=hid (by
  rintro W rfl;exact⟨bA0 _,Blk.new _ _ _⟩)
 obtain⟨N1,hN1⟩:∃N1,n-1=N1:=⟨_,rfl⟩;rw[hN1] at HLA;have e1:((k:Int)==(N1:Int))=false:=by simp;omega
 clear h hv hy vr vc ih hk hk1 hk2 her hdl hdlen hdin
 go_enter func175,ntmps175
 go_wp2_with fail;obtain⟨w0,hw0⟩:∃w0,w.alloc (.cells (Zcg (some ⟨ga,oa,none⟩) n cap (some ⟨gp,op,none⟩) NP cp q) 202)=w0:=⟨_,rfl⟩;obtain⟨hB,hI⟩:=HG.out _ hw0;rw[hw0];have HB:=hid hB;((with_reducible refine(HLA.out _).mono ?_);rintro e w1 ⟨rfl,hb1⟩);have HB1:=hid (bT0 hB hb1);have HI1:=hid (hI.kept hb1);clear hb1 hB hI hw0 HG;have y0:w1.cell? ⟨w.heap.size,0,none⟩=some (.slice (some ⟨ga,oa,none⟩) n cap):=HI1.out.cell 0;have y1:w1.cell? ⟨w.heap.size,1,none⟩=some (.slice (some ⟨gp,op,none⟩) NP cp):=HI1.out.cell 1;have y2:w1.cell? ⟨w.heap.size,2,none⟩=some (.int .i64 q):=HI1.out.cell 2;have yl:=HI1.out.lt;have hw:((k+1:Nat):Int)=(k:Int)+1:=by omega
 go_wp2_with fail;rw[<-hw];((with_reducible refine(HIH.out _ (HH.out.below HB1.out) (HV.out.below HB1.out) (HY.out.below HB1.out)).mono ?_);rintro e w2 ⟨Ad,cd,rfl,ho2,hb2⟩);have HB2:=hid (bT0 HB1.out hb2);have HI2:=hid (HI1.out.kept hb2);have HD2:=hid (Rd.of_own ho2);obtain⟨R,hR⟩:∃R,szN l (k+1)=R:=⟨_,rfl⟩;obtain⟨C,hC⟩:∃C,szN l k=C:=⟨_,rfl⟩;have HRR:=hid hR;have HCC:=hid hC;rw[hR] at HD2 hR1 HDL;rw[hC] at HVR HVC hC1;rw[hR,hC];clear ho2 hb2 y0 y1 y2 yl hR hC hw;go_wp2_with fail;obtain⟨G,hG⟩:∃G:Nat->Int,erF l P q k (F k) dl=G:=⟨_,rfl⟩;have HGG:=hid (fun i=>congrFun hG i);rw[hG];clear hG;have hzl:=(ZdO HH.out.ok (show 0<n by omega) HH.out.rl).2
 go_loopw [9,12] (fun o v wr=>∃(c:Nat) (A9:Option Addr) (c9:Nat),c<=C/\v=.int .i64 c/\o=.slice A9 c c9/\wr.ownsRow w2.heap.size 2 1 (.slice A9 c c9) c (iv (ZcN c G))/\Bz0 w2 wr) (fun _ v _=>C-(intOf v).toNat)
 case atStart=>exact⟨0,none,0,by omega,rfl,rfl,World.ownsRow_nil _ _ _ _,bR0 _ _⟩
 case round=>
  obtain⟨c,A9,c9,hc,rfl,rfl,ho,hb⟩:=hrel;have HO:=hid ho;have HBX:=hid hb;have HBW:=hid (bT0 HB2.out hb);have HIr:=hid (HI2.out.kept hb);obtain⟨zc,zl⟩:=ZdO HH.out.ok (show k<n by omega) (HH.out.rl.below HBW.out);rw[HCC.out] at zc;have y0:wr.cell? ⟨w.heap.size,0,none⟩=some (.slice (some ⟨ga,oa,none⟩) n cap):=HIr.out.cell 0;have y1:wr.cell? ⟨w.heap.size,1,none⟩=some (.slice (some ⟨gp,op,none⟩) NP cp):=HIr.out.cell 1;have y2:wr.cell? ⟨w.heap.size,2,none⟩=some (.int .i64 q):=HIr.out.cell 2;have yl:=HIr.out.lt;obtain⟨wm,rfl⟩:∃W:World,W=wr:=⟨_,rfl⟩;clear ho hb
  by_cases hlt:c<C
  ·have HLT:=hid hlt;have r2:(c:Int)<(C:Int):=by omega
   clear hlt;go_wp2_with fail;clear y0 y1 y2 yl zc zl
   go_loopw [13,14] (fun s v wx=>∃r:Nat,r<=R/\v=.int .i64 r/\s=.int .i64 (ZpE l P q k c dl r)/\Bz0 wm wx) (fun _ v _=>R-(intOf v).toNat)
   case atStart=>exact⟨0,by omega,rfl,rfl,bR0 _ _⟩
   case round=>
    obtain⟨r,hr,rfl,rfl,hb⟩:=hrel;have HBM:=hid hb;have HBW3:=hid (bT0 HBW.out hb);have HI3:=hid (HIr.out.kept hb);have y0:wr.cell? ⟨w.heap.size,0,none⟩=some (.slice (some ⟨ga,oa,none⟩) n cap):=HI3.out.cell 0;have y1:wr.cell? ⟨w.heap.size,1,none⟩=some (.slice (some ⟨gp,op,none⟩) NP cp):=HI3.out.cell 1;have y2:wr.cell? ⟨w.heap.size,2,none⟩=some (.int .i64 q):=HI3.out.cell 2;have yl:=HI3.out.lt;have hd3:=(HD2.out.below HBX.out).below hb;clear hb
    by_cases hlt:r<R
    ·obtain⟨gd,od,rfl,dlt,dc⟩:=Zhh hd3 hlt;obtain⟨u,hu⟩:∃u,dl.getD r 0=u:=⟨_,rfl⟩;obtain⟨wt,hwt⟩:∃u,wtR l P k r c=u:=⟨_,rfl⟩;obtain⟨sm,hsm⟩:∃u,ZpE l P q k c dl r=u:=⟨_,rfl⟩;rw[hu] at dc;have hHWT:∀u:KW wr,Calls prog 225 #[Zd8 (some ⟨ga,oa,none⟩) n cap (some ⟨gp,op,none⟩) NP cp q,.int .i64 k,.int .i64 r,.int .i64 c] u.w fun e w'=>e=.returned (.int .i64 wt)/\Below u.w.heap.size u.w w':=fun u=>by
      have:=Zfk (some ⟨ga,oa,none⟩) n cap l (some ⟨gp,op,none⟩) NP cp P q u.w k r c ((HH.out.below HBW3.out).below u.h.2.2) (by omega) (by rw[HRR.out];exact hlt) (by rw[HCC.out];exact HLT.out);rw[hwt] at this;exact this
     have HWT2:=hid hHWT;have HMU:=hid (fun(v:KW wr)=>Zcn wt u q v.w (by rw[<-hwt];exact getD_in HH.out.ok.pin _) (by rw[<-hu];exact getD_in HDIN.out r));have HSN:Hid (wrap64 (sm+Zeb wt u q)=ZpE l P q k c dl (r+1)):=hid (by rw[ZpE,hu,hwt,hsm]);rw[hsm];have HR:=hid hlt;have r3:(r:Int)<(R:Int):=by omega
     have KC:=fun(u:KW wr) b o h=>KW.cells u b o h
     clear hd3 hu hwt hsm hHWT hlt;go_wp2_with fail;refine ZaK wr (by kernel_rfl) (by kernel_rfl) (Zag.of (bR0 _ _)) ?_
     repeat (go_big_quiet_step (first|(go_at_call 225;with_reducible exact ZbE (HWT2.out _))|(go_at_call 159;with_reducible exact ZeG (HMU.out _))))
     refine wpQuiet_nil ?_;rintro w8 ⟨⟨_,k8⟩,rfl⟩;go_wp2_with fail;rw[HSN.out]
     go_roundw
     case rel=>exact⟨r+1,HR.out,by go_num,rfl,bT0 HBM.out k8.2.2⟩
     case measure=>simp[intOf];have:=HR.out;omega
    ·obtain rfl:r=R:=by omega
     have hvr:=((HVR.out.below HBW3.out));obtain⟨gs,os,rfl,sl,sc⟩:=Zhh hvr HLT.out;have vc:wr.cell? ⟨gv,ov+k,none⟩=some (.slice (some ⟨gs,os,none⟩) C cs):=(HBW3.out.cell (p:=⟨gv,ov+k,none⟩) vlt).trans HVC.out;have vl:gv<wr.heap.size:=YaK vlt HBW3.out.size;obtain⟨a,ha⟩:∃a,(F k).getD c 0=a:=⟨_,rfl⟩;obtain⟨sm,hsm⟩:∃u,ZpE l P q k c dl r=u:=⟨_,rfl⟩;rw[ha] at sc;rw[hsm];have hgi:Zb4 a sm=G c:=by
      rw[<-HGG.out c,erF,ha,HDL.out,hsm]
     have HGI:=hid hgi;have hor:=Zac HO.out HBM.out;have HOR:=hid hor;have hkn':k<n:=by omega
     have HBX2:=hid (bT0 HBX.out HBM.out);have hszz:w2.heap.size<=wr.heap.size:=HBX2.out.size;clear hvr ha hsm hgi hor hlt y0 y1 y2 yl hd3;go_wp2_with fail;((with_reducible refine(ZgJ a sm _).mono ?_);rintro e w10 ⟨rfl,rfl⟩)
     go_wp2_with (at_builtin;go_must (refine Zav ZeQ rfl _ _ rfl w2.heap.size _ c (iv (ZcN c G)) rfl HOR.out #[.int .i64 (Zb4 a sm)] _ rfl rfl rfl (Zd4 _) (by unfold maxLen;omega) (by omega) hszz ?_);go_must (intro A4 c4 w4 hown4 hb4))
     have HO9:=hid (show w4.ownsRow w2.heap.size 2 1 (.slice A4 (c+1) c4) (c+1) (iv (ZcN (c+1) G)) by
      rw[Zd3,Zbs,<-HGI.out];exact hown4)
     have HB9:=hid (HBX2.out.trans hb4);clear hown4 hb4
     go_roundw
     case rel=>exact⟨c+1,A4,c4,HLT.out,by go_num,rfl,HO9.out,HB9.out⟩
     case measure=>simp[intOf];have:=HLT.out;omega
  ·obtain rfl:c=C:=by omega
   go_wp2_with fail;go_ret;rw[HCC.out,show erF l P q k (F k) dl=G from funext HGG.out];exact⟨A9,c9,rfl,Zae HO.out HB2.out.size,HBW.out⟩
theorem Zfl:∀(j:Nat) (w:World),Zb8 w A n cap l Ap NP cp P q->Zr5 w l n F Av ss->j<n-1->M=szN l (n-1)->Rd w 1 Y M (iv y) ->
  Calls prog 175 #[Zd8 A n cap Ap NP cp q,.int .i64 ((n-1-j:Nat):Int),.slice Av n cv,.slice Y M cy] w (Zal w 2 1 (szN l (n-1-j)) (iv (erR l n P q F y j)))
 |0,w,h,hv,_,hM,hy=>Zh3 A n cap l Ap NP cp P q Av cv F ss Y M cy y w h hv hM hy
 |j+1,w,h,hv,hj,hM,hy=>Zh4 A n cap l Ap NP cp P q Av cv F ss Y M cy y j w h hv hj hy (fun W a b c=>Zfl j W a b (by omega) hM c)
end
abbrev Plc:=Int×Int×Int
def Zj2(l:List Plc):List Value:=l.flatMap fun p=>[.int .i64 p.1,.int .i64 p.2.1,.int .i64 p.2.2]
theorem Zhi(a b:List Plc):Zj2 (a++b)=Zj2 a++Zj2 b:=by simp[Zj2]
theorem ZtX(l:List Plc)(i:Nat)(p:Plc)(h:l[i]?=some p):(Zj2 l)[i*3]?=some (.int .i64 p.1)/\(Zj2 l)[i*3+1]?=some (.int .i64 p.2.1)/\(Zj2 l)[i*3+2]?=some (.int .i64 p.2.2):=by
 induction l generalizing i with
 |nil=>simp at h
 |cons a l ih=>
  have e:Zj2 (a::l)=.int .i64 a.1::.int .i64 a.2.1::.int .i64 a.2.2::Zj2 l:=rfl;rw[e]
  cases i with
  |zero=>
   obtain rfl:a=p:=by simpa using h
   exact⟨rfl,rfl,rfl⟩
  |succ i=>
   have:=ih i (by simpa using h);rw[show (i+1)*3=i*3+1+1+1 by omega];exact this
def Zn6(k r C:Nat):List Plc:=(List.range C).map fun(c:Nat)=>((k:Int),(r:Int),(c:Int))
def Zn7(k R C:Nat):List Plc:=(List.range R).flatMap fun r=>Zn6 k r C
def Zn8(k R:Nat):List Plc:=(List.range R).map fun(r:Nat)=>((k:Int),(r:Int),(-1:Int))
def Zlp(l:List Int):Nat->List Plc
 |0=>[]
 |k+1=>Zlp l k++Zn7 k (szN l (k+1)) (szN l k)++Zn8 k (szN l (k+1))
theorem Zr6(k r C:Nat):Zn6 k r (C+1)=Zn6 k r C++[((k:Int),(r:Int),(C:Int))]:=by simp[Zn6,List.range_succ]
theorem Zlq(k R C:Nat):Zn7 k (R+1) C=Zn7 k R C++Zn6 k R C:=by simp[Zn7,List.range_succ]
theorem Zr7(k R:Nat):Zn8 k (R+1)=Zn8 k R++[((k:Int),(R:Int),(-1:Int))]:=by simp[Zn8,List.range_succ]
theorem Zm7(k r C:Nat):(Zn6 k r C).length=C:=by simp[Zn6]
theorem Zm8(k R C:Nat):(Zn7 k R C).length=R*C:=by
 induction R with
 |zero=>simp[Zn7]
 |succ R ih=>rw[Zlq,YaS,ih,Zm7,Nat.succ_mul]
theorem Zm9(k R:Nat):(Zn8 k R).length=R:=by simp[Zn8]
theorem Zc7(l:List Int):∀k,(Zlp l k).length=ofN l k
 |0=>rfl
 |k+1=>by rw[Zlp,YaS,YaS,Zc7 l k,Zm8,Zm9,ofN]
theorem Zw0:Sl prog 308 313 (.agg #[.int .i64 0,.int .i64 0,.int .i64 0]) 3 24:=⟨underlying308,by kernel_rfl,rfl,by omega⟩
theorem Zlr(x y z:Int):∀u∈(#[Value.int .i64 x,.int .i64 y,.int .i64 z]:Array Value).toList,u.oneCell'=true:=by
 intro u hu;simp at hu
 rcases hu with rfl|rfl|rfl<;>rfl
section
variable(A:Option Addr)(n cap:Nat)(l:List Int)(NP:Nat)(P:List Int)(q:Int)(w:World)
theorem ZjV(hN:NetP l n NP P q)(h:Rd w 1 A n (iv l)) :
  Calls prog 173 #[.slice A n cap] w (Zal w 313 3 NP (Zj2 (Zlp l (n-1)))):=by
 have hn2:=hN.n2;have hn16:=hN.n16;obtain⟨ga,oa,rfl,hlt0,_⟩:=h.2 (by omega);have HN:=hid hN;have HR:=hid h;clear hN h
 go_enter func173,ntmps173
 go_wp2_with fail
 go_loopw [3,4] (fun o v wr=>∃(k:Nat) (B:Option Addr) (N c:Nat),k+1<=n/\v=.int .i64 k/\o=.slice B N c/\N=ofN l k/\wr.ownsRow w.heap.size 313 3 (.slice B N c) N (Zj2 (Zlp l k))/\Bz0 w wr) (fun _ v _=>n-(intOf v).toNat)
 case atStart=>exact⟨0,none,0,0,by omega,rfl,rfl,rfl,World.ownsRow_nil _ _ _ _,bR0 _ _⟩
 case round=>
  obtain⟨k,B,N,c,hk,rfl,rfl,hNN,ho,hb⟩:=hrel;have HO:=hid ho;have HB:=hid hb;have HNN:=hid hNN
  by_cases hlt:k+1<n
  ·obtain⟨R,hR⟩:∃R,szN l (k+1)=R:=⟨_,rfl⟩;obtain⟨C,hC⟩:∃C,szN l k=C:=⟨_,rfl⟩;have hfit:=HN.out.fit (show k<n-1 by omega);have hob:obN l k=ofN l k+R*C:=by rw[obN,hR,hC]
   have hnp:=HN.out.np;rw[hob,<-hNN,hR] at hfit;have HFIT:Hid (N+R*C+R<=1000):=hid (by omega);have hRC:R<=1000/\C<=1000:=by
    rw[<-hR,<-hC];exact⟨(HN.out.sz (by omega)).2.2,(HN.out.sz (by omega)).2.2⟩
   obtain⟨hR1,hC1⟩:=hRC;have HRR:=hid hR;have HCC:=hid hC;have HLT:=hid hlt;have r2:(k:Int)+1<(n:Int):=by omega
   obtain⟨L0,hL0⟩:∃L,Zlp l k=L:=⟨_,rfl⟩;rw[hL0] at HO;have HL0:=hid hL0;have HLL:Hid (L0.length=N):=hid (by rw[<-hL0,Zc7,<-hNN]);clear ho hb hNN hR hC hob hfit hnp hlt hL0;go_wp2_with fail;obtain⟨wk,rfl⟩:∃W:World,W=wr:=⟨_,rfl⟩
   go_loopw [3,5] (fun o v wx=>∃(r:Nat) (B:Option Addr) (N2 c:Nat),r<=R/\v=.int .i64 r/\o=.slice B N2 c/\N2=N+r*C/\wx.ownsRow w.heap.size 313 3 (.slice B N2 c) N2 (Zj2 (L0++Zn7 k r C))/\Bz0 w wx) (fun _ v _=>R-(intOf v).toNat)
   case atStart=>exact⟨0,B,N,c,by omega,rfl,rfl,by omega,by simp only[Zn7,List.range_zero,List.flatMap_nil,List.append_nil];exact HO.out,HB.out⟩
   case round=>
    obtain⟨r,B2,N2,c2,hr,rfl,rfl,hN2,ho,hb⟩:=hrel;obtain⟨zc,zl⟩:=ZdO HN.out (show k+1<n by omega) (HR.out.below hb);rw[HRR.out] at zc;have HO2:=hid ho;have HB2:=hid hb;have HN2:=hid hN2
    by_cases hlt:r<R
    ·have HLR:=hid hlt;have r3:(r:Int)<(R:Int):=by omega
     obtain⟨L1,hL1⟩:∃L,L0++Zn7 k r C=L:=⟨_,rfl⟩;rw[hL1] at HO2;have HL1:=hid hL1;have hkn:=HLT.out;have HFR:Hid (N2+C<=1000):=hid (by
      have h1:=HFIT.out;have h2:(r+1)*C<=R*C:=YaW _ hlt;rw[Nat.succ_mul] at h2
      omega)
     clear ho hb hN2 hlt hL1;go_wp2_with fail;clear zc zl
     go_loopw [3,6] (fun o v wx=>∃(j:Nat) (B:Option Addr) (N3 c:Nat),j<=C/\v=.int .i64 j/\o=.slice B N3 c/\N3=N2+j/\wx.ownsRow w.heap.size 313 3 (.slice B N3 c) N3 (Zj2 (L1++Zn6 k r j))/\Bz0 w wx) (fun _ v _=>C-(intOf v).toNat)
     case atStart=>exact⟨0,B2,N2,c2,by omega,rfl,rfl,by omega,by simp only[Zn6,List.range_zero,List.map_nil,List.append_nil];exact HO2.out,HB2.out⟩
     case round=>
      obtain⟨j,B3,N3,c3,hj,rfl,rfl,hN3,ho,hb⟩:=hrel;obtain⟨zc,zl⟩:=ZdO HN.out (show k<n by omega) (HR.out.below hb);rw[HCC.out] at zc;have HO3:=hid ho;have HB3:=hid hb;have HN3:=hid hN3;have hkn2:k<n:=by omega
      by_cases hlt:j<C
      ·have HLJ:=hid hlt;have r4:(j:Int)<(C:Int):=by omega
       have hb3:N3+1<=1001:=by have:=HFR.out;omega
       have hszz:=HB3.out.size;clear ho hb hN3 hlt
       go_wp2_with (at_builtin;go_must (refine Zav Zw0 rfl _ _ rfl w.heap.size _ N3 (Zj2 (L1++Zn6 k r j)) rfl HO3.out #[.int .i64 k,.int .i64 r,.int .i64 j] _ rfl rfl rfl (Zlr _ _ _) (by unfold maxLen;omega) (by omega) hszz ?_);go_must (intro A4 c4 w4 hown4 hb4))
       have HO9:=hid (show w4.ownsRow w.heap.size 313 3 (.slice A4 (N3+1) c4) (N3+1) (Zj2 (L1++Zn6 k r (j+1))) by
        rw[Zr6,<-YaY,Zhi];exact hown4)
       have HB9:=hid (HB3.out.trans hb4);clear hown4 hb4
       go_roundw
       case rel=>exact⟨j+1,A4,N3+1,c4,HLJ.out,by go_num,rfl,by have:=HN3.out;omega,HO9.out,HB9.out⟩
       case measure=>simp[intOf];have:=HLJ.out;omega
      ·obtain rfl:j=C:=by omega
       have hfin:L1++Zn6 k r j=L0++Zn7 k (r+1) j:=by rw[Zlq,<-YaY,HL1.out]
       rw[hfin] at HO3;clear ho hb hN3 hlt hfin;go_wp2_with fail
       go_roundw
       case rel=>exact⟨r+1,B3,N3,c3,HLR.out,by go_num,rfl,by have:=HN3.out;have:=HN2.out;rw[Nat.succ_mul];omega,HO3.out,HB3.out⟩
       case measure=>simp[intOf];have:=HLR.out;omega
    ·obtain rfl:r=R:=by omega
     obtain⟨L1,hL1⟩:∃L,L0++Zn7 k r C=L:=⟨_,rfl⟩;rw[hL1] at HO2;have HL1:=hid hL1;have hkn:=HLT.out;have HFR:Hid (N2+r<=1000):=hid (by have h1:=HFIT.out;omega);clear ho hb hN2 hlt hL1;go_wp2_with fail;clear zc zl
     go_loopw [3,7] (fun o v wx=>∃(j:Nat) (B:Option Addr) (N3 c:Nat),j<=r/\v=.int .i64 j/\o=.slice B N3 c/\N3=N2+j/\wx.ownsRow w.heap.size 313 3 (.slice B N3 c) N3 (Zj2 (L1++Zn8 k j))/\Bz0 w wx) (fun _ v _=>r-(intOf v).toNat)
     case atStart=>exact⟨0,B2,N2,c2,by omega,rfl,rfl,by omega,by simp only[Zn8,List.range_zero,List.map_nil,List.append_nil];exact HO2.out,HB2.out⟩
     case round=>
      obtain⟨j,B3,N3,c3,hj,rfl,rfl,hN3,ho,hb⟩:=hrel;obtain⟨zc,zl⟩:=ZdO HN.out (show k+1<n by omega) (HR.out.below hb);rw[HRR.out] at zc;have HO3:=hid ho;have HB3:=hid hb;have HN3:=hid hN3
      by_cases hlt:j<r
      ·have HLJ:=hid hlt;have r4:(j:Int)<(r:Int):=by omega
       have hb3:N3+1<=1001:=by have:=HFR.out;omega
       have hszz:=HB3.out.size;clear ho hb hN3 hlt
       go_wp2_with (at_builtin;go_must (refine Zav Zw0 rfl _ _ rfl w.heap.size _ N3 (Zj2 (L1++Zn8 k j)) rfl HO3.out #[.int .i64 k,.int .i64 j,.int .i64 (-1)] _ rfl rfl rfl (Zlr _ _ _) (by unfold maxLen;omega) (by omega) hszz ?_);go_must (intro A4 c4 w4 hown4 hb4))
       have HO9:=hid (show w4.ownsRow w.heap.size 313 3 (.slice A4 (N3+1) c4) (N3+1) (Zj2 (L1++Zn8 k (j+1))) by
        rw[Zr7,<-YaY,Zhi];exact hown4)
       have HB9:=hid (HB3.out.trans hb4);clear hown4 hb4
       go_roundw
       case rel=>exact⟨j+1,A4,N3+1,c4,HLJ.out,by go_num,rfl,by have:=HN3.out;omega,HO9.out,HB9.out⟩
       case measure=>simp[intOf];have:=HLJ.out;omega
      ·obtain rfl:j=r:=by omega
       have hfin:L1++Zn8 k j=Zlp l (k+1):=by rw[Zlp,HL0.out,HRR.out,HCC.out,HL1.out]
       rw[hfin] at HO3;have hn3:N3=ofN l (k+1):=by
        have:=Zc7 l (k+1);have h1:=HN3.out;have h2:=HN2.out;have h3:=HNN.out;rw[ofN,HRR.out,HCC.out,<-h3];exact h1.trans (by rw[h2])
       have HN3':=hid hn3;clear ho hb hN3 hlt hfin hn3;go_wp2_with fail
       go_roundw
       case rel=>exact⟨k+1,B3,N3,c3,by omega,by go_num,rfl,HN3'.out,HO3.out,HB3.out⟩
       case measure=>simp[intOf];omega
  ·obtain rfl:n=k+1:=by omega
   have hcn:=HN.out.cnt;clear ho hb hlt;go_wp2_with fail;go_ret;rw[Nat.add_sub_cancel] at hcn ⊢;obtain rfl:N=NP:=by have:=HNN.out;omega
   exact⟨B,c,rfl,HO.out,HB.out⟩
end
def grF(q:Int)(V E:Nat->List Int)(p:Plc):Int:=if 0<=p.2.2 then Zeb ((E (p.1.toNat+1)).getD p.2.1.toNat 0) ((V p.1.toNat).getD p.2.2.toNat 0) q else (E (p.1.toNat+1)).getD p.2.1.toNat 0
def erE(l:List Int)(n:Nat)(P:List Int)(q:Int)(V:Nat->List Int)(y:List Int)(k:Nat):List Int:=erR l n P q V y (n-1-k)
def Zls(l:List Int)(n:Nat)(P:List Int)(q:Int)(x y:List Int):List Int:=(Zlp l (n-1)).map (grF q (trR l n P q x) (erE l n P q (trR l n P q x) y))
theorem Zn9(l:List Int):∀(K:Nat) (p:Plc),p∈Zlp l K->∃(k r:Nat),k<K/\p.1=k/\p.2.1=r/\r<szN l (k+1)/\(p.2.2=-1\/∃c:Nat,p.2.2=c/\c<szN l k)
 |0,p,h=>by cases h
 |K+1,p,h=>by
  rw[Zlp,List.mem_append,List.mem_append] at h
  rcases h with(h|h)|h
  ·obtain⟨k,r,h1,h2⟩:=Zn9 l K p h;exact⟨k,r,by omega,h2⟩
  ·unfold Zn7 Zn6 at h;obtain⟨r,hr,h⟩:=List.mem_flatMap.1 h;obtain⟨c,hc,rfl⟩:=List.mem_map.1 h;exact⟨K,r,by omega,rfl,rfl,List.mem_range.1 hr,.inr ⟨c,rfl,List.mem_range.1 hc⟩⟩
  ·unfold Zn8 at h;obtain⟨r,hr,rfl⟩:=List.mem_map.1 h;exact⟨K,r,by omega,rfl,rfl,List.mem_range.1 hr,.inl rfl⟩
def AlR(w:World)(B:Nat)(l:List Int)(E:Nat->List Int)(es:List Zer):Prop:=∀j s,es[j]?=some s->1<=j->s.2.1=szN l j/\Rd w 1 s.1 (szN l j) (iv (E j))/\SlT w B s.1
theorem AlR.below{w w':World}{B:Nat}{l:List Int}{E:Nat->List Int}{es:List Zer}(h:AlR w B l E es)(hb:Below w.heap.size w w'):AlR w' B l E es:=fun j s hs h1=>⟨(h j s hs h1).1,(h j s hs h1).2.1.below hb,(h j s hs h1).2.2.below hb⟩
theorem ZtY{w w':World}{B:Nat}{A:Option Addr}{m:Nat}{ys:List Value}{v:Value}{n:Nat}{xs:List Value}(h2:Rd w 1 A m ys)(h3:SlT w B A)(ho:w.ownsRow B 26 1 v n xs)(hg:w.grownBy w' v.ownBlock):Rd w' 1 A m ys/\SlT w' B A:=by
 have hne:∀b o,A=some ⟨b,o,none⟩->b<w.heap.size->some b≠v.ownBlock:=by
  intro b o e hlt e2
  rcases ho.2 with⟨rfl,_⟩|⟨g',cap',cur,rfl,hb,hgb,_⟩
  ·simp[Value.ownBlock] at e2
  ·have e3:b=g':=by simpa [Value.ownBlock] using e2
   subst e3
   rcases h3 b o e with h4|⟨cur',h4⟩
   ·omega
   ·rw[hgb] at h4;injection h4 with h4
    injection h4 with _ h4 _
    exact absurd h4 (by decide)
 refine⟨⟨h2.1,fun hn=>?_⟩,fun b o e=>?_⟩
 ·obtain⟨b,o,e,hlt,hc⟩:=h2.2 hn;refine⟨b,o,e,YaK hlt hg.size,fun k u hu=>?_⟩;rw[World.cell?_of_block (w:=w) (hg.block b hlt (hne b o e hlt))];exact hc k u hu
 ·rcases h3 b o e with h4|⟨cur',h4⟩
  ·exact .inl h4
  ·have hlt:b<w.heap.size:=by
    by_cases hl:b<w.heap.size
    ·exact hl
    ·rw[Array.getElem?_eq_none (by omega)] at h4;cases h4
   exact .inr ⟨cur',(hg.block b hlt (hne b o e hlt)).trans h4⟩
theorem AlR.push{w w':World}{B:Nat}{l:List Int}{E:Nat->List Int}{es:List Zer}{v:Value}{n:Nat}{xs:List Value}(h:AlR w B l E es)(ho:w.ownsRow B 26 1 v n xs)(hg:w.grownBy w' v.ownBlock):AlR w' B l E es:=fun j s hs h1=>⟨(h j s hs h1).1,ZtY (h j s hs h1).2.1 (h j s hs h1).2.2 ho hg⟩
theorem AlR.snoc{w:World}{B:Nat}{l:List Int}{E:Nat->List Int}{es:List Zer}{k:Nat}{s:Zer}(h:AlR w B l E es)(hl:es.length=k)(h1:1<=k->s.2.1=szN l k/\Rd w 1 s.1 (szN l k) (iv (E k))/\SlT w B s.1):AlR w B l E (es++[s]):=by
 intro j t ht hj1
 by_cases hj:j<es.length
 ·rw[YaV hj] at ht;exact h j t ht hj1
 ·rw[YaU (by omega)] at ht;have h0:j-es.length=0:=by
   have:=(YaG.1 ht).1;simp at this;omega
  rw[h0] at ht;obtain rfl:s=t:=by simpa using ht
  obtain rfl:j=k:=by omega
  exact h1 hj1
section
variable(A:Option Addr)(n cap:Nat)(l:List Int)(Ap:Option Addr)(NP cp:Nat)(P:List Int)(q:Int)(w:World)
theorem Zna(N cx M cy:Nat)(X Y:Option Addr)(x y:List Int)(h:Zb8 w A n cap l Ap NP cp P q)(hN:N=szN l 0)(hxl:x.length=N)(hx:Rd w 1 X N (iv x))(hxi:Zaw x)(hM:M=szN l (n-1))(hy:Rd w 1 Y M (iv y)) :
  Calls prog 90 #[Zd8 A n cap Ap NP cp q,.slice X N cx,.slice Y M cy] w (Zal w 2 1 NP (iv (Zls l n P q x y))):=by
 have hn2:=h.ok.n2;have hn16:=h.ok.n16;obtain⟨V,hV⟩:∃V,trR l n P q x=V:=⟨_,rfl⟩;obtain⟨E,hE⟩:∃E,erE l n P q V y=E:=⟨_,rfl⟩;have HLA:=hid (fun W=>Zc6 A n cap Ap NP cp q W (by omega) (by omega));have HTR:=hid (fun W (a:Zb8 W A n cap l Ap NP cp P q) (b:Rd W 1 X N (iv x))=>Zlo A n cap l Ap NP cp P q W N cx X x a hN hxl b hxi);rw[hV] at HTR;have HPL:=hid (fun W (a:Rd W 1 A n (iv l))=>ZjV A n cap l NP P q W h.ok a);have HER:=hid (fun k (hk1:1<=k) (hk:k<n) W (a:Zb8 W A n cap l Ap NP cp P q) Av cv ss (b:Zr5 W l n V Av ss) (c:Rd W 1 Y M (iv y))=>Zfl A n cap l Ap NP cp P q Av cv V ss Y M cy y (n-1-k) W a b (by omega) hM c);have HEE:=hid (fun k=>congrFun hE k);have hrg:Zls l n P q x y=(Zlp l (n-1)).map (grF q V E):=by rw[Zls,hV,hE]
 rw[hrg];have HVL:=hid (fun k=>(show (V k).length=szN l k by rw[<-hV];exact ZiN (by rw[hxl,hN]) k));have HVI:=hid (fun k=>(show Zaw (V k) by rw[<-hV];exact Zuy h.ok.pin hxi k));have HEI:=hid (fun k=>(show Zaw (E k) by rw[<-hE];exact Zuz _));have HH:=hid h;have HX:=hid hx;have HY:=hid hy;have HPN:Hid ((Zlp l (n-1)).length=NP):=hid (by rw[Zc7,h.ok.cnt]);have HNP:=hid h.ok.np;obtain⟨pls,hpls⟩:∃p,Zlp l (n-1)=p:=⟨_,rfl⟩;have HPM:=hid (fun p (hp:p∈pls)=>Zn9 l (n-1) p (by rw[hpls];exact hp));rw[hpls] at HPN HPL ⊢;have HG:Hid (∀W,w.alloc (.cells (Zcg A n cap Ap NP cp q) 202)=W->Below w.heap.size w W/\Blk W w.heap.size 202 (Zcg A n cap Ap NP cp q)):=hid (by
  rintro W rfl;exact⟨bA0 _,Blk.new _ _ _⟩)
 clear hV hE hrg hpls h hN hxl hx hxi hM hy
 go_enter func90,ntmps90
 go_wp2_with fail;obtain⟨w0,hw0⟩:∃w0,w.alloc (.cells (Zcg A n cap Ap NP cp q) 202)=w0:=⟨_,rfl⟩;obtain⟨hB,hI⟩:=HG.out _ hw0;rw[hw0];have HB:=hid hB;((with_reducible refine(HTR.out _ (HH.out.below hB) (HX.out.below hB)).mono ?_);rintro e w1 ⟨Av,cv,ss,rfl,hsl,hov,htr,hb1⟩);have HB1:=hid (bT0 hB hb1);have HI1:=hid (hI.kept hb1);have HV1:Hid (Zr5 w1 l n V Av ss):=hid ⟨hsl,Rd.of_own hov,fun j s hs=>⟨(htr j s hs).1,(htr j s hs).2.1⟩⟩;clear hw0 HG hB hI hsl hov htr hb1;have y0:=cv0 HI1.out;have y1:w1.cell? ⟨w.heap.size,1,none⟩=some (.slice Ap NP cp):=HI1.out.cell 1;have y2:w1.cell? ⟨w.heap.size,2,none⟩=some (.int .i64 q):=HI1.out.cell 2;have yl:=HI1.out.lt;go_wp2_with fail;((with_reducible refine(HPL.out _ (HH.out.rl.below HB1.out)).mono ?_);rintro e w2 ⟨Aq,cq,rfl,hoq,hb2⟩);have HB2:=hid (bT0 HB1.out hb2);have HI2:=hid (HI1.out.kept hb2);have HV2:=hid (HV1.out.below hb2);have HQ2:=hid (Rd.of_own hoq);clear y0 y1 y2 yl hb2 hoq;go_wp2_with fail
 go_loopw [9,10] (fun o v wr=>∃(k:Nat) (Al:Option Addr) (cl:Nat) (es:List Zer),k<=n/\v=.int .i64 k/\o=.slice Al k cl/\es.length=k/\wr.ownsRow w2.heap.size 26 1 (.slice Al k cl) k (es.map slv)/\AlR wr w2.heap.size l E es/\Bz0 w2 wr) (fun _ v _=>n-(intOf v).toNat)
 case atStart=>exact⟨0,none,0,[],by omega,rfl,rfl,rfl,World.ownsRow_nil _ _ _ _,fun j s hs=>by simp at hs,bR0 _ _⟩
 case round=>
  obtain⟨k,Al,cl,es,hk,rfl,rfl,hal,ho,ha,hb⟩:=hrel;have HI3:=hid (HI2.out.kept hb);have y0:=cv0 HI3.out;have y1:wr.cell? ⟨w.heap.size,1,none⟩=some (.slice Ap NP cp):=HI3.out.cell 1;have y2:wr.cell? ⟨w.heap.size,2,none⟩=some (.int .i64 q):=HI3.out.cell 2;have yl:=HI3.out.lt;have HO:=hid ho;have HA:=hid ha;have HBX:=hid hb;have HAL:=hid hal;clear ho ha hb hal;go_wp2_with fail;((with_reducible refine(HLA.out _).mono ?_);rintro e w3 ⟨rfl,hb3⟩);have HBX3:=hid (bT0 HBX.out hb3);have HO3:=hid (Zac HO.out hb3);have HA3:=hid (HA.out.below hb3);clear hb3 y0 y1 y2 yl
  by_cases hlt:k<n
  ·have r2:decide ((k:Int)<=((n-1:Nat):Int))=true:=YaJ (by omega);have hszz:=HBX3.out.size
   by_cases hk0:k=0
   ·subst hk0
    go_wp2_with (at_builtin;go_must (refine ZaM ZjU rfl _ _ rfl w2.heap.size _ 0 (es.map slv) rfl HO3.out #[.slice none 0 0] _ rfl rfl rfl (Zm6 _ _ _) (by unfold maxLen;omega) (by omega) hszz ?_);go_must (intro A4 c4 w4 hown4 hb4 hg4))
    have hg5:w3.grownBy w4 (Value.slice Al 0 cl).ownBlock:=hg4;have ha5:=(HA3.out.snoc (s:=(none,0,0)) HAL.out (fun h=>by omega)).push HO3.out hg5;have HO9:=hid hown4;have HA9:=hid ha5;have HB9:=hid (HBX3.out.trans hb4);clear hown4 hb4 hg4 hg5 ha5
    go_roundw
    case rel=>exact⟨1,A4,c4,es++[(none,0,0)],by omega,by go_num,rfl,by rw[YaS,HAL.out];rfl,by rw[List.map_append];exact HO9.out,HA9.out,HB9.out⟩
    case measure=>simp[intOf];omega
   ·have r3:(0:Int)<(k:Int):=by omega
    go_wp2_with (at_builtin;go_must (refine ZaM ZjU rfl _ _ rfl w2.heap.size _ k (es.map slv) rfl HO3.out #[.slice none 0 0] _ rfl rfl rfl (Zm6 _ _ _) (by unfold maxLen;omega) (by omega) hszz ?_);go_must (intro A4 c4 w4 hown4 hb4 hg4;(have HB4:=hid (HBX3.out.trans hb4));(have HI4:=hid (HI2.out.kept HB4.out));(have y0:w4.cell? ⟨w.heap.size,0,none⟩=some (.slice A n cap):=HI4.out.cell 0);(have y1:w4.cell? ⟨w.heap.size,1,none⟩=some (.slice Ap NP cp):=HI4.out.cell 1);(have y2:w4.cell? ⟨w.heap.size,2,none⟩=some (.int .i64 q):=HI4.out.cell 2);(have yl:=HI4.out.lt)))
    have hn1:n-1-(n-1-k)=k:=by omega
    have HE4:=HER.out k (by omega) hlt w4 (HH.out.below (bT0 HB2.out HB4.out)) Av cv ss (HV2.out.below HB4.out) (HY.out.below (bT0 HB2.out HB4.out));rw[hn1] at HE4;have hek:erR l n P q V y (n-1-k)=E k:=HEE.out k;rw[hek] at HE4;obtain⟨R,hR⟩:∃R,szN l k=R:=⟨_,rfl⟩;rw[hR] at HE4;((with_reducible refine HE4.mono ?_);rintro e w5 ⟨Ad,cd,rfl,hod,hb5⟩);have HOD:=hid hod;have HG4:=hid hg4;have HO4:=hid hown4;have HB5:=hid (bT0 HB4.out hb5);obtain⟨g4,rfl⟩:=Zbw hown4 (by omega);have hg5:w3.grownBy w4 (Value.slice Al k cl).ownBlock:=hg4;have ha5:=((HA3.out.push HO3.out hg5).below hb5).snoc (s:=(Ad,R,cd)) HAL.out (fun _=>⟨hR.symm,by rw[hR];exact Rd.of_own hod,SlT.own hod⟩);have ho5:=Zac hown4 hb5;have c1:w5.cell? ⟨g4,k,none⟩=some (.slice none 0 0):=by
     rw[ho5.cellAt k (by omega),YaU (by simp[HAL.out])];simp[HAL.out]
    have f1:=ho5.frozenAt k;have l1:=(ho5.lt g4 rfl).2;obtain⟨st1,st2⟩:=ho5.stored k (.slice Ad R cd);have hset:(es.map slv++(#[Value.slice none 0 0]:Array Value).toList).set k (.slice Ad R cd)=(es++[(Ad,R,cd)]).map slv:=by
     rw[List.set_append_right _ _ (by simp[HAL.out])];simp[HAL.out,slv]
    rw[hset] at st1;have ha6:=ha5.push ho5 (v:=.slice (some ⟨g4,0,none⟩) (k+1) c4) st2;have hb6:Below w2.heap.size w2 (w5.setCell ⟨g4,k,none⟩ (.slice Ad R cd)):=HB5.out.setCell (p:=⟨g4,k,none⟩) (ho5.lt g4 rfl).1 _;have HO9:=hid st1;have HA9:=hid ha6;have HB9:=hid hb6;have hkk:k<k+1:=by omega
    clear hod hg4 hown4 hb5 hg5 ha5 ho5 st1 st2 hset ha6 hb6 HOD HG4 HO4 hR HE4 hek hn1 y0 y1 y2 yl;go_wp2_with fail
    go_roundw
    case rel=>exact⟨k+1,some ⟨g4,0,none⟩,c4,es++[(Ad,R,cd)],by omega,by go_num,rfl,by rw[YaS,HAL.out];rfl,HO9.out,HA9.out,HB9.out⟩
    case measure=>simp[intOf];omega
  ·obtain rfl:k=n:=by omega
   have r2:decide ((k:Int)<=((k-1:Nat):Int))=false:=YaI (by omega);go_wp2_with fail;have HBX4:=hid HBX3.out
   go_loopw [11,12] (fun o v wr=>∃(i:Nat) (A7:Option Addr) (c7:Nat),i<=NP/\v=.int .i64 i/\o=.slice A7 i c7/\wr.ownsRow w3.heap.size 2 1 (.slice A7 i c7) i (iv ((pls.take i).map (grF q V E)))/\Bz0 w3 wr) (fun _ v _=>NP-(intOf v).toNat)
   case atStart=>exact⟨0,none,0,by omega,rfl,rfl,World.ownsRow_nil _ _ _ _,bR0 _ _⟩
   case round=>
    obtain⟨i,A7,c7,hi,rfl,rfl,ho,hb⟩:=hrel
    by_cases hlt:i<NP
    ·have hb2:Below w2.heap.size w2 wr:=bT0 HBX3.out hb;obtain⟨⟨a1,a2,a3⟩,hp⟩:∃p,pls[i]?=some p:=⟨_,YaA (by rw[HPN.out];exact hlt)⟩;obtain⟨kk,r,hkk,e1,e2,hr,hc⟩:=HPM.out _ (YaL hp);dsimp only at e1 e2 hc;subst e1 e2;obtain⟨p1,p2,p3⟩:=ZtX pls i _ hp;dsimp only at p1 p2 p3;obtain⟨gq,oq,rfl,ql,qc⟩:=(HQ2.out.below hb2).2 (by omega);have q1:=qc _ _ p1;have q2:=qc _ _ p2;have q3:=qc _ _ p3;rw[<-Nat.add_assoc] at q2 q3;obtain⟨gl,rfl⟩:=Zbw HO3.out (by omega);have hor:=Zac HO3.out hb;obtain⟨⟨Ae,ne,ce⟩,hs⟩:∃s,es[kk+1]?=some s:=⟨_,YaA (by rw[HAL.out];omega)⟩;obtain⟨hne,hre,-⟩:=(HA3.out.below hb) _ _ hs (by omega);dsimp only at hne hre;subst hne;have lc:wr.cell? ⟨gl,kk+1,none⟩=some (.slice Ae (szN l (kk+1)) ce):=by
      rw[hor.cellAt (kk+1) (by omega),YaR,hs];rfl
     have ll:=(hor.lt gl rfl).2;obtain⟨ge,oe,rfl,el,ec⟩:=Zhh hre hr;obtain⟨d,hd⟩:∃d,(E (kk+1)).getD r 0=d:=⟨_,rfl⟩;have hdi:In1 d:=by rw[<-hd];exact getD_in (HEI.out _) _
     rw[hd] at ec;obtain⟨R,hR⟩:∃R,szN l (kk+1)=R:=⟨_,rfl⟩;rw[hR] at lc hr;have r4:(i:Int)<(NP:Int):=by omega
     have hkn:kk+1<k:=by omega
     have hnp:=HNP.out;have HLT:=hid hlt;have HOX0:=hid ho;have HBX5:=hid hb;have htk:(pls.take (i+1)).map (grF q V E)=(pls.take i).map (grF q V E)++[grF q V E ((kk:Int),(r:Int),a3)]:=by
      rw[List.take_add_one,hp];simp
     have HTK:=hid htk;have hI5:=HI2.out.kept hb2;have y2:wr.cell? ⟨w.heap.size,2,none⟩=some (.int .i64 q):=hI5.cell 2;have yl:=hI5.lt
     rcases hc with rfl|⟨c,rfl,hc⟩
     ·have hgv:grF q V E ((kk:Int),(r:Int),-1)=d:=by
       unfold grF;rw[if_neg (show ¬(0:Int)<=-1 by decide)];simp only[Int.toNat_natCast];exact hd
      have HGV:=hid hgv;clear hp p1 p2 p3 qc hor hs hre hd hdi hR htk hgv hlt ho hb hb2 hI5;go_wp2_with fail
      go_quiet (fail)
      obtain⟨w7,hw7⟩:∃w7,(wr.alloc (.cells #[.int .i64 kk,.int .i64 r,.int .i64 (-1)] 313)).drewN nq=w7:=⟨_,rfl⟩;have hb7:Below wr.heap.size wr w7:=by rw[<-hw7];exact(((Zag.of (bR0 _ wr)).alloc _).drewN nq).2.2
      have hx7:Blk w7 wr.heap.size 313 #[.int .i64 kk,.int .i64 r,.int .i64 (-1)]:=by rw[<-hw7];exact(Blk.new _ _ _).drewN nq
      rw[hw7];have b0:w7.cell? ⟨wr.heap.size,0,none⟩=some (.int .i64 kk):=hx7.cell 0;have b1:w7.cell? ⟨wr.heap.size,1,none⟩=some (.int .i64 r):=hx7.cell 1;have b2:w7.cell? ⟨wr.heap.size,2,none⟩=some (.int .i64 (-1)):=hx7.cell 2;have bl:=hx7.lt;have HOX:=hid (Zac HOX0.out hb7);have HBX7:=hid (bT0 HBX5.out hb7);have hszz:=HBX7.out.size;clear hw7 hb7 hx7 q1 q2 q3 ql lc ll el ec y2 yl
      go_wp2_with (at_builtin;go_must (refine Zav ZeQ rfl _ _ rfl w3.heap.size (.slice A7 i c7) i (iv ((pls.take i).map (grF q V E))) rfl HOX.out #[.int .i64 d] _ rfl rfl rfl (Zd4 _) (by unfold maxLen;omega) (by omega) hszz ?_);go_must (intro A9 c9 w9 hown9 hb9))
      have HO9:=hid (show w9.ownsRow w3.heap.size 2 1 (.slice A9 (i+1) c9) (i+1) (iv ((pls.take (i+1)).map (grF q V E))) by
       rw[HTK.out,Zbs,HGV.out];exact hown9)
      have HB9:=hid (HBX7.out.trans hb9);clear hown9 hb9
      go_roundw
      case rel=>exact⟨i+1,HLT.out,by go_num,A9,c9,⟨rfl,rfl,rfl⟩,(by rw[<-List.map_take];exact HO9.out),HB9.out⟩
      case measure=>simp[intOf];have:=HLT.out;omega
     ·have hgv:grF q V E ((kk:Int),(r:Int),(c:Int))=Zeb d ((V kk).getD c 0) q:=by
       unfold grF;rw[if_pos (show (0:Int)<=(c:Int) by omega)];simp only[Int.toNat_natCast];rw[hd]
      obtain⟨gv,ov,Av2,cv2,rfl,vl,vc,vr⟩:=(HV2.out.below hb2).at (show kk<k by omega);obtain⟨gs,os,rfl,sl,sc⟩:=Zhh vr hc;obtain⟨u,hu⟩:∃u,(V kk).getD c 0=u:=⟨_,rfl⟩;have hui:In1 u:=by rw[<-hu];exact getD_in (HVI.out _) _
      rw[hu] at sc hgv;obtain⟨C,hC⟩:∃C,szN l kk=C:=⟨_,rfl⟩;rw[hC] at vc hc;have HGV:=hid hgv;have HDI:=hid hdi;have HUI:=hid hui;have HVC:=hid vc;have HSC:=hid sc;have HY2:=hid y2;clear hp p1 p2 p3 qc hor hs hre hd hdi hR htk hgv hlt ho hb hb2 hI5 hu hui hC vr;have d0:(0:Int)<=(c:Int):=by omega
      go_wp2_with fail
      go_quiet (fail)
      obtain⟨w7,hw7⟩:∃w7,(wr.alloc (.cells #[.int .i64 kk,.int .i64 r,.int .i64 c] 313)).drewN nq=w7:=⟨_,rfl⟩;have hb7:Below wr.heap.size wr w7:=by rw[<-hw7];exact(((Zag.of (bR0 _ wr)).alloc _).drewN nq).2.2
      have hx7:Blk w7 wr.heap.size 313 #[.int .i64 kk,.int .i64 r,.int .i64 c]:=by rw[<-hw7];exact(Blk.new _ _ _).drewN nq
      rw[hw7];have b0:w7.cell? ⟨wr.heap.size,0,none⟩=some (.int .i64 kk):=hx7.cell 0;have b1:w7.cell? ⟨wr.heap.size,1,none⟩=some (.int .i64 r):=hx7.cell 1;have b2:w7.cell? ⟨wr.heap.size,2,none⟩=some (.int .i64 c):=hx7.cell 2;have bl:=hx7.lt;have HOX:=hid (Zac HOX0.out hb7);have HBX7:=hid (bT0 HBX5.out hb7);have hszz:=HBX7.out.size;have vc7:w7.cell? ⟨gv,ov+kk,none⟩=some (.slice (some ⟨gs,os,none⟩) C cv2):=(hb7.cell (p:=⟨gv,ov+kk,none⟩) vl).trans HVC.out;have sc7:w7.cell? ⟨gs,os+c,none⟩=some (.int .i64 u):=(hb7.cell (p:=⟨gs,os+c,none⟩) sl).trans HSC.out;have y7:w7.cell? ⟨w.heap.size,2,none⟩=some (.int .i64 q):=(hb7.cell (p:=⟨w.heap.size,2,none⟩) yl).trans HY2.out;have vl7:gv<w7.heap.size:=YaK vl hb7.size;have sl7:gs<w7.heap.size:=YaK sl hb7.size;have yl7:w.heap.size<w7.heap.size:=YaK yl hb7.size;have hkk2:kk<k:=by omega
      have HMU:=hid (fun(v:KW w7)=>Zcn d u q v.w HDI.out HUI.out);clear hw7 hb7 hx7 q1 q2 q3 ql lc ll el ec y2 yl vc sc vl sl;go_wp2_with fail;refine ZaK w7 (by kernel_rfl) (by kernel_rfl) (Zag.of (bR0 _ _)) ?_;have KC:=fun(u:KW w7) b o h=>KW.cells u b o h
      repeat (go_big_quiet_step ((go_at_call 159;with_reducible exact ZeG (HMU.out _))))
      refine wpQuiet_nil ?_;rintro w8 ⟨⟨_,k8⟩,rfl⟩
      rename World=>w8
      have HOX8:=hid (Zac HOX.out k8.2.2);have HBX8:=hid (bT0 HBX7.out k8.2.2);have hszz8:=HBX8.out.size;clear b0 b1 b2 bl vc7 sc7 y7 vl7 sl7 yl7 KC k8
      go_wp2_with (at_builtin;go_must (refine Zav ZeQ rfl _ _ rfl w3.heap.size (.slice A7 i c7) i (iv ((pls.take i).map (grF q V E))) rfl HOX8.out #[.int .i64 (Zeb d u q)] _ rfl rfl rfl (Zd4 _) (by unfold maxLen;omega) (by omega) hszz8 ?_);go_must (intro A9 c9 w9 hown9 hb9))
      have HO9:=hid (show w9.ownsRow w3.heap.size 2 1 (.slice A9 (i+1) c9) (i+1) (iv ((pls.take (i+1)).map (grF q V E))) by
       rw[HTK.out,Zbs,HGV.out];exact hown9)
      have HB9:=hid (HBX8.out.trans hb9);clear hown9 hb9
      go_roundw
      case rel=>exact⟨i+1,HLT.out,by go_num,A9,c9,⟨rfl,rfl,rfl⟩,(by rw[<-List.map_take];exact HO9.out),HB9.out⟩
      case measure=>simp[intOf];have:=HLT.out;omega
    ·obtain rfl:i=NP:=by omega
     have hb2:Below w2.heap.size w2 wr:=bT0 HBX3.out hb;have HOX:=hid ho;have HBW:=hid (bT0 HB2.out hb2);have HSZ:Hid (w.heap.size<=w3.heap.size):=hid (YaH HB2.out.size HBX3.out.size);clear ho hb hb2;go_wp2_with fail;go_ret;rw[YaX (by rw[HPN.out];exact YaF _)] at HOX;exact⟨A7,c7,rfl,Zae HOX.out HSZ.out,HBW.out⟩
end
theorem Zfm(a b:Int):wrap64 (wrap64 a+b)=wrap64 (a+b):=by unfold wrap64;omega
def sgm(f:Nat->Int):Nat->Int
 |0=>0
 |c+1=>sgm f c+f c
theorem Zhj{f g:Nat->Int}:∀c,(∀i,i<c->f i=g i)->sgm f c=sgm g c
 |0,_=>rfl
 |c+1,h=>by rw[sgm,sgm,Zhj c (fun i hi=>h i (by omega)),h c (by omega)]
theorem Zlt(f:Nat->Int):∀c,sgm f (c+1)=f 0+sgm (fun i=>f (i+1)) c
 |0=>by simp[sgm]
 |c+1=>by rw[sgm,Zlt f c,sgm];omega
theorem Zoa{l P:List Int}{q:Int}{k r:Nat}{x:List Int}(hP:Zaw P):∀c,ZlI l P q k r x c=wrap64 (bsR l P k r+sgm (fun i=>Zeb (wtR l P k r i) (x.getD i 0) q) c)
 |0=>by
  have h:=getD_in hP (obN l k+r);rw[ZlI,sgm,Int.add_zero];exact(Za6 _ h.1 h.2).symm
 |c+1=>by rw[ZlI,Zoa hP c,Zfm,sgm];congr 1;omega
theorem Zob{l P:List Int}{q:Int}{k c:Nat}{d:List Int}:∀r,ZpE l P q k c d r=wrap64 (sgm (fun i=>Zeb (wtR l P k i c) (d.getD i 0) q) r)
 |0=>by rw[ZpE,sgm];exact(Za6 0 (by omega) (by omega)).symm
 |r+1=>by rw[ZpE,Zob r,Zfm,sgm]
theorem Zoc(q:Int):∀(a b:List Int) (s:Int),In1 s->a.length=b.length->Zl5 q a b s=wrap64 (s+sgm (fun i=>Zeb (a.getD i 0) (b.getD i 0) q) a.length)
 |[],b,s,h,_=>by
  have e:Zl5 q [] b s=s:=by cases b<;>rfl
  rw[e];simp only[List.length_nil,sgm,Int.add_zero];exact(Za6 _ h.1 h.2).symm
 |x::a,[],s,h,hl=>by simp at hl
 |x::a,y::b,s,h,hl=>by
  rw[Zl5,Zoc q a b _ (Za0 _) (by simpa using hl),Zfm,List.length_cons,Zlt]
  congr 1
  simp only[List.getD_cons_zero,List.getD_cons_succ];omega
theorem Zod(q:Int)(a b:List Int)(h:a.length=b.length):Zl6 q a b=wrap64 (sgm (fun i=>Zeb (a.getD i 0) (b.getD i 0) q) a.length):=by
 rw[Zl6,Zoc q a b 0 ⟨by decide,by decide⟩ h,Int.zero_add]
theorem Zr8(n:Nat)(F:Nat->Int)(i:Nat)(h:i<n):(ZcN n F).getD i 0=F i:=by
 rw[YaT,Zcc n F i h];rfl
theorem Zhk{l:List Int}{n:Nat}{F:Nat->Int}(hl:l.length=n)(h:∀i,i<n->l.getD i 0=F i):l=ZcN n F:=by
 apply List.ext_getElem?
 intro i
 by_cases hi:i<n
 ·rw[Zcc n F i hi,YaA (by omega)];have:=h i hi;rw[YaT,YaA (by omega)] at this
  simpa using this
 ·rw[YaN (by omega),YaN (by rw[ZaE];omega)]
theorem Zbv(P:List Int)(o m i:Nat)(h:i<m):((P.drop o).take m).getD i 0=P.getD (o+i) 0:=by
 rw[YaT,YaT,List.getElem?_take,if_pos h,List.getElem?_drop]
section
variable{l:List Int}{n NP:Nat}{P:List Int}{q:Int}
theorem ZvL(hN:NetP l n NP P q){k:Nat}(hk:k<n-1):(wtL l P k).length=szN l (k+1)*szN l k:=by
 have h1:=hN.fit hk;have h2:obN l k=ofN l k+szN l (k+1)*szN l k:=rfl;rw[wtL,List.length_take,List.length_drop,hN.pl];omega
theorem ZvM{R C r c:Nat}(hr:r<R)(hc:c<C):r*C+c<R*C:=by
 have h1:(r+1)*C<=R*C:=YaW _ hr;rw[Nat.succ_mul] at h1;omega
theorem ZvN{k r c:Nat}(hr:r<szN l (k+1))(hc:c<szN l k):(Zd6 (wtL l P k) (szN l k) r).getD c 0=wtR l P k r c:=by
 rw[Zd6,Zbv _ _ _ _ hc,wtL,Zbv _ _ _ _ (ZvM hr hc),wtR,Nat.add_assoc]
theorem Zr9(hN:NetP l n NP P q){k r:Nat}(hk:k<n-1)(hr:r<szN l (k+1)):(Zd6 (wtL l P k) (szN l k) r).length=szN l k:=by
 rw[Zd6,List.length_take,List.length_drop,ZvL hN hk];have h1:(r+1)*szN l k<=szN l (k+1)*szN l k:=YaW _ hr;rw[Nat.succ_mul] at h1;omega
theorem Zw1(hN:NetP l n NP P q){k:Nat}(hk:k<n-1){x:List Int}(hx:x.length=szN l k):ZxF l n P q k x=Zs6 l n P q k x:=by
 have hz:∀r,r<szN l (k+1)->(ZpB l P q k x).getD r 0=ZlI l P q k r x (szN l k):=by
  intro r hr;have hm:(Zik (wtL l P k) x q (szN l (k+1)))[r]?=some (Zl6 q (Zd6 (wtL l P k) x.length r) x):=Zcc _ _ r hr;rw[ZpB,YaT,Zbj,hm,Option.map_some,Option.getD_some,if_pos (by omega),Nat.sub_zero,hx,Zod q _ _ (by rw[Zr9 hN hk hr,hx]),Zr9 hN hk hr,Zfm,Zoa hN.pin];have hb:(bsL l P k).getD r 0=bsR l P k r:=by rw[bsL,Zbv _ _ _ _ hr,bsR]
  rw[hb,Int.add_comm]
  congr 2
  exact Zhj _ (fun c hc=>by rw[ZvN hr hc])
 symm
 unfold Zs6
 split
 ·rename_i hc
  refine Zhk (by rw[List.length_map,Zcp]) (fun r hr=>?_);have hl:r<(ZpB l P q k x).length:=by rw[Zcp];exact hr
  have h1:=hz r hr;rw[YaT,YaA hl,Option.getD_some] at h1;rw[YaT,YaR,YaA hl,Option.map_some,Option.getD_some,h1,zR,if_pos hc]
 ·rename_i hc
  refine Zhk (Zcp _ _ _ _ _) (fun r hr=>?_);rw[hz r hr,zR,if_neg hc]
theorem ZtZ(hN:NetP l n NP P q){x:List Int}(hx:x.length=szN l 0):∀k,k<=n-1->trR l n P q x k=trN l n P q x k
 |0,_=>rfl
 |k+1,h=>by
  rw[trR,trN,ZtZ hN hx k (by omega)];exact Zw1 hN (by omega) (ZbA hx k)
theorem Zt0{k r c:Nat}(hr:r<szN l (k+1))(hc:c<szN l k):(Zd6 (Zd5 (wtL l P k) (szN l (k+1)) (szN l k)) (szN l (k+1)) c).getD r 0=wtR l P k r c:=by
 have h1:=ZvM hc hr;have h2:0<szN l (k+1):=by omega
 rw[Zd6,Zbv _ _ _ _ hr,Zd5,Zr8 _ _ _ h1,ZuU];have e1:(c*szN l (k+1)+r)%szN l (k+1)=r:=by rw[Nat.add_comm,Nat.add_mul_mod_self_right,Nat.mod_eq_of_lt hr]
 have e2:(c*szN l (k+1)+r)/szN l (k+1)=c:=by rw[Nat.add_comm,Nat.add_mul_div_right _ _ h2,Nat.div_eq_of_lt hr,Nat.zero_add]
 rw[e1,e2,wtL,Zbv _ _ _ _ (ZvM hr hc),wtR,Nat.add_assoc]
theorem Zoe{k c:Nat}(hc:c<szN l k):(Zd6 (Zd5 (wtL l P k) (szN l (k+1)) (szN l k)) (szN l (k+1)) c).length=szN l (k+1):=by
 rw[Zd6,List.length_take,List.length_drop,Zd5,ZaE];have h1:(c+1)*szN l (k+1)<=szN l k*szN l (k+1):=YaW _ hc;rw[Nat.succ_mul] at h1;omega
theorem Zw2(hN:NetP l n NP P q){x y:List Int}(hx:x.length=szN l 0):∀j,j<=n-2->erR l n P q (trR l n P q x) y j=dlN l n P q x y j
 |0,_=>by
  rw[erR,dlN,Zwc,ZtZ hN hx (n-1) (YaF _)];refine(Zhk (by rw[Zb5,ZbA hx]) (fun i hi=>?_)).symm;have hl:i<(trN l n P q x (n-1)).length:=by rw[ZbA hx];exact hi
  rw[YaT,Zes,List.getElem?_mapIdx,YaA hl,Option.map_some,Option.getD_some,if_pos hi];have h2:(trN l n P q x (n-1)).getD i 0=(trN l n P q x (n-1))[i]:=by rw[YaT,YaA hl];rfl
  rw[h2]
 |j+1,h=>by
  have ih:=Zw2 hN (y:=y) hx j (by omega);have hdl:(dlN l n P q x y j).length=szN l (n-2-j+1):=by rw[ZdW hx j (by omega)];congr 1;omega
  rw[erR,dlN,ih,ZtZ hN hx _ (by omega)];have e1:n-1-j=n-2-j+1:=by omega
  rw[e1];generalize hk:n-2-j=k at hdl ⊢;have hkn:k<n-1:=by omega
  generalize hd:dlN l n P q x y j=d at hdl ⊢;refine(Zhk (by rw[ZbH,Zik,ZaE]) (fun c hc=>?_)).symm;have hm:(Zik (Zd5 (wtL l P k) (szN l (k+1)) (szN l k)) d q (szN l k))[c]?=some (Zl6 q (Zd6 (Zd5 (wtL l P k) (szN l (k+1)) (szN l k)) d.length c) d):=Zcc _ _ c hc;rw[Zcq,YaT,List.getElem?_mapIdx,hm,Option.map_some,Option.getD_some,if_pos hc,erF,hdl,Zob,Zod q _ _ (by rw[Zoe hc,hdl]),Zoe hc]
  congr 2
  exact Zhj _ (fun r hr=>by rw[Zt0 hr hc])
theorem Zlu(F:Nat->Int)(C:Nat)(G:Nat->Nat->Int):∀R,(∀r c,r<R->c<C->F (r*C+c)=G r c)->((List.range R).flatMap fun r=>(List.range C).map (G r))=ZcN (R*C) F
 |0,_=>by simp[ZcN]
 |R+1,h=>by
  rw[List.range_succ,List.flatMap_append,Zlu F C G R (fun r c hr hc=>h r c (by omega) hc),List.flatMap_singleton];unfold ZcN;rw[Nat.succ_mul,List.range_add,List.map_append,List.map_map]
  congr 1
  exact List.map_congr_left (fun c hc=>(h R c (by omega) (List.mem_range.1 hc)).symm)
theorem ZvO(hN:NetP l n NP P q){x y:List Int}(hx:x.length=szN l 0){k:Nat}(hk:k<n-1) :
  ((Zn7 k (szN l (k+1)) (szN l k)++Zn8 k (szN l (k+1))).map (grF q (trR l n P q x) (erE l n P q (trR l n P q x) y)))=sgN l n P q x y (n-2-k):=by
 have hE:erE l n P q (trR l n P q x) y (k+1)=dlN l n P q x y (n-2-k):=by
  rw[erE,show n-1-(k+1)=n-2-k by omega];exact Zw2 hN hx _ (by omega)
 have hV:=ZtZ hN hx k (by omega);have hdl:(dlN l n P q x y (n-2-k)).length=szN l (k+1):=by rw[ZdW hx _ (by omega)];congr 1;omega
 rw[List.map_append,sgN,show n-2-(n-2-k)=k by omega]
 congr 1
 ·rw[Zn7,List.map_flatMap,Zl2,hdl,ZbA hx];have:=Zlu (Zqa (dlN l n P q x y (n-2-k)) (trN l n P q x k) q) (szN l k) (fun r c=>grF q (trR l n P q x) (erE l n P q (trR l n P q x) y) ((k:Int),(r:Int),(c:Int))) (szN l (k+1)) (fun r c hr hc=>by
   have h2:0<szN l k:=by omega
   have e1:(r*szN l k+c)%szN l k=c:=by rw[Nat.add_comm,Nat.add_mul_mod_self_right,Nat.mod_eq_of_lt hc]
   have e2:(r*szN l k+c)/szN l k=r:=by rw[Nat.add_comm,Nat.add_mul_div_right _ _ h2,Nat.div_eq_of_lt hc,Nat.zero_add]
   rw[Zqa,ZbA hx,e1,e2,grF,if_pos (show (0:Int)<=(c:Int) by omega)];simp only[Int.toNat_natCast];rw[hE,hV])
  rw[<-this]
  congr 1
  funext r
  rw[Zn6,List.map_map];rfl
 ·rw[Zn8,List.map_map]
  symm
  refine Zhk hdl (fun r hr=>?_)
  show _=grF q (trR l n P q x) (erE l n P q (trR l n P q x) y) ((k:Int),(r:Int),(-1:Int))
  rw[grF,if_neg (show ¬(0:Int)<=-1 by decide)];simp only[Int.toNat_natCast];rw[hE]
theorem ZiO(hN:NetP l n NP P q){x y:List Int}(hx:x.length=szN l 0):∀K,K<=n-1->((Zlp l K).map (grF q (trR l n P q x) (erE l n P q (trR l n P q x) y)))++grT l n P q x y (n-1-K)=Zkw l n P q x y
 |0,_=>rfl
 |K+1,h=>by
  rw[<-ZiO hN hx K (by omega),Zlp,YaY (Zlp l K),List.map_append,ZvO hN hx (by omega),YaY]
  congr 1
  rw[show n-1-K=(n-2-K)+1 by omega,grT,show n-1-(K+1)=n-2-K by omega]
theorem Zt1(hN:NetP l n NP P q){x y:List Int}(hx:x.length=szN l 0):Zls l n P q x y=Zkw l n P q x y:=by
 have:=ZiO (y:=y) hN hx (n-1) (YaF _);rw[Nat.sub_self,grT,List.append_nil] at this;exact this
end
