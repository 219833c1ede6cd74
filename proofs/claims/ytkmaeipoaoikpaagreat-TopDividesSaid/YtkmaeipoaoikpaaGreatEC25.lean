/- Lemmas. -/
import Derived.Test.YtkmaeipoaoikpaaGreatEC24
namespace Go.Proofs.YtkmaeipoaoikpaaGreat
set_option linter.all false
set_option maxRecDepth 100000
set_option maxHeartbeats 4000000
open Lib (hid)
open Tryz
section
open Go.RowKit
theorem Zvs{l:List Int}(hp:∀(k:Nat) (x:Int),l[k]?=some x->1<=x){k:Nat}(hk:k+1<l.length):1<=Zbp l (k+1):=by
 rw[Zq7 hp (k+1) hk];have h1:=hp (k+1) _ (YaA hk);have h2:1<=szN l (k+1):=by
  unfold szN;rw[YaT,YaA hk];simp only[Option.getD_some];omega
 have h3:ofN l (k+1)=ofN l k+szN l (k+1)*szN l k+szN l (k+1):=rfl;omega
theorem ZtK{l:List Int}{c:Cfg}{es:List ExS}{m P D:Nat}(h:Zho l c es m P D=true):1<=P/\ZaO l c=true/\P<=1048576+P:=by
 unfold Zho at h;simp only[YaQ,decide_eq_true_eq] at h;obtain⟨h1,h2,h3,h4,h5⟩:=h;obtain⟨a1,a2,a3,-⟩:=Za8 h1;obtain⟨s2,s16,sw,-⟩:=Zcq a3;have hp:∀(k:Nat) (x:Int),l[k]?=some x->1<=x:=by
  intro k x hk;have hm:=YaL hk;have h1:¬(l.any fun x=>decide (x<1) || decide (1048576<x))=true:=by
   have:ZaU l=false:=sw;unfold ZaU at this;rw[this]
   decide
  rw[List.any_eq_true] at h1;have h2:¬(decide (x<1) || decide (1048576<x))=true:=fun e=>h1 ⟨x,hm,e⟩
  simp at h2;omega
 have h6:=Zvs hp (k:=l.length-2) (by omega);rw[show l.length-2+1=l.length-1 by omega] at h6;exact⟨by omega,h1,by omega⟩
def Zuj(n m P D:Nat)(l:List Int)(c:Cfg)(es:List ExS):Prop:=Few14 n m P D l c/\(Zho l c es m P D=true->c.mi<=20/\c.wk<=8/\P<=60)
def Zlh(n m P D:Nat)(l:List Int)(c:Cfg)(es:List ExS)(w:World)(e:Ending)(w':World):Prop:=∃b:Bool,e=.returned (.bool b)/\(b=true->Zuj n m P D l c es)/\Bz0 w w'
theorem ZtL{n m P D:Nat}{l:List Int}{c:Cfg}{es:List ExS}(f:Few14 n m P D l c)(h:Zjt n l c P=true):Zuj n m P D l c es:=⟨f,fun hok=>by
 obtain⟨h1,h2,-⟩:=ZtK hok;have h3:Zeb l c P=true:=by
  unfold Zeb;have:=f.P600;rw[h2,YaJ (show (1:Int)<=(P:Int) by omega),YaJ (show (P:Int)<=1048576 by omega)];rfl
 unfold Zjt at h;have:=f.n40;rw[if_neg (by omega),if_pos h3] at h;simp only[YaQ,decide_eq_true_eq] at h;exact⟨by omega,by omega,by omega⟩⟩
end
section
open Go.RowKit
variable(A:Option Addr)(n cap:Nat)(l:List Int)(c:Cfg)(S:Option Addr)(m cS:Nat)(es:List ExS)(AP:Option Addr)(P cP:Nat)(AD:Option Addr)(D cD:Nat)(w:World)
theorem Zph(hcap:n<=cap)(hln:l.length=n)(hr:Rd w 1 A n (iv l))(hl:es.length=m)(h:Rd w 2 S m (exV es)) :
  Calls prog 30 #[inV A n cap c S m cS AP P cP AD D cD] w (Zlh n m P D l c es w):=by
 have HG:Hid (∀W,w.alloc (.cells (inC A n cap c S m cS AP P cP AD D cD) 29)=W->Below w.heap.size w W/\Blk W w.heap.size 29 (inC A n cap c S m cS AP P cP AD D cD)):=hid (by
  rintro W rfl;exact⟨bA0 _,Blk.new _ _ _⟩)
 have HF:=hid (fun W (r1:Rd W 1 A n (iv l)) (r:Rd W 2 S m (exV es))=>ZrU A n cap l c S m cS es AP P cP AD D cD W hln r1 hl r);have HIN:=hid (fun W (r1:Rd W 1 A n (iv l)) (r:Rd W 2 S m (exV es)) (f:Few14 n m P D l c)=>Zct A n cap l c S m cS es AP P cP AD D cD W hln r1 hcap (by have:=f.n40;omega) hl r (by have:=f.m60;omega) (by have:=f.P600;omega) (by have:=f.D2000;omega) (fun e=>by have:=f.st e;omega));have HPL:=hid (fun W=>ZiH A n cap c S m cS AP P cP AD D cD W);have HPF:=hid (fun W (r1:Rd W 1 A n (iv l))=>ZoT A n cap l c P W hln r1);have HR:=hid h;have HQ:=hid hr;clear h hl hln hr hcap
 go_enter func30,ntmps30
 go_wp2_with fail;obtain⟨w0,hw0⟩:∃w0,w.alloc (.cells (inC A n cap c S m cS AP P cP AD D cD) 29)=w0:=⟨_,rfl⟩;obtain⟨hB,hI⟩:=HG.out _ hw0;rw[hw0];clear hw0 HG;have HB:=hid hB;have HI:=hid hI;((with_reducible refine(HF.out _ (HQ.out.below hB) (HR.out.below hB)).mono ?_);rintro e w1 ⟨b,rfl,hbt,hb1⟩);have HB1:=hid (bT0 HB.out hb1);have HI1:=hid (HI.out.kept hb1);have HBT:=hid hbt;clear hB hI hbt hb1 HB HI
 cases b
 ·go_wp2_with fail;go_ret;exact⟨false,rfl,fun e=>by simp at e,HB1.out⟩
 ·have hf:Few14 n m P D l c:=HBT.out (by trivial);have HFT:=hid hf;clear hf HBT;have k:=HI1.out;obtain⟨c0,c1,c2,c3,c4,c5,c6,c7,c8,c9,c10,c11,c12,c13,c14⟩:=cl15 k;have lc:=k.lt;clear k;go_wp2_with fail;clear c0 c1 c2 c3 c4 c5 c6 c7 c8 c9 c10 c11 c12 c13 c14 lc;((with_reducible refine(HIN.out w1 (HQ.out.below HB1.out) (HR.out.below HB1.out) HFT.out).mono ?_);rintro e w2 ⟨cd,rfl,hcd,hb2⟩);have HB2:=hid (bT0 HB1.out hb2);have HI2:=hid (HI1.out.kept hb2);have HCD:=hid hcd;clear hcd hb2
  by_cases h0:cd=0
  ·subst h0;have k:=HI2.out;obtain⟨c0,c1,c2,c3,c4,c5,c6,c7,c8,c9,c10,c11,c12,c13,c14⟩:=cl15 k;have lc:=k.lt;clear k;go_wp2_with fail;clear c0 c1 c2 c3 c4 c5 c6 c7 c8 c9 c10 c11 c12 c13 c14 lc;((with_reducible refine(HPL.out w2).mono ?_);rintro e w3 ⟨rfl,hb3⟩);have HB3:=hid (bT0 HB2.out hb3);have HI3:=hid (HI2.out.kept hb3);clear hb3;go_wp2_with fail;((with_reducible refine(HPF.out w3 (HQ.out.below HB3.out)).mono ?_);rintro e w4 ⟨rfl,hb4⟩);have HB4:=hid (bT0 HB3.out hb4);have k:=HI3.out.kept hb4;have c7:=cv7 k;have c12:=cv12 k;have lc:=k.lt;obtain⟨q,hq⟩:∃q,Zjt n l c P=q:=⟨_,rfl⟩;rw[hq];have fin:∀(b:Bool) (W:World),(b=true->q=true)->Below w.heap.size w W->Zlh n m P D l c es w (.returned (.bool b)) W:=fun b W hqb hb=>⟨b,rfl,fun e=>ZtL HFT.out (hq.trans (hqb e)),hb⟩
   clear hb4 k hq;have FIN:=hid fin;clear fin
   cases q
   ·go_wp2_with fail;go_ret;exact FIN.out _ _ (by simp) HB4.out
   ·by_cases f1:c.st<=6
    ·have g1:decide (c.st<=6)=true:=YaJ f1
     by_cases f2:m<=40
     ·have g2:decide ((m:Int)<=40)=true:=YaJ (by omega);clear f1 f2;go_wp2_with fail;go_ret;exact FIN.out _ _ (by simp) HB4.out
     ·have g2:decide ((m:Int)<=40)=false:=YaI (by omega);clear f1 f2;go_wp2_with fail;go_ret;exact FIN.out _ _ (by simp) HB4.out
    ·have g1:decide (c.st<=6)=false:=YaI f1;clear f1;go_wp2_with fail;go_ret;exact FIN.out _ _ (by simp) HB4.out
  ·have e5:(cd==0)=false:=by simp[h0]
   go_wp2_with fail;go_ret;exact⟨_,rfl,fun _=>⟨HFT.out,fun hok=>absurd (HCD.out.2 hok) h0⟩,HB2.out⟩
end
section
open Go.RowKit
def Zwu(n m P D:Nat)(l:List Int)(c:Cfg)(es:List ExS):Prop:=Few14 n m P D l c/\(Zho l c es m P D=true->c.mi<=20/\c.wk<=6/\P<=40/\c.st<=5)
def Zli(n m P D:Nat)(l:List Int)(c:Cfg)(es:List ExS)(w:World)(e:Ending)(w':World):Prop:=∃b:Bool,e=.returned (.bool b)/\(b=true->Zwu n m P D l c es)/\Bz0 w w'
end
section
open Go.RowKit
variable(A:Option Addr)(n cap:Nat)(l:List Int)(c:Cfg)(S:Option Addr)(m cS:Nat)(es:List ExS)(AP:Option Addr)(P cP:Nat)(AD:Option Addr)(D cD:Nat)(w:World)
theorem Zpi(hcap:n<=cap)(hln:l.length=n)(hr:Rd w 1 A n (iv l))(hl:es.length=m)(h:Rd w 2 S m (exV es)) :
  Calls prog 7 #[inV A n cap c S m cS AP P cP AD D cD] w (Zli n m P D l c es w):=by
 have HG:Hid (∀W,w.alloc (.cells (inC A n cap c S m cS AP P cP AD D cD) 29)=W->Below w.heap.size w W/\Blk W w.heap.size 29 (inC A n cap c S m cS AP P cP AD D cD)):=hid (by
  rintro W rfl;exact⟨bA0 _,Blk.new _ _ _⟩)
 have HF:=hid (fun W (r1:Rd W 1 A n (iv l)) (r:Rd W 2 S m (exV es))=>Zph A n cap l c S m cS es AP P cP AD D cD W hcap hln r1 hl r);have HIN:=hid (fun W (r1:Rd W 1 A n (iv l)) (r:Rd W 2 S m (exV es)) (f:Few14 n m P D l c)=>Zct A n cap l c S m cS es AP P cP AD D cD W hln r1 hcap (by have:=f.n40;omega) hl r (by have:=f.m60;omega) (by have:=f.P600;omega) (by have:=f.D2000;omega) (fun e=>by have:=f.st e;omega));have HR:=hid h;have HQ:=hid hr;clear h hl hln hr hcap
 go_enter func7,ntmps7
 go_wp2_with fail;obtain⟨w0,hw0⟩:∃w0,w.alloc (.cells (inC A n cap c S m cS AP P cP AD D cD) 29)=w0:=⟨_,rfl⟩;obtain⟨hB,hI⟩:=HG.out _ hw0;rw[hw0];clear hw0 HG;have HB:=hid hB;have HI:=hid hI;((with_reducible refine(HF.out _ (HQ.out.below hB) (HR.out.below hB)).mono ?_);rintro e w1 ⟨b,rfl,hbt,hb1⟩);have HB1:=hid (bT0 HB.out hb1);have HI1:=hid (HI.out.kept hb1);have HBT:=hid hbt;clear hB hI hbt hb1 HB HI
 cases b
 ·go_wp2_with fail;go_ret;exact⟨false,rfl,fun e=>by simp at e,HB1.out⟩
 ·have hf:=HBT.out (by trivial);have HFT:=hid hf.1;have HFG:=hid hf.2;clear hf HBT;have k:=HI1.out;obtain⟨c0,c1,c2,c3,c4,c5,c6,c7,c8,c9,c10,c11,c12,c13,c14⟩:=cl15 k;have lc:=k.lt;clear k;go_wp2_with fail;clear c0 c1 c2 c3 c4 c5 c6 c7 c8 c9 c10 c11 c12 c13 c14 lc;((with_reducible refine(HIN.out w1 (HQ.out.below HB1.out) (HR.out.below HB1.out) HFT.out).mono ?_);rintro e w2 ⟨cd,rfl,hcd,hb2⟩);have HB2:=hid (bT0 HB1.out hb2);have HI2:=hid (HI1.out.kept hb2);have HCD:=hid hcd;clear hcd hb2
  by_cases h0:cd=0
  ·subst h0;have k:=HI2.out;have c4:=cv4 k;have c7:=cv7 k;have c13:=cv13 k;have lc:=k.lt;have fin:∀(b:Bool) (W:World),(b=true->c.wk<=6/\c.st<=5/\P<=40)->Below w.heap.size w W->Zli n m P D l c es w (.returned (.bool b)) W:=fun b W hx hb=>⟨b,rfl,fun e=>⟨HFT.out,fun hok=>⟨(HFG.out hok).1,(hx e).1,(hx e).2.2,(hx e).2.1⟩⟩,hb⟩
   have FIN:=hid fin;clear fin k
   by_cases f0:c.wk<=6
   ·have g0:decide (c.wk<=6)=true:=YaJ (by omega);have F0:=hid f0;clear f0
    by_cases f1:c.st<=5
    ·have g1:decide (c.st<=5)=true:=YaJ (by omega);have F1:=hid f1;clear f1
     by_cases f2:P<=40
     ·have g2:decide ((P:Int)<=40)=true:=YaJ (by omega);have F2:=hid f2;clear f2;go_wp2_with fail;go_ret;exact FIN.out _ _ (fun _=>⟨F0.out,F1.out,F2.out⟩) HB2.out
     ·have g2:decide ((P:Int)<=40)=false:=YaI (by omega);have F2:=hid f2;clear f2;go_wp2_with fail;go_ret;exact FIN.out _ _ (fun e=>by simp at e) HB2.out
    ·have g1:decide (c.st<=5)=false:=YaI (by omega);have F1:=hid f1;clear f1;go_wp2_with fail;go_ret;exact FIN.out _ _ (fun e=>by simp at e) HB2.out
   ·have g0:decide (c.wk<=6)=false:=YaI (by omega);have F0:=hid f0;clear f0;go_wp2_with fail;go_ret;exact FIN.out _ _ (fun e=>by simp at e) HB2.out
  ·have e5:(cd==0)=false:=by simp[h0]
   go_wp2_with fail;go_ret;exact⟨_,rfl,fun _=>⟨HFT.out,fun hok=>absurd (HCD.out.2 hok) h0⟩,HB2.out⟩
end
section
open Go.RowKit
structure ZvM(n m P D:Nat)(l:List Int)(c:Cfg)(es:List ExS):Prop where
 few:Few14 n m P D l c
 ok:Zho l c es m P D=true
 mi:c.mi<=20
 wk:c.wk<=6
 P40:P<=40
 st5:c.st<=5
def Zvt(n m P D:Nat)(l:List Int)(c:Cfg)(es:List ExS)(w:World)(e:Ending)(w':World):Prop:=∃b:Bool,e=.returned (.bool b)/\(b=true->ZvM n m P D l c es)/\Bz0 w w'
end
section
open Go.RowKit
variable(A:Option Addr)(n cap:Nat)(l:List Int)(c:Cfg)(S:Option Addr)(m cS:Nat)(es:List ExS)(AP:Option Addr)(P cP:Nat)(AD:Option Addr)(D cD:Nat)(w:World)
theorem ZmX(AO:Option Addr)(no cO:Nat)(hcap:n<=cap)(hln:l.length=n)(hr:Rd w 1 A n (iv l))(hl:es.length=m)(h:Rd w 2 S m (exV es)) :
  Calls prog 17 #[inV A n cap c S m cS AP P cP AD D cD,.slice AO no cO] w (Zvt n m P D l c es w):=by
 have HG:Hid (∀W,w.alloc (.cells (inC A n cap c S m cS AP P cP AD D cD) 29)=W->Below w.heap.size w W/\Blk W w.heap.size 29 (inC A n cap c S m cS AP P cP AD D cD)):=hid (by
  rintro W rfl;exact⟨bA0 _,Blk.new _ _ _⟩)
 have HF:=hid (fun W (r1:Rd W 1 A n (iv l)) (r:Rd W 2 S m (exV es))=>Zpi A n cap l c S m cS es AP P cP AD D cD W hcap hln r1 hl r);have HIN:=hid (fun W (r1:Rd W 1 A n (iv l)) (r:Rd W 2 S m (exV es)) (f:Few14 n m P D l c)=>Zct A n cap l c S m cS es AP P cP AD D cD W hln r1 hcap (by have:=f.n40;omega) hl r (by have:=f.m60;omega) (by have:=f.P600;omega) (by have:=f.D2000;omega) (fun e=>by have:=f.st e;omega));have HR:=hid h;have HQ:=hid hr;clear h hl hln hr hcap
 go_enter func17,ntmps17
 go_wp2_with fail;obtain⟨w0,hw0⟩:∃w0,w.alloc (.cells (inC A n cap c S m cS AP P cP AD D cD) 29)=w0:=⟨_,rfl⟩;obtain⟨hB,hI⟩:=HG.out _ hw0;rw[hw0];clear hw0 HG;have HB:=hid hB;have HI:=hid hI;((with_reducible refine(HF.out _ (HQ.out.below hB) (HR.out.below hB)).mono ?_);rintro e w1 ⟨b,rfl,hbt,hb1⟩);have HB1:=hid (bT0 HB.out hb1);have HI1:=hid (HI.out.kept hb1);have HBT:=hid hbt;clear hB hI hbt hb1 HB HI
 cases b
 ·go_wp2_with fail;go_ret;exact⟨false,rfl,fun e=>by simp at e,HB1.out⟩
 ·have hf:=HBT.out (by trivial);have HFT:=hid hf.1;have HFG:=hid hf.2;clear hf HBT;have k:=HI1.out;obtain⟨c0,c1,c2,c3,c4,c5,c6,c7,c8,c9,c10,c11,c12,c13,c14⟩:=cl15 k;have lc:=k.lt;clear k;go_wp2_with fail;clear c0 c1 c2 c3 c4 c5 c6 c7 c8 c9 c10 c11 c12 c13 c14 lc;((with_reducible refine(HIN.out w1 (HQ.out.below HB1.out) (HR.out.below HB1.out) HFT.out).mono ?_);rintro e w2 ⟨cd,rfl,hcd,hb2⟩);have HB2:=hid (bT0 HB1.out hb2);have HI2:=hid (HI1.out.kept hb2);have HCD:=hid hcd;clear hcd hb2
  by_cases h0:cd=0
  ·subst h0;have HOK:=hid (HCD.out.1 rfl);clear HCD
   by_cases f0:no<=300
   ·have g0:decide ((no:Int)<=300)=true:=YaJ (by omega);clear f0;go_wp2_with fail;go_ret;exact⟨_,rfl,fun _=>⟨HFT.out,HOK.out,(HFG.out HOK.out).1,(HFG.out HOK.out).2.1,(HFG.out HOK.out).2.2.1,(HFG.out HOK.out).2.2.2⟩,HB2.out⟩
   ·have g0:decide ((no:Int)<=300)=false:=YaI (by omega);clear f0;go_wp2_with fail;go_ret;exact⟨_,rfl,fun e=>by simp at e,HB2.out⟩
  ·have e5:(cd==0)=false:=by simp[h0]
   clear HCD;go_wp2_with fail;go_ret;exact⟨_,rfl,fun e=>by simp at e,HB2.out⟩
end
section
open Go.ChangeShapes Go.WideShapes Go.ChangeAt Go.RowKit
theorem Zwv{α:Type}{l:List α}(h:l.length=15):∃a0 a1 a2 a3 a4 a5 a6 a7 a8 a9 a10 a11 a12 a13 a14,l=[a0,a1,a2,a3,a4,a5,a6,a7,a8,a9,a10,a11,a12,a13,a14]:=by
 match l,h with
 |[a0,a1,a2,a3,a4,a5,a6,a7,a8,a9,a10,a11,a12,a13,a14],_=>exact⟨_,_,_,_,_,_,_,_,_,_,_,_,_,_,_,rfl⟩
theorem Zg8(b o j:Nat):(⟨b,o,none⟩:Addr).add j=⟨b,o+j,none⟩:=by
 unfold Addr.add
 by_cases h:j=0<;>simp[h]
theorem ZiI(es:List ExS):(exV es).length=es.length*2:=by
 induction es with
 |nil=>rfl
 |cons e l ih=>rw[Zjr,List.length_cons,List.length_cons,ih,List.length_cons];omega
theorem Zww{l:List Int}(h:∀z∈l,(Lit.int .u64 z).wf=true):InU l:=fun x hx=>by
 have h1:=h x hx;simp only[Lit.wf,YaQ,decide_eq_true_eq] at h1;have h2:(0:Int)<=x:=h1.1;have h3:x<=(18446744073709551615:Int):=h1.2;exact⟨h2,by omega⟩
structure ZvN(w:World)(e:ExS)(z:List Int×List Int):Prop where
 xl:z.1.length=e.1.2.1
 xr:Rd w 1 e.1.1 e.1.2.1 (iv z.1)
 xi:Zaw z.1
 xc:e.1.2.1<=e.1.2.2
 yl:z.2.length=e.2.2.1
 yr:Rd w 1 e.2.1 e.2.2.1 (iv z.2)
 yi:Zaw z.2
 yc:e.2.2.1<=e.2.2.2
end
section
open Go.ChangeShapes Go.WideShapes Go.ChangeAt Go.RowKit
variable{H:Type}{enc:TypeId×Value→H}{w:World}{base:Nat}{spare:Nat→Bool}{held:Bool}{r:Reach}{b0:Nat}{v:Value}{d:DataW H}{p:List MemPlace}
theorem Zwx{fuel:Nat}{c:Value}{x:DataW H×List MemPlace}(hf:DataW.trod enc prog w base spare held fuel 25 [c]=some x) :
  ∃(S:Option Addr) (m cS:Nat) (es:List ExS) (zs:List (List Int×List Int)),c=.slice S m cS/\es.length=m/\zs.length=m/\Rd w 2 S m (exV es)/\∀(i:Nat) (e:ExS) (z:List Int×List Int),es[i]?=some e->zs[i]?=some z->ZvN w e z:=by
 have hc3:prog.cellsOf 26=1:=by kernel_rfl
 have hcr:prog.cellsOf 162=2:=by kernel_rfl
 rcases Go.Deep.open_slice underlying25 hf with⟨hcs,_⟩|⟨a,n,cap,m,fu,D,Pl,hcs,_,hl,hm,hmm,_,hi⟩
 ·obtain rfl:c=.slice none 0 0:=by simpa using hcs
  exact⟨none,0,0,[],[],rfl,rfl,rfl,Rd.nil _ _ _,fun i e z h=>by simp at h⟩
 ·obtain rfl:c=.slice (some a) n cap:=by simpa using hcs
  have hnm:n<=m:=by rw[hmm];split<;>omega
  rw[hcr] at hi;have hall:∀i,i<n->∃q:ExS×(List Int×List Int),(w.cell? (a.add (i*2))=some (.slice q.1.1.1 q.1.1.2.1 q.1.1.2.2)/\w.cell? (a.add (i*2+1))=some (.slice q.1.2.1 q.1.2.2.1 q.1.2.2.2))/\ZvN w q.1 q.2:=by
   intro i him;obtain⟨cs',hc,ht⟩:=hi i (by omega);obtain⟨_,hcl,hat⟩:=World.cells?_some hc;obtain⟨c0,c1,rfl⟩:=Zw0 hcl;obtain⟨m2,hm2⟩:=ZiT underlying162 ht;obtain⟨y5,e5⟩:=hm2 0 _ rfl;obtain⟨y6,e6⟩:=hm2 1 _ rfl
   replace e5:DataW.trod enc prog w base spare held m2 26 (List.take (prog.cellsOf 26) (List.drop 0 [c0,c1]))=some y5:=e5
   replace e6:DataW.trod enc prog w base spare held m2 26 (List.take (prog.cellsOf 26) (List.drop 1 [c0,c1]))=some y6:=e6
   rw[hc3] at e5 e6;obtain⟨A1,n1,k1,l1,rfl,a1,a2,a3,a4,_⟩:=Zg3 underlying26 underlying2 (by kernel_rfl) e5;obtain⟨A2,n2,k2,l2,rfl,b1,b2,b3,b4,_⟩:=Zg3 underlying26 underlying2 (by kernel_rfl) e6;have h0:=hat 0 (by omega);have h1:=hat 1 (by omega);rw[Go.Deep.add_add] at h0 h1;exact⟨(((A1,n1,k1),(A2,n2,k2)),(l1,l2)),⟨h0,h1⟩,⟨a2,a3,fun z hz=>bounds_i64 (a4 z hz),a1.2.1,b2,b3,fun z hz=>bounds_i64 (b4 z hz),b1.2.1⟩⟩
  obtain⟨f,hf'⟩:=Go.Deep.choose_lt hall;refine⟨some a,n,cap,(List.range n).map (fun i=>(f i).1),(List.range n).map (fun i=>(f i).2),rfl,by simp,by simp,⟨by rw[ZiI];simp,fun hn=>?_⟩,fun i e z h1 h2=>?_⟩
  ·obtain⟨b,o,sp⟩:=a;have hs:sp=none:=by
    have:=(hf' 0 hn).1.1;have:=World.cell?_spot this
    simpa [Addr.add] using this
   subst hs;refine⟨b,o,rfl,?_,fun j u hu=>?_⟩
   ·have:=World.block_lt_of_cell? w _ (hf' 0 hn).1.1;rw[Zg8] at this;exact this
   ·have hlen:(exV ((List.range n).map fun i=>(f i).1)).length=n*2:=by rw[ZiI];simp
    have hj:j<n*2:=by
     have:=(YaG.1 hu).1;omega
    have hk:((List.range n).map fun i=>(f i).1)[j/2]?=some (f (j/2)).1:=by
     have h2:j/2<n:=by omega
     simp[h2]
    obtain⟨g1,g2⟩:=Zq2 _ (j/2) _ hk;have hfk:=(hf' (j/2) (by omega)).1;rw[Zg8,Zg8] at hfk
    rcases Nat.mod_two_eq_zero_or_one j with hp|hp
    ·rw[show j/2*2=j by omega] at g1 hfk;rw[hu] at g1;injection g1 with g1
     rw[hfk.1,g1]
    ·rw[show j/2*2+1=j by omega] at g2 hfk;rw[hu] at g2;injection g2 with g2
     rw[hfk.2,g2]
  ·have hin:i<n:=by
    have:=(YaG.1 h1).1
    simpa using this
   simp[hin] at h1 h2;subst h1 h2;exact(hf' i hin).2
theorem ZmY(hv:Value.okWide prog w r b0 29 v)(h:DataW.Trod enc prog w base spare held 29 v d p) :
  ∃(A:Option Addr) (n cap:Nat) (l:List Int) (c:Cfg) (S:Option Addr) (m cS:Nat) (es:List ExS) (zs:List (List Int×List Int)) (AP:Option Addr) (P cP:Nat) (P0:List Int) (AD:Option Addr) (D cD:Nat) (L:List Int),
   v=inV A n cap c S m cS AP P cP AD D cD/\n<=cap/\l.length=n/\Rd w 1 A n (iv l)/\(In1 c.ra/\In1 c.mo)/\es.length=m/\zs.length=m/\Rd w 2 S m (exV es)/\(∀(i:Nat) (e:ExS) (z:List Int×List Int),es[i]?=some e->zs[i]?=some z->ZvN w e z) /\
   P0.length=P/\Rd w 1 AP P (iv P0)/\Zaw P0/\L.length=D/\Rd w 1 AD D (uv L)/\InU L:=by
 obtain⟨⟨l⟩,rfl,hs⟩:=okWide_struct underlying29 hv;have hc:prog.cellsOf 29=15:=by kernel_rfl
 have hc3:prog.cellsOf 3=1:=by kernel_rfl
 have hc6:prog.cellsOf 2=1:=by kernel_rfl
 have hcs:prog.cellsOf 22=1:=by kernel_rfl
 have hcx:prog.cellsOf 25=1:=by kernel_rfl
 have hcp:prog.cellsOf 26=1:=by kernel_rfl
 have hcu:prog.cellsOf 27=1:=by kernel_rfl
 have hcr:prog.cellsOf 24=12:=by kernel_rfl
 rw[hc] at hs;obtain⟨c0,c1,c2,c3,c4,c5,c6,c7,c8,c9,c10,c11,c12,c13,c14,rfl⟩:=Zwv (by simpa using hs);obtain⟨fuel,hf⟩:=h;obtain⟨m,hm⟩:=ZiT underlying29 hf;obtain⟨y0,e0⟩:=hm 0 _ rfl;obtain⟨y1,e1⟩:=hm 1 _ rfl;obtain⟨y2,e2⟩:=hm 2 _ rfl;obtain⟨y3,e3⟩:=hm 3 _ rfl;simp only[Value.cells,hcx,hcp,hcu,hcr,List.drop_zero,List.take_succ_cons,List.take_zero,List.drop_succ_cons] at e0 e1 e2 e3;obtain⟨m2,hm2⟩:=ZiT underlying24 e0;obtain⟨z0,f0⟩:=hm2 0 _ rfl;obtain⟨z1,f1⟩:=hm2 1 _ rfl;obtain⟨z2,f2⟩:=hm2 2 _ rfl;obtain⟨z3,f3⟩:=hm2 3 _ rfl;obtain⟨z4,f4⟩:=hm2 4 _ rfl;obtain⟨z5,f5⟩:=hm2 5 _ rfl;obtain⟨z6,f6⟩:=hm2 6 _ rfl;obtain⟨z7,f7⟩:=hm2 7 _ rfl;obtain⟨z8,f8⟩:=hm2 8 _ rfl;obtain⟨z9,f9⟩:=hm2 9 _ rfl;obtain⟨z10,f10⟩:=hm2 10 _ rfl;obtain⟨z11,f11⟩:=hm2 11 _ rfl
 replace f0:DataW.trod enc prog w base spare held m2 22 (List.take (prog.cellsOf 22) (List.drop 0 [c0,c1,c2,c3,c4,c5,c6,c7,c8,c9,c10,c11]))=some z0:=f0
 rw[hcs] at f0
 replace f1:DataW.trod enc prog w base spare held m2 3 (List.take (prog.cellsOf 3) (List.drop 1 [c0,c1,c2,c3,c4,c5,c6,c7,c8,c9,c10,c11]))=some z1:=f1
 rw[hc3] at f1
 replace f2:DataW.trod enc prog w base spare held m2 2 (List.take (prog.cellsOf 2) (List.drop 2 [c0,c1,c2,c3,c4,c5,c6,c7,c8,c9,c10,c11]))=some z2:=f2
 rw[hc6] at f2
 replace f3:DataW.trod enc prog w base spare held m2 2 (List.take (prog.cellsOf 2) (List.drop 3 [c0,c1,c2,c3,c4,c5,c6,c7,c8,c9,c10,c11]))=some z3:=f3
 rw[hc6] at f3
 replace f4:DataW.trod enc prog w base spare held m2 3 (List.take (prog.cellsOf 3) (List.drop 4 [c0,c1,c2,c3,c4,c5,c6,c7,c8,c9,c10,c11]))=some z4:=f4
 rw[hc3] at f4
 replace f5:DataW.trod enc prog w base spare held m2 3 (List.take (prog.cellsOf 3) (List.drop 5 [c0,c1,c2,c3,c4,c5,c6,c7,c8,c9,c10,c11]))=some z5:=f5
 rw[hc3] at f5
 replace f6:DataW.trod enc prog w base spare held m2 3 (List.take (prog.cellsOf 3) (List.drop 6 [c0,c1,c2,c3,c4,c5,c6,c7,c8,c9,c10,c11]))=some z6:=f6
 rw[hc3] at f6
 replace f7:DataW.trod enc prog w base spare held m2 3 (List.take (prog.cellsOf 3) (List.drop 7 [c0,c1,c2,c3,c4,c5,c6,c7,c8,c9,c10,c11]))=some z7:=f7
 rw[hc3] at f7
 replace f8:DataW.trod enc prog w base spare held m2 3 (List.take (prog.cellsOf 3) (List.drop 8 [c0,c1,c2,c3,c4,c5,c6,c7,c8,c9,c10,c11]))=some z8:=f8
 rw[hc3] at f8
 replace f9:DataW.trod enc prog w base spare held m2 3 (List.take (prog.cellsOf 3) (List.drop 9 [c0,c1,c2,c3,c4,c5,c6,c7,c8,c9,c10,c11]))=some z9:=f9
 rw[hc3] at f9
 replace f10:DataW.trod enc prog w base spare held m2 3 (List.take (prog.cellsOf 3) (List.drop 10 [c0,c1,c2,c3,c4,c5,c6,c7,c8,c9,c10,c11]))=some z10:=f10
 rw[hc3] at f10
 replace f11:DataW.trod enc prog w base spare held m2 3 (List.take (prog.cellsOf 3) (List.drop 11 [c0,c1,c2,c3,c4,c5,c6,c7,c8,c9,c10,c11]))=some z11:=f11
 rw[hc3] at f11;obtain⟨n1,rfl,w1⟩:=ZcH underlying3 f1;obtain⟨n2,rfl,w2⟩:=ZcH underlying2 f2;obtain⟨n3,rfl,w3⟩:=ZcH underlying2 f3;obtain⟨n4,rfl,w4⟩:=ZcH underlying3 f4;obtain⟨n5,rfl,w5⟩:=ZcH underlying3 f5;obtain⟨n6,rfl,w6⟩:=ZcH underlying3 f6;obtain⟨n7,rfl,w7⟩:=ZcH underlying3 f7;obtain⟨n8,rfl,w8⟩:=ZcH underlying3 f8;obtain⟨n9,rfl,w9⟩:=ZcH underlying3 f9;obtain⟨n10,rfl,w10⟩:=ZcH underlying3 f10;obtain⟨n11,rfl,w11⟩:=ZcH underlying3 f11;obtain⟨A,N,cap,ls,rfl,a1,a2,a3,a4,_⟩:=Zg3 underlying22 underlying3 (by kernel_rfl) f0;obtain⟨S,M,cS,es,zs,rfl,x1,x2,x3,x4⟩:=Zwx e1;obtain⟨AP,P,cP,P0,rfl,p1,p2,p3,p4,_⟩:=Zg3 underlying26 underlying2 (by kernel_rfl) e2;obtain⟨AD,D,cD,L,rfl,d1,d2,d3,d4,_⟩:=Zg3 underlying27 underlying135 (by kernel_rfl) e3;exact⟨A,N,cap,ls,⟨n1,n2,n3,n4,n5,n6,n7,n8,n9,n10,n11⟩,S,M,cS,es,zs,AP,P,cP,P0,AD,D,cD,L,rfl,a1.2.1,a2,a3,⟨bounds_i64 w2,bounds_i64 w3⟩,x1,x2,x3,x4,p2,p3,fun z hz=>bounds_i64 (p4 z hz),d2,d3,Zww d4⟩
end
section
open Go.RowKit
def Zxj(A:Option Addr)(n cap:Nat)(l:List Int)(c:Cfg)(S:Option Addr)(m cS:Nat)(es:List ExS)(zs:List (List Int×List Int))(AP:Option Addr)(P cP:Nat)(P0:List Int)(AD:Option Addr)(D cD:Nat)(L:List Int):InC:=
 ⟨A,n,cap,l,c,S,m,cS,es.map fun e=>(e.1.1,e.1.2.2,e.2.1,e.2.2.2),szN l 0,szN l (n-1),fun i=>zs.getD (i-1) ([],[]),AP,P,cP,P0,AD,D,cD,L⟩
end
section
open Go.RowKit
variable{A:Option Addr}{n cap:Nat}{l:List Int}{c:Cfg}{S:Option Addr}{m cS:Nat}{es:List ExS}{zs:List (List Int×List Int)}{AP:Option Addr}{P cP:Nat}{P0:List Int}{AD:Option Addr}{D cD:Nat}{L:List Int}{w:World}
theorem ZrV(h:Zho l c es m P D=true)(hl:l.length=n):Zf5 (szN l 0) (szN l (n-1)) (es.map fun e=>(e.1.1,e.1.2.2,e.2.1,e.2.2.2))=es/\∀e∈es,e.1.2.1=szN l 0/\e.2.2.1=szN l (n-1):=by
 unfold Zho at h;simp only[YaQ,decide_eq_true_eq] at h;obtain⟨-,-,h3,-⟩:=h;rw[hl] at h3;have hf:∀e∈es,e.1.2.1=szN l 0/\e.2.2.1=szN l (n-1):=by
  intro e he;unfold ZdA at h3;rw[List.all_eq_true] at h3;have h4:=h3 e he;unfold Ziv at h4;simp only[YaQ,decide_eq_true_eq] at h4;unfold szN;exact⟨by omega,by omega⟩
 refine⟨?_,hf⟩;unfold Zf5;rw[List.map_map]
 conv=>rhs;rw[<-List.map_id es]
 refine List.map_congr_left (fun e he=>?_);obtain⟨h1,h2⟩:=hf e he;obtain⟨⟨a1,a2,a3⟩,⟨b1,b2,b3⟩⟩:=e;dsimp only at h1 h2;subst h1 h2;rfl
theorem Zvu(hcap:n<=cap)(hl:l.length=n)(hr:Rd w 1 A n (iv l))(hes:es.length=m)(hzs:zs.length=m)(hre:Rd w 2 S m (exV es))(hex:∀(i:Nat) (e:ExS) (z:List Int×List Int),es[i]?=some e->zs[i]?=some z->ZvN w e z)(hpl:P0.length=P)(hrp:Rd w 1 AP P (iv P0))(hdl:L.length=D)(hrd:Rd w 1 AD D (uv L))(f:ZvM n m P D l c es):ZmD w (Zxj A n cap l c S m cS es zs AP P cP P0 AD D cD L):=by
 obtain⟨h1,h2⟩:=ZrV f.ok hl;refine⟨hl,hr,hcap,by show (es.map _).length=m;rw[List.length_map];exact hes,?_,?_,hpl,hrp,hdl,hrd⟩
 ·show Rd w 2 S m (stv (szN l 0) (szN l (n-1)) (es.map _))
  rw[<-ZnL,h1];exact hre
 ·intro i s hs;have hs':(es.map fun e=>(e.1.1,e.1.2.2,e.2.1,e.2.2.2))[i]?=some s:=hs;rw[YaR] at hs';obtain⟨e,he,rfl⟩:=Option.map_eq_some_iff.1 hs';have hi:i<m:=by rw[<-hes];exact(YaG.1 he).1
  obtain⟨z,hz⟩:∃z,zs[i]?=some z:=⟨_,YaA (by omega)⟩;have hx:=hex i e z he hz;obtain⟨g1,g2⟩:=h2 e (YaL he);have hf:zs.getD (i+1-1) ([],[])=z:=by rw[Nat.add_sub_cancel,YaT,hz];rfl
  show Rd w 1 e.1.1 (szN l 0) (iv (zs.getD (i+1-1) ([],[])).1)/\Rd w 1 e.2.1 (szN l (n-1)) (iv (zs.getD (i+1-1) ([],[])).2)
  rw[hf,<-g1,<-g2];exact⟨hx.xr,hx.yr⟩
theorem Zvv(hl:l.length=n)(hc:In1 c.ra/\In1 c.mo)(hes:es.length=m)(hzs:zs.length=m)(hex:∀(i:Nat) (e:ExS) (z:List Int×List Int),es[i]?=some e->zs[i]?=some z->ZvN w e z)(hpi:Zaw P0)(hdl:L.length=D)(hu:InU L)(f:ZvM n m P D l c es):(Zxj A n cap l c S m cS es zs AP P cP P0 AD D cD L).Ok:=by
 obtain⟨h1,h2⟩:=ZrV f.ok hl;have hz:∀i,i<m->∃e z,es[i]?=some e/\zs[i]?=some z/\zs.getD (i+1-1) ([],[])=z:=by
  intro i hi;obtain⟨z,hz⟩:∃z,zs[i]?=some z:=⟨_,YaA (by omega)⟩;exact⟨_,z,YaA (by omega),hz,by rw[Nat.add_sub_cancel,YaT,hz];rfl⟩
 refine⟨?_,hl,by show (es.map _).length=m;rw[List.length_map];exact hes,hdl,rfl,rfl,fun i hi=>?_,fun i hi=>?_,f.few.m60,?_,?_,?_,f.mi,?_,hu,hpi,hc.1,hc.2⟩
 ·show Zho l c (Zf5 (szN l 0) (szN l (n-1)) (es.map _)) m P D=true
  rw[h1];exact f.ok
 ·obtain⟨e,z,he,hz1,hz2⟩:=hz i hi;have hx:=hex i e z he hz1;obtain⟨g1,g2⟩:=h2 e (YaL he)
  show (zs.getD (i+1-1) ([],[])).1.length=szN l 0/\(zs.getD (i+1-1) ([],[])).2.length=szN l (n-1)
  rw[hz2,hx.xl,hx.yl];exact⟨g1,g2⟩
 ·obtain⟨e,z,he,hz1,hz2⟩:=hz i hi;have hx:=hex i e z he hz1
  show Zaw (zs.getD (i+1-1) ([],[])).1
  rw[hz2];exact hx.xi
 ·have:=f.st5;show c.st<=12;omega
 ·have:=f.P40;show P<=60;omega
 ·have:=f.wk;show c.wk<=8;omega
 ·have:=f.few.D2000;show D<=4000;omega
end
section
open Go.RowKit
theorem Zlj{l:List Int}{k j:Nat}(h:j<k)(d:Int):(l.take k).getD j d=l.getD j d:=by
 rw[YaT,YaT,List.getElem?_take,if_pos h]
theorem Zg9(l:List Int)(k:Nat):∀j,j<=k->Zbp (l.take (k+1)) j=Zbp l j
 |0,_=>rfl
 |j+1,h=>by
  rw[Zbp,Zbp,Zg9 l k j (by omega),Zlj (by omega),Zlj (by omega)]
theorem ZrW{w:World}{A:Option Addr}{n k:Nat}{l:List Int}(h:Rd w 1 A n (iv l))(hk:k<=n):Rd w 1 A k (iv (l.take k)):=by
 have hl:l.length=n:=by have:=h.1;rw[Zay] at this;omega
 refine⟨by rw[Zay,List.length_take,hl];omega,fun h0=>?_⟩;obtain⟨b,o,e,hlt,hc⟩:=h.2 (by omega);refine⟨b,o,e,hlt,fun j u hu=>hc j u ?_⟩;unfold iv at hu ⊢;rw[YaR,List.getElem?_take] at hu
 split at hu
 ·rw[YaR];exact hu
 ·cases hu
theorem Zha{l:List Int}{k:Nat}(h:ZaU l=false):ZaU (l.take k)=false:=by
 unfold ZaU at h ⊢;rw[List.any_eq_false] at h ⊢;exact fun x hx=>h x (List.mem_of_mem_take hx)
theorem NetP.wrong{l:List Int}{n NP:Nat}{P:List Int}{q:Int}(h:NetP l n NP P q):ZaU l=false:=by
 unfold ZaU;rw[List.any_eq_false];intro x hx;obtain⟨k,hk⟩:=List.getElem?_of_mem hx;have:=h.pos k x hk;simp;omega
abbrev Zd2(A:Option Addr)(n cap:Nat)(Ap:Option Addr)(NP cp:Nat)(q:Int):Value:=.agg #[.slice A n cap,.slice Ap NP cp,.int .i64 q]
abbrev Zce(A:Option Addr)(n cap:Nat)(Ap:Option Addr)(NP cp:Nat)(q:Int):Array Value:=#[.slice A n cap,.slice Ap NP cp,.int .i64 q]
structure Zb6(w:World)(A:Option Addr)(n cap:Nat)(l:List Int)(Ap:Option Addr)(NP cp:Nat)(P:List Int)(q:Int):Prop where
 ok:NetP l n NP P q
 rl:Rd w 1 A n (iv l)
 cap:n<=cap
 rp:Rd w 1 Ap NP (iv P)
theorem Zb6.below{w w':World}{A:Option Addr}{n cap:Nat}{l:List Int}{Ap:Option Addr}{NP cp:Nat}{P:List Int}{q:Int}(h:Zb6 w A n cap l Ap NP cp P q)(hb:Below w.heap.size w w'):Zb6 w' A n cap l Ap NP cp P q:=⟨h.ok,h.rl.below hb,h.cap,h.rp.below hb⟩
def wtR(l P:List Int)(k r c:Nat):Int:=P.getD (ofN l k+r*szN l k+c) 0
def bsR(l P:List Int)(k r:Nat):Int:=P.getD (obN l k+r) 0
end
section
open Go.RowKit
variable(A:Option Addr)(n cap:Nat)(l:List Int)(Ap:Option Addr)(NP cp:Nat)(P:List Int)(q:Int)(w:World)
theorem Zef(k:Nat)(hN:NetP l n NP P q)(h:Rd w 1 A n (iv l))(hcap:n<=cap)(hk:k<n-1) :
  Calls prog 258 #[.slice A n cap,.int .i64 k] w fun e w'=>e=.returned (.agg #[.int .i64 (ofN l k),.int .i64 (obN l k)])/\Bz0 w w':=by
 have n16:=hN.n16;have hcn:=hN.cnt_eq k (by omega);obtain⟨a1,a2,a3⟩:=hN.sz (show k<n by omega);obtain⟨b1,b2,b3⟩:=hN.sz (show k+1<n by omega);have hfit:=hN.fit hk;have hnp:=hN.np;have HC:=hid (fun W (r:Rd W 1 A (k+1) (iv (l.take (k+1))))=>Zbr A (k+1) cap (l.take (k+1)) W (by rw[List.length_take,hN.len];omega) r (by omega) (Zha hN.wrong));have HH:=hid h;have hct:Zbp (l.take (k+1)) (k+1-1)=(ofN l k:Int):=by rw[Nat.add_sub_cancel,Zg9 l k k (YaF _),hcn]
 rw[hct] at HC;obtain⟨ga,oa,rfl,hlt,hca⟩:=h.2 (by omega);have hc0:w.cell? ⟨ga,oa+k,none⟩=some (.int .i64 (szN l k)):=hca k _ (by unfold iv;rw[YaR,a1];rfl);have hc1:w.cell? ⟨ga,oa+(k+1),none⟩=some (.int .i64 (szN l (k+1))):=hca (k+1) _ (by unfold iv;rw[YaR,b1];rfl);have hmul:ofN l k+szN l k*szN l (k+1)=obN l k:=by rw[obN,Nat.mul_comm]
 obtain⟨s0,hs0⟩:∃s,szN l k=s:=⟨_,rfl⟩;obtain⟨s1,hs1⟩:∃s,szN l (k+1)=s:=⟨_,rfl⟩;obtain⟨lo,hlo⟩:∃s,ofN l k=s:=⟨_,rfl⟩;obtain⟨hi,hhi⟩:∃s,obN l k=s:=⟨_,rfl⟩;rw[hs0] at hc0 hmul a2 a3;rw[hs1] at hc1 hmul b2 b3 hfit;rw[hlo] at HC hmul;rw[hhi] at hmul hfit;rw[hlo,hhi];have HC2:=HC;have hw1:wrap64 ((s0:Int)*(s1:Int))=((s0*s1:Nat):Int):=by
  have h1:s0*s1<=1000*1000:=Nat.mul_le_mul a3 b3;rw[<-Int.natCast_mul];exact Za6 _ (by omega) (by omega)
 have hw2:wrap64 ((lo:Int)+((s0*s1:Nat):Int))=(hi:Int):=by
  rw[<-hmul,<-Int.natCast_add];exact Za6 _ (by omega) (by omega)
 have HW1:=hid hw1;have HW2:=hid hw2;have HG:Hid (∀W,w.alloc (.cells #[.int .i64 0,.int .i64 0] 355)=W->Below w.heap.size w W/\Blk W w.heap.size 355 #[.int .i64 0,.int .i64 0]):=hid (by
  rintro W rfl;exact⟨bA0 _,Blk.new _ _ _⟩)
 have d1:decide ((k:Int)<0)=false:=YaI (by omega);have d2:decide ((n:Int)-1<=(k:Int))=false:=YaI (by omega);have hkn:k+1<=n:=by omega
 have HC0:=hid hc0;have HC1:=hid hc1;clear hca hcn hct a1 b1 HC hw1 hw2 hmul hs0 hs1 hlo hhi a2 a3 b2 b3 hfit hnp hN h hc0 hc1
 go_enter func258,ntmps258
 go_wp2_with fail;obtain⟨w0,hw0⟩:∃w0,w.alloc (.cells #[.int .i64 0,.int .i64 0] 355)=w0:=⟨_,rfl⟩;obtain⟨hB,hI⟩:=HG.out _ hw0;rw[hw0];clear hw0 HG;have HB:=hid hB;have HI:=hid hI;((with_reducible refine(HC2.out w0 (ZrW (HH.out.below hB) hkn)).mono ?_);rintro e w1 ⟨rfl,hb1⟩);have HB1:=hid (bT0 hB hb1);have m0:=hI.kept hb1;have HM0:=hid m0;have hkeep:=fun(o:Nat)=>(HB1.out.cell (p:=⟨ga,o,none⟩) hlt)
 have c0:w1.cell? ⟨ga,oa+k,none⟩=some (.int .i64 s0):=(hkeep _).trans HC0.out;have c1:w1.cell? ⟨ga,oa+(k+1),none⟩=some (.int .i64 s1):=(hkeep _).trans HC1.out;have x0:w1.cell? ⟨w.heap.size,0,none⟩=some (.int .i64 0):=m0.cell 0;have x1:w1.cell? ⟨w.heap.size,1,none⟩=some (.int .i64 0):=m0.cell 1;have f0:=m0.frozen 0;have f1:=m0.frozen 1;have lx:=m0.lt;clear hkeep m0 hB hI hb1;go_wp2_with fail;go_region;rw[HW1.out,HW2.out];go_wp2_with fail;refine bodyPost_ret (v:=.agg #[.int .i64 lo,.int .i64 hi]) (by simp[results,results258,go_sem,x0,x1,lx]) rfl ⟨rfl,?_⟩;exact((HB1.out.drew).setCell (p:=⟨w.heap.size,0,none⟩) (YaF _) _).setCell (p:=⟨w.heap.size,1,none⟩) (YaF _) _
def BiV(s0 s1 s2:Int)(j:Nat)(v:Value)(w:World):Prop:=(j=2->v=.agg #[.int .i64 s0,.int .i64 s1])/\(j=3->v=.int .i64 s1)/\(j=8->v=.int .i64 s2)/\(j=9->v=.agg #[.int .i64 s1,.int .i64 s2])
theorem BiV.two{s0 s1 s2:Int}{w:World}:BiV s0 s1 s2 2 (.agg #[.int .i64 s0,.int .i64 s1]) w:=⟨fun _=>rfl,fun e=>(by cases e),fun e=>(by cases e),fun e=>(by cases e)⟩
theorem BiV.three{s0 s1 s2:Int}{w:World}:BiV s0 s1 s2 3 (.int .i64 s1) w:=⟨fun e=>(by cases e),fun _=>rfl,fun e=>(by cases e),fun e=>(by cases e)⟩
theorem BiV.eight{s0 s1 s2:Int}{w:World}:BiV s0 s1 s2 8 (.int .i64 s2) w:=⟨fun e=>(by cases e),fun e=>(by cases e),fun _=>rfl,fun e=>(by cases e)⟩
theorem BiV.nine{s0 s1 s2:Int}{w:World}:BiV s0 s1 s2 9 (.agg #[.int .i64 s1,.int .i64 s2]) w:=⟨fun e=>(by cases e),fun e=>(by cases e),fun e=>(by cases e),fun _=>rfl⟩
theorem ZjR(k:Nat)(hN:NetP l n NP P q)(h:Rd w 1 A n (iv l))(hcap:n<=cap)(hk:k<n-1) :
  Calls prog 274 #[.slice A n cap,.int .i64 k] w fun e w'=>e=.returned (.agg #[.int .i64 (obN l k),.int .i64 (ofN l (k+1))])/\Bz0 w w':=by
 have n16:=hN.n16;have hcn:=hN.cnt_eq (k+1) (by omega);have HC:=hid (fun W (r:Rd W 1 A (k+2) (iv (l.take (k+2))))=>Zbr A (k+2) cap (l.take (k+2)) W (by rw[List.length_take,hN.len];omega) r (by omega) (Zha hN.wrong));have hct:Zbp (l.take (k+2)) (k+2-1)=(ofN l (k+1):Int):=by rw[show k+2-1=k+1 by omega,Zg9 l (k+1) (k+1) (YaF _),hcn]
 rw[hct] at HC;have HH:=hid h;have HWT:=hid (fun W (r:Rd W 1 A n (iv l))=>Zef A n cap l NP P q W k hN r hcap hk);obtain⟨s0,hs0⟩:∃s,ofN l k=s:=⟨_,rfl⟩;obtain⟨s1,hs1⟩:∃s,obN l k=s:=⟨_,rfl⟩;obtain⟨s2,hs2⟩:∃s,ofN l (k+1)=s:=⟨_,rfl⟩;rw[hs0,hs1] at HWT;rw[hs2] at HC;rw[hs1,hs2];have HG:Hid (∀W,w.alloc (.cells #[.int .i64 0,.int .i64 0] 355)=W->Below w.heap.size w W/\Blk W w.heap.size 355 #[.int .i64 0,.int .i64 0]):=hid (by
  rintro W rfl;exact⟨bA0 _,Blk.new _ _ _⟩)
 have d1:decide ((k:Int)<0)=false:=YaI (by omega);have d2:decide ((n:Int)-1<=(k:Int))=false:=YaI (by omega);have hkn:k+2<=n:=by omega
 clear hcn hct hs0 hs1 hs2 hN h hk
 go_enter func274,ntmps274
 go_wp2_with fail;obtain⟨w0,hw0⟩:∃w0,w.alloc (.cells #[.int .i64 0,.int .i64 0] 355)=w0:=⟨_,rfl⟩;obtain⟨hB,hI⟩:=HG.out _ hw0;rw[hw0];clear hw0 HG;have HB:=hid hB;have HI:=hid hI;clear hB hI;refine ZaY (Zag w0) (BiV s0 s1 s2) (fun _ _ _ _=>True) [0,1,4,5,6,7] [2,3,8,9] [10] (by kernel_rfl) (by kernel_rfl) (Zag.start w0) (fun _ _ _ _ h=>h) (fun _ _ _ _ h _=>h) ?_;simp only[YaO,YaP,YaB,YaC];have hwk:IntKind.i64.wrap ((k:Int)+2)=(k:Int)+2:=by rw[IntKind.wrap_i64];omega
 have hcond:0<=(k:Int)+2/\(k:Int)+2<=(cap:Int):=by omega
 have htn:((k:Int)+2).toNat=k+2:=by omega
 refine Zaa (.slice A n cap) rfl (fun W hW=>?_) ?_
 ·obtain⟨hc,-,-⟩:=hW;go_simp
 go_simp;refine Zaa (.int .i64 k) rfl (fun W hW=>?_) ?_
 ·obtain⟨hc,-,-⟩:=hW;go_simp
 go_simp;refine Zaa (.slice A n cap) rfl (fun W hW=>?_) ?_
 ·obtain⟨hc,-,-⟩:=hW;go_simp
 go_simp;refine Zaa (.int .i64 k) rfl (fun W hW=>?_) ?_
 ·obtain⟨hc,-,-⟩:=hW;go_simp
 go_simp;refine Zaa (.int .i64 ((k:Int)+2)) rfl (fun W hW=>?_) ?_
 ·obtain⟨hc,-,-⟩:=hW;go_simp
 go_simp;refine Zaa (.slice A (k+2) cap) rfl (fun W hW=>?_) ?_
 ·obtain⟨hc,-,-⟩:=hW;go_simp
 go_simp;clear hwk hcond htn;refine Zeh.mk ?_ ?_
 ·intro j8 hj8 o ho8 vs W hS hV;simp only[List.mem_cons,List.not_mem_nil,or_false] at hj8;have HS:=hid hS;have HV:=hid hV;have HBW:=hid (bT0 HB.out hS.2.2);clear hS hV
  rcases hj8 with rfl|rfl|rfl|rfl
  ·cases ho8
   unfold Zbl;simp only[ZaL,ZaT,YaD,YaB,YaC,YaE];change wpList _ _ _ (_::[]) _ _;go_wp2_with fail;((with_reducible refine(HWT.out W (HH.out.below HBW.out)).mono ?_);rintro e w8 ⟨rfl,hb8⟩);go_wp2_with fail;exact⟨HS.out.call hb8,BiV.two⟩
  ·have v2:=(HV.out 2 (by simp) (by kernel_rfl)).1 rfl
   cases ho8
   unfold Zbl;simp only[ZaL,ZaT,YaD,YaB,YaC,YaE];rw[v2];have hfd:(Instr.field 355 (.agg #[.int .i64 s0,.int .i64 s1]) 1).run prog W=.ok (.int .i64 s1) W:=rfl;change wpList _ _ _ (_::[]) _ _;go_wp2_with fail;exact⟨HS.out,BiV.three,bR0 _ _⟩
  ·cases ho8
   unfold Zbl;simp only[ZaL,ZaT,YaD,YaB,YaC,YaE];change wpList _ _ _ (_::[]) _ _;go_wp2_with fail;((with_reducible refine(HC.out W (ZrW (HH.out.below HBW.out) hkn)).mono ?_);rintro e w8 ⟨rfl,hb8⟩);go_wp2_with fail;exact⟨HS.out.call hb8,BiV.eight⟩
  ·have v3:=(HV.out 3 (by simp) (by kernel_rfl)).2.1 rfl;have v8:=(HV.out 8 (by simp) (by kernel_rfl)).2.2.1 rfl
   cases ho8
   unfold Zbl;simp only[ZaL,ZaT,YaD,YaB,YaC,YaE];rw[v3,v8];change wpList _ _ _ (_::[]) _ _;go_wp2_with fail;exact⟨HS.out,BiV.nine,bR0 _ _⟩
 ·intro vs W hS hV hR;have v9:=(hV 9 (by simp)).2.2.2 rfl;simp only[ZaL,ZaT,YaO,YaP,YaD,YaB,YaC,YaE];rw[v9];have HBW:=hid (bT0 HB.out hS.2.2);have m0:=HI.out.kept hS.2.2;have x0:W.cell? ⟨w.heap.size,0,none⟩=some (.int .i64 0):=m0.cell 0;have x1:W.cell? ⟨w.heap.size,1,none⟩=some (.int .i64 0):=m0.cell 1;have f0:=m0.frozen 0;have f1:=m0.frozen 1;have lx:=m0.lt;clear hS hV hR v9 m0;change wpList _ _ _ (_::[]) _ _;go_wp2_with fail;refine NoPanic.normal ?_;go_wp2_with fail;refine bodyPost_ret (v:=.agg #[.int .i64 s1,.int .i64 s2]) (by simp[results,results274,go_sem,x0,x1,lx]) rfl ⟨rfl,?_⟩;exact((HBW.out).setCell (p:=⟨w.heap.size,0,none⟩) (YaF _) _).setCell (p:=⟨w.heap.size,1,none⟩) (YaF _) _
theorem ZtM{n:Nat}(h:n<=4000000):wrap64 (n:Int)=(n:Int):=Za6 _ (by omega) (by omega)
theorem ZdI{k:Nat}{b o:Nat}{w:World}{n:Nat}{l:List Int}{NP:Nat}{P:List Int}{q:Int}(hN:NetP l n NP P q)(hk:k<n)(h:Rd w 1 (some ⟨b,o,none⟩) n (iv l)):w.cell? ⟨b,o+k,none⟩=some (.int .i64 (szN l k))/\b<w.heap.size:=by
 obtain⟨b',o',e,hlt,hc⟩:=h.2 (by omega);injection e with e
 injection e with e1 e2 e3
 subst e1 e2;exact⟨hc k _ (by unfold iv;rw[YaR,(hN.sz hk).1];rfl),hlt⟩
theorem Zfd{w:World}{A:Option Addr}{n cap:Nat}{l:List Int}{Ap:Option Addr}{NP cp:Nat}{P:List Int}{q:Int}(h:Zb6 w A n cap l Ap NP cp P q):∃b o b' o',A=some ⟨b,o,none⟩/\Ap=some ⟨b',o',none⟩:=by
 obtain⟨b,o,e,_⟩:=h.rl.2 (by have:=h.ok.n2;omega);have h1:0<NP:=by
  have h2:=h.ok.fit (k:=0) (by have:=h.ok.n2;omega);have h3:=(h.ok.sz (k:=0+1) (by have:=h.ok.n2;omega)).2.1;omega
 obtain⟨b',o',e',_⟩:=h.rp.2 h1;exact⟨b,o,b',o',e,e'⟩
theorem Zuk{j b o:Nat}{w:World}{NP:Nat}{P:List Int}(hl:P.length=NP)(hj:j<NP)(h:Rd w 1 (some ⟨b,o,none⟩) NP (iv P)):w.cell? ⟨b,o+j,none⟩=some (.int .i64 (P.getD j 0))/\b<w.heap.size:=by
 obtain⟨b',o',e,hlt,hc⟩:=h.2 (by omega);injection e with e
 injection e with e1 e2 e3
 subst e1 e2;exact⟨hc j _ (by unfold iv;rw[YaR,YaA (by omega),YaT,YaA (by omega)];rfl),hlt⟩
theorem Zfe(k r c:Nat)(h:Zb6 w A n cap l Ap NP cp P q)(hk:k<n-1)(hr:r<szN l (k+1))(hc:c<szN l k) :
  Calls prog 225 #[Zd2 A n cap Ap NP cp q,.int .i64 k,.int .i64 r,.int .i64 c] w fun e w'=>e=.returned (.int .i64 (wtR l P k r c))/\Bz0 w w':=by
 obtain⟨ga,oa,gp,op,rfl,rfl⟩:=Zfd h;have hfit:=h.ok.fit hk;have hnp:=h.ok.np;have hob:ofN l k+szN l (k+1)*szN l k=obN l k:=rfl;have hrc:r*szN l k+c<szN l (k+1)*szN l k:=by
  have h1:(r+1)*szN l k<=szN l (k+1)*szN l k:=YaW _ hr;rw[Nat.succ_mul] at h1;omega
 have hj:ofN l k+r*szN l k+c<NP:=by omega
 obtain⟨zc,zl⟩:=ZdI h.ok (show k<n by omega) h.rl;obtain⟨pc,pl⟩:=Zuk h.ok.pl hj h.rp;have HWT:=hid (fun W (x:Rd W 1 (some ⟨ga,oa,none⟩) n (iv l))=>Zef (some ⟨ga,oa,none⟩) n cap l NP P q W k h.ok x h.cap hk);have HR:=hid h.rl;have hkn:k<n:=by omega
 unfold wtR;obtain⟨s,hs⟩:∃s,szN l k=s:=⟨_,rfl⟩;obtain⟨lo,hlo⟩:∃s,ofN l k=s:=⟨_,rfl⟩;obtain⟨j,hjj⟩:∃j,lo+r*s+c=j:=⟨_,rfl⟩;rw[hs,hlo] at hj pc;rw[hs] at hrc;rw[hs] at zc;rw[hlo] at HWT;rw[hjj] at hj pc;rw[hs,hlo,hjj];obtain⟨v,hv⟩:∃v,P.getD j 0=v:=⟨_,rfl⟩;rw[hv] at pc;rw[hv];obtain⟨rs,hrs⟩:∃rs,r*s=rs:=⟨_,rfl⟩;rw[hrs] at hjj hrc;obtain⟨t,ht⟩:∃t,lo+rs=t:=⟨_,rfl⟩;rw[ht] at hjj;have hwm:wrap64 ((r:Int)*(s:Int))=(rs:Int):=by
  rw[<-Int.natCast_mul,hrs];exact ZtM (by omega)
 have hwa:wrap64 ((lo:Int)+(rs:Int))=(t:Int):=by
  rw[<-Int.natCast_add,ht];exact ZtM (by omega)
 have hwb:wrap64 ((t:Int)+(c:Int))=(j:Int):=by
  rw[<-Int.natCast_add,hjj];exact ZtM (by omega)
 have HWM:=hid hwm;have HWA:=hid hwa;have HWB:=hid hwb;have HPC:=hid pc;have HZC:=hid zc;obtain⟨ob,hob2⟩:∃ob,obN l k=ob:=⟨_,rfl⟩;rw[hob2] at HWT;have HG:Hid (∀W,w.alloc (.cells (Zce (some ⟨ga,oa,none⟩) n cap (some ⟨gp,op,none⟩) NP cp q) 202)=W->Below w.heap.size w W/\Blk W w.heap.size 202 (Zce (some ⟨ga,oa,none⟩) n cap (some ⟨gp,op,none⟩) NP cp q)):=hid (by
  rintro W rfl;exact⟨bA0 _,Blk.new _ _ _⟩)
 clear hwm hwa hwb hrs ht pc zc hob2 hs hlo hjj hv hob hrc hfit hnp h hr hc
 go_enter func225,ntmps225
 go_wp2_with fail;obtain⟨w0,hw0⟩:∃w0,w.alloc (.cells (Zce (some ⟨ga,oa,none⟩) n cap (some ⟨gp,op,none⟩) NP cp q) 202)=w0:=⟨_,rfl⟩;obtain⟨hB,hI⟩:=HG.out _ hw0;rw[hw0];clear hw0 HG;have HB:=hid hB;have y0:w0.cell? ⟨w.heap.size,0,none⟩=some (.slice (some ⟨ga,oa,none⟩) n cap):=hI.cell 0;have y1:w0.cell? ⟨w.heap.size,1,none⟩=some (.slice (some ⟨gp,op,none⟩) NP cp):=hI.cell 1;have y2:w0.cell? ⟨w.heap.size,2,none⟩=some (.int .i64 q):=hI.cell 2;have yl:=hI.lt;have zc:w0.cell? ⟨ga,oa+k,none⟩=some (.int .i64 s):=(HB.out.cell (p:=⟨ga,oa+k,none⟩) zl).trans HZC.out;have pc:w0.cell? ⟨gp,op+j,none⟩=some (.int .i64 v):=(HB.out.cell (p:=⟨gp,op+j,none⟩) pl).trans HPC.out;have zl0:ga<w0.heap.size:=YaK zl HB.out.size;have pl0:gp<w0.heap.size:=YaK pl HB.out.size;have hfd:∀W:World,(Instr.field 355 (.agg #[.int .i64 lo,.int .i64 ob]) 0).run prog W=.ok (.int .i64 lo) W:=fun _=>rfl
 have HWT2:=hid (fun(u:KW w0)=>HWT.out u.w ((HR.out.below HB.out).below u.h.2.2));have hwm:=HWM.out;have hwa:=HWA.out;have hwb:=HWB.out;clear hB hI zl pl;have KC:=fun(u:KW w0) b o h=>KW.cells u b o h
 refine ZaK w0 (by kernel_rfl) (by kernel_rfl) (Zag.of (bR0 _ _)) ?_
 repeat (go_big_quiet_step ((go_at_call 258;with_reducible exact ZbC (HWT2.out _))))
 refine wpQuiet_nil ?_;rintro w8 ⟨⟨_,k8⟩,rfl⟩;go_wp2_with fail;go_ret;exact⟨rfl,bT0 HB.out k8.2.2⟩
theorem ZmZ(k r:Nat)(h:Zb6 w A n cap l Ap NP cp P q)(hk:k<n-1)(hr:r<szN l (k+1)) :
  Calls prog 257 #[Zd2 A n cap Ap NP cp q,.int .i64 k,.int .i64 r] w fun e w'=>e=.returned (.int .i64 (bsR l P k r))/\Bz0 w w':=by
 obtain⟨ga,oa,gp,op,rfl,rfl⟩:=Zfd h;have hfit:=h.ok.fit hk;have hnp:=h.ok.np;have hj:obN l k+r<NP:=by omega
 obtain⟨pc,pl⟩:=Zuk h.ok.pl hj h.rp;have HWT:=hid (fun W (x:Rd W 1 (some ⟨ga,oa,none⟩) n (iv l))=>ZjR (some ⟨ga,oa,none⟩) n cap l NP P q W k h.ok x h.cap hk);have HR:=hid h.rl;unfold bsR;obtain⟨lo,hlo⟩:∃s,obN l k=s:=⟨_,rfl⟩;obtain⟨j,hjj⟩:∃j,lo+r=j:=⟨_,rfl⟩;rw[hlo] at hj pc HWT;rw[hjj] at hj pc;rw[hlo,hjj];obtain⟨v,hv⟩:∃v,P.getD j 0=v:=⟨_,rfl⟩;rw[hv] at pc;rw[hv];have hwb:wrap64 ((lo:Int)+(r:Int))=(j:Int):=by
  rw[<-Int.natCast_add,hjj];exact ZtM (by omega)
 have HWB:=hid hwb;have HPC:=hid pc;obtain⟨ob,hob2⟩:∃ob,ofN l (k+1)=ob:=⟨_,rfl⟩;rw[hob2] at HWT;have HG:Hid (∀W,w.alloc (.cells (Zce (some ⟨ga,oa,none⟩) n cap (some ⟨gp,op,none⟩) NP cp q) 202)=W->Below w.heap.size w W/\Blk W w.heap.size 202 (Zce (some ⟨ga,oa,none⟩) n cap (some ⟨gp,op,none⟩) NP cp q)):=hid (by
  rintro W rfl;exact⟨bA0 _,Blk.new _ _ _⟩)
 clear hwb pc hob2 hlo hjj hv hfit hnp h hr
 go_enter func257,ntmps257
 go_wp2_with fail;obtain⟨w0,hw0⟩:∃w0,w.alloc (.cells (Zce (some ⟨ga,oa,none⟩) n cap (some ⟨gp,op,none⟩) NP cp q) 202)=w0:=⟨_,rfl⟩;obtain⟨hB,hI⟩:=HG.out _ hw0;rw[hw0];clear hw0 HG;have HB:=hid hB;have y0:w0.cell? ⟨w.heap.size,0,none⟩=some (.slice (some ⟨ga,oa,none⟩) n cap):=hI.cell 0;have y1:w0.cell? ⟨w.heap.size,1,none⟩=some (.slice (some ⟨gp,op,none⟩) NP cp):=hI.cell 1;have y2:w0.cell? ⟨w.heap.size,2,none⟩=some (.int .i64 q):=hI.cell 2;have yl:=hI.lt;have pc:w0.cell? ⟨gp,op+j,none⟩=some (.int .i64 v):=(HB.out.cell (p:=⟨gp,op+j,none⟩) pl).trans HPC.out;have pl0:gp<w0.heap.size:=YaK pl HB.out.size;have hfd:∀W:World,(Instr.field 355 (.agg #[.int .i64 lo,.int .i64 ob]) 0).run prog W=.ok (.int .i64 lo) W:=fun _=>rfl
 have HWT2:=hid (fun(u:KW w0)=>HWT.out u.w ((HR.out.below HB.out).below u.h.2.2));have hwb:=HWB.out;clear hB hI pl;have KC:=fun(u:KW w0) b o h=>KW.cells u b o h
 refine ZaK w0 (by kernel_rfl) (by kernel_rfl) (Zag.of (bR0 _ _)) ?_
 repeat (go_big_quiet_step ((go_at_call 274;with_reducible exact ZbC (HWT2.out _))))
 refine wpQuiet_nil ?_;rintro w8 ⟨⟨_,k8⟩,rfl⟩;go_wp2_with fail;go_ret;exact⟨rfl,bT0 HB.out k8.2.2⟩
def ZlE(l P:List Int)(q:Int)(k r:Nat)(x:List Int):Nat->Int
 |0=>bsR l P k r
 |c+1=>wrap64 (ZlE l P q k r x c+Zd5 (wtR l P k r c) (x.getD c 0) q)
theorem getD_in{l:List Int}(h:Zaw l)(i:Nat):In1 (l.getD i 0):=by
 rw[YaT]
 cases e:l[i]? with
 |none=>exact⟨by decide,by decide⟩
 |some x=>exact h x (YaL e)
theorem Zm0(k r N cx:Nat)(X:Option Addr)(x:List Int)(h:Zb6 w A n cap l Ap NP cp P q)(hk:k<n-1)(hr:r<szN l (k+1))(hN:N=szN l k)(hxl:x.length=N)(hx:Rd w 1 X N (iv x))(hxi:Zaw x) :
  Calls prog 223 #[Zd2 A n cap Ap NP cp q,.int .i64 k,.int .i64 r,.slice X N cx] w fun e w'=>e=.returned (.int .i64 (ZlE l P q k r x N))/\Bz0 w w':=by
 have hs1:=(h.ok.sz (show k<n by omega)).2.2;obtain⟨gx,ox,rfl,hxlt,hxc⟩:=hx.2 (by have:=(h.ok.sz (show k<n by omega)).2.1;omega);have HBI:=hid (fun W (x:Zb6 W A n cap l Ap NP cp P q)=>ZmZ A n cap l Ap NP cp P q W k r x hk hr);have HWT:=hid (fun W c (hc:c<szN l k) (x:Zb6 W A n cap l Ap NP cp P q)=>Zfe A n cap l Ap NP cp P q W k r c x hk hr hc);have HX:=hid (fun c (hc:c<N)=>show w.cell? ⟨gx,ox+c,none⟩=some (.int .i64 (x.getD c 0)) from hxc c _ (by unfold iv;rw[YaR,YaA (by omega),YaT,YaA (by omega)];rfl));have HPI:=hid (fun c=>(show In1 (wtR l P k r c) from getD_in h.ok.pin _));have HXI:=hid (fun c=>(getD_in hxi c));have HH:=hid h;have HNN:=hid hN;have HNB:Hid (N<=1000):=hid (by omega);have HG:Hid (∀W,w.alloc (.cells (Zce A n cap Ap NP cp q) 202)=W->Below w.heap.size w W/\Blk W w.heap.size 202 (Zce A n cap Ap NP cp q)):=hid (by
  rintro W rfl;exact⟨bA0 _,Blk.new _ _ _⟩)
 clear hN hx hxc hxl hs1 h hr
 go_enter func223,ntmps223
 go_wp2_with fail;obtain⟨w0,hw0⟩:∃w0,w.alloc (.cells (Zce A n cap Ap NP cp q) 202)=w0:=⟨_,rfl⟩;obtain⟨hB,hI⟩:=HG.out _ hw0;rw[hw0];clear hw0 HG;have HB:=hid hB;have HI:=hid hI;clear hB hI;have y0:=cv0 HI.out;have y1:w0.cell? ⟨w.heap.size,1,none⟩=some (.slice Ap NP cp):=HI.out.cell 1;have y2:w0.cell? ⟨w.heap.size,2,none⟩=some (.int .i64 q):=HI.out.cell 2;have yl:=HI.out.lt;go_wp2_with fail;((with_reducible refine(HBI.out _ (HH.out.below HB.out)).mono ?_);rintro e w1 ⟨rfl,hb1⟩);have HB1:=hid (bT0 HB.out hb1);have HI1:=hid (HI.out.kept hb1);clear hb1 y0 y1 y2 yl;go_wp2_with fail
 go_loopw [9,10] (fun s v wr=>∃c:Nat,c<=N/\v=.int .i64 c/\s=.int .i64 (ZlE l P q k r x c)/\Bz0 w1 wr) (fun _ v _=>N-(intOf v).toNat)
 case atStart=>exact⟨0,by omega,rfl,rfl,bR0 _ _⟩
 case round=>
  obtain⟨c,hc,rfl,rfl,hb⟩:=hrel
  by_cases hlt:c<N
  ·have hIr:=HI1.out.kept hb;have HIR:=hid hIr;have HBR:=hid hb;have HBW:=hid (bT0 HB1.out hb);have y0:=cv0 hIr;have y1:wr.cell? ⟨w.heap.size,1,none⟩=some (.slice Ap NP cp):=hIr.cell 1;have y2:wr.cell? ⟨w.heap.size,2,none⟩=some (.int .i64 q):=hIr.cell 2;have yl:=hIr.lt;obtain⟨u,hu⟩:∃u,x.getD c 0=u:=⟨_,rfl⟩;obtain⟨wt,hwt⟩:∃u,wtR l P k r c=u:=⟨_,rfl⟩;obtain⟨sm,hsm⟩:∃u,ZlE l P q k r x c=u:=⟨_,rfl⟩;have xc:wr.cell? ⟨gx,ox+c,none⟩=some (.int .i64 u):=by
    rw[<-hu];exact(HBW.out.cell (p:=⟨gx,ox+c,none⟩) hxlt).trans (HX.out c hlt)
   have xl:gx<wr.heap.size:=YaK hxlt HBW.out.size;have hHWT:∀u:KW wr,Calls prog 225 #[Zd2 A n cap Ap NP cp q,.int .i64 k,.int .i64 r,.int .i64 c] u.w fun e w'=>e=.returned (.int .i64 wt)/\Below u.w.heap.size u.w w':=fun u=>by
    have:=HWT.out u.w c (by have:=HNN.out;omega) (((HH.out.below HBW.out)).below u.h.2.2);rw[hwt] at this;exact this
   have HWT2:=hid hHWT;have HMU:=hid (fun(v:KW wr)=>Zcl wt u q v.w (by rw[<-hwt];exact HPI.out c) (by rw[<-hu];exact HXI.out c));have HSN:Hid (wrap64 (sm+Zd5 wt u q)=ZlE l P q k r x (c+1)):=hid (by rw[ZlE,hu,hwt,hsm]);rw[hsm];have HC:=hid hlt;have r2:(c:Int)<(N:Int):=by omega
   have hbd:=HNB.out;have KC:=fun(u:KW wr) b o h=>KW.cells u b o h
   clear hb hIr hu hwt hsm hHWT hlt;go_wp2_with fail;refine ZaK wr (by kernel_rfl) (by kernel_rfl) (Zag.of (bR0 _ _)) ?_
   repeat (go_big_quiet_step (first|(go_at_call 225;with_reducible exact ZbC (HWT2.out _))|(go_at_call 159;with_reducible exact ZeB (HMU.out _))))
   refine wpQuiet_nil ?_;rintro w8 ⟨⟨_,k8⟩,rfl⟩;go_wp2_with fail;rw[HSN.out]
   go_roundw
   case rel=>exact⟨c+1,HC.out,by go_num,rfl,bT0 HBR.out k8.2.2⟩
   case measure=>simp[intOf];have:=HC.out;omega
  ·obtain rfl:c=N:=by omega
   have HBW:=hid (bT0 HB1.out hb);clear hb;go_wp2_with fail;go_ret;exact⟨rfl,HBW.out⟩
end
