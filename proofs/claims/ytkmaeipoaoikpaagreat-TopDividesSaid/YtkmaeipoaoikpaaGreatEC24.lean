/- Lemmas. -/
import Derived.Test.YtkmaeipoaoikpaaGreatEC23
namespace Go.Proofs.YtkmaeipoaoikpaaGreat
set_option linter.all false
set_option maxRecDepth 100000
set_option maxHeartbeats 4000000
open Lib (hid)
open Tryz
section
open Go.ChangeShapes Go.WideShapes Go.ChangeAt Go.RowKit
theorem ZwW{α:Type}{l:List α}(h:l.length=15):∃a0 a1 a2 a3 a4 a5 a6 a7 a8 a9 a10 a11 a12 a13 a14,l=[a0,a1,a2,a3,a4,a5,a6,a7,a8,a9,a10,a11,a12,a13,a14]:=by
 match l,h with
 |[a0,a1,a2,a3,a4,a5,a6,a7,a8,a9,a10,a11,a12,a13,a14],_=>exact⟨_,_,_,_,_,_,_,_,_,_,_,_,_,_,_,rfl⟩
theorem Zhe(b o j:Nat):(⟨b,o,none⟩:Addr).add j=⟨b,o+j,none⟩:=by
 unfold Addr.add
 by_cases h:j=0<;>simp[h]
theorem ZiM(es:List ExS):(exV es).length=es.length*2:=by
 induction es with
 |nil=>rfl
 |cons e l ih=>rw[Zjv,List.length_cons,List.length_cons,ih,List.length_cons];omega
theorem ZwX{l:List Int}(h:∀z∈l,(Lit.int .u64 z).wf=true):InU l:=fun x hx=>by
 have h1:=h x hx;simp only[Lit.wf,YaQ,decide_eq_true_eq] at h1;have h2:(0:Int)<=x:=h1.1;have h3:x<=(18446744073709551615:Int):=h1.2;exact⟨h2,by omega⟩
structure Zwe(w:World)(e:ExS)(z:List Int×List Int):Prop where
 xl:z.1.length=e.1.2.1
 xr:Rd w 1 e.1.1 e.1.2.1 (iv z.1)
 xi:Zaw z.1
 xc:e.1.2.1<=e.1.2.2
 yl:z.2.length=e.2.2.1
 yr:Rd w 1 e.2.1 e.2.2.1 (iv z.2)
 yi:Zaw z.2
 yc:e.2.2.1<=e.2.2.2
end
section
open Go.ChangeShapes Go.WideShapes Go.ChangeAt Go.RowKit
variable{H:Type}{enc:TypeId×Value→H}{w:World}{base:Nat}{spare:Nat→Bool}{held:Bool}{r:Reach}{b0:Nat}{v:Value}{d:DataW H}{p:List MemPlace}
theorem ZwY{fuel:Nat}{c:Value}{x:DataW H×List MemPlace}(hf:DataW.trod enc prog w base spare held fuel 25 [c]=some x) :
  ∃(S:Option Addr) (m cS:Nat) (es:List ExS) (zs:List (List Int×List Int)),c=.slice S m cS/\es.length=m/\zs.length=m/\Rd w 2 S m (exV es)/\∀(i:Nat) (e:ExS) (z:List Int×List Int),es[i]?=some e->zs[i]?=some z->Zwe w e z:=by
 have hc3:prog.cellsOf 26=1:=by kernel_rfl
 have hcr:prog.cellsOf 162=2:=by kernel_rfl
 rcases Go.Deep.open_slice underlying25 hf with⟨hcs,_⟩|⟨a,n,cap,m,fu,D,Pl,hcs,_,hl,hm,hmm,_,hi⟩
 ·obtain rfl:c=.slice none 0 0:=by simpa using hcs
  exact⟨none,0,0,[],[],rfl,rfl,rfl,Rd.nil _ _ _,fun i e z h=>by simp at h⟩
 ·obtain rfl:c=.slice (some a) n cap:=by simpa using hcs
  have hnm:n<=m:=by rw[hmm];split<;>omega
  rw[hcr] at hi;have hall:∀i,i<n->∃q:ExS×(List Int×List Int),(w.cell? (a.add (i*2))=some (.slice q.1.1.1 q.1.1.2.1 q.1.1.2.2)/\w.cell? (a.add (i*2+1))=some (.slice q.1.2.1 q.1.2.2.1 q.1.2.2.2))/\Zwe w q.1 q.2:=by
   intro i him;obtain⟨cs',hc,ht⟩:=hi i (by omega);obtain⟨_,hcl,hat⟩:=World.cells?_some hc;obtain⟨c0,c1,rfl⟩:=ZxK hcl;obtain⟨m2,hm2⟩:=ZiX underlying162 ht;obtain⟨y5,e5⟩:=hm2 0 _ rfl;obtain⟨y6,e6⟩:=hm2 1 _ rfl
   replace e5:DataW.trod enc prog w base spare held m2 26 (List.take (prog.cellsOf 26) (List.drop 0 [c0,c1]))=some y5:=e5
   replace e6:DataW.trod enc prog w base spare held m2 26 (List.take (prog.cellsOf 26) (List.drop 1 [c0,c1]))=some y6:=e6
   rw[hc3] at e5 e6;obtain⟨A1,n1,k1,l1,rfl,a1,a2,a3,a4,_⟩:=Zg9 underlying26 underlying2 (by kernel_rfl) e5;obtain⟨A2,n2,k2,l2,rfl,b1,b2,b3,b4,_⟩:=Zg9 underlying26 underlying2 (by kernel_rfl) e6;have h0:=hat 0 (by omega);have h1:=hat 1 (by omega);rw[Go.Deep.add_add] at h0 h1;exact⟨(((A1,n1,k1),(A2,n2,k2)),(l1,l2)),⟨h0,h1⟩,⟨a2,a3,fun z hz=>bounds_i64 (a4 z hz),a1.2.1,b2,b3,fun z hz=>bounds_i64 (b4 z hz),b1.2.1⟩⟩
  obtain⟨f,hf'⟩:=Go.Deep.choose_lt hall;refine⟨some a,n,cap,(List.range n).map (fun i=>(f i).1),(List.range n).map (fun i=>(f i).2),rfl,by simp,by simp,⟨by rw[ZiM];simp,fun hn=>?_⟩,fun i e z h1 h2=>?_⟩
  ·obtain⟨b,o,sp⟩:=a;have hs:sp=none:=by
    have:=(hf' 0 hn).1.1;have:=World.cell?_spot this
    simpa [Addr.add] using this
   subst hs;refine⟨b,o,rfl,?_,fun j u hu=>?_⟩
   ·have:=World.block_lt_of_cell? w _ (hf' 0 hn).1.1;rw[Zhe] at this;exact this
   ·have hlen:(exV ((List.range n).map fun i=>(f i).1)).length=n*2:=by rw[ZiM];simp
    have hj:j<n*2:=by
     have:=(YaG.1 hu).1;omega
    have hk:((List.range n).map fun i=>(f i).1)[j/2]?=some (f (j/2)).1:=by
     have h2:j/2<n:=by omega
     simp[h2]
    obtain⟨g1,g2⟩:=Zra _ (j/2) _ hk;have hfk:=(hf' (j/2) (by omega)).1;rw[Zhe,Zhe] at hfk
    rcases Nat.mod_two_eq_zero_or_one j with hp|hp
    ·rw[show j/2*2=j by omega] at g1 hfk;rw[hu] at g1;injection g1 with g1
     rw[hfk.1,g1]
    ·rw[show j/2*2+1=j by omega] at g2 hfk;rw[hu] at g2;injection g2 with g2
     rw[hfk.2,g2]
  ·have hin:i<n:=by
    have:=(YaG.1 h1).1
    simpa using this
   simp[hin] at h1 h2;subst h1 h2;exact(hf' i hin).2
theorem Zm3(hv:Value.okWide prog w r b0 29 v)(h:DataW.Trod enc prog w base spare held 29 v d p) :
  ∃(A:Option Addr) (n cap:Nat) (l:List Int) (c:Cfg) (S:Option Addr) (m cS:Nat) (es:List ExS) (zs:List (List Int×List Int)) (AP:Option Addr) (P cP:Nat) (P0:List Int) (AD:Option Addr) (D cD:Nat) (L:List Int),
   v=inV A n cap c S m cS AP P cP AD D cD/\n<=cap/\l.length=n/\Rd w 1 A n (iv l)/\(In1 c.ra/\In1 c.mo)/\es.length=m/\zs.length=m/\Rd w 2 S m (exV es)/\(∀(i:Nat) (e:ExS) (z:List Int×List Int),es[i]?=some e->zs[i]?=some z->Zwe w e z) /\
   P0.length=P/\Rd w 1 AP P (iv P0)/\Zaw P0/\L.length=D/\Rd w 1 AD D (uv L)/\InU L:=by
 obtain⟨⟨l⟩,rfl,hs⟩:=okWide_struct underlying29 hv;have hc:prog.cellsOf 29=15:=by kernel_rfl
 have hc3:prog.cellsOf 3=1:=by kernel_rfl
 have hc6:prog.cellsOf 2=1:=by kernel_rfl
 have hcs:prog.cellsOf 22=1:=by kernel_rfl
 have hcx:prog.cellsOf 25=1:=by kernel_rfl
 have hcp:prog.cellsOf 26=1:=by kernel_rfl
 have hcu:prog.cellsOf 27=1:=by kernel_rfl
 have hcr:prog.cellsOf 24=12:=by kernel_rfl
 rw[hc] at hs;obtain⟨c0,c1,c2,c3,c4,c5,c6,c7,c8,c9,c10,c11,c12,c13,c14,rfl⟩:=ZwW (by simpa using hs);obtain⟨fuel,hf⟩:=h;obtain⟨m,hm⟩:=ZiX underlying29 hf;obtain⟨y0,e0⟩:=hm 0 _ rfl;obtain⟨y1,e1⟩:=hm 1 _ rfl;obtain⟨y2,e2⟩:=hm 2 _ rfl;obtain⟨y3,e3⟩:=hm 3 _ rfl;simp only[Value.cells,hcx,hcp,hcu,hcr,List.drop_zero,List.take_succ_cons,List.take_zero,List.drop_succ_cons] at e0 e1 e2 e3;obtain⟨m2,hm2⟩:=ZiX underlying24 e0;obtain⟨z0,f0⟩:=hm2 0 _ rfl;obtain⟨z1,f1⟩:=hm2 1 _ rfl;obtain⟨z2,f2⟩:=hm2 2 _ rfl;obtain⟨z3,f3⟩:=hm2 3 _ rfl;obtain⟨z4,f4⟩:=hm2 4 _ rfl;obtain⟨z5,f5⟩:=hm2 5 _ rfl;obtain⟨z6,f6⟩:=hm2 6 _ rfl;obtain⟨z7,f7⟩:=hm2 7 _ rfl;obtain⟨z8,f8⟩:=hm2 8 _ rfl;obtain⟨z9,f9⟩:=hm2 9 _ rfl;obtain⟨z10,f10⟩:=hm2 10 _ rfl;obtain⟨z11,f11⟩:=hm2 11 _ rfl
 replace f0:DataW.trod enc prog w base spare held m2 22 (List.take (prog.cellsOf 22) (List.drop 0 [c0,c1,c2,c3,c4,c5,c6,c7,c8,c9,c10,c11]))=some z0:=f0
 rw[hcs] at f0
 replace f1:DataW.trod enc prog w base spare held m2 3 (List.take (prog.cellsOf 3) (List.drop 1 [c0,c1,c2,c3,c4,c5,c6,c7,c8,c9,c10,c11]))=some z1:=f1
 rw[hc3] at f1
 replace f2:DataW.trod enc prog w base spare held m2 2 (List.take (prog.cellsOf 2) (List.drop 2 [c0,c1,c2,c3,c4,c5,c6,c7,c8,c9,c10,c11]))=some z2:=f2
 rw[hc6] at f2
 replace f3:DataW.trod enc prog w base spare held m2 2 (List.take (prog.cellsOf 2) (List.drop 3 [c0,c1,c2,c3,c4,c5,c6,c7,c8,c9,c10,c11]))=some z3:=f3
 rw[hc6] at f3
 replace f4:DataW.trod enc prog w base spare held m2 3 (List.take (prog.cellsOf 3) (List.drop 4 [c0,c1,c2,c3,c4,c5,c6,c7,c8,c9,c10,c11]))=some z4:=f4
 rw[hc3] at f4
 replace f5:DataW.trod enc prog w base spare held m2 3 (List.take (prog.cellsOf 3) (List.drop 5 [c0,c1,c2,c3,c4,c5,c6,c7,c8,c9,c10,c11]))=some z5:=f5
 rw[hc3] at f5
 replace f6:DataW.trod enc prog w base spare held m2 3 (List.take (prog.cellsOf 3) (List.drop 6 [c0,c1,c2,c3,c4,c5,c6,c7,c8,c9,c10,c11]))=some z6:=f6
 rw[hc3] at f6
 replace f7:DataW.trod enc prog w base spare held m2 3 (List.take (prog.cellsOf 3) (List.drop 7 [c0,c1,c2,c3,c4,c5,c6,c7,c8,c9,c10,c11]))=some z7:=f7
 rw[hc3] at f7
 replace f8:DataW.trod enc prog w base spare held m2 3 (List.take (prog.cellsOf 3) (List.drop 8 [c0,c1,c2,c3,c4,c5,c6,c7,c8,c9,c10,c11]))=some z8:=f8
 rw[hc3] at f8
 replace f9:DataW.trod enc prog w base spare held m2 3 (List.take (prog.cellsOf 3) (List.drop 9 [c0,c1,c2,c3,c4,c5,c6,c7,c8,c9,c10,c11]))=some z9:=f9
 rw[hc3] at f9
 replace f10:DataW.trod enc prog w base spare held m2 3 (List.take (prog.cellsOf 3) (List.drop 10 [c0,c1,c2,c3,c4,c5,c6,c7,c8,c9,c10,c11]))=some z10:=f10
 rw[hc3] at f10
 replace f11:DataW.trod enc prog w base spare held m2 3 (List.take (prog.cellsOf 3) (List.drop 11 [c0,c1,c2,c3,c4,c5,c6,c7,c8,c9,c10,c11]))=some z11:=f11
 rw[hc3] at f11;obtain⟨n1,rfl,w1⟩:=ZcK underlying3 f1;obtain⟨n2,rfl,w2⟩:=ZcK underlying2 f2;obtain⟨n3,rfl,w3⟩:=ZcK underlying2 f3;obtain⟨n4,rfl,w4⟩:=ZcK underlying3 f4;obtain⟨n5,rfl,w5⟩:=ZcK underlying3 f5;obtain⟨n6,rfl,w6⟩:=ZcK underlying3 f6;obtain⟨n7,rfl,w7⟩:=ZcK underlying3 f7;obtain⟨n8,rfl,w8⟩:=ZcK underlying3 f8;obtain⟨n9,rfl,w9⟩:=ZcK underlying3 f9;obtain⟨n10,rfl,w10⟩:=ZcK underlying3 f10;obtain⟨n11,rfl,w11⟩:=ZcK underlying3 f11;obtain⟨A,N,cap,ls,rfl,a1,a2,a3,a4,_⟩:=Zg9 underlying22 underlying3 (by kernel_rfl) f0;obtain⟨S,M,cS,es,zs,rfl,x1,x2,x3,x4⟩:=ZwY e1;obtain⟨AP,P,cP,P0,rfl,p1,p2,p3,p4,_⟩:=Zg9 underlying26 underlying2 (by kernel_rfl) e2;obtain⟨AD,D,cD,L,rfl,d1,d2,d3,d4,_⟩:=Zg9 underlying27 underlying135 (by kernel_rfl) e3;exact⟨A,N,cap,ls,⟨n1,n2,n3,n4,n5,n6,n7,n8,n9,n10,n11⟩,S,M,cS,es,zs,AP,P,cP,P0,AD,D,cD,L,rfl,a1.2.1,a2,a3,⟨bounds_i64 w2,bounds_i64 w3⟩,x1,x2,x3,x4,p2,p3,fun z hz=>bounds_i64 (p4 z hz),d2,d3,ZwX d4⟩
end
section
open Go.RowKit
def Zx3(A:Option Addr)(n cap:Nat)(l:List Int)(c:Cfg)(S:Option Addr)(m cS:Nat)(es:List ExS)(zs:List (List Int×List Int))(AP:Option Addr)(P cP:Nat)(P0:List Int)(AD:Option Addr)(D cD:Nat)(L:List Int):InC:=
 ⟨A,n,cap,l,c,S,m,cS,es.map fun e=>(e.1.1,e.1.2.2,e.2.1,e.2.2.2),szN l 0,szN l (n-1),fun i=>zs.getD (i-1) ([],[]),AP,P,cP,P0,AD,D,cD,L⟩
end
section
open Go.RowKit
variable{A:Option Addr}{n cap:Nat}{l:List Int}{c:Cfg}{S:Option Addr}{m cS:Nat}{es:List ExS}{zs:List (List Int×List Int)}{AP:Option Addr}{P cP:Nat}{P0:List Int}{AD:Option Addr}{D cD:Nat}{L:List Int}{w:World}
theorem Zr1(h:Zht l c es m P D=true)(hl:l.length=n):Zgd (szN l 0) (szN l (n-1)) (es.map fun e=>(e.1.1,e.1.2.2,e.2.1,e.2.2.2))=es/\∀e∈es,e.1.2.1=szN l 0/\e.2.2.1=szN l (n-1):=by
 unfold Zht at h;simp only[YaQ,decide_eq_true_eq] at h;obtain⟨-,-,h3,-⟩:=h;rw[hl] at h3;have hf:∀e∈es,e.1.2.1=szN l 0/\e.2.2.1=szN l (n-1):=by
  intro e he;unfold ZdE at h3;rw[List.all_eq_true] at h3;have h4:=h3 e he;unfold Ziz at h4;simp only[YaQ,decide_eq_true_eq] at h4;unfold szN;exact⟨by omega,by omega⟩
 refine⟨?_,hf⟩;unfold Zgd;rw[List.map_map]
 conv=>rhs;rw[<-List.map_id es]
 refine List.map_congr_left (fun e he=>?_);obtain⟨h1,h2⟩:=hf e he;obtain⟨⟨a1,a2,a3⟩,⟨b1,b2,b3⟩⟩:=e;dsimp only at h1 h2;subst h1 h2;rfl
theorem ZvI(hcap:n<=cap)(hl:l.length=n)(hr:Rd w 1 A n (iv l))(hes:es.length=m)(hzs:zs.length=m)(hre:Rd w 2 S m (exV es))(hex:∀(i:Nat) (e:ExS) (z:List Int×List Int),es[i]?=some e->zs[i]?=some z->Zwe w e z)(hpl:P0.length=P)(hrp:Rd w 1 AP P (iv P0))(hdl:L.length=D)(hrd:Rd w 1 AD D (uv L))(f:Zwd n m P D l c es):ZmG w (Zx3 A n cap l c S m cS es zs AP P cP P0 AD D cD L):=by
 obtain⟨h1,h2⟩:=Zr1 f.ok hl;refine⟨hl,hr,hcap,by show (es.map _).length=m;rw[List.length_map];exact hes,?_,?_,hpl,hrp,hdl,hrd⟩
 ·show Rd w 2 S m (stv (szN l 0) (szN l (n-1)) (es.map _))
  rw[<-ZnP,h1];exact hre
 ·intro i s hs;have hs':(es.map fun e=>(e.1.1,e.1.2.2,e.2.1,e.2.2.2))[i]?=some s:=hs;rw[YaR] at hs';obtain⟨e,he,rfl⟩:=Option.map_eq_some_iff.1 hs';have hi:i<m:=by rw[<-hes];exact(YaG.1 he).1
  obtain⟨z,hz⟩:∃z,zs[i]?=some z:=⟨_,YaA (by omega)⟩;have hx:=hex i e z he hz;obtain⟨g1,g2⟩:=h2 e (YaL he);have hf:zs.getD (i+1-1) ([],[])=z:=by rw[Nat.add_sub_cancel,YaT,hz];rfl
  show Rd w 1 e.1.1 (szN l 0) (iv (zs.getD (i+1-1) ([],[])).1)/\Rd w 1 e.2.1 (szN l (n-1)) (iv (zs.getD (i+1-1) ([],[])).2)
  rw[hf,<-g1,<-g2];exact⟨hx.xr,hx.yr⟩
theorem ZvJ(hl:l.length=n)(hc:In1 c.ra/\In1 c.mo)(hes:es.length=m)(hzs:zs.length=m)(hex:∀(i:Nat) (e:ExS) (z:List Int×List Int),es[i]?=some e->zs[i]?=some z->Zwe w e z)(hpi:Zaw P0)(hdl:L.length=D)(hu:InU L)(f:Zwd n m P D l c es):(Zx3 A n cap l c S m cS es zs AP P cP P0 AD D cD L).Ok:=by
 obtain⟨h1,h2⟩:=Zr1 f.ok hl;have hz:∀i,i<m->∃e z,es[i]?=some e/\zs[i]?=some z/\zs.getD (i+1-1) ([],[])=z:=by
  intro i hi;obtain⟨z,hz⟩:∃z,zs[i]?=some z:=⟨_,YaA (by omega)⟩;exact⟨_,z,YaA (by omega),hz,by rw[Nat.add_sub_cancel,YaT,hz];rfl⟩
 refine⟨?_,hl,by show (es.map _).length=m;rw[List.length_map];exact hes,hdl,rfl,rfl,fun i hi=>?_,fun i hi=>?_,f.few.m60,?_,?_,?_,f.mi,?_,hu,hpi,hc.1,hc.2⟩
 ·show Zht l c (Zgd (szN l 0) (szN l (n-1)) (es.map _)) m P D=true
  rw[h1];exact f.ok
 ·obtain⟨e,z,he,hz1,hz2⟩:=hz i hi;have hx:=hex i e z he hz1;obtain⟨g1,g2⟩:=h2 e (YaL he)
  show (zs.getD (i+1-1) ([],[])).1.length=szN l 0/\(zs.getD (i+1-1) ([],[])).2.length=szN l (n-1)
  rw[hz2,hx.xl,hx.yl];exact⟨g1,g2⟩
 ·obtain⟨e,z,he,hz1,hz2⟩:=hz i hi;have hx:=hex i e z he hz1
  show Zaw (zs.getD (i+1-1) ([],[])).1
  rw[hz2];exact hx.xi
 ·have:=f.st5;show c.st<=12;omega
 ·have:=f.P40;show P<=60;omega
 ·have:=f.wk;show c.wk<=8;omega
 ·have:=f.few.D2000;show D<=4000;omega
end
section
open Go.RowKit
theorem Zln{l:List Int}{k j:Nat}(h:j<k)(d:Int):(l.take k).getD j d=l.getD j d:=by
 rw[YaT,YaT,List.getElem?_take,if_pos h]
theorem Zhf(l:List Int)(k:Nat):∀j,j<=k->Zbr (l.take (k+1)) j=Zbr l j
 |0,_=>rfl
 |j+1,h=>by
  rw[Zbr,Zbr,Zhf l k j (by omega),Zln (by omega),Zln (by omega)]
theorem Zr2{w:World}{A:Option Addr}{n k:Nat}{l:List Int}(h:Rd w 1 A n (iv l))(hk:k<=n):Rd w 1 A k (iv (l.take k)):=by
 have hl:l.length=n:=by have:=h.1;rw[Zay] at this;omega
 refine⟨by rw[Zay,List.length_take,hl];omega,fun h0=>?_⟩;obtain⟨b,o,e,hlt,hc⟩:=h.2 (by omega);refine⟨b,o,e,hlt,fun j u hu=>hc j u ?_⟩;unfold iv at hu ⊢;rw[YaR,List.getElem?_take] at hu
 split at hu
 ·rw[YaR];exact hu
 ·cases hu
theorem Zhg{l:List Int}{k:Nat}(h:ZaU l=false):ZaU (l.take k)=false:=by
 unfold ZaU at h ⊢;rw[List.any_eq_false] at h ⊢;exact fun x hx=>h x (List.mem_of_mem_take hx)
theorem NetP.wrong{l:List Int}{n NP:Nat}{P:List Int}{q:Int}(h:NetP l n NP P q):ZaU l=false:=by
 unfold ZaU;rw[List.any_eq_false];intro x hx;obtain⟨k,hk⟩:=List.getElem?_of_mem hx;have:=h.pos k x hk;simp;omega
abbrev Zd8(A:Option Addr)(n cap:Nat)(Ap:Option Addr)(NP cp:Nat)(q:Int):Value:=.agg #[.slice A n cap,.slice Ap NP cp,.int .i64 q]
abbrev Zcg(A:Option Addr)(n cap:Nat)(Ap:Option Addr)(NP cp:Nat)(q:Int):Array Value:=#[.slice A n cap,.slice Ap NP cp,.int .i64 q]
structure Zb8(w:World)(A:Option Addr)(n cap:Nat)(l:List Int)(Ap:Option Addr)(NP cp:Nat)(P:List Int)(q:Int):Prop where
 ok:NetP l n NP P q
 rl:Rd w 1 A n (iv l)
 cap:n<=cap
 rp:Rd w 1 Ap NP (iv P)
theorem Zb8.below{w w':World}{A:Option Addr}{n cap:Nat}{l:List Int}{Ap:Option Addr}{NP cp:Nat}{P:List Int}{q:Int}(h:Zb8 w A n cap l Ap NP cp P q)(hb:Below w.heap.size w w'):Zb8 w' A n cap l Ap NP cp P q:=⟨h.ok,h.rl.below hb,h.cap,h.rp.below hb⟩
def wtR(l P:List Int)(k r c:Nat):Int:=P.getD (ofN l k+r*szN l k+c) 0
def bsR(l P:List Int)(k r:Nat):Int:=P.getD (obN l k+r) 0
end
section
open Go.RowKit
variable(A:Option Addr)(n cap:Nat)(l:List Int)(Ap:Option Addr)(NP cp:Nat)(P:List Int)(q:Int)(w:World)
theorem Zel(k:Nat)(hN:NetP l n NP P q)(h:Rd w 1 A n (iv l))(hcap:n<=cap)(hk:k<n-1) :
  Calls prog 258 #[.slice A n cap,.int .i64 k] w fun e w'=>e=.returned (.agg #[.int .i64 (ofN l k),.int .i64 (obN l k)])/\Bz0 w w':=by
 have n16:=hN.n16;have hcn:=hN.cnt_eq k (by omega);obtain⟨a1,a2,a3⟩:=hN.sz (show k<n by omega);obtain⟨b1,b2,b3⟩:=hN.sz (show k+1<n by omega);have hfit:=hN.fit hk;have hnp:=hN.np;have HC:=hid (fun W (r:Rd W 1 A (k+1) (iv (l.take (k+1))))=>Zbt A (k+1) cap (l.take (k+1)) W (by rw[List.length_take,hN.len];omega) r (by omega) (Zhg hN.wrong));have HH:=hid h;have hct:Zbr (l.take (k+1)) (k+1-1)=(ofN l k:Int):=by rw[Nat.add_sub_cancel,Zhf l k k (YaF _),hcn]
 rw[hct] at HC;obtain⟨ga,oa,rfl,hlt,hca⟩:=h.2 (by omega);have hc0:w.cell? ⟨ga,oa+k,none⟩=some (.int .i64 (szN l k)):=hca k _ (by unfold iv;rw[YaR,a1];rfl);have hc1:w.cell? ⟨ga,oa+(k+1),none⟩=some (.int .i64 (szN l (k+1))):=hca (k+1) _ (by unfold iv;rw[YaR,b1];rfl);have hmul:ofN l k+szN l k*szN l (k+1)=obN l k:=by rw[obN,Nat.mul_comm]
 obtain⟨s0,hs0⟩:∃s,szN l k=s:=⟨_,rfl⟩;obtain⟨s1,hs1⟩:∃s,szN l (k+1)=s:=⟨_,rfl⟩;obtain⟨lo,hlo⟩:∃s,ofN l k=s:=⟨_,rfl⟩;obtain⟨hi,hhi⟩:∃s,obN l k=s:=⟨_,rfl⟩;rw[hs0] at hc0 hmul a2 a3;rw[hs1] at hc1 hmul b2 b3 hfit;rw[hlo] at HC hmul;rw[hhi] at hmul hfit;rw[hlo,hhi];have HC2:=HC;have hw1:wrap64 ((s0:Int)*(s1:Int))=((s0*s1:Nat):Int):=by
  have h1:s0*s1<=1000*1000:=Nat.mul_le_mul a3 b3;rw[<-Int.natCast_mul];exact Za6 _ (by omega) (by omega)
 have hw2:wrap64 ((lo:Int)+((s0*s1:Nat):Int))=(hi:Int):=by
  rw[<-hmul,<-Int.natCast_add];exact Za6 _ (by omega) (by omega)
 have HW1:=hid hw1;have HW2:=hid hw2;have HG:Hid (∀W,w.alloc (.cells #[.int .i64 0,.int .i64 0] 355)=W->Below w.heap.size w W/\Blk W w.heap.size 355 #[.int .i64 0,.int .i64 0]):=hid (by
  rintro W rfl;exact⟨bA0 _,Blk.new _ _ _⟩)
 have d1:decide ((k:Int)<0)=false:=YaI (by omega);have d2:decide ((n:Int)-1<=(k:Int))=false:=YaI (by omega);have hkn:k+1<=n:=by omega
 have HC0:=hid hc0;have HC1:=hid hc1;clear hca hcn hct a1 b1 HC hw1 hw2 hmul hs0 hs1 hlo hhi a2 a3 b2 b3 hfit hnp hN h hc0 hc1
 go_enter func258,ntmps258
 go_wp2_with fail;obtain⟨w0,hw0⟩:∃w0,w.alloc (.cells #[.int .i64 0,.int .i64 0] 355)=w0:=⟨_,rfl⟩;obtain⟨hB,hI⟩:=HG.out _ hw0;rw[hw0];clear hw0 HG;have HB:=hid hB;have HI:=hid hI;((with_reducible refine(HC2.out w0 (Zr2 (HH.out.below hB) hkn)).mono ?_);rintro e w1 ⟨rfl,hb1⟩);have HB1:=hid (bT0 hB hb1);have m0:=hI.kept hb1;have HM0:=hid m0;have hkeep:=fun(o:Nat)=>(HB1.out.cell (p:=⟨ga,o,none⟩) hlt)
 have c0:w1.cell? ⟨ga,oa+k,none⟩=some (.int .i64 s0):=(hkeep _).trans HC0.out;have c1:w1.cell? ⟨ga,oa+(k+1),none⟩=some (.int .i64 s1):=(hkeep _).trans HC1.out;have x0:w1.cell? ⟨w.heap.size,0,none⟩=some (.int .i64 0):=m0.cell 0;have x1:w1.cell? ⟨w.heap.size,1,none⟩=some (.int .i64 0):=m0.cell 1;have f0:=m0.frozen 0;have f1:=m0.frozen 1;have lx:=m0.lt;clear hkeep m0 hB hI hb1;go_wp2_with fail;go_region;rw[HW1.out,HW2.out];go_wp2_with fail;refine bodyPost_ret (v:=.agg #[.int .i64 lo,.int .i64 hi]) (by simp[results,results258,go_sem,x0,x1,lx]) rfl ⟨rfl,?_⟩;exact((HB1.out.drew).setCell (p:=⟨w.heap.size,0,none⟩) (YaF _) _).setCell (p:=⟨w.heap.size,1,none⟩) (YaF _) _
def BiV(s0 s1 s2:Int)(j:Nat)(v:Value)(w:World):Prop:=(j=2->v=.agg #[.int .i64 s0,.int .i64 s1])/\(j=3->v=.int .i64 s1)/\(j=8->v=.int .i64 s2)/\(j=9->v=.agg #[.int .i64 s1,.int .i64 s2])
theorem BiV.two{s0 s1 s2:Int}{w:World}:BiV s0 s1 s2 2 (.agg #[.int .i64 s0,.int .i64 s1]) w:=⟨fun _=>rfl,fun e=>(by cases e),fun e=>(by cases e),fun e=>(by cases e)⟩
theorem BiV.three{s0 s1 s2:Int}{w:World}:BiV s0 s1 s2 3 (.int .i64 s1) w:=⟨fun e=>(by cases e),fun _=>rfl,fun e=>(by cases e),fun e=>(by cases e)⟩
theorem BiV.eight{s0 s1 s2:Int}{w:World}:BiV s0 s1 s2 8 (.int .i64 s2) w:=⟨fun e=>(by cases e),fun e=>(by cases e),fun _=>rfl,fun e=>(by cases e)⟩
theorem BiV.nine{s0 s1 s2:Int}{w:World}:BiV s0 s1 s2 9 (.agg #[.int .i64 s1,.int .i64 s2]) w:=⟨fun e=>(by cases e),fun e=>(by cases e),fun e=>(by cases e),fun _=>rfl⟩
theorem ZjT(k:Nat)(hN:NetP l n NP P q)(h:Rd w 1 A n (iv l))(hcap:n<=cap)(hk:k<n-1) :
  Calls prog 274 #[.slice A n cap,.int .i64 k] w fun e w'=>e=.returned (.agg #[.int .i64 (obN l k),.int .i64 (ofN l (k+1))])/\Bz0 w w':=by
 have n16:=hN.n16;have hcn:=hN.cnt_eq (k+1) (by omega);have HC:=hid (fun W (r:Rd W 1 A (k+2) (iv (l.take (k+2))))=>Zbt A (k+2) cap (l.take (k+2)) W (by rw[List.length_take,hN.len];omega) r (by omega) (Zhg hN.wrong));have hct:Zbr (l.take (k+2)) (k+2-1)=(ofN l (k+1):Int):=by rw[show k+2-1=k+1 by omega,Zhf l (k+1) (k+1) (YaF _),hcn]
 rw[hct] at HC;have HH:=hid h;have HWT:=hid (fun W (r:Rd W 1 A n (iv l))=>Zel A n cap l NP P q W k hN r hcap hk);obtain⟨s0,hs0⟩:∃s,ofN l k=s:=⟨_,rfl⟩;obtain⟨s1,hs1⟩:∃s,obN l k=s:=⟨_,rfl⟩;obtain⟨s2,hs2⟩:∃s,ofN l (k+1)=s:=⟨_,rfl⟩;rw[hs0,hs1] at HWT;rw[hs2] at HC;rw[hs1,hs2];have HG:Hid (∀W,w.alloc (.cells #[.int .i64 0,.int .i64 0] 355)=W->Below w.heap.size w W/\Blk W w.heap.size 355 #[.int .i64 0,.int .i64 0]):=hid (by
  rintro W rfl;exact⟨bA0 _,Blk.new _ _ _⟩)
 have d1:decide ((k:Int)<0)=false:=YaI (by omega);have d2:decide ((n:Int)-1<=(k:Int))=false:=YaI (by omega);have hkn:k+2<=n:=by omega
 clear hcn hct hs0 hs1 hs2 hN h hk
 go_enter func274,ntmps274
 go_wp2_with fail;obtain⟨w0,hw0⟩:∃w0,w.alloc (.cells #[.int .i64 0,.int .i64 0] 355)=w0:=⟨_,rfl⟩;obtain⟨hB,hI⟩:=HG.out _ hw0;rw[hw0];clear hw0 HG;have HB:=hid hB;have HI:=hid hI;clear hB hI;refine ZaZ (Zag w0) (BiV s0 s1 s2) (fun _ _ _ _=>True) [0,1,4,5,6,7] [2,3,8,9] [10] (by kernel_rfl) (by kernel_rfl) (Zag.start w0) (fun _ _ _ _ h=>h) (fun _ _ _ _ h _=>h) ?_;simp only[YaO,YaP,YaB,YaC];have hwk:IntKind.i64.wrap ((k:Int)+2)=(k:Int)+2:=by rw[IntKind.wrap_i64];omega
 have hcond:0<=(k:Int)+2/\(k:Int)+2<=(cap:Int):=by omega
 have htn:((k:Int)+2).toNat=k+2:=by omega
 refine Zaa (.slice A n cap) rfl (fun W hW=>?_) ?_
 ·obtain⟨hc,-,-⟩:=hW;go_simp
 go_simp;refine Zaa (.int .i64 k) rfl (fun W hW=>?_) ?_
 ·obtain⟨hc,-,-⟩:=hW;go_simp
 go_simp;refine Zaa (.slice A n cap) rfl (fun W hW=>?_) ?_
 ·obtain⟨hc,-,-⟩:=hW;go_simp
 go_simp;refine Zaa (.int .i64 k) rfl (fun W hW=>?_) ?_
 ·obtain⟨hc,-,-⟩:=hW;go_simp
 go_simp;refine Zaa (.int .i64 ((k:Int)+2)) rfl (fun W hW=>?_) ?_
 ·obtain⟨hc,-,-⟩:=hW;go_simp
 go_simp;refine Zaa (.slice A (k+2) cap) rfl (fun W hW=>?_) ?_
 ·obtain⟨hc,-,-⟩:=hW;go_simp
 go_simp;clear hwk hcond htn;refine Zen.mk ?_ ?_
 ·intro j8 hj8 o ho8 vs W hS hV;simp only[List.mem_cons,List.not_mem_nil,or_false] at hj8;have HS:=hid hS;have HV:=hid hV;have HBW:=hid (bT0 HB.out hS.2.2);clear hS hV
  rcases hj8 with rfl|rfl|rfl|rfl
  ·cases ho8
   unfold Zbo;simp only[ZaL,ZaT,YaD,YaB,YaC,YaE];change wpList _ _ _ (_::[]) _ _;go_wp2_with fail;((with_reducible refine(HWT.out W (HH.out.below HBW.out)).mono ?_);rintro e w8 ⟨rfl,hb8⟩);go_wp2_with fail;exact⟨HS.out.call hb8,BiV.two⟩
  ·have v2:=(HV.out 2 (by simp) (by kernel_rfl)).1 rfl
   cases ho8
   unfold Zbo;simp only[ZaL,ZaT,YaD,YaB,YaC,YaE];rw[v2];have hfd:(Instr.field 355 (.agg #[.int .i64 s0,.int .i64 s1]) 1).run prog W=.ok (.int .i64 s1) W:=rfl;change wpList _ _ _ (_::[]) _ _;go_wp2_with fail;exact⟨HS.out,BiV.three,bR0 _ _⟩
  ·cases ho8
   unfold Zbo;simp only[ZaL,ZaT,YaD,YaB,YaC,YaE];change wpList _ _ _ (_::[]) _ _;go_wp2_with fail;((with_reducible refine(HC.out W (Zr2 (HH.out.below HBW.out) hkn)).mono ?_);rintro e w8 ⟨rfl,hb8⟩);go_wp2_with fail;exact⟨HS.out.call hb8,BiV.eight⟩
  ·have v3:=(HV.out 3 (by simp) (by kernel_rfl)).2.1 rfl;have v8:=(HV.out 8 (by simp) (by kernel_rfl)).2.2.1 rfl
   cases ho8
   unfold Zbo;simp only[ZaL,ZaT,YaD,YaB,YaC,YaE];rw[v3,v8];change wpList _ _ _ (_::[]) _ _;go_wp2_with fail;exact⟨HS.out,BiV.nine,bR0 _ _⟩
 ·intro vs W hS hV hR;have v9:=(hV 9 (by simp)).2.2.2 rfl;simp only[ZaL,ZaT,YaO,YaP,YaD,YaB,YaC,YaE];rw[v9];have HBW:=hid (bT0 HB.out hS.2.2);have m0:=HI.out.kept hS.2.2;have x0:W.cell? ⟨w.heap.size,0,none⟩=some (.int .i64 0):=m0.cell 0;have x1:W.cell? ⟨w.heap.size,1,none⟩=some (.int .i64 0):=m0.cell 1;have f0:=m0.frozen 0;have f1:=m0.frozen 1;have lx:=m0.lt;clear hS hV hR v9 m0;change wpList _ _ _ (_::[]) _ _;go_wp2_with fail;refine NoPanic.normal ?_;go_wp2_with fail;refine bodyPost_ret (v:=.agg #[.int .i64 s1,.int .i64 s2]) (by simp[results,results274,go_sem,x0,x1,lx]) rfl ⟨rfl,?_⟩;exact((HBW.out).setCell (p:=⟨w.heap.size,0,none⟩) (YaF _) _).setCell (p:=⟨w.heap.size,1,none⟩) (YaF _) _
theorem ZtW{n:Nat}(h:n<=4000000):wrap64 (n:Int)=(n:Int):=Za6 _ (by omega) (by omega)
theorem ZdO{k:Nat}{b o:Nat}{w:World}{n:Nat}{l:List Int}{NP:Nat}{P:List Int}{q:Int}(hN:NetP l n NP P q)(hk:k<n)(h:Rd w 1 (some ⟨b,o,none⟩) n (iv l)):w.cell? ⟨b,o+k,none⟩=some (.int .i64 (szN l k))/\b<w.heap.size:=by
 obtain⟨b',o',e,hlt,hc⟩:=h.2 (by omega);injection e with e
 injection e with e1 e2 e3
 subst e1 e2;exact⟨hc k _ (by unfold iv;rw[YaR,(hN.sz hk).1];rfl),hlt⟩
theorem Zfj{w:World}{A:Option Addr}{n cap:Nat}{l:List Int}{Ap:Option Addr}{NP cp:Nat}{P:List Int}{q:Int}(h:Zb8 w A n cap l Ap NP cp P q):∃b o b' o',A=some ⟨b,o,none⟩/\Ap=some ⟨b',o',none⟩:=by
 obtain⟨b,o,e,_⟩:=h.rl.2 (by have:=h.ok.n2;omega);have h1:0<NP:=by
  have h2:=h.ok.fit (k:=0) (by have:=h.ok.n2;omega);have h3:=(h.ok.sz (k:=0+1) (by have:=h.ok.n2;omega)).2.1;omega
 obtain⟨b',o',e',_⟩:=h.rp.2 h1;exact⟨b,o,b',o',e,e'⟩
theorem Zux{j b o:Nat}{w:World}{NP:Nat}{P:List Int}(hl:P.length=NP)(hj:j<NP)(h:Rd w 1 (some ⟨b,o,none⟩) NP (iv P)):w.cell? ⟨b,o+j,none⟩=some (.int .i64 (P.getD j 0))/\b<w.heap.size:=by
 obtain⟨b',o',e,hlt,hc⟩:=h.2 (by omega);injection e with e
 injection e with e1 e2 e3
 subst e1 e2;exact⟨hc j _ (by unfold iv;rw[YaR,YaA (by omega),YaT,YaA (by omega)];rfl),hlt⟩
theorem Zfk(k r c:Nat)(h:Zb8 w A n cap l Ap NP cp P q)(hk:k<n-1)(hr:r<szN l (k+1))(hc:c<szN l k) :
  Calls prog 225 #[Zd8 A n cap Ap NP cp q,.int .i64 k,.int .i64 r,.int .i64 c] w fun e w'=>e=.returned (.int .i64 (wtR l P k r c))/\Bz0 w w':=by
 obtain⟨ga,oa,gp,op,rfl,rfl⟩:=Zfj h;have hfit:=h.ok.fit hk;have hnp:=h.ok.np;have hob:ofN l k+szN l (k+1)*szN l k=obN l k:=rfl;have hrc:r*szN l k+c<szN l (k+1)*szN l k:=by
  have h1:(r+1)*szN l k<=szN l (k+1)*szN l k:=YaW _ hr;rw[Nat.succ_mul] at h1;omega
 have hj:ofN l k+r*szN l k+c<NP:=by omega
 obtain⟨zc,zl⟩:=ZdO h.ok (show k<n by omega) h.rl;obtain⟨pc,pl⟩:=Zux h.ok.pl hj h.rp;have HWT:=hid (fun W (x:Rd W 1 (some ⟨ga,oa,none⟩) n (iv l))=>Zel (some ⟨ga,oa,none⟩) n cap l NP P q W k h.ok x h.cap hk);have HR:=hid h.rl;have hkn:k<n:=by omega
 unfold wtR;obtain⟨s,hs⟩:∃s,szN l k=s:=⟨_,rfl⟩;obtain⟨lo,hlo⟩:∃s,ofN l k=s:=⟨_,rfl⟩;obtain⟨j,hjj⟩:∃j,lo+r*s+c=j:=⟨_,rfl⟩;rw[hs,hlo] at hj pc;rw[hs] at hrc;rw[hs] at zc;rw[hlo] at HWT;rw[hjj] at hj pc;rw[hs,hlo,hjj];obtain⟨v,hv⟩:∃v,P.getD j 0=v:=⟨_,rfl⟩;rw[hv] at pc;rw[hv];obtain⟨rs,hrs⟩:∃rs,r*s=rs:=⟨_,rfl⟩;rw[hrs] at hjj hrc;obtain⟨t,ht⟩:∃t,lo+rs=t:=⟨_,rfl⟩;rw[ht] at hjj;have hwm:wrap64 ((r:Int)*(s:Int))=(rs:Int):=by
  rw[<-Int.natCast_mul,hrs];exact ZtW (by omega)
 have hwa:wrap64 ((lo:Int)+(rs:Int))=(t:Int):=by
  rw[<-Int.natCast_add,ht];exact ZtW (by omega)
 have hwb:wrap64 ((t:Int)+(c:Int))=(j:Int):=by
  rw[<-Int.natCast_add,hjj];exact ZtW (by omega)
 have HWM:=hid hwm;have HWA:=hid hwa;have HWB:=hid hwb;have HPC:=hid pc;have HZC:=hid zc;obtain⟨ob,hob2⟩:∃ob,obN l k=ob:=⟨_,rfl⟩;rw[hob2] at HWT;have HG:Hid (∀W,w.alloc (.cells (Zcg (some ⟨ga,oa,none⟩) n cap (some ⟨gp,op,none⟩) NP cp q) 202)=W->Below w.heap.size w W/\Blk W w.heap.size 202 (Zcg (some ⟨ga,oa,none⟩) n cap (some ⟨gp,op,none⟩) NP cp q)):=hid (by
  rintro W rfl;exact⟨bA0 _,Blk.new _ _ _⟩)
 clear hwm hwa hwb hrs ht pc zc hob2 hs hlo hjj hv hob hrc hfit hnp h hr hc
 go_enter func225,ntmps225
 go_wp2_with fail;obtain⟨w0,hw0⟩:∃w0,w.alloc (.cells (Zcg (some ⟨ga,oa,none⟩) n cap (some ⟨gp,op,none⟩) NP cp q) 202)=w0:=⟨_,rfl⟩;obtain⟨hB,hI⟩:=HG.out _ hw0;rw[hw0];clear hw0 HG;have HB:=hid hB;have y0:w0.cell? ⟨w.heap.size,0,none⟩=some (.slice (some ⟨ga,oa,none⟩) n cap):=hI.cell 0;have y1:w0.cell? ⟨w.heap.size,1,none⟩=some (.slice (some ⟨gp,op,none⟩) NP cp):=hI.cell 1;have y2:w0.cell? ⟨w.heap.size,2,none⟩=some (.int .i64 q):=hI.cell 2;have yl:=hI.lt;have zc:w0.cell? ⟨ga,oa+k,none⟩=some (.int .i64 s):=(HB.out.cell (p:=⟨ga,oa+k,none⟩) zl).trans HZC.out;have pc:w0.cell? ⟨gp,op+j,none⟩=some (.int .i64 v):=(HB.out.cell (p:=⟨gp,op+j,none⟩) pl).trans HPC.out;have zl0:ga<w0.heap.size:=YaK zl HB.out.size;have pl0:gp<w0.heap.size:=YaK pl HB.out.size;have hfd:∀W:World,(Instr.field 355 (.agg #[.int .i64 lo,.int .i64 ob]) 0).run prog W=.ok (.int .i64 lo) W:=fun _=>rfl
 have HWT2:=hid (fun(u:KW w0)=>HWT.out u.w ((HR.out.below HB.out).below u.h.2.2));have hwm:=HWM.out;have hwa:=HWA.out;have hwb:=HWB.out;clear hB hI zl pl;have KC:=fun(u:KW w0) b o h=>KW.cells u b o h
 refine ZaK w0 (by kernel_rfl) (by kernel_rfl) (Zag.of (bR0 _ _)) ?_
 repeat (go_big_quiet_step ((go_at_call 258;with_reducible exact ZbE (HWT2.out _))))
 refine wpQuiet_nil ?_;rintro w8 ⟨⟨_,k8⟩,rfl⟩;go_wp2_with fail;go_ret;exact⟨rfl,bT0 HB.out k8.2.2⟩
theorem Zm4(k r:Nat)(h:Zb8 w A n cap l Ap NP cp P q)(hk:k<n-1)(hr:r<szN l (k+1)) :
  Calls prog 257 #[Zd8 A n cap Ap NP cp q,.int .i64 k,.int .i64 r] w fun e w'=>e=.returned (.int .i64 (bsR l P k r))/\Bz0 w w':=by
 obtain⟨ga,oa,gp,op,rfl,rfl⟩:=Zfj h;have hfit:=h.ok.fit hk;have hnp:=h.ok.np;have hj:obN l k+r<NP:=by omega
 obtain⟨pc,pl⟩:=Zux h.ok.pl hj h.rp;have HWT:=hid (fun W (x:Rd W 1 (some ⟨ga,oa,none⟩) n (iv l))=>ZjT (some ⟨ga,oa,none⟩) n cap l NP P q W k h.ok x h.cap hk);have HR:=hid h.rl;unfold bsR;obtain⟨lo,hlo⟩:∃s,obN l k=s:=⟨_,rfl⟩;obtain⟨j,hjj⟩:∃j,lo+r=j:=⟨_,rfl⟩;rw[hlo] at hj pc HWT;rw[hjj] at hj pc;rw[hlo,hjj];obtain⟨v,hv⟩:∃v,P.getD j 0=v:=⟨_,rfl⟩;rw[hv] at pc;rw[hv];have hwb:wrap64 ((lo:Int)+(r:Int))=(j:Int):=by
  rw[<-Int.natCast_add,hjj];exact ZtW (by omega)
 have HWB:=hid hwb;have HPC:=hid pc;obtain⟨ob,hob2⟩:∃ob,ofN l (k+1)=ob:=⟨_,rfl⟩;rw[hob2] at HWT;have HG:Hid (∀W,w.alloc (.cells (Zcg (some ⟨ga,oa,none⟩) n cap (some ⟨gp,op,none⟩) NP cp q) 202)=W->Below w.heap.size w W/\Blk W w.heap.size 202 (Zcg (some ⟨ga,oa,none⟩) n cap (some ⟨gp,op,none⟩) NP cp q)):=hid (by
  rintro W rfl;exact⟨bA0 _,Blk.new _ _ _⟩)
 clear hwb pc hob2 hlo hjj hv hfit hnp h hr
 go_enter func257,ntmps257
 go_wp2_with fail;obtain⟨w0,hw0⟩:∃w0,w.alloc (.cells (Zcg (some ⟨ga,oa,none⟩) n cap (some ⟨gp,op,none⟩) NP cp q) 202)=w0:=⟨_,rfl⟩;obtain⟨hB,hI⟩:=HG.out _ hw0;rw[hw0];clear hw0 HG;have HB:=hid hB;have y0:w0.cell? ⟨w.heap.size,0,none⟩=some (.slice (some ⟨ga,oa,none⟩) n cap):=hI.cell 0;have y1:w0.cell? ⟨w.heap.size,1,none⟩=some (.slice (some ⟨gp,op,none⟩) NP cp):=hI.cell 1;have y2:w0.cell? ⟨w.heap.size,2,none⟩=some (.int .i64 q):=hI.cell 2;have yl:=hI.lt;have pc:w0.cell? ⟨gp,op+j,none⟩=some (.int .i64 v):=(HB.out.cell (p:=⟨gp,op+j,none⟩) pl).trans HPC.out;have pl0:gp<w0.heap.size:=YaK pl HB.out.size;have hfd:∀W:World,(Instr.field 355 (.agg #[.int .i64 lo,.int .i64 ob]) 0).run prog W=.ok (.int .i64 lo) W:=fun _=>rfl
 have HWT2:=hid (fun(u:KW w0)=>HWT.out u.w ((HR.out.below HB.out).below u.h.2.2));have hwb:=HWB.out;clear hB hI pl;have KC:=fun(u:KW w0) b o h=>KW.cells u b o h
 refine ZaK w0 (by kernel_rfl) (by kernel_rfl) (Zag.of (bR0 _ _)) ?_
 repeat (go_big_quiet_step ((go_at_call 274;with_reducible exact ZbE (HWT2.out _))))
 refine wpQuiet_nil ?_;rintro w8 ⟨⟨_,k8⟩,rfl⟩;go_wp2_with fail;go_ret;exact⟨rfl,bT0 HB.out k8.2.2⟩
def ZlI(l P:List Int)(q:Int)(k r:Nat)(x:List Int):Nat->Int
 |0=>bsR l P k r
 |c+1=>wrap64 (ZlI l P q k r x c+Zeb (wtR l P k r c) (x.getD c 0) q)
theorem getD_in{l:List Int}(h:Zaw l)(i:Nat):In1 (l.getD i 0):=by
 rw[YaT]
 cases e:l[i]? with
 |none=>exact⟨by decide,by decide⟩
 |some x=>exact h x (YaL e)
theorem Zm5(k r N cx:Nat)(X:Option Addr)(x:List Int)(h:Zb8 w A n cap l Ap NP cp P q)(hk:k<n-1)(hr:r<szN l (k+1))(hN:N=szN l k)(hxl:x.length=N)(hx:Rd w 1 X N (iv x))(hxi:Zaw x) :
  Calls prog 223 #[Zd8 A n cap Ap NP cp q,.int .i64 k,.int .i64 r,.slice X N cx] w fun e w'=>e=.returned (.int .i64 (ZlI l P q k r x N))/\Bz0 w w':=by
 have hs1:=(h.ok.sz (show k<n by omega)).2.2;obtain⟨gx,ox,rfl,hxlt,hxc⟩:=hx.2 (by have:=(h.ok.sz (show k<n by omega)).2.1;omega);have HBI:=hid (fun W (x:Zb8 W A n cap l Ap NP cp P q)=>Zm4 A n cap l Ap NP cp P q W k r x hk hr);have HWT:=hid (fun W c (hc:c<szN l k) (x:Zb8 W A n cap l Ap NP cp P q)=>Zfk A n cap l Ap NP cp P q W k r c x hk hr hc);have HX:=hid (fun c (hc:c<N)=>show w.cell? ⟨gx,ox+c,none⟩=some (.int .i64 (x.getD c 0)) from hxc c _ (by unfold iv;rw[YaR,YaA (by omega),YaT,YaA (by omega)];rfl));have HPI:=hid (fun c=>(show In1 (wtR l P k r c) from getD_in h.ok.pin _));have HXI:=hid (fun c=>(getD_in hxi c));have HH:=hid h;have HNN:=hid hN;have HNB:Hid (N<=1000):=hid (by omega);have HG:Hid (∀W,w.alloc (.cells (Zcg A n cap Ap NP cp q) 202)=W->Below w.heap.size w W/\Blk W w.heap.size 202 (Zcg A n cap Ap NP cp q)):=hid (by
  rintro W rfl;exact⟨bA0 _,Blk.new _ _ _⟩)
 clear hN hx hxc hxl hs1 h hr
 go_enter func223,ntmps223
 go_wp2_with fail;obtain⟨w0,hw0⟩:∃w0,w.alloc (.cells (Zcg A n cap Ap NP cp q) 202)=w0:=⟨_,rfl⟩;obtain⟨hB,hI⟩:=HG.out _ hw0;rw[hw0];clear hw0 HG;have HB:=hid hB;have HI:=hid hI;clear hB hI;have y0:=cv0 HI.out;have y1:w0.cell? ⟨w.heap.size,1,none⟩=some (.slice Ap NP cp):=HI.out.cell 1;have y2:w0.cell? ⟨w.heap.size,2,none⟩=some (.int .i64 q):=HI.out.cell 2;have yl:=HI.out.lt;go_wp2_with fail;((with_reducible refine(HBI.out _ (HH.out.below HB.out)).mono ?_);rintro e w1 ⟨rfl,hb1⟩);have HB1:=hid (bT0 HB.out hb1);have HI1:=hid (HI.out.kept hb1);clear hb1 y0 y1 y2 yl;go_wp2_with fail
 go_loopw [9,10] (fun s v wr=>∃c:Nat,c<=N/\v=.int .i64 c/\s=.int .i64 (ZlI l P q k r x c)/\Bz0 w1 wr) (fun _ v _=>N-(intOf v).toNat)
 case atStart=>exact⟨0,by omega,rfl,rfl,bR0 _ _⟩
 case round=>
  obtain⟨c,hc,rfl,rfl,hb⟩:=hrel
  by_cases hlt:c<N
  ·have hIr:=HI1.out.kept hb;have HIR:=hid hIr;have HBR:=hid hb;have HBW:=hid (bT0 HB1.out hb);have y0:=cv0 hIr;have y1:wr.cell? ⟨w.heap.size,1,none⟩=some (.slice Ap NP cp):=hIr.cell 1;have y2:wr.cell? ⟨w.heap.size,2,none⟩=some (.int .i64 q):=hIr.cell 2;have yl:=hIr.lt;obtain⟨u,hu⟩:∃u,x.getD c 0=u:=⟨_,rfl⟩;obtain⟨wt,hwt⟩:∃u,wtR l P k r c=u:=⟨_,rfl⟩;obtain⟨sm,hsm⟩:∃u,ZlI l P q k r x c=u:=⟨_,rfl⟩;have xc:wr.cell? ⟨gx,ox+c,none⟩=some (.int .i64 u):=by
    rw[<-hu];exact(HBW.out.cell (p:=⟨gx,ox+c,none⟩) hxlt).trans (HX.out c hlt)
   have xl:gx<wr.heap.size:=YaK hxlt HBW.out.size;have hHWT:∀u:KW wr,Calls prog 225 #[Zd8 A n cap Ap NP cp q,.int .i64 k,.int .i64 r,.int .i64 c] u.w fun e w'=>e=.returned (.int .i64 wt)/\Below u.w.heap.size u.w w':=fun u=>by
    have:=HWT.out u.w c (by have:=HNN.out;omega) (((HH.out.below HBW.out)).below u.h.2.2);rw[hwt] at this;exact this
   have HWT2:=hid hHWT;have HMU:=hid (fun(v:KW wr)=>Zcn wt u q v.w (by rw[<-hwt];exact HPI.out c) (by rw[<-hu];exact HXI.out c));have HSN:Hid (wrap64 (sm+Zeb wt u q)=ZlI l P q k r x (c+1)):=hid (by rw[ZlI,hu,hwt,hsm]);rw[hsm];have HC:=hid hlt;have r2:(c:Int)<(N:Int):=by omega
   have hbd:=HNB.out;have KC:=fun(u:KW wr) b o h=>KW.cells u b o h
   clear hb hIr hu hwt hsm hHWT hlt;go_wp2_with fail;refine ZaK wr (by kernel_rfl) (by kernel_rfl) (Zag.of (bR0 _ _)) ?_
   repeat (go_big_quiet_step (first|(go_at_call 225;with_reducible exact ZbE (HWT2.out _))|(go_at_call 159;with_reducible exact ZeG (HMU.out _))))
   refine wpQuiet_nil ?_;rintro w8 ⟨⟨_,k8⟩,rfl⟩;go_wp2_with fail;rw[HSN.out]
   go_roundw
   case rel=>exact⟨c+1,HC.out,by go_num,rfl,bT0 HBR.out k8.2.2⟩
   case measure=>simp[intOf];have:=HC.out;omega
  ·obtain rfl:c=N:=by omega
   have HBW:=hid (bT0 HB1.out hb);clear hb;go_wp2_with fail;go_ret;exact⟨rfl,HBW.out⟩
end
section
open Go.RowKit
theorem ZjU:Sl prog 204 26 (.slice none 0 0) 1 24:=⟨underlying204,by kernel_rfl,rfl,by omega⟩
def zR(l:List Int)(n:Nat)(P:List Int)(q:Int)(k:Nat)(x:List Int)(r:Nat):Int:=if k+1<n-1 then Zb4 (ZlI l P q k r x (szN l k)) (ZlI l P q k r x (szN l k)) else ZlI l P q k r x (szN l k)
def ZxF(l:List Int)(n:Nat)(P:List Int)(q:Int)(k:Nat)(x:List Int):List Int:=ZcN (szN l (k+1)) (zR l n P q k x)
def trR(l:List Int)(n:Nat)(P:List Int)(q:Int)(x:List Int):Nat->List Int
 |0=>x
 |k+1=>ZxF l n P q k (trR l n P q x k)
theorem Zd3(F:Nat->Int)(k:Nat):ZcN (k+1) F=ZcN k F++[F k]:=by simp[ZcN,List.range_succ]
theorem ZiN{l:List Int}{n:Nat}{P:List Int}{q:Int}{x:List Int}(hx:x.length=szN l 0):∀k,(trR l n P q x k).length=szN l k
 |0=>hx
 |k+1=>ZaE _ _
theorem Zr3{l P:List Int}{q:Int}{k r:Nat}{x:List Int}(hP:Zaw P):∀c,In1 (ZlI l P q k r x c)
 |0=>getD_in hP _
 |c+1=>Za0 _
theorem Zx4{l:List Int}{n:Nat}{P:List Int}{q:Int}{k:Nat}{x:List Int}{r:Nat}(hP:Zaw P):In1 (zR l n P q k x r):=by
 unfold zR
 split
 ·exact Zqs (Zr3 hP _)
 ·exact Zr3 hP _
theorem Zuy{l:List Int}{n:Nat}{P:List Int}{q:Int}{x:List Int}(hP:Zaw P)(hx:Zaw x):∀k,Zaw (trR l n P q x k)
 |0=>hx
 |k+1=>by
  intro v hv;obtain⟨i,_,rfl⟩:=List.mem_map.1 hv;exact Zx4 hP
theorem Zd4(x:Int):∀u∈(#[Value.int .i64 x]:Array Value).toList,u.oneCell'=true:=by
 intro u hu;obtain rfl:u=.int .i64 x:=by simpa using hu
 rfl
theorem Zm6(A:Option Addr)(n c:Nat):∀u∈(#[Value.slice A n c]:Array Value).toList,u.oneCell'=true:=by
 intro u hu;obtain rfl:u=.slice A n c:=by simpa using hu
 rfl
def SlT(w:World)(B:Nat)(A:Option Addr):Prop:=∀b o,A=some ⟨b,o,none⟩->b<B\/∃cur,w.heap[b]?=some (.cells cur 2 (0,0))
theorem SlT.below{w w':World}{B:Nat}{A:Option Addr}(h:SlT w B A)(hb:Below w.heap.size w w'):SlT w' B A:=fun b o e=>by
 rcases h b o e with h1|⟨cur,h1⟩
 ·exact .inl h1
 ·have hlt:b<w.heap.size:=by
   by_cases hl:b<w.heap.size
   ·exact hl
   ·rw[Array.getElem?_eq_none (by omega)] at h1;cases h1
  exact .inr ⟨cur,(hb.block b hlt).trans h1⟩
theorem SlT.own{w:World}{B base:Nat}{A:Option Addr}{n c:Nat}{xs:List Value}(h:w.ownsRow base 2 1 (.slice A n c) n xs):SlT w B A:=fun b o e=>by
 rcases h.2 with⟨h1,_⟩|⟨g',cap',cur,h1,_,hgb,_⟩
 ·injection h1 with h1
  rw[h1] at e
  cases e
 ·injection h1 with h1
  rw[h1] at e;injection e with e
  injection e with e1 e2 e3
  subst e1;exact .inr ⟨_,hgb⟩
def TrR(w:World)(B:Nat)(l:List Int)(F:Nat->List Int)(ss:List Zer):Prop:=∀j s,ss[j]?=some s->s.2.1=szN l j/\Rd w 1 s.1 (szN l j) (iv (F j))/\SlT w B s.1
theorem TrR.below{w w':World}{B:Nat}{l:List Int}{F:Nat->List Int}{ss:List Zer}(h:TrR w B l F ss)(hb:Below w.heap.size w w'):TrR w' B l F ss:=fun j s hs=>⟨(h j s hs).1,(h j s hs).2.1.below hb,(h j s hs).2.2.below hb⟩
theorem TrR.push{w w':World}{B:Nat}{l:List Int}{F:Nat->List Int}{ss:List Zer}{v:Value}{n:Nat}{xs:List Value}(h:TrR w B l F ss)(ho:w.ownsRow B 26 1 v n xs)(hg:w.grownBy w' v.ownBlock):TrR w' B l F ss:=by
 intro j s hs;obtain⟨h1,h2,h3⟩:=h j s hs;have hne:∀b o,s.1=some ⟨b,o,none⟩->b<w.heap.size->some b≠v.ownBlock:=by
  intro b o e hlt e2
  rcases ho.2 with⟨rfl,_⟩|⟨g',cap',cur,rfl,hb,hgb,_⟩
  ·simp[Value.ownBlock] at e2
  ·have e3:b=g':=by simpa [Value.ownBlock] using e2
   subst e3
   rcases h3 b o e with h4|⟨cur',h4⟩
   ·omega
   ·rw[hgb] at h4;injection h4 with h4
    injection h4 with _ h4 _
    exact absurd h4 (by decide)
 refine⟨h1,⟨h2.1,fun hn=>?_⟩,fun b o e=>?_⟩
 ·obtain⟨b,o,e,hlt,hc⟩:=h2.2 hn;refine⟨b,o,e,YaK hlt hg.size,fun k u hu=>?_⟩;rw[World.cell?_of_block (w:=w) (hg.block b hlt (hne b o e hlt))];exact hc k u hu
 ·rcases h3 b o e with h4|⟨cur',h4⟩
  ·exact .inl h4
  ·have hlt:b<w.heap.size:=by
    by_cases hl:b<w.heap.size
    ·exact hl
    ·rw[Array.getElem?_eq_none (by omega)] at h4;cases h4
   exact .inr ⟨cur',(hg.block b hlt (hne b o e hlt)).trans h4⟩
theorem TrR.snoc{w:World}{B:Nat}{l:List Int}{F:Nat->List Int}{ss:List Zer}{k:Nat}{s:Zer}(h:TrR w B l F ss)(hl:ss.length=k)(h1:s.2.1=szN l k)(h2:Rd w 1 s.1 (szN l k) (iv (F k)))(h3:SlT w B s.1):TrR w B l F (ss++[s]):=by
 intro j t ht
 by_cases hj:j<ss.length
 ·rw[YaV hj] at ht;exact h j t ht
 ·rw[YaU (by omega)] at ht;have h0:j-ss.length=0:=by
   have:=(YaG.1 ht).1;simp at this;omega
  rw[h0] at ht;obtain rfl:s=t:=by simpa using ht
  obtain rfl:j=k:=by omega
  exact⟨h1,h2,h3⟩
def Zr4(l:List Int)(n:Nat)(F:Nat->List Int)(w:World)(e:Ending)(w':World):Prop:=
 ∃A c ss,e=.returned (.slice A n c)/\ss.length=n/\w'.ownsRow w.heap.size 26 1 (.slice A n c) n (ss.map slv)/\TrR w' w.heap.size l F ss/\Bz0 w w'
end
section
open Go.RowKit
variable(A:Option Addr)(n cap:Nat)(l:List Int)(Ap:Option Addr)(NP cp:Nat)(P:List Int)(q:Int)(w:World)
theorem Zc6(hn:1<=n)(hn2:n<=1000):Calls prog 174 #[Zd8 A n cap Ap NP cp q] w fun e w'=>e=.returned (.int .i64 ((n-1:Nat):Int))/\Bz0 w w':=by
 have HG:Hid (∀W,w.alloc (.cells (Zcg A n cap Ap NP cp q) 202)=W->Below w.heap.size w W/\Blk W w.heap.size 202 (Zcg A n cap Ap NP cp q)):=hid (by
  rintro W rfl;exact⟨bA0 _,Blk.new _ _ _⟩)
 have hw:((n-1:Nat):Int)=(n:Int)-1:=by omega
 rw[hw]
 go_enter func174,ntmps174
 go_wp2_with fail;go_ret;exact⟨rfl,(HG.out _ rfl).1⟩
theorem Zlo(N cx:Nat)(X:Option Addr)(x:List Int)(h:Zb8 w A n cap l Ap NP cp P q)(hN:N=szN l 0)(hxl:x.length=N)(hx:Rd w 1 X N (iv x))(hxi:Zaw x) :
  Calls prog 172 #[Zd8 A n cap Ap NP cp q,.slice X N cx] w (Zr4 l n (trR l n P q x) w):=by
 have hn2:=h.ok.n2;have hn16:=h.ok.n16;obtain⟨ga,oa,gp,op,rfl,rfl⟩:=Zfj h;have HLA:=hid (fun W=>Zc6 (some ⟨ga,oa,none⟩) n cap (some ⟨gp,op,none⟩) NP cp q W (by omega) (by omega));have HH:=hid h;have HXI:=hid hxi;have HXL:=hid hxl;have HX:=hid hx;have HNN:=hid hN;have hzl:=(ZdO h.ok (show 0<n by omega) h.rl).2;have HG:Hid (∀W,w.alloc (.cells (Zcg (some ⟨ga,oa,none⟩) n cap (some ⟨gp,op,none⟩) NP cp q) 202)=W->Below w.heap.size w W/\Blk W w.heap.size 202 (Zcg (some ⟨ga,oa,none⟩) n cap (some ⟨gp,op,none⟩) NP cp q)):=hid (by
  rintro W rfl;exact⟨bA0 _,Blk.new _ _ _⟩)
 clear hxi hxl hx hN h
 go_enter func172,ntmps172
 go_wp2_with fail;obtain⟨w0,hw0⟩:∃w0,w.alloc (.cells (Zcg (some ⟨ga,oa,none⟩) n cap (some ⟨gp,op,none⟩) NP cp q) 202)=w0:=⟨_,rfl⟩;obtain⟨hB,hI⟩:=HG.out _ hw0;have hs0:w0.heap.size=w.heap.size+1:=by rw[<-hw0];simp
 rw[hw0];obtain⟨w1,hw1⟩:∃w1,w0.alloc (.cells #[.slice X N cx] 26)=w1:=⟨_,rfl⟩;rw[hw1];have hb1:Below w0.heap.size w0 w1:=by rw[<-hw1];exact bA0 _
 have ho1:w1.ownsRow w.heap.size 26 1 (.slice (some ⟨w.heap.size+1,0,none⟩) 1 1) 1 ([(X,N,cx)].map slv):=by
  rw[<-hw1,<-hs0];exact World.ownsRow_lit w0 #[.slice X N cx] 1 (by omega) (by unfold maxLen;omega) rfl
 have HB1:=hid (bT0 hB hb1);have HI1:=hid (hI.kept hb1);have HO1:=hid ho1;have HT1:Hid (TrR w1 w.heap.size l (trR l n P q x) [(X,N,cx)]):=hid (by
  intro j s hs
  cases j with
  |zero=>
   obtain rfl:(X,N,cx)=s:=by simpa using hs
   exact⟨HNN.out,by rw[<-HNN.out];exact HX.out.below HB1.out,fun b o e=>.inl (by
    obtain⟨b',o',e',hlt,_⟩:=HX.out.2 (by have:=(HH.out.ok.sz (show 0<n by omega)).2.1;have:=HNN.out;omega);have e2:X=some ⟨b,o,none⟩:=e;rw[e2] at e';injection e' with e'
    injection e' with e3 _ _
    omega)⟩
  |succ j=>simp at hs)
 clear hw0 hw1 hB hI hs0 hb1 ho1 HG HX
 go_loopw [5,6] (fun o v wr=>∃(k:Nat) (Ao:Option Addr) (co:Nat) (ss:List Zer),k+1<=n/\v=.int .i64 k/\o=.slice Ao (k+1) co/\ss.length=k+1/\wr.ownsRow w.heap.size 26 1 (.slice Ao (k+1) co) (k+1) (ss.map slv)/\TrR wr w.heap.size l (trR l n P q x) ss/\Bz0 w wr/\Blk wr w.heap.size 202 (Zcg (some ⟨ga,oa,none⟩) n cap (some ⟨gp,op,none⟩) NP cp q)) (fun _ v _=>n-(intOf v).toNat)
 case atStart=>exact⟨0,_,_,[(X,N,cx)],by omega,rfl,rfl,rfl,HO1.out,HT1.out,HB1.out,HI1.out⟩
 case round=>
  obtain⟨k,Ao,co,ss,hk,rfl,rfl,hsl,ho,ht,hb,hi⟩:=hrel;have HO:=hid ho;have HT:=hid ht;have HBW:=hid hb;have HI:=hid hi;have HSL:=hid hsl;have HK:=hid hk;have y0:wr.cell? ⟨w.heap.size,0,none⟩=some (.slice (some ⟨ga,oa,none⟩) n cap):=hi.cell 0;have y1:wr.cell? ⟨w.heap.size,1,none⟩=some (.slice (some ⟨gp,op,none⟩) NP cp):=hi.cell 1;have y2:wr.cell? ⟨w.heap.size,2,none⟩=some (.int .i64 q):=hi.cell 2;have yl:=hi.lt;clear ho ht hb hi hsl;go_wp2_with fail;((with_reducible refine(HLA.out _).mono ?_);rintro e w2 ⟨rfl,hb2⟩);obtain⟨N1,hN1⟩:∃N1,n-1=N1:=⟨_,rfl⟩;rw[hN1];have HBW2:=hid (bT0 HBW.out hb2);have HO2:=hid (Zac HO.out hb2);have HT2:=hid (HT.out.below hb2);have HI2:=hid (HI.out.kept hb2);have HN1:=hid hN1;clear hb2 y0 y1 y2 yl
  by_cases hlt:k<N1
  ·have hkN:(k:Int)<(N1:Int):=by omega
   obtain⟨R,hR⟩:∃R,szN l (k+1)=R:=⟨_,rfl⟩;have hR1000:R<=1000:=by rw[<-hR];exact(HH.out.ok.sz (by omega)).2.2
   have HRR:=hid hR;have HLT:=hid hlt;clear hR hlt;go_wp2_with fail
   go_loopw [7,8] (fun v7 v wx=>∃(r:Nat) (A7:Option Addr) (c7:Nat),r<=R/\v=.int .i64 r/\v7=.slice A7 r c7/\wx.ownsRow w2.heap.size 2 1 (.slice A7 r c7) r (iv (ZcN r (zR l n P q k (trR l n P q x k))))/\Bz0 w2 wx) (fun _ v _=>R-(intOf v).toNat)
   case atStart=>exact⟨0,none,0,by omega,rfl,rfl,World.ownsRow_nil _ _ _ _,bR0 _ _⟩
   case round=>
    obtain⟨r,A7,c7,hr,rfl,rfl,ho,hb⟩:=hrel;have HIr:=hid (HI2.out.kept hb);have zc:=ZdO HH.out.ok (show k+1<n by omega) (HH.out.rl.below (bT0 HBW2.out hb));rw[HRR.out] at zc;obtain⟨zc,zl⟩:=zc;have y0:wr.cell? ⟨w.heap.size,0,none⟩=some (.slice (some ⟨ga,oa,none⟩) n cap):=HIr.out.cell 0;have y1:wr.cell? ⟨w.heap.size,1,none⟩=some (.slice (some ⟨gp,op,none⟩) NP cp):=HIr.out.cell 1;have y2:wr.cell? ⟨w.heap.size,2,none⟩=some (.int .i64 q):=HIr.out.cell 2;have yl:=HIr.out.lt;have hkn:k+1<n:=by have:=HLT.out;have:=HN1.out;omega
    by_cases hlt:r<R
    ·obtain⟨⟨As,ns,cs⟩,hs⟩:∃s,ss[k]?=some s:=⟨_,YaA (by rw[HSL.out];omega)⟩;obtain⟨e1,hrd,-⟩:=(HT2.out.below hb) k _ hs;dsimp only at e1 hrd;subst e1;obtain⟨go,rfl⟩:=Zbw HO2.out (by omega);have hor:=Zac HO2.out hb;have lo:=(hor.lt go rfl).2;have oc:wr.cell? ⟨go,k,none⟩=some (.slice As (szN l k) cs):=by
      rw[hor.cellAt k (by omega),YaR,hs];rfl
     obtain⟨xk,hxk⟩:∃xk,trR l n P q x k=xk:=⟨_,rfl⟩;rw[hxk] at hrd ho ⊢;have hxkl:xk.length=szN l k:=by rw[<-hxk];exact ZiN (by rw[HXL.out,HNN.out]) k
     have hxki:Zaw xk:=by rw[<-hxk];exact Zuy HH.out.ok.pin HXI.out k
     obtain⟨nk,hnk⟩:∃nk,szN l k=nk:=⟨_,rfl⟩;have hrR:r<szN l (k+1):=by rw[HRR.out];exact hlt
     have hSU:∀u:KW wr,Calls prog 223 #[Zd8 (some ⟨ga,oa,none⟩) n cap (some ⟨gp,op,none⟩) NP cp q,.int .i64 k,.int .i64 r,.slice As (szN l k) cs] u.w fun e w'=>e=.returned (.int .i64 (ZlI l P q k r xk (szN l k)))/\Below u.w.heap.size u.w w':=fun u=>
      Zm5 (some ⟨ga,oa,none⟩) n cap l (some ⟨gp,op,none⟩) NP cp P q u.w k r (szN l k) cs As xk ((HH.out.below (bT0 HBW2.out hb)).below u.h.2.2) (by omega) hrR rfl hxkl (hrd.below u.h.2.2) hxki
     rw[hnk] at hSU oc;obtain⟨sm,hsm⟩:∃sm,ZlI l P q k r xk nk=sm:=⟨_,rfl⟩;rw[hsm] at hSU;have hzz:zR l n P q k xk r=if k+1<n-1 then Zb4 sm sm else sm:=by unfold zR;rw[hnk,hsm]
     have HZ:=hid hzz;have HSU2:=hid hSU;have HO7':=hid ho;have HBX0:=hid hb;have HRL:=hid hlt;have r2:(r:Int)<(R:Int):=by omega
     have KC:=fun(u:KW wr) b o h=>KW.cells u b o h
     clear ho hb hs hrd hor hxk hxkl hxki hnk hrR hSU hsm hzz hlt;go_wp2_with fail;refine ZaK wr (by kernel_rfl) (by kernel_rfl) (Zag.of (bR0 _ _)) ?_
     repeat (go_big_quiet_step ((go_at_call 223;with_reducible exact ZbE (HSU2.out _))))
     refine wpQuiet_nil ?_;rintro w8 ⟨⟨_,k8⟩,rfl⟩
     rename World=>w8
     have HK8:=hid k8;have HI8:=hid (HIr.out.kept k8.2.2);have z0:w8.cell? ⟨w.heap.size,0,none⟩=some (.slice (some ⟨ga,oa,none⟩) n cap):=HI8.out.cell 0;have z1:w8.cell? ⟨w.heap.size,1,none⟩=some (.slice (some ⟨gp,op,none⟩) NP cp):=HI8.out.cell 1;have z2:w8.cell? ⟨w.heap.size,2,none⟩=some (.int .i64 q):=HI8.out.cell 2;have zl2:=HI8.out.lt;clear k8 KC y0 y1 y2 yl zc zl oc lo;go_wp2_with fail;((with_reducible refine(HLA.out _).mono ?_);rintro e w9 ⟨rfl,hb9⟩);rw[HN1.out];have HK9:=hid (HK8.out.call hb9);clear hb9 z0 z1 z2 zl2;have HO7:=hid (Zac HO7'.out HK9.out.2.2);have HBX:=hid (bT0 HBX0.out HK9.out.2.2);have hszz:w2.heap.size<=w9.heap.size:=HBX.out.size
     by_cases h6:k+1<N1
     ·have r6:(k:Int)+1<(N1:Int):=by omega
      have hkk:k+1<n-1:=by omega
      go_wp2_with fail;((with_reducible refine(ZgJ sm sm _).mono ?_);rintro e w10 ⟨rfl,rfl⟩)
      go_wp2_with (at_builtin;go_must (refine Zav ZeQ rfl _ _ rfl w2.heap.size _ r (iv (ZcN r (zR l n P q k xk))) rfl HO7.out #[.int .i64 (Zb4 sm sm)] _ rfl rfl rfl (Zd4 _) (by unfold maxLen;omega) (by omega) hszz ?_);go_must (intro A4 c4 w4 hown4 hb4))
      have HO9:=hid (show w4.ownsRow w2.heap.size 2 1 (.slice A4 (r+1) c4) (r+1) (iv (ZcN (r+1) (zR l n P q k xk))) by
       rw[Zd3,Zbs,HZ.out,if_pos hkk];exact hown4)
      have HB9:=hid (HBX.out.trans hb4);clear hown4 hb4
      go_roundw
      case rel=>exact⟨r+1,A4,c4,HRL.out,by go_num,rfl,HO9.out,HB9.out⟩
      case measure=>simp[intOf];have:=HRL.out;omega
     ·have r6:¬(k:Int)+1<(N1:Int):=by omega
      have hkk:¬k+1<n-1:=by omega
      go_wp2_with (at_builtin;go_must (refine Zav ZeQ rfl _ _ rfl w2.heap.size _ r (iv (ZcN r (zR l n P q k xk))) rfl HO7.out #[.int .i64 sm] _ rfl rfl rfl (Zd4 _) (by unfold maxLen;omega) (by omega) hszz ?_);go_must (intro A4 c4 w4 hown4 hb4))
      have HO9:=hid (show w4.ownsRow w2.heap.size 2 1 (.slice A4 (r+1) c4) (r+1) (iv (ZcN (r+1) (zR l n P q k xk))) by
       rw[Zd3,Zbs,HZ.out,if_neg hkk];exact hown4)
      have HB9:=hid (HBX.out.trans hb4);clear hown4 hb4
      go_roundw
      case rel=>exact⟨r+1,A4,c4,HRL.out,by go_num,rfl,HO9.out,HB9.out⟩
      case measure=>simp[intOf];have:=HRL.out;omega
    ·obtain rfl:r=R:=by omega
     have HO7:=hid ho;have hor:=Zac HO2.out hb;have HOR:=hid hor;have HTR:=hid (HT2.out.below hb);have HBX:=hid hb;have hsz:w.heap.size<=wr.heap.size:=YaH HBW2.out.size hb.size;have hn16':=HH.out.ok.n16;clear ho hb hor
     go_wp2_with (at_builtin;go_must (refine ZaM ZjU rfl _ _ rfl w.heap.size _ (k+1) (ss.map slv) rfl HOR.out #[.slice A7 r c7] _ rfl rfl rfl (Zm6 _ _ _) (by unfold maxLen;omega) (by omega) hsz ?_);go_must (intro A4 c4 w4 hown4 hb4 hg4))
     have hg5:wr.grownBy w4 (Value.slice Ao (k+1) co).ownBlock:=hg4;have hrk:r=szN l (k+1):=HRR.out.symm;have ht5:=(HTR.out.snoc (s:=(A7,r,c7)) HSL.out hrk (by
      have h1:=Rd.of_own HO7.out;rw[<-hrk]
      show Rd wr 1 A7 r (iv (ZxF l n P q k (trR l n P q x k)))
      rw[ZxF,<-hrk];exact h1) (SlT.own HO7.out)).push HOR.out hg5
     have hi5:=HIr.out.grown hg5 (fun e=>Zab HOR.out HIr.out (by decide) e.symm);have HO9:=hid hown4;have HT9:=hid ht5;have HI9:=hid hi5;have HB9:=hid ((bT0 HBW2.out HBX.out).trans hb4);clear hown4 hb4 hg4 hg5 ht5 hi5
     go_roundw
     case rel=>exact⟨k+1,A4,c4,ss++[(A7,r,c7)],by omega,by go_num,rfl,by rw[YaS,HSL.out];rfl,by rw[List.map_append];exact HO9.out,HT9.out,HB9.out,HI9.out⟩
     case measure=>simp[intOf];omega
  ·have r6:¬(k:Int)<(N1:Int):=by omega
   obtain rfl:k+1=n:=by omega
   go_wp2_with fail;go_ret;exact⟨Ao,co,ss,rfl,HSL.out,HO2.out,HT2.out,HBW2.out⟩
end
