/- Lemmas. -/
import Derived.Test.YtkmaeipoaoikpaaGreatEC17
namespace Go.Proofs.YtkmaeipoaoikpaaGreat
set_option linter.all false
set_option maxRecDepth 100000
set_option maxHeartbeats 4000000
open Lib (hid)
open Go.RowKit
open Tryz
def ZaS(K:MC)(s:MS)(t:Int):MS:=if s.nx+1=s.its.length then { s with cnt:=s.cnt+1,its:=K.pc.stepI K.st K.x (t+1),nx:=0 } else { s with cnt:=s.cnt+1,nx:=s.nx+1 }
theorem Zxe{w:World}{g:Nat}{t:TypeId}{a0 a1 a2 a3 a4 a5 a6 a7 a8 a9 a10 a11 a12:Value}(h:Blk w g t #[a0,a1,a2,a3,a4,a5,a6,a7,a8,a9,a10,a11,a12])(v0 v1 v2 v3 v4 v5 v6 v7 v8 v9 v10 v11 v12:Value)(w':World)
  (hw:w'=(((((((((((((w).setCell ⟨g,0,none⟩ v0).setCell ⟨g,1,none⟩ v1).setCell ⟨g,2,none⟩ v2).setCell ⟨g,3,none⟩ v3).setCell ⟨g,4,none⟩ v4).setCell ⟨g,5,none⟩ v5).setCell ⟨g,6,none⟩ v6).setCell ⟨g,7,none⟩ v7).setCell ⟨g,8,none⟩ v8).setCell ⟨g,9,none⟩ v9).setCell ⟨g,10,none⟩ v10).setCell ⟨g,11,none⟩ v11).setCell ⟨g,12,none⟩ v12):w.grownBy w' (some g)/\Blk w' g t #[v0,v1,v2,v3,v4,v5,v6,v7,v8,v9,v10,v11,v12]:=by
 subst hw;have g0:w.grownBy w (some g):=World.grownBy.refl w _;have b0:=h;have g1:=Zak (p:=⟨g,0,none⟩) g0 (.inl rfl) v0;have b1:Blk ((w).setCell ⟨g,0,none⟩ v0) g t #[v0,a1,a2,a3,a4,a5,a6,a7,a8,a9,a10,a11,a12]:=by simpa using b0.set_ 0 v0
 have g2:=Zak (p:=⟨g,1,none⟩) g1 (.inl rfl) v1;have b2:Blk (((w).setCell ⟨g,0,none⟩ v0).setCell ⟨g,1,none⟩ v1) g t #[v0,v1,a2,a3,a4,a5,a6,a7,a8,a9,a10,a11,a12]:=by simpa using b1.set_ 1 v1
 have g3:=Zak (p:=⟨g,2,none⟩) g2 (.inl rfl) v2;have b3:Blk ((((w).setCell ⟨g,0,none⟩ v0).setCell ⟨g,1,none⟩ v1).setCell ⟨g,2,none⟩ v2) g t #[v0,v1,v2,a3,a4,a5,a6,a7,a8,a9,a10,a11,a12]:=by simpa using b2.set_ 2 v2
 have g4:=Zak (p:=⟨g,3,none⟩) g3 (.inl rfl) v3;have b4:Blk (((((w).setCell ⟨g,0,none⟩ v0).setCell ⟨g,1,none⟩ v1).setCell ⟨g,2,none⟩ v2).setCell ⟨g,3,none⟩ v3) g t #[v0,v1,v2,v3,a4,a5,a6,a7,a8,a9,a10,a11,a12]:=by simpa using b3.set_ 3 v3
 have g5:=Zak (p:=⟨g,4,none⟩) g4 (.inl rfl) v4;have b5:Blk ((((((w).setCell ⟨g,0,none⟩ v0).setCell ⟨g,1,none⟩ v1).setCell ⟨g,2,none⟩ v2).setCell ⟨g,3,none⟩ v3).setCell ⟨g,4,none⟩ v4) g t #[v0,v1,v2,v3,v4,a5,a6,a7,a8,a9,a10,a11,a12]:=by simpa using b4.set_ 4 v4
 have g6:=Zak (p:=⟨g,5,none⟩) g5 (.inl rfl) v5;have b6:Blk (((((((w).setCell ⟨g,0,none⟩ v0).setCell ⟨g,1,none⟩ v1).setCell ⟨g,2,none⟩ v2).setCell ⟨g,3,none⟩ v3).setCell ⟨g,4,none⟩ v4).setCell ⟨g,5,none⟩ v5) g t #[v0,v1,v2,v3,v4,v5,a6,a7,a8,a9,a10,a11,a12]:=by simpa using b5.set_ 5 v5
 have g7:=Zak (p:=⟨g,6,none⟩) g6 (.inl rfl) v6;have b7:Blk ((((((((w).setCell ⟨g,0,none⟩ v0).setCell ⟨g,1,none⟩ v1).setCell ⟨g,2,none⟩ v2).setCell ⟨g,3,none⟩ v3).setCell ⟨g,4,none⟩ v4).setCell ⟨g,5,none⟩ v5).setCell ⟨g,6,none⟩ v6) g t #[v0,v1,v2,v3,v4,v5,v6,a7,a8,a9,a10,a11,a12]:=by simpa using b6.set_ 6 v6
 have g8:=Zak (p:=⟨g,7,none⟩) g7 (.inl rfl) v7;have b8:Blk (((((((((w).setCell ⟨g,0,none⟩ v0).setCell ⟨g,1,none⟩ v1).setCell ⟨g,2,none⟩ v2).setCell ⟨g,3,none⟩ v3).setCell ⟨g,4,none⟩ v4).setCell ⟨g,5,none⟩ v5).setCell ⟨g,6,none⟩ v6).setCell ⟨g,7,none⟩ v7) g t #[v0,v1,v2,v3,v4,v5,v6,v7,a8,a9,a10,a11,a12]:=by simpa using b7.set_ 7 v7
 have g9:=Zak (p:=⟨g,8,none⟩) g8 (.inl rfl) v8;have b9:Blk ((((((((((w).setCell ⟨g,0,none⟩ v0).setCell ⟨g,1,none⟩ v1).setCell ⟨g,2,none⟩ v2).setCell ⟨g,3,none⟩ v3).setCell ⟨g,4,none⟩ v4).setCell ⟨g,5,none⟩ v5).setCell ⟨g,6,none⟩ v6).setCell ⟨g,7,none⟩ v7).setCell ⟨g,8,none⟩ v8) g t #[v0,v1,v2,v3,v4,v5,v6,v7,v8,a9,a10,a11,a12]:=by simpa using b8.set_ 8 v8
 have g10:=Zak (p:=⟨g,9,none⟩) g9 (.inl rfl) v9;have b10:Blk (((((((((((w).setCell ⟨g,0,none⟩ v0).setCell ⟨g,1,none⟩ v1).setCell ⟨g,2,none⟩ v2).setCell ⟨g,3,none⟩ v3).setCell ⟨g,4,none⟩ v4).setCell ⟨g,5,none⟩ v5).setCell ⟨g,6,none⟩ v6).setCell ⟨g,7,none⟩ v7).setCell ⟨g,8,none⟩ v8).setCell ⟨g,9,none⟩ v9) g t #[v0,v1,v2,v3,v4,v5,v6,v7,v8,v9,a10,a11,a12]:=by simpa using b9.set_ 9 v9
 have g11:=Zak (p:=⟨g,10,none⟩) g10 (.inl rfl) v10;have b11:Blk ((((((((((((w).setCell ⟨g,0,none⟩ v0).setCell ⟨g,1,none⟩ v1).setCell ⟨g,2,none⟩ v2).setCell ⟨g,3,none⟩ v3).setCell ⟨g,4,none⟩ v4).setCell ⟨g,5,none⟩ v5).setCell ⟨g,6,none⟩ v6).setCell ⟨g,7,none⟩ v7).setCell ⟨g,8,none⟩ v8).setCell ⟨g,9,none⟩ v9).setCell ⟨g,10,none⟩ v10) g t #[v0,v1,v2,v3,v4,v5,v6,v7,v8,v9,v10,a11,a12]:=by simpa using b10.set_ 10 v10
 have g12:=Zak (p:=⟨g,11,none⟩) g11 (.inl rfl) v11;have b12:Blk (((((((((((((w).setCell ⟨g,0,none⟩ v0).setCell ⟨g,1,none⟩ v1).setCell ⟨g,2,none⟩ v2).setCell ⟨g,3,none⟩ v3).setCell ⟨g,4,none⟩ v4).setCell ⟨g,5,none⟩ v5).setCell ⟨g,6,none⟩ v6).setCell ⟨g,7,none⟩ v7).setCell ⟨g,8,none⟩ v8).setCell ⟨g,9,none⟩ v9).setCell ⟨g,10,none⟩ v10).setCell ⟨g,11,none⟩ v11) g t #[v0,v1,v2,v3,v4,v5,v6,v7,v8,v9,v10,v11,a12]:=by simpa using b11.set_ 11 v11
 have g13:=Zak (p:=⟨g,12,none⟩) g12 (.inl rfl) v12;have b13:Blk ((((((((((((((w).setCell ⟨g,0,none⟩ v0).setCell ⟨g,1,none⟩ v1).setCell ⟨g,2,none⟩ v2).setCell ⟨g,3,none⟩ v3).setCell ⟨g,4,none⟩ v4).setCell ⟨g,5,none⟩ v5).setCell ⟨g,6,none⟩ v6).setCell ⟨g,7,none⟩ v7).setCell ⟨g,8,none⟩ v8).setCell ⟨g,9,none⟩ v9).setCell ⟨g,10,none⟩ v10).setCell ⟨g,11,none⟩ v11).setCell ⟨g,12,none⟩ v12) g t #[v0,v1,v2,v3,v4,v5,v6,v7,v8,v9,v10,v11,v12]:=by simpa using b12.set_ 12 v12
 exact⟨g13,b13⟩
def Zk0(w0:World)(jv fv:Value)(cs:Array Value)(j:Nat)(v:Value)(w:World):Prop:=
 (j=1->v=.agg ZgT)/\(j=4->v=fv)/\(j=5->v=jv)/\(j=6->∃g,v=.pointer (some ⟨g,0,none⟩)/\w0.heap.size<=g/\Blk w g 339 cs)
theorem Zk0.below{w0:World}{jv fv:Value}{cs:Array Value}(j:Nat)(v:Value)(w w':World)(h:Zk0 w0 jv fv cs j v w)(hb:Below w.heap.size w w'):Zk0 w0 jv fv cs j v w':=
 ⟨h.1,h.2.1,h.2.2.1,fun e=>by
  obtain⟨g,h1,h2,h3⟩:=h.2.2.2 e;exact⟨g,h1,h2,h3.kept hb⟩⟩
theorem Zk0.one{w0 w:World}{jv fv:Value}{cs:Array Value}:Zk0 w0 jv fv cs 1 (.agg ZgT) w:=⟨fun _=>rfl,fun e=>by omega,fun e=>by omega,fun e=>by omega⟩
theorem Zk0.four{w0 w:World}{jv fv:Value}{cs:Array Value}:Zk0 w0 jv fv cs 4 fv w:=⟨fun e=>by omega,fun _=>rfl,fun e=>by omega,fun e=>by omega⟩
theorem Zk0.five{w0 w:World}{jv fv:Value}{cs:Array Value}:Zk0 w0 jv fv cs 5 jv w:=⟨fun e=>by omega,fun e=>by omega,fun _=>rfl,fun e=>by omega⟩
theorem Zk0.six{w0 W:World}{jv fv:Value}{cs:Array Value}(h:w0.heap.size<=W.heap.size):Zk0 w0 jv fv cs 6 (.pointer (some ⟨W.heap.size,0,none⟩)) (W.alloc (.cells cs 339)):=⟨fun e=>by omega,fun e=>by omega,fun e=>by omega,fun _=>⟨_,rfl,h,Blk.new _ _ _⟩⟩
structure DoS(mb gi x plb:Nat)(t:Int)(W:World):Prop where
 x0:W.cell? ⟨mb,0,none⟩=some (.int .i64 x)
 x6:W.cell? ⟨mb,6,none⟩=some (.pointer (some ⟨plb,0,none⟩))
 x1:W.cell? ⟨gi,1,none⟩=some (.int .i64 t)
 xl:mb<W.heap.size
 xg:gi<W.heap.size
theorem Zfw(code:Int)(S S1:Nat->Prop)(R:World->Prop)(mb:Nat)(K:MC)(s s1:MS)(f:FuncId)(kk:Nat)(t u:Int)(sd ad:Bool)(j1 j2 j3 j4 j5 j6 j7:Int)(pl pr:Option Addr)(w:World)(hK:K.Ok)(h:Zaz S w mb K s)
  (hx:s.its[s.nx]?=some (((kk:Int),t,u),((sd,ad),(j1,j2,j3,j4,j5),(j6,j7)))) (hix:∀W,(Instr.index 336 (.agg ZgT) (.int .i64 kk)).run prog W=.ok (fnV f) W) (he:∀args w,(callFunc f args).run prog w=.ok (.enter f args) w)
  (hf:∀W,Below w.heap.size w W->Calls prog f #[.pointer (some ⟨mb,0,none⟩),(.agg (Zea kk t u sd ad j1 j2 j3 j4 j5 j6 j7)),.agg #[.pointer pl,.pointer pr]] W fun e w'=>e=.returned (.int .i64 code)/\((code≠0/\Bz0 W w')\/(code=0/\Zaz S1 w' mb K s1/\R w'/\But (fun i=>i<w.heap.size) W w')))
  (h1:s1.its=s.its) (h2:s1.nx=s.nx) (h3:s1.cnt=s.cnt) (hc:s.cnt<1000000000000) (ht:0<=t/\t<=1000000) :
  Calls prog 128 #[.pointer (some ⟨mb,0,none⟩),.pointer pl,.pointer pr] w fun e w'=>e=.returned (.int .i64 code)/\((code≠0/\Bz0 w w')\/(code=0/\∃w1,R w1/\w.heap.size<=w1.heap.size/\But (fun i=>i<w.heap.size) w w1/\But S1 w1 w'/\Zaz (fun i=>S1 i\/w1.heap.size<=i) w' mb K (ZaS K s1 t))):=by
 obtain⟨F,a,hM,hF,hMu⟩:=h;have HM:=hid hM;have HNX:=hid (Ze2 F mb K s a kk t u sd ad j1 j2 j3 j4 j5 j6 j7 w hM hx);have HF:=hid hf;have HK:=hid hK;have HX:=hid (YaG.1 hx).1;have H1:=hid h1;have H2:=hid h2;have H3:=hid h3;clear hM hF hMu hx hf hK h1 h2 h3
 go_enter func128,ntmps128
 go_wp2_with fail;((with_reducible refine HNX.out.mono ?_);rintro e w1 ⟨rfl,hb1⟩);obtain⟨w2,hw2⟩:∃w2,w1.alloc (.cells (Zea kk t u sd ad j1 j2 j3 j4 j5 j6 j7) 222)=w2:=⟨_,rfl⟩;obtain⟨gi,hgi⟩:∃g,w1.heap.size=g:=⟨_,rfl⟩;have hb2:Below w.heap.size w w2:=by rw[<-hw2];exact hb1.alloc hb1.size _
 have hi2:Blk w2 gi 222 (Zea kk t u sd ad j1 j2 j3 j4 j5 j6 j7):=by rw[<-hw2];exact Blk.new' _ _ hgi
 have HW2:=hid hw2;have HGI:=hid hgi;have HB2:=hid hb2;have HI2:=hid hi2;have HGW:Hid (w.heap.size<=gi):=hid (by rw[<-hgi];exact hb1.size);clear hw2 hgi hb1 hb2 hi2;go_wp2_with fail;rw[HW2.out,HGI.out];have KS:Zag w2 w2.drew:=Zag.start w2;have z0:=HI2.out.cell 0;have z1:=HI2.out.cell 1;have z2:=HI2.out.cell 2;have z3:=HI2.out.cell 3;have z4:=HI2.out.cell 4;have z5:=HI2.out.cell 5;have z6:=HI2.out.cell 6;have z7:=HI2.out.cell 7;have z8:=HI2.out.cell 8;have z9:=HI2.out.cell 9;have z10:=HI2.out.cell 10;have z11:=HI2.out.cell 11;have zl:=HI2.out.lt;refine ZaY (Zag w2) (Zk0 w2 (.agg #[.int .i64 kk,.int .i64 t,.int .i64 u,.bool sd,.bool ad,.int .i64 j1,.int .i64 j2,.int .i64 j3,.int .i64 j4,.int .i64 j5,.int .i64 j6,.int .i64 j7,fnV f]) (fnV f) #[.int .i64 0,.int .i64 0,.int .i64 0,.bool false,.bool false,.int .i64 0,.int .i64 0,.int .i64 0,.int .i64 0,.int .i64 0,.int .i64 0,.int .i64 0,.nilFunc]) (fun _ _ _ _=>True) [0,2,3] [1,4,5,6] [7] (by kernel_rfl) (by kernel_rfl) KS (fun _ _ _ _ _=>trivial) Zk0.below ?_;simp only[YaO,YaP,YaB,YaC];refine Zaa (.agg (Zea kk t u sd ad j1 j2 j3 j4 j5 j6 j7)) rfl (fun W hW=>?_) ?_
 ·obtain⟨hc,-,-⟩:=hW;go_simp
 go_simp;refine Zaa (.pointer (some ⟨gi,0,none⟩)) rfl (fun W hW=>?_) ?_
 ·obtain⟨hc,-,-⟩:=hW;go_simp
 go_simp;refine Zaa (.int .i64 kk) rfl (fun W hW=>?_) ?_
 ·obtain⟨hc,-,-⟩:=hW;go_simp
 go_simp;refine Zeh.mk ?_ ?_
 ·intro j8 hj8 o ho8 vs W hS hV;simp only[List.mem_cons,List.not_mem_nil,or_false] at hj8;have HS:=hid hS;have HV:=hid hV;clear hS hV
  rcases hj8 with rfl|rfl|rfl|rfl
  ·cases ho8
   unfold Zbl;simp only[ZaL,ZaT,YaD,YaB,YaC,YaE];change wpList _ _ _ (_::[]) _ _;go_wp2_with fail;((with_reducible refine(Zq8 W).mono ?_);rintro e w8 ⟨rfl,hb8⟩);go_wp2_with fail;exact⟨HS.out.call hb8,Zk0.one⟩
  ·have v1:=(HV.out 1 (by simp) (by kernel_rfl)).1 rfl
   cases ho8
   unfold Zbl;simp only[ZaL,ZaT,YaD,YaB,YaC,YaE];rw[v1];change wpList _ _ _ (_::[]) _ _;go_wp2_with fail;exact⟨HS.out,Zk0.four,bR0 _ _⟩
  ·have v4:=(HV.out 4 (by simp) (by kernel_rfl)).2.1 rfl
   cases ho8
   unfold Zbl;simp only[ZaL,ZaT,YaD,YaB,YaC,YaE];rw[v4];change wpList _ _ _ (_::[]) _ _;go_wp2_with fail;exact⟨HS.out,Zk0.five,bR0 _ _⟩
  ·cases ho8
   unfold Zbl;simp only[ZaL,ZaT,YaD,YaB,YaC,YaE];change wpList _ _ _ (_::[]) _ _;go_wp2_with fail;exact⟨HS.out.alloc _,Zk0.six HS.out.2.1,bA0 _⟩
 ·intro vs W hS hV hR;have h4:=(hV 4 (by simp)).2.1 rfl;have h5:=(hV 5 (by simp)).2.2.1 rfl;have h1:=(hV 1 (by simp)).1 rfl;obtain⟨gj,h6,hgj,hbj⟩:=(hV 6 (by simp)).2.2.2 rfl;simp only[ZaL,ZaT,YaO,YaP,YaD,YaB,YaC,YaE];rw[h1,h4,h5,h6];have HS:=hid hS.2.2;have HBJ:=hid hbj;have HGJ:=hid hgj;clear hS hV hR h1 h4 h5 h6 hgj hbj z0 z1 z2 z3 z4 z5 z6 z7 z8 z9 z10 z11 zl KS;have c0:=HBJ.out.cell 0;have c1:=HBJ.out.cell 1;have c2:=HBJ.out.cell 2;have c3:=HBJ.out.cell 3;have c4:=HBJ.out.cell 4;have c5:=HBJ.out.cell 5;have c6:=HBJ.out.cell 6;have c7:=HBJ.out.cell 7;have c8:=HBJ.out.cell 8;have c9:=HBJ.out.cell 9;have c10:=HBJ.out.cell 10;have c11:=HBJ.out.cell 11;have c12:=HBJ.out.cell 12;have f0:=HBJ.out.frozen 0;have f1:=HBJ.out.frozen 1;have f2:=HBJ.out.frozen 2;have f3:=HBJ.out.frozen 3;have f4:=HBJ.out.frozen 4;have f5:=HBJ.out.frozen 5;have f6:=HBJ.out.frozen 6;have f7:=HBJ.out.frozen 7;have f8:=HBJ.out.frozen 8;have f9:=HBJ.out.frozen 9;have f10:=HBJ.out.frozen 10;have f11:=HBJ.out.frozen 11;have f12:=HBJ.out.frozen 12;have cl:=HBJ.out.lt;change wpList _ _ _ (_::[]) _ _;go_wp2_with fail;refine NoPanic.normal ?_;obtain⟨hg4,hj4⟩:=Zxe HBJ.out (.int .i64 kk) (.int .i64 t) (.int .i64 u) (.bool sd) (.bool ad) (.int .i64 j1) (.int .i64 j2) (.int .i64 j3) (.int .i64 j4) (.int .i64 j5) (.int .i64 j6) (.int .i64 j7) (.func (.func f) #[] #[]) _ rfl;generalize (((((((((((((W).setCell ⟨gj,0,none⟩ (.int .i64 kk)).setCell ⟨gj,1,none⟩ (.int .i64 t)).setCell ⟨gj,2,none⟩ (.int .i64 u)).setCell ⟨gj,3,none⟩ (.bool sd)).setCell ⟨gj,4,none⟩ (.bool ad)).setCell ⟨gj,5,none⟩ (.int .i64 j1)).setCell ⟨gj,6,none⟩ (.int .i64 j2)).setCell ⟨gj,7,none⟩ (.int .i64 j3)).setCell ⟨gj,8,none⟩ (.int .i64 j4)).setCell ⟨gj,9,none⟩ (.int .i64 j5)).setCell ⟨gj,10,none⟩ (.int .i64 j6)).setCell ⟨gj,11,none⟩ (.int .i64 j7)).setCell ⟨gj,12,none⟩ (.func (.func f) #[] #[])=w4 at hg4 hj4 ⊢;have hgj2:gi<gj:=YaK HI2.out.lt HGJ.out;have hb4:Below w2.heap.size w2 w4:=Zai HS.out HS.out.size hg4 HGJ.out;have HI4:=hid (HI2.out.kept hb4);have HB4:=hid (bT0 HB2.out hb4);have HJ4:=hid hj4;clear c0 c1 c2 c3 c4 c5 c6 c7 c8 c9 c10 c11 c12 f0 f1 f2 f3 f4 f5 f6 f7 f8 f9 f10 f11 f12 cl hg4 hj4 hb4 hgj2 HS HBJ HGJ;have c0:=HJ4.out.cell 0;have c1:=HJ4.out.cell 1;have c2:=HJ4.out.cell 2;have c3:=HJ4.out.cell 3;have c4:=HJ4.out.cell 4;have c5:=HJ4.out.cell 5;have c6:=HJ4.out.cell 6;have c7:=HJ4.out.cell 7;have c8:=HJ4.out.cell 8;have c9:=HJ4.out.cell 9;have c10:=HJ4.out.cell 10;have c11:=HJ4.out.cell 11;have c12:=HJ4.out.cell 12;have cl:=HJ4.out.lt;go_wp2_with fail;((with_reducible refine(HF.out w4 HB4.out).mono ?_);rintro e w5 ⟨rfl,hret⟩)
  rcases hret with⟨hne,hb5⟩|⟨rfl,hm5,hr5,hb5⟩
  ·have ec:(code==0)=false:=by simpa using hne
   have HB5:=hid (bT0 HB4.out hb5);clear hb5;go_wp2_with fail;go_ret;exact⟨rfl,.inl ⟨hne,HB5.out⟩⟩
  obtain⟨F1,a1,hM1,hF1,hMu1⟩:=hm5;have HM5:=hid hM1;have HF5:=hid hF1;have HMu5:=hid hMu1;have HR5:=hid hr5;have HBU5:=hid hb5;have HI5:=hid (HI4.out.but hb5 (fun e=>by have:=HGW.out;omega));have HBW5:Hid (But (fun i=>i<w.heap.size) w w5):=hid ((But.of_below _ HB4.out).trans hb5);clear c0 c1 c2 c3 c4 c5 c6 c7 c8 c9 c10 c11 c12 cl hM1 hF1 hMu1 hr5 hb5 HJ4;have m17:w5.cell? ⟨mb,17,none⟩=some (.int .i64 s1.cnt):=HM5.out.blk.cell 17;have m16:w5.cell? ⟨mb,16,none⟩=some (.int .i64 s1.nx):=HM5.out.blk.cell 16;have f17:=HM5.out.blk.frozen 17;have f16:=HM5.out.blk.frozen 16;have ml:=HM5.out.blk.lt;obtain⟨c,hcn⟩:∃c,s1.cnt+1=c:=⟨_,rfl⟩;obtain⟨p,hp⟩:∃p,s1.nx+1=p:=⟨_,rfl⟩;have hp1:p<=s1.its.length:=by rw[<-hp,H1.out,H2.out];exact HX.out
  have hil:=HM5.out.il;have hwc:IntKind.i64.wrap ((s1.cnt:Int)+1)=(c:Int):=by rw[show (s1.cnt:Int)+1=(c:Int) by omega];exact IntWalk.i64_in _ (by have:=H3.out;omega)
  have hwp:IntKind.i64.wrap ((s1.nx:Int)+1)=(p:Int):=by rw[show (s1.nx:Int)+1=(p:Int) by omega];exact IntWalk.i64_in _ (by omega)
  have HCN:=hid hcn;have HPN:=hid hp;have HP1:=hid hp1;have HCB:Hid (c<=1000000000000):=hid (by rw[<-hcn,H3.out];omega);have g7:=Zak (p:=⟨mb,16,none⟩) (Zak (p:=⟨mb,17,none⟩) (World.grownBy.refl w5 (some mb)) (.inl rfl) (.int .i64 c)) (.inl rfl) (.int .i64 p);have b7:Blk ((w5.setCell ⟨mb,17,none⟩ (.int .i64 c)).setCell ⟨mb,16,none⟩ (.int .i64 p)) mb 121 (ZcC K { s1 with nx:=p,cnt:=c } a1):=by
   have:=(HM5.out.blk.set_ 17 (.int .i64 c)).set_ 16 (.int .i64 p)
   simpa [ZcC] using this
  have HM7:=hid (HM5.out.setN g7 b7 hp1 HCB.out);have HG7:=hid (But.of_gr (S:=fun i=>i=mb) g7 rfl);have HI7:=hid (HI5.out.grown g7 (by
   intro e;injection e with e
   have h1:=HM.out.blk.lt;have h2:=HGW.out
   omega))
  clear hcn hp g7 b7 hp1;go_wp2_with fail;generalize hw7:(w5.setCell ⟨mb,17,none⟩ (.int .i64 c)).setCell ⟨mb,16,none⟩ (.int .i64 p)=w7 at HM7 HG7 HI7 ⊢;clear hw7 m17 m16 f17 f16 ml;have m15:w7.cell? ⟨mb,15,none⟩=some (.slice a1.AI s1.its.length a1.cI):=HM7.out.blk.cell 15;have m16:w7.cell? ⟨mb,16,none⟩=some (.int .i64 p):=HM7.out.blk.cell 16;have ml:=HM7.out.blk.lt;have HFIN:Hid (∀W,But (fun i=>i=mb) w7 W->Zaz (fun i=>S1 i\/w5.heap.size<=i) W mb K (ZaS K s1 t)->∃w1,R w1/\w.heap.size<=w1.heap.size/\But (fun i=>i<w.heap.size) w w1/\But S1 w1 W/\Zaz (fun i=>S1 i\/w1.heap.size<=i) W mb K (ZaS K s1 t)):=hid (fun W hb hm=>
   ⟨w5,HR5.out,HBW5.out.size,HBW5.out,(HG7.out.trans hb).mono (fun i _ hi=>by rw[hi];exact HMu5.out mb (.inl rfl)),hm⟩)
  by_cases hl:p=s1.its.length
  ·have e12:((p:Int)==(s1.its.length:Int))=true:=by simp[hl]
   have HLE:=hid hl;clear hl;have e13:(p==s1.its.length)=true:=by simpa using HLE.out
   go_region;go_wp2_with fail;have HM8:=hid (HM7.out.below ((bR0 w7.heap.size w7).drew));have HI8:=hid (HI7.out.drew);generalize hw8:w7.drew=w8 at HM8 HI8 ⊢;have HW8:=hid hw8;clear hw8 m15 m16 ml e12 e13;have n0:=cv0 HM8.out.blk;have n6:w8.cell? ⟨mb,6,none⟩=some (.pointer (some ⟨a1.plb,0,none⟩)):=HM8.out.blk.cell 6;have u1:w8.cell? ⟨gi,1,none⟩=some (.int .i64 t):=HI8.out.cell 1;have nl:=HM8.out.blk.lt;have ul:=HI8.out.lt;have hne:mb≠gi:=by
    have h1:=HM.out.blk.lt;have h2:=HGW.out;omega
   obtain⟨t1,ht1⟩:∃t1,t+1=t1:=⟨_,rfl⟩;have hwt:IntKind.i64.wrap (t+1)=t1:=by rw[ht1];exact IntWalk.i64_in _ (by omega)
   have HT1:=hid ht1;have HST:=hid (fun W (kk:Below w8.heap.size w8 W)=>ZfR K.pc K.c a1.A a1.nA a1.capA a1.plb K.x t1 W HK.out.pcok HK.out.fits (HM8.out.fz.here.pln.kept kk));obtain⟨its,hits⟩:∃l,K.pc.stepI K.c.st K.x t1=l:=⟨_,rfl⟩;rw[hits] at HST;have hil8:its.length<=200000000:=by
    rw[<-hits];unfold PlC.stepI
    split
    ·exact PlC.itemsI_le HK.out.pcok _ _
    ·simp
   have HIT:=hid hits;have HIL:=hid hil8;clear ht1 hits hil8;refine Zad (DoS mb gi K.x a1.plb t) [0,1,2,3,4,5,6,7,8,9,10,11,12,13,14] [15,16,17,18] [19,20,21] (by kernel_rfl) (by kernel_rfl) (⟨n0,n6,u1,nl,ul⟩) ?_;simp only[YaO,YaP,YaB,YaC];refine Zaa (.pointer (some ⟨mb,0,none⟩)) rfl (fun W hW=>?_) ?_
   ·obtain⟨x0,x6,x1,xl,xg⟩:=hW;go_simp
   go_simp;refine Zaa (.pointer (some ⟨mb,0,none⟩)) rfl (fun W hW=>?_) ?_
   ·obtain⟨x0,x6,x1,xl,xg⟩:=hW;go_simp
   go_simp;refine Zaa (.pointer (some ⟨mb,0,none⟩)) rfl (fun W hW=>?_) ?_
   ·obtain⟨x0,x6,x1,xl,xg⟩:=hW;go_simp
   go_simp;refine Zaa (.pointer (some ⟨mb,0,none⟩)) rfl (fun W hW=>?_) ?_
   ·obtain⟨x0,x6,x1,xl,xg⟩:=hW;go_simp
   go_simp;refine Zaa (.pointer (some ⟨mb,0,none⟩)) rfl (fun W hW=>?_) ?_
   ·obtain⟨x0,x6,x1,xl,xg⟩:=hW;go_simp
   go_simp;refine Zaa (.pointer (some ⟨mb,6,none⟩)) rfl (fun W hW=>?_) ?_
   ·obtain⟨x0,x6,x1,xl,xg⟩:=hW;go_simp
   go_simp;refine Zaa (.pointer (some ⟨a1.plb,0,none⟩)) rfl (fun W hW=>?_) ?_
   ·obtain⟨x0,x6,x1,xl,xg⟩:=hW;go_simp
   go_simp;refine Zaa (.pointer (some ⟨mb,0,none⟩)) rfl (fun W hW=>?_) ?_
   ·obtain⟨x0,x6,x1,xl,xg⟩:=hW;go_simp
   go_simp;refine Zaa (.pointer (some ⟨mb,0,none⟩)) rfl (fun W hW=>?_) ?_
   ·obtain⟨x0,x6,x1,xl,xg⟩:=hW;go_simp
   go_simp;refine Zaa (.pointer (some ⟨mb,0,none⟩)) rfl (fun W hW=>?_) ?_
   ·obtain⟨x0,x6,x1,xl,xg⟩:=hW;go_simp
   go_simp;refine Zaa (.pointer (some ⟨mb,0,none⟩)) rfl (fun W hW=>?_) ?_
   ·obtain⟨x0,x6,x1,xl,xg⟩:=hW;go_simp
   go_simp;refine Zaa (.int .i64 K.x) rfl (fun W hW=>?_) ?_
   ·obtain⟨x0,x6,x1,xl,xg⟩:=hW;go_simp
   go_simp;refine Zaa (.pointer (some ⟨gi,1,none⟩)) rfl (fun W hW=>?_) ?_
   ·obtain⟨x0,x6,x1,xl,xg⟩:=hW;go_simp
   go_simp;refine Zaa (.int .i64 t) rfl (fun W hW=>?_) ?_
   ·obtain⟨x0,x6,x1,xl,xg⟩:=hW;go_simp
   go_simp;refine Zaa (.int .i64 t1) rfl (fun W hW=>?_) ?_
   ·obtain⟨x0,x6,x1,xl,xg⟩:=hW;go_simp
   go_simp;change Zah _ _ _ _ _ (_::_::_::_::[]) _ _;unfold Zah;go_wp2_with fail;((with_reducible refine(HST.out _ ((bR0 _ _).drew)).mono ?_);rintro e w9 ⟨A9,c9,rfl,ho9,hb9⟩);have hb9':Below w8.heap.size w8 w9:=((Zag.start w8).call hb9).2.2;have HM9:=hid (HM8.out.below hb9');have HI9:=hid (HI8.out.kept hb9');have HO9:=hid (show w9.ownsRow w8.heap.size 222 12 (.slice A9 its.length c9) its.length (ZaJ its) from ho9);have HB9:=hid hb9';clear ho9 hb9 hb9' HST n0 n6 u1 nl ul;have n0:=cv0 HM9.out.blk;have n6:w9.cell? ⟨mb,6,none⟩=some (.pointer (some ⟨a1.plb,0,none⟩)):=HM9.out.blk.cell 6;have u1:w9.cell? ⟨gi,1,none⟩=some (.int .i64 t):=HI9.out.cell 1;have nl:=HM9.out.blk.lt;have ul:=HI9.out.lt;go_wp2_with fail;refine⟨⟨n0,n6,u1,nl,ul⟩,?_⟩;unfold Zah;change wpList _ _ _ (_::[]) _ _;go_wp2_with fail;refine⟨⟨n0,n6,u1,nl,ul⟩,?_⟩;unfold Zah;change wpList _ _ _ (_::[]) _ _;go_wp2_with fail;refine⟨⟨n0,n6,u1,nl,ul⟩,?_⟩;unfold Zah;change wpList _ _ _ (_::[]) _ _;have n15:w9.cell? ⟨mb,15,none⟩=some (.slice a1.AI s1.its.length a1.cI):=HM9.out.blk.cell 15;have n16:w9.cell? ⟨mb,16,none⟩=some (.int .i64 p):=HM9.out.blk.cell 16;have f15:=HM9.out.blk.frozen 15;have f16:=HM9.out.blk.frozen 16;go_wp2_with fail;have hg1:=Zak (p:=⟨mb,15,none⟩) (World.grownBy.refl w9 (some mb)) (.inl rfl) (.slice A9 its.length c9);have hi10:=HI9.out.grown hg1 (by intro e;injection e with e;exact hne e.symm);have hb10:=HM9.out.blk.set_ 15 (.slice A9 its.length c9);refine⟨⟨by simpa [ZcC] using hb10.cell 0,by simpa [ZcC] using hb10.cell 6,hi10.cell 1,hb10.lt,hi10.lt⟩,?_⟩;unfold Zah;change wpList _ _ _ (_::_::_::[]) _ _;go_wp2_with fail;refine NoPanic.normal ?_;go_wp2_with fail;go_ret;have hg2:=Zak (p:=⟨mb,16,none⟩) hg1 (.inl rfl) (.int .i64 0);have hb11:Blk ((w9.setCell ⟨mb,15,none⟩ (.slice A9 its.length c9)).setCell ⟨mb,16,none⟩ (.int .i64 0)) mb 121 (ZcC K { s1 with cnt:=c,its:=its,nx:=0 } { a1 with AI:=A9,cI:=c9 }):=by
    have:=hb10.set_ 16 (.int .i64 0)
    simpa [ZcC] using this
   have hm:=HM9.out.setI (its:=its) (nx:=0) (AI:=A9) (cI:=c9) hg2 hb11 (Nat.zero_le _) HIL.out (Zae HO9.out (Nat.zero_le _)) (fun g hg hmu=>by
    have h1:=(HO9.out.lt g ((Zaf _ _ _).trans hg)).1;have h2:=HM8.out.mu_lt hmu
    omega)
   have hbut:But (fun i=>i=mb) w7 ((w9.setCell ⟨mb,15,none⟩ (.slice A9 its.length c9)).setCell ⟨mb,16,none⟩ (.int .i64 0)):=by
    have h0:Below w7.heap.size w7 w8:=by rw[<-HW8.out];exact(bR0 _ _).drew
    exact((But.of_below _ h0).call HB9.out).trans (But.of_gr hg2 rfl)
   have hsz:w5.heap.size<=w8.heap.size:=YaH HG7.out.size (by rw[<-HW8.out];exact YaF _);have en:ZaS K s1 t={ s1 with cnt:=c,its:=its,nx:=0 }:=by
    unfold ZaS;rw[HPN.out,HCN.out,if_pos HLE.out,HT1.out,<-HK.out.st,HIT.out]
   refine⟨rfl,HFIN.out _ hbut ?_⟩;rw[en];refine⟨_,_,hm,fun i hi=>?_,fun i hi=>.inl (HMu5.out i hi)⟩
   rcases hi with hi|hi
   ·exact .inl (HF5.out i hi)
   ·exact .inr (YaH hsz (HO9.out.lt i ((Zaf _ _ _).trans hi)).1)
  ·have e12:((p:Int)==(s1.its.length:Int))=false:=by simp;omega
   have e13:(p==s1.its.length)=false:=by simpa using hl
   have HLE:=hid hl;clear hl;go_region;go_wp2_with fail;go_ret;refine⟨rfl,HFIN.out _ ((But.refl _ _).call ((bR0 _ _).drew)) ⟨F1,a1,?_,fun i hi=>.inl (HF5.out i hi),fun i hi=>.inl (HMu5.out i hi)⟩⟩;have hm:=HM7.out.below ((bR0 w7.heap.size w7).drew);unfold ZaS;rw[HPN.out,HCN.out,if_neg HLE.out];exact hm
theorem Zeq(S S1:Nat->Prop)(R:World->Prop)(mb:Nat)(K:MC)(s s1:MS)(f:FuncId)(kk:Nat)(t u:Int)(sd ad:Bool)(j1 j2 j3 j4 j5 j6 j7:Int)(pl pr:Option Addr)(w:World)(hK:K.Ok)(h:Zaz S w mb K s)
  (hx:s.its[s.nx]?=some (((kk:Int),t,u),((sd,ad),(j1,j2,j3,j4,j5),(j6,j7)))) (hix:∀W,(Instr.index 336 (.agg ZgT) (.int .i64 kk)).run prog W=.ok (fnV f) W) (he:∀args w,(callFunc f args).run prog w=.ok (.enter f args) w)
  (hf:∀W,Below w.heap.size w W->Calls prog f #[.pointer (some ⟨mb,0,none⟩),(.agg (Zea kk t u sd ad j1 j2 j3 j4 j5 j6 j7)),.agg #[.pointer pl,.pointer pr]] W fun e w'=>e=.returned (.int .i64 0)/\Zaz S1 w' mb K s1/\R w'/\But (fun i=>i<w.heap.size) W w')
  (h1:s1.its=s.its) (h2:s1.nx=s.nx) (h3:s1.cnt=s.cnt) (hc:s.cnt<1000000000000) (ht:0<=t/\t<=1000000) :
  Calls prog 128 #[.pointer (some ⟨mb,0,none⟩),.pointer pl,.pointer pr] w fun e w'=>e=.returned (.int .i64 0)/\∃w1,R w1/\w.heap.size<=w1.heap.size/\But (fun i=>i<w.heap.size) w w1/\But S1 w1 w'/\Zaz (fun i=>S1 i\/w1.heap.size<=i) w' mb K (ZaS K s1 t):=by
 refine(Zfw 0 S S1 R mb K s s1 f kk t u sd ad j1 j2 j3 j4 j5 j6 j7 pl pr w hK h hx hix he (fun W hW=>(hf W hW).mono ?_) h1 h2 h3 hc ht).mono ?_
 ·rintro e w' ⟨rfl,h⟩;exact⟨rfl,.inr ⟨rfl,h⟩⟩
 ·rintro e w' ⟨rfl,h|h⟩
  ·exact absurd rfl h.1
  ·exact⟨rfl,h.2⟩
theorem ZoX(l:List Int)(i j:Nat)(a:Int)(hi:i<l.length)(hj:j<l.length):(ZhG l i j).count a=l.count a:=by
 have e1:l.getD j 0=l[j]:=by simp[List.getD,hj]
 have e2:l.getD i 0=l[i]:=by simp[List.getD,hi]
 rw[ZhG,e1,e2,List.count_set (by simpa using hj),List.count_set hi,List.getElem_set]
 by_cases h:i=j
 ·subst h;simp only[if_true]
  by_cases ha:(l[i]==a)=true
  ·have:0<l.count a:=List.count_pos_iff.2 (by have:=beq_iff_eq.1 ha;rw[<-this];exact List.getElem_mem _);have h2:=beq_iff_eq.1 ha;simp[h2];omega
  ·have h2:¬l[i]=a:=fun e=>ha (by simp[e])
   simp[h2]
 ·rw[if_neg h];have p1:l[i]=a->0<l.count a:=fun e=>List.count_pos_iff.2 (by rw[<-e];exact List.getElem_mem _)
  have p2:l[j]=a->0<l.count a:=fun e=>List.count_pos_iff.2 (by rw[<-e];exact List.getElem_mem _)
  by_cases ha:l[i]=a<;>by_cases hb:l[j]=a<;>simp[ha,hb]<;>(first|(have:=p1 ha;omega)|(have:=p2 hb;omega)|omega)
theorem Ziw(n:Nat)(ds:List Int)(a:Int):∀k,k<=n-1->(∀j,j<k->0<=ds.getD j 0/\(ds.getD j 0)<(n:Int))->(ZbG n ds k).count a=(Zdg n).count a
 |0=>fun _ _=>rfl
 |k+1=>fun hk h=>by
  have h1:=h k (by omega);rw[ZbG,ZoX _ _ _ _ (by rw[Za3];omega) (by rw[Za3];omega)];exact Ziw n ds a k (by omega) (fun j hj=>h j (by omega))
theorem Zra(L:List Int)(n s:Nat)(a:Int)(hn:n-1<=L.length-s):(ZkO L n s).count a=(Zdg n).count a:=by
 refine Ziw n _ a (n-1) (YaF _) (fun j hj=>?_);obtain⟨x,hx⟩:∃x,L[s+j]?=some x:=⟨_,YaA (by omega)⟩;have h:=ZeX L s (Zcp n (n-1)) j x _ hx (ZeY n (n-1) j hj);have h1:=Int.emod_nonneg x (show (n:Int)-(j:Int)≠0 by omega);have h2:=Int.emod_lt_of_pos x (show 0<(n:Int)-(j:Int) by omega);rw[YaT,h];simp only[Option.getD_some];omega
theorem Zwk(L:List Int)(n s:Nat)(hn:n-1<=L.length-s):∀x∈ZkO L n s,0<=x/\x<(n:Int):=by
 intro x hx;have h1:=List.count_pos_iff.2 hx;rw[Zra L n s x hn] at h1;have h2:=List.count_pos_iff.1 h1;unfold Zdg at h2;obtain⟨i,hi,rfl⟩:=List.mem_map.1 h2;have:=List.mem_range.1 hi;omega
def Ztl(l:List Int)(K j:Nat):List Int:=l.take (bnd l.length K j)
theorem Zrb(l:List Int)(K:Nat):Ztl l K 0=[]:=by simp[Ztl,Znh]
theorem Zrc{l:List Int}{K j:Nat}(hj:j<K):Ztl l K (j+1)=Ztl l K j++ZaV l (j:Int) (K:Int):=by
 rw[ZaV,if_pos (by omega),Ztl,Ztl,show ((K:Int)).toNat=K by omega,show ((j:Int)).toNat=j by omega];have hm:=Zga l.length K j (j+1) (by omega)
 conv=>lhs;rw[show bnd l.length K (j+1)=bnd l.length K j+(bnd l.length K (j+1)-bnd l.length K j) by omega]
 rw[List.take_add]
theorem Ztm{l:List Int}{K:Nat}(hK:1<=K):Ztl l K K=l:=by rw[Ztl,ZvR _ _ hK,List.take_length]
def Ztn(K:MC)(t a:Int):List Int:=ZaV (ZaV (Za7 K.L K.m K.b K.q K.st t) K.x K.pc.m) a K.pc.mi
def exG(K:MC)(P:List Int)(i:Int):List Int:=Zkt K.l K.n P K.c.sh (K.f (i.toNat+1)).1 (K.f (i.toNat+1)).2
def ZcP(K:MC)(P G:List Int)(l:List Int):List Int:=l.foldl (fun G i=>ZbK G 0 (exG K P i) K.NP) G
theorem Zk1(K:MC)(P G l:List Int)(i:Int):ZcP K P G (l++[i])=ZbK (ZcP K P G l) 0 (exG K P i) K.NP:=by simp[ZcP]
theorem Zcr(K:MC)(P G l:List Int):(ZcP K P G l).length=G.length:=by
 induction l generalizing G with
 |nil=>rfl
 |cons i l ih=>rw[ZcP,List.foldl_cons];exact(ih _).trans (Zbg _ _ _ _)
theorem Zix{l:List Int}{i k x:Int}(h:x∈ZaV l i k):x∈l:=by
 unfold ZaV at h
 split at h
 ·exact List.mem_of_mem_drop (List.mem_of_mem_take h)
 ·cases h
theorem Zud{K:MC}(hK:K.Ok)(t:Int):∀x∈Za7 K.L K.m K.b K.q K.st t,0<=x/\x<(K.m:Int):=by
 intro x h1;unfold Za7 at h1
 split at h1
 ·rename_i ht
  have h2:=List.mem_of_mem_drop (List.mem_of_mem_take h1);refine Zwk K.L K.m _ ?_ x h2;have hd:=hK.dr;have hq:=hK.smp.hq;have hE:=hK.smp.hE;have h3:t.toNat/K.q+1<=K.E:=by
   rw[<-hE];have h4:t.toNat<K.st:=by omega
   have h5:=Nat.div_mul_le_self t.toNat K.q;have h6:cnt K.st K.q=(K.st+K.q-1)/K.q:=by rw[Zq6 _ _ hq]
   rw[h6];refine(Nat.le_div_iff_mul_le (by omega)).2 ?_;rw[Nat.succ_mul];omega
  have h7:(t.toNat/K.q+1)*(K.m-1)<=K.E*(K.m-1):=YaW _ h3;rw[Nat.succ_mul] at h7;omega
 ·cases h1
theorem Zrd{K:MC}(hK:K.Ok)(t a:Int):∀x∈Ztn K t a,0<=x/\x<(K.m:Int):=fun x hx=>Zud hK t x (Zix (Zix hx))
theorem Zto{K:MC}(hK:K.Ok)(t a:Int):(Ztn K t a).length<=1000:=by
 have h0:∀(l:List Int) (i k:Int),(ZaV l i k).length<=l.length:=by
  intro l i k;unfold ZaV
  split
  ·simp;omega
  ·simp
 refine YaH (h0 _ _ _) (YaH (h0 _ _ _) ?_);unfold Za7
 split
 ·have:=hK.smp.hbn;have:=hK.smp.hn;simp;omega
 ·simp
theorem ZgU(S:Nat->Prop)(mb:Nat)(K:MC)(s:MS)(k1 t u:Int)(sd ad:Bool)(j1 j2 j3 j4 j5 j6 j7:Int)(pl pr:Option Addr)(w:World)(hK:K.Ok)(h:Zaz S w mb K s)(hu:-1000<=u/\u<=1000) :
  Calls prog 231 #[.pointer (some ⟨mb,0,none⟩),(.agg (Zea k1 t u sd ad j1 j2 j3 j4 j5 j6 j7)),.agg #[.pointer pl,.pointer pr]] w fun e w'=>e=.returned (.int .i64 0)/\Zaz (fun i=>S i\/w.heap.size<=i) w' mb K { s with G:=ZcP K s.P s.G (Ztn K t u) }/\But S w w':=by
 obtain⟨F,a,hM,hF,hMu⟩:=h;have HM:=hid hM;have HF:=hid hF;have HMu:=hid hMu;have HK:=hid hK;have HU:=hid hu;clear hM hF hMu hK hu
 go_enter func231,ntmps231
 go_wp2_with fail;obtain⟨w1,hw1⟩:∃w1,(w.alloc (.cells (Zea k1 t u sd ad j1 j2 j3 j4 j5 j6 j7) 222)).alloc (.cells #[.pointer pl,.pointer pr] 341)=w1:=⟨_,rfl⟩;have hb1:Below w.heap.size w w1:=by rw[<-hw1];exact(bA0 _).alloc (by simp) _
 have hi1:Blk w1 w.heap.size 222 (Zea k1 t u sd ad j1 j2 j3 j4 j5 j6 j7):=by rw[<-hw1];exact(Blk.new _ _ _).alloc _
 rw[hw1];have HB1:=hid hb1;have HI1:=hid hi1;have HM1:=hid (HM.out.below hb1);clear hw1 hb1 hi1;obtain⟨lP,lM,lG,-⟩:=HM.out.lens;have HNW:=hid (fun W (kk:Zag w1 W)=>Zou a.base a.bs K.l K.n K.NP s.P K.c.sh (some ⟨a.gp,0,none⟩) a.cP W (HK.out.net lP HM.out.pin) (HM1.out.fz.here.shp.below kk.2.2) (Rd.of_own (Zac HM1.out.prow kk.2.2)));have m3:=cv3 HM1.out.blk;have m11:=cv11 HM1.out.blk;have m10:=cv10 HM1.out.blk;have ml:=HM1.out.blk.lt;have KS:Zag w1 w1.drew:=Zag.start w1
 go_region_held3 (fun w'=>Zag w1 w') (first|exact kk|exact KS) (first
  | (go_at_call 61;(with_reducible refine(HNW.out _ KS).mono ?_);rintro e w2 ⟨nb,rfl,hnt,hb2⟩;have kk:Zag w1 w2:=KS.call hb2;have HK2:=hid kk;have HNT:=hid hnt;clear hnt hb2))
 have HM2:=hid (HM1.out.below HK2.out.2.2);have HI2:=hid (HI1.out.kept HK2.out.2.2);clear kk KS m3 m11 m10 ml HNW;obtain⟨mic,hmic⟩:∃l,Ztn K t u=l:=⟨_,rfl⟩;obtain⟨nI,hnI⟩:∃k,mic.length=k:=⟨_,rfl⟩;have hn1000:nI<=1000:=by rw[<-hnI,<-hmic];exact Zto HK.out t u
 have HMI:Hid (∀W,Zag w2 W->Calls prog 24 #[.pointer (some ⟨a.smb,0,none⟩),.int .i64 t,.int .i64 K.x,.int .i64 K.pc.m,.int .i64 u,.int .i64 K.pc.mi] W (Zal W 3 1 nI (iv mic))):=hid (fun W kk=>by
  have hm8:=HK.out.pcok.m2;have hx8:=HK.out.xw;have hi20:=HK.out.pcok.i2;have hu:=HU.out;have:=ZkW 0 a.smb K.b K.st K.q K.E K.m K.L W HK.out.smp t K.x K.pc.m u K.pc.mi (HM2.out.fz.here.smp.below kk.2.2) (by omega) (by omega) (by omega) (by omega) (by omega) (by omega) (by omega) (by omega);have e:ZaV (ZaV (Za7 K.L K.m K.b K.q K.st t) K.x K.pc.m) u K.pc.mi=mic:=hmic;rw[e] at this;unfold Zu8 at this;rw[hnI] at this;exact this)
 have HPI:=hid (fun W (kk:Zag w2 W) A cap (r:Rd W 1 A nI (iv mic))=>ZkH a.S A K.m a.cS K.N K.M nI cap mic a.es K.f W hnI (by omega) r (by rw[<-hmic];exact Zrd HK.out t u) HM2.out.fz.here.esl (by have:=HK.out.smp.hn;omega) (Rd.of_own (Zac HM2.out.fz.here.exs kk.2.2)) ((HM2.out.fz.here.exr.below kk.2.2).rd) (by rw[HK.out.hN,szN];have:=(HK.out.net lP HM.out.pin).sz (show 0<K.n by have:=HK.out.n2;omega);unfold szN at this;omega) (by rw[HK.out.hM];have:=(HK.out.net lP HM.out.pin).sz (show K.n-1<K.n by have:=HK.out.n2;omega);omega) HK.out.fl);have HMIC:=hid hmic;have HNI:=hid hnI;clear hmic hnI;have m4:w2.cell? ⟨mb,4,none⟩=some (.slice a.S K.m a.cS):=HM2.out.blk.cell 4;have m5:=cv5 HM2.out.blk;have m0:=cv0 HM2.out.blk;have m1:=cv1 HM2.out.blk;have m2:=cv2 HM2.out.blk;have ml:=HM2.out.blk.lt;have i1:=HI2.out.cell 1;have i2:=HI2.out.cell 2;have il:=HI2.out.lt;have KS:Zag w2 w2.drew:=Zag.start w2;go_wp2_with fail
 go_region_held3 (fun w'=>Zag w2 w') (first|exact k4|exact kk|exact KS) (first
  | (go_at_call 24;(with_reducible refine(HMI.out _ KS).mono ?_);rintro e w3 ⟨A3,c3,rfl,ho3,hb3⟩;have kk:Zag w2 w3:=KS.call hb3;have HO3:=hid (Rd.of_own ho3);clear ho3 hb3)
  | (go_at_call 166;(with_reducible refine(HPI.out _ kk A3 c3 HO3.out).mono ?_);rintro e w4 ⟨B4,c4,l4,hl4,rfl,hr4,hs4,hb4⟩;have k4:Zag w2 w4:=kk.call hb4;have HK4:=hid k4;have HL4:=hid hl4;have HZ4:=hid kk.2.1;have HR4:=hid (Zae hr4 HZ4.out);have HS4:=hid (hs4.base HZ4.out);clear hl4 hr4 hs4 hb4))
 have HM4:=hid (HM2.out.below HK4.out.2.2);have HN4:=hid (HNT.out.below HK4.out.2.2);have HG4:Hid (a.gg<w1.heap.size):=hid (HM1.out.grow.lt _ rfl).2;have HZ12:Hid (w1.heap.size<=w2.heap.size):=hid HK2.out.2.1;clear kk k4 KS m4 m5 m0 m1 m2 ml i1 i2 il HMI HPI;go_wp2_with fail
 go_loopw [71] (fun v wr=>∃i:Nat,i<=nI/\v=.int .i64 i/\wr.ownsRow 0 2 1 (.slice (some ⟨a.gg,0,none⟩) K.NP a.cG) K.NP (iv (ZcP K s.P s.G (mic.take i)))/\But (fun b=>b=a.gg) w4 wr) (fun v _=>nI-(intOf v).toNat)
 case atStart=>exact⟨0,by omega,rfl,HM4.out.grow,But.refl _ _⟩
 case round=>
  obtain⟨i,hi,rfl,hz,hb⟩:=hrel;have hMr:=HM4.out.setG hb hz;have hRr:=Zap HR4.out hb (fun g hg e=>by have h1:=(HR4.out.lt g hg).1;have h2:=HG4.out;have h3:=HZ12.out;omega);have hNr:=HN4.out.but hb (fun i e=>by rw[e];exact HG4.out) hMr.fz.here.shp
  by_cases hir:i<nI
  ·obtain⟨⟨A1,c1,A2,c2⟩,hs4⟩:∃s,l4[i]?=some s:=⟨_,YaA (by rw[HL4.out];exact hir)⟩;obtain⟨xi,hxi⟩:∃x,mic[i]?=some x:=⟨_,YaA (by rw[HNI.out];exact hir)⟩;obtain⟨b5,o5,rfl,l5,q0,q1⟩:=ZgN (Rd.of_own hRr) hs4 hir;dsimp only at q0 q1;obtain⟨hx4,hy4⟩:=HS4.out i _ hs4;have hpk:Zmv K.f mic (i+1)=K.f (xi.toNat+1):=by
    unfold Zmv;rw[Nat.add_sub_cancel,YaT,hxi];rfl
   rw[hpk] at hx4 hy4;have hxin:=Zrd HK.out t u xi (by rw[HMIC.out];exact YaL hxi);obtain⟨fx,fy⟩:=HK.out.fl xi.toNat (by omega);have fi:=HK.out.fi xi.toNat (by omega);have hxr:=Zap hx4 hb (fun g hg e=>by have h1:=(hx4.lt g hg).1;have h2:=HG4.out;have h3:=HZ12.out;omega);have hyr:=Zap hy4 hb (fun g hg e=>by have h1:=(hy4.lt g hg).1;have h2:=HG4.out;have h3:=HZ12.out;omega);have r1:(0:Int)<=(i:Int):=by omega
   have r2:(i:Int)<(nI:Int):=by omega
   have HIR:=hid hir;have HXI:=hid hxi;have HMR:=hid hMr;have HNR:=hid hNr;have HXR:=hid hxr;have HYR:=hid hyr;have HBR:=hid hb;have HZR:=hid hz;have HFX:=hid fx;have HFY:=hid fy;have HFI:=hid fi;clear hMr hRr hNr hz hb hs4 hxi hx4 hy4 hpk hxin fx fy fi hxr hyr hir;go_wp2_with fail;obtain⟨w5,hw5⟩:∃w5,wr.alloc (.cells #[.slice A1 K.N c1,.slice A2 K.M c2] 162)=w5:=⟨_,rfl⟩;have hb5:Below wr.heap.size wr w5:=by rw[<-hw5];exact bA0 _
   rw[hw5];have HB5:=hid hb5;have HM5:=hid (HMR.out.below hb5);have hlx:=HFX.out;have hly:=HFY.out;clear hw5 hb5 q0 q1 l5;((with_reducible refine(Zml nb K.l K.n K.NP s.P K.c.sh (K.f (xi.toNat+1)).1 (K.f (xi.toNat+1)).2 A1 A2 K.N c1 K.M c2 w5 (HK.out.net lP HM.out.pin) (HNR.out.below HB5.out).net hlx (Rd.of_own (Zac HXR.out HB5.out)) HK.out.hN HFI.out hly (Rd.of_own (Zac HYR.out HB5.out)) HK.out.hM.symm).mono ?_);rintro e w6 ⟨B6,c6,rfl,hr6,hb6⟩);have HM6:=hid (HM5.out.below hb6);have HR6:=hid hr6;have HB6:=hid hb6;have HLG:Hid ((ZcP K s.P s.G (mic.take i)).length=K.NP):=hid (by rw[Zcr];exact lG);have HLX:Hid ((exG K s.P xi).length=K.NP):=hid (ZfK (HK.out.net lP HM.out.pin) (by rw[hlx,HK.out.hN]));have HAD:=hid (Zi4 (some ⟨a.gg,0,none⟩) B6 a.gg 0 K.NP a.cG c6 K.NP a.cG 0 (ZcP K s.P s.G (mic.take i)) (exG K s.P xi) w6 (fun _=>rfl) (by omega) (by have:=HK.out.np;omega) HLG.out HLX.out HM6.out.grow (Rd.of_own hr6) (fun b o' e h0 e2=>by
    have h1:=(hr6.lt b (by rw[e];rfl)).1;have h2:=(HM5.out.grow.lt a.gg rfl).2
    omega))
   clear hr6 hb6 hlx hly;have m13:=cv13 HM6.out.blk;have ml:=HM6.out.blk.lt;go_wp2_with fail;((with_reducible refine HAD.out.mono ?_);rintro e w7 ⟨rfl,hz7,hg7⟩);have HZ7:=hid hz7;have HB7:Hid (But (fun b=>b=a.gg) w4 w7):=hid ((HBR.out.call (bT0 HB5.out HB6.out)).trans (But.of_gr hg7 rfl));clear hz7 hg7 m13 ml;go_wp2_with fail
   go_roundw
   case rel=>
    refine⟨i+1,HIR.out,by go_num,?_,HB7.out⟩;have e:mic.take (i+1)=mic.take i++[xi]:=by
     have hlt:i<mic.length:=by rw[HNI.out];exact HIR.out
     rw[Zbd _ _ hlt];have:=HXI.out;rw[YaA hlt] at this;injection this with this
     rw[this]
    rw[e,Zk1];exact HZ7.out
   case measure=>simp[intOf];have:=HIR.out;omega
  ·obtain rfl:i=nI:=by omega
   have HMR:=hid hMr;have HBR:=hid hb;have HBW:Hid (Below w.heap.size w w4):=hid (HB1.out.trans ((HK2.out.2.2.trans (HK4.out.2.2.mono HK2.out.2.1)).mono HB1.out.size));clear hMr hRr hNr hz hb;go_wp2_with fail;go_ret;have e1:Ztn K t u=mic:=HMIC.out;rw[YaX (by rw[HNI.out];exact YaF _)] at HMR;have hg:S a.gg:=HMu.out a.gg (.inr (.inr (.inr (.inl rfl))));refine⟨rfl,⟨F,a,?_,fun i hi=>.inl (HF.out i hi),fun i hi=>.inl (HMu.out i hi)⟩,(But.of_below S HBW.out).trans (HBR.out.mono (fun i _ e=>by rw[e];exact hg))⟩;rw[e1];exact HMR.out
section
variable{F S T:Nat→Prop}{w w':World}{mb:Nat}{K:MC}{s:MS}{a:MA}
theorem ZaQ.setO(h:ZaQ F w mb K s a){opn:List Int}{AO:Option Addr}{cO:Nat}(hb:But (fun i=>i=mb\/ZaX a.AO=some i) w w')(hB:Blk w' mb 121 (ZcC K { s with opn:=opn } { a with AO:=AO,cO:=cO }))
  (hO:w'.ownsRow 0 3 1 (.slice AO opn.length cO) opn.length (iv opn)) (hnew:∀g,ZaX AO=some g->ZaX a.AO=some g\/w.heap.size<=g) (hl:opn.length<=1000000):ZaQ F w' mb K { s with opn:=opn } { a with AO:=AO,cO:=cO }:=by
 refine⟨hB,Hg.imp (h.fz.but hb ?_) (fun W hW=>⟨hW.shp,hW.exs,hW.esl,hW.exr,hW.smp,hW.pln,hW.bks,hW.its,hW.rsl,hW.rsr⟩),
  Zap h.prow hb ?_,Zap h.mrow hb ?_,Zap h.grow hb ?_,Zap h.rrow hb ?_,hO,h.npm,h.npg,h.nmg,?_,fun i hi=>YaK (h.fw i hi) hb.size,h.pin,h.min,h.rl,h.nl,h.il,h.cl,hl⟩
 ·rintro i _ hF (e|e)
  ·exact h.nf i (.inl e) hF
  ·exact h.nf i (.inr (.inr (.inr (.inr (.inr e))))) hF
 ·rintro g e (e1|e1)
  ·exact Zab h.prow h.blk (by decide) (by rw[e,e1])
  ·exact ZaA h.prow h.orow (by decide) g e ((Zaf _ _ _).trans e1)
 ·rintro g e (e1|e1)
  ·exact Zab h.mrow h.blk (by decide) (by rw[e,e1])
  ·exact ZaA h.mrow h.orow (by decide) g e ((Zaf _ _ _).trans e1)
 ·rintro g e (e1|e1)
  ·exact Zab h.grow h.blk (by decide) (by rw[e,e1])
  ·exact ZaA h.grow h.orow (by decide) g e ((Zaf _ _ _).trans e1)
 ·rintro g e (e1|e1)
  ·exact Zab h.rrow h.blk (by decide) (by rw[e,e1])
  ·exact ZaA h.rrow h.orow (by decide) g e ((Zaf _ _ _).trans e1)
 ·rintro i (hi|hi|hi|hi|hi|hi) hF
  ·exact h.nf i (.inl hi) hF
  ·exact h.nf i (.inr (.inl hi)) hF
  ·exact h.nf i (.inr (.inr (.inl hi))) hF
  ·exact h.nf i (.inr (.inr (.inr (.inl hi)))) hF
  ·exact h.nf i (.inr (.inr (.inr (.inr (.inl hi))))) hF
  ·rcases hnew i hi with h1|h1
   ·exact h.nf i (.inr (.inr (.inr (.inr (.inr h1))))) hF
   ·have:=h.fw i hF;omega
theorem ZaQ.setR(h:ZaQ F w mb K s a){x:StS}{AR:Option Addr}{cR:Nat}(hb:But (fun i=>i=mb\/ZaX a.AR=some i) w w')(hB:Blk w' mb 121 (ZcC K { s with rcd:=s.rcd++[(s.P,s.M)] } { a with AR:=AR,cR:=cR,rs:=a.rs++[x] }))
  (hR:w'.ownsRow 0 92 2 (.slice AR (s.rcd++[(s.P,s.M)]).length cR) (s.rcd++[(s.P,s.M)]).length (stv K.NP K.NP (a.rs++[x]))) (hnew:∀g,ZaX AR=some g->ZaX a.AR=some g\/w.heap.size<=g)
  (h1:w'.ownsRow w.heap.size 2 1 (.slice x.1 K.NP x.2.1) K.NP (iv s.P)) (h2:w'.ownsRow w.heap.size 2 1 (.slice x.2.2.1 K.NP x.2.2.2) K.NP (iv s.M)) (hl:s.rcd.length<1000) :
  ZaQ (fun i=>F i\/ZaX x.1=some i\/ZaX x.2.2.1=some i) w' mb K { s with rcd:=s.rcd++[(s.P,s.M)] } { a with AR:=AR,cR:=cR,rs:=a.rs++[x] }:=by
 have hlt1:∀g,ZaX x.1=some g->w.heap.size<=g/\g<w'.heap.size:=fun g hg=>h1.lt g ((Zaf _ _ _).trans hg)
 have hlt2:∀g,ZaX x.2.2.1=some g->w.heap.size<=g/\g<w'.heap.size:=fun g hg=>h2.lt g ((Zaf _ _ _).trans hg)
 have hF0:Hg F w' (fun W=>Zwg W K s a):=h.fz.but hb (by
  rintro i _ hF (e|e)
  ·exact h.nf i (.inl e) hF
  ·exact h.nf i (.inr (.inr (.inr (.inr (.inl e))))) hF)
 have hF1:Hg (fun i=>F i\/ZaX x.1=some i\/ZaX x.2.2.1=some i) w' (fun W=>Zwg W K { s with rcd:=s.rcd++[(s.P,s.M)] } { a with AR:=AR,cR:=cR,rs:=a.rs++[x] }):=by
  refine Hg.imp (((hF0.mono (T:=fun i=>F i\/ZaX x.1=some i\/ZaX x.2.2.1=some i) (fun i _ hi=>.inl hi)).and (Hg.own (S:=fun i=>F i\/ZaX x.1=some i\/ZaX x.2.2.1=some i) h1 (fun g hg=>.inr (.inl ((Zaf _ _ _).symm.trans hg))))).and (Hg.own (S:=fun i=>F i\/ZaX x.1=some i\/ZaX x.2.2.1=some i) h2 (fun g hg=>.inr (.inr ((Zaf _ _ _).symm.trans hg))))) ?_;rintro W ⟨⟨hW,hx1⟩,hx2⟩;refine⟨hW.shp,hW.exs,hW.esl,hW.exr,hW.smp,hW.pln,hW.bks,hW.its,?_,?_⟩
  ·simp[hW.rsl]
  ·have hold:ZcO W 0 K.NP K.NP a.rs (ZjY (s.rcd++[(s.P,s.M)])):=by
    intro i y hy;have hil:i<a.rs.length:=(YaG.1 hy).1;have:=hW.rsr i y hy;rw[hW.rsl] at hil;have e:ZjY (s.rcd++[(s.P,s.M)]) (i+1)=ZjY s.rcd (i+1):=by
     unfold ZjY;rw[Nat.add_sub_cancel,YaT,YaT,YaV hil]
    rw[e];exact this
   have e:ZjY (s.rcd++[(s.P,s.M)]) (a.rs.length+1)=(s.P,s.M):=by
    unfold ZjY;rw[Nat.add_sub_cancel,hW.rsl,YaT,YaU (YaF _),Nat.sub_self];rfl
   have:=hold.snoc (A:=x.1) (B:=x.2.2.1) (c:=x.2.1) (d:=x.2.2.2) (by rw[e];exact Zae hx1 (Nat.zero_le _)) (by rw[e];exact Zae hx2 (Nat.zero_le _));exact this
 refine⟨hB,hF1,Zap h.prow hb ?_,Zap h.mrow hb ?_,Zap h.grow hb ?_,hR,Zap h.orow hb ?_,h.npm,h.npg,h.nmg,?_,?_,h.pin,h.min,by simp;omega,h.nl,h.il,h.cl,h.ol⟩
 ·rintro g e (e1|e1)
  ·exact Zab h.prow h.blk (by decide) (by rw[e,e1])
  ·exact ZaA h.prow h.rrow (by decide) g e ((Zaf _ _ _).trans e1)
 ·rintro g e (e1|e1)
  ·exact Zab h.mrow h.blk (by decide) (by rw[e,e1])
  ·exact ZaA h.mrow h.rrow (by decide) g e ((Zaf _ _ _).trans e1)
 ·rintro g e (e1|e1)
  ·exact Zab h.grow h.blk (by decide) (by rw[e,e1])
  ·exact ZaA h.grow h.rrow (by decide) g e ((Zaf _ _ _).trans e1)
 ·rintro g e (e1|e1)
  ·exact Zab h.orow h.blk (by decide) (by rw[e,e1])
  ·exact ZaA h.orow h.rrow (by decide) g e ((Zaf _ _ _).trans e1)
 ·intro i hi hF;have hlow:Mu mb a i->¬(F i\/ZaX x.1=some i\/ZaX x.2.2.1=some i):=by
   rintro hm (hF|hF|hF)
   ·exact h.nf i hm hF
   ·have:=h.mu_lt hm;have:=(hlt1 i hF).1;omega
   ·have:=h.mu_lt hm;have:=(hlt2 i hF).1;omega
  rcases hi with hi|hi|hi|hi|hi|hi
  ·exact hlow (.inl hi) hF
  ·exact hlow (.inr (.inl hi)) hF
  ·exact hlow (.inr (.inr (.inl hi))) hF
  ·exact hlow (.inr (.inr (.inr (.inl hi)))) hF
  ·rcases hnew i hi with h3|h3
   ·exact hlow (.inr (.inr (.inr (.inr (.inl h3))))) hF
   ·rcases hF with hF|hF|hF
    ·have:=h.fw i hF;omega
    ·exact ZaA hR h1 (by decide) i ((Zaf _ _ _).trans hi) ((Zaf _ _ _).trans hF)
    ·exact ZaA hR h2 (by decide) i ((Zaf _ _ _).trans hi) ((Zaf _ _ _).trans hF)
  ·exact hlow (.inr (.inr (.inr (.inr (.inr hi))))) hF
 ·rintro i (hi|hi|hi)
  ·exact YaK (h.fw i hi) hb.size
  ·exact(hlt1 i hi).2
  ·exact(hlt2 i hi).2
end
theorem ZhJ(S:Nat->Prop)(mb:Nat)(K:MC)(s:MS)(k1 t u:Int)(sd ad:Bool)(j1 j2 j3 j4 j5 j6 j7:Int)(pl pr:Option Addr)(w:World)(h:Zaz S w mb K s)(hl:s.opn.length<1000000) :
  Calls prog 232 #[.pointer (some ⟨mb,0,none⟩),(.agg (Zea k1 t u sd ad j1 j2 j3 j4 j5 j6 j7)),.agg #[.pointer pl,.pointer pr]] w fun e w'=>e=.returned (.int .i64 0)/\Zaz (fun i=>S i\/w.heap.size<=i) w' mb K { s with opn:=s.opn++[u] }/\But S w w':=by
 obtain⟨F,a,hM,hF,hMu⟩:=h;have HM:=hid hM;have HF:=hid hF;have HMu:=hid hMu;clear hM hF hMu
 go_enter func232,ntmps232
 go_wp2_with fail;obtain⟨w1,hw1⟩:∃w1,(w.alloc (.cells (Zea k1 t u sd ad j1 j2 j3 j4 j5 j6 j7) 222)).alloc (.cells #[.pointer pl,.pointer pr] 341)=w1:=⟨_,rfl⟩;have hb1:Below w.heap.size w w1:=by rw[<-hw1];exact(bA0 _).alloc (by simp) _
 have hi1:Blk w1 w.heap.size 222 (Zea k1 t u sd ad j1 j2 j3 j4 j5 j6 j7):=by rw[<-hw1];exact(Blk.new _ _ _).alloc _
 rw[hw1];have HB1:=hid hb1;have HI1:=hid hi1;have HM1:=hid (HM.out.below hb1);clear hw1 hb1 hi1;refine Zad (fun W=>Blk W mb 121 (ZcC K s a)/\Blk W w.heap.size 222 (Zea k1 t u sd ad j1 j2 j3 j4 j5 j6 j7)) [0,1,2,3,4,5,6] [7,8] [9,10,11] (by kernel_rfl) (by kernel_rfl) (⟨HM1.out.blk.drew,HI1.out.drew⟩) ?_;simp only[YaO,YaP,YaB,YaC];refine Zaa (.pointer (some ⟨mb,0,none⟩)) rfl (fun W hW=>?_) ?_
 ·obtain⟨hx,hy⟩:=hW;have x18:=hx.cell 18;have y2:=hy.cell 2;have lx:=hx.lt;have ly:=hy.lt;go_simp
 go_simp;refine Zaa (.pointer (some ⟨mb,0,none⟩)) rfl (fun W hW=>?_) ?_
 ·obtain⟨hx,hy⟩:=hW;have x18:=hx.cell 18;have y2:=hy.cell 2;have lx:=hx.lt;have ly:=hy.lt;go_simp
 go_simp;refine Zaa (.pointer (some ⟨mb,0,none⟩)) rfl (fun W hW=>?_) ?_
 ·obtain⟨hx,hy⟩:=hW;have x18:=hx.cell 18;have y2:=hy.cell 2;have lx:=hx.lt;have ly:=hy.lt;go_simp
 go_simp;refine Zaa (.pointer (some ⟨mb,18,none⟩)) rfl (fun W hW=>?_) ?_
 ·obtain⟨hx,hy⟩:=hW;have x18:=hx.cell 18;have y2:=hy.cell 2;have lx:=hx.lt;have ly:=hy.lt;go_simp
 go_simp;refine Zaa (.slice a.AO s.opn.length a.cO) rfl (fun W hW=>?_) ?_
 ·obtain⟨hx,hy⟩:=hW;have x18:=hx.cell 18;have y2:=hy.cell 2;have lx:=hx.lt;have ly:=hy.lt;go_simp
 go_simp;refine Zaa (.pointer (some ⟨w.heap.size,2,none⟩)) rfl (fun W hW=>?_) ?_
 ·obtain⟨hx,hy⟩:=hW;have x18:=hx.cell 18;have y2:=hy.cell 2;have lx:=hx.lt;have ly:=hy.lt;go_simp
 go_simp;refine Zaa (.int .i64 u) rfl (fun W hW=>?_) ?_
 ·obtain⟨hx,hy⟩:=hW;have x18:=hx.cell 18;have y2:=hy.cell 2;have lx:=hx.lt;have ly:=hy.lt;go_simp
 go_simp;change Zah _ _ _ _ _ (_::_::[]) _ _;unfold Zah;go_wp2_with fail;refine⟨⟨HM1.out.blk.drew.alloc _,HI1.out.drew.alloc _⟩,?_⟩;unfold Zah;change wpList _ _ _ (_::[]) _ (w1.drew.alloc (.cells #[.int .i64 u] 3))
 go_wp2_with (at_builtin;go_must (refine Zaj (w:=w1.drew) Zhr rfl _ _ rfl 0 (.slice a.AO s.opn.length a.cO) s.opn.length (iv s.opn) rfl (show w1.drew.ownsRow 0 3 1 (.slice a.AO s.opn.length a.cO) s.opn.length (iv s.opn) from HM1.out.orow) #[.int .i64 u] w1.drew.heap.size rfl rfl rfl (by intro u hu;simp at hu;subst hu;rfl) (by unfold maxLen;have:=HM.out.ol;omega) (by have:=HM.out.ol;omega) (Nat.zero_le _) ?_);go_must (intro A' c' wa hown' hb' hgr' hat'))
 have hgr:w1.grownBy wa (Value.slice a.AO s.opn.length a.cO).ownBlock:=ZaB ((bR0 w1.heap.size w1).drew) hgr';have HX:=hid (HM1.out.blk.other HM1.out.orow hgr (by decide));have HY:=hid (HI1.out.other HM1.out.orow hgr (by decide));have HO:=hid hown';have HGR:=hid hgr;have HAT:=hid hat';clear hown' hb' hgr' hat' hgr;refine⟨⟨HX.out,HY.out⟩,?_⟩;unfold Zah;change wpList _ _ _ (_::_::_::[]) _ _;have v18:=HX.out.cell 18;have f18:=HX.out.frozen 18;have l18:=HX.out.lt;go_wp2_with fail;refine NoPanic.normal ?_;go_wp2_with fail;go_ret;have hg2:=Zak (p:=⟨mb,18,none⟩) (World.grownBy.refl wa (some mb)) (.inl rfl) (.slice A' (s.opn.length+1) c');have hB2:Blk (wa.setCell ⟨mb,18,none⟩ (.slice A' (s.opn.length+1) c')) mb 121 (ZcC K { s with opn:=s.opn++[u] } { a with AO:=A',cO:=c' }):=by
  have:=HX.out.set_ 18 (.slice A' (s.opn.length+1) c')
  simpa [ZcC] using this
 have hO2:=HO.out.kept hg2 (.inr (Zab HO.out HX.out (by decide)));have hbut:But (fun i=>i=mb\/ZaX a.AO=some i) w1 (wa.setCell ⟨mb,18,none⟩ (.slice A' (s.opn.length+1) c')):=
  (But.of_own (S:=fun i=>i=mb\/ZaX a.AO=some i) HGR.out (fun g hg=>.inr ((Zaf _ _ _).symm.trans hg))).trans (But.of_gr hg2 (.inl rfl))
 have e1:(s.opn++[u]).length=s.opn.length+1:=by simp
 have hm:=HM1.out.setO (opn:=s.opn++[u]) (AO:=A') (cO:=c') hbut hB2 (by rw[e1];simpa [iv] using hO2) (fun g hg=>by
  rcases HAT.out g ((Zaf _ _ _).trans hg) with h1|h1
  ·exact .inl ((Zaf _ _ _).symm.trans h1)
  ·exact .inr (Nat.le_of_lt h1)) (by rw[e1];omega)
 refine⟨rfl,⟨F,_,hm,fun i hi=>.inl (HF.out i hi),fun i hi=>?_⟩,(But.of_below S HB1.out).trans (hbut.mono (fun i _ hi=>?_))⟩
 ·rcases hi with hi|hi|hi|hi|hi|hi
  ·exact .inl (HMu.out i (.inl hi))
  ·exact .inl (HMu.out i (.inr (.inl hi)))
  ·exact .inl (HMu.out i (.inr (.inr (.inl hi))))
  ·exact .inl (HMu.out i (.inr (.inr (.inr (.inl hi)))))
  ·exact .inl (HMu.out i (.inr (.inr (.inr (.inr (.inl hi))))))
  ·rcases HAT.out i ((Zaf _ _ _).trans hi) with h1|h1
   ·exact .inl (HMu.out i (.inr (.inr (.inr (.inr (.inr ((Zaf _ _ _).symm.trans h1)))))))
   ·have h2:w1.heap.size<i:=h1;have:=HB1.out.size;exact .inr (by omega)
 ·rcases hi with hi|hi
  ·exact HMu.out i (.inl hi)
  ·exact HMu.out i (.inr (.inr (.inr (.inr (.inr hi)))))
