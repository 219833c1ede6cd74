/- Lemmas. -/
import Derived.Test.YtkmaeipoaoikpaaGreatEC25
namespace Go.Proofs.YtkmaeipoaoikpaaGreat
set_option linter.all false
set_option maxRecDepth 100000
set_option maxHeartbeats 8000000
open Lib (hid)
open Go.RowKit
open Tryz
abbrev Zt2(I:InC):Value:=inV I.A I.n I.cap I.c I.S I.m I.cS I.AP I.P I.cP I.AD I.D I.cD
abbrev Zsa(I:InC):Array Value:=inC I.A I.n I.cap I.c I.S I.m I.cS I.AP I.P I.cP I.AD I.D I.cD
theorem Zlv(I:InC)(Ap:Option Addr)(NP cp:Nat)(w:World) :
  Calls prog 91 #[Zt2 I,.slice Ap NP cp] w fun e w'=>e=.returned (Zd8 I.A I.n I.cap Ap NP cp I.c.sh)/\Bz0 w w':=by
 have HG:Hid (∀W,(w.alloc (.cells (Zsa I) 29)).alloc (.cells #[.slice none 0 0,.slice none 0 0,.int .i64 0] 202)=W->Below w.heap.size w W/\Blk W w.heap.size 29 (Zsa I)/\Blk W (w.heap.size+1) 202 #[.slice none 0 0,.slice none 0 0,.int .i64 0]):=hid (by
  rintro W rfl;exact⟨(bA0 _).alloc (by simp) _,(Blk.new _ _ _).alloc _,Blk.new' _ _ (by simp)⟩)
 go_enter func91,ntmps91
 go_wp2_with fail;refine bodyPost_ret (results_cell_row rfl _ _ (w.heap.size+1) _ _ (0,0) _ rfl (Blk.new' _ _ (by simp)) underlying202 rfl (by kernel_rfl)) rfl ?_;exact⟨rfl,(bA0 _).alloc (by simp) _⟩
def Zfp(B:Nat)(rn:Value)(sv:Value)(g z:List Int)(j:Nat)(v:Value)(w:World):Prop:=
 (j=3->v=rn)/\(j=16->∃A c,v=.slice A g.length c/\Rd w 1 A g.length (iv g)) /\
 (j=17->∃b A c,v=.slice (some ⟨b,0,none⟩) 2 2/\Rd w 1 (some ⟨b,0,none⟩) 2 [sv,.slice A g.length c]/\Rd w 1 A g.length (iv g)) /\
 ((j=18\/j=19)->∃A c,v=.tuple #[.slice A z.length c,.bool true]/\w.ownsRow B 2 1 (.slice A z.length c) z.length (iv z)) /\
 ((j=20\/j=22)->∃A c,v=.slice A z.length c/\w.ownsRow B 2 1 (.slice A z.length c) z.length (iv z))
theorem Zfp.below{B:Nat}{rn sv:Value}{g z:List Int}{j:Nat}{v:Value}{w w':World}(h:Zfp B rn sv g z j v w)(hb:Below w.heap.size w w'):Zfp B rn sv g z j v w':=by
 obtain⟨h1,h2,h3,h4,h5⟩:=h;refine⟨h1,fun e=>?_,fun e=>?_,fun e=>?_,fun e=>?_⟩
 ·obtain⟨A,c,a,b⟩:=h2 e;exact⟨A,c,a,b.below hb⟩
 ·obtain⟨b,A,c,a1,a2,a3⟩:=h3 e;exact⟨b,A,c,a1,a2.below hb,a3.below hb⟩
 ·obtain⟨A,c,a,b⟩:=h4 e;exact⟨A,c,a,Zac b hb⟩
 ·obtain⟨A,c,a,b⟩:=h5 e;exact⟨A,c,a,Zac b hb⟩
section
variable{B:Nat}{rn sv:Value}{g z:List Int}{w:World}
theorem Zfp.m3:Zfp B rn sv g z 3 rn w:=⟨fun _=>rfl,fun e=>(by cases e),fun e=>(by cases e),fun e=>by omega,fun e=>by omega⟩
theorem Zfp.m16{A:Option Addr}{c:Nat}(h:Rd w 1 A g.length (iv g)):Zfp B rn sv g z 16 (.slice A g.length c) w:=⟨fun e=>(by cases e),fun _=>⟨A,c,rfl,h⟩,fun e=>(by cases e),fun e=>by omega,fun e=>by omega⟩
theorem Zfp.m17{b:Nat}{A:Option Addr}{c:Nat}(h:Rd w 1 (some ⟨b,0,none⟩) 2 [sv,.slice A g.length c])(h2:Rd w 1 A g.length (iv g)):Zfp B rn sv g z 17 (.slice (some ⟨b,0,none⟩) 2 2) w:=⟨fun e=>(by cases e),fun e=>(by cases e),fun _=>⟨b,A,c,rfl,h,h2⟩,fun e=>by omega,fun e=>by omega⟩
theorem Zfp.m18{A:Option Addr}{c:Nat}(h:w.ownsRow B 2 1 (.slice A z.length c) z.length (iv z)):Zfp B rn sv g z 18 (.tuple #[.slice A z.length c,.bool true]) w:=⟨fun e=>(by cases e),fun e=>(by cases e),fun e=>(by cases e),fun _=>⟨A,c,rfl,h⟩,fun e=>by omega⟩
theorem Zfp.m19{A:Option Addr}{c:Nat}(h:w.ownsRow B 2 1 (.slice A z.length c) z.length (iv z)):Zfp B rn sv g z 19 (.tuple #[.slice A z.length c,.bool true]) w:=⟨fun e=>(by cases e),fun e=>(by cases e),fun e=>(by cases e),fun _=>⟨A,c,rfl,h⟩,fun e=>by omega⟩
theorem Zfp.m20{A:Option Addr}{c:Nat}(h:w.ownsRow B 2 1 (.slice A z.length c) z.length (iv z)):Zfp B rn sv g z 20 (.slice A z.length c) w:=⟨fun e=>(by cases e),fun e=>(by cases e),fun e=>(by cases e),fun e=>by omega,fun _=>⟨A,c,rfl,h⟩⟩
theorem Zfp.m22{A:Option Addr}{c:Nat}(h:w.ownsRow B 2 1 (.slice A z.length c) z.length (iv z)):Zfp B rn sv g z 22 (.slice A z.length c) w:=⟨fun e=>(by cases e),fun e=>(by cases e),fun e=>(by cases e),fun e=>by omega,fun _=>⟨A,c,rfl,h⟩⟩
theorem Zfp.m21{v:Value}:Zfp B rn sv g z 21 v w:=⟨fun e=>(by cases e),fun e=>(by cases e),fun e=>(by cases e),fun e=>by omega,fun e=>by omega⟩
end
theorem Znb{K:MC}{P G:List Int}(h:Zaw G)(l:List Int):Zaw (ZcG K P G l):=by
 induction l generalizing G with
 |nil=>exact h
 |cons i l ih=>
  rw[ZcG,List.foldl_cons];refine ih (G:=ZbM G 0 (exG K P i) K.NP) (fun v hv=>?_);obtain⟨j,hj⟩:=List.getElem?_of_mem hv;rw[Zbj] at hj;obtain⟨u,hu,rfl⟩:=Option.map_eq_some_iff.1 hj
  split
  ·exact Za0 _
  ·exact h u (YaL hu)
theorem ZvP{w:World}{b:Nat}{t:TypeId}{x y:Value}(h:Blk w b t #[x,y]):Rd w 1 (some ⟨b,0,none⟩) 2 [x,y]:=⟨rfl,fun _=>⟨b,0,rfl,h.lt,fun j u hu=>by
 rw[Nat.zero_add,h.cell]
 simpa using hu⟩⟩
theorem ZjW(I:InC)(Ap:Option Addr)(cp:Nat)(Ps:List Int)(X:Option Addr)(nI cX:Nat)(mic:List Int)(w:World)(hI:ZmG w I)(hO:I.Ok)(hpl:Ps.length=I.P)(hpi:Zaw Ps)(hrp:Rd w 1 Ap I.P (iv Ps))(hml:mic.length=nI)(hn:nI<=1000)(hx:Rd w 1 X nI (iv mic))(hin:∀x∈mic,0<=x/\x<(I.m:Int)) :
  Calls prog 26 #[Zt2 I,.slice Ap I.P cp,.slice X nI cX] w fun e w'=>∃A c,e=.returned (.tuple #[.slice A I.P c,.bool true])/\w'.ownsRow w.heap.size 2 1 (.slice A I.P c) I.P (iv (ZcG (I.mc 0) Ps (Zas I.P) mic))/\Bz0 w w':=by
 have hK:=hO.mc (x:=0) (by have:=hO.nums.wk;omega);have hNP:=hK.net hpl hpi;have hP1:I.P<=60:=hO.P60;have HG:Hid (∀W,w.alloc (.cells (Zsa I) 29)=W->Below w.heap.size w W/\Blk W w.heap.size 29 (Zsa I)):=hid (by
  rintro W rfl;exact⟨bA0 _,Blk.new _ _ _⟩)
 have HI:=hid hI;have HO:=hid hO;have HK:=hid hK;have HN:=hid hNP;have HPI:=hid hpi;have HRP:=hid hrp;have HML:=hid hml;have HX:=hid hx;have HIN:=hid hin;have m60:=hO.m60;clear hI hO hK hNP hpi hpl hrp hml hx hin;have hmk:=fun W=>run_make_row' (P:=prog) 26 2 (.int .i64 0) 8 underlying26 ZeQ.info rfl .i64 .i64 I.P (by omega) (by omega) W
 go_enter func26,ntmps26
 go_wp2_with fail;obtain⟨w0,hw0⟩:∃w0,w.alloc (.cells (Zsa I) 29)=w0:=⟨_,rfl⟩;obtain⟨hB,hI⟩:=HG.out _ hw0;have hs0:w0.heap.size=w.heap.size+1:=by rw[<-hw0];simp
 rw[hw0];obtain⟨w1,hw1⟩:∃w1,w0.alloc (.cells (madeCells #[Value.int .i64 0] I.P) 2)=w1:=⟨_,rfl⟩;have hb1:Below w0.heap.size w0 w1:=by rw[<-hw1];exact bA0 _
 have ho1:w1.ownsRow w.heap.size 2 1 (.slice (some ⟨w0.heap.size,0,none⟩) I.P I.P) I.P (iv (Zas I.P)):=by rw[<-hw1];exact Zgn w0 I.P w0.heap.size _ _ rfl (by omega) (by omega)
 rw[hw1];have HB1:=hid (bT0 hB hb1);have HI1:=hid (hI.kept hb1);have HO1:=hid ho1;rw[hs0] at HO1;clear hmk hw0 hw1 hB hI hb1 ho1 HG hs0
 go_loopw [8,9] (fun o v wr=>∃(i:Nat) (A:Option Addr) (c:Nat),i<=nI/\v=.int .i64 i/\o=.slice A I.P c/\wr.ownsRow w.heap.size 2 1 (.slice A I.P c) I.P (iv (ZcG (I.mc 0) Ps (Zas I.P) (mic.take i)))/\Bz0 w wr/\Blk wr w.heap.size 29 (Zsa I)) (fun _ v _=>nI-(intOf v).toNat)
 case atStart=>exact⟨0,_,_,by omega,rfl,rfl,HO1.out,HB1.out,HI1.out⟩
 case round=>
  obtain⟨i,A,c,hi,rfl,rfl,ho,hb,hin⟩:=hrel
  by_cases hlt:i<nI
  ·obtain⟨xi,hxi⟩:∃x,mic[i]?=some x:=⟨_,YaA (by rw[HML.out];exact hlt)⟩;obtain⟨gx,ox,rfl,xl,xc⟩:=Zhh (HX.out.below hb) hlt;have hxd:mic.getD i 0=xi:=by rw[YaT,hxi];rfl
   rw[hxd] at xc;obtain⟨p0,p1⟩:=HIN.out xi (YaL hxi);obtain⟨k,rfl⟩:∃k:Nat,xi=k:=⟨xi.toNat,by omega⟩;have hkm:k<I.m:=by omega
   have hIr:=HI.out.below hb;obtain⟨⟨A1,c1,A2,c2⟩,hs⟩:∃s,I.es[k]?=some s:=⟨_,YaA (by rw[HI.out.el];exact hkm)⟩;obtain⟨b5,o5,hbS,l5,q0,q1⟩:=ZgV hIr.re hs hkm;dsimp only at q0 q1;obtain⟨r1,r2⟩:=hIr.rs k _ hs;dsimp only at r1 r2;obtain⟨fx,fy⟩:=HO.out.fl k hkm;have fi:=HO.out.fi k hkm;obtain⟨g,hg⟩:∃g,exG (I.mc 0) Ps (k:Int)=g:=⟨_,rfl⟩;have hgg:Zls I.l I.n Ps I.c.sh (I.f (k+1)).1 (I.f (k+1)).2=g:=by
    rw[<-hg,exG,Int.toNat_natCast];exact Zt1 HN.out (by rw[fx,HO.out.hN];rfl)
   have hgl:g.length=I.P:=by rw[<-hg];exact ZfS HN.out (by rw[Int.toNat_natCast];exact fx.trans HO.out.hN)
   have hgi:Zaw g:=by rw[<-hg];exact Ztf (by rw[Int.toNat_natCast];exact fi)
   obtain⟨a,ha⟩:∃a,ZcG (I.mc 0) Ps (Zas I.P) (mic.take i)=a:=⟨_,rfl⟩;rw[ha] at ho;have hal:a.length=I.P:=by rw[<-ha,Zct];simp
   have HACC:Hid (ZcG (I.mc 0) Ps (Zas I.P) (mic.take (i+1))=addL a g):=hid (by
    rw[List.take_add_one,hxi,Option.toList_some,Zk4,ha,hg];exact Zp7 a g _ hal)
   have hgr:=fun W (kk:Zag wr W)=>Zna I.A I.n I.cap I.l Ap I.P cp Ps I.c.sh W I.N c1 I.M c2 A1 A2 (I.f (k+1)).1 (I.f (k+1)).2 ⟨HN.out,hIr.rl.below kk.2.2,HI.out.cap,(HRP.out.below hb).below kk.2.2⟩ HO.out.hN fx (r1.below kk.2.2) fi HO.out.hM (r2.below kk.2.2)
   rw[hgg] at hgr;have HGR:=hid hgr;have HO2:=hid ho;have HB2:=hid hb;have HI2:=hid hin;have HGL:=hid hgl;have HGI:=hid hgi;have HAL:=hid hal;have HAI:Hid (Zaw a):=hid (by
    rw[<-ha];exact Znb (by intro x hx;simp at hx;obtain⟨_,rfl⟩:=hx;exact⟨by decide,by decide⟩) _)
   have HLT:=hid hlt;have y12:=cv12 hin;have yl:=hin.lt;have d1:decide ((k:Int)<0)=false:=YaI (by omega);have d2:decide ((I.m:Int)<=(k:Int))=false:=YaI (by omega);have r3:(i:Int)<(nI:Int):=by omega
   clear ho hb hin hxi hxd hs r1 r2 fx fy fi hg hgg hgl hgi ha hal hgr hIr hlt p0 p1;go_wp2_with fail;refine ZaZ (Zag wr) (Zfp w.heap.size (Zd8 I.A I.n I.cap Ap I.P cp I.c.sh) (.slice A I.P c) g (addL a g)) (fun _ _ _ _=>True) [0,1,2,4,5,6,7,8,9,10,11,12,13,14,15] [3,16,17,18,19,20,21,22] [] (by kernel_rfl) (by kernel_rfl) (Zag.start wr) (fun _ _ _ _ h=>h) (fun _ _ _ _ h hb=>h.below hb) ?_;simp only[YaO,YaP,YaB,YaC];obtain⟨y0,y1,y2,y3,y4,y5,y6,y7,y8,y9,y10,y11⟩:=cl12 HI2.out;have y13:=cv13 HI2.out;have y14:=cv14 HI2.out;refine Zaa (.slice A I.P c) rfl (fun W hW=>?_) ?_
   ·obtain⟨hc,-,-⟩:=hW;go_simp
   go_simp;refine Zaa (Zt2 I) rfl (fun W hW=>?_) ?_
   ·obtain⟨hc,-,-⟩:=hW;go_simp
   go_simp;refine Zaa (.slice Ap I.P cp) rfl (fun W hW=>?_) ?_
   ·obtain⟨hc,-,-⟩:=hW;go_simp
   go_simp;refine Zaa (.pointer (some ⟨w.heap.size,12,none⟩)) rfl (fun W hW=>?_) ?_
   ·obtain⟨hc,-,-⟩:=hW;go_simp
   go_simp;refine Zaa (.slice (some ⟨b5,o5,none⟩) I.m I.cS) rfl (fun W hW=>?_) ?_
   ·obtain⟨hc,-,-⟩:=hW;go_simp
   go_simp;refine Zaa (.int .i64 k) rfl (fun W hW=>?_) ?_
   ·obtain⟨hc,-,-⟩:=hW;go_simp
   go_simp;refine Zaa (.pointer (some ⟨b5,o5+k*2,none⟩)) rfl (fun W hW=>?_) ?_
   ·obtain⟨hc,-,-⟩:=hW;go_simp
   go_simp;refine Zaa (.pointer (some ⟨b5,o5+k*2,none⟩)) rfl (fun W hW=>?_) ?_
   ·obtain⟨hc,-,-⟩:=hW;go_simp
   go_simp;refine Zaa (.slice A1 I.N c1) rfl (fun W hW=>?_) ?_
   ·obtain⟨hc,-,-⟩:=hW;go_simp
   go_simp;refine Zaa (.pointer (some ⟨w.heap.size,12,none⟩)) rfl (fun W hW=>?_) ?_
   ·obtain⟨hc,-,-⟩:=hW;go_simp
   go_simp;refine Zaa (.slice (some ⟨b5,o5,none⟩) I.m I.cS) rfl (fun W hW=>?_) ?_
   ·obtain⟨hc,-,-⟩:=hW;go_simp
   go_simp;refine Zaa (.int .i64 k) rfl (fun W hW=>?_) ?_
   ·obtain⟨hc,-,-⟩:=hW;go_simp
   go_simp;refine Zaa (.pointer (some ⟨b5,o5+k*2,none⟩)) rfl (fun W hW=>?_) ?_
   ·obtain⟨hc,-,-⟩:=hW;go_simp
   go_simp;refine Zaa (.pointer (some ⟨b5,o5+k*2+1,none⟩)) rfl (fun W hW=>?_) ?_
   ·obtain⟨hc,-,-⟩:=hW;go_simp
   go_simp;refine Zaa (.slice A2 I.M c2) rfl (fun W hW=>?_) ?_
   ·obtain⟨hc,-,-⟩:=hW;go_simp
   go_simp;refine Zen.mk ?_ ?_
   ·intro j8 hj8 o ho8 vs W hS hV;simp only[List.mem_cons,List.not_mem_nil,or_false] at hj8;have HS:=hid hS;have HV:=hid hV;have HBW:=hid (bT0 HB2.out hS.2.2);clear hS hV
    rcases hj8 with rfl|rfl|rfl|rfl|rfl|rfl|rfl|rfl
    ·cases ho8
     unfold Zbo;simp only[ZaL,ZaT,YaD,YaB,YaC,YaE];change wpList _ _ _ (_::[]) _ _;go_wp2_with fail;((with_reducible refine(Zlv I Ap I.P cp W).mono ?_);rintro e w8 ⟨rfl,hb8⟩);go_wp2_with fail;exact⟨HS.out.call hb8,Zfp.m3⟩
    ·have v3:=(HV.out 3 (by simp) (by kernel_rfl)).1 rfl
     cases ho8
     unfold Zbo;simp only[ZaL,ZaT,YaD,YaB,YaC,YaE];rw[v3];change wpList _ _ _ (_::[]) _ _;go_wp2_with fail;((with_reducible refine(HGR.out W HS.out).mono ?_);rintro e w8 ⟨A8,c8,rfl,ho8,hb8⟩);have hr8:Rd w8 1 A8 g.length (iv g):=by rw[HGL.out];exact Rd.of_own ho8
     have HR8:=hid hr8;have HGL2:=HGL.out;clear hr8 ho8;go_wp2_with fail;have h16:=Zfp.m16 (B:=w.heap.size) (rn:=Zd8 I.A I.n I.cap Ap I.P cp I.c.sh) (sv:=.slice A I.P c) (z:=addL a g) (c:=c8) HR8.out;rw[HGL.out] at h16;exact⟨HS.out.call hb8,h16⟩
    ·obtain⟨A8,c8,v16,r16⟩:=(HV.out 16 (by simp) (by kernel_rfl)).2.1 rfl;have R16:=hid r16
     cases ho8
     unfold Zbo;simp only[ZaL,ZaT,YaD,YaB,YaC,YaE];rw[v16];clear r16;change wpList _ _ _ (_::[]) _ _;go_wp2_with fail;exact⟨HS.out.alloc _,Zfp.m17 (ZvP (Blk.new _ _ _)) (R16.out.below (bA0 _)),bA0 _⟩
    ·obtain⟨b8,A8,c8,v17,r17,r16⟩:=(HV.out 17 (by simp) (by kernel_rfl)).2.2.1 rfl;have R17:=hid r17;have R16:=hid r16
     cases ho8
     unfold Zbo;simp only[ZaL,ZaT,YaD,YaB,YaC,YaE];rw[v17];clear r16 r17;have hsl:Zv9 [a,g]=some (addL a g):=by
      rw[Zv9,ZbO,if_pos (by rw[HGL.out,HAL.out]),ZbO]
     have hsr:=Zac HO2.out HS.out.2.2;have C:=Zov (some ⟨b8,0,none⟩) 2 2 [(A,I.P,c),(A8,g.length,c8)] [a,g] W rfl (by omega) (by omega) R17.out ⟨rfl,fun i s z h1 h2=>by
      rcases i with _|_|i
      ·obtain rfl:(A,I.P,c)=s:=by simpa using h1
       obtain rfl:a=z:=by simpa using h2
       exact⟨HAL.out,Rd.of_own hsr⟩
      ·obtain rfl:(A8,g.length,c8)=s:=by simpa using h1
       obtain rfl:g=z:=by simpa using h2
       exact⟨rfl,R16.out⟩
      ·simp at h1⟩ (fun z hz=>by
       simp at hz
       rcases hz with rfl|rfl
       ·rw[HAL.out];omega
       ·rw[HGL.out];omega) (fun z hz x hx=>by
       simp at hz
       rcases hz with rfl|rfl
       ·exact HAI.out x hx
       ·exact HGI.out x hx)
     rw[hsl] at C;have HC:=hid C;clear C hsl hsr;change wpList _ _ _ (_::[]) _ _;go_wp2_with fail;((with_reducible refine HC.out.mono ?_);rintro e w8 ⟨A9,c9,rfl,ho9,hb9⟩);have HO9:=hid (Zae ho9 HBW.out.size);clear ho9;go_wp2_with fail;exact⟨HS.out.call hb9,Zfp.m18 HO9.out⟩
    ·obtain⟨A9,c9,v18,r18⟩:=(HV.out 18 (by simp) (by kernel_rfl)).2.2.2.1 (.inl rfl);have R18:=hid r18
     cases ho8
     unfold Zbo;simp only[ZaL,ZaT,YaD,YaB,YaC,YaE];rw[v18];clear r18;change wpList _ _ _ (_::[]) _ _;go_wp2_with fail;exact⟨HS.out,Zfp.m19 R18.out,bR0 _ _⟩
    ·obtain⟨A9,c9,v18,r18⟩:=(HV.out 19 (by simp) (by kernel_rfl)).2.2.2.1 (.inr rfl);have R18:=hid r18
     cases ho8
     unfold Zbo;simp only[ZaL,ZaT,YaD,YaB,YaC,YaE];rw[v18];clear r18;change wpList _ _ _ (_::[]) _ _;go_wp2_with fail;exact⟨HS.out,Zfp.m20 R18.out,bR0 _ _⟩
    ·obtain⟨A9,c9,v18,r18⟩:=(HV.out 19 (by simp) (by kernel_rfl)).2.2.2.1 (.inr rfl)
     cases ho8
     unfold Zbo;simp only[ZaL,ZaT,YaD,YaB,YaC,YaE];rw[v18];clear r18;change wpList _ _ _ (_::[]) _ _;go_wp2_with fail;exact⟨HS.out,Zfp.m21,bR0 _ _⟩
    ·obtain⟨A9,c9,v20,r20⟩:=(HV.out 20 (by simp) (by kernel_rfl)).2.2.2.2 (.inl rfl);have R20:=hid r20
     cases ho8
     unfold Zbo;simp only[ZaL,ZaT,YaD,YaB,YaC,YaE];rw[v20];clear r20;change wpList _ _ _ (_::[]) _ _;go_wp2_with fail;exact⟨HS.out,Zfp.m22 R20.out,bR0 _ _⟩
   ·intro vs W hS hV hR;obtain⟨A9,c9,v20,r20⟩:=(hV 22 (by simp)).2.2.2.2 (.inr rfl);simp only[ZaL,ZaT,YaO,YaP,YaD,YaB,YaC,YaE];rw[v20];have hal2:(addL a g).length=I.P:=by rw[ZgE,HAL.out]
    rw[hal2] at r20 ⊢;have HO9:=hid r20;have HB9:=hid (bT0 HB2.out hS.2.2);have HI9:=hid (HI2.out.kept hS.2.2);clear hS hV hR v20 r20;unfold wpList;refine NoPanic.normal ?_;go_wp2_with fail
    go_roundw
    case rel=>exact⟨i+1,A9,c9,HLT.out,by go_num,rfl,by rw[HACC.out];exact HO9.out,HB9.out,HI9.out⟩
    case measure=>simp[intOf];have:=HLT.out;omega
  ·obtain rfl:i=nI:=by omega
   rw[YaX (by rw[HML.out];exact YaF _)] at ho;have HO2:=hid ho;have HB2:=hid hb;clear ho hb hin;go_wp2_with fail
   go_ret2
   exact⟨A,c,rfl,HO2.out,HB2.out⟩
theorem Zw3(w:World)(t:TypeId)(vs:Array Value)(size n:Nat)(hl:vs.toList.length=n*size):Rd (w.alloc (.cells vs t)) size (some ⟨w.heap.size,0,none⟩) n vs.toList:=by
 refine⟨hl,fun hn=>⟨_,0,rfl,by simp,fun j u hu=>?_⟩⟩;rw[Nat.zero_add,(Blk.new w t vs).cell j]
 simpa using hu
def ZvQ:Cfg:={ sh:=1,ra:=1,mo:=1,wk:=2,ba:=2,mi:=1,st:=1,bu:=2,ch:=1,wi:=1,ca:=1 }
def smF:Nat->List Int×List Int:=fun i=>[([2],[6]),([4],[2])].getD (i-1) ([],[])
def smI(A:Option Addr)(cap:Nat)(S:Option Addr)(cS:Nat)(es:List StS)(AP:Option Addr)(cP:Nat)(AD:Option Addr)(cD:Nat):InC:=
 { A:=A,n:=2,cap:=cap,l:=[1,1],c:=ZvQ,S:=S,m:=2,cS:=cS,es:=es,N:=1,M:=1,f:=smF,AP:=AP,P:=2,cP:=cP,P0:=[4,2],AD:=AD,D:=2,cD:=cD,L:=[1,0] }
theorem ZfI{W:World}{g:Nat}{t:TypeId}{vs:Array Value}{size n:Nat}{xs:List Value}(h:W.heap.size=g)(hx:vs.toList=xs)(hl:xs.length=n*size):Rd (W.alloc (.cells vs t)) size (some ⟨g,0,none⟩) n xs:=by
 subst h hx;exact Zw3 W t vs size n hl
def Zt3(w:World)(e:Ending)(w':World):Prop:=∃A cap S cS es AP cP AD cD,e=.returned (inV A 2 cap ZvQ S 2 cS AP 2 cP AD 2 cD)/\es.length=2/\ZmG w' (smI A cap S cS es AP cP AD cD)/\Bz0 w w'
theorem Zsb(w:World):Calls prog 31 #[] w (Zt3 w):=by
 go_enter func31,ntmps31
 go_wp2_with fail
 (try simp only[Exit.inBlock,Exit.then])
 refine bodyPost_ret (results_cell_row rfl _ _ w.heap.size _ _ (0,0) _ rfl (Blk.alloc (Blk.alloc (Blk.alloc (Blk.alloc (Blk.alloc (Blk.alloc (Blk.alloc (Blk.alloc (Blk.alloc (Blk.new _ _ _) _) _) _) _) _) _) _) _) _) underlying29 rfl (by kernel_rfl)) rfl ?_;refine⟨some ⟨w.heap.size+1,0,none⟩,2,some ⟨w.heap.size+1+1+1+1+1+1+1,0,none⟩,2,[(some ⟨w.heap.size+1+1+1,0,none⟩,1,some ⟨w.heap.size+1+1+1+1,0,none⟩,1),(some ⟨w.heap.size+1+1+1+1+1,0,none⟩,1,some ⟨w.heap.size+1+1+1+1+1+1,0,none⟩,1)],some ⟨w.heap.size+1+1+1+1+1+1+1+1,0,none⟩,2,some ⟨w.heap.size+1+1+1+1+1+1+1+1+1,0,none⟩,2,rfl,rfl,⟨rfl,?_,(by decide:(2:Nat)<=2),rfl,?_,?_,rfl,?_,rfl,?_⟩,?_⟩
 ·repeat' first|(refine ZfI ?_ rfl rfl;(simp;done))|refine Rd.alloc ?_ _
 ·repeat' first|(refine ZfI ?_ rfl rfl;(simp;done))|refine Rd.alloc ?_ _
 ·intro i s hs
  match i,hs with
  |0,hs=>
   injection hs with hs
   subst hs;refine⟨?_,?_⟩<;>repeat' first|(refine ZfI ?_ rfl rfl;(simp;done))|refine Rd.alloc ?_ _
  |1,hs=>
   injection hs with hs
   subst hs;refine⟨?_,?_⟩<;>repeat' first|(refine ZfI ?_ rfl rfl;(simp;done))|refine Rd.alloc ?_ _
  |i+2,hs=>simp[smI] at hs
 ·repeat' first|(refine ZfI ?_ rfl rfl;(simp;done))|refine Rd.alloc ?_ _
 ·repeat' first|(refine ZfI ?_ rfl rfl;(simp;done))|refine Rd.alloc ?_ _
 ·repeat' first|exact bR0 _ _|refine Below.alloc ?_ (by simp<;>omega) _
theorem Zw4(A:Option Addr)(cap:Nat)(S:Option Addr)(cS:Nat)(es:List StS)(AP:Option Addr)(cP:Nat)(AD:Option Addr)(cD:Nat)(h:es.length=2):(smI A cap S cS es AP cP AD cD).Ok:=by
 obtain⟨⟨A1,c1,B1,d1⟩,⟨A2,c2,B2,d2⟩,rfl⟩:∃a b,es=[a,b]:=by
  match es,h with
  |[a,b],_=>exact⟨a,b,rfl⟩
 refine⟨by kernel_rfl,rfl,rfl,rfl,by kernel_rfl,by kernel_rfl,?_,?_,(by decide:(2:Nat)<=60),(by decide:(1:Int)<=12),(by decide:(2:Nat)<=60),(by decide:(2:Int)<=8),(by decide:(1:Int)<=20),(by decide:(2:Nat)<=4000),?_,?_,(by decide:In1 1),(by decide:In1 1)⟩
 ·intro i hi
  match i,hi with
  |0,_=>exact⟨rfl,rfl⟩
  |1,_=>exact⟨rfl,rfl⟩
  |i+2,hi=>exact absurd hi (by show ¬i+2<2;omega)
 ·intro i hi
  match i,hi with
  |0,_=>intro x hx;simp[smI,smF] at hx;subst hx;decide
  |1,_=>intro x hx;simp[smI,smF] at hx;subst hx;decide
  |i+2,hi=>exact absurd hi (by show ¬i+2<2;omega)
 ·intro x hx;simp[smI] at hx
  rcases hx with rfl|rfl<;>decide
 ·intro x hx;simp[smI] at hx
  rcases hx with rfl|rfl<;>decide
def sm0:InC:=smI none 0 none 0 [] none 0 none 0
def Zc8:List ZaB:=[((1,(0,0)),((false,false),((0,(0,(0,(0,0)))),(0,0)))),((2,(0,0)),((false,false),((0,(0,(0,(0,0)))),(0,0)))),((3,(0,0)),((true,false),((0,(0,(0,(0,0)))),(0,1)))),((4,(0,0)),((false,true),((0,(0,(0,(0,0)))),(1,2)))),((3,(0,0)),((true,false),((0,(0,(1,(0,0)))),(1,2)))),((4,(0,0)),((false,false),((0,(0,(1,(0,0)))),(0,1)))),((5,(0,0)),((false,false),((0,(0,(0,(0,0)))),(0,0)))),((6,(0,0)),((false,false),((0,(0,(0,(0,0)))),(0,0))))]
def ZcR:List ZaB:=[((1,(0,0)),((false,false),((0,(0,(0,(0,0)))),(0,0)))),((2,(0,0)),((false,false),((0,(0,(0,(0,0)))),(0,0)))),((3,(0,0)),((true,false),((0,(0,(0,(0,0)))),(1,2)))),((4,(0,0)),((false,true),((0,(0,(0,(0,0)))),(0,1)))),((3,(0,0)),((true,false),((0,(0,(1,(0,0)))),(0,1)))),((4,(0,0)),((false,false),((0,(0,(1,(0,0)))),(1,2)))),((5,(0,0)),((false,false),((0,(0,(0,(0,0)))),(0,0)))),((6,(0,0)),((false,false),((0,(0,(0,(0,0)))),(0,0))))]
def smW:Nat->WS
 |0=>⟨[⟨[4,2],[0,0],[0,0],[([4,2],[0,0])],Zc8,0,0,[]⟩,⟨[4,2],[0,0],[0,0],[([4,2],[0,0])],ZcR,0,0,[]⟩],[⟨0,0,[]⟩,⟨0,0,[]⟩],0⟩
 |1=>⟨[⟨[4,2],[0,0],[0,0],[([4,2],[0,0])],Zc8,1,1,[]⟩,⟨[4,2],[0,0],[0,0],[([4,2],[0,0])],ZcR,0,0,[]⟩],[⟨0,0,[]⟩,⟨0,0,[]⟩],1⟩
 |2=>⟨[⟨[4,2],[0,0],[0,0],[([4,2],[0,0])],Zc8,1,1,[]⟩,⟨[4,2],[0,0],[16,8],[([4,2],[0,0])],ZcR,1,1,[]⟩],[⟨0,0,[]⟩,⟨0,0,[]⟩],2⟩
 |3=>⟨[⟨[4,2],[0,0],[0,0],[([4,2],[0,0])],Zc8,2,2,[0]⟩,⟨[4,2],[0,0],[16,8],[([4,2],[0,0])],ZcR,1,1,[]⟩],[⟨0,0,[]⟩,⟨0,0,[]⟩],3⟩
 |4=>⟨[⟨[4,2],[0,0],[0,0],[([4,2],[0,0])],Zc8,2,2,[0]⟩,⟨[4,2],[0,0],[16,8],[([4,2],[0,0])],ZcR,2,2,[0]⟩],[⟨0,0,[]⟩,⟨0,0,[]⟩],4⟩
 |5=>⟨[⟨[4,2],[0,0],[0,0],[([4,2],[0,0])],Zc8,3,3,[0]⟩,⟨[4,2],[0,0],[16,8],[([4,2],[0,0])],ZcR,2,2,[0]⟩],[⟨1,0,[((0,(0,(0,(0,0)))),[0])]⟩,⟨0,0,[]⟩],5⟩
 |6=>⟨[⟨[4,2],[0,0],[0,0],[([4,2],[0,0])],Zc8,3,3,[0]⟩,⟨[4,2],[0,0],[16,8],[([4,2],[0,0])],ZcR,3,3,[0]⟩],[⟨1,0,[((0,(0,(0,(0,0)))),[0])]⟩,⟨1,0,[((0,(0,(0,(0,0)))),[8])]⟩],6⟩
 |7=>⟨[⟨[4,2],[0,0],[0,8],[([4,2],[0,0])],Zc8,4,4,[0]⟩,⟨[4,2],[0,0],[16,8],[([4,2],[0,0])],ZcR,3,3,[0]⟩],[⟨1,0,[((0,(0,(0,(0,0)))),[0])]⟩,⟨1,1,[]⟩],7⟩
 |8=>⟨[⟨[4,2],[0,0],[0,8],[([4,2],[0,0])],Zc8,4,4,[0]⟩,⟨[4,2],[0,0],[16,8],[([4,2],[0,0])],ZcR,4,4,[0]⟩],[⟨1,1,[]⟩,⟨1,1,[]⟩],8⟩
 |9=>⟨[⟨[4,2],[0,0],[0,8],[([4,2],[0,0])],Zc8,5,5,[0]⟩,⟨[4,2],[0,0],[16,8],[([4,2],[0,0])],ZcR,4,4,[0]⟩],[⟨2,1,[((0,(0,(1,(0,0)))),[8])]⟩,⟨1,1,[]⟩],9⟩
 |10=>⟨[⟨[4,2],[0,0],[0,8],[([4,2],[0,0])],Zc8,5,5,[0]⟩,⟨[4,2],[0,0],[16,8],[([4,2],[0,0])],ZcR,5,5,[0]⟩],[⟨2,1,[((0,(0,(1,(0,0)))),[8])]⟩,⟨2,1,[((0,(0,(1,(0,0)))),[16])]⟩],10⟩
 |11=>⟨[⟨[4,2],[0,0],[16,8],[([4,2],[0,0])],Zc8,6,6,[0]⟩,⟨[4,2],[0,0],[16,8],[([4,2],[0,0])],ZcR,5,5,[0]⟩],[⟨2,1,[((0,(0,(1,(0,0)))),[8])]⟩,⟨2,2,[]⟩],11⟩
 |12=>⟨[⟨[4,2],[0,0],[16,8],[([4,2],[0,0])],Zc8,6,6,[0]⟩,⟨[4,2],[0,0],[16,8],[([4,2],[0,0])],ZcR,6,6,[0]⟩],[⟨2,2,[]⟩,⟨2,2,[]⟩],12⟩
 |13=>⟨[⟨[-4,-2],[16,8],[16,8],[([4,2],[0,0])],Zc8,7,7,[]⟩,⟨[4,2],[0,0],[16,8],[([4,2],[0,0])],ZcR,6,6,[0]⟩],[⟨2,2,[]⟩,⟨2,2,[]⟩],13⟩
 |14=>⟨[⟨[-4,-2],[16,8],[16,8],[([4,2],[0,0])],Zc8,7,7,[]⟩,⟨[-4,-2],[16,8],[16,8],[([4,2],[0,0])],ZcR,7,7,[]⟩],[⟨2,2,[]⟩,⟨2,2,[]⟩],14⟩
 |15=>⟨[⟨[-4,-2],[16,8],[0,0],[([4,2],[0,0]),([-4,-2],[16,8])],[],0,8,[]⟩,⟨[-4,-2],[16,8],[16,8],[([4,2],[0,0])],ZcR,7,7,[]⟩],[⟨2,2,[]⟩,⟨2,2,[]⟩],15⟩
 |_=>⟨[⟨[-4,-2],[16,8],[0,0],[([4,2],[0,0]),([-4,-2],[16,8])],[],0,8,[]⟩,⟨[-4,-2],[16,8],[0,0],[([4,2],[0,0]),([-4,-2],[16,8])],[],0,8,[]⟩],[⟨2,2,[]⟩,⟨2,2,[]⟩],16⟩
theorem Zfn{I:InC}{n x:Nat}{s:WS}{m:MS}{it:ZaB}(hm:s.mss[x]?=some m)(hit:m.its[m.nx]?=some it)(h3:it.1.1≠3)(h4:it.1.1≠4):Zbp I n x s=⟨s.mss.set x (ZaR (I.mc x) (ZaW (I.mc x) m it) it.1.2.1),s.lss,s.cnt+1⟩:=by
 unfold Zbp;simp only[hm,hit,if_neg h3,if_neg h4]
theorem Zof{K:MC}{s:MS}{x:ZaB}{l g:List Int}(h:x.1.1=1)(hm:ZpD K x.1.2.1 x.1.2.2=l)(hg:ZcG K s.P s.G l=g):ZaW K s x={ s with G:=g }:=by
 unfold ZaW;rw[if_pos h,hm,hg]
theorem Zog{K:MC}{s:MS}{x:ZaB}{lo hi:Int}{e k:Nat}{g P M:List Int}(h:x.1.1=5)(hb:K.pc.bks[x.1.2.2.toNat]?=some (lo,hi))(he:lo.toNat=e)(hk:(hi-lo).toNat=k)(hp:pcL s.G e k=g)(h1:Za8 K.c.ra K.c.mo K.c.sh s.P s.M g e k=P)(h2:Za7 K.c.mo K.c.sh s.M g e k=M):ZaW K s x={ s with P:=P,M:=M,opn:=Zcu s.opn x.1.2.2 }:=by
 unfold ZaW;rw[if_neg (by rw[h];decide),if_neg (by rw[h];decide),if_pos h];simp only[hb,he,hk,hp,h1,h2]
theorem Zyn:ZpD (InC.mc sm0 0) 0 0=[0]:=by kernel_rfl
theorem Zyo:ZpD (InC.mc sm0 1) 0 0=[1]:=by kernel_rfl
theorem Zyp:ZcG (InC.mc sm0 0) [4,2] [0,0] [0]=[0,0]:=by kernel_rfl
theorem Zyq:ZcG (InC.mc sm0 1) [4,2] [0,0] [1]=[16,8]:=by kernel_rfl
theorem Zyc(x:Nat):(InC.mc sm0 x).pc.bks[(0:Nat)]?=some (0,2):=by kernel_rfl
theorem Zyd:pcL [16,8] 0 2=[16,8]:=by kernel_rfl
theorem Zye:Zfy 1 1 0 16=16:=by kernel_rfl
theorem Zyf:Zfy 1 1 0 8=8:=by kernel_rfl
theorem Zyr:Zkp 1 1 4 16=-4:=by kernel_rfl
theorem Zys:Zkp 1 1 2 8=-2:=by kernel_rfl
theorem Zyg:Za8 1 1 1 [4,2] [0,0] [16,8] 0 2=[-4,-2]:=by
 simp[Za8,List.mapIdx_cons,Zye,Zyf,Zyr,Zys]
theorem Zyh:Za7 1 1 [0,0] [16,8] 0 2=[16,8]:=by
 simp[Za7,List.mapIdx_cons,Zye,Zyf]
theorem Zps:Zbm sm0 2=smW 0:=by kernel_rfl
theorem Zw5:Zbp sm0 2 0 (smW 0)=smW 1:=by
 refine(Zfn (m:=⟨[4,2],[0,0],[0,0],[([4,2],[0,0])],Zc8,0,0,[]⟩) (it:=((1,(0,0)),((false,false),((0,(0,(0,(0,0)))),(0,0))))) rfl rfl (by decide) (by decide)).trans ?_;rw[Zof (K:=InC.mc sm0 0) (s:=⟨[4,2],[0,0],[0,0],[([4,2],[0,0])],Zc8,0,0,[]⟩) (x:=((1,(0,0)),((false,false),((0,(0,(0,(0,0)))),(0,0))))) rfl (Zyn) (Zyp)]
 kernel_rfl
theorem Zw6:ZbC sm0 2 0 (smW 0)=true:=by kernel_rfl
theorem Zw7:Zbp sm0 2 1 (smW 1)=smW 2:=by
 refine(Zfn (m:=⟨[4,2],[0,0],[0,0],[([4,2],[0,0])],ZcR,0,0,[]⟩) (it:=((1,(0,0)),((false,false),((0,(0,(0,(0,0)))),(0,0))))) rfl rfl (by decide) (by decide)).trans ?_;rw[Zof (K:=InC.mc sm0 1) (s:=⟨[4,2],[0,0],[0,0],[([4,2],[0,0])],ZcR,0,0,[]⟩) (x:=((1,(0,0)),((false,false),((0,(0,(0,(0,0)))),(0,0))))) rfl (Zyo) (Zyq)]
 kernel_rfl
theorem Zw8:ZbC sm0 2 1 (smW 1)=true:=by kernel_rfl
theorem Zw9:Zbp sm0 2 0 (smW 2)=smW 3:=by kernel_rfl
theorem Zxa:ZbC sm0 2 0 (smW 2)=true:=by kernel_rfl
theorem Zxb:Zbp sm0 2 1 (smW 3)=smW 4:=by kernel_rfl
theorem Zxc:ZbC sm0 2 1 (smW 3)=true:=by kernel_rfl
theorem Zxd:Zbp sm0 2 0 (smW 4)=smW 5:=by kernel_rfl
theorem Zxe:ZbC sm0 2 0 (smW 4)=true:=by kernel_rfl
theorem Zxf:Zbp sm0 2 1 (smW 5)=smW 6:=by kernel_rfl
theorem Zxg:ZbC sm0 2 1 (smW 5)=true:=by kernel_rfl
theorem Zxh:Zbp sm0 2 0 (smW 6)=smW 7:=by kernel_rfl
theorem Zxi:ZbC sm0 2 0 (smW 6)=true:=by kernel_rfl
theorem Zxj:Zbp sm0 2 1 (smW 7)=smW 8:=by kernel_rfl
theorem Zxk:ZbC sm0 2 1 (smW 7)=true:=by kernel_rfl
theorem Zxl:Zbp sm0 2 0 (smW 8)=smW 9:=by kernel_rfl
theorem Zxm:ZbC sm0 2 0 (smW 8)=true:=by kernel_rfl
theorem Zxn:Zbp sm0 2 1 (smW 9)=smW 10:=by kernel_rfl
theorem Zxo:ZbC sm0 2 1 (smW 9)=true:=by kernel_rfl
theorem ZvR:Zbp sm0 2 0 (smW 10)=smW 11:=by kernel_rfl
theorem ZvS:ZbC sm0 2 0 (smW 10)=true:=by kernel_rfl
theorem ZvT:Zbp sm0 2 1 (smW 11)=smW 12:=by kernel_rfl
theorem ZvU:ZbC sm0 2 1 (smW 11)=true:=by kernel_rfl
theorem ZvV:Zbp sm0 2 0 (smW 12)=smW 13:=by
 refine(Zfn (m:=⟨[4,2],[0,0],[16,8],[([4,2],[0,0])],Zc8,6,6,[0]⟩) (it:=((5,(0,0)),((false,false),((0,(0,(0,(0,0)))),(0,0))))) rfl rfl (by decide) (by decide)).trans ?_;rw[Zog (K:=InC.mc sm0 0) (s:=⟨[4,2],[0,0],[16,8],[([4,2],[0,0])],Zc8,6,6,[0]⟩) (x:=((5,(0,0)),((false,false),((0,(0,(0,(0,0)))),(0,0))))) rfl (Zyc 0) rfl rfl Zyd Zyg Zyh]
 kernel_rfl
theorem ZvW:ZbC sm0 2 0 (smW 12)=true:=by kernel_rfl
theorem ZvX:Zbp sm0 2 1 (smW 13)=smW 14:=by
 refine(Zfn (m:=⟨[4,2],[0,0],[16,8],[([4,2],[0,0])],ZcR,6,6,[0]⟩) (it:=((5,(0,0)),((false,false),((0,(0,(0,(0,0)))),(0,0))))) rfl rfl (by decide) (by decide)).trans ?_;rw[Zog (K:=InC.mc sm0 1) (s:=⟨[4,2],[0,0],[16,8],[([4,2],[0,0])],ZcR,6,6,[0]⟩) (x:=((5,(0,0)),((false,false),((0,(0,(0,(0,0)))),(0,0))))) rfl (Zyc 1) rfl rfl Zyd Zyg Zyh]
 kernel_rfl
theorem ZvY:ZbC sm0 2 1 (smW 13)=true:=by kernel_rfl
theorem ZvZ:Zbp sm0 2 0 (smW 14)=smW 15:=by kernel_rfl
theorem Zv0:ZbC sm0 2 0 (smW 14)=true:=by kernel_rfl
theorem Zv1:Zbp sm0 2 1 (smW 15)=smW 16:=by kernel_rfl
theorem Zv2:ZbC sm0 2 1 (smW 15)=true:=by kernel_rfl
theorem Zsc:∀p,p<16->Zbp sm0 2 (p%2) (smW p)=smW (p+1)
 |0,_=>Zw5
 |1,_=>Zw7
 |2,_=>Zw9
 |3,_=>Zxb
 |4,_=>Zxd
 |5,_=>Zxf
 |6,_=>Zxh
 |7,_=>Zxj
 |8,_=>Zxl
 |9,_=>Zxn
 |10,_=>ZvR
 |11,_=>ZvT
 |12,_=>ZvV
 |13,_=>ZvX
 |14,_=>ZvZ
 |15,_=>Zv1
 |p+16,h=>absurd h (by omega)
theorem Zsd:∀p,p<16->ZbC sm0 2 (p%2) (smW p)=true
 |0,_=>Zw6
 |1,_=>Zw8
 |2,_=>Zxa
 |3,_=>Zxc
 |4,_=>Zxe
 |5,_=>Zxg
 |6,_=>Zxi
 |7,_=>Zxk
 |8,_=>Zxm
 |9,_=>Zxo
 |10,_=>ZvS
 |11,_=>ZvU
 |12,_=>ZvW
 |13,_=>ZvY
 |14,_=>Zv0
 |15,_=>Zv2
 |p+16,h=>absurd h (by omega)
theorem Zt4:∀p,p<16->ZdK (smW p).mss=false
 |0,_=>by kernel_rfl
 |1,_=>by kernel_rfl
 |2,_=>by kernel_rfl
 |3,_=>by kernel_rfl
 |4,_=>by kernel_rfl
 |5,_=>by kernel_rfl
 |6,_=>by kernel_rfl
 |7,_=>by kernel_rfl
 |8,_=>by kernel_rfl
 |9,_=>by kernel_rfl
 |10,_=>by kernel_rfl
 |11,_=>by kernel_rfl
 |12,_=>by kernel_rfl
 |13,_=>by kernel_rfl
 |14,_=>by kernel_rfl
 |15,_=>by kernel_rfl
 |p+16,h=>absurd h (by omega)
theorem Zoh:ZdK (smW 16).mss=true:=by kernel_rfl
section
variable(A:Option Addr)(cap:Nat)(S:Option Addr)(cS:Nat)(es:List StS)(AP:Option Addr)(cP:Nat)(AD:Option Addr)(cD:Nat)
theorem Zse(n x:Nat)(s:WS):Zbp (smI A cap S cS es AP cP AD cD) n x s=Zbp sm0 n x s:=rfl
theorem Zsf(n x:Nat)(s:WS):ZbC (smI A cap S cS es AP cP AD cD) n x s=ZbC sm0 n x s:=rfl
theorem Zpt(n:Nat):Zbm (smI A cap S cS es AP cP AD cD) n=Zbm sm0 n:=rfl
theorem Zsg:Zbm (smI A cap S cS es AP cP AD cD) 2=smW 0:=(Zpt A cap S cS es AP cP AD cD 2).trans Zps
theorem Zt5(p:Nat)(hp:p<16):Zbp (smI A cap S cS es AP cP AD cD) 2 (p%2) (smW p)=smW (p+1):=(Zse A cap S cS es AP cP AD cD 2 (p%2) (smW p)).trans (Zsc p hp)
theorem Zt6(p:Nat)(hp:p<16):ZbC (smI A cap S cS es AP cP AD cD) 2 (p%2) (smW p)=true:=(Zsf A cap S cS es AP cP AD cD 2 (p%2) (smW p)).trans (Zsd p hp)
end
def Zsh(I:InC)(w:World)(e:Ending)(w':World):Prop:=∃xb,e=.returned (.tuple #[.pointer (some ⟨xb,0,none⟩),.int .i64 0])/\Zvq w.heap.size w' xb I (Ze9 I I.c.wk.toNat) (Zfa I.c.wk.toNat) 0/\Bz0 w w'
theorem Zf4(I:InC)(w:World)(hI:ZmG w I)(hO:I.Ok) :
  Calls prog 12 #[inV I.A I.n I.cap I.c I.S I.m I.cS I.AP I.P I.cP I.AD I.D I.cD] w (Zsh I w):=by
 have HN:=hid hO.nums;have HO:=hid hO;have m60:=hO.m60;have hK:=hO.mc (x:=0) (by have:=hO.nums.wk;omega);have hn16:I.n<=16:=hK.n16;have hP60:=hO.P60;have hD4:=hO.D4;have HCI:=hid (fun W (i:ZmG W I)=>Ze6 I.A I.n I.cap I.l I.c I.S I.m I.cS (Zgd I.N I.M I.es) I.AP I.P I.cP I.AD I.D I.cD W i.hl i.rl i.cap (by omega) (by rw[ZdG];exact i.el) (by rw[ZnP];exact i.re) (by omega) (by omega) (by omega));have HI:=hid hI;clear hI hO hK
 go_enter func12,ntmps12
 go_wp2_with fail;obtain⟨w1,hw1⟩:∃w1,w.alloc (.cells (inC I.A I.n I.cap I.c I.S I.m I.cS I.AP I.P I.cP I.AD I.D I.cD) 29)=w1:=⟨_,rfl⟩;obtain⟨gin,hgin⟩:∃g,w.heap.size=g:=⟨_,rfl⟩;have hb1:Below w.heap.size w w1:=by rw[<-hw1];exact bA0 _
 have hi1:Blk w1 gin 29 (inC I.A I.n I.cap I.c I.S I.m I.cS I.AP I.P I.cP I.AD I.D I.cD):=by rw[<-hw1];exact Blk.new' _ _ hgin
 have HW1:=hid hw1;have HGI:=hid hgin;have HB1:=hid hb1;have HI1:=hid hi1;clear hw1 hgin hb1 hi1;rw[HW1.out,HGI.out];((with_reducible refine(HCI.out w1 (HI.out.below HB1.out)).mono ?_);rintro e w2 ⟨cd,rfl,hcd,hb2⟩);obtain rfl:cd=0:=hcd.2 HO.out.ok;have HB2:=hid (bT0 HB1.out hb2);have HI2:=hid (HI1.out.kept hb2);have c4:=cv4 HI2.out;have cl:=HI2.out.lt;clear hcd hb2 HCI;go_wp2_with fail;obtain⟨w3,hw3⟩:∃w3,w2.alloc (.cells #[.slice none 0 0,.slice none 0 0,.int .i64 0] 125)=w3:=⟨_,rfl⟩;obtain⟨xb,hxb⟩:∃g,w2.heap.size=g:=⟨_,rfl⟩;have hb3:Below w2.heap.size w2 w3:=by rw[<-hw3];exact bA0 _
 have hx3:Blk w3 xb 125 (Zg5 none 0 0 none 0 0 0):=by rw[<-hw3];exact Blk.new' _ _ hxb
 have HXW:Hid (w.heap.size<=xb):=hid (by rw[<-hxb];exact HB2.out.size);have HGX:Hid (gin<w2.heap.size/\xb=w2.heap.size):=hid ⟨HI2.out.lt,hxb.symm⟩;rw[hw3,hxb];have HB3:=hid (bT0 HB2.out hb3);have HI3:=hid (HI2.out.kept hb3);have HX3:=hid hx3;clear hw3 hxb hb3 hx3 c4 cl
 go_loopw [19] (fun v wr=>∃(k:Nat) (own:Nat->Nat) (mbs lbs:List Nat) (AW:Option Addr) (cW:Nat) (AL:Option Addr) (cL:Nat),(k:Int)<=I.c.wk/\v=.int .i64 k/\Zao own wr xb I mbs lbs (Ze9 I k) (Zfa k) AW cW AL cL 0/\mbs.length=k/\lbs.length=k/\(∀j,own j≠0->w.heap.size<=j)/\Blk wr gin 29 (inC I.A I.n I.cap I.c I.S I.m I.cS I.AP I.P I.cP I.AD I.D I.cD)/\Bz0 w wr) (fun v _=>I.c.wk.toNat-(intOf v).toNat)
 case atStart=>
  refine⟨0,fun j=>if j=xb then 1 else 0,[],[],none,0,none,0,by have:=HN.out.wk;omega,rfl,⟨HX3.out,if_pos rfl,World.ownsRow_nil _ _ _ _,World.ownsRow_nil _ _ _ _,fun g hg=>by simp[ZaY,Value.ownBlock] at hg,fun g hg=>by simp[ZaY,Value.ownBlock] at hg,⟨rfl,rfl,fun i b s h=>by simp at h,fun i b s h=>by simp at h⟩⟩,rfl,rfl,fun j hj=>?_,HI3.out,HB3.out⟩
  by_cases e:j=xb
  ·rw[e];exact HXW.out
  ·simp[e] at hj
 case round=>
  obtain⟨k,own,mbs,lbs,AW,cW,AL,cL,hk,rfl,hW,hml,hll,hown,hg,hb⟩:=hrel;have HG:=hid hg;have HWR:=hid hW;have HML:=hid hml;have HLL:=hid hll;have HOWN:=hid hown;have HBR:=hid hb;clear hg hW hml hll hown hb
  by_cases hlt:(k:Int)<I.c.wk
  ·have hk64:k<64:=by have:=HN.out.wk;omega
   obtain⟨c0,c1,c2,c3,c4,c5,c6,c7,c8,c9,c10,c11,c12,c13,c14⟩:=cl15 HG.out;have cl:=HG.out.lt;go_wp2_with fail;((with_reducible refine(ZmI I k wr (HI.out.below HBR.out) HO.out hlt).mono ?_);rintro e w4 ⟨mb,rfl,hm,hb4⟩);have hW4:=HWR.out.below (own':=lab own wr.heap.size (2*k+2)) hb4 (ZbX _ _ _);have HW4:=hid hW4;have HOWN1:=hid (ZjC (k:=2*k+2) HOWN.out HBR.out.size);have HP4:=hid (hW4.parts.addM HML.out (hm.mono (T:=fun j=>lab own wr.heap.size (2*k+2) j=2*k+2) (fun j hj h=>ZfF _ _ _ h)));have HG4:=hid (HG.out.kept hb4);have HB4:=hid (bT0 HBR.out hb4);have HB4r:=hid hb4;clear hm hb4 hW4 HG;have x0:=HW4.out.blk.cell 0;have xl:=HW4.out.blk.lt
   go_wp2_with (at_builtin;go_must (refine Zaj Zyj rfl _ _ rfl 0 (.slice AW mbs.length cW) mbs.length (mbs.map ifV) rfl HW4.out.wrow #[ifV mb] w4.heap.size rfl rfl rfl (by intro u hu;simp at hu;subst hu;rfl) (by unfold maxLen;have:=HML.out;omega) (by have:=HML.out;omega) (Nat.zero_le _) ?_);go_must (intro A' c' wa hown' hb' hgr' hat';(have hK:=HW4.out.blk.other HW4.out.wrow hgr' (by decide));(have v0:=hK.cell 0);(have f0:=hK.frozen 0);(have lk:=hK.lt);(have HK:=hid hK);(have HO2:=hid hown');(have HGR:=hid hgr');(have HAT:=hid hat');clear hK hown' hb' hgr' hat' x0 xl))
   have hW5:=HW4.out.addW HP4.out HGR.out HO2.out HAT.out;have hg2:=Zak (p:=⟨xb,0,none⟩) (World.grownBy.refl wa (some xb)) (.inl rfl) (.slice A' (mbs.length+1) c');have hG5:Blk (wa.setCell ⟨xb,0,none⟩ (.slice A' (mbs.length+1) c')) gin 29 (inC I.A I.n I.cap I.c I.S I.m I.cS I.AP I.P I.cP I.AD I.D I.cD):=(HG4.out.other HW4.out.wrow HGR.out (by decide)).grown hg2 (by
    intro e;injection e with e
    have h1:=HXW.out;have h2:=HGX.out
    omega)
   have hB5:Below w.heap.size w (wa.setCell ⟨xb,0,none⟩ (.slice A' (mbs.length+1) c')):=Zai (HB4.out.grown HGR.out HB4.out.size (fun g hg=>HOWN1.out g (by rw[HW4.out.ow g ((Zaf _ _ _).symm.trans hg)];decide))) (YaH HB4.out.size HGR.out.size) hg2 HXW.out;have hz5:w4.heap.size<=(wa.setCell ⟨xb,0,none⟩ (.slice A' (mbs.length+1) c')).heap.size:=YaH HGR.out.size hg2.size;generalize hw5:wa.setCell ⟨xb,0,none⟩ (.slice A' (mbs.length+1) c')=w5 at hW5 hG5 hB5 hz5 ⊢;have HW5:=hid hW5;have HG5:=hid hG5;have HB5:=hid hB5;have HZ5:=hid hz5;clear hW5 hG5 hB5 hz5 hw5 hg2 v0 f0 lk HK HO2 HGR HAT HW4 HP4 HG4 HB4;have hca:(I.c.ca.toNat:Int)=I.c.ca:=by have:=HN.out.ca;omega
   have HLK:Hid (∀W,Calls prog 47 #[.int .i64 I.c.ca] W fun e w'=>e=.returned (.pointer (some ⟨W.heap.size,0,none⟩))/\Blk w' W.heap.size 243 (Zgc none 0 0 I.c.ca.toNat 0 0 0)/\Bz0 W w'):=hid (fun W=>by
    have:=ZmA I.c.ca.toNat W (by have:=HN.out.ca;omega) (by have:=HN.out.ca;omega);rw[hca] at this;exact this)
   have HCA:=hid hca;clear hca;have hX5:Blk w5 xb 125 (Zg5 A' (mbs.length+1) c' AL lbs.length cL 0):=by
    have:=HW5.out.blk
    rwa [YaS,List.length_singleton] at this
   have HX5:=hid hX5;clear hX5;refine Zad (fun W=>Blk W xb 125 (Zg5 A' (mbs.length+1) c' AL lbs.length cL 0)/\Blk W gin 29 (inC I.A I.n I.cap I.c I.S I.m I.cS I.AP I.P I.cP I.AD I.D I.cD)) [0,1,2,3,4,5,6,7] [8,9,10] [11,12,13] (by kernel_rfl) (by kernel_rfl) (⟨HX5.out.drew,HG5.out.drew⟩) ?_;simp only[YaO,YaP,YaB,YaC];refine Zaa (.pointer (some ⟨xb,0,none⟩)) rfl (fun W hW=>?_) ?_
   ·obtain⟨hx,hy⟩:=hW;have x1:=hx.cell 1;have xl:=hx.lt;have y11:=hy.cell 11;have yl:=hy.lt;go_simp
   go_simp;refine Zaa (.pointer (some ⟨xb,0,none⟩)) rfl (fun W hW=>?_) ?_
   ·obtain⟨hx,hy⟩:=hW;have x1:=hx.cell 1;have xl:=hx.lt;have y11:=hy.cell 11;have yl:=hy.lt;go_simp
   go_simp;refine Zaa (.pointer (some ⟨xb,0,none⟩)) rfl (fun W hW=>?_) ?_
   ·obtain⟨hx,hy⟩:=hW;have x1:=hx.cell 1;have xl:=hx.lt;have y11:=hy.cell 11;have yl:=hy.lt;go_simp
   go_simp;refine Zaa (.pointer (some ⟨xb,1,none⟩)) rfl (fun W hW=>?_) ?_
   ·obtain⟨hx,hy⟩:=hW;have x1:=hx.cell 1;have xl:=hx.lt;have y11:=hy.cell 11;have yl:=hy.lt;go_simp
   go_simp;refine Zaa (.slice AL lbs.length cL) rfl (fun W hW=>?_) ?_
   ·obtain⟨hx,hy⟩:=hW;have x1:=hx.cell 1;have xl:=hx.lt;have y11:=hy.cell 11;have yl:=hy.lt;go_simp
   go_simp;refine Zaa (.pointer (some ⟨gin,0,none⟩)) rfl (fun W hW=>?_) ?_
   ·obtain⟨hx,hy⟩:=hW;have x1:=hx.cell 1;have xl:=hx.lt;have y11:=hy.cell 11;have yl:=hy.lt;go_simp
   go_simp;refine Zaa (.pointer (some ⟨gin,11,none⟩)) rfl (fun W hW=>?_) ?_
   ·obtain⟨hx,hy⟩:=hW;have x1:=hx.cell 1;have xl:=hx.lt;have y11:=hy.cell 11;have yl:=hy.lt;go_simp
   go_simp;refine Zaa (.int .i64 I.c.ca) rfl (fun W hW=>?_) ?_
   ·obtain⟨hx,hy⟩:=hW;have x1:=hx.cell 1;have xl:=hx.lt;have y11:=hy.cell 11;have yl:=hy.lt;go_simp
   go_simp;change Zah _ _ _ _ _ (_::_::_::[]) _ _;unfold Zah;go_wp2_with fail;((with_reducible refine(HLK.out _).mono ?_);rintro e w6 ⟨rfl,hl6,hb6⟩);have hb6':Below w5.heap.size w5 w6:=((Zag.start w5).call hb6).2.2;have hl6':Blk w6 w5.heap.size 243 (Zgc none 0 0 I.c.ca.toNat 0 0 0):=hl6;have hW6:=HW5.out.below (own':=lab (lab (lab own wr.heap.size (2*k+2)) w4.heap.size 1) w5.heap.size (2*k+3)) hb6' (ZbX _ _ _);have HP6:=hid (hW6.parts.addL (l:=⟨0,0,[]⟩) HLL.out (Zo9 hl6' (by have:=HN.out.ca;omega) (by have:=HN.out.ca;omega) (ZfF _ _ _ (YaF _))));have HW6:=hid hW6;have HG6:=hid (HG5.out.kept hb6');have HX6:=hid (HX5.out.kept hb6');have HB6:=hid (bT0 HB5.out hb6');have HOW6:=hid (ZjC (k:=2*k+3) (ZjC (k:=1) HOWN1.out (YaH HBR.out.size HB4r.out.size)) HB5.out.size);clear hl6 hb6 hb6' hl6' hW6 HLK;go_wp2_with fail;refine⟨⟨HX6.out,HG6.out⟩,?_⟩;unfold Zah;change wpList _ _ _ (_::[]) _ w6;go_wp2_with fail;refine⟨⟨HX6.out.alloc _,HG6.out.alloc _⟩,?_⟩;unfold Zah;change wpList _ _ _ (_::[]) _ (w6.alloc (.cells #[ptV w5.heap.size] 126))
   go_wp2_with (at_builtin;go_must (refine Zaj Zyk rfl _ _ rfl 0 (.slice AL lbs.length cL) lbs.length (lbs.map ptV) rfl HW6.out.lrow #[ptV w5.heap.size] w6.heap.size rfl rfl rfl (by intro u hu;simp at hu;subst hu;rfl) (by unfold maxLen;have:=HLL.out;omega) (by have:=HLL.out;omega) (Nat.zero_le _) ?_);go_must (intro A2 c2 wb hown' hb' hgr' hat'))
   have HX7:=hid (HX6.out.other HW6.out.lrow hgr' (by decide));have HG7:=hid (HG6.out.other HW6.out.lrow hgr' (by decide));have HO7:=hid hown';have HGR:=hid hgr';have HAT:=hid hat';clear hown' hb' hgr' hat';refine⟨⟨HX7.out,HG7.out⟩,?_⟩;unfold Zah;change wpList _ _ _ (_::_::_::[]) _ _;have v1:=HX7.out.cell 1;have f1:=HX7.out.frozen 1;have l1:=HX7.out.lt;go_wp2_with fail;refine NoPanic.normal ?_;have hW8:=HW6.out.addK HP6.out HGR.out HO7.out HAT.out;have hg2:=Zak (p:=⟨xb,1,none⟩) (World.grownBy.refl wb (some xb)) (.inl rfl) (.slice A2 (lbs.length+1) c2);have hG8:=HG7.out.grown hg2 (by
    intro e;injection e with e
    have h1:=HXW.out;have h2:=HGX.out
    omega)
   have hB8:=Zai (HB6.out.grown HGR.out HB6.out.size (fun g hg=>HOW6.out g (by rw[HW6.out.ol g ((Zaf _ _ _).symm.trans hg)];decide))) (YaH HB6.out.size HGR.out.size) hg2 HXW.out;have hO8:=ZjC (k:=1) HOW6.out HB6.out.size;generalize hw8:wb.setCell ⟨xb,1,none⟩ (.slice A2 (lbs.length+1) c2)=w8 at hW8 hG8 hB8 ⊢;have HW8:=hid hW8;have HG8:=hid hG8;have HB8:=hid hB8;have HO8:=hid hO8;clear hW8 hG8 hB8 hO8 hw8 hg2 v1 f1 l1 HX7 HG7 HO7 HGR HAT;obtain⟨k2,hk2⟩:∃k2,k+1=k2:=⟨_,rfl⟩;have hwk:IntKind.i64.wrap ((k:Int)+1)=(k2:Int):=by rw[show (k:Int)+1=(k2:Int) by omega];exact IntWalk.i64_in _ (by omega)
   have HK2:=hid hk2;clear hk2;go_wp2_with fail
   go_roundw
   case rel=>
    refine⟨k2,_,mbs++[mb],lbs++[w5.heap.size],A',c',A2,c2,by have:=HK2.out;omega,rfl,?_,by simp[HML.out,HK2.out],by simp[HLL.out,HK2.out],HO8.out,HG8.out,HB8.out⟩;rw[<-HK2.out,ZmM,ZmN];exact HW8.out
   case measure=>simp[intOf];have:=HK2.out;omega
  ·have hkw:k=I.c.wk.toNat:=by have:=HN.out.wk;omega
   have hlt':¬((k:Int)<I.c.wk):=hlt;go_wp2_with fail
   go_ret2
   refine⟨xb,rfl,⟨own,mbs,lbs,AW,cW,AL,cL,?_,by rw[HML.out,hkw],by rw[HLL.out,hkw],HOWN.out⟩,HBR.out⟩;have h:=HWR.out;rw[hkw] at h;exact h
theorem Zsi(w:World):Calls prog 8 #[] w fun e w'=>e=.returned (.bool true)/\Bz0 w w':=by
 go_enter func8,ntmps8
 go_wp2_with fail;have HSM:=hid (Zsb w);((with_reducible refine HSM.out.mono ?_);rintro e w1 ⟨A,cap,S,cS,es,AP,cP,AD,cD,rfl,hel,hI,hb1⟩);have hO:=Zw4 A cap S cS es AP cP AD cD hel;have hN:=Zf4 _ w1 hI hO;have hN':Calls prog 12 #[inV A 2 cap ZvQ S 2 cS AP 2 cP AD 2 cD] w1 (Zsh (smI A cap S cS es AP cP AD cD) w1):=hN;have hst:=Zsg A cap S cS es AP cP AD cD;have hstep:=Zt5 A cap S cS es AP cP AD cD;have hpick:=Zt6 A cap S cS es AP cP AD cD;have hwk:(smI A cap S cS es AP cP AD cD).c.wk=2:=rfl;have hNP:((smI A cap S cS es AP cP AD cD).mc 1).NP=2:=rfl;generalize hI':smI A cap S cS es AP cP AD cD=I at hI hO hN' hst hstep hpick hwk hNP;have HN:=hid hN';have HO:=hid hO;have HST:=hid hst;have HSTEP:=hid hstep;have HPICK:=hid hpick;have HWK:=hid hwk;have HNP:=hid hNP;have HB1:=hid hb1;clear HSM hI hN hN' hO hst hstep hpick hwk hNP hb1 hel hI';go_wp2_with fail;((with_reducible refine HN.out.mono ?_);rintro e w2 ⟨xb,rfl,⟨own,mbs,lbs,AW,cW,AL,cL,hW,hm,hl,hown⟩,hb2⟩);have hm2:mbs.length=2:=by rw[hm,HWK.out];rfl
 have hl2:lbs.length=2:=by rw[hl,HWK.out];rfl
 have hW':Zao own w2 xb I mbs lbs (smW 0).mss (smW 0).lss AW cW AL cL (smW 0).cnt:=by rw[<-HST.out];rw[HWK.out] at hW;exact hW
 have hF:Calls prog 19 #[.pointer (some ⟨xb,0,none⟩),.int .i64 100] w2 fun e w'=>e=.returned (.tuple #[.int .i64 16,.bool true])/\∃o3,Zgf own w2 o3 w' xb I mbs lbs (smW 16) AW cW AL cL:=ZdL smW 16 100 2 hW' hm2 (by decide) (by decide) (by decide) (by decide) Zt4 Zoh (fun p own W hp hWp=>by
  have hx:p%2<2:=Nat.mod_lt _ (by decide);have:=Zld hWp HO.out 2 (p%2) hm2 hl2 hx (by decide) (by rw[HWK.out];omega) (HPICK.out p hp);rw[HSTEP.out p hp] at this;exact this)
 have HF:=hid hF;have HM2:=hid hm2;have HL2:=hid hl2;have HOWN:=hid hown;have HB2:=hid hb2;clear hW hW' hF hm hl hm2 hl2 hown hb2 HN;go_wp2_with fail;((with_reducible refine HF.out.mono ?_);rintro e w3 ⟨rfl,own3,hR3⟩);have hT:=Zfd hR3.wld HO.out 2 1 ⟨[-4,-2],[16,8],[0,0],[([4,2],[0,0]),([-4,-2],[16,8])],[],0,8,[]⟩ HM2.out HL2.out (by decide) (by decide) (by rw[HWK.out];decide) rfl (by
  rw[HNP.out];intro i hi
  match i,hi with
  |0,_=>exact⟨rfl,rfl⟩
  |1,_=>exact⟨rfl,rfl⟩
  |i+2,hi=>exact absurd hi (by show ¬i+2<2;omega))
 rw[HNP.out] at hT;have hT':Calls prog 32 #[.pointer (some ⟨xb,0,none⟩),.int .i64 1] w3 (ZmR w3 2 [([4,2],[0,0]),([-4,-2],[16,8])]):=hT;have HT:=hid hT';have HR3:=hid hR3;clear hT hT' hR3 HF;go_wp2_with fail;((with_reducible refine HT.out.mono ?_);rintro e w4 ⟨AT,cT,l,hll,rfl,ho,hos,hb4⟩);have hR4:=HR3.out.below hb4;have HD:=hid (ZbK hR4.wld 2 HM2.out (by decide));have hll2:l.length=2:=hll;have ho2:w4.ownsRow w3.heap.size 92 2 (.slice AT 2 cT) 2 (stv 2 2 l):=ho;have HLL:=hid hll2;have HTO:=hid ho2;have HTS:=hid hos;have HR4:=hid hR4;clear hll hll2 ho ho2 hos hR4 hb4 HT;obtain⟨⟨P0,c0,M0,d0⟩,⟨P1,c1,M1,d1⟩,rfl⟩:∃a b,l=[a,b]:=by
  match l,HLL.out with
  |[a,b],_=>exact⟨a,b,rfl⟩
 go_wp2_with fail;((with_reducible refine HD.out.mono ?_);rintro e w5 ⟨rfl,hb5⟩);rw[Zoh];obtain⟨bT,oT,rfl,lT,q0,q1⟩:=ZgV (k:=1) ((Rd.of_own HTO.out).below hb5) rfl (by decide);dsimp only at q0 q1;have hp:=(Rd.of_own (HTS.out 1 _ rfl).1).below hb5;obtain⟨bP,oP,e',lP,hc⟩:=hp.2 (by decide);dsimp only at e';subst e';have p0:w5.cell? ⟨bP,oP,none⟩=some (.int .i64 (-4)):=hc 0 _ rfl;have p1:w5.cell? ⟨bP,oP+1,none⟩=some (.int .i64 (-2)):=hc 1 _ rfl;rw[Nat.one_mul] at q0 q1;clear hp hc;have HB5:=hid hb5;clear hb5;go_wp2_with fail;go_ret;refine⟨rfl,?_⟩;have h25:=(HR4.out.but.call HB5.out).below HB2.out.size HOWN.out;exact HB1.out.trans ((HB2.out.trans h25).mono HB1.out.size)
theorem Zx5{w:World}{g:Nat}{t:TypeId}{x y z u:Value}(h:Blk w g t #[x,y,z,u])(a b c d:Value) :
  w.grownBy ((((w.setCell ⟨g,0,none⟩ a).setCell ⟨g,1,none⟩ b).setCell ⟨g,2,none⟩ c).setCell ⟨g,3,none⟩ d) (some g)/\Blk ((((w.setCell ⟨g,0,none⟩ a).setCell ⟨g,1,none⟩ b).setCell ⟨g,2,none⟩ c).setCell ⟨g,3,none⟩ d) g t #[a,b,c,d]:=
 ⟨Zak (p:=⟨g,3,none⟩) (Zak (p:=⟨g,2,none⟩) (Zak (p:=⟨g,1,none⟩) (Zak (p:=⟨g,0,none⟩) (World.grownBy.refl w _) (.inl rfl) a) (.inl rfl) b) (.inl rfl) c) (.inl rfl) d,by simpa using (((h.set_ 0 a).set_ 1 b).set_ 2 c).set_ 3 d⟩
theorem Zoi{w w':World}{base g:Nat}{e:TypeId}{size:Nat}{v:Value}{n:Nat}{xs:List Value}(h:w.ownsRow base e size v n xs)(hg:w.grownBy w' (some g))(hlt:g<base):w'.ownsRow base e size v n xs:=by
 refine h.kept hg ?_
 rcases h.2 with⟨rfl,_⟩|⟨g',cap,cur,rfl,hb,_⟩
 ·exact .inl rfl
 ·refine .inr fun e'=>?_
  have e2:g'=g:=by simpa [Value.ownBlock] using e'
  omega
theorem Zj1.far{w w':World}{base n g:Nat}{Ao:Option Addr}{E co:Nat}{os:List (List Int)}(h:Zj1 w base n Ao E co os)(hg:w.grownBy w' (some g))(hlt:g<base):Zj1 w' base n Ao E co os:=by
 obtain⟨vs,h1,h2⟩:=h.ex;exact⟨vs,Zoi h1 hg hlt,⟨h2.len,fun i s l a b=>⟨(h2.row i s l a b).1,Zoi (h2.row i s l a b).2 hg hlt⟩⟩⟩
theorem Zj1.lower{w:World}{base base' n:Nat}{Ao:Option Addr}{E co:Nat}{os:List (List Int)}(h:Zj1 w base n Ao E co os)(hb:base'<=base):Zj1 w base' n Ao E co os:=by
 obtain⟨vs,h1,h2⟩:=h.ex;exact⟨vs,Zae h1 hb,h2.base hb⟩
def Zlw(m b st E:Nat)(L:List Int)(w:World)(e:Ending)(w':World):Prop:=∃Ao co,e=.returned (Zsu m b st Ao E co)/\Zj1 w' w.heap.size m Ao E co (ZbW L m E)/\Bz0 w w'
theorem Zpu(A:Option Addr)(n cap:Nat)(c:Cfg)(S:Option Addr)(m cS:Nat)(AP:Option Addr)(P cP:Nat)(AD:Option Addr)(D cD b st q E:Nat)(L:List Int)(w:World)
  (hb:c.ba=b) (hst:c.st=st) (hb1:1<=b) (hbn:b<=m) (hm:m<=60) (hs:st<=60) (hq:m/b=q) (hE:cnt st q=E) (hD2:D<=4000) (hl:L.length=D) (h:Rd w 1 AD D (uv L)) (hu:InU L) (hneed:E*(m-1)<=D) :
  Calls prog 28 #[inV A n cap c S m cS AP P cP AD D cD] w (Zlw m b st E L w):=by
 have HNW:=hid (fun W (r:Rd W 1 AD D (uv L))=>Zlf m b st D cD q E AD L W hb1 hbn hm hs hq hE hD2 hl r hu);have HG:Hid (∀W,(w.alloc (.cells (inC A n cap c S m cS AP P cP AD D cD) 29)).alloc (.cells #[.int .i64 0,.int .i64 0,.int .i64 0,.slice none 0 0] 84)=W->Below w.heap.size w W/\Blk W w.heap.size 29 (inC A n cap c S m cS AP P cP AD D cD)/\Blk W (w.heap.size+1) 84 #[.int .i64 0,.int .i64 0,.int .i64 0,.slice none 0 0]):=hid (by
  rintro W rfl;exact⟨(bA0 _).alloc (by simp) _,(Blk.new _ _ _).alloc _,Blk.new' _ _ (by simp)⟩)
 have HR:=hid h;have HN:=hid hneed;have HBB:=hid hb;have HST:=hid hst;clear hb hst hb1 hbn hm hs hq hE hD2 hl h hu hneed
 go_enter func28,ntmps28
 go_wp2_with fail;obtain⟨w0,hw0⟩:∃w0,(w.alloc (.cells (inC A n cap c S m cS AP P cP AD D cD) 29)).alloc (.cells #[.int .i64 0,.int .i64 0,.int .i64 0,.slice none 0 0] 84)=w0:=⟨_,rfl⟩;obtain⟨hB,hI,hX⟩:=HG.out _ hw0;rw[hw0];have HB:=hid hB;have HI:=hid hI;have HX:=hid hX;clear hw0 HG hB hI hX;have k:=HI.out;have c5:=cv5 k;have c7:=cv7 k;have c12:=cv12 k;have c14:=cv14 k;have cl:=k.lt;clear k;go_wp2_with fail;rw[HBB.out,HST.out];((with_reducible refine(HNW.out _ (HR.out.below HB.out)).mono ?_);rintro e w1 ⟨hb1,(⟨-,Ao,co,vs,rfl,ho1,hn1⟩|⟨hbad,-⟩)⟩)
 rotate_left
 ·exfalso
  have:=HN.out;omega
 have HB1:=hid (bT0 HB.out hb1);have HX1:=hid (HX.out.kept hb1);have HRS:=hid (Zj1.mk ⟨vs,ho1,hn1⟩:Zj1 w1 w0.heap.size m Ao E co (ZbW L m E));clear hb1 ho1 hn1 c5 c7 c12 c14 cl;have m0:=HX1.out;have x0:w1.cell? ⟨w.heap.size+1,0,none⟩=some (.int .i64 0):=m0.cell 0;have x1:w1.cell? ⟨w.heap.size+1,1,none⟩=some (.int .i64 0):=m0.cell 1;have x2:w1.cell? ⟨w.heap.size+1,2,none⟩=some (.int .i64 0):=m0.cell 2;have x3:w1.cell? ⟨w.heap.size+1,3,none⟩=some (.slice none 0 0):=m0.cell 3;have f0:=m0.frozen 0;have f1:=m0.frozen 1;have f2:=m0.frozen 2;have f3:=m0.frozen 3;have lx:=m0.lt;clear m0;go_wp2_with fail;have hst:=Zx5 HX1.out (.int .i64 m) (.int .i64 b) (.int .i64 st) (.slice Ao E co);have hlt0:=HX.out.lt;refine bodyPost_ret (v:=Zsu m b st Ao E co) (by simp[results,results28,go_sem,x0,x1,x2,x3,lx]) rfl ⟨Ao,co,rfl,?_,?_⟩
 ·exact((HRS.out.far hst.1 hlt0).below (bA0 _)).lower HB.out.size
 ·exact(Zai HB1.out HB1.out.size hst.1 (by omega)).alloc (by have:=HB1.out.size;have:=hst.1.size;omega) _
def Zlx(K:MC)(P:List Int)(j:Nat):List Int->Int
 |[]=>0
 |i::l=>(exG K P i).getD j 0+Zlx K P j l
theorem Zpv{xs ys:List Int}{n j:Nat}(hj:j<xs.length)(hn:j<n):(ZbM xs 0 ys n).getD j 0=wrap64 (xs.getD j 0+ys.getD j 0):=by
 rw[YaT,Zbj,YaA hj,Option.map_some,Option.getD_some,if_pos (by omega),Nat.sub_zero];rw[YaT (l:=xs),YaA hj,Option.getD_some]
theorem Zhl{K:MC}{P:List Int}{j:Nat}(hj:j<K.NP):∀(l G:List Int),G.length=K.NP->Zaw G->(ZcG K P G l).getD j 0=wrap64 (G.getD j 0+Zlx K P j l)
 |[],G,hl,hi=>by
  have:=getD_in hi j;rw[Zlx,Int.add_zero];exact(Za6 _ this.1 this.2).symm
 |i::l,G,hl,hi=>by
  have h1:Zaw (ZbM G 0 (exG K P i) K.NP):=by
   have:=Znb (K:=K) (P:=P) hi [i];exact this
  have e:ZcG K P G (i::l)=ZcG K P (ZbM G 0 (exG K P i) K.NP) l:=rfl;rw[e,Zhl hj l _ (by rw[Zbi,hl]) h1,Zpv (by omega) hj,Zfm,Zlx]
  congr 1
  omega
theorem Znc(K:MC)(P G a b:List Int):ZcG K P G (a++b)=ZcG K P (ZcG K P G a) b:=by simp[ZcG]
