/- Lemmas. -/
import Derived.Conc.LeavingOf
import Derived.Test.YtkmaeipoaoikpaaGreatEC27
namespace Go.Proofs.YtkmaeipoaoikpaaGreat
set_option linter.all false
set_option maxRecDepth 100000
set_option maxHeartbeats 8000000
open Lib (hid)
open Tryz
section
open Go.RowKit
theorem Zm9(I:InC)(w:World)(hI:ZmD w I)(hO:I.Ok)(n:Nat)(hn:n=I.c.st.toNat+1) :
  Calls prog 20 #[ZtS I] w fun e w'=>∃S cS l,l.length=n/\e=.returned (.tuple #[.slice S n cS,.int .i64 0])/\Rd w' 2 S n (stv I.P I.P l)/\(∀i s,l[i]?=some s->Rd w' 1 s.1 I.P (iv (trF I (i+1)).1)/\Rd w' 1 s.2.2.1 I.P (iv (trF I (i+1)).2))/\Bz0 w w':=by
 have hK:=hO.mc (x:=0) (by have:=hO.nums.wk;omega);have N:=hO.nums;have P60:=hO.P60;have m60:=hO.m60;have D4:=hO.D4;have st12:=hO.st;have hn16:I.n<=16:=hK.n16;have hsp:Zuc I.m I.c.ba.toNat I.c.st.toNat (I.m/I.c.ba.toNat) (cnt I.c.st.toNat (I.m/I.c.ba.toNat)):=hK.smp;have hdr:cnt I.c.st.toNat (I.m/I.c.ba.toNat)*(I.m-1)<=I.L.length:=hK.dr;have HBT:Hid (∀t:Nat,(∀x∈I.bat t,0<=x/\x<(I.m:Int))/\(I.bat t).length<=60):=hid (fun t=>⟨Zud hK (t:Int),YaH (ZkS _ _ _ _ _ _ hsp.hbn) m60⟩);have hbat:∀t:Nat,Za7 I.L I.m I.c.ba.toNat (I.m/I.c.ba.toNat) (I.c.st.toNat:Int) (t:Int)=I.bat t:=fun t=>rfl
 have HIN:=hid (fun W (i:ZmD W I)=>Zct I.A I.n I.cap I.l I.c I.S I.m I.cS (Zf5 I.N I.M I.es) I.AP I.P I.cP I.AD I.D I.cD W i.hl i.rl i.cap (by omega) (by rw[ZdC];exact i.el) (by rw[ZnL];exact i.re) (by omega) (by omega) (by omega) (fun _=>by omega));obtain⟨b,hb⟩:∃b,I.c.ba.toNat=b:=⟨_,rfl⟩;obtain⟨st,hst⟩:∃st,I.c.st.toNat=st:=⟨_,rfl⟩;have hcb:I.c.ba=(b:Int):=by have:=N.bw;have:=N.wk;omega
 have hcs:I.c.st=(st:Int):=by have:=N.st;omega
 rw[hb,hst] at hsp hdr hbat;rw[hst] at hn;obtain⟨q,hq⟩:∃q,I.m/b=q:=⟨_,rfl⟩;rw[hq] at hsp hdr hbat;obtain⟨E,hE⟩:∃E,cnt st q=E:=⟨_,rfl⟩;rw[hE] at hsp hdr;have st13:st<=12:=by omega
 have HS14:Hid (∀W,Below w.heap.size w W->Calls prog 28 #[ZtS I] W (Zlt I.m b st E I.L W)):=hid (fun W bl=>Zpm I.A I.n I.cap I.c I.S I.m I.cS I.AP I.P I.cP I.AD I.D I.cD b st q E I.L W hcb hcs hsp.hb1 hsp.hbn m60 (by omega) hq hE (by omega) hI.dl (hI.rd.below bl) hO.lu (by rw[<-hI.dl];exact hdr));have HRB:Hid (∀(t:Nat) Ao co W,ZjZ W 0 I.m Ao E co (ZbU I.L I.m E)->Calls prog 27 #[Zsj I.m b st Ao E co,.int .i64 t] W (Zdz W (I.bat t).length (I.bat t))):=hid (fun t Ao co W r=>by
  have h:=Zle 0 b st q E I.m co Ao I.L W hsp (t:Int) r;rw[hbat] at h;exact h)
 have HGR:Hid (∀W Ap cp Ps X nI cX mic,Below w.heap.size w W->Ps.length=I.P->Zaw Ps->Rd W 1 Ap I.P (iv Ps)->mic.length=nI->nI<=1000->Rd W 1 X nI (iv mic)->(∀x∈mic,0<=x/\x<(I.m:Int))->Calls prog 26 #[ZtS I,.slice Ap I.P cp,.slice X nI cX] W fun e w'=>∃A c,e=.returned (.tuple #[.slice A I.P c,.bool true])/\w'.ownsRow W.heap.size 2 1 (.slice A I.P c) I.P (iv (ZcP (I.mc 0) Ps (Zas I.P) mic))/\Bz0 W w'):=
  hid (fun W Ap cp Ps X nI cX mic bl h1 h2 h3 h4 h5 h6 h7=>ZjU I Ap cp Ps X nI cX mic W (hI.below bl) hO h1 h2 h3 h4 h5 h6 h7)
 have HLN:=hid (Zey I hI.pl);have HAI:=hid (Zsd I hO hI.pl);have HNT:=hid (Zod I hI.pl);have hra:=hO.ra;have hmo:=hO.mo;have HOK:=hid hO.ok;have HI:=hid hI;have HCS:=hid hcs;have HN:=hid hn;clear hK N hsp hdr hbat hb hst hcb hq hE hO hI hcs hn st12
 go_enter func20,ntmps20
 go_wp2_with fail;obtain⟨w0,hw0⟩:∃w0,w.alloc (.cells (Zr4 I) 29)=w0:=⟨_,rfl⟩;obtain⟨gin,hgin⟩:∃g,w.heap.size=g:=⟨_,rfl⟩;have hb0:Below w.heap.size w w0:=by rw[<-hw0];exact bA0 _
 have hi0:Blk w0 gin 29 (Zr4 I):=by rw[<-hw0];exact Blk.new' _ _ hgin
 have HGW:Hid (w.heap.size<=gin):=hid (Nat.le_of_eq hgin);have HB0:=hid hb0;have HI0:=hid hi0;rw[hw0,hgin];clear hw0 hgin hb0 hi0;((with_reducible refine(HIN.out w0 (HI.out.below HB0.out)).mono ?_);rintro e w1 ⟨cd,rfl,hcd,hb1⟩);obtain rfl:cd=0:=hcd.2 HOK.out;have HB1:=hid (bT0 HB0.out hb1);have HI1:=hid (HI0.out.kept hb1);have c13:=cv13 HI1.out;have cl:=HI1.out.lt;clear hcd hb1 HIN HI0;go_wp2_with fail;((with_reducible refine(ZhP I.AP I.P I.cP w1 (by omega)).mono ?_);rintro e w2 ⟨Z,cZ,rfl,hz,hb2⟩);have HB2:=hid (bT0 HB1.out hb2);have HI2:=hid (HI1.out.kept hb2);have HZ:=hid hz;clear c13 cl hz hb2 HI1;obtain⟨c0,c1,c2,c3,c4,c5,c6,c7,c8,c9,c10,c11,c12,c13,c14⟩:=cl15 HI2.out;have cl:=HI2.out.lt;go_wp2_with fail;obtain⟨w4,hw4⟩:∃w4,(w2.alloc (.cells #[.slice I.AP I.P I.cP,.slice Z I.P cZ] 176)).alloc (.cells #[.slice I.AP I.P I.cP,.slice Z I.P cZ] 176)=w4:=⟨_,rfl⟩;obtain⟨base,hbase⟩:∃g,w2.heap.size=g:=⟨_,rfl⟩;have hb4:Below w2.heap.size w2 w4:=by rw[<-hw4];exact(bA0 _).alloc (by simp) _
 have hx4:Blk w4 base 176 #[.slice I.AP I.P I.cP,.slice Z I.P cZ]:=by rw[<-hw4];exact(Blk.new' _ _ hbase).alloc _
 have hg4:Blk w4 (base+1) 176 #[.slice I.AP I.P I.cP,.slice Z I.P cZ]:=by rw[<-hw4];exact Blk.new' _ _ (by simp;exact hbase)
 have HBASE:Hid (w2.heap.size=base):=hid hbase;rw[hw4,hbase];rw[hbase] at hb4;have HB24:=hid hb4;have HB4:=hid (HB2.out.trans (hb4.mono (by have:=HB2.out.size;have:=HBASE.out;omega)));have HI4:=hid (HI2.out.kept (by rw[HBASE.out];exact HB24.out));have HX4:=hid hx4;have HG4:=hid hg4;clear hw4 hbase hb4 hx4 hg4;((with_reducible refine(HS14.out w4 HB4.out).mono ?_);rintro e w5 ⟨Ao,co,rfl,hrs,hb5⟩);have HRS5:=hid (hrs.lower (Nat.zero_le _));have HZB:Hid (base<=w4.heap.size):=hid (by have:=HX4.out.lt;omega);have HB5:=hid hb5;clear hrs hb5;go_wp2_with fail;obtain⟨w6,hw6⟩:∃w6,w5.alloc (.cells #[.int .i64 I.m,.int .i64 b,.int .i64 st,.slice Ao E co] 84)=w6:=⟨_,rfl⟩;obtain⟨sb,hsb⟩:∃g,w5.heap.size=g:=⟨_,rfl⟩;have hb6:Below w5.heap.size w5 w6:=by rw[<-hw6];exact bA0 _
 have hs6:Blk w6 sb 84 #[.int .i64 I.m,.int .i64 b,.int .i64 st,.slice Ao E co]:=by rw[<-hw6];exact Blk.new' _ _ hsb
 rw[hw6,hsb];have hb46:Below w4.heap.size w4 w6:=bT0 HB5.out hb6;have HB26:=hid (HB24.out.trans (hb46.mono HZB.out));have HI6:=hid (HI4.out.kept hb46);have HX6:=hid (HX4.out.kept hb46);have HG6:=hid (HG4.out.kept hb46);have HRS6:=hid (HRS5.out.below hb6);have HS6:=hid hs6;have HZ26:Hid (w2.heap.size<=base/\w.heap.size<=base):=hid ⟨by have:=HBASE.out;omega,by have:=HB2.out.size;have:=HBASE.out;omega⟩;have HGB:Hid (gin<base):=hid (by have:=HI2.out.lt;have:=HBASE.out;omega);clear hw6 hsb hb6 hs6 hb46 HI2 HI4 HX4 HG4 HRS5 HB24 HB5 HS14 HB4 HZB
 go_loopw [6,8] (fun v u wr=>∃t:Nat,t<=st/\u=.int .i64 t/\Zxy base I.P (I.AP,I.cP,Z,cZ) (trS I) t v wr/\KT base w6 wr) (fun _ u _=>st-(intOf u).toNat)
 case atStart=>exact⟨0,by omega,rfl,⟨[],(I.AP,I.cP,Z,cZ),some ⟨base+1,0,none⟩,1,1,rfl,rfl,rfl,ZvG HG6.out (YaF _),fun i s h=>by simp at h,HX6.out,.inl ⟨rfl,rfl⟩⟩,Zcx.refl _ _ _,bR0 _ _⟩
 case round=>
  obtain⟨t,ht,rfl,⟨l,x,A6,d6,k,hl,hk,rfl,hown,hos,hbx,hx⟩,hs,hb⟩:=hrel;have hb2r:Below base w2 wr:=HB26.out.trans hb;have hbr:Below w.heap.size w wr:=HB2.out.trans (hb2r.mono HZ26.out.2);obtain⟨q1,q2⟩:=ZcO.rows (x0:=(I.AP,I.cP,Z,cZ)) hos hx (HI.out.rp.below hbr) (HZ.out.below (hb2r.mono HZ26.out.1));obtain⟨AA,cA,BB,cB⟩:=x;dsimp only at q1 q2 hbx;have hiw:Blk wr gin 29 (Zr4 I):=hs _ _ _ (by decide) (by decide) HI6.out;have hsw:Blk wr sb 84 #[.int .i64 I.m,.int .i64 b,.int .i64 st,.slice Ao E co]:=hs _ _ _ (by decide) (by decide) HS6.out;have HRR:=hid (HRS6.out.stay hs hb.size (by decide) (by decide));have HIR:=hid hiw;have HSR:=hid hsw;have HBX:=hid hbx;have HQ1:=hid q1;have HQ2:=hid q2;have HOW:=hid hown;have HOS:=hid hos;have HL:=hid hl;have HK:=hid hk;have HST:=hid hs;have HBR:=hid hbr;have HBB:=hid hb;have HX:=hid hx;have hzb:base+1<=wr.heap.size:=hbx.lt;clear hb2r hiw hsw hbx q1 q2 hown hos hl hk hs hbr hb hx
  by_cases hlt:t<st
  ·have HLT:=hid hlt;have i1:(t:Int)<I.c.st:=by have:=HCS.out;omega
   obtain⟨ps,hps⟩:∃ps,(trS I t).1=ps:=⟨_,rfl⟩;obtain⟨ms,hms⟩:∃ms,(trS I t).2=ms:=⟨_,rfl⟩;obtain⟨bt,hbt⟩:∃bt,I.bat t=bt:=⟨_,rfl⟩;obtain⟨G,hG⟩:∃G,ZcP (I.mc 0) ps (Zas I.P) bt=G:=⟨_,rfl⟩;obtain⟨hpl,hml⟩:=HLN.out t;obtain⟨hpi,hmi⟩:=HAI.out t;have hnt:=HNT.out t;have hq1:=HQ1.out;have hq2:=HQ2.out;rw[hps] at hpl hpi hnt hq1;rw[hms] at hml hmi hnt hq2;rw[hbt,hG] at hnt;have hGl:G.length=I.P:=by rw[<-hG,Zcr];simp
   obtain⟨hbi,hb60⟩:=HBT.out t;rw[hbt] at hbi hb60;have HRBt:Hid (∀W,Below wr.heap.size wr W->Calls prog 27 #[Zsj I.m b st Ao E co,.int .i64 t] W (Zdz W bt.length bt)):=hid (fun W bl=>by
    have h:=HRB.out t Ao co W (HRR.out.below bl);rw[hbt] at h;exact h)
   have HGRt:Hid (∀W X c,Below wr.heap.size wr W->Rd W 1 X bt.length (iv bt)->Calls prog 26 #[ZtS I,.slice AA I.P cA,.slice X bt.length c] W fun e w'=>∃A c,e=.returned (.tuple #[.slice A I.P c,.bool true])/\w'.ownsRow W.heap.size 2 1 (.slice A I.P c) I.P (iv G)/\Bz0 W w'):=hid (fun W X c bl r=>by
    have h:=HGR.out W AA cA ps X bt.length c bt (bT0 HBR.out bl) hpl hpi (hq1.below bl) rfl (by omega) r hbi;rw[hG] at h;exact h)
   have HNXt:Hid (∀W X c,Below wr.heap.size wr W->Rd W 1 X I.P (iv G)->Calls prog 73 #[.agg #[.int .i64 I.c.ra,.int .i64 I.c.mo,.int .i64 I.c.sh],.agg #[.slice AA I.P cA,.slice BB I.P cB],.slice X I.P c] W fun e w'=>∃AP cP AM cM,e=.returned (.tuple #[.agg #[.slice AP I.P cP,.slice AM I.P cM],.bool true])/\w'.ownsRow W.heap.size 2 1 (.slice AP I.P cP) I.P (iv (trS I (t+1)).1)/\w'.ownsRow W.heap.size 2 1 (.slice AM I.P cM) I.P (iv (trS I (t+1)).2)/\Bz0 W w'):=hid (fun W X c bl r=>by
    have h:=ZhA I.c.ra I.c.mo I.c.sh AA BB X I.P cA cB c ps ms G W hpl hml hGl (hq1.below bl) (hq2.below bl) r (by omega) hra hmo hpi hmi;rw[hnt];exact h)
   clear hps hms hbt hG hpl hml hpi hmi hnt hq1 hq2 hGl hbi hb60 hlt;obtain⟨c0,c1,c2,c3,c4,c5,c6,c7,c8,c9,c10,c11,c12,c13,c14⟩:=cl15 HIR.out;have cl:=HIR.out.lt;have d0:wr.cell? ⟨base,0,none⟩=some (.slice AA I.P cA):=HBX.out.cell 0;have d1:wr.cell? ⟨base,1,none⟩=some (.slice BB I.P cB):=HBX.out.cell 1;have dl:=HBX.out.lt;have s0:wr.cell? ⟨sb,0,none⟩=some (.int .i64 I.m):=HSR.out.cell 0;have s1:wr.cell? ⟨sb,1,none⟩=some (.int .i64 b):=HSR.out.cell 1;have s2:wr.cell? ⟨sb,2,none⟩=some (.int .i64 st):=HSR.out.cell 2;have s3:wr.cell? ⟨sb,3,none⟩=some (.slice Ao E co):=HSR.out.cell 3;have sl:=HSR.out.lt;go_wp2_with fail;refine ZaY (Zag wr) (TrV I.P bt G) (fun _ _ _ _=>True) [0,1,2,3,4] [5,6,7,8,9,10,11] [] (by kernel_rfl) (by kernel_rfl) (Zag.start wr) (fun _ _ _ _ h=>h) (fun _ _ _ _ h hb=>h.below hb) ?_;simp only[YaO,YaP,YaB,YaC];refine Zaa (ZtS I) rfl (fun W hW=>?_) ?_
   ·obtain⟨hc,-,-⟩:=hW;go_simp
   go_simp;refine Zaa (.pointer (some ⟨base,0,none⟩)) rfl (fun W hW=>?_) ?_
   ·obtain⟨hc,-,-⟩:=hW;go_simp
   go_simp;refine Zaa (.slice AA I.P cA) rfl (fun W hW=>?_) ?_
   ·obtain⟨hc,-,-⟩:=hW;go_simp
   go_simp;refine Zaa (Zsj I.m b st Ao E co) rfl (fun W hW=>?_) ?_
   ·obtain⟨hc,-,-⟩:=hW;go_simp
   go_simp;refine Zaa (.int .i64 t) rfl (fun W hW=>?_) ?_
   ·obtain⟨hc,-,-⟩:=hW;go_simp
   go_simp;clear d0 d1 dl s0 s1 s2 s3 sl;refine Zeh.mk ?_ ?_
   ·intro j8 hj8 o ho8 vs W hS hV;simp only[List.mem_cons,List.not_mem_nil,or_false] at hj8;have HS:=hid hS;have HV:=hid hV;clear hS hV
    rcases hj8 with rfl|rfl|rfl|rfl|rfl|rfl|rfl
    ·cases ho8
     unfold Zbl;simp only[ZaL,ZaT,YaD,YaB,YaC,YaE];change wpList _ _ _ (_::[]) _ _;go_wp2_with fail;((with_reducible refine(HRBt.out W HS.out.2.2).mono ?_);rintro e w9 ⟨A9,c9,rfl,-,hr9,hb9⟩);have HR9:=hid hr9;have HB9:=hid hb9;clear hr9 hb9;go_wp2_with fail;exact⟨HS.out.call HB9.out,TrV.v5 HR9.out,HB9.out⟩
    ·obtain⟨A9,c9,v5,r5⟩:=(HV.out 5 (by simp) (by kernel_rfl)).1 rfl;have HG9:=hid (HGRt.out W A9 c9 HS.out.2.2 r5);clear r5
     cases ho8
     unfold Zbl;simp only[ZaL,ZaT,YaD,YaB,YaC,YaE];rw[v5];change wpList _ _ _ (_::[]) _ _;go_wp2_with fail;((with_reducible refine HG9.out.mono ?_);rintro e w9 ⟨A8,c8,rfl,ho9,hb9⟩);have HR9:=hid (Rd.of_own ho9);have HB9:=hid hb9;clear ho9 hb9;go_wp2_with fail;exact⟨HS.out.call HB9.out,TrV.v6 (.inl rfl) HR9.out,HB9.out⟩
    ·obtain⟨A9,c9,v6,r6⟩:=(HV.out 6 (by simp) (by kernel_rfl)).2.1 (.inl rfl);have R6:=hid r6;clear r6
     cases ho8
     unfold Zbl;simp only[ZaL,ZaT,YaD,YaB,YaC,YaE];rw[v6];change wpList _ _ _ (_::[]) _ _;go_wp2_with fail;exact⟨HS.out,TrV.v6 (.inr rfl) R6.out,bR0 _ _⟩
    ·obtain⟨A9,c9,v6,r6⟩:=(HV.out 7 (by simp) (by kernel_rfl)).2.1 (.inr rfl);have R6:=hid r6;clear r6
     cases ho8
     unfold Zbl;simp only[ZaL,ZaT,YaD,YaB,YaC,YaE];rw[v6];change wpList _ _ _ (_::[]) _ _;go_wp2_with fail;exact⟨HS.out,TrV.v8 (.inl rfl) R6.out,bR0 _ _⟩
    ·obtain⟨A9,c9,v6,-⟩:=(HV.out 7 (by simp) (by kernel_rfl)).2.1 (.inr rfl)
     cases ho8
     unfold Zbl;simp only[ZaL,ZaT,YaD,YaB,YaC,YaE];rw[v6];change wpList _ _ _ (_::[]) _ _;go_wp2_with fail;exact⟨HS.out,TrV.v9 (.inl rfl),bR0 _ _⟩
    ·obtain⟨A9,c9,v6,r6⟩:=(HV.out 8 (by simp) (by kernel_rfl)).2.2 (.inl rfl);have R6:=hid r6;clear r6
     cases ho8
     unfold Zbl;simp only[ZaL,ZaT,YaD,YaB,YaC,YaE];rw[v6];change wpList _ _ _ (_::[]) _ _;go_wp2_with fail;exact⟨HS.out,TrV.v8 (.inr rfl) R6.out,bR0 _ _⟩
    ·cases ho8
     unfold Zbl;simp only[ZaL,ZaT,YaD,YaB,YaC,YaE];change wpList _ _ _ (_::[]) _ _;go_wp2_with fail;exact⟨HS.out,TrV.v9 (.inr rfl),bR0 _ _⟩
   ·intro vs W hS hV hR;obtain⟨Ag,cg,v10,r10⟩:=(hV 10 (by simp)).2.2 (.inr rfl);simp only[ZaL,ZaT,YaO,YaP,YaD,YaB,YaC,YaE];rw[v10];have HBW:=hid hS.2.2;have HRG:=hid r10;clear hS hV hR v10 r10;have HIW:=hid (HIR.out.kept HBW.out);have HBXW:=hid (HBX.out.kept HBW.out);unfold wpList;refine NoPanic.normal ?_;obtain⟨c0,c1,c2,c3,c4,c5,c6,c7,c8,c9,c10,c11⟩:=cl12 HIW.out;have cl:=HIW.out.lt;go_wp2_with fail;refine Zcw (fun X=>Blk X gin 29 (Zr4 I)) (fun X=>Below W.heap.size W X) (NxB W I.P base (trS I (t+1))) (NxV I.P base I.c (.agg #[.slice AA I.P cA,.slice BB I.P cB]) (trS I (t+1))) [0,1,4] [2,3,5,6,7,8,9] 9 (by kernel_rfl) rfl (by kernel_rfl) HIW.out ((bR0 _ _).drew) (fun _ _ h hb=>h.kept hb) (fun _ _ h hb=>bT0 h hb) (fun _ _ h hb=>h.below hb) (fun _ _ _ _ h hb=>h.move (fun _ _ _ ho=>Zac ho hb)) ?_;simp only[YaO,YaP,YaB,YaC];refine Zaa (.pointer (some ⟨gin,0,none⟩)) rfl (fun W hW=>?_) ?_
    ·go_simp
    go_simp;refine Zaa (Zsf I.A I.n I.cap I.c) rfl (fun W hW=>?_) ?_
    ·have k0:=hW.cell 0;have k1:=hW.cell 1;have k2:=hW.cell 2;have k3:=hW.cell 3;have k4:=hW.cell 4;have k5:=hW.cell 5;have k6:=hW.cell 6;have k7:=hW.cell 7;have k8:=hW.cell 8;have k9:=hW.cell 9;have k10:=hW.cell 10;have k11:=hW.cell 11;have kl:=hW.lt;go_simp
    go_simp;refine Zaa (.slice Ag I.P cg) rfl (fun W hW=>?_) ?_
    ·go_simp
    go_simp;have HZW:Hid (base+1<=W.heap.size):=hid (YaH hzb HBW.out.size);refine Znf.mk ?_ ?_ ?_
    ·intro j8 hj8 hne o ho8 vs X hS hA hV;simp only[List.mem_cons,List.not_mem_nil,or_false] at hj8;have HA:=hid hA;have HV:=hid hV;clear hS hA hV
     rcases hj8 with rfl|rfl|rfl|rfl|rfl|rfl|rfl
     ·cases ho8
      unfold Zcv;simp only[ZaL,ZaT,YaD,YaB,YaC,YaE];change wpList _ _ _ (_::[]) _ _;go_wp2_with fail;((with_reducible refine(Zpp I.A I.n I.cap I.c X).mono ?_);rintro e w9 ⟨rfl,hb9⟩);have HB9:=hid hb9;clear hb9;go_wp2_with fail;exact⟨NxV.v2,HB9.out⟩
     ·have hk:=HBXW.out.kept (HA.out (by kernel_rfl));have d0:X.cell? ⟨base,0,none⟩=some (.slice AA I.P cA):=hk.cell 0;have d1:X.cell? ⟨base,1,none⟩=some (.slice BB I.P cB):=hk.cell 1;have dl:=hk.lt;clear hk
      cases ho8
      unfold Zcv;simp only[ZaL,ZaT,YaD,YaB,YaC,YaE];change wpList _ _ _ (_::[]) _ _;go_wp2_with fail;exact⟨NxV.v3,bR0 _ _⟩
     ·have hbX:=HA.out (by kernel_rfl);have v2:=(HV.out 2 (by simp) (by kernel_rfl)).1 rfl;have v3:=(HV.out 3 (by simp) (by kernel_rfl)).2.1 rfl;have HNX:=hid (HNXt.out X Ag cg (bT0 HBW.out hbX) (HRG.out.below hbX));have HBX9:Hid (base<=X.heap.size):=hid (by have:=hbX.size;have:=HZW.out;omega);clear hbX
      cases ho8
      unfold Zcv;simp only[ZaL,ZaT,YaD,YaB,YaC,YaE];rw[v2,v3];change wpList _ _ _ (_::[]) _ _;go_wp2_with fail;((with_reducible refine HNX.out.mono ?_);rintro e w9 ⟨A1,c1,A2,c2,rfl,h1,h2,hb9⟩);have H1:=hid (Zae h1 HBX9.out);have H2:=hid (Zae h2 HBX9.out);have HB9:=hid hb9;clear h1 h2 hb9;go_wp2_with fail;exact⟨NxV.v5 (.inl rfl) H1.out H2.out,HB9.out⟩
     ·obtain⟨A1,c1,A2,c2,v5,h1,h2⟩:=(HV.out 5 (by simp) (by kernel_rfl)).2.2.1 (.inl rfl);have H1:=hid h1;have H2:=hid h2;clear h1 h2
      cases ho8
      unfold Zcv;simp only[ZaL,ZaT,YaD,YaB,YaC,YaE];rw[v5];change wpList _ _ _ (_::[]) _ _;go_wp2_with fail;exact⟨NxV.v5 (.inr rfl) H1.out H2.out,bR0 _ _⟩
     ·obtain⟨A1,c1,A2,c2,v5,h1,h2⟩:=(HV.out 6 (by simp) (by kernel_rfl)).2.2.1 (.inr rfl);have H1:=hid h1;have H2:=hid h2;clear h1 h2
      cases ho8
      unfold Zcv;simp only[ZaL,ZaT,YaD,YaB,YaC,YaE];rw[v5];change wpList _ _ _ (_::[]) _ _;go_wp2_with fail;exact⟨NxV.v7 H1.out H2.out,bR0 _ _⟩
     ·obtain⟨A1,c1,A2,c2,v5,-,-⟩:=(HV.out 6 (by simp) (by kernel_rfl)).2.2.1 (.inr rfl)
      cases ho8
      unfold Zcv;simp only[ZaL,ZaT,YaD,YaB,YaC,YaE];rw[v5];change wpList _ _ _ (_::[]) _ _;go_wp2_with fail;exact⟨NxV.v8 (.inl rfl),bR0 _ _⟩
     ·exact absurd rfl hne
    ·intro o ho8 vs X hS hA hV;obtain⟨A1,c1,A2,c2,v7,h1,h2⟩:=(hV 7 (by simp) (by kernel_rfl)).2.2.2 rfl;have hk:=HBXW.out.kept hA;have d0:X.cell? ⟨base,0,none⟩=some (.slice AA I.P cA):=hk.cell 0;have d1:X.cell? ⟨base,1,none⟩=some (.slice BB I.P cB):=hk.cell 1;have f0:=hk.frozen 0;have f1:=hk.frozen 1;have dl:=hk.lt;have HKX:=hid hk;have HSX:=hid hS;have HAX:=hid hA;have H1:=hid h1;have H2:=hid h2;clear hV h1 h2 hk hS hA
     cases ho8
     unfold Zsp;simp only[ZaL,ZaT,YaD,YaB,YaC,YaE];rw[v7];change wpList _ _ _ (_::[]) _ _;go_wp2_with fail;have hst:=Za9 HKX.out (.slice A1 I.P c1) (.slice A2 I.P c2);have hmv:∀(A:Option Addr) (d:Nat) (l:List Int),X.ownsRow base 2 1 (.slice A I.P d) I.P (iv l)->_:=fun A d l ho=>ho.kept hst.1 (.inr (Zab ho HKX.out (by decide)))
     exact⟨HSX.out.grown hst.1 (fun e=>by injection e with e;have:=HGB.out;omega),⟨A1,c1,A2,c2,(But.of_below _ HAX.out).trans (But.of_gr hst.1 rfl),hst.2,hmv _ _ _ H1.out,hmv _ _ _ H2.out⟩,⟨undef,NxV.v8 (.inr rfl)⟩,fun k _ u _ h=>h.move hmv⟩
    ·intro vs X hS hB hV;obtain⟨A1,c1,A2,c2,hbut,hbx,ho1,ho2⟩:=hB;simp only[ZaL,ZaT,YaD,YaB,YaC,YaE];have hOW:=Zac HOW.out HBW.out;have HOX:=hid (Zap hOW hbut (fun g hg e=>by have:=(hOW.lt g hg).1;omega));have hosX:ZcO X base I.P I.P l (trS I):=fun i s h=>⟨Zap (Zac (HOS.out i s h).1 HBW.out) hbut (fun g hg e=>Zab (Zac (HOS.out i s h).1 HBW.out) HBXW.out (by decide) (by rw[hg,e])),Zap (Zac (HOS.out i s h).2 HBW.out) hbut (fun g hg e=>Zab (Zac (HOS.out i s h).2 HBW.out) HBXW.out (by decide) (by rw[hg,e]))⟩
     have HSX:=hid (hosX.snoc (by rw[HL.out];exact ho1) (by rw[HL.out];exact ho2));have HBXX:=hid hbx;have HSTX:Hid (KT base w6 X):=hid ⟨(HST.out.trans (Zcx.of_below HBW.out)).trans (Zcx.of_but hbut HBXW.out),(HBB.out.trans (HBW.out.mono (by omega))).trans (hbut.below (by have:=HZW.out;omega) (fun i h=>by omega))⟩;have HZX:Hid (base+1<=X.heap.size):=hid (YaH HZW.out hbut.size);have d0:X.cell? ⟨base,0,none⟩=some (.slice A1 I.P c1):=hbx.cell 0;have d1:X.cell? ⟨base,1,none⟩=some (.slice A2 I.P c2):=hbx.cell 1;have dl:=hbx.lt;clear hS hV hbut hbx ho1 ho2 hOW hosX;have hk13:k<=13:=by have:=HK.out;have:=HLT.out;omega
     unfold wpList;refine NoPanic.normal ?_
     go_wp2_with (at_builtin;go_must (refine Zaj Zup rfl _ _ rfl (base+1) (.slice A6 k d6) k (stv I.P I.P ((I.AP,I.cP,Z,cZ)::l)) rfl HOX.out #[.slice A1 I.P c1,.slice A2 I.P c2] X.heap.size rfl rfl rfl (ZdP _ _ _ _ _ _) (by unfold maxLen;omega) (by omega) HZX.out ?_);go_must (intro A' c' wa hown' hb' hgr' hat'))
     have hz':X.heap.size<=wa.heap.size:=hgr'.size;refine⟨⟨t+1,by have:=HLT.out;omega,rfl,⟨l++[(A1,c1,A2,c2)],(A1,c1,A2,c2),A',c',k+1,by rw[YaS,HL.out];rfl,by rw[HK.out],rfl,?_,HSX.out.row HOX.out (by decide) hgr',HBXX.out.grown hgr' (fun e=>by have:=(HOX.out.lt _ e.symm).1;omega),.inr ⟨by omega,by rw[<-HL.out];simp⟩⟩,HSTX.out.1.trans (Zcx.of_own' HOX.out hgr'),HSTX.out.2.trans (hb'.mono (by omega))⟩,?_⟩
     ·have e:stv I.P I.P ((I.AP,I.cP,Z,cZ)::(l++[(A1,c1,A2,c2)]))=stv I.P I.P ((I.AP,I.cP,Z,cZ)::l)++#[Value.slice A1 I.P c1,Value.slice A2 I.P c2].toList:=by
       rw[<-List.cons_append,ZdO];rfl
      rw[e];exact hown'
     ·have:=HLT.out;simp[intOf];omega
  ·obtain rfl:t=st:=by omega
   have i1:¬(t:Int)<I.c.st:=by have:=HCS.out;omega
   have c7:=cv7 HIR.out;have cl:=HIR.out.lt;go_wp2_with fail;refine bodyPost_ret (v:=.tuple #[.slice A6 k d6,.int .i64 0]) (by simp[results,results20,go_sem]) rfl ?_;have hnk:k=n:=by rw[HK.out,HN.out]
   subst hnk;refine⟨A6,d6,(I.AP,I.cP,Z,cZ)::l,by rw[List.length_cons,HL.out,HK.out],rfl,Rd.of_own HOW.out,fun i s1 y1 s2 y2 hs=>?_,HBR.out⟩
   cases i with
   |zero=>
    injection hs with hs
    injection hs with e1 hs
    injection hs with e2 hs
    injection hs with e3 e4
    subst e1 e3;have hb2r:Below base w2 wr:=HB26.out.trans HBB.out;exact⟨HI.out.rp.below HBR.out,HZ.out.below (hb2r.mono HZ26.out.1)⟩
   |succ i=>exact⟨Rd.of_own (HOS.out i (s1,y1,s2,y2) hs).1,Rd.of_own (HOS.out i (s1,y1,s2,y2) hs).2⟩
def smO:InC:=smI none 0 none 0 [] none 0 none 0
theorem Zxo:trS smO 1=([-4,-2],[16,8]):=by kernel_rfl
theorem ZwI:Zpl.st.toNat*(pcI Zpl 2).sumI (pcI Zpl 2).m=16:=by kernel_rfl
theorem Zpr(w:World):Calls prog 8 #[] w fun e w'=>e=.returned (.bool true)/\Bz0 w w':=by
 go_enter func8,ntmps8
 go_wp2_with fail;have HSM:=hid (Zr5 w);((with_reducible refine HSM.out.mono ?_);rintro e w1 ⟨A,cap,S,cS,es,AP,cP,AD,cD,rfl,hel,hI,hb1⟩);have hO:=ZwD A cap S cS es AP cP AD cD hel;have hN:=Zsa _ w1 hI hO;have hN':Calls prog 12 #[inV A 2 cap Zpl S 2 cS AP 2 cP AD 2 cD] w1 fun e w'=>∃xb,e=.returned (.tuple #[.pointer (some ⟨xb,0,none⟩),.int .i64 0])/\Wd (fun i=>w1.heap.size<=i/\i<w'.heap.size) w' xb (smI A cap S cS es AP cP AD cD) (ZbA (smI A cap S cS es AP cP AD cD) (smI A cap S cS es AP cP AD cD).rg.n)/\Bz0 w1 w':=hN
 have htr:trF (smI A cap S cS es AP cP AD cD) 2=([-4,-2],[16,8]):=(Zr8 (I:=smO) (J:=smI A cap S cS es AP cP AD cD) rfl rfl rfl rfl rfl rfl rfl rfl rfl rfl rfl rfl 1).trans Zxo;have htot:(smI A cap S cS es AP cP AD cD).tot=16:=(Zm8 hO).trans ZwI;have hn2:(smI A cap S cS es AP cP AD cD).rg.n=2:=rfl;have hP0:(smI A cap S cS es AP cP AD cD).P0.length=(smI A cap S cS es AP cP AD cD).P:=rfl;have hPP:(smI A cap S cS es AP cP AD cD).P=2:=rfl;have hst:2=(smI A cap S cS es AP cP AD cD).c.st.toNat+1:=rfl;generalize hI':smI A cap S cS es AP cP AD cD=I at hI hO hN' htr htot hn2 hP0 hPP hst;have HN:=hid hN';have HO:=hid hO;have HTR:=hid htr;have HTOT:=hid htot;have HN2:=hid hn2;have HP0:=hid hP0;have HPP:=hid hPP;have HST:=hid hst;have HB1:=hid hb1;clear HSM hI hN hN' hO htr htot hn2 hP0 hPP hst hb1 hel hI';go_wp2_with fail;((with_reducible refine HN.out.mono ?_);rintro e w2 ⟨xb,rfl,hW,hb2⟩);have hF:Calls prog 19 #[.pointer (some ⟨xb,0,none⟩),.int .i64 100] w2 fun e w'=>∃N:Nat,e=.returned (.tuple #[.int .i64 N,.bool true])/\(∃s',Wd (fun i=>(w1.heap.size<=i/\i<w2.heap.size)\/(w2.heap.size<=i/\i<w'.heap.size)) w' xb I s'/\At I (fun _=>I.rg.N) s')/\But (fun i=>w1.heap.size<=i/\i<w2.heap.size) w2 w':=Zhj hW HO.out HP0.out 100 (by rw[HTOT.out,HN2.out];decide) (by decide)
 have HF:=hid hF;have HB2:=hid hb2;clear hW hb2 HN hF;go_wp2_with fail;((with_reducible refine HF.out.mono ?_);rintro e w3 ⟨N,rfl,⟨s',hw3,ha3⟩,hbu3⟩);have hT:=Zsc hw3 HO.out HP0.out ha3 1 (by rw[HN2.out];decide) 2 HST.out;rw[HPP.out] at hT;have hT':Calls prog 32 #[.pointer (some ⟨xb,0,none⟩),.int .i64 1] w3 fun e w'=>∃A c l,l.length=2/\e=.returned (.slice A 2 c)/\w'.ownsRow w3.heap.size 92 2 (.slice A 2 c) 2 (stv 2 2 l)/\ZcO w' w3.heap.size 2 2 l (trF I)/\Bz0 w3 w':=hT
 have HT:=hid hT';have HW3:=hid hw3;have HA3:=hid ha3;have HB3:Hid (Below w1.heap.size w1 w3):=hid (HB2.out.trans (hbu3.below HB2.out.size (fun i h=>h.1)));clear hT hT' hw3 ha3 hbu3 HF;go_wp2_with fail;((with_reducible refine HT.out.mono ?_);rintro e w4 ⟨AT,cT,l,hll2,rfl,ho2,hos,hb4⟩);have HD:=hid (ZvF (HW3.out.below hb4) HO.out HA3.out);have HLL:=hid hll2;have HTO:=hid ho2;have HTS:=hid hos;have HB4:=hid (bT0 HB3.out hb4);clear hll2 ho2 hos hb4 HT;obtain⟨⟨P0,c0,M0,d0⟩,⟨P1,c1,M1,d1⟩,rfl⟩:∃a b,l=[a,b]:=by
  match l,HLL.out with
  |[a,b],_=>exact⟨a,b,rfl⟩
 go_wp2_with fail;((with_reducible refine HD.out.mono ?_);rintro e w5 ⟨rfl,hb5⟩);obtain⟨bT,oT,rfl,lT,q0,q1⟩:=ZgN (k:=1) ((Rd.of_own HTO.out).below hb5) rfl (by decide);dsimp only at q0 q1;have hp:=(Rd.of_own (HTS.out 1 _ rfl).1).below hb5;rw[HTR.out] at hp;obtain⟨bP,oP,e',lP,hc⟩:=hp.2 (by decide);dsimp only at e';subst e';have p0:w5.cell? ⟨bP,oP,none⟩=some (.int .i64 (-4)):=hc 0 _ rfl;have p1:w5.cell? ⟨bP,oP+1,none⟩=some (.int .i64 (-2)):=hc 1 _ rfl;rw[Nat.one_mul] at q0 q1;clear hp hc;have HB5:=hid (bT0 HB4.out hb5);clear hb5;go_wp2_with fail;go_ret;exact⟨rfl,bT0 HB1.out HB5.out⟩
abbrev Zpx(c:Cfg)(k0 k1 k2 k3 k4 k5:Nat):Cfg:=⟨c.sh,c.ra,c.mo,k0,c.ba,k1,c.st,k2,k3,k4,k5⟩
def ZiM(tI pI tJ pJ mx j:Nat)(v:Value)(w:World):Prop:=(j=1->v=.int .i64 tI)/\(j=5->v=.int .i64 pI)/\(j=7->v=.int .i64 tJ)/\(j=12->v=.int .i64 pJ)/\(j=13->v=.int .i64 mx)/\(j=14->v=.bool (decide ((3000:Int)<(mx:Int))))
end
section
open Go.RowKit
variable{tI pI tJ pJ mx:Nat}{w:World}
theorem ZiM.v1:ZiM tI pI tJ pJ mx 1 (.int .i64 tI) w:=⟨fun _=>rfl,fun e=>by omega,fun e=>by omega,fun e=>by omega,fun e=>by omega,fun e=>by omega⟩
theorem ZiM.v5:ZiM tI pI tJ pJ mx 5 (.int .i64 pI) w:=⟨fun e=>by omega,fun _=>rfl,fun e=>by omega,fun e=>by omega,fun e=>by omega,fun e=>by omega⟩
theorem ZiM.v7:ZiM tI pI tJ pJ mx 7 (.int .i64 tJ) w:=⟨fun e=>by omega,fun e=>by omega,fun _=>rfl,fun e=>by omega,fun e=>by omega,fun e=>by omega⟩
theorem ZiM.v12:ZiM tI pI tJ pJ mx 12 (.int .i64 pJ) w:=⟨fun e=>by omega,fun e=>by omega,fun e=>by omega,fun _=>rfl,fun e=>by omega,fun e=>by omega⟩
theorem ZiM.v13:ZiM tI pI tJ pJ mx 13 (.int .i64 mx) w:=⟨fun e=>by omega,fun e=>by omega,fun e=>by omega,fun e=>by omega,fun _=>rfl,fun e=>by omega⟩
theorem ZiM.v14:ZiM tI pI tJ pJ mx 14 (.bool (decide ((3000:Int)<(mx:Int)))) w:=⟨fun e=>by omega,fun e=>by omega,fun e=>by omega,fun e=>by omega,fun e=>by omega,fun _=>rfl⟩
end
section
open Go.RowKit
def Zfj(o:Nat)(t p:Nat)(j:Nat)(v:Value):Prop:=(j=2->v=.int .i64 t)/\(j=6+o->v=.int .i64 p)/\((j=7+o\/j=8+o)->∃N:Nat,v=.tuple #[.int .i64 N,.bool true])/\((j=10+o\/j=12+o)->v=.bool true)
end
section
open Go.RowKit
variable{o t p j:Nat}
theorem Zfj.v2:Zfj o t p 2 (.int .i64 t):=⟨fun _=>rfl,fun e=>by omega,fun e=>by omega,fun e=>by omega⟩
theorem Zfj.v6(h:j=6+o):Zfj o t p j (.int .i64 p):=⟨fun e=>by omega,fun _=>rfl,fun e=>by omega,fun e=>by omega⟩
theorem Zfj.v7{N:Nat}(h:j=7+o\/j=8+o):Zfj o t p j (.tuple #[.int .i64 N,.bool true]):=⟨fun e=>by omega,fun e=>by omega,fun _=>⟨N,rfl⟩,fun e=>by omega⟩
theorem Zfj.v10(h:j=10+o\/j=12+o):Zfj o t p j (.bool true):=⟨fun e=>by omega,fun e=>by omega,fun e=>by omega,fun _=>rfl⟩
theorem Zfj.v9{v:Value}(h:j=9+o\/j=11+o):Zfj o t p j v:=⟨fun e=>by omega,fun e=>by omega,fun e=>by omega,fun e=>by omega⟩
end
section
open Go.RowKit
def ZwJ(T:Nat->Prop)(w0:World)(xb:Nat)(I:InC)(X:World):Prop:=(∃U s',Wd U X xb I s'/\At I (fun _=>I.rg.N) s'/\∀i,U i->T i\/(w0.heap.size<=i/\i<X.heap.size))/\But T w0 X
theorem ZwJ.below{T:Nat->Prop}{w0 X X':World}{xb:Nat}{I:InC}(h:ZwJ T w0 xb I X)(hb:Below X.heap.size X X'):ZwJ T w0 xb I X':=by
 obtain⟨⟨U,s',h1,h2,h3⟩,h4⟩:=h;refine⟨⟨U,s',h1.below hb,h2,fun i hi=>?_⟩,h4.call hb⟩;have:=hb.size
 rcases h3 i hi with h|h
 ·exact .inl h
 ·exact .inr ⟨h.1,by omega⟩
end
section
open Go.RowKit
variable{A AP AD S:Option Addr}{n cap m cS P cP D cD b:Nat}{c:Cfg}{w:World}
theorem ZwK(h:Blk w b 29 (inC A n cap c S m cS AP P cP AD D cD))(k:Nat):w.grownBy (w.setCell ⟨b,4,none⟩ (.int .i64 k)) (some b)/\Blk (w.setCell ⟨b,4,none⟩ (.int .i64 k)) b 29 (inC A n cap ⟨c.sh,c.ra,c.mo,(k:Int),c.ba,c.mi,c.st,c.bu,c.ch,c.wi,c.ca⟩ S m cS AP P cP AD D cD):=
 ⟨Zak (p:=⟨b,4,none⟩) (World.grownBy.refl w _) (.inl rfl) _,by simpa using h.set_ 4 (.int .i64 k)⟩
theorem ZwL(h:Blk w b 29 (inC A n cap c S m cS AP P cP AD D cD))(k:Nat):w.grownBy (w.setCell ⟨b,6,none⟩ (.int .i64 k)) (some b)/\Blk (w.setCell ⟨b,6,none⟩ (.int .i64 k)) b 29 (inC A n cap ⟨c.sh,c.ra,c.mo,c.wk,c.ba,(k:Int),c.st,c.bu,c.ch,c.wi,c.ca⟩ S m cS AP P cP AD D cD):=
 ⟨Zak (p:=⟨b,6,none⟩) (World.grownBy.refl w _) (.inl rfl) _,by simpa using h.set_ 6 (.int .i64 k)⟩
theorem ZwM(h:Blk w b 29 (inC A n cap c S m cS AP P cP AD D cD))(k:Nat):w.grownBy (w.setCell ⟨b,8,none⟩ (.int .i64 k)) (some b)/\Blk (w.setCell ⟨b,8,none⟩ (.int .i64 k)) b 29 (inC A n cap ⟨c.sh,c.ra,c.mo,c.wk,c.ba,c.mi,c.st,(k:Int),c.ch,c.wi,c.ca⟩ S m cS AP P cP AD D cD):=
 ⟨Zak (p:=⟨b,8,none⟩) (World.grownBy.refl w _) (.inl rfl) _,by simpa using h.set_ 8 (.int .i64 k)⟩
theorem ZwN(h:Blk w b 29 (inC A n cap c S m cS AP P cP AD D cD))(k:Nat):w.grownBy (w.setCell ⟨b,9,none⟩ (.int .i64 k)) (some b)/\Blk (w.setCell ⟨b,9,none⟩ (.int .i64 k)) b 29 (inC A n cap ⟨c.sh,c.ra,c.mo,c.wk,c.ba,c.mi,c.st,c.bu,(k:Int),c.wi,c.ca⟩ S m cS AP P cP AD D cD):=
 ⟨Zak (p:=⟨b,9,none⟩) (World.grownBy.refl w _) (.inl rfl) _,by simpa using h.set_ 9 (.int .i64 k)⟩
theorem ZwO(h:Blk w b 29 (inC A n cap c S m cS AP P cP AD D cD))(k:Nat):w.grownBy (w.setCell ⟨b,10,none⟩ (.int .i64 k)) (some b)/\Blk (w.setCell ⟨b,10,none⟩ (.int .i64 k)) b 29 (inC A n cap ⟨c.sh,c.ra,c.mo,c.wk,c.ba,c.mi,c.st,c.bu,c.ch,(k:Int),c.ca⟩ S m cS AP P cP AD D cD):=
 ⟨Zak (p:=⟨b,10,none⟩) (World.grownBy.refl w _) (.inl rfl) _,by simpa using h.set_ 10 (.int .i64 k)⟩
theorem ZwP(h:Blk w b 29 (inC A n cap c S m cS AP P cP AD D cD))(k:Nat):w.grownBy (w.setCell ⟨b,11,none⟩ (.int .i64 k)) (some b)/\Blk (w.setCell ⟨b,11,none⟩ (.int .i64 k)) b 29 (inC A n cap ⟨c.sh,c.ra,c.mo,c.wk,c.ba,c.mi,c.st,c.bu,c.ch,c.wi,(k:Int)⟩ S m cS AP P cP AD D cD):=
 ⟨Zak (p:=⟨b,11,none⟩) (World.grownBy.refl w _) (.inl rfl) _,by simpa using h.set_ 11 (.int .i64 k)⟩
end
section
open Go.RowKit
def ZiN:Code->Code
 |.seq _ b=>b
 |c=>c
def ZtX(f:Func):Code:=match f.body with
 |some c=>c
 |none=>.skip
theorem ZtY{A:Option Addr}{n cap:Nat}{c:Cfg}{S:Option Addr}{m cS:Nat}{AP:Option Addr}{P cP:Nat}{AD:Option Addr}{D cD:Nat}{w:World}{gi ob:Nat}{I J:InC}{k0 k1 k2 k3 k4 k5 wk ns tI tJ pI pJ:Nat}{a b z xb yb:Nat}{x12:World}{U1:Nat->Prop}{sx:WS}
  (HIO:Hid (I.Ok))
  (HJO:Hid (J.Ok))
  (HIP:Hid (I.P0.length=I.P))
  (HJP:Hid (J.P0.length=J.P/\J.P=P/\trF J=trF I/\J.c.st=I.c.st))
  (HP:Hid (I.P=P))
  (HRI:Hid (I.rg.n=wk))
  (HRJ:Hid (J.rg.n=k0))
  (HPI:Hid (I.tot=tI/\tI*wk=pI))
  (HPJ:Hid (J.tot=tJ/\tJ*k0=pJ))
  (HWK':Hid (c.wk=wk))
  (HNS:Hid (ns=I.c.st.toNat+1))
  (HTI:Hid (∀W,Calls prog 18 #[inV A n cap c S m cS AP P cP AD D cD] W fun e w'=>e=.returned (.int .i64 tI)/\Bz0 W w'))
  (HTJ:Hid (∀W,Calls prog 18 #[inV A n cap (Zpx c k0 k1 k2 k3 k4 k5) S m cS AP P cP AD D cD] W fun e w'=>e=.returned (.int .i64 tJ)/\Bz0 W w'))
  (HTR:Hid (∀W,Below w.heap.size w W->Calls prog 20 #[inV A n cap c S m cS AP P cP AD D cD] W fun e w'=>∃S cS l,l.length=ns/\e=.returned (.tuple #[.slice S ns cS,.int .i64 0])/\Rd w' 2 S ns (stv P P l)/\(∀i s,l[i]?=some s->Rd w' 1 s.1 P (iv (trF I (i+1)).1)/\Rd w' 1 s.2.2.1 P (iv (trF I (i+1)).2))/\Bz0 W w'))
  (HWK:Hid (∀W,Calls prog 8 #[] W fun e w'=>e=.returned (.bool true)/\Bz0 W w'))
  (HGZ:Hid (gi<a/\ob<a/\a<=b/\b<=z/\w.heap.size<=a))
  (HLI:Hid (pI<=3000/\pJ<=3000))
  (HI12:Hid (Blk x12 gi 29 (inC A n cap c S m cS AP P cP AD D cD)))
  (HO12:Hid (Blk x12 ob 29 (inC A n cap (Zpx c k0 k1 k2 k3 k4 k5) S m cS AP P cP AD D cD)))
  (HB12:Hid (Below w.heap.size w x12))
  (HY12:Hid (Wd (fun i=>b<=i/\i<z) x12 yb J (ZbA J J.rg.n)))
  (HX12:Hid (Wd U1 x12 xb I sx))
  (HAX:Hid (At I (fun _=>I.rg.N) sx))
  (HUX:Hid (∀i,U1 i->¬(fun i=>b<=i/\i<z) i))
  (HZ12:Hid (z<=x12.heap.size))
  (wpI:IntKind.i64.wrap ((tI:Int)*c.wk)=(pI:Int)) (wpJ:IntKind.i64.wrap ((tJ:Int)*(k0:Int))=(pJ:Int))
  {v0 v1 v3 v8 v10 v11 v13 v14 v15 v16 v17 v18 v19 v20 v21 v22 v23 v24 v25 v26 v27 v28 v29 v30 v31 v32 v33 v34 v35 v36 v37 v38 v39 v40 v41 v42 v43 v44 v45 v46 v47 v48 v49 v50 v51 v52 v53 v54 v55 v56 v57 v58 v59 v60 v61 v62 v63 v64 v65 v66 v67 v68 v69 v70 v71 v72 v73 v74 v75 v76 v77 v78 v79 v80 v81 v82 v83 v84 v85 v86 v87 v88 v89 v90 v91 v92 v93 v94 v95 v96 v97 v98 v99 v100 v101 v102 v103 v104 v105 v106 v107 v108 v109 v110 v111 v112 v113 v114 v115 v116 v117 v118 v119 v120 v121 v122 v123 v124 v125 v126 v127 v128 v129 v130 v131 v132 v133 v134 v135 v136 v137 v138 v139 v140 v141 v142 v143 v144 v145 v146 v147 v148 v149:Value} :
  Code.wp prog (ZiN (ZiN (ZiN (ZiN (ZiN (ZiN (ZiN (ZiN (ZiN (ZiN (ZiN (ZtX f4)))))))))))) (bodyPost prog f4 fun e w'=>e=.returned (.bool true)/\Bz0 w w') { tmps:=#[v0,v1,.pointer (some ⟨gi,0,none⟩),v3,.bool false,.pointer (some ⟨ob,0,none⟩),.pointer (some ⟨ob,0,none⟩),.pointer (some ⟨xb,0,none⟩),v8,.pointer (some ⟨yb,0,none⟩),v10,v11,.bool true,v13,v14,v15,v16,v17,v18,v19,v20,v21,v22,v23,v24,v25,v26,v27,v28,v29,v30,v31,v32,v33,v34,v35,v36,v37,v38,v39,v40,v41,v42,v43,v44,v45,v46,v47,v48,v49,v50,v51,v52,v53,v54,v55,v56,v57,v58,v59,v60,v61,v62,v63,v64,v65,v66,v67,v68,v69,v70,v71,v72,v73,v74,v75,v76,v77,v78,v79,v80,v81,v82,v83,v84,v85,v86,v87,v88,v89,v90,v91,v92,v93,v94,v95,v96,v97,v98,v99,v100,v101,v102,v103,v104,v105,v106,v107,v108,v109,v110,v111,v112,v113,v114,v115,v116,v117,v118,v119,v120,v121,v122,v123,v124,v125,v126,v127,v128,v129,v130,v131,v132,v133,v134,v135,v136,v137,v138,v139,v140,v141,v142,v143,v144,v145,v146,v147,v148,v149],defers:=[] } x12:=by
 dsimp only[ZtX,ZiN,f4];have d0:=cv0 HO12.out;have d1:=cv1 HO12.out;have d2:=cv2 HO12.out;have d3:=cv3 HO12.out;have d4:x12.cell? ⟨ob,4,none⟩=some (.int .i64 k0):=HO12.out.cell 4;have d5:=cv5 HO12.out;have d6:x12.cell? ⟨ob,6,none⟩=some (.int .i64 k1):=HO12.out.cell 6;have d7:=cv7 HO12.out;have d8:x12.cell? ⟨ob,8,none⟩=some (.int .i64 k2):=HO12.out.cell 8;have d9:x12.cell? ⟨ob,9,none⟩=some (.int .i64 k3):=HO12.out.cell 9;have d10:x12.cell? ⟨ob,10,none⟩=some (.int .i64 k4):=HO12.out.cell 10;have d11:x12.cell? ⟨ob,11,none⟩=some (.int .i64 k5):=HO12.out.cell 11;have d12:=cv12 HO12.out;have d13:=cv13 HO12.out;have d14:=cv14 HO12.out;have dl:=HO12.out.lt;have HFY:Hid (∀X,Below x12.heap.size x12 X->Calls prog 19 #[.pointer (some ⟨yb,0,none⟩),.int .i64 pJ] X fun e w'=>∃N:Nat,e=.returned (.tuple #[.int .i64 N,.bool true])/\(∃s',Wd (fun i=>(fun i=>b<=i/\i<z) i\/(X.heap.size<=i/\i<w'.heap.size)) w' yb J s'/\At J (fun _=>J.rg.N) s')/\But (fun i=>b<=i/\i<z) X w'):=hid (fun X hX=>Zhj (HY12.out.below hX) HJO.out (by have:=HJP.out;exact this.1) pJ (by rw[HPJ.out.1,HRJ.out,HPJ.out.2];exact YaF _) HLI.out.2);go_wp2_with fail;clear d0 d1 d2 d3 d4 d5 d6 d7 d8 d9 d10 d11 d12 d13 d14 dl;refine Zcw (fun X=>Blk X gi 29 (inC A n cap c S m cS AP P cP AD D cD)/\Blk X ob 29 (inC A n cap (Zpx c k0 k1 k2 k3 k4 k5) S m cS AP P cP AD D cD)) (fun X=>Below x12.heap.size x12 X) (ZwJ (fun i=>b<=i/\i<z) x12 yb J) (fun j v _=>Zfj 1 tJ pJ j v) [0,1,3,4,5,6] [2,7,8,9,10,11,12,13] 8 (by kernel_rfl) rfl (Zcu (by kernel_rfl)) ⟨HI12.out,HO12.out⟩ ((bR0 _ _).drew) (fun _ _ h hb=>⟨h.1.kept hb,h.2.kept hb⟩) (fun _ _ h hb=>bT0 h hb) (fun _ _ h hb=>h.below hb) (fun _ _ _ _ h _=>h) ?_;simp only[YaO,YaP,YaB,YaC];refine Zaa (.pointer (some ⟨yb,0,none⟩)) rfl (fun W hW=>?_) ?_
 ·go_simp
 go_simp;refine Zaa (inV A n cap (Zpx c k0 k1 k2 k3 k4 k5) S m cS AP P cP AD D cD) rfl (fun W hW=>?_) ?_
 ·have q0:=hW.2.cell 0;have q1:=hW.2.cell 1;have q2:=hW.2.cell 2;have q3:=hW.2.cell 3;have q4:=hW.2.cell 4;have q5:=hW.2.cell 5;have q6:=hW.2.cell 6;have q7:=hW.2.cell 7;have q8:=hW.2.cell 8;have q9:=hW.2.cell 9;have q10:=hW.2.cell 10;have q11:=hW.2.cell 11;have q12:=hW.2.cell 12;have q13:=hW.2.cell 13;have q14:=hW.2.cell 14;have ql:=hW.2.lt;go_simp
 go_simp;refine Zaa (.pointer (some ⟨ob,0,none⟩)) rfl (fun W hW=>?_) ?_
 ·go_simp
 go_simp;refine Zaa (.pointer (some ⟨ob,0,none⟩)) rfl (fun W hW=>?_) ?_
 ·go_simp
 go_simp;refine Zaa (.pointer (some ⟨ob,4,none⟩)) rfl (fun W hW=>?_) ?_
 ·go_simp
 go_simp;refine Zaa (.int .i64 k0) rfl (fun W hW=>?_) ?_
 ·have q4:=hW.2.cell 4;have ql:=hW.2.lt;go_simp
 go_simp;refine Znf.mk ?_ ?_ ?_
 ·intro j8 hj8 hne o ho8 vs X hS hA hV;simp only[List.mem_cons,List.not_mem_nil,or_false] at hj8;have HV:=hid hV;clear hS hA hV
  rcases hj8 with rfl|rfl|rfl|rfl|rfl|rfl|rfl|rfl
  ·cases ho8
   unfold Zcv;simp only[ZaL,ZaT,YaD,YaB,YaC,YaE];change wpList _ _ _ (_::[]) _ _;go_wp2_with fail;((with_reducible refine(HTJ.out X).mono ?_);rintro e w9 ⟨rfl,hb9⟩);have HB9:=hid hb9;clear hb9;go_wp2_with fail;exact⟨Zfj.v2,HB9.out⟩
  ·have v2:=(HV.out 2 (by simp) (by kernel_rfl)).1 rfl
   cases ho8
   unfold Zcv;simp only[ZaL,ZaT,YaD,YaB,YaC,YaE];rw[v2];change wpList _ _ _ (_::[]) _ _;go_wp2_with fail;exact⟨Zfj.v6 rfl,bR0 _ _⟩
  ·exact absurd rfl hne
  ·obtain⟨N,v7⟩:=(HV.out 8 (by simp) (by kernel_rfl)).2.2.1 (.inl rfl)
   cases ho8
   unfold Zcv;simp only[ZaL,ZaT,YaD,YaB,YaC,YaE];rw[v7];change wpList _ _ _ (_::[]) _ _;go_wp2_with fail;exact⟨Zfj.v7 (.inr rfl),bR0 _ _⟩
  ·obtain⟨N,v7⟩:=(HV.out 9 (by simp) (by kernel_rfl)).2.2.1 (.inr rfl)
   cases ho8
   unfold Zcv;simp only[ZaL,ZaT,YaD,YaB,YaC,YaE];rw[v7];change wpList _ _ _ (_::[]) _ _;go_wp2_with fail;exact⟨Zfj.v9 (.inl rfl),bR0 _ _⟩
  ·obtain⟨N,v7⟩:=(HV.out 9 (by simp) (by kernel_rfl)).2.2.1 (.inr rfl)
   cases ho8
   unfold Zcv;simp only[ZaL,ZaT,YaD,YaB,YaC,YaE];rw[v7];change wpList _ _ _ (_::[]) _ _;go_wp2_with fail;exact⟨Zfj.v10 (.inl rfl),bR0 _ _⟩
  ·cases ho8
   unfold Zcv;simp only[ZaL,ZaT,YaD,YaB,YaC,YaE];change wpList _ _ _ (_::[]) _ _;go_wp2_with fail;exact⟨Zfj.v9 (.inr rfl),bR0 _ _⟩
  ·have v10:=(HV.out 11 (by simp) (by kernel_rfl)).2.2.2 (.inl rfl)
   cases ho8
   unfold Zcv;simp only[ZaL,ZaT,YaD,YaB,YaC,YaE];rw[v10];change wpList _ _ _ (_::[]) _ _;go_wp2_with fail;exact⟨Zfj.v10 (.inr rfl),bR0 _ _⟩
 ·intro o ho8 vs X hS hA hV;have v6:=(hV 7 (by simp) (by kernel_rfl)).2.1 rfl;have HC:=hid (HFY.out X hA);have HSX:=hid hS;have HAX:=hid hA;clear hS hA hV
  cases ho8
  unfold Zsp;simp only[ZaL,ZaT,YaD,YaB,YaC,YaE];rw[v6];change wpList _ _ _ (_::[]) _ _;go_wp2_with fail;((with_reducible refine HC.out.mono ?_);rintro e w9 ⟨N,rfl,⟨s',hw9,hat9⟩,hb9⟩);have HW9:=hid hw9;have HAT9:=hid hat9;have HB9:=hid hb9;clear hw9 hat9 hb9;go_wp2_with fail;have hz:=HAX.out.size;refine⟨⟨HSX.out.1.but HB9.out (fun h=>?_),HSX.out.2.but HB9.out (fun h=>?_)⟩,⟨⟨_,s',HW9.out,HAT9.out,fun i hi=>?_⟩,(But.of_below _ HAX.out).trans HB9.out⟩,Zfj.v7 (.inl rfl),fun k _ u _ h=>h⟩
  ·have:=HGZ.out;have:=h.1;omega
  ·have:=HGZ.out;have:=h.1;omega
  ·rcases hi with hi|hi
   ·exact .inl hi
   ·exact .inr ⟨by omega,hi.2⟩
 ·intro vs2 x13 hS hB hV;obtain⟨⟨U2,sy,hwy,hay,huy⟩,hbut⟩:=hB;have v13:=(hV 13 (by simp)).2.2.2 (.inr rfl);simp only[ZaL,ZaT,YaD,YaB,YaC,YaE];rw[v13];have HI13:=hid hS.1;have HO13:=hid hS.2;have HB13:Hid (Below w.heap.size w x13):=hid (HB12.out.trans ((hbut.below (B:=a) (by have:=HGZ.out;have:=HZ12.out;omega) (fun i h=>by have:=h.1;have:=HGZ.out;omega)).mono (by have:=HGZ.out;omega)));have HX13:=hid (HX12.out.but hbut HUX.out);have HY13:=hid hwy;have HAY:=hid hay;clear hS hV hbut hwy hay huy v13 HI12 HO12 HX12 HY12 HB12 HFY HUX;unfold wpList;refine NoPanic.normal ?_;go_simp;obtain⟨c0,c1,c2,c3,c4,c5,c6,c7,c8,c9,c10,c11,c12,c13,c14⟩:=cl15 HI13.out;have cl:=HI13.out.lt;go_wp2_with fail;clear c0 c1 c2 c3 c4 c5 c6 c7 c8 c9 c10 c11 c12 c13 c14 cl;((with_reducible refine(HTR.out x13 HB13.out).mono ?_);rintro e w14 ⟨AT,cT,lT,hlT,rfl,hrT,hsT,hb14⟩);have HB14:=hid (bT0 HB13.out hb14);have HI14:=hid (HI13.out.kept hb14);have HO14:=hid (HO13.out.kept hb14);have HX14:=hid (HX13.out.below hb14);have HY14:=hid (HY13.out.below hb14);have HLT:=hid hlT;have HRT:=hid hrT;have HST:=hid hsT;clear hb14 hlT hrT hsT HB13 HI13 HO13 HX13 HY13;go_wp2_with fail;((with_reducible refine(HWK.out w14).mono ?_);rintro e w15 ⟨rfl,hb15⟩);have HB15:=hid (bT0 HB14.out hb15);have HI15:=hid (HI14.out.kept hb15);have HO15:=hid (HO14.out.kept hb15);have HY15:=hid (HY14.out.below hb15);have HAL:Hid (Calls prog 21 #[.pointer (some ⟨xb,0,none⟩),.int .i64 c.wk,.slice AT ns cT] w15 fun e w'=>e=.returned (.bool true)/\Bz0 w15 w'):=hid (by
   rw[HWK'.out];exact Zlz (HX14.out.below hb15) HIO.out HIP.out HAX.out (trF I) rfl P HP.out ns HNS.out AT cT lT HLT.out (HRT.out.below hb15) (fun i s hs=>⟨(HST.out i s hs).1.below hb15,(HST.out i s hs).2.below hb15⟩) wk HRI.out)
  have HRT15:=hid (HRT.out.below hb15);have HST15:Hid (∀i s,lT[i]?=some s->Rd w15 1 s.1 P (iv (trF I (i+1)).1)/\Rd w15 1 s.2.2.1 P (iv (trF I (i+1)).2)):=hid (fun i s hs=>⟨(HST.out i s hs).1.below hb15,(HST.out i s hs).2.below hb15⟩);clear hb15 HX14 HY14 HI14 HO14 HB14 HRT HST;have c4:=cv4 HI15.out;have cl:=HI15.out.lt;go_wp2_with fail;clear c4 cl;((with_reducible refine HAL.out.mono ?_);rintro e w16 ⟨rfl,hb16⟩);have HB16:=hid (bT0 HB15.out hb16);have HO16:=hid (HO15.out.kept hb16);have HAL2:Hid (Calls prog 21 #[.pointer (some ⟨yb,0,none⟩),.int .i64 k0,.slice AT ns cT] w16 fun e w'=>e=.returned (.bool true)/\Bz0 w16 w'):=hid (by
   have hj:=HJP.out;exact Zlz (HY15.out.below hb16) HJO.out hj.1 HAY.out (trF I) hj.2.2.1 P hj.2.1 ns (by rw[hj.2.2.2];exact HNS.out) AT cT lT HLT.out (HRT15.out.below hb16) (fun i s hs=>⟨(HST15.out i s hs).1.below hb16,(HST15.out i s hs).2.below hb16⟩) k0 HRJ.out)
  clear hb16 HB15 HO15 HY15 HAL;have d4:w16.cell? ⟨ob,4,none⟩=some (.int .i64 k0):=HO16.out.cell 4;have dl:=HO16.out.lt;go_wp2_with fail;clear d4 dl;((with_reducible refine HAL2.out.mono ?_);rintro e w17 ⟨rfl,hb17⟩);have HB17:=hid (bT0 HB16.out hb17);clear hb17;go_wp2_with fail;go_ret;exact⟨rfl,HB17.out⟩
theorem ZtZ{A:Option Addr}{n cap:Nat}{c:Cfg}{S:Option Addr}{m cS:Nat}{AP:Option Addr}{P cP:Nat}{AD:Option Addr}{D cD:Nat}{w:World}{gi ob:Nat}{I J:InC}{k0 k1 k2 k3 k4 k5 wk ns tI tJ pI pJ:Nat}{mx:Nat}{w8:World}
  (HIO:Hid (I.Ok))
  (HJO:Hid (J.Ok))
  (HIP:Hid (I.P0.length=I.P))
  (HJP:Hid (J.P0.length=J.P/\J.P=P/\trF J=trF I/\J.c.st=I.c.st))
  (HP:Hid (I.P=P))
  (HRI:Hid (I.rg.n=wk))
  (HRJ:Hid (J.rg.n=k0))
  (HPI:Hid (I.tot=tI/\tI*wk=pI))
  (HPJ:Hid (J.tot=tJ/\tJ*k0=pJ))
  (HWK':Hid (c.wk=wk))
  (HNS:Hid (ns=I.c.st.toNat+1))
  (HTI:Hid (∀W,Calls prog 18 #[inV A n cap c S m cS AP P cP AD D cD] W fun e w'=>e=.returned (.int .i64 tI)/\Bz0 W w'))
  (HTJ:Hid (∀W,Calls prog 18 #[inV A n cap (Zpx c k0 k1 k2 k3 k4 k5) S m cS AP P cP AD D cD] W fun e w'=>e=.returned (.int .i64 tJ)/\Bz0 W w'))
  (HTR:Hid (∀W,Below w.heap.size w W->Calls prog 20 #[inV A n cap c S m cS AP P cP AD D cD] W fun e w'=>∃S cS l,l.length=ns/\e=.returned (.tuple #[.slice S ns cS,.int .i64 0])/\Rd w' 2 S ns (stv P P l)/\(∀i s,l[i]?=some s->Rd w' 1 s.1 P (iv (trF I (i+1)).1)/\Rd w' 1 s.2.2.1 P (iv (trF I (i+1)).2))/\Bz0 W w'))
  (HWK:Hid (∀W,Calls prog 8 #[] W fun e w'=>e=.returned (.bool true)/\Bz0 W w'))
  (HMX:Hid (max pI pJ=mx))
  (HI8:Hid (Blk w8 gi 29 (inC A n cap c S m cS AP P cP AD D cD)))
  (HOJ:Hid (Blk w8 ob 29 (inC A n cap (Zpx c k0 k1 k2 k3 k4 k5) S m cS AP P cP AD D cD)))
  (HB8:Hid (Below w.heap.size w w8))
  (HNI:Hid (∀W,Below w.heap.size w W->Calls prog 12 #[inV A n cap c S m cS AP P cP AD D cD] W fun e w'=>∃xb,e=.returned (.tuple #[.pointer (some ⟨xb,0,none⟩),.int .i64 0])/\Wd (fun i=>W.heap.size<=i/\i<w'.heap.size) w' xb I (ZbA I I.rg.n)/\Bz0 W w'))
  (HNJ:Hid (∀W,Below w.heap.size w W->Calls prog 12 #[inV A n cap (Zpx c k0 k1 k2 k3 k4 k5) S m cS AP P cP AD D cD] W fun e w'=>∃xb,e=.returned (.tuple #[.pointer (some ⟨xb,0,none⟩),.int .i64 0])/\Wd (fun i=>W.heap.size<=i/\i<w'.heap.size) w' xb J (ZbA J J.rg.n)/\Bz0 W w'))
  (wpI:IntKind.i64.wrap ((tI:Int)*c.wk)=(pI:Int)) (wpJ:IntKind.i64.wrap ((tJ:Int)*(k0:Int))=(pJ:Int))
  {v0 v1 v3 v7 v8 v9 v10 v11 v12 v13 v14 v15 v16 v17 v18 v19 v20 v21 v22 v23 v24 v25 v26 v27 v28 v29 v30 v31 v32 v33 v34 v35 v36 v37 v38 v39 v40 v41 v42 v43 v44 v45 v46 v47 v48 v49 v50 v51 v52 v53 v54 v55 v56 v57 v58 v59 v60 v61 v62 v63 v64 v65 v66 v67 v68 v69 v70 v71 v72 v73 v74 v75 v76 v77 v78 v79 v80 v81 v82 v83 v84 v85 v86 v87 v88 v89 v90 v91 v92 v93 v94 v95 v96 v97 v98 v99 v100 v101 v102 v103 v104 v105 v106 v107 v108 v109 v110 v111 v112 v113 v114 v115 v116 v117 v118 v119 v120 v121 v122 v123 v124 v125 v126 v127 v128 v129 v130 v131 v132 v133 v134 v135 v136 v137 v138 v139 v140 v141 v142 v143 v144 v145 v146 v147 v148 v149:Value} :
  Code.wp prog (ZiN (ZiN (ZiN (ZiN (ZiN (ZiN (ZiN (ZtX f4)))))))) (bodyPost prog f4 fun e w'=>e=.returned (.bool true)/\Bz0 w w') { tmps:=#[v0,v1,.pointer (some ⟨gi,0,none⟩),v3,.bool false,.pointer (some ⟨ob,0,none⟩),.pointer (some ⟨ob,0,none⟩),v7,v8,v9,v10,v11,v12,v13,v14,v15,v16,v17,v18,v19,v20,v21,v22,v23,v24,v25,v26,v27,v28,v29,v30,v31,v32,v33,v34,v35,v36,v37,v38,v39,v40,v41,v42,v43,v44,v45,v46,v47,v48,v49,v50,v51,v52,v53,v54,v55,v56,v57,v58,v59,v60,v61,v62,v63,v64,v65,v66,v67,v68,v69,v70,v71,v72,v73,v74,v75,v76,v77,v78,v79,v80,v81,v82,v83,v84,v85,v86,v87,v88,v89,v90,v91,v92,v93,v94,v95,v96,v97,v98,v99,v100,v101,v102,v103,v104,v105,v106,v107,v108,v109,v110,v111,v112,v113,v114,v115,v116,v117,v118,v119,v120,v121,v122,v123,v124,v125,v126,v127,v128,v129,v130,v131,v132,v133,v134,v135,v136,v137,v138,v139,v140,v141,v142,v143,v144,v145,v146,v147,v148,v149],defers:=[] } w8:=by
 dsimp only[ZtX,ZiN,f4];obtain⟨c0,c1,c2,c3,c4,c5,c6,c7,c8,c9,c10,c11,c12,c13,c14⟩:=cl15 HI8.out;have cl:=HI8.out.lt;have d0:=cv0 HOJ.out;have d1:=cv1 HOJ.out;have d2:=cv2 HOJ.out;have d3:=cv3 HOJ.out;have d4:w8.cell? ⟨ob,4,none⟩=some (.int .i64 k0):=HOJ.out.cell 4;have d5:=cv5 HOJ.out;have d6:w8.cell? ⟨ob,6,none⟩=some (.int .i64 k1):=HOJ.out.cell 6;have d7:=cv7 HOJ.out;have d8:w8.cell? ⟨ob,8,none⟩=some (.int .i64 k2):=HOJ.out.cell 8;have d9:w8.cell? ⟨ob,9,none⟩=some (.int .i64 k3):=HOJ.out.cell 9;have d10:w8.cell? ⟨ob,10,none⟩=some (.int .i64 k4):=HOJ.out.cell 10;have d11:w8.cell? ⟨ob,11,none⟩=some (.int .i64 k5):=HOJ.out.cell 11;have d12:=cv12 HOJ.out;have d13:=cv13 HOJ.out;have d14:=cv14 HOJ.out;have dl:=HOJ.out.lt;go_wp2_with fail;refine ZaY (Zag w8) (ZiM tI pI tJ pJ mx) (fun _ _ _ _=>True) [0,2,3,4,6,8,9,10,11] [1,5,7,12,13,14] [] (by kernel_rfl) (Zcu (by kernel_rfl)) (Zag.start w8) (fun _ _ _ _ h=>h) (fun _ _ _ _ h _=>h) ?_;simp only[YaO,YaP,YaB,YaC];refine Zaa (inV A n cap c S m cS AP P cP AD D cD) rfl (fun W hW=>?_) ?_
 ·obtain⟨hc,-,-⟩:=hW;go_simp
 go_simp;refine Zaa (.pointer (some ⟨gi,0,none⟩)) rfl (fun W hW=>?_) ?_
 ·obtain⟨hc,-,-⟩:=hW;go_simp
 go_simp;refine Zaa (.pointer (some ⟨gi,4,none⟩)) rfl (fun W hW=>?_) ?_
 ·obtain⟨hc,-,-⟩:=hW;go_simp
 go_simp;refine Zaa (.int .i64 c.wk) rfl (fun W hW=>?_) ?_
 ·obtain⟨hc,-,-⟩:=hW;go_simp
 go_simp;refine Zaa (inV A n cap (Zpx c k0 k1 k2 k3 k4 k5) S m cS AP P cP AD D cD) rfl (fun W hW=>?_) ?_
 ·obtain⟨hc,-,-⟩:=hW;go_simp
 go_simp;refine Zaa (.pointer (some ⟨ob,0,none⟩)) rfl (fun W hW=>?_) ?_
 ·obtain⟨hc,-,-⟩:=hW;go_simp
 go_simp;refine Zaa (.pointer (some ⟨ob,0,none⟩)) rfl (fun W hW=>?_) ?_
 ·obtain⟨hc,-,-⟩:=hW;go_simp
 go_simp;refine Zaa (.pointer (some ⟨ob,4,none⟩)) rfl (fun W hW=>?_) ?_
 ·obtain⟨hc,-,-⟩:=hW;go_simp
 go_simp;refine Zaa (.int .i64 k0) rfl (fun W hW=>?_) ?_
 ·obtain⟨hc,-,-⟩:=hW;go_simp
 go_simp;clear c0 c1 c2 c3 c4 c5 c6 c7 c8 c9 c10 c11 c12 c13 c14 cl;clear d0 d1 d2 d3 d4 d5 d6 d7 d8 d9 d10 d11 d12 d13 d14 dl;refine Zeh.mk ?_ ?_
 ·intro j8 hj8 o ho8 vs W hS hV;simp only[List.mem_cons,List.not_mem_nil,or_false] at hj8;have HS:=hid hS;have HV:=hid hV;clear hS hV
  rcases hj8 with rfl|rfl|rfl|rfl|rfl|rfl
  ·cases ho8
   unfold Zbl;simp only[ZaL,ZaT,YaD,YaB,YaC,YaE];change wpList _ _ _ (_::[]) _ _;go_wp2_with fail;((with_reducible refine(HTI.out W).mono ?_);rintro e w9 ⟨rfl,hb9⟩);have HB9:=hid hb9;clear hb9;go_wp2_with fail;exact⟨HS.out.call HB9.out,ZiM.v1,HB9.out⟩
  ·have v1:=(HV.out 1 (by simp) (by kernel_rfl)).1 rfl
   cases ho8
   unfold Zbl;simp only[ZaL,ZaT,YaD,YaB,YaC,YaE];rw[v1];change wpList _ _ _ (_::[]) _ _;go_wp2_with fail;exact⟨HS.out,ZiM.v5,bR0 _ _⟩
  ·cases ho8
   unfold Zbl;simp only[ZaL,ZaT,YaD,YaB,YaC,YaE];change wpList _ _ _ (_::[]) _ _;go_wp2_with fail;((with_reducible refine(HTJ.out W).mono ?_);rintro e w9 ⟨rfl,hb9⟩);have HB9:=hid hb9;clear hb9;go_wp2_with fail;exact⟨HS.out.call HB9.out,ZiM.v7,HB9.out⟩
  ·have v7:=(HV.out 7 (by simp) (by kernel_rfl)).2.2.1 rfl
   cases ho8
   unfold Zbl;simp only[ZaL,ZaT,YaD,YaB,YaC,YaE];rw[v7];change wpList _ _ _ (_::[]) _ _;go_wp2_with fail;exact⟨HS.out,ZiM.v12,bR0 _ _⟩
  ·have v5:=(HV.out 5 (by simp) (by kernel_rfl)).2.1 rfl;have v12:=(HV.out 12 (by simp) (by kernel_rfl)).2.2.2.1 rfl
   cases ho8
   unfold Zbl;simp only[ZaL,ZaT,YaD,YaB,YaC,YaE];rw[v5,v12];change wpList _ _ _ (_::[]) _ _;go_wp2_with fail
   all_goals first
    | (rw[show ((pI:Nat):Int)=(mx:Int) by have:=HMX.out;omega];exact⟨HS.out,ZiM.v13,bR0 _ _⟩)
    | (rw[show ((pJ:Nat):Int)=(mx:Int) by have:=HMX.out;omega];exact⟨HS.out,ZiM.v13,bR0 _ _⟩)
  ·have v13:=(HV.out 13 (by simp) (by kernel_rfl)).2.2.2.2.1 rfl
   cases ho8
   unfold Zbl;simp only[ZaL,ZaT,YaD,YaB,YaC,YaE];rw[v13];change wpList _ _ _ (_::[]) _ _;go_wp2_with fail;exact⟨HS.out,ZiM.v14,bR0 _ _⟩
 ·intro vs W hS hV hR;have v14:=(hV 14 (by simp)).2.2.2.2.2 rfl;simp only[ZaL,ZaT,YaO,YaP,YaD,YaB,YaC,YaE];rw[v14];have HB9:=hid (bT0 HB8.out hS.2.2);have HI9:=hid (HI8.out.kept hS.2.2);have HO9:=hid (HOJ.out.kept hS.2.2);clear hS hV hR v14 HB8 HI8 HOJ;unfold wpList;refine NoPanic.normal ?_;go_simp
  by_cases hm:(3000:Int)<(mx:Int)
  ·rw[YaJ hm];go_wp2_with fail;((with_reducible refine(HWK.out W).mono ?_);rintro e w2 ⟨rfl,hb2⟩);have HB2:=hid (bT0 HB9.out hb2);clear hb2;go_wp2_with fail;go_ret;exact⟨rfl,HB2.out⟩
  ·rw[YaI hm];have HLI:Hid (pI<=3000/\pJ<=3000):=hid (by have:=HMX.out;omega);clear hm HMX;obtain⟨c0,c1,c2,c3,c4,c5,c6,c7,c8,c9,c10,c11,c12,c13,c14⟩:=cl15 HI9.out;have cl:=HI9.out.lt;go_wp2_with fail;clear c0 c1 c2 c3 c4 c5 c6 c7 c8 c9 c10 c11 c12 c13 c14 cl;((with_reducible refine(HNI.out W HB9.out).mono ?_);rintro e w10 ⟨xb,rfl,hx10,hb10⟩);have HB10:=hid (bT0 HB9.out hb10);have HI10:=hid (HI9.out.kept hb10);have HO10:=hid (HO9.out.kept hb10);have HX10:=hid hx10;have HZ10:=hid hb10.size;have GIW:=hid (And.intro HI9.out.lt HO9.out.lt);have HWZ:=hid HB9.out.size;clear hx10 hb10 HB9 HI9 HO9;have d0:=cv0 HO10.out;have d1:=cv1 HO10.out;have d2:=cv2 HO10.out;have d3:=cv3 HO10.out;have d4:w10.cell? ⟨ob,4,none⟩=some (.int .i64 k0):=HO10.out.cell 4;have d5:=cv5 HO10.out;have d6:w10.cell? ⟨ob,6,none⟩=some (.int .i64 k1):=HO10.out.cell 6;have d7:=cv7 HO10.out;have d8:w10.cell? ⟨ob,8,none⟩=some (.int .i64 k2):=HO10.out.cell 8;have d9:w10.cell? ⟨ob,9,none⟩=some (.int .i64 k3):=HO10.out.cell 9;have d10:w10.cell? ⟨ob,10,none⟩=some (.int .i64 k4):=HO10.out.cell 10;have d11:w10.cell? ⟨ob,11,none⟩=some (.int .i64 k5):=HO10.out.cell 11;have d12:=cv12 HO10.out;have d13:=cv13 HO10.out;have d14:=cv14 HO10.out;have dl:=HO10.out.lt;go_wp2_with fail;clear d0 d1 d2 d3 d4 d5 d6 d7 d8 d9 d10 d11 d12 d13 d14 dl;((with_reducible refine(HNJ.out w10 HB10.out).mono ?_);rintro e w11 ⟨yb,rfl,hy11,hb11⟩);have HB11:=hid (bT0 HB10.out hb11);have HI11:=hid (HI10.out.kept hb11);have HO11:=hid (HO10.out.kept hb11);have HX11:=hid (HX10.out.below hb11);have HY11:=hid hy11;have HZ11:=hid hb11.size;clear hy11 hb11 HB10 HI10 HO10 HX10 HNI HNJ;obtain⟨c0,c1,c2,c3,c4,c5,c6,c7,c8,c9,c10,c11,c12,c13,c14⟩:=cl15 HI11.out;have cl:=HI11.out.lt;have HGZ:Hid (gi<W.heap.size/\ob<W.heap.size/\W.heap.size<=w10.heap.size/\w10.heap.size<=w11.heap.size/\w.heap.size<=W.heap.size):=hid ⟨GIW.out.1,GIW.out.2,HZ10.out,HZ11.out,HWZ.out⟩;have HFX:Hid (∀X,Below w11.heap.size w11 X->Calls prog 19 #[.pointer (some ⟨xb,0,none⟩),.int .i64 pI] X fun e w'=>∃N:Nat,e=.returned (.tuple #[.int .i64 N,.bool true])/\(∃s',Wd (fun i=>(fun i=>W.heap.size<=i/\i<w10.heap.size) i\/(X.heap.size<=i/\i<w'.heap.size)) w' xb I s'/\At I (fun _=>I.rg.N) s')/\But (fun i=>W.heap.size<=i/\i<w10.heap.size) X w'):=hid (fun X hX=>Zhj (HX11.out.below hX) HIO.out HIP.out pI (by rw[HPI.out.1,HRI.out,HPI.out.2];exact YaF _) HLI.out.1);go_wp2_with fail;clear c0 c1 c2 c3 c4 c5 c6 c7 c8 c9 c10 c11 c12 c13 c14 cl;refine Zcw (fun X=>Blk X gi 29 (inC A n cap c S m cS AP P cP AD D cD)/\Blk X ob 29 (inC A n cap (Zpx c k0 k1 k2 k3 k4 k5) S m cS AP P cP AD D cD)) (fun X=>Below w11.heap.size w11 X) (ZwJ (fun i=>W.heap.size<=i/\i<w10.heap.size) w11 xb I) (fun j v _=>Zfj 0 tI pI j v) [0,1,3,4,5] [2,6,7,8,9,10,11,12] 7 (by kernel_rfl) rfl (Zcu (by kernel_rfl)) ⟨HI11.out,HO11.out⟩ ((bR0 _ _).drew) (fun _ _ h hb=>⟨h.1.kept hb,h.2.kept hb⟩) (fun _ _ h hb=>bT0 h hb) (fun _ _ h hb=>h.below hb) (fun _ _ _ _ h _=>h) ?_;simp only[YaO,YaP,YaB,YaC];refine Zaa (.pointer (some ⟨xb,0,none⟩)) rfl (fun W hW=>?_) ?_
   ·go_simp
   go_simp;refine Zaa (inV A n cap c S m cS AP P cP AD D cD) rfl (fun W hW=>?_) ?_
   ·have q0:=hW.1.cell 0;have q1:=hW.1.cell 1;have q2:=hW.1.cell 2;have q3:=hW.1.cell 3;have q4:=hW.1.cell 4;have q5:=hW.1.cell 5;have q6:=hW.1.cell 6;have q7:=hW.1.cell 7;have q8:=hW.1.cell 8;have q9:=hW.1.cell 9;have q10:=hW.1.cell 10;have q11:=hW.1.cell 11;have q12:=hW.1.cell 12;have q13:=hW.1.cell 13;have q14:=hW.1.cell 14;have ql:=hW.1.lt;go_simp
   go_simp;refine Zaa (.pointer (some ⟨gi,0,none⟩)) rfl (fun W hW=>?_) ?_
   ·go_simp
   go_simp;refine Zaa (.pointer (some ⟨gi,4,none⟩)) rfl (fun W hW=>?_) ?_
   ·go_simp
   go_simp;refine Zaa (.int .i64 c.wk) rfl (fun W hW=>?_) ?_
   ·have q4:=hW.1.cell 4;have ql:=hW.1.lt;go_simp
   go_simp;refine Znf.mk ?_ ?_ ?_
   ·intro j8 hj8 hne o ho8 vs X hS hA hV;simp only[List.mem_cons,List.not_mem_nil,or_false] at hj8;have HV:=hid hV;clear hS hA hV
    rcases hj8 with rfl|rfl|rfl|rfl|rfl|rfl|rfl|rfl
    ·cases ho8
     unfold Zcv;simp only[ZaL,ZaT,YaD,YaB,YaC,YaE];change wpList _ _ _ (_::[]) _ _;go_wp2_with fail;((with_reducible refine(HTI.out X).mono ?_);rintro e w9 ⟨rfl,hb9⟩);have HB9:=hid hb9;clear hb9;go_wp2_with fail;exact⟨Zfj.v2,HB9.out⟩
    ·have v2:=(HV.out 2 (by simp) (by kernel_rfl)).1 rfl
     cases ho8
     unfold Zcv;simp only[ZaL,ZaT,YaD,YaB,YaC,YaE];rw[v2];change wpList _ _ _ (_::[]) _ _;go_wp2_with fail;exact⟨Zfj.v6 rfl,bR0 _ _⟩
    ·exact absurd rfl hne
    ·obtain⟨N,v7⟩:=(HV.out 7 (by simp) (by kernel_rfl)).2.2.1 (.inl rfl)
     cases ho8
     unfold Zcv;simp only[ZaL,ZaT,YaD,YaB,YaC,YaE];rw[v7];change wpList _ _ _ (_::[]) _ _;go_wp2_with fail;exact⟨Zfj.v7 (.inr rfl),bR0 _ _⟩
    ·obtain⟨N,v7⟩:=(HV.out 8 (by simp) (by kernel_rfl)).2.2.1 (.inr rfl)
     cases ho8
     unfold Zcv;simp only[ZaL,ZaT,YaD,YaB,YaC,YaE];rw[v7];change wpList _ _ _ (_::[]) _ _;go_wp2_with fail;exact⟨Zfj.v9 (.inl rfl),bR0 _ _⟩
    ·obtain⟨N,v7⟩:=(HV.out 8 (by simp) (by kernel_rfl)).2.2.1 (.inr rfl)
     cases ho8
     unfold Zcv;simp only[ZaL,ZaT,YaD,YaB,YaC,YaE];rw[v7];change wpList _ _ _ (_::[]) _ _;go_wp2_with fail;exact⟨Zfj.v10 (.inl rfl),bR0 _ _⟩
    ·cases ho8
     unfold Zcv;simp only[ZaL,ZaT,YaD,YaB,YaC,YaE];change wpList _ _ _ (_::[]) _ _;go_wp2_with fail;exact⟨Zfj.v9 (.inr rfl),bR0 _ _⟩
    ·have v10:=(HV.out 10 (by simp) (by kernel_rfl)).2.2.2 (.inl rfl)
     cases ho8
     unfold Zcv;simp only[ZaL,ZaT,YaD,YaB,YaC,YaE];rw[v10];change wpList _ _ _ (_::[]) _ _;go_wp2_with fail;exact⟨Zfj.v10 (.inr rfl),bR0 _ _⟩
   ·intro o ho8 vs X hS hA hV;have v6:=(hV 6 (by simp) (by kernel_rfl)).2.1 rfl;have HC:=hid (HFX.out X hA);have HSX:=hid hS;have HAX:=hid hA;clear hS hA hV
    cases ho8
    unfold Zsp;simp only[ZaL,ZaT,YaD,YaB,YaC,YaE];rw[v6];change wpList _ _ _ (_::[]) _ _;go_wp2_with fail;((with_reducible refine HC.out.mono ?_);rintro e w9 ⟨N,rfl,⟨s',hw9,hat9⟩,hb9⟩);have HW9:=hid hw9;have HAT9:=hid hat9;have HB9:=hid hb9;clear hw9 hat9 hb9;go_wp2_with fail;have hz:=HAX.out.size;refine⟨⟨HSX.out.1.but HB9.out (fun h=>?_),HSX.out.2.but HB9.out (fun h=>?_)⟩,⟨⟨_,s',HW9.out,HAT9.out,fun i hi=>?_⟩,(But.of_below _ HAX.out).trans HB9.out⟩,Zfj.v7 (.inl rfl),fun k _ u _ h=>h⟩
    ·have:=HGZ.out;have:=h.1;omega
    ·have:=HGZ.out;have:=h.1;omega
    ·rcases hi with hi|hi
     ·exact .inl hi
     ·exact .inr ⟨by omega,hi.2⟩
   ·intro vs x12 hS hB hV;obtain⟨⟨U1,sx,hwx,hax,hux⟩,hbut⟩:=hB;have v12:=(hV 12 (by simp)).2.2.2 (.inr rfl);simp only[ZaL,ZaT,YaD,YaB,YaC,YaE];rw[v12];have HI12:=hid hS.1;have HO12:=hid hS.2;have HB12:Hid (Below w.heap.size w x12):=hid (HB11.out.trans ((hbut.below (B:=W.heap.size) (by have:=HGZ.out;omega) (fun i h=>h.1)).mono (by have:=HGZ.out;omega)));have HY12:=hid (HY11.out.but hbut (fun i h1 h2=>by have:=h1.1;have:=h2.2;omega));have HX12:=hid hwx;have HAX:=hid hax;have HUX:Hid (∀i,U1 i->¬(fun i=>w10.heap.size<=i/\i<w11.heap.size) i):=hid (fun i h1 h2=>by
     have h3:=h2.1;have h4:=h2.2
     rcases hux i h1 with h|h
     ·have:=h.2;omega
     ·have:=h.1;omega)
    have HZ12:=hid hbut.size;clear hS hV hbut hwx hax hux v12 HI11 HO11 HX11 HY11 HB11 HFX;unfold wpList;refine NoPanic.normal ?_;go_simp
    rename_i Kx hKx
    apply hKx
    exact ZtY (a:=W.heap.size) (b:=w10.heap.size) (z:=w11.heap.size) (U1:=U1) (sx:=sx) HIO HJO HIP HJP HP HRI HRJ HPI HPJ HWK' HNS HTI HTJ HTR HWK HGZ HLI HI12 HO12 HB12 HY12 HX12 HAX HUX HZ12 wpI wpJ
end
section
open Go.RowKit
variable(A:Option Addr)(n cap:Nat)(l:List Int)(c:Cfg)(S:Option Addr)(m cS:Nat)(es:List ExS)(zs:List (List Int×List Int))(AP:Option Addr)(P cP:Nat)(P0:List Int)(AD:Option Addr)(D cD:Nat)(L:List Int)(x0 x1 x2 x3 x4 x5:Nat)(w:World)
theorem Zh1(hcap:n<=cap)(hln:l.length=n)(hr:Rd w 1 A n (iv l))(hc:In1 c.ra/\In1 c.mo)(hl:es.length=m)(hzs:zs.length=m)(h:Rd w 2 S m (exV es))(hex:∀(i:Nat) (e:ExS) (z:List Int×List Int),es[i]?=some e->zs[i]?=some z->ZvN w e z)
  (hpl:P0.length=P) (hrp:Rd w 1 AP P (iv P0)) (hpi:Zaw P0) (hD:L.length=D) (hrd:Rd w 1 AD D (uv L)) (hu:InU L) (hx0:x0<256) (hx1:x1<256) (hx2:x2<256) (hx3:x3<256) (hx4:x4<256) (hx5:x5<256) :
  Calls prog 4 #[inV A n cap c S m cS AP P cP AD D cD,.agg #[.int .u8 x0,.int .u8 x1,.int .u8 x2,.int .u8 x3,.int .u8 x4,.int .u8 x5]] w fun e w'=>e=.returned (.bool true)/\Bz0 w w':=by
 have HG:Hid (∀W,(w.alloc (.cells (inC A n cap c S m cS AP P cP AD D cD) 29)).alloc (.cells #[.int .u8 x0,.int .u8 x1,.int .u8 x2,.int .u8 x3,.int .u8 x4,.int .u8 x5] 60)=W->Below w.heap.size w W/\Blk W w.heap.size 29 (inC A n cap c S m cS AP P cP AD D cD)/\Blk W (w.heap.size+1) 60 #[.int .u8 x0,.int .u8 x1,.int .u8 x2,.int .u8 x3,.int .u8 x4,.int .u8 x5]):=hid (by
  rintro W rfl;exact⟨(bA0 _).alloc (by simp) _,(Blk.new _ _ _).alloc _,Blk.new' _ _ (by simp)⟩)
 have HF:=hid (fun W (b:Below w.heap.size w W)=>ZmX A n cap l c S m cS es AP P cP AD D cD W none 0 0 hcap hln (hr.below b) hl (h.below b));have HWK:=hid (fun W=>Zpr W);have HAT:=hid (fun(f:ZvM n m P D l c es)=>Zvu (cP:=cP) (cS:=cS) (cD:=cD) hcap hln hr hl hzs h hex hpl hrp hD hrd f);have HOK:=hid (fun(f:ZvM n m P D l c es)=>Zvv (A:=A) (cap:=cap) (S:=S) (cS:=cS) (AP:=AP) (cP:=cP) (AD:=AD) (cD:=cD) hln hc hl hzs hex hpi hD hu f);have HX:Hid (x0<256/\x1<256/\x2<256/\x3<256/\x4<256/\x5<256):=hid ⟨hx0,hx1,hx2,hx3,hx4,hx5⟩;have HPL:=hid hpl;clear h hl hln hr hcap hrd hD hu hx0 hx1 hx2 hx3 hx4 hx5 hc hzs hex hpl hrp hpi
 go_enter func4,ntmps4
 go_wp2_with fail;obtain⟨w0,hw0⟩:∃w0,(w.alloc (.cells (inC A n cap c S m cS AP P cP AD D cD) 29)).alloc (.cells #[.int .u8 x0,.int .u8 x1,.int .u8 x2,.int .u8 x3,.int .u8 x4,.int .u8 x5] 60)=w0:=⟨_,rfl⟩;obtain⟨hB,hI,hX⟩:=HG.out _ hw0;obtain⟨gi,hgi⟩:∃g,w.heap.size=g:=⟨_,rfl⟩;rw[hgi] at hI hX;rw[hw0,hgi];have HGI:=hid hgi;clear hw0 HG hgi;have HB:=hid hB;have HI:=hid hI;have HX0:=hid hX;((with_reducible refine(HF.out _ HB.out).mono ?_);rintro e w1 ⟨b,rfl,hbt,hb1⟩);have HB1:=hid (bT0 HB.out hb1);have HI1:=hid (HI.out.kept hb1);have HX1:=hid (HX0.out.kept hb1);have HBT:=hid hbt;clear hB hI hX hbt hb1 HB HI HX0
 cases b
 ·go_wp2_with fail;((with_reducible refine(HWK.out w1).mono ?_);rintro e w2 ⟨rfl,hb2⟩);have HB2:=hid (bT0 HB1.out hb2);clear hb2;go_wp2_with fail;go_ret;exact⟨rfl,HB2.out⟩
 ·have HFT:=hid (show ZvM n m P D l c es from HBT.out (by trivial));have hIA:=HAT.out HFT.out;have hIO:=HOK.out HFT.out;have hwb:1<=c.wk/\c.wk<=c.ba:=⟨hIO.nums.wk.1,hIO.nums.bw.1⟩;obtain⟨I,hI⟩:∃I,Zxj A n cap l c S m cS es zs AP P cP P0 AD D cD L=I:=⟨_,rfl⟩;rw[hI] at hIA hIO;have HIE:=hid hI;have HIA:=hid hIA;have HIO:=hid hIO;have HNU:=hid hIO.nums;clear hI hIA hIO HBT HAT HOK HF;obtain⟨c0,c1,c2,c3,c4,c5,c6,c7,c8,c9,c10,c11,c12,c13,c14⟩:=cl15 HI1.out;have cl:=HI1.out.lt;go_wp2_with fail;clear c0 c1 c2 c3 c4 c5 c6 c7 c8 c9 c10 c11 c12 c13 c14 cl;obtain⟨w2,hw2⟩:∃w2,w1.alloc (.cells (inC A n cap c S m cS AP P cP AD D cD) 29)=w2:=⟨_,rfl⟩;obtain⟨ob,hob⟩:∃g,w1.heap.size=g:=⟨_,rfl⟩;have hb2:Below w1.heap.size w1 w2:=by rw[<-hw2];exact bA0 _
  have ho2:Blk w2 ob 29 (inC A n cap c S m cS AP P cP AD D cD):=by rw[<-hw2];exact Blk.new' _ _ hob
  rw[hw2,hob];have HB2:=hid (bT0 HB1.out hb2);have HI2:=hid (HI1.out.kept hb2);have HX2:=hid (HX1.out.kept hb2);have HO2:=hid ho2;have HGO:Hid (gi+1<ob):=hid (by have:=HX1.out.lt;omega);clear hw2 hob hb2 ho2 HI1 HX1;obtain⟨ba,hba⟩:∃b:Nat,c.ba=b:=⟨c.ba.toNat,by omega⟩;have hba1:1<=ba:=by omega
  have n0:w2.cell? ⟨gi+1,0,none⟩=some (.int .u8 x0):=HX2.out.cell 0;have nl:=HX2.out.lt;have o5:=cv5 HO2.out;have o4:=cv4 HO2.out;have f4:=HO2.out.frozen 4;have ol:=HO2.out.lt;rw[hba] at o5;go_wp2_with fail;obtain⟨mn,hmn⟩:∃mn,min ba 6=mn:=⟨_,rfl⟩;have hmn1:1<=mn/\mn<=6/\mn<=ba:=by omega
  have hmi:(if (6:Int)<(ba:Int) then (6:Int) else (ba:Int))=(mn:Int):=by split<;>omega
  obtain⟨rm,hrm⟩:∃rm,x0%mn=rm:=⟨_,rfl⟩;have hrm1:rm<mn:=by rw[<-hrm];exact Nat.mod_lt _ (by omega)
  have htm:((x0:Nat):Int).tmod (mn:Int)=(rm:Int):=by rw[Int.tmod_eq_emod_of_nonneg (by omega),<-hrm];exact(Int.natCast_emod x0 mn).symm
  have hnz:¬mn=0:=by omega
  obtain⟨k0,hk0⟩:∃k0,1+rm=k0:=⟨_,rfl⟩;have wx0:IntKind.i64.wrap (x0:Int)=(x0:Int):=IntWalk.i64_in _ (by have:=HX.out;omega);have wk0:IntKind.i64.wrap (1+(rm:Int))=(k0:Int):=by rw[IntWalk.i64_in _ (by omega)];omega
  have HK0:Hid (1<=k0/\k0<=6/\(k0:Int)<=c.ba):=hid (by omega);clear hmn hmn1 hrm hrm1 hk0;refine Zad (Zag w2) [0,1,2,3,4,5,6,7,8,9,10,11,12] [] [13] (by as_aux_lemma=>kernel_rfl) (by as_aux_lemma=>kernel_rfl) (Zag.start w2) ?_;simp only[YaO,YaP,YaB,YaC];refine Zaa (.pointer (some ⟨ob,0,none⟩)) rfl (fun W hW=>?_) ?_
  ·obtain⟨hc,-,-⟩:=hW;go_simp
  go_simp;refine Zaa (.pointer (some ⟨gi+1,0,none⟩)) rfl (fun W hW=>?_) ?_
  ·obtain⟨hc,-,-⟩:=hW;go_simp
  go_simp;refine Zaa (.int .u8 x0) rfl (fun W hW=>?_) ?_
  ·obtain⟨hc,-,-⟩:=hW;go_simp
  go_simp;refine Zaa (.int .i64 x0) rfl (fun W hW=>?_) ?_
  ·obtain⟨hc,-,-⟩:=hW;go_simp
  go_simp;refine Zaa (.pointer (some ⟨ob,0,none⟩)) rfl (fun W hW=>?_) ?_
  ·obtain⟨hc,-,-⟩:=hW;go_simp
  go_simp;refine Zaa (.pointer (some ⟨ob,0,none⟩)) rfl (fun W hW=>?_) ?_
  ·obtain⟨hc,-,-⟩:=hW;go_simp
  go_simp;refine Zaa (.pointer (some ⟨ob,5,none⟩)) rfl (fun W hW=>?_) ?_
  ·obtain⟨hc,-,-⟩:=hW;go_simp
  go_simp;refine Zaa (.int .i64 ba) rfl (fun W hW=>?_) ?_
  ·obtain⟨hc,-,-⟩:=hW;go_simp
  go_simp;refine Zaa (.int .i64 mn) rfl (fun W hW=>?_) ?_
  ·obtain⟨hc,-,-⟩:=hW;go_simp
  go_simp;refine Zaa (.int .i64 rm) rfl (fun W hW=>?_) ?_
  ·obtain⟨hc,-,-⟩:=hW;go_simp
  go_simp;refine Zaa (.int .i64 k0) rfl (fun W hW=>?_) ?_
  ·obtain⟨hc,-,-⟩:=hW;go_simp
  go_simp;refine Zaa (.pointer (some ⟨ob,0,none⟩)) rfl (fun W hW=>?_) ?_
  ·obtain⟨hc,-,-⟩:=hW;go_simp
  go_simp;refine Zaa (.pointer (some ⟨ob,4,none⟩)) rfl (fun W hW=>?_) ?_
  ·obtain⟨hc,-,-⟩:=hW;go_simp
  go_simp;unfold ZbZ;unfold Zah;change wpList _ _ _ (_::[]) _ w2.drew;go_wp2_with fail;refine NoPanic.normal ?_;clear n0 nl o5 o4 f4 ol hmi htm hnz wx0 wk0;have hp:=ZwK HO2.out k0;have hx:=HX2.out.grown hp.1 (by intro e;injection e with e;have:=HGO.out;omega);obtain⟨w3,hw⟩:∃W,(w2.setCell ⟨ob,4,none⟩ (.int .i64 k0)).drew=W:=⟨_,rfl⟩;have HO3:Hid (Blk w3 ob _ _):=hid (by rw[<-hw];exact hp.2);have HX3:Hid (Blk w3 (gi+1) _ _):=hid (by rw[<-hw];exact hx);have hb:Below w2.heap.size w2 w3\/True:=.inr trivial;have HO3G:Hid (w2.grownBy w3 (some ob)):=hid (by rw[<-hw];exact ZcS hp.1);rw[hw];clear hw hp hx hb;obtain⟨r1,hr1⟩:∃r,x1%9=r:=⟨_,rfl⟩;obtain⟨k1,hk1⟩:∃k,1+r1=k:=⟨_,rfl⟩;obtain⟨k2,hk2⟩:∃k,1+x2=k:=⟨_,rfl⟩;obtain⟨k3,hk3⟩:∃k,1+x3=k:=⟨_,rfl⟩;have htm:((x1:Nat):Int).tmod 9=(r1:Int):=by rw[Int.tmod_eq_emod_of_nonneg (by omega)];omega
  have wx1:IntKind.i64.wrap (x1:Int)=(x1:Int):=IntWalk.i64_in _ (by have:=HX.out;omega);have wx2:IntKind.i64.wrap (x2:Int)=(x2:Int):=IntWalk.i64_in _ (by have:=HX.out;omega);have wx3:IntKind.i64.wrap (x3:Int)=(x3:Int):=IntWalk.i64_in _ (by have:=HX.out;omega);have wk1:IntKind.i64.wrap (1+(r1:Int))=(k1:Int):=by rw[IntWalk.i64_in _ (by omega)];omega
  have wk2:IntKind.i64.wrap (1+(x2:Int))=(k2:Int):=by rw[IntWalk.i64_in _ (by have:=HX.out;omega)];omega
  have wk3:IntKind.i64.wrap (1+(x3:Int))=(k3:Int):=by rw[IntWalk.i64_in _ (by have:=HX.out;omega)];omega
  have HK1:Hid ((1<=k1/\k1<=9)/\(1<=k2/\k2<=256)/\1<=k3/\k3<=256):=hid (by have:=HX.out;omega);clear hr1 hk1 hk2 hk3;have z1:=HX3.out.cell 1;have z2:=HX3.out.cell 2;have z3:=HX3.out.cell 3;have zl:=HX3.out.lt;have o6:=cv6 HO3.out;have f6:=HO3.out.frozen 6;have ol:=HO3.out.lt;go_wp2_with fail;refine Zad (fun W=>Blk W (gi+1) 60 #[.int .u8 x0,.int .u8 x1,.int .u8 x2,.int .u8 x3,.int .u8 x4,.int .u8 x5]) [0,1,2,3,4,5,6,7,8,9,10,11,12,13,14,15] [16,17,18,19,20,21,22,23] [24] (by as_aux_lemma=>kernel_rfl) (by as_aux_lemma=>kernel_rfl) (HX3.out) ?_;simp only[YaO,YaP,YaB,YaC];refine Zaa (.pointer (some ⟨ob,0,none⟩)) rfl (fun W hW=>?_) ?_
  ·have z1:=hW.cell 1;have z2:=hW.cell 2;have z3:=hW.cell 3;have zl:=hW.lt;go_simp
  go_simp;refine Zaa (.pointer (some ⟨ob,0,none⟩)) rfl (fun W hW=>?_) ?_
  ·have z1:=hW.cell 1;have z2:=hW.cell 2;have z3:=hW.cell 3;have zl:=hW.lt;go_simp
  go_simp;refine Zaa (.pointer (some ⟨ob,0,none⟩)) rfl (fun W hW=>?_) ?_
  ·have z1:=hW.cell 1;have z2:=hW.cell 2;have z3:=hW.cell 3;have zl:=hW.lt;go_simp
  go_simp;refine Zaa (.pointer (some ⟨gi+1,1,none⟩)) rfl (fun W hW=>?_) ?_
  ·have z1:=hW.cell 1;have z2:=hW.cell 2;have z3:=hW.cell 3;have zl:=hW.lt;go_simp
  go_simp;refine Zaa (.int .u8 x1) rfl (fun W hW=>?_) ?_
  ·have z1:=hW.cell 1;have z2:=hW.cell 2;have z3:=hW.cell 3;have zl:=hW.lt;go_simp
  go_simp;refine Zaa (.int .i64 x1) rfl (fun W hW=>?_) ?_
  ·have z1:=hW.cell 1;have z2:=hW.cell 2;have z3:=hW.cell 3;have zl:=hW.lt;go_simp
  go_simp;refine Zaa (.int .i64 r1) rfl (fun W hW=>?_) ?_
  ·have z1:=hW.cell 1;have z2:=hW.cell 2;have z3:=hW.cell 3;have zl:=hW.lt;go_simp
  go_simp;refine Zaa (.int .i64 k1) rfl (fun W hW=>?_) ?_
  ·have z1:=hW.cell 1;have z2:=hW.cell 2;have z3:=hW.cell 3;have zl:=hW.lt;go_simp
  go_simp;refine Zaa (.pointer (some ⟨gi+1,2,none⟩)) rfl (fun W hW=>?_) ?_
  ·have z1:=hW.cell 1;have z2:=hW.cell 2;have z3:=hW.cell 3;have zl:=hW.lt;go_simp
  go_simp;refine Zaa (.int .u8 x2) rfl (fun W hW=>?_) ?_
  ·have z1:=hW.cell 1;have z2:=hW.cell 2;have z3:=hW.cell 3;have zl:=hW.lt;go_simp
  go_simp;refine Zaa (.int .i64 x2) rfl (fun W hW=>?_) ?_
  ·have z1:=hW.cell 1;have z2:=hW.cell 2;have z3:=hW.cell 3;have zl:=hW.lt;go_simp
  go_simp;refine Zaa (.int .i64 k2) rfl (fun W hW=>?_) ?_
  ·have z1:=hW.cell 1;have z2:=hW.cell 2;have z3:=hW.cell 3;have zl:=hW.lt;go_simp
  go_simp;refine Zaa (.pointer (some ⟨gi+1,3,none⟩)) rfl (fun W hW=>?_) ?_
  ·have z1:=hW.cell 1;have z2:=hW.cell 2;have z3:=hW.cell 3;have zl:=hW.lt;go_simp
  go_simp;refine Zaa (.int .u8 x3) rfl (fun W hW=>?_) ?_
  ·have z1:=hW.cell 1;have z2:=hW.cell 2;have z3:=hW.cell 3;have zl:=hW.lt;go_simp
  go_simp;refine Zaa (.int .i64 x3) rfl (fun W hW=>?_) ?_
  ·have z1:=hW.cell 1;have z2:=hW.cell 2;have z3:=hW.cell 3;have zl:=hW.lt;go_simp
  go_simp;refine Zaa (.int .i64 k3) rfl (fun W hW=>?_) ?_
  ·have z1:=hW.cell 1;have z2:=hW.cell 2;have z3:=hW.cell 3;have zl:=hW.lt;go_simp
  go_simp;change Zah _ _ _ _ _ (_::_::_::_::_::_::_::_::[]) _ _;unfold Zah;go_wp2_with fail;refine⟨HX3.out,?_⟩;unfold Zah;change wpList _ _ _ (_::[]) _ _;go_wp2_with fail;refine⟨HX3.out,?_⟩;unfold Zah;change wpList _ _ _ (_::[]) _ _;go_wp2_with fail;clear z1 z2 z3 zl htm wx1 wx2 wx3 wk1 wk2 wk3 o6 f6 ol;have hp:=ZwL HO3.out k1;have hx:=HX3.out.grown hp.1 (by intro e;injection e with e;have:=HGO.out;omega);obtain⟨w4,hw⟩:∃W,(w3.setCell ⟨ob,6,none⟩ (.int .i64 k1)).drew=W:=⟨_,rfl⟩;have HO4:Hid (Blk w4 ob _ _):=hid (by rw[<-hw];exact hp.2);have HX4:Hid (Blk w4 (gi+1) _ _):=hid (by rw[<-hw];exact hx);have hb:Below w3.heap.size w3 w4\/True:=.inr trivial;have HO4G:Hid (w3.grownBy w4 (some ob)):=hid (by rw[<-hw];exact ZcS hp.1);rw[hw];clear hw hp hx hb;refine⟨HX4.out,?_⟩;have o8:=HO4.out.cell 8;have f8:=HO4.out.frozen 8;have ol:=HO4.out.lt;unfold Zah;change wpList _ _ _ (_::[]) _ _;go_wp2_with fail;refine⟨HX4.out,?_⟩;unfold Zah;change wpList _ _ _ (_::[]) _ _;go_wp2_with fail;refine⟨HX4.out,?_⟩;unfold Zah;change wpList _ _ _ (_::[]) _ _;go_wp2_with fail;clear o8 f8 ol;have hp:=ZwM HO4.out k2;have hx:=HX4.out.grown hp.1 (by intro e;injection e with e;have:=HGO.out;omega);obtain⟨w5,hw⟩:∃W,(w4.setCell ⟨ob,8,none⟩ (.int .i64 k2))=W:=⟨_,rfl⟩;have HO5:Hid (Blk w5 ob _ _):=hid (by rw[<-hw];exact hp.2);have HX5:Hid (Blk w5 (gi+1) _ _):=hid (by rw[<-hw];exact hx);have hb:Below w4.heap.size w4 w5\/True:=.inr trivial;have HO5G:Hid (w4.grownBy w5 (some ob)):=hid (by rw[<-hw];exact hp.1);rw[hw];clear hw hp hx hb;refine⟨HX5.out,?_⟩;have o9:=HO5.out.cell 9;have f9:=HO5.out.frozen 9;have ol:=HO5.out.lt;unfold Zah;change wpList _ _ _ (_::[]) _ _;go_wp2_with fail;refine⟨HX5.out,?_⟩;unfold Zah;change wpList _ _ _ (_::[]) _ _;go_wp2_with fail;refine⟨HX5.out,?_⟩;unfold Zah;change wpList _ _ _ (_::[]) _ _;go_wp2_with fail;refine NoPanic.normal ?_;clear o9 f9 ol;have hp:=ZwN HO5.out k3;have hx:=HX5.out.grown hp.1 (by intro e;injection e with e;have:=HGO.out;omega);obtain⟨w6,hw⟩:∃W,(w5.setCell ⟨ob,9,none⟩ (.int .i64 k3))=W:=⟨_,rfl⟩;have HO6:Hid (Blk w6 ob _ _):=hid (by rw[<-hw];exact hp.2);have HX6:Hid (Blk w6 (gi+1) _ _):=hid (by rw[<-hw];exact hx);have hb:Below w5.heap.size w5 w6\/True:=.inr trivial;have HO6G:Hid (w5.grownBy w6 (some ob)):=hid (by rw[<-hw];exact hp.1);rw[hw];clear hw hp hx hb;obtain⟨k4,hk4⟩:∃k,1+x4=k:=⟨_,rfl⟩;obtain⟨k5,hk5⟩:∃k,1+x5=k:=⟨_,rfl⟩;have wx4:IntKind.i64.wrap (x4:Int)=(x4:Int):=IntWalk.i64_in _ (by have:=HX.out;omega);have wx5:IntKind.i64.wrap (x5:Int)=(x5:Int):=IntWalk.i64_in _ (by have:=HX.out;omega);have wk4:IntKind.i64.wrap (1+(x4:Int))=(k4:Int):=by rw[IntWalk.i64_in _ (by have:=HX.out;omega)];omega
  have wk5:IntKind.i64.wrap (1+(x5:Int))=(k5:Int):=by rw[IntWalk.i64_in _ (by have:=HX.out;omega)];omega
  have HK4:Hid ((1<=k4/\k4<=256)/\1<=k5/\k5<=256):=hid (by have:=HX.out;omega);clear hk4 hk5;have z4:=HX6.out.cell 4;have z5:=HX6.out.cell 5;have zl:=HX6.out.lt;have o10:=HO6.out.cell 10;have f10:=HO6.out.frozen 10;have ol:=HO6.out.lt;go_wp2_with fail;refine Zad (fun W=>Blk W (gi+1) 60 #[.int .u8 x0,.int .u8 x1,.int .u8 x2,.int .u8 x3,.int .u8 x4,.int .u8 x5]) [0,1,2,3,4,5,6,7,8,9] [10,11,12,13,14] [15] (by as_aux_lemma=>kernel_rfl) (by as_aux_lemma=>kernel_rfl) (HX6.out) ?_;simp only[YaO,YaP,YaB,YaC];refine Zaa (.pointer (some ⟨ob,0,none⟩)) rfl (fun W hW=>?_) ?_
  ·have z4:=hW.cell 4;have z5:=hW.cell 5;have zl:=hW.lt;go_simp
  go_simp;refine Zaa (.pointer (some ⟨ob,0,none⟩)) rfl (fun W hW=>?_) ?_
  ·have z4:=hW.cell 4;have z5:=hW.cell 5;have zl:=hW.lt;go_simp
  go_simp;refine Zaa (.pointer (some ⟨gi+1,4,none⟩)) rfl (fun W hW=>?_) ?_
  ·have z4:=hW.cell 4;have z5:=hW.cell 5;have zl:=hW.lt;go_simp
  go_simp;refine Zaa (.int .u8 x4) rfl (fun W hW=>?_) ?_
  ·have z4:=hW.cell 4;have z5:=hW.cell 5;have zl:=hW.lt;go_simp
  go_simp;refine Zaa (.int .i64 x4) rfl (fun W hW=>?_) ?_
  ·have z4:=hW.cell 4;have z5:=hW.cell 5;have zl:=hW.lt;go_simp
  go_simp;refine Zaa (.int .i64 k4) rfl (fun W hW=>?_) ?_
  ·have z4:=hW.cell 4;have z5:=hW.cell 5;have zl:=hW.lt;go_simp
  go_simp;refine Zaa (.pointer (some ⟨gi+1,5,none⟩)) rfl (fun W hW=>?_) ?_
  ·have z4:=hW.cell 4;have z5:=hW.cell 5;have zl:=hW.lt;go_simp
  go_simp;refine Zaa (.int .u8 x5) rfl (fun W hW=>?_) ?_
  ·have z4:=hW.cell 4;have z5:=hW.cell 5;have zl:=hW.lt;go_simp
  go_simp;refine Zaa (.int .i64 x5) rfl (fun W hW=>?_) ?_
  ·have z4:=hW.cell 4;have z5:=hW.cell 5;have zl:=hW.lt;go_simp
  go_simp;refine Zaa (.int .i64 k5) rfl (fun W hW=>?_) ?_
  ·have z4:=hW.cell 4;have z5:=hW.cell 5;have zl:=hW.lt;go_simp
  go_simp;change Zah _ _ _ _ _ (_::_::_::_::_::[]) _ _;unfold Zah;go_wp2_with fail;refine⟨HX6.out,?_⟩;unfold Zah;change wpList _ _ _ (_::[]) _ _;go_wp2_with fail;refine⟨HX6.out,?_⟩;unfold Zah;change wpList _ _ _ (_::[]) _ _;go_wp2_with fail;clear z4 z5 zl wx4 wx5 wk4 wk5 o10 f10 ol;have hp:=ZwO HO6.out k4;have hx:=HX6.out.grown hp.1 (by intro e;injection e with e;have:=HGO.out;omega);obtain⟨w7,hw⟩:∃W,(w6.setCell ⟨ob,10,none⟩ (.int .i64 k4)).drew=W:=⟨_,rfl⟩;have HO7:Hid (Blk w7 ob _ _):=hid (by rw[<-hw];exact hp.2);have HX7:Hid (Blk w7 (gi+1) _ _):=hid (by rw[<-hw];exact hx);have hb:Below w6.heap.size w6 w7\/True:=.inr trivial;have HO7G:Hid (w6.grownBy w7 (some ob)):=hid (by rw[<-hw];exact ZcS hp.1);rw[hw];clear hw hp hx hb;refine⟨HX7.out,?_⟩;have o11:=HO7.out.cell 11;have f11:=HO7.out.frozen 11;have ol:=HO7.out.lt;unfold Zah;change wpList _ _ _ (_::[]) _ _;go_wp2_with fail;refine⟨HX7.out,?_⟩;unfold Zah;change wpList _ _ _ (_::[]) _ _;go_wp2_with fail;refine⟨HX7.out,?_⟩;unfold Zah;change wpList _ _ _ (_::[]) _ _;go_wp2_with fail;refine NoPanic.normal ?_;clear o11 f11 ol;have hp:=ZwP HO7.out k5;have hx:=HX7.out.grown hp.1 (by intro e;injection e with e;have:=HGO.out;omega);obtain⟨w8,hw⟩:∃W,(w7.setCell ⟨ob,11,none⟩ (.int .i64 k5))=W:=⟨_,rfl⟩;have HO8:Hid (Blk w8 ob _ _):=hid (by rw[<-hw];exact hp.2);have HX8:Hid (Blk w8 (gi+1) _ _):=hid (by rw[<-hw];exact hx);have hb:Below w7.heap.size w7 w8\/True:=.inr trivial;have HO8G:Hid (w7.grownBy w8 (some ob)):=hid (by rw[<-hw];exact hp.1);rw[hw];clear hw hp hx hb;have HOJ:Hid (Blk w8 ob 29 (inC A n cap (Zpx c k0 k1 k2 k3 k4 k5) S m cS AP P cP AD D cD)):=hid HO8.out;have hgo:w.heap.size<=ob:=by have:=HGI.out;have:=HGO.out;omega
  have hb3:=Zai HB2.out HB2.out.size HO3G.out hgo;have hb4:=Zai hb3 hb3.size HO4G.out hgo;have hb5:=Zai hb4 hb4.size HO5G.out hgo;have hb6:=Zai hb5 hb5.size HO6G.out hgo;have hb7:=Zai hb6 hb6.size HO7G.out hgo;have HB8:=hid (Zai hb7 hb7.size HO8G.out hgo);have hne:gi≠ob:=by have:=HGO.out;omega
  have hsn:∀g:Nat,g=ob->some gi≠some g:=fun g e h=>hne (by injection h with h;omega)
  have HI8:Hid (Blk w8 gi 29 (inC A n cap c S m cS AP P cP AD D cD)):=hid ((((((HI2.out.grown HO3G.out (hsn _ rfl)).grown HO4G.out (hsn _ rfl)).grown HO5G.out (hsn _ rfl)).grown HO6G.out (hsn _ rfl)).grown HO7G.out (hsn _ rfl)).grown HO8G.out (hsn _ rfl));clear hgo hb3 hb4 hb5 hb6 hb7 hne hsn HO2 HO3 HO4 HO5 HO6 HO7 HO8 HO3G HO4G HO5G HO6G HO7G HO8G HX2 HX3 HX4 HX5 HX6 HX7 HX8 HB1 HB2 HI2;obtain⟨J,hJ⟩:∃J,I.div k0 k1 k2 k3 k4 k5=J:=⟨_,rfl⟩;have hic:I.c=c/\I.P=P/\I.P0=P0:=by rw[<-HIE.out];exact⟨rfl,rfl,rfl⟩
  have hjo:J.Ok:=by
   rw[<-hJ];exact ZwF HIO.out ⟨by have:=HK0.out;omega,by have:=HK0.out;omega,by rw[hic.1];exact HK0.out.2.2⟩ (by have:=HK1.out;omega) (by have:=HK1.out;omega) (by have:=HK1.out;omega) (by have:=HK4.out;omega) (by have:=HK4.out;omega)
  have HJO:=hid hjo;have HIP:Hid (I.P0.length=I.P):=hid (by rw[hic.2.1,hic.2.2];exact HPL.out);have HJP:Hid (J.P0.length=J.P/\J.P=P/\trF J=trF I/\J.c.st=I.c.st):=hid (by
   rw[<-hJ];exact⟨HIP.out,hic.2.1,funext (fun i=>ZwH _ _ _ _ _ _ _),rfl⟩)
  have HP:Hid (I.P=P):=hid hic.2.1;obtain⟨wk,hwk⟩:∃k:Nat,c.wk=k:=⟨c.wk.toNat,by omega⟩;have HRI:Hid (I.rg.n=wk):=hid (by have:=ZtW HIO.out;rw[hic.1] at this;omega);have HRJ:Hid (J.rg.n=k0):=hid (by have:=ZtW hjo;rw[<-hJ] at this ⊢;have e:(I.div k0 k1 k2 k3 k4 k5).c.wk=(k0:Int):=rfl;omega);have HWK':=hid hwk;have HTI:Hid (∀W,Calls prog 18 #[inV A n cap c S m cS AP P cP AD D cD] W fun e w'=>e=.returned (.int .i64 I.tot)/\Bz0 W w'):=hid (fun W=>by
   have h:=Zhk I W HIO.out;have e:=HIE.out;subst e;exact h)
  have HTJ:Hid (∀W,Calls prog 18 #[inV A n cap (Zpx c k0 k1 k2 k3 k4 k5) S m cS AP P cP AD D cD] W fun e w'=>e=.returned (.int .i64 J.tot)/\Bz0 W w'):=hid (fun W=>by
   have h:=Zhk J W hjo;have e:=HIE.out;subst hJ;subst e;exact h)
  have HNI:Hid (∀W,Below w.heap.size w W->Calls prog 12 #[inV A n cap c S m cS AP P cP AD D cD] W fun e w'=>∃xb,e=.returned (.tuple #[.pointer (some ⟨xb,0,none⟩),.int .i64 0])/\Wd (fun i=>W.heap.size<=i/\i<w'.heap.size) w' xb I (ZbA I I.rg.n)/\Bz0 W w'):=hid (fun W b=>by
   have h:=Zsa I W (HIA.out.below b) HIO.out;have e:=HIE.out;subst e;exact h)
  have HNJ:Hid (∀W,Below w.heap.size w W->Calls prog 12 #[inV A n cap (Zpx c k0 k1 k2 k3 k4 k5) S m cS AP P cP AD D cD] W fun e w'=>∃xb,e=.returned (.tuple #[.pointer (some ⟨xb,0,none⟩),.int .i64 0])/\Wd (fun i=>W.heap.size<=i/\i<w'.heap.size) w' xb J (ZbA J J.rg.n)/\Bz0 W w'):=hid (fun W b=>by
   have h:=Zsa J W (by rw[<-hJ];exact ZwG (HIA.out.below b) _ _ _ _ _ _) hjo;have e:=HIE.out;subst hJ;subst e;exact h)
  obtain⟨ns,hns⟩:∃ns,ns=I.c.st.toNat+1:=⟨_,rfl⟩;have HTR:Hid (∀W,Below w.heap.size w W->Calls prog 20 #[inV A n cap c S m cS AP P cP AD D cD] W fun e w'=>∃S cS l,l.length=ns/\e=.returned (.tuple #[.slice S ns cS,.int .i64 0])/\Rd w' 2 S ns (stv P P l)/\(∀i s,l[i]?=some s->Rd w' 1 s.1 P (iv (trF I (i+1)).1)/\Rd w' 1 s.2.2.1 P (iv (trF I (i+1)).2))/\Bz0 W w'):=hid (fun W b=>by
   have h:=Zm9 I W (HIA.out.below b) HIO.out ns hns;rw[HP.out] at h;have e:=HIE.out;subst e;exact h)
  have HNS:=hid hns;have htI:=Zuo HIO.out;have htJ:=Zuo hjo;obtain⟨tI,hti⟩:∃t,I.tot=t:=⟨_,rfl⟩;obtain⟨tJ,htj⟩:∃t,J.tot=t:=⟨_,rfl⟩;rw[hti] at HTI htI;rw[htj] at HTJ htJ;have hk06:=HK0.out;have hwk6:wk<=6:=by have:=HFT.out.wk;omega
  obtain⟨pI,hpI⟩:∃p,tI*wk=p:=⟨_,rfl⟩;obtain⟨pJ,hpJ⟩:∃p,tJ*k0=p:=⟨_,rfl⟩;have hpIb:pI<=12*(8*200000000)*6:=by rw[<-hpI];exact Nat.mul_le_mul htI hwk6
  have hpJb:pJ<=12*(8*200000000)*6:=by rw[<-hpJ];exact Nat.mul_le_mul htJ hk06.2.1
  have wpI:IntKind.i64.wrap ((tI:Int)*c.wk)=(pI:Int):=by rw[hwk,<-Int.natCast_mul,hpI];exact IntWalk.i64_in _ (by omega)
  have wpJ:IntKind.i64.wrap ((tJ:Int)*(k0:Int))=(pJ:Int):=by rw[<-Int.natCast_mul,hpJ];exact IntWalk.i64_in _ (by omega)
  obtain⟨mx,hmx⟩:∃mx,max pI pJ=mx:=⟨_,rfl⟩;have HPI:Hid (I.tot=tI/\tI*wk=pI):=hid ⟨hti,hpI⟩;have HPJ:Hid (J.tot=tJ/\tJ*k0=pJ):=hid ⟨htj,hpJ⟩;have HMX:=hid hmx;clear hJ hic hjo hns hti htj htI htJ hpI hpJ hwk hk06 hwk6 hmx hba hba1 hwb
  rename_i Kx hKx
  apply hKx
  exact ZtZ (mx:=mx) HIO HJO HIP HJP HP HRI HRJ HPI HPJ HWK' HNS HTI HTJ HTR HWK HMX HI8 HOJ HB8 HNI HNJ wpI wpJ
end
theorem Zhl{P:Program}{n:Nat}{m:Machine}{fr:Frame}{w w':World}(h:runN P n m=.next (lone fr [] w)):leavingAtReturn P (lone fr [] w) w' (runNT P (n+1) m #[]).2:=
 ⟨handedOver_of_lone h,⟨fun g hg=>by simp[lone] at hg,rfl⟩,fun i g hg hi=>by
  cases i with
  |zero=>exact absurd rfl hi
  |succ k=>simp[lone] at hg⟩
theorem ZcG{a:Assume}{C:Checked}{os:Os}{f:FuncId}{r:Reach}{Pre:World->Array Value->Prop}{Post:World->Array Value->Value->World->Prop}
  (own:ownKnob C.prog.godebug=none) (started:os.Started) (noInit:C.prog.inits.idxOf? f=none)
  (witness:∃(w:World) (tape:Tape) (i:Input),w.os=os/\(w.forCall tape i).Shaped C.prog/\i.vars=[]/\Input.okWide C.prog (w.forCall tape i) r w.heap.size f i/\Pre (w.forCall tape i).memory i.args /\
   a.holds C.prog (lone (Frame.enter C.prog f i.args .normal) [] (w.forCall tape i)))
  (contract:∀(w:World) (tape:Tape) (i:Input),w.os=os->(w.forCall tape i).ShapedOpen C.prog->i.vars=[]->Input.okWide C.prog (w.forCall tape i) r w.heap.size f i->Pre (w.forCall tape i).memory i.args ->
   a.holds C.prog (lone (Frame.enter C.prog f i.args .normal) [] (w.forCall tape i)) ->
   Calls C.prog f i.args (w.forCall tape i) fun
    |.returned v,w'=>Post (w.forCall tape i).blind i.args v w'.blind
    |_,_=>False) :
  ReturnsInLeavingWide a C os f r Pre Post:=fun enter=>by
 obtain⟨w0,t0,i0,a1,a2,a3,a4,a5,a6⟩:=witness;refine⟨enter,own,started,⟨w0,t0,i0,a1,a2,a3,a4,a5,a6,trivial⟩,fun w tape i h=>?_⟩;obtain⟨n,v,w',fr,hn,hend,hp⟩:=(contract w tape i h.1 h.2.1 h.2.2.1 h.2.2.2.1 h.2.2.2.2.1 h.2.2.2.2.2.1).done_lone noInit;exact⟨n+1,v,w',hend,(clean_of_lone hn).2,roomy_placeholder ..,hp,⟨n,_,hn,step_of_runs hn hend,Zhl hn⟩,fun _ _ _=>trivial⟩
section
variable{H:Type}{enc:TypeId×Value→H}
theorem ZbL{a:Assume}{C:Checked}{os:Os}{f:FuncId}{fn:Func}{s:ChangeSpec}{conds:List PathCond}{apart fresh handsOn again:Bool}
  (own:ownKnob C.prog.godebug=none) (started:os.Started) (noInit:C.prog.inits.idxOf? f=none) (hfn:C.prog.funcs[f]?=some fn)
  (witness:∃(w:World) (tape:Tape) (i:Input),w.os=os/\(w.forCall tape i).Shaped C.prog/\i.vars=[]/\Input.okWide C.prog (w.forCall tape i) .any w.heap.size f i /\
   s.pre6 enc C.prog fn conds apart (w.forCall tape i).memory i.args/\a.holds C.prog (lone (Frame.enter C.prog f i.args .normal) [] (w.forCall tape i)))
  (contract:∀(W:World) (base:Nat) (args:Array Value) (ds gs:List (DataW H)) (before:List MemPlace),
   (∀(j:Nat) t v,fn.params[j]?=some t->args[j]?=some v->Value.okWide C.prog W .any base t v) ->
   DataW.Whole enc C.prog fn.params.toList s.vars apart W args.toList ds gs before ->
   conds.all (PathCond.test C.prog ⟨fn.params.toList,ds,s.plain.varTypes C.prog,gs⟩)=true ->
   (DataW.weightsEach C.prog (fn.params.toList++s.plain.varTypes C.prog) (ds++gs)).all (·<=reachBytes)=true ->
   a.holds C.prog (lone (Frame.enter C.prog f args .normal) [] W) ->
   Calls C.prog f args W fun e W'=>∃v,e=.returned v/\s.post enc C.prog fn apart fresh handsOn again W args v W') :
  ReturnsInLeavingWide a C os f .any (s.pre6 enc C.prog fn conds apart) (s.post enc C.prog fn apart fresh handsOn again):=by
 refine ZcG own started noInit witness ?_;intro w tape i _ _ _ hok hpre hholds;obtain⟨_,_,_,fn',hfn',_,_,_,_,hval⟩:=hok;have e:fn'=fn:=Option.some.inj (hfn'.symm.trans hfn);subst e;obtain⟨⟨ds,gs,before,hw,hc⟩,hz⟩:=hpre;have hw':=DataW.Whole.of_heap (w':=w.forCall tape i) (by rfl) hw;refine(contract (w.forCall tape i) w.heap.size i.args ds gs before hval hw' hc (hz.weights hw) hholds).mono fun e W' ⟨v,he,hp⟩=>?_
 subst he;exact ChangeSpec.post_blind hp
end
