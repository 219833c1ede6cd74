/- Lemmas. -/
import Derived.Test.YtkmaeipoaoikpaaGreatEC20
namespace Go.Proofs.YtkmaeipoaoikpaaGreat
set_option linter.all false
set_option maxRecDepth 100000
set_option maxHeartbeats 4000000
open Lib (hid)
open Go.RowKit
open Tryz
def PlC.rItemsI(pc:PlC)(x t:Int):List ZaB:=if 0<=x/\x<pc.m then pc.itemsI x t else []
theorem PlC.rItemsI_in(pc:PlC)(x t:Int)(h:0<=x/\x<pc.m):pc.rItemsI x t=pc.itemsI x t:=if_pos h
theorem PlC.rItemsI_out(pc:PlC)(x t:Int)(h:¬(0<=x/\x<pc.m)):pc.rItemsI x t=[]:=if_neg h
theorem PlC.rItemsI_length(pc:PlC)(x t:Int):(pc.rItemsI x t).length=pc.lenI x:=by
 unfold PlC.rItemsI PlC.lenI
 split
 ·exact pc.itemsI_len x t 0
 ·rfl
section
variable(pc:PlC)(c:Cfg)(A:Option Addr)(n cap:Nat)(P:Int)(x t:Int)(w:World)
theorem ZhV(hf:Ztu pc c)(hno:¬(0<=x/\x<pc.m)) :
  Calls prog 158 #[ZnN A n cap c P,.int .i64 x,.int .i64 t] w fun e w'=>e=.returned (.slice none 0 0)/\Bz0 w w':=by
 have HG:Hid (∀W,w.alloc (.cells (ZgY A n cap c P) 172)=W->Below w.heap.size w W/\Blk W w.heap.size 172 (ZgY A n cap c P)):=hid (by
  rintro W rfl;exact⟨bA0 _,Blk.new _ _ _⟩)
 have hwk:=hf.wk;rw[<-hwk] at hno;clear hf hwk
 by_cases h0:x<0
 ·have e1:decide (x<0)=true:=YaJ h0;clear hno
  go_enter func158,ntmps158
  go_wp2_with fail;go_ret;exact⟨rfl,(HG.out _ rfl).1⟩
 ·have e1:decide (x<0)=false:=YaI h0;have e2:decide (c.wk<=x)=true:=YaJ (by omega);clear hno
  go_enter func158,ntmps158
  go_wp2_with fail;go_ret;exact⟨rfl,(HG.out _ rfl).1⟩
theorem ZjL(hp:pc.Ok)(hf:Ztu pc c)(hP:P=pc.P)(hx0:0<=x)(hx1:x<pc.m) :
  Calls prog 158 #[ZnN A n cap c P,.int .i64 x,.int .i64 t] w (Zal w 359 12 (pc.itemsI x t).length (ZaJ (pc.itemsI x t))):=by
 have HGrp:=hid (fun lo hi L v W h1 h2 h3 h4 h5=>ZhU pc c A n cap P x t lo hi w.heap.size L v W hp hf hP h1 h2 h3 h4 h5);have HBk:=hid (fun W=>Zdh pc c A n cap P W hp hf hP);have HGs:=hid (fun W=>Zje pc.nb pc.wi W (PlC.nb_pos hp) (by have:=PlC.nb_le hp;omega) hp.w1 (by have:=hp.w2;omega));have eg:Zat pc.nb pc.wi=pc.grps:=rfl;rw[eg] at HGs;obtain⟨hwk,hch,hmi,hwi,hbu,hs0,hs1⟩:=hf;obtain⟨sh,ra,mo,wk,ba,mi,st,bu,ch,wi,ca⟩:=c;simp only at hwk hch hmi hwi hbu hs0 hs1;subst hwk hmi hwi;have hi2:=hp.i2;have hnb2:=PlC.nb_le hp;have HGI:=hid (fun(k:Nat) (a b:Int) (h:pc.grps[k]?=some (a,b))=>PlC.grps_in h);have HGS:=hid (fun(k:Nat) (a b:Int) (h:pc.grps[k]?=some (a,b))=>pc.grpsI_succ x t k (a,b) h);have HGE:=hid (fun(k:Nat) (h:k<=cnt pc.nb pc.wi)=>pc.grpsI_le hp x t k h);have HIT:Hid (pc.itemsI x t=ZaF 1 t 0 pc.mi++pc.grpsI x t (cnt pc.nb pc.wi)++[Zb6 6 t 0]):=hid rfl;have hng:cnt pc.nb pc.wi<=60:=YaH (Zck _ _) hnb2;have HGLen:=hid pc.grps_length;obtain⟨ng,hngd⟩:∃ng,cnt pc.nb pc.wi=ng:=⟨_,rfl⟩;obtain⟨m,hm⟩:∃m,pc.m=m:=⟨_,rfl⟩;obtain⟨mi,hmi⟩:∃mi,pc.mi=mi:=⟨_,rfl⟩;obtain⟨nb,hnb⟩:∃nb,pc.nb=nb:=⟨_,rfl⟩;obtain⟨wi,hwi⟩:∃wi,pc.wi=wi:=⟨_,rfl⟩;rw[hngd] at HGs HGE HIT hng HGLen;rw[hnb] at HGrp HBk HGs hnb2 HGI;rw[hm] at HGrp HBk hx1;rw[hmi] at HGrp HBk hi2 HIT;rw[hwi] at HGrp HBk HGs;rw[hm,hmi,hwi];have HX:Hid (∀W,w.alloc (.cells (ZgY A n cap ⟨sh,ra,mo,m,ba,mi,st,bu,ch,wi,ca⟩ P) 172)=W->Below w.heap.size w W/\Blk W w.heap.size 172 (ZgY A n cap ⟨sh,ra,mo,m,ba,mi,st,bu,ch,wi,ca⟩ P)):=hid (by
  rintro W rfl;exact⟨bA0 _,Blk.new _ _ _⟩)
 have e1:decide (x<0)=false:=YaI (by omega);have e2:decide ((m:Int)<=x)=false:=YaI (by omega);clear hngd hm hmi hnb hwi hx0 hx1 eg hp hP hch hbu hs0 hs1
 go_enter func158,ntmps158
 go_wp2_with fail;obtain⟨w0,hw0⟩:∃w0,w.alloc (.cells (ZgY A n cap ⟨sh,ra,mo,m,ba,mi,st,bu,ch,wi,ca⟩ P) 172)=w0:=⟨_,rfl⟩;obtain⟨hB0,hS0⟩:=HX.out _ hw0;rw[hw0];clear hw0 HX;obtain⟨base,hbase⟩:∃base,w.heap.size=base:=⟨_,rfl⟩;rw[hbase] at hS0 HGrp ⊢;have HBase:=hid hbase;have HB0:=hid hB0;have HS0:=hid hS0;have hz0:base<=w0.heap.size:=by rw[<-hbase];exact hB0.size
 have HST0:Hid (RSt base [] (.slice none 0 0) w0):=hid ⟨none,0,0,rfl,rfl,by simpa [Zie] using World.ownsRow_nil w0 base 359 12⟩;clear hbase hB0 hS0
 go_loopw [7,8] (fun v u wr=>∃i:Nat,i<=mi/\u=.int .i64 i/\RSt base (ZaF 1 t 0 i) v wr/\KJ base w0 wr) (fun _ u _=>mi-(intOf u).toNat)
 case atStart=>exact⟨0,by omega,rfl,by simpa [ZaF] using HST0.out,KJ.refl _ _⟩
 case round=>
  obtain⟨i,hi,rfl,hst,hk⟩:=hrel;have HSb:=hid (hk.blk HS0.out (by decide));have s6:wr.cell? ⟨base,6,none⟩=some (.int .i64 mi):=HSb.out.cell 6;have ls:=HSb.out.lt;obtain⟨A1,c1,n1,hn1,rfl,hown⟩:=hst;have HN1:=hid hn1;have hn1l:n1<=20:=by rw[<-hn1,Zar];omega
  have HOW:=hid hown;have HK:=hid hk;have hzr:base<=wr.heap.size:=YaH hz0 hk.2.size
  by_cases hlt:i<mi
  ·have i1:(i:Int)<(mi:Int):=by omega
   clear hown hk hn1
   go_wp2_with (at_builtin;go_must (refine Zaj ZfG rfl _ _ rfl base (.slice A1 n1 c1) n1 (ZaJ (ZaF 1 t 0 i)) rfl HOW.out #[.int .i64 1,.int .i64 t,.int .i64 i,.bool false,.bool false,.int .i64 0,.int .i64 0,.int .i64 0,.int .i64 0,.int .i64 0,.int .i64 0,.int .i64 0] wr.heap.size rfl rfl rfl (Zd0 1 t i) (by unfold maxLen;omega) (by omega) hzr ?_);intro A2 c2 w2 hown2 hb2 hg2 _)
   obtain⟨hst2,hk2⟩:=RSt.pushP 1 t i HN1.out HOW.out hown2 hb2 hg2;have HST2:=hid hst2;have HK2:=hid (HK.out.trans hk2);clear hown2 hb2 hg2 hst2 hk2;go_wp2_with fail
   go_roundw
   case rel=>exact⟨i+1,by omega,by go_num,by rw[ZbV,Nat.zero_add];exact HST2.out,HK2.out⟩
   case measure=>simp[intOf];omega
  ·obtain rfl:i=mi:=by omega
   have HST1:Hid (RSt base (ZaF 1 t 0 i) (.slice A1 n1 c1) wr):=hid ⟨A1,c1,n1,hn1,rfl,hown⟩;have s0:=cv0 HSb.out;have s1:wr.cell? ⟨base,1,none⟩=some (.int .i64 sh):=HSb.out.cell 1;have s2:wr.cell? ⟨base,2,none⟩=some (.int .i64 ra):=HSb.out.cell 2;have s3:wr.cell? ⟨base,3,none⟩=some (.int .i64 mo):=HSb.out.cell 3;have s4:wr.cell? ⟨base,4,none⟩=some (.int .i64 m):=HSb.out.cell 4;have s5:wr.cell? ⟨base,5,none⟩=some (.int .i64 ba):=HSb.out.cell 5;have s7:wr.cell? ⟨base,7,none⟩=some (.int .i64 st):=HSb.out.cell 7;have s8:wr.cell? ⟨base,8,none⟩=some (.int .i64 bu):=HSb.out.cell 8;have s9:wr.cell? ⟨base,9,none⟩=some (.int .i64 ch):=HSb.out.cell 9;have s10:wr.cell? ⟨base,10,none⟩=some (.int .i64 wi):=HSb.out.cell 10;have s11:wr.cell? ⟨base,11,none⟩=some (.int .i64 ca):=HSb.out.cell 11;have s12:wr.cell? ⟨base,12,none⟩=some (.int .i64 P):=HSb.out.cell 12;clear hown hk hn1;go_wp2_with fail;refine Zad (Zag wr) [0,3,4,5] [1,2,6] [7] (by kernel_rfl) (by kernel_rfl) (Zag.start wr) ?_;simp only[YaO,YaP,YaB,YaC];refine Zaa (ZnN A n cap ⟨sh,ra,mo,m,ba,i,st,bu,ch,wi,ca⟩ P) rfl (fun W hW=>?_) ?_
   ·obtain⟨hc,-,-⟩:=hW;go_simp
   go_simp;refine Zaa (.pointer (some ⟨base,0,none⟩)) rfl (fun W hW=>?_) ?_
   ·obtain⟨hc,-,-⟩:=hW;go_simp
   go_simp;refine Zaa (.pointer (some ⟨base,10,none⟩)) rfl (fun W hW=>?_) ?_
   ·obtain⟨hc,-,-⟩:=hW;go_simp
   go_simp;refine Zaa (.int .i64 wi) rfl (fun W hW=>?_) ?_
   ·obtain⟨hc,-,-⟩:=hW;go_simp
   go_simp;change Zah _ _ _ _ _ (_::_::_::[]) _ _;unfold Zah;go_wp2_with fail;((with_reducible refine(HBk.out _).mono ?_);rintro e w2 ⟨Ab,cb,rfl,hown2,hb2⟩);have HB2:=hid ((Zag.start wr).call hb2).2.2;clear hown2 hb2 s0 s1 s2 s3 s4 s5 s6 s7 s8 s9 s10 s11 s12 ls;go_wp2_with fail;refine⟨Zag.of HB2.out,?_⟩;unfold Zah;go_wp2_with fail;refine⟨Zag.of HB2.out,?_⟩;unfold Zah;go_wp2_with fail;((with_reducible refine(HGs.out _).mono ?_);rintro e w3 ⟨Ag,cg,rfl,hown3,hb3⟩);have HB3:=hid (bT0 HB2.out hb3);have HG3:=hid hown3;have HST3:=hid (HST1.out.call HB3.out);have HK3:=hid (HK.out.trans (KJ.call HB3.out hzr));have hz3:base<=w3.heap.size:=YaH hzr HB3.out.size;clear hown3 hb3;go_wp2_with fail;refine⟨Zag.of HB3.out,?_⟩;unfold Zah;change wpList _ _ _ (_::[]) _ _;go_wp2_with fail;refine NoPanic.normal ?_;go_wp2_with fail;obtain⟨wz,hwz⟩:∃wz:World,wz=wr:=⟨_,rfl⟩;rw[<-hwz] at HB3;clear hwz HB2 HK HSb HOW
   go_loopw [7,10] (fun v u wr=>∃k:Nat,k<=ng/\u=.int .i64 k/\RSt base (ZaF 1 t 0 i++pc.grpsI x t k) v wr/\KJ base w3 wr) (fun _ u _=>ng-(intOf u).toNat)
   case atStart=>exact⟨0,by omega,rfl,by simpa [PlC.grpsI] using HST3.out,KJ.refl _ _⟩
   case round=>
    obtain⟨k,hk1,rfl,hst,hk⟩:=hrel;have HGEk:=hid (HGE.out k (by omega));obtain⟨A4,c4,n4,hn4,rfl,hown⟩:=hst;have HN4:=hid hn4;have hn4l:n4<=110000000:=by rw[<-hn4,YaS,Zar];have:=HGEk.out;omega
    have HOW:=hid hown;have HK:=hid hk;have hzr4:base<=wr.heap.size:=YaH hz3 hk.2.size
    by_cases hlt2:k<ng
    ·obtain⟨g,o,a,b,rfl,hg,hab,d0,d1⟩:=Zdr HGLen.out (Rd.of_own (hk.1.own hk.2.size HG3.out (by decide) (by decide))) hlt2;have hin:=HGI.out k a b hab;have HGSk:=HGS.out k a b hab;obtain⟨lo,rfl⟩:=YaM hin.1;obtain⟨hi,rfl⟩:=YaM (show 0<=b by omega);have hlh:lo<=hi:=by omega
     have hhn:hi<=nb:=by omega
     have HGG:Hid (pc.grpsI x t (k+1)=pc.grpsI x t k++pc.groupI x t lo (hi-lo)):=hid (by
      rw[HGSk];simp only[PlC.groupG,Int.toNat_natCast,show ((hi:Int)-(lo:Int)).toNat=hi-lo by omega])
     have HSb:=hid ((HK3.out.trans hk).blk HS0.out (by decide));have HST4:Hid (RSt base (ZaF 1 t 0 i++pc.grpsI x t k) (.slice A4 n4 c4) wr):=hid ⟨A4,c4,n4,hn4,rfl,hown⟩;have HC:=hid (fun W h=>HGrp.out lo hi _ (.slice A4 n4 c4) W hlh hhn h (by rw[HN4.out];omega));obtain⟨s0,s1,s2,s3,s4,s5,s6,s7,s8,s9,s10,s11,s12⟩:=cl13 HSb.out;have ls:=HSb.out.lt;have i1:(0:Int)<=(k:Int):=by omega
     have i2:(k:Int)<(ng:Int):=by omega
     clear hown hk hn4 hab hin HGSk;go_wp2_with fail;refine Zad (Zag wr) [0,1,2,3,4,5,6,7] [] [8,9] (by kernel_rfl) (by kernel_rfl) (Zag.start wr) ?_;simp only[YaO,YaP,YaB,YaC];refine Zaa (.slice A4 n4 c4) rfl (fun W hW=>?_) ?_
     ·obtain⟨hc,-,-⟩:=hW;go_simp
     go_simp;refine Zaa (ZnN A n cap ⟨sh,ra,mo,m,ba,i,st,bu,ch,wi,ca⟩ P) rfl (fun W hW=>?_) ?_
     ·obtain⟨hc,-,-⟩:=hW;go_simp
     go_simp;refine Zaa (.int .i64 x) rfl (fun W hW=>?_) ?_
     ·obtain⟨hc,-,-⟩:=hW;go_simp
     go_simp;refine Zaa (.int .i64 t) rfl (fun W hW=>?_) ?_
     ·obtain⟨hc,-,-⟩:=hW;go_simp
     go_simp;refine Zaa (.slice (some ⟨g,o,none⟩) ng cg) rfl (fun W hW=>?_) ?_
     ·obtain⟨hc,-,-⟩:=hW;go_simp
     go_simp;refine Zaa (.int .i64 k) rfl (fun W hW=>?_) ?_
     ·obtain⟨hc,-,-⟩:=hW;go_simp
     go_simp;refine Zaa (.pointer (some ⟨g,o+k*2,none⟩)) rfl (fun W hW=>?_) ?_
     ·obtain⟨hc,-,-⟩:=hW;go_simp
     go_simp;refine Zaa (.agg #[.int .i64 lo,.int .i64 hi]) rfl (fun W hW=>?_) ?_
     ·obtain⟨hc,-,-⟩:=hW;go_simp
     go_simp;unfold Zb1;unfold Zah;change wpList _ _ _ (_::_::[]) _ _;go_wp2_with fail;((with_reducible refine(HC.out _ (HST4.out.call (bR0 _ _).drew) (YaH hzr4 (bR0 wr.heap.size wr).drew.size)).mono ?_);rintro e w5 ⟨v5,rfl,hst5,hk5⟩);have HST5:=hid hst5;have HK5:=hid ((HK.out.trans (KJ.call (bR0 _ _).drew hzr4)).trans hk5);clear hst5 hk5 s0 s1 s2 s3 s4 s5 s6 s7 s8 s9 s10 s11 s12 ls d0 d1;go_wp2_with fail;refine NoPanic.normal ?_;go_wp2_with fail
     go_roundw
     case rel=>exact⟨k+1,by omega,by go_num,by rw[HGG.out,<-YaY];exact HST5.out,HK5.out⟩
     case measure=>simp[intOf];omega
    ·obtain rfl:k=ng:=by omega
     clear hown hk hn4;have i2:¬(k:Int)<(k:Int):=by omega
     go_wp2_with (at_builtin;go_must (refine Zaj ZfG rfl _ _ rfl base (.slice A4 n4 c4) n4 (ZaJ (ZaF 1 t 0 i++pc.grpsI x t k)) rfl HOW.out #[.int .i64 6,.int .i64 t,.int .i64 0,.bool false,.bool false,.int .i64 0,.int .i64 0,.int .i64 0,.int .i64 0,.int .i64 0,.int .i64 0,.int .i64 0] wr.heap.size rfl rfl rfl (Zd0 6 t 0) (by unfold maxLen;omega) (by omega) hzr4 ?_);intro A5 c5 w5 hown5 hb5 hg5 _)
     obtain⟨hst5,hk5⟩:=RSt.pushP 6 t 0 HN4.out HOW.out hown5 hb5 hg5;rw[<-HIT.out] at hst5;have HST5:=hid hst5;have HB5:=hid ((HK3.out.trans HK.out).trans hk5).2;clear hown5 hb5 hg5 hst5 hk5;go_wp2_with fail;go_ret;obtain⟨A6,c6,n6,hn6,e6,hown6⟩:=HST5.out;injection e6 with ea en ec
     subst ea en ec;rw[hn6];exact⟨A5,c5,rfl,by rw[HBase.out];exact hown6,HB0.out.trans (by rw[HBase.out];exact HB5.out)⟩
theorem ZhW(hp:pc.Ok)(hf:Ztu pc c)(hP:P=pc.P) :
  Calls prog 158 #[ZnN A n cap c P,.int .i64 x,.int .i64 t] w (Zal w 359 12 (pc.rItemsI x t).length (ZaJ (pc.rItemsI x t))):=by
 by_cases h:0<=x/\x<pc.m
 ·rw[pc.rItemsI_in x t h];exact ZjL pc c A n cap P x t w hp hf hP h.1 h.2
 ·rw[pc.rItemsI_out x t h];refine(ZhV pc c A n cap P x t w hf h).mono ?_;rintro e w' ⟨rfl,hb⟩;exact⟨none,0,rfl,World.ownsRow_nil _ _ _ _,hb⟩
def PlC.sumI(pc:PlC):Nat->Nat
 |0=>0
 |k+1=>pc.sumI k+pc.lenI (k:Int)
theorem PlC.lenI_le{pc:PlC}(hp:pc.Ok)(x:Int):pc.lenI x<=200000000:=by
 unfold PlC.lenI
 split
 ·exact PlC.itemsI_le hp x 0
 ·omega
theorem PlC.sumI_le{pc:PlC}(hp:pc.Ok)(k:Nat):pc.sumI k<=k*200000000:=by
 induction k with
 |zero=>simp[PlC.sumI]
 |succ k ih=>have:=PlC.lenI_le hp (k:Int);simp only[PlC.sumI];omega
theorem ZhX(hp:pc.Ok)(hf:Ztu pc c)(hP:P=pc.P) :
  Calls prog 69 #[ZnN A n cap c P] w fun e w'=>e=.returned (.int .i64 ((pc.sumI pc.m:Int)*c.st))/\Bz0 w w':=by
 have HI:=hid (fun x W=>ZhW pc c A n cap P x 0 W hp hf hP);have HLn:=hid (fun x=>pc.rItemsI_length x 0);have HSL:=hid (fun k=>PlC.sumI_le hp k);have HLL:=hid (fun x=>PlC.lenI_le hp x);have HSu:Hid (∀k:Nat,pc.sumI (k+1)=pc.sumI k+pc.lenI (k:Int)):=hid (fun k=>rfl);have hm2:=hp.m2;obtain⟨hwk,hch,hmi,hwi,hbu,hs0,hs1⟩:=hf;obtain⟨sh,ra,mo,wk,ba,mi,st,bu,ch,wi,ca⟩:=c;simp only at hwk hch hmi hwi hbu hs0 hs1;subst hwk;obtain⟨m,hm⟩:∃m,pc.m=m:=⟨_,rfl⟩;rw[hm] at HI hm2;rw[hm];have HX:Hid (∀W,w.alloc (.cells (ZgY A n cap ⟨sh,ra,mo,m,ba,mi,st,bu,ch,wi,ca⟩ P) 172)=W->Below w.heap.size w W/\Blk W w.heap.size 172 (ZgY A n cap ⟨sh,ra,mo,m,ba,mi,st,bu,ch,wi,ca⟩ P)):=hid (by
  rintro W rfl;exact⟨bA0 _,Blk.new _ _ _⟩)
 have HST:Hid (0<=st/\st<=12):=hid ⟨hs0,hs1⟩;clear hm hp hP hch hmi hwi hbu hs0 hs1
 go_enter func69,ntmps69
 go_wp2_with fail;obtain⟨w0,hw0⟩:∃w0,w.alloc (.cells (ZgY A n cap ⟨sh,ra,mo,m,ba,mi,st,bu,ch,wi,ca⟩ P) 172)=w0:=⟨_,rfl⟩;obtain⟨hB0,hS0⟩:=HX.out _ hw0;rw[hw0];obtain⟨base,hbase⟩:∃base,w.heap.size=base:=⟨_,rfl⟩;rw[hbase] at hS0 ⊢;have HBase:=hid hbase;have HB0:=hid hB0;have HS0:=hid hS0;clear hw0 HX hbase hB0 hS0
 go_loopw [3,4] (fun s u wr=>∃k N:Nat,k<=m/\u=.int .i64 k/\s=.int .i64 N/\Hid (pc.sumI k=N)/\Bz0 w0 wr) (fun _ u _=>m-(intOf u).toNat)
 case atStart=>exact⟨0,0,by omega,rfl,rfl,hid rfl,bR0 _ _⟩
 case round=>
  obtain⟨k,N,hk,rfl,rfl,hN,hb⟩:=hrel;have hS:=HS0.out.kept hb;have s4:wr.cell? ⟨base,4,none⟩=some (.int .i64 m):=hS.cell 4;have ls:=hS.lt;have hNl:N<=1600000000:=by have:=HSL.out k;rw[hN.out] at this;omega
  have HB:=hid hb
  by_cases hlt:k<m
  ·have dk:decide ((k:Int)<(m:Int))=true:=YaJ (by omega);have s0:=cv0 hS;have s1:wr.cell? ⟨base,1,none⟩=some (.int .i64 sh):=hS.cell 1;have s2:wr.cell? ⟨base,2,none⟩=some (.int .i64 ra):=hS.cell 2;have s3:wr.cell? ⟨base,3,none⟩=some (.int .i64 mo):=hS.cell 3;have s5:wr.cell? ⟨base,5,none⟩=some (.int .i64 ba):=hS.cell 5;have s6:wr.cell? ⟨base,6,none⟩=some (.int .i64 mi):=hS.cell 6;have s7:wr.cell? ⟨base,7,none⟩=some (.int .i64 st):=hS.cell 7;have s8:wr.cell? ⟨base,8,none⟩=some (.int .i64 bu):=hS.cell 8;have s9:wr.cell? ⟨base,9,none⟩=some (.int .i64 ch):=hS.cell 9;have s10:wr.cell? ⟨base,10,none⟩=some (.int .i64 wi):=hS.cell 10;have s11:wr.cell? ⟨base,11,none⟩=some (.int .i64 ca):=hS.cell 11;have s12:wr.cell? ⟨base,12,none⟩=some (.int .i64 P):=hS.cell 12;have HC:=HI.out k;have hln:=HLn.out k;have hll:=HLL.out k;obtain⟨q,hq⟩:∃q,pc.lenI (k:Int)=q:=⟨_,rfl⟩;rw[hq] at hll hln;rw[hln] at HC;have HCC:=hid HC;have HSK:Hid (pc.sumI (k+1)=N+q):=hid (by rw[HSu.out,hN.out,hq]);clear hS hb HC hln hq hN;go_wp2_with fail;((with_reducible refine(HCC.out _).mono ?_);rintro e w2 ⟨A2,c2,rfl,hown2,hb2⟩);have HB2:=hid (bT0 HB.out hb2);clear hown2 hb2 s0 s1 s2 s3 s4 s5 s6 s7 s8 s9 s10 s11 s12 ls;go_wp2_with fail
   go_roundw
   case rel=>exact⟨k+1,N+q,by omega,by go_num,by go_num,HSK,HB2.out⟩
   case measure=>simp[intOf];omega
  ·obtain rfl:k=m:=by omega
   have dk:decide ((k:Int)<(k:Int))=false:=YaI (by omega);have s7:wr.cell? ⟨base,7,none⟩=some (.int .i64 st):=hS.cell 7;obtain⟨R,hR⟩:∃R,(N:Int)*st=R:=⟨_,rfl⟩;have hst:=HST.out;have hR0:0<=R/\R<=1600000000*12:=by
    rw[<-hR];exact⟨Int.mul_nonneg (by omega) hst.1,Int.mul_le_mul (by omega) hst.2 hst.1 (by omega)⟩
   have zr:IntKind.i64.wrap ((N:Int)*st)=R:=by rw[hR];exact Zc2 _ (by omega) (by omega)
   have HRR:Hid (R=(pc.sumI k:Int)*st):=hid (by rw[hN.out,hR]);clear hS hb hst hR hN;go_wp2_with fail;go_ret;exact⟨ZaH HRR.out,by have:=bT0 HB0.out HB.out;exact this⟩
end
theorem Zpe{P:Program}{f:FuncId}{args:Array Value}{w:World}{x y:List Int}(h:Calls P f args w fun e w'=>e=.returned (.bool (decide (x=x) && decide (y=y)))/\Bz0 w w') :
  Calls P f args w fun e w'=>e=.returned (.bool true)/\Bz0 w w':=by
 simpa using h
theorem ZmU(S S':Option Addr)(m cS cS' N M:Nat)(l l':List StS)(f:Nat->List Int×List Int)(w:World)(hl:l.length=m)(hl':l'.length=m)(hm:m<=1000)(h:Rd w 2 S m (stv N M l))(h':Rd w 2 S' m (stv N M l'))
  (hr:∀i s,l[i]?=some s->Rd w 1 s.1 N (iv (f (i+1)).1)/\Rd w 1 s.2.2.1 M (iv (f (i+1)).2)) (hr':∀i s,l'[i]?=some s->Rd w 1 s.1 N (iv (f (i+1)).1)/\Rd w 1 s.2.2.1 M (iv (f (i+1)).2)) (hf:∀i,(f i).1.length=N/\(f i).2.length=M) (hN:N<=1000000) (hM:M<=1000000) :
  Calls prog 75 #[.slice S m cS,.slice S' m cS'] w fun e w'=>e=.returned (.bool true)/\Bz0 w w':=by
 have HL:=hid hl;have HL':=hid hl';have HH:=hid h;have HH':=hid h';have HR:=hid hr;have HR':=hid hr';have HF:=hid hf;clear hl hl' h h' hr hr' hf
 go_enter func75,ntmps75
 go_wp2_with fail
 go_loopw [5] (fun i wr=>∃j:Nat,j<=m/\i=.int .i64 j/\Bz0 w wr) (fun i _=>m-(intOf i).toNat)
 case atStart=>exact⟨0,by omega,rfl,bR0 _ _⟩
 case round=>
  obtain⟨j,hj,rfl,hb⟩:=hrel
  by_cases hlt:j<m
  ·obtain⟨s,hs⟩:∃s,l[j]?=some s:=⟨_,YaA (by rw[HL.out];exact hlt)⟩;obtain⟨s',hs'⟩:∃s,l'[j]?=some s:=⟨_,YaA (by rw[HL'.out];exact hlt)⟩;obtain⟨gb,go,rfl,ltg,hcg⟩:=(HH.out.below hb).2 (by omega);obtain⟨gb',go',rfl,ltg',hcg'⟩:=(HH'.out.below hb).2 (by omega);obtain⟨v0,v1⟩:=Zmg N M l j s hs;obtain⟨v0',v1'⟩:=Zmg N M l' j s' hs';have c0:=hcg _ _ v0;have c1:=hcg _ _ v1;have c0':=hcg' _ _ v0';have c1':=hcg' _ _ v1';rw[<-Nat.add_assoc] at c1 c1';obtain⟨q1,q2⟩:=HR.out j s hs;obtain⟨q1',q2'⟩:=HR'.out j s' hs';have C:=hid (fun(u:KW wr)=>Zpe (ZjK s.1 s.2.2.1 s'.1 s'.2.2.1 N M N M s.2.1 s.2.2.2 s'.2.1 s'.2.2.2 _ _ _ _ u.w (HF.out (j+1)).1 (HF.out (j+1)).2 (HF.out (j+1)).1 (HF.out (j+1)).2 ((q1.below hb).kept u.h) ((q2.below hb).kept u.h) ((q1'.below hb).kept u.h) ((q2'.below hb).kept u.h) hN hM hN hM));have HB:=hid hb;obtain⟨a1,a2,a3,a4⟩:=s;obtain⟨b1,b2,b3,b4⟩:=s';clear hcg hcg' v0 v1 v0' v1' q1 q2 q1' q2' hs hs' hb;go_wp2_with fail;have KC:=fun(u:KW wr) b o h=>KW.cells u b o h
   refine ZaK wr (by kernel_rfl) (by kernel_rfl) (Zag.of (bR0 _ _)) ?_
   repeat (go_big_quiet_step ((go_at_call 160;with_reducible exact ZbE (C.out _))))
   refine wpQuiet_nil ?_;rintro _ ⟨⟨w9,k9⟩,rfl⟩;clear KC c0 c1 c0' c1';go_wp2
   go_roundw
   case rel=>exact⟨j+1,by omega,by go_num,((Zag.of HB.out).call k9.2.2).2.2⟩
   case measure=>simp[intOf];omega
  ·obtain rfl:j=m:=by omega
   go_wp2;go_ret;exact⟨rfl,hb⟩
theorem Zym{w:World}{g:Nat}{t:TypeId}{x y z u:Value}(h:Blk w g t #[x,y,z,u])(a b c d:Value) :
  w.grownBy ((((w.setCell ⟨g,0,none⟩ a).setCell ⟨g,1,none⟩ b).setCell ⟨g,2,none⟩ c).setCell ⟨g,3,none⟩ d) (some g)/\Blk ((((w.setCell ⟨g,0,none⟩ a).setCell ⟨g,1,none⟩ b).setCell ⟨g,2,none⟩ c).setCell ⟨g,3,none⟩ d) g t #[a,b,c,d]:=
 ⟨Zak (p:=⟨g,3,none⟩) (Zak (p:=⟨g,2,none⟩) (Zak (p:=⟨g,1,none⟩) (Zak (p:=⟨g,0,none⟩) (World.grownBy.refl w _) (.inl rfl) a) (.inl rfl) b) (.inl rfl) c) (.inl rfl) d,by simpa using (((h.set_ 0 a).set_ 1 b).set_ 2 c).set_ 3 d⟩
abbrev ZwP:Value:=.agg #[.int .i64 0,.int .i64 0,.int .i64 0,.slice none 0 0]
def Zvw(w:World)(b st N n E:Nat)(L:List Int)(e:Ending)(w':World):Prop:=
 Below w.heap.size w w'/\((E*(n-1)<=N/\∃Ao co vs,e=.returned (.tuple #[.agg #[.int .i64 n,.int .i64 b,.int .i64 st,.slice Ao E co],.int .i64 0])/\w'.ownsRow w.heap.size 22 1 (.slice Ao E co) E (ZlH vs)/\ZeE w' w.heap.size vs (ZbW L n E))\/(N<E*(n-1)/\e=.returned (.tuple #[ZwP,.int .i64 8])))
section
variable(n b st N cap q E:Nat)(A:Option Addr)(L:List Int)(w:World)
theorem Zlf(hb1:1<=b)(hbn:b<=n)(hn:n<=60)(hst:st<=60)(hq:n/b=q)(hE:cnt st q=E)(hN2:N<=4000)(hl:L.length=N)(h:Rd w 1 A N (uv L))(hu:InU L) :
  Calls prog 93 #[.int .i64 n,.int .i64 b,.int .i64 st,.slice A N cap] w (Zvw w b st N n E L):=by
 have e1:decide ((n:Int)<1)=false:=YaI (by omega);have e2:decide ((1048576:Int)<(n:Int))=false:=YaI (by omega);have e3:decide ((st:Int)<0)=false:=YaI (by omega);have e4:decide ((1048576:Int)<(st:Int))=false:=YaI (by omega);have e5:decide ((b:Int)<1)=false:=YaI (by omega);have e6:decide (n<b)=false:=YaI (by omega);have hE60:E<=60:=by rw[<-hE];exact YaH (Zck st q) hst
 have HEP:=hid (fun W=>(by have h:=Zo1 n b st q W (by omega) hb1 hbn (by omega) hq;rw[hE] at h;exact h:Calls prog 176 #[.int .i64 n,.int .i64 b,.int .i64 st] W fun e w'=>e=.returned (.int .i64 (E:Nat))/\W=w'));obtain⟨m,hm⟩:∃m,n-1=m:=⟨_,rfl⟩;have HND:=hid (fun W=>(by have h:=Zjy n W (by omega);rw[hm] at h;exact h:Calls prog 100 #[.int .i64 n] W fun e w'=>e=.returned (.int .i64 (m:Nat))/\W=w'));obtain⟨Em,hEm⟩:∃Em,E*m=Em:=⟨_,rfl⟩;have hm60:m<=60:=by omega
 have hEmb:Em<=3600:=by rw[<-hEm];exact YaH (Nat.mul_le_mul hE60 hm60) (by omega)
 have hw:IntKind.i64.wrap ((E:Int)*(m:Int))=(Em:Int):=by
  rw[<-Int.natCast_mul,hEm,IntKind.wrap_i64];omega
 have HM:=hid hm;have HEM:=hid hEm;have HR:=hid h;have HL:=hid hl;have HU:=hid hu;clear h hl hu hq hE hm hEm;have H0:Hid (Below w.heap.size w (w.alloc (.cells #[.int .i64 0,.int .i64 0,.int .i64 0,.slice none 0 0] 84))/\Blk (w.alloc (.cells #[.int .i64 0,.int .i64 0,.int .i64 0,.slice none 0 0] 84)) w.heap.size 84 #[.int .i64 0,.int .i64 0,.int .i64 0,.slice none 0 0]):=hid ⟨bA0 _,Blk.new _ _ _⟩
 go_enter func93,ntmps93
 go_wp2_with fail;((with_reducible refine(HEP.out _).mono ?_);rintro e wx ⟨rfl,rfl⟩);go_wp2_with fail;((with_reducible refine(HND.out _).mono ?_);rintro e wx ⟨rfl,rfl⟩)
 by_cases hfit:N<Em
 ·have e7:decide ((N:Int)<(Em:Int))=true:=YaJ (by omega);have e7':decide (N<Em)=true:=YaJ (by omega);go_wp2;exact bodyPost_ret (v:=.tuple #[ZwP,.int .i64 8]) (by simp[results,results93,go_sem]) rfl ⟨(bA0 _).alloc (by simp) _,.inr ⟨by rw[HM.out,HEM.out];exact hfit,rfl⟩⟩
 ·have e7:decide ((N:Int)<(Em:Int))=false:=YaI (by omega);have e7':decide (N<Em)=false:=YaI (by omega);obtain⟨g,hg⟩:∃g,w.heap.size=g:=⟨_,rfl⟩;have HX:Hid (∀w3,((w.alloc (.cells #[.int .i64 0,.int .i64 0,.int .i64 0,.slice none 0 0] 84)).alloc (.cells #[.int .i64 n,.int .i64 b,.int .i64 st,.slice none 0 0] 84)).alloc (.cells #[.slice A N cap,.int .i64 0] 316)=w3->Below w.heap.size w w3/\Blk w3 g 84 #[.int .i64 0,.int .i64 0,.int .i64 0,.slice none 0 0]/\Blk w3 (g+1) 84 #[.int .i64 n,.int .i64 b,.int .i64 st,.slice none 0 0]/\Blk w3 (g+1+1) 316 #[.slice A N cap,.int .i64 ((0:Nat):Int)]):=hid (by
   rintro w3 rfl;exact⟨((bA0 _).alloc (by simp) _).alloc (by simp;omega) _,((Blk.new' _ _ hg).alloc _).alloc _,(Blk.new' _ _ (by simp[hg])).alloc _,Blk.new' _ _ (by simp[hg])⟩)
  go_wp2_with fail;have HG:=hid hg;clear hg;obtain⟨w3,hw3⟩:∃w3,((w.alloc (.cells #[.int .i64 0,.int .i64 0,.int .i64 0,.slice none 0 0] 84)).alloc (.cells #[.int .i64 n,.int .i64 b,.int .i64 st,.slice none 0 0] 84)).alloc (.cells #[.slice A N cap,.int .i64 0] 316)=w3:=⟨_,rfl⟩;have HX3:=hid (HX.out w3 hw3);rw[hw3];clear hw3 HX H0;have hfitN:Hid (Em<=N):=hid (by omega);have hfN:Em<=N:=hfitN.out
  go_loopw [13] (fun c wr=>∃(j t E':Nat) (Ao:Option Addr) (co:Nat) (vs:List SlN),j<=E/\c=.int .i64 j/\Hid (t=j*m)/\Hid (E'=j)/\Blk wr g 84 #[.int .i64 0,.int .i64 0,.int .i64 0,.slice none 0 0]/\Blk wr (g+1) 84 #[.int .i64 n,.int .i64 b,.int .i64 st,.slice Ao E' co]/\Blk wr (g+1+1) 316 #[.slice A N cap,.int .i64 t]/\wr.ownsRow w3.heap.size 22 1 (.slice Ao E' co) E' (ZlH vs)/\ZeE wr w3.heap.size vs (ZbW L n j)/\Bz0 w wr/\w3.heap.size<=wr.heap.size) (fun c _=>E-(intOf c).toNat)
  case atStart=>exact⟨0,0,0,none,0,[],by omega,rfl,hid (by simp),hid rfl,HX3.out.2.1,HX3.out.2.2.1,HX3.out.2.2.2,World.ownsRow_nil _ _ _ _,ZeE.nil _ _,HX3.out.1,YaF _⟩
  case round=>
   obtain⟨j,t,E',Ao,co,vs,hj,rfl,ht,hE',hz,hs,hst',ho,hon,hb,hsz⟩:=hrel;have hwz:=HX3.out.1.size;have hg3:g+1+1<w3.heap.size:=HX3.out.2.2.2.lt
   by_cases hlt:j<E
   ·obtain⟨t',ht'⟩:∃t',t+m=t':=⟨_,rfl⟩;have htN:t'<=N:=by
     have h1:=YaW m (show j+1<=E from hlt);rw[HEM.out,Nat.succ_mul,<-ht.out,ht'] at h1;omega
    have C:=Zo2 N cap n t A L wr HL.out (HR.out.below hb) HU.out (by omega) (by rw[HM.out,ht'];exact htN) (by omega);rw[HM.out,ht'] at C;have HC:=hid C;have HT':Hid (t'=(j+1)*m):=hid (by rw[Nat.succ_mul,<-ht.out];exact ht'.symm);have HPM:Hid (ZbW L n (j+1)=ZbW L n j++[ZkR L n t]):=hid (by rw[Ziy,HM.out,ht.out]);have HZ:=hid hz;have HS:=hid hs;have HST:=hid hst';have HO:=hid ho;have HON:=hid hon;have HB:=hid hb;have hE60':E'<=60:=by rw[hE'.out];omega
    have s0:wr.cell? ⟨g+1+1,0,none⟩=some (.slice A N cap):=hst'.cell 0;have s1:wr.cell? ⟨g+1+1,1,none⟩=some (.int .i64 t):=hst'.cell 1;have s2:=hst'.lt;clear hz hs hst' ho hon hb C ht';go_wp2_with fail;((with_reducible refine HC.out.mono ?_);rintro e w5 ⟨A1,c1,rfl,hown5,hb5⟩);have S5:=HST.out.kept hb5;have st5:=Zbb S5 (.slice A N cap) (.int .i64 t');have HST5:=hid st5;have cs0:=S5.cell 0;have cs1:=S5.cell 1;have fs0:=S5.frozen 0;have fs1:=S5.frozen 1;have l5:=S5.lt;have HO5:=hid ((Zac HO.out hb5).kept st5.1 (.inr (Zab (Zac HO.out hb5) S5 (by decide))));have HN5:=hid ((HON.out.below hb5).but (But.of_gr (S:=fun q=>q=g+1+1) st5.1 rfl) (fun v n xs q h e e'=>Zab h S5 (by decide) (e.trans (by rw[e']))));have HP5:=hid (hown5.kept st5.1 (.inr (Zab hown5 S5 (by decide))));have HZ5:=hid ((HZ.out.kept hb5).grown st5.1 (by simp;omega));have HS5:=hid ((HS.out.kept hb5).grown st5.1 (by simp));have HB5:=hid (Zai (bT0 HB.out hb5) (YaH HB.out.size hb5.size) st5.1 (by have:=HG.out;omega));have hsz5:w3.heap.size<=w5.heap.size:=YaH hsz hb5.size;have hs3:w5.cell? ⟨g+1,3,none⟩=some (.slice Ao E' co):=(HS.out.kept hb5).cell 3;have hsl:=(HS.out.kept hb5).lt;have hsf:=(HS.out.kept hb5).frozen 3;clear hown5 hb5 S5 st5 s0 s1 s2;obtain⟨X,hX⟩:∃X,((w5.setCell ⟨g+1+1,0,none⟩ (.slice A N cap)).setCell ⟨g+1+1,1,none⟩ (.int .i64 t')).alloc (.cells #[.slice A N cap,.int .i64 t'] 316)=X:=⟨_,rfl⟩;have HOa:Hid (X.ownsRow w3.heap.size 22 1 (.slice Ao E' co) E' (ZlH vs)):=hid (by rw[<-hX];exact HO5.out.alloc _);have HNa:Hid (ZeE X w3.heap.size vs (ZbW L n j)):=hid (by rw[<-hX];exact HN5.out.below (bA0 _));have HPa:Hid (X.ownsRow w3.heap.size 3 1 (.slice A1 n c1) n (iv (ZkR L n t))):=hid (by rw[<-hX];exact Zae (HP5.out.alloc _) hsz);have HZa:Hid (Blk X g 84 #[.int .i64 0,.int .i64 0,.int .i64 0,.slice none 0 0]):=hid (by rw[<-hX];exact HZ5.out.alloc _);have HSa:Hid (Blk X (g+1) 84 #[.int .i64 n,.int .i64 b,.int .i64 st,.slice Ao E' co]):=hid (by rw[<-hX];exact HS5.out.alloc _);have HTa:Hid (Blk X (g+1+1) 316 #[.slice A N cap,.int .i64 t']):=hid (by rw[<-hX];exact HST5.out.2.alloc _);have HBa:Hid (Below w.heap.size w X):=hid (by rw[<-hX];exact HB5.out.alloc HB5.out.size _);have hszX:w3.heap.size<=X.heap.size:=by rw[<-hX];simp[World.setCell];omega
    have HXX:=hid hX;have hXs:w5.heap.size+1=X.heap.size:=by rw[<-hX];simp[World.setCell]
    have HXS:=hid hXs;have HSN:=hid (ZkM vs (A1,n,c1));clear hX hXs HO5 HN5 HP5 HZ5 HS5 HB5 HST5
    go_wp2_with (at_builtin;rw[HXX.out];go_must (refine ZaM Zun rfl _ _ rfl w3.heap.size _ E' (ZlH vs) rfl HOa.out #[.slice A1 n c1] (w5.heap.size+1) rfl HXS.out rfl (Zq2 _ _ _) (by unfold maxLen;omega) (by omega) hszX ?_);go_must (intro A6 c6 w6 hown6 hb6 hg6;(have HS6:=hid (HSa.out.other HOa.out hg6 (by decide)));(have d3:=HS6.out.cell 3);(have df:=HS6.out.frozen 3);(have dl:=HS6.out.lt);(have HO6:=hid hown6);(have HG6:=hid hg6);(have HB6:=hid hb6);clear hown6 hb6 hg6 HXX cs0 cs1 fs0 fs1 hs3 hsl hsf l5))
    have hst:=ZnL HS6.out (.slice A6 (E'+1) c6);have HST6:=hid hst;clear hst d3 df
    go_roundw
    case rel=>
     refine⟨j+1,t',E'+1,A6,c6,vs++[(A1,n,c1)],by omega,by go_num,HT',hid (by rw[hE'.out]),(HZa.out.other HOa.out HG6.out (by decide)).grown HST6.out.1 (by simp),HST6.out.2,(HTa.out.other HOa.out HG6.out (by decide)).grown HST6.out.1 (by simp),?_,?_,?_,?_⟩
     ·rw[HSN.out];exact HO6.out.kept HST6.out.1 (.inr (Zab HO6.out HS6.out (by decide)))
     ·rw[HPM.out];have hp6:=HPa.out.kept HG6.out (ZdY HPa.out HOa.out (by decide));refine ZeE.snoc ((HNa.out.rowkept HOa.out (by decide) HG6.out).but (But.of_gr (S:=fun q=>q=g+1) HST6.out.1 rfl) (fun v n xs q h e e'=>Zab h HS6.out (by decide) (e.trans (by rw[e'])))) (by rw[Zby]) (hp6.kept HST6.out.1 (.inr (Zab hp6 HS6.out (by decide))))
     ·have h1:=HBa.out.trans (HB6.out.mono hwz);exact Zai h1 h1.size HST6.out.1 (by have:=HG.out;omega)
     ·have:=HB6.out.size;simp[World.setCell];omega
    case measure=>simp[intOf];omega
   ·obtain rfl:j=E:=by omega
    obtain rfl:E'=j:=hE'.out;have HO:=hid (Zae ho hwz);have HON:=hid (hon.base hwz);have HB:=hid hb;have HZ:=hid hz;have HS:=hid hs;have s0:wr.cell? ⟨g+1,0,none⟩=some (.int .i64 n):=hs.cell 0;have s1:wr.cell? ⟨g+1,1,none⟩=some (.int .i64 b):=hs.cell 1;have s2:wr.cell? ⟨g+1,2,none⟩=some (.int .i64 st):=hs.cell 2;have s3:wr.cell? ⟨g+1,3,none⟩=some (.slice Ao E' co):=hs.cell 3;have s4:=hs.lt;have z0:=hz.cell 0;have z1:=hz.cell 1;have z2:=hz.cell 2;have z3:=hz.cell 3;have z4:=hz.lt;have y0:=hz.frozen 0;have y1:=hz.frozen 1;have y2:=hz.frozen 2;have y3:=hz.frozen 3;clear hz hs hst' ho hon hb;go_wp2_with fail;have hst4:=Zym HZ.out (.int .i64 n) (.int .i64 b) (.int .i64 st) (.slice Ao E' co);exact bodyPost_ret (v:=.tuple #[.agg #[.int .i64 n,.int .i64 b,.int .i64 st,.slice Ao E' co],.int .i64 0]) (by simp[results,results93,go_sem,z0,z1,z2,z3,z4]) rfl ⟨Zai HB.out HB.out.size hst4.1 (by have:=HG.out;omega),.inl ⟨by rw[HM.out,HEM.out];exact hfN,Ao,co,vs,rfl,HO.out.kept hst4.1 (.inr (Zab HO.out HZ.out (by decide))),HON.out.but (But.of_gr (S:=fun q=>q=g) hst4.1 rfl) (fun v n xs q h e e'=>Zab h HZ.out (by decide) (e.trans (by rw[e'])))⟩⟩
end
abbrev Zsu(n b st:Nat)(Ao:Option Addr)(E co:Nat):Value:=.agg #[.int .i64 n,.int .i64 b,.int .i64 st,.slice Ao E co]
structure Zj1(w:World)(base n:Nat)(Ao:Option Addr)(E co:Nat)(os:List (List Int)):Prop where
 ex:∃vs,w.ownsRow base 22 1 (.slice Ao E co) E (ZlH vs)/\ZeE w base vs os
theorem Zj1.below{w w':World}{base n:Nat}{Ao:Option Addr}{E co:Nat}{os:List (List Int)}(h:Zj1 w base n Ao E co os)(hb:Below w.heap.size w w'):Zj1 w' base n Ao E co os:=by
 obtain⟨vs,h1,h2⟩:=h.ex;exact⟨vs,Zac h1 hb,h2.below hb⟩
section
variable(base b st q E n co:Nat)(Ao:Option Addr)(L:List Int)(w:World)
theorem ZmV(t:Int)(ht:t<0\/st<=t) :
  Calls prog 92 #[Zsu n b st Ao E co,.int .i64 t] w fun e w'=>e=.returned (.tuple #[.int .i64 0,.int .i64 0,.bool false])/\Bz0 w w':=by
 by_cases h1:t<0
 ·have e1:decide (t<0)=true:=YaJ h1;clear ht
  go_enter func92,ntmps92
  go_wp2_with fail;exact bodyPost_ret (v:=.tuple #[.int .i64 0,.int .i64 0,.bool false]) (by simp[results,results92,go_sem]) rfl ⟨rfl,bA0 _⟩
 ·have e1:decide (t<0)=false:=YaI h1;have e2:decide ((st:Int)<=t)=true:=YaJ (by omega);clear ht
  go_enter func92,ntmps92
  go_wp2_with fail;exact bodyPost_ret (v:=.tuple #[.int .i64 0,.int .i64 0,.bool false]) (by simp[results,results92,go_sem]) rfl ⟨rfl,bA0 _⟩
theorem Zlg(P:Zup n b st q E)(t:Nat)(ht:t<st) :
  Calls prog 92 #[Zsu n b st Ao E co,.int .i64 t] w fun e w'=>e=.returned (.tuple #[.int .i64 ((t/q:Nat):Int),.int .i64 ((t%q:Nat):Int),.bool true])/\Bz0 w w':=by
 have e1:decide ((t:Int)<0)=false:=YaI (by omega);have e2:decide ((st:Int)<=(t:Int))=false:=YaI (by omega);have e3:decide (st<=t)=false:=YaI (by omega);have hst:=P.hst;have hq:=P.hq;have hq2:=P.hq2;have hb1:=P.hb1;have hnn:=P.hn;have hbn:=P.hbn;have hw0:IntKind.i64.wrap ((n:Int)/(b:Int))=(q:Int):=by
  rw[<-Int.natCast_ediv,P.hdiv,IntKind.wrap_i64];omega
 have hw0':(n:Int)/(b:Int)=(q:Int):=by rw[<-Int.natCast_ediv,P.hdiv]
 clear P
 go_enter func92,ntmps92
 go_wp2_with fail;go_region;go_wp2;have hw1:wrap64 ((t:Int)/(q:Int))=(t:Int)/(q:Int):=by
  have hd:=Nat.div_le_self t q;rw[<-Int.natCast_ediv];generalize t/q=d at hd ⊢;exact IntWalk.wrap64_in _ (by omega)
 exact bodyPost_ret (v:=.tuple #[.int .i64 ((t/q:Nat):Int),.int .i64 ((t%q:Nat):Int),.bool true]) (by simp[results,results92,go_sem,hw1]) rfl ⟨rfl,(bA0 _).drew⟩
theorem ZmW(t:Int)(ht:t<0\/st<=t) :
  Calls prog 27 #[Zsu n b st Ao E co,.int .i64 t] w (ZdD w 0 []):=by
 have HE:=hid (fun W=>ZmV b st E n co Ao W t ht);clear ht
 go_enter func27,ntmps27
 go_wp2_with fail;((with_reducible refine(HE.out _).mono ?_);rintro e w1 ⟨rfl,hb1⟩);have HB:=hid (((bR0 w.heap.size w).alloc (YaF _) (.cells #[.int .i64 n,.int .i64 b,.int .i64 st,.slice Ao E co] 84)).trans (hb1.mono (by simp)));clear hb1;go_wp2_with fail;go_ret;exact ZdD.none _ _ HB.out
theorem Zlh(P:Zup n b st q E)(t:Nat)(ht:t<st)(h:Zj1 w base n Ao E co (ZbW L n E)) :
  Calls prog 27 #[Zsu n b st Ao E co,.int .i64 t] w (ZdD w b (Za9 L n b q st t)):=by
 have HE:=hid (fun W=>Zlg b st q E n co Ao W P t ht);obtain⟨vs,hro,hon⟩:=h.ex;have hq:=P.hq;have hq2:=P.hq2;have hb1:=P.hb1;have hnn:=P.hn;have hqb:=P.hqb;have hst:=P.hst;have hmq:t%q<q:=Nat.mod_lt _ (by omega);have hdE:t/q<E:=by
  rw[<-P.hE];refine(ZfL st q _ (by omega) hq).2 ?_;have:=Nat.div_mul_le_self t q;omega
 have hfit:t%q*b+b<=n:=by
  have h1:(t%q+1)*b<=q*b:=YaW b hmq;rw[Nat.succ_mul] at h1;omega
 have HBL:Hid (Za9 L n b q st t=((ZkR L n (t/q*(n-1))).drop (t%q*b)).take b):=hid (by
  rw[Za9,if_pos ⟨by omega,by omega⟩]
  rfl)
 obtain⟨e',he⟩:∃e',t/q=e':=⟨_,rfl⟩;obtain⟨i,hi⟩:∃i,t%q=i:=⟨_,rfl⟩;rw[he] at HE hdE HBL;rw[hi] at HE hmq hfit HBL;rw[HBL.out];have hmul:IntKind.i64.wrap ((i:Int)*(b:Int))=((i*b:Nat):Int):=by
  rw[<-Int.natCast_mul,IntKind.wrap_i64];omega
 obtain⟨lo,hlo⟩:∃lo,i*b=lo:=⟨_,rfl⟩;rw[hlo] at hmul hfit HBL ⊢;obtain⟨s,hs⟩:∃s,vs[e']?=some s:=⟨_,YaA (by rw[hon.len,ZfY];exact hdE)⟩;obtain⟨Ae,ne,ce⟩:=s;obtain⟨hne,hre⟩:=hon.row e' _ _ hs (ZkS L n E e' hdE);have hne':ne=n:=by rw[Zby] at hne;exact hne
 subst hne';have HRE:=hid (Rd.of_own hre);have hce:ne<=ce:=by
  obtain⟨_,_,q1,q2,_,_⟩:=ZaG hre;injection q1 with q4 _ q5
  simp only at q5;subst q5;exact q2
 obtain⟨b1,o1,e1,hb1',c1⟩:=(Rd.of_own hro).2 (by omega);subst e1;have d1:=c1 e' _ (ZnI hs);have g3:(0:Int)<=(e':Int):=by omega
 have g4:(e':Int)<(E:Int):=by omega
 have HLN:Hid ((ZkR L ne (e'*(ne-1))).length=ne):=hid (Zby _ _ _);clear hro hon hs hne hre c1 he hi hlo hqb P h;have HG:Hid (∀W,w.alloc (.cells #[.int .i64 ne,.int .i64 b,.int .i64 st,.slice (some ⟨b1,o1,none⟩) E co] 84)=W->Below w.heap.size w W/\Blk W w.heap.size 84 #[.int .i64 ne,.int .i64 b,.int .i64 st,.slice (some ⟨b1,o1,none⟩) E co]):=hid (by
  rintro W rfl;exact⟨bA0 _,Blk.new _ _ _⟩)
 go_enter func27,ntmps27
 go_wp2_with fail;((with_reducible refine(HE.out _).mono ?_);rintro e w1 ⟨rfl,hb9⟩);obtain⟨hB,hK⟩:=HG.out _ rfl;have hk1:=hK.kept hb9;have hbw:=bT0 hB hb9;have HB9:=hid hbw;have z1:w1.cell? ⟨w.heap.size,1,none⟩=some (.int .i64 b):=hk1.cell 1;have z3:w1.cell? ⟨w.heap.size,3,none⟩=some (.slice (some ⟨b1,o1,none⟩) E co):=hk1.cell 3;have z4:=hk1.lt;have d1':=((ZiS hbw).1 b1 (o1+e') hb1').trans d1;have l2':b1<w1.heap.size:=YaK hb1' hbw.size;clear hb9 hbw hB hK hk1 d1 hb1' HE;go_wp2_with fail;go_region;go_wp2;rw[show lo+b-lo=b by omega];go_ret;exact⟨_,_,rfl,by omega,(Zq8 (HRE.out.below HB9.out) HLN.out lo b hfit).drew,HB9.out.drew⟩
theorem Zli(P:Zup n b st q E)(t:Int)(h:Zj1 w base n Ao E co (ZbW L n E)) :
  Calls prog 27 #[Zsu n b st Ao E co,.int .i64 t] w (ZdD w (Za9 L n b q st t).length (Za9 L n b q st t)):=by
 by_cases ht:0<=t/\t<st
 ·obtain⟨T,rfl⟩:=YaM ht.1;rw[Ze4 P L T (by omega)];exact Zlh base b st q E n co Ao L w P T (by omega) h
 ·rw[ZkX L t (by omega)];exact ZmW b st E n co Ao w t (by omega)
end
def Zez(g:Nat->Int):Nat->Int
 |0=>0
 |m+1=>Zez g m+g m
theorem Zd1(g h:Nat->Int):∀m,(∀x,x<m->g x=h x)->Zez g m=Zez h m
 |0,_=>rfl
 |m+1,e=>by rw[Zez,Zez,Zd1 g h m (fun x hx=>e x (by omega)),e m (by omega)]
theorem ZiF(g:Nat->Int):∀m,Zez g (m+1)=g 0+Zez (fun x=>g (x+1)) m
 |0=>by simp[Zez]
 |m+1=>by
  rw[Zez,ZiF g m,Zez];omega
theorem ZtF(m:Nat)(g:Nat->Int)(hm:1<=m)(d:Nat):Zez (fun x=>g ((x+d)%m)) m=Zez g m:=by
 induction d with
 |zero=>exact Zd1 _ _ m (fun x hx=>by rw[Nat.add_zero,Nat.mod_eq_of_lt hx])
 |succ d ih=>
  rw[<-ih];have h1:=ZiF (fun x=>g ((x+d)%m)) m;have h2:Zez (fun x=>g ((x+d)%m)) (m+1)=Zez (fun x=>g ((x+d)%m)) m+g ((m+d)%m):=rfl;have h3:Zez (fun x=>g ((x+(d+1))%m)) m=Zez (fun x=>g ((x+1+d)%m)) m:=Zd1 _ _ m (fun x _=>by rw[Nat.add_assoc x 1 d,Nat.add_comm 1 d]);rw[h3];have h4:g ((m+d)%m)=g ((0+d)%m):=by rw[Nat.add_mod_left,Nat.zero_add]
  omega
def Zgg(lo hi:Int)(m q i:Nat):Prop:=(Zdf lo hi m q).1<=i/\(i:Int)<(Zdf lo hi m q).2
instance (lo hi:Int) (m q i:Nat):Decidable (Zgg lo hi m q i):=by unfold Zgg;infer_instance
def rqN(m p r w:Nat):Nat:=(((w:Int)-r+p-1)%(m:Int)).toNat
def pwN(m w:Nat):Nat:=(((w:Int)-1)%(m:Int)).toNat
def rst(lo hi:Int)(m:Nat)(z:Nat->Nat->Int):Nat->Nat->Nat->Int
 |0,w,i=>z w i
 |K+1,w,i=>if Zgg lo hi m (rqN m (K/(m-1)) (K%(m-1)) w) i then (if K/(m-1)=0 then wrap64 (rst lo hi m z K w i+rst lo hi m z K (pwN m w) i) else rst lo hi m z K (pwN m w) i) else rst lo hi m z K w i
theorem ZjM(n k a b:Nat)(h:a<=b):bnd n k a<=bnd n k b:=by
 unfold bnd;have:=YaW (n/k) h;omega
theorem ZtG(n k:Nat)(hk:1<=k):bnd n k k=n:=by
 unfold bnd;have:=Nat.div_add_mod n k;have h2:=Nat.mod_lt n (show 0<k by omega);omega
theorem Zn1(n k x:Nat)(hx:x<n):∀j,x<bnd n k j->∃q,q<j/\bnd n k q<=x/\x<bnd n k (q+1)
 |0,h=>by unfold bnd at h;omega
 |j+1,h=>by
  by_cases h1:x<bnd n k j
  ·obtain⟨q,a,b,c⟩:=Zn1 n k x hx j h1;exact⟨q,by omega,b,c⟩
  ·exact⟨j,by omega,by omega,h⟩
theorem ZtH(lo hi:Int)(m i:Nat)(hm:1<=m)(h0:lo<=i)(h1:(i:Int)<hi):∃q,q<m/\Zgg lo hi m q i/\∀q',q'<m->Zgg lo hi m q' i->q'=q:=by
 obtain⟨x,hx⟩:=YaM (show 0<=(i:Int)-lo by omega);obtain⟨N,hN⟩:=YaM (show 0<=hi-lo by omega);have e1:(hi-lo).toNat=N:=by omega
 have hin:∀q,Zgg lo hi m q i↔bnd N m q<=x/\x<bnd N m (q+1):=fun q=>by
  unfold Zgg Zdf;rw[e1,Int.toNat_natCast];dsimp only;omega
 obtain⟨q,a,b,c⟩:=Zn1 N m x (by omega) m (by rw[ZtG N m hm];omega);refine⟨q,a,(hin q).2 ⟨b,c⟩,fun q' hq' h'=>?_⟩;obtain⟨b',c'⟩:=(hin q').1 h'
 rcases Nat.lt_trichotomy q' q with h|h|h
 ·have:=ZjM N m (q'+1) q (by omega);omega
 ·exact h
 ·have:=ZjM N m (q+1) q' (by omega);omega
theorem ZtI(lo hi:Int)(m q i:Nat)(hm:q<m)(h1:lo<=hi)(h:¬(lo<=i/\(i:Int)<hi)):¬Zgg lo hi m q i:=by
 have:=ZcD lo hi m q h1 (by omega);unfold Zgg;omega
theorem Zry(m p r w:Nat)(hm:1<=m):rqN m p r w<m:=by
 unfold rqN;have h1:=Int.emod_nonneg ((w:Int)-r+p-1) (b:=(m:Int)) (by omega);have h2:=Int.emod_lt_of_pos ((w:Int)-r+p-1) (b:=(m:Int)) (by omega);omega
theorem Zrz(m w:Nat)(hm:1<=m):pwN m w<m:=by
 unfold pwN;have h1:=Int.emod_nonneg ((w:Int)-1) (b:=(m:Int)) (by omega);have h2:=Int.emod_lt_of_pos ((w:Int)-1) (b:=(m:Int)) (by omega);omega
theorem ZrA(lo hi:Int)(m:Nat)(z:Nat->Nat->Int)(hm:1<=m)(h1:lo<=hi)(i:Nat)(h:¬(lo<=i/\(i:Int)<hi)):∀K w,rst lo hi m z K w i=z w i
 |0,w=>rfl
 |K+1,w=>by rw[rst,if_neg (ZtI lo hi m _ i (Zry m _ _ _ hm) h1 h),ZrA lo hi m z hm h1 i h K w]
def dst(m q w:Nat):Nat:=(w+m-q)%m
theorem ZcQ(a m:Int)(k:Int)(h0:0<=a+k*m)(h1:a+k*m<m):a%m=a+k*m:=by
 rw[<-Int.add_mul_emod_self_right a k m];exact Int.emod_eq_of_lt h0 h1
theorem ZeA(m q w:Nat)(hq:q<m)(hw:w<m):(q<=w/\dst m q w=w-q)\/(w<q/\dst m q w=w+m-q):=by
 unfold dst
 by_cases h:q<=w
 ·left
  refine⟨h,?_⟩;rw[show w+m-q=(w-q)+m by omega,Nat.add_mod_right,Nat.mod_eq_of_lt (by omega)]
 ·right
  exact⟨by omega,Nat.mod_eq_of_lt (by omega)⟩
theorem ZrB(m w:Nat)(hw:w<m):(w=0/\pwN m w=m-1)\/(1<=w/\pwN m w=w-1):=by
 unfold pwN
 by_cases h:w=0
 ·left
  subst h;refine⟨rfl,?_⟩;rw[ZcQ _ _ 1 (by omega) (by omega)];omega
 ·right
  refine⟨by omega,?_⟩;rw[Int.emod_eq_of_lt (by omega) (by omega)];omega
theorem Zur(m q w:Nat)(hq:q<m)(hw:w<m):(dst m q w=0/\dst m q (pwN m w)=m-1)\/(1<=dst m q w/\dst m q (pwN m w)=dst m q w-1):=by
 have hp:pwN m w<m:=Zrz m w (by omega)
 rcases ZeA m q w hq hw with⟨a,b⟩|⟨a,b⟩<;>rcases ZeA m q (pwN m w) hq hp with⟨c,d⟩|⟨c,d⟩<;>rcases ZrB m w hw with⟨e,f⟩|⟨e,f⟩<;>omega
theorem Zpf(m q r w:Nat)(hq:q<m)(hw:w<m)(hr:r+1<m):rqN m 0 r w=q↔dst m q w=r+1:=by
 unfold rqN;have h1:=ZeA m q w hq hw
 by_cases h:r+1<=w
 ·rw[ZcQ _ _ 0 (by omega) (by omega)];omega
 ·rw[ZcQ _ _ 1 (by omega) (by omega)];omega
theorem ZrC(m q r w:Nat)(hq:q<m)(hw:w<m)(hr:r+1<m):rqN m 1 r w=q↔dst m q w=r:=by
 unfold rqN;have h1:=ZeA m q w hq hw
 by_cases h:r<=w
 ·rw[ZcQ _ _ 0 (by omega) (by omega)];omega
 ·rw[ZcQ _ _ 1 (by omega) (by omega)];omega
section
variable(lo hi:Int)(m:Nat)(z:Nat→Nat→Int)(q i:Nat)
def Zus(d:Nat):Int:=Zez (fun t=>z ((t+q)%m) i) (d+1)
theorem ZjN(a b:Int):wrap64 (a+wrap64 b)=wrap64 (a+b):=by unfold wrap64;omega
theorem Zvx(a:Int)(h:-9223372036854775808<=a/\a<=9223372036854775807):wrap64 a=a:=by unfold wrap64;omega
theorem ZrD(w:Nat)(hq:q<m)(hw:w<m):z ((dst m q w+q)%m) i=z w i:=by
 rcases ZeA m q w hq hw with⟨a,b⟩|⟨a,b⟩
 ·rw[b,show w-q+q=w by omega,Nat.mod_eq_of_lt hw]
 ·rw[b,show w+m-q+q=w+m by omega,Nat.add_mod_right,Nat.mod_eq_of_lt hw]
theorem ZeB(hq:q<m)(hseg:∀q',q'<m->(Zgg lo hi m q' i↔q'=q))(hz:∀w,w<m->-9223372036854775808<=z w i/\z w i<=9223372036854775807) :
  ∀r,r<=m-1->∀w,w<m->rst lo hi m z r w i=if dst m q w<=r then wrap64 (Zus m z q i (dst m q w)) else z w i
 |0,_,w,hw=>by
  rw[rst]
  by_cases h:dst m q w<=0
  ·rw[if_pos h];have h0:dst m q w=0:=by omega
   rw[h0,Zus,Zez,Zez,Int.zero_add];have:=ZrD m z q i w hq hw;rw[h0] at this;rw[this,Zvx _ (hz w hw)]
  ·rw[if_neg h]
 |r+1,hr,w,hw=>by
  have ih:=ZeB hq hseg hz r (by omega);have e1:r/(m-1)=0:=Nat.div_eq_of_lt (by omega);have e2:r%(m-1)=r:=Nat.mod_eq_of_lt (by omega);rw[rst,e1,e2];have hrq:=Zpf m q r w hq hw (by omega);have hs:=hseg (rqN m 0 r w) (Zry m 0 r w (by omega))
  by_cases h:dst m q w=r+1
  ·rw[if_pos (hs.2 (hrq.2 h)),if_pos rfl,if_pos (by omega),ih w hw,if_neg (by omega),ih _ (Zrz m w (by omega))];have hp:=Zur m q w hq hw;have hd:dst m q (pwN m w)=r:=by omega
   rw[hd,if_pos (YaF _),ZjN,h];have ht:=ZrD m z q i w hq hw;rw[h] at ht;rw[show Zus m z q i (r+1)=Zus m z q i r+z ((r+1+q)%m) i from rfl,ht,Int.add_comm]
  ·rw[if_neg (fun hh=>h (hrq.1 (hs.1 hh))),ih w hw]
   by_cases h2:dst m q w<=r
   ·rw[if_pos h2,if_pos (by omega)]
   ·rw[if_neg h2,if_neg (by omega)]
theorem ZiG(hm:2<=m)(hq:q<m)(hseg:∀q',q'<m->(Zgg lo hi m q' i↔q'=q))(hz:∀w,w<m->-9223372036854775808<=z w i/\z w i<=9223372036854775807) :
  ∀r,r<=m-1->∀w,w<m->rst lo hi m z (m-1+r) w i=if dst m q w<r then wrap64 (Zus m z q i (m-1)) else wrap64 (Zus m z q i (dst m q w))
 |0,_,w,hw=>by
  have hd:dst m q w<=m-1:=by rcases ZeA m q w hq hw with⟨a,b⟩|⟨a,b⟩<;>omega
  rw[Nat.add_zero,ZeB lo hi m z q i hq hseg hz (m-1) (YaF _) w hw,if_pos hd,if_neg (by omega)]
 |r+1,hr,w,hw=>by
  have ih:=ZiG hm hq hseg hz r (by omega);have e1:(m-1+r)/(m-1)=1:=by rw[Nat.add_div_left _ (by omega),Nat.div_eq_of_lt (by omega)]
  have e2:(m-1+r)%(m-1)=r:=by rw[Nat.add_mod_left,Nat.mod_eq_of_lt (by omega)]
  rw[<-Nat.add_assoc,rst,e1,e2];have hrq:=ZrC m q r w hq hw (by omega);have hs:=hseg (rqN m 1 r w) (Zry m 1 r w (by omega))
  by_cases h:dst m q w=r
  ·rw[if_pos (hs.2 (hrq.2 h)),if_neg (by omega),ih _ (Zrz m w (by omega))]
   rcases Zur m q w hq hw with⟨a,b⟩|⟨a,b⟩
   ·rw[b,if_neg (by omega),if_pos (by omega)]
   ·rw[b,if_pos (by omega),if_pos (by omega)]
  ·rw[if_neg (fun hh=>h (hrq.1 (hs.1 hh))),ih w hw]
   by_cases h2:dst m q w<r
   ·rw[if_pos h2,if_pos (by omega)]
   ·rw[if_neg h2,if_neg (by omega)]
end
theorem Zvy(lo hi:Int)(m:Nat)(z:Nat->Nat->Int)(hm:1<=m)(h1:lo<=hi)(i w:Nat)(hw:w<m)(hz:∀w,w<m->-9223372036854775808<=z w i/\z w i<=9223372036854775807) :
  rst lo hi m z (2*(m-1)) w i=if lo<=i/\(i:Int)<hi then wrap64 (Zez (fun v=>z v i) m) else z w i:=by
 by_cases h:lo<=i/\(i:Int)<hi
 ·rw[if_pos h];obtain⟨q,hq,hin,huq⟩:=ZtH lo hi m i hm h.1 h.2;have hseg:∀q',q'<m->(Zgg lo hi m q' i↔q'=q):=fun q' hq'=>⟨huq q' hq',fun e=>by rw[e];exact hin⟩
  have hfull:Zus m z q i (m-1)=Zez (fun v=>z v i) m:=by
   unfold Zus;rw[show m-1+1=m by omega];exact ZtF m (fun v=>z v i) hm q
  by_cases h2:m=1
  ·subst h2;have hw0:w=0:=by omega
   subst hw0
   show z 0 i=_
   rw[<-hfull];have:=ZeB lo hi 1 z q i hq hseg hz 0 (by omega) 0 (by omega);have hd:dst 1 q 0=0:=by unfold dst;omega
   rw[rst,if_pos (by omega),hd] at this;exact this
  ·rw[show 2*(m-1)=m-1+(m-1) by omega,ZiG lo hi m z q i (by omega) hq hseg hz (m-1) (YaF _) w hw,<-hfull]
   by_cases h3:dst m q w<m-1
   ·rw[if_pos h3]
   ·have hd:dst m q w=m-1:=by rcases ZeA m q w hq hw with⟨a,b⟩|⟨a,b⟩<;>omega
    rw[if_neg h3,hd]
 ·rw[if_neg h];exact ZrA lo hi m z hm h1 i h _ w
def Zbn:List (Int×Int)->Int->Int->Prop
 |[],e,e'=>e=e'
 |c::l,e,e'=>c.1=e/\e<=c.2/\Zbn l c.2 e'
theorem ZmX{l:List (Int×Int)}{e e1:Int}{c:Int×Int}(h:Zbn l e e1)(h1:c.1=e1)(h2:e1<=c.2):Zbn (l++[c]) e c.2:=by
 induction l generalizing e with
 |nil=>
  have h':e=e1:=h;subst h';exact⟨h1,h2,rfl⟩
 |cons d l ih=>exact⟨h.1,h.2.1,ih h.2.2⟩
theorem Zlj{l:List (Int×Int)}{e e':Int}(b:Int)(h:Zbn l e e'):Zbn (ZbG l b) (e+b) (e'+b):=by
 induction l generalizing e with
 |nil=>
  have h':e=e':=h;subst h';rfl
 |cons d l ih=>
  obtain⟨h1,h2,h3⟩:=h;exact⟨by show d.1+b=e+b;omega,by show e+b<=d.2+b;omega,ih h3⟩
theorem ZdN(n s:Nat)(hn:1<=n)(hs:1<=s):∀k,k<=cnt n s->Zbn ((Zat n s).take k) 0 ((min (k*s) n:Nat):Int)
 |0,_=>by simp[Zbn]
 |k+1,hk=>by
  have ih:=ZdN n s hn hs k (by omega);have hkl:k<(Zat n s).length:=by rw[Zan];omega
  have hle:k*s<n:=by
   rw[Zdq n s hn hs] at hk;have h1:k<=(n-1)/s:=by omega
   have h2:k*s<=(n-1)/s*s:=YaW s h1;have h3:=Nat.div_mul_le_self (n-1) s;omega
  rw[Zbf _ _ hkl];have e:((min ((k+1)*s) n:Nat):Int)=(Zat n s)[k].2:=by
   rw[Zcj];dsimp only;rw[Nat.add_mul,Nat.one_mul];omega
  rw[e];refine ZmX ih ?_ ?_
  ·rw[Zcj];dsimp only;omega
  ·rw[Zcj];dsimp only;omega
theorem Zf3(x y s:Int)(h:x<=y)(hs:1<=s):Zbn (Zbd x y s) x y:=by
 unfold Zbd Zbc
 by_cases h0:y-x<1
 ·rw[if_pos (.inl h0)];have:x=y:=by omega
  subst this;rfl
 ·rw[if_neg (by omega)];have hb:=ZdN (y-x).toNat s.toNat (by omega) (by omega) _ (YaF _);rw[YaX (by rw[Zan];exact YaF _)] at hb;have hc:=Zlj x hb;have e1:min (cnt (y-x).toNat s.toNat*s.toNat) (y-x).toNat=(y-x).toNat:=by
   rw[Zdq _ _ (by omega) (by omega),Nat.add_mul,Nat.one_mul];have h1:=Nat.div_add_mod ((y-x).toNat-1) s.toNat;have h2:=Nat.mod_lt ((y-x).toNat-1) (show 0<s.toNat by omega);have h3:s.toNat*(((y-x).toNat-1)/s.toNat)=((y-x).toNat-1)/s.toNat*s.toNat:=Nat.mul_comm _ _;omega
  rw[e1,Int.zero_add,show (((y-x).toNat:Nat):Int)+x=y by omega] at hc;exact hc
def ZhY(f new:Nat->Int)(a e:Int)(n:Nat):List Int:=(List.range n).map fun(i:Nat)=>if a<=(i:Int)/\(i:Int)<e then new i else f i
def ZaN(f:Nat->Int)(n:Nat):List Int:=(List.range n).map f
theorem ZeC(f new:Nat->Int)(a e:Int)(n:Nat):(ZhY f new a e n).length=n:=by simp[ZhY]
theorem ZrE(f new:Nat->Int)(a:Int)(n:Nat):ZhY f new a a n=ZaN f n:=by
 unfold ZhY ZaN
 apply List.map_congr_left
 intro i _;rw[if_neg (by omega)]
theorem ZmY(f:Nat->Int)(n o k:Nat)(h:o+k<=n):((ZaN f n).drop o).take k=(List.range k).map fun j=>f (o+j):=by
 apply List.ext_getElem?
 intro i;unfold ZaN
 by_cases hi:i<k
 ·rw[List.getElem?_take_of_lt hi,List.getElem?_drop,YaR,YaR,List.getElem?_range (by omega),List.getElem?_range hi];rfl
 ·rw[YaN (by simp;omega),YaN (by simp;omega)]
theorem ZtJ(f old new:Nat->Int)(a:Int)(n o k:Nat)(ha:a<=o)(h:o+k<=n)(hnew:∀i,new i=wrap64 (f i+old i)) :
  ZbM (ZhY f new a (o:Int) n) o ((List.range k).map fun j=>old (o+j)) k=ZhY f new a ((o+k:Nat):Int) n:=by
 apply List.ext_getElem?
 intro i;rw[Zbj];unfold ZhY;rw[YaR,YaR]
 by_cases hi:i<n
 ·rw[List.getElem?_range hi];simp only[Option.map_some,Option.some.injEq]
  by_cases h1:o<=i/\i<o+k
  ·rw[if_pos h1,if_neg (by omega),if_pos (by omega),hnew];have:((List.range k).map fun j=>old (o+j)).getD (i-o) 0=old i:=by
    rw[YaT,YaR,List.getElem?_range (by omega)];simp only[Option.map_some,Option.getD_some]
    congr 1
    omega
   rw[this]
  ·rw[if_neg h1]
   by_cases h2:a<=(i:Int)/\(i:Int)<o
   ·rw[if_pos h2,if_pos (by omega)]
   ·rw[if_neg h2,if_neg (by omega)]
 ·rw[YaN (by simp;omega)];rfl
theorem ZrF(f old:Nat->Int)(a:Int)(n o k:Nat)(ha:a<=o)(h:o+k<=n) :
  (ZhY f old a (o:Int) n).take o++(((List.range k).map fun j=>old (o+j))++(ZhY f old a (o:Int) n).drop (o+k))=ZhY f old a ((o+k:Nat):Int) n:=by
 apply List.ext_getElem?
 intro i;have hl:=ZeC f old a (o:Int) n
 by_cases hi:i<n
 ·have hr:(ZhY f old a ((o+k:Nat):Int) n)[i]?=some (if a<=(i:Int)/\(i:Int)<((o+k:Nat):Int) then old i else f i):=by
   unfold ZhY;rw[YaR,List.getElem?_range hi];rfl
  have hg:∀x,x<n->(ZhY f old a (o:Int) n)[x]?=some (if a<=(x:Int)/\(x:Int)<(o:Int) then old x else f x):=fun x hx=>by
   unfold ZhY;rw[YaR,List.getElem?_range hx];rfl
  rw[hr]
  by_cases h1:i<o
  ·rw[YaV (by simp[hl];omega),List.getElem?_take_of_lt h1,hg i hi]
   by_cases h2:a<=(i:Int)
   ·rw[if_pos (by omega),if_pos (by omega)]
   ·rw[if_neg (by omega),if_neg (by omega)]
  ·rw[YaU (by simp[hl];omega),show ((ZhY f old a (o:Int) n).take o).length=o by simp[hl];omega]
   by_cases h2:i<o+k
   ·rw[YaV (by simp;omega),YaR,List.getElem?_range (by omega),if_pos (by omega)];simp only[Option.map_some,Option.some.injEq]
    congr 1
    omega
   ·rw[YaU (by simp;omega),List.length_map,List.length_range,List.getElem?_drop,show o+k+(i-o-k)=i by omega,hg i hi,if_neg (by omega),if_neg (by omega)]
 ·rw[YaN (by simp[hl,ZeC];omega),YaN (by rw[ZeC];omega)]
