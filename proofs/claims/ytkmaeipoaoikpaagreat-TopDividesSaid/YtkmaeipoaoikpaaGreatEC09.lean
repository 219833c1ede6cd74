/- Lemmas. -/
import Derived.Test.YtkmaeipoaoikpaaGreatEC08
namespace Go.Proofs.YtkmaeipoaoikpaaGreat
set_option linter.all false
set_option maxRecDepth 100000
set_option maxHeartbeats 4000000
open Lib (hid)
open Tryz
section
open Go.RowKit
theorem Znw{w:World}{base:Nat}{e:TypeId}{g n cap:Nat}{L:List (Int×Int)}(h:w.ownsRow base e 2 (.slice (some ⟨g,0,none⟩) n cap) n (rv L))(k j:Nat)(x1 y1 x2 y2:Int) :
  ((((w.setCell ⟨g,k*2,none⟩ (.int .i64 x2)).setCell ⟨g,k*2+1,none⟩ (.int .i64 y2)).setCell ⟨g,j*2,none⟩ (.int .i64 x1)).setCell ⟨g,j*2+1,none⟩ (.int .i64 y1)).drew.ownsRow base e 2 (.slice (some ⟨g,0,none⟩) n cap) n (rv ((L.set k (x2,y2)).set j (x1,y1))) /\
  w.grownBy ((((w.setCell ⟨g,k*2,none⟩ (.int .i64 x2)).setCell ⟨g,k*2+1,none⟩ (.int .i64 y2)).setCell ⟨g,j*2,none⟩ (.int .i64 x1)).setCell ⟨g,j*2+1,none⟩ (.int .i64 y1)).drew (some g):=by
 obtain⟨s1,g1⟩:=h.stored (k*2) (.int .i64 x2);obtain⟨s2,g2⟩:=s1.stored (k*2+1) (.int .i64 y2);obtain⟨s3,g3⟩:=s2.stored (j*2) (.int .i64 x1);obtain⟨s4,g4⟩:=s3.stored (j*2+1) (.int .i64 y1);refine⟨?_,?_⟩
 ·rw[<-Zt7,<-Zt7];exact s4
 ·have h:=((g1.trans g2).trans g3).trans g4;exact⟨h.os,h.tape,h.output,h.size,h.block⟩
theorem Zmn(g n cap base:Nat)(l:List (Int×Int))(w:World)(hl:l.length=n)(hn:n<=10000000)(hown:w.ownsRow base 218 2 (.slice (some ⟨g,0,none⟩) n cap) n (rv l)) :
  Calls prog 183 #[.slice (some ⟨g,0,none⟩) n cap] w fun e w'=>e=.returned (.tuple #[])/\w'.ownsRow base 218 2 (.slice (some ⟨g,0,none⟩) n cap) n (rv l.reverse)/\w.grownBy w' (some g):=by
 have HL:=hid hl;have HO:=hid hown;clear hl hown
 go_enter func183,ntmps183
 go_wp2_with fail
 go_loopw [2,3] (fun x y wr=>∃k:Nat,k*2<=n/\x=.int .i64 k/\y=.int .i64 ((n:Int)-1-k)/\wr.ownsRow base 218 2 (.slice (some ⟨g,0,none⟩) n cap) n (rv (ZjW l k))/\w.grownBy wr (some g)) (fun x _ _=>n-(intOf x).toNat)
 case atStart=>exact⟨0,by omega,rfl,by simp,by rw[ZqA];exact HO.out,World.grownBy.refl _ _⟩
 case round=>
  obtain⟨k,hk,rfl,rfl,hown,hg⟩:=hrel
  by_cases hlt:k*2+1<n
  ·obtain⟨j,hj⟩:∃j,k+j+1=n:=⟨n-1-k,by omega⟩;have HLn:=HL.out;rw[show (n:Int)-1-(k:Int)=(j:Int) by omega];have hkl:k<(ZjW l k).length:=by rw[Zbj];omega
   have hjl:j<(ZjW l k).length:=by rw[Zbj];omega
   obtain⟨a1,a2⟩:=Zj5 (ZjW l k) k hkl;obtain⟨b1,b2⟩:=Zj5 (ZjW l k) j hjl;have HN:=hid (ZqC l k j _ _ (by omega) (by omega) (YaA hkl) (YaA hjl));generalize (ZjW l k)[k]=ra at *;generalize (ZjW l k)[j]=rb at *;obtain⟨x1,y1⟩:=ra;obtain⟨x2,y2⟩:=rb;dsimp only at a1 a2 b1 b2;have c1:wr.cell? ⟨g,k*2,none⟩=some (.int .i64 x1):=(hown.cellAt (k*2) (by omega)).trans a1;have c2:wr.cell? ⟨g,k*2+1,none⟩=some (.int .i64 y1):=(hown.cellAt (k*2+1) (by omega)).trans a2;have c3:wr.cell? ⟨g,j*2,none⟩=some (.int .i64 x2):=(hown.cellAt (j*2) (by omega)).trans b1;have c4:wr.cell? ⟨g,j*2+1,none⟩=some (.int .i64 y2):=(hown.cellAt (j*2+1) (by omega)).trans b2;have f1:=hown.frozenAt (k*2);have f2:=hown.frozenAt (k*2+1);have f3:=hown.frozenAt (j*2);have f4:=hown.frozenAt (j*2+1);have HOw:=hid hown;have HJ:=hid hj;have i1:(k:Int)<(n:Int):=by omega
   have i2:(j:Int)<(n:Int):=by omega
   have i3:(0:Int)<=(k:Int):=by omega
   have i4:(0:Int)<=(j:Int):=by omega
   have hkj:k<j:=by omega
   clear a1 a2 b1 b2 hown hj hkl hjl HLn;go_wp2_with fail;go_region;go_wp2
   go_roundw
   case rel=>exact⟨k+1,by omega,by go_num,by have:=HJ.out;congr 1;omega,by rw[<-HN.out];exact(Znw HOw.out k j x1 y1 x2 y2).1,(hg.trans (Znw HOw.out k j x1 y1 x2 y2).2)⟩
   case measure=>simp[intOf];omega
  ·go_wp2
   go_end0
   exact⟨rfl,by rw[<-ZqB l k (by have:=HL.out;omega)];exact hown,hg⟩
def Zbc(n s:Nat):List (Int×Int):=(Zat n s).reverse
theorem ZgF(n s:Nat):(Zbc n s).length=cnt n s:=by simp[Zbc,Zan]
theorem Zmo(a b:Nat)(w:World)(ha1:1<=a)(ha:a<=10000000)(hb1:1<=b)(hb:b<=9223372036854775807) :
  Calls prog 108 #[.int .i64 a,.int .i64 b] w (Zal w 218 2 (cnt a b) (rv (Zbc a b))):=by
 have hc:=Zci a b;have hc1:1<=cnt a b:=by rw[Zdm a b ha1 hb1];exact Nat.le_add_left _ _
 go_enter func108,ntmps108
 go_wp2_with fail;((with_reducible refine(ZdR a b _ (by omega) (by omega) (by omega) (by omega)).mono ?_);rintro e w1 ⟨A,cap,rfl,hown,hbw⟩);obtain⟨A',cap',hv,_,_,hf⟩:=ZaF hown;injection hv with hA _ hC
 subst hA hC;obtain⟨g,rfl,hg1,hg2⟩:=hf (by omega);have HO:=hid hown;clear hown;go_wp2_with fail;((with_reducible refine(Zmn g (cnt a b) cap _ (Zat a b) _ (Zan a b) (by omega) HO.out).mono ?_);rintro e w2 ⟨rfl,hown2,hg⟩);have HO2:=hid hown2;have HG:=hid hg;clear hown2 hg;go_wp2;go_ret;exact⟨_,_,rfl,HO2.out,hbw.grown HG.out hbw.size (fun k e=>by cases e;exact hg1)⟩
theorem Zv1(l:List (Int×Int))(n k:Nat)(hl:l.length=n)(hk:k<n):l.reverse[k]?=l[n-1-k]?:=by
 rw[List.getElem?_reverse (by omega),hl]
theorem ZhC(a b:Nat)(w:World)(ha1:1<=a)(ha:a<=10000000)(hb1:1<=b)(hb:b<=9223372036854775807) :
  Calls prog 252 #[.int .i64 a,.int .i64 b] w (Zal w 355 2 (cnt a b) (rv (Zbc a b))):=by
 have hc:=Zci a b;have HL:=hid (Zan a b)
 go_enter func252,ntmps252
 go_wp2_with fail;((with_reducible refine(ZcR a b _ (by omega) (by omega) (by omega) (by omega)).mono ?_);rintro e W ⟨A,cap,rfl,hown,hbw⟩);have HR:=hid (Rd.of_own hown);clear hown;generalize cnt a b=n at *;go_wp2_with fail
 go_loopw [6,7] (fun v c wr=>∃i:Nat,i<=n/\c=.int .i64 ((n:Int)-1-i)/\ZiV W 355 (Zbc a b) i v wr) (fun _ c _=>(intOf c+1).toNat)
 case atStart=>exact⟨0,by omega,by simp,ZiV.start _ _ _⟩
 case round=>
  obtain⟨i,hi,rfl,hcoll⟩:=hrel
  by_cases hlt:i<n
  ·obtain⟨g,o,x,y,rfl,hbl,hx,c1,c2⟩:=Zdn HL.out (HR.out.below hcoll.2.2) (show n-1-i<n by omega);have HX:Hid ((Zbc a b)[i]?=some (x,y)):=hid (by unfold Zbc;rw[Zv1 _ n i HL.out hlt];exact hx);clear hx;rw[show (n:Int)-1-(i:Int)=((n-1-i:Nat):Int) by omega];obtain⟨q,hq⟩:∃q,n-1-i=q:=⟨_,rfl⟩;rw[hq] at c1 c2 ⊢;have hq1:q<n:=by omega
   have HQ:=hid hq;clear hq
   go_wp2_with (at_builtin;refine Zav ZpG rfl _ _ rfl W.heap.size _ i (rv ((Zbc a b).take i)) rfl hcoll.2.1 #[.int .i64 x,.int .i64 y] _ rfl (by simp) rfl (Za4 x y) (by unfold maxLen;omega) (by omega) hcoll.2.2.size ?_;intro A' cap' w1 hown1 hb1)
   go_roundw
   case rel=>exact⟨i+1,by omega,by have:=HQ.out;congr 1;omega,hcoll.next HX hown1 hb1⟩
   case measure=>simp[intOf]
  ·go_wp2;go_ret;exact(hcoll.done (hid (by unfold Zbc;rw[List.length_reverse];exact HL.out)) hi hlt).lift hbw
theorem ZoE(a b:Nat)(w:World)(ha1:1<=a)(ha:a<=10000000)(hb1:1<=b)(hb:b<=9223372036854775807) :
  Calls prog 109 #[.int .i64 a,.int .i64 b] w (Zal w 218 2 (cnt a b) (rv (Zat a b))):=by
 go_enter func109,ntmps109
 go_wp2_with fail;((with_reducible refine(ZdR a b _ (by omega) (by omega) (by omega) (by omega)).mono ?_);rintro e w1 ⟨A,cap,rfl,hown,hbw⟩);have HO:=hid hown;clear hown;go_wp2;go_ret;exact⟨A,cap,rfl,HO.out,hbw⟩
theorem Zja(a b:Nat)(w:World)(ha1:1<=a)(ha:a<=10000000)(hb1:1<=b)(hb:b<=9223372036854775807) :
  Calls prog 208 #[.int .i64 a,.int .i64 b] w (Zal w 355 2 (cnt a b) (rv (Zat a b))):=by
 go_enter func208,ntmps208
 go_wp2_with fail;((with_reducible refine(ZcR a b _ (by omega) (by omega) (by omega) (by omega)).mono ?_);rintro e w1 ⟨A,cap,rfl,hown,hbw⟩);have HO:=hid hown;clear hown;go_wp2;go_ret;exact⟨A,cap,rfl,HO.out,hbw⟩
structure Cfg where
 sh:Int
 ra:Int
 mo:Int
 wk:Int
 ba:Int
 mi:Int
 st:Int
 bu:Int
 ch:Int
 wi:Int
 ca:Int
abbrev ZfL(A:Option Addr)(n cap:Nat)(c:Cfg):Array Value:=#[.slice A n cap,.int .i64 c.sh,.int .i64 c.ra,.int .i64 c.mo,.int .i64 c.wk,.int .i64 c.ba,.int .i64 c.mi,.int .i64 c.st,.int .i64 c.bu,.int .i64 c.ch,.int .i64 c.wi,.int .i64 c.ca]
abbrev Zsf(A:Option Addr)(n cap:Nat)(c:Cfg):Value:=.agg (ZfL A n cap c)
def szB(x:Int):Bool:=decide (1<=x) && decide (x<=1048576)
theorem Zjb(x:Int):szB x=true↔1<=x/\x<=1048576:=by simp[szB]
def btB(x lo hi:Int):Bool:=decide (lo<=x) && decide (x<=hi)
theorem Zft(x lo hi:Int):btB x lo hi=true↔lo<=x/\x<=hi:=by simp[btB]
def ZaO(l:List Int)(c:Cfg):Bool:=btB c.wk 1 64 && (btB c.sh 1 62 && (ZaI l && (szB c.mi && (szB c.bu && (szB c.ch && (szB c.wi && (szB c.ca && (btB c.st 0 1048576 && btB c.ba c.wk 1048576))))))))
theorem ZoF(x:Int)(w:World):Calls prog 153 #[.int .i64 x] w fun e w'=>e=.returned (.bool (szB x))/\w=w':=by
 by_cases h1:1<=x
 ·by_cases h2:x<=1048576
  ·go_enter func153,ntmps153
   go_wp2;go_ret;exact⟨Zao (by simp[szB,h1,h2]),rfl⟩
  ·go_enter func153,ntmps153
   go_wp2;go_ret;exact⟨Zao (by simp[szB,h2]),rfl⟩
 ·go_enter func153,ntmps153
  go_wp2;go_ret;exact⟨Zao (by rw[szB,YaI (by omega)];rfl),rfl⟩
theorem Zen(x lo hi:Int)(w:World):Calls prog 35 #[.int .i64 x,.int .i64 lo,.int .i64 hi] w fun e w'=>e=.returned (.bool (btB x lo hi))/\w=w':=by
 by_cases h1:lo<=x
 ·by_cases h2:x<=hi
  ·go_enter func35,ntmps35
   go_wp2;go_ret;exact⟨Zao (by simp[btB,h1,h2]),rfl⟩
  ·go_enter func35,ntmps35
   go_wp2;go_ret;exact⟨Zao (by simp[btB,h2]),rfl⟩
 ·go_enter func35,ntmps35
  go_wp2;go_ret;exact⟨Zao (by rw[btB,YaI (by omega)];rfl),rfl⟩
end
section
open Go.RowKit
variable(A:Option Addr)(n cap:Nat)(l:List Int)(c:Cfg)(w:World)
theorem ZcY(hl:l.length=n)(h:Rd w 1 A n (iv l))(hcap:n<=cap)(hn:n<=1000) :
  Calls prog 66 #[Zsf A n cap c] w (Zek (ZaO l c) w):=by
 have HG:Hid (∀W,w.alloc (.cells (ZfL A n cap c) 24)=W->Below w.heap.size w W/\Blk W w.heap.size 24 (ZfL A n cap c)):=hid (by
  rintro W rfl;exact⟨bA0 _,Blk.new _ _ _⟩)
 have HS:=hid (fun W (r:Rd W 1 A n (iv l))=>Zkh A n cap l W hl r hcap (by omega));have HR:=hid h;have HZ:=hid ZoF;obtain⟨ok,hok⟩:∃ok,ZaO l c=ok:=⟨_,rfl⟩;have HOK:=hid hok;rw[hok];clear hl h hok;obtain⟨sh,ra,mo,wk,ba,mi,st,bu,ch,wi,ca⟩:=c
 go_enter func66,ntmps66
 go_wp2_with fail;obtain⟨hB,hK⟩:=HG.out _ rfl;((with_reducible refine(HS.out _ (HR.out.below hB)).mono ?_);rintro e w1 ⟨pv,k,rfl,hk,hb1⟩);have k1:=hK.kept hb1;have HB1:=hid (bT0 hB hb1);have c1:w1.cell? ⟨w.heap.size,1,none⟩=some (.int .i64 sh):=k1.cell 1;have c4:w1.cell? ⟨w.heap.size,4,none⟩=some (.int .i64 wk):=k1.cell 4;have c5:w1.cell? ⟨w.heap.size,5,none⟩=some (.int .i64 ba):=k1.cell 5;have c6:w1.cell? ⟨w.heap.size,6,none⟩=some (.int .i64 mi):=k1.cell 6;have c7:w1.cell? ⟨w.heap.size,7,none⟩=some (.int .i64 st):=k1.cell 7;have c8:w1.cell? ⟨w.heap.size,8,none⟩=some (.int .i64 bu):=k1.cell 8;have c9:w1.cell? ⟨w.heap.size,9,none⟩=some (.int .i64 ch):=k1.cell 9;have c10:w1.cell? ⟨w.heap.size,10,none⟩=some (.int .i64 wi):=k1.cell 10;have c11:w1.cell? ⟨w.heap.size,11,none⟩=some (.int .i64 ca):=k1.cell 11;have l1:=k1.lt;have HK:=hid hk;clear hB hK hb1 k1 hk;have done:∀code:Int,code≠0->ok=false->Zek ok w (.returned (.int .i64 code)) w1:=fun code h1 h2=>⟨code,rfl,by rw[h2];simp[h1],HB1.out⟩
 have HD:=hid done;clear done
 by_cases w1':wk<1
 ·have e1:decide (wk<1)=true:=YaJ w1';go_wp2_with fail;go_ret;exact HD.out 6 (by omega) (by rw[<-HOK.out];simp[ZaO,btB];omega)
 ·have e1:decide (wk<1)=false:=YaI w1'
  by_cases w2':64<wk
  ·have e2:decide (64<wk)=true:=YaJ w2';go_wp2_with fail;go_ret;exact HD.out 6 (by omega) (by rw[<-HOK.out];simp[ZaO,btB];omega)
  ·have e2:decide (64<wk)=false:=YaI w2'
   by_cases s1':sh<1
   ·have e3:decide (sh<1)=true:=YaJ s1';go_wp2_with fail;go_ret;exact HD.out 9 (by omega) (by rw[<-HOK.out];simp[ZaO,btB];omega)
   ·have e3:decide (sh<1)=false:=YaI s1'
    by_cases s2':62<sh
    ·have e4:decide (62<sh)=true:=YaJ s2';go_wp2_with fail;go_ret;exact HD.out 9 (by omega) (by rw[<-HOK.out];simp[ZaO,btB];omega)
    ·have e4:decide (62<sh)=false:=YaI s2'
     by_cases hk0:k=0
     ·subst hk0;have hsz:ZaI l=true:=HK.out.1 rfl;have HSZ:=hid hsz;clear hsz
      by_cases st0:st=0
      ·subst st0;go_wp2_with fail;((with_reducible refine(HZ.out mi w1).mono ?_);rintro e w2 ⟨rfl,rfl⟩);obtain⟨qmi,hqmi⟩:∃q,szB mi=q:=⟨_,rfl⟩;rw[hqmi];have HQmi:=hid hqmi;clear hqmi
       cases qmi
       ·go_wp2_with fail;go_ret;exact HD.out 2 (by omega) (by rw[<-HOK.out];simp[ZaO,HQmi.out])
       ·go_wp2_with fail;((with_reducible refine(HZ.out bu w1).mono ?_);rintro e w2 ⟨rfl,rfl⟩);obtain⟨qbu,hqbu⟩:∃q,szB bu=q:=⟨_,rfl⟩;rw[hqbu];have HQbu:=hid hqbu;clear hqbu
        cases qbu
        ·go_wp2_with fail;go_ret;exact HD.out 2 (by omega) (by rw[<-HOK.out];simp[ZaO,HQbu.out])
        ·go_wp2_with fail;((with_reducible refine(HZ.out ch w1).mono ?_);rintro e w2 ⟨rfl,rfl⟩);obtain⟨qch,hqch⟩:∃q,szB ch=q:=⟨_,rfl⟩;rw[hqch];have HQch:=hid hqch;clear hqch
         cases qch
         ·go_wp2_with fail;go_ret;exact HD.out 2 (by omega) (by rw[<-HOK.out];simp[ZaO,HQch.out])
         ·go_wp2_with fail;((with_reducible refine(HZ.out wi w1).mono ?_);rintro e w2 ⟨rfl,rfl⟩);obtain⟨qwi,hqwi⟩:∃q,szB wi=q:=⟨_,rfl⟩;rw[hqwi];have HQwi:=hid hqwi;clear hqwi
          cases qwi
          ·go_wp2_with fail;go_ret;exact HD.out 2 (by omega) (by rw[<-HOK.out];simp[ZaO,HQwi.out])
          ·go_wp2_with fail;((with_reducible refine(HZ.out ca w1).mono ?_);rintro e w2 ⟨rfl,rfl⟩);obtain⟨qca,hqca⟩:∃q,szB ca=q:=⟨_,rfl⟩;rw[hqca];have HQca:=hid hqca;clear hqca
           cases qca
           ·go_wp2_with fail;go_ret;exact HD.out 2 (by omega) (by rw[<-HOK.out];simp[ZaO,HQca.out])
           ·by_cases b1':ba<wk
            ·have f1:decide (ba<wk)=true:=YaJ b1';go_wp2_with fail;go_ret;exact HD.out 7 (by omega) (by rw[<-HOK.out];simp[ZaO,btB];omega)
            ·have f1:decide (ba<wk)=false:=YaI b1'
             by_cases b2':1048576<ba
             ·have f2:decide (1048576<ba)=true:=YaJ b2';go_wp2_with fail;go_ret;exact HD.out 7 (by omega) (by rw[<-HOK.out];simp[ZaO,btB];omega)
             ·have f2:decide (1048576<ba)=false:=YaI b2';go_wp2_with fail;go_ret;have hall:ok=true:=by
               rw[<-HOK.out];simp[ZaO,btB,HSZ.out,HQmi.out,HQbu.out,HQch.out,HQwi.out,HQca.out]
               skip
               omega
              exact⟨0,rfl,by rw[hall];simp,HB1.out⟩
      ·have e6:(st !=0)=true:=by simp[st0]
       go_wp2_with fail;((with_reducible refine(HZ.out mi w1).mono ?_);rintro e w2 ⟨rfl,rfl⟩);obtain⟨qmi,hqmi⟩:∃q,szB mi=q:=⟨_,rfl⟩;rw[hqmi];have HQmi:=hid hqmi;clear hqmi
       cases qmi
       ·go_wp2_with fail;go_ret;exact HD.out 2 (by omega) (by rw[<-HOK.out];simp[ZaO,HQmi.out])
       ·go_wp2_with fail;((with_reducible refine(HZ.out bu w1).mono ?_);rintro e w2 ⟨rfl,rfl⟩);obtain⟨qbu,hqbu⟩:∃q,szB bu=q:=⟨_,rfl⟩;rw[hqbu];have HQbu:=hid hqbu;clear hqbu
        cases qbu
        ·go_wp2_with fail;go_ret;exact HD.out 2 (by omega) (by rw[<-HOK.out];simp[ZaO,HQbu.out])
        ·go_wp2_with fail;((with_reducible refine(HZ.out ch w1).mono ?_);rintro e w2 ⟨rfl,rfl⟩);obtain⟨qch,hqch⟩:∃q,szB ch=q:=⟨_,rfl⟩;rw[hqch];have HQch:=hid hqch;clear hqch
         cases qch
         ·go_wp2_with fail;go_ret;exact HD.out 2 (by omega) (by rw[<-HOK.out];simp[ZaO,HQch.out])
         ·go_wp2_with fail;((with_reducible refine(HZ.out wi w1).mono ?_);rintro e w2 ⟨rfl,rfl⟩);obtain⟨qwi,hqwi⟩:∃q,szB wi=q:=⟨_,rfl⟩;rw[hqwi];have HQwi:=hid hqwi;clear hqwi
          cases qwi
          ·go_wp2_with fail;go_ret;exact HD.out 2 (by omega) (by rw[<-HOK.out];simp[ZaO,HQwi.out])
          ·go_wp2_with fail;((with_reducible refine(HZ.out ca w1).mono ?_);rintro e w2 ⟨rfl,rfl⟩);obtain⟨qca,hqca⟩:∃q,szB ca=q:=⟨_,rfl⟩;rw[hqca];have HQca:=hid hqca;clear hqca
           cases qca
           ·go_wp2_with fail;go_ret;exact HD.out 2 (by omega) (by rw[<-HOK.out];simp[ZaO,HQca.out])
           ·go_wp2_with fail;((with_reducible refine(HZ.out st w1).mono ?_);rintro e w2 ⟨rfl,rfl⟩);obtain⟨qst,hqst⟩:∃q,szB st=q:=⟨_,rfl⟩;rw[hqst];have HQst:=hid hqst;clear hqst
            cases qst
            ·go_wp2_with fail;go_ret;exact HD.out 2 (by omega) (by
              rw[<-HOK.out];have hno:btB st 0 1048576=false:=by
               cases hb:btB st 0 1048576 with
               |false=>rfl
               |true=>
                have h1:=(Zft _ _ _).1 hb;have h2:=(Zjb st).2 (by omega);rw[HQst.out] at h2
                cases h2
              simp[ZaO,hno])
            ·by_cases b1':ba<wk
             ·have f1:decide (ba<wk)=true:=YaJ b1';go_wp2_with fail;go_ret;exact HD.out 7 (by omega) (by rw[<-HOK.out];simp[ZaO,btB];omega)
             ·have f1:decide (ba<wk)=false:=YaI b1'
              by_cases b2':1048576<ba
              ·have f2:decide (1048576<ba)=true:=YaJ b2';go_wp2_with fail;go_ret;exact HD.out 7 (by omega) (by rw[<-HOK.out];simp[ZaO,btB];omega)
              ·have f2:decide (1048576<ba)=false:=YaI b2';go_wp2_with fail;go_ret;have hall:ok=true:=by
                rw[<-HOK.out];simp[ZaO,btB,HSZ.out,HQmi.out,HQbu.out,HQch.out,HQwi.out,HQca.out];have h2:=(Zjb st).1 HQst.out;omega
               exact⟨0,rfl,by rw[hall];simp,HB1.out⟩
     ·have e5:(k !=0)=true:=by simp[hk0]
      have hsz:ZaI l=false:=by
       cases hq:ZaI l with
       |false=>rfl
       |true=>exact absurd (HK.out.2 hq) hk0
      have HSZ:=hid hsz;clear hsz;go_wp2_with fail;go_ret;exact HD.out k hk0 (by rw[<-HOK.out];simp[ZaO,HSZ.out])
end
section
open Go.RowKit Go.Shelf
attribute [local go_sem] Oper.semAt_some
def AxR(fv:Value)(B0:Nat)(x:Int×Int)(a':Act)(W:World):Prop:=
 ∃g,B0<g/\a'={ tmps:=#[.slice none 0 0,fv,.pointer (some ⟨B0,0,none⟩),undef,.slice none 0 0,.pointer (some ⟨g,0,none⟩),fv,.agg #[.int .i64 x.1,.int .i64 x.2],undef,undef,undef,undef,undef],defers:=[] }/\Blk W g 218 #[.int .i64 x.1,.int .i64 x.2]
theorem Zkv(F:Fence)(n:Nat)(hf:F.fn 283)(hro:F.round=none)(hn:3<=n)(gf:Nat)(lb:Array Value)(hFg:F.fn gf)(eg:∀args w,(callFunc gf args).run prog w=.ok (.enter gf args) w)
  (l:List (Int×Int)) (len:Nat) (S:Nat->Prop) (hll:l.length=len) (hl:len<=10000000) (w:World) (hS:∀i,S i↔w.heap.size<=i) (hseq:∀W,Below w.heap.size w W->SeqStopsK F (n-1) prog gf lb ZvH (But S) (fun ys=>ys=l) (fun pre=>pre <+:l) len W) :
  CallsIn F n prog 283 #[.slice none 0 0,.func (.func gf) #[] lb] w (Zal w 218 2 len (rv l)):=by
 have h1:1<=n:=by omega
 have HLL:=hid hll;clear hll;obtain⟨i0,hi,hz0,hz1,hz2⟩:=info_parts ZfF.info;refine callsIn_of_wp_marks func283 rfl hf ?_ hro;simp only[ntmps283,List.size_toArray,List.length_cons,List.length_nil,Nat.reduceAdd,Nat.reduceSub,Array.replicate_succ,Array.replicate_zero,List.push_toArray,List.append_toArray,List.nil_append,List.cons_append]
 gi_wp2_with fail
 have bO:=Boxed.new w 113 (.slice none 0 0);have hB0:Below w.heap.size w (w.alloc (.cells #[.slice none 0 0] 113)):=(bR0 _ w).alloc (YaF _) _;refine wpIn_rangeFunc_ownH hro h1 (gf:=gf) (lb:=lb) rfl hFg eg (hseq _ hB0) (fun h k=>h.trans k) (Znk (fun i hi=>(hS i).2 (by simp at hi;omega))) (bR0 _ _) (fun _=>rfl)
  (fun pre W=>(∃v,Boxed W w.heap.size 113 v/\W.ownsRow w.heap.size 218 2 v pre.length (rv pre)/\True)/\Below w.heap.size w W)
  (fun _ _ _=>False)
  (OwnFrom.and (Own.from (holdsRow_own w.heap.size w.heap.size 113 218 2 (fun pre:List (Int×Int)=>pre.length) (fun pre=>rv pre) (fun _ _=>True)) _) (ownFrom_below (YaF _) (by simp)))
  (fun _ _ _ _ _ hs _ _=>hs)
  ⟨⟨_,bO,World.ownsRow_nil _ _ _ _,trivial⟩,hB0⟩
  (AxR (.func (.func gf) #[] lb) w.heap.size)
  (fun x a' s X Y row hs hg hr=>by
   obtain⟨g,hg0,ha,hb⟩:=hs;exact⟨g,hg0,ha,hb.turn hg hr⟩) ?assign ?body ?done ?stop
 case assign=>
  rintro l' pre ⟨x,y⟩ W K ⟨⟨v,hv,hrow,_⟩,hB⟩ hK;simp only[ZvH]
  gi_wp2_with fail
  refine hK _ _ ((KeepsOthers.alloc _ _).from _) (But.of_below _ (bA0 _)) ⟨⟨v,hv.alloc _,hrow.alloc _,trivial⟩,hB.alloc hB.size _⟩ ⟨W.heap.size,hv.lt,rfl,Blk.new _ _ _⟩
 case body=>
  rintro l' pre ⟨x,y⟩ a' W _ _ ⟨⟨v,hv,hrow,_⟩,hB⟩ ⟨g,hg0,rfl,hblk⟩ hlt;have hc:=hv.cell;have x1:W.cell? ⟨g,0,none⟩=some (.int .i64 x):=hblk.cell 0;have x2:W.cell? ⟨g,1,none⟩=some (.int .i64 y):=hblk.cell 1
  gi_wp2_with (gi_at_builtin;refine wpListIn_append_own _ rfl _ _ 113 rfl w.heap.size 218 i0 (.agg #[.int .i64 0,.int .i64 0]) 2 16 underlying113 hi hz0 hz1 hz2 rfl (by decide) _ _ _ rfl (hrow.alloc _) ⟨W.heap.size,0,none⟩ 1 1 [.int .i64 x,.int .i64 y] rfl rfl (Zdi W #[.int .i64 x,.int .i64 y] 218) (Za4 x y) (by unfold maxLen;omega) (by omega) (by have:=hB.size;simp;omega) ?_;intro v' w1 hown' hgrow _;obtain⟨g',cap',rfl⟩:=ownsRow_succ hown';obtain⟨hv1,hv2,hr2,hk2,hb2⟩:=hv.appended (by decide) hrow hB.size (YaF _) hown' hgrow;have hc1:=hv1.cell;have hf1:=hv1.frozen)
  exact⟨hk2.from _,But.below' hb2 (fun i hi=>by have:=mt (hS i).2 hi;omega),⟨_,hv2,by rw[YaS,ZeD];exact hr2⟩,hB.trans hb2⟩
 case done=>
  rintro D ys W hD rfl ⟨⟨v,hv,hrow,_⟩,hB⟩ hK;have hc:=hv.cell
  gi_wp2_with fail
  refine⟨by simp,.inl ⟨_,_,rfl,run_takeDeferred hK,?_⟩⟩;obtain⟨A,cap,rfl,_⟩:=ZaF hrow;have hrow':=hrow;rw[HLL.out] at hrow' ⊢;exact⟨_,results_tmp rfl _ _ _,A,cap,rfl,ownsRow_putObj hrow' _ hK rfl,hB.trans (belowK_b (w:=w) (YaF _) W D _ _ (by simp at hD;omega) hK rfl rfl)⟩
 case stop=>
  rintro D c pre W _ _ h _;exact h.elim
theorem ZoG(F:Fence)(n:Nat)(hf:F.fn 278)(hf2:F.fn 283)(hro:F.round=none)(hn:4<=n)(gf:Nat)(lb:Array Value)(hFg:F.fn gf)(eg:∀args w,(callFunc gf args).run prog w=.ok (.enter gf args) w)
  (l:List (Int×Int)) (len:Nat) (S:Nat->Prop) (hll:l.length=len) (hl:len<=10000000) (w:World) (hS:∀i,S i↔w.heap.size<=i) (hseq:∀W,Below w.heap.size w W->SeqStopsK F (n-1-1) prog gf lb ZvH (But S) (fun ys=>ys=l) (fun pre=>pre <+:l) len W) :
  CallsIn F n prog 278 #[.func (.func gf) #[] lb] w (Zal w 218 2 len (rv l)):=by
 have HC:=hid (Zkv F (n-1) hf2 hro (by omega) gf lb hFg eg l len S hll hl w hS hseq);have h1:1<=n:=by omega
 clear hll hseq;refine callsIn_of_wp func278 rfl hf ?_ hro;simp only[ntmps278,List.size_toArray,List.length_cons,List.length_nil,Nat.reduceAdd,Nat.reduceSub,Array.replicate_succ,Array.replicate_zero,List.push_toArray,List.append_toArray,List.nil_append,List.cons_append]
 gi_wp2_with fail
 refine HC.out.mono ?_;rintro e w1 ⟨A,cap,rfl,hown,hb⟩;have HO:=hid hown;clear hown HC
 gi_wp2_with fail
 go_ret;exact⟨A,cap,rfl,HO.out,hb⟩
theorem Zkw(A:Option Addr)(n c:Nat)(b:Int)(w:World):Calls prog 229 #[.slice A n c,.int .i64 b] w (Znl w A n c b):=
 (callsIn_wide (n:=5)).1 (Zss Fence.wide 5 trivial rfl A n c b w)
theorem ZfM(A:Option Addr)(n c:Nat)(rs:List (Int×Int))(b:Int)(w w1:World)(hn:n<=10000000)(hrl:rs.length=n)(hsm:ZfG rs)(hb0:0<=b/\b<=1000000000)(hr:Rd w 2 A n (rv rs))
  (hb1:Below w.heap.size w w1) (h1:w1.cell? ⟨w.heap.size,0,none⟩=some (.slice A n c)) (h2:w1.cell? ⟨w.heap.size+1,0,none⟩=some (.int .i64 b)) (h3:w1.cell? ⟨w.heap.size+1+1,0,none⟩=some (.func (.func 263) #[] #[.pointer (some ⟨w.heap.size+1,0,none⟩)])) (hs:w.heap.size+3<=w1.heap.size) (W:World) (hW:Below w1.heap.size w1 W) :
  Calls prog 278 #[.func (.func 264) #[] #[.pointer (some ⟨w.heap.size,0,none⟩),.pointer (some ⟨w.heap.size+1+1,0,none⟩)]] W (Zal W 218 2 n (rv (ZbE rs b))):=
 (callsIn_wide (n:=5)).1 (ZoG Fence.wide 5 trivial trivial rfl (by omega) 264 _ trivial (enters_of func264 (by kernel_rfl) rfl) (ZbE rs b) n (fun i=>W.heap.size<=i) (by rw[ZaR,hrl]) hn W (fun i=>Iff.rfl) (fun W' hW'=>by
  have hz:=hW.size;have hz':=hW'.size;have hb:=hb1.size;exact ZlL id (ZbE rs b) Fence.wide (5-1-1) trivial trivial rfl (by omega) w.heap.size (w.heap.size+1+1) (w.heap.size+1) n c A rs b hn hrl hsm hb0 (List.map_id _) (fun i=>W.heap.size<=i) W' (by omega) ⟨by omega,by omega⟩ ⟨by omega,by omega⟩
   (by rw[(bT0 hW hW').cell (p:=⟨w.heap.size,0,none⟩) (show w.heap.size<_ by omega)];exact h1)
   (by rw[(bT0 hW hW').cell (p:=⟨w.heap.size+1+1,0,none⟩) (show w.heap.size+1+1<_ by omega)];exact h3)
   (by rw[(bT0 hW hW').cell (p:=⟨w.heap.size+1,0,none⟩) (show w.heap.size+1<_ by omega)];exact h2)
   (fun h0=>by
    obtain⟨g,off,e,hg,hcc⟩:=hr.2 h0;refine⟨g,off,e,⟨by omega,by omega⟩,fun j u hu=>?_⟩;rw[(bT0 hW hW').cell (p:=⟨g,off+j,none⟩) (show g<_ by omega),hb1.cell (p:=⟨g,off+j,none⟩) hg];exact hcc j u hu)))
end
section
open Go.RowKit
def Zdf(n k:Int):List (Int×Int):=if n<0\/k<1 then [] else ZfW n.toNat k.toNat
def Zba(n s:Int):List (Int×Int):=if n<1\/s<1 then [] else Zat n.toNat s.toNat
theorem Znx{n k:Int}(h:n<0\/k<1):Zdf n k=[]:=if_pos h
theorem Zkx(n k:Nat)(h:1<=k):Zdf n k=ZfW n k:=by unfold Zdf;rw[if_neg (by omega)];rfl
theorem Zin{n k:Int}(h:n<1\/k<1):Zba n k=[]:=if_pos h
theorem ZgG(n s:Nat)(hn:1<=n)(h:1<=s):Zba n s=Zat n s:=by unfold Zba;rw[if_neg (by omega)];rfl
theorem Zdt(n k:Int)(hn:0<=n):(Zdf n k).length=k.toNat:=by
 unfold Zdf
 split
 ·rw[List.length_nil];omega
 ·exact Zbe _ _
theorem Zcz(n s:Int):(Zba n s).length=cnt n.toNat s.toNat:=by
 unfold Zba
 split
 ·rename_i h
  rw[List.length_nil];have:=Zgb n s h;omega
 ·exact Zan _ _
theorem Zmp(n k i:Nat)(hk:1<=k)(h:i<=k):bnd n k i<=n:=by
 have:=Zga n k i k h;rw[ZvR n k hk] at this;exact this
theorem ZgH(n k:Int)(hn:n<=1000000000):ZfG (Zdf n k):=by
 unfold Zdf
 split
 ·intro r hr;cases hr
 ·rename_i h
  intro r hr;obtain⟨i,hi⟩:=List.mem_iff_getElem?.1 hr;have hlt:i<k.toNat:=by have:=(YaG.1 hi).1;rwa [Zbe] at this
  rw[Zgv _ _ _ hlt] at hi;injection hi with hi
  subst hi;have h1:=Zmp n.toNat k.toNat i (by omega) (by omega);have h2:=Zmp n.toNat k.toNat (i+1) (by omega) (by omega);dsimp only;omega
theorem ZeS(n s:Int)(hn:n<=1000000000):ZfG (Zba n s):=by
 unfold Zba
 split
 ·intro r hr;cases hr
 ·rename_i h
  intro r hr;obtain⟨i,hi⟩:=List.mem_iff_getElem?.1 hr;have hlt:i<cnt n.toNat s.toNat:=by have:=(YaG.1 hi).1;rwa [Zan] at this
  rw[ZeE _ _ _ hlt] at hi;injection hi with hi
  subst hi;have h1:=(ZfD n.toNat s.toNat i (by omega) (by omega)).1 hlt;dsimp only;omega
theorem Zs5(n k:Int)(w:World)(hn:n<=1000000000)(hk:k<=10000000) :
  Calls prog 171 #[.int .i64 n,.int .i64 k] w (Zal w 218 2 (Zdf n k).length (rv (Zdf n k))):=by
 by_cases h:n<0\/k<1
 ·rw[Znx h];exact Zka n k w h
 ·obtain⟨a,rfl⟩:=YaM (show 0<=n by omega);obtain⟨b,rfl⟩:=YaM (show 0<=k by omega);have:=Zni a b w (by omega) (by omega) (by omega);rw[Zkx a b (by omega),Zbe];exact this
theorem Zmq(n k:Int)(w:World)(hn:n<=1000000000)(hk:k<=10000000) :
  Calls prog 285 #[.int .i64 n,.int .i64 k] w (Zal w 355 2 (Zdf n k).length (rv (Zdf n k))):=by
 by_cases h:n<0\/k<1
 ·rw[Znx h];exact Zkb n k w h
 ·obtain⟨a,rfl⟩:=YaM (show 0<=n by omega);obtain⟨b,rfl⟩:=YaM (show 0<=k by omega);have:=ZlJ a b w (by omega) (by omega) (by omega);rw[Zkx a b (by omega),Zbe];exact this
theorem ZoH(n s:Int)(w:World)(hn0:-9223372036854775808<=n)(hn:n<=10000000)(hs:s<=9223372036854775807) :
  Calls prog 77 #[.int .i64 n,.int .i64 s] w (Zal w 218 2 (Zba n s).length (rv (Zba n s))):=by
 by_cases h:n<1\/s<1
 ·rw[Zin h];exact Zmm n s w (by omega) (by omega) (by omega) h
 ·obtain⟨a,rfl⟩:=YaM (show 0<=n by omega);obtain⟨b,rfl⟩:=YaM (show 0<=s by omega);have:=ZdR a b w (by omega) (by omega) (by omega) (by omega);rw[ZgG a b (by omega) (by omega),Zan];exact this
theorem Zjc(n s:Int)(w:World)(hn:n<=10000000)(hs:s<=9223372036854775807) :
  Calls prog 251 #[.int .i64 n,.int .i64 s] w (Zal w 355 2 (Zba n s).length (rv (Zba n s))):=by
 by_cases h:n<1\/s<1
 ·rw[Zin h];exact Zhq n s w h
 ·obtain⟨a,rfl⟩:=YaM (show 0<=n by omega);obtain⟨b,rfl⟩:=YaM (show 0<=s by omega);have:=ZcR a b w (by omega) (by omega) (by omega) (by omega);rw[ZgG a b (by omega) (by omega),Zan];exact this
def Zdu(lo hi k:Int):List (Int×Int):=ZbE (Zdf (hi-lo) k) lo
def Zbb(lo hi s:Int):List (Int×Int):=ZbE (Zba (hi-lo) s) lo
theorem Zdv(lo hi k:Int)(h:lo<=hi):(Zdu lo hi k).length=k.toNat:=by rw[Zdu,ZaR,Zdt _ _ (by omega)]
theorem ZqD(n s:Int)(hn:n<=10000000):cnt n.toNat s.toNat<=10000000:=by have:=Zci n.toNat s.toNat;omega
theorem Zd7(lo hi s:Int):(Zbb lo hi s).length=cnt (hi-lo).toNat s.toNat:=by rw[Zbb,ZaR,Zcz]
theorem Zky(lo hi k:Int)(w:World)(h0:0<=lo)(h1:lo<=hi)(h2:hi<=1000000)(hk:k<=10000000) :
  Calls prog 260 #[.agg #[.int .i64 lo,.int .i64 hi],.int .i64 k] w (Zal w 218 2 (Zdu lo hi k).length (rv (Zdu lo hi k))):=by
 obtain⟨W0,hW0⟩:∃W0,w.alloc (.cells #[.int .i64 lo,.int .i64 hi] 218)=W0:=⟨_,rfl⟩;have k0:Below w.heap.size w W0:=by rw[<-hW0];exact bA0 _
 have b0:Blk W0 w.heap.size 218 #[.int .i64 lo,.int .i64 hi]:=by rw[<-hW0];exact Blk.new _ _ _
 have c0:W0.cell? ⟨w.heap.size,0,none⟩=some (.int .i64 lo):=b0.cell 0;have c1:W0.cell? ⟨w.heap.size,1,none⟩=some (.int .i64 hi):=b0.cell 1;have lt0:=b0.lt;have hn:max (hi-lo) 0=hi-lo:=by omega
 obtain⟨d,hd⟩:∃d,hi-lo=d:=⟨_,rfl⟩;have C1:=fun W=>ZiW lo hi W (by omega) (by omega) (by omega) (by omega)
 rw[hn,hd] at C1;have HC1:=hid C1;have HC2:=hid (fun W=>Zs5 d k W (by omega) hk);have HL:=hid (Zdt d k (by omega));have HS:=hid (ZgH d k (by omega));have hb:0<=lo/\lo<=1000000000:=by omega
 have HK0:=hid k0;have HD:=hid hd;have hkn:k.toNat<=10000000:=by omega
 clear hn C1 k0 b0 hd
 go_enter func260,ntmps260
 go_wp2_with fail;clear hW0
 go_region_held3 (fun w'=>Zag W0 w') (first|exact kk|exact kk.alloc _|exact Zag.start W0) (first
  | (go_at_call 230;(with_reducible refine(HC1.out _).mono ?_);rintro e w1 ⟨rfl,hb1⟩;have kk:=(Zag.start W0).call hb1;clear hb1)
  | (go_at_call 171;(with_reducible refine(HC2.out _).mono ?_);rintro e w2 ⟨A,c,rfl,hown,hb2⟩;replace kk:=kk.call hb2;have HR:=hid (Rd.of_own hown);clear hown hb2)
  | (go_at_call 229;(with_reducible refine(Zkw _ _ _ _ _).mono ?_);rintro e w3 ⟨rfl,l1,l2,l3,l4,hb3⟩;replace kk:=kk.call hb3;have HCo:=hid (fun W hW=>ZfM A _ c (Zdf d k) lo w2 w3 (by rw[HL.out];exact hkn) rfl HS.out hb HR.out hb3 l1 l2 l3 l4 W hW);clear l1 l2 l3 l4 hb3)
  | (go_at_call 278;(with_reducible refine(HCo.out _ (bR0 _ _)).mono ?_);rintro e w4 ⟨A',c',rfl,hown4,hb4⟩;have HO4:=hid (Zae hown4 kk.2.1);replace kk:=kk.call hb4;clear hown4 hb4))
 all_goals go_wp2_with fail
 all_goals go_ret
 all_goals
  have e:Zdu lo hi k=ZbE (Zdf d k) lo:=by rw[Zdu,HD.out]
  rw[e,ZaR];exact⟨A',c',rfl,Zae HO4.out HK0.out.size,((Zag.of HK0.out).call kk.2.2).2.2⟩
theorem Zio(lo hi k:Int)(w:World)(h0:0<=lo)(h1:lo<=hi)(h2:hi<=1000000)(hk:k<=9223372036854775807) :
  Calls prog 261 #[.agg #[.int .i64 lo,.int .i64 hi],.int .i64 k] w (Zal w 218 2 (Zbb lo hi k).length (rv (Zbb lo hi k))):=by
 obtain⟨W0,hW0⟩:∃W0,w.alloc (.cells #[.int .i64 lo,.int .i64 hi] 218)=W0:=⟨_,rfl⟩;have k0:Below w.heap.size w W0:=by rw[<-hW0];exact bA0 _
 have b0:Blk W0 w.heap.size 218 #[.int .i64 lo,.int .i64 hi]:=by rw[<-hW0];exact Blk.new _ _ _
 have c0:W0.cell? ⟨w.heap.size,0,none⟩=some (.int .i64 lo):=b0.cell 0;have c1:W0.cell? ⟨w.heap.size,1,none⟩=some (.int .i64 hi):=b0.cell 1;have lt0:=b0.lt;have hn:max (hi-lo) 0=hi-lo:=by omega
 obtain⟨d,hd⟩:∃d,hi-lo=d:=⟨_,rfl⟩;have C1:=fun W=>ZiW lo hi W (by omega) (by omega) (by omega) (by omega)
 rw[hn,hd] at C1;have HC1:=hid C1;have HC2:=hid (fun W=>ZoH d k W (by omega) (by omega) hk);have HL:=hid (Zcz d k);have HS:=hid (ZeS d k (by omega));have hb:0<=lo/\lo<=1000000000:=by omega
 have HK0:=hid k0;have HD:=hid hd;have hkn:cnt d.toNat k.toNat<=10000000:=ZqD d k (by omega);clear hn C1 k0 b0 hd
 go_enter func261,ntmps261
 go_wp2_with fail;clear hW0
 go_region_held3 (fun w'=>Zag W0 w') (first|exact kk|exact kk.alloc _|exact Zag.start W0) (first
  | (go_at_call 230;(with_reducible refine(HC1.out _).mono ?_);rintro e w1 ⟨rfl,hb1⟩;have kk:=(Zag.start W0).call hb1;clear hb1)
  | (go_at_call 77;(with_reducible refine(HC2.out _).mono ?_);rintro e w2 ⟨A,c,rfl,hown,hb2⟩;replace kk:=kk.call hb2;have HR:=hid (Rd.of_own hown);clear hown hb2)
  | (go_at_call 229;(with_reducible refine(Zkw _ _ _ _ _).mono ?_);rintro e w3 ⟨rfl,l1,l2,l3,l4,hb3⟩;replace kk:=kk.call hb3;have HCo:=hid (fun W hW=>ZfM A _ c (Zba d k) lo w2 w3 (by rw[HL.out];exact hkn) rfl HS.out hb HR.out hb3 l1 l2 l3 l4 W hW);clear l1 l2 l3 l4 hb3)
  | (go_at_call 278;(with_reducible refine(HCo.out _ (bR0 _ _)).mono ?_);rintro e w4 ⟨A',c',rfl,hown4,hb4⟩;have HO4:=hid (Zae hown4 kk.2.1);replace kk:=kk.call hb4;clear hown4 hb4))
 all_goals go_wp2_with fail
 all_goals go_ret
 all_goals
  have e:Zbb lo hi k=ZbE (Zba d k) lo:=by rw[Zbb,HD.out]
  rw[e,ZaR];exact⟨A',c',rfl,Zae HO4.out HK0.out.size,((Zag.of HK0.out).call kk.2.2).2.2⟩
theorem ZcZ(x:Int)(h0:-1000000000000<=x)(h1:x<=1000000000000):IntKind.i64.wrap x=x:=IntWalk.i64_in _ (by omega)
theorem ZgI(A:Option Addr)(n cap:Nat)(l:List (Int×Int))(b:Int)(w:World)(hl:l.length=n)(h:Rd w 2 A n (rv l))(hn:n<=10000000)(hsm:ZfG l)(hb0:0<=b)(hb1:b<=1000000000) :
  Calls prog 284 #[.slice A n cap,.int .i64 b] w (Zal w 355 2 n (rv (ZbE l b))):=by
 have HL:=hid hl;have HSL:=hid ((ZaR l b).trans hl);have HR:=hid h;clear hl h
 go_enter func284,ntmps284
 go_wp2_with fail
 go_loopw [5,6] (fun v c wr=>∃k:Nat,k<=n/\c=.int .i64 k/\ZiV w 355 (ZbE l b) k v wr) (fun _ c _=>n-(intOf c).toNat)
 case atStart=>exact⟨0,by omega,rfl,ZiV.start _ _ _⟩
 case round=>
  obtain⟨k,hk,rfl,hcoll⟩:=hrel
  by_cases hlt:k<n
  ·obtain⟨g,o,x,y,rfl,hbl,hx,c1,c2⟩:=Zdn HL.out (HR.out.below hcoll.2.2) hlt;obtain⟨⟨x0,x1⟩,y0,y1⟩:=hsm.at hx;have HX:=hid (Zfn l b k x y hx);have zx:=ZcZ (x+b) (by omega) (by omega);have zy:=ZcZ (y+b) (by omega) (by omega);have i1:(0:Int)<=(k:Int):=by omega
   have i2:(k:Int)<(n:Int):=by omega
   clear hx;go_wp2_with fail;refine ZaW wr [0] [1,2,3,4,5,6,7,8,9,10,11,12,13,14,15] 16 [17,18] (by kernel_rfl) (by kernel_rfl) (by kernel_rfl) (Zag.of (bR0 _ _)) ?_;refine⟨_,_,rfl,.inl ⟨rfl,fun w=>rfl⟩,?_⟩;simp only[Zdj,YaO,YaP,YaB,YaC];go_simp;change wpQuiet _ _ _ _ (_::_::_::_::_::_::_::_::_::_::_::_::_::_::_::[]) _;have KC:=fun(u:KW wr) b o h=>KW.cells u b o h
   iterate 15 (go_big_quiet_step (fail))
   refine wpQuiet_nil ?_;rintro⟨w1,k1⟩;change wpList _ _ _ (_::_::_::[]) _ _;dsimp only;clear KC;have HO1:=hid (Zac hcoll.2.1 k1.2.2);have HK1:=hid k1.2.2;have hz1:w.heap.size<=w1.heap.size:=YaH hcoll.2.2.size k1.2.1;clear k1
   go_wp2_with (at_builtin;go_must (refine Zav ZpG rfl _ _ rfl w.heap.size _ k (rv ((ZbE l b).take k)) rfl HO1.out #[.int .i64 (x+b),.int .i64 (y+b)] w1.heap.size rfl rfl rfl (Za4 _ _) (by unfold maxLen;omega) (by omega) hz1 ?_);intro A' cap' w2 hown1 hb1)
   refine NoPanic.normal ?_;go_wp2_with fail
   go_roundw
   case rel=>exact⟨k+1,by omega,by go_num,hcoll.next HX hown1 ((HK1.out.mono hcoll.2.2.size).trans hb1)⟩
   case measure=>simp[intOf];omega
  ·go_wp2;go_ret;exact hcoll.done HSL hk hlt
end
section
open Go.RowKit Go.Shelf
attribute [local go_sem] Oper.semAt_some
theorem ZgJ(lo hi k:Int)(w:World)(h0:0<=lo)(h1:lo<=hi)(h2:hi<=1000000)(hk:k<=10000000) :
  Calls prog 282 #[.agg #[.int .i64 lo,.int .i64 hi],.int .i64 k] w (Zal w 355 2 (Zdu lo hi k).length (rv (Zdu lo hi k))):=by
 obtain⟨W0,hW0⟩:∃W0,w.alloc (.cells #[.int .i64 lo,.int .i64 hi] 355)=W0:=⟨_,rfl⟩;have k0:Below w.heap.size w W0:=by rw[<-hW0];exact bA0 _
 have b0:Blk W0 w.heap.size 355 #[.int .i64 lo,.int .i64 hi]:=by rw[<-hW0];exact Blk.new _ _ _
 have c0:W0.cell? ⟨w.heap.size,0,none⟩=some (.int .i64 lo):=b0.cell 0;have c1:W0.cell? ⟨w.heap.size,1,none⟩=some (.int .i64 hi):=b0.cell 1;have lt0:=b0.lt;obtain⟨d,hd⟩:∃d,hi-lo=d:=⟨_,rfl⟩;have zd:IntKind.i64.wrap (hi-lo)=d:=by rw[ZcZ _ (by omega) (by omega),hd]
 have HC2:=hid (fun W=>Zmq d k W (by omega) hk);have HS:=hid (ZgH d k (by omega));have hkn:(Zdf d k).length<=10000000:=by rw[Zdt d k (by omega)];omega
 have HK0:=hid k0;have HD:=hid hd;clear k0 b0 hd
 go_enter func282,ntmps282
 go_wp2_with fail;clear hW0
 go_region_held3 (fun w'=>Zag W0 w') (first|exact kk|exact kk.alloc _|exact Zag.start W0) (first
  | (go_at_call 285;(with_reducible refine(HC2.out _).mono ?_);rintro e w2 ⟨A,c,rfl,hown,hb2⟩;have kk:=(Zag.start W0).call hb2;have HR:=hid (Rd.of_own hown);have HSh:=hid (ZgI A _ c (Zdf d k) lo w2 rfl HR.out hkn HS.out h0 (by omega));clear hown hb2)
  | (go_at_call 284;(with_reducible refine HSh.out.mono ?_);rintro e w4 ⟨A',c',rfl,hown4,hb4⟩;have HO4:=hid (Zae hown4 kk.2.1);replace kk:=kk.call hb4;clear hown4 hb4))
 all_goals go_wp2_with fail
 all_goals go_ret
 all_goals
  have e:Zdu lo hi k=ZbE (Zdf d k) lo:=by rw[Zdu,HD.out]
  rw[e,ZaR];exact⟨A',c',rfl,Zae HO4.out HK0.out.size,((Zag.of HK0.out).call kk.2.2).2.2⟩
theorem Zjd(lo hi k:Int)(w:World)(h0:0<=lo)(h1:lo<=hi)(h2:hi<=1000000)(hk:k<=9223372036854775807) :
  Calls prog 281 #[.agg #[.int .i64 lo,.int .i64 hi],.int .i64 k] w (Zal w 355 2 (Zbb lo hi k).length (rv (Zbb lo hi k))):=by
 obtain⟨W0,hW0⟩:∃W0,w.alloc (.cells #[.int .i64 lo,.int .i64 hi] 355)=W0:=⟨_,rfl⟩;have k0:Below w.heap.size w W0:=by rw[<-hW0];exact bA0 _
 have b0:Blk W0 w.heap.size 355 #[.int .i64 lo,.int .i64 hi]:=by rw[<-hW0];exact Blk.new _ _ _
 have c0:W0.cell? ⟨w.heap.size,0,none⟩=some (.int .i64 lo):=b0.cell 0;have c1:W0.cell? ⟨w.heap.size,1,none⟩=some (.int .i64 hi):=b0.cell 1;have lt0:=b0.lt;obtain⟨d,hd⟩:∃d,hi-lo=d:=⟨_,rfl⟩;have zd:IntKind.i64.wrap (hi-lo)=d:=by rw[ZcZ _ (by omega) (by omega),hd]
 have HC2:=hid (fun W=>Zjc d k W (by omega) hk);have HS:=hid (ZeS d k (by omega));have hkn:(Zba d k).length<=10000000:=by rw[Zcz d k];exact ZqD d k (by omega)
 have HK0:=hid k0;have HD:=hid hd;clear k0 b0 hd
 go_enter func281,ntmps281
 go_wp2_with fail;clear hW0
 go_region_held3 (fun w'=>Zag W0 w') (first|exact kk|exact kk.alloc _|exact Zag.start W0) (first
  | (go_at_call 251;(with_reducible refine(HC2.out _).mono ?_);rintro e w2 ⟨A,c,rfl,hown,hb2⟩;have kk:=(Zag.start W0).call hb2;have HR:=hid (Rd.of_own hown);have HSh:=hid (ZgI A _ c (Zba d k) lo w2 rfl HR.out hkn HS.out h0 (by omega));clear hown hb2)
  | (go_at_call 284;(with_reducible refine HSh.out.mono ?_);rintro e w4 ⟨A',c',rfl,hown4,hb4⟩;have HO4:=hid (Zae hown4 kk.2.1);replace kk:=kk.call hb4;clear hown4 hb4))
 all_goals go_wp2_with fail
 all_goals go_ret
 all_goals
  have e:Zbb lo hi k=ZbE (Zba d k) lo:=by rw[Zbb,HD.out]
  rw[e,ZaR];exact⟨A',c',rfl,Zae HO4.out HK0.out.size,((Zag.of HK0.out).call kk.2.2).2.2⟩
theorem ZgK(lo hi k:Int)(i:Nat)(h1:lo<=hi)(hik:(i:Int)<k):(Zdu lo hi k)[i]?=some ((bnd (hi-lo).toNat k.toNat i:Int)+lo,(bnd (hi-lo).toNat k.toNat (i+1):Int)+lo):=by
 rw[Zdu];refine Zfn _ _ _ _ _ ?_;unfold Zdf;rw[if_neg (by omega)];exact Zgv _ _ _ (by omega)
theorem ZuW(lo hi k:Int)(h1:lo<=hi):∀r∈Zdu lo hi k,lo<=r.1/\r.1<=r.2/\r.2<=hi:=by
 intro r hr;obtain⟨i,hi'⟩:=List.mem_iff_getElem?.1 hr;have hlt:i<k.toNat:=by have:=(YaG.1 hi').1;rwa [Zdv _ _ _ h1] at this
 rw[ZgK lo hi k i h1 (by omega)] at hi';injection hi' with hi'
 subst hi';have g1:=Zga (hi-lo).toNat k.toNat i (i+1) (by omega);have g2:=Zmp (hi-lo).toNat k.toNat (i+1) (by omega) (by omega);dsimp only;omega
end
section
open Go.RowKit
abbrev Zkz(s b lo hi m c:Int):Value:=.agg #[.int .i64 s,.int .i64 b,.int .i64 lo,.int .i64 hi,.int .i64 m,.int .i64 c]
theorem Zip(n m:Int)(hm:1<=m):(0<=n.tmod m/\n.tmod m=n%m)\/(n.tmod m<0/\n.tmod m+m=n%m/\0<n%m):=by
 have e:=Int.tmod_eq_emod (a:=n) (b:=m);have h1:=Int.emod_nonneg n (b:=m) (by omega);have h2:=Int.emod_lt_of_pos n (b:=m) (by omega);have h3:(m.natAbs:Int)=m:=by omega
 by_cases hc:0<=n\/m∣n
 ·rw[if_pos hc] at e;left;omega
 ·rw[if_neg hc] at e;have h4:n%m≠0:=fun h=>hc (Or.inr (Int.dvd_of_emod_eq_zero h))
  right;omega
theorem Zmr(n m:Int)(hm:1<=m):-m<n.tmod m/\n.tmod m<m:=by
 have h1:=Int.emod_nonneg n (b:=m) (by omega);have h2:=Int.emod_lt_of_pos n (b:=m) (by omega)
 rcases Zip n m hm with h|h<;>omega
theorem Zfu(s b lo hi m c n:Int)(w:World)(hm1:1<=m)(hm2:m<=1000000)(hn1:-1000000000<=n)(hn2:n<=1000000000) :
  Calls prog 277 #[Zkz s b lo hi m c,.int .i64 n] w fun e w'=>e=.returned (.int .i64 (n%m))/\Below w.heap.size w w':=by
 have hb:=Zmr n m hm1;have hmz:¬m=0:=by omega
 go_enter func277,ntmps277
 go_wp2
 all_goals go_ret
 all_goals refine⟨ZaG (by rcases Zip n m hm1 with h|h<;>first|(show n.tmod m+m=_;omega)|(show n.tmod m=_;omega)),bA0 _⟩
theorem ZgL(s b lo hi m c x y:Int)(w:World)(hm1:1<=m)(hm2:m<=1000000)(hx1:-1000000<=x)(hx2:x<=1000000)(hy1:-1000000<=y)(hy2:y<=1000000) :
  Calls prog 275 #[Zkz s b lo hi m c,.int .i64 x,.int .i64 y] w fun e w'=>e=.returned (.int .i64 ((x-y)%m))/\Below w.heap.size w w':=by
 go_enter func275,ntmps275
 go_wp2_with (go_at_call 277;refine(Zfu s b lo hi m c _ _ (by omega) (by omega) (by omega) (by omega)).mono ?_;rintro e w' ⟨rfl,hb⟩)
 go_ret;exact⟨rfl,(bA0 _).trans (hb.mono (by simp))⟩
theorem Ziq(s b lo hi m c x y:Int)(w:World)(hm1:1<=m)(hm2:m<=1000000)(hx1:-1000000<=x)(hx2:x<=1000000)(hy1:-1000000<=y)(hy2:y<=1000000) :
  Calls prog 276 #[Zkz s b lo hi m c,.int .i64 x,.int .i64 y] w fun e w'=>e=.returned (.int .i64 ((x+1-y)%m))/\Below w.heap.size w w':=by
 go_enter func276,ntmps276
 go_wp2_with (go_at_call 277;refine(Zfu s b lo hi m c _ _ (by omega) (by omega) (by omega) (by omega)).mono ?_;rintro e w' ⟨rfl,hb⟩)
 go_ret;exact⟨rfl,(bA0 _).trans (hb.mono (by simp))⟩
theorem Zms(s b lo hi m c x p y:Int)(z:Bool)(w:World)(hm1:1<=m)(hm2:m<=1000000)(h:x<0\/m<=x\/p<0\/1<p\/y<0\/m-1<=y) :
  Calls prog 259 #[Zkz s b lo hi m c,.int .i64 x,.int .i64 p,.int .i64 y,.bool z] w fun e w'=>e=.returned (.tuple #[.int .i64 0,.bool false])/\Below w.heap.size w w':=by
 go_enter func259,ntmps259
 go_wp2_with fail
 all_goals (go_ret2;exact⟨rfl,bA0 _⟩)
theorem ZqE(x y m:Int):(x-y)%m=(x-y+0)%m:=by rw[Int.add_zero]
theorem ZqF(x y m:Int):(x+1-y)%m=(x-y+1)%m:=by congr 1;omega
theorem ZqG(x y m:Int):((x-1)%m-y)%m=(x-y+0-1)%m:=by
 rw[Int.emod_sub_emod]
 congr 1
 omega
theorem ZqH(x y m:Int):((x-1)%m+1-y)%m=(x-y+1-1)%m:=by
 rw[show (x-1)%m+1-y=(x-1)%m-(y-1) by omega,Int.emod_sub_emod]
 congr 1
 omega
theorem ZoI(x y m:Int):(x-1-y)%m=(x-y+0-1)%m:=by congr 1;omega
theorem ZkA(s b lo hi m c x p y:Int)(w:World)(hm1:1<=m)(hm2:m<=1000000)(hx1:0<=x)(hx2:x<m)(hp:p=0\/p=1)(hy1:0<=y)(hy2:y<m-1) :
  Calls prog 259 #[Zkz s b lo hi m c,.int .i64 x,.int .i64 p,.int .i64 y,.bool true] w fun e w'=>e=.returned (.tuple #[.int .i64 ((x-y+p)%m),.bool true])/\Below w.heap.size w w':=by
 have i0:∀w,(Instr.index 419 (.agg #[.func (.func 275) #[] #[],.func (.func 276) #[] #[]]) (.int .i64 0)).run prog w=.ok (.func (.func 275) #[] #[]) w:=fun _=>by kernel_rfl
 have i1:∀w,(Instr.index 419 (.agg #[.func (.func 275) #[] #[],.func (.func 276) #[] #[]]) (.int .i64 1)).run prog w=.ok (.func (.func 276) #[] #[]) w:=fun _=>by kernel_rfl
 rcases hp with rfl|rfl
 all_goals
  go_enter func259,ntmps259
  go_wp2_with (first|(go_at_call 275;refine(ZgL s b lo hi m c _ _ _ (by omega) (by omega) (by omega) (by omega) (by omega) (by omega)).mono ?_;rintro e w' ⟨rfl,hb⟩)|(go_at_call 276;refine(Ziq s b lo hi m c _ _ _ (by omega) (by omega) (by omega) (by omega) (by omega) (by omega)).mono ?_;rintro e w' ⟨rfl,hb⟩))
  go_ret2
  refine⟨ZeA (by first|exact congrArg (Value.int .i64) (ZqE x y m)|exact congrArg (Value.int .i64) (ZqF x y m)),(bA0 _).trans (hb.mono (by simp))⟩
theorem ZkB(s b lo hi m c x p y:Int)(w:World)(hm1:1<=m)(hm2:m<=1000000)(hx1:0<=x)(hx2:x<m)(hp:p=0\/p=1)(hy1:0<=y)(hy2:y<m-1) :
  Calls prog 259 #[Zkz s b lo hi m c,.int .i64 x,.int .i64 p,.int .i64 y,.bool false] w fun e w'=>e=.returned (.tuple #[.int .i64 ((x-y+p-1)%m),.bool true])/\Below w.heap.size w w':=by
 have i0:∀w,(Instr.index 419 (.agg #[.func (.func 275) #[] #[],.func (.func 276) #[] #[]]) (.int .i64 0)).run prog w=.ok (.func (.func 275) #[] #[]) w:=fun _=>by kernel_rfl
 have i1:∀w,(Instr.index 419 (.agg #[.func (.func 275) #[] #[],.func (.func 276) #[] #[]]) (.int .i64 1)).run prog w=.ok (.func (.func 276) #[] #[]) w:=fun _=>by kernel_rfl
 have q1:=Int.emod_nonneg (x-1) (b:=m) (by omega);have q2:=Int.emod_lt_of_pos (x-1) (b:=m) (by omega);have q3:IntKind.i64.wrap (x-1)=x-1:=IntWalk.i64_in _ (by omega)
 rcases hp with rfl|rfl
 all_goals
  go_enter func259,ntmps259
  go_wp2_with fail
  go_region_held3 (fun w'=>Zag (w.alloc (.cells #[.int .i64 s,.int .i64 b,.int .i64 lo,.int .i64 hi,.int .i64 m,.int .i64 c] 380)) w') (first|exact Zag.start _|exact Zag.call (by assumption) hb|exact Zag.drew (by assumption))
   (first|(go_at_call 277;refine(Zfu s b lo hi m c _ _ (by omega) (by omega) (by omega) (by omega)).mono ?_;rintro e w1 ⟨rfl,hb⟩)|(go_at_call 275;refine(ZgL s b lo hi m c _ _ _ (by omega) (by omega) (by omega) (by omega) (by omega) (by omega)).mono ?_;rintro e w1 ⟨rfl,hb⟩)|(go_at_call 276;refine(Ziq s b lo hi m c _ _ _ (by omega) (by omega) (by omega) (by omega) (by omega) (by omega)).mono ?_;rintro e w1 ⟨rfl,hb⟩))
  go_wp2
  go_ret2
  go_split_ands
  refine⟨ZeA (by first|exact congrArg (Value.int .i64) (ZqG x y m)|exact congrArg (Value.int .i64) (ZoI x y m)|exact congrArg (Value.int .i64) (ZqH x y m)),?_⟩;refine(bA0 _).trans (Below.mono (by assumption) (by simp))
theorem ZuX:Sl prog 381 220 (.agg #[.bool false,.bool false,.int .i64 0,.int .i64 0,.int .i64 0,.int .i64 0,.int .i64 0,.int .i64 0,.int .i64 0]) 9 64:=⟨underlying381,by kernel_rfl,rfl,by omega⟩
theorem Zje:Sl prog 392 357 (.agg #[.bool false,.bool false,.int .i64 0,.int .i64 0,.int .i64 0,.int .i64 0,.int .i64 0,.int .i64 0,.int .i64 0]) 9 64:=⟨underlying392,by kernel_rfl,rfl,by omega⟩
end
