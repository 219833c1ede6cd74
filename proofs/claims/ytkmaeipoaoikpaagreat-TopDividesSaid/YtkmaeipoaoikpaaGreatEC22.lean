/- Lemmas. -/
import Derived.Test.YtkmaeipoaoikpaaGreatEC21
namespace Go.Proofs.YtkmaeipoaoikpaaGreat
set_option linter.all false
set_option maxRecDepth 100000
set_option maxHeartbeats 8000000
open Lib (hid)
open Go.RowKit
open Tryz
def RSt(base:Nat)(L:List ZaH)(v:Value)(w:World):Prop:=∃A0 c0 n,L.length=n/\v=.slice A0 n c0/\w.ownsRow base 359 12 (.slice A0 n c0) n (ZaJ L)
abbrev KJ(base:Nat)(w w':World):Prop:=Zcx 359 359 w w'/\Below base w w'
theorem KJ.call{base:Nat}{w w':World}(h:Below w.heap.size w w')(hb:base<=w.heap.size):KJ base w w':=⟨Zcx.of_below h,h.mono hb⟩
theorem RSt.call{base:Nat}{L:List ZaH}{v:Value}{w w':World}(h:RSt base L v w)(hb:Below w.heap.size w w'):RSt base L v w':=by
 obtain⟨A0,c0,n,h0,h1,h2⟩:=h;exact⟨A0,c0,n,h0,h1,Zac h2 hb⟩
theorem KJ.refl(base:Nat)(w:World):KJ base w w:=⟨Zcx.refl _ _ _,bR0 _ _⟩
theorem KJ.trans{base:Nat}{a b c:World}(h:KJ base a b)(k:KJ base b c):KJ base a c:=⟨h.1.trans k.1,h.2.trans k.2⟩
theorem KJ.blk{base g:Nat}{w w':World}{e:TypeId}{cs:Array Value}(h:KJ base w w')(hb:Blk w g e cs)(h1:e≠359):Blk w' g e cs:=h.1 g e cs h1 h1 hb
theorem RSt.push{base n:Nat}{L:List ZaH}{A0 A':Option Addr}{c0 c':Nat}{w w':World}(y:ZaH)(hn:L.length=n)(hown:w.ownsRow base 359 12 (.slice A0 n c0) n (ZaJ L))
  (h:w'.ownsRow base 359 12 (.slice A' (n+1) c') (n+1) (ZaJ L++(ZfY y).toArray.toList)) (hb:Below base w w') (hg:w.grownBy w' (Value.slice A0 n c0).ownBlock) :
  RSt base (L++[y]) (.slice A' (n+1) c') w'/\KJ base w w':=by
 refine⟨⟨A',c',n+1,by rw[YaS,hn];rfl,rfl,?_⟩,Zcx.of_own' hown hg,hb⟩;rw[ZeF,Zib];exact h
theorem ZdU(k t j:Int):∀u∈(#[.int .i64 k,.int .i64 t,.int .i64 j,.bool false,.bool false,.int .i64 0,.int .i64 0,.int .i64 0,.int .i64 0,.int .i64 0,.int .i64 0,.int .i64 0]:Array Value).toList,u.oneCell'=true:=Zej ((k,t,j),Zu0)
theorem RSt.pushP{base n:Nat}{L:List ZaH}{A0 A':Option Addr}{c0 c':Nat}{w w':World}(k t j:Int)(hn:L.length=n)(hown:w.ownsRow base 359 12 (.slice A0 n c0) n (ZaJ L))
  (h:w'.ownsRow base 359 12 (.slice A' (n+1) c') (n+1) (ZaJ L++(#[.int .i64 k,.int .i64 t,.int .i64 j,.bool false,.bool false,.int .i64 0,.int .i64 0,.int .i64 0,.int .i64 0,.int .i64 0,.int .i64 0,.int .i64 0]:Array Value).toList)) (hb:Below base w w') (hg:w.grownBy w' (Value.slice A0 n c0).ownBlock) :
  RSt base (L++[Zb4 k t j]) (.slice A' (n+1) c') w'/\KJ base w w':=RSt.push (Zb4 k t j) hn hown h hb hg
theorem ZnW(kd t:Int)(sd ad:Bool)(s b p r i x y:Int):∀u∈(#[.int .i64 kd,.int .i64 t,.int .i64 0,.bool sd,.bool ad,.int .i64 s,.int .i64 b,.int .i64 p,.int .i64 r,.int .i64 i,.int .i64 x,.int .i64 y]:Array Value).toList,u.oneCell'=true:=Zej ((kd,t,0),((sd,ad),(s,b,p,r,i),(x,y)))
theorem RSt.pushA{base n:Nat}{L:List ZaH}{A0 A':Option Addr}{c0 c':Nat}{w w':World}(kd t:Int)(sd ad:Bool)(s b p r i x y:Int)(hn:L.length=n)(hown:w.ownsRow base 359 12 (.slice A0 n c0) n (ZaJ L))
  (h:w'.ownsRow base 359 12 (.slice A' (n+1) c') (n+1) (ZaJ L++(#[.int .i64 kd,.int .i64 t,.int .i64 0,.bool sd,.bool ad,.int .i64 s,.int .i64 b,.int .i64 p,.int .i64 r,.int .i64 i,.int .i64 x,.int .i64 y]:Array Value).toList)) (hb:Below base w w') (hg:w.grownBy w' (Value.slice A0 n c0).ownBlock) :
  RSt base (L++[((kd,t,0),((sd,ad),(s,b,p,r,i),(x,y)))]) (.slice A' (n+1) c') w'/\KJ base w w':=RSt.push ((kd,t,0),((sd,ad),(s,b,p,r,i),(x,y))) hn hown h hb hg
section
variable(pc:PlC)(c:Cfg)(A:Option Addr)(n cap:Nat)(P:Int)(x t:Int)(lo hi base:Nat)(L:List ZaH)(v:Value)(w:World)
theorem ZhQ(hp:pc.Ok)(hf:Ztj pc c)(hP:P=pc.P)(hlo:lo<=hi)(hhi:hi<=pc.nb)(hst:RSt base L v w)(hL:L.length<=200000000)(hbase:base<=w.heap.size) :
  Calls prog 210 #[v,ZnJ A n cap c P,.int .i64 x,.int .i64 t,.agg #[.int .i64 lo,.int .i64 hi]] w fun e w'=>∃v',e=.returned v'/\RSt base (L++pc.groupI x t lo (hi-lo)) v' w'/\KJ base w w':=by
 have HJob:=hid (fun j a b W (h:pc.bks[j]?=some (a,b))=>Zla pc c A n cap P t W hp hf hP j a b h);obtain⟨hwk,hch,hmi,hwi,hbu,hs0,hs1⟩:=hf;obtain⟨sh,ra,mo,wk,ba,mi,st,bu,ch,wi,ca⟩:=c;simp only at hwk hch hmi hwi hbu hs0 hs1;subst hwk;obtain⟨m,hm⟩:∃m,pc.m=m:=⟨_,rfl⟩;obtain⟨chp,hchp⟩:∃ch,pc.ch=ch:=⟨_,rfl⟩;obtain⟨M,hM⟩:∃M,m-1=M:=⟨_,rfl⟩;have hm1:=hp.m1;have hm2:=hp.m2;have hc2:=hp.c2;have hp2:=hp.p2;have hnb2:=PlC.nb_le hp;have HGI:Hid (pc.groupI x t lo (hi-lo)=ZaE 2 t lo (hi-lo)++pc.rndI x t lo (hi-lo) (2*M)++ZaE 5 t lo (hi-lo)):=hid (by rw[<-hM,<-hm];rfl);have HRS:Hid (∀q:Nat,pc.rndI x t lo (hi-lo) (q+1)=pc.rndI x t lo (hi-lo) q++pc.jobsI x t lo (hi-lo) ((q/M:Nat):Int) ((q%M:Nat):Int)):=hid (fun q=>by rw[<-hM,<-hm];exact pc.rndI_succ x t lo (hi-lo) q);have HJA:Hid (∀(j:Nat) (p r a b:Int),pc.bks[j]?=some (a,b)->pc.jobI x t j p r=(rY t j a b m chp x p r).map (ZhE t)):=hid (fun j p r a b h=>by rw[ZqO h,hm,hchp]);have HJL:Hid (∀(k:Nat) (p r:Int),(pc.jobsI x t lo k p r).length<=k*2000):=hid (fun k p r=>pc.jobsI_le hp x t lo k p r);have HRL:Hid (∀q:Nat,(pc.rndI x t lo (hi-lo) q).length<=q*((hi-lo)*2000)):=hid (fun q=>pc.rndI_le hp x t lo (hi-lo) q);have HBI:Hid (∀(j:Nat) (a b:Int),pc.bks[j]?=some (a,b)->0<=a/\a<=b/\b<=60):=hid (fun j a b h=>by have:=PlC.bks_in h;simp only at this;omega);have HAT:Hid (∀j,j<pc.nb->∃a b,pc.bks[j]?=some (a,b)):=hid (fun j h=>⟨_,_,YaA (by rw[pc.bks_length];exact h)⟩);have HNB:=hid hhi;have h60:hi<=60:=by omega
 rw[hm] at hm1 hm2 HJob;rw[hchp] at hc2 HJob;rw[hm];have hMm:(m:Int)-1=(M:Int):=by omega
 have zm:IntKind.i64.wrap ((m:Int)-1)=(M:Int):=by rw[hMm];exact ZcZ _ (by omega) (by omega)
 have hM7:M<=7:=by omega
 obtain⟨w0,hw0⟩:∃w0,(w.alloc (.cells (ZgQ A n cap ⟨sh,ra,mo,m,ba,mi,st,bu,ch,wi,ca⟩ P) 172)).alloc (.cells #[.int .i64 lo,.int .i64 hi] 355)=w0:=⟨_,rfl⟩;have hB0:Below w.heap.size w w0:=by rw[<-hw0];exact(bA0 _).alloc (by simp) _
 have hS0:Blk w0 w.heap.size 172 (ZgQ A n cap ⟨sh,ra,mo,m,ba,mi,st,bu,ch,wi,ca⟩ P):=by rw[<-hw0];exact(Blk.new _ _ _).alloc _
 have hG0:Blk w0 (w.heap.size+1) 355 #[.int .i64 lo,.int .i64 hi]:=by rw[<-hw0];exact Blk.new' _ _ (by simp)
 have HW0:=hid hw0;have HST0:=hid (hst.call hB0);have HB0:=hid hB0;have hz0:base<=w0.heap.size:=YaH hbase hB0.size;obtain⟨A0,c0,n0,-,hv,-⟩:=hst;subst hv;have HMM:=hid hM;clear hm hchp hp hp2 hM hMm hhi hnb2 hbu hwi hmi hch hs0 hs1 hw0 hB0 hP
 go_enter func210,ntmps210
 go_wp2_with fail;rw[HW0.out];obtain⟨pb,hpb⟩:∃pb,w.heap.size=pb:=⟨_,rfl⟩;rw[hpb] at hS0 hG0 ⊢;have HS0:=hid hS0;have HG0:=hid hG0;have g0:w0.cell? ⟨pb+1,0,none⟩=some (.int .i64 lo):=hG0.cell 0;have lg:=hG0.lt;clear hS0 hG0 hpb HW0;go_wp2_with fail;clear g0 lg
 go_loopw [0,11] (fun v u wr=>∃j:Nat,lo<=j/\j<=hi/\u=.int .i64 j/\RSt base (L++ZaE 2 t lo (j-lo)) v wr/\KJ base w0 wr) (fun _ u _=>hi-(intOf u).toNat)
 case atStart=>exact⟨lo,by omega,hlo,rfl,by rw[Nat.sub_self];simpa [ZaE] using HST0.out,KJ.refl _ _⟩
 case round=>
  obtain⟨j,hj1,hj2,rfl,hst,hk⟩:=hrel;have HGb:=hid (hk.blk HG0.out (by decide));have g1:wr.cell? ⟨pb+1,1,none⟩=some (.int .i64 hi):=HGb.out.cell 1;have lg:=HGb.out.lt;obtain⟨A1,c1,n1,hn1,rfl,hown⟩:=hst;have HN1:=hid hn1;have hn1l:n1<=200000060:=by rw[<-hn1,YaS,Zaq];omega
  have HOW:=hid hown;have HK:=hid hk;have hzr:base<=wr.heap.size:=YaH hz0 hk.2.size
  by_cases hjlt:j<hi
  ·skip
   have i1:(j:Int)<(hi:Int):=by omega
   clear hown hk hn1
   go_wp2_with (at_builtin;go_must (refine Zaj Zfy rfl _ _ rfl base (.slice A1 n1 c1) n1 (ZaJ (L++ZaE 2 t lo (j-lo))) rfl HOW.out #[.int .i64 2,.int .i64 t,.int .i64 j,.bool false,.bool false,.int .i64 0,.int .i64 0,.int .i64 0,.int .i64 0,.int .i64 0,.int .i64 0,.int .i64 0] wr.heap.size rfl rfl rfl (ZdU 2 t j) (by unfold maxLen;omega) (by omega) hzr ?_);intro A2 c2 w2 hown2 hb2 hg2 _)
   obtain⟨hst2,hk2⟩:=RSt.pushP 2 t j HN1.out HOW.out hown2 hb2 hg2;have HST2:=hid hst2;have HK2:=hid (HK.out.trans hk2);clear hown2 hb2 hg2 hst2 hk2;go_wp2_with fail
   go_roundw
   case rel=>exact⟨j+1,by omega,by omega,by go_num,by rw[show j+1-lo=(j-lo)+1 by omega,ZbT,show lo+(j-lo)=j by omega,<-YaY];exact HST2.out,HK2.out⟩
   case measure=>simp[intOf];omega
  ·obtain rfl:j=hi:=by omega
   obtain⟨L1,hL1⟩:∃L1,L++ZaE 2 t lo (j-lo)=L1:=⟨_,rfl⟩;rw[hL1] at HOW HN1;have HL1:=hid hL1;have HST1:Hid (RSt base L1 (.slice A1 n1 c1) wr):=hid ⟨A1,c1,n1,HN1.out,rfl,HOW.out⟩;clear hL1 hown hk hn1;go_wp2_with fail;clear g1 lg HGb;obtain⟨w1,hw1⟩:∃w1:World,w1=wr:=⟨_,rfl⟩;subst hw1;have hL1l:L1.length<=200000060:=by rw[HN1.out];omega
   go_loopw [0,12] (fun v u wr=>∃q:Nat,q<=2/\u=.int .i64 q/\RSt base (L1++pc.rndI x t lo (j-lo) (q*M)) v wr/\KJ base w0 wr) (fun _ u _=>2-(intOf u).toNat)
   case atStart=>exact⟨0,by omega,rfl,by rw[Nat.zero_mul];simpa [PlC.rndI] using HST1.out,HK.out⟩
   case round=>
    obtain⟨q,hq,rfl,hst,hk⟩:=hrel;obtain⟨A2,c2,n2,hn2,rfl,hown⟩:=hst;have HN2:=hid hn2;have HOW2:=hid hown;have HK2:=hid hk;have HST2:Hid (RSt base (L1++pc.rndI x t lo (j-lo) (q*M)) (.slice A2 n2 c2) wr):=hid ⟨A2,c2,n2,hn2,rfl,hown⟩;have hzr2:base<=wr.heap.size:=YaH hz0 hk.2.size;clear hn2 hown hk
    by_cases hq2:q<2
    ·have dq:decide ((q:Int)<2)=true:=YaJ (by omega);go_wp2_with fail;obtain⟨w2,hw2⟩:∃w2:World,w2=wr:=⟨_,rfl⟩;subst hw2
     go_loopw [0,13] (fun v u wr=>∃r:Nat,r<=M/\u=.int .i64 r/\RSt base (L1++pc.rndI x t lo (j-lo) (q*M+r)) v wr/\KJ base w0 wr) (fun _ u _=>M-(intOf u).toNat)
     case atStart=>exact⟨0,by omega,rfl,HST2.out,HK2.out⟩
     case round=>
      obtain⟨r,hr,rfl,hst,hk⟩:=hrel;obtain⟨A3,c3,n3,hn3,rfl,hown⟩:=hst;have HS3:=hid (hk.blk HS0.out (by decide));have HG3:=hid (hk.blk HG0.out (by decide));have s4:wr.cell? ⟨pb,4,none⟩=some (.int .i64 m):=HS3.out.cell 4;have ls:=HS3.out.lt;have g0:wr.cell? ⟨pb+1,0,none⟩=some (.int .i64 lo):=HG3.out.cell 0;have lg:=HG3.out.lt;have HK3:=hid hk;have HST3:Hid (RSt base (L1++pc.rndI x t lo (j-lo) (q*M+r)) (.slice A3 n3 c3) wr):=hid ⟨A3,c3,n3,hn3,rfl,hown⟩;have hzr3:base<=wr.heap.size:=YaH hz0 hk.2.size;clear hn3 hown hk
      by_cases hrM:r<M
      ·have dr:decide ((r:Int)<(M:Int))=true:=YaJ (by omega);have hqm:q*M+r<=14:=by have:q*M<=1*M:=YaW M (by omega);omega
       have hqml:(q*M+r)*((j-lo)*2000)<=14*120000:=Nat.mul_le_mul hqm (by omega);have HSu:=HRS.out (q*M+r);have e1:(q*M+r)/M=q:=by rw[Nat.mul_comm,Nat.mul_add_div (by omega),Nat.div_eq_of_lt hrM,Nat.add_zero]
       have e2:(q*M+r)%M=r:=by rw[Nat.mul_comm,Nat.mul_add_mod,Nat.mod_eq_of_lt hrM]
       rw[e1,e2] at HSu;have hrl:=HRL.out (q*M+r);obtain⟨L3,hL3⟩:∃L3,L1++pc.rndI x t lo (j-lo) (q*M+r)=L3:=⟨_,rfl⟩;have hL3l:L3.length<=202000000:=by rw[<-hL3,YaS];omega
       rw[hL3] at HST3;have HL3:=hid hL3
       replace HSu:=hid HSu
       have HJ0:Hid (pc.jobsI x t lo 0 (q:Int) (r:Int)=[]):=hid rfl;clear e1 e2 hL3 hrl hqml;go_wp2_with fail;clear g0 lg s4 ls;obtain⟨w3,hw3⟩:∃w3:World,w3=wr:=⟨_,rfl⟩;subst hw3
       go_loopw [0,14] (fun v u wr=>∃i:Nat,lo<=i/\i<=j/\u=.int .i64 i/\RSt base (L3++pc.jobsI x t lo (i-lo) (q:Int) (r:Int)) v wr/\KJ base w0 wr) (fun _ u _=>j-(intOf u).toNat)
       case atStart=>exact⟨lo,by omega,hlo,rfl,by rw[Nat.sub_self,HJ0.out,List.append_nil];exact HST3.out,HK3.out⟩
       case round=>
        obtain⟨i,hi1,hi2,rfl,hst,hk⟩:=hrel;obtain⟨A4,c4,n4,hn4,rfl,hown⟩:=hst;have HS4:=hid (hk.blk HS0.out (by decide));have HG4:=hid (hk.blk HG0.out (by decide));have g1:wr.cell? ⟨pb+1,1,none⟩=some (.int .i64 j):=HG4.out.cell 1;have lg:=HG4.out.lt;have HK4:=hid hk;have HST4:Hid (RSt base (L3++pc.jobsI x t lo (i-lo) (q:Int) (r:Int)) (.slice A4 n4 c4) wr):=hid ⟨A4,c4,n4,hn4,rfl,hown⟩;have hzr4:base<=wr.heap.size:=YaH hz0 hk.2.size;have HN4:=hid hn4;clear hown hk
        by_cases hij:i<j
        ·have di:decide ((i:Int)<(j:Int))=true:=YaJ (by omega);obtain⟨a,b,hab⟩:=HAT.out i (by have:=HNB.out;omega);obtain⟨ha0,hab1,hb60⟩:=HBI.out i a b hab;have HJb:=hid (fun W=>HJob.out i a b W hab);have HJAj:=HJA.out i (q:Int) (r:Int) a b hab;have HRj:=fun W=>Zjg t i a b m chp x q r W ha0 hab1 (by omega) (by omega) (by omega) (by omega)
         have hle:=ZuZ t i a b m chp x q r ha0 hab1 (by omega) (by omega);obtain⟨R,hR⟩:∃R,rY t i a b m chp x q r=R:=⟨_,rfl⟩;rw[hR] at HRj hle HJAj;obtain⟨nr,hnr⟩:∃nr,R.length=nr:=⟨_,rfl⟩;rw[hnr] at HRj hle;have HNR:=hid hnr;have hjl:=HJL.out (i-lo) (q:Int) (r:Int);have HJS:Hid (pc.jobsI x t lo (i+1-lo) (q:Int) (r:Int)=pc.jobsI x t lo (i-lo) (q:Int) (r:Int)++R.map (ZhE t)):=hid (by
          rw[show i+1-lo=(i-lo)+1 by omega,pc.jobsI_succ,show lo+(i-lo)=i by omega,HJAj])
         obtain⟨L4,hL4⟩:∃L4,L3++pc.jobsI x t lo (i-lo) (q:Int) (r:Int)=L4:=⟨_,rfl⟩;have hL4l:L4.length<=203000000:=by rw[<-hL4,YaS];omega
         rw[hL4] at HST4 HN4;have HL4:=hid hL4;have HRJ:=hid HRj;obtain⟨s0,s1,s2,s3,s4,s5,s6,s7,s8,s9,s10,s11,s12⟩:=cl13 HS4.out;have ls:=HS4.out.lt;clear hab hR hnr hjl hL4 HRj HJAj hn4;go_wp2_with fail;((with_reducible refine(HJb.out _).mono ?_);rintro e w4 ⟨rfl,hb4⟩);have HB4:=hid hb4;clear s0 s1 s2 s3 s4 s5 s6 s7 s8 s9 s10 s11 s12 ls g1 lg hb4;go_wp2_with fail;((with_reducible refine(HRJ.out _).mono ?_);rintro e w5 ⟨A5,c5,rfl,hown5,hb5⟩);have HR5:=hid hown5;have hb45:Below wr.heap.size wr w5:=bT0 HB4.out hb5;have HST5:=hid (HST4.out.call hb45);have HK5:=hid (HK4.out.trans (KJ.call hb45 hzr4));have hz5:base<=w5.heap.size:=YaH hzr4 hb45.size;clear hown5 hb5 hb45;go_wp2_with fail;obtain⟨wz,hwz⟩:∃wz:World,wz=wr:=⟨_,rfl⟩;clear HB4
         go_loopw [0,16] (fun v z wr=>∃u:Nat,u<=nr/\z=.int .i64 u/\RSt base (L4++(R.take u).map (ZhE t)) v wr/\KJ base w5 wr) (fun _ z _=>nr-(intOf z).toNat)
         case atStart=>exact⟨0,by omega,rfl,by simpa using HST5.out,KJ.refl _ _⟩
         case round=>
          obtain⟨u,hu,rfl,hst6,hk6⟩:=hrel;obtain⟨A6,c6,n6,hn6,rfl,hown6⟩:=hst6;have HN6:=hid hn6;have HOW6:=hid hown6;have HK6:=hid hk6;have hzr6:base<=wr.heap.size:=YaH hz5 hk6.2.size;have hn6l:n6<=204000000:=by
           rw[<-hn6,YaS,List.length_map,List.length_take];omega
          by_cases hult:u<nr
          ·obtain⟨g2,o2,sd,ad,s,bk,p,r2,e,xx,yy,rfl,hg2,hR2,a0,a1,a2,a3,a4,a5,a6,a7,a8⟩:=Zkf HNR.out (Rd.of_own (hk6.1.own hk6.2.size HR5.out (by decide) (by decide))) hult;have i5:(u:Int)<(nr:Int):=by omega
           have i6:(0:Int)<=(u:Int):=by omega
           have HTK:Hid ((R.take (u+1)).map (ZhE t)=(R.take u).map (ZhE t)++[ZhE t ((sd,ad),(s,bk,p,r2,e),(xx,yy))]):=hid (by
            have hlt':u<R.length:=by rw[HNR.out];exact hult
            rw[Zbd _ _ hlt',List.map_append];rw[YaA hlt'] at hR2;injection hR2 with hR2
            rw[hR2];rfl)
           clear hn6 hown6 hk6 hR2
           cases sd
           ·skip
            go_wp2_with (at_builtin;go_must (refine Zaj Zfy rfl _ _ rfl base (.slice A6 n6 c6) n6 (ZaJ (L4++(R.take u).map (ZhE t))) rfl HOW6.out #[.int .i64 4,.int .i64 t,.int .i64 0,.bool false,.bool ad,.int .i64 s,.int .i64 bk,.int .i64 p,.int .i64 r2,.int .i64 e,.int .i64 xx,.int .i64 yy] wr.heap.size rfl rfl rfl (ZnW 4 t false ad s bk p r2 e xx yy) (by unfold maxLen;omega) (by omega) hzr6 ?_);intro A7 c7 w7 hown7 hb7 hg7 _)
            obtain⟨hst7,hk7⟩:=RSt.pushA 4 t false ad s bk p r2 e xx yy HN6.out HOW6.out hown7 hb7 hg7;have HST7:=hid hst7;have HK7:=hid (HK6.out.trans hk7);clear hown7 hb7 hg7 hst7 hk7;go_wp2_with fail
            go_roundw
            case rel=>exact⟨u+1,by omega,by go_num,by rw[HTK.out,<-YaY];exact HST7.out,HK7.out⟩
            case measure=>simp[intOf];omega
           ·skip
            go_wp2_with (at_builtin;go_must (refine Zaj Zfy rfl _ _ rfl base (.slice A6 n6 c6) n6 (ZaJ (L4++(R.take u).map (ZhE t))) rfl HOW6.out #[.int .i64 3,.int .i64 t,.int .i64 0,.bool true,.bool ad,.int .i64 s,.int .i64 bk,.int .i64 p,.int .i64 r2,.int .i64 e,.int .i64 xx,.int .i64 yy] wr.heap.size rfl rfl rfl (ZnW 3 t true ad s bk p r2 e xx yy) (by unfold maxLen;omega) (by omega) hzr6 ?_);intro A7 c7 w7 hown7 hb7 hg7 _)
            obtain⟨hst7,hk7⟩:=RSt.pushA 3 t true ad s bk p r2 e xx yy HN6.out HOW6.out hown7 hb7 hg7;have HST7:=hid hst7;have HK7:=hid (HK6.out.trans hk7);clear hown7 hb7 hg7 hst7 hk7;go_wp2_with fail
            go_roundw
            case rel=>exact⟨u+1,by omega,by go_num,by rw[HTK.out,<-YaY];exact HST7.out,HK7.out⟩
            case measure=>simp[intOf];omega
          ·obtain rfl:u=nr:=by omega
           have HTA:Hid (R.take u=R):=hid (YaX (by rw[HNR.out];omega));have HST6:Hid (RSt base (L4++(R.take u).map (ZhE t)) (.slice A6 n6 c6) wr):=hid ⟨A6,c6,n6,hn6,rfl,hown6⟩;clear hn6 hown6 hk6;go_wp2_with fail
           go_roundw
           case rel=>exact⟨i+1,by omega,by omega,by go_num,by rw[HJS.out,<-YaY,HL4.out,<-HTA.out];exact HST6.out,HK5.out.trans HK6.out⟩
           case measure=>simp[intOf];omega
        ·obtain rfl:i=j:=by omega
         have di:decide ((i:Int)<(i:Int))=false:=YaI (by omega);clear hn4;go_wp2_with fail
         go_roundw
         case rel=>exact⟨r+1,by omega,by go_num,by rw[<-Nat.add_assoc,HSu.out,<-YaY,HL3.out];exact HST4.out,HK4.out⟩
         case measure=>simp[intOf];omega
      ·obtain rfl:r=M:=by omega
       have dr:decide ((r:Int)<(r:Int))=false:=YaI (by omega);clear g0 lg;go_wp2_with fail
       go_roundw
       case rel=>exact⟨q+1,by omega,by go_num,by rw[Nat.add_mul,Nat.one_mul];exact HST3.out,HK3.out⟩
       case measure=>simp[intOf];omega
    ·obtain rfl:q=2:=by omega
     have HG2:=hid (HK2.out.blk HG0.out (by decide));have g0:wr.cell? ⟨pb+1,0,none⟩=some (.int .i64 lo):=HG2.out.cell 0;have lg:=HG2.out.lt;go_wp2_with fail;clear g0 lg;obtain⟨w2,hw2⟩:∃w2:World,w2=wr:=⟨_,rfl⟩;subst hw2;have hrl:=HRL.out (2*M);have hrl2:2*M*((j-lo)*2000)<=14*120000:=Nat.mul_le_mul (by omega) (by omega);obtain⟨L3,hL3⟩:∃L3,L1++pc.rndI x t lo (j-lo) (2*M)=L3:=⟨_,rfl⟩;have hL3l:L3.length<=202000000:=by rw[<-hL3,YaS];omega
     rw[hL3] at HST2;have HFI:Hid (L++pc.groupI x t lo (j-lo)=L3++ZaE 5 t lo (j-lo)):=hid (by rw[HGI.out,<-YaY,<-YaY,HL1.out,hL3]);clear hL3 hrl hrl2
     go_loopw [0,18] (fun v u wr=>∃i:Nat,lo<=i/\i<=j/\u=.int .i64 i/\RSt base (L3++ZaE 5 t lo (i-lo)) v wr/\KJ base w0 wr) (fun _ u _=>j-(intOf u).toNat)
     case atStart=>exact⟨lo,by omega,hlo,rfl,by rw[Nat.sub_self];simpa [ZaE] using HST2.out,HK2.out⟩
     case round=>
      obtain⟨i,hi1,hi2,rfl,hst,hk⟩:=hrel;have HGb:=hid (hk.blk HG0.out (by decide));have g1:wr.cell? ⟨pb+1,1,none⟩=some (.int .i64 j):=HGb.out.cell 1;have lg:=HGb.out.lt;obtain⟨A4,c4,n4,hn4,rfl,hown⟩:=hst;have HN4:=hid hn4;have hn4l:n4<=202000060:=by rw[<-hn4,YaS,Zaq];omega
      have HOW4:=hid hown;have HK4:=hid hk;have hzr4:base<=wr.heap.size:=YaH hz0 hk.2.size
      by_cases hij:i<j
      ·have i1:(i:Int)<(j:Int):=by omega
       clear hown hk hn4
       go_wp2_with (at_builtin;go_must (refine Zaj Zfy rfl _ _ rfl base (.slice A4 n4 c4) n4 (ZaJ (L3++ZaE 5 t lo (i-lo))) rfl HOW4.out #[.int .i64 5,.int .i64 t,.int .i64 i,.bool false,.bool false,.int .i64 0,.int .i64 0,.int .i64 0,.int .i64 0,.int .i64 0,.int .i64 0,.int .i64 0] wr.heap.size rfl rfl rfl (ZdU 5 t i) (by unfold maxLen;omega) (by omega) hzr4 ?_);intro A5 c5 w5 hown5 hb5 hg5 _)
       obtain⟨hst5,hk5⟩:=RSt.pushP 5 t i HN4.out HOW4.out hown5 hb5 hg5;have HST5:=hid hst5;have HK5:=hid (HK4.out.trans hk5);clear hown5 hb5 hg5 hst5 hk5;go_wp2_with fail
       go_roundw
       case rel=>exact⟨i+1,by omega,by omega,by go_num,by rw[show i+1-lo=(i-lo)+1 by omega,ZbT,show lo+(i-lo)=i by omega,<-YaY];exact HST5.out,HK5.out⟩
       case measure=>simp[intOf];omega
      ·obtain rfl:i=j:=by omega
       have HST5:Hid (RSt base (L3++ZaE 5 t lo (i-lo)) (.slice A4 n4 c4) wr):=hid ⟨A4,c4,n4,hn4,rfl,hown⟩;clear hown hk hn4;go_wp2_with fail;go_ret;exact⟨_,rfl,by rw[HFI.out];exact HST5.out,(KJ.call HB0.out hbase).trans HK4.out⟩
end
def PlC.rItemsI(pc:PlC)(x t:Int):List ZaH:=if 0<=x/\x<pc.m then pc.itemsI x t else []
theorem PlC.rItemsI_in(pc:PlC)(x t:Int)(h:0<=x/\x<pc.m):pc.rItemsI x t=pc.itemsI x t:=if_pos h
theorem PlC.rItemsI_out(pc:PlC)(x t:Int)(h:¬(0<=x/\x<pc.m)):pc.rItemsI x t=[]:=if_neg h
theorem PlC.rItemsI_length(pc:PlC)(x t:Int):(pc.rItemsI x t).length=pc.lenI x:=by
 unfold PlC.rItemsI PlC.lenI
 split
 ·exact pc.itemsI_len x t 0
 ·rfl
section
variable(pc:PlC)(c:Cfg)(A:Option Addr)(n cap:Nat)(P:Int)(x t:Int)(w:World)
theorem ZhR(hf:Ztj pc c)(hno:¬(0<=x/\x<pc.m)) :
  Calls prog 158 #[ZnJ A n cap c P,.int .i64 x,.int .i64 t] w fun e w'=>e=.returned (.slice none 0 0)/\Bz0 w w':=by
 have HG:Hid (∀W,w.alloc (.cells (ZgQ A n cap c P) 172)=W->Below w.heap.size w W/\Blk W w.heap.size 172 (ZgQ A n cap c P)):=hid (by
  rintro W rfl;exact⟨bA0 _,Blk.new _ _ _⟩)
 have hwk:=hf.wk;rw[<-hwk] at hno;clear hf hwk
 by_cases h0:x<0
 ·have e1:decide (x<0)=true:=YaJ h0;clear hno
  go_enter func158,ntmps158
  go_wp2_with fail;go_ret;exact⟨rfl,(HG.out _ rfl).1⟩
 ·have e1:decide (x<0)=false:=YaI h0;have e2:decide (c.wk<=x)=true:=YaJ (by omega);clear hno
  go_enter func158,ntmps158
  go_wp2_with fail;go_ret;exact⟨rfl,(HG.out _ rfl).1⟩
theorem ZjI(hp:pc.Ok)(hf:Ztj pc c)(hP:P=pc.P)(hx0:0<=x)(hx1:x<pc.m) :
  Calls prog 158 #[ZnJ A n cap c P,.int .i64 x,.int .i64 t] w (Zal w 359 12 (pc.itemsI x t).length (ZaJ (pc.itemsI x t))):=by
 have HGrp:=hid (fun lo hi L v W h1 h2 h3 h4 h5=>ZhQ pc c A n cap P x t lo hi w.heap.size L v W hp hf hP h1 h2 h3 h4 h5);have HBk:=hid (fun W=>Zdd pc c A n cap P W hp hf hP);have HGs:=hid (fun W=>Zja pc.nb pc.wi W (PlC.nb_pos hp) (by have:=PlC.nb_le hp;omega) hp.w1 (by have:=hp.w2;omega));have eg:Zat pc.nb pc.wi=pc.grps:=rfl;rw[eg] at HGs;obtain⟨hwk,hch,hmi,hwi,hbu,hs0,hs1⟩:=hf;obtain⟨sh,ra,mo,wk,ba,mi,st,bu,ch,wi,ca⟩:=c;simp only at hwk hch hmi hwi hbu hs0 hs1;subst hwk hmi hwi;have hi2:=hp.i2;have hnb2:=PlC.nb_le hp;have HGI:=hid (fun(k:Nat) (a b:Int) (h:pc.grps[k]?=some (a,b))=>PlC.grps_in h);have HGS:=hid (fun(k:Nat) (a b:Int) (h:pc.grps[k]?=some (a,b))=>pc.grpsI_succ x t k (a,b) h);have HGE:=hid (fun(k:Nat) (h:k<=cnt pc.nb pc.wi)=>pc.grpsI_le hp x t k h);have HIT:Hid (pc.itemsI x t=ZaE 1 t 0 pc.mi++pc.grpsI x t (cnt pc.nb pc.wi)++[Zb4 6 t 0]):=hid rfl;have hng:cnt pc.nb pc.wi<=60:=YaH (Zci _ _) hnb2;have HGLen:=hid pc.grps_length;obtain⟨ng,hngd⟩:∃ng,cnt pc.nb pc.wi=ng:=⟨_,rfl⟩;obtain⟨m,hm⟩:∃m,pc.m=m:=⟨_,rfl⟩;obtain⟨mi,hmi⟩:∃mi,pc.mi=mi:=⟨_,rfl⟩;obtain⟨nb,hnb⟩:∃nb,pc.nb=nb:=⟨_,rfl⟩;obtain⟨wi,hwi⟩:∃wi,pc.wi=wi:=⟨_,rfl⟩;rw[hngd] at HGs HGE HIT hng HGLen;rw[hnb] at HGrp HBk HGs hnb2 HGI;rw[hm] at HGrp HBk hx1;rw[hmi] at HGrp HBk hi2 HIT;rw[hwi] at HGrp HBk HGs;rw[hm,hmi,hwi];have HX:Hid (∀W,w.alloc (.cells (ZgQ A n cap ⟨sh,ra,mo,m,ba,mi,st,bu,ch,wi,ca⟩ P) 172)=W->Below w.heap.size w W/\Blk W w.heap.size 172 (ZgQ A n cap ⟨sh,ra,mo,m,ba,mi,st,bu,ch,wi,ca⟩ P)):=hid (by
  rintro W rfl;exact⟨bA0 _,Blk.new _ _ _⟩)
 have e1:decide (x<0)=false:=YaI (by omega);have e2:decide ((m:Int)<=x)=false:=YaI (by omega);clear hngd hm hmi hnb hwi hx0 hx1 eg hp hP hch hbu hs0 hs1
 go_enter func158,ntmps158
 go_wp2_with fail;obtain⟨w0,hw0⟩:∃w0,w.alloc (.cells (ZgQ A n cap ⟨sh,ra,mo,m,ba,mi,st,bu,ch,wi,ca⟩ P) 172)=w0:=⟨_,rfl⟩;obtain⟨hB0,hS0⟩:=HX.out _ hw0;rw[hw0];clear hw0 HX;obtain⟨base,hbase⟩:∃base,w.heap.size=base:=⟨_,rfl⟩;rw[hbase] at hS0 HGrp ⊢;have HBase:=hid hbase;have HB0:=hid hB0;have HS0:=hid hS0;have hz0:base<=w0.heap.size:=by rw[<-hbase];exact hB0.size
 have HST0:Hid (RSt base [] (.slice none 0 0) w0):=hid ⟨none,0,0,rfl,rfl,by simpa [Zia] using World.ownsRow_nil w0 base 359 12⟩;clear hbase hB0 hS0
 go_loopw [7,8] (fun v u wr=>∃i:Nat,i<=mi/\u=.int .i64 i/\RSt base (ZaE 1 t 0 i) v wr/\KJ base w0 wr) (fun _ u _=>mi-(intOf u).toNat)
 case atStart=>exact⟨0,by omega,rfl,by simpa [ZaE] using HST0.out,KJ.refl _ _⟩
 case round=>
  obtain⟨i,hi,rfl,hst,hk⟩:=hrel;have HSb:=hid (hk.blk HS0.out (by decide));have s6:wr.cell? ⟨base,6,none⟩=some (.int .i64 mi):=HSb.out.cell 6;have ls:=HSb.out.lt;obtain⟨A1,c1,n1,hn1,rfl,hown⟩:=hst;have HN1:=hid hn1;have hn1l:n1<=20:=by rw[<-hn1,Zaq];omega
  have HOW:=hid hown;have HK:=hid hk;have hzr:base<=wr.heap.size:=YaH hz0 hk.2.size
  by_cases hlt:i<mi
  ·have i1:(i:Int)<(mi:Int):=by omega
   clear hown hk hn1
   go_wp2_with (at_builtin;go_must (refine Zaj Zfy rfl _ _ rfl base (.slice A1 n1 c1) n1 (ZaJ (ZaE 1 t 0 i)) rfl HOW.out #[.int .i64 1,.int .i64 t,.int .i64 i,.bool false,.bool false,.int .i64 0,.int .i64 0,.int .i64 0,.int .i64 0,.int .i64 0,.int .i64 0,.int .i64 0] wr.heap.size rfl rfl rfl (ZdU 1 t i) (by unfold maxLen;omega) (by omega) hzr ?_);intro A2 c2 w2 hown2 hb2 hg2 _)
   obtain⟨hst2,hk2⟩:=RSt.pushP 1 t i HN1.out HOW.out hown2 hb2 hg2;have HST2:=hid hst2;have HK2:=hid (HK.out.trans hk2);clear hown2 hb2 hg2 hst2 hk2;go_wp2_with fail
   go_roundw
   case rel=>exact⟨i+1,by omega,by go_num,by rw[ZbT,Nat.zero_add];exact HST2.out,HK2.out⟩
   case measure=>simp[intOf];omega
  ·obtain rfl:i=mi:=by omega
   have HST1:Hid (RSt base (ZaE 1 t 0 i) (.slice A1 n1 c1) wr):=hid ⟨A1,c1,n1,hn1,rfl,hown⟩;have s0:=cv0 HSb.out;have s1:wr.cell? ⟨base,1,none⟩=some (.int .i64 sh):=HSb.out.cell 1;have s2:wr.cell? ⟨base,2,none⟩=some (.int .i64 ra):=HSb.out.cell 2;have s3:wr.cell? ⟨base,3,none⟩=some (.int .i64 mo):=HSb.out.cell 3;have s4:wr.cell? ⟨base,4,none⟩=some (.int .i64 m):=HSb.out.cell 4;have s5:wr.cell? ⟨base,5,none⟩=some (.int .i64 ba):=HSb.out.cell 5;have s7:wr.cell? ⟨base,7,none⟩=some (.int .i64 st):=HSb.out.cell 7;have s8:wr.cell? ⟨base,8,none⟩=some (.int .i64 bu):=HSb.out.cell 8;have s9:wr.cell? ⟨base,9,none⟩=some (.int .i64 ch):=HSb.out.cell 9;have s10:wr.cell? ⟨base,10,none⟩=some (.int .i64 wi):=HSb.out.cell 10;have s11:wr.cell? ⟨base,11,none⟩=some (.int .i64 ca):=HSb.out.cell 11;have s12:wr.cell? ⟨base,12,none⟩=some (.int .i64 P):=HSb.out.cell 12;clear hown hk hn1;go_wp2_with fail;refine Zad (Zag wr) [0,3,4,5] [1,2,6] [7] (by kernel_rfl) (by kernel_rfl) (Zag.start wr) ?_;simp only[YaO,YaP,YaB,YaC];refine Zaa (ZnJ A n cap ⟨sh,ra,mo,m,ba,i,st,bu,ch,wi,ca⟩ P) rfl (fun W hW=>?_) ?_
   ·obtain⟨hc,-,-⟩:=hW;go_simp
   go_simp;refine Zaa (.pointer (some ⟨base,0,none⟩)) rfl (fun W hW=>?_) ?_
   ·obtain⟨hc,-,-⟩:=hW;go_simp
   go_simp;refine Zaa (.pointer (some ⟨base,10,none⟩)) rfl (fun W hW=>?_) ?_
   ·obtain⟨hc,-,-⟩:=hW;go_simp
   go_simp;refine Zaa (.int .i64 wi) rfl (fun W hW=>?_) ?_
   ·obtain⟨hc,-,-⟩:=hW;go_simp
   go_simp;change Zah _ _ _ _ _ (_::_::_::[]) _ _;unfold Zah;go_wp2_with fail;((with_reducible refine(HBk.out _).mono ?_);rintro e w2 ⟨Ab,cb,rfl,hown2,hb2⟩);have HB2:=hid ((Zag.start wr).call hb2).2.2;clear hown2 hb2 s0 s1 s2 s3 s4 s5 s6 s7 s8 s9 s10 s11 s12 ls;go_wp2_with fail;refine⟨Zag.of HB2.out,?_⟩;unfold Zah;go_wp2_with fail;refine⟨Zag.of HB2.out,?_⟩;unfold Zah;go_wp2_with fail;((with_reducible refine(HGs.out _).mono ?_);rintro e w3 ⟨Ag,cg,rfl,hown3,hb3⟩);have HB3:=hid (bT0 HB2.out hb3);have HG3:=hid hown3;have HST3:=hid (HST1.out.call HB3.out);have HK3:=hid (HK.out.trans (KJ.call HB3.out hzr));have hz3:base<=w3.heap.size:=YaH hzr HB3.out.size;clear hown3 hb3;go_wp2_with fail;refine⟨Zag.of HB3.out,?_⟩;unfold Zah;change wpList _ _ _ (_::[]) _ _;go_wp2_with fail;refine NoPanic.normal ?_;go_wp2_with fail;obtain⟨wz,hwz⟩:∃wz:World,wz=wr:=⟨_,rfl⟩;rw[<-hwz] at HB3;clear hwz HB2 HK HSb HOW
   go_loopw [7,10] (fun v u wr=>∃k:Nat,k<=ng/\u=.int .i64 k/\RSt base (ZaE 1 t 0 i++pc.grpsI x t k) v wr/\KJ base w3 wr) (fun _ u _=>ng-(intOf u).toNat)
   case atStart=>exact⟨0,by omega,rfl,by simpa [PlC.grpsI] using HST3.out,KJ.refl _ _⟩
   case round=>
    obtain⟨k,hk1,rfl,hst,hk⟩:=hrel;have HGEk:=hid (HGE.out k (by omega));obtain⟨A4,c4,n4,hn4,rfl,hown⟩:=hst;have HN4:=hid hn4;have hn4l:n4<=110000000:=by rw[<-hn4,YaS,Zaq];have:=HGEk.out;omega
    have HOW:=hid hown;have HK:=hid hk;have hzr4:base<=wr.heap.size:=YaH hz3 hk.2.size
    by_cases hlt2:k<ng
    ·obtain⟨g,o,a,b,rfl,hg,hab,d0,d1⟩:=Zdn HGLen.out (Rd.of_own (hk.1.own hk.2.size HG3.out (by decide) (by decide))) hlt2;have hin:=HGI.out k a b hab;have HGSk:=HGS.out k a b hab;obtain⟨lo,rfl⟩:=YaM hin.1;obtain⟨hi,rfl⟩:=YaM (show 0<=b by omega);have hlh:lo<=hi:=by omega
     have hhn:hi<=nb:=by omega
     have HGG:Hid (pc.grpsI x t (k+1)=pc.grpsI x t k++pc.groupI x t lo (hi-lo)):=hid (by
      rw[HGSk];simp only[PlC.groupG,Int.toNat_natCast,show ((hi:Int)-(lo:Int)).toNat=hi-lo by omega])
     have HSb:=hid ((HK3.out.trans hk).blk HS0.out (by decide));have HST4:Hid (RSt base (ZaE 1 t 0 i++pc.grpsI x t k) (.slice A4 n4 c4) wr):=hid ⟨A4,c4,n4,hn4,rfl,hown⟩;have HC:=hid (fun W h=>HGrp.out lo hi _ (.slice A4 n4 c4) W hlh hhn h (by rw[HN4.out];omega));obtain⟨s0,s1,s2,s3,s4,s5,s6,s7,s8,s9,s10,s11,s12⟩:=cl13 HSb.out;have ls:=HSb.out.lt;have i1:(0:Int)<=(k:Int):=by omega
     have i2:(k:Int)<(ng:Int):=by omega
     clear hown hk hn4 hab hin HGSk;go_wp2_with fail;refine Zad (Zag wr) [0,1,2,3,4,5,6,7] [] [8,9] (by kernel_rfl) (by kernel_rfl) (Zag.start wr) ?_;simp only[YaO,YaP,YaB,YaC];refine Zaa (.slice A4 n4 c4) rfl (fun W hW=>?_) ?_
     ·obtain⟨hc,-,-⟩:=hW;go_simp
     go_simp;refine Zaa (ZnJ A n cap ⟨sh,ra,mo,m,ba,i,st,bu,ch,wi,ca⟩ P) rfl (fun W hW=>?_) ?_
     ·obtain⟨hc,-,-⟩:=hW;go_simp
     go_simp;refine Zaa (.int .i64 x) rfl (fun W hW=>?_) ?_
     ·obtain⟨hc,-,-⟩:=hW;go_simp
     go_simp;refine Zaa (.int .i64 t) rfl (fun W hW=>?_) ?_
     ·obtain⟨hc,-,-⟩:=hW;go_simp
     go_simp;refine Zaa (.slice (some ⟨g,o,none⟩) ng cg) rfl (fun W hW=>?_) ?_
     ·obtain⟨hc,-,-⟩:=hW;go_simp
     go_simp;refine Zaa (.int .i64 k) rfl (fun W hW=>?_) ?_
     ·obtain⟨hc,-,-⟩:=hW;go_simp
     go_simp;refine Zaa (.pointer (some ⟨g,o+k*2,none⟩)) rfl (fun W hW=>?_) ?_
     ·obtain⟨hc,-,-⟩:=hW;go_simp
     go_simp;refine Zaa (.agg #[.int .i64 lo,.int .i64 hi]) rfl (fun W hW=>?_) ?_
     ·obtain⟨hc,-,-⟩:=hW;go_simp
     go_simp;unfold ZbZ;unfold Zah;change wpList _ _ _ (_::_::[]) _ _;go_wp2_with fail;((with_reducible refine(HC.out _ (HST4.out.call (bR0 _ _).drew) (YaH hzr4 (bR0 wr.heap.size wr).drew.size)).mono ?_);rintro e w5 ⟨v5,rfl,hst5,hk5⟩);have HST5:=hid hst5;have HK5:=hid ((HK.out.trans (KJ.call (bR0 _ _).drew hzr4)).trans hk5);clear hst5 hk5 s0 s1 s2 s3 s4 s5 s6 s7 s8 s9 s10 s11 s12 ls d0 d1;go_wp2_with fail;refine NoPanic.normal ?_;go_wp2_with fail
     go_roundw
     case rel=>exact⟨k+1,by omega,by go_num,by rw[HGG.out,<-YaY];exact HST5.out,HK5.out⟩
     case measure=>simp[intOf];omega
    ·obtain rfl:k=ng:=by omega
     clear hown hk hn4;have i2:¬(k:Int)<(k:Int):=by omega
     go_wp2_with (at_builtin;go_must (refine Zaj Zfy rfl _ _ rfl base (.slice A4 n4 c4) n4 (ZaJ (ZaE 1 t 0 i++pc.grpsI x t k)) rfl HOW.out #[.int .i64 6,.int .i64 t,.int .i64 0,.bool false,.bool false,.int .i64 0,.int .i64 0,.int .i64 0,.int .i64 0,.int .i64 0,.int .i64 0,.int .i64 0] wr.heap.size rfl rfl rfl (ZdU 6 t 0) (by unfold maxLen;omega) (by omega) hzr4 ?_);intro A5 c5 w5 hown5 hb5 hg5 _)
     obtain⟨hst5,hk5⟩:=RSt.pushP 6 t 0 HN4.out HOW.out hown5 hb5 hg5;rw[<-HIT.out] at hst5;have HST5:=hid hst5;have HB5:=hid ((HK3.out.trans HK.out).trans hk5).2;clear hown5 hb5 hg5 hst5 hk5;go_wp2_with fail;go_ret;obtain⟨A6,c6,n6,hn6,e6,hown6⟩:=HST5.out;injection e6 with ea en ec
     subst ea en ec;rw[hn6];exact⟨A5,c5,rfl,by rw[HBase.out];exact hown6,HB0.out.trans (by rw[HBase.out];exact HB5.out)⟩
theorem ZhS(hp:pc.Ok)(hf:Ztj pc c)(hP:P=pc.P) :
  Calls prog 158 #[ZnJ A n cap c P,.int .i64 x,.int .i64 t] w (Zal w 359 12 (pc.rItemsI x t).length (ZaJ (pc.rItemsI x t))):=by
 by_cases h:0<=x/\x<pc.m
 ·rw[pc.rItemsI_in x t h];exact ZjI pc c A n cap P x t w hp hf hP h.1 h.2
 ·rw[pc.rItemsI_out x t h];refine(ZhR pc c A n cap P x t w hf h).mono ?_;rintro e w' ⟨rfl,hb⟩;exact⟨none,0,rfl,World.ownsRow_nil _ _ _ _,hb⟩
def PlC.sumI(pc:PlC):Nat->Nat
 |0=>0
 |k+1=>pc.sumI k+pc.lenI (k:Int)
theorem PlC.lenI_le{pc:PlC}(hp:pc.Ok)(x:Int):pc.lenI x<=200000000:=by
 unfold PlC.lenI
 split
 ·exact PlC.itemsI_le hp x 0
 ·omega
theorem PlC.sumI_le{pc:PlC}(hp:pc.Ok)(k:Nat):pc.sumI k<=k*200000000:=by
 induction k with
 |zero=>simp[PlC.sumI]
 |succ k ih=>have:=PlC.lenI_le hp (k:Int);simp only[PlC.sumI];omega
theorem ZhT(hp:pc.Ok)(hf:Ztj pc c)(hP:P=pc.P) :
  Calls prog 69 #[ZnJ A n cap c P] w fun e w'=>e=.returned (.int .i64 ((pc.sumI pc.m:Int)*c.st))/\Bz0 w w':=by
 have HI:=hid (fun x W=>ZhS pc c A n cap P x 0 W hp hf hP);have HLn:=hid (fun x=>pc.rItemsI_length x 0);have HSL:=hid (fun k=>PlC.sumI_le hp k);have HLL:=hid (fun x=>PlC.lenI_le hp x);have HSu:Hid (∀k:Nat,pc.sumI (k+1)=pc.sumI k+pc.lenI (k:Int)):=hid (fun k=>rfl);have hm2:=hp.m2;obtain⟨hwk,hch,hmi,hwi,hbu,hs0,hs1⟩:=hf;obtain⟨sh,ra,mo,wk,ba,mi,st,bu,ch,wi,ca⟩:=c;simp only at hwk hch hmi hwi hbu hs0 hs1;subst hwk;obtain⟨m,hm⟩:∃m,pc.m=m:=⟨_,rfl⟩;rw[hm] at HI hm2;rw[hm];have HX:Hid (∀W,w.alloc (.cells (ZgQ A n cap ⟨sh,ra,mo,m,ba,mi,st,bu,ch,wi,ca⟩ P) 172)=W->Below w.heap.size w W/\Blk W w.heap.size 172 (ZgQ A n cap ⟨sh,ra,mo,m,ba,mi,st,bu,ch,wi,ca⟩ P)):=hid (by
  rintro W rfl;exact⟨bA0 _,Blk.new _ _ _⟩)
 have HST:Hid (0<=st/\st<=12):=hid ⟨hs0,hs1⟩;clear hm hp hP hch hmi hwi hbu hs0 hs1
 go_enter func69,ntmps69
 go_wp2_with fail;obtain⟨w0,hw0⟩:∃w0,w.alloc (.cells (ZgQ A n cap ⟨sh,ra,mo,m,ba,mi,st,bu,ch,wi,ca⟩ P) 172)=w0:=⟨_,rfl⟩;obtain⟨hB0,hS0⟩:=HX.out _ hw0;rw[hw0];obtain⟨base,hbase⟩:∃base,w.heap.size=base:=⟨_,rfl⟩;rw[hbase] at hS0 ⊢;have HBase:=hid hbase;have HB0:=hid hB0;have HS0:=hid hS0;clear hw0 HX hbase hB0 hS0
 go_loopw [3,4] (fun s u wr=>∃k N:Nat,k<=m/\u=.int .i64 k/\s=.int .i64 N/\Hid (pc.sumI k=N)/\Bz0 w0 wr) (fun _ u _=>m-(intOf u).toNat)
 case atStart=>exact⟨0,0,by omega,rfl,rfl,hid rfl,bR0 _ _⟩
 case round=>
  obtain⟨k,N,hk,rfl,rfl,hN,hb⟩:=hrel;have hS:=HS0.out.kept hb;have s4:wr.cell? ⟨base,4,none⟩=some (.int .i64 m):=hS.cell 4;have ls:=hS.lt;have hNl:N<=1600000000:=by have:=HSL.out k;rw[hN.out] at this;omega
  have HB:=hid hb
  by_cases hlt:k<m
  ·have dk:decide ((k:Int)<(m:Int))=true:=YaJ (by omega);have s0:=cv0 hS;have s1:wr.cell? ⟨base,1,none⟩=some (.int .i64 sh):=hS.cell 1;have s2:wr.cell? ⟨base,2,none⟩=some (.int .i64 ra):=hS.cell 2;have s3:wr.cell? ⟨base,3,none⟩=some (.int .i64 mo):=hS.cell 3;have s5:wr.cell? ⟨base,5,none⟩=some (.int .i64 ba):=hS.cell 5;have s6:wr.cell? ⟨base,6,none⟩=some (.int .i64 mi):=hS.cell 6;have s7:wr.cell? ⟨base,7,none⟩=some (.int .i64 st):=hS.cell 7;have s8:wr.cell? ⟨base,8,none⟩=some (.int .i64 bu):=hS.cell 8;have s9:wr.cell? ⟨base,9,none⟩=some (.int .i64 ch):=hS.cell 9;have s10:wr.cell? ⟨base,10,none⟩=some (.int .i64 wi):=hS.cell 10;have s11:wr.cell? ⟨base,11,none⟩=some (.int .i64 ca):=hS.cell 11;have s12:wr.cell? ⟨base,12,none⟩=some (.int .i64 P):=hS.cell 12;have HC:=HI.out k;have hln:=HLn.out k;have hll:=HLL.out k;obtain⟨q,hq⟩:∃q,pc.lenI (k:Int)=q:=⟨_,rfl⟩;rw[hq] at hll hln;rw[hln] at HC;have HCC:=hid HC;have HSK:Hid (pc.sumI (k+1)=N+q):=hid (by rw[HSu.out,hN.out,hq]);clear hS hb HC hln hq hN;go_wp2_with fail;((with_reducible refine(HCC.out _).mono ?_);rintro e w2 ⟨A2,c2,rfl,hown2,hb2⟩);have HB2:=hid (bT0 HB.out hb2);clear hown2 hb2 s0 s1 s2 s3 s4 s5 s6 s7 s8 s9 s10 s11 s12 ls;go_wp2_with fail
   go_roundw
   case rel=>exact⟨k+1,N+q,by omega,by go_num,by go_num,HSK,HB2.out⟩
   case measure=>simp[intOf];omega
  ·obtain rfl:k=m:=by omega
   have dk:decide ((k:Int)<(k:Int))=false:=YaI (by omega);have s7:wr.cell? ⟨base,7,none⟩=some (.int .i64 st):=hS.cell 7;obtain⟨R,hR⟩:∃R,(N:Int)*st=R:=⟨_,rfl⟩;have hst:=HST.out;have hR0:0<=R/\R<=1600000000*12:=by
    rw[<-hR];exact⟨Int.mul_nonneg (by omega) hst.1,Int.mul_le_mul (by omega) hst.2 hst.1 (by omega)⟩
   have zr:IntKind.i64.wrap ((N:Int)*st)=R:=by rw[hR];exact ZcZ _ (by omega) (by omega)
   have HRR:Hid (R=(pc.sumI k:Int)*st):=hid (by rw[hN.out,hR]);clear hS hb hst hR hN;go_wp2_with fail;go_ret;exact⟨ZaG HRR.out,by have:=bT0 HB0.out HB.out;exact this⟩
end
theorem Zo7{P:Program}{f:FuncId}{args:Array Value}{w:World}{x y:List Int}(h:Calls P f args w fun e w'=>e=.returned (.bool (decide (x=x) && decide (y=y)))/\Bz0 w w') :
  Calls P f args w fun e w'=>e=.returned (.bool true)/\Bz0 w w':=by
 simpa using h
theorem ZmQ(S S':Option Addr)(m cS cS' N M:Nat)(l l':List StS)(f:Nat->List Int×List Int)(w:World)(hl:l.length=m)(hl':l'.length=m)(hm:m<=1000)(h:Rd w 2 S m (stv N M l))(h':Rd w 2 S' m (stv N M l'))
  (hr:∀i s,l[i]?=some s->Rd w 1 s.1 N (iv (f (i+1)).1)/\Rd w 1 s.2.2.1 M (iv (f (i+1)).2)) (hr':∀i s,l'[i]?=some s->Rd w 1 s.1 N (iv (f (i+1)).1)/\Rd w 1 s.2.2.1 M (iv (f (i+1)).2)) (hf:∀i,(f i).1.length=N/\(f i).2.length=M) (hN:N<=1000000) (hM:M<=1000000) :
  Calls prog 75 #[.slice S m cS,.slice S' m cS'] w fun e w'=>e=.returned (.bool true)/\Bz0 w w':=by
 have HL:=hid hl;have HL':=hid hl';have HH:=hid h;have HH':=hid h';have HR:=hid hr;have HR':=hid hr';have HF:=hid hf;clear hl hl' h h' hr hr' hf
 go_enter func75,ntmps75
 go_wp2_with fail
 go_loopw [5] (fun i wr=>∃j:Nat,j<=m/\i=.int .i64 j/\Bz0 w wr) (fun i _=>m-(intOf i).toNat)
 case atStart=>exact⟨0,by omega,rfl,bR0 _ _⟩
 case round=>
  obtain⟨j,hj,rfl,hb⟩:=hrel
  by_cases hlt:j<m
  ·obtain⟨s,hs⟩:∃s,l[j]?=some s:=⟨_,YaA (by rw[HL.out];exact hlt)⟩;obtain⟨s',hs'⟩:∃s,l'[j]?=some s:=⟨_,YaA (by rw[HL'.out];exact hlt)⟩;obtain⟨gb,go,rfl,ltg,hcg⟩:=(HH.out.below hb).2 (by omega);obtain⟨gb',go',rfl,ltg',hcg'⟩:=(HH'.out.below hb).2 (by omega);obtain⟨v0,v1⟩:=Zmd N M l j s hs;obtain⟨v0',v1'⟩:=Zmd N M l' j s' hs';have c0:=hcg _ _ v0;have c1:=hcg _ _ v1;have c0':=hcg' _ _ v0';have c1':=hcg' _ _ v1';rw[<-Nat.add_assoc] at c1 c1';obtain⟨q1,q2⟩:=HR.out j s hs;obtain⟨q1',q2'⟩:=HR'.out j s' hs';have C:=hid (fun(u:KW wr)=>Zo7 (ZjH s.1 s.2.2.1 s'.1 s'.2.2.1 N M N M s.2.1 s.2.2.2 s'.2.1 s'.2.2.2 _ _ _ _ u.w (HF.out (j+1)).1 (HF.out (j+1)).2 (HF.out (j+1)).1 (HF.out (j+1)).2 ((q1.below hb).kept u.h) ((q2.below hb).kept u.h) ((q1'.below hb).kept u.h) ((q2'.below hb).kept u.h) hN hM hN hM));have HB:=hid hb;obtain⟨a1,a2,a3,a4⟩:=s;obtain⟨b1,b2,b3,b4⟩:=s';clear hcg hcg' v0 v1 v0' v1' q1 q2 q1' q2' hs hs' hb;go_wp2_with fail;have KC:=fun(u:KW wr) b o h=>KW.cells u b o h
   refine ZaK wr (by kernel_rfl) (by kernel_rfl) (Zag.of (bR0 _ _)) ?_
   repeat (go_big_quiet_step ((go_at_call 160;with_reducible exact ZbC (C.out _))))
   refine wpQuiet_nil ?_;rintro _ ⟨⟨w9,k9⟩,rfl⟩;clear KC c0 c1 c0' c1';go_wp2
   go_roundw
   case rel=>exact⟨j+1,by omega,by go_num,((Zag.of HB.out).call k9.2.2).2.2⟩
   case measure=>simp[intOf];omega
  ·obtain rfl:j=m:=by omega
   go_wp2;go_ret;exact⟨rfl,hb⟩
theorem Zxx{w:World}{g:Nat}{t:TypeId}{x y z u:Value}(h:Blk w g t #[x,y,z,u])(a b c d:Value) :
  w.grownBy ((((w.setCell ⟨g,0,none⟩ a).setCell ⟨g,1,none⟩ b).setCell ⟨g,2,none⟩ c).setCell ⟨g,3,none⟩ d) (some g)/\Blk ((((w.setCell ⟨g,0,none⟩ a).setCell ⟨g,1,none⟩ b).setCell ⟨g,2,none⟩ c).setCell ⟨g,3,none⟩ d) g t #[a,b,c,d]:=
 ⟨Zak (p:=⟨g,3,none⟩) (Zak (p:=⟨g,2,none⟩) (Zak (p:=⟨g,1,none⟩) (Zak (p:=⟨g,0,none⟩) (World.grownBy.refl w _) (.inl rfl) a) (.inl rfl) b) (.inl rfl) c) (.inl rfl) d,by simpa using (((h.set_ 0 a).set_ 1 b).set_ 2 c).set_ 3 d⟩
abbrev Zwo:Value:=.agg #[.int .i64 0,.int .i64 0,.int .i64 0,.slice none 0 0]
def Zvi(w:World)(b st N n E:Nat)(L:List Int)(e:Ending)(w':World):Prop:=
 Below w.heap.size w w'/\((E*(n-1)<=N/\∃Ao co vs,e=.returned (.tuple #[.agg #[.int .i64 n,.int .i64 b,.int .i64 st,.slice Ao E co],.int .i64 0])/\w'.ownsRow w.heap.size 22 1 (.slice Ao E co) E (ZlD vs)/\Zez w' w.heap.size vs (ZbU L n E))\/(N<E*(n-1)/\e=.returned (.tuple #[Zwo,.int .i64 8])))
section
variable(n b st N cap q E:Nat)(A:Option Addr)(L:List Int)(w:World)
theorem Zlb(hb1:1<=b)(hbn:b<=n)(hn:n<=60)(hst:st<=60)(hq:n/b=q)(hE:cnt st q=E)(hN2:N<=4000)(hl:L.length=N)(h:Rd w 1 A N (uv L))(hu:InU L) :
  Calls prog 93 #[.int .i64 n,.int .i64 b,.int .i64 st,.slice A N cap] w (Zvi w b st N n E L):=by
 have e1:decide ((n:Int)<1)=false:=YaI (by omega);have e2:decide ((1048576:Int)<(n:Int))=false:=YaI (by omega);have e3:decide ((st:Int)<0)=false:=YaI (by omega);have e4:decide ((1048576:Int)<(st:Int))=false:=YaI (by omega);have e5:decide ((b:Int)<1)=false:=YaI (by omega);have e6:decide (n<b)=false:=YaI (by omega);have hE60:E<=60:=by rw[<-hE];exact YaH (Zci st q) hst
 have HEP:=hid (fun W=>(by have h:=ZoU n b st q W (by omega) hb1 hbn (by omega) hq;rw[hE] at h;exact h:Calls prog 176 #[.int .i64 n,.int .i64 b,.int .i64 st] W fun e w'=>e=.returned (.int .i64 (E:Nat))/\W=w'));obtain⟨m,hm⟩:∃m,n-1=m:=⟨_,rfl⟩;have HND:=hid (fun W=>(by have h:=Zju n W (by omega);rw[hm] at h;exact h:Calls prog 100 #[.int .i64 n] W fun e w'=>e=.returned (.int .i64 (m:Nat))/\W=w'));obtain⟨Em,hEm⟩:∃Em,E*m=Em:=⟨_,rfl⟩;have hm60:m<=60:=by omega
 have hEmb:Em<=3600:=by rw[<-hEm];exact YaH (Nat.mul_le_mul hE60 hm60) (by omega)
 have hw:IntKind.i64.wrap ((E:Int)*(m:Int))=(Em:Int):=by
  rw[<-Int.natCast_mul,hEm,IntKind.wrap_i64];omega
 have HM:=hid hm;have HEM:=hid hEm;have HR:=hid h;have HL:=hid hl;have HU:=hid hu;clear h hl hu hq hE hm hEm;have H0:Hid (Below w.heap.size w (w.alloc (.cells #[.int .i64 0,.int .i64 0,.int .i64 0,.slice none 0 0] 84))/\Blk (w.alloc (.cells #[.int .i64 0,.int .i64 0,.int .i64 0,.slice none 0 0] 84)) w.heap.size 84 #[.int .i64 0,.int .i64 0,.int .i64 0,.slice none 0 0]):=hid ⟨bA0 _,Blk.new _ _ _⟩
 go_enter func93,ntmps93
 go_wp2_with fail;((with_reducible refine(HEP.out _).mono ?_);rintro e wx ⟨rfl,rfl⟩);go_wp2_with fail;((with_reducible refine(HND.out _).mono ?_);rintro e wx ⟨rfl,rfl⟩)
 by_cases hfit:N<Em
 ·have e7:decide ((N:Int)<(Em:Int))=true:=YaJ (by omega);have e7':decide (N<Em)=true:=YaJ (by omega);go_wp2;exact bodyPost_ret (v:=.tuple #[Zwo,.int .i64 8]) (by simp[results,results93,go_sem]) rfl ⟨(bA0 _).alloc (by simp) _,.inr ⟨by rw[HM.out,HEM.out];exact hfit,rfl⟩⟩
 ·have e7:decide ((N:Int)<(Em:Int))=false:=YaI (by omega);have e7':decide (N<Em)=false:=YaI (by omega);obtain⟨g,hg⟩:∃g,w.heap.size=g:=⟨_,rfl⟩;have HX:Hid (∀w3,((w.alloc (.cells #[.int .i64 0,.int .i64 0,.int .i64 0,.slice none 0 0] 84)).alloc (.cells #[.int .i64 n,.int .i64 b,.int .i64 st,.slice none 0 0] 84)).alloc (.cells #[.slice A N cap,.int .i64 0] 316)=w3->Below w.heap.size w w3/\Blk w3 g 84 #[.int .i64 0,.int .i64 0,.int .i64 0,.slice none 0 0]/\Blk w3 (g+1) 84 #[.int .i64 n,.int .i64 b,.int .i64 st,.slice none 0 0]/\Blk w3 (g+1+1) 316 #[.slice A N cap,.int .i64 ((0:Nat):Int)]):=hid (by
   rintro w3 rfl;exact⟨((bA0 _).alloc (by simp) _).alloc (by simp;omega) _,((Blk.new' _ _ hg).alloc _).alloc _,(Blk.new' _ _ (by simp[hg])).alloc _,Blk.new' _ _ (by simp[hg])⟩)
  go_wp2_with fail;have HG:=hid hg;clear hg;obtain⟨w3,hw3⟩:∃w3,((w.alloc (.cells #[.int .i64 0,.int .i64 0,.int .i64 0,.slice none 0 0] 84)).alloc (.cells #[.int .i64 n,.int .i64 b,.int .i64 st,.slice none 0 0] 84)).alloc (.cells #[.slice A N cap,.int .i64 0] 316)=w3:=⟨_,rfl⟩;have HX3:=hid (HX.out w3 hw3);rw[hw3];clear hw3 HX H0;have hfitN:Hid (Em<=N):=hid (by omega);have hfN:Em<=N:=hfitN.out
  go_loopw [13] (fun c wr=>∃(j t E':Nat) (Ao:Option Addr) (co:Nat) (vs:List SlN),j<=E/\c=.int .i64 j/\Hid (t=j*m)/\Hid (E'=j)/\Blk wr g 84 #[.int .i64 0,.int .i64 0,.int .i64 0,.slice none 0 0]/\Blk wr (g+1) 84 #[.int .i64 n,.int .i64 b,.int .i64 st,.slice Ao E' co]/\Blk wr (g+1+1) 316 #[.slice A N cap,.int .i64 t]/\wr.ownsRow w3.heap.size 22 1 (.slice Ao E' co) E' (ZlD vs)/\Zez wr w3.heap.size vs (ZbU L n j)/\Bz0 w wr/\w3.heap.size<=wr.heap.size) (fun c _=>E-(intOf c).toNat)
  case atStart=>exact⟨0,0,0,none,0,[],by omega,rfl,hid (by simp),hid rfl,HX3.out.2.1,HX3.out.2.2.1,HX3.out.2.2.2,World.ownsRow_nil _ _ _ _,Zez.nil _ _,HX3.out.1,YaF _⟩
  case round=>
   obtain⟨j,t,E',Ao,co,vs,hj,rfl,ht,hE',hz,hs,hst',ho,hon,hb,hsz⟩:=hrel;have hwz:=HX3.out.1.size;have hg3:g+1+1<w3.heap.size:=HX3.out.2.2.2.lt
   by_cases hlt:j<E
   ·obtain⟨t',ht'⟩:∃t',t+m=t':=⟨_,rfl⟩;have htN:t'<=N:=by
     have h1:=YaW m (show j+1<=E from hlt);rw[HEM.out,Nat.succ_mul,<-ht.out,ht'] at h1;omega
    have C:=ZoV N cap n t A L wr HL.out (HR.out.below hb) HU.out (by omega) (by rw[HM.out,ht'];exact htN) (by omega);rw[HM.out,ht'] at C;have HC:=hid C;have HT':Hid (t'=(j+1)*m):=hid (by rw[Nat.succ_mul,<-ht.out];exact ht'.symm);have HPM:Hid (ZbU L n (j+1)=ZbU L n j++[ZkO L n t]):=hid (by rw[Ziu,HM.out,ht.out]);have HZ:=hid hz;have HS:=hid hs;have HST:=hid hst';have HO:=hid ho;have HON:=hid hon;have HB:=hid hb;have hE60':E'<=60:=by rw[hE'.out];omega
    have s0:wr.cell? ⟨g+1+1,0,none⟩=some (.slice A N cap):=hst'.cell 0;have s1:wr.cell? ⟨g+1+1,1,none⟩=some (.int .i64 t):=hst'.cell 1;have s2:=hst'.lt;clear hz hs hst' ho hon hb C ht';go_wp2_with fail;((with_reducible refine HC.out.mono ?_);rintro e w5 ⟨A1,c1,rfl,hown5,hb5⟩);have S5:=HST.out.kept hb5;have st5:=Za9 S5 (.slice A N cap) (.int .i64 t');have HST5:=hid st5;have cs0:=S5.cell 0;have cs1:=S5.cell 1;have fs0:=S5.frozen 0;have fs1:=S5.frozen 1;have l5:=S5.lt;have HO5:=hid ((Zac HO.out hb5).kept st5.1 (.inr (Zab (Zac HO.out hb5) S5 (by decide))));have HN5:=hid ((HON.out.below hb5).but (But.of_gr (S:=fun q=>q=g+1+1) st5.1 rfl) (fun v n xs q h e e'=>Zab h S5 (by decide) (e.trans (by rw[e']))));have HP5:=hid (hown5.kept st5.1 (.inr (Zab hown5 S5 (by decide))));have HZ5:=hid ((HZ.out.kept hb5).grown st5.1 (by simp;omega));have HS5:=hid ((HS.out.kept hb5).grown st5.1 (by simp));have HB5:=hid (Zai (bT0 HB.out hb5) (YaH HB.out.size hb5.size) st5.1 (by have:=HG.out;omega));have hsz5:w3.heap.size<=w5.heap.size:=YaH hsz hb5.size;have hs3:w5.cell? ⟨g+1,3,none⟩=some (.slice Ao E' co):=(HS.out.kept hb5).cell 3;have hsl:=(HS.out.kept hb5).lt;have hsf:=(HS.out.kept hb5).frozen 3;clear hown5 hb5 S5 st5 s0 s1 s2;obtain⟨X,hX⟩:∃X,((w5.setCell ⟨g+1+1,0,none⟩ (.slice A N cap)).setCell ⟨g+1+1,1,none⟩ (.int .i64 t')).alloc (.cells #[.slice A N cap,.int .i64 t'] 316)=X:=⟨_,rfl⟩;have HOa:Hid (X.ownsRow w3.heap.size 22 1 (.slice Ao E' co) E' (ZlD vs)):=hid (by rw[<-hX];exact HO5.out.alloc _);have HNa:Hid (Zez X w3.heap.size vs (ZbU L n j)):=hid (by rw[<-hX];exact HN5.out.below (bA0 _));have HPa:Hid (X.ownsRow w3.heap.size 3 1 (.slice A1 n c1) n (iv (ZkO L n t))):=hid (by rw[<-hX];exact Zae (HP5.out.alloc _) hsz);have HZa:Hid (Blk X g 84 #[.int .i64 0,.int .i64 0,.int .i64 0,.slice none 0 0]):=hid (by rw[<-hX];exact HZ5.out.alloc _);have HSa:Hid (Blk X (g+1) 84 #[.int .i64 n,.int .i64 b,.int .i64 st,.slice Ao E' co]):=hid (by rw[<-hX];exact HS5.out.alloc _);have HTa:Hid (Blk X (g+1+1) 316 #[.slice A N cap,.int .i64 t']):=hid (by rw[<-hX];exact HST5.out.2.alloc _);have HBa:Hid (Below w.heap.size w X):=hid (by rw[<-hX];exact HB5.out.alloc HB5.out.size _);have hszX:w3.heap.size<=X.heap.size:=by rw[<-hX];simp[World.setCell];omega
    have HXX:=hid hX;have hXs:w5.heap.size+1=X.heap.size:=by rw[<-hX];simp[World.setCell]
    have HXS:=hid hXs;have HSN:=hid (ZkJ vs (A1,n,c1));clear hX hXs HO5 HN5 HP5 HZ5 HS5 HB5 HST5
    go_wp2_with (at_builtin;rw[HXX.out];go_must (refine ZaM Zua rfl _ _ rfl w3.heap.size _ E' (ZlD vs) rfl HOa.out #[.slice A1 n c1] (w5.heap.size+1) rfl HXS.out rfl (ZqU _ _ _) (by unfold maxLen;omega) (by omega) hszX ?_);go_must (intro A6 c6 w6 hown6 hb6 hg6;(have HS6:=hid (HSa.out.other HOa.out hg6 (by decide)));(have d3:=HS6.out.cell 3);(have df:=HS6.out.frozen 3);(have dl:=HS6.out.lt);(have HO6:=hid hown6);(have HG6:=hid hg6);(have HB6:=hid hb6);clear hown6 hb6 hg6 HXX cs0 cs1 fs0 fs1 hs3 hsl hsf l5))
    have hst:=ZnH HS6.out (.slice A6 (E'+1) c6);have HST6:=hid hst;clear hst d3 df
    go_roundw
    case rel=>
     refine⟨j+1,t',E'+1,A6,c6,vs++[(A1,n,c1)],by omega,by go_num,HT',hid (by rw[hE'.out]),(HZa.out.other HOa.out HG6.out (by decide)).grown HST6.out.1 (by simp),HST6.out.2,(HTa.out.other HOa.out HG6.out (by decide)).grown HST6.out.1 (by simp),?_,?_,?_,?_⟩
     ·rw[HSN.out];exact HO6.out.kept HST6.out.1 (.inr (Zab HO6.out HS6.out (by decide)))
     ·rw[HPM.out];have hp6:=HPa.out.kept HG6.out (ZdS HPa.out HOa.out (by decide));refine Zez.snoc ((HNa.out.rowkept HOa.out (by decide) HG6.out).but (But.of_gr (S:=fun q=>q=g+1) HST6.out.1 rfl) (fun v n xs q h e e'=>Zab h HS6.out (by decide) (e.trans (by rw[e'])))) (by rw[Zbw]) (hp6.kept HST6.out.1 (.inr (Zab hp6 HS6.out (by decide))))
     ·have h1:=HBa.out.trans (HB6.out.mono hwz);exact Zai h1 h1.size HST6.out.1 (by have:=HG.out;omega)
     ·have:=HB6.out.size;simp[World.setCell];omega
    case measure=>simp[intOf];omega
   ·obtain rfl:j=E:=by omega
    obtain rfl:E'=j:=hE'.out;have HO:=hid (Zae ho hwz);have HON:=hid (hon.base hwz);have HB:=hid hb;have HZ:=hid hz;have HS:=hid hs;have s0:wr.cell? ⟨g+1,0,none⟩=some (.int .i64 n):=hs.cell 0;have s1:wr.cell? ⟨g+1,1,none⟩=some (.int .i64 b):=hs.cell 1;have s2:wr.cell? ⟨g+1,2,none⟩=some (.int .i64 st):=hs.cell 2;have s3:wr.cell? ⟨g+1,3,none⟩=some (.slice Ao E' co):=hs.cell 3;have s4:=hs.lt;have z0:=hz.cell 0;have z1:=hz.cell 1;have z2:=hz.cell 2;have z3:=hz.cell 3;have z4:=hz.lt;have y0:=hz.frozen 0;have y1:=hz.frozen 1;have y2:=hz.frozen 2;have y3:=hz.frozen 3;clear hz hs hst' ho hon hb;go_wp2_with fail;have hst4:=Zxx HZ.out (.int .i64 n) (.int .i64 b) (.int .i64 st) (.slice Ao E' co);exact bodyPost_ret (v:=.tuple #[.agg #[.int .i64 n,.int .i64 b,.int .i64 st,.slice Ao E' co],.int .i64 0]) (by simp[results,results93,go_sem,z0,z1,z2,z3,z4]) rfl ⟨Zai HB.out HB.out.size hst4.1 (by have:=HG.out;omega),.inl ⟨by rw[HM.out,HEM.out];exact hfN,Ao,co,vs,rfl,HO.out.kept hst4.1 (.inr (Zab HO.out HZ.out (by decide))),HON.out.but (But.of_gr (S:=fun q=>q=g) hst4.1 rfl) (fun v n xs q h e e'=>Zab h HZ.out (by decide) (e.trans (by rw[e'])))⟩⟩
end
