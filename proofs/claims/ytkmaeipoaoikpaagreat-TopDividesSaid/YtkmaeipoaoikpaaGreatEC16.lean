/- Lemmas. -/
import Derived.Test.YtkmaeipoaoikpaaGreatEC15
namespace Go.Proofs.YtkmaeipoaoikpaaGreat
set_option linter.all false
set_option maxRecDepth 100000
set_option maxHeartbeats 4000000
open Lib (hid)
open Go.RowKit
open Tryz
abbrev inC(A:Option Addr)(n cap:Nat)(c:Cfg)(S:Option Addr)(m cS:Nat)(AP:Option Addr)(P cP:Nat)(AD:Option Addr)(D cD:Nat):Array Value:=#[.slice A n cap,.int .i64 c.sh,.int .i64 c.ra,.int .i64 c.mo,.int .i64 c.wk,.int .i64 c.ba,.int .i64 c.mi,.int .i64 c.st,.int .i64 c.bu,.int .i64 c.ch,.int .i64 c.wi,.int .i64 c.ca,.slice S m cS,.slice AP P cP,.slice AD D cD]
abbrev inV(A:Option Addr)(n cap:Nat)(c:Cfg)(S:Option Addr)(m cS:Nat)(AP:Option Addr)(P cP:Nat)(AD:Option Addr)(D cD:Nat):Value:=.agg (inC A n cap c S m cS AP P cP AD D cD)
def Zdh(c:Cfg)(m:Nat):Nat:=cnt c.st.toNat (m/c.ba.toNat)*(m-1)
def Zho(l:List Int)(c:Cfg)(es:List ExS)(m P D:Nat):Bool:=ZaO l c && (decide (c.ba<=m) && (ZdA es (l.getD 0 0) (l.getD (l.length-1) 0) && (decide ((P:Int)=Zbp l (l.length-1)) && decide (Zdh c m<=D))))
theorem Za8{l:List Int}{c:Cfg}(h:ZaO l c=true):(1<=c.wk/\c.wk<=64)/\(1<=c.sh/\c.sh<=62)/\ZaI l=true/\(1<=c.mi/\c.mi<=1048576)/\(1<=c.bu/\c.bu<=1048576)/\(1<=c.ch/\c.ch<=1048576)/\(1<=c.wi/\c.wi<=1048576)/\(1<=c.ca/\c.ca<=1048576)/\(0<=c.st/\c.st<=1048576)/\(c.wk<=c.ba/\c.ba<=1048576):=by
 simp only[ZaO,YaQ,Zft,Zjb] at h;exact h
theorem Zcq{l:List Int}(h:ZaI l=true):2<=l.length/\l.length<=16/\ZaU l=false/\Zbp l (l.length-1)<=1048576:=by
 simp only[ZaI,YaQ,decide_eq_true_eq,Bool.not_eq_true'] at h;exact⟨h.1.1.1,h.1.1.2,h.1.2,h.2⟩
theorem ZnK(s q:Nat)(hs:s<=1048576):cnt s q<=1048576:=YaH (Zci s q) hs
theorem Zq6(s q:Nat)(hq:1<=q):(s+q-1)/q=cnt s q:=by
 unfold cnt
 by_cases h:s=0
 ·subst h;simp;omega
 ·rw[if_neg (by omega)];have:s+q-1=(s-1)+q:=by omega
  rw[this,Nat.add_div_right _ (by omega)]
theorem ZkX(n:Nat)(w:World)(hn:n<=1000000):Calls prog 157 #[.int .i64 n] w fun e w'=>e=.returned (.int .i64 ((n-1:Nat):Int))/\w=w':=by
 by_cases h:n<1
 ·have e1:decide ((n:Int)-1<0)=true:=YaJ (by omega)
  go_enter func157,ntmps157
  go_wp2
  all_goals go_ret
  all_goals exact⟨ZaG (by omega),rfl⟩
 ·have e1:decide ((n:Int)-1<0)=false:=YaI (by omega)
  go_enter func157,ntmps157
  go_wp2
  all_goals go_ret
  all_goals exact⟨ZaG (by omega),rfl⟩
section
variable(A:Option Addr)(n cap:Nat)(l:List Int)(c:Cfg)(m:Nat)(w:World)
theorem ZhH(hl:l.length=n)(h:Rd w 1 A n (iv l))(hcap:n<=cap)(hn:n<=1000)(hok:ZaO l c=true)(hb:c.ba<=m)(hm:m<=1000) :
  Calls prog 156 #[Zsf A n cap c,.int .i64 m] w fun e w'=>e=.returned (.int .i64 (cnt c.st.toNat (m/c.ba.toNat)))/\Bz0 w w':=by
 have HG:Hid (∀W,w.alloc (.cells (ZfL A n cap c) 24)=W->Below w.heap.size w W/\Blk W w.heap.size 24 (ZfL A n cap c)):=hid (by
  rintro W rfl;exact⟨bA0 _,Blk.new _ _ _⟩)
 have C:=fun W (r:Rd W 1 A n (iv l))=>ZcY A n cap l c W hl r hcap (by omega)
 rw[hok] at C;have HC:=hid C;have HR:=hid h;obtain⟨⟨w1,_⟩,_,_,_,_,_,_,_,hs,hba⟩:=Za8 hok;obtain⟨sh,ra,mo,wk,ba,mi,st,bu,ch,wi,ca⟩:=c;dsimp only at w1 hs hba hb ⊢;obtain⟨b,rfl⟩:∃b:Nat,ba=b:=⟨ba.toNat,by omega⟩;obtain⟨s,rfl⟩:∃s:Nat,st=s:=⟨st.toNat,by omega⟩;rw[Int.toNat_natCast,Int.toNat_natCast];obtain⟨q,hq⟩:∃q,m/b=q:=⟨_,rfl⟩;rw[hq];have hq1:1<=q:=by rw[<-hq];exact(Nat.one_le_div_iff (by omega)).2 (by omega)
 have hqn:q<=m:=by rw[<-hq];exact Nat.div_le_self m b
 have hw:IntKind.i64.wrap ((m:Int)/(b:Int))=(q:Int):=by
  rw[<-Int.natCast_ediv,hq,IntKind.wrap_i64];omega
 obtain⟨E,hE⟩:∃E,cnt s q=E:=⟨_,rfl⟩;have hE1:E<=s:=by rw[<-hE];exact Zci s q
 have hw2:((s:Int)+(q:Int)-1)/(q:Int)=(E:Int):=by
  rw[show (s:Int)+(q:Int)-1=((s+q-1:Nat):Int) by omega,<-Int.natCast_ediv,Zq6 s q hq1,hE]
 have HW2:=hid hw2;rw[hE];clear hE hw2;clear hq hl h hok C
 go_enter func156,ntmps156
 go_wp2_with fail;obtain⟨hB,hK⟩:=HG.out _ rfl;((with_reducible refine(HC.out _ (HR.out.below hB)).mono ?_);rintro e w2 ⟨k,rfl,hk,hb2⟩);obtain rfl:k=0:=hk.2 rfl;have HB2:=hid (bT0 hB hb2);have HK2:=hid (hK.kept hb2);have c5:w2.cell? ⟨w.heap.size,5,none⟩=some (.int .i64 b):=HK2.out.cell 5;have c7:w2.cell? ⟨w.heap.size,7,none⟩=some (.int .i64 s):=HK2.out.cell 7;have l1:=HK2.out.lt;have f1:decide ((m:Int)<(b:Int))=false:=YaI (by omega);have f2:decide ((1048576:Int)<(m:Int))=false:=YaI (by omega);clear hB hK hk hb2;go_wp2_with fail;go_ret;exact⟨ZaG HW2.out,HB2.out⟩
theorem ZgR(hl:l.length=n)(h:Rd w 1 A n (iv l))(hcap:n<=cap)(hn:n<=1000)(hok:ZaO l c=true)(hb:c.ba<=m)(hm:m<=1000)(hst:c.st<=1000) :
  Calls prog 99 #[Zsf A n cap c,.int .i64 m] w fun e w'=>e=.returned (.int .i64 (cnt c.st.toNat (m/c.ba.toNat)))/\Bz0 w w':=by
 have HG:Hid (∀W,w.alloc (.cells (ZfL A n cap c) 24)=W->Below w.heap.size w W/\Blk W w.heap.size 24 (ZfL A n cap c)):=hid (by
  rintro W rfl;exact⟨bA0 _,Blk.new _ _ _⟩)
 have C:=fun W (r:Rd W 1 A n (iv l))=>Zc2 A n cap l c W hl r (by omega)
 rw[hok] at C;have HC:=hid C;have HR:=hid h;obtain⟨⟨w1,_⟩,_,_,_,_,_,_,_,hs,hba⟩:=Za8 hok;obtain⟨sh,ra,mo,wk,ba,mi,st,bu,ch,wi,ca⟩:=c;dsimp only at w1 hs hba hb hst ⊢;obtain⟨b,rfl⟩:∃b:Nat,ba=b:=⟨ba.toNat,by omega⟩;obtain⟨s,rfl⟩:∃s:Nat,st=s:=⟨st.toNat,by omega⟩;rw[Int.toNat_natCast,Int.toNat_natCast];obtain⟨q,hq⟩:∃q,m/b=q:=⟨_,rfl⟩;rw[hq];have hq1:1<=q:=by rw[<-hq];exact(Nat.one_le_div_iff (by omega)).2 (by omega)
 have hqn:q<=m:=by rw[<-hq];exact Nat.div_le_self m b
 have hw:IntKind.i64.wrap ((m:Int)/(b:Int))=(q:Int):=by
  rw[<-Int.natCast_ediv,hq,IntKind.wrap_i64];omega
 clear hq hl h hok C
 go_enter func99,ntmps99
 go_wp2_with fail;obtain⟨hB,hK⟩:=HG.out _ rfl;((with_reducible refine(HC.out _ (HR.out.below hB)).mono ?_);rintro e w2 ⟨k,rfl,hk,hb2⟩);obtain rfl:k=0:=hk.2 rfl;have HB2:=hid (bT0 hB hb2);have HK2:=hid (hK.kept hb2);have c5:w2.cell? ⟨w.heap.size,5,none⟩=some (.int .i64 b):=HK2.out.cell 5;have c7:w2.cell? ⟨w.heap.size,7,none⟩=some (.int .i64 s):=HK2.out.cell 7;have l1:=HK2.out.lt;have f1:decide ((m:Int)<(b:Int))=false:=YaI (by omega);have f2:decide ((1048576:Int)<(m:Int))=false:=YaI (by omega);clear hB hK hk hb2;have HBT:=hid (fun W=>Zen (m:Int) (b:Int) 1048576 W);have hbt:btB (m:Int) (b:Int) 1048576=true:=(Zft _ _ _).2 ⟨by omega,by omega⟩;rw[hbt] at HBT;clear hbt;go_wp2_with fail;((with_reducible refine(HBT.out w2).mono ?_);rintro e w3 ⟨rfl,rfl⟩);go_wp2_with fail
 go_loopw [5,6] (fun e t wr=>∃k p:Nat,e=.int .i64 k/\t=.int .i64 p/\wr=w2/\Hid (p=k*q)/\k<=p/\Hid (∀j,j<k->j*q<s)) (fun _ t _=>s-(intOf t).toNat)
 case atStart=>exact⟨0,0,rfl,rfl,rfl,hid (by simp),by omega,hid (fun j h=>by omega)⟩
 case round=>
  obtain⟨k,p,rfl,rfl,hwr,hp,hkp,hlow⟩:=hrel;subst hwr
  by_cases hlt:p<s
  ·have e1:decide ((p:Int)<(s:Int))=true:=YaJ (by omega);go_wp2_with fail
   go_roundw
   case rel=>exact⟨k+1,p+q,by go_num,by go_num,trivial,hid (by rw[Nat.succ_mul,hp.out]),by omega,hid (fun j hj=>by
    by_cases e:j=k
    ·subst e;rw[<-hp.out];exact hlt
    ·exact hlow.out j (by omega))⟩
   case measure=>simp[intOf];omega
  ·have e1:decide ((p:Int)<(s:Int))=false:=YaI (by omega);go_wp2_with fail;go_ret;exact⟨ZaG (by rw[Zq4 hq1 (by rw[<-hp.out];omega) hlow.out]),HB2.out⟩
theorem ZkY(hl:l.length=n)(h:Rd w 1 A n (iv l))(hcap:n<=cap)(hn:n<=1000)(hok:ZaO l c=true)(hb:c.ba<=m)(hm:m<=1000) :
  Calls prog 68 #[Zsf A n cap c,.int .i64 m] w fun e w'=>e=.returned (.int .i64 (Zdh c m))/\Bz0 w w':=by
 have HG:Hid (∀W,w.alloc (.cells (ZfL A n cap c) 24)=W->Below w.heap.size w W/\Blk W w.heap.size 24 (ZfL A n cap c)):=hid (by
  rintro W rfl;exact⟨bA0 _,Blk.new _ _ _⟩)
 have HC:=hid (fun W (r:Rd W 1 A n (iv l))=>ZhH A n cap l c m W hl r hcap hn hok hb hm);have HR:=hid h;have HN:=hid (fun W=>ZkX m W (by omega));obtain⟨_,_,_,_,_,_,_,_,hs,hba⟩:=Za8 hok;obtain⟨E,hE⟩:∃E,cnt c.st.toNat (m/c.ba.toNat)=E:=⟨_,rfl⟩;have hE1:E<=1048576:=by rw[<-hE];exact ZnK _ _ (by omega)
 have hneed:Zdh c m=E*(m-1):=by rw[Zdh,hE]
 rw[hneed];rw[hE] at HC;obtain⟨y,hy⟩:∃y,m-1=y:=⟨_,rfl⟩;rw[hy] at HN ⊢;have hw:IntKind.i64.wrap ((E:Int)*(y:Int))=((E*y:Nat):Int):=by
  have:E*y<=1048576*1000:=Nat.mul_le_mul hE1 (by omega);rw[<-Int.natCast_mul,IntKind.wrap_i64];omega
 clear hl h hok hE hneed hy hs hba;obtain⟨sh,ra,mo,wk,ba,mi,st,bu,ch,wi,ca⟩:=c
 go_enter func68,ntmps68
 go_wp2_with fail;obtain⟨hB,hK⟩:=HG.out _ rfl;((with_reducible refine(HC.out _ (HR.out.below hB)).mono ?_);rintro e w2 ⟨rfl,hb2⟩);have HB2:=hid (bT0 hB hb2);clear hB hK hb2;go_wp2_with fail;((with_reducible refine(HN.out w2).mono ?_);rintro e w3 ⟨rfl,rfl⟩);go_wp2_with fail;go_ret;exact⟨rfl,HB2.out⟩
theorem Zjv(hl:l.length=n)(h:Rd w 1 A n (iv l))(hcap:n<=cap)(hn:n<=1000)(hok:ZaO l c=true)(hb:c.ba<=m)(hm:m<=1000)(hst:c.st<=1000) :
  Calls prog 38 #[Zsf A n cap c,.int .i64 m] w fun e w'=>e=.returned (.int .i64 (Zdh c m))/\Bz0 w w':=by
 have HG:Hid (∀W,w.alloc (.cells (ZfL A n cap c) 24)=W->Below w.heap.size w W/\Blk W w.heap.size 24 (ZfL A n cap c)):=hid (by
  rintro W rfl;exact⟨bA0 _,Blk.new _ _ _⟩)
 have HC:=hid (fun W (r:Rd W 1 A n (iv l))=>ZgR A n cap l c m W hl r hcap hn hok hb hm hst);have HR:=hid h;have HN:=hid (fun W=>Zju m W (by omega));obtain⟨_,_,_,_,_,_,_,_,hs,hba⟩:=Za8 hok;obtain⟨E,hE⟩:∃E,cnt c.st.toNat (m/c.ba.toNat)=E:=⟨_,rfl⟩;have hE1:E<=1048576:=by rw[<-hE];exact ZnK _ _ (by omega)
 have hneed:Zdh c m=E*(m-1):=by rw[Zdh,hE]
 rw[hneed];rw[hE] at HC;obtain⟨y,hy⟩:∃y,m-1=y:=⟨_,rfl⟩;rw[hy] at HN ⊢;have hw:IntKind.i64.wrap ((E:Int)*(y:Int))=((E*y:Nat):Int):=by
  have:E*y<=1048576*1000:=Nat.mul_le_mul hE1 (by omega);rw[<-Int.natCast_mul,IntKind.wrap_i64];omega
 clear hl h hok hE hneed hy hs hba;obtain⟨sh,ra,mo,wk,ba,mi,st,bu,ch,wi,ca⟩:=c
 go_enter func38,ntmps38
 go_wp2_with fail;obtain⟨hB,hK⟩:=HG.out _ rfl;((with_reducible refine(HC.out _ (HR.out.below hB)).mono ?_);rintro e w2 ⟨rfl,hb2⟩);have HB2:=hid (bT0 hB hb2);clear hB hK hb2;go_wp2_with fail;((with_reducible refine(HN.out w2).mono ?_);rintro e w3 ⟨rfl,rfl⟩);go_wp2_with fail;go_ret;exact⟨rfl,HB2.out⟩
end
theorem ZhI(S:Option Addr)(m cS:Nat)(es:List ExS)(i o:Int)(w:World)(hl:es.length=m)(h:Rd w 2 S m (exV es))(hm:m<=1000000) :
  Calls prog 36 #[.slice S m cS,.int .i64 i,.int .i64 o] w (Zwh (ZdA es i o) w):=by
 have HL:=hid hl;have HR:=hid h;clear hl h
 go_enter func36,ntmps36
 go_wp2_with fail
 go_loopw [8] (fun c wr=>∃k:Nat,k<=m/\c=.int .i64 k/\wr=w/\Hid (∀j e,j<k->es[j]?=some e->Ziv i o e=true)) (fun c _=>m-(intOf c).toNat)
 case atStart=>exact⟨0,by omega,rfl,rfl,hid (fun j x h=>by omega)⟩
 case round=>
  obtain⟨k,hk,rfl,hwr,he⟩:=hrel;subst hwr
  by_cases hlt:k<m
  ·obtain⟨⟨⟨a,n,c⟩,⟨a',n',c'⟩⟩,hs⟩:∃s,es[k]?=some s:=⟨_,YaA (by rw[HL.out];exact hlt)⟩;obtain⟨b,o',rfl,lb,c0,c1⟩:=Zq3 HR.out hs hlt;have HS:=hid hs;dsimp only at c0 c1;have e0:decide ((k:Int)<(m:Int))=true:=YaJ (by omega);clear hs
   by_cases e1:(n:Int)=i
   ·have f1:((n:Int) !=i)=false:=by simp[e1]
    by_cases e2:(n':Int)=o
    ·have f2:((n':Int) !=o)=false:=by simp[e2]
     have HQ:Hid (Ziv i o ((a,n,c),(a',n',c'))=true):=hid (by simp[Ziv,e1,e2]);clear e1 e2;go_wp2_with fail
     go_roundw
     case rel=>
      refine⟨k+1,by omega,by go_num,trivial,hid (fun j y hj hy=>?_)⟩
      by_cases hjk:j<k
      ·exact he.out j y hjk hy
      ·obtain rfl:j=k:=by omega
       rw[HS.out] at hy;injection hy with hy
       rw[<-hy];exact HQ.out
     case measure=>simp[intOf];omega
    ·have f2:((n':Int) !=o)=true:=by simp[e2]
     have HQ:Hid (Ziv i o ((a,n,c),(a',n',c'))=false):=hid (by simp[Ziv,e1,e2]);clear e1 e2;go_wp2_with fail
     go_ret2
     exact⟨_,by rw[ZgP HS.out HQ.out];rfl,bR0 _ _⟩
   ·have f1:((n:Int) !=i)=true:=by simp[e1]
    have HQ:Hid (Ziv i o ((a,n,c),(a',n',c'))=false):=hid (by simp[Ziv,e1]);clear e1;go_wp2_with fail
    go_ret2
    exact⟨_,by rw[ZgP HS.out HQ.out];rfl,bR0 _ _⟩
  ·obtain rfl:k=m:=by omega
   have HF:Hid (ZdA es i o=true):=hid (ZnI HL.out he.out);go_wp2_with fail
   go_ret2
   exact⟨_,by rw[HF.out];rfl,bR0 _ _⟩
section
variable(A:Option Addr)(n cap:Nat)(l:List Int)(c:Cfg)(S:Option Addr)(m cS:Nat)(es:List ExS)(AP:Option Addr)(P cP:Nat)(AD:Option Addr)(D cD:Nat)(w:World)
theorem Ze1(hl:l.length=n)(h:Rd w 1 A n (iv l))(hcap:n<=cap)(hn:n<=1000)(hel:es.length=m)(hes:Rd w 2 S m (exV es))(hm:m<=1000)(hP:P<=1000000)(hD:D<=1000000) :
  Calls prog 16 #[inV A n cap c S m cS AP P cP AD D cD] w (Zek (Zho l c es m P D) w):=by
 have HG:Hid (∀W,(w.alloc (.cells (inC A n cap c S m cS AP P cP AD D cD) 29)).alloc (.cells (ZfL A n cap c) 24)=W->Below w.heap.size w W/\Blk W w.heap.size 29 (inC A n cap c S m cS AP P cP AD D cD)/\Blk W (w.heap.size+1) 24 (ZfL A n cap c)):=hid (by
  rintro W rfl;exact⟨(bA0 _).alloc (by simp) _,(Blk.new w _ _).alloc _,Blk.new' _ _ (by simp)⟩)
 have HL:=hid hl;have HR:=hid h;have C:=fun W (r:Rd W 1 A n (iv l))=>ZcY A n cap l c W hl r hcap (by omega)
 by_cases hok:ZaO l c=true
 case neg=>
  have hok:ZaO l c=false:=by simpa using hok
  rw[hok] at C;have HC:=hid C;have HO:Hid (Zho l c es m P D=false):=hid (by rw[Zho,hok];rfl);clear hl h C hok hel hes;obtain⟨sh,ra,mo,wk,ba,mi,st,bu,ch,wi,ca⟩:=c
  go_enter func16,ntmps16
  go_wp2_with fail;obtain⟨hB,hK,hK3⟩:=HG.out _ rfl;((with_reducible refine(HC.out _ (HR.out.below hB)).mono ?_);rintro e w2 ⟨k,rfl,hk,hb2⟩);have hk0:k≠0:=fun e=>by have:=hk.1 e;cases this
  have e5:(k !=0)=true:=by simp[hk0]
  have HB2:=hid (bT0 hB hb2);have HK0:=hid hk0;clear hB hK hK3 hk hb2 hk0;go_wp2_with fail;go_ret;exact⟨k,rfl,by rw[HO.out];simp[HK0.out],HB2.out⟩
 case pos=>
  rw[hok] at C;have HC:=hid C;obtain⟨_,_,hsz,_,_,_,_,_,_,hba⟩:=Za8 hok;obtain⟨n2,n16,hwr,hcnt⟩:=Zcq hsz;rw[hl] at n2 n16 hcnt;have HO:Hid (Zho l c es m P D=(decide (c.ba<=m) && (ZdA es (l.getD 0 0) (l.getD (n-1) 0) && (decide ((P:Int)=Zbp l (n-1)) && decide (Zdh c m<=D))))):=hid (by rw[Zho,hok,hl];rfl);have HDC:=hid (fun W (r:Rd W 2 S m (exV es)) i o=>Zjs S m cS es i o W hel r (by omega));have HND:=hid (fun W (r:Rd W 1 A n (iv l)) (hb:c.ba<=m)=>ZkY A n cap l c m W hl r hcap hn hok hb hm);have HSN:=hid (fun W (r:Rd W 1 A n (iv l))=>ZeH A n cap l W hl r hcap n2 n16 hwr hsz);have HES:=hid hes;have HCN:=hid hcnt;obtain⟨y0,hy0⟩:∃y,l[0]?=some y:=⟨_,YaA (by omega)⟩;obtain⟨y1,hy1⟩:∃y,l[n-1]?=some y:=⟨_,YaA (by omega)⟩;rw[show l.getD 0 0=y0 by simp[List.getD,hy0],show l.getD (n-1) 0=y1 by simp[List.getD,hy1]] at HO;have HY0:=hid hy0;have HY1:=hid hy1;have HNN:Hid (c.ba<=m->(Zdh c m:Int)<=1099511627776):=hid (fun hb=>by
   have h1:cnt c.st.toNat (m/c.ba.toNat)<=1048576:=ZnK _ _ (by have:=(Za8 hok).2.2.2.2.2.2.2.2.1;omega);have:Zdh c m<=1048576*1000:=Nat.mul_le_mul h1 (by omega)
   omega)
  obtain⟨nd,hnd⟩:∃nd,Zdh c m=nd:=⟨_,rfl⟩;rw[hnd] at HO HNN HND;obtain⟨b0,o0,rfl,lb0,hcs⟩:=h.2 (by omega);have HCS:=hid (show w.cell? ⟨b0,o0,none⟩=some (.int .i64 y0)/\w.cell? ⟨b0,o0+(n-1),none⟩=some (.int .i64 y1) from⟨hcs 0 _ (by rw[iv,YaR,hy0];rfl),hcs (n-1) _ (by rw[iv,YaR,hy1];rfl)⟩);obtain⟨n1,e9⟩:∃n1,n-1=n1:=⟨_,rfl⟩;have hn1:n=n1+1:=by omega
  have hsub:IntKind.i64.wrap ((n:Int)-1)=(n1:Int):=by rw[show (n:Int)-1=(n1:Int) by omega];exact IntWalk.i64_in _ (by omega)
  have E9:=hid e9;have j1:0<n:=by omega
  have j3:n1<n:=by omega
  have i1:(0:Int)<(n:Int):=by omega
  have i2:(0:Int)<=(n1:Int):=by omega
  have i3:(n1:Int)<(n:Int):=by omega
  rw[e9] at HO HCS HCN hy1
  skip
  obtain⟨ct,hct⟩:∃ct,Zbp l n1=ct:=⟨_,rfl⟩;rw[hct] at HO HCN;have HCTE:=hid hct;clear hl h C hok hel hes hcs hwr hsz hcnt hba hy0 hy1 hnd hct e9 hn1;obtain⟨sh,ra,mo,wk,ba,mi,st,bu,ch,wi,ca⟩:=c
  go_enter func16,ntmps16
  go_wp2_with fail;obtain⟨hB,hK,hK3⟩:=HG.out _ rfl;((with_reducible refine(HC.out _ (HR.out.below hB)).mono ?_);rintro e w2 ⟨k,rfl,hk,hb2⟩);obtain rfl:k=0:=hk.2 rfl;have HB2:=hid (bT0 hB hb2);have HK2:=hid (hK.kept hb2);have HK32:=hid (hK3.kept hb2);clear hB hK hK3 hk hb2;obtain⟨ai0,ai1,ai2,ai3,ai4,ai5,ai6,ai7,ai8,ai9,ai10,ai11,ai12,ai13,ai14⟩:=cl15 HK2.out;obtain⟨ac0,ac1,ac2,ac3,ac4,ac5,ac6,ac7,ac8,ac9,ac10,ac11⟩:=cl12 HK32.out;have al1:=HK2.out.lt;have al2:=HK32.out.lt;go_wp2_with fail;((with_reducible refine(HSN.out w2 (HR.out.below HB2.out)).mono ?_);rintro e w3 ⟨bs,rfl,hsh,hb3⟩);clear ai0 ai1 ai2 ai3 ai4 ai5 ai6 ai7 ai8 ai9 ai10 ai11 ai12 ai13 ai14 ac0 ac1 ac2 ac3 ac4 ac5 ac6 ac7 ac8 ac9 ac10 ac11 al1 al2;have HB3:=hid (bT0 HB2.out hb3);have HK3:=hid (HK2.out.kept hb3);have HK33:=hid (HK32.out.kept hb3);have HSH:=hid hsh;clear hsh hb3;obtain⟨ai0,ai1,ai2,ai3,ai4,ai5,ai6,ai7,ai8,ai9,ai10,ai11,ai12,ai13,ai14⟩:=cl15 HK3.out;obtain⟨ac0,ac1,ac2,ac3,ac4,ac5,ac6,ac7,ac8,ac9,ac10,ac11⟩:=cl12 HK33.out;have al1:=HK3.out.lt;have al2:=HK33.out.lt;have s0:w3.cell? ⟨b0,o0,none⟩=some (.int .i64 y0):=(HB3.out.cell (p:=⟨b0,o0,none⟩) lb0).trans HCS.out.1;have s1:w3.cell? ⟨b0,o0+n1,none⟩=some (.int .i64 y1):=(HB3.out.cell (p:=⟨b0,o0+n1,none⟩) lb0).trans HCS.out.2;have lb3:b0<w3.heap.size:=YaK lb0 HB3.out.size;have HDD:=hid (fun W (k:Zag w3 W)=>HDC.out W (HES.out.below (bT0 HB3.out k.2.2)) y0 y1);go_wp2_with fail
  go_region_held3 (fun w'=>Zag w3 w') (first|exact kk|exact Zag.start w3) (first
   | (go_at_call 67;(with_reducible refine(HDD.out w3.drew (Zag.start w3)).mono ?_);rintro e w4 ⟨v,rfl,hb4⟩;have kk:=(Zag.start w3).call hb4;clear hb4))
  clear ai0 ai1 ai2 ai3 ai4 ai5 ai6 ai7 ai8 ai9 ai10 ai11 ai12 ai13 ai14 ac0 ac1 ac2 ac3 ac4 ac5 ac6 ac7 ac8 ac9 ac10 ac11 al1 al2;clear s0 s1;have HB4:=hid (bT0 HB3.out kk.2.2);have HK4:=hid (HK3.out.kept kk.2.2);have HK34:=hid (HK33.out.kept kk.2.2);have HSH4:=hid (HSH.out.below kk.2.2);have HCO:=hid (fun W (r:ZaC W w2.heap.size bs l n)=>Zbs w2.heap.size bs n l W r);rw[E9.out,HCTE.out] at HCO;clear kk;obtain⟨qf,hqf⟩:∃q,ZdA es y0 y1=q:=⟨_,rfl⟩;rw[hqf] at HO ⊢;obtain⟨bi0,bi1,bi2,bi3,bi4,bi5,bi6,bi7,bi8,bi9,bi10,bi11,bi12,bi13,bi14⟩:=cl15 HK4.out;obtain⟨bc0,bc1,bc2,bc3,bc4,bc5,bc6,bc7,bc8,bc9,bc10,bc11⟩:=cl12 HK34.out;have bl1:=HK4.out.lt;have bl2:=HK34.out.lt
  by_cases hb:ba<=(m:Int)
  case neg=>
   have f1:decide ((m:Int)<ba)=true:=YaJ (by omega);have HOF:=hid (HO.out.trans (by rw[YaI hb]<;>rfl));clear hb hqf;go_wp2_with fail;go_ret;exact⟨7,rfl,by rw[HOF.out];simp,HB4.out⟩
  have f1:decide ((m:Int)<ba)=false:=YaI (by omega);have f2:decide ((1048576:Int)<(m:Int))=false:=YaI (by omega);have HO2:=hid (HO.out.trans (by rw[YaJ hb,Bool.true_and]));have HBA:=hid hb;clear hb;clear hqf
  cases qf
  case false=>
   have HOF:=hid (HO2.out.trans rfl);go_wp2_with fail;refine ZaK w4 (by kernel_rfl) (by kernel_rfl) (Zag.of (bR0 _ _)) ?_
   repeat (go_big_quiet_step (fail))
   refine wpQuiet_nil ?_;rintro _ ⟨⟨w5,k5⟩,rfl⟩;clear bi0 bi1 bi2 bi3 bi4 bi5 bi6 bi7 bi8 bi9 bi10 bi11 bi12 bi13 bi14 bc0 bc1 bc2 bc3 bc4 bc5 bc6 bc7 bc8 bc9 bc10 bc11 bl1 bl2;have HB5:=hid (bT0 HB4.out k5.2.2);clear k5;go_wp2_with fail;go_ret;exact⟨5,rfl,by rw[HOF.out];simp,HB5.out⟩
  case true=>
   have HO3:=hid (HO2.out.trans (Bool.true_and _))
   by_cases hp:(P:Int)=ct
   case neg=>
    have f3:((P:Int) !=ct)=true:=by simp[hp]
    have HOF:=hid (HO3.out.trans (by rw[YaI hp]<;>rfl));clear hp;go_wp2_with fail
    go_region_held3 (fun w'=>Zag w4 w') (first|exact kk|exact Zag.start w4) (first
     | (go_at_call 43;(with_reducible refine(HCO.out w4.drew (HSH4.out.below (Zag.start w4).2.2)).mono ?_);rintro e w5 ⟨rfl,hw5⟩;subst hw5;have kk:=Zag.start w4))
    obtain⟨w5,hw5⟩:∃w5,w5=w4.drew:=⟨_,rfl⟩;rw[<-hw5] at kk ⊢;clear hw5;have k5:=kk;clear kk;clear bi0 bi1 bi2 bi3 bi4 bi5 bi6 bi7 bi8 bi9 bi10 bi11 bi12 bi13 bi14 bc0 bc1 bc2 bc3 bc4 bc5 bc6 bc7 bc8 bc9 bc10 bc11 bl1 bl2;have HB5:=hid (bT0 HB4.out k5.2.2);clear k5;go_wp2_with fail;go_ret;exact⟨5,rfl,by rw[HOF.out];simp,HB5.out⟩
   case pos=>
    have f3:((P:Int) !=ct)=false:=by simp[hp]
    have HO4:=hid (HO3.out.trans (by rw[YaJ hp,Bool.true_and]));clear hp;go_wp2_with fail
    go_region_held3 (fun w'=>Zag w4 w') (first|exact kk|exact Zag.start w4) (first
     | (go_at_call 43;(with_reducible refine(HCO.out w4.drew (HSH4.out.below (Zag.start w4).2.2)).mono ?_);rintro e w5 ⟨rfl,hw5⟩;subst hw5;have kk:=Zag.start w4))
    obtain⟨w5,hw5⟩:∃w5,w5=w4.drew:=⟨_,rfl⟩;rw[<-hw5] at kk ⊢;clear hw5;have k5:=kk;clear kk;clear bi0 bi1 bi2 bi3 bi4 bi5 bi6 bi7 bi8 bi9 bi10 bi11 bi12 bi13 bi14 bc0 bc1 bc2 bc3 bc4 bc5 bc6 bc7 bc8 bc9 bc10 bc11 bl1 bl2;have HB5:=hid (bT0 HB4.out k5.2.2);have HK5:=hid (HK4.out.kept k5.2.2);have HK35:=hid (HK34.out.kept k5.2.2);clear k5;obtain⟨di0,di1,di2,di3,di4,di5,di6,di7,di8,di9,di10,di11,di12,di13,di14⟩:=cl15 HK5.out;obtain⟨dc0,dc1,dc2,dc3,dc4,dc5,dc6,dc7,dc8,dc9,dc10,dc11⟩:=cl12 HK35.out;have dl1:=HK5.out.lt;have dl2:=HK35.out.lt;have HNB:=hid (HNN.out HBA.out);have hnb:=HNB.out
    by_cases hd:nd<=D
    case neg=>
     have f4:decide ((D:Int)<(nd:Int))=true:=YaJ (by omega);have f5:decide (D<nd)=true:=YaJ (by omega);have HOF:=hid (HO4.out.trans (YaI hd));clear hd;go_wp2_with fail
     go_region_held3 (fun w'=>Zag w5 w') (first|exact kk|exact Zag.start w5) (first
      | (go_at_call 68;(with_reducible refine(HND.out w5.drew ((HR.out.below HB5.out).below (Zag.start w5).2.2) HBA.out).mono ?_);rintro e w6 ⟨rfl,hb6⟩;have kk:=(Zag.start w5).call hb6;clear hb6))
     have k6:=kk;clear kk;clear di0 di1 di2 di3 di4 di5 di6 di7 di8 di9 di10 di11 di12 di13 di14 dc0 dc1 dc2 dc3 dc4 dc5 dc6 dc7 dc8 dc9 dc10 dc11 dl1 dl2;have HB6:=hid (bT0 HB5.out k6.2.2);clear k6;go_wp2_with fail;go_ret;exact⟨8,rfl,by rw[HOF.out];simp,HB6.out⟩
    case pos=>
     have f4:decide ((D:Int)<(nd:Int))=false:=YaI (by omega);have f5:decide (D<nd)=false:=YaI (by omega);have HOF:=hid (HO4.out.trans (YaJ hd));clear hd;go_wp2_with fail
     go_region_held3 (fun w'=>Zag w5 w') (first|exact kk|exact Zag.start w5) (first
      | (go_at_call 68;(with_reducible refine(HND.out w5.drew ((HR.out.below HB5.out).below (Zag.start w5).2.2) HBA.out).mono ?_);rintro e w6 ⟨rfl,hb6⟩;have kk:=(Zag.start w5).call hb6;clear hb6))
     have k6:=kk;clear kk;clear di0 di1 di2 di3 di4 di5 di6 di7 di8 di9 di10 di11 di12 di13 di14 dc0 dc1 dc2 dc3 dc4 dc5 dc6 dc7 dc8 dc9 dc10 dc11 dl1 dl2;have HB6:=hid (bT0 HB5.out k6.2.2);clear k6;go_wp2_with fail;go_ret;exact⟨0,rfl,by rw[HOF.out];simp,HB6.out⟩
theorem Zct(hl:l.length=n)(h:Rd w 1 A n (iv l))(hcap:n<=cap)(hn:n<=1000)(hel:es.length=m)(hes:Rd w 2 S m (exV es))(hm:m<=1000)(hP:P<=1000000)(hD:D<=1000000)(hst:ZaO l c=true->c.st<=1000) :
  Calls prog 9 #[inV A n cap c S m cS AP P cP AD D cD] w (Zek (Zho l c es m P D) w):=by
 have HG:Hid (∀W,(w.alloc (.cells (inC A n cap c S m cS AP P cP AD D cD) 29)).alloc (.cells (ZfL A n cap c) 24)=W->Below w.heap.size w W/\Blk W w.heap.size 29 (inC A n cap c S m cS AP P cP AD D cD)/\Blk W (w.heap.size+1) 24 (ZfL A n cap c)):=hid (by
  rintro W rfl;exact⟨(bA0 _).alloc (by simp) _,(Blk.new w _ _).alloc _,Blk.new' _ _ (by simp)⟩)
 have HL:=hid hl;have HR:=hid h;have C:=fun W (r:Rd W 1 A n (iv l))=>Zc2 A n cap l c W hl r (by omega)
 by_cases hok:ZaO l c=true
 case neg=>
  have hok:ZaO l c=false:=by simpa using hok
  rw[hok] at C;have HC:=hid C;have HO:Hid (Zho l c es m P D=false):=hid (by rw[Zho,hok];rfl);clear hl h C hok hel hes hst;obtain⟨sh,ra,mo,wk,ba,mi,st,bu,ch,wi,ca⟩:=c
  go_enter func9,ntmps9
  go_wp2_with fail;obtain⟨hB,hK,hK3⟩:=HG.out _ rfl;((with_reducible refine(HC.out _ (HR.out.below hB)).mono ?_);rintro e w2 ⟨k,rfl,hk,hb2⟩);have hk0:k≠0:=fun e=>by have:=hk.1 e;cases this
  have e5:(k !=0)=true:=by simp[hk0]
  have HB2:=hid (bT0 hB hb2);have HK0:=hid hk0;clear hB hK hK3 hk hb2 hk0;go_wp2_with fail;go_ret;exact⟨k,rfl,by rw[HO.out];simp[HK0.out],HB2.out⟩
 case pos=>
  rw[hok] at C;have HC:=hid C;obtain⟨_,_,hsz,_,_,_,_,_,_,hba⟩:=Za8 hok;obtain⟨n2,n16,hwr,hcnt⟩:=Zcq hsz;rw[hl] at n2 n16 hcnt;have HO:Hid (Zho l c es m P D=(decide (c.ba<=m) && (ZdA es (l.getD 0 0) (l.getD (n-1) 0) && (decide ((P:Int)=Zbp l (n-1)) && decide (Zdh c m<=D))))):=hid (by rw[Zho,hok,hl];rfl);have HDC:=hid (fun W (r:Rd W 2 S m (exV es)) i o=>ZhI S m cS es i o W hel r (by omega));have HND:=hid (fun W (r:Rd W 1 A n (iv l)) (hb:c.ba<=m)=>Zjv A n cap l c m W hl r hcap hn hok hb hm (hst hok));have HCT:=hid (fun W (r:Rd W 1 A n (iv l))=>Zbr A n cap l W hl r n16 hwr);have HES:=hid hes;have HCN:=hid hcnt;obtain⟨y0,hy0⟩:∃y,l[0]?=some y:=⟨_,YaA (by omega)⟩;obtain⟨y1,hy1⟩:∃y,l[n-1]?=some y:=⟨_,YaA (by omega)⟩;rw[show l.getD 0 0=y0 by simp[List.getD,hy0],show l.getD (n-1) 0=y1 by simp[List.getD,hy1]] at HO;have HY0:=hid hy0;have HY1:=hid hy1;have HNN:Hid (c.ba<=m->(Zdh c m:Int)<=1099511627776):=hid (fun hb=>by
   have h1:cnt c.st.toNat (m/c.ba.toNat)<=1048576:=ZnK _ _ (by have:=(Za8 hok).2.2.2.2.2.2.2.2.1;omega);have:Zdh c m<=1048576*1000:=Nat.mul_le_mul h1 (by omega)
   omega)
  obtain⟨nd,hnd⟩:∃nd,Zdh c m=nd:=⟨_,rfl⟩;rw[hnd] at HO HNN HND;obtain⟨b0,o0,rfl,lb0,hcs⟩:=h.2 (by omega);have HCS:=hid (show w.cell? ⟨b0,o0,none⟩=some (.int .i64 y0)/\w.cell? ⟨b0,o0+(n-1),none⟩=some (.int .i64 y1) from⟨hcs 0 _ (by rw[iv,YaR,hy0];rfl),hcs (n-1) _ (by rw[iv,YaR,hy1];rfl)⟩);obtain⟨n1,e9⟩:∃n1,n-1=n1:=⟨_,rfl⟩;have hn1:n=n1+1:=by omega
  have hsub:IntKind.i64.wrap ((n:Int)-1)=(n1:Int):=by rw[show (n:Int)-1=(n1:Int) by omega];exact IntWalk.i64_in _ (by omega)
  have E9:=hid e9;have j1:0<n:=by omega
  have j3:n1<n:=by omega
  have i1:(0:Int)<(n:Int):=by omega
  have i2:(0:Int)<=(n1:Int):=by omega
  have i3:(n1:Int)<(n:Int):=by omega
  rw[e9] at HO HCS HCN hy1;rw[e9] at HCT;obtain⟨ct,hct⟩:∃ct,Zbp l n1=ct:=⟨_,rfl⟩;rw[hct] at HO HCN HCT
  skip
  clear hl h C hok hel hes hcs hwr hsz hcnt hba hy0 hy1 hnd hct e9 hn1 hst;obtain⟨sh,ra,mo,wk,ba,mi,st,bu,ch,wi,ca⟩:=c
  go_enter func9,ntmps9
  go_wp2_with fail;obtain⟨hB,hK,hK3⟩:=HG.out _ rfl;((with_reducible refine(HC.out _ (HR.out.below hB)).mono ?_);rintro e w2 ⟨k,rfl,hk,hb2⟩);obtain rfl:k=0:=hk.2 rfl;have HB2:=hid (bT0 hB hb2);have HK2:=hid (hK.kept hb2);have HK32:=hid (hK3.kept hb2);clear hB hK hK3 hk hb2;have HB3:=hid HB2.out;have HK3:=hid HK2.out;have HK33:=hid HK32.out;obtain⟨w3,hw3⟩:∃w3,w3=w2:=⟨_,rfl⟩;rw[<-hw3] at HB3 HK3 HK33 ⊢;clear hw3;obtain⟨ai0,ai1,ai2,ai3,ai4,ai5,ai6,ai7,ai8,ai9,ai10,ai11,ai12,ai13,ai14⟩:=cl15 HK3.out;obtain⟨ac0,ac1,ac2,ac3,ac4,ac5,ac6,ac7,ac8,ac9,ac10,ac11⟩:=cl12 HK33.out;have al1:=HK3.out.lt;have al2:=HK33.out.lt;have HBT:=hid (fun W=>Zen (m:Int) ba 1048576 W)
  by_cases hb:ba<=(m:Int)
  case neg=>
   have hq:btB (m:Int) ba 1048576=false:=by cases hq:btB (m:Int) ba 1048576 with|false=>rfl|true=>exact absurd ((Zft _ _ _).1 hq).1 hb
   rw[hq] at HBT;have HOF:=hid (HO.out.trans (by rw[YaI hb]<;>rfl));clear hb hq;go_wp2_with fail;((with_reducible refine(HBT.out w3).mono ?_);rintro e w4 ⟨rfl,rfl⟩);go_wp2_with fail;go_ret;exact⟨7,rfl,by rw[HOF.out];simp,HB3.out⟩
  have hq:btB (m:Int) ba 1048576=true:=(Zft _ _ _).2 ⟨hb,by omega⟩;rw[hq] at HBT;have HO2:=hid (HO.out.trans (by rw[YaJ hb,Bool.true_and]));have HBA:=hid hb;clear hb hq;go_wp2_with fail;((with_reducible refine(HBT.out w3).mono ?_);rintro e w4 ⟨rfl,rfl⟩);clear HBT;clear ai0 ai1 ai2 ai3 ai4 ai5 ai6 ai7 ai8 ai9 ai10 ai11 ai12 ai13 ai14 ac0 ac1 ac2 ac3 ac4 ac5 ac6 ac7 ac8 ac9 ac10 ac11 al1 al2;obtain⟨ai0,ai1,ai2,ai3,ai4,ai5,ai6,ai7,ai8,ai9,ai10,ai11,ai12,ai13,ai14⟩:=cl15 HK3.out;obtain⟨ac0,ac1,ac2,ac3,ac4,ac5,ac6,ac7,ac8,ac9,ac10,ac11⟩:=cl12 HK33.out;have al1:=HK3.out.lt;have al2:=HK33.out.lt;have s0:w3.cell? ⟨b0,o0,none⟩=some (.int .i64 y0):=(HB3.out.cell (p:=⟨b0,o0,none⟩) lb0).trans HCS.out.1;have s1:w3.cell? ⟨b0,o0+n1,none⟩=some (.int .i64 y1):=(HB3.out.cell (p:=⟨b0,o0+n1,none⟩) lb0).trans HCS.out.2;have lb3:b0<w3.heap.size:=YaK lb0 HB3.out.size;have HDD:=hid (fun W (k:Zag w3 W)=>HDC.out W (HES.out.below (bT0 HB3.out k.2.2)) y0 y1);go_wp2_with fail
  go_region_held3 (fun w'=>Zag w3 w') (first|exact kk|exact Zag.start w3) (first
   | (go_at_call 36;(with_reducible refine(HDD.out w3.drew (Zag.start w3)).mono ?_);rintro e w4 ⟨v,rfl,hb4⟩;have kk:=(Zag.start w3).call hb4;clear hb4))
  clear ai0 ai1 ai2 ai3 ai4 ai5 ai6 ai7 ai8 ai9 ai10 ai11 ai12 ai13 ai14 ac0 ac1 ac2 ac3 ac4 ac5 ac6 ac7 ac8 ac9 ac10 ac11 al1 al2;clear s0 s1;have HB4:=hid (bT0 HB3.out kk.2.2);have HK4:=hid (HK3.out.kept kk.2.2);have HK34:=hid (HK33.out.kept kk.2.2);clear kk;obtain⟨qf,hqf⟩:∃q,ZdA es y0 y1=q:=⟨_,rfl⟩;rw[hqf] at HO HO2 ⊢;obtain⟨bi0,bi1,bi2,bi3,bi4,bi5,bi6,bi7,bi8,bi9,bi10,bi11,bi12,bi13,bi14⟩:=cl15 HK4.out;obtain⟨bc0,bc1,bc2,bc3,bc4,bc5,bc6,bc7,bc8,bc9,bc10,bc11⟩:=cl12 HK34.out;have bl1:=HK4.out.lt;have bl2:=HK34.out.lt;clear hqf
  cases qf
  case false=>
   have HOF:=hid (HO2.out.trans rfl);go_wp2_with fail;refine ZaK w4 (by kernel_rfl) (by kernel_rfl) (Zag.of (bR0 _ _)) ?_
   repeat (go_big_quiet_step (fail))
   refine wpQuiet_nil ?_;rintro _ ⟨⟨w5,k5⟩,rfl⟩;clear bi0 bi1 bi2 bi3 bi4 bi5 bi6 bi7 bi8 bi9 bi10 bi11 bi12 bi13 bi14 bc0 bc1 bc2 bc3 bc4 bc5 bc6 bc7 bc8 bc9 bc10 bc11 bl1 bl2;have HB5:=hid (bT0 HB4.out k5.2.2);clear k5;go_wp2_with fail;go_ret;exact⟨5,rfl,by rw[HOF.out];simp,HB5.out⟩
  case true=>
   have HO3:=hid (HO2.out.trans (Bool.true_and _))
   by_cases hp:(P:Int)=ct
   case neg=>
    have f3:((P:Int) !=ct)=true:=by simp[hp]
    have HOF:=hid (HO3.out.trans (by rw[YaI hp]<;>rfl));clear hp;go_wp2_with fail
    go_region_held3 (fun w'=>Zag w4 w') (first|exact kk|exact Zag.start w4) (first
     | (go_at_call 37;(with_reducible refine(HCT.out w4.drew ((HR.out.below HB4.out).below (Zag.start w4).2.2)).mono ?_);rintro e w5 ⟨rfl,hb5⟩;have kk:=(Zag.start w4).call hb5;clear hb5))
    skip
    skip
    skip
    have k5:=kk;clear kk;clear bi0 bi1 bi2 bi3 bi4 bi5 bi6 bi7 bi8 bi9 bi10 bi11 bi12 bi13 bi14 bc0 bc1 bc2 bc3 bc4 bc5 bc6 bc7 bc8 bc9 bc10 bc11 bl1 bl2;have HB5:=hid (bT0 HB4.out k5.2.2);clear k5;go_wp2_with fail;go_ret;exact⟨5,rfl,by rw[HOF.out];simp,HB5.out⟩
   case pos=>
    have f3:((P:Int) !=ct)=false:=by simp[hp]
    have HO4:=hid (HO3.out.trans (by rw[YaJ hp,Bool.true_and]));clear hp;go_wp2_with fail
    go_region_held3 (fun w'=>Zag w4 w') (first|exact kk|exact Zag.start w4) (first
     | (go_at_call 37;(with_reducible refine(HCT.out w4.drew ((HR.out.below HB4.out).below (Zag.start w4).2.2)).mono ?_);rintro e w5 ⟨rfl,hb5⟩;have kk:=(Zag.start w4).call hb5;clear hb5))
    skip
    skip
    skip
    have k5:=kk;clear kk;clear bi0 bi1 bi2 bi3 bi4 bi5 bi6 bi7 bi8 bi9 bi10 bi11 bi12 bi13 bi14 bc0 bc1 bc2 bc3 bc4 bc5 bc6 bc7 bc8 bc9 bc10 bc11 bl1 bl2;have HB5:=hid (bT0 HB4.out k5.2.2);have HK5:=hid (HK4.out.kept k5.2.2);have HK35:=hid (HK34.out.kept k5.2.2);clear k5;obtain⟨di0,di1,di2,di3,di4,di5,di6,di7,di8,di9,di10,di11,di12,di13,di14⟩:=cl15 HK5.out;obtain⟨dc0,dc1,dc2,dc3,dc4,dc5,dc6,dc7,dc8,dc9,dc10,dc11⟩:=cl12 HK35.out;have dl1:=HK5.out.lt;have dl2:=HK35.out.lt;have HNB:=hid (HNN.out HBA.out);have hnb:=HNB.out
    by_cases hd:nd<=D
    case neg=>
     have f4:decide ((D:Int)<(nd:Int))=true:=YaJ (by omega);have f5:decide (D<nd)=true:=YaJ (by omega);have HOF:=hid (HO4.out.trans (YaI hd));clear hd;go_wp2_with fail
     go_region_held3 (fun w'=>Zag w5 w') (first|exact kk|exact Zag.start w5) (first
      | (go_at_call 38;(with_reducible refine(HND.out w5.drew ((HR.out.below HB5.out).below (Zag.start w5).2.2) HBA.out).mono ?_);rintro e w6 ⟨rfl,hb6⟩;have kk:=(Zag.start w5).call hb6;clear hb6))
     have k6:=kk;clear kk;clear di0 di1 di2 di3 di4 di5 di6 di7 di8 di9 di10 di11 di12 di13 di14 dc0 dc1 dc2 dc3 dc4 dc5 dc6 dc7 dc8 dc9 dc10 dc11 dl1 dl2;have HB6:=hid (bT0 HB5.out k6.2.2);clear k6;go_wp2_with fail;go_ret;exact⟨8,rfl,by rw[HOF.out];simp,HB6.out⟩
    case pos=>
     have f4:decide ((D:Int)<(nd:Int))=false:=YaI (by omega);have f5:decide (D<nd)=false:=YaI (by omega);have HOF:=hid (HO4.out.trans (YaJ hd));clear hd;go_wp2_with fail
     go_region_held3 (fun w'=>Zag w5 w') (first|exact kk|exact Zag.start w5) (first
      | (go_at_call 38;(with_reducible refine(HND.out w5.drew ((HR.out.below HB5.out).below (Zag.start w5).2.2) HBA.out).mono ?_);rintro e w6 ⟨rfl,hb6⟩;have kk:=(Zag.start w5).call hb6;clear hb6))
     have k6:=kk;clear kk;clear di0 di1 di2 di3 di4 di5 di6 di7 di8 di9 di10 di11 di12 di13 di14 dc0 dc1 dc2 dc3 dc4 dc5 dc6 dc7 dc8 dc9 dc10 dc11 dl1 dl2;have HB6:=hid (bT0 HB5.out k6.2.2);clear k6;go_wp2_with fail;go_ret;exact⟨0,rfl,by rw[HOF.out];simp,HB6.out⟩
end
structure InC where
 A:Option Addr
 n:Nat
 cap:Nat
 l:List Int
 c:Cfg
 S:Option Addr
 m:Nat
 cS:Nat
 es:List StS
 N:Nat
 M:Nat
 f:Nat->List Int×List Int
 AP:Option Addr
 P:Nat
 cP:Nat
 P0:List Int
 AD:Option Addr
 D:Nat
 cD:Nat
 L:List Int
def Zf5(N M:Nat)(es:List StS):List ExS:=es.map fun s=>((s.1,N,s.2.1),(s.2.2.1,M,s.2.2.2))
theorem ZdC(N M:Nat)(es:List StS):(Zf5 N M es).length=es.length:=by simp[Zf5]
theorem ZnL(N M:Nat)(es:List StS):exV (Zf5 N M es)=stv N M es:=by
 induction es with
 |nil=>rfl
 |cons s l ih=>
  show exV (_::Zf5 N M l)=_
  rw[Zjr,ih];rfl
structure ZmD(w:World)(I:InC):Prop where
 hl:I.l.length=I.n
 rl:Rd w 1 I.A I.n (iv I.l)
 cap:I.n<=I.cap
 el:I.es.length=I.m
 re:Rd w 2 I.S I.m (stv I.N I.M I.es)
 rs:RdS w I.N I.M I.es I.f
 pl:I.P0.length=I.P
 rp:Rd w 1 I.AP I.P (iv I.P0)
 dl:I.L.length=I.D
 rd:Rd w 1 I.AD I.D (uv I.L)
theorem ZmD.below{w w':World}{I:InC}(h:ZmD w I)(hb:Below w.heap.size w w'):ZmD w' I:=
 ⟨h.hl,h.rl.below hb,h.cap,h.el,h.re.below hb,h.rs.below hb,h.pl,h.rp.below hb,h.dl,h.rd.below hb⟩
structure InC.Ok(I:InC):Prop where
 ok:Zho I.l I.c (Zf5 I.N I.M I.es) I.m I.P I.D=true
 hl:I.l.length=I.n
 el:I.es.length=I.m
 dl:I.L.length=I.D
 hN:I.N=szN I.l 0
 hM:I.M=szN I.l (I.n-1)
 fl:∀i,i<I.m->(I.f (i+1)).1.length=I.N/\(I.f (i+1)).2.length=I.M
 fi:∀i,i<I.m->Zaw (I.f (i+1)).1
 m60:I.m<=60
 st:I.c.st<=12
 P60:I.P<=60
 wk:I.c.wk<=8
 mi:I.c.mi<=20
 D4:I.D<=4000
 lu:InU I.L
 pi:Zaw I.P0
 ra:In1 I.c.ra
 mo:In1 I.c.mo
def pcI(c:Cfg)(P:Nat):PlC:=⟨P,c.bu.toNat,c.wk.toNat,c.ch,c.wi.toNat,c.mi.toNat⟩
def InC.mc(I:InC)(x:Nat):MC:=⟨I.l,I.n,I.P,I.c,x,I.m,I.N,I.M,I.f,I.L,I.c.ba.toNat,I.c.st.toNat,I.m/I.c.ba.toNat,cnt I.c.st.toNat (I.m/I.c.ba.toNat),pcI I.c I.P⟩
theorem Zq7{l:List Int}(hp:∀(k:Nat) (x:Int),l[k]?=some x->1<=x):∀k,k<l.length->Zbp l k=(ofN l k:Int):=by
 have hs:∀k,k<l.length->l.getD k 0=(szN l k:Int):=by
  intro k hk;have h1:=hp k l[k] (YaA hk);unfold szN;rw[YaT,YaA hk];simp only[Option.getD_some];omega
 intro k
 induction k with
 |zero=>intro _;rfl
 |succ k ih=>
  intro hk;have h1:=hs (k+1) hk;have h2:=hs k (by omega);have e:=ih (by omega)
  show _=((ofN l k+szN l (k+1)*szN l k+szN l (k+1):Nat):Int)
  rw[Zbp];rw[e,h1,h2];rw[Int.add_mul,Int.one_mul,Int.mul_comm];simp only[Int.natCast_add,Int.natCast_mul];omega
structure InC.Nums(I:InC):Prop where
 cfg:ZaO I.l I.c=true
 ba:I.c.ba<=(I.m:Int)
 cn:(I.P:Int)=Zbp I.l (I.n-1)
 need:Zdh I.c I.m<=I.D
 wk:1<=I.c.wk/\I.c.wk<=64
 sh:1<=I.c.sh/\I.c.sh<=62
 sz:ZaI I.l=true
 mi:1<=I.c.mi/\I.c.mi<=1048576
 bu:1<=I.c.bu/\I.c.bu<=1048576
 ch:1<=I.c.ch/\I.c.ch<=1048576
 wi:1<=I.c.wi/\I.c.wi<=1048576
 ca:1<=I.c.ca/\I.c.ca<=1048576
 st:0<=I.c.st/\I.c.st<=1048576
 bw:I.c.wk<=I.c.ba/\I.c.ba<=1048576
theorem InC.Ok.nums{I:InC}(h:I.Ok):I.Nums:=by
 have h0:=h.ok;unfold Zho at h0;simp only[YaQ,decide_eq_true_eq] at h0;obtain⟨h1,h2,h3,h4,h5⟩:=h0;obtain⟨a1,a2,a3,a4,a5,a6,a7,a8,a9,a10⟩:=Za8 h1;rw[h.hl] at h4;exact⟨h1,h2,h4,h5,a1,a2,a3,a4,a5,a6,a7,a8,a9,a10⟩
theorem InC.Ok.mc{I:InC}(h:I.Ok){x:Nat}(hx:(x:Int)<I.c.wk):(I.mc x).Ok:=by
 have N:=h.nums;obtain⟨s2,s16,sw,-⟩:=Zcq N.sz;rw[h.hl] at s2 s16;have hpos:∀(k:Nat) (x:Int),I.l[k]?=some x->1<=x:=by
  intro k x hk;have hm:=YaL hk;have h1:¬(I.l.any fun x=>decide (x<1) || decide (1048576<x))=true:=by
   have:ZaU I.l=false:=sw;unfold ZaU at this;rw[this]
   decide
  rw[List.any_eq_true] at h1;have h2:¬(decide (x<1) || decide (1048576<x))=true:=fun e=>h1 ⟨x,hm,e⟩
  simp at h2;omega
 have hcn:=N.cn;rw[Zq7 hpos (I.n-1) (by rw[h.hl];omega)] at hcn;have hP:ofN I.l (I.n-1)=I.P:=by omega
 have P60:=h.P60;have hsz:∀k,k<I.n->I.l[k]?=some (szN I.l k:Int)/\1<=szN I.l k:=by
  intro k hk;have hlt:k<I.l.length:=by rw[h.hl];exact hk
  have h1:=hpos k _ (YaA hlt);have e:szN I.l k=I.l[k].toNat:=by unfold szN;rw[YaT,YaA hlt];rfl
  rw[e,YaA hlt];exact⟨by congr 1;omega,by omega⟩
 have hle:∀k,k<I.n->szN I.l k<=60:=by
  intro k hk
  cases k with
  |zero=>
   have h1:ofN I.l 1<=I.P:=by rw[<-hP];exact ZcV _ _ _ (by omega)
   have h2:ofN I.l 1=0+szN I.l 1*szN I.l 0+szN I.l 1:=rfl;have h3:=(hsz 1 (by omega)).2;have h4:1*szN I.l 0<=szN I.l 1*szN I.l 0:=YaW _ h3;omega
  |succ k=>
   have h1:ofN I.l (k+1)<=I.P:=by rw[<-hP];exact ZcV _ _ _ (by omega)
   have h2:ofN I.l (k+1)=ofN I.l k+szN I.l (k+1)*szN I.l k+szN I.l (k+1):=rfl;omega
 have hba:(I.c.ba.toNat:Int)=I.c.ba:=by have:=N.bw;have:=N.wk;omega
 have hst:(I.c.st.toNat:Int)=I.c.st:=by have:=N.st;omega
 have hb1:1<=I.c.ba.toNat:=by have:=N.bw;have:=N.wk;omega
 have hbm:I.c.ba.toNat<=I.m:=by have:=N.ba;omega
 have m60:=h.m60;have hq1:1<=I.m/I.c.ba.toNat:=(Nat.le_div_iff_mul_le (by omega)).2 (by omega);have hqm:I.m/I.c.ba.toNat*I.c.ba.toNat<=I.m:=Nat.div_mul_le_self _ _;have hqle:I.m/I.c.ba.toNat<=I.m:=Nat.div_le_self _ _;have hc:cnt (I.m/I.c.ba.toNat*I.c.ba.toNat) I.c.ba.toNat=I.m/I.c.ba.toNat:=by
  rw[<-Zq6 _ _ hb1,show I.m/I.c.ba.toNat*I.c.ba.toNat+I.c.ba.toNat-1=(I.c.ba.toNat-1)+I.c.ba.toNat*(I.m/I.c.ba.toNat) by rw[Nat.mul_comm];omega,Nat.add_mul_div_left _ _ (by omega),Nat.div_eq_of_lt (by omega),Nat.zero_add]
 refine⟨h.hl,s2,s16,fun k x hk=>?_,hP,by show I.P<=1000;omega,?_,by show 0<=I.c.sh;have:=N.sh;omega,N.sh.2,h.hN,h.hM,h.fl,h.fi,⟨hq1,by show I.m/I.c.ba.toNat<=1000;omega,hb1,hbm,hqm,by show I.m<=1000;omega,?_,hc,rfl,rfl⟩,?_,⟨?_,h.P60,?_,?_,?_,?_,?_,?_,?_,?_,?_⟩,⟨?_,rfl,?_,?_,?_,N.st.1,h.st⟩,rfl,?_,hst.symm,h.ra,h.mo⟩
 ·have hlt:k<I.l.length:=(YaG.1 hk).1;have h1:=hle k (by rw[<-h.hl];exact hlt);have h2:=hpos k x hk;have e:=(hsz k (by rw[<-h.hl];exact hlt)).1;have hk':I.l[k]?=some x:=hk;rw[hk'] at e;injection e with e
  omega
 ·have h1:ofN I.l 1<=I.P:=by rw[<-hP];exact ZcV _ _ _ (by omega)
  have h2:ofN I.l 1=0+szN I.l 1*szN I.l 0+szN I.l 1:=rfl;have h3:=(hsz 1 (by omega)).2
  show 1<=I.P
  omega
 ·have:=h.st
  show I.c.st.toNat<=1000
  omega
 ·have:=N.need;unfold Zdh at this
  show cnt _ _*(I.m-1)<=I.L.length
  rw[h.dl];exact this
 ·have h1:ofN I.l 1<=I.P:=by rw[<-hP];exact ZcV _ _ _ (by omega)
  have h2:ofN I.l 1=0+szN I.l 1*szN I.l 0+szN I.l 1:=rfl;have h3:=(hsz 1 (by omega)).2
  show 1<=I.P
  omega
 ·have:=N.bu;show 1<=I.c.bu.toNat;omega
 ·have:=N.bu;show I.c.bu.toNat<=1048576;omega
 ·have:=N.wk;show 1<=I.c.wk.toNat;omega
 ·have:=h.wk;show I.c.wk.toNat<=8;omega
 ·exact N.ch.2
 ·have:=N.wi;show 1<=I.c.wi.toNat;omega
 ·have:=N.wi;show I.c.wi.toNat<=1048576;omega
 ·have:=N.mi;show 1<=I.c.mi.toNat;omega
 ·have:=h.mi;show I.c.mi.toNat<=20;omega
 ·have:=N.wk;show I.c.wk=(I.c.wk.toNat:Int);omega
 ·have:=N.mi;show I.c.mi=(I.c.mi.toNat:Int);omega
 ·have:=N.wi;show I.c.wi=(I.c.wi.toNat:Int);omega
 ·have:=N.bu;show I.c.bu=(I.c.bu.toNat:Int);omega
 ·show x<I.c.wk.toNat
  omega
