/- Lemmas. -/
import Derived.Test.YtkmaeipoaoikpaaGreatEC22
namespace Go.Proofs.YtkmaeipoaoikpaaGreat
set_option linter.all false
set_option maxRecDepth 100000
set_option maxHeartbeats 4000000
open Lib (hid)
open Go.RowKit
open Tryz
abbrev Zsj(n b st:Nat)(Ao:Option Addr)(E co:Nat):Value:=.agg #[.int .i64 n,.int .i64 b,.int .i64 st,.slice Ao E co]
structure ZjZ(w:World)(base n:Nat)(Ao:Option Addr)(E co:Nat)(os:List (List Int)):Prop where
 ex:∃vs,w.ownsRow base 22 1 (.slice Ao E co) E (ZlD vs)/\Zez w base vs os
theorem ZjZ.below{w w':World}{base n:Nat}{Ao:Option Addr}{E co:Nat}{os:List (List Int)}(h:ZjZ w base n Ao E co os)(hb:Below w.heap.size w w'):ZjZ w' base n Ao E co os:=by
 obtain⟨vs,h1,h2⟩:=h.ex;exact⟨vs,Zac h1 hb,h2.below hb⟩
section
variable(base b st q E n co:Nat)(Ao:Option Addr)(L:List Int)(w:World)
theorem ZmR(t:Int)(ht:t<0\/st<=t) :
  Calls prog 92 #[Zsj n b st Ao E co,.int .i64 t] w fun e w'=>e=.returned (.tuple #[.int .i64 0,.int .i64 0,.bool false])/\Bz0 w w':=by
 by_cases h1:t<0
 ·have e1:decide (t<0)=true:=YaJ h1;clear ht
  go_enter func92,ntmps92
  go_wp2_with fail;exact bodyPost_ret (v:=.tuple #[.int .i64 0,.int .i64 0,.bool false]) (by simp[results,results92,go_sem]) rfl ⟨rfl,bA0 _⟩
 ·have e1:decide (t<0)=false:=YaI h1;have e2:decide ((st:Int)<=t)=true:=YaJ (by omega);clear ht
  go_enter func92,ntmps92
  go_wp2_with fail;exact bodyPost_ret (v:=.tuple #[.int .i64 0,.int .i64 0,.bool false]) (by simp[results,results92,go_sem]) rfl ⟨rfl,bA0 _⟩
theorem Zlc(P:Zuc n b st q E)(t:Nat)(ht:t<st) :
  Calls prog 92 #[Zsj n b st Ao E co,.int .i64 t] w fun e w'=>e=.returned (.tuple #[.int .i64 ((t/q:Nat):Int),.int .i64 ((t%q:Nat):Int),.bool true])/\Bz0 w w':=by
 have e1:decide ((t:Int)<0)=false:=YaI (by omega);have e2:decide ((st:Int)<=(t:Int))=false:=YaI (by omega);have e3:decide (st<=t)=false:=YaI (by omega);have hst:=P.hst;have hq:=P.hq;have hq2:=P.hq2;have hb1:=P.hb1;have hnn:=P.hn;have hbn:=P.hbn;have hw0:IntKind.i64.wrap ((n:Int)/(b:Int))=(q:Int):=by
  rw[<-Int.natCast_ediv,P.hdiv,IntKind.wrap_i64];omega
 have hw0':(n:Int)/(b:Int)=(q:Int):=by rw[<-Int.natCast_ediv,P.hdiv]
 clear P
 go_enter func92,ntmps92
 go_wp2_with fail;go_region;go_wp2;have hw1:wrap64 ((t:Int)/(q:Int))=(t:Int)/(q:Int):=by
  have hd:=Nat.div_le_self t q;rw[<-Int.natCast_ediv];generalize t/q=d at hd ⊢;exact IntWalk.wrap64_in _ (by omega)
 exact bodyPost_ret (v:=.tuple #[.int .i64 ((t/q:Nat):Int),.int .i64 ((t%q:Nat):Int),.bool true]) (by simp[results,results92,go_sem,hw1]) rfl ⟨rfl,(bA0 _).drew⟩
theorem ZmS(t:Int)(ht:t<0\/st<=t) :
  Calls prog 27 #[Zsj n b st Ao E co,.int .i64 t] w (Zdz w 0 []):=by
 have HE:=hid (fun W=>ZmR b st E n co Ao W t ht);clear ht
 go_enter func27,ntmps27
 go_wp2_with fail;((with_reducible refine(HE.out _).mono ?_);rintro e w1 ⟨rfl,hb1⟩);have HB:=hid (((bR0 w.heap.size w).alloc (YaF _) (.cells #[.int .i64 n,.int .i64 b,.int .i64 st,.slice Ao E co] 84)).trans (hb1.mono (by simp)));clear hb1;go_wp2_with fail;go_ret;exact Zdz.none _ _ HB.out
theorem Zld(P:Zuc n b st q E)(t:Nat)(ht:t<st)(h:ZjZ w base n Ao E co (ZbU L n E)) :
  Calls prog 27 #[Zsj n b st Ao E co,.int .i64 t] w (Zdz w b (Za7 L n b q st t)):=by
 have HE:=hid (fun W=>Zlc b st q E n co Ao W P t ht);obtain⟨vs,hro,hon⟩:=h.ex;have hq:=P.hq;have hq2:=P.hq2;have hb1:=P.hb1;have hnn:=P.hn;have hqb:=P.hqb;have hst:=P.hst;have hmq:t%q<q:=Nat.mod_lt _ (by omega);have hdE:t/q<E:=by
  rw[<-P.hE];refine(ZfD st q _ (by omega) hq).2 ?_;have:=Nat.div_mul_le_self t q;omega
 have hfit:t%q*b+b<=n:=by
  have h1:(t%q+1)*b<=q*b:=YaW b hmq;rw[Nat.succ_mul] at h1;omega
 have HBL:Hid (Za7 L n b q st t=((ZkO L n (t/q*(n-1))).drop (t%q*b)).take b):=hid (by
  rw[Za7,if_pos ⟨by omega,by omega⟩]
  rfl)
 obtain⟨e',he⟩:∃e',t/q=e':=⟨_,rfl⟩;obtain⟨i,hi⟩:∃i,t%q=i:=⟨_,rfl⟩;rw[he] at HE hdE HBL;rw[hi] at HE hmq hfit HBL;rw[HBL.out];have hmul:IntKind.i64.wrap ((i:Int)*(b:Int))=((i*b:Nat):Int):=by
  rw[<-Int.natCast_mul,IntKind.wrap_i64];omega
 obtain⟨lo,hlo⟩:∃lo,i*b=lo:=⟨_,rfl⟩;rw[hlo] at hmul hfit HBL ⊢;obtain⟨s,hs⟩:∃s,vs[e']?=some s:=⟨_,YaA (by rw[hon.len,ZfQ];exact hdE)⟩;obtain⟨Ae,ne,ce⟩:=s;obtain⟨hne,hre⟩:=hon.row e' _ _ hs (ZkP L n E e' hdE);have hne':ne=n:=by rw[Zbw] at hne;exact hne
 subst hne';have HRE:=hid (Rd.of_own hre);have hce:ne<=ce:=by
  obtain⟨_,_,q1,q2,_,_⟩:=ZaF hre;injection q1 with q4 _ q5
  simp only at q5;subst q5;exact q2
 obtain⟨b1,o1,e1,hb1',c1⟩:=(Rd.of_own hro).2 (by omega);subst e1;have d1:=c1 e' _ (ZnE hs);have g3:(0:Int)<=(e':Int):=by omega
 have g4:(e':Int)<(E:Int):=by omega
 have HLN:Hid ((ZkO L ne (e'*(ne-1))).length=ne):=hid (Zbw _ _ _);clear hro hon hs hne hre c1 he hi hlo hqb P h;have HG:Hid (∀W,w.alloc (.cells #[.int .i64 ne,.int .i64 b,.int .i64 st,.slice (some ⟨b1,o1,none⟩) E co] 84)=W->Below w.heap.size w W/\Blk W w.heap.size 84 #[.int .i64 ne,.int .i64 b,.int .i64 st,.slice (some ⟨b1,o1,none⟩) E co]):=hid (by
  rintro W rfl;exact⟨bA0 _,Blk.new _ _ _⟩)
 go_enter func27,ntmps27
 go_wp2_with fail;((with_reducible refine(HE.out _).mono ?_);rintro e w1 ⟨rfl,hb9⟩);obtain⟨hB,hK⟩:=HG.out _ rfl;have hk1:=hK.kept hb9;have hbw:=bT0 hB hb9;have HB9:=hid hbw;have z1:w1.cell? ⟨w.heap.size,1,none⟩=some (.int .i64 b):=hk1.cell 1;have z3:w1.cell? ⟨w.heap.size,3,none⟩=some (.slice (some ⟨b1,o1,none⟩) E co):=hk1.cell 3;have z4:=hk1.lt;have d1':=((ZiO hbw).1 b1 (o1+e') hb1').trans d1;have l2':b1<w1.heap.size:=YaK hb1' hbw.size;clear hb9 hbw hB hK hk1 d1 hb1' HE;go_wp2_with fail;go_region;go_wp2;rw[show lo+b-lo=b by omega];go_ret;exact⟨_,_,rfl,by omega,(Zq0 (HRE.out.below HB9.out) HLN.out lo b hfit).drew,HB9.out.drew⟩
theorem Zle(P:Zuc n b st q E)(t:Int)(h:ZjZ w base n Ao E co (ZbU L n E)) :
  Calls prog 27 #[Zsj n b st Ao E co,.int .i64 t] w (Zdz w (Za7 L n b q st t).length (Za7 L n b q st t)):=by
 by_cases ht:0<=t/\t<st
 ·obtain⟨T,rfl⟩:=YaM ht.1;rw[ZeZ P L T (by omega)];exact Zld base b st q E n co Ao L w P T (by omega) h
 ·rw[ZkU L t (by omega)];exact ZmS b st E n co Ao w t (by omega)
end
def Zeu(g:Nat->Int):Nat->Int
 |0=>0
 |m+1=>Zeu g m+g m
theorem ZdV(g h:Nat->Int):∀m,(∀x,x<m->g x=h x)->Zeu g m=Zeu h m
 |0,_=>rfl
 |m+1,e=>by rw[Zeu,Zeu,ZdV g h m (fun x hx=>e x (by omega)),e m (by omega)]
theorem ZiB(g:Nat->Int):∀m,Zeu g (m+1)=g 0+Zeu (fun x=>g (x+1)) m
 |0=>by simp[Zeu]
 |m+1=>by
  rw[Zeu,ZiB g m,Zeu];omega
theorem Ztv(m:Nat)(g:Nat->Int)(hm:1<=m)(d:Nat):Zeu (fun x=>g ((x+d)%m)) m=Zeu g m:=by
 induction d with
 |zero=>exact ZdV _ _ m (fun x hx=>by rw[Nat.add_zero,Nat.mod_eq_of_lt hx])
 |succ d ih=>
  rw[<-ih];have h1:=ZiB (fun x=>g ((x+d)%m)) m;have h2:Zeu (fun x=>g ((x+d)%m)) (m+1)=Zeu (fun x=>g ((x+d)%m)) m+g ((m+d)%m):=rfl;have h3:Zeu (fun x=>g ((x+(d+1))%m)) m=Zeu (fun x=>g ((x+1+d)%m)) m:=ZdV _ _ m (fun x _=>by rw[Nat.add_assoc x 1 d,Nat.add_comm 1 d]);rw[h3];have h4:g ((m+d)%m)=g ((0+d)%m):=by rw[Nat.add_mod_left,Nat.zero_add]
  omega
def Zf8(lo hi:Int)(m q i:Nat):Prop:=(Zdb lo hi m q).1<=i/\(i:Int)<(Zdb lo hi m q).2
instance (lo hi:Int) (m q i:Nat):Decidable (Zf8 lo hi m q i):=by unfold Zf8;infer_instance
def rqN(m p r w:Nat):Nat:=(((w:Int)-r+p-1)%(m:Int)).toNat
def pwN(m w:Nat):Nat:=(((w:Int)-1)%(m:Int)).toNat
def rst(lo hi:Int)(m:Nat)(z:Nat->Nat->Int):Nat->Nat->Nat->Int
 |0,w,i=>z w i
 |K+1,w,i=>if Zf8 lo hi m (rqN m (K/(m-1)) (K%(m-1)) w) i then (if K/(m-1)=0 then wrap64 (rst lo hi m z K w i+rst lo hi m z K (pwN m w) i) else rst lo hi m z K (pwN m w) i) else rst lo hi m z K w i
theorem ZjJ(n k a b:Nat)(h:a<=b):bnd n k a<=bnd n k b:=by
 unfold bnd;have:=YaW (n/k) h;omega
theorem Ztw(n k:Nat)(hk:1<=k):bnd n k k=n:=by
 unfold bnd;have:=Nat.div_add_mod n k;have h2:=Nat.mod_lt n (show 0<k by omega);omega
theorem ZnX(n k x:Nat)(hx:x<n):∀j,x<bnd n k j->∃q,q<j/\bnd n k q<=x/\x<bnd n k (q+1)
 |0,h=>by unfold bnd at h;omega
 |j+1,h=>by
  by_cases h1:x<bnd n k j
  ·obtain⟨q,a,b,c⟩:=ZnX n k x hx j h1;exact⟨q,by omega,b,c⟩
  ·exact⟨j,by omega,by omega,h⟩
theorem Ztx(lo hi:Int)(m i:Nat)(hm:1<=m)(h0:lo<=i)(h1:(i:Int)<hi):∃q,q<m/\Zf8 lo hi m q i/\∀q',q'<m->Zf8 lo hi m q' i->q'=q:=by
 obtain⟨x,hx⟩:=YaM (show 0<=(i:Int)-lo by omega);obtain⟨N,hN⟩:=YaM (show 0<=hi-lo by omega);have e1:(hi-lo).toNat=N:=by omega
 have hin:∀q,Zf8 lo hi m q i↔bnd N m q<=x/\x<bnd N m (q+1):=fun q=>by
  unfold Zf8 Zdb;rw[e1,Int.toNat_natCast];dsimp only;omega
 obtain⟨q,a,b,c⟩:=ZnX N m x (by omega) m (by rw[Ztw N m hm];omega);refine⟨q,a,(hin q).2 ⟨b,c⟩,fun q' hq' h'=>?_⟩;obtain⟨b',c'⟩:=(hin q').1 h'
 rcases Nat.lt_trichotomy q' q with h|h|h
 ·have:=ZjJ N m (q'+1) q (by omega);omega
 ·exact h
 ·have:=ZjJ N m (q+1) q' (by omega);omega
theorem Zty(lo hi:Int)(m q i:Nat)(hm:q<m)(h1:lo<=hi)(h:¬(lo<=i/\(i:Int)<hi)):¬Zf8 lo hi m q i:=by
 have:=ZcA lo hi m q h1 (by omega);unfold Zf8;omega
theorem Zrs(m p r w:Nat)(hm:1<=m):rqN m p r w<m:=by
 unfold rqN;have h1:=Int.emod_nonneg ((w:Int)-r+p-1) (b:=(m:Int)) (by omega);have h2:=Int.emod_lt_of_pos ((w:Int)-r+p-1) (b:=(m:Int)) (by omega);omega
theorem Zrt(m w:Nat)(hm:1<=m):pwN m w<m:=by
 unfold pwN;have h1:=Int.emod_nonneg ((w:Int)-1) (b:=(m:Int)) (by omega);have h2:=Int.emod_lt_of_pos ((w:Int)-1) (b:=(m:Int)) (by omega);omega
theorem Zru(lo hi:Int)(m:Nat)(z:Nat->Nat->Int)(hm:1<=m)(h1:lo<=hi)(i:Nat)(h:¬(lo<=i/\(i:Int)<hi)):∀K w,rst lo hi m z K w i=z w i
 |0,w=>rfl
 |K+1,w=>by rw[rst,if_neg (Zty lo hi m _ i (Zrs m _ _ _ hm) h1 h),Zru lo hi m z hm h1 i h K w]
def dst(m q w:Nat):Nat:=(w+m-q)%m
theorem ZcN(a m:Int)(k:Int)(h0:0<=a+k*m)(h1:a+k*m<m):a%m=a+k*m:=by
 rw[<-Int.add_mul_emod_self_right a k m];exact Int.emod_eq_of_lt h0 h1
theorem Zev(m q w:Nat)(hq:q<m)(hw:w<m):(q<=w/\dst m q w=w-q)\/(w<q/\dst m q w=w+m-q):=by
 unfold dst
 by_cases h:q<=w
 ·left
  refine⟨h,?_⟩;rw[show w+m-q=(w-q)+m by omega,Nat.add_mod_right,Nat.mod_eq_of_lt (by omega)]
 ·right
  exact⟨by omega,Nat.mod_eq_of_lt (by omega)⟩
theorem Zrv(m w:Nat)(hw:w<m):(w=0/\pwN m w=m-1)\/(1<=w/\pwN m w=w-1):=by
 unfold pwN
 by_cases h:w=0
 ·left
  subst h;refine⟨rfl,?_⟩;rw[ZcN _ _ 1 (by omega) (by omega)];omega
 ·right
  refine⟨by omega,?_⟩;rw[Int.emod_eq_of_lt (by omega) (by omega)];omega
theorem Zue(m q w:Nat)(hq:q<m)(hw:w<m):(dst m q w=0/\dst m q (pwN m w)=m-1)\/(1<=dst m q w/\dst m q (pwN m w)=dst m q w-1):=by
 have hp:pwN m w<m:=Zrt m w (by omega)
 rcases Zev m q w hq hw with⟨a,b⟩|⟨a,b⟩<;>rcases Zev m q (pwN m w) hq hp with⟨c,d⟩|⟨c,d⟩<;>rcases Zrv m w hw with⟨e,f⟩|⟨e,f⟩<;>omega
theorem Zo8(m q r w:Nat)(hq:q<m)(hw:w<m)(hr:r+1<m):rqN m 0 r w=q↔dst m q w=r+1:=by
 unfold rqN;have h1:=Zev m q w hq hw
 by_cases h:r+1<=w
 ·rw[ZcN _ _ 0 (by omega) (by omega)];omega
 ·rw[ZcN _ _ 1 (by omega) (by omega)];omega
theorem Zrw(m q r w:Nat)(hq:q<m)(hw:w<m)(hr:r+1<m):rqN m 1 r w=q↔dst m q w=r:=by
 unfold rqN;have h1:=Zev m q w hq hw
 by_cases h:r<=w
 ·rw[ZcN _ _ 0 (by omega) (by omega)];omega
 ·rw[ZcN _ _ 1 (by omega) (by omega)];omega
section
variable(lo hi:Int)(m:Nat)(z:Nat→Nat→Int)(q i:Nat)
def Zuf(d:Nat):Int:=Zeu (fun t=>z ((t+q)%m) i) (d+1)
theorem ZjK(a b:Int):wrap64 (a+wrap64 b)=wrap64 (a+b):=by unfold wrap64;omega
theorem Zvj(a:Int)(h:-9223372036854775808<=a/\a<=9223372036854775807):wrap64 a=a:=by unfold wrap64;omega
theorem Zrx(w:Nat)(hq:q<m)(hw:w<m):z ((dst m q w+q)%m) i=z w i:=by
 rcases Zev m q w hq hw with⟨a,b⟩|⟨a,b⟩
 ·rw[b,show w-q+q=w by omega,Nat.mod_eq_of_lt hw]
 ·rw[b,show w+m-q+q=w+m by omega,Nat.add_mod_right,Nat.mod_eq_of_lt hw]
theorem Zew(hq:q<m)(hseg:∀q',q'<m->(Zf8 lo hi m q' i↔q'=q))(hz:∀w,w<m->-9223372036854775808<=z w i/\z w i<=9223372036854775807) :
  ∀r,r<=m-1->∀w,w<m->rst lo hi m z r w i=if dst m q w<=r then wrap64 (Zuf m z q i (dst m q w)) else z w i
 |0,_,w,hw=>by
  rw[rst]
  by_cases h:dst m q w<=0
  ·rw[if_pos h];have h0:dst m q w=0:=by omega
   rw[h0,Zuf,Zeu,Zeu,Int.zero_add];have:=Zrx m z q i w hq hw;rw[h0] at this;rw[this,Zvj _ (hz w hw)]
  ·rw[if_neg h]
 |r+1,hr,w,hw=>by
  have ih:=Zew hq hseg hz r (by omega);have e1:r/(m-1)=0:=Nat.div_eq_of_lt (by omega);have e2:r%(m-1)=r:=Nat.mod_eq_of_lt (by omega);rw[rst,e1,e2];have hrq:=Zo8 m q r w hq hw (by omega);have hs:=hseg (rqN m 0 r w) (Zrs m 0 r w (by omega))
  by_cases h:dst m q w=r+1
  ·rw[if_pos (hs.2 (hrq.2 h)),if_pos rfl,if_pos (by omega),ih w hw,if_neg (by omega),ih _ (Zrt m w (by omega))];have hp:=Zue m q w hq hw;have hd:dst m q (pwN m w)=r:=by omega
   rw[hd,if_pos (YaF _),ZjK,h];have ht:=Zrx m z q i w hq hw;rw[h] at ht;rw[show Zuf m z q i (r+1)=Zuf m z q i r+z ((r+1+q)%m) i from rfl,ht,Int.add_comm]
  ·rw[if_neg (fun hh=>h (hrq.1 (hs.1 hh))),ih w hw]
   by_cases h2:dst m q w<=r
   ·rw[if_pos h2,if_pos (by omega)]
   ·rw[if_neg h2,if_neg (by omega)]
theorem ZiC(hm:2<=m)(hq:q<m)(hseg:∀q',q'<m->(Zf8 lo hi m q' i↔q'=q))(hz:∀w,w<m->-9223372036854775808<=z w i/\z w i<=9223372036854775807) :
  ∀r,r<=m-1->∀w,w<m->rst lo hi m z (m-1+r) w i=if dst m q w<r then wrap64 (Zuf m z q i (m-1)) else wrap64 (Zuf m z q i (dst m q w))
 |0,_,w,hw=>by
  have hd:dst m q w<=m-1:=by rcases Zev m q w hq hw with⟨a,b⟩|⟨a,b⟩<;>omega
  rw[Nat.add_zero,Zew lo hi m z q i hq hseg hz (m-1) (YaF _) w hw,if_pos hd,if_neg (by omega)]
 |r+1,hr,w,hw=>by
  have ih:=ZiC hm hq hseg hz r (by omega);have e1:(m-1+r)/(m-1)=1:=by rw[Nat.add_div_left _ (by omega),Nat.div_eq_of_lt (by omega)]
  have e2:(m-1+r)%(m-1)=r:=by rw[Nat.add_mod_left,Nat.mod_eq_of_lt (by omega)]
  rw[<-Nat.add_assoc,rst,e1,e2];have hrq:=Zrw m q r w hq hw (by omega);have hs:=hseg (rqN m 1 r w) (Zrs m 1 r w (by omega))
  by_cases h:dst m q w=r
  ·rw[if_pos (hs.2 (hrq.2 h)),if_neg (by omega),ih _ (Zrt m w (by omega))]
   rcases Zue m q w hq hw with⟨a,b⟩|⟨a,b⟩
   ·rw[b,if_neg (by omega),if_pos (by omega)]
   ·rw[b,if_pos (by omega),if_pos (by omega)]
  ·rw[if_neg (fun hh=>h (hrq.1 (hs.1 hh))),ih w hw]
   by_cases h2:dst m q w<r
   ·rw[if_pos h2,if_pos (by omega)]
   ·rw[if_neg h2,if_neg (by omega)]
end
theorem Zvk(lo hi:Int)(m:Nat)(z:Nat->Nat->Int)(hm:1<=m)(h1:lo<=hi)(i w:Nat)(hw:w<m)(hz:∀w,w<m->-9223372036854775808<=z w i/\z w i<=9223372036854775807) :
  rst lo hi m z (2*(m-1)) w i=if lo<=i/\(i:Int)<hi then wrap64 (Zeu (fun v=>z v i) m) else z w i:=by
 by_cases h:lo<=i/\(i:Int)<hi
 ·rw[if_pos h];obtain⟨q,hq,hin,huq⟩:=Ztx lo hi m i hm h.1 h.2;have hseg:∀q',q'<m->(Zf8 lo hi m q' i↔q'=q):=fun q' hq'=>⟨huq q' hq',fun e=>by rw[e];exact hin⟩
  have hfull:Zuf m z q i (m-1)=Zeu (fun v=>z v i) m:=by
   unfold Zuf;rw[show m-1+1=m by omega];exact Ztv m (fun v=>z v i) hm q
  by_cases h2:m=1
  ·subst h2;have hw0:w=0:=by omega
   subst hw0
   show z 0 i=_
   rw[<-hfull];have:=Zew lo hi 1 z q i hq hseg hz 0 (by omega) 0 (by omega);have hd:dst 1 q 0=0:=by unfold dst;omega
   rw[rst,if_pos (by omega),hd] at this;exact this
  ·rw[show 2*(m-1)=m-1+(m-1) by omega,ZiC lo hi m z q i (by omega) hq hseg hz (m-1) (YaF _) w hw,<-hfull]
   by_cases h3:dst m q w<m-1
   ·rw[if_pos h3]
   ·have hd:dst m q w=m-1:=by rcases Zev m q w hq hw with⟨a,b⟩|⟨a,b⟩<;>omega
    rw[if_neg h3,hd]
 ·rw[if_neg h];exact Zru lo hi m z hm h1 i h _ w
def Zbk:List (Int×Int)->Int->Int->Prop
 |[],e,e'=>e=e'
 |c::l,e,e'=>c.1=e/\e<=c.2/\Zbk l c.2 e'
theorem ZmT{l:List (Int×Int)}{e e1:Int}{c:Int×Int}(h:Zbk l e e1)(h1:c.1=e1)(h2:e1<=c.2):Zbk (l++[c]) e c.2:=by
 induction l generalizing e with
 |nil=>
  have h':e=e1:=h;subst h';exact⟨h1,h2,rfl⟩
 |cons d l ih=>exact⟨h.1,h.2.1,ih h.2.2⟩
theorem Zlf{l:List (Int×Int)}{e e':Int}(b:Int)(h:Zbk l e e'):Zbk (ZbE l b) (e+b) (e'+b):=by
 induction l generalizing e with
 |nil=>
  have h':e=e':=h;subst h';rfl
 |cons d l ih=>
  obtain⟨h1,h2,h3⟩:=h;exact⟨by show d.1+b=e+b;omega,by show e+b<=d.2+b;omega,ih h3⟩
theorem ZdH(n s:Nat)(hn:1<=n)(hs:1<=s):∀k,k<=cnt n s->Zbk ((Zat n s).take k) 0 ((min (k*s) n:Nat):Int)
 |0,_=>by simp[Zbk]
 |k+1,hk=>by
  have ih:=ZdH n s hn hs k (by omega);have hkl:k<(Zat n s).length:=by rw[Zan];omega
  have hle:k*s<n:=by
   rw[Zdm n s hn hs] at hk;have h1:k<=(n-1)/s:=by omega
   have h2:k*s<=(n-1)/s*s:=YaW s h1;have h3:=Nat.div_mul_le_self (n-1) s;omega
  rw[Zbd _ _ hkl];have e:((min ((k+1)*s) n:Nat):Int)=(Zat n s)[k].2:=by
   rw[Zch];dsimp only;rw[Nat.add_mul,Nat.one_mul];omega
  rw[e];refine ZmT ih ?_ ?_
  ·rw[Zch];dsimp only;omega
  ·rw[Zch];dsimp only;omega
theorem ZfV(x y s:Int)(h:x<=y)(hs:1<=s):Zbk (Zbb x y s) x y:=by
 unfold Zbb Zba
 by_cases h0:y-x<1
 ·rw[if_pos (.inl h0)];have:x=y:=by omega
  subst this;rfl
 ·rw[if_neg (by omega)];have hb:=ZdH (y-x).toNat s.toNat (by omega) (by omega) _ (YaF _);rw[YaX (by rw[Zan];exact YaF _)] at hb;have hc:=Zlf x hb;have e1:min (cnt (y-x).toNat s.toNat*s.toNat) (y-x).toNat=(y-x).toNat:=by
   rw[Zdm _ _ (by omega) (by omega),Nat.add_mul,Nat.one_mul];have h1:=Nat.div_add_mod ((y-x).toNat-1) s.toNat;have h2:=Nat.mod_lt ((y-x).toNat-1) (show 0<s.toNat by omega);have h3:s.toNat*(((y-x).toNat-1)/s.toNat)=((y-x).toNat-1)/s.toNat*s.toNat:=Nat.mul_comm _ _;omega
  rw[e1,Int.zero_add,show (((y-x).toNat:Nat):Int)+x=y by omega] at hc;exact hc
def ZhU(f new:Nat->Int)(a e:Int)(n:Nat):List Int:=(List.range n).map fun(i:Nat)=>if a<=(i:Int)/\(i:Int)<e then new i else f i
def ZaN(f:Nat->Int)(n:Nat):List Int:=(List.range n).map f
theorem Zex(f new:Nat->Int)(a e:Int)(n:Nat):(ZhU f new a e n).length=n:=by simp[ZhU]
theorem Zry(f new:Nat->Int)(a:Int)(n:Nat):ZhU f new a a n=ZaN f n:=by
 unfold ZhU ZaN
 apply List.map_congr_left
 intro i _;rw[if_neg (by omega)]
theorem ZmU(f:Nat->Int)(n o k:Nat)(h:o+k<=n):((ZaN f n).drop o).take k=(List.range k).map fun j=>f (o+j):=by
 apply List.ext_getElem?
 intro i;unfold ZaN
 by_cases hi:i<k
 ·rw[List.getElem?_take_of_lt hi,List.getElem?_drop,YaR,YaR,List.getElem?_range (by omega),List.getElem?_range hi];rfl
 ·rw[YaN (by simp;omega),YaN (by simp;omega)]
theorem Ztz(f old new:Nat->Int)(a:Int)(n o k:Nat)(ha:a<=o)(h:o+k<=n)(hnew:∀i,new i=wrap64 (f i+old i)) :
  ZbK (ZhU f new a (o:Int) n) o ((List.range k).map fun j=>old (o+j)) k=ZhU f new a ((o+k:Nat):Int) n:=by
 apply List.ext_getElem?
 intro i;rw[Zbh];unfold ZhU;rw[YaR,YaR]
 by_cases hi:i<n
 ·rw[List.getElem?_range hi];simp only[Option.map_some,Option.some.injEq]
  by_cases h1:o<=i/\i<o+k
  ·rw[if_pos h1,if_neg (by omega),if_pos (by omega),hnew];have:((List.range k).map fun j=>old (o+j)).getD (i-o) 0=old i:=by
    rw[YaT,YaR,List.getElem?_range (by omega)];simp only[Option.map_some,Option.getD_some]
    congr 1
    omega
   rw[this]
  ·rw[if_neg h1]
   by_cases h2:a<=(i:Int)/\(i:Int)<o
   ·rw[if_pos h2,if_pos (by omega)]
   ·rw[if_neg h2,if_neg (by omega)]
 ·rw[YaN (by simp;omega)];rfl
theorem Zrz(f old:Nat->Int)(a:Int)(n o k:Nat)(ha:a<=o)(h:o+k<=n) :
  (ZhU f old a (o:Int) n).take o++(((List.range k).map fun j=>old (o+j))++(ZhU f old a (o:Int) n).drop (o+k))=ZhU f old a ((o+k:Nat):Int) n:=by
 apply List.ext_getElem?
 intro i;have hl:=Zex f old a (o:Int) n
 by_cases hi:i<n
 ·have hr:(ZhU f old a ((o+k:Nat):Int) n)[i]?=some (if a<=(i:Int)/\(i:Int)<((o+k:Nat):Int) then old i else f i):=by
   unfold ZhU;rw[YaR,List.getElem?_range hi];rfl
  have hg:∀x,x<n->(ZhU f old a (o:Int) n)[x]?=some (if a<=(x:Int)/\(x:Int)<(o:Int) then old x else f x):=fun x hx=>by
   unfold ZhU;rw[YaR,List.getElem?_range hx];rfl
  rw[hr]
  by_cases h1:i<o
  ·rw[YaV (by simp[hl];omega),List.getElem?_take_of_lt h1,hg i hi]
   by_cases h2:a<=(i:Int)
   ·rw[if_pos (by omega),if_pos (by omega)]
   ·rw[if_neg (by omega),if_neg (by omega)]
  ·rw[YaU (by simp[hl];omega),show ((ZhU f old a (o:Int) n).take o).length=o by simp[hl];omega]
   by_cases h2:i<o+k
   ·rw[YaV (by simp;omega),YaR,List.getElem?_range (by omega),if_pos (by omega)];simp only[Option.map_some,Option.some.injEq]
    congr 1
    omega
   ·rw[YaU (by simp;omega),List.length_map,List.length_range,List.getElem?_drop,show o+k+(i-o-k)=i by omega,hg i hi,if_neg (by omega),if_neg (by omega)]
 ·rw[YaN (by simp[hl,Zex];omega),YaN (by rw[Zex];omega)]
theorem Zgn{c:PlC}{g:Int×Int}(h:g∈c.grps):0<=g.1/\g.1<=g.2/\g.2<=c.nb:=by
 obtain⟨i,hi,e⟩:=List.mem_iff_getElem.1 h;obtain⟨a,b,d,_⟩:=PlC.grps_in (c:=c) (j:=i) (x:=g) (by rw[YaA hi,e]);exact⟨a,b,d⟩
theorem Zo9{c:PlC}{s:Sl4}(hs:s∈c.stepS 60):(s.1=1/\s.2.2.1<c.mi)\/(s.1=2/\s.2.2.1<c.nb)\/(s.1=3/\s.2.2.1<c.nb)\/(s.1=4/\s.2.2.1<c.nb)\/(s.1=5/\s.2.2.1<c.nb)\/s.1=6:=by
 unfold PlC.stepS PlC.grpS Zsi Zk5 at hs;simp only[List.mem_append,List.mem_map,List.mem_flatMap,List.mem_range,List.mem_singleton,List.mem_cons,List.not_mem_nil,or_false] at hs
 rcases hs with(⟨a,ha,rfl⟩|⟨g,hg,(⟨i,hi,rfl⟩|⟨k,hk,i,hi,b,_,rfl|rfl⟩)|⟨i,hi,rfl⟩⟩)|rfl
 ·exact .inl ⟨rfl,ha⟩
 ·have:=Zgn hg;exact .inr (.inl ⟨rfl,by dsimp only;omega⟩)
 ·have:=Zgn hg;exact .inr (.inr (.inl ⟨rfl,by dsimp only;omega⟩))
 ·have:=Zgn hg;exact .inr (.inr (.inr (.inl ⟨rfl,by dsimp only;omega⟩)))
 ·have:=Zgn hg;exact .inr (.inr (.inr (.inr (.inl ⟨rfl,by dsimp only;omega⟩))))
 ·exact .inr (.inr (.inr (.inr (.inr rfl))))
theorem Zfa:∀{l:List (Int×Int)} {e e':Int},Zbk l e e'->e<=e'/\∀x∈l,e<=x.1/\x.1<=x.2/\x.2<=e'
 |[],e,e',h=>by
  unfold Zbk at h;exact⟨by omega,fun x hx=>by cases hx⟩
 |y::l,e,e',h=>by
  unfold Zbk at h;obtain⟨h1,h2,h3⟩:=h;obtain⟨h4,h5⟩:=Zfa h3;refine⟨by omega,fun x hx=>?_⟩
  rcases List.mem_cons.1 hx with rfl|hx
  ·omega
  ·have:=h5 x hx;omega
theorem ZnY{c:PlC}(h:c.Ok)(hc:1<=c.ch){j q:Nat}(hq:q<c.m){x:Int×Int}(hx:x∈c.chk j q):0<=x.1/\x.1<=x.2/\x.2<=c.P:=by
 unfold PlC.chk at hx
 split at hx
 ·rename_i y hy
  obtain⟨h0,h1,h2⟩:=PlC.bks_in hy;obtain⟨a1,a2,a3⟩:=ZcA y.1 y.2 c.m q h1 (by omega);have:=(Zfa (ZfV _ _ c.ch a2 hc)).2 x hx;omega
 ·cases hx
theorem Zg4{c:PlC}{x:Nat}{t:Int}{s:Sl4}{it:ZaH}(hs:s∈c.stepS 60)(hi:c.itS x t s=some it) :
  (c.kdS x s=1/\it=Zb4 s.1 t (s.2.2.1:Int)/\((s.1=1/\s.2.2.1<c.mi)\/(s.1=2/\s.2.2.1<c.nb)\/(s.1=5/\s.2.2.1<c.nb)\/s.1=6)) \/
  (c.kdS x s=2/\s.1=3/\∃y,(c.chk s.2.2.1 (c.sq x s.2.1))[s.2.2.2]?=some y/\it=((3,t,0),((true,false),(t,(s.2.2.1:Int),c.ph s.2.1,c.rd s.2.1,(s.2.2.2:Int)),y))) \/
  (c.kdS x s=3/\s.1=4/\∃y,(c.chk s.2.2.1 (c.rq x s.2.1))[s.2.2.2]?=some y/\it=((4,t,0),((false,decide (c.ph s.2.1=0)),(t,(s.2.2.1:Int),c.ph s.2.1,c.rd s.2.1,(s.2.2.2:Int)),y))):=by
 have hk:=Zo9 hs;unfold PlC.itS at hi;unfold PlC.kdS
 by_cases h3:s.1=3
 ·rw[if_pos h3] at hi ⊢;obtain⟨y,hy,e⟩:=Option.map_eq_some_iff.1 hi
  right;left
  exact⟨if_pos (ZbH hy),h3,y,hy,e.symm⟩
 ·rw[if_neg h3] at hi ⊢
  by_cases h4:s.1=4
  ·rw[if_pos h4] at hi ⊢;obtain⟨y,hy,e⟩:=Option.map_eq_some_iff.1 hi
   right;right
   exact⟨if_pos (ZbH hy),h4,y,hy,e.symm⟩
  ·rw[if_neg h4] at hi ⊢
   left
   injection hi with hi
   refine⟨rfl,hi.symm,?_⟩
   rcases hk with hk|hk|hk|hk|hk|hk
   ·exact .inl hk
   ·exact .inr (.inl hk)
   ·exact absurd hk.1 h3
   ·exact absurd hk.1 h4
   ·exact .inr (.inr (.inl hk))
   ·exact .inr (.inr (.inr hk))
theorem ZjL{c:PlC}{x p:Nat}{s:Sl4}(hs:(c.stepS 60)[p%c.sl]?=some s):c.kdN 60 x p=c.kdS x s:=by
 unfold PlC.kdN;unfold PlC.sl at hs;rw[hs]
theorem Zpa{c:PlC}(h:c.Ok)(hc:1<=c.ch){K:MC}(hK:K.pc=c)(hP:K.NP=c.P){x:Nat}{t:Nat}(ht:t<=1000000){s:Sl4}{it:ZaH}(hs:s∈c.stepS 60)(hi:c.itS x (t:Int) s=some it):ZjE K it=true:=by
 have hm:=h.i2;have hq:=PlC.q_lt h x s.2.1
 rcases Zg4 hs hi with⟨_,e,hk⟩|⟨_,_,y,hy,e⟩|⟨_,_,y,hy,e⟩
 ·subst e;unfold ZjE Zb4;simp only[YaQ,decide_eq_true_eq,Bool.or_eq_true,Bool.not_eq_true',decide_eq_false_iff_not,Bool.or_eq_false_iff];rw[hK]
  rcases hk with⟨e,hk⟩|⟨e,hk⟩|⟨e,hk⟩|e<;>rw[e]<;>refine⟨⟨⟨⟨by omega,by omega⟩,?_⟩,?_⟩,?_⟩<;>first|(left;omega)|(right;omega)|(left;decide)|(left;exact⟨by decide,by decide⟩)
 ·subst e;have:=ZnY h hc hq.1 (YaL hy);unfold ZjE;simp only[YaQ,decide_eq_true_eq,Bool.or_eq_true,Bool.not_eq_true',decide_eq_false_iff_not,Bool.or_eq_false_iff];rw[hP];refine⟨⟨⟨⟨by omega,by omega⟩,.inl (by decide)⟩,.inl (by decide)⟩,.inr ⟨⟨this.1,this.2.1⟩,this.2.2⟩⟩
 ·subst e;have:=ZnY h hc hq.2 (YaL hy);unfold ZjE;simp only[YaQ,decide_eq_true_eq,Bool.or_eq_true,Bool.not_eq_true',decide_eq_false_iff_not,Bool.or_eq_false_iff];rw[hP];refine⟨⟨⟨⟨by omega,by omega⟩,.inl (by decide)⟩,.inl (by decide)⟩,.inr ⟨⟨this.1,this.2.1⟩,this.2.2⟩⟩
theorem ZtA{c:PlC}{q:Nat}{s:Sl4}(hs:(c.stepS 60)[q]?=some s)(h6:s.1=6):q+1=c.sl:=by
 have hl:=ZbH hs;unfold PlC.sl;unfold PlC.stepS at hs hl ⊢;rw[YaS,List.length_singleton] at hl ⊢
 rcases Nat.lt_or_ge q ((List.range c.mi).map (fun a=>((1,0,a,0):Sl4))++c.grps.flatMap (c.grpS 60)).length with h|h
 ·rw[YaV h] at hs;have hm:=YaL hs;unfold PlC.grpS Zsi Zk5 at hm;simp only[List.mem_append,List.mem_map,List.mem_flatMap,List.mem_range,List.mem_cons,List.not_mem_nil,or_false] at hm
  rcases hm with⟨a,ha,rfl⟩|⟨g,hg,(⟨i,hi,rfl⟩|⟨k,hk,i,hi,b,_,rfl|rfl⟩)|⟨i,hi,rfl⟩⟩<;>exact absurd h6 (by simp)
 ·omega
theorem ZrA{G:List Int}{e k:Nat}(h:e+k<=G.length):(pcL G e k).length=k:=by
 unfold pcL;rw[List.length_take,List.length_drop];omega
section
variable{I:InC}
theorem InC.pc_ok(hO:I.Ok):(I.mc 0).pc.Ok:=(hO.mc (x:=0) (by have:=hO.nums.wk;omega)).pcok
theorem InC.pc_ch(hO:I.Ok):1<=(I.mc 0).pc.ch:=hO.nums.ch.1
theorem Zwp{x:Nat}(hO:I.Ok)(hx:x<I.rg.n):(I.rg.pv x+1)%(I.mc 0).pc.m=x:=Rg.sc_pv (Zd1 (InC.pc_ok hO)) hx
theorem Zfb(hO:I.Ok){x p:Nat}(hx:x<I.rg.n)(hk:I.rg.kd x p=3):∃k j b y,1<=p/\p%(I.mc 0).pc.sl=(p-1)%(I.mc 0).pc.sl+1/\p/(I.mc 0).pc.sl=(p-1)/(I.mc 0).pc.sl /\
  (((I.mc 0).pc.stepS 60)[p%(I.mc 0).pc.sl]?=some (4,k,j,b))/\((I.mc 0).pc.chk j ((I.mc 0).pc.rq x k))[b]?=some y /\
  (I.mc 0).pc.itN x p=some ((4,((p/(I.mc 0).pc.sl:Nat):Int),0),((false,decide ((I.mc 0).pc.ph k=0)),(((p/(I.mc 0).pc.sl:Nat):Int),(j:Int),(I.mc 0).pc.ph k,(I.mc 0).pc.rd k,(b:Int)),y)) /\
  (I.mc 0).pc.itN (I.rg.pv x) (p-1)=some ((3,((p/(I.mc 0).pc.sl:Nat):Int),0),((true,false),(((p/(I.mc 0).pc.sl:Nat):Int),(j:Int),(I.mc 0).pc.ph k,(I.mc 0).pc.rd k,(b:Int)),y)):=by
 have hL:=ZfU (c:=(I.mc 0).pc);obtain⟨k,j,b,hs,hb⟩:=Zk7 (c:=(I.mc 0).pc) hk;obtain⟨q',e1,e2⟩:=(Ze7 (I.mc 0).pc 60).2 _ k j b hs;have hql:=ZbH hs;change p%(I.mc 0).pc.sl=q'+1 at e1;change ((I.mc 0).pc.stepS 60)[p%(I.mc 0).pc.sl]?=some (4,k,j,b) at hs;change p%(I.mc 0).pc.sl<(I.mc 0).pc.sl at hql;obtain⟨es,_⟩:=ZdT (c:=(I.mc 0).pc) p;have hp1:p-1=p/(I.mc 0).pc.sl*(I.mc 0).pc.sl+q':=by omega
 obtain⟨a1,a2⟩:=ZdG (c:=(I.mc 0).pc) (p/(I.mc 0).pc.sl) q' (by omega);rw[<-hp1] at a1 a2;have hy:((I.mc 0).pc.chk j ((I.mc 0).pc.rq x k))[b]?=some ((I.mc 0).pc.chk j ((I.mc 0).pc.rq x k))[b]:=YaA hb;refine⟨k,j,b,_,by omega,by rw[a1];exact e1,a2.symm,hs,hy,?_,?_⟩
 ·unfold PlC.itN;rw[hs];unfold PlC.itS;dsimp only;rw[if_neg (by decide),if_pos rfl,hy];rfl
 ·unfold PlC.itN;rw[a1,e2,a2];unfold PlC.itS;dsimp only;have hsq:=Zts (I.mc 0).pc (InC.pc_ok hO).m1 (I.rg.pv x) k;rw[Zwp hO hx] at hsq;rw[if_pos rfl,<-hsq,hy];rfl
theorem ZtB{x p:Nat}{it:ZaH}(h:(I.mc 0).pc.itN x p=some it):∃s,((I.mc 0).pc.stepS 60)[p%(I.mc 0).pc.sl]?=some s/\(I.mc 0).pc.itS x ((p/(I.mc 0).pc.sl:Nat):Int) s=some it:=by
 unfold PlC.itN at h
 split at h
 ·rename_i s hs
  exact⟨s,hs,h⟩
 ·cases h
theorem Zvl{x p:Nat}(h:I.rg.kd x p≠0):∃it,(I.mc 0).pc.itN x p=some it:=by
 have hL:=ZfU (c:=(I.mc 0).pc);obtain⟨s,hs⟩:∃s,((I.mc 0).pc.stepS 60)[p%(I.mc 0).pc.sl]?=some s:=⟨_,YaA (show p%(I.mc 0).pc.sl<((I.mc 0).pc.stepS 60).length from Nat.mod_lt _ hL)⟩;have h1:(I.mc 0).pc.kdS x s≠0:=by rw[<-ZjL hs];exact h
 have h2:(I.mc 0).pc.itS x ((p/(I.mc 0).pc.sl:Nat):Int) s≠none:=fun e=>h1 ((Zgl x _ _).2 e)
 obtain⟨it,hit⟩:=Option.ne_none_iff_exists'.1 h2;exact⟨it,by unfold PlC.itN;rw[hs];exact hit⟩
structure Cr.Len(s:Cr)(n:Nat):Prop where
 P:s.P.length=n
 M:s.M.length=n
 G:s.G.length=n
theorem ZtC{K:MC}{s:Cr}{it:ZaH}(h:s.Len K.NP):(ZmO (Za1 K s.ms it)).Len K.NP/\(ZmO (Za1 K s.ms it)).opn.length<=s.opn.length+1/\(ZmO (Za1 K s.ms it)).rcd.length<=s.rcd.length+(if it.1.1=6 then 1 else 0):=by
 unfold Za1
 split
 ·exact⟨⟨h.P,h.M,by show (ZcP _ _ _ _).length=_;rw[Zcr];exact h.G⟩,Nat.le_add_right _ _,Nat.le_add_right _ _⟩
 ·split
  ·exact⟨⟨h.P,h.M,h.G⟩,by show (s.opn++[_]).length<=_;simp,Nat.le_add_right _ _⟩
  ·split
   ·split
    ·refine⟨⟨?_,?_,h.G⟩,?_,Nat.le_add_right _ _⟩
     ·show (Zbn _ _ _ _ _ _ _ _).length=_;rw[Zcc];exact h.P
     ·show (Zbm _ _ _ _ _ _).length=_;rw[Zcb];exact h.M
     ·show (ZcD _ _).length<=_
      unfold ZcD;exact YaH (List.length_filter_le _ _) (Nat.le_add_right _ _)
    ·exact⟨h,Nat.le_add_right _ _,Nat.le_add_right _ _⟩
   ·split
    ·rename_i e
     refine⟨⟨h.P,h.M,?_⟩,Nat.le_add_right _ _,?_⟩
     ·show (Zas _).length=_;simp[Zas]
     ·show (s.rcd++[_]).length<=_;simp
    ·exact⟨h,Nat.le_add_right _ _,Nat.le_add_right _ _⟩
theorem ZnZ(hO:I.Ok)(hP:I.P0.length=I.P):∀p x,x<I.rg.n->(I.rg.sy p x).Len I.P/\(I.rg.sy p x).opn.length<=(I.mc 0).pc.cn x p/\(I.rg.sy p x).rcd.length<=1+p/(I.mc 0).pc.sl
 |0,x,hx=>⟨⟨hP,by show (Zas _).length=_;simp[Zas],by show (Zas _).length=_;simp[Zas]⟩,Nat.zero_le _,Nat.le_add_right 1 _⟩
 |p+1,x,hx=>by
  obtain⟨h1,h2,h3⟩:=ZnZ hO hP p x hx;have hcn:(I.mc 0).pc.cn x (p+1)=(I.mc 0).pc.cn x p+if I.rg.kd x p=0 then 0 else 1:=rfl
  have hdv:p/(I.mc 0).pc.sl<=(p+1)/(I.mc 0).pc.sl:=Nat.div_le_div_right (Nat.le_succ p);rw[Rg.sy]
  by_cases e1:I.rg.kd x p=1
  ·rw[if_pos e1];obtain⟨it,hit⟩:=Zvl (I:=I) (x:=x) (p:=p) (by rw[e1];decide);have e:I.rg.loc x p (I.rg.sy p x)=ZmO (Za1 (I.mc x) (I.rg.sy p x).ms it):=by
    show (match (I.mc 0).pc.itN x p with|some it=>_|none=>_)=_
    rw[hit]
   rw[e];obtain⟨w1,w2,w3⟩:=ZtC (K:=I.mc x) (it:=it) h1;refine⟨w1,by rw[hcn,e1,if_neg (by decide)];omega,?_⟩
   by_cases e6:it.1.1=6
   ·rw[if_pos e6] at w3;obtain⟨s,hs,hi⟩:=ZtB hit;have h6:s.1=6:=by
     rcases Zg4 (YaL hs) hi with⟨_,e,hk⟩|⟨_,_,y,hy,e⟩|⟨_,_,y,hy,e⟩
     ·rw[e] at e6;have:((s.1:Nat):Int)=6:=e6;omega
     ·rw[e] at e6;exact absurd e6 (show ¬((3:Int)=6) by decide)
     ·rw[e] at e6;exact absurd e6 (show ¬((4:Int)=6) by decide)
    have hl:=ZtA hs h6;obtain⟨es,_⟩:=ZdT (c:=(I.mc 0).pc) p;have:(p+1)/(I.mc 0).pc.sl=p/(I.mc 0).pc.sl+1:=by
     have ha:=(ZdG (c:=(I.mc 0).pc) (p/(I.mc 0).pc.sl+1) 0 (by omega)).2;rw[show (p/(I.mc 0).pc.sl+1)*(I.mc 0).pc.sl+0=p+1 by rw[Nat.add_mul,Nat.one_mul];omega] at ha;exact ha
    omega
   ·rw[if_neg e6] at w3;omega
  ·rw[if_neg e1]
   by_cases e3:I.rg.kd x p=3
   ·rw[if_pos e3];obtain⟨k,j,b,y,hp,_,_,hs,hy,hi,hi2⟩:=Zfb hO hx e3;obtain⟨g1,_,_⟩:=ZnZ hO hP p (I.rg.pv x) (Rg.pv_lt (Zd1 (InC.pc_ok hO)) x);have hin:=ZnY (InC.pc_ok hO) (InC.pc_ch hO) (PlC.q_lt (InC.pc_ok hO) x k).2 (YaL hy);have hPP:(I.mc 0).pc.P=I.P:=rfl;rw[hPP] at hin;have hm:(I.rg.msg (I.rg.pv x) (p-1) (I.rg.sy p (I.rg.pv x))).2=pcL (I.rg.sy p (I.rg.pv x)).G y.1.toNat (y.2-y.1).toNat:=by
     show (match (I.mc 0).pc.itN (I.rg.pv x) (p-1) with|some it=>Zwn it (I.rg.sy p (I.rg.pv x)).G|none=>((0,0,0,0,0),[])).2=_
     rw[hi2];rfl
    have e:I.rg.rcv x p (I.rg.msg (I.rg.pv x) (p-1) (I.rg.sy p (I.rg.pv x))) (I.rg.sy p x)={ I.rg.sy p x with G:=ZdF (decide ((I.mc 0).pc.ph k=0)) (I.rg.sy p x).G y.1.toNat (y.2-y.1).toNat (pcL (I.rg.sy p (I.rg.pv x)).G y.1.toNat (y.2-y.1).toNat) }:=by
     rw[<-hm]
     show (match (I.mc 0).pc.itN x p with|some it=>_|none=>_)=_
     rw[hi]
    rw[e];refine⟨⟨h1.P,h1.M,?_⟩,by rw[hcn,e3,if_neg (by decide)];show (I.rg.sy p x).opn.length<=_;omega,by show (I.rg.sy p x).rcd.length<=_;omega⟩
    show (ZdF _ _ _ _ _).length=_
    rw[Zk4 (ZrA (by rw[g1.G];omega)) (by rw[h1.G];omega)];exact h1.G
   ·rw[if_neg e3];exact⟨h1,by rw[hcn];omega,by omega⟩
end
def Zee(g:Nat->Nat):Nat->Nat
 |0=>0
 |k+1=>Zee g k+g k
theorem ZdW(f g:Nat->Nat):∀n,(∀y,y<n->f y=g y)->Zee f n=Zee g n
 |0,_=>rfl
 |n+1,h=>by rw[Zee,Zee,ZdW f g n (fun y hy=>h y (by omega)),h n (by omega)]
theorem ZjM(f g:Nat->Nat){x:Nat}(hx:g x=f x+1)(h:∀y,y≠x->g y=f y):∀n,x<n->Zee g n=Zee f n+1
 |0,hn=>by omega
 |n+1,hn=>by
  rw[Zee,Zee]
  by_cases e:x=n
  ·subst e;rw[ZdW g f x (fun y hy=>h y (by omega)),hx];omega
  ·rw[ZjM f g hx h n (by omega),h n (by omega)];omega
theorem ZrB(f:Nat->Nat)(b:Nat):∀n,(∀y,y<n->f y<=b)->Zee f n<=n*b
 |0,_=>Nat.zero_le _
 |n+1,h=>by
  rw[Zee,Nat.add_mul,Nat.one_mul];have:=ZrB f b n (fun y hy=>h y (by omega));have:=h n (by omega);omega
structure At(I:InC)(pos:Nat->Nat)(s:WS):Prop where
 inv:I.rg.Inv pos
 ml:s.mss.length=I.rg.n
 ll:s.lss.length=I.rg.n
 m:∀x m,s.mss[x]?=some m->Zvh I x (pos x) m
 l:∀x l,s.lss[x]?=some l->l.q=Rg.ms I.rg x (I.rg.sn x (pos (I.rg.sc x)) (pos x))/\l.s=l.r+l.q.length/\l.s<=(I.mc 0).pc.cn x (pos x)
 cnt:s.cnt=Zee (fun x=>(I.mc 0).pc.cn x (pos x)) I.rg.n
def Zwq(I:InC)(n x:Nat)(s:WS):Prop:=∃m,s.mss[x]?=some m/\(m.its[m.nx]?=none\/∃it,m.its[m.nx]?=some it/\ZjE (I.mc x) it=true /\
 ((it.1.1=3/\∃l,s.lss[x]?=some l/\I.c.ca.toNat<=l.s-l.r)\/(it.1.1=4/\∃l,s.lss[(x+n-1)%n]?=some l/\l.q=[])))
section
variable{I:InC}{pos:Nat→Nat}{s:WS}{x p':Nat}{m:MS}
theorem ZbY{α:Type}{l:List α}{x:Nat}(h:x<l.length):∃a,l[x]?=some a:=⟨_,YaA h⟩
theorem ZjN(h0:I.rg.kd x (pos x)≠0)(hn:I.rg.Nx x (pos x) p'):(I.mc 0).pc.cn x p'=(I.mc 0).pc.cn x (pos x)+1:=by
 rw[ZnU x (pos x+1) p' hn.lt (fun i h4 h5=>hn.no i (by omega) h5),PlC.cn,if_neg (show ¬(I.mc 0).pc.kdN 60 x (pos x)=0 from h0)]
theorem At.turn(hO:I.Ok)(h:At I pos s)(hx:x<I.rg.n)(h0:I.rg.kd x (pos x)≠0)(hn:I.rg.Nx x (pos x) p')(hr:I.rg.kd x (pos x)=3->pos x-1<pos (I.rg.pv x)){m':MS}{lss':List LS}(hm:Zvh I x p' m')(hll:lss'.length=I.rg.n)
  (hl:∀y l,lss'[y]?=some l->l.q=Rg.ms I.rg y (I.rg.sn y (Rg.upd pos x p' (I.rg.sc y)) (Rg.upd pos x p' y))/\l.s=l.r+l.q.length/\l.s<=(I.mc 0).pc.cn y (Rg.upd pos x p' y)):At I (Rg.upd pos x p') ⟨s.mss.set x m',lss',s.cnt+1⟩:=by
 refine⟨h.inv.step (Zd1 (InC.pc_ok hO)) hx hn hr,by rw[List.length_set];exact h.ml,hll,fun y m1 hy=>?_,hl,?_⟩
 ·by_cases e:y=x
  ·subst e;rw[Rg.upd_same];dsimp only at hy;rw[List.getElem?_set_self (by rw[h.ml];exact hx)] at hy;injection hy with hy
   rw[<-hy];exact hm
  ·rw[Rg.upd_ne _ _ e];dsimp only at hy;rw[List.getElem?_set_ne (fun e1=>e e1.symm)] at hy;exact h.m y m1 hy
 ·dsimp only;rw[h.cnt];exact(ZjM _ _ (x:=x) (by rw[Rg.upd_same];exact ZjN h0 hn) (fun y hy=>by rw[Rg.upd_ne _ _ hy]) _ hx).symm
theorem At.links(hO:I.Ok)(h:At I pos s)(hx:x<I.rg.n)(h0:I.rg.kd x (pos x)≠0)(hn:I.rg.Nx x (pos x) p'){y:Nat}{l:LS}(hy:s.lss[y]?=some l)(h2:y=x->I.rg.kd x (pos x)≠2)(h3:I.rg.sc y=x->I.rg.kd x (pos x)≠3) :
  l.q=Rg.ms I.rg y (I.rg.sn y (Rg.upd pos x p' (I.rg.sc y)) (Rg.upd pos x p' y))/\l.s=l.r+l.q.length/\l.s<=(I.mc 0).pc.cn y (Rg.upd pos x p' y):=by
 have hyn:y<I.rg.n:=by rw[<-h.ll];exact ZbH hy
 obtain⟨a,b,c⟩:=h.l y l hy;refine⟨by rw[Rg.sn_other (Zd1 (InC.pc_ok hO)) hx hn hyn h2 h3];exact a,b,?_⟩
 by_cases e:y=x
 ·subst e;rw[Rg.upd_same,ZjN h0 hn];omega
 ·rw[Rg.upd_ne _ _ e];exact c
theorem Zpb{n:Nat}{it:ZaH}(hm:s.mss[x]?=some m)(hit:m.its[m.nx]?=some it)(h3:it.1.1≠3)(h4:it.1.1≠4):Zf7 I n x s=⟨s.mss.set x (ZaS (I.mc x) (Za1 (I.mc x) m it) it.1.2.1),s.lss,s.cnt+1⟩:=by
 unfold Zf7;rw[hm];dsimp only;rw[hit];dsimp only;rw[if_neg h3,if_neg h4]
theorem ZrC{n:Nat}{it:ZaH}{l:LS}(hm:s.mss[x]?=some m)(hit:m.its[m.nx]?=some it)(h3:it.1.1=3)(hl:s.lss[x]?=some l):Zf7 I n x s=⟨s.mss.set x (ZaS (I.mc x) m it.1.2.1),s.lss.set x ⟨l.s+1,l.r,l.q++[(it.2.2.1,pcL m.G it.2.2.2.1.toNat (it.2.2.2.2-it.2.2.2.1).toNat)]⟩,s.cnt+1⟩:=by
 unfold Zf7;rw[hm];dsimp only;rw[hit];dsimp only;rw[if_pos h3,hl]
theorem ZrD{n:Nat}{it:ZaH}{l:LS}{t:Zfh}{vs:List Int}{q:List (Zfh×List Int)}(hm:s.mss[x]?=some m)(hit:m.its[m.nx]?=some it)(h4:it.1.1=4)(hl:s.lss[(x+n-1)%n]?=some l)(hq:l.q=(t,vs)::q) :
  Zf7 I n x s=⟨s.mss.set x (ZaS (I.mc x) { m with G:=ZdF it.2.1.2 m.G it.2.2.2.1.toNat (it.2.2.2.2-it.2.2.2.1).toNat vs } it.1.2.1),s.lss.set ((x+n-1)%n) ⟨l.s,l.r+1,q⟩,s.cnt+1⟩:=by
 unfold Zf7;rw[hm];dsimp only;rw[hit];dsimp only;rw[if_neg (by rw[h4];decide),if_pos h4,hl];dsimp only;rw[hq]
structure Sm(I:InC):Prop where
 cn:∀x,x<I.rg.n->(I.mc 0).pc.cn x I.rg.N<=100000
 P0:I.P0.length=I.P
theorem At.small(hO:I.Ok)(hS:Sm I)(h:At I pos s)(hx:x<I.rg.n)(hm:s.mss[x]?=some m):Zk9 m=true/\s.cnt<1000000000000/\∀(y:Nat) (l:LS),s.lss[y]?=some l->l.s<1000000000:=by
 have hM:=h.m x m hm;obtain⟨h1,h2,h3⟩:=ZnZ hO hS.P0 (pos x) x hx;rw[<-hM.cr] at h2 h3;have hcb:∀y,y<I.rg.n->(I.mc 0).pc.cn y (pos y)<=100000:=fun y hy=>YaH (ZjF y (h.inv.le y hy)) (hS.cn y hy)
 have hn8:I.rg.n<=8:=(InC.pc_ok hO).m2;have hcx:=hcb x hx;have hd:pos x/(I.mc 0).pc.sl<=12:=by
  have h4:=h.inv.le x hx;have h5:pos x/(I.mc 0).pc.sl<=I.c.st.toNat:=Nat.div_le_of_le_mul (by rw[Nat.mul_comm];exact h4);have:=hO.st;omega
 refine⟨?_,?_,fun y l hy=>?_⟩
 ·unfold Zk9;simp only[YaQ,decide_eq_true_eq];have h6:m.opn.length<=(I.mc 0).pc.cn x (pos x):=h2;have h7:m.rcd.length<=1+pos x/(I.mc 0).pc.sl:=h3;exact⟨⟨by rw[hM.cnt];omega,by omega⟩,by omega⟩
 ·rw[h.cnt];have h6:=ZrB (fun y=>(I.mc 0).pc.cn y (pos y)) 100000 I.rg.n hcb;have h7:I.rg.n*100000<=8*100000:=YaW _ hn8;omega
 ·have hyn:y<I.rg.n:=by rw[<-h.ll];exact ZbH hy
  have:=(h.l y l hy).2.2;have:=hcb y hyn;omega
end
theorem ZjO(S:Nat->Prop)(b cp s r:Nat)(q:List (Zfh×List Int))(t1 t2 t3 t4 t5:Int)(Am:Option Addr)(nm cm:Nat)(w:World)(h:ZaP S w b cp s r q)(hfull:cp<=s-r) :
  Calls prog 130 #[.pointer (some ⟨b,0,none⟩),.agg #[.int .i64 t1,.int .i64 t2,.int .i64 t3,.int .i64 t4,.int .i64 t5,.slice Am nm cm]] w fun e w'=>e=.returned (.int .i64 11)/\Bz0 w w':=by
 obtain⟨A,n,c,pk,ms,h⟩:=h;have hrs:=h.rs;have hs9:=h.s9;have hroom:=h.room;have HI:=hid h;have HLN:=hid (fun W (k:Blk W b 243 (Zf4 A n c cp s r pk))=>Zc0 A n c cp s r pk b W k hrs (by omega));have HA:Hid (∀W,w.alloc (.cells #[.int .i64 t1,.int .i64 t2,.int .i64 t3,.int .i64 t4,.int .i64 t5,.slice Am nm cm] 259)=W->Below w.heap.size w W):=hid (by
  rintro W rfl;exact bA0 _)
 have e0:(((s-r:Nat):Int)==(cp:Int))=true:=by simp;omega
 clear h
 go_enter func130,ntmps130
 go_wp2_with fail;obtain⟨w1,hw1⟩:∃w1,w.alloc (.cells #[.int .i64 t1,.int .i64 t2,.int .i64 t3,.int .i64 t4,.int .i64 t5,.slice Am nm cm] 259)=w1:=⟨_,rfl⟩;have hB1:=HA.out _ hw1;rw[hw1];have HB1:=hid hB1;have hL1:=HI.out.blk.kept hB1;have HL1:=hid hL1;have c1:w1.cell? ⟨b,1,none⟩=some (.int .i64 cp):=hL1.cell 1;have lb1:=hL1.lt;clear hw1 HA hB1 hL1;go_wp2_with fail;refine Zad (Zag w1) [0,2,3,4,5] [1] [6] (by kernel_rfl) (by kernel_rfl) (Zag.start w1) ?_;simp only[YaO,YaP,YaB,YaC];refine Zaa (.pointer (some ⟨b,0,none⟩)) rfl (fun W hW=>?_) ?_
 ·obtain⟨hc,-,-⟩:=hW;go_simp
 go_simp;refine Zaa (.pointer (some ⟨b,0,none⟩)) rfl (fun W hW=>?_) ?_
 ·obtain⟨hc,-,-⟩:=hW;go_simp
 go_simp;refine Zaa (.pointer (some ⟨b,0,none⟩)) rfl (fun W hW=>?_) ?_
 ·obtain⟨hc,-,-⟩:=hW;go_simp
 go_simp;refine Zaa (.pointer (some ⟨b,1,none⟩)) rfl (fun W hW=>?_) ?_
 ·obtain⟨hc,-,-⟩:=hW;go_simp
 go_simp;refine Zaa (.int .i64 cp) rfl (fun W hW=>?_) ?_
 ·obtain⟨hc,-,-⟩:=hW;go_simp
 go_simp;change Zah _ _ _ _ _ (_::[]) _ _;unfold Zah;go_wp2_with fail;((with_reducible refine(HLN.out _ HL1.out.drew).mono ?_);rintro e w2 ⟨rfl,mm,hw2⟩);have hk2:Zag w1 w2:=by rw[hw2];exact(Zag.start w1).drewN mm
 clear hw2;go_wp2_with fail;refine⟨hk2,?_⟩;unfold Zah;change wpList _ _ _ (_::[]) _ _;go_wp2_with fail;refine NoPanic.normal ?_;have HB2:=hid (bT0 HB1.out hk2.2.2);clear HB1 HL1 c1 lb1 hk2;go_wp2_with fail;go_ret;exact⟨rfl,HB2.out⟩
theorem ZjP(A:Option Addr)(n c cp s r:Nat)(pk:Int)(b:Nat)(w:World)(h:Blk w b 243 (Zf4 A n c cp s r pk))(hr:r=s)(hs:s<=1000000000000) :
  Calls prog 279 #[.pointer (some ⟨b,0,none⟩)] w fun e w'=>e=.returned (.tuple #[.agg #[.int .i64 0,.int .i64 0,.int .i64 0,.int .i64 0,.int .i64 0],.bool false])/\Bz0 w w':=by
 have e0:(((s-r:Nat):Int)==0)=true:=by simp;omega
 have HLN:=hid (fun W (k:Zag w W)=>Zc0 A n c cp s r pk b W (h.kept k.2.2) (by omega) hs);have HA:Hid (Zag w (w.alloc (.cells #[.int .i64 0,.int .i64 0,.int .i64 0,.int .i64 0,.int .i64 0] 216))):=hid ((Zag.of (bR0 _ w)).alloc _);clear h hr
 go_enter func279,ntmps279
 go_wp2_with fail;((with_reducible refine(HLN.out _ HA.out).mono ?_);rintro e w1 ⟨rfl,mm,hw1⟩);have hk1:Zag w w1:=by rw[hw1];exact HA.out.drewN mm
 have hb1:Blk w1 w.heap.size 216 #[.int .i64 0,.int .i64 0,.int .i64 0,.int .i64 0,.int .i64 0]:=by rw[hw1];exact(Blk.new w _ _).drewN mm
 have HK1:=hid hk1;clear hw1 hk1;have d0:=hb1.cell 0;have d1:=hb1.cell 1;have d2:=hb1.cell 2;have d3:=hb1.cell 3;have d4:=hb1.cell 4;have f0:=hb1.frozen 0;have f1:=hb1.frozen 1;have f2:=hb1.frozen 2;have f3:=hb1.frozen 3;have f4:=hb1.frozen 4;have lb:=hb1.lt;clear hb1;go_wp2_with fail;refine bodyPost_ret (v:=.tuple #[.agg #[.int .i64 0,.int .i64 0,.int .i64 0,.int .i64 0,.int .i64 0],.bool false]) (by simp[results,results279,go_sem,d0,d1,d2,d3,d4,lb]) rfl ⟨rfl,?_⟩
 repeat (first|(refine Below.setCell (B:=w.heap.size) (p:=⟨w.heap.size,_,none⟩) ?_ (show w.heap.size<=w.heap.size from YaF _) _)|(refine Below.drew ?_))
 exact HK1.out.2.2
theorem ZhV(S:Nat->Prop)(b cp s r:Nat)(t1 t2 t3 t4 t5:Int)(w:World)(h:ZaP S w b cp s r []) :
  Calls prog 265 #[.pointer (some ⟨b,0,none⟩),.agg #[.int .i64 t1,.int .i64 t2,.int .i64 t3,.int .i64 t4,.int .i64 t5]] w fun e w'=>e=.returned (.tuple #[.agg #[.int .i64 0,.int .i64 0,.int .i64 0,.int .i64 0,.int .i64 0,.slice none 0 0],.int .i64 12])/\Bz0 w w':=by
 obtain⟨A,n,c,pk,ms,h⟩:=h;have hrs:r=s:=by have h1:=h.ql;have h2:=h.rs;simp at h1;omega
 have hs9:=h.s9;have HPK:=hid (fun W (k:Below w.heap.size w W)=>ZjP A n c cp s r pk b W (h.blk.kept k) hrs (by omega));obtain⟨w0,hw0⟩:∃w0,(w.alloc (.cells #[.int .i64 t1,.int .i64 t2,.int .i64 t3,.int .i64 t4,.int .i64 t5] 216)).alloc (.cells #[.int .i64 0,.int .i64 0,.int .i64 0,.int .i64 0,.int .i64 0,.slice none 0 0] 259)=w0:=⟨_,rfl⟩;have HW0:=hid hw0;have HB0:Hid (Below w.heap.size w w0):=hid (by rw[<-hw0];exact(bA0 _).alloc (by simp) _);have HM0:Hid (Blk w0 (w.heap.size+1) 259 #[.int .i64 0,.int .i64 0,.int .i64 0,.int .i64 0,.int .i64 0,.slice none 0 0]):=hid (by rw[<-hw0];exact Blk.new' _ _ (by simp));clear h hw0
 go_enter func265,ntmps265
 go_wp2_with fail;rw[HW0.out];((with_reducible refine(HPK.out w0 HB0.out).mono ?_);rintro e w1 ⟨rfl,hb1⟩);have HB1:=hid (bT0 HB0.out hb1);have HM1:=hid (HM0.out.kept hb1);clear hb1;have m0:=HM1.out.cell 0;have m1:=HM1.out.cell 1;have m2:=HM1.out.cell 2;have m3:=HM1.out.cell 3;have m4:=HM1.out.cell 4;have m5:=HM1.out.cell 5;have z0:=HM1.out.frozen 0;have z1:=HM1.out.frozen 1;have z2:=HM1.out.frozen 2;have z3:=HM1.out.frozen 3;have z4:=HM1.out.frozen 4;have z5:=HM1.out.frozen 5;have lm:=HM1.out.lt;go_wp2_with fail;clear m0 m1 m2 m3 m4 m5 z0 z1 z2 z3 z4 z5 lm;obtain⟨w2,hw2,hg2,hk2⟩:=Zxs HM1.out (.int .i64 0) (.int .i64 0) (.int .i64 0) (.int .i64 0) (.int .i64 0) (.slice none 0 0);rw[<-hw2];clear hw2;have hb2:=Zai HB1.out HB1.out.size hg2 (show w.heap.size<=w.heap.size+1 by omega);have hb3:Below w.heap.size w (w2.alloc (.cells #[.int .i64 0,.int .i64 0,.int .i64 0,.int .i64 0,.int .i64 0] 216)):=hb2.alloc hb2.size _;have hm3:=hk2.alloc (.cells #[.int .i64 0,.int .i64 0,.int .i64 0,.int .i64 0,.int .i64 0] 216);generalize w2.alloc (.cells #[.int .i64 0,.int .i64 0,.int .i64 0,.int .i64 0,.int .i64 0] 216)=w3 at hb3 hm3 ⊢;have n0:=hm3.cell 0;have n1:=hm3.cell 1;have n2:=hm3.cell 2;have n3:=hm3.cell 3;have n4:=hm3.cell 4;have n5:=hm3.cell 5;have ln:=hm3.lt;exact bodyPost_ret (v:=.tuple #[.agg #[.int .i64 0,.int .i64 0,.int .i64 0,.int .i64 0,.int .i64 0,.slice none 0 0],.int .i64 12]) (by simp[results,results265,go_sem,n0,n1,n2,n3,n4,n5,ln]) rfl ⟨rfl,hb3⟩
theorem Zfz(S T:Nat->Prop)(mb:Nat)(K:MC)(s:MS)(k1 t u:Int)(sd ad:Bool)(j1 j2 j3 j4 j5 e e2:Int)(pr:Option Addr)(lb cp sn rc:Nat)(w:World)(hL:ZaP T w lb cp sn rc []) :
  Calls prog 234 #[.pointer (some ⟨mb,0,none⟩),(.agg (Zea k1 t u sd ad j1 j2 j3 j4 j5 e e2)),.agg #[.pointer (some ⟨lb,0,none⟩),.pointer pr]] w fun en w'=>en=.returned (.int .i64 12)/\Bz0 w w':=by
 have HL:=hid hL;clear hL
 go_enter func234,ntmps234
 go_wp2_with fail;obtain⟨w1,hw1⟩:∃w1,((w.alloc (.cells (Zea k1 t u sd ad j1 j2 j3 j4 j5 e e2) 222)).alloc (.cells #[.pointer (some ⟨lb,0,none⟩),.pointer pr] 341)).alloc (.cells #[.bool sd,.bool ad,.int .i64 j1,.int .i64 j2,.int .i64 j3,.int .i64 j4,.int .i64 j5,.int .i64 e,.int .i64 e2] 220)=w1:=⟨_,rfl⟩;have hb1:Below w.heap.size w w1:=by rw[<-hw1];exact((bA0 _).alloc (by simp) _).alloc (by simp;omega) _
 rw[hw1];have HB1:=hid hb1;have HL1:=hid (HL.out.step hb1.size (fun i hi _=>hb1.block i hi));clear hw1 hb1;((with_reducible refine(ZhV T lb cp sn rc j1 j2 j3 j4 j5 w1 HL1.out).mono ?_);rintro en w2 ⟨rfl,hb2⟩);have HB2:=hid (bT0 HB1.out hb2);clear hb2;go_wp2_with fail;go_ret;exact⟨rfl,HB2.out.alloc HB2.out.size _⟩
theorem Zpc(S:Nat->Prop)(mb:Nat)(K:MC)(s:MS)(pl pr:Option Addr)(w:World)(h:Zaz S w mb K s)(hx:s.its[s.nx]?=none) :
  Calls prog 128 #[.pointer (some ⟨mb,0,none⟩),.pointer pl,.pointer pr] w fun e w'=>e=.returned (.int .i64 13)/\Bz0 w w':=by
 obtain⟨F,a,hM,-,-⟩:=h;have HNX:=hid (Ze3 F mb K s a w hM (List.getElem?_eq_none_iff.1 hx));clear hM hx
 go_enter func128,ntmps128
 go_wp2_with fail;((with_reducible refine HNX.out.mono ?_);rintro e w1 ⟨rfl,hb1⟩);have HB1:=hid hb1;clear hb1;go_wp2_with fail;go_ret;exact⟨rfl,HB1.out.alloc HB1.out.size _⟩
theorem Zg5(S T:Nat->Prop)(mb:Nat)(K:MC)(s:MS)(x:ZaH)(li lo:Nat)(w:World)(hK:K.Ok)(h:Zaz S w mb K s)(hx:s.its[s.nx]?=some x)(hi:ZfT K x)(hc:s.cnt<1000000000000)
  (hf:(x.1.1=3/\∃cp sn rc q,ZaP T w lo cp sn rc q/\cp<=sn-rc)\/(x.1.1=4/\∃cp sn rc,ZaP T w li cp sn rc [])) :
  Calls prog 128 #[.pointer (some ⟨mb,0,none⟩),.pointer (some ⟨li,0,none⟩),.pointer (some ⟨lo,0,none⟩)] w fun e w'=>∃code,e=.returned (.int .i64 code)/\code≠0/\Bz0 w w':=by
 obtain⟨⟨k1,t,u⟩,⟨⟨sd,ad⟩,⟨j1,j2,j3,j4,j5⟩,⟨j6,j7⟩⟩⟩:=x
 rcases hf with⟨hk,cp,sn,rc,q,hL,hfull⟩|⟨hk,cp,sn,rc,hL⟩
 ·have hk':k1=3:=hk;subst hk';obtain⟨e,e2,h6,h7,h8,h9⟩:=hi.act (.inl rfl);have h6':j6=(e:Int):=h6;have h7':j7=(e2:Int):=h7;subst h6' h7';refine(Zfw 11 S S (fun _=>True) mb K s s 233 3 t u sd ad j1 j2 j3 j4 j5 e e2 (some ⟨li,0,none⟩) (some ⟨lo,0,none⟩) w hK h hx (fun W=>rfl) (fun _ _=>rfl) (fun W hb=>?_) rfl rfl rfl hc hi.t).mono ?_
  ·refine(ZfS 11 (fun w'=>Below W.heap.size W w') S mb K s 3 t u sd ad j1 j2 j3 j4 j5 e e2 (e2-e) (some ⟨li,0,none⟩) lo W hK (h.step hb.size (fun i hi _=>hb.block i hi)) (by omega) h9 (fun Aw cw W2 hW2 hrd=>?_)).mono ?_
   ·refine(ZjO T lo cp sn rc q j1 j2 j3 j4 j5 Aw (e2-e) cw W2 ((hL.step hb.size (fun i hi _=>hb.block i hi)).step hW2.size (fun i hi _=>hW2.block i hi)) hfull).mono ?_;rintro en w2 ⟨rfl,hb2⟩;exact⟨rfl,bT0 hW2 hb2⟩
   ·rintro en w2 ⟨rfl,hb2⟩;exact⟨rfl,.inl ⟨by decide,hb2⟩⟩
  ·rintro en w2 ⟨rfl,hh|hh⟩
   ·exact⟨11,rfl,hh⟩
   ·exact absurd hh.1 (by decide)
 ·have hk':k1=4:=hk;subst hk';refine(Zfw 12 S S (fun _=>True) mb K s s 234 4 t u sd ad j1 j2 j3 j4 j5 j6 j7 (some ⟨li,0,none⟩) (some ⟨lo,0,none⟩) w hK h hx (fun W=>rfl) (fun _ _=>rfl) (fun W hb=>?_) rfl rfl rfl hc hi.t).mono ?_
  ·refine(Zfz S T mb K s 4 t u sd ad j1 j2 j3 j4 j5 j6 j7 (some ⟨lo,0,none⟩) li cp sn rc W (hL.step hb.size (fun i hi _=>hb.block i hi))).mono ?_;rintro en w2 ⟨rfl,hb2⟩;exact⟨rfl,.inl ⟨by decide,hb2⟩⟩
  ·rintro en w2 ⟨rfl,hh|hh⟩
   ·exact⟨12,rfl,hh⟩
   ·exact absurd hh.1 (by decide)
section
variable{own:Nat→Nat}{w:World}{xb:Nat}{I:InC}{mbs lbs:List Nat}{mss:List MS}{lss:List LS}{AW:Option Addr}{cW:Nat}{AL:Option Addr}{cL cnt:Nat}
theorem ZhW(h:Zar own w xb I mbs lbs mss lss AW cW AL cL cnt)(n x b li lo:Nat)(hn:mbs.length=n)(hl:lbs.length=n)(hx:x<n)(hn64:n<=64)(hb:mbs[x]?=some b)(hi:lbs[(x+n-1)%n]?=some li)(ho:lbs[x]?=some lo)
  (hdo:∀W,Below w.heap.size w W->Calls prog 128 #[.pointer (some ⟨b,0,none⟩),.pointer (some ⟨li,0,none⟩),.pointer (some ⟨lo,0,none⟩)] W fun e w'=>∃code,e=.returned (.int .i64 code)/\code≠0/\Bz0 W w') :
  Calls prog 71 #[.pointer (some ⟨xb,0,none⟩),.int .i64 x] w fun e w'=>e=.returned (.bool false)/\Bz0 w w':=by
 have HAT:=hid (Zer h n x b li lo hn hl hx hn64 hb hi ho);have HDO:=hid hdo;have hme:=ZnQ b;clear h hdo hb hi ho
 go_enter func71,ntmps71
 go_wp2_with fail;((with_reducible refine HAT.out.mono ?_);rintro e w1 ⟨rfl,hb1⟩);have HB1:=hid hb1;clear hb1;go_wp2_with fail;((with_reducible refine(HDO.out w1 HB1.out).mono ?_);rintro e w2 ⟨code,rfl,hne,hb2⟩);have HB2:=hid (bT0 HB1.out hb2);have ec:(code==0)=false:=by simpa using hne
 clear hb2 hme;go_wp2_with fail;go_ret;exact⟨rfl,HB2.out⟩
theorem ZhX(s:WS)(h:Zar own w xb I mbs lbs s.mss s.lss AW cW AL cL s.cnt)(hO:I.Ok)(n x:Nat)(hn:mbs.length=n)(hl:lbs.length=n)(hx:x<n)(hn64:n<=64)(hxw:(x:Int)<I.c.wk)(hsm:∀m,s.mss[x]?=some m->m.cnt<1000000000000)(hF:Zwq I n x s) :
  Calls prog 71 #[.pointer (some ⟨xb,0,none⟩),.int .i64 x] w fun e w'=>e=.returned (.bool false)/\Bz0 w w':=by
 obtain⟨b,hb⟩:∃b,mbs[x]?=some b:=⟨_,YaA (by omega)⟩;obtain⟨li,hli⟩:∃b,lbs[(x+n-1)%n]?=some b:=⟨_,YaA (by rw[hl];exact Nat.mod_lt _ (by omega))⟩;obtain⟨lo,hlo⟩:∃b,lbs[x]?=some b:=⟨_,YaA (by omega)⟩;refine ZhW h n x b li lo hn hl hx hn64 hb hli hlo (fun W hW=>?_);have hWW:=h.below (own':=own) hW (fun _ _=>rfl);obtain⟨m,hm,hF⟩:=hF;have hmA:=hWW.parts.mach x b m hb hm
 rcases hF with hF|⟨it,hit,hB,hF⟩
 ·refine(Zpc _ b (I.mc x) m _ _ W hmA hF).mono ?_;rintro e w' ⟨rfl,hb'⟩;exact⟨13,rfl,by decide,hb'⟩
 ·rcases hF with⟨hk,l,hl',hr⟩|⟨hk,l,hl',hq⟩
  ·exact Zg5 _ _ b (I.mc x) m it li lo W (hO.mc hxw) hmA hit (Ze8 hB) (hsm m hm) (.inl ⟨hk,_,_,_,_,hWW.parts.link x lo l hlo hl',hr⟩)
  ·have hL:=hWW.parts.link _ li l hli hl';rw[hq] at hL;exact Zg5 _ _ b (I.mc x) m it li lo W (hO.mc hxw) hmA hit (Ze8 hB) (hsm m hm) (.inr ⟨hk,_,_,_,hL⟩)
end
section
variable{I:InC}{pos:Nat→Nat}{s:WS}{x p':Nat}{m:MS}
theorem ZtD(hO:I.Ok)(h:At I pos s)(hx:x<I.rg.n)(hm:s.mss[x]?=some m)(hp:pos x<I.rg.N)(h1:I.rg.kd x (pos x)=1){it:ZaH}(hi:(I.mc 0).pc.itN x (pos x)=some it)(ht:it.1.2.1=((pos x/(I.mc 0).pc.sl:Nat):Int))(hn:I.rg.Nx x (pos x) p') :
  At I (Rg.upd pos x p') ⟨s.mss.set x (ZaS (I.mc x) (Za1 (I.mc x) m it) it.1.2.1),s.lss,s.cnt+1⟩:=by
 have h0:I.rg.kd x (pos x)≠0:=by rw[h1];decide
 have hM:=h.m x m hm;obtain⟨w1,w2,w3,w4⟩:=Zvg (I.mc x) m it;refine h.turn hO hx h0 hn (fun e=>by rw[h1] at e;cases e) ?_ h.ll (fun y l hy=>h.links hO hx h0 hn hy (fun _ e=>by rw[h1] at e;cases e) (fun _ e=>by rw[h1] at e;cases e));rw[ht];refine hM.next (InC.pc_ok hO) hx hp h0 hn w2 w3 w4 ?_;rw[Rg.sy_loc hn h1,w1,hM.cr]
 show _=(match (I.mc 0).pc.itN x (pos x) with|some it=>_|none=>_)
 rw[hi]
theorem Zvm(hO:I.Ok)(h:At I pos s)(hx:x<I.rg.n)(hm:s.mss[x]?=some m)(hp:pos x<I.rg.N)(h1:I.rg.kd x (pos x)=2){it:ZaH}(hi:(I.mc 0).pc.itN x (pos x)=some it)(ht:it.1.2.1=((pos x/(I.mc 0).pc.sl:Nat):Int))(hn:I.rg.Nx x (pos x) p'){l:LS}(hl:s.lss[x]?=some l) :
  At I (Rg.upd pos x p') ⟨s.mss.set x (ZaS (I.mc x) m it.1.2.1),s.lss.set x ⟨l.s+1,l.r,l.q++[(it.2.2.1,pcL m.G it.2.2.2.1.toNat (it.2.2.2.2-it.2.2.2.1).toNat)]⟩,s.cnt+1⟩:=by
 have h0:I.rg.kd x (pos x)≠0:=by rw[h1];decide
 have hM:=h.m x m hm;have hR:=Zd1 (InC.pc_ok hO);refine h.turn hO hx h0 hn (fun e=>by rw[h1] at e;cases e) ?_ (by rw[List.length_set];exact h.ll) (fun y l' hy=>?_)
 ·rw[ht];refine hM.next (InC.pc_ok hO) hx hp h0 hn rfl rfl rfl ?_;rw[Rg.sy_send hn h1];exact hM.cr
 ·by_cases e:y=x
  ·subst e;rw[List.getElem?_set_self (by rw[h.ll];exact hx)] at hy;injection hy with hy
   subst hy;obtain⟨a,b,c⟩:=h.l y l hl;refine⟨?_,by dsimp only;rw[YaS,List.length_singleton];omega,by dsimp only;rw[Rg.upd_same,ZjN h0 hn];omega⟩;rw[Rg.sn_send hR h.inv hx hn h1];dsimp only;unfold Rg.ms at a ⊢;rw[List.map_append,<-a,List.map_cons,List.map_nil]
   congr 2
   have hg:m.G=(I.rg.sy (pos y) y).G:=by rw[<-hM.cr];rfl
   show _=(match (I.mc 0).pc.itN y (pos y) with|some it=>Zwn it _|none=>_)
   rw[hi,hg];rfl
  ·rw[List.getElem?_set_ne (fun e1=>e e1.symm)] at hy;exact h.links hO hx h0 hn hy (fun e1=>absurd e1 e) (fun _ e1=>by rw[h1] at e1;cases e1)
theorem Zvn(hO:I.Ok)(h:At I pos s)(hx:x<I.rg.n)(hm:s.mss[x]?=some m)(hp:pos x<I.rg.N)(h1:I.rg.kd x (pos x)=3){it:ZaH}(hi:(I.mc 0).pc.itN x (pos x)=some it)(ht:it.1.2.1=((pos x/(I.mc 0).pc.sl:Nat):Int))(hn:I.rg.Nx x (pos x) p'){l:LS}(hl:s.lss[I.rg.pv x]?=some l)(hs:pos x-1<pos (I.rg.pv x)) :
  ∃q,l.q=I.rg.msg (I.rg.pv x) (pos x-1) (I.rg.sy (pos x-1) (I.rg.pv x))::q /\
  At I (Rg.upd pos x p') ⟨s.mss.set x (ZaS (I.mc x) { m with G:=ZdF it.2.1.2 m.G it.2.2.2.1.toNat (it.2.2.2.2-it.2.2.2.1).toNat (I.rg.msg (I.rg.pv x) (pos x-1) (I.rg.sy (pos x-1) (I.rg.pv x))).2 } it.1.2.1),s.lss.set (I.rg.pv x) ⟨l.s,l.r+1,q⟩,s.cnt+1⟩:=by
 have h0:I.rg.kd x (pos x)≠0:=by rw[h1];decide
 have hM:=h.m x m hm;have hR:=Zd1 (InC.pc_ok hO);have hpv:=Rg.pv_lt hR x;have hsn:=Rg.sn_recv hR hx hn h1 hs;obtain⟨a,b,c⟩:=h.l _ l hl;rw[Rg.sc_pv hR hx,hsn] at a;unfold Rg.ms at a;rw[List.map_cons] at a;refine⟨_,a,?_⟩;refine h.turn hO hx h0 hn (fun _=>hs) ?_ (by rw[List.length_set];exact h.ll) (fun y l' hy=>?_)
 ·rw[ht];refine hM.next (InC.pc_ok hO) hx hp h0 hn rfl rfl rfl ?_;rw[Rg.sy_recv hR hx hn h1]
  show _=(match (I.mc 0).pc.itN x (pos x) with|some it=>_|none=>_)
  rw[hi,<-hM.cr];rfl
 ·by_cases e:y=I.rg.pv x
  ·subst e;rw[List.getElem?_set_self (by rw[h.ll];exact hpv)] at hy;injection hy with hy
   subst hy;have hne:I.rg.pv x≠x:=by
    intro e1;have h2:I.rg.kd (I.rg.pv x) (pos x-1)=2:=by
     obtain⟨k,j,b',y,hp1,_,_,_,_,_,hi2⟩:=Zfb hO hx h1;refine(hR.pair _ _ hpv).2 ?_;rw[Rg.sc_pv hR hx,Nat.sub_add_cancel hp1];exact h1
    exact Rg.sc_ne hR hx (Rg.two hR h2) (by have:=Rg.sc_pv hR hx;rwa [e1] at this)
   refine⟨by rw[Rg.sc_pv hR hx];rfl,?_,?_⟩
   ·dsimp only;rw[a] at b;rw[List.length_cons] at b;omega
   ·dsimp only;rw[Rg.upd_ne _ _ hne];exact c
  ·rw[List.getElem?_set_ne (fun e1=>e e1.symm)] at hy;have hyn:y<I.rg.n:=by rw[<-h.ll];exact ZbH hy
   exact h.links hO hx h0 hn hy (fun _ e1=>by rw[h1] at e1;cases e1) (fun e1=>absurd (by rw[<-e1,Rg.pv_sc hR hyn]) e)
end
