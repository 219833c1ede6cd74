/- Lemmas. -/
import Derived.Test.YtkmaeipoaoikpaaGreatShelf
import Derived.Deep.OwnRows
import Derived.Laws.CopyOwn
import Derived.Test.YtkmaeipoaoikpaaGreatEC03
namespace Go.Proofs.YtkmaeipoaoikpaaGreat
set_option linter.all false
set_option maxRecDepth 100000
set_option maxHeartbeats 2000000
open Lib (hid)
open Go.RowKit
open Tryz
def pHi(a b:Int):Int:=a*b/18446744073709551616
def pLo(a b:Int):Int:=a*b%18446744073709551616
def shV(h l:Int)(q:Nat):Int:=wrap64 ((h*18446744073709551616+l)/2 ^ q)
def ZvJ(a b:Int)(q:Nat):Int:=wrap64 (a*b/2 ^ q)
theorem Zki(q:Nat)(h:q<=64):(2:Int) ^ q*2 ^ (64-q)=18446744073709551616:=by
 rw[<-Int.pow_add,show q+(64-q)=64 by omega];rfl
theorem ZdN(q:Nat):(0:Int)<2 ^ q:=Int.pow_pos (by omega)
theorem Zic(x:Int):wrap64 (x%18446744073709551616)=wrap64 x:=by unfold wrap64;omega
theorem Zhv(x k:Int):wrap64 (x+k*18446744073709551616)=wrap64 x:=by unfold wrap64;omega
theorem Za6(x:Int)(h1:-9223372036854775808<=x)(h2:x<=9223372036854775807):wrap64 x=x:=by unfold wrap64;omega
theorem wu(x:Int):IntKind.u64.wrap x=x%18446744073709551616:=IntKind.wrap_u64 x
theorem Znp(a b:Int)(k:Nat)(hk:k<=64)(ha0:0<=a)(ha:a<18446744073709551616)(hb0:0<=b)(hb:b<2 ^ k)(hd:a%2 ^ k=0):bits .or .u64 a b=a+b:=by
 obtain⟨x,rfl⟩:=YaM ha0;obtain⟨y,rfl⟩:=YaM hb0;have hy:y<2 ^ k:=by
  have:((2 ^ k:Nat):Int)=(2:Int) ^ k:=by simp
  omega
 have h64:2 ^ k<=2 ^ 64:=Nat.pow_le_pow_right (by omega) hk;rw[u64_or_nat x y (by omega) (by omega)];have hx:x%2 ^ k=0:=by
  have:((x%2 ^ k:Nat):Int)=0:=by simpa using hd
  omega
 have e:x=2 ^ k*(x/2 ^ k):=by have:=Nat.div_add_mod x (2 ^ k);omega
 rw[e,<-Nat.two_pow_add_eq_or_of_lt hy];simp
theorem Zuv(a b:Int)(k:Nat)(hk:k<=64)(ha0:0<=a)(ha:a<18446744073709551616)(hb0:0<=b)(hb:b<2 ^ k)(hd:a%2 ^ k=0):bits .or .u64 b a=a+b:=by
 rw[<-Znp a b k hk ha0 ha hb0 hb hd];obtain⟨x,rfl⟩:=YaM ha0;obtain⟨y,rfl⟩:=YaM hb0;have hy:y<2 ^ k:=by
  have:((2 ^ k:Nat):Int)=(2:Int) ^ k:=by simp
  omega
 have h64:2 ^ k<=2 ^ 64:=Nat.pow_le_pow_right (by omega) hk;rw[u64_or_nat x y (by omega) (by omega),u64_or_nat y x (by omega) (by omega),Nat.or_comm]
theorem Zhw(h:Int)(n k:Int)(hk:0<k):(h*k)%(n*k)=(h%n)*k:=by
 rw[Int.mul_comm h k,Int.mul_comm n k,Int.mul_emod_mul_of_pos _ _ hk,Int.mul_comm]
theorem Zcy(h k m:Int):(h%m*k)%m=(h*k)%m:=by
 rw[Int.mul_emod (h%m) k,Int.emod_emod,<-Int.mul_emod]
theorem Zsw(h l:Int)(q:Nat)(hq:q<=63)(hl0:0<=l)(hl:l<18446744073709551616) :
  wrap64 (bits .or .u64 (IntKind.u64.wrap (IntKind.u64.wrap h*2 ^ (64-q))) (l/2 ^ q))=shV h l q:=by
 have hM:=Zki q (by omega);have hN:=ZdN q;have hK:=ZdN (64-q);rw[wu,wu,Zcy];unfold shV;generalize hNe:(2:Int) ^ q=N at *;have e1:h*2 ^ (64-q)%18446744073709551616=(h%N)*2 ^ (64-q):=by rw[<-hM,Zhw _ _ _ hK]
 have hd:(h%N)*2 ^ (64-q)%2 ^ (64-q)=0:=by rw[Int.mul_emod_left]
 have hb:l/N<2 ^ (64-q):=Int.ediv_lt_of_lt_mul hN (by rw[Int.mul_comm,hM];exact hl);have hb0:0<=l/N:=Int.ediv_nonneg hl0 (by omega);have ha:=Int.emod_lt_of_pos (h*2 ^ (64-q)) (show (0:Int)<18446744073709551616 by omega);have ha0:=Int.emod_nonneg (h*2 ^ (64-q)) (show (18446744073709551616:Int)≠0 by omega);rw[e1] at ha ha0;rw[e1,Znp _ _ (64-q) (by omega) ha0 ha hb0 hb hd];generalize hKe:(2:Int) ^ (64-q)=K at *;have e2:(h*18446744073709551616+l)/N=h*K+l/N:=by
  rw[<-hM,show h*(N*K)=N*(h*K) by rw[Int.mul_left_comm],Int.mul_add_ediv_left _ _ (by omega)]
 have e3:h*K=(h%N)*K+(h/N)*18446744073709551616:=by
  have:=Int.emod_add_mul_ediv h N
  calc h*K=(h%N+N*(h/N))*K:=by rw[this]
   _=(h%N)*K+(h/N)*18446744073709551616:=by rw[Int.add_mul,<-hM,Int.mul_right_comm,Int.mul_comm (N*K)]
 rw[e2,e3,show (h%N)*K+(h/N)*18446744073709551616+l/N=(h%N)*K+l/N+(h/N)*18446744073709551616 by omega,Zhv]
theorem ZeI(x:Int)(k:Nat):x/2 ^ (k+1)=x/2 ^ k/2:=by
 have h:=@Int.ediv_ediv x (2 ^ k) 2;rw[if_neg (by have:=ZdN k;omega)] at h;rw[h,Int.pow_succ,Int.sub_zero]
theorem Zoj(hh ll V:Int)(h1:hh=V/18446744073709551616)(h2:ll=V%18446744073709551616) :
  hh/2=V/2/18446744073709551616/\bits .or .u64 (ll/2) (IntKind.u64.wrap (IntKind.u64.wrap hh*9223372036854775808))=V/2%18446744073709551616:=by
 refine⟨by omega,?_⟩;rw[wu,wu,Zcy,Zuv _ _ 63 (by omega) (by omega) (by omega) (by omega) (by omega) (by omega)];omega
theorem Zid(a b:Int)(ha:-9223372036854775808<=a/\a<=9223372036854775807)(hb:-9223372036854775808<=b/\b<=9223372036854775807) :
  -85070591730234615865843651857942052864<=a*b/\a*b<=85070591730234615865843651857942052864:=by
 have h:(a*b).natAbs<=9223372036854775808*9223372036854775808:=by
  rw[Int.natAbs_mul];exact Nat.mul_le_mul (by omega) (by omega)
 omega
theorem ZpP(a b:Int)(ha:-9223372036854775808<=a/\a<=9223372036854775807)(hb:-9223372036854775808<=b/\b<=9223372036854775807):-9223372036854775808<=pHi a b/\pHi a b<=9223372036854775807:=by
 have:=Zid a b ha hb;unfold pHi;omega
theorem Zkj(a b:Int):0<=pLo a b/\pLo a b<18446744073709551616:=by unfold pLo;omega
theorem Zuw(a b:Int):pHi a b*18446744073709551616+pLo a b=a*b:=by unfold pHi pLo;omega
theorem Zux(a b:Int):IntKind.u64.wrap a*IntKind.u64.wrap b%18446744073709551616=pLo a b:=by
 rw[wu,wu,<-Int.mul_emod];rfl
theorem Zuy(a b:Int)(ha:-9223372036854775808<=a/\a<=9223372036854775807)(hb:-9223372036854775808<=b/\b<=9223372036854775807) :
  wrap64 (wrap64 (wrap64 (IntKind.u64.wrap a*IntKind.u64.wrap b/18446744073709551616)-(if a<0 then b else 0))-(if b<0 then a else 0))=pHi a b:=by
 have hp:=Zid a b ha hb;rw[wu,wu];unfold pHi;have ea:a%18446744073709551616=a+(if a<0 then 1 else 0)*18446744073709551616:=by split<;>omega
 have eb:b%18446744073709551616=b+(if b<0 then 1 else 0)*18446744073709551616:=by split<;>omega
 rw[ea,eb];generalize hP:a*b=P at *;have key:∀x y:Int,(a+x*18446744073709551616)*(b+y*18446744073709551616)=P+(y*a+x*b+x*y*18446744073709551616)*18446744073709551616:=by
  intro x y;rw[<-hP];simp only[Int.add_mul,Int.mul_add,<-Int.mul_assoc];rw[Int.mul_comm a y,Int.mul_right_comm x 18446744073709551616 b,Int.mul_right_comm x 18446744073709551616 y];omega
 rw[key]
 split<;>split<;>(simp only[Int.one_mul,Int.zero_mul,Int.mul_zero,Int.mul_one];unfold wrap64;omega)
def Zuz(a:Int):Int:=if a<0 then 18446744073709551615 else 0
theorem Zw3(a:Int)(k:Nat):IntKind.u64.wrap (IntKind.u64.wrap a*2 ^ k)=a*2 ^ k%18446744073709551616:=by rw[wu,wu,Zcy]
theorem Zsx(k:Nat)(h:k<=64):(2:Int) ^ k<=18446744073709551616:=by
 have h64:2 ^ k<=2 ^ 64:=Nat.pow_le_pow_right (by omega) h;have:((2 ^ k:Nat):Int)=(2:Int) ^ k:=by simp
 omega
theorem Zw4(a:Int)(k:Nat)(hk:k<=63)(ha:-9223372036854775808<=a/\a<=9223372036854775807) :
  bits .or .u64 (IntKind.u64.wrap (Zuz a*2 ^ k)) (IntKind.u64.wrap a/2 ^ (64-k))=a*2 ^ k/18446744073709551616%18446744073709551616:=by
 have hM:=Zki k (by omega);have hN:=ZdN (64-k);have hK:=ZdN k;have hKM:=Zsx k (by omega);rw[wu,wu];generalize hNe:(2:Int) ^ (64-k)=N at *;have e1:a*2 ^ k/18446744073709551616=a/N:=by
  rw[<-hM,Int.mul_comm a,Int.mul_ediv_mul_of_pos _ _ hK]
 rw[e1];unfold Zuz
 by_cases h:a<0
 ·rw[if_pos h];have e2:a%18446744073709551616/N=a/N+2 ^ k:=by
   rw[show a%18446744073709551616=a+2 ^ k*N by rw[hM];omega,Int.add_mul_ediv_right _ _ (by omega)]
  have e3:(18446744073709551615:Int)*2 ^ k%18446744073709551616=18446744073709551616-2 ^ k:=by
   generalize (2:Int) ^ k=K at *;omega
  have hd:(18446744073709551616-(2:Int) ^ k)%2 ^ k=0:=by
   rw[<-hM,show (2:Int) ^ k*N-2 ^ k=2 ^ k*(N-1) by rw[Int.mul_sub,Int.mul_one],Int.mul_emod_right]
  have hq1:-(2 ^ k)<=a/N:=(Int.le_ediv_iff_mul_le hN).2 (by rw[Int.neg_mul,hM];omega);have hq2:a/N<0:=Int.ediv_neg_of_neg_of_pos h hN;rw[e2,e3,Znp _ _ k (by omega) (by omega) (by omega) (by omega) (by omega) hd];generalize (2:Int) ^ k=K at *;generalize a/N=x at *;omega
 ·rw[if_neg h];have e2:a%18446744073709551616=a:=by omega
  have hq1:0<=a/N:=Int.ediv_nonneg (by omega) (by omega);have hq2:a/N<2 ^ k:=Int.ediv_lt_of_lt_mul hN (by rw[hM];omega);rw[e2,Int.zero_mul,Znp _ _ k (by omega) (by omega) (by omega) hq1 hq2 (by simp)];generalize (2:Int) ^ k=K at *;generalize a/N=x at *;omega
theorem ZuA(a:Int)(ha:-9223372036854775808<=a/\a<=9223372036854775807):Zuz a=a*2 ^ 0/18446744073709551616%18446744073709551616:=by
 unfold Zuz;rw[Int.pow_zero,Int.mul_one]
 split<;>omega
theorem ZpQ(x:Int)(h0:0<=x)(h:x<18446744073709551616):bits .xor .u64 (if IntKind.u64.signed=true then -1 else IntKind.u64.max) x=18446744073709551615-x:=by
 obtain⟨n,rfl⟩:=YaM h0;have e:(if IntKind.u64.signed=true then (-1:Int) else IntKind.u64.max)=((18446744073709551615:Nat):Int):=by decide
 rw[e,u64_xor_nat _ n (by omega) (by omega)];have h1:(18446744073709551615 ^^^ n:Nat)=((BitVec.allOnes 64) ^^^ (BitVec.ofNat 64 n)).toNat:=by
  rw[BitVec.toNat_xor,BitVec.toNat_ofNat,Nat.mod_eq_of_lt (by omega),BitVec.toNat_allOnes]
 rw[h1,BitVec.allOnes_xor,BitVec.toNat_not,BitVec.toNat_ofNat,Nat.mod_eq_of_lt (by omega)];omega
def Two(T hi lo:Int):Prop:=hi=T/18446744073709551616%18446744073709551616/\lo=T%18446744073709551616
theorem Two.add_carry{S X hi lo xh xl:Int}(h:Two S hi lo)(x:Two X xh xl)(hc:IntKind.u64.wrap (lo+xl)<lo):Two (S+X) (IntKind.u64.wrap (IntKind.u64.wrap (hi+1)+xh)) (IntKind.u64.wrap (lo+xl)):=by
 obtain⟨h1,h2⟩:=h;obtain⟨x1,x2⟩:=x;unfold Two;simp only[wu] at *;omega
theorem Two.add_plain{S X hi lo xh xl:Int}(h:Two S hi lo)(x:Two X xh xl)(hc:lo<=IntKind.u64.wrap (lo+xl)):Two (S+X) (IntKind.u64.wrap (hi+xh)) (IntKind.u64.wrap (lo+xl)):=by
 obtain⟨h1,h2⟩:=h;obtain⟨x1,x2⟩:=x;unfold Two;simp only[wu] at *;omega
theorem Two.neg_zero{X xh xl nh nl:Int}(x:Two X xh xl)(h1:nl=18446744073709551615-xl)(h2:nh=18446744073709551615-xh)(hz:IntKind.u64.wrap (nl+1)=0):Two (-X) (IntKind.u64.wrap (nh+1)) (IntKind.u64.wrap (nl+1)):=by
 obtain⟨x1,x2⟩:=x;unfold Two;simp only[wu] at *;omega
theorem Two.neg_some{X xh xl nh nl:Int}(x:Two X xh xl)(h1:nl=18446744073709551615-xl)(h2:nh=18446744073709551615-xh)(hz:IntKind.u64.wrap (nl+1)≠0):Two (-X) nh (IntKind.u64.wrap (nl+1)):=by
 obtain⟨x1,x2⟩:=x;unfold Two;simp only[wu] at *;omega
theorem Two.range{T hi lo:Int}(h:Two T hi lo):(0<=hi/\hi<18446744073709551616)/\0<=lo/\lo<18446744073709551616:=by
 obtain⟨h1,h2⟩:=h;omega
def prT(a b:Int)(k:Nat):Int:=if k<64 then a*(b%18446744073709551616%2 ^ k) else a*b
theorem ZeJ(x:Int)(k:Nat):x%2 ^ (k+1)=x%2 ^ k+x/2 ^ k%2*2 ^ k:=by
 have h1:=Int.emod_add_mul_ediv x (2 ^ k);have h2:=Int.emod_add_mul_ediv (x/2 ^ k) 2;have h3:=Int.emod_add_mul_ediv x (2 ^ (k+1));rw[ZeI,Int.pow_succ] at h3;rw[Int.pow_succ];generalize x/2 ^ k=y at *;generalize (2:Int) ^ k=K at *;have h4:K*y=K*(y%2)+K*2*(y/2):=by
  calc K*y=K*(y%2+2*(y/2)):=by rw[h2]
   _=K*(y%2)+K*2*(y/2):=by rw[Int.mul_add,Int.mul_assoc]
 rw[Int.mul_comm (y%2) K];generalize K*y=p at *;generalize K*(y%2)=r at *;generalize K*2*(y/2)=t at *;omega
theorem Zsy(a b:Int):prT a b 0=0:=by unfold prT;simp
theorem ZpR(b:Int)(k:Nat):bits .and .u64 (IntKind.u64.wrap b/2 ^ k) 1=b%18446744073709551616/2 ^ k%2:=by
 have hK:=ZdN k;have h0:0<=b%18446744073709551616/2 ^ k:=Int.ediv_nonneg (by omega) (by omega);have h1:b%18446744073709551616/2 ^ k<=b%18446744073709551616:=Int.ediv_le_self _ (by omega);rw[wu,and_one_u64 _ h0 (by omega)]
theorem Zsz(a b:Int)(k:Nat)(hk:k<64)(hb:-9223372036854775808<=b/\b<=9223372036854775807)(h:(bits .and .u64 (IntKind.u64.wrap b/2 ^ k) 1==0)=true):prT a b (k+1)=prT a b k:=by
 rw[beq_iff_eq,ZpR] at h;unfold prT;rw[if_pos hk];have e:=ZeJ (b%18446744073709551616) k;rw[h,Int.zero_mul,Int.add_zero] at e
 by_cases h63:k+1<64
 ·rw[if_pos h63,e]
 ·obtain rfl:k=63:=by omega
  rw[if_neg h63]
  congr 1
  omega
theorem Znq(a b:Int)(k:Nat)(hk:k<63)(h:(bits .and .u64 (IntKind.u64.wrap b/2 ^ k) 1==0)=false):prT a b (k+1)=prT a b k+a*2 ^ k:=by
 rw[beq_eq_false_iff_ne,ZpR] at h;unfold prT;rw[if_pos (by omega),if_pos (by omega),ZeJ,show b%18446744073709551616/2 ^ k%2=1 by omega,Int.one_mul,Int.mul_add]
theorem ZsA(a b:Int)(hb:-9223372036854775808<=b/\b<=9223372036854775807)(h:(bits .and .u64 (IntKind.u64.wrap b/2 ^ 63) 1==0)=false):prT a b (63+1)=prT a b 63+-(a*2 ^ 63):=by
 rw[beq_eq_false_iff_ne,ZpR] at h;unfold prT;rw[if_neg (by omega),if_pos (by omega),show b=b%18446744073709551616%2 ^ 63+-(2 ^ 63) by omega,Int.mul_add,Int.mul_neg]
 congr 2
 omega
theorem Two.done{a b hi lo:Int}(h:Two (prT a b 64) hi lo)(ha:-9223372036854775808<=a/\a<=9223372036854775807)(hb:-9223372036854775808<=b/\b<=9223372036854775807):wrap64 hi=pHi a b/\lo=pLo a b:=by
 have hr:=ZpP a b ha hb;obtain⟨h1,h2⟩:=h;have e:prT a b 64=a*b:=rfl;rw[e] at h1 h2;refine⟨?_,h2⟩;rw[h1,Zic];exact Za6 _ hr.1 hr.2
theorem ZpS(x y:Int)(w:World):Calls prog 271 #[.int .u64 (IntKind.u64.wrap x),.int .u64 (IntKind.u64.wrap y)] w fun e w'=>
  e=.returned (.tuple #[.int .u64 (IntKind.u64.wrap x*IntKind.u64.wrap y/18446744073709551616),.int .u64 (pLo x y)])/\w=w':=by
 have hx:0<=IntKind.u64.wrap x/\IntKind.u64.wrap x<18446744073709551616:=by rw[wu];omega
 have hy:0<=IntKind.u64.wrap y/\IntKind.u64.wrap y<18446744073709551616:=by rw[wu];omega
 rw[<-Zux x y];obtain⟨a,ha⟩:=YaM hx.1;obtain⟨b,hb⟩:=YaM hy.1;rw[ha] at hx ⊢;rw[hb] at hy ⊢;refine(bits_Mul64 a b (by omega) (by omega) w).mono ?_;rintro e w' ⟨rfl,rfl⟩;exact⟨by simp,rfl⟩
def Zw5(h a b:Int):Nat->Int
 |0=>wrap64 h
 |1=>wrap64 (wrap64 h-(if a<0 then b else 0))
 |_=>wrap64 (wrap64 (wrap64 h-(if a<0 then b else 0))-(if b<0 then a else 0))
theorem ZeK(x:Int):wrap64 (wrap64 x)=wrap64 x:=by unfold wrap64;omega
theorem ZlR(a b:Int)(w:World)(ha:-9223372036854775808<=a/\a<=9223372036854775807)(hb:-9223372036854775808<=b/\b<=9223372036854775807) :
  Calls prog 249 #[.int .i64 a,.int .i64 b] w fun e w'=>e=.returned (.tuple #[.int .i64 (pHi a b),.int .u64 (pLo a b)])/\Below w.heap.size w w':=by
 have HP:=hid (Zuy a b ha hb);clear ha hb;have i0:∀w,(Instr.index 415 (.agg #[.int .i64 a,.int .i64 b,.int .i64 b,.int .i64 a]) (.int .i64 0)).run prog w=.ok (.agg #[.int .i64 a,.int .i64 b]) w:=fun _=>by kernel_rfl
 have i1:∀w,(Instr.index 415 (.agg #[.int .i64 a,.int .i64 b,.int .i64 b,.int .i64 a]) (.int .i64 1)).run prog w=.ok (.agg #[.int .i64 b,.int .i64 a]) w:=fun _=>by kernel_rfl
 go_enter func249,ntmps249
 go_wp2_with fail;((with_reducible refine(ZpS a b _).mono ?_);rintro e w1 ⟨rfl,rfl⟩);generalize IntKind.u64.wrap a*IntKind.u64.wrap b/18446744073709551616=h at *;go_wp2_with fail
 go_loopw [4,26] (fun v c wr=>∃(k:Nat) (x:Int),k<=2/\c=.int .i64 k/\v=.int .i64 x/\Hid (x=Zw5 h a b k)/\Below w.heap.size w wr) (fun _ c _=>2-(intOf c).toNat)
 case atStart=>exact⟨0,_,by omega,rfl,rfl,hid rfl,bR0 _ _⟩
 case round=>
  obtain⟨k,x,hk,rfl,rfl,hx,hb⟩:=hrel
  by_cases hlt:k<2
  ·by_cases h0:k=0
   ·subst h0
    by_cases ha:a<0
    all_goals
     go_wp2
     go_roundw
     case rel=>exact⟨1,_,by omega,rfl,rfl,hid (by have:=hx.out;simp only[Zw5] at this ⊢;rw[this];simp[ha,ZeK]),hb.alloc hb.size _⟩
     case measure=>simp[intOf]
   ·obtain rfl:k=1:=by omega
    by_cases ha:b<0
    all_goals
     go_wp2
     go_roundw
     case rel=>exact⟨2,_,by omega,rfl,rfl,hid (by have:=hx.out;simp only[Zw5] at this ⊢;rw[this];simp[ha,ZeK]),hb.alloc hb.size _⟩
     case measure=>simp[intOf]
  ·obtain rfl:k=2:=by omega
   go_wp2
   go_ret2
   exact⟨ZeA (congrArg (Value.int .i64) (by rw[<-HP.out];exact hx.out)),hb⟩
theorem ZpT(h l:Int)(q:Nat)(w:World)(hq:q<=63)(hl0:0<=l)(hl:l<18446744073709551616) :
  Calls prog 250 #[.int .i64 h,.int .u64 l,.int .i64 q] w fun e w'=>e=.returned (.int .i64 (shV h l q))/\∃n,w'=w.drewN n:=by
 have HS:=hid (Zsw h l q hq hl0 hl);have q3:IntKind.i64.wrap (64-(q:Int))=64-(q:Int):=IntWalk.i64_in _ (by omega);have q4:0<=64-(q:Int):=by omega
 have q5:(64-(q:Int)).toNat=64-q:=by omega
 clear hl
 go_enter func250,ntmps250
 go_wp2_with fail
 go_quiet (fail)
 go_wp2;go_ret;exact⟨ZaG HS.out,_,rfl⟩
def ZpU(h l:Int)(k:Nat)(hh ll:Int):Prop:=hh=(h*18446744073709551616+l)/2 ^ k/18446744073709551616/\ll=(h*18446744073709551616+l)/2 ^ k%18446744073709551616
theorem ZpU.start(h l:Int)(hl0:0<=l)(hl:l<18446744073709551616):ZpU h l 0 h l:=by
 unfold ZpU;simp only[Int.pow_zero,Int.ediv_one];omega
theorem ZpU.next{h l hh ll:Int}{k:Nat}(s:ZpU h l k hh ll):ZpU h l (k+1) (hh/2) (bits .or .u64 (ll/2) (IntKind.u64.wrap (IntKind.u64.wrap hh*9223372036854775808))):=by
 obtain⟨h1,h2⟩:=s;have:=Zoj hh ll _ h1 h2;unfold ZpU;rw[ZeI];exact this
theorem ZpU.done{h l hh ll:Int}{k:Nat}(s:ZpU h l k hh ll):wrap64 ll=shV h l k:=by
 rw[s.2,Zic];rfl
theorem Zkk(h l:Int)(q:Nat)(w:World)(hq:q<=63)(hl0:0<=l)(hl:l<18446744073709551616) :
  Calls prog 212 #[.int .i64 h,.int .u64 l,.int .i64 q] w fun e w'=>e=.returned (.int .i64 (shV h l q))/\w=w':=by
 have d1:decide ((q:Int)<0)=false:=YaI (by omega);have d2:decide (63<(q:Int))=false:=YaI (by omega);have HS:=hid (ZpU.start h l hl0 hl);clear hl hl0
 go_enter func212,ntmps212
 go_wp2_with fail
 go_loop [0,1,7] (fun x y c=>∃(k:Nat) (hh ll:Int),k<=q/\c=.int .i64 k/\x=.int .i64 hh/\y=.int .u64 ll/\Hid (ZpU h l k hh ll)) (fun _ _ c=>64-(intOf c).toNat)
 case atStart=>exact⟨0,h,l,by omega,rfl,rfl,rfl,HS⟩
 case round=>
  obtain⟨k,hh,ll,hk,rfl,rfl,rfl,hs⟩:=hrel
  by_cases hlt:k<q
  ·go_wp2
   go_round
   case rel=>exact⟨k+1,_,_,by omega,by go_num,rfl,rfl,hid hs.out.next⟩
   case measure=>simp[intOf];omega
  ·obtain rfl:k=q:=by omega
   go_wp2;go_ret;exact⟨ZaG hs.out.done,rfl⟩
theorem Zhx(a b:Int)(w:World)(ha:-9223372036854775808<=a/\a<=9223372036854775807)(hb:-9223372036854775808<=b/\b<=9223372036854775807) :
  Calls prog 211 #[.int .i64 a,.int .i64 b] w fun e w'=>e=.returned (.tuple #[.int .i64 (pHi a b),.int .u64 (pLo a b)])/\w=w':=by
 have HA:=hid ha;have HB:=hid hb;clear ha hb
 go_enter func211,ntmps211
 go_upto_if 14 with(fail)
 go_cut [8] (fun s8 wx=>∃sg:Int,s8=.int .u64 sg/\Hid (sg=Zuz a)/\w=wx)
 case first=>
  by_cases han:a<0
  ·go_wp2_with fail
   go_meet
   exact⟨_,rfl,hid (by simp[Zuz,han]),rfl⟩
  ·go_wp2_with fail
   go_meet
   exact⟨_,rfl,hid (by simp[Zuz,han]),rfl⟩
 case rest=>
  obtain⟨sg,rfl,hsg,rfl⟩:=hcut;go_wp2_with fail
  go_loop [6,7,9] (fun x y c=>∃(k:Nat) (hi lo:Int),k<=64/\c=.int .i64 k/\x=.int .u64 hi/\y=.int .u64 lo/\Hid (Two (prT a b k) hi lo)) (fun _ _ c=>64-(intOf c).toNat)
  case atStart=>exact⟨0,0,0,by omega,rfl,rfl,rfl,hid (by rw[Zsy];exact⟨rfl,rfl⟩)⟩
  case round=>
   obtain⟨k,hi,lo,hk,rfl,rfl,rfl,hT⟩:=hrel
   by_cases hlt:k<64
   ·cases hbit:(bits BinOp.and IntKind.u64 (IntKind.u64.wrap b/2 ^ k) 1==0) with
    |true=>
     go_wp2
     go_round
     case rel=>exact⟨k+1,hi,lo,by omega,by go_num,rfl,rfl,hid (by rw[Zsz a b k hlt HB.out hbit];exact hT.out)⟩
     case measure=>simp[intOf];omega
    |false=>
     obtain⟨xl,hxl⟩:∃x,IntKind.u64.wrap (IntKind.u64.wrap a*2 ^ k)=x:=⟨_,rfl⟩;have HXL:=hid (hxl.symm.trans (Zw3 a k))
     by_cases hk0:k=0
     ·have HX:Hid (Two (a*2 ^ k) sg xl):=hid ⟨hsg.out.trans (by rw[hk0];exact ZuA a HA.out),HXL.out⟩;have g0:k<=0:=by omega
      have t1:((k:Int)==63)=false:=by simp;omega
      have HS:=hid (Znq a b k (by omega) hbit);clear hk0;go_wp2
      ·go_round
       case rel=>exact⟨k+1,_,_,by omega,by go_num,rfl,rfl,hid (by rw[HS.out];exact hT.out.add_carry HX.out ‹_›)⟩
       case measure=>simp[intOf];omega
      ·go_round
       case rel=>exact⟨k+1,_,_,by omega,by go_num,rfl,rfl,hid (by rw[HS.out];exact hT.out.add_plain HX.out ‹_›)⟩
       case measure=>simp[intOf];omega
     ·have hk1:0<k:=by omega
      obtain⟨xh,hxh⟩:∃x,bits BinOp.or IntKind.u64 (IntKind.u64.wrap (sg*2 ^ k)) (IntKind.u64.wrap a/2 ^ (64-k))=x:=⟨_,rfl⟩;have HX:Hid (Two (a*2 ^ k) xh xl):=hid ⟨by rw[<-hxh,hsg.out];exact Zw4 a k (by omega) HA.out,HXL.out⟩;have z1:IntKind.i64.wrap (64-(k:Int))=64-(k:Int):=IntWalk.i64_in _ (by omega);have z2:0<=64-(k:Int):=by omega
      have z3:(64-(k:Int)).toNat=64-k:=by omega
      by_cases hk63:k=63
      ·have t1:((k:Int)==63)=true:=by simp;omega
       obtain⟨nl,hnl⟩:∃x,bits BinOp.xor IntKind.u64 (if IntKind.u64.signed=true then -1 else IntKind.u64.max) xl=x:=⟨_,rfl⟩;obtain⟨nh,hnh⟩:∃x,bits BinOp.xor IntKind.u64 (if IntKind.u64.signed=true then -1 else IntKind.u64.max) xh=x:=⟨_,rfl⟩;have HR:=hid HX.out.range;have HNL:=hid (hnl.symm.trans (ZpQ xl HR.out.2.1 HR.out.2.2));have HNH:=hid (hnh.symm.trans (ZpQ xh HR.out.1.1 HR.out.1.2));have HS:Hid (prT a b (k+1)=prT a b k+-(a*2 ^ k)):=hid (by rw[hk63] at hbit ⊢;exact ZsA a b HB.out hbit);clear hk63
       cases hz:(IntKind.u64.wrap (nl+1)==0) with
       |true=>
        have HN:Hid (Two (-(a*2 ^ k)) (IntKind.u64.wrap (nh+1)) (IntKind.u64.wrap (nl+1))):=hid (HX.out.neg_zero HNL.out HNH.out (beq_iff_eq.1 hz));go_wp2
        ·go_round
         case rel=>exact⟨k+1,_,_,by omega,by go_num,rfl,rfl,hid (by rw[HS.out];exact hT.out.add_carry HN.out ‹_›)⟩
         case measure=>simp[intOf];omega
        ·go_round
         case rel=>exact⟨k+1,_,_,by omega,by go_num,rfl,rfl,hid (by rw[HS.out];exact hT.out.add_plain HN.out ‹_›)⟩
         case measure=>simp[intOf];omega
       |false=>
        have HN:Hid (Two (-(a*2 ^ k)) nh (IntKind.u64.wrap (nl+1))):=hid (HX.out.neg_some HNL.out HNH.out (beq_eq_false_iff_ne.1 hz));go_wp2
        ·go_round
         case rel=>exact⟨k+1,_,_,by omega,by go_num,rfl,rfl,hid (by rw[HS.out];exact hT.out.add_carry HN.out ‹_›)⟩
         case measure=>simp[intOf];omega
        ·go_round
         case rel=>exact⟨k+1,_,_,by omega,by go_num,rfl,rfl,hid (by rw[HS.out];exact hT.out.add_plain HN.out ‹_›)⟩
         case measure=>simp[intOf];omega
      ·have t1:((k:Int)==63)=false:=by simp;omega
       have HS:=hid (Znq a b k (by omega) hbit);go_wp2
       ·go_round
        case rel=>exact⟨k+1,_,_,by omega,by go_num,rfl,rfl,hid (by rw[HS.out];exact hT.out.add_carry HX.out ‹_›)⟩
        case measure=>simp[intOf];omega
       ·go_round
        case rel=>exact⟨k+1,_,_,by omega,by go_num,rfl,rfl,hid (by rw[HS.out];exact hT.out.add_plain HX.out ‹_›)⟩
        case measure=>simp[intOf];omega
   ·obtain rfl:k=64:=by omega
    go_wp2
    go_ret2
    obtain⟨f1,f2⟩:=hT.out.done HA.out HB.out;exact⟨by rw[<-f1,<-f2];rfl,rfl⟩
theorem Zt3(a b:Int)(q:Nat):shV (pHi a b) (pLo a b) q=ZvJ a b q:=by
 unfold shV ZvJ;rw[Zuw]
theorem ZsB(a b q:Int)(w:World)(hq:q<0\/62<q) :
  Calls prog 205 #[.int .i64 a,.int .i64 b,.int .i64 q] w fun e w'=>e=.returned (.int .i64 0)/\Below w.heap.size w w':=by
 go_enter func205,ntmps205
 go_wp2_with fail
 all_goals (go_ret;exact⟨rfl,bR0 _ _⟩)
theorem ZuB(a b:Int)(q:Nat)(w:World)(ha:-9223372036854775808<=a/\a<=9223372036854775807)(hb:-9223372036854775808<=b/\b<=9223372036854775807)(hq:q<=62) :
  Calls prog 205 #[.int .i64 a,.int .i64 b,.int .i64 q] w fun e w'=>e=.returned (.int .i64 (ZvJ a b q))/\Below w.heap.size w w':=by
 have HA:=hid ha;have HB:=hid hb;have HL:=hid (Zkj a b);have d1:decide ((q:Int)<0)=false:=YaI (by omega);have d2:decide (62<(q:Int))=false:=YaI (by omega);clear ha hb
 go_enter func205,ntmps205
 go_wp2_with fail;((with_reducible refine(ZlR a b _ HA.out HB.out).mono ?_);rintro e w1 ⟨rfl,hb1⟩);go_wp2_with fail;((with_reducible refine(ZpT (pHi a b) (pLo a b) q _ (by omega) HL.out.1 HL.out.2).mono ?_);rintro e w2 ⟨rfl,n2,rfl⟩);rw[Zt3];go_wp2;go_ret;exact⟨rfl,below_drewN hb1 _⟩
theorem ZlS(a b q:Int)(w:World)(hq:q<0\/62<q) :
  Calls prog 159 #[.int .i64 a,.int .i64 b,.int .i64 q] w fun e w'=>e=.returned (.int .i64 0)/\w=w':=by
 go_enter func159,ntmps159
 go_wp2_with fail
 all_goals (go_ret;exact⟨rfl,rfl⟩)
theorem Zok(a b:Int)(q:Nat)(w:World)(ha:-9223372036854775808<=a/\a<=9223372036854775807)(hb:-9223372036854775808<=b/\b<=9223372036854775807)(hq:q<=62) :
  Calls prog 159 #[.int .i64 a,.int .i64 b,.int .i64 q] w fun e w'=>e=.returned (.int .i64 (ZvJ a b q))/\w=w':=by
 have HA:=hid ha;have HB:=hid hb;have HL:=hid (Zkj a b);have d1:decide ((q:Int)<0)=false:=YaI (by omega);have d2:decide (62<(q:Int))=false:=YaI (by omega);clear ha hb
 go_enter func159,ntmps159
 go_wp2_with fail;((with_reducible refine(Zhx a b _ HA.out HB.out).mono ?_);rintro e w1 ⟨rfl,rfl⟩);go_wp2_with fail;((with_reducible refine(Zkk (pHi a b) (pLo a b) q _ (by omega) HL.out.1 HL.out.2).mono ?_);rintro e w2 ⟨rfl,rfl⟩);rw[Zt3];go_wp2;go_ret;exact⟨rfl,rfl⟩
theorem ZeL:Sl prog 26 2 (.int .i64 0) 1 8:=⟨underlying26,by kernel_rfl,rfl,by omega⟩
theorem Zhy:Sl prog 74 2 (.int .i64 0) 1 8:=⟨underlying74,by kernel_rfl,rfl,by omega⟩
theorem Zhz(A:Option Addr)(n cap:Nat)(l:List Int)(w:World)(hl:l.length=n)(h:Rd w 1 A n (iv l))(hn:n<=10000000) :
  Calls prog 182 #[.slice A n cap] w (Zal w 2 1 n (iv l)):=by
 have HR:=hid h;have HL:=hid hl;have hq:=fun(w:World) (a:Option Addr) (n c:Nat)=>Lib.run_eql_slice_nil (P:=prog) w 74 2 a n c 0 0 underlying74
 clear h hl
 cases A with
 |none=>
  have hn0:n=0:=by
   rcases Nat.eq_zero_or_pos n with h0|h0
   ·exact h0
   ·obtain⟨b,o,h,_⟩:=HR.out.2 h0;cases h
  subst hn0;have hl0:l=[]:=List.eq_nil_of_length_eq_zero HL.out;subst hl0
  go_enter func182,ntmps182
  go_wp2;go_ret;exact⟨none,0,rfl,World.ownsRow_nil _ _ _ _,bR0 _ _⟩
 |some ad=>
  go_enter func182,ntmps182
  go_wp2_with (at_builtin;go_must (refine Za5 Zhy rfl _ _ rfl w.heap.size _ 0 [] rfl (World.ownsRow_lit w #[] 0 (YaF _) (by unfold maxLen;omega) rfl) (some ad) n cap (iv l) rfl (HR.out.alloc _) (Znm l) (by unfold maxLen;omega) (by omega) (by simp) ?_);intro A' cap' w1 hown1 hb1)
  go_ret;exact⟨A',cap',by simp,by simpa using hown1,(bA0 _).trans hb1⟩
theorem Za0(A:Option Addr)(n cap:Nat)(l:List Int)(w:World)(hl:l.length=n)(h:Rd w 1 A n (iv l))(hn:n<=10000000) :
  Calls prog 107 #[.slice A n cap] w (Zal w 2 1 n (iv l)):=by
 have HR:=hid h;have HL:=hid hl;clear h hl
 go_enter func107,ntmps107
 go_wp2_with fail;((with_reducible refine(Zhz A n cap l _ HL.out HR.out (by omega)).mono ?_);rintro e w1 ⟨A',cap',rfl,hown,hb1⟩);have HO:=hid hown;clear hown;go_wp2;go_ret;exact⟨A',cap',rfl,HO.out,hb1⟩
def Za2:List Int->List Int->Int->Int
 |[],[],_=>-1
 |[],_::_,i=>i
 |_::_,[],i=>i
 |x::a,y::b,i=>if x=y then Za2 a b (i+1) else i
def ZuC(a b:List Int):Int:=Za2 a b 0
theorem Znr:∀(a b:List Int) (i:Int),0<=i->(Za2 a b i<0↔a=b)
 |[],[],_,_=>by simp[Za2]
 |[],_::_,i,h=>by simp[Za2];omega
 |_::_,[],i,h=>by simp[Za2];omega
 |x::a,y::b,i,h=>by
  simp only[Za2]
  by_cases e:x=y
  ·rw[if_pos e,Znr a b (i+1) (by omega)];simp[e]
  ·rw[if_neg e];simp[e];omega
theorem ZsC(a b:List Int):decide (ZuC a b<0)=decide (a=b):=by
 rw[Bool.eq_iff_iff];simp only[decide_eq_true_eq];exact Znr a b 0 (by omega)
theorem ZuD{a b:List Int}{k:Nat}{x v:Int}(hv:Hid (v=Za2 (a.drop k) (b.drop k) k))(ha:Hid (a[k]?=some x))(hb:Hid (b[k]?=some x)):Hid (v=Za2 (a.drop (k+1)) (b.drop (k+1)) ((k+1:Nat):Int)):=by
 obtain⟨h1,e1⟩:=YaG.1 ha.out;obtain⟨h2,e2⟩:=YaG.1 hb.out;refine hid ?_;rw[hv.out,List.drop_eq_getElem_cons h1,List.drop_eq_getElem_cons h2,e1,e2];simp only[Za2,if_true];rfl
theorem ZsD{a b:List Int}{k:Nat}{x y v:Int}(hv:Hid (v=Za2 (a.drop k) (b.drop k) k))(ha:Hid (a[k]?=some x))(hb:Hid (b[k]?=some y))(h:x≠y):(k:Int)=v:=by
 obtain⟨h1,e1⟩:=YaG.1 ha.out;obtain⟨h2,e2⟩:=YaG.1 hb.out;rw[hv.out,List.drop_eq_getElem_cons h1,List.drop_eq_getElem_cons h2,e1,e2];simp only[Za2];rw[if_neg h]
theorem ZsE{a b:List Int}{k n m:Nat}{v:Int}(hv:Hid (v=Za2 (a.drop k) (b.drop k) k))(ha:Hid (a.length=n))(hb:Hid (b.length=m))(h1:n<=k)(h2:m<=k):-1=v:=by
 rw[hv.out,List.drop_eq_nil_of_le (by have:=ha.out;omega),List.drop_eq_nil_of_le (by have:=hb.out;omega)];rfl
theorem Zie{a b:List Int}{k n m:Nat}{v:Int}(hv:Hid (v=Za2 (a.drop k) (b.drop k) k))(ha:Hid (a.length=n))(hb:Hid (b.length=m))(h:(n<=k/\k<m)\/(m<=k/\k<n)):(k:Int)=v:=by
 have e1:=ha.out;have e2:=hb.out
 rcases h with⟨h1,h2⟩|⟨h1,h2⟩
 ·rw[hv.out,List.drop_eq_nil_of_le (by omega),List.drop_eq_getElem_cons (show k<b.length by omega)];rfl
 ·rw[hv.out,(show b.drop k=[] from List.drop_eq_nil_of_le (by omega)),List.drop_eq_getElem_cons (show k<a.length by omega)];rfl
theorem Zi1(A B:Option Addr)(n m c d:Nat)(a b:List Int)(w:World)(ha:a.length=n)(hb:b.length=m)(h:Rd w 1 A n (iv a))(h':Rd w 1 B m (iv b))(hn:n<=10000000)(hm:m<=10000000) :
  Calls prog 94 #[.slice A n c,.slice B m d] w fun e w'=>e=.returned (.int .i64 (ZuC a b))/\Below w.heap.size w w':=by
 have HA:=hid ha;have HB:=hid hb;have HR:=hid h;have HR':=hid h';clear ha hb h h'
 go_enter func94,ntmps94
 go_wp2_with fail
 go_loopw [5] (fun i wr=>∃k:Nat,k<=n+m/\i=.int .i64 k/\Below w.heap.size w wr/\Hid (ZuC a b=Za2 (a.drop k) (b.drop k) k)) (fun i _=>n+m-(intOf i).toNat)
 case atStart=>exact⟨0,by omega,rfl,bR0 _ _,hid rfl⟩
 case round=>
  obtain⟨k,hk,rfl,hb,he⟩:=hrel
  by_cases h1:k<n
  ·by_cases h2:k<m
   ·obtain⟨g,o,x,rfl,hbl,hx,c1⟩:=Zb7 HA.out (HR.out.below hb) h1;obtain⟨g',o',y,rfl,hbl',hy,c2⟩:=Zb7 HB.out (HR'.out.below hb) h2;have HX:=hid hx;have HY:=hid hy;clear hx hy;have i1:(0:Int)<=(k:Int):=by omega
    have i2:(k:Int)<(n:Int):=by omega
    have i3:(k:Int)<(m:Int):=by omega
    have g1:decide (n<=k)=false:=YaI (by omega);have g2:decide (m<=k)=false:=YaI (by omega)
    by_cases hxy:x=y
    ·subst hxy;go_wp2_with fail
     go_quiet (fail)
     go_wp2
     go_roundw
     case rel=>exact⟨k+1,by omega,by go_num,below_drewN hb _,ZuD he HX HY⟩
     case measure=>simp[intOf];omega
    ·go_wp2_with fail
     go_quiet (fail)
     go_wp2;go_ret;exact⟨ZaG (ZsD he HX HY hxy),below_drewN hb _⟩
   ·have g1:decide (n<=k)=false:=YaI (by omega);have g2:decide (m<=k)=true:=YaJ (by omega);go_wp2_with fail
    go_quiet (fail)
    go_wp2;go_ret;exact⟨ZaG (Zie he HA HB (by omega)),below_drewN hb _⟩
  ·by_cases h2:k<m
   ·have g1:decide (n<=k)=true:=YaJ (by omega);go_wp2_with fail
    go_quiet (fail)
    go_wp2;go_ret;exact⟨ZaG (Zie he HA HB (by omega)),below_drewN hb _⟩
   ·go_wp2;go_ret;exact⟨ZaG (ZsE he HA HB (by omega) (by omega)),hb⟩
theorem Zgz(A B:Option Addr)(n m c d:Nat)(a b:List Int)(w:World)(ha:a.length=n)(hb:b.length=m)(h:Rd w 1 A n (iv a))(h':Rd w 1 B m (iv b))(hn:n<=10000000)(hm:m<=10000000) :
  Calls prog 29 #[.slice A n c,.slice B m d] w fun e w'=>e=.returned (.bool (decide (a=b)))/\Below w.heap.size w w':=by
 have HA:=hid ha;have HB:=hid hb;have HR:=hid h;have HR':=hid h';clear ha hb h h'
 go_enter func29,ntmps29
 go_wp2_with fail;((with_reducible refine(Zi1 A B n m c d a b _ HA.out HB.out HR.out HR'.out (by omega) (by omega)).mono ?_);rintro e w1 ⟨rfl,hb1⟩);go_wp2;go_ret;exact⟨Zao (ZsC a b),hb1⟩
abbrev In1(x:Int):Prop:=-9223372036854775808<=x/\x<=9223372036854775807
def Zd5(a b q:Int):Int:=if q<0\/62<q then 0 else ZvJ a b q.toNat
theorem ZpV(a b q:Int):In1 (Zd5 a b q):=by
 unfold Zd5 ZvJ wrap64
 split<;>constructor<;>omega
theorem ZeM(a b q:Int)(w:World)(ha:In1 a)(hb:In1 b) :
  Calls prog 205 #[.int .i64 a,.int .i64 b,.int .i64 q] w fun e w'=>e=.returned (.int .i64 (Zd5 a b q))/\Below w.heap.size w w':=by
 unfold Zd5
 split
 ·rename_i h
  exact ZsB a b q w h
 ·rename_i h
  obtain⟨k,rfl⟩:=YaM (show 0<=q by omega);exact ZuB a b k w ha hb (by omega)
theorem Zcl(a b q:Int)(w:World)(ha:In1 a)(hb:In1 b) :
  Calls prog 159 #[.int .i64 a,.int .i64 b,.int .i64 q] w fun e w'=>e=.returned (.int .i64 (Zd5 a b q))/\w=w':=by
 unfold Zd5
 split
 ·rename_i h
  exact ZlS a b q w h
 ·rename_i h
  obtain⟨k,rfl⟩:=YaM (show 0<=q by omega);exact Zok a b k w ha hb (by omega)
theorem Zol{a w:World}{row:Option Nat}(h:a.grownBy w row):a.grownBy w.drew row:=⟨h.os,h.tape,h.output,h.size,h.block⟩
def ZcJ(l:List Int)(a q:Int)(k:Nat):List Int:=l.mapIdx fun i x=>if i<k then Zd5 x a q else x
def Zd6(l:List Int)(a q:Int):List Int:=l.map fun x=>Zd5 x a q
theorem Zi2(l:List Int)(a q:Int):(Zd6 l a q).length=l.length:=by simp[Zd6]
theorem Zi3(l:List Int)(a q:Int)(k:Nat):(ZcJ l a q k).length=l.length:=by simp[ZcJ]
theorem ZlT(l:List Int)(a q:Int):ZcJ l a q 0=l:=by
 apply List.ext_getElem?
 intro i;simp[ZcJ]
theorem ZpW(l:List Int)(a q:Int)(k:Nat)(x:Int)(h:l[k]?=some x):(ZcJ l a q k)[k]?=some x:=by simp[ZcJ,h]
theorem ZlU(l:List Int)(a q:Int)(k:Nat)(x:Int)(h:l[k]?=some x):(ZcJ l a q k).set k (Zd5 x a q)=ZcJ l a q (k+1):=by
 obtain⟨hk,hx⟩:=YaG.1 h
 apply List.ext_getElem?
 intro i;rw[List.getElem?_set]
 by_cases e:k=i
 ·subst e;rw[if_pos rfl,if_pos (by rw[Zi3];exact hk)];simp only[ZcJ,List.getElem?_mapIdx,h,Option.map_some];rw[if_pos (by omega)]
 ·rw[if_neg e];simp only[ZcJ,List.getElem?_mapIdx]
  cases l[i]? with
  |none=>rfl
  |some y=>
   simp only[Option.map_some]
   congr 1
   by_cases h1:i<k
   ·rw[if_pos h1,if_pos (by omega)]
   ·rw[if_neg h1,if_neg (by omega)]
theorem ZlV(l:List Int)(a q:Int)(k:Nat)(h:l.length<=k):ZcJ l a q k=Zd6 l a q:=by
 apply List.ext_getElem?
 intro i;simp only[ZcJ,Zd6,List.getElem?_mapIdx,YaR]
 by_cases hi:i<l.length
 ·rw[YaA hi];simp only[Option.map_some];rw[if_pos (by omega)]
 ·rw[YaN (by omega)];rfl
theorem ZpX(A:Option Addr)(n c:Nat)(a q:Int)(l:List Int)(w:World)(hn:n<=10000000)(hl:l.length=n)(h:Rd w 1 A n (iv l))(hx:∀x∈l,In1 x)(ha:In1 a) :
  Calls prog 220 #[.slice A n c,.int .i64 a,.int .i64 q] w (Zal w 2 1 n (iv (Zd6 l a q))):=by
 have HL:=hid hl;have HR:=hid h;have HX:=hid (And.intro hx ha);clear hl h hx ha
 go_enter func220,ntmps220
 go_wp2_with fail;((with_reducible refine(Za0 A n c l _ HL.out HR.out (by omega)).mono ?_);rintro e W ⟨A',cap',rfl,hown,hbW⟩);have HO:=hid hown;clear hown;go_wp2_with fail
 go_loopw [14] (fun i wr=>∃k:Nat,k<=n/\i=.int .i64 k/\Hid (wr.ownsRow w.heap.size 2 1 (.slice A' n cap') n (iv (ZcJ l a q k)))/\Below w.heap.size w wr) (fun i _=>n-(intOf i).toNat)
 case atStart=>exact⟨0,by omega,rfl,by rw[ZlT];exact HO,hbW⟩
 case round=>
  clear HO hbW;obtain⟨k,hk,rfl,hO,hb⟩:=hrel
  by_cases hlt:k<n
  ·obtain⟨_,_,hv,_,_,hf⟩:=ZaF hO.out;injection hv with hA _ hC
   subst hA hC;obtain⟨g,rfl,hg1,hg2⟩:=hf (by omega);have hkl:k<l.length:=by rw[HL.out];exact hlt
   have c1:wr.cell? ⟨g,k,none⟩=some (.int .i64 l[k]):=by
    rw[hO.out.cellAt k (by omega)];unfold iv;rw[YaR,ZpW l a q k _ (YaA hkl)];rfl
   have HXk:=hid (YaA hkl);have bx:=hid (HX.out.1 _ (List.getElem_mem hkl));generalize l[k]=x at *;clear hf hkl;go_wp2_with fail;((with_reducible refine(ZeM x a q _ bx.out HX.out.2).mono ?_);rintro e w2 ⟨rfl,hb2⟩);have hO2:=Zac hO.out hb2;have f1:=hO2.frozenAt k;have c2:w2.cell? ⟨g,k,none⟩=some (.int .i64 x):=by rw[hb2.cell (p:=⟨g,k,none⟩) hg2];exact c1
   obtain⟨hst,hgr⟩:=hO2.stored k (.int .i64 (Zd5 x a q));rw[Zcs,ZlU l a q k x HXk.out] at hst;have HST:=hid hst;have hb2':=bT0 hb hb2;have hb3:=hid (hb2'.grown hgr hb2'.size (fun k e=>by cases e;exact hg1));clear hb2 hO2 hst hgr hO hb c1;go_wp2
   go_roundw
   case rel=>exact⟨k+1,by omega,by go_num,HST,hb3.out⟩
   case measure=>simp[intOf];omega
  ·obtain rfl:k=n:=by omega
   rw[ZlV l a q k (by have:=HL.out;omega)] at hO;go_wp2;go_ret;exact⟨_,_,rfl,hO.out,hb⟩
theorem Zi4(A B:Option Addr)(g o n c d N cap base:Nat)(xs ys:List Int)(w:World)(hA:0<n->A=some ⟨g,o,none⟩)(hN:o+n<=N)(hN2:N<=10000000)(hxl:xs.length=N)(hyl:ys.length=n)
  (hown:w.ownsRow base 2 1 (.slice (some ⟨g,0,none⟩) N cap) N (iv xs)) (hy:Rd w 1 B n (iv ys)) (hne:∀b o',B=some ⟨b,o',none⟩->0<n->b≠g) :
  Calls prog 25 #[.slice A n c,.slice B n d] w fun e w'=>e=.returned (.bool true)/\w'.ownsRow base 2 1 (.slice (some ⟨g,0,none⟩) N cap) N (iv (ZbK xs o ys n))/\w.grownBy w' (some g):=by
 have HA:=hid hA;have HXL:=hid hxl;have HYL:=hid hyl;have HO:=hid hown;have HY:=hid hy;have HNE:=hid hne;clear hA hxl hyl hown hy hne
 go_enter func25,ntmps25
 go_wp2_with fail
 go_loopw [13] (fun i wr=>∃k:Nat,k<=n/\i=.int .i64 k/\wr.ownsRow base 2 1 (.slice (some ⟨g,0,none⟩) N cap) N (iv (ZbK xs o ys k))/\w.grownBy wr (some g)) (fun i _=>n-(intOf i).toNat)
 case atStart=>exact⟨0,by omega,rfl,by rw[Zfo];exact HO.out,World.grownBy.refl _ _⟩
 case round=>
  obtain⟨k,hk,rfl,hown,hg⟩:=hrel
  by_cases hlt:k<n
  ·obtain rfl:=HA.out (by omega);obtain⟨b,o',rfl,hbl,hcy⟩:=HY.out.2 (by omega);have hbg:=HNE.out b o' rfl (by omega);have hky:k<ys.length:=by rw[HYL.out];exact hlt
   have hkx:o+k<xs.length:=by rw[HXL.out];omega
   have c2:wr.cell? ⟨b,o'+k,none⟩=some (.int .i64 ys[k]):=hg.cell (hcy k _ (Zkc ys k hky)) (by simp[hbg]);have c1:wr.cell? ⟨g,o+k,none⟩=some (.int .i64 xs[o+k]):=by
    rw[hown.cellAt (o+k) (by omega)];unfold iv;rw[YaR,Znn xs o ys k _ (YaA hkx)];rfl
   have f1:=hown.frozenAt (o+k);have HX:=hid (YaA hkx);have HYk:=hid (YaA hky);generalize xs[o+k]=x at *;generalize ys[k]=y at *;have HOw:=hid hown;have HG:=hid hg;have i1:(k:Int)<(n:Int):=by omega
   have i3:(0:Int)<=(k:Int):=by omega
   clear hown hg hcy hkx hky hbl;go_wp2_with fail;go_region;go_wp2
   go_roundw
   case rel=>exact⟨k+1,by omega,by go_num,by rw[<-Zh9 xs o ys k x y HX.out HYk.out,<-Zcs];exact(HOw.out.stored (o+k) _).1,HG.out.trans (Zol (HOw.out.stored (o+k) _).2)⟩
   case measure=>simp[intOf];omega
  ·obtain rfl:k=n:=by omega
   go_wp2;go_ret;exact⟨rfl,hown,hg⟩
theorem add_zero(A B:Option Addr)(c d:Nat)(w:World) :
  Calls prog 25 #[.slice A 0 c,.slice B 0 d] w fun e w'=>e=.returned (.bool true)/\w=w':=by
 go_enter func25,ntmps25
 go_wp2_with fail
 go_loop [13] (fun i=>i=.int .i64 0) (fun _=>0)
 case atStart=>rfl
 case round=>
  obtain rfl:=hrel;go_wp2;go_ret;exact⟨rfl,rfl⟩
def ZpY(w:World)(r:Option (List Int))(e:Ending)(w':World):Prop:=
 match r with
 |none=>e=.returned (.tuple #[.slice none 0 0,.bool false])/\Below w.heap.size w w'
 |some z=>∃A cap,e=.returned (.tuple #[.slice A z.length cap,.bool true])/\w'.ownsRow w.heap.size 2 1 (.slice A z.length cap) z.length (iv z)/\Below w.heap.size w w'
theorem ZlW{w W:World}{r:Option (List Int)}{z:List Int}{A:Option Addr}{n cap:Nat}(h:r=some z)(hl:Hid (z.length=n))(ho:Hid (W.ownsRow w.heap.size 2 1 (.slice A n cap) n (iv z)))(hb:Below w.heap.size w W) :
  ZpY w r (.returned (.tuple #[.slice A n cap,.bool true])) W:=by
 subst h;have:=hl.out;subst this;exact⟨A,cap,rfl,ho.out,hb⟩
theorem ZlX{w W:World}{r:Option (List Int)}(h:r=none)(hb:Below w.heap.size w W):ZpY w r (.returned (.tuple #[.slice none 0 0,.bool false])) W:=by
 subst h;exact⟨rfl,hb⟩
theorem Zom(z:List Int)(h:∀x∈z,-9223372036854775808<=x/\x<=9223372036854775807):addL (List.replicate z.length 0) z=z:=by
 apply List.ext_getElem?
 intro i;unfold addL;rw[Zbh]
 by_cases hi:i<z.length
 ·rw[List.getElem?_replicate,if_pos hi,YaA hi];have:=h z[i] (List.getElem_mem hi);simp[hi,List.getD,YaA hi];unfold wrap64;omega
 ·rw[YaN (by simpa using hi),YaN (by omega)];rfl
theorem Zon(zs:List (List Int))(z:List Int)(hz:zs[0]?=some z)(h:∀x∈z,-9223372036854775808<=x/\x<=9223372036854775807):ZvI zs=ZbM (List.replicate z.length 0) (zs.drop 0):=by
 rw[Zoi zs z hz,ZfI _ zs 0 z hz (by simp),Zom z h]
theorem Zi5(n:Nat):iv (List.replicate n 0)=List.replicate n (.int .i64 0):=by simp[iv]
theorem ZpZ(x y:List Int)(n:Nat)(h:x.length=n):ZbK x 0 y n=addL x y:=by unfold addL;rw[h]
theorem Zoo(A:Option Addr)(n cap:Nat)(ss:List (Option Addr×Nat×Nat))(zs:List (List Int))(w:World)(hl:ss.length=n)(hn1:1<=n)(hn:n<=10000000)(h:Rd w 1 A n (ss.map slv))(hv:RdV w ss zs)(hz:∀z∈zs,z.length<=10000000)(hx:∀z∈zs,∀x∈z,-9223372036854775808<=x/\x<=9223372036854775807) :
  Calls prog 89 #[.slice A n cap] w (ZpY w (ZvI zs)):=by
 have HL:=hid hl;have HR:=hid h;have HV:=hid hv;have HZ:=hid hz;obtain⟨b,o,A0,n0,c0,z0,rfl,hbl,hs0,hz0,c1,hzl,hr0⟩:=ZvS hl h hv (show 0<n by omega);have HZ0:=hid (Zon zs z0 hz0 (hx z0 (YaL hz0)));rw[hzl] at HZ0;have hn0:n0<=10000000:=by rw[<-hzl];exact hz z0 (YaL hz0)
 have d1:((n:Int)==0)=false:=by simp;omega
 clear hl h hv hz hz0 hs0 hzl hr0 hx;rw[Nat.add_zero] at c1;obtain⟨i0,hi0,q0,q1,q2⟩:=info_parts ZeL.info
 go_enter func89,ntmps89
 go_wp2_with (at_make;go_must (refine wpList_make_full w rfl _ _ _ rfl w.heap.size 2 i0 (.int .i64 0) 1 ZeL.slice hi0 q0 q1 .i64 .i64 _ _ n0 rfl rfl rfl rfl (by rw[q2];omega) (by unfold maxLen;omega) (YaF _) ?_);intro W hown hg1)
 have hbW:Below w.heap.size w W:=(bR0 _ _).grown hg1 (YaF _) (by simp);have HO:Hid (W.ownsRow w.heap.size 2 1 (.slice (some ⟨w.heap.size,0,none⟩) n0 n0) n0 (iv (List.replicate n0 0))):=hid (by
  rw[Zi5,<-toList_madeCells_one];have e:(madeCells (Value.int .i64 0).cells (n0*1))=madeCells #[.int .i64 0] n0:=by rw[Nat.mul_one];rfl
  rw[<-e];exact hown)
 clear hown hg1 c1
 go_loopw [5] (fun i wr=>∃(k:Nat) (acc:List Int),k<=n/\i=.int .i64 k/\Hid (acc.length=n0)/\Hid (wr.ownsRow w.heap.size 2 1 (.slice (some ⟨w.heap.size,0,none⟩) n0 n0) n0 (iv acc))/\Below w.heap.size w wr/\Hid (ZvI zs=ZbM acc (zs.drop k))) (fun i _=>n-(intOf i).toNat)
 case atStart=>exact⟨0,List.replicate n0 0,by omega,rfl,hid (by simp),HO,hbW,HZ0⟩
 case round=>
  clear HO hbW;obtain⟨k,acc,hk,rfl,hacc,hO,hb,he⟩:=hrel
  by_cases hlt:k<n
  ·obtain⟨b',o',As,ns,cs,z,e1,hbl',hss,hzk,c2,hzl,hrz⟩:=ZvS HL.out HR.out HV.out hlt;injection e1 with e1
   injection e1 with e2 e3
   subst e2 e3;have HZK:=hid hzk;have HZl:=hid hzl;have HRZ:=hid hrz;have hns:ns<=10000000:=by rw[<-hzl];exact HZ.out z (YaL hzk)
   have c3:wr.cell? ⟨b,o+k,none⟩=some (.slice As ns cs):=(hb.cell (p:=⟨b,o+k,none⟩) hbl).trans c2;have C2:=hid c2;clear hzk hzl hrz hss c2
   by_cases hnn:ns=n0
   ·have d2:((ns:Int) !=(n0:Int))=false:=by simp[hnn]
    have HNN:=hid hnn;clear hnn;obtain⟨wo,rfl⟩:∃wo:World,wo=wr:=⟨_,rfl⟩;go_wp2_with fail
    go_loopw [6] (fun i wr=>∃j:Nat,j<=n0/\i=.int .i64 j/\Hid (wr.ownsRow w.heap.size 2 1 (.slice (some ⟨w.heap.size,0,none⟩) n0 n0) n0 (iv (ZbK acc 0 z j)))/\Below w.heap.size w wr) (fun i _=>n0-(intOf i).toNat)
    case atStart=>exact⟨0,by omega,rfl,hid (by rw[Zfo];exact hO.out),hb⟩
    case round=>
     clear hO hb c3;obtain⟨j,hj,rfl,hO,hb⟩:=hrel
     by_cases hlt2:j<n0
     ·have hns2:j<ns:=by have:=HNN.out;omega
      obtain⟨b1,o1,y,rfl,hbl1,hy,c4⟩:=Zb7 HZl.out HRZ.out hns2;have c5:wr.cell? ⟨b,o+k,none⟩=some (.slice (some ⟨b1,o1,none⟩) ns cs):=(hb.cell (p:=⟨b,o+k,none⟩) hbl).trans C2.out;have c6:wr.cell? ⟨b1,o1+j,none⟩=some (.int .i64 y):=(hb.cell (p:=⟨b1,o1+j,none⟩) hbl1).trans c4;obtain⟨x,hx⟩:∃x,acc[0+j]?=some x:=⟨_,YaA (by rw[hacc.out];omega)⟩;have c7:wr.cell? ⟨w.heap.size,j,none⟩=some (.int .i64 x):=by
       rw[hO.out.cellAt j (by omega)];unfold iv;have:=Znn acc 0 z j x hx;rw[Nat.zero_add] at this;rw[YaR,this];rfl
      have f7:=hO.out.frozenAt j;have HX:=hid hx;have HY:=hid hy;have i1:(0:Int)<=(j:Int):=by omega
      have i2:(j:Int)<(n0:Int):=by omega
      have i3:(j:Int)<(ns:Int):=by omega
      have i4:(0:Int)<=(k:Int):=by omega
      have i5:(k:Int)<(n:Int):=by omega
      clear hy hx c4;go_wp2_with fail;go_region;go_wp2
      go_roundw
      case rel=>exact⟨j+1,by omega,by go_num,hid (by rw[<-Zh9 acc 0 z j x y HX.out HY.out,<-Zcs,Nat.zero_add];exact(hO.out.stored j _).1),(hb.setCell (p:=⟨w.heap.size,j,none⟩) (YaF _) _).drew⟩
      case measure=>simp[intOf];omega
     ·obtain rfl:j=n0:=by omega
      go_wp2
      go_roundw
      case rel=>exact⟨k+1,addL acc z,by omega,by go_num,hid (by rw[Zgw];exact hacc.out),hid (by rw[<-ZpZ acc z j hacc.out];exact hO.out),hb,hid (by rw[he.out];exact ZfI acc zs k z HZK.out (by rw[HZl.out,hacc.out];exact HNN.out))⟩
      case measure=>simp[intOf];omega
   ·have d2:((ns:Int) !=(n0:Int))=true:=by simp;omega
    go_wp2
    go_ret2
    refine ZlX ?_ hb;rw[he.out];exact Zkd acc zs k z HZK.out (by rw[HZl.out,hacc.out];exact hnn)
  ·go_wp2
   go_ret2
   refine ZlW ?_ hacc hO hb;rw[he.out];exact ZlO _ _ _ (by rw[<-HV.out.1,HL.out];omega)
def Zax(A:Option Addr)(c e:Nat):Option Addr:=if c=e then A else A.map (·.add (e*1))
theorem Zdq{w:World}{base n c:Nat}{t:TypeId}{A:Option Addr}{xs:List Value}(h:w.ownsRow base t 1 (.slice A n c) n xs):n<=c:=by
 rcases h.2 with⟨h1,h2⟩|⟨g,cap,cur,h1,_,_,h2,_⟩
 ·omega
 ·injection h1 with _ _ h3
  omega
theorem Zbu{w:World}{base n c:Nat}{t:TypeId}{A:Option Addr}{xs:List Value}(h:w.ownsRow base t 1 (.slice A n c) n xs)(h0:0<n):∃g,A=some ⟨g,0,none⟩:=by
 rcases h.2 with⟨h1,h2⟩|⟨g,cap,cur,h1,_,_,h2,_⟩
 ·omega
 ·injection h1 with h3
  exact⟨g,h3⟩
theorem Zp0{w:World}{base n c e k:Nat}{t:TypeId}{A:Option Addr}{xs:List Value}(h:w.ownsRow base t 1 (.slice A n c) n xs)(hk:0<k)(he:e+k<=n):∃g,A=some ⟨g,0,none⟩/\Zax A c e=some ⟨g,e,none⟩:=by
 obtain⟨g,rfl⟩:=Zbu h (by omega);have hc:=Zdq h;refine⟨g,rfl,?_⟩;unfold Zax;rw[if_neg (by omega),Option.map_some]
 congr 1
 unfold Addr.add
 by_cases h0:e=0<;>simp[h0]
theorem ZsF{w:World}{base n c e k:Nat}{A:Option Addr}{L:List Int}(h:w.ownsRow base 2 1 (.slice A n c) n (iv L))(hL:L.length=n)(he:e+k<=n):Rd w 1 (Zax A c e) k (iv ((L.drop e).take k)):=by
 refine⟨by simp[iv];omega,fun h0=>?_⟩;obtain⟨g,hA,hp⟩:=Zp0 (e:=e) h h0 he;subst hA;obtain⟨b,o,e1,hlt,hcell⟩:=(Rd.of_own h).2 (by omega);injection e1 with e1
 injection e1 with e1 e2
 subst e1 e2;refine⟨g,e,hp,hlt,fun j u hu=>?_⟩;rw[iv,YaR,List.getElem?_take] at hu
 split at hu
 ·rw[List.getElem?_drop] at hu;have:=hcell (e+j) u (by rw[iv,YaR];exact hu)
  rwa [Nat.zero_add] at this
 ·cases hu
section
variable(A:Option Addr)(N c e k c1:Nat)(L:List Int)(B:Option Addr)(d:Nat)(ys:List Int)(base:Nat)(w:World)
theorem ZfZ(hown:w.ownsRow base 2 1 (.slice A N c) N (iv L))(hL:L.length=N)(hN2:N<=10000000)(he:e+k<=N)(hyl:ys.length=k)(hy:Rd w 1 B k (iv ys))
  (hne:∀b o',B=some ⟨b,o',none⟩->0<k->(Value.slice A N c).ownBlock≠some b) :
  Calls prog 25 #[.slice (Zax A c e) k c1,.slice B k d] w fun e' w'=>e'=.returned (.bool true)/\w'.ownsRow base 2 1 (.slice A N c) N (iv (ZbK L e ys k))/\w.grownBy w' (Value.slice A N c).ownBlock:=by
 rcases Nat.eq_zero_or_pos k with h0|h0
 ·subst h0;refine(add_zero (Zax A c e) B c1 d w).mono ?_;rintro e' w' ⟨rfl,rfl⟩;exact⟨rfl,by rw[Zfo];exact hown,World.grownBy.refl _ _⟩
 ·obtain⟨g,rfl,hp⟩:=Zp0 (e:=e) hown h0 he;refine Zi4 (Zax (some ⟨g,0,none⟩) c e) B g e k c1 d N c base L ys w (fun _=>hp) he hN2 hL hyl hown hy ?_;intro b o' hB hk hbg;exact hne b o' hB hk (by rw[hbg];rfl)
end
theorem ZbP{P:Program}{w:World}{ops:Array Oper}{rest:List Oper}{o:Oper}{a:Act}{Q:Exit->Act->World->Prop}(hgd:o.guard=none)(d s:Operand)(dT sT:TypeId)
  (ho:o.op=.call { callee:=.builtin .copy,args:=#[d,s],argTypes:=#[dT,sT] }) (hu:P.underlying dT=some (.slice 2)) (hsz:(P.info? 2).map (·.size)=some 1)
  (A:Option Addr) (N c e k c1:Nat) (L:List Int) (B:Option Addr) (d1:Nat) (ys:List Int) (base:Nat)
  (P1:Option Addr) (hP1:Zax A c e=P1) (hd:a.eval d=.slice P1 k c1) (hs:a.eval s=.slice B k d1)
  (hown:w.ownsRow base 2 1 (.slice A N c) N (iv L)) (hL:L.length=N) (he:e+k<=N) (hyl:ys.length=k) (hy:Rd w 1 B k (iv ys))
  (h:∀w',w'.ownsRow base 2 1 (.slice A N c) N (iv (L.take e++(ys++L.drop (e+k))))->w.grownBy w' (Value.slice A N c).ownBlock->wpList P ops Q rest (a.put o.dst (goInt k)) w') :
  wpList P ops Q (o::rest) a w:=by
 subst hP1
 rcases Nat.eq_zero_or_pos k with h0|h0
 ·subst h0;have hy0:ys=[]:=List.eq_nil_of_length_eq_zero hyl;refine wpList_copy_nothing hgd d s dT sT ho 2 hu hsz _ _ 0 c1 0 d1 hd hs rfl (h w ?_ (World.grownBy.refl _ _));rw[hy0,List.nil_append,Nat.add_zero,List.take_append_drop];exact hown
 ·obtain⟨g,rfl,hp⟩:=Zp0 (e:=e) hown h0 he;rw[hp] at hd;obtain⟨b,o',rfl,hlt,hcell⟩:=hy.2 h0
  rcases hown.2 with⟨h1,h2⟩|⟨g',cap,cur,h1,hbg,hh,hnc,hcm,hcs,htk⟩
  ·omega
  ·injection h1 with h1 h3 h4
   injection h1 with h1
   injection h1 with h1
   subst h1 h4;rw[Nat.mul_one] at hcs htk;have hcl:cur.toList.length=c:=by rw[Array.length_toList];exact hcs
   have hivl:(iv ys).length=k:=by simp[iv,hyl]
   have hgy:w.grownBy (w.setRow g (cur.toList.take e++(iv ys++cur.toList.drop (e+(iv ys).length))).toArray) (some g):=⟨rfl,rfl,rfl,by simp,fun k' _ hk=>setRow_other w g k' _ (fun e'=>hk (by rw[e']))⟩;have hH:=setRow_heap w g cur (cur.toList.take e++(iv ys++cur.toList.drop (e+(iv ys).length))).toArray 2 (0,0) hh;refine wpList_copy_own hgd d s dT sT ho 2 hu hsz g e k c1 ⟨b,o',none⟩ k d1 hd hs cur 2 hh (iv ys) (by rw[hivl];exact(Nat.min_self k).symm) (fun j v hj=>?_) (by rw[hivl];omega) (Znm ys) ?_
   ·have:=hcell j v hj;have e1:(⟨b,o',none⟩:Addr).add j=⟨b,o'+j,none⟩:=by unfold Addr.add;by_cases hj0:j=0<;>simp[hj0]
    rw[e1];exact this
   ·rw[show goInt (iv ys).length=goInt k by rw[hivl]];refine h _ ⟨?_,.inr ⟨g,c,_,rfl,hbg,hH,hnc,hcm,?_,?_⟩⟩ hgy
    ·simp[iv,hyl,hL];omega
    ·simp[hivl,hcs];omega
    ·rw[Nat.mul_one,hivl,List.toList_toArray];have hLt:iv L=cur.toList.take N:=htk.symm;have hm:∀(l:List Int) (a:Nat),iv (l.take a)=(iv l).take a:=fun l a=>by simp[iv]
     have hm2:∀(l:List Int) (a:Nat),iv (l.drop a)=(iv l).drop a:=fun l a=>by simp[iv]
     have hm3:∀(l l':List Int),iv (l++l')=iv l++iv l':=fun l l'=>by simp[iv]
     rw[hm3,hm3,hm,hm2,hLt,List.take_take,List.drop_take,Nat.min_eq_left (by omega)];rw[List.take_append,YaX (by simp;omega),List.take_append,YaX (l:=iv ys) (by simp[hivl,hcl];omega)];simp[hivl,hcl];rw[Nat.min_eq_left (show e<=c by omega),show N-e-k=N-(e+k) by omega]
theorem Zcm{P:Program}{T:TypeId}{A:Option Addr}{n c e e2 k c1:Nat}{P1:Option Addr}(hT:P.underlying T=some (.slice (P.elem T)))(hz:∀W,(sizeOf (P.elem T)).run P W=.ok 1 W)(he:e<=e2)(h2:e2<=c)(hk:e2-e=k)(hc:c-e=c1)(hP:Zax A c e=P1)(W:World) :
  (Instr.slice T (.slice A n c) (some (.int .i64 e)) (some (.int .i64 e2)) none).run P W=.ok (.slice P1 k c1) W:=by
 rw[run_slice_lh W T A n c hT .i64 .i64 e e2 (by omega) (by omega) (by omega),hz];subst hk hc hP;rfl
abbrev Zas(n:Nat):List Int:=List.replicate n 0
theorem ZeN(n:Nat):(madeCells (Value.int .i64 0).cells (n*1)).toList=iv (Zas n):=by
 rw[Nat.mul_one];exact(toList_madeCells_one _ _).trans (by simp[iv,Zas])
def ZuE(w:World)(r q n:Nat)(en:Ending)(w':World):Prop:=
 ∃A c,en=.returned (.agg #[.int .i64 r,.int .i64 q,.slice A n c])/\w'.ownsRow w.heap.size 2 1 (.slice A n c) n (iv (Zas n))/\Below w.heap.size w w'
theorem ZwS{w:World}{g:Nat}{t:TypeId}{x y z:Value}(h:Blk w g t #[x,y,z])(a b c:Value) :
  w.grownBy (((w.setCell ⟨g,0,none⟩ a).setCell ⟨g,1,none⟩ b).setCell ⟨g,2,none⟩ c) (some g)/\Blk (((w.setCell ⟨g,0,none⟩ a).setCell ⟨g,1,none⟩ b).setCell ⟨g,2,none⟩ c) g t #[a,b,c]:=
 ⟨Zak (p:=⟨g,2,none⟩) (Zak (p:=⟨g,1,none⟩) (Zak (p:=⟨g,0,none⟩) (World.grownBy.refl w _) (.inl rfl) a) (.inl rfl) b) (.inl rfl) c,by simpa using ((h.set_ 0 a).set_ 1 b).set_ 2 c⟩
