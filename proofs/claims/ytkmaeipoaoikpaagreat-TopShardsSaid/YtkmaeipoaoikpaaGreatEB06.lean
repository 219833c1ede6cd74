/- FixpPlain, Fixp, Fixp2. -/
import Derived.Test.YtkmaeipoaoikpaaGreatShelf
import Derived.Deep.DeepCutAuto
import Derived.Test.YtkmaeipoaoikpaaGreatEB01
namespace Go.Proofs.YtkmaeipoaoikpaaGreat
set_option linter.all false
set_option maxRecDepth 100000
set_option maxHeartbeats 2000000
open Lib (hid)
section
open Go.RowKit
def pHi (a b : Int) : Int := a * b / 18446744073709551616
def pLo (a b : Int) : Int := a * b % 18446744073709551616
def shV (h l : Int) (q : Nat) : Int := wrap64 ((h * 18446744073709551616 + l) / 2 ^ q)
def mulV (a b : Int) (q : Nat) : Int := wrap64 (a * b / 2 ^ q)
theorem pow_split (q : Nat) (h : q <= 64) : (2 : Int) ^ q * 2 ^ (64 - q) = 18446744073709551616 := by
 rw [<- Int.pow_add,show q + (64 - q) = 64 by omega]
 rfl
theorem pow_pos' (q : Nat) : (0 : Int) < 2 ^ q := Int.pow_pos (by omega)
theorem wrap64_mod (x : Int) : wrap64 (x % 18446744073709551616) = wrap64 x := by unfold wrap64; omega
theorem wrap64_add_mul (x k : Int) : wrap64 (x + k * 18446744073709551616) = wrap64 x := by unfold wrap64; omega
theorem wrap64_id (x : Int) (h1 : -9223372036854775808 <= x) (h2 : x <= 9223372036854775807) : wrap64 x = x := by unfold wrap64; omega
theorem wu (x : Int) : IntKind.u64.wrap x = x % 18446744073709551616 := IntKind.wrap_u64 x
theorem or_add (a b : Int) (k : Nat) (hk : k <= 64) (ha0 : 0 <= a) (ha : a < 18446744073709551616) (hb0 : 0 <= b) (hb : b < 2 ^ k) (hd : a % 2 ^ k = 0) : bits .or .u64 a b = a + b := by
 obtain ⟨x,rfl⟩ := Int.eq_ofNat_of_zero_le ha0
 obtain ⟨y,rfl⟩ := Int.eq_ofNat_of_zero_le hb0
 have hy : y < 2 ^ k := by
  have : ((2 ^ k : Nat) : Int) = (2 : Int) ^ k := by simp
  omega
 have h64 : 2 ^ k <= 2 ^ 64 := Nat.pow_le_pow_right (by omega) hk
 rw [u64_or_nat x y (by omega) (by omega)]
 have hx : x % 2 ^ k = 0 := by
  have : ((x % 2 ^ k : Nat) : Int) = 0 := by simpa using hd
  omega
 have e : x = 2 ^ k * (x / 2 ^ k) := by have := Nat.div_add_mod x (2 ^ k); omega
 rw [e,<- Nat.two_pow_add_eq_or_of_lt hy]
 simp
theorem or_add' (a b : Int) (k : Nat) (hk : k <= 64) (ha0 : 0 <= a) (ha : a < 18446744073709551616) (hb0 : 0 <= b) (hb : b < 2 ^ k) (hd : a % 2 ^ k = 0) : bits .or .u64 b a = a + b := by
 rw [<- or_add a b k hk ha0 ha hb0 hb hd]
 obtain ⟨x,rfl⟩ := Int.eq_ofNat_of_zero_le ha0
 obtain ⟨y,rfl⟩ := Int.eq_ofNat_of_zero_le hb0
 have hy : y < 2 ^ k := by
  have : ((2 ^ k : Nat) : Int) = (2 : Int) ^ k := by simp
  omega
 have h64 : 2 ^ k <= 2 ^ 64 := Nat.pow_le_pow_right (by omega) hk
 rw [u64_or_nat x y (by omega) (by omega),u64_or_nat y x (by omega) (by omega),Nat.or_comm]
theorem mul_emod_split (h : Int) (n k : Int) (hk : 0 < k) : (h * k) % (n * k) = (h % n) * k := by
 rw [Int.mul_comm h k,Int.mul_comm n k,Int.mul_emod_mul_of_pos _ _ hk,Int.mul_comm]
theorem emod_mul_left' (h k m : Int) : (h % m * k) % m = (h * k) % m := by
 rw [Int.mul_emod (h % m) k,Int.emod_emod,<- Int.mul_emod]
theorem shift_eq (h l : Int) (q : Nat) (hq : q <= 63) (hl0 : 0 <= l) (hl : l < 18446744073709551616) :
  wrap64 (bits .or .u64 (IntKind.u64.wrap (IntKind.u64.wrap h * 2 ^ (64 - q))) (l / 2 ^ q)) = shV h l q := by
 have hM := pow_split q (by omega)
 have hN := pow_pos' q
 have hK := pow_pos' (64 - q)
 rw [wu,wu,emod_mul_left']
 unfold shV
 generalize hNe : (2 : Int) ^ q = N at *
 have e1 : h * 2 ^ (64 - q) % 18446744073709551616 = (h % N) * 2 ^ (64 - q) := by rw [<- hM,mul_emod_split _ _ _ hK]
 have hd : (h % N) * 2 ^ (64 - q) % 2 ^ (64 - q) = 0 := by rw [Int.mul_emod_left]
 have hb : l / N < 2 ^ (64 - q) := Int.ediv_lt_of_lt_mul hN (by rw [Int.mul_comm,hM]; exact hl)
 have hb0 : 0 <= l / N := Int.ediv_nonneg hl0 (by omega)
 have ha := Int.emod_lt_of_pos (h * 2 ^ (64 - q)) (show (0 : Int) < 18446744073709551616 by omega)
 have ha0 := Int.emod_nonneg (h * 2 ^ (64 - q)) (show (18446744073709551616 : Int) ≠ 0 by omega)
 rw [e1] at ha ha0
 rw [e1,or_add _ _ (64 - q) (by omega) ha0 ha hb0 hb hd]
 generalize hKe : (2 : Int) ^ (64 - q) = K at *
 have e2 : (h * 18446744073709551616 + l) / N = h * K + l / N := by
  rw [<- hM,show h * (N * K) = N * (h * K) by rw [Int.mul_left_comm],Int.mul_add_ediv_left _ _ (by omega)]
 have e3 : h * K = (h % N) * K + (h / N) * 18446744073709551616 := by
  have := Int.emod_add_mul_ediv h N
  calc h * K = (h % N + N * (h / N)) * K := by rw [this]
   _ = (h % N) * K + (h / N) * 18446744073709551616 := by rw [Int.add_mul,<- hM,Int.mul_right_comm,Int.mul_comm (N * K)]
 rw [e2,e3,show (h % N) * K + (h / N) * 18446744073709551616 + l / N = (h % N) * K + l / N + (h / N) * 18446744073709551616 by omega,wrap64_add_mul]
theorem ediv_pow_succ (x : Int) (k : Nat) : x / 2 ^ (k + 1) = x / 2 ^ k / 2 := by
 have h := @Int.ediv_ediv x (2 ^ k) 2
 rw [if_neg (by have := pow_pos' k; omega)] at h
 rw [h,Int.pow_succ,Int.sub_zero]
theorem shift_step (hh ll V : Int) (h1 : hh = V / 18446744073709551616) (h2 : ll = V % 18446744073709551616) :
  hh / 2 = V / 2 / 18446744073709551616 /\ bits .or .u64 (ll / 2) (IntKind.u64.wrap (IntKind.u64.wrap hh * 9223372036854775808)) = V / 2 % 18446744073709551616 := by
 refine ⟨by omega,?_⟩
 rw [wu,wu,emod_mul_left',or_add' _ _ 63 (by omega) (by omega) (by omega) (by omega) (by omega) (by omega)]
 omega
theorem prod_bound (a b : Int) (ha : -9223372036854775808 <= a /\ a <= 9223372036854775807) (hb : -9223372036854775808 <= b /\ b <= 9223372036854775807) :
  -85070591730234615865843651857942052864 <= a * b /\ a * b <= 85070591730234615865843651857942052864 := by
 have h : (a * b).natAbs <= 9223372036854775808 * 9223372036854775808 := by
  rw [Int.natAbs_mul]
  exact Nat.mul_le_mul (by omega) (by omega)
 omega
theorem pHi_range (a b : Int) (ha : -9223372036854775808 <= a /\ a <= 9223372036854775807) (hb : -9223372036854775808 <= b /\ b <= 9223372036854775807) : -9223372036854775808 <= pHi a b /\ pHi a b <= 9223372036854775807 := by
 have := prod_bound a b ha hb
 unfold pHi
 omega
theorem pLo_range (a b : Int) : 0 <= pLo a b /\ pLo a b < 18446744073709551616 := by unfold pLo; omega
theorem p_whole (a b : Int) : pHi a b * 18446744073709551616 + pLo a b = a * b := by unfold pHi pLo; omega
theorem prod_lo (a b : Int) : IntKind.u64.wrap a * IntKind.u64.wrap b % 18446744073709551616 = pLo a b := by
 rw [wu,wu,<- Int.mul_emod]; rfl
theorem prod_hi (a b : Int) (ha : -9223372036854775808 <= a /\ a <= 9223372036854775807) (hb : -9223372036854775808 <= b /\ b <= 9223372036854775807) :
  wrap64 (wrap64 (wrap64 (IntKind.u64.wrap a * IntKind.u64.wrap b / 18446744073709551616) - (if a < 0 then b else 0)) - (if b < 0 then a else 0)) = pHi a b := by
 have hp := prod_bound a b ha hb
 rw [wu,wu]
 unfold pHi
 have ea : a % 18446744073709551616 = a + (if a < 0 then 1 else 0) * 18446744073709551616 := by split <;> omega
 have eb : b % 18446744073709551616 = b + (if b < 0 then 1 else 0) * 18446744073709551616 := by split <;> omega
 rw [ea,eb]
 generalize hP : a * b = P at *
 have key : ∀ x y : Int,(a + x * 18446744073709551616) * (b + y * 18446744073709551616) = P + (y * a + x * b + x * y * 18446744073709551616) * 18446744073709551616 := by
  intro x y
  rw [<- hP]
  simp only [Int.add_mul,Int.mul_add,<- Int.mul_assoc]
  rw [Int.mul_comm a y,Int.mul_right_comm x 18446744073709551616 b,Int.mul_right_comm x 18446744073709551616 y]
  omega
 rw [key]
 split <;> split <;> (simp only [Int.one_mul,Int.zero_mul,Int.mul_zero,Int.mul_one]; unfold wrap64; omega)
def sgOf (a : Int) : Int := if a < 0 then 18446744073709551615 else 0
theorem xl_eq (a : Int) (k : Nat) : IntKind.u64.wrap (IntKind.u64.wrap a * 2 ^ k) = a * 2 ^ k % 18446744073709551616 := by rw [wu,wu,emod_mul_left']
theorem pow_le_M (k : Nat) (h : k <= 64) : (2 : Int) ^ k <= 18446744073709551616 := by
 have h64 : 2 ^ k <= 2 ^ 64 := Nat.pow_le_pow_right (by omega) h
 have : ((2 ^ k : Nat) : Int) = (2 : Int) ^ k := by simp
 omega
theorem xh_eq (a : Int) (k : Nat) (hk : k <= 63) (ha : -9223372036854775808 <= a /\ a <= 9223372036854775807) :
  bits .or .u64 (IntKind.u64.wrap (sgOf a * 2 ^ k)) (IntKind.u64.wrap a / 2 ^ (64 - k)) = a * 2 ^ k / 18446744073709551616 % 18446744073709551616 := by
 have hM := pow_split k (by omega)
 have hN := pow_pos' (64 - k)
 have hK := pow_pos' k
 have hKM := pow_le_M k (by omega)
 rw [wu,wu]
 generalize hNe : (2 : Int) ^ (64 - k) = N at *
 have e1 : a * 2 ^ k / 18446744073709551616 = a / N := by
  rw [<- hM,Int.mul_comm a,Int.mul_ediv_mul_of_pos _ _ hK]
 rw [e1]
 unfold sgOf
 by_cases h : a < 0
 ·rw [if_pos h]
  have e2 : a % 18446744073709551616 / N = a / N + 2 ^ k := by
   rw [show a % 18446744073709551616 = a + 2 ^ k * N by rw [hM]; omega,Int.add_mul_ediv_right _ _ (by omega)]
  have e3 : (18446744073709551615 : Int) * 2 ^ k % 18446744073709551616 = 18446744073709551616 - 2 ^ k := by
   generalize (2 : Int) ^ k = K at *
   omega
  have hd : (18446744073709551616 - (2 : Int) ^ k) % 2 ^ k = 0 := by
   rw [<- hM,show (2 : Int) ^ k * N - 2 ^ k = 2 ^ k * (N - 1) by rw [Int.mul_sub,Int.mul_one],Int.mul_emod_right]
  have hq1 : -(2 ^ k) <= a / N := (Int.le_ediv_iff_mul_le hN).2 (by rw [Int.neg_mul,hM]; omega)
  have hq2 : a / N < 0 := Int.ediv_neg_of_neg_of_pos h hN
  rw [e2,e3,or_add _ _ k (by omega) (by omega) (by omega) (by omega) (by omega) hd]
  generalize (2 : Int) ^ k = K at *
  generalize a / N = x at *
  omega
 ·rw [if_neg h]
  have e2 : a % 18446744073709551616 = a := by omega
  have hq1 : 0 <= a / N := Int.ediv_nonneg (by omega) (by omega)
  have hq2 : a / N < 2 ^ k := Int.ediv_lt_of_lt_mul hN (by rw [hM]; omega)
  rw [e2,Int.zero_mul,or_add _ _ k (by omega) (by omega) (by omega) hq1 hq2 (by simp)]
  generalize (2 : Int) ^ k = K at *
  generalize a / N = x at *
  omega
theorem xh_zero (a : Int) (ha : -9223372036854775808 <= a /\ a <= 9223372036854775807) : sgOf a = a * 2 ^ 0 / 18446744073709551616 % 18446744073709551616 := by
 unfold sgOf
 rw [Int.pow_zero,Int.mul_one]
 split <;> omega
theorem not_u64 (x : Int) (h0 : 0 <= x) (h : x < 18446744073709551616) : bits .xor .u64 (if IntKind.u64.signed = true then -1 else IntKind.u64.max) x = 18446744073709551615 - x := by
 obtain ⟨n,rfl⟩ := Int.eq_ofNat_of_zero_le h0
 have e : (if IntKind.u64.signed = true then (-1 : Int) else IntKind.u64.max) = ((18446744073709551615 : Nat) : Int) := by decide
 rw [e,u64_xor_nat _ n (by omega) (by omega)]
 have h1 : (18446744073709551615 ^^^ n : Nat) = ((BitVec.allOnes 64) ^^^ (BitVec.ofNat 64 n)).toNat := by
  rw [BitVec.toNat_xor,BitVec.toNat_ofNat,Nat.mod_eq_of_lt (by omega),BitVec.toNat_allOnes]
 rw [h1,BitVec.allOnes_xor,BitVec.toNat_not,BitVec.toNat_ofNat,Nat.mod_eq_of_lt (by omega)]
 omega
def Two (T hi lo : Int) : Prop := hi = T / 18446744073709551616 % 18446744073709551616 /\ lo = T % 18446744073709551616
theorem Two.add_carry {S X hi lo xh xl : Int} (h : Two S hi lo) (x : Two X xh xl) (hc : IntKind.u64.wrap (lo + xl) < lo) : Two (S + X) (IntKind.u64.wrap (IntKind.u64.wrap (hi + 1) + xh)) (IntKind.u64.wrap (lo + xl)) := by
 obtain ⟨h1,h2⟩ := h
 obtain ⟨x1,x2⟩ := x
 unfold Two
 simp only [wu] at *
 omega
theorem Two.add_plain {S X hi lo xh xl : Int} (h : Two S hi lo) (x : Two X xh xl) (hc : lo <= IntKind.u64.wrap (lo + xl)) : Two (S + X) (IntKind.u64.wrap (hi + xh)) (IntKind.u64.wrap (lo + xl)) := by
 obtain ⟨h1,h2⟩ := h
 obtain ⟨x1,x2⟩ := x
 unfold Two
 simp only [wu] at *
 omega
theorem Two.neg_zero {X xh xl nh nl : Int} (x : Two X xh xl) (h1 : nl = 18446744073709551615 - xl) (h2 : nh = 18446744073709551615 - xh) (hz : IntKind.u64.wrap (nl + 1) = 0) : Two (-X) (IntKind.u64.wrap (nh + 1)) (IntKind.u64.wrap (nl + 1)) := by
 obtain ⟨x1,x2⟩ := x
 unfold Two
 simp only [wu] at *
 omega
theorem Two.neg_some {X xh xl nh nl : Int} (x : Two X xh xl) (h1 : nl = 18446744073709551615 - xl) (h2 : nh = 18446744073709551615 - xh) (hz : IntKind.u64.wrap (nl + 1) ≠ 0) : Two (-X) nh (IntKind.u64.wrap (nl + 1)) := by
 obtain ⟨x1,x2⟩ := x
 unfold Two
 simp only [wu] at *
 omega
theorem Two.range {T hi lo : Int} (h : Two T hi lo) : (0 <= hi /\ hi < 18446744073709551616) /\ 0 <= lo /\ lo < 18446744073709551616 := by
 obtain ⟨h1,h2⟩ := h
 omega
def prT (a b : Int) (k : Nat) : Int := if k < 64 then a * (b % 18446744073709551616 % 2 ^ k) else a * b
theorem emod_pow_succ (x : Int) (k : Nat) : x % 2 ^ (k + 1) = x % 2 ^ k + x / 2 ^ k % 2 * 2 ^ k := by
 have h1 := Int.emod_add_mul_ediv x (2 ^ k)
 have h2 := Int.emod_add_mul_ediv (x / 2 ^ k) 2
 have h3 := Int.emod_add_mul_ediv x (2 ^ (k + 1))
 rw [ediv_pow_succ,Int.pow_succ] at h3
 rw [Int.pow_succ]
 generalize x / 2 ^ k = y at *
 generalize (2 : Int) ^ k = K at *
 have h4 : K * y = K * (y % 2) + K * 2 * (y / 2) := by
  calc K * y = K * (y % 2 + 2 * (y / 2)) := by rw [h2]
   _ = K * (y % 2) + K * 2 * (y / 2) := by rw [Int.mul_add,Int.mul_assoc]
 rw [Int.mul_comm (y % 2) K]
 generalize K * y = p at *
 generalize K * (y % 2) = r at *
 generalize K * 2 * (y / 2) = t at *
 omega
theorem prT_zero (a b : Int) : prT a b 0 = 0 := by unfold prT; simp
theorem bit_is (b : Int) (k : Nat) : bits .and .u64 (IntKind.u64.wrap b / 2 ^ k) 1 = b % 18446744073709551616 / 2 ^ k % 2 := by
 have hK := pow_pos' k
 have h0 : 0 <= b % 18446744073709551616 / 2 ^ k := Int.ediv_nonneg (by omega) (by omega)
 have h1 : b % 18446744073709551616 / 2 ^ k <= b % 18446744073709551616 := Int.ediv_le_self _ (by omega)
 rw [wu,and_one_u64 _ h0 (by omega)]
theorem prT_skip (a b : Int) (k : Nat) (hk : k < 64) (hb : -9223372036854775808 <= b /\ b <= 9223372036854775807) (h : (bits .and .u64 (IntKind.u64.wrap b / 2 ^ k) 1 == 0) = true) : prT a b (k + 1) = prT a b k := by
 rw [beq_iff_eq,bit_is] at h
 unfold prT
 rw [if_pos hk]
 have e := emod_pow_succ (b % 18446744073709551616) k
 rw [h,Int.zero_mul,Int.add_zero] at e
 by_cases h63 : k + 1 < 64
 ·rw [if_pos h63,e]
 ·obtain rfl : k = 63 := by omega
  rw [if_neg h63]
  congr 1
  omega
theorem prT_step (a b : Int) (k : Nat) (hk : k < 63) (h : (bits .and .u64 (IntKind.u64.wrap b / 2 ^ k) 1 == 0) = false) : prT a b (k + 1) = prT a b k + a * 2 ^ k := by
 rw [beq_eq_false_iff_ne,bit_is] at h
 unfold prT
 rw [if_pos (by omega),if_pos (by omega),emod_pow_succ,show b % 18446744073709551616 / 2 ^ k % 2 = 1 by omega,Int.one_mul,Int.mul_add]
theorem prT_last (a b : Int) (hb : -9223372036854775808 <= b /\ b <= 9223372036854775807) (h : (bits .and .u64 (IntKind.u64.wrap b / 2 ^ 63) 1 == 0) = false) : prT a b (63 + 1) = prT a b 63 + -(a * 2 ^ 63) := by
 rw [beq_eq_false_iff_ne,bit_is] at h
 unfold prT
 rw [if_neg (by omega),if_pos (by omega),show b = b % 18446744073709551616 % 2 ^ 63 + -(2 ^ 63) by omega,Int.mul_add,Int.mul_neg]
 congr 2
 omega
theorem Two.done {a b hi lo : Int} (h : Two (prT a b 64) hi lo) (ha : -9223372036854775808 <= a /\ a <= 9223372036854775807) (hb : -9223372036854775808 <= b /\ b <= 9223372036854775807) : wrap64 hi = pHi a b /\ lo = pLo a b := by
 have hr := pHi_range a b ha hb
 obtain ⟨h1,h2⟩ := h
 have e : prT a b 64 = a * b := rfl
 rw [e] at h1 h2
 refine ⟨?_,h2⟩
 rw [h1,wrap64_mod]
 exact wrap64_id _ hr.1 hr.2
theorem mul64_any (x y : Int) (w : World) : Calls Tryz.prog 271 #[.int .u64 (IntKind.u64.wrap x),.int .u64 (IntKind.u64.wrap y)] w fun e w' =>
  e = .returned (.tuple #[.int .u64 (IntKind.u64.wrap x * IntKind.u64.wrap y / 18446744073709551616),.int .u64 (pLo x y)]) /\ w = w' := by
 have hx : 0 <= IntKind.u64.wrap x /\ IntKind.u64.wrap x < 18446744073709551616 := by rw [wu]; omega
 have hy : 0 <= IntKind.u64.wrap y /\ IntKind.u64.wrap y < 18446744073709551616 := by rw [wu]; omega
 rw [<- prod_lo x y]
 obtain ⟨a,ha⟩ := Int.eq_ofNat_of_zero_le hx.1
 obtain ⟨b,hb⟩ := Int.eq_ofNat_of_zero_le hy.1
 rw [ha] at hx ⊢
 rw [hb] at hy ⊢
 refine (Tryz.bits_Mul64 a b (by omega) (by omega) w).mono ?_
 rintro e w' ⟨rfl,rfl⟩
 exact ⟨by simp,rfl⟩
def hiAt (h a b : Int) : Nat -> Int
 | 0 => wrap64 h
 | 1 => wrap64 (wrap64 h - (if a < 0 then b else 0))
 | _ => wrap64 (wrap64 (wrap64 h - (if a < 0 then b else 0)) - (if b < 0 then a else 0))
theorem wrap64_wrap64 (x : Int) : wrap64 (wrap64 x) = wrap64 x := by unfold wrap64; omega
theorem product_any (a b : Int) (w : World) (ha : -9223372036854775808 <= a /\ a <= 9223372036854775807) (hb : -9223372036854775808 <= b /\ b <= 9223372036854775807) :
  Calls Tryz.prog 249 #[.int .i64 a,.int .i64 b] w fun e w' => e = .returned (.tuple #[.int .i64 (pHi a b),.int .u64 (pLo a b)]) /\ Below w.heap.size w w' := by
 have HP := hid (prod_hi a b ha hb)
 clear ha hb
 have i0 : ∀ w,(Instr.index 415 (.agg #[.int .i64 a,.int .i64 b,.int .i64 b,.int .i64 a]) (.int .i64 0)).run Tryz.prog w = .ok (.agg #[.int .i64 a,.int .i64 b]) w := fun _ => by kernel_rfl
 have i1 : ∀ w,(Instr.index 415 (.agg #[.int .i64 a,.int .i64 b,.int .i64 b,.int .i64 a]) (.int .i64 1)).run Tryz.prog w = .ok (.agg #[.int .i64 b,.int .i64 a]) w := fun _ => by kernel_rfl
 go_enter Tryz.func249,Tryz.ntmps249
 go_wp2_with fail
 ((with_reducible refine (mul64_any a b _).mono ?_); rintro e w1 ⟨rfl,rfl⟩)
 generalize IntKind.u64.wrap a * IntKind.u64.wrap b / 18446744073709551616 = h at *
 go_wp2_with fail
 go_loopw [4,26] (fun v c wr => ∃ (k : Nat) (x : Int),k <= 2 /\ c = .int .i64 k /\ v = .int .i64 x /\ Hid (x = hiAt h a b k) /\ Below w.heap.size w wr) (fun _ c _ => 2 - (intOf c).toNat)
 case atStart => exact ⟨0,_,by omega,rfl,rfl,hid rfl,Below.refl _ _⟩
 case round =>
  obtain ⟨k,x,hk,rfl,rfl,hx,hb⟩ := hrel
  by_cases hlt : k < 2
  ·by_cases h0 : k = 0
   ·subst h0
    by_cases ha : a < 0
    all_goals
     go_wp2
     go_roundw
     case rel => exact ⟨1,_,by omega,rfl,rfl,hid (by have := hx.out; simp only [hiAt] at this ⊢; rw [this]; simp [ha,wrap64_wrap64]),hb.alloc hb.size _⟩
     case measure => simp [intOf]
   ·obtain rfl : k = 1 := by omega
    by_cases ha : b < 0
    all_goals
     go_wp2
     go_roundw
     case rel => exact ⟨2,_,by omega,rfl,rfl,hid (by have := hx.out; simp only [hiAt] at this ⊢; rw [this]; simp [ha,wrap64_wrap64]),hb.alloc hb.size _⟩
     case measure => simp [intOf]
  ·obtain rfl : k = 2 := by omega
   go_wp2
   go_ret2
   exact ⟨ret_pair (congrArg (Value.int .i64) (by rw [<- HP.out]; exact hx.out)),hb⟩
theorem shift_any (h l : Int) (q : Nat) (w : World) (hq : q <= 63) (hl0 : 0 <= l) (hl : l < 18446744073709551616) :
  Calls Tryz.prog 250 #[.int .i64 h,.int .u64 l,.int .i64 q] w fun e w' => e = .returned (.int .i64 (shV h l q)) /\ ∃ n,w' = w.drewN n := by
 have HS := hid (shift_eq h l q hq hl0 hl)
 have q3 : IntKind.i64.wrap (64 - (q : Int)) = 64 - (q : Int) := IntWalk.i64_in _ (by omega)
 have q4 : 0 <= 64 - (q : Int) := by omega
 have q5 : (64 - (q : Int)).toNat = 64 - q := by omega
 clear hl
 go_enter Tryz.func250,Tryz.ntmps250
 go_wp2_with fail
 go_quiet (fail)
 go_wp2
 go_ret
 exact ⟨ret_int HS.out,_,rfl⟩
def ShAt (h l : Int) (k : Nat) (hh ll : Int) : Prop := hh = (h * 18446744073709551616 + l) / 2 ^ k / 18446744073709551616 /\ ll = (h * 18446744073709551616 + l) / 2 ^ k % 18446744073709551616
theorem ShAt.start (h l : Int) (hl0 : 0 <= l) (hl : l < 18446744073709551616) : ShAt h l 0 h l := by
 unfold ShAt
 simp only [Int.pow_zero,Int.ediv_one]
 omega
theorem ShAt.next {h l hh ll : Int} {k : Nat} (s : ShAt h l k hh ll) : ShAt h l (k + 1) (hh / 2) (bits .or .u64 (ll / 2) (IntKind.u64.wrap (IntKind.u64.wrap hh * 9223372036854775808))) := by
 obtain ⟨h1,h2⟩ := s
 have := shift_step hh ll _ h1 h2
 unfold ShAt
 rw [ediv_pow_succ]
 exact this
theorem ShAt.done {h l hh ll : Int} {k : Nat} (s : ShAt h l k hh ll) : wrap64 ll = shV h l k := by
 rw [s.2,wrap64_mod]
 rfl
theorem refShift_any (h l : Int) (q : Nat) (w : World) (hq : q <= 63) (hl0 : 0 <= l) (hl : l < 18446744073709551616) :
  Calls Tryz.prog 212 #[.int .i64 h,.int .u64 l,.int .i64 q] w fun e w' => e = .returned (.int .i64 (shV h l q)) /\ w = w' := by
 have d1 : decide ((q : Int) < 0) = false := decide_eq_false (by omega)
 have d2 : decide (63 < (q : Int)) = false := decide_eq_false (by omega)
 have HS := hid (ShAt.start h l hl0 hl)
 clear hl hl0
 go_enter Tryz.func212,Tryz.ntmps212
 go_wp2_with fail
 go_loop [0,1,7] (fun x y c => ∃ (k : Nat) (hh ll : Int),k <= q /\ c = .int .i64 k /\ x = .int .i64 hh /\ y = .int .u64 ll /\ Hid (ShAt h l k hh ll)) (fun _ _ c => 64 - (intOf c).toNat)
 case atStart => exact ⟨0,h,l,by omega,rfl,rfl,rfl,HS⟩
 case round =>
  obtain ⟨k,hh,ll,hk,rfl,rfl,rfl,hs⟩ := hrel
  by_cases hlt : k < q
  ·go_wp2
   go_round
   case rel => exact ⟨k + 1,_,_,by omega,by go_num,rfl,rfl,hid hs.out.next⟩
   case measure => simp [intOf]; omega
  ·obtain rfl : k = q := by omega
   go_wp2
   go_ret
   exact ⟨ret_int hs.out.done,rfl⟩
theorem refProduct_any (a b : Int) (w : World) (ha : -9223372036854775808 <= a /\ a <= 9223372036854775807) (hb : -9223372036854775808 <= b /\ b <= 9223372036854775807) :
  Calls Tryz.prog 211 #[.int .i64 a,.int .i64 b] w fun e w' => e = .returned (.tuple #[.int .i64 (pHi a b),.int .u64 (pLo a b)]) /\ w = w' := by
 have HA := hid ha
 have HB := hid hb
 clear ha hb
 go_enter Tryz.func211,Tryz.ntmps211
 go_upto_if 14 with (fail)
 go_cut [8] (fun s8 wx => ∃ sg : Int,s8 = .int .u64 sg /\ Hid (sg = sgOf a) /\ w = wx)
 case first =>
  by_cases han : a < 0
  ·go_wp2_with fail
   go_meet
   exact ⟨_,rfl,hid (by simp [sgOf,han]),rfl⟩
  ·go_wp2_with fail
   go_meet
   exact ⟨_,rfl,hid (by simp [sgOf,han]),rfl⟩
 case rest =>
  obtain ⟨sg,rfl,hsg,rfl⟩ := hcut
  go_wp2_with fail
  go_loop [6,7,9] (fun x y c => ∃ (k : Nat) (hi lo : Int),k <= 64 /\ c = .int .i64 k /\ x = .int .u64 hi /\ y = .int .u64 lo /\ Hid (Two (prT a b k) hi lo)) (fun _ _ c => 64 - (intOf c).toNat)
  case atStart => exact ⟨0,0,0,by omega,rfl,rfl,rfl,hid (by rw [prT_zero]; exact ⟨rfl,rfl⟩)⟩
  case round =>
   obtain ⟨k,hi,lo,hk,rfl,rfl,rfl,hT⟩ := hrel
   by_cases hlt : k < 64
   ·cases hbit : (bits BinOp.and IntKind.u64 (IntKind.u64.wrap b / 2 ^ k) 1 == 0) with
    | true =>
     go_wp2
     go_round
     case rel => exact ⟨k + 1,hi,lo,by omega,by go_num,rfl,rfl,hid (by rw [prT_skip a b k hlt HB.out hbit]; exact hT.out)⟩
     case measure => simp [intOf]; omega
    | false =>
     obtain ⟨xl,hxl⟩ : ∃ x,IntKind.u64.wrap (IntKind.u64.wrap a * 2 ^ k) = x := ⟨_,rfl⟩
     have HXL := hid (hxl.symm.trans (xl_eq a k))
     by_cases hk0 : k = 0
     ·have HX : Hid (Two (a * 2 ^ k) sg xl) := hid ⟨hsg.out.trans (by rw [hk0]; exact xh_zero a HA.out),HXL.out⟩
      have g0 : k <= 0 := by omega
      have t1 : ((k : Int) == 63) = false := by simp; omega
      have HS := hid (prT_step a b k (by omega) hbit)
      clear hk0
      go_wp2
      ·go_round
       case rel => exact ⟨k + 1,_,_,by omega,by go_num,rfl,rfl,hid (by rw [HS.out]; exact hT.out.add_carry HX.out ‹_›)⟩
       case measure => simp [intOf]; omega
      ·go_round
       case rel => exact ⟨k + 1,_,_,by omega,by go_num,rfl,rfl,hid (by rw [HS.out]; exact hT.out.add_plain HX.out ‹_›)⟩
       case measure => simp [intOf]; omega
     ·have hk1 : 0 < k := by omega
      obtain ⟨xh,hxh⟩ : ∃ x,bits BinOp.or IntKind.u64 (IntKind.u64.wrap (sg * 2 ^ k)) (IntKind.u64.wrap a / 2 ^ (64 - k)) = x := ⟨_,rfl⟩
      have HX : Hid (Two (a * 2 ^ k) xh xl) := hid ⟨by rw [<- hxh,hsg.out]; exact xh_eq a k (by omega) HA.out,HXL.out⟩
      have z1 : IntKind.i64.wrap (64 - (k : Int)) = 64 - (k : Int) := IntWalk.i64_in _ (by omega)
      have z2 : 0 <= 64 - (k : Int) := by omega
      have z3 : (64 - (k : Int)).toNat = 64 - k := by omega
      by_cases hk63 : k = 63
      ·have t1 : ((k : Int) == 63) = true := by simp; omega
       obtain ⟨nl,hnl⟩ : ∃ x,bits BinOp.xor IntKind.u64 (if IntKind.u64.signed = true then -1 else IntKind.u64.max) xl = x := ⟨_,rfl⟩
       obtain ⟨nh,hnh⟩ : ∃ x,bits BinOp.xor IntKind.u64 (if IntKind.u64.signed = true then -1 else IntKind.u64.max) xh = x := ⟨_,rfl⟩
       have HR := hid HX.out.range
       have HNL := hid (hnl.symm.trans (not_u64 xl HR.out.2.1 HR.out.2.2))
       have HNH := hid (hnh.symm.trans (not_u64 xh HR.out.1.1 HR.out.1.2))
       have HS : Hid (prT a b (k + 1) = prT a b k + -(a * 2 ^ k)) := hid (by rw [hk63] at hbit ⊢; exact prT_last a b HB.out hbit)
       clear hk63
       cases hz : (IntKind.u64.wrap (nl + 1) == 0) with
       | true =>
        have HN : Hid (Two (-(a * 2 ^ k)) (IntKind.u64.wrap (nh + 1)) (IntKind.u64.wrap (nl + 1))) := hid (HX.out.neg_zero HNL.out HNH.out (beq_iff_eq.1 hz))
        go_wp2
        ·go_round
         case rel => exact ⟨k + 1,_,_,by omega,by go_num,rfl,rfl,hid (by rw [HS.out]; exact hT.out.add_carry HN.out ‹_›)⟩
         case measure => simp [intOf]; omega
        ·go_round
         case rel => exact ⟨k + 1,_,_,by omega,by go_num,rfl,rfl,hid (by rw [HS.out]; exact hT.out.add_plain HN.out ‹_›)⟩
         case measure => simp [intOf]; omega
       | false =>
        have HN : Hid (Two (-(a * 2 ^ k)) nh (IntKind.u64.wrap (nl + 1))) := hid (HX.out.neg_some HNL.out HNH.out (beq_eq_false_iff_ne.1 hz))
        go_wp2
        ·go_round
         case rel => exact ⟨k + 1,_,_,by omega,by go_num,rfl,rfl,hid (by rw [HS.out]; exact hT.out.add_carry HN.out ‹_›)⟩
         case measure => simp [intOf]; omega
        ·go_round
         case rel => exact ⟨k + 1,_,_,by omega,by go_num,rfl,rfl,hid (by rw [HS.out]; exact hT.out.add_plain HN.out ‹_›)⟩
         case measure => simp [intOf]; omega
      ·have t1 : ((k : Int) == 63) = false := by simp; omega
       have HS := hid (prT_step a b k (by omega) hbit)
       go_wp2
       ·go_round
        case rel => exact ⟨k + 1,_,_,by omega,by go_num,rfl,rfl,hid (by rw [HS.out]; exact hT.out.add_carry HX.out ‹_›)⟩
        case measure => simp [intOf]; omega
       ·go_round
        case rel => exact ⟨k + 1,_,_,by omega,by go_num,rfl,rfl,hid (by rw [HS.out]; exact hT.out.add_plain HX.out ‹_›)⟩
        case measure => simp [intOf]; omega
   ·obtain rfl : k = 64 := by omega
    go_wp2
    go_ret2
    obtain ⟨f1,f2⟩ := hT.out.done HA.out HB.out
    exact ⟨by rw [<- f1,<- f2]; rfl,rfl⟩
theorem mul_eq (a b : Int) (q : Nat) : shV (pHi a b) (pLo a b) q = mulV a b q := by
 unfold shV mulV
 rw [p_whole]
theorem mul_none (a b q : Int) (w : World) (hq : q < 0 \/ 62 < q) :
  Calls Tryz.prog 205 #[.int .i64 a,.int .i64 b,.int .i64 q] w fun e w' => e = .returned (.int .i64 0) /\ Below w.heap.size w w' := by
 go_enter Tryz.func205,Tryz.ntmps205
 go_wp2_with fail
 all_goals (go_ret; exact ⟨rfl,Below.refl _ _⟩)
theorem mul_any (a b : Int) (q : Nat) (w : World) (ha : -9223372036854775808 <= a /\ a <= 9223372036854775807) (hb : -9223372036854775808 <= b /\ b <= 9223372036854775807) (hq : q <= 62) :
  Calls Tryz.prog 205 #[.int .i64 a,.int .i64 b,.int .i64 q] w fun e w' => e = .returned (.int .i64 (mulV a b q)) /\ Below w.heap.size w w' := by
 have HA := hid ha
 have HB := hid hb
 have HL := hid (pLo_range a b)
 have d1 : decide ((q : Int) < 0) = false := decide_eq_false (by omega)
 have d2 : decide (62 < (q : Int)) = false := decide_eq_false (by omega)
 clear ha hb
 go_enter Tryz.func205,Tryz.ntmps205
 go_wp2_with fail
 ((with_reducible refine (product_any a b _ HA.out HB.out).mono ?_); rintro e w1 ⟨rfl,hb1⟩)
 go_wp2_with fail
 ((with_reducible refine (shift_any (pHi a b) (pLo a b) q _ (by omega) HL.out.1 HL.out.2).mono ?_); rintro e w2 ⟨rfl,n2,rfl⟩)
 rw [mul_eq]
 go_wp2
 go_ret
 exact ⟨rfl,below_drewN hb1 _⟩
theorem refMul_none (a b q : Int) (w : World) (hq : q < 0 \/ 62 < q) :
  Calls Tryz.prog 159 #[.int .i64 a,.int .i64 b,.int .i64 q] w fun e w' => e = .returned (.int .i64 0) /\ w = w' := by
 go_enter Tryz.func159,Tryz.ntmps159
 go_wp2_with fail
 all_goals (go_ret; exact ⟨rfl,rfl⟩)
theorem refMul_any (a b : Int) (q : Nat) (w : World) (ha : -9223372036854775808 <= a /\ a <= 9223372036854775807) (hb : -9223372036854775808 <= b /\ b <= 9223372036854775807) (hq : q <= 62) :
  Calls Tryz.prog 159 #[.int .i64 a,.int .i64 b,.int .i64 q] w fun e w' => e = .returned (.int .i64 (mulV a b q)) /\ w = w' := by
 have HA := hid ha
 have HB := hid hb
 have HL := hid (pLo_range a b)
 have d1 : decide ((q : Int) < 0) = false := decide_eq_false (by omega)
 have d2 : decide (62 < (q : Int)) = false := decide_eq_false (by omega)
 clear ha hb
 go_enter Tryz.func159,Tryz.ntmps159
 go_wp2_with fail
 ((with_reducible refine (refProduct_any a b _ HA.out HB.out).mono ?_); rintro e w1 ⟨rfl,rfl⟩)
 go_wp2_with fail
 ((with_reducible refine (refShift_any (pHi a b) (pLo a b) q _ (by omega) HL.out.1 HL.out.2).mono ?_); rintro e w2 ⟨rfl,rfl⟩)
 rw [mul_eq]
 go_wp2
 go_ret
 exact ⟨rfl,rfl⟩
end
end Go.Proofs.YtkmaeipoaoikpaaGreat
