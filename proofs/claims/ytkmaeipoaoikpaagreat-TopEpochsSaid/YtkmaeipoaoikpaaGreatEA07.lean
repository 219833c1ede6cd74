/-
  Lemmas and contracts (7 of 44): Hang, FixpPlain, Fixp, Fixp2, VecS, MatVec, VecR.
-/
import Derived.WalkKit
import Derived.WalkSpells
import Derived.WalkLawsBesides
import Derived.Lib.Hide
import Derived.Deep.QuietTactic
import Derived.BigQuiet
import Derived.IntWalk
import Derived.Deep.RegionHeld3
import Derived.Maps.AppendAt
import Derived.ProofKit
import Derived.OpenShut
import Derived.Deep.Slices
import Derived.Deep.Fields
import Derived.Laws.OwnMore
import Derived.Deep.Draws
import Derived.Laws.Rows
import Derived.Laws.BitsAllLaws
import Derived.Laws.Bits64
import Derived.Test.YtkmaeipoaoikpaaGreatProg
import Derived.Test.YtkmaeipoaoikpaaGreatShelf
import Derived.Deep.DeepCutAuto
import Derived.Laws.EntriesVeiled
import Derived.RangeFuncNested
import Derived.RangeFuncBox
import Derived.RangeFuncLeaves
import Derived.Shelf.Abstract
import Derived.OwnWalkIn
import Derived.TacticsInMore
import Derived.LoopNIn
import Derived.LoopIn
import Derived.StillTail
import Derived.OrdersHeld
import Derived.OrdersIn
import Derived.RangeFuncCalls
import Derived.SizedLaws
import Derived.Deep.OwnRows
import Derived.Test.YtkmaeipoaoikpaaGreatEA01
import Derived.Test.YtkmaeipoaoikpaaGreatEA02
import Derived.Test.YtkmaeipoaoikpaaGreatEA03
import Derived.Test.YtkmaeipoaoikpaaGreatEA04
import Derived.Test.YtkmaeipoaoikpaaGreatEA05
namespace Go.Proofs.YtkmaeipoaoikpaaGreat
set_option linter.unusedVariables false
set_option linter.unusedSimpArgs false
set_option maxRecDepth 100000
section
open Go.RowKit
def Hg (S : Nat → Prop) (w : World) (P : World → Prop) : Prop := ∀ w', w.heap.size ≤ w'.heap.size → (∀ i, i < w.heap.size → S i → w'.heap[i]? = w.heap[i]?) → P w'
end
section
open Go.RowKit
variable {S T : Nat → Prop} {w w' : World} {P Q : World → Prop}
theorem Hg.here (h : Hg S w P) : P w := h w (Nat.le_refl _) (fun _ _ _ => rfl)
theorem Hg.mono (h : Hg S w P) (hST : ∀ i, i < w.heap.size → S i → T i) : Hg T w P := fun w' h1 h2 => h w' h1 (fun i hi hS => h2 i hi (hST i hi hS))
theorem Hg.imp (h : Hg S w P) (hPQ : ∀ W, P W → Q W) : Hg S w Q := fun w' h1 h2 => hPQ w' (h w' h1 h2)
theorem Hg.and (h : Hg S w P) (k : Hg S w Q) : Hg S w (fun W => P W ∧ Q W) := fun w' h1 h2 => ⟨h w' h1 h2, k w' h1 h2⟩
theorem Hg.ex {α : Type} {R : α → World → Prop} (a : α) (h : Hg S w (R a)) : Hg S w (fun W => ∃ a, R a W) := fun w' h1 h2 => ⟨a, h w' h1 h2⟩
theorem Hg.all {α : Type} {R : α → World → Prop} (h : ∀ a, Hg S w (R a)) : Hg S w (fun W => ∀ a, R a W) := fun w' h1 h2 a => h a w' h1 h2
theorem Hg.step (h : Hg S w P) (hs : w.heap.size ≤ w'.heap.size) (hb : ∀ i, i < w.heap.size → S i → w'.heap[i]? = w.heap[i]?) : Hg S w' P :=
  fun w2 h1 h2 => h w2 (Nat.le_trans hs h1) (fun i hi hS => (h2 i (Nat.lt_of_lt_of_le hi hs) hS).trans (hb i hi hS))
theorem Hg.but (h : Hg S w P) (hb : But T w w') (hST : ∀ i, i < w.heap.size → S i → ¬ T i) : Hg S w' P := h.step hb.size (fun i hi hS => hb.block i hi (hST i hi hS))
theorem Hg.below (h : Hg S w P) (hb : Below w.heap.size w w') : Hg S w' P := h.step hb.size (fun i hi _ => hb.block i hi)
theorem Hg.of_mid {lo : Nat} (h : ∀ w', Mid lo w.heap.size w w' → P w') (hS : ∀ i, lo ≤ i → i < w.heap.size → S i) : Hg S w P :=
  fun w' h1 h2 => h w' ⟨h1, fun i hl hi => h2 i hi (hS i hl hi)⟩
theorem Hg.blk {g : Nat} {t : TypeId} {cs : Array Value} (h : Blk w g t cs) (hS : S g) : Hg S w (fun W => Blk W g t cs) := fun w' h1 h2 => (h2 g h.lt hS).trans h
theorem Hg.own {base : Nat} {e : TypeId} {size n : Nat} {v : Value} {xs : List Value} (h : w.ownsRow base e size v n xs) (hS : ∀ g, v.ownBlock = some g → S g) : Hg S w (fun W => W.ownsRow base e size v n xs) := fun w' h1 h2 => by
  refine ⟨h.1, ?_⟩
  have hlt := h.lt
  rcases h.2 with h3 | ⟨g, cap, cur, rfl, hbg, hh, r⟩
  · exact .inl h3
  · exact .inr ⟨g, cap, cur, rfl, hbg, (h2 g (hlt g rfl).2 (hS g rfl)).trans hh, r⟩
theorem Hg.rd {size n : Nat} {A : Option Addr} {xs : List Value} (h : Rd w size A n xs) (hS : ∀ b o, A = some ⟨b, o, none⟩ → 0 < n → S b) : Hg S w (fun W => Rd W size A n xs) := fun w' h1 h2 => by
  refine ⟨h.1, fun hn => ?_⟩
  obtain ⟨b, o, e, hlt, hc⟩ := h.2 hn
  refine ⟨b, o, e, Nat.lt_of_lt_of_le hlt h1, fun j u hu => ?_⟩
  rw [World.cell?_of_block (a := ⟨b, o + j, none⟩) (h2 b hlt (hS b o e hn))]
  exact hc j u hu
end
section
open Go.RowKit
def pHi (a b : Int) : Int := a * b / 18446744073709551616
def pLo (a b : Int) : Int := a * b % 18446744073709551616
def shV (h l : Int) (q : Nat) : Int := wrap64 ((h * 18446744073709551616 + l) / 2 ^ q)
def mulV (a b : Int) (q : Nat) : Int := wrap64 (a * b / 2 ^ q)
theorem pow_split (q : Nat) (h : q ≤ 64) : (2 : Int) ^ q * 2 ^ (64 - q) = 18446744073709551616 := by
  rw [← Int.pow_add, show q + (64 - q) = 64 by omega]
  rfl
theorem pow_pos' (q : Nat) : (0 : Int) < 2 ^ q := Int.pow_pos (by omega)
theorem wrap64_add_mul (x k : Int) : wrap64 (x + k * 18446744073709551616) = wrap64 x := by unfold wrap64; omega
theorem wrap64_id (x : Int) (h1 : -9223372036854775808 ≤ x) (h2 : x ≤ 9223372036854775807) : wrap64 x = x := by unfold wrap64; omega
theorem wu (x : Int) : IntKind.u64.wrap x = x % 18446744073709551616 := IntKind.wrap_u64 x
theorem or_add (a b : Int) (k : Nat) (hk : k ≤ 64) (ha0 : 0 ≤ a) (ha : a < 18446744073709551616) (hb0 : 0 ≤ b) (hb : b < 2 ^ k) (hd : a % 2 ^ k = 0) : bits .or .u64 a b = a + b := by
  obtain ⟨x, rfl⟩ := Int.eq_ofNat_of_zero_le ha0
  obtain ⟨y, rfl⟩ := Int.eq_ofNat_of_zero_le hb0
  have hy : y < 2 ^ k := by
    have : ((2 ^ k : Nat) : Int) = (2 : Int) ^ k := by simp
    omega
  have h64 : 2 ^ k ≤ 2 ^ 64 := Nat.pow_le_pow_right (by omega) hk
  rw [u64_or_nat x y (by omega) (by omega)]
  have hx : x % 2 ^ k = 0 := by
    have : ((x % 2 ^ k : Nat) : Int) = 0 := by simpa using hd
    omega
  have e : x = 2 ^ k * (x / 2 ^ k) := by have := Nat.div_add_mod x (2 ^ k); omega
  rw [e, ← Nat.two_pow_add_eq_or_of_lt hy]
  simp
theorem mul_emod_split (h : Int) (n k : Int) (hk : 0 < k) : (h * k) % (n * k) = (h % n) * k := by
  rw [Int.mul_comm h k, Int.mul_comm n k, Int.mul_emod_mul_of_pos _ _ hk, Int.mul_comm]
theorem emod_mul_left' (h k m : Int) : (h % m * k) % m = (h * k) % m := by
  rw [Int.mul_emod (h % m) k, Int.emod_emod, ← Int.mul_emod]
theorem shift_eq (h l : Int) (q : Nat) (hq : q ≤ 63) (hl0 : 0 ≤ l) (hl : l < 18446744073709551616) :
    wrap64 (bits .or .u64 (IntKind.u64.wrap (IntKind.u64.wrap h * 2 ^ (64 - q))) (l / 2 ^ q)) = shV h l q := by
  have hM := pow_split q (by omega)
  have hN := pow_pos' q
  have hK := pow_pos' (64 - q)
  rw [wu, wu, emod_mul_left']
  unfold shV
  generalize hNe : (2 : Int) ^ q = N at *
  have e1 : h * 2 ^ (64 - q) % 18446744073709551616 = (h % N) * 2 ^ (64 - q) := by rw [← hM, mul_emod_split _ _ _ hK]
  have hd : (h % N) * 2 ^ (64 - q) % 2 ^ (64 - q) = 0 := by rw [Int.mul_emod_left]
  have hb : l / N < 2 ^ (64 - q) := Int.ediv_lt_of_lt_mul hN (by rw [Int.mul_comm, hM]; exact hl)
  have hb0 : 0 ≤ l / N := Int.ediv_nonneg hl0 (by omega)
  have ha := Int.emod_lt_of_pos (h * 2 ^ (64 - q)) (show (0 : Int) < 18446744073709551616 by omega)
  have ha0 := Int.emod_nonneg (h * 2 ^ (64 - q)) (show (18446744073709551616 : Int) ≠ 0 by omega)
  rw [e1] at ha ha0
  rw [e1, or_add _ _ (64 - q) (by omega) ha0 ha hb0 hb hd]
  generalize hKe : (2 : Int) ^ (64 - q) = K at *
  have e2 : (h * 18446744073709551616 + l) / N = h * K + l / N := by
    rw [← hM, show h * (N * K) = N * (h * K) by rw [Int.mul_left_comm], Int.mul_add_ediv_left _ _ (by omega)]
  have e3 : h * K = (h % N) * K + (h / N) * 18446744073709551616 := by
    have := Int.emod_add_mul_ediv h N
    calc h * K = (h % N + N * (h / N)) * K := by rw [this]
      _ = (h % N) * K + (h / N) * 18446744073709551616 := by rw [Int.add_mul, ← hM, Int.mul_right_comm, Int.mul_comm (N * K)]
  rw [e2, e3, show (h % N) * K + (h / N) * 18446744073709551616 + l / N = (h % N) * K + l / N + (h / N) * 18446744073709551616 by omega, wrap64_add_mul]
theorem prod_bound (a b : Int) (ha : -9223372036854775808 ≤ a ∧ a ≤ 9223372036854775807) (hb : -9223372036854775808 ≤ b ∧ b ≤ 9223372036854775807) :
    -85070591730234615865843651857942052864 ≤ a * b ∧ a * b ≤ 85070591730234615865843651857942052864 := by
  have h : (a * b).natAbs ≤ 9223372036854775808 * 9223372036854775808 := by
    rw [Int.natAbs_mul]
    exact Nat.mul_le_mul (by omega) (by omega)
  omega
theorem pLo_range (a b : Int) : 0 ≤ pLo a b ∧ pLo a b < 18446744073709551616 := by unfold pLo; omega
theorem p_whole (a b : Int) : pHi a b * 18446744073709551616 + pLo a b = a * b := by unfold pHi pLo; omega
theorem prod_lo (a b : Int) : IntKind.u64.wrap a * IntKind.u64.wrap b % 18446744073709551616 = pLo a b := by
  rw [wu, wu, ← Int.mul_emod]; rfl
theorem prod_hi (a b : Int) (ha : -9223372036854775808 ≤ a ∧ a ≤ 9223372036854775807) (hb : -9223372036854775808 ≤ b ∧ b ≤ 9223372036854775807) :
    wrap64 (wrap64 (wrap64 (IntKind.u64.wrap a * IntKind.u64.wrap b / 18446744073709551616) - (if a < 0 then b else 0)) - (if b < 0 then a else 0)) = pHi a b := by
  have hp := prod_bound a b ha hb
  rw [wu, wu]
  unfold pHi
  have ea : a % 18446744073709551616 = a + (if a < 0 then 1 else 0) * 18446744073709551616 := by split <;> omega
  have eb : b % 18446744073709551616 = b + (if b < 0 then 1 else 0) * 18446744073709551616 := by split <;> omega
  rw [ea, eb]
  generalize hP : a * b = P at *
  have key : ∀ x y : Int, (a + x * 18446744073709551616) * (b + y * 18446744073709551616) = P + (y * a + x * b + x * y * 18446744073709551616) * 18446744073709551616 := by
    intro x y
    rw [← hP]
    simp only [Int.add_mul, Int.mul_add, ← Int.mul_assoc]
    rw [Int.mul_comm a y, Int.mul_right_comm x 18446744073709551616 b, Int.mul_right_comm x 18446744073709551616 y]
    omega
  rw [key]
  split <;> split <;> (simp only [Int.one_mul, Int.zero_mul, Int.mul_zero, Int.mul_one]; unfold wrap64; omega)
end
section
open Go.RowKit
theorem mul64_any (x y : Int) (w : World) : Calls Tryz.prog 271 #[.int .u64 (IntKind.u64.wrap x), .int .u64 (IntKind.u64.wrap y)] w fun e w' =>
    e = .returned (.tuple #[.int .u64 (IntKind.u64.wrap x * IntKind.u64.wrap y / 18446744073709551616), .int .u64 (pLo x y)]) ∧ w = w' := by
  have hx : 0 ≤ IntKind.u64.wrap x ∧ IntKind.u64.wrap x < 18446744073709551616 := by rw [wu]; omega
  have hy : 0 ≤ IntKind.u64.wrap y ∧ IntKind.u64.wrap y < 18446744073709551616 := by rw [wu]; omega
  rw [← prod_lo x y]
  obtain ⟨a, ha⟩ := Int.eq_ofNat_of_zero_le hx.1
  obtain ⟨b, hb⟩ := Int.eq_ofNat_of_zero_le hy.1
  rw [ha] at hx ⊢
  rw [hb] at hy ⊢
  refine (Tryz.bits_Mul64 a b (by omega) (by omega) w).mono ?_
  rintro e w' ⟨rfl, rfl⟩
  exact ⟨by simp, rfl⟩
def hiAt (h a b : Int) : Nat → Int
  | 0 => wrap64 h
  | 1 => wrap64 (wrap64 h - (if a < 0 then b else 0))
  | _ => wrap64 (wrap64 (wrap64 h - (if a < 0 then b else 0)) - (if b < 0 then a else 0))
theorem wrap64_wrap64 (x : Int) : wrap64 (wrap64 x) = wrap64 x := by unfold wrap64; omega
set_option maxHeartbeats 400000 in
theorem product_any (a b : Int) (w : World) (ha : -9223372036854775808 ≤ a ∧ a ≤ 9223372036854775807) (hb : -9223372036854775808 ≤ b ∧ b ≤ 9223372036854775807) :
    Calls Tryz.prog 249 #[.int .i64 a, .int .i64 b] w fun e w' => e = .returned (.tuple #[.int .i64 (pHi a b), .int .u64 (pLo a b)]) ∧ Below w.heap.size w w' := by
  have HP := Lib.hid (prod_hi a b ha hb)
  clear ha hb
  have i0 : ∀ w, (Instr.index 415 (.agg #[.int .i64 a, .int .i64 b, .int .i64 b, .int .i64 a]) (.int .i64 0)).run Tryz.prog w = .ok (.agg #[.int .i64 a, .int .i64 b]) w := fun _ => by kernel_rfl
  have i1 : ∀ w, (Instr.index 415 (.agg #[.int .i64 a, .int .i64 b, .int .i64 b, .int .i64 a]) (.int .i64 1)).run Tryz.prog w = .ok (.agg #[.int .i64 b, .int .i64 a]) w := fun _ => by kernel_rfl
  go_enter Tryz.func249, Tryz.ntmps249
  go_wp2_with fail
  ((with_reducible refine (mul64_any a b _).mono ?_); rintro e w1 ⟨rfl, rfl⟩)
  generalize IntKind.u64.wrap a * IntKind.u64.wrap b / 18446744073709551616 = h at *
  go_wp2_with fail
  go_loopw [4, 26] (fun v c wr => ∃ (k : Nat) (x : Int), k ≤ 2 ∧ c = .int .i64 k ∧ v = .int .i64 x ∧ Hid (x = hiAt h a b k) ∧ Below w.heap.size w wr) (fun _ c _ => 2 - (intOf c).toNat)
  case atStart => exact ⟨0, _, by omega, rfl, rfl, Lib.hid rfl, Below.refl _ _⟩
  case round =>
    obtain ⟨k, x, hk, rfl, rfl, hx, hb⟩ := hrel
    by_cases hlt : k < 2
    · by_cases h0 : k = 0
      · subst h0
        by_cases ha : a < 0
        all_goals
          go_wp2
          go_roundw
          case rel => exact ⟨1, _, by omega, rfl, rfl, Lib.hid (by have := hx.out; simp only [hiAt] at this ⊢; rw [this]; simp [ha, wrap64_wrap64]), hb.alloc hb.size _⟩
          case measure => simp [intOf]
      · obtain rfl : k = 1 := by omega
        by_cases ha : b < 0
        all_goals
          go_wp2
          go_roundw
          case rel => exact ⟨2, _, by omega, rfl, rfl, Lib.hid (by have := hx.out; simp only [hiAt] at this ⊢; rw [this]; simp [ha, wrap64_wrap64]), hb.alloc hb.size _⟩
          case measure => simp [intOf]
    · obtain rfl : k = 2 := by omega
      go_wp2
      go_ret2
      exact ⟨ret_pair (congrArg (Value.int .i64) (by rw [← HP.out]; exact hx.out)), hb⟩
set_option maxHeartbeats 400000 in
theorem shift_any (h l : Int) (q : Nat) (w : World) (hq : q ≤ 63) (hl0 : 0 ≤ l) (hl : l < 18446744073709551616) :
    Calls Tryz.prog 250 #[.int .i64 h, .int .u64 l, .int .i64 q] w fun e w' => e = .returned (.int .i64 (shV h l q)) ∧ ∃ n, w' = w.drewN n := by
  have HS := Lib.hid (shift_eq h l q hq hl0 hl)
  have q3 : IntKind.i64.wrap (64 - (q : Int)) = 64 - (q : Int) := IntWalk.i64_in _ (by omega)
  have q4 : 0 ≤ 64 - (q : Int) := by omega
  have q5 : (64 - (q : Int)).toNat = 64 - q := by omega
  clear hl
  go_enter Tryz.func250, Tryz.ntmps250
  go_wp2_with fail
  go_quiet (fail)
  go_wp2
  go_ret
  exact ⟨ret_int HS.out, _, rfl⟩
end
section
open Go.RowKit
theorem mul_eq (a b : Int) (q : Nat) : shV (pHi a b) (pLo a b) q = mulV a b q := by
  unfold shV mulV
  rw [p_whole]
set_option maxHeartbeats 400000 in
theorem mul_none (a b q : Int) (w : World) (hq : q < 0 ∨ 62 < q) :
    Calls Tryz.prog 205 #[.int .i64 a, .int .i64 b, .int .i64 q] w fun e w' => e = .returned (.int .i64 0) ∧ Below w.heap.size w w' := by
  go_enter Tryz.func205, Tryz.ntmps205
  go_wp2_with fail
  all_goals (go_ret; exact ⟨rfl, Below.refl _ _⟩)
set_option maxHeartbeats 400000 in
theorem mul_any (a b : Int) (q : Nat) (w : World) (ha : -9223372036854775808 ≤ a ∧ a ≤ 9223372036854775807) (hb : -9223372036854775808 ≤ b ∧ b ≤ 9223372036854775807) (hq : q ≤ 62) :
    Calls Tryz.prog 205 #[.int .i64 a, .int .i64 b, .int .i64 q] w fun e w' => e = .returned (.int .i64 (mulV a b q)) ∧ Below w.heap.size w w' := by
  have HA := Lib.hid ha
  have HB := Lib.hid hb
  have HL := Lib.hid (pLo_range a b)
  have d1 : decide ((q : Int) < 0) = false := decide_eq_false (by omega)
  have d2 : decide (62 < (q : Int)) = false := decide_eq_false (by omega)
  clear ha hb
  go_enter Tryz.func205, Tryz.ntmps205
  go_wp2_with fail
  ((with_reducible refine (product_any a b _ HA.out HB.out).mono ?_); rintro e w1 ⟨rfl, hb1⟩)
  go_wp2_with fail
  ((with_reducible refine (shift_any (pHi a b) (pLo a b) q _ (by omega) HL.out.1 HL.out.2).mono ?_); rintro e w2 ⟨rfl, n2, rfl⟩)
  rw [mul_eq]
  go_wp2
  go_ret
  exact ⟨rfl, below_drewN hb1 _⟩
end
section
open Go.RowKit
theorem slI64 : Sl Tryz.prog 26 2 (.int .i64 0) 1 8 := ⟨Tryz.underlying26, by kernel_rfl, rfl, by omega⟩
theorem slVec : Sl Tryz.prog 74 2 (.int .i64 0) 1 8 := ⟨Tryz.underlying74, by kernel_rfl, rfl, by omega⟩
set_option maxHeartbeats 400000 in
theorem sliceClone_any (A : Option Addr) (n cap : Nat) (l : List Int) (w : World) (hl : l.length = n) (h : Rd w 1 A n (iv l)) (hn : n ≤ 10000000) :
    Calls Tryz.prog 182 #[.slice A n cap] w (OwnRet w 2 1 n (iv l)) := by
  have HR := Lib.hid h
  have HL := Lib.hid hl
  have hq := fun (w : World) (a : Option Addr) (n c : Nat) => Lib.run_eql_slice_nil (P := Tryz.prog) w 74 2 a n c 0 0 Tryz.underlying74
  clear h hl
  cases A with
  | none =>
    have hn0 : n = 0 := by
      rcases Nat.eq_zero_or_pos n with h0 | h0
      · exact h0
      · obtain ⟨b, o, h, _⟩ := HR.out.2 h0; cases h
    subst hn0
    have hl0 : l = [] := List.eq_nil_of_length_eq_zero HL.out
    subst hl0
    go_enter Tryz.func182, Tryz.ntmps182
    go_wp2
    go_ret
    exact ⟨none, 0, rfl, World.ownsRow_nil _ _ _ _, Below.refl _ _⟩
  | some ad =>
    go_enter Tryz.func182, Tryz.ntmps182
    go_wp2_with (at_builtin; go_must (refine wpList_appendAll slVec rfl _ _ rfl w.heap.size _ 0 [] rfl (World.ownsRow_lit w #[] 0 (Nat.le_refl _) (by unfold maxLen; omega) rfl) (some ad) n cap (iv l) rfl (HR.out.alloc _) (iv_one l) (by unfold maxLen; omega) (by omega) (by simp) ?_); intro A' cap' w1 hown1 hb1)
    go_ret
    exact ⟨A', cap', by simp, by simpa using hown1, ((Below.refl _ _).alloc (Nat.le_refl _) _).trans hb1⟩
set_option maxHeartbeats 400000 in
theorem vecClone_any (A : Option Addr) (n cap : Nat) (l : List Int) (w : World) (hl : l.length = n) (h : Rd w 1 A n (iv l)) (hn : n ≤ 10000000) :
    Calls Tryz.prog 107 #[.slice A n cap] w (OwnRet w 2 1 n (iv l)) := by
  have HR := Lib.hid h
  have HL := Lib.hid hl
  clear h hl
  go_enter Tryz.func107, Tryz.ntmps107
  go_wp2_with fail
  ((with_reducible refine (sliceClone_any A n cap l _ HL.out HR.out (by omega)).mono ?_); rintro e w1 ⟨A', cap', rfl, hown, hb1⟩)
  have HO := Lib.hid hown
  clear hown
  go_wp2
  go_ret
  exact ⟨A', cap', rfl, HO.out, hb1⟩
abbrev In1 (x : Int) : Prop := -9223372036854775808 ≤ x ∧ x ≤ 9223372036854775807
def mulQ (a b q : Int) : Int := if q < 0 ∨ 62 < q then 0 else mulV a b q.toNat
theorem mulQ_in (a b q : Int) : In1 (mulQ a b q) := by
  unfold mulQ mulV wrap64
  split <;> constructor <;> omega
theorem mulQ_any (a b q : Int) (w : World) (ha : In1 a) (hb : In1 b) :
    Calls Tryz.prog 205 #[.int .i64 a, .int .i64 b, .int .i64 q] w fun e w' => e = .returned (.int .i64 (mulQ a b q)) ∧ Below w.heap.size w w' := by
  unfold mulQ
  split
  · rename_i h
    exact mul_none a b q w h
  · rename_i h
    obtain ⟨k, rfl⟩ := Int.eq_ofNat_of_zero_le (show 0 ≤ q by omega)
    exact mul_any a b k w ha hb (by omega)
end
section
open Go.RowKit
theorem only_drew' {a w : World} {row : Option Nat} (h : a.grownBy w row) : a.grownBy w.drew row := ⟨h.os, h.tape, h.output, h.size, h.block⟩
def scaleK (l : List Int) (a q : Int) (k : Nat) : List Int := l.mapIdx fun i x => if i < k then mulQ x a q else x
def scaleL (l : List Int) (a q : Int) : List Int := l.map fun x => mulQ x a q
theorem scaleL_length (l : List Int) (a q : Int) : (scaleL l a q).length = l.length := by simp [scaleL]
theorem scaleK_length (l : List Int) (a q : Int) (k : Nat) : (scaleK l a q k).length = l.length := by simp [scaleK]
theorem scaleK_zero (l : List Int) (a q : Int) : scaleK l a q 0 = l := by
  apply List.ext_getElem?
  intro i
  simp [scaleK]
theorem scaleK_at (l : List Int) (a q : Int) (k : Nat) (x : Int) (h : l[k]? = some x) : (scaleK l a q k)[k]? = some x := by simp [scaleK, h]
theorem scaleK_next (l : List Int) (a q : Int) (k : Nat) (x : Int) (h : l[k]? = some x) : (scaleK l a q k).set k (mulQ x a q) = scaleK l a q (k + 1) := by
  obtain ⟨hk, hx⟩ := List.getElem?_eq_some_iff.1 h
  apply List.ext_getElem?
  intro i
  rw [List.getElem?_set]
  by_cases e : k = i
  · subst e
    rw [if_pos rfl, if_pos (by rw [scaleK_length]; exact hk)]
    simp only [scaleK, List.getElem?_mapIdx, h, Option.map_some]
    rw [if_pos (by omega)]
  · rw [if_neg e]
    simp only [scaleK, List.getElem?_mapIdx]
    cases l[i]? with
    | none => rfl
    | some y =>
      simp only [Option.map_some]
      congr 1
      by_cases h1 : i < k
      · rw [if_pos h1, if_pos (by omega)]
      · rw [if_neg h1, if_neg (by omega)]
theorem scaleK_done (l : List Int) (a q : Int) (k : Nat) (h : l.length ≤ k) : scaleK l a q k = scaleL l a q := by
  apply List.ext_getElem?
  intro i
  simp only [scaleK, scaleL, List.getElem?_mapIdx, List.getElem?_map]
  by_cases hi : i < l.length
  · rw [List.getElem?_eq_getElem hi]
    simp only [Option.map_some]
    rw [if_pos (by omega)]
  · rw [List.getElem?_eq_none (by omega)]
    rfl
set_option maxHeartbeats 1000000 in
theorem scale_any (A : Option Addr) (n c : Nat) (a q : Int) (l : List Int) (w : World) (hn : n ≤ 10000000) (hl : l.length = n) (h : Rd w 1 A n (iv l)) (hx : ∀ x ∈ l, In1 x) (ha : In1 a) :
    Calls Tryz.prog 220 #[.slice A n c, .int .i64 a, .int .i64 q] w (OwnRet w 2 1 n (iv (scaleL l a q))) := by
  have HL := Lib.hid hl
  have HR := Lib.hid h
  have HX := Lib.hid (And.intro hx ha)
  clear hl h hx ha
  go_enter Tryz.func220, Tryz.ntmps220
  go_wp2_with fail
  ((with_reducible refine (vecClone_any A n c l _ HL.out HR.out (by omega)).mono ?_); rintro e W ⟨A', cap', rfl, hown, hbW⟩)
  have HO := Lib.hid hown
  clear hown
  go_wp2_with fail
  go_loopw [14] (fun i wr => ∃ k : Nat, k ≤ n ∧ i = .int .i64 k ∧ Hid (wr.ownsRow w.heap.size 2 1 (.slice A' n cap') n (iv (scaleK l a q k))) ∧ Below w.heap.size w wr) (fun i _ => n - (intOf i).toNat)
  case atStart => exact ⟨0, by omega, rfl, by rw [scaleK_zero]; exact HO, hbW⟩
  case round =>
    clear HO hbW
    obtain ⟨k, hk, rfl, hO, hb⟩ := hrel
    by_cases hlt : k < n
    · obtain ⟨_, _, hv, _, _, hf⟩ := own_form hO.out
      injection hv with hA _ hC
      subst hA hC
      obtain ⟨g, rfl, hg1, hg2⟩ := hf (by omega)
      have hkl : k < l.length := by rw [HL.out]; exact hlt
      have c1 : wr.cell? ⟨g, k, none⟩ = some (.int .i64 l[k]) := by
        rw [hO.out.cellAt k (by omega)]
        unfold iv
        rw [List.getElem?_map, scaleK_at l a q k _ (List.getElem?_eq_getElem hkl)]
        rfl
      have HXk := Lib.hid (List.getElem?_eq_getElem hkl)
      have bx := Lib.hid (HX.out.1 _ (List.getElem_mem hkl))
      generalize l[k] = x at *
      clear hf hkl
      go_wp2_with fail
      ((with_reducible refine (mulQ_any x a q _ bx.out HX.out.2).mono ?_); rintro e w2 ⟨rfl, hb2⟩)
      have hO2 := own_below hO.out hb2
      have f1 := hO2.frozenAt k
      have c2 : w2.cell? ⟨g, k, none⟩ = some (.int .i64 x) := by rw [hb2.cell (p := ⟨g, k, none⟩) hg2]; exact c1
      obtain ⟨hst, hgr⟩ := hO2.stored k (.int .i64 (mulQ x a q))
      rw [iv_set, scaleK_next l a q k x HXk.out] at hst
      have HST := Lib.hid hst
      have hb2' := hb.trans (hb2.mono hb.size)
      have hb3 := Lib.hid (hb2'.grown hgr hb2'.size (fun k e => by cases e; exact hg1))
      clear hb2 hO2 hst hgr hO hb c1
      go_wp2
      go_roundw
      case rel => exact ⟨k + 1, by omega, by go_num, HST, hb3.out⟩
      case measure => simp [intOf]; omega
    · obtain rfl : k = n := by omega
      rw [scaleK_done l a q k (by have := HL.out; omega)] at hO
      go_wp2
      go_ret
      exact ⟨_, _, rfl, hO.out, hb⟩
set_option maxHeartbeats 1000000 in
theorem add_any (A B : Option Addr) (g o n c d N cap base : Nat) (xs ys : List Int) (w : World) (hA : 0 < n → A = some ⟨g, o, none⟩) (hN : o + n ≤ N) (hN2 : N ≤ 10000000) (hxl : xs.length = N) (hyl : ys.length = n)
    (hown : w.ownsRow base 2 1 (.slice (some ⟨g, 0, none⟩) N cap) N (iv xs)) (hy : Rd w 1 B n (iv ys)) (hne : ∀ b o', B = some ⟨b, o', none⟩ → 0 < n → b ≠ g) :
    Calls Tryz.prog 25 #[.slice A n c, .slice B n d] w fun e w' => e = .returned (.bool true) ∧ w'.ownsRow base 2 1 (.slice (some ⟨g, 0, none⟩) N cap) N (iv (addAt xs o ys n)) ∧ w.grownBy w' (some g) := by
  have HA := Lib.hid hA
  have HXL := Lib.hid hxl
  have HYL := Lib.hid hyl
  have HO := Lib.hid hown
  have HY := Lib.hid hy
  have HNE := Lib.hid hne
  clear hA hxl hyl hown hy hne
  go_enter Tryz.func25, Tryz.ntmps25
  go_wp2_with fail
  go_loopw [13] (fun i wr => ∃ k : Nat, k ≤ n ∧ i = .int .i64 k ∧ wr.ownsRow base 2 1 (.slice (some ⟨g, 0, none⟩) N cap) N (iv (addAt xs o ys k)) ∧ w.grownBy wr (some g)) (fun i _ => n - (intOf i).toNat)
  case atStart => exact ⟨0, by omega, rfl, by rw [addAt_zero]; exact HO.out, World.grownBy.refl _ _⟩
  case round =>
    obtain ⟨k, hk, rfl, hown, hg⟩ := hrel
    by_cases hlt : k < n
    · obtain rfl := HA.out (by omega)
      obtain ⟨b, o', rfl, hbl, hcy⟩ := HY.out.2 (by omega)
      have hbg := HNE.out b o' rfl (by omega)
      have hky : k < ys.length := by rw [HYL.out]; exact hlt
      have hkx : o + k < xs.length := by rw [HXL.out]; omega
      have c2 : wr.cell? ⟨b, o' + k, none⟩ = some (.int .i64 ys[k]) := hg.cell (hcy k _ (iv_get ys k hky)) (by simp [hbg])
      have c1 : wr.cell? ⟨g, o + k, none⟩ = some (.int .i64 xs[o + k]) := by
        rw [hown.cellAt (o + k) (by omega)]
        unfold iv
        rw [List.getElem?_map, addAt_at xs o ys k _ (List.getElem?_eq_getElem hkx)]
        rfl
      have f1 := hown.frozenAt (o + k)
      have HX := Lib.hid (List.getElem?_eq_getElem hkx)
      have HYk := Lib.hid (List.getElem?_eq_getElem hky)
      generalize xs[o + k] = x at *
      generalize ys[k] = y at *
      have HOw := Lib.hid hown
      have HG := Lib.hid hg
      have i1 : (k : Int) < (n : Int) := by omega
      have i3 : (0 : Int) ≤ (k : Int) := by omega
      clear hown hg hcy hkx hky hbl
      go_wp2_with fail
      go_region
      go_wp2
      go_roundw
      case rel => exact ⟨k + 1, by omega, by go_num, by rw [← addAt_next xs o ys k x y HX.out HYk.out, ← iv_set]; exact (HOw.out.stored (o + k) _).1, HG.out.trans (only_drew' (HOw.out.stored (o + k) _).2)⟩
      case measure => simp [intOf]; omega
    · obtain rfl : k = n := by omega
      go_wp2
      go_ret
      exact ⟨rfl, hown, hg⟩
end
section
open Go.RowKit
set_option maxHeartbeats 400000 in
theorem add_zero (A B : Option Addr) (c d : Nat) (w : World) :
    Calls Tryz.prog 25 #[.slice A 0 c, .slice B 0 d] w fun e w' => e = .returned (.bool true) ∧ w = w' := by
  go_enter Tryz.func25, Tryz.ntmps25
  go_wp2_with fail
  go_loop [13] (fun i => i = .int .i64 0) (fun _ => 0)
  case atStart => rfl
  case round =>
    obtain rfl := hrel
    go_wp2
    go_ret
    exact ⟨rfl, rfl⟩
end
end Go.Proofs.YtkmaeipoaoikpaaGreat
