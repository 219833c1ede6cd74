/-
  Contracts and lemmas that stand in other texts too, laid for this seat.
-/
import Derived.Test.YtnnphileeeaibaaFixp2s
import Derived.Test.YtnnphileeeaibaaVecPlain
import Derived.Test.YtnnphileeeaibaaMem
namespace Go.Proofs.Ytnnphileeeaibaa
set_option linter.unusedVariables false
set_option linter.unusedSimpArgs false
open Go.RowKit

theorem slI64 : Sl Try.prog 24 2 (.int .i64 0) 1 8 := ⟨Try.underlying24, by kernel_rfl, rfl, by omega⟩

theorem slVec : Sl Try.prog 29 2 (.int .i64 0) 1 8 := ⟨Try.underlying29, by kernel_rfl, rfl, by omega⟩

set_option maxHeartbeats 400000 in
theorem refClone_any (A : Option Addr) (n cap : Nat) (l : List Int) (w : World) (hl : l.length = n) (h : Rd w 1 A n (iv l)) (hn : n ≤ 10000000) :
    Calls Try.prog 16 #[.slice A n cap] w (OwnRet w 2 1 n (iv l)) := by
  have HR := Lib.hid h
  have HL := Lib.hid hl
  clear h hl
  go_enter Try.func16, Try.ntmps16
  go_wp2_with (at_builtin; go_must (refine wpList_appendAll slI64 rfl _ _ rfl w.heap.size _ 0 [] rfl (World.ownsRow_lit w #[] 0 (Nat.le_refl _) (by unfold maxLen; omega) rfl) A n cap (iv l) rfl (HR.out.alloc _) (iv_one l) (by unfold maxLen; omega) (by omega) (by simp) ?_); intro A' cap' w1 hown1 hb1)
  go_ret
  exact ⟨A', cap', by simp, by simpa using hown1, ((Below.refl _ _).alloc (Nat.le_refl _) _).trans hb1⟩

set_option maxHeartbeats 400000 in
theorem sliceClone_any (A : Option Addr) (n cap : Nat) (l : List Int) (w : World) (hl : l.length = n) (h : Rd w 1 A n (iv l)) (hn : n ≤ 10000000) :
    Calls Try.prog 74 #[.slice A n cap] w (OwnRet w 2 1 n (iv l)) := by
  have HR := Lib.hid h
  have HL := Lib.hid hl
  have hq := fun (w : World) (a : Option Addr) (n c : Nat) => Lib.run_eql_slice_nil (P := Try.prog) w 29 2 a n c 0 0 Try.underlying29
  clear h hl
  cases A with
  | none =>
    have hn0 : n = 0 := by
      rcases Nat.eq_zero_or_pos n with h0 | h0
      · exact h0
      · obtain ⟨b, o, h, _⟩ := HR.out.2 h0; cases h
    subst hn0
    have hl0 : l = [] := List.eq_nil_of_length_eq_zero HL.out
    subst hl0
    go_enter Try.func74, Try.ntmps74
    go_wp2
    go_ret
    exact ⟨none, 0, rfl, World.ownsRow_nil _ _ _ _, Below.refl _ _⟩
  | some ad =>
    go_enter Try.func74, Try.ntmps74
    go_wp2_with (at_builtin; go_must (refine wpList_appendAll slVec rfl _ _ rfl w.heap.size _ 0 [] rfl (World.ownsRow_lit w #[] 0 (Nat.le_refl _) (by unfold maxLen; omega) rfl) (some ad) n cap (iv l) rfl (HR.out.alloc _) (iv_one l) (by unfold maxLen; omega) (by omega) (by simp) ?_); intro A' cap' w1 hown1 hb1)
    go_ret
    exact ⟨A', cap', by simp, by simpa using hown1, ((Below.refl _ _).alloc (Nat.le_refl _) _).trans hb1⟩

set_option maxHeartbeats 400000 in
theorem vecClone_any (A : Option Addr) (n cap : Nat) (l : List Int) (w : World) (hl : l.length = n) (h : Rd w 1 A n (iv l)) (hn : n ≤ 10000000) :
    Calls Try.prog 58 #[.slice A n cap] w (OwnRet w 2 1 n (iv l)) := by
  have HR := Lib.hid h
  have HL := Lib.hid hl
  clear h hl
  go_enter Try.func58, Try.ntmps58
  go_wp2_with fail
  ((with_reducible refine (sliceClone_any A n cap l _ HL.out HR.out (by omega)).mono ?_); rintro e w1 ⟨A', cap', rfl, hown, hb1⟩)
  have HO := Lib.hid hown
  clear hown
  go_wp2
  go_ret
  exact ⟨A', cap', rfl, HO.out, hb1⟩

/-- The lengths of the first vectors, together. -/
def fewN (ns : List Nat) : Nat := (ns.map (min · 2000)).sum

def fewL (ns : List Nat) : Bool := decide (ns.length ≤ 60 ∧ fewN (ns.take 100) ≤ 1500)

theorem fewN_snoc (ns : List Nat) (k x : Nat) (h : ns[k]? = some x) : fewN (ns.take (k + 1)) = fewN (ns.take k) + min x 2000 := by
  obtain ⟨hk, hx⟩ := List.getElem?_eq_some_iff.1 h
  rw [List.take_succ_eq_append_getElem hk, hx]
  simp [fewN]

theorem fewN_le (ns : List Nat) (k : Nat) : fewN (ns.take k) ≤ 2000 * k := by
  induction k with
  | zero => simp [fewN]
  | succ k ih =>
    rcases Nat.lt_or_ge k ns.length with h | h
    · rw [fewN_snoc ns k _ (List.getElem?_eq_getElem h)]; omega
    · rw [List.take_of_length_le (by omega)] at ih ⊢; omega

theorem few_out (ns : List Nat) (n : Nat) (hl : ns.length = n) (h : 60 < n) : false = fewL ns := by
  unfold fewL
  rw [eq_comm, decide_eq_false_iff_not]
  omega

theorem few_in (ns : List Nat) (n k x : Nat) (hl : ns.length = n) (h : n ≤ 60) (hk : n ≤ k) (hx : x = fewN (ns.take k)) : decide ((x : Int) ≤ 1500) = fewL ns := by
  unfold fewL
  rw [hx, List.take_of_length_le (by omega), List.take_of_length_le (by omega), Bool.eq_iff_iff]
  simp
  omega

set_option maxHeartbeats 400000 in
theorem few03_any (A : Option Addr) (n cap : Nat) (ss : List (Option Addr × Nat × Nat)) (w : World) (hl : ss.length = n) (hs : ∀ s ∈ ss, s.2.1 ≤ 9223372036854775807) (h : Rd w 1 A n (ss.map slv)) (hn : n ≤ 9223372036854775807) :
    Calls Try.prog 29 #[.slice A n cap] w fun e w' => e = .returned (.bool (fewL (ss.map (·.2.1)))) ∧ w = w' := by
  have HL := Lib.hid hl
  have HR := Lib.hid h
  have HS := Lib.hid hs
  clear hl h hs
  go_enter Try.func29, Try.ntmps29
  go_wp2_with fail
  go_loop [3, 4] (fun s c => ∃ (k x : Nat), k ≤ n ∧ k ≤ 100 ∧ c = .int .i64 k ∧ s = .int .i64 x ∧ Hid (x = fewN ((ss.map (·.2.1)).take k)) ∧ x ≤ 2000 * k) (fun _ c => 100 - (intOf c).toNat)
  case atStart => exact ⟨0, 0, by omega, by omega, rfl, rfl, Lib.hid (by simp [fewN]), by omega⟩
  case round =>
    obtain ⟨k, x, hk, hk1, rfl, rfl, he, hx2⟩ := hrel
    by_cases hlt : k < n
    · by_cases hlt2 : k < 100
      · obtain ⟨b, o, rfl, hbl, hc⟩ := HR.out.2 (by omega)
        have hkl : k < ss.length := by rw [HL.out]; exact hlt
        have c1 := hc k (slv ss[k]) (by simp [hkl])
        have hb := HS.out ss[k] (List.getElem_mem hkl)
        have HX : Hid ((ss.map (·.2.1))[k]? = some (ss[k]).2.1) := Lib.hid (by simp [hkl])
        generalize ss[k] = sk at *
        obtain ⟨Ak, nk, ck⟩ := sk
        dsimp only [slv] at c1 hb HX
        clear hc
        by_cases hm : nk ≤ 2000
        · go_wp2
          go_round
          case rel => exact ⟨k + 1, x + nk, by omega, by omega, by go_num, by go_num, Lib.hid (by rw [fewN_snoc _ k nk HX.out, he.out, Nat.min_eq_left hm]), by omega⟩
          case measure => simp [intOf]; omega
        · go_wp2
          go_round
          case rel => exact ⟨k + 1, x + 2000, by omega, by omega, by go_num, by go_num, Lib.hid (by rw [fewN_snoc _ k nk HX.out, he.out, Nat.min_eq_right (by omega)]), by omega⟩
          case measure => simp [intOf]; omega
      · obtain rfl : k = 100 := by omega
        go_wp2
        all_goals (go_ret; exact ⟨ret_bool (few_out _ n (by simp [HL.out]) (by omega)), rfl⟩)
    · go_wp2
      · go_ret
        exact ⟨ret_bool (few_in _ n k x (by simp [HL.out]) (by omega) (by omega) he.out), rfl⟩
      · go_ret
        exact ⟨ret_bool (few_out _ n (by simp [HL.out]) (by omega)), rfl⟩

def diffFrom : List Int → List Int → Int → Int
  | [], [], _ => -1
  | [], _ :: _, i => i
  | _ :: _, [], i => i
  | x :: a, y :: b, i => if x = y then diffFrom a b (i + 1) else i

def diffL (a b : List Int) : Int := diffFrom a b 0

theorem diff_comm : ∀ (a b : List Int) (i : Int), diffFrom a b i = diffFrom b a i
  | [], [], _ => rfl
  | [], _ :: _, _ => rfl
  | _ :: _, [], _ => rfl
  | x :: a, y :: b, i => by
    simp only [diffFrom]
    by_cases h : x = y
    · rw [if_pos h, if_pos h.symm, diff_comm a b]
    · rw [if_neg h, if_neg (fun e => h e.symm)]

theorem diff_neg : ∀ (a b : List Int) (i : Int), 0 ≤ i → (diffFrom a b i < 0 ↔ a = b)
  | [], [], _, _ => by simp [diffFrom]
  | [], _ :: _, i, h => by simp [diffFrom]; omega
  | _ :: _, [], i, h => by simp [diffFrom]; omega
  | x :: a, y :: b, i, h => by
    simp only [diffFrom]
    by_cases e : x = y
    · rw [if_pos e, diff_neg a b (i + 1) (by omega)]; simp [e]
    · rw [if_neg e]; simp [e]; omega

theorem same_iff (a b : List Int) : decide (diffL a b < 0) = decide (a = b) := by
  rw [Bool.eq_iff_iff]
  simp only [decide_eq_true_eq]
  exact diff_neg a b 0 (by omega)

theorem diff_on {a b : List Int} {k : Nat} {x v : Int} (hv : Hid (v = diffFrom (a.drop k) (b.drop k) k)) (ha : Hid (a[k]? = some x)) (hb : Hid (b[k]? = some x)) : Hid (v = diffFrom (a.drop (k + 1)) (b.drop (k + 1)) ((k + 1 : Nat) : Int)) := by
  obtain ⟨h1, e1⟩ := List.getElem?_eq_some_iff.1 ha.out
  obtain ⟨h2, e2⟩ := List.getElem?_eq_some_iff.1 hb.out
  refine Lib.hid ?_
  rw [hv.out, List.drop_eq_getElem_cons h1, List.drop_eq_getElem_cons h2, e1, e2]
  simp only [diffFrom, if_true]
  rfl

theorem diff_hit {a b : List Int} {k : Nat} {x y v : Int} (hv : Hid (v = diffFrom (a.drop k) (b.drop k) k)) (ha : Hid (a[k]? = some x)) (hb : Hid (b[k]? = some y)) (h : x ≠ y) : (k : Int) = v := by
  obtain ⟨h1, e1⟩ := List.getElem?_eq_some_iff.1 ha.out
  obtain ⟨h2, e2⟩ := List.getElem?_eq_some_iff.1 hb.out
  rw [hv.out, List.drop_eq_getElem_cons h1, List.drop_eq_getElem_cons h2, e1, e2]
  simp only [diffFrom]
  rw [if_neg h]

theorem diff_end {a b : List Int} {k n m : Nat} {v : Int} (hv : Hid (v = diffFrom (a.drop k) (b.drop k) k)) (ha : Hid (a.length = n)) (hb : Hid (b.length = m)) (h1 : n ≤ k) (h2 : m ≤ k) : -1 = v := by
  rw [hv.out, List.drop_eq_nil_of_le (by have := ha.out; omega), List.drop_eq_nil_of_le (by have := hb.out; omega)]
  rfl

theorem diff_short {a b : List Int} {k n m : Nat} {v : Int} (hv : Hid (v = diffFrom (a.drop k) (b.drop k) k)) (ha : Hid (a.length = n)) (hb : Hid (b.length = m)) (h : (n ≤ k ∧ k < m) ∨ (m ≤ k ∧ k < n)) : (k : Int) = v := by
  have e1 := ha.out
  have e2 := hb.out
  rcases h with ⟨h1, h2⟩ | ⟨h1, h2⟩
  · rw [hv.out, List.drop_eq_nil_of_le (by omega), List.drop_eq_getElem_cons (show k < b.length by omega)]
    rfl
  · rw [hv.out, (show b.drop k = [] from List.drop_eq_nil_of_le (by omega)), List.drop_eq_getElem_cons (show k < a.length by omega)]
    rfl

set_option maxHeartbeats 1000000 in
theorem refDiffer_any (A B : Option Addr) (n m c d : Nat) (a b : List Int) (w : World) (ha : a.length = n) (hb : b.length = m) (h : Rd w 1 A n (iv a)) (h' : Rd w 1 B m (iv b)) (hn : n ≤ 10000000) (hm : m ≤ 10000000) :
    Calls Try.prog 64 #[.slice A n c, .slice B m d] w fun e w' => e = .returned (.int .i64 (diffL a b)) ∧ Below w.heap.size w w' := by
  have HA := Lib.hid ha
  have HB := Lib.hid hb
  have HR := Lib.hid h
  have HR' := Lib.hid h'
  clear ha hb h h'
  go_enter Try.func64, Try.ntmps64
  go_wp2_with fail
  go_loopw [5] (fun i wr => ∃ k : Nat, k ≤ n + m ∧ i = .int .i64 k ∧ Below w.heap.size w wr ∧ Hid (diffL a b = diffFrom (a.drop k) (b.drop k) k)) (fun i _ => n + m - (intOf i).toNat)
  case atStart => exact ⟨0, by omega, rfl, Below.refl _ _, Lib.hid rfl⟩
  case round =>
    obtain ⟨k, hk, rfl, hb, he⟩ := hrel
    by_cases h1 : k < n
    · by_cases h2 : k < m
      · obtain ⟨g, o, x, rfl, hbl, hx, c1⟩ := iv_at HA.out (HR.out.below hb) h1
        obtain ⟨g', o', y, rfl, hbl', hy, c2⟩ := iv_at HB.out (HR'.out.below hb) h2
        have HX := Lib.hid hx
        have HY := Lib.hid hy
        clear hx hy
        have i1 : (0 : Int) ≤ (k : Int) := by omega
        have i2 : (k : Int) < (n : Int) := by omega
        have i3 : (k : Int) < (m : Int) := by omega
        have g1 : decide (n ≤ k) = false := decide_eq_false (by omega)
        have g2 : decide (m ≤ k) = false := decide_eq_false (by omega)
        by_cases hxy : x = y
        · subst hxy
          go_wp2_with fail
          go_quiet (fail)
          go_wp2
          go_roundw
          case rel => exact ⟨k + 1, by omega, by go_num, below_drewN hb _, diff_on he HX HY⟩
          case measure => simp [intOf]; omega
        · go_wp2_with fail
          go_quiet (fail)
          go_wp2
          go_ret
          exact ⟨ret_int (diff_hit he HX HY hxy), below_drewN hb _⟩
      · have g1 : decide (n ≤ k) = false := decide_eq_false (by omega)
        have g2 : decide (m ≤ k) = true := decide_eq_true (by omega)
        go_wp2_with fail
        go_quiet (fail)
        go_wp2
        go_ret
        exact ⟨ret_int (diff_short he HA HB (by omega)), below_drewN hb _⟩
    · by_cases h2 : k < m
      · have g1 : decide (n ≤ k) = true := decide_eq_true (by omega)
        go_wp2_with fail
        go_quiet (fail)
        go_wp2
        go_ret
        exact ⟨ret_int (diff_short he HA HB (by omega)), below_drewN hb _⟩
      · go_wp2
        go_ret
        exact ⟨ret_int (diff_end he HA HB (by omega) (by omega)), hb⟩

set_option maxHeartbeats 400000 in
theorem refSame_any (A B : Option Addr) (n m c d : Nat) (a b : List Int) (w : World) (ha : a.length = n) (hb : b.length = m) (h : Rd w 1 A n (iv a)) (h' : Rd w 1 B m (iv b)) (hn : n ≤ 10000000) (hm : m ≤ 10000000) :
    Calls Try.prog 49 #[.slice A n c, .slice B m d] w fun e w' => e = .returned (.bool (decide (a = b))) ∧ Below w.heap.size w w' := by
  have HA := Lib.hid ha
  have HB := Lib.hid hb
  have HR := Lib.hid h
  have HR' := Lib.hid h'
  clear ha hb h h'
  go_enter Try.func49, Try.ntmps49
  go_wp2_with fail
  ((with_reducible refine (refDiffer_any A B n m c d a b _ HA.out HB.out HR.out HR'.out (by omega) (by omega)).mono ?_); rintro e w1 ⟨rfl, hb1⟩)
  go_wp2
  go_ret
  exact ⟨ret_bool (same_iff a b), hb1⟩

abbrev In1 (x : Int) : Prop := -9223372036854775808 ≤ x ∧ x ≤ 9223372036854775807

/-- The product, 0 if the shift is out of range. -/
def mulQ (a b q : Int) : Int := if q < 0 ∨ 62 < q then 0 else mulV a b q.toNat

theorem mulQ_in (a b q : Int) : In1 (mulQ a b q) := by
  unfold mulQ mulV wrap64
  split <;> constructor <;> omega

theorem mulQ_comm (a b q : Int) : mulQ a b q = mulQ b a q := by
  unfold mulQ mulV
  rw [Int.mul_comm]

theorem mulQ_any (a b q : Int) (w : World) (ha : In1 a) (hb : In1 b) :
    Calls Try.prog 57 #[.int .i64 a, .int .i64 b, .int .i64 q] w fun e w' => e = .returned (.int .i64 (mulQ a b q)) ∧ Below w.heap.size w w' := by
  unfold mulQ
  split
  · rename_i h
    exact mul_none a b q w h
  · rename_i h
    obtain ⟨k, rfl⟩ := Int.eq_ofNat_of_zero_le (show 0 ≤ q by omega)
    exact mul_any a b k w ha hb (by omega)

theorem refMulQ_any (a b q : Int) (w : World) (ha : In1 a) (hb : In1 b) :
    Calls Try.prog 53 #[.int .i64 a, .int .i64 b, .int .i64 q] w fun e w' => e = .returned (.int .i64 (mulQ a b q)) ∧ w = w' := by
  unfold mulQ
  split
  · rename_i h
    exact refMul_none a b q w h
  · rename_i h
    obtain ⟨k, rfl⟩ := Int.eq_ofNat_of_zero_le (show 0 ≤ q by omega)
    exact refMul_any a b k w ha hb (by omega)

end Go.Proofs.Ytnnphileeeaibaa
