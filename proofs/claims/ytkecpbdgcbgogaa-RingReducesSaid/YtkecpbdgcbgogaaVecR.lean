/-
  Contracts and lemmas that stand in other texts too, laid for this seat.
-/
import Derived.Test.YtkecpbdgcbgogaaProg
import Derived.Test.YtkecpbdgcbgogaaVecPlain
import Derived.Test.YtkecpbdgcbgogaaMem
namespace Go.Proofs.Ytkecpbdgcbgogaa
set_option linter.unusedVariables false
set_option linter.unusedSimpArgs false
open Go.RowKit

theorem slI64 : Sl Try.prog 47 2 (.int .i64 0) 1 8 := ⟨Try.underlying47, by kernel_rfl, rfl, by omega⟩

theorem slVec : Sl Try.prog 53 2 (.int .i64 0) 1 8 := ⟨Try.underlying53, by kernel_rfl, rfl, by omega⟩

set_option maxHeartbeats 400000 in
theorem refClone_any (A : Option Addr) (n cap : Nat) (l : List Int) (w : World) (hl : l.length = n) (h : Rd w 1 A n (iv l)) (hn : n ≤ 10000000) :
    Calls Try.prog 24 #[.slice A n cap] w (OwnRet w 2 1 n (iv l)) := by
  have HR := Lib.hid h
  have HL := Lib.hid hl
  clear h hl
  go_enter Try.func24, Try.ntmps24
  go_wp2_with (at_builtin; go_must (refine wpList_appendAll slI64 rfl _ _ rfl w.heap.size _ 0 [] rfl (World.ownsRow_lit w #[] 0 (Nat.le_refl _) (by unfold maxLen; omega) rfl) A n cap (iv l) rfl (HR.out.alloc _) (iv_one l) (by unfold maxLen; omega) (by omega) (by simp) ?_); intro A' cap' w1 hown1 hb1)
  go_ret
  exact ⟨A', cap', by simp, by simpa using hown1, ((Below.refl _ _).alloc (Nat.le_refl _) _).trans hb1⟩

set_option maxHeartbeats 400000 in
theorem sliceClone_any (A : Option Addr) (n cap : Nat) (l : List Int) (w : World) (hl : l.length = n) (h : Rd w 1 A n (iv l)) (hn : n ≤ 10000000) :
    Calls Try.prog 79 #[.slice A n cap] w (OwnRet w 2 1 n (iv l)) := by
  have HR := Lib.hid h
  have HL := Lib.hid hl
  have hq := fun (w : World) (a : Option Addr) (n c : Nat) => Lib.run_eql_slice_nil (P := Try.prog) w 53 2 a n c 0 0 Try.underlying53
  clear h hl
  cases A with
  | none =>
    have hn0 : n = 0 := by
      rcases Nat.eq_zero_or_pos n with h0 | h0
      · exact h0
      · obtain ⟨b, o, h, _⟩ := HR.out.2 h0; cases h
    subst hn0
    have hl0 : l = [] := List.eq_nil_of_length_eq_zero HL.out
    subst hl0
    go_enter Try.func79, Try.ntmps79
    go_wp2
    go_ret
    exact ⟨none, 0, rfl, World.ownsRow_nil _ _ _ _, Below.refl _ _⟩
  | some ad =>
    go_enter Try.func79, Try.ntmps79
    go_wp2_with (at_builtin; go_must (refine wpList_appendAll slVec rfl _ _ rfl w.heap.size _ 0 [] rfl (World.ownsRow_lit w #[] 0 (Nat.le_refl _) (by unfold maxLen; omega) rfl) (some ad) n cap (iv l) rfl (HR.out.alloc _) (iv_one l) (by unfold maxLen; omega) (by omega) (by simp) ?_); intro A' cap' w1 hown1 hb1)
    go_ret
    exact ⟨A', cap', by simp, by simpa using hown1, ((Below.refl _ _).alloc (Nat.le_refl _) _).trans hb1⟩

set_option maxHeartbeats 400000 in
theorem vecClone_any (A : Option Addr) (n cap : Nat) (l : List Int) (w : World) (hl : l.length = n) (h : Rd w 1 A n (iv l)) (hn : n ≤ 10000000) :
    Calls Try.prog 54 #[.slice A n cap] w (OwnRet w 2 1 n (iv l)) := by
  have HR := Lib.hid h
  have HL := Lib.hid hl
  clear h hl
  go_enter Try.func54, Try.ntmps54
  go_wp2_with fail
  ((with_reducible refine (sliceClone_any A n cap l _ HL.out HR.out (by omega)).mono ?_); rintro e w1 ⟨A', cap', rfl, hown, hb1⟩)
  have HO := Lib.hid hown
  clear hown
  go_wp2
  go_ret
  exact ⟨A', cap', rfl, HO.out, hb1⟩

/-- The lengths of the first vectors, together. -/
def fewN (ns : List Nat) : Nat := (ns.map (min · 2000)).sum

def fewL (ns : List Nat) : Bool := decide (ns.length ≤ 60 ∧ fewN (ns.take 100) ≤ 1500)

theorem fewN_snoc (ns : List Nat) (k x : Nat) (h : ns[k]? = some x) : fewN (ns.take (k + 1)) = fewN (ns.take k) + min x 2000 := by
  obtain ⟨hk, hx⟩ := List.getElem?_eq_some_iff.1 h
  rw [List.take_succ_eq_append_getElem hk, hx]
  simp [fewN]

theorem fewN_le (ns : List Nat) (k : Nat) : fewN (ns.take k) ≤ 2000 * k := by
  induction k with
  | zero => simp [fewN]
  | succ k ih =>
    rcases Nat.lt_or_ge k ns.length with h | h
    · rw [fewN_snoc ns k _ (List.getElem?_eq_getElem h)]; omega
    · rw [List.take_of_length_le (by omega)] at ih ⊢; omega

theorem few_out (ns : List Nat) (n : Nat) (hl : ns.length = n) (h : 60 < n) : false = fewL ns := by
  unfold fewL
  rw [eq_comm, decide_eq_false_iff_not]
  omega

theorem few_in (ns : List Nat) (n k x : Nat) (hl : ns.length = n) (h : n ≤ 60) (hk : n ≤ k) (hx : x = fewN (ns.take k)) : decide ((x : Int) ≤ 1500) = fewL ns := by
  unfold fewL
  rw [hx, List.take_of_length_le (by omega), List.take_of_length_le (by omega), Bool.eq_iff_iff]
  simp
  omega

set_option maxHeartbeats 400000 in
theorem few03_any (A : Option Addr) (n cap : Nat) (ss : List (Option Addr × Nat × Nat)) (w : World) (hl : ss.length = n) (hs : ∀ s ∈ ss, s.2.1 ≤ 9223372036854775807) (h : Rd w 1 A n (ss.map slv)) (hn : n ≤ 9223372036854775807) :
    Calls Try.prog 23 #[.slice A n cap] w fun e w' => e = .returned (.bool (fewL (ss.map (·.2.1)))) ∧ w = w' := by
  have HL := Lib.hid hl
  have HR := Lib.hid h
  have HS := Lib.hid hs
  clear hl h hs
  go_enter Try.func23, Try.ntmps23
  go_wp2_with fail
  go_loop [3, 4] (fun s c => ∃ (k x : Nat), k ≤ n ∧ k ≤ 100 ∧ c = .int .i64 k ∧ s = .int .i64 x ∧ Hid (x = fewN ((ss.map (·.2.1)).take k)) ∧ x ≤ 2000 * k) (fun _ c => 100 - (intOf c).toNat)
  case atStart => exact ⟨0, 0, by omega, by omega, rfl, rfl, Lib.hid (by simp [fewN]), by omega⟩
  case round =>
    obtain ⟨k, x, hk, hk1, rfl, rfl, he, hx2⟩ := hrel
    by_cases hlt : k < n
    · by_cases hlt2 : k < 100
      · obtain ⟨b, o, rfl, hbl, hc⟩ := HR.out.2 (by omega)
        have hkl : k < ss.length := by rw [HL.out]; exact hlt
        have c1 := hc k (slv ss[k]) (by simp [hkl])
        have hb := HS.out ss[k] (List.getElem_mem hkl)
        have HX : Hid ((ss.map (·.2.1))[k]? = some (ss[k]).2.1) := Lib.hid (by simp [hkl])
        generalize ss[k] = sk at *
        obtain ⟨Ak, nk, ck⟩ := sk
        dsimp only [slv] at c1 hb HX
        clear hc
        by_cases hm : nk ≤ 2000
        · go_wp2
          go_round
          case rel => exact ⟨k + 1, x + nk, by omega, by omega, by go_num, by go_num, Lib.hid (by rw [fewN_snoc _ k nk HX.out, he.out, Nat.min_eq_left hm]), by omega⟩
          case measure => simp [intOf]; omega
        · go_wp2
          go_round
          case rel => exact ⟨k + 1, x + 2000, by omega, by omega, by go_num, by go_num, Lib.hid (by rw [fewN_snoc _ k nk HX.out, he.out, Nat.min_eq_right (by omega)]), by omega⟩
          case measure => simp [intOf]; omega
      · obtain rfl : k = 100 := by omega
        go_wp2
        all_goals (go_ret; exact ⟨ret_bool (few_out _ n (by simp [HL.out]) (by omega)), rfl⟩)
    · go_wp2
      · go_ret
        exact ⟨ret_bool (few_in _ n k x (by simp [HL.out]) (by omega) (by omega) he.out), rfl⟩
      · go_ret
        exact ⟨ret_bool (few_out _ n (by simp [HL.out]) (by omega)), rfl⟩

def diffFrom : List Int → List Int → Int → Int
  | [], [], _ => -1
  | [], _ :: _, i => i
  | _ :: _, [], i => i
  | x :: a, y :: b, i => if x = y then diffFrom a b (i + 1) else i

def diffL (a b : List Int) : Int := diffFrom a b 0

theorem diff_comm : ∀ (a b : List Int) (i : Int), diffFrom a b i = diffFrom b a i
  | [], [], _ => rfl
  | [], _ :: _, _ => rfl
  | _ :: _, [], _ => rfl
  | x :: a, y :: b, i => by
    simp only [diffFrom]
    by_cases h : x = y
    · rw [if_pos h, if_pos h.symm, diff_comm a b]
    · rw [if_neg h, if_neg (fun e => h e.symm)]

theorem diff_neg : ∀ (a b : List Int) (i : Int), 0 ≤ i → (diffFrom a b i < 0 ↔ a = b)
  | [], [], _, _ => by simp [diffFrom]
  | [], _ :: _, i, h => by simp [diffFrom]; omega
  | _ :: _, [], i, h => by simp [diffFrom]; omega
  | x :: a, y :: b, i, h => by
    simp only [diffFrom]
    by_cases e : x = y
    · rw [if_pos e, diff_neg a b (i + 1) (by omega)]; simp [e]
    · rw [if_neg e]; simp [e]; omega

theorem same_iff (a b : List Int) : decide (diffL a b < 0) = decide (a = b) := by
  rw [Bool.eq_iff_iff]
  simp only [decide_eq_true_eq]
  exact diff_neg a b 0 (by omega)

theorem diff_on {a b : List Int} {k : Nat} {x v : Int} (hv : Hid (v = diffFrom (a.drop k) (b.drop k) k)) (ha : Hid (a[k]? = some x)) (hb : Hid (b[k]? = some x)) : Hid (v = diffFrom (a.drop (k + 1)) (b.drop (k + 1)) ((k + 1 : Nat) : Int)) := by
  obtain ⟨h1, e1⟩ := List.getElem?_eq_some_iff.1 ha.out
  obtain ⟨h2, e2⟩ := List.getElem?_eq_some_iff.1 hb.out
  refine Lib.hid ?_
  rw [hv.out, List.drop_eq_getElem_cons h1, List.drop_eq_getElem_cons h2, e1, e2]
  simp only [diffFrom, if_true]
  rfl

theorem diff_hit {a b : List Int} {k : Nat} {x y v : Int} (hv : Hid (v = diffFrom (a.drop k) (b.drop k) k)) (ha : Hid (a[k]? = some x)) (hb : Hid (b[k]? = some y)) (h : x ≠ y) : (k : Int) = v := by
  obtain ⟨h1, e1⟩ := List.getElem?_eq_some_iff.1 ha.out
  obtain ⟨h2, e2⟩ := List.getElem?_eq_some_iff.1 hb.out
  rw [hv.out, List.drop_eq_getElem_cons h1, List.drop_eq_getElem_cons h2, e1, e2]
  simp only [diffFrom]
  rw [if_neg h]

theorem diff_end {a b : List Int} {k n m : Nat} {v : Int} (hv : Hid (v = diffFrom (a.drop k) (b.drop k) k)) (ha : Hid (a.length = n)) (hb : Hid (b.length = m)) (h1 : n ≤ k) (h2 : m ≤ k) : -1 = v := by
  rw [hv.out, List.drop_eq_nil_of_le (by have := ha.out; omega), List.drop_eq_nil_of_le (by have := hb.out; omega)]
  rfl

theorem diff_short {a b : List Int} {k n m : Nat} {v : Int} (hv : Hid (v = diffFrom (a.drop k) (b.drop k) k)) (ha : Hid (a.length = n)) (hb : Hid (b.length = m)) (h : (n ≤ k ∧ k < m) ∨ (m ≤ k ∧ k < n)) : (k : Int) = v := by
  have e1 := ha.out
  have e2 := hb.out
  rcases h with ⟨h1, h2⟩ | ⟨h1, h2⟩
  · rw [hv.out, List.drop_eq_nil_of_le (by omega), List.drop_eq_getElem_cons (show k < b.length by omega)]
    rfl
  · rw [hv.out, (show b.drop k = [] from List.drop_eq_nil_of_le (by omega)), List.drop_eq_getElem_cons (show k < a.length by omega)]
    rfl

set_option maxHeartbeats 1000000 in
theorem refDiffer_any (A B : Option Addr) (n m c d : Nat) (a b : List Int) (w : World) (ha : a.length = n) (hb : b.length = m) (h : Rd w 1 A n (iv a)) (h' : Rd w 1 B m (iv b)) (hn : n ≤ 10000000) (hm : m ≤ 10000000) :
    Calls Try.prog 58 #[.slice A n c, .slice B m d] w fun e w' => e = .returned (.int .i64 (diffL a b)) ∧ Below w.heap.size w w' := by
  have HA := Lib.hid ha
  have HB := Lib.hid hb
  have HR := Lib.hid h
  have HR' := Lib.hid h'
  clear ha hb h h'
  go_enter Try.func58, Try.ntmps58
  go_wp2_with fail
  go_loopw [5] (fun i wr => ∃ k : Nat, k ≤ n + m ∧ i = .int .i64 k ∧ Below w.heap.size w wr ∧ Hid (diffL a b = diffFrom (a.drop k) (b.drop k) k)) (fun i _ => n + m - (intOf i).toNat)
  case atStart => exact ⟨0, by omega, rfl, Below.refl _ _, Lib.hid rfl⟩
  case round =>
    obtain ⟨k, hk, rfl, hb, he⟩ := hrel
    by_cases h1 : k < n
    · by_cases h2 : k < m
      · obtain ⟨g, o, x, rfl, hbl, hx, c1⟩ := iv_at HA.out (HR.out.below hb) h1
        obtain ⟨g', o', y, rfl, hbl', hy, c2⟩ := iv_at HB.out (HR'.out.below hb) h2
        have HX := Lib.hid hx
        have HY := Lib.hid hy
        clear hx hy
        have i1 : (0 : Int) ≤ (k : Int) := by omega
        have i2 : (k : Int) < (n : Int) := by omega
        have i3 : (k : Int) < (m : Int) := by omega
        have g1 : decide (n ≤ k) = false := decide_eq_false (by omega)
        have g2 : decide (m ≤ k) = false := decide_eq_false (by omega)
        by_cases hxy : x = y
        · subst hxy
          go_wp2_with fail
          go_quiet (fail)
          go_wp2
          go_roundw
          case rel => exact ⟨k + 1, by omega, by go_num, below_drewN hb _, diff_on he HX HY⟩
          case measure => simp [intOf]; omega
        · go_wp2_with fail
          go_quiet (fail)
          go_wp2
          go_ret
          exact ⟨ret_int (diff_hit he HX HY hxy), below_drewN hb _⟩
      · have g1 : decide (n ≤ k) = false := decide_eq_false (by omega)
        have g2 : decide (m ≤ k) = true := decide_eq_true (by omega)
        go_wp2_with fail
        go_quiet (fail)
        go_wp2
        go_ret
        exact ⟨ret_int (diff_short he HA HB (by omega)), below_drewN hb _⟩
    · by_cases h2 : k < m
      · have g1 : decide (n ≤ k) = true := decide_eq_true (by omega)
        go_wp2_with fail
        go_quiet (fail)
        go_wp2
        go_ret
        exact ⟨ret_int (diff_short he HA HB (by omega)), below_drewN hb _⟩
      · go_wp2
        go_ret
        exact ⟨ret_int (diff_end he HA HB (by omega) (by omega)), hb⟩

set_option maxHeartbeats 400000 in
theorem refSame_any (A B : Option Addr) (n m c d : Nat) (a b : List Int) (w : World) (ha : a.length = n) (hb : b.length = m) (h : Rd w 1 A n (iv a)) (h' : Rd w 1 B m (iv b)) (hn : n ≤ 10000000) (hm : m ≤ 10000000) :
    Calls Try.prog 27 #[.slice A n c, .slice B m d] w fun e w' => e = .returned (.bool (decide (a = b))) ∧ Below w.heap.size w w' := by
  have HA := Lib.hid ha
  have HB := Lib.hid hb
  have HR := Lib.hid h
  have HR' := Lib.hid h'
  clear ha hb h h'
  go_enter Try.func27, Try.ntmps27
  go_wp2_with fail
  ((with_reducible refine (refDiffer_any A B n m c d a b _ HA.out HB.out HR.out HR'.out (by omega) (by omega)).mono ?_); rintro e w1 ⟨rfl, hb1⟩)
  go_wp2
  go_ret
  exact ⟨ret_bool (same_iff a b), hb1⟩

theorem only_drew' {a w : World} {row : Option Nat} (h : a.grownBy w row) : a.grownBy w.drew row := ⟨h.os, h.tape, h.output, h.size, h.block⟩

set_option maxHeartbeats 400000 in
theorem add_not (A B : Option Addr) (n m c d : Nat) (w : World) (hn : n ≤ 9223372036854775807) (hm : m ≤ 9223372036854775807) (h : n ≠ m) :
    Calls Try.prog 56 #[.slice A n c, .slice B m d] w fun e w' => e = .returned (.bool false) ∧ w = w' := by
  have d1 : ((n : Int) != (m : Int)) = true := by simp; omega
  go_enter Try.func56, Try.ntmps56
  go_wp2
  go_ret
  exact ⟨rfl, rfl⟩

set_option maxHeartbeats 1000000 in
theorem add_any (A B : Option Addr) (g o n c d N cap base : Nat) (xs ys : List Int) (w : World) (hA : 0 < n → A = some ⟨g, o, none⟩) (hN : o + n ≤ N) (hN2 : N ≤ 10000000) (hxl : xs.length = N) (hyl : ys.length = n)
    (hown : w.ownsRow base 2 1 (.slice (some ⟨g, 0, none⟩) N cap) N (iv xs)) (hy : Rd w 1 B n (iv ys)) (hne : ∀ b o', B = some ⟨b, o', none⟩ → 0 < n → b ≠ g) :
    Calls Try.prog 56 #[.slice A n c, .slice B n d] w fun e w' => e = .returned (.bool true) ∧ w'.ownsRow base 2 1 (.slice (some ⟨g, 0, none⟩) N cap) N (iv (addAt xs o ys n)) ∧ w.grownBy w' (some g) := by
  have HA := Lib.hid hA
  have HXL := Lib.hid hxl
  have HYL := Lib.hid hyl
  have HO := Lib.hid hown
  have HY := Lib.hid hy
  have HNE := Lib.hid hne
  clear hA hxl hyl hown hy hne
  go_enter Try.func56, Try.ntmps56
  go_wp2_with fail
  go_loopw [13] (fun i wr => ∃ k : Nat, k ≤ n ∧ i = .int .i64 k ∧ wr.ownsRow base 2 1 (.slice (some ⟨g, 0, none⟩) N cap) N (iv (addAt xs o ys k)) ∧ w.grownBy wr (some g)) (fun i _ => n - (intOf i).toNat)
  case atStart => exact ⟨0, by omega, rfl, by rw [addAt_zero]; exact HO.out, World.grownBy.refl _ _⟩
  case round =>
    obtain ⟨k, hk, rfl, hown, hg⟩ := hrel
    by_cases hlt : k < n
    · obtain rfl := HA.out (by omega)
      obtain ⟨b, o', rfl, hbl, hcy⟩ := HY.out.2 (by omega)
      have hbg := HNE.out b o' rfl (by omega)
      have hky : k < ys.length := by rw [HYL.out]; exact hlt
      have hkx : o + k < xs.length := by rw [HXL.out]; omega
      have c2 : wr.cell? ⟨b, o' + k, none⟩ = some (.int .i64 ys[k]) := hg.cell (hcy k _ (iv_get ys k hky)) (by simp [hbg])
      have c1 : wr.cell? ⟨g, o + k, none⟩ = some (.int .i64 xs[o + k]) := by
        rw [hown.cellAt (o + k) (by omega)]
        unfold iv
        rw [List.getElem?_map, addAt_at xs o ys k _ (List.getElem?_eq_getElem hkx)]
        rfl
      have f1 := hown.frozenAt (o + k)
      have HX := Lib.hid (List.getElem?_eq_getElem hkx)
      have HYk := Lib.hid (List.getElem?_eq_getElem hky)
      generalize xs[o + k] = x at *
      generalize ys[k] = y at *
      have HOw := Lib.hid hown
      have HG := Lib.hid hg
      have i1 : (k : Int) < (n : Int) := by omega
      have i3 : (0 : Int) ≤ (k : Int) := by omega
      clear hown hg hcy hkx hky hbl
      go_wp2_with fail
      go_region
      go_wp2
      go_roundw
      case rel => exact ⟨k + 1, by omega, by go_num, by rw [← addAt_next xs o ys k x y HX.out HYk.out, ← iv_set]; exact (HOw.out.stored (o + k) _).1, HG.out.trans (only_drew' (HOw.out.stored (o + k) _).2)⟩
      case measure => simp [intOf]; omega
    · obtain rfl : k = n := by omega
      go_wp2
      go_ret
      exact ⟨rfl, hown, hg⟩

set_option maxHeartbeats 400000 in
theorem add_zero (A B : Option Addr) (c d : Nat) (w : World) :
    Calls Try.prog 56 #[.slice A 0 c, .slice B 0 d] w fun e w' => e = .returned (.bool true) ∧ w = w' := by
  go_enter Try.func56, Try.ntmps56
  go_wp2_with fail
  go_loop [13] (fun i => i = .int .i64 0) (fun _ => 0)
  case atStart => rfl
  case round =>
    obtain rfl := hrel
    go_wp2
    go_ret
    exact ⟨rfl, rfl⟩

/-- A vector and true come back, or nothing and false. -/
def SumRet (w : World) (r : Option (List Int)) (e : Ending) (w' : World) : Prop :=
  match r with
  | none => e = .returned (.tuple #[.slice none 0 0, .bool false]) ∧ Below w.heap.size w w'
  | some z => ∃ A cap, e = .returned (.tuple #[.slice A z.length cap, .bool true]) ∧ w'.ownsRow w.heap.size 2 1 (.slice A z.length cap) z.length (iv z) ∧ Below w.heap.size w w'

theorem sumRet_some {w W : World} {r : Option (List Int)} {z : List Int} {A : Option Addr} {n cap : Nat} (h : r = some z) (hl : Hid (z.length = n)) (ho : Hid (W.ownsRow w.heap.size 2 1 (.slice A n cap) n (iv z))) (hb : Below w.heap.size w W) :
    SumRet w r (.returned (.tuple #[.slice A n cap, .bool true])) W := by
  subst h
  have := hl.out
  subst this
  exact ⟨A, cap, rfl, ho.out, hb⟩

theorem sumRet_none {w W : World} {r : Option (List Int)} (h : r = none) (hb : Below w.heap.size w W) : SumRet w r (.returned (.tuple #[.slice none 0 0, .bool false])) W := by
  subst h
  exact ⟨rfl, hb⟩

theorem addL_zeros (z : List Int) (h : ∀ x ∈ z, -9223372036854775808 ≤ x ∧ x ≤ 9223372036854775807) : addL (List.replicate z.length 0) z = z := by
  apply List.ext_getElem?
  intro i
  unfold addL
  rw [addAt_get]
  by_cases hi : i < z.length
  · rw [List.getElem?_replicate, if_pos hi, List.getElem?_eq_getElem hi]
    have := h z[i] (List.getElem_mem hi)
    simp [hi, List.getD, List.getElem?_eq_getElem hi]
    unfold wrap64
    omega
  · rw [List.getElem?_eq_none (by simpa using hi), List.getElem?_eq_none (by omega)]
    rfl

theorem sumL_zeros (zs : List (List Int)) (z : List Int) (hz : zs[0]? = some z) (h : ∀ x ∈ z, -9223372036854775808 ≤ x ∧ x ≤ 9223372036854775807) : sumL zs = sumFrom (List.replicate z.length 0) (zs.drop 0) := by
  rw [sumL_first zs z hz, sumFrom_step _ zs 0 z hz (by simp), addL_zeros z h]

theorem iv_zeros (n : Nat) : iv (List.replicate n 0) = List.replicate n (.int .i64 0) := by simp [iv]

theorem addL_is (x y : List Int) (n : Nat) (h : x.length = n) : addAt x 0 y n = addL x y := by unfold addL; rw [h]

set_option maxHeartbeats 400000 in
theorem refSum_nil (A : Option Addr) (cap : Nat) (w : World) :
    Calls Try.prog 57 #[.slice A 0 cap] w (SumRet w (sumL [])) := by
  go_enter Try.func57, Try.ntmps57
  go_wp2
  go_ret2
  exact ⟨none, 0, rfl, World.ownsRow_nil _ _ _ _, Below.refl _ _⟩

set_option maxHeartbeats 2000000 in
theorem refSum_any (A : Option Addr) (n cap : Nat) (ss : List (Option Addr × Nat × Nat)) (zs : List (List Int)) (w : World) (hl : ss.length = n) (hn1 : 1 ≤ n) (hn : n ≤ 10000000) (h : Rd w 1 A n (ss.map slv)) (hv : RdV w ss zs) (hz : ∀ z ∈ zs, z.length ≤ 10000000) (hx : ∀ z ∈ zs, ∀ x ∈ z, -9223372036854775808 ≤ x ∧ x ≤ 9223372036854775807) :
    Calls Try.prog 57 #[.slice A n cap] w (SumRet w (sumL zs)) := by
  have HL := Lib.hid hl
  have HR := Lib.hid h
  have HV := Lib.hid hv
  have HZ := Lib.hid hz
  obtain ⟨b, o, A0, n0, c0, z0, rfl, hbl, hs0, hz0, c1, hzl, hr0⟩ := sv_at hl h hv (show 0 < n by omega)
  have HZ0 := Lib.hid (sumL_zeros zs z0 hz0 (hx z0 (List.mem_of_getElem? hz0)))
  rw [hzl] at HZ0
  have hn0 : n0 ≤ 10000000 := by rw [← hzl]; exact hz z0 (List.mem_of_getElem? hz0)
  have d1 : ((n : Int) == 0) = false := by simp; omega
  clear hl h hv hz hz0 hs0 hzl hr0 hx
  rw [Nat.add_zero] at c1
  obtain ⟨i0, hi0, q0, q1, q2⟩ := info_parts slI64.info
  go_enter Try.func57, Try.ntmps57
  go_wp2_with (at_make; go_must (refine wpList_make_full w rfl _ _ _ rfl w.heap.size 2 i0 (.int .i64 0) 1 slI64.slice hi0 q0 q1 .i64 .i64 _ _ n0 rfl rfl rfl rfl (by rw [q2]; omega) (by unfold maxLen; omega) (Nat.le_refl _) ?_); intro W hown hg1)
  have hbW : Below w.heap.size w W := (Below.refl _ _).grown hg1 (Nat.le_refl _) (by simp)
  have HO : Hid (W.ownsRow w.heap.size 2 1 (.slice (some ⟨w.heap.size, 0, none⟩) n0 n0) n0 (iv (List.replicate n0 0))) := Lib.hid (by
    rw [iv_zeros, ← toList_madeCells_one]
    have e : (madeCells (Value.int .i64 0).cells (n0 * 1)) = madeCells #[.int .i64 0] n0 := by rw [Nat.mul_one]; rfl
    rw [← e]
    exact hown)
  clear hown hg1 c1
  go_loopw [5] (fun i wr => ∃ (k : Nat) (acc : List Int), k ≤ n ∧ i = .int .i64 k ∧ Hid (acc.length = n0) ∧ Hid (wr.ownsRow w.heap.size 2 1 (.slice (some ⟨w.heap.size, 0, none⟩) n0 n0) n0 (iv acc)) ∧ Below w.heap.size w wr ∧ Hid (sumL zs = sumFrom acc (zs.drop k))) (fun i _ => n - (intOf i).toNat)
  case atStart => exact ⟨0, List.replicate n0 0, by omega, rfl, Lib.hid (by simp), HO, hbW, HZ0⟩
  case round =>
    clear HO hbW
    obtain ⟨k, acc, hk, rfl, hacc, hO, hb, he⟩ := hrel
    by_cases hlt : k < n
    · obtain ⟨b', o', As, ns, cs, z, e1, hbl', hss, hzk, c2, hzl, hrz⟩ := sv_at HL.out HR.out HV.out hlt
      injection e1 with e1
      injection e1 with e2 e3
      subst e2 e3
      have HZK := Lib.hid hzk
      have HZl := Lib.hid hzl
      have HRZ := Lib.hid hrz
      have hns : ns ≤ 10000000 := by rw [← hzl]; exact HZ.out z (List.mem_of_getElem? hzk)
      have c3 : wr.cell? ⟨b, o + k, none⟩ = some (.slice As ns cs) := (hb.cell (p := ⟨b, o + k, none⟩) hbl).trans c2
      have C2 := Lib.hid c2
      clear hzk hzl hrz hss c2
      by_cases hnn : ns = n0
      · have d2 : ((ns : Int) != (n0 : Int)) = false := by simp [hnn]
        have HNN := Lib.hid hnn
        clear hnn
        obtain ⟨wo, rfl⟩ : ∃ wo : World, wo = wr := ⟨_, rfl⟩
        go_wp2_with fail
        go_loopw [6] (fun i wr => ∃ j : Nat, j ≤ n0 ∧ i = .int .i64 j ∧ Hid (wr.ownsRow w.heap.size 2 1 (.slice (some ⟨w.heap.size, 0, none⟩) n0 n0) n0 (iv (addAt acc 0 z j))) ∧ Below w.heap.size w wr) (fun i _ => n0 - (intOf i).toNat)
        case atStart => exact ⟨0, by omega, rfl, Lib.hid (by rw [addAt_zero]; exact hO.out), hb⟩
        case round =>
          clear hO hb c3
          obtain ⟨j, hj, rfl, hO, hb⟩ := hrel
          by_cases hlt2 : j < n0
          · have hns2 : j < ns := by have := HNN.out; omega
            obtain ⟨b1, o1, y, rfl, hbl1, hy, c4⟩ := iv_at HZl.out HRZ.out hns2
            have c5 : wr.cell? ⟨b, o + k, none⟩ = some (.slice (some ⟨b1, o1, none⟩) ns cs) := (hb.cell (p := ⟨b, o + k, none⟩) hbl).trans C2.out
            have c6 : wr.cell? ⟨b1, o1 + j, none⟩ = some (.int .i64 y) := (hb.cell (p := ⟨b1, o1 + j, none⟩) hbl1).trans c4
            obtain ⟨x, hx⟩ : ∃ x, acc[0 + j]? = some x := ⟨_, List.getElem?_eq_getElem (by rw [hacc.out]; omega)⟩
            have c7 : wr.cell? ⟨w.heap.size, j, none⟩ = some (.int .i64 x) := by
              rw [hO.out.cellAt j (by omega)]
              unfold iv
              have := addAt_at acc 0 z j x hx
              rw [Nat.zero_add] at this
              rw [List.getElem?_map, this]
              rfl
            have f7 := hO.out.frozenAt j
            have HX := Lib.hid hx
            have HY := Lib.hid hy
            have i1 : (0 : Int) ≤ (j : Int) := by omega
            have i2 : (j : Int) < (n0 : Int) := by omega
            have i3 : (j : Int) < (ns : Int) := by omega
            have i4 : (0 : Int) ≤ (k : Int) := by omega
            have i5 : (k : Int) < (n : Int) := by omega
            clear hy hx c4
            go_wp2_with fail
            go_region
            go_wp2
            go_roundw
            case rel => exact ⟨j + 1, by omega, by go_num, Lib.hid (by rw [← addAt_next acc 0 z j x y HX.out HY.out, ← iv_set, Nat.zero_add]; exact (hO.out.stored j _).1), (hb.setCell (p := ⟨w.heap.size, j, none⟩) (Nat.le_refl _) _).drew⟩
            case measure => simp [intOf]; omega
          · obtain rfl : j = n0 := by omega
            go_wp2
            go_roundw
            case rel => exact ⟨k + 1, addL acc z, by omega, by go_num, Lib.hid (by rw [addL_length]; exact hacc.out), Lib.hid (by rw [← addL_is acc z j hacc.out]; exact hO.out), hb, Lib.hid (by rw [he.out]; exact sumFrom_step acc zs k z HZK.out (by rw [HZl.out, hacc.out]; exact HNN.out))⟩
            case measure => simp [intOf]; omega
      · have d2 : ((ns : Int) != (n0 : Int)) = true := by simp; omega
        go_wp2
        go_ret2
        refine sumRet_none ?_ hb
        rw [he.out]
        exact sumFrom_stop acc zs k z HZK.out (by rw [HZl.out, hacc.out]; exact hnn)
    · go_wp2
      go_ret2
      refine sumRet_some ?_ hacc hO hb
      rw [he.out]
      exact sumFrom_end _ _ _ (by rw [← HV.out.1, HL.out]; omega)

end Go.Proofs.Ytkecpbdgcbgogaa
