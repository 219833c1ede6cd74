/-
  The cycles of a permutation, in plain lists.
-/
import Derived.Test.YtncjfijpaheobaaPermDrPlain
namespace Go.Proofs.Ytncjfijpaheobaa
set_option linter.unusedVariables false
set_option linter.unusedSimpArgs false
set_option maxRecDepth 100000
open Go.RowKit

/-- The number that stands at place x. -/
def nxP (p : List Int) (x : Int) : Int := p.getD x.toNat 0
/-- k steps from i on. -/
def itP (p : List Int) (i : Int) : Nat → Int
  | 0 => i
  | k + 1 => nxP p (itP p i k)

section
variable {p : List Int} (hg : goodTo p p.length)
include hg
omit hg in
theorem nxP_get {x : Int} (h0 : 0 ≤ x) (h1 : x < (p.length : Int)) : p[x.toNat]? = some (nxP p x) := by
  rw [nxP, List.getD, List.getElem?_eq_getElem (by omega)]
  rfl
theorem nxP_in {x : Int} (h0 : 0 ≤ x) (h1 : x < (p.length : Int)) : 0 ≤ nxP p x ∧ nxP p x < (p.length : Int) := (hg x.toNat _ (by omega) (nxP_get h0 h1)).1
theorem nxP_inj {x y : Int} (h0 : 0 ≤ x) (h1 : x < (p.length : Int)) (h2 : 0 ≤ y) (h3 : y < (p.length : Int)) (e : nxP p x = nxP p y) : x = y := by
  have hx := nxP_get h0 h1
  have hy := nxP_get h2 h3
  rw [← e] at hy
  have := good_inj hg hx hy
  omega
theorem itP_in {i : Int} (h0 : 0 ≤ i) (h1 : i < (p.length : Int)) (k : Nat) : 0 ≤ itP p i k ∧ itP p i k < (p.length : Int) := by
  induction k with
  | zero => exact ⟨h0, h1⟩
  | succ k ih => exact nxP_in hg ih.1 ih.2
omit hg in
theorem itP_add (i : Int) (a b : Nat) : itP p i (a + b) = itP p (itP p i a) b := by
  induction b with
  | zero => rfl
  | succ b ih => rw [← Nat.add_assoc, itP, ih]; rfl
theorem itP_back {i : Int} (h0 : 0 ≤ i) (h1 : i < (p.length : Int)) (a b : Nat) (e : itP p i a = itP p i (a + b)) : itP p i b = i := by
  induction a with
  | zero => rw [Nat.zero_add] at e; exact e.symm
  | succ a ih =>
    apply ih
    rw [show a + 1 + b = (a + b) + 1 by omega, itP, itP] at e
    exact nxP_inj hg (itP_in hg h0 h1 _).1 (itP_in hg h0 h1 _).2 (itP_in hg h0 h1 _).1 (itP_in hg h0 h1 _).2 e
theorem itP_round {i : Int} (h0 : 0 ≤ i) (h1 : i < (p.length : Int)) : ∃ m, 0 < m ∧ m ≤ p.length ∧ itP p i m = i := by
  apply Classical.byContradiction
  intro hno
  have hne : ∀ m, 0 < m → m ≤ p.length → itP p i m ≠ i := fun m h2 h3 e => hno ⟨m, h2, h3, e⟩
  have hlen : ((List.range (p.length + 1)).map (itP p i)).length = p.length + 1 := by simp
  have hgd : goodTo ((List.range (p.length + 1)).map (itP p i)) (p.length + 1) := by
    intro k x hk hx
    have ex : itP p i k = x := by simpa [hk] using hx
    have hb := itP_in hg h0 h1 k
    rw [hlen]
    refine ⟨⟨by omega, by omega⟩, fun hin => ?_⟩
    rw [← List.map_take, List.take_range] at hin
    obtain ⟨j, hj, e⟩ := List.mem_map.1 hin
    have hj := List.mem_range.1 hj
    refine hne (k - j) (by omega) (by omega) (itP_back hg h0 h1 j (k - j) ?_)
    rw [show j + (k - j) = k by omega, e, ex]
  have h := good_len (p.length + 1) (iotaL p.length) (by omega) hgd (fun y hy => by
    rw [List.take_of_length_le (by omega)] at hy
    obtain ⟨k, _, rfl⟩ := List.mem_map.1 hy
    have hb := itP_in hg h0 h1 k
    refine List.mem_map.2 ⟨(itP p i k).toNat, List.mem_range.2 (by omega), by omega⟩)
  rw [iotaL_length] at h
  omega
omit hg in
theorem ordF_at (p : List Int) (i : Int) (m : Nat) (hm : itP p i m = i) : ∀ f k, k ≤ m → m ≤ k + f → (∀ j, 0 < j → j < k → itP p i j ≠ i) → 0 < k → ∃ r, r ≤ m ∧ k ≤ r ∧ itP p i r = i ∧ ∀ j, 0 < j → j < r → itP p i j ≠ i := by
  intro f
  induction f with
  | zero => intro k h1 h2 h3 h4; exact ⟨k, h1, Nat.le_refl _, by rw [show k = m by omega]; exact hm, h3⟩
  | succ f ih =>
    intro k h1 h2 h3 h4
    by_cases e : itP p i k = i
    · exact ⟨k, h1, Nat.le_refl _, e, h3⟩
    · have hkm : k ≠ m := fun e2 => e (by rw [e2]; exact hm)
      obtain ⟨r, r1, r2, r3, r4⟩ := ih (k + 1) (by omega) (by omega) (fun j j1 j2 => by
        by_cases e2 : j = k
        · rw [e2]; exact e
        · exact h3 j j1 (by omega)) (by omega)
      exact ⟨r, r1, by omega, r3, r4⟩
theorem ord_ex {i : Int} (h0 : 0 ≤ i) (h1 : i < (p.length : Int)) : ∃ r, 0 < r ∧ r ≤ p.length ∧ itP p i r = i ∧ ∀ j, 0 < j → j < r → itP p i j ≠ i := by
  obtain ⟨m, m1, m2, m3⟩ := itP_round hg h0 h1
  obtain ⟨r, r1, r2, r3, r4⟩ := ordF_at p i m m3 m 1 m1 (by omega) (fun j j1 j2 => by omega) (by omega)
  exact ⟨r, r2, by omega, r3, r4⟩
end

/-- The first k numbers of i's cycle. -/
def cycTo (p : List Int) (i : Int) (k : Nat) : List Int := (List.range k).map (itP p i)
theorem cycTo_length (p : List Int) (i : Int) (k : Nat) : (cycTo p i k).length = k := by simp [cycTo]
theorem cycTo_succ (p : List Int) (i : Int) (k : Nat) : cycTo p i (k + 1) = cycTo p i k ++ [itP p i k] := by simp [cycTo, List.range_succ]
theorem iv_cyc_succ (p : List Int) (i : Int) (k : Nat) (x : Int) (h : itP p i k = x) : iv (cycTo p i (k + 1)) = iv (cycTo p i k) ++ [.int .i64 x] := by rw [cycTo_succ, iv_append, h]; rfl
theorem cycTo_mem (p : List Int) (i : Int) (k : Nat) (x : Int) : x ∈ cycTo p i k ↔ ∃ j, j < k ∧ itP p i j = x := by
  simp [cycTo]
/-- How long i's cycle is: the least place of i behind the first. -/
def ordFrom (p : List Int) (i : Int) : Nat → Nat → Nat
  | 0, k => k
  | f + 1, k => if itP p i k = i then k else ordFrom p i f (k + 1)
def ordP (p : List Int) (i : Int) : Nat := ordFrom p i p.length 1
theorem ordFrom_eq (p : List Int) (i : Int) (r : Nat) (hr : itP p i r = i) (hn : ∀ j, 0 < j → j < r → itP p i j ≠ i) : ∀ f k, 0 < k → k ≤ r → r ≤ k + f → ordFrom p i f k = r := by
  intro f
  induction f with
  | zero => intro k h0 h1 h2; rw [ordFrom]; omega
  | succ f ih =>
    intro k h0 h1 h2
    rw [ordFrom]
    by_cases e : k = r
    · subst e; rw [if_pos hr]
    · rw [if_neg (hn k h0 (by omega)), ih (k + 1) (by omega) (by omega) (by omega)]
def cycL (p : List Int) (i : Int) : List Int := cycTo p i (ordP p i)

section
variable {p : List Int} (hg : goodTo p p.length) {i : Int} (h0 : 0 ≤ i) (h1 : i < (p.length : Int))
include hg h0 h1
theorem ordP_spec : 0 < ordP p i ∧ ordP p i ≤ p.length ∧ itP p i (ordP p i) = i ∧ ∀ j, 0 < j → j < ordP p i → itP p i j ≠ i := by
  obtain ⟨r, r1, r2, r3, r4⟩ := ord_ex hg h0 h1
  rw [show ordP p i = r from ordFrom_eq p i r r3 r4 p.length 1 (by omega) r1 (by omega)]
  exact ⟨r1, r2, r3, r4⟩
theorem cyc_it (k : Nat) : itP p i k ∈ cycL p i := by
  obtain ⟨o1, o2, o3, o4⟩ := ordP_spec hg h0 h1
  rw [cycL]
  induction k with
  | zero => exact (cycTo_mem _ _ _ _).2 ⟨0, o1, rfl⟩
  | succ k ih =>
    obtain ⟨j, hj, e⟩ := (cycTo_mem _ _ _ _).1 ih
    by_cases e2 : j + 1 = ordP p i
    · refine (cycTo_mem _ _ _ _).2 ⟨0, o1, ?_⟩
      rw [itP, itP, ← e]
      have o5 := o3
      rw [← e2, itP] at o5
      exact o5.symm
    · exact (cycTo_mem _ _ _ _).2 ⟨j + 1, by omega, by rw [itP, itP, e]⟩
theorem cyc_in {x : Int} (hx : x ∈ cycL p i) : 0 ≤ x ∧ x < (p.length : Int) := by
  obtain ⟨j, _, rfl⟩ := (cycTo_mem _ _ _ _).1 hx
  exact itP_in hg h0 h1 j
theorem cyc_self : i ∈ cycL p i := cyc_it hg h0 h1 0
theorem cyc_symm {x : Int} (hx : x ∈ cycL p i) : i ∈ cycL p x := by
  have hb := cyc_in hg h0 h1 hx
  obtain ⟨o1, o2, o3, o4⟩ := ordP_spec hg h0 h1
  obtain ⟨j, hj, e⟩ := (cycTo_mem _ _ _ _).1 hx
  have h := cyc_it hg hb.1 hb.2 (ordP p i - j)
  rw [← e, ← itP_add, show j + (ordP p i - j) = ordP p i by omega, o3] at h
  rw [← e]
  exact h
theorem cyc_trans {x y : Int} (hx : x ∈ cycL p i) (hy : y ∈ cycL p x) : y ∈ cycL p i := by
  obtain ⟨j, hj, e⟩ := (cycTo_mem _ _ _ _).1 hx
  obtain ⟨k, hk, e2⟩ := (cycTo_mem _ _ _ _).1 hy
  rw [← e2, ← e, ← itP_add]
  exact cyc_it hg h0 h1 _
/-- k numbers of the cycle: the next one is new exactly if the cycle is not yet round. -/
theorem cyc_next {k : Nat} (hk : k ≤ ordP p i) : itP p i k ∈ cycTo p i k ↔ k = ordP p i := by
  obtain ⟨o1, o2, o3, o4⟩ := ordP_spec hg h0 h1
  constructor
  · intro h
    obtain ⟨j, hj, e⟩ := (cycTo_mem _ _ _ _).1 h
    apply Classical.byContradiction
    intro hne
    exact o4 (k - j) (by omega) (by omega) (itP_back hg h0 h1 j (k - j) (by rw [show j + (k - j) = k by omega]; exact e))
  · intro e
    rw [e]
    exact (cycTo_mem _ _ _ _).2 ⟨0, o1, by rw [o3]; rfl⟩
theorem cyc_nodup : (cycL p i).Nodup := by
  obtain ⟨o1, o2, o3, o4⟩ := ordP_spec hg h0 h1
  rw [cycL, cycTo, List.Nodup, List.pairwise_map]
  refine List.Pairwise.imp_of_mem (fun {a b} ha hb hlt e => ?_) List.pairwise_lt_range
  have hb := List.mem_range.1 hb
  exact o4 (b - a) (by omega) (by omega) (itP_back hg h0 h1 a (b - a) (by rw [show a + (b - a) = b by omega]; exact e))
end

/-- The next k numbers of i's cycle lie above i. -/
def leastTo (p : List Int) (i : Int) : Nat → Bool
  | 0 => true
  | k + 1 => leastTo p i k && decide (i < itP p i (k + 1))
theorem leastTo_iff (p : List Int) (i : Int) (k : Nat) : leastTo p i k = true ↔ ∀ j, 0 < j → j ≤ k → i < itP p i j := by
  induction k with
  | zero => exact ⟨fun _ j h1 h2 => by omega, fun _ => rfl⟩
  | succ k ih =>
    rw [leastTo, Bool.and_eq_true, ih, decide_eq_true_iff]
    constructor
    · rintro ⟨a, b⟩ j h1 h2
      by_cases e : j = k + 1
      · rw [e]; exact b
      · exact a j h1 (by omega)
    · intro h
      exact ⟨fun j h1 h2 => h j h1 (by omega), h (k + 1) (by omega) (by omega)⟩
def leastP (p : List Int) (i : Int) : Bool := leastTo p i (ordP p i - 1)
/-- The cycles of the least numbers below k. -/
def cycs (p : List Int) : Nat → List (List Int)
  | 0 => []
  | k + 1 => cycs p k ++ (if leastP p (k : Int) = true then [cycL p (k : Int)] else [])
theorem cycs_length (p : List Int) (k : Nat) : (cycs p k).length ≤ k := by
  induction k with
  | zero => simp [cycs]
  | succ k ih =>
    rw [cycs]
    split <;> simp <;> omega

section
variable {p : List Int} (hg : goodTo p p.length)
include hg
theorem cycs_mem {k : Nat} (hk : k ≤ p.length) : ∀ y, y ∈ (cycs p k).flatten ↔ ∃ j : Nat, j < k ∧ y ∈ cycL p (j : Int) := by
  induction k with
  | zero => intro y; simp [cycs]
  | succ k ih =>
    have ih := ih (by omega)
    have b0 : (0 : Int) ≤ (k : Int) := by omega
    have b1 : (k : Int) < (p.length : Int) := by omega
    intro y
    rw [cycs, List.flatten_append, List.mem_append, ih]
    by_cases hl : leastP p (k : Int) = true
    · rw [if_pos hl]
      simp only [List.flatten_cons, List.flatten_nil, List.append_nil]
      constructor
      · rintro (⟨j, hj, h⟩ | h)
        · exact ⟨j, by omega, h⟩
        · exact ⟨k, by omega, h⟩
      · rintro ⟨j, hj, h⟩
        by_cases e : j = k
        · subst e; exact .inr h
        · exact .inl ⟨j, by omega, h⟩
    · rw [if_neg hl]
      simp only [List.flatten_nil, List.not_mem_nil, or_false]
      constructor
      · rintro ⟨j, hj, h⟩
        exact ⟨j, by omega, h⟩
      · rintro ⟨j, hj, h⟩
        by_cases e : j = k
        · subst e
          rw [leastP, leastTo_iff] at hl
          obtain ⟨m, hm⟩ := Classical.not_forall.1 hl
          obtain ⟨m1, hm⟩ := Classical.not_imp.1 hm
          obtain ⟨m2, m3⟩ := Classical.not_imp.1 hm
          obtain ⟨o1, o2, o3, o4⟩ := ordP_spec hg b0 b1
          have hne := o4 m m1 (by omega)
          have hin := cyc_it hg b0 b1 m
          have hb := cyc_in hg b0 b1 hin
          obtain ⟨z, hz⟩ := Int.eq_ofNat_of_zero_le hb.1
          rw [hz] at hin hb hne m3
          exact ⟨z, by omega, cyc_trans hg hb.1 hb.2 (cyc_symm hg b0 b1 hin) h⟩
        · exact ⟨j, by omega, h⟩
theorem cycs_least {k : Nat} (hk : k < p.length) : leastP p (k : Int) = true ↔ (k : Int) ∉ (cycs p k).flatten := by
  have b0 : (0 : Int) ≤ (k : Int) := by omega
  have b1 : (k : Int) < (p.length : Int) := by omega
  obtain ⟨o1, o2, o3, o4⟩ := ordP_spec hg b0 b1
  rw [cycs_mem hg (by omega)]
  constructor
  · rintro hl ⟨j, hj, h⟩
    have hs := cyc_symm hg (i := (j : Int)) (by omega) (by omega) h
    obtain ⟨m, m1, m2⟩ := (cycTo_mem _ _ _ _).1 hs
    have hm0 : m ≠ 0 := fun e => by subst e; rw [itP] at m2; omega
    rw [leastP, leastTo_iff] at hl
    have := hl m (by omega) (by omega)
    omega
  · intro hno
    rw [leastP, leastTo_iff]
    intro m m1 m2
    apply Classical.byContradiction
    intro m3
    have hne := o4 m m1 (by omega)
    have hin := cyc_it hg b0 b1 m
    have hb := cyc_in hg b0 b1 hin
    obtain ⟨z, hz⟩ := Int.eq_ofNat_of_zero_le hb.1
    rw [hz] at hin hb hne m3
    exact hno ⟨z, by omega, cyc_symm hg b0 b1 hin⟩
theorem cycs_far {k : Nat} (hk : k < p.length) (h : (k : Int) ∉ (cycs p k).flatten) (m : Nat) : itP p (k : Int) m ∉ (cycs p k).flatten := by
  have b0 : (0 : Int) ≤ (k : Int) := by omega
  have b1 : (k : Int) < (p.length : Int) := by omega
  intro hin
  obtain ⟨j, hj, hm⟩ := (cycs_mem hg (by omega) _).1 hin
  exact h ((cycs_mem hg (by omega) _).2 ⟨j, hj, cyc_trans hg (by omega) (by omega) hm (cyc_symm hg b0 b1 (cyc_it hg b0 b1 m))⟩)
theorem cycs_nodup {k : Nat} (hk : k ≤ p.length) : (cycs p k).flatten.Nodup := by
  induction k with
  | zero => simp [cycs]
  | succ k ih =>
    have b0 : (0 : Int) ≤ (k : Int) := by omega
    have b1 : (k : Int) < (p.length : Int) := by omega
    rw [cycs, List.flatten_append]
    by_cases hl : leastP p (k : Int) = true
    · rw [if_pos hl]
      simp only [List.flatten_cons, List.flatten_nil, List.append_nil]
      refine List.nodup_append.2 ⟨ih (by omega), cyc_nodup hg b0 b1, fun a ha b hb e => ?_⟩
      subst e
      obtain ⟨m, _, e⟩ := (cycTo_mem _ _ _ _).1 hb
      rw [← e] at ha
      exact cycs_far hg (by omega) ((cycs_least hg (by omega)).1 hl) m ha
    · rw [if_neg hl]
      simpa using ih (by omega)
theorem cycs_in {k : Nat} (hk : k ≤ p.length) {y : Int} (hy : y ∈ (cycs p k).flatten) : 0 ≤ y ∧ y < (p.length : Int) := by
  obtain ⟨j, hj, h⟩ := (cycs_mem hg hk y).1 hy
  exact cyc_in hg (by omega) (by omega) h
omit hg in
theorem nodup_take {l : List Int} (h : l.Nodup) (k : Nat) (x : Int) (hx : l[k]? = some x) : x ∉ l.take k := by
  intro hin
  obtain ⟨hk, ex⟩ := List.getElem?_eq_some_iff.1 hx
  rw [← List.take_append_drop k l] at h
  have h2 := (List.nodup_append.1 h).2.2
  exact h2 x hin x (by rw [List.drop_eq_getElem_cons hk, ex]; simp) rfl
/-- All cycles together have each number once. -/
theorem cycs_total : (cycs p p.length).flatten.length = p.length := by
  have h1 := all_len p.length (cycs p p.length).flatten (fun i hi => (cycs_mem hg (Nat.le_refl _) _).2 ⟨i, hi, cyc_self hg (by omega) (by omega)⟩)
  have hgd : goodTo (cycs p p.length).flatten (cycs p p.length).flatten.length := fun i x hi hx => by
    have hb := cycs_in hg (Nat.le_refl _) (List.mem_of_getElem? hx)
    exact ⟨⟨hb.1, by omega⟩, nodup_take (cycs_nodup hg (Nat.le_refl _)) i x hx⟩
  have h2 := good_len _ (iotaL p.length) (Nat.le_refl _) hgd (fun y hy => by
    have hb := cycs_in hg (Nat.le_refl _) (List.mem_of_mem_take hy)
    exact List.mem_map.2 ⟨y.toNat, List.mem_range.2 (by omega), by omega⟩)
  rw [iotaL_length] at h2
  omega
end

end Go.Proofs.Ytncjfijpaheobaa
