/-
  Permutations as lists: two ways to say it; the place of a number; the reference's place and Valid.
-/
import Derived.Test.YtncjfijpaheobaaPermValid
namespace Go.Proofs.Ytncjfijpaheobaa
set_option linter.unusedVariables false
set_option linter.unusedSimpArgs false
set_option maxRecDepth 100000
open Go.RowKit

/-- All numbers below the length stand in the list. -/
def allIn (l : List Int) (k : Nat) : Prop := ∀ i, i < k → (i : Int) ∈ l

theorem good_len {l : List Int} : ∀ (k : Nat) (S : List Int), k ≤ l.length → goodTo l k → (∀ y ∈ l.take k, y ∈ S) → k ≤ S.length := by
  intro k
  induction k with
  | zero => intro S _ _ _; exact Nat.zero_le _
  | succ k ih =>
    intro S hk hg hS
    obtain ⟨x, hx⟩ : ∃ x, l[k]? = some x := ⟨_, List.getElem?_eq_getElem (by omega)⟩
    obtain ⟨_, hn⟩ := hg k x (by omega) hx
    have ht : l.take (k + 1) = l.take k ++ [x] := by rw [List.take_add_one, hx]; rfl
    have hxS : x ∈ S := hS x (by rw [ht]; simp)
    have h1 := ih (S.erase x) (by omega) (fun i y hi hy => hg i y (by omega) hy) (fun y hy => by
      have hne : y ≠ x := fun e => hn (e ▸ hy)
      exact (List.mem_erase_of_ne hne).2 (hS y (by rw [ht]; simp [hy])))
    rw [List.length_erase_of_mem hxS] at h1
    have := List.length_pos_of_mem hxS
    omega
theorem all_len : ∀ (k : Nat) (S : List Int), (∀ i, i < k → (i : Int) ∈ S) → k ≤ S.length := by
  intro k
  induction k with
  | zero => intro S _; exact Nat.zero_le _
  | succ k ih =>
    intro S hS
    have hk : (k : Int) ∈ S := hS k (by omega)
    have h1 := ih (S.erase (k : Int)) (fun i hi => (List.mem_erase_of_ne (by omega)).2 (hS i (by omega)))
    rw [List.length_erase_of_mem hk] at h1
    have := List.length_pos_of_mem hk
    omega
theorem good_iff (l : List Int) : goodTo l l.length ↔ allIn l l.length := by
  constructor
  · intro hg i hi
    apply Classical.byContradiction
    intro hno
    have hmem : ∀ y : Int, 0 ≤ y → y < (l.length : Int) → y ∈ (List.range l.length).map (fun j : Nat => (j : Int)) := fun y h0 h1 => by
      obtain ⟨j, rfl⟩ := Int.eq_ofNat_of_zero_le h0
      exact List.mem_map.2 ⟨j, List.mem_range.2 (by omega), rfl⟩
    have him := hmem i (by omega) (by omega)
    have h1 := good_len l.length (((List.range l.length).map (fun j : Nat => (j : Int))).erase (i : Int)) (Nat.le_refl _) hg (fun y hy => by
      rw [List.take_length] at hy
      obtain ⟨k, hk, e⟩ := List.getElem_of_mem hy
      have hb := (hg k y hk (by rw [List.getElem?_eq_getElem hk, e])).1
      have hne : y ≠ (i : Int) := fun e => hno (by rw [← e]; exact hy)
      exact (List.mem_erase_of_ne hne).2 (hmem y hb.1 hb.2))
    rw [List.length_erase_of_mem him, List.length_map, List.length_range] at h1
    omega
  · intro ha k x hk hx
    obtain ⟨hkl, ex⟩ := List.getElem?_eq_some_iff.1 hx
    have hxm : x ∈ l := ex ▸ List.getElem_mem hkl
    refine ⟨?_, fun hin => ?_⟩
    · apply Classical.byContradiction
      intro hbad
      have h1 := all_len l.length (l.erase x) (fun i hi => (List.mem_erase_of_ne (fun e => hbad ⟨by omega, by omega⟩)).2 (ha i hi))
      rw [List.length_erase_of_mem hxm] at h1
      omega
    · have h1 := all_len l.length (l.eraseIdx k) (fun i hi => by
        have hm := ha i hi
        rw [List.eraseIdx_eq_take_drop_succ]
        rw [← List.take_append_drop k l, List.drop_eq_getElem_cons hkl, ex] at hm
        rcases List.mem_append.1 hm with h | h
        · exact List.mem_append.2 (.inl h)
        · rcases List.mem_cons.1 h with h | h
          · exact List.mem_append.2 (.inl (h ▸ hin))
          · exact List.mem_append.2 (.inr h))
      rw [List.length_eraseIdx, if_pos hkl] at h1
      omega

/-- The first place of a number, from i on. -/
def placeF (x : Int) : List Int → Int → Int
  | [], _ => -1
  | y :: l, i => if y = x then i else placeF x l (i + 1)
def placeL (l : List Int) (x : Int) : Int := placeF x l 0
theorem placeF_hit {l : List Int} {k : Nat} {x : Int} (h : l[k]? = some x) : placeF x (l.drop k) k = k := by
  obtain ⟨h1, h2⟩ := List.getElem?_eq_some_iff.1 h
  rw [List.drop_eq_getElem_cons h1, h2]
  simp [placeF]
theorem placeF_on {l : List Int} {k : Nat} {x y : Int} (h : l[k]? = some y) (hne : y ≠ x) : placeF x (l.drop k) k = placeF x (l.drop (k + 1)) ((k + 1 : Nat) : Int) := by
  obtain ⟨h1, h2⟩ := List.getElem?_eq_some_iff.1 h
  rw [List.drop_eq_getElem_cons h1, h2]
  simp [placeF, hne]
theorem placeF_end {l : List Int} {k : Nat} (x : Int) (h : l.length ≤ k) : placeF x (l.drop k) k = -1 := by
  rw [List.drop_eq_nil_of_le h]
  rfl
theorem placeF_neg (x : Int) : ∀ (l : List Int) (i : Int), 0 ≤ i → (placeF x l i < 0 ↔ x ∉ l)
  | [], i, _ => by simp [placeF]
  | y :: l, i, h => by
    unfold placeF
    by_cases e : y = x
    · rw [if_pos e]
      subst e
      simp
      omega
    · rw [if_neg e, placeF_neg x l (i + 1) (by omega)]
      constructor
      · intro h h2
        rcases List.mem_cons.1 h2 with h3 | h3
        · exact e h3.symm
        · exact h h3
      · intro h h2
        exact h (List.mem_cons_of_mem _ h2)
theorem placeL_neg (l : List Int) (x : Int) : placeL l x < 0 ↔ x ∉ l := placeF_neg x l 0 (by omega)

set_option maxHeartbeats 1000000 in
theorem place_any (A : Option Addr) (n c : Nat) (l : List Int) (x : Int) (w : World) (hl : l.length = n) (h : Rd w 1 A n (iv l)) (hn : n ≤ 1000000) :
    Calls Try.prog 55 #[.slice A n c, .int .i64 x] w fun e w' => e = .returned (.int .i64 (placeL l x)) ∧ w = w' := by
  have HL := Lib.hid hl
  have HR := Lib.hid h
  clear hl h
  go_enter Try.func55, Try.ntmps55
  go_wp2_with fail
  go_loopw [5] (fun i wr => ∃ k : Nat, k ≤ n ∧ i = .int .i64 k ∧ wr = w ∧ Hid (placeL l x = placeF x (l.drop k) k)) (fun i _ => n - (intOf i).toNat)
  case atStart => exact ⟨0, by omega, rfl, rfl, Lib.hid rfl⟩
  case round =>
    obtain ⟨k, hk, rfl, hw, hp⟩ := hrel
    subst hw
    by_cases hlt : k < n
    · obtain ⟨g, o, y, rfl, hbl, hy, c1⟩ := iv_at HL.out HR.out hlt
      have HY := Lib.hid hy
      have i1 : (0 : Int) ≤ (k : Int) := by omega
      have i2 : (k : Int) < (n : Int) := by omega
      clear hy
      by_cases e : y = x
      · subst e
        go_wp2_with fail
        go_ret
        exact ⟨ret_int (hp.out.trans (placeF_hit HY.out)).symm, rfl⟩
      · have e1 : (y == x) = false := by simp [e]
        go_wp2_with fail
        go_roundw
        case rel => exact ⟨k + 1, by omega, by go_num, trivial, Lib.hid (hp.out.trans (placeF_on HY.out e))⟩
        case measure => simp [intOf]; omega
    · obtain rfl : k = n := by omega
      go_wp2_with fail
      go_ret
      exact ⟨ret_int (hp.out.trans (placeF_end x (by rw [HL.out]; exact Nat.le_refl _))).symm, rfl⟩

set_option maxHeartbeats 1000000 in
theorem refValid_good (A : Option Addr) (n c : Nat) (l : List Int) (w : World) (hl : l.length = n) (h : Rd w 1 A n (iv l)) (hn : n ≤ 1000000) (q : Bool) (hq : q = true ↔ goodTo l n) :
    Calls Try.prog 54 #[.slice A n c] w fun e w' => e = .returned (.bool q) ∧ w = w' := by
  have hq2 : q = true ↔ allIn l n := by rw [hq, ← hl]; exact good_iff l
  have HQ := Lib.hid hq2
  have HC := Lib.hid (fun x => place_any A n c l x w hl h hn)
  clear hl h hq hq2
  go_enter Try.func54, Try.ntmps54
  go_wp2_with fail
  go_loopw [3] (fun i wr => ∃ k : Nat, k ≤ n ∧ i = .int .i64 k ∧ wr = w ∧ Hid (allIn l k)) (fun i _ => n - (intOf i).toNat)
  case atStart => exact ⟨0, by omega, rfl, rfl, Lib.hid (fun i h => absurd h (by omega))⟩
  case round =>
    obtain ⟨k, hk, rfl, hw, ha⟩ := hrel
    subst hw
    by_cases hlt : k < n
    · by_cases hin : (k : Int) ∈ l
      · have hpos : ¬ placeL l k < 0 := fun h => (placeL_neg l k).1 h hin
        obtain ⟨v, hv⟩ : ∃ v, placeL l (k : Int) = v := ⟨_, rfl⟩
        have C := HC.out (k : Int)
        rw [hv] at C hpos
        have HC2 := Lib.hid C
        have e1 : decide (v < 0) = false := decide_eq_false hpos
        clear C hv
        go_wp2_with fail
        ((with_reducible refine HC2.out.mono ?_); rintro e w1 ⟨rfl, rfl⟩)
        go_wp2_with fail
        go_roundw
        case rel => exact ⟨k + 1, by omega, by go_num, trivial, Lib.hid (fun i hi => by
          by_cases e : i = k
          · subst e; exact hin
          · exact ha.out i (by omega))⟩
        case measure => simp [intOf]; omega
      · have hneg : placeL l k < 0 := (placeL_neg l k).2 hin
        obtain ⟨v, hv⟩ : ∃ v, placeL l (k : Int) = v := ⟨_, rfl⟩
        have C := HC.out (k : Int)
        rw [hv] at C hneg
        have HC2 := Lib.hid C
        have e1 : decide (v < 0) = true := decide_eq_true hneg
        clear C hv
        go_wp2_with fail
        ((with_reducible refine HC2.out.mono ?_); rintro e w1 ⟨rfl, rfl⟩)
        go_wp2_with fail
        go_ret
        have hqf : q = false := by
          cases q
          · rfl
          · exact absurd (HQ.out.1 rfl k hlt) hin
        rw [hqf]
        exact ⟨rfl, rfl⟩
    · obtain rfl : k = n := by omega
      go_wp2_with fail
      go_ret
      rw [HQ.out.2 ha.out]
      exact ⟨rfl, rfl⟩

end Go.Proofs.Ytncjfijpaheobaa
