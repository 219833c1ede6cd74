/-
  Vectors of one length, each in its own memory.
-/
import Derived.Test.YtkecpbdgcbgogaaRedChain
import Derived.Test.YtkecpbdgcbgogaaVecR
import Derived.Test.YtkecpbdgcbgogaaPlPlain
import Derived.Test.YtkecpbdgcbgogaaPush
namespace Go.Proofs.Ytkecpbdgcbgogaa
set_option linter.unusedVariables false
set_option linter.unusedSimpArgs false
set_option maxRecDepth 100000
open Go.RowKit

abbrev Sl3 := Option Addr × Nat × Nat
structure RowsV (w : World) (base n : Nat) (ss : List Sl3) (F : Nat → List Int) : Prop where
  len : ∀ (k : Nat) (s : Sl3), ss[k]? = some s → s.2.1 = n
  row : ∀ (k : Nat) (s : Sl3), ss[k]? = some s → w.ownsRow base 2 1 (slv s) n (iv (F k))
  far : ∀ (j k : Nat) (s t : Sl3) (g : Nat), ss[j]? = some s → ss[k]? = some t → j ≠ k → (slv s).ownBlock = some g → (slv t).ownBlock ≠ some g

section
variable {w w' : World} {base n : Nat} {ss : List Sl3} {F : Nat → List Int}
theorem RowsV.nil (w : World) (base n : Nat) (F : Nat → List Int) : RowsV w base n [] F := ⟨fun k s h => by simp at h, fun k s h => by simp at h, fun j k s t g h => by simp at h⟩
theorem RowsV.below (h : RowsV w base n ss F) (hb : Below w.heap.size w w') : RowsV w' base n ss F := ⟨h.len, fun k s hk => own_below (h.row k s hk) hb, h.far⟩
theorem RowsV.stay {t u : TypeId} (h : RowsV w base n ss F) (hs : Stay t u w w') (hz : w.heap.size ≤ w'.heap.size) (h1 : 2 ≠ t) (h2 : 2 ≠ u) : RowsV w' base n ss F := ⟨h.len, fun k s hk => hs.own hz (h.row k s hk) h1 h2, h.far⟩
theorem RowsV.base_ {base' : Nat} (h : RowsV w base n ss F) (hb : base' ≤ base) : RowsV w base' n ss F := ⟨h.len, fun k s hk => own_base (h.row k s hk) hb, h.far⟩
theorem RowsV.congr {G : Nat → List Int} (h : RowsV w base n ss F) (hg : ∀ k, k < ss.length → F k = G k) : RowsV w base n ss G := ⟨h.len, fun k s hk => by
  have hl : k < ss.length := (List.getElem?_eq_some_iff.1 hk).1
  rw [← hg k hl]; exact h.row k s hk, h.far⟩
theorem RowsV.lt (h : RowsV w base n ss F) {k : Nat} {s : Sl3} {g : Nat} (hk : ss[k]? = some s) (hg : (slv s).ownBlock = some g) : base ≤ g ∧ g < w.heap.size := (h.row k s hk).lt g hg
theorem RowsV.rd (h : RowsV w base n ss F) {k : Nat} {s : Sl3} (hk : ss[k]? = some s) : Rd w 1 s.1 n (iv (F k)) := by
  have h1 := h.row k s hk
  have h2 := h.len k s hk
  obtain ⟨A, m, c⟩ := s
  simp only at h2
  subst h2
  exact Rd.of_own h1
theorem RowsV.snoc {A : Option Addr} {c base' : Nat} (h : RowsV w base n ss F) (hb : base ≤ base') (hlt : ∀ (k : Nat) (s : Sl3) (g : Nat), ss[k]? = some s → (slv s).ownBlock = some g → g < base') (hr : w.ownsRow base' 2 1 (.slice A n c) n (iv (F ss.length))) : RowsV w base n (ss ++ [(A, n, c)]) F := by
  have hcase : ∀ (k : Nat) (s : Sl3), (ss ++ [(A, n, c)])[k]? = some s → ss[k]? = some s ∨ (k = ss.length ∧ s = (A, n, c)) := fun k s hk => by
    rw [List.getElem?_append] at hk
    split at hk
    · exact .inl hk
    · rename_i hn
      right
      have h0 : k - ss.length = 0 := by
        rcases Nat.eq_zero_or_pos (k - ss.length) with h0 | h0
        · exact h0
        · rw [List.getElem?_eq_none (by simp; omega)] at hk; cases hk
      rw [h0] at hk
      injection hk with hk
      exact ⟨by omega, hk.symm⟩
  refine ⟨fun k s hk => ?_, fun k s hk => ?_, fun j k s t g hj hk hne hs ht => ?_⟩
  · rcases hcase k s hk with h1 | ⟨_, rfl⟩
    · exact h.len k s h1
    · rfl
  · rcases hcase k s hk with h1 | ⟨rfl, rfl⟩
    · exact h.row k s h1
    · exact own_base hr hb
  · rcases hcase j s hj with h1 | ⟨rfl, rfl⟩ <;> rcases hcase k t hk with h2 | ⟨rfl, rfl⟩
    · exact h.far j k s t g h1 h2 hne hs ht
    · have h3 := hlt j s g h1 hs
      have h4 := (hr.lt g ht).1
      omega
    · have h3 := hlt k t g h2 ht
      have h4 := (hr.lt g hs).1
      omega
    · exact hne rfl
/-- One row alone has turned. -/
theorem RowsV.upd {k : Nat} {s : Sl3} {x : List Int} (h : RowsV w base n ss F) (hk : ss[k]? = some s) (hg : w.grownBy w' (slv s).ownBlock) (hx : w'.ownsRow base 2 1 (slv s) n (iv x)) : RowsV w' base n ss (fun j => if j = k then x else F j) := by
  refine ⟨h.len, fun j t hj => ?_, h.far⟩
  by_cases hjk : j = k
  · subst hjk
    rw [hk] at hj
    injection hj with hj
    subst hj
    rw [if_pos rfl]
    exact hx
  · rw [if_neg hjk]
    refine (h.row j t hj).kept hg ?_
    cases ht : (slv t).ownBlock with
    | none => exact .inl rfl
    | some g => exact .inr (fun e => h.far j k t s g hj hk hjk ht e.symm)
end
theorem slVecs : Sl Try.prog 46 53 (.slice none 0 0) 1 24 := ⟨Try.underlying46, by kernel_rfl, rfl, by omega⟩
theorem one_slv (As : Option Addr) (ns cs : Nat) : ∀ u ∈ (#[Value.slice As ns cs] : Array Value).toList, u.oneCell' = true := by
  intro u hu
  simp at hu
  subst hu
  rfl
theorem slvs_at {w : World} {A : Option Addr} {m k : Nat} {ss : List Sl3} (hl : ss.length = m) (h : Rd w 1 A m (ss.map slv)) (hk : k < m) : ∃ b o s, A = some ⟨b, o, none⟩ ∧ b < w.heap.size ∧ ss[k]? = some s ∧ w.cell? ⟨b, o + k, none⟩ = some (.slice s.1 s.2.1 s.2.2) := by
  obtain ⟨b, o, e, hb, hc⟩ := h.2 (by omega)
  refine ⟨b, o, ss[k]'(by omega), e, hb, List.getElem?_eq_getElem (by omega), ?_⟩
  exact hc k _ (by rw [List.getElem?_map, List.getElem?_eq_getElem (by omega)]; rfl)

/-- The vectors that were copied: a row of slices, and what each holds. -/
structure Vecs (w : World) (base m n : Nat) (v : Value) (ss : List Sl3) (F : Nat → List Int) : Prop where
  len : ss.length = m
  own : w.ownsRow base 53 1 v m (ss.map slv)
  rows : RowsV w base n ss F
theorem Vecs.nil (w : World) (base n : Nat) (F : Nat → List Int) : Vecs w base 0 n (.slice none 0 0) [] F := ⟨rfl, by simpa using World.ownsRow_nil w base 53 1, RowsV.nil w base n F⟩
theorem Vecs.below {w w' : World} {base m n : Nat} {v : Value} {ss : List Sl3} {F : Nat → List Int} (h : Vecs w base m n v ss F) (hb : Below w.heap.size w w') : Vecs w' base m n v ss F := ⟨h.len, own_below h.own hb, h.rows.below hb⟩
/-- Behind an append of a copy. -/
theorem Vecs.push {w w1 w2 : World} {base m n : Nat} {A' Av A : Option Addr} {c' c cv : Nat} {ss : List Sl3} {F : Nat → List Int} (h : Vecs w base m n (.slice Av m cv) ss F) (hb1 : Below w.heap.size w w1) (hbase : base ≤ w.heap.size)
    (hr : w1.ownsRow w.heap.size 2 1 (.slice A n c) n (iv (F m))) (ho : w2.ownsRow base 53 1 (.slice A' (m + 1) c') (m + 1) (ss.map slv ++ [.slice A n c])) (hg : w1.grownBy w2 (Value.slice Av m cv).ownBlock) :
    Vecs w2 base (m + 1) n (.slice A' (m + 1) c') (ss ++ [(A, n, c)]) F := by
  refine ⟨by simp [h.len], by rw [List.map_append]; exact ho, ?_⟩
  have hR1 : RowsV w1 base n (ss ++ [(A, n, c)]) F := (h.rows.below hb1).snoc hbase (fun k s g hk hs => (h.rows.lt hk hs).2) (by rw [h.len]; exact hr)
  exact hR1.stay (Stay.of_own' (u := 53) (own_below h.own hb1) hg) hg.size (by decide) (by decide)

end Go.Proofs.Ytkecpbdgcbgogaa
