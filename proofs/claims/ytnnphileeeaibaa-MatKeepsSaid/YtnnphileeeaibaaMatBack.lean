/-
  Back.
-/
import Derived.Test.YtnnphileeeaibaaMatVec
import Derived.Test.YtnnphileeeaibaaEarly
namespace Go.Proofs.Ytnnphileeeaibaa
set_option linter.unusedVariables false
set_option linter.unusedSimpArgs false
set_option maxRecDepth 100000
open Go.RowKit Go.Shelf

attribute [local go_sem] Oper.semAt_some

/-- As wp_region_early, in a round. -/
theorem wpIn_region_early {P : Program} {id : Nat} {Q : Exit → Act → World → Prop} {a : Act} {w : World} {l : List Oper} {r n : Nat} (S : World → Prop) (E M F : List Nat) (hm : P.follows .mixedOrders = true) (hB : earlyAllB l.toArray E M F = true) (hD : noDefer l.toArray = true) (hS : S w.drew)
    (h : EarlyW P l.toArray S (fun a' => RestW P l.toArray (NoPanic (NoOut Q)) S (fun a'' w'' => wpList P l.toArray (NoPanic (NoOut Q)) (F.filterMap (l[·]?)) a'' w'') (M.filterMap (l[·]?)) a' w.drew) (E.filterMap (l[·]?)) a) : (Code.region id l.toArray true).wpIn (Fence.wide.inRound r) n P Q a w := by
  simp only [earlyAllB, Bool.and_eq_true, decide_eq_true_eq] at hB
  obtain ⟨⟨⟨⟨⟨⟨⟨hsel, hE⟩, hM⟩, hF⟩, hlen⟩, hEs⟩, hMs⟩, hFs⟩ := hB
  have h2 := early_any (P := P) (md := .any) (Q := NoOut Q) (S := S) (F := F) (N := l.toArray.size) (fuel := M.length + F.length) hsel hS E (E.filterMap (l[·]?)) (Array.replicate l.toArray.size false) a (fun j oj _ hl => by rw [getD_replicate_false] at hl; cases hl) (map_filterMap E (fun i hi => by simpa using List.all_eq_true.1 hEs i hi)) hE
    (fun a' h' => rest_any M (M.filterMap (l[·]?)) _ a' _ (map_filterMap M (fun i hi => by simpa using List.all_eq_true.1 hMs i hi)) (fun a'' w'' h'' => free_any F (F.filterMap (l[·]?)) _ a'' w'' (fun _ h => h) (map_filterMap F (fun i hi => by simpa using List.all_eq_true.1 hFs i hi)) hF h'') true rfl (fun _ => midB_spec M _ hM) h') h
  rw [hlen] at h2
  have h1 := AnyT.any (S := S) (F := F) _ _ _ _ h2
  refine wpIn_mono (wpIn_region_any hm (wpAnyIn_of (noDefer_spec hD) (fun h => ?_) _ _ _ _ h1)) (fun e a w he => ?_)
  · obtain ⟨a, w, h⟩ := h
    exact h
  · cases e <;> first | exact he | exact (he : False).elim

/-- What the rows of pre add up to, each multiplied by its number of y. -/
def backP {R : Nat} (l y : List Int) (q : Int) (C : Nat) (pre : List (Fin R)) : List Int := pre.foldl (fun acc k => addAt acc 0 (scaleL (rowL l C k.val) (y.getD k.val 0) q) C) (zeros C)
theorem backP_snoc {R : Nat} (l y : List Int) (q : Int) (C : Nat) (pre : List (Fin R)) (k : Fin R) : backP l y q C (pre ++ [k]) = addAt (backP l y q C pre) 0 (scaleL (rowL l C k.val) (y.getD k.val 0) q) C := by
  unfold backP
  rw [List.foldl_append]
  rfl
theorem backP_length {R : Nat} (l y : List Int) (q : Int) (C : Nat) (pre : List (Fin R)) : (backP l y q C pre).length = C := by
  have h : ∀ (pre : List (Fin R)) (acc : List Int), acc.length = C → (pre.foldl (fun acc k => addAt acc 0 (scaleL (rowL l C k.val) (y.getD k.val 0) q) C) acc).length = C := by
    intro pre
    induction pre with
    | nil => intro acc h; exact h
    | cons k pre ih =>
      intro acc h
      rw [List.foldl_cons]
      exact ih _ (by rw [addAt_length]; exact h)
  exact h pre (zeros C) (by simp)

theorem back_inv {R C m : Nat} {l y : List Int} {q : Int} (hm : R * C = m) (hl : l.length = m) (hy : y.length = R) {c : Nat} (hc : c < C) : ∀ k, k ≤ R → ∃ s, (backP l y q C ((List.finRange R).take k))[c]? = some s ∧ Hid (dotL q (rowL (turnN l R C) R c) y = dotF q ((rowL (turnN l R C) R c).drop k) (y.drop k) s) := by
  intro k
  induction k with
  | zero =>
    intro _
    refine ⟨0, ?_, Lib.hid rfl⟩
    simp [backP, List.getElem?_replicate, hc]
  | succ k ih =>
    intro hk
    obtain ⟨s, h1, h2⟩ := ih (by omega)
    have hkR : k < R := by omega
    have hyk : y[k]? = some (y.getD k 0) := by
      rw [List.getD_eq_getElem?_getD, List.getElem?_eq_getElem (by omega)]
      rfl
    have hidx : c * R + k < C * R := row_lt c k C R hc hkR
    have hrow : (rowL (turnN l R C) R c)[k]? = some (l.getD (k * C + c) 0) := by
      rw [rowL_get hkR, turnN, natL_get _ _ _ hidx, turnF, row_mod _ _ _ hkR, row_div _ _ _ hkR]
    refine ⟨_, ?_, dot_on h2 (Lib.hid hrow) (Lib.hid hyk)⟩
    rw [fin_take hkR, backP_snoc, addAt_get, h1]
    simp only [Option.map_some, Nat.zero_le, Nat.zero_add, hc, and_self, if_true, Nat.sub_zero]
    congr 3
    have hlk : k * C + c < m := by rw [← hm]; exact row_lt k c R C hkR hc
    rw [List.getD_eq_getElem?_getD, scaleL, List.getElem?_map, rowL_get hc, List.getD_eq_getElem?_getD (l := l), List.getElem?_eq_getElem (by omega)]
    rfl
theorem back_done {R C m : Nat} {l y : List Int} {q : Int} (hm : R * C = m) (hl : l.length = m) (hy : y.length = R) : backP l y q C (List.finRange R) = mulN (turnN l R C) y q C := by
  apply List.ext_getElem?
  intro c
  by_cases hc : c < C
  · obtain ⟨s, h1, h2⟩ := back_inv (q := q) hm hl hy hc R (Nat.le_refl _)
    rw [List.take_of_length_le (by rw [List.length_finRange]; exact Nat.le_refl _)] at h1
    have hT : (turnN l R C).length = C * R := natL_length _ _
    have hrl : (rowL (turnN l R C) R c).length = R := rowL_length rfl hT hc
    have e := dot_end h2 (Lib.hid hrl) (Nat.le_refl _)
    rw [h1, mulN, natL_get _ _ _ hc, hy, e]
  · rw [List.getElem?_eq_none (by rw [backP_length]; omega), List.getElem?_eq_none (by rw [mulN, natL_length]; omega)]

set_option maxHeartbeats 1000000 in
theorem back_not (r q : Int) (A : Option Addr) (n c : Nat) (B : Option Addr) (m d : Nat) (k : Int) (w : World) (hn : n ≤ 1000000000) (hm : m ≤ 9223372036854775807) (h : ¬ RightP r q n ∨ (m : Int) ≠ r) :
    Calls Try.prog 50 #[.agg #[.int .i64 r, .int .i64 q, .slice A n c], .slice B m d, .int .i64 k] w fun e w' => e = .returned (.tuple #[.slice none 0 0, .bool false]) ∧ Below w.heap.size w w' := by
  obtain ⟨b, hb⟩ : ∃ b, decide (RightP r q n) = b := ⟨_, rfl⟩
  have C1 := fun W => right_any r q A n c W hn
  rw [hb] at C1
  have HC := Lib.hid C1
  have d1 : b = true → ((m : Int) != r) = true := fun e => by
    subst e
    rcases h with h | h
    · exact absurd (of_decide_eq_true hb) h
    · simp [h]
  obtain ⟨W0, hW0⟩ : ∃ W0, ((w.alloc (.cells #[.int .i64 r, .int .i64 q, .slice A n c] 51)).alloc (.cells #[.slice B m d] 29)).alloc (.cells #[.int .i64 k] 3) = W0 := ⟨_, rfl⟩
  have k0 : Below w.heap.size w W0 := by rw [← hW0]; exact (((Below.refl _ _).alloc (Nat.le_refl _) _).alloc (by simp) _).alloc (by simp <;> omega) _
  have b0 : Blk W0 w.heap.size 51 #[.int .i64 r, .int .i64 q, .slice A n c] := by rw [← hW0]; exact ((Blk.new _ _ _).alloc _).alloc _
  have b1 : Blk W0 (w.heap.size + 1) 29 #[.slice B m d] := by rw [← hW0]; exact (Blk.new' _ _ (by simp)).alloc _
  have a0 : W0.cell? ⟨w.heap.size, 0, none⟩ = some (.int .i64 r) := b0.cell 0
  have a1 : W0.cell? ⟨w.heap.size, 1, none⟩ = some (.int .i64 q) := b0.cell 1
  have a2 : W0.cell? ⟨w.heap.size, 2, none⟩ = some (.slice A n c) := b0.cell 2
  have la := b0.lt
  have HW := Lib.hid hW0
  have HB0 := Lib.hid b0
  have HB1 := Lib.hid b1
  have HK := Lib.hid k0
  clear hW0 b0 b1 k0 C1 hb h
  go_enter Try.func50, Try.ntmps50
  go_wp2_with fail
  rw [HW.out]
  go_wp2_with fail
  ((with_reducible refine (HC.out _).mono ?_); rintro e w1 ⟨rfl, hb1⟩)
  have m0 := HB0.out.kept hb1
  have m1 := HB1.out.kept hb1
  have y0 : w1.cell? ⟨w.heap.size, 0, none⟩ = some (.int .i64 r) := m0.cell 0
  have y1 : w1.cell? ⟨w.heap.size + 1, 0, none⟩ = some (.slice B m d) := m1.cell 0
  have ly0 := m0.lt
  have ly1 := m1.lt
  have k1 := Lib.hid ((Kept.of HK.out).call hb1).2.2
  clear hb1 m0 m1 a0 a1 a2 la
  cases b
  · clear d1
    go_wp2
    go_ret2
    exact ⟨rfl, k1.out⟩
  · have d2 := d1 rfl
    clear d1
    go_wp2
    go_ret2
    exact ⟨rfl, k1.out⟩

set_option maxHeartbeats 1000000 in
theorem mul_not (r q : Int) (A : Option Addr) (n c : Nat) (B : Option Addr) (m d : Nat) (k : Int) (w : World) (hn : n ≤ 1000000000) (hm : m ≤ 9223372036854775807) (h : ¬ RightP r q n ∨ (m : Int) ≠ q) :
    Calls Try.prog 47 #[.agg #[.int .i64 r, .int .i64 q, .slice A n c], .slice B m d, .int .i64 k] w fun e w' => e = .returned (.tuple #[.slice none 0 0, .bool false]) ∧ Below w.heap.size w w' := by
  obtain ⟨b, hb⟩ : ∃ b, decide (RightP r q n) = b := ⟨_, rfl⟩
  have C1 := fun W => right_any r q A n c W hn
  rw [hb] at C1
  have HC := Lib.hid C1
  have d1 : b = true → ((m : Int) != q) = true := fun e => by
    subst e
    rcases h with h | h
    · exact absurd (of_decide_eq_true hb) h
    · simp [h]
  obtain ⟨W0, hW0⟩ : ∃ W0, ((w.alloc (.cells #[.int .i64 r, .int .i64 q, .slice A n c] 51)).alloc (.cells #[.slice B m d] 29)).alloc (.cells #[.int .i64 k] 3) = W0 := ⟨_, rfl⟩
  have k0 : Below w.heap.size w W0 := by rw [← hW0]; exact (((Below.refl _ _).alloc (Nat.le_refl _) _).alloc (by simp) _).alloc (by simp <;> omega) _
  have b0 : Blk W0 w.heap.size 51 #[.int .i64 r, .int .i64 q, .slice A n c] := by rw [← hW0]; exact ((Blk.new _ _ _).alloc _).alloc _
  have b1 : Blk W0 (w.heap.size + 1) 29 #[.slice B m d] := by rw [← hW0]; exact (Blk.new' _ _ (by simp)).alloc _
  have a0 : W0.cell? ⟨w.heap.size, 0, none⟩ = some (.int .i64 r) := b0.cell 0
  have a1 : W0.cell? ⟨w.heap.size, 1, none⟩ = some (.int .i64 q) := b0.cell 1
  have a2 : W0.cell? ⟨w.heap.size, 2, none⟩ = some (.slice A n c) := b0.cell 2
  have la := b0.lt
  have HW := Lib.hid hW0
  have HB0 := Lib.hid b0
  have HB1 := Lib.hid b1
  have HK := Lib.hid k0
  clear hW0 b0 b1 k0 C1 hb h
  go_enter Try.func47, Try.ntmps47
  go_wp2_with fail
  rw [HW.out]
  go_wp2_with fail
  ((with_reducible refine (HC.out _).mono ?_); rintro e w1 ⟨rfl, hb1⟩)
  have m0 := HB0.out.kept hb1
  have m1 := HB1.out.kept hb1
  have y0 : w1.cell? ⟨w.heap.size, 1, none⟩ = some (.int .i64 q) := m0.cell 1
  have y1 : w1.cell? ⟨w.heap.size + 1, 0, none⟩ = some (.slice B m d) := m1.cell 0
  have ly0 := m0.lt
  have ly1 := m1.lt
  have k1 := Lib.hid ((Kept.of HK.out).call hb1).2.2
  clear hb1 m0 m1 a0 a1 a2 la
  cases b
  · clear d1
    go_wp2
    go_ret2
    exact ⟨rfl, k1.out⟩
  · have d2 := d1 rfl
    clear d1
    go_wp2
    go_ret2
    exact ⟨rfl, k1.out⟩

end Go.Proofs.Ytnnphileeeaibaa
