/-
  VecSame: Same and Differ return the results of the reference; a copy is the same and shares no memory: the walk.
-/
import Derived.Test.YthbkmhdoakpjgaaVecAdds
namespace Go.Proofs.Ythbkmhdoakpjgaa
set_option linter.unusedVariables false
set_option linter.unusedSimpArgs false
open Go.RowKit

theorem diffL_comm (a b : List Int) : diffL b a = diffL a b := diff_comm b a 0
def incAt (l : List Int) (k : Nat) : List Int := addAt l 0 (List.replicate l.length 1) k
theorem incAt_length (l : List Int) (k : Nat) : (incAt l k).length = l.length := addAt_length _ _ _ _
theorem inc_differs (l : List Int) (n : Nat) (h : 0 < n) (hl : l.length = n) : diffL l (incAt l n) = 0 := by
  cases l with
  | nil => simp at hl; omega
  | cons x l =>
    have h0 : (incAt (x :: l) n)[0]? = some (wrap64 (x + 1)) := by
      unfold incAt
      rw [addAt_get]
      simp [h]
    cases hi : incAt (x :: l) n with
    | nil => rw [hi] at h0; simp at h0
    | cons y r =>
      rw [hi] at h0
      simp at h0
      subst h0
      unfold diffL
      simp only [diffFrom]
      rw [if_neg]
      unfold wrap64
      omega

set_option maxHeartbeats 1000000 in
theorem vecSame_not (A B : Option Addr) (n m c d : Nat) (w : World) (hn : n ≤ 9223372036854775807) (hm : m ≤ 9223372036854775807) (h : ¬ n + m ≤ 1500) :
    Calls Try.prog 11 #[.slice A n c, .slice B m d] w fun e w' => e = .returned (.bool true) ∧ Below w.heap.size w w' := by
  have d1 : decide (n + m ≤ 1500) = false := decide_eq_false h
  clear h
  go_enter Try.func11, Try.ntmps11
  go_wp2_with fail
  ((with_reducible refine (few2_any A B n c m d _ _ hn hm (rd_new' w #[.slice A n c, .slice B m d] 32 1 2 rfl)).mono ?_); rintro e w1 ⟨rfl, rfl⟩)
  rw [d1]
  go_wp2_with fail
  ((with_reducible refine (alive03_any _).mono ?_); rintro e w2 ⟨rfl, hb2⟩)
  have hb := ((Below.refl w.heap.size w).alloc (Nat.le_refl _) _).trans (hb2.mono (by simp))
  clear hb2
  go_wp2
  go_ret
  exact ⟨rfl, hb⟩

set_option maxHeartbeats 2000000 in
theorem vecSame_law (A B : Option Addr) (n m c d : Nat) (l k : List Int) (w : World) (hn : n + m ≤ 1500) (hl : l.length = n) (hk : k.length = m) (h : Rd w 1 A n (iv l)) (h' : Rd w 1 B m (iv k)) :
    Calls Try.prog 11 #[.slice A n c, .slice B m d] w fun e w' => e = .returned (.bool true) ∧ Below w.heap.size w w' := by
  have d1 : decide (n + m ≤ 1500) = true := decide_eq_true hn
  have HL := Lib.hid hl
  have HK := Lib.hid hk
  have HR := Lib.hid h
  have HR' := Lib.hid h'
  clear hl hk h h'
  go_enter Try.func11, Try.ntmps11
  go_wp2_with fail
  ((with_reducible refine (few2_any A B n c m d _ _ (by omega) (by omega) (rd_new' w #[.slice A n c, .slice B m d] 32 1 2 rfl)).mono ?_); rintro e w1 ⟨rfl, rfl⟩)
  rw [d1]
  have hb0 : Below w.heap.size w (w.alloc (.cells #[.slice A n c, .slice B m d] 32)) := (Below.refl _ _).alloc (Nat.le_refl _) _
  go_wp2_with fail
  ((with_reducible refine (vecClone_any A n c l _ HL.out (HR.out.below hb0) (by omega)).mono ?_); rintro e w1 ⟨A1, c1, rfl, hown1, hb1⟩)
  have HO1 := Lib.hid hown1
  have hb1' := hb0.trans (hb1.mono (by simp))
  clear hown1 hb1 hb0
  go_wp2_with fail
  ((with_reducible refine (vecSame_any A B n m c d l k _ HL.out HK.out (HR.out.below hb1') (HR'.out.below hb1') (by omega) (by omega)).mono ?_); rintro e w2 ⟨rfl, h2⟩)
  have k2 := Kept.of h2
  clear h2
  have b2 := hb1'.trans (k2.2.2.mono hb1'.size)
  go_wp2_with fail
  ((with_reducible refine (refSame_any A B n m c d l k _ HL.out HK.out (HR.out.below b2) (HR'.out.below b2) (by omega) (by omega)).mono ?_); rintro e w3 ⟨rfl, h3⟩)
  have k3 := k2.call h3
  clear h3 k2 b2
  have b3 := hb1'.trans (k3.2.2.mono hb1'.size)
  go_wp2_with fail
  ((with_reducible refine (differ_any A B n m c d l k _ HL.out HK.out (HR.out.below b3) (HR'.out.below b3) (by omega) (by omega)).mono ?_); rintro e w4 ⟨rfl, h4⟩)
  have k4 := k3.call h4
  clear h4 k3 b3
  have b4 := hb1'.trans (k4.2.2.mono hb1'.size)
  go_wp2_with fail
  ((with_reducible refine (refDiffer_any A B n m c d l k _ HL.out HK.out (HR.out.below b4) (HR'.out.below b4) (by omega) (by omega)).mono ?_); rintro e w5 ⟨rfl, h5⟩)
  have k5 := k4.call h5
  clear h5 k4 b4
  have b5 := hb1'.trans (k5.2.2.mono hb1'.size)
  go_wp2_with fail
  ((with_reducible refine (differ_any B A m n d c k l _ HK.out HL.out (HR'.out.below b5) (HR.out.below b5) (by omega) (by omega)).mono ?_); rintro e w6 ⟨rfl, h6⟩)
  rw [diffL_comm l k]
  have k6 := k5.call h6
  clear h6 k5 b5
  have b6 := hb1'.trans (k6.2.2.mono hb1'.size)
  go_wp2_with fail
  ((with_reducible refine (refDiffer_any A B n m c d l k _ HL.out HK.out (HR.out.below b6) (HR'.out.below b6) (by omega) (by omega)).mono ?_); rintro e w7 ⟨rfl, h7⟩)
  have k7 := k6.call h7
  clear h7 k6 b6
  have b7 := hb1'.trans (k7.2.2.mono hb1'.size)
  go_wp2_with fail
  ((with_reducible refine (vecSame_any A A1 n n c c1 l l _ HL.out HL.out (HR.out.below b7) ((Rd.of_own HO1.out).kept k7) (by omega) (by omega)).mono ?_); rintro e w8 ⟨rfl, h8⟩)
  rw [decide_eq_true (rfl : l = l)]
  have k8 := k7.call h8
  clear h8 k7 b7
  have b8 := hb1'.trans (k8.2.2.mono hb1'.size)
  have HO8 := Lib.hid (own_below HO1.out k8.2.2)
  clear HO1 k8 hb1'
  generalize hbase : (w.alloc (.cells #[.slice A n c, .slice B m d] 32)).heap.size = base at *
  have hbs : w.heap.size ≤ base := by rw [← hbase]; simp
  clear hbase
  go_wp2_with fail
  go_loopw [52] (fun i wr => ∃ j : Nat, j ≤ n ∧ i = .int .i64 j ∧ Hid (wr.ownsRow base 2 1 (.slice A1 n c1) n (iv (incAt l j))) ∧ Below w.heap.size w wr) (fun i _ => n - (intOf i).toNat)
  case atStart => exact ⟨0, by omega, rfl, Lib.hid (by unfold incAt; rw [addAt_zero]; exact HO8.out), b8⟩
  case round =>
    clear HO8 b8
    obtain ⟨j, hj, rfl, hO, hb⟩ := hrel
    by_cases hlt : j < n
    · obtain ⟨A2, cap2, hv, _, _, hf⟩ := own_form hO.out
      injection hv with hA _ hC
      subst hA hC
      obtain ⟨g, rfl, hg1, hg2⟩ := hf (by omega)
      obtain ⟨x, hx⟩ : ∃ x, l[0 + j]? = some x := ⟨_, List.getElem?_eq_getElem (by rw [HL.out]; omega)⟩
      have c7 : wr.cell? ⟨g, j, none⟩ = some (.int .i64 x) := by
        rw [hO.out.cellAt j (by omega)]
        unfold iv incAt
        have := addAt_at l 0 (List.replicate l.length 1) j x hx
        rw [Nat.zero_add] at this
        rw [List.getElem?_map, this]
        rfl
      have f7 := hO.out.frozenAt j
      have HX := Lib.hid hx
      have HY : Hid ((List.replicate l.length (1 : Int))[j]? = some 1) := Lib.hid (by rw [List.getElem?_replicate, if_pos (by rw [HL.out]; exact hlt)])
      clear hx hf
      go_wp2
      go_roundw
      case rel => exact ⟨j + 1, by omega, by go_num, Lib.hid (by unfold incAt; rw [← addAt_next l 0 _ j x 1 HX.out HY.out, ← iv_set, Nat.zero_add]; exact (hO.out.stored j _).1), hb.setCell (p := ⟨g, j, none⟩) (by show w.heap.size ≤ g; omega) _⟩
      case measure => simp [intOf]; omega
    · obtain rfl : j = n := by omega
      go_wp2_with fail
      ((with_reducible refine (alive03_any _).mono ?_); rintro e w9 ⟨rfl, h9⟩)
      have R9 := Lib.hid ((Rd.of_own hO.out).below h9)
      have b9 := hb.trans (h9.mono hb.size)
      clear h9 hb hO
      by_cases h0 : j = 0
      · have e1 : ((j : Int) == 0) = true := by simp [h0]
        have H0 := Lib.hid h0
        clear h0
        go_wp2
        go_ret
        exact ⟨rfl, b9⟩
      · have e1 : ((j : Int) == 0) = false := by simp [h0]
        go_wp2_with fail
        ((with_reducible refine (differ_any A A1 j j c c1 l (incAt l j) _ HL.out (by rw [incAt_length]; exact HL.out) (HR.out.below b9) R9.out (by omega) (by omega)).mono ?_); rintro e w10 ⟨rfl, h10⟩)
        rw [inc_differs l j (by omega) HL.out]
        go_wp2
        go_ret
        exact ⟨rfl, b9.trans (h10.mono b9.size)⟩

theorem vecSame_law_any (A : Option Addr) (n c : Nat) (l : List Int) (B : Option Addr) (m d : Nat) (k : List Int) (w : World) (hn : n ≤ 9223372036854775807) (hm : m ≤ 9223372036854775807) (hl : l.length = n) (hk : k.length = m) (h : Rd w 1 A n (iv l)) (h' : Rd w 1 B m (iv k)) :
    Calls Try.prog 11 #[.slice A n c, .slice B m d] w fun e w' => e = .returned (.bool true) ∧ Below w.heap.size w w' := by
  by_cases hf : n + m ≤ 1500
  · exact vecSame_law A B n m c d l k w hf hl hk h h'
  · exact vecSame_not A B n m c d w hn hm hf

end Go.Proofs.Ythbkmhdoakpjgaa
