/-
  Steps, Epoch and view of a sampler; a piece of a list; Clone of a list of numbers.
-/
import Derived.Test.YtncjfijpaheobaaSmpRefNew
namespace Go.Proofs.Ytncjfijpaheobaa
set_option linter.unusedVariables false
set_option linter.unusedSimpArgs false
set_option maxRecDepth 100000
open Go.RowKit

/-- A list of numbers comes back, to be read. -/
def RdRet (w : World) (m : Nat) (l : List Int) (e : Ending) (w' : World) : Prop :=
  ∃ A c, e = .returned (.slice A m c) ∧ m ≤ c ∧ Rd w' 1 A m (iv l) ∧ Below w.heap.size w w'
theorem RdRet.none (w w' : World) (hb : Below w.heap.size w w') : RdRet w 0 [] (.returned (.slice .none 0 0)) w' := ⟨_, _, rfl, Nat.le_refl _, Rd.nil _ _ _, hb⟩
/-- A piece of a row. -/
theorem rd_map {w : World} {A : Option Addr} {N : Nat} {l : List Int} (h : Rd w 1 A N (iv l)) (hl : l.length = N) (lo n : Nat) (hfit : lo + n ≤ N) : Rd w 1 (A.map (fun x => x.add lo)) n (iv ((l.drop lo).take n)) := by
  refine ⟨by simp [iv]; omega, fun h0 => ?_⟩
  obtain ⟨b, o, rfl, hlt, hcell⟩ := h.2 (by omega)
  refine ⟨b, o + lo, by rw [Option.map_some]; congr 1; unfold Addr.add; by_cases hj : lo = 0 <;> simp [hj], hlt, fun j u hu => ?_⟩
  rw [iv, List.getElem?_map, List.getElem?_take] at hu
  split at hu
  · rw [List.getElem?_drop] at hu
    rw [Nat.add_assoc]
    exact hcell (lo + j) u (by rw [iv, List.getElem?_map]; exact hu)
  · cases hu
theorem rd_zero (w : World) (A : Option Addr) (l : List Int) (lo : Nat) : Rd w 1 A 0 (iv ((l.drop lo).take 0)) := by simpa [iv] using Rd.nil w 1 A
theorem iv_sub (l : List Int) (lo n : Nat) : ((iv l).drop lo).take n = iv ((l.drop lo).take n) := by simp [iv]
theorem sub_len {l : List Int} {N : Nat} (h : l.length = N) (lo n : Nat) (hfit : lo + n ≤ N) : ((l.drop lo).take n).length = n := by simp; omega

set_option maxHeartbeats 400000 in
theorem cloneN_any (A : Option Addr) (n cap : Nat) (l : List Int) (w : World) (hl : l.length = n) (h : Rd w 1 A n (iv l)) (hn : n ≤ 1000000) :
    Calls Try.prog 64 #[.slice A n cap] w (OwnRet w 3 1 n (iv l)) := by
  have HR := Lib.hid h
  have HL := Lib.hid hl
  have hq := fun (w : World) (a : Option Addr) (n c : Nat) => Lib.run_eql_slice_nil (P := Try.prog) w 23 3 a n c 0 0 Try.underlying23
  clear h hl
  cases A with
  | none =>
    have hn0 : n = 0 := by
      rcases Nat.eq_zero_or_pos n with h0 | h0
      · exact h0
      · obtain ⟨b, o, h, _⟩ := HR.out.2 h0; cases h
    subst hn0
    have hl0 : l = [] := List.eq_nil_of_length_eq_zero HL.out
    subst hl0
    go_enter Try.func64, Try.ntmps64
    go_wp2
    go_ret
    exact ⟨none, 0, rfl, by simpa [iv] using World.ownsRow_nil _ _ _ _, Below.refl _ _⟩
  | some ad =>
    go_enter Try.func64, Try.ntmps64
    go_wp2_with (at_builtin; go_must (refine wpList_appendAll slInt rfl _ _ rfl w.heap.size _ 0 [] rfl (World.ownsRow_lit w #[] 0 (Nat.le_refl _) (by unfold maxLen; omega) rfl) (some ad) n cap (iv l) rfl (HR.out.alloc _) (iv_one l) (by unfold maxLen; omega) (by omega) (by simp) ?_); intro A' cap' w1 hown1 hb1)
    go_ret
    exact ⟨A', cap', by simp, by simpa using hown1, ((Below.refl _ _).alloc (Nat.le_refl _) _).trans hb1⟩

/-- A piece of a list in an even division. -/
def pieceL (l : List Int) (i k : Int) : List Int := if 0 ≤ i ∧ i < k then (l.drop (bnd l.length k.toNat i.toNat)).take (bnd l.length k.toNat (i.toNat + 1) - bnd l.length k.toNat i.toNat) else []

section
variable (A : Option Addr) (n c : Nat) (l : List Int) (i k : Int) (w : World)

set_option maxHeartbeats 1000000 in
theorem piece_any (hl : l.length = n) (h : Rd w 1 A n (iv l)) (hn : n ≤ 1000) (hc : n ≤ c) (hk : k ≤ 1000) (hk0 : -1000 ≤ k) (hi : i ≤ 1000) (hi0 : -1000 ≤ i) :
    Calls Try.prog 67 #[.slice A n c, .int .i64 i, .int .i64 k] w (RdRet w (pieceL l i k).length (pieceL l i k)) := by
  have HR := Lib.hid h
  have HL := Lib.hid hl
  clear h hl
  by_cases hk1 : k < 1
  · have HE := Lib.hid (even_none n k w (.inr hk1))
    have hp : pieceL l i k = [] := by rw [pieceL, if_neg (by omega)]
    rw [hp]
    clear hp
    by_cases hi1 : i < 0
    · have e1 : decide (i < 0) = true := decide_eq_true hi1
      go_enter Try.func67, Try.ntmps67
      go_wp2_with fail
      ((with_reducible refine HE.out.mono ?_); rintro e w1 ⟨A1, c1, rfl, hown, hb⟩)
      go_wp2_with fail
      go_ret
      exact RdRet.none _ _ hb
    · have e1 : decide (i < 0) = false := decide_eq_false hi1
      have e2 : decide ((0 : Int) ≤ i) = true := decide_eq_true (by omega)
      go_enter Try.func67, Try.ntmps67
      go_wp2_with fail
      ((with_reducible refine HE.out.mono ?_); rintro e w1 ⟨A1, c1, rfl, hown, hb⟩)
      go_wp2_with fail
      go_ret
      exact RdRet.none _ _ hb
  · obtain ⟨K, rfl⟩ := Int.eq_ofNat_of_zero_le (show 0 ≤ k by omega)
    have HE := Lib.hid (even_any n K w (by omega) (by omega) (by omega))
    by_cases hin : 0 ≤ i ∧ i < (K : Int)
    · obtain ⟨I, rfl⟩ := Int.eq_ofNat_of_zero_le hin.1
      have hIK : I < K := by omega
      have hm := bnd_mono n K I (I + 1) (by omega)
      have hle := bnd_le n K (I + 1) (by omega) (by omega)
      have hp : pieceL l (I : Int) (K : Int) = (l.drop (bnd n K I)).take (bnd n K (I + 1) - bnd n K I) := by
        rw [pieceL, if_pos hin, HL.out]
        rfl
      rw [hp]
      have HX := Lib.hid (even_at n K I hIK)
      obtain ⟨lo, hlo⟩ : ∃ lo, bnd n K I = lo := ⟨_, rfl⟩
      obtain ⟨hi', hhi⟩ : ∃ hi', bnd n K (I + 1) = hi' := ⟨_, rfl⟩
      rw [hlo, hhi] at HX hm
      rw [hhi] at hle
      rw [hlo, hhi]
      obtain ⟨m, hmm⟩ : ∃ m, hi' - lo = m := ⟨_, rfl⟩
      rw [hmm]
      have HMM := Lib.hid hmm
      have HLN : Hid (((l.drop lo).take m).length = m) := Lib.hid (sub_len HL.out lo m (by omega))
      rw [HLN.out]
      have e1 : decide ((I : Int) < 0) = false := decide_eq_false (by omega)
      have e2 : decide ((K : Int) ≤ (I : Int)) = false := decide_eq_false (by omega)
      have i2 : (I : Int) < (K : Int) := by omega
      have i3 : (0 : Int) ≤ (I : Int) := by omega
      clear hp hlo hhi hin hk1 hmm
      go_enter Try.func67, Try.ntmps67
      go_wp2_with fail
      ((with_reducible refine HE.out.mono ?_); rintro e w1 ⟨A1, c1, rfl, hown, hb⟩)
      obtain ⟨b1, o1, x, y, rfl, hbl, hx, d1, d2⟩ := rd_at (evenL_length n K) (Rd.of_own hown) hIK
      rw [HX.out] at hx
      injection hx with hx
      injection hx with hx1 hx2
      subst hx1 hx2
      have HB := Lib.hid hb
      clear hb hown
      go_wp2_with fail
      · obtain rfl : m = 0 := by have := HMM.out; omega
        go_ret
        exact ⟨A, 0, rfl, Nat.le_refl _, rd_zero _ _ _ _, HB.out.alloc HB.out.size _⟩
      · rw [HMM.out]
        go_ret
        exact ⟨_, _, rfl, Nat.le_refl _, (rd_map (HR.out.below HB.out) HL.out lo m (by have := HMM.out; omega)).alloc _, HB.out.alloc HB.out.size _⟩
    · have hp : pieceL l i (K : Int) = [] := by rw [pieceL, if_neg hin]
      rw [hp]
      clear hp
      by_cases hi1 : i < 0
      · have e1 : decide (i < 0) = true := decide_eq_true hi1
        go_enter Try.func67, Try.ntmps67
        go_wp2_with fail
        ((with_reducible refine HE.out.mono ?_); rintro e w1 ⟨A1, c1, rfl, hown, hb⟩)
        go_wp2_with fail
        go_ret
        exact RdRet.none _ _ hb
      · have e1 : decide (i < 0) = false := decide_eq_false hi1
        have e2 : decide ((K : Int) ≤ i) = true := decide_eq_true (by omega)
        go_enter Try.func67, Try.ntmps67
        go_wp2_with fail
        ((with_reducible refine HE.out.mono ?_); rintro e w1 ⟨A1, c1, rfl, hown, hb⟩)
        go_wp2_with fail
        go_ret
        exact RdRet.none _ _ hb

set_option maxHeartbeats 1000000 in
theorem refPiece_any (hl : l.length = n) (h : Rd w 1 A n (iv l)) (hn : n ≤ 1000) (hc : n ≤ c) (hk : k ≤ 1000) (hk0 : -1000 ≤ k) (hi : i ≤ 1000) (hi0 : -1000 ≤ i) :
    Calls Try.prog 68 #[.slice A n c, .int .i64 i, .int .i64 k] w (RdRet w (pieceL l i k).length (pieceL l i k)) := by
  have HR := Lib.hid h
  have HL := Lib.hid hl
  clear h hl
  by_cases hk1 : k < 1
  · have HE := Lib.hid (refEven_none n k w (.inr hk1))
    have hp : pieceL l i k = [] := by rw [pieceL, if_neg (by omega)]
    rw [hp]
    clear hp
    by_cases hi1 : i < 0
    · have e1 : decide (i < 0) = true := decide_eq_true hi1
      go_enter Try.func68, Try.ntmps68
      go_wp2_with fail
      ((with_reducible refine HE.out.mono ?_); rintro e w1 ⟨A1, c1, rfl, hown, hb⟩)
      go_wp2_with fail
      go_ret
      exact RdRet.none _ _ hb
    · have e1 : decide (i < 0) = false := decide_eq_false hi1
      have e2 : decide ((0 : Int) ≤ i) = true := decide_eq_true (by omega)
      go_enter Try.func68, Try.ntmps68
      go_wp2_with fail
      ((with_reducible refine HE.out.mono ?_); rintro e w1 ⟨A1, c1, rfl, hown, hb⟩)
      go_wp2_with fail
      go_ret
      exact RdRet.none _ _ hb
  · obtain ⟨K, rfl⟩ := Int.eq_ofNat_of_zero_le (show 0 ≤ k by omega)
    have HE := Lib.hid (refEven_any n K w (by omega) (by omega) (by omega))
    by_cases hin : 0 ≤ i ∧ i < (K : Int)
    · obtain ⟨I, rfl⟩ := Int.eq_ofNat_of_zero_le hin.1
      have hIK : I < K := by omega
      have hm := bnd_mono n K I (I + 1) (by omega)
      have hle := bnd_le n K (I + 1) (by omega) (by omega)
      have hp : pieceL l (I : Int) (K : Int) = (l.drop (bnd n K I)).take (bnd n K (I + 1) - bnd n K I) := by
        rw [pieceL, if_pos hin, HL.out]
        rfl
      rw [hp]
      have HX := Lib.hid (even_at n K I hIK)
      obtain ⟨lo, hlo⟩ : ∃ lo, bnd n K I = lo := ⟨_, rfl⟩
      obtain ⟨hi', hhi⟩ : ∃ hi', bnd n K (I + 1) = hi' := ⟨_, rfl⟩
      rw [hlo, hhi] at HX hm
      rw [hhi] at hle
      rw [hlo, hhi]
      obtain ⟨m, hmm⟩ : ∃ m, hi' - lo = m := ⟨_, rfl⟩
      rw [hmm]
      have HMM := Lib.hid hmm
      have HLN : Hid (((l.drop lo).take m).length = m) := Lib.hid (sub_len HL.out lo m (by omega))
      rw [HLN.out]
      have e1 : decide ((I : Int) < 0) = false := decide_eq_false (by omega)
      have e2 : decide ((K : Int) ≤ (I : Int)) = false := decide_eq_false (by omega)
      have i2 : (I : Int) < (K : Int) := by omega
      have i3 : (0 : Int) ≤ (I : Int) := by omega
      clear hp hlo hhi hin hk1 hmm
      go_enter Try.func68, Try.ntmps68
      go_wp2_with fail
      ((with_reducible refine HE.out.mono ?_); rintro e w1 ⟨A1, c1, rfl, hown, hb⟩)
      obtain ⟨b1, o1, x, y, rfl, hbl, hx, d1, d2⟩ := rd_at (evenL_length n K) (Rd.of_own hown) hIK
      rw [HX.out] at hx
      injection hx with hx
      injection hx with hx1 hx2
      subst hx1 hx2
      have HB := Lib.hid hb
      clear hb hown
      go_wp2_with fail
      go_region
      go_wp2
      · rw [HMM.out]
        go_ret
        refine ⟨_, _, rfl, by have := HMM.out; omega, ?_, HB.out.drew⟩
        obtain rfl : m = 0 := by have := HMM.out; omega
        exact rd_zero _ _ _ _
      · rw [HMM.out]
        go_ret
        exact ⟨_, _, rfl, by have := HMM.out; omega, (rd_map (HR.out.below HB.out) HL.out lo m (by have := HMM.out; omega)).drew, HB.out.drew⟩
    · have hp : pieceL l i (K : Int) = [] := by rw [pieceL, if_neg hin]
      rw [hp]
      clear hp
      by_cases hi1 : i < 0
      · have e1 : decide (i < 0) = true := decide_eq_true hi1
        go_enter Try.func68, Try.ntmps68
        go_wp2_with fail
        ((with_reducible refine HE.out.mono ?_); rintro e w1 ⟨A1, c1, rfl, hown, hb⟩)
        go_wp2_with fail
        go_ret
        exact RdRet.none _ _ hb
      · have e1 : decide (i < 0) = false := decide_eq_false hi1
        have e2 : decide ((K : Int) ≤ i) = true := decide_eq_true (by omega)
        go_enter Try.func68, Try.ntmps68
        go_wp2_with fail
        ((with_reducible refine HE.out.mono ?_); rintro e w1 ⟨A1, c1, rfl, hown, hb⟩)
        go_wp2_with fail
        go_ret
        exact RdRet.none _ _ hb
end

end Go.Proofs.Ytncjfijpaheobaa
