/-
  The example of the chapter on permutations; Compose and the reference's Compose.
-/
import Derived.Test.YtncjfijpaheobaaPermShuf
namespace Go.Proofs.Ytncjfijpaheobaa
set_option linter.unusedVariables false
set_option linter.unusedSimpArgs false
set_option maxRecDepth 100000
open Go.RowKit

set_option maxHeartbeats 800000 in
theorem alive06_any (w : World) : Calls Try.prog 27 #[] w fun e w' => e = .returned (.bool true) ∧ Below w.heap.size w w' := by
  have HC := Lib.hid (drawNew_any (some ⟨w.heap.size, 0, none⟩) 2 2 [0, 0] _ rfl (rd_new w #[.int .u64 0, .int .u64 0] 38 2 rfl) (by omega) (by intro x hx; simp at hx; omega))
  go_enter Try.func27, Try.ntmps27
  go_wp2_with fail
  ((with_reducible refine HC.out.mono ?_); rintro e w1 ⟨g, A, cap, rfl, hst, hg, hA, hb1⟩)
  have hs1 := hb1.size
  have hb0 : Below w.heap.size w w1 := ((Below.refl _ _).alloc (Nat.le_refl _) _).trans (hb1.mono (by simp))
  simp only [World.size_alloc] at hg hs1
  have C := shuffle_some g 2 cap 3 A [0, 0] w1 hst (by omega) (by omega) (by omega)
  rw [show shufTo 3 (manyL [0, 0] 0 (bndsL 3 (3 - 1))) (3 - 1) = [1, 2, 0] from by decide] at C
  rw [show ((3 : Nat) : Int) = 3 from rfl] at C
  have HM := Lib.hid C
  clear hst hA hb1 HC C
  go_wp2_with fail
  ((with_reducible refine HM.out.mono ?_); rintro e w2 ⟨A2, c2, rfl, hown, hg2⟩)
  have HK := Lib.hid (below_gr hb0 (by have := hb0.size; omega) hg2 (by omega))
  have HE := Lib.hid (equalInt_any A2 (some ⟨w2.heap.size, 0, none⟩) 3 3 c2 3 [1, 2, 0] [1, 2, 0] _ rfl rfl ((Rd.of_own hown).alloc _) (rd_new w2 #[.int .i64 1, .int .i64 2, .int .i64 0] 3 3 rfl) (by omega) (by omega))
  clear hown hg2 HM hb0
  go_wp2_with fail
  ((with_reducible refine HE.out.mono ?_); rintro e w3 ⟨rfl, hb3⟩)
  simp only [decide_true]
  go_wp2_with fail
  go_ret
  exact ⟨rfl, (((Kept.of HK.out).alloc _).call hb3).2.2⟩

/-- The composition of two lists. -/
def compL (p q : List Int) : List Int := q.map fun x => p.getD x.toNat 0
theorem compL_length (p q : List Int) : (compL p q).length = q.length := by simp [compL]
theorem compL_get {p q : List Int} {k : Nat} {x : Int} (h : q[k]? = some x) : (compL p q)[k]? = some (p.getD x.toNat 0) := by simp [compL, h]

/-- No permutation comes back. -/
def NoList : Value := .tuple #[.slice none 0 0, .bool false]
/-- A list comes back in memory of the call's own. -/
def ListRet (w : World) (n : Nat) (l : List Int) (e : Ending) (w' : World) : Prop :=
  ∃ A' c', e = .returned (.tuple #[.slice A' n c', .bool true]) ∧ w'.ownsRow w.heap.size 3 1 (.slice A' n c') n (iv l) ∧ Below w.heap.size w w'

section
variable (A B : Option Addr) (n m c d : Nat) (p q : List Int) (w : World)

set_option maxHeartbeats 1000000 in
theorem compose_none (hl : p.length = n) (hk : q.length = m) (h : Rd w 1 A n (iv p)) (h' : Rd w 1 B m (iv q)) (hn : n ≤ 1000000) (hm : m ≤ 1000000) (hw : ∀ x ∈ p, (Lit.int .i64 x).wf = true) (hw' : ∀ x ∈ q, (Lit.int .i64 x).wf = true)
    (a b : Bool) (ha : a = true ↔ goodTo p n) (hb : b = true ↔ goodTo q m) (hno : n ≠ m ∨ a = false ∨ b = false) :
    Calls Try.prog 28 #[.slice A n c, .slice B m d] w fun e w' => e = .returned (.tuple #[.slice none 0 0, .bool false]) ∧ Below w.heap.size w w' := by
  have HA := Lib.hid (fun W (r : Rd W 1 A n (iv p)) => valid_good A n c p W hl r hn hw a ha)
  have HB := Lib.hid (fun W (r : Rd W 1 B m (iv q)) => valid_good B m d q W hk r hm hw' b hb)
  have HR := Lib.hid h
  have HS := Lib.hid h'
  clear hl hk h h' hw hw' ha hb
  by_cases e : n = m
  · subst e
    cases a with
    | false =>
      clear hno
      go_enter Try.func28, Try.ntmps28
      go_wp2_with fail
      ((with_reducible refine (HA.out _ HR.out).mono ?_); rintro e w1 ⟨rfl, hb1⟩)
      go_wp2_with fail
      go_ret2
      exact ⟨rfl, hb1⟩
    | true =>
      obtain rfl : b = false := by rcases hno with h | h | h; exact absurd rfl h; cases h; exact h
      clear hno
      go_enter Try.func28, Try.ntmps28
      go_wp2_with fail
      ((with_reducible refine (HA.out _ HR.out).mono ?_); rintro e w1 ⟨rfl, hb1⟩)
      have HK := Lib.hid hb1
      clear hb1
      go_wp2_with fail
      ((with_reducible refine (HB.out _ (HS.out.below HK.out)).mono ?_); rintro e w2 ⟨rfl, hb2⟩)
      go_wp2_with fail
      go_ret2
      exact ⟨rfl, ((Kept.of HK.out).call hb2).2.2⟩
  · have e1 : ((n : Int) == (m : Int)) = false := by simp; omega
    clear hno
    go_enter Try.func28, Try.ntmps28
    go_wp2_with fail
    go_ret2
    exact ⟨rfl, Below.refl _ _⟩

set_option maxHeartbeats 1000000 in
theorem compose_some (hl : p.length = n) (hk : q.length = n) (h : Rd w 1 A n (iv p)) (h' : Rd w 1 B n (iv q)) (hn : n ≤ 1000000) (hw : ∀ x ∈ p, (Lit.int .i64 x).wf = true) (hw' : ∀ x ∈ q, (Lit.int .i64 x).wf = true)
    (ha : goodTo p n) (hb : goodTo q n) :
    Calls Try.prog 28 #[.slice A n c, .slice B n d] w (ListRet w n (compL p q)) := by
  have HA := Lib.hid (fun W (r : Rd W 1 A n (iv p)) => valid_good A n c p W hl r hn hw true (by simpa using ha))
  have HB := Lib.hid (fun W (r : Rd W 1 B n (iv q)) => valid_good B n d q W hk r hn hw' true (by simpa using hb))
  have HR := Lib.hid h
  have HS := Lib.hid h'
  have HL := Lib.hid hl
  have HLQ := Lib.hid hk
  have HG := Lib.hid hb
  clear hl hk h h' hw hw' ha hb
  go_enter Try.func28, Try.ntmps28
  go_wp2_with fail
  ((with_reducible refine (HA.out _ HR.out).mono ?_); rintro e w1 ⟨rfl, hb1⟩)
  have HK := Lib.hid hb1
  clear hb1
  go_wp2_with fail
  ((with_reducible refine (HB.out _ (HS.out.below HK.out)).mono ?_); rintro e w2 ⟨rfl, hb2⟩)
  have HK2 := Lib.hid ((Kept.of HK.out).call hb2).2.2
  clear hb2 HK
  go_wp2_with fail
  go_loopw [6, 26] (fun v i wr => ∃ j : Nat, j ≤ n ∧ i = .int .i64 j ∧ (∃ A' c', v = .slice A' j c') ∧ wr.ownsRow w.heap.size 3 1 v j (iv ((compL p q).take j)) ∧ Below w.heap.size w wr) (fun _ i _ => n - (intOf i).toNat)
  case atStart => exact ⟨0, by omega, rfl, ⟨none, 0, rfl⟩, by simpa [iv] using World.ownsRow_nil _ _ _ _, HK2.out⟩
  case round =>
    obtain ⟨j, hj, rfl, ⟨A', c', rfl⟩, hown, hb⟩ := hrel
    by_cases hlt : j < n
    · obtain ⟨g, o, x, rfl, hbl, hx, c1⟩ := iv_at HLQ.out (HS.out.below hb) hlt
      have hb0 := (HG.out j x hlt hx).1
      rw [HLQ.out] at hb0
      obtain ⟨x', rfl⟩ := Int.eq_ofNat_of_zero_le hb0.1
      have hx' : x' < n := by omega
      obtain ⟨g2, o2, y, rfl, hbl2, hy, c2⟩ := iv_at HL.out (HR.out.below hb) hx'
      have HT := Lib.hid (iv_take_snoc (compL p q) j y (by rw [compL_get hx]; simp [List.getD, hy]))
      have hsz := hb.size
      have HO := Lib.hid hown
      have HBB := Lib.hid hb
      clear hb0 hx hy hown hb
      go_wp2_with (at_builtin; go_must (refine wpList_push slInt rfl _ _ rfl w.heap.size _ j (iv ((compL p q).take j)) rfl HO.out #[.int .i64 y] _ rfl rfl rfl (uone_int _) (by unfold maxLen; omega) (by omega) hsz ?_); intro A2 c2 w2 hown2 hb2)
      go_roundw
      case rel => exact ⟨j + 1, by omega, by go_num, ⟨A2, c2, rfl⟩, by rw [HT.out]; exact hown2, HBB.out.trans hb2⟩
      case measure => simp [intOf]; omega
    · obtain rfl : j = n := by omega
      rw [List.take_of_length_le (by rw [compL_length, HLQ.out]; exact Nat.le_refl _)] at hown
      go_wp2_with fail
      go_ret2
      exact ⟨A', c', rfl, hown, hb⟩

set_option maxHeartbeats 1000000 in
theorem refCompose_none (hl : p.length = n) (hk : q.length = m) (h : Rd w 1 A n (iv p)) (h' : Rd w 1 B m (iv q)) (hn : n ≤ 1000000) (hm : m ≤ 1000000)
    (a b : Bool) (ha : a = true ↔ goodTo p n) (hb : b = true ↔ goodTo q m) (hno : n ≠ m ∨ a = false ∨ b = false) :
    Calls Try.prog 29 #[.slice A n c, .slice B m d] w fun e w' => e = .returned (.tuple #[.slice none 0 0, .bool false]) ∧ Below w.heap.size w w' := by
  have HA := Lib.hid (fun W (r : Rd W 1 A n (iv p)) => refValid_good A n c p W hl r hn a ha)
  have HB := Lib.hid (fun W (r : Rd W 1 B m (iv q)) => refValid_good B m d q W hk r hm b hb)
  have HR := Lib.hid h
  have HS := Lib.hid h'
  clear hl hk h h' ha hb
  cases a with
  | false =>
    clear hno
    go_enter Try.func29, Try.ntmps29
    go_wp2_with fail
    ((with_reducible refine (HA.out _ HR.out).mono ?_); rintro e w1 ⟨rfl, rfl⟩)
    go_wp2_with fail
    go_ret2
    exact ⟨rfl, Below.refl _ _⟩
  | true =>
    cases b with
    | false =>
      clear hno
      go_enter Try.func29, Try.ntmps29
      go_wp2_with fail
      ((with_reducible refine (HA.out _ HR.out).mono ?_); rintro e w1 ⟨rfl, rfl⟩)
      go_wp2_with fail
      ((with_reducible refine (HB.out _ HS.out).mono ?_); rintro e w2 ⟨rfl, rfl⟩)
      go_wp2_with fail
      go_ret2
      exact ⟨rfl, Below.refl _ _⟩
    | true =>
      have hne : n ≠ m := by rcases hno with h | h | h; exact h; cases h; cases h
      have e1 : ((n : Int) == (m : Int)) = false := by simp; omega
      clear hno
      go_enter Try.func29, Try.ntmps29
      go_wp2_with fail
      ((with_reducible refine (HA.out _ HR.out).mono ?_); rintro e w1 ⟨rfl, rfl⟩)
      go_wp2_with fail
      ((with_reducible refine (HB.out _ HS.out).mono ?_); rintro e w2 ⟨rfl, rfl⟩)
      go_wp2_with fail
      go_ret2
      exact ⟨rfl, Below.refl _ _⟩

set_option maxHeartbeats 1000000 in
theorem refCompose_some (hl : p.length = n) (hk : q.length = n) (h : Rd w 1 A n (iv p)) (h' : Rd w 1 B n (iv q)) (hn : n ≤ 1000000)
    (ha : goodTo p n) (hb : goodTo q n) :
    Calls Try.prog 29 #[.slice A n c, .slice B n d] w (ListRet w n (compL p q)) := by
  have HA := Lib.hid (fun W (r : Rd W 1 A n (iv p)) => refValid_good A n c p W hl r hn true (by simpa using ha))
  have HB := Lib.hid (fun W (r : Rd W 1 B n (iv q)) => refValid_good B n d q W hk r hn true (by simpa using hb))
  have HR := Lib.hid h
  have HS := Lib.hid h'
  have HL := Lib.hid hl
  have HLQ := Lib.hid hk
  have HG := Lib.hid hb
  clear hl hk h h' ha hb
  go_enter Try.func29, Try.ntmps29
  go_wp2_with fail
  ((with_reducible refine (HA.out _ HR.out).mono ?_); rintro e w1 ⟨rfl, rfl⟩)
  go_wp2_with fail
  ((with_reducible refine (HB.out _ HS.out).mono ?_); rintro e w2 ⟨rfl, rfl⟩)
  go_wp2_with fail
  go_loopw [6, 7] (fun v i wr => ∃ j : Nat, j ≤ n ∧ i = .int .i64 j ∧ (∃ A' c', v = .slice A' j c') ∧ wr.ownsRow w.heap.size 3 1 v j (iv ((compL p q).take j)) ∧ Below w.heap.size w wr) (fun _ i _ => n - (intOf i).toNat)
  case atStart => exact ⟨0, by omega, rfl, ⟨none, 0, rfl⟩, by simpa [iv] using World.ownsRow_nil _ _ _ _, Below.refl _ _⟩
  case round =>
    obtain ⟨j, hj, rfl, ⟨A', c', rfl⟩, hown, hb⟩ := hrel
    by_cases hlt : j < n
    · obtain ⟨g, o, x, rfl, hbl, hx, c1⟩ := iv_at HLQ.out (HS.out.below hb) hlt
      have hb0 := (HG.out j x hlt hx).1
      rw [HLQ.out] at hb0
      obtain ⟨x', rfl⟩ := Int.eq_ofNat_of_zero_le hb0.1
      have hx' : x' < n := by omega
      obtain ⟨g2, o2, y, rfl, hbl2, hy, c2⟩ := iv_at HL.out (HR.out.below hb) hx'
      have HT := Lib.hid (iv_take_snoc (compL p q) j y (by rw [compL_get hx]; simp [List.getD, hy]))
      have hsz := hb.size
      have HO := Lib.hid hown
      have HBB := Lib.hid hb
      clear hb0 hx hy hown hb
      go_wp2_with (at_builtin; go_must (refine wpList_push slInt rfl _ _ rfl w.heap.size _ j (iv ((compL p q).take j)) rfl HO.out #[.int .i64 y] _ rfl rfl rfl (uone_int _) (by unfold maxLen; omega) (by omega) hsz ?_); intro A2 c2 w2 hown2 hb2)
      go_roundw
      case rel => exact ⟨j + 1, by omega, by go_num, ⟨A2, c2, rfl⟩, by rw [HT.out]; exact hown2, HBB.out.trans hb2⟩
      case measure => simp [intOf]; omega
    · obtain rfl : j = n := by omega
      rw [List.take_of_length_le (by rw [compL_length, HLQ.out]; exact Nat.le_refl _)] at hown
      go_wp2_with fail
      go_ret2
      exact ⟨A', c', rfl, hown, hb⟩
end

end Go.Proofs.Ytncjfijpaheobaa
