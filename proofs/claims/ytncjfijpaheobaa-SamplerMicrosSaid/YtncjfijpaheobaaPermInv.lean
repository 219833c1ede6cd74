/-
  Inverse and the reference's Inverse.
-/
import Derived.Test.YtncjfijpaheobaaPermComposes
import Derived.Deep.OwnRows
namespace Go.Proofs.Ytncjfijpaheobaa
set_option linter.unusedVariables false
set_option linter.unusedSimpArgs false
set_option maxRecDepth 100000
open Go.RowKit

theorem placeL_skip (p : List Int) (x : Int) : ∀ k, k ≤ p.length → x ∉ p.take k → placeL p x = placeF x (p.drop k) k
  | 0, _, _ => rfl
  | k + 1, hk, hn => by
    obtain ⟨y, hy⟩ : ∃ y, p[k]? = some y := ⟨_, List.getElem?_eq_getElem (by omega)⟩
    have ht : p.take (k + 1) = p.take k ++ [y] := by rw [List.take_add_one, hy]; rfl
    rw [ht] at hn
    rw [placeL_skip p x k (by omega) (fun h => hn (by simp [h]))]
    exact placeF_on hy (fun e => hn (by simp [e]))
theorem placeL_at {p : List Int} {n k : Nat} {x : Int} (h : goodTo p n) (hk : k < n) (hx : p[k]? = some x) : placeL p x = k := by
  have hkl : k < p.length := (List.getElem?_eq_some_iff.1 hx).1
  rw [placeL_skip p x k (by omega) (h k x hk hx).2]
  exact placeF_hit hx

/-- The inverse of a list, by the places of the numbers. -/
def invL (p : List Int) : List Int := (List.range p.length).map fun i : Nat => placeL p i
theorem invL_length (p : List Int) : (invL p).length = p.length := by simp [invL]
theorem invL_get {p : List Int} {i : Nat} (h : i < p.length) : (invL p)[i]? = some (placeL p i) := by simp [invL, h]
theorem invL_at {p : List Int} {k : Nat} {x : Int} (h : goodTo p p.length) (hx : p[k]? = some x) : (invL p)[x.toNat]? = some (k : Int) := by
  have hk := (List.getElem?_eq_some_iff.1 hx).1
  have hb := (h k x hk hx).1
  rw [invL_get (by omega), show ((x.toNat : Nat) : Int) = x by omega, placeL_at h hk hx]
theorem good_mem {p : List Int} (h : goodTo p p.length) {i : Nat} (hi : i < p.length) : ∃ k : Nat, k < p.length ∧ p[k]? = some (i : Int) := by
  have hm := (good_iff p).1 h i hi
  obtain ⟨k, hk, e⟩ := List.getElem_of_mem hm
  exact ⟨k, hk, by rw [List.getElem?_eq_getElem hk, e]⟩
/-- The inverse of a permutation is one. -/
theorem invL_good {p : List Int} (h : goodTo p p.length) : goodTo (invL p) (invL p).length := by
  rw [good_iff]
  intro j hj
  rw [invL_length] at hj
  obtain ⟨x, hx⟩ : ∃ x, p[j]? = some x := ⟨_, List.getElem?_eq_getElem hj⟩
  exact List.mem_of_getElem? (invL_at h hx)
theorem comp_inv {p : List Int} (h : goodTo p p.length) : compL p (invL p) = iotaL p.length := by
  apply List.ext_getElem?
  intro i
  by_cases hi : i < p.length
  · obtain ⟨k, hk, hx⟩ := good_mem h hi
    have h1 := compL_get (p := p) (invL_at h hx)
    rw [show ((i : Nat) : Int).toNat = i by omega] at h1
    rw [h1, iotaL_get _ _ hi]
    simp [List.getD, hx]
  · rw [List.getElem?_eq_none (by rw [compL_length, invL_length]; omega), List.getElem?_eq_none (by rw [iotaL_length]; omega)]

/-- What Inverse has stored behind k rounds. -/
def invTo (p : List Int) : Nat → List Int
  | 0 => List.replicate p.length 0
  | k + 1 => (invTo p k).set (p.getD k 0).toNat k
theorem invTo_length (p : List Int) : ∀ k, (invTo p k).length = p.length
  | 0 => by simp [invTo]
  | k + 1 => by rw [invTo, List.length_set, invTo_length p k]
theorem invTo_at {p : List Int} (h : goodTo p p.length) : ∀ k, k ≤ p.length → ∀ j x, j < k → p[j]? = some x → (invTo p k)[x.toNat]? = some (j : Int)
  | 0, _, j, x, hj, _ => absurd hj (by omega)
  | k + 1, hk, j, x, hj, hx => by
    obtain ⟨y, hy⟩ : ∃ y, p[k]? = some y := ⟨_, List.getElem?_eq_getElem (by omega)⟩
    have hb := (h j x (by omega) hx).1
    have hc := (h k y (by omega) hy).1
    have hn := (h k y (by omega) hy).2
    have e1 : (p.getD k 0).toNat = y.toNat := by simp [List.getD, hy]
    rw [invTo, e1, List.getElem?_set]
    by_cases e : j = k
    · subst e
      rw [hx] at hy
      injection hy with hy
      subst hy
      rw [if_pos rfl, if_pos (by rw [invTo_length]; omega)]
    · have hne : y.toNat ≠ x.toNat := fun e2 => hn (by
        have e3 : y = x := by omega
        rw [e3]
        exact List.mem_of_getElem? (l := p.take k) (i := j) (by rw [List.getElem?_take, if_pos (by omega), hx]))
      rw [if_neg hne]
      exact invTo_at h k (by omega) j x (by omega) hx
theorem invTo_all {p : List Int} (h : goodTo p p.length) : invTo p p.length = invL p := by
  apply List.ext_getElem?
  intro i
  by_cases hi : i < p.length
  · obtain ⟨k, hk, hx⟩ := good_mem h hi
    have h1 := invTo_at h p.length (Nat.le_refl _) k i hk hx
    have h2 := invL_at h hx
    rw [show ((i : Nat) : Int).toNat = i by omega] at h1 h2
    rw [h1, h2]
  · rw [List.getElem?_eq_none (by rw [invTo_length]; omega), List.getElem?_eq_none (by rw [invL_length]; omega)]

theorem own_zeros (w : World) (n g base : Nat) (e : TypeId) (hg : w.heap.size = g) (hb : base ≤ g) (hn : n ≤ 1048576) : (w.alloc (.cells (madeCells #[Value.int .i64 0] n) e)).ownsRow base e 1 (.slice (some ⟨g, 0, none⟩) n n) n (iv (List.replicate n 0)) := by
  subst hg
  have e1 : (madeCells #[Value.int .i64 0] n).toList = iv (List.replicate n 0) := by rw [toList_madeCells_one]; simp [iv]
  have e2 := congrArg List.length e1
  rw [Array.length_toList, iv_length, List.length_replicate] at e2
  rw [← e1]
  exact World.ownsRow_lit w _ n hb (by unfold maxLen; omega) (by rw [e2, Nat.mul_one])

section
variable (A : Option Addr) (n c : Nat) (p : List Int) (w : World)

set_option maxHeartbeats 1000000 in
theorem inverse_none (hl : p.length = n) (h : Rd w 1 A n (iv p)) (hn : n ≤ 1000000) (hw : ∀ x ∈ p, (Lit.int .i64 x).wf = true) (hg : ¬ goodTo p n) :
    Calls Try.prog 32 #[.slice A n c] w fun e w' => e = .returned (.tuple #[.slice none 0 0, .bool false]) ∧ Below w.heap.size w w' := by
  have HA := Lib.hid (valid_good A n c p w hl h hn hw false (by simpa using hg))
  clear hl h hw hg
  go_enter Try.func32, Try.ntmps32
  go_wp2_with fail
  ((with_reducible refine HA.out.mono ?_); rintro e w1 ⟨rfl, hb1⟩)
  go_wp2_with fail
  go_ret2
  exact ⟨rfl, hb1⟩

set_option maxHeartbeats 2000000 in
theorem inverse_some (hl : p.length = n) (h : Rd w 1 A n (iv p)) (hn : n ≤ 1000000) (hw : ∀ x ∈ p, (Lit.int .i64 x).wf = true) (hg : goodTo p n) :
    Calls Try.prog 32 #[.slice A n c] w (ListRet w n (invL p)) := by
  have hmk := fun W => run_make_row' (P := Try.prog) 23 3 (.int .i64 0) 8 Try.underlying23 slInt.info rfl .i64 .i64 n (by omega) (by omega) W
  have HA := Lib.hid (valid_good A n c p w hl h hn hw true (by simpa using hg))
  have HR := Lib.hid h
  have HL := Lib.hid hl
  have HG := Lib.hid hg
  clear hl h hw hg
  go_enter Try.func32, Try.ntmps32
  go_wp2_with fail
  ((with_reducible refine HA.out.mono ?_); rintro e w1 ⟨rfl, hb1⟩)
  have HK := Lib.hid hb1
  clear hb1
  go_wp2_with fail
  obtain ⟨g, hgw⟩ : ∃ g, w1.heap.size = g := ⟨_, rfl⟩
  have hsz := HK.out.size
  have ho := own_zeros w1 n g w.heap.size 3 hgw (by omega) (by omega)
  have hb2 : Below w.heap.size w (w1.alloc (.cells (madeCells #[.int .i64 0] n) 3)) := HK.out.alloc HK.out.size _
  obtain ⟨W2, hW2⟩ : ∃ W2, w1.alloc (.cells (madeCells #[.int .i64 0] n) 3) = W2 := ⟨_, rfl⟩
  rw [hgw]
  rw [hW2] at ho hb2 ⊢
  have HO := Lib.hid ho
  have HB := Lib.hid hb2
  have hgl : w.heap.size ≤ g := by omega
  clear ho hb2 hW2 hgw hsz
  go_loopw [15] (fun i wr => ∃ j : Nat, j ≤ n ∧ i = .int .i64 j ∧ wr.ownsRow w.heap.size 3 1 (.slice (some ⟨g, 0, none⟩) n n) n (iv (invTo p j)) ∧ Below w.heap.size w wr) (fun i _ => n - (intOf i).toNat)
  case atStart => exact ⟨0, by omega, rfl, by rw [invTo, HL.out]; exact HO.out, HB.out⟩
  case round =>
    obtain ⟨j, hj, rfl, ho, hb⟩ := hrel
    by_cases hlt : j < n
    · obtain ⟨g1, o1, x, rfl, hbl, hx, c1⟩ := iv_at HL.out (HR.out.below hb) hlt
      have hb0 := (HG.out j x hlt hx).1
      rw [HL.out] at hb0
      obtain ⟨x', rfl⟩ := Int.eq_ofNat_of_zero_le hb0.1
      have hx' : x' < n := by omega
      have f1 := ho.frozenAt x'
      have hs := ho.stored x' (.int .i64 j)
      rw [iv_set, show (invTo p j).set x' (j : Int) = invTo p (j + 1) by rw [invTo]; simp [List.getD, hx]] at hs
      have cx : ∃ u, wr.cell? ⟨g, x', none⟩ = some u := by
        rw [ho.cellAt x' (by omega)]
        exact ⟨_, List.getElem?_eq_getElem (by rw [iv_length, invTo_length, HL.out]; exact hx')⟩
      obtain ⟨u, cx⟩ := cx
      have HS := Lib.hid hs.1
      have HB2 := Lib.hid (below_gr hb hb.size hs.2 hgl)
      clear hb0 hx ho hb hs
      go_wp2_with fail
      go_roundw
      case rel => exact ⟨j + 1, by omega, by go_num, HS.out, HB2.out⟩
      case measure => simp [intOf]; omega
    · obtain rfl : j = n := by omega
      have hgood := HG.out
      rw [← HL.out] at hgood
      rw [show invTo p j = invL p by rw [← invTo_all hgood, HL.out]] at ho
      have HO2 := Lib.hid ho
      have HB2 := Lib.hid hb
      clear ho hb hgood
      go_wp2_with fail
      go_ret2
      exact ⟨some ⟨g, 0, none⟩, j, rfl, HO2.out, HB2.out⟩

set_option maxHeartbeats 1000000 in
theorem refInverse_none (hl : p.length = n) (h : Rd w 1 A n (iv p)) (hn : n ≤ 1000000) (hg : ¬ goodTo p n) :
    Calls Try.prog 33 #[.slice A n c] w fun e w' => e = .returned (.tuple #[.slice none 0 0, .bool false]) ∧ Below w.heap.size w w' := by
  have HA := Lib.hid (refValid_good A n c p w hl h hn false (by simpa using hg))
  clear hl h hg
  go_enter Try.func33, Try.ntmps33
  go_wp2_with fail
  ((with_reducible refine HA.out.mono ?_); rintro e w1 ⟨rfl, rfl⟩)
  go_wp2_with fail
  go_ret2
  exact ⟨rfl, Below.refl _ _⟩

set_option maxHeartbeats 2000000 in
theorem refInverse_some (hl : p.length = n) (h : Rd w 1 A n (iv p)) (hn : n ≤ 1000000) (hg : goodTo p n) :
    Calls Try.prog 33 #[.slice A n c] w (ListRet w n (invL p)) := by
  have HA := Lib.hid (refValid_good A n c p w hl h hn true (by simpa using hg))
  have HP := Lib.hid (fun x W (r : Rd W 1 A n (iv p)) => place_any A n c p x W hl r hn)
  have HR := Lib.hid h
  have HL := Lib.hid hl
  clear hl h hg
  go_enter Try.func33, Try.ntmps33
  go_wp2_with fail
  ((with_reducible refine HA.out.mono ?_); rintro e w1 ⟨rfl, rfl⟩)
  go_wp2_with fail
  go_loopw [4, 5] (fun v i wr => ∃ j : Nat, j ≤ n ∧ i = .int .i64 j ∧ (∃ A' c', v = .slice A' j c') ∧ wr.ownsRow w.heap.size 3 1 v j (iv ((invL p).take j)) ∧ Below w.heap.size w wr) (fun _ i _ => n - (intOf i).toNat)
  case atStart => exact ⟨0, by omega, rfl, ⟨none, 0, rfl⟩, by simpa [iv] using World.ownsRow_nil _ _ _ _, Below.refl _ _⟩
  case round =>
    obtain ⟨j, hj, rfl, ⟨A', c', rfl⟩, hown, hb⟩ := hrel
    by_cases hlt : j < n
    · obtain ⟨y, hy⟩ : ∃ y, placeL p (j : Int) = y := ⟨_, rfl⟩
      have HT := Lib.hid (iv_take_snoc (invL p) j y (by rw [invL_get (by rw [HL.out]; exact hlt), hy]))
      have C := HP.out (j : Int) wr (HR.out.below hb)
      rw [hy] at C
      have HC := Lib.hid C
      have hsz := hb.size
      have HO := Lib.hid hown
      have HBB := Lib.hid hb
      clear C hy hown hb
      go_wp2_with fail
      ((with_reducible refine HC.out.mono ?_); rintro e w1 ⟨rfl, rfl⟩)
      go_wp2_with (at_builtin; go_must (refine wpList_push slInt rfl _ _ rfl w.heap.size _ j (iv ((invL p).take j)) rfl HO.out #[.int .i64 y] _ rfl rfl rfl (uone_int _) (by unfold maxLen; omega) (by omega) hsz ?_); intro A2 c2 w2 hown2 hb2)
      go_roundw
      case rel => exact ⟨j + 1, by omega, by go_num, ⟨A2, c2, rfl⟩, by rw [HT.out]; exact hown2, HBB.out.trans hb2⟩
      case measure => simp [intOf]; omega
    · obtain rfl : j = n := by omega
      rw [List.take_of_length_le (by rw [invL_length, HL.out]; exact Nat.le_refl _)] at hown
      go_wp2_with fail
      go_ret2
      exact ⟨A', c', rfl, hown, hb⟩
end

end Go.Proofs.Ytncjfijpaheobaa
