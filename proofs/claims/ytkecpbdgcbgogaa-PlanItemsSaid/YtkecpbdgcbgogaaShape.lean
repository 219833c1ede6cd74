/-
  Sizes of a network: wrong, next, and the reference's Count and Check.
-/
import Derived.Test.YtkecpbdgcbgogaaPlPlain
import Derived.Test.YtkecpbdgcbgogaaBucketS
import Derived.Test.YtkecpbdgcbgogaaEarly
namespace Go.Proofs.Ytkecpbdgcbgogaa
set_option linter.unusedVariables false
set_option linter.unusedSimpArgs false
set_option maxRecDepth 100000
open Go.RowKit

def wrongS (l : List Int) : Bool := l.any fun x => decide (x < 1) || decide (1048576 < x)
theorem wrongS_here {l : List Int} {k : Nat} {x : Int} (hx : l[k]? = some x) (h : x < 1 ∨ 1048576 < x) : wrongS l = true := by
  unfold wrongS
  rw [List.any_eq_true]
  exact ⟨x, List.mem_of_getElem? hx, by simpa using h⟩
theorem wrongS_none {l : List Int} {n : Nat} (hl : l.length = n) (h : ∀ i x, i < n → l[i]? = some x → 1 ≤ x ∧ x ≤ 1048576) : wrongS l = false := by
  unfold wrongS
  rw [List.any_eq_false]
  intro x hx
  obtain ⟨i, hi, rfl⟩ := List.mem_iff_getElem.1 hx
  have := h i _ (by omega) (List.getElem?_eq_getElem hi)
  simp; omega
theorem wrongS_at {l : List Int} (h : wrongS l = false) {k : Nat} {x : Int} (hx : l[k]? = some x) : 1 ≤ x ∧ x ≤ 1048576 := by
  apply Classical.byContradiction
  intro hno
  rw [wrongS_here hx (by omega)] at h
  cases h

/-- The parameters of the first k pairs of layers. -/
def cntS (l : List Int) : Nat → Int
  | 0 => 0
  | k + 1 => cntS l k + (l.getD k 0 + 1) * l.getD (k + 1) 0
theorem prodS {x y : Int} (hx : 1 ≤ x ∧ x ≤ 1048576) (hy : 1 ≤ y ∧ y ≤ 1048576) : 0 ≤ x * y ∧ x * y ≤ 1099511627776 := by
  have h1 := Int.mul_nonneg (show 0 ≤ x by omega) (show 0 ≤ y by omega)
  have h2 : x * y ≤ 1048576 * 1048576 := Int.mul_le_mul hx.2 hy.2 (by omega) (by omega)
  omega
theorem cntS_bound {l : List Int} (h : wrongS l = false) : ∀ k : Nat, k < l.length ∨ k = 0 → 0 ≤ cntS l k ∧ cntS l k ≤ (k : Int) * 1099512676352
  | 0, _ => by simp [cntS]
  | k + 1, hk => by
    have ih := cntS_bound h k (by omega)
    have hx := wrongS_at h (List.getElem?_eq_getElem (show k < l.length by omega))
    have hy := wrongS_at h (List.getElem?_eq_getElem (show k + 1 < l.length by omega))
    have hp := prodS hx hy
    rw [cntS, show l.getD k 0 = l[k]'(by omega) by simp [List.getD, show k < l.length by omega], show l.getD (k + 1) 0 = l[k + 1]'(by omega) by simp [List.getD, show k + 1 < l.length by omega], Int.add_mul, Int.one_mul]
    omega
/-- Are the sizes right? -/
def sizesB (l : List Int) : Bool := decide (2 ≤ l.length) && decide (l.length ≤ 16) && !wrongS l && decide (cntS l (l.length - 1) ≤ 1048576)

section
variable (A : Option Addr) (n cap : Nat) (l : List Int) (w : World)

set_option maxHeartbeats 400000 in
theorem indexWrong_any (hl : l.length = n) (h : Rd w 1 A n (iv l)) (hn : n ≤ 1000000) :
    Calls Try.prog 98 #[.slice A n cap, .func (.func 94) #[] #[]] w fun e w' => ∃ v : Int, e = .returned (.int .i64 v) ∧ decide (0 ≤ v) = wrongS l ∧ w = w' := by
  have HL := Lib.hid hl
  have HR := Lib.hid h
  clear hl h
  go_enter Try.func98, Try.ntmps98
  go_wp2_with fail
  go_loop [8] (fun c => ∃ k : Nat, k ≤ n ∧ c = .int .i64 k ∧ Hid (∀ j x, j < k → l[j]? = some x → 1 ≤ x ∧ x ≤ 1048576)) (fun c => n - (intOf c).toNat)
  case atStart => exact ⟨0, by omega, rfl, Lib.hid (fun j x h => by omega)⟩
  case round =>
    obtain ⟨k, hk, rfl, he⟩ := hrel
    by_cases hlt : k < n
    · obtain ⟨b, o, x, rfl, hbl, hx, c1⟩ := iv_at HL.out HR.out hlt
      have HX := Lib.hid hx
      clear hx
      by_cases hlow : x < 1
      · go_wp2
        go_ret
        exact ⟨k, rfl, by rw [wrongS_here HX.out (.inl hlow)]; simp, rfl⟩
      · by_cases hhi : 1048576 < x
        · go_wp2
          go_ret
          exact ⟨k, rfl, by rw [wrongS_here HX.out (.inr hhi)]; simp, rfl⟩
        · go_wp2
          go_round
          case rel =>
            refine ⟨k + 1, by omega, by go_num, Lib.hid (fun j y hj hy => ?_)⟩
            by_cases hjk : j < k
            · exact he.out j y hjk hy
            · obtain rfl : j = k := by omega
              rw [HX.out] at hy
              injection hy with hy
              omega
          case measure => simp [intOf]; omega
    · obtain rfl : k = n := by omega
      go_wp2
      go_ret
      exact ⟨-1, rfl, by rw [wrongS_none HL.out he.out]; rfl, rfl⟩

set_option maxHeartbeats 400000 in
theorem containsWrong_any (hl : l.length = n) (h : Rd w 1 A n (iv l)) (hn : n ≤ 1000000) :
    Calls Try.prog 95 #[.slice A n cap, .func (.func 94) #[] #[]] w fun e w' => e = .returned (.bool (wrongS l)) ∧ w = w' := by
  have HL := Lib.hid hl
  have HR := Lib.hid h
  clear hl h
  go_enter Try.func95, Try.ntmps95
  go_wp2_with fail
  ((with_reducible refine (indexWrong_any A n cap l _ HL.out HR.out hn).mono ?_); rintro e w1 ⟨v, rfl, hv, rfl⟩)
  have HV := Lib.hid hv
  clear hv
  go_wp2_with fail
  go_ret
  exact ⟨ret_bool HV.out, rfl⟩

set_option maxHeartbeats 1000000 in
theorem refCount08_any (hl : l.length = n) (h : Rd w 1 A n (iv l)) (hn : n ≤ 16) (hw : wrongS l = false) :
    Calls Try.prog 93 #[.slice A n cap] w fun e w' => e = .returned (.int .i64 (cntS l (n - 1))) ∧ Below w.heap.size w w' := by
  have HL := Lib.hid hl
  have HR := Lib.hid h
  have HW := Lib.hid hw
  clear hl h hw
  go_enter Try.func93, Try.ntmps93
  go_wp2_with fail
  go_loopw [3, 4] (fun s i wr => ∃ (k : Nat) (c : Int), (k < n ∨ k = 0) ∧ i = .int .i64 k ∧ s = .int .i64 c ∧ Hid (c = cntS l k) ∧ Below w.heap.size w wr) (fun _ i _ => n - (intOf i).toNat)
  case atStart => exact ⟨0, 0, .inr rfl, rfl, rfl, Lib.hid rfl, Below.refl _ _⟩
  case round =>
    obtain ⟨k, c, hk, rfl, rfl, hc, hb⟩ := hrel
    by_cases hlt : k + 1 < n
    · obtain ⟨b, o, x, rfl, hbl, hx, c1⟩ := iv_at HL.out (HR.out.below hb) (show k < n by omega)
      obtain ⟨b', o', y, hA, hbl', hy, c2⟩ := iv_at HL.out (HR.out.below hb) hlt
      injection hA with hA
      injection hA with e1 e2
      subst e1 e2
      have wx := wrongS_at HW.out hx
      have wy := wrongS_at HW.out hy
      have hp := prodS wx wy
      have hcb := cntS_bound HW.out k (by rw [HL.out]; omega)
      rw [← hc.out] at hcb
      have HN : Hid (cntS l (k + 1) = c + (x + 1) * y) := Lib.hid (by rw [cntS, ← hc.out]; simp [List.getD, hx, hy])
      have hxy : (x + 1) * y = x * y + y := by rw [Int.add_mul, Int.one_mul]
      obtain ⟨p, hpp⟩ : ∃ p, (x + 1) * y = p := ⟨_, rfl⟩
      have hpb : 0 ≤ p ∧ p ≤ 1099512676352 := by rw [← hpp, hxy]; omega
      have hk16 : (k : Int) * 1099512676352 ≤ 17592202821632 := by omega
      have hw1 : IntKind.i64.wrap ((x + 1) * y) = p := by rw [hpp]; exact IntWalk.i64_in _ (by omega)
      have hcc : 0 ≤ c ∧ c ≤ 17592202821632 := by omega
      rw [hpp] at HN
      have HB := Lib.hid hb
      have i1 : (0 : Int) ≤ (k : Int) := by omega
      have i2 : (k : Int) < (n : Int) := by omega
      have i3 : (k : Int) + 1 < (n : Int) := by omega
      have i4 : (0 : Int) ≤ (k : Int) + 1 := by omega
      have e9 : decide ((k : Int) + 1 < (n : Int)) = true := decide_eq_true (by omega)
      have c3 : wr.cell? ⟨b, o + (k + 1), none⟩ = some (.int .i64 y) := c2
      clear hx hy hp hcb hxy hpp hc hb hk16
      go_wp2_with fail
      go_region
      go_wp2_with fail
      go_roundw
      case rel => exact ⟨k + 1, c + p, .inl hlt, by go_num, rfl, Lib.hid HN.out.symm, HB.out.drew⟩
      case measure => simp [intOf]; omega
    · have e9 : decide ((k : Int) + 1 < (n : Int)) = false := decide_eq_false (by omega)
      have HK : Hid (c = cntS l (n - 1)) := Lib.hid (by rw [hc.out]; congr 1; omega)
      go_wp2_with fail
      go_ret
      exact ⟨ret_int HK.out, hb⟩

/-- A code that is 0 exactly if all is right. -/
def CodeRet (ok : Bool) (w : World) (e : Ending) (w' : World) : Prop := ∃ c : Int, e = .returned (.int .i64 c) ∧ (c = 0 ↔ ok = true) ∧ Below w.heap.size w w'

set_option maxHeartbeats 1000000 in
theorem refCheck08_any (hl : l.length = n) (h : Rd w 1 A n (iv l)) (hn : n ≤ 1000) :
    Calls Try.prog 81 #[.slice A n cap] w (CodeRet (sizesB l) w) := by
  by_cases h2 : n < 2
  · have e1 : decide ((n : Int) < 2) = true := decide_eq_true (by omega)
    have hs : sizesB l = false := by rw [sizesB, hl, decide_eq_false (by omega)]; rfl
    rw [hs]
    clear h hl hs
    go_enter Try.func81, Try.ntmps81
    go_wp2_with fail
    go_ret
    exact ⟨5, rfl, by simp, Below.refl _ _⟩
  · by_cases h16 : 16 < n
    · have e1 : decide ((n : Int) < 2) = false := decide_eq_false (by omega)
      have e2 : decide ((16 : Int) < (n : Int)) = true := decide_eq_true (by omega)
      have hs : sizesB l = false := by rw [sizesB, hl, decide_eq_false (show ¬ n ≤ 16 by omega)]; simp
      rw [hs]
      clear h hl hs
      go_enter Try.func81, Try.ntmps81
      go_wp2_with fail
      go_ret
      exact ⟨5, rfl, by simp, Below.refl _ _⟩
    · have e1 : decide ((n : Int) < 2) = false := decide_eq_false (by omega)
      have e2 : decide ((16 : Int) < (n : Int)) = false := decide_eq_false (by omega)
      have HL := Lib.hid hl
      have HR := Lib.hid h
      have HNO : Hid (wrongS l = true → sizesB l = false) := Lib.hid (fun h => by rw [sizesB, h]; simp)
      have HY : Hid (wrongS l = false → sizesB l = decide (cntS l (n - 1) ≤ 1048576)) := Lib.hid (fun h => by rw [sizesB, h, hl, decide_eq_true (show 2 ≤ n by omega), decide_eq_true (show n ≤ 16 by omega)]; simp)
      obtain ⟨q, hq⟩ : ∃ q, sizesB l = q := ⟨_, rfl⟩
      rw [hq] at HNO HY ⊢
      clear h hl hq
      go_enter Try.func81, Try.ntmps81
      go_wp2_with fail
      go_loopw [3] (fun i wr => ∃ k : Nat, k ≤ n ∧ i = .int .i64 k ∧ wr = w ∧ Hid (∀ j x, j < k → l[j]? = some x → 1 ≤ x ∧ x ≤ 1048576)) (fun i _ => n - (intOf i).toNat)
      case atStart => exact ⟨0, by omega, rfl, rfl, Lib.hid (fun j x h => by omega)⟩
      case round =>
        obtain ⟨k, hk, rfl, hwr, he⟩ := hrel
        subst hwr
        by_cases hlt : k < n
        · obtain ⟨b, o, x, rfl, hbl, hx, c1⟩ := iv_at HL.out HR.out hlt
          have HX := Lib.hid hx
          have i1 : (0 : Int) ≤ (k : Int) := by omega
          have i2 : (k : Int) < (n : Int) := by omega
          clear hx
          by_cases hlow : x < 1
          · have f1 : decide (x < 1) = true := decide_eq_true hlow
            have HQ := Lib.hid (HNO.out (wrongS_here HX.out (.inl hlow)))
            go_wp2_with fail
            go_ret
            exact ⟨5, rfl, by rw [HQ.out]; simp, Below.refl _ _⟩
          · have f1 : decide (x < 1) = false := decide_eq_false hlow
            by_cases hhi : 1048576 < x
            · have f2 : decide (1048576 < x) = true := decide_eq_true hhi
              have HQ := Lib.hid (HNO.out (wrongS_here HX.out (.inr hhi)))
              go_wp2_with fail
              go_ret
              exact ⟨5, rfl, by rw [HQ.out]; simp, Below.refl _ _⟩
            · have f2 : decide (1048576 < x) = false := decide_eq_false hhi
              go_wp2_with fail
              go_roundw
              case rel =>
                refine ⟨k + 1, by omega, by go_num, trivial, Lib.hid (fun j y hj hy => ?_)⟩
                by_cases hjk : j < k
                · exact he.out j y hjk hy
                · obtain rfl : j = k := by omega
                  rw [HX.out] at hy
                  injection hy with hy
                  omega
              case measure => simp [intOf]; omega
        · obtain rfl : k = n := by omega
          have hwf : wrongS l = false := wrongS_none HL.out he.out
          have C := refCount08_any A k cap l wr HL.out HR.out (by omega) hwf
          have HQ := Lib.hid (HY.out hwf)
          have hcb := cntS_bound hwf (k - 1) (by rw [HL.out]; omega)
          obtain ⟨c, hc⟩ : ∃ c, cntS l (k - 1) = c := ⟨_, rfl⟩
          rw [hc] at C HQ hcb
          have HC := Lib.hid C
          clear C hc hwf
          by_cases hbig : 1048576 < c
          · have f1 : decide (1048576 < c) = true := decide_eq_true hbig
            go_wp2_with fail
            ((with_reducible refine HC.out.mono ?_); rintro e w1 ⟨rfl, hb1⟩)
            go_wp2_with fail
            go_ret
            exact ⟨4, rfl, by rw [HQ.out]; simp; omega, hb1⟩
          · have f1 : decide (1048576 < c) = false := decide_eq_false hbig
            go_wp2_with fail
            ((with_reducible refine HC.out.mono ?_); rintro e w1 ⟨rfl, hb1⟩)
            go_wp2_with fail
            go_ret
            exact ⟨0, rfl, by rw [HQ.out]; simp; omega, hb1⟩
end

end Go.Proofs.Ytkecpbdgcbgogaa
