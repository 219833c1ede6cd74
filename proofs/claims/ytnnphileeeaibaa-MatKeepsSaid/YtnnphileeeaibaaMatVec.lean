/-
  Contracts and lemmas that stand in other texts too, laid for this seat.
-/
import Derived.Test.YtnnphileeeaibaaMatTurn2
namespace Go.Proofs.Ytnnphileeeaibaa
set_option linter.unusedVariables false
set_option linter.unusedSimpArgs false
open Go.RowKit

theorem only_drew' {a w : World} {row : Option Nat} (h : a.grownBy w row) : a.grownBy w.drew row := ⟨h.os, h.tape, h.output, h.size, h.block⟩

/-- A vector of which the first k elements are multiplied. -/
def scaleK (l : List Int) (a q : Int) (k : Nat) : List Int := l.mapIdx fun i x => if i < k then mulQ x a q else x

def scaleL (l : List Int) (a q : Int) : List Int := l.map fun x => mulQ x a q

theorem scaleL_length (l : List Int) (a q : Int) : (scaleL l a q).length = l.length := by simp [scaleL]

theorem scaleK_length (l : List Int) (a q : Int) (k : Nat) : (scaleK l a q k).length = l.length := by simp [scaleK]

theorem scaleK_zero (l : List Int) (a q : Int) : scaleK l a q 0 = l := by
  apply List.ext_getElem?
  intro i
  simp [scaleK]

theorem scaleK_at (l : List Int) (a q : Int) (k : Nat) (x : Int) (h : l[k]? = some x) : (scaleK l a q k)[k]? = some x := by simp [scaleK, h]

theorem scaleK_next (l : List Int) (a q : Int) (k : Nat) (x : Int) (h : l[k]? = some x) : (scaleK l a q k).set k (mulQ x a q) = scaleK l a q (k + 1) := by
  obtain ⟨hk, hx⟩ := List.getElem?_eq_some_iff.1 h
  apply List.ext_getElem?
  intro i
  rw [List.getElem?_set]
  by_cases e : k = i
  · subst e
    rw [if_pos rfl, if_pos (by rw [scaleK_length]; exact hk)]
    simp only [scaleK, List.getElem?_mapIdx, h, Option.map_some]
    rw [if_pos (by omega)]
  · rw [if_neg e]
    simp only [scaleK, List.getElem?_mapIdx]
    cases l[i]? with
    | none => rfl
    | some y =>
      simp only [Option.map_some]
      congr 1
      by_cases h1 : i < k
      · rw [if_pos h1, if_pos (by omega)]
      · rw [if_neg h1, if_neg (by omega)]

theorem scaleK_done (l : List Int) (a q : Int) (k : Nat) (h : l.length ≤ k) : scaleK l a q k = scaleL l a q := by
  apply List.ext_getElem?
  intro i
  simp only [scaleK, scaleL, List.getElem?_mapIdx, List.getElem?_map]
  by_cases hi : i < l.length
  · rw [List.getElem?_eq_getElem hi]
    simp only [Option.map_some]
    rw [if_pos (by omega)]
  · rw [List.getElem?_eq_none (by omega)]
    rfl

set_option maxHeartbeats 1000000 in
theorem scale_any (A : Option Addr) (n c : Nat) (a q : Int) (l : List Int) (w : World) (hn : n ≤ 10000000) (hl : l.length = n) (h : Rd w 1 A n (iv l)) (hx : ∀ x ∈ l, In1 x) (ha : In1 a) :
    Calls Try.prog 66 #[.slice A n c, .int .i64 a, .int .i64 q] w (OwnRet w 2 1 n (iv (scaleL l a q))) := by
  have HL := Lib.hid hl
  have HR := Lib.hid h
  have HX := Lib.hid (And.intro hx ha)
  clear hl h hx ha
  go_enter Try.func66, Try.ntmps66
  go_wp2_with fail
  ((with_reducible refine (vecClone_any A n c l _ HL.out HR.out (by omega)).mono ?_); rintro e W ⟨A', cap', rfl, hown, hbW⟩)
  have HO := Lib.hid hown
  clear hown
  go_wp2_with fail
  go_loopw [14] (fun i wr => ∃ k : Nat, k ≤ n ∧ i = .int .i64 k ∧ Hid (wr.ownsRow w.heap.size 2 1 (.slice A' n cap') n (iv (scaleK l a q k))) ∧ Below w.heap.size w wr) (fun i _ => n - (intOf i).toNat)
  case atStart => exact ⟨0, by omega, rfl, by rw [scaleK_zero]; exact HO, hbW⟩
  case round =>
    clear HO hbW
    obtain ⟨k, hk, rfl, hO, hb⟩ := hrel
    by_cases hlt : k < n
    · obtain ⟨_, _, hv, _, _, hf⟩ := own_form hO.out
      injection hv with hA _ hC
      subst hA hC
      obtain ⟨g, rfl, hg1, hg2⟩ := hf (by omega)
      have hkl : k < l.length := by rw [HL.out]; exact hlt
      have c1 : wr.cell? ⟨g, k, none⟩ = some (.int .i64 l[k]) := by
        rw [hO.out.cellAt k (by omega)]
        unfold iv
        rw [List.getElem?_map, scaleK_at l a q k _ (List.getElem?_eq_getElem hkl)]
        rfl
      have HXk := Lib.hid (List.getElem?_eq_getElem hkl)
      have bx := Lib.hid (HX.out.1 _ (List.getElem_mem hkl))
      generalize l[k] = x at *
      clear hf hkl
      go_wp2_with fail
      ((with_reducible refine (mulQ_any x a q _ bx.out HX.out.2).mono ?_); rintro e w2 ⟨rfl, hb2⟩)
      have hO2 := own_below hO.out hb2
      have f1 := hO2.frozenAt k
      have c2 : w2.cell? ⟨g, k, none⟩ = some (.int .i64 x) := by rw [hb2.cell (p := ⟨g, k, none⟩) hg2]; exact c1
      obtain ⟨hst, hgr⟩ := hO2.stored k (.int .i64 (mulQ x a q))
      rw [iv_set, scaleK_next l a q k x HXk.out] at hst
      have HST := Lib.hid hst
      have hb2' := hb.trans (hb2.mono hb.size)
      have hb3 := Lib.hid (hb2'.grown hgr hb2'.size (fun k e => by cases e; exact hg1))
      clear hb2 hO2 hst hgr hO hb c1
      go_wp2
      go_roundw
      case rel => exact ⟨k + 1, by omega, by go_num, HST, hb3.out⟩
      case measure => simp [intOf]; omega
    · obtain rfl : k = n := by omega
      rw [scaleK_done l a q k (by have := HL.out; omega)] at hO
      go_wp2
      go_ret
      exact ⟨_, _, rfl, hO.out, hb⟩

set_option maxHeartbeats 1000000 in
theorem add_any (A B : Option Addr) (g o n c d N cap base : Nat) (xs ys : List Int) (w : World) (hA : 0 < n → A = some ⟨g, o, none⟩) (hN : o + n ≤ N) (hN2 : N ≤ 10000000) (hxl : xs.length = N) (hyl : ys.length = n)
    (hown : w.ownsRow base 2 1 (.slice (some ⟨g, 0, none⟩) N cap) N (iv xs)) (hy : Rd w 1 B n (iv ys)) (hne : ∀ b o', B = some ⟨b, o', none⟩ → 0 < n → b ≠ g) :
    Calls Try.prog 65 #[.slice A n c, .slice B n d] w fun e w' => e = .returned (.bool true) ∧ w'.ownsRow base 2 1 (.slice (some ⟨g, 0, none⟩) N cap) N (iv (addAt xs o ys n)) ∧ w.grownBy w' (some g) := by
  have HA := Lib.hid hA
  have HXL := Lib.hid hxl
  have HYL := Lib.hid hyl
  have HO := Lib.hid hown
  have HY := Lib.hid hy
  have HNE := Lib.hid hne
  clear hA hxl hyl hown hy hne
  go_enter Try.func65, Try.ntmps65
  go_wp2_with fail
  go_loopw [13] (fun i wr => ∃ k : Nat, k ≤ n ∧ i = .int .i64 k ∧ wr.ownsRow base 2 1 (.slice (some ⟨g, 0, none⟩) N cap) N (iv (addAt xs o ys k)) ∧ w.grownBy wr (some g)) (fun i _ => n - (intOf i).toNat)
  case atStart => exact ⟨0, by omega, rfl, by rw [addAt_zero]; exact HO.out, World.grownBy.refl _ _⟩
  case round =>
    obtain ⟨k, hk, rfl, hown, hg⟩ := hrel
    by_cases hlt : k < n
    · obtain rfl := HA.out (by omega)
      obtain ⟨b, o', rfl, hbl, hcy⟩ := HY.out.2 (by omega)
      have hbg := HNE.out b o' rfl (by omega)
      have hky : k < ys.length := by rw [HYL.out]; exact hlt
      have hkx : o + k < xs.length := by rw [HXL.out]; omega
      have c2 : wr.cell? ⟨b, o' + k, none⟩ = some (.int .i64 ys[k]) := hg.cell (hcy k _ (iv_get ys k hky)) (by simp [hbg])
      have c1 : wr.cell? ⟨g, o + k, none⟩ = some (.int .i64 xs[o + k]) := by
        rw [hown.cellAt (o + k) (by omega)]
        unfold iv
        rw [List.getElem?_map, addAt_at xs o ys k _ (List.getElem?_eq_getElem hkx)]
        rfl
      have f1 := hown.frozenAt (o + k)
      have HX := Lib.hid (List.getElem?_eq_getElem hkx)
      have HYk := Lib.hid (List.getElem?_eq_getElem hky)
      generalize xs[o + k] = x at *
      generalize ys[k] = y at *
      have HOw := Lib.hid hown
      have HG := Lib.hid hg
      have i1 : (k : Int) < (n : Int) := by omega
      have i3 : (0 : Int) ≤ (k : Int) := by omega
      clear hown hg hcy hkx hky hbl
      go_wp2_with fail
      go_region
      go_wp2
      go_roundw
      case rel => exact ⟨k + 1, by omega, by go_num, by rw [← addAt_next xs o ys k x y HX.out HYk.out, ← iv_set]; exact (HOw.out.stored (o + k) _).1, HG.out.trans (only_drew' (HOw.out.stored (o + k) _).2)⟩
      case measure => simp [intOf]; omega
    · obtain rfl : k = n := by omega
      go_wp2
      go_ret
      exact ⟨rfl, hown, hg⟩

end Go.Proofs.Ytnnphileeeaibaa
