/-
  Contracts and lemmas that stand in other texts too, laid for this seat.
-/
import Derived.Test.YtnnphileeeaibaaMatRows
namespace Go.Proofs.Ytnnphileeeaibaa
set_option linter.unusedVariables false
set_option linter.unusedSimpArgs false
open Go.RowKit

def dotF (q : Int) : List Int → List Int → Int → Int
  | x :: a, y :: b, s => dotF q a b (wrap64 (s + mulQ x y q))
  | _, _, s => s

def dotL (q : Int) (a b : List Int) : Int := dotF q a b 0

theorem dotF_comm (q : Int) : ∀ (a b : List Int) (s : Int), dotF q a b s = dotF q b a s
  | [], [], _ => rfl
  | [], _ :: _, _ => rfl
  | _ :: _, [], _ => rfl
  | x :: a, y :: b, s => by
    simp only [dotF]
    rw [mulQ_comm x y, dotF_comm q a b]

theorem dot_on {q : Int} {a b : List Int} {k : Nat} {x y s v : Int} (hv : Hid (v = dotF q (a.drop k) (b.drop k) s)) (ha : Hid (a[k]? = some x)) (hb : Hid (b[k]? = some y)) : Hid (v = dotF q (a.drop (k + 1)) (b.drop (k + 1)) (wrap64 (s + mulQ x y q))) := by
  obtain ⟨h1, e1⟩ := List.getElem?_eq_some_iff.1 ha.out
  obtain ⟨h2, e2⟩ := List.getElem?_eq_some_iff.1 hb.out
  refine Lib.hid ?_
  rw [hv.out, List.drop_eq_getElem_cons h1, List.drop_eq_getElem_cons h2, e1, e2]
  rfl

theorem dot_end {q : Int} {a b : List Int} {k n : Nat} {s v : Int} (hv : Hid (v = dotF q (a.drop k) (b.drop k) s)) (ha : Hid (a.length = n)) (h1 : n ≤ k) : s = v := by
  rw [hv.out, List.drop_eq_nil_of_le (by have := ha.out; omega)]
  simp only [dotF]

set_option maxHeartbeats 1000000 in
theorem dot_any (A B : Option Addr) (n c d : Nat) (q : Int) (a b : List Int) (w : World) (hn : n ≤ 10000000) (ha : a.length = n) (hb : b.length = n) (h : Rd w 1 A n (iv a)) (h' : Rd w 1 B n (iv b)) (hx : ∀ x ∈ a, In1 x) (hx' : ∀ x ∈ b, In1 x) :
    Calls Try.prog 62 #[.slice A n c, .slice B n d, .int .i64 q] w fun e w' => e = .returned (.tuple #[.int .i64 (dotL q a b), .bool true]) ∧ Below w.heap.size w w' := by
  have HA := Lib.hid ha
  have HB := Lib.hid hb
  have HR := Lib.hid h
  have HR' := Lib.hid h'
  have HX := Lib.hid (And.intro hx hx')
  clear ha hb h h' hx hx'
  go_enter Try.func62, Try.ntmps62
  go_wp2_with fail
  go_loopw [8, 18] (fun v i wr => ∃ (k : Nat) (s : Int), k ≤ n ∧ i = .int .i64 k ∧ v = .int .i64 s ∧ Below w.heap.size w wr ∧ Hid (dotL q a b = dotF q (a.drop k) (b.drop k) s)) (fun _ i _ => n - (intOf i).toNat)
  case atStart => exact ⟨0, 0, by omega, rfl, rfl, Below.refl _ _, Lib.hid rfl⟩
  case round =>
    obtain ⟨k, s, hk, rfl, rfl, hb, he⟩ := hrel
    by_cases hlt : k < n
    · obtain ⟨g, o, x, rfl, hbl, hx, c1⟩ := iv_at HA.out (HR.out.below hb) hlt
      obtain ⟨g', o', y, rfl, hbl', hy, c2⟩ := iv_at HB.out (HR'.out.below hb) hlt
      have HXk := Lib.hid hx
      have HYk := Lib.hid hy
      have bx := Lib.hid (HX.out.1 x (List.mem_of_getElem? hx))
      have by_ := Lib.hid (HX.out.2 y (List.mem_of_getElem? hy))
      clear hx hy
      go_wp2_with fail
      ((with_reducible refine (mulQ_any x y q _ bx.out by_.out).mono ?_); rintro e w2 ⟨rfl, hb2⟩)
      have hb2' := hb.trans (hb2.mono hb.size)
      clear hb2
      go_wp2
      go_roundw
      case rel => exact ⟨k + 1, _, by omega, by go_num, rfl, hb2', dot_on he HXk HYk⟩
      case measure => simp [intOf]; omega
    · go_wp2
      go_ret2
      exact ⟨ret_pair (congrArg (Value.int .i64) (dot_end he HA (by omega))), hb⟩

end Go.Proofs.Ytnnphileeeaibaa
