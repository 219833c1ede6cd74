/-
  The rows of a grid, one after another.
-/
import Derived.Test.YtnnphileeeaibaaMatRight
namespace Go.Proofs.Ytnnphileeeaibaa
set_option linter.unusedVariables false
set_option linter.unusedSimpArgs false
set_option maxRecDepth 100000
open Go.RowKit Go.Shelf

attribute [local go_sem] Oper.semAt_some

/-- What comes with the number of a row. -/
def encRow (g o C k : Nat) : Array Value := #[.int .i64 k, .slice (some ⟨g, o + k * C, none⟩) C C]

theorem fin_take {R k : Nat} (h : k < R) : (List.finRange R).take (k + 1) = (List.finRange R).take k ++ [⟨k, h⟩] := by
  rw [List.take_succ_eq_append_getElem (by rw [List.length_finRange]; exact h), List.getElem_finRange]
  rfl
theorem fin_map (R : Nat) (F : Nat → Int) : (List.finRange R).map (fun x => F x.val) = natL R F := by
  apply List.ext_getElem?
  intro i
  by_cases h : i < R
  · rw [natL_get _ _ _ h, List.getElem?_map, List.getElem?_eq_getElem (by rw [List.length_finRange]; exact h), List.getElem_finRange]
    rfl
  · rw [List.getElem?_eq_none (by rw [List.length_map, List.length_finRange]; omega), List.getElem?_eq_none (by rw [natL_length]; omega)]

set_option maxHeartbeats 2000000 in
theorem rows1_in (n ly Bm R C m cap g o : Nat) (hn : 1 ≤ n) (hR : R ≤ 1048576) (hC : 1 ≤ C) (hm : R * C = m) (hcap : m ≤ cap) (hcm : cap ≤ 9223372036854775807) (S : Nat → Prop) (hBm : ¬ S Bm) (t : TypeId) (W : World) (hblk : Blk W Bm t #[.int .i64 R, .int .i64 C, .slice (some ⟨g, o, none⟩) m cap]) (J Jx : List (Fin R) → World → Prop)
    (hY : ∀ pre x W, J pre W → pre.length < R → YieldAt Fence.wide (n - 1) Try.prog ly (encRow g o C x.val) W fun e W' =>
      (e = .returned (.bool true) ∧ J (pre ++ [x]) W' ∧ But S W W') ∨ (e = .returned (.bool false) ∧ Jx (pre ++ [x]) W'))
    (hJ : AbidesFrom W.heap.size J) (h0 : J [] W) :
    CallsIn Fence.wide n Try.prog 71 #[.func (.yield ly) #[] #[], .pointer (some ⟨Bm, 0, none⟩)] W fun e W' => (∃ v, e = .returned v) ∧
      ((∃ ys, ys = List.finRange R ∧ J ys W') ∨ (∃ pre, pre <+: List.finRange R ∧ Jx pre W')) := by
  have HB := Lib.hid hblk
  have q0 : W.cell? ⟨Bm, 0, none⟩ = some (.int .i64 R) := hblk.cell 0
  have lt0 := hblk.lt
  have HM := Lib.hid hm
  clear hblk hm
  refine callsIn_of_wp Try.func71 rfl trivial ?_ rfl
  simp only [Try.ntmps71, List.size_toArray, List.length_cons, List.length_nil, Nat.reduceAdd, Nat.reduceSub, Array.replicate_succ, Array.replicate_zero, List.push_toArray, List.append_toArray, List.nil_append, List.cons_append]
  gi_wp2_with fail
  gi_loopw [6] (fun i wr => ∃ k : Nat, k ≤ R ∧ i = .int .i64 k ∧ J ((List.finRange R).take k) wr ∧ But S W wr)
    (fun i _ => R - (intOf i).toNat)
  case atStart => exact ⟨0, Nat.zero_le _, rfl, by simpa using h0, But.refl _ _⟩
  case round =>
    obtain ⟨k, hk, rfl, hJs, hnx⟩ := hrel
    by_cases hlt : k < R
    · have hb := HB.out.but hnx hBm
      have c0 : wr.cell? ⟨Bm, 0, none⟩ = some (.int .i64 R) := hb.cell 0
      have c1 : wr.cell? ⟨Bm, 1, none⟩ = some (.int .i64 C) := hb.cell 1
      have c2 : wr.cell? ⟨Bm, 2, none⟩ = some (.slice (some ⟨g, o, none⟩) m cap) := hb.cell 2
      have ltw := hb.lt
      have hws : W.heap.size ≤ wr.heap.size := hnx.size
      have HJS := Lib.hid hJs
      have HN := Lib.hid hnx
      have HS := Lib.hid (row_any R C k m cap g o wr hlt hC HM.out hcap hcm)
      clear hJs hnx hb q0
      gi_wp2_with fail
      refine ⟨trivial, callsIn_wide.2 (HS.out.mono ?_)⟩
      rintro e w1 ⟨rfl, hb1⟩
      obtain ⟨fn, tmps, assign, body, hy, hR'⟩ := hY _ ⟨k, hlt⟩ w1 (hJ _ _ _ none HJS.out (gr_of_below hb1 none) (fun r e => by cases e)) (by rw [List.length_take, List.length_finRange]; omega)
      have HR := Lib.hid hR'
      have HN2 := Lib.hid (HN.out.call hb1)
      clear hb1 c0 c1 c2 HS hR' HJS HN
      dsimp only [encRow] at hy
      gi_wp2_with fail
      refine HR.out.mono ?_
      rintro e W3 (⟨rfl, hJ3, hk3⟩ | ⟨rfl, hJx3⟩)
      · gi_wp2
        go_roundw
        case rel => exact ⟨k + 1, by omega, by simp, by rw [fin_take hlt]; exact hJ3, HN2.out.trans hk3⟩
        case measure => simp [intOf]; omega
      · gi_wp2
        refine bodyPost_ret (results_none rfl _ _ _) rfl ?_
        exact ⟨⟨_, rfl⟩, .inr ⟨_, by rw [← fin_take hlt]; exact List.take_prefix _ _, hJx3⟩⟩
    · obtain rfl : k = R := by omega
      rw [List.take_of_length_le (by rw [List.length_finRange]; omega)] at hJs
      gi_wp2
      go_end0
      exact ⟨⟨_, rfl⟩, .inl ⟨_, rfl, hJs⟩⟩

theorem rows_stops (n Bm R C m cap g o : Nat) (hn : 1 ≤ n) (hR : R ≤ 1048576) (hC : 1 ≤ C) (hm : R * C = m) (hcap : m ≤ cap) (hcm : cap ≤ 9223372036854775807) (S : Nat → Prop) (hBm : ¬ S Bm) (t : TypeId) (w : World) (hblk : Blk w Bm t #[.int .i64 R, .int .i64 C, .slice (some ⟨g, o, none⟩) m cap]) :
    SeqStopsK Fence.wide n Try.prog 71 #[.pointer (some ⟨Bm, 0, none⟩)] (fun x : Fin R => encRow g o C x.val) (But S) (fun ys => ys = List.finRange R) (fun pre => pre <+: List.finRange R) R w := fun l J Jx W hW hJ _ hY h0 =>
  rows1_in n l Bm R C m cap g o hn hR hC hm hcap hcm S hBm t W (hblk.kept hW) J Jx hY hJ h0

/-- What rows hands back. -/
def RowsRet (w : World) (cs : Array Value) (e : Ending) (w' : World) : Prop :=
  e = .returned (.func (.func 71) #[] #[.pointer (some ⟨w.heap.size, 0, none⟩)]) ∧ Blk w' w.heap.size 51 cs ∧ Below w.heap.size w w'
theorem rows_any (r q : Int) (A : Option Addr) (n c : Nat) (w : World) :
    Calls Try.prog 56 #[.agg #[.int .i64 r, .int .i64 q, .slice A n c]] w (RowsRet w #[.int .i64 r, .int .i64 q, .slice A n c]) := by
  go_enter Try.func56, Try.ntmps56
  go_wp2
  go_ret
  exact ⟨rfl, Blk.new _ _ _, (Below.refl _ _).alloc (Nat.le_refl _) _⟩

end Go.Proofs.Ytnnphileeeaibaa
