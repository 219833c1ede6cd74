/-
  All of a stream.
-/
import Derived.Test.YtncjfijpaheobaaRangeM
import Derived.Test.YtncjfijpaheobaaDrawKeeps2
import Derived.TacticsInMore
import Derived.LoopIn
import Derived.LoopNIn
import Derived.OwnWalkIn
namespace Go.Proofs.Ytncjfijpaheobaa
set_option linter.unusedVariables false
set_option linter.unusedSimpArgs false
set_option maxRecDepth 100000
open Go.RowKit Go.Shelf

attribute [local go_sem] Oper.semAt_some

theorem fin_take {R k : Nat} (h : k < R) : (List.finRange R).take (k + 1) = (List.finRange R).take k ++ [⟨k, h⟩] := by
  rw [List.take_succ_eq_append_getElem (by rw [List.length_finRange]; exact h), List.getElem_finRange]
  rfl

/-- What comes with the number of a draw. -/
def encU (L : List Int) (k i : Nat) : Array Value := #[.int .i64 ((k + i : Nat) : Int), .int .u64 (L.getD (k + i) 0)]

set_option maxHeartbeats 2000000 in
theorem all_in (nF yl b n cap k M : Nat) (A : Option Addr) (L : List Int) (hnF : 1 ≤ nF) (hM : k + M = n) (hn : n ≤ 300) (hcap : n ≤ cap) (hcm : cap ≤ 9223372036854775807) (S : Nat → Prop) (hSb : ¬ S b) (W : World) (hst : Stm W b A n cap k L) (hSA : ∀ b' o, A = some ⟨b', o, none⟩ → 0 < n → ¬ S b') (J Jx : List (Fin M) → World → Prop)
    (hY : ∀ pre x W1, J pre W1 → pre.length < M → x.val = pre.length → YieldAt Fence.wide (nF - 1) Try.prog yl (encU L k x.val) W1 fun e W' =>
      (e = .returned (.bool true) ∧ J (pre ++ [x]) W' ∧ But S W1 W') ∨ (e = .returned (.bool false) ∧ Jx (pre ++ [x]) W'))
    (hJ : AbidesFrom W.heap.size J) (h0 : J [] W) :
    CallsIn Fence.wide nF Try.prog 21 #[.pointer (some ⟨b, 0, none⟩), .func (.yield yl) #[] #[]] W fun e W' => (∃ v, e = .returned v) ∧
      ((∃ ys, ys = List.finRange M ∧ J ys W') ∨ (∃ pre, pre <+: List.finRange M ∧ Jx pre W')) := by
  have HST := Lib.hid hst
  have c0 : W.cell? ⟨b, 0, none⟩ = some (.slice A n cap) := hst.blk.cell 0
  have c1 : W.cell? ⟨b, 1, none⟩ = some (.int .i64 k) := hst.blk.cell 1
  have lb := hst.blk.lt
  have i0 : (0 : Int) ≤ (k : Int) := by omega
  have i1 : (k : Int) ≤ (n : Int) := by omega
  have hMn : n - k = M := by omega
  clear hst
  refine callsIn_of_wp Try.func21 rfl trivial ?_ rfl
  simp only [Try.ntmps21, List.size_toArray, List.length_cons, List.length_nil, Nat.reduceAdd, Nat.reduceSub, Array.replicate_succ, Array.replicate_zero, List.push_toArray, List.append_toArray, List.nil_append, List.cons_append]
  have hJd : J [] W.drew := hJ _ _ _ none h0 ⟨rfl, rfl, rfl, Nat.le_refl _, fun _ _ _ => rfl⟩ (fun r e => by cases e)
  rcases Nat.eq_zero_or_pos M with hM0 | hM0
  · subst hM0
    have hnk : n = k := by omega
    subst hnk
    cases A with
    | none =>
      have hn0 : n = 0 := by
        rcases Nat.eq_zero_or_pos n with h | h
        · exact h
        · obtain ⟨_, _, h, _⟩ := HST.out.rd.2 h; cases h
      subst hn0
      gi_wp2_with fail
      gi_region
      all_goals gi_wp2_with fail
      all_goals gi_loopw [19] (fun i wr => i = .int .i64 0 ∧ J [] wr) (fun _ _ => 0)
      all_goals first
        | exact ⟨rfl, hJd⟩
        | (obtain ⟨rfl, hJs⟩ := hrel; gi_wp2; go_end0; exact ⟨⟨_, rfl⟩, .inl ⟨_, rfl, hJs⟩⟩)
    | some ad =>
      gi_wp2_with fail
      gi_region
      all_goals gi_wp2_with fail
      all_goals gi_loopw [19] (fun i wr => i = .int .i64 0 ∧ J [] wr) (fun _ _ => 0)
      all_goals first
        | exact ⟨rfl, hJd⟩
        | (obtain ⟨rfl, hJs⟩ := hrel; gi_wp2; go_end0; exact ⟨⟨_, rfl⟩, .inl ⟨_, rfl, hJs⟩⟩)
  · obtain ⟨g, o, rfl, hg, hcc⟩ := HST.out.rd.2 (by omega)
    have hck : ¬ cap = k := by omega
    have hSg := hSA g o rfl (by omega)
    clear hcc hSA
    gi_wp2_with fail
    gi_region
    all_goals gi_wp2_with fail
    gi_loopw [19] (fun i wr => ∃ j : Nat, j ≤ M ∧ i = .int .i64 j ∧ J ((List.finRange M).take j) wr ∧ But S W wr) (fun i _ => M - (intOf i).toNat)
    case atStart => exact ⟨0, Nat.zero_le _, rfl, by simpa using hJd, But.of_below S (Below.refl _ _).drew⟩
    case round =>
      obtain ⟨j, hj, rfl, hJs, hnx⟩ := hrel
      by_cases hlt : j < M
      · have hb := HST.out.blk.but hnx hSb
        have a1 : wr.cell? ⟨b, 1, none⟩ = some (.int .i64 k) := hb.cell 1
        have lb' := hb.lt
        obtain ⟨g', o', x, e1, hgl, hx, cx⟩ := uv_at HST.out.len (HST.out.rd.but hnx (fun b' o' e h => by cases e; exact hSg)) (show k + j < n by omega)
        cases e1
        rw [← Nat.add_assoc] at cx
        have hxd : L.getD (k + j) 0 = x := by rw [List.getD_eq_getElem?_getD, hx]; rfl
        have HJS := Lib.hid hJs
        have HN := Lib.hid hnx
        have HXD := Lib.hid hxd
        have q0 : (0 : Int) ≤ (j : Int) := by omega
        have q1 : (j : Int) < (M : Int) := by omega
        obtain ⟨fn, tmps, assign, body, hy, hR'⟩ := hY _ ⟨j, hlt⟩ wr HJS.out (by rw [List.length_take, List.length_finRange]; omega) (by rw [List.length_take, List.length_finRange]; show j = _; omega)
        have HR := Lib.hid hR'
        clear hJs hnx hb hx hxd hR'
        dsimp only [encU] at hy
        rw [HXD.out, Int.natCast_add] at hy
        gi_wp2_with fail
        refine HR.out.mono ?_
        rintro e W3 (⟨rfl, hJ3, hk3⟩ | ⟨rfl, hJx3⟩)
        · gi_wp2
          go_roundw
          case rel => exact ⟨j + 1, by omega, by simp, by rw [fin_take hlt]; exact hJ3, HN.out.trans hk3⟩
          case measure => simp [intOf]; omega
        · gi_wp2
          refine bodyPost_ret (results_none rfl _ _ _) rfl ?_
          exact ⟨⟨_, rfl⟩, .inr ⟨_, by rw [← fin_take hlt]; exact List.take_prefix _ _, hJx3⟩⟩
      · obtain rfl : j = M := by omega
        rw [List.take_of_length_le (by rw [List.length_finRange]; omega)] at hJs
        gi_wp2
        go_end0
        exact ⟨⟨_, rfl⟩, .inl ⟨_, rfl, hJs⟩⟩

theorem all_stops (nF b n cap k M : Nat) (A : Option Addr) (L : List Int) (hnF : 1 ≤ nF) (hM : k + M = n) (hn : n ≤ 300) (hcap : n ≤ cap) (hcm : cap ≤ 9223372036854775807) (S : Nat → Prop) (hSb : ¬ S b) (w : World) (hst : Stm w b A n cap k L) (hSA : ∀ b' o, A = some ⟨b', o, none⟩ → 0 < n → ¬ S b') :
    SeqM Fence.wide nF Try.prog 21 (.pointer (some ⟨b, 0, none⟩)) (fun x : Fin M => encU L k x.val) (But S) (fun pre x => x.val = pre.length) (fun ys => ys = List.finRange M) (fun pre => pre <+: List.finRange M) M w := fun l J Jx W hW hJ hY h0 =>
  all_in nF l b n cap k M A L hnF hM hn hcap hcm S hSb W (hst.kept hW) hSA J Jx hY hJ h0

/-- As drawNew_any; the capacity beside. -/
theorem drawNew_cap (A : Option Addr) (n cap : Nat) (l : List Int) (w : World) (hl : l.length = n) (h : Rd w 1 A n (uv l)) (hn : n * 8 ≤ 140737488351232) (hu : InU l) :
    Calls Try.prog 15 #[.slice A n cap] w fun en w' => ∃ g A cap, en = .returned (.pointer (some ⟨g, 0, none⟩)) ∧ Stm w' g A n cap 0 l ∧ w.heap.size ≤ g ∧ (∀ b o, A = some ⟨b, o, none⟩ → w.heap.size ≤ b) ∧ (n ≤ cap ∧ cap ≤ 9223372036854775807) ∧ Below w.heap.size w w' := by
  have HR := Lib.hid h
  have HL := Lib.hid hl
  have HU := Lib.hid hu
  clear h hl hu
  go_enter Try.func15, Try.ntmps15
  go_wp2_with fail
  ((with_reducible refine (cloneU_any A n cap l _ HL.out HR.out (by omega)).mono ?_); rintro e w1 ⟨A', cap', rfl, hown, hb1⟩)
  have HO := Lib.hid hown
  clear hown
  go_wp2
  go_ret
  obtain ⟨_, _, q1, q2, q3, _⟩ := own_form HO.out
  injection q1 with q4 q5 q6
  subst q4 q6
  refine ⟨w1.heap.size, _, _, rfl, ⟨Blk.new _ _ _, HL.out, Nat.zero_le _, (Rd.of_own HO.out).alloc _, fun b' o e _ => ?_, HU.out⟩, hb1.size, fun b o e => (own_rd_block HO.out b o e).1, ⟨q2, by unfold maxLen at q3; omega⟩, hb1.alloc hb1.size _⟩
  have := (own_rd_block HO.out b' o e).2
  omega

end Go.Proofs.Ytncjfijpaheobaa
