/-
  Lemmas and contracts (8 of 44): RedMove, MatZ, MatB, MatRight, MatOf, MatPlain, DrawAll, MatRows, MatDot.
-/
import Derived.WalkKit
import Derived.WalkSpells
import Derived.WalkLawsBesides
import Derived.Lib.Hide
import Derived.Deep.QuietTactic
import Derived.BigQuiet
import Derived.IntWalk
import Derived.Deep.RegionHeld3
import Derived.Maps.AppendAt
import Derived.ProofKit
import Derived.OpenShut
import Derived.Deep.Slices
import Derived.Deep.Fields
import Derived.Laws.OwnMore
import Derived.Deep.Draws
import Derived.Laws.Rows
import Derived.Test.YtkmaeipoaoikpaaGreatProg
import Derived.Laws.EntriesVeiled
import Derived.RangeFuncNested
import Derived.RangeFuncBox
import Derived.RangeFuncLeaves
import Derived.Shelf.Abstract
import Derived.OwnWalkIn
import Derived.TacticsInMore
import Derived.LoopNIn
import Derived.LoopIn
import Derived.StillTail
import Derived.OrdersHeld
import Derived.Laws.Bits64
import Derived.Deep.DeepMust
import Derived.OrdersIn
import Derived.RangeFuncCalls
import Derived.Deep.DeepCutAuto
import Derived.Laws.BitsAllLaws
import Derived.Test.YtkmaeipoaoikpaaGreatShelf
import Derived.SizedLaws
import Derived.Deep.OwnRows
import Derived.Laws.CopyOwn
import Derived.RangeFuncFrom
import Derived.Test.YtkmaeipoaoikpaaGreatEA01
import Derived.Test.YtkmaeipoaoikpaaGreatEA02
import Derived.Test.YtkmaeipoaoikpaaGreatEA03
import Derived.Test.YtkmaeipoaoikpaaGreatEA04
import Derived.Test.YtkmaeipoaoikpaaGreatEA07
namespace Go.Proofs.YtkmaeipoaoikpaaGreat
set_option linter.unusedVariables false
set_option linter.unusedSimpArgs false
set_option maxRecDepth 100000
section
open Go.RowKit
def pcA_RedMove (A : Option Addr) (c e : Nat) : Option Addr := if c = e then A else A.map (·.add (e * 1))
theorem own_cap {w : World} {base n c : Nat} {t : TypeId} {A : Option Addr} {xs : List Value} (h : w.ownsRow base t 1 (.slice A n c) n xs) : n ≤ c := by
  rcases h.2 with ⟨h1, h2⟩ | ⟨g, cap, cur, h1, _, _, h2, _⟩
  · omega
  · injection h1 with _ _ h3
    omega
theorem own_some {w : World} {base n c : Nat} {t : TypeId} {A : Option Addr} {xs : List Value} (h : w.ownsRow base t 1 (.slice A n c) n xs) (h0 : 0 < n) : ∃ g, A = some ⟨g, 0, none⟩ := by
  rcases h.2 with ⟨h1, h2⟩ | ⟨g, cap, cur, h1, _, _, h2, _⟩
  · omega
  · injection h1 with h3
    exact ⟨g, h3⟩
theorem pc_at {w : World} {base n c e k : Nat} {t : TypeId} {A : Option Addr} {xs : List Value} (h : w.ownsRow base t 1 (.slice A n c) n xs) (hk : 0 < k) (he : e + k ≤ n) : ∃ g, A = some ⟨g, 0, none⟩ ∧ pcA_RedMove A c e = some ⟨g, e, none⟩ := by
  obtain ⟨g, rfl⟩ := own_some h (by omega)
  have hc := own_cap h
  refine ⟨g, rfl, ?_⟩
  unfold pcA_RedMove
  rw [if_neg (by omega), Option.map_some]
  congr 1
  unfold Addr.add
  by_cases h0 : e = 0 <;> simp [h0]
theorem pc_rd {w : World} {base n c e k : Nat} {A : Option Addr} {L : List Int} (h : w.ownsRow base 2 1 (.slice A n c) n (iv L)) (hL : L.length = n) (he : e + k ≤ n) : Rd w 1 (pcA_RedMove A c e) k (iv ((L.drop e).take k)) := by
  refine ⟨by simp [iv]; omega, fun h0 => ?_⟩
  obtain ⟨g, hA, hp⟩ := pc_at (e := e) h h0 he
  subst hA
  obtain ⟨b, o, e1, hlt, hcell⟩ := (Rd.of_own h).2 (by omega)
  injection e1 with e1
  injection e1 with e1 e2
  subst e1 e2
  refine ⟨g, e, hp, hlt, fun j u hu => ?_⟩
  rw [iv, List.getElem?_map, List.getElem?_take] at hu
  split at hu
  · rw [List.getElem?_drop] at hu
    have := hcell (e + j) u (by rw [iv, List.getElem?_map]; exact hu)
    rwa [Nat.zero_add] at this
  · cases hu
end
section
open Go.RowKit
variable (A : Option Addr) (N c e k c1 : Nat) (L : List Int) (B : Option Addr) (d : Nat) (ys : List Int) (base : Nat) (w : World)
theorem addP_any_RedMove (hown : w.ownsRow base 2 1 (.slice A N c) N (iv L)) (hL : L.length = N) (hN2 : N ≤ 10000000) (he : e + k ≤ N) (hyl : ys.length = k) (hy : Rd w 1 B k (iv ys))
    (hne : ∀ b o', B = some ⟨b, o', none⟩ → 0 < k → (Value.slice A N c).ownBlock ≠ some b) :
    Calls Tryz.prog 25 #[.slice (pcA_RedMove A c e) k c1, .slice B k d] w fun e' w' => e' = .returned (.bool true) ∧ w'.ownsRow base 2 1 (.slice A N c) N (iv (addAt L e ys k)) ∧ w.grownBy w' (Value.slice A N c).ownBlock := by
  rcases Nat.eq_zero_or_pos k with h0 | h0
  · subst h0
    refine (add_zero (pcA_RedMove A c e) B c1 d w).mono ?_
    rintro e' w' ⟨rfl, rfl⟩
    exact ⟨rfl, by rw [addAt_zero]; exact hown, World.grownBy.refl _ _⟩
  · obtain ⟨g, rfl, hp⟩ := pc_at (e := e) hown h0 he
    refine add_any (pcA_RedMove (some ⟨g, 0, none⟩) c e) B g e k c1 d N c base L ys w (fun _ => hp) he hN2 hL hyl hown hy ?_
    intro b o' hB hk hbg
    exact hne b o' hB hk (by rw [hbg]; rfl)
end
section
open Go.RowKit
theorem wpList_copy_piece {P : Program} {w : World} {ops : Array Oper} {rest : List Oper} {o : Oper} {a : Act} {Q : Exit → Act → World → Prop} (hgd : o.guard = none) (d s : Operand) (dT sT : TypeId)
    (ho : o.op = .call { callee := .builtin .copy, args := #[d, s], argTypes := #[dT, sT] }) (hu : P.underlying dT = some (.slice 2)) (hsz : (P.info? 2).map (·.size) = some 1)
    (A : Option Addr) (N c e k c1 : Nat) (L : List Int) (B : Option Addr) (d1 : Nat) (ys : List Int) (base : Nat)
    (P1 : Option Addr) (hP1 : pcA_RedMove A c e = P1) (hd : a.eval d = .slice P1 k c1) (hs : a.eval s = .slice B k d1)
    (hown : w.ownsRow base 2 1 (.slice A N c) N (iv L)) (hL : L.length = N) (he : e + k ≤ N) (hyl : ys.length = k) (hy : Rd w 1 B k (iv ys))
    (h : ∀ w', w'.ownsRow base 2 1 (.slice A N c) N (iv (L.take e ++ (ys ++ L.drop (e + k)))) → w.grownBy w' (Value.slice A N c).ownBlock → wpList P ops Q rest (a.put o.dst (goInt k)) w') :
    wpList P ops Q (o :: rest) a w := by
  subst hP1
  rcases Nat.eq_zero_or_pos k with h0 | h0
  · subst h0
    have hy0 : ys = [] := List.eq_nil_of_length_eq_zero hyl
    refine wpList_copy_nothing hgd d s dT sT ho 2 hu hsz _ _ 0 c1 0 d1 hd hs rfl (h w ?_ (World.grownBy.refl _ _))
    rw [hy0, List.nil_append, Nat.add_zero, List.take_append_drop]
    exact hown
  · obtain ⟨g, rfl, hp⟩ := pc_at (e := e) hown h0 he
    rw [hp] at hd
    obtain ⟨b, o', rfl, hlt, hcell⟩ := hy.2 h0
    rcases hown.2 with ⟨h1, h2⟩ | ⟨g', cap, cur, h1, hbg, hh, hnc, hcm, hcs, htk⟩
    · omega
    · injection h1 with h1 h3 h4
      injection h1 with h1
      injection h1 with h1
      subst h1 h4
      rw [Nat.mul_one] at hcs htk
      have hcl : cur.toList.length = c := by rw [Array.length_toList]; exact hcs
      have hivl : (iv ys).length = k := by simp [iv, hyl]
      have hgy : w.grownBy (w.setRow g (cur.toList.take e ++ (iv ys ++ cur.toList.drop (e + (iv ys).length))).toArray) (some g) := ⟨rfl, rfl, rfl, by simp, fun k' _ hk => setRow_other w g k' _ (fun e' => hk (by rw [e']))⟩
      have hH := setRow_heap w g cur (cur.toList.take e ++ (iv ys ++ cur.toList.drop (e + (iv ys).length))).toArray 2 (0, 0) hh
      refine wpList_copy_own hgd d s dT sT ho 2 hu hsz g e k c1 ⟨b, o', none⟩ k d1 hd hs cur 2 hh (iv ys) (by rw [hivl]; exact (Nat.min_self k).symm) (fun j v hj => ?_) (by rw [hivl]; omega) (iv_one ys) ?_
      · have := hcell j v hj
        have e1 : (⟨b, o', none⟩ : Addr).add j = ⟨b, o' + j, none⟩ := by unfold Addr.add; by_cases hj0 : j = 0 <;> simp [hj0]
        rw [e1]
        exact this
      · rw [show goInt (iv ys).length = goInt k by rw [hivl]]
        refine h _ ⟨?_, .inr ⟨g, c, _, rfl, hbg, hH, hnc, hcm, ?_, ?_⟩⟩ hgy
        · simp [iv, hyl, hL]; omega
        · simp [hivl, hcs]; omega
        · rw [Nat.mul_one, hivl, List.toList_toArray]
          have hLt : iv L = cur.toList.take N := htk.symm
          have hm : ∀ (l : List Int) (a : Nat), iv (l.take a) = (iv l).take a := fun l a => by simp [iv]
          have hm2 : ∀ (l : List Int) (a : Nat), iv (l.drop a) = (iv l).drop a := fun l a => by simp [iv]
          have hm3 : ∀ (l l' : List Int), iv (l ++ l') = iv l ++ iv l' := fun l l' => by simp [iv]
          rw [hm3, hm3, hm, hm2, hLt, List.take_take, List.drop_take, Nat.min_eq_left (by omega)]
          rw [List.take_append, List.take_of_length_le (by simp; omega), List.take_append, List.take_of_length_le (l := iv ys) (by simp [hivl, hcl]; omega)]
          simp [hivl, hcl]
          rw [Nat.min_eq_left (show e ≤ c by omega), show N - e - k = N - (e + k) by omega]
theorem run_piece {P : Program} {T : TypeId} {A : Option Addr} {n c e e2 k c1 : Nat} {P1 : Option Addr} (hT : P.underlying T = some (.slice (P.elem T))) (hz : ∀ W, (sizeOf (P.elem T)).run P W = .ok 1 W) (he : e ≤ e2) (h2 : e2 ≤ c) (hk : e2 - e = k) (hc : c - e = c1) (hP : pcA_RedMove A c e = P1) (W : World) :
    (Instr.slice T (.slice A n c) (some (.int .i64 e)) (some (.int .i64 e2)) none).run P W = .ok (.slice P1 k c1) W := by
  rw [run_slice_lh W T A n c hT .i64 .i64 e e2 (by omega) (by omega) (by omega), hz]
  subst hk hc hP
  rfl
end
section
open Go.RowKit
abbrev zeros (n : Nat) : List Int := List.replicate n 0
theorem iv_zeros (n : Nat) : (madeCells (Value.int .i64 0).cells (n * 1)).toList = iv (zeros n) := by
  rw [Nat.mul_one]
  exact (toList_madeCells_one _ _).trans (by simp [iv, zeros])
end
section
open Go.RowKit
def GridRet (w : World) (r q n : Nat) (en : Ending) (w' : World) : Prop :=
  ∃ A c, en = .returned (.agg #[.int .i64 r, .int .i64 q, .slice A n c]) ∧ w'.ownsRow w.heap.size 2 1 (.slice A n c) n (iv (zeros n)) ∧ Below w.heap.size w w'
theorem set3 {w : World} {g : Nat} {t : TypeId} {x y z : Value} (h : Blk w g t #[x, y, z]) (a b c : Value) :
    w.grownBy (((w.setCell ⟨g, 0, none⟩ a).setCell ⟨g, 1, none⟩ b).setCell ⟨g, 2, none⟩ c) (some g) ∧ Blk (((w.setCell ⟨g, 0, none⟩ a).setCell ⟨g, 1, none⟩ b).setCell ⟨g, 2, none⟩ c) g t #[a, b, c] :=
  ⟨gr_set (p := ⟨g, 2, none⟩) (gr_set (p := ⟨g, 1, none⟩) (gr_set (p := ⟨g, 0, none⟩) (World.grownBy.refl w _) (.inl rfl) a) (.inl rfl) b) (.inl rfl) c, by simpa using ((h.set_ 0 a).set_ 1 b).set_ 2 c⟩
end
section
open Go.RowKit
def SideP (r q : Int) : Prop := 1 ≤ r ∧ r ≤ 1048576 ∧ 1 ≤ q ∧ q ≤ 1048576
instance (r q : Int) : Decidable (SideP r q) := inferInstanceAs (Decidable (_ ∧ _))
def RightP (r q : Int) (n : Nat) : Prop := SideP r q ∧ (n : Int) = r * q
instance (r q : Int) (n : Nat) : Decidable (RightP r q n) := inferInstanceAs (Decidable (_ ∧ _))
theorem wrap_ok_MatRight (x : Int) (h1 : -9223372036854775808 ≤ x) (h2 : x ≤ 9223372036854775807) : IntKind.i64.wrap x = x := by rw [IntKind.wrap_i64]; omega
theorem side_wrap {r q : Int} (h : SideP r q) : wrap64 (r * q) = r * q := by
  obtain ⟨h1, h2, h3, h4⟩ := h
  have a : 0 ≤ r * q := Int.mul_nonneg (by omega) (by omega)
  have b : r * q ≤ 1048576 * 1048576 := Int.mul_le_mul h2 h4 (by omega) (by omega)
  exact wrap64_id _ (by omega) (by omega)
set_option maxHeartbeats 1000000 in
theorem sides_any (r q : Int) (w : World) :
    Calls Tryz.prog 245 #[.int .i64 r, .int .i64 q] w fun e w' => e = .returned (.bool (decide (SideP r q))) ∧ w = w' := by
  by_cases h1 : 1 ≤ r
  · by_cases h2 : r ≤ 1048576
    · by_cases h3 : 1 ≤ q
      · by_cases h4 : q ≤ 1048576
        · have d1 : decide (r < 1) = false := decide_eq_false (by omega)
          have d2 : decide (1048576 < r) = false := decide_eq_false (by omega)
          have d3 : decide (q < 1) = false := decide_eq_false (by omega)
          have d4 : decide (1048576 < q) = false := decide_eq_false (by omega)
          rw [show decide (SideP r q) = true from decide_eq_true ⟨h1, h2, h3, h4⟩]
          go_enter Tryz.func245, Tryz.ntmps245
          go_wp2
          go_ret
          exact ⟨rfl, rfl⟩
        · have d1 : decide (r < 1) = false := decide_eq_false (by omega)
          have d2 : decide (1048576 < r) = false := decide_eq_false (by omega)
          have d3 : decide (q < 1) = false := decide_eq_false (by omega)
          have d4 : decide (1048576 < q) = true := decide_eq_true (by omega)
          rw [show decide (SideP r q) = false from decide_eq_false (fun h => h4 h.2.2.2)]
          go_enter Tryz.func245, Tryz.ntmps245
          go_wp2
          go_ret
          exact ⟨rfl, rfl⟩
      · have d1 : decide (r < 1) = false := decide_eq_false (by omega)
        have d2 : decide (1048576 < r) = false := decide_eq_false (by omega)
        have d3 : decide (q < 1) = true := decide_eq_true (by omega)
        rw [show decide (SideP r q) = false from decide_eq_false (fun h => h3 h.2.2.1)]
        go_enter Tryz.func245, Tryz.ntmps245
        go_wp2
        go_ret
        exact ⟨rfl, rfl⟩
    · have d1 : decide (r < 1) = false := decide_eq_false (by omega)
      have d2 : decide (1048576 < r) = true := decide_eq_true (by omega)
      rw [show decide (SideP r q) = false from decide_eq_false (fun h => h2 h.2.1)]
      go_enter Tryz.func245, Tryz.ntmps245
      go_wp2
      go_ret
      exact ⟨rfl, rfl⟩
  · have d1 : decide (r < 1) = true := decide_eq_true (by omega)
    rw [show decide (SideP r q) = false from decide_eq_false (fun h => h1 h.1)]
    go_enter Tryz.func245, Tryz.ntmps245
    go_wp2
    go_ret
    exact ⟨rfl, rfl⟩
set_option maxHeartbeats 1000000 in
theorem right_any (r q : Int) (A : Option Addr) (n c : Nat) (w : World) (hn : n ≤ 1000000000) :
    Calls Tryz.prog 202 #[.agg #[.int .i64 r, .int .i64 q, .slice A n c]] w fun e w' => e = .returned (.bool (decide (RightP r q n))) ∧ Below w.heap.size w w' := by
  obtain ⟨b, hb⟩ : ∃ b, decide (SideP r q) = b := ⟨_, rfl⟩
  have C := fun W => sides_any r q W
  rw [hb] at C
  have HC := Lib.hid C
  have HB := Lib.hid hb
  clear C hb
  cases b
  · rw [show decide (RightP r q n) = false from decide_eq_false (fun h => (of_decide_eq_false HB.out) h.1)]
    clear HB
    go_enter Tryz.func202, Tryz.ntmps202
    go_wp2_with fail
    ((with_reducible refine (HC.out _).mono ?_); rintro e w1 ⟨rfl, rfl⟩)
    go_wp2
    go_ret
    exact ⟨rfl, (Below.refl _ _).alloc (Nat.le_refl _) _⟩
  · have hs : SideP r q := of_decide_eq_true HB.out
    have hw := side_wrap hs
    rw [show decide (RightP r q n) = decide ((n : Int) = r * q) from by
      by_cases h : (n : Int) = r * q
      · rw [decide_eq_true h, decide_eq_true (show RightP r q n from ⟨hs, h⟩)]
      · rw [decide_eq_false h, decide_eq_false (show ¬ RightP r q n from fun k => h k.2)]]
    obtain ⟨m, hm⟩ : ∃ m, r * q = m := ⟨_, rfl⟩
    have hw' : wrap64 (r * q) = m := hw.trans hm
    rw [hm]
    clear HB hs hm hw
    go_enter Tryz.func202, Tryz.ntmps202
    go_wp2_with fail
    ((with_reducible refine (HC.out _).mono ?_); rintro e w1 ⟨rfl, rfl⟩)
    go_wp2
    go_ret
    exact ⟨ret_bool (by simp [hw', BEq.beq]), (Below.refl _ _).alloc (Nat.le_refl _) _⟩
set_option maxHeartbeats 1000000 in
theorem row_any (R C k n cap g o : Nat) (w : World) (hk : k < R) (hC : 1 ≤ C) (hn : R * C = n) (hcap : n ≤ cap) (hcm : cap ≤ 9223372036854775807) :
    Calls Tryz.prog 256 #[.agg #[.int .i64 R, .int .i64 C, .slice (some ⟨g, o, none⟩) n cap], .int .i64 k] w fun e w' => e = .returned (.slice (some ⟨g, o + k * C, none⟩) C C) ∧ Below w.heap.size w w' := by
  obtain ⟨p, hp⟩ : ∃ p, k * C = p := ⟨_, rfl⟩
  have hpn : p + C ≤ n := by
    rw [← hp, ← hn]
    calc k * C + C = (k + 1) * C := by rw [Nat.add_mul, Nat.one_mul]
      _ ≤ R * C := Nat.mul_le_mul_right _ hk
  have hkp : k ≤ p := by rw [← hp]; exact Nat.le_mul_of_pos_right _ hC
  have e1 : wrap64 ((k : Int) * (C : Int)) = (p : Int) := by rw [← Int.natCast_mul, hp]; exact wrap64_id _ (by omega) (by omega)
  have e2 : wrap64 (((k : Int) + 1) * (C : Int)) = (p : Int) + (C : Int) := by
    rw [Int.add_mul, Int.one_mul, ← Int.natCast_mul, hp]; exact wrap64_id _ (by omega) (by omega)
  rw [hp]
  clear hp hk hn
  go_enter Tryz.func256, Tryz.ntmps256
  go_wp2_with fail
  go_quiet (fail)
  go_wp2
  go_ret
  rw [show p + C - p = C by omega]
  exact ⟨rfl, below_drewN ((Below.refl _ _).alloc (Nat.le_refl _) _) _⟩
end
section
open Go.RowKit
set_option maxHeartbeats 2000000 in
theorem of_right (r q : Int) (A : Option Addr) (n c : Nat) (l : List Int) (w : World) (hr : RightP r q n) (hn : n ≤ 10000000) (hl : l.length = n) (h : Rd w 1 A n (iv l)) :
    Calls Tryz.prog 145 #[.int .i64 r, .int .i64 q, .slice A n c] w fun e w' => ∃ A' c', e = .returned (.tuple #[.agg #[.int .i64 r, .int .i64 q, .slice A' n c'], .bool true]) ∧ w'.ownsRow w.heap.size 2 1 (.slice A' n c') n (iv l) ∧ Below w.heap.size w w' := by
  obtain ⟨W0, hW0⟩ : ∃ W0, w.alloc (.cells #[.int .i64 0, .int .i64 0, .slice none 0 0] 271) = W0 := ⟨_, rfl⟩
  have k0 : Below w.heap.size w W0 := by rw [← hW0]; exact (Below.refl _ _).alloc (Nat.le_refl _) _
  have b0 : Blk W0 w.heap.size 271 #[.int .i64 0, .int .i64 0, .slice none 0 0] := by rw [← hW0]; exact Blk.new _ _ _
  have C2 := fun A c W => right_any r q A n c W (by omega)
  rw [show decide (RightP r q n) = true from decide_eq_true hr] at C2
  have HC1 := Lib.hid (vecClone_any A n c l W0 hl (h.below k0) hn)
  have HC2 := Lib.hid C2
  have HW := Lib.hid hW0
  have HB0 := Lib.hid b0
  have HK := Lib.hid k0
  clear hW0 b0 k0 C2 h hl hr
  go_enter Tryz.func145, Tryz.ntmps145
  go_wp2_with fail
  rw [HW.out]
  ((with_reducible refine HC1.out.mono ?_); rintro e w1 ⟨A', c', rfl, hown, hb1⟩)
  obtain ⟨W2, hW2⟩ : ∃ W2, w1.alloc (.cells #[.int .i64 r, .int .i64 q, .slice A' n c'] 271) = W2 := ⟨_, rfl⟩
  have k2 : Below w1.heap.size w1 W2 := by rw [← hW2]; exact (Below.refl _ _).alloc (Nat.le_refl _) _
  have o2 : Blk W2 w1.heap.size 271 #[.int .i64 r, .int .i64 q, .slice A' n c'] := by rw [← hW2]; exact Blk.new _ _ _
  have HB2 := Lib.hid ((HB0.out.kept hb1).kept k2)
  have HO2 := Lib.hid o2
  have HOW := Lib.hid (own_below hown k2)
  have KK := Lib.hid (((Kept.of HK.out).call hb1).call k2).2.2
  have HW2 := Lib.hid hW2
  clear hW2 k2 o2 hown hb1
  go_wp2_with fail
  rw [HW2.out]
  ((with_reducible refine (HC2.out _ _ _).mono ?_); rintro e w3 ⟨rfl, hb3⟩)
  have m2 := HO2.out.kept hb3
  have m0 := HB2.out.kept hb3
  have y0 : w3.cell? ⟨w1.heap.size, 0, none⟩ = some (.int .i64 r) := m2.cell 0
  have y1 : w3.cell? ⟨w1.heap.size, 1, none⟩ = some (.int .i64 q) := m2.cell 1
  have y2 : w3.cell? ⟨w1.heap.size, 2, none⟩ = some (.slice A' n c') := m2.cell 2
  have ly := m2.lt
  have x0 : w3.cell? ⟨w.heap.size, 0, none⟩ = some (.int .i64 0) := m0.cell 0
  have x1 : w3.cell? ⟨w.heap.size, 1, none⟩ = some (.int .i64 0) := m0.cell 1
  have x2 : w3.cell? ⟨w.heap.size, 2, none⟩ = some (.slice none 0 0) := m0.cell 2
  have f0 := m0.frozen 0
  have f1 := m0.frozen 1
  have f2 := m0.frozen 2
  have lx := m0.lt
  have HM0 := Lib.hid m0
  have HO3 := Lib.hid (own_below HOW.out hb3)
  have K3 := Lib.hid ((Kept.of KK.out).call hb3).2.2
  clear m2 m0 hb3 HW HW2
  go_wp2_with fail
  have hst := set3 HM0.out (.int .i64 r) (.int .i64 q) (.slice A' n c')
  have hz := HK.out.size
  exact bodyPost_ret (v := .tuple #[.agg #[.int .i64 r, .int .i64 q, .slice A' n c'], .bool true]) (by simp [results, Tryz.results145, go_sem, x0, x1, x2, lx]) rfl ⟨_, _, rfl, own_base (HO3.out.kept hst.1 (.inr (own_blk_ne HO3.out HM0.out (by decide)))) hz, below_gr K3.out K3.out.size hst.1 (Nat.le_refl _)⟩
end
section
open Go.RowKit
def natL (n : Nat) (F : Nat → Int) : List Int := (List.range n).map F
def fillL (n : Nat) (F : Nat → Int) (k : Nat) : List Int := natL n fun i => if i < k then F i else 0
theorem natL_length (n : Nat) (F : Nat → Int) : (natL n F).length = n := by simp [natL]
theorem natL_get (n : Nat) (F : Nat → Int) (i : Nat) (h : i < n) : (natL n F)[i]? = some (F i) := by simp [natL, h]
theorem natL_congr {n : Nat} {F G : Nat → Int} (h : ∀ i, i < n → F i = G i) : natL n F = natL n G := by
  unfold natL
  exact List.map_congr_left (fun i hi => h i (List.mem_range.1 hi))
theorem fillL_zero (n : Nat) (F : Nat → Int) : fillL n F 0 = zeros n := by
  unfold fillL natL zeros
  apply List.ext_getElem?
  intro i
  by_cases h : i < n <;> simp [h, List.getElem?_replicate]
def outF (y x : List Int) (q : Int) (i : Nat) : Int := mulQ (y.getD (i / x.length) 0) (x.getD (i % x.length) 0) q
def outN (y x : List Int) (q : Int) : List Int := natL (y.length * x.length) (outF y x q)
def turnF (l : List Int) (r c i : Nat) : Int := l.getD (i % r * c + i / r) 0
def turnN (l : List Int) (r c : Nat) : List Int := natL (c * r) (turnF l r c)
theorem row_div (r c C : Nat) (h : c < C) : (r * C + c) / C = r := by
  rw [Nat.mul_comm, Nat.mul_add_div (by omega), Nat.div_eq_of_lt h, Nat.add_zero]
theorem row_mod (r c C : Nat) (h : c < C) : (r * C + c) % C = c := by
  rw [Nat.mul_comm, Nat.mul_add_mod, Nat.mod_eq_of_lt h]
theorem row_lt (r c R C : Nat) (hr : r < R) (h : c < C) : r * C + c < R * C := by
  calc r * C + c < r * C + C := by omega
    _ = (r + 1) * C := by rw [Nat.add_mul, Nat.one_mul]
    _ ≤ R * C := Nat.mul_le_mul_right _ hr
end
section
open Go.RowKit Go.Shelf
attribute [local go_sem] Oper.semAt_some
theorem fin_take {R k : Nat} (h : k < R) : (List.finRange R).take (k + 1) = (List.finRange R).take k ++ [⟨k, h⟩] := by
  rw [List.take_succ_eq_append_getElem (by rw [List.length_finRange]; exact h), List.getElem_finRange]
  rfl
end
section
open Go.RowKit Go.Shelf
attribute [local go_sem] Oper.semAt_some
def encRow (g o C k : Nat) : Array Value := #[.int .i64 k, .slice (some ⟨g, o + k * C, none⟩) C C]
theorem fin_map (R : Nat) (F : Nat → Int) : (List.finRange R).map (fun x => F x.val) = natL R F := by
  apply List.ext_getElem?
  intro i
  by_cases h : i < R
  · rw [natL_get _ _ _ h, List.getElem?_map, List.getElem?_eq_getElem (by rw [List.length_finRange]; exact h), List.getElem_finRange]
    rfl
  · rw [List.getElem?_eq_none (by rw [List.length_map, List.length_finRange]; omega), List.getElem?_eq_none (by rw [natL_length]; omega)]
set_option maxHeartbeats 2000000 in
theorem rows1_in (n ly Bm R C m cap g o : Nat) (hn : 1 ≤ n) (hR : R ≤ 1048576) (hC : 1 ≤ C) (hm : R * C = m) (hcap : m ≤ cap) (hcm : cap ≤ 9223372036854775807) (S : Nat → Prop) (hBm : ¬ S Bm) (t : TypeId) (W : World) (hblk : Blk W Bm t #[.int .i64 R, .int .i64 C, .slice (some ⟨g, o, none⟩) m cap]) (J Jx : List (Fin R) → World → Prop)
    (hY : ∀ pre x W, J pre W → pre.length < R → YieldAt Fence.wide (n - 1) Tryz.prog ly (encRow g o C x.val) W fun e W' =>
      (e = .returned (.bool true) ∧ J (pre ++ [x]) W' ∧ But S W W') ∨ (e = .returned (.bool false) ∧ Jx (pre ++ [x]) W'))
    (hJ : AbidesFrom W.heap.size J) (h0 : J [] W) :
    CallsIn Fence.wide n Tryz.prog 255 #[.func (.yield ly) #[] #[], .pointer (some ⟨Bm, 0, none⟩)] W fun e W' => (∃ v, e = .returned v) ∧
      ((∃ ys, ys = List.finRange R ∧ J ys W') ∨ (∃ pre, pre <+: List.finRange R ∧ Jx pre W')) := by
  have HB := Lib.hid hblk
  have q0 : W.cell? ⟨Bm, 0, none⟩ = some (.int .i64 R) := hblk.cell 0
  have lt0 := hblk.lt
  have HM := Lib.hid hm
  clear hblk hm
  refine callsIn_of_wp Tryz.func255 rfl trivial ?_ rfl
  simp only [Tryz.ntmps255, List.size_toArray, List.length_cons, List.length_nil, Nat.reduceAdd, Nat.reduceSub, Array.replicate_succ, Array.replicate_zero, List.push_toArray, List.append_toArray, List.nil_append, List.cons_append]
  gi_wp2_with fail
  gi_loopw [6] (fun i wr => ∃ k : Nat, k ≤ R ∧ i = .int .i64 k ∧ J ((List.finRange R).take k) wr ∧ But S W wr)
    (fun i _ => R - (intOf i).toNat)
  case atStart => exact ⟨0, Nat.zero_le _, rfl, by simpa using h0, But.refl _ _⟩
  case round =>
    obtain ⟨k, hk, rfl, hJs, hnx⟩ := hrel
    by_cases hlt : k < R
    · have hb := HB.out.but hnx hBm
      have c0 : wr.cell? ⟨Bm, 0, none⟩ = some (.int .i64 R) := hb.cell 0
      have c1 : wr.cell? ⟨Bm, 1, none⟩ = some (.int .i64 C) := hb.cell 1
      have c2 : wr.cell? ⟨Bm, 2, none⟩ = some (.slice (some ⟨g, o, none⟩) m cap) := hb.cell 2
      have ltw := hb.lt
      have hws : W.heap.size ≤ wr.heap.size := hnx.size
      have HJS := Lib.hid hJs
      have HN := Lib.hid hnx
      have HS := Lib.hid (row_any R C k m cap g o wr hlt hC HM.out hcap hcm)
      clear hJs hnx hb q0
      gi_wp2_with fail
      refine ⟨trivial, callsIn_wide.2 (HS.out.mono ?_)⟩
      rintro e w1 ⟨rfl, hb1⟩
      obtain ⟨fn, tmps, assign, body, hy, hR'⟩ := hY _ ⟨k, hlt⟩ w1 (hJ _ _ _ none HJS.out (gr_of_below hb1 none) (fun r e => by cases e)) (by rw [List.length_take, List.length_finRange]; omega)
      have HR := Lib.hid hR'
      have HN2 := Lib.hid (HN.out.call hb1)
      clear hb1 c0 c1 c2 HS hR' HJS HN
      dsimp only [encRow] at hy
      gi_wp2_with fail
      refine HR.out.mono ?_
      rintro e W3 (⟨rfl, hJ3, hk3⟩ | ⟨rfl, hJx3⟩)
      · gi_wp2
        go_roundw
        case rel => exact ⟨k + 1, by omega, by simp, by rw [fin_take hlt]; exact hJ3, HN2.out.trans hk3⟩
        case measure => simp [intOf]; omega
      · gi_wp2
        refine bodyPost_ret (results_none rfl _ _ _) rfl ?_
        exact ⟨⟨_, rfl⟩, .inr ⟨_, by rw [← fin_take hlt]; exact List.take_prefix _ _, hJx3⟩⟩
    · obtain rfl : k = R := by omega
      rw [List.take_of_length_le (by rw [List.length_finRange]; omega)] at hJs
      gi_wp2
      go_end0
      exact ⟨⟨_, rfl⟩, .inl ⟨_, rfl, hJs⟩⟩
theorem rows_stops (n Bm R C m cap g o : Nat) (hn : 1 ≤ n) (hR : R ≤ 1048576) (hC : 1 ≤ C) (hm : R * C = m) (hcap : m ≤ cap) (hcm : cap ≤ 9223372036854775807) (S : Nat → Prop) (hBm : ¬ S Bm) (t : TypeId) (w : World) (hblk : Blk w Bm t #[.int .i64 R, .int .i64 C, .slice (some ⟨g, o, none⟩) m cap]) :
    SeqStopsK Fence.wide n Tryz.prog 255 #[.pointer (some ⟨Bm, 0, none⟩)] (fun x : Fin R => encRow g o C x.val) (But S) (fun ys => ys = List.finRange R) (fun pre => pre <+: List.finRange R) R w := fun l J Jx W hW hJ _ hY h0 =>
  rows1_in n l Bm R C m cap g o hn hR hC hm hcap hcm S hBm t W (hblk.kept hW) J Jx hY hJ h0
def RowsRet (w : World) (cs : Array Value) (e : Ending) (w' : World) : Prop :=
  e = .returned (.func (.func 255) #[] #[.pointer (some ⟨w.heap.size, 0, none⟩)]) ∧ Blk w' w.heap.size 271 cs ∧ Below w.heap.size w w'
theorem rows_any (r q : Int) (A : Option Addr) (n c : Nat) (w : World) :
    Calls Tryz.prog 219 #[.agg #[.int .i64 r, .int .i64 q, .slice A n c]] w (RowsRet w #[.int .i64 r, .int .i64 q, .slice A n c]) := by
  go_enter Tryz.func219, Tryz.ntmps219
  go_wp2
  go_ret
  exact ⟨rfl, Blk.new _ _ _, (Below.refl _ _).alloc (Nat.le_refl _) _⟩
end
section
open Go.RowKit
def dotF (q : Int) : List Int → List Int → Int → Int
  | x :: a, y :: b, s => dotF q a b (wrap64 (s + mulQ x y q))
  | _, _, s => s
def dotL (q : Int) (a b : List Int) : Int := dotF q a b 0
theorem dot_on {q : Int} {a b : List Int} {k : Nat} {x y s v : Int} (hv : Hid (v = dotF q (a.drop k) (b.drop k) s)) (ha : Hid (a[k]? = some x)) (hb : Hid (b[k]? = some y)) : Hid (v = dotF q (a.drop (k + 1)) (b.drop (k + 1)) (wrap64 (s + mulQ x y q))) := by
  obtain ⟨h1, e1⟩ := List.getElem?_eq_some_iff.1 ha.out
  obtain ⟨h2, e2⟩ := List.getElem?_eq_some_iff.1 hb.out
  refine Lib.hid ?_
  rw [hv.out, List.drop_eq_getElem_cons h1, List.drop_eq_getElem_cons h2, e1, e2]
  rfl
theorem dot_end {q : Int} {a b : List Int} {k n : Nat} {s v : Int} (hv : Hid (v = dotF q (a.drop k) (b.drop k) s)) (ha : Hid (a.length = n)) (h1 : n ≤ k) : s = v := by
  rw [hv.out, List.drop_eq_nil_of_le (by have := ha.out; omega)]
  simp only [dotF]
set_option maxHeartbeats 1000000 in
theorem dot_any (A B : Option Addr) (n c d : Nat) (q : Int) (a b : List Int) (w : World) (hn : n ≤ 10000000) (ha : a.length = n) (hb : b.length = n) (h : Rd w 1 A n (iv a)) (h' : Rd w 1 B n (iv b)) (hx : ∀ x ∈ a, In1 x) (hx' : ∀ x ∈ b, In1 x) :
    Calls Tryz.prog 147 #[.slice A n c, .slice B n d, .int .i64 q] w fun e w' => e = .returned (.tuple #[.int .i64 (dotL q a b), .bool true]) ∧ Below w.heap.size w w' := by
  have HA := Lib.hid ha
  have HB := Lib.hid hb
  have HR := Lib.hid h
  have HR' := Lib.hid h'
  have HX := Lib.hid (And.intro hx hx')
  clear ha hb h h' hx hx'
  go_enter Tryz.func147, Tryz.ntmps147
  go_wp2_with fail
  go_loopw [8, 18] (fun v i wr => ∃ (k : Nat) (s : Int), k ≤ n ∧ i = .int .i64 k ∧ v = .int .i64 s ∧ Below w.heap.size w wr ∧ Hid (dotL q a b = dotF q (a.drop k) (b.drop k) s)) (fun _ i _ => n - (intOf i).toNat)
  case atStart => exact ⟨0, 0, by omega, rfl, rfl, Below.refl _ _, Lib.hid rfl⟩
  case round =>
    obtain ⟨k, s, hk, rfl, rfl, hb, he⟩ := hrel
    by_cases hlt : k < n
    · obtain ⟨g, o, x, rfl, hbl, hx, c1⟩ := iv_at HA.out (HR.out.below hb) hlt
      obtain ⟨g', o', y, rfl, hbl', hy, c2⟩ := iv_at HB.out (HR'.out.below hb) hlt
      have HXk := Lib.hid hx
      have HYk := Lib.hid hy
      have bx := Lib.hid (HX.out.1 x (List.mem_of_getElem? hx))
      have by_ := Lib.hid (HX.out.2 y (List.mem_of_getElem? hy))
      clear hx hy
      go_wp2_with fail
      ((with_reducible refine (mulQ_any x y q _ bx.out by_.out).mono ?_); rintro e w2 ⟨rfl, hb2⟩)
      have hb2' := hb.trans (hb2.mono hb.size)
      clear hb2
      go_wp2
      go_roundw
      case rel => exact ⟨k + 1, _, by omega, by go_num, rfl, hb2', dot_on he HXk HYk⟩
      case measure => simp [intOf]; omega
    · go_wp2
      go_ret2
      exact ⟨ret_pair (congrArg (Value.int .i64) (dot_end he HA (by omega))), hb⟩
end
end Go.Proofs.YtkmaeipoaoikpaaGreat
