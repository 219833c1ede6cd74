/-
  Contracts of package part, of its reference and of the statements' own small functions.
-/
import Derived.Test.YtmnmjjackffnjaaProg
import Derived.Test.YtmnmjjackffnjaaOpen
import Derived.Test.YtmnmjjackffnjaaPartPlain
namespace Go.Proofs.Ytmnmjjackffnjaa
set_option linter.unusedVariables false
set_option linter.unusedSimpArgs false
open Go.RowKit

theorem ofFrom_step (i : Int) (l : List (Int × Int)) (k : Nat) (x y : Int) (j : Int) (h : l[k]? = some (x, y)) : ofFrom i (l.drop k) j = if x ≤ i ∧ i < y then j else ofFrom i (l.drop (k + 1)) (j + 1) := by
  obtain ⟨hk, h⟩ := List.getElem?_eq_some_iff.1 h
  rw [List.drop_eq_getElem_cons hk, h]
  rfl
theorem ofFrom_end (i : Int) (l : List (Int × Int)) (k : Nat) (j : Int) (hk : l.length ≤ k) : ofFrom i (l.drop k) j = -1 := by
  rw [List.drop_eq_nil_of_le hk]
  rfl
theorem of_hit {i : Int} {l : List (Int × Int)} {k : Nat} {x y v : Int} (hv : Hid (v = ofFrom i (l.drop k) k)) (h : Hid (l[k]? = some (x, y))) (h1 : x ≤ i) (h2 : i < y) : (k : Int) = v := by
  rw [hv.out, ofFrom_step i l k x y k h.out, if_pos ⟨h1, h2⟩]
theorem of_miss {i : Int} {l : List (Int × Int)} {k : Nat} {x y v : Int} (hv : Hid (v = ofFrom i (l.drop k) k)) (h : Hid (l[k]? = some (x, y))) (h1 : ¬ (x ≤ i ∧ i < y)) : Hid (v = ofFrom i (l.drop (k + 1)) ((k + 1 : Nat) : Int)) := by
  refine Lib.hid ?_
  rw [hv.out, ofFrom_step i l k x y k h.out, if_neg h1]
  rfl
theorem of_none {i : Int} {l : List (Int × Int)} {k n : Nat} {v : Int} (hv : Hid (v = ofFrom i (l.drop k) k)) (h : Hid (l.length = n)) (h1 : ¬ k < n) : -1 = v := by
  rw [hv.out, ofFrom_end i l k k (by have := h.out; omega)]
/-- The two cells of a range in a slice. -/
theorem rd_at {w : World} {A : Option Addr} {n k : Nat} {l : List (Int × Int)} (hl : l.length = n) (h : Rd w 2 A n (rv l)) (hk : k < n) : ∃ b o x y, A = some ⟨b, o, none⟩ ∧ b < w.heap.size ∧ l[k]? = some (x, y) ∧
    w.cell? ⟨b, o + k * 2, none⟩ = some (.int .i64 x) ∧ w.cell? ⟨b, o + k * 2 + 1, none⟩ = some (.int .i64 y) := by
  obtain ⟨b, o, e, hb, hc⟩ := h.2 (by omega)
  have hk' : k < l.length := by omega
  obtain ⟨h1, h2⟩ := rv_get l k hk'
  exact ⟨b, o, l[k].1, l[k].2, e, hb, List.getElem?_eq_getElem hk', hc _ _ h1, by rw [Nat.add_assoc]; exact hc _ _ h2⟩

set_option maxHeartbeats 400000 in
theorem of_any (i : Int) (A : Option Addr) (n cap : Nat) (l : List (Int × Int)) (w : World) (hl : l.length = n) (h : Rd w 2 A n (rv l)) (hn : n ≤ 1000000) :
    Calls Try.prog 24 #[.int .i64 i, .slice A n cap] w fun e w' => e = .returned (.int .i64 (ofL i l)) ∧ Below w.heap.size w w' := by
  have HL := Lib.hid hl
  have HR := Lib.hid h
  clear hl h
  go_enter Try.func24, Try.ntmps24
  go_wp2_with fail
  go_loopw [9] (fun c wr => ∃ k : Nat, k ≤ n ∧ c = .int .i64 k ∧ Below w.heap.size w wr ∧ Hid (ofL i l = ofFrom i (l.drop k) k)) (fun c _ => n - (intOf c).toNat)
  case atStart => exact ⟨0, by omega, rfl, Below.refl _ _, Lib.hid rfl⟩
  case round =>
    obtain ⟨k, hk, rfl, hb, he⟩ := hrel
    by_cases hlt : k < n
    · obtain ⟨b, o, x, y, rfl, hbl, hx, c1, c2⟩ := rd_at HL.out (HR.out.below hb) hlt
      have HX := Lib.hid hx
      clear hx
      go_wp2
      · go_ret
        exact ⟨ret_int (of_hit he HX ‹_› ‹_›), hb.alloc hb.size _⟩
      all_goals
        go_roundw
        case rel => exact ⟨k + 1, by omega, by go_num, hb.alloc hb.size _, of_miss he HX (by omega)⟩
        case measure => simp [intOf]; omega
    · go_wp2
      go_ret
      exact ⟨ret_int (of_none he HL hlt), hb⟩

set_option maxHeartbeats 400000 in
theorem refOf_any (i : Int) (A : Option Addr) (n cap : Nat) (l : List (Int × Int)) (w : World) (hl : l.length = n) (h : Rd w 2 A n (rv l)) (hn : n ≤ 1000000) :
    Calls Try.prog 26 #[.int .i64 i, .slice A n cap] w fun e w' => e = .returned (.int .i64 (ofL i l)) ∧ Below w.heap.size w w' := by
  have HL := Lib.hid hl
  have HR := Lib.hid h
  clear hl h
  go_enter Try.func26, Try.ntmps26
  go_wp2_with fail
  go_loop [5] (fun c => ∃ k : Nat, k ≤ n ∧ c = .int .i64 k ∧ Hid (ofL i l = ofFrom i (l.drop k) k)) (fun c => n - (intOf c).toNat)
  case atStart => exact ⟨0, by omega, rfl, Lib.hid rfl⟩
  case round =>
    obtain ⟨k, hk, rfl, he⟩ := hrel
    by_cases hlt : k < n
    · obtain ⟨b, o, x, y, rfl, hbl, hx, c1, c2⟩ := rd_at HL.out HR.out hlt
      have HX := Lib.hid hx
      clear hx
      go_wp2
      · go_ret
        exact ⟨ret_int (of_hit he HX ‹_› ‹_›), Below.refl _ _⟩
      all_goals
        go_round
        case rel => exact ⟨k + 1, by omega, by go_num, of_miss he HX (by omega)⟩
        case measure => simp [intOf]; omega
    · go_wp2
      go_ret
      exact ⟨ret_int (of_none he HL hlt), Below.refl _ _⟩

theorem slPart : Sl Try.prog 43 30 (.agg #[.int .i64 0, .int .i64 0]) 2 16 := ⟨Try.underlying43, by kernel_rfl, rfl, by omega⟩
theorem slRef : Sl Try.prog 41 23 (.agg #[.int .i64 0, .int .i64 0]) 2 16 := ⟨Try.underlying41, by kernel_rfl, rfl, by omega⟩

/-- What a loop that collects ranges has at its head. -/
def Coll (w : World) (e : TypeId) (l : List (Int × Int)) (k : Nat) (v : Value) (wr : World) : Prop :=
  (∃ A cap, v = .slice A k cap) ∧ wr.ownsRow w.heap.size e 2 v k (rv (l.take k)) ∧ Below w.heap.size w wr
theorem Coll.start (w : World) (e : TypeId) (l : List (Int × Int)) : Coll w e l 0 (.slice none 0 0) w := ⟨⟨_, _, rfl⟩, by simpa [rv_nil] using World.ownsRow_nil w w.heap.size e 2, Below.refl _ _⟩
theorem Coll.next {w wr w1 : World} {e : TypeId} {l : List (Int × Int)} {k : Nat} {v : Value} {A : Option Addr} {cap : Nat} {x y : Int} (h : Coll w e l k v wr) (hx : Hid (l[k]? = some (x, y)))
    (hown : w1.ownsRow w.heap.size e 2 (.slice A (k + 1) cap) (k + 1) (rv (l.take k) ++ [.int .i64 x, .int .i64 y])) (hb : Below w.heap.size wr w1) : Coll w e l (k + 1) (.slice A (k + 1) cap) w1 := by
  obtain ⟨hk, hx⟩ := List.getElem?_eq_some_iff.1 hx.out
  refine ⟨⟨_, _, rfl⟩, ?_, h.2.2.trans hb⟩
  rw [rv_take_snoc l k hk, hx]
  exact hown
theorem Coll.done {w wr : World} {e : TypeId} {l : List (Int × Int)} {k n : Nat} {v : Value} (h : Coll w e l k v wr) (hl : Hid (l.length = n)) (hk : k ≤ n) (hlt : ¬ k < n) : OwnRet w e 2 n (rv l) (.returned v) wr := by
  obtain rfl : k = n := by omega
  obtain ⟨A, cap, rfl⟩ := h.1
  have hown := h.2.1
  rw [List.take_of_length_le (by have := hl.out; omega)] at hown
  exact ⟨A, cap, rfl, hown, h.2.2⟩
theorem two_cells (x y : Int) : ∀ u ∈ (#[Value.int .i64 x, Value.int .i64 y] : Array Value).toList, u.oneCell' = true := by
  intro u hu
  simp at hu
  rcases hu with rfl | rfl <;> rfl

set_option maxHeartbeats 400000 in
theorem given04_any (A : Option Addr) (n cap : Nat) (l : List (Int × Int)) (w : World) (hl : l.length = n) (h : Rd w 2 A n (rv l)) (hn : n ≤ 1000000) :
    Calls Try.prog 25 #[.slice A n cap] w (OwnRet w 30 2 n (rv l)) := by
  have HL := Lib.hid hl
  have HR := Lib.hid h
  clear hl h
  go_enter Try.func25, Try.ntmps25
  go_wp2_with fail
  go_loopw [3, 8] (fun v c wr => ∃ k : Nat, k ≤ n ∧ c = .int .i64 k ∧ Coll w 30 l k v wr) (fun _ c _ => n - (intOf c).toNat)
  case atStart => exact ⟨0, by omega, rfl, Coll.start _ _ _⟩
  case round =>
    obtain ⟨k, hk, rfl, hcoll⟩ := hrel
    by_cases hlt : k < n
    · obtain ⟨b, o, x, y, rfl, hbl, hx, c1, c2⟩ := rd_at HL.out (HR.out.below hcoll.2.2) hlt
      have HX := Lib.hid hx
      clear hx
      go_wp2_with (at_builtin; (refine wpList_push slPart rfl _ _ rfl w.heap.size _ k (rv (l.take k)) rfl (hcoll.2.1.alloc _) #[.int .i64 x, .int .i64 y] _ rfl (by simp) rfl (two_cells x y) (by unfold maxLen; omega) (by omega) (by have := hcoll.2.2.size; simp; omega) ?_); intro A' cap' w1 hown1 hb1)
      go_roundw
      case rel => exact ⟨k + 1, by omega, by go_num, hcoll.next HX hown1 (((Below.refl _ _).alloc hcoll.2.2.size _).trans hb1)⟩
      case measure => simp [intOf]; omega
    · go_wp2
      go_ret
      exact hcoll.done HL hk hlt


set_option maxHeartbeats 400000 in
theorem back04_any (A : Option Addr) (n cap : Nat) (l : List (Int × Int)) (w : World) (hl : l.length = n) (h : Rd w 2 A n (rv l)) (hn : n ≤ 1000000) :
    Calls Try.prog 37 #[.slice A n cap] w (OwnRet w 23 2 n (rv l)) := by
  have HL := Lib.hid hl
  have HR := Lib.hid h
  clear hl h
  go_enter Try.func37, Try.ntmps37
  go_wp2_with fail
  go_loopw [3, 8] (fun v c wr => ∃ k : Nat, k ≤ n ∧ c = .int .i64 k ∧ Coll w 23 l k v wr) (fun _ c _ => n - (intOf c).toNat)
  case atStart => exact ⟨0, by omega, rfl, Coll.start _ _ _⟩
  case round =>
    obtain ⟨k, hk, rfl, hcoll⟩ := hrel
    by_cases hlt : k < n
    · obtain ⟨b, o, x, y, rfl, hbl, hx, c1, c2⟩ := rd_at HL.out (HR.out.below hcoll.2.2) hlt
      have HX := Lib.hid hx
      clear hx
      go_wp2_with (at_builtin; (refine wpList_push slRef rfl _ _ rfl w.heap.size _ k (rv (l.take k)) rfl (hcoll.2.1.alloc _) #[.int .i64 x, .int .i64 y] _ rfl (by simp) rfl (two_cells x y) (by unfold maxLen; omega) (by omega) (by have := hcoll.2.2.size; simp; omega) ?_); intro A' cap' w1 hown1 hb1)
      go_roundw
      case rel => exact ⟨k + 1, by omega, by go_num, hcoll.next HX hown1 (((Below.refl _ _).alloc hcoll.2.2.size _).trans hb1)⟩
      case measure => simp [intOf]; omega
    · go_wp2
      go_ret
      exact hcoll.done HL hk hlt


theorem same_step {l k : List (Int × Int)} {j : Nat} {r : Int × Int} (h : Hid (l.take j = k.take j)) (h1 : Hid (l[j]? = some r)) (h2 : Hid (k[j]? = some r)) : Hid (l.take (j + 1) = k.take (j + 1)) := by
  refine Lib.hid ?_
  obtain ⟨a, ha⟩ := List.getElem?_eq_some_iff.1 h1.out
  obtain ⟨b, hb⟩ := List.getElem?_eq_some_iff.1 h2.out
  rw [take_snoc l j a, take_snoc k j b, h.out, ha, hb]
theorem differ_at {l k : List (Int × Int)} {j : Nat} {r q : Int × Int} (h1 : Hid (l[j]? = some r)) (h2 : Hid (k[j]? = some q)) (hne : r ≠ q) : ¬ l = k := by
  rintro rfl
  have := h1.out.symm.trans h2.out
  injection this with e
  exact hne e
theorem guardRange_part : Try.prog.eqGuardType Try.prog.depth 30 = false := by kernel_rfl
theorem guardRange_ref : Try.prog.eqGuardType Try.prog.depth 23 = false := by kernel_rfl
attribute [go_sem] guardRange_part guardRange_ref

set_option maxHeartbeats 400000 in
theorem equalPart_any (A B : Option Addr) (n m c d : Nat) (l k : List (Int × Int)) (w : World) (hl : l.length = n) (hk : k.length = m) (h : Rd w 2 A n (rv l)) (h' : Rd w 2 B m (rv k)) (hn : n ≤ 1000000) (hm : m ≤ 1000000) :
    Calls Try.prog 54 #[.slice A n c, .slice B m d] w fun e w' => e = .returned (.bool (decide (l = k))) ∧ Below w.heap.size w w' := by
  by_cases hnm : n = m
  · subst hnm
    have HL := Lib.hid hl
    have HK := Lib.hid hk
    have HR := Lib.hid h
    have HR' := Lib.hid h'
    clear hl hk h h'
    go_enter Try.func54, Try.ntmps54
    go_wp2_with fail
    go_loopw [13] (fun i wr => ∃ j : Nat, j ≤ n ∧ i = .int .i64 j ∧ Below w.heap.size w wr ∧ Hid (l.take j = k.take j)) (fun i _ => n - (intOf i).toNat)
    case atStart => exact ⟨0, by omega, rfl, Below.refl _ _, Lib.hid rfl⟩
    case round =>
      obtain ⟨j, hj, rfl, hb, he⟩ := hrel
      by_cases hlt : j < n
      · obtain ⟨b, o, x, y, rfl, hbl, hx, c1, c2⟩ := rd_at HL.out (HR.out.below hb) hlt
        obtain ⟨b', o', x', y', rfl, hbl', hx', c1', c2'⟩ := rd_at HK.out (HR'.out.below hb) hlt
        have HX := Lib.hid hx
        have HX' := Lib.hid hx'
        clear hx hx'
        have i1 : (0 : Int) ≤ (j : Int) := by omega
        have i2 : (j : Int) < (n : Int) := by omega
        by_cases e1 : x = x'
        · subst e1
          by_cases e2 : y = y'
          · subst e2
            go_wp2_with fail
            go_quiet (fail)
            go_wp2
            go_roundw
            case rel => exact ⟨j + 1, by omega, by go_num, below_drewN hb _, same_step he HX HX'⟩
            case measure => simp [intOf]; omega
          · go_wp2_with fail
            go_quiet (fail)
            go_wp2
            go_ret
            exact ⟨ret_bool (by simp [differ_at HX HX' (by simp [e2])]), below_drewN hb _⟩
        · go_wp2_with fail
          go_quiet (fail)
          go_wp2
          go_ret
          exact ⟨ret_bool (by simp [differ_at HX HX' (by simp [e1])]), below_drewN hb _⟩
      · go_wp2
        go_ret
        refine ⟨ret_bool ?_, hb⟩
        have h1 := he.out
        rw [List.take_of_length_le (by have := HL.out; omega), List.take_of_length_le (by have := HK.out; omega)] at h1
        simp [h1]
  · have hne : l ≠ k := fun e => hnm (by rw [← hl, ← hk, e])
    have d1 : ((n : Int) != (m : Int)) = true := by simp; omega
    clear hl hk h h'
    go_enter Try.func54, Try.ntmps54
    go_wp2
    go_ret
    exact ⟨ret_bool (by simp [hne]), Below.refl _ _⟩

set_option maxHeartbeats 400000 in
theorem equalRef_any (A B : Option Addr) (n m c d : Nat) (l k : List (Int × Int)) (w : World) (hl : l.length = n) (hk : k.length = m) (h : Rd w 2 A n (rv l)) (h' : Rd w 2 B m (rv k)) (hn : n ≤ 1000000) (hm : m ≤ 1000000) :
    Calls Try.prog 28 #[.slice A n c, .slice B m d] w fun e w' => e = .returned (.bool (decide (l = k))) ∧ Below w.heap.size w w' := by
  by_cases hnm : n = m
  · subst hnm
    have HL := Lib.hid hl
    have HK := Lib.hid hk
    have HR := Lib.hid h
    have HR' := Lib.hid h'
    clear hl hk h h'
    go_enter Try.func28, Try.ntmps28
    go_wp2_with fail
    go_loopw [13] (fun i wr => ∃ j : Nat, j ≤ n ∧ i = .int .i64 j ∧ Below w.heap.size w wr ∧ Hid (l.take j = k.take j)) (fun i _ => n - (intOf i).toNat)
    case atStart => exact ⟨0, by omega, rfl, Below.refl _ _, Lib.hid rfl⟩
    case round =>
      obtain ⟨j, hj, rfl, hb, he⟩ := hrel
      by_cases hlt : j < n
      · obtain ⟨b, o, x, y, rfl, hbl, hx, c1, c2⟩ := rd_at HL.out (HR.out.below hb) hlt
        obtain ⟨b', o', x', y', rfl, hbl', hx', c1', c2'⟩ := rd_at HK.out (HR'.out.below hb) hlt
        have HX := Lib.hid hx
        have HX' := Lib.hid hx'
        clear hx hx'
        have i1 : (0 : Int) ≤ (j : Int) := by omega
        have i2 : (j : Int) < (n : Int) := by omega
        by_cases e1 : x = x'
        · subst e1
          by_cases e2 : y = y'
          · subst e2
            go_wp2_with fail
            go_quiet (fail)
            go_wp2
            go_roundw
            case rel => exact ⟨j + 1, by omega, by go_num, below_drewN hb _, same_step he HX HX'⟩
            case measure => simp [intOf]; omega
          · go_wp2_with fail
            go_quiet (fail)
            go_wp2
            go_ret
            exact ⟨ret_bool (by simp [differ_at HX HX' (by simp [e2])]), below_drewN hb _⟩
        · go_wp2_with fail
          go_quiet (fail)
          go_wp2
          go_ret
          exact ⟨ret_bool (by simp [differ_at HX HX' (by simp [e1])]), below_drewN hb _⟩
      · go_wp2
        go_ret
        refine ⟨ret_bool ?_, hb⟩
        have h1 := he.out
        rw [List.take_of_length_le (by have := HL.out; omega), List.take_of_length_le (by have := HK.out; omega)] at h1
        simp [h1]
  · have hne : l ≠ k := fun e => hnm (by rw [← hl, ← hk, e])
    have d1 : ((n : Int) != (m : Int)) = true := by simp; omega
    clear hl hk h h'
    go_enter Try.func28, Try.ntmps28
    go_wp2
    go_ret
    exact ⟨ret_bool (by simp [hne]), Below.refl _ _⟩

end Go.Proofs.Ytmnmjjackffnjaa
