/-
  Contracts of package vec and of its reference: hashes, copies.
-/
import Derived.Test.YthbkmhdoakpjgaaProg
import Derived.Test.YthbkmhdoakpjgaaVecPlain
namespace Go.Proofs.Ythbkmhdoakpjgaa
set_option linter.unusedVariables false
set_option linter.unusedSimpArgs false
open Go.RowKit

theorem slI64 : Sl Try.prog 32 2 (.int .i64 0) 1 8 := ⟨Try.underlying32, by kernel_rfl, rfl, by omega⟩
theorem slVec : Sl Try.prog 34 2 (.int .i64 0) 1 8 := ⟨Try.underlying34, by kernel_rfl, rfl, by omega⟩

set_option maxHeartbeats 400000 in
theorem hash_any (A : Option Addr) (n cap : Nat) (l : List Int) (w : World) (hl : l.length = n) (h : Rd w 1 A n (iv l)) (hn : n ≤ 10000000) :
    Calls Try.prog 28 #[.slice A n cap] w fun e w' => e = .returned (.int .u64 (hashL l)) ∧ w = w' := by
  have HL := Lib.hid hl
  have HR := Lib.hid h
  clear hl h
  go_enter Try.func28, Try.ntmps28
  go_wp2_with fail
  go_loop [3, 8] (fun v c => ∃ (k : Nat) (x : Int), k ≤ n ∧ c = .int .i64 k ∧ v = .int .u64 x ∧ Hid (hashL l = hashF (l.drop k) x)) (fun _ c => n - (intOf c).toNat)
  case atStart => exact ⟨0, 1, by omega, rfl, rfl, Lib.hid rfl⟩
  case round =>
    obtain ⟨k, hh, hk, rfl, rfl, he⟩ := hrel
    by_cases hlt : k < n
    · obtain ⟨b, o, x, rfl, hbl, hx, c1⟩ := iv_at HL.out HR.out hlt
      have HX := Lib.hid hx
      clear hx
      go_wp2
      go_round
      case rel => exact ⟨k + 1, _, by omega, by go_num, rfl, Lib.hid (by rw [he.out, hashF_step l k x hh HX.out]; rfl)⟩
      case measure => simp [intOf]; omega
    · go_wp2
      go_ret
      exact ⟨ret_int (by rw [he.out, hashF_end l k hh (by have := HL.out; omega)]), rfl⟩

set_option maxHeartbeats 400000 in
theorem refClone_any (A : Option Addr) (n cap : Nat) (l : List Int) (w : World) (hl : l.length = n) (h : Rd w 1 A n (iv l)) (hn : n ≤ 10000000) :
    Calls Try.prog 24 #[.slice A n cap] w (OwnRet w 2 1 n (iv l)) := by
  have HR := Lib.hid h
  have HL := Lib.hid hl
  clear h hl
  go_enter Try.func24, Try.ntmps24
  go_wp2_with (at_builtin; go_must (refine wpList_appendAll slI64 rfl _ _ rfl w.heap.size _ 0 [] rfl (World.ownsRow_lit w #[] 0 (Nat.le_refl _) (by unfold maxLen; omega) rfl) A n cap (iv l) rfl (HR.out.alloc _) (iv_one l) (by unfold maxLen; omega) (by omega) (by simp) ?_); intro A' cap' w1 hown1 hb1)
  go_ret
  exact ⟨A', cap', by simp, by simpa using hown1, ((Below.refl _ _).alloc (Nat.le_refl _) _).trans hb1⟩

set_option maxHeartbeats 400000 in
theorem sliceClone_any (A : Option Addr) (n cap : Nat) (l : List Int) (w : World) (hl : l.length = n) (h : Rd w 1 A n (iv l)) (hn : n ≤ 10000000) :
    Calls Try.prog 52 #[.slice A n cap] w (OwnRet w 2 1 n (iv l)) := by
  have HR := Lib.hid h
  have HL := Lib.hid hl
  have hq := fun (w : World) (a : Option Addr) (n c : Nat) => Lib.run_eql_slice_nil (P := Try.prog) w 34 2 a n c 0 0 Try.underlying34
  clear h hl
  cases A with
  | none =>
    have hn0 : n = 0 := by
      rcases Nat.eq_zero_or_pos n with h0 | h0
      · exact h0
      · obtain ⟨b, o, h, _⟩ := HR.out.2 h0; cases h
    subst hn0
    have hl0 : l = [] := List.eq_nil_of_length_eq_zero HL.out
    subst hl0
    go_enter Try.func52, Try.ntmps52
    go_wp2
    go_ret
    exact ⟨none, 0, rfl, World.ownsRow_nil _ _ _ _, Below.refl _ _⟩
  | some ad =>
    go_enter Try.func52, Try.ntmps52
    go_wp2_with (at_builtin; go_must (refine wpList_appendAll slVec rfl _ _ rfl w.heap.size _ 0 [] rfl (World.ownsRow_lit w #[] 0 (Nat.le_refl _) (by unfold maxLen; omega) rfl) (some ad) n cap (iv l) rfl (HR.out.alloc _) (iv_one l) (by unfold maxLen; omega) (by omega) (by simp) ?_); intro A' cap' w1 hown1 hb1)
    go_ret
    exact ⟨A', cap', by simp, by simpa using hown1, ((Below.refl _ _).alloc (Nat.le_refl _) _).trans hb1⟩

set_option maxHeartbeats 400000 in
theorem vecClone_any (A : Option Addr) (n cap : Nat) (l : List Int) (w : World) (hl : l.length = n) (h : Rd w 1 A n (iv l)) (hn : n ≤ 10000000) :
    Calls Try.prog 35 #[.slice A n cap] w (OwnRet w 2 1 n (iv l)) := by
  have HR := Lib.hid h
  have HL := Lib.hid hl
  clear h hl
  go_enter Try.func35, Try.ntmps35
  go_wp2_with fail
  ((with_reducible refine (sliceClone_any A n cap l _ HL.out HR.out (by omega)).mono ?_); rintro e w1 ⟨A', cap', rfl, hown, hb1⟩)
  have HO := Lib.hid hown
  clear hown
  go_wp2
  go_ret
  exact ⟨A', cap', rfl, HO.out, hb1⟩

set_option maxHeartbeats 400000 in
theorem refHash_any (A : Option Addr) (n cap : Nat) (l : List Int) (w : World) (hl : l.length = n) (h : Rd w 1 A n (iv l)) (hn : n ≤ 10000000) :
    Calls Try.prog 29 #[.slice A n cap] w fun e w' => e = .returned (.int .u64 (hashL l)) ∧ w = w' := by
  have HL := Lib.hid hl
  have HR := Lib.hid h
  clear hl h
  go_enter Try.func29, Try.ntmps29
  go_wp2_with fail
  go_loop [3, 4, 5] (fun p s c => ∃ (k : Nat) (x y : Int), k ≤ n ∧ c = .int .i64 ((k : Int) - 1) ∧ p = .int .u64 x ∧ s = .int .u64 y ∧ Hid (HashAt l k x y)) (fun _ _ c => (intOf c + 1).toNat)
  case atStart => exact ⟨n, 1, 0, by omega, rfl, rfl, rfl, Lib.hid (HashAt.start l n (by rw [HL.out]; omega))⟩
  case round =>
    obtain ⟨k, p, q, hk, rfl, rfl, rfl, he⟩ := hrel
    by_cases hlt : 0 < k
    · obtain ⟨j, rfl⟩ : ∃ j, k = j + 1 := ⟨k - 1, by omega⟩
      rw [show ((j + 1 : Nat) : Int) - 1 = (j : Int) by omega]
      obtain ⟨b, o, x, rfl, hbl, hx, c1⟩ := iv_at HL.out HR.out (show j < n by omega)
      have HX := Lib.hid hx
      clear hx
      go_wp2
      go_round
      case rel => exact ⟨j, _, _, by omega, rfl, rfl, rfl, Lib.hid (he.out.next HX.out)⟩
      case measure => simp [intOf]
    · obtain rfl : k = 0 := by omega
      go_wp2
      go_ret
      exact ⟨ret_int he.out.done, rfl⟩

/-- The lengths of the first vectors, together. -/
def fewN (ns : List Nat) : Nat := (ns.map (min · 2000)).sum
def fewL (ns : List Nat) : Bool := decide (ns.length ≤ 60 ∧ fewN (ns.take 100) ≤ 1500)
theorem fewN_snoc (ns : List Nat) (k x : Nat) (h : ns[k]? = some x) : fewN (ns.take (k + 1)) = fewN (ns.take k) + min x 2000 := by
  obtain ⟨hk, hx⟩ := List.getElem?_eq_some_iff.1 h
  rw [List.take_succ_eq_append_getElem hk, hx]
  simp [fewN]
theorem fewN_le (ns : List Nat) (k : Nat) : fewN (ns.take k) ≤ 2000 * k := by
  induction k with
  | zero => simp [fewN]
  | succ k ih =>
    rcases Nat.lt_or_ge k ns.length with h | h
    · rw [fewN_snoc ns k _ (List.getElem?_eq_getElem h)]; omega
    · rw [List.take_of_length_le (by omega)] at ih ⊢; omega
theorem few_out (ns : List Nat) (n : Nat) (hl : ns.length = n) (h : 60 < n) : false = fewL ns := by
  unfold fewL
  rw [eq_comm, decide_eq_false_iff_not]
  omega
theorem few_in (ns : List Nat) (n k x : Nat) (hl : ns.length = n) (h : n ≤ 60) (hk : n ≤ k) (hx : x = fewN (ns.take k)) : decide ((x : Int) ≤ 1500) = fewL ns := by
  unfold fewL
  rw [hx, List.take_of_length_le (by omega), List.take_of_length_le (by omega), Bool.eq_iff_iff]
  simp
  omega

set_option maxHeartbeats 400000 in
theorem few03_any (A : Option Addr) (n cap : Nat) (ss : List (Option Addr × Nat × Nat)) (w : World) (hl : ss.length = n) (hs : ∀ s ∈ ss, s.2.1 ≤ 9223372036854775807) (h : Rd w 1 A n (ss.map slv)) (hn : n ≤ 9223372036854775807) :
    Calls Try.prog 22 #[.slice A n cap] w fun e w' => e = .returned (.bool (fewL (ss.map (·.2.1)))) ∧ w = w' := by
  have HL := Lib.hid hl
  have HR := Lib.hid h
  have HS := Lib.hid hs
  clear hl h hs
  go_enter Try.func22, Try.ntmps22
  go_wp2_with fail
  go_loop [3, 4] (fun s c => ∃ (k x : Nat), k ≤ n ∧ k ≤ 100 ∧ c = .int .i64 k ∧ s = .int .i64 x ∧ Hid (x = fewN ((ss.map (·.2.1)).take k)) ∧ x ≤ 2000 * k) (fun _ c => 100 - (intOf c).toNat)
  case atStart => exact ⟨0, 0, by omega, by omega, rfl, rfl, Lib.hid (by simp [fewN]), by omega⟩
  case round =>
    obtain ⟨k, x, hk, hk1, rfl, rfl, he, hx2⟩ := hrel
    by_cases hlt : k < n
    · by_cases hlt2 : k < 100
      · obtain ⟨b, o, rfl, hbl, hc⟩ := HR.out.2 (by omega)
        have hkl : k < ss.length := by rw [HL.out]; exact hlt
        have c1 := hc k (slv ss[k]) (by simp [hkl])
        have hb := HS.out ss[k] (List.getElem_mem hkl)
        have HX : Hid ((ss.map (·.2.1))[k]? = some (ss[k]).2.1) := Lib.hid (by simp [hkl])
        generalize ss[k] = sk at *
        obtain ⟨Ak, nk, ck⟩ := sk
        dsimp only [slv] at c1 hb HX
        clear hc
        by_cases hm : nk ≤ 2000
        · go_wp2
          go_round
          case rel => exact ⟨k + 1, x + nk, by omega, by omega, by go_num, by go_num, Lib.hid (by rw [fewN_snoc _ k nk HX.out, he.out, Nat.min_eq_left hm]), by omega⟩
          case measure => simp [intOf]; omega
        · go_wp2
          go_round
          case rel => exact ⟨k + 1, x + 2000, by omega, by omega, by go_num, by go_num, Lib.hid (by rw [fewN_snoc _ k nk HX.out, he.out, Nat.min_eq_right (by omega)]), by omega⟩
          case measure => simp [intOf]; omega
      · obtain rfl : k = 100 := by omega
        go_wp2
        all_goals (go_ret; exact ⟨ret_bool (few_out _ n (by simp [HL.out]) (by omega)), rfl⟩)
    · go_wp2
      · go_ret
        exact ⟨ret_bool (few_in _ n k x (by simp [HL.out]) (by omega) (by omega) he.out), rfl⟩
      · go_ret
        exact ⟨ret_bool (few_out _ n (by simp [HL.out]) (by omega)), rfl⟩

end Go.Proofs.Ythbkmhdoakpjgaa
