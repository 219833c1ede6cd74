/-
  SgdRuns: every input.
-/
import Derived.Test.YtnnphileeeaibaaSgdRuns
namespace Go.Proofs.Ytnnphileeeaibaa
set_option linter.unusedVariables false
set_option linter.unusedSimpArgs false
set_option maxRecDepth 100000
open Go.RowKit

theorem few_one_le (ns : List Nat) (x : Nat) (h : x ∈ ns) : min x 2000 ≤ fewN ns := by
  induction ns with
  | nil => cases h
  | cons y ns ih =>
    unfold fewN at ih ⊢
    rw [List.map_cons, List.sum_cons]
    rcases List.mem_cons.1 h with rfl | h
    · omega
    · have := ih h
      omega
theorem few_each (ns : List Nat) (h : fewL ns = true) : ns.length ≤ 60 ∧ ∀ x ∈ ns, x ≤ 1500 := by
  unfold fewL at h
  have h := of_decide_eq_true h
  refine ⟨h.1, fun x hx => ?_⟩
  have h2 := h.2
  rw [List.take_of_length_le (by omega)] at h2
  have := few_one_le ns x hx
  omega

set_option maxHeartbeats 1000000 in
theorem sgdRuns_far (ra mo sh : Int) (A B G : Option Addr) (N M c d m e : Nat) (ss : List (Option Addr × Nat × Nat)) (w : World) (hN : N ≤ 9223372036854775807) (hM : M ≤ 9223372036854775807) (hm : m ≤ 9223372036854775807) (hss : ss.length = m) (r3 : Rd w 1 G m (ss.map slv)) (hsl : ∀ s ∈ ss, s.2.1 ≤ 9223372036854775807) (hf : (fewL [N, M, 0] && fewL (ss.map (·.2.1))) = false) :
    Calls Try.prog 6 #[.agg #[.int .i64 ra, .int .i64 mo, .int .i64 sh], .agg #[.slice A N c, .slice B M d], .slice G m e] w fun e w' => e = .returned (.bool true) ∧ Below w.heap.size w w' := by
  have HF1 := Lib.hid (fun W => few13_any A B none N M 0 c d 0 W hN hM (by omega))
  have HF2 := Lib.hid (fun W (hb : Below w.heap.size w W) => few03_any G m e ss W hss hsl (r3.below hb) hm)
  clear hss r3 hsl
  obtain ⟨w0, hw0⟩ : ∃ w0, (w.alloc (.cells #[.int .i64 ra, .int .i64 mo, .int .i64 sh] 23)).alloc (.cells #[.slice A N c, .slice B M d] 26) = w0 := ⟨_, rfl⟩
  have HW := Lib.hid hw0
  have HK : Hid (Below w.heap.size w w0) := Lib.hid (by rw [← hw0]; exact (((Kept.of (Below.refl _ w)).alloc _).alloc _).2.2)
  clear hw0
  go_enter Try.func6, Try.ntmps6
  go_wp2_with fail
  rw [HW.out]
  ((with_reducible refine (HF1.out _).mono ?_); rintro en w1 ⟨rfl, hb1⟩)
  have k1 := ((Kept.of HK.out).call hb1).2.2
  clear hb1
  cases h1 : fewL [N, M, 0]
  · clear h1 hf
    go_wp2_with fail
    ((with_reducible refine (alive13_any _).mono ?_); rintro en w2 ⟨rfl, hb2⟩)
    go_wp2
    go_ret
    exact ⟨rfl, ((Kept.of k1).call hb2).2.2⟩
  · have h2 : fewL (ss.map (·.2.1)) = false := by rw [h1] at hf; simpa using hf
    have C := HF2.out w1 k1
    rw [h2] at C
    have HF3 := Lib.hid C
    have HK1 := Lib.hid k1
    clear h1 hf h2 C k1
    go_wp2_with fail
    ((with_reducible refine HF3.out.mono ?_); rintro en w3 ⟨rfl, rfl⟩)
    go_wp2_with fail
    ((with_reducible refine (alive13_any _).mono ?_); rintro en w2 ⟨rfl, hb2⟩)
    go_wp2
    go_ret
    exact ⟨rfl, ((Kept.of HK1.out).call hb2).2.2⟩

theorem sgdRuns_any (ra mo sh : Int) (A B : Option Addr) (N M c d : Nat) (Ps Ms : List Int) (G : Option Addr) (m e : Nat) (ss : List (Option Addr × Nat × Nat)) (zs : List (List Int)) (w : World) (hra : In1 ra) (hmo : In1 mo) (hN : N ≤ 9223372036854775807) (hM : M ≤ 9223372036854775807) (h1 : Ps.length = N) (h2 : Ms.length = M) (r1 : Rd w 1 A N (iv Ps)) (r2 : Rd w 1 B M (iv Ms)) (hPi : AllIn Ps) (hMi : AllIn Ms)
    (hm : m ≤ 9223372036854775807) (hss : ss.length = m) (hzs : zs.length = m) (hcp : ∀ s ∈ ss, s.2.1 ≤ s.2.2 ∧ s.2.2 ≤ 9223372036854775807) (r3 : Rd w 1 G m (ss.map slv)) (hv : ∀ (i : Nat) (s : Option Addr × Nat × Nat) (z : List Int), ss[i]? = some s → zs[i]? = some z → z.length = s.2.1 ∧ Rd w 1 s.1 s.2.1 (z.map (Value.int .i64))) :
    Calls Try.prog 6 #[.agg #[.int .i64 ra, .int .i64 mo, .int .i64 sh], .agg #[.slice A N c, .slice B M d], .slice G m e] w fun e w' => e = .returned (.bool true) ∧ Below w.heap.size w w' := by
  have hsl : ∀ s ∈ ss, s.2.1 ≤ 9223372036854775807 := fun s hs => by have := hcp s hs; omega
  cases hf1 : fewL [N, M, 0]
  · exact sgdRuns_far ra mo sh A B G N M c d m e ss w hN hM hm hss r3 hsl (by rw [hf1]; rfl)
  · cases hf2 : fewL (ss.map (·.2.1))
    · exact sgdRuns_far ra mo sh A B G N M c d m e ss w hN hM hm hss r3 hsl (by rw [hf1, hf2]; rfl)
    · obtain ⟨h60, heach⟩ := few_each _ hf2
      rw [List.length_map, hss] at h60
      classical
      refine sgdRuns_near ra mo sh A B G N M c d m e ss Ps Ms zs (decide (GoodTo N M ss m)) w h1 h2 hss h60 r1 r2 r3 (fun i s hs => ?_) hra hmo hPi hMi (by simp) hf1 hf2 hsl
      have hi : i < zs.length := by have := (List.getElem?_eq_some_iff.1 hs).1; omega
      have hz := List.getElem?_eq_getElem hi
      obtain ⟨q1, q2⟩ := hv i s _ hs hz
      have hd : zs.getD i [] = zs[i] := by rw [List.getD_eq_getElem?_getD, hz]; rfl
      rw [hd]
      exact ⟨q1, q2, by have := heach s.2.1 (List.mem_map_of_mem (List.mem_of_getElem? hs)); omega⟩

end Go.Proofs.Ytnnphileeeaibaa
