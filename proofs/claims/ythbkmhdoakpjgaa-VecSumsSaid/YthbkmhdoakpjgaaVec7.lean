/-
  Lists of vectors: given, slices.Reverse.
-/
import Derived.Test.YthbkmhdoakpjgaaVec6
import Derived.Test.YthbkmhdoakpjgaaRev
namespace Go.Proofs.Ythbkmhdoakpjgaa
set_option linter.unusedVariables false
set_option linter.unusedSimpArgs false
open Go.RowKit

theorem slVecs : Sl Try.prog 50 34 (.slice none 0 0) 1 24 := ⟨Try.underlying50, by kernel_rfl, rfl, by omega⟩
theorem one_slv (As : Option Addr) (ns cs : Nat) : ∀ u ∈ (#[Value.slice As ns cs] : Array Value).toList, u.oneCell' = true := by
  intro u hu
  simp at hu
  subst hu
  rfl

set_option maxHeartbeats 400000 in
theorem given03_any (A : Option Addr) (n cap : Nat) (ss : List (Option Addr × Nat × Nat)) (w : World) (hl : ss.length = n) (h : Rd w 1 A n (ss.map slv)) (hn : n ≤ 1000000) :
    Calls Try.prog 33 #[.slice A n cap] w (OwnRet w 34 1 n (ss.map slv)) := by
  have HL := Lib.hid hl
  have HR := Lib.hid h
  clear hl h
  go_enter Try.func33, Try.ntmps33
  go_wp2_with fail
  go_loopw [3, 8] (fun v c wr => ∃ k : Nat, k ≤ n ∧ c = .int .i64 k ∧ Coll1 w 34 (ss.map slv) k v wr) (fun _ c _ => n - (intOf c).toNat)
  case atStart => exact ⟨0, by omega, rfl, Coll1.start _ _ _⟩
  case round =>
    obtain ⟨k, hk, rfl, hcoll⟩ := hrel
    by_cases hlt : k < n
    · obtain ⟨b, o, rfl, hbl, hc⟩ := (HR.out.below hcoll.2.2).2 (by omega)
      have hkl : k < ss.length := by rw [HL.out]; exact hlt
      have c1 := hc k (slv ss[k]) (by simp [hkl])
      have HX : Hid ((ss.map slv)[k]? = some (slv ss[k])) := Lib.hid (by simp [hkl])
      generalize ss[k] = sk at *
      obtain ⟨Ak, nk, ck⟩ := sk
      dsimp only [slv] at c1
      clear hc
      go_wp2_with (at_builtin; go_must (refine wpList_push slVecs rfl _ _ rfl w.heap.size _ k ((ss.map slv).take k) rfl hcoll.2.1 #[.slice Ak nk ck] _ rfl rfl rfl (one_slv Ak nk ck) (by unfold maxLen; omega) (by omega) hcoll.2.2.size ?_); intro A' cap' w1 hown1 hb1)
      go_roundw
      case rel => exact ⟨k + 1, by omega, by go_num, hcoll.next HX hown1 hb1⟩
      case measure => simp [intOf]; omega
    · go_wp2
      go_ret
      exact hcoll.done (Lib.hid (by simpa using HL.out)) hk hlt

set_option maxHeartbeats 1000000 in
theorem reverseV_any (g n cap base : Nat) (ss : List (Option Addr × Nat × Nat)) (w : World) (hl : ss.length = n) (hn : n ≤ 10000000) (hown : w.ownsRow base 34 1 (.slice (some ⟨g, 0, none⟩) n cap) n (ss.map slv)) :
    Calls Try.prog 34 #[.slice (some ⟨g, 0, none⟩) n cap] w fun e w' => e = .returned (.tuple #[]) ∧ w'.ownsRow base 34 1 (.slice (some ⟨g, 0, none⟩) n cap) n (ss.reverse.map slv) ∧ w.grownBy w' (some g) := by
  have HL := Lib.hid hl
  have HO := Lib.hid hown
  clear hl hown
  go_enter Try.func34, Try.ntmps34
  go_wp2_with fail
  go_loopw [2, 3] (fun x y wr => ∃ k : Nat, k * 2 ≤ n ∧ x = .int .i64 k ∧ y = .int .i64 ((n : Int) - 1 - k) ∧ wr.ownsRow base 34 1 (.slice (some ⟨g, 0, none⟩) n cap) n ((revK ss k).map slv) ∧ w.grownBy wr (some g)) (fun x _ _ => n - (intOf x).toNat)
  case atStart => exact ⟨0, by omega, rfl, by simp, by rw [revK_zero]; exact HO.out, World.grownBy.refl _ _⟩
  case round =>
    obtain ⟨k, hk, rfl, rfl, hown, hg⟩ := hrel
    by_cases hlt : k * 2 + 1 < n
    · obtain ⟨j, hj⟩ : ∃ j, k + j + 1 = n := ⟨n - 1 - k, by omega⟩
      have HLn := HL.out
      rw [show (n : Int) - 1 - (k : Int) = (j : Int) by omega]
      have hkl : k < (revK ss k).length := by rw [revK_length]; omega
      have hjl : j < (revK ss k).length := by rw [revK_length]; omega
      have a1 : ((revK ss k).map slv)[k]? = some (slv (revK ss k)[k]) := by simp [hkl]
      have b1 : ((revK ss k).map slv)[j]? = some (slv (revK ss k)[j]) := by simp [hjl]
      have HN := Lib.hid (revK_next ss k j _ _ (by omega) (by omega) (List.getElem?_eq_getElem hkl) (List.getElem?_eq_getElem hjl))
      generalize (revK ss k)[k] = ra at *
      generalize (revK ss k)[j] = rb at *
      obtain ⟨A1, n1, q1⟩ := ra
      obtain ⟨A2, n2, q2⟩ := rb
      dsimp only [slv] at a1 b1
      have c1 : wr.cell? ⟨g, k, none⟩ = some (.slice A1 n1 q1) := (hown.cellAt k (by omega)).trans a1
      have c3 : wr.cell? ⟨g, j, none⟩ = some (.slice A2 n2 q2) := (hown.cellAt j (by omega)).trans b1
      have f1 := hown.frozenAt k
      have f3 := hown.frozenAt j
      have HOw := Lib.hid hown
      have HJ := Lib.hid hj
      have i1 : (k : Int) < (n : Int) := by omega
      have i2 : (j : Int) < (n : Int) := by omega
      have i3 : (0 : Int) ≤ (k : Int) := by omega
      have i4 : (0 : Int) ≤ (j : Int) := by omega
      have hkj : k < j := by omega
      clear a1 b1 hown hj hkl hjl HLn
      go_wp2_with fail
      go_region
      go_wp2
      go_roundw
      case rel => exact ⟨k + 1, by omega, by go_num, by have := HJ.out; congr 1; omega, by rw [← HN.out, List.map_set, List.map_set]; exact (own_swap1 HOw.out k j _ _).1, (hg.trans (own_swap1 HOw.out k j _ _).2)⟩
      case measure => simp [intOf]; omega
    · go_wp2
      go_end0
      exact ⟨rfl, by rw [← revK_done ss k (by have := HL.out; omega)]; exact hown, hg⟩

end Go.Proofs.Ythbkmhdoakpjgaa
