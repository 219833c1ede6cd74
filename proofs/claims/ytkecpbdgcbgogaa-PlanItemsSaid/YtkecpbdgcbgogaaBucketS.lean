/-
  Buckets and groups, and those of the reference, laid for this seat.
-/
import Derived.Test.YtkecpbdgcbgogaaPartS
import Derived.Test.YtkecpbdgcbgogaaBucketPlain
import Derived.BigRegion
namespace Go.Proofs.Ytkecpbdgcbgogaa
set_option linter.unusedVariables false
set_option linter.unusedSimpArgs false
open Go.RowKit

theorem own_swap {w : World} {base : Nat} {e : TypeId} {g n cap : Nat} {L : List (Int × Int)} (h : w.ownsRow base e 2 (.slice (some ⟨g, 0, none⟩) n cap) n (rv L)) (k j : Nat) (x1 y1 x2 y2 : Int) :
    ((((w.setCell ⟨g, k * 2, none⟩ (.int .i64 x2)).setCell ⟨g, k * 2 + 1, none⟩ (.int .i64 y2)).setCell ⟨g, j * 2, none⟩ (.int .i64 x1)).setCell ⟨g, j * 2 + 1, none⟩ (.int .i64 y1)).drew.ownsRow base e 2 (.slice (some ⟨g, 0, none⟩) n cap) n (rv ((L.set k (x2, y2)).set j (x1, y1))) ∧
    w.grownBy ((((w.setCell ⟨g, k * 2, none⟩ (.int .i64 x2)).setCell ⟨g, k * 2 + 1, none⟩ (.int .i64 y2)).setCell ⟨g, j * 2, none⟩ (.int .i64 x1)).setCell ⟨g, j * 2 + 1, none⟩ (.int .i64 y1)).drew (some g) := by
  obtain ⟨s1, g1⟩ := h.stored (k * 2) (.int .i64 x2)
  obtain ⟨s2, g2⟩ := s1.stored (k * 2 + 1) (.int .i64 y2)
  obtain ⟨s3, g3⟩ := s2.stored (j * 2) (.int .i64 x1)
  obtain ⟨s4, g4⟩ := s3.stored (j * 2 + 1) (.int .i64 y1)
  refine ⟨?_, ?_⟩
  · rw [← rv_set, ← rv_set]
    exact s4
  · have h := ((g1.trans g2).trans g3).trans g4
    exact ⟨h.os, h.tape, h.output, h.size, h.block⟩

set_option maxHeartbeats 1000000 in
theorem reverse_any (g n cap base : Nat) (l : List (Int × Int)) (w : World) (hl : l.length = n) (hn : n ≤ 10000000) (hown : w.ownsRow base 33 2 (.slice (some ⟨g, 0, none⟩) n cap) n (rv l)) :
    Calls Try.prog 84 #[.slice (some ⟨g, 0, none⟩) n cap] w fun e w' => e = .returned (.tuple #[]) ∧ w'.ownsRow base 33 2 (.slice (some ⟨g, 0, none⟩) n cap) n (rv l.reverse) ∧ w.grownBy w' (some g) := by
  have HL := Lib.hid hl
  have HO := Lib.hid hown
  clear hl hown
  go_enter Try.func84, Try.ntmps84
  go_wp2_with fail
  go_loopw [2, 3] (fun x y wr => ∃ k : Nat, k * 2 ≤ n ∧ x = .int .i64 k ∧ y = .int .i64 ((n : Int) - 1 - k) ∧ wr.ownsRow base 33 2 (.slice (some ⟨g, 0, none⟩) n cap) n (rv (revK l k)) ∧ w.grownBy wr (some g)) (fun x _ _ => n - (intOf x).toNat)
  case atStart => exact ⟨0, by omega, rfl, by simp, by rw [revK_zero]; exact HO.out, World.grownBy.refl _ _⟩
  case round =>
    obtain ⟨k, hk, rfl, rfl, hown, hg⟩ := hrel
    by_cases hlt : k * 2 + 1 < n
    · obtain ⟨j, hj⟩ : ∃ j, k + j + 1 = n := ⟨n - 1 - k, by omega⟩
      have HLn := HL.out
      rw [show (n : Int) - 1 - (k : Int) = (j : Int) by omega]
      have hkl : k < (revK l k).length := by rw [revK_length]; omega
      have hjl : j < (revK l k).length := by rw [revK_length]; omega
      obtain ⟨a1, a2⟩ := rv_get (revK l k) k hkl
      obtain ⟨b1, b2⟩ := rv_get (revK l k) j hjl
      have HN := Lib.hid (revK_next l k j _ _ (by omega) (by omega) (List.getElem?_eq_getElem hkl) (List.getElem?_eq_getElem hjl))
      generalize (revK l k)[k] = ra at *
      generalize (revK l k)[j] = rb at *
      obtain ⟨x1, y1⟩ := ra
      obtain ⟨x2, y2⟩ := rb
      dsimp only at a1 a2 b1 b2
      have c1 : wr.cell? ⟨g, k * 2, none⟩ = some (.int .i64 x1) := (hown.cellAt (k * 2) (by omega)).trans a1
      have c2 : wr.cell? ⟨g, k * 2 + 1, none⟩ = some (.int .i64 y1) := (hown.cellAt (k * 2 + 1) (by omega)).trans a2
      have c3 : wr.cell? ⟨g, j * 2, none⟩ = some (.int .i64 x2) := (hown.cellAt (j * 2) (by omega)).trans b1
      have c4 : wr.cell? ⟨g, j * 2 + 1, none⟩ = some (.int .i64 y2) := (hown.cellAt (j * 2 + 1) (by omega)).trans b2
      have f1 := hown.frozenAt (k * 2)
      have f2 := hown.frozenAt (k * 2 + 1)
      have f3 := hown.frozenAt (j * 2)
      have f4 := hown.frozenAt (j * 2 + 1)
      have HOw := Lib.hid hown
      have HJ := Lib.hid hj
      have i1 : (k : Int) < (n : Int) := by omega
      have i2 : (j : Int) < (n : Int) := by omega
      have i3 : (0 : Int) ≤ (k : Int) := by omega
      have i4 : (0 : Int) ≤ (j : Int) := by omega
      have hkj : k < j := by omega
      clear a1 a2 b1 b2 hown hj hkl hjl HLn
      go_wp2_with fail
      go_region
      go_wp2
      go_roundw
      case rel => exact ⟨k + 1, by omega, by go_num, by have := HJ.out; congr 1; omega, by rw [← HN.out]; exact (own_swap HOw.out k j x1 y1 x2 y2).1, (hg.trans (own_swap HOw.out k j x1 y1 x2 y2).2)⟩
      case measure => simp [intOf]; omega
    · go_wp2
      go_end0
      exact ⟨rfl, by rw [← revK_done l k (by have := HL.out; omega)]; exact hown, hg⟩

set_option maxHeartbeats 400000 in
theorem reverse_none (A : Option Addr) (cap : Nat) (w : World) :
    Calls Try.prog 84 #[.slice A 0 cap] w fun e w' => e = .returned (.tuple #[]) ∧ w = w' := by
  go_enter Try.func84, Try.ntmps84
  go_wp2_with fail
  go_loop [2, 3] (fun x y => x = .int .i64 0 ∧ y = .int .i64 (-1)) (fun _ _ => 0)
  case atStart => exact ⟨rfl, rfl⟩
  case round =>
    obtain ⟨rfl, rfl⟩ := hrel
    go_wp2
    go_end0
    exact ⟨rfl, rfl⟩

def bucketsL (n s : Nat) : List (Int × Int) := (blocksL n s).reverse
theorem bucketsL_length (n s : Nat) : (bucketsL n s).length = cnt n s := by simp [bucketsL, blocksL_length]

set_option maxHeartbeats 400000 in
theorem buckets_none (n s : Int) (w : World) (hn : -9223372036854775808 ≤ n) (hn2 : n ≤ 1000000000) (hs : s ≤ 9223372036854775807) (h : n < 1 ∨ s < 1) :
    Calls Try.prog 61 #[.int .i64 n, .int .i64 s] w (OwnRet w 33 2 0 (rv [])) := by
  have H := Lib.hid h
  clear h
  go_enter Try.func61, Try.ntmps61
  go_wp2_with fail
  ((with_reducible refine (blocks_none n s _ (by omega) (by omega) (by omega) H.out).mono ?_); rintro e w1 ⟨A, cap, rfl, hown, hb1⟩)
  have HO := Lib.hid hown
  clear hown
  go_wp2_with fail
  ((with_reducible refine (reverse_none A cap _).mono ?_); rintro e w2 ⟨rfl, rfl⟩)
  go_wp2
  go_ret
  exact ⟨A, cap, rfl, HO.out, hb1⟩

set_option maxHeartbeats 400000 in
theorem buckets_any (a b : Nat) (w : World) (ha1 : 1 ≤ a) (ha : a ≤ 10000000) (hb1 : 1 ≤ b) (hb : b ≤ 9223372036854775807) :
    Calls Try.prog 61 #[.int .i64 a, .int .i64 b] w (OwnRet w 33 2 (cnt a b) (rv (bucketsL a b))) := by
  have hc := cnt_le a b
  have hc1 : 1 ≤ cnt a b := by rw [cnt_pos a b ha1 hb1]; exact Nat.le_add_left _ _
  go_enter Try.func61, Try.ntmps61
  go_wp2_with fail
  ((with_reducible refine (blocks_any a b _ (by omega) (by omega) (by omega) (by omega)).mono ?_); rintro e w1 ⟨A, cap, rfl, hown, hbw⟩)
  obtain ⟨A', cap', hv, _, _, hf⟩ := own_form hown
  injection hv with hA _ hC
  subst hA hC
  obtain ⟨g, rfl, hg1, hg2⟩ := hf (by omega)
  have HO := Lib.hid hown
  clear hown
  go_wp2_with fail
  ((with_reducible refine (reverse_any g (cnt a b) cap _ (blocksL a b) _ (blocksL_length a b) (by omega) HO.out).mono ?_); rintro e w2 ⟨rfl, hown2, hg⟩)
  have HO2 := Lib.hid hown2
  have HG := Lib.hid hg
  clear hown2 hg
  go_wp2
  go_ret
  exact ⟨_, _, rfl, HO2.out, hbw.grown HG.out hbw.size (fun k e => by cases e; exact hg1)⟩

set_option maxHeartbeats 400000 in
theorem refBuckets_none (n s : Int) (w : World) (h : n < 1 ∨ s < 1) :
    Calls Try.prog 66 #[.int .i64 n, .int .i64 s] w (OwnRet w 23 2 0 (rv [])) := by
  have H := Lib.hid h
  clear h
  go_enter Try.func66, Try.ntmps66
  go_wp2_with fail
  ((with_reducible refine (refBlocks_none n s _ H.out).mono ?_); rintro e w1 ⟨A, cap, rfl, hown, hb1⟩)
  clear hown
  go_wp2_with fail
  go_loop [6, 7] (fun v x => v = .slice none 0 0 ∧ x = .int .i64 (-1)) (fun _ _ => 0)
  case atStart => exact ⟨rfl, rfl⟩
  case round =>
    obtain ⟨rfl, rfl⟩ := hrel
    go_wp2
    go_ret
    exact ⟨none, 0, rfl, World.ownsRow_nil _ _ _ _, hb1⟩

theorem rev_at (l : List (Int × Int)) (n k : Nat) (hl : l.length = n) (hk : k < n) : l.reverse[k]? = l[n - 1 - k]? := by
  rw [List.getElem?_reverse (by omega), hl]

set_option maxHeartbeats 1000000 in
theorem refBuckets_any (a b : Nat) (w : World) (ha1 : 1 ≤ a) (ha : a ≤ 10000000) (hb1 : 1 ≤ b) (hb : b ≤ 9223372036854775807) :
    Calls Try.prog 66 #[.int .i64 a, .int .i64 b] w (OwnRet w 23 2 (cnt a b) (rv (bucketsL a b))) := by
  have hc := cnt_le a b
  have HL := Lib.hid (blocksL_length a b)
  go_enter Try.func66, Try.ntmps66
  go_wp2_with fail
  ((with_reducible refine (refBlocks_any a b _ (by omega) (by omega) (by omega) (by omega)).mono ?_); rintro e W ⟨A, cap, rfl, hown, hbw⟩)
  have HR := Lib.hid (Rd.of_own hown)
  clear hown
  generalize cnt a b = n at *
  go_wp2_with fail
  go_loopw [6, 7] (fun v c wr => ∃ i : Nat, i ≤ n ∧ c = .int .i64 ((n : Int) - 1 - i) ∧ Coll W 23 (bucketsL a b) i v wr) (fun _ c _ => (intOf c + 1).toNat)
  case atStart => exact ⟨0, by omega, by simp, Coll.start _ _ _⟩
  case round =>
    obtain ⟨i, hi, rfl, hcoll⟩ := hrel
    by_cases hlt : i < n
    · obtain ⟨g, o, x, y, rfl, hbl, hx, c1, c2⟩ := rd_at HL.out (HR.out.below hcoll.2.2) (show n - 1 - i < n by omega)
      have HX : Hid ((bucketsL a b)[i]? = some (x, y)) := Lib.hid (by unfold bucketsL; rw [rev_at _ n i HL.out hlt]; exact hx)
      clear hx
      rw [show (n : Int) - 1 - (i : Int) = ((n - 1 - i : Nat) : Int) by omega]
      obtain ⟨q, hq⟩ : ∃ q, n - 1 - i = q := ⟨_, rfl⟩
      rw [hq] at c1 c2 ⊢
      have hq1 : q < n := by omega
      have HQ := Lib.hid hq
      clear hq
      go_wp2_with (at_builtin; refine wpList_push slRef rfl _ _ rfl W.heap.size _ i (rv ((bucketsL a b).take i)) rfl hcoll.2.1 #[.int .i64 x, .int .i64 y] _ rfl (by simp) rfl (two_cells x y) (by unfold maxLen; omega) (by omega) hcoll.2.2.size ?_; intro A' cap' w1 hown1 hb1)
      go_roundw
      case rel => exact ⟨i + 1, by omega, by have := HQ.out; congr 1; omega, hcoll.next HX hown1 hb1⟩
      case measure => simp [intOf]
    · go_wp2
      go_ret
      exact (hcoll.done (Lib.hid (by unfold bucketsL; rw [List.length_reverse]; exact HL.out)) hi hlt).lift hbw

set_option maxHeartbeats 400000 in
theorem groups_none (n s : Int) (w : World) (hn : -9223372036854775808 ≤ n) (hn2 : n ≤ 1000000000) (hs : s ≤ 9223372036854775807) (h : n < 1 ∨ s < 1) :
    Calls Try.prog 62 #[.int .i64 n, .int .i64 s] w (OwnRet w 33 2 0 (rv ([]))) := by
  have H := Lib.hid h
  clear h
  go_enter Try.func62, Try.ntmps62
  go_wp2_with fail
  ((with_reducible refine (blocks_none n s _ (by omega) (by omega) (by omega) H.out).mono ?_); rintro e w1 ⟨A, cap, rfl, hown, hb1⟩)
  have HO := Lib.hid hown
  clear hown
  go_wp2
  go_ret
  exact ⟨A, cap, rfl, HO.out, hb1⟩

set_option maxHeartbeats 400000 in
theorem groups_any (a b : Nat) (w : World) (ha1 : 1 ≤ a) (ha : a ≤ 10000000) (hb1 : 1 ≤ b) (hb : b ≤ 9223372036854775807) :
    Calls Try.prog 62 #[.int .i64 a, .int .i64 b] w (OwnRet w 33 2 (cnt a b) (rv (blocksL a b))) := by
  go_enter Try.func62, Try.ntmps62
  go_wp2_with fail
  ((with_reducible refine (blocks_any a b _ (by omega) (by omega) (by omega) (by omega)).mono ?_); rintro e w1 ⟨A, cap, rfl, hown, hbw⟩)
  have HO := Lib.hid hown
  clear hown
  go_wp2
  go_ret
  exact ⟨A, cap, rfl, HO.out, hbw⟩

set_option maxHeartbeats 400000 in
theorem refGroups_none (n s : Int) (w : World) (h : n < 1 ∨ s < 1) :
    Calls Try.prog 64 #[.int .i64 n, .int .i64 s] w (OwnRet w 23 2 0 (rv ([]))) := by
  have H := Lib.hid h
  clear h
  go_enter Try.func64, Try.ntmps64
  go_wp2_with fail
  ((with_reducible refine (refBlocks_none n s _ H.out).mono ?_); rintro e w1 ⟨A, cap, rfl, hown, hb1⟩)
  have HO := Lib.hid hown
  clear hown
  go_wp2
  go_ret
  exact ⟨A, cap, rfl, HO.out, hb1⟩

set_option maxHeartbeats 400000 in
theorem refGroups_any (a b : Nat) (w : World) (ha1 : 1 ≤ a) (ha : a ≤ 10000000) (hb1 : 1 ≤ b) (hb : b ≤ 9223372036854775807) :
    Calls Try.prog 64 #[.int .i64 a, .int .i64 b] w (OwnRet w 23 2 (cnt a b) (rv (blocksL a b))) := by
  go_enter Try.func64, Try.ntmps64
  go_wp2_with fail
  ((with_reducible refine (refBlocks_any a b _ (by omega) (by omega) (by omega) (by omega)).mono ?_); rintro e w1 ⟨A, cap, rfl, hown, hbw⟩)
  have HO := Lib.hid hown
  clear hown
  go_wp2
  go_ret
  exact ⟨A, cap, rfl, HO.out, hbw⟩

end Go.Proofs.Ytkecpbdgcbgogaa
