/-
  Segments, Chunks and Messages of package bucket and of its reference.
-/
import Derived.Test.YtkecpbdgcbgogaaCollect
import Derived.Test.YtkecpbdgcbgogaaTail
import Derived.Deep.DeepMust
namespace Go.Proofs.Ytkecpbdgcbgogaa
set_option linter.unusedVariables false
set_option linter.unusedSimpArgs false
open Go.RowKit

/-- 'Even' and 'Blocks' at any numbers. -/
def evenI (n k : Int) : List (Int × Int) := if n < 0 ∨ k < 1 then [] else evenL n.toNat k.toNat
def blocksI (n s : Int) : List (Int × Int) := if n < 1 ∨ s < 1 then [] else blocksL n.toNat s.toNat
theorem evenI_no {n k : Int} (h : n < 0 ∨ k < 1) : evenI n k = [] := if_pos h
theorem evenI_nat (n k : Nat) (h : 1 ≤ k) : evenI n k = evenL n k := by unfold evenI; rw [if_neg (by omega)]; rfl
theorem blocksI_no {n k : Int} (h : n < 1 ∨ k < 1) : blocksI n k = [] := if_pos h
theorem blocksI_nat (n s : Nat) (hn : 1 ≤ n) (h : 1 ≤ s) : blocksI n s = blocksL n s := by unfold blocksI; rw [if_neg (by omega)]; rfl
theorem evenI_length (n k : Int) (hn : 0 ≤ n) : (evenI n k).length = k.toNat := by
  unfold evenI
  split
  · rw [List.length_nil]; omega
  · exact evenL_length _ _
theorem blocksI_length (n s : Int) : (blocksI n s).length = cnt n.toNat s.toNat := by
  unfold blocksI
  split
  · rename_i h
    rw [List.length_nil]
    have := cnt_zero n s h
    omega
  · exact blocksL_length _ _
theorem bnd_le' (n k i : Nat) (hk : 1 ≤ k) (h : i ≤ k) : bnd n k i ≤ n := by
  have := bnd_mono n k i k h
  rw [bnd_k n k hk] at this
  exact this
theorem evenI_small (n k : Int) (hn : n ≤ 1000000000) : SmallR (evenI n k) := by
  unfold evenI
  split
  · intro r hr; cases hr
  · rename_i h
    intro r hr
    obtain ⟨i, hi⟩ := List.mem_iff_getElem?.1 hr
    have hlt : i < k.toNat := by have := (List.getElem?_eq_some_iff.1 hi).1; rwa [evenL_length] at this
    rw [even_at _ _ _ hlt] at hi
    injection hi with hi
    subst hi
    have h1 := bnd_le' n.toNat k.toNat i (by omega) (by omega)
    have h2 := bnd_le' n.toNat k.toNat (i + 1) (by omega) (by omega)
    dsimp only
    omega
theorem blocksI_small (n s : Int) (hn : n ≤ 1000000000) : SmallR (blocksI n s) := by
  unfold blocksI
  split
  · intro r hr; cases hr
  · rename_i h
    intro r hr
    obtain ⟨i, hi⟩ := List.mem_iff_getElem?.1 hr
    have hlt : i < cnt n.toNat s.toNat := by have := (List.getElem?_eq_some_iff.1 hi).1; rwa [blocksL_length] at this
    rw [blocks_at _ _ _ hlt] at hi
    injection hi with hi
    subst hi
    have h1 := (lt_cnt n.toNat s.toNat i (by omega) (by omega)).1 hlt
    dsimp only
    omega

theorem even_all (n k : Int) (w : World) (hn : n ≤ 1000000000) (hk : k ≤ 10000000) :
    Calls Try.prog 73 #[.int .i64 n, .int .i64 k] w (OwnRet w 33 2 (evenI n k).length (rv (evenI n k))) := by
  by_cases h : n < 0 ∨ k < 1
  · rw [evenI_no h]
    exact even_none n k w h
  · obtain ⟨a, rfl⟩ := Int.eq_ofNat_of_zero_le (show 0 ≤ n by omega)
    obtain ⟨b, rfl⟩ := Int.eq_ofNat_of_zero_le (show 0 ≤ k by omega)
    have := even_any a b w (by omega) (by omega) (by omega)
    rw [evenI_nat a b (by omega), evenL_length]
    exact this
theorem refEven_all (n k : Int) (w : World) (hn : n ≤ 1000000000) (hk : k ≤ 10000000) :
    Calls Try.prog 77 #[.int .i64 n, .int .i64 k] w (OwnRet w 23 2 (evenI n k).length (rv (evenI n k))) := by
  by_cases h : n < 0 ∨ k < 1
  · rw [evenI_no h]
    exact refEven_none n k w h
  · obtain ⟨a, rfl⟩ := Int.eq_ofNat_of_zero_le (show 0 ≤ n by omega)
    obtain ⟨b, rfl⟩ := Int.eq_ofNat_of_zero_le (show 0 ≤ k by omega)
    have := refEven_any a b w (by omega) (by omega) (by omega)
    rw [evenI_nat a b (by omega), evenL_length]
    exact this
theorem blocks_all (n s : Int) (w : World) (hn0 : -9223372036854775808 ≤ n) (hn : n ≤ 10000000) (hs : s ≤ 9223372036854775807) :
    Calls Try.prog 75 #[.int .i64 n, .int .i64 s] w (OwnRet w 33 2 (blocksI n s).length (rv (blocksI n s))) := by
  by_cases h : n < 1 ∨ s < 1
  · rw [blocksI_no h]
    exact blocks_none n s w (by omega) (by omega) (by omega) h
  · obtain ⟨a, rfl⟩ := Int.eq_ofNat_of_zero_le (show 0 ≤ n by omega)
    obtain ⟨b, rfl⟩ := Int.eq_ofNat_of_zero_le (show 0 ≤ s by omega)
    have := blocks_any a b w (by omega) (by omega) (by omega) (by omega)
    rw [blocksI_nat a b (by omega) (by omega), blocksL_length]
    exact this
theorem refBlocks_all (n s : Int) (w : World) (hn : n ≤ 10000000) (hs : s ≤ 9223372036854775807) :
    Calls Try.prog 78 #[.int .i64 n, .int .i64 s] w (OwnRet w 23 2 (blocksI n s).length (rv (blocksI n s))) := by
  by_cases h : n < 1 ∨ s < 1
  · rw [blocksI_no h]
    exact refBlocks_none n s w h
  · obtain ⟨a, rfl⟩ := Int.eq_ofNat_of_zero_le (show 0 ≤ n by omega)
    obtain ⟨b, rfl⟩ := Int.eq_ofNat_of_zero_le (show 0 ≤ s by omega)
    have := refBlocks_any a b w (by omega) (by omega) (by omega) (by omega)
    rw [blocksI_nat a b (by omega) (by omega), blocksL_length]
    exact this

def segsL (lo hi k : Int) : List (Int × Int) := shiftL (evenI (hi - lo) k) lo
def chunksL (lo hi s : Int) : List (Int × Int) := shiftL (blocksI (hi - lo) s) lo
theorem segsL_length (lo hi k : Int) (h : lo ≤ hi) : (segsL lo hi k).length = k.toNat := by rw [segsL, shiftL_length, evenI_length _ _ (by omega)]
theorem cnt_le' (n s : Int) (hn : n ≤ 10000000) : cnt n.toNat s.toNat ≤ 10000000 := by have := cnt_le n.toNat s.toNat; omega
theorem chunksL_length (lo hi s : Int) : (chunksL lo hi s).length = cnt (hi - lo).toNat s.toNat := by rw [chunksL, shiftL_length, blocksI_length]

set_option maxHeartbeats 1000000 in
theorem segments_any (lo hi k : Int) (w : World) (h0 : 0 ≤ lo) (h1 : lo ≤ hi) (h2 : hi ≤ 1000000) (hk : k ≤ 10000000) :
    Calls Try.prog 47 #[.agg #[.int .i64 lo, .int .i64 hi], .int .i64 k] w (OwnRet w 33 2 (segsL lo hi k).length (rv (segsL lo hi k))) := by
  obtain ⟨W0, hW0⟩ : ∃ W0, w.alloc (.cells #[.int .i64 lo, .int .i64 hi] 33) = W0 := ⟨_, rfl⟩
  have k0 : Below w.heap.size w W0 := by rw [← hW0]; exact (Below.refl _ _).alloc (Nat.le_refl _) _
  have b0 : Blk W0 w.heap.size 33 #[.int .i64 lo, .int .i64 hi] := by rw [← hW0]; exact Blk.new _ _ _
  have c0 : W0.cell? ⟨w.heap.size, 0, none⟩ = some (.int .i64 lo) := b0.cell 0
  have c1 : W0.cell? ⟨w.heap.size, 1, none⟩ = some (.int .i64 hi) := b0.cell 1
  have lt0 := b0.lt
  have hn : max (hi - lo) 0 = hi - lo := by omega
  obtain ⟨d, hd⟩ : ∃ d, hi - lo = d := ⟨_, rfl⟩
  have C1 := fun W => size_any lo hi W (by omega) (by omega) (by omega) (by omega)
  rw [hn, hd] at C1
  have HC1 := Lib.hid C1
  have HC2 := Lib.hid (fun W => even_all d k W (by omega) hk)
  have HL := Lib.hid (evenI_length d k (by omega))
  have HS := Lib.hid (evenI_small d k (by omega))
  have hb : 0 ≤ lo ∧ lo ≤ 1000000000 := by omega
  have HK0 := Lib.hid k0
  have HD := Lib.hid hd
  have hkn : k.toNat ≤ 10000000 := by omega
  clear hn C1 k0 b0 hd
  go_enter Try.func47, Try.ntmps47
  go_wp2_with fail
  clear hW0
  go_region_held3 (fun w' => Kept W0 w') (first | exact kk | exact kk.alloc _ | exact Kept.start W0) (first
    | (go_at_call 74; (with_reducible refine (HC1.out _).mono ?_); rintro e w1 ⟨rfl, hb1⟩; have kk := (Kept.start W0).call hb1; clear hb1)
    | (go_at_call 73; (with_reducible refine (HC2.out _).mono ?_); rintro e w2 ⟨A, c, rfl, hown, hb2⟩; replace kk := kk.call hb2; have HR := Lib.hid (Rd.of_own hown); clear hown hb2)
    | (go_at_call 72; (with_reducible refine (later_any _ _ _ _ _).mono ?_); rintro e w3 ⟨rfl, l1, l2, l3, l4, hb3⟩; replace kk := kk.call hb3; have HCo := Lib.hid (fun W hW => collectLater A _ c (evenI d k) lo w2 w3 (by rw [HL.out]; exact hkn) rfl HS.out hb HR.out hb3 l1 l2 l3 l4 W hW); clear l1 l2 l3 l4 hb3)
    | (go_at_call 71; (with_reducible refine (HCo.out _ (Below.refl _ _)).mono ?_); rintro e w4 ⟨A', c', rfl, hown4, hb4⟩; have HO4 := Lib.hid (own_base hown4 kk.2.1); replace kk := kk.call hb4; clear hown4 hb4))
  all_goals go_wp2_with fail
  all_goals go_ret
  all_goals
    have e : segsL lo hi k = shiftL (evenI d k) lo := by rw [segsL, HD.out]
    rw [e, shiftL_length]
    exact ⟨A', c', rfl, own_base HO4.out HK0.out.size, ((Kept.of HK0.out).call kk.2.2).2.2⟩

set_option maxHeartbeats 1000000 in
theorem chunks_any (lo hi k : Int) (w : World) (h0 : 0 ≤ lo) (h1 : lo ≤ hi) (h2 : hi ≤ 1000000) (hk : k ≤ 9223372036854775807) :
    Calls Try.prog 48 #[.agg #[.int .i64 lo, .int .i64 hi], .int .i64 k] w (OwnRet w 33 2 (chunksL lo hi k).length (rv (chunksL lo hi k))) := by
  obtain ⟨W0, hW0⟩ : ∃ W0, w.alloc (.cells #[.int .i64 lo, .int .i64 hi] 33) = W0 := ⟨_, rfl⟩
  have k0 : Below w.heap.size w W0 := by rw [← hW0]; exact (Below.refl _ _).alloc (Nat.le_refl _) _
  have b0 : Blk W0 w.heap.size 33 #[.int .i64 lo, .int .i64 hi] := by rw [← hW0]; exact Blk.new _ _ _
  have c0 : W0.cell? ⟨w.heap.size, 0, none⟩ = some (.int .i64 lo) := b0.cell 0
  have c1 : W0.cell? ⟨w.heap.size, 1, none⟩ = some (.int .i64 hi) := b0.cell 1
  have lt0 := b0.lt
  have hn : max (hi - lo) 0 = hi - lo := by omega
  obtain ⟨d, hd⟩ : ∃ d, hi - lo = d := ⟨_, rfl⟩
  have C1 := fun W => size_any lo hi W (by omega) (by omega) (by omega) (by omega)
  rw [hn, hd] at C1
  have HC1 := Lib.hid C1
  have HC2 := Lib.hid (fun W => blocks_all d k W (by omega) (by omega) hk)
  have HL := Lib.hid (blocksI_length d k)
  have HS := Lib.hid (blocksI_small d k (by omega))
  have hb : 0 ≤ lo ∧ lo ≤ 1000000000 := by omega
  have HK0 := Lib.hid k0
  have HD := Lib.hid hd
  have hkn : cnt d.toNat k.toNat ≤ 10000000 := cnt_le' d k (by omega)
  clear hn C1 k0 b0 hd
  go_enter Try.func48, Try.ntmps48
  go_wp2_with fail
  clear hW0
  go_region_held3 (fun w' => Kept W0 w') (first | exact kk | exact kk.alloc _ | exact Kept.start W0) (first
    | (go_at_call 74; (with_reducible refine (HC1.out _).mono ?_); rintro e w1 ⟨rfl, hb1⟩; have kk := (Kept.start W0).call hb1; clear hb1)
    | (go_at_call 75; (with_reducible refine (HC2.out _).mono ?_); rintro e w2 ⟨A, c, rfl, hown, hb2⟩; replace kk := kk.call hb2; have HR := Lib.hid (Rd.of_own hown); clear hown hb2)
    | (go_at_call 72; (with_reducible refine (later_any _ _ _ _ _).mono ?_); rintro e w3 ⟨rfl, l1, l2, l3, l4, hb3⟩; replace kk := kk.call hb3; have HCo := Lib.hid (fun W hW => collectLater A _ c (blocksI d k) lo w2 w3 (by rw [HL.out]; exact hkn) rfl HS.out hb HR.out hb3 l1 l2 l3 l4 W hW); clear l1 l2 l3 l4 hb3)
    | (go_at_call 71; (with_reducible refine (HCo.out _ (Below.refl _ _)).mono ?_); rintro e w4 ⟨A', c', rfl, hown4, hb4⟩; have HO4 := Lib.hid (own_base hown4 kk.2.1); replace kk := kk.call hb4; clear hown4 hb4))
  all_goals go_wp2_with fail
  all_goals go_ret
  all_goals
    have e : chunksL lo hi k = shiftL (blocksI d k) lo := by rw [chunksL, HD.out]
    rw [e, shiftL_length]
    exact ⟨A', c', rfl, own_base HO4.out HK0.out.size, ((Kept.of HK0.out).call kk.2.2).2.2⟩

/-- What a row of ranges is when they are moved. -/
theorem wrap_ok (x : Int) (h0 : -1000000000000 ≤ x) (h1 : x ≤ 1000000000000) : IntKind.i64.wrap x = x := IntWalk.i64_in _ (by omega)

set_option maxHeartbeats 1000000 in
theorem shifted_any (A : Option Addr) (n cap : Nat) (l : List (Int × Int)) (b : Int) (w : World) (hl : l.length = n) (h : Rd w 2 A n (rv l)) (hn : n ≤ 10000000) (hsm : SmallR l) (hb0 : 0 ≤ b) (hb1 : b ≤ 1000000000) :
    Calls Try.prog 76 #[.slice A n cap, .int .i64 b] w (OwnRet w 23 2 n (rv (shiftL l b))) := by
  have HL := Lib.hid hl
  have HSL := Lib.hid ((shiftL_length l b).trans hl)
  have HR := Lib.hid h
  clear hl h
  go_enter Try.func76, Try.ntmps76
  go_wp2_with fail
  go_loopw [5, 6] (fun v c wr => ∃ k : Nat, k ≤ n ∧ c = .int .i64 k ∧ Coll w 23 (shiftL l b) k v wr) (fun _ c _ => n - (intOf c).toNat)
  case atStart => exact ⟨0, by omega, rfl, Coll.start _ _ _⟩
  case round =>
    obtain ⟨k, hk, rfl, hcoll⟩ := hrel
    by_cases hlt : k < n
    · obtain ⟨g, o, x, y, rfl, hbl, hx, c1, c2⟩ := rd_at HL.out (HR.out.below hcoll.2.2) hlt
      obtain ⟨⟨x0, x1⟩, y0, y1⟩ := hsm.at hx
      have HX := Lib.hid (shiftL_get l b k x y hx)
      have zx := wrap_ok (x + b) (by omega) (by omega)
      have zy := wrap_ok (y + b) (by omega) (by omega)
      have i1 : (0 : Int) ≤ (k : Int) := by omega
      have i2 : (k : Int) < (n : Int) := by omega
      clear hx
      go_wp2_with fail
      refine wp_region_mix' wr [0] [1, 2, 3, 4, 5, 6, 7, 8, 9, 10, 11, 12, 13, 14, 15] 16 [17, 18] (by kernel_rfl) (by kernel_rfl) (by kernel_rfl) (Kept.of (Below.refl _ _)) ?_
      refine ⟨_, _, rfl, .inl ⟨rfl, fun w => rfl⟩, ?_⟩
      simp only [PureW, List.filterMap_cons, List.filterMap_nil, List.getElem?_cons_succ, List.getElem?_cons_zero]
      go_simp
      change wpQuiet _ _ _ _ (_ :: _ :: _ :: _ :: _ :: _ :: _ :: _ :: _ :: _ :: _ :: _ :: _ :: _ :: _ :: []) _
      have KC := fun (u : KW wr) b o h => KW.cells u b o h
      iterate 15 (go_big_quiet_step (fail))
      refine wpQuiet_nil ?_
      rintro ⟨w1, k1⟩
      change wpList _ _ _ (_ :: _ :: _ :: []) _ _
      dsimp only
      clear KC
      have HO1 := Lib.hid (own_below hcoll.2.1 k1.2.2)
      have HK1 := Lib.hid k1.2.2
      have hz1 : w.heap.size ≤ w1.heap.size := Nat.le_trans hcoll.2.2.size k1.2.1
      clear k1
      go_wp2_with (at_builtin; go_must (refine wpList_push slRef rfl _ _ rfl w.heap.size _ k (rv ((shiftL l b).take k)) rfl HO1.out #[.int .i64 (x + b), .int .i64 (y + b)] w1.heap.size rfl rfl rfl (two_cells _ _) (by unfold maxLen; omega) (by omega) hz1 ?_); intro A' cap' w2 hown1 hb1)
      refine NoPanic.normal ?_
      go_wp2_with fail
      go_roundw
      case rel => exact ⟨k + 1, by omega, by go_num, hcoll.next HX hown1 ((HK1.out.mono hcoll.2.2.size).trans hb1)⟩
      case measure => simp [intOf]; omega
    · go_wp2
      go_ret
      exact hcoll.done HSL hk hlt

end Go.Proofs.Ytkecpbdgcbgogaa
