/-
  Shuffle: the identity, an exchange, and the whole with draws that suffice.
-/
import Derived.Test.YtncjfijpaheobaaPermPlain
namespace Go.Proofs.Ytncjfijpaheobaa
set_option linter.unusedVariables false
set_option linter.unusedSimpArgs false
set_option maxRecDepth 100000
open Go.RowKit

/-- 0, 1, 2 and so on. -/
def iotaL (n : Nat) : List Int := (List.range n).map fun j : Nat => (j : Int)
theorem iotaL_length (n : Nat) : (iotaL n).length = n := by simp [iotaL]
theorem iotaL_get (n i : Nat) (h : i < n) : (iotaL n)[i]? = some (i : Int) := by simp [iotaL, h]
theorem iotaL_succ (n : Nat) : iotaL (n + 1) = iotaL n ++ [(n : Int)] := by simp [iotaL, List.range_succ]
theorem iv_iota_succ (n : Nat) : iv (iotaL (n + 1)) = iv (iotaL n) ++ [.int .i64 n] := by rw [iotaL_succ, iv_append]; rfl

set_option maxHeartbeats 400000 in
theorem identity_any (n : Nat) (w : World) (hn : n ≤ 1000000) :
    Calls Try.prog 56 #[.int .i64 n] w (OwnRet w 3 1 n (iv (iotaL n))) := by
  go_enter Try.func56, Try.ntmps56
  go_wp2_with fail
  go_loopw [3, 6] (fun v c wr => ∃ j : Nat, j ≤ n ∧ c = .int .i64 j ∧ (∃ A' c', v = .slice A' j c') ∧ wr.ownsRow w.heap.size 3 1 v j (iv (iotaL j)) ∧ Below w.heap.size w wr) (fun _ c _ => n - (intOf c).toNat)
  case atStart => exact ⟨0, by omega, rfl, ⟨none, 0, rfl⟩, by simpa [iv, iotaL] using World.ownsRow_nil _ _ _ _, Below.refl _ _⟩
  case round =>
    obtain ⟨j, hj, rfl, ⟨A', c', rfl⟩, hown, hb⟩ := hrel
    by_cases hlt : j < n
    · have hsz := hb.size
      have HO := Lib.hid hown
      have HB := Lib.hid hb
      have HT := Lib.hid (iv_iota_succ j)
      clear hown hb
      go_wp2_with (at_builtin; go_must (refine wpList_push slInt rfl _ _ rfl w.heap.size _ j (iv (iotaL j)) rfl HO.out #[.int .i64 j] _ rfl rfl rfl (uone_int _) (by unfold maxLen; omega) (by omega) hsz ?_); intro A2 c2 w2 hown2 hb2)
      go_roundw
      case rel => exact ⟨j + 1, by omega, by go_num, ⟨A2, c2, rfl⟩, by rw [HT.out]; exact hown2, HB.out.trans hb2⟩
      case measure => simp [intOf]; omega
    · obtain rfl : j = n := by omega
      go_wp2
      go_ret
      exact ⟨A', c', rfl, hown, hb⟩

/-- Two numbers of a list exchanged. -/
def swapL (l : List Int) (i j : Nat) : List Int := (l.set i (l.getD j 0)).set j (l.getD i 0)
theorem swapL_length (l : List Int) (i j : Nat) : (swapL l i j).length = l.length := by simp [swapL]

theorem own_store1 {w : World} {base : Nat} {e : TypeId} {g n cap : Nat} {l : List Int} (h : w.ownsRow base e 1 (.slice (some ⟨g, 0, none⟩) n cap) n (iv l)) (k j : Nat) (x y : Int) :
    (((w.setCell ⟨g, k, none⟩ (.int .i64 x)).setCell ⟨g, j, none⟩ (.int .i64 y))).ownsRow base e 1 (.slice (some ⟨g, 0, none⟩) n cap) n (iv ((l.set k x).set j y)) ∧
    w.grownBy ((w.setCell ⟨g, k, none⟩ (.int .i64 x)).setCell ⟨g, j, none⟩ (.int .i64 y)) (some g) := by
  obtain ⟨s1, g1⟩ := h.stored k (.int .i64 x)
  obtain ⟨s2, g2⟩ := s1.stored j (.int .i64 y)
  rw [← iv_set, ← iv_set]
  exact ⟨s2, g1.trans g2⟩

set_option maxHeartbeats 1000000 in
theorem swap_any (gh g n c base i j : Nat) (l : List Int) (w : World) (hl : l.length = n) (hn : n ≤ 1000000) (hi : i < n) (hj : j < n) (hh : Blk w gh 23 #[.slice (some ⟨g, 0, none⟩) n c]) (hne : gh ≠ g) (hown : w.ownsRow base 3 1 (.slice (some ⟨g, 0, none⟩) n c) n (iv l)) :
    Calls Try.prog 57 #[.int .i64 i, .int .i64 j, .pointer (some ⟨gh, 0, none⟩)] w fun e w' => e = .returned (.tuple #[]) ∧ w'.ownsRow base 3 1 (.slice (some ⟨g, 0, none⟩) n c) n (iv (swapL l i j)) ∧ w.grownBy w' (some g) := by
  have h0 : w.cell? ⟨gh, 0, none⟩ = some (.slice (some ⟨g, 0, none⟩) n c) := hh.cell 0
  obtain ⟨x, hx⟩ : ∃ x, l[i]? = some x := ⟨_, List.getElem?_eq_getElem (by omega)⟩
  obtain ⟨y, hy⟩ : ∃ y, l[j]? = some y := ⟨_, List.getElem?_eq_getElem (by omega)⟩
  have c1 : w.cell? ⟨g, i, none⟩ = some (.int .i64 x) := (hown.cellAt i (by omega)).trans (by rw [iv, List.getElem?_map, hx]; rfl)
  have c2 : w.cell? ⟨g, j, none⟩ = some (.int .i64 y) := (hown.cellAt j (by omega)).trans (by rw [iv, List.getElem?_map, hy]; rfl)
  have f1 := hown.frozenAt i
  have f2 := hown.frozenAt j
  have lh := hh.lt
  have HO := Lib.hid hown
  have i1 : (0 : Int) ≤ (i : Int) := by omega
  have i2 : (i : Int) < (n : Int) := by omega
  have i3 : (0 : Int) ≤ (j : Int) := by omega
  have i4 : (j : Int) < (n : Int) := by omega
  have HE : Hid (swapL l i j = (l.set i y).set j x) := Lib.hid (by simp [swapL, List.getD, hx, hy])
  clear hh hown hl hx hy
  by_cases e : i = j
  · subst e
    obtain rfl : x = y := by rw [c1] at c2; injection c2 with e; injection e
    go_enter Try.func57, Try.ntmps57
    go_wp2_with fail
    go_region
    go_wp2
    go_end0
    rw [HE.out]
    have h := own_store1 HO.out i i x x
    exact ⟨rfl, h.1, h.2.os, h.2.tape, h.2.output, h.2.size, h.2.block⟩
  · go_enter Try.func57, Try.ntmps57
    go_wp2_with fail
    go_region
    go_wp2
    go_end0
    rw [HE.out]
    have h := own_store1 HO.out i j y x
    exact ⟨rfl, h.1, h.2.os, h.2.tape, h.2.output, h.2.size, h.2.block⟩

/-- The bounds that Shuffle draws below. -/
def bndsL (n k : Nat) : List Int := (List.range k).map fun j : Nat => (n : Int) - (j : Int)
theorem bndsL_length (n k : Nat) : (bndsL n k).length = k := by simp [bndsL]
theorem bndsL_get (n k j : Nat) (h : j < k) : (bndsL n k)[j]? = some ((n : Int) - (j : Int)) := by simp [bndsL, h]
theorem iv_bnds_succ (n k : Nat) (m : Int) (h : (n : Int) - (k : Int) = m) : iv (bndsL n (k + 1)) = iv (bndsL n k) ++ [.int .i64 m] := by
  subst h
  simp [bndsL, List.range_succ, iv]
theorem bnds_low (n k : Nat) (h : k ≤ n) : anyLow (bndsL n k) = false := by
  refine low_none (bndsL_length n k) (fun j x hj hx => ?_)
  rw [bndsL_get n k j hj] at hx
  injection hx with hx
  omega
/-- The list behind k exchanges. -/
def shufTo (n : Nat) (ds : List Int) : Nat → List Int
  | 0 => iotaL n
  | k + 1 => swapL (shufTo n ds k) (n - 1 - k) (ds.getD k 0).toNat
theorem shufTo_length (n : Nat) (ds : List Int) : ∀ k, (shufTo n ds k).length = n
  | 0 => iotaL_length n
  | k + 1 => by rw [shufTo, swapL_length, shufTo_length n ds k]

def ShufRet (w : World) (b n : Nat) (l : List Int) (e : Ending) (w' : World) : Prop :=
  ∃ A' c', e = .returned (.tuple #[.slice A' n c', .bool true]) ∧ w'.ownsRow w.heap.size 3 1 (.slice A' n c') n (iv l) ∧ w.grownBy w' (some b)

set_option maxHeartbeats 4000000 in
theorem shuffle_some (b N cap n : Nat) (A : Option Addr) (L : List Int) (w : World) (hst : Stm w b A N cap 0 L) (hn : n ≤ 1000) (hN : n - 1 ≤ N) (hN2 : N ≤ 10000000) :
    Calls Try.prog 38 #[.int .i64 n, .pointer (some ⟨b, 0, none⟩)] w (ShufRet w b n (shufTo n (manyL L 0 (bndsL n (n - 1))) (n - 1))) := by
  obtain ⟨m, hm⟩ : ∃ m, n - 1 = m := ⟨_, rfl⟩
  rw [hm] at hN ⊢
  obtain ⟨ds, hds⟩ : ∃ ds, manyL L 0 (bndsL n m) = ds := ⟨_, rfl⟩
  have hlen : L.length = N := hst.len
  have hdl : ds.length = m := by rw [← hds, manyL_length _ _ _ (by rw [bndsL_length]; omega), bndsL_length]
  have hdv : ∀ j, j < m → ∃ d : Nat, ds[j]? = some (d : Int) ∧ d < n := fun j hj => by
    obtain ⟨x, hx⟩ : ∃ x, L[0 + j]? = some x := ⟨_, List.getElem?_eq_getElem (by omega)⟩
    have h := manyL_get L 0 (bndsL n m) j x _ hx (bndsL_get n m j hj)
    rw [hds] at h
    have h1 := Int.emod_nonneg x (show (n : Int) - (j : Int) ≠ 0 by omega)
    have h2 := Int.emod_lt_of_pos x (show 0 < (n : Int) - (j : Int) by omega)
    exact ⟨(x % ((n : Int) - (j : Int))).toNat, by rw [h]; congr 1; omega, by omega⟩
  have HM := Lib.hid (fun B d W (s : Stm W b A N cap 0 L) hr hB => many_some b A B N cap 0 m d L (bndsL n m) W s (by omega) (bndsL_length n m) hr hB (by omega) (bnds_low n m (by omega)) (fun x hx => by
    obtain ⟨j, hj, e⟩ := List.mem_map.1 hx
    have e' : (n : Int) - (j : Int) = x := e
    omega))
  have HS := Lib.hid hst
  have HD := Lib.hid hds
  have HDL := Lib.hid hdl
  have HDV := Lib.hid hdv
  have hmn : m ≤ n := by omega
  have HMN := Lib.hid hm
  have hblt := hst.blk.lt
  clear hst hds hdl hdv hlen hm
  go_enter Try.func38, Try.ntmps38
  go_wp2_with fail
  go_loopw [6, 7] (fun v c wr => ∃ k q : Nat, k ≤ m ∧ k + q = n ∧ c = .int .i64 q ∧ (∃ A' c', v = .slice A' k c') ∧ wr.ownsRow w.heap.size 3 1 v k (iv (bndsL n k)) ∧ Below w.heap.size w wr) (fun _ c _ => (intOf c).toNat)
  case atStart => exact ⟨0, n, by omega, by omega, rfl, ⟨none, 0, rfl⟩, by simpa [iv, bndsL] using World.ownsRow_nil _ _ _ _, Below.refl _ _⟩
  case round =>
    obtain ⟨k, q, hk, hq, rfl, ⟨A', c', rfl⟩, hown, hb⟩ := hrel
    have hmm := HMN.out
    by_cases hlt : k < m
    · have hq1 : 1 < q := by omega
      have hq2 : q ≤ 1000 := by omega
      have hsz := hb.size
      have HO := Lib.hid hown
      have HB := Lib.hid hb
      have HT := Lib.hid (iv_bnds_succ n k q (by omega))
      have HQ := Lib.hid (And.intro hq hq1)
      clear hown hb hq
      go_wp2_with (at_builtin; go_must (refine wpList_push slInt rfl _ _ rfl w.heap.size _ k (iv (bndsL n k)) rfl HO.out #[.int .i64 q] _ rfl rfl rfl (uone_int _) (by unfold maxLen; omega) (by omega) hsz ?_); intro A2 c2 w2 hown2 hb2)
      go_roundw
      case rel => exact ⟨k + 1, q - 1, by omega, by have := HQ.out; omega, by have := HQ.out; go_num, ⟨A2, c2, rfl⟩, by rw [HT.out]; exact hown2, HB.out.trans hb2⟩
      case measure => have := HQ.out; simp [intOf]; omega
    · obtain rfl : k = m := by omega
      have hq1 : q ≤ 1 := by omega
      have hsz := hb.size
      have HST := Lib.hid (show Stm wr b A N cap 0 L from HS.out.kept hb)
      have HB := Lib.hid hb
      have hob : ∀ b' o, A' = some ⟨b', o, none⟩ → 0 < k → b' ≠ b := fun b' o e h => by
        have := (own_rd_block hown b' o e).1
        omega
      have C := HM.out A' c' wr HST.out (Rd.of_own hown) hob
      rw [HD.out, Nat.zero_add] at C
      have HC := Lib.hid C
      have HN := Lib.hid hq
      clear hown hb hob C hmm hq
      go_wp2_with fail
      ((with_reducible refine HC.out.mono ?_); rintro e w2 ⟨A2, c2, rfl, hown2, hg2, hblk2⟩)
      have HO2 := Lib.hid hown2
      have HG2 := Lib.hid (gr_below_first HB.out hg2)
      have HBK := Lib.hid hblk2
      clear hown2 hg2 hblk2
      go_wp2_with fail
      ((with_reducible refine (identity_any n w2 (by omega)).mono ?_); rintro e w3 ⟨A3, c3, rfl, hown3, hb3⟩)
      have HO3 := Lib.hid hown3
      have HB3 := Lib.hid hb3
      clear hown3 hb3
      go_wp2_with fail
      have h5 : Blk (w3.alloc (.cells #[.slice A3 n c3] 23)) w3.heap.size 23 #[.slice A3 n c3] := Blk.new _ _ _
      have hb5 : Below w3.heap.size w3 (w3.alloc (.cells #[.slice A3 n c3] 23)) := (Below.refl _ _).alloc (Nat.le_refl _) _
      obtain ⟨W5, hW5⟩ : ∃ W5, w3.alloc (.cells #[.slice A3 n c3] 23) = W5 := ⟨_, rfl⟩
      rw [hW5] at h5 hb5 ⊢
      obtain ⟨gh, hgh⟩ : ∃ gh, w3.heap.size = gh := ⟨_, rfl⟩
      rw [hgh] at h5 ⊢
      have h25 : Below w2.heap.size w2 W5 := ((Kept.of HB3.out).call hb5).2.2
      have hs2 : w.heap.size ≤ w2.heap.size := HG2.out.size
      have hs3 : w2.heap.size ≤ w3.heap.size := HB3.out.size
      have h2lt : ∀ b' o, A2 = some ⟨b', o, none⟩ → b' < w2.heap.size := fun b' o e => (own_rd_block HO2.out b' o e).2
      have HA2 := Lib.hid h2lt
      have HOB : Hid (∀ q, (Value.slice A3 n c3).ownBlock = some q → w2.heap.size ≤ q ∧ q < gh) := Lib.hid (fun q e => by have := HO3.out.lt q e; omega)
      have HA3 : Hid (∀ b' o, A3 = some ⟨b', o, none⟩ → b' < gh) := Lib.hid (fun b' o e => by have := (own_rd_block HO3.out b' o e).2; omega)
      have HH := Lib.hid h5
      have HD5 := Lib.hid ((Rd.of_own HO2.out).below h25)
      have HO5 := Lib.hid (own_below HO3.out hb5)
      have H25 := Lib.hid h25
      have HGH := Lib.hid hgh
      clear h5 hb5 h25 hgh hW5 h2lt HO2 HO3 HB3 HC HM HB HST
      go_loopw [46] (fun c wr => ∃ j : Nat, j ≤ k ∧ c = .int .i64 j ∧ wr.ownsRow w2.heap.size 3 1 (.slice A3 n c3) n (iv (shufTo n ds j)) ∧ W5.grownBy wr (Value.slice A3 n c3).ownBlock) (fun c _ => k - (intOf c).toNat)
      case atStart => exact ⟨0, by omega, rfl, HO5.out, World.grownBy.refl _ _⟩
      case round =>
        obtain ⟨j, hj, rfl, ho, hg⟩ := hrel
        by_cases hlt2 : j < k
        · obtain ⟨_, _, q1, q2, q3, q6⟩ := own_form ho
          injection q1 with q4 _ q5
          subst q4 q5
          obtain ⟨g, rfl, hg3, hg4⟩ := q6 (by omega)
          have hg' : W5.grownBy wr (some g) := hg
          have hgh := HA3.out g 0 rfl
          obtain ⟨b2, o2, y, hBe, hbl2, hy, cy⟩ := iv_at HDL.out (HD5.out.grown hg' (fun b' o e h0 => by have := HA2.out b' o e; omega)) hlt2
          subst hBe
          obtain ⟨d, hd, hdn⟩ := HDV.out j hlt2
          obtain rfl : y = (d : Int) := by rw [hd] at hy; injection hy with e; exact e.symm
          have hh := HH.out.grown hg' (by simp; omega)
          obtain ⟨i, hi⟩ : ∃ i, i + j + 1 = n := ⟨n - 1 - j, by omega⟩
          have C := swap_any gh g n c3 w2.heap.size i d (shufTo n ds j) wr (shufTo_length n ds j) (by omega) (by omega) hdn hh (by omega) ho
          rw [show swapL (shufTo n ds j) i d = shufTo n ds (j + 1) by
            rw [shufTo, show n - 1 - j = i by omega]
            simp [List.getD, hd]] at C
          have HSW := Lib.hid C
          have HG := Lib.hid hg'
          have HI := Lib.hid hi
          clear C ho hg hg' hh hd hy hi q6
          go_wp2_with fail
          rw [show (n : Int) - 1 - (j : Int) = (i : Int) by have := HI.out; omega]
          ((with_reducible refine HSW.out.mono ?_); rintro e w6 ⟨rfl, ho6, hg6⟩)
          go_wp2_with fail
          go_roundw
          case rel => exact ⟨j + 1, by omega, by go_num, ho6, HG.out.trans hg6⟩
          case measure => simp [intOf]; omega
        · obtain rfl : j = k := by omega
          have hgl : W5.heap.size ≤ wr.heap.size := hg.size
          have hh := HH.out.grown hg (fun e => by have := HOB.out gh e.symm; omega)
          have x0 : wr.cell? ⟨gh, 0, none⟩ = some (.slice A3 n c3) := hh.cell 0
          have lh := hh.lt
          have hb5 : Below w.heap.size w2 wr := by
            refine (H25.out.mono hs2).grown hg (by have := H25.out.size; omega) (fun q e => by have := HOB.out q e; omega)
          have HF := Lib.hid (gr_below HG2.out hb5)
          have HOF := Lib.hid (own_base ho hs2)
          clear hh ho hg hb5
          go_wp2_with fail
          go_ret2
          exact ⟨A3, c3, rfl, by rw [HD.out]; exact HOF.out, HF.out⟩

end Go.Proofs.Ytncjfijpaheobaa
