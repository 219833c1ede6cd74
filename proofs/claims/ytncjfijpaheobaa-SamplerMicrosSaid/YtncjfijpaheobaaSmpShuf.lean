/-
  Shuffle from any place of the stream, and with too few draws.
-/
import Derived.Test.YtncjfijpaheobaaPermShuf
namespace Go.Proofs.Ytncjfijpaheobaa
set_option linter.unusedVariables false
set_option linter.unusedSimpArgs false
set_option maxRecDepth 100000
open Go.RowKit

/-- A permutation comes back, and the stream stands behind its draws. -/
def ShufAt (w : World) (b : Nat) (A : Option Addr) (N cap n k : Nat) (L l : List Int) (e : Ending) (w' : World) : Prop :=
  ∃ A' c', e = .returned (.tuple #[.slice A' n c', .bool true]) ∧ w'.ownsRow w.heap.size 3 1 (.slice A' n c') n (iv l) ∧ w.grownBy w' (some b) ∧ Stm w' b A N cap k L

set_option maxHeartbeats 4000000 in
theorem shuffle_at (b N cap n s : Nat) (A : Option Addr) (L : List Int) (w : World) (hst : Stm w b A N cap s L) (hn : n ≤ 1000) (hN : s + (n - 1) ≤ N) (hN2 : N ≤ 10000000) :
    Calls Try.prog 38 #[.int .i64 n, .pointer (some ⟨b, 0, none⟩)] w (ShufAt w b A N cap n (s + (n - 1)) L (shufTo n (manyL L s (bndsL n (n - 1))) (n - 1))) := by
  obtain ⟨m, hm⟩ : ∃ m, n - 1 = m := ⟨_, rfl⟩
  rw [hm] at hN ⊢
  obtain ⟨ds, hds⟩ : ∃ ds, manyL L s (bndsL n m) = ds := ⟨_, rfl⟩
  have hlen : L.length = N := hst.len
  have hdl : ds.length = m := by rw [← hds, manyL_length _ _ _ (by rw [bndsL_length]; omega), bndsL_length]
  have hdv : ∀ j, j < m → ∃ d : Nat, ds[j]? = some (d : Int) ∧ d < n := fun j hj => by
    obtain ⟨x, hx⟩ : ∃ x, L[s + j]? = some x := ⟨_, List.getElem?_eq_getElem (by omega)⟩
    have h := manyL_get L s (bndsL n m) j x _ hx (bndsL_get n m j hj)
    rw [hds] at h
    have h1 := Int.emod_nonneg x (show (n : Int) - (j : Int) ≠ 0 by omega)
    have h2 := Int.emod_lt_of_pos x (show 0 < (n : Int) - (j : Int) by omega)
    exact ⟨(x % ((n : Int) - (j : Int))).toNat, by rw [h]; congr 1; omega, by omega⟩
  have HM := Lib.hid (fun B d W (s' : Stm W b A N cap s L) hr hB => many_some b A B N cap s m d L (bndsL n m) W s' (by omega) (bndsL_length n m) hr hB (by omega) (bnds_low n m (by omega)) (fun x hx => by
    obtain ⟨j, hj, e⟩ := List.mem_map.1 hx
    have e' : (n : Int) - (j : Int) = x := e
    omega))
  have HS := Lib.hid hst
  have HD := Lib.hid hds
  have HDL := Lib.hid hdl
  have HDV := Lib.hid hdv
  have hmn : m ≤ n := by omega
  have HMN := Lib.hid hm
  have hblt := hst.blk.lt
  clear hst hds hdl hdv hlen hm
  go_enter Try.func38, Try.ntmps38
  go_wp2_with fail
  go_loopw [6, 7] (fun v c wr => ∃ k q : Nat, k ≤ m ∧ k + q = n ∧ c = .int .i64 q ∧ (∃ A' c', v = .slice A' k c') ∧ wr.ownsRow w.heap.size 3 1 v k (iv (bndsL n k)) ∧ Below w.heap.size w wr) (fun _ c _ => (intOf c).toNat)
  case atStart => exact ⟨0, n, by omega, by omega, rfl, ⟨none, 0, rfl⟩, by simpa [iv, bndsL] using World.ownsRow_nil _ _ _ _, Below.refl _ _⟩
  case round =>
    obtain ⟨k, q, hk, hq, rfl, ⟨A', c', rfl⟩, hown, hb⟩ := hrel
    have hmm := HMN.out
    by_cases hlt : k < m
    · have hq1 : 1 < q := by omega
      have hq2 : q ≤ 1000 := by omega
      have hsz := hb.size
      have HO := Lib.hid hown
      have HB := Lib.hid hb
      have HT := Lib.hid (iv_bnds_succ n k q (by omega))
      have HQ := Lib.hid (And.intro hq hq1)
      clear hown hb hq
      go_wp2_with (at_builtin; go_must (refine wpList_push slInt rfl _ _ rfl w.heap.size _ k (iv (bndsL n k)) rfl HO.out #[.int .i64 q] _ rfl rfl rfl (uone_int _) (by unfold maxLen; omega) (by omega) hsz ?_); intro A2 c2 w2 hown2 hb2)
      go_roundw
      case rel => exact ⟨k + 1, q - 1, by omega, by have := HQ.out; omega, by have := HQ.out; go_num, ⟨A2, c2, rfl⟩, by rw [HT.out]; exact hown2, HB.out.trans hb2⟩
      case measure => have := HQ.out; simp [intOf]; omega
    · obtain rfl : k = m := by omega
      have hq1 : q ≤ 1 := by omega
      have hsz := hb.size
      have HST := Lib.hid (show Stm wr b A N cap s L from HS.out.kept hb)
      have HB := Lib.hid hb
      have hob : ∀ b' o, A' = some ⟨b', o, none⟩ → 0 < k → b' ≠ b := fun b' o e h => by
        have := (own_rd_block hown b' o e).1
        omega
      have C := HM.out A' c' wr HST.out (Rd.of_own hown) hob
      rw [HD.out] at C
      have HC := Lib.hid C
      have HN := Lib.hid hq
      clear hown hb hob C hmm hq
      go_wp2_with fail
      ((with_reducible refine HC.out.mono ?_); rintro e w2 ⟨A2, c2, rfl, hown2, hg2, hblk2⟩)
      have HO2 := Lib.hid hown2
      have HG2 := Lib.hid (gr_below_first HB.out hg2)
      have HBK := Lib.hid hblk2
      clear hown2 hg2 hblk2
      go_wp2_with fail
      ((with_reducible refine (identity_any n w2 (by omega)).mono ?_); rintro e w3 ⟨A3, c3, rfl, hown3, hb3⟩)
      have HO3 := Lib.hid hown3
      have HB3 := Lib.hid hb3
      clear hown3 hb3
      go_wp2_with fail
      have h5 : Blk (w3.alloc (.cells #[.slice A3 n c3] 23)) w3.heap.size 23 #[.slice A3 n c3] := Blk.new _ _ _
      have hb5 : Below w3.heap.size w3 (w3.alloc (.cells #[.slice A3 n c3] 23)) := (Below.refl _ _).alloc (Nat.le_refl _) _
      obtain ⟨W5, hW5⟩ : ∃ W5, w3.alloc (.cells #[.slice A3 n c3] 23) = W5 := ⟨_, rfl⟩
      rw [hW5] at h5 hb5 ⊢
      obtain ⟨gh, hgh⟩ : ∃ gh, w3.heap.size = gh := ⟨_, rfl⟩
      rw [hgh] at h5 ⊢
      have h25 : Below w2.heap.size w2 W5 := ((Kept.of HB3.out).call hb5).2.2
      have hs2 : w.heap.size ≤ w2.heap.size := HG2.out.size
      have hs3 : w2.heap.size ≤ w3.heap.size := HB3.out.size
      have h2lt : ∀ b' o, A2 = some ⟨b', o, none⟩ → b' < w2.heap.size := fun b' o e => (own_rd_block HO2.out b' o e).2
      have HA2 := Lib.hid h2lt
      have HOB : Hid (∀ q, (Value.slice A3 n c3).ownBlock = some q → w2.heap.size ≤ q ∧ q < gh) := Lib.hid (fun q e => by have := HO3.out.lt q e; omega)
      have HA3 : Hid (∀ b' o, A3 = some ⟨b', o, none⟩ → b' < gh) := Lib.hid (fun b' o e => by have := (own_rd_block HO3.out b' o e).2; omega)
      have HH := Lib.hid h5
      have HD5 := Lib.hid ((Rd.of_own HO2.out).below h25)
      have HO5 := Lib.hid (own_below HO3.out hb5)
      have H25 := Lib.hid h25
      have HGH := Lib.hid hgh
      clear h5 hb5 h25 hgh hW5 h2lt HO2 HO3 HB3 HC HM HB HST
      go_loopw [46] (fun c wr => ∃ j : Nat, j ≤ k ∧ c = .int .i64 j ∧ wr.ownsRow w2.heap.size 3 1 (.slice A3 n c3) n (iv (shufTo n ds j)) ∧ W5.grownBy wr (Value.slice A3 n c3).ownBlock) (fun c _ => k - (intOf c).toNat)
      case atStart => exact ⟨0, by omega, rfl, HO5.out, World.grownBy.refl _ _⟩
      case round =>
        obtain ⟨j, hj, rfl, ho, hg⟩ := hrel
        by_cases hlt2 : j < k
        · obtain ⟨_, _, q1, q2, q3, q6⟩ := own_form ho
          injection q1 with q4 _ q5
          subst q4 q5
          obtain ⟨g, rfl, hg3, hg4⟩ := q6 (by omega)
          have hg' : W5.grownBy wr (some g) := hg
          have hgh := HA3.out g 0 rfl
          obtain ⟨b2, o2, y, hBe, hbl2, hy, cy⟩ := iv_at HDL.out (HD5.out.grown hg' (fun b' o e h0 => by have := HA2.out b' o e; omega)) hlt2
          subst hBe
          obtain ⟨d, hd, hdn⟩ := HDV.out j hlt2
          obtain rfl : y = (d : Int) := by rw [hd] at hy; injection hy with e; exact e.symm
          have hh := HH.out.grown hg' (by simp; omega)
          obtain ⟨i, hi⟩ : ∃ i, i + j + 1 = n := ⟨n - 1 - j, by omega⟩
          have C := swap_any gh g n c3 w2.heap.size i d (shufTo n ds j) wr (shufTo_length n ds j) (by omega) (by omega) hdn hh (by omega) ho
          rw [show swapL (shufTo n ds j) i d = shufTo n ds (j + 1) by
            rw [shufTo, show n - 1 - j = i by omega]
            simp [List.getD, hd]] at C
          have HSW := Lib.hid C
          have HG := Lib.hid hg'
          have HI := Lib.hid hi
          clear C ho hg hg' hh hd hy hi q6
          go_wp2_with fail
          rw [show (n : Int) - 1 - (j : Int) = (i : Int) by have := HI.out; omega]
          ((with_reducible refine HSW.out.mono ?_); rintro e w6 ⟨rfl, ho6, hg6⟩)
          go_wp2_with fail
          go_roundw
          case rel => exact ⟨j + 1, by omega, by go_num, ho6, HG.out.trans hg6⟩
          case measure => simp [intOf]; omega
        · obtain rfl : j = k := by omega
          have hgl : W5.heap.size ≤ wr.heap.size := hg.size
          have hh := HH.out.grown hg (fun e => by have := HOB.out gh e.symm; omega)
          have x0 : wr.cell? ⟨gh, 0, none⟩ = some (.slice A3 n c3) := hh.cell 0
          have lh := hh.lt
          have hb5 : Below w.heap.size w2 wr := by
            refine (H25.out.mono hs2).grown hg (by have := H25.out.size; omega) (fun q e => by have := HOB.out q e; omega)
          have HF := Lib.hid (gr_below HG2.out hb5)
          have HBKF := Lib.hid ((HBK.out.kept H25.out).grown hg (fun e => by have := HOB.out b e.symm; have := HBK.out.lt; omega))
          have HOF := Lib.hid (own_base ho hs2)
          clear hh ho hg hb5
          go_wp2_with fail
          go_ret2
          exact ⟨A3, c3, rfl, by rw [HD.out]; exact HOF.out, HF.out, HS.out.turned HF.out HBKF.out (by omega)⟩

set_option maxHeartbeats 1000000 in
theorem shuffle_short (b N cap n s : Nat) (A : Option Addr) (L : List Int) (w : World) (hst : Stm w b A N cap s L) (hn : n ≤ 1000) (hN : N - s < n - 1) (hN2 : N ≤ 10000000) :
    Calls Try.prog 38 #[.int .i64 n, .pointer (some ⟨b, 0, none⟩)] w fun e w' => e = .returned (.tuple #[.slice none 0 0, .bool false]) ∧ w.grownBy w' (some b) := by
  obtain ⟨m, hm⟩ : ∃ m, n - 1 = m := ⟨_, rfl⟩
  rw [hm] at hN
  have HM := Lib.hid (fun B d W (s' : Stm W b A N cap s L) hr => many_none b A B N cap s m d (bndsL n m) W s'.blk s'.le (by omega) (bndsL_length n m) hr (by omega) (.inl hN))
  have HS := Lib.hid hst
  have hmn : m ≤ n := by omega
  have HMN := Lib.hid hm
  clear hst hm
  go_enter Try.func38, Try.ntmps38
  go_wp2_with fail
  go_loopw [6, 7] (fun v c wr => ∃ k q : Nat, k ≤ m ∧ k + q = n ∧ c = .int .i64 q ∧ (∃ A' c', v = .slice A' k c') ∧ wr.ownsRow w.heap.size 3 1 v k (iv (bndsL n k)) ∧ Below w.heap.size w wr) (fun _ c _ => (intOf c).toNat)
  case atStart => exact ⟨0, n, by omega, by omega, rfl, ⟨none, 0, rfl⟩, by simpa [iv, bndsL] using World.ownsRow_nil _ _ _ _, Below.refl _ _⟩
  case round =>
    obtain ⟨k, q, hk, hq, rfl, ⟨A', c', rfl⟩, hown, hb⟩ := hrel
    have hmm := HMN.out
    by_cases hlt : k < m
    · have hq1 : 1 < q := by omega
      have hq2 : q ≤ 1000 := by omega
      have hsz := hb.size
      have HO := Lib.hid hown
      have HB := Lib.hid hb
      have HT := Lib.hid (iv_bnds_succ n k q (by omega))
      have HQ := Lib.hid (And.intro hq hq1)
      clear hown hb hq
      go_wp2_with (at_builtin; go_must (refine wpList_push slInt rfl _ _ rfl w.heap.size _ k (iv (bndsL n k)) rfl HO.out #[.int .i64 q] _ rfl rfl rfl (uone_int _) (by unfold maxLen; omega) (by omega) hsz ?_); intro A2 c2 w2 hown2 hb2)
      go_roundw
      case rel => exact ⟨k + 1, q - 1, by omega, by have := HQ.out; omega, by have := HQ.out; go_num, ⟨A2, c2, rfl⟩, by rw [HT.out]; exact hown2, HB.out.trans hb2⟩
      case measure => have := HQ.out; simp [intOf]; omega
    · obtain rfl : k = m := by omega
      have hq1 : q ≤ 1 := by omega
      have HST := Lib.hid (show Stm wr b A N cap s L from HS.out.kept hb)
      have HB := Lib.hid hb
      have C := HM.out A' c' wr HST.out (Rd.of_own hown)
      have HC := Lib.hid C
      have HN := Lib.hid hq
      clear hown hb C hmm hq
      go_wp2_with fail
      ((with_reducible refine HC.out.mono ?_); rintro e w2 ⟨rfl, hg2, hblk2⟩)
      have HG2 := Lib.hid (gr_below_first HB.out hg2)
      clear hg2 hblk2
      go_wp2_with fail
      go_ret2
      exact ⟨rfl, HG2.out⟩

end Go.Proofs.Ytncjfijpaheobaa
