/-
  The reference's plans: Buckets, Job, group.
-/
import Derived.Test.YtkecpbdgcbgogaaPlanRef1
namespace Go.Proofs.Ytkecpbdgcbgogaa
set_option linter.unusedVariables false
set_option linter.unusedSimpArgs false
set_option maxRecDepth 100000
open Go.RowKit

theorem slRItem : Sl Try.prog 66 87 (.agg #[.int .i64 0, .int .i64 0, .int .i64 0, .bool false, .bool false, .int .i64 0, .int .i64 0, .int .i64 0, .int .i64 0, .int .i64 0, .int .i64 0, .int .i64 0]) 12 88 := ⟨Try.underlying66, by kernel_rfl, rfl, by omega⟩

theorem set6 {w : World} {g : Nat} {t : TypeId} {a0 a1 a2 a3 a4 a5 : Value} (h : Blk w g t #[a0, a1, a2, a3, a4, a5]) (b0 b1 b2 b3 b4 b5 : Value) :
    ∃ W, W = ((((((w.setCell ⟨g, 0, none⟩ b0).setCell ⟨g, 1, none⟩ b1).setCell ⟨g, 2, none⟩ b2).setCell ⟨g, 3, none⟩ b3).setCell ⟨g, 4, none⟩ b4).setCell ⟨g, 5, none⟩ b5) ∧ w.grownBy W (some g) ∧ Blk W g t #[b0, b1, b2, b3, b4, b5] :=
  ⟨_, rfl, gr_set (p := ⟨g, 5, none⟩) (gr_set (p := ⟨g, 4, none⟩) (gr_set (p := ⟨g, 3, none⟩) (gr_set (p := ⟨g, 2, none⟩) (gr_set (p := ⟨g, 1, none⟩) (gr_set (p := ⟨g, 0, none⟩) (World.grownBy.refl w _) (.inl rfl) b0) (.inl rfl) b1) (.inl rfl) b2) (.inl rfl) b3) (.inl rfl) b4) (.inl rfl) b5,
    by simpa using (((((h.set_ 0 b0).set_ 1 b1).set_ 2 b2).set_ 3 b3).set_ 4 b4).set_ 5 b5⟩

section
variable (pc : PlC) (c : Cfg) (A : Option Addr) (n cap : Nat) (P : Int) (x t : Int) (w : World)

set_option maxHeartbeats 400000 in
theorem refBuckets20_any (hp : pc.Ok) (hf : Fits pc c) (hP : P = pc.P) :
    Calls Try.prog 38 #[rplV A n cap c P] w (OwnRet w 23 2 pc.nb (rv pc.bks)) := by
  have HG : Hid (∀ W, w.alloc (.cells (rplC A n cap c P) 60) = W → Below w.heap.size w W ∧ Blk W w.heap.size 60 (rplC A n cap c P)) := Lib.hid (by
    rintro W rfl
    exact ⟨(Below.refl _ _).alloc (Nat.le_refl _) _, Blk.new _ _ _⟩)
  have HB0 := Lib.hid (fun W => refBuckets_any pc.P pc.bu W hp.p1 (by have := hp.p2; omega) hp.b1 (by have := hp.b2; omega))
  have eb : bucketsL pc.P pc.bu = pc.bks := rfl
  have en : cnt pc.P pc.bu = pc.nb := rfl
  rw [eb, en, ← hP, ← hf.bu] at HB0
  clear eb en hP hf hp
  go_enter Try.func38, Try.ntmps38
  go_wp2_with fail
  obtain ⟨w0, hw0⟩ : ∃ w0, w.alloc (.cells (rplC A n cap c P) 60) = w0 := ⟨_, rfl⟩
  obtain ⟨hB, hK⟩ := HG.out _ hw0
  rw [hw0]
  clear hw0 HG
  ((with_reducible refine (HB0.out _).mono ?_); rintro e w1 ⟨A1, c1, rfl, hown, hb⟩)
  have HO := Lib.hid (OwnRet.lift ⟨A1, c1, rfl, hown, hb⟩ hB)
  clear hB hK hown hb
  go_wp2_with fail
  go_ret
  exact HO.out

set_option maxHeartbeats 2000000 in
theorem refJob20_any (hp : pc.Ok) (hf : Fits pc c) (hP : P = pc.P) (j : Nat) (lo hi : Int) (hj : pc.bks[j]? = some (lo, hi)) :
    Calls Try.prog 87 #[rplV A n cap c P, .int .i64 t, .int .i64 j] w fun e w' => e = .returned (jobV t j lo hi pc.m pc.ch) ∧ Below w.heap.size w w' := by
  have HBk := Lib.hid (fun W => refBuckets20_any pc c A n cap P W hp hf hP)
  have HBL := Lib.hid pc.bks_length
  have hjl : j < pc.bks.length := by
    rcases Nat.lt_or_ge j pc.bks.length with h' | h'
    · exact h'
    · rw [List.getElem?_eq_none h'] at hj; cases hj
  rw [HBL.out] at hjl
  have HJ := Lib.hid hj
  have hwk := hf.wk
  have hch := hf.ch
  obtain ⟨sh, ra, mo, wk, ba, mi, st, bu, ch, wi, ca⟩ := c
  simp only at hwk hch
  rw [← hch, ← hwk]
  have HG : Hid (∀ W, (w.alloc (.cells (rplC A n cap ⟨sh, ra, mo, wk, ba, mi, st, bu, ch, wi, ca⟩ P) 60)).alloc (.cells #[.int .i64 0, .int .i64 0, .int .i64 0, .int .i64 0, .int .i64 0, .int .i64 0] 25) = W → Below w.heap.size w W ∧ Blk W w.heap.size 60 (rplC A n cap ⟨sh, ra, mo, wk, ba, mi, st, bu, ch, wi, ca⟩ P) ∧ Blk W (w.heap.size + 1) 25 #[.int .i64 0, .int .i64 0, .int .i64 0, .int .i64 0, .int .i64 0, .int .i64 0]) := Lib.hid (by
    rintro W rfl
    exact ⟨((Below.refl _ _).alloc (Nat.le_refl _) _).alloc (by simp) _, (Blk.new _ _ _).alloc _, Blk.new' _ _ (by simp)⟩)
  obtain ⟨nb, hnb⟩ : ∃ nb, pc.nb = nb := ⟨_, rfl⟩
  rw [hnb] at HBk HBL hjl
  clear hp hf hP hj hwk hch hnb
  go_enter Try.func87, Try.ntmps87
  go_wp2_with fail
  obtain ⟨w0, hw0⟩ : ∃ w0, (w.alloc (.cells (rplC A n cap ⟨sh, ra, mo, wk, ba, mi, st, bu, ch, wi, ca⟩ P) 60)).alloc (.cells #[.int .i64 0, .int .i64 0, .int .i64 0, .int .i64 0, .int .i64 0, .int .i64 0] 25) = w0 := ⟨_, rfl⟩
  obtain ⟨hB, hK, hJb⟩ := HG.out _ hw0
  rw [hw0]
  clear hw0 HG
  obtain ⟨pb, hpb⟩ : ∃ pb, w.heap.size = pb := ⟨_, rfl⟩
  rw [hpb] at hK hJb ⊢
  have HPB := Lib.hid hpb
  clear hpb
  have c0 : w0.cell? ⟨pb, 0, none⟩ = some (.slice A n cap) := hK.cell 0
  have c1 : w0.cell? ⟨pb, 1, none⟩ = some (.int .i64 sh) := hK.cell 1
  have c2 : w0.cell? ⟨pb, 2, none⟩ = some (.int .i64 ra) := hK.cell 2
  have c3 : w0.cell? ⟨pb, 3, none⟩ = some (.int .i64 mo) := hK.cell 3
  have c4 : w0.cell? ⟨pb, 4, none⟩ = some (.int .i64 wk) := hK.cell 4
  have c5 : w0.cell? ⟨pb, 5, none⟩ = some (.int .i64 ba) := hK.cell 5
  have c6 : w0.cell? ⟨pb, 6, none⟩ = some (.int .i64 mi) := hK.cell 6
  have c7 : w0.cell? ⟨pb, 7, none⟩ = some (.int .i64 st) := hK.cell 7
  have c8 : w0.cell? ⟨pb, 8, none⟩ = some (.int .i64 bu) := hK.cell 8
  have c9 : w0.cell? ⟨pb, 9, none⟩ = some (.int .i64 ch) := hK.cell 9
  have c10 : w0.cell? ⟨pb, 10, none⟩ = some (.int .i64 wi) := hK.cell 10
  have c11 : w0.cell? ⟨pb, 11, none⟩ = some (.int .i64 ca) := hK.cell 11
  have c12 : w0.cell? ⟨pb, 12, none⟩ = some (.int .i64 P) := hK.cell 12
  have lc := hK.lt
  have HB := Lib.hid hB
  have HJB := Lib.hid hJb
  clear hB hK hJb
  refine wp_region_early (Kept w0) [0, 1, 2, 4, 7, 8, 9, 10, 11, 12] [3, 5, 6] [13, 14] (by kernel_rfl) (by kernel_rfl) (Kept.start w0) ?_
  simp only [List.filterMap_cons, List.filterMap_nil, List.getElem?_cons_succ, List.getElem?_cons_zero]
  refine early_step (.int .i64 t) rfl (fun W hW => ?_) ?_
  · obtain ⟨hc, -, -⟩ := hW
    go_simp
  go_simp
  refine early_step (.int .i64 j) rfl (fun W hW => ?_) ?_
  · obtain ⟨hc, -, -⟩ := hW
    go_simp
  go_simp
  refine early_step (rplV A n cap ⟨sh, ra, mo, wk, ba, mi, st, bu, ch, wi, ca⟩ P) rfl (fun W hW => ?_) ?_
  · obtain ⟨hc, -, -⟩ := hW
    go_simp
  go_simp
  refine early_step (.int .i64 j) rfl (fun W hW => ?_) ?_
  · obtain ⟨hc, -, -⟩ := hW
    go_simp
  go_simp
  refine early_step (.pointer (some ⟨pb, 0, none⟩)) rfl (fun W hW => ?_) ?_
  · obtain ⟨hc, -, -⟩ := hW
    go_simp
  go_simp
  refine early_step (.pointer (some ⟨pb, 4, none⟩)) rfl (fun W hW => ?_) ?_
  · obtain ⟨hc, -, -⟩ := hW
    go_simp
  go_simp
  refine early_step (.int .i64 wk) rfl (fun W hW => ?_) ?_
  · obtain ⟨hc, -, -⟩ := hW
    go_simp
  go_simp
  refine early_step (.pointer (some ⟨pb, 0, none⟩)) rfl (fun W hW => ?_) ?_
  · obtain ⟨hc, -, -⟩ := hW
    go_simp
  go_simp
  refine early_step (.pointer (some ⟨pb, 9, none⟩)) rfl (fun W hW => ?_) ?_
  · obtain ⟨hc, -, -⟩ := hW
    go_simp
  go_simp
  refine early_step (.int .i64 ch) rfl (fun W hW => ?_) ?_
  · obtain ⟨hc, -, -⟩ := hW
    go_simp
  go_simp
  change RestW _ _ _ _ _ (_ :: _ :: _ :: []) _ _
  unfold RestW
  go_wp2_with fail
  ((with_reducible refine (HBk.out _).mono ?_); rintro e w2 ⟨Ab, cb, rfl, hown, hb⟩)
  have hb' : Below w0.heap.size w0 w2 := ((Kept.start w0).call hb).2.2
  have HK2 := Lib.hid (Kept.of hb')
  have HJ2 := Lib.hid (HJB.out.kept hb')
  have HB2 := Lib.hid (HB.out.trans (hb'.mono HB.out.size))
  obtain ⟨g, o, x', y', rfl, hg, hxy, d0, d1⟩ := rd_at HBL.out (Rd.of_own hown) hjl
  rw [HJ.out] at hxy
  injection hxy with hxy
  injection hxy with f1 f2
  subst f1 f2
  have i1 : (0 : Int) ≤ (j : Int) := by omega
  have i2 : (j : Int) < (nb : Int) := by omega
  clear hown hb hb' c0 c1 c2 c3 c4 c5 c6 c7 c8 c9 c10 c11 c12 lc
  go_wp2_with fail
  refine ⟨HK2.out, ?_⟩
  unfold RestW
  go_wp2_with fail
  refine ⟨HK2.out, ?_⟩
  unfold RestW
  go_wp2_with fail
  refine ⟨HK2.out, ?_⟩
  unfold RestW
  change wpList _ _ _ (_ :: _ :: []) _ _
  have q0 : w2.cell? ⟨pb + 1, 0, none⟩ = some (.int .i64 0) := HJ2.out.cell 0
  have q1 : w2.cell? ⟨pb + 1, 1, none⟩ = some (.int .i64 0) := HJ2.out.cell 1
  have q2 : w2.cell? ⟨pb + 1, 2, none⟩ = some (.int .i64 0) := HJ2.out.cell 2
  have q3 : w2.cell? ⟨pb + 1, 3, none⟩ = some (.int .i64 0) := HJ2.out.cell 3
  have q4 : w2.cell? ⟨pb + 1, 4, none⟩ = some (.int .i64 0) := HJ2.out.cell 4
  have q5 : w2.cell? ⟨pb + 1, 5, none⟩ = some (.int .i64 0) := HJ2.out.cell 5
  have z0 := HJ2.out.frozen 0
  have z1 := HJ2.out.frozen 1
  have z2 := HJ2.out.frozen 2
  have z3 := HJ2.out.frozen 3
  have z4 := HJ2.out.frozen 4
  have z5 := HJ2.out.frozen 5
  have lj := HJ2.out.lt
  go_wp2_with fail
  refine NoPanic.normal ?_
  go_wp2_with fail
  obtain ⟨W, hW, hgr, hBk⟩ := set6 HJ2.out (.int .i64 t) (.int .i64 j) (.int .i64 lo) (.int .i64 hi) (.int .i64 wk) (.int .i64 ch)
  rw [← hW]
  have p0 : W.cell? ⟨pb + 1, 0, none⟩ = some (.int .i64 t) := hBk.cell 0
  have p1 : W.cell? ⟨pb + 1, 1, none⟩ = some (.int .i64 j) := hBk.cell 1
  have p2 : W.cell? ⟨pb + 1, 2, none⟩ = some (.int .i64 lo) := hBk.cell 2
  have p3 : W.cell? ⟨pb + 1, 3, none⟩ = some (.int .i64 hi) := hBk.cell 3
  have p4 : W.cell? ⟨pb + 1, 4, none⟩ = some (.int .i64 wk) := hBk.cell 4
  have p5 : W.cell? ⟨pb + 1, 5, none⟩ = some (.int .i64 ch) := hBk.cell 5
  have lp := hBk.lt
  refine bodyPost_ret (v := .agg #[.int .i64 t, .int .i64 j, .int .i64 lo, .int .i64 hi, .int .i64 wk, .int .i64 ch]) (by simp [results, Try.results87, go_sem, p0, p1, p2, p3, p4, p5, lp]) rfl ⟨rfl, below_gr HB2.out HB2.out.size hgr (by rw [HPB.out]; exact Nat.le_succ _)⟩
end

end Go.Proofs.Ytkecpbdgcbgogaa
