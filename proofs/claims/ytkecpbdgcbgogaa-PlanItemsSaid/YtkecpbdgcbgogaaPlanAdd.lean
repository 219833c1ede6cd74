/-
  (*plan.list).add appends an item.
-/
import Derived.Test.YtkecpbdgcbgogaaPlanL
import Derived.Test.YtkecpbdgcbgogaaEarly
namespace Go.Proofs.Ytkecpbdgcbgogaa
set_option linter.unusedVariables false
set_option linter.unusedSimpArgs false
set_option maxRecDepth 100000
open Go.RowKit

theorem slItem : Sl Try.prog 68 78 (.agg #[.int .i64 0, .int .i64 0, .int .i64 0, .bool false, .bool false, .int .i64 0, .int .i64 0, .int .i64 0, .int .i64 0, .int .i64 0, .int .i64 0, .int .i64 0]) 12 88 := ⟨Try.underlying68, by kernel_rfl, rfl, by omega⟩
/-- A list of items in memory: its block, and the row of the items, all of it laid behind base. -/
def ItSt (base gl : Nat) (t : Int) (L : List RItem) (w : World) : Prop := ∃ A0 c0, Blk w gl 136 #[.int .i64 t, .slice A0 L.length c0] ∧ w.ownsRow base 78 12 (.slice A0 L.length c0) L.length (itemsV L) ∧ base ≤ gl
abbrev StayI (w w' : World) : Prop := Stay 78 136 w w'
/-- What stands behind items that were added. -/
def AddI (base gl : Nat) (t : Int) (L : List RItem) (w : World) (e : Ending) (w' : World) : Prop := e = .returned (.tuple #[]) ∧ ItSt base gl t L w' ∧ StayI w w' ∧ Below base w w'

theorem lset1 {w : World} {g : Nat} {t : TypeId} {x y : Value} (h : Blk w g t #[x, y]) (v : Value) :
    w.grownBy (w.setCell ⟨g, 1, none⟩ v) (some g) ∧ Blk (w.setCell ⟨g, 1, none⟩ v) g t #[x, v] :=
  ⟨gr_set (p := ⟨g, 1, none⟩) (World.grownBy.refl w _) (.inl rfl) v, by simpa using h.set_ 1 v⟩

set_option maxHeartbeats 1000000 in
theorem addI_any (kind k t : Int) (a : RAct) (base gl : Nat) (L : List RItem) (w : World) (hst : ItSt base gl t L w) (hL : L.length ≤ 1000000000) (hbase : base ≤ w.heap.size) :
    Calls Try.prog 85 #[.pointer (some ⟨gl, 0, none⟩), .int .i64 kind, .int .i64 k, .agg #[.bool a.1.1, .bool a.1.2, .int .i64 a.2.1.1, .int .i64 a.2.1.2.1, .int .i64 a.2.1.2.2.1, .int .i64 a.2.1.2.2.2.1, .int .i64 a.2.1.2.2.2.2, .int .i64 a.2.2.1, .int .i64 a.2.2.2]] w (AddI base gl t (L ++ [((kind, t, k), a)]) w) := by
  obtain ⟨A0, c0, hbl, hown, hbg⟩ := hst
  obtain ⟨⟨sd, ad⟩, ⟨s, b, p, r, i⟩, x, y⟩ := a
  dsimp only
  obtain ⟨n, hn⟩ : ∃ n, L.length = n := ⟨_, rfl⟩
  rw [hn] at hbl hown hL
  have HN := Lib.hid hn
  obtain ⟨w1, hw1⟩ : ∃ w1, w.alloc (.cells #[.bool sd, .bool ad, .int .i64 s, .int .i64 b, .int .i64 p, .int .i64 r, .int .i64 i, .int .i64 x, .int .i64 y] 76) = w1 := ⟨_, rfl⟩
  have hB1 : Below w.heap.size w w1 := by rw [← hw1]; exact (Below.refl _ _).alloc (Nat.le_refl _) _
  have hA1 : Blk w1 w.heap.size 76 #[.bool sd, .bool ad, .int .i64 s, .int .i64 b, .int .i64 p, .int .i64 r, .int .i64 i, .int .i64 x, .int .i64 y] := by rw [← hw1]; exact Blk.new _ _ _
  have hL1 := hbl.kept hB1
  have HO1 := Lib.hid (own_below hown hB1)
  have HB1 := Lib.hid hB1
  have HA1 := Lib.hid hA1
  have HL1 := Lib.hid hL1
  have hz1 := hB1.size
  have hne := hL1.lt
  have hla := hA1.lt
  have HW1 := Lib.hid hw1
  clear hn hbl hown hB1 hA1 hL1 hw1
  go_enter Try.func85, Try.ntmps85
  go_wp2_with fail
  rw [HW1.out]
  have hS : (fun W : World => Blk W gl 136 #[.int .i64 t, .slice A0 n c0] ∧ Blk W w.heap.size 76 #[.bool sd, .bool ad, .int .i64 s, .int .i64 b, .int .i64 p, .int .i64 r, .int .i64 i, .int .i64 x, .int .i64 y]) w1.drew := ⟨HL1.out.drew, HA1.out.drew⟩
  refine wp_region_early (fun W : World => Blk W gl 136 #[.int .i64 t, .slice A0 n c0] ∧ Blk W w.heap.size 76 #[.bool sd, .bool ad, .int .i64 s, .int .i64 b, .int .i64 p, .int .i64 r, .int .i64 i, .int .i64 x, .int .i64 y]) [0, 1, 2, 3, 4, 5, 6, 7, 8, 9, 10, 11, 12] [13, 14] [15, 16, 17] (by kernel_rfl) (by kernel_rfl) hS ?_
  clear hS
  simp only [List.filterMap_cons, List.filterMap_nil, List.getElem?_cons_succ, List.getElem?_cons_zero]
  refine early_step (.pointer (some ⟨gl, 0, none⟩)) rfl (fun W hW => ?_) ?_
  · go_simp
  go_simp
  refine early_step (.pointer (some ⟨gl, 0, none⟩)) rfl (fun W hW => ?_) ?_
  · go_simp
  go_simp
  refine early_step (.pointer (some ⟨gl, 0, none⟩)) rfl (fun W hW => ?_) ?_
  · go_simp
  go_simp
  refine early_step (.pointer (some ⟨gl, 1, none⟩)) rfl (fun W hW => ?_) ?_
  · go_simp
  go_simp
  refine early_step (.slice A0 n c0) rfl (fun W hW => ?_) ?_
  · have hc := hW.1.cell 1
    go_simp
  go_simp
  refine early_step (.int .i64 kind) rfl (fun W hW => ?_) ?_
  · go_simp
  go_simp
  refine early_step (.pointer (some ⟨gl, 0, none⟩)) rfl (fun W hW => ?_) ?_
  · go_simp
  go_simp
  refine early_step (.pointer (some ⟨gl, 0, none⟩)) rfl (fun W hW => ?_) ?_
  · go_simp
  go_simp
  refine early_step (.pointer (some ⟨gl, 0, none⟩)) rfl (fun W hW => ?_) ?_
  · go_simp
  go_simp
  refine early_step (.int .i64 t) rfl (fun W hW => ?_) ?_
  · have hc := hW.1.cell 0
    go_simp
  go_simp
  refine early_step (.int .i64 k) rfl (fun W hW => ?_) ?_
  · go_simp
  go_simp
  refine early_step (.agg #[.bool sd, .bool ad, .int .i64 s, .int .i64 b, .int .i64 p, .int .i64 r, .int .i64 i, .int .i64 x, .int .i64 y]) rfl (fun W hW => ?_) ?_
  · have h0 := hW.2.cell 0
    have h1 := hW.2.cell 1
    have h2 := hW.2.cell 2
    have h3 := hW.2.cell 3
    have h4 := hW.2.cell 4
    have h5 := hW.2.cell 5
    have h6 := hW.2.cell 6
    have h7 := hW.2.cell 7
    have h8 := hW.2.cell 8
    go_simp
  go_simp
  refine early_step (.agg #[.int .i64 kind, .int .i64 t, .int .i64 k, .bool sd, .bool ad, .int .i64 s, .int .i64 b, .int .i64 p, .int .i64 r, .int .i64 i, .int .i64 x, .int .i64 y]) rfl (fun W hW => ?_) ?_
  · go_simp
  go_simp
  change RestW _ _ _ _ _ (_ :: _ :: []) _ _
  unfold RestW
  go_wp2_with fail
  refine ⟨⟨HL1.out.drew.alloc _, HA1.out.drew.alloc _⟩, ?_⟩
  unfold RestW
  change wpList _ _ _ (_ :: []) _ (w1.drew.alloc (.cells (itemV ((kind, t, k), ((sd, ad), (s, b, p, r, i), (x, y)))).toArray 78))
  have hsz1 : base ≤ w1.drew.heap.size := Nat.le_trans hbase hz1
  go_wp2_with (at_builtin; go_must (refine wpList_pushL slItem rfl _ _ rfl base (.slice A0 n c0) n (itemsV L) rfl (show w1.drew.ownsRow base 78 12 (.slice A0 n c0) n (itemsV L) from HO1.out) (itemV ((kind, t, k), ((sd, ad), (s, b, p, r, i), (x, y)))).toArray w1.drew.heap.size rfl rfl rfl (itemV_cells _) (by unfold maxLen; omega) (by omega) hsz1 ?_); intro A5 c5 w5 hown5 hb5 hg5 hat5)
  have HL5 := Lib.hid (HL1.out.drew.other (show w1.drew.ownsRow base 78 12 (.slice A0 n c0) n (itemsV L) from HO1.out) hg5 (by decide))
  have HA5 := Lib.hid (HA1.out.drew.other (show w1.drew.ownsRow base 78 12 (.slice A0 n c0) n (itemsV L) from HO1.out) hg5 (by decide))
  have HO5 := Lib.hid hown5
  have HB5 := Lib.hid ((HB1.out.mono hbase).drew.trans hb5)
  have HS5 := Lib.hid (Stay.trans (Stay.of_below HB1.out.drew) (Stay.of_own' (t := 78) (u := 136) (show w1.drew.ownsRow base 78 12 (.slice A0 n c0) n (itemsV L) from HO1.out) hg5))
  have hz5 : w1.heap.size ≤ w5.heap.size := hg5.size
  clear hown5 hb5 hg5 hat5
  refine ⟨⟨HL5.out, HA5.out⟩, ?_⟩
  unfold RestW
  change wpList _ _ _ (_ :: _ :: _ :: []) _ _
  have v1 : w5.cell? ⟨gl, 1, none⟩ = some (.slice A0 n c0) := HL5.out.cell 1
  have f1 := HL5.out.frozen 1
  have l5 := HL5.out.lt
  go_wp2_with fail
  refine NoPanic.normal ?_
  have HST := Lib.hid (lset1 HL5.out (.slice A5 (n + 1) c5))
  clear v1 f1
  go_wp2_with fail
  go_end0
  refine ⟨rfl, ⟨A5, c5, ?_, ?_, hbg⟩, ?_, ?_⟩
  · rw [List.length_append, HN.out]; exact HST.out.2
  · rw [List.length_append, HN.out, itemsV_append, itemsV_one]
    exact HO5.out.kept HST.out.1 (.inr (own_blk_ne HO5.out HL5.out (by decide)))
  · refine HS5.out.trans (fun g e cs h1 h2 hb => hb.grown HST.out.1 (fun e' => ?_))
    injection e' with e'
    subst e'
    exact absurd (Blk.ne_ hb HL5.out h2) (by simp)
  · exact below_gr HB5.out (HB5.out.size |> Nat.le_trans hbase) HST.out.1 hbg

end Go.Proofs.Ytkecpbdgcbgogaa
