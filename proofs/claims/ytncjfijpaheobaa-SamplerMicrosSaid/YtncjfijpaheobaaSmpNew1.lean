/-
  One shuffle of a new sampler: the order is appended to its orders.
-/
import Derived.Test.YtncjfijpaheobaaSmpShuf
import Derived.Test.YtncjfijpaheobaaPartQ
import Derived.Test.YtncjfijpaheobaaCyc
import Derived.Test.YtncjfijpaheobaaEarly
namespace Go.Proofs.Ytncjfijpaheobaa
set_option linter.unusedVariables false
set_option linter.unusedSimpArgs false
set_option maxRecDepth 100000
open Go.RowKit

/-- The order of an epoch that begins at draw s. -/
def pemL (L : List Int) (n s : Nat) : List Int := shufTo n (manyL L s (bndsL n (n - 1))) (n - 1)
theorem pemL_length (L : List Int) (n s : Nat) : (pemL L n s).length = n := shufTo_length _ _ _

/-- The sampler's cells. -/
abbrev smpC (bt st : Int) (Ab : Option Addr) (q cb : Nat) (Ao : Option Addr) (E co : Nat) : Array Value := #[.int .i64 bt, .int .i64 st, .slice Ab q cb, .slice Ao E co]

theorem blk_set3 {w : World} {g : Nat} {t : TypeId} {x y z u : Value} (h : Blk w g t #[x, y, z, u]) (v : Value) :
    w.grownBy (w.setCell ⟨g, 3, none⟩ v) (some g) ∧ Blk (w.setCell ⟨g, 3, none⟩ v) g t #[x, y, z, v] :=
  ⟨gr_set (p := ⟨g, 3, none⟩) (World.grownBy.refl w _) (.inl rfl) v, by simpa using h.set_ 3 v⟩

section
variable (gn gst gs b bs N cap n s E co cb q base : Nat) (A Ao Ab : Option Addr) (bt st : Int) (L : List Int) (vs : List SlN) (w : World)

set_option maxHeartbeats 2000000 in
theorem newShuf_gen (ok : Bool) (R : SlN → World → Prop) (h1 : Blk w gn 3 #[.int .i64 n]) (h2 : Blk w gst 24 #[.pointer (some ⟨b, 0, none⟩)])
    (h3 : Blk w gs 63 #[.pointer (some ⟨bs, 0, none⟩)]) (h4 : Blk w bs 97 (smpC bt st Ab q cb Ao E co)) (ho : w.ownsRow base 23 1 (.slice Ao E co) E (slsv vs))
    (hbb : Blk w b 87 #[.slice A N cap, .int .i64 s]) (hE : E ≤ 1000) (hbase : base ≤ w.heap.size)
    (hC : Calls Try.prog 38 #[.int .i64 n, .pointer (some ⟨b, 0, none⟩)] w fun e w' => ∃ sl : SlN, e = .returned (.tuple #[.slice sl.1 sl.2.1 sl.2.2, .bool ok]) ∧ R sl w' ∧ w.grownBy w' (some b)) :
    Calls Try.prog 59 #[.pointer (some ⟨gn, 0, none⟩), .pointer (some ⟨gst, 0, none⟩), .pointer (some ⟨gs, 0, none⟩)] w fun e w' => e = .returned (.bool ok) ∧ ∃ (w1 : World) (sl : SlN) (Ao' : Option Addr) (co' : Nat), R sl w1 ∧ w.grownBy w1 (some b) ∧
      Blk w' bs 97 (smpC bt st Ab q cb Ao' (E + 1) co') ∧ w'.ownsRow base 23 1 (.slice Ao' (E + 1) co') (E + 1) (slsv (vs ++ [sl])) ∧ But (fun g => g = bs ∨ (Value.slice Ao E co).ownBlock = some g) w1 w' := by
  have C := Lib.hid hC
  have nb1 : gn ≠ b := h1.ne_ hbb (by decide)
  have nb2 : gst ≠ b := h2.ne_ hbb (by decide)
  have nb3 : gs ≠ b := h3.ne_ hbb (by decide)
  have nb4 : bs ≠ b := h4.ne_ hbb (by decide)
  have c1 := h1.cell 0
  have c2 := h2.cell 0
  have l1 := h1.lt
  have l2 := h2.lt
  have l3 := h3.lt
  have l4 := h4.lt
  have H3 := Lib.hid h3
  have H4 := Lib.hid h4
  have HO := Lib.hid ho
  have HS := Lib.hid hbb
  clear h1 h2 h3 h4 ho hbb hC
  go_enter Try.func59, Try.ntmps59
  go_wp2_with fail
  ((with_reducible refine C.out.mono ?_); rintro e w1 ⟨⟨A1, n1, d1⟩, rfl, hR, hg1⟩)
  have H31 := H3.out.grown hg1 (by simpa using nb3)
  have H41 := H4.out.grown hg1 (by simpa using nb4)
  have hown1 := HO.out.kept hg1 (.inr (own_blk_ne HO.out HS.out (by decide)))
  have HO1 : Hid (w1.drew.ownsRow base 23 1 (.slice Ao E co) E (slsv vs)) := Lib.hid hown1
  have HG := Lib.hid hg1
  have HRR := Lib.hid hR
  have hsz : base ≤ w1.heap.size := Nat.le_trans hbase hg1.size
  have r1 : w1.cell? ⟨gs, 0, none⟩ = some (.pointer (some ⟨bs, 0, none⟩)) := H31.cell 0
  have r2 : w1.cell? ⟨bs, 3, none⟩ = some (.slice Ao E co) := H41.cell 3
  have HH4 : Hid (Blk w1.drew bs 97 (smpC bt st Ab q cb Ao E co)) := Lib.hid H41.drew
  have HH3 : Hid (Blk w1.drew gs 63 #[.pointer (some ⟨bs, 0, none⟩)]) := Lib.hid H31.drew
  have hS : (fun W : World => W.cell? ⟨gs, 0, none⟩ = some (.pointer (some ⟨bs, 0, none⟩)) ∧ W.cell? ⟨bs, 3, none⟩ = some (.slice Ao E co)) w1.drew := ⟨r1, r2⟩
  have HSN := Lib.hid (slsv_snoc vs (A1, n1, d1))
  clear hg1 H31 H41 c1 c2 hown1 hR l1 l2 l3 l4
  go_wp2_with fail
  refine wp_region_early (fun W : World => W.cell? ⟨gs, 0, none⟩ = some (.pointer (some ⟨bs, 0, none⟩)) ∧ W.cell? ⟨bs, 3, none⟩ = some (.slice Ao E co)) [0, 1, 2, 3, 4, 5] [6, 7] [8, 9, 10] (by kernel_rfl) (by kernel_rfl) hS ?_
  clear hS r1 r2
  simp only [List.filterMap_cons, List.filterMap_nil, List.getElem?_cons_succ, List.getElem?_cons_zero]
  refine early_step (.pointer (some ⟨bs, 0, none⟩)) rfl (fun W hW => ?_) ?_
  · obtain ⟨hc, hc'⟩ := hW
    go_simp
  go_simp
  refine early_step (.pointer (some ⟨bs, 0, none⟩)) rfl (fun W hW => ?_) ?_
  · obtain ⟨hc, hc'⟩ := hW
    go_simp
  go_simp
  refine early_step (.pointer (some ⟨bs, 0, none⟩)) rfl (fun W hW => ?_) ?_
  · go_simp
  go_simp
  refine early_step (.pointer (some ⟨bs, 3, none⟩)) rfl (fun W hW => ?_) ?_
  · go_simp
  go_simp
  refine early_step (.slice Ao E co) rfl (fun W hW => ?_) ?_
  · obtain ⟨hc, hc'⟩ := hW
    go_simp
  go_simp
  refine early_step (.slice A1 n1 d1) rfl (fun W hW => ?_) ?_
  · go_simp
  go_simp
  change RestW _ _ _ _ _ (_ :: _ :: []) _ _
  unfold RestW
  go_wp2_with fail
  refine ⟨⟨(HH3.out.alloc _).cell 0, (HH4.out.alloc _).cell 3⟩, ?_⟩
  unfold RestW
  change wpList _ _ _ (_ :: []) _ (w1.drew.alloc (.cells #[.slice A1 n1 d1] 23))
  go_wp2_with (at_builtin; go_must (refine wpList_pushG slRows rfl _ _ rfl base _ E (slsv vs) rfl HO1.out #[.slice A1 n1 d1] w1.heap.size rfl rfl rfl (uone_sl _ _ _) (by unfold maxLen; omega) (by omega) hsz ?_); go_must (intro A4 c4 w4 hown4 hb4 hg4; (have HB3 : Hid (Blk w4 gs 63 #[.pointer (some ⟨bs, 0, none⟩)]) := Lib.hid (HH3.out.other HO1.out hg4 (by decide))); (have HB4 : Hid (Blk w4 bs 97 (smpC bt st Ab q cb Ao E co)) := Lib.hid (HH4.out.other HO1.out hg4 (by decide))); (have f3 := HB4.out.frozen 3); (have d3 : w4.cell? ⟨bs, 3, none⟩ = some (.slice Ao E co) := HB4.out.cell 3); (have l4 := HB4.out.lt); (have HO4 := Lib.hid hown4); (have HG4 := Lib.hid hg4); clear hown4 hb4 hg4))
  refine ⟨HB3.out.cell 0, ?_⟩
  unfold RestW
  change wpList _ _ _ (_ :: _ :: _ :: []) _ _
  go_wp2_with fail
  refine NoPanic.normal ?_
  have hst := blk_set3 HB4.out (.slice A4 (E + 1) c4)
  have HST := Lib.hid hst
  clear hst
  go_wp2
  go_ret
  refine ⟨rfl, w1, (A1, n1, d1), A4, c4, HRR.out, HG.out, HST.out.2, ?_, ?_⟩
  · rw [HSN.out]
    exact HO4.out.kept HST.out.1 (.inr (own_blk_ne HO4.out HB4.out (by decide)))
  · have g4 : But (fun g => g = bs ∨ (Value.slice Ao E co).ownBlock = some g) w1.drew w4 := But.of_own HG4.out (fun g e => .inr e)
    exact ((But.of_below _ ((Below.refl _ _).drew)).trans g4).trans (But.of_gr HST.out.1 (.inl rfl))
end

end Go.Proofs.Ytncjfijpaheobaa
