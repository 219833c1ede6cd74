/-
  Segments, Chunks and Messages of the reference; Messages.
-/
import Derived.Test.YtkecpbdgcbgogaaSegs
import Derived.Test.YtkecpbdgcbgogaaRound
namespace Go.Proofs.Ytkecpbdgcbgogaa
set_option linter.unusedVariables false
set_option linter.unusedSimpArgs false
open Go.RowKit Go.Shelf

attribute [local go_sem] Oper.semAt_some

set_option maxHeartbeats 1000000 in
theorem refSegments_any (lo hi k : Int) (w : World) (h0 : 0 ≤ lo) (h1 : lo ≤ hi) (h2 : hi ≤ 1000000) (hk : k ≤ 10000000) :
    Calls Try.prog 52 #[.agg #[.int .i64 lo, .int .i64 hi], .int .i64 k] w (OwnRet w 23 2 (segsL lo hi k).length (rv (segsL lo hi k))) := by
  obtain ⟨W0, hW0⟩ : ∃ W0, w.alloc (.cells #[.int .i64 lo, .int .i64 hi] 23) = W0 := ⟨_, rfl⟩
  have k0 : Below w.heap.size w W0 := by rw [← hW0]; exact (Below.refl _ _).alloc (Nat.le_refl _) _
  have b0 : Blk W0 w.heap.size 23 #[.int .i64 lo, .int .i64 hi] := by rw [← hW0]; exact Blk.new _ _ _
  have c0 : W0.cell? ⟨w.heap.size, 0, none⟩ = some (.int .i64 lo) := b0.cell 0
  have c1 : W0.cell? ⟨w.heap.size, 1, none⟩ = some (.int .i64 hi) := b0.cell 1
  have lt0 := b0.lt
  obtain ⟨d, hd⟩ : ∃ d, hi - lo = d := ⟨_, rfl⟩
  have zd : IntKind.i64.wrap (hi - lo) = d := by rw [wrap_ok _ (by omega) (by omega), hd]
  have HC2 := Lib.hid (fun W => refEven_all d k W (by omega) hk)
  have HS := Lib.hid (evenI_small d k (by omega))
  have hkn : (evenI d k).length ≤ 10000000 := by rw [evenI_length d k (by omega)]; omega
  have HK0 := Lib.hid k0
  have HD := Lib.hid hd
  clear k0 b0 hd
  go_enter Try.func52, Try.ntmps52
  go_wp2_with fail
  clear hW0
  go_region_held3 (fun w' => Kept W0 w') (first | exact kk | exact kk.alloc _ | exact Kept.start W0) (first
    | (go_at_call 77; (with_reducible refine (HC2.out _).mono ?_); rintro e w2 ⟨A, c, rfl, hown, hb2⟩; have kk := (Kept.start W0).call hb2; have HR := Lib.hid (Rd.of_own hown); have HSh := Lib.hid (shifted_any A _ c (evenI d k) lo w2 rfl HR.out hkn HS.out h0 (by omega)); clear hown hb2)
    | (go_at_call 76; (with_reducible refine HSh.out.mono ?_); rintro e w4 ⟨A', c', rfl, hown4, hb4⟩; have HO4 := Lib.hid (own_base hown4 kk.2.1); replace kk := kk.call hb4; clear hown4 hb4))
  all_goals go_wp2_with fail
  all_goals go_ret
  all_goals
    have e : segsL lo hi k = shiftL (evenI d k) lo := by rw [segsL, HD.out]
    rw [e, shiftL_length]
    exact ⟨A', c', rfl, own_base HO4.out HK0.out.size, ((Kept.of HK0.out).call kk.2.2).2.2⟩

set_option maxHeartbeats 1000000 in
theorem refChunks_any (lo hi k : Int) (w : World) (h0 : 0 ≤ lo) (h1 : lo ≤ hi) (h2 : hi ≤ 1000000) (hk : k ≤ 9223372036854775807) :
    Calls Try.prog 53 #[.agg #[.int .i64 lo, .int .i64 hi], .int .i64 k] w (OwnRet w 23 2 (chunksL lo hi k).length (rv (chunksL lo hi k))) := by
  obtain ⟨W0, hW0⟩ : ∃ W0, w.alloc (.cells #[.int .i64 lo, .int .i64 hi] 23) = W0 := ⟨_, rfl⟩
  have k0 : Below w.heap.size w W0 := by rw [← hW0]; exact (Below.refl _ _).alloc (Nat.le_refl _) _
  have b0 : Blk W0 w.heap.size 23 #[.int .i64 lo, .int .i64 hi] := by rw [← hW0]; exact Blk.new _ _ _
  have c0 : W0.cell? ⟨w.heap.size, 0, none⟩ = some (.int .i64 lo) := b0.cell 0
  have c1 : W0.cell? ⟨w.heap.size, 1, none⟩ = some (.int .i64 hi) := b0.cell 1
  have lt0 := b0.lt
  obtain ⟨d, hd⟩ : ∃ d, hi - lo = d := ⟨_, rfl⟩
  have zd : IntKind.i64.wrap (hi - lo) = d := by rw [wrap_ok _ (by omega) (by omega), hd]
  have HC2 := Lib.hid (fun W => refBlocks_all d k W (by omega) hk)
  have HS := Lib.hid (blocksI_small d k (by omega))
  have hkn : (blocksI d k).length ≤ 10000000 := by rw [blocksI_length d k]; exact cnt_le' d k (by omega)
  have HK0 := Lib.hid k0
  have HD := Lib.hid hd
  clear k0 b0 hd
  go_enter Try.func53, Try.ntmps53
  go_wp2_with fail
  clear hW0
  go_region_held3 (fun w' => Kept W0 w') (first | exact kk | exact kk.alloc _ | exact Kept.start W0) (first
    | (go_at_call 78; (with_reducible refine (HC2.out _).mono ?_); rintro e w2 ⟨A, c, rfl, hown, hb2⟩; have kk := (Kept.start W0).call hb2; have HR := Lib.hid (Rd.of_own hown); have HSh := Lib.hid (shifted_any A _ c (blocksI d k) lo w2 rfl HR.out hkn HS.out h0 (by omega)); clear hown hb2)
    | (go_at_call 76; (with_reducible refine HSh.out.mono ?_); rintro e w4 ⟨A', c', rfl, hown4, hb4⟩; have HO4 := Lib.hid (own_base hown4 kk.2.1); replace kk := kk.call hb4; clear hown4 hb4))
  all_goals go_wp2_with fail
  all_goals go_ret
  all_goals
    have e : chunksL lo hi k = shiftL (blocksI d k) lo := by rw [chunksL, HD.out]
    rw [e, shiftL_length]
    exact ⟨A', c', rfl, own_base HO4.out HK0.out.size, ((Kept.of HK0.out).call kk.2.2).2.2⟩

/-- How many chunks some ranges have. -/
def msgsF (s : Int) (l : List (Int × Int)) : Nat := (l.map fun r => cnt (r.2 - r.1).toNat s.toNat).sum
theorem msgsF_snoc (s : Int) (l : List (Int × Int)) (x : Int × Int) : msgsF s (l ++ [x]) = msgsF s l + cnt (x.2 - x.1).toNat s.toNat := by simp [msgsF]
theorem msgsF_le (s : Int) (l : List (Int × Int)) (h : ∀ r ∈ l, r.2 - r.1 ≤ 1000000) : msgsF s l ≤ l.length * 1000000 := by
  induction l with
  | nil => simp [msgsF]
  | cons a l ih =>
    have h1 := ih (fun r hr => h r (by simp [hr]))
    have h2 := h a (by simp)
    have h3 := cnt_le (a.2 - a.1).toNat s.toNat
    have h4 : msgsF s (a :: l) = cnt (a.2 - a.1).toNat s.toNat + msgsF s l := by simp [msgsF]
    rw [h4, List.length_cons, Nat.add_mul]
    omega
theorem segs_at (lo hi k : Int) (i : Nat) (h1 : lo ≤ hi) (hik : (i : Int) < k) : (segsL lo hi k)[i]? = some ((bnd (hi - lo).toNat k.toNat i : Int) + lo, (bnd (hi - lo).toNat k.toNat (i + 1) : Int) + lo) := by
  rw [segsL]
  refine shiftL_get _ _ _ _ _ ?_
  unfold evenI
  rw [if_neg (by omega)]
  exact even_at _ _ _ (by omega)
theorem segs_in (lo hi k : Int) (h1 : lo ≤ hi) : ∀ r ∈ segsL lo hi k, lo ≤ r.1 ∧ r.1 ≤ r.2 ∧ r.2 ≤ hi := by
  intro r hr
  obtain ⟨i, hi'⟩ := List.mem_iff_getElem?.1 hr
  have hlt : i < k.toNat := by have := (List.getElem?_eq_some_iff.1 hi').1; rwa [segsL_length _ _ _ h1] at this
  rw [segs_at lo hi k i h1 (by omega)] at hi'
  injection hi' with hi'
  subst hi'
  have g1 := bnd_mono (hi - lo).toNat k.toNat i (i + 1) (by omega)
  have g2 := bnd_le' (hi - lo).toNat k.toNat (i + 1) (by omega) (by omega)
  dsimp only
  omega

/-- A segment. -/
abbrev Seg (lo hi : Int) := {r : Int × Int // lo ≤ r.1 ∧ r.1 ≤ r.2 ∧ r.2 ≤ hi}
def segsS (lo hi k : Int) (h1 : lo ≤ hi) : List (Seg lo hi) := (segsL lo hi k).attachWith _ (segs_in lo hi k h1)
theorem segsS_map (lo hi k : Int) (h1 : lo ≤ hi) : (segsS lo hi k h1).map Subtype.val = segsL lo hi k := by
  unfold segsS
  exact List.attachWith_map_subtype_val _
theorem count_seg (x y s : Int) (w : World) (h : -1000000000 ≤ y - x) (h' : y - x ≤ 1000000000) (hs : s ≤ 9223372036854775807) :
    Calls Try.prog 88 #[.int .i64 (max (y - x) 0), .int .i64 s] w fun e w' => e = .returned (.int .i64 (cnt (y - x).toNat s.toNat)) ∧ w = w' := by
  have h1 := count_any (max (y - x) 0) s w (by omega) (by omega) (by omega)
  rwa [show (max (y - x) 0).toNat = (y - x).toNat by omega] at h1

set_option maxRecDepth 100000 in
set_option maxHeartbeats 2000000 in
theorem messages_any (lo hi k s : Int) (w : World) (h0 : 0 ≤ lo) (h1 : lo ≤ hi) (h2 : hi ≤ 1000000) (hk : k ≤ 10000000) (hs : s ≤ 9223372036854775807) :
    Calls Try.prog 68 #[.agg #[.int .i64 lo, .int .i64 hi], .int .i64 k, .int .i64 s] w fun e w' => e = .returned (.int .i64 (msgsF s (segsL lo hi k))) ∧ Below w.heap.size w w' := by
  obtain ⟨W0, hW0⟩ : ∃ W0, ((w.alloc (.cells #[.int .i64 lo, .int .i64 hi] 33)).alloc (.cells #[.int .i64 s] 3)).alloc (.cells #[.int .i64 0] 3) = W0 := ⟨_, rfl⟩
  have k0 : Below w.heap.size w W0 := by rw [← hW0]; exact (((Below.refl _ _).alloc (Nat.le_refl _) _).alloc (by simp) _).alloc (by simp <;> omega) _
  have b0 : Blk W0 w.heap.size 33 #[.int .i64 lo, .int .i64 hi] := by rw [← hW0]; exact ((Blk.new _ _ _).alloc _).alloc _
  have b1 : Blk W0 (w.heap.size + 1) 3 #[.int .i64 s] := by rw [← hW0]; exact (Blk.new' _ _ (by simp)).alloc _
  have b2 : Blk W0 (w.heap.size + 1 + 1) 3 #[.int .i64 0] := by rw [← hW0]; exact Blk.new' _ _ (by simp)
  have c0 : W0.cell? ⟨w.heap.size, 0, none⟩ = some (.int .i64 lo) := b0.cell 0
  have c1 : W0.cell? ⟨w.heap.size, 1, none⟩ = some (.int .i64 hi) := b0.cell 1
  have lt0 := b2.lt
  have lt00 := b0.lt
  have hn : max (hi - lo) 0 = hi - lo := by omega
  obtain ⟨d, hd⟩ : ∃ d, hi - lo = d := ⟨_, rfl⟩
  have C1 := fun W => size_any lo hi W (by omega) (by omega) (by omega) (by omega)
  rw [hn, hd] at C1
  have HC1 := Lib.hid C1
  have HC2 := Lib.hid (fun W => even_all d k W (by omega) hk)
  have HS := Lib.hid (evenI_small d k (by omega))
  have hb : 0 ≤ lo ∧ lo ≤ 1000000000 := by omega
  have HK0 := Lib.hid k0
  have HD := Lib.hid hd
  have HB1 := Lib.hid b1
  have HB2 := Lib.hid b2
  have hkn : (evenI d k).length ≤ 10000000 := by rw [evenI_length d k (by omega)]; omega
  have HW0 := Lib.hid hW0
  clear hn C1 k0 b0 b1 b2 hd hW0
  refine (callsIn_wide (n := 9)).1 (callsIn_of_wp_marks Try.func68 rfl trivial (wpIn_wide.2 ?_) rfl)
  simp only [Try.ntmps68, List.size_toArray, List.length_cons, List.length_nil, Nat.reduceAdd, Nat.reduceSub, Array.replicate_succ, Array.replicate_zero, List.push_toArray, List.append_toArray, List.nil_append, List.cons_append]
  go_wp2_with fail
  rw [HW0.out]
  clear HW0
  go_region_held3 (fun w' => Kept W0 w') (first | exact kk | exact kk.alloc _ | exact Kept.start W0) (first
    | (go_at_call 74; (with_reducible refine (HC1.out _).mono ?_); rintro e w1 ⟨rfl, hb1⟩; have kk := (Kept.start W0).call hb1; clear hb1)
    | (go_at_call 73; (with_reducible refine (HC2.out _).mono ?_); rintro e w2 ⟨A, c, rfl, hown, hb2⟩; have HRB := Lib.hid (fun b o e => Nat.le_trans kk.2.1 (own_rd_block hown b o e).1); replace kk := kk.call hb2; have HR := Lib.hid (Rd.of_own hown); clear hown hb2)
    | (go_at_call 72; (with_reducible refine (later_any _ _ _ _ _).mono ?_); rintro e w3 ⟨rfl, l1, l2, l3, l4, hb3⟩; have HL1 := Lib.hid l1; have HL2 := Lib.hid l2; have HL3 := Lib.hid l3; have HKK := Lib.hid kk; have HB3 := Lib.hid hb3; replace kk := kk.call hb3; clear l1 l2 l3 hb3))
  all_goals go_wp2_with fail
  have z23 := HB3.out.size
  have z02 := HKK.out.2.1
  have hseq : SeqStopsK Fence.wide (9 - 1) Try.prog 91 #[.pointer (some ⟨w2.heap.size, 0, none⟩), .pointer (some ⟨w2.heap.size + 1 + 1, 0, none⟩)] (fun x => encR (Subtype.val x)) (But fun b => b = w.heap.size + 1 + 1 ∨ w3.heap.size ≤ b) (fun ys => ys = segsS lo hi k h1) (fun pre => pre <+: segsS lo hi k h1) (evenI d k).length w3 :=
    later_stops Subtype.val (segsS lo hi k h1) Fence.wide (9 - 1) trivial trivial rfl (by omega) w2.heap.size (w2.heap.size + 1 + 1) (w2.heap.size + 1) _ c A (evenI d k) lo hkn rfl HS.out hb (by rw [segsS_map, segsL, HD.out]) _ w3 (by omega) ⟨by omega, by omega⟩ ⟨by omega, by omega⟩ HL1.out HL3.out HL2.out (fun h0 => by
      obtain ⟨g, off, e, hg, hcc⟩ := HR.out.2 h0
      have := HRB.out g off e
      exact ⟨g, off, e, ⟨by omega, by omega⟩, fun j u hu => (HB3.out.cell (p := ⟨g, off + j, none⟩) hg).trans (hcc j u hu)⟩)
  have bs3 := HB1.out.kept kk.2.2
  have bn3 := HB2.out.kept kk.2.2
  have hw3 := ((Kept.of HK0.out).call kk.2.2).2.2
  clear HL1 HL2 HL3 HB3 HKK HR HRB HC1 HC2 c0 c1 kk HB1 HB2
  refine wpIn_wide.1 (wpIn_rangeFunc_ownH (F := Fence.wide) (n := 9) rfl (by omega) (gf := 91) (lb := #[.pointer (some ⟨w2.heap.size, 0, none⟩), .pointer (some ⟨w2.heap.size + 1 + 1, 0, none⟩)]) rfl trivial (enters_of Try.func91 (by kernel_rfl) rfl) hseq (fun h k => h.trans k) (butK_b (w := w3) (fun i hi => .inr hi)) (Below.refl _ _) (fun _ => rfl)
    (fun pre W => (Boxed W (w.heap.size + 1 + 1) 3 (.int .i64 (msgsF s (pre.map Subtype.val))) ∧ Boxed W (w.heap.size + 1) 3 (.int .i64 s)) ∧ Below w.heap.size w W)
    (fun _ _ _ => False)
    (OwnFrom.and (OwnFrom.and (Own.from (boxed_own (w.heap.size + 1 + 1) 3 (fun pre : List (Seg lo hi) => .int .i64 (msgsF s (pre.map Subtype.val)))) _) (Own.from (boxed_own (w.heap.size + 1) 3 (fun _ => .int .i64 s)) _)) (ownFrom_below (Nat.le_refl _) hw3.size))
    (fun _ _ _ _ _ hs _ _ => hs)
    ⟨⟨bn3, bs3⟩, hw3⟩
    (fun x a' W => ∃ g, w.heap.size + 1 + 1 < g ∧ a' = { tmps := #[.agg #[.int .i64 lo, .int .i64 hi], .int .i64 k, .int .i64 s, .pointer (some ⟨w.heap.size, 0, none⟩), undef, .pointer (some ⟨w.heap.size + 1, 0, none⟩), .int .i64 0, .pointer (some ⟨w.heap.size + 1 + 1, 0, none⟩), .pointer (some ⟨g, 0, none⟩), .agg #[.int .i64 lo, .int .i64 hi], .int .i64 d, .int .i64 k, .slice A (evenI d k).length c, .pointer (some ⟨w.heap.size, 0, none⟩), .int .i64 lo, .func (.func 91) #[] #[.pointer (some ⟨w2.heap.size, 0, none⟩), .pointer (some ⟨w2.heap.size + 1 + 1, 0, none⟩)], .agg #[.int .i64 x.1.1, .int .i64 x.1.2], undef, undef, undef, undef, undef, undef, undef], defers := [] } ∧ Blk W g 33 #[.int .i64 x.1.1, .int .i64 x.1.2])
    (fun x a' s X Y row hs hg hr => by
      obtain ⟨g, hg0, ha, hb⟩ := hs
      exact ⟨g, hg0, ha, hb.turn hg hr⟩) ?assign ?body ?done ?stop)
  case assign =>
    rintro l' pre ⟨⟨x, y⟩, hx⟩ W K ⟨⟨hn, hs'⟩, hB⟩ hK
    simp only [encR]
    gi_wp2_with fail
    exact hK _ _ ((KeepsOthers.alloc _ _).from _) (But.of_below _ ((Below.refl _ _).alloc (Nat.le_refl _) _)) ⟨⟨hn.alloc _, hs'.alloc _⟩, hB.alloc hB.size _⟩ ⟨W.heap.size, hn.lt, rfl, Blk.new _ _ _⟩
  case body =>
    rintro l' pre ⟨⟨x, y⟩, hx1, hx2, hx3⟩ a' W _ _ ⟨⟨hn, hs'⟩, hB⟩ ⟨g, hg0, rfl, hblk⟩ hlt
    dsimp only at hx1 hx2 hx3 hblk ⊢
    have cn := hn.cell
    have cs := hs'.cell
    have ln := hn.lt
    have ls := hs'.lt
    have lg := hblk.lt
    have x1 : W.cell? ⟨g, 0, none⟩ = some (.int .i64 x) := hblk.cell 0
    have x2 : W.cell? ⟨g, 1, none⟩ = some (.int .i64 y) := hblk.cell 1
    have CS := fun W => size_any x y W (by omega) (by omega) (by omega) (by omega)
    have CC := fun W => count_seg x y s W (by omega) (by omega) hs
    have hm := msgsF_le s (pre.map Subtype.val) (fun r hr => by
      obtain ⟨z, _, rfl⟩ := List.mem_map.1 hr
      have := z.2
      omega)
    have hq := cnt_le (y - x).toNat s.toNat
    have hsn : msgsF s (pre.map Subtype.val ++ [(x, y)]) = msgsF s (pre.map Subtype.val) + cnt (y - x).toNat s.toNat := msgsF_snoc s (pre.map Subtype.val) (x, y)
    rw [List.length_map] at hm
    generalize hmm : msgsF s (pre.map Subtype.val) = m at *
    generalize hqq : cnt (y - x).toNat s.toNat = q at *
    have zz : IntKind.i64.wrap ((m : Int) + (q : Int)) = ((m + q : Nat) : Int) := by rw [IntWalk.i64_in _ (by omega)]; omega
    have HN := Lib.hid hn
    have HS' := Lib.hid hs'
    have HBB := Lib.hid hB
    have HSN := Lib.hid hsn
    clear hn hs' hB hsn hmm hqq hblk
    gi_wp2_with fail
    refine wpIn_region_mix' W [] [0, 1, 2, 3, 4, 5] 6 [] (by kernel_rfl) (by kernel_rfl) (by kernel_rfl) (by kernel_rfl) (Kept.of (Below.refl _ _)) ?_
    simp only [PureW, List.filterMap_cons, List.filterMap_nil, List.getElem?_cons_succ, List.getElem?_cons_zero]
    go_simp
    change wpQuiet _ _ _ _ (_ :: _ :: _ :: _ :: _ :: _ :: []) _
    have KC := fun (u : KW W) b o h => KW.cells u b o h
    iterate 6 (go_big_quiet_step (first | (go_at_call 74; (with_reducible exact kept_call (CS _))) | (go_at_call 88; (with_reducible exact kept_same (CC _)))))
    refine wpQuiet_nil ?_
    rintro ⟨w4, k4⟩
    change wpList _ _ _ (_ :: []) _ _
    dsimp only
    clear KC
    have hn4 : Boxed w4 (w.heap.size + 1 + 1) 3 (.int .i64 m) := Blk.kept HN.out k4.2.2
    have hs4 : Boxed w4 (w.heap.size + 1) 3 (.int .i64 s) := Blk.kept HS'.out k4.2.2
    have cn4 := hn4.cell
    have fn4 := hn4.frozen
    have HK4 := Lib.hid k4.2.2
    clear cn cs x1 x2 k4
    go_wp2_with fail
    refine NoPanic.normal (NoOut.normal ?_)
    go_wp2_with fail
    have hz := HBB.out.size
    refine ⟨((KeepsOthers.of_grownBy (row := none) (gr_of_below HK4.out none) (fun j o e => by cases e)).trans (KeepsOthers.setCell _ _ _)).from _, (But.of_below _ HK4.out).trans (But.of_gr (grownBy_setCell' _ _ _) (.inl rfl)), ⟨?_, ?_⟩, (HBB.out.trans (HK4.out.mono hz)).setCell (p := ⟨w.heap.size + 1 + 1, 0, none⟩) (show w.heap.size ≤ w.heap.size + 1 + 1 by omega) _⟩
    · rw [List.map_append]
      show Boxed _ _ _ (.int .i64 ((msgsF s (pre.map Subtype.val ++ [(x, y)]) : Nat) : Int))
      rw [HSN.out, Int.natCast_add]
      exact hn4.set (.int .i64 ((m : Int) + (q : Int)))
    · exact hs4.kept (grownBy_setCell' _ _ _) (by simp)
  case done =>
    rintro D ys W hD rfl ⟨⟨hn, hs'⟩, hB⟩ hK
    have cn := hn.cell
    have HBB := Lib.hid hB
    clear hB
    go_wp2_with fail
    refine ⟨by simp, .inl ⟨_, _, rfl, run_takeDeferred hK, ?_⟩⟩
    rw [segsS_map]
    exact ⟨_, results_tmp rfl _ _ _, rfl, HBB.out.trans (belowK_b (w := w) (Nat.le_refl _) W D _ _ (by have := hw3.size; omega) hK rfl rfl)⟩
  case stop =>
    rintro D c pre W _ _ h _
    exact h.elim

set_option maxHeartbeats 1000000 in
theorem refMessages_any (lo hi k s : Int) (w : World) (h0 : 0 ≤ lo) (h1 : lo ≤ hi) (h2 : hi ≤ 1000000) (hk : k ≤ 10000000) (hs : s ≤ 9223372036854775807) :
    Calls Try.prog 22 #[.agg #[.int .i64 lo, .int .i64 hi], .int .i64 k, .int .i64 s] w fun e w' => e = .returned (.int .i64 (msgsF s (segsL lo hi k))) ∧ Below w.heap.size w w' := by
  have hlen := segsL_length lo hi k h1
  obtain ⟨n, hn⟩ : ∃ n, (segsL lo hi k).length = n := ⟨_, rfl⟩
  have HC := Lib.hid (fun W => refSegments_any lo hi k W h0 h1 h2 hk)
  rw [hn] at HC
  have HN := Lib.hid hn
  have HIN := Lib.hid (segs_in lo hi k h1)
  have hnn : n ≤ 10000000 := by omega
  clear hn hlen
  go_enter Try.func22, Try.ntmps22
  go_wp2_with fail
  ((with_reducible refine (HC.out _).mono ?_); rintro e w1 ⟨A, c, rfl, hown, hb1⟩)
  have k1 := Lib.hid (((Kept.of (Below.refl _ w)).alloc (.cells #[.int .i64 lo, .int .i64 hi] 23)).call hb1).2.2
  have HR := Lib.hid (Rd.of_own hown)
  clear hown hb1
  go_wp2_with fail
  go_loopw [8, 9] (fun v c wr => ∃ i : Nat, i ≤ n ∧ c = .int .i64 i ∧ v = .int .i64 (msgsF s ((segsL lo hi k).take i)) ∧ Below w1.heap.size w1 wr) (fun _ c _ => n - (intOf c).toNat)
  case atStart => exact ⟨0, by omega, rfl, rfl, Below.refl _ _⟩
  case round =>
    obtain ⟨i, hin, rfl, rfl, hB⟩ := hrel
    by_cases hlt : i < n
    · obtain ⟨g, o, x, y, rfl, hbl, hx, c1, c2⟩ := rd_at HN.out (HR.out.below hB) hlt
      obtain ⟨q1, q2, q3⟩ := HIN.out (x, y) (List.mem_of_getElem? hx)
      dsimp only at q1 q2 q3
      have HCC := Lib.hid (fun W => refChunks_any x y s W (by omega) q2 (by omega) hs)
      have hm := msgsF_le s ((segsL lo hi k).take i) (fun r hr => by have := HIN.out r (List.mem_of_mem_take hr); omega)
      have hq := cnt_le (y - x).toNat s.toNat
      have hsn : msgsF s ((segsL lo hi k).take (i + 1)) = msgsF s ((segsL lo hi k).take i) + cnt (y - x).toNat s.toNat := by
        obtain ⟨hk', hx'⟩ := List.getElem?_eq_some_iff.1 hx
        rw [List.take_succ_eq_append_getElem hk', hx']
        exact msgsF_snoc s _ (x, y)
      have htl := List.length_take_le i (segsL lo hi k)
      have HCL := chunksL_length x y s
      generalize hmm : msgsF s ((segsL lo hi k).take i) = m at *
      generalize hqq : cnt (y - x).toNat s.toNat = q at *
      have zz : IntKind.i64.wrap ((m : Int) + (q : Int)) = ((m + q : Nat) : Int) := by rw [IntWalk.i64_in _ (by omega)]; omega
      have HSN := Lib.hid hsn
      replace HCL := Lib.hid HCL
      have HB := Lib.hid hB
      clear hsn hmm hqq hB hx
      go_wp2_with fail
      ((with_reducible refine (HCC.out _).mono ?_); rintro e w2 ⟨A', c', rfl, hown', hb2⟩)
      have HB2 := Lib.hid ((Kept.of HB.out).call hb2).2.2
      have hl : (chunksL x y s).length = q := HCL.out
      clear hown' hb2
      rw [hl]
      clear hl
      go_wp2_with fail
      go_roundw
      case rel => exact ⟨i + 1, by omega, by go_num, by rw [HSN.out]; go_num, HB2.out⟩
      case measure => simp [intOf]; omega
    · obtain rfl : i = n := by omega
      rw [List.take_of_length_le (by rw [HN.out]; exact Nat.le_refl _)]
      go_wp2
      go_ret
      exact ⟨rfl, k1.out.trans (hB.mono k1.out.size)⟩

end Go.Proofs.Ytkecpbdgcbgogaa
