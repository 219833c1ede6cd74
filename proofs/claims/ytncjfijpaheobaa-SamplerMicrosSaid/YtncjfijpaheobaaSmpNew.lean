/-
  New of a sampler.
-/
import Derived.Test.YtncjfijpaheobaaSmpNew2
import Derived.Deep.DeepCutAuto
namespace Go.Proofs.Ytncjfijpaheobaa
set_option linter.unusedVariables false
set_option linter.unusedSimpArgs false
set_option maxRecDepth 100000
open Go.RowKit

/-- A sampler in block bs, in memory of the call's own. -/
structure SmpAt (w : World) (base bs : Nat) (bt st : Int) (q E : Nat) (bl : List (Int × Int)) (os : List (List Int)) : Prop where
  low : base ≤ bs
  ex : ∃ Ab cb Ao co vs, Blk w bs 97 (smpC bt st Ab q cb Ao E co) ∧ w.ownsRow base 108 2 (.slice Ab q cb) q (rv bl) ∧ w.ownsRow base 23 1 (.slice Ao E co) E (slsv vs) ∧ OwnN w base vs os
theorem SmpAt.below {w w' : World} {base bs : Nat} {bt st : Int} {q E : Nat} {bl : List (Int × Int)} {os : List (List Int)} (h : SmpAt w base bs bt st q E bl os) (hb : Below w.heap.size w w') : SmpAt w' base bs bt st q E bl os := by
  obtain ⟨h0, Ab, cb, Ao, co, vs, h1, h2, h3, h4⟩ := h
  exact ⟨h0, Ab, cb, Ao, co, vs, h1.kept hb, own_below h2 hb, own_below h3 hb, h4.below hb⟩
theorem SmpAt.base {w : World} {base base' bs : Nat} {bt st : Int} {q E : Nat} {bl : List (Int × Int)} {os : List (List Int)} (h : SmpAt w base bs bt st q E bl os) (hb : base' ≤ base) : SmpAt w base' bs bt st q E bl os := by
  obtain ⟨h0, Ab, cb, Ao, co, vs, h1, h2, h3, h4⟩ := h
  exact ⟨Nat.le_trans hb h0, Ab, cb, Ao, co, vs, h1, own_base h2 hb, own_base h3 hb, h4.base hb⟩

/-- What New hands back where its numbers are right. -/
def NewOut (w : World) (b st N n q E : Nat) (L : List Int) (e : Ending) (w' : World) : Prop :=
  Below w.heap.size w w' ∧ ((E * (n - 1) ≤ N ∧ ∃ bs, e = .returned (.tuple #[.pointer (some ⟨bs, 0, none⟩), .int .i64 0]) ∧ SmpAt w' w.heap.size bs b st q E (blocksL (q * b) b) (ordsL L n E)) ∨ (N < E * (n - 1) ∧ e = .returned (.tuple #[.pointer none, .int .i64 8])))

theorem store_old {w : World} {g : Nat} {t : TypeId} {x : Value} (h : Blk w g t #[x]) (v : Value) : w.grownBy (w.setCell ⟨g, 0, none⟩ v) (some g) ∧ Blk (w.setCell ⟨g, 0, none⟩ v) g t #[v] :=
  ⟨gr_set (p := ⟨g, 0, none⟩) (World.grownBy.refl w _) (.inl rfl) v, by simpa using h.set_ 0 v⟩
theorem store_new (w : World) (cs : Array Value) (t u : TypeId) (x v : Value) :
    ((w.alloc (.cells #[x] u)).alloc (.cells cs t)).grownBy (((w.alloc (.cells #[x] u)).alloc (.cells cs t)).setCell ⟨w.heap.size, 0, none⟩ v) (some w.heap.size) ∧
    Blk (((w.alloc (.cells #[x] u)).alloc (.cells cs t)).setCell ⟨w.heap.size, 0, none⟩ v) w.heap.size u #[v] :=
  store_old ((Blk.new w u #[x]).alloc _) v

section
variable (n b st N cap q E : Nat) (A : Option Addr) (L : List Int) (w : World)

set_option maxHeartbeats 4000000 in
theorem smpNew_any (hb1 : 1 ≤ b) (hbn : b ≤ n) (hn : n ≤ 60) (hst : st ≤ 60) (hq : n / b = q) (hE : cnt st q = E) (hN2 : N ≤ 4000) (hl : L.length = N) (h : Rd w 1 A N (uv L)) (hu : InU L) :
    Calls Try.prog 41 #[.int .i64 n, .int .i64 b, .int .i64 st, .slice A N cap] w (NewOut w b st N n q E L) := by
  have e1 : decide ((n : Int) < 1) = false := decide_eq_false (by omega)
  have e2 : decide ((1048576 : Int) < (n : Int)) = false := decide_eq_false (by omega)
  have e3 : decide ((st : Int) < 0) = false := decide_eq_false (by omega)
  have e4 : decide ((1048576 : Int) < (st : Int)) = false := decide_eq_false (by omega)
  have e5 : decide ((b : Int) < 1) = false := decide_eq_false (by omega)
  have e6 : decide (n < b) = false := decide_eq_false (by omega)
  have HR := Lib.hid h
  have HL := Lib.hid hl
  have HU := Lib.hid hu
  have HQ := Lib.hid hq
  have HE := Lib.hid hE
  clear h hl hu hq hE
  go_enter Try.func41, Try.ntmps41
  go_wp2_with fail
  have HMA : Hid (Below w.heap.size w (w.alloc (.cells #[.int .i64 (n : Int)] 3)) ∧ Blk (w.alloc (.cells #[.int .i64 (n : Int)] 3)) w.heap.size 3 #[.int .i64 n]) := Lib.hid ⟨(Below.refl _ _).alloc (Nat.le_refl _) _, Blk.new _ _ _⟩
  obtain ⟨g0, hg0⟩ : ∃ g0, w.heap.size = g0 := ⟨_, rfl⟩
  have HG0 := Lib.hid hg0
  rw [hg0] at HMA ⊢
  obtain ⟨w0, hw0⟩ : ∃ w0, w.alloc (.cells #[.int .i64 (n : Int)] 3) = w0 := ⟨_, rfl⟩
  rw [hw0] at HMA ⊢
  clear hw0 hg0
  have c0 : w0.cell? ⟨g0, 0, none⟩ = some (.int .i64 n) := HMA.out.2.cell 0
  have l0 := HMA.out.2.lt
  have hdm : b * q + n % b = n := by have := Nat.div_add_mod n b; rw [HQ.out] at this; exact this
  have hmlt : n % b < b := Nat.mod_lt _ hb1
  have hq1 : 1 ≤ q := by rw [← HQ.out]; exact (Nat.one_le_div_iff (by omega)).2 hbn
  have hq60 : q ≤ 60 := by rw [← HQ.out]; exact Nat.le_trans (Nat.div_le_self n b) hn
  have hE60 : E ≤ 60 := by rw [← HE.out]; exact Nat.le_trans (cnt_le st q) hst
  have hqn : q * b ≤ n := by rw [Nat.mul_comm]; omega
  have hw : IntKind.i64.wrap ((n : Int) - (n : Int) % (b : Int)) = ((q * b : Nat) : Int) := by
    have h1 : (n : Int) - (n : Int) % (b : Int) = ((q * b : Nat) : Int) := by
      rw [← Int.natCast_emod, Nat.mul_comm q b]
      omega
    rw [h1, IntKind.wrap_i64]
    omega
  have hcq : cnt (q * b) b = q := by
    rw [cnt_pos (q * b) b (Nat.mul_pos hq1 hb1) hb1]
    obtain ⟨q', rfl⟩ : ∃ q', q = q' + 1 := ⟨q - 1, by omega⟩
    have h1 : (q' + 1) * b - 1 = q' * b + (b - 1) := by rw [Nat.succ_mul]; omega
    have h2 : (q' * b + (b - 1)) / b = q' := by
      rw [Nat.add_comm, Nat.add_mul_div_right _ _ (by omega), Nat.div_eq_of_lt (by omega)]
      omega
    rw [h1, h2]
  have HBL := Lib.hid (fun W => (by have h := blocks_any (q * b) b W (Nat.mul_pos hq1 hb1) (by omega) hb1 (by omega); rw [hcq] at h; exact h : Calls Try.prog 58 #[.int .i64 ((q * b : Nat) : Int), .int .i64 b] W (OwnRet W 108 2 q (rv (blocksL (q * b) b)))))
  obtain ⟨qb, hqb⟩ : ∃ qb, q * b = qb := ⟨_, rfl⟩
  rw [hqb] at hw HBL hqn
  have HQB := Lib.hid hqb
  obtain ⟨bl, hbl⟩ : ∃ bl, blocksL qb b = bl := ⟨_, rfl⟩
  rw [hbl] at HBL
  have HBLL := Lib.hid hbl
  clear hqb hbl hdm hmlt hcq
  obtain ⟨d, hd⟩ : ∃ d, n % b = d := ⟨_, rfl⟩
  have hri : (n : Int).tmod (b : Int) = (d : Int) := by rw [← hd]; rfl
  have hri2 : (n : Int) % (b : Int) = (d : Int) := by rw [← hd]; rfl
  have zn : ¬ b = 0 := by omega
  rw [hri2] at hw
  clear hd hri2
  have ks0 : Kept w0 (w0.alloc (.cells #[.pointer none] 63)).drew := ((Kept.of (Below.refl _ w0)).alloc _).drew
  go_cut [10] (fun s10 wc => ∃ (gs bs cb : Nat) (Ab : Option Addr), s10 = .pointer (some ⟨gs, 0, none⟩) ∧ w0.heap.size ≤ gs ∧ w0.heap.size ≤ bs ∧ Kept w0 wc ∧ Blk wc gs 63 #[.pointer (some ⟨bs, 0, none⟩)] ∧ Blk wc bs 97 (smpC b st Ab q cb none 0 0) ∧ wc.ownsRow w0.heap.size 108 2 (.slice Ab q cb) q (rv bl))
  case first =>
    go_region_held3 (fun w' => Kept w0 w') (first | exact kk | exact kk.alloc _ | exact (kk.alloc _).alloc _ | exact kst | exact ks0 | exact Kept.start w0) (first
      | (go_at_call 58; (with_reducible refine (HBL.out w0.drew).mono ?_); rintro e w1 ⟨Ab, cb, rfl, hO, hb⟩; have kk := (Kept.start w0).call hb; have HOB := Lib.hid hO; have v0 := (Blk.new w1 63 #[.pointer none]).cell 0; have v1 := (Blk.new w1 63 #[.pointer none]).frozen 0; have v2 := (Blk.new w1 63 #[.pointer none]).lt; have HSE := Lib.hid (store_new w1 (smpC b st Ab q cb none 0 0) 97 63 (.pointer none) (.pointer (some ⟨w1.heap.size + 1, 0, none⟩))); have kst := Kept.of (below_gr ((kk.alloc (.cells #[.pointer none] 63)).alloc (.cells (smpC b st Ab q cb none 0 0) 97)).2.2 ((kk.alloc (.cells #[.pointer none] 63)).alloc (.cells (smpC b st Ab q cb none 0 0) 97)).2.1 HSE.out.1 kk.2.1); clear hO hb)
      | (go_at_call 58; (with_reducible refine (HBL.out (w0.alloc (.cells #[.pointer none] 63)).drew).mono ?_); rintro e w1 ⟨Ab, cb, rfl, hO, hb⟩; have kk := ks0.call hb; have HB1 := Lib.hid ((Blk.new w0 63 #[.pointer none]).drew.kept hb); have hu := Nat.le_refl w0.heap.size; have HOB := Lib.hid hO; have v0 := HB1.out.cell 0; have v1 := HB1.out.frozen 0; have v2 := HB1.out.lt; have HSE := Lib.hid (store_old HB1.out (.pointer (some ⟨w1.heap.size, 0, none⟩))); have kst := (Kept.of (below_gr kk.2.2 kk.2.1 HSE.out.1 hu)).alloc (.cells (smpC b st Ab q cb none 0 0) 97); clear hO hb))
    all_goals go_wp2_with fail
    all_goals go_meet
    all_goals first
      | exact ⟨w1.heap.size + 1, w1.heap.size, cb, Ab, rfl, Nat.le_succ_of_le kk.2.1, kk.2.1, (kk.alloc _).alloc _, Blk.new' _ _ (by simp), (Blk.new w1 _ _).alloc _, (HOB.out.alloc _).alloc _⟩
      | exact ⟨w1.heap.size, w1.heap.size + 1, cb, Ab, rfl, kk.2.1, Nat.le_succ_of_le kk.2.1, (kk.alloc _).alloc _, (Blk.new w1 _ _).alloc _, Blk.new' _ _ (by simp), (HOB.out.alloc _).alloc _⟩
      | exact ⟨w0.heap.size, w1.heap.size, cb, Ab, rfl, Nat.le_refl _, kk.2.1, kst, HSE.out.2.alloc _, Blk.new' _ _ (by simp [World.setCell]), own_base ((HOB.out.kept HSE.out.1 (.inr (own_blk_ne HOB.out HB1.out (by decide)))).alloc _) (by simp)⟩
  case rest =>
    rename World => wq
    obtain ⟨gs, bs, cb, Ab, rfl, hgs, hbs, kk, hbg, hbb, hob⟩ := hcut
    have hBq : Below w.heap.size w wq := by
      have h1 := HMA.out.1
      rw [← HG0.out] at h1
      exact h1.trans (kk.2.2.mono h1.size)
    have HBQ := Lib.hid hBq
    have HN0 := Lib.hid (HMA.out.2.kept kk.2.2)
    have HS1 := Lib.hid hbg
    have HB1 := Lib.hid hbb
    have HO1 := Lib.hid hob
    have hw0 : w.heap.size ≤ w0.heap.size := HMA.out.1.size
    clear kk hbg hbb hob hBq c0 l0 ks0 HBL
    go_wp2_with fail
    ((with_reducible refine (drawNew_any A N cap L wq HL.out (HR.out.below HBQ.out) (by omega) HU.out).mono ?_); rintro e w2 ⟨sb, A2, cap2, rfl, hst2, hsb, hA2, hb2⟩)
    have HST := Lib.hid hst2
    have HB2 := Lib.hid hb2
    have HX1 := Lib.hid (HN0.out.kept hb2)
    have HX2 := Lib.hid (HS1.out.kept hb2)
    have HX3 := Lib.hid (HB1.out.kept hb2)
    have HX4 := Lib.hid (own_below HO1.out hb2)
    have d0 : w2.cell? ⟨gs, 0, none⟩ = some (.pointer (some ⟨bs, 0, none⟩)) := HX2.out.cell 0
    have d1 : w2.cell? ⟨bs, 2, none⟩ = some (.slice Ab q cb) := HX3.out.cell 2
    have d2 := HX2.out.lt
    have d3 := HX3.out.lt
    have hbsq := HB1.out.lt
    clear hst2 hb2
    have HCNT := Lib.hid (fun W => (by have h := count_nat st q W (by omega) (by omega); rw [HE.out] at h; exact h : Calls Try.prog 60 #[.int .i64 st, .int .i64 q] W fun e w' => e = .returned (.int .i64 (E : Nat)) ∧ W = w'))
    have h3 : Below w2.heap.size w2 (w2.alloc (.cells #[.pointer (some ⟨sb, 0, none⟩)] 24)) := (Below.refl _ _).alloc (Nat.le_refl _) _
    have hg3 : Blk (w2.alloc (.cells #[.pointer (some ⟨sb, 0, none⟩)] 24)) w2.heap.size 24 #[.pointer (some ⟨sb, 0, none⟩)] := Blk.new _ _ _
    have hs3 : (w2.alloc (.cells #[.pointer (some ⟨sb, 0, none⟩)] 24)).heap.size = w2.heap.size + 1 := by simp
    have H3 := Lib.hid (And.intro h3 (And.intro hg3 hs3))
    clear h3 hg3 hs3
    go_wp2_with fail
    ((with_reducible refine (HCNT.out _).mono ?_); rintro e w9 ⟨rfl, rfl⟩)
    obtain ⟨w3, hw3⟩ : ∃ w3, w2.alloc (.cells #[.pointer (some ⟨sb, 0, none⟩)] 24) = w3 := ⟨_, rfl⟩
    rw [hw3] at H3 ⊢
    clear hw3 d0 d1 d2 d3
    obtain ⟨gt, hgt⟩ : ∃ gt, w2.heap.size = gt := ⟨_, rfl⟩
    have hsb2 : sb < w2.heap.size := HST.out.blk.lt
    have hgs2 : gs < w2.heap.size := HX2.out.lt
    have hbs2 : bs < w2.heap.size := HX3.out.lt
    have HAL := Lib.hid (fun b o (e : A2 = some ⟨b, o, none⟩) (h0 : 0 < N) => (⟨HST.out.rd.lt b o e h0, hA2 b o e⟩ : b < w2.heap.size ∧ wq.heap.size ≤ b))
    have HIN : Hid (NewSt ⟨g0, w3.heap.size, g0, gt, gs, bs, sb, n, N, cap2, q, cb, A2, Ab, b, st, L, bl⟩ w3 0) := Lib.hid (by
      have hz := H3.out.2.2
      have hB := H3.out.1
      have hwq := HBQ.out.size
      have hg := H3.out.2.1
      rw [hgt] at hg
      exact ⟨HX1.out.kept hB, hg, HX2.out.kept hB, (by
        show g0 ≤ bs ∧ g0 ≤ sb ∧ g0 ≤ w3.heap.size ∧ bs < w3.heap.size ∧ sb < w3.heap.size
        have := HG0.out
        omega), by
          show Stm w3 sb A2 N cap2 (0 * (n - 1)) L
          rw [Nat.zero_mul]
          exact HST.out.kept hB, fun b' o e h0 => by
            have := HAL.out b' o e h0
            show b' < w3.heap.size ∧ b' ≠ bs
            omega, ⟨none, 0, [], HX3.out.kept hB, World.ownsRow_nil _ _ _ _, OwnN.nil _ _⟩, own_base (own_below HX4.out hB) (by have := HG0.out; show g0 ≤ w0.heap.size; omega), Nat.le_refl _⟩)
    have HB3 : Hid (Below w.heap.size w w3) := Lib.hid (((Kept.of HBQ.out).call HB2.out).call H3.out.1).2.2
    have HSOME := Lib.hid (fun j wr (h : NewSt ⟨g0, w3.heap.size, g0, gt, gs, bs, sb, n, N, cap2, q, cb, A2, Ab, b, st, L, bl⟩ wr j) (hj : j ≤ 1000) (hN : (j + 1) * (n - 1) ≤ N) => h.step (by show n ≤ 1000; omega) hj hN (by show N ≤ 10000000; omega))
    have HSHRT := Lib.hid (fun j wr (h : NewSt ⟨g0, w3.heap.size, g0, gt, gs, bs, sb, n, N, cap2, q, cb, A2, Ab, b, st, L, bl⟩ wr j) (hj : j ≤ 1000) (hN : N < (j + 1) * (n - 1)) => h.short (by show n ≤ 1000; omega) hj hN (by show N ≤ 10000000; omega))
    rw [hgt]
    clear HX1 HX2 HX3 HX4 HST HAL hA2 HCNT HN0 HS1 HB1 HO1 HMA H3 hw HBQ HB2
    go_wp2_with fail
    go_loopw [57] (fun c wr => ∃ j : Nat, j ≤ E ∧ c = .int .i64 j ∧ NewSt ⟨g0, w3.heap.size, g0, gt, gs, bs, sb, n, N, cap2, q, cb, A2, Ab, b, st, L, bl⟩ wr j ∧ Below w.heap.size w wr) (fun c _ => E - (intOf c).toNat)
    case atStart => exact ⟨0, by omega, rfl, HIN.out, HB3.out⟩
    case round =>
      obtain ⟨j, hj, rfl, hs, hb⟩ := hrel
      have HB := Lib.hid hb
      have HSS := Lib.hid hs
      have r1 : wr.cell? ⟨gs, 0, none⟩ = some (.pointer (some ⟨bs, 0, none⟩)) := hs.hs.cell 0
      have r2 := hs.hs.lt
      clear hs hb
      by_cases hlt : j < E
      · by_cases hfit : (j + 1) * (n - 1) ≤ N
        · have C := Lib.hid (HSOME.out j wr HSS.out (by omega) hfit)
          have HF := Lib.hid hfit
          clear hfit
          go_wp2_with fail
          ((with_reducible refine C.out.mono ?_); rintro e w5 ⟨rfl, hs5, hb5⟩)
          have HS5 := Lib.hid hs5
          have HB5 := Lib.hid (HB.out.trans (by rw [HG0.out]; exact hb5))
          clear hs5 hb5
          go_wp2_with fail
          go_roundw
          case rel => exact ⟨j + 1, by omega, by go_num, HS5.out, HB5.out⟩
          case measure => simp [intOf]; omega
        · have C := Lib.hid (HSHRT.out j wr HSS.out (by omega) (by omega))
          have HF := Lib.hid (Nat.lt_of_lt_of_le (Nat.lt_of_not_le hfit) (Nat.mul_le_mul_right (n - 1) hlt))
          clear hfit
          go_wp2_with fail
          ((with_reducible refine C.out.mono ?_); rintro e w5 ⟨rfl, hb5⟩)
          have HB5 := Lib.hid (HB.out.trans (by rw [HG0.out]; exact hb5))
          clear hb5
          go_wp2_with fail
          go_ret2
          exact ⟨HB5.out, .inr ⟨HF.out, rfl⟩⟩
      · obtain rfl : j = E := by omega
        go_wp2_with fail
        go_ret2
        obtain ⟨Ao, co, vs, q1, q2, q3⟩ := HSS.out.blk
        refine ⟨HB.out, .inl ⟨HSS.out.stm.le, bs, rfl, ?_⟩⟩
        rw [HQB.out, HBLL.out]
        have hl1 := HSS.out.low
        have hgg := HG0.out
        exact ⟨by rw [hgg]; exact hl1.1, Ab, cb, Ao, co, vs, q1, own_base HSS.out.rows (by rw [hgg]; exact Nat.le_refl _), own_base q2 (by rw [hgg]; exact hl1.2.2.1), q3.base (by rw [hgg]; exact hl1.2.2.1)⟩
end

end Go.Proofs.Ytncjfijpaheobaa
