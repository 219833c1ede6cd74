/-
  The reference's New of a sampler; New where the numbers are wrong.
-/
import Derived.Test.YtncjfijpaheobaaSmpRef
namespace Go.Proofs.Ytncjfijpaheobaa
set_option linter.unusedVariables false
set_option linter.unusedSimpArgs false
set_option maxRecDepth 100000
open Go.RowKit

set_option maxHeartbeats 1000000 in
theorem smpNew_range (n b st : Int) (N cap : Nat) (A : Option Addr) (w : World) (hn : n ≤ 60) (hst : st ≤ 60) (h : n < 1 ∨ st < 0) :
    Calls Try.prog 41 #[.int .i64 n, .int .i64 b, .int .i64 st, .slice A N cap] w fun e w' => e = .returned (.tuple #[.pointer none, .int .i64 2]) ∧ Below w.heap.size w w' := by
  have e2 : decide (1048576 < n) = false := decide_eq_false (by omega)
  have e4 : decide (1048576 < st) = false := decide_eq_false (by omega)
  by_cases h1 : n < 1
  · have e1 : decide (n < 1) = true := decide_eq_true h1
    clear h
    go_enter Try.func41, Try.ntmps41
    go_wp2_with fail
    go_ret2
    exact ⟨rfl, (Below.refl _ _).alloc (Nat.le_refl _) _⟩
  · have e1 : decide (n < 1) = false := decide_eq_false h1
    have e3 : decide (st < 0) = true := decide_eq_true (by omega)
    clear h
    go_enter Try.func41, Try.ntmps41
    go_wp2_with fail
    go_ret2
    exact ⟨rfl, (Below.refl _ _).alloc (Nat.le_refl _) _⟩

set_option maxHeartbeats 1000000 in
theorem smpNew_batch (n b st : Int) (N cap : Nat) (A : Option Addr) (w : World) (hn : n ≤ 60) (hst : st ≤ 60) (h1 : 1 ≤ n) (h2 : 0 ≤ st) (h : b < 1 ∨ n < b) :
    Calls Try.prog 41 #[.int .i64 n, .int .i64 b, .int .i64 st, .slice A N cap] w fun e w' => e = .returned (.tuple #[.pointer none, .int .i64 7]) ∧ Below w.heap.size w w' := by
  have e1 : decide (n < 1) = false := decide_eq_false (by omega)
  have e2 : decide (1048576 < n) = false := decide_eq_false (by omega)
  have e3 : decide (st < 0) = false := decide_eq_false (by omega)
  have e4 : decide (1048576 < st) = false := decide_eq_false (by omega)
  by_cases h3 : b < 1
  · have e5 : decide (b < 1) = true := decide_eq_true h3
    clear h
    go_enter Try.func41, Try.ntmps41
    go_wp2_with fail
    go_ret2
    exact ⟨rfl, (Below.refl _ _).alloc (Nat.le_refl _) _⟩
  · have e5 : decide (b < 1) = false := decide_eq_false h3
    have e6 : decide (n < b) = true := decide_eq_true (by omega)
    clear h
    go_enter Try.func41, Try.ntmps41
    go_wp2_with fail
    go_ret2
    exact ⟨rfl, (Below.refl _ _).alloc (Nat.le_refl _) _⟩

theorem set4 {w : World} {g : Nat} {t : TypeId} {x y z u : Value} (h : Blk w g t #[x, y, z, u]) (a b c d : Value) :
    w.grownBy ((((w.setCell ⟨g, 0, none⟩ a).setCell ⟨g, 1, none⟩ b).setCell ⟨g, 2, none⟩ c).setCell ⟨g, 3, none⟩ d) (some g) ∧ Blk ((((w.setCell ⟨g, 0, none⟩ a).setCell ⟨g, 1, none⟩ b).setCell ⟨g, 2, none⟩ c).setCell ⟨g, 3, none⟩ d) g t #[a, b, c, d] :=
  ⟨gr_set (p := ⟨g, 3, none⟩) (gr_set (p := ⟨g, 2, none⟩) (gr_set (p := ⟨g, 1, none⟩) (gr_set (p := ⟨g, 0, none⟩) (World.grownBy.refl w _) (.inl rfl) a) (.inl rfl) b) (.inl rfl) c) (.inl rfl) d, by simpa using (((h.set_ 0 a).set_ 1 b).set_ 2 c).set_ 3 d⟩

/-- No sampler. -/
abbrev noSmp : Value := .agg #[.int .i64 0, .int .i64 0, .int .i64 0, .slice none 0 0]

set_option maxHeartbeats 1000000 in
theorem refNew12_range (n b st : Int) (N cap : Nat) (A : Option Addr) (w : World) (hn : n ≤ 60) (hst : st ≤ 60) (h : n < 1 ∨ st < 0) :
    Calls Try.prog 42 #[.int .i64 n, .int .i64 b, .int .i64 st, .slice A N cap] w fun e w' => e = .returned (.tuple #[noSmp, .int .i64 2]) ∧ Below w.heap.size w w' := by
  have e2 : decide (1048576 < n) = false := decide_eq_false (by omega)
  have e4 : decide (1048576 < st) = false := decide_eq_false (by omega)
  by_cases h1 : n < 1
  · have e1 : decide (n < 1) = true := decide_eq_true h1
    clear h
    go_enter Try.func42, Try.ntmps42
    go_wp2
    exact bodyPost_ret (v := .tuple #[noSmp, .int .i64 2]) (by simp [results, Try.results42, go_sem]) rfl ⟨rfl, (Below.refl _ _).alloc (Nat.le_refl _) _⟩
  · have e1 : decide (n < 1) = false := decide_eq_false h1
    have e3 : decide (st < 0) = true := decide_eq_true (by omega)
    clear h
    go_enter Try.func42, Try.ntmps42
    go_wp2
    exact bodyPost_ret (v := .tuple #[noSmp, .int .i64 2]) (by simp [results, Try.results42, go_sem]) rfl ⟨rfl, (Below.refl _ _).alloc (Nat.le_refl _) _⟩

set_option maxHeartbeats 1000000 in
theorem refNew12_batch (n b st : Int) (N cap : Nat) (A : Option Addr) (w : World) (hn : n ≤ 60) (hst : st ≤ 60) (h1 : 1 ≤ n) (h2 : 0 ≤ st) (h : b < 1 ∨ n < b) :
    Calls Try.prog 42 #[.int .i64 n, .int .i64 b, .int .i64 st, .slice A N cap] w fun e w' => e = .returned (.tuple #[noSmp, .int .i64 7]) ∧ Below w.heap.size w w' := by
  have e1 : decide (n < 1) = false := decide_eq_false (by omega)
  have e2 : decide (1048576 < n) = false := decide_eq_false (by omega)
  have e3 : decide (st < 0) = false := decide_eq_false (by omega)
  have e4 : decide (1048576 < st) = false := decide_eq_false (by omega)
  by_cases h3 : b < 1
  · have e5 : decide (b < 1) = true := decide_eq_true h3
    clear h
    go_enter Try.func42, Try.ntmps42
    go_wp2
    exact bodyPost_ret (v := .tuple #[noSmp, .int .i64 7]) (by simp [results, Try.results42, go_sem]) rfl ⟨rfl, (Below.refl _ _).alloc (Nat.le_refl _) _⟩
  · have e5 : decide (b < 1) = false := decide_eq_false h3
    have e6 : decide (n < b) = true := decide_eq_true (by omega)
    clear h
    go_enter Try.func42, Try.ntmps42
    go_wp2
    exact bodyPost_ret (v := .tuple #[noSmp, .int .i64 7]) (by simp [results, Try.results42, go_sem]) rfl ⟨rfl, (Below.refl _ _).alloc (Nat.le_refl _) _⟩

/-- What the reference's New hands back where its numbers are right. -/
def RNewOut (w : World) (b st N n E : Nat) (L : List Int) (e : Ending) (w' : World) : Prop :=
  Below w.heap.size w w' ∧ ((E * (n - 1) ≤ N ∧ ∃ Ao co vs, e = .returned (.tuple #[.agg #[.int .i64 n, .int .i64 b, .int .i64 st, .slice Ao E co], .int .i64 0]) ∧ w'.ownsRow w.heap.size 23 1 (.slice Ao E co) E (slsv vs) ∧ OwnN w' w.heap.size vs (ordsL L n E)) ∨ (N < E * (n - 1) ∧ e = .returned (.tuple #[noSmp, .int .i64 8])))

section
variable (n b st N cap q E : Nat) (A : Option Addr) (L : List Int) (w : World)

set_option maxHeartbeats 4000000 in
theorem refNew12_any (hb1 : 1 ≤ b) (hbn : b ≤ n) (hn : n ≤ 60) (hst : st ≤ 60) (hq : n / b = q) (hE : cnt st q = E) (hN2 : N ≤ 4000) (hl : L.length = N) (h : Rd w 1 A N (uv L)) (hu : InU L) :
    Calls Try.prog 42 #[.int .i64 n, .int .i64 b, .int .i64 st, .slice A N cap] w (RNewOut w b st N n E L) := by
  have e1 : decide ((n : Int) < 1) = false := decide_eq_false (by omega)
  have e2 : decide ((1048576 : Int) < (n : Int)) = false := decide_eq_false (by omega)
  have e3 : decide ((st : Int) < 0) = false := decide_eq_false (by omega)
  have e4 : decide ((1048576 : Int) < (st : Int)) = false := decide_eq_false (by omega)
  have e5 : decide ((b : Int) < 1) = false := decide_eq_false (by omega)
  have e6 : decide (n < b) = false := decide_eq_false (by omega)
  have hE60 : E ≤ 60 := by rw [← hE]; exact Nat.le_trans (cnt_le st q) hst
  have HEP := Lib.hid (fun W => (by have h := epochs_any n b st q W (by omega) hb1 hbn (by omega) hq; rw [hE] at h; exact h : Calls Try.prog 61 #[.int .i64 n, .int .i64 b, .int .i64 st] W fun e w' => e = .returned (.int .i64 (E : Nat)) ∧ W = w'))
  obtain ⟨m, hm⟩ : ∃ m, n - 1 = m := ⟨_, rfl⟩
  have HND := Lib.hid (fun W => (by have h := need_any n W (by omega); rw [hm] at h; exact h : Calls Try.prog 62 #[.int .i64 n] W fun e w' => e = .returned (.int .i64 (m : Nat)) ∧ W = w'))
  obtain ⟨Em, hEm⟩ : ∃ Em, E * m = Em := ⟨_, rfl⟩
  have hm60 : m ≤ 60 := by omega
  have hEmb : Em ≤ 3600 := by rw [← hEm]; exact Nat.le_trans (Nat.mul_le_mul hE60 hm60) (by omega)
  have hw : IntKind.i64.wrap ((E : Int) * (m : Int)) = (Em : Int) := by
    rw [← Int.natCast_mul, hEm, IntKind.wrap_i64]
    omega
  have HM := Lib.hid hm
  have HEM := Lib.hid hEm
  have HR := Lib.hid h
  have HL := Lib.hid hl
  have HU := Lib.hid hu
  clear h hl hu hq hE hm hEm
  have H0 : Hid (Below w.heap.size w (w.alloc (.cells #[.int .i64 0, .int .i64 0, .int .i64 0, .slice none 0 0] 68)) ∧ Blk (w.alloc (.cells #[.int .i64 0, .int .i64 0, .int .i64 0, .slice none 0 0] 68)) w.heap.size 68 #[.int .i64 0, .int .i64 0, .int .i64 0, .slice none 0 0]) := Lib.hid ⟨(Below.refl _ _).alloc (Nat.le_refl _) _, Blk.new _ _ _⟩
  go_enter Try.func42, Try.ntmps42
  go_wp2_with fail
  ((with_reducible refine (HEP.out _).mono ?_); rintro e wx ⟨rfl, rfl⟩)
  go_wp2_with fail
  ((with_reducible refine (HND.out _).mono ?_); rintro e wx ⟨rfl, rfl⟩)
  by_cases hfit : N < Em
  · have e7 : decide ((N : Int) < (Em : Int)) = true := decide_eq_true (by omega)
    have e7' : decide (N < Em) = true := decide_eq_true (by omega)
    go_wp2
    exact bodyPost_ret (v := .tuple #[noSmp, .int .i64 8]) (by simp [results, Try.results42, go_sem]) rfl ⟨((Below.refl _ _).alloc (Nat.le_refl _) _).alloc (by simp) _, .inr ⟨by rw [HM.out, HEM.out]; exact hfit, rfl⟩⟩
  · have e7 : decide ((N : Int) < (Em : Int)) = false := decide_eq_false (by omega)
    have e7' : decide (N < Em) = false := decide_eq_false (by omega)
    obtain ⟨g, hg⟩ : ∃ g, w.heap.size = g := ⟨_, rfl⟩
    have HX : Hid (∀ w3, ((w.alloc (.cells #[.int .i64 0, .int .i64 0, .int .i64 0, .slice none 0 0] 68)).alloc (.cells #[.int .i64 n, .int .i64 b, .int .i64 st, .slice none 0 0] 68)).alloc (.cells #[.slice A N cap, .int .i64 0] 28) = w3 → Below w.heap.size w w3 ∧ Blk w3 g 68 #[.int .i64 0, .int .i64 0, .int .i64 0, .slice none 0 0] ∧ Blk w3 (g + 1) 68 #[.int .i64 n, .int .i64 b, .int .i64 st, .slice none 0 0] ∧ Blk w3 (g + 1 + 1) 28 #[.slice A N cap, .int .i64 ((0 : Nat) : Int)]) := Lib.hid (by
      rintro w3 rfl
      exact ⟨(((Below.refl _ _).alloc (Nat.le_refl _) _).alloc (by simp) _).alloc (by simp; omega) _, ((Blk.new' _ _ hg).alloc _).alloc _, (Blk.new' _ _ (by simp [hg])).alloc _, Blk.new' _ _ (by simp [hg])⟩)
    go_wp2_with fail
    have HG := Lib.hid hg
    clear hg
    obtain ⟨w3, hw3⟩ : ∃ w3, ((w.alloc (.cells #[.int .i64 0, .int .i64 0, .int .i64 0, .slice none 0 0] 68)).alloc (.cells #[.int .i64 n, .int .i64 b, .int .i64 st, .slice none 0 0] 68)).alloc (.cells #[.slice A N cap, .int .i64 0] 28) = w3 := ⟨_, rfl⟩
    have HX3 := Lib.hid (HX.out w3 hw3)
    rw [hw3]
    clear hw3 HX H0
    have hfitN : Hid (Em ≤ N) := Lib.hid (by omega)
    have hfN : Em ≤ N := hfitN.out
    go_loopw [13] (fun c wr => ∃ (j t E' : Nat) (Ao : Option Addr) (co : Nat) (vs : List SlN), j ≤ E ∧ c = .int .i64 j ∧ Hid (t = j * m) ∧ Hid (E' = j) ∧ Blk wr g 68 #[.int .i64 0, .int .i64 0, .int .i64 0, .slice none 0 0] ∧ Blk wr (g + 1) 68 #[.int .i64 n, .int .i64 b, .int .i64 st, .slice Ao E' co] ∧ Blk wr (g + 1 + 1) 28 #[.slice A N cap, .int .i64 t] ∧ wr.ownsRow w3.heap.size 23 1 (.slice Ao E' co) E' (slsv vs) ∧ OwnN wr w3.heap.size vs (ordsL L n j) ∧ Below w.heap.size w wr ∧ w3.heap.size ≤ wr.heap.size) (fun c _ => E - (intOf c).toNat)
    case atStart => exact ⟨0, 0, 0, none, 0, [], by omega, rfl, Lib.hid (by simp), Lib.hid rfl, HX3.out.2.1, HX3.out.2.2.1, HX3.out.2.2.2, World.ownsRow_nil _ _ _ _, OwnN.nil _ _, HX3.out.1, Nat.le_refl _⟩
    case round =>
      obtain ⟨j, t, E', Ao, co, vs, hj, rfl, ht, hE', hz, hs, hst', ho, hon, hb, hsz⟩ := hrel
      have hwz := HX3.out.1.size
      have hg3 : g + 1 + 1 < w3.heap.size := HX3.out.2.2.2.lt
      by_cases hlt : j < E
      · obtain ⟨t', ht'⟩ : ∃ t', t + m = t' := ⟨_, rfl⟩
        have htN : t' ≤ N := by
          have h1 := Nat.mul_le_mul_right m (show j + 1 ≤ E from hlt)
          rw [HEM.out, Nat.succ_mul, ← ht.out, ht'] at h1
          omega
        have C := refShuf_at N cap n t A L wr HL.out (HR.out.below hb) HU.out (by omega) (by rw [HM.out, ht']; exact htN) (by omega)
        rw [HM.out, ht'] at C
        have HC := Lib.hid C
        have HT' : Hid (t' = (j + 1) * m) := Lib.hid (by rw [Nat.succ_mul, ← ht.out]; exact ht'.symm)
        have HPM : Hid (ordsL L n (j + 1) = ordsL L n j ++ [pemL L n t]) := Lib.hid (by rw [ordsL_succ, HM.out, ht.out])
        have HZ := Lib.hid hz
        have HS := Lib.hid hs
        have HST := Lib.hid hst'
        have HO := Lib.hid ho
        have HON := Lib.hid hon
        have HB := Lib.hid hb
        have hE60' : E' ≤ 60 := by rw [hE'.out]; omega
        have s0 : wr.cell? ⟨g + 1 + 1, 0, none⟩ = some (.slice A N cap) := hst'.cell 0
        have s1 : wr.cell? ⟨g + 1 + 1, 1, none⟩ = some (.int .i64 t) := hst'.cell 1
        have s2 := hst'.lt
        clear hz hs hst' ho hon hb C ht'
        go_wp2_with fail
        ((with_reducible refine HC.out.mono ?_); rintro e w5 ⟨A1, c1, rfl, hown5, hb5⟩)
        have S5 := HST.out.kept hb5
        have st5 := store2' S5 (.slice A N cap) (.int .i64 t')
        have HST5 := Lib.hid st5
        have cs0 := S5.cell 0
        have cs1 := S5.cell 1
        have fs0 := S5.frozen 0
        have fs1 := S5.frozen 1
        have l5 := S5.lt
        have HO5 := Lib.hid ((own_below HO.out hb5).kept st5.1 (.inr (own_blk_ne (own_below HO.out hb5) S5 (by decide))))
        have HN5 := Lib.hid ((HON.out.below hb5).but (But.of_gr (S := fun q => q = g + 1 + 1) st5.1 rfl) (fun v n xs q h e e' => own_blk_ne h S5 (by decide) (e.trans (by rw [e']))))
        have HP5 := Lib.hid (hown5.kept st5.1 (.inr (own_blk_ne hown5 S5 (by decide))))
        have HZ5 := Lib.hid ((HZ.out.kept hb5).grown st5.1 (by simp; omega))
        have HS5 := Lib.hid ((HS.out.kept hb5).grown st5.1 (by simp))
        have HB5 := Lib.hid (below_gr (HB.out.trans (hb5.mono HB.out.size)) (Nat.le_trans HB.out.size hb5.size) st5.1 (by have := HG.out; omega))
        have hsz5 : w3.heap.size ≤ w5.heap.size := Nat.le_trans hsz hb5.size
        have hs3 : w5.cell? ⟨g + 1, 3, none⟩ = some (.slice Ao E' co) := (HS.out.kept hb5).cell 3
        have hsl := (HS.out.kept hb5).lt
        have hsf := (HS.out.kept hb5).frozen 3
        clear hown5 hb5 S5 st5 s0 s1 s2
        obtain ⟨X, hX⟩ : ∃ X, ((w5.setCell ⟨g + 1 + 1, 0, none⟩ (.slice A N cap)).setCell ⟨g + 1 + 1, 1, none⟩ (.int .i64 t')).alloc (.cells #[.slice A N cap, .int .i64 t'] 28) = X := ⟨_, rfl⟩
        have HOa : Hid (X.ownsRow w3.heap.size 23 1 (.slice Ao E' co) E' (slsv vs)) := Lib.hid (by rw [← hX]; exact HO5.out.alloc _)
        have HNa : Hid (OwnN X w3.heap.size vs (ordsL L n j)) := Lib.hid (by rw [← hX]; exact HN5.out.below ((Below.refl _ _).alloc (Nat.le_refl _) _))
        have HPa : Hid (X.ownsRow w3.heap.size 3 1 (.slice A1 n c1) n (iv (pemL L n t))) := Lib.hid (by rw [← hX]; exact own_base (HP5.out.alloc _) hsz)
        have HZa : Hid (Blk X g 68 #[.int .i64 0, .int .i64 0, .int .i64 0, .slice none 0 0]) := Lib.hid (by rw [← hX]; exact HZ5.out.alloc _)
        have HSa : Hid (Blk X (g + 1) 68 #[.int .i64 n, .int .i64 b, .int .i64 st, .slice Ao E' co]) := Lib.hid (by rw [← hX]; exact HS5.out.alloc _)
        have HTa : Hid (Blk X (g + 1 + 1) 28 #[.slice A N cap, .int .i64 t']) := Lib.hid (by rw [← hX]; exact HST5.out.2.alloc _)
        have HBa : Hid (Below w.heap.size w X) := Lib.hid (by rw [← hX]; exact HB5.out.alloc HB5.out.size _)
        have hszX : w3.heap.size ≤ X.heap.size := by rw [← hX]; simp [World.setCell]; omega
        have HXX := Lib.hid hX
        have hXs : w5.heap.size + 1 = X.heap.size := by rw [← hX]; simp [World.setCell]
        have HXS := Lib.hid hXs
        have HSN := Lib.hid (slsv_snoc vs (A1, n, c1))
        clear hX hXs HO5 HN5 HP5 HZ5 HS5 HB5 HST5
        go_wp2_with (at_builtin; rw [HXX.out]; go_must (refine wpList_pushG slRows rfl _ _ rfl w3.heap.size _ E' (slsv vs) rfl HOa.out #[.slice A1 n c1] (w5.heap.size + 1) rfl HXS.out rfl (uone_sl _ _ _) (by unfold maxLen; omega) (by omega) hszX ?_); go_must (intro A6 c6 w6 hown6 hb6 hg6; (have HS6 := Lib.hid (HSa.out.other HOa.out hg6 (by decide))); (have d3 := HS6.out.cell 3); (have df := HS6.out.frozen 3); (have dl := HS6.out.lt); (have HO6 := Lib.hid hown6); (have HG6 := Lib.hid hg6); (have HB6 := Lib.hid hb6); clear hown6 hb6 hg6 HXX cs0 cs1 fs0 fs1 hs3 hsl hsf l5))
        have hst := blk_set3 HS6.out (.slice A6 (E' + 1) c6)
        have HST6 := Lib.hid hst
        clear hst d3 df
        go_roundw
        case rel =>
          refine ⟨j + 1, t', E' + 1, A6, c6, vs ++ [(A1, n, c1)], by omega, by go_num, HT', Lib.hid (by rw [hE'.out]), (HZa.out.other HOa.out HG6.out (by decide)).grown HST6.out.1 (by simp), HST6.out.2, (HTa.out.other HOa.out HG6.out (by decide)).grown HST6.out.1 (by simp), ?_, ?_, ?_, ?_⟩
          · rw [HSN.out]
            exact HO6.out.kept HST6.out.1 (.inr (own_blk_ne HO6.out HS6.out (by decide)))
          · rw [HPM.out]
            have hp6 := HPa.out.kept HG6.out (own_ne_own HPa.out HOa.out (by decide))
            refine OwnN.snoc ((HNa.out.rowkept HOa.out (by decide) HG6.out).but (But.of_gr (S := fun q => q = g + 1) HST6.out.1 rfl) (fun v n xs q h e e' => own_blk_ne h HS6.out (by decide) (e.trans (by rw [e'])))) (by rw [pemL_length]) (hp6.kept HST6.out.1 (.inr (own_blk_ne hp6 HS6.out (by decide))))
          · have h1 := HBa.out.trans (HB6.out.mono hwz)
            exact below_gr h1 h1.size HST6.out.1 (by have := HG.out; omega)
          · have := HB6.out.size
            simp [World.setCell]
            omega
        case measure => simp [intOf]; omega
      · obtain rfl : j = E := by omega
        obtain rfl : E' = j := hE'.out
        have HO := Lib.hid (own_base ho hwz)
        have HON := Lib.hid (hon.base hwz)
        have HB := Lib.hid hb
        have HZ := Lib.hid hz
        have HS := Lib.hid hs
        have s0 : wr.cell? ⟨g + 1, 0, none⟩ = some (.int .i64 n) := hs.cell 0
        have s1 : wr.cell? ⟨g + 1, 1, none⟩ = some (.int .i64 b) := hs.cell 1
        have s2 : wr.cell? ⟨g + 1, 2, none⟩ = some (.int .i64 st) := hs.cell 2
        have s3 : wr.cell? ⟨g + 1, 3, none⟩ = some (.slice Ao E' co) := hs.cell 3
        have s4 := hs.lt
        have z0 := hz.cell 0
        have z1 := hz.cell 1
        have z2 := hz.cell 2
        have z3 := hz.cell 3
        have z4 := hz.lt
        have y0 := hz.frozen 0
        have y1 := hz.frozen 1
        have y2 := hz.frozen 2
        have y3 := hz.frozen 3
        clear hz hs hst' ho hon hb
        go_wp2_with fail
        have hst4 := set4 HZ.out (.int .i64 n) (.int .i64 b) (.int .i64 st) (.slice Ao E' co)
        exact bodyPost_ret (v := .tuple #[.agg #[.int .i64 n, .int .i64 b, .int .i64 st, .slice Ao E' co], .int .i64 0]) (by simp [results, Try.results42, go_sem, z0, z1, z2, z3, z4]) rfl ⟨below_gr HB.out HB.out.size hst4.1 (by have := HG.out; omega), .inl ⟨by rw [HM.out, HEM.out]; exact hfN, Ao, co, vs, rfl, HO.out.kept hst4.1 (.inr (own_blk_ne HO.out HZ.out (by decide))), HON.out.but (But.of_gr (S := fun q => q = g) hst4.1 rfl) (fun v n xs q h e e' => own_blk_ne h HZ.out (by decide) (e.trans (by rw [e'])))⟩⟩
end

end Go.Proofs.Ytncjfijpaheobaa
