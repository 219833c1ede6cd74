/-
  DrawNexts: the walk.
-/
import Derived.Test.YtncjfijpaheobaaDraw3
import Derived.OpenShut
namespace Go.Proofs.Ytncjfijpaheobaa
set_option linter.unusedVariables false
set_option linter.unusedSimpArgs false
open Go.RowKit

/-- Next and the reference's Next answer alike, whatever the bound. -/
theorem step05 {w : World} {b : Nat} {A : Option Addr} {n cap k : Nat} {L : List Int} (h : Stm w b A n cap k L) (y : Int) (hy : y ≤ 9223372036854775807) (hn : n ≤ 9223372036854775807) :
    ∃ (x : Int) (ok : Bool) (k' : Nat), k' ≤ n ∧ Calls Try.prog 17 #[.pointer (some ⟨b, 0, none⟩), .int .i64 y] w (Turned w b A n cap k' (.tuple #[.int .i64 x, .bool ok])) ∧
      ∀ (B : Option Addr) (c : Nat) (W : World), Rd W 1 B n (uv L) → Calls Try.prog 18 #[.agg #[.slice B n c, .int .i64 k], .int .i64 y] W fun e w' => e = .returned (.tuple #[.agg #[.slice B n c, .int .i64 k'], .int .i64 x, .bool ok]) ∧ Below W.heap.size W w' := by
  by_cases h1 : y < 1
  · exact ⟨0, false, k, h.le, next_low b A n cap k y w h.blk h1, fun B c W _ => refNext_none B n c k y W (.inl h1) hn⟩
  · by_cases h2 : k = n
    · subst h2
      exact ⟨0, false, k, h.le, next_end b A k cap y w h.blk (by omega) hn, fun B c W _ => refNext_none B k c k y W (.inr (Nat.le_refl _)) hn⟩
    · have hk : k < L.length := by rw [h.len]; have := h.le; omega
      exact ⟨_, true, k + 1, by have := h.le; omega, next_some b A n cap k L y _ w h (by omega) hy hn (List.getElem?_eq_getElem hk), fun B c W hr => refNext_some B n c k L y _ W h.len hr h.inb (by omega) hy hn (List.getElem?_eq_getElem hk)⟩

set_option maxHeartbeats 400000 in
theorem drawNexts_far (A B : Option Addr) (n cap m d : Nat) (l : List Int) (w : World) (hn : n * 8 ≤ 140737488351232) (hl : l.length = n) (hr : Rd w 1 A n (uv l)) (hu : InU l) (hm : m ≤ 9223372036854775807) (hfar : 300 < n ∨ 300 < m) :
    Calls Try.prog 3 #[.slice A n cap, .slice B m d] w fun e w' => e = .returned (.bool true) ∧ Below w.heap.size w w' := by
  have HC := Lib.hid (drawNew_any A n cap l w hl hr hn hu)
  clear hl hr hu
  by_cases h1 : 300 < n
  · clear hfar
    go_enter Try.func3, Try.ntmps3
    go_wp2_with fail
    ((with_reducible refine HC.out.mono ?_); rintro e w1 ⟨g, A1, cap1, rfl, hst, hg, hA, hb1⟩)
    clear hst hA
    go_wp2_with fail
    ((with_reducible refine (alive05_any _).mono ?_); rintro e w2 ⟨rfl, hb2⟩)
    go_wp2
    go_ret
    exact ⟨rfl, ((Kept.of hb1).call hb2).2.2⟩
  · have h2 : 300 < m := by omega
    clear hfar
    go_enter Try.func3, Try.ntmps3
    go_wp2_with fail
    ((with_reducible refine HC.out.mono ?_); rintro e w1 ⟨g, A1, cap1, rfl, hst, hg, hA, hb1⟩)
    clear hst hA
    go_wp2_with fail
    ((with_reducible refine (alive05_any _).mono ?_); rintro e w2 ⟨rfl, hb2⟩)
    go_wp2
    go_ret
    exact ⟨rfl, ((Kept.of hb1).call hb2).2.2⟩

set_option maxHeartbeats 1000000 in
theorem drawNexts_near (A B : Option Addr) (n cap m d : Nat) (l bs : List Int) (w : World) (hn : n ≤ 300) (hl : l.length = n) (hr : Rd w 1 A n (uv l)) (hu : InU l) (hm : m ≤ 300) (hlb : bs.length = m) (hrb : Rd w 1 B m (iv bs)) (hbd : ∀ x ∈ bs, x ≤ 9223372036854775807) :
    Calls Try.prog 3 #[.slice A n cap, .slice B m d] w fun e w' => e = .returned (.bool true) ∧ Below w.heap.size w w' := by
  have HC := Lib.hid (drawNew_any A n cap l w hl hr (by omega) hu)
  have HL := Lib.hid hlb
  have HRB := Lib.hid hrb
  have HR := Lib.hid hr
  have HD := Lib.hid hbd
  clear hl hr hu hlb hrb hbd
  go_enter Try.func3, Try.ntmps3
  go_wp2_with fail
  ((with_reducible refine HC.out.mono ?_); rintro e w1 ⟨g, A1, cap1, rfl, hst, hg, hA, hb1⟩)
  have hglt := hst.blk.lt
  have hvs := hb1.size
  have HS := Lib.hid hst
  have HAv : Hid (∀ b' o, A1 = some ⟨b', o, none⟩ → 0 < n → b' ≠ w1.heap.size) := Lib.hid (fun b' o e h0 => by have := hst.rd.lt b' o e h0; omega)
  clear hst hA HC
  go_wp2_with fail
  obtain ⟨v, hv⟩ : ∃ v, w1.heap.size = v := ⟨_, rfl⟩
  rw [hv]
  rw [hv] at HAv
  have hvw : w.heap.size ≤ v := by omega
  have hgv' : g < v := by omega
  go_loopw [37] (fun c wr => ∃ j k : Nat, j ≤ m ∧ c = .int .i64 j ∧ Stm wr g A1 n cap1 k l ∧ Blk wr v 28 #[.slice A n cap, .int .i64 k] ∧ Below w.heap.size w wr) (fun c _ => m - (intOf c).toNat)
  case atStart => exact ⟨0, 0, by omega, rfl, HS.out.kept ((Below.refl _ _).alloc (Nat.le_refl _) _), by rw [← hv]; exact Blk.new _ _ _, hb1.alloc hb1.size _⟩
  case round =>
    obtain ⟨j, k, hj, rfl, hst, hblk, hb⟩ := hrel
    by_cases hlt : j < m
    · obtain ⟨b, o, y, rfl, hbl, hy, cy⟩ := iv_at HL.out (HRB.out.below hb) hlt
      obtain ⟨x, ok, k', hk', C1, C2⟩ := step05 hst y (HD.out y (List.mem_of_getElem? hy)) (by omega)
      have hgv : v ≠ g := by omega
      have HC1 := Lib.hid C1
      have HC2 := Lib.hid C2
      have HS2 := Lib.hid hst
      have HB2 := Lib.hid hblk
      have HW := Lib.hid hb
      have HV := Lib.hid hv
      clear C1 C2 hst hblk hb hy hv
      go_wp2_with fail
      ((with_reducible refine HC1.out.mono ?_); rintro e w2 ⟨rfl, hg2, hblk2⟩)
      have hst2 := HS2.out.turned hg2 hblk2 hk'
      have hv2 := HB2.out.grown hg2 (by simpa using hgv)
      have hb2 := below_gr HW.out HW.out.size hg2 (by omega)
      have HS3 := Lib.hid hst2
      have HB3 := Lib.hid hv2
      have c0 : w2.cell? ⟨v, 0, none⟩ = some (.slice A n cap) := hv2.cell 0
      have c1 : w2.cell? ⟨v, 1, none⟩ = some (.int .i64 k) := hv2.cell 1
      have HC3 := Lib.hid (HC2.out A cap w2 (HR.out.below hb2))
      have HW3 := Lib.hid hb2
      clear hst2 hv2 hb2 hg2 hblk2 HS2 HB2 HW HC1 HC2
      go_wp2_with fail
      ((with_reducible refine HC3.out.mono ?_); rintro e w3 ⟨rfl, hb3⟩)
      have HS4 := Lib.hid (HS3.out.kept hb3)
      have hv3 := HB3.out.kept hb3
      have c2 : w3.cell? ⟨v, 0, none⟩ = some (.slice A n cap) := hv3.cell 0
      have c3 : w3.cell? ⟨v, 1, none⟩ = some (.int .i64 k) := hv3.cell 1
      have f2 := hv3.frozen 0
      have f3 := hv3.frozen 1
      have hvlt := hv3.lt
      have HB4 := Lib.hid hv3
      have HW4 := Lib.hid (((Kept.of HW3.out).call hb3).2.2)
      clear hv3 c0 c1 hb3 HS3 HB3 HW3 HC3
      go_wp2_with fail
      obtain ⟨W5, hW5⟩ : ∃ W5, ((w3.setCell ⟨v, 0, none⟩ (.slice A n cap)).setCell ⟨v, 1, none⟩ (.int .i64 k')).alloc (.cells #[.slice A n cap, .int .i64 k'] 28) = W5 := ⟨_, rfl⟩
      have hst2 := store2 HB4.out (.cells #[.slice A n cap, .int .i64 k'] 28) (.slice A n cap) (.int .i64 k')
      rw [hW5] at hst2 ⊢
      have HS5 := Lib.hid (HS4.out.grown hst2.1 (by omega) HAv.out)
      have HB5 := Lib.hid hst2.2
      have HW5 := Lib.hid (below_gr HW4.out HW4.out.size hst2.1 (by omega))
      clear hst2 hW5 c2 c3 f2 f3 HS4 HB4 HW4
      ((with_reducible refine (same05_any g A1 A n cap1 cap k' _ HS5.out.blk hk' (by omega)).mono ?_); rintro e w4 ⟨rfl, hb4⟩)
      go_wp2
      go_roundw
      case rel => exact ⟨j + 1, k', by omega, by go_num, HS5.out.kept hb4, HB5.out.kept hb4, ((Kept.of HW5.out).call hb4).2.2⟩
      case measure => simp [intOf]; omega
    · go_wp2_with fail
      ((with_reducible refine (alive05_any _).mono ?_); rintro e w2 ⟨rfl, hb2⟩)
      go_wp2
      go_ret
      exact ⟨rfl, ((Kept.of hb).call hb2).2.2⟩

theorem drawNexts_any (A : Option Addr) (n cap : Nat) (l : List Int) (B : Option Addr) (m d : Nat) (bs : List Int) (w : World) (hn : n * 8 ≤ 140737488351232) (hl : l.length = n) (hr : Rd w 1 A n (uv l)) (hu : InU l) (hm : m ≤ 9223372036854775807) (hlb : bs.length = m) (hrb : Rd w 1 B m (iv bs)) (hbd : ∀ x ∈ bs, (Lit.int .i64 x).wf = true) :
    Calls Try.prog 3 #[.slice A n cap, .slice B m d] w fun e w' => e = .returned (.bool true) ∧ Below w.heap.size w w' := by
  by_cases h : 300 < n ∨ 300 < m
  · exact drawNexts_far A B n cap m d l w hn hl hr hu hm h
  · exact drawNexts_near A B n cap m d l bs w (by omega) hl hr hu (by omega) hlb hrb (fun x hx => (bounds_i64 (hbd x hx)).2)

end Go.Proofs.Ytncjfijpaheobaa
