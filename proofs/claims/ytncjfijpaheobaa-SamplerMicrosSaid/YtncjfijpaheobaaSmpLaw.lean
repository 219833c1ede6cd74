/-
  What the laws of the sampler share: both New's side by side, few, alive.
-/
import Derived.Test.YtncjfijpaheobaaSmpRefBatch
namespace Go.Proofs.Ytncjfijpaheobaa
set_option linter.unusedVariables false
set_option linter.unusedSimpArgs false
set_option maxRecDepth 100000
open Go.RowKit

theorem smpP_of {n b st : Nat} (hb1 : 1 ≤ b) (hbn : b ≤ n) (hn : n ≤ 60) (hst : st ≤ 60) : SmpP n b st (n / b) (cnt st (n / b)) := by
  have hq1 : 1 ≤ n / b := (Nat.one_le_div_iff (by omega)).2 hbn
  have hq60 : n / b ≤ n := Nat.div_le_self n b
  refine ⟨hq1, by omega, hb1, hbn, Nat.div_mul_le_self n b, by omega, by omega, ?_, rfl, rfl⟩
  generalize n / b = q at hq1
  rw [cnt_pos (q * b) b (Nat.mul_pos hq1 hb1) hb1]
  obtain ⟨q', rfl⟩ : ∃ q', q = q' + 1 := ⟨q - 1, by omega⟩
  have h1 : (q' + 1) * b - 1 = q' * b + (b - 1) := by rw [Nat.succ_mul]; omega
  have h2 : (q' * b + (b - 1)) / b = q' := by
    rw [Nat.add_comm, Nat.add_mul_div_right _ _ (by omega), Nat.div_eq_of_lt (by omega)]
    omega
  rw [h1, h2]

theorem bl_len {n b st q E : Nat} (P : SmpP n b st q E) : (blocksL (q * b) b).length = q := by rw [blocksL_length, P.hc]

/-- Both New's give the same code; without one, both give a sampler with the same orders. -/
def NewBoth (n b st : Int) (N : Nat) (L : List Int) : Prop :=
  (∃ c : Int, c ≠ 0 ∧ (∀ A cap W, Rd W 1 A N (uv L) → Calls Try.prog 41 #[.int .i64 n, .int .i64 b, .int .i64 st, .slice A N cap] W fun e w' => e = .returned (.tuple #[.pointer none, .int .i64 c]) ∧ Below W.heap.size W w') ∧
    (∀ A cap W, Rd W 1 A N (uv L) → Calls Try.prog 42 #[.int .i64 n, .int .i64 b, .int .i64 st, .slice A N cap] W fun e w' => e = .returned (.tuple #[noSmp, .int .i64 c]) ∧ Below W.heap.size W w')) ∨
  (∃ n' b' st' q E : Nat, n = n' ∧ b = b' ∧ st = st' ∧ SmpP n' b' st' q E ∧ n' ≤ 60 ∧ st' ≤ 60 ∧
    (∀ A cap W, Rd W 1 A N (uv L) → Calls Try.prog 41 #[.int .i64 n, .int .i64 b, .int .i64 st, .slice A N cap] W fun e w' => ∃ bs, e = .returned (.tuple #[.pointer (some ⟨bs, 0, none⟩), .int .i64 0]) ∧ SmpAt w' W.heap.size bs b' st' q E (blocksL (q * b') b') (ordsL L n' E) ∧ Below W.heap.size W w') ∧
    (∀ A cap W, Rd W 1 A N (uv L) → Calls Try.prog 42 #[.int .i64 n, .int .i64 b, .int .i64 st, .slice A N cap] W fun e w' => ∃ Ao co, e = .returned (.tuple #[rsmp n' b' st' Ao E co, .int .i64 0]) ∧ RSmp w' W.heap.size n' Ao E co (ordsL L n' E) ∧ Below W.heap.size W w'))

theorem newBoth (n b st : Int) (N : Nat) (L : List Int) (hn : n ≤ 60) (hst : st ≤ 60) (hN : N ≤ 4000) (hl : L.length = N) (hu : InU L) : NewBoth n b st N L := by
  by_cases h1 : n < 1 ∨ st < 0
  · exact .inl ⟨2, by decide, fun A cap W _ => smpNew_range n b st N cap A W hn hst h1, fun A cap W _ => refNew12_range n b st N cap A W hn hst h1⟩
  · by_cases h2 : b < 1 ∨ n < b
    · exact .inl ⟨7, by decide, fun A cap W _ => smpNew_batch n b st N cap A W hn hst (by omega) (by omega) h2, fun A cap W _ => refNew12_batch n b st N cap A W hn hst (by omega) (by omega) h2⟩
    · obtain ⟨n', rfl⟩ := Int.eq_ofNat_of_zero_le (show 0 ≤ n by omega)
      obtain ⟨b', rfl⟩ := Int.eq_ofNat_of_zero_le (show 0 ≤ b by omega)
      obtain ⟨st', rfl⟩ := Int.eq_ofNat_of_zero_le (show 0 ≤ st by omega)
      have C1 := fun A cap W (h : Rd W 1 A N (uv L)) => smpNew_any n' b' st' N cap _ _ A L W (by omega) (by omega) (by omega) (by omega) rfl rfl hN hl h hu
      have C2 := fun A cap W (h : Rd W 1 A N (uv L)) => refNew12_any n' b' st' N cap _ _ A L W (by omega) (by omega) (by omega) (by omega) rfl rfl hN hl h hu
      by_cases h3 : cnt st' (n' / b') * (n' - 1) ≤ N
      · refine .inr ⟨n', b', st', _, _, rfl, rfl, rfl, smpP_of (by omega) (by omega) (by omega) (by omega), by omega, by omega, fun A cap W h => (C1 A cap W h).mono ?_, fun A cap W h => (C2 A cap W h).mono ?_⟩
        · rintro e w' ⟨hb, ⟨_, bs, he, hs⟩ | ⟨hno, _⟩⟩
          · exact ⟨bs, he, hs, hb⟩
          · omega
        · rintro e w' ⟨hb, ⟨_, Ao, co, vs, he, h1, h2⟩ | ⟨hno, _⟩⟩
          · exact ⟨Ao, co, he, ⟨vs, h1, h2⟩, hb⟩
          · omega
      · refine .inl ⟨8, by decide, fun A cap W h => (C1 A cap W h).mono ?_, fun A cap W h => (C2 A cap W h).mono ?_⟩
        · rintro e w' ⟨hb, ⟨hyes, _⟩ | ⟨_, he⟩⟩
          · omega
          · exact ⟨he, hb⟩
        · rintro e w' ⟨hb, ⟨hyes, _⟩ | ⟨_, he⟩⟩
          · omega
          · exact ⟨he, hb⟩

/-- Is a run small? -/
def fewR (n st : Int) (N : Nat) : Bool := decide (n ≤ 60) && (decide (st ≤ 60) && decide (N ≤ 4000))
theorem fewR_iff (n st : Int) (N : Nat) : fewR n st N = true ↔ n ≤ 60 ∧ st ≤ 60 ∧ N ≤ 4000 := by simp [fewR]

set_option maxHeartbeats 1000000 in
theorem few12_any (n b st : Int) (A : Option Addr) (N cap : Nat) (w : World) (hN : N ≤ 9223372036854775807) :
    Calls Try.prog 39 #[.agg #[.int .i64 n, .int .i64 b, .int .i64 st, .slice A N cap]] w fun e w' => e = .returned (.bool (fewR n st N)) ∧ Below w.heap.size w w' := by
  obtain ⟨p, hp⟩ : ∃ p, fewR n st N = p := ⟨_, rfl⟩
  rw [hp]
  by_cases h1 : n ≤ 60
  · by_cases h2 : st ≤ 60
    · by_cases h3 : N ≤ 4000
      · obtain rfl : p = true := by rw [← hp]; simp [fewR, h1, h2, h3]
        have e3 : decide ((N : Int) ≤ 4000) = true := decide_eq_true (by omega)
        clear hp
        go_enter Try.func39, Try.ntmps39
        go_wp2_with fail
        go_ret
        exact ⟨rfl, (Below.refl _ _).alloc (Nat.le_refl _) _⟩
      · obtain rfl : p = false := by rw [← hp]; simp [fewR, h3]
        have e3 : decide ((N : Int) ≤ 4000) = false := decide_eq_false (by omega)
        clear hp
        go_enter Try.func39, Try.ntmps39
        go_wp2_with fail
        go_ret
        exact ⟨rfl, (Below.refl _ _).alloc (Nat.le_refl _) _⟩
    · obtain rfl : p = false := by rw [← hp]; simp [fewR, h2]
      clear hp
      go_enter Try.func39, Try.ntmps39
      go_wp2_with fail
      go_ret
      exact ⟨rfl, (Below.refl _ _).alloc (Nat.le_refl _) _⟩
  · obtain rfl : p = false := by rw [← hp]; simp [fewR, h1]
    clear hp
    go_enter Try.func39, Try.ntmps39
    go_wp2_with fail
    go_ret
    exact ⟨rfl, (Below.refl _ _).alloc (Nat.le_refl _) _⟩

set_option maxHeartbeats 1000000 in
theorem alive12_any (w : World) : Calls Try.prog 40 #[] w fun e w' => e = .returned (.bool true) ∧ Below w.heap.size w w' := by
  have P : SmpP 4 2 2 (4 / 2) (cnt 2 (4 / 2)) := smpP_of (by omega) (by omega) (by omega) (by omega)
  have hu : InU [3, 2, 1] := by intro x hx; simp at hx; omega
  have HA : Hid (Below w.heap.size w (w.alloc (.cells #[.int .u64 3, .int .u64 2, .int .u64 1] 38)) ∧ Rd (w.alloc (.cells #[.int .u64 3, .int .u64 2, .int .u64 1] 38)) 1 (some ⟨w.heap.size, 0, none⟩) 3 (uv [3, 2, 1])) := Lib.hid ⟨(Below.refl _ _).alloc (Nat.le_refl _) _, rd_new w _ _ 3 rfl⟩
  have C1' : ∀ A cap W, Rd W 1 A 3 (uv [3, 2, 1]) → Calls Try.prog 41 #[.int .i64 4, .int .i64 2, .int .i64 2, .slice A 3 cap] W (NewOut W 2 2 3 4 (4 / 2) (cnt 2 (4 / 2)) [3, 2, 1]) := fun A cap W h => smpNew_any 4 2 2 3 cap _ _ A [3, 2, 1] W (by omega) (by omega) (by omega) (by omega) rfl rfl (by omega) rfl h hu
  have C1 := Lib.hid C1'
  have C2 := Lib.hid (fun bs W base (h : SmpAt W base bs (2 : Nat) (2 : Nat) (4 / 2) (cnt 2 (4 / 2)) (blocksL (4 / 2 * 2) 2) (ordsL [3, 2, 1] 4 (cnt 2 (4 / 2)))) => smpBatch_any base bs 2 2 _ _ 4 [3, 2, 1] W P 1 h)
  have hb : batchL [3, 2, 1] 4 2 (4 / 2) ((2 : Nat) : Int) 1 = [2, 3] := by decide
  have C3' : ∀ bs W base, SmpAt W base bs (2 : Nat) (2 : Nat) (4 / 2) (cnt 2 (4 / 2)) (blocksL (4 / 2 * 2) 2) (ordsL [3, 2, 1] 4 (cnt 2 (4 / 2))) → Calls Try.prog 45 #[.pointer (some ⟨bs, 0, none⟩)] W fun e w' => e = .returned (.int .i64 2) ∧ W = w' := fun bs W base h => steps_any base bs 2 2 _ _ W _ _ h
  have C3 := Lib.hid C3'
  rw [hb] at C2
  have hcn : ¬ 3 < cnt 2 (4 / 2) * (4 - 1) := by decide
  clear hb hu P C1' C3'
  go_enter Try.func40, Try.ntmps40
  go_wp2_with fail
  ((with_reducible refine (C1.out _ _ _ HA.out.2).mono ?_); rintro e w1 ⟨hb1, ⟨_, bs, rfl, hs1⟩ | ⟨hno, _⟩⟩)
  · have HS := Lib.hid hs1
    have HB := Lib.hid (HA.out.1.trans (hb1.mono (by simp)))
    clear hs1 hb1
    go_wp2_with fail
    ((with_reducible refine (C3.out _ _ _ HS.out).mono ?_); rintro e w2 ⟨rfl, rfl⟩)
    go_wp2_with fail
    ((with_reducible refine (C2.out _ _ _ HS.out).mono ?_); rintro e w2 ⟨A2, c2, rfl, hown, hb2⟩)
    have HR := Lib.hid (Rd.of_own hown)
    have HB2 := Lib.hid ((Kept.of HB.out).call hb2).2.2
    clear hown hb2
    go_wp2_with fail
    ((with_reducible refine (equalInt_any A2 (some ⟨w2.heap.size, 0, none⟩) 2 2 c2 2 [2, 3] [2, 3] _ rfl rfl (HR.out.alloc _) (rd_new w2 #[.int .i64 2, .int .i64 3] 3 2 rfl) (by omega) (by omega)).mono ?_); rintro e w3 ⟨rfl, hb3⟩)
    rw [decide_eq_true (rfl : ([2, 3] : List Int) = [2, 3])]
    go_wp2_with fail
    go_ret
    exact ⟨rfl, (((Kept.of HB2.out).alloc _).call hb3).2.2⟩
  · exact absurd hno hcn

/-- A run as a value. -/
abbrev runV (n b st : Int) (A : Option Addr) (N cap : Nat) : Value := .agg #[.int .i64 n, .int .i64 b, .int .i64 st, .slice A N cap]

set_option maxHeartbeats 1000000 in
theorem start12_bad (n b st c : Int) (A : Option Addr) (N cap : Nat) (L : List Int) (w : World) (hR : Rd w 1 A N (uv L)) (hc : c ≠ 0)
    (C1 : ∀ A cap W, Rd W 1 A N (uv L) → Calls Try.prog 41 #[.int .i64 n, .int .i64 b, .int .i64 st, .slice A N cap] W fun e w' => e = .returned (.tuple #[.pointer none, .int .i64 c]) ∧ Below W.heap.size W w')
    (C2 : ∀ A cap W, Rd W 1 A N (uv L) → Calls Try.prog 42 #[.int .i64 n, .int .i64 b, .int .i64 st, .slice A N cap] W fun e w' => e = .returned (.tuple #[noSmp, .int .i64 c]) ∧ Below W.heap.size W w') :
    Calls Try.prog 46 #[runV n b st A N cap] w fun e w' => e = .returned (.tuple #[.pointer none, noSmp, .bool false]) ∧ Below w.heap.size w w' := by
  have HR := Lib.hid hR
  have H1 := Lib.hid C1
  have H2 := Lib.hid C2
  have e1 : (c == 0) = false := by simp [hc]
  have e2 : decide (c = 0) = false := decide_eq_false hc
  have HG : Hid (∀ W, (w.alloc (.cells #[.int .i64 n, .int .i64 b, .int .i64 st, .slice A N cap] 61)).alloc (.cells #[.int .i64 0, .int .i64 0, .int .i64 0, .slice none 0 0] 68) = W → Below w.heap.size w W ∧ Blk W w.heap.size 61 #[.int .i64 n, .int .i64 b, .int .i64 st, .slice A N cap] ∧ Blk W (w.heap.size + 1) 68 #[.int .i64 0, .int .i64 0, .int .i64 0, .slice none 0 0]) := Lib.hid (by
    rintro W rfl
    exact ⟨((Below.refl _ _).alloc (Nat.le_refl _) _).alloc (by simp) _, (Blk.new _ _ _).alloc _, Blk.new' _ _ (by simp)⟩)
  clear hR C1 C2
  go_enter Try.func46, Try.ntmps46
  go_wp2_with fail
  obtain ⟨hB, hK1, hK2⟩ := HG.out _ rfl
  ((with_reducible refine (H1.out _ _ _ (HR.out.below hB)).mono ?_); rintro e w1 ⟨rfl, hb1⟩)
  have hB1 := hB.trans (hb1.mono hB.size)
  have q1 := hK1.kept hb1
  have q2 := hK2.kept hb1
  have HB1 := Lib.hid hB1
  have HQ1 := Lib.hid q1
  have HQ2 := Lib.hid q2
  have c0 : w1.cell? ⟨w.heap.size, 0, none⟩ = some (.int .i64 n) := q1.cell 0
  have c1 : w1.cell? ⟨w.heap.size, 1, none⟩ = some (.int .i64 b) := q1.cell 1
  have c2 : w1.cell? ⟨w.heap.size, 2, none⟩ = some (.int .i64 st) := q1.cell 2
  have c3 : w1.cell? ⟨w.heap.size, 3, none⟩ = some (.slice A N cap) := q1.cell 3
  have l1 := q1.lt
  clear hB hK1 hK2 hb1 hB1 q1 q2
  go_wp2_with fail
  ((with_reducible refine (H2.out _ _ _ (HR.out.below HB1.out)).mono ?_); rintro e w2 ⟨rfl, hb2⟩)
  have hB2 := ((Kept.of HB1.out).call hb2).2.2
  have r2 := HQ2.out.kept hb2
  have HB2 := Lib.hid hB2
  have HR2 := Lib.hid r2
  have d0 := r2.cell 0
  have d1 := r2.cell 1
  have d2 := r2.cell 2
  have d3 := r2.cell 3
  have f0 := r2.frozen 0
  have f1 := r2.frozen 1
  have f2 := r2.frozen 2
  have f3 := r2.frozen 3
  have l2 := r2.lt
  clear hb2 hB2 r2 c0 c1 c2 c3 l1
  go_wp2_with fail
  go_region
  go_wp2
  have hst := set4 HR2.out (.int .i64 0) (.int .i64 0) (.int .i64 0) (.slice none 0 0)
  exact bodyPost_ret (v := .tuple #[.pointer none, noSmp, .bool false]) (by simp [results, Try.results46, go_sem, d0, d1, d2, d3, l2]) rfl ⟨rfl, ((below_gr HB2.out HB2.out.size hst.1 (by omega)).alloc (by have := HB2.out.size; simp [World.setCell]; omega) _).drew⟩

/-- A sampler and the reference's come back. -/
def StartOut (w : World) (n b st q E : Nat) (L : List Int) (e : Ending) (w' : World) : Prop :=
  ∃ bs Ao co, e = .returned (.tuple #[.pointer (some ⟨bs, 0, none⟩), rsmp n b st Ao E co, .bool true]) ∧ SmpAt w' w.heap.size bs b st q E (blocksL (q * b) b) (ordsL L n E) ∧ RSmp w' w.heap.size n Ao E co (ordsL L n E) ∧ Below w.heap.size w w'

theorem SmpAt.but {w w' : World} {S : Nat → Prop} {base bs : Nat} {bt st : Int} {q E : Nat} {bl : List (Int × Int)} {os : List (List Int)} (h : SmpAt w base bs bt st q E bl os) (hb : But S w w') (hS : ∀ i, S i → i < base) : SmpAt w' base bs bt st q E bl os := by
  obtain ⟨h0, Ab, cb, Ao, co, vs, h1, h2, h3, h4⟩ := h
  have hf : ∀ {e : TypeId} {size m : Nat} {v : Value} {xs : List Value} (g : Nat), w.ownsRow base e size v m xs → v.ownBlock = some g → ¬ S g := fun g ho e hs => by
    have := own_b ho e
    have := hS g hs
    omega
  exact ⟨h0, Ab, cb, Ao, co, vs, h1.but hb (fun hs => by have := hS bs hs; omega), own_but h2 hb (fun g e => hf g h2 e), own_but h3 hb (fun g e => hf g h3 e), h4.but hb (fun v n xs g ho e => hf g ho e)⟩
theorem RSmp.but {w w' : World} {S : Nat → Prop} {base n : Nat} {Ao : Option Addr} {E co : Nat} {os : List (List Int)} (h : RSmp w base n Ao E co os) (hb : But S w w') (hS : ∀ i, S i → i < base) : RSmp w' base n Ao E co os := by
  obtain ⟨vs, h1, h2⟩ := h.ex
  have hf : ∀ {e : TypeId} {size m : Nat} {v : Value} {xs : List Value} (g : Nat), w.ownsRow base e size v m xs → v.ownBlock = some g → ¬ S g := fun g ho e hs => by
    have := own_b ho e
    have := hS g hs
    omega
  exact ⟨vs, own_but h1 hb (fun g e => hf g h1 e), h2.but hb (fun v n xs g ho e => hf g ho e)⟩
theorem RSmp.base {w : World} {base base' n : Nat} {Ao : Option Addr} {E co : Nat} {os : List (List Int)} (h : RSmp w base n Ao E co os) (hb : base' ≤ base) : RSmp w base' n Ao E co os := by
  obtain ⟨vs, h1, h2⟩ := h.ex
  exact ⟨vs, own_base h1 hb, h2.base hb⟩

set_option maxHeartbeats 1000000 in
theorem start12_ok (n b st q E : Nat) (A : Option Addr) (N cap : Nat) (L : List Int) (w : World) (hR : Rd w 1 A N (uv L))
    (C1 : ∀ A cap W, Rd W 1 A N (uv L) → Calls Try.prog 41 #[.int .i64 n, .int .i64 b, .int .i64 st, .slice A N cap] W fun e w' => ∃ bs, e = .returned (.tuple #[.pointer (some ⟨bs, 0, none⟩), .int .i64 0]) ∧ SmpAt w' W.heap.size bs b st q E (blocksL (q * b) b) (ordsL L n E) ∧ Below W.heap.size W w')
    (C2 : ∀ A cap W, Rd W 1 A N (uv L) → Calls Try.prog 42 #[.int .i64 n, .int .i64 b, .int .i64 st, .slice A N cap] W fun e w' => ∃ Ao co, e = .returned (.tuple #[rsmp n b st Ao E co, .int .i64 0]) ∧ RSmp w' W.heap.size n Ao E co (ordsL L n E) ∧ Below W.heap.size W w') :
    Calls Try.prog 46 #[runV n b st A N cap] w (StartOut w n b st q E L) := by
  have HR := Lib.hid hR
  have H1 := Lib.hid C1
  have H2 := Lib.hid C2
  have HG : Hid (∀ W, (w.alloc (.cells #[.int .i64 n, .int .i64 b, .int .i64 st, .slice A N cap] 61)).alloc (.cells #[.int .i64 0, .int .i64 0, .int .i64 0, .slice none 0 0] 68) = W → Below w.heap.size w W ∧ Blk W w.heap.size 61 #[.int .i64 n, .int .i64 b, .int .i64 st, .slice A N cap] ∧ Blk W (w.heap.size + 1) 68 #[.int .i64 0, .int .i64 0, .int .i64 0, .slice none 0 0] ∧ W.heap.size = w.heap.size + 1 + 1) := Lib.hid (by
    rintro W rfl
    exact ⟨((Below.refl _ _).alloc (Nat.le_refl _) _).alloc (by simp) _, (Blk.new _ _ _).alloc _, Blk.new' _ _ (by simp), by simp⟩)
  clear hR C1 C2
  go_enter Try.func46, Try.ntmps46
  go_wp2_with fail
  obtain ⟨hB, hK1, hK2, hsz⟩ := HG.out _ rfl
  ((with_reducible refine (H1.out _ _ _ (HR.out.below hB)).mono ?_); rintro e w1 ⟨bs, rfl, hs1, hb1⟩)
  have hB1 := hB.trans (hb1.mono hB.size)
  have q1 := hK1.kept hb1
  have q2 := hK2.kept hb1
  have HB1 := Lib.hid hB1
  have HQ1 := Lib.hid q1
  have HQ2 := Lib.hid q2
  rw [hsz] at hs1
  have HS1 := Lib.hid hs1
  have c0 : w1.cell? ⟨w.heap.size, 0, none⟩ = some (.int .i64 n) := q1.cell 0
  have c1 : w1.cell? ⟨w.heap.size, 1, none⟩ = some (.int .i64 b) := q1.cell 1
  have c2 : w1.cell? ⟨w.heap.size, 2, none⟩ = some (.int .i64 st) := q1.cell 2
  have c3 : w1.cell? ⟨w.heap.size, 3, none⟩ = some (.slice A N cap) := q1.cell 3
  have l1 := q1.lt
  have hz1 : w.heap.size + 1 + 1 ≤ w1.heap.size := by have := hb1.size; omega
  clear hB hK1 hK2 hb1 hB1 q1 q2 hs1 hsz
  go_wp2_with fail
  ((with_reducible refine (H2.out _ _ _ (HR.out.below HB1.out)).mono ?_); rintro e w2 ⟨Ao, co, rfl, hr2, hb2⟩)
  have hB2 := ((Kept.of HB1.out).call hb2).2.2
  have r2 := HQ2.out.kept hb2
  have HB2 := Lib.hid hB2
  have HR2 := Lib.hid r2
  have HSS := Lib.hid (HS1.out.below hb2)
  have HRR := Lib.hid (hr2.base hz1)
  have d0 := r2.cell 0
  have d1 := r2.cell 1
  have d2 := r2.cell 2
  have d3 := r2.cell 3
  have f0 := r2.frozen 0
  have f1 := r2.frozen 1
  have f2 := r2.frozen 2
  have f3 := r2.frozen 3
  have l2 := r2.lt
  clear hb2 hB2 r2 hr2 c0 c1 c2 c3 l1
  go_wp2_with fail
  go_region
  go_wp2
  have hst := set4 HR2.out (.int .i64 n) (.int .i64 b) (.int .i64 st) (.slice Ao E co)
  have hbut := But.of_gr (S := fun g => g = w.heap.size + 1) hst.1 rfl
  have hal : ∀ (X : World) (o : Obj), Below X.heap.size X (X.alloc o).drew := fun X o => ((Below.refl _ _).alloc (Nat.le_refl _) _).drew
  exact bodyPost_ret (v := .tuple #[.pointer (some ⟨bs, 0, none⟩), rsmp n b st Ao E co, .bool true]) (by simp [results, Try.results46, go_sem, d0, d1, d2, d3, l2]) rfl ⟨bs, Ao, co, rfl, ((HSS.out.but hbut (fun i h => by omega)).below (hal _ _)).base (by omega), ((HRR.out.but hbut (fun i h => by omega)).below (hal _ _)).base (by omega), ((below_gr HB2.out HB2.out.size hst.1 (by omega)).alloc (by have := HB2.out.size; simp [World.setCell]; omega) _).drew⟩

end Go.Proofs.Ytncjfijpaheobaa
