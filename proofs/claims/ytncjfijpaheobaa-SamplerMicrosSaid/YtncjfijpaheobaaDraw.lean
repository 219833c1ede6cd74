/-
  Contracts of package draw and of its reference: New, Next, Left, Used, Clone.
-/
import Derived.Test.YtncjfijpaheobaaProg
import Derived.Test.YtncjfijpaheobaaMem
import Derived.Test.YtncjfijpaheobaaVecPlain
namespace Go.Proofs.Ytncjfijpaheobaa
set_option linter.unusedVariables false
set_option linter.unusedSimpArgs false
open Go.RowKit

/-- The cells of a list of draws. -/
def uv (l : List Int) : List Value := l.map (Value.int .u64)
theorem uv_length (l : List Int) : (uv l).length = l.length := by simp [uv]
theorem uv_get (l : List Int) (k : Nat) (hk : k < l.length) : (uv l)[k]? = some (.int .u64 l[k]) := by simp [uv, hk]
theorem uv_one (l : List Int) : ∀ u ∈ uv l, u.oneCell' = true := by
  intro u hu
  unfold uv at hu
  simp only [List.mem_map] at hu
  obtain ⟨x, _, rfl⟩ := hu
  rfl
theorem uv_at {w : World} {A : Option Addr} {n k : Nat} {l : List Int} (hl : l.length = n) (h : Rd w 1 A n (uv l)) (hk : k < n) : ∃ b o x, A = some ⟨b, o, none⟩ ∧ b < w.heap.size ∧ l[k]? = some x ∧ w.cell? ⟨b, o + k, none⟩ = some (.int .u64 x) := by
  obtain ⟨b, o, e, hb, hc⟩ := h.2 (by omega)
  have hk' : k < l.length := by omega
  exact ⟨b, o, l[k], e, hb, List.getElem?_eq_getElem hk', hc _ _ (uv_get l k hk')⟩

theorem slU64 : Sl Try.prog 22 38 (.int .u64 0) 1 8 := ⟨Try.underlying22, by kernel_rfl, rfl, by omega⟩
theorem slInt : Sl Try.prog 23 3 (.int .i64 0) 1 8 := ⟨Try.underlying23, by kernel_rfl, rfl, by omega⟩

/-- Draws are unsigned numbers of 64 bits. -/
def InU (l : List Int) : Prop := ∀ x ∈ l, 0 ≤ x ∧ x < 18446744073709551616

/-- A stream in block b: its draws and how many are used. -/
structure Stm (w : World) (b : Nat) (A : Option Addr) (n cap k : Nat) (L : List Int) : Prop where
  blk : Blk w b 87 #[.slice A n cap, .int .i64 k]
  len : L.length = n
  le : k ≤ n
  rd : Rd w 1 A n (uv L)
  apart : ∀ b' o, A = some ⟨b', o, none⟩ → 0 < n → b' ≠ b
  inb : InU L

theorem Stm.kept {w w' : World} {b : Nat} {A : Option Addr} {n cap k : Nat} {L : List Int} (h : Stm w b A n cap k L) (hb : Below w.heap.size w w') : Stm w' b A n cap k L :=
  ⟨h.blk.kept hb, h.len, h.le, h.rd.below hb, h.apart, h.inb⟩
theorem Stm.grown {w w' : World} {b g : Nat} {A : Option Addr} {n cap k : Nat} {L : List Int} (h : Stm w b A n cap k L) (hg : w.grownBy w' (some g)) (h1 : b ≠ g) (h2 : ∀ b' o, A = some ⟨b', o, none⟩ → 0 < n → b' ≠ g) : Stm w' b A n cap k L :=
  ⟨h.blk.grown hg (by simpa using h1), h.len, h.le, h.rd.grown hg h2, h.apart, h.inb⟩
theorem Stm.turned {w w' : World} {b : Nat} {A : Option Addr} {n cap k k' : Nat} {L : List Int} (h : Stm w b A n cap k L) (hg : w.grownBy w' (some b)) (hb : Blk w' b 87 #[.slice A n cap, .int .i64 k']) (hk : k' ≤ n) : Stm w' b A n cap k' L :=
  ⟨hb, h.len, hk, h.rd.grown hg h.apart, h.apart, h.inb⟩

set_option maxHeartbeats 400000 in
theorem cloneU_any (A : Option Addr) (n cap : Nat) (l : List Int) (w : World) (hl : l.length = n) (h : Rd w 1 A n (uv l)) (hn : n * 8 ≤ 140737488351232) :
    Calls Try.prog 51 #[.slice A n cap] w (OwnRet w 38 1 n (uv l)) := by
  have HR := Lib.hid h
  have HL := Lib.hid hl
  have hq := fun (w : World) (a : Option Addr) (n c : Nat) => Lib.run_eql_slice_nil (P := Try.prog) w 22 38 a n c 0 0 Try.underlying22
  clear h hl
  cases A with
  | none =>
    have hn0 : n = 0 := by
      rcases Nat.eq_zero_or_pos n with h0 | h0
      · exact h0
      · obtain ⟨b, o, h, _⟩ := HR.out.2 h0; cases h
    subst hn0
    have hl0 : l = [] := List.eq_nil_of_length_eq_zero HL.out
    subst hl0
    go_enter Try.func51, Try.ntmps51
    go_wp2
    go_ret
    exact ⟨none, 0, rfl, World.ownsRow_nil _ _ _ _, Below.refl _ _⟩
  | some ad =>
    go_enter Try.func51, Try.ntmps51
    go_wp2_with (at_builtin; go_must (refine wpList_appendAll slU64 rfl _ _ rfl w.heap.size _ 0 [] rfl (World.ownsRow_lit w #[] 0 (Nat.le_refl _) (by unfold maxLen; omega) rfl) (some ad) n cap (uv l) rfl (HR.out.alloc _) (uv_one l) (by unfold maxLen; omega) (by omega) (by simp) ?_); intro A' cap' w1 hown1 hb1)
    go_ret
    exact ⟨A', cap', by simp, by simpa using hown1, ((Below.refl _ _).alloc (Nat.le_refl _) _).trans hb1⟩

/-- A new stream comes back. -/
def NewRet (w : World) (n : Nat) (l : List Int) (en : Ending) (w' : World) : Prop :=
  ∃ g A cap, en = .returned (.pointer (some ⟨g, 0, none⟩)) ∧ Stm w' g A n cap 0 l ∧ w.heap.size ≤ g ∧ (∀ b o, A = some ⟨b, o, none⟩ → w.heap.size ≤ b) ∧ Below w.heap.size w w'

set_option maxHeartbeats 400000 in
theorem drawNew_any (A : Option Addr) (n cap : Nat) (l : List Int) (w : World) (hl : l.length = n) (h : Rd w 1 A n (uv l)) (hn : n * 8 ≤ 140737488351232) (hu : InU l) :
    Calls Try.prog 15 #[.slice A n cap] w (NewRet w n l) := by
  have HR := Lib.hid h
  have HL := Lib.hid hl
  have HU := Lib.hid hu
  clear h hl hu
  go_enter Try.func15, Try.ntmps15
  go_wp2_with fail
  ((with_reducible refine (cloneU_any A n cap l _ HL.out HR.out (by omega)).mono ?_); rintro e w1 ⟨A', cap', rfl, hown, hb1⟩)
  have HO := Lib.hid hown
  clear hown
  go_wp2
  go_ret
  refine ⟨w1.heap.size, A', cap', rfl, ⟨Blk.new _ _ _, HL.out, Nat.zero_le _, (Rd.of_own HO.out).alloc _, fun b' o e _ => ?_, HU.out⟩, hb1.size, fun b o e => (own_rd_block HO.out b o e).1, hb1.alloc hb1.size _⟩
  have := (own_rd_block HO.out b' o e).2
  omega

/-- What Left and Used say of no stream. -/
theorem left_nil (w : World) : Calls Try.prog 25 #[.pointer none] w fun e w' => e = .returned (.int .i64 0) ∧ w = w' := by
  go_enter Try.func25, Try.ntmps25
  go_wp2
  go_ret
  exact ⟨rfl, rfl⟩
theorem used_nil (w : World) : Calls Try.prog 26 #[.pointer none] w fun e w' => e = .returned (.int .i64 0) ∧ w = w' := by
  go_enter Try.func26, Try.ntmps26
  go_wp2
  go_ret
  exact ⟨rfl, rfl⟩

set_option maxHeartbeats 400000 in
theorem left_any (b : Nat) (A : Option Addr) (n cap k : Nat) (w : World) (h : Blk w b 87 #[.slice A n cap, .int .i64 k]) (hk : k ≤ n) (hn : n ≤ 9223372036854775807) :
    Calls Try.prog 25 #[.pointer (some ⟨b, 0, none⟩)] w fun e w' => e = .returned (.int .i64 ((n : Int) - (k : Int))) ∧ ∃ m, w' = w.drewN m := by
  have c0 : w.cell? ⟨b, 0, none⟩ = some (.slice A n cap) := h.cell 0
  have c1 : w.cell? ⟨b, 1, none⟩ = some (.int .i64 k) := h.cell 1
  clear h
  go_enter Try.func25, Try.ntmps25
  go_wp2_with fail
  go_quiet (fail)
  go_wp2
  go_ret
  exact ⟨rfl, _, rfl⟩

set_option maxHeartbeats 400000 in
theorem used_any (b : Nat) (A : Option Addr) (n cap k : Nat) (w : World) (h : Blk w b 87 #[.slice A n cap, .int .i64 k]) :
    Calls Try.prog 26 #[.pointer (some ⟨b, 0, none⟩)] w fun e w' => e = .returned (.int .i64 k) ∧ w = w' := by
  have c1 : w.cell? ⟨b, 1, none⟩ = some (.int .i64 k) := h.cell 1
  clear h
  go_enter Try.func26, Try.ntmps26
  go_wp2
  go_ret
  exact ⟨rfl, rfl⟩

set_option maxHeartbeats 400000 in
theorem streamClone_any (b : Nat) (A : Option Addr) (n cap k : Nat) (w : World) (h : Blk w b 87 #[.slice A n cap, .int .i64 k]) :
    Calls Try.prog 20 #[.pointer (some ⟨b, 0, none⟩)] w fun e w' => e = .returned (.pointer (some ⟨w.heap.size, 0, none⟩)) ∧ w' = w.alloc (.cells #[.slice A n cap, .int .i64 k] 87) := by
  have c0 : w.cell? ⟨b, 0, none⟩ = some (.slice A n cap) := h.cell 0
  have c1 : w.cell? ⟨b, 1, none⟩ = some (.int .i64 k) := h.cell 1
  clear h
  go_enter Try.func20, Try.ntmps20
  go_wp2
  go_ret
  exact ⟨rfl, rfl⟩
theorem streamClone_nil (w : World) : Calls Try.prog 20 #[.pointer none] w fun e w' => e = .returned (.pointer none) ∧ w = w' := by
  go_enter Try.func20, Try.ntmps20
  go_wp2
  go_ret
  exact ⟨rfl, rfl⟩

/-- The world behind a call of Next: the stream's block alone has turned. -/
def Turned (w : World) (b : Nat) (A : Option Addr) (n cap k : Nat) (v : Value) (en : Ending) (w' : World) : Prop :=
  en = .returned v ∧ w.grownBy w' (some b) ∧ Blk w' b 87 #[.slice A n cap, .int .i64 k]

set_option maxHeartbeats 400000 in
theorem next_low (b : Nat) (A : Option Addr) (n cap k : Nat) (m : Int) (w : World) (h : Blk w b 87 #[.slice A n cap, .int .i64 k]) (hm : m < 1) :
    Calls Try.prog 17 #[.pointer (some ⟨b, 0, none⟩), .int .i64 m] w (Turned w b A n cap k (.tuple #[.int .i64 0, .bool false])) := by
  have HB := Lib.hid h
  clear h
  go_enter Try.func17, Try.ntmps17
  go_wp2_with fail
  go_ret2
  exact ⟨rfl, World.grownBy.refl _ _, HB.out⟩

set_option maxHeartbeats 400000 in
theorem next_end (b : Nat) (A : Option Addr) (n cap : Nat) (m : Int) (w : World) (h : Blk w b 87 #[.slice A n cap, .int .i64 n]) (hm : 1 ≤ m) (hn : n ≤ 9223372036854775807) :
    Calls Try.prog 17 #[.pointer (some ⟨b, 0, none⟩), .int .i64 m] w (Turned w b A n cap n (.tuple #[.int .i64 0, .bool false])) := by
  have HB := Lib.hid h
  have hd : ((n : Int) - (n : Int) == 0) = true := by simp
  clear h
  go_enter Try.func17, Try.ntmps17
  go_wp2_with fail
  ((with_reducible refine (left_any b A n cap n _ HB.out (by omega) hn).mono ?_); rintro e w1 ⟨rfl, q, rfl⟩)
  go_wp2
  go_ret2
  exact ⟨rfl, gr_drewN (World.grownBy.refl _ _) _, HB.out.drewN _⟩

theorem rem_fits {x m : Int} (hx : 0 ≤ x) (hm : 1 ≤ m) (hm2 : m ≤ 9223372036854775807) : wrap64 (x % m) = x % m := by
  have h1 := Int.emod_nonneg x (show m ≠ 0 by omega)
  have h2 := Int.emod_lt_of_pos x (show 0 < m by omega)
  exact IntWalk.wrap64_in _ ⟨by omega, by omega⟩

set_option maxHeartbeats 400000 in
theorem next_some (b : Nat) (A : Option Addr) (n cap k : Nat) (L : List Int) (m x : Int) (w : World) (h : Stm w b A n cap k L) (hm : 1 ≤ m) (hm2 : m ≤ 9223372036854775807) (hn : n ≤ 9223372036854775807) (hx : L[k]? = some x) :
    Calls Try.prog 17 #[.pointer (some ⟨b, 0, none⟩), .int .i64 m] w (Turned w b A n cap (k + 1) (.tuple #[.int .i64 (x % m), .bool true])) := by
  have hk : k < n := by rw [← h.len]; exact (List.getElem?_eq_some_iff.1 hx).1
  obtain ⟨b', o, x', rfl, hbl, hx', c2⟩ := uv_at h.len h.rd hk
  obtain rfl : x' = x := by rw [hx] at hx'; injection hx' with e; exact e.symm
  have hxb := h.inb x' (List.mem_of_getElem? hx)
  have hne := h.apart b' o rfl (by omega)
  have HB := Lib.hid h.blk
  have hd : ((n : Int) - (k : Int) == 0) = false := by simp; omega
  have c0 : w.cell? ⟨b, 0, none⟩ = some (.slice (some ⟨b', o, none⟩) n cap) := h.blk.cell 0
  have c1 : w.cell? ⟨b, 1, none⟩ = some (.int .i64 k) := h.blk.cell 1
  have f1 := h.blk.frozen 1
  have i1 : (0 : Int) ≤ (k : Int) := by omega
  have i2 : (k : Int) < (n : Int) := by omega
  clear h hx hx'
  go_enter Try.func17, Try.ntmps17
  go_wp2_with fail
  ((with_reducible refine (left_any b _ n cap k _ HB.out (by omega) hn).mono ?_); rintro e w1 ⟨rfl, q, rfl⟩)
  go_wp2_with fail
  go_quiet (fail)
  go_wp2
  go_ret2
  refine ⟨ret_pair (congrArg (Value.int .i64) (rem_fits hxb.1 hm hm2)), ?_, ?_⟩
  · exact gr_drewN (gr_set (World.grownBy.refl _ _) (.inl rfl) _) _
  · exact (HB.out.set_ 1 _).drewN _

/-- sakiaref05.Next. -/
theorem refNext_none (A : Option Addr) (n cap k : Nat) (m : Int) (w : World) (h : m < 1 ∨ n ≤ k) (hn : n ≤ 9223372036854775807) :
    Calls Try.prog 18 #[.agg #[.slice A n cap, .int .i64 k], .int .i64 m] w fun e w' => e = .returned (.tuple #[.agg #[.slice A n cap, .int .i64 k], .int .i64 0, .bool false]) ∧ Below w.heap.size w w' := by
  by_cases hm : m < 1
  · clear h
    go_enter Try.func18, Try.ntmps18
    go_wp2
    exact bodyPost_ret (v := .tuple #[.agg #[.slice A n cap, .int .i64 k], .int .i64 0, .bool false]) (by simp [results, Try.results18, go_sem]) rfl ⟨rfl, ((Below.refl _ _).alloc (Nat.le_refl _) _).alloc (by simp) _⟩
  · have hk : n ≤ k := by omega
    clear h
    go_enter Try.func18, Try.ntmps18
    go_wp2
    exact bodyPost_ret (v := .tuple #[.agg #[.slice A n cap, .int .i64 k], .int .i64 0, .bool false]) (by simp [results, Try.results18, go_sem]) rfl ⟨rfl, ((Below.refl _ _).alloc (Nat.le_refl _) _).alloc (by simp) _⟩

set_option maxHeartbeats 400000 in
theorem refNext_some (A : Option Addr) (n cap k : Nat) (L : List Int) (m x : Int) (w : World) (hl : L.length = n) (h : Rd w 1 A n (uv L)) (hu : InU L) (hm : 1 ≤ m) (hm2 : m ≤ 9223372036854775807) (hn : n ≤ 9223372036854775807) (hx : L[k]? = some x) :
    Calls Try.prog 18 #[.agg #[.slice A n cap, .int .i64 k], .int .i64 m] w fun e w' => e = .returned (.tuple #[.agg #[.slice A n cap, .int .i64 ((k + 1 : Nat) : Int)], .int .i64 (x % m), .bool true]) ∧ Below w.heap.size w w' := by
  have hk : k < n := by rw [← hl]; exact (List.getElem?_eq_some_iff.1 hx).1
  obtain ⟨b', o, x', rfl, hbl, hx', c2⟩ := uv_at hl h hk
  obtain rfl : x' = x := by rw [hx] at hx'; injection hx' with e; exact e.symm
  have hxb := hu x' (List.mem_of_getElem? hx)
  clear h hx hx' hl hu
  go_enter Try.func18, Try.ntmps18
  go_wp2
  go_region
  go_wp2
  exact bodyPost_ret (v := .tuple #[.agg #[.slice (some ⟨b', o, none⟩) n cap, .int .i64 ((k + 1 : Nat) : Int)], .int .i64 (x' % m), .bool true]) (by simp [results, Try.results18, go_sem, rem_fits hxb.1 hm hm2]) rfl ⟨rfl, (((Below.refl _ _).alloc (Nat.le_refl _) _).alloc (by simp) _).drew⟩

set_option maxHeartbeats 400000 in
theorem same05_any (b : Nat) (A B : Option Addr) (n cap c k : Nat) (w : World) (h : Blk w b 87 #[.slice A n cap, .int .i64 k]) (hk : k ≤ n) (hn : n ≤ 9223372036854775807) :
    Calls Try.prog 19 #[.pointer (some ⟨b, 0, none⟩), .agg #[.slice B n c, .int .i64 k]] w fun e w' => e = .returned (.bool true) ∧ Below w.heap.size w w' := by
  have HB := Lib.hid h
  clear h
  have HL := Lib.hid (fun W h => left_any b A n cap k W h hk hn)
  have HU := Lib.hid (fun W h => used_any b A n cap k W h)
  have e0 : IntKind.i64.wrap ((n : Int) - (k : Int)) = (n : Int) - (k : Int) := IntWalk.i64_in _ (by omega)
  go_enter Try.func19, Try.ntmps19
  go_wp2_with fail
  go_quiet (first
    | (go_at_call 25; exact Calls.quiet_of (HL.out _ ((HB.out.alloc _).drewN _)))
    | (go_at_call 26; exact quiet_left (HU.out _ ((HB.out.alloc _).drewN _))))
  go_wp2
  go_ret
  exact ⟨rfl, below_drewN ((Below.refl _ _).alloc (Nat.le_refl _) _) _⟩

end Go.Proofs.Ytncjfijpaheobaa
