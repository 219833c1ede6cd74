/-
  The state of a new sampler between its shuffles.
-/
import Derived.Test.YtncjfijpaheobaaSmpNew1
namespace Go.Proofs.Ytncjfijpaheobaa
set_option linter.unusedVariables false
set_option linter.unusedSimpArgs false
set_option maxRecDepth 100000
open Go.RowKit

/-- The orders of the first i epochs. -/
def ordsL (L : List Int) (n i : Nat) : List (List Int) := (List.range i).map fun j => pemL L n (j * (n - 1))
theorem ordsL_length (L : List Int) (n i : Nat) : (ordsL L n i).length = i := by simp [ordsL]
theorem ordsL_succ (L : List Int) (n i : Nat) : ordsL L n (i + 1) = ordsL L n i ++ [pemL L n (i * (n - 1))] := by simp [ordsL, List.range_succ]
theorem ordsL_get (L : List Int) (n i j : Nat) (h : j < i) : (ordsL L n i)[j]? = some (pemL L n (j * (n - 1))) := by simp [ordsL, h]

/-- Block numbers that do not change while a sampler is made. -/
structure NewK where
  B0 : Nat
  B1 : Nat
  g0 : Nat
  gst : Nat
  gs : Nat
  bs : Nat
  sb : Nat
  n : Nat
  N : Nat
  cap : Nat
  q : Nat
  cb : Nat
  A : Option Addr
  Ab : Option Addr
  bt : Int
  st : Int
  L : List Int
  bl : List (Int × Int)

structure NewSt (K : NewK) (w : World) (i : Nat) : Prop where
  hn : Blk w K.g0 3 #[.int .i64 K.n]
  hg : Blk w K.gst 24 #[.pointer (some ⟨K.sb, 0, none⟩)]
  hs : Blk w K.gs 63 #[.pointer (some ⟨K.bs, 0, none⟩)]
  low : K.B0 ≤ K.bs ∧ K.B0 ≤ K.sb ∧ K.B0 ≤ K.B1 ∧ K.bs < K.B1 ∧ K.sb < K.B1
  stm : Stm w K.sb K.A K.N K.cap (i * (K.n - 1)) K.L
  far : ∀ b o, K.A = some ⟨b, o, none⟩ → 0 < K.N → b < K.B1 ∧ b ≠ K.bs
  blk : ∃ Ao co vs, Blk w K.bs 97 (smpC K.bt K.st K.Ab K.q K.cb Ao i co) ∧ w.ownsRow K.B1 23 1 (.slice Ao i co) i (slsv vs) ∧ OwnN w K.B1 vs (ordsL K.L K.n i)
  rows : w.ownsRow K.B0 108 2 (.slice K.Ab K.q K.cb) K.q (rv K.bl)
  size : K.B1 ≤ w.heap.size

theorem own_b {w : World} {base : Nat} {e : TypeId} {size n : Nat} {v : Value} {xs : List Value} (h : w.ownsRow base e size v n xs) {g : Nat} (e' : v.ownBlock = some g) : base ≤ g := (h.lt g e').1

theorem NewSt.step {K : NewK} {w : World} {i : Nat} (h : NewSt K w i) (hn : K.n ≤ 1000) (hi : i ≤ 1000) (hN : (i + 1) * (K.n - 1) ≤ K.N) (hN2 : K.N ≤ 10000000) :
    Calls Try.prog 59 #[.pointer (some ⟨K.g0, 0, none⟩), .pointer (some ⟨K.gst, 0, none⟩), .pointer (some ⟨K.gs, 0, none⟩)] w fun e w' => e = .returned (.bool true) ∧ NewSt K w' (i + 1) ∧ Below K.B0 w w' := by
  obtain ⟨Ao, co, vs, hb, ho, hon⟩ := h.blk
  obtain ⟨l1, l2, l3, l4, l5⟩ := h.low
  have hsz := h.size
  rw [Nat.succ_mul] at hN
  refine (newShuf_gen K.g0 K.gst K.gs K.sb K.bs K.N K.cap K.n (i * (K.n - 1)) i co K.cb K.q K.B1 K.A Ao K.Ab K.bt K.st vs w true (fun sl w' => sl.2.1 = K.n ∧ w'.ownsRow w.heap.size 3 1 (.slice sl.1 sl.2.1 sl.2.2) sl.2.1 (iv (pemL K.L K.n (i * (K.n - 1)))) ∧ Stm w' K.sb K.A K.N K.cap (i * (K.n - 1) + (K.n - 1)) K.L) h.hn h.hg h.hs hb ho h.stm.blk hi hsz ?_).mono ?_
  · refine (shuffle_at K.sb K.N K.cap K.n (i * (K.n - 1)) K.A K.L w h.stm hn hN hN2).mono ?_
    rintro e w1 ⟨A1, c1, rfl, ho1, hg1, hs1⟩
    exact ⟨(A1, K.n, c1), rfl, ⟨rfl, ho1, hs1⟩, hg1⟩
  · rintro e w' ⟨rfl, w1, sl, Ao', co', ⟨hl1, hr1, hs1⟩, hg1, hb', ho', hbut⟩
    have b1 := hb.grown hg1 (by simpa using hb.ne_ h.stm.blk (by decide))
    have o1 := ho.kept hg1 (.inr (own_blk_ne ho h.stm.blk (by decide)))
    have n1 := h.hn.grown hg1 (by simpa using h.hn.ne_ h.stm.blk (by decide))
    have g1 := h.hg.grown hg1 (by simpa using h.hg.ne_ h.stm.blk (by decide))
    have s1 := h.hs.grown hg1 (by simpa using h.hs.ne_ h.stm.blk (by decide))
    have r1 := h.rows.kept hg1 (.inr (own_blk_ne h.rows h.stm.blk (by decide)))
    have sz1 := hg1.size
    have hS' : Stm w' K.sb K.A K.N K.cap ((i + 1) * (K.n - 1)) K.L := by
      rw [Nat.succ_mul]
      refine ⟨hs1.blk.but hbut ?_, hs1.len, hN, hs1.rd.but hbut ?_, hs1.apart, hs1.inb⟩
      · rintro (e | e)
        · exact hs1.blk.ne_ b1 (by decide) e
        · exact own_blk_ne o1 hs1.blk (by decide) e
      · intro b o e h0 hS
        obtain ⟨f1, f2⟩ := h.far b o e h0
        rcases hS with e' | e'
        · exact f2 e'
        · have := own_b o1 e'; omega
    refine ⟨rfl, ⟨n1.but hbut ?_, g1.but hbut ?_, s1.but hbut ?_, h.low, hS', h.far, ⟨Ao', co', vs ++ [sl], hb', ho', ?_⟩, own_but r1 hbut ?_, Nat.le_trans hsz (Nat.le_trans sz1 hbut.size)⟩, (below_gr (Below.refl _ _) (Nat.le_trans l3 hsz) hg1 l2).trans (hbut.below (Nat.le_trans l3 (Nat.le_trans hsz sz1)) ?_)⟩
    · rintro (e | e)
      · exact n1.ne_ b1 (by decide) e
      · exact own_blk_ne o1 n1 (by decide) e
    · rintro (e | e)
      · exact g1.ne_ b1 (by decide) e
      · exact own_blk_ne o1 g1 (by decide) e
    · rintro (e | e)
      · exact s1.ne_ b1 (by decide) e
      · exact own_blk_ne o1 s1 (by decide) e
    · rw [ordsL_succ]
      have hf : ∀ (v : Value) (m : Nat) (xs : List Value) (g : Nat), w1.ownsRow K.B1 3 1 v m xs → v.ownBlock = some g → ¬ (g = K.bs ∨ (Value.slice Ao i co).ownBlock = some g) := by
        intro v m xs g hv e hS
        rcases hS with e' | e'
        · exact own_blk_ne hv b1 (by decide) (e'.symm ▸ e)
        · rcases own_ne_own hv o1 (by decide) with h2 | h2
          · rw [e] at h2; cases h2
          · exact h2 (e.trans e'.symm)
      have on1 : OwnN w1 K.B1 vs (ordsL K.L K.n i) := ⟨hon.len, fun j s l q1 q2 => ⟨(hon.row j s l q1 q2).1, (hon.row j s l q1 q2).2.kept hg1 (.inr (own_blk_ne (hon.row j s l q1 q2).2 h.stm.blk (by decide)))⟩⟩
      have hrb := own_base hr1 hsz
      exact (on1.but hbut hf).snoc (by rw [hl1, pemL_length]) (own_but hrb hbut (fun g e => hf _ _ _ g hrb e))
    · intro g e hS
      rcases hS with e' | e'
      · exact own_blk_ne r1 b1 (by decide) (e'.symm ▸ e)
      · rcases own_ne_own r1 o1 (by decide) with h2 | h2
        · rw [e] at h2; cases h2
        · exact h2 (e.trans e'.symm)
    · rintro g (e | e)
      · omega
      · have := own_b o1 e; omega

theorem NewSt.short {K : NewK} {w : World} {i : Nat} (h : NewSt K w i) (hn : K.n ≤ 1000) (hi : i ≤ 1000) (hN : K.N < (i + 1) * (K.n - 1)) (hN2 : K.N ≤ 10000000) :
    Calls Try.prog 59 #[.pointer (some ⟨K.g0, 0, none⟩), .pointer (some ⟨K.gst, 0, none⟩), .pointer (some ⟨K.gs, 0, none⟩)] w fun e w' => e = .returned (.bool false) ∧ Below K.B0 w w' := by
  obtain ⟨Ao, co, vs, hb, ho, hon⟩ := h.blk
  obtain ⟨l1, l2, l3, l4, l5⟩ := h.low
  have hsz := h.size
  rw [Nat.succ_mul] at hN
  refine (newShuf_gen K.g0 K.gst K.gs K.sb K.bs K.N K.cap K.n (i * (K.n - 1)) i co K.cb K.q K.B1 K.A Ao K.Ab K.bt K.st vs w false (fun sl w' => True) h.hn h.hg h.hs hb ho h.stm.blk hi hsz ?_).mono ?_
  · refine (shuffle_short K.sb K.N K.cap K.n (i * (K.n - 1)) K.A K.L w h.stm hn (by have h9 := hN; have h8 := h.stm.le; generalize i * (K.n - 1) = p at h8 h9 ⊢; omega) hN2).mono ?_
    rintro e w1 ⟨rfl, hg1⟩
    exact ⟨(none, 0, 0), rfl, trivial, hg1⟩
  · rintro e w' ⟨rfl, w1, sl, Ao', co', _, hg1, hb', ho', hbut⟩
    have o1 := ho.kept hg1 (.inr (own_blk_ne ho h.stm.blk (by decide)))
    have sz1 := hg1.size
    refine ⟨rfl, (below_gr (Below.refl _ _) (Nat.le_trans l3 hsz) hg1 l2).trans (hbut.below (Nat.le_trans l3 (Nat.le_trans hsz sz1)) ?_)⟩
    rintro g (e | e)
    · omega
    · have := own_b o1 e; omega

end Go.Proofs.Ytncjfijpaheobaa
