/-
  Lemmas and contracts (2 of 44): Mem, But, Later.
-/
import Derived.WalkKit
import Derived.WalkSpells
import Derived.WalkLawsBesides
import Derived.Lib.Hide
import Derived.Deep.QuietTactic
import Derived.BigQuiet
import Derived.IntWalk
import Derived.Deep.RegionHeld3
import Derived.Maps.AppendAt
import Derived.ProofKit
import Derived.OpenShut
import Derived.Deep.Slices
import Derived.Deep.Fields
import Derived.Laws.OwnMore
import Derived.Deep.Draws
import Derived.Laws.Rows
import Derived.Test.YtkmaeipoaoikpaaGreatProg
import Derived.Laws.EntriesVeiled
import Derived.RangeFuncNested
import Derived.RangeFuncBox
import Derived.RangeFuncLeaves
import Derived.Shelf.Abstract
import Derived.OwnWalkIn
import Derived.TacticsInMore
import Derived.LoopNIn
import Derived.LoopIn
import Derived.Test.YtkmaeipoaoikpaaGreatEA01
namespace Go.Proofs.YtkmaeipoaoikpaaGreat
set_option linter.unusedVariables false
set_option linter.unusedSimpArgs false
set_option maxRecDepth 100000
section
open Go.RowKit
def Blk (w : World) (g : Nat) (t : TypeId) (cs : Array Value) : Prop := w.heap[g]? = some (.cells cs t (0, 0))
theorem Rd.lt {w : World} {size : Nat} {A : Option Addr} {n : Nat} {xs : List Value} (h : Rd w size A n xs) : ∀ b o, A = some ⟨b, o, none⟩ → 0 < n → b < w.heap.size := by
  intro b o e hn
  obtain ⟨b', o', e', hlt, _⟩ := h.2 hn
  rw [e] at e'
  injection e' with e'
  injection e' with e1
  subst e1
  exact hlt
end
section
open Go.RowKit
variable {w w' : World} {g : Nat} {t : TypeId} {cs : Array Value}
theorem Blk.lt (h : Blk w g t cs) : g < w.heap.size := by
  rcases Nat.lt_or_ge g w.heap.size with hlt | hge
  · exact hlt
  · unfold Blk at h; rw [Array.getElem?_eq_none hge] at h; cases h
theorem Blk.cell (h : Blk w g t cs) (i : Nat) : w.cell? ⟨g, i, none⟩ = cs[i]? := cell_of_row w g i cs t (0, 0) h
theorem Blk.frozen (h : Blk w g t cs) (i : Nat) : w.frozen? ⟨g, i, none⟩ = false := by
  unfold Blk at h
  simp [World.frozen?, h]
theorem Blk.alloc (h : Blk w g t cs) (o : Obj) : Blk (w.alloc o) g t cs := (Below.heap_alloc w o g h.lt).trans h
theorem Blk.new (w : World) (t : TypeId) (cs : Array Value) : Blk (w.alloc (.cells cs t)) w.heap.size t cs := heap_alloc_new w _
theorem Blk.new' {w : World} {g : Nat} (t : TypeId) (cs : Array Value) (h : w.heap.size = g) : Blk (w.alloc (.cells cs t)) g t cs := by subst h; exact Blk.new w t cs
theorem Blk.drew (h : Blk w g t cs) : Blk w.drew g t cs := h
theorem Blk.drewN (h : Blk w g t cs) (n : Nat) : Blk (w.drewN n) g t cs := h
theorem Blk.set_ (h : Blk w g t cs) (i : Nat) (u : Value) : Blk (w.setCell ⟨g, i, none⟩ u) g t (cs.setIfInBounds i u) := by
  unfold Blk at h ⊢
  simp [World.setCell, Array.getElem?_modify, h]
theorem Blk.far (h : Blk w g t cs) {p : Addr} (hp : g ≠ p.block) (u : Value) : Blk (w.setCell p u) g t cs := (Below.heap_setCell w p u g hp).trans h
theorem Blk.below {B : Nat} (h : Blk w g t cs) (hb : Below B w w') (hg : g < B) : Blk w' g t cs := (hb.block g hg).trans h
theorem Blk.kept (h : Blk w g t cs) (hb : Below w.heap.size w w') : Blk w' g t cs := h.below hb h.lt
end
section
open Go.RowKit
variable {a w w' : World} {row : Option Nat} {g : Nat}
theorem gr_cell (h : w.grownBy w' (some g)) {b o : Nat} (hb : b < w.heap.size) (hne : b ≠ g) : w'.cell? ⟨b, o, none⟩ = w.cell? ⟨b, o, none⟩ :=
  World.cell?_of_block (h.block b hb (by simpa using hne))
end
section
open Go.RowKit
theorem Rd.grown {w w' : World} {size : Nat} {A : Option Addr} {n g : Nat} {xs : List Value} (h : Rd w size A n xs) (hg : w.grownBy w' (some g)) (ha : ∀ b o, A = some ⟨b, o, none⟩ → 0 < n → b ≠ g) : Rd w' size A n xs := by
  refine ⟨h.1, fun hn => ?_⟩
  obtain ⟨b, o, e, hlt, hc⟩ := h.2 hn
  refine ⟨b, o, e, Nat.lt_of_lt_of_le hlt hg.size, fun j u hu => ?_⟩
  rw [gr_cell hg hlt (ha b o e hn)]
  exact hc j u hu
end
section
open Go.RowKit
variable {w w' : World} {g : Nat} {t : TypeId} {cs : Array Value}
theorem Blk.grown {row : Option Nat} (h : Blk w g t cs) (hb : w.grownBy w' row) (hg : some g ≠ row) : Blk w' g t cs := (hb.block g h.lt hg).trans h
theorem Blk.ne_ {g' : Nat} {t' : TypeId} {cs' : Array Value} (h : Blk w g t cs) (h' : Blk w g' t' cs') (hne : t ≠ t') : g ≠ g' := by
  rintro rfl
  unfold Blk at h h'
  rw [h] at h'
  injection h' with h'
  injection h' with _ ht
  exact hne ht
end
section
open Go.RowKit
variable {a w w' : World} {row : Option Nat} {g : Nat}
theorem gr_drewN (h : a.grownBy w row) (n : Nat) : a.grownBy (w.drewN n) row := ⟨h.os, h.tape, h.output, h.size, h.block⟩
theorem gr_drew (h : a.grownBy w row) : a.grownBy w.drew row := ⟨h.os, h.tape, h.output, h.size, h.block⟩
theorem gr_alloc (h : a.grownBy w row) (o : Obj) : a.grownBy (w.alloc o) row :=
  ⟨h.os, h.tape, h.output, Nat.le_trans h.size (by simp), fun i hi hne => (Below.heap_alloc w o i (Nat.lt_of_lt_of_le hi h.size)).trans (h.block i hi hne)⟩
theorem gr_set (h : a.grownBy w (some g)) {p : Addr} (hp : p.block = g ∨ a.heap.size ≤ p.block) (u : Value) : a.grownBy (w.setCell p u) (some g) :=
  ⟨h.os, h.tape, h.output, by simpa [World.setCell] using h.size, fun i hi hne => (Below.heap_setCell w p u i (by
    rintro rfl
    rcases hp with hp | hp
    · exact hne (by rw [hp])
    · omega)).trans (h.block i hi hne)⟩
theorem gr_of_below (h : Below a.heap.size a w) (row : Option Nat) : a.grownBy w row := ⟨h.os, h.tape, h.output, h.size, fun i hi _ => h.block i hi⟩
theorem gr_below (h : a.grownBy w row) (hb : Below a.heap.size w w') : a.grownBy w' row :=
  ⟨hb.os.trans h.os, hb.tape.trans h.tape, hb.output.trans h.output, Nat.le_trans h.size hb.size, fun i hi hne => (hb.block i hi).trans (h.block i hi hne)⟩
theorem gr_call (h : a.grownBy w row) (hb : Below w.heap.size w w') : a.grownBy w' row := gr_below h (hb.mono h.size)
theorem gr_below_first (hb : Below a.heap.size a w) (h : w.grownBy w' row) : a.grownBy w' row :=
  ⟨h.os.trans hb.os, h.tape.trans hb.tape, h.output.trans hb.output, Nat.le_trans hb.size h.size, fun i hi hne => (h.block i (Nat.lt_of_lt_of_le hi hb.size) hne).trans (hb.block i hi)⟩
theorem below_gr {B : Nat} (hb : Below B a w) (hB : B ≤ w.heap.size) (h : w.grownBy w' (some g)) (hg : B ≤ g) : Below B a w' := hb.grown h hB (fun k e => by cases e; exact hg)
end
section
open Go.RowKit
theorem Rd.set {w : World} {size : Nat} {A : Option Addr} {n : Nat} {xs : List Value} (h : Rd w size A n xs) {p : Addr} (ha : ∀ b o, A = some ⟨b, o, none⟩ → 0 < n → b ≠ p.block) (u : Value) : Rd (w.setCell p u) size A n xs := by
  refine ⟨h.1, fun hn => ?_⟩
  obtain ⟨b, o, e, hlt, hc⟩ := h.2 hn
  refine ⟨b, o, e, by simpa [World.setCell] using hlt, fun j v hv => ?_⟩
  rw [World.cell?_setCell_other _ _ _ _ (fun e' => ha b o e hn (by rw [e']))]
  exact hc j v hv
theorem store2' {w : World} {v : Nat} {t : TypeId} {x y : Value} (h : Blk w v t #[x, y]) (a b : Value) :
    w.grownBy ((w.setCell ⟨v, 0, none⟩ a).setCell ⟨v, 1, none⟩ b) (some v) ∧ Blk ((w.setCell ⟨v, 0, none⟩ a).setCell ⟨v, 1, none⟩ b) v t #[a, b] :=
  ⟨gr_set (p := ⟨v, 1, none⟩) (gr_set (p := ⟨v, 0, none⟩) (World.grownBy.refl w _) (.inl rfl) a) (.inl rfl) b, by simpa using (h.set_ 0 a).set_ 1 b⟩
theorem own_rd_block {w : World} {base : Nat} {e : TypeId} {size n c : Nat} {A : Option Addr} {xs : List Value} (h : w.ownsRow base e size (.slice A n c) n xs) : ∀ b o, A = some ⟨b, o, none⟩ → base ≤ b ∧ b < w.heap.size := by
  intro b o ha
  subst ha
  rcases h.2 with ⟨hv, _⟩ | ⟨g, cap, cur, hv, hb, _⟩
  · cases hv
  · injection hv with hv
    injection hv with hv
    injection hv with h1 h2
    subst h1
    subst h2
    exact h.lt b rfl
theorem own_blk_ne {w : World} {g : Nat} {t : TypeId} {cs : Array Value} {base : Nat} {e : TypeId} {size n : Nat} {v : Value} {xs : List Value} (h : w.ownsRow base e size v n xs) (hg : Blk w g t cs) (hne : e ≠ t) : v.ownBlock ≠ some g := by
  rcases h.2 with ⟨rfl, _⟩ | ⟨g', cap, cur, rfl, _, hh, _⟩
  · simp [Value.ownBlock]
  · intro he
    have : g' = g := by simpa [Value.ownBlock] using he
    subst this
    exact Blk.ne_ (t := e) hh hg hne rfl
theorem Blk.other {w w' : World} {g : Nat} {t : TypeId} {cs : Array Value} {base : Nat} {e : TypeId} {size n : Nat} {v : Value} {xs : List Value} (h : Blk w g t cs) (hown : w.ownsRow base e size v n xs) (hg : w.grownBy w' v.ownBlock) (hne : e ≠ t) : Blk w' g t cs :=
  h.grown hg (fun e' => own_blk_ne hown h hne e'.symm)
theorem wpList_pushG {P : Program} {w : World} {ops : Array Oper} {rest : List Oper} {o : Oper} {a : Act} {Q : Exit → Act → World → Prop} {t e : TypeId} {z : Value} {size bytes : Nat}
    (sl : Sl P t e z size bytes) (hgd : o.guard = none) (s x : Operand) (ho : o.op = .call { callee := .builtin .append, args := #[s, x], argTypes := #[t, t] })
    (base : Nat) (v : Value) (n : Nat) (xs : List Value) (hs : a.eval s = v) (hown : w.ownsRow base e size v n xs)
    (news : Array Value) (g : Nat) (hx : a.eval x = .slice (some ⟨g, 0, none⟩) 1 1) (hg : g = w.heap.size) (hl : news.size = size) (h1 : ∀ u ∈ news.toList, u.oneCell' = true)
    (h63 : n + 1 ≤ maxLen) (hbytes : (n + 1) * bytes ≤ 140737488355328) (hbase : base ≤ w.heap.size)
    (h : ∀ A' cap' w', w'.ownsRow base e size (.slice A' (n + 1) cap') (n + 1) (xs ++ news.toList) → Below base w w' → w.grownBy w' v.ownBlock → wpList P ops Q rest (a.put o.dst (.slice A' (n + 1) cap')) w') :
    wpList P ops Q (o :: rest) a (w.alloc (.cells news e)) := by
  subst hg
  obtain ⟨i, hi, hz0, hz1, hz2⟩ := info_parts sl.info
  refine wpList_append_own _ hgd s x t ho base e i z size bytes sl.slice hi hz0 hz1 hz2 sl.cells sl.pos v n xs hs (hown.alloc _) ⟨w.heap.size, 0, none⟩ 1 1 news.toList hx (by simpa using hl) (cells_new w news e) h1 h63 hbytes (by simp; omega) ?_
  intro v' w' h2 h3 _
  obtain ⟨A, cap, rfl, _⟩ := own_form h2
  exact h A cap w' h2 (((Below.refl _ _).alloc hbase _).grown h3 (by simp; omega) fun k hk => (hown.lt k hk).1) (gr_below_first ((Below.refl _ _).alloc (Nat.le_refl _) _) h3)
theorem quiet_left {P : Program} {f : FuncId} {args : Array Value} {w : World} {n : Nat} {v : Value}
    (h : Calls P f args (w.drewN n) fun e w' => e = .returned v ∧ w.drewN n = w') : Calls P f args (w.drewN n) fun e w'' => e = .returned v ∧ ∃ m, w'' = w.drewN m :=
  h.mono fun _ _ ⟨he, hm⟩ => ⟨he, n, hm.symm⟩
end
section
open Go.RowKit
structure But (S : Nat → Prop) (w w' : World) : Prop where
  os : w'.os = w.os
  tape : w'.tape = w.tape
  output : w'.output = w.output
  size : w.heap.size ≤ w'.heap.size
  block : ∀ i, i < w.heap.size → ¬ S i → w'.heap[i]? = w.heap[i]?
end
section
open Go.RowKit
variable {S T : Nat → Prop} {a b c w w' : World} {g B : Nat}
theorem But.refl (S : Nat → Prop) (w : World) : But S w w := ⟨rfl, rfl, rfl, Nat.le_refl _, fun _ _ _ => rfl⟩
theorem But.trans (h : But S a b) (k : But S b c) : But S a c :=
  ⟨k.os.trans h.os, k.tape.trans h.tape, k.output.trans h.output, Nat.le_trans h.size k.size, fun i hi hS => (k.block i (Nat.lt_of_lt_of_le hi h.size) hS).trans (h.block i hi hS)⟩
theorem But.of_below (S : Nat → Prop) (h : Below a.heap.size a b) : But S a b := ⟨h.os, h.tape, h.output, h.size, fun i hi _ => h.block i hi⟩
theorem But.of_gr (h : a.grownBy b (some g)) (hS : S g) : But S a b := ⟨h.os, h.tape, h.output, h.size, fun i hi hn => h.block i hi (fun e => hn (by injection e with e; rw [e]; exact hS))⟩
theorem But.of_own {v : Value} (h : a.grownBy b v.ownBlock) (hS : ∀ g, v.ownBlock = some g → S g) : But S a b := ⟨h.os, h.tape, h.output, h.size, fun i hi hn => h.block i hi (fun e => hn (hS i e.symm))⟩
theorem But.call (h : But S a b) (hb : Below b.heap.size b c) : But S a c := h.trans (.of_below S hb)
theorem But.mono (h : But S a b) (hT : ∀ i, i < a.heap.size → S i → T i) : But T a b := ⟨h.os, h.tape, h.output, h.size, fun i hi hn => h.block i hi (fun hs => hn (hT i hi hs))⟩
theorem But.below (h : But S a b) (hB : B ≤ a.heap.size) (hS : ∀ i, S i → B ≤ i) : Below B a b := ⟨h.os, h.tape, h.output, h.size, fun i hi => h.block i (by omega) (fun hs => by have := hS i hs; omega)⟩
theorem Rd.but {size n : Nat} {A : Option Addr} {xs : List Value} (h : Rd w size A n xs) (hb : But S w w') (ha : ∀ b o, A = some ⟨b, o, none⟩ → 0 < n → ¬ S b) : Rd w' size A n xs := by
  refine ⟨h.1, fun hn => ?_⟩
  obtain ⟨b, o, e, hlt, hc⟩ := h.2 hn
  refine ⟨b, o, e, Nat.lt_of_lt_of_le hlt hb.size, fun j u hu => ?_⟩
  rw [World.cell?_of_block (a := ⟨b, o + j, none⟩) (hb.block b hlt (ha b o e hn))]
  exact hc j u hu
theorem Blk.but {t : TypeId} {cs : Array Value} (h : Blk w g t cs) (hb : But S w w') (hg : ¬ S g) : Blk w' g t cs := (hb.block g h.lt hg).trans h
theorem own_but {base : Nat} {e : TypeId} {size n : Nat} {v : Value} {xs : List Value} (h : w.ownsRow base e size v n xs) (hb : But S w w') (hv : ∀ g, v.ownBlock = some g → ¬ S g) : w'.ownsRow base e size v n xs := by
  refine ⟨h.1, ?_⟩
  have hlt := h.lt
  rcases h.2 with h2 | ⟨g, cap, cur, rfl, hbg, hh, r⟩
  · exact .inl h2
  · exact .inr ⟨g, cap, cur, rfl, hbg, (hb.block g (hlt g rfl).2 (hv g rfl)).trans hh, r⟩
end
section
open Go.RowKit Go.Shelf
attribute [local go_sem] Oper.semAt_some
def shiftL (l : List (Int × Int)) (b : Int) : List (Int × Int) := l.map fun r => (r.1 + b, r.2 + b)
theorem shiftL_length (l : List (Int × Int)) (b : Int) : (shiftL l b).length = l.length := by simp [shiftL]
theorem shiftL_get (l : List (Int × Int)) (b : Int) (k : Nat) (x y : Int) (h : l[k]? = some (x, y)) : (shiftL l b)[k]? = some (x + b, y + b) := by simp [shiftL, h]
def SmallR (l : List (Int × Int)) : Prop := ∀ r ∈ l, (0 ≤ r.1 ∧ r.1 ≤ 1000000000) ∧ 0 ≤ r.2 ∧ r.2 ≤ 1000000000
theorem SmallR.at {l : List (Int × Int)} (h : SmallR l) {k : Nat} {x y : Int} (hx : l[k]? = some (x, y)) : (0 ≤ x ∧ x ≤ 1000000000) ∧ 0 ≤ y ∧ y ≤ 1000000000 := h (x, y) (List.mem_of_getElem? hx)
theorem Blk.turn {X Y : World} {row : Option Nat} {B g : Nat} {t : TypeId} {cs : Array Value} (h : Blk X g t cs) (hg : X.grownBy Y row) (hr : ∀ r, row = some r → B ≤ r ∧ ∃ o : Obj, X.heap[r]? = some o ∧ o.isCells = false) : Blk Y g t cs :=
  h.grown hg (fun e => by
    obtain ⟨_, o, ho, hc⟩ := hr g e.symm
    unfold Blk at h
    rw [h] at ho
    cases ho
    cases hc)
theorem But.below' {S : Nat → Prop} {B : Nat} {a b : World} (h : Below B a b) (hS : ∀ i, ¬ S i → i < B) : But S a b := ⟨h.os, h.tape, h.output, h.size, fun i _ hn => h.block i (hS i hn)⟩
theorem butK_b {S : Nat → Prop} {w : World} (hS : ∀ i, w.heap.size ≤ i → S i) (W : World) (l : Nat) (o o' : Obj) (hl : w.heap.size ≤ l) (h : W.heap[l]? = some o) (_ : o.isCells = false) (_ : o.isWalk = false) : But S W (W.putObj l o') :=
  But.of_gr (grownBy_putObj' W l o') (hS l hl)
theorem But.cell {S : Nat → Prop} {a b : World} (h : But S a b) {g o : Nat} (hg : g < a.heap.size) (hn : ¬ S g) : b.cell? ⟨g, o, none⟩ = a.cell? ⟨g, o, none⟩ := World.cell?_of_block (a := ⟨g, o, none⟩) (h.block g hg hn)
def encR (r : Int × Int) : Array Value := #[.agg #[.int .i64 r.1, .int .i64 r.2]]
set_option maxHeartbeats 1000000 in
theorem shift_in (F : Fence) (n : Nat) (hf : F.fn 263) (hro : F.round = none) (Bb : Nat) (x y b : Int) (W : World) (hb : W.cell? ⟨Bb, 0, none⟩ = some (.int .i64 b)) (hBb : Bb < W.heap.size) (hx : 0 ≤ x ∧ x ≤ 1000000000) (hy : 0 ≤ y ∧ y ≤ 1000000000) (hb0 : 0 ≤ b ∧ b ≤ 1000000000) :
    CallsIn F n Tryz.prog 263 #[.agg #[.int .i64 x, .int .i64 y], .pointer (some ⟨Bb, 0, none⟩)] W fun e w' => e = .returned (.agg #[.int .i64 (x + b), .int .i64 (y + b)]) ∧ Below W.heap.size W w' := by
  obtain ⟨hx0, hx1⟩ := hx
  obtain ⟨hy0, hy1⟩ := hy
  obtain ⟨hb0, hb1⟩ := hb0
  refine callsIn_of_wp Tryz.func263 rfl hf ?_ hro
  simp only [Tryz.ntmps263, List.size_toArray, List.length_cons, List.length_nil, Nat.reduceAdd, Nat.reduceSub, Array.replicate_succ, Array.replicate_zero, List.push_toArray, List.append_toArray, List.nil_append, List.cons_append]
  gi_wp2
  refine bodyPost_ret (v := .agg #[.int .i64 (x + b), .int .i64 (y + b)]) (by simp [results, Tryz.results263, go_sem]) rfl ⟨rfl, ?_⟩
  first
    | exact ((((Below.refl _ _).alloc (Nat.le_refl _) _).alloc (by simp) _).setCell (by simp) _).setCell (by simp) _
    | exact ((Below.refl _ _).alloc (Nat.le_refl _) _).alloc (by simp) _
set_option maxRecDepth 100000 in
set_option maxHeartbeats 2000000 in
theorem later2_in {β : Type} (f : β → Int × Int) (ls : List β) (F : Fence) (n : Nat) (hf : F.fn 264) (hf1 : F.fn 263) (hro : F.round = none) (hn : 1 ≤ n) (ly Bl Bf Bb len cap : Nat) (A : Option Addr) (rs : List (Int × Int)) (b : Int) (hreach : len ≤ 10000000) (hrl : rs.length = len) (hsm : SmallR rs) (hb : 0 ≤ b ∧ b ≤ 1000000000)
    (hls : ls.map f = shiftL rs b) (S : Nat → Prop) (hBf : ¬ S Bf) (hBb : ¬ S Bb) (W : World) (hBf0 : Bf < W.heap.size) (hBb0 : Bb < W.heap.size) (J Jx : List β → World → Prop)
    (hY : ∀ pre x W, J pre W → pre.length < len → YieldAt F (n - 1) Tryz.prog ly (encR (f x)) W fun e W' =>
      (e = .returned (.bool true) ∧ J (pre ++ [x]) W' ∧ But S W W') ∨ (e = .returned (.bool false) ∧ Jx (pre ++ [x]) W'))
    (hJ : AbidesFrom W.heap.size J) (hBl : W.cell? ⟨Bl, 0, none⟩ = some (.slice A len cap)) (hcf : W.cell? ⟨Bf, 0, none⟩ = some (.func (.func 263) #[] #[.pointer (some ⟨Bb, 0, none⟩)])) (hcb : W.cell? ⟨Bb, 0, none⟩ = some (.int .i64 b))
    (hc : 0 < len → ∃ g off, A = some ⟨g, off, none⟩ ∧ (g < W.heap.size ∧ ¬ S g) ∧ ∀ j u, (rv rs)[j]? = some u → W.cell? ⟨g, off + j, none⟩ = some u) (h0 : J [] W) :
    CallsIn F n Tryz.prog 264 #[.func (.yield ly) #[] #[], .pointer (some ⟨Bl, 0, none⟩), .pointer (some ⟨Bf, 0, none⟩)] W fun e W' => (∃ v, e = .returned v) ∧
      ((∃ ys, ys = ls ∧ J ys W') ∨ (∃ pre, pre <+: ls ∧ Jx pre W')) := by
  have hyl : ls.length = len := by have := congrArg List.length hls; rw [List.length_map, shiftL_length, hrl] at this; exact this
  have HLS := Lib.hid hls
  have HYL := Lib.hid hyl
  have HRL := Lib.hid hrl
  have HB := Lib.hid hb
  clear hyl hrl hb hls
  refine callsIn_of_wp Tryz.func264 rfl hf ?_ hro
  simp only [Tryz.ntmps264, List.size_toArray, List.length_cons, List.length_nil, Nat.reduceAdd, Nat.reduceSub, Array.replicate_succ, Array.replicate_zero, List.push_toArray, List.append_toArray, List.nil_append, List.cons_append]
  gi_wp2_with fail
  gi_loopw [8] (fun i wr => ∃ k : Nat, k ≤ len ∧ i = .int .i64 k ∧ J (ls.take k) wr ∧ But S W wr)
    (fun i _ => len - (intOf i).toNat)
  case atStart => exact ⟨0, Nat.zero_le _, rfl, by simpa using h0, But.refl _ _⟩
  case round =>
    obtain ⟨k, hk, rfl, hJs, hnx⟩ := hrel
    by_cases hlt : k < len
    · obtain ⟨g, off, rfl, hg, hcc⟩ := hc (by omega)
      have hkl : k < rs.length := by rw [HRL.out]; omega
      obtain ⟨x, y, hxy⟩ : ∃ x y, rs[k]? = some (x, y) := ⟨_, _, List.getElem?_eq_getElem hkl⟩
      obtain ⟨s1, s2⟩ := hsm.at hxy
      have gx := rv_get rs k hkl
      rw [List.getElem?_eq_getElem hkl] at hxy
      injection hxy with hxy
      rw [hxy] at gx
      have c1 : wr.cell? ⟨g, off + k * 2, none⟩ = some (.int .i64 x) := (hnx.cell hg.1 hg.2).trans (hcc _ _ gx.1)
      have c2 : wr.cell? ⟨g, off + k * 2 + 1, none⟩ = some (.int .i64 y) := (hnx.cell hg.1 hg.2).trans (by rw [Nat.add_assoc]; exact hcc _ _ gx.2)
      have cf : wr.cell? ⟨Bf, 0, none⟩ = some (.func (.func 263) #[] #[.pointer (some ⟨Bb, 0, none⟩)]) := (hnx.cell hBf0 hBf).trans hcf
      have cb : wr.cell? ⟨Bb, 0, none⟩ = some (.int .i64 b) := (hnx.cell hBb0 hBb).trans hcb
      have hws : W.heap.size ≤ wr.heap.size := hnx.size
      have hg0 := hg.1
      obtain ⟨z, hz⟩ : ∃ z, ls[k]? = some z := ⟨_, List.getElem?_eq_getElem (by rw [HYL.out]; exact hlt)⟩
      have hsn : Hid (ls.take (k + 1) = ls.take k ++ [z]) := Lib.hid (by
        obtain ⟨h1, h2⟩ := List.getElem?_eq_some_iff.1 hz
        rw [List.take_succ_eq_append_getElem h1, h2])
      have hfz : f z = (x + b, y + b) := by
        have h1 := congrArg (fun l => l[k]?) HLS.out
        simp only [List.getElem?_map, hz, Option.map_some] at h1
        rw [shiftL_get rs b k x y (by rw [List.getElem?_eq_getElem hkl, hxy])] at h1
        injection h1
      have HJS := Lib.hid hJs
      have HN := Lib.hid hnx
      have cb2 : (wr.alloc (.cells #[.int .i64 x, .int .i64 y] 218)).cell? ⟨Bb, 0, none⟩ = some (.int .i64 b) := (((Below.refl wr.heap.size wr).alloc (Nat.le_refl _) _).cell (p := ⟨Bb, 0, none⟩) (show Bb < wr.heap.size by omega)).trans cb
      have HS := Lib.hid (shift_in F (n - 1) hf1 hro Bb x y b (wr.alloc (.cells #[.int .i64 x, .int .i64 y] 218)) cb2 (by simp; omega) s1 s2 HB.out)
      have hBf' : Bf < wr.heap.size := by omega
      have hg' : g < wr.heap.size := by omega
      clear hJs hnx hcc gx hxy hkl s1 s2 cb2 cb
      gi_wp2_with fail
      refine HS.out.mono ?_
      rintro e w1 ⟨rfl, hb1⟩
      have hb2 : Below wr.heap.size wr w1 := ((Below.refl _ _).alloc (Nat.le_refl _) _).trans (hb1.mono (by simp))
      obtain ⟨fn, tmps, assign, body, hy, hR⟩ := hY _ z w1 (hJ _ _ _ none HJS.out (gr_of_below hb2 none) (fun r e => by cases e)) (by rw [List.length_take, HYL.out]; omega)
      have HR := Lib.hid hR
      have HN2 := Lib.hid (HN.out.call hb2)
      clear hb1 hb2 c1 c2 cf HS hR HJS HN
      rw [hfz] at hy
      dsimp only [encR] at hy
      clear hfz hz
      gi_wp2_with fail
      refine HR.out.mono ?_
      rintro e W3 (⟨rfl, hJ3, hk3⟩ | ⟨rfl, hJx3⟩)
      · gi_wp2
        go_roundw
        case rel => exact ⟨k + 1, by omega, by simp, by rw [hsn.out]; exact hJ3, HN2.out.trans hk3⟩
        case measure => simp [intOf]; omega
      · gi_wp2
        refine bodyPost_ret (results_none rfl _ _ _) rfl ?_
        exact ⟨⟨_, rfl⟩, .inr ⟨_, by rw [← hsn.out]; exact List.take_prefix _ _, hJx3⟩⟩
    · obtain rfl : k = len := by omega
      rw [List.take_of_length_le (by rw [HYL.out]; omega)] at hJs
      gi_wp2
      go_end0
      exact ⟨⟨_, rfl⟩, .inl ⟨_, rfl, hJs⟩⟩
def LaterRet (w : World) (A : Option Addr) (n c : Nat) (b : Int) (e : Ending) (w' : World) : Prop :=
  e = .returned (.func (.func 264) #[] #[.pointer (some ⟨w.heap.size, 0, none⟩), .pointer (some ⟨w.heap.size + 1 + 1, 0, none⟩)]) ∧ w'.cell? ⟨w.heap.size, 0, none⟩ = some (.slice A n c) ∧ w'.cell? ⟨w.heap.size + 1, 0, none⟩ = some (.int .i64 b) ∧
    w'.cell? ⟨w.heap.size + 1 + 1, 0, none⟩ = some (.func (.func 263) #[] #[.pointer (some ⟨w.heap.size + 1, 0, none⟩)]) ∧ w.heap.size + 3 ≤ w'.heap.size ∧ Below w.heap.size w w'
set_option maxHeartbeats 1000000 in
theorem later_in (F : Fence) (nF : Nat) (hf : F.fn 229) (hro : F.round = none) (A : Option Addr) (n c : Nat) (b : Int) (w : World) :
    CallsIn F nF Tryz.prog 229 #[.slice A n c, .int .i64 b] w (LaterRet w A n c b) := by
  refine callsIn_of_wp Tryz.func229 rfl hf ?_ hro
  simp only [Tryz.ntmps229, List.size_toArray, List.length_cons, List.length_nil, Nat.reduceAdd, Nat.reduceSub, Array.replicate_succ, Array.replicate_zero, List.push_toArray, List.append_toArray, List.nil_append, List.cons_append]
  gi_wp2
  go_ret
  refine ⟨rfl, ?_, ?_, ?_, ?_, ?_⟩
  · go_simp
  · go_simp
  · go_simp
  · simp
  · exact (((Below.refl _ _).alloc (Nat.le_refl _) _).alloc (by simp) _).alloc (by simp <;> omega) _
theorem later_stops {β : Type} (f : β → Int × Int) (ls : List β) (F : Fence) (n : Nat) (hf : F.fn 264) (hf1 : F.fn 263) (hro : F.round = none) (hn : 1 ≤ n) (Bl Bf Bb len cap : Nat) (A : Option Addr) (rs : List (Int × Int)) (b : Int) (hreach : len ≤ 10000000) (hrl : rs.length = len) (hsm : SmallR rs) (hb : 0 ≤ b ∧ b ≤ 1000000000)
    (hls : ls.map f = shiftL rs b) (S : Nat → Prop) (w : World) (hBl : Bl < w.heap.size) (hBf : Bf < w.heap.size ∧ ¬ S Bf) (hBb : Bb < w.heap.size ∧ ¬ S Bb) (hl : w.cell? ⟨Bl, 0, none⟩ = some (.slice A len cap)) (hcf : w.cell? ⟨Bf, 0, none⟩ = some (.func (.func 263) #[] #[.pointer (some ⟨Bb, 0, none⟩)])) (hcb : w.cell? ⟨Bb, 0, none⟩ = some (.int .i64 b))
    (hc : 0 < len → ∃ g off, A = some ⟨g, off, none⟩ ∧ (g < w.heap.size ∧ ¬ S g) ∧ ∀ j u, (rv rs)[j]? = some u → w.cell? ⟨g, off + j, none⟩ = some u) :
    SeqStopsK F n Tryz.prog 264 #[.pointer (some ⟨Bl, 0, none⟩), .pointer (some ⟨Bf, 0, none⟩)] (fun x => encR (f x)) (But S) (fun ys => ys = ls) (fun pre => pre <+: ls) len w := fun l J Jx W hW hJ _ hY h0 =>
  later2_in f ls F n hf hf1 hro hn l Bl Bf Bb len cap A rs b hreach hrl hsm hb hls S hBf.2 hBb.2 W (Nat.lt_of_lt_of_le hBf.1 hW.size) (Nat.lt_of_lt_of_le hBb.1 hW.size) J Jx hY hJ ((hW.cell (p := ⟨Bl, 0, none⟩) hBl).trans hl) ((hW.cell (p := ⟨Bf, 0, none⟩) hBf.1).trans hcf) ((hW.cell (p := ⟨Bb, 0, none⟩) hBb.1).trans hcb)
    (fun h => by
      obtain ⟨g, off, e, hg, hcc⟩ := hc h
      exact ⟨g, off, e, ⟨Nat.lt_of_lt_of_le hg.1 hW.size, hg.2⟩, fun j u hu => (hW.cell (p := ⟨g, off + j, none⟩) hg.1).trans (hcc j u hu)⟩) h0
end
end Go.Proofs.YtkmaeipoaoikpaaGreat
