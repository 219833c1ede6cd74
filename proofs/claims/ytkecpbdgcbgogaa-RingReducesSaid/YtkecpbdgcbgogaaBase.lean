/-
  Small plain lemmas that the walks share; nothing here speaks of the program.
-/
import Derived.WalkKit
import Derived.WalkSpells
import Derived.WalkLawsBesides
import Derived.Lib.Hide
import Derived.Deep.QuietTactic
import Derived.BigQuiet
import Derived.IntWalk
import Derived.Deep.RegionHeld3
import Derived.Maps.AppendAt
namespace Go.Proofs.Ytkecpbdgcbgogaa
set_option linter.unusedVariables false
set_option linter.unusedSimpArgs false
open Go.RowKit

theorem ret_int {k : IntKind} {a b : Int} (h : a = b) : Ending.returned (.int k a) = .returned (.int k b) := by rw [h]
theorem ret_bool {a b : Bool} (h : a = b) : Ending.returned (.bool a) = .returned (.bool b) := by rw [h]
theorem ret_pair {a b c : Value} (h : a = b) : Ending.returned (.tuple #[a, c]) = .returned (.tuple #[b, c]) := by rw [h]

theorem bcell {W w1 : World} (hb : Below W.heap.size W w1) : (∀ b o, b < W.heap.size → w1.cell? ⟨b, o, none⟩ = W.cell? ⟨b, o, none⟩) ∧ (∀ b o, b < W.heap.size → w1.frozen? ⟨b, o, none⟩ = W.frozen? ⟨b, o, none⟩) :=
  ⟨fun b o h => hb.cell (p := ⟨b, o, none⟩) h, fun b o h => hb.frozen (p := ⟨b, o, none⟩) h⟩

theorem cell_drewN {w : World} {p : Addr} {v : Value} (h : w.cell? p = some v) (n : Nat) : (w.drewN n).cell? p = some v := h
theorem own_drewN {w : World} {base : Nat} {e : TypeId} {size : Nat} {v : Value} {n : Nat} {xs : List Value} (h : w.ownsRow base e size v n xs) (k : Nat) : (w.drewN k).ownsRow base e size v n xs := h

/-- What a region keeps while it makes memory: all that lay when it began. -/
abbrev Kept (W0 w' : World) : Prop := (∀ b o, b < W0.heap.size → w'.cell? ⟨b, o, none⟩ = W0.cell? ⟨b, o, none⟩) ∧ W0.heap.size ≤ w'.heap.size ∧ Below W0.heap.size W0 w'
theorem Kept.of {W0 w' : World} (h : Below W0.heap.size W0 w') : Kept W0 w' := ⟨(bcell h).1, h.size, h⟩
theorem Kept.start (W0 : World) : Kept W0 W0.drew := Kept.of (Below.refl _ _).drew
theorem Kept.drew {W0 w : World} (h : Kept W0 w) : Kept W0 w.drew := Kept.of h.2.2.drew
theorem Kept.drewN {W0 w : World} (h : Kept W0 w) (n : Nat) : Kept W0 (w.drewN n) := Kept.of (below_drewN h.2.2 n)
theorem Kept.alloc {W0 w : World} (h : Kept W0 w) (o : Obj) : Kept W0 (w.alloc o) := Kept.of (h.2.2.alloc h.2.1 o)
theorem Kept.call {W0 w w1 : World} (h : Kept W0 w) (hb : Below w.heap.size w w1) : Kept W0 w1 := Kept.of (h.2.2.trans (hb.mono h.2.1))
theorem Kept.call_alloc {W0 w w1 : World} {o : Obj} (h : Kept W0 w) (hb : Below (w.heap.size + 1) (w.alloc o) w1) : Kept W0 w1 := (h.alloc o).call (by simpa using hb)

/-- The worlds that keep what lay in W0: the class in which a region that draws its order is walked once. -/
structure KW (W0 : World) where
  w : World
  h : Kept W0 w
instance (W0 : World) : Nonempty (KW W0) := ⟨⟨W0, Kept.of (Below.refl _ _)⟩⟩
theorem KW.cells {W0 : World} (u : KW W0) (b o : Nat) (h : b < W0.heap.size) : u.w.cell? ⟨b, o, none⟩ = W0.cell? ⟨b, o, none⟩ := u.h.1 b o h
/-- A region that draws its order, whose operations read and whose callees make memory and hand back plain values: one walk serves every order. -/
theorem wp_region_kept {P : Program} {id : Nat} {Q : Exit → Act → World → Prop} {a : Act} {w : World} {l : List Oper} (W0 : World) (hm : P.follows .mixedOrders = true) (hB : Region.lexB .any l.toArray = true) (hk : Kept W0 w)
    (h : wpQuiet P l.toArray (fun w' => ∃ u : KW W0, w' = u.w) (fun a' => ∀ w', (∃ u : KW W0, w' = u.w) → Q .normal a' w') l a) : (Code.region id l.toArray true).wp P Q a w :=
  wp_region_quiet (C := fun w' => ∃ u : KW W0, w' = u.w) hm hB ⟨⟨_, hk.drew⟩, rfl⟩ (by simpa using h)
theorem kept_call {P : Program} {f : FuncId} {args : Array Value} {W0 : World} {u : KW W0} {v : Value} (h : Calls P f args u.w fun e w' => e = .returned v ∧ Below u.w.heap.size u.w w') :
    Calls P f args u.w fun e w'' => e = .returned v ∧ ∃ u' : KW W0, w'' = u'.w :=
  h.mono fun _ w' ⟨he, hb⟩ => ⟨he, ⟨w', u.h.call hb⟩, rfl⟩
theorem kept_same {P : Program} {f : FuncId} {args : Array Value} {W0 : World} {u : KW W0} {v : Value} (h : Calls P f args u.w fun e w' => e = .returned v ∧ u.w = w') :
    Calls P f args u.w fun e w'' => e = .returned v ∧ ∃ u' : KW W0, w'' = u'.w :=
  h.mono fun _ w' ⟨he, hb⟩ => ⟨he, u, hb.symm⟩

/-- The static facts of a slice type: its element type, that type's zero value, cells and bytes. -/
structure Sl (P : Program) (t e : TypeId) (z : Value) (size bytes : Nat) : Prop where
  slice : P.underlying t = some (.slice e)
  info : (P.info? e).map (fun i => (i.zero, i.size, i.bytes)) = some (some z, size, bytes)
  cells : z.cells.size = size
  pos : 0 < size

/-- A new slice in memory of the call's own comes back. -/
def OwnRet (w : World) (e : TypeId) (size n : Nat) (xs : List Value) (en : Ending) (w' : World) : Prop :=
  ∃ A cap, en = .returned (.slice A n cap) ∧ w'.ownsRow w.heap.size e size (.slice A n cap) n xs ∧ Below w.heap.size w w'

theorem OwnRet.lift {w W : World} {e : TypeId} {size n : Nat} {xs : List Value} {en : Ending} {w' : World} (h : OwnRet W e size n xs en w') (hb : Below w.heap.size w W) : OwnRet w e size n xs en w' := by
  obtain ⟨A, cap, he, hown, hb'⟩ := h
  refine ⟨A, cap, he, ⟨hown.1, ?_⟩, hb.trans (hb'.mono hb.size)⟩
  rcases hown.2 with h2 | ⟨g, cap, cur, h1, hg, r⟩
  · exact .inl h2
  · exact .inr ⟨g, cap, cur, h1, Nat.le_trans hb.size hg, r⟩

theorem own_form {w : World} {base : Nat} {e : TypeId} {size : Nat} {v : Value} {n : Nat} {xs : List Value} (h : w.ownsRow base e size v n xs) : ∃ A cap, v = .slice A n cap ∧ n ≤ cap ∧ cap ≤ maxLen ∧ (0 < n → ∃ g, A = some ⟨g, 0, none⟩ ∧ base ≤ g ∧ g < w.heap.size) := by
  have hlt := h.lt
  rcases h.2 with ⟨rfl, rfl⟩ | ⟨g, cap, cur, rfl, hg, hh, h1, h2, _⟩
  · exact ⟨none, 0, rfl, Nat.le_refl _, Nat.zero_le _, fun h => absurd h (by omega)⟩
  · exact ⟨some ⟨g, 0, none⟩, cap, rfl, h1, h2, fun _ => ⟨g, rfl, hg, (hlt g rfl).2⟩⟩

theorem own_below {w w' : World} {base : Nat} {e : TypeId} {size : Nat} {v : Value} {n : Nat} {xs : List Value} (h : w.ownsRow base e size v n xs) (hb : Below w.heap.size w w') : w'.ownsRow base e size v n xs :=
  h.kept (row := none) ⟨hb.os, hb.tape, hb.output, hb.size, fun k hk _ => hb.block k hk⟩ (by
    cases hv : v.ownBlock with
    | none => exact .inl rfl
    | some k => exact .inr (by simp))
theorem own_base {w : World} {base base' : Nat} {e : TypeId} {size : Nat} {v : Value} {n : Nat} {xs : List Value} (h : w.ownsRow base e size v n xs) (hb : base' ≤ base) : w.ownsRow base' e size v n xs := by
  refine ⟨h.1, ?_⟩
  rcases h.2 with h2 | ⟨g, cap, cur, h1, hg, r⟩
  · exact .inl h2
  · exact .inr ⟨g, cap, cur, h1, Nat.le_trans hb hg, r⟩

theorem cells_new (w : World) (cs : Array Value) (t : TypeId) : ∀ j u, cs.toList[j]? = some u → (w.alloc (.cells cs t)).cell? ((⟨w.heap.size, 0, none⟩ : Addr).add j) = some u := by
  intro j u h
  have e : ((⟨w.heap.size, 0, none⟩ : Addr).add j) = ⟨w.heap.size, j, none⟩ := by
    unfold Addr.add
    by_cases hj : j = 0 <;> simp [hj]
  rw [e]
  have hh : (w.alloc (.cells cs t)).heap[w.heap.size]? = some (.cells cs t (0, 0)) := by
    show (w.heap.push _)[w.heap.size]? = _
    simp
  rw [cell_of_row _ _ _ _ _ _ hh, ← h]
  simp

/-- 'out = append(out, x)' where out is the call's own: the element x lies in the block that was laid for it. -/
theorem wpList_push {P : Program} {w : World} {ops : Array Oper} {rest : List Oper} {o : Oper} {a : Act} {Q : Exit → Act → World → Prop} {t e : TypeId} {z : Value} {size bytes : Nat}
    (sl : Sl P t e z size bytes) (hgd : o.guard = none) (s x : Operand) (ho : o.op = .call { callee := .builtin .append, args := #[s, x], argTypes := #[t, t] })
    (base : Nat) (v : Value) (n : Nat) (xs : List Value) (hs : a.eval s = v) (hown : w.ownsRow base e size v n xs)
    (news : Array Value) (g : Nat) (hx : a.eval x = .slice (some ⟨g, 0, none⟩) 1 1) (hg : g = w.heap.size) (hl : news.size = size) (h1 : ∀ u ∈ news.toList, u.oneCell' = true)
    (h63 : n + 1 ≤ maxLen) (hbytes : (n + 1) * bytes ≤ 140737488355328) (hbase : base ≤ w.heap.size)
    (h : ∀ A' cap' w', w'.ownsRow base e size (.slice A' (n + 1) cap') (n + 1) (xs ++ news.toList) → Below base w w' → wpList P ops Q rest (a.put o.dst (.slice A' (n + 1) cap')) w') :
    wpList P ops Q (o :: rest) a (w.alloc (.cells news e)) := by
  subst hg
  obtain ⟨i, hi, hz0, hz1, hz2⟩ := info_parts sl.info
  refine wpList_append_own _ hgd s x t ho base e i z size bytes sl.slice hi hz0 hz1 hz2 sl.cells sl.pos v n xs hs (hown.alloc _) ⟨w.heap.size, 0, none⟩ 1 1 news.toList hx (by simpa using hl) (cells_new w news e) h1 h63 hbytes (by simp; omega) ?_
  intro v' w' h2 h3 _
  obtain ⟨A, cap, rfl, _⟩ := own_form h2
  refine h A cap w' h2 (((Below.refl _ _).alloc hbase _).grown h3 (by simp; omega) fun k hk => (hown.lt k hk).1)

end Go.Proofs.Ytkecpbdgcbgogaa
