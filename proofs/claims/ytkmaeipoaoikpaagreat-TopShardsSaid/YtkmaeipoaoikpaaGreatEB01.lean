/- Base, Open, PartPlain, Part, Part2, Part4. -/
import Derived.WalkSpells
import Derived.WalkLawsBesides
import Derived.Lib.Hide
import Derived.BigQuiet
import Derived.Deep.RegionHeld3
import Derived.ProofKit
import Derived.OpenShut
import Derived.Deep.Fields
import Derived.Test.YtkmaeipoaoikpaaGreatProg
namespace Go.Proofs.YtkmaeipoaoikpaaGreat
set_option linter.all false
set_option maxRecDepth 100000
set_option maxHeartbeats 1000000
open Lib (hid)
section
open Go.RowKit
theorem ret_int {k : IntKind} {a b : Int} (h : a = b) : Ending.returned (.int k a) = .returned (.int k b) := by rw [h]
theorem ret_bool {a b : Bool} (h : a = b) : Ending.returned (.bool a) = .returned (.bool b) := by rw [h]
theorem ret_pair {a b c : Value} (h : a = b) : Ending.returned (.tuple #[a,c]) = .returned (.tuple #[b,c]) := by rw [h]
theorem bcell {W w1 : World} (hb : Below W.heap.size W w1) : (∀ b o,b < W.heap.size -> w1.cell? ⟨b,o,none⟩ = W.cell? ⟨b,o,none⟩) /\ (∀ b o,b < W.heap.size -> w1.frozen? ⟨b,o,none⟩ = W.frozen? ⟨b,o,none⟩) :=
 ⟨fun b o h => hb.cell (p := ⟨b,o,none⟩) h,fun b o h => hb.frozen (p := ⟨b,o,none⟩) h⟩
abbrev Kept (W0 w' : World) : Prop := (∀ b o,b < W0.heap.size -> w'.cell? ⟨b,o,none⟩ = W0.cell? ⟨b,o,none⟩) /\ W0.heap.size <= w'.heap.size /\ Below W0.heap.size W0 w'
theorem Kept.of {W0 w' : World} (h : Below W0.heap.size W0 w') : Kept W0 w' := ⟨(bcell h).1,h.size,h⟩
theorem Kept.drewN {W0 w : World} (h : Kept W0 w) (n : Nat) : Kept W0 (w.drewN n) := Kept.of (below_drewN h.2.2 n)
theorem cell_drewN {w : World} {p : Addr} {v : Value} (h : w.cell? p = some v) (n : Nat) : (w.drewN n).cell? p = some v := h
theorem own_drewN {w : World} {base : Nat} {e : TypeId} {size : Nat} {v : Value} {n : Nat} {xs : List Value} (h : w.ownsRow base e size v n xs) (k : Nat) : (w.drewN k).ownsRow base e size v n xs := h
theorem Kept.drew {W0 w : World} (h : Kept W0 w) : Kept W0 w.drew := Kept.of h.2.2.drew
theorem Kept.start (W0 : World) : Kept W0 W0.drew := Kept.of (Below.refl _ _).drew
theorem Kept.alloc {W0 w : World} (h : Kept W0 w) (o : Obj) : Kept W0 (w.alloc o) := Kept.of (h.2.2.alloc h.2.1 o)
theorem Kept.call {W0 w w1 : World} (h : Kept W0 w) (hb : Below w.heap.size w w1) : Kept W0 w1 := Kept.of (h.2.2.trans (hb.mono h.2.1))
theorem Kept.call_alloc {W0 w w1 : World} {o : Obj} (h : Kept W0 w) (hb : Below (w.heap.size + 1) (w.alloc o) w1) : Kept W0 w1 := (h.alloc o).call (by simpa using hb)
structure KW (W0 : World) where
 w : World
 h : Kept W0 w
instance (W0 : World) : Nonempty (KW W0) := ⟨⟨W0,Kept.of (Below.refl _ _)⟩⟩
theorem KW.cells {W0 : World} (u : KW W0) (b o : Nat) (h : b < W0.heap.size) : u.w.cell? ⟨b,o,none⟩ = W0.cell? ⟨b,o,none⟩ := u.h.1 b o h
theorem wp_region_kept {P : Program} {id : Nat} {Q : Exit -> Act -> World -> Prop} {a : Act} {w : World} {l : List Oper} (W0 : World) (hm : P.follows .mixedOrders = true) (hB : Region.lexB .any l.toArray = true) (hk : Kept W0 w)
  (h : wpQuiet P l.toArray (fun w' => ∃ u : KW W0,w' = u.w) (fun a' => ∀ w',(∃ u : KW W0,w' = u.w) -> Q .normal a' w') l a) : (Code.region id l.toArray true).wp P Q a w :=
 wp_region_quiet (C := fun w' => ∃ u : KW W0,w' = u.w) hm hB ⟨⟨_,hk.drew⟩,rfl⟩ (by simpa using h)
theorem kept_call {P : Program} {f : FuncId} {args : Array Value} {W0 : World} {u : KW W0} {v : Value} (h : Calls P f args u.w fun e w' => e = .returned v /\ Below u.w.heap.size u.w w') :
  Calls P f args u.w fun e w'' => e = .returned v /\ ∃ u' : KW W0,w'' = u'.w :=
 h.mono fun _ w' ⟨he,hb⟩ => ⟨he,⟨w',u.h.call hb⟩,rfl⟩
theorem kept_same {P : Program} {f : FuncId} {args : Array Value} {W0 : World} {u : KW W0} {v : Value} (h : Calls P f args u.w fun e w' => e = .returned v /\ u.w = w') :
  Calls P f args u.w fun e w'' => e = .returned v /\ ∃ u' : KW W0,w'' = u'.w :=
 h.mono fun _ w' ⟨he,hb⟩ => ⟨he,u,hb.symm⟩
structure Sl (P : Program) (t e : TypeId) (z : Value) (size bytes : Nat) : Prop where
 slice : P.underlying t = some (.slice e)
 info : (P.info? e).map (fun i => (i.zero,i.size,i.bytes)) = some (some z,size,bytes)
 cells : z.cells.size = size
 pos : 0 < size
def OwnRet (w : World) (e : TypeId) (size n : Nat) (xs : List Value) (en : Ending) (w' : World) : Prop :=
 ∃ A cap,en = .returned (.slice A n cap) /\ w'.ownsRow w.heap.size e size (.slice A n cap) n xs /\ Below w.heap.size w w'
theorem OwnRet.lift {w W : World} {e : TypeId} {size n : Nat} {xs : List Value} {en : Ending} {w' : World} (h : OwnRet W e size n xs en w') (hb : Below w.heap.size w W) : OwnRet w e size n xs en w' := by
 obtain ⟨A,cap,he,hown,hb'⟩ := h
 refine ⟨A,cap,he,⟨hown.1,?_⟩,hb.trans (hb'.mono hb.size)⟩
 rcases hown.2 with h2 | ⟨g,cap,cur,h1,hg,r⟩
 ·exact .inl h2
 ·exact .inr ⟨g,cap,cur,h1,Nat.le_trans hb.size hg,r⟩
theorem own_form {w : World} {base : Nat} {e : TypeId} {size : Nat} {v : Value} {n : Nat} {xs : List Value} (h : w.ownsRow base e size v n xs) : ∃ A cap,v = .slice A n cap /\ n <= cap /\ cap <= maxLen /\ (0 < n -> ∃ g,A = some ⟨g,0,none⟩ /\ base <= g /\ g < w.heap.size) := by
 have hlt := h.lt
 rcases h.2 with ⟨rfl,rfl⟩ | ⟨g,cap,cur,rfl,hg,hh,h1,h2,_⟩
 ·exact ⟨none,0,rfl,Nat.le_refl _,Nat.zero_le _,fun h => absurd h (by omega)⟩
 ·exact ⟨some ⟨g,0,none⟩,cap,rfl,h1,h2,fun _ => ⟨g,rfl,hg,(hlt g rfl).2⟩⟩
theorem own_below {w w' : World} {base : Nat} {e : TypeId} {size : Nat} {v : Value} {n : Nat} {xs : List Value} (h : w.ownsRow base e size v n xs) (hb : Below w.heap.size w w') : w'.ownsRow base e size v n xs :=
 h.kept (row := none) ⟨hb.os,hb.tape,hb.output,hb.size,fun k hk _ => hb.block k hk⟩ (by
  cases hv : v.ownBlock with
  | none => exact .inl rfl
  | some k => exact .inr (by simp))
theorem own_base {w : World} {base base' : Nat} {e : TypeId} {size : Nat} {v : Value} {n : Nat} {xs : List Value} (h : w.ownsRow base e size v n xs) (hb : base' <= base) : w.ownsRow base' e size v n xs := by
 refine ⟨h.1,?_⟩
 rcases h.2 with h2 | ⟨g,cap,cur,h1,hg,r⟩
 ·exact .inl h2
 ·exact .inr ⟨g,cap,cur,h1,Nat.le_trans hb hg,r⟩
theorem cells_new (w : World) (cs : Array Value) (t : TypeId) : ∀ j u,cs.toList[j]? = some u -> (w.alloc (.cells cs t)).cell? ((⟨w.heap.size,0,none⟩ : Addr).add j) = some u := by
 intro j u h
 have e : ((⟨w.heap.size,0,none⟩ : Addr).add j) = ⟨w.heap.size,j,none⟩ := by
  unfold Addr.add
  by_cases hj : j = 0 <;> simp [hj]
 rw [e]
 have hh : (w.alloc (.cells cs t)).heap[w.heap.size]? = some (.cells cs t (0,0)) := by
  show (w.heap.push _)[w.heap.size]? = _
  simp
 rw [cell_of_row _ _ _ _ _ _ hh,<- h]
 simp
theorem wpList_push {P : Program} {w : World} {ops : Array Oper} {rest : List Oper} {o : Oper} {a : Act} {Q : Exit -> Act -> World -> Prop} {t e : TypeId} {z : Value} {size bytes : Nat}
  (sl : Sl P t e z size bytes) (hgd : o.guard = none) (s x : Operand) (ho : o.op = .call { callee := .builtin .append,args := #[s,x],argTypes := #[t,t] })
  (base : Nat) (v : Value) (n : Nat) (xs : List Value) (hs : a.eval s = v) (hown : w.ownsRow base e size v n xs)
  (news : Array Value) (g : Nat) (hx : a.eval x = .slice (some ⟨g,0,none⟩) 1 1) (hg : g = w.heap.size) (hl : news.size = size) (h1 : ∀ u ∈ news.toList,u.oneCell' = true)
  (h63 : n + 1 <= maxLen) (hbytes : (n + 1) * bytes <= 140737488355328) (hbase : base <= w.heap.size)
  (h : ∀ A' cap' w',w'.ownsRow base e size (.slice A' (n + 1) cap') (n + 1) (xs ++ news.toList) -> Below base w w' -> wpList P ops Q rest (a.put o.dst (.slice A' (n + 1) cap')) w') :
  wpList P ops Q (o :: rest) a (w.alloc (.cells news e)) := by
 subst hg
 obtain ⟨i,hi,hz0,hz1,hz2⟩ := info_parts sl.info
 refine wpList_append_own _ hgd s x t ho base e i z size bytes sl.slice hi hz0 hz1 hz2 sl.cells sl.pos v n xs hs (hown.alloc _) ⟨w.heap.size,0,none⟩ 1 1 news.toList hx (by simpa using hl) (cells_new w news e) h1 h63 hbytes (by simp; omega) ?_
 intro v' w' h2 h3 _
 obtain ⟨A,cap,rfl,_⟩ := own_form h2
 refine h A cap w' h2 (((Below.refl _ _).alloc hbase _).grown h3 (by simp; omega) fun k hk => (hown.lt k hk).1)
end
section
open Go.ChangeShapes Go.WideShapes Go.ChangeAt Go.RowKit
def Rd (w : World) (size : Nat) (A : Option Addr) (n : Nat) (xs : List Value) : Prop :=
 xs.length = n * size /\ (0 < n -> ∃ b o,A = some ⟨b,o,none⟩ /\ b < w.heap.size /\ ∀ j u,xs[j]? = some u -> w.cell? ⟨b,o + j,none⟩ = some u)
theorem Rd.below {w w' : World} {size : Nat} {A : Option Addr} {n : Nat} {xs : List Value} (h : Rd w size A n xs) (hb : Below w.heap.size w w') : Rd w' size A n xs := by
 refine ⟨h.1,fun hn => ?_⟩
 obtain ⟨b,o,e,hlt,hc⟩ := h.2 hn
 refine ⟨b,o,e,Nat.lt_of_lt_of_le hlt hb.size,fun j u hu => ?_⟩
 rw [hb.cell (p := ⟨b,o + j,none⟩) hlt]
 exact hc j u hu
theorem Rd.nil (w : World) (size : Nat) (A : Option Addr) : Rd w size A 0 [] := ⟨by simp,fun h => absurd h (by omega)⟩
theorem Rd.alloc {w : World} {size : Nat} {A : Option Addr} {n : Nat} {xs : List Value} (h : Rd w size A n xs) (o : Obj) : Rd (w.alloc o) size A n xs := h.below ((Below.refl _ _).alloc (Nat.le_refl _) _)
theorem Rd.drew {w : World} {size : Nat} {A : Option Addr} {n : Nat} {xs : List Value} (h : Rd w size A n xs) : Rd w.drew size A n xs := h
theorem Rd.drewN {w : World} {size : Nat} {A : Option Addr} {n : Nat} {xs : List Value} (h : Rd w size A n xs) (k : Nat) : Rd (w.drewN k) size A n xs := h
theorem Rd.of_own {w : World} {base : Nat} {e : TypeId} {size c : Nat} {A : Option Addr} {n : Nat} {xs : List Value} (h : w.ownsRow base e size (.slice A n c) n xs) : Rd w size A n xs := by
 refine ⟨h.1,fun hn => ?_⟩
 rcases h.2 with ⟨hv,_⟩ | ⟨g,cap,cur,hv,_,hh,_⟩
 ·injection hv with _ h2; omega
 ·injection hv with h1 _ _
  subst h1
  refine ⟨g,0,rfl,(h.lt g rfl).2,fun j u hu => ?_⟩
  have := h.cells (g := g) rfl j u hu
  rw [<- this]
  congr 1
  unfold Addr.add
  by_cases hj : j = 0 <;> simp [hj]
end
section
open Go.ChangeShapes Go.WideShapes Go.ChangeAt Go.RowKit
variable {H : Type} {enc : TypeId × Value → H} {P : Program} {w : World} {base : Nat} {spare : Nat → Bool} {held : Bool} {r : Reach} {b0 : Nat} {t : TypeId} {v : Value} {d : DataW H} {p : List MemPlace}
theorem shape_array {n : Nat} {e : TypeId} (ht : P.underlying t = some (.array n e)) (hv : Value.okWide P w r b0 t v) : ∃ cs,v = .agg cs /\ cs.size = P.cellsOf t := by
 simp only [Value.okWide,ht] at hv
 obtain ⟨cs,h1,h2,_⟩ := hv
 exact ⟨cs,h1,h2⟩
theorem elem_at {n : Nat} {e : TypeId} {fuel : Nat} {cs : List Value} {x : DataW H × List MemPlace} (ht : P.underlying t = some (.array n e)) (h : DataW.trod enc P w base spare held fuel t cs = some x) :
  ∃ m,∀ i,i < n -> ∃ y,DataW.trod enc P w base spare held m e ((cs.drop (i * P.cellsOf e)).take (P.cellsOf e)) = some y := by
 obtain ⟨xs,m,_,_,_,hl,hg⟩ := DataW.trod_array ht h
 refine ⟨m,fun i hi => ⟨xs[i]'(by omega),?_⟩⟩
 rw [hg i hi]
 exact List.getElem?_eq_getElem (by omega)
theorem field_at {fs : Array Field} {fuel : Nat} {cs : List Value} {x : DataW H × List MemPlace} (ht : P.underlying t = some (.struct fs)) (h : DataW.trod enc P w base spare held fuel t cs = some x) :
  ∃ m,∀ (i : Nat) (f : Field),fs[i]? = some f -> ∃ y,DataW.trod enc P w base spare held m f.type ((cs.drop f.offset).take (P.cellsOf f.type)) = some y := by
 obtain ⟨xs,m,_,_,_,hl,hg⟩ := DataW.trod_struct ht h
 refine ⟨m,fun i f hi => ?_⟩
 have hlt : i < fs.size := (Array.getElem?_eq_some_iff.1 hi).1
 refine ⟨xs[i]'(by omega),?_⟩
 rw [hg i f hi]
 exact List.getElem?_eq_getElem (by omega)
theorem int_of {k : IntKind} {fuel : Nat} {c : Value} {x : DataW H × List MemPlace} (ht : P.underlying t = some (.int k)) (h : DataW.trod enc P w base spare held fuel t [c] = some x) : ∃ n,c = .int k n /\ (Lit.int k n).wf = true := by
 obtain ⟨m,hm,_,hw⟩ := DataW.trod_int ht h
 simp at hm
 exact ⟨m,hm,hw⟩
theorem list2 {α : Type} {l : List α} (h : l.length = 2) : ∃ a b,l = [a,b] := by
 match l,h with
 | [a,b],_ => exact ⟨a,b,rfl⟩
theorem shape_ints {n : Nat} {e : TypeId} {k : IntKind} (ht : P.underlying t = some (.array n e)) (he : P.underlying e = some (.int k)) (hce : P.cellsOf e = 1) (hct : P.cellsOf t = n)
  (hv : Value.okWide P w r b0 t v) (h : DataW.Trod enc P w base spare held t v d p) : ∃ zs : List Int,zs.length = n /\ v = .agg (zs.map (Value.int k)).toArray /\ ∀ z ∈ zs,(Lit.int k z).wf = true := by
 obtain ⟨cs,rfl,hs⟩ := shape_array ht hv
 obtain ⟨fuel,hf⟩ := h
 obtain ⟨m,hm⟩ := elem_at ht hf
 rw [hct] at hs
 have hall : ∀ i,i < n -> ∃ z,cs.toList[i]? = some (.int k z) /\ (Lit.int k z).wf = true := by
  intro i hi
  obtain ⟨y,hy⟩ := hm i hi
  have hlt : i < cs.toList.length := by simpa [hs] using hi
  rw [hce,Nat.mul_one] at hy
  have e1 : ((Value.agg cs).cells.toList.drop i).take 1 = [cs.toList[i]] := by
   show (cs.toList.drop i).take 1 = _
   rw [List.drop_eq_getElem_cons hlt]
   rfl
  rw [e1] at hy
  obtain ⟨z,hz,hw⟩ := int_of he hy
  exact ⟨z,by rw [List.getElem?_eq_getElem hlt,hz],hw⟩
 obtain ⟨f,hf'⟩ := Go.Deep.choose_lt hall
 refine ⟨(List.range n).map f,by simp,?_,?_⟩
 ·congr 1
  apply Array.ext'
  simp only [List.map_map]
  apply List.ext_getElem?
  intro i
  by_cases hi : i < n
  ·rw [(hf' i hi).1]
   simp [hi]
  ·have h1 : cs.toList.length = n := by simpa using hs
   rw [List.getElem?_eq_none (by omega),List.getElem?_eq_none (by simp; omega)]
 ·intro z hz
  simp only [List.mem_map,List.mem_range] at hz
  obtain ⟨i,hi,rfl⟩ := hz
  exact (hf' i hi).2
end
def rv (l : List (Int × Int)) : List Value := l.flatMap fun r => [.int .i64 r.1,.int .i64 r.2]
theorem rv_nil : rv [] = [] := rfl
theorem rv_append (l k : List (Int × Int)) : rv (l ++ k) = rv l ++ rv k := by simp [rv]
theorem rv_cons (a b : Int) (l : List (Int × Int)) : rv ((a,b) :: l) = .int .i64 a :: .int .i64 b :: rv l := rfl
theorem rv_get (l : List (Int × Int)) (k : Nat) (hk : k < l.length) : (rv l)[k * 2]? = some (.int .i64 (l[k]).1) /\ (rv l)[k * 2 + 1]? = some (.int .i64 (l[k]).2) := by
 induction l generalizing k with
 | nil => simp at hk
 | cons r l ih =>
  obtain ⟨a,b⟩ := r
  rw [rv_cons]
  cases k with
  | zero => exact ⟨rfl,rfl⟩
  | succ k =>
   have := ih k (by simpa using hk)
   rw [show (k + 1) * 2 = k * 2 + 2 by omega]
   simpa using this
theorem rv_one (u : Value) (l : List (Int × Int)) (h : u ∈ rv l) : u.oneCell' = true := by
 unfold rv at h
 simp only [List.mem_flatMap] at h
 obtain ⟨r,_,h⟩ := h
 simp at h
 rcases h with rfl | rfl <;> rfl
theorem take_snoc {α : Type} (l : List α) (k : Nat) (h : k < l.length) : l.take (k + 1) = l.take k ++ [l[k]] := List.take_succ_eq_append_getElem h
theorem rv_take_snoc (l : List (Int × Int)) (k : Nat) (h : k < l.length) : rv (l.take (k + 1)) = rv (l.take k) ++ [.int .i64 (l[k]).1,.int .i64 (l[k]).2] := by
 rw [take_snoc l k h,rv_append]; rfl
def bnd (n k i : Nat) : Nat := i * (n / k) + min i (n % k)
def evenL (n k : Nat) : List (Int × Int) := (List.range k).map fun i => ((bnd n k i : Int),(bnd n k (i + 1) : Int))
theorem evenL_length (n k : Nat) : (evenL n k).length = k := by simp [evenL]
def cnt (n size : Nat) : Nat := if n = 0 \/ size = 0 then 0 else (n - 1) / size + 1
def blocksL (n size : Nat) : List (Int × Int) := (List.range (cnt n size)).map fun i => ((i * size : Nat),((i * size + min size (n - i * size) : Nat)))
theorem blocksL_length (n size : Nat) : (blocksL n size).length = cnt n size := by simp [blocksL]
theorem blocksL_get (n size i : Nat) (h : i < (blocksL n size).length) : (blocksL n size)[i] = (((i * size : Nat) : Int),((i * size + min size (n - i * size) : Nat) : Int)) := by simp [blocksL]
theorem cnt_pos (a b : Nat) (ha : 1 <= a) (hb : 1 <= b) : cnt a b = (a - 1) / b + 1 := by
 unfold cnt
 rw [if_neg (by omega)]
theorem cnt_le (a b : Nat) : cnt a b <= a := by
 unfold cnt
 split
 ·omega
 ·have := Nat.div_le_self (a - 1) b
  omega
theorem lt_cnt (a b i : Nat) (ha : 1 <= a) (hb : 1 <= b) : i < cnt a b ↔ i * b < a := by
 rw [cnt_pos a b ha hb,Nat.lt_succ_iff,Nat.le_div_iff_mul_le (by omega)]
 omega
def dealt (n k j : Nat) : Nat := n / k + if j < n % k then 1 else 0
theorem div_mod_step (n k : Nat) (hk : 1 <= k) : (n % k + 1 < k /\ (n + 1) / k = n / k /\ (n + 1) % k = n % k + 1) \/ (n % k + 1 = k /\ (n + 1) / k = n / k + 1 /\ (n + 1) % k = 0) := by
 have h1 := Nat.mod_lt n (show 0 < k by omega)
 have h2 := Nat.div_add_mod n k
 generalize hq : n / k = q at *
 generalize hr : n % k = r at *
 by_cases hc : r + 1 < k
 ·left
  have e : n + 1 = k * q + (r + 1) := by omega
  refine ⟨hc,?_,?_⟩
  ·rw [e,Nat.mul_add_div (by omega),Nat.div_eq_of_lt hc]; omega
  ·rw [e,Nat.mul_add_mod,Nat.mod_eq_of_lt hc]
 ·right
  have e : n + 1 = k * (q + 1) := by rw [Nat.mul_add]; omega
  refine ⟨by omega,?_,?_⟩
  ·rw [e,Nat.mul_div_cancel_left _ (by omega)]
  ·rw [e,Nat.mul_mod_right]
theorem bnd_succ (n k i : Nat) : bnd n k (i + 1) = bnd n k i + dealt n k i := by
 unfold bnd dealt
 rw [Nat.add_mul]
 split <;> omega
theorem bnd_zero (n k : Nat) : bnd n k 0 = 0 := by simp [bnd]
theorem bnd_k (n k : Nat) (hk : 1 <= k) : bnd n k k = n := by
 unfold bnd
 have h1 := Nat.mod_lt n (show 0 < k by omega)
 have h2 := Nat.div_add_mod n k
 omega
theorem bnd_mono (n k i j : Nat) (h : i <= j) : bnd n k i <= bnd n k j := by
 induction h with
 | refl => exact Nat.le_refl _
 | step _ ih => rw [bnd_succ]; omega
section
open Go.RowKit
theorem rd_at {w : World} {A : Option Addr} {n k : Nat} {l : List (Int × Int)} (hl : l.length = n) (h : Rd w 2 A n (rv l)) (hk : k < n) : ∃ b o x y,A = some ⟨b,o,none⟩ /\ b < w.heap.size /\ l[k]? = some (x,y) /\
  w.cell? ⟨b,o + k * 2,none⟩ = some (.int .i64 x) /\ w.cell? ⟨b,o + k * 2 + 1,none⟩ = some (.int .i64 y) := by
 obtain ⟨b,o,e,hb,hc⟩ := h.2 (by omega)
 have hk' : k < l.length := by omega
 obtain ⟨h1,h2⟩ := rv_get l k hk'
 exact ⟨b,o,l[k].1,l[k].2,e,hb,List.getElem?_eq_getElem hk',hc _ _ h1,by rw [Nat.add_assoc]; exact hc _ _ h2⟩
theorem slPart : Sl Tryz.prog 113 218 (.agg #[.int .i64 0,.int .i64 0]) 2 16 := ⟨Tryz.underlying113,by kernel_rfl,rfl,by omega⟩
def Coll (w : World) (e : TypeId) (l : List (Int × Int)) (k : Nat) (v : Value) (wr : World) : Prop :=
 (∃ A cap,v = .slice A k cap) /\ wr.ownsRow w.heap.size e 2 v k (rv (l.take k)) /\ Below w.heap.size w wr
theorem Coll.start (w : World) (e : TypeId) (l : List (Int × Int)) : Coll w e l 0 (.slice none 0 0) w := ⟨⟨_,_,rfl⟩,by simpa [rv_nil] using World.ownsRow_nil w w.heap.size e 2,Below.refl _ _⟩
theorem Coll.next {w wr w1 : World} {e : TypeId} {l : List (Int × Int)} {k : Nat} {v : Value} {A : Option Addr} {cap : Nat} {x y : Int} (h : Coll w e l k v wr) (hx : Hid (l[k]? = some (x,y)))
  (hown : w1.ownsRow w.heap.size e 2 (.slice A (k + 1) cap) (k + 1) (rv (l.take k) ++ [.int .i64 x,.int .i64 y])) (hb : Below w.heap.size wr w1) : Coll w e l (k + 1) (.slice A (k + 1) cap) w1 := by
 obtain ⟨hk,hx⟩ := List.getElem?_eq_some_iff.1 hx.out
 refine ⟨⟨_,_,rfl⟩,?_,h.2.2.trans hb⟩
 rw [rv_take_snoc l k hk,hx]
 exact hown
theorem Coll.done {w wr : World} {e : TypeId} {l : List (Int × Int)} {k n : Nat} {v : Value} (h : Coll w e l k v wr) (hl : Hid (l.length = n)) (hk : k <= n) (hlt : ¬ k < n) : OwnRet w e 2 n (rv l) (.returned v) wr := by
 obtain rfl : k = n := by omega
 obtain ⟨A,cap,rfl⟩ := h.1
 have hown := h.2.1
 rw [List.take_of_length_le (by have := hl.out; omega)] at hown
 exact ⟨A,cap,rfl,hown,h.2.2⟩
theorem two_cells (x y : Int) : ∀ u ∈ (#[Value.int .i64 x,Value.int .i64 y] : Array Value).toList,u.oneCell' = true := by
 intro u hu
 simp at hu
 rcases hu with rfl | rfl <;> rfl
theorem size_any (x y : Int) (w : World) (hx : -2000000000000 <= x) (hx' : x <= 2000000000000) (hy : -2000000000000 <= y) (hy' : y <= 2000000000000) :
  Calls Tryz.prog 230 #[.agg #[.int .i64 x,.int .i64 y]] w fun e w' => e = .returned (.int .i64 (max (y - x) 0)) /\ Below w.heap.size w w' := by
 go_enter Tryz.func230,Tryz.ntmps230
 go_wp2
 all_goals (go_ret; exact ⟨ret_int (by first | (show (0 : Int) = _; omega) | (show y - x = _; omega)),(Below.refl _ _).alloc (Nat.le_refl _) _⟩)
theorem cnt_zero (a b : Int) (h : a < 1 \/ b < 1) : (0 : Int) = (cnt a.toNat b.toNat : Nat) := by
 unfold cnt
 rw [if_pos (by omega)]
 rfl
theorem count_any (n s : Int) (w : World) (hn : -9223372036854775808 <= n) (hn2 : n <= 1000000000) (hs : s <= 9223372036854775807) :
  Calls Tryz.prog 81 #[.int .i64 n,.int .i64 s] w fun e w' => e = .returned (.int .i64 (cnt n.toNat s.toNat)) /\ w = w' := by
 by_cases h1 : n < 1
 ·go_enter Tryz.func81,Tryz.ntmps81
  go_wp2
  go_ret
  exact ⟨ret_int (cnt_zero _ _ (by omega)),rfl⟩
 ·by_cases h2 : s < 1
  ·go_enter Tryz.func81,Tryz.ntmps81
   go_wp2
   go_ret
   exact ⟨ret_int (cnt_zero _ _ (by omega)),rfl⟩
  ·have q1 : 0 <= (n - 1) / s := Int.ediv_nonneg (by omega) (by omega)
   have q2 : (n - 1) / s <= n - 1 := Int.ediv_le_self _ (by omega)
   go_enter Tryz.func81,Tryz.ntmps81
   go_wp2
   go_ret
   refine ⟨ret_int ?_,rfl⟩
   obtain ⟨a,rfl⟩ := Int.eq_ofNat_of_zero_le (show 0 <= n by omega)
   obtain ⟨b,rfl⟩ := Int.eq_ofNat_of_zero_le (show 0 <= s by omega)
   simp only [cnt,Int.toNat_natCast]
   rw [if_neg (by omega),show ((a : Int) - 1) = ((a - 1 : Nat) : Int) by omega]
   simp
theorem bound_val (i n k m : Nat) (hi : i <= 100000000) (hn : n <= 1000000000) (hk1 : 1 <= k) (hik : i <= k) (hm : m <= i) : wrap64 (wrap64 ((i : Int) * wrap64 ((n : Int) / (k : Int))) + (m : Int)) = ((i * (n / k) + m : Nat) : Int) := by
 have h1 : n / k <= n := Nat.div_le_self _ _
 have h2 : i * (n / k) <= n := Nat.le_trans (Nat.mul_le_mul_right _ hik) (Nat.mul_div_le n k)
 have e0 : wrap64 ((n : Int) / (k : Int)) = ((n / k : Nat) : Int) := by
  rw [show ((n : Int) / (k : Int)) = ((n / k : Nat) : Int) by simp]
  generalize n / k = q at *
  exact IntWalk.wrap64_in _ (by omega)
 have e1 : wrap64 ((i : Int) * ((n / k : Nat) : Int)) = ((i * (n / k) : Nat) : Int) := by
  rw [show (i : Int) * ((n / k : Nat) : Int) = ((i * (n / k) : Nat) : Int) by simp]
  generalize i * (n / k) = q at *
  exact IntWalk.wrap64_in _ (by omega)
 rw [e0,e1]
 generalize i * (n / k) = q at *
 rw [IntWalk.wrap64_in _ (by omega)]
 omega
theorem bnd_le (n k i : Nat) (hk : 1 <= k) (h : i <= k) : bnd n k i <= n := by
 unfold bnd
 have h1 : k * (n / k) + n % k = n := Nat.div_add_mod n k
 have h2 : i * (n / k) <= k * (n / k) := Nat.mul_le_mul_right _ h
 omega
theorem bound_any (i n k bn bk : Nat) (w : World) (hi : i <= 100000000) (hn : n <= 1000000000) (hk1 : 1 <= k) (hk : k <= 100000000) (hik : i <= k) (c1 : w.cell? ⟨bn,0,none⟩ = some (.int .i64 n)) (c2 : w.cell? ⟨bk,0,none⟩ = some (.int .i64 k)) :
  Calls Tryz.prog 222 #[.int .i64 i,.pointer (some ⟨bn,0,none⟩),.pointer (some ⟨bk,0,none⟩)] w fun e w' => e = .returned (.int .i64 (bnd n k i)) /\ ∃ nq,w' = w.drewN nq := by
 go_enter Tryz.func222,Tryz.ntmps222
 go_wp2_with fail
 go_quiet (fail)
 go_wp2
 all_goals go_ret
 ·have h' : n % k <= i := by
   have : ((n % k : Nat) : Int) = (n : Int) % (k : Int) := by simp
   omega
  refine ⟨ret_int ?_,_,rfl⟩
  show wrap64 (wrap64 ((i : Int) * wrap64 ((n : Int) / (k : Int))) + (n : Int) % (k : Int)) = _
  have e : (n : Int) % (k : Int) = ((n % k : Nat) : Int) := by simp
  rw [e,bound_val i n k (n % k) hi hn hk1 hik h']
  unfold bnd
  rw [Nat.min_eq_right h']
 ·have h' : i <= n % k := by
   have : ((n % k : Nat) : Int) = (n : Int) % (k : Int) := by simp
   omega
  refine ⟨ret_int ?_,_,rfl⟩
  show wrap64 (wrap64 ((i : Int) * wrap64 ((n : Int) / (k : Int))) + (i : Int)) = _
  rw [bound_val i n k i hi hn hk1 hik (Nat.le_refl _)]
  unfold bnd
  rw [Nat.min_eq_left h']
theorem even_at (n k i : Nat) (h : i < k) : (evenL n k)[i]? = some ((bnd n k i : Int),(bnd n k (i + 1) : Int)) := by
 simp [evenL,h]
theorem blocks_at (n s i : Nat) (h : i < cnt n s) : (blocksL n s)[i]? = some (((i * s : Nat) : Int),((i * s + min s (n - i * s) : Nat) : Int)) := by
 simp [blocksL,h]
theorem even_none (n k : Int) (w : World) (h : n < 0 \/ k < 1) :
  Calls Tryz.prog 171 #[.int .i64 n,.int .i64 k] w (OwnRet w 218 2 0 (rv [])) := by
 go_enter Tryz.func171,Tryz.ntmps171
 go_wp2
 all_goals (go_ret; exact ⟨none,0,rfl,World.ownsRow_nil _ _ _ _,((Below.refl _ _).alloc (Nat.le_refl _) _).alloc (by simp) _⟩)
theorem even_any (n k : Nat) (w : World) (hn : n <= 1000000000) (hk1 : 1 <= k) (hk : k <= 10000000) :
  Calls Tryz.prog 171 #[.int .i64 n,.int .i64 k] w (OwnRet w 218 2 k (rv (evenL n k))) := by
 have d1 : decide ((n : Int) < 0) = false := decide_eq_false (by omega)
 have d2 : decide ((k : Int) < 1) = false := decide_eq_false (by omega)
 go_enter Tryz.func171,Tryz.ntmps171
 go_wp2_with fail
 have hW0 : Below w.heap.size w ((w.alloc (.cells #[.int .i64 n] 3)).alloc (.cells #[.int .i64 k] 3)) := ((Below.refl _ _).alloc (Nat.le_refl _) _).alloc (by simp) _
 go_loopw [6,16] (fun v c wr => ∃ i : Nat,i <= k /\ c = .int .i64 i /\ Coll ((w.alloc (.cells #[.int .i64 n] 3)).alloc (.cells #[.int .i64 k] 3)) 218 (evenL n k) i v wr) (fun _ c _ => k - (intOf c).toNat)
 case atStart => exact ⟨0,by omega,rfl,Coll.start _ _ _⟩
 case round =>
  obtain ⟨i,hi,rfl,hcoll⟩ := hrel
  by_cases hlt : i < k
  ·have k0 := Kept.of hcoll.2.2
   have b1 : wr.cell? ⟨w.heap.size,0,none⟩ = some (.int .i64 n) := by rw [k0.1 _ _ (by simp; omega)]; simp
   have b2 : wr.cell? ⟨w.heap.size + 1,0,none⟩ = some (.int .i64 k) := by rw [k0.1 _ _ (by simp)]; simp
   have HX := hid (even_at n k i hlt)
   have hsz := k0.2.1
   clear k0
   go_wp2_with fail
   ((with_reducible refine (bound_any i n k _ _ _ (by omega) (by omega) (by omega) (by omega) (by omega) (by exact b1) (by exact b2)).mono ?_); rintro e w1 ⟨rfl,nq,rfl⟩)
   go_wp2_with fail
   rw [show ((i : Int) + 1) = ((i + 1 : Nat) : Int) by omega]
   ((with_reducible refine (bound_any (i + 1) n k _ _ _ (by omega) (by omega) (by omega) (by omega) (by omega) (cell_drewN b1 _) (cell_drewN b2 _)).mono ?_); rintro e w1 ⟨rfl,nq2,rfl⟩)
   go_wp2_with (at_builtin; go_must (refine wpList_push slPart rfl _ _ rfl ((w.alloc (.cells #[.int .i64 n] 3)).alloc (.cells #[.int .i64 k] 3)).heap.size _ i (rv ((evenL n k).take i)) rfl (by exact hcoll.2.1) #[.int .i64 (bnd n k i),.int .i64 (bnd n k (i + 1))] _ rfl (by simp) rfl (two_cells _ _) (by unfold maxLen; omega) (by omega) hsz ?_); intro A' cap' w1 hown1 hb1)
   go_roundw
   case rel => exact ⟨i + 1,by omega,by go_num,hcoll.next HX hown1 ((below_drewN (Below.refl _ _) _).trans hb1)⟩
   case measure => simp [intOf]; omega
  ·go_wp2
   go_ret
   exact (hcoll.done (hid (evenL_length n k)) hi hlt).lift hW0
theorem slInt : Sl Tryz.prog 22 3 (.int .i64 0) 1 8 := ⟨Tryz.underlying22,by kernel_rfl,rfl,by omega⟩
end
end Go.Proofs.YtkmaeipoaoikpaaGreat
