/- Mem, But, Later, Tail, Round. -/
import Derived.Laws.EntriesVeiled
import Derived.RangeFuncNested
import Derived.Shelf.Abstract
import Derived.OwnWalkIn
import Derived.TacticsInMore
import Derived.LoopNIn
import Derived.LoopIn
import Derived.StillTail
import Derived.Test.YtkmaeipoaoikpaaGreatEB01
namespace Go.Proofs.YtkmaeipoaoikpaaGreat
set_option linter.all false
set_option maxRecDepth 100000
set_option maxHeartbeats 2000000
open Lib (hid)
section
open Go.RowKit
def Blk (w : World) (g : Nat) (t : TypeId) (cs : Array Value) : Prop := w.heap[g]? = some (.cells cs t (0,0))
theorem Rd.lt {w : World} {size : Nat} {A : Option Addr} {n : Nat} {xs : List Value} (h : Rd w size A n xs) : ∀ b o,A = some ⟨b,o,none⟩ -> 0 < n -> b < w.heap.size := by
 intro b o e hn
 obtain ⟨b',o',e',hlt,_⟩ := h.2 hn
 rw [e] at e'
 injection e' with e'
 injection e' with e1
 subst e1
 exact hlt
end
section
open Go.RowKit
variable {w w' : World} {g : Nat} {t : TypeId} {cs : Array Value}
theorem Blk.lt (h : Blk w g t cs) : g < w.heap.size := by
 rcases Nat.lt_or_ge g w.heap.size with hlt | hge
 ·exact hlt
 ·unfold Blk at h; rw [Array.getElem?_eq_none hge] at h; cases h
theorem Blk.cell (h : Blk w g t cs) (i : Nat) : w.cell? ⟨g,i,none⟩ = cs[i]? := cell_of_row w g i cs t (0,0) h
theorem Blk.frozen (h : Blk w g t cs) (i : Nat) : w.frozen? ⟨g,i,none⟩ = false := by
 unfold Blk at h
 simp [World.frozen?,h]
theorem Blk.alloc (h : Blk w g t cs) (o : Obj) : Blk (w.alloc o) g t cs := (Below.heap_alloc w o g h.lt).trans h
theorem Blk.new (w : World) (t : TypeId) (cs : Array Value) : Blk (w.alloc (.cells cs t)) w.heap.size t cs := heap_alloc_new w _
theorem Blk.new' {w : World} {g : Nat} (t : TypeId) (cs : Array Value) (h : w.heap.size = g) : Blk (w.alloc (.cells cs t)) g t cs := by subst h; exact Blk.new w t cs
theorem Blk.drew (h : Blk w g t cs) : Blk w.drew g t cs := h
theorem Blk.drewN (h : Blk w g t cs) (n : Nat) : Blk (w.drewN n) g t cs := h
theorem Blk.set_ (h : Blk w g t cs) (i : Nat) (u : Value) : Blk (w.setCell ⟨g,i,none⟩ u) g t (cs.setIfInBounds i u) := by
 unfold Blk at h ⊢
 simp [World.setCell,Array.getElem?_modify,h]
theorem Blk.far (h : Blk w g t cs) {p : Addr} (hp : g ≠ p.block) (u : Value) : Blk (w.setCell p u) g t cs := (Below.heap_setCell w p u g hp).trans h
theorem Blk.below {B : Nat} (h : Blk w g t cs) (hb : Below B w w') (hg : g < B) : Blk w' g t cs := (hb.block g hg).trans h
theorem Blk.kept (h : Blk w g t cs) (hb : Below w.heap.size w w') : Blk w' g t cs := h.below hb h.lt
end
section
open Go.RowKit
variable {a w w' : World} {row : Option Nat} {g : Nat}
theorem gr_cell (h : w.grownBy w' (some g)) {b o : Nat} (hb : b < w.heap.size) (hne : b ≠ g) : w'.cell? ⟨b,o,none⟩ = w.cell? ⟨b,o,none⟩ :=
 World.cell?_of_block (h.block b hb (by simpa using hne))
end
section
open Go.RowKit
theorem Rd.grown {w w' : World} {size : Nat} {A : Option Addr} {n g : Nat} {xs : List Value} (h : Rd w size A n xs) (hg : w.grownBy w' (some g)) (ha : ∀ b o,A = some ⟨b,o,none⟩ -> 0 < n -> b ≠ g) : Rd w' size A n xs := by
 refine ⟨h.1,fun hn => ?_⟩
 obtain ⟨b,o,e,hlt,hc⟩ := h.2 hn
 refine ⟨b,o,e,Nat.lt_of_lt_of_le hlt hg.size,fun j u hu => ?_⟩
 rw [gr_cell hg hlt (ha b o e hn)]
 exact hc j u hu
end
section
open Go.RowKit
variable {w w' : World} {g : Nat} {t : TypeId} {cs : Array Value}
theorem Blk.grown {row : Option Nat} (h : Blk w g t cs) (hb : w.grownBy w' row) (hg : some g ≠ row) : Blk w' g t cs := (hb.block g h.lt hg).trans h
theorem Blk.ne_ {g' : Nat} {t' : TypeId} {cs' : Array Value} (h : Blk w g t cs) (h' : Blk w g' t' cs') (hne : t ≠ t') : g ≠ g' := by
 rintro rfl
 unfold Blk at h h'
 rw [h] at h'
 injection h' with h'
 injection h' with _ ht
 exact hne ht
end
section
open Go.RowKit
variable {a w w' : World} {row : Option Nat} {g : Nat}
theorem gr_drewN (h : a.grownBy w row) (n : Nat) : a.grownBy (w.drewN n) row := ⟨h.os,h.tape,h.output,h.size,h.block⟩
theorem gr_drew (h : a.grownBy w row) : a.grownBy w.drew row := ⟨h.os,h.tape,h.output,h.size,h.block⟩
theorem gr_alloc (h : a.grownBy w row) (o : Obj) : a.grownBy (w.alloc o) row :=
 ⟨h.os,h.tape,h.output,Nat.le_trans h.size (by simp),fun i hi hne => (Below.heap_alloc w o i (Nat.lt_of_lt_of_le hi h.size)).trans (h.block i hi hne)⟩
theorem gr_set (h : a.grownBy w (some g)) {p : Addr} (hp : p.block = g \/ a.heap.size <= p.block) (u : Value) : a.grownBy (w.setCell p u) (some g) :=
 ⟨h.os,h.tape,h.output,by simpa [World.setCell] using h.size,fun i hi hne => (Below.heap_setCell w p u i (by
  rintro rfl
  rcases hp with hp | hp
  ·exact hne (by rw [hp])
  ·omega)).trans (h.block i hi hne)⟩
theorem gr_of_below (h : Below a.heap.size a w) (row : Option Nat) : a.grownBy w row := ⟨h.os,h.tape,h.output,h.size,fun i hi _ => h.block i hi⟩
theorem gr_below (h : a.grownBy w row) (hb : Below a.heap.size w w') : a.grownBy w' row :=
 ⟨hb.os.trans h.os,hb.tape.trans h.tape,hb.output.trans h.output,Nat.le_trans h.size hb.size,fun i hi hne => (hb.block i hi).trans (h.block i hi hne)⟩
theorem gr_call (h : a.grownBy w row) (hb : Below w.heap.size w w') : a.grownBy w' row := gr_below h (hb.mono h.size)
theorem gr_below_first (hb : Below a.heap.size a w) (h : w.grownBy w' row) : a.grownBy w' row :=
 ⟨h.os.trans hb.os,h.tape.trans hb.tape,h.output.trans hb.output,Nat.le_trans hb.size h.size,fun i hi hne => (h.block i (Nat.lt_of_lt_of_le hi hb.size) hne).trans (hb.block i hi)⟩
theorem below_gr {B : Nat} (hb : Below B a w) (hB : B <= w.heap.size) (h : w.grownBy w' (some g)) (hg : B <= g) : Below B a w' := hb.grown h hB (fun k e => by cases e; exact hg)
end
section
open Go.RowKit
theorem store2' {w : World} {v : Nat} {t : TypeId} {x y : Value} (h : Blk w v t #[x,y]) (a b : Value) :
  w.grownBy ((w.setCell ⟨v,0,none⟩ a).setCell ⟨v,1,none⟩ b) (some v) /\ Blk ((w.setCell ⟨v,0,none⟩ a).setCell ⟨v,1,none⟩ b) v t #[a,b] :=
 ⟨gr_set (p := ⟨v,1,none⟩) (gr_set (p := ⟨v,0,none⟩) (World.grownBy.refl w _) (.inl rfl) a) (.inl rfl) b,by simpa using (h.set_ 0 a).set_ 1 b⟩
theorem own_rd_block {w : World} {base : Nat} {e : TypeId} {size n c : Nat} {A : Option Addr} {xs : List Value} (h : w.ownsRow base e size (.slice A n c) n xs) : ∀ b o,A = some ⟨b,o,none⟩ -> base <= b /\ b < w.heap.size := by
 intro b o ha
 subst ha
 rcases h.2 with ⟨hv,_⟩ | ⟨g,cap,cur,hv,hb,_⟩
 ·cases hv
 ·injection hv with hv
  injection hv with hv
  injection hv with h1 h2
  subst h1
  subst h2
  exact h.lt b rfl
theorem own_blk_ne {w : World} {g : Nat} {t : TypeId} {cs : Array Value} {base : Nat} {e : TypeId} {size n : Nat} {v : Value} {xs : List Value} (h : w.ownsRow base e size v n xs) (hg : Blk w g t cs) (hne : e ≠ t) : v.ownBlock ≠ some g := by
 rcases h.2 with ⟨rfl,_⟩ | ⟨g',cap,cur,rfl,_,hh,_⟩
 ·simp [Value.ownBlock]
 ·intro he
  have : g' = g := by simpa [Value.ownBlock] using he
  subst this
  exact Blk.ne_ (t := e) hh hg hne rfl
theorem Blk.other {w w' : World} {g : Nat} {t : TypeId} {cs : Array Value} {base : Nat} {e : TypeId} {size n : Nat} {v : Value} {xs : List Value} (h : Blk w g t cs) (hown : w.ownsRow base e size v n xs) (hg : w.grownBy w' v.ownBlock) (hne : e ≠ t) : Blk w' g t cs :=
 h.grown hg (fun e' => own_blk_ne hown h hne e'.symm)
theorem wpList_pushG {P : Program} {w : World} {ops : Array Oper} {rest : List Oper} {o : Oper} {a : Act} {Q : Exit -> Act -> World -> Prop} {t e : TypeId} {z : Value} {size bytes : Nat}
  (sl : Sl P t e z size bytes) (hgd : o.guard = none) (s x : Operand) (ho : o.op = .call { callee := .builtin .append,args := #[s,x],argTypes := #[t,t] })
  (base : Nat) (v : Value) (n : Nat) (xs : List Value) (hs : a.eval s = v) (hown : w.ownsRow base e size v n xs)
  (news : Array Value) (g : Nat) (hx : a.eval x = .slice (some ⟨g,0,none⟩) 1 1) (hg : g = w.heap.size) (hl : news.size = size) (h1 : ∀ u ∈ news.toList,u.oneCell' = true)
  (h63 : n + 1 <= maxLen) (hbytes : (n + 1) * bytes <= 140737488355328) (hbase : base <= w.heap.size)
  (h : ∀ A' cap' w',w'.ownsRow base e size (.slice A' (n + 1) cap') (n + 1) (xs ++ news.toList) -> Below base w w' -> w.grownBy w' v.ownBlock -> wpList P ops Q rest (a.put o.dst (.slice A' (n + 1) cap')) w') :
  wpList P ops Q (o :: rest) a (w.alloc (.cells news e)) := by
 subst hg
 obtain ⟨i,hi,hz0,hz1,hz2⟩ := info_parts sl.info
 refine wpList_append_own _ hgd s x t ho base e i z size bytes sl.slice hi hz0 hz1 hz2 sl.cells sl.pos v n xs hs (hown.alloc _) ⟨w.heap.size,0,none⟩ 1 1 news.toList hx (by simpa using hl) (cells_new w news e) h1 h63 hbytes (by simp; omega) ?_
 intro v' w' h2 h3 _
 obtain ⟨A,cap,rfl,_⟩ := own_form h2
 exact h A cap w' h2 (((Below.refl _ _).alloc hbase _).grown h3 (by simp; omega) fun k hk => (hown.lt k hk).1) (gr_below_first ((Below.refl _ _).alloc (Nat.le_refl _) _) h3)
theorem quiet_left {P : Program} {f : FuncId} {args : Array Value} {w : World} {n : Nat} {v : Value}
  (h : Calls P f args (w.drewN n) fun e w' => e = .returned v /\ w.drewN n = w') : Calls P f args (w.drewN n) fun e w'' => e = .returned v /\ ∃ m,w'' = w.drewN m :=
 h.mono fun _ _ ⟨he,hm⟩ => ⟨he,n,hm.symm⟩
structure But (S : Nat -> Prop) (w w' : World) : Prop where
 os : w'.os = w.os
 tape : w'.tape = w.tape
 output : w'.output = w.output
 size : w.heap.size <= w'.heap.size
 block : ∀ i,i < w.heap.size -> ¬ S i -> w'.heap[i]? = w.heap[i]?
end
section
open Go.RowKit
variable {S T : Nat → Prop} {a b c w w' : World} {g B : Nat}
theorem But.refl (S : Nat -> Prop) (w : World) : But S w w := ⟨rfl,rfl,rfl,Nat.le_refl _,fun _ _ _ => rfl⟩
theorem But.trans (h : But S a b) (k : But S b c) : But S a c :=
 ⟨k.os.trans h.os,k.tape.trans h.tape,k.output.trans h.output,Nat.le_trans h.size k.size,fun i hi hS => (k.block i (Nat.lt_of_lt_of_le hi h.size) hS).trans (h.block i hi hS)⟩
theorem But.of_below (S : Nat -> Prop) (h : Below a.heap.size a b) : But S a b := ⟨h.os,h.tape,h.output,h.size,fun i hi _ => h.block i hi⟩
theorem But.of_gr (h : a.grownBy b (some g)) (hS : S g) : But S a b := ⟨h.os,h.tape,h.output,h.size,fun i hi hn => h.block i hi (fun e => hn (by injection e with e; rw [e]; exact hS))⟩
theorem But.of_own {v : Value} (h : a.grownBy b v.ownBlock) (hS : ∀ g,v.ownBlock = some g -> S g) : But S a b := ⟨h.os,h.tape,h.output,h.size,fun i hi hn => h.block i hi (fun e => hn (hS i e.symm))⟩
theorem But.call (h : But S a b) (hb : Below b.heap.size b c) : But S a c := h.trans (.of_below S hb)
theorem But.mono (h : But S a b) (hT : ∀ i,i < a.heap.size -> S i -> T i) : But T a b := ⟨h.os,h.tape,h.output,h.size,fun i hi hn => h.block i hi (fun hs => hn (hT i hi hs))⟩
theorem But.below (h : But S a b) (hB : B <= a.heap.size) (hS : ∀ i,S i -> B <= i) : Below B a b := ⟨h.os,h.tape,h.output,h.size,fun i hi => h.block i (by omega) (fun hs => by have := hS i hs; omega)⟩
theorem Rd.but {size n : Nat} {A : Option Addr} {xs : List Value} (h : Rd w size A n xs) (hb : But S w w') (ha : ∀ b o,A = some ⟨b,o,none⟩ -> 0 < n -> ¬ S b) : Rd w' size A n xs := by
 refine ⟨h.1,fun hn => ?_⟩
 obtain ⟨b,o,e,hlt,hc⟩ := h.2 hn
 refine ⟨b,o,e,Nat.lt_of_lt_of_le hlt hb.size,fun j u hu => ?_⟩
 rw [World.cell?_of_block (a := ⟨b,o + j,none⟩) (hb.block b hlt (ha b o e hn))]
 exact hc j u hu
theorem Blk.but {t : TypeId} {cs : Array Value} (h : Blk w g t cs) (hb : But S w w') (hg : ¬ S g) : Blk w' g t cs := (hb.block g h.lt hg).trans h
theorem own_but {base : Nat} {e : TypeId} {size n : Nat} {v : Value} {xs : List Value} (h : w.ownsRow base e size v n xs) (hb : But S w w') (hv : ∀ g,v.ownBlock = some g -> ¬ S g) : w'.ownsRow base e size v n xs := by
 refine ⟨h.1,?_⟩
 have hlt := h.lt
 rcases h.2 with h2 | ⟨g,cap,cur,rfl,hbg,hh,r⟩
 ·exact .inl h2
 ·exact .inr ⟨g,cap,cur,rfl,hbg,(hb.block g (hlt g rfl).2 (hv g rfl)).trans hh,r⟩
end
section
open Go.RowKit Go.Shelf
attribute [local go_sem] Oper.semAt_some
def shiftL (l : List (Int × Int)) (b : Int) : List (Int × Int) := l.map fun r => (r.1 + b,r.2 + b)
theorem shiftL_length (l : List (Int × Int)) (b : Int) : (shiftL l b).length = l.length := by simp [shiftL]
theorem shiftL_get (l : List (Int × Int)) (b : Int) (k : Nat) (x y : Int) (h : l[k]? = some (x,y)) : (shiftL l b)[k]? = some (x + b,y + b) := by simp [shiftL,h]
def SmallR (l : List (Int × Int)) : Prop := ∀ r ∈ l,(0 <= r.1 /\ r.1 <= 1000000000) /\ 0 <= r.2 /\ r.2 <= 1000000000
theorem SmallR.at {l : List (Int × Int)} (h : SmallR l) {k : Nat} {x y : Int} (hx : l[k]? = some (x,y)) : (0 <= x /\ x <= 1000000000) /\ 0 <= y /\ y <= 1000000000 := h (x,y) (List.mem_of_getElem? hx)
theorem Blk.turn {X Y : World} {row : Option Nat} {B g : Nat} {t : TypeId} {cs : Array Value} (h : Blk X g t cs) (hg : X.grownBy Y row) (hr : ∀ r,row = some r -> B <= r /\ ∃ o : Obj,X.heap[r]? = some o /\ o.isCells = false) : Blk Y g t cs :=
 h.grown hg (fun e => by
  obtain ⟨_,o,ho,hc⟩ := hr g e.symm
  unfold Blk at h
  rw [h] at ho
  cases ho
  cases hc)
theorem But.below' {S : Nat -> Prop} {B : Nat} {a b : World} (h : Below B a b) (hS : ∀ i,¬ S i -> i < B) : But S a b := ⟨h.os,h.tape,h.output,h.size,fun i _ hn => h.block i (hS i hn)⟩
theorem butK_b {S : Nat -> Prop} {w : World} (hS : ∀ i,w.heap.size <= i -> S i) (W : World) (l : Nat) (o o' : Obj) (hl : w.heap.size <= l) (h : W.heap[l]? = some o) (_ : o.isCells = false) (_ : o.isWalk = false) : But S W (W.putObj l o') :=
 But.of_gr (grownBy_putObj' W l o') (hS l hl)
theorem But.cell {S : Nat -> Prop} {a b : World} (h : But S a b) {g o : Nat} (hg : g < a.heap.size) (hn : ¬ S g) : b.cell? ⟨g,o,none⟩ = a.cell? ⟨g,o,none⟩ := World.cell?_of_block (a := ⟨g,o,none⟩) (h.block g hg hn)
def encR (r : Int × Int) : Array Value := #[.agg #[.int .i64 r.1,.int .i64 r.2]]
theorem shift_in (F : Fence) (n : Nat) (hf : F.fn 263) (hro : F.round = none) (Bb : Nat) (x y b : Int) (W : World) (hb : W.cell? ⟨Bb,0,none⟩ = some (.int .i64 b)) (hBb : Bb < W.heap.size) (hx : 0 <= x /\ x <= 1000000000) (hy : 0 <= y /\ y <= 1000000000) (hb0 : 0 <= b /\ b <= 1000000000) :
  CallsIn F n Tryz.prog 263 #[.agg #[.int .i64 x,.int .i64 y],.pointer (some ⟨Bb,0,none⟩)] W fun e w' => e = .returned (.agg #[.int .i64 (x + b),.int .i64 (y + b)]) /\ Below W.heap.size W w' := by
 obtain ⟨hx0,hx1⟩ := hx
 obtain ⟨hy0,hy1⟩ := hy
 obtain ⟨hb0,hb1⟩ := hb0
 refine callsIn_of_wp Tryz.func263 rfl hf ?_ hro
 simp only [Tryz.ntmps263,List.size_toArray,List.length_cons,List.length_nil,Nat.reduceAdd,Nat.reduceSub,Array.replicate_succ,Array.replicate_zero,List.push_toArray,List.append_toArray,List.nil_append,List.cons_append]
 gi_wp2
 refine bodyPost_ret (v := .agg #[.int .i64 (x + b),.int .i64 (y + b)]) (by simp [results,Tryz.results263,go_sem]) rfl ⟨rfl,?_⟩
 first
  | exact ((((Below.refl _ _).alloc (Nat.le_refl _) _).alloc (by simp) _).setCell (by simp) _).setCell (by simp) _
  | exact ((Below.refl _ _).alloc (Nat.le_refl _) _).alloc (by simp) _
theorem later2_in {β : Type} (f : β -> Int × Int) (ls : List β) (F : Fence) (n : Nat) (hf : F.fn 264) (hf1 : F.fn 263) (hro : F.round = none) (hn : 1 <= n) (ly Bl Bf Bb len cap : Nat) (A : Option Addr) (rs : List (Int × Int)) (b : Int) (hreach : len <= 10000000) (hrl : rs.length = len) (hsm : SmallR rs) (hb : 0 <= b /\ b <= 1000000000)
  (hls : ls.map f = shiftL rs b) (S : Nat -> Prop) (hBf : ¬ S Bf) (hBb : ¬ S Bb) (W : World) (hBf0 : Bf < W.heap.size) (hBb0 : Bb < W.heap.size) (J Jx : List β -> World -> Prop)
  (hY : ∀ pre x W,J pre W -> pre.length < len -> YieldAt F (n - 1) Tryz.prog ly (encR (f x)) W fun e W' =>
   (e = .returned (.bool true) /\ J (pre ++ [x]) W' /\ But S W W') \/ (e = .returned (.bool false) /\ Jx (pre ++ [x]) W'))
  (hJ : AbidesFrom W.heap.size J) (hBl : W.cell? ⟨Bl,0,none⟩ = some (.slice A len cap)) (hcf : W.cell? ⟨Bf,0,none⟩ = some (.func (.func 263) #[] #[.pointer (some ⟨Bb,0,none⟩)])) (hcb : W.cell? ⟨Bb,0,none⟩ = some (.int .i64 b))
  (hc : 0 < len -> ∃ g off,A = some ⟨g,off,none⟩ /\ (g < W.heap.size /\ ¬ S g) /\ ∀ j u,(rv rs)[j]? = some u -> W.cell? ⟨g,off + j,none⟩ = some u) (h0 : J [] W) :
  CallsIn F n Tryz.prog 264 #[.func (.yield ly) #[] #[],.pointer (some ⟨Bl,0,none⟩),.pointer (some ⟨Bf,0,none⟩)] W fun e W' => (∃ v,e = .returned v) /\
   ((∃ ys,ys = ls /\ J ys W') \/ (∃ pre,pre <+: ls /\ Jx pre W')) := by
 have hyl : ls.length = len := by have := congrArg List.length hls; rw [List.length_map,shiftL_length,hrl] at this; exact this
 have HLS := hid hls
 have HYL := hid hyl
 have HRL := hid hrl
 have HB := hid hb
 clear hyl hrl hb hls
 refine callsIn_of_wp Tryz.func264 rfl hf ?_ hro
 simp only [Tryz.ntmps264,List.size_toArray,List.length_cons,List.length_nil,Nat.reduceAdd,Nat.reduceSub,Array.replicate_succ,Array.replicate_zero,List.push_toArray,List.append_toArray,List.nil_append,List.cons_append]
 gi_wp2_with fail
 gi_loopw [8] (fun i wr => ∃ k : Nat,k <= len /\ i = .int .i64 k /\ J (ls.take k) wr /\ But S W wr)
  (fun i _ => len - (intOf i).toNat)
 case atStart => exact ⟨0,Nat.zero_le _,rfl,by simpa using h0,But.refl _ _⟩
 case round =>
  obtain ⟨k,hk,rfl,hJs,hnx⟩ := hrel
  by_cases hlt : k < len
  ·obtain ⟨g,off,rfl,hg,hcc⟩ := hc (by omega)
   have hkl : k < rs.length := by rw [HRL.out]; omega
   obtain ⟨x,y,hxy⟩ : ∃ x y,rs[k]? = some (x,y) := ⟨_,_,List.getElem?_eq_getElem hkl⟩
   obtain ⟨s1,s2⟩ := hsm.at hxy
   have gx := rv_get rs k hkl
   rw [List.getElem?_eq_getElem hkl] at hxy
   injection hxy with hxy
   rw [hxy] at gx
   have c1 : wr.cell? ⟨g,off + k * 2,none⟩ = some (.int .i64 x) := (hnx.cell hg.1 hg.2).trans (hcc _ _ gx.1)
   have c2 : wr.cell? ⟨g,off + k * 2 + 1,none⟩ = some (.int .i64 y) := (hnx.cell hg.1 hg.2).trans (by rw [Nat.add_assoc]; exact hcc _ _ gx.2)
   have cf : wr.cell? ⟨Bf,0,none⟩ = some (.func (.func 263) #[] #[.pointer (some ⟨Bb,0,none⟩)]) := (hnx.cell hBf0 hBf).trans hcf
   have cb : wr.cell? ⟨Bb,0,none⟩ = some (.int .i64 b) := (hnx.cell hBb0 hBb).trans hcb
   have hws : W.heap.size <= wr.heap.size := hnx.size
   have hg0 := hg.1
   obtain ⟨z,hz⟩ : ∃ z,ls[k]? = some z := ⟨_,List.getElem?_eq_getElem (by rw [HYL.out]; exact hlt)⟩
   have hsn : Hid (ls.take (k + 1) = ls.take k ++ [z]) := hid (by
    obtain ⟨h1,h2⟩ := List.getElem?_eq_some_iff.1 hz
    rw [List.take_succ_eq_append_getElem h1,h2])
   have hfz : f z = (x + b,y + b) := by
    have h1 := congrArg (fun l => l[k]?) HLS.out
    simp only [List.getElem?_map,hz,Option.map_some] at h1
    rw [shiftL_get rs b k x y (by rw [List.getElem?_eq_getElem hkl,hxy])] at h1
    injection h1
   have HJS := hid hJs
   have HN := hid hnx
   have cb2 : (wr.alloc (.cells #[.int .i64 x,.int .i64 y] 218)).cell? ⟨Bb,0,none⟩ = some (.int .i64 b) := (((Below.refl wr.heap.size wr).alloc (Nat.le_refl _) _).cell (p := ⟨Bb,0,none⟩) (show Bb < wr.heap.size by omega)).trans cb
   have HS := hid (shift_in F (n - 1) hf1 hro Bb x y b (wr.alloc (.cells #[.int .i64 x,.int .i64 y] 218)) cb2 (by simp; omega) s1 s2 HB.out)
   have hBf' : Bf < wr.heap.size := by omega
   have hg' : g < wr.heap.size := by omega
   clear hJs hnx hcc gx hxy hkl s1 s2 cb2 cb
   gi_wp2_with fail
   refine HS.out.mono ?_
   rintro e w1 ⟨rfl,hb1⟩
   have hb2 : Below wr.heap.size wr w1 := ((Below.refl _ _).alloc (Nat.le_refl _) _).trans (hb1.mono (by simp))
   obtain ⟨fn,tmps,assign,body,hy,hR⟩ := hY _ z w1 (hJ _ _ _ none HJS.out (gr_of_below hb2 none) (fun r e => by cases e)) (by rw [List.length_take,HYL.out]; omega)
   have HR := hid hR
   have HN2 := hid (HN.out.call hb2)
   clear hb1 hb2 c1 c2 cf HS hR HJS HN
   rw [hfz] at hy
   dsimp only [encR] at hy
   clear hfz hz
   gi_wp2_with fail
   refine HR.out.mono ?_
   rintro e W3 (⟨rfl,hJ3,hk3⟩ | ⟨rfl,hJx3⟩)
   ·gi_wp2
    go_roundw
    case rel => exact ⟨k + 1,by omega,by simp,by rw [hsn.out]; exact hJ3,HN2.out.trans hk3⟩
    case measure => simp [intOf]; omega
   ·gi_wp2
    refine bodyPost_ret (results_none rfl _ _ _) rfl ?_
    exact ⟨⟨_,rfl⟩,.inr ⟨_,by rw [<- hsn.out]; exact List.take_prefix _ _,hJx3⟩⟩
  ·obtain rfl : k = len := by omega
   rw [List.take_of_length_le (by rw [HYL.out]; omega)] at hJs
   gi_wp2
   go_end0
   exact ⟨⟨_,rfl⟩,.inl ⟨_,rfl,hJs⟩⟩
def LaterRet (w : World) (A : Option Addr) (n c : Nat) (b : Int) (e : Ending) (w' : World) : Prop :=
 e = .returned (.func (.func 264) #[] #[.pointer (some ⟨w.heap.size,0,none⟩),.pointer (some ⟨w.heap.size + 1 + 1,0,none⟩)]) /\ w'.cell? ⟨w.heap.size,0,none⟩ = some (.slice A n c) /\ w'.cell? ⟨w.heap.size + 1,0,none⟩ = some (.int .i64 b) /\
  w'.cell? ⟨w.heap.size + 1 + 1,0,none⟩ = some (.func (.func 263) #[] #[.pointer (some ⟨w.heap.size + 1,0,none⟩)]) /\ w.heap.size + 3 <= w'.heap.size /\ Below w.heap.size w w'
theorem later_in (F : Fence) (nF : Nat) (hf : F.fn 229) (hro : F.round = none) (A : Option Addr) (n c : Nat) (b : Int) (w : World) :
  CallsIn F nF Tryz.prog 229 #[.slice A n c,.int .i64 b] w (LaterRet w A n c b) := by
 refine callsIn_of_wp Tryz.func229 rfl hf ?_ hro
 simp only [Tryz.ntmps229,List.size_toArray,List.length_cons,List.length_nil,Nat.reduceAdd,Nat.reduceSub,Array.replicate_succ,Array.replicate_zero,List.push_toArray,List.append_toArray,List.nil_append,List.cons_append]
 gi_wp2
 go_ret
 refine ⟨rfl,?_,?_,?_,?_,?_⟩
 ·go_simp
 ·go_simp
 ·go_simp
 ·simp
 ·exact (((Below.refl _ _).alloc (Nat.le_refl _) _).alloc (by simp) _).alloc (by simp <;> omega) _
theorem later_stops {β : Type} (f : β -> Int × Int) (ls : List β) (F : Fence) (n : Nat) (hf : F.fn 264) (hf1 : F.fn 263) (hro : F.round = none) (hn : 1 <= n) (Bl Bf Bb len cap : Nat) (A : Option Addr) (rs : List (Int × Int)) (b : Int) (hreach : len <= 10000000) (hrl : rs.length = len) (hsm : SmallR rs) (hb : 0 <= b /\ b <= 1000000000)
  (hls : ls.map f = shiftL rs b) (S : Nat -> Prop) (w : World) (hBl : Bl < w.heap.size) (hBf : Bf < w.heap.size /\ ¬ S Bf) (hBb : Bb < w.heap.size /\ ¬ S Bb) (hl : w.cell? ⟨Bl,0,none⟩ = some (.slice A len cap)) (hcf : w.cell? ⟨Bf,0,none⟩ = some (.func (.func 263) #[] #[.pointer (some ⟨Bb,0,none⟩)])) (hcb : w.cell? ⟨Bb,0,none⟩ = some (.int .i64 b))
  (hc : 0 < len -> ∃ g off,A = some ⟨g,off,none⟩ /\ (g < w.heap.size /\ ¬ S g) /\ ∀ j u,(rv rs)[j]? = some u -> w.cell? ⟨g,off + j,none⟩ = some u) :
  SeqStopsK F n Tryz.prog 264 #[.pointer (some ⟨Bl,0,none⟩),.pointer (some ⟨Bf,0,none⟩)] (fun x => encR (f x)) (But S) (fun ys => ys = ls) (fun pre => pre <+: ls) len w := fun l J Jx W hW hJ _ hY h0 =>
 later2_in f ls F n hf hf1 hro hn l Bl Bf Bb len cap A rs b hreach hrl hsm hb hls S hBf.2 hBb.2 W (Nat.lt_of_lt_of_le hBf.1 hW.size) (Nat.lt_of_lt_of_le hBb.1 hW.size) J Jx hY hJ ((hW.cell (p := ⟨Bl,0,none⟩) hBl).trans hl) ((hW.cell (p := ⟨Bf,0,none⟩) hBf.1).trans hcf) ((hW.cell (p := ⟨Bb,0,none⟩) hBb.1).trans hcb)
  (fun h => by
   obtain ⟨g,off,e,hg,hcc⟩ := hc h
   exact ⟨g,off,e,⟨Nat.lt_of_lt_of_le hg.1 hW.size,hg.2⟩,fun j u hu => (hW.cell (p := ⟨g,off + j,none⟩) hg.1).trans (hcc j u hu)⟩) h0
end
section
open Go.RowKit
variable {P : Program} {ops : Array Oper} {md : Region.Mode} {C : World → Prop} {Q : Exit → Act → World → Prop}
def PureW (P : Program) (ops : Array Oper) (next : Act -> Prop) : List Nat -> Act -> Prop
 | [],a => next a
 | e :: es,a => ∃ o v,ops[e]? = some o /\ Yields P ops o v a /\ PureW P ops next es (a.put o.dst v)
def pureB (md : Region.Mode) (ops : Array Oper) : List Nat -> Array Bool -> Bool
 | [],_ => true
 | e :: es,listed => (Region.ready md ops listed).contains e && Region.free md ops listed e && pureB md ops es (listed.setIfInBounds e true)
def listAll (listed : Array Bool) (es : List Nat) : Array Bool := es.foldl (fun l e => l.setIfInBounds e true) listed
theorem pure_any (hs : Region.noSelect ops = true) {fuel : Nat} {w : World} {next : Act -> Prop} (es : List Nat) : ∀ (listed : Array Bool) (a : Act),pureB md ops es listed = true ->
  (∀ a',next a' -> wpAny P md ops (NoPanic Q) fuel (listAll listed es) a' w) -> PureW P ops next es a -> wpAny P md ops (NoPanic Q) (es.length + fuel) listed a w := by
 induction es with
 | nil => intro listed a _ hn h; rw [List.length_nil,Nat.zero_add]; exact hn a h
 | cons e es ih =>
  intro listed a hB hn h
  simp only [pureB,Bool.and_eq_true] at hB
  obtain ⟨o,v,ho,hy,h⟩ := h
  rw [List.length_cons,show es.length + 1 + fuel = (es.length + fuel) + 1 by omega]
  exact wpAny_take ho hs hB.1.2 hB.1.1 (fun _ _ _ h => h) hy (ih _ _ hB.2 hn h)
def HeadQ (P : Program) (md : Region.Mode) (ops : Array Oper) (C : World -> Prop) (H : List Nat) (L : Array Bool -> Act -> Prop) : Nat -> Array Bool -> Act -> Prop
 | 0,listed,a => L listed a
 | f + 1,listed,a => Region.ready md ops listed ≠ [] /\ ∀ i ∈ Region.ready md ops listed,i ∈ H /\ qOp P ops C i (HeadQ P md ops C H L f (listed.setIfInBounds i true)) a
theorem HeadQ.any {H : List Nat} {g : Nat} {L : Array Bool -> Act -> Prop} {Q' : Exit -> Act -> World -> Prop} (hL : ∀ listed a w,C w -> L listed a -> wpAny P md ops Q' g listed a w) (f : Nat) :
  ∀ (listed : Array Bool) (a : Act) (w : World),C w -> HeadQ P md ops C H L f listed a -> wpAny P md ops Q' (f + g) listed a w := by
 induction f with
 | zero => intro listed a w hw h; rw [Nat.zero_add]; exact hL _ _ _ hw h
 | succ f ih =>
  intro listed a w hw h
  rw [show f + 1 + g = (f + g) + 1 by omega]
  exact ⟨fun h0 => absurd h0 h.1,fun i hi => wpOp_of_qOp hw (fun a' w' hw' h' => ih _ a' w' hw' h') (h.2 i hi).2⟩
def sinkH (md : Region.Mode) (ops : Array Oper) (t0 : Nat) (H : List Nat) : Bool := H.all fun h => (t0 :: H).any fun j => decide (h < j) && Region.waitsFor md ops j h
def chainT (md : Region.Mode) (ops : Array Oper) : Nat -> List Nat -> Bool
 | _,[] => true
 | t,u :: us => Region.waitsFor md ops u t && chainT md ops u us
def coverB (ops : Array Oper) (E H T : List Nat) : Bool := (List.range ops.size).all fun i => E.contains i || H.contains i || T.contains i
def apartB (H T : List Nat) : Bool := T.all fun t => !H.contains t
structure HdInv (md : Region.Mode) (ops : Array Oper) (E T : List Nat) (listed : Array Bool) : Prop where
 size : listed.size = ops.size
 closed : ∀ j oj,ops[j]? = some oj -> listed.getD j false = true -> ∀ e ∈ oj.after,Region.binds md e = true -> listed.getD e.on false = true
 early : ∀ e ∈ E,listed.getD e true = true
 late : ∀ t ∈ T,listed.getD t false = false
theorem HdInv.set {E T : List Nat} {listed : Array Bool} {i : Nat} (inv : HdInv md ops E T listed) (hi : i ∈ Region.ready md ops listed) (hT : i ∉ T) : HdInv md ops E T (listed.setIfInBounds i true) := by
 obtain ⟨_,oi,hoi,hall⟩ := mem_ready.1 hi
 refine ⟨by simp [inv.size],fun j oj hj hl e he hb => ?_,fun e he => ?_,fun t ht => ?_⟩
 ·by_cases hij : i = j
  ·subst hij
   have : oj = oi := Option.some.inj (hj.symm.trans hoi)
   subst this
   exact getD_set_true (hall e he hb)
  ·rw [getD_set_ne false hij] at hl
   exact getD_set_true (inv.closed j oj hj hl e he hb)
 ·by_cases hie : i = e
  ·subst hie
   have hlt : i < listed.size := by rw [inv.size]; exact (Array.getElem?_eq_some_iff.1 hoi).1
   simp [hlt]
  ·rw [getD_set_ne true hie]; exact inv.early e he
 ·rw [getD_set_ne false (by rintro rfl; exact hT ht)]; exact inv.late t ht
theorem tail_not_ready {E H T : List Nat} {t0 : Nat} {listed : Array Bool} (hs : sinkH md ops t0 H = true) (hsz : ∀ h ∈ H,h < ops.size) (inv : HdInv md ops E T listed) :
  ∀ (d h : Nat),ops.size - h = d -> h ∈ H -> listed.getD h true = false -> t0 ∉ Region.ready md ops listed := by
 intro d
 induction d using Nat.strongRecOn with
 | _ d ih =>
  intro h hd hh hun hr
  obtain ⟨_,ot,hot,hall⟩ := mem_ready.1 hr
  obtain ⟨j,hj,hj2⟩ := List.any_eq_true.1 (List.all_eq_true.1 hs h hh)
  simp only [Bool.and_eq_true,decide_eq_true_eq] at hj2
  obtain ⟨oj,hoj,e,he,hb,hon⟩ := Region.waitsFor_spec hj2.2
  rcases List.mem_cons.1 hj with rfl | hjH
  ·have : oj = ot := Option.some.inj (hoj.symm.trans hot)
   subst this
   have h2 := hall e he hb
   rw [hon,getD_both hun] at h2
   cases h2
  ·cases hl : listed.getD j false with
   | true =>
    have h2 := inv.closed j oj hoj hl e he hb
    rw [hon,getD_both hun] at h2
    cases h2
   | false =>
    have hjs : j < ops.size := hsz j hjH
    exact ih (ops.size - j) (by omega) j rfl hjH (getD_in (by rw [inv.size]; exact hjs) hl) hr
theorem chain_not_ready {E T : List Nat} {listed : Array Bool} (inv : HdInv md ops E T listed) : ∀ (us : List Nat) (t : Nat),chainT md ops t us = true -> (∀ u ∈ t :: us,u ∈ T) -> ∀ u ∈ us,u ∉ Region.ready md ops listed := by
 intro us
 induction us with
 | nil => intro t _ _ u hu; cases hu
 | cons x us ih =>
  intro t hc hT u hu hr
  simp only [chainT,Bool.and_eq_true] at hc
  rcases List.mem_cons.1 hu with rfl | hu
  ·obtain ⟨o',ho',e,he,hb,hon⟩ := Region.waitsFor_spec hc.1
   obtain ⟨_,ot,hot,hall⟩ := mem_ready.1 hr
   have : o' = ot := Option.some.inj (ho'.symm.trans hot)
   subst this
   have h2 := hall e he hb
   rw [hon,inv.late t (hT t (by simp))] at h2
   cases h2
  ·exact ih x hc.2 (fun y hy => hT y (List.mem_cons_of_mem _ hy)) u hu hr
theorem ready_head {E H us : List Nat} {t0 : Nat} {listed : Array Bool} (hs : sinkH md ops t0 H = true) (hsz : ∀ h ∈ H,h < ops.size) (hc : chainT md ops t0 us = true) (hcov : coverB ops E H (t0 :: us) = true) (inv : HdInv md ops E (t0 :: us) listed)
  {h : Nat} (hh : h ∈ H) (hun : listed.getD h true = false) : ∀ j ∈ Region.ready md ops listed,j ∈ H := by
 intro j hj
 obtain ⟨hjun,oj,hoj,_⟩ := mem_ready.1 hj
 have h1 := List.all_eq_true.1 hcov j (List.mem_range.2 (Array.getElem?_eq_some_iff.1 hoj).1)
 simp only [Bool.or_eq_true,List.contains_iff_mem] at h1
 rcases h1 with (h1 | h1) | h1
 ·rw [inv.early j h1] at hjun; cases hjun
 ·exact h1
 ·rcases List.mem_cons.1 h1 with rfl | h1
  ·exact absurd hj (tail_not_ready hs hsz inv _ h rfl hh hun)
  ·exact absurd hj (chain_not_ready inv us t0 hc (fun _ h => h) j h1)
theorem HeadQ.first {E H us : List Nat} {t0 i : Nat} {oi : Oper} {v : Value} {L : Array Bool -> Act -> Prop} (hi : ops[i]? = some oi) (hsel : ∀ (j : Nat) (o : Oper) cs b,ops[j]? = some o -> o.op ≠ .select cs b)
  (hs : sinkH md ops t0 H = true) (hsz : ∀ h ∈ H,h < ops.size) (hc : chainT md ops t0 us = true) (hcov : coverB ops E H (t0 :: us) = true) (hap : ∀ h ∈ H,h ∉ t0 :: us) (hin : i ∈ H)
  (hdone : ∀ listed a,L listed a -> ∀ j ∈ Region.ready md ops listed,j ∉ H) (f : Nat) :
  ∀ (listed : Array Bool) (a : Act),HdInv md ops E (t0 :: us) listed ->
   (∀ j oj,ops[j]? = some oj -> j ≠ i -> listed.getD j true = false -> (∀ e ∈ oj.after,Region.binds md e = true -> e.on ≠ i) -> oi.apart ops oj = true) ->
   i ∈ Region.ready md ops listed -> YieldsIn P ops C oi v a ->
   HeadQ P md ops C H L f (listed.setIfInBounds i true) (a.put oi.dst v) -> HeadQ P md ops C H L (f + 1) listed a := by
 induction f with
 | zero =>
  intro listed a inv _ hr hy K
  refine ⟨List.ne_nil_of_mem hr,fun j hj => ⟨ready_head hs hsz hc hcov inv hin (mem_ready.1 hr).1 j hj,?_⟩⟩
  by_cases hji : j = i
  ·subst hji; exact hy.qOp hi K
  ·exact absurd (ready_head hs hsz hc hcov inv hin (mem_ready.1 hr).1 j hj) (hdone _ _ K j (ready_mono hj hji))
 | succ f ih =>
  intro listed a inv hfree hr hy K
  refine ⟨List.ne_nil_of_mem hr,fun j hj => ⟨ready_head hs hsz hc hcov inv hin (mem_ready.1 hr).1 j hj,?_⟩⟩
  by_cases hji : j = i
  ·subst hji; exact hy.qOp hi K
  ·have hun := (mem_ready.1 hr).1
   have hjH := ready_head hs hsz hc hcov inv hin hun j hj
   obtain ⟨hjun,oj,hoj,hall⟩ := mem_ready.1 hj
   have hnot : ∀ e ∈ oj.after,Region.binds md e = true -> e.on ≠ i := fun e he hb heq => by
    have h1 := hall e he hb
    rw [heq,getD_both hun] at h1
    cases h1
   have h2 := qOp_put hoj (hfree j oj hoj hji hjun hnot) (fun cs b => hsel i oi cs b hi) (fun cs b => hsel j oj cs b hoj) hy (K.2 j (ready_mono hj hji)).2
   refine qOp_mono (fun a' h3 => ih (listed.setIfInBounds j true) a' (inv.set hj (hap j hjH)) (fun k ok hk hki hunk hno => hfree k ok hk hki ?_ hno) (ready_mono hr (Ne.symm hji)) h3.1 ?_) h2
   ·by_cases hjk : j = k
    ·subst hjk; exact hjun
    ·rwa [getD_set_ne true hjk] at hunk
   ·rw [Array.setIfInBounds_comm _ _ hji]
    exact h3.2
def seqT (md : Region.Mode) (ops : Array Oper) : List Nat -> Array Bool -> Bool
 | [],listed => (Region.ready md ops listed).isEmpty
 | t :: ts,listed => decide (Region.ready md ops listed = [t]) && seqT md ops ts (listed.setIfInBounds t true)
def lexH (md : Region.Mode) (ops : Array Oper) (T : List Nat) : List Nat -> Array Bool -> Bool
 | [],listed => seqT md ops T listed
 | h :: hs,listed => (Region.ready md ops listed).contains h && Region.free md ops listed h && lexH md ops T hs (listed.setIfInBounds h true)
theorem HeadQ.lex {E H us : List Nat} {t0 : Nat} {Lq : Act -> Prop} (hsel : Region.noSelect ops = true) (hs : sinkH md ops t0 H = true) (hsz : ∀ h ∈ H,h < ops.size) (hc : chainT md ops t0 us = true) (hcov : coverB ops E H (t0 :: us) = true) (hap : ∀ h ∈ H,h ∉ t0 :: us) (hx : List Nat) :
  ∀ (lx : List Oper) (listed : Array Bool) (a : Act),(∀ h ∈ hx,h ∈ H) -> hx.map (ops[·]?) = lx.map some -> HdInv md ops E (t0 :: us) listed -> lexH md ops (t0 :: us) hx listed = true -> wpQuiet P ops C Lq lx a ->
   HeadQ P md ops C H (fun listed' a' => seqT md ops (t0 :: us) listed' = true /\ Lq a') hx.length listed a := by
 induction hx with
 | nil =>
  intro lx listed a _ hm _ hB h
  cases lx with
  | nil => exact ⟨hB,h⟩
  | cons _ _ => simp at hm
 | cons i hx ih =>
  intro lx listed a hH hm inv hB h
  cases lx with
  | nil => simp at hm
  | cons o lx =>
   simp only [List.map_cons,List.cons.injEq] at hm
   simp only [lexH,Bool.and_eq_true] at hB
   obtain ⟨⟨hr,hf⟩,hB'⟩ := hB
   have hr' : i ∈ Region.ready md ops listed := by simpa using hr
   have hst : qOp P ops C i (wpQuiet P ops C Lq lx) a := by unfold qOp; simp only [hm.1]; exact h
   obtain ⟨v,hy,hK⟩ := yieldsIn_of_qOp hm.1 hst
   refine HeadQ.first hm.1 (Region.noSelect_spec hsel) hs hsz hc hcov hap (hH i (by simp)) (fun listed' a' hL j hj hjH => ?_) hx.length listed a inv (Region.free_spec hm.1 hf) hr' hy
    (ih lx _ _ (fun h hh => hH h (by simp [hh])) hm.2 (inv.set hr' (hap i (hH i (by simp)))) hB' hK)
   have h1 := hL.1
   simp only [seqT,Bool.and_eq_true,decide_eq_true_eq] at h1
   rw [h1.1] at hj
   have : j = t0 := by simpa using hj
   subst this
   exact hap j hjH (by simp)
theorem seqT_any {Q' : Exit -> Act -> World -> Prop} (ts : List Nat) : ∀ (lt : List Oper) (listed : Array Bool) (a : Act) (w : World),ts.map (ops[·]?) = lt.map some -> seqT md ops ts listed = true -> wpList P ops Q' lt a w -> wpAny P md ops Q' ts.length listed a w := by
 induction ts with
 | nil =>
  intro lt listed a w hm hB h
  cases lt with
  | nil => exact ⟨by simpa [seqT] using hB,h⟩
  | cons _ _ => simp at hm
 | cons t ts ih =>
  intro lt listed a w hm hB h
  cases lt with
  | nil => simp at hm
  | cons o lt =>
   simp only [List.map_cons,List.cons.injEq] at hm
   simp only [seqT,Bool.and_eq_true,decide_eq_true_eq] at hB
   refine ⟨fun h1 => (by rw [hB.1] at h1; cases h1),fun i hi => ?_⟩
   rw [hB.1] at hi
   have hik : i = t := by simpa using hi
   subst hik
   have hw : wpOp P ops Q' i (wpList P ops Q' lt) a w := by unfold wpOp; simp only [hm.1]; exact h
   exact wpOp_mono (fun a' w' h' => ih lt _ a' w' hm.2 hB.2 h') hw
end
section
open Go.RowKit
def mixB (ops : Array Oper) (E H : List Nat) (t0 : Nat) (us : List Nat) : Bool :=
 Region.noSelect ops && pureB .any ops E (Array.replicate ops.size false) && sinkH .any ops t0 H && chainT .any ops t0 us && coverB ops E H (t0 :: us) && apartB H (t0 :: us) && H.all (fun h => decide (h < ops.size)) &&
  lexH .any ops (t0 :: us) H (listAll (Array.replicate ops.size false) E) && decide (E.length + (H.length + (us.length + 1)) = ops.size) && (t0 :: us).all (fun t => !E.contains t) && E.all (fun e => decide (e < ops.size) && (match ops[e]? with | some o => o.after.all (fun x => !Region.binds .any x || E.contains x.on) | none => false))
theorem getD_listAll_mem {size : Nat} (es : List Nat) : ∀ (listed : Array Bool),listed.size = size -> ∀ e,(e ∈ es \/ listed.getD e false = true) -> e < size -> (listAll listed es).getD e true = true := by
 induction es with
 | nil =>
  intro listed hs e h he
  rcases h with h | h
  ·cases h
  ·show listed.getD e true = true
   cases h2 : listed.getD e true with
   | true => rfl
   | false => rw [getD_both h2] at h; cases h
 | cons x es ih =>
  intro listed hs e h he
  refine ih (listed.setIfInBounds x true) (by simp [hs]) e ?_ he
  by_cases hxe : x = e
  ·subst hxe; right; simp [hs,he]
  ·rcases h with h | h
   ·exact .inl (by simpa [Ne.symm hxe] using h)
   ·exact .inr (getD_set_true h)
theorem getD_listAll_not (es : List Nat) : ∀ (listed : Array Bool) (t : Nat),t ∉ es -> (listAll listed es).getD t false = listed.getD t false := by
 induction es with
 | nil => intro listed t _; rfl
 | cons x es ih =>
  intro listed t ht
  show (listAll (listed.setIfInBounds x true) es).getD t false = _
  rw [ih _ t (fun h => ht (by simp [h])),getD_set_ne false (fun e => ht (by simp [e]))]
theorem size_listAll (es : List Nat) : ∀ (listed : Array Bool),(listAll listed es).size = listed.size := by
 induction es with
 | nil => intro listed; rfl
 | cons x es ih => intro listed; show (listAll (listed.setIfInBounds x true) es).size = _; rw [ih]; simp
theorem mix_any {P : Program} {Q : Exit -> Act -> World -> Prop} {a : Act} {w : World} {l : List Oper} (W0 : World) (E H : List Nat) (t0 : Nat) (us : List Nat) (lh lt : List Oper) (hB : mixB l.toArray E H t0 us = true)
  (hlh : H.map (l.toArray[·]?) = lh.map some) (hlt : (t0 :: us).map (l.toArray[·]?) = lt.map some) (hk : Kept W0 w)
  (h : PureW P l.toArray (fun a' => wpQuiet P l.toArray (fun w' => ∃ u : KW W0,w' = u.w) (fun a'' => ∀ u : KW W0,wpList P l.toArray (NoPanic Q) lt a'' u.w) lh a') E a) : wpAny P .any l.toArray (NoPanic Q) l.toArray.size (Array.replicate l.toArray.size false) a w.drew := by
 simp only [mixB,Bool.and_eq_true,decide_eq_true_eq] at hB
 obtain ⟨⟨⟨⟨⟨⟨⟨⟨⟨⟨hsel,hpu⟩,hs⟩,hc⟩,hcov⟩,hap⟩,hsz⟩,hlex⟩,hlen⟩,hTE⟩,hE⟩ := hB
 have hsz' : ∀ h ∈ H,h < l.toArray.size := fun h hh => by simpa using List.all_eq_true.1 hsz h hh
 have hap' : ∀ h ∈ H,h ∉ t0 :: us := fun h hh ht => by
  have := List.all_eq_true.1 hap h ht
  simp only [Bool.not_eq_true',<- Bool.not_eq_true,List.contains_iff_mem] at this
  exact this hh
 have inv0 : HdInv .any l.toArray E (t0 :: us) (listAll (Array.replicate l.toArray.size false) E) := by
  refine ⟨by rw [size_listAll]; simp,fun j oj hj hl e he hb => ?_,fun e he => ?_,fun t ht => ?_⟩
  ·have hjE : j ∈ E := by
    by_cases hjE : j ∈ E
    ·exact hjE
    ·rw [getD_listAll_not E _ j hjE,getD_replicate_false] at hl; cases hl
   have h1 := List.all_eq_true.1 hE j hjE
   simp only [hj,Bool.and_eq_true,decide_eq_true_eq] at h1
   have h2 := Array.all_eq_true_iff_forall_mem.1 h1.2 e he
   simp only [hb,Bool.not_true,Bool.false_or,List.contains_iff_mem] at h2
   have h3 := List.all_eq_true.1 hE e.on h2
   simp only [Bool.and_eq_true,decide_eq_true_eq] at h3
   have h4 := getD_listAll_mem (size := l.toArray.size) E (Array.replicate l.toArray.size false) (by simp) e.on (.inl h2) h3.1
   have h5 : e.on < (listAll (Array.replicate l.toArray.size false) E).size := by rw [size_listAll]; simpa using h3.1
   cases hx : (listAll (Array.replicate l.toArray.size false) E).getD e.on false with
   | true => rfl
   | false => rw [getD_in h5 hx] at h4; cases h4
  ·have h3 := List.all_eq_true.1 hE e he
   simp only [Bool.and_eq_true,decide_eq_true_eq] at h3
   exact getD_listAll_mem (size := l.toArray.size) E _ (by simp) e (.inl he) h3.1
  ·have h3 := List.all_eq_true.1 hTE t ht
   rw [getD_listAll_not E _ t (by simpa using h3),getD_replicate_false]
 have h2 := pure_any (P := P) (md := .any) (Q := Q) (w := w.drew) hsel (fuel := H.length + (us.length + 1)) E _ a hpu (fun a' h' => ?_) h
 ·rw [show E.length + (H.length + (us.length + 1)) = l.toArray.size from hlen] at h2
  exact h2
 ·have K := HeadQ.lex (P := P) (C := fun w' => ∃ u : KW W0,w' = u.w) hsel hs hsz' hc hcov hap' H lh _ a' (fun _ h => h) hlh inv0 hlex h'
  exact HeadQ.any (fun listed a'' w' hw' hL => by
   obtain ⟨u,rfl⟩ := hw'
   exact seqT_any (P := P) (md := .any) (Q' := NoPanic Q) (t0 :: us) lt listed a'' u.w hlt hL.1 (hL.2 u)) H.length _ a' _ ⟨⟨_,hk.drew⟩,rfl⟩ K
theorem wp_region_mix {P : Program} {id : Nat} {Q : Exit -> Act -> World -> Prop} {a : Act} {w : World} {l : List Oper} (W0 : World) (E H : List Nat) (t0 : Nat) (us : List Nat) (lh lt : List Oper) (hm : P.follows .mixedOrders = true) (hB : mixB l.toArray E H t0 us = true)
  (hlh : H.map (l.toArray[·]?) = lh.map some) (hlt : (t0 :: us).map (l.toArray[·]?) = lt.map some) (hk : Kept W0 w)
  (h : PureW P l.toArray (fun a' => wpQuiet P l.toArray (fun w' => ∃ u : KW W0,w' = u.w) (fun a'' => ∀ u : KW W0,wpList P l.toArray (NoPanic Q) lt a'' u.w) lh a') E a) : (Code.region id l.toArray true).wp P Q a w :=
 wp_region_noPanic (wp_region_any hm (mix_any W0 E H t0 us lh lt hB hlh hlt hk h))
theorem map_filterMap {l : List Oper} (H : List Nat) (h : ∀ i ∈ H,i < l.length) : H.map (l.toArray[·]?) = (H.filterMap (l[·]?)).map some := by
 induction H with
 | nil => rfl
 | cons i H ih =>
  have hi : i < l.length := h i (by simp)
  rw [List.map_cons,List.filterMap_cons_some (List.getElem?_eq_getElem hi),List.map_cons,ih (fun j hj => h j (by simp [hj]))]
  simp [hi]
theorem mix_any' {P : Program} {Q : Exit -> Act -> World -> Prop} {a : Act} {w : World} {l : List Oper} (W0 : World) (E H : List Nat) (t0 : Nat) (us : List Nat) (hB : mixB l.toArray E H t0 us = true) (hT : ((t0 :: us).all fun t => decide (t < l.length)) = true) (hk : Kept W0 w)
  (h : PureW P l.toArray (fun a' => wpQuiet P l.toArray (fun w' => ∃ u : KW W0,w' = u.w) (fun a'' => ∀ u : KW W0,wpList P l.toArray (NoPanic Q) ((t0 :: us).filterMap (l[·]?)) a'' u.w) (H.filterMap (l[·]?)) a') E a) : wpAny P .any l.toArray (NoPanic Q) l.toArray.size (Array.replicate l.toArray.size false) a w.drew := by
 have hsz : H.all (fun h => decide (h < l.toArray.size)) = true := by
  simp only [mixB,Bool.and_eq_true] at hB
  exact hB.1.1.1.1.2
 exact mix_any W0 E H t0 us _ _ hB (map_filterMap H (fun i hi => by simpa using List.all_eq_true.1 hsz i hi)) (map_filterMap _ (fun i hi => by simpa using List.all_eq_true.1 hT i hi)) hk h
theorem wp_region_mix' {P : Program} {id : Nat} {Q : Exit -> Act -> World -> Prop} {a : Act} {w : World} {l : List Oper} (W0 : World) (E H : List Nat) (t0 : Nat) (us : List Nat) (hm : P.follows .mixedOrders = true) (hB : mixB l.toArray E H t0 us = true) (hT : ((t0 :: us).all fun t => decide (t < l.length)) = true) (hk : Kept W0 w)
  (h : PureW P l.toArray (fun a' => wpQuiet P l.toArray (fun w' => ∃ u : KW W0,w' = u.w) (fun a'' => ∀ u : KW W0,wpList P l.toArray (NoPanic Q) ((t0 :: us).filterMap (l[·]?)) a'' u.w) (H.filterMap (l[·]?)) a') E a) : (Code.region id l.toArray true).wp P Q a w := by
 have hsz : H.all (fun h => decide (h < l.toArray.size)) = true := by
  simp only [mixB,Bool.and_eq_true] at hB
  exact hB.1.1.1.1.2
 exact wp_region_mix W0 E H t0 us _ _ hm hB (map_filterMap H (fun i hi => by simpa using List.all_eq_true.1 hsz i hi)) (map_filterMap _ (fun i hi => by simpa using List.all_eq_true.1 hT i hi)) hk h
end
section
open Go.RowKit
variable {P : Program} {Q : Exit → Act → World → Prop} {ops : Array Oper} {l n : Nat}
theorem rowsIn_wide {row : String} {args : Array Value} {w : World} {R : Value -> World -> Prop} (h : Rows P row args w R) : RowsIn (Fence.wide.inRound l) n P row args w R := fun c cs _ => by
 obtain ⟨v,w',r,s⟩ := h c cs
 exact ⟨v,w',r,stepsIn_wide.2 s⟩
theorem uponIn_of {o : Oper} {a : Act} {K : Act -> World -> Prop} {r : Result Next} (h : o.upon P a K Q r) : o.uponIn (Fence.wide.inRound l) n P a K Q r := by
 cases r with
 | ok x w' =>
  cases x <;> simp only [Oper.upon,Oper.uponIn] at h ⊢ <;>
   first
    | exact h
    | exact ⟨fun h0 => (by cases h0),(callsIn_wide.2 h).inRound l⟩
    | exact ⟨fun h0 => (by cases h0),rowsIn_wide h⟩
 | halt x w' => cases x <;> simp only [Oper.upon,Oper.uponIn] at h ⊢ <;> exact h
theorem wpOpIn_of {i : Nat} {K : Act -> World -> Prop} {a : Act} {w : World} (hd : ∀ (o : Oper) (c : Call),ops[i]? = some o -> o.op ≠ .defer c) (hno : ¬ LetsOut Q) (h : wpOp P ops Q i K a w) : wpOpIn (Fence.wide.inRound l) n P ops Q i K a w := by
 unfold wpOp at h
 unfold wpOpIn
 cases ho : ops[i]? with
 | none => simpa [ho] using h
 | some o =>
  simp only [ho] at h ⊢
  split
  ·rename_i hw
   simp only [hw,if_true] at h
   rcases h with h | h
   ·refine ⟨fun _ _ => trivial,?_⟩
    rw [Oper.semAt_eq _ _ _ (fun c => hd o c ho)]
    exact uponIn_of h
   ·exact absurd h.2 hno
  ·rename_i hw
   simp only [hw] at h
   exact ⟨fun _ _ => trivial,h⟩
theorem wpAnyIn_of {md : Region.Mode} (hd : ∀ (i : Nat) (o : Oper) (c : Call),ops[i]? = some o -> o.op ≠ .defer c) (hno : ¬ LetsOut Q) : ∀ (fuel : Nat) (listed : Array Bool) (a : Act) (w : World),wpAny P md ops Q fuel listed a w -> wpAnyIn (Fence.wide.inRound l) n P md ops Q fuel listed a w := by
 intro fuel
 induction fuel with
 | zero => intro listed a w h; exact h
 | succ fuel ih =>
  intro listed a w h
  exact ⟨h.1,fun i hi => wpOpIn_mono (fun a' w' h' => ih _ a' w' h') (wpOpIn_of (fun o c ho => hd i o c ho) hno (h.2 i hi))⟩
end
section
open Go.RowKit
def NoOut (Q : Exit -> Act -> World -> Prop) : Exit -> Act -> World -> Prop
 | .outgrown,_,_ => False
 | e,a,w => Q e a w
theorem NoOut.normal {Q : Exit -> Act -> World -> Prop} {a : Act} {w : World} (h : Q .normal a w) : NoOut Q .normal a w := h
def noDefer (ops : Array Oper) : Bool := ops.all fun o => match o.op with | .defer _ => false | _ => true
theorem noDefer_spec {ops : Array Oper} (h : noDefer ops = true) : ∀ (i : Nat) (o : Oper) (c : Call),ops[i]? = some o -> o.op ≠ .defer c := by
 intro i o c ho hc
 have := Array.all_eq_true_iff_forall_mem.1 h o (Array.mem_of_getElem? ho)
 rw [hc] at this
 cases this
theorem wpIn_region_mix' {P : Program} {id : Nat} {Q : Exit -> Act -> World -> Prop} {a : Act} {w : World} {l : List Oper} {r n : Nat} (W0 : World) (E H : List Nat) (t0 : Nat) (us : List Nat) (hm : P.follows .mixedOrders = true) (hB : mixB l.toArray E H t0 us = true) (hD : noDefer l.toArray = true) (hT : ((t0 :: us).all fun t => decide (t < l.length)) = true) (hk : Kept W0 w)
  (h : PureW P l.toArray (fun a' => wpQuiet P l.toArray (fun w' => ∃ u : KW W0,w' = u.w) (fun a'' => ∀ u : KW W0,wpList P l.toArray (NoPanic (NoOut Q)) ((t0 :: us).filterMap (l[·]?)) a'' u.w) (H.filterMap (l[·]?)) a') E a) : (Code.region id l.toArray true).wpIn (Fence.wide.inRound r) n P Q a w := by
 have h1 := mix_any' (Q := NoOut Q) W0 E H t0 us hB hT hk h
 refine wpIn_mono (wpIn_region_any hm (wpAnyIn_of (noDefer_spec hD) (fun h => ?_) _ _ _ _ h1)) (fun e a w he => ?_)
 ·obtain ⟨a,w,h⟩ := h
  exact h
 ·cases e <;> first | exact he | exact (he : False).elim
end
end Go.Proofs.YtkmaeipoaoikpaaGreat
