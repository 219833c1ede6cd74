/- MachN, MachD. -/
import Derived.Test.YtkmaeipoaoikpaaGreatEB25
namespace Go.Proofs.YtkmaeipoaoikpaaGreat
set_option linter.all false
set_option maxRecDepth 100000
set_option maxHeartbeats 4000000
open Lib (hid)
section
open Go.RowKit
abbrev fnV (f : FuncId) : Value := .func (.func f) #[] #[]
abbrev doersC : Array Value := #[.nilFunc,fnV 231,fnV 232,fnV 233,fnV 234,fnV 235,fnV 236]
theorem doers_any (w : World) : Calls Tryz.prog 191 #[] w fun e w' => e = .returned (.agg doersC) /\ Below w.heap.size w w' := by
 go_enter Tryz.func191,Tryz.ntmps191
 go_wp2_with fail
 exact bodyPost_ret (v := .agg doersC) (by simp [results,Tryz.results191,go_sem]) rfl ⟨rfl,(Below.refl _ _).alloc (Nat.le_refl _) _⟩
theorem mit_cells {w : World} {base n k c : Nat} {A : Option Addr} {e : TypeId} {l : List RItem} {x : RItem} (h : w.ownsRow base e 12 (.slice A n c) n (itemsV l)) (hx : l[k]? = some x) (hk : k < n) :
  ∃ b,A = some ⟨b,0,none⟩ /\ b < w.heap.size /\ ∀ j,j < 12 -> w.cell? ⟨b,k * 12 + j,none⟩ = (itemV x)[j]? := by
 have hr := Rd.of_own h
 obtain ⟨b,o,e',hlt,hc⟩ := hr.2 (by omega)
 obtain ⟨A',cap',hv,_,_,hg⟩ := own_form h
 injection hv with hA _ _
 obtain ⟨g,hg1,_,_⟩ := hg (by omega)
 rw [hA,hg1] at e'
 injection e' with e'
 injection e' with e1 e2
 subst e1 e2
 refine ⟨g,by rw [hA,hg1],hlt,fun j hj => ?_⟩
 have h2 : (itemsV l)[k * 12 + j]? = (itemV x)[j]? := chunk_get itemV 12 (fun _ => rfl) l k j x hj hx
 have hj' : j < (itemV x).length := hj
 rw [List.getElem?_eq_getElem hj'] at h2 ⊢
 have := hc _ _ h2
 rwa [Nat.zero_add] at this
abbrev zeroItem : Array Value := mitC 0 0 0 false false 0 0 0 0 0 0 0
theorem machNext_some (F : Nat -> Prop) (mb : Nat) (K : MC) (s : MS) (a : MA) (k1 t u : Int) (sd ad : Bool) (j1 j2 j3 j4 j5 j6 j7 : Int) (w : World) (h : MachIn F w mb K s a) (hx : s.its[s.nx]? = some ((k1,t,u),((sd,ad),(j1,j2,j3,j4,j5),(j6,j7)))) :
  Calls Tryz.prog 127 #[.pointer (some ⟨mb,0,none⟩)] w fun e w' => e = .returned (.tuple #[.agg (mitC k1 t u sd ad j1 j2 j3 j4 j5 j6 j7),.bool true]) /\ Below w.heap.size w w' := by
 obtain ⟨hlt,-⟩ := List.getElem?_eq_some_iff.1 hx
 have hil := h.il
 have m16 : w.cell? ⟨mb,16,none⟩ = some (.int .i64 s.nx) := h.blk.cell 16
 have hb : ∃ gI,a.AI = some ⟨gI,0,none⟩ /\ gI < w.heap.size /\ ∀ j,j < 12 -> w.cell? ⟨gI,s.nx * 12 + j,none⟩ = (itemV ((k1,t,u),((sd,ad),(j1,j2,j3,j4,j5),(j6,j7))))[j]? := mit_cells h.fz.here.its hx hlt
 obtain ⟨gI,hAI,lI,hc⟩ := hb
 have m15 : w.cell? ⟨mb,15,none⟩ = some (.slice (some ⟨gI,0,none⟩) s.its.length a.cI) := by rw [<- hAI]; exact h.blk.cell 15
 have ml := h.blk.lt
 obtain ⟨nx,hnx⟩ : ∃ n,s.nx = n := ⟨_,rfl⟩
 obtain ⟨n,hn⟩ : ∃ n,s.its.length = n := ⟨_,rfl⟩
 rw [hnx] at hlt hc m16
 rw [hn] at hlt m15
 have q0 : w.cell? ⟨gI,nx * 12,none⟩ = some (.int .i64 k1) := hc 0 (by omega)
 have q1 : w.cell? ⟨gI,nx * 12 + 1,none⟩ = some (.int .i64 t) := hc 1 (by omega)
 have q2 : w.cell? ⟨gI,nx * 12 + 2,none⟩ = some (.int .i64 u) := hc 2 (by omega)
 have q3 : w.cell? ⟨gI,nx * 12 + 3,none⟩ = some (.bool sd) := hc 3 (by omega)
 have q4 : w.cell? ⟨gI,nx * 12 + 4,none⟩ = some (.bool ad) := hc 4 (by omega)
 have q5 : w.cell? ⟨gI,nx * 12 + 5,none⟩ = some (.int .i64 j1) := hc 5 (by omega)
 have q6 : w.cell? ⟨gI,nx * 12 + 6,none⟩ = some (.int .i64 j2) := hc 6 (by omega)
 have q7 : w.cell? ⟨gI,nx * 12 + 7,none⟩ = some (.int .i64 j3) := hc 7 (by omega)
 have q8 : w.cell? ⟨gI,nx * 12 + 8,none⟩ = some (.int .i64 j4) := hc 8 (by omega)
 have q9 : w.cell? ⟨gI,nx * 12 + 9,none⟩ = some (.int .i64 j5) := hc 9 (by omega)
 have q10 : w.cell? ⟨gI,nx * 12 + 10,none⟩ = some (.int .i64 j6) := hc 10 (by omega)
 have q11 : w.cell? ⟨gI,nx * 12 + 11,none⟩ = some (.int .i64 j7) := hc 11 (by omega)
 have i1 : (0 : Int) <= (nx : Int) := by omega
 have i2 : (nx : Int) < (n : Int) := by omega
 have e1 : decide ((n : Int) <= (nx : Int)) = false := decide_eq_false (by omega)
 clear h hx hc hAI hnx hn hil
 go_enter Tryz.func127,Tryz.ntmps127
 go_wp2_with fail
 go_region
 go_wp2_with fail
 go_region
 go_wp2_with fail
 exact bodyPost_ret (v := .tuple #[.agg (mitC k1 t u sd ad j1 j2 j3 j4 j5 j6 j7),.bool true]) (by simp [results,Tryz.results127,go_sem]) rfl ⟨rfl,((Below.refl _ _).alloc (Nat.le_refl _) _).drew.drew⟩
theorem machNext_none (F : Nat -> Prop) (mb : Nat) (K : MC) (s : MS) (a : MA) (w : World) (h : MachIn F w mb K s a) (hx : s.its.length <= s.nx) :
  Calls Tryz.prog 127 #[.pointer (some ⟨mb,0,none⟩)] w fun e w' => e = .returned (.tuple #[.agg zeroItem,.bool false]) /\ Below w.heap.size w w' := by
 have m16 : w.cell? ⟨mb,16,none⟩ = some (.int .i64 s.nx) := h.blk.cell 16
 have m15 : w.cell? ⟨mb,15,none⟩ = some (.slice a.AI s.its.length a.cI) := h.blk.cell 15
 have ml := h.blk.lt
 obtain ⟨nx,hnx⟩ : ∃ n,s.nx = n := ⟨_,rfl⟩
 obtain ⟨n,hn⟩ : ∃ n,s.its.length = n := ⟨_,rfl⟩
 rw [hnx] at hx m16
 rw [hn] at hx m15
 have e1 : decide ((n : Int) <= (nx : Int)) = true := decide_eq_true (by omega)
 have e2 : decide (n <= nx) = true := decide_eq_true hx
 clear h hx hnx hn
 go_enter Tryz.func127,Tryz.ntmps127
 go_wp2_with fail
 go_region
 go_wp2_with fail
 exact bodyPost_ret (v := .tuple #[.agg zeroItem,.bool false]) (by simp [results,Tryz.results127,go_sem]) rfl ⟨rfl,((Below.refl _ _).alloc (Nat.le_refl _) _).drew⟩
def nextMS (K : MC) (s : MS) (t : Int) : MS := if s.nx + 1 = s.its.length then { s with cnt := s.cnt + 1,its := K.pc.stepI K.st K.x (t + 1),nx := 0 } else { s with cnt := s.cnt + 1,nx := s.nx + 1 }
theorem set13 {w : World} {g : Nat} {t : TypeId} {a0 a1 a2 a3 a4 a5 a6 a7 a8 a9 a10 a11 a12 : Value} (h : Blk w g t #[a0,a1,a2,a3,a4,a5,a6,a7,a8,a9,a10,a11,a12]) (v0 v1 v2 v3 v4 v5 v6 v7 v8 v9 v10 v11 v12 : Value) (w' : World)
  (hw : w' = (((((((((((((w).setCell ⟨g,0,none⟩ v0).setCell ⟨g,1,none⟩ v1).setCell ⟨g,2,none⟩ v2).setCell ⟨g,3,none⟩ v3).setCell ⟨g,4,none⟩ v4).setCell ⟨g,5,none⟩ v5).setCell ⟨g,6,none⟩ v6).setCell ⟨g,7,none⟩ v7).setCell ⟨g,8,none⟩ v8).setCell ⟨g,9,none⟩ v9).setCell ⟨g,10,none⟩ v10).setCell ⟨g,11,none⟩ v11).setCell ⟨g,12,none⟩ v12) : w.grownBy w' (some g) /\ Blk w' g t #[v0,v1,v2,v3,v4,v5,v6,v7,v8,v9,v10,v11,v12] := by
 subst hw
 have g0 : w.grownBy w (some g) := World.grownBy.refl w _
 have b0 := h
 have g1 := gr_set (p := ⟨g,0,none⟩) g0 (.inl rfl) v0
 have b1 : Blk ((w).setCell ⟨g,0,none⟩ v0) g t #[v0,a1,a2,a3,a4,a5,a6,a7,a8,a9,a10,a11,a12] := by simpa using b0.set_ 0 v0
 have g2 := gr_set (p := ⟨g,1,none⟩) g1 (.inl rfl) v1
 have b2 : Blk (((w).setCell ⟨g,0,none⟩ v0).setCell ⟨g,1,none⟩ v1) g t #[v0,v1,a2,a3,a4,a5,a6,a7,a8,a9,a10,a11,a12] := by simpa using b1.set_ 1 v1
 have g3 := gr_set (p := ⟨g,2,none⟩) g2 (.inl rfl) v2
 have b3 : Blk ((((w).setCell ⟨g,0,none⟩ v0).setCell ⟨g,1,none⟩ v1).setCell ⟨g,2,none⟩ v2) g t #[v0,v1,v2,a3,a4,a5,a6,a7,a8,a9,a10,a11,a12] := by simpa using b2.set_ 2 v2
 have g4 := gr_set (p := ⟨g,3,none⟩) g3 (.inl rfl) v3
 have b4 : Blk (((((w).setCell ⟨g,0,none⟩ v0).setCell ⟨g,1,none⟩ v1).setCell ⟨g,2,none⟩ v2).setCell ⟨g,3,none⟩ v3) g t #[v0,v1,v2,v3,a4,a5,a6,a7,a8,a9,a10,a11,a12] := by simpa using b3.set_ 3 v3
 have g5 := gr_set (p := ⟨g,4,none⟩) g4 (.inl rfl) v4
 have b5 : Blk ((((((w).setCell ⟨g,0,none⟩ v0).setCell ⟨g,1,none⟩ v1).setCell ⟨g,2,none⟩ v2).setCell ⟨g,3,none⟩ v3).setCell ⟨g,4,none⟩ v4) g t #[v0,v1,v2,v3,v4,a5,a6,a7,a8,a9,a10,a11,a12] := by simpa using b4.set_ 4 v4
 have g6 := gr_set (p := ⟨g,5,none⟩) g5 (.inl rfl) v5
 have b6 : Blk (((((((w).setCell ⟨g,0,none⟩ v0).setCell ⟨g,1,none⟩ v1).setCell ⟨g,2,none⟩ v2).setCell ⟨g,3,none⟩ v3).setCell ⟨g,4,none⟩ v4).setCell ⟨g,5,none⟩ v5) g t #[v0,v1,v2,v3,v4,v5,a6,a7,a8,a9,a10,a11,a12] := by simpa using b5.set_ 5 v5
 have g7 := gr_set (p := ⟨g,6,none⟩) g6 (.inl rfl) v6
 have b7 : Blk ((((((((w).setCell ⟨g,0,none⟩ v0).setCell ⟨g,1,none⟩ v1).setCell ⟨g,2,none⟩ v2).setCell ⟨g,3,none⟩ v3).setCell ⟨g,4,none⟩ v4).setCell ⟨g,5,none⟩ v5).setCell ⟨g,6,none⟩ v6) g t #[v0,v1,v2,v3,v4,v5,v6,a7,a8,a9,a10,a11,a12] := by simpa using b6.set_ 6 v6
 have g8 := gr_set (p := ⟨g,7,none⟩) g7 (.inl rfl) v7
 have b8 : Blk (((((((((w).setCell ⟨g,0,none⟩ v0).setCell ⟨g,1,none⟩ v1).setCell ⟨g,2,none⟩ v2).setCell ⟨g,3,none⟩ v3).setCell ⟨g,4,none⟩ v4).setCell ⟨g,5,none⟩ v5).setCell ⟨g,6,none⟩ v6).setCell ⟨g,7,none⟩ v7) g t #[v0,v1,v2,v3,v4,v5,v6,v7,a8,a9,a10,a11,a12] := by simpa using b7.set_ 7 v7
 have g9 := gr_set (p := ⟨g,8,none⟩) g8 (.inl rfl) v8
 have b9 : Blk ((((((((((w).setCell ⟨g,0,none⟩ v0).setCell ⟨g,1,none⟩ v1).setCell ⟨g,2,none⟩ v2).setCell ⟨g,3,none⟩ v3).setCell ⟨g,4,none⟩ v4).setCell ⟨g,5,none⟩ v5).setCell ⟨g,6,none⟩ v6).setCell ⟨g,7,none⟩ v7).setCell ⟨g,8,none⟩ v8) g t #[v0,v1,v2,v3,v4,v5,v6,v7,v8,a9,a10,a11,a12] := by simpa using b8.set_ 8 v8
 have g10 := gr_set (p := ⟨g,9,none⟩) g9 (.inl rfl) v9
 have b10 : Blk (((((((((((w).setCell ⟨g,0,none⟩ v0).setCell ⟨g,1,none⟩ v1).setCell ⟨g,2,none⟩ v2).setCell ⟨g,3,none⟩ v3).setCell ⟨g,4,none⟩ v4).setCell ⟨g,5,none⟩ v5).setCell ⟨g,6,none⟩ v6).setCell ⟨g,7,none⟩ v7).setCell ⟨g,8,none⟩ v8).setCell ⟨g,9,none⟩ v9) g t #[v0,v1,v2,v3,v4,v5,v6,v7,v8,v9,a10,a11,a12] := by simpa using b9.set_ 9 v9
 have g11 := gr_set (p := ⟨g,10,none⟩) g10 (.inl rfl) v10
 have b11 : Blk ((((((((((((w).setCell ⟨g,0,none⟩ v0).setCell ⟨g,1,none⟩ v1).setCell ⟨g,2,none⟩ v2).setCell ⟨g,3,none⟩ v3).setCell ⟨g,4,none⟩ v4).setCell ⟨g,5,none⟩ v5).setCell ⟨g,6,none⟩ v6).setCell ⟨g,7,none⟩ v7).setCell ⟨g,8,none⟩ v8).setCell ⟨g,9,none⟩ v9).setCell ⟨g,10,none⟩ v10) g t #[v0,v1,v2,v3,v4,v5,v6,v7,v8,v9,v10,a11,a12] := by simpa using b10.set_ 10 v10
 have g12 := gr_set (p := ⟨g,11,none⟩) g11 (.inl rfl) v11
 have b12 : Blk (((((((((((((w).setCell ⟨g,0,none⟩ v0).setCell ⟨g,1,none⟩ v1).setCell ⟨g,2,none⟩ v2).setCell ⟨g,3,none⟩ v3).setCell ⟨g,4,none⟩ v4).setCell ⟨g,5,none⟩ v5).setCell ⟨g,6,none⟩ v6).setCell ⟨g,7,none⟩ v7).setCell ⟨g,8,none⟩ v8).setCell ⟨g,9,none⟩ v9).setCell ⟨g,10,none⟩ v10).setCell ⟨g,11,none⟩ v11) g t #[v0,v1,v2,v3,v4,v5,v6,v7,v8,v9,v10,v11,a12] := by simpa using b11.set_ 11 v11
 have g13 := gr_set (p := ⟨g,12,none⟩) g12 (.inl rfl) v12
 have b13 : Blk ((((((((((((((w).setCell ⟨g,0,none⟩ v0).setCell ⟨g,1,none⟩ v1).setCell ⟨g,2,none⟩ v2).setCell ⟨g,3,none⟩ v3).setCell ⟨g,4,none⟩ v4).setCell ⟨g,5,none⟩ v5).setCell ⟨g,6,none⟩ v6).setCell ⟨g,7,none⟩ v7).setCell ⟨g,8,none⟩ v8).setCell ⟨g,9,none⟩ v9).setCell ⟨g,10,none⟩ v10).setCell ⟨g,11,none⟩ v11).setCell ⟨g,12,none⟩ v12) g t #[v0,v1,v2,v3,v4,v5,v6,v7,v8,v9,v10,v11,v12] := by simpa using b12.set_ 12 v12
 exact ⟨g13,b13⟩
def JobV (w0 : World) (jv fv : Value) (cs : Array Value) (j : Nat) (v : Value) (w : World) : Prop :=
 (j = 1 -> v = .agg doersC) /\ (j = 4 -> v = fv) /\ (j = 5 -> v = jv) /\ (j = 6 -> ∃ g,v = .pointer (some ⟨g,0,none⟩) /\ w0.heap.size <= g /\ Blk w g 339 cs)
theorem JobV.below {w0 : World} {jv fv : Value} {cs : Array Value} (j : Nat) (v : Value) (w w' : World) (h : JobV w0 jv fv cs j v w) (hb : Below w.heap.size w w') : JobV w0 jv fv cs j v w' :=
 ⟨h.1,h.2.1,h.2.2.1,fun e => by
  obtain ⟨g,h1,h2,h3⟩ := h.2.2.2 e
  exact ⟨g,h1,h2,h3.kept hb⟩⟩
theorem JobV.one {w0 w : World} {jv fv : Value} {cs : Array Value} : JobV w0 jv fv cs 1 (.agg doersC) w := ⟨fun _ => rfl,fun e => (by omega),fun e => (by omega),fun e => (by omega)⟩
theorem JobV.four {w0 w : World} {jv fv : Value} {cs : Array Value} : JobV w0 jv fv cs 4 fv w := ⟨fun e => (by omega),fun _ => rfl,fun e => (by omega),fun e => (by omega)⟩
theorem JobV.five {w0 w : World} {jv fv : Value} {cs : Array Value} : JobV w0 jv fv cs 5 jv w := ⟨fun e => (by omega),fun e => (by omega),fun _ => rfl,fun e => (by omega)⟩
theorem JobV.six {w0 W : World} {jv fv : Value} {cs : Array Value} (h : w0.heap.size <= W.heap.size) : JobV w0 jv fv cs 6 (.pointer (some ⟨W.heap.size,0,none⟩)) (W.alloc (.cells cs 339)) := ⟨fun e => (by omega),fun e => (by omega),fun e => (by omega),fun _ => ⟨_,rfl,h,Blk.new _ _ _⟩⟩
structure DoS (mb gi x plb : Nat) (t : Int) (W : World) : Prop where
 x0 : W.cell? ⟨mb,0,none⟩ = some (.int .i64 x)
 x6 : W.cell? ⟨mb,6,none⟩ = some (.pointer (some ⟨plb,0,none⟩))
 x1 : W.cell? ⟨gi,1,none⟩ = some (.int .i64 t)
 xl : mb < W.heap.size
 xg : gi < W.heap.size
theorem machDo_core (S S1 : Nat -> Prop) (R : World -> Prop) (mb : Nat) (K : MC) (s s1 : MS) (f : FuncId) (kk : Nat) (t u : Int) (sd ad : Bool) (j1 j2 j3 j4 j5 j6 j7 : Int) (pl pr : Option Addr) (w : World) (hK : K.Ok) (h : MachAt S w mb K s)
  (hx : s.its[s.nx]? = some (((kk : Int),t,u),((sd,ad),(j1,j2,j3,j4,j5),(j6,j7)))) (hix : ∀ W,(Instr.index 336 (.agg doersC) (.int .i64 kk)).run Tryz.prog W = .ok (fnV f) W) (he : ∀ args w,(callFunc f args).run Tryz.prog w = .ok (.enter f args) w)
  (hf : ∀ W,Below w.heap.size w W -> Calls Tryz.prog f #[.pointer (some ⟨mb,0,none⟩),(.agg (mitC kk t u sd ad j1 j2 j3 j4 j5 j6 j7)),.agg #[.pointer pl,.pointer pr]] W fun e w' => e = .returned (.int .i64 0) /\ MachAt S1 w' mb K s1 /\ R w' /\ But (fun i => i < w.heap.size) W w')
  (h1 : s1.its = s.its) (h2 : s1.nx = s.nx) (h3 : s1.cnt = s.cnt) (hc : s.cnt < 1000000000000) (ht : 0 <= t /\ t <= 1000000) :
  Calls Tryz.prog 128 #[.pointer (some ⟨mb,0,none⟩),.pointer pl,.pointer pr] w fun e w' => e = .returned (.int .i64 0) /\ ∃ w1,R w1 /\ w.heap.size <= w1.heap.size /\ But (fun i => i < w.heap.size) w w1 /\ But S1 w1 w' /\ MachAt (fun i => S1 i \/ w1.heap.size <= i) w' mb K (nextMS K s1 t) := by
 obtain ⟨F,a,hM,hF,hMu⟩ := h
 have HM := hid hM
 have HNX := hid (machNext_some F mb K s a kk t u sd ad j1 j2 j3 j4 j5 j6 j7 w hM hx)
 have HF := hid hf
 have HK := hid hK
 have HX := hid (List.getElem?_eq_some_iff.1 hx).1
 have H1 := hid h1
 have H2 := hid h2
 have H3 := hid h3
 clear hM hF hMu hx hf hK h1 h2 h3
 go_enter Tryz.func128,Tryz.ntmps128
 go_wp2_with fail
 ((with_reducible refine HNX.out.mono ?_); rintro e w1 ⟨rfl,hb1⟩)
 obtain ⟨w2,hw2⟩ : ∃ w2,w1.alloc (.cells (mitC kk t u sd ad j1 j2 j3 j4 j5 j6 j7) 222) = w2 := ⟨_,rfl⟩
 obtain ⟨gi,hgi⟩ : ∃ g,w1.heap.size = g := ⟨_,rfl⟩
 have hb2 : Below w.heap.size w w2 := by rw [<- hw2]; exact hb1.alloc hb1.size _
 have hi2 : Blk w2 gi 222 (mitC kk t u sd ad j1 j2 j3 j4 j5 j6 j7) := by rw [<- hw2]; exact Blk.new' _ _ hgi
 have HW2 := hid hw2
 have HGI := hid hgi
 have HB2 := hid hb2
 have HI2 := hid hi2
 have HGW : Hid (w.heap.size <= gi) := hid (by rw [<- hgi]; exact hb1.size)
 clear hw2 hgi hb1 hb2 hi2
 go_wp2_with fail
 rw [HW2.out,HGI.out]
 have KS : Kept w2 w2.drew := Kept.start w2
 have z0 := HI2.out.cell 0
 have z1 := HI2.out.cell 1
 have z2 := HI2.out.cell 2
 have z3 := HI2.out.cell 3
 have z4 := HI2.out.cell 4
 have z5 := HI2.out.cell 5
 have z6 := HI2.out.cell 6
 have z7 := HI2.out.cell 7
 have z8 := HI2.out.cell 8
 have z9 := HI2.out.cell 9
 have z10 := HI2.out.cell 10
 have z11 := HI2.out.cell 11
 have zl := HI2.out.lt
 refine wp_region_posts (Kept w2) (JobV w2 (.agg #[.int .i64 kk,.int .i64 t,.int .i64 u,.bool sd,.bool ad,.int .i64 j1,.int .i64 j2,.int .i64 j3,.int .i64 j4,.int .i64 j5,.int .i64 j6,.int .i64 j7,fnV f]) (fnV f) #[.int .i64 0,.int .i64 0,.int .i64 0,.bool false,.bool false,.int .i64 0,.int .i64 0,.int .i64 0,.int .i64 0,.int .i64 0,.int .i64 0,.int .i64 0,.nilFunc]) (fun _ _ _ _ => True) [0,2,3] [1,4,5,6] [7] (by kernel_rfl) (by kernel_rfl) KS (fun _ _ _ _ _ => trivial) JobV.below ?_
 simp only [List.filterMap_cons,List.filterMap_nil,List.getElem?_cons_succ,List.getElem?_cons_zero]
 refine early_step (.agg (mitC kk t u sd ad j1 j2 j3 j4 j5 j6 j7)) rfl (fun W hW => ?_) ?_
 ·obtain ⟨hc,-,-⟩ := hW
  go_simp
 go_simp
 refine early_step (.pointer (some ⟨gi,0,none⟩)) rfl (fun W hW => ?_) ?_
 ·obtain ⟨hc,-,-⟩ := hW
  go_simp
 go_simp
 refine early_step (.int .i64 kk) rfl (fun W hW => ?_) ?_
 ·obtain ⟨hc,-,-⟩ := hW
  go_simp
 go_simp
 refine PostsAt.mk ?_ ?_
 ·intro j8 hj8 o ho8 vs W hS hV
  simp only [List.mem_cons,List.not_mem_nil,or_false] at hj8
  have HS := hid hS
  have HV := hid hV
  clear hS hV
  rcases hj8 with rfl | rfl | rfl | rfl
  ·cases ho8
   unfold PostW
   simp only [puts,dstN,List.getElem?_toArray,List.getElem?_cons_succ,List.getElem?_cons_zero,Option.bind_some]
   change wpList _ _ _ (_ :: []) _ _
   go_wp2_with fail
   ((with_reducible refine (doers_any W).mono ?_); rintro e w8 ⟨rfl,hb8⟩)
   go_wp2_with fail
   exact ⟨HS.out.call hb8,JobV.one⟩
  ·have v1 := (HV.out 1 (by simp) (by kernel_rfl)).1 rfl
   cases ho8
   unfold PostW
   simp only [puts,dstN,List.getElem?_toArray,List.getElem?_cons_succ,List.getElem?_cons_zero,Option.bind_some]
   rw [v1]
   change wpList _ _ _ (_ :: []) _ _
   go_wp2_with fail
   exact ⟨HS.out,JobV.four,Below.refl _ _⟩
  ·have v4 := (HV.out 4 (by simp) (by kernel_rfl)).2.1 rfl
   cases ho8
   unfold PostW
   simp only [puts,dstN,List.getElem?_toArray,List.getElem?_cons_succ,List.getElem?_cons_zero,Option.bind_some]
   rw [v4]
   change wpList _ _ _ (_ :: []) _ _
   go_wp2_with fail
   exact ⟨HS.out,JobV.five,Below.refl _ _⟩
  ·cases ho8
   unfold PostW
   simp only [puts,dstN,List.getElem?_toArray,List.getElem?_cons_succ,List.getElem?_cons_zero,Option.bind_some]
   change wpList _ _ _ (_ :: []) _ _
   go_wp2_with fail
   exact ⟨HS.out.alloc _,JobV.six HS.out.2.1,(Below.refl _ _).alloc (Nat.le_refl _) _⟩
 ·intro vs W hS hV hR
  have h4 := (hV 4 (by simp)).2.1 rfl
  have h5 := (hV 5 (by simp)).2.2.1 rfl
  have h1 := (hV 1 (by simp)).1 rfl
  obtain ⟨gj,h6,hgj,hbj⟩ := (hV 6 (by simp)).2.2.2 rfl
  simp only [puts,dstN,List.filterMap_cons,List.filterMap_nil,List.getElem?_toArray,List.getElem?_cons_succ,List.getElem?_cons_zero,Option.bind_some]
  rw [h1,h4,h5,h6]
  have HS := hid hS.2.2
  have HBJ := hid hbj
  have HGJ := hid hgj
  clear hS hV hR h1 h4 h5 h6 hgj hbj z0 z1 z2 z3 z4 z5 z6 z7 z8 z9 z10 z11 zl KS
  have c0 := HBJ.out.cell 0
  have c1 := HBJ.out.cell 1
  have c2 := HBJ.out.cell 2
  have c3 := HBJ.out.cell 3
  have c4 := HBJ.out.cell 4
  have c5 := HBJ.out.cell 5
  have c6 := HBJ.out.cell 6
  have c7 := HBJ.out.cell 7
  have c8 := HBJ.out.cell 8
  have c9 := HBJ.out.cell 9
  have c10 := HBJ.out.cell 10
  have c11 := HBJ.out.cell 11
  have c12 := HBJ.out.cell 12
  have f0 := HBJ.out.frozen 0
  have f1 := HBJ.out.frozen 1
  have f2 := HBJ.out.frozen 2
  have f3 := HBJ.out.frozen 3
  have f4 := HBJ.out.frozen 4
  have f5 := HBJ.out.frozen 5
  have f6 := HBJ.out.frozen 6
  have f7 := HBJ.out.frozen 7
  have f8 := HBJ.out.frozen 8
  have f9 := HBJ.out.frozen 9
  have f10 := HBJ.out.frozen 10
  have f11 := HBJ.out.frozen 11
  have f12 := HBJ.out.frozen 12
  have cl := HBJ.out.lt
  change wpList _ _ _ (_ :: []) _ _
  go_wp2_with fail
  refine NoPanic.normal ?_
  obtain ⟨hg4,hj4⟩ := set13 HBJ.out (.int .i64 kk) (.int .i64 t) (.int .i64 u) (.bool sd) (.bool ad) (.int .i64 j1) (.int .i64 j2) (.int .i64 j3) (.int .i64 j4) (.int .i64 j5) (.int .i64 j6) (.int .i64 j7) (.func (.func f) #[] #[]) _ rfl
  generalize (((((((((((((W).setCell ⟨gj,0,none⟩ (.int .i64 kk)).setCell ⟨gj,1,none⟩ (.int .i64 t)).setCell ⟨gj,2,none⟩ (.int .i64 u)).setCell ⟨gj,3,none⟩ (.bool sd)).setCell ⟨gj,4,none⟩ (.bool ad)).setCell ⟨gj,5,none⟩ (.int .i64 j1)).setCell ⟨gj,6,none⟩ (.int .i64 j2)).setCell ⟨gj,7,none⟩ (.int .i64 j3)).setCell ⟨gj,8,none⟩ (.int .i64 j4)).setCell ⟨gj,9,none⟩ (.int .i64 j5)).setCell ⟨gj,10,none⟩ (.int .i64 j6)).setCell ⟨gj,11,none⟩ (.int .i64 j7)).setCell ⟨gj,12,none⟩ (.func (.func f) #[] #[]) = w4 at hg4 hj4 ⊢
  have hgj2 : gi < gj := Nat.lt_of_lt_of_le HI2.out.lt HGJ.out
  have hb4 : Below w2.heap.size w2 w4 := below_gr HS.out HS.out.size hg4 HGJ.out
  have HI4 := hid (HI2.out.kept hb4)
  have HB4 := hid (HB2.out.trans (hb4.mono HB2.out.size))
  have HJ4 := hid hj4
  clear c0 c1 c2 c3 c4 c5 c6 c7 c8 c9 c10 c11 c12 f0 f1 f2 f3 f4 f5 f6 f7 f8 f9 f10 f11 f12 cl hg4 hj4 hb4 hgj2 HS HBJ HGJ
  have c0 := HJ4.out.cell 0
  have c1 := HJ4.out.cell 1
  have c2 := HJ4.out.cell 2
  have c3 := HJ4.out.cell 3
  have c4 := HJ4.out.cell 4
  have c5 := HJ4.out.cell 5
  have c6 := HJ4.out.cell 6
  have c7 := HJ4.out.cell 7
  have c8 := HJ4.out.cell 8
  have c9 := HJ4.out.cell 9
  have c10 := HJ4.out.cell 10
  have c11 := HJ4.out.cell 11
  have c12 := HJ4.out.cell 12
  have cl := HJ4.out.lt
  go_wp2_with fail
  ((with_reducible refine (HF.out w4 HB4.out).mono ?_); rintro e w5 ⟨rfl,hm5,hr5,hb5⟩)
  obtain ⟨F1,a1,hM1,hF1,hMu1⟩ := hm5
  have HM5 := hid hM1
  have HF5 := hid hF1
  have HMu5 := hid hMu1
  have HR5 := hid hr5
  have HBU5 := hid hb5
  have HI5 := hid (HI4.out.but hb5 (fun e => by have := HGW.out; omega))
  have HBW5 : Hid (But (fun i => i < w.heap.size) w w5) := hid ((But.of_below _ HB4.out).trans hb5)
  clear c0 c1 c2 c3 c4 c5 c6 c7 c8 c9 c10 c11 c12 cl hM1 hF1 hMu1 hr5 hb5 HJ4
  have m17 : w5.cell? ⟨mb,17,none⟩ = some (.int .i64 s1.cnt) := HM5.out.blk.cell 17
  have m16 : w5.cell? ⟨mb,16,none⟩ = some (.int .i64 s1.nx) := HM5.out.blk.cell 16
  have f17 := HM5.out.blk.frozen 17
  have f16 := HM5.out.blk.frozen 16
  have ml := HM5.out.blk.lt
  obtain ⟨c,hcn⟩ : ∃ c,s1.cnt + 1 = c := ⟨_,rfl⟩
  obtain ⟨p,hp⟩ : ∃ p,s1.nx + 1 = p := ⟨_,rfl⟩
  have hp1 : p <= s1.its.length := by rw [<- hp,H1.out,H2.out]; exact HX.out
  have hil := HM5.out.il
  have hwc : IntKind.i64.wrap ((s1.cnt : Int) + 1) = (c : Int) := by rw [show (s1.cnt : Int) + 1 = (c : Int) by omega]; exact IntWalk.i64_in _ (by have := H3.out; omega)
  have hwp : IntKind.i64.wrap ((s1.nx : Int) + 1) = (p : Int) := by rw [show (s1.nx : Int) + 1 = (p : Int) by omega]; exact IntWalk.i64_in _ (by omega)
  have HCN := hid hcn
  have HPN := hid hp
  have HP1 := hid hp1
  have HCB : Hid (c <= 1000000000000) := hid (by rw [<- hcn,H3.out]; omega)
  have g7 := gr_set (p := ⟨mb,16,none⟩) (gr_set (p := ⟨mb,17,none⟩) (World.grownBy.refl w5 (some mb)) (.inl rfl) (.int .i64 c)) (.inl rfl) (.int .i64 p)
  have b7 : Blk ((w5.setCell ⟨mb,17,none⟩ (.int .i64 c)).setCell ⟨mb,16,none⟩ (.int .i64 p)) mb 121 (machC K { s1 with nx := p,cnt := c } a1) := by
   have := (HM5.out.blk.set_ 17 (.int .i64 c)).set_ 16 (.int .i64 p)
   simpa [machC] using this
  have HM7 := hid (HM5.out.setN g7 b7 hp1 HCB.out)
  have HG7 := hid (But.of_gr (S := fun i => i = mb) g7 rfl)
  have HI7 := hid (HI5.out.grown g7 (by
   intro e
   injection e with e
   have h1 := HM.out.blk.lt
   have h2 := HGW.out
   omega))
  clear hcn hp g7 b7 hp1
  go_wp2_with fail
  generalize hw7 : (w5.setCell ⟨mb,17,none⟩ (.int .i64 c)).setCell ⟨mb,16,none⟩ (.int .i64 p) = w7 at HM7 HG7 HI7 ⊢
  clear hw7 m17 m16 f17 f16 ml
  have m15 : w7.cell? ⟨mb,15,none⟩ = some (.slice a1.AI s1.its.length a1.cI) := HM7.out.blk.cell 15
  have m16 : w7.cell? ⟨mb,16,none⟩ = some (.int .i64 p) := HM7.out.blk.cell 16
  have ml := HM7.out.blk.lt
  have HFIN : Hid (∀ W,But (fun i => i = mb) w7 W -> MachAt (fun i => S1 i \/ w5.heap.size <= i) W mb K (nextMS K s1 t) -> ∃ w1,R w1 /\ w.heap.size <= w1.heap.size /\ But (fun i => i < w.heap.size) w w1 /\ But S1 w1 W /\ MachAt (fun i => S1 i \/ w1.heap.size <= i) W mb K (nextMS K s1 t)) := hid (fun W hb hm =>
   ⟨w5,HR5.out,HBW5.out.size,HBW5.out,(HG7.out.trans hb).mono (fun i _ hi => by rw [hi]; exact HMu5.out mb (.inl rfl)),hm⟩)
  by_cases hl : p = s1.its.length
  ·have e12 : ((p : Int) == (s1.its.length : Int)) = true := by simp [hl]
   have HLE := hid hl
   clear hl
   have e13 : (p == s1.its.length) = true := by simpa using HLE.out
   go_region
   go_wp2_with fail
   have HM8 := hid (HM7.out.below ((Below.refl w7.heap.size w7).drew))
   have HI8 := hid (HI7.out.drew)
   generalize hw8 : w7.drew = w8 at HM8 HI8 ⊢
   have HW8 := hid hw8
   clear hw8 m15 m16 ml e12 e13
   have n0 : w8.cell? ⟨mb,0,none⟩ = some (.int .i64 K.x) := HM8.out.blk.cell 0
   have n6 : w8.cell? ⟨mb,6,none⟩ = some (.pointer (some ⟨a1.plb,0,none⟩)) := HM8.out.blk.cell 6
   have u1 : w8.cell? ⟨gi,1,none⟩ = some (.int .i64 t) := HI8.out.cell 1
   have nl := HM8.out.blk.lt
   have ul := HI8.out.lt
   have hne : mb ≠ gi := by
    have h1 := HM.out.blk.lt
    have h2 := HGW.out
    omega
   obtain ⟨t1,ht1⟩ : ∃ t1,t + 1 = t1 := ⟨_,rfl⟩
   have hwt : IntKind.i64.wrap (t + 1) = t1 := by rw [ht1]; exact IntWalk.i64_in _ (by omega)
   have HT1 := hid ht1
   have HST := hid (fun W (kk : Below w8.heap.size w8 W) => planStep_any K.pc K.c a1.A a1.nA a1.capA a1.plb K.x t1 W HK.out.pcok HK.out.fits (HM8.out.fz.here.pln.kept kk))
   obtain ⟨its,hits⟩ : ∃ l,K.pc.stepI K.c.st K.x t1 = l := ⟨_,rfl⟩
   rw [hits] at HST
   have hil8 : its.length <= 200000000 := by
    rw [<- hits]
    unfold PlC.stepI
    split
    ·exact PlC.itemsI_le HK.out.pcok _ _
    ·simp
   have HIT := hid hits
   have HIL := hid hil8
   clear ht1 hits hil8
   refine wp_region_early (DoS mb gi K.x a1.plb t) [0,1,2,3,4,5,6,7,8,9,10,11,12,13,14] [15,16,17,18] [19,20,21] (by kernel_rfl) (by kernel_rfl) (⟨n0,n6,u1,nl,ul⟩) ?_
   simp only [List.filterMap_cons,List.filterMap_nil,List.getElem?_cons_succ,List.getElem?_cons_zero]
   refine early_step (.pointer (some ⟨mb,0,none⟩)) rfl (fun W hW => ?_) ?_
   ·obtain ⟨x0,x6,x1,xl,xg⟩ := hW
    go_simp
   go_simp
   refine early_step (.pointer (some ⟨mb,0,none⟩)) rfl (fun W hW => ?_) ?_
   ·obtain ⟨x0,x6,x1,xl,xg⟩ := hW
    go_simp
   go_simp
   refine early_step (.pointer (some ⟨mb,0,none⟩)) rfl (fun W hW => ?_) ?_
   ·obtain ⟨x0,x6,x1,xl,xg⟩ := hW
    go_simp
   go_simp
   refine early_step (.pointer (some ⟨mb,0,none⟩)) rfl (fun W hW => ?_) ?_
   ·obtain ⟨x0,x6,x1,xl,xg⟩ := hW
    go_simp
   go_simp
   refine early_step (.pointer (some ⟨mb,0,none⟩)) rfl (fun W hW => ?_) ?_
   ·obtain ⟨x0,x6,x1,xl,xg⟩ := hW
    go_simp
   go_simp
   refine early_step (.pointer (some ⟨mb,6,none⟩)) rfl (fun W hW => ?_) ?_
   ·obtain ⟨x0,x6,x1,xl,xg⟩ := hW
    go_simp
   go_simp
   refine early_step (.pointer (some ⟨a1.plb,0,none⟩)) rfl (fun W hW => ?_) ?_
   ·obtain ⟨x0,x6,x1,xl,xg⟩ := hW
    go_simp
   go_simp
   refine early_step (.pointer (some ⟨mb,0,none⟩)) rfl (fun W hW => ?_) ?_
   ·obtain ⟨x0,x6,x1,xl,xg⟩ := hW
    go_simp
   go_simp
   refine early_step (.pointer (some ⟨mb,0,none⟩)) rfl (fun W hW => ?_) ?_
   ·obtain ⟨x0,x6,x1,xl,xg⟩ := hW
    go_simp
   go_simp
   refine early_step (.pointer (some ⟨mb,0,none⟩)) rfl (fun W hW => ?_) ?_
   ·obtain ⟨x0,x6,x1,xl,xg⟩ := hW
    go_simp
   go_simp
   refine early_step (.pointer (some ⟨mb,0,none⟩)) rfl (fun W hW => ?_) ?_
   ·obtain ⟨x0,x6,x1,xl,xg⟩ := hW
    go_simp
   go_simp
   refine early_step (.int .i64 K.x) rfl (fun W hW => ?_) ?_
   ·obtain ⟨x0,x6,x1,xl,xg⟩ := hW
    go_simp
   go_simp
   refine early_step (.pointer (some ⟨gi,1,none⟩)) rfl (fun W hW => ?_) ?_
   ·obtain ⟨x0,x6,x1,xl,xg⟩ := hW
    go_simp
   go_simp
   refine early_step (.int .i64 t) rfl (fun W hW => ?_) ?_
   ·obtain ⟨x0,x6,x1,xl,xg⟩ := hW
    go_simp
   go_simp
   refine early_step (.int .i64 t1) rfl (fun W hW => ?_) ?_
   ·obtain ⟨x0,x6,x1,xl,xg⟩ := hW
    go_simp
   go_simp
   change RestW _ _ _ _ _ (_ :: _ :: _ :: _ :: []) _ _
   unfold RestW
   go_wp2_with fail
   ((with_reducible refine (HST.out _ ((Below.refl _ _).drew)).mono ?_); rintro e w9 ⟨A9,c9,rfl,ho9,hb9⟩)
   have hb9' : Below w8.heap.size w8 w9 := ((Kept.start w8).call hb9).2.2
   have HM9 := hid (HM8.out.below hb9')
   have HI9 := hid (HI8.out.kept hb9')
   have HO9 := hid (show w9.ownsRow w8.heap.size 222 12 (.slice A9 its.length c9) its.length (itemsV its) from ho9)
   have HB9 := hid hb9'
   clear ho9 hb9 hb9' HST n0 n6 u1 nl ul
   have n0 : w9.cell? ⟨mb,0,none⟩ = some (.int .i64 K.x) := HM9.out.blk.cell 0
   have n6 : w9.cell? ⟨mb,6,none⟩ = some (.pointer (some ⟨a1.plb,0,none⟩)) := HM9.out.blk.cell 6
   have u1 : w9.cell? ⟨gi,1,none⟩ = some (.int .i64 t) := HI9.out.cell 1
   have nl := HM9.out.blk.lt
   have ul := HI9.out.lt
   go_wp2_with fail
   refine ⟨⟨n0,n6,u1,nl,ul⟩,?_⟩
   unfold RestW
   change wpList _ _ _ (_ :: []) _ _
   go_wp2_with fail
   refine ⟨⟨n0,n6,u1,nl,ul⟩,?_⟩
   unfold RestW
   change wpList _ _ _ (_ :: []) _ _
   go_wp2_with fail
   refine ⟨⟨n0,n6,u1,nl,ul⟩,?_⟩
   unfold RestW
   change wpList _ _ _ (_ :: []) _ _
   have n15 : w9.cell? ⟨mb,15,none⟩ = some (.slice a1.AI s1.its.length a1.cI) := HM9.out.blk.cell 15
   have n16 : w9.cell? ⟨mb,16,none⟩ = some (.int .i64 p) := HM9.out.blk.cell 16
   have f15 := HM9.out.blk.frozen 15
   have f16 := HM9.out.blk.frozen 16
   go_wp2_with fail
   have hg1 := gr_set (p := ⟨mb,15,none⟩) (World.grownBy.refl w9 (some mb)) (.inl rfl) (.slice A9 its.length c9)
   have hi10 := HI9.out.grown hg1 (by intro e; injection e with e; exact hne e.symm)
   have hb10 := HM9.out.blk.set_ 15 (.slice A9 its.length c9)
   refine ⟨⟨by simpa [machC] using hb10.cell 0,by simpa [machC] using hb10.cell 6,hi10.cell 1,hb10.lt,hi10.lt⟩,?_⟩
   unfold RestW
   change wpList _ _ _ (_ :: _ :: _ :: []) _ _
   go_wp2_with fail
   refine NoPanic.normal ?_
   go_wp2_with fail
   go_ret
   have hg2 := gr_set (p := ⟨mb,16,none⟩) hg1 (.inl rfl) (.int .i64 0)
   have hb11 : Blk ((w9.setCell ⟨mb,15,none⟩ (.slice A9 its.length c9)).setCell ⟨mb,16,none⟩ (.int .i64 0)) mb 121 (machC K { s1 with cnt := c,its := its,nx := 0 } { a1 with AI := A9,cI := c9 }) := by
    have := hb10.set_ 16 (.int .i64 0)
    simpa [machC] using this
   have hm := HM9.out.setI (its := its) (nx := 0) (AI := A9) (cI := c9) hg2 hb11 (Nat.zero_le _) HIL.out (own_base HO9.out (Nat.zero_le _)) (fun g hg hmu => by
    have h1 := (HO9.out.lt g ((own_blkOf _ _ _).trans hg)).1
    have h2 := HM8.out.mu_lt hmu
    omega)
   have hbut : But (fun i => i = mb) w7 ((w9.setCell ⟨mb,15,none⟩ (.slice A9 its.length c9)).setCell ⟨mb,16,none⟩ (.int .i64 0)) := by
    have h0 : Below w7.heap.size w7 w8 := by rw [<- HW8.out]; exact (Below.refl _ _).drew
    exact ((But.of_below _ h0).call HB9.out).trans (But.of_gr hg2 rfl)
   have hsz : w5.heap.size <= w8.heap.size := Nat.le_trans HG7.out.size (by rw [<- HW8.out]; exact Nat.le_refl _)
   have en : nextMS K s1 t = { s1 with cnt := c,its := its,nx := 0 } := by
    unfold nextMS
    rw [HPN.out,HCN.out,if_pos HLE.out,HT1.out,<- HK.out.st,HIT.out]
   refine ⟨rfl,HFIN.out _ hbut ?_⟩
   rw [en]
   refine ⟨_,_,hm,fun i hi => ?_,fun i hi => .inl (HMu5.out i hi)⟩
   rcases hi with hi | hi
   ·exact .inl (HF5.out i hi)
   ·exact .inr (Nat.le_trans hsz (HO9.out.lt i ((own_blkOf _ _ _).trans hi)).1)
  ·have e12 : ((p : Int) == (s1.its.length : Int)) = false := by simp; omega
   have e13 : (p == s1.its.length) = false := by simpa using hl
   have HLE := hid hl
   clear hl
   go_region
   go_wp2_with fail
   go_ret
   refine ⟨rfl,HFIN.out _ ((But.refl _ _).call ((Below.refl _ _).drew)) ⟨F1,a1,?_,fun i hi => .inl (HF5.out i hi),fun i hi => .inl (HMu5.out i hi)⟩⟩
   have hm := HM7.out.below ((Below.refl w7.heap.size w7).drew)
   unfold nextMS
   rw [HPN.out,HCN.out,if_neg HLE.out]
   exact hm
end
end Go.Proofs.YtkmaeipoaoikpaaGreat
