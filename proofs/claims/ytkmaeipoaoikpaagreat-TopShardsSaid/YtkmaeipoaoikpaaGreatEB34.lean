/- RNet1, RNet2, RNet3. -/
import Derived.Test.YtkmaeipoaoikpaaGreatEB13
namespace Go.Proofs.YtkmaeipoaoikpaaGreat
set_option linter.all false
set_option maxRecDepth 100000
set_option maxHeartbeats 4000000
open Lib (hid)
section
open Go.RowKit
theorem getD_take {l : List Int} {k j : Nat} (h : j < k) (d : Int) : (l.take k).getD j d = l.getD j d := by
 rw [List.getD_eq_getElem?_getD,List.getD_eq_getElem?_getD,List.getElem?_take,if_pos h]
theorem cntS_take (l : List Int) (k : Nat) : ∀ j,j <= k -> cntS (l.take (k + 1)) j = cntS l j
 | 0,_ => rfl
 | j + 1,h => by
  rw [cntS,cntS,cntS_take l k j (by omega),getD_take (by omega),getD_take (by omega)]
theorem rd_take {w : World} {A : Option Addr} {n k : Nat} {l : List Int} (h : Rd w 1 A n (iv l)) (hk : k <= n) : Rd w 1 A k (iv (l.take k)) := by
 have hl : l.length = n := by have := h.1; rw [iv_length] at this; omega
 refine ⟨by rw [iv_length,List.length_take,hl]; omega,fun h0 => ?_⟩
 obtain ⟨b,o,e,hlt,hc⟩ := h.2 (by omega)
 refine ⟨b,o,e,hlt,fun j u hu => hc j u ?_⟩
 unfold iv at hu ⊢
 rw [List.getElem?_map,List.getElem?_take] at hu
 split at hu
 ·rw [List.getElem?_map]; exact hu
 ·cases hu
theorem wrongS_take {l : List Int} {k : Nat} (h : wrongS l = false) : wrongS (l.take k) = false := by
 unfold wrongS at h ⊢
 rw [List.any_eq_false] at h ⊢
 exact fun x hx => h x (List.mem_of_mem_take hx)
theorem NetP.wrong {l : List Int} {n NP : Nat} {P : List Int} {q : Int} (h : NetP l n NP P q) : wrongS l = false := by
 unfold wrongS
 rw [List.any_eq_false]
 intro x hx
 obtain ⟨k,hk⟩ := List.getElem?_of_mem hx
 have := h.pos k x hk
 simp
 omega
abbrev rnetV (A : Option Addr) (n cap : Nat) (Ap : Option Addr) (NP cp : Nat) (q : Int) : Value := .agg #[.slice A n cap,.slice Ap NP cp,.int .i64 q]
abbrev rnetC (A : Option Addr) (n cap : Nat) (Ap : Option Addr) (NP cp : Nat) (q : Int) : Array Value := #[.slice A n cap,.slice Ap NP cp,.int .i64 q]
structure RNetAt (w : World) (A : Option Addr) (n cap : Nat) (l : List Int) (Ap : Option Addr) (NP cp : Nat) (P : List Int) (q : Int) : Prop where
 ok : NetP l n NP P q
 rl : Rd w 1 A n (iv l)
 cap : n <= cap
 rp : Rd w 1 Ap NP (iv P)
theorem RNetAt.below {w w' : World} {A : Option Addr} {n cap : Nat} {l : List Int} {Ap : Option Addr} {NP cp : Nat} {P : List Int} {q : Int} (h : RNetAt w A n cap l Ap NP cp P q) (hb : Below w.heap.size w w') : RNetAt w' A n cap l Ap NP cp P q := ⟨h.ok,h.rl.below hb,h.cap,h.rp.below hb⟩
def wtR (l P : List Int) (k r c : Nat) : Int := P.getD (ofN l k + r * szN l k + c) 0
def bsR (l P : List Int) (k r : Nat) : Int := P.getD (obN l k + r) 0
end
section
open Go.RowKit
variable (A : Option Addr) (n cap : Nat) (l : List Int) (Ap : Option Addr) (NP cp : Nat) (P : List Int) (q : Int) (w : World)
theorem refWeights_any (k : Nat) (hN : NetP l n NP P q) (h : Rd w 1 A n (iv l)) (hcap : n <= cap) (hk : k < n - 1) :
  Calls Tryz.prog 258 #[.slice A n cap,.int .i64 k] w fun e w' => e = .returned (.agg #[.int .i64 (ofN l k),.int .i64 (obN l k)]) /\ Below w.heap.size w w' := by
 have n16 := hN.n16
 have hcn := hN.cnt_eq k (by omega)
 obtain ⟨a1,a2,a3⟩ := hN.sz (show k < n by omega)
 obtain ⟨b1,b2,b3⟩ := hN.sz (show k + 1 < n by omega)
 have hfit := hN.fit hk
 have hnp := hN.np
 have HC := hid (fun W (r : Rd W 1 A (k + 1) (iv (l.take (k + 1)))) => refCount08_any A (k + 1) cap (l.take (k + 1)) W (by rw [List.length_take,hN.len]; omega) r (by omega) (wrongS_take hN.wrong))
 have HH := hid h
 have hct : cntS (l.take (k + 1)) (k + 1 - 1) = (ofN l k : Int) := by rw [Nat.add_sub_cancel,cntS_take l k k (Nat.le_refl _),hcn]
 rw [hct] at HC
 obtain ⟨ga,oa,rfl,hlt,hca⟩ := h.2 (by omega)
 have hc0 : w.cell? ⟨ga,oa + k,none⟩ = some (.int .i64 (szN l k)) := hca k _ (by unfold iv; rw [List.getElem?_map,a1]; rfl)
 have hc1 : w.cell? ⟨ga,oa + (k + 1),none⟩ = some (.int .i64 (szN l (k + 1))) := hca (k + 1) _ (by unfold iv; rw [List.getElem?_map,b1]; rfl)
 have hmul : ofN l k + szN l k * szN l (k + 1) = obN l k := by rw [obN,Nat.mul_comm]
 obtain ⟨s0,hs0⟩ : ∃ s,szN l k = s := ⟨_,rfl⟩
 obtain ⟨s1,hs1⟩ : ∃ s,szN l (k + 1) = s := ⟨_,rfl⟩
 obtain ⟨lo,hlo⟩ : ∃ s,ofN l k = s := ⟨_,rfl⟩
 obtain ⟨hi,hhi⟩ : ∃ s,obN l k = s := ⟨_,rfl⟩
 rw [hs0] at hc0 hmul a2 a3
 rw [hs1] at hc1 hmul b2 b3 hfit
 rw [hlo] at HC hmul
 rw [hhi] at hmul hfit
 rw [hlo,hhi]
 have HC2 := HC
 have hw1 : wrap64 ((s0 : Int) * (s1 : Int)) = ((s0 * s1 : Nat) : Int) := by
  have h1 : s0 * s1 <= 1000 * 1000 := Nat.mul_le_mul a3 b3
  rw [<- Int.natCast_mul]
  exact wrap64_id _ (by omega) (by omega)
 have hw2 : wrap64 ((lo : Int) + ((s0 * s1 : Nat) : Int)) = (hi : Int) := by
  rw [<- hmul,<- Int.natCast_add]
  exact wrap64_id _ (by omega) (by omega)
 have HW1 := hid hw1
 have HW2 := hid hw2
 have HG : Hid (∀ W,w.alloc (.cells #[.int .i64 0,.int .i64 0] 355) = W -> Below w.heap.size w W /\ Blk W w.heap.size 355 #[.int .i64 0,.int .i64 0]) := hid (by
  rintro W rfl
  exact ⟨(Below.refl _ _).alloc (Nat.le_refl _) _,Blk.new _ _ _⟩)
 have d1 : decide ((k : Int) < 0) = false := decide_eq_false (by omega)
 have d2 : decide ((n : Int) - 1 <= (k : Int)) = false := decide_eq_false (by omega)
 have hkn : k + 1 <= n := by omega
 have HC0 := hid hc0
 have HC1 := hid hc1
 clear hca hcn hct a1 b1 HC hw1 hw2 hmul hs0 hs1 hlo hhi a2 a3 b2 b3 hfit hnp hN h hc0 hc1
 go_enter Tryz.func258,Tryz.ntmps258
 go_wp2_with fail
 obtain ⟨w0,hw0⟩ : ∃ w0,w.alloc (.cells #[.int .i64 0,.int .i64 0] 355) = w0 := ⟨_,rfl⟩
 obtain ⟨hB,hI⟩ := HG.out _ hw0
 rw [hw0]
 clear hw0 HG
 have HB := hid hB
 have HI := hid hI
 ((with_reducible refine (HC2.out w0 (rd_take (HH.out.below hB) hkn)).mono ?_); rintro e w1 ⟨rfl,hb1⟩)
 have HB1 := hid (hB.trans (hb1.mono hB.size))
 have m0 := hI.kept hb1
 have HM0 := hid m0
 have hkeep := fun (o : Nat) => (HB1.out.cell (p := ⟨ga,o,none⟩) hlt)
 have c0 : w1.cell? ⟨ga,oa + k,none⟩ = some (.int .i64 s0) := (hkeep _).trans HC0.out
 have c1 : w1.cell? ⟨ga,oa + (k + 1),none⟩ = some (.int .i64 s1) := (hkeep _).trans HC1.out
 have x0 : w1.cell? ⟨w.heap.size,0,none⟩ = some (.int .i64 0) := m0.cell 0
 have x1 : w1.cell? ⟨w.heap.size,1,none⟩ = some (.int .i64 0) := m0.cell 1
 have f0 := m0.frozen 0
 have f1 := m0.frozen 1
 have lx := m0.lt
 clear hkeep m0 hB hI hb1
 go_wp2_with fail
 go_region
 rw [HW1.out,HW2.out]
 go_wp2_with fail
 refine bodyPost_ret (v := .agg #[.int .i64 lo,.int .i64 hi]) (by simp [results,Tryz.results258,go_sem,x0,x1,lx]) rfl ⟨rfl,?_⟩
 exact ((HB1.out.drew).setCell (p := ⟨w.heap.size,0,none⟩) (Nat.le_refl _) _).setCell (p := ⟨w.heap.size,1,none⟩) (Nat.le_refl _) _
def BiV (s0 s1 s2 : Int) (j : Nat) (v : Value) (w : World) : Prop := (j = 2 -> v = .agg #[.int .i64 s0,.int .i64 s1]) /\ (j = 3 -> v = .int .i64 s1) /\ (j = 8 -> v = .int .i64 s2) /\ (j = 9 -> v = .agg #[.int .i64 s1,.int .i64 s2])
theorem BiV.two {s0 s1 s2 : Int} {w : World} : BiV s0 s1 s2 2 (.agg #[.int .i64 s0,.int .i64 s1]) w := ⟨fun _ => rfl,fun e => (by cases e),fun e => (by cases e),fun e => (by cases e)⟩
theorem BiV.three {s0 s1 s2 : Int} {w : World} : BiV s0 s1 s2 3 (.int .i64 s1) w := ⟨fun e => (by cases e),fun _ => rfl,fun e => (by cases e),fun e => (by cases e)⟩
theorem BiV.eight {s0 s1 s2 : Int} {w : World} : BiV s0 s1 s2 8 (.int .i64 s2) w := ⟨fun e => (by cases e),fun e => (by cases e),fun _ => rfl,fun e => (by cases e)⟩
theorem BiV.nine {s0 s1 s2 : Int} {w : World} : BiV s0 s1 s2 9 (.agg #[.int .i64 s1,.int .i64 s2]) w := ⟨fun e => (by cases e),fun e => (by cases e),fun e => (by cases e),fun _ => rfl⟩
theorem refBiases_any (k : Nat) (hN : NetP l n NP P q) (h : Rd w 1 A n (iv l)) (hcap : n <= cap) (hk : k < n - 1) :
  Calls Tryz.prog 274 #[.slice A n cap,.int .i64 k] w fun e w' => e = .returned (.agg #[.int .i64 (obN l k),.int .i64 (ofN l (k + 1))]) /\ Below w.heap.size w w' := by
 have n16 := hN.n16
 have hcn := hN.cnt_eq (k + 1) (by omega)
 have HC := hid (fun W (r : Rd W 1 A (k + 2) (iv (l.take (k + 2)))) => refCount08_any A (k + 2) cap (l.take (k + 2)) W (by rw [List.length_take,hN.len]; omega) r (by omega) (wrongS_take hN.wrong))
 have hct : cntS (l.take (k + 2)) (k + 2 - 1) = (ofN l (k + 1) : Int) := by rw [show k + 2 - 1 = k + 1 by omega,cntS_take l (k + 1) (k + 1) (Nat.le_refl _),hcn]
 rw [hct] at HC
 have HH := hid h
 have HWT := hid (fun W (r : Rd W 1 A n (iv l)) => refWeights_any A n cap l NP P q W k hN r hcap hk)
 obtain ⟨s0,hs0⟩ : ∃ s,ofN l k = s := ⟨_,rfl⟩
 obtain ⟨s1,hs1⟩ : ∃ s,obN l k = s := ⟨_,rfl⟩
 obtain ⟨s2,hs2⟩ : ∃ s,ofN l (k + 1) = s := ⟨_,rfl⟩
 rw [hs0,hs1] at HWT
 rw [hs2] at HC
 rw [hs1,hs2]
 have HG : Hid (∀ W,w.alloc (.cells #[.int .i64 0,.int .i64 0] 355) = W -> Below w.heap.size w W /\ Blk W w.heap.size 355 #[.int .i64 0,.int .i64 0]) := hid (by
  rintro W rfl
  exact ⟨(Below.refl _ _).alloc (Nat.le_refl _) _,Blk.new _ _ _⟩)
 have d1 : decide ((k : Int) < 0) = false := decide_eq_false (by omega)
 have d2 : decide ((n : Int) - 1 <= (k : Int)) = false := decide_eq_false (by omega)
 have hkn : k + 2 <= n := by omega
 clear hcn hct hs0 hs1 hs2 hN h hk
 go_enter Tryz.func274,Tryz.ntmps274
 go_wp2_with fail
 obtain ⟨w0,hw0⟩ : ∃ w0,w.alloc (.cells #[.int .i64 0,.int .i64 0] 355) = w0 := ⟨_,rfl⟩
 obtain ⟨hB,hI⟩ := HG.out _ hw0
 rw [hw0]
 clear hw0 HG
 have HB := hid hB
 have HI := hid hI
 clear hB hI
 refine wp_region_posts (Kept w0) (BiV s0 s1 s2) (fun _ _ _ _ => True) [0,1,4,5,6,7] [2,3,8,9] [10] (by kernel_rfl) (by kernel_rfl) (Kept.start w0) (fun _ _ _ _ h => h) (fun _ _ _ _ h _ => h) ?_
 simp only [List.filterMap_cons,List.filterMap_nil,List.getElem?_cons_succ,List.getElem?_cons_zero]
 have hwk : IntKind.i64.wrap ((k : Int) + 2) = (k : Int) + 2 := by rw [IntKind.wrap_i64]; omega
 have hcond : 0 <= (k : Int) + 2 /\ (k : Int) + 2 <= (cap : Int) := by omega
 have htn : ((k : Int) + 2).toNat = k + 2 := by omega
 refine early_step (.slice A n cap) rfl (fun W hW => ?_) ?_
 ·obtain ⟨hc,-,-⟩ := hW
  go_simp
 go_simp
 refine early_step (.int .i64 k) rfl (fun W hW => ?_) ?_
 ·obtain ⟨hc,-,-⟩ := hW
  go_simp
 go_simp
 refine early_step (.slice A n cap) rfl (fun W hW => ?_) ?_
 ·obtain ⟨hc,-,-⟩ := hW
  go_simp
 go_simp
 refine early_step (.int .i64 k) rfl (fun W hW => ?_) ?_
 ·obtain ⟨hc,-,-⟩ := hW
  go_simp
 go_simp
 refine early_step (.int .i64 ((k : Int) + 2)) rfl (fun W hW => ?_) ?_
 ·obtain ⟨hc,-,-⟩ := hW
  go_simp
 go_simp
 refine early_step (.slice A (k + 2) cap) rfl (fun W hW => ?_) ?_
 ·obtain ⟨hc,-,-⟩ := hW
  go_simp
 go_simp
 clear hwk hcond htn
 refine PostsAt.mk ?_ ?_
 ·intro j8 hj8 o ho8 vs W hS hV
  simp only [List.mem_cons,List.not_mem_nil,or_false] at hj8
  have HS := hid hS
  have HV := hid hV
  have HBW := hid (HB.out.trans (hS.2.2.mono HB.out.size))
  clear hS hV
  rcases hj8 with rfl | rfl | rfl | rfl
  ·cases ho8
   unfold PostW
   simp only [puts,dstN,List.getElem?_toArray,List.getElem?_cons_succ,List.getElem?_cons_zero,Option.bind_some]
   change wpList _ _ _ (_ :: []) _ _
   go_wp2_with fail
   ((with_reducible refine (HWT.out W (HH.out.below HBW.out)).mono ?_); rintro e w8 ⟨rfl,hb8⟩)
   go_wp2_with fail
   exact ⟨HS.out.call hb8,BiV.two⟩
  ·have v2 := (HV.out 2 (by simp) (by kernel_rfl)).1 rfl
   cases ho8
   unfold PostW
   simp only [puts,dstN,List.getElem?_toArray,List.getElem?_cons_succ,List.getElem?_cons_zero,Option.bind_some]
   rw [v2]
   have hfd : (Instr.field 355 (.agg #[.int .i64 s0,.int .i64 s1]) 1).run Tryz.prog W = .ok (.int .i64 s1) W := rfl
   change wpList _ _ _ (_ :: []) _ _
   go_wp2_with fail
   exact ⟨HS.out,BiV.three,Below.refl _ _⟩
  ·cases ho8
   unfold PostW
   simp only [puts,dstN,List.getElem?_toArray,List.getElem?_cons_succ,List.getElem?_cons_zero,Option.bind_some]
   change wpList _ _ _ (_ :: []) _ _
   go_wp2_with fail
   ((with_reducible refine (HC.out W (rd_take (HH.out.below HBW.out) hkn)).mono ?_); rintro e w8 ⟨rfl,hb8⟩)
   go_wp2_with fail
   exact ⟨HS.out.call hb8,BiV.eight⟩
  ·have v3 := (HV.out 3 (by simp) (by kernel_rfl)).2.1 rfl
   have v8 := (HV.out 8 (by simp) (by kernel_rfl)).2.2.1 rfl
   cases ho8
   unfold PostW
   simp only [puts,dstN,List.getElem?_toArray,List.getElem?_cons_succ,List.getElem?_cons_zero,Option.bind_some]
   rw [v3,v8]
   change wpList _ _ _ (_ :: []) _ _
   go_wp2_with fail
   exact ⟨HS.out,BiV.nine,Below.refl _ _⟩
 ·intro vs W hS hV hR
  have v9 := (hV 9 (by simp)).2.2.2 rfl
  simp only [puts,dstN,List.filterMap_cons,List.filterMap_nil,List.getElem?_toArray,List.getElem?_cons_succ,List.getElem?_cons_zero,Option.bind_some]
  rw [v9]
  have HBW := hid (HB.out.trans (hS.2.2.mono HB.out.size))
  have m0 := HI.out.kept hS.2.2
  have x0 : W.cell? ⟨w.heap.size,0,none⟩ = some (.int .i64 0) := m0.cell 0
  have x1 : W.cell? ⟨w.heap.size,1,none⟩ = some (.int .i64 0) := m0.cell 1
  have f0 := m0.frozen 0
  have f1 := m0.frozen 1
  have lx := m0.lt
  clear hS hV hR v9 m0
  change wpList _ _ _ (_ :: []) _ _
  go_wp2_with fail
  refine NoPanic.normal ?_
  go_wp2_with fail
  refine bodyPost_ret (v := .agg #[.int .i64 s1,.int .i64 s2]) (by simp [results,Tryz.results274,go_sem,x0,x1,lx]) rfl ⟨rfl,?_⟩
  exact ((HBW.out).setCell (p := ⟨w.heap.size,0,none⟩) (Nat.le_refl _) _).setCell (p := ⟨w.heap.size,1,none⟩) (Nat.le_refl _) _
theorem wrapN {n : Nat} (h : n <= 4000000) : wrap64 (n : Int) = (n : Int) := wrap64_id _ (by omega) (by omega)
theorem rnet_sz {k : Nat} {b o : Nat} {w : World} {n : Nat} {l : List Int} {NP : Nat} {P : List Int} {q : Int} (hN : NetP l n NP P q) (hk : k < n) (h : Rd w 1 (some ⟨b,o,none⟩) n (iv l)) : w.cell? ⟨b,o + k,none⟩ = some (.int .i64 (szN l k)) /\ b < w.heap.size := by
 obtain ⟨b',o',e,hlt,hc⟩ := h.2 (by omega)
 injection e with e
 injection e with e1 e2 e3
 subst e1 e2
 exact ⟨hc k _ (by unfold iv; rw [List.getElem?_map,(hN.sz hk).1]; rfl),hlt⟩
theorem rnet_some {w : World} {A : Option Addr} {n cap : Nat} {l : List Int} {Ap : Option Addr} {NP cp : Nat} {P : List Int} {q : Int} (h : RNetAt w A n cap l Ap NP cp P q) : ∃ b o b' o',A = some ⟨b,o,none⟩ /\ Ap = some ⟨b',o',none⟩ := by
 obtain ⟨b,o,e,_⟩ := h.rl.2 (by have := h.ok.n2; omega)
 have h1 : 0 < NP := by
  have h2 := h.ok.fit (k := 0) (by have := h.ok.n2; omega)
  have h3 := (h.ok.sz (k := 0 + 1) (by have := h.ok.n2; omega)).2.1
  omega
 obtain ⟨b',o',e',_⟩ := h.rp.2 h1
 exact ⟨b,o,b',o',e,e'⟩
theorem rnet_p {j b o : Nat} {w : World} {NP : Nat} {P : List Int} (hl : P.length = NP) (hj : j < NP) (h : Rd w 1 (some ⟨b,o,none⟩) NP (iv P)) : w.cell? ⟨b,o + j,none⟩ = some (.int .i64 (P.getD j 0)) /\ b < w.heap.size := by
 obtain ⟨b',o',e,hlt,hc⟩ := h.2 (by omega)
 injection e with e
 injection e with e1 e2 e3
 subst e1 e2
 exact ⟨hc j _ (by unfold iv; rw [List.getElem?_map,List.getElem?_eq_getElem (by omega),List.getD_eq_getElem?_getD,List.getElem?_eq_getElem (by omega)]; rfl),hlt⟩
theorem refWeight_any (k r c : Nat) (h : RNetAt w A n cap l Ap NP cp P q) (hk : k < n - 1) (hr : r < szN l (k + 1)) (hc : c < szN l k) :
  Calls Tryz.prog 225 #[rnetV A n cap Ap NP cp q,.int .i64 k,.int .i64 r,.int .i64 c] w fun e w' => e = .returned (.int .i64 (wtR l P k r c)) /\ Below w.heap.size w w' := by
 obtain ⟨ga,oa,gp,op,rfl,rfl⟩ := rnet_some h
 have hfit := h.ok.fit hk
 have hnp := h.ok.np
 have hob : ofN l k + szN l (k + 1) * szN l k = obN l k := rfl
 have hrc : r * szN l k + c < szN l (k + 1) * szN l k := by
  have h1 : (r + 1) * szN l k <= szN l (k + 1) * szN l k := Nat.mul_le_mul_right _ hr
  rw [Nat.succ_mul] at h1
  omega
 have hj : ofN l k + r * szN l k + c < NP := by omega
 obtain ⟨zc,zl⟩ := rnet_sz h.ok (show k < n by omega) h.rl
 obtain ⟨pc,pl⟩ := rnet_p h.ok.pl hj h.rp
 have HWT := hid (fun W (x : Rd W 1 (some ⟨ga,oa,none⟩) n (iv l)) => refWeights_any (some ⟨ga,oa,none⟩) n cap l NP P q W k h.ok x h.cap hk)
 have HR := hid h.rl
 have hkn : k < n := by omega
 unfold wtR
 obtain ⟨s,hs⟩ : ∃ s,szN l k = s := ⟨_,rfl⟩
 obtain ⟨lo,hlo⟩ : ∃ s,ofN l k = s := ⟨_,rfl⟩
 obtain ⟨j,hjj⟩ : ∃ j,lo + r * s + c = j := ⟨_,rfl⟩
 rw [hs,hlo] at hj pc
 rw [hs] at hrc
 rw [hs] at zc
 rw [hlo] at HWT
 rw [hjj] at hj pc
 rw [hs,hlo,hjj]
 obtain ⟨v,hv⟩ : ∃ v,P.getD j 0 = v := ⟨_,rfl⟩
 rw [hv] at pc
 rw [hv]
 obtain ⟨rs,hrs⟩ : ∃ rs,r * s = rs := ⟨_,rfl⟩
 rw [hrs] at hjj hrc
 obtain ⟨t,ht⟩ : ∃ t,lo + rs = t := ⟨_,rfl⟩
 rw [ht] at hjj
 have hwm : wrap64 ((r : Int) * (s : Int)) = (rs : Int) := by
  rw [<- Int.natCast_mul,hrs]
  exact wrapN (by omega)
 have hwa : wrap64 ((lo : Int) + (rs : Int)) = (t : Int) := by
  rw [<- Int.natCast_add,ht]
  exact wrapN (by omega)
 have hwb : wrap64 ((t : Int) + (c : Int)) = (j : Int) := by
  rw [<- Int.natCast_add,hjj]
  exact wrapN (by omega)
 have HWM := hid hwm
 have HWA := hid hwa
 have HWB := hid hwb
 have HPC := hid pc
 have HZC := hid zc
 obtain ⟨ob,hob2⟩ : ∃ ob,obN l k = ob := ⟨_,rfl⟩
 rw [hob2] at HWT
 have HG : Hid (∀ W,w.alloc (.cells (rnetC (some ⟨ga,oa,none⟩) n cap (some ⟨gp,op,none⟩) NP cp q) 202) = W -> Below w.heap.size w W /\ Blk W w.heap.size 202 (rnetC (some ⟨ga,oa,none⟩) n cap (some ⟨gp,op,none⟩) NP cp q)) := hid (by
  rintro W rfl
  exact ⟨(Below.refl _ _).alloc (Nat.le_refl _) _,Blk.new _ _ _⟩)
 clear hwm hwa hwb hrs ht pc zc hob2 hs hlo hjj hv hob hrc hfit hnp h hr hc
 go_enter Tryz.func225,Tryz.ntmps225
 go_wp2_with fail
 obtain ⟨w0,hw0⟩ : ∃ w0,w.alloc (.cells (rnetC (some ⟨ga,oa,none⟩) n cap (some ⟨gp,op,none⟩) NP cp q) 202) = w0 := ⟨_,rfl⟩
 obtain ⟨hB,hI⟩ := HG.out _ hw0
 rw [hw0]
 clear hw0 HG
 have HB := hid hB
 have y0 : w0.cell? ⟨w.heap.size,0,none⟩ = some (.slice (some ⟨ga,oa,none⟩) n cap) := hI.cell 0
 have y1 : w0.cell? ⟨w.heap.size,1,none⟩ = some (.slice (some ⟨gp,op,none⟩) NP cp) := hI.cell 1
 have y2 : w0.cell? ⟨w.heap.size,2,none⟩ = some (.int .i64 q) := hI.cell 2
 have yl := hI.lt
 have zc : w0.cell? ⟨ga,oa + k,none⟩ = some (.int .i64 s) := (HB.out.cell (p := ⟨ga,oa + k,none⟩) zl).trans HZC.out
 have pc : w0.cell? ⟨gp,op + j,none⟩ = some (.int .i64 v) := (HB.out.cell (p := ⟨gp,op + j,none⟩) pl).trans HPC.out
 have zl0 : ga < w0.heap.size := Nat.lt_of_lt_of_le zl HB.out.size
 have pl0 : gp < w0.heap.size := Nat.lt_of_lt_of_le pl HB.out.size
 have hfd : ∀ W : World,(Instr.field 355 (.agg #[.int .i64 lo,.int .i64 ob]) 0).run Tryz.prog W = .ok (.int .i64 lo) W := fun _ => rfl
 have HWT2 := hid (fun (u : KW w0) => HWT.out u.w ((HR.out.below HB.out).below u.h.2.2))
 have hwm := HWM.out
 have hwa := HWA.out
 have hwb := HWB.out
 clear hB hI zl pl
 have KC := fun (u : KW w0) b o h => KW.cells u b o h
 refine wp_region_kept w0 (by kernel_rfl) (by kernel_rfl) (Kept.of (Below.refl _ _)) ?_
 repeat (go_big_quiet_step ((go_at_call 258; with_reducible exact kept_call (HWT2.out _))))
 refine wpQuiet_nil ?_
 rintro w8 ⟨⟨_,k8⟩,rfl⟩
 go_wp2_with fail
 go_ret
 exact ⟨rfl,HB.out.trans (k8.2.2.mono HB.out.size)⟩
theorem refBias_any (k r : Nat) (h : RNetAt w A n cap l Ap NP cp P q) (hk : k < n - 1) (hr : r < szN l (k + 1)) :
  Calls Tryz.prog 257 #[rnetV A n cap Ap NP cp q,.int .i64 k,.int .i64 r] w fun e w' => e = .returned (.int .i64 (bsR l P k r)) /\ Below w.heap.size w w' := by
 obtain ⟨ga,oa,gp,op,rfl,rfl⟩ := rnet_some h
 have hfit := h.ok.fit hk
 have hnp := h.ok.np
 have hj : obN l k + r < NP := by omega
 obtain ⟨pc,pl⟩ := rnet_p h.ok.pl hj h.rp
 have HWT := hid (fun W (x : Rd W 1 (some ⟨ga,oa,none⟩) n (iv l)) => refBiases_any (some ⟨ga,oa,none⟩) n cap l NP P q W k h.ok x h.cap hk)
 have HR := hid h.rl
 unfold bsR
 obtain ⟨lo,hlo⟩ : ∃ s,obN l k = s := ⟨_,rfl⟩
 obtain ⟨j,hjj⟩ : ∃ j,lo + r = j := ⟨_,rfl⟩
 rw [hlo] at hj pc HWT
 rw [hjj] at hj pc
 rw [hlo,hjj]
 obtain ⟨v,hv⟩ : ∃ v,P.getD j 0 = v := ⟨_,rfl⟩
 rw [hv] at pc
 rw [hv]
 have hwb : wrap64 ((lo : Int) + (r : Int)) = (j : Int) := by
  rw [<- Int.natCast_add,hjj]
  exact wrapN (by omega)
 have HWB := hid hwb
 have HPC := hid pc
 obtain ⟨ob,hob2⟩ : ∃ ob,ofN l (k + 1) = ob := ⟨_,rfl⟩
 rw [hob2] at HWT
 have HG : Hid (∀ W,w.alloc (.cells (rnetC (some ⟨ga,oa,none⟩) n cap (some ⟨gp,op,none⟩) NP cp q) 202) = W -> Below w.heap.size w W /\ Blk W w.heap.size 202 (rnetC (some ⟨ga,oa,none⟩) n cap (some ⟨gp,op,none⟩) NP cp q)) := hid (by
  rintro W rfl
  exact ⟨(Below.refl _ _).alloc (Nat.le_refl _) _,Blk.new _ _ _⟩)
 clear hwb pc hob2 hlo hjj hv hfit hnp h hr
 go_enter Tryz.func257,Tryz.ntmps257
 go_wp2_with fail
 obtain ⟨w0,hw0⟩ : ∃ w0,w.alloc (.cells (rnetC (some ⟨ga,oa,none⟩) n cap (some ⟨gp,op,none⟩) NP cp q) 202) = w0 := ⟨_,rfl⟩
 obtain ⟨hB,hI⟩ := HG.out _ hw0
 rw [hw0]
 clear hw0 HG
 have HB := hid hB
 have y0 : w0.cell? ⟨w.heap.size,0,none⟩ = some (.slice (some ⟨ga,oa,none⟩) n cap) := hI.cell 0
 have y1 : w0.cell? ⟨w.heap.size,1,none⟩ = some (.slice (some ⟨gp,op,none⟩) NP cp) := hI.cell 1
 have y2 : w0.cell? ⟨w.heap.size,2,none⟩ = some (.int .i64 q) := hI.cell 2
 have yl := hI.lt
 have pc : w0.cell? ⟨gp,op + j,none⟩ = some (.int .i64 v) := (HB.out.cell (p := ⟨gp,op + j,none⟩) pl).trans HPC.out
 have pl0 : gp < w0.heap.size := Nat.lt_of_lt_of_le pl HB.out.size
 have hfd : ∀ W : World,(Instr.field 355 (.agg #[.int .i64 lo,.int .i64 ob]) 0).run Tryz.prog W = .ok (.int .i64 lo) W := fun _ => rfl
 have HWT2 := hid (fun (u : KW w0) => HWT.out u.w ((HR.out.below HB.out).below u.h.2.2))
 have hwb := HWB.out
 clear hB hI pl
 have KC := fun (u : KW w0) b o h => KW.cells u b o h
 refine wp_region_kept w0 (by kernel_rfl) (by kernel_rfl) (Kept.of (Below.refl _ _)) ?_
 repeat (go_big_quiet_step ((go_at_call 274; with_reducible exact kept_call (HWT2.out _))))
 refine wpQuiet_nil ?_
 rintro w8 ⟨⟨_,k8⟩,rfl⟩
 go_wp2_with fail
 go_ret
 exact ⟨rfl,HB.out.trans (k8.2.2.mono HB.out.size)⟩
def sumR (l P : List Int) (q : Int) (k r : Nat) (x : List Int) : Nat -> Int
 | 0 => bsR l P k r
 | c + 1 => wrap64 (sumR l P q k r x c + mulQ (wtR l P k r c) (x.getD c 0) q)
theorem getD_in {l : List Int} (h : AllIn l) (i : Nat) : In1 (l.getD i 0) := by
 rw [List.getD_eq_getElem?_getD]
 cases e : l[i]? with
 | none => exact ⟨by decide,by decide⟩
 | some x => exact h x (List.mem_of_getElem? e)
theorem refSumN_any (k r N cx : Nat) (X : Option Addr) (x : List Int) (h : RNetAt w A n cap l Ap NP cp P q) (hk : k < n - 1) (hr : r < szN l (k + 1)) (hN : N = szN l k) (hxl : x.length = N) (hx : Rd w 1 X N (iv x)) (hxi : AllIn x) :
  Calls Tryz.prog 223 #[rnetV A n cap Ap NP cp q,.int .i64 k,.int .i64 r,.slice X N cx] w fun e w' => e = .returned (.int .i64 (sumR l P q k r x N)) /\ Below w.heap.size w w' := by
 have hs1 := (h.ok.sz (show k < n by omega)).2.2
 obtain ⟨gx,ox,rfl,hxlt,hxc⟩ := hx.2 (by have := (h.ok.sz (show k < n by omega)).2.1; omega)
 have HBI := hid (fun W (x : RNetAt W A n cap l Ap NP cp P q) => refBias_any A n cap l Ap NP cp P q W k r x hk hr)
 have HWT := hid (fun W c (hc : c < szN l k) (x : RNetAt W A n cap l Ap NP cp P q) => refWeight_any A n cap l Ap NP cp P q W k r c x hk hr hc)
 have HX := hid (fun c (hc : c < N) => show w.cell? ⟨gx,ox + c,none⟩ = some (.int .i64 (x.getD c 0)) from hxc c _ (by unfold iv; rw [List.getElem?_map,List.getElem?_eq_getElem (by omega),List.getD_eq_getElem?_getD,List.getElem?_eq_getElem (by omega)]; rfl))
 have HPI := hid (fun c => (show In1 (wtR l P k r c) from getD_in h.ok.pin _))
 have HXI := hid (fun c => (getD_in hxi c))
 have HH := hid h
 have HNN := hid hN
 have HNB : Hid (N <= 1000) := hid (by omega)
 have HG : Hid (∀ W,w.alloc (.cells (rnetC A n cap Ap NP cp q) 202) = W -> Below w.heap.size w W /\ Blk W w.heap.size 202 (rnetC A n cap Ap NP cp q)) := hid (by
  rintro W rfl
  exact ⟨(Below.refl _ _).alloc (Nat.le_refl _) _,Blk.new _ _ _⟩)
 clear hN hx hxc hxl hs1 h hr
 go_enter Tryz.func223,Tryz.ntmps223
 go_wp2_with fail
 obtain ⟨w0,hw0⟩ : ∃ w0,w.alloc (.cells (rnetC A n cap Ap NP cp q) 202) = w0 := ⟨_,rfl⟩
 obtain ⟨hB,hI⟩ := HG.out _ hw0
 rw [hw0]
 clear hw0 HG
 have HB := hid hB
 have HI := hid hI
 clear hB hI
 have y0 : w0.cell? ⟨w.heap.size,0,none⟩ = some (.slice A n cap) := HI.out.cell 0
 have y1 : w0.cell? ⟨w.heap.size,1,none⟩ = some (.slice Ap NP cp) := HI.out.cell 1
 have y2 : w0.cell? ⟨w.heap.size,2,none⟩ = some (.int .i64 q) := HI.out.cell 2
 have yl := HI.out.lt
 go_wp2_with fail
 ((with_reducible refine (HBI.out _ (HH.out.below HB.out)).mono ?_); rintro e w1 ⟨rfl,hb1⟩)
 have HB1 := hid (HB.out.trans (hb1.mono HB.out.size))
 have HI1 := hid (HI.out.kept hb1)
 clear hb1 y0 y1 y2 yl
 go_wp2_with fail
 go_loopw [9,10] (fun s v wr => ∃ c : Nat,c <= N /\ v = .int .i64 c /\ s = .int .i64 (sumR l P q k r x c) /\ Below w1.heap.size w1 wr) (fun _ v _ => N - (intOf v).toNat)
 case atStart => exact ⟨0,by omega,rfl,rfl,Below.refl _ _⟩
 case round =>
  obtain ⟨c,hc,rfl,rfl,hb⟩ := hrel
  by_cases hlt : c < N
  ·have hIr := HI1.out.kept hb
   have HIR := hid hIr
   have HBR := hid hb
   have HBW := hid (HB1.out.trans (hb.mono HB1.out.size))
   have y0 : wr.cell? ⟨w.heap.size,0,none⟩ = some (.slice A n cap) := hIr.cell 0
   have y1 : wr.cell? ⟨w.heap.size,1,none⟩ = some (.slice Ap NP cp) := hIr.cell 1
   have y2 : wr.cell? ⟨w.heap.size,2,none⟩ = some (.int .i64 q) := hIr.cell 2
   have yl := hIr.lt
   obtain ⟨u,hu⟩ : ∃ u,x.getD c 0 = u := ⟨_,rfl⟩
   obtain ⟨wt,hwt⟩ : ∃ u,wtR l P k r c = u := ⟨_,rfl⟩
   obtain ⟨sm,hsm⟩ : ∃ u,sumR l P q k r x c = u := ⟨_,rfl⟩
   have xc : wr.cell? ⟨gx,ox + c,none⟩ = some (.int .i64 u) := by
    rw [<- hu]
    exact (HBW.out.cell (p := ⟨gx,ox + c,none⟩) hxlt).trans (HX.out c hlt)
   have xl : gx < wr.heap.size := Nat.lt_of_lt_of_le hxlt HBW.out.size
   have hHWT : ∀ u : KW wr,Calls Tryz.prog 225 #[rnetV A n cap Ap NP cp q,.int .i64 k,.int .i64 r,.int .i64 c] u.w fun e w' => e = .returned (.int .i64 wt) /\ Below u.w.heap.size u.w w' := fun u => by
    have := HWT.out u.w c (by have := HNN.out; omega) (((HH.out.below HBW.out)).below u.h.2.2)
    rw [hwt] at this
    exact this
   have HWT2 := hid hHWT
   have HMU := hid (fun (v : KW wr) => refMulQ_any wt u q v.w (by rw [<- hwt]; exact HPI.out c) (by rw [<- hu]; exact HXI.out c))
   have HSN : Hid (wrap64 (sm + mulQ wt u q) = sumR l P q k r x (c + 1)) := hid (by rw [sumR,hu,hwt,hsm])
   rw [hsm]
   have HC := hid hlt
   have r2 : (c : Int) < (N : Int) := by omega
   have hbd := HNB.out
   have KC := fun (u : KW wr) b o h => KW.cells u b o h
   clear hb hIr hu hwt hsm hHWT hlt
   go_wp2_with fail
   refine wp_region_kept wr (by kernel_rfl) (by kernel_rfl) (Kept.of (Below.refl _ _)) ?_
   repeat (go_big_quiet_step (first | (go_at_call 225; with_reducible exact kept_call (HWT2.out _)) | (go_at_call 159; with_reducible exact kept_same (HMU.out _))))
   refine wpQuiet_nil ?_
   rintro w8 ⟨⟨_,k8⟩,rfl⟩
   go_wp2_with fail
   rw [HSN.out]
   go_roundw
   case rel => exact ⟨c + 1,HC.out,by go_num,rfl,HBR.out.trans (k8.2.2.mono HBR.out.size)⟩
   case measure => simp [intOf]; have := HC.out; omega
  ·obtain rfl : c = N := by omega
   have HBW := hid (HB1.out.trans (hb.mono HB1.out.size))
   clear hb
   go_wp2_with fail
   go_ret
   exact ⟨rfl,HBW.out⟩
end
section
open Go.RowKit
theorem slSlices : Sl Tryz.prog 204 26 (.slice none 0 0) 1 24 := ⟨Tryz.underlying204,by kernel_rfl,rfl,by omega⟩
def zR (l : List Int) (n : Nat) (P : List Int) (q : Int) (k : Nat) (x : List Int) (r : Nat) : Int := if k + 1 < n - 1 then gateV (sumR l P q k r x (szN l k)) (sumR l P q k r x (szN l k)) else sumR l P q k r x (szN l k)
def layR (l : List Int) (n : Nat) (P : List Int) (q : Int) (k : Nat) (x : List Int) : List Int := natL (szN l (k + 1)) (zR l n P q k x)
def trR (l : List Int) (n : Nat) (P : List Int) (q : Int) (x : List Int) : Nat -> List Int
 | 0 => x
 | k + 1 => layR l n P q k (trR l n P q x k)
theorem natL_snocR (F : Nat -> Int) (k : Nat) : natL (k + 1) F = natL k F ++ [F k] := by simp [natL,List.range_succ]
theorem trR_length {l : List Int} {n : Nat} {P : List Int} {q : Int} {x : List Int} (hx : x.length = szN l 0) : ∀ k,(trR l n P q x k).length = szN l k
 | 0 => hx
 | k + 1 => natL_length _ _
theorem sumR_in {l P : List Int} {q : Int} {k r : Nat} {x : List Int} (hP : AllIn P) : ∀ c,In1 (sumR l P q k r x c)
 | 0 => getD_in hP _
 | c + 1 => wrap64_in1 _
theorem zR_in {l : List Int} {n : Nat} {P : List Int} {q : Int} {k : Nat} {x : List Int} {r : Nat} (hP : AllIn P) : In1 (zR l n P q k x r) := by
 unfold zR
 split
 ·exact gate_in (sumR_in hP _)
 ·exact sumR_in hP _
theorem trR_in {l : List Int} {n : Nat} {P : List Int} {q : Int} {x : List Int} (hP : AllIn P) (hx : AllIn x) : ∀ k,AllIn (trR l n P q x k)
 | 0 => hx
 | k + 1 => by
  intro v hv
  obtain ⟨i,_,rfl⟩ := List.mem_map.1 hv
  exact zR_in hP
theorem rone_int (x : Int) : ∀ u ∈ (#[Value.int .i64 x] : Array Value).toList,u.oneCell' = true := by
 intro u hu
 obtain rfl : u = .int .i64 x := by simpa using hu
 rfl
theorem rone_sl (A : Option Addr) (n c : Nat) : ∀ u ∈ (#[Value.slice A n c] : Array Value).toList,u.oneCell' = true := by
 intro u hu
 obtain rfl : u = .slice A n c := by simpa using hu
 rfl
def SlT (w : World) (B : Nat) (A : Option Addr) : Prop := ∀ b o,A = some ⟨b,o,none⟩ -> b < B \/ ∃ cur,w.heap[b]? = some (.cells cur 2 (0,0))
theorem SlT.below {w w' : World} {B : Nat} {A : Option Addr} (h : SlT w B A) (hb : Below w.heap.size w w') : SlT w' B A := fun b o e => by
 rcases h b o e with h1 | ⟨cur,h1⟩
 ·exact .inl h1
 ·have hlt : b < w.heap.size := by
   by_cases hl : b < w.heap.size
   ·exact hl
   ·rw [Array.getElem?_eq_none (by omega)] at h1; cases h1
  exact .inr ⟨cur,(hb.block b hlt).trans h1⟩
theorem SlT.own {w : World} {B base : Nat} {A : Option Addr} {n c : Nat} {xs : List Value} (h : w.ownsRow base 2 1 (.slice A n c) n xs) : SlT w B A := fun b o e => by
 rcases h.2 with ⟨h1,_⟩ | ⟨g',cap',cur,h1,_,hgb,_⟩
 ·injection h1 with h1
  rw [h1] at e
  cases e
 ·injection h1 with h1
  rw [h1] at e
  injection e with e
  injection e with e1 e2 e3
  subst e1
  exact .inr ⟨_,hgb⟩
def TrR (w : World) (B : Nat) (l : List Int) (F : Nat -> List Int) (ss : List Sl3') : Prop := ∀ j s,ss[j]? = some s -> s.2.1 = szN l j /\ Rd w 1 s.1 (szN l j) (iv (F j)) /\ SlT w B s.1
theorem TrR.below {w w' : World} {B : Nat} {l : List Int} {F : Nat -> List Int} {ss : List Sl3'} (h : TrR w B l F ss) (hb : Below w.heap.size w w') : TrR w' B l F ss := fun j s hs => ⟨(h j s hs).1,(h j s hs).2.1.below hb,(h j s hs).2.2.below hb⟩
theorem TrR.push {w w' : World} {B : Nat} {l : List Int} {F : Nat -> List Int} {ss : List Sl3'} {v : Value} {n : Nat} {xs : List Value} (h : TrR w B l F ss) (ho : w.ownsRow B 26 1 v n xs) (hg : w.grownBy w' v.ownBlock) : TrR w' B l F ss := by
 intro j s hs
 obtain ⟨h1,h2,h3⟩ := h j s hs
 have hne : ∀ b o,s.1 = some ⟨b,o,none⟩ -> b < w.heap.size -> some b ≠ v.ownBlock := by
  intro b o e hlt e2
  rcases ho.2 with ⟨rfl,_⟩ | ⟨g',cap',cur,rfl,hb,hgb,_⟩
  ·simp [Value.ownBlock] at e2
  ·have e3 : b = g' := by simpa [Value.ownBlock] using e2
   subst e3
   rcases h3 b o e with h4 | ⟨cur',h4⟩
   ·omega
   ·rw [hgb] at h4
    injection h4 with h4
    injection h4 with _ h4 _
    exact absurd h4 (by decide)
 refine ⟨h1,⟨h2.1,fun hn => ?_⟩,fun b o e => ?_⟩
 ·obtain ⟨b,o,e,hlt,hc⟩ := h2.2 hn
  refine ⟨b,o,e,Nat.lt_of_lt_of_le hlt hg.size,fun k u hu => ?_⟩
  rw [World.cell?_of_block (w := w) (hg.block b hlt (hne b o e hlt))]
  exact hc k u hu
 ·rcases h3 b o e with h4 | ⟨cur',h4⟩
  ·exact .inl h4
  ·have hlt : b < w.heap.size := by
    by_cases hl : b < w.heap.size
    ·exact hl
    ·rw [Array.getElem?_eq_none (by omega)] at h4; cases h4
   exact .inr ⟨cur',(hg.block b hlt (hne b o e hlt)).trans h4⟩
theorem TrR.snoc {w : World} {B : Nat} {l : List Int} {F : Nat -> List Int} {ss : List Sl3'} {k : Nat} {s : Sl3'} (h : TrR w B l F ss) (hl : ss.length = k) (h1 : s.2.1 = szN l k) (h2 : Rd w 1 s.1 (szN l k) (iv (F k))) (h3 : SlT w B s.1) : TrR w B l F (ss ++ [s]) := by
 intro j t ht
 by_cases hj : j < ss.length
 ·rw [List.getElem?_append_left hj] at ht
  exact h j t ht
 ·rw [List.getElem?_append_right (by omega)] at ht
  have h0 : j - ss.length = 0 := by
   have := (List.getElem?_eq_some_iff.1 ht).1
   simp at this
   omega
  rw [h0] at ht
  obtain rfl : s = t := by simpa using ht
  obtain rfl : j = k := by omega
  exact ⟨h1,h2,h3⟩
def RTraceRet (l : List Int) (n : Nat) (F : Nat -> List Int) (w : World) (e : Ending) (w' : World) : Prop :=
 ∃ A c ss,e = .returned (.slice A n c) /\ ss.length = n /\ w'.ownsRow w.heap.size 26 1 (.slice A n c) n (ss.map slv) /\ TrR w' w.heap.size l F ss /\ Below w.heap.size w w'
end
section
open Go.RowKit
variable (A : Option Addr) (n cap : Nat) (l : List Int) (Ap : Option Addr) (NP cp : Nat) (P : List Int) (q : Int) (w : World)
theorem refLast_any (hn : 1 <= n) (hn2 : n <= 1000) : Calls Tryz.prog 174 #[rnetV A n cap Ap NP cp q] w fun e w' => e = .returned (.int .i64 ((n - 1 : Nat) : Int)) /\ Below w.heap.size w w' := by
 have HG : Hid (∀ W,w.alloc (.cells (rnetC A n cap Ap NP cp q) 202) = W -> Below w.heap.size w W /\ Blk W w.heap.size 202 (rnetC A n cap Ap NP cp q)) := hid (by
  rintro W rfl
  exact ⟨(Below.refl _ _).alloc (Nat.le_refl _) _,Blk.new _ _ _⟩)
 have hw : ((n - 1 : Nat) : Int) = (n : Int) - 1 := by omega
 rw [hw]
 go_enter Tryz.func174,Tryz.ntmps174
 go_wp2_with fail
 go_ret
 exact ⟨rfl,(HG.out _ rfl).1⟩
theorem refTrace_any (N cx : Nat) (X : Option Addr) (x : List Int) (h : RNetAt w A n cap l Ap NP cp P q) (hN : N = szN l 0) (hxl : x.length = N) (hx : Rd w 1 X N (iv x)) (hxi : AllIn x) :
  Calls Tryz.prog 172 #[rnetV A n cap Ap NP cp q,.slice X N cx] w (RTraceRet l n (trR l n P q x) w) := by
 have hn2 := h.ok.n2
 have hn16 := h.ok.n16
 obtain ⟨ga,oa,gp,op,rfl,rfl⟩ := rnet_some h
 have HLA := hid (fun W => refLast_any (some ⟨ga,oa,none⟩) n cap (some ⟨gp,op,none⟩) NP cp q W (by omega) (by omega))
 have HH := hid h
 have HXI := hid hxi
 have HXL := hid hxl
 have HX := hid hx
 have HNN := hid hN
 have hzl := (rnet_sz h.ok (show 0 < n by omega) h.rl).2
 have HG : Hid (∀ W,w.alloc (.cells (rnetC (some ⟨ga,oa,none⟩) n cap (some ⟨gp,op,none⟩) NP cp q) 202) = W -> Below w.heap.size w W /\ Blk W w.heap.size 202 (rnetC (some ⟨ga,oa,none⟩) n cap (some ⟨gp,op,none⟩) NP cp q)) := hid (by
  rintro W rfl
  exact ⟨(Below.refl _ _).alloc (Nat.le_refl _) _,Blk.new _ _ _⟩)
 clear hxi hxl hx hN h
 go_enter Tryz.func172,Tryz.ntmps172
 go_wp2_with fail
 obtain ⟨w0,hw0⟩ : ∃ w0,w.alloc (.cells (rnetC (some ⟨ga,oa,none⟩) n cap (some ⟨gp,op,none⟩) NP cp q) 202) = w0 := ⟨_,rfl⟩
 obtain ⟨hB,hI⟩ := HG.out _ hw0
 have hs0 : w0.heap.size = w.heap.size + 1 := by rw [<- hw0]; simp
 rw [hw0]
 obtain ⟨w1,hw1⟩ : ∃ w1,w0.alloc (.cells #[.slice X N cx] 26) = w1 := ⟨_,rfl⟩
 rw [hw1]
 have hb1 : Below w0.heap.size w0 w1 := by rw [<- hw1]; exact (Below.refl _ _).alloc (Nat.le_refl _) _
 have ho1 : w1.ownsRow w.heap.size 26 1 (.slice (some ⟨w.heap.size + 1,0,none⟩) 1 1) 1 ([(X,N,cx)].map slv) := by
  rw [<- hw1,<- hs0]
  exact World.ownsRow_lit w0 #[.slice X N cx] 1 (by omega) (by unfold maxLen; omega) rfl
 have HB1 := hid (hB.trans (hb1.mono hB.size))
 have HI1 := hid (hI.kept hb1)
 have HO1 := hid ho1
 have HT1 : Hid (TrR w1 w.heap.size l (trR l n P q x) [(X,N,cx)]) := hid (by
  intro j s hs
  cases j with
  | zero =>
   obtain rfl : (X,N,cx) = s := by simpa using hs
   exact ⟨HNN.out,by rw [<- HNN.out]; exact HX.out.below HB1.out,fun b o e => .inl (by
    obtain ⟨b',o',e',hlt,_⟩ := HX.out.2 (by have := (HH.out.ok.sz (show 0 < n by omega)).2.1; have := HNN.out; omega)
    have e2 : X = some ⟨b,o,none⟩ := e
    rw [e2] at e'
    injection e' with e'
    injection e' with e3 _ _
    omega)⟩
  | succ j => simp at hs)
 clear hw0 hw1 hB hI hs0 hb1 ho1 HG HX
 go_loopw [5,6] (fun o v wr => ∃ (k : Nat) (Ao : Option Addr) (co : Nat) (ss : List Sl3'),k + 1 <= n /\ v = .int .i64 k /\ o = .slice Ao (k + 1) co /\ ss.length = k + 1 /\ wr.ownsRow w.heap.size 26 1 (.slice Ao (k + 1) co) (k + 1) (ss.map slv) /\ TrR wr w.heap.size l (trR l n P q x) ss /\ Below w.heap.size w wr /\ Blk wr w.heap.size 202 (rnetC (some ⟨ga,oa,none⟩) n cap (some ⟨gp,op,none⟩) NP cp q)) (fun _ v _ => n - (intOf v).toNat)
 case atStart => exact ⟨0,_,_,[(X,N,cx)],by omega,rfl,rfl,rfl,HO1.out,HT1.out,HB1.out,HI1.out⟩
 case round =>
  obtain ⟨k,Ao,co,ss,hk,rfl,rfl,hsl,ho,ht,hb,hi⟩ := hrel
  have HO := hid ho
  have HT := hid ht
  have HBW := hid hb
  have HI := hid hi
  have HSL := hid hsl
  have HK := hid hk
  have y0 : wr.cell? ⟨w.heap.size,0,none⟩ = some (.slice (some ⟨ga,oa,none⟩) n cap) := hi.cell 0
  have y1 : wr.cell? ⟨w.heap.size,1,none⟩ = some (.slice (some ⟨gp,op,none⟩) NP cp) := hi.cell 1
  have y2 : wr.cell? ⟨w.heap.size,2,none⟩ = some (.int .i64 q) := hi.cell 2
  have yl := hi.lt
  clear ho ht hb hi hsl
  go_wp2_with fail
  ((with_reducible refine (HLA.out _).mono ?_); rintro e w2 ⟨rfl,hb2⟩)
  obtain ⟨N1,hN1⟩ : ∃ N1,n - 1 = N1 := ⟨_,rfl⟩
  rw [hN1]
  have HBW2 := hid (HBW.out.trans (hb2.mono HBW.out.size))
  have HO2 := hid (own_below HO.out hb2)
  have HT2 := hid (HT.out.below hb2)
  have HI2 := hid (HI.out.kept hb2)
  have HN1 := hid hN1
  clear hb2 y0 y1 y2 yl
  by_cases hlt : k < N1
  ·have hkN : (k : Int) < (N1 : Int) := by omega
   obtain ⟨R,hR⟩ : ∃ R,szN l (k + 1) = R := ⟨_,rfl⟩
   have hR1000 : R <= 1000 := by rw [<- hR]; exact (HH.out.ok.sz (by omega)).2.2
   have HRR := hid hR
   have HLT := hid hlt
   clear hR hlt
   go_wp2_with fail
   go_loopw [7,8] (fun v7 v wx => ∃ (r : Nat) (A7 : Option Addr) (c7 : Nat),r <= R /\ v = .int .i64 r /\ v7 = .slice A7 r c7 /\ wx.ownsRow w2.heap.size 2 1 (.slice A7 r c7) r (iv (natL r (zR l n P q k (trR l n P q x k)))) /\ Below w2.heap.size w2 wx) (fun _ v _ => R - (intOf v).toNat)
   case atStart => exact ⟨0,none,0,by omega,rfl,rfl,World.ownsRow_nil _ _ _ _,Below.refl _ _⟩
   case round =>
    obtain ⟨r,A7,c7,hr,rfl,rfl,ho,hb⟩ := hrel
    have HIr := hid (HI2.out.kept hb)
    have zc := rnet_sz HH.out.ok (show k + 1 < n by omega) (HH.out.rl.below (HBW2.out.trans (hb.mono HBW2.out.size)))
    rw [HRR.out] at zc
    obtain ⟨zc,zl⟩ := zc
    have y0 : wr.cell? ⟨w.heap.size,0,none⟩ = some (.slice (some ⟨ga,oa,none⟩) n cap) := HIr.out.cell 0
    have y1 : wr.cell? ⟨w.heap.size,1,none⟩ = some (.slice (some ⟨gp,op,none⟩) NP cp) := HIr.out.cell 1
    have y2 : wr.cell? ⟨w.heap.size,2,none⟩ = some (.int .i64 q) := HIr.out.cell 2
    have yl := HIr.out.lt
    have hkn : k + 1 < n := by have := HLT.out; have := HN1.out; omega
    by_cases hlt : r < R
    ·obtain ⟨⟨As,ns,cs⟩,hs⟩ : ∃ s,ss[k]? = some s := ⟨_,List.getElem?_eq_getElem (by rw [HSL.out]; omega)⟩
     obtain ⟨e1,hrd,-⟩ := (HT2.out.below hb) k _ hs
     dsimp only at e1 hrd
     subst e1
     obtain ⟨go,rfl⟩ := own_some HO2.out (by omega)
     have hor := own_below HO2.out hb
     have lo := (hor.lt go rfl).2
     have oc : wr.cell? ⟨go,k,none⟩ = some (.slice As (szN l k) cs) := by
      rw [hor.cellAt k (by omega),List.getElem?_map,hs]
      rfl
     obtain ⟨xk,hxk⟩ : ∃ xk,trR l n P q x k = xk := ⟨_,rfl⟩
     rw [hxk] at hrd ho ⊢
     have hxkl : xk.length = szN l k := by rw [<- hxk]; exact trR_length (by rw [HXL.out,HNN.out]) k
     have hxki : AllIn xk := by rw [<- hxk]; exact trR_in HH.out.ok.pin HXI.out k
     obtain ⟨nk,hnk⟩ : ∃ nk,szN l k = nk := ⟨_,rfl⟩
     have hrR : r < szN l (k + 1) := by rw [HRR.out]; exact hlt
     have hSU : ∀ u : KW wr,Calls Tryz.prog 223 #[rnetV (some ⟨ga,oa,none⟩) n cap (some ⟨gp,op,none⟩) NP cp q,.int .i64 k,.int .i64 r,.slice As (szN l k) cs] u.w fun e w' => e = .returned (.int .i64 (sumR l P q k r xk (szN l k))) /\ Below u.w.heap.size u.w w' := fun u =>
      refSumN_any (some ⟨ga,oa,none⟩) n cap l (some ⟨gp,op,none⟩) NP cp P q u.w k r (szN l k) cs As xk ((HH.out.below (HBW2.out.trans (hb.mono HBW2.out.size))).below u.h.2.2) (by omega) hrR rfl hxkl (hrd.below u.h.2.2) hxki
     rw [hnk] at hSU oc
     obtain ⟨sm,hsm⟩ : ∃ sm,sumR l P q k r xk nk = sm := ⟨_,rfl⟩
     rw [hsm] at hSU
     have hzz : zR l n P q k xk r = if k + 1 < n - 1 then gateV sm sm else sm := by unfold zR; rw [hnk,hsm]
     have HZ := hid hzz
     have HSU2 := hid hSU
     have HO7' := hid ho
     have HBX0 := hid hb
     have HRL := hid hlt
     have r2 : (r : Int) < (R : Int) := by omega
     have KC := fun (u : KW wr) b o h => KW.cells u b o h
     clear ho hb hs hrd hor hxk hxkl hxki hnk hrR hSU hsm hzz hlt
     go_wp2_with fail
     refine wp_region_kept wr (by kernel_rfl) (by kernel_rfl) (Kept.of (Below.refl _ _)) ?_
     repeat (go_big_quiet_step ((go_at_call 223; with_reducible exact kept_call (HSU2.out _))))
     refine wpQuiet_nil ?_
     rintro w8 ⟨⟨_,k8⟩,rfl⟩
     rename World => w8
     have HK8 := hid k8
     have HI8 := hid (HIr.out.kept k8.2.2)
     have z0 : w8.cell? ⟨w.heap.size,0,none⟩ = some (.slice (some ⟨ga,oa,none⟩) n cap) := HI8.out.cell 0
     have z1 : w8.cell? ⟨w.heap.size,1,none⟩ = some (.slice (some ⟨gp,op,none⟩) NP cp) := HI8.out.cell 1
     have z2 : w8.cell? ⟨w.heap.size,2,none⟩ = some (.int .i64 q) := HI8.out.cell 2
     have zl2 := HI8.out.lt
     clear k8 KC y0 y1 y2 yl zc zl oc lo
     go_wp2_with fail
     ((with_reducible refine (HLA.out _).mono ?_); rintro e w9 ⟨rfl,hb9⟩)
     rw [HN1.out]
     have HK9 := hid (HK8.out.call hb9)
     clear hb9 z0 z1 z2 zl2
     have HO7 := hid (own_below HO7'.out HK9.out.2.2)
     have HBX := hid (HBX0.out.trans (HK9.out.2.2.mono HBX0.out.size))
     have hszz : w2.heap.size <= w9.heap.size := HBX.out.size
     by_cases h6 : k + 1 < N1
     ·have r6 : (k : Int) + 1 < (N1 : Int) := by omega
      have hkk : k + 1 < n - 1 := by omega
      go_wp2_with fail
      ((with_reducible refine (refGate_any sm sm _).mono ?_); rintro e w10 ⟨rfl,rfl⟩)
      go_wp2_with (at_builtin; go_must (refine wpList_push slI64 rfl _ _ rfl w2.heap.size _ r (iv (natL r (zR l n P q k xk))) rfl HO7.out #[.int .i64 (gateV sm sm)] _ rfl rfl rfl (rone_int _) (by unfold maxLen; omega) (by omega) hszz ?_); go_must (intro A4 c4 w4 hown4 hb4))
      have HO9 := hid (show w4.ownsRow w2.heap.size 2 1 (.slice A4 (r + 1) c4) (r + 1) (iv (natL (r + 1) (zR l n P q k xk))) by
       rw [natL_snocR,iv_append,HZ.out,if_pos hkk]
       exact hown4)
      have HB9 := hid (HBX.out.trans hb4)
      clear hown4 hb4
      go_roundw
      case rel => exact ⟨r + 1,A4,c4,HRL.out,by go_num,rfl,HO9.out,HB9.out⟩
      case measure => simp [intOf]; have := HRL.out; omega
     ·have r6 : ¬ (k : Int) + 1 < (N1 : Int) := by omega
      have hkk : ¬ k + 1 < n - 1 := by omega
      go_wp2_with (at_builtin; go_must (refine wpList_push slI64 rfl _ _ rfl w2.heap.size _ r (iv (natL r (zR l n P q k xk))) rfl HO7.out #[.int .i64 sm] _ rfl rfl rfl (rone_int _) (by unfold maxLen; omega) (by omega) hszz ?_); go_must (intro A4 c4 w4 hown4 hb4))
      have HO9 := hid (show w4.ownsRow w2.heap.size 2 1 (.slice A4 (r + 1) c4) (r + 1) (iv (natL (r + 1) (zR l n P q k xk))) by
       rw [natL_snocR,iv_append,HZ.out,if_neg hkk]
       exact hown4)
      have HB9 := hid (HBX.out.trans hb4)
      clear hown4 hb4
      go_roundw
      case rel => exact ⟨r + 1,A4,c4,HRL.out,by go_num,rfl,HO9.out,HB9.out⟩
      case measure => simp [intOf]; have := HRL.out; omega
    ·obtain rfl : r = R := by omega
     have HO7 := hid ho
     have hor := own_below HO2.out hb
     have HOR := hid hor
     have HTR := hid (HT2.out.below hb)
     have HBX := hid hb
     have hsz : w.heap.size <= wr.heap.size := Nat.le_trans HBW2.out.size hb.size
     have hn16' := HH.out.ok.n16
     clear ho hb hor
     go_wp2_with (at_builtin; go_must (refine wpList_pushG slSlices rfl _ _ rfl w.heap.size _ (k + 1) (ss.map slv) rfl HOR.out #[.slice A7 r c7] _ rfl rfl rfl (rone_sl _ _ _) (by unfold maxLen; omega) (by omega) hsz ?_); go_must (intro A4 c4 w4 hown4 hb4 hg4))
     have hg5 : wr.grownBy w4 (Value.slice Ao (k + 1) co).ownBlock := hg4
     have hrk : r = szN l (k + 1) := HRR.out.symm
     have ht5 := (HTR.out.snoc (s := (A7,r,c7)) HSL.out hrk (by
      have h1 := Rd.of_own HO7.out
      rw [<- hrk]
      show Rd wr 1 A7 r (iv (layR l n P q k (trR l n P q x k)))
      rw [layR,<- hrk]
      exact h1) (SlT.own HO7.out)).push HOR.out hg5
     have hi5 := HIr.out.grown hg5 (fun e => own_blk_ne HOR.out HIr.out (by decide) e.symm)
     have HO9 := hid hown4
     have HT9 := hid ht5
     have HI9 := hid hi5
     have HB9 := hid ((HBW2.out.trans (HBX.out.mono HBW2.out.size)).trans hb4)
     clear hown4 hb4 hg4 hg5 ht5 hi5
     go_roundw
     case rel => exact ⟨k + 1,A4,c4,ss ++ [(A7,r,c7)],by omega,by go_num,rfl,by rw [List.length_append,HSL.out]; rfl,by rw [List.map_append]; exact HO9.out,HT9.out,HB9.out,HI9.out⟩
     case measure => simp [intOf]; omega
  ·have r6 : ¬ (k : Int) < (N1 : Int) := by omega
   obtain rfl : k + 1 = n := by omega
   go_wp2_with fail
   go_ret
   exact ⟨Ao,co,ss,rfl,HSL.out,HO2.out,HT2.out,HBW2.out⟩
end
end Go.Proofs.YtkmaeipoaoikpaaGreat
