/- GFew21, GFew22, GFew, NumsOpen. -/
import Derived.Test.YtkmaeipoaoikpaaGreatEB29
namespace Go.Proofs.YtkmaeipoaoikpaaGreat
set_option linter.all false
set_option maxRecDepth 100000
set_option maxHeartbeats 4000000
open Lib (hid)
section
open Go.RowKit
theorem cntS_ge {l : List Int} (hp : ∀ (k : Nat) (x : Int),l[k]? = some x -> 1 <= x) {k : Nat} (hk : k + 1 < l.length) : 1 <= cntS l (k + 1) := by
 rw [cnt_szN hp (k + 1) hk]
 have h1 := hp (k + 1) _ (List.getElem?_eq_getElem hk)
 have h2 : 1 <= szN l (k + 1) := by
  unfold szN
  rw [List.getD_eq_getElem?_getD,List.getElem?_eq_getElem hk]
  simp only [Option.getD_some]
  omega
 have h3 : ofN l (k + 1) = ofN l k + szN l (k + 1) * szN l k + szN l (k + 1) := rfl
 omega
theorem okIn_pos {l : List Int} {c : Cfg} {es : List ExS} {m P D : Nat} (h : okIn l c es m P D = true) : 1 <= P /\ okCfg l c = true /\ P <= 1048576 + P := by
 unfold okIn at h
 simp only [Bool.and_eq_true,decide_eq_true_eq] at h
 obtain ⟨h1,h2,h3,h4,h5⟩ := h
 obtain ⟨a1,a2,a3,-⟩ := okCfg_nums h1
 obtain ⟨s2,s16,sw,-⟩ := sizesB_nums a3
 have hp : ∀ (k : Nat) (x : Int),l[k]? = some x -> 1 <= x := by
  intro k x hk
  have hm := List.mem_of_getElem? hk
  have h1 : ¬ (l.any fun x => decide (x < 1) || decide (1048576 < x)) = true := by
   have : wrongS l = false := sw
   unfold wrongS at this
   rw [this]
   decide
  rw [List.any_eq_true] at h1
  have h2 : ¬ (decide (x < 1) || decide (1048576 < x)) = true := fun e => h1 ⟨x,hm,e⟩
  simp at h2
  omega
 have h6 := cntS_ge hp (k := l.length - 2) (by omega)
 rw [show l.length - 2 + 1 = l.length - 1 by omega] at h6
 exact ⟨by omega,h1,by omega⟩
def Few21G (n m P D : Nat) (l : List Int) (c : Cfg) (es : List ExS) : Prop := Few14 n m P D l c /\ (okIn l c es m P D = true -> c.mi <= 20 /\ c.wk <= 8 /\ P <= 60)
def Few21GRet (n m P D : Nat) (l : List Int) (c : Cfg) (es : List ExS) (w : World) (e : Ending) (w' : World) : Prop := ∃ b : Bool,e = .returned (.bool b) /\ (b = true -> Few21G n m P D l c es) /\ Below w.heap.size w w'
theorem few21_of {n m P D : Nat} {l : List Int} {c : Cfg} {es : List ExS} (f : Few14 n m P D l c) (h : fewPB n l c P = true) : Few21G n m P D l c es := ⟨f,fun hok => by
 obtain ⟨h1,h2,-⟩ := okIn_pos hok
 have h3 : rightB l c P = true := by
  unfold rightB
  have := f.P600
  rw [h2,decide_eq_true (show (1 : Int) <= (P : Int) by omega),decide_eq_true (show (P : Int) <= 1048576 by omega)]
  rfl
 unfold fewPB at h
 have := f.n40
 rw [if_neg (by omega),if_pos h3] at h
 simp only [Bool.and_eq_true,decide_eq_true_eq] at h
 exact ⟨by omega,by omega,by omega⟩⟩
end
section
open Go.RowKit
variable (A : Option Addr) (n cap : Nat) (l : List Int) (c : Cfg) (S : Option Addr) (m cS : Nat) (es : List ExS) (AP : Option Addr) (P cP : Nat) (AD : Option Addr) (D cD : Nat) (w : World)
theorem few21G_any (hcap : n <= cap) (hln : l.length = n) (hr : Rd w 1 A n (iv l)) (hl : es.length = m) (h : Rd w 2 S m (exV es)) :
  Calls Tryz.prog 30 #[inV A n cap c S m cS AP P cP AD D cD] w (Few21GRet n m P D l c es w) := by
 have HG : Hid (∀ W,w.alloc (.cells (inC A n cap c S m cS AP P cP AD D cD) 29) = W -> Below w.heap.size w W /\ Blk W w.heap.size 29 (inC A n cap c S m cS AP P cP AD D cD)) := hid (by
  rintro W rfl
  exact ⟨(Below.refl _ _).alloc (Nat.le_refl _) _,Blk.new _ _ _⟩)
 have HF := hid (fun W (r1 : Rd W 1 A n (iv l)) (r : Rd W 2 S m (exV es)) => few14_any A n cap l c S m cS es AP P cP AD D cD W hln r1 hl r)
 have HIN := hid (fun W (r1 : Rd W 1 A n (iv l)) (r : Rd W 2 S m (exV es)) (f : Few14 n m P D l c) => refInput_any A n cap l c S m cS es AP P cP AD D cD W hln r1 hcap (by have := f.n40; omega) hl r (by have := f.m60; omega) (by have := f.P600; omega) (by have := f.D2000; omega) (fun e => by have := f.st e; omega))
 have HPL := hid (fun W => plan21_any A n cap c S m cS AP P cP AD D cD W)
 have HPF := hid (fun W (r1 : Rd W 1 A n (iv l)) => refFew_any A n cap l c P W hln r1)
 have HR := hid h
 have HQ := hid hr
 clear h hl hln hr hcap
 go_enter Tryz.func30,Tryz.ntmps30
 go_wp2_with fail
 obtain ⟨w0,hw0⟩ : ∃ w0,w.alloc (.cells (inC A n cap c S m cS AP P cP AD D cD) 29) = w0 := ⟨_,rfl⟩
 obtain ⟨hB,hI⟩ := HG.out _ hw0
 rw [hw0]
 clear hw0 HG
 have HB := hid hB
 have HI := hid hI
 ((with_reducible refine (HF.out _ (HQ.out.below hB) (HR.out.below hB)).mono ?_); rintro e w1 ⟨b,rfl,hbt,hb1⟩)
 have HB1 := hid (HB.out.trans (hb1.mono HB.out.size))
 have HI1 := hid (HI.out.kept hb1)
 have HBT := hid hbt
 clear hB hI hbt hb1 HB HI
 cases b
 ·go_wp2_with fail
  go_ret
  exact ⟨false,rfl,fun e => by simp at e,HB1.out⟩
 ·have hf : Few14 n m P D l c := HBT.out (by trivial)
  have HFT := hid hf
  clear hf HBT
  have k := HI1.out
  have c0 : w1.cell? ⟨w.heap.size,0,none⟩ = some (.slice A n cap) := k.cell 0
  have c1 : w1.cell? ⟨w.heap.size,1,none⟩ = some (.int .i64 c.sh) := k.cell 1
  have c2 : w1.cell? ⟨w.heap.size,2,none⟩ = some (.int .i64 c.ra) := k.cell 2
  have c3 : w1.cell? ⟨w.heap.size,3,none⟩ = some (.int .i64 c.mo) := k.cell 3
  have c4 : w1.cell? ⟨w.heap.size,4,none⟩ = some (.int .i64 c.wk) := k.cell 4
  have c5 : w1.cell? ⟨w.heap.size,5,none⟩ = some (.int .i64 c.ba) := k.cell 5
  have c6 : w1.cell? ⟨w.heap.size,6,none⟩ = some (.int .i64 c.mi) := k.cell 6
  have c7 : w1.cell? ⟨w.heap.size,7,none⟩ = some (.int .i64 c.st) := k.cell 7
  have c8 : w1.cell? ⟨w.heap.size,8,none⟩ = some (.int .i64 c.bu) := k.cell 8
  have c9 : w1.cell? ⟨w.heap.size,9,none⟩ = some (.int .i64 c.ch) := k.cell 9
  have c10 : w1.cell? ⟨w.heap.size,10,none⟩ = some (.int .i64 c.wi) := k.cell 10
  have c11 : w1.cell? ⟨w.heap.size,11,none⟩ = some (.int .i64 c.ca) := k.cell 11
  have c12 : w1.cell? ⟨w.heap.size,12,none⟩ = some (.slice S m cS) := k.cell 12
  have c13 : w1.cell? ⟨w.heap.size,13,none⟩ = some (.slice AP P cP) := k.cell 13
  have c14 : w1.cell? ⟨w.heap.size,14,none⟩ = some (.slice AD D cD) := k.cell 14
  have lc := k.lt
  clear k
  go_wp2_with fail
  clear c0 c1 c2 c3 c4 c5 c6 c7 c8 c9 c10 c11 c12 c13 c14 lc
  ((with_reducible refine (HIN.out w1 (HQ.out.below HB1.out) (HR.out.below HB1.out) HFT.out).mono ?_); rintro e w2 ⟨cd,rfl,hcd,hb2⟩)
  have HB2 := hid (HB1.out.trans (hb2.mono HB1.out.size))
  have HI2 := hid (HI1.out.kept hb2)
  have HCD := hid hcd
  clear hcd hb2
  by_cases h0 : cd = 0
  ·subst h0
   have k := HI2.out
   have c0 : w2.cell? ⟨w.heap.size,0,none⟩ = some (.slice A n cap) := k.cell 0
   have c1 : w2.cell? ⟨w.heap.size,1,none⟩ = some (.int .i64 c.sh) := k.cell 1
   have c2 : w2.cell? ⟨w.heap.size,2,none⟩ = some (.int .i64 c.ra) := k.cell 2
   have c3 : w2.cell? ⟨w.heap.size,3,none⟩ = some (.int .i64 c.mo) := k.cell 3
   have c4 : w2.cell? ⟨w.heap.size,4,none⟩ = some (.int .i64 c.wk) := k.cell 4
   have c5 : w2.cell? ⟨w.heap.size,5,none⟩ = some (.int .i64 c.ba) := k.cell 5
   have c6 : w2.cell? ⟨w.heap.size,6,none⟩ = some (.int .i64 c.mi) := k.cell 6
   have c7 : w2.cell? ⟨w.heap.size,7,none⟩ = some (.int .i64 c.st) := k.cell 7
   have c8 : w2.cell? ⟨w.heap.size,8,none⟩ = some (.int .i64 c.bu) := k.cell 8
   have c9 : w2.cell? ⟨w.heap.size,9,none⟩ = some (.int .i64 c.ch) := k.cell 9
   have c10 : w2.cell? ⟨w.heap.size,10,none⟩ = some (.int .i64 c.wi) := k.cell 10
   have c11 : w2.cell? ⟨w.heap.size,11,none⟩ = some (.int .i64 c.ca) := k.cell 11
   have c12 : w2.cell? ⟨w.heap.size,12,none⟩ = some (.slice S m cS) := k.cell 12
   have c13 : w2.cell? ⟨w.heap.size,13,none⟩ = some (.slice AP P cP) := k.cell 13
   have c14 : w2.cell? ⟨w.heap.size,14,none⟩ = some (.slice AD D cD) := k.cell 14
   have lc := k.lt
   clear k
   go_wp2_with fail
   clear c0 c1 c2 c3 c4 c5 c6 c7 c8 c9 c10 c11 c12 c13 c14 lc
   ((with_reducible refine (HPL.out w2).mono ?_); rintro e w3 ⟨rfl,hb3⟩)
   have HB3 := hid (HB2.out.trans (hb3.mono HB2.out.size))
   have HI3 := hid (HI2.out.kept hb3)
   clear hb3
   go_wp2_with fail
   ((with_reducible refine (HPF.out w3 (HQ.out.below HB3.out)).mono ?_); rintro e w4 ⟨rfl,hb4⟩)
   have HB4 := hid (HB3.out.trans (hb4.mono HB3.out.size))
   have k := HI3.out.kept hb4
   have c7 : w4.cell? ⟨w.heap.size,7,none⟩ = some (.int .i64 c.st) := k.cell 7
   have c12 : w4.cell? ⟨w.heap.size,12,none⟩ = some (.slice S m cS) := k.cell 12
   have lc := k.lt
   obtain ⟨q,hq⟩ : ∃ q,fewPB n l c P = q := ⟨_,rfl⟩
   rw [hq]
   have fin : ∀ (b : Bool) (W : World),(b = true -> q = true) -> Below w.heap.size w W -> Few21GRet n m P D l c es w (.returned (.bool b)) W := fun b W hqb hb => ⟨b,rfl,fun e => few21_of HFT.out (hq.trans (hqb e)),hb⟩
   clear hb4 k hq
   have FIN := hid fin
   clear fin
   cases q
   ·go_wp2_with fail
    go_ret
    exact FIN.out _ _ (by simp) HB4.out
   ·by_cases f1 : c.st <= 6
    ·have g1 : decide (c.st <= 6) = true := decide_eq_true f1
     by_cases f2 : m <= 40
     ·have g2 : decide ((m : Int) <= 40) = true := decide_eq_true (by omega)
      clear f1 f2
      go_wp2_with fail
      go_ret
      exact FIN.out _ _ (by simp) HB4.out
     ·have g2 : decide ((m : Int) <= 40) = false := decide_eq_false (by omega)
      clear f1 f2
      go_wp2_with fail
      go_ret
      exact FIN.out _ _ (by simp) HB4.out
    ·have g1 : decide (c.st <= 6) = false := decide_eq_false f1
     clear f1
     go_wp2_with fail
     go_ret
     exact FIN.out _ _ (by simp) HB4.out
  ·have e5 : (cd == 0) = false := by simp [h0]
   go_wp2_with fail
   go_ret
   exact ⟨_,rfl,fun _ => ⟨HFT.out,fun hok => absurd (HCD.out.2 hok) h0⟩,HB2.out⟩
end
section
open Go.RowKit
def Few22G (n m P D : Nat) (l : List Int) (c : Cfg) (es : List ExS) : Prop := Few14 n m P D l c /\ (okIn l c es m P D = true -> c.mi <= 20 /\ c.wk <= 6 /\ P <= 40 /\ c.st <= 5)
def Few22GRet (n m P D : Nat) (l : List Int) (c : Cfg) (es : List ExS) (w : World) (e : Ending) (w' : World) : Prop := ∃ b : Bool,e = .returned (.bool b) /\ (b = true -> Few22G n m P D l c es) /\ Below w.heap.size w w'
end
section
open Go.RowKit
variable (A : Option Addr) (n cap : Nat) (l : List Int) (c : Cfg) (S : Option Addr) (m cS : Nat) (es : List ExS) (AP : Option Addr) (P cP : Nat) (AD : Option Addr) (D cD : Nat) (w : World)
theorem few22G_any (hcap : n <= cap) (hln : l.length = n) (hr : Rd w 1 A n (iv l)) (hl : es.length = m) (h : Rd w 2 S m (exV es)) :
  Calls Tryz.prog 7 #[inV A n cap c S m cS AP P cP AD D cD] w (Few22GRet n m P D l c es w) := by
 have HG : Hid (∀ W,w.alloc (.cells (inC A n cap c S m cS AP P cP AD D cD) 29) = W -> Below w.heap.size w W /\ Blk W w.heap.size 29 (inC A n cap c S m cS AP P cP AD D cD)) := hid (by
  rintro W rfl
  exact ⟨(Below.refl _ _).alloc (Nat.le_refl _) _,Blk.new _ _ _⟩)
 have HF := hid (fun W (r1 : Rd W 1 A n (iv l)) (r : Rd W 2 S m (exV es)) => few21G_any A n cap l c S m cS es AP P cP AD D cD W hcap hln r1 hl r)
 have HIN := hid (fun W (r1 : Rd W 1 A n (iv l)) (r : Rd W 2 S m (exV es)) (f : Few14 n m P D l c) => refInput_any A n cap l c S m cS es AP P cP AD D cD W hln r1 hcap (by have := f.n40; omega) hl r (by have := f.m60; omega) (by have := f.P600; omega) (by have := f.D2000; omega) (fun e => by have := f.st e; omega))
 have HR := hid h
 have HQ := hid hr
 clear h hl hln hr hcap
 go_enter Tryz.func7,Tryz.ntmps7
 go_wp2_with fail
 obtain ⟨w0,hw0⟩ : ∃ w0,w.alloc (.cells (inC A n cap c S m cS AP P cP AD D cD) 29) = w0 := ⟨_,rfl⟩
 obtain ⟨hB,hI⟩ := HG.out _ hw0
 rw [hw0]
 clear hw0 HG
 have HB := hid hB
 have HI := hid hI
 ((with_reducible refine (HF.out _ (HQ.out.below hB) (HR.out.below hB)).mono ?_); rintro e w1 ⟨b,rfl,hbt,hb1⟩)
 have HB1 := hid (HB.out.trans (hb1.mono HB.out.size))
 have HI1 := hid (HI.out.kept hb1)
 have HBT := hid hbt
 clear hB hI hbt hb1 HB HI
 cases b
 ·go_wp2_with fail
  go_ret
  exact ⟨false,rfl,fun e => by simp at e,HB1.out⟩
 ·have hf := HBT.out (by trivial)
  have HFT := hid hf.1
  have HFG := hid hf.2
  clear hf HBT
  have k := HI1.out
  have c0 : w1.cell? ⟨w.heap.size,0,none⟩ = some (.slice A n cap) := k.cell 0
  have c1 : w1.cell? ⟨w.heap.size,1,none⟩ = some (.int .i64 c.sh) := k.cell 1
  have c2 : w1.cell? ⟨w.heap.size,2,none⟩ = some (.int .i64 c.ra) := k.cell 2
  have c3 : w1.cell? ⟨w.heap.size,3,none⟩ = some (.int .i64 c.mo) := k.cell 3
  have c4 : w1.cell? ⟨w.heap.size,4,none⟩ = some (.int .i64 c.wk) := k.cell 4
  have c5 : w1.cell? ⟨w.heap.size,5,none⟩ = some (.int .i64 c.ba) := k.cell 5
  have c6 : w1.cell? ⟨w.heap.size,6,none⟩ = some (.int .i64 c.mi) := k.cell 6
  have c7 : w1.cell? ⟨w.heap.size,7,none⟩ = some (.int .i64 c.st) := k.cell 7
  have c8 : w1.cell? ⟨w.heap.size,8,none⟩ = some (.int .i64 c.bu) := k.cell 8
  have c9 : w1.cell? ⟨w.heap.size,9,none⟩ = some (.int .i64 c.ch) := k.cell 9
  have c10 : w1.cell? ⟨w.heap.size,10,none⟩ = some (.int .i64 c.wi) := k.cell 10
  have c11 : w1.cell? ⟨w.heap.size,11,none⟩ = some (.int .i64 c.ca) := k.cell 11
  have c12 : w1.cell? ⟨w.heap.size,12,none⟩ = some (.slice S m cS) := k.cell 12
  have c13 : w1.cell? ⟨w.heap.size,13,none⟩ = some (.slice AP P cP) := k.cell 13
  have c14 : w1.cell? ⟨w.heap.size,14,none⟩ = some (.slice AD D cD) := k.cell 14
  have lc := k.lt
  clear k
  go_wp2_with fail
  clear c0 c1 c2 c3 c4 c5 c6 c7 c8 c9 c10 c11 c12 c13 c14 lc
  ((with_reducible refine (HIN.out w1 (HQ.out.below HB1.out) (HR.out.below HB1.out) HFT.out).mono ?_); rintro e w2 ⟨cd,rfl,hcd,hb2⟩)
  have HB2 := hid (HB1.out.trans (hb2.mono HB1.out.size))
  have HI2 := hid (HI1.out.kept hb2)
  have HCD := hid hcd
  clear hcd hb2
  by_cases h0 : cd = 0
  ·subst h0
   have k := HI2.out
   have c4 : w2.cell? ⟨w.heap.size,4,none⟩ = some (.int .i64 c.wk) := k.cell 4
   have c7 : w2.cell? ⟨w.heap.size,7,none⟩ = some (.int .i64 c.st) := k.cell 7
   have c13 : w2.cell? ⟨w.heap.size,13,none⟩ = some (.slice AP P cP) := k.cell 13
   have lc := k.lt
   have fin : ∀ (b : Bool) (W : World),(b = true -> c.wk <= 6 /\ c.st <= 5 /\ P <= 40) -> Below w.heap.size w W -> Few22GRet n m P D l c es w (.returned (.bool b)) W := fun b W hx hb => ⟨b,rfl,fun e => ⟨HFT.out,fun hok => ⟨(HFG.out hok).1,(hx e).1,(hx e).2.2,(hx e).2.1⟩⟩,hb⟩
   have FIN := hid fin
   clear fin k
   by_cases f0 : c.wk <= 6
   ·have g0 : decide (c.wk <= 6) = true := decide_eq_true (by omega)
    have F0 := hid f0
    clear f0
    by_cases f1 : c.st <= 5
    ·have g1 : decide (c.st <= 5) = true := decide_eq_true (by omega)
     have F1 := hid f1
     clear f1
     by_cases f2 : P <= 40
     ·have g2 : decide ((P : Int) <= 40) = true := decide_eq_true (by omega)
      have F2 := hid f2
      clear f2
      go_wp2_with fail
      go_ret
      exact FIN.out _ _ (fun _ => ⟨F0.out,F1.out,F2.out⟩) HB2.out
     ·have g2 : decide ((P : Int) <= 40) = false := decide_eq_false (by omega)
      have F2 := hid f2
      clear f2
      go_wp2_with fail
      go_ret
      exact FIN.out _ _ (fun e => by simp at e) HB2.out
    ·have g1 : decide (c.st <= 5) = false := decide_eq_false (by omega)
     have F1 := hid f1
     clear f1
     go_wp2_with fail
     go_ret
     exact FIN.out _ _ (fun e => by simp at e) HB2.out
   ·have g0 : decide (c.wk <= 6) = false := decide_eq_false (by omega)
    have F0 := hid f0
    clear f0
    go_wp2_with fail
    go_ret
    exact FIN.out _ _ (fun e => by simp at e) HB2.out
  ·have e5 : (cd == 0) = false := by simp [h0]
   go_wp2_with fail
   go_ret
   exact ⟨_,rfl,fun _ => ⟨HFT.out,fun hok => absurd (HCD.out.2 hok) h0⟩,HB2.out⟩
end
section
open Go.RowKit
structure FewG (n m P D : Nat) (l : List Int) (c : Cfg) (es : List ExS) : Prop where
 few : Few14 n m P D l c
 ok : okIn l c es m P D = true
 mi : c.mi <= 20
 wk : c.wk <= 6
 P40 : P <= 40
 st5 : c.st <= 5
def FewGRet (n m P D : Nat) (l : List Int) (c : Cfg) (es : List ExS) (w : World) (e : Ending) (w' : World) : Prop := ∃ b : Bool,e = .returned (.bool b) /\ (b = true -> FewG n m P D l c es) /\ Below w.heap.size w w'
end
section
open Go.RowKit
variable (A : Option Addr) (n cap : Nat) (l : List Int) (c : Cfg) (S : Option Addr) (m cS : Nat) (es : List ExS) (AP : Option Addr) (P cP : Nat) (AD : Option Addr) (D cD : Nat) (w : World)
theorem fewTopG_any (AO : Option Addr) (no cO : Nat) (hcap : n <= cap) (hln : l.length = n) (hr : Rd w 1 A n (iv l)) (hl : es.length = m) (h : Rd w 2 S m (exV es)) :
  Calls Tryz.prog 17 #[inV A n cap c S m cS AP P cP AD D cD,.slice AO no cO] w (FewGRet n m P D l c es w) := by
 have HG : Hid (∀ W,w.alloc (.cells (inC A n cap c S m cS AP P cP AD D cD) 29) = W -> Below w.heap.size w W /\ Blk W w.heap.size 29 (inC A n cap c S m cS AP P cP AD D cD)) := hid (by
  rintro W rfl
  exact ⟨(Below.refl _ _).alloc (Nat.le_refl _) _,Blk.new _ _ _⟩)
 have HF := hid (fun W (r1 : Rd W 1 A n (iv l)) (r : Rd W 2 S m (exV es)) => few22G_any A n cap l c S m cS es AP P cP AD D cD W hcap hln r1 hl r)
 have HIN := hid (fun W (r1 : Rd W 1 A n (iv l)) (r : Rd W 2 S m (exV es)) (f : Few14 n m P D l c) => refInput_any A n cap l c S m cS es AP P cP AD D cD W hln r1 hcap (by have := f.n40; omega) hl r (by have := f.m60; omega) (by have := f.P600; omega) (by have := f.D2000; omega) (fun e => by have := f.st e; omega))
 have HR := hid h
 have HQ := hid hr
 clear h hl hln hr hcap
 go_enter Tryz.func17,Tryz.ntmps17
 go_wp2_with fail
 obtain ⟨w0,hw0⟩ : ∃ w0,w.alloc (.cells (inC A n cap c S m cS AP P cP AD D cD) 29) = w0 := ⟨_,rfl⟩
 obtain ⟨hB,hI⟩ := HG.out _ hw0
 rw [hw0]
 clear hw0 HG
 have HB := hid hB
 have HI := hid hI
 ((with_reducible refine (HF.out _ (HQ.out.below hB) (HR.out.below hB)).mono ?_); rintro e w1 ⟨b,rfl,hbt,hb1⟩)
 have HB1 := hid (HB.out.trans (hb1.mono HB.out.size))
 have HI1 := hid (HI.out.kept hb1)
 have HBT := hid hbt
 clear hB hI hbt hb1 HB HI
 cases b
 ·go_wp2_with fail
  go_ret
  exact ⟨false,rfl,fun e => by simp at e,HB1.out⟩
 ·have hf := HBT.out (by trivial)
  have HFT := hid hf.1
  have HFG := hid hf.2
  clear hf HBT
  have k := HI1.out
  have c0 : w1.cell? ⟨w.heap.size,0,none⟩ = some (.slice A n cap) := k.cell 0
  have c1 : w1.cell? ⟨w.heap.size,1,none⟩ = some (.int .i64 c.sh) := k.cell 1
  have c2 : w1.cell? ⟨w.heap.size,2,none⟩ = some (.int .i64 c.ra) := k.cell 2
  have c3 : w1.cell? ⟨w.heap.size,3,none⟩ = some (.int .i64 c.mo) := k.cell 3
  have c4 : w1.cell? ⟨w.heap.size,4,none⟩ = some (.int .i64 c.wk) := k.cell 4
  have c5 : w1.cell? ⟨w.heap.size,5,none⟩ = some (.int .i64 c.ba) := k.cell 5
  have c6 : w1.cell? ⟨w.heap.size,6,none⟩ = some (.int .i64 c.mi) := k.cell 6
  have c7 : w1.cell? ⟨w.heap.size,7,none⟩ = some (.int .i64 c.st) := k.cell 7
  have c8 : w1.cell? ⟨w.heap.size,8,none⟩ = some (.int .i64 c.bu) := k.cell 8
  have c9 : w1.cell? ⟨w.heap.size,9,none⟩ = some (.int .i64 c.ch) := k.cell 9
  have c10 : w1.cell? ⟨w.heap.size,10,none⟩ = some (.int .i64 c.wi) := k.cell 10
  have c11 : w1.cell? ⟨w.heap.size,11,none⟩ = some (.int .i64 c.ca) := k.cell 11
  have c12 : w1.cell? ⟨w.heap.size,12,none⟩ = some (.slice S m cS) := k.cell 12
  have c13 : w1.cell? ⟨w.heap.size,13,none⟩ = some (.slice AP P cP) := k.cell 13
  have c14 : w1.cell? ⟨w.heap.size,14,none⟩ = some (.slice AD D cD) := k.cell 14
  have lc := k.lt
  clear k
  go_wp2_with fail
  clear c0 c1 c2 c3 c4 c5 c6 c7 c8 c9 c10 c11 c12 c13 c14 lc
  ((with_reducible refine (HIN.out w1 (HQ.out.below HB1.out) (HR.out.below HB1.out) HFT.out).mono ?_); rintro e w2 ⟨cd,rfl,hcd,hb2⟩)
  have HB2 := hid (HB1.out.trans (hb2.mono HB1.out.size))
  have HI2 := hid (HI1.out.kept hb2)
  have HCD := hid hcd
  clear hcd hb2
  by_cases h0 : cd = 0
  ·subst h0
   have HOK := hid (HCD.out.1 rfl)
   clear HCD
   by_cases f0 : no <= 300
   ·have g0 : decide ((no : Int) <= 300) = true := decide_eq_true (by omega)
    clear f0
    go_wp2_with fail
    go_ret
    exact ⟨_,rfl,fun _ => ⟨HFT.out,HOK.out,(HFG.out HOK.out).1,(HFG.out HOK.out).2.1,(HFG.out HOK.out).2.2.1,(HFG.out HOK.out).2.2.2⟩,HB2.out⟩
   ·have g0 : decide ((no : Int) <= 300) = false := decide_eq_false (by omega)
    clear f0
    go_wp2_with fail
    go_ret
    exact ⟨_,rfl,fun e => by simp at e,HB2.out⟩
  ·have e5 : (cd == 0) = false := by simp [h0]
   clear HCD
   go_wp2_with fail
   go_ret
   exact ⟨_,rfl,fun e => by simp at e,HB2.out⟩
end
section
open Go.ChangeShapes Go.WideShapes Go.ChangeAt Go.RowKit
theorem rd_of_cells {w : World} {a : Addr} {n : Nat} {xs : List Value} (hn : xs.length = n) (h : ∀ i u,xs[i]? = some u -> w.cell? (a.add i) = some u) : Rd w 1 (some a) n xs := by
 refine ⟨by omega,fun h0 => ?_⟩
 obtain ⟨b,o,sp⟩ := a
 have h0' := h 0 xs[0] (List.getElem?_eq_getElem (by omega))
 have hs : sp = none := by
  have := World.cell?_spot h0'
  simpa [Addr.add] using this
 subst hs
 refine ⟨b,o,rfl,?_,fun j u hu => ?_⟩
 ·have := World.block_lt_of_cell? w _ h0'
  simpa [Addr.add] using this
 ·have hc := h j u hu
  rwa [show ((⟨b,o,none⟩ : Addr).add j) = ⟨b,o + j,none⟩ by unfold Addr.add; by_cases hj : j = 0 <;> simp [hj]] at hc
end
section
open Go.ChangeShapes Go.WideShapes Go.ChangeAt Go.RowKit
variable {H : Type} {enc : TypeId × Value → H} {P : Program} {w : World} {base : Nat} {spare : Nat → Bool} {held : Bool} {r : Reach} {b0 : Nat} {t e : TypeId} {v : Value} {d : DataW H} {p : List MemPlace}
theorem nums_of {k : IntKind} {fuel : Nat} {c : Value} {x : DataW H × List MemPlace} (ht : P.underlying t = some (.slice e)) (he : P.underlying e = some (.int k)) (hc : P.cellsOf e = 1)
  (h : DataW.trod enc P w base spare held fuel t [c] = some x) :
  ∃ (A : Option Addr) (n cap : Nat) (l : List Int),c = .slice A n cap /\ (n <= 9223372036854775807 /\ n <= cap /\ cap <= 9223372036854775807) /\ l.length = n /\ Rd w 1 A n (l.map (Value.int k)) /\ (∀ z ∈ l,(Lit.int k z).wf = true) /\
   ((n = 0 /\ x.1 = .nil) \/ ∃ es sp,x.1 = .slice es sp /\ n <= es.length + sp.length) := by
 rcases Go.Deep.open_slice1 ht hc h with ⟨hcs,hx⟩ | ⟨a,n,cap,m,fu,V,D,Pl,hcs,_,hl,hm,hmm,hx,hi⟩
 ·simp at hcs
  subst hcs
  exact ⟨none,0,0,[],rfl,by simp,rfl,Rd.nil _ _ _,by simp,.inl ⟨rfl,by rw [hx]⟩⟩
 ·simp at hcs
  subst hcs
  have hnm : n <= m := by rw [hmm]; split <;> omega
  have hall : ∀ i,i < n -> ∃ z : Int,V i = .int k z /\ (Lit.int k z).wf = true := by
   intro i him
   obtain ⟨_,ht⟩ := hi i (by omega)
   obtain ⟨n5,h5,w5⟩ := int_of he ht
   exact ⟨n5,h5,w5⟩
  obtain ⟨f,hf'⟩ := Go.Deep.choose_lt hall
  refine ⟨some a,n,cap,(List.range n).map f,rfl,by unfold maxLen at hm; omega,by simp,rd_of_cells (by simp) (fun i u hu => ?_),?_,.inr ⟨_,_,by rw [hx],by simp⟩⟩
  ·have hin : i < n := by have := (List.getElem?_eq_some_iff.1 hu).1; simpa using this
   rw [(hi i (by omega)).1,(hf' i hin).1,<- hu]
   simp [hin]
  ·intro x hx
   simp only [List.mem_map,List.mem_range] at hx
   obtain ⟨i,hi,rfl⟩ := hx
   exact (hf' i hi).2
end
end Go.Proofs.YtkmaeipoaoikpaaGreat
