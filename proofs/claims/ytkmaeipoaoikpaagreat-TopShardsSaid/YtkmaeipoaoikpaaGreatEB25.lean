/- SmpBatch, PlanMeth, MachP. -/
import Derived.Test.YtkmaeipoaoikpaaGreatEB14
import Derived.Test.YtkmaeipoaoikpaaGreatEB24
namespace Go.Proofs.YtkmaeipoaoikpaaGreat
set_option linter.all false
set_option maxRecDepth 100000
set_option maxHeartbeats 2000000
open Lib (hid)
section
open Go.RowKit
def batchL (L : List Int) (n b q : Nat) (st t : Int) : List Int := if 0 <= t /\ t < st then ((pemL L n (t.toNat / q * (n - 1))).drop (t.toNat % q * b)).take b else []
theorem batchL_le (L : List Int) (n b q : Nat) (st t : Int) (hbn : b <= n) : (batchL L n b q st t).length <= n := by
 rw [batchL]
 split
 ·simp; omega
 ·simp
end
section
open Go.RowKit
variable (base bs b st q E n : Nat) (L : List Int) (w : World)
theorem steps_any (os : List (List Int)) (bl : List (Int × Int)) (h : SmpAt w base bs b st q E bl os) : Calls Tryz.prog 221 #[.pointer (some ⟨bs,0,none⟩)] w fun e w' => e = .returned (.int .i64 st) /\ w = w' := by
 obtain ⟨_,Ab,cb,Ao,co,vs,hb,_,_,_⟩ := h
 have c1 : w.cell? ⟨bs,1,none⟩ = some (.int .i64 st) := hb.cell 1
 have l1 := hb.lt
 clear hb
 go_enter Tryz.func221,Tryz.ntmps221
 go_wp2
 go_ret
 exact ⟨rfl,rfl⟩
theorem epoch_no (t : Int) (os : List (List Int)) (bl : List (Int × Int)) (h : SmpAt w base bs b st q E bl os) (ht : t < 0 \/ st <= t) :
  Calls Tryz.prog 170 #[.pointer (some ⟨bs,0,none⟩),.int .i64 t] w fun e w' => e = .returned (.tuple #[.int .i64 0,.int .i64 0,.bool false]) /\ w = w' := by
 have HS := hid (steps_any base bs b st q E w os bl h)
 clear h
 by_cases h1 : t < 0
 ·have e1 : decide (t < 0) = true := decide_eq_true h1
  clear ht
  go_enter Tryz.func170,Tryz.ntmps170
  go_wp2_with fail
  exact bodyPost_ret (v := .tuple #[.int .i64 0,.int .i64 0,.bool false]) (by simp [results,Tryz.results170,go_sem]) rfl ⟨rfl,rfl⟩
 ·have e1 : decide (t < 0) = false := decide_eq_false h1
  have e2 : decide ((st : Int) <= t) = true := decide_eq_true (by omega)
  clear ht
  go_enter Tryz.func170,Tryz.ntmps170
  go_wp2_with fail
  ((with_reducible refine HS.out.mono ?_); rintro e w1 ⟨rfl,rfl⟩)
  go_wp2_with fail
  exact bodyPost_ret (v := .tuple #[.int .i64 0,.int .i64 0,.bool false]) (by simp [results,Tryz.results170,go_sem]) rfl ⟨rfl,rfl⟩
theorem epoch_yes (t : Nat) (os : List (List Int)) (bl : List (Int × Int)) (h : SmpAt w base bs b st q E bl os) (ht : t < st) (hst : st <= 1000) (hq : 1 <= q) (hq2 : q <= 1000) :
  Calls Tryz.prog 170 #[.pointer (some ⟨bs,0,none⟩),.int .i64 t] w fun e w' => e = .returned (.tuple #[.int .i64 ((t / q : Nat) : Int),.int .i64 ((t % q : Nat) : Int),.bool true]) /\ Below w.heap.size w w' := by
 have HS := hid (steps_any base bs b st q E w os bl h)
 obtain ⟨_,Ab,cb,Ao,co,vs,hb,_,_,_⟩ := h
 have c2 : w.cell? ⟨bs,2,none⟩ = some (.slice Ab q cb) := hb.cell 2
 have l1 := hb.lt
 clear hb
 have e1 : decide ((t : Int) < 0) = false := decide_eq_false (by omega)
 have e2 : decide ((st : Int) <= (t : Int)) = false := decide_eq_false (by omega)
 have e3 : decide (st <= t) = false := decide_eq_false (by omega)
 go_enter Tryz.func170,Tryz.ntmps170
 go_wp2_with fail
 ((with_reducible refine HS.out.mono ?_); rintro e w1 ⟨rfl,rfl⟩)
 go_wp2_with fail
 go_region
 go_wp2
 have hw1 : wrap64 ((t : Int) / (q : Int)) = (t : Int) / (q : Int) := by
  have hd := Nat.div_le_self t q
  rw [<- Int.natCast_ediv]
  generalize t / q = d at hd ⊢
  exact IntWalk.wrap64_in _ (by omega)
 exact bodyPost_ret (v := .tuple #[.int .i64 ((t / q : Nat) : Int),.int .i64 ((t % q : Nat) : Int),.bool true]) (by simp [results,Tryz.results170,go_sem,hw1]) rfl ⟨rfl,(Below.refl _ _).drew⟩
theorem block_full {q b i : Nat} (hq : 1 <= q) (hb : 1 <= b) (hi : i < q) (hc : cnt (q * b) b = q) : (blocksL (q * b) b)[i]? = some (((i * b : Nat) : Int),((i * b + b : Nat) : Int)) := by
 rw [blocks_at (q * b) b i (by rw [hc]; exact hi)]
 have h1 : (i + 1) * b <= q * b := Nat.mul_le_mul_right b hi
 rw [Nat.succ_mul] at h1
 rw [Nat.min_eq_left (by omega)]
theorem view_no (t : Int) (os : List (List Int)) (bl : List (Int × Int)) (h : SmpAt w base bs b st q E bl os) (ht : t < 0 \/ st <= t) :
  Calls Tryz.prog 86 #[.pointer (some ⟨bs,0,none⟩),.int .i64 t] w (RdRet w 0 []) := by
 have HS := hid (epoch_no base bs b st q E w t os bl h ht)
 clear h ht
 go_enter Tryz.func86,Tryz.ntmps86
 go_wp2_with fail
 ((with_reducible refine HS.out.mono ?_); rintro e w1 ⟨rfl,rfl⟩)
 go_wp2_with fail
 go_ret
 exact RdRet.none _ _ (Below.refl _ _)
theorem view_yes (t : Nat) (h : SmpAt w base bs b st q E (blocksL (q * b) b) (ordsL L n E)) (ht : t < st) (hst : st <= 1000) (hq : 1 <= q) (hq2 : q <= 1000) (hb1 : 1 <= b) (hqb : q * b <= n) (hn : n <= 1000) (hc : cnt (q * b) b = q) (hE : cnt st q = E) :
  Calls Tryz.prog 86 #[.pointer (some ⟨bs,0,none⟩),.int .i64 t] w (RdRet w b (batchL L n b q st t)) := by
 have HS := hid (epoch_yes base bs b st q E w t _ _ h ht hst hq hq2)
 obtain ⟨_,Ab,cb,Ao,co,vs,hb,hrb,hro,hon⟩ := h
 have hmq : t % q < q := Nat.mod_lt _ (by omega)
 have hdE : t / q < E := by
  rw [<- hE]
  refine (lt_cnt st q _ (by omega) hq).2 ?_
  have := Nat.div_mul_le_self t q
  omega
 have HX := hid (block_full hq hb1 hmq hc)
 have hfit : t % q * b + b <= n := by
  have h1 : (t % q + 1) * b <= q * b := Nat.mul_le_mul_right b hmq
  rw [Nat.succ_mul] at h1
  omega
 have HBL : Hid (batchL L n b q st t = ((pemL L n (t / q * (n - 1))).drop (t % q * b)).take b) := hid (by
  rw [batchL,if_pos ⟨by omega,by omega⟩]
  rfl)
 obtain ⟨e',he⟩ : ∃ e',t / q = e' := ⟨_,rfl⟩
 obtain ⟨i,hi⟩ : ∃ i,t % q = i := ⟨_,rfl⟩
 rw [he] at HS hdE HBL
 rw [hi] at HS hmq HX hfit HBL
 rw [HBL.out]
 obtain ⟨lo,hlo⟩ : ∃ lo,i * b = lo := ⟨_,rfl⟩
 rw [hlo] at HX hfit HBL ⊢
 obtain ⟨s,hs⟩ : ∃ s,vs[e']? = some s := ⟨_,List.getElem?_eq_getElem (by rw [hon.len,ordsL_length]; exact hdE)⟩
 obtain ⟨Ae,ne,ce⟩ := s
 obtain ⟨hne,hre⟩ := hon.row e' _ _ hs (ordsL_get L n E e' hdE)
 have hne' : ne = n := by rw [pemL_length] at hne; exact hne
 subst hne'
 have HRE := hid (Rd.of_own hre)
 have hce : ne <= ce := by
  obtain ⟨_,_,q1,q2,_,_⟩ := own_form hre
  injection q1 with q4 _ q5
  simp only at q5
  subst q5
  exact q2
 obtain ⟨b1,o1,e1,hb1',c1⟩ := (Rd.of_own hro).2 (by omega)
 subst e1
 have d1 := c1 e' _ (slsv_get hs)
 obtain ⟨b2,o2,x,y,rfl,hb2,hx,d2,d3⟩ := rd_at (by rw [blocksL_length]; exact hc) (Rd.of_own hrb) hmq
 rw [HX.out] at hx
 injection hx with hx
 injection hx with hx1 hx2
 subst hx1 hx2
 have f2 : w.cell? ⟨bs,2,none⟩ = some (.slice (some ⟨b2,o2,none⟩) q cb) := hb.cell 2
 have f3 : w.cell? ⟨bs,3,none⟩ = some (.slice (some ⟨b1,o1,none⟩) E co) := hb.cell 3
 have l1 := hb.lt
 have g1 : (0 : Int) <= (i : Int) := by omega
 have g2 : (i : Int) < (q : Int) := by omega
 have g3 : (0 : Int) <= (e' : Int) := by omega
 have g4 : (e' : Int) < (E : Int) := by omega
 have HLN : Hid ((pemL L ne (e' * (ne - 1))).length = ne) := hid (pemL_length _ _ _)
 clear hb hrb hro hon hs hne hre c1 he hi hlo hE hc hqb
 go_enter Tryz.func86,Tryz.ntmps86
 go_wp2_with fail
 ((with_reducible refine HS.out.mono ?_); rintro e w1 ⟨rfl,hb9⟩)
 have HB9 := hid hb9
 have f2' := ((bcell hb9).1 bs 2 l1).trans f2
 have f3' := ((bcell hb9).1 bs 3 l1).trans f3
 have d1' := ((bcell hb9).1 b1 (o1 + e') hb1').trans d1
 have d2' := ((bcell hb9).1 b2 (o2 + i * 2) hb2).trans d2
 have d3' := ((bcell hb9).1 b2 (o2 + i * 2 + 1) hb2).trans d3
 have l1' : bs < w1.heap.size := Nat.lt_of_lt_of_le l1 hb9.size
 have l2' : b1 < w1.heap.size := Nat.lt_of_lt_of_le hb1' hb9.size
 have l3' : b2 < w1.heap.size := Nat.lt_of_lt_of_le hb2 hb9.size
 clear hb9 f2 f3 d1 d2 d3 l1 hb1' hb2
 go_wp2_with fail
 go_region
 go_wp2
 rw [show lo + b - lo = b by omega]
 go_ret
 exact ⟨_,_,rfl,Nat.le_refl _,((rd_map (HRE.out.below HB9.out) HLN.out lo b hfit).alloc _).drew,(HB9.out.alloc HB9.out.size _).drew⟩
structure SmpP (n b st q E : Nat) : Prop where
 hq : 1 <= q
 hq2 : q <= 1000
 hb1 : 1 <= b
 hbn : b <= n
 hqb : q * b <= n
 hn : n <= 1000
 hst : st <= 1000
 hc : cnt (q * b) b = q
 hE : cnt st q = E
 hdiv : n / b = q
theorem batchL_length {n b st q E : Nat} (P : SmpP n b st q E) (L : List Int) (t : Nat) (ht : t < st) : (batchL L n b q st t).length = b := by
 have hmq : t % q < q := Nat.mod_lt _ (by have := P.hq; omega)
 have h1 : (t % q + 1) * b <= q * b := Nat.mul_le_mul_right b hmq
 rw [Nat.succ_mul] at h1
 have hqb := P.hqb
 rw [batchL,if_pos ⟨by omega,by omega⟩]
 exact sub_len (pemL_length _ _ _) _ _ (by show t % q * b + b <= n; omega)
theorem batchL_no {n b st q : Nat} (L : List Int) (t : Int) (ht : t < 0 \/ st <= t) : batchL L n b q st t = [] := by
 rw [batchL,if_neg (by omega)]
theorem view_any (P : SmpP n b st q E) (t : Int) (h : SmpAt w base bs b st q E (blocksL (q * b) b) (ordsL L n E)) :
  Calls Tryz.prog 86 #[.pointer (some ⟨bs,0,none⟩),.int .i64 t] w (RdRet w (batchL L n b q st t).length (batchL L n b q st t)) := by
 by_cases ht : 0 <= t /\ t < st
 ·obtain ⟨T,rfl⟩ := Int.eq_ofNat_of_zero_le ht.1
  rw [batchL_length P L T (by omega)]
  exact view_yes base bs b st q E n L w T h (by omega) P.hst P.hq P.hq2 P.hb1 P.hqb P.hn P.hc P.hE
 ·rw [batchL_no L t (by omega)]
  exact view_no base bs b st q E w t _ _ h (by omega)
abbrev CpRet (w : World) (l : List Int) : Ending -> World -> Prop := OwnRet w 3 1 l.length (iv l)
theorem OwnRet.after {w w1 : World} {e : TypeId} {size n : Nat} {xs : List Value} {en : Ending} {w' : World} (h : OwnRet w1 e size n xs en w') (hb : Below w.heap.size w w1) : OwnRet w e size n xs en w' := h.lift hb
theorem pieceL_le (l : List Int) (i k : Int) : (pieceL l i k).length <= l.length := by
 rw [pieceL]
 split
 ·simp; omega
 ·simp
theorem smpMicro_any (P : SmpP n b st q E) (t i k j y : Int) (h : SmpAt w base bs b st q E (blocksL (q * b) b) (ordsL L n E)) (hk : k <= 1000) (hk0 : -1000 <= k) (hi : i <= 1000) (hi0 : -1000 <= i) (hy : y <= 1000) (hy0 : -1000 <= y) (hj : j <= 1000) (hj0 : -1000 <= j) :
  Calls Tryz.prog 24 #[.pointer (some ⟨bs,0,none⟩),.int .i64 t,.int .i64 i,.int .i64 k,.int .i64 j,.int .i64 y] w (CpRet w (pieceL (pieceL (batchL L n b q st t) i k) j y)) := by
 have C := hid (view_any base bs b st q E n L w P t h)
 have hle := batchL_le L n b q st t P.hbn
 have hn := P.hn
 clear h
 obtain ⟨l,hl⟩ : ∃ l,batchL L n b q st t = l := ⟨_,rfl⟩
 rw [hl] at C hle ⊢
 clear hl
 have hple := pieceL_le l i k
 obtain ⟨p,hp⟩ : ∃ p,pieceL l i k = p := ⟨_,rfl⟩
 rw [hp] at hple
 have HP := hid hp
 rw [hp]
 clear hp
 have hsle := pieceL_le p j y
 obtain ⟨s,hs⟩ : ∃ s,pieceL p j y = s := ⟨_,rfl⟩
 rw [hs] at hsle
 have HSS := hid hs
 rw [hs]
 clear hs
 obtain ⟨m,hm⟩ : ∃ m,l.length = m := ⟨_,rfl⟩
 have HM := hid hm
 rw [hm] at C hle hple
 obtain ⟨r,hr⟩ : ∃ r,p.length = r := ⟨_,rfl⟩
 have HRL := hid hr
 rw [hr] at hple hsle
 obtain ⟨r2,hr2⟩ : ∃ r2,s.length = r2 := ⟨_,rfl⟩
 have HRL2 := hid hr2
 rw [hr2] at hsle
 rw [CpRet,hr2]
 clear hm hr hr2
 go_enter Tryz.func24,Tryz.ntmps24
 go_wp2_with fail
 ((with_reducible refine C.out.mono ?_); rintro e w1 ⟨A1,c1,rfl,hc1,hr1,hb1⟩)
 have HR := hid hr1
 have HB := hid hb1
 clear hr1 hb1
 go_wp2_with fail
 have C2 := piece_any A1 m c1 l i k w1 HM.out HR.out (by omega) hc1 hk hk0 hi hi0
 rw [HP.out,HRL.out] at C2
 ((with_reducible refine C2.mono ?_); rintro e w2 ⟨A2,c2,rfl,hc2,hr2,hb2⟩)
 have HR2 := hid hr2
 have HB2 := hid ((Kept.of HB.out).call hb2).2.2
 clear hr2 hb2 C2
 go_wp2_with fail
 have C3 := piece_any A2 r c2 p j y w2 HRL.out HR2.out (by omega) hc2 hy hy0 hj hj0
 rw [HSS.out,HRL2.out] at C3
 ((with_reducible refine C3.mono ?_); rintro e w3 ⟨A3,c3,rfl,hc3,hr3,hb3⟩)
 have HR3 := hid hr3
 have HB3 := hid ((Kept.of HB2.out).call hb3).2.2
 clear hr3 hb3 C3
 go_wp2_with fail
 ((with_reducible refine (cloneN_any A3 r2 c3 s w3 HRL2.out HR3.out (by omega)).mono ?_); rintro e w4 ⟨A4,c4,rfl,hown4,hb4⟩)
 have HO := hid (OwnRet.after (w := w) ⟨A4,c4,rfl,hown4,hb4⟩ HB3.out)
 clear hown4 hb4
 go_wp2_with fail
 go_ret
 exact HO.out
end
section
open Go.RowKit
structure Fits (pc : PlC) (c : Cfg) : Prop where
 wk : c.wk = pc.m
 ch : c.ch = pc.ch
 mi : c.mi = pc.mi
 wi : c.wi = pc.wi
 bu : c.bu = pc.bu
 s0 : 0 <= c.st
 s1 : c.st <= 12
def PlC.lenI (pc : PlC) (x : Int) : Nat := if 0 <= x /\ x < pc.m then (pc.itemsI x 0).length else 0
def PlC.stepI (pc : PlC) (st x t : Int) : List RItem := if 0 <= x /\ x < pc.m /\ 0 <= t /\ t < st then pc.itemsI x t else []
theorem PlC.lenI_in (pc : PlC) (k : Nat) (h : k < pc.m) : pc.lenI k = (pc.itemsI (k : Int) 0).length := if_pos (by omega)
theorem PlC.lenI_out (pc : PlC) (x : Int) (h : ¬ (0 <= x /\ x < pc.m)) : pc.lenI x = 0 := if_neg h
end
section
open Go.RowKit
variable (pc : PlC) (c : Cfg) (A : Option Addr) (n cap b : Nat) (x t : Int) (w : World)
theorem planLen_any (h : PlanAt w b pc c A n cap) :
  Calls Tryz.prog 112 #[.pointer (some ⟨b,0,none⟩),.int .i64 x] w fun e w' => e = .returned (.int .i64 (pc.lenI x)) /\ w = w' := by
 obtain ⟨Ab,cb,Ag,cg,Al,cl,h1,_,_,h4,_⟩ := h
 have c14 : w.cell? ⟨b,14,none⟩ = some (.slice Al pc.m cl) := h1.cell 14
 have lb := h1.lt
 have HLL := hid pc.lensL_length
 by_cases hx : 0 <= x /\ x < pc.m
 ·obtain ⟨k,rfl⟩ := Int.eq_ofNat_of_zero_le hx.1
  have hk : k < pc.m := by omega
  have hkl : k < pc.lensL.length := by rw [HLL.out]; exact hk
  obtain ⟨g,o,y,rfl,hg,hy,d0⟩ := iv_at HLL.out h4 hk
  have e0 := pc.lensL_at k hk
  rw [hy] at e0
  injection e0 with e0
  have HE : Hid (y = (pc.lenI (k : Int) : Nat)) := hid (by rw [pc.lenI_in k hk]; exact e0)
  obtain ⟨m,hm⟩ : ∃ m,pc.m = m := ⟨_,rfl⟩
  rw [hm] at c14 hk
  have i1 : decide ((k : Int) < 0) = false := decide_eq_false (by omega)
  have i2 : decide ((m : Int) <= (k : Int)) = false := decide_eq_false (by omega)
  have i3 : (0 : Int) <= (k : Int) := by omega
  have i4 : (k : Int) < (m : Int) := by omega
  clear h1 h4 hy e0 hm hx hkl HLL
  go_enter Tryz.func112,Tryz.ntmps112
  go_wp2_with fail
  go_ret
  exact ⟨ret_int HE.out,rfl⟩
 ·have HE : Hid ((0 : Int) = (pc.lenI x : Nat)) := hid (by rw [pc.lenI_out x hx]; rfl)
  obtain ⟨m,hm⟩ : ∃ m,pc.m = m := ⟨_,rfl⟩
  rw [hm] at c14 hx
  clear h1 h4 hm HLL
  by_cases h0 : x < 0
  ·have i1 : decide (x < 0) = true := decide_eq_true h0
   go_enter Tryz.func112,Tryz.ntmps112
   go_wp2_with fail
   go_ret
   exact ⟨ret_int HE.out,rfl⟩
  ·have i1 : decide (x < 0) = false := decide_eq_false h0
   have i2 : decide ((m : Int) <= x) = true := decide_eq_true (by omega)
   clear hx
   go_enter Tryz.func112,Tryz.ntmps112
   go_wp2_with fail
   go_ret
   exact ⟨ret_int HE.out,rfl⟩
theorem PlC.lenI_pos (pc : PlC) (x : Int) : 0 <= x /\ x < pc.m ↔ pc.lenI x ≠ 0 := by
 unfold PlC.lenI
 split
 ·rename_i h
  have := pc.itemsI_pos x 0
  constructor
  ·intro _; omega
  ·intro _; exact h
 ·rename_i h; simp [h]
theorem planStep_any (hp : pc.Ok) (hf : Fits pc c) (h : PlanAt w b pc c A n cap) :
  Calls Tryz.prog 46 #[.pointer (some ⟨b,0,none⟩),.int .i64 x,.int .i64 t] w (OwnRet w 222 12 (pc.stepI c.st x t).length (itemsV (pc.stepI c.st x t))) := by
 have HLe := hid (fun x => planLen_any pc c A n cap b x w h)
 obtain ⟨Ab,cb,Ag,cg,Al,cl,h1,h2,h3,h4,_⟩ := h
 have HI := hid (items20_any pc c A n cap Ab cb Ag cg x t w hp hf.wk hf.ch hf.mi h2 h3)
 have HPos := hid (pc.lenI_pos x)
 obtain ⟨q,hq⟩ : ∃ q,pc.lenI x = q := ⟨_,rfl⟩
 have HLx := HLe.out x
 rw [hq] at HLx HPos
 have HLX := hid HLx
 clear hq HLx HLe
 have no : ¬ (0 <= x /\ x < pc.m /\ 0 <= t /\ t < c.st) -> ∀ w' : World,w = w' -> OwnRet w 222 12 (pc.stepI c.st x t).length (itemsV (pc.stepI c.st x t)) (.returned (.slice none 0 0)) w' := by
  rintro hno w' rfl
  rw [show pc.stepI c.st x t = [] from if_neg hno]
  exact ⟨none,0,rfl,World.ownsRow_nil _ _ _ _,Below.refl _ _⟩
 have HNO := hid no
 clear no
 by_cases hq0 : q = 0
 ·subst hq0
  have HX : Hid (¬ (0 <= x /\ x < pc.m /\ 0 <= t /\ t < c.st)) := hid (fun hh => (HPos.out.1 ⟨hh.1,hh.2.1⟩) rfl)
  clear h1 h2 h3 h4 hf
  go_enter Tryz.func46,Tryz.ntmps46
  go_wp2_with fail
  ((with_reducible refine HLX.out.mono ?_); rintro e w1 ⟨rfl,rfl⟩)
  go_wp2_with fail
  go_ret
  exact HNO.out HX.out _ rfl
 ·have hxx := HPos.out.2 hq0
  have e0 : ((q : Int) == 0) = false := by simp; omega
  have hx1 := hxx.1
  have HXM := hid hxx.2
  by_cases ht0 : t < 0
  ·have e1 : decide (t < 0) = true := decide_eq_true ht0
   have HX : Hid (¬ (0 <= x /\ x < pc.m /\ 0 <= t /\ t < c.st)) := hid (fun hh => by omega)
   clear h1 h2 h3 h4 hf hxx
   go_enter Tryz.func46,Tryz.ntmps46
   go_wp2_with fail
   ((with_reducible refine HLX.out.mono ?_); rintro e w1 ⟨rfl,rfl⟩)
   go_wp2_with fail
   go_ret
   exact HNO.out HX.out _ rfl
  ·have e1 : decide (t < 0) = false := decide_eq_false ht0
   have c7 : w.cell? ⟨b,7,none⟩ = some (.int .i64 c.st) := h1.cell 7
   have lb := h1.lt
   by_cases ht1 : c.st <= t
   ·have e2 : decide (c.st <= t) = true := decide_eq_true ht1
    have HX : Hid (¬ (0 <= x /\ x < pc.m /\ 0 <= t /\ t < c.st)) := hid (fun hh => by omega)
    clear h1 h2 h3 h4 hf hxx
    go_enter Tryz.func46,Tryz.ntmps46
    go_wp2_with fail
    ((with_reducible refine HLX.out.mono ?_); rintro e w1 ⟨rfl,rfl⟩)
    go_wp2_with fail
    go_ret
    exact HNO.out HX.out _ rfl
   ·have e2 : decide (c.st <= t) = false := decide_eq_false ht1
    have HX : Hid (pc.stepI c.st x t = pc.itemsI x t) := hid (if_pos ⟨hxx.1,hxx.2,by omega,by omega⟩)
    have s0 : w.cell? ⟨b,0,none⟩ = some (.slice A n cap) := h1.cell 0
    have s1 : w.cell? ⟨b,1,none⟩ = some (.int .i64 c.sh) := h1.cell 1
    have s2 : w.cell? ⟨b,2,none⟩ = some (.int .i64 c.ra) := h1.cell 2
    have s3 : w.cell? ⟨b,3,none⟩ = some (.int .i64 c.mo) := h1.cell 3
    have s4 : w.cell? ⟨b,4,none⟩ = some (.int .i64 c.wk) := h1.cell 4
    have s5 : w.cell? ⟨b,5,none⟩ = some (.int .i64 c.ba) := h1.cell 5
    have s6 : w.cell? ⟨b,6,none⟩ = some (.int .i64 c.mi) := h1.cell 6
    have s8 : w.cell? ⟨b,8,none⟩ = some (.int .i64 c.bu) := h1.cell 8
    have s9 : w.cell? ⟨b,9,none⟩ = some (.int .i64 c.ch) := h1.cell 9
    have s10 : w.cell? ⟨b,10,none⟩ = some (.int .i64 c.wi) := h1.cell 10
    have s11 : w.cell? ⟨b,11,none⟩ = some (.int .i64 c.ca) := h1.cell 11
    have s12 : w.cell? ⟨b,12,none⟩ = some (.slice Ab pc.nb cb) := h1.cell 12
    have s13 : w.cell? ⟨b,13,none⟩ = some (.slice Ag (cnt pc.nb pc.wi) cg) := h1.cell 13
    clear h1 h2 h3 h4 hf hxx
    go_enter Tryz.func46,Tryz.ntmps46
    go_wp2_with fail
    ((with_reducible refine HLX.out.mono ?_); rintro e w1 ⟨rfl,rfl⟩)
    go_wp2_with fail
    ((with_reducible refine HI.out.mono ?_); rintro e w2 ⟨A2,c2,rfl,hown2,hb2⟩)
    have HO := hid (And.intro hown2 hb2)
    clear hown2 hb2
    go_wp2_with fail
    go_ret
    rw [HX.out]
    exact ⟨A2,c2,rfl,HO.out.1,HO.out.2⟩
end
section
open Go.RowKit
abbrev mitC (k1 k2 k3 : Int) (sd ad : Bool) (s b p r i x y : Int) : Array Value := #[.int .i64 k1,.int .i64 k2,.int .i64 k3,.bool sd,.bool ad,.int .i64 s,.int .i64 b,.int .i64 p,.int .i64 r,.int .i64 i,.int .i64 x,.int .i64 y]
structure MC where
 l : List Int
 n : Nat
 NP : Nat
 c : Cfg
 x : Nat
 m : Nat
 N : Nat
 M : Nat
 f : Nat -> List Int × List Int
 L : List Int
 b : Nat
 st : Nat
 q : Nat
 E : Nat
 pc : PlC
structure MC.Ok (K : MC) : Prop where
 len : K.l.length = K.n
 n2 : 2 <= K.n
 n16 : K.n <= 16
 pos : ∀ (k : Nat) (x : Int),K.l[k]? = some x -> 1 <= x /\ x <= 1000
 cnt : ofN K.l (K.n - 1) = K.NP
 np : K.NP <= 1000
 np1 : 1 <= K.NP
 q0 : 0 <= K.c.sh
 q62 : K.c.sh <= 62
 hN : K.N = szN K.l 0
 hM : K.M = szN K.l (K.n - 1)
 fl : ∀ i,i < K.m -> (K.f (i + 1)).1.length = K.N /\ (K.f (i + 1)).2.length = K.M
 fi : ∀ i,i < K.m -> AllIn (K.f (i + 1)).1
 smp : SmpP K.m K.b K.st K.q K.E
 dr : K.E * (K.m - 1) <= K.L.length
 pcok : K.pc.Ok
 fits : Fits K.pc K.c
 pcP : K.pc.P = K.NP
 xw : K.x < K.pc.m
 st : K.c.st = (K.st : Int)
 ra : In1 K.c.ra
 mo : In1 K.c.mo
theorem MC.Ok.net {K : MC} (h : K.Ok) {P : List Int} (hl : P.length = K.NP) (hi : AllIn P) : NetP K.l K.n K.NP P K.c.sh :=
 ⟨h.len,h.n2,h.n16,h.pos,h.cnt,h.np,hl,hi,h.q0,h.q62⟩
structure MS where
 P : List Int
 M : List Int
 G : List Int
 rcd : List (List Int × List Int)
 its : List RItem
 nx : Nat
 cnt : Nat
 opn : List Int
structure MA where
 base : Nat
 bs : Nat
 S : Option Addr
 cS : Nat
 es : List StS
 smb : Nat
 plb : Nat
 A : Option Addr
 nA : Nat
 capA : Nat
 Ab : Option Addr
 cb : Nat
 gp : Nat
 cP : Nat
 gm : Nat
 cM : Nat
 gg : Nat
 cG : Nat
 AR : Option Addr
 cR : Nat
 rs : List StS
 AI : Option Addr
 cI : Nat
 AO : Option Addr
 cO : Nat
abbrev machC (K : MC) (s : MS) (a : MA) : Array Value := #[.int .i64 K.x,.int .i64 K.pc.m,.int .i64 K.pc.mi,.pointer (some ⟨a.bs,0,none⟩),.slice a.S K.m a.cS,.pointer (some ⟨a.smb,0,none⟩),.pointer (some ⟨a.plb,0,none⟩),.slice a.Ab K.pc.nb a.cb,.int .i64 K.c.ra,.int .i64 K.c.mo,.int .i64 K.c.sh,
 .slice (some ⟨a.gp,0,none⟩) K.NP a.cP,.slice (some ⟨a.gm,0,none⟩) K.NP a.cM,.slice (some ⟨a.gg,0,none⟩) K.NP a.cG,.slice a.AR s.rcd.length a.cR,.slice a.AI s.its.length a.cI,.int .i64 s.nx,.int .i64 s.cnt,.slice a.AO s.opn.length a.cO]
def recF (l : List (List Int × List Int)) : Nat -> List Int × List Int := fun i => l.getD (i - 1) ([],[])
structure FzAt (W : World) (K : MC) (s : MS) (a : MA) : Prop where
 shp : ShapeAt W a.base a.bs K.l K.n
 exs : W.ownsRow 0 162 2 (.slice a.S K.m a.cS) K.m (stv K.N K.M a.es)
 esl : a.es.length = K.m
 exr : OwnS W 0 K.N K.M a.es K.f
 smp : SmpAt W 0 a.smb K.b K.st K.q K.E (blocksL (K.q * K.b) K.b) (ordsL K.L K.m K.E)
 pln : PlanAt W a.plb K.pc K.c a.A a.nA a.capA
 bks : W.ownsRow 0 218 2 (.slice a.Ab K.pc.nb a.cb) K.pc.nb (rv K.pc.bks)
 its : W.ownsRow 0 222 12 (.slice a.AI s.its.length a.cI) s.its.length (itemsV s.its)
 rsl : a.rs.length = s.rcd.length
 rsr : OwnS W 0 K.NP K.NP a.rs (recF s.rcd)
def blkOf (A : Option Addr) : Option Nat := (Value.slice A 0 0).ownBlock
theorem own_blkOf (A : Option Addr) (n c : Nat) : (Value.slice A n c).ownBlock = blkOf A := by cases A <;> rfl
def Mu (mb : Nat) (a : MA) (i : Nat) : Prop := i = mb \/ i = a.gp \/ i = a.gm \/ i = a.gg \/ blkOf a.AR = some i \/ blkOf a.AO = some i
structure MachIn (F : Nat -> Prop) (w : World) (mb : Nat) (K : MC) (s : MS) (a : MA) : Prop where
 blk : Blk w mb 121 (machC K s a)
 fz : Hg F w (fun W => FzAt W K s a)
 prow : w.ownsRow 0 2 1 (.slice (some ⟨a.gp,0,none⟩) K.NP a.cP) K.NP (iv s.P)
 mrow : w.ownsRow 0 2 1 (.slice (some ⟨a.gm,0,none⟩) K.NP a.cM) K.NP (iv s.M)
 grow : w.ownsRow 0 2 1 (.slice (some ⟨a.gg,0,none⟩) K.NP a.cG) K.NP (iv s.G)
 rrow : w.ownsRow 0 92 2 (.slice a.AR s.rcd.length a.cR) s.rcd.length (stv K.NP K.NP a.rs)
 orow : w.ownsRow 0 3 1 (.slice a.AO s.opn.length a.cO) s.opn.length (iv s.opn)
 npm : a.gp ≠ a.gm
 npg : a.gp ≠ a.gg
 nmg : a.gm ≠ a.gg
 nf : ∀ i,Mu mb a i -> ¬ F i
 fw : ∀ i,F i -> i < w.heap.size
 pin : AllIn s.P
 min : AllIn s.M
 rl : s.rcd.length <= 1000
 nl : s.nx <= s.its.length
 il : s.its.length <= 200000000
 cl : s.cnt <= 1000000000000
 ol : s.opn.length <= 1000000
def MachAt (S : Nat -> Prop) (w : World) (mb : Nat) (K : MC) (s : MS) : Prop := ∃ F a,MachIn F w mb K s a /\ (∀ i,F i -> S i) /\ (∀ i,Mu mb a i -> S i)
end
section
open Go.RowKit
variable {F S T : Nat → Prop} {w w' : World} {mb : Nat} {K : MC} {s : MS} {a : MA}
theorem MachIn.lens (h : MachIn F w mb K s a) : s.P.length = K.NP /\ s.M.length = K.NP /\ s.G.length = K.NP /\ a.rs.length = s.rcd.length := by
 have h1 := h.prow.1
 have h2 := h.mrow.1
 have h3 := h.grow.1
 rw [iv_length] at h1 h2 h3
 exact ⟨by omega,by omega,by omega,h.fz.here.rsl⟩
theorem MachIn.mu_lt (h : MachIn F w mb K s a) {i : Nat} (hi : Mu mb a i) : i < w.heap.size := by
 rcases hi with rfl | rfl | rfl | rfl | hi | hi
 ·exact h.blk.lt
 ·exact (h.prow.lt _ rfl).2
 ·exact (h.mrow.lt _ rfl).2
 ·exact (h.grow.lt _ rfl).2
 ·exact (h.rrow.lt _ ((own_blkOf _ _ _).trans hi)).2
 ·exact (h.orow.lt _ ((own_blkOf _ _ _).trans hi)).2
theorem MachIn.step (h : MachIn F w mb K s a) (hs : w.heap.size <= w'.heap.size) (hF : ∀ i,i < w.heap.size -> F i -> w'.heap[i]? = w.heap[i]?) (hM : ∀ i,Mu mb a i -> w'.heap[i]? = w.heap[i]?) : MachIn F w' mb K s a :=
 ⟨(hM mb (.inl rfl)).trans h.blk,h.fz.step hs hF,Hg.own (S := Mu mb a) h.prow (fun g hg => .inr (.inl (by simpa [Value.ownBlock] using hg.symm))) w' hs (fun i _ hi => hM i hi),Hg.own (S := Mu mb a) h.mrow (fun g hg => .inr (.inr (.inl (by simpa [Value.ownBlock] using hg.symm)))) w' hs (fun i _ hi => hM i hi),
  Hg.own (S := Mu mb a) h.grow (fun g hg => .inr (.inr (.inr (.inl (by simpa [Value.ownBlock] using hg.symm))))) w' hs (fun i _ hi => hM i hi),Hg.own (S := Mu mb a) h.rrow (fun g hg => .inr (.inr (.inr (.inr (.inl ((own_blkOf _ _ _).symm.trans hg)))))) w' hs (fun i _ hi => hM i hi),
  Hg.own (S := Mu mb a) h.orow (fun g hg => .inr (.inr (.inr (.inr (.inr ((own_blkOf _ _ _).symm.trans hg)))))) w' hs (fun i _ hi => hM i hi),h.npm,h.npg,h.nmg,h.nf,fun i hi => Nat.lt_of_lt_of_le (h.fw i hi) hs,h.pin,h.min,h.rl,h.nl,h.il,h.cl,h.ol⟩
theorem MachIn.below (h : MachIn F w mb K s a) (hb : Below w.heap.size w w') : MachIn F w' mb K s a := h.step hb.size (fun i hi _ => hb.block i hi) (fun i hi => hb.block i (h.mu_lt hi))
theorem MachAt.step (h : MachAt S w mb K s) (hs : w.heap.size <= w'.heap.size) (hb : ∀ i,i < w.heap.size -> S i -> w'.heap[i]? = w.heap[i]?) : MachAt S w' mb K s := by
 obtain ⟨F,a,h,h1,h2⟩ := h
 exact ⟨F,a,h.step hs (fun i hi hF => hb i hi (h1 i hF)) (fun i hi => hb i (h.mu_lt hi) (h2 i hi)),h1,h2⟩
theorem MachAt.mono (h : MachAt S w mb K s) (hST : ∀ i,i < w.heap.size -> S i -> T i) : MachAt T w mb K s := by
 obtain ⟨F,a,h,h1,h2⟩ := h
 exact ⟨F,a,h,fun i hi => hST i (h.fw i hi) (h1 i hi),fun i hi => hST i (h.mu_lt hi) (h2 i hi)⟩
theorem MachIn.setG (h : MachIn F w mb K s a) {G' : List Int} (hb : But (fun i => i = a.gg) w w') (hG : w'.ownsRow 0 2 1 (.slice (some ⟨a.gg,0,none⟩) K.NP a.cG) K.NP (iv G')) : MachIn F w' mb K { s with G := G' } a :=
 ⟨h.blk.but hb (fun e => own_blk_ne h.grow h.blk (by decide) (by rw [e]; rfl)),Hg.imp (h.fz.but hb (fun i _ hF e => h.nf i (.inr (.inr (.inr (.inl e)))) hF)) (fun W hW => ⟨hW.shp,hW.exs,hW.esl,hW.exr,hW.smp,hW.pln,hW.bks,hW.its,hW.rsl,hW.rsr⟩),
  own_but h.prow hb (fun g e1 e2 => h.npg (by have : a.gp = g := (by simpa [Value.ownBlock] using e1); rw [this,e2])),own_but h.mrow hb (fun g e1 e2 => h.nmg (by have : a.gm = g := (by simpa [Value.ownBlock] using e1); rw [this,e2])),hG,
  own_but h.rrow hb (fun g e1 e2 => lnk_own_ne h.rrow h.grow (by decide) g e1 (by rw [e2]; rfl)),own_but h.orow hb (fun g e1 e2 => lnk_own_ne h.orow h.grow (by decide) g e1 (by rw [e2]; rfl)),
  h.npm,h.npg,h.nmg,h.nf,fun i hi => Nat.lt_of_lt_of_le (h.fw i hi) hb.size,h.pin,h.min,h.rl,h.nl,h.il,h.cl,h.ol⟩
theorem MachIn.setPM (h : MachIn F w mb K s a) {P' M' : List Int} (hb : But (fun i => i = a.gp \/ i = a.gm) w w') (hP : w'.ownsRow 0 2 1 (.slice (some ⟨a.gp,0,none⟩) K.NP a.cP) K.NP (iv P')) (hM : w'.ownsRow 0 2 1 (.slice (some ⟨a.gm,0,none⟩) K.NP a.cM) K.NP (iv M')) (hPi : AllIn P') (hMi : AllIn M') :
  MachIn F w' mb K { s with P := P',M := M' } a := by
 have hT : ∀ i,i < w.heap.size -> F i -> ¬ (i = a.gp \/ i = a.gm) := by
  rintro i _ hF (e | e)
  ·exact h.nf i (.inr (.inl e)) hF
  ·exact h.nf i (.inr (.inr (.inl e))) hF
 refine ⟨h.blk.but hb ?_,Hg.imp (h.fz.but hb hT) (fun W hW => ⟨hW.shp,hW.exs,hW.esl,hW.exr,hW.smp,hW.pln,hW.bks,hW.its,hW.rsl,hW.rsr⟩),hP,hM,
  own_but h.grow hb ?_,own_but h.rrow hb ?_,own_but h.orow hb ?_,h.npm,h.npg,h.nmg,h.nf,fun i hi => Nat.lt_of_lt_of_le (h.fw i hi) hb.size,hPi,hMi,h.rl,h.nl,h.il,h.cl,h.ol⟩
 ·rintro (e | e)
  ·exact own_blk_ne h.prow h.blk (by decide) (by rw [e]; rfl)
  ·exact own_blk_ne h.mrow h.blk (by decide) (by rw [e]; rfl)
 ·rintro g e (e1 | e1)
  ·exact h.npg (by have : a.gg = g := (by simpa [Value.ownBlock] using e); rw [this,e1])
  ·exact h.nmg (by have : a.gg = g := (by simpa [Value.ownBlock] using e); rw [this,e1])
 ·rintro g e (e1 | e1)
  ·exact lnk_own_ne h.rrow h.prow (by decide) g e (by rw [e1]; rfl)
  ·exact lnk_own_ne h.rrow h.mrow (by decide) g e (by rw [e1]; rfl)
 ·rintro g e (e1 | e1)
  ·exact lnk_own_ne h.orow h.prow (by decide) g e (by rw [e1]; rfl)
  ·exact lnk_own_ne h.orow h.mrow (by decide) g e (by rw [e1]; rfl)
theorem MachIn.setN (h : MachIn F w mb K s a) {nx cnt : Nat} (hg : w.grownBy w' (some mb)) (hB : Blk w' mb 121 (machC K { s with nx := nx,cnt := cnt } a)) (hn : nx <= s.its.length) (hc : cnt <= 1000000000000) : MachIn F w' mb K { s with nx := nx,cnt := cnt } a := by
 have hb : But (fun i => i = mb) w w' := But.of_gr hg rfl
 refine ⟨hB,Hg.imp (h.fz.but hb (fun i _ hF e => h.nf i (.inl e) hF)) (fun W hW => ⟨hW.shp,hW.exs,hW.esl,hW.exr,hW.smp,hW.pln,hW.bks,hW.its,hW.rsl,hW.rsr⟩),
  own_but h.prow hb ?_,own_but h.mrow hb ?_,own_but h.grow hb ?_,own_but h.rrow hb ?_,own_but h.orow hb ?_,h.npm,h.npg,h.nmg,h.nf,fun i hi => Nat.lt_of_lt_of_le (h.fw i hi) hb.size,h.pin,h.min,h.rl,hn,h.il,hc,h.ol⟩
 ·exact fun g e e1 => own_blk_ne h.prow h.blk (by decide) (by rw [e,e1])
 ·exact fun g e e1 => own_blk_ne h.mrow h.blk (by decide) (by rw [e,e1])
 ·exact fun g e e1 => own_blk_ne h.grow h.blk (by decide) (by rw [e,e1])
 ·exact fun g e e1 => own_blk_ne h.rrow h.blk (by decide) (by rw [e,e1])
 ·exact fun g e e1 => own_blk_ne h.orow h.blk (by decide) (by rw [e,e1])
theorem MachIn.setI (h : MachIn F w mb K s a) {its : List RItem} {nx : Nat} {AI : Option Addr} {cI : Nat} (hg : w.grownBy w' (some mb)) (hB : Blk w' mb 121 (machC K { s with its := its,nx := nx } { a with AI := AI,cI := cI })) (hn : nx <= its.length) (hi : its.length <= 200000000)
  (hI : w.ownsRow 0 222 12 (.slice AI its.length cI) its.length (itemsV its)) (hf : ∀ g,blkOf AI = some g -> ¬ Mu mb a g) : MachIn (fun i => F i \/ blkOf AI = some i) w' mb K { s with its := its,nx := nx } { a with AI := AI,cI := cI } := by
 have hb : But (fun i => i = mb) w w' := But.of_gr hg rfl
 have hF : Hg (fun i => F i \/ blkOf AI = some i) w (fun W => FzAt W K { s with its := its,nx := nx } { a with AI := AI,cI := cI }) := by
  refine Hg.imp ((h.fz.mono (T := fun i => F i \/ blkOf AI = some i) (fun i _ hi => .inl hi)).and (Hg.own (S := fun i => F i \/ blkOf AI = some i) hI (fun g hg => .inr ((own_blkOf _ _ _).symm.trans hg)))) ?_
  rintro W ⟨hW,hi⟩
  exact ⟨hW.shp,hW.exs,hW.esl,hW.exr,hW.smp,hW.pln,hW.bks,hi,hW.rsl,hW.rsr⟩
 refine ⟨hB,hF.but hb ?_,own_but h.prow hb ?_,own_but h.mrow hb ?_,own_but h.grow hb ?_,own_but h.rrow hb ?_,own_but h.orow hb ?_,h.npm,h.npg,h.nmg,?_,?_,h.pin,h.min,h.rl,hn,hi,h.cl,h.ol⟩
 ·rintro i _ (hi | hi) e
  ·exact h.nf i (.inl e) hi
  ·exact hf i hi (.inl e)
 ·exact fun g e e1 => own_blk_ne h.prow h.blk (by decide) (by rw [e,e1])
 ·exact fun g e e1 => own_blk_ne h.mrow h.blk (by decide) (by rw [e,e1])
 ·exact fun g e e1 => own_blk_ne h.grow h.blk (by decide) (by rw [e,e1])
 ·exact fun g e e1 => own_blk_ne h.rrow h.blk (by decide) (by rw [e,e1])
 ·exact fun g e e1 => own_blk_ne h.orow h.blk (by decide) (by rw [e,e1])
 ·rintro i hi (hF | hF)
  ·exact h.nf i hi hF
  ·exact hf i hF hi
 ·rintro i (hi | hi)
  ·exact Nat.lt_of_lt_of_le (h.fw i hi) hg.size
  ·exact Nat.lt_of_lt_of_le (hI.lt i ((own_blkOf _ _ _).trans hi)).2 hg.size
end
end Go.Proofs.YtkmaeipoaoikpaaGreat
