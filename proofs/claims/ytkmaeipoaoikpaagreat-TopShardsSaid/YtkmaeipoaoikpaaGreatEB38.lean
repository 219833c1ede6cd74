/- MNew. -/
import Derived.Test.YtkmaeipoaoikpaaGreatEB33
namespace Go.Proofs.YtkmaeipoaoikpaaGreat
set_option linter.all false
set_option maxRecDepth 100000
set_option maxHeartbeats 8000000
open Lib (hid)
section
open Go.RowKit
theorem OwnN.mid {w w' : World} {base lo : Nat} {vs : List SlN} {os : List (List Int)} (h : OwnN w base vs os) (hm : Mid lo w.heap.size w w') (hl : lo <= base) : OwnN w' base vs os := ⟨h.len,fun i s l h1 h2 => ⟨(h.row i s l h1 h2).1,own_mid (h.row i s l h1 h2).2 hm hl⟩⟩
theorem SmpAt.mid {w w' : World} {base bs lo : Nat} {bt st : Int} {q E : Nat} {bl : List (Int × Int)} {os : List (List Int)} (h : SmpAt w base bs bt st q E bl os) (hm : Mid lo w.heap.size w w') (hl : lo <= base) : SmpAt w' base bs bt st q E bl os := by
 obtain ⟨Ab,cb,Ao,co,vs,h1,h2,h3,h4⟩ := h.ex
 exact ⟨h.low,Ab,cb,Ao,co,vs,h1.mid hm (Nat.le_trans hl h.low),own_mid h2 hm hl,own_mid h3 hm hl,h4.mid hm hl⟩
theorem MC.Ok.szle {K : MC} (h : K.Ok) {k : Nat} (hk : k < K.n) : szN K.l k <= 1000 := by
 have hlt : k < K.l.length := by rw [h.len]; exact hk
 have := h.pos k _ (List.getElem?_eq_getElem hlt)
 unfold szN
 rw [List.getD_eq_getElem?_getD,List.getElem?_eq_getElem hlt]
 simp only [Option.getD_some]
 omega
def addF (F : Nat -> Prop) (a b : Nat) : Nat -> Prop := fun i => (i < a /\ F i) \/ (a <= i /\ i < b)
theorem addF_iff (F : Nat -> Prop) (a b : Nat) : ∀ i,i < a -> (addF F a b i ↔ F i) := fun i hi => ⟨fun h => by
 rcases h with h | h
 ·exact h.2
 ·omega,fun h => .inl ⟨hi,h⟩⟩
theorem addF_new (F : Nat -> Prop) (a b : Nat) : ∀ i,a <= i -> i < b -> addF F a b i := fun i h1 h2 => .inr ⟨h1,h2⟩
def cutF (F : Nat -> Prop) (a : Nat) : Nat -> Prop := fun i => i < a /\ F i
theorem cutF_iff (F : Nat -> Prop) (a : Nat) : ∀ i,i < a -> (cutF F a i ↔ F i) := fun i hi => ⟨fun h => h.2,fun h => ⟨hi,h⟩⟩
theorem cutF_not (F : Nat -> Prop) (a : Nat) : ¬ cutF F a a := fun h => Nat.lt_irrefl _ h.1
def MNewRet (I : InC) (x : Nat) (w : World) (e : Ending) (w' : World) : Prop := ∃ mb,e = .returned (.tuple #[.pointer (some ⟨mb,0,none⟩),.int .i64 0]) /\ MachAt (fun i => w.heap.size <= i) w' mb (I.mc x) (startMS I x) /\ Below w.heap.size w w'
theorem machNew_any (I : InC) (x : Nat) (w : World) (hI : InAt w I) (hO : I.Ok) (hx : (x : Int) < I.c.wk) :
  Calls Tryz.prog 11 #[inV I.A I.n I.cap I.c I.S I.m I.cS I.AP I.P I.cP I.AD I.D I.cD,.int .i64 x] w (MNewRet I x w) := by
 have hK := hO.mc hx
 have HN := hid hO.nums
 have HO := hid hO
 have HK := hid hK
 have HX := hid hx
 have m60 := hO.m60
 have hn16 : I.n <= 16 := hK.n16
 have hP60 := hO.P60
 have hD4 := hO.D4
 have HCI := hid (fun W (i : InAt W I) => confInput_any I.A I.n I.cap I.l I.c I.S I.m I.cS (exsOf I.N I.M I.es) I.AP I.P I.cP I.AD I.D I.cD W i.hl i.rl i.cap (by omega) (by rw [exsOf_length]; exact i.el) (by rw [exV_of]; exact i.re) (by omega) (by omega) (by omega))
 have HI := hid hI
 clear hI hO hK hx
 go_enter Tryz.func11,Tryz.ntmps11
 go_wp2_with fail
 obtain ⟨w1,hw1⟩ : ∃ w1,w.alloc (.cells (inC I.A I.n I.cap I.c I.S I.m I.cS I.AP I.P I.cP I.AD I.D I.cD) 29) = w1 := ⟨_,rfl⟩
 obtain ⟨gin,hgin⟩ : ∃ g,w.heap.size = g := ⟨_,rfl⟩
 have hb1 : Below w.heap.size w w1 := by rw [<- hw1]; exact (Below.refl _ _).alloc (Nat.le_refl _) _
 have hi1 : Blk w1 gin 29 (inC I.A I.n I.cap I.c I.S I.m I.cS I.AP I.P I.cP I.AD I.D I.cD) := by rw [<- hw1]; exact Blk.new' _ _ hgin
 have HW1 := hid hw1
 have HGI := hid hgin
 have HB1 := hid hb1
 have HI1 := hid hi1
 clear hw1 hgin hb1 hi1
 rw [HW1.out,HGI.out]
 ((with_reducible refine (HCI.out w1 (HI.out.below HB1.out)).mono ?_); rintro e w2 ⟨cd,rfl,hcd,hb2⟩)
 obtain rfl : cd = 0 := hcd.2 HO.out.ok
 have HB2 := hid (HB1.out.trans (hb2.mono HB1.out.size))
 have HI2 := hid (HI1.out.kept hb2)
 clear hcd hb2 HCI
 have c0 : w2.cell? ⟨gin,0,none⟩ = some (.slice I.A I.n I.cap) := HI2.out.cell 0
 have c1 : w2.cell? ⟨gin,1,none⟩ = some (.int .i64 I.c.sh) := HI2.out.cell 1
 have c2 : w2.cell? ⟨gin,2,none⟩ = some (.int .i64 I.c.ra) := HI2.out.cell 2
 have c3 : w2.cell? ⟨gin,3,none⟩ = some (.int .i64 I.c.mo) := HI2.out.cell 3
 have c4 : w2.cell? ⟨gin,4,none⟩ = some (.int .i64 I.c.wk) := HI2.out.cell 4
 have c5 : w2.cell? ⟨gin,5,none⟩ = some (.int .i64 I.c.ba) := HI2.out.cell 5
 have c6 : w2.cell? ⟨gin,6,none⟩ = some (.int .i64 I.c.mi) := HI2.out.cell 6
 have c7 : w2.cell? ⟨gin,7,none⟩ = some (.int .i64 I.c.st) := HI2.out.cell 7
 have c8 : w2.cell? ⟨gin,8,none⟩ = some (.int .i64 I.c.bu) := HI2.out.cell 8
 have c9 : w2.cell? ⟨gin,9,none⟩ = some (.int .i64 I.c.ch) := HI2.out.cell 9
 have c10 : w2.cell? ⟨gin,10,none⟩ = some (.int .i64 I.c.wi) := HI2.out.cell 10
 have c11 : w2.cell? ⟨gin,11,none⟩ = some (.int .i64 I.c.ca) := HI2.out.cell 11
 have c12 : w2.cell? ⟨gin,12,none⟩ = some (.slice I.S I.m I.cS) := HI2.out.cell 12
 have c13 : w2.cell? ⟨gin,13,none⟩ = some (.slice I.AP I.P I.cP) := HI2.out.cell 13
 have c14 : w2.cell? ⟨gin,14,none⟩ = some (.slice I.AD I.D I.cD) := HI2.out.cell 14
 have cl := HI2.out.lt
 have e1 : decide ((x : Int) < 0) = false := decide_eq_false (by omega)
 have e2 : decide (I.c.wk <= (x : Int)) = false := decide_eq_false (by have := HX.out; omega)
 go_wp2_with fail
 obtain ⟨w3,hw3⟩ : ∃ w3,w2.alloc (.cells (cfgC I.A I.n I.cap I.c) 24) = w3 := ⟨_,rfl⟩
 obtain ⟨gc,hgc⟩ : ∃ g,w2.heap.size = g := ⟨_,rfl⟩
 have hb3 : Below w2.heap.size w2 w3 := by rw [<- hw3]; exact (Below.refl _ _).alloc (Nat.le_refl _) _
 have hi3 : Blk w3 gc 24 (cfgC I.A I.n I.cap I.c) := by rw [<- hw3]; exact Blk.new' _ _ hgc
 have HW3 := hid hw3
 have HGC := hid hgc
 have HB3 := hid (HB2.out.trans (hb3.mono HB2.out.size))
 have HI3 := hid (HI2.out.kept hb3)
 have HC3 := hid hi3
 clear hw3 hgc hb3 hi3 e1 e2
 rw [HW3.out,HGC.out]
 have hs16 := sizesB_nums HN.out.sz
 rw [HO.out.hl] at hs16
 ((with_reducible refine (shapeMake_any I.A I.n I.cap I.l w3 HO.out.hl (HI.out.rl.below HB3.out) HI.out.cap hs16.1 hs16.2.1 hs16.2.2.1 HN.out.sz).mono ?_); rintro e w4 ⟨bs,rfl,hsh,hb4⟩)
 have HB4 := hid (HB3.out.trans (hb4.mono HB3.out.size))
 have HI4 := hid (HI3.out.kept hb4)
 have HC4 := hid (HC3.out.kept hb4)
 have HSH4 := hid hsh
 have HZ34 : Hid (w3.heap.size <= w4.heap.size) := hid hb4.size
 have HWN : Hid (w.heap.size <= w3.heap.size) := hid HB3.out.size
 clear hsh hb4 hs16
 have c12 : w4.cell? ⟨gin,12,none⟩ = some (.slice I.S I.m I.cS) := HI4.out.cell 12
 have c14 : w4.cell? ⟨gin,14,none⟩ = some (.slice I.AD I.D I.cD) := HI4.out.cell 14
 have d5 : w4.cell? ⟨gc,5,none⟩ = some (.int .i64 I.c.ba) := HC4.out.cell 5
 have d7 : w4.cell? ⟨gc,7,none⟩ = some (.int .i64 I.c.st) := HC4.out.cell 7
 have cl := HI4.out.lt
 have dl := HC4.out.lt
 have hba : (I.c.ba.toNat : Int) = I.c.ba := by have := HN.out.bw; have := HN.out.wk; omega
 have hst : (I.c.st.toNat : Int) = I.c.st := by have := HN.out.st; omega
 have HSM : Hid (Calls Tryz.prog 22 #[.int .i64 I.m,.int .i64 I.c.ba,.int .i64 I.c.st,.slice I.AD I.D I.cD] w4 (NewOut w4 I.c.ba.toNat I.c.st.toNat I.D I.m (I.m / I.c.ba.toNat) (cnt I.c.st.toNat (I.m / I.c.ba.toNat)) I.L)) := hid (by
  have := smpNew_any I.m I.c.ba.toNat I.c.st.toNat I.D I.cD (I.m / I.c.ba.toNat) (cnt I.c.st.toNat (I.m / I.c.ba.toNat)) I.AD I.L w4 (by have := HN.out.bw; have := HN.out.wk; omega) (by have := HN.out.ba; omega) m60 (by have := HO.out.st; omega) rfl rfl hD4 HO.out.dl (HI.out.rd.below HB4.out) HO.out.lu
  rw [hba,hst] at this
  exact this)
 clear hba hst
 go_wp2_with fail
 ((with_reducible refine HSM.out.mono ?_); rintro e w5 ⟨hb5,hsm⟩)
 have hsm' : ∃ smb,e = .returned (.tuple #[.pointer (some ⟨smb,0,none⟩),.int .i64 0]) /\ SmpAt w5 w4.heap.size smb I.c.ba.toNat I.c.st.toNat (I.m / I.c.ba.toNat) (cnt I.c.st.toNat (I.m / I.c.ba.toNat)) (blocksL (I.m / I.c.ba.toNat * I.c.ba.toNat) I.c.ba.toNat) (ordsL I.L I.m (cnt I.c.st.toNat (I.m / I.c.ba.toNat))) := by
  rcases hsm with ⟨-,smb,he,hs⟩ | ⟨hbad,-⟩
  ·exact ⟨smb,he,hs⟩
  ·have := HN.out.need
   unfold needN at this
   omega
 clear hsm
 obtain ⟨smb,rfl,hsm⟩ := hsm'
 have HB5 := hid (HB4.out.trans (hb5.mono HB4.out.size))
 have HI5 := hid (HI4.out.kept hb5)
 have HC5 := hid (HC4.out.kept hb5)
 have HSM5 := hid hsm
 have HB45 := hid hb5
 clear hb5 hsm HSM c12 c14 d5 d7 cl dl
 have d0 : w5.cell? ⟨gc,0,none⟩ = some (.slice I.A I.n I.cap) := HC5.out.cell 0
 have d1 : w5.cell? ⟨gc,1,none⟩ = some (.int .i64 I.c.sh) := HC5.out.cell 1
 have d2 : w5.cell? ⟨gc,2,none⟩ = some (.int .i64 I.c.ra) := HC5.out.cell 2
 have d3 : w5.cell? ⟨gc,3,none⟩ = some (.int .i64 I.c.mo) := HC5.out.cell 3
 have d4 : w5.cell? ⟨gc,4,none⟩ = some (.int .i64 I.c.wk) := HC5.out.cell 4
 have d5 : w5.cell? ⟨gc,5,none⟩ = some (.int .i64 I.c.ba) := HC5.out.cell 5
 have d6 : w5.cell? ⟨gc,6,none⟩ = some (.int .i64 I.c.mi) := HC5.out.cell 6
 have d7 : w5.cell? ⟨gc,7,none⟩ = some (.int .i64 I.c.st) := HC5.out.cell 7
 have d8 : w5.cell? ⟨gc,8,none⟩ = some (.int .i64 I.c.bu) := HC5.out.cell 8
 have d9 : w5.cell? ⟨gc,9,none⟩ = some (.int .i64 I.c.ch) := HC5.out.cell 9
 have d10 : w5.cell? ⟨gc,10,none⟩ = some (.int .i64 I.c.wi) := HC5.out.cell 10
 have d11 : w5.cell? ⟨gc,11,none⟩ = some (.int .i64 I.c.ca) := HC5.out.cell 11
 have dl := HC5.out.lt
 have KS : Kept w5 w5.drew := Kept.start w5
 have hcn : cntS I.l (I.n - 1) = (I.P : Int) := HN.out.cn.symm
 have HCO : Hid (∀ W,Kept w5 W -> Calls Tryz.prog 43 #[.pointer (some ⟨bs,0,none⟩)] W fun e w' => e = .returned (.int .i64 I.P) /\ W = w') := hid (fun W kk => by
  have := shapeCount_any w3.heap.size bs I.n I.l W ((HSH4.out.below HB45.out).below kk.2.2)
  rw [hcn] at this
  exact this)
 have HPL := hid (fun W (kk : Kept w5 W) => planNewB_good I.A I.n I.cap I.l I.c I.P W (pcI I.c I.P) HK.out.pcok HO.out.hl (HI.out.rl.below (HB5.out.trans (kk.2.2.mono HB5.out.size))) HI.out.cap (by omega) HN.out.cfg HK.out.fits.wk HK.out.fits.ch HK.out.fits.mi HK.out.fits.wi HK.out.fits.bu rfl)
 clear hcn
 go_wp2_with fail
 go_region_held3 (fun w' => Kept w5 w') (first | exact k6 | exact KS) (first
  | (go_at_call 43; (with_reducible refine (HCO.out _ KS).mono ?_); rintro e w6 ⟨rfl,hw6⟩; subst hw6)
  | (go_at_call 42; (with_reducible refine (HPL.out _ KS).mono ?_); rintro e w6 ⟨plb,rfl,hpl,hb6⟩; have k6 : Kept w5 w6 := KS.call hb6; have HK6 := hid k6; have HPL6 := hid hpl; clear hpl hb6))
 have HB6 := hid (HB5.out.trans (HK6.out.2.2.mono HB5.out.size))
 have HI6 := hid (HI5.out.kept HK6.out.2.2)
 have HC6 := hid (HC5.out.kept HK6.out.2.2)
 have HB56 := hid HK6.out.2.2
 clear k6 KS HCO HPL
 have c13 : w6.cell? ⟨gin,13,none⟩ = some (.slice I.AP I.P I.cP) := HI6.out.cell 13
 have cl := HI6.out.lt
 have HPP := hid (HI.out.pl)
 have HSA := hid (sgdStart_any I.AP I.P I.cP I.P0 w6 HI.out.pl (HI.out.rp.below HB6.out) (by omega))
 go_wp2_with fail
 ((with_reducible refine HSA.out.mono ?_); rintro e w7 ⟨AP,cP,AM,cM,rfl,hp7,hm7,hne7,hb7⟩)
 obtain ⟨gp,rfl⟩ := own_some hp7 (by have := HK.out.np1; exact this)
 obtain ⟨gm,rfl⟩ := own_some hm7 (by have := HK.out.np1; exact this)
 have hpm : gp ≠ gm := hne7 gp gm rfl rfl
 obtain ⟨w8,hw8⟩ : ∃ w8,w7.alloc (.cells #[.slice (some ⟨gp,0,none⟩) I.P cP,.slice (some ⟨gm,0,none⟩) I.P cM] 92) = w8 := ⟨_,rfl⟩
 obtain ⟨gs,hgs⟩ : ∃ g,w7.heap.size = g := ⟨_,rfl⟩
 have hb8 : Below w7.heap.size w7 w8 := by rw [<- hw8]; exact (Below.refl _ _).alloc (Nat.le_refl _) _
 have hs8 : Blk w8 gs 92 #[.slice (some ⟨gp,0,none⟩) I.P cP,.slice (some ⟨gm,0,none⟩) I.P cM] := by rw [<- hw8]; exact Blk.new' _ _ hgs
 have hb68 := hb7.trans (hb8.mono hb7.size)
 have HW8 := hid hw8
 have HGS := hid hgs
 have HS8 := hid hs8
 have HP8 := hid (own_below hp7 hb8)
 have HQ8 := hid (own_below hm7 hb8)
 have HPM := hid hpm
 have HB68 := hid hb68
 have HB8 := hid (HB6.out.trans (hb68.mono HB6.out.size))
 have HI8 := hid (HI6.out.kept hb68)
 have HC8 := hid (HC6.out.kept hb68)
 clear hp7 hm7 hne7 hb7 hpm hw8 hgs hb8 hs8 hb68 c13 cl HSA
 go_wp2_with fail
 rw [HW8.out,HGS.out]
 have c0 : w8.cell? ⟨gin,0,none⟩ = some (.slice I.A I.n I.cap) := HI8.out.cell 0
 have c1 : w8.cell? ⟨gin,1,none⟩ = some (.int .i64 I.c.sh) := HI8.out.cell 1
 have c2 : w8.cell? ⟨gin,2,none⟩ = some (.int .i64 I.c.ra) := HI8.out.cell 2
 have c3 : w8.cell? ⟨gin,3,none⟩ = some (.int .i64 I.c.mo) := HI8.out.cell 3
 have c4 : w8.cell? ⟨gin,4,none⟩ = some (.int .i64 I.c.wk) := HI8.out.cell 4
 have c5 : w8.cell? ⟨gin,5,none⟩ = some (.int .i64 I.c.ba) := HI8.out.cell 5
 have c6 : w8.cell? ⟨gin,6,none⟩ = some (.int .i64 I.c.mi) := HI8.out.cell 6
 have c7 : w8.cell? ⟨gin,7,none⟩ = some (.int .i64 I.c.st) := HI8.out.cell 7
 have c8 : w8.cell? ⟨gin,8,none⟩ = some (.int .i64 I.c.bu) := HI8.out.cell 8
 have c9 : w8.cell? ⟨gin,9,none⟩ = some (.int .i64 I.c.ch) := HI8.out.cell 9
 have c10 : w8.cell? ⟨gin,10,none⟩ = some (.int .i64 I.c.wi) := HI8.out.cell 10
 have c11 : w8.cell? ⟨gin,11,none⟩ = some (.int .i64 I.c.ca) := HI8.out.cell 11
 have c12 : w8.cell? ⟨gin,12,none⟩ = some (.slice I.S I.m I.cS) := HI8.out.cell 12
 have c13 : w8.cell? ⟨gin,13,none⟩ = some (.slice I.AP I.P I.cP) := HI8.out.cell 13
 have c14 : w8.cell? ⟨gin,14,none⟩ = some (.slice I.AD I.D I.cD) := HI8.out.cell 14
 have cl := HI8.out.lt
 have d0 : w8.cell? ⟨gc,0,none⟩ = some (.slice I.A I.n I.cap) := HC8.out.cell 0
 have d1 : w8.cell? ⟨gc,1,none⟩ = some (.int .i64 I.c.sh) := HC8.out.cell 1
 have d2 : w8.cell? ⟨gc,2,none⟩ = some (.int .i64 I.c.ra) := HC8.out.cell 2
 have d3 : w8.cell? ⟨gc,3,none⟩ = some (.int .i64 I.c.mo) := HC8.out.cell 3
 have d4 : w8.cell? ⟨gc,4,none⟩ = some (.int .i64 I.c.wk) := HC8.out.cell 4
 have d5 : w8.cell? ⟨gc,5,none⟩ = some (.int .i64 I.c.ba) := HC8.out.cell 5
 have d6 : w8.cell? ⟨gc,6,none⟩ = some (.int .i64 I.c.mi) := HC8.out.cell 6
 have d7 : w8.cell? ⟨gc,7,none⟩ = some (.int .i64 I.c.st) := HC8.out.cell 7
 have d8 : w8.cell? ⟨gc,8,none⟩ = some (.int .i64 I.c.bu) := HC8.out.cell 8
 have d9 : w8.cell? ⟨gc,9,none⟩ = some (.int .i64 I.c.ch) := HC8.out.cell 9
 have d10 : w8.cell? ⟨gc,10,none⟩ = some (.int .i64 I.c.wi) := HC8.out.cell 10
 have d11 : w8.cell? ⟨gc,11,none⟩ = some (.int .i64 I.c.ca) := HC8.out.cell 11
 have dl := HC8.out.lt
 have s0 := HS8.out.cell 0
 have s1 := HS8.out.cell 1
 have sl := HS8.out.lt
 refine wp_region_ghost (Kept w8) (fun F => NewV I x bs smb plb w8.heap.size F (.slice (some ⟨gp,0,none⟩) I.P cP) (.slice (some ⟨gm,0,none⟩) I.P cM)) w8.heap.size (fun i => w3.heap.size <= i /\ i < w6.heap.size) [0,1,2,3,4,5,6,7,9,10,11,13,14,15,16,17,18,19,21,22,25,28,29] [8,12,20,23,24,26,27,30,31] [32,33] (by kernel_rfl) (by kernel_rfl) (Kept.start w8) (fun W h => h.2.1) NewV.grow ?_
 simp only [List.filterMap_cons,List.filterMap_nil,List.getElem?_cons_succ,List.getElem?_cons_zero]
 refine early_step (.int .i64 x) rfl (fun W hW => ?_) ?_
 ·obtain ⟨hc,-,-⟩ := hW
  go_simp
 go_simp
 refine early_step (.pointer (some ⟨gc,4,none⟩)) rfl (fun W hW => ?_) ?_
 ·obtain ⟨hc,-,-⟩ := hW
  go_simp
 go_simp
 refine early_step (.int .i64 I.c.wk) rfl (fun W hW => ?_) ?_
 ·obtain ⟨hc,-,-⟩ := hW
  go_simp
 go_simp
 refine early_step (.pointer (some ⟨gc,6,none⟩)) rfl (fun W hW => ?_) ?_
 ·obtain ⟨hc,-,-⟩ := hW
  go_simp
 go_simp
 refine early_step (.int .i64 I.c.mi) rfl (fun W hW => ?_) ?_
 ·obtain ⟨hc,-,-⟩ := hW
  go_simp
 go_simp
 refine early_step (.pointer (some ⟨bs,0,none⟩)) rfl (fun W hW => ?_) ?_
 ·obtain ⟨hc,-,-⟩ := hW
  go_simp
 go_simp
 refine early_step (.pointer (some ⟨gin,12,none⟩)) rfl (fun W hW => ?_) ?_
 ·obtain ⟨hc,-,-⟩ := hW
  go_simp
 go_simp
 refine early_step (.slice I.S I.m I.cS) rfl (fun W hW => ?_) ?_
 ·obtain ⟨hc,-,-⟩ := hW
  go_simp
 go_simp
 refine early_step (.pointer (some ⟨smb,0,none⟩)) rfl (fun W hW => ?_) ?_
 ·obtain ⟨hc,-,-⟩ := hW
  go_simp
 go_simp
 refine early_step (.pointer (some ⟨plb,0,none⟩)) rfl (fun W hW => ?_) ?_
 ·obtain ⟨hc,-,-⟩ := hW
  go_simp
 go_simp
 refine early_step (.pointer (some ⟨plb,0,none⟩)) rfl (fun W hW => ?_) ?_
 ·obtain ⟨hc,-,-⟩ := hW
  go_simp
 go_simp
 refine early_step (.pointer (some ⟨gc,2,none⟩)) rfl (fun W hW => ?_) ?_
 ·obtain ⟨hc,-,-⟩ := hW
  go_simp
 go_simp
 refine early_step (.int .i64 I.c.ra) rfl (fun W hW => ?_) ?_
 ·obtain ⟨hc,-,-⟩ := hW
  go_simp
 go_simp
 refine early_step (.pointer (some ⟨gc,3,none⟩)) rfl (fun W hW => ?_) ?_
 ·obtain ⟨hc,-,-⟩ := hW
  go_simp
 go_simp
 refine early_step (.int .i64 I.c.mo) rfl (fun W hW => ?_) ?_
 ·obtain ⟨hc,-,-⟩ := hW
  go_simp
 go_simp
 refine early_step (.pointer (some ⟨gc,1,none⟩)) rfl (fun W hW => ?_) ?_
 ·obtain ⟨hc,-,-⟩ := hW
  go_simp
 go_simp
 refine early_step (.int .i64 I.c.sh) rfl (fun W hW => ?_) ?_
 ·obtain ⟨hc,-,-⟩ := hW
  go_simp
 go_simp
 refine early_step (.agg #[.int .i64 I.c.ra,.int .i64 I.c.mo,.int .i64 I.c.sh]) rfl (fun W hW => ?_) ?_
 ·obtain ⟨hc,-,-⟩ := hW
  go_simp
 go_simp
 refine early_step (.agg #[.slice (some ⟨gp,0,none⟩) I.P cP,.slice (some ⟨gm,0,none⟩) I.P cM]) rfl (fun W hW => ?_) ?_
 ·obtain ⟨hc,-,-⟩ := hW
  go_simp
 go_simp
 refine early_step (.pointer (some ⟨bs,0,none⟩)) rfl (fun W hW => ?_) ?_
 ·obtain ⟨hc,-,-⟩ := hW
  go_simp
 go_simp
 refine early_step (.agg #[.slice (some ⟨gp,0,none⟩) I.P cP,.slice (some ⟨gm,0,none⟩) I.P cM]) rfl (fun W hW => ?_) ?_
 ·obtain ⟨hc,-,-⟩ := hW
  go_simp
 go_simp
 refine early_step (.pointer (some ⟨plb,0,none⟩)) rfl (fun W hW => ?_) ?_
 ·obtain ⟨hc,-,-⟩ := hW
  go_simp
 go_simp
 refine early_step (.int .i64 x) rfl (fun W hW => ?_) ?_
 ·obtain ⟨hc,-,-⟩ := hW
  go_simp
 go_simp
 clear s0 s1 sl
 refine GhostAt.mk ?_ ?_
 ·intro j8 hj8 o ho8 vs F W hS hV
  simp only [List.mem_cons,List.not_mem_nil,or_false] at hj8
  have HS := hid hS
  have HV := hid hV
  have HBW : Hid (Below w.heap.size w W) := hid (HB8.out.trans (hS.2.2.mono HB8.out.size))
  have HPLW : Hid (PlanAt W plb (I.mc x).pc I.c I.A I.n I.cap) := hid ((HPL6.out.plan.kept HB68.out).kept hS.2.2)
  clear hS hV
  rcases hj8 with rfl | rfl | rfl | rfl | rfl | rfl | rfl | rfl | rfl
  ·-- the examples
   cases ho8
   unfold PostG
   simp only [puts,dstN,List.getElem?_toArray,List.getElem?_cons_succ,List.getElem?_cons_zero,Option.bind_some]
   change wpList _ _ _ (_ :: []) _ _
   go_wp2_with fail
   ((with_reducible refine (dataClone_any I.S I.m I.cS I.N I.M I.es I.f W HO.out.el (by omega) (HI.out.re.below HBW.out) (HI.out.rs.below HBW.out) (by rw [HO.out.hN]; have := HK.out.szle (show 0 < (I.mc x).n by have := HK.out.n2; omega); exact Nat.le_trans this (by omega)) (by rw [HO.out.hM]; have := HK.out.szle (show (I.mc x).n - 1 < (I.mc x).n by have := HK.out.n2; omega); exact Nat.le_trans this (by omega)) HO.out.fl).mono ?_); rintro e w9 ⟨S9,c9,l9,hl9,rfl,ho9,hs9,hb9⟩)
   have HB9 := hid hb9
   have H9 := hid (show X8 I (addF F W.heap.size w9.heap.size) w9 S9 c9 l9 from ⟨hl9,Hg.of_mid (lo := W.heap.size) (fun w' hm => ⟨own_base (own_mid ho9 hm (Nat.le_refl _)) (Nat.zero_le _),(hs9.mid hm (Nat.le_refl _)).base (Nat.zero_le _)⟩) (addF_new F _ _)⟩)
   clear hl9 ho9 hs9 hb9
   go_wp2_with fail
   exact ⟨HS.out.call HB9.out,HB9.out,addF F W.heap.size w9.heap.size,addF_iff _ _ _,NewV.mk8 H9.out⟩
  ·-- the buckets
   cases ho8
   unfold PostG
   simp only [puts,dstN,List.getElem?_toArray,List.getElem?_cons_succ,List.getElem?_cons_zero,Option.bind_some]
   change wpList _ _ _ (_ :: []) _ _
   go_wp2_with fail
   ((with_reducible refine (planBuckets_any (I.mc x).pc I.c I.A I.n I.cap plb W HK.out.pcok HPLW.out).mono ?_); rintro e w9 ⟨A9,c9,rfl,ho9,hb9⟩)
   have HB9 := hid hb9
   have H9 := hid (show X12 I x (addF F W.heap.size w9.heap.size) w9 A9 c9 from Hg.of_mid (lo := W.heap.size) (fun w' hm => own_base (own_mid ho9 hm (Nat.le_refl _)) (Nat.zero_le _)) (addF_new F _ _))
   clear ho9 hb9
   go_wp2_with fail
   exact ⟨HS.out.call HB9.out,HB9.out,addF F W.heap.size w9.heap.size,addF_iff _ _ _,NewV.mk12 H9.out⟩
  ·-- the setting
   obtain ⟨S8,c8,l8,v8,x8⟩ := (HV.out 8 (by simp) (by kernel_rfl)).1 rfl
   obtain ⟨A8,d8,v12,x12⟩ := (HV.out 12 (by simp) (by kernel_rfl)).2.1 rfl
   have X8' := hid x8
   have X12' := hid x12
   clear x8 x12
   cases ho8
   unfold PostG
   simp only [puts,dstN,List.getElem?_toArray,List.getElem?_cons_succ,List.getElem?_cons_zero,Option.bind_some]
   rw [v8,v12]
   change wpList _ _ _ (_ :: []) _ _
   go_wp2_with fail
   exact ⟨HS.out,Below.refl _ _,F,fun _ _ => Iff.rfl,NewV.mk20 X8'.out X12'.out⟩
  ·-- the count
   have hcn : cntS I.l (I.n - 1) = (I.P : Int) := HN.out.cn.symm
   have HCO : Hid (Calls Tryz.prog 43 #[.pointer (some ⟨bs,0,none⟩)] W fun e w' => e = .returned (.int .i64 I.P) /\ W = w') := hid (by
    have := shapeCount_any w3.heap.size bs I.n I.l W ((((HSH4.out.below HB45.out).below HB56.out).below HB68.out).below HS.out.2.2)
    rw [hcn] at this
    exact this)
   clear hcn
   cases ho8
   unfold PostG
   simp only [puts,dstN,List.getElem?_toArray,List.getElem?_cons_succ,List.getElem?_cons_zero,Option.bind_some]
   change wpList _ _ _ (_ :: []) _ _
   go_wp2_with fail
   ((with_reducible refine HCO.out.mono ?_); rintro e w9 ⟨rfl,hw9⟩)
   subst hw9
   go_wp2_with fail
   exact ⟨HS.out,Below.refl _ _,F,fun _ _ => Iff.rfl,NewV.mk23⟩
  ·-- the gradient
   have v23 := (HV.out 23 (by simp) (by kernel_rfl)).2.2.2.1 rfl
   have hmk := fun W => run_make_row' (P := Tryz.prog) 74 2 (.int .i64 0) 8 Tryz.underlying74 slVec.info rfl .i64 .i64 I.P (by omega) (by omega) W
   cases ho8
   unfold PostG
   simp only [puts,dstN,List.getElem?_toArray,List.getElem?_cons_succ,List.getElem?_cons_zero,Option.bind_some]
   rw [v23]
   change wpList _ _ _ (_ :: []) _ _
   go_wp2_with fail
   exact ⟨HS.out.alloc _,(Below.refl _ _).alloc (Nat.le_refl _) _,cutF F W.heap.size,cutF_iff _ _,NewV.mk24 ⟨HS.out.2.1,cutF_not _ _,own_made W I.P _ 0 2 rfl (Nat.zero_le _) (by omega)⟩⟩
  ·-- the state's copy
   have HCL := hid (sgdClone_any (some ⟨gp,0,none⟩) (some ⟨gm,0,none⟩) I.P I.P cP cM I.P0 (zeros I.P) W HI.out.pl (by simp [zeros]) (Rd.of_own (own_below HP8.out HS.out.2.2)) (Rd.of_own (own_below HQ8.out HS.out.2.2)) (by omega) (by omega))
   cases ho8
   unfold PostG
   simp only [puts,dstN,List.getElem?_toArray,List.getElem?_cons_succ,List.getElem?_cons_zero,Option.bind_some]
   change wpList _ _ _ (_ :: []) _ _
   go_wp2_with fail
   ((with_reducible refine HCL.out.mono ?_); rintro e w9 ⟨A9,c9,A10,c10,rfl,hp9,hq9,hpq9,hb9⟩)
   have HB9 := hid hb9
   have H9 := hid (show X26 I (addF F W.heap.size w9.heap.size) w9 (A9,c9,A10,c10) from Hg.of_mid (lo := W.heap.size) (fun w' hm i y hy => by
    have hi : i < [((A9,c9,A10,c10) : StS)].length := (List.getElem?_eq_some_iff.1 hy).1
    obtain rfl : i = 0 := by simpa using hi
    simp at hy
    subst hy
    exact ⟨own_base (own_mid hp9 hm (Nat.le_refl _)) (Nat.zero_le _),own_base (own_mid hq9 hm (Nat.le_refl _)) (Nat.zero_le _)⟩) (addF_new F _ _))
   clear hp9 hq9 hpq9 hb9
   go_wp2_with fail
   exact ⟨HS.out.call HB9.out,HB9.out,addF F W.heap.size w9.heap.size,addF_iff _ _ _,NewV.mk26 H9.out⟩
  ·-- what is recorded
   obtain ⟨y,v26,x26⟩ := (HV.out 26 (by simp) (by kernel_rfl)).2.2.2.2.2.1 rfl
   have X26' := hid x26
   clear x26
   cases ho8
   unfold PostG
   simp only [puts,dstN,List.getElem?_toArray,List.getElem?_cons_succ,List.getElem?_cons_zero,Option.bind_some]
   rw [v26]
   change wpList _ _ _ (_ :: []) _ _
   go_wp2_with fail
   exact ⟨HS.out.alloc _,(Below.refl _ _).alloc (Nat.le_refl _) _,cutF F W.heap.size,cutF_iff _ _,NewV.mk27 ⟨HS.out.2.1,cutF_not _ _,own_of_blk (Blk.new W 92 #[.slice y.1 I.P y.2.1,.slice y.2.2.1 I.P y.2.2.2]) (Nat.zero_le _) rfl (by unfold maxLen; omega)⟩ (X26'.out.grow ((Below.refl _ _).alloc (Nat.le_refl _) _) (cutF_iff _ _))⟩
  ·-- the items
   have HST := hid (planStep_any (I.mc x).pc I.c I.A I.n I.cap plb x 0 W HK.out.pcok HK.out.fits HPLW.out)
   have e0 : (I.mc x).pc.stepI I.c.st x 0 = I.its x := by rw [show I.c.st = ((I.mc x).st : Int) from HK.out.st]; rfl
   rw [e0] at HST
   clear e0
   cases ho8
   unfold PostG
   simp only [puts,dstN,List.getElem?_toArray,List.getElem?_cons_succ,List.getElem?_cons_zero,Option.bind_some]
   change wpList _ _ _ (_ :: []) _ _
   go_wp2_with fail
   ((with_reducible refine HST.out.mono ?_); rintro e w9 ⟨A9,c9,rfl,ho9,hb9⟩)
   have HB9 := hid hb9
   have H9 := hid (show X30 I x (addF F W.heap.size w9.heap.size) w9 A9 c9 from Hg.of_mid (lo := W.heap.size) (fun w' hm => own_base (own_mid ho9 hm (Nat.le_refl _)) (Nat.zero_le _)) (addF_new F _ _))
   clear ho9 hb9
   go_wp2_with fail
   exact ⟨HS.out.call HB9.out,HB9.out,addF F W.heap.size w9.heap.size,addF_iff _ _ _,NewV.mk30 H9.out⟩
  ·-- the worker
   obtain ⟨S8,c8,l8,A8,d8,v20,x8,x12⟩ := (HV.out 20 (by simp) (by kernel_rfl)).2.2.1 rfl
   obtain ⟨g24,v24,x24⟩ := (HV.out 24 (by simp) (by kernel_rfl)).2.2.2.2.1 rfl
   obtain ⟨g27,y,v27,x27,x26⟩ := (HV.out 27 (by simp) (by kernel_rfl)).2.2.2.2.2.2.1 rfl
   obtain ⟨AI,cI,v30,x30⟩ := (HV.out 30 (by simp) (by kernel_rfl)).2.2.2.2.2.2.2.1 rfl
   have X8' := hid x8
   have X12' := hid x12
   have X24' := hid x24
   have X26' := hid x26
   have X27' := hid x27
   have X30' := hid x30
   clear x8 x12 x24 x26 x27 x30
   cases ho8
   unfold PostG
   simp only [puts,dstN,List.getElem?_toArray,List.getElem?_cons_succ,List.getElem?_cons_zero,Option.bind_some]
   rw [v20,v24,v27,v30]
   change wpList _ _ _ (_ :: []) _ _
   go_wp2_with fail
   exact ⟨HS.out,Below.refl _ _,F,fun _ _ => Iff.rfl,NewV.mk31 X8'.out X12'.out X24'.out X26'.out X27'.out X30'.out⟩
 ·intro vs F W hS hF hV
  obtain ⟨S8,c8,l8,A8,d8,g24,g27,y,AI,cI,v31,x8,x12,x24,x26,x27,x30⟩ := (hV 31 (by simp)).2.2.2.2.2.2.2.2 rfl
  simp only [puts,dstN,List.filterMap_cons,List.filterMap_nil,List.getElem?_toArray,List.getElem?_cons_succ,List.getElem?_cons_zero,Option.bind_some]
  rw [v31]
  have HS := hid hS
  have X8' := hid x8
  have X12' := hid x12
  have X24' := hid x24
  have X26' := hid x26
  have X27' := hid x27
  have X30' := hid x30
  have HFF := hid hF
  clear hS hF hV x8 x12 x24 x26 x27 x30
  change wpList _ _ _ (_ :: _ :: []) _ _
  go_wp2_with fail
  refine NoPanic.normal ?_
  go_wp2_with fail
  go_ret2
  refine ⟨W.heap.size,rfl,?_,(HB8.out.trans (HS.out.2.2.mono HB8.out.size)).alloc (Nat.le_trans HB8.out.size HS.out.2.1) _⟩
  have hz45 := HB45.out.size
  have hz56 := HB56.out.size
  have hz68 := HB68.out.size
  have hz34 := HZ34.out
  have g1 : Hg (fun i => w3.heap.size <= i /\ i < w6.heap.size) w8 (fun W => ShapeAt W w3.heap.size bs I.l I.n) :=
   (((Hg.of_mid (lo := w3.heap.size) (fun w' hm => HSH4.out.mid hm (Nat.le_refl _)) (fun i a b => ⟨a,by omega⟩)).below HB45.out).below HB56.out).below HB68.out
  have g2 : Hg (fun i => w3.heap.size <= i /\ i < w6.heap.size) w8 (fun W => SmpAt W 0 smb I.c.ba.toNat I.c.st.toNat (I.m / I.c.ba.toNat) (cnt I.c.st.toNat (I.m / I.c.ba.toNat)) (blocksL (I.m / I.c.ba.toNat * I.c.ba.toNat) I.c.ba.toNat) (ordsL I.L I.m (cnt I.c.st.toNat (I.m / I.c.ba.toNat)))) :=
   ((Hg.of_mid (lo := w4.heap.size) (fun w' hm => (HSM5.out.mid hm (Nat.le_refl _)).base (Nat.zero_le _)) (fun i a b => ⟨by omega,by omega⟩)).below HB56.out).below HB68.out
  have g3 : Hg (fun i => w3.heap.size <= i /\ i < w6.heap.size) w8 (fun W => PlanAt W plb (I.mc x).pc I.c I.A I.n I.cap) :=
   (Hg.of_mid (lo := w5.heap.size) (fun w' hm => (HPL6.out.mid hm (Nat.le_refl _)).plan) (fun i a b => ⟨by omega,b⟩)).below HB68.out
  exact (mnew_fin (lo := w3.heap.size) (hi := w6.heap.size) HK.out HO.out g1 g2 g3 hz68 (by omega) HFF.out HS.out.2.2 HP8.out HQ8.out HPM.out X8'.out X12'.out X24'.out X26'.out X27'.out X30'.out).mono (fun i _ h => Nat.le_trans HWN.out h)
end
end Go.Proofs.YtkmaeipoaoikpaaGreat
