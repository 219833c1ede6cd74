/- Traj, STraj, Run, Small, SmRun. -/
import Derived.Test.YtkmaeipoaoikpaaGreatEB43
namespace Go.Proofs.YtkmaeipoaoikpaaGreat
set_option linter.all false
set_option maxRecDepth 100000
set_option maxHeartbeats 4000000
open Lib (hid)
section
open Go.RowKit
def TrajRet (w : World) (NP : Nat) (r : List (List Int × List Int)) (e : Ending) (w' : World) : Prop :=
 ∃ A c l,l.length = r.length /\ e = .returned (.slice A r.length c) /\ w'.ownsRow w.heap.size 92 2 (.slice A r.length c) r.length (stv NP NP l) /\ OwnS w' w.heap.size NP NP l (recF r) /\ Below w.heap.size w w'
theorem machTraj_any (F : Nat -> Prop) (mb : Nat) (K : MC) (s : MS) (a : MA) (w : World) (hK : K.Ok) (h : MachIn F w mb K s a) (hlen : ∀ i,i < s.rcd.length -> (recF s.rcd (i + 1)).1.length = K.NP /\ (recF s.rcd (i + 1)).2.length = K.NP) :
  Calls Tryz.prog 56 #[.pointer (some ⟨mb,0,none⟩)] w (TrajRet w K.NP s.rcd) := by
 obtain ⟨n,hn⟩ : ∃ n,s.rcd.length = n := ⟨_,rfl⟩
 have hrl := h.rl
 have m14 : w.cell? ⟨mb,14,none⟩ = some (.slice a.AR n a.cR) := by rw [<- hn]; exact h.blk.cell 14
 have ml := h.blk.lt
 have hR := Rd.of_own h.rrow
 have hS := h.fz.here.rsr
 have hSL := h.fz.here.rsl
 rw [hn] at hR hSL hlen hrl
 have HR := hid hR
 have HS := hid hS
 have HSL := hid hSL
 have HN := hid hn
 have HLEN := hid hlen
 have HNP := hid hK.np
 clear h hR hS hSL hn hlen hK
 go_enter Tryz.func56,Tryz.ntmps56
 go_wp2_with fail
 clear m14 ml
 go_loopw [3,13] (fun o v wr => ∃ (i : Nat) (A : Option Addr) (c : Nat) (l : List StS),i <= n /\ o = .slice A i c /\ v = .int .i64 i /\ wr.ownsRow w.heap.size 92 2 (.slice A i c) i (stv K.NP K.NP l) /\ l.length = i /\ OwnS wr w.heap.size K.NP K.NP l (recF s.rcd) /\ Below w.heap.size w wr) (fun _ v _ => n - (intOf v).toNat)
 case atStart => exact ⟨0,none,0,[],by omega,rfl,rfl,World.ownsRow_nil _ _ _ _,rfl,fun i s h => by simp at h,Below.refl _ _⟩
 case round =>
  obtain ⟨i,A,c,l,hi,rfl,rfl,hz,hll,hos,hb⟩ := hrel
  by_cases hlt : i < n
  ·obtain ⟨⟨A1,c1,A2,c2⟩,hs4⟩ : ∃ s,a.rs[i]? = some s := ⟨_,List.getElem?_eq_getElem (by rw [HSL.out]; exact hlt)⟩
   obtain ⟨b5,o5,hA5,l5,q0,q1⟩ := stv_rd (HR.out.below hb) hs4 hlt
   dsimp only at q0 q1
   obtain ⟨h1,h2⟩ := HS.out i _ hs4
   obtain ⟨e1,e2⟩ := HLEN.out i hlt
   have HZ := hid hz
   have HLL := hid hll
   have HOS := hid hos
   have HB := hid hb
   have HX1 := hid h1
   have HX2 := hid h2
   have HE1 := hid e1
   have HE2 := hid e2
   have HLT := hid hlt
   have HAR := hid hA5
   have r1 : (0 : Int) <= (i : Int) := by omega
   have r2 : (i : Int) < (n : Int) := by omega
   clear hz hll hos hb h1 h2 e1 e2 hs4 hlt hA5
   rw [HAR.out]
   go_wp2_with fail
   have hwr : Below w.heap.size w (wr.alloc (.cells #[.slice A1 K.NP c1,.slice A2 K.NP c2] 92)) := HB.out.alloc HB.out.size _
   have ho1 := OwnS.below (w' := wr.alloc (.cells #[.slice A1 K.NP c1,.slice A2 K.NP c2] 92)) HOS.out ((Below.refl wr.heap.size wr).alloc (Nat.le_refl _) _)
   have hz1 : (wr.alloc (.cells #[.slice A1 K.NP c1,.slice A2 K.NP c2] 92)).ownsRow w.heap.size 92 2 (.slice A i c) i (stv K.NP K.NP l) := own_below HZ.out ((Below.refl wr.heap.size wr).alloc (Nat.le_refl _) _)
   obtain ⟨w1,hw1⟩ : ∃ w1,wr.alloc (.cells #[.slice A1 K.NP c1,.slice A2 K.NP c2] 92) = w1 := ⟨_,rfl⟩
   rw [hw1] at hwr ho1 hz1 ⊢
   have HC := hid (sgdClone_any A1 A2 K.NP K.NP c1 c2 _ _ w1 HE1.out HE2.out (Rd.of_own (own_below HX1.out hwr)) (Rd.of_own (own_below HX2.out hwr)) (by have := HNP.out; omega) (by have := HNP.out; omega))
   have HW1 := hid hwr
   have HO1 := hid ho1
   have HZ1 := hid hz1
   clear hw1 hwr ho1 hz1
   ((with_reducible refine HC.out.mono ?_); rintro e w2 ⟨AP,cP,AM,cM,rfl,hp2,hm2,hpm,hb2⟩)
   have hb2' : Below w1.heap.size w1 w2 := hb2
   have hp2' : w2.ownsRow w1.heap.size 2 1 (.slice AP K.NP cP) K.NP (iv (recF s.rcd (i + 1)).1) := hp2
   have hm2' : w2.ownsRow w1.heap.size 2 1 (.slice AM K.NP cM) K.NP (iv (recF s.rcd (i + 1)).2) := hm2
   have HW2 := hid (HW1.out.trans (hb2'.mono HW1.out.size))
   have HO2 := hid (HO1.out.below hb2')
   have HZ2 := hid (own_below HZ1.out hb2')
   have HP2 := hid (own_base hp2' HW1.out.size)
   have HQ2 := hid (own_base hm2' HW1.out.size)
   clear hp2 hm2 hpm hb2 hb2' hp2' hm2' HC
   go_wp2_with (at_builtin; go_must (refine wpList_pushL slState rfl _ _ rfl w.heap.size (.slice A i c) i (stv K.NP K.NP l) rfl HZ2.out #[.slice AP K.NP cP,.slice AM K.NP cM] w2.heap.size rfl rfl rfl (by intro u hu; simp at hu; rcases hu with rfl | rfl <;> rfl) (by unfold maxLen; omega) (by omega) HW2.out.size ?_); go_must (intro A' c' wa hown' hb' hgr' hat'))
   have hlt := HLT.out
   refine ⟨⟨i + 1,A',c',l ++ [(AP,cP,AM,cM)],by omega,rfl,rfl,?_,by rw [List.length_append,HLL.out]; rfl,?_,HW2.out.trans hb'⟩,?_⟩
   ·have : stv K.NP K.NP (l ++ [(AP,cP,AM,cM)]) = stv K.NP K.NP l ++ #[Value.slice AP K.NP cP,Value.slice AM K.NP cM].toList := by simp [stv]
    rw [this]
    exact hown'
   ·refine OwnS.snoc (HO2.out.row HZ2.out (by decide) hgr') ?_ ?_
    ·rw [HLL.out]
     exact HP2.out.kept hgr' (lnk_own_none HP2.out HZ2.out (by decide))
    ·rw [HLL.out]
     exact HQ2.out.kept hgr' (lnk_own_none HQ2.out HZ2.out (by decide))
   ·simp [intOf]
    omega
  ·obtain rfl : i = n := by omega
   have HZ := hid hz
   have HLL := hid hll
   have HOS := hid hos
   have HB := hid hb
   have r2 : ¬ (i : Int) < (i : Int) := by omega
   clear hz hll hos hb hlt
   go_wp2_with fail
   go_ret
   exact ⟨A,c,l,by rw [HLL.out,HN.out],by rw [HN.out]; rfl,by rw [HN.out]; exact HZ.out,HOS.out,HB.out⟩
theorem schedTraj_any {own : Nat -> Nat} {w : World} {xb : Nat} {I : InC} {mbs lbs : List Nat} {mss : List MS} {lss : List LS} {AW : Option Addr} {cW : Nat} {AL : Option Addr} {cL cnt : Nat} (h : WorldIn own w xb I mbs lbs mss lss AW cW AL cL cnt) (hO : I.Ok) (n x : Nat) (s : MS) (hn : mbs.length = n) (hl : lbs.length = n) (hx : x < n) (hn64 : n <= 64) (hxw : (x : Int) < I.c.wk) (hs : mss[x]? = some s) (hlen : ∀ i,i < s.rcd.length -> (recF s.rcd (i + 1)).1.length = (I.mc x).NP /\ (recF s.rcd (i + 1)).2.length = (I.mc x).NP) :
  Calls Tryz.prog 32 #[.pointer (some ⟨xb,0,none⟩),.int .i64 x] w (TrajRet w (I.mc x).NP s.rcd) := by
 obtain ⟨b,hb⟩ : ∃ b,mbs[x]? = some b := ⟨_,List.getElem?_eq_getElem (by omega)⟩
 obtain ⟨li,hli⟩ : ∃ b,lbs[(x + n - 1) % n]? = some b := ⟨_,List.getElem?_eq_getElem (by rw [hl]; exact Nat.mod_lt _ (by omega))⟩
 obtain ⟨lo,hlo⟩ : ∃ b,lbs[x]? = some b := ⟨_,List.getElem?_eq_getElem (by omega)⟩
 have HAT := hid (schedAt_any h n x b li lo hn hl hx hn64 hb hli hlo)
 have HP := hid (h.parts.mach x b s hb hs)
 have HK := hid (hO.mc hxw)
 have HLEN := hid hlen
 have hme := invokeTrajectory b
 obtain ⟨K,hK⟩ : ∃ K,I.mc x = K := ⟨_,rfl⟩
 rw [hK] at HP HK HLEN ⊢
 clear h hO hn hl hx hn64 hxw hs hb hli hlo hlen hK
 go_enter Tryz.func32,Tryz.ntmps32
 go_wp2_with fail
 ((with_reducible refine HAT.out.mono ?_); rintro e w1 ⟨rfl,hb1⟩)
 have HB1 := hid hb1
 obtain ⟨F,a,hM,-,-⟩ := HP.out.step hb1.size (fun i hi _ => hb1.block i hi)
 have HC := hid (machTraj_any F b K s a w1 HK.out hM HLEN.out)
 clear hb1 hM
 go_wp2_with fail
 ((with_reducible refine HC.out.mono ?_); rintro e w2 ⟨A,c,l,hll,rfl,ho,hos,hb2⟩)
 have HO := hid ho
 have HOS := hid hos
 have HB2 := hid hb2
 have HLL := hid hll
 clear ho hos hb2 hll hme
 go_wp2_with fail
 go_ret
 exact ⟨A,c,l,HLL.out,rfl,own_base HO.out HB1.out.size,HOS.out.base HB1.out.size,HB1.out.trans (HB2.out.mono HB1.out.size)⟩
def itemB (K : MC) (x : RItem) : Bool :=
 decide (0 <= x.1.2.1) && decide (x.1.2.1 <= 1000000) && (!decide (x.1.1 = 1) || (decide (-1000 <= x.1.2.2) && decide (x.1.2.2 <= 1000))) && (!decide (x.1.1 = 5) || (decide (0 <= x.1.2.2) && decide (x.1.2.2.toNat < K.pc.nb))) &&
 (!(decide (x.1.1 = 3) || decide (x.1.1 = 4)) || (decide (0 <= x.2.2.2.1) && decide (x.2.2.2.1 <= x.2.2.2.2) && decide (x.2.2.2.2 <= K.NP)))
theorem itemB_ok {K : MC} {x : RItem} (h : itemB K x = true) : ItemOk K x := by
 simp only [itemB,Bool.and_eq_true,decide_eq_true_eq,Bool.or_eq_true,Bool.not_eq_true',decide_eq_false_iff_not,Bool.or_eq_false_iff] at h
 obtain ⟨⟨⟨⟨h1,h2⟩,h3⟩,h4⟩,h5⟩ := h
 refine ⟨⟨h1,h2⟩,fun e => ?_,fun e => ?_,fun e => ?_⟩
 ·rcases h3 with h | h
  ·exact absurd e h
  ·exact h
 ·rcases h4 with h | h
  ·exact absurd e h
  ·exact ⟨x.1.2.2.toNat,by omega,h.2⟩
 ·rcases h5 with h | ⟨⟨h6,h7⟩,h8⟩
  ·rcases e with e | e
   ·exact absurd e h.1
   ·exact absurd e h.2
  ·exact ⟨x.2.2.2.1.toNat,x.2.2.2.2.toNat,by omega,by omega,by omega,by omega⟩
def smallB (s : MS) : Bool := decide (s.cnt < 1000000000000) && decide (s.opn.length < 1000000) && decide (s.rcd.length < 1000)
theorem smallB_ok {s : MS} (h : smallB s = true) : s.Small := by
 simp only [smallB,Bool.and_eq_true,decide_eq_true_eq] at h
 exact ⟨h.1.1,h.1.2,h.2⟩
def stepW (I : InC) (n x : Nat) (s : WS) : WS :=
 match s.mss[x]? with
 | none => s
 | some m =>
  match m.its[m.nx]? with
  | none => s
  | some it =>
   if it.1.1 = 3 then
    match s.lss[x]? with
    | none => s
    | some l => ⟨s.mss.set x (nextMS (I.mc x) m it.1.2.1),s.lss.set x ⟨l.s + 1,l.r,l.q ++ [(it.2.2.1,pcL m.G it.2.2.2.1.toNat (it.2.2.2.2 - it.2.2.2.1).toNat)]⟩,s.cnt + 1⟩
   else if it.1.1 = 4 then
    match s.lss[(x + n - 1) % n]? with
    | none => s
    | some l =>
     match l.q with
     | [] => s
     | (_,vs) :: q => ⟨s.mss.set x (nextMS (I.mc x) { m with G := recvG it.2.1.2 m.G it.2.2.2.1.toNat (it.2.2.2.2 - it.2.2.2.1).toNat vs } it.1.2.1),s.lss.set ((x + n - 1) % n) ⟨l.s,l.r + 1,q⟩,s.cnt + 1⟩
   else ⟨s.mss.set x (nextMS (I.mc x) (workMS (I.mc x) m it) it.1.2.1),s.lss,s.cnt + 1⟩
def pickB (I : InC) (n x : Nat) (s : WS) : Bool :=
 match s.mss[x]? with
 | none => false
 | some m =>
  match m.its[m.nx]? with
  | none => false
  | some it =>
   itemB (I.mc x) it && (smallB m && (decide (s.cnt < 1000000000000) &&
   (if it.1.1 = 3 then
    match s.lss[x]? with
    | none => false
    | some l => decide (l.s - l.r < I.c.ca.toNat) && decide (l.s < 1000000000)
   else if it.1.1 = 4 then
    match s.lss[(x + n - 1) % n]? with
    | none => false
    | some l =>
     match l.q with
     | [] => false
     | (t,vs) :: _ => decide (t = it.2.2.1) && decide (vs.length = (it.2.2.2.2 - it.2.2.2.1).toNat)
   else decide (it.1.1 = 1) || (decide (it.1.1 = 2) || (decide (it.1.1 = 5) || decide (it.1.1 = 6))))))
theorem pick_step {own : Nat -> Nat} {W : World} {xb : Nat} {I : InC} {mbs lbs : List Nat} {s : WS} {AW : Option Addr} {cW : Nat} {AL : Option Addr} {cL : Nat} (h : WorldIn own W xb I mbs lbs s.mss s.lss AW cW AL cL s.cnt) (hO : I.Ok) (n x : Nat) (hn : mbs.length = n) (hl : lbs.length = n) (hx : x < n) (hn64 : n <= 64) (hxw : (x : Int) < I.c.wk) (hB : pickB I n x s = true) :
  Calls Tryz.prog 71 #[.pointer (some ⟨xb,0,none⟩),.int .i64 x] W fun e w' => ∃ r,e = .returned (.bool r) /\ ∃ own',WorldIn own' w' xb I mbs lbs (stepW I n x s).mss (stepW I n x s).lss AW cW AL cL (stepW I n x s).cnt /\ (∀ i,own' i ≠ 0 -> own i ≠ 0 \/ W.heap.size <= i) /\ But (fun i => own i ≠ 0) W w' := by
 unfold pickB at hB
 unfold stepW
 split at hB
 ·cases hB
 ·rename_i m hm
  split at hB
  ·cases hB
  ·rename_i it hit
   simp only [Bool.and_eq_true,decide_eq_true_eq] at hB
   obtain ⟨h1,h2,h3,h4⟩ := hB
   (try simp only [hm,hit])
   by_cases e3 : it.1.1 = 3
   ·rw [if_pos e3] at h4 ⊢
    split at h4
    ·cases h4
    ·rename_i l hl'
     simp only [Bool.and_eq_true,decide_eq_true_eq] at h4
     (try simp only [hl'])
     refine (schedPick_send h hO n x m l it hn hl hx hn64 hxw h3 hm hl' hit e3 (itemB_ok h1) (smallB_ok h2) h4.1 h4.2).mono ?_
     rintro e w' ⟨e1,own',hw,hnw,hb⟩
     exact ⟨true,e1,own',hw,hnw,hb⟩
   ·rw [if_neg e3] at h4 ⊢
    by_cases e4 : it.1.1 = 4
    ·rw [if_pos e4] at h4 ⊢
     split at h4
     ·cases h4
     ·rename_i l hl'
      (try simp only [hl'])
      split at h4
      ·cases h4
      ·rename_i t vs q hq
       simp only [Bool.and_eq_true,decide_eq_true_eq] at h4
       obtain ⟨ht,hv⟩ := h4
       subst ht
       (try simp only [hq])
       refine (schedPick_recv h hO n x _ m l it vs q hn hl hx hn64 hxw h3 hm rfl hl' hit e4 (itemB_ok h1) (smallB_ok h2) hq hv).mono ?_
       rintro e w' ⟨e1,own',hw,hnw,hb⟩
       exact ⟨true,e1,own',hw,hnw,hb⟩
    ·rw [if_neg e4] at h4 ⊢
     simp only [Bool.or_eq_true,decide_eq_true_eq] at h4
     refine (schedPick_own h hO n x m it hn hl hx hn64 hxw h3 hm hit h4 (itemB_ok h1) (smallB_ok h2)).mono ?_
     rintro e w' ⟨e1,own',hw,hnw,hb⟩
     exact ⟨true,e1,own',hw,hnw,hb⟩
def startW (I : InC) (n : Nat) : WS := ⟨startL I n,startK n,0⟩
theorem rd_new (w : World) (t : TypeId) (vs : Array Value) (size n : Nat) (hl : vs.toList.length = n * size) : Rd (w.alloc (.cells vs t)) size (some ⟨w.heap.size,0,none⟩) n vs.toList := by
 refine ⟨hl,fun hn => ⟨_,0,rfl,by simp,fun j u hu => ?_⟩⟩
 rw [Nat.zero_add,(Blk.new w t vs).cell j]
 simpa using hu
def smCfg : Cfg := { sh := 1,ra := 1,mo := 1,wk := 2,ba := 2,mi := 1,st := 1,bu := 2,ch := 1,wi := 1,ca := 1 }
def smF : Nat -> List Int × List Int := fun i => [([2],[6]),([4],[2])].getD (i - 1) ([],[])
def smI (A : Option Addr) (cap : Nat) (S : Option Addr) (cS : Nat) (es : List StS) (AP : Option Addr) (cP : Nat) (AD : Option Addr) (cD : Nat) : InC :=
 { A := A,n := 2,cap := cap,l := [1,1],c := smCfg,S := S,m := 2,cS := cS,es := es,N := 1,M := 1,f := smF,AP := AP,P := 2,cP := cP,P0 := [4,2],AD := AD,D := 2,cD := cD,L := [1,0] }
theorem rd_new' {W : World} {g : Nat} {t : TypeId} {vs : Array Value} {size n : Nat} {xs : List Value} (h : W.heap.size = g) (hx : vs.toList = xs) (hl : xs.length = n * size) : Rd (W.alloc (.cells vs t)) size (some ⟨g,0,none⟩) n xs := by
 subst h hx
 exact rd_new W t vs size n hl
def SmallRet (w : World) (e : Ending) (w' : World) : Prop := ∃ A cap S cS es AP cP AD cD,e = .returned (inV A 2 cap smCfg S 2 cS AP 2 cP AD 2 cD) /\ es.length = 2 /\ InAt w' (smI A cap S cS es AP cP AD cD) /\ Below w.heap.size w w'
theorem small_any (w : World) : Calls Tryz.prog 31 #[] w (SmallRet w) := by
 go_enter Tryz.func31,Tryz.ntmps31
 go_wp2_with fail
 (try simp only [Exit.inBlock,Exit.then])
 refine bodyPost_ret (results_cell_row rfl _ _ w.heap.size _ _ (0,0) _ rfl (Blk.alloc (Blk.alloc (Blk.alloc (Blk.alloc (Blk.alloc (Blk.alloc (Blk.alloc (Blk.alloc (Blk.alloc (Blk.new _ _ _) _) _) _) _) _) _) _) _) _) Tryz.underlying29 rfl (by kernel_rfl)) rfl ?_
 refine ⟨some ⟨w.heap.size + 1,0,none⟩,2,some ⟨w.heap.size + 1 + 1 + 1 + 1 + 1 + 1 + 1,0,none⟩,2,[(some ⟨w.heap.size + 1 + 1 + 1,0,none⟩,1,some ⟨w.heap.size + 1 + 1 + 1 + 1,0,none⟩,1),(some ⟨w.heap.size + 1 + 1 + 1 + 1 + 1,0,none⟩,1,some ⟨w.heap.size + 1 + 1 + 1 + 1 + 1 + 1,0,none⟩,1)],some ⟨w.heap.size + 1 + 1 + 1 + 1 + 1 + 1 + 1 + 1,0,none⟩,2,some ⟨w.heap.size + 1 + 1 + 1 + 1 + 1 + 1 + 1 + 1 + 1,0,none⟩,2,rfl,rfl,⟨rfl,?_,(by decide : (2 : Nat) <= 2),rfl,?_,?_,rfl,?_,rfl,?_⟩,?_⟩
 ·repeat' first | (refine rd_new' ?_ rfl rfl; (simp; done)) | refine Rd.alloc ?_ _
 ·repeat' first | (refine rd_new' ?_ rfl rfl; (simp; done)) | refine Rd.alloc ?_ _
 ·intro i s hs
  match i,hs with
  | 0,hs =>
   injection hs with hs
   subst hs
   refine ⟨?_,?_⟩ <;> repeat' first | (refine rd_new' ?_ rfl rfl; (simp; done)) | refine Rd.alloc ?_ _
  | 1,hs =>
   injection hs with hs
   subst hs
   refine ⟨?_,?_⟩ <;> repeat' first | (refine rd_new' ?_ rfl rfl; (simp; done)) | refine Rd.alloc ?_ _
  | i + 2,hs => simp [smI] at hs
 ·repeat' first | (refine rd_new' ?_ rfl rfl; (simp; done)) | refine Rd.alloc ?_ _
 ·repeat' first | (refine rd_new' ?_ rfl rfl; (simp; done)) | refine Rd.alloc ?_ _
 ·repeat' first | exact Below.refl _ _ | refine Below.alloc ?_ (by simp <;> omega) _
theorem smI_ok (A : Option Addr) (cap : Nat) (S : Option Addr) (cS : Nat) (es : List StS) (AP : Option Addr) (cP : Nat) (AD : Option Addr) (cD : Nat) (h : es.length = 2) : (smI A cap S cS es AP cP AD cD).Ok := by
 obtain ⟨⟨A1,c1,B1,d1⟩,⟨A2,c2,B2,d2⟩,rfl⟩ : ∃ a b,es = [a,b] := by
  match es,h with
  | [a,b],_ => exact ⟨a,b,rfl⟩
 refine ⟨by kernel_rfl,rfl,rfl,rfl,by kernel_rfl,by kernel_rfl,?_,?_,(by decide : (2 : Nat) <= 60),(by decide : (1 : Int) <= 12),(by decide : (2 : Nat) <= 60),(by decide : (2 : Int) <= 8),(by decide : (1 : Int) <= 20),(by decide : (2 : Nat) <= 4000),?_,?_,(by decide : In1 1),(by decide : In1 1)⟩
 ·intro i hi
  match i,hi with
  | 0,_ => exact ⟨rfl,rfl⟩
  | 1,_ => exact ⟨rfl,rfl⟩
  | i + 2,hi => exact absurd hi (by show ¬ i + 2 < 2; omega)
 ·intro i hi
  match i,hi with
  | 0,_ => intro x hx; simp [smI,smF] at hx; subst hx; decide
  | 1,_ => intro x hx; simp [smI,smF] at hx; subst hx; decide
  | i + 2,hi => exact absurd hi (by show ¬ i + 2 < 2; omega)
 ·intro x hx
  simp [smI] at hx
  rcases hx with rfl | rfl <;> decide
 ·intro x hx
  simp [smI] at hx
  rcases hx with rfl | rfl <;> decide
def sm0 : InC := smI none 0 none 0 [] none 0 none 0
def smIt0 : List RItem := [((1,(0,0)),((false,false),((0,(0,(0,(0,0)))),(0,0)))),((2,(0,0)),((false,false),((0,(0,(0,(0,0)))),(0,0)))),((3,(0,0)),((true,false),((0,(0,(0,(0,0)))),(0,1)))),((4,(0,0)),((false,true),((0,(0,(0,(0,0)))),(1,2)))),((3,(0,0)),((true,false),((0,(0,(1,(0,0)))),(1,2)))),((4,(0,0)),((false,false),((0,(0,(1,(0,0)))),(0,1)))),((5,(0,0)),((false,false),((0,(0,(0,(0,0)))),(0,0)))),((6,(0,0)),((false,false),((0,(0,(0,(0,0)))),(0,0))))]
def smIt1 : List RItem := [((1,(0,0)),((false,false),((0,(0,(0,(0,0)))),(0,0)))),((2,(0,0)),((false,false),((0,(0,(0,(0,0)))),(0,0)))),((3,(0,0)),((true,false),((0,(0,(0,(0,0)))),(1,2)))),((4,(0,0)),((false,true),((0,(0,(0,(0,0)))),(0,1)))),((3,(0,0)),((true,false),((0,(0,(1,(0,0)))),(0,1)))),((4,(0,0)),((false,false),((0,(0,(1,(0,0)))),(1,2)))),((5,(0,0)),((false,false),((0,(0,(0,(0,0)))),(0,0)))),((6,(0,0)),((false,false),((0,(0,(0,(0,0)))),(0,0))))]
def smW : Nat -> WS
 | 0 => ⟨[⟨[4,2],[0,0],[0,0],[([4,2],[0,0])],smIt0,0,0,[]⟩,⟨[4,2],[0,0],[0,0],[([4,2],[0,0])],smIt1,0,0,[]⟩],[⟨0,0,[]⟩,⟨0,0,[]⟩],0⟩
 | 1 => ⟨[⟨[4,2],[0,0],[0,0],[([4,2],[0,0])],smIt0,1,1,[]⟩,⟨[4,2],[0,0],[0,0],[([4,2],[0,0])],smIt1,0,0,[]⟩],[⟨0,0,[]⟩,⟨0,0,[]⟩],1⟩
 | 2 => ⟨[⟨[4,2],[0,0],[0,0],[([4,2],[0,0])],smIt0,1,1,[]⟩,⟨[4,2],[0,0],[16,8],[([4,2],[0,0])],smIt1,1,1,[]⟩],[⟨0,0,[]⟩,⟨0,0,[]⟩],2⟩
 | 3 => ⟨[⟨[4,2],[0,0],[0,0],[([4,2],[0,0])],smIt0,2,2,[0]⟩,⟨[4,2],[0,0],[16,8],[([4,2],[0,0])],smIt1,1,1,[]⟩],[⟨0,0,[]⟩,⟨0,0,[]⟩],3⟩
 | 4 => ⟨[⟨[4,2],[0,0],[0,0],[([4,2],[0,0])],smIt0,2,2,[0]⟩,⟨[4,2],[0,0],[16,8],[([4,2],[0,0])],smIt1,2,2,[0]⟩],[⟨0,0,[]⟩,⟨0,0,[]⟩],4⟩
 | 5 => ⟨[⟨[4,2],[0,0],[0,0],[([4,2],[0,0])],smIt0,3,3,[0]⟩,⟨[4,2],[0,0],[16,8],[([4,2],[0,0])],smIt1,2,2,[0]⟩],[⟨1,0,[((0,(0,(0,(0,0)))),[0])]⟩,⟨0,0,[]⟩],5⟩
 | 6 => ⟨[⟨[4,2],[0,0],[0,0],[([4,2],[0,0])],smIt0,3,3,[0]⟩,⟨[4,2],[0,0],[16,8],[([4,2],[0,0])],smIt1,3,3,[0]⟩],[⟨1,0,[((0,(0,(0,(0,0)))),[0])]⟩,⟨1,0,[((0,(0,(0,(0,0)))),[8])]⟩],6⟩
 | 7 => ⟨[⟨[4,2],[0,0],[0,8],[([4,2],[0,0])],smIt0,4,4,[0]⟩,⟨[4,2],[0,0],[16,8],[([4,2],[0,0])],smIt1,3,3,[0]⟩],[⟨1,0,[((0,(0,(0,(0,0)))),[0])]⟩,⟨1,1,[]⟩],7⟩
 | 8 => ⟨[⟨[4,2],[0,0],[0,8],[([4,2],[0,0])],smIt0,4,4,[0]⟩,⟨[4,2],[0,0],[16,8],[([4,2],[0,0])],smIt1,4,4,[0]⟩],[⟨1,1,[]⟩,⟨1,1,[]⟩],8⟩
 | 9 => ⟨[⟨[4,2],[0,0],[0,8],[([4,2],[0,0])],smIt0,5,5,[0]⟩,⟨[4,2],[0,0],[16,8],[([4,2],[0,0])],smIt1,4,4,[0]⟩],[⟨2,1,[((0,(0,(1,(0,0)))),[8])]⟩,⟨1,1,[]⟩],9⟩
 | 10 => ⟨[⟨[4,2],[0,0],[0,8],[([4,2],[0,0])],smIt0,5,5,[0]⟩,⟨[4,2],[0,0],[16,8],[([4,2],[0,0])],smIt1,5,5,[0]⟩],[⟨2,1,[((0,(0,(1,(0,0)))),[8])]⟩,⟨2,1,[((0,(0,(1,(0,0)))),[16])]⟩],10⟩
 | 11 => ⟨[⟨[4,2],[0,0],[16,8],[([4,2],[0,0])],smIt0,6,6,[0]⟩,⟨[4,2],[0,0],[16,8],[([4,2],[0,0])],smIt1,5,5,[0]⟩],[⟨2,1,[((0,(0,(1,(0,0)))),[8])]⟩,⟨2,2,[]⟩],11⟩
 | 12 => ⟨[⟨[4,2],[0,0],[16,8],[([4,2],[0,0])],smIt0,6,6,[0]⟩,⟨[4,2],[0,0],[16,8],[([4,2],[0,0])],smIt1,6,6,[0]⟩],[⟨2,2,[]⟩,⟨2,2,[]⟩],12⟩
 | 13 => ⟨[⟨[-4,-2],[16,8],[16,8],[([4,2],[0,0])],smIt0,7,7,[]⟩,⟨[4,2],[0,0],[16,8],[([4,2],[0,0])],smIt1,6,6,[0]⟩],[⟨2,2,[]⟩,⟨2,2,[]⟩],13⟩
 | 14 => ⟨[⟨[-4,-2],[16,8],[16,8],[([4,2],[0,0])],smIt0,7,7,[]⟩,⟨[-4,-2],[16,8],[16,8],[([4,2],[0,0])],smIt1,7,7,[]⟩],[⟨2,2,[]⟩,⟨2,2,[]⟩],14⟩
 | 15 => ⟨[⟨[-4,-2],[16,8],[0,0],[([4,2],[0,0]),([-4,-2],[16,8])],[],0,8,[]⟩,⟨[-4,-2],[16,8],[16,8],[([4,2],[0,0])],smIt1,7,7,[]⟩],[⟨2,2,[]⟩,⟨2,2,[]⟩],15⟩
 | _ => ⟨[⟨[-4,-2],[16,8],[0,0],[([4,2],[0,0]),([-4,-2],[16,8])],[],0,8,[]⟩,⟨[-4,-2],[16,8],[0,0],[([4,2],[0,0]),([-4,-2],[16,8])],[],0,8,[]⟩],[⟨2,2,[]⟩,⟨2,2,[]⟩],16⟩
theorem stepW_own {I : InC} {n x : Nat} {s : WS} {m : MS} {it : RItem} (hm : s.mss[x]? = some m) (hit : m.its[m.nx]? = some it) (h3 : it.1.1 ≠ 3) (h4 : it.1.1 ≠ 4) : stepW I n x s = ⟨s.mss.set x (nextMS (I.mc x) (workMS (I.mc x) m it) it.1.2.1),s.lss,s.cnt + 1⟩ := by
 unfold stepW
 simp only [hm,hit,if_neg h3,if_neg h4]
theorem workMS_1 {K : MC} {s : MS} {x : RItem} {l g : List Int} (h : x.1.1 = 1) (hm : micL K x.1.2.1 x.1.2.2 = l) (hg : accG K s.P s.G l = g) : workMS K s x = { s with G := g } := by
 unfold workMS
 rw [if_pos h,hm,hg]
theorem workMS_5 {K : MC} {s : MS} {x : RItem} {lo hi : Int} {e k : Nat} {g P M : List Int} (h : x.1.1 = 5) (hb : K.pc.bks[x.1.2.2.toNat]? = some (lo,hi)) (he : lo.toNat = e) (hk : (hi - lo).toNat = k) (hp : pcL s.G e k = g) (h1 : applyP K.c.ra K.c.mo K.c.sh s.P s.M g e k = P) (h2 : applyM K.c.mo K.c.sh s.M g e k = M) : workMS K s x = { s with P := P,M := M,opn := dropB s.opn x.1.2.2 } := by
 unfold workMS
 rw [if_neg (by rw [h]; decide),if_neg (by rw [h]; decide),if_pos h]
 simp only [hb,he,hk,hp,h1,h2]
theorem smM0 : micL (InC.mc sm0 0) 0 0 = [0] := by kernel_rfl
theorem smM1 : micL (InC.mc sm0 1) 0 0 = [1] := by kernel_rfl
theorem smA0 : accG (InC.mc sm0 0) [4,2] [0,0] [0] = [0,0] := by kernel_rfl
theorem smA1 : accG (InC.mc sm0 1) [4,2] [0,0] [1] = [16,8] := by kernel_rfl
theorem smPc (x : Nat) : (InC.mc sm0 x).pc.bks[(0 : Nat)]? = some (0,2) := by kernel_rfl
theorem smPL : pcL [16,8] 0 2 = [16,8] := by kernel_rfl
theorem smU1 : updM 1 1 0 16 = 16 := by kernel_rfl
theorem smU2 : updM 1 1 0 8 = 8 := by kernel_rfl
theorem smU3 : updP 1 1 4 16 = -4 := by kernel_rfl
theorem smU4 : updP 1 1 2 8 = -2 := by kernel_rfl
theorem smAP : applyP 1 1 1 [4,2] [0,0] [16,8] 0 2 = [-4,-2] := by
 simp [applyP,List.mapIdx_cons,smU1,smU2,smU3,smU4]
theorem smAM : applyM 1 1 [0,0] [16,8] 0 2 = [16,8] := by
 simp [applyM,List.mapIdx_cons,smU1,smU2]
theorem smW_start0 : startW sm0 2 = smW 0 := by kernel_rfl
theorem smW_s0 : stepW sm0 2 0 (smW 0) = smW 1 := by
 refine (stepW_own (m := ⟨[4,2],[0,0],[0,0],[([4,2],[0,0])],smIt0,0,0,[]⟩) (it := ((1,(0,0)),((false,false),((0,(0,(0,(0,0)))),(0,0))))) rfl rfl (by decide) (by decide)).trans ?_
 rw [workMS_1 (K := InC.mc sm0 0) (s := ⟨[4,2],[0,0],[0,0],[([4,2],[0,0])],smIt0,0,0,[]⟩) (x := ((1,(0,0)),((false,false),((0,(0,(0,(0,0)))),(0,0))))) rfl (smM0) (smA0)]
 kernel_rfl
theorem smW_p0 : pickB sm0 2 0 (smW 0) = true := by kernel_rfl
theorem smW_s1 : stepW sm0 2 1 (smW 1) = smW 2 := by
 refine (stepW_own (m := ⟨[4,2],[0,0],[0,0],[([4,2],[0,0])],smIt1,0,0,[]⟩) (it := ((1,(0,0)),((false,false),((0,(0,(0,(0,0)))),(0,0))))) rfl rfl (by decide) (by decide)).trans ?_
 rw [workMS_1 (K := InC.mc sm0 1) (s := ⟨[4,2],[0,0],[0,0],[([4,2],[0,0])],smIt1,0,0,[]⟩) (x := ((1,(0,0)),((false,false),((0,(0,(0,(0,0)))),(0,0))))) rfl (smM1) (smA1)]
 kernel_rfl
theorem smW_p1 : pickB sm0 2 1 (smW 1) = true := by kernel_rfl
theorem smW_s2 : stepW sm0 2 0 (smW 2) = smW 3 := by kernel_rfl
theorem smW_p2 : pickB sm0 2 0 (smW 2) = true := by kernel_rfl
theorem smW_s3 : stepW sm0 2 1 (smW 3) = smW 4 := by kernel_rfl
theorem smW_p3 : pickB sm0 2 1 (smW 3) = true := by kernel_rfl
theorem smW_s4 : stepW sm0 2 0 (smW 4) = smW 5 := by kernel_rfl
theorem smW_p4 : pickB sm0 2 0 (smW 4) = true := by kernel_rfl
theorem smW_s5 : stepW sm0 2 1 (smW 5) = smW 6 := by kernel_rfl
theorem smW_p5 : pickB sm0 2 1 (smW 5) = true := by kernel_rfl
theorem smW_s6 : stepW sm0 2 0 (smW 6) = smW 7 := by kernel_rfl
theorem smW_p6 : pickB sm0 2 0 (smW 6) = true := by kernel_rfl
theorem smW_s7 : stepW sm0 2 1 (smW 7) = smW 8 := by kernel_rfl
theorem smW_p7 : pickB sm0 2 1 (smW 7) = true := by kernel_rfl
theorem smW_s8 : stepW sm0 2 0 (smW 8) = smW 9 := by kernel_rfl
theorem smW_p8 : pickB sm0 2 0 (smW 8) = true := by kernel_rfl
theorem smW_s9 : stepW sm0 2 1 (smW 9) = smW 10 := by kernel_rfl
theorem smW_p9 : pickB sm0 2 1 (smW 9) = true := by kernel_rfl
theorem smW_s10 : stepW sm0 2 0 (smW 10) = smW 11 := by kernel_rfl
theorem smW_p10 : pickB sm0 2 0 (smW 10) = true := by kernel_rfl
theorem smW_s11 : stepW sm0 2 1 (smW 11) = smW 12 := by kernel_rfl
theorem smW_p11 : pickB sm0 2 1 (smW 11) = true := by kernel_rfl
theorem smW_s12 : stepW sm0 2 0 (smW 12) = smW 13 := by
 refine (stepW_own (m := ⟨[4,2],[0,0],[16,8],[([4,2],[0,0])],smIt0,6,6,[0]⟩) (it := ((5,(0,0)),((false,false),((0,(0,(0,(0,0)))),(0,0))))) rfl rfl (by decide) (by decide)).trans ?_
 rw [workMS_5 (K := InC.mc sm0 0) (s := ⟨[4,2],[0,0],[16,8],[([4,2],[0,0])],smIt0,6,6,[0]⟩) (x := ((5,(0,0)),((false,false),((0,(0,(0,(0,0)))),(0,0))))) rfl (smPc 0) rfl rfl smPL smAP smAM]
 kernel_rfl
theorem smW_p12 : pickB sm0 2 0 (smW 12) = true := by kernel_rfl
theorem smW_s13 : stepW sm0 2 1 (smW 13) = smW 14 := by
 refine (stepW_own (m := ⟨[4,2],[0,0],[16,8],[([4,2],[0,0])],smIt1,6,6,[0]⟩) (it := ((5,(0,0)),((false,false),((0,(0,(0,(0,0)))),(0,0))))) rfl rfl (by decide) (by decide)).trans ?_
 rw [workMS_5 (K := InC.mc sm0 1) (s := ⟨[4,2],[0,0],[16,8],[([4,2],[0,0])],smIt1,6,6,[0]⟩) (x := ((5,(0,0)),((false,false),((0,(0,(0,(0,0)))),(0,0))))) rfl (smPc 1) rfl rfl smPL smAP smAM]
 kernel_rfl
theorem smW_p13 : pickB sm0 2 1 (smW 13) = true := by kernel_rfl
theorem smW_s14 : stepW sm0 2 0 (smW 14) = smW 15 := by kernel_rfl
theorem smW_p14 : pickB sm0 2 0 (smW 14) = true := by kernel_rfl
theorem smW_s15 : stepW sm0 2 1 (smW 15) = smW 16 := by kernel_rfl
theorem smW_p15 : pickB sm0 2 1 (smW 15) = true := by kernel_rfl
theorem smW_step0 : ∀ p,p < 16 -> stepW sm0 2 (p % 2) (smW p) = smW (p + 1)
 | 0,_ => smW_s0
 | 1,_ => smW_s1
 | 2,_ => smW_s2
 | 3,_ => smW_s3
 | 4,_ => smW_s4
 | 5,_ => smW_s5
 | 6,_ => smW_s6
 | 7,_ => smW_s7
 | 8,_ => smW_s8
 | 9,_ => smW_s9
 | 10,_ => smW_s10
 | 11,_ => smW_s11
 | 12,_ => smW_s12
 | 13,_ => smW_s13
 | 14,_ => smW_s14
 | 15,_ => smW_s15
 | p + 16,h => absurd h (by omega)
theorem smW_pick0 : ∀ p,p < 16 -> pickB sm0 2 (p % 2) (smW p) = true
 | 0,_ => smW_p0
 | 1,_ => smW_p1
 | 2,_ => smW_p2
 | 3,_ => smW_p3
 | 4,_ => smW_p4
 | 5,_ => smW_p5
 | 6,_ => smW_p6
 | 7,_ => smW_p7
 | 8,_ => smW_p8
 | 9,_ => smW_p9
 | 10,_ => smW_p10
 | 11,_ => smW_p11
 | 12,_ => smW_p12
 | 13,_ => smW_p13
 | 14,_ => smW_p14
 | 15,_ => smW_p15
 | p + 16,h => absurd h (by omega)
theorem smW_open : ∀ p,p < 16 -> doneB (smW p).mss = false
 | 0,_ => by kernel_rfl
 | 1,_ => by kernel_rfl
 | 2,_ => by kernel_rfl
 | 3,_ => by kernel_rfl
 | 4,_ => by kernel_rfl
 | 5,_ => by kernel_rfl
 | 6,_ => by kernel_rfl
 | 7,_ => by kernel_rfl
 | 8,_ => by kernel_rfl
 | 9,_ => by kernel_rfl
 | 10,_ => by kernel_rfl
 | 11,_ => by kernel_rfl
 | 12,_ => by kernel_rfl
 | 13,_ => by kernel_rfl
 | 14,_ => by kernel_rfl
 | 15,_ => by kernel_rfl
 | p + 16,h => absurd h (by omega)
theorem smW_done : doneB (smW 16).mss = true := by kernel_rfl
end
section
open Go.RowKit
variable (A : Option Addr) (cap : Nat) (S : Option Addr) (cS : Nat) (es : List StS) (AP : Option Addr) (cP : Nat) (AD : Option Addr) (cD : Nat)
theorem smI_stepW (n x : Nat) (s : WS) : stepW (smI A cap S cS es AP cP AD cD) n x s = stepW sm0 n x s := rfl
theorem smI_pickB (n x : Nat) (s : WS) : pickB (smI A cap S cS es AP cP AD cD) n x s = pickB sm0 n x s := rfl
theorem smI_startW (n : Nat) : startW (smI A cap S cS es AP cP AD cD) n = startW sm0 n := rfl
theorem smW_start : startW (smI A cap S cS es AP cP AD cD) 2 = smW 0 := (smI_startW A cap S cS es AP cP AD cD 2).trans smW_start0
theorem smW_step (p : Nat) (hp : p < 16) : stepW (smI A cap S cS es AP cP AD cD) 2 (p % 2) (smW p) = smW (p + 1) := (smI_stepW A cap S cS es AP cP AD cD 2 (p % 2) (smW p)).trans (smW_step0 p hp)
theorem smW_pick (p : Nat) (hp : p < 16) : pickB (smI A cap S cS es AP cP AD cD) 2 (p % 2) (smW p) = true := (smI_pickB A cap S cS es AP cP AD cD 2 (p % 2) (smW p)).trans (smW_pick0 p hp)
end
end Go.Proofs.YtkmaeipoaoikpaaGreat
