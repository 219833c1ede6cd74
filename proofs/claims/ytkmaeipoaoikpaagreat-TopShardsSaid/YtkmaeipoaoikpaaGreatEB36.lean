/- RNet6. -/
import Derived.Test.YtkmaeipoaoikpaaGreatEB35
namespace Go.Proofs.YtkmaeipoaoikpaaGreat
set_option linter.all false
set_option maxRecDepth 100000
set_option maxHeartbeats 4000000
open Lib (hid)
section
open Go.RowKit
def grF (q : Int) (V E : Nat -> List Int) (p : Plc) : Int := if 0 <= p.2.2 then mulQ ((E (p.1.toNat + 1)).getD p.2.1.toNat 0) ((V p.1.toNat).getD p.2.2.toNat 0) q else (E (p.1.toNat + 1)).getD p.2.1.toNat 0
def erE (l : List Int) (n : Nat) (P : List Int) (q : Int) (V : Nat -> List Int) (y : List Int) (k : Nat) : List Int := erR l n P q V y (n - 1 - k)
def rGradN (l : List Int) (n : Nat) (P : List Int) (q : Int) (x y : List Int) : List Int := (plcL l (n - 1)).map (grF q (trR l n P q x) (erE l n P q (trR l n P q x) y))
theorem plcL_mem (l : List Int) : ∀ (K : Nat) (p : Plc),p ∈ plcL l K -> ∃ (k r : Nat),k < K /\ p.1 = k /\ p.2.1 = r /\ r < szN l (k + 1) /\ (p.2.2 = -1 \/ ∃ c : Nat,p.2.2 = c /\ c < szN l k)
 | 0,p,h => by cases h
 | K + 1,p,h => by
  rw [plcL,List.mem_append,List.mem_append] at h
  rcases h with (h | h) | h
  ·obtain ⟨k,r,h1,h2⟩ := plcL_mem l K p h
   exact ⟨k,r,by omega,h2⟩
  ·unfold plcW plcR at h
   obtain ⟨r,hr,h⟩ := List.mem_flatMap.1 h
   obtain ⟨c,hc,rfl⟩ := List.mem_map.1 h
   exact ⟨K,r,by omega,rfl,rfl,List.mem_range.1 hr,.inr ⟨c,rfl,List.mem_range.1 hc⟩⟩
  ·unfold plcB at h
   obtain ⟨r,hr,rfl⟩ := List.mem_map.1 h
   exact ⟨K,r,by omega,rfl,rfl,List.mem_range.1 hr,.inl rfl⟩
def AlR (w : World) (B : Nat) (l : List Int) (E : Nat -> List Int) (es : List Sl3') : Prop := ∀ j s,es[j]? = some s -> 1 <= j -> s.2.1 = szN l j /\ Rd w 1 s.1 (szN l j) (iv (E j)) /\ SlT w B s.1
theorem AlR.below {w w' : World} {B : Nat} {l : List Int} {E : Nat -> List Int} {es : List Sl3'} (h : AlR w B l E es) (hb : Below w.heap.size w w') : AlR w' B l E es := fun j s hs h1 => ⟨(h j s hs h1).1,(h j s hs h1).2.1.below hb,(h j s hs h1).2.2.below hb⟩
theorem row_push {w w' : World} {B : Nat} {A : Option Addr} {m : Nat} {ys : List Value} {v : Value} {n : Nat} {xs : List Value} (h2 : Rd w 1 A m ys) (h3 : SlT w B A) (ho : w.ownsRow B 26 1 v n xs) (hg : w.grownBy w' v.ownBlock) : Rd w' 1 A m ys /\ SlT w' B A := by
 have hne : ∀ b o,A = some ⟨b,o,none⟩ -> b < w.heap.size -> some b ≠ v.ownBlock := by
  intro b o e hlt e2
  rcases ho.2 with ⟨rfl,_⟩ | ⟨g',cap',cur,rfl,hb,hgb,_⟩
  ·simp [Value.ownBlock] at e2
  ·have e3 : b = g' := by simpa [Value.ownBlock] using e2
   subst e3
   rcases h3 b o e with h4 | ⟨cur',h4⟩
   ·omega
   ·rw [hgb] at h4
    injection h4 with h4
    injection h4 with _ h4 _
    exact absurd h4 (by decide)
 refine ⟨⟨h2.1,fun hn => ?_⟩,fun b o e => ?_⟩
 ·obtain ⟨b,o,e,hlt,hc⟩ := h2.2 hn
  refine ⟨b,o,e,Nat.lt_of_lt_of_le hlt hg.size,fun k u hu => ?_⟩
  rw [World.cell?_of_block (w := w) (hg.block b hlt (hne b o e hlt))]
  exact hc k u hu
 ·rcases h3 b o e with h4 | ⟨cur',h4⟩
  ·exact .inl h4
  ·have hlt : b < w.heap.size := by
    by_cases hl : b < w.heap.size
    ·exact hl
    ·rw [Array.getElem?_eq_none (by omega)] at h4; cases h4
   exact .inr ⟨cur',(hg.block b hlt (hne b o e hlt)).trans h4⟩
theorem AlR.push {w w' : World} {B : Nat} {l : List Int} {E : Nat -> List Int} {es : List Sl3'} {v : Value} {n : Nat} {xs : List Value} (h : AlR w B l E es) (ho : w.ownsRow B 26 1 v n xs) (hg : w.grownBy w' v.ownBlock) : AlR w' B l E es := fun j s hs h1 => ⟨(h j s hs h1).1,row_push (h j s hs h1).2.1 (h j s hs h1).2.2 ho hg⟩
theorem AlR.snoc {w : World} {B : Nat} {l : List Int} {E : Nat -> List Int} {es : List Sl3'} {k : Nat} {s : Sl3'} (h : AlR w B l E es) (hl : es.length = k) (h1 : 1 <= k -> s.2.1 = szN l k /\ Rd w 1 s.1 (szN l k) (iv (E k)) /\ SlT w B s.1) : AlR w B l E (es ++ [s]) := by
 intro j t ht hj1
 by_cases hj : j < es.length
 ·rw [List.getElem?_append_left hj] at ht
  exact h j t ht hj1
 ·rw [List.getElem?_append_right (by omega)] at ht
  have h0 : j - es.length = 0 := by
   have := (List.getElem?_eq_some_iff.1 ht).1
   simp at this
   omega
  rw [h0] at ht
  obtain rfl : s = t := by simpa using ht
  obtain rfl : j = k := by omega
  exact h1 hj1
end
section
open Go.RowKit
variable (A : Option Addr) (n cap : Nat) (l : List Int) (Ap : Option Addr) (NP cp : Nat) (P : List Int) (q : Int) (w : World)
theorem refGrad_any (N cx M cy : Nat) (X Y : Option Addr) (x y : List Int) (h : RNetAt w A n cap l Ap NP cp P q) (hN : N = szN l 0) (hxl : x.length = N) (hx : Rd w 1 X N (iv x)) (hxi : AllIn x) (hM : M = szN l (n - 1)) (hy : Rd w 1 Y M (iv y)) :
  Calls Tryz.prog 90 #[rnetV A n cap Ap NP cp q,.slice X N cx,.slice Y M cy] w (OwnRet w 2 1 NP (iv (rGradN l n P q x y))) := by
 have hn2 := h.ok.n2
 have hn16 := h.ok.n16
 obtain ⟨V,hV⟩ : ∃ V,trR l n P q x = V := ⟨_,rfl⟩
 obtain ⟨E,hE⟩ : ∃ E,erE l n P q V y = E := ⟨_,rfl⟩
 have HLA := hid (fun W => refLast_any A n cap Ap NP cp q W (by omega) (by omega))
 have HTR := hid (fun W (a : RNetAt W A n cap l Ap NP cp P q) (b : Rd W 1 X N (iv x)) => refTrace_any A n cap l Ap NP cp P q W N cx X x a hN hxl b hxi)
 rw [hV] at HTR
 have HPL := hid (fun W (a : Rd W 1 A n (iv l)) => refPlaces_any A n cap l NP P q W h.ok a)
 have HER := hid (fun k (hk1 : 1 <= k) (hk : k < n) W (a : RNetAt W A n cap l Ap NP cp P q) Av cv ss (b : VsAt W l n V Av ss) (c : Rd W 1 Y M (iv y)) => refErrors_any A n cap l Ap NP cp P q Av cv V ss Y M cy y (n - 1 - k) W a b (by omega) hM c)
 have HEE := hid (fun k => congrFun hE k)
 have hrg : rGradN l n P q x y = (plcL l (n - 1)).map (grF q V E) := by rw [rGradN,hV,hE]
 rw [hrg]
 have HVL := hid (fun k => (show (V k).length = szN l k by rw [<- hV]; exact trR_length (by rw [hxl,hN]) k))
 have HVI := hid (fun k => (show AllIn (V k) by rw [<- hV]; exact trR_in h.ok.pin hxi k))
 have HEI := hid (fun k => (show AllIn (E k) by rw [<- hE]; exact erR_in _))
 have HH := hid h
 have HX := hid hx
 have HY := hid hy
 have HPN : Hid ((plcL l (n - 1)).length = NP) := hid (by rw [plcL_length,h.ok.cnt])
 have HNP := hid h.ok.np
 obtain ⟨pls,hpls⟩ : ∃ p,plcL l (n - 1) = p := ⟨_,rfl⟩
 have HPM := hid (fun p (hp : p ∈ pls) => plcL_mem l (n - 1) p (by rw [hpls]; exact hp))
 rw [hpls] at HPN HPL ⊢
 have HG : Hid (∀ W,w.alloc (.cells (rnetC A n cap Ap NP cp q) 202) = W -> Below w.heap.size w W /\ Blk W w.heap.size 202 (rnetC A n cap Ap NP cp q)) := hid (by
  rintro W rfl
  exact ⟨(Below.refl _ _).alloc (Nat.le_refl _) _,Blk.new _ _ _⟩)
 clear hV hE hrg hpls h hN hxl hx hxi hM hy
 go_enter Tryz.func90,Tryz.ntmps90
 go_wp2_with fail
 obtain ⟨w0,hw0⟩ : ∃ w0,w.alloc (.cells (rnetC A n cap Ap NP cp q) 202) = w0 := ⟨_,rfl⟩
 obtain ⟨hB,hI⟩ := HG.out _ hw0
 rw [hw0]
 have HB := hid hB
 ((with_reducible refine (HTR.out _ (HH.out.below hB) (HX.out.below hB)).mono ?_); rintro e w1 ⟨Av,cv,ss,rfl,hsl,hov,htr,hb1⟩)
 have HB1 := hid (hB.trans (hb1.mono hB.size))
 have HI1 := hid (hI.kept hb1)
 have HV1 : Hid (VsAt w1 l n V Av ss) := hid ⟨hsl,Rd.of_own hov,fun j s hs => ⟨(htr j s hs).1,(htr j s hs).2.1⟩⟩
 clear hw0 HG hB hI hsl hov htr hb1
 have y0 : w1.cell? ⟨w.heap.size,0,none⟩ = some (.slice A n cap) := HI1.out.cell 0
 have y1 : w1.cell? ⟨w.heap.size,1,none⟩ = some (.slice Ap NP cp) := HI1.out.cell 1
 have y2 : w1.cell? ⟨w.heap.size,2,none⟩ = some (.int .i64 q) := HI1.out.cell 2
 have yl := HI1.out.lt
 go_wp2_with fail
 ((with_reducible refine (HPL.out _ (HH.out.rl.below HB1.out)).mono ?_); rintro e w2 ⟨Aq,cq,rfl,hoq,hb2⟩)
 have HB2 := hid (HB1.out.trans (hb2.mono HB1.out.size))
 have HI2 := hid (HI1.out.kept hb2)
 have HV2 := hid (HV1.out.below hb2)
 have HQ2 := hid (Rd.of_own hoq)
 clear y0 y1 y2 yl hb2 hoq
 go_wp2_with fail
 go_loopw [9,10] (fun o v wr => ∃ (k : Nat) (Al : Option Addr) (cl : Nat) (es : List Sl3'),k <= n /\ v = .int .i64 k /\ o = .slice Al k cl /\ es.length = k /\ wr.ownsRow w2.heap.size 26 1 (.slice Al k cl) k (es.map slv) /\ AlR wr w2.heap.size l E es /\ Below w2.heap.size w2 wr) (fun _ v _ => n - (intOf v).toNat)
 case atStart => exact ⟨0,none,0,[],by omega,rfl,rfl,rfl,World.ownsRow_nil _ _ _ _,fun j s hs => by simp at hs,Below.refl _ _⟩
 case round =>
  obtain ⟨k,Al,cl,es,hk,rfl,rfl,hal,ho,ha,hb⟩ := hrel
  have HI3 := hid (HI2.out.kept hb)
  have y0 : wr.cell? ⟨w.heap.size,0,none⟩ = some (.slice A n cap) := HI3.out.cell 0
  have y1 : wr.cell? ⟨w.heap.size,1,none⟩ = some (.slice Ap NP cp) := HI3.out.cell 1
  have y2 : wr.cell? ⟨w.heap.size,2,none⟩ = some (.int .i64 q) := HI3.out.cell 2
  have yl := HI3.out.lt
  have HO := hid ho
  have HA := hid ha
  have HBX := hid hb
  have HAL := hid hal
  clear ho ha hb hal
  go_wp2_with fail
  ((with_reducible refine (HLA.out _).mono ?_); rintro e w3 ⟨rfl,hb3⟩)
  have HBX3 := hid (HBX.out.trans (hb3.mono HBX.out.size))
  have HO3 := hid (own_below HO.out hb3)
  have HA3 := hid (HA.out.below hb3)
  clear hb3 y0 y1 y2 yl
  by_cases hlt : k < n
  ·have r2 : decide ((k : Int) <= ((n - 1 : Nat) : Int)) = true := decide_eq_true (by omega)
   have hszz := HBX3.out.size
   by_cases hk0 : k = 0
   ·subst hk0
    go_wp2_with (at_builtin; go_must (refine wpList_pushG slSlices rfl _ _ rfl w2.heap.size _ 0 (es.map slv) rfl HO3.out #[.slice none 0 0] _ rfl rfl rfl (rone_sl _ _ _) (by unfold maxLen; omega) (by omega) hszz ?_); go_must (intro A4 c4 w4 hown4 hb4 hg4))
    have hg5 : w3.grownBy w4 (Value.slice Al 0 cl).ownBlock := hg4
    have ha5 := (HA3.out.snoc (s := (none,0,0)) HAL.out (fun h => by omega)).push HO3.out hg5
    have HO9 := hid hown4
    have HA9 := hid ha5
    have HB9 := hid (HBX3.out.trans hb4)
    clear hown4 hb4 hg4 hg5 ha5
    go_roundw
    case rel => exact ⟨1,A4,c4,es ++ [(none,0,0)],by omega,by go_num,rfl,by rw [List.length_append,HAL.out]; rfl,by rw [List.map_append]; exact HO9.out,HA9.out,HB9.out⟩
    case measure => simp [intOf]; omega
   ·have r3 : (0 : Int) < (k : Int) := by omega
    go_wp2_with (at_builtin; go_must (refine wpList_pushG slSlices rfl _ _ rfl w2.heap.size _ k (es.map slv) rfl HO3.out #[.slice none 0 0] _ rfl rfl rfl (rone_sl _ _ _) (by unfold maxLen; omega) (by omega) hszz ?_); go_must (intro A4 c4 w4 hown4 hb4 hg4; (have HB4 := hid (HBX3.out.trans hb4)); (have HI4 := hid (HI2.out.kept HB4.out)); (have y0 : w4.cell? ⟨w.heap.size,0,none⟩ = some (.slice A n cap) := HI4.out.cell 0); (have y1 : w4.cell? ⟨w.heap.size,1,none⟩ = some (.slice Ap NP cp) := HI4.out.cell 1); (have y2 : w4.cell? ⟨w.heap.size,2,none⟩ = some (.int .i64 q) := HI4.out.cell 2); (have yl := HI4.out.lt)))
    have hn1 : n - 1 - (n - 1 - k) = k := by omega
    have HE4 := HER.out k (by omega) hlt w4 (HH.out.below (HB2.out.trans (HB4.out.mono HB2.out.size))) Av cv ss (HV2.out.below HB4.out) (HY.out.below (HB2.out.trans (HB4.out.mono HB2.out.size)))
    rw [hn1] at HE4
    have hek : erR l n P q V y (n - 1 - k) = E k := HEE.out k
    rw [hek] at HE4
    obtain ⟨R,hR⟩ : ∃ R,szN l k = R := ⟨_,rfl⟩
    rw [hR] at HE4
    ((with_reducible refine HE4.mono ?_); rintro e w5 ⟨Ad,cd,rfl,hod,hb5⟩)
    have HOD := hid hod
    have HG4 := hid hg4
    have HO4 := hid hown4
    have HB5 := hid (HB4.out.trans (hb5.mono HB4.out.size))
    obtain ⟨g4,rfl⟩ := own_some hown4 (by omega)
    have hg5 : w3.grownBy w4 (Value.slice Al k cl).ownBlock := hg4
    have ha5 := ((HA3.out.push HO3.out hg5).below hb5).snoc (s := (Ad,R,cd)) HAL.out (fun _ => ⟨hR.symm,by rw [hR]; exact Rd.of_own hod,SlT.own hod⟩)
    have ho5 := own_below hown4 hb5
    have c1 : w5.cell? ⟨g4,k,none⟩ = some (.slice none 0 0) := by
     rw [ho5.cellAt k (by omega),List.getElem?_append_right (by simp [HAL.out])]
     simp [HAL.out]
    have f1 := ho5.frozenAt k
    have l1 := (ho5.lt g4 rfl).2
    obtain ⟨st1,st2⟩ := ho5.stored k (.slice Ad R cd)
    have hset : (es.map slv ++ (#[Value.slice none 0 0] : Array Value).toList).set k (.slice Ad R cd) = (es ++ [(Ad,R,cd)]).map slv := by
     rw [List.set_append_right _ _ (by simp [HAL.out])]
     simp [HAL.out,slv]
    rw [hset] at st1
    have ha6 := ha5.push ho5 (v := .slice (some ⟨g4,0,none⟩) (k + 1) c4) st2
    have hb6 : Below w2.heap.size w2 (w5.setCell ⟨g4,k,none⟩ (.slice Ad R cd)) := HB5.out.setCell (p := ⟨g4,k,none⟩) (ho5.lt g4 rfl).1 _
    have HO9 := hid st1
    have HA9 := hid ha6
    have HB9 := hid hb6
    have hkk : k < k + 1 := by omega
    clear hod hg4 hown4 hb5 hg5 ha5 ho5 st1 st2 hset ha6 hb6 HOD HG4 HO4 hR HE4 hek hn1 y0 y1 y2 yl
    go_wp2_with fail
    go_roundw
    case rel => exact ⟨k + 1,some ⟨g4,0,none⟩,c4,es ++ [(Ad,R,cd)],by omega,by go_num,rfl,by rw [List.length_append,HAL.out]; rfl,HO9.out,HA9.out,HB9.out⟩
    case measure => simp [intOf]; omega
  ·obtain rfl : k = n := by omega
   have r2 : decide ((k : Int) <= ((k - 1 : Nat) : Int)) = false := decide_eq_false (by omega)
   go_wp2_with fail
   have HBX4 := hid HBX3.out
   go_loopw [11,12] (fun o v wr => ∃ (i : Nat) (A7 : Option Addr) (c7 : Nat),i <= NP /\ v = .int .i64 i /\ o = .slice A7 i c7 /\ wr.ownsRow w3.heap.size 2 1 (.slice A7 i c7) i (iv ((pls.take i).map (grF q V E))) /\ Below w3.heap.size w3 wr) (fun _ v _ => NP - (intOf v).toNat)
   case atStart => exact ⟨0,none,0,by omega,rfl,rfl,World.ownsRow_nil _ _ _ _,Below.refl _ _⟩
   case round =>
    obtain ⟨i,A7,c7,hi,rfl,rfl,ho,hb⟩ := hrel
    by_cases hlt : i < NP
    ·have hb2 : Below w2.heap.size w2 wr := HBX3.out.trans (hb.mono HBX3.out.size)
     obtain ⟨⟨a1,a2,a3⟩,hp⟩ : ∃ p,pls[i]? = some p := ⟨_,List.getElem?_eq_getElem (by rw [HPN.out]; exact hlt)⟩
     obtain ⟨kk,r,hkk,e1,e2,hr,hc⟩ := HPM.out _ (List.mem_of_getElem? hp)
     dsimp only at e1 e2 hc
     subst e1 e2
     obtain ⟨p1,p2,p3⟩ := plcV_get pls i _ hp
     dsimp only at p1 p2 p3
     obtain ⟨gq,oq,rfl,ql,qc⟩ := (HQ2.out.below hb2).2 (by omega)
     have q1 := qc _ _ p1
     have q2 := qc _ _ p2
     have q3 := qc _ _ p3
     rw [<- Nat.add_assoc] at q2 q3
     obtain ⟨gl,rfl⟩ := own_some HO3.out (by omega)
     have hor := own_below HO3.out hb
     obtain ⟨⟨Ae,ne,ce⟩,hs⟩ : ∃ s,es[kk + 1]? = some s := ⟨_,List.getElem?_eq_getElem (by rw [HAL.out]; omega)⟩
     obtain ⟨hne,hre,-⟩ := (HA3.out.below hb) _ _ hs (by omega)
     dsimp only at hne hre
     subst hne
     have lc : wr.cell? ⟨gl,kk + 1,none⟩ = some (.slice Ae (szN l (kk + 1)) ce) := by
      rw [hor.cellAt (kk + 1) (by omega),List.getElem?_map,hs]
      rfl
     have ll := (hor.lt gl rfl).2
     obtain ⟨ge,oe,rfl,el,ec⟩ := rdI_at hre hr
     obtain ⟨d,hd⟩ : ∃ d,(E (kk + 1)).getD r 0 = d := ⟨_,rfl⟩
     have hdi : In1 d := by rw [<- hd]; exact getD_in (HEI.out _) _
     rw [hd] at ec
     obtain ⟨R,hR⟩ : ∃ R,szN l (kk + 1) = R := ⟨_,rfl⟩
     rw [hR] at lc hr
     have r4 : (i : Int) < (NP : Int) := by omega
     have hkn : kk + 1 < k := by omega
     have hnp := HNP.out
     have HLT := hid hlt
     have HOX0 := hid ho
     have HBX5 := hid hb
     have htk : (pls.take (i + 1)).map (grF q V E) = (pls.take i).map (grF q V E) ++ [grF q V E ((kk : Int),(r : Int),a3)] := by
      rw [List.take_add_one,hp]
      simp
     have HTK := hid htk
     have hI5 := HI2.out.kept hb2
     have y2 : wr.cell? ⟨w.heap.size,2,none⟩ = some (.int .i64 q) := hI5.cell 2
     have yl := hI5.lt
     rcases hc with rfl | ⟨c,rfl,hc⟩
     ·have hgv : grF q V E ((kk : Int),(r : Int),-1) = d := by
       unfold grF
       rw [if_neg (show ¬ (0 : Int) <= -1 by decide)]
       simp only [Int.toNat_natCast]
       exact hd
      have HGV := hid hgv
      clear hp p1 p2 p3 qc hor hs hre hd hdi hR htk hgv hlt ho hb hb2 hI5
      go_wp2_with fail
      go_quiet (fail)
      obtain ⟨w7,hw7⟩ : ∃ w7,(wr.alloc (.cells #[.int .i64 kk,.int .i64 r,.int .i64 (-1)] 313)).drewN nq = w7 := ⟨_,rfl⟩
      have hb7 : Below wr.heap.size wr w7 := by rw [<- hw7]; exact (((Kept.of (Below.refl _ wr)).alloc _).drewN nq).2.2
      have hx7 : Blk w7 wr.heap.size 313 #[.int .i64 kk,.int .i64 r,.int .i64 (-1)] := by rw [<- hw7]; exact (Blk.new _ _ _).drewN nq
      rw [hw7]
      have b0 : w7.cell? ⟨wr.heap.size,0,none⟩ = some (.int .i64 kk) := hx7.cell 0
      have b1 : w7.cell? ⟨wr.heap.size,1,none⟩ = some (.int .i64 r) := hx7.cell 1
      have b2 : w7.cell? ⟨wr.heap.size,2,none⟩ = some (.int .i64 (-1)) := hx7.cell 2
      have bl := hx7.lt
      have HOX := hid (own_below HOX0.out hb7)
      have HBX7 := hid (HBX5.out.trans (hb7.mono HBX5.out.size))
      have hszz := HBX7.out.size
      clear hw7 hb7 hx7 q1 q2 q3 ql lc ll el ec y2 yl
      go_wp2_with (at_builtin; go_must (refine wpList_push slI64 rfl _ _ rfl w3.heap.size (.slice A7 i c7) i (iv ((pls.take i).map (grF q V E))) rfl HOX.out #[.int .i64 d] _ rfl rfl rfl (rone_int _) (by unfold maxLen; omega) (by omega) hszz ?_); go_must (intro A9 c9 w9 hown9 hb9))
      have HO9 := hid (show w9.ownsRow w3.heap.size 2 1 (.slice A9 (i + 1) c9) (i + 1) (iv ((pls.take (i + 1)).map (grF q V E))) by
       rw [HTK.out,iv_append,HGV.out]
       exact hown9)
      have HB9 := hid (HBX7.out.trans hb9)
      clear hown9 hb9
      go_roundw
      case rel => exact ⟨i + 1,HLT.out,by go_num,A9,c9,⟨rfl,rfl,rfl⟩,(by rw [<- List.map_take]; exact HO9.out),HB9.out⟩
      case measure => simp [intOf]; have := HLT.out; omega
     ·have hgv : grF q V E ((kk : Int),(r : Int),(c : Int)) = mulQ d ((V kk).getD c 0) q := by
       unfold grF
       rw [if_pos (show (0 : Int) <= (c : Int) by omega)]
       simp only [Int.toNat_natCast]
       rw [hd]
      obtain ⟨gv,ov,Av2,cv2,rfl,vl,vc,vr⟩ := (HV2.out.below hb2).at (show kk < k by omega)
      obtain ⟨gs,os,rfl,sl,sc⟩ := rdI_at vr hc
      obtain ⟨u,hu⟩ : ∃ u,(V kk).getD c 0 = u := ⟨_,rfl⟩
      have hui : In1 u := by rw [<- hu]; exact getD_in (HVI.out _) _
      rw [hu] at sc hgv
      obtain ⟨C,hC⟩ : ∃ C,szN l kk = C := ⟨_,rfl⟩
      rw [hC] at vc hc
      have HGV := hid hgv
      have HDI := hid hdi
      have HUI := hid hui
      have HVC := hid vc
      have HSC := hid sc
      have HY2 := hid y2
      clear hp p1 p2 p3 qc hor hs hre hd hdi hR htk hgv hlt ho hb hb2 hI5 hu hui hC vr
      have d0 : (0 : Int) <= (c : Int) := by omega
      go_wp2_with fail
      go_quiet (fail)
      obtain ⟨w7,hw7⟩ : ∃ w7,(wr.alloc (.cells #[.int .i64 kk,.int .i64 r,.int .i64 c] 313)).drewN nq = w7 := ⟨_,rfl⟩
      have hb7 : Below wr.heap.size wr w7 := by rw [<- hw7]; exact (((Kept.of (Below.refl _ wr)).alloc _).drewN nq).2.2
      have hx7 : Blk w7 wr.heap.size 313 #[.int .i64 kk,.int .i64 r,.int .i64 c] := by rw [<- hw7]; exact (Blk.new _ _ _).drewN nq
      rw [hw7]
      have b0 : w7.cell? ⟨wr.heap.size,0,none⟩ = some (.int .i64 kk) := hx7.cell 0
      have b1 : w7.cell? ⟨wr.heap.size,1,none⟩ = some (.int .i64 r) := hx7.cell 1
      have b2 : w7.cell? ⟨wr.heap.size,2,none⟩ = some (.int .i64 c) := hx7.cell 2
      have bl := hx7.lt
      have HOX := hid (own_below HOX0.out hb7)
      have HBX7 := hid (HBX5.out.trans (hb7.mono HBX5.out.size))
      have hszz := HBX7.out.size
      have vc7 : w7.cell? ⟨gv,ov + kk,none⟩ = some (.slice (some ⟨gs,os,none⟩) C cv2) := (hb7.cell (p := ⟨gv,ov + kk,none⟩) vl).trans HVC.out
      have sc7 : w7.cell? ⟨gs,os + c,none⟩ = some (.int .i64 u) := (hb7.cell (p := ⟨gs,os + c,none⟩) sl).trans HSC.out
      have y7 : w7.cell? ⟨w.heap.size,2,none⟩ = some (.int .i64 q) := (hb7.cell (p := ⟨w.heap.size,2,none⟩) yl).trans HY2.out
      have vl7 : gv < w7.heap.size := Nat.lt_of_lt_of_le vl hb7.size
      have sl7 : gs < w7.heap.size := Nat.lt_of_lt_of_le sl hb7.size
      have yl7 : w.heap.size < w7.heap.size := Nat.lt_of_lt_of_le yl hb7.size
      have hkk2 : kk < k := by omega
      have HMU := hid (fun (v : KW w7) => refMulQ_any d u q v.w HDI.out HUI.out)
      clear hw7 hb7 hx7 q1 q2 q3 ql lc ll el ec y2 yl vc sc vl sl
      go_wp2_with fail
      refine wp_region_kept w7 (by kernel_rfl) (by kernel_rfl) (Kept.of (Below.refl _ _)) ?_
      have KC := fun (u : KW w7) b o h => KW.cells u b o h
      repeat (go_big_quiet_step ((go_at_call 159; with_reducible exact kept_same (HMU.out _))))
      refine wpQuiet_nil ?_
      rintro w8 ⟨⟨_,k8⟩,rfl⟩
      rename World => w8
      have HOX8 := hid (own_below HOX.out k8.2.2)
      have HBX8 := hid (HBX7.out.trans (k8.2.2.mono HBX7.out.size))
      have hszz8 := HBX8.out.size
      clear b0 b1 b2 bl vc7 sc7 y7 vl7 sl7 yl7 KC k8
      go_wp2_with (at_builtin; go_must (refine wpList_push slI64 rfl _ _ rfl w3.heap.size (.slice A7 i c7) i (iv ((pls.take i).map (grF q V E))) rfl HOX8.out #[.int .i64 (mulQ d u q)] _ rfl rfl rfl (rone_int _) (by unfold maxLen; omega) (by omega) hszz8 ?_); go_must (intro A9 c9 w9 hown9 hb9))
      have HO9 := hid (show w9.ownsRow w3.heap.size 2 1 (.slice A9 (i + 1) c9) (i + 1) (iv ((pls.take (i + 1)).map (grF q V E))) by
       rw [HTK.out,iv_append,HGV.out]
       exact hown9)
      have HB9 := hid (HBX8.out.trans hb9)
      clear hown9 hb9
      go_roundw
      case rel => exact ⟨i + 1,HLT.out,by go_num,A9,c9,⟨rfl,rfl,rfl⟩,(by rw [<- List.map_take]; exact HO9.out),HB9.out⟩
      case measure => simp [intOf]; have := HLT.out; omega
    ·obtain rfl : i = NP := by omega
     have hb2 : Below w2.heap.size w2 wr := HBX3.out.trans (hb.mono HBX3.out.size)
     have HOX := hid ho
     have HBW := hid (HB2.out.trans (hb2.mono HB2.out.size))
     have HSZ : Hid (w.heap.size <= w3.heap.size) := hid (Nat.le_trans HB2.out.size HBX3.out.size)
     clear ho hb hb2
     go_wp2_with fail
     go_ret
     rw [List.take_of_length_le (by rw [HPN.out]; exact Nat.le_refl _)] at HOX
     exact ⟨A7,c7,rfl,own_base HOX.out HSZ.out,HBW.out⟩
end
end Go.Proofs.YtkmaeipoaoikpaaGreat
