/- MatBack2, Net5, Posts, Inv. -/
import Derived.Test.YtkmaeipoaoikpaaGreatEB12
namespace Go.Proofs.YtkmaeipoaoikpaaGreat
set_option linter.all false
set_option maxRecDepth 100000
set_option maxHeartbeats 4000000
open Lib (hid)
section
open Go.RowKit Go.Shelf
attribute [local go_sem] Oper.semAt_some
theorem back_good (R C m cap g o : Nat) (B : Option Addr) (d : Nat) (l y : List Int) (q : Int) (w : World) (hR : 1 <= R /\ R <= 1048576) (hC : 1 <= C /\ C <= 1048576) (hm : R * C = m) (hm' : m <= 1048576) (hcap : m <= cap) (hcm : cap <= 9223372036854775807) (hl : l.length = m) (hyl : y.length = R)
  (h : Rd w 1 (some ⟨g,o,none⟩) m (iv l)) (hy : Rd w 1 B R (iv y)) (h1 : ∀ v ∈ l,In1 v) (h2 : ∀ v ∈ y,In1 v) :
  Calls Tryz.prog 168 #[.agg #[.int .i64 R,.int .i64 C,.slice (some ⟨g,o,none⟩) m cap],.slice B R d,.int .i64 q] w fun e w' => ∃ A c,e = .returned (.tuple #[.slice A C c,.bool true]) /\ w'.ownsRow w.heap.size 2 1 (.slice A C c) C (iv (mulN (turnN l R C) y q C)) /\ Below w.heap.size w w' := by
 have hmk := fun W => run_make_row' (P := Tryz.prog) 74 2 (.int .i64 0) 8 Tryz.underlying74 slVec.info rfl .i64 .i64 C (by omega) (by omega) W
 obtain ⟨gy,oy,rfl,hgy,_⟩ := hy.2 (by omega)
 have hgl : g < w.heap.size := h.lt g o rfl (by rw [<- hm]; exact Nat.mul_pos hR.1 hC.1)
 obtain ⟨W0,hW0⟩ : ∃ W0,((w.alloc (.cells #[.int .i64 R,.int .i64 C,.slice (some ⟨g,o,none⟩) m cap] 271)).alloc (.cells #[.slice (some ⟨gy,oy,none⟩) R d] 74)).alloc (.cells #[.int .i64 q] 3) = W0 := ⟨_,rfl⟩
 have k0 : Below w.heap.size w W0 := by rw [<- hW0]; exact (((Below.refl _ _).alloc (Nat.le_refl _) _).alloc (by simp) _).alloc (by simp <;> omega) _
 have b0 : Blk W0 w.heap.size 271 #[.int .i64 R,.int .i64 C,.slice (some ⟨g,o,none⟩) m cap] := by rw [<- hW0]; exact ((Blk.new _ _ _).alloc _).alloc _
 have b1 : Blk W0 (w.heap.size + 1) 74 #[.slice (some ⟨gy,oy,none⟩) R d] := by rw [<- hW0]; exact (Blk.new' _ _ (by simp)).alloc _
 have b2 : Blk W0 (w.heap.size + 1 + 1) 3 #[.int .i64 q] := by rw [<- hW0]; exact Blk.new' _ _ (by simp)
 have hrt : decide (RightP R C m) = true := decide_eq_true ⟨⟨by omega,by omega,by omega,by omega⟩,by rw [<- hm]; exact Int.natCast_mul R C⟩
 have C1 := fun W => right_any R C (some ⟨g,o,none⟩) m cap W (by omega)
 rw [hrt] at C1
 have HC1 := hid C1
 have HR0 := hid (h.below k0)
 have HX0 := hid (hy.below k0)
 have HK0 := hid k0
 have HB0 := hid b0
 have HB1 := hid b1
 have HB2 := hid b2
 have HL := hid (And.intro hl hyl)
 have HIN := hid (And.intro h1 h2)
 have HM := hid hm
 have HR := hid hR
 have HC := hid hC
 have HMK := hid hmk
 have a0 : W0.cell? ⟨w.heap.size,0,none⟩ = some (.int .i64 R) := b0.cell 0
 have a1 : W0.cell? ⟨w.heap.size,1,none⟩ = some (.int .i64 C) := b0.cell 1
 have a2 : W0.cell? ⟨w.heap.size,2,none⟩ = some (.slice (some ⟨g,o,none⟩) m cap) := b0.cell 2
 have lt0 := b0.lt
 have HW0 := hid hW0
 clear C1 k0 b0 b1 b2 hrt h hy hl hyl h1 h2 hm hW0 hR hC hmk
 refine (callsIn_wide (n := 9)).1 (callsIn_of_wp_marks Tryz.func168 rfl trivial (wpIn_wide.2 ?_) rfl)
 simp only [Tryz.ntmps168,List.size_toArray,List.length_cons,List.length_nil,Nat.reduceAdd,Nat.reduceSub,Array.replicate_succ,Array.replicate_zero,List.push_toArray,List.append_toArray,List.nil_append,List.cons_append]
 go_wp2_with fail
 rw [HW0.out]
 clear HW0
 go_wp2_with fail
 ((with_reducible refine (HC1.out _).mono ?_); rintro e w1 ⟨rfl,hb1⟩)
 have m0 : Blk w1 w.heap.size 271 #[.int .i64 R,.int .i64 C,.slice (some ⟨g,o,none⟩) m cap] := HB0.out.kept hb1
 have m1 : Blk w1 (w.heap.size + 1) 74 #[.slice (some ⟨gy,oy,none⟩) R d] := HB1.out.kept hb1
 have m2 : Blk w1 (w.heap.size + 1 + 1) 3 #[.int .i64 q] := HB2.out.kept hb1
 have hr1 := HR0.out.below hb1
 have hx1 := HX0.out.below hb1
 have hk1 := ((Kept.of HK0.out).call hb1).2.2
 have d1 : ((R : Int) != (R : Int)) = false := by simp
 have y1 : w1.cell? ⟨w.heap.size,1,none⟩ = some (.int .i64 C) := m0.cell 1
 have y2 : w1.cell? ⟨w.heap.size + 1,0,none⟩ = some (.slice (some ⟨gy,oy,none⟩) R d) := m1.cell 0
 have y3 : w1.cell? ⟨w.heap.size,0,none⟩ = some (.int .i64 R) := m0.cell 0
 have y4 : w1.cell? ⟨w.heap.size,2,none⟩ = some (.slice (some ⟨g,o,none⟩) m cap) := m0.cell 2
 have ly1 := m0.lt
 have ly2 := m1.lt
 have HM0 := hid m0
 have HM1 := hid m1
 have HM2 := hid m2
 have HR1 := hid hr1
 have HX1 := hid hx1
 have HK1 := hid hk1
 have hmk := HMK.out
 clear m0 m1 m2 hr1 hx1 hk1 hb1 a0 a1 a2 lt0 HB0 HB1 HB2 HR0 HX0 HK0 HC1
 go_wp2_with fail
 obtain ⟨W2,hW2⟩ : ∃ W2,(w1.alloc (.cells (madeCells #[Value.int .i64 0] C) 2)).alloc (.cells #[.slice (some ⟨w1.heap.size,0,none⟩) C C] 74) = W2 := ⟨_,rfl⟩
 rw [hW2]
 have k2 : Below w1.heap.size w1 W2 := by rw [<- hW2]; exact ((Below.refl _ _).alloc (Nat.le_refl _) _).alloc (by simp) _
 have o2 : Blk W2 (w1.heap.size + 1) 74 #[.slice (some ⟨w1.heap.size,0,none⟩) C C] := by rw [<- hW2]; exact Blk.new' _ _ (by simp)
 have p2 : W2.ownsRow w1.heap.size 2 1 (.slice (some ⟨w1.heap.size,0,none⟩) C C) C (iv (zeros C)) := by rw [<- hW2]; exact (own_made _ C _ _ _ rfl (Nat.le_refl _) HC.out.2).alloc _
 clear hW2
 ((with_reducible refine (rows_any R C _ m cap _).mono ?_); rintro e w3 ⟨rfl,hbm,hb3⟩)
 clear y1 y2 y3 y4 d1 hmk HMK
 go_wp2_with fail
 have z2 : w1.heap.size + 1 < W2.heap.size := o2.lt
 have z3 : W2.heap.size < w3.heap.size := hbm.lt
 have K3 : Below w1.heap.size w1 w3 := ((Kept.of k2).call hb3).2.2
 have o3 := o2.kept hb3
 have p3 := own_below p2 hb3
 have hseq := rows_stops (9 - 1) W2.heap.size R C m cap g o (by omega) HR.out.2 HC.out.1 HM.out hcap hcm (fun b => b = w1.heap.size \/ w3.heap.size <= b) (by omega) _ w3 hbm
 clear hb3 k2 o2 p2 hbm
 refine wpIn_wide.1 (wpIn_rangeFunc_ownH (F := Fence.wide) (n := 9) rfl (by omega) (gf := 255) (lb := #[.pointer (some ⟨W2.heap.size,0,none⟩)]) rfl trivial (enters_of Tryz.func255 (by kernel_rfl) rfl) hseq (fun h k => h.trans k) (butK_b (w := w3) (fun i hi => .inr hi)) (Below.refl _ _) (fun _ => rfl)
  (fun pre W => (W.ownsRow w1.heap.size 2 1 (.slice (some ⟨w1.heap.size,0,none⟩) C C) C (iv (backP l y q C pre)) /\ Blk W (w1.heap.size + 1) 74 #[.slice (some ⟨w1.heap.size,0,none⟩) C C]) /\ Below w1.heap.size w1 W)
  (fun _ _ _ => False)
  (OwnFrom.and (OwnFrom.and (Own.from (ownsRow_own w1.heap.size 2 1 (.slice (some ⟨w1.heap.size,0,none⟩) C C) C (fun pre : List (Fin R) => iv (backP l y q C pre))) _) (fun _ X Y row hs hg hr => Blk.turn hs hg hr)) (ownFrom_below (Nat.le_refl _) K3.size))
  (fun _ _ _ _ _ hs _ _ => hs)
  ⟨⟨p3,o3⟩,K3⟩
  (fun k a' W => a' = { tmps := #[.agg #[.int .i64 R,.int .i64 C,.slice (some ⟨g,o,none⟩) m cap],.slice (some ⟨gy,oy,none⟩) R d,.int .i64 q,.pointer (some ⟨w.heap.size,0,none⟩),.pointer (some ⟨w.heap.size + 1,0,none⟩),.pointer (some ⟨w.heap.size + 1 + 1,0,none⟩),.slice none 0 0,.bool false,.pointer (some ⟨w1.heap.size + 1,0,none⟩),.int .i64 k.val,.slice (some ⟨g,o + k.val * C,none⟩) C C,.agg #[.int .i64 R,.int .i64 C,.slice (some ⟨g,o,none⟩) m cap],.bool true,.bool false,.bool false,.slice (some ⟨gy,oy,none⟩) R d,.int .i64 R,.pointer (some ⟨w.heap.size,0,none⟩),.int .i64 R,.bool false,.bool false,.pointer (some ⟨w.heap.size,1,none⟩),.int .i64 C,.slice (some ⟨w1.heap.size,0,none⟩) C C,.agg #[.int .i64 R,.int .i64 C,.slice (some ⟨g,o,none⟩) m cap],.func (.func 255) #[] #[.pointer (some ⟨W2.heap.size,0,none⟩)],.int .i64 k.val,.slice (some ⟨g,o + k.val * C,none⟩) C C,undef,undef,undef,undef,undef,undef,undef,undef,undef,undef],defers := [] })
  (fun x a' s X Y row hs hg hr => hs) ?assign ?body ?done ?stop)
 case assign =>
  rintro l' pre k W K hI hK
  simp only [encRow]
  gi_wp2_with fail
  exact hK _ _ ((KeepsOthers.refl _).from _) (But.refl _ _) hI rfl
 case body =>
  rintro l' pre k a' W hl3 ⟨r0,hr0⟩ ⟨⟨hown,hblk⟩,hB⟩ rfl hlt
  obtain ⟨gy',oy',v,e1,hbv,hv,cv⟩ := iv_at HL.out.2 (HX1.out.below hB) k.isLt
  cases e1
  have hyv : y.getD k.val 0 = v := by rw [List.getD_eq_getElem?_getD,hv]; rfl
  have inv : In1 v := HIN.out.2 v (List.mem_of_getElem? hv)
  have HSC := hid (fun W' (hk : Below W.heap.size W W') => scale_any (some ⟨g,o + k.val * C,none⟩) C C v q (rowL l C k.val) W' (by have := HC.out; omega) (rowL_length HM.out HL.out.1 k.isLt) (Rd.row HM.out HL.out.1 k.isLt HC.out.1 ((HR1.out.below hB).below hk)) (rowL_in HIN.out.1 C k.val) inv)
  have x1 : W.cell? ⟨w.heap.size + 1,0,none⟩ = some (.slice (some ⟨gy,oy,none⟩) R d) := (HM1.out.kept hB).cell 0
  have x2 : W.cell? ⟨w.heap.size + 1 + 1,0,none⟩ = some (.int .i64 q) := (HM2.out.kept hB).cell 0
  have l1 := (HM1.out.kept hB).lt
  have l2 := (HM2.out.kept hB).lt
  have x3 : W.cell? ⟨w1.heap.size + 1,0,none⟩ = some (.slice (some ⟨w1.heap.size,0,none⟩) C C) := hblk.cell 0
  have l3 := hblk.lt
  obtain ⟨kv,hkv⟩ : ∃ kv,k.val = kv := ⟨_,rfl⟩
  have hkn : kv < R := by rw [<- hkv]; exact k.isLt
  obtain ⟨b0,hb0⟩ : ∃ b0,o + k.val * C = b0 := ⟨_,rfl⟩
  rw [hb0] at HSC ⊢
  rw [hkv] at cv ⊢
  have i0 : (0 : Int) <= (kv : Int) := by omega
  have i1 : (kv : Int) < (R : Int) := by omega
  have HYV := hid hyv
  have HOW := hid hown
  have HBK := hid hblk
  have HBB := hid hB
  have HCC := HC.out
  clear hown hblk hB hl3 hr0 hlt o3 p3 K3 hseq hyv hv inv hb0 hkv
  gi_wp2_with fail
  refine wpIn_region_early (Kept W) [0,1,2,3,4,5,6] [7] [8] (by kernel_rfl) (by kernel_rfl) (by kernel_rfl) (Kept.start W) ?_
  simp only [List.filterMap_cons,List.filterMap_nil,List.getElem?_cons_succ,List.getElem?_cons_zero]
  refine early_step (.slice (some ⟨w1.heap.size,0,none⟩) C C) rfl (fun W hW => ?_) ?_
  ·obtain ⟨hc,-,-⟩ := hW
   go_simp
  go_simp
  refine early_step (.slice (some ⟨g,b0,none⟩) C C) rfl (fun W hW => ?_) ?_
  ·obtain ⟨hc,-,-⟩ := hW
   go_simp
  go_simp
  refine early_step (.slice (some ⟨gy,oy,none⟩) R d) rfl (fun W hW => ?_) ?_
  ·obtain ⟨hc,-,-⟩ := hW
   go_simp
  go_simp
  refine early_step (.int .i64 kv) rfl (fun W hW => ?_) ?_
  ·obtain ⟨hc,-,-⟩ := hW
   go_simp
  go_simp
  refine early_step (.pointer (some ⟨gy,oy + kv,none⟩)) rfl (fun W hW => ?_) ?_
  ·obtain ⟨hc,-,-⟩ := hW
   go_simp
  go_simp
  refine early_step (.int .i64 v) rfl (fun W hW => ?_) ?_
  ·obtain ⟨hc,-,-⟩ := hW
   go_simp
  go_simp
  refine early_step (.int .i64 q) rfl (fun W hW => ?_) ?_
  ·obtain ⟨hc,-,-⟩ := hW
   go_simp
  go_simp
  change RestW _ _ _ _ _ (_ :: []) _ _
  unfold RestW
  go_wp2_with fail
  ((with_reducible refine (HSC.out W.drew (Below.refl _ _).drew).mono ?_); rintro e w5 ⟨A5,c5,rfl,hown5,hb5⟩)
  have k5 := (Kept.start W).call hb5
  have hO5 := own_below HOW.out k5.2.2
  have h5b : ∀ b o',A5 = some ⟨b,o',none⟩ -> 0 < C -> b ≠ w1.heap.size := fun b o' e h0 => by
   have h3 := (own_rd_block hown5 b o' e).1
   have h4 : W.heap.size <= b := h3
   have h5 : w1.heap.size + 1 < W.heap.size := l3
   omega
  have HADD := hid (add_any (some ⟨w1.heap.size,0,none⟩) A5 w1.heap.size 0 C C c5 C C w1.heap.size (backP l y q C pre) (scaleL (rowL l C k.val) v q) w5 (fun _ => rfl) (by omega) (by omega) (backP_length _ _ _ _ _) (by rw [scaleL_length,rowL_length HM.out HL.out.1 k.isLt]) hO5 (Rd.of_own hown5) h5b)
  have HK5 := hid k5.2.2
  clear hb5 hO5 h5b hown5 x1 x2 x3 cv
  go_wp2_with fail
  refine ⟨k5,?_⟩
  unfold RestW
  change wpList _ _ _ (_ :: []) _ _
  go_wp2_with fail
  ((with_reducible refine HADD.out.mono ?_); rintro e w6 ⟨rfl,hown6,hgr6⟩)
  go_wp2_with fail
  refine NoPanic.normal (NoOut.normal ?_)
  have hgW : W.grownBy w6 (some w1.heap.size) := gr_below_first HK5.out hgr6
  go_wp2_with fail
  refine ⟨(KeepsOthers.of_grownBy hgW (fun a o e ha => ?_)).from _,But.of_gr hgW (.inl rfl),⟨?_,HBK.out.grown hgW (by simp)⟩,below_gr HBB.out HBB.out.size hgW (Nat.le_refl _)⟩
  ·cases e
   obtain ⟨cur,hcur⟩ := own_cells HOW.out
   rw [hcur] at ha
   cases ha
   rfl
  ·rw [backP_snoc,HYV.out]
   exact hown6
 case done =>
  rintro D ys W hD rfl ⟨⟨hown,hblk⟩,hB⟩ hK
  have hc : W.cell? ⟨w1.heap.size + 1,0,none⟩ = some (.slice (some ⟨w1.heap.size,0,none⟩) C C) := hblk.cell 0
  have hlw := hblk.lt
  have HOW := hid hown
  have HBB := hid hB
  clear hown hB hseq
  go_wp2_with fail
  refine ⟨by simp,.inl ⟨_,_,rfl,run_takeDeferred hK,?_⟩⟩
  have ho6 := ownsRow_putObj HOW.out (.deferred none) hK rfl
  rw [back_done HM.out HL.out.1 HL.out.2] at ho6
  have hz := HK1.out.size
  exact ⟨.tuple #[.slice (some ⟨w1.heap.size,0,none⟩) C C,.bool true],by simp [results,Tryz.results168,go_sem],_,_,rfl,own_base ho6 hz,(HK1.out.trans (HBB.out.mono hz)).trans (belowK_b (w := w) (Nat.le_refl _) W D _ _ (by have := K3.size; omega) hK rfl rfl)⟩
 case stop =>
  rintro D c pre W _ _ h _
  exact h.elim
end
section
open Go.RowKit
def gateTo (v d : List Int) (i : Nat) : List Int := d.mapIdx fun j x => if j < i then gateV (v.getD j 0) x else x
theorem gateTo_zero (v d : List Int) : gateTo v d 0 = d := by
 unfold gateTo
 apply List.ext_getElem?
 intro i
 simp
theorem gateTo_length (v d : List Int) (i : Nat) : (gateTo v d i).length = d.length := by simp [gateTo]
theorem gateTo_get {v d : List Int} {i : Nat} {x : Int} (h : d[i]? = some x) : (gateTo v d i)[i]? = some x := by simp [gateTo,h]
theorem gateTo_set {v d : List Int} {i : Nat} {x u : Int} (h : d[i]? = some x) (hy : v[i]? = some u) : (gateTo v d i).set i (gateV u x) = gateTo v d (i + 1) := by
 obtain ⟨hl,hv⟩ := List.getElem?_eq_some_iff.1 h
 apply List.ext_getElem?
 intro j
 rw [List.getElem?_set,gateTo_length]
 by_cases e : i = j
 ·subst e
  rw [if_pos rfl,if_pos hl]
  simp [gateTo,h,hy]
 ·rw [if_neg e]
  by_cases hj : j < d.length
  ·simp only [gateTo,List.getElem?_mapIdx]
   rw [List.getElem?_eq_getElem hj]
   simp only [Option.map_some]
   by_cases h1 : j < i
   ·rw [if_pos h1,if_pos (by omega)]
   ·rw [if_neg h1,if_neg (by omega)]
  ·rw [List.getElem?_eq_none (by rw [gateTo_length]; omega),List.getElem?_eq_none (by rw [gateTo_length]; omega)]
theorem gateV_in (u : Int) {x : Int} (h : In1 x) : In1 (gateV u x) := by
 unfold gateV
 split
 ·exact h
 ·exact ⟨by decide,by decide⟩
theorem gateTo_in {v d : List Int} (i : Nat) (h : AllIn d) : AllIn (gateTo v d i) := by
 intro x hx
 obtain ⟨j,hj⟩ := List.getElem?_of_mem hx
 simp only [gateTo,List.getElem?_mapIdx] at hj
 obtain ⟨u,hu,rfl⟩ := Option.map_eq_some_iff.1 hj
 split
 ·exact gateV_in _ (h u (List.mem_of_getElem? hu))
 ·exact h u (List.mem_of_getElem? hu)
def dlN (l : List Int) (n : Nat) (P : List Int) (q : Int) (x y : List Int) : Nat -> List Int
 | 0 => errL l n P q x y
 | j + 1 => gateTo (trN l n P q x (n - 2 - j)) (mulN (turnN (wtL l P (n - 2 - j)) (szN l (n - 1 - j)) (szN l (n - 2 - j))) (dlN l n P q x y j) q (szN l (n - 2 - j))) (szN l (n - 2 - j))
def sgN (l : List Int) (n : Nat) (P : List Int) (q : Int) (x y : List Int) (j : Nat) : List Int := outN (dlN l n P q x y j) (trN l n P q x (n - 2 - j)) q ++ dlN l n P q x y j
def grT (l : List Int) (n : Nat) (P : List Int) (q : Int) (x y : List Int) : Nat -> List Int
 | 0 => []
 | j + 1 => sgN l n P q x y j ++ grT l n P q x y j
def gradN (l : List Int) (n : Nat) (P : List Int) (q : Int) (x y : List Int) : List Int := grT l n P q x y (n - 1)
theorem nat_all {n : Nat} {F : Nat -> Int} {p : Int -> Prop} (h : ∀ i,i < n -> p (F i)) : ∀ x ∈ natL n F,p x := by
 intro x hx
 obtain ⟨i,hi,rfl⟩ := List.mem_map.1 hx
 exact h i (List.mem_range.1 hi)
theorem dotF_in' (q : Int) : ∀ (a b : List Int) (s : Int),In1 s -> In1 (dotF q a b s)
 | [],_,s,h => by simpa [dotF] using h
 | _ :: _,[],s,h => by simpa [dotF] using h
 | x :: a,y :: b,s,h => by
  rw [dotF]
  exact dotF_in' q a b _ (wrap64_in1 _)
theorem dotL_in (q : Int) (a b : List Int) : In1 (dotL q a b) := dotF_in' q a b 0 ⟨by decide,by decide⟩
end
section
open Go.RowKit
variable {l : List Int} {n NP : Nat} {P : List Int} {q : Int} {x y : List Int}
theorem errL_length (hx : x.length = szN l 0) : (errL l n P q x y).length = szN l (n - 1) := by rw [errL,subTo_length,trN_length hx]
theorem dlN_length (hx : x.length = szN l 0) : ∀ j,j <= n - 1 -> (dlN l n P q x y j).length = szN l (n - 1 - j)
 | 0,_ => errL_length hx
 | j + 1,h => by rw [dlN,gateTo_length,mulN,natL_length,show n - 1 - (j + 1) = n - 2 - j by omega]
theorem mulN_in (l x : List Int) (q : Int) (R : Nat) : AllIn (mulN l x q R) := nat_all (fun i _ => dotL_in _ _ _)
theorem dlN_in (hx : AllIn x) : ∀ j,AllIn (dlN l n P q x y j)
 | 0 => subTo_in _ (trN_in hx _)
 | j + 1 => gateTo_in _ (mulN_in _ _ _ _)
theorem outN_length (y x : List Int) (q : Int) : (outN y x q).length = y.length * x.length := by rw [outN,natL_length]
theorem sgN_length (hN : NetP l n NP P q) (hx : x.length = szN l 0) {j : Nat} (hj : j < n - 1) : (sgN l n P q x y j).length = ofN l (n - 1 - j) - ofN l (n - 2 - j) := by
 rw [sgN,List.length_append,outN_length,dlN_length hx j (by omega),trN_length hx,show n - 1 - j = (n - 2 - j) + 1 by omega,ofN]
 omega
theorem grT_length (hN : NetP l n NP P q) (hx : x.length = szN l 0) : ∀ j,j <= n - 1 -> (grT l n P q x y j).length = NP - ofN l (n - 1 - j)
 | 0,_ => by rw [grT,Nat.sub_zero,hN.cnt]; simp
 | j + 1,h => by
  have h1 := grT_length hN hx j (by omega)
  have h2 := sgN_length (y := y) hN hx (show j < n - 1 by omega)
  have h3 := ofN_mono l (n - 2 - j) (n - 1 - j) (by omega)
  have h4 := ofN_mono l (n - 1 - j) (n - 1) (by omega)
  rw [hN.cnt] at h4
  rw [grT,List.length_append,h1,h2,show n - 1 - (j + 1) = n - 2 - j by omega]
  omega
theorem outN_allIn (y x : List Int) (q : Int) : AllIn (outN y x q) := nat_all (fun i _ => mulQ_in _ _ _)
theorem grT_in (hx : AllIn x) : ∀ j,AllIn (grT l n P q x y j)
 | 0 => fun v hv => by cases hv
 | j + 1 => fun v hv => by
  rw [grT,List.mem_append,sgN,List.mem_append] at hv
  rcases hv with (h | h) | h
  ·exact outN_allIn _ _ _ v h
  ·exact dlN_in hx j v h
  ·exact grT_in hx j v h
theorem gradN_length (hN : NetP l n NP P q) (hx : x.length = szN l 0) : (gradN l n P q x y).length = NP := by
 rw [gradN,grT_length hN hx _ (Nat.le_refl _),Nat.sub_self]
 rfl
theorem gradN_in (hx : AllIn x) : AllIn (gradN l n P q x y) := grT_in hx _
theorem gr_lay1 {Z G o : List Int} {a b : Nat} (hZ : Z = zeros b) (hab : a + o.length <= b) : (Z ++ G).take a ++ (o ++ (Z ++ G).drop (a + o.length)) = zeros a ++ o ++ (zeros (b - a - o.length) ++ G) := by
 subst hZ
 have h1 : (zeros b).length = b := by simp
 rw [List.take_append_of_le_length (by rw [h1]; omega),List.drop_append_of_le_length (by rw [h1]; omega)]
 simp only [zeros,List.take_replicate,List.drop_replicate,Nat.min_eq_left (show a <= b by omega),List.append_assoc,Nat.sub_sub]
theorem gr_lay2 {G o d : List Int} {a : Nat} : (zeros a ++ o ++ (zeros d.length ++ G)).take (a + o.length) ++ (d ++ (zeros a ++ o ++ (zeros d.length ++ G)).drop (a + o.length + d.length)) = zeros a ++ ((o ++ d) ++ G) := by
 have h1 : (zeros a ++ o).length = a + o.length := by simp
 rw [List.take_left' h1,<- List.append_assoc (zeros a ++ o) (zeros d.length) G,List.drop_left' (by simp; omega)]
 simp [List.append_assoc,Nat.add_assoc]
end
section
open Go.RowKit
variable {P : Program} {ops : Array Oper} {md : Region.Mode} {S : World → Prop} {Q : Exit → Act → World → Prop} {a0 : Act}
def dstN (ops : Array Oper) (j : Nat) : Option Tmp := (ops[j]?).bind (·.dst)
def puts (ops : Array Oper) (a0 : Act) (vs : Nat -> Value) : List Nat -> Act
 | [] => a0
 | j :: js => (puts ops a0 vs js).put (dstN ops j) (vs j)
def updV (vs : Nat -> Value) (j : Nat) (v : Value) : Nat -> Value := fun k => if k = j then v else vs k
theorem put_put (a : Act) (d : Option Tmp) (x y : Value) : (a.put d x).put d y = a.put d y := by
 cases d with
 | none => rfl
 | some t => simp [Act.put]
theorem put_comm (a : Act) {d e : Option Tmp} (h : d ≠ e) (x y : Value) : (a.put d x).put e y = (a.put e y).put d x := by
 cases d with
 | none => rfl
 | some t =>
  cases e with
  | none => rfl
  | some u =>
   have hne : t ≠ u := fun e => h (by rw [e])
   simp only [Act.put]
   rw [Array.setIfInBounds_comm _ _ hne]
theorem puts_same {vs : Nat -> Value} {j : Nat} {v : Value} {js : List Nat} (h : j ∉ js) : puts ops a0 (updV vs j v) js = puts ops a0 vs js := by
 induction js with
 | nil => rfl
 | cons k js ih =>
  have h1 : k ≠ j := fun e => h (by simp [e])
  rw [puts,puts,ih (fun hm => h (by simp [hm])),updV,if_neg h1]
theorem puts_upd {vs : Nat -> Value} {j : Nat} {v : Value} {js : List Nat} (hj : j ∈ js) (hnd : (js.map (dstN ops)).Nodup) : (puts ops a0 vs js).put (dstN ops j) v = puts ops a0 (updV vs j v) js := by
 induction js with
 | nil => cases hj
 | cons k js ih =>
  rw [List.map_cons,List.nodup_cons] at hnd
  by_cases hkj : k = j
  ·subst hkj
   have hn : k ∉ js := fun hm => hnd.1 (List.mem_map_of_mem hm)
   rw [puts,put_put,puts,puts_same hn,updV,if_pos rfl]
  ·have hjs : j ∈ js := by
    rcases List.mem_cons.1 hj with h | h
    ·exact absurd h.symm hkj
    ·exact h
   have hd : dstN ops k ≠ dstN ops j := fun e => hnd.1 (by rw [e]; exact List.mem_map_of_mem hjs)
   rw [puts,put_comm _ hd,ih hjs hnd.2,puts,updV,if_neg hkj]
theorem put_self (a : Act) (d : Option Tmp) : a.put d (match d with | some t => a.tmps.getD t undef | none => undef) = a := by
 cases d with
 | none => rfl
 | some t =>
  have : a.tmps.setIfInBounds t (a.tmps.getD t undef) = a.tmps := by
   apply Array.ext_getElem?
   intro i
   rw [Array.getElem?_setIfInBounds]
   by_cases h : t = i
   ·subst h
    by_cases hl : t < a.tmps.size
    ·rw [if_pos rfl,if_pos hl]; simp [hl]
    ·rw [if_pos rfl,if_neg hl]; exact (Array.getElem?_eq_none (Nat.le_of_not_lt hl)).symm
   ·rw [if_neg h]
  simp only [Act.put,this]
theorem puts_start (js : List Nat) : ∃ vs,puts ops a0 vs js = a0 := by
 refine ⟨fun j => match dstN ops j with | some t => a0.tmps.getD t undef | none => undef,?_⟩
 induction js with
 | nil => rfl
 | cons j js ih => rw [puts,ih]; exact put_self a0 (dstN ops j)
def postsB (md : Region.Mode) (ops : Array Oper) (M T : List Nat) : Nat -> Array Bool -> Bool
 | 0,listed => M.all (fun j => listed.getD j false) && seqT md ops T listed
 | n + 1,listed => !(Region.ready md ops listed).isEmpty && (Region.ready md ops listed).all fun i => M.contains i && postsB md ops M T n (listed.setIfInBounds i true)
def PostW (P : Program) (ops : Array Oper) (Q : Exit -> Act -> World -> Prop) (S : World -> Prop) (V : Nat -> Value -> World -> Prop) (R : Nat -> Value -> Nat -> Value -> Prop) (j : Nat) (d : Option Tmp) (o : Oper) (a : Act) (w : World) : Prop :=
 wpList P ops (fun e a' w' => match e with | .normal => ∃ v,a' = a.put d v /\ S w' /\ V j v w' /\ Below w.heap.size w w' /\ (∀ k v',k ≠ j -> V k v' w -> R j v k v') | e => Q e a' w') [o] a w
theorem posts_any {M T : List Nat} {lt : List Oper} {V : Nat -> Value -> World -> Prop} {R : Nat -> Value -> Nat -> Value -> Prop} (hR : ∀ j v k v',R j v k v' -> R k v' j v) (hst : ∀ j v w w',V j v w -> Below w.heap.size w w' -> V j v w') (hnd : (M.map (dstN ops)).Nodup)
  (h1 : ∀ j ∈ M,∀ o,ops[j]? = some o -> ∀ vs w,S w -> (∀ k ∈ M,Region.waitsFor md ops j k = true -> V k (vs k) w) -> PostW P ops Q S V R j (dstN ops j) o (puts ops a0 vs M) w)
  (h2 : ∀ vs w,S w -> (∀ k ∈ M,V k (vs k) w) -> (∀ j ∈ M,∀ k ∈ M,j ≠ k -> R j (vs j) k (vs k)) -> wpList P ops Q lt (puts ops a0 vs M) w) (hT : T.map (ops[·]?) = lt.map some) :
  ∀ (n : Nat) (listed : Array Bool) (vs : Nat -> Value) (w : World),postsB md ops M T n listed = true -> S w -> (∀ k ∈ M,listed.getD k false = true -> V k (vs k) w) -> (∀ j ∈ M,∀ k ∈ M,j ≠ k -> listed.getD j false = true -> listed.getD k false = true -> R j (vs j) k (vs k)) -> AnyT P md ops Q S T (n + T.length) listed (puts ops a0 vs M) w := by
 intro n
 induction n with
 | zero =>
  intro listed vs w hB hS hV hD
  simp only [postsB,Bool.and_eq_true,List.all_eq_true] at hB
  rw [Nat.zero_add]
  exact free_any T lt listed _ w (fun t h => h) hT hB.2 (h2 vs w hS (fun k hk => hV k hk (hB.1 k hk)) (fun j hj k hk hne => hD j hj k hk hne (hB.1 j hj) (hB.1 k hk)))
 | succ n ih =>
  intro listed vs w hB hS hV hD
  simp only [postsB,Bool.and_eq_true,List.all_eq_true,Bool.not_eq_true'] at hB
  rw [show n + 1 + T.length = (n + T.length) + 1 by omega]
  refine ⟨fun h => (by rw [h] at hB; cases hB.1),fun i hi => ?_⟩
  obtain ⟨hiM,hchk⟩ := hB.2 i hi
  have hiM : i ∈ M := by simpa using hiM
  obtain ⟨hun,oj,hoj,hall⟩ := mem_ready.1 hi
  have hw := h1 i hiM oj hoj vs w hS (fun k hk hwait => hV k hk (by
   obtain ⟨oj',hoj',e,he,hb,hon⟩ := Region.waitsFor_spec hwait
   have : oj' = oj := Option.some.inj (hoj'.symm.trans hoj)
   subst this
   rw [<- hon]
   exact hall e he hb))
  have hw' : wpOp P ops (fun e a' w' => match e with | .normal => ∃ v,a' = (puts ops a0 vs M).put (dstN ops i) v /\ S w' /\ V i v w' /\ Below w.heap.size w w' /\ (∀ k v',k ≠ i -> V k v' w -> R i v k v') | e => Q e a' w') i (wpList P ops (fun e a' w' => match e with | .normal => ∃ v,a' = (puts ops a0 vs M).put (dstN ops i) v /\ S w' /\ V i v w' /\ Below w.heap.size w w' /\ (∀ k v',k ≠ i -> V k v' w -> R i v k v') | e => Q e a' w') []) (puts ops a0 vs M) w := by unfold wpOp; simp only [hoj]; exact hw
  refine wpOp_mono (fun a' w' h' => ?_) (wpOp_monoQ (Q' := Q) (fun e a w he h => ?_) hw')
  ·obtain ⟨v,rfl,hS',hVv,hb,hRv⟩ := h'
   refine ⟨.inr hS',?_⟩
   rw [puts_upd hiM hnd]
   refine ih _ _ w' hchk hS' (fun k hk hl => ?_) (fun j hj k hk hne hlj hlk => ?_)
   ·by_cases hki : k = i
    ·subst hki; rw [updV,if_pos rfl]; exact hVv
    ·rw [updV,if_neg hki]
     rw [getD_set_ne false (Ne.symm hki)] at hl
     exact hst k _ w w' (hV k hk hl) hb
   ·by_cases hji : j = i
    ·subst hji
     have hkj : k ≠ j := Ne.symm hne
     rw [updV,if_pos rfl,updV,if_neg hkj]
     rw [getD_set_ne false (Ne.symm hkj)] at hlk
     exact hRv k _ hkj (hV k hk hlk)
    ·rw [getD_set_ne false (Ne.symm hji)] at hlj
     by_cases hki : k = i
     ·subst hki
      rw [updV,if_neg hji,updV,if_pos rfl]
      exact hR _ _ _ _ (hRv j _ hji (hV j hj hlj))
     ·rw [getD_set_ne false (Ne.symm hki)] at hlk
      rw [updV,if_neg hji,updV,if_neg hki]
      exact hD j hj k hk hne hlj hlk
  ·cases e <;> first | exact absurd rfl he | exact h
end
section
open Go.RowKit
def postsAllB (ops : Array Oper) (E M T : List Nat) : Bool :=
 Region.noSelect ops && earlyB .any ops T ops.size E (Array.replicate ops.size false) && postsB .any ops M T M.length (listAll (Array.replicate ops.size false) E) && decide (E.length + (M.length + T.length) = ops.size) && E.all (fun e => decide (e < ops.size)) && M.all (fun e => decide (e < ops.size)) && T.all (fun e => decide (e < ops.size)) && decide ((M.map (dstN ops)).Nodup) && M.all (fun j => !(listAll (Array.replicate ops.size false) E).getD j false)
structure PostsAt (P : Program) (l : List Oper) (S : World -> Prop) (V : Nat -> Value -> World -> Prop) (R : Nat -> Value -> Nat -> Value -> Prop) (M T : List Nat) (Q : Exit -> Act -> World -> Prop) (a0 : Act) : Prop where
 each : ∀ j ∈ M,∀ o,l[j]? = some o -> ∀ vs w,S w -> (∀ k ∈ M,Region.waitsFor .any l.toArray j k = true -> V k (vs k) w) -> PostW P l.toArray (NoPanic Q) S V R j (dstN l.toArray j) o (puts l.toArray a0 vs M) w
 last : ∀ vs w,S w -> (∀ k ∈ M,V k (vs k) w) -> (∀ j ∈ M,∀ k ∈ M,j ≠ k -> R j (vs j) k (vs k)) -> wpList P l.toArray (NoPanic Q) (T.filterMap (l[·]?)) (puts l.toArray a0 vs M) w
theorem wp_region_posts {P : Program} {id : Nat} {Q : Exit -> Act -> World -> Prop} {a : Act} {w : World} {l : List Oper} (S : World -> Prop) (V : Nat -> Value -> World -> Prop) (R : Nat -> Value -> Nat -> Value -> Prop) (E M T : List Nat) (hm : P.follows .mixedOrders = true) (hB : postsAllB l.toArray E M T = true) (hS : S w.drew) (hR : ∀ j v k v',R j v k v' -> R k v' j v) (hst : ∀ j v w w',V j v w -> Below w.heap.size w w' -> V j v w')
  (h : EarlyW P l.toArray S (PostsAt P l S V R M T Q) (E.filterMap (l[·]?)) a) : (Code.region id l.toArray true).wp P Q a w := by
 simp only [postsAllB,Bool.and_eq_true,decide_eq_true_eq,Bool.not_eq_true',List.all_eq_true] at hB
 obtain ⟨⟨⟨⟨⟨⟨⟨⟨hsel,hE⟩,hP⟩,hlen⟩,hEs⟩,hMs⟩,hTs⟩,hnd⟩,hfresh⟩ := hB
 refine wp_region_noPanic (wp_region_any hm (AnyT.any (S := S) (F := T) _ _ _ _ ?_))
 have h2 := early_any (P := P) (md := .any) (Q := Q) (S := S) (F := T) (N := l.toArray.size) (fuel := M.length + T.length) hsel hS E (E.filterMap (l[·]?)) (Array.replicate l.toArray.size false) a (fun j oj _ hl => by rw [getD_replicate_false] at hl; cases hl) (map_filterMap E (fun i hi => by simpa using hEs i hi)) hE
  (fun a' h' => by
   obtain ⟨vs,hvs⟩ := puts_start (ops := l.toArray) (a0 := a') M
   have h3 := posts_any (a0 := a') (S := S) (Q := NoPanic Q) (md := .any) (P := P) (T := T) hR hst hnd (fun j hj o ho vs w => h'.each j hj o (by simpa using ho) vs w) h'.last (map_filterMap T (fun i hi => by simpa using hTs i hi)) M.length _ vs w.drew hP hS (fun k hk hl => by rw [hfresh k hk] at hl; cases hl) (fun j hj k hk _ hl => by rw [hfresh j hj] at hl; cases hl)
   rw [hvs] at h3
   exact h3) h
 rw [hlen] at h2
 exact h2
end
section
open Go.RowKit
variable {P : Program} {ops : Array Oper} {md : Region.Mode} {S : World → Prop} {Q : Exit → Act → World → Prop} {a0 : Act}
def InvW (P : Program) (ops : Array Oper) (Q : Exit -> Act -> World -> Prop) (Inv : (Nat -> Bool) -> (Nat -> Value) -> World -> Prop) (L : Nat -> Bool) (vs : Nat -> Value) (j : Nat) (d : Option Tmp) (o : Oper) (a : Act) (w : World) : Prop :=
 wpList P ops (fun e a' w' => match e with | .normal => ∃ v,a' = a.put d v /\ Inv (fun k => if k = j then true else L k) (updV vs j v) w' | e => Q e a' w') [o] a w
theorem inv_any {M T : List Nat} {lt : List Oper} {Inv : (Nat -> Bool) -> (Nat -> Value) -> World -> Prop} (hIS : ∀ L vs w,Inv L vs w -> S w) (hnd : (M.map (dstN ops)).Nodup) (hM : ∀ j ∈ M,j < ops.size)
  (h1 : ∀ j ∈ M,∀ o,ops[j]? = some o -> ∀ L vs w,Inv L vs w -> L j = false -> (∀ k,Region.waitsFor md ops j k = true -> L k = true) -> InvW P ops Q Inv L vs j (dstN ops j) o (puts ops a0 vs M) w)
  (h2 : ∀ L vs w,Inv L vs w -> (∀ k ∈ M,L k = true) -> wpList P ops Q lt (puts ops a0 vs M) w) (hT : T.map (ops[·]?) = lt.map some) :
  ∀ (n : Nat) (listed : Array Bool) (vs : Nat -> Value) (w : World),listed.size = ops.size -> postsB md ops M T n listed = true -> Inv (fun k => listed.getD k false) vs w -> AnyT P md ops Q S T (n + T.length) listed (puts ops a0 vs M) w := by
 intro n
 induction n with
 | zero =>
  intro listed vs w hsz hB hI
  simp only [postsB,Bool.and_eq_true,List.all_eq_true] at hB
  rw [Nat.zero_add]
  exact free_any T lt listed _ w (fun t h => h) hT hB.2 (h2 _ vs w hI (fun k hk => hB.1 k hk))
 | succ n ih =>
  intro listed vs w hsz hB hI
  simp only [postsB,Bool.and_eq_true,List.all_eq_true,Bool.not_eq_true'] at hB
  rw [show n + 1 + T.length = (n + T.length) + 1 by omega]
  refine ⟨fun h => (by rw [h] at hB; cases hB.1),fun i hi => ?_⟩
  obtain ⟨hiM,hchk⟩ := hB.2 i hi
  have hiM : i ∈ M := by simpa using hiM
  obtain ⟨hun,oj,hoj,hall⟩ := mem_ready.1 hi
  have hw := h1 i hiM oj hoj _ vs w hI (by
   have hlt := hM i hiM
   rw [<- hsz] at hlt
   rw [Array.getD_eq_getD_getElem?,Array.getElem?_eq_getElem hlt] at hun ⊢
   simpa using hun) (fun k hwait => by
   obtain ⟨oj',hoj',e,he,hb,hon⟩ := Region.waitsFor_spec hwait
   have : oj' = oj := Option.some.inj (hoj'.symm.trans hoj)
   subst this
   rw [<- hon]
   exact hall e he hb)
  have hw' : wpOp P ops (fun e a' w' => match e with | .normal => ∃ v,a' = (puts ops a0 vs M).put (dstN ops i) v /\ Inv (fun k => if k = i then true else listed.getD k false) (updV vs i v) w' | e => Q e a' w') i (wpList P ops (fun e a' w' => match e with | .normal => ∃ v,a' = (puts ops a0 vs M).put (dstN ops i) v /\ Inv (fun k => if k = i then true else listed.getD k false) (updV vs i v) w' | e => Q e a' w') []) (puts ops a0 vs M) w := by unfold wpOp; simp only [hoj]; exact hw
  refine wpOp_mono (fun a' w' h' => ?_) (wpOp_monoQ (Q' := Q) (fun e a w he h => ?_) hw')
  ·obtain ⟨v,rfl,hI'⟩ := h'
   refine ⟨.inr (hIS _ _ _ hI'),?_⟩
   rw [puts_upd hiM hnd]
   refine ih _ _ w' (by simpa using hsz) hchk ?_
   have e : (fun k => (listed.setIfInBounds i true).getD k false) = (fun k => if k = i then true else listed.getD k false) := by
    funext k
    by_cases hk : k = i
    ·subst hk
     have hlt := hM k hiM
     rw [if_pos rfl]
     simp [Array.getD,hsz,hlt]
    ·rw [if_neg hk]
     exact getD_set_ne false (Ne.symm hk)
   rw [e]
   exact hI'
  ·cases e <;> first | exact absurd rfl he | exact h
end
section
open Go.RowKit
structure InvAt (P : Program) (l : List Oper) (Inv : (Nat -> Bool) -> (Nat -> Value) -> World -> Prop) (M T : List Nat) (Q : Exit -> Act -> World -> Prop) (a0 : Act) : Prop where
 each : ∀ j ∈ M,∀ o,l[j]? = some o -> ∀ L vs w,Inv L vs w -> L j = false -> (∀ k,Region.waitsFor .any l.toArray j k = true -> L k = true) -> InvW P l.toArray (NoPanic Q) Inv L vs j (dstN l.toArray j) o (puts l.toArray a0 vs M) w
 last : ∀ L vs w,Inv L vs w -> (∀ k ∈ M,L k = true) -> wpList P l.toArray (NoPanic Q) (T.filterMap (l[·]?)) (puts l.toArray a0 vs M) w
theorem wp_region_inv {P : Program} {id : Nat} {Q : Exit -> Act -> World -> Prop} {a : Act} {w : World} {l : List Oper} (S : World -> Prop) (Inv : (Nat -> Bool) -> (Nat -> Value) -> World -> Prop) (E M T : List Nat) (hm : P.follows .mixedOrders = true) (hB : postsAllB l.toArray E M T = true) (hS : S w.drew) (hIS : ∀ L vs w,Inv L vs w -> S w) (hI0 : ∀ L vs w,S w -> (∀ k ∈ M,L k = false) -> Inv L vs w)
  (h : EarlyW P l.toArray S (InvAt P l Inv M T Q) (E.filterMap (l[·]?)) a) : (Code.region id l.toArray true).wp P Q a w := by
 simp only [postsAllB,Bool.and_eq_true,decide_eq_true_eq,Bool.not_eq_true',List.all_eq_true] at hB
 obtain ⟨⟨⟨⟨⟨⟨⟨⟨hsel,hE⟩,hP⟩,hlen⟩,hEs⟩,hMs⟩,hTs⟩,hnd⟩,hfresh⟩ := hB
 refine wp_region_noPanic (wp_region_any hm (AnyT.any (S := S) (F := T) _ _ _ _ ?_))
 have h2 := early_any (P := P) (md := .any) (Q := Q) (S := S) (F := T) (N := l.toArray.size) (fuel := M.length + T.length) hsel hS E (E.filterMap (l[·]?)) (Array.replicate l.toArray.size false) a (fun j oj _ hl => by rw [getD_replicate_false] at hl; cases hl) (map_filterMap E (fun i hi => by simpa using hEs i hi)) hE
  (fun a' h' => by
   obtain ⟨vs,hvs⟩ := puts_start (ops := l.toArray) (a0 := a') M
   have hla : ∀ (E : List Nat) (b : Array Bool),(listAll b E).size = b.size := by
    intro E
    induction E with
    | nil => intro b; rfl
    | cons e E ih => intro b; show (listAll (b.setIfInBounds e true) E).size = _; rw [ih]; simp
   have h3 := inv_any (a0 := a') (S := S) (Q := NoPanic Q) (md := .any) (P := P) (T := T) (Inv := Inv) hIS hnd (fun j hj => by simpa using hMs j hj) (fun j hj o ho L vs w => h'.each j hj o (by simpa using ho) L vs w) h'.last (map_filterMap T (fun i hi => by simpa using hTs i hi)) M.length _ vs w.drew (by rw [hla]; simp) hP (hI0 _ _ _ hS (fun k hk => hfresh k hk))
   rw [hvs] at h3
   exact h3) h
 rw [hlen] at h2
 exact h2
end
end Go.Proofs.YtkmaeipoaoikpaaGreat
