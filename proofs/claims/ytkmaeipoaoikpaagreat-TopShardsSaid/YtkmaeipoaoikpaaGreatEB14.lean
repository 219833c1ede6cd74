/- Net6. -/
import Derived.Test.YtkmaeipoaoikpaaGreatEB13
namespace Go.Proofs.YtkmaeipoaoikpaaGreat
set_option linter.all false
set_option maxRecDepth 100000
set_option maxHeartbeats 4000000
open Lib (hid)
section
open Go.RowKit
theorem set2 {w : World} {g : Nat} {t : TypeId} {a0 a1 : Value} (h : Blk w g t #[a0,a1]) (u v : Value) :
  w.grownBy ((w.setCell ⟨g,0,none⟩ u).setCell ⟨g,1,none⟩ v) (some g) /\ Blk ((w.setCell ⟨g,0,none⟩ u).setCell ⟨g,1,none⟩ v) g t #[u,v] :=
 ⟨gr_set (p := ⟨g,1,none⟩) (gr_set (p := ⟨g,0,none⟩) (World.grownBy.refl w _) (.inl rfl) u) (.inl rfl) v,by
  have h1 : Blk (w.setCell ⟨g,0,none⟩ u) g t #[u,a1] := by simpa using h.set_ 0 u
  simpa using h1.set_ 1 v⟩
def PairAt (w0 w : World) (v : Value) (p : Int × Int -> Prop) : Prop := ∃ a x y,v = .pointer (some ⟨a,0,none⟩) /\ w0.heap.size <= a /\ Blk w a 218 #[.int .i64 x,.int .i64 y] /\ p (x,y)
theorem PairAt.below {w0 w w' : World} {v : Value} {p : Int × Int -> Prop} (h : PairAt w0 w v p) (hb : Below w.heap.size w w') : PairAt w0 w' v p := by
 obtain ⟨a,x,y,e,h1,h2,h3⟩ := h
 exact ⟨a,x,y,e,h1,h2.kept hb,h3⟩
theorem PairAt.lt {w0 w : World} {v : Value} {p : Int × Int -> Prop} (h : PairAt w0 w v p) {g : Nat} (hg : v = .pointer (some ⟨g,0,none⟩)) : g < w.heap.size := by
 obtain ⟨a,x,y,rfl,h1,h2,h3⟩ := h
 injection hg with hg
 injection hg with hg
 injection hg with hg
 subst hg
 exact h2.lt
def BoxV (w0 : World) (x y : Int × Int) (j : Nat) (v : Value) (w : World) : Prop :=
 (j = 5 -> v = .agg #[.int .i64 x.1,.int .i64 x.2]) /\ (j = 11 -> v = .agg #[.int .i64 y.1,.int .i64 y.2]) /\ (j = 12 \/ j = 13 -> PairAt w0 w v (fun _ => True))
def BoxR (j : Nat) (v : Value) (k : Nat) (v' : Value) : Prop := (j = 12 \/ j = 13) -> (k = 12 \/ k = 13) -> v ≠ v'
theorem BoxV.below {w0 : World} {x y : Int × Int} (j : Nat) (v : Value) (w w' : World) (h : BoxV w0 x y j v w) (hb : Below w.heap.size w w') : BoxV w0 x y j v w' := ⟨h.1,h.2.1,fun e => (h.2.2 e).below hb⟩
theorem BoxV.five {w0 w : World} {x1 x2 y1 y2 : Int} : BoxV w0 (x1,x2) (y1,y2) 5 (.agg #[.int .i64 x1,.int .i64 x2]) w := ⟨fun _ => rfl,fun e => (by cases e),fun e => by omega⟩
theorem BoxV.eleven {w0 w : World} {x1 x2 y1 y2 : Int} : BoxV w0 (x1,x2) (y1,y2) 11 (.agg #[.int .i64 y1,.int .i64 y2]) w := ⟨fun e => (by cases e),fun _ => rfl,fun e => by omega⟩
theorem BoxV.box {w0 W : World} {x y : Int × Int} {j : Nat} (hj : j = 12 \/ j = 13) (hk : Kept w0 W) : BoxV w0 x y j (.pointer (some ⟨W.heap.size,0,none⟩)) (W.alloc (.cells #[.int .i64 0,.int .i64 0] 218)) :=
 ⟨fun e => by omega,fun e => by omega,fun _ => ⟨W.heap.size,0,0,rfl,hk.2.1,Blk.new _ _ _,trivial⟩⟩
theorem BoxR.call {j k : Nat} {v v' : Value} (hj : ¬ (j = 12 \/ j = 13)) : BoxR j v k v' := fun h => absurd h hj
theorem BoxR.box {w0 W : World} {x y : Int × Int} {j k : Nat} {v' : Value} (h : BoxV w0 x y k v' W) : BoxR j (.pointer (some ⟨W.heap.size,0,none⟩)) k v' := fun _ hk e => absurd ((h.2.2 hk).lt e.symm) (Nat.lt_irrefl _)
theorem BoxR.symm (j : Nat) (v : Value) (k : Nat) (v' : Value) (h : BoxR j v k v') : BoxR k v' j v := fun h1 h2 e => h h2 h1 e.symm
def GradRet (l : List Int) (n NP : Nat) (P : List Int) (q : Int) (x y : List Int) (w : World) (e : Ending) (w' : World) : Prop :=
 ∃ A c,e = .returned (.tuple #[.slice A NP c,.bool true]) /\ w'.ownsRow w.heap.size 2 1 (.slice A NP c) NP (iv (gradN l n P q x y)) /\ Below w.heap.size w w'
theorem netGrad_any (nb : Nat) (l : List Int) (n NP : Nat) (P : List Int) (q : Int) (x y : List Int) (X Y : Option Addr) (N c R0 d : Nat) (w : World) (hN : NetP l n NP P q) (hA : NetAt w nb l n NP P q) (hxl : x.length = N) (hx : Rd w 1 X N (iv x)) (hxN : N = szN l 0) (hxi : AllIn x)
  (hyl : y.length = R0) (hy : Rd w 1 Y R0 (iv y)) (hR : szN l (n - 1) = R0) :
  Calls Tryz.prog 85 #[.pointer (some ⟨nb,0,none⟩),.slice X N c,.slice Y R0 d] w (GradRet l n NP P q x y w) := by
 have HC1 := hid (netMiss_any nb l n NP P q x y X Y N c R0 d w hN hA hxl hx hxN hxi hyl hy hR)
 obtain ⟨base,bs,Ap,cp,Al,cl,ls,lb0,hA⟩ := hA
 have hcnt : cntS l (n - 1) = (NP : Int) := by rw [hN.cnt_eq _ (by have := hN.n2; omega),hN.cnt]
 have hn2 := hN.n2
 have hn16 := hN.n16
 have hNP := hN.np
 have hpl := hN.pl
 obtain ⟨m1,hm1⟩ : ∃ m1,n = m1 + 2 := ⟨n - 2,by omega⟩
 obtain ⟨m,hm⟩ : ∃ m,m1 + 1 = m := ⟨_,rfl⟩
 have hnm : n - 1 = m := by omega
 have HC2 := hid (fun W (s : ShapeAt W base bs l n) => by
  have := shapeCount_any base bs n l W s
  rw [hcnt] at this
  exact this)
 have HC4 := hid (fun W (s : ShapeAt W base bs l n) => by
  have := shapeLinks_any base bs n l W s
  rw [hnm] at this
  exact this)
 have HN := hid hN
 have HA := hid hA
 have HM1 := hid hm1
 have HM := hid hm
 have HNM := hid hnm
 have HXI := hid hxi
 have HX0 : Hid (x.length = szN l 0) := hid (by rw [hxl,hxN])
 clear hN hA hcnt hxl hx hxN hxi hyl hy hR hm1 hm hnm hn2
 go_enter Tryz.func85,Tryz.ntmps85
 go_wp2_with fail
 go_step3
 go_wp2_with fail
 ((with_reducible refine HC1.out.mono ?_); rintro e w1 ⟨A,cA,ss,D,dc,rfl,hr1,hsl,hok,hD,hb1,hne⟩)
 have hA1 := HA.out.below hb1
 have b0 : w1.cell? ⟨nb,0,none⟩ = some (.pointer (some ⟨bs,0,none⟩)) := hA1.blk.cell 0
 have lb := hA1.blk.lt
 have HA1 := hid hA1
 have HR1 := hid hr1
 have HSL := hid hsl
 have HOK1 := hid hok
 have HD1 := hid hD
 have HB1 := hid hb1
 rw [HNM.out] at HD1 ⊢
 clear hA1 hr1 hsl hok hD hb1 hne HC1
 go_wp2_with fail
 ((with_reducible refine (HC2.out _ HA1.out.shp).mono ?_); rintro e w2 ⟨rfl,rfl⟩)
 have hmk := fun W => run_make_row' (P := Tryz.prog) 74 2 (.int .i64 0) 8 Tryz.underlying74 slVec.info rfl .i64 .i64 NP (by omega) (by omega) W
 go_wp2_with fail
 clear hmk b0 lb
 obtain ⟨w3,hw3⟩ : ∃ w3,w1.alloc (.cells (madeCells #[Value.int .i64 0] NP) 2) = w3 := ⟨_,rfl⟩
 obtain ⟨go,hgo⟩ : ∃ go,w1.heap.size = go := ⟨_,rfl⟩
 have hb3 : Below w1.heap.size w1 w3 := by rw [<- hw3]; exact (Below.refl _ _).alloc (Nat.le_refl _) _
 have ho3 : w3.ownsRow w.heap.size 2 1 (.slice (some ⟨go,0,none⟩) NP NP) NP (iv (zeros NP)) := by rw [<- hw3]; exact own_made w1 NP go _ _ hgo (by rw [<- hgo]; exact HB1.out.size) (by omega)
 rw [hw3,hgo]
 have HGO := hid hgo
 have HO3 := hid ho3
 have HA3 := hid (HA1.out.below hb3)
 have HR3 := hid (own_below HR1.out hb3)
 have HOK3 := hid (HOK1.out.below hb3)
 have HD3 := hid (own_below HD1.out hb3)
 have HB3 := hid (HB1.out.trans (hb3.mono HB1.out.size))
 have HGW : Hid (w.heap.size <= go) := hid (by rw [<- hgo]; exact HB1.out.size)
 have HTG : Hid (∀ (j : Nat) (s : Sl3'),ss[j]? = some s -> ∀ g,(slv s).ownBlock = some g -> g ≠ go) := hid (by
  intro j s hs g hg
  have := ((HOK1.out j s hs).2.lt g hg).2
  omega)
 have HRG : Hid (∀ g,(Value.slice A n cA).ownBlock = some g -> g ≠ go) := hid (by
  intro g hg
  have := (HR1.out.lt g hg).2
  omega)
 have HDG : Hid (∀ g,(Value.slice D (szN l m) dc).ownBlock = some g -> g ≠ go) := hid (by
  intro g hg
  have := (HD1.out.lt g hg).2
  omega)
 clear hw3 hgo hb3 ho3 HA1 HR1 HOK1 HD1 HB1
 have b0 : w3.cell? ⟨nb,0,none⟩ = some (.pointer (some ⟨bs,0,none⟩)) := HA3.out.blk.cell 0
 have lb := HA3.out.blk.lt
 go_wp2_with fail
 go_step3
 go_wp2_with fail
 ((with_reducible refine (HC4.out _ HA3.out.shp).mono ?_); rintro e w4 ⟨rfl,rfl⟩)
 have hwm : IntKind.i64.wrap ((m : Int) - 1) = (m1 : Int) := by rw [show (m : Int) - 1 = (m1 : Int) by have := HM.out; omega]; exact IntWalk.i64_in _ (by have := HM1.out; omega)
 go_wp2_with fail
 clear b0 lb hwm
 go_loopw [9,12] (fun dv v wr => ∃ (j k : Nat) (D : Option Addr) (dc : Nat),j + k = m1 /\ dv = .slice D (szN l (k + 1)) dc /\ v = .int .i64 k /\ wr.ownsRow w.heap.size 2 1 (.slice D (szN l (k + 1)) dc) (szN l (k + 1)) (iv (dlN l n P q x y j)) /\ (∀ g,(Value.slice D (szN l (k + 1)) dc).ownBlock = some g -> g ≠ go) /\ wr.ownsRow w.heap.size 2 1 (.slice (some ⟨go,0,none⟩) NP NP) NP (iv (zeros (ofN l (k + 1)) ++ grT l n P q x y j)) /\ But (fun b => b = go) w3 wr) (fun _ v _ => (intOf v).toNat)
 case atStart =>
  have e : m1 + 1 = m := HM.out
  refine ⟨0,m1,D,dc,by omega,by rw [e],rfl,by rw [e]; exact HD3.out,by rw [e]; exact HDG.out,?_,But.refl _ _⟩
  rw [e,show ofN l m = NP by rw [<- HNM.out]; exact HN.out.cnt,grT,List.append_nil]
  exact HO3.out
 case round =>
  obtain ⟨j,k,D,dc,hjk,rfl,rfl,hd,hdn,ho,hbut⟩ := hrel
  have hbel : Below w.heap.size w wr := HB3.out.trans (hbut.below HB3.out.size (fun i hi => by rw [hi]; exact HGW.out))
  have hTr : TrOk wr w.heap.size l (trN l n P q x) ss := fun i s hs => ⟨(HOK3.out i s hs).1,own_but (HOK3.out i s hs).2 hbut (fun g hg => HTG.out i s hs g hg)⟩
  have hRr := own_but HR3.out hbut (fun g hg => HRG.out g hg)
  have hA := HA.out.below hbel
  have hmn := HNM.out
  have hmm := HM.out
  have hkn : k < n - 1 := by omega
  have hjn : n - 2 - j = k := by omega
  have hjn1 : n - 1 - j = k + 1 := by omega
  have hRR := HN.out.sz (show k + 1 < n by omega)
  have hCC := HN.out.sz (show k < n by omega)
  have hfit := HN.out.fit hkn
  have hob : (ofN l k : Int) + (szN l (k + 1) : Int) * (szN l k : Int) = (obN l k : Int) := by unfold obN; simp
  have HC5 : Hid (∀ W,ShapeAt W base bs l n -> Calls Tryz.prog 143 #[.pointer (some ⟨bs,0,none⟩),.int .i64 k] W fun e w' => e = .returned (.agg #[.int .i64 (ofN l k),.int .i64 (obN l k)]) /\ Below W.heap.size W w') := hid (fun W s => by
   have := shapeWeights_any base bs n k l W s hkn
   rw [HN.out.cnt_eq k (by omega),HN.out.getD (show k < n by omega),HN.out.getD (show k + 1 < n by omega),hob] at this
   exact this)
  have HC6 : Hid (∀ W,ShapeAt W base bs l n -> Calls Tryz.prog 144 #[.pointer (some ⟨bs,0,none⟩),.int .i64 k] W fun e w' => e = .returned (.agg #[.int .i64 (obN l k),.int .i64 (ofN l (k + 1))]) /\ Below W.heap.size W w') := hid (fun W s => by
   have := shapeBiases_any base bs n k l W s hkn
   rw [HN.out.cnt_eq k (by omega),HN.out.cnt_eq (k + 1) (by omega),HN.out.getD (show k < n by omega),HN.out.getD (show k + 1 < n by omega),hob] at this
   exact this)
  have hof : obN l k = ofN l k + szN l (k + 1) * szN l k := rfl
  have hof2 : ofN l (k + 1) = obN l k + szN l (k + 1) := rfl
  have hmono : ofN l (k + 1) <= NP := by rw [hof2]; exact hfit
  have HSG : Hid (sgN l n P q x y j = outN (dlN l n P q x y j) (trN l n P q x k) q ++ dlN l n P q x y j) := hid (by unfold sgN; rw [hjn])
  have HDL : Hid ((dlN l n P q x y j).length = szN l (k + 1)) := hid (by rw [dlN_length HX0.out j (by omega),hjn1])
  have HTL : Hid ((trN l n P q x k).length = szN l k) := hid (trN_length HX0.out k)
  have HGL : Hid ((grT l n P q x y j).length = NP - ofN l (k + 1)) := hid (by rw [grT_length HN.out HX0.out j (by omega),hjn1])
  obtain ⟨R,hRe⟩ : ∃ R,szN l (k + 1) = R := ⟨_,rfl⟩
  obtain ⟨C,hCe⟩ : ∃ C,szN l k = C := ⟨_,rfl⟩
  obtain ⟨M,hMe⟩ : ∃ M,R * C = M := ⟨_,rfl⟩
  obtain ⟨o,hoe⟩ : ∃ o,ofN l k = o := ⟨_,rfl⟩
  obtain ⟨ob,hobe⟩ : ∃ ob,obN l k = ob := ⟨_,rfl⟩
  obtain ⟨o2,ho2e⟩ : ∃ o2,ofN l (k + 1) = o2 := ⟨_,rfl⟩
  rw [hRe,hCe,hMe,hoe,hobe] at hof
  rw [hRe,ho2e,hobe] at hof2
  rw [ho2e] at hmono ho HGL
  rw [hRe] at hd hdn hRR HDL ⊢
  rw [hCe] at hCC HTL
  rw [hoe,hobe] at HC5
  rw [hobe,ho2e] at HC6
  have hM1 : 1 <= M := by rw [<- hMe]; exact Nat.mul_pos hRR.2.1 hCC.2.1
  have HRE := hid hRe
  have HCE := hid hCe
  have HME := hid hMe
  have HOE := hid hoe
  have HOF := hid hof
  have HOF2 := hid hof2
  have b0 : wr.cell? ⟨nb,0,none⟩ = some (.pointer (some ⟨bs,0,none⟩)) := hA.blk.cell 0
  have lb := hA.blk.lt
  clear hRe hCe hMe hoe hobe ho2e hfit hob hof hof2
  have HTR := hid hTr
  have HRR := hid hRr
  have HAR := hid hA
  have HDR := hid hd
  have HDN := hid hdn
  have HOR := hid ho
  have HBR := hid hbut
  have HBL := hid hbel
  have HJ := hid hjk
  clear hTr hRr hA hd hdn ho hbut hbel
  go_wp2_with fail
  refine wp_region_posts (Kept wr) (BoxV wr ((o : Int),(ob : Int)) ((ob : Int),(o2 : Int))) BoxR [0,1,2,3,4,6,7,8,9,10] [5,11,12,13] [14,15] (by kernel_rfl) (by kernel_rfl) (Kept.start wr) BoxR.symm BoxV.below ?_
  simp only [List.filterMap_cons,List.filterMap_nil,List.getElem?_cons_succ,List.getElem?_cons_zero]
  refine early_step (.pointer (some ⟨nb,0,none⟩)) rfl (fun W hW => ?_) ?_
  ·obtain ⟨hc,-,-⟩ := hW
   go_simp
  go_simp
  refine early_step (.pointer (some ⟨nb,0,none⟩)) rfl (fun W hW => ?_) ?_
  ·obtain ⟨hc,-,-⟩ := hW
   go_simp
  go_simp
  refine early_step (.pointer (some ⟨nb,0,none⟩)) rfl (fun W hW => ?_) ?_
  ·obtain ⟨hc,-,-⟩ := hW
   go_simp
  go_simp
  refine early_step (.pointer (some ⟨bs,0,none⟩)) rfl (fun W hW => ?_) ?_
  ·obtain ⟨hc,-,-⟩ := hW
   go_simp
  go_simp
  refine early_step (.int .i64 k) rfl (fun W hW => ?_) ?_
  ·obtain ⟨hc,-,-⟩ := hW
   go_simp
  go_simp
  refine early_step (.pointer (some ⟨nb,0,none⟩)) rfl (fun W hW => ?_) ?_
  ·obtain ⟨hc,-,-⟩ := hW
   go_simp
  go_simp
  refine early_step (.pointer (some ⟨nb,0,none⟩)) rfl (fun W hW => ?_) ?_
  ·obtain ⟨hc,-,-⟩ := hW
   go_simp
  go_simp
  refine early_step (.pointer (some ⟨nb,0,none⟩)) rfl (fun W hW => ?_) ?_
  ·obtain ⟨hc,-,-⟩ := hW
   go_simp
  go_simp
  refine early_step (.pointer (some ⟨bs,0,none⟩)) rfl (fun W hW => ?_) ?_
  ·obtain ⟨hc,-,-⟩ := hW
   go_simp
  go_simp
  refine early_step (.int .i64 k) rfl (fun W hW => ?_) ?_
  ·obtain ⟨hc,-,-⟩ := hW
   go_simp
  go_simp
  refine PostsAt.mk ?_ ?_
  ·intro j8 hj8 o ho8 vs W hS hV
   simp only [List.mem_cons,List.not_mem_nil,or_false] at hj8
   have HS := hid hS
   clear hS
   rcases hj8 with rfl | rfl | rfl | rfl
   ·cases ho8
    unfold PostW
    simp only [puts,dstN,List.getElem?_toArray,List.getElem?_cons_succ,List.getElem?_cons_zero,Option.bind_some]
    change wpList _ _ _ (_ :: []) _ _
    go_wp2_with fail
    ((with_reducible refine (HC5.out W (HAR.out.shp.below HS.out.2.2)).mono ?_); rintro e w8 ⟨rfl,hb8⟩)
    go_wp2_with fail
    exact ⟨HS.out.call hb8,BoxV.five,fun _ _ _ _ => BoxR.call (by decide)⟩
   ·cases ho8
    unfold PostW
    simp only [puts,dstN,List.getElem?_toArray,List.getElem?_cons_succ,List.getElem?_cons_zero,Option.bind_some]
    change wpList _ _ _ (_ :: []) _ _
    go_wp2_with fail
    ((with_reducible refine (HC6.out W (HAR.out.shp.below HS.out.2.2)).mono ?_); rintro e w8 ⟨rfl,hb8⟩)
    go_wp2_with fail
    exact ⟨HS.out.call hb8,BoxV.eleven,fun _ _ _ _ => BoxR.call (by decide)⟩
   all_goals cases ho8
   all_goals unfold PostW
   all_goals simp only [puts,dstN,List.getElem?_toArray,List.getElem?_cons_succ,List.getElem?_cons_zero,Option.bind_some]
   all_goals change wpList _ _ _ (_ :: []) _ _
   all_goals go_wp2_with fail
   all_goals exact ⟨HS.out.alloc _,BoxV.box (by decide) HS.out,(Below.refl _ _).alloc (Nat.le_refl _) _,fun _ _ _ h => BoxR.box h⟩
  ·intro vs W hS hV hR
   have h5 := (hV 5 (by simp)).1 rfl
   have h11 := (hV 11 (by simp)).2.1 rfl
   obtain ⟨ga,a1,a2,e12,hga,hba,-⟩ := (hV 12 (by simp)).2.2 (.inl rfl)
   obtain ⟨gb,b1,b2,e13,hgb,hbb,-⟩ := (hV 13 (by simp)).2.2 (.inr rfl)
   have hne : ga ≠ gb := by
    have h := hR 12 (by simp) 13 (by simp) (by decide) (.inl rfl) (.inr rfl)
    rw [e12,e13] at h
    exact fun e => h (by rw [e])
   simp only [puts,dstN,List.filterMap_cons,List.filterMap_nil,List.getElem?_toArray,List.getElem?_cons_succ,List.getElem?_cons_zero,Option.bind_some]
   rw [h5,h11,e12,e13]
   have HS := hid hS.2.2
   have HBA := hid hba
   have HBB := hid hbb
   have HGA := hid hga
   have HGB := hid hgb
   have hne' := hne.symm
   have k0 := hba.frozen 0
   have k1 := hba.frozen 1
   have k2 := hbb.frozen 0
   have k3 := hbb.frozen 1
   have c0 := hba.cell 0
   have c1 := hba.cell 1
   have c2 := hbb.cell 0
   have c3 := hbb.cell 1
   have l0 := hba.lt
   have l1 := hbb.lt
   clear hS hV hR h5 h11 e12 e13 hga hgb hba hbb b0 lb
   change wpList _ _ _ (_ :: _ :: []) _ _
   go_wp2_with fail
   refine NoPanic.normal ?_
   obtain ⟨hg1,hb1'⟩ := set2 HBA.out (.int .i64 o) (.int .i64 ob)
   have hbb1 := HBB.out.grown hg1 (by intro e; injection e with e; exact hne e.symm)
   obtain ⟨hg2,hb2'⟩ := set2 hbb1 (.int .i64 ob) (.int .i64 o2)
   have hba2 := hb1'.grown hg2 (by intro e; injection e with e; exact hne e)
   have hbe := below_gr (below_gr HS.out HS.out.size hg1 HGA.out) (Nat.le_trans HS.out.size hg1.size) hg2 HGB.out
   obtain ⟨w7,hw7⟩ : ∃ w7,(((W.setCell ⟨ga,0,none⟩ (.int .i64 o)).setCell ⟨ga,1,none⟩ (.int .i64 ob)).setCell ⟨gb,0,none⟩ (.int .i64 ob)).setCell ⟨gb,1,none⟩ (.int .i64 o2) = w7 := ⟨_,rfl⟩
   rw [hw7] at hb2' hba2 hbe ⊢
   have HA7 := hid (HAR.out.below hbe)
   have HTR7 := hid (HTR.out.below hbe)
   have HRR7 := hid (own_below HRR.out hbe)
   have HD7 := hid (own_below HDR.out hbe)
   have HO7 := hid (own_below HOR.out hbe)
   have HBU7 := hid (HBR.out.call hbe)
   have HPA := hid hba2
   have HPB := hid hb2'
   have HB7 := hid (HBL.out.trans (hbe.mono HBL.out.size))
   clear hw7 hb1' hbb1 hb2' hba2 hbe hg1 hg2 k0 k1 k2 k3 c0 c1 c2 c3 l0 l1 hne hne' HS HBA HBB HGA HGB HAR HTR HRR HDR HOR HBR HBL vs
   go_wp2_with fail
   obtain ⟨⟨Ak,nk,ck⟩,hsk⟩ : ∃ s,ss[k]? = some s := ⟨_,List.getElem?_eq_getElem (by have := HSL.out; omega)⟩
   obtain ⟨hnk,hok⟩ := HTR7.out k _ hsk
   dsimp only at hnk
   rw [HCE.out] at hnk hok
   subst hnk
   obtain ⟨gr,hgr,lgr,hcr⟩ := vecs_cell HRR7.out hsk (by omega)
   subst hgr
   have hcr' : w7.cell? ⟨gr,k,none⟩ = some (.slice Ak nk ck) := hcr
   have HTK := hid hok
   have HSK := hid hsk
   have p0 := HPA.out.cell 0
   have p1 := HPA.out.cell 1
   have lp := HPA.out.lt
   have n2 : w7.cell? ⟨nb,2,none⟩ = some (.int .i64 q) := HA7.out.blk.cell 2
   have ln := HA7.out.blk.lt
   have i1 : (0 : Int) <= (k : Int) := by omega
   have i2 : (k : Int) < (n : Int) := by omega
   obtain ⟨Aw,hAw⟩ : ∃ Aw,pcA_RedMove (some ⟨go,0,none⟩) NP o = Aw := ⟨_,rfl⟩
   have hsl := fun W => run_piece (P := Tryz.prog) (T := 74) (A := some ⟨go,0,none⟩) (n := NP) (c := NP) (e := o) (e2 := ob) (k := M) (c1 := NP - o) (P1 := Aw) Tryz.underlying74 (fun W => rfl) (by have := HOF.out; omega) (by have := HOF.out; have := HOF2.out; omega) (by have := HOF.out; omega) rfl hAw W
   have HAW := hid hAw
   have HOU := hid (fun W (kk : Kept w7 W) => outer_good R nk M D Ak dc ck (dlN l n P q x y j) (trN l n P q x k) q W ⟨hRR.2.1,hRR.2.2⟩ ⟨hCC.2.1,hCC.2.2⟩ HME.out ⟨hM1,by have := HOF.out; have := HOF2.out; omega⟩ HDL.out HTL.out (Rd.of_own (own_below HD7.out kk.2.2)) (Rd.of_own (own_below HTK.out kk.2.2)) (dlN_in HXI.out j) (trN_in HXI.out k))
   clear hok hsk hcr hAw
   refine wp_region_early (Kept w7) [0,1,2,3,4,5,6,7,8,9,10,11,12,13,14] [15,16] [17] (by kernel_rfl) (by kernel_rfl) (Kept.start w7) ?_
   simp only [List.filterMap_cons,List.filterMap_nil,List.getElem?_cons_succ,List.getElem?_cons_zero]
   refine early_step (.slice (some ⟨go,0,none⟩) NP NP) rfl (fun W hW => ?_) ?_
   ·obtain ⟨hc,-,-⟩ := hW
    go_simp
   go_simp
   refine early_step (.pointer (some ⟨ga,0,none⟩)) rfl (fun W hW => ?_) ?_
   ·obtain ⟨hc,-,-⟩ := hW
    go_simp
   go_simp
   refine early_step (.int .i64 o) rfl (fun W hW => ?_) ?_
   ·obtain ⟨hc,-,-⟩ := hW
    go_simp
   go_simp
   refine early_step (.pointer (some ⟨ga,1,none⟩)) rfl (fun W hW => ?_) ?_
   ·obtain ⟨hc,-,-⟩ := hW
    go_simp
   go_simp
   refine early_step (.int .i64 ob) rfl (fun W hW => ?_) ?_
   ·obtain ⟨hc,-,-⟩ := hW
    go_simp
   go_simp
   refine early_step (.slice Aw M (NP - o)) rfl (fun W hW => ?_) ?_
   ·obtain ⟨hc,-,-⟩ := hW
    go_simp
   go_simp
   refine early_step (.slice D R dc) rfl (fun W hW => ?_) ?_
   ·obtain ⟨hc,-,-⟩ := hW
    go_simp
   go_simp
   refine early_step (.slice (some ⟨gr,0,none⟩) n cA) rfl (fun W hW => ?_) ?_
   ·obtain ⟨hc,-,-⟩ := hW
    go_simp
   go_simp
   refine early_step (.int .i64 k) rfl (fun W hW => ?_) ?_
   ·obtain ⟨hc,-,-⟩ := hW
    go_simp
   go_simp
   refine early_step (.pointer (some ⟨gr,k,none⟩)) rfl (fun W hW => ?_) ?_
   ·obtain ⟨hc,-,-⟩ := hW
    go_simp
   go_simp
   refine early_step (.slice Ak nk ck) rfl (fun W hW => ?_) ?_
   ·obtain ⟨hc,-,-⟩ := hW
    go_simp
   go_simp
   refine early_step (.pointer (some ⟨nb,0,none⟩)) rfl (fun W hW => ?_) ?_
   ·obtain ⟨hc,-,-⟩ := hW
    go_simp
   go_simp
   refine early_step (.pointer (some ⟨nb,0,none⟩)) rfl (fun W hW => ?_) ?_
   ·obtain ⟨hc,-,-⟩ := hW
    go_simp
   go_simp
   refine early_step (.pointer (some ⟨nb,2,none⟩)) rfl (fun W hW => ?_) ?_
   ·obtain ⟨hc,-,-⟩ := hW
    go_simp
   go_simp
   refine early_step (.int .i64 q) rfl (fun W hW => ?_) ?_
   ·obtain ⟨hc,-,-⟩ := hW
    go_simp
   go_simp
   change RestW _ _ _ _ _ (_ :: _ :: []) _ _
   unfold RestW
   go_wp2_with fail
   ((with_reducible refine (HOU.out _ (Kept.start w7)).mono ?_); rintro e w8 ⟨Ao,co,rfl,hoo,hb8⟩)
   have kk := (Kept.start w7).call hb8
   have HOO := hid hoo
   have HKK := hid kk
   clear hoo hb8 kk p0 p1 lp n2 ln hcr' lgr hsl
   go_wp2_with fail
   refine ⟨HKK.out,?_⟩
   unfold RestW
   change wpList _ _ _ (_ :: []) _ _
   have hfd : (Instr.field 271 (.agg #[.int .i64 R,.int .i64 nk,.slice Ao M co]) 2).run Tryz.prog w8 = .ok (.slice Ao M co) w8 := rfl
   go_wp2_with fail
   refine ⟨HKK.out,?_⟩
   unfold RestW
   change wpList _ _ _ (_ :: []) _ _
   have HO8 := hid (own_below HO7.out HKK.out.2.2)
   have HD8 := hid (own_below HD7.out HKK.out.2.2)
   have HPB8 := hid (HPB.out.kept HKK.out.2.2)
   have HZL : Hid ((zeros o2 ++ grT l n P q x y j).length = NP) := hid (by rw [List.length_append,HGL.out,List.length_replicate]; omega)
   have HOL : Hid ((outN (dlN l n P q x y j) (trN l n P q x k) q).length = M) := hid (by rw [outN_length,HDL.out,HTL.out,HME.out])
   have HFE : Hid (o + M <= NP) := hid (by have := HOF.out; have := HOF2.out; omega)
   have HOR8 := hid (Rd.of_own HOO.out)
   clear hfd
   go_wp2_with (refine wpList_copy_piece rfl (.tmp 58) (.tmp 69) _ _ rfl Tryz.underlying74 (by kernel_rfl) (some ⟨go,0,none⟩) NP NP o M (NP - o) (zeros o2 ++ grT l n P q x y j) Ao co (outN (dlN l n P q x y j) (trN l n P q x k) q) w.heap.size Aw HAW.out rfl rfl HO8.out HZL.out HFE.out HOL.out HOR8.out ?_; intro w9 hown9 hg9)
   refine NoPanic.normal ?_
   have hlay1 := gr_lay1 (Z := zeros o2) (G := grT l n P q x y j) (o := outN (dlN l n P q x y j) (trN l n P q x k) q) (a := o) (b := o2) rfl (by rw [HOL.out]; have := HOF.out; have := HOF2.out; omega)
   rw [HOL.out,show o2 - o - M = R by have := HOF.out; have := HOF2.out; omega] at hlay1
   rw [hlay1] at hown9
   have HBU9 := hid ((HBU7.out.call HKK.out.2.2).trans (But.of_gr hg9 rfl))
   have HD9 := hid (own_but HD8.out (But.of_gr (S := fun b => b = go) hg9 rfl) (fun g hg => HDN.out g hg))
   have HPB9 := hid (HPB8.out.other HO8.out hg9 (by decide))
   have HO9 := hid hown9
   obtain ⟨Ab,hAb⟩ : ∃ Ab,pcA_RedMove (some ⟨go,0,none⟩) NP ob = Ab := ⟨_,rfl⟩
   have hsl2 := fun W => run_piece (P := Tryz.prog) (T := 74) (A := some ⟨go,0,none⟩) (n := NP) (c := NP) (e := ob) (e2 := o2) (k := R) (c1 := NP - ob) (P1 := Ab) Tryz.underlying74 (fun W => rfl) (by have := HOF2.out; omega) (by omega) (by have := HOF2.out; omega) rfl hAb W
   have HAB := hid hAb
   have p0 := HPB9.out.cell 0
   have p1 := HPB9.out.cell 1
   have lp := HPB9.out.lt
   have HZL2 : Hid ((zeros o ++ outN (dlN l n P q x y j) (trN l n P q x k) q ++ (zeros R ++ grT l n P q x y j)).length = NP) := hid (by
    simp only [List.length_append,HGL.out,HOL.out,List.length_replicate]
    have := HOF.out
    have := HOF2.out
    omega)
   have HFE2 : Hid (ob + R <= NP) := hid (by have := HOF2.out; omega)
   have HDR9 := hid (Rd.of_own HD9.out)
   clear hown9 hg9 hlay1 hAb HO8 HD8 HPB8 HPA HPB HO7 HTR7 HRR7 HD7 HB7 HOO HOR8
   go_wp2_with (refine wpList_copy_piece rfl (.tmp 76) (.tmp 77) _ _ rfl Tryz.underlying74 (by kernel_rfl) (some ⟨go,0,none⟩) NP NP ob R (NP - ob) (zeros o ++ outN (dlN l n P q x y j) (trN l n P q x k) q ++ (zeros R ++ grT l n P q x y j)) D dc (dlN l n P q x y j) w.heap.size Ab HAB.out rfl rfl HO9.out HZL2.out HFE2.out HDL.out HDR9.out ?_; intro w10 hown10 hg10)
   all_goals (
    have hlay2 := gr_lay2 (G := grT l n P q x y j) (o := outN (dlN l n P q x y j) (trN l n P q x k) q) (d := dlN l n P q x y j) (a := o)
    rw [HOL.out,HDL.out,<- HSG.out,show o + M = ob by have := HOF.out; omega] at hlay2
    rw [hlay2] at hown10
    have HO10 : Hid (w10.ownsRow w.heap.size 2 1 (.slice (some ⟨go,0,none⟩) NP NP) NP (iv (zeros o ++ grT l n P q x y (j + 1)))) := hid hown10
    have hbut := HBU9.out.trans (But.of_gr hg10 rfl)
    have hbel : Below w.heap.size w w10 := HB3.out.trans (hbut.below HB3.out.size (fun i hi => by rw [hi]; exact HGW.out))
    have HTR := hid (show TrOk w10 w.heap.size l (trN l n P q x) ss from fun i s hs => ⟨(HOK3.out i s hs).1,own_but (HOK3.out i s hs).2 hbut (fun g hg => HTG.out i s hs g hg)⟩)
    have HRR := hid (own_but HR3.out hbut (fun g hg => HRG.out g hg))
    have HAR := hid (HA.out.below hbel)
    have HD10 := hid (own_but HD9.out (But.of_gr (S := fun b => b = go) hg10 rfl) (fun g hg => HDN.out g hg))
    have HBR := hid hbut
    have HBL := hid hbel
    clear hown10 hg10 hlay2 hbut hbel p0 p1 lp hsl2 HO9 HD9 HDR9 HPB9 HBU9 HZL HZL2 HA7 HBU7)
   ·
    rename_i hz
    have hk0 : k = 0 := by simpa using hz
    rw [Exit.noGoto_ret]
    go_ret2
    refine ⟨some ⟨go,0,none⟩,NP,rfl,?_,HBL.out⟩
    have e1 : o = 0 := by rw [<- HOE.out,hk0]; rfl
    have e2 : j + 1 = n - 1 := by have := HJ.out; have := HM1.out; omega
    have h := HO10.out
    rw [e1,e2] at h
    simpa [gradN] using h
   ·
    rename_i hz _ _
    have hk0 : k ≠ 0 := by simpa using hz
    have hmn := HNM.out
    have hmm := HM.out
    have hjj := HJ.out
    obtain ⟨⟨AV,cV,Ab2,cb⟩,hsk⟩ : ∃ s,ls[k]? = some s := ⟨_,List.getElem?_eq_getElem (by rw [HAR.out.len]; omega)⟩
    obtain ⟨hwt,-,-⟩ := HAR.out.wts k _ hsk
    dsimp only at hwt
    rw [HRE.out,HCE.out,HME.out] at hwt
    obtain ⟨gw,rfl⟩ := own_some hwt (by omega)
    obtain ⟨gl,hgl,lgl,hcl⟩ := link_cells HAR.out.lrow hsk (by omega)
    subst hgl
    have hle : lkE l k (some ⟨gw,0,none⟩,cV,Ab2,cb) = [.int .i64 R,.int .i64 nk,.slice (some ⟨gw,0,none⟩) M cV,.slice Ab2 R cb] := by rw [<- HME.out,<- HRE.out,<- HCE.out]; rfl
    rw [hle] at hcl
    have l0 : w10.cell? ⟨gl,k * 4,none⟩ = some (.int .i64 R) := hcl 0 (by omega)
    have l1 : w10.cell? ⟨gl,k * 4 + 1,none⟩ = some (.int .i64 nk) := hcl 1 (by omega)
    have l2 : w10.cell? ⟨gl,k * 4 + 2,none⟩ = some (.slice (some ⟨gw,0,none⟩) M cV) := hcl 2 (by omega)
    have n3 : w10.cell? ⟨nb,3,none⟩ = some (.slice (some ⟨gl,0,none⟩) m cl) := by have := HAR.out.blk.cell 3; rw [HNM.out] at this; exact this
    have n2 : w10.cell? ⟨nb,2,none⟩ = some (.int .i64 q) := HAR.out.blk.cell 2
    have ln := HAR.out.blk.lt
    have j2 : (k : Int) < (m : Int) := by omega
    have HGW2 := hid hwt
    have HBK := hid (fun W (kk : Kept w10 W) => back_good R nk M cV gw 0 D dc (wtL l P k) (dlN l n P q x y j) q W ⟨by omega,by omega⟩ ⟨by omega,by omega⟩ HME.out (by have := HFE.out; omega) (own_cap HGW2.out) (by have := own_form HGW2.out; obtain ⟨_,_,hv,_,h2,_⟩ := this; injection hv with _ _ h3; rw [h3]; unfold maxLen at h2; omega) (by have := HGW2.out.1; rw [iv_length] at this; omega) HDL.out (Rd.of_own (own_below HGW2.out kk.2.2)) (Rd.of_own (own_below HD10.out kk.2.2)) (fun v hv => HN.out.pin v (List.mem_of_mem_drop (List.mem_of_mem_take hv))) (dlN_in HXI.out j))
    have KS : Kept w10 w10.drew := Kept.start w10
    clear hwt hsk hcl hle hz
    go_region_held3 (fun w' => Kept w10 w') (first | exact kk | exact KS) (first
     | (go_at_call 168; (with_reducible refine (HBK.out _ KS).mono ?_); rintro e w11 ⟨B,cB,rfl,hbo,hb11⟩; have kk : Kept w10 w11 := KS.call hb11; have HKB := hid kk; have HBO := hid hbo; clear hbo hb11))
    obtain ⟨gB,rfl⟩ := own_some HBO.out (by omega)
    obtain ⟨Z,hZ⟩ : ∃ Z,mulN (turnN (wtL l P k) R nk) (dlN l n P q x y j) q nk = Z := ⟨_,rfl⟩
    have HBO' := HBO.out
    rw [hZ] at HBO'
    have HZ0 := hid HBO'
    have HZE := hid hZ
    have HZLE : Hid (Z.length = nk) := hid (by have := HBO'.1; rw [iv_length] at this; omega)
    have HGB : Hid (w10.heap.size <= gB) := hid (HBO'.lt gB rfl).1
    obtain ⟨-,htk⟩ := HTR.out k _ HSK.out
    rw [HCE.out] at htk
    have HTK10 := hid htk
    obtain ⟨gr',hgr',lgr,hcr⟩ := vecs_cell (own_below HRR.out HKB.out.2.2) HSK.out (by omega)
    injection hgr' with hgr'
    injection hgr' with hgr'
    subst hgr'
    have hcr' : w11.cell? ⟨gr,k,none⟩ = some (.slice Ak nk ck) := hcr
    clear HBO' hZ htk hcr l0 l1 l2 n3 n2 ln kk KS HBO
    go_wp2_with fail
    clear hcr' lgr
    go_loopw [103] (fun v wi => ∃ i : Nat,i <= nk /\ v = .int .i64 i /\ wi.ownsRow w10.heap.size 2 1 (.slice (some ⟨gB,0,none⟩) nk cB) nk (iv (gateTo (trN l n P q x k) Z i)) /\ Below w10.heap.size w10 wi) (fun v _ => nk - (intOf v).toNat)
    case atStart => exact ⟨0,by omega,rfl,by rw [gateTo_zero]; exact HZ0.out,HKB.out.2.2⟩
    case round =>
     obtain ⟨i,hi,rfl,hz,hb⟩ := hrel
     by_cases hir : i < nk
     ·obtain ⟨v,hv⟩ : ∃ v,Z[i]? = some v := ⟨_,List.getElem?_eq_getElem (by rw [HZLE.out]; exact hir)⟩
      have hcv : wr.cell? ⟨gB,i,none⟩ = some (.int .i64 v) := (hz.cellAt i (by omega)).trans (by rw [iv,List.getElem?_map,gateTo_get hv]; rfl)
      obtain ⟨bk,ok,u,rfl,lbk,hu,cu⟩ := iv_at HTL.out (Rd.of_own (own_below HTK10.out hb)) hir
      obtain ⟨gr',hgr',lgr,hcr⟩ := vecs_cell (own_below HRR.out hb) HSK.out (by omega)
      injection hgr' with hgr'
      injection hgr' with hgr'
      subst hgr'
      have hcr' : wr.cell? ⟨gr,k,none⟩ = some (.slice (some ⟨bk,ok,none⟩) nk ck) := hcr
      obtain ⟨cur,hcur⟩ := own_cells hz
      have fz : wr.frozen? ⟨gB,i,none⟩ = false := by simp [World.frozen?,hcur]
      have lz : gB < wr.heap.size := (hz.lt gB rfl).2
      have h1 := hz.stored i (.int .i64 (gateV u v))
      rw [iv_set,gateTo_set hv hu] at h1
      have HZ8 := hid h1.1
      have HB8 := hid (below_gr hb hb.size h1.2 HGB.out)
      have HGT := hid (gate_any u v wr)
      have r1 : (0 : Int) <= (i : Int) := by omega
      have r2 : (i : Int) < (nk : Int) := by omega
      have HIR := hid hir
      clear hz hb hv hcur h1 hcr
      go_wp2_with fail
      ((with_reducible refine HGT.out.mono ?_); rintro e w12 ⟨rfl,hw12⟩)
      subst hw12
      go_wp2_with fail
      go_roundw
      case rel => exact ⟨i + 1,HIR.out,by go_num,HZ8.out,HB8.out⟩
      case measure => simp [intOf]; have := HIR.out; omega
     ·obtain rfl : i = nk := by omega
      have HZ9 : Hid (wr.ownsRow w.heap.size 2 1 (.slice (some ⟨gB,0,none⟩) i cB) i (iv (dlN l n P q x y (j + 1)))) := hid (by
       rw [dlN,show n - 2 - j = k by have := HJ.out; have := HM1.out; omega,show n - 1 - j = k + 1 by have := HJ.out; have := HM1.out; omega,HRE.out,HCE.out,HZE.out]
       exact own_base hz HBL.out.size)
      have HB9 := hid hb
      obtain ⟨k',hk'⟩ : ∃ k',k = k' + 1 := ⟨k - 1,by omega⟩
      have hkw : IntKind.i64.wrap ((k : Int) - 1) = (k' : Int) := by rw [show (k : Int) - 1 = (k' : Int) by omega]; exact IntWalk.i64_in _ (by omega)
      have HK' := hid hk'
      clear hz hb hk'
      go_wp2_with fail
      go_roundw
      case rel =>
       have e1 : k' + 1 = k := HK'.out.symm
       refine ⟨j + 1,k',some ⟨gB,0,none⟩,cB,by have := HJ.out; omega,by rw [e1,HCE.out],rfl,by rw [e1,HCE.out]; exact HZ9.out,?_,by rw [e1,HOE.out]; exact own_below HO10.out HB9.out,HBR.out.call HB9.out⟩
       rw [e1,HCE.out]
       intro g hg e
       have h1 : gB = g := by simpa [Value.ownBlock] using hg
       have h2 := (HO10.out.lt go rfl).2
       have h3 := HGB.out
       omega
      case measure => simp [intOf]; have := HK'.out; omega
end
end Go.Proofs.YtkmaeipoaoikpaaGreat
