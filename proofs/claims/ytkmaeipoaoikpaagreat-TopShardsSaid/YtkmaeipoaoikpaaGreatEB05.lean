/- Shape, Shape2, Hang. -/
import Derived.Test.YtkmaeipoaoikpaaGreatEB04
namespace Go.Proofs.YtkmaeipoaoikpaaGreat
set_option linter.all false
set_option maxRecDepth 100000
set_option maxHeartbeats 4000000
open Lib (hid)
section
open Go.RowKit
def wtsR (l : List Int) (k : Nat) : List (Int × Int) := (List.range k).map fun j => (cntS l j,cntS l j + l.getD (j + 1) 0 * l.getD j 0)
def bssR (l : List Int) (k : Nat) : List (Int × Int) := (List.range k).map fun j => (cntS l j + l.getD (j + 1) 0 * l.getD j 0,cntS l (j + 1))
theorem wtsR_succ (l : List Int) (k : Nat) : wtsR l (k + 1) = wtsR l k ++ [(cntS l k,cntS l k + l.getD (k + 1) 0 * l.getD k 0)] := by simp [wtsR,List.range_succ]
theorem bssR_succ (l : List Int) (k : Nat) : bssR l (k + 1) = bssR l k ++ [(cntS l k + l.getD (k + 1) 0 * l.getD k 0,cntS l (k + 1))] := by simp [bssR,List.range_succ]
theorem rv_one1 (a b : Int) : rv [(a,b)] = [.int .i64 a,.int .i64 b] := rfl
def ShapeAt (w : World) (base bs : Nat) (l : List Int) (n : Nat) : Prop := base <= bs /\ ∃ A c Aw cw Ab cb,Blk w bs 228 #[.slice A n c,.slice Aw (n - 1) cw,.slice Ab (n - 1) cb,.int .i64 (cntS l (n - 1))] /\
 w.ownsRow base 3 1 (.slice A n c) n (iv l) /\ w.ownsRow base 218 2 (.slice Aw (n - 1) cw) (n - 1) (rv (wtsR l (n - 1))) /\ w.ownsRow base 218 2 (.slice Ab (n - 1) cb) (n - 1) (rv (bssR l (n - 1)))
theorem ShapeAt.mid {w w' : World} {base bs n lo : Nat} {l : List Int} (h : ShapeAt w base bs l n) (hm : Mid lo w.heap.size w w') (hl : lo <= base) : ShapeAt w' base bs l n := by
 obtain ⟨h0,A,c,Aw,cw,Ab,cb,h1,h2,h3,h4⟩ := h
 exact ⟨h0,A,c,Aw,cw,Ab,cb,h1.mid hm (by omega),own_mid h2 hm hl,own_mid h3 hm hl,own_mid h4 hm hl⟩
theorem ShapeAt.below {w w' : World} {base bs n : Nat} {l : List Int} (h : ShapeAt w base bs l n) (hb : Below w.heap.size w w') : ShapeAt w' base bs l n := h.mid (Mid.of_below hb 0) (Nat.zero_le _)
def ShapeRet (l : List Int) (n : Nat) (w : World) (e : Ending) (w' : World) : Prop := ∃ bs,e = .returned (.tuple #[.pointer (some ⟨bs,0,none⟩),.int .i64 0]) /\ ShapeAt w' w.heap.size bs l n /\ Below w.heap.size w w'
end
section
open Go.RowKit
variable (A : Option Addr) (n cap : Nat) (l : List Int) (w : World)
theorem shapeMake_any (hl : l.length = n) (h : Rd w 1 A n (iv l)) (hcap : n <= cap) (h2 : 2 <= n) (h16 : n <= 16) (hw : wrongS l = false) (hok : sizesB l = true) :
  Calls Tryz.prog 39 #[.slice A n cap] w (ShapeRet l n w) := by
 have e1 : decide ((n : Int) < 2) = false := decide_eq_false (by omega)
 have e2 : decide ((16 : Int) < (n : Int)) = false := decide_eq_false (by omega)
 have C := containsWrong_any A n cap l w hl h (by omega)
 rw [hw] at C
 have HC := hid C
 have HS : Hid (sizesB l = decide (cntS l (n - 1) <= 1048576)) := hid (by rw [sizesB,hw,hl,decide_eq_true h2,decide_eq_true h16]; simp)
 have HCL := hid (fun W (r : Rd W 1 A n (iv l)) => cloneN_any A n cap l W hl r (by omega))
 have HL := hid hl
 have HR := hid h
 have HW := hid hw
 obtain ⟨b0,o0,rfl,hb0,hcell⟩ := h.2 (by omega)
 have HCE := hid hcell
 clear hl h hw C hcell
 have i0 : (1 : Int) <= (n : Int) := by omega
 have i9 : (n : Int) <= (cap : Int) := by omega
 go_enter Tryz.func39,Tryz.ntmps39
 go_wp2_with fail
 ((with_reducible refine HC.out.mono ?_); rintro e w1 ⟨rfl,rfl⟩)
 go_wp2_with fail
 ((with_reducible refine (HCL.out w HR.out).mono ?_); rintro e w2 ⟨A2,c2,rfl,hown2,hb2⟩)
 have HB2 := hid hb2
 have HO2 := hid hown2
 have HCE2 : Hid (∀ j u,(iv l)[j]? = some u -> w2.cell? ⟨b0,o0 + j,none⟩ = some u) := hid (fun j u hu => (hb2.cell (p := ⟨b0,o0 + j,none⟩) hb0).trans (HCE.out j u hu))
 have hb02 : b0 < w2.heap.size := Nat.lt_of_lt_of_le hb0 hb2.size
 clear hown2 hb2
 obtain ⟨m,hm⟩ : ∃ m,n - 1 = m := ⟨_,rfl⟩
 have HX : Hid (∀ W,(w2.alloc (.cells #[.slice A2 n c2,.slice none 0 0,.slice none 0 0,.int .i64 0] 228)).alloc (.cells #[.pointer (some ⟨w2.heap.size,0,none⟩)] 98) = W -> Below w2.heap.size w2 W /\ Blk W w2.heap.size 228 #[.slice A2 n c2,.slice none 0 0,.slice none 0 0,.int .i64 0] /\ Blk W (w2.heap.size + 1) 98 #[.pointer (some ⟨w2.heap.size,0,none⟩)]) := hid (by
  rintro W rfl
  exact ⟨((Below.refl _ _).alloc (Nat.le_refl _) _).alloc (by simp) _,(Blk.new _ _ _).alloc _,Blk.new' _ _ (by simp)⟩)
 go_wp2_with fail
 have HMN := hid hm
 have hmn : m + 1 = n := by omega
 clear hm
 obtain ⟨h3,b3,g3⟩ := HX.out _ rfl
 obtain ⟨w3,hw3⟩ : ∃ w3,(w2.alloc (.cells #[.slice A2 n c2,.slice none 0 0,.slice none 0 0,.int .i64 0] 228)).alloc (.cells #[.pointer (some ⟨w2.heap.size,0,none⟩)] 98) = w3 := ⟨_,rfl⟩
 rw [hw3] at h3 b3 g3 ⊢
 obtain ⟨bs,hbs⟩ : ∃ bs,w2.heap.size = bs := ⟨_,rfl⟩
 have hwb : bs <= bs := Nat.le_refl _
 have HWB : Hid (w.heap.size <= bs) := hid (by rw [<- hbs]; exact HB2.out.size)
 have HO3 : Hid (∀ W,Below bs w2 W -> W.ownsRow w.heap.size 3 1 (.slice A2 n c2) n (iv l)) := hid (fun W h => own_below HO2.out (by rw [hbs]; exact h))
 clear HO2
 rw [hbs] at h3 b3 g3 hb02 ⊢
 have HB3 := hid h3
 have HSB : Hid (w2.heap.size = bs) := hid hbs
 have HBS := hid b3
 have HGS := hid g3
 clear h3 b3 g3 hw3 hbs HX HC HCL
 obtain ⟨sz,hsz⟩ : ∃ sz,Value.slice A2 n c2 = sz := ⟨_,rfl⟩
 rw [hsz] at HBS
 have HSZ := hid hsz
 clear hsz
 have hn1 : cap - 1 + 1 = cap := by omega
 go_loopw [30] (fun i wr => ∃ (k : Nat) (c : Int) (Aw Ab : Option Addr) (cw cb : Nat),k <= m /\ i = .int .i64 k /\ Hid (c = cntS l k) /\ Blk wr bs 228 #[sz,.slice Aw k cw,.slice Ab k cb,.int .i64 c] /\ Blk wr (bs + 1) 98 #[.pointer (some ⟨bs,0,none⟩)] /\
   wr.ownsRow bs 218 2 (.slice Aw k cw) k (rv (wtsR l k)) /\ wr.ownsRow bs 218 2 (.slice Ab k cb) k (rv (bssR l k)) /\ (∀ g,(Value.slice Aw k cw).ownBlock = some g -> (Value.slice Ab k cb).ownBlock ≠ some g) /\ Below bs w2 wr) (fun i _ => m - (intOf i).toNat)
 case atStart => exact ⟨0,0,none,none,0,0,by omega,rfl,hid rfl,HBS.out,HGS.out,World.ownsRow_nil _ _ _ _,World.ownsRow_nil _ _ _ _,fun g e => by simp [Value.ownBlock] at e,HB3.out⟩
 case round =>
  obtain ⟨k,c,Aw,Ab,cw,cb,hk,rfl,hc,hbk,hgk,how,hob,hne,hb⟩ := hrel
  by_cases hlt : k < m
  ·obtain ⟨x,hx⟩ : ∃ x,l[k]? = some x := ⟨_,List.getElem?_eq_getElem (by rw [HL.out]; omega)⟩
   obtain ⟨y,hy⟩ : ∃ y,l[k + 1]? = some y := ⟨_,List.getElem?_eq_getElem (by rw [HL.out]; omega)⟩
   have wx := wrongS_at HW.out hx
   have wy := wrongS_at HW.out hy
   have hp := prodS wy wx
   have hcb := cntS_bound HW.out k (by rw [HL.out]; omega)
   rw [<- hc.out] at hcb
   have hk16 : (k : Int) * 1099512676352 <= 17592202821632 := by omega
   have hcc : 0 <= c /\ c <= 17592202821632 := by omega
   have HN : Hid (cntS l (k + 1) = c + y * x + y) := hid (by
    rw [cntS,<- hc.out,show l.getD k 0 = x by simp [List.getD,hx],show l.getD (k + 1) 0 = y by simp [List.getD,hy],Int.add_mul,Int.one_mul,Int.mul_comm x y]
    omega)
   obtain ⟨p,hpp⟩ : ∃ p,y * x = p := ⟨_,rfl⟩
   rw [hpp] at hp HN
   have HRW : Hid (rv (wtsR l k) ++ #[Value.int .i64 c,.int .i64 (c + p)].toList = rv (wtsR l (k + 1))) := hid (by rw [wtsR_succ,rv_append,rv_one1,hc.out,show l.getD k 0 = x by simp [List.getD,hx],show l.getD (k + 1) 0 = y by simp [List.getD,hy],hpp])
   have HRB : Hid (rv (bssR l k) ++ #[Value.int .i64 (c + p),.int .i64 (c + p + y)].toList = rv (bssR l (k + 1))) := hid (by rw [bssR_succ,rv_append,rv_one1,HN.out,hc.out,show l.getD k 0 = x by simp [List.getD,hx],show l.getD (k + 1) 0 = y by simp [List.getD,hy],hpp])
   have hw1 : IntKind.i64.wrap (y * x) = p := by rw [hpp]; exact IntWalk.i64_in _ (by omega)
   have cx : wr.cell? ⟨b0,o0 + k,none⟩ = some (.int .i64 x) := (hb.cell (p := ⟨b0,o0 + k,none⟩) hb02).trans (HCE2.out k _ (by rw [iv,List.getElem?_map,hx]; rfl))
   have cy : wr.cell? ⟨b0,o0 + 1 + k,none⟩ = some (.int .i64 y) := (hb.cell (p := ⟨b0,o0 + 1 + k,none⟩) hb02).trans (HCE2.out (k + 1) _ (by rw [iv,List.getElem?_map,hy]; rfl) ▸ by rw [show o0 + 1 + k = o0 + (k + 1) by omega])
   have HBK := hid hbk
   have HGK := hid hgk
   have HOW := hid how
   have HOB := hid hob
   have HNE := hid hne
   have HB := hid hb
   have i1 : (0 : Int) <= (k : Int) := by omega
   have i2 : (k : Int) < (m : Int) := by omega
   have i3 : (k : Int) < (n : Int) := by omega
   have lb0 : b0 < wr.heap.size := Nat.lt_of_lt_of_le hb02 (Nat.le_trans (Nat.le_of_eq HSB.out.symm) hb.size)
   clear hbk hgk how hob hne hb hx hy hpp hcb hk16
   have HN1 := hid (fun W (h1 : Blk W (bs + 1) 98 #[.pointer (some ⟨bs,0,none⟩)]) (h2 : Blk W bs 228 #[sz,.slice Aw k cw,.slice Ab k cb,.int .i64 c]) => shapeNext_any (bs + 1) bs sz (.slice Aw k cw) (.slice Ab k cb) c p W h1 h2 (by omega) (by omega))
   have hb0s : b0 ≠ bs := by omega
   go_wp2_with fail
   have hS : (fun W : World => W.cell? ⟨bs + 1,0,none⟩ = some (.pointer (some ⟨bs,0,none⟩)) /\ W.cell? ⟨bs,1,none⟩ = some (.slice Aw k cw) /\ W.cell? ⟨b0,o0 + k,none⟩ = some (.int .i64 x)) wr.drew := ⟨HGK.out.cell 0,HBK.out.cell 1,cx⟩
   refine wp_region_early (fun W : World => W.cell? ⟨bs + 1,0,none⟩ = some (.pointer (some ⟨bs,0,none⟩)) /\ W.cell? ⟨bs,1,none⟩ = some (.slice Aw k cw) /\ W.cell? ⟨b0,o0 + k,none⟩ = some (.int .i64 x)) [0,1,2,3,4,5,6,7,8,9,10,11] [12,13,14] [15,16,17] (by kernel_rfl) (by kernel_rfl) hS ?_
   clear hS
   simp only [List.filterMap_cons,List.filterMap_nil,List.getElem?_cons_succ,List.getElem?_cons_zero]
   refine early_step (.pointer (some ⟨bs,0,none⟩)) rfl (fun W hW => ?_) ?_
   ·obtain ⟨hc1,hc2,hc3⟩ := hW
    go_simp
   go_simp
   refine early_step (.pointer (some ⟨bs,0,none⟩)) rfl (fun W hW => ?_) ?_
   ·obtain ⟨hc1,hc2,hc3⟩ := hW
    go_simp
   go_simp
   refine early_step (.pointer (some ⟨bs,0,none⟩)) rfl (fun W hW => ?_) ?_
   ·go_simp
   go_simp
   refine early_step (.pointer (some ⟨bs,1,none⟩)) rfl (fun W hW => ?_) ?_
   ·go_simp
   go_simp
   refine early_step (.slice Aw k cw) rfl (fun W hW => ?_) ?_
   ·obtain ⟨hc1,hc2,hc3⟩ := hW
    go_simp
   go_simp
   refine early_step (.func (.func 103) #[] #[.pointer (some ⟨bs + 1,0,none⟩)]) rfl (fun W hW => ?_) ?_
   ·go_simp
   go_simp
   refine early_step (.int .i64 y) rfl (fun W hW => ?_) ?_
   ·go_simp
   go_simp
   refine early_step (.slice (some ⟨b0,o0,none⟩) n cap) rfl (fun W hW => ?_) ?_
   ·go_simp
   go_simp
   refine early_step (.int .i64 k) rfl (fun W hW => ?_) ?_
   ·go_simp
   go_simp
   refine early_step (.pointer (some ⟨b0,o0 + k,none⟩)) rfl (fun W hW => ?_) ?_
   ·go_simp
   go_simp
   refine early_step (.int .i64 x) rfl (fun W hW => ?_) ?_
   ·obtain ⟨hc1,hc2,hc3⟩ := hW
    go_simp
   go_simp
   refine early_step (.int .i64 p) rfl (fun W hW => ?_) ?_
   ·go_simp
   go_simp
   change RestW _ _ _ _ _ (_ :: _ :: _ :: []) _ _
   unfold RestW
   go_wp2_with fail
   ((with_reducible refine (HN1.out _ HGK.out.drew HBK.out.drew).mono ?_); rintro e w4 ⟨rfl,hk4,hg4⟩)
   have HBK4 := hid hk4
   have HGK4 := hid (HGK.out.drew.grown hg4 (by simp))
   have HB4 := hid (below_gr HB.out.drew (Nat.le_trans (Nat.le_of_eq HSB.out.symm) HB.out.size) hg4 hwb)
   have HOW4 := hid (World.ownsRow.kept (show wr.drew.ownsRow bs 218 2 (.slice Aw k cw) k (rv (wtsR l k)) from HOW.out) hg4 (.inr (own_blk_ne HOW.out HBK.out (by decide))))
   have HOB4 := hid (World.ownsRow.kept (show wr.drew.ownsRow bs 218 2 (.slice Ab k cb) k (rv (bssR l k)) from HOB.out) hg4 (.inr (own_blk_ne HOB.out HBK.out (by decide))))
   have HCX4 : Hid (w4.cell? ⟨b0,o0 + k,none⟩ = some (.int .i64 x)) := hid ((gr_cell hg4 lb0 hb0s).trans cx)
   have lb4 : b0 < w4.heap.size := Nat.lt_of_lt_of_le lb0 hg4.size
   have hs04 : wr.heap.size <= w4.heap.size := hg4.size
   clear hk4 hg4
   go_wp2_with fail
   refine ⟨⟨HGK4.out.cell 0,HBK4.out.cell 1,HCX4.out⟩,?_⟩
   unfold RestW
   go_wp2_with fail
   refine ⟨⟨(HGK4.out.alloc _).cell 0,(HBK4.out.alloc _).cell 1,HCX4.out⟩,?_⟩
   unfold RestW
   change wpList _ _ _ (_ :: []) _ (w4.alloc (.cells #[.int .i64 c,.int .i64 (c + p)] 218))
   have hsz4 : bs <= _ := (Nat.le_trans (Nat.le_of_eq HSB.out.symm) HB4.out.size)
   go_wp2_with (at_builtin; go_must (refine wpList_pushL slPart rfl _ _ rfl bs _ k (rv (wtsR l k)) rfl HOW4.out #[.int .i64 c,.int .i64 (c + p)] w4.heap.size rfl rfl rfl (two_cells _ _) (by unfold maxLen; omega) (by omega) hsz4 ?_); go_must (intro A5 c5 w5 hown5 hb5 hg5 hat5; (have HBK5 := hid (HBK4.out.other HOW4.out hg5 (by decide))); (have HGK5 := hid (HGK4.out.other HOW4.out hg5 (by decide))); (have HOW5 := hid hown5); (have HOB5 := hid (HOB4.out.kept hg5 (own_apart HNE.out))); (have HB5 := hid (HB4.out.trans hb5)); (have HAT5 := hid hat5); (have hs45 : w4.heap.size <= w5.heap.size := hg5.size); (have HLT := hid (fun g (e : (Value.slice Ab k cb).ownBlock = some g) => (HOB4.out.lt g e).2)); (have HCX5 : Hid (w5.cell? ⟨b0,o0 + k,none⟩ = some (.int .i64 x)) := hid ((hb5.cell (p := ⟨b0,o0 + k,none⟩) hb02).trans HCX4.out)); clear hown5 hb5 hg5 hat5))
   refine ⟨⟨HGK5.out.cell 0,HBK5.out.cell 1,HCX5.out⟩,?_⟩
   unfold RestW
   change wpList _ _ _ (_ :: _ :: _ :: []) _ _
   have v1 : w5.cell? ⟨bs,1,none⟩ = some (.slice Aw k cw) := HBK5.out.cell 1
   have f1 := HBK5.out.frozen 1
   have l5 := HBK5.out.lt
   go_wp2_with fail
   refine NoPanic.normal ?_
   have hst := sset1 HBK5.out (.slice A5 (k + 1) c5)
   obtain ⟨w6,hw6⟩ : ∃ w6,w5.setCell ⟨bs,1,none⟩ (.slice A5 (k + 1) c5) = w6 := ⟨_,rfl⟩
   rw [hw6] at hst
   have HW6 := hid hw6
   have HBK6 := hid hst.2
   have HGK6 := hid (HGK5.out.grown hst.1 (by simp))
   have HOW6 := hid (HOW5.out.kept hst.1 (.inr (own_blk_ne HOW5.out HBK5.out (by decide))))
   have HOB6 := hid (HOB5.out.kept hst.1 (.inr (own_blk_ne HOB5.out HBK5.out (by decide))))
   have HB6 := hid (below_gr HB5.out (Nat.le_trans (Nat.le_of_eq HSB.out.symm) HB5.out.size) hst.1 hwb)
   have hsw6 : w6.heap.size = w5.heap.size := by rw [<- hw6]; simp [World.setCell]
   clear hst hw6 v1 f1 l5
   have HN2 := hid (fun W (h1 : Blk W (bs + 1) 98 #[.pointer (some ⟨bs,0,none⟩)]) (h2 : Blk W bs 228 #[sz,.slice A5 (k + 1) c5,.slice Ab k cb,.int .i64 (c + p)]) => shapeNext_any (bs + 1) bs sz (.slice A5 (k + 1) c5) (.slice Ab k cb) (c + p) y W h1 h2 (by omega) (by omega))
   go_wp2_with fail
   rw [HW6.out]
   have hS : (fun W : World => W.cell? ⟨bs + 1,0,none⟩ = some (.pointer (some ⟨bs,0,none⟩)) /\ W.cell? ⟨bs,2,none⟩ = some (.slice Ab k cb)) w6.drew := ⟨HGK6.out.cell 0,HBK6.out.cell 2⟩
   refine wp_region_early (fun W : World => W.cell? ⟨bs + 1,0,none⟩ = some (.pointer (some ⟨bs,0,none⟩)) /\ W.cell? ⟨bs,2,none⟩ = some (.slice Ab k cb)) [0,1,2,3,4,5,6] [7,8,9] [10,11,12] (by kernel_rfl) (by kernel_rfl) hS ?_
   clear hS
   simp only [List.filterMap_cons,List.filterMap_nil,List.getElem?_cons_succ,List.getElem?_cons_zero]
   refine early_step (.pointer (some ⟨bs,0,none⟩)) rfl (fun W hW => ?_) ?_
   ·obtain ⟨hc1,hc2⟩ := hW
    go_simp
   go_simp
   refine early_step (.pointer (some ⟨bs,0,none⟩)) rfl (fun W hW => ?_) ?_
   ·obtain ⟨hc1,hc2⟩ := hW
    go_simp
   go_simp
   refine early_step (.pointer (some ⟨bs,0,none⟩)) rfl (fun W hW => ?_) ?_
   ·go_simp
   go_simp
   refine early_step (.pointer (some ⟨bs,2,none⟩)) rfl (fun W hW => ?_) ?_
   ·go_simp
   go_simp
   refine early_step (.slice Ab k cb) rfl (fun W hW => ?_) ?_
   ·obtain ⟨hc1,hc2⟩ := hW
    go_simp
   go_simp
   refine early_step (.func (.func 103) #[] #[.pointer (some ⟨bs + 1,0,none⟩)]) rfl (fun W hW => ?_) ?_
   ·go_simp
   go_simp
   refine early_step (.int .i64 y) rfl (fun W hW => ?_) ?_
   ·go_simp
   go_simp
   change RestW _ _ _ _ _ (_ :: _ :: _ :: []) _ _
   unfold RestW
   go_wp2_with fail
   ((with_reducible refine (HN2.out _ HGK6.out.drew HBK6.out.drew).mono ?_); rintro e w7 ⟨rfl,hk7,hg7⟩)
   have HBK7 := hid hk7
   have HGK7 := hid (HGK6.out.drew.grown hg7 (by simp))
   have HB7 := hid (below_gr HB6.out.drew (Nat.le_trans (Nat.le_of_eq HSB.out.symm) HB6.out.size) hg7 hwb)
   have HOW7 := hid (World.ownsRow.kept (show w6.drew.ownsRow bs 218 2 (.slice A5 (k + 1) c5) (k + 1) ((rv (wtsR l k)) ++ _) from HOW6.out) hg7 (.inr (own_blk_ne HOW6.out HBK6.out (by decide))))
   have HOB7 := hid (World.ownsRow.kept (show w6.drew.ownsRow bs 218 2 (.slice Ab k cb) k (rv (bssR l k)) from HOB6.out) hg7 (.inr (own_blk_ne HOB6.out HBK6.out (by decide))))
   have hs67 : w6.heap.size <= w7.heap.size := hg7.size
   have hg5lt : ∀ g,(Value.slice A5 (k + 1) c5).ownBlock = some g -> g < w5.heap.size := fun g e => (HOW5.out.lt g e).2
   have hawlt : ∀ g,(Value.slice Aw k cw).ownBlock = some g -> g < wr.heap.size := fun g e => (HOW.out.lt g e).2
   have HAP : Hid (∀ g,(Value.slice Ab k cb).ownBlock = some g -> (Value.slice A5 (k + 1) c5).ownBlock ≠ some g) := hid (fun g e e2 => by
    rcases HAT5.out g e2 with h | h
    ·exact HNE.out g h e
    ·have := HLT.out g e; omega)
   have HG5 := hid hg5lt
   have HAW := hid hawlt
   clear hk7 hg7 hg5lt hawlt
   go_wp2_with fail
   refine ⟨⟨HGK7.out.cell 0,HBK7.out.cell 2⟩,?_⟩
   unfold RestW
   go_wp2_with fail
   refine ⟨⟨(HGK7.out.alloc _).cell 0,(HBK7.out.alloc _).cell 2⟩,?_⟩
   unfold RestW
   change wpList _ _ _ (_ :: []) _ (w7.alloc (.cells #[.int .i64 (c + p),.int .i64 (c + p + y)] 218))
   have hsz7 : bs <= _ := (Nat.le_trans (Nat.le_of_eq HSB.out.symm) HB7.out.size)
   go_wp2_with (at_builtin; go_must (refine wpList_pushL slPart rfl _ _ rfl bs _ k (rv (bssR l k)) rfl HOB7.out #[.int .i64 (c + p),.int .i64 (c + p + y)] w7.heap.size rfl rfl rfl (two_cells _ _) (by unfold maxLen; omega) (by omega) hsz7 ?_); go_must (intro A8 c8 w8 hown8 hb8 hg8 hat8; (have HBK8 := hid (HBK7.out.other HOB7.out hg8 (by decide))); (have HGK8 := hid (HGK7.out.other HOB7.out hg8 (by decide))); (have HOB8 := hid hown8); (have HOW8 := hid (HOW7.out.kept hg8 (own_apart HAP.out))); (have HB8 := hid (HB7.out.trans hb8)); (have HAT8 := hid hat8); clear hown8 hb8 hg8 hat8))
   refine ⟨⟨HGK8.out.cell 0,HBK8.out.cell 2⟩,?_⟩
   unfold RestW
   change wpList _ _ _ (_ :: _ :: _ :: []) _ _
   have v1 : w8.cell? ⟨bs,2,none⟩ = some (.slice Ab k cb) := HBK8.out.cell 2
   have f1 := HBK8.out.frozen 2
   have l8 := HBK8.out.lt
   go_wp2_with fail
   refine NoPanic.normal ?_
   have hst := sset2 HBK8.out (.slice A8 (k + 1) c8)
   have HST := hid hst
   clear hst v1 f1
   go_wp2_with fail
   go_roundw
   case rel =>
    refine ⟨k + 1,c + p + y,A5,A8,c5,c8,by omega,by go_num,hid HN.out.symm,HST.out.2,HGK8.out.grown HST.out.1 (by simp),HRW.out ▸ HOW8.out.kept HST.out.1 (.inr (own_blk_ne HOW8.out HBK8.out (by decide))),HRB.out ▸ HOB8.out.kept HST.out.1 (.inr (own_blk_ne HOB8.out HBK8.out (by decide))),fun g e1 e2 => ?_,below_gr HB8.out (Nat.le_trans (Nat.le_of_eq HSB.out.symm) HB8.out.size) HST.out.1 hwb⟩
    rcases HAT8.out g e2 with h | h
    ·exact HAP.out g h e1
    ·have := HG5.out g e1
     omega
   case measure => simp [intOf]; omega
  ·obtain rfl : k = m := by omega
   have hcb := cntS_bound HW.out k (by rw [HL.out]; omega)
   rw [<- hc.out] at hcb
   have HQ : Hid (sizesB l = decide (c <= 1048576)) := hid (by rw [HS.out,hc.out,show n - 1 = k by omega])
   have c0 : wr.cell? ⟨bs + 1,0,none⟩ = some (.pointer (some ⟨bs,0,none⟩)) := hgk.cell 0
   have c3 : wr.cell? ⟨bs,3,none⟩ = some (.int .i64 c) := hbk.cell 3
   have l1 := hgk.lt
   have l2 := hbk.lt
   have hsh : ShapeAt wr w.heap.size bs l n := ⟨HWB.out,_,_,_,_,_,_,by rw [show n - 1 = k by omega,<- hc.out]; exact HSZ.out ▸ hbk,HO3.out wr hb,by rw [show n - 1 = k by omega]; exact own_base how HWB.out,by rw [show n - 1 = k by omega]; exact own_base hob HWB.out⟩
   have HSH := hid hsh
   have HB : Hid (Below w.heap.size w wr) := hid (HB2.out.trans (hb.mono HWB.out))
   have hbig : ¬ 1048576 < c := by
    have := HQ.out
    rw [hok] at this
    have := of_decide_eq_true this.symm
    omega
   clear hbk hgk how hob hne hb hsh
   have f1 : decide (1048576 < c) = false := decide_eq_false hbig
   go_wp2_with fail
   go_ret2
   exact ⟨bs,rfl,HSH.out,HB.out⟩
end
section
open Go.RowKit
variable (base bs n : Nat) (l : List Int) (w : World)
theorem shapeCount_any (h : ShapeAt w base bs l n) :
  Calls Tryz.prog 43 #[.pointer (some ⟨bs,0,none⟩)] w fun e w' => e = .returned (.int .i64 (cntS l (n - 1))) /\ w = w' := by
 obtain ⟨h0,A,c,Aw,cw,Ab,cb,h1,h2,h3,h4⟩ := h
 have c3 := h1.cell 3
 have l1 := h1.lt
 clear h1 h2 h3 h4
 go_enter Tryz.func43,Tryz.ntmps43
 go_wp2
 go_ret
 exact ⟨rfl,rfl⟩
theorem shapeLinks_any (h : ShapeAt w base bs l n) :
  Calls Tryz.prog 142 #[.pointer (some ⟨bs,0,none⟩)] w fun e w' => e = .returned (.int .i64 ((n - 1 : Nat) : Int)) /\ w = w' := by
 obtain ⟨h0,A,c,Aw,cw,Ab,cb,h1,h2,h3,h4⟩ := h
 have c1 := h1.cell 1
 have l1 := h1.lt
 clear h1 h2 h3 h4
 obtain ⟨m,hm⟩ : ∃ m,n - 1 = m := ⟨_,rfl⟩
 rw [hm] at c1 ⊢
 clear hm
 go_enter Tryz.func142,Tryz.ntmps142
 go_wp2
 go_ret
 exact ⟨rfl,rfl⟩
theorem shapeSizes_any (h : ShapeAt w base bs l n) (hl : l.length = n) (hn : n <= 1000000) :
  Calls Tryz.prog 141 #[.pointer (some ⟨bs,0,none⟩)] w (OwnRet w 3 1 n (iv l)) := by
 obtain ⟨h0,A,c,Aw,cw,Ab,cb,h1,h2,h3,h4⟩ := h
 have c0 := h1.cell 0
 have l1 := h1.lt
 have HC := hid (cloneN_any A n c l w hl (Rd.of_own h2) hn)
 clear h1 h2 h3 h4
 go_enter Tryz.func141,Tryz.ntmps141
 go_wp2_with fail
 ((with_reducible refine HC.out.mono ?_); rintro e w1 ⟨A1,c1,rfl,ho,hb⟩)
 have HO := hid ho
 have HB := hid hb
 clear ho hb
 go_wp2_with fail
 go_ret
 exact ⟨A1,c1,rfl,HO.out,HB.out⟩
end
section
open Go.RowKit
theorem own_pair {w : World} {base n k : Nat} {e : TypeId} {A : Option Addr} {c : Nat} {l : List (Int × Int)} {x : Int × Int} (h : w.ownsRow base e 2 (.slice A n c) n (rv l)) (hx : l[k]? = some x) (hk : k < n) :
  ∃ b,A = some ⟨b,0,none⟩ /\ b < w.heap.size /\ w.cell? ⟨b,k * 2,none⟩ = some (.int .i64 x.1) /\ w.cell? ⟨b,k * 2 + 1,none⟩ = some (.int .i64 x.2) := by
 have hkl : k < l.length := (List.getElem?_eq_some_iff.1 hx).1
 have hxe : l[k] = x := (List.getElem?_eq_some_iff.1 hx).2
 obtain ⟨g1,g2⟩ := rv_get l k hkl
 rw [hxe] at g1 g2
 have hr := Rd.of_own h
 obtain ⟨b,o,e',hlt,hc⟩ := hr.2 (by omega)
 have hf := own_form h
 obtain ⟨A',cap',hv,_,_,hg⟩ := hf
 injection hv with hA _ _
 obtain ⟨g,hg1,_,_⟩ := hg (by omega)
 rw [hA,hg1] at e'
 injection e' with e'
 injection e' with e1 e2
 subst e1 e2
 refine ⟨g,by rw [hA,hg1],hlt,?_,?_⟩
 ·have := hc _ _ g1
  rwa [Nat.zero_add] at this
 ·have := hc _ _ g2
  rwa [Nat.zero_add] at this
end
section
open Go.RowKit
variable (base bs n k : Nat) (l : List Int) (w : World)
theorem shapeWeights_any (h : ShapeAt w base bs l n) (hk : k < n - 1) :
  Calls Tryz.prog 143 #[.pointer (some ⟨bs,0,none⟩),.int .i64 k] w fun e w' => e = .returned (.agg #[.int .i64 (cntS l k),.int .i64 (cntS l k + l.getD (k + 1) 0 * l.getD k 0)]) /\ Below w.heap.size w w' := by
 have HSH := hid h
 have HLK := hid (fun W (r : ShapeAt W base bs l n) => shapeLinks_any base bs n l W r)
 have HG : Hid (∀ W,w.alloc (.cells #[.int .i64 0,.int .i64 0] 218) = W -> Below w.heap.size w W /\ Blk W w.heap.size 218 #[.int .i64 0,.int .i64 0]) := hid (by
  rintro W rfl
  exact ⟨(Below.refl _ _).alloc (Nat.le_refl _) _,Blk.new _ _ _⟩)
 have e1 : decide ((k : Int) < 0) = false := decide_eq_false (by omega)
 obtain ⟨m,hm⟩ : ∃ m,n - 1 = m := ⟨_,rfl⟩
 have e2 : decide ((m : Int) <= (k : Int)) = false := decide_eq_false (by omega)
 have hw : (wtsR l m)[k]? = some (cntS l k,cntS l k + l.getD (k + 1) 0 * l.getD k 0) := by simp [wtsR,show k < m by omega]
 obtain ⟨z1,z2,hz⟩ : ∃ z1 z2,(cntS l k,cntS l k + l.getD (k + 1) 0 * l.getD k 0) = (z1,z2) := ⟨_,_,rfl⟩
 rw [hz] at hw
 injection hz with hz1 hz2
 rw [hz1] at hz2 ⊢
 rw [hz2]
 have HW := hid hw
 have HM := hid hm
 have hkm : k < m := by omega
 clear h hm hw hz1 hz2
 go_enter Tryz.func143,Tryz.ntmps143
 go_wp2_with fail
 obtain ⟨hB,hK⟩ := HG.out _ rfl
 have HB := hid hB
 have HK := hid hK
 ((with_reducible refine (HLK.out _ (HSH.out.below hB)).mono ?_); rintro e w1 ⟨rfl,rfl⟩)
 rw [HM.out]
 have hs1 := HSH.out.below hB
 clear hB hK
 obtain ⟨h0,A,c,Aw,cw,Ab,cb,h1,h2,h3,h4⟩ := hs1
 rw [HM.out] at h1 h3 h4
 obtain ⟨b,rfl,hb,q1,q2⟩ := own_pair h3 HW.out hkm
 have c1 := h1.cell 1
 have l1 := h1.lt
 have i1 : (0 : Int) <= (k : Int) := by omega
 have i2 : (k : Int) < (m : Int) := by omega
 have v0 := HK.out.cell 0
 have v1 := HK.out.cell 1
 have f0 := HK.out.frozen 0
 have f1 := HK.out.frozen 1
 have vl := HK.out.lt
 clear h1 h2 h3 h4
 go_wp2_with fail
 exact bodyPost_ret (v := .agg #[.int .i64 z1,.int .i64 z2]) (by simp [results,Tryz.results143,go_sem]) rfl ⟨rfl,(Below.refl _ _).alloc (Nat.le_refl _) _⟩
theorem shapeBiases_any (h : ShapeAt w base bs l n) (hk : k < n - 1) :
  Calls Tryz.prog 144 #[.pointer (some ⟨bs,0,none⟩),.int .i64 k] w fun e w' => e = .returned (.agg #[.int .i64 (cntS l k + l.getD (k + 1) 0 * l.getD k 0),.int .i64 (cntS l (k + 1))]) /\ Below w.heap.size w w' := by
 have HSH := hid h
 have HLK := hid (fun W (r : ShapeAt W base bs l n) => shapeLinks_any base bs n l W r)
 have HG : Hid (∀ W,w.alloc (.cells #[.int .i64 0,.int .i64 0] 218) = W -> Below w.heap.size w W /\ Blk W w.heap.size 218 #[.int .i64 0,.int .i64 0]) := hid (by
  rintro W rfl
  exact ⟨(Below.refl _ _).alloc (Nat.le_refl _) _,Blk.new _ _ _⟩)
 have e1 : decide ((k : Int) < 0) = false := decide_eq_false (by omega)
 obtain ⟨m,hm⟩ : ∃ m,n - 1 = m := ⟨_,rfl⟩
 have e2 : decide ((m : Int) <= (k : Int)) = false := decide_eq_false (by omega)
 have hw : (bssR l m)[k]? = some (cntS l k + l.getD (k + 1) 0 * l.getD k 0,cntS l (k + 1)) := by simp [bssR,show k < m by omega]
 obtain ⟨z1,z2,hz⟩ : ∃ z1 z2,(cntS l k + l.getD (k + 1) 0 * l.getD k 0,cntS l (k + 1)) = (z1,z2) := ⟨_,_,rfl⟩
 rw [hz] at hw
 injection hz with hz1 hz2
 rw [hz1,hz2]
 have HW := hid hw
 have HM := hid hm
 have hkm : k < m := by omega
 clear h hm hw hz1 hz2
 go_enter Tryz.func144,Tryz.ntmps144
 go_wp2_with fail
 obtain ⟨hB,hK⟩ := HG.out _ rfl
 have HB := hid hB
 have HK := hid hK
 ((with_reducible refine (HLK.out _ (HSH.out.below hB)).mono ?_); rintro e w1 ⟨rfl,rfl⟩)
 rw [HM.out]
 have hs1 := HSH.out.below hB
 clear hB hK
 obtain ⟨h0,A,c,Aw,cw,Ab,cb,h1,h2,h3,h4⟩ := hs1
 rw [HM.out] at h1 h3 h4
 obtain ⟨b,rfl,hb,q1,q2⟩ := own_pair h4 HW.out hkm
 have c2 := h1.cell 2
 have l1 := h1.lt
 have i1 : (0 : Int) <= (k : Int) := by omega
 have i2 : (k : Int) < (m : Int) := by omega
 have v0 := HK.out.cell 0
 have v1 := HK.out.cell 1
 have f0 := HK.out.frozen 0
 have f1 := HK.out.frozen 1
 have vl := HK.out.lt
 clear h1 h2 h3 h4
 go_wp2_with fail
 exact bodyPost_ret (v := .agg #[.int .i64 z1,.int .i64 z2]) (by simp [results,Tryz.results144,go_sem]) rfl ⟨rfl,(Below.refl _ _).alloc (Nat.le_refl _) _⟩
end
section
open Go.RowKit
def Hg (S : Nat -> Prop) (w : World) (P : World -> Prop) : Prop := ∀ w',w.heap.size <= w'.heap.size -> (∀ i,i < w.heap.size -> S i -> w'.heap[i]? = w.heap[i]?) -> P w'
end
section
open Go.RowKit
variable {S T : Nat → Prop} {w w' : World} {P Q : World → Prop}
theorem Hg.here (h : Hg S w P) : P w := h w (Nat.le_refl _) (fun _ _ _ => rfl)
theorem Hg.mono (h : Hg S w P) (hST : ∀ i,i < w.heap.size -> S i -> T i) : Hg T w P := fun w' h1 h2 => h w' h1 (fun i hi hS => h2 i hi (hST i hi hS))
theorem Hg.imp (h : Hg S w P) (hPQ : ∀ W,P W -> Q W) : Hg S w Q := fun w' h1 h2 => hPQ w' (h w' h1 h2)
theorem Hg.and (h : Hg S w P) (k : Hg S w Q) : Hg S w (fun W => P W /\ Q W) := fun w' h1 h2 => ⟨h w' h1 h2,k w' h1 h2⟩
theorem Hg.step (h : Hg S w P) (hs : w.heap.size <= w'.heap.size) (hb : ∀ i,i < w.heap.size -> S i -> w'.heap[i]? = w.heap[i]?) : Hg S w' P :=
 fun w2 h1 h2 => h w2 (Nat.le_trans hs h1) (fun i hi hS => (h2 i (Nat.lt_of_lt_of_le hi hs) hS).trans (hb i hi hS))
theorem Hg.but (h : Hg S w P) (hb : But T w w') (hST : ∀ i,i < w.heap.size -> S i -> ¬ T i) : Hg S w' P := h.step hb.size (fun i hi hS => hb.block i hi (hST i hi hS))
theorem Hg.below (h : Hg S w P) (hb : Below w.heap.size w w') : Hg S w' P := h.step hb.size (fun i hi _ => hb.block i hi)
theorem Hg.of_mid {lo : Nat} (h : ∀ w',Mid lo w.heap.size w w' -> P w') (hS : ∀ i,lo <= i -> i < w.heap.size -> S i) : Hg S w P :=
 fun w' h1 h2 => h w' ⟨h1,fun i hl hi => h2 i hi (hS i hl hi)⟩
theorem Hg.blk {g : Nat} {t : TypeId} {cs : Array Value} (h : Blk w g t cs) (hS : S g) : Hg S w (fun W => Blk W g t cs) := fun w' h1 h2 => (h2 g h.lt hS).trans h
theorem Hg.own {base : Nat} {e : TypeId} {size n : Nat} {v : Value} {xs : List Value} (h : w.ownsRow base e size v n xs) (hS : ∀ g,v.ownBlock = some g -> S g) : Hg S w (fun W => W.ownsRow base e size v n xs) := fun w' h1 h2 => by
 refine ⟨h.1,?_⟩
 have hlt := h.lt
 rcases h.2 with h3 | ⟨g,cap,cur,rfl,hbg,hh,r⟩
 ·exact .inl h3
 ·exact .inr ⟨g,cap,cur,rfl,hbg,(h2 g (hlt g rfl).2 (hS g rfl)).trans hh,r⟩
end
end Go.Proofs.YtkmaeipoaoikpaaGreat
