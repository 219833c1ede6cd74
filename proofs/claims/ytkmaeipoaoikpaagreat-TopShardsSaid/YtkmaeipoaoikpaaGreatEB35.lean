/- RNet4, RNet5. -/
import Derived.Test.YtkmaeipoaoikpaaGreatEB34
namespace Go.Proofs.YtkmaeipoaoikpaaGreat
set_option linter.all false
set_option maxRecDepth 100000
set_option maxHeartbeats 4000000
open Lib (hid)
section
open Go.RowKit
def colR (l P : List Int) (q : Int) (k c : Nat) (d : List Int) : Nat -> Int
 | 0 => 0
 | r + 1 => wrap64 (colR l P q k c d r + mulQ (wtR l P k r c) (d.getD r 0) q)
def erF (l P : List Int) (q : Int) (k : Nat) (v d : List Int) (c : Nat) : Int := gateV (v.getD c 0) (colR l P q k c d d.length)
def erR (l : List Int) (n : Nat) (P : List Int) (q : Int) (V : Nat -> List Int) (y : List Int) : Nat -> List Int
 | 0 => natL (szN l (n - 1)) fun i => wrap64 ((V (n - 1)).getD i 0 - y.getD i 0)
 | j + 1 => natL (szN l (n - 2 - j)) (erF l P q (n - 2 - j) (V (n - 2 - j)) (erR l n P q V y j))
theorem erR_length (l : List Int) (n : Nat) (P : List Int) (q : Int) (V : Nat -> List Int) (y : List Int) : ∀ j,(erR l n P q V y j).length = szN l (n - 1 - j)
 | 0 => by rw [erR,natL_length]; rfl
 | j + 1 => by rw [erR,natL_length,show n - 1 - (j + 1) = n - 2 - j by omega]
theorem colR_in {l P : List Int} {q : Int} {k c : Nat} {d : List Int} : ∀ r,In1 (colR l P q k c d r)
 | 0 => by unfold colR; exact ⟨by decide,by decide⟩
 | r + 1 => wrap64_in1 _
theorem erR_in {l : List Int} {n : Nat} {P : List Int} {q : Int} {V : Nat -> List Int} {y : List Int} : ∀ j,AllIn (erR l n P q V y j)
 | 0 => by
  intro v hv
  obtain ⟨i,_,rfl⟩ := List.mem_map.1 hv
  exact wrap64_in1 _
 | j + 1 => by
  intro v hv
  obtain ⟨i,_,rfl⟩ := List.mem_map.1 hv
  unfold erF gateV
  split
  ·exact colR_in _
  ·exact ⟨by decide,by decide⟩
theorem wrap_bothR (n : Int) : IntKind.i64.wrap n = wrap64 n := by unfold wrap64; exact IntKind.wrap_i64 n
theorem rdI_at {w : World} {A : Option Addr} {n i : Nat} {l : List Int} (h : Rd w 1 A n (iv l)) (hi : i < n) : ∃ b o,A = some ⟨b,o,none⟩ /\ b < w.heap.size /\ w.cell? ⟨b,o + i,none⟩ = some (.int .i64 (l.getD i 0)) := by
 have hl : l.length = n := by have := h.1; rw [iv_length] at this; omega
 obtain ⟨b,o,e,hlt,hc⟩ := h.2 (by omega)
 refine ⟨b,o,e,hlt,hc i _ ?_⟩
 unfold iv
 rw [List.getElem?_map,List.getElem?_eq_getElem (by omega),List.getD_eq_getElem?_getD,List.getElem?_eq_getElem (by omega)]
 rfl
theorem rdS_at {w : World} {A : Option Addr} {n i : Nat} {ss : List Sl3'} {s : Sl3'} (h : Rd w 1 A n (ss.map slv)) (hs : ss[i]? = some s) (hi : i < n) : ∃ b o,A = some ⟨b,o,none⟩ /\ b < w.heap.size /\ w.cell? ⟨b,o + i,none⟩ = some (.slice s.1 s.2.1 s.2.2) := by
 obtain ⟨b,o,e,hlt,hc⟩ := h.2 (by omega)
 exact ⟨b,o,e,hlt,hc i _ (by rw [List.getElem?_map,hs]; rfl)⟩
structure VsAt (w : World) (l : List Int) (n : Nat) (F : Nat -> List Int) (Av : Option Addr) (ss : List Sl3') : Prop where
 len : ss.length = n
 rd : Rd w 1 Av n (ss.map slv)
 row : ∀ j s,ss[j]? = some s -> s.2.1 = szN l j /\ Rd w 1 s.1 (szN l j) (iv (F j))
theorem VsAt.below {w w' : World} {l : List Int} {n : Nat} {F : Nat -> List Int} {Av : Option Addr} {ss : List Sl3'} (h : VsAt w l n F Av ss) (hb : Below w.heap.size w w') : VsAt w' l n F Av ss := ⟨h.len,h.rd.below hb,fun j s hs => ⟨(h.row j s hs).1,(h.row j s hs).2.below hb⟩⟩
theorem VsAt.at {w : World} {l : List Int} {n : Nat} {F : Nat -> List Int} {Av : Option Addr} {ss : List Sl3'} (h : VsAt w l n F Av ss) {k : Nat} (hk : k < n) : ∃ b o As cs,Av = some ⟨b,o,none⟩ /\ b < w.heap.size /\ w.cell? ⟨b,o + k,none⟩ = some (.slice As (szN l k) cs) /\ Rd w 1 As (szN l k) (iv (F k)) := by
 obtain ⟨⟨As,ns,cs⟩,hs⟩ : ∃ s,ss[k]? = some s := ⟨_,List.getElem?_eq_getElem (by rw [h.len]; omega)⟩
 obtain ⟨b,o,e,hlt,hc⟩ := rdS_at h.rd hs hk
 obtain ⟨e1,h1⟩ := h.row k _ hs
 dsimp only at e1 h1 hc
 subst e1
 exact ⟨b,o,As,cs,e,hlt,hc,h1⟩
end
section
open Go.RowKit
variable (A : Option Addr) (n cap : Nat) (l : List Int) (Ap : Option Addr) (NP cp : Nat) (P : List Int) (q : Int) (Av : Option Addr) (cv : Nat) (F : Nat → List Int) (ss : List Sl3') (Y : Option Addr) (M cy : Nat) (y : List Int)
theorem refErrors_last (w : World) (h : RNetAt w A n cap l Ap NP cp P q) (hv : VsAt w l n F Av ss) (hM : M = szN l (n - 1)) (hy : Rd w 1 Y M (iv y)) :
  Calls Tryz.prog 175 #[rnetV A n cap Ap NP cp q,.int .i64 ((n - 1 : Nat) : Int),.slice Av n cv,.slice Y M cy] w (OwnRet w 2 1 (szN l (n - 1)) (iv (erR l n P q F y 0))) := by
 have hn2 := h.ok.n2
 have hn16 := h.ok.n16
 have hM1 := (h.ok.sz (show n - 1 < n by omega)).2
 rw [<- hM] at hM1
 obtain ⟨gv,ov,As,cs,rfl,vlt,vc,vr⟩ := hv.at (show n - 1 < n by omega)
 have HLA := hid (fun W => refLast_any A n cap Ap NP cp q W (by omega) (by omega))
 have HY := hid hy
 have HVR := hid vr
 have HVC := hid vc
 have HG : Hid (∀ W,w.alloc (.cells (rnetC A n cap Ap NP cp q) 202) = W -> Below w.heap.size w W /\ Blk W w.heap.size 202 (rnetC A n cap Ap NP cp q)) := hid (by
  rintro W rfl
  exact ⟨(Below.refl _ _).alloc (Nat.le_refl _) _,Blk.new _ _ _⟩)
 obtain ⟨N1,hN1⟩ : ∃ N1,n - 1 = N1 := ⟨_,rfl⟩
 rw [hN1] at HLA HVR HVC hM
 have her : erR l n P q F y 0 = natL M fun i => wrap64 ((F N1).getD i 0 - y.getD i 0) := by rw [erR,hN1,hM]
 rw [hN1,<- hM,her]
 have HM := hid hM
 clear her h hv hy vr vc
 obtain ⟨G,hG⟩ : ∃ G : Nat -> Int,(fun i => wrap64 ((F N1).getD i 0 - y.getD i 0)) = G := ⟨_,rfl⟩
 have HGG := hid (fun i => congrFun hG i)
 rw [hG]
 clear hG
 rw [<- hM] at HVR HVC
 go_enter Tryz.func175,Tryz.ntmps175
 go_wp2_with fail
 obtain ⟨w0,hw0⟩ : ∃ w0,w.alloc (.cells (rnetC A n cap Ap NP cp q) 202) = w0 := ⟨_,rfl⟩
 obtain ⟨hB,hI⟩ := HG.out _ hw0
 rw [hw0]
 have HB := hid hB
 ((with_reducible refine (HLA.out _).mono ?_); rintro e w1 ⟨rfl,hb1⟩)
 have HB1 := hid (hB.trans (hb1.mono hB.size))
 clear hb1 hB hI hw0 HG
 have HY1 := hid (HY.out.below HB1.out)
 have HVR1 := hid (HVR.out.below HB1.out)
 go_wp2_with fail
 go_loopw [9,10] (fun o v wr => ∃ (i : Nat) (A9 : Option Addr) (c9 : Nat),i <= M /\ v = .int .i64 i /\ o = .slice A9 i c9 /\ wr.ownsRow w1.heap.size 2 1 (.slice A9 i c9) i (iv (natL i G)) /\ Below w1.heap.size w1 wr) (fun _ v _ => M - (intOf v).toNat)
 case atStart => exact ⟨0,none,0,by omega,rfl,rfl,World.ownsRow_nil _ _ _ _,Below.refl _ _⟩
 case round =>
  obtain ⟨i,A9,c9,hi,rfl,rfl,ho,hb⟩ := hrel
  have HO := hid ho
  have HBX := hid hb
  have HBW := hid (HB1.out.trans (hb.mono HB1.out.size))
  by_cases hlt : i < M
  ·obtain ⟨gy,oy,rfl,yl,yc⟩ := rdI_at (HY1.out.below hb) hlt
   obtain ⟨gs,os,rfl,sl,sc⟩ := rdI_at (HVR1.out.below hb) hlt
   have vc : wr.cell? ⟨gv,ov + N1,none⟩ = some (.slice (some ⟨gs,os,none⟩) M cs) := (HBW.out.cell (p := ⟨gv,ov + N1,none⟩) vlt).trans HVC.out
   have vl : gv < wr.heap.size := Nat.lt_of_lt_of_le vlt HBW.out.size
   have hg : wrap64 ((F N1).getD i 0 - y.getD i 0) = G i := HGG.out i
   obtain ⟨a,ha⟩ : ∃ a,(F N1).getD i 0 = a := ⟨_,rfl⟩
   obtain ⟨b,hbb⟩ : ∃ b,y.getD i 0 = b := ⟨_,rfl⟩
   rw [ha] at sc hg
   rw [hbb] at yc hg
   have HGI := hid hg
   have HLT := hid hlt
   have r2 : (i : Int) < (M : Int) := by omega
   have hnn : N1 < n := by omega
   clear ho hb hg ha hbb hlt
   have hszz := HBX.out.size
   go_wp2_with fail
   refine wp_region_early (Kept wr) [0,1,2,3,4,5,6,7,8,9,10,11,12] [13] [14,15] (by kernel_rfl) (by kernel_rfl) (Kept.start wr) ?_
   simp only [List.filterMap_cons,List.filterMap_nil,List.getElem?_cons_succ,List.getElem?_cons_zero]
   have hwr := wrap_bothR (a - b)
   refine early_step (.slice A9 i c9) rfl (fun W hW => ?_) ?_
   ·obtain ⟨hc,-,-⟩ := hW
    go_simp
   go_simp
   refine early_step (.slice (some ⟨gv,ov,none⟩) n cv) rfl (fun W hW => ?_) ?_
   ·obtain ⟨hc,-,-⟩ := hW
    go_simp
   go_simp
   refine early_step (.int .i64 N1) rfl (fun W hW => ?_) ?_
   ·obtain ⟨hc,-,-⟩ := hW
    go_simp
   go_simp
   refine early_step (.pointer (some ⟨gv,ov + N1,none⟩)) rfl (fun W hW => ?_) ?_
   ·obtain ⟨hc,-,-⟩ := hW
    go_simp
   go_simp
   refine early_step (.slice (some ⟨gs,os,none⟩) M cs) rfl (fun W hW => ?_) ?_
   ·obtain ⟨hc,-,-⟩ := hW
    go_simp
   go_simp
   refine early_step (.int .i64 i) rfl (fun W hW => ?_) ?_
   ·obtain ⟨hc,-,-⟩ := hW
    go_simp
   go_simp
   refine early_step (.pointer (some ⟨gs,os + i,none⟩)) rfl (fun W hW => ?_) ?_
   ·obtain ⟨hc,-,-⟩ := hW
    go_simp
   go_simp
   refine early_step (.int .i64 a) rfl (fun W hW => ?_) ?_
   ·obtain ⟨hc,-,-⟩ := hW
    go_simp
   go_simp
   refine early_step (.slice (some ⟨gy,oy,none⟩) M cy) rfl (fun W hW => ?_) ?_
   ·obtain ⟨hc,-,-⟩ := hW
    go_simp
   go_simp
   refine early_step (.int .i64 i) rfl (fun W hW => ?_) ?_
   ·obtain ⟨hc,-,-⟩ := hW
    go_simp
   go_simp
   refine early_step (.pointer (some ⟨gy,oy + i,none⟩)) rfl (fun W hW => ?_) ?_
   ·obtain ⟨hc,-,-⟩ := hW
    go_simp
   go_simp
   refine early_step (.int .i64 b) rfl (fun W hW => ?_) ?_
   ·obtain ⟨hc,-,-⟩ := hW
    go_simp
   go_simp
   refine early_step (.int .i64 (wrap64 (a - b))) rfl (fun W hW => ?_) ?_
   ·obtain ⟨hc,-,-⟩ := hW
    go_simp
   go_simp
   unfold EarlyW
   change RestW _ _ _ _ _ (_ :: []) _ _
   unfold RestW
   go_wp2_with fail
   refine ⟨(Kept.start wr).alloc _,?_⟩
   unfold RestW
   change wpList _ _ _ (_ :: _ :: []) _ _
   have HOd := hid (show wr.drew.ownsRow w1.heap.size 2 1 (.slice A9 i c9) i (iv (natL i G)) from HO.out)
   go_wp2_with (at_builtin; go_must (refine wpList_push (w := wr.drew) slI64 rfl _ _ rfl w1.heap.size (.slice A9 i c9) i (iv (natL i G)) rfl HOd.out #[.int .i64 (wrap64 (a - b))] wr.drew.heap.size rfl rfl rfl (rone_int _) (by unfold maxLen; omega) (by omega) hszz ?_); go_must (intro A4 c4 w4 hown4 hb4))
   refine NoPanic.normal ?_
   have HO9 := hid (show w4.ownsRow w1.heap.size 2 1 (.slice A4 (i + 1) c4) (i + 1) (iv (natL (i + 1) G)) by
    rw [natL_snocR,iv_append,<- HGI.out]
    exact hown4)
   have HB9 := hid (HBX.out.drew.trans hb4)
   clear hown4 hb4
   go_wp2_with fail
   go_roundw
   case rel => exact ⟨i + 1,A4,c4,HLT.out,by go_num,rfl,HO9.out,HB9.out⟩
   case measure => simp [intOf]; have := HLT.out; omega
  ·obtain rfl : i = M := by omega
   go_wp2_with fail
   go_ret
   exact ⟨A9,c9,rfl,own_base HO.out HB1.out.size,HBW.out⟩
theorem refErrors_step (j : Nat) (w : World) (h : RNetAt w A n cap l Ap NP cp P q) (hv : VsAt w l n F Av ss) (hj : j + 1 < n - 1) (hy : Rd w 1 Y M (iv y))
  (ih : ∀ W,RNetAt W A n cap l Ap NP cp P q -> VsAt W l n F Av ss -> Rd W 1 Y M (iv y) -> Calls Tryz.prog 175 #[rnetV A n cap Ap NP cp q,.int .i64 ((n - 1 - j : Nat) : Int),.slice Av n cv,.slice Y M cy] W (OwnRet W 2 1 (szN l (n - 1 - j)) (iv (erR l n P q F y j)))) :
  Calls Tryz.prog 175 #[rnetV A n cap Ap NP cp q,.int .i64 ((n - 1 - (j + 1) : Nat) : Int),.slice Av n cv,.slice Y M cy] w (OwnRet w 2 1 (szN l (n - 1 - (j + 1))) (iv (erR l n P q F y (j + 1)))) := by
 have hn2 := h.ok.n2
 have hn16 := h.ok.n16
 obtain ⟨k,hk⟩ : ∃ k,n - 2 - j = k := ⟨_,rfl⟩
 have hk1 : n - 1 - (j + 1) = k := by omega
 have hk2 : n - 1 - j = k + 1 := by omega
 have hkn : k + 1 < n := by omega
 obtain ⟨ga,oa,gp,op,rfl,rfl⟩ := rnet_some h
 obtain ⟨gv,ov,As,cs,rfl,vlt,vc,vr⟩ := hv.at (show k < n by omega)
 obtain ⟨dl,hdl⟩ : ∃ d,erR l n P q F y j = d := ⟨_,rfl⟩
 have hdlen : dl.length = szN l (k + 1) := by rw [<- hdl,erR_length,hk2]
 have hdin : AllIn dl := by rw [<- hdl]; exact erR_in j
 have her : erR l n P q F y (j + 1) = natL (szN l k) (erF l P q k (F k) dl) := by rw [erR,hk,hdl]
 rw [hk1,her]
 rw [hk2,hdl] at ih
 have HIH := hid ih
 have HLA := hid (fun W => refLast_any (some ⟨ga,oa,none⟩) n cap (some ⟨gp,op,none⟩) NP cp q W (by omega) (by omega))
 have HH := hid h
 have HV := hid hv
 have HY := hid hy
 have HVR := hid vr
 have HVC := hid vc
 have HDIN := hid hdin
 have HDL := hid hdlen
 have hR1 := (h.ok.sz (show k + 1 < n by omega)).2
 have hC1 := (h.ok.sz (show k < n by omega)).2
 have HG : Hid (∀ W,w.alloc (.cells (rnetC (some ⟨ga,oa,none⟩) n cap (some ⟨gp,op,none⟩) NP cp q) 202) = W -> Below w.heap.size w W /\ Blk W w.heap.size 202 (rnetC (some ⟨ga,oa,none⟩) n cap (some ⟨gp,op,none⟩) NP cp q)) := hid (by
  rintro W rfl
  exact ⟨(Below.refl _ _).alloc (Nat.le_refl _) _,Blk.new _ _ _⟩)
 obtain ⟨N1,hN1⟩ : ∃ N1,n - 1 = N1 := ⟨_,rfl⟩
 rw [hN1] at HLA
 have e1 : ((k : Int) == (N1 : Int)) = false := by simp; omega
 clear h hv hy vr vc ih hk hk1 hk2 her hdl hdlen hdin
 go_enter Tryz.func175,Tryz.ntmps175
 go_wp2_with fail
 obtain ⟨w0,hw0⟩ : ∃ w0,w.alloc (.cells (rnetC (some ⟨ga,oa,none⟩) n cap (some ⟨gp,op,none⟩) NP cp q) 202) = w0 := ⟨_,rfl⟩
 obtain ⟨hB,hI⟩ := HG.out _ hw0
 rw [hw0]
 have HB := hid hB
 ((with_reducible refine (HLA.out _).mono ?_); rintro e w1 ⟨rfl,hb1⟩)
 have HB1 := hid (hB.trans (hb1.mono hB.size))
 have HI1 := hid (hI.kept hb1)
 clear hb1 hB hI hw0 HG
 have y0 : w1.cell? ⟨w.heap.size,0,none⟩ = some (.slice (some ⟨ga,oa,none⟩) n cap) := HI1.out.cell 0
 have y1 : w1.cell? ⟨w.heap.size,1,none⟩ = some (.slice (some ⟨gp,op,none⟩) NP cp) := HI1.out.cell 1
 have y2 : w1.cell? ⟨w.heap.size,2,none⟩ = some (.int .i64 q) := HI1.out.cell 2
 have yl := HI1.out.lt
 have hw : ((k + 1 : Nat) : Int) = (k : Int) + 1 := by omega
 go_wp2_with fail
 rw [<- hw]
 ((with_reducible refine (HIH.out _ (HH.out.below HB1.out) (HV.out.below HB1.out) (HY.out.below HB1.out)).mono ?_); rintro e w2 ⟨Ad,cd,rfl,ho2,hb2⟩)
 have HB2 := hid (HB1.out.trans (hb2.mono HB1.out.size))
 have HI2 := hid (HI1.out.kept hb2)
 have HD2 := hid (Rd.of_own ho2)
 obtain ⟨R,hR⟩ : ∃ R,szN l (k + 1) = R := ⟨_,rfl⟩
 obtain ⟨C,hC⟩ : ∃ C,szN l k = C := ⟨_,rfl⟩
 have HRR := hid hR
 have HCC := hid hC
 rw [hR] at HD2 hR1 HDL
 rw [hC] at HVR HVC hC1
 rw [hR,hC]
 clear ho2 hb2 y0 y1 y2 yl hR hC hw
 go_wp2_with fail
 obtain ⟨G,hG⟩ : ∃ G : Nat -> Int,erF l P q k (F k) dl = G := ⟨_,rfl⟩
 have HGG := hid (fun i => congrFun hG i)
 rw [hG]
 clear hG
 have hzl := (rnet_sz HH.out.ok (show 0 < n by omega) HH.out.rl).2
 go_loopw [9,12] (fun o v wr => ∃ (c : Nat) (A9 : Option Addr) (c9 : Nat),c <= C /\ v = .int .i64 c /\ o = .slice A9 c c9 /\ wr.ownsRow w2.heap.size 2 1 (.slice A9 c c9) c (iv (natL c G)) /\ Below w2.heap.size w2 wr) (fun _ v _ => C - (intOf v).toNat)
 case atStart => exact ⟨0,none,0,by omega,rfl,rfl,World.ownsRow_nil _ _ _ _,Below.refl _ _⟩
 case round =>
  obtain ⟨c,A9,c9,hc,rfl,rfl,ho,hb⟩ := hrel
  have HO := hid ho
  have HBX := hid hb
  have HBW := hid (HB2.out.trans (hb.mono HB2.out.size))
  have HIr := hid (HI2.out.kept hb)
  obtain ⟨zc,zl⟩ := rnet_sz HH.out.ok (show k < n by omega) (HH.out.rl.below HBW.out)
  rw [HCC.out] at zc
  have y0 : wr.cell? ⟨w.heap.size,0,none⟩ = some (.slice (some ⟨ga,oa,none⟩) n cap) := HIr.out.cell 0
  have y1 : wr.cell? ⟨w.heap.size,1,none⟩ = some (.slice (some ⟨gp,op,none⟩) NP cp) := HIr.out.cell 1
  have y2 : wr.cell? ⟨w.heap.size,2,none⟩ = some (.int .i64 q) := HIr.out.cell 2
  have yl := HIr.out.lt
  obtain ⟨wm,rfl⟩ : ∃ W : World,W = wr := ⟨_,rfl⟩
  clear ho hb
  by_cases hlt : c < C
  ·have HLT := hid hlt
   have r2 : (c : Int) < (C : Int) := by omega
   clear hlt
   go_wp2_with fail
   clear y0 y1 y2 yl zc zl
   go_loopw [13,14] (fun s v wx => ∃ r : Nat,r <= R /\ v = .int .i64 r /\ s = .int .i64 (colR l P q k c dl r) /\ Below wm.heap.size wm wx) (fun _ v _ => R - (intOf v).toNat)
   case atStart => exact ⟨0,by omega,rfl,rfl,Below.refl _ _⟩
   case round =>
    obtain ⟨r,hr,rfl,rfl,hb⟩ := hrel
    have HBM := hid hb
    have HBW3 := hid (HBW.out.trans (hb.mono HBW.out.size))
    have HI3 := hid (HIr.out.kept hb)
    have y0 : wr.cell? ⟨w.heap.size,0,none⟩ = some (.slice (some ⟨ga,oa,none⟩) n cap) := HI3.out.cell 0
    have y1 : wr.cell? ⟨w.heap.size,1,none⟩ = some (.slice (some ⟨gp,op,none⟩) NP cp) := HI3.out.cell 1
    have y2 : wr.cell? ⟨w.heap.size,2,none⟩ = some (.int .i64 q) := HI3.out.cell 2
    have yl := HI3.out.lt
    have hd3 := (HD2.out.below HBX.out).below hb
    clear hb
    by_cases hlt : r < R
    ·obtain ⟨gd,od,rfl,dlt,dc⟩ := rdI_at hd3 hlt
     obtain ⟨u,hu⟩ : ∃ u,dl.getD r 0 = u := ⟨_,rfl⟩
     obtain ⟨wt,hwt⟩ : ∃ u,wtR l P k r c = u := ⟨_,rfl⟩
     obtain ⟨sm,hsm⟩ : ∃ u,colR l P q k c dl r = u := ⟨_,rfl⟩
     rw [hu] at dc
     have hHWT : ∀ u : KW wr,Calls Tryz.prog 225 #[rnetV (some ⟨ga,oa,none⟩) n cap (some ⟨gp,op,none⟩) NP cp q,.int .i64 k,.int .i64 r,.int .i64 c] u.w fun e w' => e = .returned (.int .i64 wt) /\ Below u.w.heap.size u.w w' := fun u => by
      have := refWeight_any (some ⟨ga,oa,none⟩) n cap l (some ⟨gp,op,none⟩) NP cp P q u.w k r c ((HH.out.below HBW3.out).below u.h.2.2) (by omega) (by rw [HRR.out]; exact hlt) (by rw [HCC.out]; exact HLT.out)
      rw [hwt] at this
      exact this
     have HWT2 := hid hHWT
     have HMU := hid (fun (v : KW wr) => refMulQ_any wt u q v.w (by rw [<- hwt]; exact getD_in HH.out.ok.pin _) (by rw [<- hu]; exact getD_in HDIN.out r))
     have HSN : Hid (wrap64 (sm + mulQ wt u q) = colR l P q k c dl (r + 1)) := hid (by rw [colR,hu,hwt,hsm])
     rw [hsm]
     have HR := hid hlt
     have r3 : (r : Int) < (R : Int) := by omega
     have KC := fun (u : KW wr) b o h => KW.cells u b o h
     clear hd3 hu hwt hsm hHWT hlt
     go_wp2_with fail
     refine wp_region_kept wr (by kernel_rfl) (by kernel_rfl) (Kept.of (Below.refl _ _)) ?_
     repeat (go_big_quiet_step (first | (go_at_call 225; with_reducible exact kept_call (HWT2.out _)) | (go_at_call 159; with_reducible exact kept_same (HMU.out _))))
     refine wpQuiet_nil ?_
     rintro w8 ⟨⟨_,k8⟩,rfl⟩
     go_wp2_with fail
     rw [HSN.out]
     go_roundw
     case rel => exact ⟨r + 1,HR.out,by go_num,rfl,HBM.out.trans (k8.2.2.mono HBM.out.size)⟩
     case measure => simp [intOf]; have := HR.out; omega
    ·obtain rfl : r = R := by omega
     have hvr := ((HVR.out.below HBW3.out))
     obtain ⟨gs,os,rfl,sl,sc⟩ := rdI_at hvr HLT.out
     have vc : wr.cell? ⟨gv,ov + k,none⟩ = some (.slice (some ⟨gs,os,none⟩) C cs) := (HBW3.out.cell (p := ⟨gv,ov + k,none⟩) vlt).trans HVC.out
     have vl : gv < wr.heap.size := Nat.lt_of_lt_of_le vlt HBW3.out.size
     obtain ⟨a,ha⟩ : ∃ a,(F k).getD c 0 = a := ⟨_,rfl⟩
     obtain ⟨sm,hsm⟩ : ∃ u,colR l P q k c dl r = u := ⟨_,rfl⟩
     rw [ha] at sc
     rw [hsm]
     have hgi : gateV a sm = G c := by
      rw [<- HGG.out c,erF,ha,HDL.out,hsm]
     have HGI := hid hgi
     have hor := own_below HO.out HBM.out
     have HOR := hid hor
     have hkn' : k < n := by omega
     have HBX2 := hid (HBX.out.trans (HBM.out.mono HBX.out.size))
     have hszz : w2.heap.size <= wr.heap.size := HBX2.out.size
     clear hvr ha hsm hgi hor hlt y0 y1 y2 yl hd3
     go_wp2_with fail
     ((with_reducible refine (refGate_any a sm _).mono ?_); rintro e w10 ⟨rfl,rfl⟩)
     go_wp2_with (at_builtin; go_must (refine wpList_push slI64 rfl _ _ rfl w2.heap.size _ c (iv (natL c G)) rfl HOR.out #[.int .i64 (gateV a sm)] _ rfl rfl rfl (rone_int _) (by unfold maxLen; omega) (by omega) hszz ?_); go_must (intro A4 c4 w4 hown4 hb4))
     have HO9 := hid (show w4.ownsRow w2.heap.size 2 1 (.slice A4 (c + 1) c4) (c + 1) (iv (natL (c + 1) G)) by
      rw [natL_snocR,iv_append,<- HGI.out]
      exact hown4)
     have HB9 := hid (HBX2.out.trans hb4)
     clear hown4 hb4
     go_roundw
     case rel => exact ⟨c + 1,A4,c4,HLT.out,by go_num,rfl,HO9.out,HB9.out⟩
     case measure => simp [intOf]; have := HLT.out; omega
  ·obtain rfl : c = C := by omega
   go_wp2_with fail
   go_ret
   rw [HCC.out,show erF l P q k (F k) dl = G from funext HGG.out]
   exact ⟨A9,c9,rfl,own_base HO.out HB2.out.size,HBW.out⟩
theorem refErrors_any : ∀ (j : Nat) (w : World),RNetAt w A n cap l Ap NP cp P q -> VsAt w l n F Av ss -> j < n - 1 -> M = szN l (n - 1) -> Rd w 1 Y M (iv y) ->
  Calls Tryz.prog 175 #[rnetV A n cap Ap NP cp q,.int .i64 ((n - 1 - j : Nat) : Int),.slice Av n cv,.slice Y M cy] w (OwnRet w 2 1 (szN l (n - 1 - j)) (iv (erR l n P q F y j)))
 | 0,w,h,hv,_,hM,hy => refErrors_last A n cap l Ap NP cp P q Av cv F ss Y M cy y w h hv hM hy
 | j + 1,w,h,hv,hj,hM,hy => refErrors_step A n cap l Ap NP cp P q Av cv F ss Y M cy y j w h hv hj hy (fun W a b c => refErrors_any j W a b (by omega) hM c)
end
section
open Go.RowKit
abbrev Plc := Int × Int × Int
def plcV (l : List Plc) : List Value := l.flatMap fun p => [.int .i64 p.1,.int .i64 p.2.1,.int .i64 p.2.2]
theorem plcV_append (a b : List Plc) : plcV (a ++ b) = plcV a ++ plcV b := by simp [plcV]
theorem plcV_get (l : List Plc) (i : Nat) (p : Plc) (h : l[i]? = some p) : (plcV l)[i * 3]? = some (.int .i64 p.1) /\ (plcV l)[i * 3 + 1]? = some (.int .i64 p.2.1) /\ (plcV l)[i * 3 + 2]? = some (.int .i64 p.2.2) := by
 induction l generalizing i with
 | nil => simp at h
 | cons a l ih =>
  have e : plcV (a :: l) = .int .i64 a.1 :: .int .i64 a.2.1 :: .int .i64 a.2.2 :: plcV l := rfl
  rw [e]
  cases i with
  | zero =>
   obtain rfl : a = p := by simpa using h
   exact ⟨rfl,rfl,rfl⟩
  | succ i =>
   have := ih i (by simpa using h)
   rw [show (i + 1) * 3 = i * 3 + 1 + 1 + 1 by omega]
   exact this
def plcR (k r C : Nat) : List Plc := (List.range C).map fun (c : Nat) => ((k : Int),(r : Int),(c : Int))
def plcW (k R C : Nat) : List Plc := (List.range R).flatMap fun r => plcR k r C
def plcB (k R : Nat) : List Plc := (List.range R).map fun (r : Nat) => ((k : Int),(r : Int),(-1 : Int))
def plcL (l : List Int) : Nat -> List Plc
 | 0 => []
 | k + 1 => plcL l k ++ plcW k (szN l (k + 1)) (szN l k) ++ plcB k (szN l (k + 1))
theorem plcR_succ (k r C : Nat) : plcR k r (C + 1) = plcR k r C ++ [((k : Int),(r : Int),(C : Int))] := by simp [plcR,List.range_succ]
theorem plcW_succ (k R C : Nat) : plcW k (R + 1) C = plcW k R C ++ plcR k R C := by simp [plcW,List.range_succ]
theorem plcB_succ (k R : Nat) : plcB k (R + 1) = plcB k R ++ [((k : Int),(R : Int),(-1 : Int))] := by simp [plcB,List.range_succ]
theorem plcR_length (k r C : Nat) : (plcR k r C).length = C := by simp [plcR]
theorem plcW_length (k R C : Nat) : (plcW k R C).length = R * C := by
 induction R with
 | zero => simp [plcW]
 | succ R ih => rw [plcW_succ,List.length_append,ih,plcR_length,Nat.succ_mul]
theorem plcB_length (k R : Nat) : (plcB k R).length = R := by simp [plcB]
theorem plcL_length (l : List Int) : ∀ k,(plcL l k).length = ofN l k
 | 0 => rfl
 | k + 1 => by rw [plcL,List.length_append,List.length_append,plcL_length l k,plcW_length,plcB_length,ofN]
theorem slPlc : Sl Tryz.prog 308 313 (.agg #[.int .i64 0,.int .i64 0,.int .i64 0]) 3 24 := ⟨Tryz.underlying308,by kernel_rfl,rfl,by omega⟩
theorem three_int (x y z : Int) : ∀ u ∈ (#[Value.int .i64 x,.int .i64 y,.int .i64 z] : Array Value).toList,u.oneCell' = true := by
 intro u hu
 simp at hu
 rcases hu with rfl | rfl | rfl <;> rfl
end
section
open Go.RowKit
variable (A : Option Addr) (n cap : Nat) (l : List Int) (NP : Nat) (P : List Int) (q : Int) (w : World)
theorem refPlaces_any (hN : NetP l n NP P q) (h : Rd w 1 A n (iv l)) :
  Calls Tryz.prog 173 #[.slice A n cap] w (OwnRet w 313 3 NP (plcV (plcL l (n - 1)))) := by
 have hn2 := hN.n2
 have hn16 := hN.n16
 obtain ⟨ga,oa,rfl,hlt0,_⟩ := h.2 (by omega)
 have HN := hid hN
 have HR := hid h
 clear hN h
 go_enter Tryz.func173,Tryz.ntmps173
 go_wp2_with fail
 go_loopw [3,4] (fun o v wr => ∃ (k : Nat) (B : Option Addr) (N c : Nat),k + 1 <= n /\ v = .int .i64 k /\ o = .slice B N c /\ N = ofN l k /\ wr.ownsRow w.heap.size 313 3 (.slice B N c) N (plcV (plcL l k)) /\ Below w.heap.size w wr) (fun _ v _ => n - (intOf v).toNat)
 case atStart => exact ⟨0,none,0,0,by omega,rfl,rfl,rfl,World.ownsRow_nil _ _ _ _,Below.refl _ _⟩
 case round =>
  obtain ⟨k,B,N,c,hk,rfl,rfl,hNN,ho,hb⟩ := hrel
  have HO := hid ho
  have HB := hid hb
  have HNN := hid hNN
  by_cases hlt : k + 1 < n
  ·obtain ⟨R,hR⟩ : ∃ R,szN l (k + 1) = R := ⟨_,rfl⟩
   obtain ⟨C,hC⟩ : ∃ C,szN l k = C := ⟨_,rfl⟩
   have hfit := HN.out.fit (show k < n - 1 by omega)
   have hob : obN l k = ofN l k + R * C := by rw [obN,hR,hC]
   have hnp := HN.out.np
   rw [hob,<- hNN,hR] at hfit
   have HFIT : Hid (N + R * C + R <= 1000) := hid (by omega)
   have hRC : R <= 1000 /\ C <= 1000 := by
    rw [<- hR,<- hC]
    exact ⟨(HN.out.sz (by omega)).2.2,(HN.out.sz (by omega)).2.2⟩
   obtain ⟨hR1,hC1⟩ := hRC
   have HRR := hid hR
   have HCC := hid hC
   have HLT := hid hlt
   have r2 : (k : Int) + 1 < (n : Int) := by omega
   obtain ⟨L0,hL0⟩ : ∃ L,plcL l k = L := ⟨_,rfl⟩
   rw [hL0] at HO
   have HL0 := hid hL0
   have HLL : Hid (L0.length = N) := hid (by rw [<- hL0,plcL_length,<- hNN])
   clear ho hb hNN hR hC hob hfit hnp hlt hL0
   go_wp2_with fail
   obtain ⟨wk,rfl⟩ : ∃ W : World,W = wr := ⟨_,rfl⟩
   go_loopw [3,5] (fun o v wx => ∃ (r : Nat) (B : Option Addr) (N2 c : Nat),r <= R /\ v = .int .i64 r /\ o = .slice B N2 c /\ N2 = N + r * C /\ wx.ownsRow w.heap.size 313 3 (.slice B N2 c) N2 (plcV (L0 ++ plcW k r C)) /\ Below w.heap.size w wx) (fun _ v _ => R - (intOf v).toNat)
   case atStart => exact ⟨0,B,N,c,by omega,rfl,rfl,by omega,by simp only [plcW,List.range_zero,List.flatMap_nil,List.append_nil]; exact HO.out,HB.out⟩
   case round =>
    obtain ⟨r,B2,N2,c2,hr,rfl,rfl,hN2,ho,hb⟩ := hrel
    obtain ⟨zc,zl⟩ := rnet_sz HN.out (show k + 1 < n by omega) (HR.out.below hb)
    rw [HRR.out] at zc
    have HO2 := hid ho
    have HB2 := hid hb
    have HN2 := hid hN2
    by_cases hlt : r < R
    ·have HLR := hid hlt
     have r3 : (r : Int) < (R : Int) := by omega
     obtain ⟨L1,hL1⟩ : ∃ L,L0 ++ plcW k r C = L := ⟨_,rfl⟩
     rw [hL1] at HO2
     have HL1 := hid hL1
     have hkn := HLT.out
     have HFR : Hid (N2 + C <= 1000) := hid (by
      have h1 := HFIT.out
      have h2 : (r + 1) * C <= R * C := Nat.mul_le_mul_right _ hlt
      rw [Nat.succ_mul] at h2
      omega)
     clear ho hb hN2 hlt hL1
     go_wp2_with fail
     clear zc zl
     go_loopw [3,6] (fun o v wx => ∃ (j : Nat) (B : Option Addr) (N3 c : Nat),j <= C /\ v = .int .i64 j /\ o = .slice B N3 c /\ N3 = N2 + j /\ wx.ownsRow w.heap.size 313 3 (.slice B N3 c) N3 (plcV (L1 ++ plcR k r j)) /\ Below w.heap.size w wx) (fun _ v _ => C - (intOf v).toNat)
     case atStart => exact ⟨0,B2,N2,c2,by omega,rfl,rfl,by omega,by simp only [plcR,List.range_zero,List.map_nil,List.append_nil]; exact HO2.out,HB2.out⟩
     case round =>
      obtain ⟨j,B3,N3,c3,hj,rfl,rfl,hN3,ho,hb⟩ := hrel
      obtain ⟨zc,zl⟩ := rnet_sz HN.out (show k < n by omega) (HR.out.below hb)
      rw [HCC.out] at zc
      have HO3 := hid ho
      have HB3 := hid hb
      have HN3 := hid hN3
      have hkn2 : k < n := by omega
      by_cases hlt : j < C
      ·have HLJ := hid hlt
       have r4 : (j : Int) < (C : Int) := by omega
       have hb3 : N3 + 1 <= 1001 := by have := HFR.out; omega
       have hszz := HB3.out.size
       clear ho hb hN3 hlt
       go_wp2_with (at_builtin; go_must (refine wpList_push slPlc rfl _ _ rfl w.heap.size _ N3 (plcV (L1 ++ plcR k r j)) rfl HO3.out #[.int .i64 k,.int .i64 r,.int .i64 j] _ rfl rfl rfl (three_int _ _ _) (by unfold maxLen; omega) (by omega) hszz ?_); go_must (intro A4 c4 w4 hown4 hb4))
       have HO9 := hid (show w4.ownsRow w.heap.size 313 3 (.slice A4 (N3 + 1) c4) (N3 + 1) (plcV (L1 ++ plcR k r (j + 1))) by
        rw [plcR_succ,<- List.append_assoc,plcV_append]
        exact hown4)
       have HB9 := hid (HB3.out.trans hb4)
       clear hown4 hb4
       go_roundw
       case rel => exact ⟨j + 1,A4,N3 + 1,c4,HLJ.out,by go_num,rfl,by have := HN3.out; omega,HO9.out,HB9.out⟩
       case measure => simp [intOf]; have := HLJ.out; omega
      ·obtain rfl : j = C := by omega
       have hfin : L1 ++ plcR k r j = L0 ++ plcW k (r + 1) j := by rw [plcW_succ,<- List.append_assoc,HL1.out]
       rw [hfin] at HO3
       clear ho hb hN3 hlt hfin
       go_wp2_with fail
       go_roundw
       case rel => exact ⟨r + 1,B3,N3,c3,HLR.out,by go_num,rfl,by have := HN3.out; have := HN2.out; rw [Nat.succ_mul]; omega,HO3.out,HB3.out⟩
       case measure => simp [intOf]; have := HLR.out; omega
    ·obtain rfl : r = R := by omega
     obtain ⟨L1,hL1⟩ : ∃ L,L0 ++ plcW k r C = L := ⟨_,rfl⟩
     rw [hL1] at HO2
     have HL1 := hid hL1
     have hkn := HLT.out
     have HFR : Hid (N2 + r <= 1000) := hid (by have h1 := HFIT.out; omega)
     clear ho hb hN2 hlt hL1
     go_wp2_with fail
     clear zc zl
     go_loopw [3,7] (fun o v wx => ∃ (j : Nat) (B : Option Addr) (N3 c : Nat),j <= r /\ v = .int .i64 j /\ o = .slice B N3 c /\ N3 = N2 + j /\ wx.ownsRow w.heap.size 313 3 (.slice B N3 c) N3 (plcV (L1 ++ plcB k j)) /\ Below w.heap.size w wx) (fun _ v _ => r - (intOf v).toNat)
     case atStart => exact ⟨0,B2,N2,c2,by omega,rfl,rfl,by omega,by simp only [plcB,List.range_zero,List.map_nil,List.append_nil]; exact HO2.out,HB2.out⟩
     case round =>
      obtain ⟨j,B3,N3,c3,hj,rfl,rfl,hN3,ho,hb⟩ := hrel
      obtain ⟨zc,zl⟩ := rnet_sz HN.out (show k + 1 < n by omega) (HR.out.below hb)
      rw [HRR.out] at zc
      have HO3 := hid ho
      have HB3 := hid hb
      have HN3 := hid hN3
      by_cases hlt : j < r
      ·have HLJ := hid hlt
       have r4 : (j : Int) < (r : Int) := by omega
       have hb3 : N3 + 1 <= 1001 := by have := HFR.out; omega
       have hszz := HB3.out.size
       clear ho hb hN3 hlt
       go_wp2_with (at_builtin; go_must (refine wpList_push slPlc rfl _ _ rfl w.heap.size _ N3 (plcV (L1 ++ plcB k j)) rfl HO3.out #[.int .i64 k,.int .i64 j,.int .i64 (-1)] _ rfl rfl rfl (three_int _ _ _) (by unfold maxLen; omega) (by omega) hszz ?_); go_must (intro A4 c4 w4 hown4 hb4))
       have HO9 := hid (show w4.ownsRow w.heap.size 313 3 (.slice A4 (N3 + 1) c4) (N3 + 1) (plcV (L1 ++ plcB k (j + 1))) by
        rw [plcB_succ,<- List.append_assoc,plcV_append]
        exact hown4)
       have HB9 := hid (HB3.out.trans hb4)
       clear hown4 hb4
       go_roundw
       case rel => exact ⟨j + 1,A4,N3 + 1,c4,HLJ.out,by go_num,rfl,by have := HN3.out; omega,HO9.out,HB9.out⟩
       case measure => simp [intOf]; have := HLJ.out; omega
      ·obtain rfl : j = r := by omega
       have hfin : L1 ++ plcB k j = plcL l (k + 1) := by rw [plcL,HL0.out,HRR.out,HCC.out,HL1.out]
       rw [hfin] at HO3
       have hn3 : N3 = ofN l (k + 1) := by
        have := plcL_length l (k + 1)
        have h1 := HN3.out
        have h2 := HN2.out
        have h3 := HNN.out
        rw [ofN,HRR.out,HCC.out,<- h3]
        exact h1.trans (by rw [h2])
       have HN3' := hid hn3
       clear ho hb hN3 hlt hfin hn3
       go_wp2_with fail
       go_roundw
       case rel => exact ⟨k + 1,B3,N3,c3,by omega,by go_num,rfl,HN3'.out,HO3.out,HB3.out⟩
       case measure => simp [intOf]; omega
  ·obtain rfl : n = k + 1 := by omega
   have hcn := HN.out.cnt
   clear ho hb hlt
   go_wp2_with fail
   go_ret
   rw [Nat.add_sub_cancel] at hcn ⊢
   obtain rfl : N = NP := by have := HNN.out; omega
   exact ⟨B,c,rfl,HO.out,HB.out⟩
end
end Go.Proofs.YtkmaeipoaoikpaaGreat
