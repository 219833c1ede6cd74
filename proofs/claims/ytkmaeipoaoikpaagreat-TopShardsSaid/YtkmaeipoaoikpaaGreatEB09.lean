/- PartSizes, FixpSum, Sgd, Sgd2. -/
import Derived.Test.YtkmaeipoaoikpaaGreatEB07
namespace Go.Proofs.YtkmaeipoaoikpaaGreat
set_option linter.all false
set_option maxRecDepth 100000
set_option maxHeartbeats 2000000
open Lib (hid)
section
open Go.RowKit
theorem size_of (x y d : Nat) (w : World) (hy : y = x + d) (hx : x <= 1000000) (hd : d <= 1000000) :
  Calls Tryz.prog 230 #[.agg #[.int .i64 x,.int .i64 y]] w fun e w' => e = .returned (.int .i64 d) /\ Below w.heap.size w w' := by
 have h1 := size_any x y w (by omega) (by omega) (by omega) (by omega)
 rwa [show max ((y : Int) - (x : Int)) 0 = (d : Int) by omega] at h1
end
section
open Go.RowKit Go.Shelf
attribute [local go_sem] Oper.semAt_some
def sumW (l : List Int) : Int := l.foldl (fun s v => wrap64 (s + v)) 0
theorem sumW_snoc (pre : List Int) (x : Int) : sumW (pre ++ [x]) = wrap64 (sumW pre + x) := by simp [sumW]
theorem values1_in (F : Fence) (n : Nat) (hf : F.fn 206) (hro : F.round = none) (hn : 1 <= n) (l Bs n₀ len cap : Nat) (A : Option Addr) (zs : List Int) (hreach : len <= 10000000) (hzl : zs.length = len) (J Jx : List Int -> World -> Prop)
  (hY : ∀ pre x W,J pre W -> pre.length < len -> YieldAt F (n - 1) Tryz.prog l #[.int .i64 x] W fun e W' =>
   (e = .returned (.bool true) /\ J (pre ++ [x]) W' /\ Below n₀ W W') \/ (e = .returned (.bool false) /\ Jx (pre ++ [x]) W'))
  (W : World) (hBs : W.cell? ⟨Bs,0,none⟩ = some (.slice A len cap)) (hc : 0 < len -> ∃ b off,A = some ⟨b,off,none⟩ /\ b < n₀ /\ ∀ j u,(iv zs)[j]? = some u -> W.cell? ⟨b,off + j,none⟩ = some u) (h0 : J [] W) :
  CallsIn F n Tryz.prog 206 #[.func (.yield l) #[] #[],.pointer (some ⟨Bs,0,none⟩)] W fun e W' => (∃ v,e = .returned v) /\
   ((∃ ys,ys = zs /\ J ys W') \/ (∃ pre,pre <+: zs /\ Jx pre W')) := by
 refine callsIn_of_wp Tryz.func206 rfl hf ?_ hro
 simp only [Tryz.ntmps206,List.size_toArray,List.length_cons,List.length_nil,Nat.reduceAdd,Nat.reduceSub,Array.replicate_succ,Array.replicate_zero,List.push_toArray,List.append_toArray,List.nil_append,List.cons_append]
 gi_wp2
 gi_loopw [7] (fun i wr => ∃ k : Nat,k <= len /\ i = .int .i64 k /\ J (zs.take k) wr /\ Below n₀ W wr)
  (fun i _ => len - (intOf i).toNat)
 case atStart => exact ⟨0,Nat.zero_le _,rfl,by simpa using h0,Below.refl _ _⟩
 case round =>
  obtain ⟨k,hk,rfl,hJs,hnx⟩ := hrel
  by_cases hlt : k < len
  ·obtain ⟨b,off,rfl,hb,hcc⟩ := hc (by omega)
   have hkl : k < zs.length := by omega
   obtain ⟨fn,tmps,assign,body,hy,hR⟩ := hY _ zs[k] wr hJs (by rw [List.length_take]; omega)
   have hcx' : wr.cell? ⟨b,off + k,none⟩ = some (.int .i64 zs[k]) := (hnx.cell (p := ⟨b,off + k,none⟩) hb).trans (hcc k _ (iv_get zs k hkl))
   have hsn := List.take_succ_eq_append_getElem hkl
   generalize zs[k] = x at *
   gi_wp2
   refine hR.mono ?_
   rintro e W3 (⟨rfl,hJ3,hk3⟩ | ⟨rfl,hJx3⟩)
   ·gi_wp2
    go_roundw
    case rel => exact ⟨k + 1,by omega,by simp,by rw [hsn]; exact hJ3,hnx.trans hk3⟩
    case measure => simp [intOf]; omega
   ·gi_wp2
    refine bodyPost_ret (results_none rfl _ _ _) rfl ?_
    exact ⟨⟨_,rfl⟩,.inr ⟨_,by rw [<- hsn]; exact List.take_prefix _ _,hJx3⟩⟩
  ·obtain rfl : k = len := by omega
   rw [List.take_of_length_le (by omega)] at hJs
   gi_wp2
   go_end0
   exact ⟨⟨_,rfl⟩,.inl ⟨_,rfl,hJs⟩⟩
theorem values_in (F : Fence) (n : Nat) (hf : F.fn 149) (hro : F.round = none) (a : Option Addr) (len cap : Nat) (w : World) :
  CallsIn F n Tryz.prog 149 #[.slice a len cap] w fun e w' => e = .returned (.func (.func 206) #[] #[.pointer (some ⟨w.heap.size,0,none⟩)]) /\ w' = w.alloc (.cells #[.slice a len cap] 26) := by
 refine callsIn_of_wp Tryz.func149 rfl hf ?_ hro
 simp only [Tryz.ntmps149,List.size_toArray,List.length_cons,List.length_nil,Nat.reduceAdd,Nat.reduceSub,Array.replicate_succ,Array.replicate_zero,List.push_toArray,List.append_toArray,List.nil_append,List.cons_append]
 gi_wp2
 go_ret
 exact ⟨rfl,rfl⟩
theorem values_stops (F : Fence) (n : Nat) (hf : F.fn 206) (hro : F.round = none) (hn : 1 <= n) (Bs n₀ len cap : Nat) (A : Option Addr) (zs : List Int) (hreach : len <= 10000000) (hzl : zs.length = len) (w : World) (hBs : Bs < w.heap.size) (hn₀ : n₀ <= w.heap.size)
  (hcell : w.cell? ⟨Bs,0,none⟩ = some (.slice A len cap)) (hc : 0 < len -> ∃ b off,A = some ⟨b,off,none⟩ /\ b < n₀ /\ ∀ j u,(iv zs)[j]? = some u -> w.cell? ⟨b,off + j,none⟩ = some u) :
  SeqStopsK F n Tryz.prog 206 #[.pointer (some ⟨Bs,0,none⟩)] (fun x : Int => #[Value.int .i64 x]) (Below n₀) (fun ys => ys = zs) (fun pre => pre <+: zs) len w := fun l J Jx W hW _ _ hY h0 =>
 values1_in F n hf hro hn l Bs n₀ len cap A zs hreach hzl J Jx hY W ((hW.cell (p := ⟨Bs,0,none⟩) hBs).trans hcell)
  (fun h => by
   obtain ⟨b,off,e,hb,hcc⟩ := hc h
   exact ⟨b,off,e,hb,fun j u hu => (hW.cell (p := ⟨b,off + j,none⟩) (show b < _ by omega)).trans (hcc j u hu)⟩) h0
theorem total_in (F : Fence) (n : Nat) (hf : F.fn 148) (hf1 : F.fn 206) (hro : F.round = none) (hn : 3 <= n) (Bs n₀ len cap : Nat) (A : Option Addr) (zs : List Int) (hreach : len <= 10000000) (hzl : zs.length = len) (w : World) (hBs : Bs < w.heap.size) (hn₀ : n₀ <= w.heap.size)
  (hcell : w.cell? ⟨Bs,0,none⟩ = some (.slice A len cap)) (hc : 0 < len -> ∃ b off,A = some ⟨b,off,none⟩ /\ b < n₀ /\ ∀ j u,(iv zs)[j]? = some u -> w.cell? ⟨b,off + j,none⟩ = some u) :
  CallsIn F n Tryz.prog 148 #[.func (.func 206) #[] #[.pointer (some ⟨Bs,0,none⟩)]] w fun e W' => e = .returned (.int .i64 (sumW zs)) /\ Below w.heap.size w W' := by
 have h1 : 1 <= n := by omega
 refine callsIn_of_wp_marks Tryz.func148 rfl hf ?_ hro
 simp only [Tryz.ntmps148,List.size_toArray,List.length_cons,List.length_nil,Nat.reduceAdd,Nat.reduceSub,Array.replicate_succ,Array.replicate_zero,List.push_toArray,List.append_toArray,List.nil_append,List.cons_append]
 gi_wp2
 have bS := Boxed.new w 2 (.int .i64 0)
 have hB0 : Below w.heap.size w (w.alloc (.cells #[.int .i64 0] 2)) := (Below.refl _ w).alloc (Nat.le_refl _) _
 refine wpIn_rangeFunc_ownG hro h1 (gf := 206) (lb := #[.pointer (some ⟨Bs,0,none⟩)]) rfl hf1 (enters_of Tryz.func206 (by kernel_rfl) rfl)
  (values_stops F (n - 1) hf1 hro (by omega) Bs w.heap.size len cap A zs hreach hzl _ (by simp; omega) (by simp) ((hB0.cell (p := ⟨Bs,0,none⟩) hBs).trans hcell) (fun h => by
   obtain ⟨b,off,e,hb,hcc⟩ := hc h
   exact ⟨b,off,e,by omega,fun j u hu => (hB0.cell (p := ⟨b,off + j,none⟩) (show b < _ by omega)).trans (hcc j u hu)⟩)) belowK_t (belowK_b (by simp)) (Below.refl _ _) (fun _ => rfl)
  (fun pre W => (W.cell? ⟨w.heap.size,0,none⟩ = some (.int .i64 (sumW pre)) /\ W.frozen? ⟨w.heap.size,0,none⟩ = false) /\ Below w.heap.size w W)
  (fun _ _ _ => False)
  (OwnFrom.and (Own.from (fun s A B row hs hg hr => ⟨cell_kept hs.1 hg hr,(frozen_kept hs.1 hg hr).trans hs.2⟩) _) (ownFrom_below (Nat.le_refl _) (by simp)))
  (fun _ _ _ _ _ hs _ _ => hs)
  ⟨⟨bS.cell,bS.frozen⟩,hB0⟩
  (fun x => { tmps := #[.func (.func 206) #[] #[.pointer (some ⟨Bs,0,none⟩)],undef,.int .i64 0,.pointer (some ⟨w.heap.size,0,none⟩),.int .i64 x,.func (.func 206) #[] #[.pointer (some ⟨Bs,0,none⟩)],.int .i64 x,undef,undef,undef,undef],defers := [] }) ?assign ?body ?done ?stop
 case assign =>
  intro l x W K hK
  gi_wp2
  exact hK
 case body =>
  rintro l pre x W ⟨⟨hc,hf⟩,hB⟩ _
  gi_wp2
  exact ⟨(KeepsOthers.setCell _ _ _).from _,(Below.refl w.heap.size W).setCell (p := ⟨w.heap.size,0,none⟩) (Nat.le_refl _) _,⟨by rw [sumW_snoc]; exact World.cell?_setCell_same' _ _ _ (by rw [hc]; rfl),by rw [World.frozen?_setCell]; exact hf⟩,hB.setCell (p := ⟨w.heap.size,0,none⟩) (Nat.le_refl _) _⟩
 case done =>
  rintro D ys W hD rfl ⟨⟨hc,_⟩,hB⟩ hK
  gi_wp2
  refine ⟨by simp,.inl ⟨_,_,rfl,run_takeDeferred hK,?_⟩⟩
  exact ⟨_,results_tmp rfl _ _ _,rfl,hB.trans (belowK_b (w := w) (Nat.le_refl _) W D _ _ (by simp at hD; omega) hK rfl rfl)⟩
 case stop =>
  rintro D c pre W _ _ h _
  exact h.elim
theorem fixpSum_any (A : Option Addr) (n cap : Nat) (l : List Int) (w : World) (hl : l.length = n) (h : Rd w 1 A n (iv l)) (hn : n <= 10000000) :
  Calls Tryz.prog 63 #[.slice A n cap] w fun e w' => e = .returned (.int .i64 (sumW l)) /\ Below w.heap.size w w' := by
 have HL := hid hl
 have HR := hid h
 clear hl h
 have HV := hid ((callsIn_wide (n := 3)).1 (values_in Fence.wide 3 trivial rfl A n cap w))
 go_enter Tryz.func63,Tryz.ntmps63
 go_wp2_with fail
 ((with_reducible refine HV.out.mono ?_); rintro e w1 ⟨rfl,rfl⟩)
 have bN := Boxed.new w 26 (.slice A n cap)
 have hb0 : Below w.heap.size w (w.alloc (.cells #[.slice A n cap] 26)) := (Below.refl _ _).alloc (Nat.le_refl _) _
 have hT := (callsIn_wide (n := 3)).1 (total_in Fence.wide 3 trivial trivial rfl (by omega) w.heap.size w.heap.size n cap A l hn HL.out (w.alloc (.cells #[.slice A n cap] 26)) (by simp) (by simp) bN.cell (fun h => by
  obtain ⟨b,o,e,hlt,hcc⟩ := HR.out.2 h
  exact ⟨b,o,e,hlt,fun j u hu => (hb0.cell (p := ⟨b,o + j,none⟩) hlt).trans (hcc j u hu)⟩))
 have HT := hid hT
 clear hT bN
 go_wp2_with fail
 ((with_reducible refine HT.out.mono ?_); rintro e w2 ⟨rfl,hb2⟩)
 go_wp2
 go_ret
 exact ⟨rfl,hb0.trans (hb2.mono (by simp))⟩
end
section
open Go.RowKit
theorem sub_any_Sgd (a b : Int) (w : World) : Calls Tryz.prog 204 #[.int .i64 a,.int .i64 b] w fun e w' => e = .returned (.int .i64 (wrap64 (a - b))) /\ w = w' := by
 go_enter Tryz.func204,Tryz.ntmps204
 go_wp2
 go_ret
 exact ⟨rfl,rfl⟩
theorem rd_two (w : World) (x y : Int) : Rd (w.alloc (.cells #[.int .i64 x,.int .i64 y] 2)) 1 (some ⟨w.heap.size,0,none⟩) 2 (iv [x,y]) := by
 refine ⟨rfl,fun h => ⟨w.heap.size,0,rfl,by simp,fun j u hu => ?_⟩⟩
 have := (Blk.new w 2 #[.int .i64 x,.int .i64 y]).cell (0 + j)
 rw [this,Nat.zero_add,<- hu]
 simp [iv]
def updM (mo sh m g : Int) : Int := wrap64 (mulQ mo m sh + g)
def updP (ra sh p m' : Int) : Int := wrap64 (p - mulQ ra m' sh)
theorem wrap64_in1 (x : Int) : In1 (wrap64 x) := by unfold wrap64; constructor <;> omega
theorem updM_in (mo sh m g : Int) : In1 (updM mo sh m g) := wrap64_in1 _
theorem updP_in (ra sh p m' : Int) : In1 (updP ra sh p m') := wrap64_in1 _
theorem sumW_two (x y : Int) (hx : In1 x) : sumW [x,y] = wrap64 (x + y) := by
 simp only [sumW,List.foldl_cons,List.foldl_nil,Int.zero_add]
 congr 2
 unfold wrap64
 omega
theorem own_cell {w : World} {base : Nat} {g N c i : Nat} {l : List Int} {x : Int} {e : TypeId} (h : w.ownsRow base e 1 (.slice (some ⟨g,0,none⟩) N c) N (iv l)) (hx : l[i]? = some x) : w.cell? ⟨g,i,none⟩ = some (.int .i64 x) := by
 have hl : l.length = N := by have := h.1; rw [iv_length] at this; omega
 obtain ⟨hi,hx'⟩ := List.getElem?_eq_some_iff.1 hx
 rw [h.cellAt i (by omega),iv_get l i hi,hx']
theorem update_any (ra mo sh p m g : Int) (bp bm i N M cP cM base : Nat) (Ps Ms : List Int) (w : World) (hP : w.ownsRow base 2 1 (.slice (some ⟨bp,0,none⟩) N cP) N (iv Ps)) (hM : w.ownsRow base 2 1 (.slice (some ⟨bm,0,none⟩) M cM) M (iv Ms))
  (hp : Ps[i]? = some p) (hm : Ms[i]? = some m) (hne : bp ≠ bm) (hra : In1 ra) (hmo : In1 mo) (hpi : In1 p) (hmi : In1 m) :
  Calls Tryz.prog 280 #[.agg #[.int .i64 ra,.int .i64 mo,.int .i64 sh],.pointer (some ⟨bp,i,none⟩),.pointer (some ⟨bm,i,none⟩),.int .i64 g] w fun e w' => e = .returned (.tuple #[]) /\
   w'.ownsRow base 2 1 (.slice (some ⟨bp,0,none⟩) N cP) N (iv (Ps.set i (updP ra sh p (updM mo sh m g)))) /\ w'.ownsRow base 2 1 (.slice (some ⟨bm,0,none⟩) M cM) M (iv (Ms.set i (updM mo sh m g))) /\ But (fun b => b = bp \/ b = bm) w w' := by
 have hbp := (hP.lt bp rfl).2
 have hbm := (hM.lt bm rfl).2
 have cp : w.cell? ⟨bp,i,none⟩ = some (.int .i64 p) := own_cell hP hp
 have cm : w.cell? ⟨bm,i,none⟩ = some (.int .i64 m) := own_cell hM hm
 obtain ⟨x,hx⟩ : ∃ x,mulQ mo m sh = x := ⟨_,rfl⟩
 obtain ⟨m',hm'⟩ : ∃ m',updM mo sh m g = m' := ⟨_,rfl⟩
 obtain ⟨y,hy⟩ : ∃ y,mulQ ra m' sh = y := ⟨_,rfl⟩
 have C1 := (fun W => mulQ_any mo m sh W hmo hmi)
 have C3 := (fun W => mulQ_any ra m' sh W hra (by rw [<- hm']; exact updM_in _ _ _ _))
 simp only [hx] at C1
 simp only [hy] at C3
 have C2 : ∀ W : World,Calls Tryz.prog 63 #[.slice (some ⟨W.heap.size,0,none⟩) 2 2] (W.alloc (.cells #[.int .i64 x,.int .i64 g] 2)) fun e w' => e = .returned (.int .i64 m') /\ Below (W.heap.size + 1) (W.alloc (.cells #[.int .i64 x,.int .i64 g] 2)) w' := fun W => by
  have := fixpSum_any (some ⟨W.heap.size,0,none⟩) 2 2 [x,g] _ rfl (rd_two W x g) (by omega)
  have e : sumW [x,g] = m' := by rw [sumW_two x g (by rw [<- hx]; exact mulQ_in _ _ _),<- hm',updM,hx]
  rw [e] at this
  simpa using this
 have HC1 := hid C1
 have HC2 := hid C2
 have HC3 := hid C3
 have HX := hid hx
 have HM' := hid hm'
 have HY := hid hy
 have HP := hid hP
 have HM := hid hM
 have HPi := hid hp
 have HMi := hid hm
 clear hx hm' hy C1 C2 C3 hP hM hp hm
 go_enter Tryz.func280,Tryz.ntmps280
 go_wp2_with fail
 obtain ⟨w0,hw0⟩ : ∃ w0,w.alloc (.cells #[.int .i64 ra,.int .i64 mo,.int .i64 sh] 102) = w0 := ⟨_,rfl⟩
 have k0 : Below w.heap.size w w0 := by rw [<- hw0]; exact (Below.refl _ _).alloc (Nat.le_refl _) _
 have hR0 : Blk w0 w.heap.size 102 #[.int .i64 ra,.int .i64 mo,.int .i64 sh] := by rw [<- hw0]; exact Blk.new _ _ _
 have r0 : w0.cell? ⟨w.heap.size,0,none⟩ = some (.int .i64 ra) := hR0.cell 0
 have r1 : w0.cell? ⟨w.heap.size,1,none⟩ = some (.int .i64 mo) := hR0.cell 1
 have r2 : w0.cell? ⟨w.heap.size,2,none⟩ = some (.int .i64 sh) := hR0.cell 2
 have rlt := hR0.lt
 have cm0 : w0.cell? ⟨bm,i,none⟩ = some (.int .i64 m) := (k0.cell (p := ⟨bm,i,none⟩) hbm).trans cm
 have hlt0 : bm < w0.heap.size := by have := k0.size; omega
 rw [hw0]
 clear hw0
 refine wp_region_mix' w0 [0] [1,2,3,4,5,6,7,8,9] 10 [11,12,13] (by kernel_rfl) (by kernel_rfl) (by kernel_rfl) (Kept.of (Below.refl _ _)) ?_
 refine ⟨_,_,rfl,.inl ⟨rfl,fun w => rfl⟩,?_⟩
 simp only [PureW,List.filterMap_cons,List.filterMap_nil,List.getElem?_cons_succ,List.getElem?_cons_zero]
 go_simp
 change wpQuiet _ _ _ _ (_ :: _ :: _ :: _ :: _ :: _ :: _ :: _ :: _ :: []) _
 have KC := fun (u : KW w0) b o h => KW.cells u b o h
 iterate 9 (go_big_quiet_step ((go_at_call 205; (with_reducible exact kept_call (HC1.out _)))))
 refine wpQuiet_nil ?_
 rintro ⟨w1,k1⟩
 change wpList _ _ _ (_ :: _ :: _ :: _ :: []) _ _
 dsimp only
 clear KC
 go_wp2_with fail
 ((with_reducible refine (HC2.out _).mono ?_); rintro e w2 ⟨rfl,hb2⟩)
 have k2 := k1.call_alloc hb2
 have hO2 : w2.ownsRow base 2 1 (.slice (some ⟨bm,0,none⟩) M cM) M (iv Ms) := own_below HM.out ((Kept.of k0).call k2.2.2).2.2
 have hO2p : w2.ownsRow base 2 1 (.slice (some ⟨bp,0,none⟩) N cP) N (iv Ps) := own_below HP.out ((Kept.of k0).call k2.2.2).2.2
 have cm2 : w2.cell? ⟨bm,i,none⟩ = some (.int .i64 m) := (k2.1 bm i hlt0).trans cm0
 have fm2 : w2.frozen? ⟨bm,i,none⟩ = false := hO2.frozenAt i
 have HK2 := hid (((Kept.of k0).call k2.2.2).2.2)
 have HR2 := hid (hR0.kept k2.2.2)
 have HO2 := hid hO2
 have HO2p := hid hO2p
 clear k1 hb2 k2 hO2 hO2p r0 r1 r2 cm0 k0 hR0
 go_wp2_with fail
 refine NoPanic.normal ?_
 go_wp2_with fail
 obtain ⟨w3,hw3⟩ : ∃ w3,w2.setCell ⟨bm,i,none⟩ (.int .i64 m') = w3 := ⟨_,rfl⟩
 have hst := HO2.out.stored i (.int .i64 m')
 rw [hw3] at hst ⊢
 have HO3 := hid hst.1
 have hR3 := HR2.out.grown hst.2 (by simp; omega)
 have HO3p := hid (HO2p.out.kept hst.2 (.inr (by simp [Value.ownBlock]; omega)))
 have HB3 := hid ((But.of_below (fun b => b = bp \/ b = bm) HK2.out).trans (But.of_gr hst.2 (.inr rfl)))
 have r0 : w3.cell? ⟨w.heap.size,0,none⟩ = some (.int .i64 ra) := hR3.cell 0
 have r2 : w3.cell? ⟨w.heap.size,2,none⟩ = some (.int .i64 sh) := hR3.cell 2
 have rlt3 := hR3.lt
 have cp3 : w3.cell? ⟨bp,i,none⟩ = some (.int .i64 p) := own_cell HO3p.out HPi.out
 have cm3 : w3.cell? ⟨bm,i,none⟩ = some (.int .i64 m') := own_cell (by have := HO3.out; rwa [iv_set] at this) (by rw [List.getElem?_set_self (List.getElem?_eq_some_iff.1 HMi.out).1])
 have hltp : bp < w3.heap.size := (HO3p.out.lt bp rfl).2
 have hltm : bm < w3.heap.size := (HO3.out.lt bm rfl).2
 clear hst hw3 cm2 fm2 hR3 HO2 HO2p HK2 HR2
 refine wp_region_mix' w3 [0] [1,2,3,4,5,6,7,8,9,10,11,12] 13 [14] (by kernel_rfl) (by kernel_rfl) (by kernel_rfl) (Kept.of (Below.refl _ _)) ?_
 refine ⟨_,_,rfl,.inl ⟨rfl,fun w => rfl⟩,?_⟩
 simp only [PureW,List.filterMap_cons,List.filterMap_nil,List.getElem?_cons_succ,List.getElem?_cons_zero]
 go_simp
 change wpQuiet _ _ _ _ (_ :: _ :: _ :: _ :: _ :: _ :: _ :: _ :: _ :: _ :: _ :: _ :: []) _
 have KC := fun (u : KW w3) b o h => KW.cells u b o h
 iterate 12 (go_big_quiet_step (first | (go_at_call 205; (with_reducible exact kept_call (HC3.out _))) | (go_at_call 204; (with_reducible exact kept_same (sub_any_Sgd _ _ _)))))
 refine wpQuiet_nil ?_
 rintro ⟨w4,k4⟩
 change wpList _ _ _ (_ :: _ :: []) _ _
 dsimp only
 clear KC
 have hO4 := own_below HO3.out k4.2.2
 have hO4p := own_below HO3p.out k4.2.2
 have cp4 : w4.cell? ⟨bp,i,none⟩ = some (.int .i64 p) := (k4.1 bp i hltp).trans cp3
 have fp4 : w4.frozen? ⟨bp,i,none⟩ = false := hO4p.frozenAt i
 have HB4 := hid (HB3.out.call k4.2.2)
 have HO4 := hid hO4
 have HO4p := hid hO4p
 clear k4 hO4 hO4p cp3 cm3 r0 r2
 go_wp2_with fail
 refine NoPanic.normal ?_
 go_wp2_with fail
 go_end0
 have hst := HO4p.out.stored i (.int .i64 (wrap64 (p - y)))
 have e1 : updP ra sh p (updM mo sh m g) = wrap64 (p - y) := by rw [HM'.out,updP,HY.out]
 rw [e1,HM'.out]
 refine ⟨rfl,?_,?_,HB4.out.trans (But.of_gr hst.2 (.inl rfl))⟩
 ·rw [<- iv_set]; exact hst.1
 ·rw [<- iv_set]; exact HO4.out.kept hst.2 (.inr (by simp [Value.ownBlock]; omega))
def applyM (mo sh : Int) (Ms gs : List Int) (lo k : Nat) : List Int := Ms.mapIdx fun j m => if lo <= j /\ j < lo + k then updM mo sh m (gs.getD (j - lo) 0) else m
def applyP (ra mo sh : Int) (Ps Ms gs : List Int) (lo k : Nat) : List Int := Ps.mapIdx fun j p => if lo <= j /\ j < lo + k then updP ra sh p (updM mo sh (Ms.getD j 0) (gs.getD (j - lo) 0)) else p
theorem applyM_length (mo sh : Int) (Ms gs : List Int) (lo k : Nat) : (applyM mo sh Ms gs lo k).length = Ms.length := by simp [applyM]
theorem applyP_length (ra mo sh : Int) (Ps Ms gs : List Int) (lo k : Nat) : (applyP ra mo sh Ps Ms gs lo k).length = Ps.length := by simp [applyP]
theorem applyM_get (mo sh : Int) (Ms gs : List Int) (lo k i : Nat) : (applyM mo sh Ms gs lo k)[i]? = Ms[i]?.map fun m => if lo <= i /\ i < lo + k then updM mo sh m (gs.getD (i - lo) 0) else m := by simp [applyM]
theorem applyP_get (ra mo sh : Int) (Ps Ms gs : List Int) (lo k i : Nat) : (applyP ra mo sh Ps Ms gs lo k)[i]? = Ps[i]?.map fun p => if lo <= i /\ i < lo + k then updP ra sh p (updM mo sh (Ms.getD i 0) (gs.getD (i - lo) 0)) else p := by simp [applyP]
theorem applyM_zero (mo sh : Int) (Ms gs : List Int) (lo : Nat) : applyM mo sh Ms gs lo 0 = Ms := by
 apply List.ext_getElem?
 intro i
 rw [applyM_get]
 cases Ms[i]? with
 | none => rfl
 | some x => simp; omega
theorem applyP_zero (ra mo sh : Int) (Ps Ms gs : List Int) (lo : Nat) : applyP ra mo sh Ps Ms gs lo 0 = Ps := by
 apply List.ext_getElem?
 intro i
 rw [applyP_get]
 cases Ps[i]? with
 | none => rfl
 | some x => simp; omega
theorem applyM_next (mo sh : Int) (Ms gs : List Int) (lo k : Nat) (m g : Int) (hm : Ms[lo + k]? = some m) (hg : gs[k]? = some g) : (applyM mo sh Ms gs lo k).set (lo + k) (updM mo sh m g) = applyM mo sh Ms gs lo (k + 1) := by
 apply List.ext_getElem?
 intro i
 rw [List.getElem?_set,applyM_get,applyM_get]
 by_cases e : lo + k = i
 ·subst e
  have hlt : lo + k < Ms.length := (List.getElem?_eq_some_iff.1 hm).1
  rw [if_pos rfl,if_pos (by rw [applyM_length]; exact hlt),hm]
  simp [hg]
 ·rw [if_neg e]
  cases Ms[i]? with
  | none => rfl
  | some x =>
   simp only [Option.map_some]
   congr 1
   by_cases h1 : lo <= i /\ i < lo + k
   ·rw [if_pos h1,if_pos (by omega)]
   ·rw [if_neg h1,if_neg (by omega)]
theorem applyP_next (ra mo sh : Int) (Ps Ms gs : List Int) (lo k : Nat) (p m g : Int) (hp : Ps[lo + k]? = some p) (hm : Ms[lo + k]? = some m) (hg : gs[k]? = some g) : (applyP ra mo sh Ps Ms gs lo k).set (lo + k) (updP ra sh p (updM mo sh m g)) = applyP ra mo sh Ps Ms gs lo (k + 1) := by
 apply List.ext_getElem?
 intro i
 rw [List.getElem?_set,applyP_get,applyP_get]
 by_cases e : lo + k = i
 ·subst e
  have hlt : lo + k < Ps.length := (List.getElem?_eq_some_iff.1 hp).1
  rw [if_pos rfl,if_pos (by rw [applyP_length]; exact hlt),hp]
  simp [hg,hm]
 ·rw [if_neg e]
  cases Ps[i]? with
  | none => rfl
  | some x =>
   simp only [Option.map_some]
   congr 1
   by_cases h1 : lo <= i /\ i < lo + k
   ·rw [if_pos h1,if_pos (by omega)]
   ·rw [if_neg h1,if_neg (by omega)]
theorem applyM_at (mo sh : Int) (Ms gs : List Int) (lo k : Nat) (m : Int) (hm : Ms[lo + k]? = some m) : (applyM mo sh Ms gs lo k)[lo + k]? = some m := by rw [applyM_get,hm]; simp
theorem applyP_at (ra mo sh : Int) (Ps Ms gs : List Int) (lo k : Nat) (p : Int) (hp : Ps[lo + k]? = some p) : (applyP ra mo sh Ps Ms gs lo k)[lo + k]? = some p := by rw [applyP_get,hp]; simp
def AllIn (l : List Int) : Prop := ∀ x ∈ l,In1 x
theorem apply_any (ra mo sh : Int) (AP AM AG : Option Addr) (N cP cM n cG lo hi bp bm base : Nat) (Ps Ms gs : List Int) (w : World) (hP : w.ownsRow base 2 1 (.slice AP N cP) N (iv Ps)) (hM : w.ownsRow base 2 1 (.slice AM N cM) N (iv Ms))
  (hap : 0 < N -> AP = some ⟨bp,0,none⟩ /\ AM = some ⟨bm,0,none⟩ /\ bp ≠ bm) (hG : Rd w 1 AG n (iv gs)) (hgl : gs.length = n) (hGb : ∀ b o,AG = some ⟨b,o,none⟩ -> 0 < n -> b ≠ bp /\ b ≠ bm) (hhi : hi = lo + n) (hfit : hi <= N) (hN : N <= 1000000)
  (hra : In1 ra) (hmo : In1 mo) (hPi : AllIn Ps) (hMi : AllIn Ms) :
  Calls Tryz.prog 266 #[.agg #[.int .i64 ra,.int .i64 mo,.int .i64 sh],.agg #[.slice AP N cP,.slice AM N cM],.agg #[.int .i64 lo,.int .i64 hi],.slice AG n cG] w fun e w' => e = .returned (.bool true) /\
   w'.ownsRow base 2 1 (.slice AP N cP) N (iv (applyP ra mo sh Ps Ms gs lo n)) /\ w'.ownsRow base 2 1 (.slice AM N cM) N (iv (applyM mo sh Ms gs lo n)) /\ But (fun b => 0 < N /\ (b = bp \/ b = bm)) w w' := by
 have hPl : Ps.length = N := by have := hP.1; rw [iv_length] at this; omega
 have hMl : Ms.length = N := by have := hM.1; rw [iv_length] at this; omega
 have HP := hid hP
 have HM := hid hM
 have HAP := hid hap
 have HG := hid hG
 have HGL := hid hgl
 have HGB := hid hGb
 have HHI := hid hhi
 have HPL := hid hPl
 have HML := hid hMl
 have HPI := hid hPi
 have HMI := hid hMi
 have h1 : lo <= hi := by omega
 have h2 : lo + n <= N := by omega
 have HSz := hid (fun W => size_of lo hi n W hhi (by omega) (by omega))
 clear hP hM hap hG hgl hGb hhi hPl hMl hPi hMi
 go_enter Tryz.func266,Tryz.ntmps266
 go_wp2_with fail
 obtain ⟨w0,hw0⟩ : ∃ w0,((w.alloc (.cells #[.int .i64 ra,.int .i64 mo,.int .i64 sh] 102)).alloc (.cells #[.slice AP N cP,.slice AM N cM] 92)).alloc (.cells #[.int .i64 lo,.int .i64 hi] 218) = w0 := ⟨_,rfl⟩
 have k0 : Below w.heap.size w w0 := by rw [<- hw0]; exact (((Below.refl _ _).alloc (Nat.le_refl _) _).alloc (by simp) _).alloc (by simp <;> omega) _
 have hR0 : Blk w0 w.heap.size 102 #[.int .i64 ra,.int .i64 mo,.int .i64 sh] := by rw [<- hw0]; exact ((Blk.new w _ _).alloc _).alloc _
 have hS0 : Blk w0 (w.heap.size + 1) 92 #[.slice AP N cP,.slice AM N cM] := by rw [<- hw0]; exact (Blk.new' _ _ (by simp)).alloc _
 have hA0 : Blk w0 (w.heap.size + 1 + 1) 218 #[.int .i64 lo,.int .i64 hi] := by rw [<- hw0]; exact Blk.new' _ _ (by simp)
 rw [hw0]
 clear hw0
 ((with_reducible refine (HSz.out _).mono ?_); rintro e w1 ⟨rfl,hb1⟩)
 have hA1 := hA0.kept hb1
 have q0 : w1.cell? ⟨w.heap.size + 1 + 1,0,none⟩ = some (.int .i64 lo) := hA1.cell 0
 have q1 : w1.cell? ⟨w.heap.size + 1 + 1,1,none⟩ = some (.int .i64 hi) := hA1.cell 1
 have hn1 : ((n : Int) != (n : Int)) = false := by simp
 go_wp2_with fail
 ((with_reducible refine (HSz.out _).mono ?_); rintro e w2 ⟨rfl,hb2⟩)
 have HK2 := hid (((Kept.of k0).call hb1).call hb2).2.2
 have HR2 := hid ((hR0.kept hb1).kept hb2)
 have HS2 := hid ((hS0.kept hb1).kept hb2)
 have HA2 := hid (hA1.kept hb2)
 clear hA1 q0 q1 hn1 hb1 hb2 k0 hR0 hS0 hA0
 go_wp2_with fail
 go_loopw [46] (fun c wr => ∃ k : Nat,k <= n /\ c = .int .i64 k /\ wr.ownsRow base 2 1 (.slice AP N cP) N (iv (applyP ra mo sh Ps Ms gs lo k)) /\ wr.ownsRow base 2 1 (.slice AM N cM) N (iv (applyM mo sh Ms gs lo k)) /\ But (fun b => 0 < N /\ (b = bp \/ b = bm)) w wr /\
   Blk wr w.heap.size 102 #[.int .i64 ra,.int .i64 mo,.int .i64 sh] /\ Blk wr (w.heap.size + 1) 92 #[.slice AP N cP,.slice AM N cM] /\ Blk wr (w.heap.size + 1 + 1) 218 #[.int .i64 lo,.int .i64 hi]) (fun c _ => n - (intOf c).toNat)
 case atStart => exact ⟨0,by omega,rfl,by rw [applyP_zero]; exact own_below HP.out HK2.out,by rw [applyM_zero]; exact own_below HM.out HK2.out,But.of_below _ HK2.out,HR2.out,HS2.out,HA2.out⟩
 case round =>
  obtain ⟨k,hk,rfl,hP,hM,hB,hR,hS,hA⟩ := hrel
  by_cases hlt : k < n
  ·obtain ⟨e1,e2,hne⟩ := HAP.out (by omega)
   subst e1 e2
   have hbp := (HP.out.lt bp rfl).2
   have hbm := (HM.out.lt bm rfl).2
   have hPk : lo + k < Ps.length := by rw [HPL.out]; omega
   have hMk : lo + k < Ms.length := by rw [HML.out]; omega
   have hGk : k < gs.length := by rw [HGL.out]; exact hlt
   have gP := List.getElem?_eq_getElem hPk
   have gM := List.getElem?_eq_getElem hMk
   have gG := List.getElem?_eq_getElem hGk
   have iP := HPI.out _ (List.getElem_mem hPk)
   have iM := HMI.out _ (List.getElem_mem hMk)
   generalize Ps[lo + k] = p at gP iP
   generalize Ms[lo + k] = m at gM iM
   generalize gs[k] = g at gG
   obtain ⟨b,o,g',rfl,hbl,hg',cg⟩ := iv_at HGL.out (HG.out.but hB (fun b o e h0 hh => by have := HGB.out b o e h0; omega)) hlt
   obtain rfl : g' = g := by rw [gG] at hg'; injection hg' with e; exact e.symm
   obtain ⟨j,hj⟩ : ∃ j,lo + k = j := ⟨_,rfl⟩
   rw [hj] at gP gM
   have HU := hid (fun W (kW : Kept wr W) => update_any ra mo sh p m g' bp bm j N N cP cM base _ _ W (own_below hP kW.2.2) (own_below hM kW.2.2) (by rw [<- hj]; exact applyP_at _ _ _ _ _ _ _ _ _ (by rw [hj]; exact gP)) (by rw [<- hj]; exact applyM_at _ _ _ _ _ _ _ (by rw [hj]; exact gM)) hne hra hmo iP iM)
   have HPn := hid (applyP_next ra mo sh Ps Ms gs lo k p m g' (by rw [hj]; exact gP) (by rw [hj]; exact gM) gG)
   have HMn := hid (applyM_next mo sh Ms gs lo k m g' (by rw [hj]; exact gM) gG)
   have c0 : wr.cell? ⟨w.heap.size,0,none⟩ = some (.int .i64 ra) := hR.cell 0
   have c1 : wr.cell? ⟨w.heap.size,1,none⟩ = some (.int .i64 mo) := hR.cell 1
   have c2 : wr.cell? ⟨w.heap.size,2,none⟩ = some (.int .i64 sh) := hR.cell 2
   have c3 : wr.cell? ⟨w.heap.size + 1,0,none⟩ = some (.slice (some ⟨bp,0,none⟩) N cP) := hS.cell 0
   have c4 : wr.cell? ⟨w.heap.size + 1,1,none⟩ = some (.slice (some ⟨bm,0,none⟩) N cM) := hS.cell 1
   have c5 : wr.cell? ⟨w.heap.size + 1 + 1,0,none⟩ = some (.int .i64 lo) := hA.cell 0
   have lt0 := hA.lt
   have lt1 := hS.lt
   have lt2 := hR.lt
   have z1 : IntKind.i64.wrap ((lo : Int) + (k : Int)) = (j : Int) := by rw [IntWalk.i64_in _ (by omega)]; omega
   have z2 : (lo : Int) + (k : Int) = (j : Int) := by omega
   have i1 : (0 : Int) <= (j : Int) := by omega
   have i2 : (j : Int) < (N : Int) := by omega
   have i3 : (0 : Int) <= (k : Int) := by omega
   have i4 : (k : Int) < (n : Int) := by omega
   have HJ := hid hj
   have HB3 := hid hB
   have HR3 := hid hR
   have HS3 := hid hS
   have HA3 := hid hA
   clear hP hM hB hR hS hA gP gM gG hg' hj hPk hMk hGk
   go_wp2_with fail
   have KC := fun (u : KW wr) b o h => KW.cells u b o h
   refine wp_region_mix' wr [] [0,1,2,3,4,5,6,7,8,9,10,11,12,13,14,15,16,17,18] 19 [] (by kernel_rfl) (by kernel_rfl) (by kernel_rfl) (Kept.of (Below.refl _ _)) ?_
   simp only [PureW,List.filterMap_cons,List.filterMap_nil,List.getElem?_cons_succ,List.getElem?_cons_zero]
   change wpQuiet _ _ _ _ (_ :: _ :: _ :: _ :: _ :: _ :: _ :: _ :: _ :: _ :: _ :: _ :: _ :: _ :: _ :: _ :: _ :: _ :: _ :: []) _
   iterate 19 (go_big_quiet_step (fail))
   refine wpQuiet_nil ?_
   rintro ⟨w4,k4⟩
   change wpList _ _ _ (_ :: []) _ _
   dsimp only
   clear KC
   go_wp2_with fail
   ((with_reducible refine (HU.out _ k4).mono ?_); rintro e w5 ⟨rfl,hP5,hM5,hB5⟩)
   have HP5 := hid hP5
   have HM5 := hid hM5
   have HB5 := hid ((But.of_below (fun b => b = bp \/ b = bm) k4.2.2).trans hB5)
   clear hP5 hM5 hB5 k4 HU c0 c1 c2 c3 c4 c5 cg z1 z2
   go_wp2_with fail
   refine NoPanic.normal ?_
   go_wp2
   go_roundw
   case rel => exact ⟨k + 1,by omega,by go_num,by rw [<- HPn.out,HJ.out]; exact HP5.out,by rw [<- HMn.out,HJ.out]; exact HM5.out,HB3.out.trans (HB5.out.mono (fun i _ h => ⟨by omega,h⟩)),HR3.out.but HB5.out (by omega),HS3.out.but HB5.out (by omega),HA3.out.but HB5.out (by omega)⟩
   case measure => simp [intOf]; omega
  ·obtain rfl : k = n := by omega
   go_wp2
   go_ret
   exact ⟨rfl,hP,hM,hB⟩
end
end Go.Proofs.YtkmaeipoaoikpaaGreat
