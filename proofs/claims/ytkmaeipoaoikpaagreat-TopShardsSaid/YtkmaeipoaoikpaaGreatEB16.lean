/- Collect, Segs, Segs2, Ring, Act. -/
import Derived.Test.YtkmaeipoaoikpaaGreatEB15
namespace Go.Proofs.YtkmaeipoaoikpaaGreat
set_option linter.all false
set_option maxRecDepth 100000
set_option maxHeartbeats 2000000
open Lib (hid)
section
open Go.RowKit Go.Shelf
attribute [local go_sem] Oper.semAt_some
def AxR (fv : Value) (B0 : Nat) (x : Int × Int) (a' : Act) (W : World) : Prop :=
 ∃ g,B0 < g /\ a' = { tmps := #[.slice none 0 0,fv,.pointer (some ⟨B0,0,none⟩),undef,.slice none 0 0,.pointer (some ⟨g,0,none⟩),fv,.agg #[.int .i64 x.1,.int .i64 x.2],undef,undef,undef,undef,undef],defers := [] } /\ Blk W g 218 #[.int .i64 x.1,.int .i64 x.2]
theorem appendSeq_in (F : Fence) (n : Nat) (hf : F.fn 283) (hro : F.round = none) (hn : 3 <= n) (gf : Nat) (lb : Array Value) (hFg : F.fn gf) (eg : ∀ args w,(callFunc gf args).run Tryz.prog w = .ok (.enter gf args) w)
  (l : List (Int × Int)) (len : Nat) (S : Nat -> Prop) (hll : l.length = len) (hl : len <= 10000000) (w : World) (hS : ∀ i,S i ↔ w.heap.size <= i) (hseq : ∀ W,Below w.heap.size w W -> SeqStopsK F (n - 1) Tryz.prog gf lb encR (But S) (fun ys => ys = l) (fun pre => pre <+: l) len W) :
  CallsIn F n Tryz.prog 283 #[.slice none 0 0,.func (.func gf) #[] lb] w (OwnRet w 218 2 len (rv l)) := by
 have h1 : 1 <= n := by omega
 have HLL := hid hll
 clear hll
 obtain ⟨i0,hi,hz0,hz1,hz2⟩ := info_parts slPart.info
 refine callsIn_of_wp_marks Tryz.func283 rfl hf ?_ hro
 simp only [Tryz.ntmps283,List.size_toArray,List.length_cons,List.length_nil,Nat.reduceAdd,Nat.reduceSub,Array.replicate_succ,Array.replicate_zero,List.push_toArray,List.append_toArray,List.nil_append,List.cons_append]
 gi_wp2_with fail
 have bO := Boxed.new w 113 (.slice none 0 0)
 have hB0 : Below w.heap.size w (w.alloc (.cells #[.slice none 0 0] 113)) := (Below.refl _ w).alloc (Nat.le_refl _) _
 refine wpIn_rangeFunc_ownH hro h1 (gf := gf) (lb := lb) rfl hFg eg (hseq _ hB0) (fun h k => h.trans k) (butK_b (fun i hi => (hS i).2 (by simp at hi; omega))) (Below.refl _ _) (fun _ => rfl)
  (fun pre W => (∃ v,Boxed W w.heap.size 113 v /\ W.ownsRow w.heap.size 218 2 v pre.length (rv pre) /\ True) /\ Below w.heap.size w W)
  (fun _ _ _ => False)
  (OwnFrom.and (Own.from (holdsRow_own w.heap.size w.heap.size 113 218 2 (fun pre : List (Int × Int) => pre.length) (fun pre => rv pre) (fun _ _ => True)) _) (ownFrom_below (Nat.le_refl _) (by simp)))
  (fun _ _ _ _ _ hs _ _ => hs)
  ⟨⟨_,bO,World.ownsRow_nil _ _ _ _,trivial⟩,hB0⟩
  (AxR (.func (.func gf) #[] lb) w.heap.size)
  (fun x a' s X Y row hs hg hr => by
   obtain ⟨g,hg0,ha,hb⟩ := hs
   exact ⟨g,hg0,ha,hb.turn hg hr⟩) ?assign ?body ?done ?stop
 case assign =>
  rintro l' pre ⟨x,y⟩ W K ⟨⟨v,hv,hrow,_⟩,hB⟩ hK
  simp only [encR]
  gi_wp2_with fail
  refine hK _ _ ((KeepsOthers.alloc _ _).from _) (But.of_below _ ((Below.refl _ _).alloc (Nat.le_refl _) _)) ⟨⟨v,hv.alloc _,hrow.alloc _,trivial⟩,hB.alloc hB.size _⟩ ⟨W.heap.size,hv.lt,rfl,Blk.new _ _ _⟩
 case body =>
  rintro l' pre ⟨x,y⟩ a' W _ _ ⟨⟨v,hv,hrow,_⟩,hB⟩ ⟨g,hg0,rfl,hblk⟩ hlt
  have hc := hv.cell
  have x1 : W.cell? ⟨g,0,none⟩ = some (.int .i64 x) := hblk.cell 0
  have x2 : W.cell? ⟨g,1,none⟩ = some (.int .i64 y) := hblk.cell 1
  gi_wp2_with (gi_at_builtin; refine wpListIn_append_own _ rfl _ _ 113 rfl w.heap.size 218 i0 (.agg #[.int .i64 0,.int .i64 0]) 2 16 Tryz.underlying113 hi hz0 hz1 hz2 rfl (by decide) _ _ _ rfl (hrow.alloc _) ⟨W.heap.size,0,none⟩ 1 1 [.int .i64 x,.int .i64 y] rfl rfl (cells_new W #[.int .i64 x,.int .i64 y] 218) (two_cells x y) (by unfold maxLen; omega) (by omega) (by have := hB.size; simp; omega) ?_; intro v' w1 hown' hgrow _; obtain ⟨g',cap',rfl⟩ := ownsRow_succ hown'; obtain ⟨hv1,hv2,hr2,hk2,hb2⟩ := hv.appended (by decide) hrow hB.size (Nat.le_refl _) hown' hgrow; have hc1 := hv1.cell; have hf1 := hv1.frozen)
  exact ⟨hk2.from _,But.below' hb2 (fun i hi => by have := mt (hS i).2 hi; omega),⟨_,hv2,by rw [List.length_append,rv_append]; exact hr2⟩,hB.trans hb2⟩
 case done =>
  rintro D ys W hD rfl ⟨⟨v,hv,hrow,_⟩,hB⟩ hK
  have hc := hv.cell
  gi_wp2_with fail
  refine ⟨by simp,.inl ⟨_,_,rfl,run_takeDeferred hK,?_⟩⟩
  obtain ⟨A,cap,rfl,_⟩ := own_form hrow
  have hrow' := hrow
  rw [HLL.out] at hrow' ⊢
  exact ⟨_,results_tmp rfl _ _ _,A,cap,rfl,ownsRow_putObj hrow' _ hK rfl,hB.trans (belowK_b (w := w) (Nat.le_refl _) W D _ _ (by simp at hD; omega) hK rfl rfl)⟩
 case stop =>
  rintro D c pre W _ _ h _
  exact h.elim
theorem collect_in (F : Fence) (n : Nat) (hf : F.fn 278) (hf2 : F.fn 283) (hro : F.round = none) (hn : 4 <= n) (gf : Nat) (lb : Array Value) (hFg : F.fn gf) (eg : ∀ args w,(callFunc gf args).run Tryz.prog w = .ok (.enter gf args) w)
  (l : List (Int × Int)) (len : Nat) (S : Nat -> Prop) (hll : l.length = len) (hl : len <= 10000000) (w : World) (hS : ∀ i,S i ↔ w.heap.size <= i) (hseq : ∀ W,Below w.heap.size w W -> SeqStopsK F (n - 1 - 1) Tryz.prog gf lb encR (But S) (fun ys => ys = l) (fun pre => pre <+: l) len W) :
  CallsIn F n Tryz.prog 278 #[.func (.func gf) #[] lb] w (OwnRet w 218 2 len (rv l)) := by
 have HC := hid (appendSeq_in F (n - 1) hf2 hro (by omega) gf lb hFg eg l len S hll hl w hS hseq)
 have h1 : 1 <= n := by omega
 clear hll hseq
 refine callsIn_of_wp Tryz.func278 rfl hf ?_ hro
 simp only [Tryz.ntmps278,List.size_toArray,List.length_cons,List.length_nil,Nat.reduceAdd,Nat.reduceSub,Array.replicate_succ,Array.replicate_zero,List.push_toArray,List.append_toArray,List.nil_append,List.cons_append]
 gi_wp2_with fail
 refine HC.out.mono ?_
 rintro e w1 ⟨A,cap,rfl,hown,hb⟩
 have HO := hid hown
 clear hown HC
 gi_wp2_with fail
 go_ret
 exact ⟨A,cap,rfl,HO.out,hb⟩
theorem later_any (A : Option Addr) (n c : Nat) (b : Int) (w : World) : Calls Tryz.prog 229 #[.slice A n c,.int .i64 b] w (LaterRet w A n c b) :=
 (callsIn_wide (n := 5)).1 (later_in Fence.wide 5 trivial rfl A n c b w)
theorem collectLater (A : Option Addr) (n c : Nat) (rs : List (Int × Int)) (b : Int) (w w1 : World) (hn : n <= 10000000) (hrl : rs.length = n) (hsm : SmallR rs) (hb0 : 0 <= b /\ b <= 1000000000) (hr : Rd w 2 A n (rv rs))
  (hb1 : Below w.heap.size w w1) (h1 : w1.cell? ⟨w.heap.size,0,none⟩ = some (.slice A n c)) (h2 : w1.cell? ⟨w.heap.size + 1,0,none⟩ = some (.int .i64 b)) (h3 : w1.cell? ⟨w.heap.size + 1 + 1,0,none⟩ = some (.func (.func 263) #[] #[.pointer (some ⟨w.heap.size + 1,0,none⟩)])) (hs : w.heap.size + 3 <= w1.heap.size) (W : World) (hW : Below w1.heap.size w1 W) :
  Calls Tryz.prog 278 #[.func (.func 264) #[] #[.pointer (some ⟨w.heap.size,0,none⟩),.pointer (some ⟨w.heap.size + 1 + 1,0,none⟩)]] W (OwnRet W 218 2 n (rv (shiftL rs b))) :=
 (callsIn_wide (n := 5)).1 (collect_in Fence.wide 5 trivial trivial rfl (by omega) 264 _ trivial (enters_of Tryz.func264 (by kernel_rfl) rfl) (shiftL rs b) n (fun i => W.heap.size <= i) (by rw [shiftL_length,hrl]) hn W (fun i => Iff.rfl) (fun W' hW' => by
  have hz := hW.size
  have hz' := hW'.size
  have hb := hb1.size
  exact later_stops id (shiftL rs b) Fence.wide (5 - 1 - 1) trivial trivial rfl (by omega) w.heap.size (w.heap.size + 1 + 1) (w.heap.size + 1) n c A rs b hn hrl hsm hb0 (List.map_id _) (fun i => W.heap.size <= i) W' (by omega) ⟨by omega,by omega⟩ ⟨by omega,by omega⟩
   (by rw [(hW.trans (hW'.mono hW.size)).cell (p := ⟨w.heap.size,0,none⟩) (show w.heap.size < _ by omega)]; exact h1)
   (by rw [(hW.trans (hW'.mono hW.size)).cell (p := ⟨w.heap.size + 1 + 1,0,none⟩) (show w.heap.size + 1 + 1 < _ by omega)]; exact h3)
   (by rw [(hW.trans (hW'.mono hW.size)).cell (p := ⟨w.heap.size + 1,0,none⟩) (show w.heap.size + 1 < _ by omega)]; exact h2)
   (fun h0 => by
    obtain ⟨g,off,e,hg,hcc⟩ := hr.2 h0
    refine ⟨g,off,e,⟨by omega,by omega⟩,fun j u hu => ?_⟩
    rw [(hW.trans (hW'.mono hW.size)).cell (p := ⟨g,off + j,none⟩) (show g < _ by omega),hb1.cell (p := ⟨g,off + j,none⟩) hg]
    exact hcc j u hu)))
end
section
open Go.RowKit
def evenI (n k : Int) : List (Int × Int) := if n < 0 \/ k < 1 then [] else evenL n.toNat k.toNat
def blocksI (n s : Int) : List (Int × Int) := if n < 1 \/ s < 1 then [] else blocksL n.toNat s.toNat
theorem evenI_no {n k : Int} (h : n < 0 \/ k < 1) : evenI n k = [] := if_pos h
theorem evenI_nat (n k : Nat) (h : 1 <= k) : evenI n k = evenL n k := by unfold evenI; rw [if_neg (by omega)]; rfl
theorem blocksI_no {n k : Int} (h : n < 1 \/ k < 1) : blocksI n k = [] := if_pos h
theorem blocksI_nat (n s : Nat) (hn : 1 <= n) (h : 1 <= s) : blocksI n s = blocksL n s := by unfold blocksI; rw [if_neg (by omega)]; rfl
theorem evenI_length (n k : Int) (hn : 0 <= n) : (evenI n k).length = k.toNat := by
 unfold evenI
 split
 ·rw [List.length_nil]; omega
 ·exact evenL_length _ _
theorem blocksI_length (n s : Int) : (blocksI n s).length = cnt n.toNat s.toNat := by
 unfold blocksI
 split
 ·rename_i h
  rw [List.length_nil]
  have := cnt_zero n s h
  omega
 ·exact blocksL_length _ _
theorem bnd_le' (n k i : Nat) (hk : 1 <= k) (h : i <= k) : bnd n k i <= n := by
 have := bnd_mono n k i k h
 rw [bnd_k n k hk] at this
 exact this
theorem evenI_small (n k : Int) (hn : n <= 1000000000) : SmallR (evenI n k) := by
 unfold evenI
 split
 ·intro r hr; cases hr
 ·rename_i h
  intro r hr
  obtain ⟨i,hi⟩ := List.mem_iff_getElem?.1 hr
  have hlt : i < k.toNat := by have := (List.getElem?_eq_some_iff.1 hi).1; rwa [evenL_length] at this
  rw [even_at _ _ _ hlt] at hi
  injection hi with hi
  subst hi
  have h1 := bnd_le' n.toNat k.toNat i (by omega) (by omega)
  have h2 := bnd_le' n.toNat k.toNat (i + 1) (by omega) (by omega)
  dsimp only
  omega
theorem blocksI_small (n s : Int) (hn : n <= 1000000000) : SmallR (blocksI n s) := by
 unfold blocksI
 split
 ·intro r hr; cases hr
 ·rename_i h
  intro r hr
  obtain ⟨i,hi⟩ := List.mem_iff_getElem?.1 hr
  have hlt : i < cnt n.toNat s.toNat := by have := (List.getElem?_eq_some_iff.1 hi).1; rwa [blocksL_length] at this
  rw [blocks_at _ _ _ hlt] at hi
  injection hi with hi
  subst hi
  have h1 := (lt_cnt n.toNat s.toNat i (by omega) (by omega)).1 hlt
  dsimp only
  omega
theorem even_all (n k : Int) (w : World) (hn : n <= 1000000000) (hk : k <= 10000000) :
  Calls Tryz.prog 171 #[.int .i64 n,.int .i64 k] w (OwnRet w 218 2 (evenI n k).length (rv (evenI n k))) := by
 by_cases h : n < 0 \/ k < 1
 ·rw [evenI_no h]
  exact even_none n k w h
 ·obtain ⟨a,rfl⟩ := Int.eq_ofNat_of_zero_le (show 0 <= n by omega)
  obtain ⟨b,rfl⟩ := Int.eq_ofNat_of_zero_le (show 0 <= k by omega)
  have := even_any a b w (by omega) (by omega) (by omega)
  rw [evenI_nat a b (by omega),evenL_length]
  exact this
theorem blocks_all (n s : Int) (w : World) (hn0 : -9223372036854775808 <= n) (hn : n <= 10000000) (hs : s <= 9223372036854775807) :
  Calls Tryz.prog 77 #[.int .i64 n,.int .i64 s] w (OwnRet w 218 2 (blocksI n s).length (rv (blocksI n s))) := by
 by_cases h : n < 1 \/ s < 1
 ·rw [blocksI_no h]
  exact blocks_none n s w (by omega) (by omega) (by omega) h
 ·obtain ⟨a,rfl⟩ := Int.eq_ofNat_of_zero_le (show 0 <= n by omega)
  obtain ⟨b,rfl⟩ := Int.eq_ofNat_of_zero_le (show 0 <= s by omega)
  have := blocks_any a b w (by omega) (by omega) (by omega) (by omega)
  rw [blocksI_nat a b (by omega) (by omega),blocksL_length]
  exact this
def segsL (lo hi k : Int) : List (Int × Int) := shiftL (evenI (hi - lo) k) lo
def chunksL (lo hi s : Int) : List (Int × Int) := shiftL (blocksI (hi - lo) s) lo
theorem segsL_length (lo hi k : Int) (h : lo <= hi) : (segsL lo hi k).length = k.toNat := by rw [segsL,shiftL_length,evenI_length _ _ (by omega)]
theorem cnt_le' (n s : Int) (hn : n <= 10000000) : cnt n.toNat s.toNat <= 10000000 := by have := cnt_le n.toNat s.toNat; omega
theorem chunksL_length (lo hi s : Int) : (chunksL lo hi s).length = cnt (hi - lo).toNat s.toNat := by rw [chunksL,shiftL_length,blocksI_length]
theorem segments_any (lo hi k : Int) (w : World) (h0 : 0 <= lo) (h1 : lo <= hi) (h2 : hi <= 1000000) (hk : k <= 10000000) :
  Calls Tryz.prog 260 #[.agg #[.int .i64 lo,.int .i64 hi],.int .i64 k] w (OwnRet w 218 2 (segsL lo hi k).length (rv (segsL lo hi k))) := by
 obtain ⟨W0,hW0⟩ : ∃ W0,w.alloc (.cells #[.int .i64 lo,.int .i64 hi] 218) = W0 := ⟨_,rfl⟩
 have k0 : Below w.heap.size w W0 := by rw [<- hW0]; exact (Below.refl _ _).alloc (Nat.le_refl _) _
 have b0 : Blk W0 w.heap.size 218 #[.int .i64 lo,.int .i64 hi] := by rw [<- hW0]; exact Blk.new _ _ _
 have c0 : W0.cell? ⟨w.heap.size,0,none⟩ = some (.int .i64 lo) := b0.cell 0
 have c1 : W0.cell? ⟨w.heap.size,1,none⟩ = some (.int .i64 hi) := b0.cell 1
 have lt0 := b0.lt
 have hn : max (hi - lo) 0 = hi - lo := by omega
 obtain ⟨d,hd⟩ : ∃ d,hi - lo = d := ⟨_,rfl⟩
 have C1 := fun W => size_any lo hi W (by omega) (by omega) (by omega) (by omega)
 rw [hn,hd] at C1
 have HC1 := hid C1
 have HC2 := hid (fun W => even_all d k W (by omega) hk)
 have HL := hid (evenI_length d k (by omega))
 have HS := hid (evenI_small d k (by omega))
 have hb : 0 <= lo /\ lo <= 1000000000 := by omega
 have HK0 := hid k0
 have HD := hid hd
 have hkn : k.toNat <= 10000000 := by omega
 clear hn C1 k0 b0 hd
 go_enter Tryz.func260,Tryz.ntmps260
 go_wp2_with fail
 clear hW0
 go_region_held3 (fun w' => Kept W0 w') (first | exact kk | exact kk.alloc _ | exact Kept.start W0) (first
  | (go_at_call 230; (with_reducible refine (HC1.out _).mono ?_); rintro e w1 ⟨rfl,hb1⟩; have kk := (Kept.start W0).call hb1; clear hb1)
  | (go_at_call 171; (with_reducible refine (HC2.out _).mono ?_); rintro e w2 ⟨A,c,rfl,hown,hb2⟩; replace kk := kk.call hb2; have HR := hid (Rd.of_own hown); clear hown hb2)
  | (go_at_call 229; (with_reducible refine (later_any _ _ _ _ _).mono ?_); rintro e w3 ⟨rfl,l1,l2,l3,l4,hb3⟩; replace kk := kk.call hb3; have HCo := hid (fun W hW => collectLater A _ c (evenI d k) lo w2 w3 (by rw [HL.out]; exact hkn) rfl HS.out hb HR.out hb3 l1 l2 l3 l4 W hW); clear l1 l2 l3 l4 hb3)
  | (go_at_call 278; (with_reducible refine (HCo.out _ (Below.refl _ _)).mono ?_); rintro e w4 ⟨A',c',rfl,hown4,hb4⟩; have HO4 := hid (own_base hown4 kk.2.1); replace kk := kk.call hb4; clear hown4 hb4))
 all_goals go_wp2_with fail
 all_goals go_ret
 all_goals
  have e : segsL lo hi k = shiftL (evenI d k) lo := by rw [segsL,HD.out]
  rw [e,shiftL_length]
  exact ⟨A',c',rfl,own_base HO4.out HK0.out.size,((Kept.of HK0.out).call kk.2.2).2.2⟩
theorem chunks_any (lo hi k : Int) (w : World) (h0 : 0 <= lo) (h1 : lo <= hi) (h2 : hi <= 1000000) (hk : k <= 9223372036854775807) :
  Calls Tryz.prog 261 #[.agg #[.int .i64 lo,.int .i64 hi],.int .i64 k] w (OwnRet w 218 2 (chunksL lo hi k).length (rv (chunksL lo hi k))) := by
 obtain ⟨W0,hW0⟩ : ∃ W0,w.alloc (.cells #[.int .i64 lo,.int .i64 hi] 218) = W0 := ⟨_,rfl⟩
 have k0 : Below w.heap.size w W0 := by rw [<- hW0]; exact (Below.refl _ _).alloc (Nat.le_refl _) _
 have b0 : Blk W0 w.heap.size 218 #[.int .i64 lo,.int .i64 hi] := by rw [<- hW0]; exact Blk.new _ _ _
 have c0 : W0.cell? ⟨w.heap.size,0,none⟩ = some (.int .i64 lo) := b0.cell 0
 have c1 : W0.cell? ⟨w.heap.size,1,none⟩ = some (.int .i64 hi) := b0.cell 1
 have lt0 := b0.lt
 have hn : max (hi - lo) 0 = hi - lo := by omega
 obtain ⟨d,hd⟩ : ∃ d,hi - lo = d := ⟨_,rfl⟩
 have C1 := fun W => size_any lo hi W (by omega) (by omega) (by omega) (by omega)
 rw [hn,hd] at C1
 have HC1 := hid C1
 have HC2 := hid (fun W => blocks_all d k W (by omega) (by omega) hk)
 have HL := hid (blocksI_length d k)
 have HS := hid (blocksI_small d k (by omega))
 have hb : 0 <= lo /\ lo <= 1000000000 := by omega
 have HK0 := hid k0
 have HD := hid hd
 have hkn : cnt d.toNat k.toNat <= 10000000 := cnt_le' d k (by omega)
 clear hn C1 k0 b0 hd
 go_enter Tryz.func261,Tryz.ntmps261
 go_wp2_with fail
 clear hW0
 go_region_held3 (fun w' => Kept W0 w') (first | exact kk | exact kk.alloc _ | exact Kept.start W0) (first
  | (go_at_call 230; (with_reducible refine (HC1.out _).mono ?_); rintro e w1 ⟨rfl,hb1⟩; have kk := (Kept.start W0).call hb1; clear hb1)
  | (go_at_call 77; (with_reducible refine (HC2.out _).mono ?_); rintro e w2 ⟨A,c,rfl,hown,hb2⟩; replace kk := kk.call hb2; have HR := hid (Rd.of_own hown); clear hown hb2)
  | (go_at_call 229; (with_reducible refine (later_any _ _ _ _ _).mono ?_); rintro e w3 ⟨rfl,l1,l2,l3,l4,hb3⟩; replace kk := kk.call hb3; have HCo := hid (fun W hW => collectLater A _ c (blocksI d k) lo w2 w3 (by rw [HL.out]; exact hkn) rfl HS.out hb HR.out hb3 l1 l2 l3 l4 W hW); clear l1 l2 l3 l4 hb3)
  | (go_at_call 278; (with_reducible refine (HCo.out _ (Below.refl _ _)).mono ?_); rintro e w4 ⟨A',c',rfl,hown4,hb4⟩; have HO4 := hid (own_base hown4 kk.2.1); replace kk := kk.call hb4; clear hown4 hb4))
 all_goals go_wp2_with fail
 all_goals go_ret
 all_goals
  have e : chunksL lo hi k = shiftL (blocksI d k) lo := by rw [chunksL,HD.out]
  rw [e,shiftL_length]
  exact ⟨A',c',rfl,own_base HO4.out HK0.out.size,((Kept.of HK0.out).call kk.2.2).2.2⟩
theorem wrap_ok (x : Int) (h0 : -1000000000000 <= x) (h1 : x <= 1000000000000) : IntKind.i64.wrap x = x := IntWalk.i64_in _ (by omega)
end
section
open Go.RowKit Go.Shelf
attribute [local go_sem] Oper.semAt_some
theorem segs_at (lo hi k : Int) (i : Nat) (h1 : lo <= hi) (hik : (i : Int) < k) : (segsL lo hi k)[i]? = some ((bnd (hi - lo).toNat k.toNat i : Int) + lo,(bnd (hi - lo).toNat k.toNat (i + 1) : Int) + lo) := by
 rw [segsL]
 refine shiftL_get _ _ _ _ _ ?_
 unfold evenI
 rw [if_neg (by omega)]
 exact even_at _ _ _ (by omega)
theorem segs_in (lo hi k : Int) (h1 : lo <= hi) : ∀ r ∈ segsL lo hi k,lo <= r.1 /\ r.1 <= r.2 /\ r.2 <= hi := by
 intro r hr
 obtain ⟨i,hi'⟩ := List.mem_iff_getElem?.1 hr
 have hlt : i < k.toNat := by have := (List.getElem?_eq_some_iff.1 hi').1; rwa [segsL_length _ _ _ h1] at this
 rw [segs_at lo hi k i h1 (by omega)] at hi'
 injection hi' with hi'
 subst hi'
 have g1 := bnd_mono (hi - lo).toNat k.toNat i (i + 1) (by omega)
 have g2 := bnd_le' (hi - lo).toNat k.toNat (i + 1) (by omega) (by omega)
 dsimp only
 omega
end
section
open Go.RowKit
abbrev jobV (s b lo hi m c : Int) : Value := .agg #[.int .i64 s,.int .i64 b,.int .i64 lo,.int .i64 hi,.int .i64 m,.int .i64 c]
theorem tmod_cases (n m : Int) (hm : 1 <= m) : (0 <= n.tmod m /\ n.tmod m = n % m) \/ (n.tmod m < 0 /\ n.tmod m + m = n % m /\ 0 < n % m) := by
 have e := Int.tmod_eq_emod (a := n) (b := m)
 have h1 := Int.emod_nonneg n (b := m) (by omega)
 have h2 := Int.emod_lt_of_pos n (b := m) (by omega)
 have h3 : (m.natAbs : Int) = m := by omega
 by_cases hc : 0 <= n \/ m ∣ n
 ·rw [if_pos hc] at e; left; omega
 ·rw [if_neg hc] at e
  have h4 : n % m ≠ 0 := fun h => hc (Or.inr (Int.dvd_of_emod_eq_zero h))
  right; omega
theorem tmod_bounds (n m : Int) (hm : 1 <= m) : -m < n.tmod m /\ n.tmod m < m := by
 have h1 := Int.emod_nonneg n (b := m) (by omega)
 have h2 := Int.emod_lt_of_pos n (b := m) (by omega)
 rcases tmod_cases n m hm with h | h <;> omega
theorem around_any (s b lo hi m c n : Int) (w : World) (hm1 : 1 <= m) (hm2 : m <= 1000000) (hn1 : -1000000000 <= n) (hn2 : n <= 1000000000) :
  Calls Tryz.prog 277 #[jobV s b lo hi m c,.int .i64 n] w fun e w' => e = .returned (.int .i64 (n % m)) /\ Below w.heap.size w w' := by
 have hb := tmod_bounds n m hm1
 have hmz : ¬ m = 0 := by omega
 go_enter Tryz.func277,Tryz.ntmps277
 go_wp2
 all_goals go_ret
 all_goals refine ⟨ret_int (by rcases tmod_cases n m hm1 with h | h <;> first | (show n.tmod m + m = _; omega) | (show n.tmod m = _; omega)),(Below.refl _ _).alloc (Nat.le_refl _) _⟩
theorem scatter_any (s b lo hi m c x y : Int) (w : World) (hm1 : 1 <= m) (hm2 : m <= 1000000) (hx1 : -1000000 <= x) (hx2 : x <= 1000000) (hy1 : -1000000 <= y) (hy2 : y <= 1000000) :
  Calls Tryz.prog 275 #[jobV s b lo hi m c,.int .i64 x,.int .i64 y] w fun e w' => e = .returned (.int .i64 ((x - y) % m)) /\ Below w.heap.size w w' := by
 go_enter Tryz.func275,Tryz.ntmps275
 go_wp2_with (go_at_call 277; refine (around_any s b lo hi m c _ _ (by omega) (by omega) (by omega) (by omega)).mono ?_; rintro e w' ⟨rfl,hb⟩)
 go_ret
 exact ⟨rfl,((Below.refl _ _).alloc (Nat.le_refl _) _).trans (hb.mono (by simp))⟩
theorem gather_any (s b lo hi m c x y : Int) (w : World) (hm1 : 1 <= m) (hm2 : m <= 1000000) (hx1 : -1000000 <= x) (hx2 : x <= 1000000) (hy1 : -1000000 <= y) (hy2 : y <= 1000000) :
  Calls Tryz.prog 276 #[jobV s b lo hi m c,.int .i64 x,.int .i64 y] w fun e w' => e = .returned (.int .i64 ((x + 1 - y) % m)) /\ Below w.heap.size w w' := by
 go_enter Tryz.func276,Tryz.ntmps276
 go_wp2_with (go_at_call 277; refine (around_any s b lo hi m c _ _ (by omega) (by omega) (by omega) (by omega)).mono ?_; rintro e w' ⟨rfl,hb⟩)
 go_ret
 exact ⟨rfl,((Below.refl _ _).alloc (Nat.le_refl _) _).trans (hb.mono (by simp))⟩
theorem segment_out (s b lo hi m c x p y : Int) (z : Bool) (w : World) (hm1 : 1 <= m) (hm2 : m <= 1000000) (h : x < 0 \/ m <= x \/ p < 0 \/ 1 < p \/ y < 0 \/ m - 1 <= y) :
  Calls Tryz.prog 259 #[jobV s b lo hi m c,.int .i64 x,.int .i64 p,.int .i64 y,.bool z] w fun e w' => e = .returned (.tuple #[.int .i64 0,.bool false]) /\ Below w.heap.size w w' := by
 go_enter Tryz.func259,Tryz.ntmps259
 go_wp2_with fail
 all_goals (go_ret2; exact ⟨rfl,(Below.refl _ _).alloc (Nat.le_refl _) _⟩)
theorem send_mod0 (x y m : Int) : (x - y) % m = (x - y + 0) % m := by rw [Int.add_zero]
theorem send_mod1 (x y m : Int) : (x + 1 - y) % m = (x - y + 1) % m := by congr 1; omega
theorem recv_mod0 (x y m : Int) : ((x - 1) % m - y) % m = (x - y + 0 - 1) % m := by
 rw [Int.emod_sub_emod]
 congr 1
 omega
theorem recv_mod1 (x y m : Int) : ((x - 1) % m + 1 - y) % m = (x - y + 1 - 1) % m := by
 rw [show (x - 1) % m + 1 - y = (x - 1) % m - (y - 1) by omega,Int.emod_sub_emod]
 congr 1
 omega
theorem recv_mod0' (x y m : Int) : (x - 1 - y) % m = (x - y + 0 - 1) % m := by congr 1; omega
theorem segment_send (s b lo hi m c x p y : Int) (w : World) (hm1 : 1 <= m) (hm2 : m <= 1000000) (hx1 : 0 <= x) (hx2 : x < m) (hp : p = 0 \/ p = 1) (hy1 : 0 <= y) (hy2 : y < m - 1) :
  Calls Tryz.prog 259 #[jobV s b lo hi m c,.int .i64 x,.int .i64 p,.int .i64 y,.bool true] w fun e w' => e = .returned (.tuple #[.int .i64 ((x - y + p) % m),.bool true]) /\ Below w.heap.size w w' := by
 have i0 : ∀ w,(Instr.index 419 (.agg #[.func (.func 275) #[] #[],.func (.func 276) #[] #[]]) (.int .i64 0)).run Tryz.prog w = .ok (.func (.func 275) #[] #[]) w := fun _ => by kernel_rfl
 have i1 : ∀ w,(Instr.index 419 (.agg #[.func (.func 275) #[] #[],.func (.func 276) #[] #[]]) (.int .i64 1)).run Tryz.prog w = .ok (.func (.func 276) #[] #[]) w := fun _ => by kernel_rfl
 rcases hp with rfl | rfl
 all_goals
  go_enter Tryz.func259,Tryz.ntmps259
  go_wp2_with (first | (go_at_call 275; refine (scatter_any s b lo hi m c _ _ _ (by omega) (by omega) (by omega) (by omega) (by omega) (by omega)).mono ?_; rintro e w' ⟨rfl,hb⟩) | (go_at_call 276; refine (gather_any s b lo hi m c _ _ _ (by omega) (by omega) (by omega) (by omega) (by omega) (by omega)).mono ?_; rintro e w' ⟨rfl,hb⟩))
  go_ret2
  refine ⟨ret_pair (by first | exact congrArg (Value.int .i64) (send_mod0 x y m) | exact congrArg (Value.int .i64) (send_mod1 x y m)),((Below.refl _ _).alloc (Nat.le_refl _) _).trans (hb.mono (by simp))⟩
theorem segment_recv (s b lo hi m c x p y : Int) (w : World) (hm1 : 1 <= m) (hm2 : m <= 1000000) (hx1 : 0 <= x) (hx2 : x < m) (hp : p = 0 \/ p = 1) (hy1 : 0 <= y) (hy2 : y < m - 1) :
  Calls Tryz.prog 259 #[jobV s b lo hi m c,.int .i64 x,.int .i64 p,.int .i64 y,.bool false] w fun e w' => e = .returned (.tuple #[.int .i64 ((x - y + p - 1) % m),.bool true]) /\ Below w.heap.size w w' := by
 have i0 : ∀ w,(Instr.index 419 (.agg #[.func (.func 275) #[] #[],.func (.func 276) #[] #[]]) (.int .i64 0)).run Tryz.prog w = .ok (.func (.func 275) #[] #[]) w := fun _ => by kernel_rfl
 have i1 : ∀ w,(Instr.index 419 (.agg #[.func (.func 275) #[] #[],.func (.func 276) #[] #[]]) (.int .i64 1)).run Tryz.prog w = .ok (.func (.func 276) #[] #[]) w := fun _ => by kernel_rfl
 have q1 := Int.emod_nonneg (x - 1) (b := m) (by omega)
 have q2 := Int.emod_lt_of_pos (x - 1) (b := m) (by omega)
 have q3 : IntKind.i64.wrap (x - 1) = x - 1 := IntWalk.i64_in _ (by omega)
 rcases hp with rfl | rfl
 all_goals
  go_enter Tryz.func259,Tryz.ntmps259
  go_wp2_with fail
  go_region_held3 (fun w' => Kept (w.alloc (.cells #[.int .i64 s,.int .i64 b,.int .i64 lo,.int .i64 hi,.int .i64 m,.int .i64 c] 380)) w') (first | exact Kept.start _ | exact Kept.call (by assumption) hb | exact Kept.drew (by assumption))
   (first | (go_at_call 277; refine (around_any s b lo hi m c _ _ (by omega) (by omega) (by omega) (by omega)).mono ?_; rintro e w1 ⟨rfl,hb⟩) | (go_at_call 275; refine (scatter_any s b lo hi m c _ _ _ (by omega) (by omega) (by omega) (by omega) (by omega) (by omega)).mono ?_; rintro e w1 ⟨rfl,hb⟩) | (go_at_call 276; refine (gather_any s b lo hi m c _ _ _ (by omega) (by omega) (by omega) (by omega) (by omega) (by omega)).mono ?_; rintro e w1 ⟨rfl,hb⟩))
  go_wp2
  go_ret2
  go_split_ands
  refine ⟨ret_pair (by first | exact congrArg (Value.int .i64) (recv_mod0 x y m) | exact congrArg (Value.int .i64) (recv_mod0' x y m) | exact congrArg (Value.int .i64) (recv_mod1 x y m)),?_⟩
  refine ((Below.refl _ _).alloc (Nat.le_refl _) _).trans (Below.mono (by assumption) (by simp))
theorem slAct : Sl Tryz.prog 381 220 (.agg #[.bool false,.bool false,.int .i64 0,.int .i64 0,.int .i64 0,.int .i64 0,.int .i64 0,.int .i64 0,.int .i64 0]) 9 64 := ⟨Tryz.underlying381,by kernel_rfl,rfl,by omega⟩
end
end Go.Proofs.YtkmaeipoaoikpaaGreat
