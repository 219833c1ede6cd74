/-
  Lemmas and contracts (36): EpPlain, MachC, MachL, MachR.
-/
import Derived.WalkKit
import Derived.WalkSpells
import Derived.WalkLawsBesides
import Derived.Lib.Hide
import Derived.Deep.QuietTactic
import Derived.BigQuiet
import Derived.IntWalk
import Derived.Deep.RegionHeld3
import Derived.Maps.AppendAt
import Derived.ProofKit
import Derived.OpenShut
import Derived.Deep.Slices
import Derived.Deep.Fields
import Derived.Test.YtkmaeipoaoikpaaGreatProg
import Derived.Laws.OwnMore
import Derived.Deep.Draws
import Derived.Laws.Rows
import Derived.Laws.EntriesVeiled
import Derived.RangeFuncNested
import Derived.RangeFuncBox
import Derived.RangeFuncLeaves
import Derived.Shelf.Abstract
import Derived.OwnWalkIn
import Derived.TacticsInMore
import Derived.LoopNIn
import Derived.LoopIn
import Derived.StillTail
import Derived.OrdersIn
import Derived.RangeFuncCalls
import Derived.OrdersHeld
import Derived.Laws.Bits64
import Derived.Deep.DeepMust
import Derived.Deep.DeepCutAuto
import Derived.BigRegion
import Derived.Laws.BitsAllLaws
import Derived.Test.YtkmaeipoaoikpaaGreatShelf
import Derived.Maps.Own
import Derived.Maps.Views
import Derived.Maps.Keyed
import Derived.Maps.OwnOps
import Derived.Maps.Ext
import Derived.Carry
import Derived.Deep.OwnRows
import Derived.SizedLaws
import Derived.Laws.CopyOwn
import Derived.RangeFuncFrom
import Derived.OwnWalk
import Derived.WalkMore
import Derived.Lib.SliceRun
import Derived.Test.YtkmaeipoaoikpaaGreatEA01
import Derived.Test.YtkmaeipoaoikpaaGreatEA02
import Derived.Test.YtkmaeipoaoikpaaGreatEA03
import Derived.Test.YtkmaeipoaoikpaaGreatEA04
import Derived.Test.YtkmaeipoaoikpaaGreatEA05
import Derived.Test.YtkmaeipoaoikpaaGreatEA06
import Derived.Test.YtkmaeipoaoikpaaGreatEA07
import Derived.Test.YtkmaeipoaoikpaaGreatEA08
import Derived.Test.YtkmaeipoaoikpaaGreatEA09
import Derived.Test.YtkmaeipoaoikpaaGreatEA10
import Derived.Test.YtkmaeipoaoikpaaGreatEA11
import Derived.Test.YtkmaeipoaoikpaaGreatEA12
import Derived.Test.YtkmaeipoaoikpaaGreatEA13
import Derived.Test.YtkmaeipoaoikpaaGreatEA14
import Derived.Test.YtkmaeipoaoikpaaGreatEA15
import Derived.Test.YtkmaeipoaoikpaaGreatEA16
import Derived.Test.YtkmaeipoaoikpaaGreatEA17
import Derived.Test.YtkmaeipoaoikpaaGreatEA18
import Derived.Test.YtkmaeipoaoikpaaGreatEA19
import Derived.Test.YtkmaeipoaoikpaaGreatEA20
import Derived.Test.YtkmaeipoaoikpaaGreatEA21
import Derived.Test.YtkmaeipoaoikpaaGreatEA22
import Derived.Test.YtkmaeipoaoikpaaGreatEA23
import Derived.Test.YtkmaeipoaoikpaaGreatEA24
import Derived.Test.YtkmaeipoaoikpaaGreatEA25
import Derived.Test.YtkmaeipoaoikpaaGreatEA26
import Derived.Test.YtkmaeipoaoikpaaGreatEA27
import Derived.Test.YtkmaeipoaoikpaaGreatEA28
import Derived.Test.YtkmaeipoaoikpaaGreatEA29
namespace Go.Proofs.YtkmaeipoaoikpaaGreat
set_option linter.unusedVariables false
set_option linter.unusedSimpArgs false
set_option maxRecDepth 100000
section
open Go.RowKit
def ctL (n : Nat) (xs : List Int) : List Int := (List.range n).map fun (i : Nat) => ((xs.count (i : Int) : Nat) : Int)
theorem ctL_length (n : Nat) (xs : List Int) : (ctL n xs).length = n := by simp [ctL]
theorem ctL_get (n : Nat) (xs : List Int) (i : Nat) (h : i < n) : (ctL n xs)[i]? = some ((xs.count (i : Int) : Nat) : Int) := by simp [ctL, h]
theorem ctL_nil (n : Nat) : ctL n [] = zeros n := by
  unfold ctL zeros
  apply List.ext_getElem?
  intro i
  by_cases h : i < n <;> simp [h, List.getElem?_replicate]
theorem ctL_snoc (n : Nat) (xs : List Int) (k : Nat) (h : k < n) : (ctL n xs).set k (((xs.count (k : Int) : Nat) : Int) + 1) = ctL n (xs ++ [(k : Int)]) := by
  apply List.ext_getElem?
  intro i
  rw [List.getElem?_set, ctL_length]
  by_cases hi : i < n
  · rw [ctL_get _ _ _ hi, ctL_get _ _ _ hi]
    by_cases e : k = i
    · subst e
      rw [if_pos rfl, if_pos h]
      simp
    · rw [if_neg e]
      have : ((k : Int) == (i : Int)) = false := by simp; omega
      simp [List.count_cons, this]
  · rw [List.getElem?_eq_none (l := ctL n xs) (by rw [ctL_length]; omega), List.getElem?_eq_none (l := ctL n _) (by rw [ctL_length]; omega), if_neg (by omega)]
def sumTo (l : List Int) (k : Nat) : Int := (l.take k).sum
theorem sumTo_succ {l : List Int} {k : Nat} {x : Int} (h : l[k]? = some x) : sumTo l (k + 1) = sumTo l k + x := by
  unfold sumTo
  rw [List.take_add_one, h]
  simp
theorem ctL_sum (n : Nat) : ∀ xs : List Int, (∀ x ∈ xs, 0 ≤ x ∧ x < (n : Int)) → (ctL n xs).sum = (xs.length : Int) := by
  intro xs
  induction xs with
  | nil =>
    intro _
    rw [ctL_nil]
    have : ∀ n : Nat, (zeros n).sum = 0 := fun n => by
      induction n with
      | zero => rfl
      | succ n ih => rw [zeros, List.replicate_succ, List.sum_cons, ih]; rfl
    rw [this]
    rfl
  | cons x xs ih =>
    intro h
    obtain ⟨k, rfl⟩ : ∃ k : Nat, x = k := ⟨x.toNat, by have := h x (by simp); omega⟩
    have hk : k < n := by have := h k (by simp); omega
    have ih := ih (fun y hy => h y (by simp [hy]))
    have e : ctL n ((k : Int) :: xs) = ctL n (xs ++ [(k : Int)]) := by
      unfold ctL
      apply List.map_congr_left
      intro i _
      simp [List.count_cons, List.count_append]
    have hs : ∀ (l : List Int) (k : Nat) (v : Int) (y : Int), l[k]? = some y → (l.set k v).sum = l.sum - y + v := by
      intro l
      induction l with
      | nil => intro k v y hy; simp at hy
      | cons a l ih =>
        intro k v y hy
        cases k with
        | zero =>
          obtain rfl : a = y := by simpa using hy
          simp only [List.set_cons_zero, List.sum_cons]; omega
        | succ k =>
          have := ih k v y (by simpa using hy)
          simp only [List.set_cons_succ, List.sum_cons, this]; omega
    rw [e, ← ctL_snoc n xs k hk, hs _ _ _ _ (ctL_get n xs k hk), ih, List.length_cons]
    omega
theorem swap_count (l : List Int) (i j : Nat) (a : Int) (hi : i < l.length) (hj : j < l.length) : (swapL l i j).count a = l.count a := by
  have e1 : l.getD j 0 = l[j] := by simp [List.getD, hj]
  have e2 : l.getD i 0 = l[i] := by simp [List.getD, hi]
  rw [swapL, e1, e2, List.count_set (by simpa using hj), List.count_set hi, List.getElem_set]
  by_cases h : i = j
  · subst h
    simp only [if_true]
    by_cases ha : (l[i] == a) = true
    · have : 0 < l.count a := List.count_pos_iff.2 (by have := beq_iff_eq.1 ha; rw [← this]; exact List.getElem_mem _)
      have h2 := beq_iff_eq.1 ha
      simp [h2]
      omega
    · have h2 : ¬ l[i] = a := fun e => ha (by simp [e])
      simp [h2]
  · rw [if_neg h]
    have p1 : l[i] = a → 0 < l.count a := fun e => List.count_pos_iff.2 (by rw [← e]; exact List.getElem_mem _)
    have p2 : l[j] = a → 0 < l.count a := fun e => List.count_pos_iff.2 (by rw [← e]; exact List.getElem_mem _)
    by_cases ha : l[i] = a <;> by_cases hb : l[j] = a <;> simp [ha, hb] <;> (first | (have := p1 ha; omega) | (have := p2 hb; omega) | omega)
theorem shuf_count (n : Nat) (ds : List Int) (a : Int) : ∀ k, k ≤ n - 1 → (∀ j, j < k → 0 ≤ ds.getD j 0 ∧ (ds.getD j 0) < (n : Int)) → (shufTo n ds k).count a = (iotaL n).count a
  | 0 => fun _ _ => rfl
  | k + 1 => fun hk h => by
    have h1 := h k (by omega)
    rw [shufTo, swap_count _ _ _ _ (by rw [shufTo_length]; omega) (by rw [shufTo_length]; omega)]
    exact shuf_count n ds a k (by omega) (fun j hj => h j (by omega))
theorem pem_count (L : List Int) (n s : Nat) (a : Int) (hn : n - 1 ≤ L.length - s) : (pemL L n s).count a = (iotaL n).count a := by
  refine shuf_count n _ a (n - 1) (Nat.le_refl _) (fun j hj => ?_)
  obtain ⟨x, hx⟩ : ∃ x, L[s + j]? = some x := ⟨_, List.getElem?_eq_getElem (by omega)⟩
  have h := manyL_get L s (bndsL n (n - 1)) j x _ hx (bndsL_get n (n - 1) j hj)
  have h1 := Int.emod_nonneg x (show (n : Int) - (j : Int) ≠ 0 by omega)
  have h2 := Int.emod_lt_of_pos x (show 0 < (n : Int) - (j : Int) by omega)
  rw [List.getD_eq_getElem?_getD, h]
  simp only [Option.getD_some]
  omega
theorem iota_count (n : Nat) (a : Int) : (iotaL n).count a ≤ 1 := by
  have h : (iotaL n).Nodup := by
    unfold iotaL
    refine List.Pairwise.map _ (fun x y h => ?_) List.nodup_range
    intro e
    exact h (by exact_mod_cast e)
  exact List.nodup_iff_count.1 h a
theorem pem_once (L : List Int) (n s k : Nat) (a : Int) (hn : n - 1 ≤ L.length - s) : ((pemL L n s).take k).count a ≤ 1 :=
  Nat.le_trans (List.Sublist.count_le _ (List.take_sublist _ _)) (by rw [pem_count L n s a hn]; exact iota_count n a)
theorem pem_in (L : List Int) (n s : Nat) (hn : n - 1 ≤ L.length - s) : ∀ x ∈ pemL L n s, 0 ≤ x ∧ x < (n : Int) := by
  intro x hx
  have h1 := List.count_pos_iff.2 hx
  rw [pem_count L n s x hn] at h1
  have h2 := List.count_pos_iff.1 h1
  unfold iotaL at h2
  obtain ⟨i, hi, rfl⟩ := List.mem_map.1 h2
  have := List.mem_range.1 hi
  omega
def accP (l : List Int) (K j : Nat) : List Int := l.take (bnd l.length K j)
theorem accP_zero (l : List Int) (K : Nat) : accP l K 0 = [] := by simp [accP, bnd_zero]
theorem accP_step {l : List Int} {K j : Nat} (hj : j < K) : accP l K (j + 1) = accP l K j ++ pieceL l (j : Int) (K : Int) := by
  rw [pieceL, if_pos (by omega), accP, accP, show ((K : Int)).toNat = K by omega, show ((j : Int)).toNat = j by omega]
  have hm := bnd_mono l.length K j (j + 1) (by omega)
  conv => lhs; rw [show bnd l.length K (j + 1) = bnd l.length K j + (bnd l.length K (j + 1) - bnd l.length K j) by omega]
  rw [List.take_add]
theorem accP_end {l : List Int} {K : Nat} (hK : 1 ≤ K) : accP l K K = l := by rw [accP, bnd_k _ _ hK, List.take_length]
theorem batch_take {L : List Int} {n b q st t : Nat} (hb : t < q) (hs : t < st) : (pemL L n 0).take ((t + 1) * b) = (pemL L n 0).take (t * b) ++ batchL L n b q (st : Int) (t : Int) := by
  have e1 : t / q = 0 := Nat.div_eq_of_lt hb
  have e2 : t % q = t := Nat.mod_eq_of_lt hb
  rw [batchL, if_pos (by omega), show ((t : Int)).toNat = t by omega, e1, e2, Nat.zero_mul, Nat.succ_mul, List.take_add]
end
section
open Go.RowKit
def micL (K : MC) (t a : Int) : List Int := pieceL (pieceL (batchL K.L K.m K.b K.q K.st t) K.x K.pc.m) a K.pc.mi
def exG (K : MC) (P : List Int) (i : Int) : List Int := gradN K.l K.n P K.c.sh (K.f (i.toNat + 1)).1 (K.f (i.toNat + 1)).2
def accG (K : MC) (P G : List Int) (l : List Int) : List Int := l.foldl (fun G i => addAt G 0 (exG K P i) K.NP) G
theorem accG_snoc (K : MC) (P G l : List Int) (i : Int) : accG K P G (l ++ [i]) = addAt (accG K P G l) 0 (exG K P i) K.NP := by simp [accG]
theorem accG_length (K : MC) (P G l : List Int) : (accG K P G l).length = G.length := by
  induction l generalizing G with
  | nil => rfl
  | cons i l ih => rw [accG, List.foldl_cons]; exact (ih _).trans (addAt_length _ _ _ _)
theorem pieceL_mem {l : List Int} {i k x : Int} (h : x ∈ pieceL l i k) : x ∈ l := by
  unfold pieceL at h
  split at h
  · exact List.mem_of_mem_drop (List.mem_of_mem_take h)
  · cases h
theorem micL_in {K : MC} (hK : K.Ok) (t a : Int) : ∀ x ∈ micL K t a, 0 ≤ x ∧ x < (K.m : Int) := by
  intro x hx
  have h1 := pieceL_mem (pieceL_mem hx)
  unfold batchL at h1
  split at h1
  · rename_i ht
    have h2 := List.mem_of_mem_drop (List.mem_of_mem_take h1)
    refine pem_in K.L K.m _ ?_ x h2
    have hd := hK.dr
    have hq := hK.smp.hq
    have hE := hK.smp.hE
    have h3 : t.toNat / K.q + 1 ≤ K.E := by
      rw [← hE]
      have h4 : t.toNat < K.st := by omega
      have h5 := Nat.div_mul_le_self t.toNat K.q
      have h6 : cnt K.st K.q = (K.st + K.q - 1) / K.q := by rw [cnt_up _ _ hq]
      rw [h6]
      refine (Nat.le_div_iff_mul_le (by omega)).2 ?_
      rw [Nat.succ_mul]
      omega
    have h7 : (t.toNat / K.q + 1) * (K.m - 1) ≤ K.E * (K.m - 1) := Nat.mul_le_mul_right _ h3
    rw [Nat.succ_mul] at h7
    omega
  · cases h1
theorem micL_len {K : MC} (hK : K.Ok) (t a : Int) : (micL K t a).length ≤ 1000 := by
  have h0 : ∀ (l : List Int) (i k : Int), (pieceL l i k).length ≤ l.length := by
    intro l i k
    unfold pieceL
    split
    · simp; omega
    · simp
  refine Nat.le_trans (h0 _ _ _) (Nat.le_trans (h0 _ _ _) ?_)
  unfold batchL
  split
  · have := hK.smp.hbn
    have := hK.smp.hn
    simp
    omega
  · simp
set_option maxHeartbeats 4000000 in
theorem machCompute_any (S : Nat → Prop) (mb : Nat) (K : MC) (s : MS) (k1 t u : Int) (sd ad : Bool) (j1 j2 j3 j4 j5 j6 j7 : Int) (pl pr : Option Addr) (w : World) (hK : K.Ok) (h : MachAt S w mb K s) (hu : -1000 ≤ u ∧ u ≤ 1000) :
    Calls Tryz.prog 231 #[.pointer (some ⟨mb, 0, none⟩), (.agg (mitC k1 t u sd ad j1 j2 j3 j4 j5 j6 j7)), .agg #[.pointer pl, .pointer pr]] w fun e w' => e = .returned (.int .i64 0) ∧ MachAt (fun i => S i ∨ w.heap.size ≤ i) w' mb K { s with G := accG K s.P s.G (micL K t u) } ∧ But S w w' := by
  obtain ⟨F, a, hM, hF, hMu⟩ := h
  have HM := Lib.hid hM
  have HF := Lib.hid hF
  have HMu := Lib.hid hMu
  have HK := Lib.hid hK
  have HU := Lib.hid hu
  clear hM hF hMu hK hu
  go_enter Tryz.func231, Tryz.ntmps231
  go_wp2_with fail
  obtain ⟨w1, hw1⟩ : ∃ w1, (w.alloc (.cells (mitC k1 t u sd ad j1 j2 j3 j4 j5 j6 j7) 222)).alloc (.cells #[.pointer pl, .pointer pr] 341) = w1 := ⟨_, rfl⟩
  have hb1 : Below w.heap.size w w1 := by rw [← hw1]; exact ((Below.refl _ _).alloc (Nat.le_refl _) _).alloc (by simp) _
  have hi1 : Blk w1 w.heap.size 222 (mitC k1 t u sd ad j1 j2 j3 j4 j5 j6 j7) := by rw [← hw1]; exact (Blk.new _ _ _).alloc _
  rw [hw1]
  have HB1 := Lib.hid hb1
  have HI1 := Lib.hid hi1
  have HM1 := Lib.hid (HM.out.below hb1)
  clear hw1 hb1 hi1
  obtain ⟨lP, lM, lG, -⟩ := HM.out.lens
  have HNW := Lib.hid (fun W (kk : Kept w1 W) => netNew_any a.base a.bs K.l K.n K.NP s.P K.c.sh (some ⟨a.gp, 0, none⟩) a.cP W (HK.out.net lP HM.out.pin) (HM1.out.fz.here.shp.below kk.2.2) (Rd.of_own (own_below HM1.out.prow kk.2.2)))
  have m3 : w1.cell? ⟨mb, 3, none⟩ = some (.pointer (some ⟨a.bs, 0, none⟩)) := HM1.out.blk.cell 3
  have m11 : w1.cell? ⟨mb, 11, none⟩ = some (.slice (some ⟨a.gp, 0, none⟩) K.NP a.cP) := HM1.out.blk.cell 11
  have m10 : w1.cell? ⟨mb, 10, none⟩ = some (.int .i64 K.c.sh) := HM1.out.blk.cell 10
  have ml := HM1.out.blk.lt
  have KS : Kept w1 w1.drew := Kept.start w1
  go_region_held3 (fun w' => Kept w1 w') (first | exact kk | exact KS) (first
    | (go_at_call 61; (with_reducible refine (HNW.out _ KS).mono ?_); rintro e w2 ⟨nb, rfl, hnt, hb2⟩; have kk : Kept w1 w2 := KS.call hb2; have HK2 := Lib.hid kk; have HNT := Lib.hid hnt; clear hnt hb2))
  have HM2 := Lib.hid (HM1.out.below HK2.out.2.2)
  have HI2 := Lib.hid (HI1.out.kept HK2.out.2.2)
  clear kk KS m3 m11 m10 ml HNW
  obtain ⟨mic, hmic⟩ : ∃ l, micL K t u = l := ⟨_, rfl⟩
  obtain ⟨nI, hnI⟩ : ∃ k, mic.length = k := ⟨_, rfl⟩
  have hn1000 : nI ≤ 1000 := by rw [← hnI, ← hmic]; exact micL_len HK.out t u
  have HMI : Hid (∀ W, Kept w2 W → Calls Tryz.prog 24 #[.pointer (some ⟨a.smb, 0, none⟩), .int .i64 t, .int .i64 K.x, .int .i64 K.pc.m, .int .i64 u, .int .i64 K.pc.mi] W (OwnRet W 3 1 nI (iv mic))) := Lib.hid (fun W kk => by
    have hm8 := HK.out.pcok.m2
    have hx8 := HK.out.xw
    have hi20 := HK.out.pcok.i2
    have hu := HU.out
    have := smpMicro_any 0 a.smb K.b K.st K.q K.E K.m K.L W HK.out.smp t K.x K.pc.m u K.pc.mi (HM2.out.fz.here.smp.below kk.2.2) (by omega) (by omega) (by omega) (by omega) (by omega) (by omega) (by omega) (by omega)
    have e : pieceL (pieceL (batchL K.L K.m K.b K.q K.st t) K.x K.pc.m) u K.pc.mi = mic := hmic
    rw [e] at this
    unfold CpRet at this
    rw [hnI] at this
    exact this)
  have HPI := Lib.hid (fun W (kk : Kept w2 W) A cap (r : Rd W 1 A nI (iv mic)) => dataPick_any a.S A K.m a.cS K.N K.M nI cap mic a.es K.f W hnI (by omega) r (by rw [← hmic]; exact micL_in HK.out t u) HM2.out.fz.here.esl (by have := HK.out.smp.hn; omega) (Rd.of_own (own_below HM2.out.fz.here.exs kk.2.2)) ((HM2.out.fz.here.exr.below kk.2.2).rd) (by rw [HK.out.hN, szN]; have := (HK.out.net lP HM.out.pin).sz (show 0 < K.n by have := HK.out.n2; omega); unfold szN at this; omega) (by rw [HK.out.hM]; have := (HK.out.net lP HM.out.pin).sz (show K.n - 1 < K.n by have := HK.out.n2; omega); omega) HK.out.fl)
  have HMIC := Lib.hid hmic
  have HNI := Lib.hid hnI
  clear hmic hnI
  have m4 : w2.cell? ⟨mb, 4, none⟩ = some (.slice a.S K.m a.cS) := HM2.out.blk.cell 4
  have m5 : w2.cell? ⟨mb, 5, none⟩ = some (.pointer (some ⟨a.smb, 0, none⟩)) := HM2.out.blk.cell 5
  have m0 : w2.cell? ⟨mb, 0, none⟩ = some (.int .i64 K.x) := HM2.out.blk.cell 0
  have m1 : w2.cell? ⟨mb, 1, none⟩ = some (.int .i64 K.pc.m) := HM2.out.blk.cell 1
  have m2 : w2.cell? ⟨mb, 2, none⟩ = some (.int .i64 K.pc.mi) := HM2.out.blk.cell 2
  have ml := HM2.out.blk.lt
  have i1 := HI2.out.cell 1
  have i2 := HI2.out.cell 2
  have il := HI2.out.lt
  have KS : Kept w2 w2.drew := Kept.start w2
  go_wp2_with fail
  go_region_held3 (fun w' => Kept w2 w') (first | exact k4 | exact kk | exact KS) (first
    | (go_at_call 24; (with_reducible refine (HMI.out _ KS).mono ?_); rintro e w3 ⟨A3, c3, rfl, ho3, hb3⟩; have kk : Kept w2 w3 := KS.call hb3; have HO3 := Lib.hid (Rd.of_own ho3); clear ho3 hb3)
    | (go_at_call 166; (with_reducible refine (HPI.out _ kk A3 c3 HO3.out).mono ?_); rintro e w4 ⟨B4, c4, l4, hl4, rfl, hr4, hs4, hb4⟩; have k4 : Kept w2 w4 := kk.call hb4; have HK4 := Lib.hid k4; have HL4 := Lib.hid hl4; have HZ4 := Lib.hid kk.2.1; have HR4 := Lib.hid (own_base hr4 HZ4.out); have HS4 := Lib.hid (hs4.base HZ4.out); clear hl4 hr4 hs4 hb4))
  have HM4 := Lib.hid (HM2.out.below HK4.out.2.2)
  have HN4 := Lib.hid (HNT.out.below HK4.out.2.2)
  have HG4 : Hid (a.gg < w1.heap.size) := Lib.hid (HM1.out.grow.lt _ rfl).2
  have HZ12 : Hid (w1.heap.size ≤ w2.heap.size) := Lib.hid HK2.out.2.1
  clear kk k4 KS m4 m5 m0 m1 m2 ml i1 i2 il HMI HPI
  go_wp2_with fail
  go_loopw [71] (fun v wr => ∃ i : Nat, i ≤ nI ∧ v = .int .i64 i ∧ wr.ownsRow 0 2 1 (.slice (some ⟨a.gg, 0, none⟩) K.NP a.cG) K.NP (iv (accG K s.P s.G (mic.take i))) ∧ But (fun b => b = a.gg) w4 wr) (fun v _ => nI - (intOf v).toNat)
  case atStart => exact ⟨0, by omega, rfl, HM4.out.grow, But.refl _ _⟩
  case round =>
    obtain ⟨i, hi, rfl, hz, hb⟩ := hrel
    have hMr := HM4.out.setG hb hz
    have hRr := own_but HR4.out hb (fun g hg e => by have h1 := (HR4.out.lt g hg).1; have h2 := HG4.out; have h3 := HZ12.out; omega)
    have hNr := HN4.out.but hb (fun i e => by rw [e]; exact HG4.out) hMr.fz.here.shp
    by_cases hir : i < nI
    · obtain ⟨⟨A1, c1, A2, c2⟩, hs4⟩ : ∃ s, l4[i]? = some s := ⟨_, List.getElem?_eq_getElem (by rw [HL4.out]; exact hir)⟩
      obtain ⟨xi, hxi⟩ : ∃ x, mic[i]? = some x := ⟨_, List.getElem?_eq_getElem (by rw [HNI.out]; exact hir)⟩
      obtain ⟨b5, o5, rfl, l5, q0, q1⟩ := stv_rd (Rd.of_own hRr) hs4 hir
      dsimp only at q0 q1
      obtain ⟨hx4, hy4⟩ := HS4.out i _ hs4
      have hpk : pickF K.f mic (i + 1) = K.f (xi.toNat + 1) := by
        unfold pickF
        rw [Nat.add_sub_cancel, List.getD_eq_getElem?_getD, hxi]
        rfl
      rw [hpk] at hx4 hy4
      have hxin := micL_in HK.out t u xi (by rw [HMIC.out]; exact List.mem_of_getElem? hxi)
      obtain ⟨fx, fy⟩ := HK.out.fl xi.toNat (by omega)
      have fi := HK.out.fi xi.toNat (by omega)
      have hxr := own_but hx4 hb (fun g hg e => by have h1 := (hx4.lt g hg).1; have h2 := HG4.out; have h3 := HZ12.out; omega)
      have hyr := own_but hy4 hb (fun g hg e => by have h1 := (hy4.lt g hg).1; have h2 := HG4.out; have h3 := HZ12.out; omega)
      have r1 : (0 : Int) ≤ (i : Int) := by omega
      have r2 : (i : Int) < (nI : Int) := by omega
      have HIR := Lib.hid hir
      have HXI := Lib.hid hxi
      have HMR := Lib.hid hMr
      have HNR := Lib.hid hNr
      have HXR := Lib.hid hxr
      have HYR := Lib.hid hyr
      have HBR := Lib.hid hb
      have HZR := Lib.hid hz
      have HFX := Lib.hid fx
      have HFY := Lib.hid fy
      have HFI := Lib.hid fi
      clear hMr hRr hNr hz hb hs4 hxi hx4 hy4 hpk hxin fx fy fi hxr hyr hir
      go_wp2_with fail
      obtain ⟨w5, hw5⟩ : ∃ w5, wr.alloc (.cells #[.slice A1 K.N c1, .slice A2 K.M c2] 162) = w5 := ⟨_, rfl⟩
      have hb5 : Below wr.heap.size wr w5 := by rw [← hw5]; exact (Below.refl _ _).alloc (Nat.le_refl _) _
      rw [hw5]
      have HB5 := Lib.hid hb5
      have HM5 := Lib.hid (HMR.out.below hb5)
      have hlx := HFX.out
      have hly := HFY.out
      clear hw5 hb5 q0 q1 l5
      ((with_reducible refine (netGrad_any nb K.l K.n K.NP s.P K.c.sh (K.f (xi.toNat + 1)).1 (K.f (xi.toNat + 1)).2 A1 A2 K.N c1 K.M c2 w5 (HK.out.net lP HM.out.pin) (HNR.out.below HB5.out).net hlx (Rd.of_own (own_below HXR.out HB5.out)) HK.out.hN HFI.out hly (Rd.of_own (own_below HYR.out HB5.out)) HK.out.hM.symm).mono ?_); rintro e w6 ⟨B6, c6, rfl, hr6, hb6⟩)
      have HM6 := Lib.hid (HM5.out.below hb6)
      have HR6 := Lib.hid hr6
      have HB6 := Lib.hid hb6
      have HLG : Hid ((accG K s.P s.G (mic.take i)).length = K.NP) := Lib.hid (by rw [accG_length]; exact lG)
      have HLX : Hid ((exG K s.P xi).length = K.NP) := Lib.hid (gradN_length (HK.out.net lP HM.out.pin) (by rw [hlx, HK.out.hN]))
      have HAD := Lib.hid (add_any (some ⟨a.gg, 0, none⟩) B6 a.gg 0 K.NP a.cG c6 K.NP a.cG 0 (accG K s.P s.G (mic.take i)) (exG K s.P xi) w6 (fun _ => rfl) (by omega) (by have := HK.out.np; omega) HLG.out HLX.out HM6.out.grow (Rd.of_own hr6) (fun b o' e h0 e2 => by
        have h1 := (hr6.lt b (by rw [e]; rfl)).1
        have h2 := (HM5.out.grow.lt a.gg rfl).2
        omega))
      clear hr6 hb6 hlx hly
      have m13 : w6.cell? ⟨mb, 13, none⟩ = some (.slice (some ⟨a.gg, 0, none⟩) K.NP a.cG) := HM6.out.blk.cell 13
      have ml := HM6.out.blk.lt
      go_wp2_with fail
      ((with_reducible refine HAD.out.mono ?_); rintro e w7 ⟨rfl, hz7, hg7⟩)
      have HZ7 := Lib.hid hz7
      have HB7 : Hid (But (fun b => b = a.gg) w4 w7) := Lib.hid ((HBR.out.call (HB5.out.trans (HB6.out.mono HB5.out.size))).trans (But.of_gr hg7 rfl))
      clear hz7 hg7 m13 ml
      go_wp2_with fail
      go_roundw
      case rel =>
        refine ⟨i + 1, HIR.out, by go_num, ?_, HB7.out⟩
        have e : mic.take (i + 1) = mic.take i ++ [xi] := by
          have hlt : i < mic.length := by rw [HNI.out]; exact HIR.out
          rw [take_snoc _ _ hlt]
          have := HXI.out
          rw [List.getElem?_eq_getElem hlt] at this
          injection this with this
          rw [this]
        rw [e, accG_snoc]
        exact HZ7.out
      case measure => simp [intOf]; have := HIR.out; omega
    · obtain rfl : i = nI := by omega
      have HMR := Lib.hid hMr
      have HBR := Lib.hid hb
      have HBW : Hid (Below w.heap.size w w4) := Lib.hid (HB1.out.trans ((HK2.out.2.2.trans (HK4.out.2.2.mono HK2.out.2.1)).mono HB1.out.size))
      clear hMr hRr hNr hz hb
      go_wp2_with fail
      go_ret
      have e1 : micL K t u = mic := HMIC.out
      rw [List.take_of_length_le (by rw [HNI.out]; exact Nat.le_refl _)] at HMR
      have hg : S a.gg := HMu.out a.gg (.inr (.inr (.inr (.inl rfl))))
      refine ⟨rfl, ⟨F, a, ?_, fun i hi => .inl (HF.out i hi), fun i hi => .inl (HMu.out i hi)⟩, (But.of_below S HBW.out).trans (HBR.out.mono (fun i _ e => by rw [e]; exact hg))⟩
      rw [e1]
      exact HMR.out
end
section
open Go.RowKit
variable {F S T : Nat → Prop} {w w' : World} {mb : Nat} {K : MC} {s : MS} {a : MA}
theorem MachIn.setO (h : MachIn F w mb K s a) {opn : List Int} {AO : Option Addr} {cO : Nat} (hb : But (fun i => i = mb ∨ blkOf a.AO = some i) w w') (hB : Blk w' mb 121 (machC K { s with opn := opn } { a with AO := AO, cO := cO }))
    (hO : w'.ownsRow 0 3 1 (.slice AO opn.length cO) opn.length (iv opn)) (hnew : ∀ g, blkOf AO = some g → blkOf a.AO = some g ∨ w.heap.size ≤ g) (hl : opn.length ≤ 1000000) : MachIn F w' mb K { s with opn := opn } { a with AO := AO, cO := cO } := by
  refine ⟨hB, Hg.imp (h.fz.but hb ?_) (fun W hW => ⟨hW.shp, hW.exs, hW.esl, hW.exr, hW.smp, hW.pln, hW.bks, hW.its, hW.rsl, hW.rsr⟩),
    own_but h.prow hb ?_, own_but h.mrow hb ?_, own_but h.grow hb ?_, own_but h.rrow hb ?_, hO, h.npm, h.npg, h.nmg, ?_, fun i hi => Nat.lt_of_lt_of_le (h.fw i hi) hb.size, h.pin, h.min, h.rl, h.nl, h.il, h.cl, hl⟩
  · rintro i _ hF (e | e)
    · exact h.nf i (.inl e) hF
    · exact h.nf i (.inr (.inr (.inr (.inr (.inr e))))) hF
  · rintro g e (e1 | e1)
    · exact own_blk_ne h.prow h.blk (by decide) (by rw [e, e1])
    · exact lnk_own_ne h.prow h.orow (by decide) g e ((own_blkOf _ _ _).trans e1)
  · rintro g e (e1 | e1)
    · exact own_blk_ne h.mrow h.blk (by decide) (by rw [e, e1])
    · exact lnk_own_ne h.mrow h.orow (by decide) g e ((own_blkOf _ _ _).trans e1)
  · rintro g e (e1 | e1)
    · exact own_blk_ne h.grow h.blk (by decide) (by rw [e, e1])
    · exact lnk_own_ne h.grow h.orow (by decide) g e ((own_blkOf _ _ _).trans e1)
  · rintro g e (e1 | e1)
    · exact own_blk_ne h.rrow h.blk (by decide) (by rw [e, e1])
    · exact lnk_own_ne h.rrow h.orow (by decide) g e ((own_blkOf _ _ _).trans e1)
  · rintro i (hi | hi | hi | hi | hi | hi) hF
    · exact h.nf i (.inl hi) hF
    · exact h.nf i (.inr (.inl hi)) hF
    · exact h.nf i (.inr (.inr (.inl hi))) hF
    · exact h.nf i (.inr (.inr (.inr (.inl hi)))) hF
    · exact h.nf i (.inr (.inr (.inr (.inr (.inl hi))))) hF
    · rcases hnew i hi with h1 | h1
      · exact h.nf i (.inr (.inr (.inr (.inr (.inr h1))))) hF
      · have := h.fw i hF
        omega
theorem MachIn.setR (h : MachIn F w mb K s a) {x : StS} {AR : Option Addr} {cR : Nat} (hb : But (fun i => i = mb ∨ blkOf a.AR = some i) w w') (hB : Blk w' mb 121 (machC K { s with rcd := s.rcd ++ [(s.P, s.M)] } { a with AR := AR, cR := cR, rs := a.rs ++ [x] }))
    (hR : w'.ownsRow 0 92 2 (.slice AR (s.rcd ++ [(s.P, s.M)]).length cR) (s.rcd ++ [(s.P, s.M)]).length (stv K.NP K.NP (a.rs ++ [x]))) (hnew : ∀ g, blkOf AR = some g → blkOf a.AR = some g ∨ w.heap.size ≤ g)
    (h1 : w'.ownsRow w.heap.size 2 1 (.slice x.1 K.NP x.2.1) K.NP (iv s.P)) (h2 : w'.ownsRow w.heap.size 2 1 (.slice x.2.2.1 K.NP x.2.2.2) K.NP (iv s.M)) (hl : s.rcd.length < 1000) :
    MachIn (fun i => F i ∨ blkOf x.1 = some i ∨ blkOf x.2.2.1 = some i) w' mb K { s with rcd := s.rcd ++ [(s.P, s.M)] } { a with AR := AR, cR := cR, rs := a.rs ++ [x] } := by
  have hlt1 : ∀ g, blkOf x.1 = some g → w.heap.size ≤ g ∧ g < w'.heap.size := fun g hg => h1.lt g ((own_blkOf _ _ _).trans hg)
  have hlt2 : ∀ g, blkOf x.2.2.1 = some g → w.heap.size ≤ g ∧ g < w'.heap.size := fun g hg => h2.lt g ((own_blkOf _ _ _).trans hg)
  have hF0 : Hg F w' (fun W => FzAt W K s a) := h.fz.but hb (by
    rintro i _ hF (e | e)
    · exact h.nf i (.inl e) hF
    · exact h.nf i (.inr (.inr (.inr (.inr (.inl e))))) hF)
  have hF1 : Hg (fun i => F i ∨ blkOf x.1 = some i ∨ blkOf x.2.2.1 = some i) w' (fun W => FzAt W K { s with rcd := s.rcd ++ [(s.P, s.M)] } { a with AR := AR, cR := cR, rs := a.rs ++ [x] }) := by
    refine Hg.imp (((hF0.mono (T := fun i => F i ∨ blkOf x.1 = some i ∨ blkOf x.2.2.1 = some i) (fun i _ hi => .inl hi)).and (Hg.own (S := fun i => F i ∨ blkOf x.1 = some i ∨ blkOf x.2.2.1 = some i) h1 (fun g hg => .inr (.inl ((own_blkOf _ _ _).symm.trans hg))))).and (Hg.own (S := fun i => F i ∨ blkOf x.1 = some i ∨ blkOf x.2.2.1 = some i) h2 (fun g hg => .inr (.inr ((own_blkOf _ _ _).symm.trans hg))))) ?_
    rintro W ⟨⟨hW, hx1⟩, hx2⟩
    refine ⟨hW.shp, hW.exs, hW.esl, hW.exr, hW.smp, hW.pln, hW.bks, hW.its, ?_, ?_⟩
    · simp [hW.rsl]
    · have hold : OwnS W 0 K.NP K.NP a.rs (recF (s.rcd ++ [(s.P, s.M)])) := by
        intro i y hy
        have hil : i < a.rs.length := (List.getElem?_eq_some_iff.1 hy).1
        have := hW.rsr i y hy
        rw [hW.rsl] at hil
        have e : recF (s.rcd ++ [(s.P, s.M)]) (i + 1) = recF s.rcd (i + 1) := by
          unfold recF
          rw [Nat.add_sub_cancel, List.getD_eq_getElem?_getD, List.getD_eq_getElem?_getD, List.getElem?_append_left hil]
        rw [e]
        exact this
      have e : recF (s.rcd ++ [(s.P, s.M)]) (a.rs.length + 1) = (s.P, s.M) := by
        unfold recF
        rw [Nat.add_sub_cancel, hW.rsl, List.getD_eq_getElem?_getD, List.getElem?_append_right (Nat.le_refl _), Nat.sub_self]
        rfl
      have := hold.snoc (A := x.1) (B := x.2.2.1) (c := x.2.1) (d := x.2.2.2) (by rw [e]; exact own_base hx1 (Nat.zero_le _)) (by rw [e]; exact own_base hx2 (Nat.zero_le _))
      exact this
  refine ⟨hB, hF1, own_but h.prow hb ?_, own_but h.mrow hb ?_, own_but h.grow hb ?_, hR, own_but h.orow hb ?_, h.npm, h.npg, h.nmg, ?_, ?_, h.pin, h.min, by simp; omega, h.nl, h.il, h.cl, h.ol⟩
  · rintro g e (e1 | e1)
    · exact own_blk_ne h.prow h.blk (by decide) (by rw [e, e1])
    · exact lnk_own_ne h.prow h.rrow (by decide) g e ((own_blkOf _ _ _).trans e1)
  · rintro g e (e1 | e1)
    · exact own_blk_ne h.mrow h.blk (by decide) (by rw [e, e1])
    · exact lnk_own_ne h.mrow h.rrow (by decide) g e ((own_blkOf _ _ _).trans e1)
  · rintro g e (e1 | e1)
    · exact own_blk_ne h.grow h.blk (by decide) (by rw [e, e1])
    · exact lnk_own_ne h.grow h.rrow (by decide) g e ((own_blkOf _ _ _).trans e1)
  · rintro g e (e1 | e1)
    · exact own_blk_ne h.orow h.blk (by decide) (by rw [e, e1])
    · exact lnk_own_ne h.orow h.rrow (by decide) g e ((own_blkOf _ _ _).trans e1)
  · intro i hi hF
    have hlow : Mu mb a i → ¬ (F i ∨ blkOf x.1 = some i ∨ blkOf x.2.2.1 = some i) := by
      rintro hm (hF | hF | hF)
      · exact h.nf i hm hF
      · have := h.mu_lt hm
        have := (hlt1 i hF).1
        omega
      · have := h.mu_lt hm
        have := (hlt2 i hF).1
        omega
    rcases hi with hi | hi | hi | hi | hi | hi
    · exact hlow (.inl hi) hF
    · exact hlow (.inr (.inl hi)) hF
    · exact hlow (.inr (.inr (.inl hi))) hF
    · exact hlow (.inr (.inr (.inr (.inl hi)))) hF
    · rcases hnew i hi with h3 | h3
      · exact hlow (.inr (.inr (.inr (.inr (.inl h3))))) hF
      · rcases hF with hF | hF | hF
        · have := h.fw i hF
          omega
        · exact lnk_own_ne hR h1 (by decide) i ((own_blkOf _ _ _).trans hi) ((own_blkOf _ _ _).trans hF)
        · exact lnk_own_ne hR h2 (by decide) i ((own_blkOf _ _ _).trans hi) ((own_blkOf _ _ _).trans hF)
    · exact hlow (.inr (.inr (.inr (.inr (.inr hi))))) hF
  · rintro i (hi | hi | hi)
    · exact Nat.lt_of_lt_of_le (h.fw i hi) hb.size
    · exact (hlt1 i hi).2
    · exact (hlt2 i hi).2
end
section
open Go.RowKit
set_option maxHeartbeats 4000000 in
theorem machLaunch_any (S : Nat → Prop) (mb : Nat) (K : MC) (s : MS) (k1 t u : Int) (sd ad : Bool) (j1 j2 j3 j4 j5 j6 j7 : Int) (pl pr : Option Addr) (w : World) (h : MachAt S w mb K s) (hl : s.opn.length < 1000000) :
    Calls Tryz.prog 232 #[.pointer (some ⟨mb, 0, none⟩), (.agg (mitC k1 t u sd ad j1 j2 j3 j4 j5 j6 j7)), .agg #[.pointer pl, .pointer pr]] w fun e w' => e = .returned (.int .i64 0) ∧ MachAt (fun i => S i ∨ w.heap.size ≤ i) w' mb K { s with opn := s.opn ++ [u] } ∧ But S w w' := by
  obtain ⟨F, a, hM, hF, hMu⟩ := h
  have HM := Lib.hid hM
  have HF := Lib.hid hF
  have HMu := Lib.hid hMu
  clear hM hF hMu
  go_enter Tryz.func232, Tryz.ntmps232
  go_wp2_with fail
  obtain ⟨w1, hw1⟩ : ∃ w1, (w.alloc (.cells (mitC k1 t u sd ad j1 j2 j3 j4 j5 j6 j7) 222)).alloc (.cells #[.pointer pl, .pointer pr] 341) = w1 := ⟨_, rfl⟩
  have hb1 : Below w.heap.size w w1 := by rw [← hw1]; exact ((Below.refl _ _).alloc (Nat.le_refl _) _).alloc (by simp) _
  have hi1 : Blk w1 w.heap.size 222 (mitC k1 t u sd ad j1 j2 j3 j4 j5 j6 j7) := by rw [← hw1]; exact (Blk.new _ _ _).alloc _
  rw [hw1]
  have HB1 := Lib.hid hb1
  have HI1 := Lib.hid hi1
  have HM1 := Lib.hid (HM.out.below hb1)
  clear hw1 hb1 hi1
  refine wp_region_early (fun W => Blk W mb 121 (machC K s a) ∧ Blk W w.heap.size 222 (mitC k1 t u sd ad j1 j2 j3 j4 j5 j6 j7)) [0, 1, 2, 3, 4, 5, 6] [7, 8] [9, 10, 11] (by kernel_rfl) (by kernel_rfl) (⟨HM1.out.blk.drew, HI1.out.drew⟩) ?_
  simp only [List.filterMap_cons, List.filterMap_nil, List.getElem?_cons_succ, List.getElem?_cons_zero]
  refine early_step (.pointer (some ⟨mb, 0, none⟩)) rfl (fun W hW => ?_) ?_
  · obtain ⟨hx, hy⟩ := hW
    have x18 := hx.cell 18
    have y2 := hy.cell 2
    have lx := hx.lt
    have ly := hy.lt
    go_simp
  go_simp
  refine early_step (.pointer (some ⟨mb, 0, none⟩)) rfl (fun W hW => ?_) ?_
  · obtain ⟨hx, hy⟩ := hW
    have x18 := hx.cell 18
    have y2 := hy.cell 2
    have lx := hx.lt
    have ly := hy.lt
    go_simp
  go_simp
  refine early_step (.pointer (some ⟨mb, 0, none⟩)) rfl (fun W hW => ?_) ?_
  · obtain ⟨hx, hy⟩ := hW
    have x18 := hx.cell 18
    have y2 := hy.cell 2
    have lx := hx.lt
    have ly := hy.lt
    go_simp
  go_simp
  refine early_step (.pointer (some ⟨mb, 18, none⟩)) rfl (fun W hW => ?_) ?_
  · obtain ⟨hx, hy⟩ := hW
    have x18 := hx.cell 18
    have y2 := hy.cell 2
    have lx := hx.lt
    have ly := hy.lt
    go_simp
  go_simp
  refine early_step (.slice a.AO s.opn.length a.cO) rfl (fun W hW => ?_) ?_
  · obtain ⟨hx, hy⟩ := hW
    have x18 := hx.cell 18
    have y2 := hy.cell 2
    have lx := hx.lt
    have ly := hy.lt
    go_simp
  go_simp
  refine early_step (.pointer (some ⟨w.heap.size, 2, none⟩)) rfl (fun W hW => ?_) ?_
  · obtain ⟨hx, hy⟩ := hW
    have x18 := hx.cell 18
    have y2 := hy.cell 2
    have lx := hx.lt
    have ly := hy.lt
    go_simp
  go_simp
  refine early_step (.int .i64 u) rfl (fun W hW => ?_) ?_
  · obtain ⟨hx, hy⟩ := hW
    have x18 := hx.cell 18
    have y2 := hy.cell 2
    have lx := hx.lt
    have ly := hy.lt
    go_simp
  go_simp
  change RestW _ _ _ _ _ (_ :: _ :: []) _ _
  unfold RestW
  go_wp2_with fail
  refine ⟨⟨HM1.out.blk.drew.alloc _, HI1.out.drew.alloc _⟩, ?_⟩
  unfold RestW
  change wpList _ _ _ (_ :: []) _ (w1.drew.alloc (.cells #[.int .i64 u] 3))
  go_wp2_with (at_builtin; go_must (refine wpList_pushL (w := w1.drew) slInt rfl _ _ rfl 0 (.slice a.AO s.opn.length a.cO) s.opn.length (iv s.opn) rfl (show w1.drew.ownsRow 0 3 1 (.slice a.AO s.opn.length a.cO) s.opn.length (iv s.opn) from HM1.out.orow) #[.int .i64 u] w1.drew.heap.size rfl rfl rfl (by intro u hu; simp at hu; subst hu; rfl) (by unfold maxLen; have := HM.out.ol; omega) (by have := HM.out.ol; omega) (Nat.zero_le _) ?_); go_must (intro A' c' wa hown' hb' hgr' hat'))
  have hgr : w1.grownBy wa (Value.slice a.AO s.opn.length a.cO).ownBlock := gr_below_first ((Below.refl w1.heap.size w1).drew) hgr'
  have HX := Lib.hid (HM1.out.blk.other HM1.out.orow hgr (by decide))
  have HY := Lib.hid (HI1.out.other HM1.out.orow hgr (by decide))
  have HO := Lib.hid hown'
  have HGR := Lib.hid hgr
  have HAT := Lib.hid hat'
  clear hown' hb' hgr' hat' hgr
  refine ⟨⟨HX.out, HY.out⟩, ?_⟩
  unfold RestW
  change wpList _ _ _ (_ :: _ :: _ :: []) _ _
  have v18 := HX.out.cell 18
  have f18 := HX.out.frozen 18
  have l18 := HX.out.lt
  go_wp2_with fail
  refine NoPanic.normal ?_
  go_wp2_with fail
  go_ret
  have hg2 := gr_set (p := ⟨mb, 18, none⟩) (World.grownBy.refl wa (some mb)) (.inl rfl) (.slice A' (s.opn.length + 1) c')
  have hB2 : Blk (wa.setCell ⟨mb, 18, none⟩ (.slice A' (s.opn.length + 1) c')) mb 121 (machC K { s with opn := s.opn ++ [u] } { a with AO := A', cO := c' }) := by
    have := HX.out.set_ 18 (.slice A' (s.opn.length + 1) c')
    simpa [machC] using this
  have hO2 := HO.out.kept hg2 (.inr (own_blk_ne HO.out HX.out (by decide)))
  have hbut : But (fun i => i = mb ∨ blkOf a.AO = some i) w1 (wa.setCell ⟨mb, 18, none⟩ (.slice A' (s.opn.length + 1) c')) :=
    (But.of_own (S := fun i => i = mb ∨ blkOf a.AO = some i) HGR.out (fun g hg => .inr ((own_blkOf _ _ _).symm.trans hg))).trans (But.of_gr hg2 (.inl rfl))
  have e1 : (s.opn ++ [u]).length = s.opn.length + 1 := by simp
  have hm := HM1.out.setO (opn := s.opn ++ [u]) (AO := A') (cO := c') hbut hB2 (by rw [e1]; simpa [iv] using hO2) (fun g hg => by
    rcases HAT.out g ((own_blkOf _ _ _).trans hg) with h1 | h1
    · exact .inl ((own_blkOf _ _ _).symm.trans h1)
    · exact .inr (Nat.le_of_lt h1)) (by rw [e1]; omega)
  refine ⟨rfl, ⟨F, _, hm, fun i hi => .inl (HF.out i hi), fun i hi => ?_⟩, (But.of_below S HB1.out).trans (hbut.mono (fun i _ hi => ?_))⟩
  · rcases hi with hi | hi | hi | hi | hi | hi
    · exact .inl (HMu.out i (.inl hi))
    · exact .inl (HMu.out i (.inr (.inl hi)))
    · exact .inl (HMu.out i (.inr (.inr (.inl hi))))
    · exact .inl (HMu.out i (.inr (.inr (.inr (.inl hi)))))
    · exact .inl (HMu.out i (.inr (.inr (.inr (.inr (.inl hi))))))
    · rcases HAT.out i ((own_blkOf _ _ _).trans hi) with h1 | h1
      · exact .inl (HMu.out i (.inr (.inr (.inr (.inr (.inr ((own_blkOf _ _ _).symm.trans h1)))))))
      · have h2 : w1.heap.size < i := h1
        have := HB1.out.size
        exact .inr (by omega)
  · rcases hi with hi | hi
    · exact HMu.out i (.inl hi)
    · exact HMu.out i (.inr (.inr (.inr (.inr (.inr hi)))))
end
section
open Go.RowKit
def setL (xs : List Value) : Nat → List Value → List Value
  | _, [] => xs
  | o, v :: r => setL (xs.set o v) (o + 1) r
theorem setL_eq : ∀ (vs xs : List Value) (o : Nat), o + vs.length ≤ xs.length → setL xs o vs = xs.take o ++ (vs ++ xs.drop (o + vs.length))
  | [], xs, o, h => by simp [setL]
  | v :: r, xs, o, h => by
    rw [List.length_cons] at h
    rw [setL, setL_eq r (xs.set o v) (o + 1) (by rw [List.length_set]; omega), List.take_set, List.drop_set, if_pos (by omega)]
    rw [List.set_eq_take_append_cons_drop, if_pos (by rw [List.length_take]; omega), List.take_take, Nat.min_eq_left (by omega), List.drop_eq_nil_of_le (by rw [List.length_take]; omega), List.length_cons, show o + 1 + r.length = o + (r.length + 1) by omega]
    simp
theorem own_setCells {base : Nat} {e : TypeId} {g n c : Nat} : ∀ (vs : List Value) (o : Nat) (w : World) (xs : List Value), w.ownsRow base e 1 (.slice (some ⟨g, 0, none⟩) n c) n xs →
    (w.setCells g o vs).ownsRow base e 1 (.slice (some ⟨g, 0, none⟩) n c) n (setL xs o vs) ∧ w.grownBy (w.setCells g o vs) (some g)
  | [], o, w, xs, h => ⟨h, World.grownBy.refl _ _⟩
  | v :: r, o, w, xs, h => by
    obtain ⟨h1, h2⟩ := h.stored o v
    obtain ⟨h3, h4⟩ := own_setCells r (o + 1) _ _ h1
    exact ⟨h3, h2.trans h4⟩
theorem lnk_own_none {w : World} {base base' : Nat} {e e' : TypeId} {size size' n n' : Nat} {v v' : Value} {xs xs' : List Value} (h : w.ownsRow base e size v n xs) (h' : w.ownsRow base' e' size' v' n' xs') (hne : e ≠ e') : v.ownBlock = none ∨ v.ownBlock ≠ v'.ownBlock := by
  cases hv : v.ownBlock with
  | none => exact .inl rfl
  | some g => exact .inr (fun e => lnk_own_ne h h' hne g hv e.symm)
theorem slState : Sl Tryz.prog 52 92 (.agg #[.slice none 0 0, .slice none 0 0]) 2 48 := ⟨Tryz.underlying52, by kernel_rfl, rfl, by omega⟩
set_option maxHeartbeats 4000000 in
theorem machRecord_any (S : Nat → Prop) (mb : Nat) (K : MC) (s : MS) (k1 t u : Int) (sd ad : Bool) (j1 j2 j3 j4 j5 j6 j7 : Int) (pl pr : Option Addr) (w : World) (hK : K.Ok) (h : MachAt S w mb K s) (hl : s.rcd.length < 1000) :
    Calls Tryz.prog 236 #[.pointer (some ⟨mb, 0, none⟩), (.agg (mitC k1 t u sd ad j1 j2 j3 j4 j5 j6 j7)), .agg #[.pointer pl, .pointer pr]] w fun e w' => e = .returned (.int .i64 0) ∧ MachAt (fun i => S i ∨ w.heap.size ≤ i) w' mb K { s with rcd := s.rcd ++ [(s.P, s.M)], G := zeros K.NP } ∧ But S w w' := by
  obtain ⟨F, a, hM, hF, hMu⟩ := h
  obtain ⟨lP, lM, lG, lR⟩ := hM.lens
  have HM := Lib.hid hM
  have HF := Lib.hid hF
  have HMu := Lib.hid hMu
  have HK := Lib.hid hK
  have HLR := Lib.hid hl
  clear hM hF hMu hK hl lR
  go_enter Tryz.func236, Tryz.ntmps236
  go_wp2_with fail
  obtain ⟨w1, hw1⟩ : ∃ w1, (w.alloc (.cells (mitC k1 t u sd ad j1 j2 j3 j4 j5 j6 j7) 222)).alloc (.cells #[.pointer pl, .pointer pr] 341) = w1 := ⟨_, rfl⟩
  have hb1 : Below w.heap.size w w1 := by rw [← hw1]; exact ((Below.refl _ _).alloc (Nat.le_refl _) _).alloc (by simp) _
  rw [hw1]
  have HB1 := Lib.hid hb1
  have HM1 := Lib.hid (HM.out.below hb1)
  clear hw1 hb1
  have HC := Lib.hid (sgdClone_any (some ⟨a.gp, 0, none⟩) (some ⟨a.gm, 0, none⟩) K.NP K.NP a.cP a.cM s.P s.M w1.drew lP lM (Rd.of_own (own_drewR HM1.out.prow)) (Rd.of_own (own_drewR HM1.out.mrow)) (by have := HK.out.np; omega) (by have := HK.out.np; omega))
  refine wp_region_early (fun W => Blk W mb 121 (machC K s a)) [0, 1, 2, 3, 4, 5, 6, 7, 8] [9, 10, 11] [12, 13, 14] (by kernel_rfl) (by kernel_rfl) (HM1.out.blk.drew) ?_
  simp only [List.filterMap_cons, List.filterMap_nil, List.getElem?_cons_succ, List.getElem?_cons_zero]
  refine early_step (.pointer (some ⟨mb, 0, none⟩)) rfl (fun W hW => ?_) ?_
  · have x14 := hW.cell 14
    have x11 := hW.cell 11
    have x12 := hW.cell 12
    have lx := hW.lt
    go_simp
  go_simp
  refine early_step (.pointer (some ⟨mb, 0, none⟩)) rfl (fun W hW => ?_) ?_
  · have x14 := hW.cell 14
    have x11 := hW.cell 11
    have x12 := hW.cell 12
    have lx := hW.lt
    go_simp
  go_simp
  refine early_step (.pointer (some ⟨mb, 0, none⟩)) rfl (fun W hW => ?_) ?_
  · have x14 := hW.cell 14
    have x11 := hW.cell 11
    have x12 := hW.cell 12
    have lx := hW.lt
    go_simp
  go_simp
  refine early_step (.pointer (some ⟨mb, 14, none⟩)) rfl (fun W hW => ?_) ?_
  · have x14 := hW.cell 14
    have x11 := hW.cell 11
    have x12 := hW.cell 12
    have lx := hW.lt
    go_simp
  go_simp
  refine early_step (.slice a.AR s.rcd.length a.cR) rfl (fun W hW => ?_) ?_
  · have x14 := hW.cell 14
    have x11 := hW.cell 11
    have x12 := hW.cell 12
    have lx := hW.lt
    go_simp
  go_simp
  refine early_step (.pointer (some ⟨mb, 0, none⟩)) rfl (fun W hW => ?_) ?_
  · have x14 := hW.cell 14
    have x11 := hW.cell 11
    have x12 := hW.cell 12
    have lx := hW.lt
    go_simp
  go_simp
  refine early_step (.pointer (some ⟨mb, 0, none⟩)) rfl (fun W hW => ?_) ?_
  · have x14 := hW.cell 14
    have x11 := hW.cell 11
    have x12 := hW.cell 12
    have lx := hW.lt
    go_simp
  go_simp
  refine early_step (.pointer (some ⟨mb, 11, none⟩)) rfl (fun W hW => ?_) ?_
  · have x14 := hW.cell 14
    have x11 := hW.cell 11
    have x12 := hW.cell 12
    have lx := hW.lt
    go_simp
  go_simp
  refine early_step (.agg #[.slice (some ⟨a.gp, 0, none⟩) K.NP a.cP, .slice (some ⟨a.gm, 0, none⟩) K.NP a.cM]) rfl (fun W hW => ?_) ?_
  · have x14 := hW.cell 14
    have x11 := hW.cell 11
    have x12 := hW.cell 12
    have lx := hW.lt
    go_simp
  go_simp
  change RestW _ _ _ _ _ (_ :: _ :: _ :: []) _ _
  unfold RestW
  go_wp2_with fail
  ((with_reducible refine HC.out.mono ?_); rintro e w2 ⟨AP, cP, AM, cM, rfl, hp2, hm2, hpm, hb2⟩)
  have hb2' : Below w1.heap.size w1 w2 := ((Kept.start w1).call hb2).2.2
  have hp2' : w2.ownsRow w1.heap.size 2 1 (.slice AP K.NP cP) K.NP (iv s.P) := hp2
  have hm2' : w2.ownsRow w1.heap.size 2 1 (.slice AM K.NP cM) K.NP (iv s.M) := hm2
  have HB2 := Lib.hid hb2'
  have HP2 := Lib.hid hp2'
  have HQ2 := Lib.hid hm2'
  have HM2 := Lib.hid (HM1.out.below hb2')
  clear hp2 hm2 hpm hb2 hb2' hp2' hm2' HC
  go_wp2_with fail
  refine ⟨HM2.out.blk, ?_⟩
  unfold RestW
  change wpList _ _ _ (_ :: []) _ w2
  go_wp2_with fail
  refine ⟨HM2.out.blk.alloc _, ?_⟩
  unfold RestW
  change wpList _ _ _ (_ :: []) _ (w2.alloc (.cells #[.slice AP K.NP cP, .slice AM K.NP cM] 92))
  go_wp2_with (at_builtin; go_must (refine wpList_pushL (w := w2) slState rfl _ _ rfl 0 (.slice a.AR s.rcd.length a.cR) s.rcd.length (stv K.NP K.NP a.rs) rfl HM2.out.rrow #[.slice AP K.NP cP, .slice AM K.NP cM] w2.heap.size rfl rfl rfl (by intro u hu; simp at hu; rcases hu with rfl | rfl <;> rfl) (by unfold maxLen; have := HM.out.rl; omega) (by have := HM.out.rl; omega) (Nat.zero_le _) ?_); go_must (intro A' c' wa hown' hb' hgr' hat'))
  have HX := Lib.hid (HM2.out.blk.other HM2.out.rrow hgr' (by decide))
  have HP3 := Lib.hid (HP2.out.kept hgr' (lnk_own_none HP2.out HM2.out.rrow (by decide)))
  have HQ3 := Lib.hid (HQ2.out.kept hgr' (lnk_own_none HQ2.out HM2.out.rrow (by decide)))
  have HO := Lib.hid hown'
  have HGR := Lib.hid hgr'
  have HAT := Lib.hid hat'
  clear hown' hb' hgr' hat'
  refine ⟨HX.out, ?_⟩
  unfold RestW
  change wpList _ _ _ (_ :: _ :: _ :: []) _ _
  have v14 := HX.out.cell 14
  have f14 := HX.out.frozen 14
  have l14 := HX.out.lt
  go_wp2_with fail
  refine NoPanic.normal ?_
  have hg2 := gr_set (p := ⟨mb, 14, none⟩) (World.grownBy.refl wa (some mb)) (.inl rfl) (.slice A' (s.rcd.length + 1) c')
  have e1 : (s.rcd ++ [(s.P, s.M)]).length = s.rcd.length + 1 := by simp
  have hB2 : Blk (wa.setCell ⟨mb, 14, none⟩ (.slice A' (s.rcd.length + 1) c')) mb 121 (machC K { s with rcd := s.rcd ++ [(s.P, s.M)] } { a with AR := A', cR := c', rs := a.rs ++ [(AP, cP, AM, cM)] }) := by
    have := HX.out.set_ 14 (.slice A' (s.rcd.length + 1) c')
    simpa [machC] using this
  have hO2 := HO.out.kept hg2 (.inr (own_blk_ne HO.out HX.out (by decide)))
  have hP2 := HP3.out.kept hg2 (.inr (own_blk_ne HP3.out HX.out (by decide)))
  have hQ2 := HQ3.out.kept hg2 (.inr (own_blk_ne HQ3.out HX.out (by decide)))
  have hbut : But (fun i => i = mb ∨ blkOf a.AR = some i) w1 (wa.setCell ⟨mb, 14, none⟩ (.slice A' (s.rcd.length + 1) c')) :=
    ((But.of_below (fun i => i = mb ∨ blkOf a.AR = some i) HB2.out).trans (But.of_own (S := fun i => i = mb ∨ blkOf a.AR = some i) HGR.out (fun g hg => .inr ((own_blkOf _ _ _).symm.trans hg)))).trans (But.of_gr hg2 (.inl rfl))
  have hm := HM1.out.setR (x := (AP, cP, AM, cM)) (AR := A') (cR := c') hbut hB2 (by rw [e1]; simpa [stv] using hO2) (fun g hg => by
    rcases HAT.out g ((own_blkOf _ _ _).trans hg) with h1 | h1
    · exact .inl ((own_blkOf _ _ _).symm.trans h1)
    · exact .inr (Nat.le_trans HB2.out.size (Nat.le_of_lt h1))) hP2 hQ2 HLR.out
  obtain ⟨w3, hw3⟩ : ∃ w3, wa.setCell ⟨mb, 14, none⟩ (.slice A' (s.rcd.length + 1) c') = w3 := ⟨_, rfl⟩
  rw [hw3] at hm hbut ⊢
  have HM3 := Lib.hid hm
  have HB3 := Lib.hid hbut
  clear hw3 hm hbut hg2 hB2 hO2 hP2 hQ2 v14 f14 l14 e1
  have m13 : w3.cell? ⟨mb, 13, none⟩ = some (.slice (some ⟨a.gg, 0, none⟩) K.NP a.cG) := HM3.out.blk.cell 13
  have ml := HM3.out.blk.lt
  have hcl : ∀ ty, (Builtin.clear_ #[74] ty #[.slice (some ⟨a.gg, 0, none⟩) K.NP a.cG]).run Tryz.prog w3 = .ok (.tuple #[]) (w3.setCells a.gg 0 (List.replicate K.NP (.int .i64 0))) := fun ty =>
    Lib.run_clear_slice w3 74 2 ty (.int .i64 0) Tryz.underlying74 (fun w => rfl) rfl rfl a.gg 0 K.NP a.cG (by have := HK.out.np1; omega) (fun j hj => by
      have := HM3.out.grow.cellAt j (by omega)
      rw [Nat.zero_add, this, iv, List.getElem?_map, List.getElem?_eq_getElem (by rw [show (_ : List Int).length = K.NP from lG]; exact hj)]
      rfl) (fun j hj => by rw [Nat.zero_add]; exact HM3.out.grow.frozenAt j)
  obtain ⟨hz, hg⟩ := own_setCells (List.replicate K.NP (Value.int .i64 0)) 0 w3 _ HM3.out.grow
  have HZ := Lib.hid hz
  have HG := Lib.hid hg
  clear hz hg
  go_wp2_with fail
  go_ret
  have hz := HZ.out
  rw [setL_eq _ _ _ (by rw [List.length_replicate, iv_length]; show 0 + K.NP ≤ s.G.length; omega), List.length_replicate, List.take_zero, List.nil_append, Nat.zero_add, List.drop_eq_nil_of_le (by rw [iv_length]; show s.G.length ≤ K.NP; omega), List.append_nil] at hz
  have e2 : iv (zeros K.NP) = List.replicate K.NP (Value.int .i64 0) := by simp [iv, zeros]
  have hbg := But.of_gr (S := fun b => b = a.gg) HG.out rfl
  have hm := HM3.out.setG (G' := zeros K.NP) hbg (by rw [e2]; exact hz)
  refine ⟨rfl, ⟨_, _, hm, fun i hi => ?_, fun i hi => ?_⟩, ((But.of_below S HB1.out).trans (HB3.out.mono (fun i _ hi => ?_))).trans (hbg.mono (fun i _ hi => ?_))⟩
  · rcases hi with hi | hi | hi
    · exact .inl (HF.out i hi)
    · have := (HP2.out.lt i ((own_blkOf _ _ _).trans hi)).1
      exact .inr (Nat.le_trans HB1.out.size this)
    · have := (HQ2.out.lt i ((own_blkOf _ _ _).trans hi)).1
      exact .inr (Nat.le_trans HB1.out.size this)
  · rcases hi with hi | hi | hi | hi | hi | hi
    · exact .inl (HMu.out i (.inl hi))
    · exact .inl (HMu.out i (.inr (.inl hi)))
    · exact .inl (HMu.out i (.inr (.inr (.inl hi))))
    · exact .inl (HMu.out i (.inr (.inr (.inr (.inl hi)))))
    · rcases HAT.out i ((own_blkOf _ _ _).trans hi) with h1 | h1
      · exact .inl (HMu.out i (.inr (.inr (.inr (.inr (.inl ((own_blkOf _ _ _).symm.trans h1)))))))
      · exact .inr (Nat.le_trans HB1.out.size (Nat.le_trans HB2.out.size (Nat.le_of_lt h1)))
    · exact .inl (HMu.out i (.inr (.inr (.inr (.inr (.inr hi))))))
  · rcases hi with hi | hi
    · exact HMu.out i (.inl hi)
    · exact HMu.out i (.inr (.inr (.inr (.inr (.inl hi)))))
  · exact HMu.out i (.inr (.inr (.inr (.inl hi))))
end
end Go.Proofs.YtkmaeipoaoikpaaGreat
