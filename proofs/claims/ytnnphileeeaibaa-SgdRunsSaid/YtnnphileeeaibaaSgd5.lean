/-
  The reference's Next.
-/
import Derived.Test.YtnnphileeeaibaaSgd4
import Derived.Test.YtnnphileeeaibaaPush
import Derived.Test.YtnnphileeeaibaaEarly
namespace Go.Proofs.Ytnnphileeeaibaa
set_option linter.unusedVariables false
set_option linter.unusedSimpArgs false
open Go.RowKit

theorem nextM_get (mo sh : Int) (Ms gs : List Int) (k : Nat) (m g : Int) (hm : Ms[k]? = some m) (hg : gs[k]? = some g) : (nextM mo sh Ms gs)[k]? = some (updM mo sh m g) := by
  have hlt := (List.getElem?_eq_some_iff.1 hm).1
  rw [nextM, applyM_get, hm]
  simp [hg, hlt]
theorem nextP_get (ra mo sh : Int) (Ps Ms gs : List Int) (k : Nat) (p m g : Int) (hp : Ps[k]? = some p) (hm : Ms[k]? = some m) (hg : gs[k]? = some g) : (nextP ra mo sh Ps Ms gs)[k]? = some (updP ra sh p (updM mo sh m g)) := by
  have hlt := (List.getElem?_eq_some_iff.1 hp).1
  rw [nextP, applyP_get, hp]
  simp [hg, hm, hlt]
theorem nextM_length (mo sh : Int) (Ms gs : List Int) : (nextM mo sh Ms gs).length = Ms.length := applyM_length _ _ _ _ _ _
theorem nextP_length (ra mo sh : Int) (Ps Ms gs : List Int) : (nextP ra mo sh Ps Ms gs).length = Ps.length := applyP_length _ _ _ _ _ _ _ _
theorem ivs_take_snoc (l : List Int) (k : Nat) (x : Int) (h : l[k]? = some x) : iv (l.take (k + 1)) = iv (l.take k) ++ [.int .i64 x] := by
  obtain ⟨hk, hx⟩ := List.getElem?_eq_some_iff.1 h
  rw [List.take_succ_eq_append_getElem hk, iv_append, hx]
  rfl
theorem sone_int (x : Int) : ∀ u ∈ (#[Value.int .i64 x] : Array Value).toList, u.oneCell' = true := by
  intro u hu
  simp at hu
  subst hu
  rfl

theorem wrapEq (x : Int) : IntKind.i64.wrap x = wrap64 x := by rw [IntKind.wrap_i64]; unfold wrap64; omega
theorem set_at1 {w : World} {v : Nat} {t : TypeId} {x y : Value} (h : Blk w v t #[x, y]) (b : Value) : w.grownBy (w.setCell ⟨v, 1, none⟩ b) (some v) ∧ Blk (w.setCell ⟨v, 1, none⟩ b) v t #[x, b] :=
  ⟨gr_set (p := ⟨v, 1, none⟩) (World.grownBy.refl w _) (.inl rfl) b, by simpa using h.set_ 1 b⟩
theorem set_at0 {w : World} {v : Nat} {t : TypeId} {x y : Value} (h : Blk w v t #[x, y]) (b : Value) : w.grownBy (w.setCell ⟨v, 0, none⟩ b) (some v) ∧ Blk (w.setCell ⟨v, 0, none⟩ b) v t #[b, y] :=
  ⟨gr_set (p := ⟨v, 0, none⟩) (World.grownBy.refl w _) (.inl rfl) b, by simpa using h.set_ 0 b⟩
theorem own_far {w w' : World} {base : Nat} {e : TypeId} {size n : Nat} {v u : Value} {xs : List Value} (h : w.ownsRow base e size v n xs) (hg : w.grownBy w' u.ownBlock) (hne : ∀ g, v.ownBlock = some g → u.ownBlock ≠ some g) : w'.ownsRow base e size v n xs := by
  refine h.kept hg ?_
  cases hv : v.ownBlock with
  | none => exact .inl rfl
  | some g => exact .inr (fun e => hne g hv e.symm)

/-- Two rows of the call's own, their slices in block b. -/
def Rows2 (wr : World) (b base i j : Nat) (t : TypeId) (P M : List Int) : Prop :=
  ∃ AP cP AM cM, Blk wr b t #[.slice AP i cP, .slice AM j cM] ∧ wr.ownsRow base 2 1 (.slice AP i cP) i (iv P) ∧ wr.ownsRow base 2 1 (.slice AM j cM) j (iv M) ∧ (∀ g, (Value.slice AP i cP).ownBlock = some g → (Value.slice AM j cM).ownBlock ≠ some g)

set_option maxHeartbeats 400000 in
theorem refNext13_not (ra mo sh : Int) (A B AG : Option Addr) (N M c d n cG : Nat) (w : World) (hN : N ≤ 1000000) (hM : M ≤ 1000000) (hn : n ≤ 1000000) (hbad : ¬ (n = N ∧ N = M)) :
    Calls Try.prog 18 #[.agg #[.int .i64 ra, .int .i64 mo, .int .i64 sh], .agg #[.slice A N c, .slice B M d], .slice AG n cG] w fun e w' => e = .returned (.tuple #[.agg #[.slice none 0 0, .slice none 0 0], .bool false]) ∧ Below w.heap.size w w' := by
  by_cases h1 : N = M
  · subst h1
    have d1 : ((N : Int) != (n : Int)) = true := by simp; omega
    clear hbad
    go_enter Try.func18, Try.ntmps18
    go_wp2
    exact bodyPost_ret (v := .tuple #[.agg #[.slice none 0 0, .slice none 0 0], .bool false]) (by simp [results, Try.results18, go_sem]) rfl ⟨rfl, (((Below.refl _ _).alloc (Nat.le_refl _) _).alloc (by simp) _).alloc (by simp <;> omega) _⟩
  · have d1 : ((N : Int) != (M : Int)) = true := by simp; omega
    clear hbad
    go_enter Try.func18, Try.ntmps18
    go_wp2
    exact bodyPost_ret (v := .tuple #[.agg #[.slice none 0 0, .slice none 0 0], .bool false]) (by simp [results, Try.results18, go_sem]) rfl ⟨rfl, (((Below.refl _ _).alloc (Nat.le_refl _) _).alloc (by simp) _).alloc (by simp <;> omega) _⟩

set_option maxHeartbeats 2000000 in
theorem refNext13_some (ra mo sh : Int) (A B AG : Option Addr) (N c d cG : Nat) (Ps Ms gs : List Int) (w : World) (hPl : Ps.length = N) (hMl : Ms.length = N) (hgl : gs.length = N) (hP : Rd w 1 A N (iv Ps)) (hM : Rd w 1 B N (iv Ms)) (hG : Rd w 1 AG N (iv gs)) (hN : N ≤ 1000000)
    (hra : In1 ra) (hmo : In1 mo) (hPi : AllIn Ps) (hMi : AllIn Ms) :
    Calls Try.prog 18 #[.agg #[.int .i64 ra, .int .i64 mo, .int .i64 sh], .agg #[.slice A N c, .slice B N d], .slice AG N cG] w fun e w' => ∃ AP cP AM cM, e = .returned (.tuple #[.agg #[.slice AP N cP, .slice AM N cM], .bool true]) ∧
      w'.ownsRow w.heap.size 2 1 (.slice AP N cP) N (iv (nextP ra mo sh Ps Ms gs)) ∧ w'.ownsRow w.heap.size 2 1 (.slice AM N cM) N (iv (nextM mo sh Ms gs)) ∧ Below w.heap.size w w' := by
  have HP := Lib.hid hP
  have HM := Lib.hid hM
  have HG := Lib.hid hG
  have HPL := Lib.hid hPl
  have HML := Lib.hid hMl
  have HGL := Lib.hid hgl
  have HPi := Lib.hid hPi
  have HMi := Lib.hid hMi
  clear hP hM hG hPl hMl hgl hPi hMi
  go_enter Try.func18, Try.ntmps18
  go_wp2_with fail
  go_loopw [9] (fun i wr => ∃ k : Nat, k ≤ N ∧ i = .int .i64 k ∧ Below w.heap.size w wr ∧ Blk wr w.heap.size 23 #[.int .i64 ra, .int .i64 mo, .int .i64 sh] ∧ Blk wr (w.heap.size + 1) 26 #[.slice A N c, .slice B N d] ∧ Blk wr (w.heap.size + 1 + 1) 26 #[.slice none 0 0, .slice none 0 0] ∧
      Rows2 wr (w.heap.size + 1 + 1 + 1) w.heap.size k k 26 ((nextP ra mo sh Ps Ms gs).take k) ((nextM mo sh Ms gs).take k)) (fun i _ => N - (intOf i).toNat)
  case atStart =>
    refine ⟨0, by omega, rfl, ((((Below.refl _ _).alloc (Nat.le_refl _) _).alloc (by simp) _).alloc (by simp <;> omega) _).alloc (by simp <;> omega) _, (((Blk.new w _ _).alloc _).alloc _).alloc _, ((Blk.new' _ _ (by simp)).alloc _).alloc _, (Blk.new' _ _ (by simp)).alloc _, none, 0, none, 0, Blk.new' _ _ (by simp), ?_, ?_, fun g h => by simp [Value.ownBlock] at h⟩
    · simpa [iv] using World.ownsRow_nil _ _ _ _
    · simpa [iv] using World.ownsRow_nil _ _ _ _
  case round =>
    obtain ⟨k, hk, rfl, hB, hR, hS, hZ, AP, cP, AM, cM, hQ, hOP, hOM, hne⟩ := hrel
    by_cases hlt : k < N
    · obtain ⟨b1, o1, p, hA, hbl1, hp, cp⟩ := iv_at HPL.out (HP.out.below hB) hlt
      obtain ⟨b2, o2, m, hBe, hbl2, hm, cm⟩ := iv_at HML.out (HM.out.below hB) hlt
      obtain ⟨b3, o3, g, hGe, hbl3, hg, cg⟩ := iv_at HGL.out (HG.out.below hB) hlt
      subst hA hBe hGe
      have iP := HPi.out p (List.mem_of_getElem? hp)
      have iM := HMi.out m (List.mem_of_getElem? hm)
      obtain ⟨x, hx⟩ : ∃ x, mulQ mo m sh = x := ⟨_, rfl⟩
      obtain ⟨m', hm'⟩ : ∃ m', updM mo sh m g = m' := ⟨_, rfl⟩
      obtain ⟨y, hy⟩ : ∃ y, mulQ ra m' sh = y := ⟨_, rfl⟩
      obtain ⟨p', hp'⟩ : ∃ p', updP ra sh p m' = p' := ⟨_, rfl⟩
      have C1 := (fun W => refMulQ_any mo m sh W hmo iM)
      have C2 := (fun W => refMulQ_any ra m' sh W hra (by rw [← hm']; exact updM_in _ _ _ _))
      simp only [hx] at C1
      simp only [hy] at C2
      have HC1 := Lib.hid C1
      have HC2 := Lib.hid C2
      have zx : IntKind.i64.wrap (x + g) = m' := by rw [wrapEq, ← hm', updM, hx]
      have zy : IntKind.i64.wrap (p - y) = p' := by rw [wrapEq, ← hp', updP, hy]
      have HTP := Lib.hid (ivs_take_snoc _ k _ (nextP_get ra mo sh Ps Ms gs k p m g hp hm hg))
      have HTM := Lib.hid (ivs_take_snoc _ k _ (nextM_get mo sh Ms gs k m g hm hg))
      have HM' := Lib.hid hm'
      have HP' := Lib.hid hp'
      have HPk := Lib.hid hp
      clear C1 C2 hx hy hm' hp' hp hm hg
      have r0 : wr.cell? ⟨w.heap.size, 0, none⟩ = some (.int .i64 ra) := hR.cell 0
      have r1 : wr.cell? ⟨w.heap.size, 1, none⟩ = some (.int .i64 mo) := hR.cell 1
      have r2 : wr.cell? ⟨w.heap.size, 2, none⟩ = some (.int .i64 sh) := hR.cell 2
      have t0 : wr.cell? ⟨w.heap.size + 1, 0, none⟩ = some (.slice (some ⟨b1, o1, none⟩) N c) := hS.cell 0
      have t1 : wr.cell? ⟨w.heap.size + 1, 1, none⟩ = some (.slice (some ⟨b2, o2, none⟩) N d) := hS.cell 1
      have q0 : wr.cell? ⟨w.heap.size + 1 + 1 + 1, 0, none⟩ = some (.slice AP k cP) := hQ.cell 0
      have q1 : wr.cell? ⟨w.heap.size + 1 + 1 + 1, 1, none⟩ = some (.slice AM k cM) := hQ.cell 1
      have fq := hQ.frozen 1
      have i1 : (0 : Int) ≤ (k : Int) := by omega
      have i2 : (k : Int) < (N : Int) := by omega
      have hws := hB.size
      have HB := Lib.hid hB
      have HR := Lib.hid hR
      have HS := Lib.hid hS
      have HZ := Lib.hid hZ
      have HQ := Lib.hid hQ
      have HOP := Lib.hid hOP
      have HOM := Lib.hid hOM
      have HNE := Lib.hid hne
      clear hB hR hS hZ hQ hOP hOM hne
      go_wp2_with fail
      go_quiet ((go_at_call 53; exact quiet_left (HC1.out _)))
      clear zx
      go_wp2_with (at_builtin; go_must (refine wpList_pushL slI64 rfl _ _ rfl w.heap.size _ k (iv ((nextM mo sh Ms gs).take k)) rfl (own_drewN HOM.out _) #[.int .i64 m'] wr.heap.size rfl rfl rfl (sone_int _) (by unfold maxLen; omega) (by omega) hws ?_); intro A1 c1 w1 hown1 hb1 hgr1 hat1; (have HQ1 := Lib.hid ((HQ.out.drewN nq).other (own_drewN HOM.out nq) hgr1 (by decide))); (have u0 : w1.cell? ⟨w.heap.size + 1 + 1 + 1, 0, none⟩ = some (.slice AP k cP) := HQ1.out.cell 0); (have u1 : w1.cell? ⟨w.heap.size + 1 + 1 + 1, 1, none⟩ = some (.slice AM k cM) := HQ1.out.cell 1); (have fu := HQ1.out.frozen 1))
      have hst := set_at1 HQ1.out (.slice A1 (k + 1) c1)
      obtain ⟨w2, hw2⟩ : ∃ w2, w1.setCell ⟨w.heap.size + 1 + 1 + 1, 1, none⟩ (.slice A1 (k + 1) c1) = w2 := ⟨_, rfl⟩
      rw [hw2] at hst ⊢
      have hOP1 := own_far (own_drewN HOP.out nq) hgr1 HNE.out
      have hOP2 := hOP1.kept hst.1 (.inr (own_blk_ne hOP1 HQ1.out (by decide)))
      have hOM2 := hown1.kept hst.1 (.inr (own_blk_ne hown1 HQ1.out (by decide)))
      have hR2 := ((HR.out.drewN nq).other (own_drewN HOM.out nq) hgr1 (by decide)).grown hst.1 (by simp <;> omega)
      have hS2 := ((HS.out.drewN nq).other (own_drewN HOM.out nq) hgr1 (by decide)).grown hst.1 (by simp <;> omega)
      have hZ2 := ((HZ.out.drewN nq).other (own_drewN HOM.out nq) hgr1 (by decide)).grown hst.1 (by simp)
      have hB2 : Below w.heap.size w w2 := below_gr ((below_drewN HB.out nq).trans hb1) (by have h1 := HB.out.size; have h2 := hb1.size; simp at h2; omega) hst.1 (by omega)
      have hne2 : ∀ g, (Value.slice AP k cP).ownBlock = some g → (Value.slice A1 (k + 1) c1).ownBlock ≠ some g := fun g hg h1 => by
        rcases hat1 g h1 with h2 | h2
        · exact HNE.out g hg h2
        · have h3 := (HOP.out.lt g hg).2
          simp at h2
          omega
      have cp2 : w2.cell? ⟨b1, o1 + k, none⟩ = some (.int .i64 p) := by
        obtain ⟨b1', o1', p'', hA', _, hp'', cp''⟩ := iv_at HPL.out (HP.out.below hB2) hlt
        injection hA' with hA'
        injection hA' with e1 e2
        subst e1 e2
        rw [HPk.out] at hp''
        injection hp'' with hp''
        rw [hp'']
        exact cp''
      have v0 : w2.cell? ⟨w.heap.size, 0, none⟩ = some (.int .i64 ra) := hR2.cell 0
      have v2 : w2.cell? ⟨w.heap.size, 2, none⟩ = some (.int .i64 sh) := hR2.cell 2
      have s0 : w2.cell? ⟨w.heap.size + 1, 0, none⟩ = some (.slice (some ⟨b1, o1, none⟩) N c) := hS2.cell 0
      have x0 : w2.cell? ⟨w.heap.size + 1 + 1 + 1, 0, none⟩ = some (.slice AP k cP) := hst.2.cell 0
      have l1 := hR2.lt
      have l2 := hS2.lt
      have l3 := hst.2.lt
      have l4 : b1 < w2.heap.size := by have := HP.out.lt b1 o1 rfl (by omega); have := hB2.size; omega
      have hw2s := hB2.size
      have HB2 := Lib.hid hB2
      have HR2 := Lib.hid hR2
      have HS2 := Lib.hid hS2
      have HZ2 := Lib.hid hZ2
      have HQ2 := Lib.hid hst.2
      have HOP2 := Lib.hid hOP2
      have HOM2 := Lib.hid hOM2
      have HNE2 := Lib.hid hne2
      clear hst hw2 hOP1 hOP2 hOM2 hR2 hS2 hZ2 hB2 hne2 hown1 hb1 hgr1 hat1 u0 u1 fu r0 r1 r2 t0 t1 q0 q1 fq cp cm cg HB HR HS HZ HQ HQ1 HOP HOM HNE
      refine wp_region_early (Kept w2) [0, 1, 2, 3, 4, 5, 6, 7, 8, 9, 10, 11] [12, 13, 14] [15, 16, 17] (by kernel_rfl) (by kernel_rfl) (Kept.start w2) ?_
      simp only [List.filterMap_cons, List.filterMap_nil, List.getElem?_cons_succ, List.getElem?_cons_zero]
      refine early_step (.pointer (some ⟨w.heap.size + 1 + 1 + 1, 0, none⟩)) rfl (fun W hW => ?_) ?_
      · obtain ⟨hc, -, -⟩ := hW
        go_simp
      go_simp
      refine early_step (.slice AP k cP) rfl (fun W hW => ?_) ?_
      · obtain ⟨hc, -, -⟩ := hW
        go_simp
      go_simp
      refine early_step (.pointer (some ⟨w.heap.size + 1, 0, none⟩)) rfl (fun W hW => ?_) ?_
      · obtain ⟨hc, -, -⟩ := hW
        go_simp
      go_simp
      refine early_step (.slice (some ⟨b1, o1, none⟩) N c) rfl (fun W hW => ?_) ?_
      · obtain ⟨hc, -, -⟩ := hW
        go_simp
      go_simp
      refine early_step (.int .i64 k) rfl (fun W hW => ?_) ?_
      · obtain ⟨hc, -, -⟩ := hW
        go_simp
      go_simp
      refine early_step (.pointer (some ⟨b1, o1 + k, none⟩)) rfl (fun W hW => ?_) ?_
      · obtain ⟨hc, -, -⟩ := hW
        go_simp
      go_simp
      refine early_step (.int .i64 p) rfl (fun W hW => ?_) ?_
      · obtain ⟨hc, -, -⟩ := hW
        go_simp
      go_simp
      refine early_step (.pointer (some ⟨w.heap.size, 0, none⟩)) rfl (fun W hW => ?_) ?_
      · obtain ⟨hc, -, -⟩ := hW
        go_simp
      go_simp
      refine early_step (.int .i64 ra) rfl (fun W hW => ?_) ?_
      · obtain ⟨hc, -, -⟩ := hW
        go_simp
      go_simp
      refine early_step (.int .i64 m') rfl (fun W hW => ?_) ?_
      · obtain ⟨hc, -, -⟩ := hW
        go_simp
      go_simp
      refine early_step (.pointer (some ⟨w.heap.size, 2, none⟩)) rfl (fun W hW => ?_) ?_
      · obtain ⟨hc, -, -⟩ := hW
        go_simp
      go_simp
      refine early_step (.int .i64 sh) rfl (fun W hW => ?_) ?_
      · obtain ⟨hc, -, -⟩ := hW
        go_simp
      go_simp
      change RestW _ _ _ _ _ (_ :: _ :: _ :: []) _ _
      unfold RestW
      go_wp2_with fail
      ((with_reducible refine (HC2.out _).mono ?_); rintro e w3 ⟨rfl, rfl⟩)
      go_wp2_with fail
      refine ⟨Kept.start w2, ?_⟩
      unfold RestW
      go_wp2_with fail
      refine ⟨Kept.start w2, ?_⟩
      unfold RestW
      go_wp2_with fail
      refine ⟨(Kept.start w2).alloc _, ?_⟩
      unfold RestW
      clear zy v0 v2 s0 x0 cp2
      change wpList _ _ _ (_ :: _ :: _ :: []) _ (w2.drew.alloc (.cells #[.int .i64 p'] 2))
      have HQ3 : Hid (Blk w2.drew (w.heap.size + 1 + 1 + 1) 26 #[.slice AP k cP, .slice A1 (k + 1) c1]) := Lib.hid HQ2.out.drew
      have HOP3 : Hid (w2.drew.ownsRow w.heap.size 2 1 (.slice AP k cP) k (iv ((nextP ra mo sh Ps Ms gs).take k))) := Lib.hid HOP2.out
      have HK3 : Hid (Below w2.heap.size w2 w2.drew) := Lib.hid (Below.refl _ _).drew
      go_wp2_with (at_builtin; go_must (refine wpList_pushL slI64 rfl _ _ rfl w.heap.size _ k (iv ((nextP ra mo sh Ps Ms gs).take k)) rfl HOP3.out #[.int .i64 p'] w2.heap.size rfl rfl rfl (sone_int _) (by unfold maxLen; omega) (by omega) hw2s ?_); intro A3 c3 w4 hown4 hb4 hgr4 hat4; (have HQ4 := Lib.hid (HQ3.out.other HOP3.out hgr4 (by decide))); (have u0 : w4.cell? ⟨w.heap.size + 1 + 1 + 1, 0, none⟩ = some (.slice AP k cP) := HQ4.out.cell 0); (have fu := HQ4.out.frozen 0))
      refine NoPanic.normal ?_
      go_wp2
      have hst := set_at0 HQ4.out (.slice A3 (k + 1) c3)
      have hOM3 := own_below HOM2.out HK3.out
      have hOM4 := own_far hOM3 hgr4 (fun g hg h => HNE2.out g h hg)
      go_roundw
      case rel =>
        refine ⟨k + 1, by omega, by go_num, below_gr (HB2.out.trans ((HK3.out.mono hw2s).trans hb4)) (by have h9 : w2.heap.size ≤ w4.heap.size := hb4.size; omega) hst.1 (by omega), ((HR2.out.kept HK3.out).other HOP3.out hgr4 (by decide)).grown hst.1 (by simp <;> omega), ((HS2.out.kept HK3.out).other HOP3.out hgr4 (by decide)).grown hst.1 (by simp <;> omega), ((HZ2.out.kept HK3.out).other HOP3.out hgr4 (by decide)).grown hst.1 (by simp), A3, c3, A1, c1, hst.2, ?_, ?_, ?_⟩
        · rw [HTP.out, HM'.out, HP'.out]
          exact hown4.kept hst.1 (.inr (own_blk_ne hown4 HQ4.out (by decide)))
        · rw [HTM.out, HM'.out]
          exact hOM4.kept hst.1 (.inr (own_blk_ne hOM4 HQ4.out (by decide)))
        · intro g hg h1
          rcases hat4 g hg with h2 | h2
          · exact HNE2.out g h2 h1
          · have h3 := (hOM3.lt g h1).2
            simp at h2 h3
            omega
      case measure => simp [intOf]; omega
    · obtain rfl : k = N := by omega
      have z0 : wr.cell? ⟨w.heap.size + 1 + 1, 0, none⟩ = some (.slice none 0 0) := hZ.cell 0
      have z1 : wr.cell? ⟨w.heap.size + 1 + 1, 1, none⟩ = some (.slice none 0 0) := hZ.cell 1
      have q0 : wr.cell? ⟨w.heap.size + 1 + 1 + 1, 0, none⟩ = some (.slice AP k cP) := hQ.cell 0
      have q1 : wr.cell? ⟨w.heap.size + 1 + 1 + 1, 1, none⟩ = some (.slice AM k cM) := hQ.cell 1
      have f0 := hZ.frozen 0
      have f1 := hZ.frozen 1
      have hws := hB.size
      have HB := Lib.hid hB
      have HZ := Lib.hid hZ
      have HOP := Lib.hid hOP
      have HOM := Lib.hid hOM
      clear hB hR hS hZ hQ hOP hOM hne
      go_wp2
      have hst := store2' HZ.out (.slice AP k cP) (.slice AM k cM)
      refine bodyPost_ret (v := .tuple #[.agg #[.slice AP k cP, .slice AM k cM], .bool true]) (by simp [results, Try.results18, go_sem, z0, z1]) rfl ⟨AP, cP, AM, cM, rfl, ?_, ?_, below_gr HB.out hws hst.1 (by omega)⟩
      · have := HOP.out.kept hst.1 (.inr (own_blk_ne HOP.out HZ.out (by decide)))
        rwa [List.take_of_length_le (by rw [nextP_length, HPL.out]; omega)] at this
      · have := HOM.out.kept hst.1 (.inr (own_blk_ne HOM.out HZ.out (by decide)))
        rwa [List.take_of_length_le (by rw [nextM_length, HML.out]; omega)] at this

end Go.Proofs.Ytnnphileeeaibaa
