/-
  The program's search finds what the reference's finds.
-/
import Derived.Test.YtmnmjjackffnjaaFindPlain
namespace Go.Proofs.Ytmnmjjackffnjaa
set_option linter.unusedVariables false
set_option linter.unusedSimpArgs false

theorem getD_some {l : List (Int × Int)} {k : Nat} {r : Int × Int} (h : l[k]? = some r) : l.getD k (0, 0) = r := by
  rw [List.getD_eq_getElem?_getD, h]
  rfl
theorem inner_no (i c : Int) (k : Nat) (segs : List (Int × Int)) (p : Int × Int × Int) (h : ∀ (m : Nat) (s : Int × Int), segs[m]? = some s → ¬ 0 ≤ ofL i (chunksL s.1 s.2 c)) : ∀ M, M ≤ segs.length → innerP i c k segs p M = p := by
  intro M
  induction M with
  | zero => intro _; rfl
  | succ M ih =>
    intro hM
    have hs := List.getElem?_eq_getElem (show M < segs.length by omega)
    unfold innerP
    rw [getD_some hs, if_neg (h M _ hs)]
    exact ih (by omega)
theorem inner_hit (i c : Int) (k : Nat) (segs : List (Int × Int)) (p : Int × Int × Int) (m0 : Nat) (s0 : Int × Int) (h0 : segs[m0]? = some s0) (hit : 0 ≤ ofL i (chunksL s0.1 s0.2 c)) (hu : ∀ (m : Nat) (s : Int × Int), segs[m]? = some s → 0 ≤ ofL i (chunksL s.1 s.2 c) → m = m0) :
    ∀ M, M ≤ segs.length → innerP i c k segs p M = if m0 < M then ((k : Int), (m0 : Int), ofL i (chunksL s0.1 s0.2 c)) else p := by
  intro M
  induction M with
  | zero => intro _; rfl
  | succ M ih =>
    intro hM
    have hs := List.getElem?_eq_getElem (show M < segs.length by omega)
    unfold innerP
    rw [getD_some hs]
    by_cases e : M = m0
    · subst e
      have : segs[M] = s0 := by rw [hs] at h0; injection h0
      rw [this, if_pos hit, if_pos (by omega)]
    · rw [if_neg (fun h => e (hu M _ hs h)), ih (by omega)]
      by_cases h2 : m0 < M
      · rw [if_pos h2, if_pos (by omega)]
      · rw [if_neg h2, if_neg (by omega)]
theorem inner_eq (i w c : Int) (k : Nat) (r : Int × Int) (p : Int × Int × Int) (hin : inR i r) :
    innerP i c k (segsL r.1 r.2 w) p (segsL r.1 r.2 w).length = if w < 1 ∨ c < 1 then p else ((k : Int), ofL i (segsL r.1 r.2 w), ofL i (chunksL ((segsL r.1 r.2 w).getD (ofL i (segsL r.1 r.2 w)).toNat (0, 0)).1 ((segsL r.1 r.2 w).getD (ofL i (segsL r.1 r.2 w)).toNat (0, 0)).2 c)) := by
  have h1 : r.1 ≤ r.2 := by unfold inR at hin; omega
  by_cases hw : w < 1 ∨ c < 1
  · rw [if_pos hw]
    refine inner_no i c k _ p (fun m s hs h => ?_) _ (Nat.le_refl _)
    obtain ⟨a1, a2, a3⟩ := segs_in r.1 r.2 w h1 s (List.mem_of_getElem? hs)
    have h2 := (chunks_of s.1 s.2 c i a2).1 h
    have hm := (List.getElem?_eq_some_iff.1 hs).1
    rw [segsL_length _ _ _ h1] at hm
    omega
  · rw [if_neg hw]
    obtain ⟨m, s, hs, hi⟩ := segs_find r.1 r.2 w i (by omega) hin.1 hin.2
    rcases ofL_cases i (segsL r.1 r.2 w) (segs_unique r.1 r.2 w i h1) with ⟨m0, s0, h0, hi0, hof, hu⟩ | ⟨hno, _⟩
    · obtain ⟨a1, a2, a3⟩ := segs_in r.1 r.2 w h1 s0 (List.mem_of_getElem? h0)
      rw [inner_hit i c k _ p m0 s0 h0 ((chunks_of s0.1 s0.2 c i a2).2 ⟨by omega, hi0.1, hi0.2⟩) (fun m' s' hs' h' => ?_) _ (Nat.le_refl _), if_pos (List.getElem?_eq_some_iff.1 h0).1, hof, show ((m0 : Int)).toNat = m0 from rfl, getD_some h0]
      obtain ⟨b1, b2, b3⟩ := segs_in r.1 r.2 w h1 s' (List.mem_of_getElem? hs')
      have h2 := (chunks_of s'.1 s'.2 c i b2).1 h'
      exact hu m' s' hs' ⟨h2.2.1, h2.2.2⟩
    · exact absurd hi (hno s (List.mem_of_getElem? hs))

theorem outer_no {K : Nat} (i w c : Int) (bs : List (Int × Int)) (h : ∀ (k : Nat) (r : Int × Int), k < K → bs[k]? = some r → ¬ inR i r) : ∀ M, M ≤ K → M ≤ bs.length → outerP i w c bs M = (-1, -1, -1) := by
  intro M
  induction M with
  | zero => intro _ _; rfl
  | succ M ih =>
    intro hK hM
    have hs := List.getElem?_eq_getElem (show M < bs.length by omega)
    unfold outerP
    rw [getD_some hs, if_neg (h M _ (by omega) hs)]
    exact ih (by omega) (by omega)
theorem outer_hit (i w c : Int) (bs : List (Int × Int)) (k0 : Nat) (r0 : Int × Int) (h0 : bs[k0]? = some r0) (hit : inR i r0) (hu : ∀ (k : Nat) (r : Int × Int), bs[k]? = some r → inR i r → k = k0) :
    ∀ M, k0 < M → M ≤ bs.length → outerP i w c bs M = innerP i c k0 (segsL r0.1 r0.2 w) (-1, -1, -1) (segsL r0.1 r0.2 w).length := by
  intro M
  induction M with
  | zero => intro h; omega
  | succ M ih =>
    intro hk hM
    have hs := List.getElem?_eq_getElem (show M < bs.length by omega)
    unfold outerP
    rw [getD_some hs]
    by_cases e : M = k0
    · subst e
      have : bs[M] = r0 := by rw [hs] at h0; injection h0
      rw [this, if_pos hit, outer_no (K := M) i w c bs (fun k r hk hr hi => by have := hu k r hr hi; omega) M (Nat.le_refl _) (by omega)]
    · rw [if_neg (fun h => e (hu M _ hs h))]
      exact ih (by omega) (by omega)

def findP (i n b w c : Int) : Int × Int × Int := outerP i w c (bucketsI n b) (bucketsI n b).length
/-- The two searches. -/
theorem find_eq (i n b w c : Int) : findP i n b w c = (if (findR i n b w c).2 = true then (findR i n b w c).1 else (-1, -1, -1)) ∧ ((findR i n b w c).2 = true → 0 ≤ (findR i n b w c).1.1) ∧ ((findR i n b w c).2 = false → (findR i n b w c).1 = (0, 0, 0)) := by
  rcases ofL_cases i (bucketsI n b) (buckets_unique n b i) with ⟨k0, r0, h0, hi0, hof, hu⟩ | ⟨hno, hof⟩
  · have e1 : findP i n b w c = _ := outer_hit i w c (bucketsI n b) k0 r0 h0 hi0 hu _ (List.getElem?_eq_some_iff.1 h0).1 (Nat.le_refl _)
    rw [inner_eq i w c k0 r0 _ hi0] at e1
    unfold findR
    rw [hof, show ((k0 : Int)).toNat = k0 from rfl, getD_some h0]
    by_cases hw : w < 1 ∨ c < 1
    · rw [if_pos hw] at e1
      rw [if_pos (Or.inr hw)]
      exact ⟨by rw [e1]; rfl, fun h => by simp at h, fun _ => rfl⟩
    · rw [if_neg hw] at e1
      have hneg : ¬ ((k0 : Int) < 0 ∨ w < 1 ∨ c < 1) := by omega
      rw [if_neg hneg]
      exact ⟨by rw [e1]; rfl, fun _ => by dsimp only; omega, fun h => by simp at h⟩
  · have e1 : findP i n b w c = _ := outer_no (K := (bucketsI n b).length) i w c (bucketsI n b) (fun k r _ hr => hno r (List.mem_of_getElem? hr)) _ (Nat.le_refl _) (Nat.le_refl _)
    unfold findR
    rw [if_pos (Or.inl (by omega))]
    exact ⟨by rw [e1]; rfl, fun h => by simp at h, fun _ => rfl⟩

end Go.Proofs.Ytmnmjjackffnjaa
