/-
  A piece of a row: added to, laid over; the rows of all workers while one action after the other is done.
-/
import Derived.Test.YtkecpbdgcbgogaaRedRows
import Derived.Laws.CopyOwn
namespace Go.Proofs.Ytkecpbdgcbgogaa
set_option linter.unusedVariables false
set_option linter.unusedSimpArgs false
set_option maxRecDepth 100000
open Go.RowKit

/-- Where a piece begins. -/
def pcA (A : Option Addr) (c e : Nat) : Option Addr := if c = e then A else A.map (·.add (e * 1))
theorem own_cap {w : World} {base n c : Nat} {t : TypeId} {A : Option Addr} {xs : List Value} (h : w.ownsRow base t 1 (.slice A n c) n xs) : n ≤ c := by
  rcases h.2 with ⟨h1, h2⟩ | ⟨g, cap, cur, h1, _, _, h2, _⟩
  · omega
  · injection h1 with _ _ h3
    omega
theorem own_some {w : World} {base n c : Nat} {t : TypeId} {A : Option Addr} {xs : List Value} (h : w.ownsRow base t 1 (.slice A n c) n xs) (h0 : 0 < n) : ∃ g, A = some ⟨g, 0, none⟩ := by
  rcases h.2 with ⟨h1, h2⟩ | ⟨g, cap, cur, h1, _, _, h2, _⟩
  · omega
  · injection h1 with h3
    exact ⟨g, h3⟩
theorem pc_at {w : World} {base n c e k : Nat} {t : TypeId} {A : Option Addr} {xs : List Value} (h : w.ownsRow base t 1 (.slice A n c) n xs) (hk : 0 < k) (he : e + k ≤ n) : ∃ g, A = some ⟨g, 0, none⟩ ∧ pcA A c e = some ⟨g, e, none⟩ := by
  obtain ⟨g, rfl⟩ := own_some h (by omega)
  have hc := own_cap h
  refine ⟨g, rfl, ?_⟩
  unfold pcA
  rw [if_neg (by omega), Option.map_some]
  congr 1
  unfold Addr.add
  by_cases h0 : e = 0 <;> simp [h0]
theorem pc_rd {w : World} {base n c e k : Nat} {A : Option Addr} {L : List Int} (h : w.ownsRow base 2 1 (.slice A n c) n (iv L)) (hL : L.length = n) (he : e + k ≤ n) : Rd w 1 (pcA A c e) k (iv ((L.drop e).take k)) := by
  refine ⟨by simp [iv]; omega, fun h0 => ?_⟩
  obtain ⟨g, hA, hp⟩ := pc_at (e := e) h h0 he
  subst hA
  obtain ⟨b, o, e1, hlt, hcell⟩ := (Rd.of_own h).2 (by omega)
  injection e1 with e1
  injection e1 with e1 e2
  subst e1 e2
  refine ⟨g, e, hp, hlt, fun j u hu => ?_⟩
  rw [iv, List.getElem?_map, List.getElem?_take] at hu
  split at hu
  · rw [List.getElem?_drop] at hu
    have := hcell (e + j) u (by rw [iv, List.getElem?_map]; exact hu)
    rwa [Nat.zero_add] at this
  · cases hu

section
variable (A : Option Addr) (N c e k c1 : Nat) (L : List Int) (B : Option Addr) (d : Nat) (ys : List Int) (base : Nat) (w : World)
theorem addP_any (hown : w.ownsRow base 2 1 (.slice A N c) N (iv L)) (hL : L.length = N) (hN2 : N ≤ 10000000) (he : e + k ≤ N) (hyl : ys.length = k) (hy : Rd w 1 B k (iv ys))
    (hne : ∀ b o', B = some ⟨b, o', none⟩ → 0 < k → (Value.slice A N c).ownBlock ≠ some b) :
    Calls Try.prog 56 #[.slice (pcA A c e) k c1, .slice B k d] w fun e' w' => e' = .returned (.bool true) ∧ w'.ownsRow base 2 1 (.slice A N c) N (iv (addAt L e ys k)) ∧ w.grownBy w' (Value.slice A N c).ownBlock := by
  rcases Nat.eq_zero_or_pos k with h0 | h0
  · subst h0
    refine (add_zero (pcA A c e) B c1 d w).mono ?_
    rintro e' w' ⟨rfl, rfl⟩
    exact ⟨rfl, by rw [addAt_zero]; exact hown, World.grownBy.refl _ _⟩
  · obtain ⟨g, rfl, hp⟩ := pc_at (e := e) hown h0 he
    refine add_any (pcA (some ⟨g, 0, none⟩) c e) B g e k c1 d N c base L ys w (fun _ => hp) he hN2 hL hyl hown hy ?_
    intro b o' hB hk hbg
    exact hne b o' hB hk (by rw [hbg]; rfl)
end

theorem wpList_copy_piece {P : Program} {w : World} {ops : Array Oper} {rest : List Oper} {o : Oper} {a : Act} {Q : Exit → Act → World → Prop} (hgd : o.guard = none) (d s : Operand) (dT sT : TypeId)
    (ho : o.op = .call { callee := .builtin .copy, args := #[d, s], argTypes := #[dT, sT] }) (hu : P.underlying dT = some (.slice 2)) (hsz : (P.info? 2).map (·.size) = some 1)
    (A : Option Addr) (N c e k c1 : Nat) (L : List Int) (B : Option Addr) (d1 : Nat) (ys : List Int) (base : Nat)
    (P1 : Option Addr) (hP1 : pcA A c e = P1) (hd : a.eval d = .slice P1 k c1) (hs : a.eval s = .slice B k d1)
    (hown : w.ownsRow base 2 1 (.slice A N c) N (iv L)) (hL : L.length = N) (he : e + k ≤ N) (hyl : ys.length = k) (hy : Rd w 1 B k (iv ys))
    (h : ∀ w', w'.ownsRow base 2 1 (.slice A N c) N (iv (L.take e ++ (ys ++ L.drop (e + k)))) → w.grownBy w' (Value.slice A N c).ownBlock → wpList P ops Q rest (a.put o.dst (goInt k)) w') :
    wpList P ops Q (o :: rest) a w := by
  subst hP1
  rcases Nat.eq_zero_or_pos k with h0 | h0
  · subst h0
    have hy0 : ys = [] := List.eq_nil_of_length_eq_zero hyl
    refine wpList_copy_nothing hgd d s dT sT ho 2 hu hsz _ _ 0 c1 0 d1 hd hs rfl (h w ?_ (World.grownBy.refl _ _))
    rw [hy0, List.nil_append, Nat.add_zero, List.take_append_drop]
    exact hown
  · obtain ⟨g, rfl, hp⟩ := pc_at (e := e) hown h0 he
    rw [hp] at hd
    obtain ⟨b, o', rfl, hlt, hcell⟩ := hy.2 h0
    rcases hown.2 with ⟨h1, h2⟩ | ⟨g', cap, cur, h1, hbg, hh, hnc, hcm, hcs, htk⟩
    · omega
    · injection h1 with h1 h3 h4
      injection h1 with h1
      injection h1 with h1
      subst h1 h4
      rw [Nat.mul_one] at hcs htk
      have hcl : cur.toList.length = c := by rw [Array.length_toList]; exact hcs
      have hivl : (iv ys).length = k := by simp [iv, hyl]
      have hgy : w.grownBy (w.setRow g (cur.toList.take e ++ (iv ys ++ cur.toList.drop (e + (iv ys).length))).toArray) (some g) := ⟨rfl, rfl, rfl, by simp, fun k' _ hk => setRow_other w g k' _ (fun e' => hk (by rw [e']))⟩
      have hH := setRow_heap w g cur (cur.toList.take e ++ (iv ys ++ cur.toList.drop (e + (iv ys).length))).toArray 2 (0, 0) hh
      refine wpList_copy_own hgd d s dT sT ho 2 hu hsz g e k c1 ⟨b, o', none⟩ k d1 hd hs cur 2 hh (iv ys) (by rw [hivl]; exact (Nat.min_self k).symm) (fun j v hj => ?_) (by rw [hivl]; omega) (iv_one ys) ?_
      · have := hcell j v hj
        have e1 : (⟨b, o', none⟩ : Addr).add j = ⟨b, o' + j, none⟩ := by unfold Addr.add; by_cases hj0 : j = 0 <;> simp [hj0]
        rw [e1]
        exact this
      · rw [show goInt (iv ys).length = goInt k by rw [hivl]]
        refine h _ ⟨?_, .inr ⟨g, c, _, rfl, hbg, hH, hnc, hcm, ?_, ?_⟩⟩ hgy
        · simp [iv, hyl, hL]; omega
        · simp [hivl, hcs]; omega
        · rw [Nat.mul_one, hivl, List.toList_toArray]
          have hLt : iv L = cur.toList.take N := htk.symm
          have hm : ∀ (l : List Int) (a : Nat), iv (l.take a) = (iv l).take a := fun l a => by simp [iv]
          have hm2 : ∀ (l : List Int) (a : Nat), iv (l.drop a) = (iv l).drop a := fun l a => by simp [iv]
          have hm3 : ∀ (l l' : List Int), iv (l ++ l') = iv l ++ iv l' := fun l l' => by simp [iv]
          rw [hm3, hm3, hm, hm2, hLt, List.take_take, List.drop_take, Nat.min_eq_left (by omega)]
          rw [List.take_append, List.take_of_length_le (by simp; omega), List.take_append, List.take_of_length_le (l := iv ys) (by simp [hivl, hcl]; omega)]
          simp [hivl, hcl]
          rw [Nat.min_eq_left (show e ≤ c by omega), show N - e - k = N - (e + k) by omega]

section
variable {w w' : World} {base b1 m n k : Nat} {v : Value} {ss os : List Sl3} {s : Sl3} {F : Nat → List Int} {x : List Int}
theorem Vecs.upd (h : Vecs w base m n v ss F) (hk : ss[k]? = some s) (hg : w.grownBy w' (slv s).ownBlock) (hx : w'.ownsRow base 2 1 (slv s) n (iv x)) : Vecs w' base m n v ss (fun j => if j = k then x else F j) :=
  ⟨h.len, (Stay.of_own' (t := 2) (u := 2) (h.rows.row k s hk) hg).own hg.size h.own (by decide) (by decide), h.rows.upd hk hg hx⟩
theorem Vecs.keep (h : Vecs w b1 m n v os F) {xs : List Value} (hs : w.ownsRow base 2 1 (slv s) n xs) (hlt : ∀ g, (slv s).ownBlock = some g → g < b1) (hg : w.grownBy w' (slv s).ownBlock) : Vecs w' b1 m n v os F := by
  refine ⟨h.len, (Stay.of_own' (t := 2) (u := 2) hs hg).own hg.size h.own (by decide) (by decide), h.rows.len, fun j t hj => (h.rows.row j t hj).kept hg ?_, h.rows.far⟩
  cases ht : (slv t).ownBlock with
  | none => exact .inl rfl
  | some g => exact .inr (fun e => by
      have h1 := (h.rows.lt hj ht).1
      have h2 := hlt g e.symm
      omega)
theorem Vecs.congr {G : Nat → List Int} (h : Vecs w base m n v ss F) (hg : ∀ k, k < m → F k = G k) : Vecs w base m n v ss G := ⟨h.len, h.own, h.rows.congr (fun k hk => hg k (by rw [← h.len]; exact hk))⟩
end

theorem chainR_le {p : Int} {l : List RAct} {e e' : Int} (h : chainR p l e e') : e ≤ e' := by
  induction l generalizing e with
  | nil => have h' : e = e' := h; omega
  | cons a l ih =>
    unfold chainR at h
    by_cases hs : a.1.1 = true
    · rw [if_pos hs] at h
      exact ih h
    · rw [if_neg hs] at h
      have := ih h.2.2.2
      omega
theorem chainR_send {p : Int} {l : List RAct} {u : Nat} {e e' : Int} {sd ad : Bool} {q : Int × Int × Int × Int × Int} {y : Int × Int} (h : chainR p (l.drop u) e e') (ha : l[u]? = some ((sd, ad), q, y)) (hs : sd = true) : chainR p (l.drop (u + 1)) e e' := by
  obtain ⟨hu, ha⟩ := List.getElem?_eq_some_iff.1 ha
  rw [List.drop_eq_getElem_cons hu, ha] at h
  unfold chainR at h
  rwa [if_pos hs] at h
theorem chainR_recv {p : Int} {l : List RAct} {u : Nat} {e e' : Int} {sd ad : Bool} {q : Int × Int × Int × Int × Int} {y : Int × Int} (h : chainR p (l.drop u) e e') (ha : l[u]? = some ((sd, ad), q, y)) (hs : sd = false) :
    ad = decide (p = 0) ∧ y.1 = e ∧ e ≤ y.2 ∧ y.2 ≤ e' ∧ chainR p (l.drop (u + 1)) y.2 e' := by
  obtain ⟨hu, ha⟩ := List.getElem?_eq_some_iff.1 ha
  rw [List.drop_eq_getElem_cons hu, ha] at h
  unfold chainR at h
  rw [if_neg (by simp [hs])] at h
  exact ⟨h.1, h.2.1, h.2.2.1, chainR_le h.2.2.2, h.2.2.2⟩
theorem chainR_end {p : Int} {l : List RAct} {n : Nat} {e e' : Int} (h : chainR p (l.drop n) e e') (hn : l.length = n) : e = e' := by
  rw [List.drop_eq_nil_of_le (by omega)] at h
  exact h

theorem run_piece {P : Program} {T : TypeId} {A : Option Addr} {n c e e2 k c1 : Nat} {P1 : Option Addr} (hT : P.underlying T = some (.slice (P.elem T))) (hz : ∀ W, (sizeOf (P.elem T)).run P W = .ok 1 W) (he : e ≤ e2) (h2 : e2 ≤ c) (hk : e2 - e = k) (hc : c - e = c1) (hP : pcA A c e = P1) (W : World) :
    (Instr.slice T (.slice A n c) (some (.int .i64 e)) (some (.int .i64 e2)) none).run P W = .ok (.slice P1 k c1) W := by
  rw [run_slice_lh W T A n c hT .i64 .i64 e e2 (by omega) (by omega) (by omega), hz]
  subst hk hc hP
  rfl

/-- The rows of all workers where x come next, and where x is at work. -/
def G4 (F F1 : Nat → Nat → Int) (n x : Nat) : Nat → List Int := fun j => if j < x then rowL2 (F1 j) n else rowL2 (F j) n
def G5 (F F1 : Nat → Nat → Int) (n x : Nat) (new : Nat → Int) (a e : Int) : Nat → List Int := fun j => if j = x then curL (F x) new a e n else G4 F F1 n x j
section
variable (F F1 : Nat → Nat → Int) (n x : Nat) (new : Nat → Int) (a e : Int)
theorem G4_zero : G4 F F1 n 0 = fun j => rowL2 (F j) n := by
  funext j
  unfold G4
  rw [if_neg (by omega)]
theorem G4_all (m k : Nat) (hk : k < m) : G4 F F1 n m k = rowL2 (F1 k) n := by
  unfold G4
  rw [if_pos hk]
theorem G5_start : G5 F F1 n x new a a = G4 F F1 n x := by
  funext j
  unfold G5
  by_cases h : j = x
  · subst h
    rw [if_pos rfl, curL_none]
    unfold G4
    rw [if_neg (by omega)]
  · rw [if_neg h]
theorem G5_end (h : rowL2 (F1 x) n = curL (F x) new a e n) : G5 F F1 n x new a e = G4 F F1 n (x + 1) := by
  funext j
  unfold G5
  by_cases hj : j = x
  · subst hj
    rw [if_pos rfl, ← h]
    unfold G4
    rw [if_pos (by omega)]
  · rw [if_neg hj]
    unfold G4
    by_cases h1 : j < x
    · rw [if_pos h1, if_pos (by omega)]
    · rw [if_neg h1, if_neg (by omega)]
theorem G5_at : G5 F F1 n x new a e x = curL (F x) new a e n := by
  unfold G5
  rw [if_pos rfl]
theorem G5_step (e2 : Int) : (fun j => if j = x then curL (F x) new a e2 n else G5 F F1 n x new a e j) = G5 F F1 n x new a e2 := by
  funext j
  unfold G5
  by_cases hj : j = x
  · rw [if_pos hj, if_pos hj]
  · rw [if_neg hj, if_neg hj, if_neg hj]
end
theorem rowL2_cur (f f1 new : Nat → Int) (a e : Int) (n : Nat) (h : ∀ i : Nat, f1 i = if a ≤ (i : Int) ∧ (i : Int) < e then new i else f i) : rowL2 f1 n = curL f new a e n := by
  unfold rowL2 curL
  apply List.map_congr_left
  intro i _
  exact h i

end Go.Proofs.Ytkecpbdgcbgogaa
