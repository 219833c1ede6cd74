/-
  Lemmas and contracts (3 of 44): Tail, Round.
-/
import Derived.WalkKit
import Derived.WalkSpells
import Derived.WalkLawsBesides
import Derived.Lib.Hide
import Derived.Deep.QuietTactic
import Derived.BigQuiet
import Derived.IntWalk
import Derived.Deep.RegionHeld3
import Derived.Maps.AppendAt
import Derived.StillTail
import Derived.OrdersIn
import Derived.RangeFuncCalls
import Derived.Test.YtkmaeipoaoikpaaGreatEA01
namespace Go.Proofs.YtkmaeipoaoikpaaGreat
set_option linter.unusedVariables false
set_option linter.unusedSimpArgs false
set_option maxRecDepth 100000
section
open Go.RowKit
variable {P : Program} {ops : Array Oper} {md : Region.Mode} {C : World → Prop} {Q : Exit → Act → World → Prop}
def PureW (P : Program) (ops : Array Oper) (next : Act → Prop) : List Nat → Act → Prop
  | [], a => next a
  | e :: es, a => ∃ o v, ops[e]? = some o ∧ Yields P ops o v a ∧ PureW P ops next es (a.put o.dst v)
def pureB (md : Region.Mode) (ops : Array Oper) : List Nat → Array Bool → Bool
  | [], _ => true
  | e :: es, listed => (Region.ready md ops listed).contains e && Region.free md ops listed e && pureB md ops es (listed.setIfInBounds e true)
def listAll (listed : Array Bool) (es : List Nat) : Array Bool := es.foldl (fun l e => l.setIfInBounds e true) listed
theorem pure_any (hs : Region.noSelect ops = true) {fuel : Nat} {w : World} {next : Act → Prop} (es : List Nat) : ∀ (listed : Array Bool) (a : Act), pureB md ops es listed = true →
    (∀ a', next a' → wpAny P md ops (NoPanic Q) fuel (listAll listed es) a' w) → PureW P ops next es a → wpAny P md ops (NoPanic Q) (es.length + fuel) listed a w := by
  induction es with
  | nil => intro listed a _ hn h; rw [List.length_nil, Nat.zero_add]; exact hn a h
  | cons e es ih =>
    intro listed a hB hn h
    simp only [pureB, Bool.and_eq_true] at hB
    obtain ⟨o, v, ho, hy, h⟩ := h
    rw [List.length_cons, show es.length + 1 + fuel = (es.length + fuel) + 1 by omega]
    exact wpAny_take ho hs hB.1.2 hB.1.1 (fun _ _ _ h => h) hy (ih _ _ hB.2 hn h)
def HeadQ (P : Program) (md : Region.Mode) (ops : Array Oper) (C : World → Prop) (H : List Nat) (L : Array Bool → Act → Prop) : Nat → Array Bool → Act → Prop
  | 0, listed, a => L listed a
  | f + 1, listed, a => Region.ready md ops listed ≠ [] ∧ ∀ i ∈ Region.ready md ops listed, i ∈ H ∧ qOp P ops C i (HeadQ P md ops C H L f (listed.setIfInBounds i true)) a
theorem HeadQ.any {H : List Nat} {g : Nat} {L : Array Bool → Act → Prop} {Q' : Exit → Act → World → Prop} (hL : ∀ listed a w, C w → L listed a → wpAny P md ops Q' g listed a w) (f : Nat) :
    ∀ (listed : Array Bool) (a : Act) (w : World), C w → HeadQ P md ops C H L f listed a → wpAny P md ops Q' (f + g) listed a w := by
  induction f with
  | zero => intro listed a w hw h; rw [Nat.zero_add]; exact hL _ _ _ hw h
  | succ f ih =>
    intro listed a w hw h
    rw [show f + 1 + g = (f + g) + 1 by omega]
    exact ⟨fun h0 => absurd h0 h.1, fun i hi => wpOp_of_qOp hw (fun a' w' hw' h' => ih _ a' w' hw' h') (h.2 i hi).2⟩
def sinkH (md : Region.Mode) (ops : Array Oper) (t0 : Nat) (H : List Nat) : Bool := H.all fun h => (t0 :: H).any fun j => decide (h < j) && Region.waitsFor md ops j h
def chainT (md : Region.Mode) (ops : Array Oper) : Nat → List Nat → Bool
  | _, [] => true
  | t, u :: us => Region.waitsFor md ops u t && chainT md ops u us
def coverB (ops : Array Oper) (E H T : List Nat) : Bool := (List.range ops.size).all fun i => E.contains i || H.contains i || T.contains i
def apartB (H T : List Nat) : Bool := T.all fun t => !H.contains t
structure HdInv (md : Region.Mode) (ops : Array Oper) (E T : List Nat) (listed : Array Bool) : Prop where
  size : listed.size = ops.size
  closed : ∀ j oj, ops[j]? = some oj → listed.getD j false = true → ∀ e ∈ oj.after, Region.binds md e = true → listed.getD e.on false = true
  early : ∀ e ∈ E, listed.getD e true = true
  late : ∀ t ∈ T, listed.getD t false = false
theorem HdInv.set {E T : List Nat} {listed : Array Bool} {i : Nat} (inv : HdInv md ops E T listed) (hi : i ∈ Region.ready md ops listed) (hT : i ∉ T) : HdInv md ops E T (listed.setIfInBounds i true) := by
  obtain ⟨_, oi, hoi, hall⟩ := mem_ready.1 hi
  refine ⟨by simp [inv.size], fun j oj hj hl e he hb => ?_, fun e he => ?_, fun t ht => ?_⟩
  · by_cases hij : i = j
    · subst hij
      have : oj = oi := Option.some.inj (hj.symm.trans hoi)
      subst this
      exact getD_set_true (hall e he hb)
    · rw [getD_set_ne false hij] at hl
      exact getD_set_true (inv.closed j oj hj hl e he hb)
  · by_cases hie : i = e
    · subst hie
      have hlt : i < listed.size := by rw [inv.size]; exact (Array.getElem?_eq_some_iff.1 hoi).1
      simp [hlt]
    · rw [getD_set_ne true hie]; exact inv.early e he
  · rw [getD_set_ne false (by rintro rfl; exact hT ht)]; exact inv.late t ht
theorem tail_not_ready {E H T : List Nat} {t0 : Nat} {listed : Array Bool} (hs : sinkH md ops t0 H = true) (hsz : ∀ h ∈ H, h < ops.size) (inv : HdInv md ops E T listed) :
    ∀ (d h : Nat), ops.size - h = d → h ∈ H → listed.getD h true = false → t0 ∉ Region.ready md ops listed := by
  intro d
  induction d using Nat.strongRecOn with
  | _ d ih =>
    intro h hd hh hun hr
    obtain ⟨_, ot, hot, hall⟩ := mem_ready.1 hr
    obtain ⟨j, hj, hj2⟩ := List.any_eq_true.1 (List.all_eq_true.1 hs h hh)
    simp only [Bool.and_eq_true, decide_eq_true_eq] at hj2
    obtain ⟨oj, hoj, e, he, hb, hon⟩ := Region.waitsFor_spec hj2.2
    rcases List.mem_cons.1 hj with rfl | hjH
    · have : oj = ot := Option.some.inj (hoj.symm.trans hot)
      subst this
      have h2 := hall e he hb
      rw [hon, getD_both hun] at h2
      cases h2
    · cases hl : listed.getD j false with
      | true =>
        have h2 := inv.closed j oj hoj hl e he hb
        rw [hon, getD_both hun] at h2
        cases h2
      | false =>
        have hjs : j < ops.size := hsz j hjH
        exact ih (ops.size - j) (by omega) j rfl hjH (getD_in (by rw [inv.size]; exact hjs) hl) hr
theorem chain_not_ready {E T : List Nat} {listed : Array Bool} (inv : HdInv md ops E T listed) : ∀ (us : List Nat) (t : Nat), chainT md ops t us = true → (∀ u ∈ t :: us, u ∈ T) → ∀ u ∈ us, u ∉ Region.ready md ops listed := by
  intro us
  induction us with
  | nil => intro t _ _ u hu; cases hu
  | cons x us ih =>
    intro t hc hT u hu hr
    simp only [chainT, Bool.and_eq_true] at hc
    rcases List.mem_cons.1 hu with rfl | hu
    · obtain ⟨o', ho', e, he, hb, hon⟩ := Region.waitsFor_spec hc.1
      obtain ⟨_, ot, hot, hall⟩ := mem_ready.1 hr
      have : o' = ot := Option.some.inj (ho'.symm.trans hot)
      subst this
      have h2 := hall e he hb
      rw [hon, inv.late t (hT t (by simp))] at h2
      cases h2
    · exact ih x hc.2 (fun y hy => hT y (List.mem_cons_of_mem _ hy)) u hu hr
theorem ready_head {E H us : List Nat} {t0 : Nat} {listed : Array Bool} (hs : sinkH md ops t0 H = true) (hsz : ∀ h ∈ H, h < ops.size) (hc : chainT md ops t0 us = true) (hcov : coverB ops E H (t0 :: us) = true) (inv : HdInv md ops E (t0 :: us) listed)
    {h : Nat} (hh : h ∈ H) (hun : listed.getD h true = false) : ∀ j ∈ Region.ready md ops listed, j ∈ H := by
  intro j hj
  obtain ⟨hjun, oj, hoj, _⟩ := mem_ready.1 hj
  have h1 := List.all_eq_true.1 hcov j (List.mem_range.2 (Array.getElem?_eq_some_iff.1 hoj).1)
  simp only [Bool.or_eq_true, List.contains_iff_mem] at h1
  rcases h1 with (h1 | h1) | h1
  · rw [inv.early j h1] at hjun; cases hjun
  · exact h1
  · rcases List.mem_cons.1 h1 with rfl | h1
    · exact absurd hj (tail_not_ready hs hsz inv _ h rfl hh hun)
    · exact absurd hj (chain_not_ready inv us t0 hc (fun _ h => h) j h1)
theorem HeadQ.first {E H us : List Nat} {t0 i : Nat} {oi : Oper} {v : Value} {L : Array Bool → Act → Prop} (hi : ops[i]? = some oi) (hsel : ∀ (j : Nat) (o : Oper) cs b, ops[j]? = some o → o.op ≠ .select cs b)
    (hs : sinkH md ops t0 H = true) (hsz : ∀ h ∈ H, h < ops.size) (hc : chainT md ops t0 us = true) (hcov : coverB ops E H (t0 :: us) = true) (hap : ∀ h ∈ H, h ∉ t0 :: us) (hin : i ∈ H)
    (hdone : ∀ listed a, L listed a → ∀ j ∈ Region.ready md ops listed, j ∉ H) (f : Nat) :
    ∀ (listed : Array Bool) (a : Act), HdInv md ops E (t0 :: us) listed →
      (∀ j oj, ops[j]? = some oj → j ≠ i → listed.getD j true = false → (∀ e ∈ oj.after, Region.binds md e = true → e.on ≠ i) → oi.apart ops oj = true) →
      i ∈ Region.ready md ops listed → YieldsIn P ops C oi v a →
      HeadQ P md ops C H L f (listed.setIfInBounds i true) (a.put oi.dst v) → HeadQ P md ops C H L (f + 1) listed a := by
  induction f with
  | zero =>
    intro listed a inv _ hr hy K
    refine ⟨List.ne_nil_of_mem hr, fun j hj => ⟨ready_head hs hsz hc hcov inv hin (mem_ready.1 hr).1 j hj, ?_⟩⟩
    by_cases hji : j = i
    · subst hji; exact hy.qOp hi K
    · exact absurd (ready_head hs hsz hc hcov inv hin (mem_ready.1 hr).1 j hj) (hdone _ _ K j (ready_mono hj hji))
  | succ f ih =>
    intro listed a inv hfree hr hy K
    refine ⟨List.ne_nil_of_mem hr, fun j hj => ⟨ready_head hs hsz hc hcov inv hin (mem_ready.1 hr).1 j hj, ?_⟩⟩
    by_cases hji : j = i
    · subst hji; exact hy.qOp hi K
    · have hun := (mem_ready.1 hr).1
      have hjH := ready_head hs hsz hc hcov inv hin hun j hj
      obtain ⟨hjun, oj, hoj, hall⟩ := mem_ready.1 hj
      have hnot : ∀ e ∈ oj.after, Region.binds md e = true → e.on ≠ i := fun e he hb heq => by
        have h1 := hall e he hb
        rw [heq, getD_both hun] at h1
        cases h1
      have h2 := qOp_put hoj (hfree j oj hoj hji hjun hnot) (fun cs b => hsel i oi cs b hi) (fun cs b => hsel j oj cs b hoj) hy (K.2 j (ready_mono hj hji)).2
      refine qOp_mono (fun a' h3 => ih (listed.setIfInBounds j true) a' (inv.set hj (hap j hjH)) (fun k ok hk hki hunk hno => hfree k ok hk hki ?_ hno) (ready_mono hr (Ne.symm hji)) h3.1 ?_) h2
      · by_cases hjk : j = k
        · subst hjk; exact hjun
        · rwa [getD_set_ne true hjk] at hunk
      · rw [Array.setIfInBounds_comm _ _ hji]
        exact h3.2
def seqT (md : Region.Mode) (ops : Array Oper) : List Nat → Array Bool → Bool
  | [], listed => (Region.ready md ops listed).isEmpty
  | t :: ts, listed => decide (Region.ready md ops listed = [t]) && seqT md ops ts (listed.setIfInBounds t true)
def lexH (md : Region.Mode) (ops : Array Oper) (T : List Nat) : List Nat → Array Bool → Bool
  | [], listed => seqT md ops T listed
  | h :: hs, listed => (Region.ready md ops listed).contains h && Region.free md ops listed h && lexH md ops T hs (listed.setIfInBounds h true)
theorem HeadQ.lex {E H us : List Nat} {t0 : Nat} {Lq : Act → Prop} (hsel : Region.noSelect ops = true) (hs : sinkH md ops t0 H = true) (hsz : ∀ h ∈ H, h < ops.size) (hc : chainT md ops t0 us = true) (hcov : coverB ops E H (t0 :: us) = true) (hap : ∀ h ∈ H, h ∉ t0 :: us) (hx : List Nat) :
    ∀ (lx : List Oper) (listed : Array Bool) (a : Act), (∀ h ∈ hx, h ∈ H) → hx.map (ops[·]?) = lx.map some → HdInv md ops E (t0 :: us) listed → lexH md ops (t0 :: us) hx listed = true → wpQuiet P ops C Lq lx a →
      HeadQ P md ops C H (fun listed' a' => seqT md ops (t0 :: us) listed' = true ∧ Lq a') hx.length listed a := by
  induction hx with
  | nil =>
    intro lx listed a _ hm _ hB h
    cases lx with
    | nil => exact ⟨hB, h⟩
    | cons _ _ => simp at hm
  | cons i hx ih =>
    intro lx listed a hH hm inv hB h
    cases lx with
    | nil => simp at hm
    | cons o lx =>
      simp only [List.map_cons, List.cons.injEq] at hm
      simp only [lexH, Bool.and_eq_true] at hB
      obtain ⟨⟨hr, hf⟩, hB'⟩ := hB
      have hr' : i ∈ Region.ready md ops listed := by simpa using hr
      have hst : qOp P ops C i (wpQuiet P ops C Lq lx) a := by unfold qOp; simp only [hm.1]; exact h
      obtain ⟨v, hy, hK⟩ := yieldsIn_of_qOp hm.1 hst
      refine HeadQ.first hm.1 (Region.noSelect_spec hsel) hs hsz hc hcov hap (hH i (by simp)) (fun listed' a' hL j hj hjH => ?_) hx.length listed a inv (Region.free_spec hm.1 hf) hr' hy
        (ih lx _ _ (fun h hh => hH h (by simp [hh])) hm.2 (inv.set hr' (hap i (hH i (by simp)))) hB' hK)
      have h1 := hL.1
      simp only [seqT, Bool.and_eq_true, decide_eq_true_eq] at h1
      rw [h1.1] at hj
      have : j = t0 := by simpa using hj
      subst this
      exact hap j hjH (by simp)
theorem seqT_any {Q' : Exit → Act → World → Prop} (ts : List Nat) : ∀ (lt : List Oper) (listed : Array Bool) (a : Act) (w : World), ts.map (ops[·]?) = lt.map some → seqT md ops ts listed = true → wpList P ops Q' lt a w → wpAny P md ops Q' ts.length listed a w := by
  induction ts with
  | nil =>
    intro lt listed a w hm hB h
    cases lt with
    | nil => exact ⟨by simpa [seqT] using hB, h⟩
    | cons _ _ => simp at hm
  | cons t ts ih =>
    intro lt listed a w hm hB h
    cases lt with
    | nil => simp at hm
    | cons o lt =>
      simp only [List.map_cons, List.cons.injEq] at hm
      simp only [seqT, Bool.and_eq_true, decide_eq_true_eq] at hB
      refine ⟨fun h1 => (by rw [hB.1] at h1; cases h1), fun i hi => ?_⟩
      rw [hB.1] at hi
      have hik : i = t := by simpa using hi
      subst hik
      have hw : wpOp P ops Q' i (wpList P ops Q' lt) a w := by unfold wpOp; simp only [hm.1]; exact h
      exact wpOp_mono (fun a' w' h' => ih lt _ a' w' hm.2 hB.2 h') hw
end
section
open Go.RowKit
def mixB (ops : Array Oper) (E H : List Nat) (t0 : Nat) (us : List Nat) : Bool :=
  Region.noSelect ops && pureB .any ops E (Array.replicate ops.size false) && sinkH .any ops t0 H && chainT .any ops t0 us && coverB ops E H (t0 :: us) && apartB H (t0 :: us) && H.all (fun h => decide (h < ops.size)) &&
    lexH .any ops (t0 :: us) H (listAll (Array.replicate ops.size false) E) && decide (E.length + (H.length + (us.length + 1)) = ops.size) && (t0 :: us).all (fun t => !E.contains t) && E.all (fun e => decide (e < ops.size) && (match ops[e]? with | some o => o.after.all (fun x => !Region.binds .any x || E.contains x.on) | none => false))
theorem getD_listAll_mem {size : Nat} (es : List Nat) : ∀ (listed : Array Bool), listed.size = size → ∀ e, (e ∈ es ∨ listed.getD e false = true) → e < size → (listAll listed es).getD e true = true := by
  induction es with
  | nil =>
    intro listed hs e h he
    rcases h with h | h
    · cases h
    · show listed.getD e true = true
      cases h2 : listed.getD e true with
      | true => rfl
      | false => rw [getD_both h2] at h; cases h
  | cons x es ih =>
    intro listed hs e h he
    refine ih (listed.setIfInBounds x true) (by simp [hs]) e ?_ he
    by_cases hxe : x = e
    · subst hxe; right; simp [hs, he]
    · rcases h with h | h
      · exact .inl (by simpa [Ne.symm hxe] using h)
      · exact .inr (getD_set_true h)
theorem getD_listAll_not (es : List Nat) : ∀ (listed : Array Bool) (t : Nat), t ∉ es → (listAll listed es).getD t false = listed.getD t false := by
  induction es with
  | nil => intro listed t _; rfl
  | cons x es ih =>
    intro listed t ht
    show (listAll (listed.setIfInBounds x true) es).getD t false = _
    rw [ih _ t (fun h => ht (by simp [h])), getD_set_ne false (fun e => ht (by simp [e]))]
theorem size_listAll (es : List Nat) : ∀ (listed : Array Bool), (listAll listed es).size = listed.size := by
  induction es with
  | nil => intro listed; rfl
  | cons x es ih => intro listed; show (listAll (listed.setIfInBounds x true) es).size = _; rw [ih]; simp
theorem mix_any {P : Program} {Q : Exit → Act → World → Prop} {a : Act} {w : World} {l : List Oper} (W0 : World) (E H : List Nat) (t0 : Nat) (us : List Nat) (lh lt : List Oper) (hB : mixB l.toArray E H t0 us = true)
    (hlh : H.map (l.toArray[·]?) = lh.map some) (hlt : (t0 :: us).map (l.toArray[·]?) = lt.map some) (hk : Kept W0 w)
    (h : PureW P l.toArray (fun a' => wpQuiet P l.toArray (fun w' => ∃ u : KW W0, w' = u.w) (fun a'' => ∀ u : KW W0, wpList P l.toArray (NoPanic Q) lt a'' u.w) lh a') E a) : wpAny P .any l.toArray (NoPanic Q) l.toArray.size (Array.replicate l.toArray.size false) a w.drew := by
  simp only [mixB, Bool.and_eq_true, decide_eq_true_eq] at hB
  obtain ⟨⟨⟨⟨⟨⟨⟨⟨⟨⟨hsel, hpu⟩, hs⟩, hc⟩, hcov⟩, hap⟩, hsz⟩, hlex⟩, hlen⟩, hTE⟩, hE⟩ := hB
  have hsz' : ∀ h ∈ H, h < l.toArray.size := fun h hh => by simpa using List.all_eq_true.1 hsz h hh
  have hap' : ∀ h ∈ H, h ∉ t0 :: us := fun h hh ht => by
    have := List.all_eq_true.1 hap h ht
    simp only [Bool.not_eq_true', ← Bool.not_eq_true, List.contains_iff_mem] at this
    exact this hh
  have inv0 : HdInv .any l.toArray E (t0 :: us) (listAll (Array.replicate l.toArray.size false) E) := by
    refine ⟨by rw [size_listAll]; simp, fun j oj hj hl e he hb => ?_, fun e he => ?_, fun t ht => ?_⟩
    · have hjE : j ∈ E := by
        by_cases hjE : j ∈ E
        · exact hjE
        · rw [getD_listAll_not E _ j hjE, getD_replicate_false] at hl; cases hl
      have h1 := List.all_eq_true.1 hE j hjE
      simp only [hj, Bool.and_eq_true, decide_eq_true_eq] at h1
      have h2 := Array.all_eq_true_iff_forall_mem.1 h1.2 e he
      simp only [hb, Bool.not_true, Bool.false_or, List.contains_iff_mem] at h2
      have h3 := List.all_eq_true.1 hE e.on h2
      simp only [Bool.and_eq_true, decide_eq_true_eq] at h3
      have h4 := getD_listAll_mem (size := l.toArray.size) E (Array.replicate l.toArray.size false) (by simp) e.on (.inl h2) h3.1
      have h5 : e.on < (listAll (Array.replicate l.toArray.size false) E).size := by rw [size_listAll]; simpa using h3.1
      cases hx : (listAll (Array.replicate l.toArray.size false) E).getD e.on false with
      | true => rfl
      | false => rw [getD_in h5 hx] at h4; cases h4
    · have h3 := List.all_eq_true.1 hE e he
      simp only [Bool.and_eq_true, decide_eq_true_eq] at h3
      exact getD_listAll_mem (size := l.toArray.size) E _ (by simp) e (.inl he) h3.1
    · have h3 := List.all_eq_true.1 hTE t ht
      rw [getD_listAll_not E _ t (by simpa using h3), getD_replicate_false]
  have h2 := pure_any (P := P) (md := .any) (Q := Q) (w := w.drew) hsel (fuel := H.length + (us.length + 1)) E _ a hpu (fun a' h' => ?_) h
  · rw [show E.length + (H.length + (us.length + 1)) = l.toArray.size from hlen] at h2
    exact h2
  · have K := HeadQ.lex (P := P) (C := fun w' => ∃ u : KW W0, w' = u.w) hsel hs hsz' hc hcov hap' H lh _ a' (fun _ h => h) hlh inv0 hlex h'
    exact HeadQ.any (fun listed a'' w' hw' hL => by
      obtain ⟨u, rfl⟩ := hw'
      exact seqT_any (P := P) (md := .any) (Q' := NoPanic Q) (t0 :: us) lt listed a'' u.w hlt hL.1 (hL.2 u)) H.length _ a' _ ⟨⟨_, hk.drew⟩, rfl⟩ K
theorem wp_region_mix {P : Program} {id : Nat} {Q : Exit → Act → World → Prop} {a : Act} {w : World} {l : List Oper} (W0 : World) (E H : List Nat) (t0 : Nat) (us : List Nat) (lh lt : List Oper) (hm : P.follows .mixedOrders = true) (hB : mixB l.toArray E H t0 us = true)
    (hlh : H.map (l.toArray[·]?) = lh.map some) (hlt : (t0 :: us).map (l.toArray[·]?) = lt.map some) (hk : Kept W0 w)
    (h : PureW P l.toArray (fun a' => wpQuiet P l.toArray (fun w' => ∃ u : KW W0, w' = u.w) (fun a'' => ∀ u : KW W0, wpList P l.toArray (NoPanic Q) lt a'' u.w) lh a') E a) : (Code.region id l.toArray true).wp P Q a w :=
  wp_region_noPanic (wp_region_any hm (mix_any W0 E H t0 us lh lt hB hlh hlt hk h))
theorem map_filterMap {l : List Oper} (H : List Nat) (h : ∀ i ∈ H, i < l.length) : H.map (l.toArray[·]?) = (H.filterMap (l[·]?)).map some := by
  induction H with
  | nil => rfl
  | cons i H ih =>
    have hi : i < l.length := h i (by simp)
    rw [List.map_cons, List.filterMap_cons_some (List.getElem?_eq_getElem hi), List.map_cons, ih (fun j hj => h j (by simp [hj]))]
    simp [hi]
theorem mix_any' {P : Program} {Q : Exit → Act → World → Prop} {a : Act} {w : World} {l : List Oper} (W0 : World) (E H : List Nat) (t0 : Nat) (us : List Nat) (hB : mixB l.toArray E H t0 us = true) (hT : ((t0 :: us).all fun t => decide (t < l.length)) = true) (hk : Kept W0 w)
    (h : PureW P l.toArray (fun a' => wpQuiet P l.toArray (fun w' => ∃ u : KW W0, w' = u.w) (fun a'' => ∀ u : KW W0, wpList P l.toArray (NoPanic Q) ((t0 :: us).filterMap (l[·]?)) a'' u.w) (H.filterMap (l[·]?)) a') E a) : wpAny P .any l.toArray (NoPanic Q) l.toArray.size (Array.replicate l.toArray.size false) a w.drew := by
  have hsz : H.all (fun h => decide (h < l.toArray.size)) = true := by
    simp only [mixB, Bool.and_eq_true] at hB
    exact hB.1.1.1.1.2
  exact mix_any W0 E H t0 us _ _ hB (map_filterMap H (fun i hi => by simpa using List.all_eq_true.1 hsz i hi)) (map_filterMap _ (fun i hi => by simpa using List.all_eq_true.1 hT i hi)) hk h
theorem wp_region_mix' {P : Program} {id : Nat} {Q : Exit → Act → World → Prop} {a : Act} {w : World} {l : List Oper} (W0 : World) (E H : List Nat) (t0 : Nat) (us : List Nat) (hm : P.follows .mixedOrders = true) (hB : mixB l.toArray E H t0 us = true) (hT : ((t0 :: us).all fun t => decide (t < l.length)) = true) (hk : Kept W0 w)
    (h : PureW P l.toArray (fun a' => wpQuiet P l.toArray (fun w' => ∃ u : KW W0, w' = u.w) (fun a'' => ∀ u : KW W0, wpList P l.toArray (NoPanic Q) ((t0 :: us).filterMap (l[·]?)) a'' u.w) (H.filterMap (l[·]?)) a') E a) : (Code.region id l.toArray true).wp P Q a w := by
  have hsz : H.all (fun h => decide (h < l.toArray.size)) = true := by
    simp only [mixB, Bool.and_eq_true] at hB
    exact hB.1.1.1.1.2
  exact wp_region_mix W0 E H t0 us _ _ hm hB (map_filterMap H (fun i hi => by simpa using List.all_eq_true.1 hsz i hi)) (map_filterMap _ (fun i hi => by simpa using List.all_eq_true.1 hT i hi)) hk h
end
section
open Go.RowKit
variable {P : Program} {Q : Exit → Act → World → Prop} {ops : Array Oper} {l n : Nat}
theorem rowsIn_wide {row : String} {args : Array Value} {w : World} {R : Value → World → Prop} (h : Rows P row args w R) : RowsIn (Fence.wide.inRound l) n P row args w R := fun c cs _ => by
  obtain ⟨v, w', r, s⟩ := h c cs
  exact ⟨v, w', r, stepsIn_wide.2 s⟩
theorem uponIn_of {o : Oper} {a : Act} {K : Act → World → Prop} {r : Result Next} (h : o.upon P a K Q r) : o.uponIn (Fence.wide.inRound l) n P a K Q r := by
  cases r with
  | ok x w' =>
    cases x <;> simp only [Oper.upon, Oper.uponIn] at h ⊢ <;>
      first
        | exact h
        | exact ⟨fun h0 => (by cases h0), (callsIn_wide.2 h).inRound l⟩
        | exact ⟨fun h0 => (by cases h0), rowsIn_wide h⟩
  | halt x w' => cases x <;> simp only [Oper.upon, Oper.uponIn] at h ⊢ <;> exact h
theorem wpOpIn_of {i : Nat} {K : Act → World → Prop} {a : Act} {w : World} (hd : ∀ (o : Oper) (c : Call), ops[i]? = some o → o.op ≠ .defer c) (hno : ¬ LetsOut Q) (h : wpOp P ops Q i K a w) : wpOpIn (Fence.wide.inRound l) n P ops Q i K a w := by
  unfold wpOp at h
  unfold wpOpIn
  cases ho : ops[i]? with
  | none => simpa [ho] using h
  | some o =>
    simp only [ho] at h ⊢
    split
    · rename_i hw
      simp only [hw, if_true] at h
      rcases h with h | h
      · refine ⟨fun _ _ => trivial, ?_⟩
        rw [Oper.semAt_eq _ _ _ (fun c => hd o c ho)]
        exact uponIn_of h
      · exact absurd h.2 hno
    · rename_i hw
      simp only [hw] at h
      exact ⟨fun _ _ => trivial, h⟩
theorem wpAnyIn_of {md : Region.Mode} (hd : ∀ (i : Nat) (o : Oper) (c : Call), ops[i]? = some o → o.op ≠ .defer c) (hno : ¬ LetsOut Q) : ∀ (fuel : Nat) (listed : Array Bool) (a : Act) (w : World), wpAny P md ops Q fuel listed a w → wpAnyIn (Fence.wide.inRound l) n P md ops Q fuel listed a w := by
  intro fuel
  induction fuel with
  | zero => intro listed a w h; exact h
  | succ fuel ih =>
    intro listed a w h
    exact ⟨h.1, fun i hi => wpOpIn_mono (fun a' w' h' => ih _ a' w' h') (wpOpIn_of (fun o c ho => hd i o c ho) hno (h.2 i hi))⟩
end
section
open Go.RowKit
def NoOut (Q : Exit → Act → World → Prop) : Exit → Act → World → Prop
  | .outgrown, _, _ => False
  | e, a, w => Q e a w
theorem NoOut.normal {Q : Exit → Act → World → Prop} {a : Act} {w : World} (h : Q .normal a w) : NoOut Q .normal a w := h
def noDefer (ops : Array Oper) : Bool := ops.all fun o => match o.op with | .defer _ => false | _ => true
theorem noDefer_spec {ops : Array Oper} (h : noDefer ops = true) : ∀ (i : Nat) (o : Oper) (c : Call), ops[i]? = some o → o.op ≠ .defer c := by
  intro i o c ho hc
  have := Array.all_eq_true_iff_forall_mem.1 h o (Array.mem_of_getElem? ho)
  rw [hc] at this
  cases this
theorem wpIn_region_mix' {P : Program} {id : Nat} {Q : Exit → Act → World → Prop} {a : Act} {w : World} {l : List Oper} {r n : Nat} (W0 : World) (E H : List Nat) (t0 : Nat) (us : List Nat) (hm : P.follows .mixedOrders = true) (hB : mixB l.toArray E H t0 us = true) (hD : noDefer l.toArray = true) (hT : ((t0 :: us).all fun t => decide (t < l.length)) = true) (hk : Kept W0 w)
    (h : PureW P l.toArray (fun a' => wpQuiet P l.toArray (fun w' => ∃ u : KW W0, w' = u.w) (fun a'' => ∀ u : KW W0, wpList P l.toArray (NoPanic (NoOut Q)) ((t0 :: us).filterMap (l[·]?)) a'' u.w) (H.filterMap (l[·]?)) a') E a) : (Code.region id l.toArray true).wpIn (Fence.wide.inRound r) n P Q a w := by
  have h1 := mix_any' (Q := NoOut Q) W0 E H t0 us hB hT hk h
  refine wpIn_mono (wpIn_region_any hm (wpAnyIn_of (noDefer_spec hD) (fun h => ?_) _ _ _ _ h1)) (fun e a w he => ?_)
  · obtain ⟨a, w, h⟩ := h
    exact h
  · cases e <;> first | exact he | exact (he : False).elim
end
end Go.Proofs.YtkmaeipoaoikpaaGreat
