/- Early, Push, VecPlain, ActPlain, PlPlain. -/
import Derived.Deep.DeepCutAuto
import Derived.Test.YtkmaeipoaoikpaaGreatEB02
namespace Go.Proofs.YtkmaeipoaoikpaaGreat
set_option linter.all false
set_option maxRecDepth 100000
open Lib (hid)
section
open Go.RowKit
variable {P : Program} {ops : Array Oper} {md : Region.Mode} {S : World → Prop} {Q Q' : Exit → Act → World → Prop}
theorem oper_monoQ {o : Oper} {a : Act} {w : World} {K : Act -> World -> Prop} (h : ∀ e a w,e ≠ Exit.normal -> Q e a w -> Q' e a w) (hh : o.wp P a w K Q) : o.wp P a w K Q' := by
 unfold Oper.wp at *
 generalize (execOp a.eval o).run P w = r at *
 cases r with
 | ok n w' =>
  cases n <;> simp only [Oper.upon] at hh ⊢
  case value u => exact hh
  case skip => exact hh
  case defer d => exact hh
  case enter f args =>
   refine Calls.mono hh fun e w'' he => ?_
   cases e with
   | returned u => exact he
   | panicked c => exact h _ _ _ (by simp) he
   | outgrown => obtain ⟨a',w₀,hq⟩ := he; exact ⟨a',w₀,h _ _ _ (by simp) hq⟩
  case row row args => exact hh
 | halt x w' =>
  cases x <;> simp only [Oper.upon] at hh ⊢
  case panic u => exact h _ _ _ (by simp) hh
theorem wpOp_monoQ {i : Nat} {a : Act} {w : World} {K : Act -> World -> Prop} (h : ∀ e a w,e ≠ Exit.normal -> Q e a w -> Q' e a w) (hh : wpOp P ops Q i K a w) : wpOp P ops Q' i K a w := by
 unfold wpOp at *
 split
 ·rename_i ho; simp only [ho] at hh; exact hh
 ·rename_i o ho
  simp only [ho] at hh
  split
  ·rename_i hw
   simp only [hw,if_true] at hh
   rcases hh with hh | ⟨h1,a',w₀,hq⟩
   ·exact .inl (oper_monoQ h hh)
   ·exact .inr ⟨h1,a',w₀,h _ _ _ (by simp) hq⟩
  ·rename_i hw
   simp only [hw] at hh
   exact hh
def AnyT (P : Program) (md : Region.Mode) (ops : Array Oper) (Q : Exit -> Act -> World -> Prop) (S : World -> Prop) (F : List Nat) : Nat -> Array Bool -> Act -> World -> Prop
 | 0,listed,a,w => Region.ready md ops listed = [] /\ Q .normal a w
 | f + 1,listed,a,w => (Region.ready md ops listed = [] -> Q .normal a w) /\ ∀ i ∈ Region.ready md ops listed,wpOp P ops Q i (fun a' w' => (i ∈ F \/ S w') /\ AnyT P md ops Q S F f (listed.setIfInBounds i true) a' w') a w
theorem AnyT.any {F : List Nat} (f : Nat) : ∀ (listed : Array Bool) (a : Act) (w : World),AnyT P md ops Q S F f listed a w -> wpAny P md ops Q f listed a w := by
 induction f with
 | zero => intro listed a w h; exact h
 | succ f ih => intro listed a w h; exact ⟨h.1,fun i hi => wpOp_mono (fun a' w' h' => ih _ a' w' h'.2) (h.2 i hi)⟩
def reachB (md : Region.Mode) (ops : Array Oper) : Nat -> Nat -> Nat -> Bool
 | 0,_,_ => false
 | fuel + 1,f,i => Region.waitsFor md ops f i || (List.range ops.size).any fun j => Region.waitsFor md ops f j && reachB md ops fuel j i
def ClosedL (md : Region.Mode) (ops : Array Oper) (listed : Array Bool) : Prop := ∀ j oj,ops[j]? = some oj -> listed.getD j false = true -> ∀ e ∈ oj.after,Region.binds md e = true -> listed.getD e.on false = true
theorem reach_listed {listed : Array Bool} (hc : ClosedL md ops listed) {i : Nat} (fuel : Nat) : ∀ f,(∀ of,ops[f]? = some of -> ∀ e ∈ of.after,Region.binds md e = true -> listed.getD e.on false = true) -> reachB md ops fuel f i = true -> listed.getD i false = true := by
 induction fuel with
 | zero => intro f _ h; cases h
 | succ fuel ih =>
  intro f hf h
  simp only [reachB,Bool.or_eq_true,List.any_eq_true,Bool.and_eq_true] at h
  rcases h with h | ⟨j,_,h1,h2⟩
  ·obtain ⟨oj,hoj,e,he,hb,hon⟩ := Region.waitsFor_spec h
   rw [<- hon]
   exact hf oj hoj e he hb
  ·obtain ⟨oj,hoj,e,he,hb,hon⟩ := Region.waitsFor_spec h1
   have hj : listed.getD j false = true := by rw [<- hon]; exact hf oj hoj e he hb
   exact ih j (fun oj' hoj' => hc j oj' hoj' hj) h2
theorem ClosedL.set {listed : Array Bool} {i : Nat} (h : ClosedL md ops listed) (hi : i ∈ Region.ready md ops listed) : ClosedL md ops (listed.setIfInBounds i true) := by
 obtain ⟨_,oi,hoi,hall⟩ := mem_ready.1 hi
 intro j oj hj hl e he hb
 by_cases hij : i = j
 ·subst hij
  have : oj = oi := Option.some.inj (hj.symm.trans hoi)
  subst this
  exact getD_set_true (hall e he hb)
 ·rw [getD_set_ne false hij] at hl
  exact getD_set_true (h j oj hj hl e he hb)
theorem AnyT.first {F : List Nat} {i N : Nat} {oi : Oper} {v : Value} (hi : ops[i]? = some oi) (hsel : ∀ (j : Nat) (o : Oper) cs b,ops[j]? = some o -> o.op ≠ .select cs b) (hQ : ∀ c a w,Q (.panic c) (a.put oi.dst v) w -> Q (.panic c) a w)
  (hwait : ∀ f ∈ F,reachB md ops N f i = true) (fuel : Nat) : ∀ (listed : Array Bool) (a : Act) (w : World),ClosedL md ops listed ->
   (∀ j oj,ops[j]? = some oj -> j ≠ i -> listed.getD j true = false -> (∀ e ∈ oj.after,Region.binds md e = true -> e.on ≠ i) -> oi.apart ops oj = true) ->
   i ∈ Region.ready md ops listed -> YieldsIf P ops S oi v a -> S w -> AnyT P md ops Q S F fuel (listed.setIfInBounds i true) (a.put oi.dst v) w -> AnyT P md ops Q S F (fuel + 1) listed a w := by
 have notlast : ∀ {listed : Array Bool} {j : Nat},ClosedL md ops listed -> listed.getD i true = false -> j ∈ Region.ready md ops listed -> j ∉ F := fun {listed j} hc hun hr hF => by
  obtain ⟨_,ot,hot,hall⟩ := mem_ready.1 hr
  have h2 := reach_listed hc N j (fun of hof e he hb => by
   have : of = ot := Option.some.inj (hof.symm.trans hot)
   subst this
   exact hall e he hb) (hwait j hF)
  rw [getD_both hun] at h2
  cases h2
 induction fuel with
 | zero =>
  intro listed a w _ _ hr hy hS H
  refine ⟨fun h => (by rw [h] at hr; cases hr),fun j hj => ?_⟩
  by_cases hji : j = i
  ·subst hji; exact hy.wpOp hi hS ⟨.inr hS,H⟩
  ·have := ready_mono hj hji
   rw [H.1] at this
   cases this
 | succ fuel ih =>
  intro listed a w hcl hfree hr hy hS H
  have hun := (mem_ready.1 hr).1
  refine ⟨fun h => (by rw [h] at hr; cases hr),fun j hj => ?_⟩
  by_cases hji : j = i
  ·subst hji; exact hy.wpOp hi hS ⟨.inr hS,H⟩
  ·have hjn : j ∉ F := notlast hcl hun hj
   have h1 := H.2 j (ready_mono hj hji)
   obtain ⟨hjun,oj,hoj,hall⟩ := mem_ready.1 hj
   have hnot : ∀ e ∈ oj.after,Region.binds md e = true -> e.on ≠ i := fun e he hb heq => by
    have h1 := hall e he hb
    rw [heq,getD_both hun] at h1
    cases h1
   have h2 := wpOp_putIf hoj (hfree j oj hoj hji hjun hnot) (fun cs b => hsel i oi cs b hi) (fun cs b => hsel j oj cs b hoj) hQ hy h1
   refine wpOp_mono (fun a' w' h3 => ?_) h2
   have hS' : S w' := h3.2.1.resolve_left hjn
   refine ⟨.inr hS',ih (listed.setIfInBounds j true) a' w' (hcl.set hj) (fun k ok hk hki hunk hno => hfree k ok hk hki ?_ hno) (ready_mono hr (Ne.symm hji)) h3.1 hS' ?_⟩
   ·by_cases hjk : j = k
    ·subst hjk; exact hjun
    ·rwa [getD_set_ne true hjk] at hunk
   ·rw [Array.setIfInBounds_comm _ _ hji]
    exact h3.2.2
def EarlyW (P : Program) (ops : Array Oper) (S : World -> Prop) (next : Act -> Prop) : List Oper -> Act -> Prop
 | [],a => next a
 | o :: es,a => ∃ v,YieldsIf P ops S o v a /\ EarlyW P ops S next es (a.put o.dst v)
def earlyB (md : Region.Mode) (ops : Array Oper) (F : List Nat) (N : Nat) : List Nat -> Array Bool -> Bool
 | [],_ => true
 | e :: es,listed => (Region.ready md ops listed).contains e && Region.free md ops listed e && F.all (fun f => reachB md ops N f e) && earlyB md ops F N es (listed.setIfInBounds e true)
theorem early_any (hs : Region.noSelect ops = true) {F : List Nat} {N fuel : Nat} {w : World} (hS : S w) {next : Act -> Prop} (es : List Nat) : ∀ (le : List Oper) (listed : Array Bool) (a : Act),ClosedL md ops listed -> es.map (ops[·]?) = le.map some -> earlyB md ops F N es listed = true ->
  (∀ a',next a' -> AnyT P md ops (NoPanic Q) S F fuel (listAll listed es) a' w) -> EarlyW P ops S next le a -> AnyT P md ops (NoPanic Q) S F (es.length + fuel) listed a w := by
 induction es with
 | nil =>
  intro le listed a _ hm _ hn h
  cases le with
  | nil => rw [List.length_nil,Nat.zero_add]; exact hn a h
  | cons _ _ => simp at hm
 | cons e es ih =>
  intro le listed a hcl hm hB hn h
  cases le with
  | nil => simp at hm
  | cons o le =>
   simp only [List.map_cons,List.cons.injEq] at hm
   simp only [earlyB,Bool.and_eq_true] at hB
   obtain ⟨v,hy,h⟩ := h
   have hr : e ∈ Region.ready md ops listed := by simpa using hB.1.1.1
   rw [List.length_cons,show es.length + 1 + fuel = (es.length + fuel) + 1 by omega]
   exact AnyT.first hm.1 (Region.noSelect_spec hs) (fun _ _ _ h => h) (fun f hf => List.all_eq_true.1 hB.1.2 f hf) _ listed a w hcl (Region.free_spec hm.1 hB.1.1.2) hr hy hS (ih le _ _ (hcl.set hr) hm.2 hB.2 hn h)
def RestW (P : Program) (ops : Array Oper) (Q : Exit -> Act -> World -> Prop) (S : World -> Prop) (next : Act -> World -> Prop) : List Oper -> Act -> World -> Prop
 | [],a,w => next a w
 | o :: rest,a,w => wpList P ops (fun e a' w' => match e with | .normal => S w' /\ RestW P ops Q S next rest a' w' | e => Q e a' w') [o] a w
theorem rest_any {F : List Nat} {g : Nat} {next : Act -> World -> Prop} (ts : List Nat) : ∀ (lt : List Oper) (listed : Array Bool) (a : Act) (w : World),ts.map (ops[·]?) = lt.map some -> (∀ a w,next a w -> AnyT P md ops Q S F g (listAll listed ts) a w) ->
  (seqR : Bool) -> seqR = true -> (seqR = true -> ∀ k l,ts.take k = l -> k < ts.length -> Region.ready md ops (listAll listed l) = [ts.getD k 0]) -> RestW P ops Q S next lt a w -> AnyT P md ops Q S F (ts.length + g) listed a w := by
 induction ts with
 | nil =>
  intro lt listed a w hm hn b hb hseq h
  cases lt with
  | nil => rw [List.length_nil,Nat.zero_add]; exact hn a w h
  | cons _ _ => simp at hm
 | cons t ts ih =>
  intro lt listed a w hm hn b hb hseq h
  cases lt with
  | nil => simp at hm
  | cons o lt =>
   simp only [List.map_cons,List.cons.injEq] at hm
   have hr : Region.ready md ops listed = [t] := by simpa [listAll] using hseq hb 0 [] (by simp) (by simp)
   rw [List.length_cons,show ts.length + 1 + g = (ts.length + g) + 1 by omega]
   refine ⟨fun h1 => (by rw [hr] at h1; cases h1),fun i hi => ?_⟩
   rw [hr] at hi
   have hik : i = t := by simpa using hi
   subst hik
   have hw : wpOp P ops (fun e a' w' => match e with | .normal => S w' /\ RestW P ops Q S next lt a' w' | e => Q e a' w') i (wpList P ops (fun e a' w' => match e with | .normal => S w' /\ RestW P ops Q S next lt a' w' | e => Q e a' w') []) a w := by unfold wpOp; simp only [hm.1]; exact h
   refine wpOp_mono (fun a' w' h' => ⟨.inr h'.1,ih lt _ a' w' hm.2 hn b hb (fun hb k l hl hk => ?_) h'.2⟩) (wpOp_monoQ (Q' := Q) (fun e a w he h => ?_) hw)
   ·have := hseq hb (k + 1) (i :: l) (by simp [hl]) (by simpa using hk)
    simpa [listAll] using this
   ·cases e <;> first | exact absurd rfl he | exact h
theorem free_any {F : List Nat} (ts : List Nat) : ∀ (lt : List Oper) (listed : Array Bool) (a : Act) (w : World),(∀ t ∈ ts,t ∈ F) -> ts.map (ops[·]?) = lt.map some -> seqT md ops ts listed = true -> wpList P ops Q lt a w -> AnyT P md ops Q S F ts.length listed a w := by
 induction ts with
 | nil =>
  intro lt listed a w _ hm hB h
  cases lt with
  | nil => exact ⟨by simpa [seqT] using hB,h⟩
  | cons _ _ => simp at hm
 | cons t ts ih =>
  intro lt listed a w hF hm hB h
  cases lt with
  | nil => simp at hm
  | cons o lt =>
   simp only [List.map_cons,List.cons.injEq] at hm
   simp only [seqT,Bool.and_eq_true,decide_eq_true_eq] at hB
   refine ⟨fun h1 => (by rw [hB.1] at h1; cases h1),fun i hi => ?_⟩
   rw [hB.1] at hi
   have hik : i = t := by simpa using hi
   subst hik
   have hw : wpOp P ops Q i (wpList P ops Q lt) a w := by unfold wpOp; simp only [hm.1]; exact h
   exact wpOp_mono (fun a' w' h' => ⟨.inl (hF i (by simp)),ih lt _ a' w' (fun t ht => hF t (by simp [ht])) hm.2 hB.2 h'⟩) hw
end
section
open Go.RowKit
def midB (ops : Array Oper) : List Nat -> Array Bool -> Bool
 | [],_ => true
 | t :: ts,listed => decide (Region.ready .any ops listed = [t]) && midB ops ts (listed.setIfInBounds t true)
theorem midB_spec {ops : Array Oper} (ts : List Nat) : ∀ (listed : Array Bool),midB ops ts listed = true -> ∀ k l,ts.take k = l -> k < ts.length -> Region.ready .any ops (listAll listed l) = [ts.getD k 0] := by
 induction ts with
 | nil => intro listed _ k l _ hk; simp at hk
 | cons t ts ih =>
  intro listed hB k l hl hk
  simp only [midB,Bool.and_eq_true,decide_eq_true_eq] at hB
  cases k with
  | zero => subst hl; simpa [listAll] using hB.1
  | succ k =>
   subst hl
   have := ih _ hB.2 k (ts.take k) rfl (by simpa using hk)
   simpa [listAll] using this
def earlyAllB (ops : Array Oper) (E M F : List Nat) : Bool :=
 Region.noSelect ops && earlyB .any ops F ops.size E (Array.replicate ops.size false) && midB ops M (listAll (Array.replicate ops.size false) E) && seqT .any ops F (listAll (listAll (Array.replicate ops.size false) E) M) && decide (E.length + (M.length + F.length) = ops.size) && E.all (fun e => decide (e < ops.size)) && M.all (fun e => decide (e < ops.size)) && F.all (fun e => decide (e < ops.size))
theorem wp_region_early {P : Program} {id : Nat} {Q : Exit -> Act -> World -> Prop} {a : Act} {w : World} {l : List Oper} (S : World -> Prop) (E M F : List Nat) (hm : P.follows .mixedOrders = true) (hB : earlyAllB l.toArray E M F = true) (hS : S w.drew)
  (h : EarlyW P l.toArray S (fun a' => RestW P l.toArray (NoPanic Q) S (fun a'' w'' => wpList P l.toArray (NoPanic Q) (F.filterMap (l[·]?)) a'' w'') (M.filterMap (l[·]?)) a' w.drew) (E.filterMap (l[·]?)) a) : (Code.region id l.toArray true).wp P Q a w := by
 simp only [earlyAllB,Bool.and_eq_true,decide_eq_true_eq] at hB
 obtain ⟨⟨⟨⟨⟨⟨⟨hsel,hE⟩,hM⟩,hF⟩,hlen⟩,hEs⟩,hMs⟩,hFs⟩ := hB
 refine wp_region_noPanic (wp_region_any hm (AnyT.any (S := S) (F := F) _ _ _ _ ?_))
 have h2 := early_any (P := P) (md := .any) (Q := Q) (S := S) (F := F) (N := l.toArray.size) (fuel := M.length + F.length) hsel hS E (E.filterMap (l[·]?)) (Array.replicate l.toArray.size false) a (fun j oj _ hl => by rw [getD_replicate_false] at hl; cases hl) (map_filterMap E (fun i hi => by simpa using List.all_eq_true.1 hEs i hi)) hE
  (fun a' h' => rest_any M (M.filterMap (l[·]?)) _ a' _ (map_filterMap M (fun i hi => by simpa using List.all_eq_true.1 hMs i hi)) (fun a'' w'' h'' => free_any F (F.filterMap (l[·]?)) _ a'' w'' (fun _ h => h) (map_filterMap F (fun i hi => by simpa using List.all_eq_true.1 hFs i hi)) hF h'') true rfl (fun _ => midB_spec M _ hM) h') h
 rw [hlen] at h2
 exact h2
theorem early_step {P : Program} {ops : Array Oper} {S : World -> Prop} {next : Act -> Prop} {o : Oper} {es : List Oper} {a : Act} (v : Value) (hg : Region.wanted o (yielded ops a.tmps) = true) (hy : ∀ W,S W -> (execOp a.eval o).run P W = .ok (.value v) W) (h : EarlyW P ops S next es (a.put o.dst v)) : EarlyW P ops S next (o :: es) a :=
 ⟨v,.inl ⟨hg,hy⟩,h⟩
theorem wpList_pushL {P : Program} {w : World} {ops : Array Oper} {rest : List Oper} {o : Oper} {a : Act} {Q : Exit -> Act -> World -> Prop} {t e : TypeId} {z : Value} {size bytes : Nat}
  (sl : Sl P t e z size bytes) (hgd : o.guard = none) (s x : Operand) (ho : o.op = .call { callee := .builtin .append,args := #[s,x],argTypes := #[t,t] })
  (base : Nat) (v : Value) (n : Nat) (xs : List Value) (hs : a.eval s = v) (hown : w.ownsRow base e size v n xs)
  (news : Array Value) (g : Nat) (hx : a.eval x = .slice (some ⟨g,0,none⟩) 1 1) (hg : g = w.heap.size) (hl : news.size = size) (h1 : ∀ u ∈ news.toList,u.oneCell' = true)
  (h63 : n + 1 <= maxLen) (hbytes : (n + 1) * bytes <= 140737488355328) (hbase : base <= w.heap.size)
  (h : ∀ A' cap' w',w'.ownsRow base e size (.slice A' (n + 1) cap') (n + 1) (xs ++ news.toList) -> Below base w w' -> w.grownBy w' v.ownBlock -> (∀ k,(Value.slice A' (n + 1) cap').ownBlock = some k -> v.ownBlock = some k \/ w.heap.size < k) ->
   wpList P ops Q rest (a.put o.dst (.slice A' (n + 1) cap')) w') :
  wpList P ops Q (o :: rest) a (w.alloc (.cells news e)) := by
 subst hg
 obtain ⟨i,hi,hz0,hz1,hz2⟩ := info_parts sl.info
 refine wpList_append_own_at _ hgd s x t ho base e i z size bytes sl.slice hi hz0 hz1 hz2 sl.cells sl.pos v n xs hs (hown.alloc _) ⟨w.heap.size,0,none⟩ 1 1 news.toList hx (by simpa using hl) (cells_new w news e) h1 h63 hbytes (by simp; omega) ?_
 intro v' w' h2 h3 _ h5
 obtain ⟨A,cap,rfl,_⟩ := own_form h2
 refine h A cap w' h2 (((Below.refl _ _).alloc hbase _).grown h3 (by simp; omega) fun k hk => (hown.lt k hk).1) (gr_below_first ((Below.refl _ _).alloc (Nat.le_refl _) _) h3) (fun k hk => ?_)
 rcases h5 with h5 | h5
 ·exact .inl (h5 ▸ hk)
 ·right
  rw [hk] at h5
  injection h5 with h5
  rw [h5]
  simp
def iv (l : List Int) : List Value := l.map (Value.int .i64)
theorem iv_length (l : List Int) : (iv l).length = l.length := by simp [iv]
theorem iv_append (l k : List Int) : iv (l ++ k) = iv l ++ iv k := by simp [iv]
theorem iv_get (l : List Int) (k : Nat) (hk : k < l.length) : (iv l)[k]? = some (.int .i64 l[k]) := by simp [iv,hk]
theorem iv_one (l : List Int) : ∀ u ∈ iv l,u.oneCell' = true := by
 intro u hu
 unfold iv at hu
 simp only [List.mem_map] at hu
 obtain ⟨x,_,rfl⟩ := hu
 rfl
theorem iv_set (l : List Int) (k : Nat) (x : Int) : (iv l).set k (.int .i64 x) = iv (l.set k x) := by simp [iv,List.map_set]
theorem iv_at {w : World} {A : Option Addr} {n k : Nat} {l : List Int} (hl : l.length = n) (h : Rd w 1 A n (iv l)) (hk : k < n) : ∃ b o x,A = some ⟨b,o,none⟩ /\ b < w.heap.size /\ l[k]? = some x /\ w.cell? ⟨b,o + k,none⟩ = some (.int .i64 x) := by
 obtain ⟨b,o,e,hb,hc⟩ := h.2 (by omega)
 have hk' : k < l.length := by omega
 exact ⟨b,o,l[k],e,hb,List.getElem?_eq_getElem hk',hc _ _ (iv_get l k hk')⟩
theorem run_append_nil {P : Program} (w : World) (base : Nat) (t ty e : TypeId) (i : TypeInfo) (size : Nat) (ht : P.underlying t = some (.slice e)) (hi : P.info? e = some i)
  (v : Value) (n : Nat) (xs : List Value) (hown : w.ownsRow base e size v n xs) (c : Nat) : (Builtin.append_ #[t,t] ty #[v,.slice none 0 c]).run P w = .ok v w := by
 rcases hown.2 with ⟨rfl,rfl⟩ | ⟨g,cap,cur,rfl,_,_,hnc,_⟩
 ·simp [Builtin.append_,run_underlying ht,sizeOf,typeInfo,hi,Builtin.lenOf,Builtin.firstCells]
 ·simp [Builtin.append_,run_underlying ht,sizeOf,typeInfo,hi,Builtin.lenOf,Builtin.firstCells,hnc,storeCells]
theorem wpList_appendAll {P : Program} {w : World} {ops : Array Oper} {rest : List Oper} {o : Oper} {a : Act} {Q : Exit -> Act -> World -> Prop} {t e : TypeId} {z : Value} {size bytes : Nat}
  (sl : Sl P t e z size bytes) (hgd : o.guard = none) (s x : Operand) (ho : o.op = .call { callee := .builtin .append,args := #[s,x],argTypes := #[t,t] })
  (base : Nat) (v : Value) (n : Nat) (xs : List Value) (hs : a.eval s = v) (hown : w.ownsRow base e size v n xs)
  (A : Option Addr) (m c : Nat) (news : List Value) (hx : a.eval x = .slice A m c) (hr : Rd w size A m news) (h1 : ∀ u ∈ news,u.oneCell' = true)
  (h63 : n + m <= maxLen) (hbytes : (n + m) * bytes <= 140737488355328) (hbase : base <= w.heap.size)
  (h : ∀ A' cap' w',w'.ownsRow base e size (.slice A' (n + m) cap') (n + m) (xs ++ news) -> Below base w w' -> wpList P ops Q rest (a.put o.dst (.slice A' (n + m) cap')) w') :
  wpList P ops Q (o :: rest) a w := by
 obtain ⟨i,hi,hz0,hz1,hz2⟩ := info_parts sl.info
 rcases A with _ | ad
 ·have hm : m = 0 := by
   rcases Nat.eq_zero_or_pos m with h0 | h0
   ·exact h0
   ·obtain ⟨b,o,h,_⟩ := hr.2 h0
    cases h
  subst hm
  have hn : news = [] := List.eq_nil_of_length_eq_zero (by simpa using hr.1)
  subst hn
  refine wpList_plain hgd fun K hK => ?_
  have hrun := run_append_nil (P := P) w base t o.type e i size sl.slice hi v n xs hown c
  unfold Oper.wp execOp
  simp only [ho,resolve,invoke,builtin,Sem.run_bind,Sem.run_pure,Result.andThen_ok,List.map_toArray,List.map_cons,List.map_nil,hs,hx,hrun]
  obtain ⟨A,cap,rfl,_⟩ := own_form hown
  exact hK _ _ (h A cap w (by simpa using hown) (Below.refl _ _))
 ·refine wpList_append_own _ hgd s x t ho base e i z size bytes sl.slice hi hz0 hz1 hz2 sl.cells sl.pos v n xs hs hown ad m c news hx hr.1 ?_ h1 h63 hbytes hbase ?_
  ·intro j u hu
   rcases Nat.eq_zero_or_pos m with h0 | h0
   ·subst h0
    have hn : news = [] := List.eq_nil_of_length_eq_zero (by simpa using hr.1)
    subst hn
    simp at hu
   ·obtain ⟨b,o',h,_,hc⟩ := hr.2 h0
    injection h with h
    subst h
    rw [show ((⟨b,o',none⟩ : Addr).add j) = ⟨b,o' + j,none⟩ by unfold Addr.add; by_cases hj : j = 0 <;> simp [hj]]
    exact hc j u hu
  ·intro v' w' h2 h3 _
   obtain ⟨A,cap,rfl,_⟩ := own_form h2
   exact h A cap w' h2 ((Below.refl _ _).grown h3 hbase fun k hk => (hown.lt k hk).1)
def hs1 (h x : Int) : Int := IntKind.u64.wrap (IntKind.u64.wrap (h + IntKind.u64.wrap x) * 1099511628211)
def addAt (xs : List Int) (o : Nat) (ys : List Int) (k : Nat) : List Int := xs.mapIdx fun i x => if o <= i /\ i < o + k then wrap64 (x + ys.getD (i - o) 0) else x
theorem addAt_length (xs : List Int) (o : Nat) (ys : List Int) (k : Nat) : (addAt xs o ys k).length = xs.length := by simp [addAt]
theorem addAt_get (xs : List Int) (o : Nat) (ys : List Int) (k i : Nat) : (addAt xs o ys k)[i]? = xs[i]?.map fun x => if o <= i /\ i < o + k then wrap64 (x + ys.getD (i - o) 0) else x := by simp [addAt]
theorem addAt_zero (xs : List Int) (o : Nat) (ys : List Int) : addAt xs o ys 0 = xs := by
 apply List.ext_getElem?
 intro i
 rw [addAt_get]
 cases xs[i]? with
 | none => rfl
 | some x => simp; omega
theorem addAt_next (xs : List Int) (o : Nat) (ys : List Int) (k : Nat) (x y : Int) (hx : xs[o + k]? = some x) (hy : ys[k]? = some y) : (addAt xs o ys k).set (o + k) (wrap64 (x + y)) = addAt xs o ys (k + 1) := by
 apply List.ext_getElem?
 intro i
 rw [List.getElem?_set,addAt_get,addAt_get]
 by_cases e : o + k = i
 ·subst e
  have hlt : o + k < xs.length := (List.getElem?_eq_some_iff.1 hx).1
  rw [if_pos rfl,if_pos (by rw [addAt_length]; exact hlt),hx]
  simp [hy]
 ·rw [if_neg e]
  cases xs[i]? with
  | none => rfl
  | some x =>
   simp only [Option.map_some]
   congr 1
   by_cases h1 : o <= i /\ i < o + k
   ·rw [if_pos h1,if_pos (by omega)]
   ·rw [if_neg h1,if_neg (by omega)]
theorem addAt_at (xs : List Int) (o : Nat) (ys : List Int) (k : Nat) (x : Int) (hx : xs[o + k]? = some x) : (addAt xs o ys k)[o + k]? = some x := by
 rw [addAt_get,hx]
 simp
def addL (xs ys : List Int) : List Int := addAt xs 0 ys xs.length
def sumFrom (acc : List Int) : List (List Int) -> Option (List Int)
 | [] => some acc
 | z :: zs => if z.length = acc.length then sumFrom (addL acc z) zs else none
def sumL : List (List Int) -> Option (List Int)
 | [] => some []
 | z :: zs => sumFrom z zs
theorem addL_length (x y : List Int) : (addL x y).length = x.length := addAt_length _ _ _ _
theorem sumFrom_step (acc : List Int) (zs : List (List Int)) (k : Nat) (z : List Int) (h : zs[k]? = some z) (hl : z.length = acc.length) : sumFrom acc (zs.drop k) = sumFrom (addL acc z) (zs.drop (k + 1)) := by
 obtain ⟨hk,hz⟩ := List.getElem?_eq_some_iff.1 h
 rw [List.drop_eq_getElem_cons hk,hz]
 simp only [sumFrom]
 rw [if_pos hl]
theorem sumFrom_stop (acc : List Int) (zs : List (List Int)) (k : Nat) (z : List Int) (h : zs[k]? = some z) (hl : z.length ≠ acc.length) : sumFrom acc (zs.drop k) = none := by
 obtain ⟨hk,hz⟩ := List.getElem?_eq_some_iff.1 h
 rw [List.drop_eq_getElem_cons hk,hz]
 simp only [sumFrom]
 rw [if_neg hl]
theorem sumFrom_end (acc : List Int) (zs : List (List Int)) (k : Nat) (h : zs.length <= k) : sumFrom acc (zs.drop k) = some acc := by
 rw [List.drop_eq_nil_of_le h]
 rfl
theorem sumL_first (zs : List (List Int)) (z : List Int) (h : zs[0]? = some z) : sumL zs = sumFrom z (zs.drop 1) := by
 cases zs with
 | nil => simp at h
 | cons a l =>
  simp at h
  subst h
  rfl
def slv (s : Option Addr × Nat × Nat) : Value := .slice s.1 s.2.1 s.2.2
def RdV (w : World) (ss : List (Option Addr × Nat × Nat)) (zs : List (List Int)) : Prop :=
 ss.length = zs.length /\ ∀ (i : Nat) (s : Option Addr × Nat × Nat) (z : List Int),ss[i]? = some s -> zs[i]? = some z -> z.length = s.2.1 /\ Rd w 1 s.1 s.2.1 (iv z)
theorem sv_at {w : World} {A : Option Addr} {n k : Nat} {ss : List (Option Addr × Nat × Nat)} {zs : List (List Int)} (hl : ss.length = n) (h : Rd w 1 A n (ss.map slv)) (hv : RdV w ss zs) (hk : k < n) :
  ∃ b o As ns cs z,A = some ⟨b,o,none⟩ /\ b < w.heap.size /\ ss[k]? = some (As,ns,cs) /\ zs[k]? = some z /\ w.cell? ⟨b,o + k,none⟩ = some (.slice As ns cs) /\ z.length = ns /\ Rd w 1 As ns (iv z) := by
 obtain ⟨b,o,e,hb,hc⟩ := h.2 (by omega)
 have hks : k < ss.length := by omega
 have hkz : k < zs.length := by rw [<- hv.1]; omega
 have h1 := hc k (slv ss[k]) (by simp [hks])
 have h2 := hv.2 k _ _ (List.getElem?_eq_getElem hks) (List.getElem?_eq_getElem hkz)
 exact ⟨b,o,ss[k].1,ss[k].2.1,ss[k].2.2,zs[k],e,hb,List.getElem?_eq_getElem hks,List.getElem?_eq_getElem hkz,h1,h2.1,h2.2⟩
abbrev RAct := (Bool × Bool) × (Int × Int × Int × Int × Int) × (Int × Int)
def actV (a : RAct) : List Value := [.bool a.1.1,.bool a.1.2,.int .i64 a.2.1.1,.int .i64 a.2.1.2.1,.int .i64 a.2.1.2.2.1,.int .i64 a.2.1.2.2.2.1,.int .i64 a.2.1.2.2.2.2,.int .i64 a.2.2.1,.int .i64 a.2.2.2]
def acts (l : List RAct) : List Value := l.flatMap actV
theorem acts_nil : acts [] = [] := rfl
theorem acts_append (l k : List RAct) : acts (l ++ k) = acts l ++ acts k := by simp [acts]
theorem acts_one (a : RAct) : acts [a] = actV a := by simp [acts]
theorem acts_cons (a : RAct) (l : List RAct) : acts (a :: l) = actV a ++ acts l := by simp [acts]
theorem actV_length (a : RAct) : (actV a).length = 9 := rfl
theorem acts_length (l : List RAct) : (acts l).length = l.length * 9 := by
 induction l with
 | nil => rfl
 | cons a l ih => rw [acts_cons,List.length_append,actV_length,ih,List.length_cons]; omega
theorem acts_get (l : List RAct) (k : Nat) (a : RAct) (h : l[k]? = some a) (j : Nat) (hj : j < 9) : (acts l)[k * 9 + j]? = (actV a)[j]? := by
 induction l generalizing k with
 | nil => simp at h
 | cons b l ih =>
  rw [acts_cons]
  cases k with
  | zero =>
   simp at h
   subst h
   rw [Nat.zero_mul,Nat.zero_add,List.getElem?_append_left (by rw [actV_length]; exact hj)]
  | succ k =>
   rw [List.getElem?_append_right (by rw [actV_length]; omega),actV_length,show (k + 1) * 9 + j - 9 = k * 9 + j by omega]
   exact ih k (by simpa using h)
theorem actV_cells (a : RAct) : ∀ u ∈ (actV a).toArray.toList,u.oneCell' = true := by
 intro u hu
 simp only [actV,List.mem_cons,List.not_mem_nil,or_false] at hu
 rcases hu with rfl | rfl | rfl | rfl | rfl | rfl | rfl | rfl | rfl <;> rfl
theorem act_cells {w : World} {A : Option Addr} {n k : Nat} {l : List RAct} (hl : l.length = n) (h : Rd w 9 A n (acts l)) (hk : k < n) :
  ∃ b o sd ad s bu p r i x y,A = some ⟨b,o,none⟩ /\ b < w.heap.size /\ l[k]? = some ((sd,ad),(s,bu,p,r,i),(x,y)) /\
   w.cell? ⟨b,o + k * 9,none⟩ = some (.bool sd) /\ w.cell? ⟨b,o + k * 9 + 1,none⟩ = some (.bool ad) /\ w.cell? ⟨b,o + k * 9 + 2,none⟩ = some (.int .i64 s) /\ w.cell? ⟨b,o + k * 9 + 3,none⟩ = some (.int .i64 bu) /\ w.cell? ⟨b,o + k * 9 + 4,none⟩ = some (.int .i64 p) /\
   w.cell? ⟨b,o + k * 9 + 5,none⟩ = some (.int .i64 r) /\ w.cell? ⟨b,o + k * 9 + 6,none⟩ = some (.int .i64 i) /\ w.cell? ⟨b,o + k * 9 + 7,none⟩ = some (.int .i64 x) /\ w.cell? ⟨b,o + k * 9 + 8,none⟩ = some (.int .i64 y) := by
 obtain ⟨b,o,e,hb,hc⟩ := h.2 (by omega)
 obtain ⟨⟨⟨sd,ad⟩,⟨s,bu,p,r,i⟩,x,y⟩,ha⟩ : ∃ a,l[k]? = some a := ⟨_,List.getElem?_eq_getElem (by omega)⟩
 have g := fun j hj => acts_get l k _ ha j hj
 refine ⟨b,o,sd,ad,s,bu,p,r,i,x,y,e,hb,ha,?_,?_,?_,?_,?_,?_,?_,?_,?_⟩
 ·exact hc _ _ (g 0 (by omega))
 ·rw [Nat.add_assoc]; exact hc _ _ (g 1 (by omega))
 ·rw [Nat.add_assoc]; exact hc _ _ (g 2 (by omega))
 ·rw [Nat.add_assoc]; exact hc _ _ (g 3 (by omega))
 ·rw [Nat.add_assoc]; exact hc _ _ (g 4 (by omega))
 ·rw [Nat.add_assoc]; exact hc _ _ (g 5 (by omega))
 ·rw [Nat.add_assoc]; exact hc _ _ (g 6 (by omega))
 ·rw [Nat.add_assoc]; exact hc _ _ (g 7 (by omega))
 ·rw [Nat.add_assoc]; exact hc _ _ (g 8 (by omega))
def rdAt (s b p r : Int) (xs ys : List (Int × Int)) (i : Nat) : List RAct :=
 (match xs[i]? with | some x => [((true,false),(s,b,p,r,(i : Int)),x)] | none => []) ++ (match ys[i]? with | some y => [((false,decide (p = 0)),(s,b,p,r,(i : Int)),y)] | none => [])
def rdTo (s b p r : Int) (xs ys : List (Int × Int)) (k : Nat) : List RAct := (List.range k).flatMap (rdAt s b p r xs ys)
def roundL (s b p r : Int) (xs ys : List (Int × Int)) : List RAct := rdTo s b p r xs ys (max xs.length ys.length)
theorem rdTo_succ (s b p r : Int) (xs ys : List (Int × Int)) (k : Nat) : rdTo s b p r xs ys (k + 1) = rdTo s b p r xs ys k ++ rdAt s b p r xs ys k := by simp [rdTo,List.range_succ]
theorem rdAt_le (s b p r : Int) (xs ys : List (Int × Int)) (i : Nat) : (rdAt s b p r xs ys i).length <= 2 := by
 unfold rdAt
 split <;> split <;> simp
theorem rdTo_le (s b p r : Int) (xs ys : List (Int × Int)) (k : Nat) : (rdTo s b p r xs ys k).length <= 2 * k := by
 induction k with
 | zero => simp [rdTo]
 | succ k ih =>
  rw [rdTo_succ,List.length_append]
  have := rdAt_le s b p r xs ys k
  omega
abbrev RItem := (Int × Int × Int) × RAct
def itemV (x : RItem) : List Value := [.int .i64 x.1.1,.int .i64 x.1.2.1,.int .i64 x.1.2.2] ++ actV x.2
def itemsV (l : List RItem) : List Value := l.flatMap itemV
theorem itemsV_nil : itemsV [] = [] := rfl
theorem itemsV_append (l k : List RItem) : itemsV (l ++ k) = itemsV l ++ itemsV k := by simp [itemsV]
theorem itemsV_one (x : RItem) : itemsV [x] = itemV x := by simp [itemsV]
theorem itemV_cells (x : RItem) : ∀ u ∈ (itemV x).toArray.toList,u.oneCell' = true := by
 intro u hu
 simp [itemV,actV] at hu
 rcases hu with rfl | rfl | rfl | rfl | rfl | rfl | rfl | rfl | rfl | rfl | rfl | rfl <;> rfl
def Stay (t u : TypeId) (w w' : World) : Prop := ∀ g e cs,e ≠ t -> e ≠ u -> Blk w g e cs -> Blk w' g e cs
theorem Stay.refl (t u : TypeId) (w : World) : Stay t u w w := fun _ _ _ _ _ h => h
theorem Stay.trans {t u : TypeId} {a b c : World} (h : Stay t u a b) (k : Stay t u b c) : Stay t u a c := fun g e cs h1 h2 hb => k g e cs h1 h2 (h g e cs h1 h2 hb)
theorem Stay.of_below {t u : TypeId} {w w' : World} (h : Below w.heap.size w w') : Stay t u w w' := fun g e cs _ _ hb => hb.kept h
theorem Stay.of_own {t u : TypeId} {w w' : World} {base size n : Nat} {v : Value} {xs : List Value} (ho : w.ownsRow base u size v n xs) (h : w.grownBy w' v.ownBlock) : Stay t u w w' := fun g e cs _ h2 hb => hb.other ho h (fun e' => h2 e'.symm)
theorem Stay.of_own' {t u : TypeId} {w w' : World} {base size n : Nat} {v : Value} {xs : List Value} (ho : w.ownsRow base t size v n xs) (h : w.grownBy w' v.ownBlock) : Stay t u w w' := fun g e cs h1 _ hb => hb.other ho h (fun e' => h1 e'.symm)
theorem Stay.of_gr {t u : TypeId} {w w' : World} {b : Nat} {cs' : Array Value} (hb' : Blk w b t cs') (h : w.grownBy w' (some b)) : Stay t u w w' := fun g e cs h1 _ hb => hb.grown h (by simpa using hb.ne_ hb' h1)
theorem Stay.own {t u : TypeId} {w w' : World} (h : Stay t u w w') (hs : w.heap.size <= w'.heap.size) {e : TypeId} {base size n : Nat} {v : Value} {xs : List Value} (ho : w.ownsRow base e size v n xs) (h1 : e ≠ t) (h2 : e ≠ u) : w'.ownsRow base e size v n xs := by
 refine ⟨ho.1,?_⟩
 rcases ho.2 with h3 | ⟨g,cap,cur,rfl,hbg,hh,r⟩
 ·exact .inl h3
 ·exact .inr ⟨g,cap,cur,rfl,hbg,h g e cur h1 h2 hh,r⟩
end
end Go.Proofs.YtkmaeipoaoikpaaGreat
