/- Net2, MatAlive, MatOuter, MatOuter2. -/
import Derived.Test.YtkmaeipoaoikpaaGreatEB10
namespace Go.Proofs.YtkmaeipoaoikpaaGreat
set_option linter.all false
set_option maxRecDepth 100000
set_option maxHeartbeats 4000000
open Lib (hid)
section
open Go.RowKit
def layZ (l P : List Int) (q : Int) (k : Nat) (x : List Int) : List Int := addAt (mulN (wtL l P k) x q (szN l (k + 1))) 0 (bsL l P k) (szN l (k + 1))
def reluTo (z : List Int) (i : Nat) : List Int := (z.take i).map (fun v => gateV v v) ++ z.drop i
def layA (l : List Int) (n : Nat) (P : List Int) (q : Int) (k : Nat) (x : List Int) : List Int := if k + 1 < n - 1 then (layZ l P q k x).map (fun v => gateV v v) else layZ l P q k x
def trN (l : List Int) (n : Nat) (P : List Int) (q : Int) (x : List Int) : Nat -> List Int
 | 0 => x
 | k + 1 => layA l n P q k (trN l n P q x k)
theorem reluTo_zero (z : List Int) : reluTo z 0 = z := by simp [reluTo]
theorem reluTo_all (z : List Int) (i : Nat) (h : z.length <= i) : reluTo z i = z.map fun v => gateV v v := by simp [reluTo,List.take_of_length_le h,List.drop_eq_nil_of_le h]
theorem reluTo_get {z : List Int} {i : Nat} {v : Int} (h : z[i]? = some v) : (reluTo z i)[i]? = some v := by
 have hl := (List.getElem?_eq_some_iff.1 h).1
 rw [reluTo,List.getElem?_append_right (by simp; omega)]
 simp [Nat.min_eq_left (Nat.le_of_lt hl),h]
theorem reluTo_set {z : List Int} {i : Nat} {v : Int} (h : z[i]? = some v) : (reluTo z i).set i (gateV v v) = reluTo z (i + 1) := by
 obtain ⟨hl,hv⟩ := List.getElem?_eq_some_iff.1 h
 rw [reluTo,List.set_append_right _ _ (by simp; omega),reluTo,List.take_add_one,h]
 have e : i - ((z.take i).map fun v => gateV v v).length = 0 := by simp; omega
 rw [e]
 simp
 rw [List.drop_eq_getElem_cons hl,List.set_cons_zero]
theorem layZ_length (l P : List Int) (q : Int) (k : Nat) (x : List Int) : (layZ l P q k x).length = szN l (k + 1) := by rw [layZ,addAt_length,mulN,natL_length]
theorem layA_length (l : List Int) (n : Nat) (P : List Int) (q : Int) (k : Nat) (x : List Int) : (layA l n P q k x).length = szN l (k + 1) := by
 unfold layA
 split
 ·rw [List.length_map,layZ_length]
 ·exact layZ_length _ _ _ _ _
theorem trN_length {l : List Int} {n : Nat} {P : List Int} {q : Int} {x : List Int} (hx : x.length = szN l 0) : ∀ k,(trN l n P q x k).length = szN l k
 | 0 => hx
 | k + 1 => layA_length _ _ _ _ _ _
theorem layZ_in (l P : List Int) (q : Int) (k : Nat) (x : List Int) : AllIn (layZ l P q k x) := by
 intro v hv
 obtain ⟨i,hi⟩ := List.getElem?_of_mem hv
 rw [layZ,addAt_get] at hi
 obtain ⟨y,hy,rfl⟩ := Option.map_eq_some_iff.1 hi
 have hlt : i < szN l (k + 1) := by
  have := (List.getElem?_eq_some_iff.1 hy).1
  rwa [mulN,natL_length] at this
 rw [if_pos (by omega)]
 exact wrap64_in1 _
theorem gate_in {v : Int} (h : In1 v) : In1 (gateV v v) := by
 unfold gateV
 split
 ·exact h
 ·constructor <;> omega
theorem layA_in (l : List Int) (n : Nat) (P : List Int) (q : Int) (k : Nat) (x : List Int) : AllIn (layA l n P q k x) := by
 unfold layA
 split
 ·intro v hv
  obtain ⟨y,hy,rfl⟩ := List.mem_map.1 hv
  exact gate_in (layZ_in l P q k x y hy)
 ·exact layZ_in _ _ _ _ _
theorem trN_in {l : List Int} {n : Nat} {P : List Int} {q : Int} {x : List Int} (hx : AllIn x) : ∀ k,AllIn (trN l n P q x k)
 | 0 => hx
 | k + 1 => layA_in _ _ _ _ _ _
abbrev Sl3' := Option Addr × Nat × Nat
def TrOk (w : World) (base : Nat) (l : List Int) (F : Nat -> List Int) (ss : List Sl3') : Prop := ∀ j s,ss[j]? = some s -> s.2.1 = szN l j /\ w.ownsRow base 2 1 (slv s) (szN l j) (iv (F j))
theorem TrOk.below {w w' : World} {base : Nat} {l : List Int} {F : Nat -> List Int} {ss : List Sl3'} (h : TrOk w base l F ss) (hb : Below w.heap.size w w') : TrOk w' base l F ss := fun j s hs => ⟨(h j s hs).1,own_below (h j s hs).2 hb⟩
theorem TrOk.stay {t u : TypeId} {w w' : World} {base : Nat} {l : List Int} {F : Nat -> List Int} {ss : List Sl3'} (h : TrOk w base l F ss) (hs : Stay t u w w') (hz : w.heap.size <= w'.heap.size) (h1 : 2 ≠ t) (h2 : 2 ≠ u) : TrOk w' base l F ss :=
 fun j s hj => ⟨(h j s hj).1,hs.own hz (h j s hj).2 h1 h2⟩
theorem TrOk.snoc {w : World} {base : Nat} {l : List Int} {F : Nat -> List Int} {ss : List Sl3'} {A : Option Addr} {c k : Nat} (h : TrOk w base l F ss) (hk : ss.length = k) (hV : w.ownsRow base 2 1 (.slice A (szN l k) c) (szN l k) (iv (F k))) : TrOk w base l F (ss ++ [(A,szN l k,c)]) := by
 subst hk
 intro j s hs
 by_cases hj : j < ss.length
 ·rw [List.getElem?_append_left hj] at hs
  exact h j s hs
 ·have h2 := (List.getElem?_eq_some_iff.1 hs).1
  simp at h2
  obtain rfl : j = ss.length := by omega
  rw [List.getElem?_append_right (by omega)] at hs
  simp at hs
  subst hs
  exact ⟨rfl,hV⟩
theorem slVecS : Sl Tryz.prog 276 74 (.slice none 0 0) 1 24 := ⟨Tryz.underlying276,by kernel_rfl,rfl,by omega⟩
def TraceRet (l : List Int) (n : Nat) (P : List Int) (q : Int) (x : List Int) (w : World) (e : Ending) (w' : World) : Prop :=
 ∃ A c ss,e = .returned (.tuple #[.slice A n c,.bool true]) /\ w'.ownsRow w.heap.size 74 1 (.slice A n c) n (ss.map slv) /\ ss.length = n /\ TrOk w' w.heap.size l (trN l n P q x) ss /\ Below w.heap.size w w'
theorem trAdd_any (g base k c : Nat) (A : Option Addr) (ss : List Sl3') (z : Sl3') (w : World) (hg : Blk w g 276 #[.slice A k c]) (ho : w.ownsRow base 74 1 (.slice A k c) k (ss.map slv)) (hk : k <= 1000) (hb : base <= w.heap.size) :
  Calls Tryz.prog 246 #[.slice z.1 z.2.1 z.2.2,.pointer (some ⟨g,0,none⟩)] w fun e w' => e = .returned (.tuple #[]) /\ ∃ A' c',Blk w' g 276 #[.slice A' (k + 1) c'] /\ w'.ownsRow base 74 1 (.slice A' (k + 1) c') (k + 1) ((ss ++ [z]).map slv) /\ Stay 276 74 w w' /\ w.heap.size <= w'.heap.size /\ (∀ B,B <= base -> B <= g -> Below B w w') := by
 obtain ⟨z1,z2,z3⟩ := z
 have c0 := hg.cell 0
 have lg := hg.lt
 have HG := hid hg
 have HO := hid ho
 clear hg ho
 go_enter Tryz.func246,Tryz.ntmps246
 go_wp2_with (at_builtin; go_must (refine wpList_pushL slVecS rfl _ _ rfl base (.slice A k c) k (ss.map slv) rfl HO.out #[.slice z1 z2 z3] w.heap.size rfl rfl rfl (by intro u hu; simp at hu; subst hu; rfl) (by unfold maxLen; omega) (by omega) hb ?_); go_must (intro A' c' wa hown' hb' hgr' hat'; (have hK := HG.out.other HO.out hgr' (by decide)); (have v0 := hK.cell 0); (have f0 := hK.frozen 0); (have lk := hK.lt); (have HK := hid hK); (have HO2 := hid hown'); (have HB2 := hid hb'); (have HGR := hid hgr'); clear hK hown' hb' hgr' hat' c0))
 go_end0
 have hg2 := gr_set (p := ⟨g,0,none⟩) (World.grownBy.refl wa (some g)) (.inl rfl) (.slice A' (k + 1) c')
 refine ⟨rfl,A',c',by simpa using HK.out.set_ 0 (.slice A' (k + 1) c'),?_,(Stay.of_own (t := 276) HO.out HGR.out).trans (Stay.of_gr HK.out hg2),Nat.le_trans HGR.out.size hg2.size,fun B h1 h2 => ?_⟩
 ·have := HO2.out.kept hg2 (.inr (own_blk_ne HO2.out HK.out (by decide)))
  simpa [slv] using this
 ·exact below_gr (HB2.out.mono h1) (Nat.le_trans (Nat.le_trans h1 hb) HGR.out.size) hg2 h2
theorem new_good (r q n : Nat) (w : World) (hr : 1 <= r /\ r <= 1048576) (hq : 1 <= q /\ q <= 1048576) (hn : n <= 1048576) (he : r * q = n) :
  Calls Tryz.prog 218 #[.int .i64 r,.int .i64 q] w (GridRet w r q n) := by
 obtain ⟨i0,hi0,q0,q1,q2⟩ := info_parts slVec.info
 have HH' := hid (fun (w0 : World) (hw0 : w.alloc (.cells #[.int .i64 0,.int .i64 0,.slice none 0 0] 271) = w0) => (⟨by rw [<- hw0]; exact (Below.refl _ _).alloc (Nat.le_refl _) _,by rw [<- hw0]; exact Blk.new _ _ _⟩ : Below w.heap.size w w0 /\ Blk w0 w.heap.size 271 #[.int .i64 0,.int .i64 0,.slice none 0 0]))
 have C := fun W => sides_any r q W
 rw [show decide (SideP r q) = true from decide_eq_true ⟨by omega,by omega,by omega,by omega⟩] at C
 have HC := hid C
 have he' : IntKind.i64.wrap ((r : Int) * (q : Int)) = (n : Int) := by rw [<- Int.natCast_mul,he]; exact wrap_ok_MatRight _ (by omega) (by omega)
 have he2 : wrap64 ((r : Int) * (q : Int)) = (n : Int) := by rw [<- Int.natCast_mul,he]; exact wrap64_id _ (by omega) (by omega)
 have e5 : decide ((1048576 : Int) < (n : Int)) = false := decide_eq_false (by omega)
 clear C he
 go_enter Tryz.func218,Tryz.ntmps218
 go_wp2_with fail
 ((with_reducible refine (HC.out _).mono ?_); rintro e w1 ⟨rfl,rfl⟩)
 go_wp2_with (at_make; obtain ⟨w0,hw0⟩ : ∃ w0,w.alloc (.cells #[.int .i64 0,.int .i64 0,.slice none 0 0] 271) = w0 := ⟨_,rfl⟩; rw [hw0]; have KD := hid (HH'.out w0 hw0).1; have SD := hid (HH'.out w0 hw0).2; clear hw0; go_must (refine wpList_make_full w0 rfl _ _ _ rfl w0.heap.size 2 i0 (.int .i64 0) 1 slVec.slice hi0 q0 q1 .i64 .i64 _ _ n rfl rfl rfl rfl (by rw [q2]; omega) (by unfold maxLen; omega) (Nat.le_refl _) ?_); go_must (intro w2 hown2 hg2; (have K2 := hid (Below.grown (Below.refl w0.heap.size w0) hg2 (Nat.le_refl _) (by simp))); (have O2 := hid hown2); (have s0 := (SD.out.kept K2.out).cell 0); (have s1 := (SD.out.kept K2.out).cell 1); (have s2 := (SD.out.kept K2.out).cell 2); (have f0 := (SD.out.kept K2.out).frozen 0); (have f1 := (SD.out.kept K2.out).frozen 1); (have f2 := (SD.out.kept K2.out).frozen 2); (have ls := (SD.out.kept K2.out).lt); clear hown2 hg2))
 have S2 := SD.out.kept K2.out
 have hst := set3 S2 (.int .i64 r) (.int .i64 q) (.slice (some ⟨w0.heap.size,0,none⟩) n n)
 have hz := KD.out.size
 have o2 := O2.out
 rw [iv_zeros] at o2
 exact bodyPost_ret (v := .agg #[.int .i64 r,.int .i64 q,.slice (some ⟨w0.heap.size,0,none⟩) n n]) (by simp [results,Tryz.results218,go_sem,s0,s1,s2,ls]) rfl ⟨_,_,rfl,own_base (o2.kept hst.1 (.inr (own_blk_ne o2 S2 (by decide)))) hz,below_gr ((Kept.of KD.out).call K2.out).2.2 (Nat.le_trans hz K2.out.size) hst.1 (Nat.le_refl _)⟩
end
section
open Go.RowKit Go.Shelf
attribute [local go_sem] Oper.semAt_some
def GridOf (w : World) (r q n : Nat) (l : List Int) (en : Ending) (w' : World) : Prop :=
 ∃ A c,en = .returned (.agg #[.int .i64 r,.int .i64 q,.slice A n c]) /\ w'.ownsRow w.heap.size 2 1 (.slice A n c) n (iv l) /\ Below w.heap.size w w'
def selL (n : Nat) (F : Nat -> Int) (P : Nat -> Bool) : List Int := natL n fun i => if P i then F i else 0
theorem selL_length (n : Nat) (F : Nat -> Int) (P : Nat -> Bool) : (selL n F P).length = n := natL_length _ _
theorem selL_none (n : Nat) (F : Nat -> Int) : selL n F (fun _ => false) = zeros n := by
 rw [<- fillL_zero n F]
 exact natL_congr (fun i _ => by simp)
theorem selL_all {n : Nat} {F : Nat -> Int} {P : Nat -> Bool} (h : ∀ i,i < n -> P i = true) : selL n F P = natL n F := natL_congr (fun i hi => by rw [if_pos (h i hi)])
theorem selL_congr {n : Nat} {F : Nat -> Int} {P Q : Nat -> Bool} (h : ∀ i,i < n -> P i = Q i) : selL n F P = selL n F Q := natL_congr (fun i hi => by rw [h i hi])
theorem selL_set {n : Nat} {F : Nat -> Int} {P Q : Nat -> Bool} {k : Nat} (h : k < n) (hq : ∀ i,i < n -> Q i = (P i || i == k)) : (selL n F P).set k (F k) = selL n F Q := by
 apply List.ext_getElem?
 intro i
 rw [List.getElem?_set,selL_length]
 by_cases hi : i < n
 ·rw [selL,selL,natL_get _ _ _ hi,natL_get _ _ _ hi,hq i hi]
  by_cases e : k = i
  ·subst e
   simp [h]
  ·have e2 : (i == k) = false := by simp; omega
   rw [if_neg e,e2,Bool.or_false]
 ·rw [List.getElem?_eq_none (l := selL n F P) (by rw [selL_length]; omega),List.getElem?_eq_none (l := selL n F Q) (by rw [selL_length]; omega),if_neg (by omega)]
def rowsP {R : Nat} (m : Nat) (pre : List (Fin R)) (i : Nat) : Bool := pre.any fun k => k.val == i / m
def rowP {R : Nat} (m : Nat) (pre : List (Fin R)) (k c i : Nat) : Bool := rowsP m pre i || (i / m == k && decide (i % m < c))
theorem rowP_zero {R : Nat} (m : Nat) (pre : List (Fin R)) (k i : Nat) : rowP m pre k 0 i = rowsP m pre i := by simp [rowP]
theorem rowP_all {R m : Nat} (hm : 1 <= m) (pre : List (Fin R)) (k : Fin R) (i : Nat) : rowP m pre k.val m i = rowsP m (pre ++ [k]) i := by
 have h := Nat.mod_lt i (show 0 < m by omega)
 simp [rowP,rowsP,h]
 congr 1
 exact Bool.eq_iff_iff.2 ⟨fun h => by simpa using (of_decide_eq_true h).symm,fun h => by simpa using (of_decide_eq_true h).symm⟩
theorem rowP_next {R m : Nat} (hm : 1 <= m) (pre : List (Fin R)) (k c i : Nat) (hc : c < m) : rowP m pre k (c + 1) i = (rowP m pre k c i || i == k * m + c) := by
 have e : (i == k * m + c) = (i / m == k && i % m == c) := by
  rw [Bool.eq_iff_iff]
  simp only [Bool.and_eq_true,beq_iff_eq]
  constructor
  ·rintro rfl
   exact ⟨row_div k c m hc,row_mod k c m hc⟩
  ·rintro ⟨rfl,rfl⟩
   rw [Nat.mul_comm]
   exact (Nat.div_add_mod i m).symm
 have e2 : decide (i % m < c + 1) = (decide (i % m < c) || i % m == c) := by
  rw [Bool.eq_iff_iff]
  simp only [Bool.or_eq_true,beq_iff_eq,decide_eq_true_eq]
  omega
 rw [e,rowP,rowP,e2,Bool.and_or_distrib_left,Bool.or_assoc]
theorem rowsP_fin {R m i : Nat} (h : i < R * m) (hm : 1 <= m) : rowsP m (List.finRange R) i = true := by
 have h1 : i / m < R := (Nat.div_lt_iff_lt_mul (by omega)).2 h
 unfold rowsP
 rw [List.any_eq_true]
 exact ⟨⟨i / m,h1⟩,List.mem_finRange _,by simp⟩
theorem ownsRow_own {β : Type} (n₀ : Nat) (e : TypeId) (size : Nat) (v : Value) (k : Nat) (f : β -> List Value) : Own (fun s W => W.ownsRow n₀ e size v k (f s)) := by
 intro s X Y row hs hg hrow
 refine hs.kept hg ?_
 rcases hs.2 with ⟨rfl,_⟩ | ⟨g,cap,cur,rfl,_,hgb,_⟩
 ·exact .inl rfl
 ·refine .inr fun e' => ?_
  obtain ⟨o,ho,hc⟩ := hrow g (by rw [<- e']; rfl)
  rw [hgb] at ho
  cases ho
  cases hc
attribute [local go_sem] Oper.semAt_some
theorem own_cells {w : World} {base : Nat} {e : TypeId} {size g n cap : Nat} {xs : List Value} (h : w.ownsRow base e size (.slice (some ⟨g,0,none⟩) n cap) n xs) : ∃ cur,w.heap[g]? = some (.cells cur e (0,0)) := by
 rcases h.2 with ⟨h,_⟩ | ⟨g',cap',cur,h,_,hgb,_⟩
 ·cases h
 ·cases h
  exact ⟨_,hgb⟩
theorem outer_good (n m p : Nat) (A B : Option Addr) (c d : Nat) (ly lx : List Int) (q : Int) (w : World) (hn : 1 <= n /\ n <= 1000) (hm : 1 <= m /\ m <= 1000) (hp : n * m = p) (hp' : 1 <= p /\ p <= 1048576) (hly : ly.length = n) (hlx : lx.length = m)
  (h : Rd w 1 A n (iv ly)) (h' : Rd w 1 B m (iv lx)) (h1 : ∀ v ∈ ly,In1 v) (h2 : ∀ v ∈ lx,In1 v) :
  Calls Tryz.prog 167 #[.slice A n c,.slice B m d,.int .i64 q] w (GridOf w n m p (outN ly lx q)) := by
 have HC := hid (fun W => new_good n m p W (by omega) (by omega) hp'.2 hp)
 have hrt : decide (RightP n m p) = true := decide_eq_true ⟨⟨by omega,by omega,by omega,by omega⟩,by rw [<- hp]; exact Int.natCast_mul n m⟩
 have C2 := fun A c W => right_any n m A p c W (by omega)
 rw [hrt] at C2
 have HC2 := hid C2
 obtain ⟨W0,hW0⟩ : ∃ W0,(((w.alloc (.cells #[.slice A n c] 74)).alloc (.cells #[.slice B m d] 74)).alloc (.cells #[.int .i64 q] 3)).alloc (.cells #[.int .i64 0,.int .i64 0,.slice none 0 0] 271) = W0 := ⟨_,rfl⟩
 have k0 : Below w.heap.size w W0 := by rw [<- hW0]; exact ((((Below.refl _ _).alloc (Nat.le_refl _) _).alloc (by simp) _).alloc (by simp <;> omega) _).alloc (by simp <;> omega) _
 have b0 : Blk W0 w.heap.size 74 #[.slice A n c] := by rw [<- hW0]; exact (((Blk.new _ _ _).alloc _).alloc _).alloc _
 have b1 : Blk W0 (w.heap.size + 1) 74 #[.slice B m d] := by rw [<- hW0]; exact ((Blk.new' _ _ (by simp)).alloc _).alloc _
 have b2 : Blk W0 (w.heap.size + 1 + 1) 3 #[.int .i64 q] := by rw [<- hW0]; exact (Blk.new' _ _ (by simp)).alloc _
 have b3 : Blk W0 (w.heap.size + 1 + 1 + 1) 271 #[.int .i64 0,.int .i64 0,.slice none 0 0] := by rw [<- hW0]; exact Blk.new' _ _ (by simp)
 have a0 : W0.cell? ⟨w.heap.size,0,none⟩ = some (.slice A n c) := b0.cell 0
 have a1 : W0.cell? ⟨w.heap.size + 1,0,none⟩ = some (.slice B m d) := b1.cell 0
 have HW := hid hW0
 have HB0 := hid b0
 have HB1 := hid b1
 have HB2 := hid b2
 have HB3 := hid b3
 have HK := hid k0
 have HRY := hid (h.below k0)
 have HRX := hid (h'.below k0)
 have HLY := hid hly
 have HLX := hid hlx
 have HIN := hid (And.intro h1 h2)
 have HP := hid hp
 have HN := hid hn
 have HM := hid hm
 clear hW0 b0 b1 b2 b3 k0 hrt C2 h h' hly hlx h1 h2 hp hn hm
 refine (callsIn_wide (n := 9)).1 (callsIn_of_wp_marks Tryz.func167 rfl trivial (wpIn_wide.2 ?_) rfl)
 simp only [Tryz.ntmps167,List.size_toArray,List.length_cons,List.length_nil,Nat.reduceAdd,Nat.reduceSub,Array.replicate_succ,Array.replicate_zero,List.push_toArray,List.append_toArray,List.nil_append,List.cons_append]
 go_wp2_with fail
 rw [HW.out]
 go_wp2_with fail
 ((with_reducible refine (HC.out _).mono ?_); rintro e w1 ⟨A',c',rfl,hown,hb1⟩)
 obtain ⟨_,_,q1,q2,q3,q6⟩ := own_form hown
 injection q1 with q4 q5 q7
 subst q4 q7
 obtain ⟨g,rfl,hg0,hg1⟩ := q6 (by omega)
 have k1 := hid hb1
 have HO := hid hown
 clear a0 a1 hb1 hown q6 HW
 go_wp2_with fail
 obtain ⟨W2,hW2⟩ : ∃ W2,w1.alloc (.cells #[.int .i64 n,.int .i64 m,.slice (some ⟨g,0,none⟩) p c'] 271) = W2 := ⟨_,rfl⟩
 rw [hW2]
 have k2 : Below w1.heap.size w1 W2 := by rw [<- hW2]; exact (Below.refl _ _).alloc (Nat.le_refl _) _
 have o2 : Blk W2 w1.heap.size 271 #[.int .i64 n,.int .i64 m,.slice (some ⟨g,0,none⟩) p c'] := by rw [<- hW2]; exact Blk.new _ _ _
 clear hW2
 ((with_reducible refine (HC2.out _ _ _).mono ?_); rintro e w3 ⟨rfl,hb3⟩)
 have o3 := o2.kept hb3
 have k3 : Below w1.heap.size w1 w3 := k2.trans (hb3.mono k2.size)
 have l3 := o3.lt
 have y0 : w3.cell? ⟨w1.heap.size,0,none⟩ = some (.int .i64 n) := o3.cell 0
 have y1 : w3.cell? ⟨w1.heap.size,1,none⟩ = some (.int .i64 m) := o3.cell 1
 have y2 : w3.cell? ⟨w1.heap.size,2,none⟩ = some (.slice (some ⟨g,0,none⟩) p c') := o3.cell 2
 have HO3 := hid o3
 have HK3 := hid k3
 clear hb3 k2 o2 o3 k3
 go_wp2_with fail
 ((with_reducible refine (rows_any n m _ p c' _).mono ?_); rintro e w4 ⟨rfl,hbm,hb4⟩)
 clear y0 y1 y2
 go_wp2_with fail
 have z1 := k1.out.size
 have z3 := HK3.out.size
 have z4 : w3.heap.size < w4.heap.size := hbm.lt
 have K4 : Below W0.heap.size W0 w4 := k1.out.trans ((HK3.out.mono z1).trans (hb4.mono (by omega)))
 have O4 : w4.ownsRow W0.heap.size 2 1 (.slice (some ⟨g,0,none⟩) p c') p (iv (selL p (outF ly lx q) (rowsP m ([] : List (Fin n))))) := by
  have e : selL p (outF ly lx q) (rowsP m ([] : List (Fin n))) = zeros p := selL_none p _
  rw [e]
  exact own_below (own_below HO.out HK3.out) hb4
 have M4 := HO3.out.kept hb4
 have hseq := rows_stops (9 - 1) w3.heap.size n m p c' g 0 (by omega) (by have := HN.out; omega) HM.out.1 HP.out q2 (by have := q3; unfold maxLen at this; omega) (fun b => b = g \/ w4.heap.size <= b) (by omega) _ w4 hbm
 clear hb4 hbm
 refine wpIn_wide.1 (wpIn_rangeFunc_ownH (F := Fence.wide) (n := 9) rfl (by omega) (gf := 255) (lb := #[.pointer (some ⟨w3.heap.size,0,none⟩)]) rfl trivial (enters_of Tryz.func255 (by kernel_rfl) rfl) hseq (fun h k => h.trans k) (butK_b (w := w4) (fun i hi => .inr hi)) (Below.refl _ _) (fun _ => rfl)
  (fun pre W => (W.ownsRow W0.heap.size 2 1 (.slice (some ⟨g,0,none⟩) p c') p (iv (selL p (outF ly lx q) (rowsP m pre))) /\ Blk W w1.heap.size 271 #[.int .i64 n,.int .i64 m,.slice (some ⟨g,0,none⟩) p c']) /\ Below W0.heap.size W0 W)
  (fun _ _ _ => False)
  (OwnFrom.and (OwnFrom.and (Own.from (ownsRow_own W0.heap.size 2 1 (.slice (some ⟨g,0,none⟩) p c') p (fun pre : List (Fin n) => iv (selL p (outF ly lx q) (rowsP m pre)))) _) (fun _ X Y row hs hg hr => Blk.turn hs hg hr)) (ownFrom_below (Nat.le_refl _) K4.size))
  (fun _ _ _ _ _ hs _ _ => hs)
  ⟨⟨O4,M4⟩,K4⟩
  (fun k a' W => a' = { tmps := #[.slice A n c,.slice B m d,.int .i64 q,.pointer (some ⟨w.heap.size,0,none⟩),.pointer (some ⟨w.heap.size + 1,0,none⟩),.pointer (some ⟨w.heap.size + 1 + 1,0,none⟩),.pointer (some ⟨w.heap.size + 1 + 1 + 1,0,none⟩),.pointer (some ⟨w1.heap.size,0,none⟩),.int .i64 k.val,.slice (some ⟨g,k.val * m,none⟩) m m,undef,.slice A n c,.int .i64 n,.slice B m d,.int .i64 m,.agg #[.int .i64 n,.int .i64 m,.slice (some ⟨g,0,none⟩) p c'],.agg #[.int .i64 n,.int .i64 m,.slice (some ⟨g,0,none⟩) p c'],.bool true,.bool false,undef,.agg #[.int .i64 n,.int .i64 m,.slice (some ⟨g,0,none⟩) p c'],.func (.func 255) #[] #[.pointer (some ⟨w3.heap.size,0,none⟩)],.int .i64 k.val,.slice (some ⟨g,k.val * m,none⟩) m m,undef,undef,undef,undef,undef,undef,undef,undef,undef,undef,undef,undef,undef,undef,undef,undef,undef,undef,undef,undef],defers := [] })
  (fun x a' s X Y row hs hg hr => hs) ?assign ?body ?done ?stop)
 case assign =>
  rintro l' pre k W K hI hK
  simp only [encRow]
  gi_wp2_with fail
  exact hK _ _ ((KeepsOthers.refl _).from _) (But.refl _ _) hI rfl
 case body =>
  rintro l' pre k a' W hl3 ⟨r0,hr0⟩ ⟨⟨hown,hblk⟩,hB⟩ rfl hlt
  obtain ⟨b0,hb0⟩ : ∃ b0,k.val * m = b0 := ⟨_,rfl⟩
  obtain ⟨kv,hkv⟩ : ∃ kv,k.val = kv := ⟨_,rfl⟩
  have hkn : kv < n := by rw [<- hkv]; exact k.isLt
  rw [hb0,hkv]
  have HB0' := hid hb0
  have HKV := hid hkv
  have HOW := hid hown
  have HBK := hid hblk
  have HBB := hid hB
  have hmm := HM.out
  have hnn := HN.out
  clear hb0 hkv hown hblk hB hl3 hr0 hlt O4 M4 K4 hseq
  gi_wp2_with fail
  gi_loopw [26] (fun i wr => ∃ j : Nat,j <= m /\ i = .int .i64 j /\ wr.ownsRow W0.heap.size 2 1 (.slice (some ⟨g,0,none⟩) p c') p (iv (selL p (outF ly lx q) (rowP m pre k.val j))) /\ W.grownBy wr (some g)) (fun i _ => m - (intOf i).toNat)
  case atStart => exact ⟨0,by omega,rfl,by rw [selL_congr (fun i _ => rowP_zero m pre k.val i)]; exact HOW.out,World.grownBy.refl _ _⟩
  case round =>
   obtain ⟨j,hj,rfl,ho,hg⟩ := hrel
   by_cases hlt : j < m
   ·have hBr : Below W0.heap.size W0 wr := below_gr HBB.out HBB.out.size hg hg0
    obtain ⟨gy,oy,y,rfl,hbly,hy,cy⟩ := iv_at HLY.out (HRY.out.below hBr) hkn
    obtain ⟨gx,ox,x,rfl,hblx,hx,cx⟩ := iv_at HLX.out (HRX.out.below hBr) hlt
    have x0 : wr.cell? ⟨w.heap.size,0,none⟩ = some (.slice (some ⟨gy,oy,none⟩) n c) := (HB0.out.kept hBr).cell 0
    have x1 : wr.cell? ⟨w.heap.size + 1,0,none⟩ = some (.slice (some ⟨gx,ox,none⟩) m d) := (HB1.out.kept hBr).cell 0
    have x2 : wr.cell? ⟨w.heap.size + 1 + 1,0,none⟩ = some (.int .i64 q) := (HB2.out.kept hBr).cell 0
    have l0 := (HB0.out.kept hBr).lt
    have l1 := (HB1.out.kept hBr).lt
    have l2 := (HB2.out.kept hBr).lt
    have HMU := hid (fun W => mulQ_any y x q W (HIN.out.1 y (List.mem_of_getElem? hy)) (HIN.out.2 x (List.mem_of_getElem? hx)))
    have HOO := hid ho
    have HG := hid hg
    have HY := hid hy
    have HX := hid hx
    have i0 : (0 : Int) <= (kv : Int) := by omega
    have i1 : (kv : Int) < (n : Int) := by omega
    have i2 : (0 : Int) <= (j : Int) := by omega
    have i3 : (j : Int) < (m : Int) := by omega
    clear ho hg hBr hy hx
    gi_wp2_with fail
    refine wpIn_region_mix' wr [] [0,1,2,3,4,5,6,7,8,9,10,11,12] 13 [] (by kernel_rfl) (by kernel_rfl) (by kernel_rfl) (by kernel_rfl) (Kept.of (Below.refl _ _)) ?_
    simp only [PureW,List.filterMap_cons,List.filterMap_nil,List.getElem?_cons_succ,List.getElem?_cons_zero]
    go_simp
    change wpQuiet _ _ _ _ (_ :: _ :: _ :: _ :: _ :: _ :: _ :: _ :: _ :: _ :: _ :: _ :: _ :: []) _
    have KC := fun (u : KW wr) b o h => KW.cells u b o h
    iterate 13 (go_big_quiet_step (first | (go_at_call 205; (with_reducible exact kept_call (HMU.out _)))))
    refine wpQuiet_nil ?_
    rintro ⟨w5,k5⟩
    change wpList _ _ _ (_ :: []) _ _
    dsimp only
    clear KC
    have hO5 := own_below HOO.out k5.2.2
    have hlp : b0 + j < p := by rw [<- HB0'.out,<- HP.out]; exact row_lt k.val j n m k.isLt hlt
    obtain ⟨u,hu⟩ : ∃ u,w5.cell? ⟨g,b0 + j,none⟩ = some u := by
     rw [hO5.cellAt (b0 + j) (by omega),iv_get _ _ (by rw [selL_length]; exact hlp)]
     exact ⟨_,rfl⟩
    have fu := hO5.frozenAt (b0 + j)
    have hlg : g < w5.heap.size := (hO5.lt g rfl).2
    have hst := hO5.stored (b0 + j) (.int .i64 (mulQ y x q))
    have HS := hid hst
    have HK5 := hid k5.2.2
    have hF : outF ly lx q (b0 + j) = mulQ y x q := by
     rw [outF,HLX.out,<- HB0'.out,row_div _ _ _ hlt,row_mod _ _ _ hlt,HKV.out,List.getD_eq_getElem?_getD,HY.out,List.getD_eq_getElem?_getD,HX.out]
     rfl
    have HF := hid hF
    have HLP := hid hlp
    clear hst k5 hO5 hF hlp x0 x1 x2 cy cx
    go_wp2_with fail
    refine NoPanic.normal (NoOut.normal ?_)
    gi_wp2
    go_roundw
    case rel =>
     refine ⟨j + 1,by omega,by go_num,?_,(gr_below_first HK5.out HS.out.2 |> fun h => World.grownBy.trans HG.out h)⟩
     have h3 := HS.out.1
     rw [iv_set,<- HF.out,selL_set (Q := rowP m pre k.val (j + 1)) HLP.out (fun i _ => by rw [<- HB0'.out]; exact rowP_next hmm.1 pre k.val j i hlt),HF.out] at h3
     exact h3
    case measure => simp [intOf]; omega
   ·obtain rfl : j = m := by omega
    gi_wp2
    refine ⟨(KeepsOthers.of_grownBy hg (fun a o e ha => ?_)).from _,But.of_gr hg (.inl rfl),⟨?_,HBK.out.grown hg ?_⟩,below_gr HBB.out HBB.out.size hg hg0⟩
    ·cases e
     obtain ⟨cur,hcur⟩ := own_cells HOW.out
     rw [hcur] at ha
     cases ha
     rfl
    ·rw [selL_congr (fun i _ => rowP_all hmm.1 pre k i)] at ho
     exact ho
    ·intro e
     injection e with e
     omega
 case done =>
  rintro D ys W hD rfl ⟨⟨hown,hblk⟩,hB⟩ hK
  have hc0 : W.cell? ⟨w1.heap.size,0,none⟩ = some (.int .i64 n) := hblk.cell 0
  have hc1 : W.cell? ⟨w1.heap.size,1,none⟩ = some (.int .i64 m) := hblk.cell 1
  have hc2 : W.cell? ⟨w1.heap.size,2,none⟩ = some (.slice (some ⟨g,0,none⟩) p c') := hblk.cell 2
  have hlw := hblk.lt
  have m3 := HB3.out.kept hB
  have t0 : W.cell? ⟨w.heap.size + 1 + 1 + 1,0,none⟩ = some (.int .i64 0) := m3.cell 0
  have t1 : W.cell? ⟨w.heap.size + 1 + 1 + 1,1,none⟩ = some (.int .i64 0) := m3.cell 1
  have t2 : W.cell? ⟨w.heap.size + 1 + 1 + 1,2,none⟩ = some (.slice none 0 0) := m3.cell 2
  have g0 := m3.frozen 0
  have g1 := m3.frozen 1
  have g2 := m3.frozen 2
  have l3' := m3.lt
  have HM3 := hid m3
  have HOW := hid hown
  have HBB := hid hB
  clear hown hB m3 hseq
  go_wp2_with fail
  have hst := set3 HM3.out (.int .i64 n) (.int .i64 m) (.slice (some ⟨g,0,none⟩) p c')
  have hDw : w.heap.size + 1 + 1 + 1 < w4.heap.size := by have := HB3.out.lt; omega
  have hK5 : (((W.setCell ⟨w.heap.size + 1 + 1 + 1,0,none⟩ (.int .i64 n)).setCell ⟨w.heap.size + 1 + 1 + 1,1,none⟩ (.int .i64 m)).setCell ⟨w.heap.size + 1 + 1 + 1,2,none⟩ (.slice (some ⟨g,0,none⟩) p c')).heap[D]? = some (.deferred (some [])) := by
   rw [heap_setCell_other _ _ _ _ (by simp; omega),heap_setCell_other _ _ _ _ (by simp; omega),heap_setCell_other _ _ _ _ (by simp; omega)]
   exact hK
  obtain ⟨W5,hW5⟩ : ∃ W5,((W.setCell ⟨w.heap.size + 1 + 1 + 1,0,none⟩ (.int .i64 n)).setCell ⟨w.heap.size + 1 + 1 + 1,1,none⟩ (.int .i64 m)).setCell ⟨w.heap.size + 1 + 1 + 1,2,none⟩ (.slice (some ⟨g,0,none⟩) p c') = W5 := ⟨_,rfl⟩
  rw [hW5] at hst hK5 ⊢
  refine ⟨by simp,.inl ⟨_,_,rfl,run_takeDeferred hK5,?_⟩⟩
  have hg5 : W5.grownBy (W5.putObj D (.deferred none)) (some D) := grownBy_putObj' W5 D (.deferred none)
  have hb6 : Blk (W5.putObj D (.deferred none)) (w.heap.size + 1 + 1 + 1) 271 #[.int .i64 n,.int .i64 m,.slice (some ⟨g,0,none⟩) p c'] := hst.2.grown hg5 (by simp; omega)
  have hz := HK.out.size
  have ho5 := HOW.out.kept hst.1 (.inr (own_blk_ne HOW.out HM3.out (by decide)))
  have ho6 := ownsRow_putObj ho5 (.deferred none) hK5 rfl
  have e : selL p (outF ly lx q) (rowsP m (List.finRange n)) = outN ly lx q := by
   rw [outN,HLY.out,HLX.out,HP.out]
   exact selL_all (fun i hi => rowsP_fin (by rw [HP.out]; exact hi) HM.out.1)
  rw [e] at ho6
  exact ⟨_,results_cell_row rfl _ _ _ _ _ _ _ rfl hb6 Tryz.underlying271 rfl (by kernel_rfl),_,_,rfl,own_base ho6 hz,(below_gr ((Kept.of HK.out).call HBB.out).2.2 (Nat.le_trans hz HBB.out.size) hst.1 (by omega)).trans ((Below.refl _ _).grown hg5 (Nat.le_trans (Nat.le_trans hz HBB.out.size) hst.1.size) (fun k e => by cases e; omega))⟩
 case stop =>
  rintro D c pre W _ _ h _
  exact h.elim
end
end Go.Proofs.YtkmaeipoaoikpaaGreat
