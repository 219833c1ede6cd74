/- MachL, MachR. -/
import Derived.Test.YtkmaeipoaoikpaaGreatEB25
namespace Go.Proofs.YtkmaeipoaoikpaaGreat
set_option linter.all false
set_option maxRecDepth 100000
set_option maxHeartbeats 4000000
open Lib (hid)
section
open Go.RowKit
variable {F S T : Nat → Prop} {w w' : World} {mb : Nat} {K : MC} {s : MS} {a : MA}
theorem MachIn.setO (h : MachIn F w mb K s a) {opn : List Int} {AO : Option Addr} {cO : Nat} (hb : But (fun i => i = mb \/ blkOf a.AO = some i) w w') (hB : Blk w' mb 121 (machC K { s with opn := opn } { a with AO := AO,cO := cO }))
  (hO : w'.ownsRow 0 3 1 (.slice AO opn.length cO) opn.length (iv opn)) (hnew : ∀ g,blkOf AO = some g -> blkOf a.AO = some g \/ w.heap.size <= g) (hl : opn.length <= 1000000) : MachIn F w' mb K { s with opn := opn } { a with AO := AO,cO := cO } := by
 refine ⟨hB,Hg.imp (h.fz.but hb ?_) (fun W hW => ⟨hW.shp,hW.exs,hW.esl,hW.exr,hW.smp,hW.pln,hW.bks,hW.its,hW.rsl,hW.rsr⟩),
  own_but h.prow hb ?_,own_but h.mrow hb ?_,own_but h.grow hb ?_,own_but h.rrow hb ?_,hO,h.npm,h.npg,h.nmg,?_,fun i hi => Nat.lt_of_lt_of_le (h.fw i hi) hb.size,h.pin,h.min,h.rl,h.nl,h.il,h.cl,hl⟩
 ·rintro i _ hF (e | e)
  ·exact h.nf i (.inl e) hF
  ·exact h.nf i (.inr (.inr (.inr (.inr (.inr e))))) hF
 ·rintro g e (e1 | e1)
  ·exact own_blk_ne h.prow h.blk (by decide) (by rw [e,e1])
  ·exact lnk_own_ne h.prow h.orow (by decide) g e ((own_blkOf _ _ _).trans e1)
 ·rintro g e (e1 | e1)
  ·exact own_blk_ne h.mrow h.blk (by decide) (by rw [e,e1])
  ·exact lnk_own_ne h.mrow h.orow (by decide) g e ((own_blkOf _ _ _).trans e1)
 ·rintro g e (e1 | e1)
  ·exact own_blk_ne h.grow h.blk (by decide) (by rw [e,e1])
  ·exact lnk_own_ne h.grow h.orow (by decide) g e ((own_blkOf _ _ _).trans e1)
 ·rintro g e (e1 | e1)
  ·exact own_blk_ne h.rrow h.blk (by decide) (by rw [e,e1])
  ·exact lnk_own_ne h.rrow h.orow (by decide) g e ((own_blkOf _ _ _).trans e1)
 ·rintro i (hi | hi | hi | hi | hi | hi) hF
  ·exact h.nf i (.inl hi) hF
  ·exact h.nf i (.inr (.inl hi)) hF
  ·exact h.nf i (.inr (.inr (.inl hi))) hF
  ·exact h.nf i (.inr (.inr (.inr (.inl hi)))) hF
  ·exact h.nf i (.inr (.inr (.inr (.inr (.inl hi))))) hF
  ·rcases hnew i hi with h1 | h1
   ·exact h.nf i (.inr (.inr (.inr (.inr (.inr h1))))) hF
   ·have := h.fw i hF
    omega
theorem MachIn.setR (h : MachIn F w mb K s a) {x : StS} {AR : Option Addr} {cR : Nat} (hb : But (fun i => i = mb \/ blkOf a.AR = some i) w w') (hB : Blk w' mb 121 (machC K { s with rcd := s.rcd ++ [(s.P,s.M)] } { a with AR := AR,cR := cR,rs := a.rs ++ [x] }))
  (hR : w'.ownsRow 0 92 2 (.slice AR (s.rcd ++ [(s.P,s.M)]).length cR) (s.rcd ++ [(s.P,s.M)]).length (stv K.NP K.NP (a.rs ++ [x]))) (hnew : ∀ g,blkOf AR = some g -> blkOf a.AR = some g \/ w.heap.size <= g)
  (h1 : w'.ownsRow w.heap.size 2 1 (.slice x.1 K.NP x.2.1) K.NP (iv s.P)) (h2 : w'.ownsRow w.heap.size 2 1 (.slice x.2.2.1 K.NP x.2.2.2) K.NP (iv s.M)) (hl : s.rcd.length < 1000) :
  MachIn (fun i => F i \/ blkOf x.1 = some i \/ blkOf x.2.2.1 = some i) w' mb K { s with rcd := s.rcd ++ [(s.P,s.M)] } { a with AR := AR,cR := cR,rs := a.rs ++ [x] } := by
 have hlt1 : ∀ g,blkOf x.1 = some g -> w.heap.size <= g /\ g < w'.heap.size := fun g hg => h1.lt g ((own_blkOf _ _ _).trans hg)
 have hlt2 : ∀ g,blkOf x.2.2.1 = some g -> w.heap.size <= g /\ g < w'.heap.size := fun g hg => h2.lt g ((own_blkOf _ _ _).trans hg)
 have hF0 : Hg F w' (fun W => FzAt W K s a) := h.fz.but hb (by
  rintro i _ hF (e | e)
  ·exact h.nf i (.inl e) hF
  ·exact h.nf i (.inr (.inr (.inr (.inr (.inl e))))) hF)
 have hF1 : Hg (fun i => F i \/ blkOf x.1 = some i \/ blkOf x.2.2.1 = some i) w' (fun W => FzAt W K { s with rcd := s.rcd ++ [(s.P,s.M)] } { a with AR := AR,cR := cR,rs := a.rs ++ [x] }) := by
  refine Hg.imp (((hF0.mono (T := fun i => F i \/ blkOf x.1 = some i \/ blkOf x.2.2.1 = some i) (fun i _ hi => .inl hi)).and (Hg.own (S := fun i => F i \/ blkOf x.1 = some i \/ blkOf x.2.2.1 = some i) h1 (fun g hg => .inr (.inl ((own_blkOf _ _ _).symm.trans hg))))).and (Hg.own (S := fun i => F i \/ blkOf x.1 = some i \/ blkOf x.2.2.1 = some i) h2 (fun g hg => .inr (.inr ((own_blkOf _ _ _).symm.trans hg))))) ?_
  rintro W ⟨⟨hW,hx1⟩,hx2⟩
  refine ⟨hW.shp,hW.exs,hW.esl,hW.exr,hW.smp,hW.pln,hW.bks,hW.its,?_,?_⟩
  ·simp [hW.rsl]
  ·have hold : OwnS W 0 K.NP K.NP a.rs (recF (s.rcd ++ [(s.P,s.M)])) := by
    intro i y hy
    have hil : i < a.rs.length := (List.getElem?_eq_some_iff.1 hy).1
    have := hW.rsr i y hy
    rw [hW.rsl] at hil
    have e : recF (s.rcd ++ [(s.P,s.M)]) (i + 1) = recF s.rcd (i + 1) := by
     unfold recF
     rw [Nat.add_sub_cancel,List.getD_eq_getElem?_getD,List.getD_eq_getElem?_getD,List.getElem?_append_left hil]
    rw [e]
    exact this
   have e : recF (s.rcd ++ [(s.P,s.M)]) (a.rs.length + 1) = (s.P,s.M) := by
    unfold recF
    rw [Nat.add_sub_cancel,hW.rsl,List.getD_eq_getElem?_getD,List.getElem?_append_right (Nat.le_refl _),Nat.sub_self]
    rfl
   have := hold.snoc (A := x.1) (B := x.2.2.1) (c := x.2.1) (d := x.2.2.2) (by rw [e]; exact own_base hx1 (Nat.zero_le _)) (by rw [e]; exact own_base hx2 (Nat.zero_le _))
   exact this
 refine ⟨hB,hF1,own_but h.prow hb ?_,own_but h.mrow hb ?_,own_but h.grow hb ?_,hR,own_but h.orow hb ?_,h.npm,h.npg,h.nmg,?_,?_,h.pin,h.min,by simp; omega,h.nl,h.il,h.cl,h.ol⟩
 ·rintro g e (e1 | e1)
  ·exact own_blk_ne h.prow h.blk (by decide) (by rw [e,e1])
  ·exact lnk_own_ne h.prow h.rrow (by decide) g e ((own_blkOf _ _ _).trans e1)
 ·rintro g e (e1 | e1)
  ·exact own_blk_ne h.mrow h.blk (by decide) (by rw [e,e1])
  ·exact lnk_own_ne h.mrow h.rrow (by decide) g e ((own_blkOf _ _ _).trans e1)
 ·rintro g e (e1 | e1)
  ·exact own_blk_ne h.grow h.blk (by decide) (by rw [e,e1])
  ·exact lnk_own_ne h.grow h.rrow (by decide) g e ((own_blkOf _ _ _).trans e1)
 ·rintro g e (e1 | e1)
  ·exact own_blk_ne h.orow h.blk (by decide) (by rw [e,e1])
  ·exact lnk_own_ne h.orow h.rrow (by decide) g e ((own_blkOf _ _ _).trans e1)
 ·intro i hi hF
  have hlow : Mu mb a i -> ¬ (F i \/ blkOf x.1 = some i \/ blkOf x.2.2.1 = some i) := by
   rintro hm (hF | hF | hF)
   ·exact h.nf i hm hF
   ·have := h.mu_lt hm
    have := (hlt1 i hF).1
    omega
   ·have := h.mu_lt hm
    have := (hlt2 i hF).1
    omega
  rcases hi with hi | hi | hi | hi | hi | hi
  ·exact hlow (.inl hi) hF
  ·exact hlow (.inr (.inl hi)) hF
  ·exact hlow (.inr (.inr (.inl hi))) hF
  ·exact hlow (.inr (.inr (.inr (.inl hi)))) hF
  ·rcases hnew i hi with h3 | h3
   ·exact hlow (.inr (.inr (.inr (.inr (.inl h3))))) hF
   ·rcases hF with hF | hF | hF
    ·have := h.fw i hF
     omega
    ·exact lnk_own_ne hR h1 (by decide) i ((own_blkOf _ _ _).trans hi) ((own_blkOf _ _ _).trans hF)
    ·exact lnk_own_ne hR h2 (by decide) i ((own_blkOf _ _ _).trans hi) ((own_blkOf _ _ _).trans hF)
  ·exact hlow (.inr (.inr (.inr (.inr (.inr hi))))) hF
 ·rintro i (hi | hi | hi)
  ·exact Nat.lt_of_lt_of_le (h.fw i hi) hb.size
  ·exact (hlt1 i hi).2
  ·exact (hlt2 i hi).2
end
section
open Go.RowKit
theorem machLaunch_any (S : Nat -> Prop) (mb : Nat) (K : MC) (s : MS) (k1 t u : Int) (sd ad : Bool) (j1 j2 j3 j4 j5 j6 j7 : Int) (pl pr : Option Addr) (w : World) (h : MachAt S w mb K s) (hl : s.opn.length < 1000000) :
  Calls Tryz.prog 232 #[.pointer (some ⟨mb,0,none⟩),(.agg (mitC k1 t u sd ad j1 j2 j3 j4 j5 j6 j7)),.agg #[.pointer pl,.pointer pr]] w fun e w' => e = .returned (.int .i64 0) /\ MachAt (fun i => S i \/ w.heap.size <= i) w' mb K { s with opn := s.opn ++ [u] } /\ But S w w' := by
 obtain ⟨F,a,hM,hF,hMu⟩ := h
 have HM := hid hM
 have HF := hid hF
 have HMu := hid hMu
 clear hM hF hMu
 go_enter Tryz.func232,Tryz.ntmps232
 go_wp2_with fail
 obtain ⟨w1,hw1⟩ : ∃ w1,(w.alloc (.cells (mitC k1 t u sd ad j1 j2 j3 j4 j5 j6 j7) 222)).alloc (.cells #[.pointer pl,.pointer pr] 341) = w1 := ⟨_,rfl⟩
 have hb1 : Below w.heap.size w w1 := by rw [<- hw1]; exact ((Below.refl _ _).alloc (Nat.le_refl _) _).alloc (by simp) _
 have hi1 : Blk w1 w.heap.size 222 (mitC k1 t u sd ad j1 j2 j3 j4 j5 j6 j7) := by rw [<- hw1]; exact (Blk.new _ _ _).alloc _
 rw [hw1]
 have HB1 := hid hb1
 have HI1 := hid hi1
 have HM1 := hid (HM.out.below hb1)
 clear hw1 hb1 hi1
 refine wp_region_early (fun W => Blk W mb 121 (machC K s a) /\ Blk W w.heap.size 222 (mitC k1 t u sd ad j1 j2 j3 j4 j5 j6 j7)) [0,1,2,3,4,5,6] [7,8] [9,10,11] (by kernel_rfl) (by kernel_rfl) (⟨HM1.out.blk.drew,HI1.out.drew⟩) ?_
 simp only [List.filterMap_cons,List.filterMap_nil,List.getElem?_cons_succ,List.getElem?_cons_zero]
 refine early_step (.pointer (some ⟨mb,0,none⟩)) rfl (fun W hW => ?_) ?_
 ·obtain ⟨hx,hy⟩ := hW
  have x18 := hx.cell 18
  have y2 := hy.cell 2
  have lx := hx.lt
  have ly := hy.lt
  go_simp
 go_simp
 refine early_step (.pointer (some ⟨mb,0,none⟩)) rfl (fun W hW => ?_) ?_
 ·obtain ⟨hx,hy⟩ := hW
  have x18 := hx.cell 18
  have y2 := hy.cell 2
  have lx := hx.lt
  have ly := hy.lt
  go_simp
 go_simp
 refine early_step (.pointer (some ⟨mb,0,none⟩)) rfl (fun W hW => ?_) ?_
 ·obtain ⟨hx,hy⟩ := hW
  have x18 := hx.cell 18
  have y2 := hy.cell 2
  have lx := hx.lt
  have ly := hy.lt
  go_simp
 go_simp
 refine early_step (.pointer (some ⟨mb,18,none⟩)) rfl (fun W hW => ?_) ?_
 ·obtain ⟨hx,hy⟩ := hW
  have x18 := hx.cell 18
  have y2 := hy.cell 2
  have lx := hx.lt
  have ly := hy.lt
  go_simp
 go_simp
 refine early_step (.slice a.AO s.opn.length a.cO) rfl (fun W hW => ?_) ?_
 ·obtain ⟨hx,hy⟩ := hW
  have x18 := hx.cell 18
  have y2 := hy.cell 2
  have lx := hx.lt
  have ly := hy.lt
  go_simp
 go_simp
 refine early_step (.pointer (some ⟨w.heap.size,2,none⟩)) rfl (fun W hW => ?_) ?_
 ·obtain ⟨hx,hy⟩ := hW
  have x18 := hx.cell 18
  have y2 := hy.cell 2
  have lx := hx.lt
  have ly := hy.lt
  go_simp
 go_simp
 refine early_step (.int .i64 u) rfl (fun W hW => ?_) ?_
 ·obtain ⟨hx,hy⟩ := hW
  have x18 := hx.cell 18
  have y2 := hy.cell 2
  have lx := hx.lt
  have ly := hy.lt
  go_simp
 go_simp
 change RestW _ _ _ _ _ (_ :: _ :: []) _ _
 unfold RestW
 go_wp2_with fail
 refine ⟨⟨HM1.out.blk.drew.alloc _,HI1.out.drew.alloc _⟩,?_⟩
 unfold RestW
 change wpList _ _ _ (_ :: []) _ (w1.drew.alloc (.cells #[.int .i64 u] 3))
 go_wp2_with (at_builtin; go_must (refine wpList_pushL (w := w1.drew) slInt rfl _ _ rfl 0 (.slice a.AO s.opn.length a.cO) s.opn.length (iv s.opn) rfl (show w1.drew.ownsRow 0 3 1 (.slice a.AO s.opn.length a.cO) s.opn.length (iv s.opn) from HM1.out.orow) #[.int .i64 u] w1.drew.heap.size rfl rfl rfl (by intro u hu; simp at hu; subst hu; rfl) (by unfold maxLen; have := HM.out.ol; omega) (by have := HM.out.ol; omega) (Nat.zero_le _) ?_); go_must (intro A' c' wa hown' hb' hgr' hat'))
 have hgr : w1.grownBy wa (Value.slice a.AO s.opn.length a.cO).ownBlock := gr_below_first ((Below.refl w1.heap.size w1).drew) hgr'
 have HX := hid (HM1.out.blk.other HM1.out.orow hgr (by decide))
 have HY := hid (HI1.out.other HM1.out.orow hgr (by decide))
 have HO := hid hown'
 have HGR := hid hgr
 have HAT := hid hat'
 clear hown' hb' hgr' hat' hgr
 refine ⟨⟨HX.out,HY.out⟩,?_⟩
 unfold RestW
 change wpList _ _ _ (_ :: _ :: _ :: []) _ _
 have v18 := HX.out.cell 18
 have f18 := HX.out.frozen 18
 have l18 := HX.out.lt
 go_wp2_with fail
 refine NoPanic.normal ?_
 go_wp2_with fail
 go_ret
 have hg2 := gr_set (p := ⟨mb,18,none⟩) (World.grownBy.refl wa (some mb)) (.inl rfl) (.slice A' (s.opn.length + 1) c')
 have hB2 : Blk (wa.setCell ⟨mb,18,none⟩ (.slice A' (s.opn.length + 1) c')) mb 121 (machC K { s with opn := s.opn ++ [u] } { a with AO := A',cO := c' }) := by
  have := HX.out.set_ 18 (.slice A' (s.opn.length + 1) c')
  simpa [machC] using this
 have hO2 := HO.out.kept hg2 (.inr (own_blk_ne HO.out HX.out (by decide)))
 have hbut : But (fun i => i = mb \/ blkOf a.AO = some i) w1 (wa.setCell ⟨mb,18,none⟩ (.slice A' (s.opn.length + 1) c')) :=
  (But.of_own (S := fun i => i = mb \/ blkOf a.AO = some i) HGR.out (fun g hg => .inr ((own_blkOf _ _ _).symm.trans hg))).trans (But.of_gr hg2 (.inl rfl))
 have e1 : (s.opn ++ [u]).length = s.opn.length + 1 := by simp
 have hm := HM1.out.setO (opn := s.opn ++ [u]) (AO := A') (cO := c') hbut hB2 (by rw [e1]; simpa [iv] using hO2) (fun g hg => by
  rcases HAT.out g ((own_blkOf _ _ _).trans hg) with h1 | h1
  ·exact .inl ((own_blkOf _ _ _).symm.trans h1)
  ·exact .inr (Nat.le_of_lt h1)) (by rw [e1]; omega)
 refine ⟨rfl,⟨F,_,hm,fun i hi => .inl (HF.out i hi),fun i hi => ?_⟩,(But.of_below S HB1.out).trans (hbut.mono (fun i _ hi => ?_))⟩
 ·rcases hi with hi | hi | hi | hi | hi | hi
  ·exact .inl (HMu.out i (.inl hi))
  ·exact .inl (HMu.out i (.inr (.inl hi)))
  ·exact .inl (HMu.out i (.inr (.inr (.inl hi))))
  ·exact .inl (HMu.out i (.inr (.inr (.inr (.inl hi)))))
  ·exact .inl (HMu.out i (.inr (.inr (.inr (.inr (.inl hi))))))
  ·rcases HAT.out i ((own_blkOf _ _ _).trans hi) with h1 | h1
   ·exact .inl (HMu.out i (.inr (.inr (.inr (.inr (.inr ((own_blkOf _ _ _).symm.trans h1)))))))
   ·have h2 : w1.heap.size < i := h1
    have := HB1.out.size
    exact .inr (by omega)
 ·rcases hi with hi | hi
  ·exact HMu.out i (.inl hi)
  ·exact HMu.out i (.inr (.inr (.inr (.inr (.inr hi)))))
def setL (xs : List Value) : Nat -> List Value -> List Value
 | _,[] => xs
 | o,v :: r => setL (xs.set o v) (o + 1) r
theorem setL_eq : ∀ (vs xs : List Value) (o : Nat),o + vs.length <= xs.length -> setL xs o vs = xs.take o ++ (vs ++ xs.drop (o + vs.length))
 | [],xs,o,h => by simp [setL]
 | v :: r,xs,o,h => by
  rw [List.length_cons] at h
  rw [setL,setL_eq r (xs.set o v) (o + 1) (by rw [List.length_set]; omega),List.take_set,List.drop_set,if_pos (by omega)]
  rw [List.set_eq_take_append_cons_drop,if_pos (by rw [List.length_take]; omega),List.take_take,Nat.min_eq_left (by omega),List.drop_eq_nil_of_le (by rw [List.length_take]; omega),List.length_cons,show o + 1 + r.length = o + (r.length + 1) by omega]
  simp
theorem own_setCells {base : Nat} {e : TypeId} {g n c : Nat} : ∀ (vs : List Value) (o : Nat) (w : World) (xs : List Value),w.ownsRow base e 1 (.slice (some ⟨g,0,none⟩) n c) n xs ->
  (w.setCells g o vs).ownsRow base e 1 (.slice (some ⟨g,0,none⟩) n c) n (setL xs o vs) /\ w.grownBy (w.setCells g o vs) (some g)
 | [],o,w,xs,h => ⟨h,World.grownBy.refl _ _⟩
 | v :: r,o,w,xs,h => by
  obtain ⟨h1,h2⟩ := h.stored o v
  obtain ⟨h3,h4⟩ := own_setCells r (o + 1) _ _ h1
  exact ⟨h3,h2.trans h4⟩
theorem lnk_own_none {w : World} {base base' : Nat} {e e' : TypeId} {size size' n n' : Nat} {v v' : Value} {xs xs' : List Value} (h : w.ownsRow base e size v n xs) (h' : w.ownsRow base' e' size' v' n' xs') (hne : e ≠ e') : v.ownBlock = none \/ v.ownBlock ≠ v'.ownBlock := by
 cases hv : v.ownBlock with
 | none => exact .inl rfl
 | some g => exact .inr (fun e => lnk_own_ne h h' hne g hv e.symm)
theorem slState : Sl Tryz.prog 52 92 (.agg #[.slice none 0 0,.slice none 0 0]) 2 48 := ⟨Tryz.underlying52,by kernel_rfl,rfl,by omega⟩
theorem machRecord_any (S : Nat -> Prop) (mb : Nat) (K : MC) (s : MS) (k1 t u : Int) (sd ad : Bool) (j1 j2 j3 j4 j5 j6 j7 : Int) (pl pr : Option Addr) (w : World) (hK : K.Ok) (h : MachAt S w mb K s) (hl : s.rcd.length < 1000) :
  Calls Tryz.prog 236 #[.pointer (some ⟨mb,0,none⟩),(.agg (mitC k1 t u sd ad j1 j2 j3 j4 j5 j6 j7)),.agg #[.pointer pl,.pointer pr]] w fun e w' => e = .returned (.int .i64 0) /\ MachAt (fun i => S i \/ w.heap.size <= i) w' mb K { s with rcd := s.rcd ++ [(s.P,s.M)],G := zeros K.NP } /\ But S w w' := by
 obtain ⟨F,a,hM,hF,hMu⟩ := h
 obtain ⟨lP,lM,lG,lR⟩ := hM.lens
 have HM := hid hM
 have HF := hid hF
 have HMu := hid hMu
 have HK := hid hK
 have HLR := hid hl
 clear hM hF hMu hK hl lR
 go_enter Tryz.func236,Tryz.ntmps236
 go_wp2_with fail
 obtain ⟨w1,hw1⟩ : ∃ w1,(w.alloc (.cells (mitC k1 t u sd ad j1 j2 j3 j4 j5 j6 j7) 222)).alloc (.cells #[.pointer pl,.pointer pr] 341) = w1 := ⟨_,rfl⟩
 have hb1 : Below w.heap.size w w1 := by rw [<- hw1]; exact ((Below.refl _ _).alloc (Nat.le_refl _) _).alloc (by simp) _
 rw [hw1]
 have HB1 := hid hb1
 have HM1 := hid (HM.out.below hb1)
 clear hw1 hb1
 have HC := hid (sgdClone_any (some ⟨a.gp,0,none⟩) (some ⟨a.gm,0,none⟩) K.NP K.NP a.cP a.cM s.P s.M w1.drew lP lM (Rd.of_own (own_drewR HM1.out.prow)) (Rd.of_own (own_drewR HM1.out.mrow)) (by have := HK.out.np; omega) (by have := HK.out.np; omega))
 refine wp_region_early (fun W => Blk W mb 121 (machC K s a)) [0,1,2,3,4,5,6,7,8] [9,10,11] [12,13,14] (by kernel_rfl) (by kernel_rfl) (HM1.out.blk.drew) ?_
 simp only [List.filterMap_cons,List.filterMap_nil,List.getElem?_cons_succ,List.getElem?_cons_zero]
 refine early_step (.pointer (some ⟨mb,0,none⟩)) rfl (fun W hW => ?_) ?_
 ·have x14 := hW.cell 14
  have x11 := hW.cell 11
  have x12 := hW.cell 12
  have lx := hW.lt
  go_simp
 go_simp
 refine early_step (.pointer (some ⟨mb,0,none⟩)) rfl (fun W hW => ?_) ?_
 ·have x14 := hW.cell 14
  have x11 := hW.cell 11
  have x12 := hW.cell 12
  have lx := hW.lt
  go_simp
 go_simp
 refine early_step (.pointer (some ⟨mb,0,none⟩)) rfl (fun W hW => ?_) ?_
 ·have x14 := hW.cell 14
  have x11 := hW.cell 11
  have x12 := hW.cell 12
  have lx := hW.lt
  go_simp
 go_simp
 refine early_step (.pointer (some ⟨mb,14,none⟩)) rfl (fun W hW => ?_) ?_
 ·have x14 := hW.cell 14
  have x11 := hW.cell 11
  have x12 := hW.cell 12
  have lx := hW.lt
  go_simp
 go_simp
 refine early_step (.slice a.AR s.rcd.length a.cR) rfl (fun W hW => ?_) ?_
 ·have x14 := hW.cell 14
  have x11 := hW.cell 11
  have x12 := hW.cell 12
  have lx := hW.lt
  go_simp
 go_simp
 refine early_step (.pointer (some ⟨mb,0,none⟩)) rfl (fun W hW => ?_) ?_
 ·have x14 := hW.cell 14
  have x11 := hW.cell 11
  have x12 := hW.cell 12
  have lx := hW.lt
  go_simp
 go_simp
 refine early_step (.pointer (some ⟨mb,0,none⟩)) rfl (fun W hW => ?_) ?_
 ·have x14 := hW.cell 14
  have x11 := hW.cell 11
  have x12 := hW.cell 12
  have lx := hW.lt
  go_simp
 go_simp
 refine early_step (.pointer (some ⟨mb,11,none⟩)) rfl (fun W hW => ?_) ?_
 ·have x14 := hW.cell 14
  have x11 := hW.cell 11
  have x12 := hW.cell 12
  have lx := hW.lt
  go_simp
 go_simp
 refine early_step (.agg #[.slice (some ⟨a.gp,0,none⟩) K.NP a.cP,.slice (some ⟨a.gm,0,none⟩) K.NP a.cM]) rfl (fun W hW => ?_) ?_
 ·have x14 := hW.cell 14
  have x11 := hW.cell 11
  have x12 := hW.cell 12
  have lx := hW.lt
  go_simp
 go_simp
 change RestW _ _ _ _ _ (_ :: _ :: _ :: []) _ _
 unfold RestW
 go_wp2_with fail
 ((with_reducible refine HC.out.mono ?_); rintro e w2 ⟨AP,cP,AM,cM,rfl,hp2,hm2,hpm,hb2⟩)
 have hb2' : Below w1.heap.size w1 w2 := ((Kept.start w1).call hb2).2.2
 have hp2' : w2.ownsRow w1.heap.size 2 1 (.slice AP K.NP cP) K.NP (iv s.P) := hp2
 have hm2' : w2.ownsRow w1.heap.size 2 1 (.slice AM K.NP cM) K.NP (iv s.M) := hm2
 have HB2 := hid hb2'
 have HP2 := hid hp2'
 have HQ2 := hid hm2'
 have HM2 := hid (HM1.out.below hb2')
 clear hp2 hm2 hpm hb2 hb2' hp2' hm2' HC
 go_wp2_with fail
 refine ⟨HM2.out.blk,?_⟩
 unfold RestW
 change wpList _ _ _ (_ :: []) _ w2
 go_wp2_with fail
 refine ⟨HM2.out.blk.alloc _,?_⟩
 unfold RestW
 change wpList _ _ _ (_ :: []) _ (w2.alloc (.cells #[.slice AP K.NP cP,.slice AM K.NP cM] 92))
 go_wp2_with (at_builtin; go_must (refine wpList_pushL (w := w2) slState rfl _ _ rfl 0 (.slice a.AR s.rcd.length a.cR) s.rcd.length (stv K.NP K.NP a.rs) rfl HM2.out.rrow #[.slice AP K.NP cP,.slice AM K.NP cM] w2.heap.size rfl rfl rfl (by intro u hu; simp at hu; rcases hu with rfl | rfl <;> rfl) (by unfold maxLen; have := HM.out.rl; omega) (by have := HM.out.rl; omega) (Nat.zero_le _) ?_); go_must (intro A' c' wa hown' hb' hgr' hat'))
 have HX := hid (HM2.out.blk.other HM2.out.rrow hgr' (by decide))
 have HP3 := hid (HP2.out.kept hgr' (lnk_own_none HP2.out HM2.out.rrow (by decide)))
 have HQ3 := hid (HQ2.out.kept hgr' (lnk_own_none HQ2.out HM2.out.rrow (by decide)))
 have HO := hid hown'
 have HGR := hid hgr'
 have HAT := hid hat'
 clear hown' hb' hgr' hat'
 refine ⟨HX.out,?_⟩
 unfold RestW
 change wpList _ _ _ (_ :: _ :: _ :: []) _ _
 have v14 := HX.out.cell 14
 have f14 := HX.out.frozen 14
 have l14 := HX.out.lt
 go_wp2_with fail
 refine NoPanic.normal ?_
 have hg2 := gr_set (p := ⟨mb,14,none⟩) (World.grownBy.refl wa (some mb)) (.inl rfl) (.slice A' (s.rcd.length + 1) c')
 have e1 : (s.rcd ++ [(s.P,s.M)]).length = s.rcd.length + 1 := by simp
 have hB2 : Blk (wa.setCell ⟨mb,14,none⟩ (.slice A' (s.rcd.length + 1) c')) mb 121 (machC K { s with rcd := s.rcd ++ [(s.P,s.M)] } { a with AR := A',cR := c',rs := a.rs ++ [(AP,cP,AM,cM)] }) := by
  have := HX.out.set_ 14 (.slice A' (s.rcd.length + 1) c')
  simpa [machC] using this
 have hO2 := HO.out.kept hg2 (.inr (own_blk_ne HO.out HX.out (by decide)))
 have hP2 := HP3.out.kept hg2 (.inr (own_blk_ne HP3.out HX.out (by decide)))
 have hQ2 := HQ3.out.kept hg2 (.inr (own_blk_ne HQ3.out HX.out (by decide)))
 have hbut : But (fun i => i = mb \/ blkOf a.AR = some i) w1 (wa.setCell ⟨mb,14,none⟩ (.slice A' (s.rcd.length + 1) c')) :=
  ((But.of_below (fun i => i = mb \/ blkOf a.AR = some i) HB2.out).trans (But.of_own (S := fun i => i = mb \/ blkOf a.AR = some i) HGR.out (fun g hg => .inr ((own_blkOf _ _ _).symm.trans hg)))).trans (But.of_gr hg2 (.inl rfl))
 have hm := HM1.out.setR (x := (AP,cP,AM,cM)) (AR := A') (cR := c') hbut hB2 (by rw [e1]; simpa [stv] using hO2) (fun g hg => by
  rcases HAT.out g ((own_blkOf _ _ _).trans hg) with h1 | h1
  ·exact .inl ((own_blkOf _ _ _).symm.trans h1)
  ·exact .inr (Nat.le_trans HB2.out.size (Nat.le_of_lt h1))) hP2 hQ2 HLR.out
 obtain ⟨w3,hw3⟩ : ∃ w3,wa.setCell ⟨mb,14,none⟩ (.slice A' (s.rcd.length + 1) c') = w3 := ⟨_,rfl⟩
 rw [hw3] at hm hbut ⊢
 have HM3 := hid hm
 have HB3 := hid hbut
 clear hw3 hm hbut hg2 hB2 hO2 hP2 hQ2 v14 f14 l14 e1
 have m13 : w3.cell? ⟨mb,13,none⟩ = some (.slice (some ⟨a.gg,0,none⟩) K.NP a.cG) := HM3.out.blk.cell 13
 have ml := HM3.out.blk.lt
 have hcl : ∀ ty,(Builtin.clear_ #[74] ty #[.slice (some ⟨a.gg,0,none⟩) K.NP a.cG]).run Tryz.prog w3 = .ok (.tuple #[]) (w3.setCells a.gg 0 (List.replicate K.NP (.int .i64 0))) := fun ty =>
  Lib.run_clear_slice w3 74 2 ty (.int .i64 0) Tryz.underlying74 (fun w => rfl) rfl rfl a.gg 0 K.NP a.cG (by have := HK.out.np1; omega) (fun j hj => by
   have := HM3.out.grow.cellAt j (by omega)
   rw [Nat.zero_add,this,iv,List.getElem?_map,List.getElem?_eq_getElem (by rw [show (_ : List Int).length = K.NP from lG]; exact hj)]
   rfl) (fun j hj => by rw [Nat.zero_add]; exact HM3.out.grow.frozenAt j)
 obtain ⟨hz,hg⟩ := own_setCells (List.replicate K.NP (Value.int .i64 0)) 0 w3 _ HM3.out.grow
 have HZ := hid hz
 have HG := hid hg
 clear hz hg
 go_wp2_with fail
 go_ret
 have hz := HZ.out
 rw [setL_eq _ _ _ (by rw [List.length_replicate,iv_length]; show 0 + K.NP <= s.G.length; omega),List.length_replicate,List.take_zero,List.nil_append,Nat.zero_add,List.drop_eq_nil_of_le (by rw [iv_length]; show s.G.length <= K.NP; omega),List.append_nil] at hz
 have e2 : iv (zeros K.NP) = List.replicate K.NP (Value.int .i64 0) := by simp [iv,zeros]
 have hbg := But.of_gr (S := fun b => b = a.gg) HG.out rfl
 have hm := HM3.out.setG (G' := zeros K.NP) hbg (by rw [e2]; exact hz)
 refine ⟨rfl,⟨_,_,hm,fun i hi => ?_,fun i hi => ?_⟩,((But.of_below S HB1.out).trans (HB3.out.mono (fun i _ hi => ?_))).trans (hbg.mono (fun i _ hi => ?_))⟩
 ·rcases hi with hi | hi | hi
  ·exact .inl (HF.out i hi)
  ·have := (HP2.out.lt i ((own_blkOf _ _ _).trans hi)).1
   exact .inr (Nat.le_trans HB1.out.size this)
  ·have := (HQ2.out.lt i ((own_blkOf _ _ _).trans hi)).1
   exact .inr (Nat.le_trans HB1.out.size this)
 ·rcases hi with hi | hi | hi | hi | hi | hi
  ·exact .inl (HMu.out i (.inl hi))
  ·exact .inl (HMu.out i (.inr (.inl hi)))
  ·exact .inl (HMu.out i (.inr (.inr (.inl hi))))
  ·exact .inl (HMu.out i (.inr (.inr (.inr (.inl hi)))))
  ·rcases HAT.out i ((own_blkOf _ _ _).trans hi) with h1 | h1
   ·exact .inl (HMu.out i (.inr (.inr (.inr (.inr (.inl ((own_blkOf _ _ _).symm.trans h1)))))))
   ·exact .inr (Nat.le_trans HB1.out.size (Nat.le_trans HB2.out.size (Nat.le_of_lt h1)))
  ·exact .inl (HMu.out i (.inr (.inr (.inr (.inr (.inr hi))))))
 ·rcases hi with hi | hi
  ·exact HMu.out i (.inl hi)
  ·exact HMu.out i (.inr (.inr (.inr (.inr (.inl hi)))))
 ·exact HMu.out i (.inr (.inr (.inr (.inl hi))))
end
end Go.Proofs.YtkmaeipoaoikpaaGreat
