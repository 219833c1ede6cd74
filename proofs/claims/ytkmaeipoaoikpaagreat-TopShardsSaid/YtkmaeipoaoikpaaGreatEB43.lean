/- Sched, Pick, Done, Finish. -/
import Derived.Test.YtkmaeipoaoikpaaGreatEB42
namespace Go.Proofs.YtkmaeipoaoikpaaGreat
set_option linter.all false
set_option maxRecDepth 100000
set_option maxHeartbeats 4000000
open Lib (hid)
section
open Go.RowKit
theorem one_at {w : World} {base n k c : Nat} {A : Option Addr} {e : TypeId} {l : List Nat} {f : Nat -> Value} {b : Nat} (h : w.ownsRow base e 1 (.slice A n c) n (l.map f)) (hx : l[k]? = some b) (hk : k < n) : ∃ g,A = some ⟨g,0,none⟩ /\ g < w.heap.size /\ w.cell? ⟨g,k,none⟩ = some (f b) := by
 have hr := Rd.of_own h
 obtain ⟨g,o,e',hlt,hc⟩ := hr.2 (by omega)
 obtain ⟨A',cap',hv,_,_,hg⟩ := own_form h
 injection hv with hA _ _
 obtain ⟨g',hg1,_,_⟩ := hg (by omega)
 rw [hA,hg1] at e'
 injection e' with e'
 injection e' with e1 e2
 subst e1 e2
 refine ⟨g',by rw [hA,hg1],hlt,?_⟩
 have := hc k (f b) (by rw [List.getElem?_map,hx]; rfl)
 rwa [Nat.zero_add] at this
theorem schedAt_any {own : Nat -> Nat} {w : World} {xb : Nat} {I : InC} {mbs lbs : List Nat} {mss : List MS} {lss : List LS} {AW : Option Addr} {cW : Nat} {AL : Option Addr} {cL cnt : Nat} (h : WorldIn own w xb I mbs lbs mss lss AW cW AL cL cnt) (n x b li lo : Nat) (hn : mbs.length = n) (hl : lbs.length = n) (hx : x < n) (hn64 : n <= 64) (hb : mbs[x]? = some b) (hi : lbs[(x + n - 1) % n]? = some li) (ho : lbs[x]? = some lo) :
  Calls Tryz.prog 97 #[.pointer (some ⟨xb,0,none⟩),.int .i64 x] w fun e w' => e = .returned (.tuple #[ifV b,ptV li,ptV lo,.bool true]) /\ Below w.heap.size w w' := by
 have x0 := h.blk.cell 0
 have x1 := h.blk.cell 1
 have xl := h.blk.lt
 have hw := h.wrow
 have hr := h.lrow
 rw [hn] at hw x0
 rw [hl] at hr x1
 obtain ⟨gw,rfl,lw,cw⟩ := one_at hw hb hx
 obtain ⟨p,hp⟩ : ∃ p,(x + n - 1) % n = p := ⟨_,rfl⟩
 have hpn : p < n := by rw [<- hp]; exact Nat.mod_lt _ (by omega)
 rw [hp] at hi
 obtain ⟨gl,rfl,lg,ci⟩ := one_at hr hi hpn
 obtain ⟨gl',e',-,co⟩ := one_at hr ho hx
 injection e' with e'
 injection e' with e'
 subst e'
 have g1 : decide ((x : Int) < 0) = false := decide_eq_false (by omega)
 have g2 : decide ((n : Int) <= (x : Int)) = false := decide_eq_false (by omega)
 obtain ⟨s,hs⟩ : ∃ s,x + n = s := ⟨_,rfl⟩
 obtain ⟨s1,hs1⟩ : ∃ s1,x + n - 1 = s1 := ⟨_,rfl⟩
 have w1 : IntKind.i64.wrap ((x : Int) + (n : Int)) = (s : Int) := by rw [show (x : Int) + (n : Int) = (s : Int) by omega]; exact IntWalk.i64_in _ (by omega)
 have w2 : IntKind.i64.wrap ((s : Int) - 1) = (s1 : Int) := by rw [show (s : Int) - 1 = (s1 : Int) by omega]; exact IntWalk.i64_in _ (by omega)
 rw [hs1] at hp
 have hm : (s1 : Int) % (n : Int) = (p : Int) := by rw [<- hp]; exact (Int.natCast_emod s1 n).symm
 have HS := hid hs
 have HS1 := hid hs1
 have HP := hid hp
 have i1 : (0 : Int) <= (x : Int) := by omega
 have i2 : (x : Int) < (n : Int) := by omega
 have i3 : (0 : Int) <= (p : Int) := by omega
 have i4 : (p : Int) < (n : Int) := by omega
 have nz : ¬ (n : Int) = 0 := by omega
 clear h hw hr hn hl hb hi ho hs hs1 hp
 go_enter Tryz.func97,Tryz.ntmps97
 go_wp2_with fail
 go_region
 go_wp2_with fail
 exact bodyPost_ret (v := .tuple #[ifV b,ptV li,ptV lo,.bool true]) (by simp [results,Tryz.results97,go_sem]) rfl ⟨rfl,(Below.refl _ _).drew⟩
theorem invokeDo (b : Nat) (W : World) : (method 544 37 (.pointer (some ⟨b,0,none⟩)) "Do").run Tryz.prog W = .ok (128,.pointer (some ⟨b,0,none⟩)) W := by kernel_rfl
theorem invokeNext (b : Nat) (W : World) : (method 544 37 (.pointer (some ⟨b,0,none⟩)) "Next").run Tryz.prog W = .ok (127,.pointer (some ⟨b,0,none⟩)) W := by kernel_rfl
theorem invokeTrajectory (b : Nat) (W : World) : (method 544 37 (.pointer (some ⟨b,0,none⟩)) "Trajectory").run Tryz.prog W = .ok (56,.pointer (some ⟨b,0,none⟩)) W := by kernel_rfl
theorem WorldIn.setC {own : Nat -> Nat} {w : World} {xb : Nat} {I : InC} {mbs lbs : List Nat} {mss : List MS} {lss : List LS} {AW : Option Addr} {cW : Nat} {AL : Option Addr} {cL cnt : Nat} (h : WorldIn own w xb I mbs lbs mss lss AW cW AL cL cnt) (c : Nat) : WorldIn own (w.setCell ⟨xb,2,none⟩ (.int .i64 c)) xb I mbs lbs mss lss AW cW AL cL c /\ But (fun i => own i ≠ 0) w (w.setCell ⟨xb,2,none⟩ (.int .i64 c)) := by
 have hg2 := gr_set (p := ⟨xb,2,none⟩) (World.grownBy.refl w (some xb)) (.inl rfl) (.int .i64 c)
 refine ⟨⟨by simpa [worldC] using h.blk.set_ 2 (.int .i64 c),h.ox,h.wrow.kept hg2 (.inr (own_blk_ne h.wrow h.blk (by decide))),h.lrow.kept hg2 (.inr (own_blk_ne h.lrow h.blk (by decide))),h.ow,h.ol,h.parts.move hg2.size (fun i hi e => hg2.block i hi (fun e1 => ?_)) (fun _ _ => rfl)⟩,But.of_gr hg2 (by rw [h.ox]; decide)⟩
 injection e1 with e1
 subst e1
 have := h.ox
 omega
structure Steps (own own' : Nat -> Nat) (w w' : World) : Prop where
 old : ∀ i,i < w.heap.size -> own' i = own i
 new : ∀ i,own' i ≠ 0 -> own i ≠ 0 \/ w.heap.size <= i
 but : But (fun i => own i ≠ 0) w w'
theorem schedPick_core {own : Nat -> Nat} {w : World} {xb : Nat} {I : InC} {mbs lbs : List Nat} {mss mss' : List MS} {lss lss' : List LS} {AW : Option Addr} {cW : Nat} {AL : Option Addr} {cL cnt : Nat} (h : WorldIn own w xb I mbs lbs mss lss AW cW AL cL cnt) (n x b li lo : Nat) (hn : mbs.length = n) (hl : lbs.length = n) (hx : x < n) (hn64 : n <= 64) (hb : mbs[x]? = some b) (hi : lbs[(x + n - 1) % n]? = some li) (ho : lbs[x]? = some lo) (hc : cnt < 1000000000000)
  (hdo : ∀ W,Below w.heap.size w W -> Calls Tryz.prog 128 #[.pointer (some ⟨b,0,none⟩),.pointer (some ⟨li,0,none⟩),.pointer (some ⟨lo,0,none⟩)] W fun e w' => e = .returned (.int .i64 0) /\ ∃ own',WorldIn own' w' xb I mbs lbs mss' lss' AW cW AL cL cnt /\ Steps own own' W w') :
  Calls Tryz.prog 71 #[.pointer (some ⟨xb,0,none⟩),.int .i64 x] w fun e w' => e = .returned (.bool true) /\ ∃ own',WorldIn own' w' xb I mbs lbs mss' lss' AW cW AL cL (cnt + 1) /\ (∀ i,own' i ≠ 0 -> own i ≠ 0 \/ w.heap.size <= i) /\ But (fun i => own i ≠ 0) w w' := by
 have HAT := hid (schedAt_any h n x b li lo hn hl hx hn64 hb hi ho)
 have HDO := hid hdo
 have hme := invokeDo b
 have HOX := hid h.ox
 have HC := hid hc
 clear h hdo hb hi ho
 go_enter Tryz.func71,Tryz.ntmps71
 go_wp2_with fail
 ((with_reducible refine HAT.out.mono ?_); rintro e w1 ⟨rfl,hb1⟩)
 have HB1 := hid hb1
 clear hb1
 go_wp2_with fail
 ((with_reducible refine (HDO.out w1 HB1.out).mono ?_); rintro e w2 ⟨rfl,own',hW2,hst2⟩)
 have c2 := hW2.blk.cell 2
 have f2 := hW2.blk.frozen 2
 have l2 := hW2.blk.lt
 obtain ⟨c,hc'⟩ : ∃ c,cnt + 1 = c := ⟨_,rfl⟩
 have hwc : IntKind.i64.wrap ((cnt : Int) + 1) = (c : Int) := by rw [show (cnt : Int) + 1 = (c : Int) by omega]; exact IntWalk.i64_in _ (by have := HC.out; omega)
 have HW2 := hid hW2
 have HS2 := hid hst2
 have HCE := hid hc'
 clear hW2 hst2 hc' hme hc
 go_wp2_with fail
 go_ret
 have hfin := HW2.out.setC c
 rw [HCE.out]
 refine ⟨rfl,own',hfin.1,fun i hi => ?_,?_⟩
 ·rcases HS2.out.new i hi with h1 | h1
  ·exact .inl h1
  ·exact .inr (Nat.le_trans HB1.out.size h1)
 ·refine do_post (S := fun i => own i ≠ 0) ((But.of_below _ HB1.out).trans HS2.out.but) hfin.2 (fun i hi h => ?_)
  rw [<- HS2.out.old i (Nat.lt_of_lt_of_le hi HB1.out.size)]
  exact h
end
section
open Go.RowKit
variable {own : Nat → Nat} {w : World} {xb : Nat} {I : InC} {mbs lbs : List Nat} {mss : List MS} {lss : List LS} {AW : Option Addr} {cW : Nat} {AL : Option Addr} {cL cnt : Nat}
theorem Parts.setM (h : Parts own w I mbs lbs mss lss) {own' : Nat -> Nat} {w' : World} {x b : Nat} {s' : MS} (hb : mbs[x]? = some b) (hs : w.heap.size <= w'.heap.size) (hk : ∀ i,i < w.heap.size -> 2 <= own i -> own i ≠ 2 * x + 2 -> w'.heap[i]? = w.heap[i]?) (hl : ∀ i,i < w.heap.size -> own' i = own i) (hm : MachAt (fun j => own' j = 2 * x + 2) w' b (I.mc x) s') :
  Parts own' w' I mbs lbs (mss.set x s') lss := by
 refine ⟨by rw [List.length_set]; exact h.lm,h.ll,fun i b' s h1 h2 => ?_,fun i b' l h1 h2 => ?_⟩
 ·by_cases hix : i = x
  ·subst hix
   rw [hb] at h1
   injection h1 with h1
   subst h1
   rw [List.getElem?_set_self (by rw [h.lm]; exact (List.getElem?_eq_some_iff.1 hb).1)] at h2
   injection h2 with h2
   subst h2
   exact hm
  ·rw [List.getElem?_set_ne (fun e => hix e.symm)] at h2
   exact ((h.mach i b' s h1 h2).mono (T := fun j => own' j = 2 * i + 2) (fun j hj e => by rw [hl j hj]; exact e)).step hs (fun j hj e => hk j hj (by rw [<- hl j hj,e]; omega) (by rw [<- hl j hj,e]; omega))
 ·exact ((h.link i b' l h1 h2).mono (T := fun j => own' j = 2 * i + 3) (fun j hj e => by rw [hl j hj]; exact e)).step hs (fun j hj e => hk j hj (by rw [<- hl j hj,e]; omega) (by rw [<- hl j hj,e]; omega))
theorem Parts.setML (h : Parts own w I mbs lbs mss lss) {own' : Nat -> Nat} {w' : World} {x y b lb : Nat} {s' : MS} {l' : LS} (hb : mbs[x]? = some b) (hlb : lbs[y]? = some lb) (hs : w.heap.size <= w'.heap.size) (hk : ∀ i,i < w.heap.size -> 2 <= own i -> own i ≠ 2 * x + 2 -> own i ≠ 2 * y + 3 -> w'.heap[i]? = w.heap[i]?) (hl : ∀ i,i < w.heap.size -> own' i = own i) (hm : MachAt (fun j => own' j = 2 * x + 2) w' b (I.mc x) s')
  (hL : LinkAt (fun j => own' j = 2 * y + 3) w' lb I.c.ca.toNat l'.s l'.r l'.q) : Parts own' w' I mbs lbs (mss.set x s') (lss.set y l') := by
 refine ⟨by rw [List.length_set]; exact h.lm,by rw [List.length_set]; exact h.ll,fun i b' s h1 h2 => ?_,fun i b' l h1 h2 => ?_⟩
 ·by_cases hix : i = x
  ·subst hix
   rw [hb] at h1
   injection h1 with h1
   subst h1
   rw [List.getElem?_set_self (by rw [h.lm]; exact (List.getElem?_eq_some_iff.1 hb).1)] at h2
   injection h2 with h2
   subst h2
   exact hm
  ·rw [List.getElem?_set_ne (fun e => hix e.symm)] at h2
   exact ((h.mach i b' s h1 h2).mono (T := fun j => own' j = 2 * i + 2) (fun j hj e => by rw [hl j hj]; exact e)).step hs (fun j hj e => hk j hj (by rw [<- hl j hj,e]; omega) (by rw [<- hl j hj,e]; omega) (by rw [<- hl j hj,e]; omega))
 ·by_cases hiy : i = y
  ·subst hiy
   rw [hlb] at h1
   injection h1 with h1
   subst h1
   rw [List.getElem?_set_self (by rw [h.ll]; exact (List.getElem?_eq_some_iff.1 hlb).1)] at h2
   injection h2 with h2
   subst h2
   exact hL
  ·rw [List.getElem?_set_ne (fun e => hiy e.symm)] at h2
   exact ((h.link i b' l h1 h2).mono (T := fun j => own' j = 2 * i + 3) (fun j hj e => by rw [hl j hj]; exact e)).step hs (fun j hj e => hk j hj (by rw [<- hl j hj,e]; omega) (by rw [<- hl j hj,e]; omega) (by rw [<- hl j hj,e]; omega))
theorem WorldIn.turn (h : WorldIn own w xb I mbs lbs mss lss AW cW AL cL cnt) {own' : Nat -> Nat} {w' : World} {mss' : List MS} {lss' : List LS} (hs : w.heap.size <= w'.heap.size) (hk : ∀ i,i < w.heap.size -> own i = 1 -> w'.heap[i]? = w.heap[i]?) (hl : ∀ i,i < w.heap.size -> own' i = own i) (hp : Parts own' w' I mbs lbs mss' lss') : WorldIn own' w' xb I mbs lbs mss' lss' AW cW AL cL cnt :=
 ⟨(hk xb h.blk.lt h.ox).trans h.blk,(hl xb h.blk.lt).trans h.ox,Hg.own (S := fun i => own i = 1) h.wrow (fun g hg => h.ow g ((own_blkOf _ _ _).symm.trans hg)) w' hs hk,Hg.own (S := fun i => own i = 1) h.lrow (fun g hg => h.ol g ((own_blkOf _ _ _).symm.trans hg)) w' hs hk,
  fun g hg => (hl g (h.wrow.lt g ((own_blkOf _ _ _).trans hg)).2).trans (h.ow g hg),fun g hg => (hl g (h.lrow.lt g ((own_blkOf _ _ _).trans hg)).2).trans (h.ol g hg),hp⟩
def PickRet (own : Nat -> Nat) (w : World) (xb : Nat) (I : InC) (mbs lbs : List Nat) (mss : List MS) (lss : List LS) (AW : Option Addr) (cW : Nat) (AL : Option Addr) (cL cnt : Nat) (e : Ending) (w' : World) : Prop :=
 e = .returned (.bool true) /\ ∃ own',WorldIn own' w' xb I mbs lbs mss lss AW cW AL cL (cnt + 1) /\ (∀ i,own' i ≠ 0 -> own i ≠ 0 \/ w.heap.size <= i) /\ But (fun i => own i ≠ 0) w w'
theorem schedPick_own (h : WorldIn own w xb I mbs lbs mss lss AW cW AL cL cnt) (hO : I.Ok) (n x : Nat) (s : MS) (it : RItem) (hn : mbs.length = n) (hl : lbs.length = n) (hx : x < n) (hn64 : n <= 64) (hxw : (x : Int) < I.c.wk) (hc : cnt < 1000000000000) (hs : mss[x]? = some s) (hi : s.its[s.nx]? = some it) (hk : it.1.1 = 1 \/ it.1.1 = 2 \/ it.1.1 = 5 \/ it.1.1 = 6) (hit : ItemOk (I.mc x) it) (hsm : s.Small) :
  Calls Tryz.prog 71 #[.pointer (some ⟨xb,0,none⟩),.int .i64 x] w (PickRet own w xb I mbs lbs (mss.set x (nextMS (I.mc x) (workMS (I.mc x) s it) it.1.2.1)) lss AW cW AL cL cnt) := by
 obtain ⟨b,hb⟩ : ∃ b,mbs[x]? = some b := ⟨_,List.getElem?_eq_getElem (by omega)⟩
 obtain ⟨li,hli⟩ : ∃ b,lbs[(x + n - 1) % n]? = some b := ⟨_,List.getElem?_eq_getElem (by rw [hl]; exact Nat.mod_lt _ (by omega))⟩
 obtain ⟨lo,hlo⟩ : ∃ b,lbs[x]? = some b := ⟨_,List.getElem?_eq_getElem (by omega)⟩
 refine schedPick_core h n x b li lo hn hl hx hn64 hb hli hlo hc (fun W hW => ?_)
 have hWW := h.below (own' := own) hW (fun _ _ => rfl)
 refine (machDo_own (fun j => own j = 2 * x + 2) b (I.mc x) s it _ _ W (hO.mc hxw) (hWW.parts.mach x b s hb hs) hi hk hit hsm).mono ?_
 rintro e w' ⟨rfl,hm,hbu⟩
 refine ⟨rfl,lab own W.heap.size (2 * x + 2),hWW.turn hbu.size (fun i hi e => hbu.block i hi (fun e2 => by omega)) (lab_old _ _ _) (hWW.parts.setM hb hbu.size (fun i hi _ hne => hbu.block i hi hne) (lab_old _ _ _) (hm.mono (fun i hi hS => ?_))),lab_old _ _ _,fun i hi => ?_,hbu.mono (fun i _ e => by omega)⟩
 ·rcases hS with hS | hS
  ·by_cases hiW : i < W.heap.size
   ·rw [lab_old _ _ _ i hiW]; exact hS
   ·exact lab_new _ _ _ (by omega)
  ·exact lab_new _ _ _ hS
 ·unfold lab at hi
  split at hi
  ·exact .inl hi
  ·exact .inr (by omega)
def lab2 (own : Nat -> Nat) (n m k l : Nat) : Nat -> Nat := fun j => if j < n then own j else if j < m then k else l
theorem lab2_old (own : Nat -> Nat) (n m k l : Nat) : ∀ i,i < n -> lab2 own n m k l i = own i := fun i hi => if_pos hi
theorem lab2_mid (own : Nat -> Nat) {n m k l i : Nat} (h1 : n <= i) (h2 : i < m) : lab2 own n m k l i = k := by unfold lab2; rw [if_neg (by omega),if_pos h2]
theorem lab2_new (own : Nat -> Nat) {n m k l i : Nat} (h1 : n <= i) (h2 : m <= i) : lab2 own n m k l i = l := by unfold lab2; rw [if_neg (by omega),if_neg (by omega)]
theorem schedPick_send (h : WorldIn own w xb I mbs lbs mss lss AW cW AL cL cnt) (hO : I.Ok) (n x : Nat) (s : MS) (l : LS) (it : RItem) (hn : mbs.length = n) (hl : lbs.length = n) (hx : x < n) (hn64 : n <= 64) (hxw : (x : Int) < I.c.wk) (hc : cnt < 1000000000000) (hs : mss[x]? = some s) (hls : lss[x]? = some l) (hi : s.its[s.nx]? = some it) (hk : it.1.1 = 3) (hit : ItemOk (I.mc x) it) (hsm : s.Small) (hroom : l.s - l.r < I.c.ca.toNat) (hs9 : l.s < 1000000000) :
  Calls Tryz.prog 71 #[.pointer (some ⟨xb,0,none⟩),.int .i64 x] w (PickRet own w xb I mbs lbs (mss.set x (nextMS (I.mc x) s it.1.2.1)) (lss.set x ⟨l.s + 1,l.r,l.q ++ [(it.2.2.1,pcL s.G it.2.2.2.1.toNat (it.2.2.2.2 - it.2.2.2.1).toNat)]⟩) AW cW AL cL cnt) := by
 obtain ⟨b,hb⟩ : ∃ b,mbs[x]? = some b := ⟨_,List.getElem?_eq_getElem (by omega)⟩
 obtain ⟨li,hli⟩ : ∃ b,lbs[(x + n - 1) % n]? = some b := ⟨_,List.getElem?_eq_getElem (by rw [hl]; exact Nat.mod_lt _ (by omega))⟩
 obtain ⟨lo,hlo⟩ : ∃ b,lbs[x]? = some b := ⟨_,List.getElem?_eq_getElem (by omega)⟩
 refine schedPick_core h n x b li lo hn hl hx hn64 hb hli hlo hc (fun W hW => ?_)
 have hWW := h.below (own' := own) hW (fun _ _ => rfl)
 refine (machDo_send (fun j => own j = 2 * x + 2 /\ j < W.heap.size) (fun j => own j = 2 * x + 3 /\ j < W.heap.size) b (I.mc x) s it _ lo I.c.ca.toNat l.s l.r l.q W (hO.mc hxw) ((hWW.parts.mach x b s hb hs).mono (fun i hi h => ⟨h,hi⟩)) ((hWW.parts.link x lo l hlo hls).mono (fun i hi h => ⟨h,hi⟩)) (fun i _ h1 h2 => by have := h1.1; have := h2.1; omega) hroom hs9 hi hk hit hsm).mono ?_
 rintro e w' ⟨rfl,B,hB,hm,hL,hbu⟩
 refine ⟨rfl,lab2 own W.heap.size B (2 * x + 3) (2 * x + 2),hWW.turn hbu.size (fun i hi e => hbu.block i hi (fun e2 => by rcases e2 with e2 | e2 <;> have := e2.1 <;> omega)) (lab2_old _ _ _ _ _) (hWW.parts.setML hb hlo hbu.size (fun i hi _ h1 h2 => hbu.block i hi (fun e2 => by rcases e2 with e2 | e2 <;> have := e2.1 <;> omega)) (lab2_old _ _ _ _ _) (hm.mono (fun i hi hS => ?_)) (hL.mono (fun i hi hT => ?_))),lab2_old _ _ _ _ _,fun i hi => ?_,hbu.mono (fun i _ e => by rcases e with e | e <;> have := e.1 <;> omega)⟩
 ·rcases hS with hS | hS
  ·rw [lab2_old _ _ _ _ _ i hS.2]; exact hS.1
  ·exact lab2_new _ (by omega) hS
 ·rcases hT with hT | hT
  ·rw [lab2_old _ _ _ _ _ i hT.2]; exact hT.1
  ·exact lab2_mid _ hT.1 hT.2
 ·unfold lab2 at hi
  split at hi
  ·exact .inl hi
  ·exact .inr (by omega)
theorem schedPick_recv (h : WorldIn own w xb I mbs lbs mss lss AW cW AL cL cnt) (hO : I.Ok) (n x y : Nat) (s : MS) (l : LS) (it : RItem) (vs : List Int) (q : List (TagN × List Int)) (hn : mbs.length = n) (hl : lbs.length = n) (hx : x < n) (hn64 : n <= 64) (hxw : (x : Int) < I.c.wk) (hc : cnt < 1000000000000) (hs : mss[x]? = some s) (hy : (x + n - 1) % n = y) (hls : lss[y]? = some l) (hi : s.its[s.nx]? = some it) (hk : it.1.1 = 4) (hit : ItemOk (I.mc x) it) (hsm : s.Small) (hq : l.q = (it.2.2.1,vs) :: q) (hv : vs.length = (it.2.2.2.2 - it.2.2.2.1).toNat) :
  Calls Tryz.prog 71 #[.pointer (some ⟨xb,0,none⟩),.int .i64 x] w (PickRet own w xb I mbs lbs (mss.set x (nextMS (I.mc x) { s with G := recvG it.2.1.2 s.G it.2.2.2.1.toNat (it.2.2.2.2 - it.2.2.2.1).toNat vs } it.1.2.1)) (lss.set y ⟨l.s,l.r + 1,q⟩) AW cW AL cL cnt) := by
 obtain ⟨b,hb⟩ : ∃ b,mbs[x]? = some b := ⟨_,List.getElem?_eq_getElem (by omega)⟩
 obtain ⟨li,hli⟩ : ∃ b,lbs[(x + n - 1) % n]? = some b := ⟨_,List.getElem?_eq_getElem (by rw [hl]; exact Nat.mod_lt _ (by omega))⟩
 obtain ⟨lo,hlo⟩ : ∃ b,lbs[x]? = some b := ⟨_,List.getElem?_eq_getElem (by omega)⟩
 refine schedPick_core h n x b li lo hn hl hx hn64 hb hli hlo hc (fun W hW => ?_)
 rw [hy] at hli
 have hWW := h.below (own' := own) hW (fun _ _ => rfl)
 have hL0 := hWW.parts.link y li l hli hls
 rw [hq] at hL0
 refine (machDo_recv (fun j => own j = 2 * x + 2 /\ j < W.heap.size) (fun j => own j = 2 * y + 3 /\ j < W.heap.size) b (I.mc x) s it _ li I.c.ca.toNat l.s l.r vs q W (hO.mc hxw) ((hWW.parts.mach x b s hb hs).mono (fun i hi h => ⟨h,hi⟩)) (hL0.mono (fun i hi h => ⟨h,hi⟩)) (fun i _ h1 h2 => by have := h1.1; have := h2.1; omega) hi hk hit hsm hv).mono ?_
 rintro e w' ⟨rfl,B,hB,hm,hL,hbu⟩
 refine ⟨rfl,lab2 own W.heap.size B 0 (2 * x + 2),hWW.turn hbu.size (fun i hi e => hbu.block i hi (fun e2 => by rcases e2 with e2 | e2 <;> have := e2.1 <;> omega)) (lab2_old _ _ _ _ _) (hWW.parts.setML hb hli hbu.size (fun i hi _ h1 h2 => hbu.block i hi (fun e2 => by rcases e2 with e2 | e2 <;> have := e2.1 <;> omega)) (lab2_old _ _ _ _ _) (hm.mono (fun i hi hS => ?_)) (hL.mono (fun i hi hT => ?_))),lab2_old _ _ _ _ _,fun i hi => ?_,hbu.mono (fun i _ e => by rcases e with e | e <;> have := e.1 <;> omega)⟩
 ·rcases hS with hS | hS
  ·rw [lab2_old _ _ _ _ _ i hS.2]; exact hS.1
  ·exact lab2_new _ (by omega) hS
 ·rw [lab2_old _ _ _ _ _ i hT.2]; exact hT.1
 ·unfold lab2 at hi
  split at hi
  ·exact .inl hi
  ·exact .inr (by omega)
end
section
open Go.RowKit
def doneS (s : MS) : Bool := decide (s.its.length <= s.nx)
def doneB (mss : List MS) : Bool := mss.all doneS
theorem doneB_true {mss : List MS} {n : Nat} (hl : mss.length = n) (h : ∀ j s,j < n -> mss[j]? = some s -> doneS s = true) : doneB mss = true := by
 unfold doneB
 rw [List.all_eq_true]
 intro s hs
 obtain ⟨j,hj⟩ := List.getElem?_of_mem hs
 exact h j s (by rw [<- hl]; exact (List.getElem?_eq_some_iff.1 hj).1) hj
theorem doneB_false {mss : List MS} {j : Nat} {s : MS} (h : mss[j]? = some s) (hs : doneS s = false) : doneB mss = false := by
 cases hd : doneB mss with
 | false => rfl
 | true =>
  unfold doneB at hd
  rw [List.all_eq_true] at hd
  have := hd s (List.mem_of_getElem? h)
  rw [hs] at this
  cases this
theorem schedDone_any {own : Nat -> Nat} {w : World} {xb : Nat} {I : InC} {mbs lbs : List Nat} {mss : List MS} {lss : List LS} {AW : Option Addr} {cW : Nat} {AL : Option Addr} {cL cnt : Nat} (h : WorldIn own w xb I mbs lbs mss lss AW cW AL cL cnt) (n : Nat) (hn : mbs.length = n) (hn64 : n <= 64) :
  Calls Tryz.prog 33 #[.pointer (some ⟨xb,0,none⟩)] w fun e w' => e = .returned (.bool (doneB mss)) /\ Below w.heap.size w w' := by
 have HW := hid h
 have HN := hid hn
 have x0 := h.blk.cell 0
 have xl := h.blk.lt
 have hw := h.wrow
 rw [hn] at hw x0
 have HR := hid hw
 clear h hn hw
 go_enter Tryz.func33,Tryz.ntmps33
 go_wp2_with fail
 clear x0 xl
 go_loopw [14] (fun v wr => ∃ i : Nat,i <= n /\ v = .int .i64 i /\ Hid (∀ j s,j < i -> mss[j]? = some s -> doneS s = true) /\ Below w.heap.size w wr) (fun v _ => n - (intOf v).toNat)
 case atStart => exact ⟨0,by omega,rfl,hid (fun j s h => by omega),Below.refl _ _⟩
 case round =>
  obtain ⟨i,hi,rfl,hd,hb⟩ := hrel
  by_cases hlt : i < n
  ·obtain ⟨b,hmb⟩ : ∃ b,mbs[i]? = some b := ⟨_,List.getElem?_eq_getElem (by rw [HN.out]; exact hlt)⟩
   obtain ⟨s,hs⟩ : ∃ s,mss[i]? = some s := ⟨_,List.getElem?_eq_getElem (by rw [HW.out.parts.lm,HN.out]; exact hlt)⟩
   obtain ⟨g,rfl,lg,cg⟩ := one_at (own_below HR.out hb) hmb hlt
   obtain ⟨F,a,hM,-,-⟩ := (HW.out.below (own' := own) hb (fun _ _ => rfl)).parts.mach i b s hmb hs
   have hme := invokeNext b
   have HM := hid hM
   have HS := hid hs
   have HB := hid hb
   have r1 : (0 : Int) <= (i : Int) := by omega
   have r2 : (i : Int) < (n : Int) := by omega
   clear hM hs hmb hb
   by_cases hdn : s.its.length <= s.nx
   ·have HC := hid (machNext_none F b (I.mc i) s a wr HM.out hdn)
    have HD : Hid (doneS s = true) := hid (decide_eq_true hdn)
    clear hdn
    go_wp2_with fail
    ((with_reducible refine HC.out.mono ?_); rintro e w1 ⟨rfl,hb1⟩)
    have HB1 := hid (HB.out.trans (hb1.mono HB.out.size))
    clear hb1
    go_wp2_with fail
    go_roundw
    case rel =>
     refine ⟨i + 1,by omega,by go_num,hid (fun j s' hj hs' => ?_),HB1.out.alloc HB1.out.size _⟩
     by_cases hji : j < i
     ·exact hd.out j s' hji hs'
     ·obtain rfl : j = i := by omega
      rw [HS.out] at hs'
      injection hs' with hs'
      rw [<- hs']
      exact HD.out
    case measure => simp [intOf]; omega
   ·obtain ⟨⟨⟨k1,t,u⟩,⟨⟨sd,ad⟩,⟨j1,j2,j3,j4,j5⟩,⟨j6,j7⟩⟩⟩,hx⟩ : ∃ x,s.its[s.nx]? = some x := ⟨_,List.getElem?_eq_getElem (by omega)⟩
    have HC := hid (machNext_some F b (I.mc i) s a k1 t u sd ad j1 j2 j3 j4 j5 j6 j7 wr HM.out hx)
    have HD : Hid (doneS s = false) := hid (decide_eq_false hdn)
    clear hdn hx
    go_wp2_with fail
    ((with_reducible refine HC.out.mono ?_); rintro e w1 ⟨rfl,hb1⟩)
    have HB1 := hid (HB.out.trans (hb1.mono HB.out.size))
    clear hb1
    go_wp2_with fail
    go_ret
    exact ⟨by rw [doneB_false HS.out HD.out]; rfl,HB1.out.alloc HB1.out.size _⟩
  ·obtain rfl : i = n := by omega
   have HB := hid hb
   clear hb
   go_wp2_with fail
   go_ret
   exact ⟨by rw [doneB_true (by rw [HW.out.parts.lm]; exact HN.out) hd.out]; rfl,HB.out⟩
structure WS where
 mss : List MS
 lss : List LS
 cnt : Nat
structure RunIn (own0 : Nat -> Nat) (w0 : World) (own : Nat -> Nat) (w : World) (xb : Nat) (I : InC) (mbs lbs : List Nat) (s : WS) (AW : Option Addr) (cW : Nat) (AL : Option Addr) (cL : Nat) : Prop where
 wld : WorldIn own w xb I mbs lbs s.mss s.lss AW cW AL cL s.cnt
 new : ∀ i,own i ≠ 0 -> own0 i ≠ 0 \/ w0.heap.size <= i
 but : But (fun i => own0 i ≠ 0) w0 w
theorem RunIn.step {own0 own own' : Nat -> Nat} {w0 w w' : World} {xb : Nat} {I : InC} {mbs lbs : List Nat} {s s' : WS} {AW : Option Addr} {cW : Nat} {AL : Option Addr} {cL : Nat} (h : RunIn own0 w0 own w xb I mbs lbs s AW cW AL cL) (hw : WorldIn own' w' xb I mbs lbs s'.mss s'.lss AW cW AL cL s'.cnt) (hn : ∀ i,own' i ≠ 0 -> own i ≠ 0 \/ w.heap.size <= i) (hb : But (fun i => own i ≠ 0) w w') : RunIn own0 w0 own' w' xb I mbs lbs s' AW cW AL cL :=
 ⟨hw,fun i hi => by
  rcases hn i hi with h1 | h1
  ·exact h.new i h1
  ·exact .inr (Nat.le_trans h.but.size h1),do_post (S := fun i => own0 i ≠ 0) h.but hb (fun i hi h1 => by
   rcases h.new i h1 with h2 | h2
   ·exact h2
   ·omega)⟩
theorem RunIn.below {own0 own : Nat -> Nat} {w0 w w' : World} {xb : Nat} {I : InC} {mbs lbs : List Nat} {s : WS} {AW : Option Addr} {cW : Nat} {AL : Option Addr} {cL : Nat} (h : RunIn own0 w0 own w xb I mbs lbs s AW cW AL cL) (hb : Below w.heap.size w w') : RunIn own0 w0 own w' xb I mbs lbs s AW cW AL cL :=
 h.step (h.wld.below hb (fun _ _ => rfl)) (fun i hi => .inl hi) (But.of_below _ hb)
def FinJ (own0 : Nat -> Nat) (w0 : World) (xb : Nat) (I : InC) (mbs lbs : List Nat) (σ : Nat -> WS) (AW : Option Addr) (cW : Nat) (AL : Option Addr) (cL N most : Nat) (a' : Act) (w' : World) : Prop := ∃ (p : Nat) (own : Nat -> Nat) (u6 u7 u8 u9 u10 u11 u12 u13 u14 u15 u16 u17 u18 u19 u20 u21 u22 u23 u24 u25 u26 : Value),p <= N /\ RunIn own0 w0 own w' xb I mbs lbs (σ p) AW cW AL cL /\ a' = { tmps := #[.pointer (some ⟨xb,0,none⟩),.int .i64 most,undef,undef,.int .i64 p,.bool false,u6,u7,u8,u9,u10,u11,u12,u13,u14,u15,u16,u17,u18,u19,u20,u21,u22,u23,u24,u25,u26],defers := [] }
theorem schedFinish_any {own0 : Nat -> Nat} {w : World} {xb : Nat} {I : InC} {mbs lbs : List Nat} {AW : Option Addr} {cW : Nat} {AL : Option Addr} {cL : Nat} (σ : Nat -> WS) (N most n : Nat) (h : WorldIn own0 w xb I mbs lbs (σ 0).mss (σ 0).lss AW cW AL cL (σ 0).cnt) (hn : mbs.length = n) (hn1 : 1 <= n) (hn64 : n <= 64) (hNm : N <= most) (hm9 : most <= 1000000000) (hd : ∀ p,p < N -> doneB (σ p).mss = false) (hdN : doneB (σ N).mss = true)
  (hp : ∀ p own W,p < N -> WorldIn own W xb I mbs lbs (σ p).mss (σ p).lss AW cW AL cL (σ p).cnt -> Calls Tryz.prog 71 #[.pointer (some ⟨xb,0,none⟩),.int .i64 (p % n : Nat)] W fun e w' => ∃ r,e = .returned (.bool r) /\ ∃ own',WorldIn own' w' xb I mbs lbs (σ (p + 1)).mss (σ (p + 1)).lss AW cW AL cL (σ (p + 1)).cnt /\ (∀ i,own' i ≠ 0 -> own i ≠ 0 \/ W.heap.size <= i) /\ But (fun i => own i ≠ 0) W w') :
  Calls Tryz.prog 19 #[.pointer (some ⟨xb,0,none⟩),.int .i64 most] w fun e w' => e = .returned (.tuple #[.int .i64 N,.bool true]) /\ ∃ own,RunIn own0 w own w' xb I mbs lbs (σ N) AW cW AL cL := by
 have HW := hid h
 have HN := hid hn
 have HD := hid hd
 have HDN := hid hdN
 have HP := hid hp
 clear h hn hd hdN hp
 go_enter Tryz.func19,Tryz.ntmps19
 go_wp2_with fail
 refine wp_scope_jumps 0 (FinJ own0 w xb I mbs lbs σ AW cW AL cL N most) (fun a' _ => N - (intOf (a'.tmps.getD 4 undef)).toNat) rfl ?_ ?_
 ·go_wp2_with fail
  go_step3
  have hR : RunIn own0 w own0 w xb I mbs lbs (σ 0) AW cW AL cL := ⟨HW.out,fun i hi => .inl hi,But.refl _ _⟩
  obtain ⟨p,hp0⟩ : ∃ p,p = 0 := ⟨0,rfl⟩
  obtain ⟨own,hown⟩ : ∃ own,own = own0 := ⟨_,rfl⟩
  have hpN : p <= N := by omega
  have hR' : RunIn own0 w own w xb I mbs lbs (σ p) AW cW AL cL := by rw [hown,hp0]; exact hR
  rw [show (Value.int IntKind.i64 0) = .int .i64 (p : Int) by rw [hp0]; rfl]
  clear hR
  have hR := hR'
  clear hR' hp0 hown
  have HRr := hid hR
  have HDO := hid (schedDone_any hR.wld n HN.out hn64)
  clear hR
  go_wp2_with fail
  ((with_reducible refine HDO.out.mono ?_); rintro e w1 ⟨rfl,hb1⟩)
  have HR1 := hid (HRr.out.below hb1)
  clear hb1 HDO
  rcases Nat.lt_or_eq_of_le hpN with hlt | heq
  ·have e1 := HD.out p hlt
   rw [e1]
   have e2 : decide ((most : Int) <= (p : Int)) = false := decide_eq_false (by omega)
   have e3 : decide (most <= p) = false := decide_eq_false (by omega)
   have x0 : w1.cell? ⟨xb,0,none⟩ = some (.slice AW n cW) := by have := HR1.out.wld.blk.cell 0; rw [HN.out] at this; exact this
   have xl := HR1.out.wld.blk.lt
   obtain ⟨y,hy⟩ : ∃ y,p % n = y := ⟨_,rfl⟩
   have hm : (p : Int) % (n : Int) = (y : Int) := by rw [<- hy]; exact (Int.natCast_emod p n).symm
   have nz : ¬ (n : Int) = 0 := by omega
   have HPK := hid (HP.out p own w1 hlt HR1.out.wld)
   rw [hy] at HPK
   clear e1 hy
   go_wp2_with fail
   ((with_reducible refine HPK.out.mono ?_); rintro e w2 ⟨r,rfl,own',hW2,hn2,hb2⟩)
   have HR2 := hid (HR1.out.step (s' := σ (p + 1)) hW2 hn2 hb2)
   obtain ⟨p2,hp2⟩ : ∃ p2,p + 1 = p2 := ⟨_,rfl⟩
   have hwp : IntKind.i64.wrap ((p : Int) + 1) = (p2 : Int) := by rw [show (p : Int) + 1 = (p2 : Int) by omega]; exact IntWalk.i64_in _ (by omega)
   have HP2 := hid hp2
   clear hW2 hn2 hb2 hp2 x0 xl HPK
   go_wp2_with fail
   go_step3
   refine ⟨rfl,?_⟩
   have hr := HR2.out
   rw [HP2.out] at hr
   exact ⟨p2,own',_,_,_,_,_,_,_,_,_,_,_,_,_,_,_,_,_,_,_,_,_,by have := HP2.out; omega,hr,rfl⟩
  ·subst heq
   rw [HDN.out]
   have HDO2 := hid (schedDone_any HR1.out.wld n HN.out hn64)
   go_wp2_with fail
   ((with_reducible refine HDO2.out.mono ?_); rintro e w2 ⟨rfl,hb2⟩)
   rw [HDN.out]
   have HR2 := hid (HR1.out.below hb2)
   clear hb2
   go_wp2_with fail
   simp only [Exit.jump]
   go_ret2
   exact ⟨rfl,own,HR2.out⟩
 ·rintro a' wr ⟨p,own,u6,u7,u8,u9,u10,u11,u12,u13,u14,u15,u16,u17,u18,u19,u20,u21,u22,u23,u24,u25,u26,hpN,hR,rfl⟩
  have HRr := hid hR
  have HDO := hid (schedDone_any hR.wld n HN.out hn64)
  clear hR
  go_wp2_with fail
  ((with_reducible refine HDO.out.mono ?_); rintro e w1 ⟨rfl,hb1⟩)
  have HR1 := hid (HRr.out.below hb1)
  clear hb1 HDO
  rcases Nat.lt_or_eq_of_le hpN with hlt | heq
  ·have e1 := HD.out p hlt
   rw [e1]
   have e2 : decide ((most : Int) <= (p : Int)) = false := decide_eq_false (by omega)
   have e3 : decide (most <= p) = false := decide_eq_false (by omega)
   have x0 : w1.cell? ⟨xb,0,none⟩ = some (.slice AW n cW) := by have := HR1.out.wld.blk.cell 0; rw [HN.out] at this; exact this
   have xl := HR1.out.wld.blk.lt
   obtain ⟨y,hy⟩ : ∃ y,p % n = y := ⟨_,rfl⟩
   have hm : (p : Int) % (n : Int) = (y : Int) := by rw [<- hy]; exact (Int.natCast_emod p n).symm
   have nz : ¬ (n : Int) = 0 := by omega
   have HPK := hid (HP.out p own w1 hlt HR1.out.wld)
   rw [hy] at HPK
   clear e1 hy
   go_wp2_with fail
   ((with_reducible refine HPK.out.mono ?_); rintro e w2 ⟨r,rfl,own',hW2,hn2,hb2⟩)
   have HR2 := hid (HR1.out.step (s' := σ (p + 1)) hW2 hn2 hb2)
   obtain ⟨p2,hp2⟩ : ∃ p2,p + 1 = p2 := ⟨_,rfl⟩
   have hwp : IntKind.i64.wrap ((p : Int) + 1) = (p2 : Int) := by rw [show (p : Int) + 1 = (p2 : Int) by omega]; exact IntWalk.i64_in _ (by omega)
   have HP2 := hid hp2
   clear hW2 hn2 hb2 hp2 x0 xl HPK
   go_wp2_with fail
   go_step3
   refine ⟨rfl,?_,?_⟩
   rotate_left
   ·simp [intOf]
    have := HP2.out
    omega
   have hr := HR2.out
   rw [HP2.out] at hr
   exact ⟨p2,own',_,_,_,_,_,_,_,_,_,_,_,_,_,_,_,_,_,_,_,_,_,by have := HP2.out; omega,hr,rfl⟩
  ·subst heq
   rw [HDN.out]
   have HDO2 := hid (schedDone_any HR1.out.wld n HN.out hn64)
   go_wp2_with fail
   ((with_reducible refine HDO2.out.mono ?_); rintro e w2 ⟨rfl,hb2⟩)
   rw [HDN.out]
   have HR2 := hid (HR1.out.below hb2)
   clear hb2
   go_wp2_with fail
   simp only [Exit.jump]
   go_ret2
   exact ⟨rfl,own,HR2.out⟩
end
end Go.Proofs.YtkmaeipoaoikpaaGreat
