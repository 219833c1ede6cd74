/- Link2, Link3, Link4. -/
import Derived.Test.YtkmaeipoaoikpaaGreatEB11
import Derived.Test.YtkmaeipoaoikpaaGreatEB20
namespace Go.Proofs.YtkmaeipoaoikpaaGreat
set_option linter.all false
set_option maxRecDepth 100000
set_option maxHeartbeats 2000000
open Lib (hid)
section
open Go.RowKit
theorem own_msg {w : World} {base n k c : Nat} {e : TypeId} {A : Option Addr} {l : List MsgS} {m : MsgS} (h : w.ownsRow base e 6 (.slice A n c) n (msV l)) (hx : l[k]? = some m) (hk : k < n) :
  ∃ b,A = some ⟨b,0,none⟩ /\ b < w.heap.size /\ ∀ j,j < 6 -> w.cell? ⟨b,k * 6 + j,none⟩ = (msgV m)[j]? := by
 have hr := Rd.of_own h
 obtain ⟨b,o,e',hlt,hc⟩ := hr.2 (by omega)
 obtain ⟨A',cap',hv,_,_,hg⟩ := own_form h
 injection hv with hA _ _
 obtain ⟨g,hg1,_,_⟩ := hg (by omega)
 rw [hA,hg1] at e'
 injection e' with e'
 injection e' with e1 e2
 subst e1 e2
 refine ⟨g,by rw [hA,hg1],hlt,fun j hj => ?_⟩
 have h2 := msV_get l k j m hj hx
 have hj' : j < (msgV m).length := hj
 rw [List.getElem?_eq_getElem hj'] at h2 ⊢
 have := hc _ _ h2
 rwa [Nat.zero_add] at this
end
section
open Go.RowKit
variable (A : Option Addr) (n c cp s r : Nat) (pk : Int) (b : Nat) (w : World)
theorem linkPeek_some (ms : List MsgS) (m : MsgS) (base : Nat) (h : Blk w b 243 (lnkC A n c cp s r pk)) (hr : r < s) (hs : s <= 1000000000000) (hcp : 1 <= cp) (hcp2 : cp <= 1048576) (ho : w.ownsRow base 259 6 (.slice A n c) n (msV ms)) (hm : ms[r % cp]? = some m) (hl : ms.length = n) :
  Calls Tryz.prog 279 #[.pointer (some ⟨b,0,none⟩)] w fun e w' => e = .returned (.tuple #[.agg (tagV m.1).toArray,.bool true]) /\ Below w.heap.size w w' := by
 obtain ⟨p,hp⟩ : ∃ p,r % cp = p := ⟨_,rfl⟩
 rw [hp] at hm
 have hpn : p < n := by rw [<- hl]; exact (List.getElem?_eq_some_iff.1 hm).1
 obtain ⟨g,rfl,lg,hc⟩ := own_msg ho hm hpn
 obtain ⟨⟨t1,t2,t3,t4,t5⟩,a,mn,mc⟩ := m
 have q0 : w.cell? ⟨g,p * 6,none⟩ = some (.int .i64 t1) := hc 0 (by omega)
 have q1 : w.cell? ⟨g,p * 6 + 1,none⟩ = some (.int .i64 t2) := hc 1 (by omega)
 have q2 : w.cell? ⟨g,p * 6 + 2,none⟩ = some (.int .i64 t3) := hc 2 (by omega)
 have q3 : w.cell? ⟨g,p * 6 + 3,none⟩ = some (.int .i64 t4) := hc 3 (by omega)
 have q4 : w.cell? ⟨g,p * 6 + 4,none⟩ = some (.int .i64 t5) := hc 4 (by omega)
 have c0 : w.cell? ⟨b,0,none⟩ = some (.slice (some ⟨g,0,none⟩) n c) := h.cell 0
 have c3 : w.cell? ⟨b,3,none⟩ = some (.int .i64 r) := h.cell 3
 have l1 := h.lt
 have e0 : (((s - r : Nat) : Int) == 0) = false := by simp; omega
 have HLN := hid (fun W (k : Kept w W) => linkLen_any (some ⟨g,0,none⟩) n c cp s r pk b W (h.kept k.2.2) (by omega) hs)
 have HPL := hid (fun W (k : Kept w W) => linkPlace_any (some ⟨g,0,none⟩) n c cp s r pk b W r (h.kept k.2.2) hcp hcp2 (by omega))
 rw [hp] at HPL
 have i1 : (0 : Int) <= (p : Int) := by omega
 have i2 : (p : Int) < (n : Int) := by omega
 have HA : Hid (Kept w (w.alloc (.cells #[.int .i64 0,.int .i64 0,.int .i64 0,.int .i64 0,.int .i64 0] 216))) := hid ((Kept.of (Below.refl _ w)).alloc _)
 clear hc ho hm hp hl h
 go_enter Tryz.func279,Tryz.ntmps279
 go_wp2_with fail
 ((with_reducible refine (HLN.out _ HA.out).mono ?_); rintro e w1 ⟨rfl,mm,hw1⟩)
 have hk1 : Kept w w1 := by rw [hw1]; exact HA.out.drewN mm
 have hb1 : Blk w1 w.heap.size 216 #[.int .i64 0,.int .i64 0,.int .i64 0,.int .i64 0,.int .i64 0] := by rw [hw1]; exact (Blk.new w _ _).drewN mm
 have HB1 := hid hb1
 have HK1 := hid hk1
 have k1 : Kept w w1.drew := hk1.drew
 clear hw1 hb1 hk1
 have c0 : w1.cell? ⟨b,0,none⟩ = some (.slice (some ⟨g,0,none⟩) n c) := by rw [HK1.out.1 b 0 l1]; exact c0
 have c3 : w1.cell? ⟨b,3,none⟩ = some (.int .i64 r) := by rw [HK1.out.1 b 3 l1]; exact c3
 have lb1 : b < w1.heap.size := Nat.lt_of_lt_of_le l1 HK1.out.2.1
 have q0 : w1.cell? ⟨g,p * 6,none⟩ = some (.int .i64 t1) := by rw [HK1.out.1 g _ lg]; exact q0
 have q1 : w1.cell? ⟨g,p * 6 + 1,none⟩ = some (.int .i64 t2) := by rw [HK1.out.1 g _ lg]; exact q1
 have q2 : w1.cell? ⟨g,p * 6 + 2,none⟩ = some (.int .i64 t3) := by rw [HK1.out.1 g _ lg]; exact q2
 have q3 : w1.cell? ⟨g,p * 6 + 3,none⟩ = some (.int .i64 t4) := by rw [HK1.out.1 g _ lg]; exact q3
 have q4 : w1.cell? ⟨g,p * 6 + 4,none⟩ = some (.int .i64 t5) := by rw [HK1.out.1 g _ lg]; exact q4
 have lg1 : g < w1.heap.size := Nat.lt_of_lt_of_le lg HK1.out.2.1
 go_wp2_with fail
 refine wp_region_early (Kept w1) [0,1,2,3,4,5,6,7,8,9] [10] [11,12,13,14,15] (by kernel_rfl) (by kernel_rfl) (Kept.start w1) ?_
 simp only [List.filterMap_cons,List.filterMap_nil,List.getElem?_cons_succ,List.getElem?_cons_zero]
 refine early_step (.pointer (some ⟨b,0,none⟩)) rfl (fun W hW => ?_) ?_
 ·obtain ⟨hc,-,-⟩ := hW
  go_simp
 go_simp
 refine early_step (.pointer (some ⟨b,0,none⟩)) rfl (fun W hW => ?_) ?_
 ·obtain ⟨hc,-,-⟩ := hW
  go_simp
 go_simp
 refine early_step (.pointer (some ⟨b,0,none⟩)) rfl (fun W hW => ?_) ?_
 ·obtain ⟨hc,-,-⟩ := hW
  go_simp
 go_simp
 refine early_step (.slice (some ⟨g,0,none⟩) n c) rfl (fun W hW => ?_) ?_
 ·obtain ⟨hc,-,-⟩ := hW
  go_simp
 go_simp
 refine early_step (.pointer (some ⟨b,0,none⟩)) rfl (fun W hW => ?_) ?_
 ·obtain ⟨hc,-,-⟩ := hW
  go_simp
 go_simp
 refine early_step (.pointer (some ⟨b,0,none⟩)) rfl (fun W hW => ?_) ?_
 ·obtain ⟨hc,-,-⟩ := hW
  go_simp
 go_simp
 refine early_step (.pointer (some ⟨b,0,none⟩)) rfl (fun W hW => ?_) ?_
 ·obtain ⟨hc,-,-⟩ := hW
  go_simp
 go_simp
 refine early_step (.pointer (some ⟨b,2,none⟩)) rfl (fun W hW => ?_) ?_
 ·obtain ⟨hc,-,-⟩ := hW
  go_simp
 go_simp
 refine early_step (.pointer (some ⟨b,3,none⟩)) rfl (fun W hW => ?_) ?_
 ·obtain ⟨hc,-,-⟩ := hW
  go_simp
 go_simp
 refine early_step (.int .i64 r) rfl (fun W hW => ?_) ?_
 ·obtain ⟨hc,-,-⟩ := hW
  go_simp
 go_simp
 change RestW _ _ _ _ _ (_ :: []) _ _
 unfold RestW
 go_wp2_with fail
 ((with_reducible refine (HPL.out _ k1).mono ?_); rintro e w2 ⟨rfl,hw2⟩)
 subst hw2
 go_wp2_with fail
 refine ⟨Kept.start w1,?_⟩
 unfold RestW
 change wpList _ _ _ (_ :: _ :: _ :: _ :: _ :: []) _ _
 have d0 := HB1.out.cell 0
 have d1 := HB1.out.cell 1
 have d2 := HB1.out.cell 2
 have d3 := HB1.out.cell 3
 have d4 := HB1.out.cell 4
 have f0 := HB1.out.frozen 0
 have f1 := HB1.out.frozen 1
 have f2 := HB1.out.frozen 2
 have f3 := HB1.out.frozen 3
 have f4 := HB1.out.frozen 4
 have lb := HB1.out.lt
 go_wp2_with fail
 refine NoPanic.normal ?_
 go_wp2_with fail
 refine bodyPost_ret (v := .tuple #[.agg #[.int .i64 t1,.int .i64 t2,.int .i64 t3,.int .i64 t4,.int .i64 t5],.bool true]) (by simp [results,Tryz.results279,go_sem,d0,d1,d2,d3,d4,lb]) rfl ⟨rfl,?_⟩
 repeat (first | (refine Below.setCell (B := w.heap.size) (p := ⟨w.heap.size,_,none⟩) ?_ (show w.heap.size <= w.heap.size from Nat.le_refl _) _) | (refine Below.drew ?_))
 exact HK1.out.2.2
end
section
open Go.RowKit
structure LinkIn (S : Nat -> Prop) (w : World) (b cp s r : Nat) (q : List (TagN × List Int)) (A : Option Addr) (n c : Nat) (pk : Int) (ms : List MsgS) : Prop where
 sb : S b
 blk : Blk w b 243 (lnkC A n c cp s r pk)
 own : w.ownsRow 0 259 6 (.slice A n c) n (msV ms)
 so : ∀ g,(Value.slice A n c).ownBlock = some g -> S g
 len : ms.length = n
 nn : n = min s cp
 ql : q.length = s - r
 rs : r <= s
 room : s - r <= cp
 s9 : s <= 1000000000
 cp1 : 1 <= cp
 cp2 : cp <= 1048576
 get : ∀ j,j < s - r -> ∃ m vs,ms[(r + j) % cp]? = some m /\ q[j]? = some (m.1,vs) /\ w.ownsRow 0 2 1 (.slice m.2.1 m.2.2.1 m.2.2.2) m.2.2.1 (iv vs) /\ (∀ g,(Value.slice m.2.1 m.2.2.1 m.2.2.2).ownBlock = some g -> S g) /\ m.2.2.1 <= 1000000
def LinkAt (S : Nat -> Prop) (w : World) (b cp s r : Nat) (q : List (TagN × List Int)) : Prop := ∃ A n c pk ms,LinkIn S w b cp s r q A n c pk ms
end
section
open Go.RowKit
variable {S T : Nat → Prop} {w w' : World} {b cp s r n c : Nat} {q : List (TagN × List Int)} {A : Option Addr} {pk : Int} {ms : List MsgS}
theorem LinkIn.mono (h : LinkIn S w b cp s r q A n c pk ms) (hST : ∀ i,i < w.heap.size -> S i -> T i) : LinkIn T w b cp s r q A n c pk ms :=
 ⟨hST _ h.blk.lt h.sb,h.blk,h.own,fun g hg => hST g (h.own.lt g hg).2 (h.so g hg),h.len,h.nn,h.ql,h.rs,h.room,h.s9,h.cp1,h.cp2,fun j hj => by
  obtain ⟨m,vs,h1,h2,h3,h4,h5⟩ := h.get j hj
  exact ⟨m,vs,h1,h2,h3,fun g e => hST g (h3.lt g e).2 (h4 g e),h5⟩⟩
theorem LinkIn.step (h : LinkIn S w b cp s r q A n c pk ms) (hs : w.heap.size <= w'.heap.size) (hb : ∀ i,i < w.heap.size -> S i -> w'.heap[i]? = w.heap[i]?) : LinkIn S w' b cp s r q A n c pk ms :=
 ⟨h.sb,Hg.blk h.blk h.sb w' hs hb,Hg.own h.own h.so w' hs hb,h.so,h.len,h.nn,h.ql,h.rs,h.room,h.s9,h.cp1,h.cp2,fun j hj => by
  obtain ⟨m,vs,h1,h2,h3,h4,h5⟩ := h.get j hj
  exact ⟨m,vs,h1,h2,Hg.own h3 h4 w' hs hb,h4,h5⟩⟩
theorem LinkAt.mono (h : LinkAt S w b cp s r q) (hST : ∀ i,i < w.heap.size -> S i -> T i) : LinkAt T w b cp s r q := by
 obtain ⟨A,n,c,pk,ms,h⟩ := h
 exact ⟨A,n,c,pk,ms,h.mono hST⟩
theorem LinkAt.step (h : LinkAt S w b cp s r q) (hs : w.heap.size <= w'.heap.size) (hb : ∀ i,i < w.heap.size -> S i -> w'.heap[i]? = w.heap[i]?) : LinkAt S w' b cp s r q := by
 obtain ⟨A,n,c,pk,ms,h⟩ := h
 exact ⟨A,n,c,pk,ms,h.step hs hb⟩
end
section
open Go.RowKit
theorem lnk_own_ne {w : World} {base base' : Nat} {e e' : TypeId} {size size' n n' : Nat} {v v' : Value} {xs xs' : List Value} (h : w.ownsRow base e size v n xs) (h' : w.ownsRow base' e' size' v' n' xs') (hne : e ≠ e') : ∀ g,v.ownBlock = some g -> v'.ownBlock ≠ some g := by
 intro g hg hg'
 rcases h.2 with ⟨rfl,_⟩ | ⟨g1,cap,cur,rfl,_,hh,_⟩
 ·simp [Value.ownBlock] at hg
 ·rcases h'.2 with ⟨rfl,_⟩ | ⟨g2,cap',cur',rfl,_,hh',_⟩
  ·simp [Value.ownBlock] at hg'
  ·have e1 : g1 = g := by simpa [Value.ownBlock] using hg
   have e2 : g2 = g := by simpa [Value.ownBlock] using hg'
   subst e1
   subst e2
   rw [hh] at hh'
   injection hh' with hh'
   injection hh' with _ ht
   exact hne ht
theorem msV_set : ∀ (ms : List MsgS) (k : Nat) (m : MsgS),k < ms.length ->
  ((((((msV ms).set (k * 6) (.int .i64 m.1.1)).set (k * 6 + 1) (.int .i64 m.1.2.1)).set (k * 6 + 2) (.int .i64 m.1.2.2.1)).set (k * 6 + 3) (.int .i64 m.1.2.2.2.1)).set (k * 6 + 4) (.int .i64 m.1.2.2.2.2)).set (k * 6 + 5) (.slice m.2.1 m.2.2.1 m.2.2.2) = msV (ms.set k m) := by
 intro ms
 induction ms with
 | nil => intro k m h; simp at h
 | cons r l ih =>
  intro k m h
  have e : msV (r :: l) = msgV r ++ msV l := rfl
  cases k with
  | zero => rw [e]; simp [msgV,msV]
  | succ k =>
   have h1 := ih k m (by simpa using h)
   rw [e,show (k + 1) * 6 = k * 6 + 6 by omega]
   simp only [msgV,List.cons_append,List.nil_append,List.set_cons_succ,List.set_cons_zero,Nat.add_assoc,Nat.reduceAdd]
   rw [h1]
   rfl
theorem own_setMsg {w : World} {base g n c k : Nat} {e : TypeId} {ms : List MsgS} (h : w.ownsRow base e 6 (.slice (some ⟨g,0,none⟩) n c) n (msV ms)) (m : MsgS) (hk : k < ms.length) :
  ((((((w.setCell ⟨g,k * 6,none⟩ (.int .i64 m.1.1)).setCell ⟨g,k * 6 + 1,none⟩ (.int .i64 m.1.2.1)).setCell ⟨g,k * 6 + 2,none⟩ (.int .i64 m.1.2.2.1)).setCell ⟨g,k * 6 + 3,none⟩ (.int .i64 m.1.2.2.2.1)).setCell ⟨g,k * 6 + 4,none⟩ (.int .i64 m.1.2.2.2.2)).setCell ⟨g,k * 6 + 5,none⟩ (.slice m.2.1 m.2.2.1 m.2.2.2)).ownsRow base e 6 (.slice (some ⟨g,0,none⟩) n c) n (msV (ms.set k m)) /\
  w.grownBy ((((((w.setCell ⟨g,k * 6,none⟩ (.int .i64 m.1.1)).setCell ⟨g,k * 6 + 1,none⟩ (.int .i64 m.1.2.1)).setCell ⟨g,k * 6 + 2,none⟩ (.int .i64 m.1.2.2.1)).setCell ⟨g,k * 6 + 3,none⟩ (.int .i64 m.1.2.2.2.1)).setCell ⟨g,k * 6 + 4,none⟩ (.int .i64 m.1.2.2.2.2)).setCell ⟨g,k * 6 + 5,none⟩ (.slice m.2.1 m.2.2.1 m.2.2.2)) (some g) := by
 obtain ⟨s1,g1⟩ := h.stored (k * 6) (.int .i64 m.1.1)
 obtain ⟨s2,g2⟩ := s1.stored (k * 6 + 1) (.int .i64 m.1.2.1)
 obtain ⟨s3,g3⟩ := s2.stored (k * 6 + 2) (.int .i64 m.1.2.2.1)
 obtain ⟨s4,g4⟩ := s3.stored (k * 6 + 3) (.int .i64 m.1.2.2.2.1)
 obtain ⟨s5,g5⟩ := s4.stored (k * 6 + 4) (.int .i64 m.1.2.2.2.2)
 obtain ⟨s6,g6⟩ := s5.stored (k * 6 + 5) (.slice m.2.1 m.2.2.1 m.2.2.2)
 rw [<- msV_set ms k m hk]
 exact ⟨s6,((((g1.trans g2).trans g3).trans g4).trans g5).trans g6⟩
theorem lnk_set2 {w : World} {b n c cp s r : Nat} {A : Option Addr} {pk : Int} (h : Blk w b 243 (lnkC A n c cp s r pk)) (x : Nat) :
  w.grownBy (w.setCell ⟨b,2,none⟩ (.int .i64 x)) (some b) /\ Blk (w.setCell ⟨b,2,none⟩ (.int .i64 x)) b 243 (lnkC A n c cp x r pk) :=
 ⟨gr_set (p := ⟨b,2,none⟩) (World.grownBy.refl w _) (.inl rfl) _,by simpa using h.set_ 2 (.int .i64 x)⟩
theorem lnk_set3 {w : World} {b n c cp s r : Nat} {A : Option Addr} {pk : Int} (h : Blk w b 243 (lnkC A n c cp s r pk)) (x : Nat) :
  w.grownBy (w.setCell ⟨b,3,none⟩ (.int .i64 x)) (some b) /\ Blk (w.setCell ⟨b,3,none⟩ (.int .i64 x)) b 243 (lnkC A n c cp s x pk) :=
 ⟨gr_set (p := ⟨b,3,none⟩) (World.grownBy.refl w _) (.inl rfl) _,by simpa using h.set_ 3 (.int .i64 x)⟩
theorem lnk_set4 {w : World} {b n c cp s r : Nat} {A : Option Addr} {pk : Int} (h : Blk w b 243 (lnkC A n c cp s r pk)) (x : Int) :
  w.grownBy (w.setCell ⟨b,4,none⟩ (.int .i64 x)) (some b) /\ Blk (w.setCell ⟨b,4,none⟩ (.int .i64 x)) b 243 (lnkC A n c cp s r x) :=
 ⟨gr_set (p := ⟨b,4,none⟩) (World.grownBy.refl w _) (.inl rfl) _,by simpa using h.set_ 4 (.int .i64 x)⟩
theorem lnk_set0 {w : World} {b n c cp s r : Nat} {A : Option Addr} {pk : Int} (h : Blk w b 243 (lnkC A n c cp s r pk)) (A' : Option Addr) (n' c' : Nat) :
  w.grownBy (w.setCell ⟨b,0,none⟩ (.slice A' n' c')) (some b) /\ Blk (w.setCell ⟨b,0,none⟩ (.slice A' n' c')) b 243 (lnkC A' n' c' cp s r pk) :=
 ⟨gr_set (p := ⟨b,0,none⟩) (World.grownBy.refl w _) (.inl rfl) _,by simpa using h.set_ 0 (.slice A' n' c')⟩
theorem mod_apart {a b cp : Nat} (h1 : a < b) (h2 : b < a + cp) : a % cp ≠ b % cp := by
 intro e
 have h := Nat.sub_mod_eq_zero_of_mod_eq e.symm
 have := Nat.eq_zero_of_dvd_of_lt (Nat.dvd_of_mod_eq_zero h) (by omega)
 omega
def SendRet (S : Nat -> Prop) (w : World) (b cp s r : Nat) (q : List (TagN × List Int)) (t : TagN) (vs : List Int) (e : Ending) (w' : World) : Prop :=
 e = .returned (.int .i64 0) /\ LinkAt (fun x => S x \/ w.heap.size <= x) w' b cp (s + 1) r (q ++ [(t,vs)]) /\ But S w w'
theorem own_drew {w : World} {base : Nat} {e : TypeId} {size n : Nat} {v : Value} {xs : List Value} (h : w.ownsRow base e size v n xs) : w.drew.ownsRow base e size v n xs := h
theorem own_kept_other {w w' : World} {base base' : Nat} {e e' : TypeId} {size size' n n' : Nat} {v v' : Value} {xs xs' : List Value} (h : w.ownsRow base e size v n xs) (h' : w.ownsRow base' e' size' v' n' xs') (hne : e ≠ e') (hg : w.grownBy w' v'.ownBlock) : w'.ownsRow base e size v n xs := by
 refine h.kept hg ?_
 cases hv : v.ownBlock with
 | none => exact .inl rfl
 | some g => exact .inr (fun e => lnk_own_ne h h' hne g hv e.symm)
theorem send_fin {S : Nat -> Prop} {w w9 : World} {b cp s r n n' c c' B nm c3 : Nat} {q : List (TagN × List Int)} {A A' A3 : Option Addr} {pk pk' : Int} {ms ms' : List MsgS} {t : TagN} {vs : List Int} (h : LinkIn S w b cp s r q A n c pk ms) (hroom : s - r < cp) (hs9 : s < 1000000000)
  (hbut : But (fun x => x = b \/ (Value.slice A n c).ownBlock = some x) w w9) (hL : Blk w9 b 243 (lnkC A' n' c' cp (s + 1) r pk')) (hO : w9.ownsRow 0 259 6 (.slice A' n' c') n' (msV ms'))
  (hso : ∀ k,(Value.slice A' n' c').ownBlock = some k -> (Value.slice A n c).ownBlock = some k \/ w.heap.size <= k) (hlen : ms'.length = n') (hn : n' = min (s + 1) cp) (hold : ∀ j,j < s - r -> ms'[(r + j) % cp]? = ms[(r + j) % cp]?) (hnew : ms'[s % cp]? = some (t,(A3,nm,c3)))
  (hV : w9.ownsRow B 2 1 (.slice A3 nm c3) nm (iv vs)) (hB : w.heap.size <= B) (hnm : nm <= 1000000) (x : Int) : SendRet S w b cp s r q t vs (.returned (.int .i64 0)) (w9.setCell ⟨b,4,none⟩ (.int .i64 x)) := by
 obtain ⟨hg,hL2⟩ := lnk_set4 hL x
 have hT : But (fun x => x = b \/ (Value.slice A n c).ownBlock = some x) w (w9.setCell ⟨b,4,none⟩ (.int .i64 x)) := hbut.trans (But.of_gr hg (.inl rfl))
 have hrs := h.rs
 refine ⟨rfl,⟨A',n',c',x,ms',.inl h.sb,hL2,hO.kept hg (.inr (own_blk_ne hO hL (by decide))),fun k hk => ?_,hlen,hn,by simp [h.ql]; omega,by omega,by omega,by omega,h.cp1,h.cp2,fun j hj => ?_⟩,hT.mono (fun i _ hi => ?_)⟩
 ·rcases hso k hk with h1 | h1
  ·exact .inl (h.so k h1)
  ·exact .inr h1
 ·by_cases hjo : j < s - r
  ·obtain ⟨m,vs',h1,h2,h3,h4,h5⟩ := h.get j hjo
   refine ⟨m,vs',(hold j hjo).trans h1,?_,own_but h3 hT (fun g' hg' hgT => ?_),fun g hg => .inl (h4 g hg),h5⟩
   ·rw [List.getElem?_append_left (by rw [h.ql]; exact hjo)]; exact h2
   ·rcases hgT with rfl | hgT
    ·exact own_blk_ne h3 h.blk (by decide) hg'
    ·exact lnk_own_ne h3 h.own (by decide) g' hg' hgT
  ·have e : r + j = s := by omega
   refine ⟨(t,(A3,nm,c3)),vs,by rw [e]; exact hnew,?_,own_base (hV.kept hg (.inr (own_blk_ne hV hL (by decide)))) (Nat.zero_le _),fun g hg => .inr (Nat.le_trans hB (hV.lt g hg).1),hnm⟩
   rw [List.getElem?_append_right (by rw [h.ql]; omega),h.ql,show j - (s - r) = 0 by omega]
   rfl
 ·rcases hi with rfl | hi
  ·exact h.sb
  ·exact h.so i hi
theorem linkSend_some (S : Nat -> Prop) (b cp s r : Nat) (q : List (TagN × List Int)) (t : TagN) (vs : List Int) (Am : Option Addr) (nm cm : Nat) (w : World) (h : LinkAt S w b cp s r q) (hroom : s - r < cp) (hs9 : s < 1000000000) (hv : Rd w 1 Am nm (iv vs)) (hvl : vs.length = nm) (hnm : nm <= 1000000) :
  Calls Tryz.prog 130 #[.pointer (some ⟨b,0,none⟩),.agg #[.int .i64 t.1,.int .i64 t.2.1,.int .i64 t.2.2.1,.int .i64 t.2.2.2.1,.int .i64 t.2.2.2.2,.slice Am nm cm]] w (SendRet S w b cp s r q t vs) := by
 obtain ⟨A,n,c,pk,ms,h⟩ := h
 obtain ⟨t1,t2,t3,t4,t5⟩ := t
 dsimp only
 obtain ⟨p,hp⟩ : ∃ p,s % cp = p := ⟨_,rfl⟩
 have HI := hid h
 have HP := hid hp
 have HV := hid hv
 have hcp1 := h.cp1
 have hcp2 := h.cp2
 have hrs := h.rs
 have HLN := hid (fun A n c pk s W (hr : r <= s) (hs : s <= 1000000000) (k : Blk W b 243 (lnkC A n c cp s r pk)) => linkLen_any A n c cp s r pk b W k hr (by omega))
 have HPL := hid (fun A n c pk W (k : Blk W b 243 (lnkC A n c cp s r pk)) => by
  have := linkPlace_any A n c cp s r pk b W s k hcp1 hcp2 (by omega)
  rw [hp] at this
  exact this)
 have HCP := hid (fun W (k : Below w.heap.size w W) => linkCopied_any Am nm cm vs W hvl (hv.below k) (by omega))
 have HA : Hid (∀ W,w.alloc (.cells #[.int .i64 t1,.int .i64 t2,.int .i64 t3,.int .i64 t4,.int .i64 t5,.slice Am nm cm] 259) = W -> Below w.heap.size w W /\ Blk W w.heap.size 259 #[.int .i64 t1,.int .i64 t2,.int .i64 t3,.int .i64 t4,.int .i64 t5,.slice Am nm cm]) := hid (by
  rintro W rfl
  exact ⟨(Below.refl _ _).alloc (Nat.le_refl _) _,Blk.new _ _ _⟩)
 have e0 : (((s - r : Nat) : Int) == (cp : Int)) = false := by simp; omega
 have hblt := h.blk.lt
 clear h hp hv
 go_enter Tryz.func130,Tryz.ntmps130
 go_wp2_with fail
 obtain ⟨w1,hw1⟩ : ∃ w1,w.alloc (.cells #[.int .i64 t1,.int .i64 t2,.int .i64 t3,.int .i64 t4,.int .i64 t5,.slice Am nm cm] 259) = w1 := ⟨_,rfl⟩
 obtain ⟨hB1,hM1⟩ := HA.out _ hw1
 rw [hw1]
 have HB1 := hid hB1
 have HM1 := hid hM1
 have hL1 := HI.out.blk.kept hB1
 have HL1 := hid hL1
 have c1 : w1.cell? ⟨b,1,none⟩ = some (.int .i64 cp) := hL1.cell 1
 have lb1 := hL1.lt
 clear hw1 HA hB1 hM1 hL1
 go_wp2_with fail
 refine wp_region_early (Kept w1) [0,2,3,4,5] [1] [6] (by kernel_rfl) (by kernel_rfl) (Kept.start w1) ?_
 simp only [List.filterMap_cons,List.filterMap_nil,List.getElem?_cons_succ,List.getElem?_cons_zero]
 refine early_step (.pointer (some ⟨b,0,none⟩)) rfl (fun W hW => ?_) ?_
 ·obtain ⟨hc,-,-⟩ := hW
  go_simp
 go_simp
 refine early_step (.pointer (some ⟨b,0,none⟩)) rfl (fun W hW => ?_) ?_
 ·obtain ⟨hc,-,-⟩ := hW
  go_simp
 go_simp
 refine early_step (.pointer (some ⟨b,0,none⟩)) rfl (fun W hW => ?_) ?_
 ·obtain ⟨hc,-,-⟩ := hW
  go_simp
 go_simp
 refine early_step (.pointer (some ⟨b,1,none⟩)) rfl (fun W hW => ?_) ?_
 ·obtain ⟨hc,-,-⟩ := hW
  go_simp
 go_simp
 refine early_step (.int .i64 cp) rfl (fun W hW => ?_) ?_
 ·obtain ⟨hc,-,-⟩ := hW
  go_simp
 go_simp
 change RestW _ _ _ _ _ (_ :: []) _ _
 unfold RestW
 go_wp2_with fail
 ((with_reducible refine (HLN.out A n c pk s _ hrs (by omega) HL1.out.drew).mono ?_); rintro e w2 ⟨rfl,mm,hw2⟩)
 have hk2 : Kept w1 w2 := by rw [hw2]; exact (Kept.start w1).drewN mm
 clear hw2
 go_wp2_with fail
 refine ⟨hk2,?_⟩
 unfold RestW
 change wpList _ _ _ (_ :: []) _ _
 go_wp2_with fail
 refine NoPanic.normal ?_
 have HB2 := hid (HB1.out.trans (hk2.2.2.mono HB1.out.size))
 have HM2 := hid (HM1.out.kept hk2.2.2)
 have HL2 := hid (HL1.out.kept hk2.2.2)
 clear HB1 HM1 HL1 c1 lb1 hk2
 have m5 := HM2.out.cell 5
 have lm2 := HM2.out.lt
 go_wp2_with fail
 ((with_reducible refine (HCP.out _ HB2.out).mono ?_); rintro e w3 ⟨A3,c3,rfl,ho3,hb3⟩)
 have hM3 := HM2.out.kept hb3
 have m53 := hM3.cell 5
 have hst := gr_set (p := ⟨w.heap.size,5,none⟩) (World.grownBy.refl w3 (some w.heap.size)) (.inl rfl) (.slice A3 nm c3)
 have HM4 := hid (hM3.set_ 5 (.slice A3 nm c3))
 have HO4 := hid (ho3.kept hst (.inr (own_blk_ne ho3 hM3 (by decide))))
 have hL4 := (HL2.out.kept hb3).grown hst (by intro e; injection e with e; omega)
 have HB4 := hid (below_gr (HB2.out.trans (hb3.mono HB2.out.size)) (Nat.le_trans HB2.out.size hb3.size) hst (Nat.le_refl _))
 have HN3 := hid (show w.heap.size <= w2.heap.size from HB2.out.size)
 have HL4 := hid hL4
 have f5 := hM3.frozen 5
 have lm3 := hM3.lt
 obtain ⟨w4,hw4⟩ : ∃ w4,w3.setCell ⟨w.heap.size,5,none⟩ (.slice A3 nm c3) = w4 := ⟨_,rfl⟩
 rw [hw4] at HM4 HO4 hL4 HB4 HL4
 have c2 : w4.cell? ⟨b,2,none⟩ = some (.int .i64 s) := hL4.cell 2
 have c0 : w4.cell? ⟨b,0,none⟩ = some (.slice A n c) := hL4.cell 0
 have lb4 := hL4.lt
 clear HB2 HM2 HL2 m5 lm2 ho3 hb3 hM3 hst hL4
 go_wp2_with fail
 clear hw4 f5 lm3 m53
 ((with_reducible refine (HPL.out A n c pk w4 HL4.out).mono ?_); rintro e w5 ⟨rfl,hw5⟩)
 subst hw5
 have HM4 : Hid (Blk w4 w.heap.size 259 #[.int .i64 t1,.int .i64 t2,.int .i64 t3,.int .i64 t4,.int .i64 t5,.slice A3 nm c3]) := hid HM4.out
 have HOR : Hid (w4.ownsRow 0 259 6 (.slice A n c) n (msV ms)) := hid (own_below HI.out.own HB4.out)
 have HGR : Hid (∀ g,(Value.slice A n c).ownBlock = some g -> g < w.heap.size) := hid (fun g hg => (HI.out.own.lt g hg).2)
 have hnn := HI.out.nn
 have hlen := HI.out.len
 have hpp := HP.out
 by_cases hsc : s < cp
 ·obtain rfl : n = s := by omega
  have hpn : p = n := by rw [<- hpp]; exact Nat.mod_eq_of_lt hsc
  have e1 : decide ((p : Int) < (n : Int)) = false := decide_eq_false (by omega)
  clear hnn hpp
  go_wp2_with fail
  refine wp_region_early (fun W => Blk W b 243 (lnkC A n c cp n r pk) /\ Blk W w.heap.size 259 #[.int .i64 t1,.int .i64 t2,.int .i64 t3,.int .i64 t4,.int .i64 t5,.slice A3 nm c3]) [0,1,2,3,4,5] [6,7] [8,9,10] (by kernel_rfl) (by kernel_rfl) (⟨HL4.out.drew,HM4.out.drew⟩) ?_
  simp only [List.filterMap_cons,List.filterMap_nil,List.getElem?_cons_succ,List.getElem?_cons_zero]
  refine early_step (.pointer (some ⟨b,0,none⟩)) rfl (fun W hW => ?_) ?_
  ·obtain ⟨hx,hy⟩ := hW
   have h0 := hx.cell 0
   have g0 := hy.cell 0
   have g1 := hy.cell 1
   have g2 := hy.cell 2
   have g3 := hy.cell 3
   have g4 := hy.cell 4
   have g5 := hy.cell 5
   go_simp
  go_simp
  refine early_step (.pointer (some ⟨b,0,none⟩)) rfl (fun W hW => ?_) ?_
  ·obtain ⟨hx,hy⟩ := hW
   have h0 := hx.cell 0
   have g0 := hy.cell 0
   have g1 := hy.cell 1
   have g2 := hy.cell 2
   have g3 := hy.cell 3
   have g4 := hy.cell 4
   have g5 := hy.cell 5
   go_simp
  go_simp
  refine early_step (.pointer (some ⟨b,0,none⟩)) rfl (fun W hW => ?_) ?_
  ·obtain ⟨hx,hy⟩ := hW
   have h0 := hx.cell 0
   have g0 := hy.cell 0
   have g1 := hy.cell 1
   have g2 := hy.cell 2
   have g3 := hy.cell 3
   have g4 := hy.cell 4
   have g5 := hy.cell 5
   go_simp
  go_simp
  refine early_step (.pointer (some ⟨b,0,none⟩)) rfl (fun W hW => ?_) ?_
  ·obtain ⟨hx,hy⟩ := hW
   have h0 := hx.cell 0
   have g0 := hy.cell 0
   have g1 := hy.cell 1
   have g2 := hy.cell 2
   have g3 := hy.cell 3
   have g4 := hy.cell 4
   have g5 := hy.cell 5
   go_simp
  go_simp
  refine early_step (.slice A n c) rfl (fun W hW => ?_) ?_
  ·obtain ⟨hx,hy⟩ := hW
   have h0 := hx.cell 0
   have g0 := hy.cell 0
   have g1 := hy.cell 1
   have g2 := hy.cell 2
   have g3 := hy.cell 3
   have g4 := hy.cell 4
   have g5 := hy.cell 5
   go_simp
  go_simp
  refine early_step (.agg #[.int .i64 t1,.int .i64 t2,.int .i64 t3,.int .i64 t4,.int .i64 t5,.slice A3 nm c3]) rfl (fun W hW => ?_) ?_
  ·obtain ⟨hx,hy⟩ := hW
   have h0 := hx.cell 0
   have g0 := hy.cell 0
   have g1 := hy.cell 1
   have g2 := hy.cell 2
   have g3 := hy.cell 3
   have g4 := hy.cell 4
   have g5 := hy.cell 5
   go_simp
  go_simp
  change RestW _ _ _ _ _ (_ :: _ :: []) _ _
  unfold RestW
  go_wp2_with fail
  refine ⟨⟨(HL4.out.drew).alloc _,(HM4.out.drew).alloc _⟩,?_⟩
  unfold RestW
  change wpList _ _ _ (_ :: []) _ (w4.drew.alloc (.cells #[.int .i64 t1,.int .i64 t2,.int .i64 t3,.int .i64 t4,.int .i64 t5,.slice A3 nm c3] 259))
  go_wp2_with (at_builtin; go_must (refine wpList_pushL (w := w4.drew) slMsg rfl _ _ rfl 0 (.slice A n c) n (msV ms) rfl (show w4.drew.ownsRow 0 259 6 (.slice A n c) n (msV ms) from HOR.out) #[.int .i64 t1,.int .i64 t2,.int .i64 t3,.int .i64 t4,.int .i64 t5,.slice A3 nm c3] w4.drew.heap.size rfl rfl rfl (msgV_one ((t1,t2,t3,t4,t5),(A3,nm,c3))) (by unfold maxLen; omega) (by omega) (by omega) ?_); go_must (intro A' c' w6 hown6 hb6 hg6 hat6))
  have hg6' : w4.grownBy w6 (Value.slice A n c).ownBlock := gr_below_first ((Below.refl w4.heap.size w4).drew) hg6
  have HL5 := hid (HL4.out.other HOR.out hg6' (by decide))
  have HM5 := hid (HM4.out.grown hg6' (fun e => by have := HGR.out _ e.symm; omega))
  have HO6 : Hid (w6.ownsRow 0 259 6 (.slice A' (n + 1) c') (n + 1) (msV (ms ++ [((t1,t2,t3,t4,t5),(A3,nm,c3))]))) := hid (by rw [msV_append]; exact hown6)
  have HG6 := hid hg6'
  have HA6 := hid hat6
  clear hown6 hb6 hg6 hg6' hat6 c0 c2 lb4
  refine ⟨⟨HL5.out,HM5.out⟩,?_⟩
  unfold RestW
  change wpList _ _ _ (_ :: _ :: _ :: []) _ _
  have v1 : w6.cell? ⟨b,0,none⟩ = some (.slice A n c) := HL5.out.cell 0
  have f1 := HL5.out.frozen 0
  have l6 := HL5.out.lt
  go_wp2_with fail
  refine NoPanic.normal ?_
  have hg7 := (lnk_set0 HL5.out A' (n + 1) c').1
  have HL7 := hid (lnk_set0 HL5.out A' (n + 1) c').2
  have HO7 := hid (HO6.out.kept hg7 (.inr (own_blk_ne HO6.out HL5.out (by decide))))
  obtain ⟨w7,hw7⟩ : ∃ w7,w6.setCell ⟨b,0,none⟩ (.slice A' (n + 1) c') = w7 := ⟨_,rfl⟩
  rw [hw7] at hg7 HL7 HO7 ⊢
  have HV6 := own_kept_other HO4.out HOR.out (by decide) HG6.out
  have HV7 := hid (HV6.kept hg7 (.inr (own_blk_ne HV6 HL5.out (by decide))))
  have HG7 := hid hg7
  clear hw7 hg7 v1 f1 l6
  obtain ⟨s,rfl⟩ : ∃ s,s = n := ⟨_,rfl⟩
  have c2 : w7.cell? ⟨b,2,none⟩ = some (.int .i64 s) := HL7.out.cell 2
  have f2 := HL7.out.frozen 2
  have l7 := HL7.out.lt
  obtain ⟨s1,hs1⟩ : ∃ s1,s + 1 = s1 := ⟨_,rfl⟩
  have hwr : IntKind.i64.wrap ((s : Int) + 1) = (s1 : Int) := by rw [show (s : Int) + 1 = (s1 : Int) by omega]; exact IntWalk.i64_in _ (by omega)
  have HS1 := hid hs1
  have hr1 : r <= s1 := by omega
  have hs19 : s1 <= 1000000000 := by omega
  clear hs1
  go_wp2_with fail
  go_region
  have hg8 : w7.grownBy (w7.setCell ⟨b,2,none⟩ (.int .i64 s1)).drew (some b) := gr_drew (gr_set (p := ⟨b,2,none⟩) (World.grownBy.refl w7 _) (.inl rfl) _)
  have HL8 := hid (lnk_set2 HL7.out s1).2.drew
  obtain ⟨w8,hw8⟩ : ∃ w8,(w7.setCell ⟨b,2,none⟩ (.int .i64 s1)).drew = w8 := ⟨_,rfl⟩
  rw [hw8] at hg8 HL8 ⊢
  have HG8 := hid hg8
  clear hw8 hg8 c2 f2 l7
  have c4 : w8.cell? ⟨b,4,none⟩ = some (.int .i64 pk) := HL8.out.cell 4
  have l8 := HL8.out.lt
  go_wp2_with fail
  refine wp_region_early (Kept w8) [0,1,2,3,4,5] [6,7] [8,9,10] (by kernel_rfl) (by kernel_rfl) (Kept.start w8) ?_
  simp only [List.filterMap_cons,List.filterMap_nil,List.getElem?_cons_succ,List.getElem?_cons_zero]
  refine early_step (.pointer (some ⟨b,0,none⟩)) rfl (fun W hW => ?_) ?_
  ·obtain ⟨hc,-,-⟩ := hW
   go_simp
  go_simp
  refine early_step (.pointer (some ⟨b,0,none⟩)) rfl (fun W hW => ?_) ?_
  ·obtain ⟨hc,-,-⟩ := hW
   go_simp
  go_simp
  refine early_step (.pointer (some ⟨b,0,none⟩)) rfl (fun W hW => ?_) ?_
  ·obtain ⟨hc,-,-⟩ := hW
   go_simp
  go_simp
  refine early_step (.pointer (some ⟨b,4,none⟩)) rfl (fun W hW => ?_) ?_
  ·obtain ⟨hc,-,-⟩ := hW
   go_simp
  go_simp
  refine early_step (.int .i64 pk) rfl (fun W hW => ?_) ?_
  ·obtain ⟨hc,-,-⟩ := hW
   go_simp
  go_simp
  refine early_step (.pointer (some ⟨b,0,none⟩)) rfl (fun W hW => ?_) ?_
  ·obtain ⟨hc,-,-⟩ := hW
   go_simp
  go_simp
  change RestW _ _ _ _ _ (_ :: _ :: []) _ _
  unfold RestW
  go_wp2_with fail
  ((with_reducible refine (HLN.out A' (s + 1) c' pk s1 _ hr1 hs19 HL8.out.drew).mono ?_); rintro e w9 ⟨rfl,mm,hw9⟩)
  have hk9 : Kept w8 w9 := by rw [hw9]; exact (Kept.start w8).drewN mm
  clear hw9
  go_wp2_with fail
  refine ⟨hk9,?_⟩
  have HL9 := hid (HL8.out.kept hk9.2.2)
  have HG9 := hid (gr_call HG8.out hk9.2.2)
  have HO9 := hid (HO7.out.kept HG9.out (.inr (own_blk_ne HO7.out HL7.out (by decide))))
  have HV9 := hid (HV7.out.kept HG9.out (.inr (own_blk_ne HV7.out HL7.out (by decide))))
  have HFIN : Hid (∀ x : Int,SendRet S w b cp s r q (t1,t2,t3,t4,t5) vs (.returned (.int .i64 0)) (w9.setCell ⟨b,4,none⟩ (.int .i64 x))) := hid (by
   have hL9 := HL9.out
   rw [<- HS1.out] at hL9
   refine send_fin HI.out hroom hs9 (((((But.of_below _ HB4.out).trans (But.of_own HG6.out (fun g hg => .inr hg))).trans (But.of_gr HG7.out (.inl rfl))).trans (But.of_gr HG9.out (.inl rfl)))) hL9 HO9.out (fun k hk => ?_) (by simp [hlen]) (by omega) (fun j hj => List.getElem?_append_left (by rw [hlen]; exact Nat.lt_of_le_of_lt (Nat.mod_le _ _) (by omega))) ?_ HV9.out HN3.out hnm
   ·rcases HA6.out k hk with h | h
    ·exact .inl h
    ·exact .inr (by have := HB4.out.size; have e : w4.drew.heap.size = w4.heap.size := rfl; omega)
   ·rw [HP.out,hpn,List.getElem?_append_right (by omega),hlen]; simp)
  unfold RestW
  change wpList _ _ _ (_ :: []) _ _
  have c4 : w9.cell? ⟨b,4,none⟩ = some (.int .i64 pk) := HL9.out.cell 4
  have f4 := HL9.out.frozen 4
  have l9 := HL9.out.lt
  go_wp2_with fail
  all_goals refine ⟨hk9,?_⟩
  all_goals unfold RestW
  all_goals change wpList _ _ _ (_ :: _ :: _ :: []) _ _
  all_goals go_wp2_with fail
  all_goals refine NoPanic.normal ?_
  all_goals go_wp2_with fail
  all_goals go_ret
  all_goals exact HFIN.out _
 ·obtain rfl : n = cp := by omega
  have hpn : p < n := by rw [<- hpp]; exact Nat.mod_lt _ hcp1
  have e1 : decide ((p : Int) < (n : Int)) = true := decide_eq_true (by omega)
  clear hnn hpp
  obtain ⟨m0,hm0⟩ : ∃ m0,ms[p]? = some m0 := ⟨_,List.getElem?_eq_getElem (by omega)⟩
  obtain ⟨g,rfl,lg,hc⟩ := own_msg HOR.out hm0 hpn
  obtain ⟨⟨u1,u2,u3,u4,u5⟩,ua,un,uc⟩ := m0
  have q0 : w4.cell? ⟨g,p * 6,none⟩ = some (.int .i64 u1) := hc 0 (by omega)
  have q1 : w4.cell? ⟨g,p * 6 + 1,none⟩ = some (.int .i64 u2) := hc 1 (by omega)
  have q2 : w4.cell? ⟨g,p * 6 + 2,none⟩ = some (.int .i64 u3) := hc 2 (by omega)
  have q3 : w4.cell? ⟨g,p * 6 + 3,none⟩ = some (.int .i64 u4) := hc 3 (by omega)
  have q4 : w4.cell? ⟨g,p * 6 + 4,none⟩ = some (.int .i64 u5) := hc 4 (by omega)
  have q5 : w4.cell? ⟨g,p * 6 + 5,none⟩ = some (.slice ua un uc) := hc 5 (by omega)
  have hfz : ∀ o,w4.frozen? ⟨g,o,none⟩ = false := fun o => by
   obtain ⟨cur,hcur⟩ := own_cells HOR.out
   simp [World.frozen?,hcur]
  have z0 := hfz (p * 6)
  have z1 := hfz (p * 6 + 1)
  have z2 := hfz (p * 6 + 2)
  have z3 := hfz (p * 6 + 3)
  have z4 := hfz (p * 6 + 4)
  have z5 := hfz (p * 6 + 5)
  have g0 := HM4.out.cell 0
  have g1 := HM4.out.cell 1
  have g2 := HM4.out.cell 2
  have g3 := HM4.out.cell 3
  have g4 := HM4.out.cell 4
  have g5 := HM4.out.cell 5
  have lm4 := HM4.out.lt
  have i1 : (0 : Int) <= (p : Int) := by omega
  have i2 : (p : Int) < (n : Int) := by omega
  clear hc hfz
  go_wp2_with fail
  go_region
  obtain ⟨hO7,hg7⟩ := own_setMsg HOR.out ((t1,t2,t3,t4,t5),(A3,nm,c3)) (show p < ms.length by omega)
  dsimp only at hO7 hg7
  have HL7 := hid ((HL4.out.other HOR.out hg7 (by decide)).drew)
  have HV7 := hid (own_kept_other HO4.out HOR.out (by decide) (gr_drew hg7))
  obtain ⟨w7,hw7⟩ : ∃ w7,((((((w4.setCell ⟨g,p * 6,none⟩ (.int .i64 t1)).setCell ⟨g,p * 6 + 1,none⟩ (.int .i64 t2)).setCell ⟨g,p * 6 + 2,none⟩ (.int .i64 t3)).setCell ⟨g,p * 6 + 3,none⟩ (.int .i64 t4)).setCell ⟨g,p * 6 + 4,none⟩ (.int .i64 t5)).setCell ⟨g,p * 6 + 5,none⟩ (.slice A3 nm c3)).drew = w7 := ⟨_,rfl⟩
  have HG7 : Hid (w4.grownBy w7 (some g)) := hid (by rw [<- hw7]; exact gr_drew hg7)
  have HO7 : Hid (w7.ownsRow 0 259 6 (.slice (some ⟨g,0,none⟩) n c) n (msV (ms.set p ((t1,t2,t3,t4,t5),(A3,nm,c3))))) := hid (by rw [<- hw7]; exact own_drew hO7)
  rw [hw7] at HL7 HV7 ⊢
  clear hw7 hO7 hg7 q0 q1 q2 q3 q4 q5 z0 z1 z2 z3 z4 z5 g0 g1 g2 g3 g4 g5 lm4 c0 c2 lb4 i1 i2
  obtain ⟨cp,rfl⟩ : ∃ cp,cp = n := ⟨_,rfl⟩
  have c2 : w7.cell? ⟨b,2,none⟩ = some (.int .i64 s) := HL7.out.cell 2
  have f2 := HL7.out.frozen 2
  have l7 := HL7.out.lt
  obtain ⟨s1,hs1⟩ : ∃ s1,s + 1 = s1 := ⟨_,rfl⟩
  have hwr : IntKind.i64.wrap ((s : Int) + 1) = (s1 : Int) := by rw [show (s : Int) + 1 = (s1 : Int) by omega]; exact IntWalk.i64_in _ (by omega)
  have HS1 := hid hs1
  have hr1 : r <= s1 := by omega
  have hs19 : s1 <= 1000000000 := by omega
  clear hs1
  go_wp2_with fail
  go_region
  have hg8 : w7.grownBy (w7.setCell ⟨b,2,none⟩ (.int .i64 s1)).drew (some b) := gr_drew (gr_set (p := ⟨b,2,none⟩) (World.grownBy.refl w7 _) (.inl rfl) _)
  have HL8 := hid (lnk_set2 HL7.out s1).2.drew
  obtain ⟨w8,hw8⟩ : ∃ w8,(w7.setCell ⟨b,2,none⟩ (.int .i64 s1)).drew = w8 := ⟨_,rfl⟩
  rw [hw8] at hg8 HL8 ⊢
  have HG8 := hid hg8
  clear hw8 hg8 c2 f2 l7
  have c4 : w8.cell? ⟨b,4,none⟩ = some (.int .i64 pk) := HL8.out.cell 4
  have l8 := HL8.out.lt
  go_wp2_with fail
  refine wp_region_early (Kept w8) [0,1,2,3,4,5] [6,7] [8,9,10] (by kernel_rfl) (by kernel_rfl) (Kept.start w8) ?_
  simp only [List.filterMap_cons,List.filterMap_nil,List.getElem?_cons_succ,List.getElem?_cons_zero]
  refine early_step (.pointer (some ⟨b,0,none⟩)) rfl (fun W hW => ?_) ?_
  ·obtain ⟨hc,-,-⟩ := hW
   go_simp
  go_simp
  refine early_step (.pointer (some ⟨b,0,none⟩)) rfl (fun W hW => ?_) ?_
  ·obtain ⟨hc,-,-⟩ := hW
   go_simp
  go_simp
  refine early_step (.pointer (some ⟨b,0,none⟩)) rfl (fun W hW => ?_) ?_
  ·obtain ⟨hc,-,-⟩ := hW
   go_simp
  go_simp
  refine early_step (.pointer (some ⟨b,4,none⟩)) rfl (fun W hW => ?_) ?_
  ·obtain ⟨hc,-,-⟩ := hW
   go_simp
  go_simp
  refine early_step (.int .i64 pk) rfl (fun W hW => ?_) ?_
  ·obtain ⟨hc,-,-⟩ := hW
   go_simp
  go_simp
  refine early_step (.pointer (some ⟨b,0,none⟩)) rfl (fun W hW => ?_) ?_
  ·obtain ⟨hc,-,-⟩ := hW
   go_simp
  go_simp
  change RestW _ _ _ _ _ (_ :: _ :: []) _ _
  unfold RestW
  go_wp2_with fail
  ((with_reducible refine (HLN.out (some ⟨g,0,none⟩) (cp) c pk s1 _ hr1 hs19 HL8.out.drew).mono ?_); rintro e w9 ⟨rfl,mm,hw9⟩)
  have hk9 : Kept w8 w9 := by rw [hw9]; exact (Kept.start w8).drewN mm
  clear hw9
  go_wp2_with fail
  refine ⟨hk9,?_⟩
  have HL9 := hid (HL8.out.kept hk9.2.2)
  have HG9 := hid (gr_call HG8.out hk9.2.2)
  have HO9 := hid (HO7.out.kept HG9.out (.inr (own_blk_ne HO7.out HL7.out (by decide))))
  have HV9 := hid (HV7.out.kept HG9.out (.inr (own_blk_ne HV7.out HL7.out (by decide))))
  have HFIN : Hid (∀ x : Int,SendRet S w b cp s r q (t1,t2,t3,t4,t5) vs (.returned (.int .i64 0)) (w9.setCell ⟨b,4,none⟩ (.int .i64 x))) := hid (by
   have hL9 := HL9.out
   rw [<- HS1.out] at hL9
   refine send_fin HI.out hroom hs9 ((((But.of_below _ HB4.out).trans (But.of_gr HG7.out (.inr rfl))).trans (But.of_gr HG9.out (.inl rfl)))) hL9 HO9.out (fun k hk => .inl hk) (by simp [hlen]) (by omega) (fun j hj => ?_) ?_ HV9.out HN3.out hnm
   ·rw [List.getElem?_set_ne]
    rw [<- HP.out]
    exact (mod_apart (by omega) (by omega)).symm
   ·rw [HP.out,List.getElem?_set_self (by omega)])
  unfold RestW
  change wpList _ _ _ (_ :: []) _ _
  have c4 : w9.cell? ⟨b,4,none⟩ = some (.int .i64 pk) := HL9.out.cell 4
  have f4 := HL9.out.frozen 4
  have l9 := HL9.out.lt
  go_wp2_with fail
  all_goals refine ⟨hk9,?_⟩
  all_goals unfold RestW
  all_goals change wpList _ _ _ (_ :: _ :: _ :: []) _ _
  all_goals go_wp2_with fail
  all_goals refine NoPanic.normal ?_
  all_goals go_wp2_with fail
  all_goals go_ret
  all_goals exact HFIN.out _
end
end Go.Proofs.YtkmaeipoaoikpaaGreat
