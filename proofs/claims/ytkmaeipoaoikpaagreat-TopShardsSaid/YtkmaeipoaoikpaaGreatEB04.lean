/- Shape, Shape2, Froz. -/
import Derived.Test.YtkmaeipoaoikpaaGreatEB03
namespace Go.Proofs.YtkmaeipoaoikpaaGreat
set_option linter.all false
set_option maxRecDepth 100000
set_option maxHeartbeats 4000000
open Lib (hid)
section
open Go.RowKit
def wrongS (l : List Int) : Bool := l.any fun x => decide (x < 1) || decide (1048576 < x)
theorem wrongS_here {l : List Int} {k : Nat} {x : Int} (hx : l[k]? = some x) (h : x < 1 \/ 1048576 < x) : wrongS l = true := by
 unfold wrongS
 rw [List.any_eq_true]
 exact ⟨x,List.mem_of_getElem? hx,by simpa using h⟩
theorem wrongS_none {l : List Int} {n : Nat} (hl : l.length = n) (h : ∀ i x,i < n -> l[i]? = some x -> 1 <= x /\ x <= 1048576) : wrongS l = false := by
 unfold wrongS
 rw [List.any_eq_false]
 intro x hx
 obtain ⟨i,hi,rfl⟩ := List.mem_iff_getElem.1 hx
 have := h i _ (by omega) (List.getElem?_eq_getElem hi)
 simp; omega
theorem wrongS_at {l : List Int} (h : wrongS l = false) {k : Nat} {x : Int} (hx : l[k]? = some x) : 1 <= x /\ x <= 1048576 := by
 apply Classical.byContradiction
 intro hno
 rw [wrongS_here hx (by omega)] at h
 cases h
def cntS (l : List Int) : Nat -> Int
 | 0 => 0
 | k + 1 => cntS l k + (l.getD k 0 + 1) * l.getD (k + 1) 0
theorem prodS {x y : Int} (hx : 1 <= x /\ x <= 1048576) (hy : 1 <= y /\ y <= 1048576) : 0 <= x * y /\ x * y <= 1099511627776 := by
 have h1 := Int.mul_nonneg (show 0 <= x by omega) (show 0 <= y by omega)
 have h2 : x * y <= 1048576 * 1048576 := Int.mul_le_mul hx.2 hy.2 (by omega) (by omega)
 omega
theorem cntS_bound {l : List Int} (h : wrongS l = false) : ∀ k : Nat,k < l.length \/ k = 0 -> 0 <= cntS l k /\ cntS l k <= (k : Int) * 1099512676352
 | 0,_ => by simp [cntS]
 | k + 1,hk => by
  have ih := cntS_bound h k (by omega)
  have hx := wrongS_at h (List.getElem?_eq_getElem (show k < l.length by omega))
  have hy := wrongS_at h (List.getElem?_eq_getElem (show k + 1 < l.length by omega))
  have hp := prodS hx hy
  rw [cntS,show l.getD k 0 = l[k]'(by omega) by simp [List.getD,show k < l.length by omega],show l.getD (k + 1) 0 = l[k + 1]'(by omega) by simp [List.getD,show k + 1 < l.length by omega],Int.add_mul,Int.one_mul]
  omega
def sizesB (l : List Int) : Bool := decide (2 <= l.length) && decide (l.length <= 16) && !wrongS l && decide (cntS l (l.length - 1) <= 1048576)
end
section
open Go.RowKit
variable (A : Option Addr) (n cap : Nat) (l : List Int) (w : World)
theorem indexWrong_any (hl : l.length = n) (h : Rd w 1 A n (iv l)) (hn : n <= 1000000) :
  Calls Tryz.prog 180 #[.slice A n cap,.func (.func 101) #[] #[]] w fun e w' => ∃ v : Int,e = .returned (.int .i64 v) /\ decide (0 <= v) = wrongS l /\ w = w' := by
 have HL := hid hl
 have HR := hid h
 clear hl h
 go_enter Tryz.func180,Tryz.ntmps180
 go_wp2_with fail
 go_loop [8] (fun c => ∃ k : Nat,k <= n /\ c = .int .i64 k /\ Hid (∀ j x,j < k -> l[j]? = some x -> 1 <= x /\ x <= 1048576)) (fun c => n - (intOf c).toNat)
 case atStart => exact ⟨0,by omega,rfl,hid (fun j x h => by omega)⟩
 case round =>
  obtain ⟨k,hk,rfl,he⟩ := hrel
  by_cases hlt : k < n
  ·obtain ⟨b,o,x,rfl,hbl,hx,c1⟩ := iv_at HL.out HR.out hlt
   have HX := hid hx
   clear hx
   by_cases hlow : x < 1
   ·go_wp2
    go_ret
    exact ⟨k,rfl,by rw [wrongS_here HX.out (.inl hlow)]; simp,rfl⟩
   ·by_cases hhi : 1048576 < x
    ·go_wp2
     go_ret
     exact ⟨k,rfl,by rw [wrongS_here HX.out (.inr hhi)]; simp,rfl⟩
    ·go_wp2
     go_round
     case rel =>
      refine ⟨k + 1,by omega,by go_num,hid (fun j y hj hy => ?_)⟩
      by_cases hjk : j < k
      ·exact he.out j y hjk hy
      ·obtain rfl : j = k := by omega
       rw [HX.out] at hy
       injection hy with hy
       omega
     case measure => simp [intOf]; omega
  ·obtain rfl : k = n := by omega
   go_wp2
   go_ret
   exact ⟨-1,rfl,by rw [wrongS_none HL.out he.out]; rfl,rfl⟩
theorem containsWrong_any (hl : l.length = n) (h : Rd w 1 A n (iv l)) (hn : n <= 1000000) :
  Calls Tryz.prog 102 #[.slice A n cap,.func (.func 101) #[] #[]] w fun e w' => e = .returned (.bool (wrongS l)) /\ w = w' := by
 have HL := hid hl
 have HR := hid h
 clear hl h
 go_enter Tryz.func102,Tryz.ntmps102
 go_wp2_with fail
 ((with_reducible refine (indexWrong_any A n cap l _ HL.out HR.out hn).mono ?_); rintro e w1 ⟨v,rfl,hv,rfl⟩)
 have HV := hid hv
 clear hv
 go_wp2_with fail
 go_ret
 exact ⟨ret_bool HV.out,rfl⟩
theorem refCount08_any (hl : l.length = n) (h : Rd w 1 A n (iv l)) (hn : n <= 16) (hw : wrongS l = false) :
  Calls Tryz.prog 37 #[.slice A n cap] w fun e w' => e = .returned (.int .i64 (cntS l (n - 1))) /\ Below w.heap.size w w' := by
 have HL := hid hl
 have HR := hid h
 have HW := hid hw
 clear hl h hw
 go_enter Tryz.func37,Tryz.ntmps37
 go_wp2_with fail
 go_loopw [3,4] (fun s i wr => ∃ (k : Nat) (c : Int),(k < n \/ k = 0) /\ i = .int .i64 k /\ s = .int .i64 c /\ Hid (c = cntS l k) /\ Below w.heap.size w wr) (fun _ i _ => n - (intOf i).toNat)
 case atStart => exact ⟨0,0,.inr rfl,rfl,rfl,hid rfl,Below.refl _ _⟩
 case round =>
  obtain ⟨k,c,hk,rfl,rfl,hc,hb⟩ := hrel
  by_cases hlt : k + 1 < n
  ·obtain ⟨b,o,x,rfl,hbl,hx,c1⟩ := iv_at HL.out (HR.out.below hb) (show k < n by omega)
   obtain ⟨b',o',y,hA,hbl',hy,c2⟩ := iv_at HL.out (HR.out.below hb) hlt
   injection hA with hA
   injection hA with e1 e2
   subst e1 e2
   have wx := wrongS_at HW.out hx
   have wy := wrongS_at HW.out hy
   have hp := prodS wx wy
   have hcb := cntS_bound HW.out k (by rw [HL.out]; omega)
   rw [<- hc.out] at hcb
   have HN : Hid (cntS l (k + 1) = c + (x + 1) * y) := hid (by rw [cntS,<- hc.out]; simp [List.getD,hx,hy])
   have hxy : (x + 1) * y = x * y + y := by rw [Int.add_mul,Int.one_mul]
   obtain ⟨p,hpp⟩ : ∃ p,(x + 1) * y = p := ⟨_,rfl⟩
   have hpb : 0 <= p /\ p <= 1099512676352 := by rw [<- hpp,hxy]; omega
   have hk16 : (k : Int) * 1099512676352 <= 17592202821632 := by omega
   have hw1 : IntKind.i64.wrap ((x + 1) * y) = p := by rw [hpp]; exact IntWalk.i64_in _ (by omega)
   have hcc : 0 <= c /\ c <= 17592202821632 := by omega
   rw [hpp] at HN
   have HB := hid hb
   have i1 : (0 : Int) <= (k : Int) := by omega
   have i2 : (k : Int) < (n : Int) := by omega
   have i3 : (k : Int) + 1 < (n : Int) := by omega
   have i4 : (0 : Int) <= (k : Int) + 1 := by omega
   have e9 : decide ((k : Int) + 1 < (n : Int)) = true := decide_eq_true (by omega)
   have c3 : wr.cell? ⟨b,o + (k + 1),none⟩ = some (.int .i64 y) := c2
   clear hx hy hp hcb hxy hpp hc hb hk16
   go_wp2_with fail
   go_region
   go_wp2_with fail
   go_roundw
   case rel => exact ⟨k + 1,c + p,.inl hlt,by go_num,rfl,hid HN.out.symm,HB.out.drew⟩
   case measure => simp [intOf]; omega
  ·have e9 : decide ((k : Int) + 1 < (n : Int)) = false := decide_eq_false (by omega)
   have HK : Hid (c = cntS l (n - 1)) := hid (by rw [hc.out]; congr 1; omega)
   go_wp2_with fail
   go_ret
   exact ⟨ret_int HK.out,hb⟩
def CodeRet (ok : Bool) (w : World) (e : Ending) (w' : World) : Prop := ∃ c : Int,e = .returned (.int .i64 c) /\ (c = 0 ↔ ok = true) /\ Below w.heap.size w w'
theorem refCheck08_any (hl : l.length = n) (h : Rd w 1 A n (iv l)) (hn : n <= 1000) :
  Calls Tryz.prog 98 #[.slice A n cap] w (CodeRet (sizesB l) w) := by
 by_cases h2 : n < 2
 ·have e1 : decide ((n : Int) < 2) = true := decide_eq_true (by omega)
  have hs : sizesB l = false := by rw [sizesB,hl,decide_eq_false (by omega)]; rfl
  rw [hs]
  clear h hl hs
  go_enter Tryz.func98,Tryz.ntmps98
  go_wp2_with fail
  go_ret
  exact ⟨5,rfl,by simp,Below.refl _ _⟩
 ·by_cases h16 : 16 < n
  ·have e1 : decide ((n : Int) < 2) = false := decide_eq_false (by omega)
   have e2 : decide ((16 : Int) < (n : Int)) = true := decide_eq_true (by omega)
   have hs : sizesB l = false := by rw [sizesB,hl,decide_eq_false (show ¬ n <= 16 by omega)]; simp
   rw [hs]
   clear h hl hs
   go_enter Tryz.func98,Tryz.ntmps98
   go_wp2_with fail
   go_ret
   exact ⟨5,rfl,by simp,Below.refl _ _⟩
  ·have e1 : decide ((n : Int) < 2) = false := decide_eq_false (by omega)
   have e2 : decide ((16 : Int) < (n : Int)) = false := decide_eq_false (by omega)
   have HL := hid hl
   have HR := hid h
   have HNO : Hid (wrongS l = true -> sizesB l = false) := hid (fun h => by rw [sizesB,h]; simp)
   have HY : Hid (wrongS l = false -> sizesB l = decide (cntS l (n - 1) <= 1048576)) := hid (fun h => by rw [sizesB,h,hl,decide_eq_true (show 2 <= n by omega),decide_eq_true (show n <= 16 by omega)]; simp)
   obtain ⟨q,hq⟩ : ∃ q,sizesB l = q := ⟨_,rfl⟩
   rw [hq] at HNO HY ⊢
   clear h hl hq
   go_enter Tryz.func98,Tryz.ntmps98
   go_wp2_with fail
   go_loopw [3] (fun i wr => ∃ k : Nat,k <= n /\ i = .int .i64 k /\ wr = w /\ Hid (∀ j x,j < k -> l[j]? = some x -> 1 <= x /\ x <= 1048576)) (fun i _ => n - (intOf i).toNat)
   case atStart => exact ⟨0,by omega,rfl,rfl,hid (fun j x h => by omega)⟩
   case round =>
    obtain ⟨k,hk,rfl,hwr,he⟩ := hrel
    subst hwr
    by_cases hlt : k < n
    ·obtain ⟨b,o,x,rfl,hbl,hx,c1⟩ := iv_at HL.out HR.out hlt
     have HX := hid hx
     have i1 : (0 : Int) <= (k : Int) := by omega
     have i2 : (k : Int) < (n : Int) := by omega
     clear hx
     by_cases hlow : x < 1
     ·have f1 : decide (x < 1) = true := decide_eq_true hlow
      have HQ := hid (HNO.out (wrongS_here HX.out (.inl hlow)))
      go_wp2_with fail
      go_ret
      exact ⟨5,rfl,by rw [HQ.out]; simp,Below.refl _ _⟩
     ·have f1 : decide (x < 1) = false := decide_eq_false hlow
      by_cases hhi : 1048576 < x
      ·have f2 : decide (1048576 < x) = true := decide_eq_true hhi
       have HQ := hid (HNO.out (wrongS_here HX.out (.inr hhi)))
       go_wp2_with fail
       go_ret
       exact ⟨5,rfl,by rw [HQ.out]; simp,Below.refl _ _⟩
      ·have f2 : decide (1048576 < x) = false := decide_eq_false hhi
       go_wp2_with fail
       go_roundw
       case rel =>
        refine ⟨k + 1,by omega,by go_num,trivial,hid (fun j y hj hy => ?_)⟩
        by_cases hjk : j < k
        ·exact he.out j y hjk hy
        ·obtain rfl : j = k := by omega
         rw [HX.out] at hy
         injection hy with hy
         omega
       case measure => simp [intOf]; omega
    ·obtain rfl : k = n := by omega
     have hwf : wrongS l = false := wrongS_none HL.out he.out
     have C := refCount08_any A k cap l wr HL.out HR.out (by omega) hwf
     have HQ := hid (HY.out hwf)
     have hcb := cntS_bound hwf (k - 1) (by rw [HL.out]; omega)
     obtain ⟨c,hc⟩ : ∃ c,cntS l (k - 1) = c := ⟨_,rfl⟩
     rw [hc] at C HQ hcb
     have HC := hid C
     clear C hc hwf
     by_cases hbig : 1048576 < c
     ·have f1 : decide (1048576 < c) = true := decide_eq_true hbig
      go_wp2_with fail
      ((with_reducible refine HC.out.mono ?_); rintro e w1 ⟨rfl,hb1⟩)
      go_wp2_with fail
      go_ret
      exact ⟨4,rfl,by rw [HQ.out]; simp; omega,hb1⟩
     ·have f1 : decide (1048576 < c) = false := decide_eq_false hbig
      go_wp2_with fail
      ((with_reducible refine HC.out.mono ?_); rintro e w1 ⟨rfl,hb1⟩)
      go_wp2_with fail
      go_ret
      exact ⟨0,rfl,by rw [HQ.out]; simp; omega,hb1⟩
end
section
open Go.RowKit
theorem sset3 {w : World} {g : Nat} {t : TypeId} {x y z u : Value} (h : Blk w g t #[x,y,z,u]) (v : Value) :
  w.grownBy (w.setCell ⟨g,3,none⟩ v) (some g) /\ Blk (w.setCell ⟨g,3,none⟩ v) g t #[x,y,z,v] :=
 ⟨gr_set (p := ⟨g,3,none⟩) (World.grownBy.refl w _) (.inl rfl) v,by simpa using h.set_ 3 v⟩
theorem sset1 {w : World} {g : Nat} {t : TypeId} {x y z u : Value} (h : Blk w g t #[x,y,z,u]) (v : Value) :
  w.grownBy (w.setCell ⟨g,1,none⟩ v) (some g) /\ Blk (w.setCell ⟨g,1,none⟩ v) g t #[x,v,z,u] :=
 ⟨gr_set (p := ⟨g,1,none⟩) (World.grownBy.refl w _) (.inl rfl) v,by simpa using h.set_ 1 v⟩
theorem sset2 {w : World} {g : Nat} {t : TypeId} {x y z u : Value} (h : Blk w g t #[x,y,z,u]) (v : Value) :
  w.grownBy (w.setCell ⟨g,2,none⟩ v) (some g) /\ Blk (w.setCell ⟨g,2,none⟩ v) g t #[x,y,v,u] :=
 ⟨gr_set (p := ⟨g,2,none⟩) (World.grownBy.refl w _) (.inl rfl) v,by simpa using h.set_ 2 v⟩
theorem shapeNext_any (gs bs : Nat) (sz ws bi : Value) (c m : Int) (w : World) (h1 : Blk w gs 98 #[.pointer (some ⟨bs,0,none⟩)]) (h2 : Blk w bs 228 #[sz,ws,bi,.int .i64 c])
  (hc : 0 <= c /\ c <= 1000000000000000) (hm : 0 <= m /\ m <= 1000000000000000) :
  Calls Tryz.prog 103 #[.int .i64 m,.pointer (some ⟨gs,0,none⟩)] w fun e w' => e = .returned (.agg #[.int .i64 c,.int .i64 (c + m)]) /\ Blk w' bs 228 #[sz,ws,bi,.int .i64 (c + m)] /\ w.grownBy w' (some bs) := by
 have hne : gs ≠ bs := h1.ne_ h2 (by decide)
 have c0 : w.cell? ⟨gs,0,none⟩ = some (.pointer (some ⟨bs,0,none⟩)) := h1.cell 0
 have c3 : w.cell? ⟨bs,3,none⟩ = some (.int .i64 c) := h2.cell 3
 have f3 := h2.frozen 3
 have l1 := h1.lt
 have l2 := h2.lt
 have hw : IntKind.i64.wrap (c + m) = c + m := IntWalk.i64_in _ (by omega)
 have H2 := hid h2
 clear h1 h2
 go_enter Tryz.func103,Tryz.ntmps103
 go_wp2_with fail
 go_region
 go_wp2
 have hst := sset3 H2.out (.int .i64 (c + m))
 exact bodyPost_ret (v := .agg #[.int .i64 c,.int .i64 (c + m)]) (by simp [results,Tryz.results103,go_sem]) rfl ⟨rfl,((hst.2.alloc _).alloc _).drew,gr_drew (gr_alloc (gr_alloc hst.1 _) _)⟩
theorem cloneN_any (A : Option Addr) (n cap : Nat) (l : List Int) (w : World) (hl : l.length = n) (h : Rd w 1 A n (iv l)) (hn : n <= 1000000) :
  Calls Tryz.prog 87 #[.slice A n cap] w (OwnRet w 3 1 n (iv l)) := by
 have HR := hid h
 have HL := hid hl
 have hq := fun (w : World) (a : Option Addr) (n c : Nat) => Lib.run_eql_slice_nil (P := Tryz.prog) w 22 3 a n c 0 0 Tryz.underlying22
 clear h hl
 cases A with
 | none =>
  have hn0 : n = 0 := by
   rcases Nat.eq_zero_or_pos n with h0 | h0
   ·exact h0
   ·obtain ⟨b,o,h,_⟩ := HR.out.2 h0; cases h
  subst hn0
  have hl0 : l = [] := List.eq_nil_of_length_eq_zero HL.out
  subst hl0
  go_enter Tryz.func87,Tryz.ntmps87
  go_wp2
  go_ret
  exact ⟨none,0,rfl,by simpa [iv] using World.ownsRow_nil _ _ _ _,Below.refl _ _⟩
 | some ad =>
  go_enter Tryz.func87,Tryz.ntmps87
  go_wp2_with (at_builtin; go_must (refine wpList_appendAll slInt rfl _ _ rfl w.heap.size _ 0 [] rfl (World.ownsRow_lit w #[] 0 (Nat.le_refl _) (by unfold maxLen; omega) rfl) (some ad) n cap (iv l) rfl (HR.out.alloc _) (iv_one l) (by unfold maxLen; omega) (by omega) (by simp) ?_); intro A' cap' w1 hown1 hb1)
  go_ret
  exact ⟨A',cap',by simp,by simpa using hown1,((Below.refl _ _).alloc (Nat.le_refl _) _).trans hb1⟩
def PtrCode (ok : Bool) (w : World) (e : Ending) (w' : World) : Prop := ∃ (pv : Option Addr) (c : Int),e = .returned (.tuple #[.pointer pv,.int .i64 c]) /\ (c = 0 ↔ ok = true) /\ Below w.heap.size w w'
end
section
open Go.RowKit
variable (A : Option Addr) (n cap : Nat) (l : List Int) (w : World)
theorem shapeNew_bad (hl : l.length = n) (h : Rd w 1 A n (iv l)) (hn : n <= 1000000) (hbad : n < 2 \/ 16 < n \/ wrongS l = true) :
  Calls Tryz.prog 39 #[.slice A n cap] w (PtrCode (sizesB l) w) := by
 by_cases h2 : n < 2
 ·have e1 : decide ((n : Int) < 2) = true := decide_eq_true (by omega)
  have hs : sizesB l = false := by rw [sizesB,hl,decide_eq_false (by omega)]; rfl
  rw [hs]
  clear h hl hs hbad
  go_enter Tryz.func39,Tryz.ntmps39
  go_wp2_with fail
  go_ret2
  exact ⟨none,5,rfl,by simp,Below.refl _ _⟩
 ·by_cases h16 : 16 < n
  ·have e1 : decide ((n : Int) < 2) = false := decide_eq_false (by omega)
   have e2 : decide ((16 : Int) < (n : Int)) = true := decide_eq_true (by omega)
   have hs : sizesB l = false := by rw [sizesB,hl,decide_eq_false (show ¬ n <= 16 by omega)]; simp
   rw [hs]
   clear h hl hs hbad
   go_enter Tryz.func39,Tryz.ntmps39
   go_wp2_with fail
   go_ret2
   exact ⟨none,5,rfl,by simp,Below.refl _ _⟩
  ·have hwr : wrongS l = true := by rcases hbad with h | h | h; omega; omega; exact h
   have e1 : decide ((n : Int) < 2) = false := decide_eq_false (by omega)
   have e2 : decide ((16 : Int) < (n : Int)) = false := decide_eq_false (by omega)
   have C := containsWrong_any A n cap l w hl h hn
   rw [hwr] at C
   have HC := hid C
   have hs : sizesB l = false := by rw [sizesB,hwr]; simp
   rw [hs]
   clear h hl hs C hbad hwr
   go_enter Tryz.func39,Tryz.ntmps39
   go_wp2_with fail
   ((with_reducible refine HC.out.mono ?_); rintro e w1 ⟨rfl,rfl⟩)
   go_wp2_with fail
   go_ret2
   exact ⟨none,5,rfl,by simp,Below.refl _ _⟩
theorem own_apart {u v : Value} (h : ∀ g,u.ownBlock = some g -> v.ownBlock ≠ some g) : v.ownBlock = none \/ v.ownBlock ≠ u.ownBlock := by
 cases hv : v.ownBlock with
 | none => exact .inl rfl
 | some g => exact .inr (fun e => h g e.symm hv)
def OwnAny (w : World) (base : Nat) (v : Value) (n : Nat) : Prop := ∃ xs,w.ownsRow base 218 2 v n xs
theorem shapeNew_good (hl : l.length = n) (h : Rd w 1 A n (iv l)) (hcap : n <= cap) (h2 : 2 <= n) (h16 : n <= 16) (hw : wrongS l = false) :
  Calls Tryz.prog 39 #[.slice A n cap] w (PtrCode (sizesB l) w) := by
 have e1 : decide ((n : Int) < 2) = false := decide_eq_false (by omega)
 have e2 : decide ((16 : Int) < (n : Int)) = false := decide_eq_false (by omega)
 have C := containsWrong_any A n cap l w hl h (by omega)
 rw [hw] at C
 have HC := hid C
 have HS : Hid (sizesB l = decide (cntS l (n - 1) <= 1048576)) := hid (by rw [sizesB,hw,hl,decide_eq_true h2,decide_eq_true h16]; simp)
 have HCL := hid (fun W (r : Rd W 1 A n (iv l)) => cloneN_any A n cap l W hl r (by omega))
 have HL := hid hl
 have HR := hid h
 have HW := hid hw
 obtain ⟨b0,o0,rfl,hb0,hcell⟩ := h.2 (by omega)
 have HCE := hid hcell
 clear hl h hw C hcell
 have i0 : (1 : Int) <= (n : Int) := by omega
 have i9 : (n : Int) <= (cap : Int) := by omega
 go_enter Tryz.func39,Tryz.ntmps39
 go_wp2_with fail
 ((with_reducible refine HC.out.mono ?_); rintro e w1 ⟨rfl,rfl⟩)
 go_wp2_with fail
 ((with_reducible refine (HCL.out w HR.out).mono ?_); rintro e w2 ⟨A2,c2,rfl,hown2,hb2⟩)
 have HB2 := hid hb2
 clear hown2 hb2
 obtain ⟨m,hm⟩ : ∃ m,n - 1 = m := ⟨_,rfl⟩
 have HX : Hid (∀ W,(w2.alloc (.cells #[.slice A2 n c2,.slice none 0 0,.slice none 0 0,.int .i64 0] 228)).alloc (.cells #[.pointer (some ⟨w2.heap.size,0,none⟩)] 98) = W -> Below w2.heap.size w2 W /\ Blk W w2.heap.size 228 #[.slice A2 n c2,.slice none 0 0,.slice none 0 0,.int .i64 0] /\ Blk W (w2.heap.size + 1) 98 #[.pointer (some ⟨w2.heap.size,0,none⟩)]) := hid (by
  rintro W rfl
  exact ⟨((Below.refl _ _).alloc (Nat.le_refl _) _).alloc (by simp) _,(Blk.new _ _ _).alloc _,Blk.new' _ _ (by simp)⟩)
 go_wp2_with fail
 have HMN := hid hm
 have hmn : m + 1 = n := by omega
 clear hm
 obtain ⟨h3,b3,g3⟩ := HX.out _ rfl
 obtain ⟨w3,hw3⟩ : ∃ w3,(w2.alloc (.cells #[.slice A2 n c2,.slice none 0 0,.slice none 0 0,.int .i64 0] 228)).alloc (.cells #[.pointer (some ⟨w2.heap.size,0,none⟩)] 98) = w3 := ⟨_,rfl⟩
 rw [hw3] at h3 b3 g3 ⊢
 obtain ⟨bs,hbs⟩ : ∃ bs,w2.heap.size = bs := ⟨_,rfl⟩
 have hwb : w.heap.size <= bs := by rw [<- hbs]; exact HB2.out.size
 have HB3 := hid ((Kept.of HB2.out).call h3).2.2
 rw [hbs] at b3 g3 ⊢
 have HBS := hid b3
 have HGS := hid g3
 clear h3 b3 g3 hw3 hbs HX HC HCL
 obtain ⟨sz,hsz⟩ : ∃ sz,Value.slice A2 n c2 = sz := ⟨_,rfl⟩
 rw [hsz] at HBS
 clear hsz
 have hn1 : cap - 1 + 1 = cap := by omega
 go_loopw [30] (fun i wr => ∃ (k : Nat) (c : Int) (Aw Ab : Option Addr) (cw cb : Nat),k <= m /\ i = .int .i64 k /\ Hid (c = cntS l k) /\ Blk wr bs 228 #[sz,.slice Aw k cw,.slice Ab k cb,.int .i64 c] /\ Blk wr (bs + 1) 98 #[.pointer (some ⟨bs,0,none⟩)] /\
   OwnAny wr w.heap.size (.slice Aw k cw) k /\ OwnAny wr w.heap.size (.slice Ab k cb) k /\ (∀ g,(Value.slice Aw k cw).ownBlock = some g -> (Value.slice Ab k cb).ownBlock ≠ some g) /\ Below w.heap.size w wr) (fun i _ => m - (intOf i).toNat)
 case atStart => exact ⟨0,0,none,none,0,0,by omega,rfl,hid rfl,HBS.out,HGS.out,⟨[],World.ownsRow_nil _ _ _ _⟩,⟨[],World.ownsRow_nil _ _ _ _⟩,fun g e => by simp [Value.ownBlock] at e,HB3.out⟩
 case round =>
  obtain ⟨k,c,Aw,Ab,cw,cb,hk,rfl,hc,hbk,hgk,⟨xw,how⟩,⟨xb,hob⟩,hne,hb⟩ := hrel
  by_cases hlt : k < m
  ·obtain ⟨x,hx⟩ : ∃ x,l[k]? = some x := ⟨_,List.getElem?_eq_getElem (by rw [HL.out]; omega)⟩
   obtain ⟨y,hy⟩ : ∃ y,l[k + 1]? = some y := ⟨_,List.getElem?_eq_getElem (by rw [HL.out]; omega)⟩
   have wx := wrongS_at HW.out hx
   have wy := wrongS_at HW.out hy
   have hp := prodS wy wx
   have hcb := cntS_bound HW.out k (by rw [HL.out]; omega)
   rw [<- hc.out] at hcb
   have hk16 : (k : Int) * 1099512676352 <= 17592202821632 := by omega
   have hcc : 0 <= c /\ c <= 17592202821632 := by omega
   have HN : Hid (cntS l (k + 1) = c + y * x + y) := hid (by
    rw [cntS,<- hc.out,show l.getD k 0 = x by simp [List.getD,hx],show l.getD (k + 1) 0 = y by simp [List.getD,hy],Int.add_mul,Int.one_mul,Int.mul_comm x y]
    omega)
   obtain ⟨p,hpp⟩ : ∃ p,y * x = p := ⟨_,rfl⟩
   rw [hpp] at hp HN
   have hw1 : IntKind.i64.wrap (y * x) = p := by rw [hpp]; exact IntWalk.i64_in _ (by omega)
   have cx : wr.cell? ⟨b0,o0 + k,none⟩ = some (.int .i64 x) := ((bcell hb).1 b0 (o0 + k) hb0).trans (HCE.out k _ (by rw [iv,List.getElem?_map,hx]; rfl))
   have cy : wr.cell? ⟨b0,o0 + 1 + k,none⟩ = some (.int .i64 y) := ((bcell hb).1 b0 (o0 + 1 + k) hb0).trans (HCE.out (k + 1) _ (by rw [iv,List.getElem?_map,hy]; rfl) ▸ by rw [show o0 + 1 + k = o0 + (k + 1) by omega])
   have HBK := hid hbk
   have HGK := hid hgk
   have HOW := hid how
   have HOB := hid hob
   have HNE := hid hne
   have HB := hid hb
   have i1 : (0 : Int) <= (k : Int) := by omega
   have i2 : (k : Int) < (m : Int) := by omega
   have i3 : (k : Int) < (n : Int) := by omega
   have lb0 : b0 < wr.heap.size := Nat.lt_of_lt_of_le hb0 hb.size
   clear hbk hgk how hob hne hb hx hy hpp hcb hk16
   have HN1 := hid (fun W (h1 : Blk W (bs + 1) 98 #[.pointer (some ⟨bs,0,none⟩)]) (h2 : Blk W bs 228 #[sz,.slice Aw k cw,.slice Ab k cb,.int .i64 c]) => shapeNext_any (bs + 1) bs sz (.slice Aw k cw) (.slice Ab k cb) c p W h1 h2 (by omega) (by omega))
   have hb0s : b0 ≠ bs := by omega
   go_wp2_with fail
   have hS : (fun W : World => W.cell? ⟨bs + 1,0,none⟩ = some (.pointer (some ⟨bs,0,none⟩)) /\ W.cell? ⟨bs,1,none⟩ = some (.slice Aw k cw) /\ W.cell? ⟨b0,o0 + k,none⟩ = some (.int .i64 x)) wr.drew := ⟨HGK.out.cell 0,HBK.out.cell 1,cx⟩
   refine wp_region_early (fun W : World => W.cell? ⟨bs + 1,0,none⟩ = some (.pointer (some ⟨bs,0,none⟩)) /\ W.cell? ⟨bs,1,none⟩ = some (.slice Aw k cw) /\ W.cell? ⟨b0,o0 + k,none⟩ = some (.int .i64 x)) [0,1,2,3,4,5,6,7,8,9,10,11] [12,13,14] [15,16,17] (by kernel_rfl) (by kernel_rfl) hS ?_
   clear hS
   simp only [List.filterMap_cons,List.filterMap_nil,List.getElem?_cons_succ,List.getElem?_cons_zero]
   refine early_step (.pointer (some ⟨bs,0,none⟩)) rfl (fun W hW => ?_) ?_
   ·obtain ⟨hc1,hc2,hc3⟩ := hW
    go_simp
   go_simp
   refine early_step (.pointer (some ⟨bs,0,none⟩)) rfl (fun W hW => ?_) ?_
   ·obtain ⟨hc1,hc2,hc3⟩ := hW
    go_simp
   go_simp
   refine early_step (.pointer (some ⟨bs,0,none⟩)) rfl (fun W hW => ?_) ?_
   ·go_simp
   go_simp
   refine early_step (.pointer (some ⟨bs,1,none⟩)) rfl (fun W hW => ?_) ?_
   ·go_simp
   go_simp
   refine early_step (.slice Aw k cw) rfl (fun W hW => ?_) ?_
   ·obtain ⟨hc1,hc2,hc3⟩ := hW
    go_simp
   go_simp
   refine early_step (.func (.func 103) #[] #[.pointer (some ⟨bs + 1,0,none⟩)]) rfl (fun W hW => ?_) ?_
   ·go_simp
   go_simp
   refine early_step (.int .i64 y) rfl (fun W hW => ?_) ?_
   ·go_simp
   go_simp
   refine early_step (.slice (some ⟨b0,o0,none⟩) n cap) rfl (fun W hW => ?_) ?_
   ·go_simp
   go_simp
   refine early_step (.int .i64 k) rfl (fun W hW => ?_) ?_
   ·go_simp
   go_simp
   refine early_step (.pointer (some ⟨b0,o0 + k,none⟩)) rfl (fun W hW => ?_) ?_
   ·go_simp
   go_simp
   refine early_step (.int .i64 x) rfl (fun W hW => ?_) ?_
   ·obtain ⟨hc1,hc2,hc3⟩ := hW
    go_simp
   go_simp
   refine early_step (.int .i64 p) rfl (fun W hW => ?_) ?_
   ·go_simp
   go_simp
   change RestW _ _ _ _ _ (_ :: _ :: _ :: []) _ _
   unfold RestW
   go_wp2_with fail
   ((with_reducible refine (HN1.out _ HGK.out.drew HBK.out.drew).mono ?_); rintro e w4 ⟨rfl,hk4,hg4⟩)
   have HBK4 := hid hk4
   have HGK4 := hid (HGK.out.drew.grown hg4 (by simp))
   have HB4 := hid (below_gr HB.out.drew (by simpa using HB.out.size) hg4 hwb)
   have HOW4 := hid (World.ownsRow.kept (show wr.drew.ownsRow w.heap.size 218 2 (.slice Aw k cw) k xw from HOW.out) hg4 (.inr (own_blk_ne HOW.out HBK.out (by decide))))
   have HOB4 := hid (World.ownsRow.kept (show wr.drew.ownsRow w.heap.size 218 2 (.slice Ab k cb) k xb from HOB.out) hg4 (.inr (own_blk_ne HOB.out HBK.out (by decide))))
   have HCX4 : Hid (w4.cell? ⟨b0,o0 + k,none⟩ = some (.int .i64 x)) := hid ((gr_cell hg4 lb0 hb0s).trans cx)
   have lb4 : b0 < w4.heap.size := Nat.lt_of_lt_of_le lb0 hg4.size
   have hs04 : wr.heap.size <= w4.heap.size := hg4.size
   clear hk4 hg4
   go_wp2_with fail
   refine ⟨⟨HGK4.out.cell 0,HBK4.out.cell 1,HCX4.out⟩,?_⟩
   unfold RestW
   go_wp2_with fail
   refine ⟨⟨(HGK4.out.alloc _).cell 0,(HBK4.out.alloc _).cell 1,HCX4.out⟩,?_⟩
   unfold RestW
   change wpList _ _ _ (_ :: []) _ (w4.alloc (.cells #[.int .i64 c,.int .i64 (c + p)] 218))
   have hsz4 := HB4.out.size
   go_wp2_with (at_builtin; go_must (refine wpList_pushL slPart rfl _ _ rfl w.heap.size _ k xw rfl HOW4.out #[.int .i64 c,.int .i64 (c + p)] w4.heap.size rfl rfl rfl (two_cells _ _) (by unfold maxLen; omega) (by omega) hsz4 ?_); go_must (intro A5 c5 w5 hown5 hb5 hg5 hat5; (have HBK5 := hid (HBK4.out.other HOW4.out hg5 (by decide))); (have HGK5 := hid (HGK4.out.other HOW4.out hg5 (by decide))); (have HOW5 := hid hown5); (have HOB5 := hid (HOB4.out.kept hg5 (own_apart HNE.out))); (have HB5 := hid (HB4.out.trans hb5)); (have HAT5 := hid hat5); (have hs45 : w4.heap.size <= w5.heap.size := hg5.size); (have HLT := hid (fun g (e : (Value.slice Ab k cb).ownBlock = some g) => (HOB4.out.lt g e).2)); (have HCX5 : Hid (w5.cell? ⟨b0,o0 + k,none⟩ = some (.int .i64 x)) := hid ((hb5.cell (p := ⟨b0,o0 + k,none⟩) hb0).trans HCX4.out)); clear hown5 hb5 hg5 hat5))
   refine ⟨⟨HGK5.out.cell 0,HBK5.out.cell 1,HCX5.out⟩,?_⟩
   unfold RestW
   change wpList _ _ _ (_ :: _ :: _ :: []) _ _
   have v1 : w5.cell? ⟨bs,1,none⟩ = some (.slice Aw k cw) := HBK5.out.cell 1
   have f1 := HBK5.out.frozen 1
   have l5 := HBK5.out.lt
   go_wp2_with fail
   refine NoPanic.normal ?_
   have hst := sset1 HBK5.out (.slice A5 (k + 1) c5)
   obtain ⟨w6,hw6⟩ : ∃ w6,w5.setCell ⟨bs,1,none⟩ (.slice A5 (k + 1) c5) = w6 := ⟨_,rfl⟩
   rw [hw6] at hst
   have HW6 := hid hw6
   have HBK6 := hid hst.2
   have HGK6 := hid (HGK5.out.grown hst.1 (by simp))
   have HOW6 := hid (HOW5.out.kept hst.1 (.inr (own_blk_ne HOW5.out HBK5.out (by decide))))
   have HOB6 := hid (HOB5.out.kept hst.1 (.inr (own_blk_ne HOB5.out HBK5.out (by decide))))
   have HB6 := hid (below_gr HB5.out HB5.out.size hst.1 hwb)
   have hsw6 : w6.heap.size = w5.heap.size := by rw [<- hw6]; simp [World.setCell]
   clear hst hw6 v1 f1 l5
   have HN2 := hid (fun W (h1 : Blk W (bs + 1) 98 #[.pointer (some ⟨bs,0,none⟩)]) (h2 : Blk W bs 228 #[sz,.slice A5 (k + 1) c5,.slice Ab k cb,.int .i64 (c + p)]) => shapeNext_any (bs + 1) bs sz (.slice A5 (k + 1) c5) (.slice Ab k cb) (c + p) y W h1 h2 (by omega) (by omega))
   go_wp2_with fail
   rw [HW6.out]
   have hS : (fun W : World => W.cell? ⟨bs + 1,0,none⟩ = some (.pointer (some ⟨bs,0,none⟩)) /\ W.cell? ⟨bs,2,none⟩ = some (.slice Ab k cb)) w6.drew := ⟨HGK6.out.cell 0,HBK6.out.cell 2⟩
   refine wp_region_early (fun W : World => W.cell? ⟨bs + 1,0,none⟩ = some (.pointer (some ⟨bs,0,none⟩)) /\ W.cell? ⟨bs,2,none⟩ = some (.slice Ab k cb)) [0,1,2,3,4,5,6] [7,8,9] [10,11,12] (by kernel_rfl) (by kernel_rfl) hS ?_
   clear hS
   simp only [List.filterMap_cons,List.filterMap_nil,List.getElem?_cons_succ,List.getElem?_cons_zero]
   refine early_step (.pointer (some ⟨bs,0,none⟩)) rfl (fun W hW => ?_) ?_
   ·obtain ⟨hc1,hc2⟩ := hW
    go_simp
   go_simp
   refine early_step (.pointer (some ⟨bs,0,none⟩)) rfl (fun W hW => ?_) ?_
   ·obtain ⟨hc1,hc2⟩ := hW
    go_simp
   go_simp
   refine early_step (.pointer (some ⟨bs,0,none⟩)) rfl (fun W hW => ?_) ?_
   ·go_simp
   go_simp
   refine early_step (.pointer (some ⟨bs,2,none⟩)) rfl (fun W hW => ?_) ?_
   ·go_simp
   go_simp
   refine early_step (.slice Ab k cb) rfl (fun W hW => ?_) ?_
   ·obtain ⟨hc1,hc2⟩ := hW
    go_simp
   go_simp
   refine early_step (.func (.func 103) #[] #[.pointer (some ⟨bs + 1,0,none⟩)]) rfl (fun W hW => ?_) ?_
   ·go_simp
   go_simp
   refine early_step (.int .i64 y) rfl (fun W hW => ?_) ?_
   ·go_simp
   go_simp
   change RestW _ _ _ _ _ (_ :: _ :: _ :: []) _ _
   unfold RestW
   go_wp2_with fail
   ((with_reducible refine (HN2.out _ HGK6.out.drew HBK6.out.drew).mono ?_); rintro e w7 ⟨rfl,hk7,hg7⟩)
   have HBK7 := hid hk7
   have HGK7 := hid (HGK6.out.drew.grown hg7 (by simp))
   have HB7 := hid (below_gr HB6.out.drew (by simpa using HB6.out.size) hg7 hwb)
   have HOW7 := hid (World.ownsRow.kept (show w6.drew.ownsRow w.heap.size 218 2 (.slice A5 (k + 1) c5) (k + 1) (xw ++ _) from HOW6.out) hg7 (.inr (own_blk_ne HOW6.out HBK6.out (by decide))))
   have HOB7 := hid (World.ownsRow.kept (show w6.drew.ownsRow w.heap.size 218 2 (.slice Ab k cb) k xb from HOB6.out) hg7 (.inr (own_blk_ne HOB6.out HBK6.out (by decide))))
   have hs67 : w6.heap.size <= w7.heap.size := hg7.size
   have hg5lt : ∀ g,(Value.slice A5 (k + 1) c5).ownBlock = some g -> g < w5.heap.size := fun g e => (HOW5.out.lt g e).2
   have hawlt : ∀ g,(Value.slice Aw k cw).ownBlock = some g -> g < wr.heap.size := fun g e => (HOW.out.lt g e).2
   have HAP : Hid (∀ g,(Value.slice Ab k cb).ownBlock = some g -> (Value.slice A5 (k + 1) c5).ownBlock ≠ some g) := hid (fun g e e2 => by
    rcases HAT5.out g e2 with h | h
    ·exact HNE.out g h e
    ·have := HLT.out g e; omega)
   have HG5 := hid hg5lt
   have HAW := hid hawlt
   clear hk7 hg7 hg5lt hawlt
   go_wp2_with fail
   refine ⟨⟨HGK7.out.cell 0,HBK7.out.cell 2⟩,?_⟩
   unfold RestW
   go_wp2_with fail
   refine ⟨⟨(HGK7.out.alloc _).cell 0,(HBK7.out.alloc _).cell 2⟩,?_⟩
   unfold RestW
   change wpList _ _ _ (_ :: []) _ (w7.alloc (.cells #[.int .i64 (c + p),.int .i64 (c + p + y)] 218))
   have hsz7 := HB7.out.size
   go_wp2_with (at_builtin; go_must (refine wpList_pushL slPart rfl _ _ rfl w.heap.size _ k xb rfl HOB7.out #[.int .i64 (c + p),.int .i64 (c + p + y)] w7.heap.size rfl rfl rfl (two_cells _ _) (by unfold maxLen; omega) (by omega) hsz7 ?_); go_must (intro A8 c8 w8 hown8 hb8 hg8 hat8; (have HBK8 := hid (HBK7.out.other HOB7.out hg8 (by decide))); (have HGK8 := hid (HGK7.out.other HOB7.out hg8 (by decide))); (have HOB8 := hid hown8); (have HOW8 := hid (HOW7.out.kept hg8 (own_apart HAP.out))); (have HB8 := hid (HB7.out.trans hb8)); (have HAT8 := hid hat8); clear hown8 hb8 hg8 hat8))
   refine ⟨⟨HGK8.out.cell 0,HBK8.out.cell 2⟩,?_⟩
   unfold RestW
   change wpList _ _ _ (_ :: _ :: _ :: []) _ _
   have v1 : w8.cell? ⟨bs,2,none⟩ = some (.slice Ab k cb) := HBK8.out.cell 2
   have f1 := HBK8.out.frozen 2
   have l8 := HBK8.out.lt
   go_wp2_with fail
   refine NoPanic.normal ?_
   have hst := sset2 HBK8.out (.slice A8 (k + 1) c8)
   have HST := hid hst
   clear hst v1 f1
   go_wp2_with fail
   go_roundw
   case rel =>
    refine ⟨k + 1,c + p + y,A5,A8,c5,c8,by omega,by go_num,hid HN.out.symm,HST.out.2,HGK8.out.grown HST.out.1 (by simp),⟨_,HOW8.out.kept HST.out.1 (.inr (own_blk_ne HOW8.out HBK8.out (by decide)))⟩,⟨_,HOB8.out.kept HST.out.1 (.inr (own_blk_ne HOB8.out HBK8.out (by decide)))⟩,fun g e1 e2 => ?_,below_gr HB8.out HB8.out.size HST.out.1 hwb⟩
    rcases HAT8.out g e2 with h | h
    ·exact HAP.out g h e1
    ·have := HG5.out g e1
     omega
   case measure => simp [intOf]; omega
  ·obtain rfl : k = m := by omega
   have hcb := cntS_bound HW.out k (by rw [HL.out]; omega)
   rw [<- hc.out] at hcb
   have HQ : Hid (sizesB l = decide (c <= 1048576)) := hid (by rw [HS.out,hc.out,show n - 1 = k by omega])
   have c0 : wr.cell? ⟨bs + 1,0,none⟩ = some (.pointer (some ⟨bs,0,none⟩)) := hgk.cell 0
   have c3 : wr.cell? ⟨bs,3,none⟩ = some (.int .i64 c) := hbk.cell 3
   have l1 := hgk.lt
   have l2 := hbk.lt
   have HB := hid hb
   clear hbk hgk how hob hne hb
   by_cases hbig : 1048576 < c
   ·have f1 : decide (1048576 < c) = true := decide_eq_true hbig
    go_wp2_with fail
    go_ret2
    exact ⟨none,4,rfl,by rw [HQ.out]; simp; omega,HB.out⟩
   ·have f1 : decide (1048576 < c) = false := decide_eq_false hbig
    go_wp2_with fail
    go_ret2
    exact ⟨_,0,rfl,by rw [HQ.out]; simp; omega,HB.out⟩
theorem shapeNew_any (hl : l.length = n) (h : Rd w 1 A n (iv l)) (hcap : n <= cap) (hn : n <= 1000000) :
  Calls Tryz.prog 39 #[.slice A n cap] w (PtrCode (sizesB l) w) := by
 by_cases h1 : n < 2 \/ 16 < n \/ wrongS l = true
 ·exact shapeNew_bad A n cap l w hl h hn h1
 ·have hwf : wrongS l = false := by
   cases hq : wrongS l with
   | false => rfl
   | true => exact absurd (.inr (.inr hq)) h1
  exact shapeNew_good A n cap l w hl h hcap (by omega) (by omega) hwf
end
section
open Go.RowKit
def Mid (lo hi : Nat) (w w' : World) : Prop := w.heap.size <= w'.heap.size /\ ∀ i,lo <= i -> i < hi -> w'.heap[i]? = w.heap[i]?
end
section
open Go.RowKit
variable {lo hi : Nat} {a b c w w' : World} {own own' : Nat → Nat} {P Q : World → Prop}
theorem Mid.of_below (h : Below a.heap.size a b) (lo : Nat) : Mid lo a.heap.size a b := ⟨h.size,fun i _ h2 => h.block i h2⟩
theorem Blk.mid {g : Nat} {t : TypeId} {cs : Array Value} (h : Blk w g t cs) (hm : Mid lo w.heap.size w w') (hg : lo <= g) : Blk w' g t cs := (hm.2 g hg h.lt).trans h
theorem own_mid {base : Nat} {e : TypeId} {size n : Nat} {v : Value} {xs : List Value} (h : w.ownsRow base e size v n xs) (hm : Mid lo w.heap.size w w') (hb : lo <= base) : w'.ownsRow base e size v n xs := by
 refine ⟨h.1,?_⟩
 have hlt := h.lt
 rcases h.2 with h2 | ⟨g,cap,cur,rfl,hbg,hh,r⟩
 ·exact .inl h2
 ·exact .inr ⟨g,cap,cur,rfl,hbg,(hm.2 g (by omega) (hlt g rfl).2).trans hh,r⟩
end
end Go.Proofs.YtkmaeipoaoikpaaGreat
