/- Part3, Rev, BucketPlain, Bucket, Conf. -/
import Derived.Test.YtkmaeipoaoikpaaGreatEB04
namespace Go.Proofs.YtkmaeipoaoikpaaGreat
set_option linter.all false
set_option maxRecDepth 100000
set_option maxHeartbeats 4000000
open Lib (hid)
section
open Go.RowKit
theorem count_nat (a b : Nat) (w : World) (ha : a <= 1000000000) (hb : b <= 9223372036854775807) :
  Calls Tryz.prog 81 #[.int .i64 a,.int .i64 b] w fun e w' => e = .returned (.int .i64 (cnt a b)) /\ w = w' := by
 have h := count_any a b w (by omega) (by omega) (by omega)
 simpa using h
theorem blocks_none (n s : Int) (w : World) (hn : -9223372036854775808 <= n) (hn2 : n <= 1000000000) (hs : s <= 9223372036854775807) (h : n < 1 \/ s < 1) :
  Calls Tryz.prog 77 #[.int .i64 n,.int .i64 s] w (OwnRet w 218 2 0 (rv [])) := by
 have H := hid h
 clear h
 go_enter Tryz.func77,Tryz.ntmps77
 go_wp2_with fail
 ((with_reducible refine (count_any n s _ (by omega) (by omega) (by omega)).mono ?_); rintro e w1 ⟨rfl,rfl⟩)
 rw [<- cnt_zero n s H.out]
 go_wp2_with fail
 go_loop [5,11] (fun v c => v = .slice none 0 0 /\ c = .int .i64 0) (fun _ c => 0)
 case atStart => exact ⟨rfl,rfl⟩
 case round =>
  obtain ⟨rfl,rfl⟩ := hrel
  go_wp2
  go_ret
  exact ⟨none,0,rfl,World.ownsRow_nil _ _ _ _,Below.refl _ _⟩
theorem blocks_any (a b : Nat) (w : World) (ha1 : 1 <= a) (ha : a <= 10000000) (hb1 : 1 <= b) (hb : b <= 9223372036854775807) :
  Calls Tryz.prog 77 #[.int .i64 a,.int .i64 b] w (OwnRet w 218 2 (cnt a b) (rv (blocksL a b))) := by
 go_enter Tryz.func77,Tryz.ntmps77
 go_wp2_with fail
 ((with_reducible refine (count_nat a b _ (by omega) (by omega)).mono ?_); rintro e w1 ⟨rfl,rfl⟩)
 have hc := cnt_le a b
 go_wp2_with fail
 go_loopw [5,11] (fun v c wr => ∃ i : Nat,i <= cnt a b /\ c = .int .i64 i /\ Coll w 218 (blocksL a b) i v wr) (fun _ c _ => cnt a b - (intOf c).toNat)
 case atStart => exact ⟨0,by omega,rfl,Coll.start _ _ _⟩
 case round =>
  obtain ⟨i,hi,rfl,hcoll⟩ := hrel
  by_cases hlt : i < cnt a b
  ·have hin := (lt_cnt a b i ha1 hb1).1 hlt
   have HX := hid (blocks_at a b i hlt)
   obtain ⟨q,hq⟩ : ∃ q,i * b = q := ⟨_,rfl⟩
   have hq' : (i : Int) * (b : Int) = (q : Int) := by rw [<- hq]; simp
   rw [hq] at HX hin
   clear hq
   by_cases hm : b <= a - q
   all_goals
    go_wp2_with (at_builtin; refine wpList_push slPart rfl _ _ rfl w.heap.size _ i (rv ((blocksL a b).take i)) rfl hcoll.2.1 _ _ rfl (by simp) rfl (two_cells _ _) (by unfold maxLen; omega) (by omega) hcoll.2.2.size ?_; intro A' cap' w1 hown1 hb1)
    go_roundw
    case rel => exact ⟨i + 1,by omega,by go_num,hcoll.next (by first | (have := HX.out; rw [Nat.min_eq_left hm] at this; exact hid this) | (have := HX.out; rw [Nat.min_eq_right (by omega),show ((q + (a - q) : Nat) : Int) = (q : Int) + ((a : Int) - (q : Int)) by omega] at this; exact hid this)) hown1 hb1⟩
    case measure => simp [intOf]; omega
  ·go_wp2
   go_ret
   exact hcoll.done (hid (blocksL_length a b)) hi hlt
def revK {α : Type} (l : List α) (k : Nat) : List α := (List.range l.length).filterMap fun x => if x < k \/ l.length - k <= x then l[l.length - 1 - x]? else l[x]?
theorem filterMap_get {α β : Type} (f : α -> Option β) (l : List α) (h : ∀ x ∈ l,(f x).isSome = true) (i : Nat) : (l.filterMap f)[i]? = (l[i]?).bind f := by
 induction l generalizing i with
 | nil => simp
 | cons a l ih =>
  obtain ⟨b,hb⟩ := Option.isSome_iff_exists.1 (h a (by simp))
  rw [List.filterMap_cons_some hb]
  cases i with
  | zero => simp [hb]
  | succ i => simpa using ih (fun x hx => h x (by simp [hx])) i
theorem revK_some {α : Type} (l : List α) (k : Nat) : ∀ x ∈ List.range l.length,((fun x => if x < k \/ l.length - k <= x then l[l.length - 1 - x]? else l[x]?) x).isSome = true := by
 intro x hx
 simp only [List.mem_range] at hx
 dsimp only
 split
 ·rw [List.getElem?_eq_getElem (by omega)]; rfl
 ·rw [List.getElem?_eq_getElem hx]; rfl
theorem revK_get {α : Type} (l : List α) (k x : Nat) (hx : x < l.length) : (revK l k)[x]? = if x < k \/ l.length - k <= x then l[l.length - 1 - x]? else l[x]? := by
 unfold revK
 rw [filterMap_get _ _ (revK_some l k),List.getElem?_range hx]
 rfl
theorem revK_length {α : Type} (l : List α) (k : Nat) : (revK l k).length = l.length := by
 apply Nat.le_antisymm
 ·exact Nat.le_trans (List.length_filterMap_le _ _) (by simp)
 ·rcases Nat.lt_or_ge (revK l k).length l.length with h | h
  ·have h1 := revK_get l k (revK l k).length h
   rw [List.getElem?_eq_none (Nat.le_refl _)] at h1
   exfalso
   split at h1
   ·rw [List.getElem?_eq_getElem (by omega)] at h1; cases h1
   ·rw [List.getElem?_eq_getElem h] at h1; cases h1
  ·exact h
theorem revK_zero {α : Type} (l : List α) : revK l 0 = l := by
 apply List.ext_getElem?
 intro i
 by_cases h : i < l.length
 ·rw [revK_get l 0 i h,if_neg (by omega)]
 ·rw [List.getElem?_eq_none (by rw [revK_length]; omega),List.getElem?_eq_none (by omega)]
theorem revK_done {α : Type} (l : List α) (k : Nat) (h : l.length <= 2 * k + 1) : revK l k = l.reverse := by
 apply List.ext_getElem?
 intro i
 by_cases hi : i < l.length
 ·rw [revK_get l k i hi,List.getElem?_reverse hi]
  split
  ·rfl
  ·congr 1; omega
 ·rw [List.getElem?_eq_none (by rw [revK_length]; omega),List.getElem?_eq_none (by simp; omega)]
theorem revK_next {α : Type} (l : List α) (k j : Nat) (a b : α) (hj : k + j + 1 = l.length) (hlt : k < j) (ha : (revK l k)[k]? = some a) (hb : (revK l k)[j]? = some b) : ((revK l k).set k b).set j a = revK l (k + 1) := by
 apply List.ext_getElem?
 intro i
 by_cases hi : i < l.length
 ·rw [List.getElem?_set,List.getElem?_set,revK_get l (k + 1) i hi]
  rw [revK_get l k k (by omega),if_neg (by omega)] at ha
  rw [revK_get l k j (by omega),if_neg (by omega)] at hb
  by_cases e1 : j = i
  ·subst e1
   rw [if_pos rfl,if_pos (by simp [revK_length]; omega),if_pos (by omega),<- ha]
   congr 1; omega
  ·rw [if_neg e1]
   by_cases e2 : k = i
   ·subst e2
    rw [if_pos rfl,if_pos (by rw [revK_length]; omega),if_pos (by omega),<- hb]
    congr 1; omega
   ·rw [if_neg e2,revK_get l k i hi]
    by_cases h3 : i < k \/ l.length - k <= i
    ·rw [if_pos h3,if_pos (by omega)]
    ·rw [if_neg h3,if_neg (by omega)]
 ·rw [List.getElem?_eq_none (by simp [revK_length]; omega),List.getElem?_eq_none (by rw [revK_length]; omega)]
end
theorem rv_set (l : List (Int × Int)) (k : Nat) (x y : Int) : ((rv l).set (k * 2) (.int .i64 x)).set (k * 2 + 1) (.int .i64 y) = rv (l.set k (x,y)) := by
 induction l generalizing k with
 | nil => simp [rv]
 | cons r l ih =>
  obtain ⟨a,b⟩ := r
  cases k with
  | zero => simp [rv_cons]
  | succ k =>
   rw [show (k + 1) * 2 = k * 2 + 2 by omega,rv_cons]
   simp only [List.set_cons_succ,rv_cons]
   rw [ih k]
section
open Go.RowKit
theorem own_swap {w : World} {base : Nat} {e : TypeId} {g n cap : Nat} {L : List (Int × Int)} (h : w.ownsRow base e 2 (.slice (some ⟨g,0,none⟩) n cap) n (rv L)) (k j : Nat) (x1 y1 x2 y2 : Int) :
  ((((w.setCell ⟨g,k * 2,none⟩ (.int .i64 x2)).setCell ⟨g,k * 2 + 1,none⟩ (.int .i64 y2)).setCell ⟨g,j * 2,none⟩ (.int .i64 x1)).setCell ⟨g,j * 2 + 1,none⟩ (.int .i64 y1)).drew.ownsRow base e 2 (.slice (some ⟨g,0,none⟩) n cap) n (rv ((L.set k (x2,y2)).set j (x1,y1))) /\
  w.grownBy ((((w.setCell ⟨g,k * 2,none⟩ (.int .i64 x2)).setCell ⟨g,k * 2 + 1,none⟩ (.int .i64 y2)).setCell ⟨g,j * 2,none⟩ (.int .i64 x1)).setCell ⟨g,j * 2 + 1,none⟩ (.int .i64 y1)).drew (some g) := by
 obtain ⟨s1,g1⟩ := h.stored (k * 2) (.int .i64 x2)
 obtain ⟨s2,g2⟩ := s1.stored (k * 2 + 1) (.int .i64 y2)
 obtain ⟨s3,g3⟩ := s2.stored (j * 2) (.int .i64 x1)
 obtain ⟨s4,g4⟩ := s3.stored (j * 2 + 1) (.int .i64 y1)
 refine ⟨?_,?_⟩
 ·rw [<- rv_set,<- rv_set]
  exact s4
 ·have h := ((g1.trans g2).trans g3).trans g4
  exact ⟨h.os,h.tape,h.output,h.size,h.block⟩
theorem reverse_any (g n cap base : Nat) (l : List (Int × Int)) (w : World) (hl : l.length = n) (hn : n <= 10000000) (hown : w.ownsRow base 218 2 (.slice (some ⟨g,0,none⟩) n cap) n (rv l)) :
  Calls Tryz.prog 183 #[.slice (some ⟨g,0,none⟩) n cap] w fun e w' => e = .returned (.tuple #[]) /\ w'.ownsRow base 218 2 (.slice (some ⟨g,0,none⟩) n cap) n (rv l.reverse) /\ w.grownBy w' (some g) := by
 have HL := hid hl
 have HO := hid hown
 clear hl hown
 go_enter Tryz.func183,Tryz.ntmps183
 go_wp2_with fail
 go_loopw [2,3] (fun x y wr => ∃ k : Nat,k * 2 <= n /\ x = .int .i64 k /\ y = .int .i64 ((n : Int) - 1 - k) /\ wr.ownsRow base 218 2 (.slice (some ⟨g,0,none⟩) n cap) n (rv (revK l k)) /\ w.grownBy wr (some g)) (fun x _ _ => n - (intOf x).toNat)
 case atStart => exact ⟨0,by omega,rfl,by simp,by rw [revK_zero]; exact HO.out,World.grownBy.refl _ _⟩
 case round =>
  obtain ⟨k,hk,rfl,rfl,hown,hg⟩ := hrel
  by_cases hlt : k * 2 + 1 < n
  ·obtain ⟨j,hj⟩ : ∃ j,k + j + 1 = n := ⟨n - 1 - k,by omega⟩
   have HLn := HL.out
   rw [show (n : Int) - 1 - (k : Int) = (j : Int) by omega]
   have hkl : k < (revK l k).length := by rw [revK_length]; omega
   have hjl : j < (revK l k).length := by rw [revK_length]; omega
   obtain ⟨a1,a2⟩ := rv_get (revK l k) k hkl
   obtain ⟨b1,b2⟩ := rv_get (revK l k) j hjl
   have HN := hid (revK_next l k j _ _ (by omega) (by omega) (List.getElem?_eq_getElem hkl) (List.getElem?_eq_getElem hjl))
   generalize (revK l k)[k] = ra at *
   generalize (revK l k)[j] = rb at *
   obtain ⟨x1,y1⟩ := ra
   obtain ⟨x2,y2⟩ := rb
   dsimp only at a1 a2 b1 b2
   have c1 : wr.cell? ⟨g,k * 2,none⟩ = some (.int .i64 x1) := (hown.cellAt (k * 2) (by omega)).trans a1
   have c2 : wr.cell? ⟨g,k * 2 + 1,none⟩ = some (.int .i64 y1) := (hown.cellAt (k * 2 + 1) (by omega)).trans a2
   have c3 : wr.cell? ⟨g,j * 2,none⟩ = some (.int .i64 x2) := (hown.cellAt (j * 2) (by omega)).trans b1
   have c4 : wr.cell? ⟨g,j * 2 + 1,none⟩ = some (.int .i64 y2) := (hown.cellAt (j * 2 + 1) (by omega)).trans b2
   have f1 := hown.frozenAt (k * 2)
   have f2 := hown.frozenAt (k * 2 + 1)
   have f3 := hown.frozenAt (j * 2)
   have f4 := hown.frozenAt (j * 2 + 1)
   have HOw := hid hown
   have HJ := hid hj
   have i1 : (k : Int) < (n : Int) := by omega
   have i2 : (j : Int) < (n : Int) := by omega
   have i3 : (0 : Int) <= (k : Int) := by omega
   have i4 : (0 : Int) <= (j : Int) := by omega
   have hkj : k < j := by omega
   clear a1 a2 b1 b2 hown hj hkl hjl HLn
   go_wp2_with fail
   go_region
   go_wp2
   go_roundw
   case rel => exact ⟨k + 1,by omega,by go_num,by have := HJ.out; congr 1; omega,by rw [<- HN.out]; exact (own_swap HOw.out k j x1 y1 x2 y2).1,(hg.trans (own_swap HOw.out k j x1 y1 x2 y2).2)⟩
   case measure => simp [intOf]; omega
  ·go_wp2
   go_end0
   exact ⟨rfl,by rw [<- revK_done l k (by have := HL.out; omega)]; exact hown,hg⟩
def bucketsL (n s : Nat) : List (Int × Int) := (blocksL n s).reverse
theorem bucketsL_length (n s : Nat) : (bucketsL n s).length = cnt n s := by simp [bucketsL,blocksL_length]
theorem buckets_any (a b : Nat) (w : World) (ha1 : 1 <= a) (ha : a <= 10000000) (hb1 : 1 <= b) (hb : b <= 9223372036854775807) :
  Calls Tryz.prog 108 #[.int .i64 a,.int .i64 b] w (OwnRet w 218 2 (cnt a b) (rv (bucketsL a b))) := by
 have hc := cnt_le a b
 have hc1 : 1 <= cnt a b := by rw [cnt_pos a b ha1 hb1]; exact Nat.le_add_left _ _
 go_enter Tryz.func108,Tryz.ntmps108
 go_wp2_with fail
 ((with_reducible refine (blocks_any a b _ (by omega) (by omega) (by omega) (by omega)).mono ?_); rintro e w1 ⟨A,cap,rfl,hown,hbw⟩)
 obtain ⟨A',cap',hv,_,_,hf⟩ := own_form hown
 injection hv with hA _ hC
 subst hA hC
 obtain ⟨g,rfl,hg1,hg2⟩ := hf (by omega)
 have HO := hid hown
 clear hown
 go_wp2_with fail
 ((with_reducible refine (reverse_any g (cnt a b) cap _ (blocksL a b) _ (blocksL_length a b) (by omega) HO.out).mono ?_); rintro e w2 ⟨rfl,hown2,hg⟩)
 have HO2 := hid hown2
 have HG := hid hg
 clear hown2 hg
 go_wp2
 go_ret
 exact ⟨_,_,rfl,HO2.out,hbw.grown HG.out hbw.size (fun k e => by cases e; exact hg1)⟩
theorem groups_any (a b : Nat) (w : World) (ha1 : 1 <= a) (ha : a <= 10000000) (hb1 : 1 <= b) (hb : b <= 9223372036854775807) :
  Calls Tryz.prog 109 #[.int .i64 a,.int .i64 b] w (OwnRet w 218 2 (cnt a b) (rv (blocksL a b))) := by
 go_enter Tryz.func109,Tryz.ntmps109
 go_wp2_with fail
 ((with_reducible refine (blocks_any a b _ (by omega) (by omega) (by omega) (by omega)).mono ?_); rintro e w1 ⟨A,cap,rfl,hown,hbw⟩)
 have HO := hid hown
 clear hown
 go_wp2
 go_ret
 exact ⟨A,cap,rfl,HO.out,hbw⟩
structure Cfg where
 sh : Int
 ra : Int
 mo : Int
 wk : Int
 ba : Int
 mi : Int
 st : Int
 bu : Int
 ch : Int
 wi : Int
 ca : Int
abbrev cfgC (A : Option Addr) (n cap : Nat) (c : Cfg) : Array Value := #[.slice A n cap,.int .i64 c.sh,.int .i64 c.ra,.int .i64 c.mo,.int .i64 c.wk,.int .i64 c.ba,.int .i64 c.mi,.int .i64 c.st,.int .i64 c.bu,.int .i64 c.ch,.int .i64 c.wi,.int .i64 c.ca]
abbrev cfgV (A : Option Addr) (n cap : Nat) (c : Cfg) : Value := .agg (cfgC A n cap c)
def szB (x : Int) : Bool := decide (1 <= x) && decide (x <= 1048576)
theorem szB_iff (x : Int) : szB x = true ↔ 1 <= x /\ x <= 1048576 := by simp [szB]
def btB (x lo hi : Int) : Bool := decide (lo <= x) && decide (x <= hi)
theorem btB_iff (x lo hi : Int) : btB x lo hi = true ↔ lo <= x /\ x <= hi := by simp [btB]
def okCfg (l : List Int) (c : Cfg) : Bool := btB c.wk 1 64 && (btB c.sh 1 62 && (sizesB l && (szB c.mi && (szB c.bu && (szB c.ch && (szB c.wi && (szB c.ca && (btB c.st 0 1048576 && btB c.ba c.wk 1048576))))))))
theorem size11_any (x : Int) (w : World) : Calls Tryz.prog 153 #[.int .i64 x] w fun e w' => e = .returned (.bool (szB x)) /\ w = w' := by
 by_cases h1 : 1 <= x
 ·by_cases h2 : x <= 1048576
  ·go_enter Tryz.func153,Tryz.ntmps153
   go_wp2
   go_ret
   exact ⟨ret_bool (by simp [szB,h1,h2]),rfl⟩
  ·go_enter Tryz.func153,Tryz.ntmps153
   go_wp2
   go_ret
   exact ⟨ret_bool (by simp [szB,h2]),rfl⟩
 ·go_enter Tryz.func153,Tryz.ntmps153
  go_wp2
  go_ret
  exact ⟨ret_bool (by rw [szB,decide_eq_false (by omega)]; rfl),rfl⟩
theorem between_any (x lo hi : Int) (w : World) : Calls Tryz.prog 35 #[.int .i64 x,.int .i64 lo,.int .i64 hi] w fun e w' => e = .returned (.bool (btB x lo hi)) /\ w = w' := by
 by_cases h1 : lo <= x
 ·by_cases h2 : x <= hi
  ·go_enter Tryz.func35,Tryz.ntmps35
   go_wp2
   go_ret
   exact ⟨ret_bool (by simp [btB,h1,h2]),rfl⟩
  ·go_enter Tryz.func35,Tryz.ntmps35
   go_wp2
   go_ret
   exact ⟨ret_bool (by simp [btB,h2]),rfl⟩
 ·go_enter Tryz.func35,Tryz.ntmps35
  go_wp2
  go_ret
  exact ⟨ret_bool (by rw [btB,decide_eq_false (by omega)]; rfl),rfl⟩
end
section
open Go.RowKit
variable (A : Option Addr) (n cap : Nat) (l : List Int) (c : Cfg) (w : World)
theorem confCheck_any (hl : l.length = n) (h : Rd w 1 A n (iv l)) (hcap : n <= cap) (hn : n <= 1000) :
  Calls Tryz.prog 66 #[cfgV A n cap c] w (CodeRet (okCfg l c) w) := by
 have HG : Hid (∀ W,w.alloc (.cells (cfgC A n cap c) 24) = W -> Below w.heap.size w W /\ Blk W w.heap.size 24 (cfgC A n cap c)) := hid (by
  rintro W rfl
  exact ⟨(Below.refl _ _).alloc (Nat.le_refl _) _,Blk.new _ _ _⟩)
 have HS := hid (fun W (r : Rd W 1 A n (iv l)) => shapeNew_any A n cap l W hl r hcap (by omega))
 have HR := hid h
 have HZ := hid size11_any
 obtain ⟨ok,hok⟩ : ∃ ok,okCfg l c = ok := ⟨_,rfl⟩
 have HOK := hid hok
 rw [hok]
 clear hl h hok
 obtain ⟨sh,ra,mo,wk,ba,mi,st,bu,ch,wi,ca⟩ := c
 go_enter Tryz.func66,Tryz.ntmps66
 go_wp2_with fail
 obtain ⟨hB,hK⟩ := HG.out _ rfl
 ((with_reducible refine (HS.out _ (HR.out.below hB)).mono ?_); rintro e w1 ⟨pv,k,rfl,hk,hb1⟩)
 have k1 := hK.kept hb1
 have HB1 := hid (hB.trans (hb1.mono hB.size))
 have c1 : w1.cell? ⟨w.heap.size,1,none⟩ = some (.int .i64 sh) := k1.cell 1
 have c4 : w1.cell? ⟨w.heap.size,4,none⟩ = some (.int .i64 wk) := k1.cell 4
 have c5 : w1.cell? ⟨w.heap.size,5,none⟩ = some (.int .i64 ba) := k1.cell 5
 have c6 : w1.cell? ⟨w.heap.size,6,none⟩ = some (.int .i64 mi) := k1.cell 6
 have c7 : w1.cell? ⟨w.heap.size,7,none⟩ = some (.int .i64 st) := k1.cell 7
 have c8 : w1.cell? ⟨w.heap.size,8,none⟩ = some (.int .i64 bu) := k1.cell 8
 have c9 : w1.cell? ⟨w.heap.size,9,none⟩ = some (.int .i64 ch) := k1.cell 9
 have c10 : w1.cell? ⟨w.heap.size,10,none⟩ = some (.int .i64 wi) := k1.cell 10
 have c11 : w1.cell? ⟨w.heap.size,11,none⟩ = some (.int .i64 ca) := k1.cell 11
 have l1 := k1.lt
 have HK := hid hk
 clear hB hK hb1 k1 hk
 have done : ∀ code : Int,code ≠ 0 -> ok = false -> CodeRet ok w (.returned (.int .i64 code)) w1 := fun code h1 h2 => ⟨code,rfl,by rw [h2]; simp [h1],HB1.out⟩
 have HD := hid done
 clear done
 by_cases w1' : wk < 1
 ·have e1 : decide (wk < 1) = true := decide_eq_true w1'
  go_wp2_with fail
  go_ret
  exact HD.out 6 (by omega) (by rw [<- HOK.out]; simp [okCfg,btB]; omega)
 ·have e1 : decide (wk < 1) = false := decide_eq_false w1'
  by_cases w2' : 64 < wk
  ·have e2 : decide (64 < wk) = true := decide_eq_true w2'
   go_wp2_with fail
   go_ret
   exact HD.out 6 (by omega) (by rw [<- HOK.out]; simp [okCfg,btB]; omega)
  ·have e2 : decide (64 < wk) = false := decide_eq_false w2'
   by_cases s1' : sh < 1
   ·have e3 : decide (sh < 1) = true := decide_eq_true s1'
    go_wp2_with fail
    go_ret
    exact HD.out 9 (by omega) (by rw [<- HOK.out]; simp [okCfg,btB]; omega)
   ·have e3 : decide (sh < 1) = false := decide_eq_false s1'
    by_cases s2' : 62 < sh
    ·have e4 : decide (62 < sh) = true := decide_eq_true s2'
     go_wp2_with fail
     go_ret
     exact HD.out 9 (by omega) (by rw [<- HOK.out]; simp [okCfg,btB]; omega)
    ·have e4 : decide (62 < sh) = false := decide_eq_false s2'
     by_cases hk0 : k = 0
     ·subst hk0
      have hsz : sizesB l = true := HK.out.1 rfl
      have HSZ := hid hsz
      clear hsz
      by_cases st0 : st = 0
      ·subst st0
       go_wp2_with fail
       ((with_reducible refine (HZ.out mi w1).mono ?_); rintro e w2 ⟨rfl,rfl⟩)
       obtain ⟨qmi,hqmi⟩ : ∃ q,szB mi = q := ⟨_,rfl⟩
       rw [hqmi]
       have HQmi := hid hqmi
       clear hqmi
       cases qmi
       ·go_wp2_with fail
        go_ret
        exact HD.out 2 (by omega) (by rw [<- HOK.out]; simp [okCfg,HQmi.out])
       ·go_wp2_with fail
        ((with_reducible refine (HZ.out bu w1).mono ?_); rintro e w2 ⟨rfl,rfl⟩)
        obtain ⟨qbu,hqbu⟩ : ∃ q,szB bu = q := ⟨_,rfl⟩
        rw [hqbu]
        have HQbu := hid hqbu
        clear hqbu
        cases qbu
        ·go_wp2_with fail
         go_ret
         exact HD.out 2 (by omega) (by rw [<- HOK.out]; simp [okCfg,HQbu.out])
        ·go_wp2_with fail
         ((with_reducible refine (HZ.out ch w1).mono ?_); rintro e w2 ⟨rfl,rfl⟩)
         obtain ⟨qch,hqch⟩ : ∃ q,szB ch = q := ⟨_,rfl⟩
         rw [hqch]
         have HQch := hid hqch
         clear hqch
         cases qch
         ·go_wp2_with fail
          go_ret
          exact HD.out 2 (by omega) (by rw [<- HOK.out]; simp [okCfg,HQch.out])
         ·go_wp2_with fail
          ((with_reducible refine (HZ.out wi w1).mono ?_); rintro e w2 ⟨rfl,rfl⟩)
          obtain ⟨qwi,hqwi⟩ : ∃ q,szB wi = q := ⟨_,rfl⟩
          rw [hqwi]
          have HQwi := hid hqwi
          clear hqwi
          cases qwi
          ·go_wp2_with fail
           go_ret
           exact HD.out 2 (by omega) (by rw [<- HOK.out]; simp [okCfg,HQwi.out])
          ·go_wp2_with fail
           ((with_reducible refine (HZ.out ca w1).mono ?_); rintro e w2 ⟨rfl,rfl⟩)
           obtain ⟨qca,hqca⟩ : ∃ q,szB ca = q := ⟨_,rfl⟩
           rw [hqca]
           have HQca := hid hqca
           clear hqca
           cases qca
           ·go_wp2_with fail
            go_ret
            exact HD.out 2 (by omega) (by rw [<- HOK.out]; simp [okCfg,HQca.out])
           ·by_cases b1' : ba < wk
            ·have f1 : decide (ba < wk) = true := decide_eq_true b1'
             go_wp2_with fail
             go_ret
             exact HD.out 7 (by omega) (by rw [<- HOK.out]; simp [okCfg,btB]; omega)
            ·have f1 : decide (ba < wk) = false := decide_eq_false b1'
             by_cases b2' : 1048576 < ba
             ·have f2 : decide (1048576 < ba) = true := decide_eq_true b2'
              go_wp2_with fail
              go_ret
              exact HD.out 7 (by omega) (by rw [<- HOK.out]; simp [okCfg,btB]; omega)
             ·have f2 : decide (1048576 < ba) = false := decide_eq_false b2'
              go_wp2_with fail
              go_ret
              have hall : ok = true := by
               rw [<- HOK.out]
               simp [okCfg,btB,HSZ.out,HQmi.out,HQbu.out,HQch.out,HQwi.out,HQca.out]
               skip
               omega
              exact ⟨0,rfl,by rw [hall]; simp,HB1.out⟩
      ·have e6 : (st != 0) = true := by simp [st0]
       go_wp2_with fail
       ((with_reducible refine (HZ.out mi w1).mono ?_); rintro e w2 ⟨rfl,rfl⟩)
       obtain ⟨qmi,hqmi⟩ : ∃ q,szB mi = q := ⟨_,rfl⟩
       rw [hqmi]
       have HQmi := hid hqmi
       clear hqmi
       cases qmi
       ·go_wp2_with fail
        go_ret
        exact HD.out 2 (by omega) (by rw [<- HOK.out]; simp [okCfg,HQmi.out])
       ·go_wp2_with fail
        ((with_reducible refine (HZ.out bu w1).mono ?_); rintro e w2 ⟨rfl,rfl⟩)
        obtain ⟨qbu,hqbu⟩ : ∃ q,szB bu = q := ⟨_,rfl⟩
        rw [hqbu]
        have HQbu := hid hqbu
        clear hqbu
        cases qbu
        ·go_wp2_with fail
         go_ret
         exact HD.out 2 (by omega) (by rw [<- HOK.out]; simp [okCfg,HQbu.out])
        ·go_wp2_with fail
         ((with_reducible refine (HZ.out ch w1).mono ?_); rintro e w2 ⟨rfl,rfl⟩)
         obtain ⟨qch,hqch⟩ : ∃ q,szB ch = q := ⟨_,rfl⟩
         rw [hqch]
         have HQch := hid hqch
         clear hqch
         cases qch
         ·go_wp2_with fail
          go_ret
          exact HD.out 2 (by omega) (by rw [<- HOK.out]; simp [okCfg,HQch.out])
         ·go_wp2_with fail
          ((with_reducible refine (HZ.out wi w1).mono ?_); rintro e w2 ⟨rfl,rfl⟩)
          obtain ⟨qwi,hqwi⟩ : ∃ q,szB wi = q := ⟨_,rfl⟩
          rw [hqwi]
          have HQwi := hid hqwi
          clear hqwi
          cases qwi
          ·go_wp2_with fail
           go_ret
           exact HD.out 2 (by omega) (by rw [<- HOK.out]; simp [okCfg,HQwi.out])
          ·go_wp2_with fail
           ((with_reducible refine (HZ.out ca w1).mono ?_); rintro e w2 ⟨rfl,rfl⟩)
           obtain ⟨qca,hqca⟩ : ∃ q,szB ca = q := ⟨_,rfl⟩
           rw [hqca]
           have HQca := hid hqca
           clear hqca
           cases qca
           ·go_wp2_with fail
            go_ret
            exact HD.out 2 (by omega) (by rw [<- HOK.out]; simp [okCfg,HQca.out])
           ·go_wp2_with fail
            ((with_reducible refine (HZ.out st w1).mono ?_); rintro e w2 ⟨rfl,rfl⟩)
            obtain ⟨qst,hqst⟩ : ∃ q,szB st = q := ⟨_,rfl⟩
            rw [hqst]
            have HQst := hid hqst
            clear hqst
            cases qst
            ·go_wp2_with fail
             go_ret
             exact HD.out 2 (by omega) (by
              rw [<- HOK.out]
              have hno : btB st 0 1048576 = false := by
               cases hb : btB st 0 1048576 with
               | false => rfl
               | true =>
                have h1 := (btB_iff _ _ _).1 hb
                have h2 := (szB_iff st).2 (by omega)
                rw [HQst.out] at h2
                cases h2
              simp [okCfg,hno])
            ·by_cases b1' : ba < wk
             ·have f1 : decide (ba < wk) = true := decide_eq_true b1'
              go_wp2_with fail
              go_ret
              exact HD.out 7 (by omega) (by rw [<- HOK.out]; simp [okCfg,btB]; omega)
             ·have f1 : decide (ba < wk) = false := decide_eq_false b1'
              by_cases b2' : 1048576 < ba
              ·have f2 : decide (1048576 < ba) = true := decide_eq_true b2'
               go_wp2_with fail
               go_ret
               exact HD.out 7 (by omega) (by rw [<- HOK.out]; simp [okCfg,btB]; omega)
              ·have f2 : decide (1048576 < ba) = false := decide_eq_false b2'
               go_wp2_with fail
               go_ret
               have hall : ok = true := by
                rw [<- HOK.out]
                simp [okCfg,btB,HSZ.out,HQmi.out,HQbu.out,HQch.out,HQwi.out,HQca.out]
                have h2 := (szB_iff st).1 HQst.out
                omega
               exact ⟨0,rfl,by rw [hall]; simp,HB1.out⟩
     ·have e5 : (k != 0) = true := by simp [hk0]
      have hsz : sizesB l = false := by
       cases hq : sizesB l with
       | false => rfl
       | true => exact absurd (HK.out.2 hq) hk0
      have HSZ := hid hsz
      clear hsz
      go_wp2_with fail
      go_ret
      exact HD.out k hk0 (by rw [<- HOK.out]; simp [okCfg,HSZ.out])
end
end Go.Proofs.YtkmaeipoaoikpaaGreat
