/- SmpRef, ConfIn. -/
import Derived.Test.YtkmaeipoaoikpaaGreatEB24
import Derived.Test.YtkmaeipoaoikpaaGreatEB26
namespace Go.Proofs.YtkmaeipoaoikpaaGreat
set_option linter.all false
set_option maxRecDepth 100000
set_option maxHeartbeats 4000000
open Lib (hid)
section
open Go.RowKit
theorem need_any (n : Nat) (w : World) (hn : n <= 1000000) : Calls Tryz.prog 100 #[.int .i64 n] w fun e w' => e = .returned (.int .i64 ((n - 1 : Nat) : Int)) /\ w = w' := by
 by_cases h : n < 1
 ·have e1 : decide ((n : Int) < 1) = true := decide_eq_true (by omega)
  go_enter Tryz.func100,Tryz.ntmps100
  go_wp2
  go_ret
  exact ⟨ret_int (by omega),rfl⟩
 ·have e1 : decide ((n : Int) < 1) = false := decide_eq_false (by omega)
  go_enter Tryz.func100,Tryz.ntmps100
  go_wp2
  go_ret
  exact ⟨ret_int (by omega),rfl⟩
theorem cnt_end {st q k : Nat} (hq : 1 <= q) (h1 : st <= k * q) (h2 : ∀ j,j < k -> j * q < st) : cnt st q = k := by
 by_cases hs : st = 0
 ·subst hs
  have : k = 0 := by
   rcases Nat.eq_zero_or_pos k with h | h
   ·exact h
   ·have := h2 0 h; omega
  subst this
  simp [cnt]
 ·have hs1 : 1 <= st := by omega
  have a1 : ¬ k < cnt st q := fun h => by have := (lt_cnt st q k hs1 hq).1 h; omega
  have a2 : ∀ j,j < k -> j < cnt st q := fun j hj => (lt_cnt st q j hs1 hq).2 (h2 j hj)
  rcases Nat.eq_zero_or_pos k with h | h
  ·omega
  ·have := a2 (k - 1) (by omega); omega
theorem epochs_any (n b st q : Nat) (w : World) (hn : n <= 1000) (hb : 1 <= b) (hbn : b <= n) (hst : st <= 1000) (hq : n / b = q) :
  Calls Tryz.prog 176 #[.int .i64 n,.int .i64 b,.int .i64 st] w fun e w' => e = .returned (.int .i64 (cnt st q)) /\ w = w' := by
 have hq1 : 1 <= q := by rw [<- hq]; exact (Nat.one_le_div_iff (by omega)).2 hbn
 have hqn : q <= n := by rw [<- hq]; exact Nat.div_le_self n b
 have hw : IntKind.i64.wrap ((n : Int) / (b : Int)) = (q : Int) := by
  rw [<- Int.natCast_ediv,hq,IntKind.wrap_i64]
  omega
 clear hq
 go_enter Tryz.func176,Tryz.ntmps176
 go_wp2_with fail
 go_loopw [7,8] (fun e t wr => ∃ k p : Nat,e = .int .i64 k /\ t = .int .i64 p /\ wr = w /\ Hid (p = k * q) /\ k <= p /\ Hid (∀ j,j < k -> j * q < st)) (fun _ t _ => st - (intOf t).toNat)
 case atStart => exact ⟨0,0,rfl,rfl,rfl,hid (by simp),by omega,hid (fun j h => by omega)⟩
 case round =>
  obtain ⟨k,p,rfl,rfl,hwr,hp,hkp,hlow⟩ := hrel
  subst hwr
  by_cases hlt : p < st
  ·have e1 : decide ((p : Int) < (st : Int)) = true := decide_eq_true (by omega)
   go_wp2_with fail
   go_roundw
   case rel => exact ⟨k + 1,p + q,by go_num,by go_num,trivial,hid (by rw [Nat.succ_mul,hp.out]),by omega,hid (fun j hj => by
    by_cases e : j = k
    ·subst e; rw [<- hp.out]; exact hlt
    ·exact hlow.out j (by omega))⟩
   case measure => simp [intOf]; omega
  ·have e1 : decide ((p : Int) < (st : Int)) = false := decide_eq_false (by omega)
   go_wp2_with fail
   go_ret
   exact ⟨ret_int (by rw [cnt_end hq1 (by rw [<- hp.out]; omega) hlow.out]),rfl⟩
def RShuf (w : World) (A : Option Addr) (N cap k n : Nat) (l : List Int) (e : Ending) (w' : World) : Prop :=
 ∃ A' c',e = .returned (.tuple #[.agg #[.slice A N cap,.int .i64 (k : Int)],.slice A' n c',.bool true]) /\ w'.ownsRow w.heap.size 3 1 (.slice A' n c') n (iv l) /\ Below w.heap.size w w'
theorem set_same' {l : List Int} {i j : Nat} {y : Int} (h : l[i]? = some y) : (l.set j y)[i]? = some y := by
 have := (List.getElem?_eq_some_iff.1 h).1
 rw [List.getElem?_set]
 by_cases e : j = i
 ·subst e; rw [if_pos rfl,if_pos this]
 ·rw [if_neg e]; exact h
theorem refShuf_at (N cap n s : Nat) (A : Option Addr) (L : List Int) (w : World) (hl : L.length = N) (h : Rd w 1 A N (uv L)) (hu : InU L) (hn : n <= 1000) (hN : s + (n - 1) <= N) (hN2 : N <= 10000000) :
  Calls Tryz.prog 177 #[.int .i64 n,.agg #[.slice A N cap,.int .i64 s]] w (RShuf w A N cap (s + (n - 1)) n (pemL L n s)) := by
 have e1 : decide ((n : Int) < 0) = false := decide_eq_false (by omega)
 have e2 : decide ((1048576 : Int) < (n : Int)) = false := decide_eq_false (by omega)
 have e3 : decide ((N : Int) - (s : Int) < ((n - 1 : Nat) : Int)) = false := decide_eq_false (by omega)
 have HND := hid (fun W => need_any n W (by omega))
 have HR := hid h
 have HL := hid hl
 have HU := hid hu
 clear h hl hu
 go_enter Tryz.func177,Tryz.ntmps177
 go_wp2_with fail
 obtain ⟨g1,hg1⟩ : ∃ g,w.heap.size = g := ⟨_,rfl⟩
 have HX : Hid (Below w.heap.size w ((w.alloc (.cells #[.slice A N cap,.int .i64 s] 316)).alloc (.cells #[.slice none 0 0,.int .i64 0] 316)) /\ Blk ((w.alloc (.cells #[.slice A N cap,.int .i64 s] 316)).alloc (.cells #[.slice none 0 0,.int .i64 0] 316)) g1 316 #[.slice A N cap,.int .i64 s] /\ Blk ((w.alloc (.cells #[.slice A N cap,.int .i64 s] 316)).alloc (.cells #[.slice none 0 0,.int .i64 0] 316)) (g1 + 1) 316 #[.slice none 0 0,.int .i64 0]) := hid ⟨((Below.refl _ _).alloc (Nat.le_refl _) _).alloc (by simp) _,(Blk.new' _ _ hg1).alloc _,Blk.new' _ _ (by simp [hg1])⟩
 have HG := hid hg1
 rw [hg1]
 obtain ⟨w2,hw2⟩ : ∃ w2,(w.alloc (.cells #[.slice A N cap,.int .i64 s] 316)).alloc (.cells #[.slice none 0 0,.int .i64 0] 316) = w2 := ⟨_,rfl⟩
 rw [hw2] at HX ⊢
 clear hw2
 have c0 : w2.cell? ⟨g1,0,none⟩ = some (.slice A N cap) := HX.out.2.1.cell 0
 have c1 : w2.cell? ⟨g1,1,none⟩ = some (.int .i64 s) := HX.out.2.1.cell 1
 have l1 := HX.out.2.1.lt
 clear hg1
 go_quiet (first
  | (go_at_call 100; exact quiet_left (HND.out _)))
 go_wp2_with fail
 have HX3 : Hid (Below w.heap.size w (w2.drewN nq) /\ Blk (w2.drewN nq) g1 316 #[.slice A N cap,.int .i64 s] /\ Blk (w2.drewN nq) (g1 + 1) 316 #[.slice none 0 0,.int .i64 0]) := hid ⟨below_drewN HX.out.1 nq,HX.out.2.1.drewN nq,HX.out.2.2.drewN nq⟩
 obtain ⟨w3,hw3⟩ : ∃ w3,w2.drewN nq = w3 := ⟨_,rfl⟩
 rw [hw3] at HX3 ⊢
 clear hw3 HX c0 c1 l1
 go_loopw [7,8] (fun v c wr => ∃ j : Nat,j <= n /\ c = .int .i64 j /\ (∃ A' c',v = .slice A' j c') /\ wr.ownsRow w3.heap.size 3 1 v j (iv (iotaL j)) /\ Below w3.heap.size w3 wr) (fun _ c _ => n - (intOf c).toNat)
 case atStart => exact ⟨0,by omega,rfl,⟨none,0,rfl⟩,by simpa [iv,iotaL] using World.ownsRow_nil _ _ _ _,Below.refl _ _⟩
 case round =>
  obtain ⟨j,hj,rfl,⟨A',c',rfl⟩,hown,hb⟩ := hrel
  by_cases hlt : j < n
  ·have hsz := hb.size
   have HO := hid hown
   have HB := hid hb
   have HT := hid (iv_iota_succ j)
   clear hown hb
   go_wp2_with (at_builtin; go_must (refine wpList_push slInt rfl _ _ rfl w3.heap.size _ j (iv (iotaL j)) rfl HO.out #[.int .i64 j] _ rfl rfl rfl (uone_int _) (by unfold maxLen; omega) (by omega) hsz ?_); intro A2 c2 w2 hown2 hb2)
   go_roundw
   case rel => exact ⟨j + 1,by omega,by go_num,⟨A2,c2,rfl⟩,by rw [HT.out]; exact hown2,HB.out.trans hb2⟩
   case measure => simp [intOf]; omega
  ·obtain rfl : j = n := by omega
   obtain ⟨m,hm⟩ : ∃ m,j - 1 = m := ⟨_,rfl⟩
   obtain ⟨ds,hds⟩ : ∃ ds,manyL L s (bndsL j m) = ds := ⟨_,rfl⟩
   have hgw : w.heap.size <= w3.heap.size := HX3.out.1.size
   have HNE : Hid (∀ g,A' = some ⟨g,0,none⟩ -> w3.heap.size <= g) := hid (fun g e => (own_rd_block hown g 0 e).1)
   have HQ := hid hown
   have HB4 := hid (HX3.out.1.trans (hb.mono hgw))
   have HS4 := hid (HX3.out.2.1.kept hb)
   have HR4 := hid (HX3.out.2.2.kept hb)
   have hw34 : w3.heap.size <= wr.heap.size := hb.size
   have hg3 : g1 + 1 < w3.heap.size := HX3.out.2.2.lt
   have HM := hid hm
   have HDS := hid hds
   have hmn : m <= j := by omega
   have HPM : Hid (pemL L j s = shufTo j ds m) := hid (by rw [pemL,hm,hds])
   rw [hm]
   clear hown hb hds hm
   go_wp2_with fail
   go_loopw [9] (fun i wr => ∃ (k t : Nat),k <= m /\ i = .int .i64 ((j : Int) - 1 - (k : Int)) /\ Hid (t = s + k) /\ Blk wr g1 316 #[.slice A N cap,.int .i64 t] /\ Blk wr (g1 + 1) 316 #[.slice none 0 0,.int .i64 0] /\ wr.ownsRow w3.heap.size 3 1 (.slice A' j c') j (iv (shufTo j ds k)) /\ Below w.heap.size w wr /\ w3.heap.size <= wr.heap.size) (fun i _ => (intOf i).toNat)
   case atStart => exact ⟨0,s,by omega,by simp,hid rfl,HS4.out,HR4.out,HQ.out,HB4.out,hw34⟩
   case round =>
    obtain ⟨k,t,hk,rfl,ht,hs,hr,hq,hb,hsz⟩ := hrel
    have hmm := HM.out
    by_cases hlt : k < m
    ·obtain ⟨i,hi⟩ : ∃ i,i + k + 1 = j := ⟨j - 1 - k,by omega⟩
     rw [show (j : Int) - 1 - (k : Int) = (i : Int) by omega]
     have hi0 : 0 < i := by omega
     have hin : i < j := by omega
     obtain ⟨_,_,q1,q2,q3,q6⟩ := own_form hq
     injection q1 with q4 _ q5
     subst q4 q5
     obtain ⟨g,rfl,_,hgl⟩ := q6 (by omega)
     have hg0 := HNE.out g rfl
     obtain ⟨x,hx⟩ : ∃ x,L[s + k]? = some x := ⟨_,List.getElem?_eq_getElem (by rw [HL.out]; omega)⟩
     have hdk : ds[k]? = some (x % ((i : Int) + 1)) := by
      rw [<- HDS.out,manyL_get L s (bndsL j m) k x _ hx (bndsL_get j m k hlt)]
      congr 2
      omega
     have hb1 := Int.emod_nonneg x (show (i : Int) + 1 ≠ 0 by omega)
     have hb2 := Int.emod_lt_of_pos x (show 0 < (i : Int) + 1 by omega)
     have C := refNext_some A N cap t L ((i : Int) + 1) x wr HL.out (HR.out.below hb) HU.out (by omega) (by omega) (by omega) (by rw [ht.out]; exact hx)
     obtain ⟨d,hd⟩ := Int.eq_ofNat_of_zero_le hb1
     rw [hd] at C hdk hb2
     have hdj : d < j := by omega
     have HC := hid C
     obtain ⟨y,hy⟩ : ∃ y,(shufTo j ds k)[i]? = some y := ⟨_,List.getElem?_eq_getElem (by rw [shufTo_length]; omega)⟩
     obtain ⟨z,hz⟩ : ∃ z,(shufTo j ds k)[d]? = some z := ⟨_,List.getElem?_eq_getElem (by rw [shufTo_length]; omega)⟩
     have HSW : Hid (shufTo j ds (k + 1) = ((shufTo j ds k).set i z).set d y) := hid (by
      rw [shufTo,show j - 1 - k = i by omega,swapL]
      simp [List.getD,hdk,hy,hz])
     have HY := hid hy
     have HZ := hid hz
     have HI := hid hi
     have HSS := hid hs
     have HRR := hid hr
     have HQQ := hid hq
     have HBB := hid hb
     have c0 : wr.cell? ⟨g1,0,none⟩ = some (.slice A N cap) := hs.cell 0
     have c1 : wr.cell? ⟨g1,1,none⟩ = some (.int .i64 t) := hs.cell 1
     have l1 := hs.lt
     have hng : g1 ≠ g := by omega
     have i1 : (0 : Int) <= (i : Int) := by omega
     have i2 : (i : Int) < (j : Int) := by omega
     have i3 : (0 : Int) <= (d : Int) := by omega
     have i4 : (d : Int) < (j : Int) := by omega
     clear hs hr hq hb C hy hz hx hdk hb1 hb2 hd q6 hi hmm
     go_wp2_with fail
     ((with_reducible refine HC.out.mono ?_); rintro e w5 ⟨rfl,hb5⟩)
     have HB5 := hid hb5
     have q5 := own_below HQQ.out hb5
     have S5 := HSS.out.kept hb5
     have cq1 := cell_iv q5 hin HY.out
     have cq2 := cell_iv q5 hdj HZ.out
     have fq1 := q5.frozenAt i
     have fq2 := q5.frozenAt d
     have fs0 := S5.frozen 0
     have fs1 := S5.frozen 1
     have cs0 := S5.cell 0
     have cs1 := S5.cell 1
     have l5 := S5.lt
     have lg5 : g < w5.heap.size := Nat.lt_of_lt_of_le hgl hb5.size
     have st5 := store2' S5 (.slice A N cap) (.int .i64 ((t : Int) + 1))
     have qx := q5.kept st5.1 (.inr (own_blk_ne q5 S5 (by decide)))
     have c5 := cell_iv (store_one qx i z).1 hdj (set_same' HZ.out)
     have f5 := (store_one qx i z).1.frozenAt d
     have HST := hid st5
     have HQX := hid qx
     clear hb5 q5 S5 c0 c1 l1 st5 qx
     go_wp2_with fail
     have P1 := store_one HQX.out i z
     have P2 := store_one P1.1 d y
     have HP2 := hid P2.1
     have HGP := hid (P1.2.trans P2.2)
     clear P1 P2 cq1 cq2 fq1 fq2 c5 f5
     have hszz : w3.heap.size <= w5.heap.size := Nat.le_trans hsz HB5.out.size
     have hg0' := HG.out
     have HBX : Hid (Below w.heap.size w ((((w5.setCell ⟨g1,0,none⟩ (.slice A N cap)).setCell ⟨g1,1,none⟩ (.int .i64 ((t : Int) + 1))).setCell ⟨g,i,none⟩ (.int .i64 z)).setCell ⟨g,d,none⟩ (.int .i64 y))) := hid (((((HBB.out.trans (HB5.out.mono HBB.out.size)).setCell (p := ⟨g1,0,none⟩) (by show w.heap.size <= g1; omega) _).setCell (p := ⟨g1,1,none⟩) (by show w.heap.size <= g1; omega) _).setCell (p := ⟨g,i,none⟩) (by show w.heap.size <= g; omega) _).setCell (p := ⟨g,d,none⟩) (by show w.heap.size <= g; omega) _)
     go_roundw
     case rel =>
      refine ⟨k + 1,t + 1,by omega,by have := HI.out; congr 1; omega,hid (by have := ht.out; omega),?_,?_,?_,?_,?_⟩
      ·exact (HST.out.2.grown HGP.out (by simpa using hng)).alloc _
      ·exact (((HRR.out.kept HB5.out).grown HST.out.1 (by simp)).grown HGP.out (by simp; omega)).alloc _
      ·rw [HSW.out]
       exact HP2.out.alloc _
      ·exact HBX.out.alloc (by simp [World.setCell]; omega) _
      ·simp [World.setCell]
       omega
     case measure => simp [intOf]; omega
    ·obtain rfl : k = m := by omega
     obtain ⟨z,hz⟩ : ∃ z,(j : Int) - 1 - (k : Int) = z := ⟨_,rfl⟩
     have hz0 : z <= 0 := by omega
     rw [hz]
     have HO := hid (own_base hq hgw)
     have HBB := hid hb
     have HRR := hid hr
     have c0 : wr.cell? ⟨g1,0,none⟩ = some (.slice A N cap) := hs.cell 0
     have c1 : wr.cell? ⟨g1,1,none⟩ = some (.int .i64 t) := hs.cell 1
     have l1 := hs.lt
     have r0 := hr.cell 0
     have r1 := hr.cell 1
     have f0 := hr.frozen 0
     have f1 := hr.frozen 1
     have l2 := hr.lt
     clear hs hr hq hb hz hmm
     go_wp2_with fail
     have hst := store2' HRR.out (.slice A N cap) (.int .i64 t)
     have ht2 : t = s + (j - 1) := by rw [ht.out,HM.out]
     exact bodyPost_ret (v := .tuple #[.agg #[.slice A N cap,.int .i64 t],.slice A' j c',.bool true]) (by simp [results,Tryz.results177,go_sem,r0,r1,l2,f0,f1]) rfl ⟨A',c',by rw [ht2],by
      rw [HPM.out]
      exact HO.out.kept hst.1 (.inr (own_blk_ne HO.out HRR.out (by decide))),below_gr HBB.out HBB.out.size hst.1 (by have := HG.out; omega)⟩
abbrev inC (A : Option Addr) (n cap : Nat) (c : Cfg) (S : Option Addr) (m cS : Nat) (AP : Option Addr) (P cP : Nat) (AD : Option Addr) (D cD : Nat) : Array Value := #[.slice A n cap,.int .i64 c.sh,.int .i64 c.ra,.int .i64 c.mo,.int .i64 c.wk,.int .i64 c.ba,.int .i64 c.mi,.int .i64 c.st,.int .i64 c.bu,.int .i64 c.ch,.int .i64 c.wi,.int .i64 c.ca,.slice S m cS,.slice AP P cP,.slice AD D cD]
abbrev inV (A : Option Addr) (n cap : Nat) (c : Cfg) (S : Option Addr) (m cS : Nat) (AP : Option Addr) (P cP : Nat) (AD : Option Addr) (D cD : Nat) : Value := .agg (inC A n cap c S m cS AP P cP AD D cD)
def needN (c : Cfg) (m : Nat) : Nat := cnt c.st.toNat (m / c.ba.toNat) * (m - 1)
def okIn (l : List Int) (c : Cfg) (es : List ExS) (m P D : Nat) : Bool := okCfg l c && (decide (c.ba <= m) && (fitsB es (l.getD 0 0) (l.getD (l.length - 1) 0) && (decide ((P : Int) = cntS l (l.length - 1)) && decide (needN c m <= D))))
theorem okCfg_nums {l : List Int} {c : Cfg} (h : okCfg l c = true) : (1 <= c.wk /\ c.wk <= 64) /\ (1 <= c.sh /\ c.sh <= 62) /\ sizesB l = true /\ (1 <= c.mi /\ c.mi <= 1048576) /\ (1 <= c.bu /\ c.bu <= 1048576) /\ (1 <= c.ch /\ c.ch <= 1048576) /\ (1 <= c.wi /\ c.wi <= 1048576) /\ (1 <= c.ca /\ c.ca <= 1048576) /\ (0 <= c.st /\ c.st <= 1048576) /\ (c.wk <= c.ba /\ c.ba <= 1048576) := by
 simp only [okCfg,Bool.and_eq_true,btB_iff,szB_iff] at h
 exact h
theorem sizesB_nums {l : List Int} (h : sizesB l = true) : 2 <= l.length /\ l.length <= 16 /\ wrongS l = false /\ cntS l (l.length - 1) <= 1048576 := by
 simp only [sizesB,Bool.and_eq_true,decide_eq_true_eq,Bool.not_eq_true'] at h
 exact ⟨h.1.1.1,h.1.1.2,h.1.2,h.2⟩
theorem cnt_lt (s q : Nat) (hs : s <= 1048576) : cnt s q <= 1048576 := Nat.le_trans (cnt_le s q) hs
theorem cnt_up (s q : Nat) (hq : 1 <= q) : (s + q - 1) / q = cnt s q := by
 unfold cnt
 by_cases h : s = 0
 ·subst h
  simp
  omega
 ·rw [if_neg (by omega)]
  have : s + q - 1 = (s - 1) + q := by omega
  rw [this,Nat.add_div_right _ (by omega)]
theorem permNeed_any (n : Nat) (w : World) (hn : n <= 1000000) : Calls Tryz.prog 157 #[.int .i64 n] w fun e w' => e = .returned (.int .i64 ((n - 1 : Nat) : Int)) /\ w = w' := by
 by_cases h : n < 1
 ·have e1 : decide ((n : Int) - 1 < 0) = true := decide_eq_true (by omega)
  go_enter Tryz.func157,Tryz.ntmps157
  go_wp2
  all_goals go_ret
  all_goals exact ⟨ret_int (by omega),rfl⟩
 ·have e1 : decide ((n : Int) - 1 < 0) = false := decide_eq_false (by omega)
  go_enter Tryz.func157,Tryz.ntmps157
  go_wp2
  all_goals go_ret
  all_goals exact ⟨ret_int (by omega),rfl⟩
end
section
open Go.RowKit
variable (A : Option Addr) (n cap : Nat) (l : List Int) (c : Cfg) (m : Nat) (w : World)
theorem confEpochs_any (hl : l.length = n) (h : Rd w 1 A n (iv l)) (hcap : n <= cap) (hn : n <= 1000) (hok : okCfg l c = true) (hb : c.ba <= m) (hm : m <= 1000) :
  Calls Tryz.prog 156 #[cfgV A n cap c,.int .i64 m] w fun e w' => e = .returned (.int .i64 (cnt c.st.toNat (m / c.ba.toNat))) /\ Below w.heap.size w w' := by
 have HG : Hid (∀ W,w.alloc (.cells (cfgC A n cap c) 24) = W -> Below w.heap.size w W /\ Blk W w.heap.size 24 (cfgC A n cap c)) := hid (by
  rintro W rfl
  exact ⟨(Below.refl _ _).alloc (Nat.le_refl _) _,Blk.new _ _ _⟩)
 have C := fun W (r : Rd W 1 A n (iv l)) => confCheck_any A n cap l c W hl r hcap (by omega)
 rw [hok] at C
 have HC := hid C
 have HR := hid h
 obtain ⟨⟨w1,_⟩,_,_,_,_,_,_,_,hs,hba⟩ := okCfg_nums hok
 obtain ⟨sh,ra,mo,wk,ba,mi,st,bu,ch,wi,ca⟩ := c
 dsimp only at w1 hs hba hb ⊢
 obtain ⟨b,rfl⟩ : ∃ b : Nat,ba = b := ⟨ba.toNat,by omega⟩
 obtain ⟨s,rfl⟩ : ∃ s : Nat,st = s := ⟨st.toNat,by omega⟩
 rw [Int.toNat_natCast,Int.toNat_natCast]
 obtain ⟨q,hq⟩ : ∃ q,m / b = q := ⟨_,rfl⟩
 rw [hq]
 have hq1 : 1 <= q := by rw [<- hq]; exact (Nat.one_le_div_iff (by omega)).2 (by omega)
 have hqn : q <= m := by rw [<- hq]; exact Nat.div_le_self m b
 have hw : IntKind.i64.wrap ((m : Int) / (b : Int)) = (q : Int) := by
  rw [<- Int.natCast_ediv,hq,IntKind.wrap_i64]
  omega
 obtain ⟨E,hE⟩ : ∃ E,cnt s q = E := ⟨_,rfl⟩
 have hE1 : E <= s := by rw [<- hE]; exact cnt_le s q
 have hw2 : ((s : Int) + (q : Int) - 1) / (q : Int) = (E : Int) := by
  rw [show (s : Int) + (q : Int) - 1 = ((s + q - 1 : Nat) : Int) by omega,<- Int.natCast_ediv,cnt_up s q hq1,hE]
 have HW2 := hid hw2
 rw [hE]
 clear hE hw2
 clear hq hl h hok C
 go_enter Tryz.func156,Tryz.ntmps156
 go_wp2_with fail
 obtain ⟨hB,hK⟩ := HG.out _ rfl
 ((with_reducible refine (HC.out _ (HR.out.below hB)).mono ?_); rintro e w2 ⟨k,rfl,hk,hb2⟩)
 obtain rfl : k = 0 := hk.2 rfl
 have HB2 := hid (hB.trans (hb2.mono hB.size))
 have HK2 := hid (hK.kept hb2)
 have c5 : w2.cell? ⟨w.heap.size,5,none⟩ = some (.int .i64 b) := HK2.out.cell 5
 have c7 : w2.cell? ⟨w.heap.size,7,none⟩ = some (.int .i64 s) := HK2.out.cell 7
 have l1 := HK2.out.lt
 have f1 : decide ((m : Int) < (b : Int)) = false := decide_eq_false (by omega)
 have f2 : decide ((1048576 : Int) < (m : Int)) = false := decide_eq_false (by omega)
 clear hB hK hk hb2
 go_wp2_with fail
 go_ret
 exact ⟨ret_int HW2.out,HB2.out⟩
theorem refEpochs11_any (hl : l.length = n) (h : Rd w 1 A n (iv l)) (hcap : n <= cap) (hn : n <= 1000) (hok : okCfg l c = true) (hb : c.ba <= m) (hm : m <= 1000) (hst : c.st <= 1000) :
  Calls Tryz.prog 99 #[cfgV A n cap c,.int .i64 m] w fun e w' => e = .returned (.int .i64 (cnt c.st.toNat (m / c.ba.toNat))) /\ Below w.heap.size w w' := by
 have HG : Hid (∀ W,w.alloc (.cells (cfgC A n cap c) 24) = W -> Below w.heap.size w W /\ Blk W w.heap.size 24 (cfgC A n cap c)) := hid (by
  rintro W rfl
  exact ⟨(Below.refl _ _).alloc (Nat.le_refl _) _,Blk.new _ _ _⟩)
 have C := fun W (r : Rd W 1 A n (iv l)) => refConf_any A n cap l c W hl r (by omega)
 rw [hok] at C
 have HC := hid C
 have HR := hid h
 obtain ⟨⟨w1,_⟩,_,_,_,_,_,_,_,hs,hba⟩ := okCfg_nums hok
 obtain ⟨sh,ra,mo,wk,ba,mi,st,bu,ch,wi,ca⟩ := c
 dsimp only at w1 hs hba hb hst ⊢
 obtain ⟨b,rfl⟩ : ∃ b : Nat,ba = b := ⟨ba.toNat,by omega⟩
 obtain ⟨s,rfl⟩ : ∃ s : Nat,st = s := ⟨st.toNat,by omega⟩
 rw [Int.toNat_natCast,Int.toNat_natCast]
 obtain ⟨q,hq⟩ : ∃ q,m / b = q := ⟨_,rfl⟩
 rw [hq]
 have hq1 : 1 <= q := by rw [<- hq]; exact (Nat.one_le_div_iff (by omega)).2 (by omega)
 have hqn : q <= m := by rw [<- hq]; exact Nat.div_le_self m b
 have hw : IntKind.i64.wrap ((m : Int) / (b : Int)) = (q : Int) := by
  rw [<- Int.natCast_ediv,hq,IntKind.wrap_i64]
  omega
 clear hq hl h hok C
 go_enter Tryz.func99,Tryz.ntmps99
 go_wp2_with fail
 obtain ⟨hB,hK⟩ := HG.out _ rfl
 ((with_reducible refine (HC.out _ (HR.out.below hB)).mono ?_); rintro e w2 ⟨k,rfl,hk,hb2⟩)
 obtain rfl : k = 0 := hk.2 rfl
 have HB2 := hid (hB.trans (hb2.mono hB.size))
 have HK2 := hid (hK.kept hb2)
 have c5 : w2.cell? ⟨w.heap.size,5,none⟩ = some (.int .i64 b) := HK2.out.cell 5
 have c7 : w2.cell? ⟨w.heap.size,7,none⟩ = some (.int .i64 s) := HK2.out.cell 7
 have l1 := HK2.out.lt
 have f1 : decide ((m : Int) < (b : Int)) = false := decide_eq_false (by omega)
 have f2 : decide ((1048576 : Int) < (m : Int)) = false := decide_eq_false (by omega)
 clear hB hK hk hb2
 have HBT := hid (fun W => between_any (m : Int) (b : Int) 1048576 W)
 have hbt : btB (m : Int) (b : Int) 1048576 = true := (btB_iff _ _ _).2 ⟨by omega,by omega⟩
 rw [hbt] at HBT
 clear hbt
 go_wp2_with fail
 ((with_reducible refine (HBT.out w2).mono ?_); rintro e w3 ⟨rfl,rfl⟩)
 go_wp2_with fail
 go_loopw [5,6] (fun e t wr => ∃ k p : Nat,e = .int .i64 k /\ t = .int .i64 p /\ wr = w2 /\ Hid (p = k * q) /\ k <= p /\ Hid (∀ j,j < k -> j * q < s)) (fun _ t _ => s - (intOf t).toNat)
 case atStart => exact ⟨0,0,rfl,rfl,rfl,hid (by simp),by omega,hid (fun j h => by omega)⟩
 case round =>
  obtain ⟨k,p,rfl,rfl,hwr,hp,hkp,hlow⟩ := hrel
  subst hwr
  by_cases hlt : p < s
  ·have e1 : decide ((p : Int) < (s : Int)) = true := decide_eq_true (by omega)
   go_wp2_with fail
   go_roundw
   case rel => exact ⟨k + 1,p + q,by go_num,by go_num,trivial,hid (by rw [Nat.succ_mul,hp.out]),by omega,hid (fun j hj => by
    by_cases e : j = k
    ·subst e; rw [<- hp.out]; exact hlt
    ·exact hlow.out j (by omega))⟩
   case measure => simp [intOf]; omega
  ·have e1 : decide ((p : Int) < (s : Int)) = false := decide_eq_false (by omega)
   go_wp2_with fail
   go_ret
   exact ⟨ret_int (by rw [cnt_end hq1 (by rw [<- hp.out]; omega) hlow.out]),HB2.out⟩
theorem confNeed_any (hl : l.length = n) (h : Rd w 1 A n (iv l)) (hcap : n <= cap) (hn : n <= 1000) (hok : okCfg l c = true) (hb : c.ba <= m) (hm : m <= 1000) :
  Calls Tryz.prog 68 #[cfgV A n cap c,.int .i64 m] w fun e w' => e = .returned (.int .i64 (needN c m)) /\ Below w.heap.size w w' := by
 have HG : Hid (∀ W,w.alloc (.cells (cfgC A n cap c) 24) = W -> Below w.heap.size w W /\ Blk W w.heap.size 24 (cfgC A n cap c)) := hid (by
  rintro W rfl
  exact ⟨(Below.refl _ _).alloc (Nat.le_refl _) _,Blk.new _ _ _⟩)
 have HC := hid (fun W (r : Rd W 1 A n (iv l)) => confEpochs_any A n cap l c m W hl r hcap hn hok hb hm)
 have HR := hid h
 have HN := hid (fun W => permNeed_any m W (by omega))
 obtain ⟨_,_,_,_,_,_,_,_,hs,hba⟩ := okCfg_nums hok
 obtain ⟨E,hE⟩ : ∃ E,cnt c.st.toNat (m / c.ba.toNat) = E := ⟨_,rfl⟩
 have hE1 : E <= 1048576 := by rw [<- hE]; exact cnt_lt _ _ (by omega)
 have hneed : needN c m = E * (m - 1) := by rw [needN,hE]
 rw [hneed]
 rw [hE] at HC
 obtain ⟨y,hy⟩ : ∃ y,m - 1 = y := ⟨_,rfl⟩
 rw [hy] at HN ⊢
 have hw : IntKind.i64.wrap ((E : Int) * (y : Int)) = ((E * y : Nat) : Int) := by
  have : E * y <= 1048576 * 1000 := Nat.mul_le_mul hE1 (by omega)
  rw [<- Int.natCast_mul,IntKind.wrap_i64]
  omega
 clear hl h hok hE hneed hy hs hba
 obtain ⟨sh,ra,mo,wk,ba,mi,st,bu,ch,wi,ca⟩ := c
 go_enter Tryz.func68,Tryz.ntmps68
 go_wp2_with fail
 obtain ⟨hB,hK⟩ := HG.out _ rfl
 ((with_reducible refine (HC.out _ (HR.out.below hB)).mono ?_); rintro e w2 ⟨rfl,hb2⟩)
 have HB2 := hid (hB.trans (hb2.mono hB.size))
 clear hB hK hb2
 go_wp2_with fail
 ((with_reducible refine (HN.out w2).mono ?_); rintro e w3 ⟨rfl,rfl⟩)
 go_wp2_with fail
 go_ret
 exact ⟨rfl,HB2.out⟩
theorem refNeed11_any (hl : l.length = n) (h : Rd w 1 A n (iv l)) (hcap : n <= cap) (hn : n <= 1000) (hok : okCfg l c = true) (hb : c.ba <= m) (hm : m <= 1000) (hst : c.st <= 1000) :
  Calls Tryz.prog 38 #[cfgV A n cap c,.int .i64 m] w fun e w' => e = .returned (.int .i64 (needN c m)) /\ Below w.heap.size w w' := by
 have HG : Hid (∀ W,w.alloc (.cells (cfgC A n cap c) 24) = W -> Below w.heap.size w W /\ Blk W w.heap.size 24 (cfgC A n cap c)) := hid (by
  rintro W rfl
  exact ⟨(Below.refl _ _).alloc (Nat.le_refl _) _,Blk.new _ _ _⟩)
 have HC := hid (fun W (r : Rd W 1 A n (iv l)) => refEpochs11_any A n cap l c m W hl r hcap hn hok hb hm hst)
 have HR := hid h
 have HN := hid (fun W => need_any m W (by omega))
 obtain ⟨_,_,_,_,_,_,_,_,hs,hba⟩ := okCfg_nums hok
 obtain ⟨E,hE⟩ : ∃ E,cnt c.st.toNat (m / c.ba.toNat) = E := ⟨_,rfl⟩
 have hE1 : E <= 1048576 := by rw [<- hE]; exact cnt_lt _ _ (by omega)
 have hneed : needN c m = E * (m - 1) := by rw [needN,hE]
 rw [hneed]
 rw [hE] at HC
 obtain ⟨y,hy⟩ : ∃ y,m - 1 = y := ⟨_,rfl⟩
 rw [hy] at HN ⊢
 have hw : IntKind.i64.wrap ((E : Int) * (y : Int)) = ((E * y : Nat) : Int) := by
  have : E * y <= 1048576 * 1000 := Nat.mul_le_mul hE1 (by omega)
  rw [<- Int.natCast_mul,IntKind.wrap_i64]
  omega
 clear hl h hok hE hneed hy hs hba
 obtain ⟨sh,ra,mo,wk,ba,mi,st,bu,ch,wi,ca⟩ := c
 go_enter Tryz.func38,Tryz.ntmps38
 go_wp2_with fail
 obtain ⟨hB,hK⟩ := HG.out _ rfl
 ((with_reducible refine (HC.out _ (HR.out.below hB)).mono ?_); rintro e w2 ⟨rfl,hb2⟩)
 have HB2 := hid (hB.trans (hb2.mono hB.size))
 clear hB hK hb2
 go_wp2_with fail
 ((with_reducible refine (HN.out w2).mono ?_); rintro e w3 ⟨rfl,rfl⟩)
 go_wp2_with fail
 go_ret
 exact ⟨rfl,HB2.out⟩
end
end Go.Proofs.YtkmaeipoaoikpaaGreat
