/- Check, PlanRef1, PermDraw. -/
import Derived.Maps.Ext
import Derived.Test.YtkmaeipoaoikpaaGreatEB20
namespace Go.Proofs.YtkmaeipoaoikpaaGreat
set_option linter.all false
set_option maxRecDepth 100000
set_option maxHeartbeats 4000000
open Lib (hid)
section
open Go.RowKit
abbrev ExS := (Option Addr × Nat × Nat) × (Option Addr × Nat × Nat)
def exV (es : List ExS) : List Value := es.flatMap fun e => [.slice e.1.1 e.1.2.1 e.1.2.2,.slice e.2.1 e.2.2.1 e.2.2.2]
theorem exV_cons (e : ExS) (l : List ExS) : exV (e :: l) = .slice e.1.1 e.1.2.1 e.1.2.2 :: .slice e.2.1 e.2.2.1 e.2.2.2 :: exV l := rfl
theorem exV_get (l : List ExS) (k : Nat) (s : ExS) (hk : l[k]? = some s) : (exV l)[k * 2]? = some (.slice s.1.1 s.1.2.1 s.1.2.2) /\ (exV l)[k * 2 + 1]? = some (.slice s.2.1 s.2.2.1 s.2.2.2) := by
 induction l generalizing k with
 | nil => simp at hk
 | cons r l ih =>
  rw [exV_cons]
  cases k with
  | zero =>
   obtain rfl : r = s := by simpa using hk
   exact ⟨rfl,rfl⟩
  | succ k =>
   have := ih k (by simpa using hk)
   rw [show (k + 1) * 2 = k * 2 + 2 by omega]
   simpa using this
theorem exV_rd {w : World} {S : Option Addr} {m k : Nat} {es : List ExS} {s : ExS} (h : Rd w 2 S m (exV es)) (hs : es[k]? = some s) (hk : k < m) : ∃ b o,S = some ⟨b,o,none⟩ /\ b < w.heap.size /\ w.cell? ⟨b,o + k * 2,none⟩ = some (.slice s.1.1 s.1.2.1 s.1.2.2) /\ w.cell? ⟨b,o + k * 2 + 1,none⟩ = some (.slice s.2.1 s.2.2.1 s.2.2.2) := by
 obtain ⟨b,o,e,hlt,hc⟩ := h.2 (by omega)
 obtain ⟨g1,g2⟩ := exV_get es k s hs
 exact ⟨b,o,e,hlt,hc _ _ g1,by rw [Nat.add_assoc]; exact hc _ _ g2⟩
def fit1 (i o : Int) (e : ExS) : Bool := decide ((e.1.2.1 : Int) = i) && decide ((e.2.2.1 : Int) = o)
def fitsB (es : List ExS) (i o : Int) : Bool := es.all (fit1 i o)
theorem fits_here {es : List ExS} {i o : Int} {k : Nat} {e : ExS} (hk : es[k]? = some e) (h : fit1 i o e = false) : fitsB es i o = false := by
 cases hq : fitsB es i o with
 | false => rfl
 | true =>
  unfold fitsB at hq
  rw [List.all_eq_true] at hq
  rw [hq e (List.mem_of_getElem? hk)] at h
  cases h
theorem fits_all {es : List ExS} {i o : Int} {m : Nat} (hl : es.length = m) (h : ∀ k e,k < m -> es[k]? = some e -> fit1 i o e = true) : fitsB es i o = true := by
 unfold fitsB
 rw [List.all_eq_true]
 intro x hx
 obtain ⟨k,hk,rfl⟩ := List.mem_iff_getElem.1 hx
 exact h k _ (by omega) (List.getElem?_eq_getElem hk)
def NumOk (ok : Bool) (w : World) (e : Ending) (w' : World) : Prop := ∃ v : Int,e = .returned (.tuple #[.int .i64 v,.bool ok]) /\ Below w.heap.size w w'
end
section
open Go.RowKit
variable (S : Option Addr) (m cS : Nat) (es : List ExS) (i o : Int) (w : World)
theorem check1_any (g1 g2 : Nat) (e : ExS) (h1 : Blk w g1 3 #[.int .i64 i]) (h2 : Blk w g2 3 #[.int .i64 o]) :
  Calls Tryz.prog 155 #[.agg #[.slice e.1.1 e.1.2.1 e.1.2.2,.slice e.2.1 e.2.2.1 e.2.2.2],.pointer (some ⟨g1,0,none⟩),.pointer (some ⟨g2,0,none⟩)] w fun en w' => en = .returned (.bool (!fit1 i o e)) /\ Below w.heap.size w w' := by
 obtain ⟨⟨a,n,c⟩,⟨a',n',c'⟩⟩ := e
 have q1 := h1.cell 0
 have q2 := h2.cell 0
 have l1 := h1.lt
 have l2 := h2.lt
 clear h1 h2
 have HK : Hid (Below w.heap.size w (w.alloc (.cells #[.slice a n c,.slice a' n' c'] 162))) := hid ((Below.refl _ _).alloc (Nat.le_refl _) _)
 by_cases e1 : (n : Int) = i
 ·by_cases e2 : (n' : Int) = o
  ·have f1 : ((n : Int) != i) = false := by simp [e1]
   have f2 : ((n' : Int) != o) = false := by simp [e2]
   have HQ : Hid ((!fit1 i o ((a,n,c),(a',n',c'))) = false) := hid (by simp [fit1,e1,e2])
   clear e1 e2
   go_enter Tryz.func155,Tryz.ntmps155
   go_wp2
   go_ret
   exact ⟨ret_bool HQ.out.symm,HK.out⟩
  ·have f1 : ((n : Int) != i) = false := by simp [e1]
   have f2 : ((n' : Int) != o) = true := by simp [e2]
   have HQ : Hid ((!fit1 i o ((a,n,c),(a',n',c'))) = true) := hid (by simp [fit1,e1,e2])
   clear e1 e2
   go_enter Tryz.func155,Tryz.ntmps155
   go_wp2
   go_ret
   exact ⟨ret_bool HQ.out.symm,HK.out⟩
 ·have f1 : ((n : Int) != i) = true := by simp [e1]
  have HQ : Hid ((!fit1 i o ((a,n,c),(a',n',c'))) = true) := hid (by simp [fit1,e1])
  clear e1
  go_enter Tryz.func155,Tryz.ntmps155
  go_wp2
  go_ret
  exact ⟨ret_bool HQ.out.symm,HK.out⟩
theorem indexEx_any (g1 g2 : Nat) (hl : es.length = m) (h : Rd w 2 S m (exV es)) (hm : m <= 1000000) (h1 : Blk w g1 3 #[.int .i64 i]) (h2 : Blk w g2 3 #[.int .i64 o]) :
  Calls Tryz.prog 154 #[.slice S m cS,.func (.func 155) #[] #[.pointer (some ⟨g1,0,none⟩),.pointer (some ⟨g2,0,none⟩)]] w fun e w' => ∃ v : Int,e = .returned (.int .i64 v) /\ decide (v < 0) = fitsB es i o /\ -1 <= v /\ v <= 1000000 /\ Below w.heap.size w w' := by
 have HL := hid hl
 have HR := hid h
 have HC := hid (fun W (hB : Below w.heap.size w W) e => check1_any i o W g1 g2 e (h1.kept hB) (h2.kept hB))
 clear hl h h1 h2
 go_enter Tryz.func154,Tryz.ntmps154
 go_wp2_with fail
 go_loopw [8] (fun c wr => ∃ k : Nat,k <= m /\ c = .int .i64 k /\ Hid (∀ j e,j < k -> es[j]? = some e -> fit1 i o e = true) /\ Below w.heap.size w wr) (fun c _ => m - (intOf c).toNat)
 case atStart => exact ⟨0,by omega,rfl,hid (fun j x h => by omega),Below.refl _ _⟩
 case round =>
  obtain ⟨k,hk,rfl,he,hb⟩ := hrel
  by_cases hlt : k < m
  ·obtain ⟨⟨⟨a,n,c⟩,⟨a',n',c'⟩⟩,hs⟩ : ∃ s,es[k]? = some s := ⟨_,List.getElem?_eq_getElem (by rw [HL.out]; exact hlt)⟩
   obtain ⟨b,o',rfl,lb,c0,c1⟩ := exV_rd (HR.out.below hb) hs hlt
   have C := HC.out wr hb ((a,n,c),(a',n',c'))
   obtain ⟨q,hq⟩ : ∃ q,fit1 i o ((a,n,c),(a',n',c')) = q := ⟨_,rfl⟩
   rw [hq] at C
   have HQ := hid hq
   have HS := hid hs
   have HCC := hid C
   have HB := hid hb
   dsimp only at c0 c1
   clear hq hs C hb
   cases q
   ·go_wp2_with fail
    ((with_reducible refine HCC.out.mono ?_); rintro e w1 ⟨rfl,hb1⟩)
    have HB1 := hid (HB.out.trans (hb1.mono HB.out.size))
    clear hb1
    go_wp2_with fail
    go_ret
    exact ⟨k,rfl,by rw [fits_here HS.out HQ.out]; simp,by omega,by omega,HB1.out⟩
   ·go_wp2_with fail
    ((with_reducible refine HCC.out.mono ?_); rintro e w1 ⟨rfl,hb1⟩)
    have HB1 := hid (HB.out.trans (hb1.mono HB.out.size))
    clear hb1
    go_wp2_with fail
    go_roundw
    case rel =>
     refine ⟨k + 1,by omega,by go_num,hid (fun j y hj hy => ?_),HB1.out⟩
     by_cases hjk : j < k
     ·exact he.out j y hjk hy
     ·obtain rfl : j = k := by omega
      rw [HS.out] at hy
      injection hy with hy
      rw [<- hy]
      exact HQ.out
    case measure => simp [intOf]; omega
  ·obtain rfl : k = m := by omega
   have HB := hid hb
   clear hb
   go_wp2
   go_ret
   exact ⟨-1,rfl,by rw [fits_all HL.out he.out]; rfl,by omega,by omega,HB.out⟩
theorem dataCheck_any (hl : es.length = m) (h : Rd w 2 S m (exV es)) (hm : m <= 1000000) :
  Calls Tryz.prog 67 #[.slice S m cS,.int .i64 i,.int .i64 o] w (NumOk (fitsB es i o) w) := by
 obtain ⟨w0,hw0⟩ : ∃ w0,(w.alloc (.cells #[.int .i64 i] 3)).alloc (.cells #[.int .i64 o] 3) = w0 := ⟨_,rfl⟩
 have HW := hid hw0
 have hk0 : Below w.heap.size w w0 := by rw [<- hw0]; exact ((Below.refl _ _).alloc (Nat.le_refl _) _).alloc (by simp) _
 have hb0 : Blk w0 w.heap.size 3 #[.int .i64 i] := by rw [<- hw0]; exact (Blk.new w _ _).alloc _
 have hb1 : Blk w0 (w.heap.size + 1) 3 #[.int .i64 o] := by rw [<- hw0]; exact Blk.new' _ _ (by simp)
 have HC := hid (indexEx_any S m cS es i o w0 w.heap.size (w.heap.size + 1) hl (h.below hk0) hm hb0 hb1)
 have HK := hid hk0
 clear hl h hk0 hb0 hb1 hw0
 go_enter Tryz.func67,Tryz.ntmps67
 go_wp2_with fail
 rw [HW.out]
 ((with_reducible refine HC.out.mono ?_); rintro e w1 ⟨v,rfl,hv,v1,v2,hb⟩)
 have HV := hid hv
 have HB := hid (HK.out.trans (hb.mono HK.out.size))
 clear hv hb
 by_cases hv0 : v < 0
 ·have e1 : decide (v < 0) = true := decide_eq_true hv0
  have HT : Hid (fitsB es i o = true) := hid (by rw [<- HV.out,e1])
  clear hv0
  go_wp2_with fail
  all_goals go_ret2
  all_goals exact ⟨_,by rw [HT.out]; rfl,HB.out⟩
 ·have e1 : decide (v < 0) = false := decide_eq_false hv0
  have HT : Hid (fitsB es i o = false) := hid (by rw [<- HV.out,e1])
  clear hv0
  go_wp2_with fail
  all_goals go_ret2
  all_goals exact ⟨_,by rw [HT.out]; rfl,HB.out⟩
end
section
open Go.RowKit
abbrev rplC (A : Option Addr) (n cap : Nat) (c : Cfg) (P : Int) : Array Value := #[.slice A n cap,.int .i64 c.sh,.int .i64 c.ra,.int .i64 c.mo,.int .i64 c.wk,.int .i64 c.ba,.int .i64 c.mi,.int .i64 c.st,.int .i64 c.bu,.int .i64 c.ch,.int .i64 c.wi,.int .i64 c.ca,.int .i64 P]
abbrev rplV (A : Option Addr) (n cap : Nat) (c : Cfg) (P : Int) : Value := .agg (rplC A n cap c P)
def rightB (l : List Int) (c : Cfg) (P : Int) : Bool := okCfg l c && (decide (1 <= P) && decide (P <= 1048576))
def fewPB (n : Nat) (l : List Int) (c : Cfg) (P : Int) : Bool := if 40 < n then false else if rightB l c P then decide (P <= 60) && (decide (c.wk <= 8) && (decide (c.mi <= 20) && decide (c.st <= 12))) else true
end
section
open Go.RowKit
variable (A : Option Addr) (n cap : Nat) (l : List Int) (c : Cfg) (P : Int) (w : World)
theorem refConf_any (hl : l.length = n) (h : Rd w 1 A n (iv l)) (hn : n <= 1000) :
  Calls Tryz.prog 34 #[cfgV A n cap c] w (CodeRet (okCfg l c) w) := by
 have HG : Hid (∀ W,w.alloc (.cells (cfgC A n cap c) 24) = W -> Below w.heap.size w W /\ Blk W w.heap.size 24 (cfgC A n cap c)) := hid (by
  rintro W rfl
  exact ⟨(Below.refl _ _).alloc (Nat.le_refl _) _,Blk.new _ _ _⟩)
 have HS := hid (fun W (r : Rd W 1 A n (iv l)) => refCheck08_any A n cap l W hl r hn)
 have HR := hid h
 have HZ := hid between_any
 obtain ⟨sh,ra,mo,wk,ba,mi,st,bu,ch,wi,ca⟩ := c
 obtain ⟨ok,hok⟩ : ∃ ok,okCfg l ⟨sh,ra,mo,wk,ba,mi,st,bu,ch,wi,ca⟩ = ok := ⟨_,rfl⟩
 have HOK : Hid ((btB wk 1 64 && (btB sh 1 62 && (sizesB l && (btB mi 1 1048576 && (btB bu 1 1048576 && (btB ch 1 1048576 && (btB wi 1 1048576 && (btB ca 1 1048576 && (btB st 0 1048576 && btB ba wk 1048576))))))))) = ok) := hid hok
 rw [hok]
 clear hl h hok
 go_enter Tryz.func34,Tryz.ntmps34
 go_wp2_with fail
 obtain ⟨w0,hw0⟩ : ∃ w0,w.alloc (.cells (cfgC A n cap ⟨sh,ra,mo,wk,ba,mi,st,bu,ch,wi,ca⟩) 24) = w0 := ⟨_,rfl⟩
 obtain ⟨hB,hK⟩ := HG.out _ hw0
 rw [hw0]
 clear hw0 HG
 obtain ⟨bc,hbc⟩ : ∃ bc,w.heap.size = bc := ⟨_,rfl⟩
 rw [hbc] at hK ⊢
 have HBC := hid hbc
 clear hbc
 have HB := hid hB
 have HK := hid hK
 have c0 : w0.cell? ⟨bc,0,none⟩ = some (.slice A n cap) := hK.cell 0
 have c1 : w0.cell? ⟨bc,1,none⟩ = some (.int .i64 sh) := hK.cell 1
 have c4 : w0.cell? ⟨bc,4,none⟩ = some (.int .i64 wk) := hK.cell 4
 have lc := hK.lt
 clear hB hK
 have HD : Hid (∀ (code : Int) (W : World),code ≠ 0 -> ok = false -> Below w.heap.size w W -> CodeRet ok w (.returned (.int .i64 code)) W) := hid (fun code W h1 h2 h3 => ⟨code,rfl,by rw [h2]; simp [h1],h3⟩)
 ((with_reducible refine (HZ.out wk 1 64 w0).mono ?_); rintro e w2 ⟨rfl,rfl⟩)
 obtain ⟨q1,hq1⟩ : ∃ q,btB wk 1 64 = q := ⟨_,rfl⟩
 rw [hq1]
 rw [hq1] at HOK
 clear hq1
 cases q1
 ·go_wp2_with fail
  go_ret
  exact HD.out 6 _ (by omega) (by rw [<- HOK.out]; rfl) HB.out
 ·go_wp2_with fail
  ((with_reducible refine (HZ.out sh 1 62 w0).mono ?_); rintro e w2 ⟨rfl,rfl⟩)
  obtain ⟨q2,hq2⟩ : ∃ q,btB sh 1 62 = q := ⟨_,rfl⟩
  rw [hq2]
  rw [hq2] at HOK
  clear hq2
  cases q2
  ·go_wp2_with fail
   go_ret
   exact HD.out 9 _ (by omega) (by rw [<- HOK.out]; rfl) HB.out
  ·go_wp2_with fail
   ((with_reducible refine (HS.out _ (HR.out.below (by rw [HBC.out]; exact HBC.out ▸ HB.out))).mono ?_); rintro e w1 ⟨cd,rfl,hcd,hb1⟩)
   have HCD := hid hcd
   have k1 := HK.out.kept hb1
   have HK1 := hid k1
   have HB1 := hid (HB.out.trans (hb1.mono HB.out.size))
   clear hcd hb1 c0 c1 c4 lc HK HB
   by_cases h0 : cd = 0
   ·subst h0
    have hsz := HCD.out.1 rfl
    rw [hsz] at HOK
    have c4 : w1.cell? ⟨bc,4,none⟩ = some (.int .i64 wk) := k1.cell 4
    have c5 : w1.cell? ⟨bc,5,none⟩ = some (.int .i64 ba) := k1.cell 5
    have c6 : w1.cell? ⟨bc,6,none⟩ = some (.int .i64 mi) := k1.cell 6
    have c7 : w1.cell? ⟨bc,7,none⟩ = some (.int .i64 st) := k1.cell 7
    have c8 : w1.cell? ⟨bc,8,none⟩ = some (.int .i64 bu) := k1.cell 8
    have c9 : w1.cell? ⟨bc,9,none⟩ = some (.int .i64 ch) := k1.cell 9
    have c10 : w1.cell? ⟨bc,10,none⟩ = some (.int .i64 wi) := k1.cell 10
    have c11 : w1.cell? ⟨bc,11,none⟩ = some (.int .i64 ca) := k1.cell 11
    have lc := k1.lt
    obtain ⟨s1,hs1⟩ : ∃ s1,IntKind.i64.wrap (st + 1) = s1 := ⟨_,rfl⟩
    have HNB : Hid (∀ W,w1.alloc (.cells #[.int .i64 mi,.int .i64 bu,.int .i64 ch,.int .i64 wi,.int .i64 ca,.int .i64 s1] 3) = W -> Below w1.heap.size w1 W /\ Blk W w1.heap.size 3 #[.int .i64 mi,.int .i64 bu,.int .i64 ch,.int .i64 wi,.int .i64 ca,.int .i64 s1]) := hid (by
     rintro W rfl
     exact ⟨(Below.refl _ _).alloc (Nat.le_refl _) _,Blk.new _ _ _⟩)
    clear k1 hsz
    by_cases hs0 : st < 0
    ·have e1 : decide (st < 0) = true := decide_eq_true hs0
     go_wp2_with fail
     go_ret
     exact HD.out 2 _ (by omega) (by rw [<- HOK.out]; simp [btB]; intros; omega) (HB1.out.alloc HB1.out.size _)
    ·have e1 : decide (st < 0) = false := decide_eq_false hs0
     by_cases hs2 : 1048576 < st
     ·have e2 : decide (1048576 < st) = true := decide_eq_true hs2
      go_wp2_with fail
      go_ret
      exact HD.out 2 _ (by omega) (by rw [<- HOK.out]; simp [btB]; intros; omega) (HB1.out.alloc HB1.out.size _)
     ·have e2 : decide (1048576 < st) = false := decide_eq_false hs2
      have hst : btB st 0 1048576 = true := by simp [btB]; omega
      rw [hst] at HOK
      clear hst
      go_wp2_with fail
      obtain ⟨w3,hw3⟩ : ∃ w3,w1.alloc (.cells #[.int .i64 mi,.int .i64 bu,.int .i64 ch,.int .i64 wi,.int .i64 ca,.int .i64 s1] 3) = w3 := ⟨_,rfl⟩
      obtain ⟨hb3,hl3⟩ := HNB.out _ hw3
      rw [hw3]
      have HB3 := hid (HB1.out.trans (hb3.mono HB1.out.size))
      have HK3 := hid (HK1.out.kept hb3)
      obtain ⟨lb,hlb⟩ : ∃ lb,w1.heap.size = lb := ⟨_,rfl⟩
      rw [hlb] at hl3 ⊢
      have HL3 := hid hl3
      clear hlb hw3 hb3 hl3 HNB hs1 c4 c5 c6 c7 c8 c9 c10 c11 lc e1 e2 HB1 HK1
      have HE : Hid (∀ k : Nat,k < 5 -> ∃ y,w3.cell? ⟨lb,k,none⟩ = some (.int .i64 y) /\ [mi,bu,ch,wi,ca][k]? = some y) := hid (fun k hk => by
       match k,hk with
       | 0,_ => exact ⟨mi,HL3.out.cell 0,rfl⟩
       | 1,_ => exact ⟨bu,HL3.out.cell 1,rfl⟩
       | 2,_ => exact ⟨ch,HL3.out.cell 2,rfl⟩
       | 3,_ => exact ⟨wi,HL3.out.cell 3,rfl⟩
       | 4,_ => exact ⟨ca,HL3.out.cell 4,rfl⟩)
      have HF : Hid (∀ (k : Nat) (y : Int),[mi,bu,ch,wi,ca][k]? = some y -> btB y 1 1048576 = false -> ok = false) := hid (fun k y hy hf => by
       have := HOK.out
       match k,hy with
       | 0,hy => injection hy with hy; subst hy; rw [<- this,hf]; simp
       | 1,hy => injection hy with hy; subst hy; rw [<- this,hf]; simp
       | 2,hy => injection hy with hy; subst hy; rw [<- this,hf]; simp
       | 3,hy => injection hy with hy; subst hy; rw [<- this,hf]; simp
       | 4,hy => injection hy with hy; subst hy; rw [<- this,hf]; simp)
      have HT : Hid ((∀ (j : Nat) (y : Int),j < 5 -> [mi,bu,ch,wi,ca][j]? = some y -> btB y 1 1048576 = true) -> btB ba wk 1048576 = ok) := hid (fun hall => by
       have h0 := hall 0 mi (by omega) rfl
       have h1 := hall 1 bu (by omega) rfl
       have h2 := hall 2 ch (by omega) rfl
       have h3 := hall 3 wi (by omega) rfl
       have h4 := hall 4 ca (by omega) rfl
       rw [<- HOK.out,h0,h1,h2,h3,h4]
       simp)
      have llb := HL3.out.lt
      go_loopw [5] (fun i wr => ∃ k : Nat,k <= 5 /\ i = .int .i64 k /\ wr = w3 /\ Hid (∀ (j : Nat) (y : Int),j < k -> [mi,bu,ch,wi,ca][j]? = some y -> btB y 1 1048576 = true)) (fun i _ => 5 - (intOf i).toNat)
      case atStart => exact ⟨0,by omega,rfl,rfl,hid (fun j y h => by omega)⟩
      case round =>
       obtain ⟨k,hk,rfl,hwr,he⟩ := hrel
       subst hwr
       by_cases hlt : k < 5
       ·obtain ⟨y,hy1,hy2⟩ := HE.out k hlt
        have HY := hid hy2
        have i1 : (k : Int) < 5 := by omega
        have i2 : (0 : Int) <= (k : Int) := by omega
        have i3 : (k : Int) < 6 := by omega
        clear hy2
        go_wp2_with fail
        ((with_reducible refine (HZ.out y 1 1048576 _).mono ?_); rintro e w2 ⟨rfl,rfl⟩)
        obtain ⟨q3,hq3⟩ : ∃ q,btB y 1 1048576 = q := ⟨_,rfl⟩
        rw [hq3]
        have HQ3 := hid hq3
        clear hq3
        cases q3
        ·go_wp2_with fail
         go_ret
         exact HD.out 2 _ (by omega) (HF.out k y HY.out HQ3.out) HB3.out
        ·go_wp2_with fail
         go_roundw
         case rel =>
          refine ⟨k + 1,by omega,by go_num,trivial,hid (fun j z hj hz => ?_)⟩
          by_cases hjk : j < k
          ·exact he.out j z hjk hz
          ·obtain rfl : j = k := by omega
           rw [HY.out] at hz
           injection hz with hz
           subst hz
           exact HQ3.out
         case measure => simp [intOf]; omega
       ·obtain rfl : k = 5 := by omega
        have c4 : wr.cell? ⟨bc,4,none⟩ = some (.int .i64 wk) := HK3.out.cell 4
        have c5 : wr.cell? ⟨bc,5,none⟩ = some (.int .i64 ba) := HK3.out.cell 5
        have lc := HK3.out.lt
        have HOB := hid (HT.out he.out)
        clear he
        go_wp2_with fail
        ((with_reducible refine (HZ.out ba wk 1048576 _).mono ?_); rintro e w2 ⟨rfl,rfl⟩)
        obtain ⟨q3,hq3⟩ : ∃ q,btB ba wk 1048576 = q := ⟨_,rfl⟩
        rw [hq3]
        rw [hq3] at HOB
        clear hq3
        cases q3
        ·go_wp2_with fail
         go_ret
         exact HD.out 7 _ (by omega) HOB.out.symm HB3.out
        ·go_wp2_with fail
         go_ret
         exact ⟨0,rfl,by rw [<- HOB.out]; simp,HB3.out⟩
   ·have hsz : sizesB l = false := by
     cases hq : sizesB l with
     | false => rfl
     | true => exact absurd (HCD.out.2 hq) h0
    rw [hsz] at HOK
    have e5 : (cd != 0) = true := by simp [h0]
    clear hsz
    go_wp2_with fail
    go_ret
    exact HD.out cd _ h0 (by rw [<- HOK.out]; simp) HB1.out
theorem refRight_any_PlanRef1 (hl : l.length = n) (h : Rd w 1 A n (iv l)) (hn : n <= 1000) :
  Calls Tryz.prog 179 #[rplV A n cap c P] w fun e w' => e = .returned (.bool (rightB l c P)) /\ Below w.heap.size w w' := by
 have HG : Hid (∀ W,w.alloc (.cells (rplC A n cap c P) 172) = W -> Below w.heap.size w W /\ Blk W w.heap.size 172 (rplC A n cap c P)) := hid (by
  rintro W rfl
  exact ⟨(Below.refl _ _).alloc (Nat.le_refl _) _,Blk.new _ _ _⟩)
 have HC := hid (fun W (r : Rd W 1 A n (iv l)) => refConf_any A n cap l c W hl r hn)
 have HR := hid h
 obtain ⟨q,hq⟩ : ∃ q,rightB l c P = q := ⟨_,rfl⟩
 have HQ := hid hq
 rw [hq]
 clear hl h hq
 go_enter Tryz.func179,Tryz.ntmps179
 go_wp2_with fail
 obtain ⟨w0,hw0⟩ : ∃ w0,w.alloc (.cells (rplC A n cap c P) 172) = w0 := ⟨_,rfl⟩
 obtain ⟨hB,hK⟩ := HG.out _ hw0
 rw [hw0]
 clear hw0 HG
 have HB := hid hB
 have HK := hid hK
 ((with_reducible refine (HC.out _ (HR.out.below hB)).mono ?_); rintro e w1 ⟨cd,rfl,hcd,hb1⟩)
 have k1 := HK.out.kept hb1
 have HB1 := hid (HB.out.trans (hb1.mono HB.out.size))
 have HCD := hid hcd
 have c12 : w1.cell? ⟨w.heap.size,12,none⟩ = some (.int .i64 P) := k1.cell 12
 have lc := k1.lt
 clear hB hK hcd hb1 k1 HB HK
 by_cases h0 : cd = 0
 ·subst h0
  have HO := hid (HCD.out.1 rfl)
  by_cases h1 : 1 <= P
  ·have e1 : decide (1 <= P) = true := decide_eq_true h1
   by_cases h2 : P <= 1048576
   ·have e2 : decide (P <= 1048576) = true := decide_eq_true h2
    go_wp2_with fail
    go_ret
    exact ⟨ret_bool (by rw [<- HQ.out]; simp only [rightB,HO.out,e1,e2,Bool.and_true,Bool.true_and]),HB1.out⟩
   ·have e2 : decide (P <= 1048576) = false := decide_eq_false h2
    go_wp2_with fail
    go_ret
    exact ⟨ret_bool (by rw [<- HQ.out]; simp only [rightB,e2,Bool.and_false]),HB1.out⟩
  ·have e1 : decide (1 <= P) = false := decide_eq_false h1
   go_wp2_with fail
   go_ret
   exact ⟨ret_bool (by rw [<- HQ.out]; simp only [rightB,e1,Bool.false_and,Bool.and_false]),HB1.out⟩
 ·have hno : okCfg l c = false := by
   cases hh : okCfg l c with
   | false => rfl
   | true => exact absurd (HCD.out.2 hh) h0
  have HO := hid hno
  have e5 : (cd == 0) = false := by simp [h0]
  clear hno
  go_wp2_with fail
  go_ret
  exact ⟨ret_bool (by rw [<- HQ.out]; simp only [rightB,HO.out,Bool.false_and]),HB1.out⟩
theorem refFew_any (hl : l.length = n) (h : Rd w 1 A n (iv l)) :
  Calls Tryz.prog 96 #[rplV A n cap c P] w fun e w' => e = .returned (.bool (fewPB n l c P)) /\ Below w.heap.size w w' := by
 have HG : Hid (∀ W,w.alloc (.cells (rplC A n cap c P) 172) = W -> Below w.heap.size w W /\ Blk W w.heap.size 172 (rplC A n cap c P)) := hid (by
  rintro W rfl
  exact ⟨(Below.refl _ _).alloc (Nat.le_refl _) _,Blk.new _ _ _⟩)
 have HR := hid h
 have HL := hid hl
 obtain ⟨q,hq⟩ : ∃ q,fewPB n l c P = q := ⟨_,rfl⟩
 have HQ := hid hq
 rw [hq]
 by_cases h40 : 40 < n
 ·have e1 : decide ((40 : Int) < (n : Int)) = true := decide_eq_true (by omega)
  have e2 : decide ((n : Int) <= 40) = false := decide_eq_false (by omega)
  clear hl h hq
  go_enter Tryz.func96,Tryz.ntmps96
  go_wp2_with fail
  go_ret
  exact ⟨ret_bool (by rw [<- HQ.out,fewPB,if_pos h40]),(Below.refl _ _).alloc (Nat.le_refl _) _⟩
 ·have e1 : decide ((40 : Int) < (n : Int)) = false := decide_eq_false (by omega)
  have e2 : decide ((n : Int) <= 40) = true := decide_eq_true (by omega)
  have HRi := hid (fun W (r : Rd W 1 A n (iv l)) => refRight_any_PlanRef1 A n cap l c P W hl r (by omega))
  clear hl h hq
  go_enter Tryz.func96,Tryz.ntmps96
  go_wp2_with fail
  obtain ⟨w0,hw0⟩ : ∃ w0,w.alloc (.cells (rplC A n cap c P) 172) = w0 := ⟨_,rfl⟩
  obtain ⟨hB,hK⟩ := HG.out _ hw0
  rw [hw0]
  clear hw0 HG
  have HB := hid hB
  have HK := hid hK
  ((with_reducible refine (HRi.out _ (HR.out.below hB)).mono ?_); rintro e w1 ⟨rfl,hb1⟩)
  have k1 := HK.out.kept hb1
  have HB1 := hid (HB.out.trans (hb1.mono HB.out.size))
  have c0 : w1.cell? ⟨w.heap.size,0,none⟩ = some (.slice A n cap) := k1.cell 0
  have c4 : w1.cell? ⟨w.heap.size,4,none⟩ = some (.int .i64 c.wk) := k1.cell 4
  have c6 : w1.cell? ⟨w.heap.size,6,none⟩ = some (.int .i64 c.mi) := k1.cell 6
  have c7 : w1.cell? ⟨w.heap.size,7,none⟩ = some (.int .i64 c.st) := k1.cell 7
  have c12 : w1.cell? ⟨w.heap.size,12,none⟩ = some (.int .i64 P) := k1.cell 12
  have lc := k1.lt
  clear hB hK hb1 k1 HB HK
  obtain ⟨rq,hrq⟩ : ∃ rq,rightB l c P = rq := ⟨_,rfl⟩
  rw [hrq]
  have HRQ := hid hrq
  clear hrq
  cases rq
  ·go_wp2_with fail
   go_ret
   exact ⟨ret_bool (by rw [<- HQ.out,fewPB,if_neg h40,HRQ.out]; rfl),HB1.out⟩
  ·have HF : Hid (fewPB n l c P = (decide (P <= 60) && (decide (c.wk <= 8) && (decide (c.mi <= 20) && decide (c.st <= 12))))) := hid (by rw [fewPB,if_neg h40,HRQ.out]; rfl)
   by_cases f1 : P <= 60
   ·have g1 : decide (P <= 60) = true := decide_eq_true f1
    by_cases f2 : c.wk <= 8
    ·have g2 : decide (c.wk <= 8) = true := decide_eq_true f2
     by_cases f3 : c.mi <= 20
     ·have g3 : decide (c.mi <= 20) = true := decide_eq_true f3
      by_cases f4 : c.st <= 12
      ·have g4 : decide (c.st <= 12) = true := decide_eq_true f4
       go_wp2_with fail
       go_ret
       exact ⟨ret_bool (by rw [<- HQ.out,HF.out,g1,g2,g3,g4]; rfl),HB1.out⟩
      ·have g4 : decide (c.st <= 12) = false := decide_eq_false f4
       go_wp2_with fail
       go_ret
       exact ⟨ret_bool (by rw [<- HQ.out,HF.out,g4,Bool.and_false,Bool.and_false,Bool.and_false]),HB1.out⟩
     ·have g3 : decide (c.mi <= 20) = false := decide_eq_false f3
      go_wp2_with fail
      go_ret
      exact ⟨ret_bool (by rw [<- HQ.out,HF.out,g3,Bool.false_and,Bool.and_false,Bool.and_false]),HB1.out⟩
    ·have g2 : decide (c.wk <= 8) = false := decide_eq_false f2
     go_wp2_with fail
     go_ret
     exact ⟨ret_bool (by rw [<- HQ.out,HF.out,g2,Bool.false_and,Bool.and_false]),HB1.out⟩
   ·have g1 : decide (P <= 60) = false := decide_eq_false f1
    go_wp2_with fail
    go_ret
    exact ⟨ret_bool (by rw [<- HQ.out,HF.out,g1,Bool.false_and]),HB1.out⟩
end
section
open Go.RowKit
theorem store_one {w : World} {base : Nat} {e : TypeId} {g n cap : Nat} {l : List Int} (h : w.ownsRow base e 1 (.slice (some ⟨g,0,none⟩) n cap) n (iv l)) (j : Nat) (y : Int) :
  (w.setCell ⟨g,j,none⟩ (.int .i64 y)).ownsRow base e 1 (.slice (some ⟨g,0,none⟩) n cap) n (iv (l.set j y)) /\ w.grownBy (w.setCell ⟨g,j,none⟩ (.int .i64 y)) (some g) := by
 have h := h.stored j (.int .i64 y)
 rw [iv_set] at h
 exact h
theorem cell_iv {w : World} {base : Nat} {e : TypeId} {g n cap k : Nat} {l : List Int} {x : Int} (h : w.ownsRow base e 1 (.slice (some ⟨g,0,none⟩) n cap) n (iv l)) (hk : k < n) (hx : l[k]? = some x) : w.cell? ⟨g,k,none⟩ = some (.int .i64 x) :=
 (h.cellAt k (by omega)).trans (by rw [iv,List.getElem?_map,hx]; rfl)
end
end Go.Proofs.YtkmaeipoaoikpaaGreat
