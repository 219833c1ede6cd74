/- Del, MachS, MachU. -/
import Derived.Test.YtkmaeipoaoikpaaGreatEB40
namespace Go.Proofs.YtkmaeipoaoikpaaGreat
set_option linter.all false
set_option maxRecDepth 100000
set_option maxHeartbeats 4000000
open Lib (hid)
section
open Go.RowKit
theorem own_shrink {w : World} {base g n c i : Nat} {e : TypeId} {xs : List Value} (h : w.ownsRow base e 1 (.slice (some ⟨g,0,none⟩) n c) n xs) (hi : i <= n) : w.ownsRow base e 1 (.slice (some ⟨g,0,none⟩) i c) i (xs.take i) := by
 have hl := h.1
 rw [Nat.mul_one] at hl
 rcases h.2 with ⟨h1,-⟩ | ⟨g',cap,cur,h1,hb,hh,h2,h3,h4,h5⟩
 ·cases h1
 ·injection h1 with h1 h6 h7
  injection h1 with h1
  injection h1 with h1
  subst h1 h7
  refine ⟨by rw [List.length_take]; omega,.inr ⟨g,c,cur,rfl,hb,hh,by omega,h3,h4,?_⟩⟩
  rw [<- h5,List.take_take,Nat.mul_one,Nat.mul_one,Nat.min_eq_left hi]
end
section
open Go.RowKit
variable (gi : Nat) (k1 t u : Int) (sd ad : Bool) (j1 j2 j3 j4 j5 j6 j7 : Int)
theorem del1_any (x : Int) (w : World) (h : Blk w gi 222 (mitC k1 t u sd ad j1 j2 j3 j4 j5 j6 j7)) :
  Calls Tryz.prog 268 #[.int .i64 x,.pointer (some ⟨gi,0,none⟩)] w fun e w' => e = .returned (.bool (x == u)) /\ w = w' := by
 have c2 := h.cell 2
 have l2 := h.lt
 clear h
 go_enter Tryz.func268,Tryz.ntmps268
 go_wp2
 go_ret
 exact ⟨rfl,rfl⟩
abbrev FirstAt (L : List Int) (u v : Int) : Prop := (v = -1 /\ ∀ (j : Nat) (x : Int),L[j]? = some x -> (x == u) = false) \/ ∃ k : Nat,v = k /\ L[k]? = some u /\ ∀ (j : Nat) (x : Int),j < k -> L[j]? = some x -> (x == u) = false
theorem indexInt_any (A : Option Addr) (n c : Nat) (L : List Int) (w : World) (hl : L.length = n) (hr : Rd w 1 A n (iv L)) (hn : n <= 1000000) (h : Blk w gi 222 (mitC k1 t u sd ad j1 j2 j3 j4 j5 j6 j7)) :
  Calls Tryz.prog 180 #[.slice A n c,.func (.func 268) #[] #[.pointer (some ⟨gi,0,none⟩)]] w fun e w' => ∃ v : Int,e = .returned (.int .i64 v) /\ FirstAt L u v /\ w = w' := by
 have HL := hid hl
 have HR := hid hr
 have HC := hid (fun x => del1_any gi k1 t u sd ad j1 j2 j3 j4 j5 j6 j7 x w h)
 clear hl hr h
 go_enter Tryz.func180,Tryz.ntmps180
 go_wp2_with fail
 go_loopw [8] (fun v wr => ∃ k : Nat,k <= n /\ v = .int .i64 k /\ Hid (∀ (j : Nat) (x : Int),j < k -> L[j]? = some x -> (x == u) = false) /\ w = wr) (fun c _ => n - (intOf c).toNat)
 case atStart => exact ⟨0,by omega,rfl,hid (fun j x h => by omega),rfl⟩
 case round =>
  obtain ⟨k,hk,rfl,he,hw⟩ := hrel
  subst hw
  by_cases hlt : k < n
  ·obtain ⟨b,o,x,rfl,lb,hx,cx⟩ := iv_at HL.out HR.out hlt
   have C := HC.out x
   obtain ⟨q,hq⟩ : ∃ q,(x == u) = q := ⟨_,rfl⟩
   rw [hq] at C
   have HQ := hid hq
   have HS := hid hx
   have HCC := hid C
   clear hq hx C
   cases q
   ·go_wp2_with fail
    ((with_reducible refine HCC.out.mono ?_); rintro e w1 ⟨rfl,hw1⟩)
    subst hw1
    go_wp2_with fail
    go_roundw
    case rel =>
     refine ⟨k + 1,by omega,by go_num,hid (fun j y hj hy => ?_),trivial⟩
     by_cases hjk : j < k
     ·exact he.out j y hjk hy
     ·obtain rfl : j = k := by omega
      rw [HS.out] at hy
      injection hy with hy
      rw [<- hy]
      exact HQ.out
    case measure => simp [intOf]; omega
   ·go_wp2_with fail
    ((with_reducible refine HCC.out.mono ?_); rintro e w1 ⟨rfl,hw1⟩)
    subst hw1
    go_wp2_with fail
    go_ret
    have e1 : x = u := by simpa using HQ.out
    exact ⟨k,rfl,.inr ⟨k,rfl,by rw [HS.out,e1],he.out⟩,rfl⟩
  ·obtain rfl : k = n := by omega
   go_wp2
   go_ret
   exact ⟨-1,rfl,.inl ⟨rfl,fun j x hx => he.out j x (by have := (List.getElem?_eq_some_iff.1 hx).1; rw [HL.out] at this; exact this) hx⟩,rfl⟩
structure DelInv (L : List Int) (u : Int) (n i j : Nat) (R : List Int) : Prop where
 len : R.length = n
 ij : i < j
 jn : j <= n
 lo : R.take i = (L.take j).filter (fun x => !(x == u))
 hi : ∀ t,j <= t -> R[t]? = L[t]?
theorem DelInv.start {L : List Int} {u : Int} {n k : Nat} (hl : L.length = n) (hk : L[k]? = some u) (hf : ∀ (j : Nat) (x : Int),j < k -> L[j]? = some x -> (x == u) = false) : DelInv L u n k (k + 1) L := by
 obtain ⟨hkl,hku⟩ := List.getElem?_eq_some_iff.1 hk
 refine ⟨hl,by omega,by omega,?_,fun t _ => rfl⟩
 rw [take_snoc _ _ hkl,List.filter_append,hku]
 simp
 symm
 rw [List.filter_eq_self]
 intro x hx
 obtain ⟨j,hj⟩ := List.getElem?_of_mem hx
 rw [List.getElem?_take] at hj
 split at hj
 ·rename_i hjk
  have := hf j x hjk hj
  simpa using this
 ·cases hj
theorem DelInv.keep {L R : List Int} {u x : Int} {n i j : Nat} (h : DelInv L u n i j R) (hj : L[j]? = some x) (hl : L.length = n) (hx : (x == u) = false) : DelInv L u n (i + 1) (j + 1) (R.set i x) := by
 obtain ⟨hjl,hjx⟩ := List.getElem?_eq_some_iff.1 hj
 have hij := h.ij
 refine ⟨by rw [List.length_set]; exact h.len,by omega,by omega,?_,fun t ht => ?_⟩
 ·have hil : i < (R.set i x).length := by rw [List.length_set,h.len]; omega
  rw [take_snoc _ _ hil,take_snoc _ _ hjl,List.filter_append,List.take_set_of_le (Nat.le_refl _),h.lo,hjx]
  simp [hx]
 ·rw [List.getElem?_set_ne (by omega)]
  exact h.hi t (by omega)
theorem DelInv.skip {L R : List Int} {u x : Int} {n i j : Nat} (h : DelInv L u n i j R) (hj : L[j]? = some x) (hl : L.length = n) (hx : (x == u) = true) : DelInv L u n i (j + 1) R := by
 obtain ⟨hjl,hjx⟩ := List.getElem?_eq_some_iff.1 hj
 have hij := h.ij
 refine ⟨h.len,by omega,by omega,?_,fun t ht => h.hi t (by omega)⟩
 rw [take_snoc _ _ hjl,List.filter_append,h.lo,hjx]
 simp [hx]
def dropB (L : List Int) (u : Int) : List Int := L.filter fun x => !(x == u)
theorem dropB_none {L : List Int} {u : Int} (h : ∀ (j : Nat) (x : Int),L[j]? = some x -> (x == u) = false) : dropB L u = L := by
 unfold dropB
 rw [List.filter_eq_self]
 intro x hx
 obtain ⟨j,hj⟩ := List.getElem?_of_mem hx
 rw [h j x hj]
 rfl
theorem delInt_any (A : Option Addr) (n c base : Nat) (L : List Int) (w : World) (hl : L.length = n) (hr : w.ownsRow base 3 1 (.slice A n c) n (iv L)) (hn : n <= 1000000) (h : Blk w gi 222 (mitC k1 t u sd ad j1 j2 j3 j4 j5 j6 j7)) :
  Calls Tryz.prog 267 #[.slice A n c,.func (.func 268) #[] #[.pointer (some ⟨gi,0,none⟩)]] w fun e w' => e = .returned (.slice A (dropB L u).length c) /\ w'.ownsRow base 3 1 (.slice A (dropB L u).length c) (dropB L u).length (iv (dropB L u)) /\ w.grownBy w' (Value.slice A n c).ownBlock := by
 have HL := hid hl
 have HR := hid hr
 have HI := hid (indexInt_any gi k1 t u sd ad j1 j2 j3 j4 j5 j6 j7 A n c L w hl (Rd.of_own hr) hn h)
 have HG := hid h
 clear hl hr h
 go_enter Tryz.func267,Tryz.ntmps267
 go_wp2_with fail
 ((with_reducible refine HI.out.mono ?_); rintro e w1 ⟨v,rfl,hv,hw1⟩)
 subst hw1
 rcases hv with ⟨rfl,hno⟩ | ⟨k,rfl,hk,hf⟩
 ·have HNO := hid (dropB_none hno)
  clear hno
  go_wp2_with fail
  go_ret
  rw [HNO.out,HL.out]
  exact ⟨rfl,HR.out,World.grownBy.refl _ _⟩
 ·obtain ⟨hkl,-⟩ := List.getElem?_eq_some_iff.1 hk
  have HST := hid (DelInv.start HL.out hk hf)
  have hkn : k < n := by rw [<- HL.out]; exact hkl
  obtain ⟨g,rfl⟩ := own_some HR.out (by omega)
  have e1 : ((k : Int) == -1) = false := beq_eq_false_iff_ne.2 (by omega)
  have hw1 : IntKind.i64.wrap ((k : Int) + 1) = ((k + 1 : Nat) : Int) := by rw [show (k : Int) + 1 = ((k + 1 : Nat) : Int) by omega]; exact IntWalk.i64_in _ (by omega)
  clear hk hf hkl
  go_wp2_with fail
  clear e1 hw1
  go_loopw [5,6] (fun s5 s6 wr => ∃ (i j : Nat) (R : List Int),s5 = .int .i64 i /\ s6 = .int .i64 j /\ Hid (DelInv L u n i j R) /\ wr.ownsRow base 3 1 (.slice (some ⟨g,0,none⟩) n c) n (iv R) /\ w.grownBy wr (some g)) (fun _ s6 _ => n - (intOf s6).toNat)
  case atStart => exact ⟨k,k + 1,L,rfl,by go_num,HST,HR.out,World.grownBy.refl _ _⟩
  case round =>
   obtain ⟨i,j,R,rfl,rfl,hD,hz,hg⟩ := hrel
   have hij := hD.out.ij
   have hjn := hD.out.jn
   by_cases hlt : j < n
   ·obtain ⟨x,hx⟩ : ∃ x,L[j]? = some x := ⟨_,List.getElem?_eq_getElem (by rw [HL.out]; exact hlt)⟩
    have hRx : R[j]? = some x := (hD.out.hi j (Nat.le_refl _)).trans hx
    have cx : wr.cell? ⟨g,j,none⟩ = some (.int .i64 x) := (hz.cellAt j (by omega)).trans (by rw [iv,List.getElem?_map,hRx]; rfl)
    obtain ⟨y,hy⟩ : ∃ y,R[i]? = some y := ⟨_,List.getElem?_eq_getElem (by rw [hD.out.len]; omega)⟩
    have cy : wr.cell? ⟨g,i,none⟩ = some (.int .i64 y) := (hz.cellAt i (by omega)).trans (by rw [iv,List.getElem?_map,hy]; rfl)
    have fy := hz.frozenAt i
    have lz : g < wr.heap.size := (hz.lt g rfl).2
    have hgr : Blk wr gi 222 (mitC k1 t u sd ad j1 j2 j3 j4 j5 j6 j7) := HG.out.other HR.out (by simpa [Value.ownBlock] using hg) (by decide)
    have C := del1_any gi k1 t u sd ad j1 j2 j3 j4 j5 j6 j7 x wr hgr
    have h1 := hz.stored i (.int .i64 x)
    rw [iv_set] at h1
    obtain ⟨q,hq⟩ : ∃ q,(x == u) = q := ⟨_,rfl⟩
    rw [hq] at C
    have HQ := hid hq
    have HX := hid hx
    have HC := hid C
    have HZ := hid hz
    have HGR := hid hg
    have H1 := hid h1
    have i1 : (0 : Int) <= (j : Int) := by omega
    have i2 : (j : Int) < (n : Int) := by omega
    have i3 : (0 : Int) <= (i : Int) := by omega
    have i4 : (i : Int) < (n : Int) := by omega
    have hw2 : IntKind.i64.wrap ((i : Int) + 1) = ((i + 1 : Nat) : Int) := by rw [show (i : Int) + 1 = ((i + 1 : Nat) : Int) by omega]; exact IntWalk.i64_in _ (by omega)
    have hw3 : IntKind.i64.wrap ((j : Int) + 1) = ((j + 1 : Nat) : Int) := by rw [show (j : Int) + 1 = ((j + 1 : Nat) : Int) by omega]; exact IntWalk.i64_in _ (by omega)
    clear hx hRx hy hgr C h1 hq hz hg
    cases q
    ·go_wp2_with fail
     ((with_reducible refine HC.out.mono ?_); rintro e w2 ⟨rfl,hw2⟩)
     subst hw2
     go_wp2_with fail
     go_roundw
     case rel => exact ⟨i + 1,j + 1,R.set i x,by go_num,by go_num,hid (hD.out.keep HX.out HL.out HQ.out),H1.out.1,HGR.out.trans H1.out.2⟩
     case measure => simp [intOf]; omega
    ·go_wp2_with fail
     ((with_reducible refine HC.out.mono ?_); rintro e w2 ⟨rfl,hw2⟩)
     subst hw2
     go_wp2_with fail
     go_roundw
     case rel => exact ⟨i,j + 1,R,rfl,by go_num,hid (hD.out.skip HX.out HL.out HQ.out),HZ.out,HGR.out⟩
     case measure => simp [intOf]; omega
   ·obtain rfl : j = n := by omega
    have hcap := own_cap hz
    have hci : ¬ c = i := by omega
    have hcl : ∀ ty,(Builtin.clear_ #[22] ty #[.slice (some ⟨g,i,none⟩) (j - i) (c - i)]).run Tryz.prog wr = .ok (.tuple #[]) (wr.setCells g i (List.replicate (j - i) (.int .i64 0))) := fun ty =>
     Lib.run_clear_slice wr 22 3 ty (.int .i64 0) Tryz.underlying22 (fun w => rfl) rfl rfl g i (j - i) (c - i) (by omega) (fun t ht => by
      rw [hz.cellAt (i + t) (by omega),iv,List.getElem?_map,List.getElem?_eq_getElem (by rw [hD.out.len]; omega)]
      rfl) (fun t ht => hz.frozenAt (i + t))
    obtain ⟨h2,hg2⟩ := own_setCells (List.replicate (j - i) (Value.int .i64 0)) i wr _ hz
    have h3 := own_shrink h2 (Nat.le_of_lt hij)
    rw [setL_eq _ _ _ (by rw [List.length_replicate,iv_length,hD.out.len]; omega),List.take_left' (by rw [List.length_take,iv_length,hD.out.len]; omega)] at h3
    have e2 : (iv R).take i = iv (dropB L u) := by
     have := hD.out.lo
     rw [List.take_of_length_le (l := L) (by rw [HL.out]; exact Nat.le_refl _)] at this
     rw [iv,<- List.map_take,this]
     rfl
    have e3 : (dropB L u).length = i := by
     have := congrArg List.length e2
     rw [iv_length,List.length_take,iv_length,hD.out.len] at this
     omega
    rw [e2] at h3
    have H3 := hid h3
    have HE := hid e3
    have HGR := hid (hg.trans hg2)
    clear hz hg h2 h3 hg2 e2 e3
    go_wp2_with fail
    go_ret
    rw [HE.out]
    exact ⟨rfl,H3.out,HGR.out⟩
end
section
open Go.RowKit
def pcL (G : List Int) (e k : Nat) : List Int := (G.drop e).take k
theorem machSend_any (S T : Nat -> Prop) (mb : Nat) (K : MC) (s : MS) (k1 t u : Int) (sd ad : Bool) (j1 j2 j3 j4 j5 : Int) (e e2 k : Nat) (pl : Option Addr) (lb cp sn rc : Nat) (q : List (TagN × List Int)) (w : World) (hK : K.Ok) (h : MachAt S w mb K s) (hL : LinkAt T w lb cp sn rc q) (hd : ∀ i,S i -> ¬ T i) (hroom : sn - rc < cp) (hs9 : sn < 1000000000) (hk : e + k = e2) (he : e2 <= K.NP) :
  Calls Tryz.prog 233 #[.pointer (some ⟨mb,0,none⟩),(.agg (mitC k1 t u sd ad j1 j2 j3 j4 j5 e e2)),.agg #[.pointer pl,.pointer (some ⟨lb,0,none⟩)]] w fun en w' => en = .returned (.int .i64 0) /\ MachAt S w' mb K s /\ LinkAt (fun i => T i \/ w.heap.size <= i) w' lb cp (sn + 1) rc (q ++ [((j1,j2,j3,j4,j5),pcL s.G e k)]) /\ But T w w' := by
 have HMA := hid h
 obtain ⟨F,a,hM,hF,hMu⟩ := h
 obtain ⟨lP,lM,lG,lR⟩ := hM.lens
 have HM := hid hM
 have HL := hid hL
 have HD := hid hd
 have HKE := hid hk
 have hnp := hK.np
 clear hM hF hMu hK lR hL hd hk
 go_enter Tryz.func233,Tryz.ntmps233
 go_wp2_with fail
 obtain ⟨w1,hw1⟩ : ∃ w1,((w.alloc (.cells (mitC k1 t u sd ad j1 j2 j3 j4 j5 e e2) 222)).alloc (.cells #[.pointer pl,.pointer (some ⟨lb,0,none⟩)] 341)).alloc (.cells #[.bool sd,.bool ad,.int .i64 j1,.int .i64 j2,.int .i64 j3,.int .i64 j4,.int .i64 j5,.int .i64 e,.int .i64 e2] 220) = w1 := ⟨_,rfl⟩
 have hb1 : Below w.heap.size w w1 := by rw [<- hw1]; exact (((Below.refl _ _).alloc (Nat.le_refl _) _).alloc (by simp) _).alloc (by simp; omega) _
 have hi1 : Blk w1 (w.heap.size + 1) 341 #[.pointer pl,.pointer (some ⟨lb,0,none⟩)] := by rw [<- hw1]; exact (Blk.new' _ _ (by simp)).alloc _
 have ha1 : Blk w1 (w.heap.size + 1 + 1) 220 #[.bool sd,.bool ad,.int .i64 j1,.int .i64 j2,.int .i64 j3,.int .i64 j4,.int .i64 j5,.int .i64 e,.int .i64 e2] := by rw [<- hw1]; exact Blk.new' _ _ (by simp)
 rw [hw1]
 have HB1 := hid hb1
 have HM1 := hid (HM.out.below hb1)
 have HMA1 := hid (HMA.out.step hb1.size (fun i hi _ => hb1.block i hi))
 have HL1 := hid (HL.out.step hb1.size (fun i hi _ => hb1.block i hi))
 have i1 := hi1.cell 1
 have il := hi1.lt
 have a2 := ha1.cell 2
 have a3 := ha1.cell 3
 have a4 := ha1.cell 4
 have a5 := ha1.cell 5
 have a6 := ha1.cell 6
 have a7 := ha1.cell 7
 have a8 := ha1.cell 8
 have al := ha1.lt
 have m13 : w1.cell? ⟨mb,13,none⟩ = some (.slice (some ⟨a.gg,0,none⟩) K.NP a.cG) := HM1.out.blk.cell 13
 have ml := HM1.out.blk.lt
 have hcap : K.NP <= a.cG := own_cap HM1.out.grow
 obtain ⟨Aw,hAw⟩ : ∃ Aw,pcA_RedMove (some ⟨a.gg,0,none⟩) a.cG e = Aw := ⟨_,rfl⟩
 have hsl := fun W => run_piece (P := Tryz.prog) (T := 74) (A := some ⟨a.gg,0,none⟩) (n := K.NP) (c := a.cG) (e := e) (e2 := e2) (k := k) (c1 := a.cG - e) (P1 := Aw) Tryz.underlying74 (fun W => rfl) (by have := HKE.out; omega) (by omega) (by have := HKE.out; omega) rfl hAw W
 have hrd : Rd w1.drew 1 Aw k (iv (pcL s.G e k)) := by rw [<- hAw]; exact pc_rd (own_drewR HM1.out.grow) lG (by have := HKE.out; omega)
 have hpl : (pcL s.G e k).length = k := by rw [pcL,List.length_take,List.length_drop]; have := HKE.out; omega
 have HSN := hid (linkSend_some T lb cp sn rc q (j1,j2,j3,j4,j5) (pcL s.G e k) Aw k (a.cG - e) w1.drew (HL1.out.step (w' := w1.drew) (Nat.le_refl _) (fun i _ _ => rfl)) hroom hs9 hrd hpl (by have := HKE.out; omega))
 clear hw1 hb1 hi1 ha1 hAw hrd hpl
 refine wp_region_early (Kept w1) [0,1,2,3,4,5,6,7,8,9,10,11,12,13,14,15] [] [16,17] (by kernel_rfl) (by kernel_rfl) (Kept.start w1) ?_
 simp only [List.filterMap_cons,List.filterMap_nil,List.getElem?_cons_succ,List.getElem?_cons_zero]
 refine early_step (.pointer (some ⟨w.heap.size + 1,1,none⟩)) rfl (fun W hW => ?_) ?_
 ·obtain ⟨hc,-,-⟩ := hW
  go_simp
 go_simp
 refine early_step (.pointer (some ⟨lb,0,none⟩)) rfl (fun W hW => ?_) ?_
 ·obtain ⟨hc,-,-⟩ := hW
  go_simp
 go_simp
 refine early_step (.pointer (some ⟨w.heap.size + 1 + 1,2,none⟩)) rfl (fun W hW => ?_) ?_
 ·obtain ⟨hc,-,-⟩ := hW
  go_simp
 go_simp
 refine early_step (.agg #[.int .i64 j1,.int .i64 j2,.int .i64 j3,.int .i64 j4,.int .i64 j5]) rfl (fun W hW => ?_) ?_
 ·obtain ⟨hc,-,-⟩ := hW
  go_simp
 go_simp
 refine early_step (.pointer (some ⟨mb,0,none⟩)) rfl (fun W hW => ?_) ?_
 ·obtain ⟨hc,-,-⟩ := hW
  go_simp
 go_simp
 refine early_step (.pointer (some ⟨mb,0,none⟩)) rfl (fun W hW => ?_) ?_
 ·obtain ⟨hc,-,-⟩ := hW
  go_simp
 go_simp
 refine early_step (.pointer (some ⟨mb,13,none⟩)) rfl (fun W hW => ?_) ?_
 ·obtain ⟨hc,-,-⟩ := hW
  go_simp
 go_simp
 refine early_step (.slice (some ⟨a.gg,0,none⟩) K.NP a.cG) rfl (fun W hW => ?_) ?_
 ·obtain ⟨hc,-,-⟩ := hW
  go_simp
 go_simp
 refine early_step (.pointer (some ⟨w.heap.size + 1 + 1,7,none⟩)) rfl (fun W hW => ?_) ?_
 ·obtain ⟨hc,-,-⟩ := hW
  go_simp
 go_simp
 refine early_step (.pointer (some ⟨w.heap.size + 1 + 1,7,none⟩)) rfl (fun W hW => ?_) ?_
 ·obtain ⟨hc,-,-⟩ := hW
  go_simp
 go_simp
 refine early_step (.int .i64 e) rfl (fun W hW => ?_) ?_
 ·obtain ⟨hc,-,-⟩ := hW
  go_simp
 go_simp
 refine early_step (.pointer (some ⟨w.heap.size + 1 + 1,7,none⟩)) rfl (fun W hW => ?_) ?_
 ·obtain ⟨hc,-,-⟩ := hW
  go_simp
 go_simp
 refine early_step (.pointer (some ⟨w.heap.size + 1 + 1,8,none⟩)) rfl (fun W hW => ?_) ?_
 ·obtain ⟨hc,-,-⟩ := hW
  go_simp
 go_simp
 refine early_step (.int .i64 e2) rfl (fun W hW => ?_) ?_
 ·obtain ⟨hc,-,-⟩ := hW
  go_simp
 go_simp
 refine early_step (.slice Aw k (a.cG - e)) rfl (fun W hW => ?_) ?_
 ·obtain ⟨hc,-,-⟩ := hW
  go_simp
 go_simp
 refine early_step (.agg #[.int .i64 j1,.int .i64 j2,.int .i64 j3,.int .i64 j4,.int .i64 j5,.slice Aw k (a.cG - e)]) rfl (fun W hW => ?_) ?_
 ·obtain ⟨hc,-,-⟩ := hW
  go_simp
 go_simp
 unfold EarlyW
 unfold RestW
 change wpList _ _ _ (_ :: _ :: []) _ w1.drew
 go_wp2_with fail
 ((with_reducible refine HSN.out.mono ?_); rintro en w2 ⟨rfl,hl2,hb2⟩)
 have HL2 := hid hl2
 have HB2 := hid (show But T w1 w2 from ⟨hb2.os,hb2.tape,hb2.output,hb2.size,hb2.block⟩)
 clear hl2 hb2
 go_wp2_with fail
 refine NoPanic.normal ?_
 go_wp2_with fail
 go_ret
 refine ⟨rfl,HMA1.out.step HB2.out.size (fun i hi hS => HB2.out.block i hi (HD.out i hS)),HL2.out.mono (fun i _ hi => ?_),(But.of_below T HB1.out).trans HB2.out⟩
 rcases hi with hi | hi
 ·exact .inl hi
 ·exact .inr (Nat.le_trans HB1.out.size hi)
theorem applyP_in {ra mo sh : Int} {Ps Ms gs : List Int} {lo k : Nat} (h : AllIn Ps) : AllIn (applyP ra mo sh Ps Ms gs lo k) := by
 intro x hx
 obtain ⟨j,hj⟩ := List.getElem?_of_mem hx
 rw [applyP_get] at hj
 obtain ⟨p,hp,rfl⟩ := Option.map_eq_some_iff.1 hj
 split
 ·exact updP_in _ _ _ _
 ·exact h p (List.mem_of_getElem? hp)
theorem applyM_in {mo sh : Int} {Ms gs : List Int} {lo k : Nat} (h : AllIn Ms) : AllIn (applyM mo sh Ms gs lo k) := by
 intro x hx
 obtain ⟨j,hj⟩ := List.getElem?_of_mem hx
 rw [applyM_get] at hj
 obtain ⟨p,hp,rfl⟩ := Option.map_eq_some_iff.1 hj
 split
 ·exact wrap64_in1 _
 ·exact h p (List.mem_of_getElem? hp)
theorem machUpdate_any (S : Nat -> Prop) (mb : Nat) (K : MC) (s : MS) (k1 t : Int) (j : Nat) (sd ad : Bool) (j1 j2 j3 j4 j5 j6 j7 : Int) (pl pr : Option Addr) (w : World) (lo hi k : Nat) (hK : K.Ok) (h : MachAt S w mb K s) (hj : K.pc.bks[j]? = some ((lo : Int),(hi : Int))) (hk : lo + k = hi) (hh : hi <= K.NP) :
  Calls Tryz.prog 235 #[.pointer (some ⟨mb,0,none⟩),(.agg (mitC k1 t j sd ad j1 j2 j3 j4 j5 j6 j7)),.agg #[.pointer pl,.pointer pr]] w fun e w' => e = .returned (.int .i64 0) /\ MachAt (fun i => S i \/ w.heap.size <= i) w' mb K { s with P := applyP K.c.ra K.c.mo K.c.sh s.P s.M (pcL s.G lo k) lo k,M := applyM K.c.mo K.c.sh s.M (pcL s.G lo k) lo k,opn := dropB s.opn j } /\ But S w w' := by
 obtain ⟨F,a,hM,hF,hMu⟩ := h
 obtain ⟨lP,lM,lG,lR⟩ := hM.lens
 have HM := hid hM
 have HF := hid hF
 have HMu := hid hMu
 have HK := hid hK
 have HJ := hid hj
 have HKE := hid hk
 have hjn : j < K.pc.nb := by
  have := (List.getElem?_eq_some_iff.1 hj).1
  rwa [PlC.bks_length] at this
 have hnp := hK.np
 have hn60 := PlC.nb_le hK.pcok
 clear hM hF hMu hK lR hj hk
 go_enter Tryz.func235,Tryz.ntmps235
 go_wp2_with fail
 obtain ⟨w1,hw1⟩ : ∃ w1,(w.alloc (.cells (mitC k1 t j sd ad j1 j2 j3 j4 j5 j6 j7) 222)).alloc (.cells #[.pointer pl,.pointer pr] 341) = w1 := ⟨_,rfl⟩
 have hb1 : Below w.heap.size w w1 := by rw [<- hw1]; exact ((Below.refl _ _).alloc (Nat.le_refl _) _).alloc (by simp) _
 have hi1 : Blk w1 w.heap.size 222 (mitC k1 t j sd ad j1 j2 j3 j4 j5 j6 j7) := by rw [<- hw1]; exact (Blk.new _ _ _).alloc _
 rw [hw1]
 have HB1 := hid hb1
 have HI1 := hid hi1
 have HM1 := hid (HM.out.below hb1)
 clear hw1 hb1 hi1
 obtain ⟨gb,hAb,lb,q0,q1⟩ := own_pair HM1.out.fz.here.bks HJ.out hjn
 dsimp only at q0 q1
 have i1 : (0 : Int) <= (j : Int) := by omega
 have i2 : (j : Int) < (K.pc.nb : Int) := by omega
 have m7 : w1.cell? ⟨mb,7,none⟩ = some (.slice (some ⟨gb,0,none⟩) K.pc.nb a.cb) := by rw [<- hAb]; exact HM1.out.blk.cell 7
 have ml := HM1.out.blk.lt
 have t2 := HI1.out.cell 2
 have tl := HI1.out.lt
 refine wp_region_early (Kept w1) [0,1,2,3,4,5,6,7,8] [9] [10] (by kernel_rfl) (by kernel_rfl) (Kept.start w1) ?_
 simp only [List.filterMap_cons,List.filterMap_nil,List.getElem?_cons_succ,List.getElem?_cons_zero]
 refine early_step (.pointer (some ⟨mb,0,none⟩)) rfl (fun W hW => ?_) ?_
 ·obtain ⟨hc,-,-⟩ := hW
  go_simp
 go_simp
 refine early_step (.pointer (some ⟨mb,0,none⟩)) rfl (fun W hW => ?_) ?_
 ·obtain ⟨hc,-,-⟩ := hW
  go_simp
 go_simp
 refine early_step (.pointer (some ⟨mb,0,none⟩)) rfl (fun W hW => ?_) ?_
 ·obtain ⟨hc,-,-⟩ := hW
  go_simp
 go_simp
 refine early_step (.pointer (some ⟨mb,7,none⟩)) rfl (fun W hW => ?_) ?_
 ·obtain ⟨hc,-,-⟩ := hW
  go_simp
 go_simp
 refine early_step (.slice (some ⟨gb,0,none⟩) K.pc.nb a.cb) rfl (fun W hW => ?_) ?_
 ·obtain ⟨hc,-,-⟩ := hW
  go_simp
 go_simp
 refine early_step (.pointer (some ⟨w.heap.size,2,none⟩)) rfl (fun W hW => ?_) ?_
 ·obtain ⟨hc,-,-⟩ := hW
  go_simp
 go_simp
 refine early_step (.int .i64 j) rfl (fun W hW => ?_) ?_
 ·obtain ⟨hc,-,-⟩ := hW
  go_simp
 go_simp
 refine early_step (.pointer (some ⟨gb,j * 2,none⟩)) rfl (fun W hW => ?_) ?_
 ·obtain ⟨hc,-,-⟩ := hW
  go_simp
 go_simp
 refine early_step (.agg #[.int .i64 lo,.int .i64 hi]) rfl (fun W hW => ?_) ?_
 ·obtain ⟨hc,-,-⟩ := hW
  go_simp
 go_simp
 change RestW _ _ _ _ _ (_ :: []) _ _
 unfold RestW
 go_wp2_with fail
 refine ⟨(Kept.start w1).alloc _,?_⟩
 unfold RestW
 change wpList _ _ _ (_ :: []) _ _
 go_wp2_with fail
 refine NoPanic.normal ?_
 obtain ⟨w2,hw2⟩ : ∃ w2,(w1.alloc (.cells #[.int .i64 lo,.int .i64 hi] 218)).drew = w2 := ⟨_,rfl⟩
 have hb2 : Below w1.heap.size w1 w2 := by rw [<- hw2]; exact ((Below.refl _ _).alloc (Nat.le_refl _) _).drew
 have hq2 : Blk w2 w1.heap.size 218 #[.int .i64 lo,.int .i64 hi] := by rw [<- hw2]; exact (Blk.new _ _ _).drew
 rw [hw2]
 have HB2 := hid hb2
 have HQ2 := hid hq2
 have HI2 := hid (HI1.out.kept hb2)
 have HM2 := hid (HM1.out.below hb2)
 clear hw2 hb2 hq2 m7 ml t2 tl q0 q1 lb
 have m8 : w2.cell? ⟨mb,8,none⟩ = some (.int .i64 K.c.ra) := HM2.out.blk.cell 8
 have m9 : w2.cell? ⟨mb,9,none⟩ = some (.int .i64 K.c.mo) := HM2.out.blk.cell 9
 have m10 : w2.cell? ⟨mb,10,none⟩ = some (.int .i64 K.c.sh) := HM2.out.blk.cell 10
 have m11 : w2.cell? ⟨mb,11,none⟩ = some (.slice (some ⟨a.gp,0,none⟩) K.NP a.cP) := HM2.out.blk.cell 11
 have m12 : w2.cell? ⟨mb,12,none⟩ = some (.slice (some ⟨a.gm,0,none⟩) K.NP a.cM) := HM2.out.blk.cell 12
 have m13 : w2.cell? ⟨mb,13,none⟩ = some (.slice (some ⟨a.gg,0,none⟩) K.NP a.cG) := HM2.out.blk.cell 13
 have ml := HM2.out.blk.lt
 have u0 := HQ2.out.cell 0
 have u1 := HQ2.out.cell 1
 have ul := HQ2.out.lt
 have hcap : K.NP <= a.cG := own_cap HM2.out.grow
 obtain ⟨Aw,hAw⟩ : ∃ Aw,pcA_RedMove (some ⟨a.gg,0,none⟩) a.cG lo = Aw := ⟨_,rfl⟩
 have hsl := fun W => run_piece (P := Tryz.prog) (T := 74) (A := some ⟨a.gg,0,none⟩) (n := K.NP) (c := a.cG) (e := lo) (e2 := hi) (k := k) (c1 := a.cG - lo) (P1 := Aw) Tryz.underlying74 (fun W => rfl) (by have := HKE.out; omega) (by omega) (by have := HKE.out; omega) rfl hAw W
 have hrd : Rd w2.drew 1 Aw k (iv (pcL s.G lo k)) := by rw [<- hAw]; exact pc_rd (own_drewR HM2.out.grow) lG (by have := HKE.out; omega)
 have hpl : (pcL s.G lo k).length = k := by rw [pcL,List.length_take,List.length_drop]; have := HKE.out; omega
 have hab : ∀ b o,Aw = some ⟨b,o,none⟩ -> 0 < k -> b ≠ a.gp /\ b ≠ a.gm := by
  intro b o hb h0
  obtain ⟨g,hg,hp⟩ := pc_at (e := lo) (k := k) HM2.out.grow h0 (by have := HKE.out; omega)
  injection hg with hg
  injection hg with hg
  rw [hAw,hb] at hp
  injection hp with hp
  injection hp with hp
  rw [hp,<- hg]
  exact ⟨HM2.out.npg.symm,HM2.out.nmg.symm⟩
 have HAP := hid (apply_any K.c.ra K.c.mo K.c.sh (some ⟨a.gp,0,none⟩) (some ⟨a.gm,0,none⟩) Aw K.NP a.cP a.cM k (a.cG - lo) lo hi a.gp a.gm 0 s.P s.M (pcL s.G lo k) w2.drew (own_drewR HM2.out.prow) (own_drewR HM2.out.mrow) (fun _ => ⟨rfl,rfl,HM2.out.npm⟩) hrd hpl hab (by have := HKE.out; omega) hh (by omega) HK.out.ra HK.out.mo HM2.out.pin HM2.out.min)
 clear hAw hrd hpl hab
 go_wp2_with fail
 refine wp_region_early (Kept w2) [0,1,2,3,4,5,6,7,8,9,10,11,12,13,14,15,16,17,18] [] [19] (by kernel_rfl) (by kernel_rfl) (Kept.start w2) ?_
 simp only [List.filterMap_cons,List.filterMap_nil,List.getElem?_cons_succ,List.getElem?_cons_zero]
 refine early_step (.pointer (some ⟨mb,0,none⟩)) rfl (fun W hW => ?_) ?_
 ·obtain ⟨hc,-,-⟩ := hW
  go_simp
 go_simp
 refine early_step (.pointer (some ⟨mb,0,none⟩)) rfl (fun W hW => ?_) ?_
 ·obtain ⟨hc,-,-⟩ := hW
  go_simp
 go_simp
 refine early_step (.pointer (some ⟨mb,0,none⟩)) rfl (fun W hW => ?_) ?_
 ·obtain ⟨hc,-,-⟩ := hW
  go_simp
 go_simp
 refine early_step (.pointer (some ⟨mb,8,none⟩)) rfl (fun W hW => ?_) ?_
 ·obtain ⟨hc,-,-⟩ := hW
  go_simp
 go_simp
 refine early_step (.agg #[.int .i64 K.c.ra,.int .i64 K.c.mo,.int .i64 K.c.sh]) rfl (fun W hW => ?_) ?_
 ·obtain ⟨hc,-,-⟩ := hW
  go_simp
 go_simp
 refine early_step (.pointer (some ⟨mb,0,none⟩)) rfl (fun W hW => ?_) ?_
 ·obtain ⟨hc,-,-⟩ := hW
  go_simp
 go_simp
 refine early_step (.pointer (some ⟨mb,0,none⟩)) rfl (fun W hW => ?_) ?_
 ·obtain ⟨hc,-,-⟩ := hW
  go_simp
 go_simp
 refine early_step (.pointer (some ⟨mb,11,none⟩)) rfl (fun W hW => ?_) ?_
 ·obtain ⟨hc,-,-⟩ := hW
  go_simp
 go_simp
 refine early_step (.agg #[.slice (some ⟨a.gp,0,none⟩) K.NP a.cP,.slice (some ⟨a.gm,0,none⟩) K.NP a.cM]) rfl (fun W hW => ?_) ?_
 ·obtain ⟨hc,-,-⟩ := hW
  go_simp
 go_simp
 refine early_step (.agg #[.int .i64 lo,.int .i64 hi]) rfl (fun W hW => ?_) ?_
 ·obtain ⟨hc,-,-⟩ := hW
  go_simp
 go_simp
 refine early_step (.pointer (some ⟨mb,0,none⟩)) rfl (fun W hW => ?_) ?_
 ·obtain ⟨hc,-,-⟩ := hW
  go_simp
 go_simp
 refine early_step (.pointer (some ⟨mb,0,none⟩)) rfl (fun W hW => ?_) ?_
 ·obtain ⟨hc,-,-⟩ := hW
  go_simp
 go_simp
 refine early_step (.pointer (some ⟨mb,13,none⟩)) rfl (fun W hW => ?_) ?_
 ·obtain ⟨hc,-,-⟩ := hW
  go_simp
 go_simp
 refine early_step (.slice (some ⟨a.gg,0,none⟩) K.NP a.cG) rfl (fun W hW => ?_) ?_
 ·obtain ⟨hc,-,-⟩ := hW
  go_simp
 go_simp
 refine early_step (.pointer (some ⟨w1.heap.size,0,none⟩)) rfl (fun W hW => ?_) ?_
 ·obtain ⟨hc,-,-⟩ := hW
  go_simp
 go_simp
 refine early_step (.int .i64 lo) rfl (fun W hW => ?_) ?_
 ·obtain ⟨hc,-,-⟩ := hW
  go_simp
 go_simp
 refine early_step (.pointer (some ⟨w1.heap.size,1,none⟩)) rfl (fun W hW => ?_) ?_
 ·obtain ⟨hc,-,-⟩ := hW
  go_simp
 go_simp
 refine early_step (.int .i64 hi) rfl (fun W hW => ?_) ?_
 ·obtain ⟨hc,-,-⟩ := hW
  go_simp
 go_simp
 refine early_step (.slice Aw k (a.cG - lo)) rfl (fun W hW => ?_) ?_
 ·obtain ⟨hc,-,-⟩ := hW
  go_simp
 go_simp
 unfold EarlyW
 unfold RestW
 change wpList _ _ _ (_ :: []) _ w2.drew
 go_wp2_with fail
 ((with_reducible refine HAP.out.mono ?_); rintro e w3 ⟨rfl,hp3,hm3,hb3⟩)
 have hb3' : But (fun i => i = a.gp \/ i = a.gm) w2 w3 := ⟨hb3.os,hb3.tape,hb3.output,hb3.size,fun i hi hn => hb3.block i hi (fun h => hn h.2)⟩
 have HM3 := hid (HM2.out.setPM hb3' hp3 hm3 (applyP_in HM2.out.pin) (applyM_in HM2.out.min))
 have HI3 := hid (HI2.out.but hb3' (by
  rintro (e | e)
  ·exact own_blk_ne HM2.out.prow HI2.out (by decide) (by rw [e]; rfl)
  ·exact own_blk_ne HM2.out.mrow HI2.out (by decide) (by rw [e]; rfl)))
 have HB3 := hid hb3'
 clear hp3 hm3 hb3 hb3' m8 m9 m10 m11 m12 m13 ml u0 u1 ul hsl HAP
 go_wp2_with fail
 refine NoPanic.normal ?_
 have m18 : w3.cell? ⟨mb,18,none⟩ = some (.slice a.AO s.opn.length a.cO) := HM3.out.blk.cell 18
 have ml := HM3.out.blk.lt
 have HDE := hid (delInt_any w.heap.size k1 t j sd ad j1 j2 j3 j4 j5 j6 j7 a.AO s.opn.length a.cO 0 s.opn w3 rfl HM3.out.orow (by have := HM.out.ol; omega) HI3.out)
 go_wp2_with fail
 ((with_reducible refine HDE.out.mono ?_); rintro e w4 ⟨rfl,ho4,hg4⟩)
 have HX := hid (HM3.out.blk.other HM3.out.orow hg4 (by decide))
 have HO4 := hid ho4
 have HG4 := hid hg4
 clear ho4 hg4 m18 ml HDE
 have v18 := HX.out.cell 18
 have f18 := HX.out.frozen 18
 have l18 := HX.out.lt
 go_wp2_with fail
 go_ret
 have hg2 := gr_set (p := ⟨mb,18,none⟩) (World.grownBy.refl w4 (some mb)) (.inl rfl) (.slice a.AO (dropB s.opn j).length a.cO)
 have hB2 : Blk (w4.setCell ⟨mb,18,none⟩ (.slice a.AO (dropB s.opn j).length a.cO)) mb 121 (machC K { s with P := applyP K.c.ra K.c.mo K.c.sh s.P s.M (pcL s.G lo k) lo k,M := applyM K.c.mo K.c.sh s.M (pcL s.G lo k) lo k,opn := dropB s.opn j } { a with AO := a.AO,cO := a.cO }) := by
  have := HX.out.set_ 18 (.slice a.AO (dropB s.opn j).length a.cO)
  simpa [machC] using this
 have hO2 := HO4.out.kept hg2 (.inr (own_blk_ne HO4.out HX.out (by decide)))
 have hbut : But (fun i => i = mb \/ blkOf a.AO = some i) w3 (w4.setCell ⟨mb,18,none⟩ (.slice a.AO (dropB s.opn j).length a.cO)) :=
  (But.of_own (S := fun i => i = mb \/ blkOf a.AO = some i) HG4.out (fun g hg => .inr ((own_blkOf _ _ _).symm.trans hg))).trans (But.of_gr hg2 (.inl rfl))
 have hm := HM3.out.setO (opn := dropB s.opn j) (AO := a.AO) (cO := a.cO) hbut hB2 hO2 (fun g hg => .inl hg) (Nat.le_trans (List.length_filter_le _ _) HM.out.ol)
 refine ⟨rfl,⟨F,_,hm,fun i hi => .inl (HF.out i hi),fun i hi => .inl (HMu.out i hi)⟩,(((But.of_below S HB1.out).call HB2.out).trans (HB3.out.mono (fun i _ hi => ?_))).trans (hbut.mono (fun i _ hi => ?_))⟩
 ·rcases hi with hi | hi
  ·exact HMu.out i (.inr (.inl hi))
  ·exact HMu.out i (.inr (.inr (.inl hi)))
 ·rcases hi with hi | hi
  ·exact HMu.out i (.inl hi)
  ·exact HMu.out i (.inr (.inr (.inr (.inr (.inr hi)))))
end
end Go.Proofs.YtkmaeipoaoikpaaGreat
