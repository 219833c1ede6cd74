/- MachV, MachI, WorldP. -/
import Derived.Test.YtkmaeipoaoikpaaGreatEB38
import Derived.Test.YtkmaeipoaoikpaaGreatEB39
import Derived.Test.YtkmaeipoaoikpaaGreatEB41
namespace Go.Proofs.YtkmaeipoaoikpaaGreat
set_option linter.all false
set_option maxRecDepth 100000
set_option maxHeartbeats 4000000
open Lib (hid)
section
open Go.RowKit
def recvG (ad : Bool) (G : List Int) (e k : Nat) (vs : List Int) : List Int := if ad then addAt G e vs k else G.take e ++ (vs ++ G.drop (e + k))
theorem machReceive_any (S T : Nat -> Prop) (mb : Nat) (K : MC) (s : MS) (k1 t u : Int) (sd ad : Bool) (j1 j2 j3 j4 j5 : Int) (e e2 k : Nat) (pr : Option Addr) (lb cp sn rc : Nat) (vs : List Int) (q : List (TagN × List Int)) (w : World) (hK : K.Ok) (h : MachAt S w mb K s) (hL : LinkAt T w lb cp sn rc (((j1,j2,j3,j4,j5),vs) :: q)) (hd : ∀ i,S i -> ¬ T i) (hk : e + k = e2) (he : e2 <= K.NP) (hv : vs.length = k) :
  Calls Tryz.prog 234 #[.pointer (some ⟨mb,0,none⟩),(.agg (mitC k1 t u sd ad j1 j2 j3 j4 j5 e e2)),.agg #[.pointer (some ⟨lb,0,none⟩),.pointer pr]] w fun en w' => en = .returned (.int .i64 0) /\ MachAt S w' mb K { s with G := recvG ad s.G e k vs } /\ LinkAt T w' lb cp sn (rc + 1) q /\ But (fun i => S i \/ T i) w w' := by
 obtain ⟨F,a,hM,hF,hMu⟩ := h
 obtain ⟨lP,lM,lG,lR⟩ := hM.lens
 have HM := hid hM
 have HF := hid hF
 have HMu := hid hMu
 have HTL : Hid (T lb) := hid (by obtain ⟨_,_,_,_,_,hl⟩ := hL; exact hl.sb)
 have HL := hid hL
 have HD := hid hd
 have HKE := hid hk
 have HVL := hid hv
 have hnp := hK.np
 clear hM hF hMu hK lR hL hd hk hv
 go_enter Tryz.func234,Tryz.ntmps234
 go_wp2_with fail
 obtain ⟨w1,hw1⟩ : ∃ w1,((w.alloc (.cells (mitC k1 t u sd ad j1 j2 j3 j4 j5 e e2) 222)).alloc (.cells #[.pointer (some ⟨lb,0,none⟩),.pointer pr] 341)).alloc (.cells #[.bool sd,.bool ad,.int .i64 j1,.int .i64 j2,.int .i64 j3,.int .i64 j4,.int .i64 j5,.int .i64 e,.int .i64 e2] 220) = w1 := ⟨_,rfl⟩
 have hb1 : Below w.heap.size w w1 := by rw [<- hw1]; exact (((Below.refl _ _).alloc (Nat.le_refl _) _).alloc (by simp) _).alloc (by simp; omega) _
 have ha1 : Blk w1 (w.heap.size + 1 + 1) 220 #[.bool sd,.bool ad,.int .i64 j1,.int .i64 j2,.int .i64 j3,.int .i64 j4,.int .i64 j5,.int .i64 e,.int .i64 e2] := by rw [<- hw1]; exact Blk.new' _ _ (by simp)
 rw [hw1]
 have HB1 := hid hb1
 have HA1 := hid ha1
 have HM1 := hid (HM.out.below hb1)
 have HL1 := hid (HL.out.step hb1.size (fun i hi _ => hb1.block i hi))
 clear hw1 hb1 ha1
 ((with_reducible refine (linkRecv_some T lb cp sn rc q (j1,j2,j3,j4,j5) vs w1 HL1.out).mono ?_); rintro en w2 ⟨A2,n2,c2,rfl,hl2,hb2,ho2,hn2,ht2⟩)
 have hbs : ∀ i,i < w1.heap.size -> S i -> w2.heap[i]? = w1.heap[i]? := fun i hi hS => hb2.block i hi (fun e => HD.out i hS (by rw [e]; exact HTL.out))
 have hm2 : MachIn F w2 mb K s a := HM1.out.step hb2.size (fun i hi hFi => hbs i hi (HF.out i hFi)) (fun i hi => hbs i (HM1.out.mu_lt hi) (HMu.out i hi))
 have ha2 : Blk w2 (w.heap.size + 1 + 1) 220 #[.bool sd,.bool ad,.int .i64 j1,.int .i64 j2,.int .i64 j3,.int .i64 j4,.int .i64 j5,.int .i64 e,.int .i64 e2] := HA1.out.but hb2 (fun e => by
  have := HL.out
  obtain ⟨_,_,_,_,_,hl⟩ := this
  have := hl.blk.lt
  omega)
 have HM2 := hid hm2
 have HA2 := hid ha2
 have HL2 := hid hl2
 have HB2 := hid hb2
 have HO2 := hid ho2
 have HT2 := hid ht2
 have HN2 : Hid (n2 = k) := hid (by have := ho2.1; rw [iv_length,Nat.mul_one] at this; rw [<- this]; exact HVL.out)
 clear hbs hm2 ha2 hl2 hb2 ho2 hn2 ht2
 go_wp2_with fail
 obtain ⟨w3,hw3⟩ : ∃ w3,w2.alloc (.cells #[.int .i64 j1,.int .i64 j2,.int .i64 j3,.int .i64 j4,.int .i64 j5,.slice A2 n2 c2] 259) = w3 := ⟨_,rfl⟩
 have hb3 : Below w2.heap.size w2 w3 := by rw [<- hw3]; exact (Below.refl _ _).alloc (Nat.le_refl _) _
 have hg3 : Blk w3 w2.heap.size 259 #[.int .i64 j1,.int .i64 j2,.int .i64 j3,.int .i64 j4,.int .i64 j5,.slice A2 n2 c2] := by rw [<- hw3]; exact Blk.new _ _ _
 rw [hw3]
 have HM3 := hid (HM2.out.below hb3)
 have HA3 := hid (HA2.out.kept hb3)
 have HL3 := hid (HL2.out.step hb3.size (fun i hi _ => hb3.block i hi))
 have HO3 := hid (own_below HO2.out hb3)
 have HG3 := hid hg3
 have HB3 := hid hb3
 clear hw3 hb3 hg3
 have a7 := HA3.out.cell 7
 have a8 := HA3.out.cell 8
 have a1 := HA3.out.cell 1
 have al := HA3.out.lt
 have g5 := HG3.out.cell 5
 have gl := HG3.out.lt
 have m13 : w3.cell? ⟨mb,13,none⟩ = some (.slice (some ⟨a.gg,0,none⟩) K.NP a.cG) := HM3.out.blk.cell 13
 have ml := HM3.out.blk.lt
 have hcap : K.NP <= a.cG := own_cap HM3.out.grow
 obtain ⟨Aw,hAw⟩ : ∃ Aw,pcA_RedMove (some ⟨a.gg,0,none⟩) a.cG e = Aw := ⟨_,rfl⟩
 have hsl := fun W => run_piece (P := Tryz.prog) (T := 74) (A := some ⟨a.gg,0,none⟩) (n := K.NP) (c := a.cG) (e := e) (e2 := e2) (k := k) (c1 := a.cG - e) (P1 := Aw) Tryz.underlying74 (fun W => rfl) (by have := HKE.out; omega) (by omega) (by have := HKE.out; omega) rfl hAw W
 have HAW := hid hAw
 have hsg : S a.gg := HMu.out a.gg (.inr (.inr (.inr (.inl rfl))))
 have HFIN : Hid (∀ W,W.ownsRow 0 2 1 (.slice (some ⟨a.gg,0,none⟩) K.NP a.cG) K.NP (iv (recvG ad s.G e k vs)) -> w3.grownBy W (some a.gg) -> (Ending.returned (.int .i64 0) = Ending.returned (.int .i64 0) /\ MachAt S W mb K { s with G := recvG ad s.G e k vs } /\ LinkAt T W lb cp sn (rc + 1) q /\ But (fun i => S i \/ T i) w W)) := hid (by
  intro W hr hg
  have hbg := But.of_gr (S := fun b => b = a.gg) hg rfl
  refine ⟨rfl,⟨F,a,HM3.out.setG hbg hr,HF.out,HMu.out⟩,HL3.out.step hg.size (fun i hi hT => hbg.block i hi (fun e1 => HD.out i (by rw [e1]; exact hsg) hT)),?_⟩
  refine (((But.of_below _ HB1.out).trans (HB2.out.mono (fun i _ hi => ?_))).call HB3.out).trans (hbg.mono (fun i _ hi => ?_))
  ·exact .inr (by rw [hi]; exact HTL.out)
  ·exact .inl (by rw [hi]; exact hsg))
 have hn2 := HN2.out
 subst hn2
 clear hAw hsg
 go_region
 cases ad with
 | true =>
  have HAD := hid (addP_any_RedMove (some ⟨a.gg,0,none⟩) K.NP a.cG e n2 (a.cG - e) s.G A2 c2 vs 0 w3.drew (own_drewR HM3.out.grow) lG (by omega) (by have := HKE.out; omega) HVL.out (Rd.of_own (own_drewR HO3.out)) (fun b o' hb h0 e1 => HD.out b (HMu.out b (.inr (.inr (.inr (.inl (by simpa [Value.ownBlock] using e1.symm)))))) (HT2.out b (by rw [hb]; rfl))))
  rw [HAW.out] at HAD
  go_wp2_with fail
  ((with_reducible refine HAD.out.mono ?_); rintro en w4 ⟨rfl,hz4,hg4⟩)
  have HZ4 := hid hz4
  have HG4 : Hid (w3.grownBy w4 (some a.gg)) := hid (gr_below_first ((Below.refl w3.heap.size w3).drew) hg4)
  clear hz4 hg4
  go_wp2_with fail
  go_ret
  exact ⟨rfl,(HFIN.out _ HZ4.out HG4.out).2⟩
 | false =>
  have HR3 := hid (Rd.of_own (own_drewR HO3.out))
  have HGR := hid (own_drewR HM3.out.grow)
  have HEK : Hid (e + n2 <= K.NP) := hid (by have := HKE.out; omega)
  go_wp2_with (refine wpList_copy_piece rfl (.tmp 41) (.tmp 43) _ _ rfl Tryz.underlying74 (by kernel_rfl) (some ⟨a.gg,0,none⟩) K.NP a.cG e n2 (a.cG - e) s.G A2 c2 vs 0 Aw HAW.out rfl rfl HGR.out lG HEK.out HVL.out HR3.out ?_; intro w4 hown4 hg4)
  go_ret
  exact ⟨rfl,(HFIN.out _ hown4 (gr_below_first ((Below.refl w3.heap.size w3).drew) hg4)).2⟩
def workMS (K : MC) (s : MS) (x : RItem) : MS :=
 if x.1.1 = 1 then { s with G := accG K s.P s.G (micL K x.1.2.1 x.1.2.2) }
 else if x.1.1 = 2 then { s with opn := s.opn ++ [x.1.2.2] }
 else if x.1.1 = 5 then
  match K.pc.bks[x.1.2.2.toNat]? with
  | some (lo,hi) => { s with P := applyP K.c.ra K.c.mo K.c.sh s.P s.M (pcL s.G lo.toNat (hi - lo).toNat) lo.toNat (hi - lo).toNat,M := applyM K.c.mo K.c.sh s.M (pcL s.G lo.toNat (hi - lo).toNat) lo.toNat (hi - lo).toNat,opn := dropB s.opn x.1.2.2 }
  | none => s
 else if x.1.1 = 6 then { s with rcd := s.rcd ++ [(s.P,s.M)],G := zeros K.NP }
 else s
structure ItemOk (K : MC) (x : RItem) : Prop where
 t : 0 <= x.1.2.1 /\ x.1.2.1 <= 1000000
 one : x.1.1 = 1 -> -1000 <= x.1.2.2 /\ x.1.2.2 <= 1000
 five : x.1.1 = 5 -> ∃ j : Nat,x.1.2.2 = j /\ j < K.pc.nb
 act : x.1.1 = 3 \/ x.1.1 = 4 -> ∃ e e2 : Nat,x.2.2.2.1 = e /\ x.2.2.2.2 = e2 /\ e <= e2 /\ e2 <= K.NP
structure MS.Small (s : MS) : Prop where
 cnt : s.cnt < 1000000000000
 opn : s.opn.length < 1000000
 rcd : s.rcd.length < 1000
end
section
open Go.RowKit
variable {S : Nat → Prop} {mb : Nat} {K : MC} {s : MS} {w W : World}
theorem do_pre (h : MachAt S w mb K s) (hb : Below w.heap.size w W) : MachAt (fun i => S i /\ i < w.heap.size) W mb K s :=
 (h.mono (fun i hi hS => ⟨hS,hi⟩)).step hb.size (fun i hi hS => hb.block i hS.2)
theorem do_but {w' : World} (h : But (fun i => S i /\ i < w.heap.size) W w') : But (fun i => i < w.heap.size) W w' := h.mono (fun i _ hi => hi.2)
theorem do_post {S1 : Nat -> Prop} {w1 w' : World} (h1 : But S w w1) (h2 : But S1 w1 w') (hS : ∀ i,i < w.heap.size -> S1 i -> S i) : But S w w' :=
 ⟨h2.os.trans h1.os,h2.tape.trans h1.tape,h2.output.trans h1.output,Nat.le_trans h1.size h2.size,fun i hi hn => (h2.block i (Nat.lt_of_lt_of_le hi h1.size) (fun e => hn (hS i hi e))).trans (h1.block i hi hn)⟩
end
section
open Go.RowKit
theorem machDo_own (S : Nat -> Prop) (mb : Nat) (K : MC) (s : MS) (x : RItem) (pl pr : Option Addr) (w : World) (hK : K.Ok) (h : MachAt S w mb K s) (hx : s.its[s.nx]? = some x) (hk : x.1.1 = 1 \/ x.1.1 = 2 \/ x.1.1 = 5 \/ x.1.1 = 6) (hi : ItemOk K x) (hs : s.Small) :
  Calls Tryz.prog 128 #[.pointer (some ⟨mb,0,none⟩),.pointer pl,.pointer pr] w fun e w' => e = .returned (.int .i64 0) /\ MachAt (fun i => S i \/ w.heap.size <= i) w' mb K (nextMS K (workMS K s x) x.1.2.1) /\ But S w w' := by
 obtain ⟨⟨k1,t,u⟩,⟨⟨sd,ad⟩,⟨j1,j2,j3,j4,j5⟩,⟨j6,j7⟩⟩⟩ := x
 have fin : ∀ (f : FuncId) (kk : Nat) (s1 : MS),k1 = (kk : Int) -> (∀ W,(Instr.index 336 (.agg doersC) (.int .i64 kk)).run Tryz.prog W = .ok (fnV f) W) -> (∀ args w,(callFunc f args).run Tryz.prog w = .ok (.enter f args) w) ->
   s1.its = s.its -> s1.nx = s.nx -> s1.cnt = s.cnt -> workMS K s ((k1,t,u),((sd,ad),(j1,j2,j3,j4,j5),(j6,j7))) = s1 ->
   (∀ W,Below w.heap.size w W -> Calls Tryz.prog f #[.pointer (some ⟨mb,0,none⟩),(.agg (mitC k1 t u sd ad j1 j2 j3 j4 j5 j6 j7)),.agg #[.pointer pl,.pointer pr]] W fun e w' => e = .returned (.int .i64 0) /\ MachAt (fun i => (S i /\ i < w.heap.size) \/ W.heap.size <= i) w' mb K s1 /\ But (fun i => S i /\ i < w.heap.size) W w') ->
   Calls Tryz.prog 128 #[.pointer (some ⟨mb,0,none⟩),.pointer pl,.pointer pr] w fun e w' => e = .returned (.int .i64 0) /\ MachAt (fun i => S i \/ w.heap.size <= i) w' mb K (nextMS K (workMS K s ((k1,t,u),((sd,ad),(j1,j2,j3,j4,j5),(j6,j7)))) t) /\ But S w w' := by
  intro f kk s1 hkk hix he h1 h2 h3 hw hf
  subst hkk
  rw [hw]
  refine (machDo_core S (fun i => S i \/ w.heap.size <= i) (fun w1 => But S w w1) mb K s s1 f kk t u sd ad j1 j2 j3 j4 j5 j6 j7 pl pr w hK h hx hix he (fun W hb => (hf W hb).mono ?_) h1 h2 h3 hs.cnt hi.t).mono ?_
  ·rintro e w' ⟨rfl,hm,hbu⟩
   refine ⟨rfl,hm.mono (fun i _ hi' => ?_),(But.of_below S hb).trans (hbu.mono (fun i _ hi' => hi'.1)),do_but hbu⟩
   rcases hi' with hi' | hi'
   ·exact .inl hi'.1
   ·exact .inr (Nat.le_trans hb.size hi')
  ·rintro e w' ⟨rfl,w1,hr,hz,-,hb2,hm⟩
   refine ⟨rfl,hm.mono (fun i _ hi' => ?_),do_post hr hb2 (fun i hi' hs1 => ?_)⟩
   ·rcases hi' with hi' | hi'
    ·exact hi'
    ·exact .inr (Nat.le_trans hz hi')
   ·rcases hs1 with hs1 | hs1
    ·exact hs1
    ·omega
 have hk' : k1 = 1 \/ k1 = 2 \/ k1 = 5 \/ k1 = 6 := hk
 rcases hk' with rfl | rfl | rfl | rfl
 ·refine fin 231 1 { s with G := accG K s.P s.G (micL K t u) } rfl (fun W => rfl) (fun _ _ => rfl) rfl rfl rfl rfl (fun W hb => ?_)
  exact machCompute_any _ mb K s 1 t u sd ad j1 j2 j3 j4 j5 j6 j7 pl pr W hK (do_pre h hb) (hi.one rfl)
 ·refine fin 232 2 { s with opn := s.opn ++ [u] } rfl (fun W => rfl) (fun _ _ => rfl) rfl rfl rfl rfl (fun W hb => ?_)
  exact machLaunch_any _ mb K s 2 t u sd ad j1 j2 j3 j4 j5 j6 j7 pl pr W (do_pre h hb) hs.opn
 ·obtain ⟨j,hj,hjn⟩ := hi.five rfl
  have hj' : u = (j : Int) := hj
  subst hj'
  have hlt : j < K.pc.bks.length := by rw [PlC.bks_length]; exact hjn
  obtain ⟨y,hy⟩ : ∃ y,K.pc.bks[j]? = some y := ⟨_,List.getElem?_eq_getElem hlt⟩
  obtain ⟨b1,b2,b3⟩ := PlC.bks_in hy
  rw [hK.pcP] at b3
  obtain ⟨y1,y2⟩ := y
  dsimp only at b1 b2 b3
  obtain ⟨lo,rfl⟩ : ∃ n : Nat,y1 = n := ⟨y1.toNat,by omega⟩
  obtain ⟨hi',rfl⟩ : ∃ n : Nat,y2 = n := ⟨y2.toNat,by omega⟩
  have e : workMS K s ((5,t,(j : Int)),((sd,ad),(j1,j2,j3,j4,j5),(j6,j7))) = { s with P := applyP K.c.ra K.c.mo K.c.sh s.P s.M (pcL s.G lo (hi' - lo)) lo (hi' - lo),M := applyM K.c.mo K.c.sh s.M (pcL s.G lo (hi' - lo)) lo (hi' - lo),opn := dropB s.opn j } := by
   unfold workMS
   rw [if_neg (show ¬ ((5 : Int) = 1) by decide),if_neg (show ¬ ((5 : Int) = 2) by decide),if_pos rfl]
   simp only [Int.toNat_natCast,hy]
   rw [show ((hi' : Int) - (lo : Int)).toNat = hi' - lo by omega]
  refine fin 235 5 { s with P := applyP K.c.ra K.c.mo K.c.sh s.P s.M (pcL s.G lo (hi' - lo)) lo (hi' - lo),M := applyM K.c.mo K.c.sh s.M (pcL s.G lo (hi' - lo)) lo (hi' - lo),opn := dropB s.opn j } rfl (fun W => rfl) (fun _ _ => rfl) rfl rfl rfl e (fun W hb => ?_)
  exact machUpdate_any _ mb K s 5 t j sd ad j1 j2 j3 j4 j5 j6 j7 pl pr W lo hi' (hi' - lo) hK (do_pre h hb) hy (by omega) (by omega)
 ·refine fin 236 6 { s with rcd := s.rcd ++ [(s.P,s.M)],G := zeros K.NP } rfl (fun W => rfl) (fun _ _ => rfl) rfl rfl rfl rfl (fun W hb => ?_)
  exact machRecord_any _ mb K s 6 t u sd ad j1 j2 j3 j4 j5 j6 j7 pl pr W hK (do_pre h hb) hs.rcd
theorem machDo_send (S T : Nat -> Prop) (mb : Nat) (K : MC) (s : MS) (x : RItem) (pl : Option Addr) (lb cp sn rc : Nat) (q : List (TagN × List Int)) (w : World) (hK : K.Ok) (h : MachAt S w mb K s) (hL : LinkAt T w lb cp sn rc q) (hd : ∀ i,i < w.heap.size -> S i -> ¬ T i) (hroom : sn - rc < cp) (hs9 : sn < 1000000000) (hx : s.its[s.nx]? = some x) (hk : x.1.1 = 3) (hi : ItemOk K x) (hs : s.Small) :
  Calls Tryz.prog 128 #[.pointer (some ⟨mb,0,none⟩),.pointer pl,.pointer (some ⟨lb,0,none⟩)] w fun e w' => e = .returned (.int .i64 0) /\ ∃ B,w.heap.size <= B /\ MachAt (fun i => S i \/ B <= i) w' mb K (nextMS K s x.1.2.1) /\ LinkAt (fun i => T i \/ (w.heap.size <= i /\ i < B)) w' lb cp (sn + 1) rc (q ++ [(x.2.2.1,pcL s.G x.2.2.2.1.toNat (x.2.2.2.2 - x.2.2.2.1).toNat)]) /\ But (fun i => S i \/ T i) w w' := by
 obtain ⟨⟨k1,t,u⟩,⟨⟨sd,ad⟩,⟨j1,j2,j3,j4,j5⟩,⟨j6,j7⟩⟩⟩ := x
 have hk' : k1 = 3 := hk
 subst hk'
 obtain ⟨e,e2,h6,h7,h8,h9⟩ := hi.act (.inl rfl)
 have h6' : j6 = (e : Int) := h6
 have h7' : j7 = (e2 : Int) := h7
 subst h6' h7'
 have hT : Hid (∀ i,T i -> True) := hid (fun _ _ => trivial)
 have hL' : LinkAt (fun i => T i /\ i < w.heap.size) w lb cp sn rc q := hL.mono (fun i hi hT => ⟨hT,hi⟩)
 refine (machDo_core S (fun i => S i /\ i < w.heap.size) (fun w1 => LinkAt (fun i => (T i /\ i < w.heap.size) \/ w.heap.size <= i) w1 lb cp (sn + 1) rc (q ++ [((j1,j2,j3,j4,j5),pcL s.G e (e2 - e))]) /\ But (fun i => T i) w w1) mb K s s 233 3 t u sd ad j1 j2 j3 j4 j5 e e2 pl (some ⟨lb,0,none⟩) w hK h hx (fun W => rfl) (fun _ _ => rfl) (fun W hb => ?_) rfl rfl rfl hs.cnt hi.t).mono ?_
 ·refine (machSend_any (fun i => S i /\ i < w.heap.size) (fun i => T i /\ i < w.heap.size) mb K s 3 t u sd ad j1 j2 j3 j4 j5 e e2 (e2 - e) pl lb cp sn rc q W hK (do_pre h hb) (hL'.step hb.size (fun i hi hT => hb.block i hT.2)) (fun i hi hT => hd i hi.2 hi.1 hT.1) hroom hs9 (by omega) h9).mono ?_
  rintro en w' ⟨rfl,hm,hl,hbu⟩
  refine ⟨rfl,hm,⟨hl.mono (fun i _ hi => ?_),(But.of_below _ hb).trans (hbu.mono (fun i _ hi => hi.1))⟩,hbu.mono (fun i _ hi => hi.2)⟩
  rcases hi with hi | hi
  ·exact .inl hi
  ·exact .inr (Nat.le_trans hb.size hi)
 ·rintro en w' ⟨rfl,w1,⟨hl,hbt⟩,hz,-,hb2,hm⟩
  refine ⟨rfl,w1.heap.size,hz,hm.mono (fun i _ hi => ?_),?_,do_post (S := fun i => S i \/ T i) (hbt.mono (fun i _ hi => .inr hi)) hb2 (fun i _ hi => .inl hi.1)⟩
  ·rcases hi with hi | hi
   ·exact .inl hi.1
   ·exact .inr hi
  ·have e1 : ((e2 : Int) - (e : Int)).toNat = e2 - e := by omega
   dsimp only
   rw [e1,Int.toNat_natCast]
   refine (hl.mono (T := fun i => T i \/ (w.heap.size <= i /\ i < w1.heap.size)) (fun i hi hT => ?_)).step hb2.size (fun i hi hT => hb2.block i hi (fun hS => ?_))
   ·rcases hT with hT | hT
    ·exact .inl hT.1
    ·exact .inr ⟨hT,hi⟩
   ·rcases hT with hT | hT
    ·exact hd i hS.2 hS.1 hT
    ·have := hS.2
     omega
theorem machDo_recv (S T : Nat -> Prop) (mb : Nat) (K : MC) (s : MS) (x : RItem) (pr : Option Addr) (lb cp sn rc : Nat) (vs : List Int) (q : List (TagN × List Int)) (w : World) (hK : K.Ok) (h : MachAt S w mb K s) (hL : LinkAt T w lb cp sn rc ((x.2.2.1,vs) :: q)) (hd : ∀ i,i < w.heap.size -> S i -> ¬ T i) (hx : s.its[s.nx]? = some x) (hk : x.1.1 = 4) (hi : ItemOk K x) (hs : s.Small) (hv : vs.length = (x.2.2.2.2 - x.2.2.2.1).toNat) :
  Calls Tryz.prog 128 #[.pointer (some ⟨mb,0,none⟩),.pointer (some ⟨lb,0,none⟩),.pointer pr] w fun e w' => e = .returned (.int .i64 0) /\ ∃ B,w.heap.size <= B /\ MachAt (fun i => S i \/ B <= i) w' mb K (nextMS K { s with G := recvG x.2.1.2 s.G x.2.2.2.1.toNat (x.2.2.2.2 - x.2.2.2.1).toNat vs } x.1.2.1) /\ LinkAt T w' lb cp sn (rc + 1) q /\ But (fun i => S i \/ T i) w w' := by
 obtain ⟨⟨k1,t,u⟩,⟨⟨sd,ad⟩,⟨j1,j2,j3,j4,j5⟩,⟨j6,j7⟩⟩⟩ := x
 have hk' : k1 = 4 := hk
 subst hk'
 obtain ⟨e,e2,h6,h7,h8,h9⟩ := hi.act (.inr rfl)
 have h6' : j6 = (e : Int) := h6
 have h7' : j7 = (e2 : Int) := h7
 subst h6' h7'
 have e1 : ((e2 : Int) - (e : Int)).toNat = e2 - e := by omega
 dsimp only at hL hv ⊢
 rw [e1] at hv
 rw [e1,Int.toNat_natCast]
 have hL' : LinkAt (fun i => T i /\ i < w.heap.size) w lb cp sn rc (((j1,j2,j3,j4,j5),vs) :: q) := hL.mono (fun i hi hT => ⟨hT,hi⟩)
 refine (machDo_core S (fun i => S i /\ i < w.heap.size) (fun w1 => LinkAt (fun i => T i /\ i < w.heap.size) w1 lb cp sn (rc + 1) q /\ But (fun i => S i \/ T i) w w1) mb K s { s with G := recvG ad s.G e (e2 - e) vs } 234 4 t u sd ad j1 j2 j3 j4 j5 e e2 (some ⟨lb,0,none⟩) pr w hK h hx (fun W => rfl) (fun _ _ => rfl) (fun W hb => ?_) rfl rfl rfl hs.cnt hi.t).mono ?_
 ·refine (machReceive_any (fun i => S i /\ i < w.heap.size) (fun i => T i /\ i < w.heap.size) mb K s 4 t u sd ad j1 j2 j3 j4 j5 e e2 (e2 - e) pr lb cp sn rc vs q W hK (do_pre h hb) (hL'.step hb.size (fun i hi hT => hb.block i hT.2)) (fun i hi hT => hd i hi.2 hi.1 hT.1) (by omega) h9 hv).mono ?_
  rintro en w' ⟨rfl,hm,hl,hbu⟩
  refine ⟨rfl,hm,⟨hl,(But.of_below _ hb).trans (hbu.mono (fun i _ hi => ?_))⟩,hbu.mono (fun i _ hi => ?_)⟩
  ·rcases hi with hi | hi
   ·exact .inl hi.1
   ·exact .inr hi.1
  ·rcases hi with hi | hi
   ·exact hi.2
   ·exact hi.2
 ·rintro en w' ⟨rfl,w1,⟨hl,hbt⟩,hz,-,hb2,hm⟩
  refine ⟨rfl,w1.heap.size,hz,hm.mono (fun i _ hi => ?_),?_,do_post hbt hb2 (fun i _ hi => .inl hi.1)⟩
  ·rcases hi with hi | hi
   ·exact .inl hi.1
   ·exact .inr hi
  ·exact (hl.mono (T := T) (fun i hi hT => hT.1)).step hb2.size (fun i hi hT => hb2.block i hi (fun hS => hd i hS.2 hS.1 hT))
structure LS where
 s : Nat
 r : Nat
 q : List (TagN × List Int)
abbrev worldC (AW : Option Addr) (n cW : Nat) (AL : Option Addr) (k cL cnt : Nat) : Array Value := #[.slice AW n cW,.slice AL k cL,.int .i64 cnt]
abbrev ifV (b : Nat) : Value := .iface 37 (.pointer (some ⟨b,0,none⟩))
abbrev ptV (b : Nat) : Value := .pointer (some ⟨b,0,none⟩)
theorem slWk : Sl Tryz.prog 122 212 .nilIface 1 16 := ⟨Tryz.underlying122,by kernel_rfl,rfl,by omega⟩
theorem slLn : Sl Tryz.prog 123 126 (.pointer none) 1 8 := ⟨Tryz.underlying123,by kernel_rfl,rfl,by omega⟩
structure Parts (own : Nat -> Nat) (w : World) (I : InC) (mbs lbs : List Nat) (mss : List MS) (lss : List LS) : Prop where
 lm : mss.length = mbs.length
 ll : lss.length = lbs.length
 mach : ∀ (i b : Nat) (s : MS),mbs[i]? = some b -> mss[i]? = some s -> MachAt (fun j => own j = 2 * i + 2) w b (I.mc i) s
 link : ∀ (i b : Nat) (l : LS),lbs[i]? = some b -> lss[i]? = some l -> LinkAt (fun j => own j = 2 * i + 3) w b I.c.ca.toNat l.s l.r l.q
end
section
open Go.RowKit
variable {own own' : Nat → Nat} {w w' : World} {I : InC} {mbs lbs : List Nat} {mss : List MS} {lss : List LS}
theorem Parts.move (h : Parts own w I mbs lbs mss lss) (hs : w.heap.size <= w'.heap.size) (hb : ∀ i,i < w.heap.size -> 2 <= own i -> w'.heap[i]? = w.heap[i]?) (hl : ∀ i,i < w.heap.size -> own' i = own i) : Parts own' w' I mbs lbs mss lss :=
 ⟨h.lm,h.ll,fun i b s h1 h2 => ((h.mach i b s h1 h2).mono (T := fun j => own' j = 2 * i + 2) (fun j hj e => by rw [hl j hj]; exact e)).step hs (fun j hj e => hb j hj (by rw [<- hl j hj,e]; omega)),
  fun i b l h1 h2 => ((h.link i b l h1 h2).mono (T := fun j => own' j = 2 * i + 3) (fun j hj e => by rw [hl j hj]; exact e)).step hs (fun j hj e => hb j hj (by rw [<- hl j hj,e]; omega))⟩
theorem Parts.addM (h : Parts own w I mbs lbs mss lss) {b : Nat} {s : MS} {k : Nat} (hk : mbs.length = k) (hm : MachAt (fun j => own j = 2 * k + 2) w b (I.mc k) s) : Parts own w I (mbs ++ [b]) lbs (mss ++ [s]) lss := by
 refine ⟨by simp [h.lm],h.ll,fun i b' s' h1 h2 => ?_,h.link⟩
 by_cases hi : i < mbs.length
 ·rw [List.getElem?_append_left hi] at h1
  rw [List.getElem?_append_left (by rw [h.lm]; exact hi)] at h2
  exact h.mach i b' s' h1 h2
 ·have hi2 : i < (mbs ++ [b]).length := (List.getElem?_eq_some_iff.1 h1).1
  obtain rfl : i = k := by simp at hi2; omega
  rw [List.getElem?_append_right (by omega),hk,Nat.sub_self] at h1
  rw [List.getElem?_append_right (by rw [h.lm]; omega),h.lm,hk,Nat.sub_self] at h2
  simp at h1 h2
  subst h1 h2
  exact hm
theorem Parts.addL (h : Parts own w I mbs lbs mss lss) {b : Nat} {l : LS} {k : Nat} (hk : lbs.length = k) (hm : LinkAt (fun j => own j = 2 * k + 3) w b I.c.ca.toNat l.s l.r l.q) : Parts own w I mbs (lbs ++ [b]) mss (lss ++ [l]) := by
 refine ⟨h.lm,by simp [h.ll],h.mach,fun i b' s' h1 h2 => ?_⟩
 by_cases hi : i < lbs.length
 ·rw [List.getElem?_append_left hi] at h1
  rw [List.getElem?_append_left (by rw [h.ll]; exact hi)] at h2
  exact h.link i b' s' h1 h2
 ·have hi2 : i < (lbs ++ [b]).length := (List.getElem?_eq_some_iff.1 h1).1
  obtain rfl : i = k := by simp at hi2; omega
  rw [List.getElem?_append_right (by omega),hk,Nat.sub_self] at h1
  rw [List.getElem?_append_right (by rw [h.ll]; omega),h.ll,hk,Nat.sub_self] at h2
  simp at h1 h2
  subst h1 h2
  exact hm
structure WorldIn (own : Nat -> Nat) (w : World) (xb : Nat) (I : InC) (mbs lbs : List Nat) (mss : List MS) (lss : List LS) (AW : Option Addr) (cW : Nat) (AL : Option Addr) (cL cnt : Nat) : Prop where
 blk : Blk w xb 125 (worldC AW mbs.length cW AL lbs.length cL cnt)
 ox : own xb = 1
 wrow : w.ownsRow 0 212 1 (.slice AW mbs.length cW) mbs.length (mbs.map ifV)
 lrow : w.ownsRow 0 126 1 (.slice AL lbs.length cL) lbs.length (lbs.map ptV)
 ow : ∀ g,blkOf AW = some g -> own g = 1
 ol : ∀ g,blkOf AL = some g -> own g = 1
 parts : Parts own w I mbs lbs mss lss
theorem WorldIn.step {xb : Nat} {AW AL : Option Addr} {cW cL cnt : Nat} (h : WorldIn own w xb I mbs lbs mss lss AW cW AL cL cnt) (hs : w.heap.size <= w'.heap.size) (hb : ∀ i,i < w.heap.size -> 1 <= own i -> w'.heap[i]? = w.heap[i]?) (hl : ∀ i,i < w.heap.size -> own' i = own i) : WorldIn own' w' xb I mbs lbs mss lss AW cW AL cL cnt :=
 ⟨(hb xb h.blk.lt (by rw [h.ox]; exact Nat.le_refl _)).trans h.blk,(hl xb h.blk.lt).trans h.ox,Hg.own (S := fun i => own i = 1) h.wrow (fun g hg => h.ow g ((own_blkOf _ _ _).symm.trans hg)) w' hs (fun i hi e => hb i hi (by omega)),
  Hg.own (S := fun i => own i = 1) h.lrow (fun g hg => h.ol g ((own_blkOf _ _ _).symm.trans hg)) w' hs (fun i hi e => hb i hi (by omega)),fun g hg => (hl g (h.wrow.lt g ((own_blkOf _ _ _).trans hg)).2).trans (h.ow g hg),fun g hg => (hl g (h.lrow.lt g ((own_blkOf _ _ _).trans hg)).2).trans (h.ol g hg),h.parts.move hs (fun i hi e => hb i hi (by omega)) hl⟩
theorem WorldIn.below {xb : Nat} {AW AL : Option Addr} {cW cL cnt : Nat} (h : WorldIn own w xb I mbs lbs mss lss AW cW AL cL cnt) (hb : Below w.heap.size w w') (hl : ∀ i,i < w.heap.size -> own' i = own i) : WorldIn own' w' xb I mbs lbs mss lss AW cW AL cL cnt := h.step hb.size (fun i hi _ => hb.block i hi) hl
end
section
open Go.RowKit
def lab (own : Nat -> Nat) (n k : Nat) : Nat -> Nat := fun j => if j < n then own j else k
theorem lab_old (own : Nat -> Nat) (n k : Nat) : ∀ i,i < n -> lab own n k i = own i := fun i hi => if_pos hi
theorem lab_new (own : Nat -> Nat) (n k : Nat) {i : Nat} (hi : n <= i) : lab own n k i = k := if_neg (by omega)
theorem lab_pos {own : Nat -> Nat} {n k B : Nat} (h : ∀ j,own j ≠ 0 -> B <= j) (hB : B <= n) : ∀ j,lab own n k j ≠ 0 -> B <= j := by
 intro j hj
 unfold lab at hj
 split at hj
 ·exact h j hj
 ·omega
end
section
open Go.RowKit
variable {own : Nat → Nat} {w wa : World} {I : InC} {mbs lbs : List Nat} {mss mss' : List MS} {lss lss' : List LS} {xb : Nat} {AW AL : Option Addr} {cW cL cnt : Nat}
theorem push_parts (h : WorldIn own w xb I mbs lbs mss lss AW cW AL cL cnt) {A : Option Addr} {n c o : Nat} {u : Value} {mbs' lbs' : List Nat} (hp : Parts own w I mbs' lbs' mss' lss') (hA : ∀ g,(Value.slice A n c).ownBlock = some g -> own g = 1) (hgr : w.grownBy wa (Value.slice A n c).ownBlock) :
  Parts (lab own w.heap.size 1) (wa.setCell ⟨xb,o,none⟩ u) I mbs' lbs' mss' lss' := by
 have hg2 := gr_set (p := ⟨xb,o,none⟩) (World.grownBy.refl wa (some xb)) (.inl rfl) u
 refine hp.move (Nat.le_trans hgr.size hg2.size) (fun i hi e => ?_) (lab_old _ _ _)
 have h1 : wa.heap[i]? = w.heap[i]? := hgr.block i hi (fun e1 => by have := hA i e1.symm; omega)
 have h2 := hg2.block i (Nat.lt_of_lt_of_le hi hgr.size) (fun e1 => by injection e1 with e1; subst e1; have := h.ox; omega)
 exact h2.trans h1
theorem WorldIn.addW (h : WorldIn own w xb I mbs lbs mss lss AW cW AL cL cnt) {mb : Nat} {A' : Option Addr} {c' : Nat} (hp : Parts own w I (mbs ++ [mb]) lbs mss' lss) (hgr : w.grownBy wa (Value.slice AW mbs.length cW).ownBlock) (hO : wa.ownsRow 0 212 1 (.slice A' (mbs.length + 1) c') (mbs.length + 1) (mbs.map ifV ++ [ifV mb]))
  (hat : ∀ g,(Value.slice A' (mbs.length + 1) c').ownBlock = some g -> (Value.slice AW mbs.length cW).ownBlock = some g \/ w.heap.size < g) : WorldIn (lab own w.heap.size 1) (wa.setCell ⟨xb,0,none⟩ (.slice A' (mbs.length + 1) c')) xb I (mbs ++ [mb]) lbs mss' lss A' c' AL cL cnt := by
 have hg2 := gr_set (p := ⟨xb,0,none⟩) (World.grownBy.refl wa (some xb)) (.inl rfl) (.slice A' (mbs.length + 1) c')
 have hk := h.blk.other h.wrow hgr (by decide)
 have hl := h.lrow.kept hgr (lnk_own_none h.lrow h.wrow (by decide))
 have e1 : (mbs ++ [mb]).length = mbs.length + 1 := by simp
 refine ⟨?_,(lab_old _ _ _ xb h.blk.lt).trans h.ox,?_,hl.kept hg2 (.inr (own_blk_ne hl hk (by decide))),fun g hg => ?_,fun g hg => ?_,push_parts h hp (fun g hg => h.ow g ((own_blkOf _ _ _).symm.trans hg)) hgr⟩
 ·rw [e1]
  simpa [worldC] using hk.set_ 0 (.slice A' (mbs.length + 1) c')
 ·rw [e1,List.map_append]
  exact hO.kept hg2 (.inr (own_blk_ne hO hk (by decide)))
 ·rcases hat g ((own_blkOf _ _ _).trans hg) with h1 | h1
  ·have hlt := (h.wrow.lt g h1).2
   rw [lab_old _ _ _ g hlt]
   exact h.ow g ((own_blkOf _ _ _).symm.trans h1)
  ·exact lab_new _ _ _ (Nat.le_of_lt h1)
 ·rw [lab_old _ _ _ g (h.lrow.lt g ((own_blkOf _ _ _).trans hg)).2]
  exact h.ol g hg
theorem WorldIn.addK (h : WorldIn own w xb I mbs lbs mss lss AW cW AL cL cnt) {lb : Nat} {A' : Option Addr} {c' : Nat} (hp : Parts own w I mbs (lbs ++ [lb]) mss lss') (hgr : w.grownBy wa (Value.slice AL lbs.length cL).ownBlock) (hO : wa.ownsRow 0 126 1 (.slice A' (lbs.length + 1) c') (lbs.length + 1) (lbs.map ptV ++ [ptV lb]))
  (hat : ∀ g,(Value.slice A' (lbs.length + 1) c').ownBlock = some g -> (Value.slice AL lbs.length cL).ownBlock = some g \/ w.heap.size < g) : WorldIn (lab own w.heap.size 1) (wa.setCell ⟨xb,1,none⟩ (.slice A' (lbs.length + 1) c')) xb I mbs (lbs ++ [lb]) mss lss' AW cW A' c' cnt := by
 have hg2 := gr_set (p := ⟨xb,1,none⟩) (World.grownBy.refl wa (some xb)) (.inl rfl) (.slice A' (lbs.length + 1) c')
 have hk := h.blk.other h.lrow hgr (by decide)
 have hl := h.wrow.kept hgr (lnk_own_none h.wrow h.lrow (by decide))
 have e1 : (lbs ++ [lb]).length = lbs.length + 1 := by simp
 refine ⟨?_,(lab_old _ _ _ xb h.blk.lt).trans h.ox,hl.kept hg2 (.inr (own_blk_ne hl hk (by decide))),?_,fun g hg => ?_,fun g hg => ?_,push_parts h hp (fun g hg => h.ol g ((own_blkOf _ _ _).symm.trans hg)) hgr⟩
 ·rw [e1]
  simpa [worldC] using hk.set_ 1 (.slice A' (lbs.length + 1) c')
 ·rw [e1,List.map_append]
  exact hO.kept hg2 (.inr (own_blk_ne hO hk (by decide)))
 ·rw [lab_old _ _ _ g (h.wrow.lt g ((own_blkOf _ _ _).trans hg)).2]
  exact h.ow g hg
 ·rcases hat g ((own_blkOf _ _ _).trans hg) with h1 | h1
  ·have hlt := (h.lrow.lt g h1).2
   rw [lab_old _ _ _ g hlt]
   exact h.ol g ((own_blkOf _ _ _).symm.trans h1)
  ·exact lab_new _ _ _ (Nat.le_of_lt h1)
end
section
open Go.RowKit
theorem link_start {w : World} {b cp : Nat} {S : Nat -> Prop} (h : Blk w b 243 (lnkC none 0 0 cp 0 0 0)) (h1 : 1 <= cp) (h2 : cp <= 1048576) (hS : S b) : LinkAt S w b cp 0 0 [] :=
 ⟨none,0,0,0,[],hS,h,World.ownsRow_nil _ _ _ _,fun g hg => by simp [Value.ownBlock] at hg,rfl,(Nat.zero_min _).symm,rfl,Nat.le_refl _,Nat.zero_le _,by omega,h1,h2,fun j hj => by omega⟩
def startL (I : InC) (k : Nat) : List MS := (List.range k).map (startMS I)
def startK (k : Nat) : List LS := List.replicate k ⟨0,0,[]⟩
theorem startL_succ (I : InC) (k : Nat) : startL I (k + 1) = startL I k ++ [startMS I k] := by simp [startL,List.range_succ]
theorem startK_succ (k : Nat) : startK (k + 1) = startK k ++ [⟨0,0,[]⟩] := by simp [startK,List.replicate_succ']
def WorldAt (B : Nat) (w : World) (xb : Nat) (I : InC) (mss : List MS) (lss : List LS) (cnt : Nat) : Prop := ∃ own mbs lbs AW cW AL cL,WorldIn own w xb I mbs lbs mss lss AW cW AL cL cnt /\ mbs.length = I.c.wk.toNat /\ lbs.length = I.c.wk.toNat /\ (∀ j,own j ≠ 0 -> B <= j)
end
end Go.Proofs.YtkmaeipoaoikpaaGreat
