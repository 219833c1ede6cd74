/- RNet7, R14. -/
import Derived.Test.YtkmaeipoaoikpaaGreatEB31
import Derived.Test.YtkmaeipoaoikpaaGreatEB36
namespace Go.Proofs.YtkmaeipoaoikpaaGreat
set_option linter.all false
set_option maxRecDepth 100000
set_option maxHeartbeats 4000000
open Lib (hid)
section
open Go.RowKit
theorem wrap_add (a b : Int) : wrap64 (wrap64 a + b) = wrap64 (a + b) := by unfold wrap64; omega
theorem wrap_addr (a b : Int) : wrap64 (a + wrap64 b) = wrap64 (a + b) := by unfold wrap64; omega
def sgm (f : Nat -> Int) : Nat -> Int
 | 0 => 0
 | c + 1 => sgm f c + f c
theorem sgm_congr {f g : Nat -> Int} : ∀ c,(∀ i,i < c -> f i = g i) -> sgm f c = sgm g c
 | 0,_ => rfl
 | c + 1,h => by rw [sgm,sgm,sgm_congr c (fun i hi => h i (by omega)),h c (by omega)]
theorem sgm_shift (f : Nat -> Int) : ∀ c,sgm f (c + 1) = f 0 + sgm (fun i => f (i + 1)) c
 | 0 => by simp [sgm]
 | c + 1 => by rw [sgm,sgm_shift f c,sgm]; omega
theorem sumR_sgm {l P : List Int} {q : Int} {k r : Nat} {x : List Int} (hP : AllIn P) : ∀ c,sumR l P q k r x c = wrap64 (bsR l P k r + sgm (fun i => mulQ (wtR l P k r i) (x.getD i 0) q) c)
 | 0 => by
  have h := getD_in hP (obN l k + r)
  rw [sumR,sgm,Int.add_zero]
  exact (wrap64_id _ h.1 h.2).symm
 | c + 1 => by rw [sumR,sumR_sgm hP c,wrap_add,sgm]; congr 1; omega
theorem colR_sgm {l P : List Int} {q : Int} {k c : Nat} {d : List Int} : ∀ r,colR l P q k c d r = wrap64 (sgm (fun i => mulQ (wtR l P k i c) (d.getD i 0) q) r)
 | 0 => by rw [colR,sgm]; exact (wrap64_id 0 (by omega) (by omega)).symm
 | r + 1 => by rw [colR,colR_sgm r,wrap_add,sgm]
theorem dotF_sgm (q : Int) : ∀ (a b : List Int) (s : Int),In1 s -> a.length = b.length -> dotF q a b s = wrap64 (s + sgm (fun i => mulQ (a.getD i 0) (b.getD i 0) q) a.length)
 | [],b,s,h,_ => by
  have e : dotF q [] b s = s := by cases b <;> rfl
  rw [e]
  simp only [List.length_nil,sgm,Int.add_zero]
  exact (wrap64_id _ h.1 h.2).symm
 | x :: a,[],s,h,hl => by simp at hl
 | x :: a,y :: b,s,h,hl => by
  rw [dotF,dotF_sgm q a b _ (wrap64_in1 _) (by simpa using hl),wrap_add,List.length_cons,sgm_shift]
  congr 1
  simp only [List.getD_cons_zero,List.getD_cons_succ]
  omega
theorem dotL_sgm (q : Int) (a b : List Int) (h : a.length = b.length) : dotL q a b = wrap64 (sgm (fun i => mulQ (a.getD i 0) (b.getD i 0) q) a.length) := by
 rw [dotL,dotF_sgm q a b 0 ⟨by decide,by decide⟩ h,Int.zero_add]
theorem natL_getD (n : Nat) (F : Nat -> Int) (i : Nat) (h : i < n) : (natL n F).getD i 0 = F i := by
 rw [List.getD_eq_getElem?_getD,natL_get n F i h]
 rfl
theorem natL_eq {l : List Int} {n : Nat} {F : Nat -> Int} (hl : l.length = n) (h : ∀ i,i < n -> l.getD i 0 = F i) : l = natL n F := by
 apply List.ext_getElem?
 intro i
 by_cases hi : i < n
 ·rw [natL_get n F i hi,List.getElem?_eq_getElem (by omega)]
  have := h i hi
  rw [List.getD_eq_getElem?_getD,List.getElem?_eq_getElem (by omega)] at this
  simpa using this
 ·rw [List.getElem?_eq_none (by omega),List.getElem?_eq_none (by rw [natL_length]; omega)]
theorem getD_drop_take (P : List Int) (o m i : Nat) (h : i < m) : ((P.drop o).take m).getD i 0 = P.getD (o + i) 0 := by
 rw [List.getD_eq_getElem?_getD,List.getD_eq_getElem?_getD,List.getElem?_take,if_pos h,List.getElem?_drop]
end
section
open Go.RowKit
variable {l : List Int} {n NP : Nat} {P : List Int} {q : Int}
theorem wtL_len (hN : NetP l n NP P q) {k : Nat} (hk : k < n - 1) : (wtL l P k).length = szN l (k + 1) * szN l k := by
 have h1 := hN.fit hk
 have h2 : obN l k = ofN l k + szN l (k + 1) * szN l k := rfl
 rw [wtL,List.length_take,List.length_drop,hN.pl]
 omega
theorem wt_lt {R C r c : Nat} (hr : r < R) (hc : c < C) : r * C + c < R * C := by
 have h1 : (r + 1) * C <= R * C := Nat.mul_le_mul_right _ hr
 rw [Nat.succ_mul] at h1
 omega
theorem row_get {k r c : Nat} (hr : r < szN l (k + 1)) (hc : c < szN l k) : (rowL (wtL l P k) (szN l k) r).getD c 0 = wtR l P k r c := by
 rw [rowL,getD_drop_take _ _ _ _ hc,wtL,getD_drop_take _ _ _ _ (wt_lt hr hc),wtR,Nat.add_assoc]
theorem row_len (hN : NetP l n NP P q) {k r : Nat} (hk : k < n - 1) (hr : r < szN l (k + 1)) : (rowL (wtL l P k) (szN l k) r).length = szN l k := by
 rw [rowL,List.length_take,List.length_drop,wtL_len hN hk]
 have h1 : (r + 1) * szN l k <= szN l (k + 1) * szN l k := Nat.mul_le_mul_right _ hr
 rw [Nat.succ_mul] at h1
 omega
theorem lay_eq (hN : NetP l n NP P q) {k : Nat} (hk : k < n - 1) {x : List Int} (hx : x.length = szN l k) : layR l n P q k x = layA l n P q k x := by
 have hz : ∀ r,r < szN l (k + 1) -> (layZ l P q k x).getD r 0 = sumR l P q k r x (szN l k) := by
  intro r hr
  have hm : (mulN (wtL l P k) x q (szN l (k + 1)))[r]? = some (dotL q (rowL (wtL l P k) x.length r) x) := natL_get _ _ r hr
  rw [layZ,List.getD_eq_getElem?_getD,addAt_get,hm,Option.map_some,Option.getD_some,if_pos (by omega),Nat.sub_zero,hx,dotL_sgm q _ _ (by rw [row_len hN hk hr,hx]),row_len hN hk hr,wrap_add,sumR_sgm hN.pin]
  have hb : (bsL l P k).getD r 0 = bsR l P k r := by rw [bsL,getD_drop_take _ _ _ _ hr,bsR]
  rw [hb,Int.add_comm]
  congr 2
  exact sgm_congr _ (fun c hc => by rw [row_get hr hc])
 symm
 unfold layA
 split
 ·rename_i hc
  refine natL_eq (by rw [List.length_map,layZ_length]) (fun r hr => ?_)
  have hl : r < (layZ l P q k x).length := by rw [layZ_length]; exact hr
  have h1 := hz r hr
  rw [List.getD_eq_getElem?_getD,List.getElem?_eq_getElem hl,Option.getD_some] at h1
  rw [List.getD_eq_getElem?_getD,List.getElem?_map,List.getElem?_eq_getElem hl,Option.map_some,Option.getD_some,h1,zR,if_pos hc]
 ·rename_i hc
  refine natL_eq (layZ_length _ _ _ _ _) (fun r hr => ?_)
  rw [hz r hr,zR,if_neg hc]
theorem tr_eq (hN : NetP l n NP P q) {x : List Int} (hx : x.length = szN l 0) : ∀ k,k <= n - 1 -> trR l n P q x k = trN l n P q x k
 | 0,_ => rfl
 | k + 1,h => by
  rw [trR,trN,tr_eq hN hx k (by omega)]
  exact lay_eq hN (by omega) (trN_length hx k)
theorem turn_get {k r c : Nat} (hr : r < szN l (k + 1)) (hc : c < szN l k) : (rowL (turnN (wtL l P k) (szN l (k + 1)) (szN l k)) (szN l (k + 1)) c).getD r 0 = wtR l P k r c := by
 have h1 := wt_lt hc hr
 have h2 : 0 < szN l (k + 1) := by omega
 rw [rowL,getD_drop_take _ _ _ _ hr,turnN,natL_getD _ _ _ h1,turnF]
 have e1 : (c * szN l (k + 1) + r) % szN l (k + 1) = r := by rw [Nat.add_comm,Nat.add_mul_mod_self_right,Nat.mod_eq_of_lt hr]
 have e2 : (c * szN l (k + 1) + r) / szN l (k + 1) = c := by rw [Nat.add_comm,Nat.add_mul_div_right _ _ h2,Nat.div_eq_of_lt hr,Nat.zero_add]
 rw [e1,e2,wtL,getD_drop_take _ _ _ _ (wt_lt hr hc),wtR,Nat.add_assoc]
theorem turn_len {k c : Nat} (hc : c < szN l k) : (rowL (turnN (wtL l P k) (szN l (k + 1)) (szN l k)) (szN l (k + 1)) c).length = szN l (k + 1) := by
 rw [rowL,List.length_take,List.length_drop,turnN,natL_length]
 have h1 : (c + 1) * szN l (k + 1) <= szN l k * szN l (k + 1) := Nat.mul_le_mul_right _ hc
 rw [Nat.succ_mul] at h1
 omega
theorem er_eq (hN : NetP l n NP P q) {x y : List Int} (hx : x.length = szN l 0) : ∀ j,j <= n - 2 -> erR l n P q (trR l n P q x) y j = dlN l n P q x y j
 | 0,_ => by
  rw [erR,dlN,errL,tr_eq hN hx (n - 1) (Nat.le_refl _)]
  refine (natL_eq (by rw [subTo_length,trN_length hx]) (fun i hi => ?_)).symm
  have hl : i < (trN l n P q x (n - 1)).length := by rw [trN_length hx]; exact hi
  rw [List.getD_eq_getElem?_getD,subTo,List.getElem?_mapIdx,List.getElem?_eq_getElem hl,Option.map_some,Option.getD_some,if_pos hi]
  have h2 : (trN l n P q x (n - 1)).getD i 0 = (trN l n P q x (n - 1))[i] := by rw [List.getD_eq_getElem?_getD,List.getElem?_eq_getElem hl]; rfl
  rw [h2]
 | j + 1,h => by
  have ih := er_eq hN (y := y) hx j (by omega)
  have hdl : (dlN l n P q x y j).length = szN l (n - 2 - j + 1) := by rw [dlN_length hx j (by omega)]; congr 1; omega
  rw [erR,dlN,ih,tr_eq hN hx _ (by omega)]
  have e1 : n - 1 - j = n - 2 - j + 1 := by omega
  rw [e1]
  generalize hk : n - 2 - j = k at hdl ⊢
  have hkn : k < n - 1 := by omega
  generalize hd : dlN l n P q x y j = d at hdl ⊢
  refine (natL_eq (by rw [gateTo_length,mulN,natL_length]) (fun c hc => ?_)).symm
  have hm : (mulN (turnN (wtL l P k) (szN l (k + 1)) (szN l k)) d q (szN l k))[c]? = some (dotL q (rowL (turnN (wtL l P k) (szN l (k + 1)) (szN l k)) d.length c) d) := natL_get _ _ c hc
  rw [gateTo,List.getD_eq_getElem?_getD,List.getElem?_mapIdx,hm,Option.map_some,Option.getD_some,if_pos hc,erF,hdl,colR_sgm,dotL_sgm q _ _ (by rw [turn_len hc,hdl]),turn_len hc]
  congr 2
  exact sgm_congr _ (fun r hr => by rw [turn_get hr hc])
theorem natL_rows (F : Nat -> Int) (C : Nat) (G : Nat -> Nat -> Int) : ∀ R,(∀ r c,r < R -> c < C -> F (r * C + c) = G r c) -> ((List.range R).flatMap fun r => (List.range C).map (G r)) = natL (R * C) F
 | 0,_ => by simp [natL]
 | R + 1,h => by
  rw [List.range_succ,List.flatMap_append,natL_rows F C G R (fun r c hr hc => h r c (by omega) hc),List.flatMap_singleton]
  unfold natL
  rw [Nat.succ_mul,List.range_add,List.map_append,List.map_map]
  congr 1
  exact List.map_congr_left (fun c hc => (h R c (by omega) (List.mem_range.1 hc)).symm)
theorem link_eq (hN : NetP l n NP P q) {x y : List Int} (hx : x.length = szN l 0) {k : Nat} (hk : k < n - 1) :
  ((plcW k (szN l (k + 1)) (szN l k) ++ plcB k (szN l (k + 1))).map (grF q (trR l n P q x) (erE l n P q (trR l n P q x) y))) = sgN l n P q x y (n - 2 - k) := by
 have hE : erE l n P q (trR l n P q x) y (k + 1) = dlN l n P q x y (n - 2 - k) := by
  rw [erE,show n - 1 - (k + 1) = n - 2 - k by omega]
  exact er_eq hN hx _ (by omega)
 have hV := tr_eq hN hx k (by omega)
 have hdl : (dlN l n P q x y (n - 2 - k)).length = szN l (k + 1) := by rw [dlN_length hx _ (by omega)]; congr 1; omega
 rw [List.map_append,sgN,show n - 2 - (n - 2 - k) = k by omega]
 congr 1
 ·rw [plcW,List.map_flatMap,outN,hdl,trN_length hx]
  have := natL_rows (outF (dlN l n P q x y (n - 2 - k)) (trN l n P q x k) q) (szN l k) (fun r c => grF q (trR l n P q x) (erE l n P q (trR l n P q x) y) ((k : Int),(r : Int),(c : Int))) (szN l (k + 1)) (fun r c hr hc => by
   have h2 : 0 < szN l k := by omega
   have e1 : (r * szN l k + c) % szN l k = c := by rw [Nat.add_comm,Nat.add_mul_mod_self_right,Nat.mod_eq_of_lt hc]
   have e2 : (r * szN l k + c) / szN l k = r := by rw [Nat.add_comm,Nat.add_mul_div_right _ _ h2,Nat.div_eq_of_lt hc,Nat.zero_add]
   rw [outF,trN_length hx,e1,e2,grF,if_pos (show (0 : Int) <= (c : Int) by omega)]
   simp only [Int.toNat_natCast]
   rw [hE,hV])
  rw [<- this]
  congr 1
  funext r
  rw [plcR,List.map_map]
  rfl
 ·rw [plcB,List.map_map]
  symm
  refine natL_eq hdl (fun r hr => ?_)
  show _ = grF q (trR l n P q x) (erE l n P q (trR l n P q x) y) ((k : Int),(r : Int),(-1 : Int))
  rw [grF,if_neg (show ¬ (0 : Int) <= -1 by decide)]
  simp only [Int.toNat_natCast]
  rw [hE]
theorem rGrad_upto (hN : NetP l n NP P q) {x y : List Int} (hx : x.length = szN l 0) : ∀ K,K <= n - 1 -> ((plcL l K).map (grF q (trR l n P q x) (erE l n P q (trR l n P q x) y))) ++ grT l n P q x y (n - 1 - K) = gradN l n P q x y
 | 0,_ => rfl
 | K + 1,h => by
  rw [<- rGrad_upto hN hx K (by omega),plcL,List.append_assoc (plcL l K),List.map_append,link_eq hN hx (by omega),List.append_assoc]
  congr 1
  rw [show n - 1 - K = (n - 2 - K) + 1 by omega,grT,show n - 1 - (K + 1) = n - 2 - K by omega]
theorem rGrad_eq (hN : NetP l n NP P q) {x y : List Int} (hx : x.length = szN l 0) : rGradN l n P q x y = gradN l n P q x y := by
 have := rGrad_upto (y := y) hN hx (n - 1) (Nat.le_refl _)
 rw [Nat.sub_self,grT,List.append_nil] at this
 exact this
end
section
open Go.RowKit
abbrev inVI (I : InC) : Value := inV I.A I.n I.cap I.c I.S I.m I.cS I.AP I.P I.cP I.AD I.D I.cD
abbrev inCI (I : InC) : Array Value := inC I.A I.n I.cap I.c I.S I.m I.cS I.AP I.P I.cP I.AD I.D I.cD
theorem refNet14_any (I : InC) (Ap : Option Addr) (NP cp : Nat) (w : World) :
  Calls Tryz.prog 91 #[inVI I,.slice Ap NP cp] w fun e w' => e = .returned (rnetV I.A I.n I.cap Ap NP cp I.c.sh) /\ Below w.heap.size w w' := by
 have HG : Hid (∀ W,(w.alloc (.cells (inCI I) 29)).alloc (.cells #[.slice none 0 0,.slice none 0 0,.int .i64 0] 202) = W -> Below w.heap.size w W /\ Blk W w.heap.size 29 (inCI I) /\ Blk W (w.heap.size + 1) 202 #[.slice none 0 0,.slice none 0 0,.int .i64 0]) := hid (by
  rintro W rfl
  exact ⟨((Below.refl _ _).alloc (Nat.le_refl _) _).alloc (by simp) _,(Blk.new _ _ _).alloc _,Blk.new' _ _ (by simp)⟩)
 go_enter Tryz.func91,Tryz.ntmps91
 go_wp2_with fail
 refine bodyPost_ret (results_cell_row rfl _ _ (w.heap.size + 1) _ _ (0,0) _ rfl (Blk.new' _ _ (by simp)) Tryz.underlying202 rfl (by kernel_rfl)) rfl ?_
 exact ⟨rfl,((Below.refl _ _).alloc (Nat.le_refl _) _).alloc (by simp) _⟩
def G14V (B : Nat) (rn : Value) (sv : Value) (g z : List Int) (j : Nat) (v : Value) (w : World) : Prop :=
 (j = 3 -> v = rn) /\ (j = 16 -> ∃ A c,v = .slice A g.length c /\ Rd w 1 A g.length (iv g)) /\
 (j = 17 -> ∃ b A c,v = .slice (some ⟨b,0,none⟩) 2 2 /\ Rd w 1 (some ⟨b,0,none⟩) 2 [sv,.slice A g.length c] /\ Rd w 1 A g.length (iv g)) /\
 ((j = 18 \/ j = 19) -> ∃ A c,v = .tuple #[.slice A z.length c,.bool true] /\ w.ownsRow B 2 1 (.slice A z.length c) z.length (iv z)) /\
 ((j = 20 \/ j = 22) -> ∃ A c,v = .slice A z.length c /\ w.ownsRow B 2 1 (.slice A z.length c) z.length (iv z))
theorem G14V.below {B : Nat} {rn sv : Value} {g z : List Int} {j : Nat} {v : Value} {w w' : World} (h : G14V B rn sv g z j v w) (hb : Below w.heap.size w w') : G14V B rn sv g z j v w' := by
 obtain ⟨h1,h2,h3,h4,h5⟩ := h
 refine ⟨h1,fun e => ?_,fun e => ?_,fun e => ?_,fun e => ?_⟩
 ·obtain ⟨A,c,a,b⟩ := h2 e
  exact ⟨A,c,a,b.below hb⟩
 ·obtain ⟨b,A,c,a1,a2,a3⟩ := h3 e
  exact ⟨b,A,c,a1,a2.below hb,a3.below hb⟩
 ·obtain ⟨A,c,a,b⟩ := h4 e
  exact ⟨A,c,a,own_below b hb⟩
 ·obtain ⟨A,c,a,b⟩ := h5 e
  exact ⟨A,c,a,own_below b hb⟩
end
section
open Go.RowKit
variable {B : Nat} {rn sv : Value} {g z : List Int} {w : World}
theorem G14V.m3 : G14V B rn sv g z 3 rn w := ⟨fun _ => rfl,fun e => (by cases e),fun e => (by cases e),fun e => (by omega),fun e => (by omega)⟩
theorem G14V.m16 {A : Option Addr} {c : Nat} (h : Rd w 1 A g.length (iv g)) : G14V B rn sv g z 16 (.slice A g.length c) w := ⟨fun e => (by cases e),fun _ => ⟨A,c,rfl,h⟩,fun e => (by cases e),fun e => (by omega),fun e => (by omega)⟩
theorem G14V.m17 {b : Nat} {A : Option Addr} {c : Nat} (h : Rd w 1 (some ⟨b,0,none⟩) 2 [sv,.slice A g.length c]) (h2 : Rd w 1 A g.length (iv g)) : G14V B rn sv g z 17 (.slice (some ⟨b,0,none⟩) 2 2) w := ⟨fun e => (by cases e),fun e => (by cases e),fun _ => ⟨b,A,c,rfl,h,h2⟩,fun e => (by omega),fun e => (by omega)⟩
theorem G14V.m18 {A : Option Addr} {c : Nat} (h : w.ownsRow B 2 1 (.slice A z.length c) z.length (iv z)) : G14V B rn sv g z 18 (.tuple #[.slice A z.length c,.bool true]) w := ⟨fun e => (by cases e),fun e => (by cases e),fun e => (by cases e),fun _ => ⟨A,c,rfl,h⟩,fun e => (by omega)⟩
theorem G14V.m19 {A : Option Addr} {c : Nat} (h : w.ownsRow B 2 1 (.slice A z.length c) z.length (iv z)) : G14V B rn sv g z 19 (.tuple #[.slice A z.length c,.bool true]) w := ⟨fun e => (by cases e),fun e => (by cases e),fun e => (by cases e),fun _ => ⟨A,c,rfl,h⟩,fun e => (by omega)⟩
theorem G14V.m20 {A : Option Addr} {c : Nat} (h : w.ownsRow B 2 1 (.slice A z.length c) z.length (iv z)) : G14V B rn sv g z 20 (.slice A z.length c) w := ⟨fun e => (by cases e),fun e => (by cases e),fun e => (by cases e),fun e => (by omega),fun _ => ⟨A,c,rfl,h⟩⟩
theorem G14V.m22 {A : Option Addr} {c : Nat} (h : w.ownsRow B 2 1 (.slice A z.length c) z.length (iv z)) : G14V B rn sv g z 22 (.slice A z.length c) w := ⟨fun e => (by cases e),fun e => (by cases e),fun e => (by cases e),fun e => (by omega),fun _ => ⟨A,c,rfl,h⟩⟩
theorem G14V.m21 {v : Value} : G14V B rn sv g z 21 v w := ⟨fun e => (by cases e),fun e => (by cases e),fun e => (by cases e),fun e => (by omega),fun e => (by omega)⟩
end
section
open Go.RowKit
theorem accG_in {K : MC} {P G : List Int} (h : AllIn G) (l : List Int) : AllIn (accG K P G l) := by
 induction l generalizing G with
 | nil => exact h
 | cons i l ih =>
  rw [accG,List.foldl_cons]
  refine ih (G := addAt G 0 (exG K P i) K.NP) (fun v hv => ?_)
  obtain ⟨j,hj⟩ := List.getElem?_of_mem hv
  rw [addAt_get] at hj
  obtain ⟨u,hu,rfl⟩ := Option.map_eq_some_iff.1 hj
  split
  ·exact wrap64_in1 _
  ·exact h u (List.mem_of_getElem? hu)
theorem rd_twoR {w : World} {b : Nat} {t : TypeId} {x y : Value} (h : Blk w b t #[x,y]) : Rd w 1 (some ⟨b,0,none⟩) 2 [x,y] := ⟨rfl,fun _ => ⟨b,0,rfl,h.lt,fun j u hu => by
 rw [Nat.zero_add,h.cell]
 simpa using hu⟩⟩
theorem refGrad14_any (I : InC) (Ap : Option Addr) (cp : Nat) (Ps : List Int) (X : Option Addr) (nI cX : Nat) (mic : List Int) (w : World) (hI : InAt w I) (hO : I.Ok) (hpl : Ps.length = I.P) (hpi : AllIn Ps) (hrp : Rd w 1 Ap I.P (iv Ps)) (hml : mic.length = nI) (hn : nI <= 1000) (hx : Rd w 1 X nI (iv mic)) (hin : ∀ x ∈ mic,0 <= x /\ x < (I.m : Int)) :
  Calls Tryz.prog 26 #[inVI I,.slice Ap I.P cp,.slice X nI cX] w fun e w' => ∃ A c,e = .returned (.tuple #[.slice A I.P c,.bool true]) /\ w'.ownsRow w.heap.size 2 1 (.slice A I.P c) I.P (iv (accG (I.mc 0) Ps (zeros I.P) mic)) /\ Below w.heap.size w w' := by
 have hK := hO.mc (x := 0) (by have := hO.nums.wk; omega)
 have hNP := hK.net hpl hpi
 have hP1 : I.P <= 60 := hO.P60
 have HG : Hid (∀ W,w.alloc (.cells (inCI I) 29) = W -> Below w.heap.size w W /\ Blk W w.heap.size 29 (inCI I)) := hid (by
  rintro W rfl
  exact ⟨(Below.refl _ _).alloc (Nat.le_refl _) _,Blk.new _ _ _⟩)
 have HI := hid hI
 have HO := hid hO
 have HK := hid hK
 have HN := hid hNP
 have HPI := hid hpi
 have HRP := hid hrp
 have HML := hid hml
 have HX := hid hx
 have HIN := hid hin
 have m60 := hO.m60
 clear hI hO hK hNP hpi hpl hrp hml hx hin
 have hmk := fun W => run_make_row' (P := Tryz.prog) 26 2 (.int .i64 0) 8 Tryz.underlying26 slI64.info rfl .i64 .i64 I.P (by omega) (by omega) W
 go_enter Tryz.func26,Tryz.ntmps26
 go_wp2_with fail
 obtain ⟨w0,hw0⟩ : ∃ w0,w.alloc (.cells (inCI I) 29) = w0 := ⟨_,rfl⟩
 obtain ⟨hB,hI⟩ := HG.out _ hw0
 have hs0 : w0.heap.size = w.heap.size + 1 := by rw [<- hw0]; simp
 rw [hw0]
 obtain ⟨w1,hw1⟩ : ∃ w1,w0.alloc (.cells (madeCells #[Value.int .i64 0] I.P) 2) = w1 := ⟨_,rfl⟩
 have hb1 : Below w0.heap.size w0 w1 := by rw [<- hw1]; exact (Below.refl _ _).alloc (Nat.le_refl _) _
 have ho1 : w1.ownsRow w.heap.size 2 1 (.slice (some ⟨w0.heap.size,0,none⟩) I.P I.P) I.P (iv (zeros I.P)) := by rw [<- hw1]; exact own_made w0 I.P w0.heap.size _ _ rfl (by omega) (by omega)
 rw [hw1]
 have HB1 := hid (hB.trans (hb1.mono hB.size))
 have HI1 := hid (hI.kept hb1)
 have HO1 := hid ho1
 rw [hs0] at HO1
 clear hmk hw0 hw1 hB hI hb1 ho1 HG hs0
 go_loopw [8,9] (fun o v wr => ∃ (i : Nat) (A : Option Addr) (c : Nat),i <= nI /\ v = .int .i64 i /\ o = .slice A I.P c /\ wr.ownsRow w.heap.size 2 1 (.slice A I.P c) I.P (iv (accG (I.mc 0) Ps (zeros I.P) (mic.take i))) /\ Below w.heap.size w wr /\ Blk wr w.heap.size 29 (inCI I)) (fun _ v _ => nI - (intOf v).toNat)
 case atStart => exact ⟨0,_,_,by omega,rfl,rfl,HO1.out,HB1.out,HI1.out⟩
 case round =>
  obtain ⟨i,A,c,hi,rfl,rfl,ho,hb,hin⟩ := hrel
  by_cases hlt : i < nI
  ·obtain ⟨xi,hxi⟩ : ∃ x,mic[i]? = some x := ⟨_,List.getElem?_eq_getElem (by rw [HML.out]; exact hlt)⟩
   obtain ⟨gx,ox,rfl,xl,xc⟩ := rdI_at (HX.out.below hb) hlt
   have hxd : mic.getD i 0 = xi := by rw [List.getD_eq_getElem?_getD,hxi]; rfl
   rw [hxd] at xc
   obtain ⟨p0,p1⟩ := HIN.out xi (List.mem_of_getElem? hxi)
   obtain ⟨k,rfl⟩ : ∃ k : Nat,xi = k := ⟨xi.toNat,by omega⟩
   have hkm : k < I.m := by omega
   have hIr := HI.out.below hb
   obtain ⟨⟨A1,c1,A2,c2⟩,hs⟩ : ∃ s,I.es[k]? = some s := ⟨_,List.getElem?_eq_getElem (by rw [HI.out.el]; exact hkm)⟩
   obtain ⟨b5,o5,hbS,l5,q0,q1⟩ := stv_rd hIr.re hs hkm
   dsimp only at q0 q1
   obtain ⟨r1,r2⟩ := hIr.rs k _ hs
   dsimp only at r1 r2
   obtain ⟨fx,fy⟩ := HO.out.fl k hkm
   have fi := HO.out.fi k hkm
   obtain ⟨g,hg⟩ : ∃ g,exG (I.mc 0) Ps (k : Int) = g := ⟨_,rfl⟩
   have hgg : rGradN I.l I.n Ps I.c.sh (I.f (k + 1)).1 (I.f (k + 1)).2 = g := by
    rw [<- hg,exG,Int.toNat_natCast]
    exact rGrad_eq HN.out (by rw [fx,HO.out.hN]; rfl)
   have hgl : g.length = I.P := by rw [<- hg]; exact gradN_length HN.out (by rw [Int.toNat_natCast]; exact fx.trans HO.out.hN)
   have hgi : AllIn g := by rw [<- hg]; exact gradN_in (by rw [Int.toNat_natCast]; exact fi)
   obtain ⟨a,ha⟩ : ∃ a,accG (I.mc 0) Ps (zeros I.P) (mic.take i) = a := ⟨_,rfl⟩
   rw [ha] at ho
   have hal : a.length = I.P := by rw [<- ha,accG_length]; simp
   have HACC : Hid (accG (I.mc 0) Ps (zeros I.P) (mic.take (i + 1)) = addL a g) := hid (by
    rw [List.take_add_one,hxi,Option.toList_some,accG_snoc,ha,hg]
    exact addL_is a g _ hal)
   have hgr := fun W (kk : Kept wr W) => refGrad_any I.A I.n I.cap I.l Ap I.P cp Ps I.c.sh W I.N c1 I.M c2 A1 A2 (I.f (k + 1)).1 (I.f (k + 1)).2 ⟨HN.out,hIr.rl.below kk.2.2,HI.out.cap,(HRP.out.below hb).below kk.2.2⟩ HO.out.hN fx (r1.below kk.2.2) fi HO.out.hM (r2.below kk.2.2)
   rw [hgg] at hgr
   have HGR := hid hgr
   have HO2 := hid ho
   have HB2 := hid hb
   have HI2 := hid hin
   have HGL := hid hgl
   have HGI := hid hgi
   have HAL := hid hal
   have HAI : Hid (AllIn a) := hid (by
    rw [<- ha]
    exact accG_in (by intro x hx; simp at hx; obtain ⟨_,rfl⟩ := hx; exact ⟨by decide,by decide⟩) _)
   have HLT := hid hlt
   have y12 : wr.cell? ⟨w.heap.size,12,none⟩ = some (.slice I.S I.m I.cS) := hin.cell 12
   have yl := hin.lt
   have d1 : decide ((k : Int) < 0) = false := decide_eq_false (by omega)
   have d2 : decide ((I.m : Int) <= (k : Int)) = false := decide_eq_false (by omega)
   have r3 : (i : Int) < (nI : Int) := by omega
   clear ho hb hin hxi hxd hs r1 r2 fx fy fi hg hgg hgl hgi ha hal hgr hIr hlt p0 p1
   go_wp2_with fail
   refine wp_region_posts (Kept wr) (G14V w.heap.size (rnetV I.A I.n I.cap Ap I.P cp I.c.sh) (.slice A I.P c) g (addL a g)) (fun _ _ _ _ => True) [0,1,2,4,5,6,7,8,9,10,11,12,13,14,15] [3,16,17,18,19,20,21,22] [] (by kernel_rfl) (by kernel_rfl) (Kept.start wr) (fun _ _ _ _ h => h) (fun _ _ _ _ h hb => h.below hb) ?_
   simp only [List.filterMap_cons,List.filterMap_nil,List.getElem?_cons_succ,List.getElem?_cons_zero]
   have y0 : wr.cell? ⟨w.heap.size,0,none⟩ = some (.slice I.A I.n I.cap) := HI2.out.cell 0
   have y1 : wr.cell? ⟨w.heap.size,1,none⟩ = some (.int .i64 I.c.sh) := HI2.out.cell 1
   have y2 : wr.cell? ⟨w.heap.size,2,none⟩ = some (.int .i64 I.c.ra) := HI2.out.cell 2
   have y3 : wr.cell? ⟨w.heap.size,3,none⟩ = some (.int .i64 I.c.mo) := HI2.out.cell 3
   have y4 : wr.cell? ⟨w.heap.size,4,none⟩ = some (.int .i64 I.c.wk) := HI2.out.cell 4
   have y5 : wr.cell? ⟨w.heap.size,5,none⟩ = some (.int .i64 I.c.ba) := HI2.out.cell 5
   have y6 : wr.cell? ⟨w.heap.size,6,none⟩ = some (.int .i64 I.c.mi) := HI2.out.cell 6
   have y7 : wr.cell? ⟨w.heap.size,7,none⟩ = some (.int .i64 I.c.st) := HI2.out.cell 7
   have y8 : wr.cell? ⟨w.heap.size,8,none⟩ = some (.int .i64 I.c.bu) := HI2.out.cell 8
   have y9 : wr.cell? ⟨w.heap.size,9,none⟩ = some (.int .i64 I.c.ch) := HI2.out.cell 9
   have y10 : wr.cell? ⟨w.heap.size,10,none⟩ = some (.int .i64 I.c.wi) := HI2.out.cell 10
   have y11 : wr.cell? ⟨w.heap.size,11,none⟩ = some (.int .i64 I.c.ca) := HI2.out.cell 11
   have y13 : wr.cell? ⟨w.heap.size,13,none⟩ = some (.slice I.AP I.P I.cP) := HI2.out.cell 13
   have y14 : wr.cell? ⟨w.heap.size,14,none⟩ = some (.slice I.AD I.D I.cD) := HI2.out.cell 14
   refine early_step (.slice A I.P c) rfl (fun W hW => ?_) ?_
   ·obtain ⟨hc,-,-⟩ := hW
    go_simp
   go_simp
   refine early_step (inVI I) rfl (fun W hW => ?_) ?_
   ·obtain ⟨hc,-,-⟩ := hW
    go_simp
   go_simp
   refine early_step (.slice Ap I.P cp) rfl (fun W hW => ?_) ?_
   ·obtain ⟨hc,-,-⟩ := hW
    go_simp
   go_simp
   refine early_step (.pointer (some ⟨w.heap.size,12,none⟩)) rfl (fun W hW => ?_) ?_
   ·obtain ⟨hc,-,-⟩ := hW
    go_simp
   go_simp
   refine early_step (.slice (some ⟨b5,o5,none⟩) I.m I.cS) rfl (fun W hW => ?_) ?_
   ·obtain ⟨hc,-,-⟩ := hW
    go_simp
   go_simp
   refine early_step (.int .i64 k) rfl (fun W hW => ?_) ?_
   ·obtain ⟨hc,-,-⟩ := hW
    go_simp
   go_simp
   refine early_step (.pointer (some ⟨b5,o5 + k * 2,none⟩)) rfl (fun W hW => ?_) ?_
   ·obtain ⟨hc,-,-⟩ := hW
    go_simp
   go_simp
   refine early_step (.pointer (some ⟨b5,o5 + k * 2,none⟩)) rfl (fun W hW => ?_) ?_
   ·obtain ⟨hc,-,-⟩ := hW
    go_simp
   go_simp
   refine early_step (.slice A1 I.N c1) rfl (fun W hW => ?_) ?_
   ·obtain ⟨hc,-,-⟩ := hW
    go_simp
   go_simp
   refine early_step (.pointer (some ⟨w.heap.size,12,none⟩)) rfl (fun W hW => ?_) ?_
   ·obtain ⟨hc,-,-⟩ := hW
    go_simp
   go_simp
   refine early_step (.slice (some ⟨b5,o5,none⟩) I.m I.cS) rfl (fun W hW => ?_) ?_
   ·obtain ⟨hc,-,-⟩ := hW
    go_simp
   go_simp
   refine early_step (.int .i64 k) rfl (fun W hW => ?_) ?_
   ·obtain ⟨hc,-,-⟩ := hW
    go_simp
   go_simp
   refine early_step (.pointer (some ⟨b5,o5 + k * 2,none⟩)) rfl (fun W hW => ?_) ?_
   ·obtain ⟨hc,-,-⟩ := hW
    go_simp
   go_simp
   refine early_step (.pointer (some ⟨b5,o5 + k * 2 + 1,none⟩)) rfl (fun W hW => ?_) ?_
   ·obtain ⟨hc,-,-⟩ := hW
    go_simp
   go_simp
   refine early_step (.slice A2 I.M c2) rfl (fun W hW => ?_) ?_
   ·obtain ⟨hc,-,-⟩ := hW
    go_simp
   go_simp
   refine PostsAt.mk ?_ ?_
   ·intro j8 hj8 o ho8 vs W hS hV
    simp only [List.mem_cons,List.not_mem_nil,or_false] at hj8
    have HS := hid hS
    have HV := hid hV
    have HBW := hid (HB2.out.trans (hS.2.2.mono HB2.out.size))
    clear hS hV
    rcases hj8 with rfl | rfl | rfl | rfl | rfl | rfl | rfl | rfl
    ·cases ho8
     unfold PostW
     simp only [puts,dstN,List.getElem?_toArray,List.getElem?_cons_succ,List.getElem?_cons_zero,Option.bind_some]
     change wpList _ _ _ (_ :: []) _ _
     go_wp2_with fail
     ((with_reducible refine (refNet14_any I Ap I.P cp W).mono ?_); rintro e w8 ⟨rfl,hb8⟩)
     go_wp2_with fail
     exact ⟨HS.out.call hb8,G14V.m3⟩
    ·have v3 := (HV.out 3 (by simp) (by kernel_rfl)).1 rfl
     cases ho8
     unfold PostW
     simp only [puts,dstN,List.getElem?_toArray,List.getElem?_cons_succ,List.getElem?_cons_zero,Option.bind_some]
     rw [v3]
     change wpList _ _ _ (_ :: []) _ _
     go_wp2_with fail
     ((with_reducible refine (HGR.out W HS.out).mono ?_); rintro e w8 ⟨A8,c8,rfl,ho8,hb8⟩)
     have hr8 : Rd w8 1 A8 g.length (iv g) := by rw [HGL.out]; exact Rd.of_own ho8
     have HR8 := hid hr8
     have HGL2 := HGL.out
     clear hr8 ho8
     go_wp2_with fail
     have h16 := G14V.m16 (B := w.heap.size) (rn := rnetV I.A I.n I.cap Ap I.P cp I.c.sh) (sv := .slice A I.P c) (z := addL a g) (c := c8) HR8.out
     rw [HGL.out] at h16
     exact ⟨HS.out.call hb8,h16⟩
    ·obtain ⟨A8,c8,v16,r16⟩ := (HV.out 16 (by simp) (by kernel_rfl)).2.1 rfl
     have R16 := hid r16
     cases ho8
     unfold PostW
     simp only [puts,dstN,List.getElem?_toArray,List.getElem?_cons_succ,List.getElem?_cons_zero,Option.bind_some]
     rw [v16]
     clear r16
     change wpList _ _ _ (_ :: []) _ _
     go_wp2_with fail
     exact ⟨HS.out.alloc _,G14V.m17 (rd_twoR (Blk.new _ _ _)) (R16.out.below ((Below.refl _ _).alloc (Nat.le_refl _) _)),(Below.refl _ _).alloc (Nat.le_refl _) _⟩
    ·obtain ⟨b8,A8,c8,v17,r17,r16⟩ := (HV.out 17 (by simp) (by kernel_rfl)).2.2.1 rfl
     have R17 := hid r17
     have R16 := hid r16
     cases ho8
     unfold PostW
     simp only [puts,dstN,List.getElem?_toArray,List.getElem?_cons_succ,List.getElem?_cons_zero,Option.bind_some]
     rw [v17]
     clear r16 r17
     have hsl : sumL [a,g] = some (addL a g) := by
      rw [sumL,sumFrom,if_pos (by rw [HGL.out,HAL.out]),sumFrom]
     have hsr := own_below HO2.out HS.out.2.2
     have C := refSum_any (some ⟨b8,0,none⟩) 2 2 [(A,I.P,c),(A8,g.length,c8)] [a,g] W rfl (by omega) (by omega) R17.out ⟨rfl,fun i s z h1 h2 => by
      rcases i with _ | _ | i
      ·obtain rfl : (A,I.P,c) = s := by simpa using h1
       obtain rfl : a = z := by simpa using h2
       exact ⟨HAL.out,Rd.of_own hsr⟩
      ·obtain rfl : (A8,g.length,c8) = s := by simpa using h1
       obtain rfl : g = z := by simpa using h2
       exact ⟨rfl,R16.out⟩
      ·simp at h1⟩ (fun z hz => by
       simp at hz
       rcases hz with rfl | rfl
       ·rw [HAL.out]; omega
       ·rw [HGL.out]; omega) (fun z hz x hx => by
       simp at hz
       rcases hz with rfl | rfl
       ·exact HAI.out x hx
       ·exact HGI.out x hx)
     rw [hsl] at C
     have HC := hid C
     clear C hsl hsr
     change wpList _ _ _ (_ :: []) _ _
     go_wp2_with fail
     ((with_reducible refine HC.out.mono ?_); rintro e w8 ⟨A9,c9,rfl,ho9,hb9⟩)
     have HO9 := hid (own_base ho9 HBW.out.size)
     clear ho9
     go_wp2_with fail
     exact ⟨HS.out.call hb9,G14V.m18 HO9.out⟩
    ·obtain ⟨A9,c9,v18,r18⟩ := (HV.out 18 (by simp) (by kernel_rfl)).2.2.2.1 (.inl rfl)
     have R18 := hid r18
     cases ho8
     unfold PostW
     simp only [puts,dstN,List.getElem?_toArray,List.getElem?_cons_succ,List.getElem?_cons_zero,Option.bind_some]
     rw [v18]
     clear r18
     change wpList _ _ _ (_ :: []) _ _
     go_wp2_with fail
     exact ⟨HS.out,G14V.m19 R18.out,Below.refl _ _⟩
    ·obtain ⟨A9,c9,v18,r18⟩ := (HV.out 19 (by simp) (by kernel_rfl)).2.2.2.1 (.inr rfl)
     have R18 := hid r18
     cases ho8
     unfold PostW
     simp only [puts,dstN,List.getElem?_toArray,List.getElem?_cons_succ,List.getElem?_cons_zero,Option.bind_some]
     rw [v18]
     clear r18
     change wpList _ _ _ (_ :: []) _ _
     go_wp2_with fail
     exact ⟨HS.out,G14V.m20 R18.out,Below.refl _ _⟩
    ·obtain ⟨A9,c9,v18,r18⟩ := (HV.out 19 (by simp) (by kernel_rfl)).2.2.2.1 (.inr rfl)
     cases ho8
     unfold PostW
     simp only [puts,dstN,List.getElem?_toArray,List.getElem?_cons_succ,List.getElem?_cons_zero,Option.bind_some]
     rw [v18]
     clear r18
     change wpList _ _ _ (_ :: []) _ _
     go_wp2_with fail
     exact ⟨HS.out,G14V.m21,Below.refl _ _⟩
    ·obtain ⟨A9,c9,v20,r20⟩ := (HV.out 20 (by simp) (by kernel_rfl)).2.2.2.2 (.inl rfl)
     have R20 := hid r20
     cases ho8
     unfold PostW
     simp only [puts,dstN,List.getElem?_toArray,List.getElem?_cons_succ,List.getElem?_cons_zero,Option.bind_some]
     rw [v20]
     clear r20
     change wpList _ _ _ (_ :: []) _ _
     go_wp2_with fail
     exact ⟨HS.out,G14V.m22 R20.out,Below.refl _ _⟩
   ·intro vs W hS hV hR
    obtain ⟨A9,c9,v20,r20⟩ := (hV 22 (by simp)).2.2.2.2 (.inr rfl)
    simp only [puts,dstN,List.filterMap_cons,List.filterMap_nil,List.getElem?_toArray,List.getElem?_cons_succ,List.getElem?_cons_zero,Option.bind_some]
    rw [v20]
    have hal2 : (addL a g).length = I.P := by rw [addL_length,HAL.out]
    rw [hal2] at r20 ⊢
    have HO9 := hid r20
    have HB9 := hid (HB2.out.trans (hS.2.2.mono HB2.out.size))
    have HI9 := hid (HI2.out.kept hS.2.2)
    clear hS hV hR v20 r20
    unfold wpList
    refine NoPanic.normal ?_
    go_wp2_with fail
    go_roundw
    case rel => exact ⟨i + 1,A9,c9,HLT.out,by go_num,rfl,by rw [HACC.out]; exact HO9.out,HB9.out,HI9.out⟩
    case measure => simp [intOf]; have := HLT.out; omega
  ·obtain rfl : i = nI := by omega
   rw [List.take_of_length_le (by rw [HML.out]; exact Nat.le_refl _)] at ho
   have HO2 := hid ho
   have HB2 := hid hb
   clear ho hb hin
   go_wp2_with fail
   go_ret2
   exact ⟨A,c,rfl,HO2.out,HB2.out⟩
end
end Go.Proofs.YtkmaeipoaoikpaaGreat
