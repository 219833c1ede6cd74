/-
  TopDivides holds for every input:the row, proved out of the walk.
-/
import Derived.Test.YtkmaeipoaoikpaaGreatRows
import Derived.Test.YtkmaeipoaoikpaaGreatEC28
namespace Go.Proofs.YtkmaeipoaoikpaaGreat.topDivides
open Go.ChangeShapes Go.WideShapes Go.ChangeAt Go.RowKit
set_option linter.unusedVariables false

theorem own:ownKnob Tryz.prog.godebug=none:=by kernel_rfl
theorem laidOut:laidOutB Tryz.prog=true:=by kernel_rfl

set_option maxRecDepth 100000 in
theorem lifted(os:Os)(started:os.Started)(H:Type)(enc:TypeId×Value→H) :
    ReturnsInLeavingWide {} Tryz.checked os 4 .any (Rows.topDividesSpec.pre6 enc Tryz.prog Tryz.f4 Rows.topDividesRow.domain false) (Rows.topDividesSpec.post enc Tryz.prog Tryz.f4 false true false false):=by
  refine ZbL (C:=Tryz.checked) own started (by kernel_rfl) Tryz.func4
    (ChangeSpec.witness6 (enc:=enc) (C:=Tryz.checked) false ⟨#[], #[.agg #[.slice none 0 0, .int .i64 0, .int .i64 0, .int .i64 0, .int .i64 0, .int .i64 0, .int .i64 0, .int .i64 0, .int .i64 0, .int .i64 0, .int .i64 0, .int .i64 0, .slice none 0 0, .slice none 0 0, .slice none 0 0], .agg #[.int .u8 0, .int .u8 0, .int .u8 0, .int .u8 0, .int .u8 0, .int .u8 0]], []⟩ 8 (by kernel_rfl) (by kernel_rfl) (by kernel_rfl) (by kernel_rfl)) ?_
  intro W base args ds gs before hval0 hW hcnd hsz0 _;have hval:∀(j:Nat) t v, Tryz.f4.params[j]?=some t→args[j]?=some v→Value.okWide Tryz.prog W .any base t v:=hval0;have hW':=hW;obtain⟨p, q, hA0, hV, rfl, hfz, hnd⟩:=hW;have hA:DataW.TrodAll enc Tryz.prog W 0 (fun _=>true) true Tryz.f4.params.toList args.toList ds p:=hA0;rw[Tryz.params4] at hA hval;obtain⟨v0, vs0, d0, ds0, p0, q0, hargs, rfl, rfl, h0, r0⟩:=trodAll_cons hA;obtain⟨v1, vs1, d1, ds1, p1, q1, rfl, rfl, rfl, h1, r1⟩:=trodAll_cons r0;obtain⟨rfl, rfl, rfl⟩:=trodAll_nil r1;obtain rfl:args=#[v0, v1]:=by cases args;simp_all
  obtain⟨rfl, rfl⟩:=trodVars_none hV;have lt0:∀x∈p0, x.block<W.heap.size:=by obtain⟨m, hm⟩:=h0;exact DataW.trod_lt m _ _ _ hm
  have lt1:∀x∈p1, x.block<W.heap.size:=by obtain⟨m, hm⟩:=h1;exact DataW.trod_lt m _ _ _ hm
  obtain⟨A, n, cap, l, c, S, m, cS, es, zs, AP, P, cP, P0, AD, D, cD, L, rfl, hnc, hl, hr, hc, hes, hzs, hre, hex, hpl, hrp, hpi, hdl, hrd, hu⟩:=ZmY (hval 0 29 v0 rfl rfl) h0;obtain⟨zs1, hl1, rfl, wz1⟩:=Zoe Tryz.underlying60 Tryz.underlying5 (by kernel_rfl) (by kernel_rfl) (hval 1 60 v1 rfl rfl) h1;obtain⟨x0, x1, x2, x3, x4, x5, rfl⟩:=Zw1 hl1;obtain⟨x0, rfl⟩:∃k:Nat, x0=k:=⟨x0.toNat, by have h:=wz1 x0 (by simp);simp only[Lit.wf, Bool.and_eq_true, decide_eq_true_eq] at h;have h1:(0:Int)≤x0:=h.1;omega⟩;have wbx0:x0<256:=by have h:=wz1 x0 (by simp);simp only[Lit.wf, Bool.and_eq_true, decide_eq_true_eq] at h;have h1:(x0:Int)≤255:=h.2;omega
  obtain⟨x1, rfl⟩:∃k:Nat, x1=k:=⟨x1.toNat, by have h:=wz1 x1 (by simp);simp only[Lit.wf, Bool.and_eq_true, decide_eq_true_eq] at h;have h1:(0:Int)≤x1:=h.1;omega⟩;have wbx1:x1<256:=by have h:=wz1 x1 (by simp);simp only[Lit.wf, Bool.and_eq_true, decide_eq_true_eq] at h;have h1:(x1:Int)≤255:=h.2;omega
  obtain⟨x2, rfl⟩:∃k:Nat, x2=k:=⟨x2.toNat, by have h:=wz1 x2 (by simp);simp only[Lit.wf, Bool.and_eq_true, decide_eq_true_eq] at h;have h1:(0:Int)≤x2:=h.1;omega⟩;have wbx2:x2<256:=by have h:=wz1 x2 (by simp);simp only[Lit.wf, Bool.and_eq_true, decide_eq_true_eq] at h;have h1:(x2:Int)≤255:=h.2;omega
  obtain⟨x3, rfl⟩:∃k:Nat, x3=k:=⟨x3.toNat, by have h:=wz1 x3 (by simp);simp only[Lit.wf, Bool.and_eq_true, decide_eq_true_eq] at h;have h1:(0:Int)≤x3:=h.1;omega⟩;have wbx3:x3<256:=by have h:=wz1 x3 (by simp);simp only[Lit.wf, Bool.and_eq_true, decide_eq_true_eq] at h;have h1:(x3:Int)≤255:=h.2;omega
  obtain⟨x4, rfl⟩:∃k:Nat, x4=k:=⟨x4.toNat, by have h:=wz1 x4 (by simp);simp only[Lit.wf, Bool.and_eq_true, decide_eq_true_eq] at h;have h1:(0:Int)≤x4:=h.1;omega⟩;have wbx4:x4<256:=by have h:=wz1 x4 (by simp);simp only[Lit.wf, Bool.and_eq_true, decide_eq_true_eq] at h;have h1:(x4:Int)≤255:=h.2;omega
  obtain⟨x5, rfl⟩:∃k:Nat, x5=k:=⟨x5.toNat, by have h:=wz1 x5 (by simp);simp only[Lit.wf, Bool.and_eq_true, decide_eq_true_eq] at h;have h1:(0:Int)≤x5:=h.1;omega⟩;have wbx5:x5<256:=by have h:=wz1 x5 (by simp);simp only[Lit.wf, Bool.and_eq_true, decide_eq_true_eq] at h;have h1:(x5:Int)≤255:=h.2;omega
  clear hA0 hval0 hsz0;refine(Zh1 A n cap l c S m cS es zs AP P cP P0 AD D cD L x0 x1 x2 x3 x4 x5 W hnc hl hr hc hes hzs hre hex hpl hrp hpi hdl hrd hu wbx0 wbx1 wbx2 wbx3 wbx4 wbx5).mono fun e W' ⟨he, bel⟩=>?_
  subst he;exact⟨_, rfl, _, _, _, [], _, [], hW', trodAll_mk1 (shut_bool Tryz.underlying4 _), (trodAll_cons_mk (Below.trod laidOut (by kernel_rfl) (of_decide_eq_true (by kernel_rfl)) h0 bel lt0) (trodAll_cons_mk (Below.trod laidOut (by kernel_rfl) (of_decide_eq_true (by kernel_rfl)) h1 bel lt1) trodAll_mk0)), rfl, bel.frame _, fun h=>by cases h⟩

theorem over:Rows.topDividesRow.holds Tryz.pinned (OpenSpec.ofChange Rows.topDividesSpec):=
  OpenClaim.holds_of_wide_leaving 4 Tryz.f4 rfl rfl rfl rfl rfl rfl rfl ⟨rfl, rfl, rfl, rfl, rfl⟩ rfl rfl rfl rfl rfl (by kernel_rfl) Tryz.func4 (by kernel_rfl)
    (of_decide_eq_true (by kernel_rfl)) (by unfold Func.isWrapper;rw[if_neg (by decide+kernel)];exact⟨rfl, rfl⟩)
    (fun os started H enc _=>lifted os started H enc)

theorem proved:Rows.TopDividesSaid:=over
#print axioms proved
end Go.Proofs.YtkmaeipoaoikpaaGreat.topDivides
