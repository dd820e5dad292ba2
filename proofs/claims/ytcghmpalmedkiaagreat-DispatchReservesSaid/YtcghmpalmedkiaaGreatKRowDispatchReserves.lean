/-
  DispatchReserves: for every input the law returns true, and each argument reads behind the call as it read before.
-/
import Derived.Test.YtcghmpalmedkiaaGreatKWn7
import Derived.Test.YtcghmpalmedkiaaGreatKWnRd
import Derived.Test.YtcghmpalmedkiaaGreatKAiOk
import Derived.Test.YtcghmpalmedkiaaGreatKPlRes
import Derived.Test.YtcghmpalmedkiaaGreatRows
import Derived.WalkKit
import Derived.ProofKit
import Derived.OpenShut
import Derived.ShutString
import Derived.ChangeOld
import Derived.Below
namespace Go.Proofs.YtcghmpalmedkiaaGreat.lawDispatchReserves
open Go.ChangeShapes Go.WideShapes Go.ChangeAt Go.RowKit Go.AI
open Go.ChangeMaps (open_string shut_string)
set_option linter.unusedVariables false
set_option linter.unusedSimpArgs false
theorem own : ownKnob Tryz.prog.godebug = none := by kernel_rfl
theorem laidOut : laidOutB Tryz.prog = true := by kernel_rfl
set_option maxRecDepth 100000 in
theorem lifted (os : Os) (started : os.Started) (H : Type) (enc : TypeId × Value → H) :
    ReturnsInHanded {} Tryz.checked os 3 .any (Rows.dispatchReservesSpec.pre6 enc Tryz.prog Tryz.f3 Rows.dispatchReservesRow.domain false) (Rows.dispatchReservesSpec.post enc Tryz.prog Tryz.f3 false true false false) := by
  refine returnsInHanded_of_change (C := Tryz.checked) own started (by kernel_rfl) Tryz.func3
    (ChangeSpec.witness6 (enc := enc) (C := Tryz.checked) false ⟨#[], #[.agg #[.int .i64 0, .int .i64 0, .slice none 0 0], .agg #[.int .i64 0, .int .i64 0, .int .i64 0, .slice none 0 0], .agg #[.slice none 0 0, .int .i64 0]], []⟩ 8 (by kernel_rfl) (by kernel_rfl) (by kernel_rfl) (by kernel_rfl)) ?_
  intro W base args ds gs before hval0 hW hcnd _
  have hval : ∀ (j : Nat) t v, Tryz.f3.params[j]? = some t → args[j]? = some v → Value.okWide Tryz.prog W .any base t v := hval0
  have hW' := hW
  obtain ⟨p, q, hA0, hV, rfl, hfz, hnd⟩ := hW
  have hA : DataW.TrodAll enc Tryz.prog W 0 (fun _ => true) true Tryz.f3.params.toList args.toList ds p := hA0
  rw [Tryz.params3] at hA hval
  obtain ⟨v0, vs0, d0, ds0, p0, q0, hargs, rfl, rfl, h0, r0⟩ := trodAll_cons hA
  obtain ⟨v1, vs1, d1, ds1, p1, q1, rfl, rfl, rfl, h1, r1⟩ := trodAll_cons r0
  obtain ⟨v2, vs2, d2, ds2, p2, q2, rfl, rfl, rfl, h2, r2⟩ := trodAll_cons r1
  obtain ⟨rfl, rfl, rfl⟩ := trodAll_nil r2
  obtain rfl : args = #[v0, v1, v2] := by cases args; simp_all
  obtain ⟨rfl, rfl⟩ := trodVars_none hV
  have lt0 : ∀ x ∈ p0, x.block < W.heap.size := by obtain ⟨m, hm⟩ := h0; exact DataW.trod_lt m _ _ _ hm
  have k0 := arg_cells (n := 9) (l := [.p (.int .i64), .p (.int .i64), .sl (Rd.ks DispatchMode)]) (by kernel_rfl) h0
  obtain ⟨cs0, rfl, e0⟩ := agg_cells (hval 0 24 v0 rfl rfl) (by kernel_rfl)
  rw [e0] at k0
  obtain ⟨cs0⟩ := cs0
  obtain ⟨yx1, ysx1, esx1, ax1, k0⟩ := k0.head
  obtain ⟨yx2, ysx2, esx2, ax2, k0⟩ := k0.head
  obtain ⟨yx3, ysx3, esx3, ax3, k0⟩ := k0.head
  have k0 := k0.tail0
  have ea0 : cs0 = [yx1, yx2, yx3] := by rw [show cs0 = _ from esx1, esx2, esx3, k0]
  clear e0
  subst ea0
  obtain ⟨x1, rfl, bx1⟩ := ax1
  obtain ⟨x2, rfl, bx2⟩ := ax2
  obtain ⟨x3, gx3, bx3, mx3, ix3, ex3⟩ := list_open (α := DispatchMode) ax3
  have lt1 : ∀ x ∈ p1, x.block < W.heap.size := by obtain ⟨m, hm⟩ := h1; exact DataW.trod_lt m _ _ _ hm
  have k1 := arg_cells (n := 9) (l := [.p (.int .i64), .p (.int .i64), .p (.int .i64), .sl (Rd.ks DispatchHour)]) (by kernel_rfl) h1
  obtain ⟨cs1, rfl, e1⟩ := agg_cells (hval 1 27 v1 rfl rfl) (by kernel_rfl)
  rw [e1] at k1
  obtain ⟨cs1⟩ := cs1
  obtain ⟨yx4, ysx4, esx4, ax4, k1⟩ := k1.head
  obtain ⟨yx5, ysx5, esx5, ax5, k1⟩ := k1.head
  obtain ⟨yx6, ysx6, esx6, ax6, k1⟩ := k1.head
  obtain ⟨yx7, ysx7, esx7, ax7, k1⟩ := k1.head
  have k1 := k1.tail0
  have ea1 : cs1 = [yx4, yx5, yx6, yx7] := by rw [show cs1 = _ from esx4, esx5, esx6, esx7, k1]
  clear e1
  subst ea1
  obtain ⟨x4, rfl, bx4⟩ := ax4
  obtain ⟨x5, rfl, bx5⟩ := ax5
  obtain ⟨x6, rfl, bx6⟩ := ax6
  obtain ⟨x7, gx7, bx7, mx7, ix7, ex7⟩ := list_open (α := DispatchHour) ax7
  have lt2 : ∀ x ∈ p2, x.block < W.heap.size := by obtain ⟨m, hm⟩ := h2; exact DataW.trod_lt m _ _ _ hm
  have k2 := arg_cells (n := 9) (l := [.sl (Rd.ks Int), .p (.int .i64)]) (by kernel_rfl) h2
  obtain ⟨cs2, rfl, e2⟩ := agg_cells (hval 2 30 v2 rfl rfl) (by kernel_rfl)
  rw [e2] at k2
  obtain ⟨cs2⟩ := cs2
  obtain ⟨yx8, ysx8, esx8, ax8, k2⟩ := k2.head
  obtain ⟨yx9, ysx9, esx9, ax9, k2⟩ := k2.head
  have k2 := k2.tail0
  have ea2 : cs2 = [yx8, yx9] := by rw [show cs2 = _ from esx8, esx9, k2]
  clear e2
  subst ea2
  obtain ⟨x8, gx8, bx8, mx8, ix8, ex8⟩ := list_open (α := Int) ax8
  obtain ⟨x9, rfl, bx9⟩ := ax9
  have hF := plainDispatchReserves x1 x2 x4 x5 x6 x9 x3 x7 x8 
  obtain ⟨N, hN⟩ := c3_0 false false false x1 x2 x4 x5 x6 x9 x3 x7 x8 true hF rfl
  have hrun := acall_sound tabOk follows (hN N (Nat.le_refl _))
  have hs := rows_SR (C := CR Tryz.prog) (gs := [(gx3, rowC x3), (gx7, rowC x7), (gx8, rowC x8)]) (by simp only [List.mem_cons, List.not_mem_nil, or_false]; rintro p h; rcases h with rfl | rfl | rfl <;> assumption)
  refine (run_below hrun (fun a => ?_) (xs := [_, _, _]) (.cons _ _ _ _ (.agg _ _ (.cons _ _ _ _ (.int _ _) (.cons _ _ _ _ (.int _ _) (.cons _ _ _ _ (ex3 _ 0 rfl (by show (0 : Nat) < 3; decide)) .nil)))) (.cons _ _ _ _ (.agg _ _ (.cons _ _ _ _ (.int _ _) (.cons _ _ _ _ (.int _ _) (.cons _ _ _ _ (.int _ _) (.cons _ _ _ _ (ex7 _ 1 rfl (by show (1 : Nat) < 3; decide)) .nil))))) (.cons _ _ _ _ (.agg _ _ (.cons _ _ _ _ (ex8 _ 2 rfl (by show (2 : Nat) < 3; decide)) (.cons _ _ _ _ (.int _ _) .nil))) .nil))) hs).mono fun e W' ⟨⟨x, ρ', he, hv⟩, bel⟩ => ?_
  · exact ro_rows [rowC x3, rowC x7, rowC x8] a
  · obtain rfl : x = .bool true := by cases hv; rfl
    subst he
    exact ⟨_, rfl, _, _, _, [], _, [], hW', trodAll_mk1 (shut_bool Tryz.underlying4 _), (trodAll_cons_mk (Below.trod laidOut (by kernel_rfl) (of_decide_eq_true (by kernel_rfl)) h0 bel lt0) (trodAll_cons_mk (Below.trod laidOut (by kernel_rfl) (of_decide_eq_true (by kernel_rfl)) h1 bel lt1) (trodAll_cons_mk (Below.trod laidOut (by kernel_rfl) (of_decide_eq_true (by kernel_rfl)) h2 bel lt2) trodAll_mk0))), rfl, bel.frame _, fun h => by cases h⟩
theorem over : Rows.dispatchReservesRow.holds Tryz.pinned (OpenSpec.ofChange Rows.dispatchReservesSpec) :=
  OpenClaim.holds_of_wide 3 Tryz.f3 rfl rfl rfl rfl rfl rfl rfl ⟨rfl, rfl, rfl, rfl, rfl⟩ rfl rfl rfl rfl rfl (by kernel_rfl) Tryz.func3 (by kernel_rfl)
    (of_decide_eq_true (by kernel_rfl)) (by unfold Func.isWrapper; first | (rw [if_pos (by decide +kernel)]; kernel_rfl) | (rw [if_neg (by decide +kernel)]; exact ⟨rfl, rfl⟩))
    (fun os started H enc _ => lifted os started H enc)
/-- THE STATEMENT -/
theorem proved : Rows.DispatchReservesSaid := over
#print axioms proved
end Go.Proofs.YtcghmpalmedkiaaGreat.lawDispatchReserves
