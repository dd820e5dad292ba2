/-
  DispatchSums: for every input the law returns true, and each argument reads behind the call as it read before.
-/
import Derived.Test.YtcghmpalmedkiaaLWn4
import Derived.Test.YtcghmpalmedkiaaLWnRd
import Derived.Test.YtcghmpalmedkiaaLAiOk
import Derived.Test.YtcghmpalmedkiaaLPlSums
import Derived.Test.YtcghmpalmedkiaaRows
import Derived.WalkKit
import Derived.ProofKit
import Derived.OpenShut
import Derived.ShutString
import Derived.ChangeOld
import Derived.Below
namespace Go.Proofs.Ytcghmpalmedkiaa.lawDispatchSums
open Go.ChangeShapes Go.WideShapes Go.ChangeAt Go.RowKit Go.AI
open Go.ChangeMaps (open_string shut_string)
set_option linter.unusedVariables false
set_option linter.unusedSimpArgs false
theorem own : ownKnob Try.prog.godebug = none := by kernel_rfl
theorem laidOut : laidOutB Try.prog = true := by kernel_rfl
set_option maxRecDepth 100000 in
theorem lifted (os : Os) (started : os.Started) (H : Type) (enc : TypeId × Value → H) :
    ReturnsInHanded {} Try.checked os 4 .any (Rows.dispatchSumsSpec.pre6 enc Try.prog Try.f4 Rows.dispatchSumsRow.domain false) (Rows.dispatchSumsSpec.post enc Try.prog Try.f4 false true false false) := by
  refine returnsInHanded_of_change (C := Try.checked) own started (by kernel_rfl) Try.func4
    (ChangeSpec.witness6 (enc := enc) (C := Try.checked) false ⟨#[], #[.agg #[.int .i64 0, .int .i64 0], .slice none 0 0, .slice none 0 0], []⟩ 8 (by kernel_rfl) (by kernel_rfl) (by kernel_rfl) (by kernel_rfl)) ?_
  intro W base args ds gs before hval0 hW hcnd _
  have hval : ∀ (j : Nat) t v, Try.f4.params[j]? = some t → args[j]? = some v → Value.okWide Try.prog W .any base t v := hval0
  have hW' := hW
  obtain ⟨p, q, hA0, hV, rfl, hfz, hnd⟩ := hW
  have hA : DataW.TrodAll enc Try.prog W 0 (fun _ => true) true Try.f4.params.toList args.toList ds p := hA0
  rw [Try.params4] at hA hval
  obtain ⟨v0, vs0, d0, ds0, p0, q0, hargs, rfl, rfl, h0, r0⟩ := trodAll_cons hA
  obtain ⟨v1, vs1, d1, ds1, p1, q1, rfl, rfl, rfl, h1, r1⟩ := trodAll_cons r0
  obtain ⟨v2, vs2, d2, ds2, p2, q2, rfl, rfl, rfl, h2, r2⟩ := trodAll_cons r1
  obtain ⟨rfl, rfl, rfl⟩ := trodAll_nil r2
  obtain rfl : args = #[v0, v1, v2] := by cases args; simp_all
  obtain ⟨rfl, rfl⟩ := trodVars_none hV
  have lt0 : ∀ x ∈ p0, x.block < W.heap.size := by obtain ⟨m, hm⟩ := h0; exact DataW.trod_lt m _ _ _ hm
  have k0 := arg_cells (n := 9) (l := [.p (.int .i64), .p (.int .i64)]) (by kernel_rfl) h0
  obtain ⟨cs0, rfl, e0⟩ := agg_cells (hval 0 23 v0 rfl rfl) (by kernel_rfl)
  rw [e0] at k0
  obtain ⟨cs0⟩ := cs0
  obtain ⟨yx1, ysx1, esx1, ax1, k0⟩ := k0.head
  obtain ⟨yx2, ysx2, esx2, ax2, k0⟩ := k0.head
  have k0 := k0.tail0
  have ea0 : cs0 = [yx1, yx2] := by rw [show cs0 = _ from esx1, esx2, k0]
  clear e0
  subst ea0
  obtain ⟨x1, rfl, bx1⟩ := ax1
  obtain ⟨x2, rfl, bx2⟩ := ax2
  have lt1 : ∀ x ∈ p1, x.block < W.heap.size := by obtain ⟨m, hm⟩ := h1; exact DataW.trod_lt m _ _ _ hm
  have k1 := arg_cells (n := 9) (l := [.sl (Rd.ks Int)]) (by kernel_rfl) h1
  obtain ⟨Ax3, lx3, cx3, rfl⟩ := okWide_slice Try.underlying24 (hval 1 24 v1 rfl rfl)
  obtain ⟨x3, gx3, bx3, mx3, ix3, ex3⟩ := list_open (α := Int) (sl_cell k1)
  have lt2 : ∀ x ∈ p2, x.block < W.heap.size := by obtain ⟨m, hm⟩ := h2; exact DataW.trod_lt m _ _ _ hm
  have k2 := arg_cells (n := 9) (l := [.sl (Rd.ks Int)]) (by kernel_rfl) h2
  obtain ⟨Ax4, lx4, cx4, rfl⟩ := okWide_slice Try.underlying24 (hval 2 24 v2 rfl rfl)
  obtain ⟨x4, gx4, bx4, mx4, ix4, ex4⟩ := list_open (α := Int) (sl_cell k2)
  have hF := plainDispatchSums x1 x2 x3 x4 
  obtain ⟨N, hN⟩ := c4_0 false false x1 x2 x3 x4 true hF rfl
  have hrun := acall_sound tabOk follows (hN N (Nat.le_refl _))
  have hs := rows_SR (C := CR Try.prog) (gs := [(gx3, rowC x3), (gx4, rowC x4)]) (by simp only [List.mem_cons, List.not_mem_nil, or_false]; rintro p h; rcases h with rfl | rfl <;> assumption)
  refine (run_below hrun (fun a => ?_) (xs := [_, _, _]) (.cons _ _ _ _ (.agg _ _ (.cons _ _ _ _ (.int _ _) (.cons _ _ _ _ (.int _ _) .nil))) (.cons _ _ _ _ (ex3 _ 0 rfl (by show (0 : Nat) < 2; decide)) (.cons _ _ _ _ (ex4 _ 1 rfl (by show (1 : Nat) < 2; decide)) .nil))) hs).mono fun e W' ⟨⟨x, ρ', he, hv⟩, bel⟩ => ?_
  · exact ro_rows [rowC x3, rowC x4] a
  · obtain rfl : x = .bool true := by cases hv; rfl
    subst he
    exact ⟨_, rfl, _, _, _, [], _, [], hW', trodAll_mk1 (shut_bool Try.underlying4 _), (trodAll_cons_mk (Below.trod laidOut (by kernel_rfl) (of_decide_eq_true (by kernel_rfl)) h0 bel lt0) (trodAll_cons_mk (Below.trod laidOut (by kernel_rfl) (of_decide_eq_true (by kernel_rfl)) h1 bel lt1) (trodAll_cons_mk (Below.trod laidOut (by kernel_rfl) (of_decide_eq_true (by kernel_rfl)) h2 bel lt2) trodAll_mk0))), rfl, bel.frame _, fun h => by cases h⟩
theorem over : Rows.dispatchSumsRow.holds Try.pinned (OpenSpec.ofChange Rows.dispatchSumsSpec) :=
  OpenClaim.holds_of_wide 4 Try.f4 rfl rfl rfl rfl rfl rfl rfl ⟨rfl, rfl, rfl, rfl, rfl⟩ rfl rfl rfl rfl rfl (by kernel_rfl) Try.func4 (by kernel_rfl)
    (of_decide_eq_true (by kernel_rfl)) (by unfold Func.isWrapper; first | (rw [if_pos (by decide +kernel)]; kernel_rfl) | (rw [if_neg (by decide +kernel)]; exact ⟨rfl, rfl⟩))
    (fun os started H enc _ => lifted os started H enc)
/-- THE STATEMENT -/
theorem proved : Rows.DispatchSumsSaid := over
#print axioms proved
end Go.Proofs.Ytcghmpalmedkiaa.lawDispatchSums
