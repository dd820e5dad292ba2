/-
  WaterKept: for every input the law returns true, and each argument reads behind the call as it read before.
-/
import Derived.Test.YtfglifekecijjaaEWn20
import Derived.Test.YtfglifekecijjaaEWnRd
import Derived.Test.YtfglifekecijjaaEAiOk
import Derived.Test.YtfglifekecijjaaEPlKept
import Derived.Test.YtfglifekecijjaaRows
import Derived.WalkKit
import Derived.ProofKit
import Derived.OpenShut
import Derived.ShutString
import Derived.ChangeOld
import Derived.Below
namespace Go.Proofs.Ytfglifekecijjaa.lawWaterKept
open Go.ChangeShapes Go.WideShapes Go.ChangeAt Go.RowKit Go.AI
open Go.ChangeMaps (open_string shut_string)
set_option linter.unusedVariables false
set_option linter.unusedSimpArgs false
theorem own : ownKnob Try.prog.godebug = none := by kernel_rfl
theorem laidOut : laidOutB Try.prog = true := by kernel_rfl
set_option maxRecDepth 100000 in
theorem lifted (os : Os) (started : os.Started) (H : Type) (enc : TypeId × Value → H) :
    ReturnsInHanded {} Try.checked os 6 .any (Rows.waterKeptSpec.pre6 enc Try.prog Try.f6 Rows.waterKeptRow.domain false) (Rows.waterKeptSpec.post enc Try.prog Try.f6 false true false false) := by
  refine returnsInHanded_of_change (C := Try.checked) own started (by kernel_rfl) Try.func6
    (ChangeSpec.witness6 (enc := enc) (C := Try.checked) false ⟨#[], #[.agg #[.slice none 0 0, .slice none 0 0], .agg #[.int .i64 0, .int .i64 0]], []⟩ 8 (by kernel_rfl) (by kernel_rfl) (by kernel_rfl) (by kernel_rfl)) ?_
  intro W base args ds gs before hval0 hW hcnd _
  have hval : ∀ (j : Nat) t v, Try.f6.params[j]? = some t → args[j]? = some v → Value.okWide Try.prog W .any base t v := hval0
  have hW' := hW
  obtain ⟨p, q, hA0, hV, rfl, hfz, hnd⟩ := hW
  have hA : DataW.TrodAll enc Try.prog W 0 (fun _ => true) true Try.f6.params.toList args.toList ds p := hA0
  rw [Try.params6] at hA hval
  obtain ⟨v0, vs0, d0, ds0, p0, q0, hargs, rfl, rfl, h0, r0⟩ := trodAll_cons hA
  obtain ⟨v1, vs1, d1, ds1, p1, q1, rfl, rfl, rfl, h1, r1⟩ := trodAll_cons r0
  obtain ⟨rfl, rfl, rfl⟩ := trodAll_nil r1
  obtain rfl : args = #[v0, v1] := by cases args; simp_all
  obtain ⟨rfl, rfl⟩ := trodVars_none hV
  have lt0 : ∀ x ∈ p0, x.block < W.heap.size := by obtain ⟨m, hm⟩ := h0; exact DataW.trod_lt m _ _ _ hm
  have k0 := arg_cells (n := 9) (l := [.sl (Rd.ks WaterNode), .sl (Rd.ks WaterConduit)]) (by kernel_rfl) h0
  obtain ⟨cs0, rfl, e0⟩ := agg_cells (hval 0 25 v0 rfl rfl) (by kernel_rfl)
  rw [e0] at k0
  obtain ⟨cs0⟩ := cs0
  obtain ⟨yx1, ysx1, esx1, ax1, k0⟩ := k0.head
  obtain ⟨yx2, ysx2, esx2, ax2, k0⟩ := k0.head
  have k0 := k0.tail0
  have ea0 : cs0 = [yx1, yx2] := by rw [show cs0 = _ from esx1, esx2, k0]
  clear e0
  subst ea0
  obtain ⟨x1, gx1, bx1, mx1, ix1, ex1⟩ := list_open (α := WaterNode) ax1
  obtain ⟨x2, gx2, bx2, mx2, ix2, ex2⟩ := list_open (α := WaterConduit) ax2
  have lt1 : ∀ x ∈ p1, x.block < W.heap.size := by obtain ⟨m, hm⟩ := h1; exact DataW.trod_lt m _ _ _ hm
  have k1 := arg_cells (n := 9) (l := [.p (.int .i64), .p (.int .i64)]) (by kernel_rfl) h1
  obtain ⟨cs1, rfl, e1⟩ := agg_cells (hval 1 40 v1 rfl rfl) (by kernel_rfl)
  rw [e1] at k1
  obtain ⟨cs1⟩ := cs1
  obtain ⟨yx3, ysx3, esx3, ax3, k1⟩ := k1.head
  obtain ⟨yx4, ysx4, esx4, ax4, k1⟩ := k1.head
  have k1 := k1.tail0
  have ea1 : cs1 = [yx3, yx4] := by rw [show cs1 = _ from esx3, esx4, k1]
  clear e1
  subst ea1
  obtain ⟨x3, rfl, bx3⟩ := ax3
  obtain ⟨x4, rfl, bx4⟩ := ax4
  have hF := plainWaterKept x3 x4 x1 x2 
  obtain ⟨N, hN⟩ := c6_0 false false x3 x4 x1 x2 true hF
  have hrun := acall_sound tabOk follows (hN N (Nat.le_refl _))
  have hs := rows_SR (C := CR Try.prog) (gs := [(gx1, rowC x1), (gx2, rowC x2)]) (by simp only [List.mem_cons, List.not_mem_nil, or_false]; rintro p h; rcases h with rfl | rfl <;> assumption)
  refine (run_below hrun (fun a => ?_) (xs := [_, _]) (.cons _ _ _ _ (.agg _ _ (.cons _ _ _ _ (ex1 _ 0 rfl (by show (0 : Nat) < 2; decide)) (.cons _ _ _ _ (ex2 _ 1 rfl (by show (1 : Nat) < 2; decide)) .nil))) (.cons _ _ _ _ (.agg _ _ (.cons _ _ _ _ (.int _ _) (.cons _ _ _ _ (.int _ _) .nil))) .nil)) hs).mono fun e W' ⟨⟨x, ρ', he, hv⟩, bel⟩ => ?_
  · exact ro_rows [rowC x1, rowC x2] a
  · obtain rfl : x = .bool true := by cases hv; rfl
    subst he
    exact ⟨_, rfl, _, _, _, [], _, [], hW', trodAll_mk1 (shut_bool Try.underlying4 _), (trodAll_cons_mk (Below.trod laidOut (by kernel_rfl) (of_decide_eq_true (by kernel_rfl)) h0 bel lt0) (trodAll_cons_mk (Below.trod laidOut (by kernel_rfl) (of_decide_eq_true (by kernel_rfl)) h1 bel lt1) trodAll_mk0)), rfl, bel.frame _, fun h => by cases h⟩
theorem over : Rows.waterKeptRow.holds Try.pinned (OpenSpec.ofChange Rows.waterKeptSpec) :=
  OpenClaim.holds_of_wide 6 Try.f6 rfl rfl rfl rfl rfl rfl rfl ⟨rfl, rfl, rfl, rfl, rfl⟩ rfl rfl rfl rfl rfl (by kernel_rfl) Try.func6 (by kernel_rfl)
    (of_decide_eq_true (by kernel_rfl)) (by unfold Func.isWrapper; first | (rw [if_pos (by decide +kernel)]; kernel_rfl) | (rw [if_neg (by decide +kernel)]; exact ⟨rfl, rfl⟩))
    (fun os started H enc _ => lifted os started H enc)
/-- THE STATEMENT -/
theorem proved : Rows.WaterKeptSaid := over
#print axioms proved
end Go.Proofs.Ytfglifekecijjaa.lawWaterKept
