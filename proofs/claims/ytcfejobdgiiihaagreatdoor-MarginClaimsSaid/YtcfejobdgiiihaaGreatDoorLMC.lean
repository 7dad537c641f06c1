/- MarginClaims (17.1): for every question and every number of outputs the law answers true, and what was handed in reads as it did. Conditions: the row's own (calm; timePasses). -/
import Derived.Test.YtcfejobdgiiihaaGreatDoorRows
import Derived.Test.YtcfejobdgiiihaaGreatDoorJ20
import Derived.WalkKit
import Derived.ProofKit
import Derived.OpenShut
import Derived.ShutString
import Derived.ChangeOld
import Derived.Below
import Derived.SizedLaws
import Derived.Clock
namespace Go.Proofs.YtcfejobdgiiihaaGreatDoor
namespace LMC
open Go.ChangeShapes Go.WideShapes Go.ChangeAt Go.RowKit
set_option linter.unusedVariables false
theorem own : ownKnob Tryz.prog.godebug = none := by kernel_rfl
theorem laidOut : laidOutB Tryz.prog = true := by kernel_rfl
set_option maxRecDepth 100000 in
theorem walk (p : Pr) (cs : List Value) (m : Int) (w : World) (h : prRd.R w w.heap.size p cs) :
    Calls Tryz.prog 3 #[.agg cs.toArray, .int .i64 m] w fun e w' => e = .returned (.bool true) ∧ Below w.heap.size w w' := by
  by_cases hL : p.L.length ≤ 300
  · exact claims_law p cs m w w.heap.size h hL (Nat.le_refl _)
  · exact claims_law_big p cs m w w.heap.size h (by omega)
set_option maxRecDepth 100000 in
theorem lifted (os : Os) (started : os.Started) (H : Type) (enc : TypeId × Value → H) (F : Stop.Interp) :
    ReturnsInHanded { calm := true } Tryz.checked os 3 .any (fun w args => (Rows.marginClaimsSpec.pre enc Tryz.prog Tryz.f3 [] false w args ∧ True) ∧ sizedMet enc Tryz.prog Tryz.f3 (OpenSpec.ofChange Rows.marginClaimsSpec) false w args) ((OpenSpec.ofChange Rows.marginClaimsSpec).postWith enc Tryz.prog Tryz.f3 F (outsideKept [.timePasses]) false true false) := by
  refine Clock.returns_of_change (C := Tryz.checked) (X := fun _ _ => True) (fun _ _ _ _ h => h) own started (by kernel_rfl) Tryz.func3
    (Clock.witness (enc := enc) (C := Tryz.checked) ⟨#[], #[.agg #[.slice none 0 0, .slice none 0 0, .int .i64 0, .slice none 0 0, .int .i64 0, .int .i64 0, .int .i64 0], .int .i64 0], []⟩ 8 (by kernel_rfl) (by kernel_rfl) (by kernel_rfl) (by kernel_rfl)) ?_
  intro W base args ds gs before hval0 hW hcnd hsz0 _ _
  have hsz : (DataW.weightsEach Tryz.prog (Tryz.f3.params.toList ++ Rows.marginClaimsSpec.plain.varTypes Tryz.prog) (ds ++ gs)).all (· ≤ reachBytes) = true := hsz0
  have hval : ∀ (j : Nat) t v, Tryz.f3.params[j]? = some t → args[j]? = some v → Value.okWide Tryz.prog W .any base t v := hval0
  have hW' := hW
  obtain ⟨p, q, hA0, hV, rfl, hfz, hnd⟩ := hW
  have hA : DataW.TrodAll enc Tryz.prog W 0 (fun _ => true) true Tryz.f3.params.toList args.toList ds p := hA0
  rw [Tryz.params3] at hA hval hsz
  obtain ⟨v0, vs0, d0, ds0, p0, q0, hargs, rfl, rfl, h0, r0⟩ := trodAll_cons hA
  obtain ⟨v1, vs1, d1, ds1, p1, q1, rfl, rfl, rfl, h1, r1⟩ := trodAll_cons r0
  obtain ⟨rfl, rfl, rfl⟩ := trodAll_nil r1
  obtain rfl : args = #[v0, v1] := by cases args; simp_all
  obtain ⟨rfl, rfl⟩ := trodVars_none hV
  have u1 : Tryz.prog.underlying 3 = some (.int .i64) := by kernel_rfl
  obtain ⟨m, rfl, rfl, rfl, wm⟩ := open_int u1 (hval 1 3 v1 rfl rfl) h1
  have hw0 : Wt Tryz.prog 25 d0 := Wt.arg hsz (j := 0) rfl rfl
  have k0 := h0
  have lt0 : ∀ x ∈ p0, x.block < W.heap.size := by obtain ⟨m, hm⟩ := k0; exact DataW.trod_lt m _ _ _ hm
  obtain ⟨fs, hus⟩ : ∃ fs, Tryz.prog.underlying 25 = some (.struct fs) := by
    have : shapeOf Tryz.prog 25 ≠ none := by
      have : (shapeOf Tryz.prog 25).isSome = true := by kernel_rfl
      intro h; rw [h] at this; cases this
    unfold shapeOf at this
    split at this
    · exact ⟨_, ‹_›⟩
    · exact absurd rfl this
  obtain ⟨cs, rfl, hcs⟩ := okWide_struct hus (hval 0 25 v0 rfl rfl)
  obtain ⟨fuel, hf⟩ := h0
  obtain ⟨pr, hpr⟩ := opens_pr enc W fuel cs.toList _ (by simpa [Value.cells] using hf) hw0
  clear hA0 hval0 hsz0 hsz
  have hwalk := walk pr cs.toList m W hpr
  rw [Array.toArray_toList] at hwalk
  refine hwalk.mono fun e W' ⟨he, bel⟩ => ?_
  subst he
  have bel2 : Below W.heap.size W { W' with os := W.os } := ⟨rfl, bel.tape, bel.output, bel.size, bel.block⟩
  refine ⟨_, rfl, ⟨_, _, _, [], _, [], hW', trodAll_mk1 (shut_bool (by kernel_rfl : Tryz.prog.underlying 4 = some .bool) _), (trodAll_cons_mk (Below.trod laidOut (by kernel_rfl) (of_decide_eq_true (by kernel_rfl)) k0 bel2 lt0) (trodAll_cons_mk (shut_int u1 wm) trodAll_mk0)), rfl, bel2.frame _, fun h => by cases h⟩, ?_⟩
  rw [bel.os]; exact Clock.Later.refl _
theorem over : Rows.marginClaimsRow.holds Tryz.pinned (OpenSpec.ofChange Rows.marginClaimsSpec) :=
  Clock.holds_of_wide_time 3 Tryz.f3 rfl rfl rfl rfl rfl rfl rfl ⟨rfl, rfl, rfl, rfl, rfl⟩ rfl rfl rfl rfl rfl (by kernel_rfl) Tryz.func3 (by kernel_rfl)
    (of_decide_eq_true (by kernel_rfl)) (by unfold Func.isWrapper; first | (rw [if_pos (by decide +kernel)]; kernel_rfl) | (rw [if_neg (by decide +kernel)]; exact ⟨rfl, rfl⟩))
    (fun os started H enc _ F => by rw [Clock.pre_unlisted (c := Rows.marginClaimsRow) rfl]; exact lifted os started H enc F)
end LMC
theorem marginClaims_holds : Rows.MarginClaimsSaid := LMC.over
#print axioms marginClaims_holds
end Go.Proofs.YtcfejobdgiiihaaGreatDoor
