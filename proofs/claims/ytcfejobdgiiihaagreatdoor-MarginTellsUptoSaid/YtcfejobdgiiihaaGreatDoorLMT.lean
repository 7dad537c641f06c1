/- MarginTells (17.2 to 17.4), in its second form: for every zonotope, claims and k of bulk at most 1048576 the law answers true, and what was handed in reads as it did. Conditions: the second form's own bound. -/
import Derived.Test.YtcfejobdgiiihaaGreatDoorRows
import Derived.Test.YtcfejobdgiiihaaGreatDoorJ20
import Derived.Test.YtcfejobdgiiihaaGreatDoorJ24
import Derived.WalkKit
import Derived.ProofKit
import Derived.OpenShut
import Derived.ShutString
import Derived.ChangeOld
import Derived.Below
import Derived.SizedLaws
import Derived.JoinedCond
import Derived.Deep.CondSized
namespace Go.Proofs.YtcfejobdgiiihaaGreatDoor
namespace LMT
open Go.ChangeShapes Go.WideShapes Go.ChangeAt Go.RowKit
set_option linter.unusedVariables false
theorem own : ownKnob Tryz.prog.godebug = none := by kernel_rfl
theorem laidOut : laidOutB Tryz.prog = true := by kernel_rfl
theorem struct_fields {P : Program} {t : TypeId} (h : (shapeOf P t).isSome = true) : ∃ fs, P.underlying t = some (.struct fs) := by
  unfold shapeOf at h
  split at h
  · exact ⟨_, ‹_›⟩
  · cases h
set_option maxHeartbeats 2000000 in
set_option maxRecDepth 100000 in
theorem lifted (os : Os) (started : os.Started) (H : Type) (enc : TypeId × Value → H) (F : Stop.Interp) :
    ReturnsInHanded {} Tryz.checked os 4 .any ((Rows.OpenSpec.upto Rows.marginTellsSpec).pre6 enc Tryz.prog Tryz.f4 Rows.marginTellsUptoRow.domain false) (((Rows.OpenSpec.upto Rows.marginTellsSpec).at F).post enc Tryz.prog Tryz.f4 false true false false) := by
  refine returnsInHanded_of_cond_sized (C := Tryz.checked) (s := Rows.OpenSpec.upto Rows.marginTellsSpec) (k := Rows.uptoSmall) rfl own started (by kernel_rfl) Tryz.func4
    (OpenSpec.witness (enc := enc) (C := Tryz.checked) (s := Rows.OpenSpec.upto Rows.marginTellsSpec) (k := Rows.uptoSmall) rfl false ⟨#[], #[.agg #[.int .i64 0, .slice none 0 0, .slice none 0 0, .slice none 0 0, .slice none 0 0, .bool false], .slice none 0 0, .int .i64 0], []⟩ 8 (by kernel_rfl) (by kernel_rfl) (by kernel_rfl)
      (x := ([.agg [.lit (.int .i64 0), .nil, .nil, .nil, .nil, .lit (.bool false)], .nil, .lit (.int .i64 0)], [], [])) (by kernel_rfl) rfl (by kernel_rfl)) ?_
  intro W base args ds gs before hval0 hW _ hk0 hsz0 _
  have hsz : (DataW.weightsEach Tryz.prog (Tryz.f4.params.toList ++ Rows.marginTellsSpec.plain.varTypes Tryz.prog) (ds ++ gs)).all (· ≤ reachBytes) = true := hsz0
  have hval : ∀ (j : Nat) t v, Tryz.f4.params[j]? = some t → args[j]? = some v → Value.okWide Tryz.prog W .any base t v := hval0
  have hW' := hW
  obtain ⟨p, q, hA0, hV, rfl, hfz, hnd⟩ := hW
  have hA : DataW.TrodAll enc Tryz.prog W 0 (fun _ => true) true Tryz.f4.params.toList args.toList ds p := hA0
  rw [Tryz.params4] at hA hval hsz
  obtain ⟨v0, vs0, d0, ds0, p0, q0, hargs, rfl, rfl, h0, r0⟩ := trodAll_cons hA
  obtain ⟨v1, vs1, d1, ds1, p1, q1, rfl, rfl, rfl, h1, r1⟩ := trodAll_cons r0
  obtain ⟨v2, vs2, d2, ds2, p2, q2, rfl, rfl, rfl, h2, r2⟩ := trodAll_cons r1
  obtain ⟨rfl, rfl, rfl⟩ := trodAll_nil r2
  obtain rfl : args = #[v0, v1, v2] := by cases args; simp_all
  obtain ⟨rfl, rfl⟩ := trodVars_none hV
  have u1 : Tryz.prog.underlying 3 = some (.int .i64) := by kernel_rfl
  obtain ⟨k, rfl, rfl, rfl, wk⟩ := open_int u1 (hval 2 3 v2 rfl rfl) h2
  have hw0 : Wt Tryz.prog 42 d0 := Wt.arg hsz (j := 0) rfl rfl
  have hw1 : Wt Tryz.prog 23 d1 := Wt.arg hsz (j := 1) rfl rfl
  have hbk : Rows.uptoBulk d1 ≤ 1048576 := small_part hk0 d1 (by simp)
  have k0 := h0
  have k1 := h1
  have lt0 : ∀ x ∈ p0, x.block < W.heap.size := by obtain ⟨m, hm⟩ := k0; exact DataW.trod_lt m _ _ _ hm
  have lt1 : ∀ x ∈ p1, x.block < W.heap.size := by obtain ⟨m, hm⟩ := k1; exact DataW.trod_lt m _ _ _ hm
  obtain ⟨fs, hus⟩ := struct_fields (P := Tryz.prog) (t := 42) (by kernel_rfl)
  obtain ⟨cs, rfl, hcs⟩ := okWide_struct hus (hval 0 42 v0 rfl rfl)
  obtain ⟨fuel, hf⟩ := h0
  obtain ⟨z, hz⟩ := opens_zn enc W fuel cs.toList _ (by simpa [Value.cells] using hf) hw0
  obtain ⟨fuel1, hf1⟩ := h1
  obtain ⟨claims, hcl, hc1, hc2⟩ := opensB_ff enc W fuel1 v1.cells.toList _ (by simpa using hf1) hw1
  obtain ⟨⟨A, c, hcv, hcc, hrow⟩, hcln⟩ := hcl
  obtain ⟨A', n', c', rfl⟩ := okWide_slice (by kernel_rfl : Tryz.prog.underlying 23 = some (.slice 22)) (hval 1 23 v1 rfl rfl)
  obtain ⟨rfl, rfl, rfl⟩ : A' = A ∧ n' = claims.length ∧ c' = c := by simpa [Value.cells] using hcv
  simp only at hc1 hc2
  clear hA0 hval0 hsz0 hsz
  have hwalk := tells_law z cs.toList A' claims claims.length c' W.heap.size k W hz rfl hrow (by omega) (fun i => by
    rw [List.getD_eq_getElem?_getD]
    cases hi : claims[i]? with
    | none => simp
    | some l => have := (hc2 i l hi).1; simp; omega) (Nat.le_refl _)
  rw [Array.toArray_toList] at hwalk
  refine hwalk.mono fun e W' ⟨he, bel⟩ => ?_
  subst he
  exact ⟨_, rfl, ⟨_, _, _, [], _, [], hW', trodAll_mk1 (shut_bool (by kernel_rfl : Tryz.prog.underlying 4 = some .bool) _), (trodAll_cons_mk (Below.trod laidOut (by kernel_rfl) (of_decide_eq_true (by kernel_rfl)) k0 bel lt0) (trodAll_cons_mk (Below.trod laidOut (by kernel_rfl) (of_decide_eq_true (by kernel_rfl)) k1 bel lt1) (trodAll_cons_mk (shut_int u1 wk) trodAll_mk0))), rfl, bel.frame _, fun h => by cases h⟩⟩
end LMT
theorem marginTells_holds : Rows.MarginTellsUptoSaid :=
  OpenClaim.holds_of_cond 4 Tryz.f4 rfl rfl rfl rfl rfl rfl rfl ⟨rfl, rfl, rfl, rfl, rfl⟩ rfl rfl rfl rfl rfl (by kernel_rfl) Tryz.func4 (by kernel_rfl)
    (of_decide_eq_true (by kernel_rfl)) (by unfold Func.isWrapper; first | (rw [if_pos (by decide +kernel)]; kernel_rfl) | (rw [if_neg (by decide +kernel)]; exact ⟨rfl, rfl⟩))
    (fun os started H enc _ F => LMT.lifted os started H enc F)
#print axioms marginTells_holds
end Go.Proofs.YtcfejobdgiiihaaGreatDoor
