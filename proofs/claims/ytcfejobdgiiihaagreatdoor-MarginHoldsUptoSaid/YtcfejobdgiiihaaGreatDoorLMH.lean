/- MarginHolds (17.7), in its second form: for every zonotope, claim, point and depth of bulk at most 1048576 the law answers true, and what was handed in reads as it did. Conditions: the second form's own bound. -/
import Derived.Test.YtcfejobdgiiihaaGreatDoorRows
import Derived.Test.YtcfejobdgiiihaaGreatDoorJ20
import Derived.Test.YtcfejobdgiiihaaGreatDoorJ26
import Derived.WalkKit
import Derived.ProofKit
import Derived.OpenShut
import Derived.ShutString
import Derived.ChangeOld
import Derived.Below
import Derived.SizedLaws
import Derived.JoinedCond
import Derived.Deep.CondSized
namespace Go.Proofs.YtcfejobdgiiihaaGreatDoor
namespace LMH
open Go.ChangeShapes Go.WideShapes Go.ChangeAt Go.RowKit
set_option linter.unusedVariables false
theorem own : ownKnob Tryz.prog.godebug = none := by kernel_rfl
theorem laidOut : laidOutB Tryz.prog = true := by kernel_rfl
theorem struct_fields {P : Program} {t : TypeId} (h : (shapeOf P t).isSome = true) : ∃ fs, P.underlying t = some (.struct fs) := by
  unfold shapeOf at h
  split at h
  · exact ⟨_, ‹_›⟩
  · cases h
set_option maxRecDepth 100000 in
theorem walk (z : Zn) (cs : List Value) (A AE AS : Option Addr) (a : List Nat) (e s : List Int) (c ce cs' base : Nat) (depth : Int) (w : World) (h : zRd.R w base z cs) (ha : f64.Row 47 w base A a) (he : i64.Row 3 w base AE e) (hs : i64.Row 3 w base AS s) (hal : a.length ≤ 1099511627776) (hel : e.length ≤ 17592186044416) (hsl : s.length ≤ 17592186044416) (hbase : base ≤ w.heap.size) :
    Calls Tryz.prog 5 #[.agg cs.toArray, .slice A a.length c, .slice AE e.length ce, .slice AS s.length cs', .int .i64 depth] w fun e w' => e = .returned (.bool true) ∧ Below w.heap.size w w' := by
  by_cases hf : fitsB z a = true
  · by_cases hd : depth < 0 ∨ 30 < depth
    · exact holds_early z cs A AE AS a e s c ce cs' base depth w h ha he hs hal hel hsl hbase hf (.inr hd)
    · cases hm : marginS z a with
      | none => exact holds_early z cs A AE AS a e s c ce cs' base depth w h ha he hs hal hel hsl hbase hf (.inl hm)
      | some m =>
        obtain ⟨d, rfl⟩ : ∃ d : Nat, depth = d := ⟨depth.toNat, by omega⟩
        exact holds_main z cs A AE AS a e s c ce cs' base d w h ha he hs hal hel hsl hbase z.N.toNat m (fits_facts hf) hf hm (by omega)
  · refine holds_fail z cs A AE AS a e s c ce cs' base depth w h ha he hs hal hel hsl hbase ?_
    rw [fits_real] at hf
    by_cases h1 : realB z = true
    · by_cases h2 : a.all fin = true
      · right; right
        intro h3
        rw [h1, h2, decide_eq_true h3] at hf
        exact hf rfl
      · exact .inr (.inl (by simpa using h2))
    · exact .inl (by simpa using h1)
set_option maxHeartbeats 2000000 in
set_option maxRecDepth 100000 in
theorem lifted (os : Os) (started : os.Started) (H : Type) (enc : TypeId × Value → H) (F : Stop.Interp) :
    ReturnsInHanded {} Tryz.checked os 5 .any ((Rows.OpenSpec.upto Rows.marginHoldsSpec).pre6 enc Tryz.prog Tryz.f5 Rows.marginHoldsUptoRow.domain false) (((Rows.OpenSpec.upto Rows.marginHoldsSpec).at F).post enc Tryz.prog Tryz.f5 false true false false) := by
  refine returnsInHanded_of_cond_sized (C := Tryz.checked) (s := Rows.OpenSpec.upto Rows.marginHoldsSpec) (k := Rows.uptoSmall) rfl own started (by kernel_rfl) Tryz.func5
    (OpenSpec.witness (enc := enc) (C := Tryz.checked) (s := Rows.OpenSpec.upto Rows.marginHoldsSpec) (k := Rows.uptoSmall) rfl false ⟨#[], #[.agg #[.int .i64 0, .slice none 0 0, .slice none 0 0, .slice none 0 0, .slice none 0 0, .bool false], .slice none 0 0, .slice none 0 0, .slice none 0 0, .int .i64 0], []⟩ 8 (by kernel_rfl) (by kernel_rfl) (by kernel_rfl)
      (x := ([.agg [.lit (.int .i64 0), .nil, .nil, .nil, .nil, .lit (.bool false)], .nil, .nil, .nil, .lit (.int .i64 0)], [], [])) (by kernel_rfl) rfl (by kernel_rfl)) ?_
  intro W base args ds gs before hval0 hW _ hk0 hsz0 _
  have hsz : (DataW.weightsEach Tryz.prog (Tryz.f5.params.toList ++ Rows.marginHoldsSpec.plain.varTypes Tryz.prog) (ds ++ gs)).all (· ≤ reachBytes) = true := hsz0
  have hval : ∀ (j : Nat) t v, Tryz.f5.params[j]? = some t → args[j]? = some v → Value.okWide Tryz.prog W .any base t v := hval0
  have hW' := hW
  obtain ⟨p, q, hA0, hV, rfl, hfz, hnd⟩ := hW
  have hA : DataW.TrodAll enc Tryz.prog W 0 (fun _ => true) true Tryz.f5.params.toList args.toList ds p := hA0
  rw [Tryz.params5] at hA hval hsz
  obtain ⟨v0, vs0, d0, ds0, p0, q0, hargs, rfl, rfl, h0, r0⟩ := trodAll_cons hA
  obtain ⟨v1, vs1, d1, ds1, p1, q1, rfl, rfl, rfl, h1, r1⟩ := trodAll_cons r0
  obtain ⟨v2, vs2, d2, ds2, p2, q2, rfl, rfl, rfl, h2, r2⟩ := trodAll_cons r1
  obtain ⟨v3, vs3, d3, ds3, p3, q3, rfl, rfl, rfl, h3, r3⟩ := trodAll_cons r2
  obtain ⟨v4, vs4, d4, ds4, p4, q4, rfl, rfl, rfl, h4, r4⟩ := trodAll_cons r3
  obtain ⟨rfl, rfl, rfl⟩ := trodAll_nil r4
  obtain rfl : args = #[v0, v1, v2, v3, v4] := by cases args; simp_all
  obtain ⟨rfl, rfl⟩ := trodVars_none hV
  have u1 : Tryz.prog.underlying 3 = some (.int .i64) := by kernel_rfl
  obtain ⟨k, rfl, rfl, rfl, wk⟩ := open_int u1 (hval 4 3 v4 rfl rfl) h4
  have hw0 : Wt Tryz.prog 42 d0 := Wt.arg hsz (j := 0) rfl rfl
  have hw1 : Wt Tryz.prog 22 d1 := Wt.arg hsz (j := 1) rfl rfl
  have hw2 : Wt Tryz.prog 40 d2 := Wt.arg hsz (j := 2) rfl rfl
  have hw3 : Wt Tryz.prog 40 d3 := Wt.arg hsz (j := 3) rfl rfl
  have hbk : Rows.uptoBulk d1 ≤ 1048576 := small_part hk0 d1 (by simp)
  have k0 := h0
  have k1 := h1
  have k2 := h2
  have k3 := h3
  have lt0 : ∀ x ∈ p0, x.block < W.heap.size := by obtain ⟨m, hm⟩ := k0; exact DataW.trod_lt m _ _ _ hm
  have lt1 : ∀ x ∈ p1, x.block < W.heap.size := by obtain ⟨m, hm⟩ := k1; exact DataW.trod_lt m _ _ _ hm
  have lt2 : ∀ x ∈ p2, x.block < W.heap.size := by obtain ⟨m, hm⟩ := k2; exact DataW.trod_lt m _ _ _ hm
  have lt3 : ∀ x ∈ p3, x.block < W.heap.size := by obtain ⟨m, hm⟩ := k3; exact DataW.trod_lt m _ _ _ hm
  obtain ⟨fs, hus⟩ := struct_fields (P := Tryz.prog) (t := 42) (by kernel_rfl)
  obtain ⟨cs, rfl, hcs⟩ := okWide_struct hus (hval 0 42 v0 rfl rfl)
  obtain ⟨fuel, hf⟩ := h0
  obtain ⟨z, hz⟩ := opens_zn enc W fuel cs.toList _ (by simpa [Value.cells] using hf) hw0
  obtain ⟨fuel1, hf1⟩ := h1
  obtain ⟨a, hcl, hc1, _⟩ := opensB_f enc W fuel1 v1.cells.toList _ (by simpa using hf1) hw1
  obtain ⟨⟨A, c, hcv, hcc, hrow⟩, hcln⟩ := hcl
  obtain ⟨A', n', c', rfl⟩ := okWide_slice (by kernel_rfl : Tryz.prog.underlying 22 = some (.slice 47)) (hval 1 22 v1 rfl rfl)
  obtain ⟨rfl, rfl, rfl⟩ : A' = A ∧ n' = a.length ∧ c' = c := by simpa [Value.cells] using hcv
  simp only at hc1
  obtain ⟨fuel2, hf2⟩ := h2
  obtain ⟨e, ⟨⟨AE, ce, hev, hec, herow⟩, heln⟩⟩ := opens_i enc W fuel2 v2.cells.toList _ (by simpa using hf2) hw2
  obtain ⟨AE', ne', ce', rfl⟩ := okWide_slice (by kernel_rfl : Tryz.prog.underlying 40 = some (.slice 3)) (hval 2 40 v2 rfl rfl)
  obtain ⟨rfl, rfl, rfl⟩ : AE' = AE ∧ ne' = e.length ∧ ce' = ce := by simpa [Value.cells] using hev
  obtain ⟨fuel3, hf3⟩ := h3
  obtain ⟨s, ⟨⟨AS, cs2, hsv, hsc, hsrow⟩, hsln⟩⟩ := opens_i enc W fuel3 v3.cells.toList _ (by simpa using hf3) hw3
  obtain ⟨AS', ns', cs2', rfl⟩ := okWide_slice (by kernel_rfl : Tryz.prog.underlying 40 = some (.slice 3)) (hval 3 40 v3 rfl rfl)
  obtain ⟨rfl, rfl, rfl⟩ : AS' = AS ∧ ns' = s.length ∧ cs2' = cs2 := by simpa [Value.cells] using hsv
  clear hA0 hval0 hsz0 hsz
  have hwalk := walk z cs.toList A' AE' AS' a e s c' ce' cs2' W.heap.size k W hz hrow herow hsrow (by omega) heln hsln (Nat.le_refl _)
  rw [Array.toArray_toList] at hwalk
  refine hwalk.mono fun e W' ⟨he, bel⟩ => ?_
  subst he
  exact ⟨_, rfl, ⟨_, _, _, [], _, [], hW', trodAll_mk1 (shut_bool (by kernel_rfl : Tryz.prog.underlying 4 = some .bool) _), (trodAll_cons_mk (Below.trod laidOut (by kernel_rfl) (of_decide_eq_true (by kernel_rfl)) k0 bel lt0) (trodAll_cons_mk (Below.trod laidOut (by kernel_rfl) (of_decide_eq_true (by kernel_rfl)) k1 bel lt1) (trodAll_cons_mk (Below.trod laidOut (by kernel_rfl) (of_decide_eq_true (by kernel_rfl)) k2 bel lt2) (trodAll_cons_mk (Below.trod laidOut (by kernel_rfl) (of_decide_eq_true (by kernel_rfl)) k3 bel lt3) (trodAll_cons_mk (shut_int u1 wk) trodAll_mk0))))), rfl, bel.frame _, fun h => by cases h⟩⟩
end LMH
theorem marginHolds_holds : Rows.MarginHoldsUptoSaid :=
  OpenClaim.holds_of_cond 5 Tryz.f5 rfl rfl rfl rfl rfl rfl rfl ⟨rfl, rfl, rfl, rfl, rfl⟩ rfl rfl rfl rfl rfl (by kernel_rfl) Tryz.func5 (by kernel_rfl)
    (of_decide_eq_true (by kernel_rfl)) (by unfold Func.isWrapper; first | (rw [if_pos (by decide +kernel)]; kernel_rfl) | (rw [if_neg (by decide +kernel)]; exact ⟨rfl, rfl⟩))
    (fun os started H enc _ F => LMH.lifted os started H enc F)
#print axioms marginHolds_holds
end Go.Proofs.YtcfejobdgiiihaaGreatDoor
