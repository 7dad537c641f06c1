import Derived.Test.YtikdhkmcdmnadaaGreatFmtKV1
set_option linter.unusedVariables false
set_option linter.unusedSimpArgs false
namespace Go.Proofs.YtikdhkmcdmnadaaGreatFmt
open Go.RowKit
attribute [local go_sem ↓] Go.wp_at_zero Go.wp_at_succ
@[local go_sem] theorem store_fltV (P : Program) (w : World) (a : Addr) (m : Mode) (k : FloatKind) (b : Nat) : (store a (.float k b) m).run P w = stored P w a (.float k b) m := run_store P w a _ m rfl

/-! ### span.ends, Make, Point, Has, Inside (printed by gen_v2.py) -/
def spV (s : Sp) : Value := .agg #[.float .f64 s.lo, .float .f64 s.hi, .bool s.bad]
def endS (lo : Nat) (ok : Bool) (hi : Nat) (is : Bool) : Sp := if ok && is then ⟨nrm lo, nrm hi, false⟩ else badS
def makeS (lo hi : Nat) : Sp := if fin lo && (fin hi && leF (nrm lo) (nrm hi)) then ⟨nrm lo, nrm hi, false⟩ else badS
theorem sp_zero (w : World) : Blk (w.alloc (.cells #[.float .f64 0, .float .f64 0, .bool false] 27)) w.heap.size 27 [.float .f64 0, .float .f64 0, .bool false] := Blk.new _ _ _
theorem sp_new (w : World) (lo hi : Nat) (b : Bool) : Blk (w.alloc (.cells #[.float .f64 lo, .float .f64 hi, .bool b] 27)) w.heap.size 27 [.float .f64 lo, .float .f64 hi, .bool b] := Blk.new _ _ _
set_option maxHeartbeats 1000000 in
set_option maxRecDepth 100000 in
theorem ends_calls (lo hi : Nat) (ok is : Bool) (hlo : ok = true → lo < 18446744073709551616 ∧ fin lo = true) (hhi : is = true → hi < 18446744073709551616 ∧ fin hi = true) (w : World) (hbad : BadC w) :
    Calls Tryz.prog 43 #[.float .f64 lo, .bool ok, .float .f64 hi, .bool is] w fun e w' => e = .returned (spV (endS lo ok hi is)) ∧ Below w.heap.size w w' := by
  have hB := below_new (Below.refl w.heap.size w) (.cells #[.float .f64 0, .float .f64 0, .bool false] 27)
  have HB := Lib.hid hB
  have HR := Lib.hid (sp_zero w)
  obtain ⟨c0, c1, c2⟩ := hbad.keep hB
  obtain ⟨⟨r0, r1, r2⟩, f0, f1, f2⟩ := three HR.out
  clear hB hbad
  cases ok
  · clear hlo hhi
    go_enter Tryz.func43, Tryz.ntmps43
    go_wp2
    have hb := ((HR.out.set 0 (.float .f64 0)).set 1 (.float .f64 0)).set 2 (.bool true)
    obtain ⟨⟨t0, t1, t2⟩, _⟩ := three hb
    refine bodyPost_ret (v := .agg #[.float .f64 0, .float .f64 0, .bool true]) (by simp [results, Tryz.results43, go_sem, t0, t1, t2]) rfl ⟨rfl, ?_⟩
    first | exact below_new (Below.refl _ _) _ | exact ((HB.out.setCell (p := ⟨w.heap.size, 0, none⟩) (Nat.le_refl _) _).setCell (p := ⟨w.heap.size, 1, none⟩) (Nat.le_refl _) _).setCell (p := ⟨w.heap.size, 2, none⟩) (Nat.le_refl _) _
  · cases is
    · clear hlo hhi
      go_enter Tryz.func43, Tryz.ntmps43
      go_wp2
      have hb := ((HR.out.set 0 (.float .f64 0)).set 1 (.float .f64 0)).set 2 (.bool true)
      obtain ⟨⟨t0, t1, t2⟩, _⟩ := three hb
      refine bodyPost_ret (v := .agg #[.float .f64 0, .float .f64 0, .bool true]) (by simp [results, Tryz.results43, go_sem, t0, t1, t2]) rfl ⟨rfl, ?_⟩
      first | exact below_new (Below.refl _ _) _ | exact ((HB.out.setCell (p := ⟨w.heap.size, 0, none⟩) (Nat.le_refl _) _).setCell (p := ⟨w.heap.size, 1, none⟩) (Nat.le_refl _) _).setCell (p := ⟨w.heap.size, 2, none⟩) (Nat.le_refl _) _
    · obtain ⟨l1, l2⟩ := hlo rfl
      obtain ⟨h1, h2⟩ := hhi rfl
      have ha := add0_fin 22 l1 l2
      have hb := add0_fin 22 h1 h2
      have HE : Hid (endS lo true hi true = ⟨nrm lo, nrm hi, false⟩) := by rw [Hid]; rfl
      rw [HE.out]
      obtain ⟨x, hx⟩ : ∃ x, nrm lo = x := ⟨_, rfl⟩
      obtain ⟨y, hy⟩ : ∃ x, nrm hi = x := ⟨_, rfl⟩
      rw [hx] at ha
      rw [hy] at hb
      rw [hx, hy]
      clear hlo hhi l1 l2 h1 h2 hx hy HE c0 c1 c2
      go_enter Tryz.func43, Tryz.ntmps43
      go_wp2
      clear ha hb
      have hb := ((HR.out.set 0 (.float .f64 x)).set 1 (.float .f64 y)).set 2 (.bool false)
      obtain ⟨⟨t0, t1, t2⟩, _⟩ := three hb
      refine bodyPost_ret (v := .agg #[.float .f64 x, .float .f64 y, .bool false]) (by simp [results, Tryz.results43, go_sem, t0, t1, t2]) rfl ⟨rfl, ?_⟩
      first | exact below_new (Below.refl _ _) _ | exact ((HB.out.setCell (p := ⟨w.heap.size, 0, none⟩) (Nat.le_refl _) _).setCell (p := ⟨w.heap.size, 1, none⟩) (Nat.le_refl _) _).setCell (p := ⟨w.heap.size, 2, none⟩) (Nat.le_refl _) _
set_option maxHeartbeats 1000000 in
set_option maxRecDepth 100000 in
theorem make_fin (lo hi : Nat) (hl : lo < 18446744073709551616) (hh : hi < 18446744073709551616) (fl : fin lo = true) (fh : fin hi = true) (w : World) (hbad : BadC w) :
    Calls Tryz.prog 6 #[.float .f64 lo, .float .f64 hi] w fun e w' => e = .returned (spV (makeS lo hi)) ∧ Below w.heap.size w w' := by
  have ha := add0_fin 22 hl fl
  have hb := add0_fin 22 hh fh
  obtain ⟨l1, l2⟩ := nrm_lt hl fl
  obtain ⟨h1, h2⟩ := nrm_lt hh fh
  have HG := Lib.hid (fun W => good_calls (nrm lo) (nrm hi) false l1 h1 W)
  obtain ⟨c, hc⟩ : ∃ c, leF (nrm lo) (nrm hi) = c := ⟨_, rfl⟩
  have hg : goodB (nrm lo) (nrm hi) false = c := by unfold goodB; rw [l2, h2, hc]; cases c <;> rfl
  have hm : makeS lo hi = if c then ⟨nrm lo, nrm hi, false⟩ else badS := by unfold makeS; rw [fl, fh, hc]; cases c <;> rfl
  rw [hg] at HG
  rw [hm]
  obtain ⟨x, hx⟩ : ∃ x, nrm lo = x := ⟨_, rfl⟩
  obtain ⟨y, hy⟩ : ∃ x, nrm hi = x := ⟨_, rfl⟩
  rw [hx] at ha HG
  rw [hy] at hb HG
  rw [hx, hy]
  have hB1 := below_new (Below.refl w.heap.size w) (.cells #[.float .f64 0, .float .f64 0, .bool false] 27)
  have hB2 := below_new hB1 (.cells #[.float .f64 x, .float .f64 y, .bool false] 27)
  have H2 := Lib.hid (And.intro ((sp_zero w).alloc (.cells #[.float .f64 x, .float .f64 y, .bool false] 27)) (And.intro (sp_new (w.alloc (.cells #[.float .f64 0, .float .f64 0, .bool false] 27)) x y false) (And.intro hB2 (hbad.keep hB2))))
  clear hl hh fl fh l1 l2 h1 h2 hc hg hm hx hy hB1 hB2 hbad
  go_enter Tryz.func6, Tryz.ntmps6
  go_wp2_with fail
  refine (HG.out _).mono ?_
  rintro e w1 ⟨rfl, hW⟩
  have H1 := Lib.hid (And.intro (H2.out.1.below' hW) (And.intro (H2.out.2.1.below' hW) (And.intro (below_next H2.out.2.2.1 hW) (H2.out.2.2.2.keep hW))))
  clear hW H2 ha hb
  have HR := Lib.hid H1.out.1
  have HB := Lib.hid H1.out.2.2.1
  obtain ⟨g0, g1, g2⟩ := H1.out.2.2.2
  obtain ⟨⟨r0, r1, r2⟩, f0, f1, f2⟩ := three HR.out
  have hs := H1.out.2.1
  simp only [World.size_alloc] at hs
  obtain ⟨⟨s0, s1, s2⟩, _⟩ := three hs
  clear hs H1
  cases c
  · go_wp2
    have hb := ((HR.out.set 0 (.float .f64 0)).set 1 (.float .f64 0)).set 2 (.bool true)
    obtain ⟨⟨t0, t1, t2⟩, _⟩ := three hb
    refine bodyPost_ret (v := .agg #[.float .f64 0, .float .f64 0, .bool true]) (by simp [results, Tryz.results6, go_sem, t0, t1, t2]) rfl ⟨rfl, ?_⟩
    first | exact below_new (Below.refl _ _) _ | exact ((HB.out.setCell (p := ⟨w.heap.size, 0, none⟩) (Nat.le_refl _) _).setCell (p := ⟨w.heap.size, 1, none⟩) (Nat.le_refl _) _).setCell (p := ⟨w.heap.size, 2, none⟩) (Nat.le_refl _) _
  · go_wp2
    have hb := ((HR.out.set 0 (.float .f64 x)).set 1 (.float .f64 y)).set 2 (.bool false)
    obtain ⟨⟨t0, t1, t2⟩, _⟩ := three hb
    refine bodyPost_ret (v := .agg #[.float .f64 x, .float .f64 y, .bool false]) (by simp [results, Tryz.results6, go_sem, t0, t1, t2]) rfl ⟨rfl, ?_⟩
    first | exact below_new (Below.refl _ _) _ | exact ((HB.out.setCell (p := ⟨w.heap.size, 0, none⟩) (Nat.le_refl _) _).setCell (p := ⟨w.heap.size, 1, none⟩) (Nat.le_refl _) _).setCell (p := ⟨w.heap.size, 2, none⟩) (Nat.le_refl _) _
set_option maxHeartbeats 1000000 in
set_option maxRecDepth 100000 in
theorem make_bad (lo hi : Nat) (hl : lo < 18446744073709551616) (hh : hi < 18446744073709551616) (hf : fin lo = false ∨ fin hi = false) (w : World) (hbad : BadC w) :
    Calls Tryz.prog 6 #[.float .f64 lo, .float .f64 hi] w fun e w' => e = .returned (spV badS) ∧ Below w.heap.size w w' := by
  obtain ⟨a, p, ha, hA⟩ := add0 22 lo hl
  obtain ⟨b, q, hb, hB⟩ := add0 22 hi hh
  have HOR := Lib.hid (fun W1 W2 => show goodB (a W1) (b W2) false = false from by
    unfold goodB
    rw [(hA W1).2, (hB W2).2]
    rcases hf with h | h
    · rw [h]; rfl
    · rw [h]; cases fin lo <;> rfl)
  have HG := Lib.hid (fun W1 W2 W => good_calls (a W1) (b W2) false (hA W1).1 (hB W2).1 W)
  have HBAD := Lib.hid hbad
  clear hl hh hf hA hB hbad
  go_enter Tryz.func6, Tryz.ntmps6
  go_wp2_with fail
  refine (HG.out _ _ _).mono ?_
  rintro e w1 ⟨rfl, hW⟩
  have h0 : Below w.heap.size w (((w.alloc (.cells #[.float .f64 0, .float .f64 0, .bool false] 27)).drewN (p + q)).alloc (.cells #[.float .f64 (a (w.alloc (.cells #[.float .f64 0, .float .f64 0, .bool false] 27))), .float .f64 (b ((w.alloc (.cells #[.float .f64 0, .float .f64 0, .bool false] 27)).drewN p)), .bool false] 27)) := below_new (below_drewN (below_new (Below.refl _ _) _) _) _
  have h1 := ((sp_zero w).below' (below_drewN (Below.refl _ _) (p + q))).alloc (.cells #[.float .f64 (a (w.alloc (.cells #[.float .f64 0, .float .f64 0, .bool false] 27))), .float .f64 (b ((w.alloc (.cells #[.float .f64 0, .float .f64 0, .bool false] 27)).drewN p)), .bool false] 27)
  have HR := Lib.hid (h1.below' hW)
  have HB := Lib.hid (below_next h0 hW)
  obtain ⟨g0, g1, g2⟩ := HBAD.out.keep HB.out
  obtain ⟨⟨r0, r1, r2⟩, f0, f1, f2⟩ := three HR.out
  rw [HOR.out]
  clear h0 h1 hW ha hb HG
  go_wp2
  have hb := ((HR.out.set 0 (.float .f64 0)).set 1 (.float .f64 0)).set 2 (.bool true)
  obtain ⟨⟨t0, t1, t2⟩, _⟩ := three hb
  refine bodyPost_ret (v := .agg #[.float .f64 0, .float .f64 0, .bool true]) (by simp [results, Tryz.results6, go_sem, t0, t1, t2]) rfl ⟨rfl, ?_⟩
  first | exact below_new (Below.refl _ _) _ | exact ((HB.out.setCell (p := ⟨w.heap.size, 0, none⟩) (Nat.le_refl _) _).setCell (p := ⟨w.heap.size, 1, none⟩) (Nat.le_refl _) _).setCell (p := ⟨w.heap.size, 2, none⟩) (Nat.le_refl _) _
theorem make_calls (lo hi : Nat) (hl : lo < 18446744073709551616) (hh : hi < 18446744073709551616) (w : World) (hbad : BadC w) :
    Calls Tryz.prog 6 #[.float .f64 lo, .float .f64 hi] w fun e w' => e = .returned (spV (makeS lo hi)) ∧ Below w.heap.size w w' := by
  cases fl : fin lo with
  | false =>
    have : makeS lo hi = badS := by unfold makeS; rw [fl]; rfl
    rw [this]
    exact make_bad lo hi hl hh (.inl fl) w hbad
  | true =>
    cases fh : fin hi with
    | false =>
      have : makeS lo hi = badS := by unfold makeS; rw [fl, fh]; rfl
      rw [this]
      exact make_bad lo hi hl hh (.inr fh) w hbad
    | true => exact make_fin lo hi hl hh fl fh w hbad
set_option maxHeartbeats 1000000 in
set_option maxRecDepth 100000 in
theorem point_calls (a : Nat) (hl : a < 18446744073709551616) (w : World) (hbad : BadC w) :
    Calls Tryz.prog 8 #[.float .f64 a] w fun e w' => e = .returned (spV (makeS a a)) ∧ Below w.heap.size w w' := by
  have hB := below_new (Below.refl w.heap.size w) (.cells #[.float .f64 0, .float .f64 0, .bool false] 27)
  have HM := Lib.hid (make_calls a a hl hl _ (hbad.keep hB))
  have H0 := Lib.hid (And.intro (sp_zero w) hB)
  obtain ⟨o, ho⟩ : ∃ o, makeS a a = o := ⟨_, rfl⟩
  rw [ho] at HM ⊢
  obtain ⟨x, y, b⟩ := o
  clear hl hbad hB ho
  go_enter Tryz.func8, Tryz.ntmps8
  go_wp2_with fail
  refine HM.out.mono ?_
  rintro e w1 ⟨rfl, hW⟩
  have HR := Lib.hid (H0.out.1.below' hW)
  have HB := Lib.hid (below_next H0.out.2 hW)
  obtain ⟨⟨r0, r1, r2⟩, f0, f1, f2⟩ := three HR.out
  unfold spV
  clear hW HM H0
  go_wp2
  have hb := ((HR.out.set 0 (.float .f64 x)).set 1 (.float .f64 y)).set 2 (.bool b)
  obtain ⟨⟨t0, t1, t2⟩, _⟩ := three hb
  refine bodyPost_ret (v := .agg #[.float .f64 x, .float .f64 y, .bool b]) (by simp [results, Tryz.results8, go_sem, t0, t1, t2]) rfl ⟨rfl, ?_⟩
  first | exact below_new (Below.refl _ _) _ | exact ((HB.out.setCell (p := ⟨w.heap.size, 0, none⟩) (Nat.le_refl _) _).setCell (p := ⟨w.heap.size, 1, none⟩) (Nat.le_refl _) _).setCell (p := ⟨w.heap.size, 2, none⟩) (Nat.le_refl _) _
def hasB (lo hi : Nat) (bd : Bool) (a : Nat) : Bool := goodB lo hi bd && (fin a && (leF lo a && leF a hi))
set_option maxHeartbeats 1000000 in
set_option maxRecDepth 100000 in
theorem has_calls (lo hi : Nat) (bd : Bool) (a : Nat) (hl : lo < 18446744073709551616) (hh : hi < 18446744073709551616) (ha : a < 18446744073709551616) (w : World) :
    Calls Tryz.prog 19 #[.agg #[.float .f64 lo, .float .f64 hi, .bool bd], .float .f64 a] w fun e w' => e = .returned (.bool (hasB lo hi bd a)) ∧ Below w.heap.size w w' := by
  have HG := Lib.hid (fun W => good_calls lo hi bd hl hh W)
  have HN := Lib.hid (fun W => number?_calls a (fin a) W ha rfl)
  have H0 := Lib.hid (And.intro (sp_new w lo hi bd) (below_new (Below.refl w.heap.size w) (.cells #[.float .f64 lo, .float .f64 hi, .bool bd] 27)))
  unfold hasB leF
  obtain ⟨g, hg⟩ : ∃ g, goodB lo hi bd = g := ⟨_, rfl⟩
  obtain ⟨f, hf⟩ : ∃ g, fin a = g := ⟨_, rfl⟩
  obtain ⟨c1, h1⟩ : ∃ c, (FloatKind.f64.format.order lo a == some .lt || FloatKind.f64.format.order lo a == some .eq) = c := ⟨_, rfl⟩
  obtain ⟨c2, h2⟩ : ∃ c, (FloatKind.f64.format.order a hi == some .lt || FloatKind.f64.format.order a hi == some .eq) = c := ⟨_, rfl⟩
  rw [hg] at HG
  rw [hf] at HN
  rw [hg, hf, h1, h2]
  clear hl hh ha hg hf
  cases g
  · clear h1 h2 HN
    go_enter Tryz.func19, Tryz.ntmps19
    go_wp2_with fail
    refine (HG.out _).mono ?_
    rintro e w1 ⟨rfl, hW⟩
    have H1 := Lib.hid (below_next H0.out.2 hW)
    clear hW
    go_wp2
    go_ret
    exact ⟨rfl, H1.out⟩
  · cases f <;> cases c1 <;> cases c2
    all_goals (
      go_enter Tryz.func19, Tryz.ntmps19
      go_wp2_with fail
      refine (HG.out _).mono ?_
      rintro e w1 ⟨rfl, hW⟩
      have H1 := Lib.hid (And.intro (H0.out.1.below' hW) (below_next H0.out.2 hW))
      clear hW H0
      obtain ⟨⟨k0, k1, k2⟩, _⟩ := three H1.out.1
      go_wp2_with fail
      refine (HN.out _).mono ?_
      rintro e w' ⟨rfl, rfl⟩
      go_wp2
      go_ret
      exact ⟨rfl, H1.out.2⟩)
def insideB (l1 h1 : Nat) (b1 : Bool) (l2 h2 : Nat) (b2 : Bool) : Bool := (goodB l1 h1 b1 && goodB l2 h2 b2) && (leF l2 l1 && leF h1 h2)
set_option maxHeartbeats 1000000 in
set_option maxRecDepth 100000 in
theorem inside_calls (l1 h1 l2 h2 : Nat) (b1 b2 : Bool) (hl1 : l1 < 18446744073709551616) (hh1 : h1 < 18446744073709551616) (hl2 : l2 < 18446744073709551616) (hh2 : h2 < 18446744073709551616) (w : World) :
    Calls Tryz.prog 20 #[.agg #[.float .f64 l1, .float .f64 h1, .bool b1], .agg #[.float .f64 l2, .float .f64 h2, .bool b2]] w fun e w' => e = .returned (.bool (insideB l1 h1 b1 l2 h2 b2)) ∧ Below w.heap.size w w' := by
  have HG := Lib.hid (fun W => both_calls l1 h1 l2 h2 b1 b2 hl1 hh1 hl2 hh2 W)
  have H0 := Lib.hid (And.intro ((sp_new w l1 h1 b1).alloc (.cells #[.float .f64 l2, .float .f64 h2, .bool b2] 27)) (And.intro (sp_new (w.alloc (.cells #[.float .f64 l1, .float .f64 h1, .bool b1] 27)) l2 h2 b2) (below_new (below_new (Below.refl w.heap.size w) (.cells #[.float .f64 l1, .float .f64 h1, .bool b1] 27)) (.cells #[.float .f64 l2, .float .f64 h2, .bool b2] 27))))
  unfold insideB leF
  obtain ⟨g, hg⟩ : ∃ g, (goodB l1 h1 b1 && goodB l2 h2 b2) = g := ⟨_, rfl⟩
  obtain ⟨c1, k1⟩ : ∃ c, (FloatKind.f64.format.order l2 l1 == some .lt || FloatKind.f64.format.order l2 l1 == some .eq) = c := ⟨_, rfl⟩
  obtain ⟨c2, k2⟩ : ∃ c, (FloatKind.f64.format.order h1 h2 == some .lt || FloatKind.f64.format.order h1 h2 == some .eq) = c := ⟨_, rfl⟩
  rw [hg] at HG
  rw [hg, k1, k2]
  clear hl1 hh1 hl2 hh2 hg
  cases g
  · clear k1 k2
    go_enter Tryz.func20, Tryz.ntmps20
    go_wp2_with fail
    refine (HG.out _).mono ?_
    rintro e w1 ⟨rfl, hW⟩
    have H1 := Lib.hid (below_next H0.out.2.2 hW)
    clear hW
    go_wp2
    go_ret
    exact ⟨rfl, H1.out⟩
  · cases c1 <;> cases c2
    all_goals (
      go_enter Tryz.func20, Tryz.ntmps20
      go_wp2_with fail
      refine (HG.out _).mono ?_
      rintro e w1 ⟨rfl, hW⟩
      have hs := H0.out.2.1.below' hW
      simp only [World.size_alloc] at hs
      have H1 := Lib.hid (And.intro (H0.out.1.below' hW) (And.intro hs (below_next H0.out.2.2 hW)))
      clear hW H0 hs
      obtain ⟨⟨a0, a1, a2⟩, _⟩ := three H1.out.1
      obtain ⟨⟨b0, b1, b2⟩, _⟩ := three H1.out.2.1
      go_wp2
      go_ret
      exact ⟨rfl, H1.out.2.2⟩)
end Go.Proofs.YtikdhkmcdmnadaaGreatFmt
