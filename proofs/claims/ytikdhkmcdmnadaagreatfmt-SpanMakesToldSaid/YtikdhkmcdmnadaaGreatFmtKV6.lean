import Derived.Test.YtikdhkmcdmnadaaGreatFmtKV5
import Derived.Conc.MuLone
set_option linter.unusedVariables false
set_option linter.unusedSimpArgs false
namespace Go.Proofs.YtikdhkmcdmnadaaGreatFmt
open Go.RowKit
attribute [local go_sem ↓] Go.wp_at_zero Go.wp_at_succ
attribute [local go_sem] store_fltV

/-! ### span.corners, Mul, Div (printed by gen_v6.py) -/
def crnO (sp : Int → Nat → Nat → Option Nat) (d : Int) (a b : Sp) : Nat × Bool := foldS d (fun k => sp d (crnX a b k) (crnY a b k)) 3
def cornS (sp : Int → Nat → Nat → Option Nat) (a b : Sp) : Sp := endS (crnO sp 2 a b).1 (crnO sp 2 a b).2 (crnO sp 1 a b).1 (crnO sp 1 a b).2
theorem crnO_fin {sp : Int → Nat → Nat → Option Nat} (hsp : ∀ d u v x, sp d u v = some x → x < 18446744073709551616 ∧ fin x = true) (d : Int) (a b : Sp) : (crnO sp d a b).2 = true → (crnO sp d a b).1 < 18446744073709551616 ∧ fin (crnO sp d a b).1 = true :=
  fold_fin d _ (fun i v h => hsp _ _ _ _ h) 3
/-- what corners lays at its start -/
def crnW (w : World) (F : Nat) (alo ahi : Nat) (abd : Bool) (blo bhi : Nat) (bbd : Bool) : World := (((w.alloc (.cells #[.float .f64 alo, .float .f64 ahi, .bool abd] 27)).alloc (.cells #[.float .f64 blo, .float .f64 bhi, .bool bbd] 27)).alloc (.cells #[.func (.func F) #[] #[]] 54)).alloc (.cells #[.float .f64 0, .float .f64 0, .bool false] 27)
theorem crnW_facts (w : World) (F : Nat) (alo ahi : Nat) (abd : Bool) (blo bhi : Nat) (bbd : Bool) : CapW (crnW w F alo ahi abd blo bhi bbd) (crnW w F alo ahi abd blo bhi bbd) (w.heap.size + 1 + 1) w.heap.size (w.heap.size + 1) F ⟨alo, ahi, abd⟩ ⟨blo, bhi, bbd⟩ ∧ Blk (crnW w F alo ahi abd blo bhi bbd) (w.heap.size + 1 + 1 + 1) 27 [.float .f64 0, .float .f64 0, .bool false] ∧ Below w.heap.size w (crnW w F alo ahi abd blo bhi bbd) := by
  have hb := ((sp_new (w.alloc (.cells #[.float .f64 alo, .float .f64 ahi, .bool abd] 27)) blo bhi bbd).alloc (.cells #[.func (.func F) #[] #[]] 54)).alloc (.cells #[.float .f64 0, .float .f64 0, .bool false] 27)
  simp only [World.size_alloc] at hb
  have hf := (Blk.new ((w.alloc (.cells #[.float .f64 alo, .float .f64 ahi, .bool abd] 27)).alloc (.cells #[.float .f64 blo, .float .f64 bhi, .bool bbd] 27)) #[.func (.func F) #[] #[]] 54).alloc (.cells #[.float .f64 0, .float .f64 0, .bool false] 27)
  simp only [World.size_alloc] at hf
  have hr := sp_zero (((w.alloc (.cells #[.float .f64 alo, .float .f64 ahi, .bool abd] 27)).alloc (.cells #[.float .f64 blo, .float .f64 bhi, .bool bbd] 27)).alloc (.cells #[.func (.func F) #[] #[]] 54))
  simp only [World.size_alloc] at hr
  exact ⟨⟨hf, (((sp_new w alo ahi abd).alloc _).alloc _).alloc _, hb, Below.refl _ _⟩, hr, below_new (below_new (below_new (below_new (Below.refl _ _) _) _) _) _⟩
set_option maxHeartbeats 4000000 in
set_option maxRecDepth 100000 in
theorem corners_calls (F : Nat) (hcf : ∀ args W, (callFunc F args).run Tryz.prog W = .ok (.enter F args) W) (sp : Int → Nat → Nat → Option Nat) (hF : ∀ d u v, u < 18446744073709551616 → v < 18446744073709551616 → ∀ W, Calls Tryz.prog F #[.int .i64 d, .float .f64 u, .float .f64 v] W fun e w' => e = fRet2 (sp d u v) ∧ Below W.heap.size W w') (hsp : ∀ d u v x, sp d u v = some x → x < 18446744073709551616 ∧ fin x = true) (a b : Sp) (hal : a.lo < 18446744073709551616) (hah : a.hi < 18446744073709551616) (hbl : b.lo < 18446744073709551616) (hbh : b.hi < 18446744073709551616) (w : World) (hbad : BadC w) :
    Calls Tryz.prog 26 #[spV a, spV b, .func (.func F) #[] #[]] w fun e w' => e = .returned (spV (cornS sp a b)) ∧ Below w.heap.size w w' := by
  have HL2 := Lib.hid (fun W hc => least2 F hcf (sp 2) (hF 2) a b (w.heap.size + 1 + 1) w.heap.size (w.heap.size + 1) hal hah hbl hbh W hc)
  have HL1 := Lib.hid (fun W hc => least1 F hcf (sp 1) (hF 1) a b (w.heap.size + 1 + 1) w.heap.size (w.heap.size + 1) hal hah hbl hbh W hc)
  have h2 := crnO_fin hsp 2 a b
  have h1 := crnO_fin hsp 1 a b
  unfold cornS
  unfold crnO at h1 h2 ⊢
  obtain ⟨p2, hp2⟩ : ∃ p, foldS 2 (fun k => sp 2 (crnX a b k) (crnY a b k)) 3 = p := ⟨_, rfl⟩
  obtain ⟨p1, hp1⟩ : ∃ p, foldS 1 (fun k => sp 1 (crnX a b k) (crnY a b k)) 3 = p := ⟨_, rfl⟩
  rw [hp2] at HL2 h2
  rw [hp1] at HL1 h1
  rw [hp1, hp2]
  obtain ⟨x2, o2⟩ := p2
  obtain ⟨x1, o1⟩ := p1
  have HE := Lib.hid (fun W hb => ends_calls x2 x1 o2 o1 h2 h1 W hb)
  obtain ⟨r, hr⟩ : ∃ r, endS x2 o2 x1 o1 = r := ⟨_, rfl⟩
  rw [hr] at HE
  have hr' : endS (x2, o2).1 (x2, o2).2 (x1, o1).1 (x1, o1).2 = r := hr
  rw [hr']
  obtain ⟨rlo, rhi, rbd⟩ := r
  obtain ⟨alo, ahi, abd⟩ := a
  obtain ⟨blo, bhi, bbd⟩ := b
  have H0 := Lib.hid (And.intro (crnW_facts w F alo ahi abd blo bhi bbd) hbad)
  unfold crnW at H0
  unfold spV
  clear hcf hF hsp hal hah hbl hbh hbad h1 h2 hp1 hp2 hr hr'
  go_enter Tryz.func26, Tryz.ntmps26
  go_wp2_with fail
  refine (HL2.out _ H0.out.1.1).mono ?_
  rintro e w1 ⟨rfl, hW⟩
  have H1 := Lib.hid (And.intro (H0.out.1.1.below hW) (And.intro (H0.out.1.2.1.below' hW) (And.intro (below_next H0.out.1.2.2 hW) (H0.out.2.keep (below_next H0.out.1.2.2 hW)))))
  clear hW H0 HL2
  go_wp2_with fail
  refine (HL1.out _ ⟨H1.out.1.f, H1.out.1.a, H1.out.1.b, Below.refl _ _⟩).mono ?_
  rintro e w2 ⟨rfl, hW⟩
  have H2 := Lib.hid (And.intro (H1.out.2.1.below' hW) (And.intro (below_next H1.out.2.2.1 hW) (H1.out.2.2.2.keep hW)))
  clear hW H1 HL1
  go_wp2_with fail
  refine (HE.out _ H2.out.2.2).mono ?_
  rintro e w3 ⟨rfl, hW⟩
  have HR := Lib.hid (H2.out.1.below' hW)
  have HB := Lib.hid (below_next H2.out.2.1 hW)
  obtain ⟨⟨r0, r1, r2⟩, f0, f1, f2⟩ := three HR.out
  unfold spV
  clear hW H2 HE
  go_wp2
  have hb := ((HR.out.set 0 (.float .f64 rlo)).set 1 (.float .f64 rhi)).set 2 (.bool rbd)
  obtain ⟨⟨t0, t1, t2⟩, _⟩ := three hb
  refine bodyPost_ret (v := .agg #[.float .f64 rlo, .float .f64 rhi, .bool rbd]) (by simp [results, Tryz.results26, go_sem, t0, t1, t2]) rfl ⟨rfl, ?_⟩
  first | exact below_new (Below.refl _ _) _ | exact ((HB.out.setCell (p := ⟨(w.heap.size + 1 + 1 + 1), 0, none⟩) (by first | exact Nat.le_refl _ | (dsimp only; omega)) _).setCell (p := ⟨(w.heap.size + 1 + 1 + 1), 1, none⟩) (by first | exact Nat.le_refl _ | (dsimp only; omega)) _).setCell (p := ⟨(w.heap.size + 1 + 1 + 1), 2, none⟩) (by first | exact Nat.le_refl _ | (dsimp only; omega)) _
def geF (x y : Nat) : Bool := FloatKind.f64.format.order x y == some .gt || FloatKind.f64.format.order x y == some .eq
def mulS (a b : Sp) : Sp := if goodB a.lo a.hi a.bad && goodB b.lo b.hi b.bad then cornS (fun d x y => askS 3 d x y) a b else badS
set_option maxHeartbeats 4000000 in
set_option maxRecDepth 100000 in
theorem mul_calls (a b : Sp) (hal : a.lo < 18446744073709551616) (hah : a.hi < 18446744073709551616) (hbl : b.lo < 18446744073709551616) (hbh : b.hi < 18446744073709551616) (w : World) (hbad : BadC w) :
    Calls Tryz.prog 16 #[spV a, spV b] w fun e w' => e = .returned (spV (mulS a b)) ∧ Below w.heap.size w w' := by
  have HG := Lib.hid (fun W => both_calls a.lo a.hi b.lo b.hi a.bad b.bad hal hah hbl hbh W)
  have HC := Lib.hid (fun W hb => corners_calls 27 (Go.MuLone.run_callFunc_enter Tryz.func27 (by kernel_rfl) rfl) (fun d x y => askS 3 d x y) (fun d u v hu hv W => rmul_calls d u v hu hv W) (fun d u v x h => ask_some h) a b hal hah hbl hbh W hb)
  unfold mulS
  obtain ⟨g, hg⟩ : ∃ g, (goodB a.lo a.hi a.bad && goodB b.lo b.hi b.bad) = g := ⟨_, rfl⟩
  obtain ⟨r, hr⟩ : ∃ r, cornS (fun d x y => askS 3 d x y) a b = r := ⟨_, rfl⟩
  rw [hg] at HG
  rw [hr] at HC
  rw [hg, hr]
  obtain ⟨alo, ahi, abd⟩ := a
  obtain ⟨blo, bhi, bbd⟩ := b
  obtain ⟨rlo, rhi, rbd⟩ := r
  unfold spV at HC ⊢
  have hb2 := (sp_new (w.alloc (.cells #[.float .f64 alo, .float .f64 ahi, .bool abd] 27)) blo bhi bbd).alloc (.cells #[.float .f64 0, .float .f64 0, .bool false] 27)
  simp only [World.size_alloc] at hb2
  have hr2 := sp_zero ((w.alloc (.cells #[.float .f64 alo, .float .f64 ahi, .bool abd] 27)).alloc (.cells #[.float .f64 blo, .float .f64 bhi, .bool bbd] 27))
  simp only [World.size_alloc] at hr2
  have H0 := Lib.hid (And.intro (((sp_new w alo ahi abd).alloc (.cells #[.float .f64 blo, .float .f64 bhi, .bool bbd] 27)).alloc (.cells #[.float .f64 0, .float .f64 0, .bool false] 27)) (And.intro hb2 (And.intro hr2 (And.intro (below_new (below_new (below_new (Below.refl w.heap.size w) (.cells #[.float .f64 alo, .float .f64 ahi, .bool abd] 27)) (.cells #[.float .f64 blo, .float .f64 bhi, .bool bbd] 27)) (.cells #[.float .f64 0, .float .f64 0, .bool false] 27)) hbad))))
  clear hal hah hbl hbh hbad hg hr hb2 hr2
  obtain ⟨⟨z0, z1, z2⟩, _⟩ := three H0.out.1
  obtain ⟨⟨y0, y1, y2⟩, _⟩ := three H0.out.2.1
  cases g
  · go_enter Tryz.func16, Tryz.ntmps16
    go_wp2_with fail
    refine (HG.out _).mono ?_
    rintro e w1 ⟨rfl, hW⟩
    have H1 := Lib.hid (And.intro (H0.out.1.below' hW) (And.intro (H0.out.2.1.below' hW) (And.intro (H0.out.2.2.1.below' hW) (And.intro (below_next H0.out.2.2.2.1 hW) (H0.out.2.2.2.2.keep (below_next H0.out.2.2.2.1 hW))))))
    clear hW H0 HG z0 z1 z2 y0 y1 y2
    obtain ⟨g0, g1, g2⟩ := H1.out.2.2.2.2
    have HR := Lib.hid H1.out.2.2.1
    have HB := Lib.hid H1.out.2.2.2.1
    obtain ⟨⟨r0, r1, r2⟩, f0, f1, f2⟩ := three HR.out
    
    go_wp2
    have hb := ((HR.out.set 0 (.float .f64 0)).set 1 (.float .f64 0)).set 2 (.bool true)
    obtain ⟨⟨t0, t1, t2⟩, _⟩ := three hb
    refine bodyPost_ret (v := .agg #[.float .f64 0, .float .f64 0, .bool true]) (by simp [results, Tryz.results16, go_sem, t0, t1, t2]) rfl ⟨rfl, ?_⟩
    first | exact below_new (Below.refl _ _) _ | exact ((HB.out.setCell (p := ⟨(w.heap.size + 1 + 1), 0, none⟩) (by first | exact Nat.le_refl _ | (dsimp only; omega)) _).setCell (p := ⟨(w.heap.size + 1 + 1), 1, none⟩) (by first | exact Nat.le_refl _ | (dsimp only; omega)) _).setCell (p := ⟨(w.heap.size + 1 + 1), 2, none⟩) (by first | exact Nat.le_refl _ | (dsimp only; omega)) _
  · go_enter Tryz.func16, Tryz.ntmps16
    go_wp2_with fail
    refine (HG.out _).mono ?_
    rintro e w1 ⟨rfl, hW⟩
    have H1 := Lib.hid (And.intro (H0.out.1.below' hW) (And.intro (H0.out.2.1.below' hW) (And.intro (H0.out.2.2.1.below' hW) (And.intro (below_next H0.out.2.2.2.1 hW) (H0.out.2.2.2.2.keep (below_next H0.out.2.2.2.1 hW))))))
    clear hW H0 HG z0 z1 z2 y0 y1 y2
    obtain ⟨⟨z0, z1, z2⟩, _⟩ := three H1.out.1
    obtain ⟨⟨y0, y1, y2⟩, _⟩ := three H1.out.2.1
    go_wp2_with fail
    refine (HC.out _ H1.out.2.2.2.2).mono ?_
    rintro e w2 ⟨rfl, hW⟩
    have HR := Lib.hid (H1.out.2.2.1.below' hW)
    have HB := Lib.hid (below_next H1.out.2.2.2.1 hW)
    obtain ⟨⟨r0, r1, r2⟩, f0, f1, f2⟩ := three HR.out
    clear hW H1 HC
    go_wp2
    have hb := ((HR.out.set 0 (.float .f64 rlo)).set 1 (.float .f64 rhi)).set 2 (.bool rbd)
    obtain ⟨⟨t0, t1, t2⟩, _⟩ := three hb
    refine bodyPost_ret (v := .agg #[.float .f64 rlo, .float .f64 rhi, .bool rbd]) (by simp [results, Tryz.results16, go_sem, t0, t1, t2]) rfl ⟨rfl, ?_⟩
    first | exact below_new (Below.refl _ _) _ | exact ((HB.out.setCell (p := ⟨(w.heap.size + 1 + 1), 0, none⟩) (by first | exact Nat.le_refl _ | (dsimp only; omega)) _).setCell (p := ⟨(w.heap.size + 1 + 1), 1, none⟩) (by first | exact Nat.le_refl _ | (dsimp only; omega)) _).setCell (p := ⟨(w.heap.size + 1 + 1), 2, none⟩) (by first | exact Nat.le_refl _ | (dsimp only; omega)) _
def divS' (a b : Sp) : Sp := if (goodB a.lo a.hi a.bad && goodB b.lo b.hi b.bad) && !(leF b.lo 0 && geF b.hi 0) then cornS divS a b else badS
set_option maxHeartbeats 4000000 in
set_option maxRecDepth 100000 in
theorem div_calls (a b : Sp) (hal : a.lo < 18446744073709551616) (hah : a.hi < 18446744073709551616) (hbl : b.lo < 18446744073709551616) (hbh : b.hi < 18446744073709551616) (w : World) (hbad : BadC w) :
    Calls Tryz.prog 17 #[spV a, spV b] w fun e w' => e = .returned (spV (divS' a b)) ∧ Below w.heap.size w w' := by
  have HG := Lib.hid (fun W => both_calls a.lo a.hi b.lo b.hi a.bad b.bad hal hah hbl hbh W)
  have HC := Lib.hid (fun W hb => corners_calls 28 (Go.MuLone.run_callFunc_enter Tryz.func28 (by kernel_rfl) rfl) divS (fun d u v hu hv W => rdiv_calls d u v hu hv W) (fun d u v x h => div_some h) a b hal hah hbl hbh W hb)
  unfold divS'
  obtain ⟨g, hg⟩ : ∃ g, (goodB a.lo a.hi a.bad && goodB b.lo b.hi b.bad) = g := ⟨_, rfl⟩
  obtain ⟨r, hr⟩ : ∃ r, cornS divS a b = r := ⟨_, rfl⟩
  rw [hg] at HG
  rw [hr] at HC
  rw [hg, hr]
  unfold leF geF
  obtain ⟨k1, hk1⟩ : ∃ c, (FloatKind.f64.format.order b.lo 0 == some .lt || FloatKind.f64.format.order b.lo 0 == some .eq) = c := ⟨_, rfl⟩
  obtain ⟨k2, hk2⟩ : ∃ c, (FloatKind.f64.format.order b.hi 0 == some .gt || FloatKind.f64.format.order b.hi 0 == some .eq) = c := ⟨_, rfl⟩
  rw [hk1, hk2]
  obtain ⟨alo, ahi, abd⟩ := a
  obtain ⟨blo, bhi, bbd⟩ := b
  obtain ⟨rlo, rhi, rbd⟩ := r
  unfold spV at HC ⊢
  simp only [] at hk1 hk2
  have hb2 := (sp_new (w.alloc (.cells #[.float .f64 alo, .float .f64 ahi, .bool abd] 27)) blo bhi bbd).alloc (.cells #[.float .f64 0, .float .f64 0, .bool false] 27)
  simp only [World.size_alloc] at hb2
  have hr2 := sp_zero ((w.alloc (.cells #[.float .f64 alo, .float .f64 ahi, .bool abd] 27)).alloc (.cells #[.float .f64 blo, .float .f64 bhi, .bool bbd] 27))
  simp only [World.size_alloc] at hr2
  have H0 := Lib.hid (And.intro (((sp_new w alo ahi abd).alloc (.cells #[.float .f64 blo, .float .f64 bhi, .bool bbd] 27)).alloc (.cells #[.float .f64 0, .float .f64 0, .bool false] 27)) (And.intro hb2 (And.intro hr2 (And.intro (below_new (below_new (below_new (Below.refl w.heap.size w) (.cells #[.float .f64 alo, .float .f64 ahi, .bool abd] 27)) (.cells #[.float .f64 blo, .float .f64 bhi, .bool bbd] 27)) (.cells #[.float .f64 0, .float .f64 0, .bool false] 27)) hbad))))
  clear hal hah hbl hbh hbad hg hr hb2 hr2
  obtain ⟨⟨z0, z1, z2⟩, _⟩ := three H0.out.1
  obtain ⟨⟨y0, y1, y2⟩, _⟩ := three H0.out.2.1
  cases g
  · go_enter Tryz.func17, Tryz.ntmps17
    go_wp2_with fail
    refine (HG.out _).mono ?_
    rintro e w1 ⟨rfl, hW⟩
    have H1 := Lib.hid (And.intro (H0.out.1.below' hW) (And.intro (H0.out.2.1.below' hW) (And.intro (H0.out.2.2.1.below' hW) (And.intro (below_next H0.out.2.2.2.1 hW) (H0.out.2.2.2.2.keep (below_next H0.out.2.2.2.1 hW))))))
    clear hW H0 HG z0 z1 z2 y0 y1 y2
    obtain ⟨g0, g1, g2⟩ := H1.out.2.2.2.2
    have HR := Lib.hid H1.out.2.2.1
    have HB := Lib.hid H1.out.2.2.2.1
    obtain ⟨⟨r0, r1, r2⟩, f0, f1, f2⟩ := three HR.out
    
    go_wp2
    have hb := ((HR.out.set 0 (.float .f64 0)).set 1 (.float .f64 0)).set 2 (.bool true)
    obtain ⟨⟨t0, t1, t2⟩, _⟩ := three hb
    refine bodyPost_ret (v := .agg #[.float .f64 0, .float .f64 0, .bool true]) (by simp [results, Tryz.results17, go_sem, t0, t1, t2]) rfl ⟨rfl, ?_⟩
    first | exact below_new (Below.refl _ _) _ | exact ((HB.out.setCell (p := ⟨(w.heap.size + 1 + 1), 0, none⟩) (by first | exact Nat.le_refl _ | (dsimp only; omega)) _).setCell (p := ⟨(w.heap.size + 1 + 1), 1, none⟩) (by first | exact Nat.le_refl _ | (dsimp only; omega)) _).setCell (p := ⟨(w.heap.size + 1 + 1), 2, none⟩) (by first | exact Nat.le_refl _ | (dsimp only; omega)) _
  · cases k1
    · clear hk2
      go_enter Tryz.func17, Tryz.ntmps17
      go_wp2_with fail
      refine (HG.out _).mono ?_
      rintro e w1 ⟨rfl, hW⟩
      have H1 := Lib.hid (And.intro (H0.out.1.below' hW) (And.intro (H0.out.2.1.below' hW) (And.intro (H0.out.2.2.1.below' hW) (And.intro (below_next H0.out.2.2.2.1 hW) (H0.out.2.2.2.2.keep (below_next H0.out.2.2.2.1 hW))))))
      clear hW H0 HG z0 z1 z2 y0 y1 y2
      obtain ⟨⟨z0, z1, z2⟩, _⟩ := three H1.out.1
      obtain ⟨⟨y0, y1, y2⟩, _⟩ := three H1.out.2.1
      go_wp2_with fail
      refine (HC.out _ H1.out.2.2.2.2).mono ?_
      rintro e w2 ⟨rfl, hW⟩
      have HR := Lib.hid (H1.out.2.2.1.below' hW)
      have HB := Lib.hid (below_next H1.out.2.2.2.1 hW)
      obtain ⟨⟨r0, r1, r2⟩, f0, f1, f2⟩ := three HR.out
      clear hW H1 HC
      go_wp2
      have hb := ((HR.out.set 0 (.float .f64 rlo)).set 1 (.float .f64 rhi)).set 2 (.bool rbd)
      obtain ⟨⟨t0, t1, t2⟩, _⟩ := three hb
      refine bodyPost_ret (v := .agg #[.float .f64 rlo, .float .f64 rhi, .bool rbd]) (by simp [results, Tryz.results17, go_sem, t0, t1, t2]) rfl ⟨rfl, ?_⟩
      first | exact below_new (Below.refl _ _) _ | exact ((HB.out.setCell (p := ⟨(w.heap.size + 1 + 1), 0, none⟩) (by first | exact Nat.le_refl _ | (dsimp only; omega)) _).setCell (p := ⟨(w.heap.size + 1 + 1), 1, none⟩) (by first | exact Nat.le_refl _ | (dsimp only; omega)) _).setCell (p := ⟨(w.heap.size + 1 + 1), 2, none⟩) (by first | exact Nat.le_refl _ | (dsimp only; omega)) _
    · cases k2
      · go_enter Tryz.func17, Tryz.ntmps17
        go_wp2_with fail
        refine (HG.out _).mono ?_
        rintro e w1 ⟨rfl, hW⟩
        have H1 := Lib.hid (And.intro (H0.out.1.below' hW) (And.intro (H0.out.2.1.below' hW) (And.intro (H0.out.2.2.1.below' hW) (And.intro (below_next H0.out.2.2.2.1 hW) (H0.out.2.2.2.2.keep (below_next H0.out.2.2.2.1 hW))))))
        clear hW H0 HG z0 z1 z2 y0 y1 y2
        obtain ⟨⟨z0, z1, z2⟩, _⟩ := three H1.out.1
        obtain ⟨⟨y0, y1, y2⟩, _⟩ := three H1.out.2.1
        go_wp2_with fail
        refine (HC.out _ H1.out.2.2.2.2).mono ?_
        rintro e w2 ⟨rfl, hW⟩
        have HR := Lib.hid (H1.out.2.2.1.below' hW)
        have HB := Lib.hid (below_next H1.out.2.2.2.1 hW)
        obtain ⟨⟨r0, r1, r2⟩, f0, f1, f2⟩ := three HR.out
        clear hW H1 HC
        go_wp2
        have hb := ((HR.out.set 0 (.float .f64 rlo)).set 1 (.float .f64 rhi)).set 2 (.bool rbd)
        obtain ⟨⟨t0, t1, t2⟩, _⟩ := three hb
        refine bodyPost_ret (v := .agg #[.float .f64 rlo, .float .f64 rhi, .bool rbd]) (by simp [results, Tryz.results17, go_sem, t0, t1, t2]) rfl ⟨rfl, ?_⟩
        first | exact below_new (Below.refl _ _) _ | exact ((HB.out.setCell (p := ⟨(w.heap.size + 1 + 1), 0, none⟩) (by first | exact Nat.le_refl _ | (dsimp only; omega)) _).setCell (p := ⟨(w.heap.size + 1 + 1), 1, none⟩) (by first | exact Nat.le_refl _ | (dsimp only; omega)) _).setCell (p := ⟨(w.heap.size + 1 + 1), 2, none⟩) (by first | exact Nat.le_refl _ | (dsimp only; omega)) _
      · go_enter Tryz.func17, Tryz.ntmps17
        go_wp2_with fail
        refine (HG.out _).mono ?_
        rintro e w1 ⟨rfl, hW⟩
        have H1 := Lib.hid (And.intro (H0.out.1.below' hW) (And.intro (H0.out.2.1.below' hW) (And.intro (H0.out.2.2.1.below' hW) (And.intro (below_next H0.out.2.2.2.1 hW) (H0.out.2.2.2.2.keep (below_next H0.out.2.2.2.1 hW))))))
        clear hW H0 HG z0 z1 z2 y0 y1 y2
        obtain ⟨g0, g1, g2⟩ := H1.out.2.2.2.2
        have HR := Lib.hid H1.out.2.2.1
        have HB := Lib.hid H1.out.2.2.2.1
        obtain ⟨⟨r0, r1, r2⟩, f0, f1, f2⟩ := three HR.out
        obtain ⟨⟨z0, z1, z2⟩, _⟩ := three H1.out.1
        obtain ⟨⟨y0, y1, y2⟩, _⟩ := three H1.out.2.1
        
        go_wp2
        have hb := ((HR.out.set 0 (.float .f64 0)).set 1 (.float .f64 0)).set 2 (.bool true)
        obtain ⟨⟨t0, t1, t2⟩, _⟩ := three hb
        refine bodyPost_ret (v := .agg #[.float .f64 0, .float .f64 0, .bool true]) (by simp [results, Tryz.results17, go_sem, t0, t1, t2]) rfl ⟨rfl, ?_⟩
        first | exact below_new (Below.refl _ _) _ | exact ((HB.out.setCell (p := ⟨(w.heap.size + 1 + 1), 0, none⟩) (by first | exact Nat.le_refl _ | (dsimp only; omega)) _).setCell (p := ⟨(w.heap.size + 1 + 1), 1, none⟩) (by first | exact Nat.le_refl _ | (dsimp only; omega)) _).setCell (p := ⟨(w.heap.size + 1 + 1), 2, none⟩) (by first | exact Nat.le_refl _ | (dsimp only; omega)) _
end Go.Proofs.YtikdhkmcdmnadaaGreatFmt
