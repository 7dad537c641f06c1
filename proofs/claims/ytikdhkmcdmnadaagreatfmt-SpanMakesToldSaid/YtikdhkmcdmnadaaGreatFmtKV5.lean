import Derived.Test.YtikdhkmcdmnadaaGreatFmtKV2
import Derived.Test.YtikdhkmcdmnadaaGreatFmtJ34
set_option linter.unusedVariables false
set_option linter.unusedSimpArgs false
namespace Go.Proofs.YtikdhkmcdmnadaaGreatFmt
open Go.RowKit
attribute [local go_sem ↓] Go.wp_at_zero Go.wp_at_succ
attribute [local go_sem] store_fltV

/-! ### span.corners (printed by gen_v5.py) -/
/-- is x ahead of the best so far, in d's sense? -/
def aheadB (d : Int) (x y : Nat) : Bool := if d = 2 then FloatKind.f64.format.order x y == some .lt else FloatKind.f64.format.order x y == some .gt
def foldS (d : Int) (o : Nat → Option Nat) : Nat → Nat × Bool
  | 0 => ((o 0).getD 0, (o 0).isSome)
  | k + 1 => (if aheadB d ((o (k + 1)).getD 0) (foldS d o k).1 then (o (k + 1)).getD 0 else (foldS d o k).1, (foldS d o k).2 && (o (k + 1)).isSome)
theorem fold_fin (d : Int) (o : Nat → Option Nat) (h : ∀ i v, o i = some v → v < 18446744073709551616 ∧ fin v = true) : ∀ k, (foldS d o k).2 = true → (foldS d o k).1 < 18446744073709551616 ∧ fin (foldS d o k).1 = true
  | 0, hk => by
    unfold foldS at hk ⊢
    cases ho : o 0 with
    | none => rw [ho] at hk; cases hk
    | some v => exact h 0 v ho
  | k + 1, hk => by
    unfold foldS at hk ⊢
    simp only [Bool.and_eq_true] at hk
    obtain ⟨h1, h2⟩ := hk
    cases ho : o (k + 1) with
    | none => rw [ho] at h2; cases h2
    | some v =>
      simp only [Option.getD_some]
      split
      · exact h _ v ho
      · exact fold_fin d o h k h1
theorem rnd_some {d : Int} {K : Nat} (hK : 1074 < K) {X : Int} {v : Nat} (h : rndS d K X = some v) : v < 18446744073709551616 ∧ fin v = true := by
  obtain ⟨L, inx, nm, -, hr⟩ := rndS_brk K hK X
  rw [hr d] at h
  obtain ⟨rfl, h2⟩ := outR_some h
  exact ⟨sgn_lt h2, sgn_fin h2⟩
theorem ask_some {c d : Int} {x y v : Nat} (h : askS c d x y = some v) : v < 18446744073709551616 ∧ fin v = true := by
  unfold askS at h
  split at h
  · exact rnd_some (by decide) h
  · cases h
theorem div_some {d : Int} {x y v : Nat} (h : divS d x y = some v) : v < 18446744073709551616 ∧ fin v = true := by
  unfold divS at h
  split at h
  · next hp =>
    split at h
    · obtain rfl := Option.some.inj h
      exact ⟨by decide, by decide⟩
    · next hu0 =>
      simp only [Bool.and_eq_true, decide_eq_true_eq] at hp
      obtain ⟨L, inx, nm, -, hq⟩ := qS_brk (rv_ne hu0) (rv_ne hp.2) d (fneg x != fneg y)
      rw [hq d (fneg x != fneg y)] at h
      obtain ⟨rfl, h2⟩ := outR_some h
      exact ⟨sgn_lt h2, sgn_fin h2⟩
  · cases h
/-- the corners of two spans -/
def crnX (a b : Sp) (k : Nat) : Nat := if k < 2 then a.lo else a.hi
def crnY (a b : Sp) (k : Nat) : Nat := if k % 2 = 0 then b.lo else b.hi
theorem clt_calls (x y : Nat) (w : World) : Calls Tryz.prog 41 #[.float .f64 x, .float .f64 y] w fun e w' => e = .returned (.bool (aheadB 2 x y)) ∧ w = w' := by
  have h : aheadB 2 x y = (FloatKind.f64.format.order x y == some .lt) := rfl
  rw [h]
  go_enter Tryz.func41, Tryz.ntmps41
  go_wp2
  go_ret
  exact ⟨rfl, rfl⟩
theorem cgt_calls (x y : Nat) (w : World) : Calls Tryz.prog 42 #[.float .f64 x, .float .f64 y] w fun e w' => e = .returned (.bool (aheadB 1 x y)) ∧ w = w' := by
  have h : aheadB 1 x y = (FloatKind.f64.format.order x y == some .gt) := rfl
  rw [h]
  go_enter Tryz.func42, Tryz.ntmps42
  go_wp2
  go_ret
  exact ⟨rfl, rfl⟩
/-- what the closure has captured -/
structure CapW (w0 w : World) (pf pa pb F : Nat) (a b : Sp) : Prop where
  f : Blk w pf 54 [.func (.func F) #[] #[]]
  a : Blk w pa 27 [.float .f64 a.lo, .float .f64 a.hi, .bool a.bad]
  b : Blk w pb 27 [.float .f64 b.lo, .float .f64 b.hi, .bool b.bad]
  bel : Below w0.heap.size w0 w
theorem CapW.below {w0 w w' : World} {pf pa pb F : Nat} {a b : Sp} (h : CapW w0 w pf pa pb F a b) (hb : Below w.heap.size w w') : CapW w0 w' pf pa pb F a b := ⟨h.f.below' hb, h.a.below' hb, h.b.below' hb, below_next h.bel hb⟩
/-- the three other corners, laid in a row -/
def crnL (a b : Sp) : List Value := [.float .f64 a.lo, .float .f64 b.hi, .float .f64 a.hi, .float .f64 b.lo, .float .f64 a.hi, .float .f64 b.hi]
/-- the closure's world, and the row of corners -/
def CrnW (w0 w : World) (pf pa pb ps F : Nat) (a b : Sp) : Prop := CapW w0 w pf pa pb F a b ∧ Blk w ps 68 (crnL a b)
set_option maxHeartbeats 4000000 in
set_option maxRecDepth 100000 in
theorem least2 (F : Nat) (hcf : ∀ args W, (callFunc F args).run Tryz.prog W = .ok (.enter F args) W) (sp : Nat → Nat → Option Nat) (hF : ∀ u v, u < 18446744073709551616 → v < 18446744073709551616 → ∀ W, Calls Tryz.prog F #[.int .i64 2, .float .f64 u, .float .f64 v] W fun e w' => e = fRet2 (sp u v) ∧ Below W.heap.size W w') (a b : Sp) (pf pa pb : Nat) (hal : a.lo < 18446744073709551616) (hah : a.hi < 18446744073709551616) (hbl : b.lo < 18446744073709551616) (hbh : b.hi < 18446744073709551616) (w : World) (h : CapW w w pf pa pb F a b) :
    Calls Tryz.prog 40 #[.int .i64 2, .func (.func 41) #[] #[], .pointer (some ⟨pf, 0, none⟩), .pointer (some ⟨pa, 0, none⟩), .pointer (some ⟨pb, 0, none⟩)] w fun e w' => e = .returned (.tuple #[.float .f64 (foldS 2 (fun k => sp (crnX a b k) (crnY a b k)) 3).1, .bool (foldS 2 (fun k => sp (crnX a b k) (crnY a b k)) 3).2]) ∧ Below w.heap.size w w' := by
  have HF0 := Lib.hid (fun W => hF a.lo b.lo hal hbl W)
  have HF1 := Lib.hid (fun W => hF a.lo b.hi hal hbh W)
  have HF2 := Lib.hid (fun W => hF a.hi b.lo hah hbl W)
  have HF3 := Lib.hid (fun W => hF a.hi b.hi hah hbh W)
  have HC := Lib.hid (fun x y W => clt_calls x y W)
  have H0 := Lib.hid h
  obtain ⟨o, ho⟩ : ∃ o : Nat → Option Nat, (fun k => sp (crnX a b k) (crnY a b k)) = o := ⟨_, rfl⟩
  have q0 : sp a.lo b.lo = o 0 := by rw [← ho]; rfl
  have q1 : sp a.lo b.hi = o 1 := by rw [← ho]; rfl
  have q2 : sp a.hi b.lo = o 2 := by rw [← ho]; rfl
  have q3 : sp a.hi b.hi = o 3 := by rw [← ho]; rfl
  rw [q0] at HF0
  rw [q1] at HF1
  rw [q2] at HF2
  rw [q3] at HF3
  rw [ho]
  unfold fRet2 at HF0 HF1 HF2 HF3
  obtain ⟨alo, ahi, abd⟩ := a
  obtain ⟨blo, bhi, bbd⟩ := b
  have E0 : Hid (foldS 2 o 0 = ((o 0).getD 0, (o 0).isSome)) := by rw [Hid]; rfl
  have E1 : Hid (∀ k, foldS 2 o (k + 1) = (if aheadB 2 ((o (k + 1)).getD 0) (foldS 2 o k).1 then (o (k + 1)).getD 0 else (foldS 2 o k).1, (foldS 2 o k).2 && (o (k + 1)).isSome)) := by rw [Hid]; exact fun k => rfl
  clear h hF hal hah hbl hbh ho q0 q1 q2 q3
  have cf : w.cell? ⟨pf, 0, none⟩ = some (.func (.func F) #[] #[]) := H0.out.f.cell 0
  obtain ⟨⟨a0, a1, a2⟩, _⟩ := three H0.out.a
  obtain ⟨⟨m0, m1, m2⟩, _⟩ := three H0.out.b
  go_enter Tryz.func40, Tryz.ntmps40
  go_wp2_with fail
  refine (HF0.out _).mono ?_
  rintro e w1 ⟨rfl, hW⟩
  have H1 := Lib.hid (H0.out.below hW)
  clear hW H0 HF0 cf a0 a1 a2 m0 m1 m2
  obtain ⟨⟨a0, a1, a2⟩, _⟩ := three H1.out.a
  obtain ⟨⟨m0, m1, m2⟩, _⟩ := three H1.out.b
  have HN := Lib.hid (And.intro (Blk.new w1 #[.float .f64 alo, .float .f64 bhi, .float .f64 ahi, .float .f64 blo, .float .f64 ahi, .float .f64 bhi] 68) (H1.out.below (below_new (Below.refl w1.heap.size w1) (.cells #[.float .f64 alo, .float .f64 bhi, .float .f64 ahi, .float .f64 blo, .float .f64 ahi, .float .f64 bhi] 68))))
  go_wp2_with fail
  go_loopw [9, 10, 42] (fun b ok i wr => ∃ k : Nat, i = .int .i64 (k : Int) ∧ (k = 0 ∨ k = 1 ∨ k = 2 ∨ k = 3) ∧ b = .float .f64 (foldS 2 o k).1 ∧ ok = .bool (foldS 2 o k).2 ∧ Hid (CrnW w wr pf pa pb w1.heap.size F ⟨alo, ahi, abd⟩ ⟨blo, bhi, bbd⟩)) (fun _ _ i _ => 3 - (intOf i).toNat)
  case atStart => exact ⟨0, rfl, .inl rfl, by rw [E0.out], by rw [E0.out], ⟨HN.out.2, HN.out.1⟩⟩
  case round =>
    obtain ⟨k, rfl, hk, rfl, rfl, HK⟩ := hrel
    rcases hk with rfl | rfl | rfl | rfl
    · obtain ⟨B, hB⟩ : ∃ B, (foldS 2 o 0).1 = B := ⟨_, rfl⟩
      obtain ⟨Q, hQ⟩ : ∃ Q, (foldS 2 o 0).2 = Q := ⟨_, rfl⟩
      obtain ⟨v, hv⟩ : ∃ v, (o 1).getD 0 = v := ⟨_, rfl⟩
      obtain ⟨s, hs⟩ : ∃ s, (o 1).isSome = s := ⟨_, rfl⟩
      have hE := E1.out 0
      rw [hB, hQ, hv, hs] at hE
      have HE := Lib.hid hE
      rw [hv, hs] at HF1
      rw [hB, hQ]
      clear hB hQ hv hs hE HN H1 a0 a1 a2 m0 m1 m2
      have cf : wr.cell? ⟨pf, 0, none⟩ = some (.func (.func F) #[] #[]) := HK.out.1.f.cell 0
      have s0 : wr.cell? ⟨w1.heap.size, 0, none⟩ = some (.float .f64 alo) := HK.out.2.cell 0
      have s1 : wr.cell? ⟨w1.heap.size, 1, none⟩ = some (.float .f64 bhi) := HK.out.2.cell 1
      have cg : (wr.alloc (.cells #[.float .f64 alo, .float .f64 bhi] 68)).cell? ⟨pf, 0, none⟩ = some (.func (.func F) #[] #[]) := (HK.out.1.f.alloc _).cell 0
      cases Q
      all_goals (
        go_wp2_with fail
        refine (HF1.out _).mono ?_
        rintro e w2 ⟨rfl, hW⟩
        have HK2 := Lib.hid (And.intro (HK.out.1.below (below_next (below_new (Below.refl _ _) (.cells #[.float .f64 alo, .float .f64 bhi] 68)) hW)) ((HK.out.2.below' (below_new (Below.refl _ _) (.cells #[.float .f64 alo, .float .f64 bhi] 68))).below' hW))
        clear hW cf cg s0 s1 HK
        go_wp2_with fail
        refine (HC.out _ _ _).mono ?_
        rintro e w3 ⟨rfl, rfl⟩
        obtain ⟨g, hg⟩ : ∃ g, aheadB 2 v B = g := ⟨_, rfl⟩
        rw [hg] at HE ⊢
        cases g
        all_goals (
          cases s
          all_goals (
            go_wp2
            go_roundw
            case rel => exact ⟨1, by go_num, by first | exact .inr (.inl rfl) | exact .inr (.inr (.inl rfl)) | exact .inr (.inr (.inr rfl)), by rw [HE.out]; rfl, by rw [HE.out]; rfl, HK2.out⟩
            case measure => simp [intOf])))
    · obtain ⟨B, hB⟩ : ∃ B, (foldS 2 o 1).1 = B := ⟨_, rfl⟩
      obtain ⟨Q, hQ⟩ : ∃ Q, (foldS 2 o 1).2 = Q := ⟨_, rfl⟩
      obtain ⟨v, hv⟩ : ∃ v, (o 2).getD 0 = v := ⟨_, rfl⟩
      obtain ⟨s, hs⟩ : ∃ s, (o 2).isSome = s := ⟨_, rfl⟩
      have hE := E1.out 1
      rw [hB, hQ, hv, hs] at hE
      have HE := Lib.hid hE
      rw [hv, hs] at HF2
      rw [hB, hQ]
      clear hB hQ hv hs hE HN H1 a0 a1 a2 m0 m1 m2
      have cf : wr.cell? ⟨pf, 0, none⟩ = some (.func (.func F) #[] #[]) := HK.out.1.f.cell 0
      have s0 : wr.cell? ⟨w1.heap.size, 2, none⟩ = some (.float .f64 ahi) := HK.out.2.cell 2
      have s1 : wr.cell? ⟨w1.heap.size, 3, none⟩ = some (.float .f64 blo) := HK.out.2.cell 3
      have cg : (wr.alloc (.cells #[.float .f64 ahi, .float .f64 blo] 68)).cell? ⟨pf, 0, none⟩ = some (.func (.func F) #[] #[]) := (HK.out.1.f.alloc _).cell 0
      cases Q
      all_goals (
        go_wp2_with fail
        refine (HF2.out _).mono ?_
        rintro e w2 ⟨rfl, hW⟩
        have HK2 := Lib.hid (And.intro (HK.out.1.below (below_next (below_new (Below.refl _ _) (.cells #[.float .f64 ahi, .float .f64 blo] 68)) hW)) ((HK.out.2.below' (below_new (Below.refl _ _) (.cells #[.float .f64 ahi, .float .f64 blo] 68))).below' hW))
        clear hW cf cg s0 s1 HK
        go_wp2_with fail
        refine (HC.out _ _ _).mono ?_
        rintro e w3 ⟨rfl, rfl⟩
        obtain ⟨g, hg⟩ : ∃ g, aheadB 2 v B = g := ⟨_, rfl⟩
        rw [hg] at HE ⊢
        cases g
        all_goals (
          cases s
          all_goals (
            go_wp2
            go_roundw
            case rel => exact ⟨2, by go_num, by first | exact .inr (.inl rfl) | exact .inr (.inr (.inl rfl)) | exact .inr (.inr (.inr rfl)), by rw [HE.out]; rfl, by rw [HE.out]; rfl, HK2.out⟩
            case measure => simp [intOf])))
    · obtain ⟨B, hB⟩ : ∃ B, (foldS 2 o 2).1 = B := ⟨_, rfl⟩
      obtain ⟨Q, hQ⟩ : ∃ Q, (foldS 2 o 2).2 = Q := ⟨_, rfl⟩
      obtain ⟨v, hv⟩ : ∃ v, (o 3).getD 0 = v := ⟨_, rfl⟩
      obtain ⟨s, hs⟩ : ∃ s, (o 3).isSome = s := ⟨_, rfl⟩
      have hE := E1.out 2
      rw [hB, hQ, hv, hs] at hE
      have HE := Lib.hid hE
      rw [hv, hs] at HF3
      rw [hB, hQ]
      clear hB hQ hv hs hE HN H1 a0 a1 a2 m0 m1 m2
      have cf : wr.cell? ⟨pf, 0, none⟩ = some (.func (.func F) #[] #[]) := HK.out.1.f.cell 0
      have s0 : wr.cell? ⟨w1.heap.size, 4, none⟩ = some (.float .f64 ahi) := HK.out.2.cell 4
      have s1 : wr.cell? ⟨w1.heap.size, 5, none⟩ = some (.float .f64 bhi) := HK.out.2.cell 5
      have cg : (wr.alloc (.cells #[.float .f64 ahi, .float .f64 bhi] 68)).cell? ⟨pf, 0, none⟩ = some (.func (.func F) #[] #[]) := (HK.out.1.f.alloc _).cell 0
      cases Q
      all_goals (
        go_wp2_with fail
        refine (HF3.out _).mono ?_
        rintro e w2 ⟨rfl, hW⟩
        have HK2 := Lib.hid (And.intro (HK.out.1.below (below_next (below_new (Below.refl _ _) (.cells #[.float .f64 ahi, .float .f64 bhi] 68)) hW)) ((HK.out.2.below' (below_new (Below.refl _ _) (.cells #[.float .f64 ahi, .float .f64 bhi] 68))).below' hW))
        clear hW cf cg s0 s1 HK
        go_wp2_with fail
        refine (HC.out _ _ _).mono ?_
        rintro e w3 ⟨rfl, rfl⟩
        obtain ⟨g, hg⟩ : ∃ g, aheadB 2 v B = g := ⟨_, rfl⟩
        rw [hg] at HE ⊢
        cases g
        all_goals (
          cases s
          all_goals (
            go_wp2
            go_roundw
            case rel => exact ⟨3, by go_num, by first | exact .inr (.inl rfl) | exact .inr (.inr (.inl rfl)) | exact .inr (.inr (.inr rfl)), by rw [HE.out]; rfl, by rw [HE.out]; rfl, HK2.out⟩
            case measure => simp [intOf])))
    · clear HF1 HF2 HF3
      go_wp2
      go_ret2
      exact ⟨rfl, HK.out.1.bel⟩
set_option maxHeartbeats 4000000 in
set_option maxRecDepth 100000 in
theorem least1 (F : Nat) (hcf : ∀ args W, (callFunc F args).run Tryz.prog W = .ok (.enter F args) W) (sp : Nat → Nat → Option Nat) (hF : ∀ u v, u < 18446744073709551616 → v < 18446744073709551616 → ∀ W, Calls Tryz.prog F #[.int .i64 1, .float .f64 u, .float .f64 v] W fun e w' => e = fRet2 (sp u v) ∧ Below W.heap.size W w') (a b : Sp) (pf pa pb : Nat) (hal : a.lo < 18446744073709551616) (hah : a.hi < 18446744073709551616) (hbl : b.lo < 18446744073709551616) (hbh : b.hi < 18446744073709551616) (w : World) (h : CapW w w pf pa pb F a b) :
    Calls Tryz.prog 40 #[.int .i64 1, .func (.func 42) #[] #[], .pointer (some ⟨pf, 0, none⟩), .pointer (some ⟨pa, 0, none⟩), .pointer (some ⟨pb, 0, none⟩)] w fun e w' => e = .returned (.tuple #[.float .f64 (foldS 1 (fun k => sp (crnX a b k) (crnY a b k)) 3).1, .bool (foldS 1 (fun k => sp (crnX a b k) (crnY a b k)) 3).2]) ∧ Below w.heap.size w w' := by
  have HF0 := Lib.hid (fun W => hF a.lo b.lo hal hbl W)
  have HF1 := Lib.hid (fun W => hF a.lo b.hi hal hbh W)
  have HF2 := Lib.hid (fun W => hF a.hi b.lo hah hbl W)
  have HF3 := Lib.hid (fun W => hF a.hi b.hi hah hbh W)
  have HC := Lib.hid (fun x y W => cgt_calls x y W)
  have H0 := Lib.hid h
  obtain ⟨o, ho⟩ : ∃ o : Nat → Option Nat, (fun k => sp (crnX a b k) (crnY a b k)) = o := ⟨_, rfl⟩
  have q0 : sp a.lo b.lo = o 0 := by rw [← ho]; rfl
  have q1 : sp a.lo b.hi = o 1 := by rw [← ho]; rfl
  have q2 : sp a.hi b.lo = o 2 := by rw [← ho]; rfl
  have q3 : sp a.hi b.hi = o 3 := by rw [← ho]; rfl
  rw [q0] at HF0
  rw [q1] at HF1
  rw [q2] at HF2
  rw [q3] at HF3
  rw [ho]
  unfold fRet2 at HF0 HF1 HF2 HF3
  obtain ⟨alo, ahi, abd⟩ := a
  obtain ⟨blo, bhi, bbd⟩ := b
  have E0 : Hid (foldS 1 o 0 = ((o 0).getD 0, (o 0).isSome)) := by rw [Hid]; rfl
  have E1 : Hid (∀ k, foldS 1 o (k + 1) = (if aheadB 1 ((o (k + 1)).getD 0) (foldS 1 o k).1 then (o (k + 1)).getD 0 else (foldS 1 o k).1, (foldS 1 o k).2 && (o (k + 1)).isSome)) := by rw [Hid]; exact fun k => rfl
  clear h hF hal hah hbl hbh ho q0 q1 q2 q3
  have cf : w.cell? ⟨pf, 0, none⟩ = some (.func (.func F) #[] #[]) := H0.out.f.cell 0
  obtain ⟨⟨a0, a1, a2⟩, _⟩ := three H0.out.a
  obtain ⟨⟨m0, m1, m2⟩, _⟩ := three H0.out.b
  go_enter Tryz.func40, Tryz.ntmps40
  go_wp2_with fail
  refine (HF0.out _).mono ?_
  rintro e w1 ⟨rfl, hW⟩
  have H1 := Lib.hid (H0.out.below hW)
  clear hW H0 HF0 cf a0 a1 a2 m0 m1 m2
  obtain ⟨⟨a0, a1, a2⟩, _⟩ := three H1.out.a
  obtain ⟨⟨m0, m1, m2⟩, _⟩ := three H1.out.b
  have HN := Lib.hid (And.intro (Blk.new w1 #[.float .f64 alo, .float .f64 bhi, .float .f64 ahi, .float .f64 blo, .float .f64 ahi, .float .f64 bhi] 68) (H1.out.below (below_new (Below.refl w1.heap.size w1) (.cells #[.float .f64 alo, .float .f64 bhi, .float .f64 ahi, .float .f64 blo, .float .f64 ahi, .float .f64 bhi] 68))))
  go_wp2_with fail
  go_loopw [9, 10, 42] (fun b ok i wr => ∃ k : Nat, i = .int .i64 (k : Int) ∧ (k = 0 ∨ k = 1 ∨ k = 2 ∨ k = 3) ∧ b = .float .f64 (foldS 1 o k).1 ∧ ok = .bool (foldS 1 o k).2 ∧ Hid (CrnW w wr pf pa pb w1.heap.size F ⟨alo, ahi, abd⟩ ⟨blo, bhi, bbd⟩)) (fun _ _ i _ => 3 - (intOf i).toNat)
  case atStart => exact ⟨0, rfl, .inl rfl, by rw [E0.out], by rw [E0.out], ⟨HN.out.2, HN.out.1⟩⟩
  case round =>
    obtain ⟨k, rfl, hk, rfl, rfl, HK⟩ := hrel
    rcases hk with rfl | rfl | rfl | rfl
    · obtain ⟨B, hB⟩ : ∃ B, (foldS 1 o 0).1 = B := ⟨_, rfl⟩
      obtain ⟨Q, hQ⟩ : ∃ Q, (foldS 1 o 0).2 = Q := ⟨_, rfl⟩
      obtain ⟨v, hv⟩ : ∃ v, (o 1).getD 0 = v := ⟨_, rfl⟩
      obtain ⟨s, hs⟩ : ∃ s, (o 1).isSome = s := ⟨_, rfl⟩
      have hE := E1.out 0
      rw [hB, hQ, hv, hs] at hE
      have HE := Lib.hid hE
      rw [hv, hs] at HF1
      rw [hB, hQ]
      clear hB hQ hv hs hE HN H1 a0 a1 a2 m0 m1 m2
      have cf : wr.cell? ⟨pf, 0, none⟩ = some (.func (.func F) #[] #[]) := HK.out.1.f.cell 0
      have s0 : wr.cell? ⟨w1.heap.size, 0, none⟩ = some (.float .f64 alo) := HK.out.2.cell 0
      have s1 : wr.cell? ⟨w1.heap.size, 1, none⟩ = some (.float .f64 bhi) := HK.out.2.cell 1
      have cg : (wr.alloc (.cells #[.float .f64 alo, .float .f64 bhi] 68)).cell? ⟨pf, 0, none⟩ = some (.func (.func F) #[] #[]) := (HK.out.1.f.alloc _).cell 0
      cases Q
      all_goals (
        go_wp2_with fail
        refine (HF1.out _).mono ?_
        rintro e w2 ⟨rfl, hW⟩
        have HK2 := Lib.hid (And.intro (HK.out.1.below (below_next (below_new (Below.refl _ _) (.cells #[.float .f64 alo, .float .f64 bhi] 68)) hW)) ((HK.out.2.below' (below_new (Below.refl _ _) (.cells #[.float .f64 alo, .float .f64 bhi] 68))).below' hW))
        clear hW cf cg s0 s1 HK
        go_wp2_with fail
        refine (HC.out _ _ _).mono ?_
        rintro e w3 ⟨rfl, rfl⟩
        obtain ⟨g, hg⟩ : ∃ g, aheadB 1 v B = g := ⟨_, rfl⟩
        rw [hg] at HE ⊢
        cases g
        all_goals (
          cases s
          all_goals (
            go_wp2
            go_roundw
            case rel => exact ⟨1, by go_num, by first | exact .inr (.inl rfl) | exact .inr (.inr (.inl rfl)) | exact .inr (.inr (.inr rfl)), by rw [HE.out]; rfl, by rw [HE.out]; rfl, HK2.out⟩
            case measure => simp [intOf])))
    · obtain ⟨B, hB⟩ : ∃ B, (foldS 1 o 1).1 = B := ⟨_, rfl⟩
      obtain ⟨Q, hQ⟩ : ∃ Q, (foldS 1 o 1).2 = Q := ⟨_, rfl⟩
      obtain ⟨v, hv⟩ : ∃ v, (o 2).getD 0 = v := ⟨_, rfl⟩
      obtain ⟨s, hs⟩ : ∃ s, (o 2).isSome = s := ⟨_, rfl⟩
      have hE := E1.out 1
      rw [hB, hQ, hv, hs] at hE
      have HE := Lib.hid hE
      rw [hv, hs] at HF2
      rw [hB, hQ]
      clear hB hQ hv hs hE HN H1 a0 a1 a2 m0 m1 m2
      have cf : wr.cell? ⟨pf, 0, none⟩ = some (.func (.func F) #[] #[]) := HK.out.1.f.cell 0
      have s0 : wr.cell? ⟨w1.heap.size, 2, none⟩ = some (.float .f64 ahi) := HK.out.2.cell 2
      have s1 : wr.cell? ⟨w1.heap.size, 3, none⟩ = some (.float .f64 blo) := HK.out.2.cell 3
      have cg : (wr.alloc (.cells #[.float .f64 ahi, .float .f64 blo] 68)).cell? ⟨pf, 0, none⟩ = some (.func (.func F) #[] #[]) := (HK.out.1.f.alloc _).cell 0
      cases Q
      all_goals (
        go_wp2_with fail
        refine (HF2.out _).mono ?_
        rintro e w2 ⟨rfl, hW⟩
        have HK2 := Lib.hid (And.intro (HK.out.1.below (below_next (below_new (Below.refl _ _) (.cells #[.float .f64 ahi, .float .f64 blo] 68)) hW)) ((HK.out.2.below' (below_new (Below.refl _ _) (.cells #[.float .f64 ahi, .float .f64 blo] 68))).below' hW))
        clear hW cf cg s0 s1 HK
        go_wp2_with fail
        refine (HC.out _ _ _).mono ?_
        rintro e w3 ⟨rfl, rfl⟩
        obtain ⟨g, hg⟩ : ∃ g, aheadB 1 v B = g := ⟨_, rfl⟩
        rw [hg] at HE ⊢
        cases g
        all_goals (
          cases s
          all_goals (
            go_wp2
            go_roundw
            case rel => exact ⟨2, by go_num, by first | exact .inr (.inl rfl) | exact .inr (.inr (.inl rfl)) | exact .inr (.inr (.inr rfl)), by rw [HE.out]; rfl, by rw [HE.out]; rfl, HK2.out⟩
            case measure => simp [intOf])))
    · obtain ⟨B, hB⟩ : ∃ B, (foldS 1 o 2).1 = B := ⟨_, rfl⟩
      obtain ⟨Q, hQ⟩ : ∃ Q, (foldS 1 o 2).2 = Q := ⟨_, rfl⟩
      obtain ⟨v, hv⟩ : ∃ v, (o 3).getD 0 = v := ⟨_, rfl⟩
      obtain ⟨s, hs⟩ : ∃ s, (o 3).isSome = s := ⟨_, rfl⟩
      have hE := E1.out 2
      rw [hB, hQ, hv, hs] at hE
      have HE := Lib.hid hE
      rw [hv, hs] at HF3
      rw [hB, hQ]
      clear hB hQ hv hs hE HN H1 a0 a1 a2 m0 m1 m2
      have cf : wr.cell? ⟨pf, 0, none⟩ = some (.func (.func F) #[] #[]) := HK.out.1.f.cell 0
      have s0 : wr.cell? ⟨w1.heap.size, 4, none⟩ = some (.float .f64 ahi) := HK.out.2.cell 4
      have s1 : wr.cell? ⟨w1.heap.size, 5, none⟩ = some (.float .f64 bhi) := HK.out.2.cell 5
      have cg : (wr.alloc (.cells #[.float .f64 ahi, .float .f64 bhi] 68)).cell? ⟨pf, 0, none⟩ = some (.func (.func F) #[] #[]) := (HK.out.1.f.alloc _).cell 0
      cases Q
      all_goals (
        go_wp2_with fail
        refine (HF3.out _).mono ?_
        rintro e w2 ⟨rfl, hW⟩
        have HK2 := Lib.hid (And.intro (HK.out.1.below (below_next (below_new (Below.refl _ _) (.cells #[.float .f64 ahi, .float .f64 bhi] 68)) hW)) ((HK.out.2.below' (below_new (Below.refl _ _) (.cells #[.float .f64 ahi, .float .f64 bhi] 68))).below' hW))
        clear hW cf cg s0 s1 HK
        go_wp2_with fail
        refine (HC.out _ _ _).mono ?_
        rintro e w3 ⟨rfl, rfl⟩
        obtain ⟨g, hg⟩ : ∃ g, aheadB 1 v B = g := ⟨_, rfl⟩
        rw [hg] at HE ⊢
        cases g
        all_goals (
          cases s
          all_goals (
            go_wp2
            go_roundw
            case rel => exact ⟨3, by go_num, by first | exact .inr (.inl rfl) | exact .inr (.inr (.inl rfl)) | exact .inr (.inr (.inr rfl)), by rw [HE.out]; rfl, by rw [HE.out]; rfl, HK2.out⟩
            case measure => simp [intOf])))
    · clear HF1 HF2 HF3
      go_wp2
      go_ret2
      exact ⟨rfl, HK.out.1.bel⟩
end Go.Proofs.YtikdhkmcdmnadaaGreatFmt
