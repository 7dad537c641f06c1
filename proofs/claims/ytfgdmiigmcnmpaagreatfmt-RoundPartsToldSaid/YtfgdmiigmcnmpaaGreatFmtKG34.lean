import Derived.Test.YtfgdmiigmcnmpaaGreatFmtKG33
import Derived.Test.YtfgdmiigmcnmpaaGreatFmtJ29
set_option linter.unusedVariables false
set_option linter.unusedSimpArgs false
namespace Go.Proofs.YtfgdmiigmcnmpaaGreatFmt
open Go.RowKit
attribute [local go_sem ↓] Go.wp_at_zero Go.wp_at_succ

/-! ### round.rest, Sum2, Prod2 -/
def fRet3 (o : Option (Nat × Nat)) : Ending := .returned (.tuple #[.float .f64 (o.getD (0, 0)).1, .float .f64 (o.getD (0, 0)).2, .bool o.isSome])
theorem ret3_none {o : Option (Nat × Nat)} (h : o = none) : Ending.returned (.tuple #[.float .f64 0, .float .f64 0, .bool false]) = fRet3 o := by subst h; rfl
theorem ret3_some {o : Option (Nat × Nat)} {u v : Nat} (h : o = some (u, v)) : Ending.returned (.tuple #[.float .f64 u, .float .f64 v, .bool true]) = fRet3 o := by subst h; rfl
set_option exponentiation.threshold 6000 in
set_option maxHeartbeats 4000000 in
set_option maxRecDepth 100000 in
theorem rrest_calls (bx K N : Nat) (X : Int) (w : World) (hx : FVal w K N bx X) (hN : N ≤ 35) (hb : N ≤ 34 ∨ X.natAbs < 2 ^ 2239) (hX : X.natAbs < 2 ^ 4500) (hK : 1140 ≤ K) (hK2 : K ≤ 4000) :
    Calls Tryz.prog 48 #[.pointer (some ⟨bx, 0, none⟩)] w fun e w' => e = fRet3 (restS K X) ∧ Below w.heap.size w w' := by
  have hK' : 1074 < K := by omega
  have HT := Lib.hid (ftold_calls 0 bx K N X w hx hN hK' (by decide))
  rcases h0 : rndS 0 K X with _ | s
  · rw [h0] at HT
    have HR : Hid (restS K X = none) := by rw [Hid]; unfold restS; rw [h0, Option.bind_none]
    clear hx hN hb hX hK hK2 hK' h0
    go_enter Tryz.func48, Tryz.ntmps48
    go_wp2_with fail
    refine HT.out.mono ?_
    rintro e w1 ⟨rfl, hW⟩
    have H1 := Lib.hid hW
    clear hW HT
    unfold fRet2
    go_wp2
    go_ret3
    exact ⟨ret3_none HR.out, H1.out⟩
  · rw [h0] at HT
    obtain ⟨hs1, hs2, hcl⟩ := near_close hK' h0
    have HX := Lib.hid (fun W (hW : Below w.heap.size w W) => hx.keep hW)
    have hbx : bx < w.heap.size := hx.lt
    have HE := Lib.hid (fun W => exact_calls s K hs1 hs2 hK W)
    obtain ⟨S, hS⟩ : ∃ S, fv s * ((2 ^ (K - 1074) : Nat) : Int) = S := ⟨_, rfl⟩
    have hc : S = 0 ∨ (X.natAbs ≤ 2 * S.natAbs ∧ S.natAbs ≤ 2 * X.natAbs) := by
      rw [← hS]
      rcases hcl with h | h
      · left; rw [h, Int.zero_mul]
      · exact .inr h
    rw [hS] at HE
    have HSB := Lib.hid (fun bz bY W (hz : Blk W bz 64 (fC 2300 0 0 false (.slice none 0 0) 0)) (hx : FVal W K N bx X) (hy : FVal W K 1 bY S) (hnx : bx ≠ bz) (hny : bY ≠ bz) => subf_calls bz bx bY K N X S W hz hx hy hnx hny hN hb hX hc hK2)
    have HF := Lib.hid (fun b W (hx : FVal W (K + 64) 35 b ((X - S) * ((2 ^ 64 : Nat) : Int))) => f64_calls b (K + 64) 35 _ W hx (by decide) (by omega))
    have HRS := Lib.hid (fun (neg : Bool) (r : Nat) (c : Int) (hr : r ≤ INFR) (h : ∀ d : Int, 0 ≤ d → d ≤ 2 → sideS d neg r c = rndS d (K + 64) ((X - S) * ((2 ^ 64 : Nat) : Int))) => rest_of hK' h0 hr (by rw [hS]) (fun d h1 h2 => (h d h1 h2).trans (rndS_scale d hK' 64 _)))
    have HBX := Lib.hid hbx
    obtain ⟨o, ho⟩ : ∃ o, restS K X = o := ⟨_, rfl⟩
    rw [ho] at HRS ⊢
    clear hx hN hb hX hK hK2 hK' h0 hs1 hs2 hcl hbx hS hc ho
    go_enter Tryz.func48, Tryz.ntmps48
    go_wp2_with fail
    refine HT.out.mono ?_
    rintro e w1 ⟨rfl, hW⟩
    have H1 := Lib.hid (And.intro (HX.out _ hW) hW)
    clear hW HT HX
    unfold fRet2
    go_wp2_with fail
    refine (setprec_calls w1.heap.size _ (float_new w1)).mono ?_
    rintro e w2 ⟨rfl, hz2, hW2⟩
    have H2 := Lib.hid (And.intro hz2 ((below_new (Below.refl w1.heap.size w1) (.cells #[.int .u32 0, .int .u8 0, .int .i8 0, .int .u8 0, .bool false, .slice none 0 0, .int .i32 0] 64)).trans hW2))
    clear hz2 hW2
    go_wp2_with fail
    refine (HE.out _).mono ?_
    rintro e w3 ⟨rfl, hx3, hW3⟩
    have H3 := Lib.hid (And.intro hx3 hW3)
    clear hx3 hW3
    go_wp2_with fail
    have hs1 : bx < w1.heap.size := Nat.lt_of_lt_of_le HBX.out H1.out.2.size
    have hs2 : w1.heap.size < w2.heap.size := H2.out.1.lt
    refine (HSB.out w1.heap.size w2.heap.size w3 (H2.out.1.below' H3.out.2) ((H1.out.1.keep H2.out.2).keep H3.out.2) H3.out.1 (by omega) (by omega)).mono ?_
    rintro e w4 ⟨rfl, hf, hW4⟩
    have H4 : Hid (FVal w4 (K + 64) 35 w1.heap.size ((X - S) * ((2 ^ 64 : Nat) : Int)) ∧ Below w.heap.size w w4) := ⟨hf, below_next H1.out.2 ((H2.out.2.trans (H3.out.2.mono (Nat.le_of_lt hs2))).trans hW4)⟩
    clear hf hW4 hs1 hs2
    obtain ⟨neg, r, c, hr, hcb, hsd, HFC⟩ := HF.out w1.heap.size w4 H4.out.1
    have HRC := HRS.out neg r c hr hsd
    have HFH := Lib.hid HFC
    clear hr hcb hsd HFC
    rcases HRC with ⟨rfl, hlt, ho⟩ | ⟨hc, ho⟩
    · have ha := run_fadd 22 (add_zero_word (neg := neg) hlt)
      obtain ⟨x, hx⟩ : ∃ x, wordR neg r = x := ⟨_, rfl⟩
      obtain ⟨y, hy⟩ : ∃ x, sgnR neg r = x := ⟨_, rfl⟩
      rw [hx] at HFH ha
      rw [hy] at ha ho
      have HO := Lib.hid ho
      clear hx hy hlt ho
      go_wp2_with fail
      refine HFH.out.mono ?_
      rintro e w5 ⟨rfl, hW5⟩
      have H5 := Lib.hid (below_next H4.out.2 hW5)
      clear hW5
      unfold fRetA
      go_wp2
      go_ret3
      exact ⟨ret3_some HO.out, H5.out⟩
    · obtain ⟨x, hx⟩ : ∃ x, wordR neg r = x := ⟨_, rfl⟩
      rw [hx] at HFH
      have hcn : (c != 0) = true := by simp [bne]; exact hc
      have HO := Lib.hid ho
      clear hx hc ho
      go_wp2_with fail
      refine HFH.out.mono ?_
      rintro e w5 ⟨rfl, hW5⟩
      have H5 := Lib.hid (below_next H4.out.2 hW5)
      clear hW5
      unfold fRetA
      go_wp2
      go_ret3
      exact ⟨ret3_none HO.out, H5.out⟩
/-- what Sum2, Prod2 tell -/
def partS (c : Int) (u v : Nat) : Option (Nat × Nat) := if pairB 0 u v then restS 2148 (exS c u v) else none
set_option exponentiation.threshold 3000 in
theorem add_valR (x y : Int) : restS 1204 ((x * ((2 ^ 66 : Nat) : Int) + y * ((2 ^ 66 : Nat) : Int)) * ((2 ^ 64 : Nat) : Int)) = restS 2148 ((x + y) * ((2 ^ 1074 : Nat) : Int)) := by
  have h := restS_scale (K := 1204) (by decide) 944 ((x * ((2 ^ 66 : Nat) : Int) + y * ((2 ^ 66 : Nat) : Int)) * ((2 ^ 64 : Nat) : Int))
  rw [← h, ← Int.add_mul, Int.mul_assoc, Int.mul_assoc, pow_int 64 944, pow_int 66]
set_option exponentiation.threshold 3000 in
theorem mul_valR (x y : Int) : restS 2344 (x * ((2 ^ 66 : Nat) : Int) * (y * ((2 ^ 66 : Nat) : Int)) * ((2 ^ 64 : Nat) : Int)) = restS 2148 (x * y) := by
  have h := restS_scale (K := 2148) (by decide) 196 (x * y)
  rw [← h]
  refine congrArg (restS 2344) ?_
  rw [Int.mul_assoc x, Int.mul_left_comm _ y, ← Int.mul_assoc x y, Int.mul_assoc (x * y), pow_int 66 66, pow_int 132 64]
set_option exponentiation.threshold 6000 in
theorem add_bdR {x y : Int} (hx : x.natAbs < 2 ^ 2164) (hy : y.natAbs < 2 ^ 2164) : ((x + y) * ((2 ^ 64 : Nat) : Int)).natAbs < 2 ^ 2239 := by
  rw [Int.natAbs_mul, Int.natAbs_natCast]
  have h1 : (x + y).natAbs < 2 ^ 2165 := by
    have e : 2 ^ 2165 = 2 * 2 ^ 2164 := by rw [← Nat.pow_succ']
    rw [e]; omega
  have h := Nat.mul_lt_mul_of_pos_right h1 (Nat.pow_pos (n := 64) (a := 2) (by decide))
  rw [← Nat.pow_add] at h
  exact Nat.lt_of_lt_of_le h (Nat.pow_le_pow_right (by decide) (by decide))
set_option exponentiation.threshold 6000 in
theorem mul_bdR {x y : Int} (hx : x.natAbs < 2 ^ 2164) (hy : y.natAbs < 2 ^ 2164) : (x * y * ((2 ^ 64 : Nat) : Int)).natAbs < 2 ^ 4500 := by
  rw [Int.natAbs_mul, Int.natAbs_natCast, Int.natAbs_mul]
  have h1 : x.natAbs * y.natAbs < 2 ^ 2164 * 2 ^ 2164 := Nat.mul_lt_mul_of_lt_of_lt hx hy
  have h := Nat.mul_lt_mul_of_pos_right h1 (Nat.pow_pos (n := 64) (a := 2) (by decide))
  rw [← Nat.pow_add, ← Nat.pow_add] at h
  exact Nat.lt_of_lt_of_le h (Nat.pow_le_pow_right (by decide) (by decide))
end Go.Proofs.YtfgdmiigmcnmpaaGreatFmt
