/- Walks and plain laws of this seat's functions, part 38: G30. -/
import Derived.Test.YtikdhkmcdmnadaaGreatFmtBesafterJ35
import Derived.Test.YtikdhkmcdmnadaaGreatFmtBesafterJ37
set_option linter.unusedVariables false
set_option linter.unusedSimpArgs false
namespace Go.Proofs.YtikdhkmcdmnadaaGreatFmtBesafter
open Go.RowKit
attribute [local go_sem ↓] Go.wp_at_zero Go.wp_at_succ

/-! ### round.Next -/
theorem next_none {d : Int} {u : Nat} (h : pairB d u 0 = false) : nextS d u = none := by unfold nextS; rw [h, if_neg (by decide)]
theorem nextR_eq (up : Bool) (n : Bool) (r : Nat) : (if up then upR n r else downR n r) = nextR up n r := by unfold nextR; rfl
theorem nextR_le {up neg : Bool} {r : Nat} (hr : r ≤ INFR) : (nextR up neg r).2 ≤ INFR := by unfold nextR; cases up; exact downR_le hr; exact upR_le hr
set_option maxHeartbeats 2000000 in
set_option maxRecDepth 100000 in
theorem rnext_calls (d : Int) (u : Nat) (hu : u < 18446744073709551616) (w : World) :
    Calls Tryz.prog 12 #[.int .i64 d, .float .f64 u] w fun e w' => e = fRet2 (nextS d u) ∧ w = w' := by
  have HP := Lib.hid (fun W => pair_calls d u 0 hu (by decide) W)
  obtain ⟨b, hb⟩ : ∃ b, pairB d u 0 = b := ⟨_, rfl⟩
  rw [hb] at HP
  cases b
  · have HR : Hid (nextS d u = none) := next_none hb
    clear hb hu
    go_enter Tryz.func12, Tryz.ntmps12
    go_wp2_with fail
    refine (HP.out _).mono ?_
    rintro e w' ⟨rfl, rfl⟩
    go_wp2
    go_ret2
    exact ⟨ret2_none HR.out, rfl⟩
  · obtain ⟨fu, -, hd1, hd2⟩ := pairB_true hb
    obtain ⟨h1, h2⟩ := word_of hu fu
    obtain ⟨n, hn⟩ : ∃ n, fneg u = n := ⟨_, rfl⟩
    obtain ⟨r, hr⟩ : ∃ r, uabs u = r := ⟨_, rfl⟩
    have hle := Nat.le_of_lt (hr ▸ h2)
    rw [hn, hr] at h1
    obtain rfl | rfl | rfl : d = 0 ∨ d = 1 ∨ d = 2 := by omega
    · have HR : Hid (nextS 0 u = some (sgnR n r)) := by
        unfold nextS
        rw [Hid, hb, hn, hr, if_pos rfl, if_neg (by decide), if_neg (by decide)]
      have ha := run_fadd 22 (add_zero_word (neg := n) (hr ▸ h2))
      rw [← h1] at ha
      obtain ⟨s, hs⟩ : ∃ s, sgnR n r = s := ⟨_, rfl⟩
      rw [hs] at ha HR
      clear hb hu fu hd1 hd2 h1 h2 hn hr hle hs
      go_enter Tryz.func12, Tryz.ntmps12
      go_wp2_with fail
      refine (HP.out _).mono ?_
      rintro e w' ⟨rfl, rfl⟩
      go_wp2
      go_ret2
      exact ⟨ret2_some HR.out, rfl⟩
    · have HR : Hid (nextS 1 u = sideS 0 (nextR true n r).1 (nextR true n r).2 0) := by
        unfold nextS
        rw [Hid, hb, hn, hr, if_pos rfl, if_pos rfl]; rfl
      have HI := Lib.hid (fun W => inf_up W)
      have HN := Lib.hid (fun W => nextafter_calls true n r hle W)
      have HS := Lib.hid (fun W => side_calls 0 (nextR true n r).1 (nextR true n r).2 0 (by decide) (nextR_le hle) (by decide) W)
      rw [← h1] at HN
      obtain ⟨o, ho⟩ : ∃ o, sideS 0 (nextR true n r).1 (nextR true n r).2 0 = o := ⟨_, rfl⟩
      obtain ⟨s, hs⟩ : ∃ s, wordR (nextR true n r).1 (nextR true n r).2 = s := ⟨_, rfl⟩
      rw [ho] at HR HS
      rw [hs] at HN HS
      clear hb hu fu hd1 hd2 h1 h2 hn hr hle hs ho
      go_enter Tryz.func12, Tryz.ntmps12
      go_wp2_with fail
      refine (HP.out _).mono ?_
      rintro e w' ⟨rfl, rfl⟩
      go_wp2_with fail
      refine (HI.out _).mono ?_
      rintro e w' ⟨rfl, rfl⟩
      go_wp2_with fail
      refine (HN.out _).mono ?_
      rintro e w' ⟨rfl, rfl⟩
      go_wp2_with fail
      refine (HS.out _).mono ?_
      rintro e w' ⟨rfl, rfl⟩
      unfold fRet2
      go_wp2
      go_ret2
      rw [HR.out]
      exact ⟨rfl, rfl⟩
    · have HR : Hid (nextS 2 u = sideS 0 (nextR false n r).1 (nextR false n r).2 0) := by
        unfold nextS
        rw [Hid, hb, hn, hr, if_pos rfl, if_neg (by decide), if_pos rfl]; rfl
      have HI := Lib.hid (fun W => inf_down W)
      have HN := Lib.hid (fun W => nextafter_calls false n r hle W)
      have HS := Lib.hid (fun W => side_calls 0 (nextR false n r).1 (nextR false n r).2 0 (by decide) (nextR_le hle) (by decide) W)
      rw [← h1] at HN
      obtain ⟨o, ho⟩ : ∃ o, sideS 0 (nextR false n r).1 (nextR false n r).2 0 = o := ⟨_, rfl⟩
      obtain ⟨s, hs⟩ : ∃ s, wordR (nextR false n r).1 (nextR false n r).2 = s := ⟨_, rfl⟩
      rw [ho] at HR HS
      rw [hs] at HN HS
      clear hb hu fu hd1 hd2 h1 h2 hn hr hle hs ho
      go_enter Tryz.func12, Tryz.ntmps12
      go_wp2_with fail
      refine (HP.out _).mono ?_
      rintro e w' ⟨rfl, rfl⟩
      go_wp2_with fail
      refine (HI.out _).mono ?_
      rintro e w' ⟨rfl, rfl⟩
      go_wp2_with fail
      refine (HN.out _).mono ?_
      rintro e w' ⟨rfl, rfl⟩
      go_wp2_with fail
      refine (HS.out _).mono ?_
      rintro e w' ⟨rfl, rfl⟩
      unfold fRet2
      go_wp2
      go_ret2
      rw [HR.out]
      exact ⟨rfl, rfl⟩
end Go.Proofs.YtikdhkmcdmnadaaGreatFmtBesafter
