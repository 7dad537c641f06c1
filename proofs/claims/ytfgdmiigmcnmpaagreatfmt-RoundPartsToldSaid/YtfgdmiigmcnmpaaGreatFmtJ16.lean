/- Walks and plain laws of this seat's functions, part 16: N8 N9 N10. -/
import Derived.Test.YtfgdmiigmcnmpaaGreatFmtJ15
set_option linter.unusedVariables false
set_option linter.unusedSimpArgs false
namespace Go.Proofs.YtfgdmiigmcnmpaaGreatFmt
open Go.RowKit

/-- the words of x - y behind the first k words, when one is borrowed -/
structure DecInv (B : Nat) (xs : List Nat) (y k : Nat) (rs : List Nat) : Prop where
  len : rs.length = k
  bd : ∀ d ∈ rs, d < B
  eq : val B rs + y = val B (xs.take k) + B ^ k
structure DecDone (B : Nat) (xs : List Nat) (y : Nat) (rs : List Nat) (v : Nat) : Prop where
  len : rs.length = xs.length
  bd : ∀ d ∈ rs, d < B
  v1 : v ≤ 1
  eq : val B rs + y = val B xs + B ^ xs.length * v
theorem DecInv.stop {B : Nat} {xs rs : List Nat} {y k x u : Nat} (h : DecInv B xs y k rs) (hk : k < xs.length) (hx : xs.getD k 0 = x) (hb : ∀ d ∈ xs, d < B) (hu : x = u + 1) : DecDone B xs y (rs ++ [u] ++ xs.drop (k + 1)) 0 := by
  have hxb := getD_mem_lt hb hk
  rw [hx] at hxb
  refine ⟨by simp [h.len]; omega, fun d hd => ?_, by omega, ?_⟩
  · simp only [List.mem_append, List.mem_singleton] at hd
    rcases hd with (hd | hd) | hd
    · exact h.bd d hd
    · omega
    · exact hb d (List.mem_of_mem_drop hd)
  · have e := h.eq
    have e2 := val_split B xs (k + 1) (by omega)
    rw [val_take B hk, hx, hu] at e2
    rw [e2, val_append, val_append, List.length_append, h.len]
    simp only [val, List.length_singleton, Nat.mul_zero, Nat.add_zero, Nat.mul_add, Nat.mul_one]
    omega
theorem DecInv.more {B : Nat} (hB : 0 < B) {xs rs : List Nat} {y k z : Nat} (h : DecInv B xs y k rs) (hk : k < xs.length) (hx : xs.getD k 0 = 0) (h1 : z + 1 = B) : DecInv B xs y (k + 1) (rs ++ [z]) := by
  refine ⟨by simp [h.len], fun d hd => ?_, ?_⟩
  · simp only [List.mem_append, List.mem_singleton] at hd
    rcases hd with hd | hd
    · exact h.bd d hd
    · omega
  · have e := h.eq
    rw [val_take B hk, hx, val_append, h.len, Nat.pow_succ]
    simp only [val, Nat.mul_zero, Nat.add_zero]
    have : B ^ k * B = B ^ k * z + B ^ k := by rw [← h1, Nat.mul_add, Nat.mul_one]
    omega
theorem DecInv.done {B : Nat} {xs rs : List Nat} {y : Nat} (h : DecInv B xs y xs.length rs) : DecDone B xs y rs 1 := by
  have e := h.eq
  rw [List.take_length] at e
  exact ⟨h.len, h.bd, by omega, by rw [Nat.mul_one]; exact e⟩
theorem dec_first {B : Nat} (hB : 0 < B) {xs : List Nat} {y x : Nat} (h0 : 0 < xs.length) (hx : xs.getD 0 0 = x) (hb : ∀ d ∈ xs, d < B) (hy : y < B) :
    (y ≤ x → DecDone B xs y ([(x + B - y) % B] ++ xs.drop 1) 0) ∧ (x < y → DecInv B xs y 1 [(x + B - y) % B]) := by
  have hxb := getD_mem_lt hb h0
  rw [hx] at hxb
  have e2 := val_split B xs 1 (by omega)
  have e3 := val_take B h0
  rw [hx, List.take_zero] at e3
  simp only [val, Nat.pow_zero, Nat.one_mul, Nat.zero_add] at e3
  refine ⟨fun h => ⟨by simp; omega, fun d hd => ?_, by omega, ?_⟩, fun h => ⟨rfl, fun d hd => ?_, ?_⟩⟩
  · simp only [List.mem_append, List.mem_singleton] at hd
    rcases hd with hd | hd
    · subst hd; exact Nat.mod_lt _ hB
    · exact hb d (List.mem_of_mem_drop hd)
  · have hm : (x + B - y) % B = x - y := by
      rw [show x + B - y = (x - y) + B from by omega, Nat.add_mod_right, Nat.mod_eq_of_lt (by omega)]
    rw [hm, val_append, e2, e3]
    simp only [val, List.length_singleton, Nat.mul_zero, Nat.add_zero]
    omega
  · simp at hd; subst hd; exact Nat.mod_lt _ hB
  · have hm : (x + B - y) % B = x + B - y := Nat.mod_eq_of_lt (by omega)
    rw [e3, hm]
    simp only [val, Nat.mul_zero, Nat.add_zero, Nat.pow_one]
    omega

set_option maxHeartbeats 2000000 in
set_option maxRecDepth 100000 in
theorem subVW_calls (a : Addr) (n y c cx g o : Nat) (xs pre zs post : List Nat) (w : World) (hn : xs.length = n) (hg : Blk w g 106 (i64s (pre ++ (zs ++ post)))) (hz : zs.length = n) (hpo : pre.length = o) (hzb : ∀ d ∈ pre ++ (zs ++ post), d < B64)
    (hA : CellsAt w a xs) (hq : (a = ⟨g, o, none⟩ ∧ xs = zs) ∨ a.block ≠ g) (hxb : ∀ d ∈ xs, d < B64) (hn0 : 0 < n) (hyb : y < B64) (hnb : n ≤ 1099511627776) (hob : o ≤ 1099511627776) (hnc : n ≤ c) (hncx : n ≤ cx) (hpl : ∃ ca ta, w.heap[a.block]? = some (.cells ca ta (0, 0))) :
    Calls Tryz.prog 141 #[.slice (some ⟨g, o, none⟩) n c, .slice (some a) n cx, .int .u64 y] w fun e w' => ∃ (v : Nat) (rs : List Nat), e = .returned (.int .u64 v) ∧ Blk w' g 106 (i64s (pre ++ (rs ++ post))) ∧ DecDone B64 xs y rs v ∧ Only g w w' := by
  subst hn
  have HZB := Lib.hid hzb
  have HXB := Lib.hid hxb
  have hS : Src w g pre zs post (some a) xs := Src.cells hA hpo (hq.imp (fun h => ⟨h.1, by rw [h.2, List.take_length]⟩) id)
  have HS := Lib.hid hS
  have hc0 := hA 0 hn0
  obtain ⟨x, hx⟩ : ∃ x, xs.getD 0 0 = x := ⟨_, rfl⟩
  have hxk := getD_mem_lt hxb hn0
  have HF := Lib.hid (dec_first (B := B64) (by decide) hn0 hx hxb hyb)
  rw [hx] at hc0 hxk
  rw [show a.add 0 = a from by simp [Addr.add]] at hc0
  obtain ⟨s, hs⟩ : ∃ s, s = (x + 2 ^ 64 - y - 0) % 2 ^ 64 := ⟨_, rfl⟩
  obtain ⟨b, hb⟩ : ∃ b, b = if x < y + 0 then 1 else 0 := ⟨_, rfl⟩
  have HC := fun W => bsub_calls x y 0 s b (.inl rfl) hs hb W
  have HC' := Lib.hid HC
  obtain ⟨z, hz1, hz2, _, _⟩ := hg.at64 (i := o) (by simp; omega) hzb
  have hlz : ((xs.length : Int) == 0) = false := by simp; intro e; rw [e] at hn0; simp at hn0
  clear hzb hxb hS HC
  have HQ := Lib.hid hq
  have HHS := Lib.hid hs
  have HHB := Lib.hid hb
  have HA := Lib.hid hA
  clear hq hs hb hA
  go_enter Tryz.func141, Tryz.ntmps141
  go_wp2_with fail
  refine (HC'.out _).mono ?_
  rintro e w' ⟨rfl, rfl⟩
  by_cases hxy : y ≤ x
  · obtain rfl : b = 0 := by have := HHB.out; rw [if_neg (by omega)] at this; exact this
    have HS0' : Hid (s = (x + B64 - y) % B64) := by have := HHS.out; rw [Hid, this, Nat.sub_zero]
    have hi1 : (0 : Int) < (xs.length : Int) := by omega
    clear HHS HHB
    rcases HQ.out with ⟨rfl, hqe⟩ | hqe
    · have HQE := Lib.hid hqe
      have hnp := fun W => neq_ptr_same W ⟨g, o, none⟩
      clear hqe HQ
      go_wp2
      go_quiet (fail)
      go_wp2
      go_ret
      have hst := HF.out.1 hxy
      rw [← HS0'.out] at hst
      refine ⟨0, _, rfl, ?_, hst, ((Only.refl g w).setCell rfl _).drewN _⟩
      have hB1 := hg.set64 o s _ rfl
      rw [show (pre ++ (zs ++ post)).set o s = pre ++ (([] ++ [s]) ++ zs.drop (0 + 1) ++ post) from set_at pre [] 0 s zs post o xs.length hpo rfl hz hn0] at hB1
      rw [HQE.out]; exact hB1
    · have hqe2 : ¬ g = a.block := fun h => hqe h.symm
      obtain ⟨ca, ta, hpl⟩ := hpl
      have hB1 := hg.set64 o s _ rfl
      rw [show (pre ++ (zs ++ post)).set o s = pre ++ (([] ++ [s]) ++ zs.drop (0 + 1) ++ post) from set_at pre [] 0 s zs post o xs.length hpo rfl hz hn0] at hB1
      have hnp := neq_ptr_other (w.setCell ⟨g, o, none⟩ (.int .u64 s)) (a := ⟨g, o, none⟩) (b := a) (by rintro rfl; exact hqe rfl) hB1 ((Below.heap_setCell w ⟨g, o, none⟩ _ a.block hqe).trans hpl)
      have hnp2 := fun n => neq_ptr_other ((w.setCell ⟨g, o, none⟩ (.int .u64 s)).drewN n) (a := ⟨g, o, none⟩) (b := a) (by rintro rfl; exact hqe rfl) hB1 ((Below.heap_setCell w ⟨g, o, none⟩ _ a.block hqe).trans hpl)
      have hsl1 := fun W => slice_from 61 (by kernel_rfl) W (some ⟨g, o, none⟩) xs.length c 1 1 rfl hn0 hnc
      have hsl2 := fun W => slice_from 61 (by kernel_rfl) W (some a) xs.length cx 1 1 rfl hn0 hncx
      obtain ⟨R, hR⟩ : ∃ R, R = (i64s (pre ++ ((([] ++ [s]) ++ xs.drop (0 + 1)) ++ post))).toArray := ⟨_, rfl⟩
      have hcp := fun m ty => copy_rest (w := (w.setCell ⟨g, o, none⟩ (.int .u64 s)).drewN m) (k := 0 + 1) (rs := [] ++ [s]) hB1 hpo rfl hz rfl hn0 (a := a) (fun j _ hj => (cell_far (by rw [Addr.add_block]; exact hqe) (HA.out j hj))) (c - 1) (cx - 1) ty (adv (some a) 1 cx) (adv (some ⟨g, o, none⟩) 1 c) (adv_or a hncx) (by
        rcases adv_or (⟨g, o, none⟩ : Addr) hnc (k := 1) with h | h
        · left; rw [h]; unfold Addr.add; rw [if_neg (by omega)]
        · exact .inr h)
      simp only [Nat.zero_add] at hcp hR
      simp only [← hR] at hcp
      have HR := Lib.hid hR
      have HB1 := Lib.hid hB1
      clear hB1 hR
      go_wp2
      go_quiet (fail)
      go_wp2
      go_region_held3 (fun w' => True) (first | exact True.intro) (fail)
      go_wp2
      go_ret
      have hst := HF.out.1 hxy
      rw [← HS0'.out] at hst
      refine ⟨0, _, rfl, ?_, hst, (((Only.refl g w).setCell rfl _).drewN _).setRow _⟩
      rw [HR.out]
      exact Blk.setRow HB1.out _
  · obtain rfl : b = 1 := by have := HHB.out; rw [if_pos (by omega)] at this; exact this
    have hst := HF.out.2 (by omega)
    rw [show (x + B64 - y) % B64 = s from by rw [HHS.out, Nat.sub_zero]] at hst
    have HST := Lib.hid hst
    clear hst HHS HHB hxy
    have hi1 : (0 : Int) < (xs.length : Int) := by omega
    have hB1 := hg.set64 o s _ rfl
    rw [show (pre ++ (zs ++ post)).set o s = pre ++ (([] ++ [s]) ++ zs.drop (0 + 1) ++ post) from set_at pre [] 0 s zs post o xs.length hpo rfl hz hn0] at hB1
    have HB1 := Lib.hid hB1
    clear hB1
    go_wp2
    go_loopw [9] (fun i wr => ∃ (k : Nat) (rs : List Nat), i = .int .i64 k ∧ 1 ≤ k ∧ k ≤ xs.length ∧ Hid (DecInv B64 xs y k rs) ∧ Hid (Blk wr g 106 (i64s (pre ++ ((rs ++ zs.drop k) ++ post)))) ∧ Hid (Only g w wr)) (fun i _ => xs.length - (intOf i).toNat)
    case atStart => exact ⟨1, [s], rfl, by omega, by omega, HST.out, HB1.out, (Only.refl g w).setCell rfl _⟩
    case round =>
      obtain ⟨k, rs, rfl, hk1, hk, hI, hZ, hW⟩ := hrel
      have hrl := hI.out.len
      by_cases hlt : k < xs.length
      · have hbb := bd_at HZB.out hI.out.bd k
        obtain ⟨z', hz1', hz2', _, _⟩ := hZ.out.at64 (i := o + k) (by simp; omega) hbb
        have HBB := Lib.hid hbb
        clear hbb
        obtain ⟨a', ha, hca⟩ := HS.out wr rs k hrl hZ.out hW.out k (Nat.le_refl _) hlt
        cases ha
        have hxk' := getD_mem_lt HXB.out hlt
        obtain ⟨x', hx'⟩ : ∃ x', xs.getD k 0 = x' := ⟨_, rfl⟩
        rw [hx'] at hca hxk'
        have HX' := Lib.hid hx'
        clear hx'
        have hi2 : (k : Int) < (xs.length : Int) := by omega
        have hi3 : (0 : Int) ≤ (k : Int) := by omega
        have hwk : IntKind.i64.wrap ((k : Int) + 1) = (k : Int) + 1 := IntWalk.i64_in _ (by omega)
        by_cases hxm : x' = 0
        · subst hxm
          go_wp2
          go_roundw
          case rel =>
            have hst := hI.out.more (by decide) hlt HX'.out rfl
            have hb := hZ.out.set64 (o + k) 18446744073709551615 _ rfl
            rw [set_at pre rs k _ zs post o xs.length hpo hrl hz hlt] at hb
            exact ⟨k + 1, _, by go_num, by omega, by omega, hst, hb, hW.out.setCell rfl _⟩
          case measure => simp [intOf]; omega
        · have hxn : ((x' : Int) != 0) = true := by simp; omega
          obtain ⟨u, hu⟩ : ∃ u, x' = u + 1 := ⟨x' - 1, by omega⟩
          have hst := hI.out.stop hlt HX'.out HXB.out hu
          have hb := hZ.out.set64 (o + k) u ((x' : Int) - 1) (by omega)
          rw [set_at pre rs k _ zs post o xs.length hpo hrl hz hlt] at hb
          have HST' := Lib.hid hst
          have HB := Lib.hid hb
          clear hst hb
          have hx1 : IntKind.u64.wrap ((x' : Int) - 1) = (x' : Int) - 1 := by rw [IntKind.wrap_u64]; simp only [B64] at hxk'; omega
          have HXM := Lib.hid hxm
          have HXK' := Lib.hid hxk'
          have HU := Lib.hid hu
          clear hxm hxk' hu
          rcases HQ.out with ⟨rfl, hqe⟩ | hqe
          · have HQE := Lib.hid hqe
            clear hqe HQ
            have hzx : z' = x' := by
              have h1 := hca
              rw [show (⟨g, o, none⟩ : Addr).add k = ⟨g, o + k, none⟩ from by unfold Addr.add; rw [if_neg (by omega)], hz1'] at h1
              simp at h1; omega
            subst hzx
            have hnp := fun W => neq_ptr_same W ⟨g, o, none⟩
            go_wp2
            go_quiet (fail)
            go_wp2
            go_ret
            refine ⟨0, _, rfl, ?_, HST'.out, (hW.out.setCell rfl _).drewN _⟩
            have e := HB.out
            rw [← HQE.out] at e
            exact e
          · have hqe2 : ¬ g = a.block := fun h => hqe h.symm
            obtain ⟨ca, ta, hpl⟩ := hpl
            have hpl2 : (wr.setCell ⟨g, o + k, none⟩ (.int .u64 ((x' : Int) - 1))).heap[a.block]? = some (.cells ca ta (0, 0)) := ((hW.out.setCell rfl _).block _ hqe).trans hpl
            have hnp := neq_ptr_other (wr.setCell ⟨g, o + k, none⟩ (.int .u64 ((x' : Int) - 1))) (a := ⟨g, o, none⟩) (b := a) (by rintro rfl; exact hqe rfl) HB.out hpl2
            have hnp2 := fun n => neq_ptr_other ((wr.setCell ⟨g, o + k, none⟩ (.int .u64 ((x' : Int) - 1))).drewN n) (a := ⟨g, o, none⟩) (b := a) (by rintro rfl; exact hqe rfl) HB.out hpl2
            have hsl1 := fun W => slice_from 61 (by kernel_rfl) W (some ⟨g, o, none⟩) xs.length c (k + 1) ((k : Int) + 1) (by omega) hlt hnc
            have hsl2 := fun W => slice_from 61 (by kernel_rfl) W (some a) xs.length cx (k + 1) ((k : Int) + 1) (by omega) hlt hncx
            obtain ⟨R, hR⟩ : ∃ R, R = (i64s (pre ++ (((rs ++ [u]) ++ xs.drop (k + 1)) ++ post))).toArray := ⟨_, rfl⟩
            have hcp := fun m ty => copy_rest (w := (wr.setCell ⟨g, o + k, none⟩ (.int .u64 ((x' : Int) - 1))).drewN m) (k := k + 1) (rs := rs ++ [u]) HB.out hpo (by simp [hrl]) hz rfl hlt (a := a) (fun j _ hj => (cell_far (by rw [Addr.add_block]; exact hqe) ((hW.out.cell (by rw [Addr.add_block]; exact hqe)).trans (HA.out j hj)))) (c - (k + 1)) (cx - (k + 1)) ty (adv (some a) (k + 1) cx) (adv (some ⟨g, o, none⟩) (k + 1) c) (adv_or a (by omega)) (by
              rcases adv_or (⟨g, o, none⟩ : Addr) hnc (k := k + 1) with h | h
              · left; rw [h]; unfold Addr.add; rw [if_neg (by omega)]
              · exact .inr h)
            simp only [← hR] at hcp
            have HR := Lib.hid hR
            clear hR
            go_wp2
            go_quiet (fail)
            go_wp2
            go_region_held3 (fun w' => True) (first | exact True.intro) (fail)
            go_wp2
            go_ret
            refine ⟨0, _, rfl, ?_, HST'.out, ((hW.out.setCell rfl _).drewN _).setRow _⟩
            rw [HR.out]
            exact Blk.setRow HB.out _
      · obtain rfl : k = xs.length := by omega
        have hZ' := hZ.out
        rw [List.drop_of_length_le (by omega), List.append_nil] at hZ'
        have HZ' := Lib.hid hZ'
        clear hZ'
        go_wp2
        go_ret
        exact ⟨1, rs, rfl, HZ'.out, hI.out.done, hW.out⟩
end Go.Proofs.YtfgdmiigmcnmpaaGreatFmt

namespace Go.Proofs.YtfgdmiigmcnmpaaGreatFmt
open Go.RowKit

/-- a whole number in words of its own: nil, or the first part of a block known whole -/
def OwnN (w : World) (B m : Nat) (v : Value) : Prop :=
  (v = .slice none 0 0 ∧ m = 0) ∨ ∃ g Z n, v = .slice (some ⟨g, 0, none⟩) n (List.length Z) ∧ B ≤ g ∧ Blk w g 106 (i64s Z) ∧ (∀ d ∈ Z, d < B64) ∧ n ≤ Z.length ∧ Z.length ≤ 1099511627776 ∧ Trimmed (Z.take n) ∧ val B64 (Z.take n) = m
theorem OwnN.keep {w w' : World} {B m : Nat} {v : Value} (h : OwnN w B m v) (hb : Below w.heap.size w w') : OwnN w' B m v := by
  rcases h with h | ⟨g, Z, n, h1, h2, h3, h4⟩
  · exact .inl h
  · exact .inr ⟨g, Z, n, h1, h2, h3.below' hb, h4⟩
theorem OwnN.lower {w : World} {B B' m : Nat} {v : Value} (h : OwnN w B m v) (hb : B' ≤ B) : OwnN w B' m v := by
  rcases h with h | ⟨g, Z, n, h1, h2, h3⟩
  · exact .inl h
  · exact .inr ⟨g, Z, n, h1, Nat.le_trans hb h2, h3⟩
/-- a number's words, to be read -/
theorem OwnN.get {w : World} {B m : Nat} {v : Value} (h : OwnN w B m v) : ∃ (A : Option Addr) (n c : Nat) (xs : List Nat), v = .slice A n c ∧ xs.length = n ∧ n ≤ c ∧ c ≤ 1099511627776 ∧ (∀ d ∈ xs, d < B64) ∧ Trimmed xs ∧ val B64 xs = m ∧
    (∀ a, A = some a → CellsAt w a xs ∧ a.block < w.heap.size ∧ B ≤ a.block ∧ ∃ ca ta, w.heap[a.block]? = some (.cells ca ta (0, 0))) ∧ (0 < n → ∃ a, A = some a) ∧ (∀ t base, u64.Row t w base A xs → True) := by
  rcases h with ⟨rfl, rfl⟩ | ⟨g, Z, n, rfl, h2, h3, h4, h5, h6, h7, h8⟩
  · exact ⟨none, 0, 0, [], rfl, rfl, by omega, by omega, by simp, .inl rfl, rfl, by simp, by omega, fun _ _ _ => trivial⟩
  · refine ⟨some ⟨g, 0, none⟩, n, Z.length, Z.take n, rfl, by simp; omega, h5, h6, fun d hd => h4 d (List.mem_of_mem_take hd), h7, h8, fun a ha => ?_, fun _ => ⟨_, rfl⟩, fun _ _ _ => trivial⟩
    cases ha
    exact ⟨CellsAt.blk h3 (pre := []) (post := Z.drop n) (by simp) rfl, h3.lt, h2, _, _, h3⟩
theorem OwnN.row {w : World} {B m : Nat} {v : Value} (h : OwnN w B m v) : ∃ (A : Option Addr) (n c : Nat) (xs : List Nat), v = .slice A n c ∧ xs.length = n ∧ n ≤ c ∧ c ≤ 1099511627776 ∧ u64.Row 106 w w.heap.size A xs ∧ Trimmed xs ∧ val B64 xs = m ∧ (0 < n → ∃ a, A = some a) ∧ (∀ a, A = some a → a.block < w.heap.size) := by
  rcases h with ⟨rfl, rfl⟩ | ⟨g, Z, n, rfl, h2, h3, h4, h5, h6, h7, h8⟩
  · exact ⟨none, 0, 0, [], rfl, rfl, by omega, by omega, Rd.Row.nil _ _ _ _ _, .inl rfl, rfl, by omega, by simp⟩
  · exact ⟨some ⟨g, 0, none⟩, n, Z.length, Z.take n, rfl, by simp; omega, h5, h6, u64row h3 h4 n, h7, h8, fun _ => ⟨_, rfl⟩, fun a ha => by cases ha; exact h3.lt⟩
/-- what is told of a block after 'norm' -/
theorem OwnN.norm {w : World} {g B : Nat} {Z : List Nat} {n m : Nat} (hb : Blk w g 106 (i64s Z)) (hg : B ≤ g) (hz : ∀ d ∈ Z, d < B64) (hn : n ≤ Z.length) (hl : Z.length ≤ 1099511627776) (hv : val B64 (Z.take n) = m) :
    OwnN w B m (.slice (some ⟨g, 0, none⟩) (trimLen (Z.take n) n) Z.length) := by
  have h1 := trimLen_le (Z.take n) n
  have e : Z.take (trimLen (Z.take n) n) = (Z.take n).take (trimLen (Z.take n) n) := by rw [List.take_take, Nat.min_eq_left h1]
  refine .inr ⟨g, Z, _, rfl, hg, hb, hz, by omega, hl, ?_, ?_⟩
  · rw [e]; exact trimLen_trimmed _ _ (by simp; omega)
  · rw [e, trimLen_val B64 _ _ (by simp; omega), List.take_of_length_le (l := Z.take n) (by rw [List.length_take]; exact Nat.min_le_left _ _)]; exact hv
theorem zeros_bd (n : Nat) : ∀ d ∈ List.replicate n 0, d < B64 := fun d hd => by
  rw [List.eq_of_mem_replicate hd]; decide

set_option maxHeartbeats 2000000 in
set_option maxRecDepth 100000 in
theorem nrsh_calls (x : Value) (m s : Nat) (w : World) (B : Nat) (hx : OwnN w B m x) (hs0 : 0 < s) (hs : s ≤ 1099511627776) (L : Nat) (hmL : m < B64 ^ L) (hL : L ≤ 4294967296) :
    Calls Tryz.prog 192 #[.slice none 0 0, x, .int .u64 s] w fun e w' => ∃ v, e = .returned v ∧ OwnN w' w.heap.size (m / 2 ^ s) v ∧ Below w.heap.size w w' := by
  obtain ⟨A, l, c, xs, rfl, hl, hlc, hcb, hA, ht, hm, hne, hlt⟩ := hx.row
  have hxl : xs.length ≤ 4294967296 := Nat.le_trans (len_le_of_val (B := B64) (by decide) ht (by rw [hm]; exact hmL)) hL
  clear hmL hL
  have hsz : ((s : Int) == 0) = false := by simp; omega
  obtain ⟨q, hq⟩ : ∃ q, q = s / 64 := ⟨_, rfl⟩
  have hq1 : (s : Int) / 64 = (q : Int) := by omega
  obtain ⟨r, hr⟩ : ∃ r, r = s % 64 := ⟨_, rfl⟩
  have hr1 : (s : Int) % 64 = (r : Int) := by omega
  have hrb : r < 64 := by omega
  have hqb : q ≤ 1099511627776 := by omega
  have HQ := Lib.hid hq
  have HR := Lib.hid hr
  have HM := Lib.hid hm
  subst hl
  clear hq hr hm
  by_cases hql : xs.length ≤ q
  · have h1 : ((xs.length : Int) - (q : Int) ≤ 0) := by omega
    go_enter Tryz.func192, Tryz.ntmps192
    go_wp2
    go_ret
    refine ⟨_, rfl, .inl ⟨rfl, ?_⟩, Below.refl _ _⟩
    rw [← HM.out]
    exact Nat.div_eq_of_lt (right_all64 (by rw [← HQ.out]; exact hql) (u64bd hA))
  · have h1 : ¬ ((xs.length : Int) - (q : Int) ≤ 0) := by omega
    obtain ⟨n, hn⟩ : ∃ n, n = xs.length - q := ⟨_, rfl⟩
    have hn1 : (xs.length : Int) - (q : Int) = (n : Int) := by omega
    have hn2 : (xs.length : Int) - (n : Int) = (q : Int) := by omega
    have hn0 : 0 < n := by omega
    obtain ⟨a, rfl⟩ := hne (by omega)
    have hab := hlt a rfl
    have hsl := fun W => slice_from 62 (by kernel_rfl) W (some a) xs.length c q (q : Int) rfl (by omega) hlc
    rw [show adv (some a) q c = some (a.add q) from by unfold adv; rw [if_neg (by omega)]; rfl, show xs.length - q = n from hn.symm] at hsl
    have HMK := Lib.hid (fun W => nmake_new n W hn0 (by omega) none 0 0 hn0)
    have hln : xs.length = q + n := by omega
    have HFL := Lib.hid (right_floor64 (xs := xs) (n := s) (by rw [← HQ.out]; omega) (u64bd hA))
    have HLN := Lib.hid hln
    have HN1 := Lib.hid hn
    clear hn hln
    go_enter Tryz.func192, Tryz.ntmps192
    go_wp2_with fail
    refine (HMK.out _).mono ?_
    rintro e w' ⟨k, hk1, hk2, rfl, rfl⟩
    have hB0 := Blk.new w (madeCells #[.int .u64 0] k) 106
    rw [made64] at hB0
    have HB0 := Lib.hid hB0
    clear hB0
    have hA1 := hA.below (below_new (Below.refl _ _) (.cells (madeCells #[.int .u64 0] k) 106))
    have hfin : ∀ (w2 : World) (ys : List Nat), ys.length = n → (∀ d ∈ ys, d < B64) → Blk w2 w.heap.size 106 (i64s (ys ++ (List.replicate k 0).drop n)) → val B64 ys = m / 2 ^ s →
        Calls Tryz.prog 120 #[.slice (some ⟨w.heap.size, 0, none⟩) n k] w2 fun e w' => e = .returned (.slice (some ⟨w.heap.size, 0, none⟩) (trimLen ys n) k) ∧ w2 = w' ∧ OwnN w2 w.heap.size (m / 2 ^ s) (.slice (some ⟨w.heap.size, 0, none⟩) (trimLen ys n) k) := by
      intro w2 ys hyl hyb hb hv
      have hl2 : (ys ++ (List.replicate k 0).drop n).length = k := by simp; omega
      have hzb : ∀ d ∈ ys ++ (List.replicate k 0).drop n, d < B64 := fun d hd => by
        rcases List.mem_append.1 hd with hd | hd
        · exact hyb d hd
        · exact zeros_bd _ d (List.mem_of_mem_drop hd)
      have e : (ys ++ (List.replicate k 0).drop n).take n = ys := by rw [List.take_append_of_le_length (by omega), List.take_of_length_le (by omega)]
      have hr := u64row (base := 0) hb hzb n
      rw [e] at hr
      refine (norm_calls _ n k _ _ ys w2 hyl hr (by omega) hk1).mono ?_
      rintro e' w' ⟨rfl, rfl⟩
      have := OwnN.norm (B := w.heap.size) (n := n) (m := m / 2 ^ s) hb (Nat.le_refl _) hzb (by omega) (by omega) (by rw [e]; exact hv)
      rw [e, hl2] at this
      exact ⟨rfl, rfl, this⟩
    have HFIN := Lib.hid hfin
    clear hfin
    by_cases hr0 : r = 0
    · subst hr0
      have hcp := fun ty => copy64 HB0.out 0 n k (c - q) 62 62 ty (.inl rfl) (some (a.add q)) (xs.drop q) (by simp; have := HLN.out; omega) (fun j hj => ⟨_, rfl, (CellsAt.row hA1).drop q j (by simp; have := HLN.out; omega)⟩) (by simp; omega) _ (.inl rfl)
      obtain ⟨R, hR⟩ : ∃ R, R = (i64s ((List.replicate k 0).take 0 ++ (xs.drop q ++ (List.replicate k 0).drop (0 + n)))).toArray := ⟨_, rfl⟩
      simp only [← hR] at hcp
      have HRR := Lib.hid hR
      clear hR
      have hz0 : ((0 : Nat) : Int) = 0 := rfl
      go_wp2_with fail
      have hb2 := HB0.out.setRow (i64s ((List.replicate k 0).take 0 ++ (xs.drop q ++ (List.replicate k 0).drop (0 + n))))
      rw [← HRR.out, List.take_zero, List.nil_append, Nat.zero_add] at hb2
      refine (HFIN.out _ (xs.drop q) (by simp; have := HLN.out; omega) (fun d hd => u64bd hA d (List.mem_of_mem_drop hd)) hb2 (by
        have := HFL.out
        rw [← HR.out, ← HQ.out, Nat.pow_zero, Nat.div_one] at this
        rw [← HM.out]; exact this.symm)).mono ?_
      rintro e w' ⟨rfl, rfl, hO⟩
      have HO := Lib.hid hO
      clear hO
      go_wp2
      go_ret
      exact ⟨_, rfl, HO.out, below_setRow (below_new (Below.refl _ _) _) (Nat.le_refl _) _⟩
    · have hrz : ((r : Int) == 0) = false := by simp; omega
      have HRS := Lib.hid (rshVU_calls (some (a.add q)) n (c - q) k w.heap.size r _ _ (xs.drop q) (List.replicate k 0) (w.alloc (.cells (madeCells #[.int .u64 0] k) 106)) (by simp; have := HLN.out; omega) (u64drop hA1 q) HB0.out (by simp; omega) (zeros_bd _) (by omega) hrb hn0 (by omega) (fun a' ha' => by cases ha'; rw [Addr.add_block]; exact hab))
      go_wp2_with fail
      refine HRS.out.mono ?_
      rintro e w2 ⟨v, ys, rfl, hb2, hyl, hyb, hyv, hw2⟩
      have HB2 := Lib.hid hb2
      have HYB := Lib.hid hyb
      have HYV := Lib.hid hyv
      clear hb2 hyb hyv
      go_wp2_with fail
      refine (HFIN.out _ ys hyl HYB.out HB2.out (by
        rw [HYV.out, ← HM.out, HR.out, HQ.out]; exact HFL.out.symm)).mono ?_
      rintro e w' ⟨rfl, rfl, hO⟩
      have HO := Lib.hid hO
      clear hO
      go_wp2
      go_ret
      exact ⟨_, rfl, HO.out, (below_new (Below.refl _ _) _).trans hw2⟩
end Go.Proofs.YtfgdmiigmcnmpaaGreatFmt

namespace Go.Proofs.YtfgdmiigmcnmpaaGreatFmt
open Go.RowKit

theorem slice_mid (T : Nat) (hT : Tryz.prog.underlying T = some (.slice 106)) (W : World) (A : Option Addr) (n c k j : Nat) (i i' : Int) (hi : i = k) (hj : i' = j) (hk : k ≤ j) (hnc : j ≤ c) :
    (Instr.slice T (.slice A n c) (some (.int .i64 i)) (some (.int .i64 i')) none).run Tryz.prog W = .ok (.slice (adv A k c) (j - k) (c - k)) W := by
  subst hi hj
  obtain ⟨u, hu, _, hs, _⟩ := word_info
  simp [Instr.slice, run_underlying hT, Instr.sliceBounds, Instr.sliceBound, asIntOf, hk, hnc, sizeOf, typeInfo, hu, hs, adv]
theorem adv_zero (g o c : Nat) (hc : 0 < c) : adv (some ⟨g, o, none⟩) 0 c = some ⟨g, o, none⟩ := by
  unfold adv; rw [if_neg (by omega)]; rfl
theorem adv_at (g o k c : Nat) (hc : k < c) : adv (some ⟨g, o, none⟩) k c = some ⟨g, o + k, none⟩ := by
  unfold adv; rw [if_neg (by omega)]
  simp [Addr.add]

theorem OwnN.addr {w : World} {B m : Nat} {v : Value} (h : OwnN w B m v) : ∃ (A : Option Addr) (n c : Nat) (xs : List Nat), v = .slice A n c ∧ xs.length = n ∧ n ≤ c ∧ c ≤ 1099511627776 ∧ (∀ d ∈ xs, d < B64) ∧ Trimmed xs ∧ val B64 xs = m ∧
    (0 < n → ∃ g, A = some ⟨g, 0, none⟩ ∧ CellsAt w ⟨g, 0, none⟩ xs ∧ g < w.heap.size ∧ ∃ ca ta, w.heap[g]? = some (.cells ca ta (0, 0))) := by
  rcases h with ⟨rfl, rfl⟩ | ⟨g, Z, n, rfl, h2, h3, h4, h5, h6, h7, h8⟩
  · exact ⟨none, 0, 0, [], rfl, rfl, by omega, by omega, by simp, .inl rfl, rfl, by omega⟩
  · exact ⟨some ⟨g, 0, none⟩, n, Z.length, Z.take n, rfl, by simp; omega, h5, h6, fun d hd => h4 d (List.mem_of_mem_take hd), h7, h8, fun _ => ⟨g, rfl, CellsAt.blk h3 (pre := []) (post := Z.drop n) (by simp) rfl, h3.lt, _, _, h3⟩⟩
/-- memory for n words: the old one, if there is room, or new one -/
theorem nmake_dest (zv : Value) (mz n : Nat) (w : World) (B : Nat) (hz : OwnN w B mz zv) (hB : B ≤ w.heap.size) (h0 : 0 < n) (hn : n ≤ 8589934592) :
    Calls Tryz.prog 118 #[zv, .int .i64 n] w fun e w' => ∃ (g : Nat) (Z : List Nat), e = .returned (.slice (some ⟨g, 0, none⟩) n Z.length) ∧ B ≤ g ∧ Blk w' g 106 (i64s Z) ∧ (∀ d ∈ Z, d < B64) ∧ n ≤ Z.length ∧ Z.length ≤ 1099511627776 ∧ Below w.heap.size w w' ∧ (w.heap.size ≤ g ∨ w' = w) := by
  have fresh : ∀ (A : Option Addr) (l c : Nat), c < n → Calls Tryz.prog 118 #[.slice A l c, .int .i64 n] w fun e w' => ∃ (g : Nat) (Z : List Nat), e = .returned (.slice (some ⟨g, 0, none⟩) n Z.length) ∧ B ≤ g ∧ Blk w' g 106 (i64s Z) ∧ (∀ d ∈ Z, d < B64) ∧ n ≤ Z.length ∧ Z.length ≤ 1099511627776 ∧ Below w.heap.size w w' ∧ (w.heap.size ≤ g ∨ w' = w) := by
    intro A l c hc
    refine (nmake_new n w h0 (by omega) A l c hc).mono ?_
    rintro e w' ⟨k, hk1, hk2, rfl, rfl⟩
    have hB0 := Blk.new w (madeCells #[.int .u64 0] k) 106
    rw [made64] at hB0
    exact ⟨_, _, by rw [List.length_replicate], hB, hB0, zeros_bd k, by simp; omega, by simp; omega, below_new (Below.refl _ _) _, .inl (Nat.le_refl _)⟩
  rcases hz with ⟨rfl, rfl⟩ | ⟨g, Z, l, rfl, h2, h3, h4, h5, h6, h7, h8⟩
  · exact fresh none 0 0 h0
  · rcases Nat.lt_or_ge Z.length n with h | h
    · exact fresh _ _ _ h
    · refine (nmake_fit _ l Z.length n w h h6).mono ?_
      rintro e w' ⟨rfl, rfl⟩
      exact ⟨g, Z, rfl, h2, h3, h4, h, h6, Below.refl _ _, .inr rfl⟩
/-- no words at all -/
theorem OwnN.empty {w : World} {B mz : Nat} {A : Option Addr} {n c : Nat} (h : OwnN w B mz (.slice A n c)) : OwnN w B 0 (.slice A 0 c) := by
  rcases h with ⟨h, _⟩ | ⟨g, Z, l, h1, h2, h3, h4, h5, h6, h7, h8⟩
  · injection h with h1 h2 h3; subst h1 h3; exact .inl ⟨rfl, rfl⟩
  · injection h1 with h1 h2' h3'; subst h1 h3'
    exact .inr ⟨g, Z, 0, rfl, h2, h3, h4, by omega, h6, .inl rfl, rfl⟩
theorem OwnN.shape {w : World} {B mz : Nat} {v : Value} (h : OwnN w B mz v) : ∃ A n c, v = .slice A n c ∧ c ≤ 1099511627776 := by
  rcases h with ⟨h, _⟩ | ⟨g, Z, l, h1, h2, h3, h4, h5, h6, h7, h8⟩
  · exact ⟨_, _, _, h, by omega⟩
  · exact ⟨_, _, _, h1, h6⟩

set_option maxHeartbeats 1000000 in
theorem nset_calls (zv x : Value) (mz m : Nat) (w : World) (B B1 : Nat) (hz : OwnN w B mz zv) (hB : B ≤ w.heap.size) (hx : OwnN w B1 m x) (L : Nat) (hmL : m < B64 ^ L) (hL : L ≤ 4294967296) :
    Calls Tryz.prog 114 #[zv, x] w fun e w' => ∃ v, e = .returned v ∧ OwnN w' B m v ∧ Below B w w' := by
  obtain ⟨A, n, c, xs, rfl, hl, hlc, hcb, hxb, ht, hm, hA⟩ := hx.addr
  have hxl : n ≤ 4294967296 := by rw [← hl]; exact Nat.le_trans (len_le_of_val (B := B64) (by decide) ht (by rw [hm]; exact hmL)) hL
  clear hmL hL
  have HM := Lib.hid hm
  clear hm
  rcases Nat.eq_zero_or_pos n with h0 | h0
  · subst h0
    obtain rfl := List.eq_nil_of_length_eq_zero hl
    obtain ⟨zA, zn, zc, rfl, hzc⟩ := hz.shape
    have HMK := Lib.hid (fun W => nmake_fit zA zn zc 0 W (by omega) hzc)
    have HE := Lib.hid hz.empty
    have hcp := fun W ty => run_copy_none (P := Tryz.prog) W 62 62 ty 106 zA A 0 zc 0 c (by kernel_rfl) (by kernel_rfl) rfl
    go_enter Tryz.func114, Tryz.ntmps114
    go_wp2_with fail
    refine (HMK.out _).mono ?_
    rintro e w' ⟨rfl, rfl⟩
    go_wp2
    go_ret
    refine ⟨_, rfl, ?_, Below.refl _ _⟩
    rw [← HM.out]; exact HE.out
  · obtain ⟨g1, rfl, hA1, hgl, _⟩ := hA h0
    have HMK := Lib.hid (nmake_dest zv mz n w B hz hB h0 (by omega))
    obtain ⟨zA, zn, zc, rfl, hzc⟩ := hz.shape
    go_enter Tryz.func114, Tryz.ntmps114
    go_wp2_with fail
    refine HMK.out.mono ?_
    rintro e w1 ⟨g, Z, rfl, hBg, hZ, hZb, hnZ, hZl, hw1, hq⟩
    have hcp := fun ty => copy64 hZ 0 n Z.length c 62 62 ty (.inl rfl) (some ⟨g1, 0, none⟩) xs hl (fun j hj => ⟨_, rfl, (hA1.below hw1 hgl) j (by omega)⟩) (by omega) _ (.inl rfl)
    have hb2 := hZ.setRow (i64s (Z.take 0 ++ (xs ++ Z.drop (0 + n))))
    obtain ⟨R, hR⟩ : ∃ R, R = (i64s (Z.take 0 ++ (xs ++ Z.drop (0 + n)))).toArray := ⟨_, rfl⟩
    simp only [← hR] at hcp hb2
    have HR := Lib.hid hR
    rw [List.take_zero, List.nil_append, Nat.zero_add] at hb2
    have HB2 := Lib.hid hb2
    have hl2 : (xs ++ Z.drop n).length = Z.length := by simp; omega
    have HL2 := Lib.hid hl2
    have HW := Lib.hid hw1
    clear hR hb2 hl2 hZ hw1
    go_wp2
    go_ret
    refine ⟨_, rfl, .inr ⟨g, xs ++ Z.drop n, n, by rw [HL2.out]; rfl, hBg, HB2.out, fun d hd => ?_, by rw [HL2.out]; exact hnZ, by rw [HL2.out]; omega, ?_, ?_⟩, below_setRow (HW.out.mono hB) hBg _⟩
    · rcases List.mem_append.1 hd with hd | hd
      · exact hxb d hd
      · exact hZb d (List.mem_of_mem_drop hd)
    · rw [List.take_append_of_le_length (by omega), List.take_of_length_le (by omega)]; exact ht
    · rw [List.take_append_of_le_length (by omega), List.take_of_length_le (by omega)]; exact HM.out
end Go.Proofs.YtfgdmiigmcnmpaaGreatFmt
