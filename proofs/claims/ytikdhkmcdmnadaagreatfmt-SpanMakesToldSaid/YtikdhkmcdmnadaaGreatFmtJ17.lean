/- Walks and plain laws of this seat's functions, part 17: N7 N8. -/
import Derived.LaidEqlPtr
import Derived.Test.YtikdhkmcdmnadaaGreatFmtJ16
set_option linter.unusedVariables false
set_option linter.unusedSimpArgs false
namespace Go.Proofs.YtikdhkmcdmnadaaGreatFmt
open Go.RowKit

theorem neq_ptr_same (w : World) (a : Addr) : (binOp .neq 124 (.pointer (some a)) (.pointer (some a))).run Tryz.prog w = .ok (.bool false) w := by
  obtain ⟨i, hi, _⟩ := word_info
  have hp : Tryz.prog.underlying 124 = some (.pointer 109) := by kernel_rfl
  have h : ∀ d : Nat, (Op.equalIn (d + 1) 124 (.pointer (some a)) (.pointer (some a))).run Tryz.prog w = .ok true w := fun d => by
    simp [Op.equalIn, run_underlying hp, sizeOf, typeInfo, hi, run_sameAddr_same]
  simp only [binOp]
  simp [Op.equal, Op.maxDepth, h 9999]
theorem neq_ptr_other (w : World) {a b : Addr} {ca cb : Array Value} {ta tb : TypeId} (hne : a ≠ b) (ha : w.heap[a.block]? = some (.cells ca ta (0, 0))) (hb : w.heap[b.block]? = some (.cells cb tb (0, 0))) :
    (binOp .neq 124 (.pointer (some a)) (.pointer (some b))).run Tryz.prog w = .ok (.bool true) w := by
  obtain ⟨i, hi, _, hs, _⟩ := word_info
  have hp : Tryz.prog.underlying 124 = some (.pointer 109) := by kernel_rfl
  have h : ∀ d : Nat, (Op.equalIn (d + 1) 124 (.pointer (some a)) (.pointer (some b))).run Tryz.prog w = .ok false w := fun d => by
    simp [Op.equalIn, run_underlying hp, sizeOf, typeInfo, hi, hs, run_sameAddr_other w hne ha hb]
  simp only [binOp]
  simp [Op.equal, Op.maxDepth, h 9999]

set_option maxHeartbeats 2000000 in
set_option maxRecDepth 100000 in
theorem addVW_calls (a : Addr) (n y c cx g o : Nat) (xs pre zs post : List Nat) (w : World) (hn : xs.length = n) (hg : Blk w g 109 (i64s (pre ++ (zs ++ post)))) (hz : zs.length = n) (hpo : pre.length = o) (hzb : ∀ d ∈ pre ++ (zs ++ post), d < B64)
    (hA : CellsAt w a xs) (hq : (a = ⟨g, o, none⟩ ∧ xs = zs) ∨ a.block ≠ g) (hxb : ∀ d ∈ xs, d < B64) (hn0 : 0 < n) (hyb : y < B64) (hnb : n ≤ 1099511627776) (hob : o ≤ 1099511627776) (hnc : n ≤ c) (hncx : n ≤ cx) (hpl : ∃ ca ta, w.heap[a.block]? = some (.cells ca ta (0, 0))) :
    Calls Tryz.prog 80 #[.slice (some ⟨g, o, none⟩) n c, .slice (some a) n cx, .int .u64 y] w fun e w' => ∃ (v : Nat) (rs : List Nat), e = .returned (.int .u64 v) ∧ Blk w' g 109 (i64s (pre ++ (rs ++ post))) ∧ IncDone B64 xs y rs v ∧ Only g w w' := by
  subst hn
  have HZB := Lib.hid hzb
  have HXB := Lib.hid hxb
  have hS : Src w g pre zs post (some a) xs := Src.cells hA hpo (hq.imp (fun h => ⟨h.1, by rw [h.2, List.take_length]⟩) id)
  have HS := Lib.hid hS
  have hc0 := hA 0 hn0
  obtain ⟨x, hx⟩ : ∃ x, xs.getD 0 0 = x := ⟨_, rfl⟩
  have hxk := getD_mem_lt hxb hn0
  have HF := Lib.hid (inc_first (B := B64) (by decide) hn0 hx hxb hyb)
  rw [hx] at hc0 hxk
  rw [show a.add 0 = a from by simp [Addr.add]] at hc0
  obtain ⟨s, hs⟩ : ∃ s, s = (x + y + 0) % 2 ^ 64 := ⟨_, rfl⟩
  obtain ⟨b, hb⟩ : ∃ b, b = (x + y + 0) / 2 ^ 64 := ⟨_, rfl⟩
  have HC := fun W => badd_calls x y 0 s b (.inl rfl) hs hb W
  have HC' := Lib.hid HC
  obtain ⟨z, hz1, hz2, _, _⟩ := hg.at64 (i := o) (by simp; omega) hzb
  have hlz : ((xs.length : Int) == 0) = false := by simp; intro e; rw [e] at hn0; simp at hn0
  clear hzb hxb hS HC
  have HQ := Lib.hid hq
  have HHS := Lib.hid hs
  have HHB := Lib.hid hb
  have HA := Lib.hid hA
  clear hq hs hb hA
  go_enter Tryz.func80, Tryz.ntmps80
  go_wp2_with fail
  refine (HC'.out _).mono ?_
  rintro e w' ⟨rfl, rfl⟩
  by_cases hxy : x + y < 18446744073709551616
  · obtain rfl : b = 0 := by have := HHB.out; omega
    have HS0' : Hid (s = (x + y) % B64) := by have := HHS.out; rw [Hid, this, Nat.add_zero]
    have hi1 : (0 : Int) < (xs.length : Int) := by omega
    clear HHS HHB
    rcases HQ.out with ⟨rfl, hqe⟩ | hqe
    · have HQE := Lib.hid hqe
      have hnp := fun W => neq_ptr_same W ⟨g, o, none⟩
      clear hqe HQ
      go_wp2
      go_quiet (fail)
      go_wp2
      go_ret
      have hst := HF.out.1 hxy
      rw [← HS0'.out] at hst
      refine ⟨0, _, rfl, ?_, hst, ((Only.refl g w).setCell rfl _).drewN _⟩
      have hB1 := hg.set64 o s _ rfl
      rw [show (pre ++ (zs ++ post)).set o s = pre ++ (([] ++ [s]) ++ zs.drop (0 + 1) ++ post) from set_at pre [] 0 s zs post o xs.length hpo rfl hz hn0] at hB1
      rw [HQE.out]; exact hB1
    · have hqe2 : ¬ g = a.block := fun h => hqe h.symm
      obtain ⟨ca, ta, hpl⟩ := hpl
      have hB1 := hg.set64 o s _ rfl
      rw [show (pre ++ (zs ++ post)).set o s = pre ++ (([] ++ [s]) ++ zs.drop (0 + 1) ++ post) from set_at pre [] 0 s zs post o xs.length hpo rfl hz hn0] at hB1
      have hnp := neq_ptr_other (w.setCell ⟨g, o, none⟩ (.int .u64 s)) (a := ⟨g, o, none⟩) (b := a) (by rintro rfl; exact hqe rfl) hB1 ((Below.heap_setCell w ⟨g, o, none⟩ _ a.block hqe).trans hpl)
      have hnp2 := fun n => neq_ptr_other ((w.setCell ⟨g, o, none⟩ (.int .u64 s)).drewN n) (a := ⟨g, o, none⟩) (b := a) (by rintro rfl; exact hqe rfl) hB1 ((Below.heap_setCell w ⟨g, o, none⟩ _ a.block hqe).trans hpl)
      have hsl1 := fun W => slice_from 79 (by kernel_rfl) W (some ⟨g, o, none⟩) xs.length c 1 1 rfl hn0 hnc
      have hsl2 := fun W => slice_from 79 (by kernel_rfl) W (some a) xs.length cx 1 1 rfl hn0 hncx
      obtain ⟨R, hR⟩ : ∃ R, R = (i64s (pre ++ ((([] ++ [s]) ++ xs.drop (0 + 1)) ++ post))).toArray := ⟨_, rfl⟩
      have hcp := fun m ty => copy_rest (w := (w.setCell ⟨g, o, none⟩ (.int .u64 s)).drewN m) (k := 0 + 1) (rs := [] ++ [s]) hB1 hpo rfl hz rfl hn0 (a := a) (fun j _ hj => (cell_far (by rw [Addr.add_block]; exact hqe) (HA.out j hj))) (c - 1) (cx - 1) ty (adv (some a) 1 cx) (adv (some ⟨g, o, none⟩) 1 c) (adv_or a hncx) (by
        rcases adv_or (⟨g, o, none⟩ : Addr) hnc (k := 1) with h | h
        · left; rw [h]; unfold Addr.add; rw [if_neg (by omega)]
        · exact .inr h)
      simp only [Nat.zero_add] at hcp hR
      simp only [← hR] at hcp
      have HR := Lib.hid hR
      have HB1 := Lib.hid hB1
      clear hB1 hR
      go_wp2
      go_quiet (fail)
      go_wp2
      go_region_held3 (fun w' => True) (first | exact True.intro) (fail)
      go_wp2
      go_ret
      have hst := HF.out.1 hxy
      rw [← HS0'.out] at hst
      refine ⟨0, _, rfl, ?_, hst, (((Only.refl g w).setCell rfl _).drewN _).setRow _⟩
      rw [HR.out]
      exact Blk.setRow HB1.out _
  · obtain rfl : b = 1 := by have := HHB.out; simp only [B64] at *; omega
    have hst := HF.out.2 (by simp only [B64]; omega)
    rw [show (x + y) % B64 = s from by rw [HHS.out, Nat.add_zero]] at hst
    have HST := Lib.hid hst
    clear hst HHS HHB hxy
    have hi1 : (0 : Int) < (xs.length : Int) := by omega
    have hB1 := hg.set64 o s _ rfl
    rw [show (pre ++ (zs ++ post)).set o s = pre ++ (([] ++ [s]) ++ zs.drop (0 + 1) ++ post) from set_at pre [] 0 s zs post o xs.length hpo rfl hz hn0] at hB1
    have HB1 := Lib.hid hB1
    clear hB1
    go_wp2
    go_loopw [9] (fun i wr => ∃ (k : Nat) (rs : List Nat), i = .int .i64 k ∧ 1 ≤ k ∧ k ≤ xs.length ∧ Hid (IncInv B64 xs y k rs) ∧ Hid (Blk wr g 109 (i64s (pre ++ ((rs ++ zs.drop k) ++ post)))) ∧ Hid (Only g w wr)) (fun i _ => xs.length - (intOf i).toNat)
    case atStart => exact ⟨1, [s], rfl, by omega, by omega, HST.out, HB1.out, (Only.refl g w).setCell rfl _⟩
    case round =>
      obtain ⟨k, rs, rfl, hk1, hk, hI, hZ, hW⟩ := hrel
      have hrl := hI.out.len
      by_cases hlt : k < xs.length
      · have hbb := bd_at HZB.out hI.out.bd k
        obtain ⟨z', hz1', hz2', _, _⟩ := hZ.out.at64 (i := o + k) (by simp; omega) hbb
        have HBB := Lib.hid hbb
        clear hbb
        obtain ⟨a', ha, hca⟩ := HS.out wr rs k hrl hZ.out hW.out k (Nat.le_refl _) hlt
        cases ha
        have hxk' := getD_mem_lt HXB.out hlt
        obtain ⟨x', hx'⟩ : ∃ x', xs.getD k 0 = x' := ⟨_, rfl⟩
        rw [hx'] at hca hxk'
        have HX' := Lib.hid hx'
        clear hx'
        have hi2 : (k : Int) < (xs.length : Int) := by omega
        have hi3 : (0 : Int) ≤ (k : Int) := by omega
        have hwk : IntKind.i64.wrap ((k : Int) + 1) = (k : Int) + 1 := IntWalk.i64_in _ (by omega)
        by_cases hxm : x' = 18446744073709551615
        · subst hxm
          go_wp2
          go_roundw
          case rel =>
            have hst := hI.out.more (by decide) hlt HX'.out rfl
            have hb := hZ.out.set64 (o + k) 0 _ rfl
            rw [set_at pre rs k _ zs post o xs.length hpo hrl hz hlt] at hb
            exact ⟨k + 1, _, by go_num, by omega, by omega, hst, hb, hW.out.setCell rfl _⟩
          case measure => simp [intOf]; omega
        · have hxn : ((x' : Int) != 18446744073709551615) = true := by simp; omega
          have hst := hI.out.stop hlt HX'.out HXB.out (by simp only [B64] at *; omega)
          have hb := hZ.out.set64 (o + k) (x' + 1) ((x' : Int) + 1) (by omega)
          rw [set_at pre rs k _ zs post o xs.length hpo hrl hz hlt] at hb
          have HST' := Lib.hid hst
          have HB := Lib.hid hb
          clear hst hb
          have hx1 : IntKind.u64.wrap ((x' : Int) + 1) = (x' : Int) + 1 := by rw [IntKind.wrap_u64]; simp only [B64] at hxk'; omega
          have HXM := Lib.hid hxm
          have HXK' := Lib.hid hxk'
          clear hxm hxk'
          rcases HQ.out with ⟨rfl, hqe⟩ | hqe
          · have HQE := Lib.hid hqe
            clear hqe HQ
            have hzx : z' = x' := by
              have h1 := hca
              rw [show (⟨g, o, none⟩ : Addr).add k = ⟨g, o + k, none⟩ from by unfold Addr.add; rw [if_neg (by omega)], hz1'] at h1
              simp at h1; omega
            subst hzx
            have hnp := fun W => neq_ptr_same W ⟨g, o, none⟩
            go_wp2
            go_quiet (fail)
            go_wp2
            go_ret
            refine ⟨0, _, rfl, ?_, HST'.out, (hW.out.setCell rfl _).drewN _⟩
            have e := HB.out
            rw [← HQE.out] at e
            exact e
          · have hqe2 : ¬ g = a.block := fun h => hqe h.symm
            obtain ⟨ca, ta, hpl⟩ := hpl
            have hpl2 : (wr.setCell ⟨g, o + k, none⟩ (.int .u64 ((x' : Int) + 1))).heap[a.block]? = some (.cells ca ta (0, 0)) := ((hW.out.setCell rfl _).block _ hqe).trans hpl
            have hnp := neq_ptr_other (wr.setCell ⟨g, o + k, none⟩ (.int .u64 ((x' : Int) + 1))) (a := ⟨g, o, none⟩) (b := a) (by rintro rfl; exact hqe rfl) HB.out hpl2
            have hnp2 := fun n => neq_ptr_other ((wr.setCell ⟨g, o + k, none⟩ (.int .u64 ((x' : Int) + 1))).drewN n) (a := ⟨g, o, none⟩) (b := a) (by rintro rfl; exact hqe rfl) HB.out hpl2
            have hsl1 := fun W => slice_from 79 (by kernel_rfl) W (some ⟨g, o, none⟩) xs.length c (k + 1) ((k : Int) + 1) (by omega) hlt hnc
            have hsl2 := fun W => slice_from 79 (by kernel_rfl) W (some a) xs.length cx (k + 1) ((k : Int) + 1) (by omega) hlt hncx
            obtain ⟨R, hR⟩ : ∃ R, R = (i64s (pre ++ (((rs ++ [x' + 1]) ++ xs.drop (k + 1)) ++ post))).toArray := ⟨_, rfl⟩
            have hcp := fun m ty => copy_rest (w := (wr.setCell ⟨g, o + k, none⟩ (.int .u64 ((x' : Int) + 1))).drewN m) (k := k + 1) (rs := rs ++ [x' + 1]) HB.out hpo (by simp [hrl]) hz rfl hlt (a := a) (fun j _ hj => (cell_far (by rw [Addr.add_block]; exact hqe) ((hW.out.cell (by rw [Addr.add_block]; exact hqe)).trans (HA.out j hj)))) (c - (k + 1)) (cx - (k + 1)) ty (adv (some a) (k + 1) cx) (adv (some ⟨g, o, none⟩) (k + 1) c) (adv_or a (by omega)) (by
              rcases adv_or (⟨g, o, none⟩ : Addr) hnc (k := k + 1) with h | h
              · left; rw [h]; unfold Addr.add; rw [if_neg (by omega)]
              · exact .inr h)
            simp only [← hR] at hcp
            have HR := Lib.hid hR
            clear hR
            go_wp2
            go_quiet (fail)
            go_wp2
            go_region_held3 (fun w' => True) (first | exact True.intro) (fail)
            go_wp2
            go_ret
            refine ⟨0, _, rfl, ?_, HST'.out, ((hW.out.setCell rfl _).drewN _).setRow _⟩
            rw [HR.out]
            exact Blk.setRow HB.out _
      · obtain rfl : k = xs.length := by omega
        have hZ' := hZ.out
        rw [List.drop_of_length_le (by omega), List.append_nil] at hZ'
        have HZ' := Lib.hid hZ'
        clear hZ'
        go_wp2
        go_ret
        exact ⟨1, rs, rfl, HZ'.out, hI.out.done, hW.out⟩
end Go.Proofs.YtikdhkmcdmnadaaGreatFmt

namespace Go.Proofs.YtikdhkmcdmnadaaGreatFmt
open Go.RowKit

/-- the words of x - y behind the first k words, when one is borrowed -/
structure DecInv (B : Nat) (xs : List Nat) (y k : Nat) (rs : List Nat) : Prop where
  len : rs.length = k
  bd : ∀ d ∈ rs, d < B
  eq : val B rs + y = val B (xs.take k) + B ^ k
structure DecDone (B : Nat) (xs : List Nat) (y : Nat) (rs : List Nat) (v : Nat) : Prop where
  len : rs.length = xs.length
  bd : ∀ d ∈ rs, d < B
  v1 : v ≤ 1
  eq : val B rs + y = val B xs + B ^ xs.length * v
theorem DecInv.stop {B : Nat} {xs rs : List Nat} {y k x u : Nat} (h : DecInv B xs y k rs) (hk : k < xs.length) (hx : xs.getD k 0 = x) (hb : ∀ d ∈ xs, d < B) (hu : x = u + 1) : DecDone B xs y (rs ++ [u] ++ xs.drop (k + 1)) 0 := by
  have hxb := getD_mem_lt hb hk
  rw [hx] at hxb
  refine ⟨by simp [h.len]; omega, fun d hd => ?_, by omega, ?_⟩
  · simp only [List.mem_append, List.mem_singleton] at hd
    rcases hd with (hd | hd) | hd
    · exact h.bd d hd
    · omega
    · exact hb d (List.mem_of_mem_drop hd)
  · have e := h.eq
    have e2 := val_split B xs (k + 1) (by omega)
    rw [val_take B hk, hx, hu] at e2
    rw [e2, val_append, val_append, List.length_append, h.len]
    simp only [val, List.length_singleton, Nat.mul_zero, Nat.add_zero, Nat.mul_add, Nat.mul_one]
    omega
theorem DecInv.more {B : Nat} (hB : 0 < B) {xs rs : List Nat} {y k z : Nat} (h : DecInv B xs y k rs) (hk : k < xs.length) (hx : xs.getD k 0 = 0) (h1 : z + 1 = B) : DecInv B xs y (k + 1) (rs ++ [z]) := by
  refine ⟨by simp [h.len], fun d hd => ?_, ?_⟩
  · simp only [List.mem_append, List.mem_singleton] at hd
    rcases hd with hd | hd
    · exact h.bd d hd
    · omega
  · have e := h.eq
    rw [val_take B hk, hx, val_append, h.len, Nat.pow_succ]
    simp only [val, Nat.mul_zero, Nat.add_zero]
    have : B ^ k * B = B ^ k * z + B ^ k := by rw [← h1, Nat.mul_add, Nat.mul_one]
    omega
theorem DecInv.done {B : Nat} {xs rs : List Nat} {y : Nat} (h : DecInv B xs y xs.length rs) : DecDone B xs y rs 1 := by
  have e := h.eq
  rw [List.take_length] at e
  exact ⟨h.len, h.bd, by omega, by rw [Nat.mul_one]; exact e⟩
theorem dec_first {B : Nat} (hB : 0 < B) {xs : List Nat} {y x : Nat} (h0 : 0 < xs.length) (hx : xs.getD 0 0 = x) (hb : ∀ d ∈ xs, d < B) (hy : y < B) :
    (y ≤ x → DecDone B xs y ([(x + B - y) % B] ++ xs.drop 1) 0) ∧ (x < y → DecInv B xs y 1 [(x + B - y) % B]) := by
  have hxb := getD_mem_lt hb h0
  rw [hx] at hxb
  have e2 := val_split B xs 1 (by omega)
  have e3 := val_take B h0
  rw [hx, List.take_zero] at e3
  simp only [val, Nat.pow_zero, Nat.one_mul, Nat.zero_add] at e3
  refine ⟨fun h => ⟨by simp; omega, fun d hd => ?_, by omega, ?_⟩, fun h => ⟨rfl, fun d hd => ?_, ?_⟩⟩
  · simp only [List.mem_append, List.mem_singleton] at hd
    rcases hd with hd | hd
    · subst hd; exact Nat.mod_lt _ hB
    · exact hb d (List.mem_of_mem_drop hd)
  · have hm : (x + B - y) % B = x - y := by
      rw [show x + B - y = (x - y) + B from by omega, Nat.add_mod_right, Nat.mod_eq_of_lt (by omega)]
    rw [hm, val_append, e2, e3]
    simp only [val, List.length_singleton, Nat.mul_zero, Nat.add_zero]
    omega
  · simp at hd; subst hd; exact Nat.mod_lt _ hB
  · have hm : (x + B - y) % B = x + B - y := Nat.mod_eq_of_lt (by omega)
    rw [e3, hm]
    simp only [val, Nat.mul_zero, Nat.add_zero, Nat.pow_one]
    omega

set_option maxHeartbeats 2000000 in
set_option maxRecDepth 100000 in
theorem subVW_calls (a : Addr) (n y c cx g o : Nat) (xs pre zs post : List Nat) (w : World) (hn : xs.length = n) (hg : Blk w g 109 (i64s (pre ++ (zs ++ post)))) (hz : zs.length = n) (hpo : pre.length = o) (hzb : ∀ d ∈ pre ++ (zs ++ post), d < B64)
    (hA : CellsAt w a xs) (hq : (a = ⟨g, o, none⟩ ∧ xs = zs) ∨ a.block ≠ g) (hxb : ∀ d ∈ xs, d < B64) (hn0 : 0 < n) (hyb : y < B64) (hnb : n ≤ 1099511627776) (hob : o ≤ 1099511627776) (hnc : n ≤ c) (hncx : n ≤ cx) (hpl : ∃ ca ta, w.heap[a.block]? = some (.cells ca ta (0, 0))) :
    Calls Tryz.prog 184 #[.slice (some ⟨g, o, none⟩) n c, .slice (some a) n cx, .int .u64 y] w fun e w' => ∃ (v : Nat) (rs : List Nat), e = .returned (.int .u64 v) ∧ Blk w' g 109 (i64s (pre ++ (rs ++ post))) ∧ DecDone B64 xs y rs v ∧ Only g w w' := by
  subst hn
  have HZB := Lib.hid hzb
  have HXB := Lib.hid hxb
  have hS : Src w g pre zs post (some a) xs := Src.cells hA hpo (hq.imp (fun h => ⟨h.1, by rw [h.2, List.take_length]⟩) id)
  have HS := Lib.hid hS
  have hc0 := hA 0 hn0
  obtain ⟨x, hx⟩ : ∃ x, xs.getD 0 0 = x := ⟨_, rfl⟩
  have hxk := getD_mem_lt hxb hn0
  have HF := Lib.hid (dec_first (B := B64) (by decide) hn0 hx hxb hyb)
  rw [hx] at hc0 hxk
  rw [show a.add 0 = a from by simp [Addr.add]] at hc0
  obtain ⟨s, hs⟩ : ∃ s, s = (x + 2 ^ 64 - y - 0) % 2 ^ 64 := ⟨_, rfl⟩
  obtain ⟨b, hb⟩ : ∃ b, b = if x < y + 0 then 1 else 0 := ⟨_, rfl⟩
  have HC := fun W => bsub_calls x y 0 s b (.inl rfl) hs hb W
  have HC' := Lib.hid HC
  obtain ⟨z, hz1, hz2, _, _⟩ := hg.at64 (i := o) (by simp; omega) hzb
  have hlz : ((xs.length : Int) == 0) = false := by simp; intro e; rw [e] at hn0; simp at hn0
  clear hzb hxb hS HC
  have HQ := Lib.hid hq
  have HHS := Lib.hid hs
  have HHB := Lib.hid hb
  have HA := Lib.hid hA
  clear hq hs hb hA
  go_enter Tryz.func184, Tryz.ntmps184
  go_wp2_with fail
  refine (HC'.out _).mono ?_
  rintro e w' ⟨rfl, rfl⟩
  by_cases hxy : y ≤ x
  · obtain rfl : b = 0 := by have := HHB.out; rw [if_neg (by omega)] at this; exact this
    have HS0' : Hid (s = (x + B64 - y) % B64) := by have := HHS.out; rw [Hid, this, Nat.sub_zero]
    have hi1 : (0 : Int) < (xs.length : Int) := by omega
    clear HHS HHB
    rcases HQ.out with ⟨rfl, hqe⟩ | hqe
    · have HQE := Lib.hid hqe
      have hnp := fun W => neq_ptr_same W ⟨g, o, none⟩
      clear hqe HQ
      go_wp2
      go_quiet (fail)
      go_wp2
      go_ret
      have hst := HF.out.1 hxy
      rw [← HS0'.out] at hst
      refine ⟨0, _, rfl, ?_, hst, ((Only.refl g w).setCell rfl _).drewN _⟩
      have hB1 := hg.set64 o s _ rfl
      rw [show (pre ++ (zs ++ post)).set o s = pre ++ (([] ++ [s]) ++ zs.drop (0 + 1) ++ post) from set_at pre [] 0 s zs post o xs.length hpo rfl hz hn0] at hB1
      rw [HQE.out]; exact hB1
    · have hqe2 : ¬ g = a.block := fun h => hqe h.symm
      obtain ⟨ca, ta, hpl⟩ := hpl
      have hB1 := hg.set64 o s _ rfl
      rw [show (pre ++ (zs ++ post)).set o s = pre ++ (([] ++ [s]) ++ zs.drop (0 + 1) ++ post) from set_at pre [] 0 s zs post o xs.length hpo rfl hz hn0] at hB1
      have hnp := neq_ptr_other (w.setCell ⟨g, o, none⟩ (.int .u64 s)) (a := ⟨g, o, none⟩) (b := a) (by rintro rfl; exact hqe rfl) hB1 ((Below.heap_setCell w ⟨g, o, none⟩ _ a.block hqe).trans hpl)
      have hnp2 := fun n => neq_ptr_other ((w.setCell ⟨g, o, none⟩ (.int .u64 s)).drewN n) (a := ⟨g, o, none⟩) (b := a) (by rintro rfl; exact hqe rfl) hB1 ((Below.heap_setCell w ⟨g, o, none⟩ _ a.block hqe).trans hpl)
      have hsl1 := fun W => slice_from 79 (by kernel_rfl) W (some ⟨g, o, none⟩) xs.length c 1 1 rfl hn0 hnc
      have hsl2 := fun W => slice_from 79 (by kernel_rfl) W (some a) xs.length cx 1 1 rfl hn0 hncx
      obtain ⟨R, hR⟩ : ∃ R, R = (i64s (pre ++ ((([] ++ [s]) ++ xs.drop (0 + 1)) ++ post))).toArray := ⟨_, rfl⟩
      have hcp := fun m ty => copy_rest (w := (w.setCell ⟨g, o, none⟩ (.int .u64 s)).drewN m) (k := 0 + 1) (rs := [] ++ [s]) hB1 hpo rfl hz rfl hn0 (a := a) (fun j _ hj => (cell_far (by rw [Addr.add_block]; exact hqe) (HA.out j hj))) (c - 1) (cx - 1) ty (adv (some a) 1 cx) (adv (some ⟨g, o, none⟩) 1 c) (adv_or a hncx) (by
        rcases adv_or (⟨g, o, none⟩ : Addr) hnc (k := 1) with h | h
        · left; rw [h]; unfold Addr.add; rw [if_neg (by omega)]
        · exact .inr h)
      simp only [Nat.zero_add] at hcp hR
      simp only [← hR] at hcp
      have HR := Lib.hid hR
      have HB1 := Lib.hid hB1
      clear hB1 hR
      go_wp2
      go_quiet (fail)
      go_wp2
      go_region_held3 (fun w' => True) (first | exact True.intro) (fail)
      go_wp2
      go_ret
      have hst := HF.out.1 hxy
      rw [← HS0'.out] at hst
      refine ⟨0, _, rfl, ?_, hst, (((Only.refl g w).setCell rfl _).drewN _).setRow _⟩
      rw [HR.out]
      exact Blk.setRow HB1.out _
  · obtain rfl : b = 1 := by have := HHB.out; rw [if_pos (by omega)] at this; exact this
    have hst := HF.out.2 (by omega)
    rw [show (x + B64 - y) % B64 = s from by rw [HHS.out, Nat.sub_zero]] at hst
    have HST := Lib.hid hst
    clear hst HHS HHB hxy
    have hi1 : (0 : Int) < (xs.length : Int) := by omega
    have hB1 := hg.set64 o s _ rfl
    rw [show (pre ++ (zs ++ post)).set o s = pre ++ (([] ++ [s]) ++ zs.drop (0 + 1) ++ post) from set_at pre [] 0 s zs post o xs.length hpo rfl hz hn0] at hB1
    have HB1 := Lib.hid hB1
    clear hB1
    go_wp2
    go_loopw [9] (fun i wr => ∃ (k : Nat) (rs : List Nat), i = .int .i64 k ∧ 1 ≤ k ∧ k ≤ xs.length ∧ Hid (DecInv B64 xs y k rs) ∧ Hid (Blk wr g 109 (i64s (pre ++ ((rs ++ zs.drop k) ++ post)))) ∧ Hid (Only g w wr)) (fun i _ => xs.length - (intOf i).toNat)
    case atStart => exact ⟨1, [s], rfl, by omega, by omega, HST.out, HB1.out, (Only.refl g w).setCell rfl _⟩
    case round =>
      obtain ⟨k, rs, rfl, hk1, hk, hI, hZ, hW⟩ := hrel
      have hrl := hI.out.len
      by_cases hlt : k < xs.length
      · have hbb := bd_at HZB.out hI.out.bd k
        obtain ⟨z', hz1', hz2', _, _⟩ := hZ.out.at64 (i := o + k) (by simp; omega) hbb
        have HBB := Lib.hid hbb
        clear hbb
        obtain ⟨a', ha, hca⟩ := HS.out wr rs k hrl hZ.out hW.out k (Nat.le_refl _) hlt
        cases ha
        have hxk' := getD_mem_lt HXB.out hlt
        obtain ⟨x', hx'⟩ : ∃ x', xs.getD k 0 = x' := ⟨_, rfl⟩
        rw [hx'] at hca hxk'
        have HX' := Lib.hid hx'
        clear hx'
        have hi2 : (k : Int) < (xs.length : Int) := by omega
        have hi3 : (0 : Int) ≤ (k : Int) := by omega
        have hwk : IntKind.i64.wrap ((k : Int) + 1) = (k : Int) + 1 := IntWalk.i64_in _ (by omega)
        by_cases hxm : x' = 0
        · subst hxm
          go_wp2
          go_roundw
          case rel =>
            have hst := hI.out.more (by decide) hlt HX'.out rfl
            have hb := hZ.out.set64 (o + k) 18446744073709551615 _ rfl
            rw [set_at pre rs k _ zs post o xs.length hpo hrl hz hlt] at hb
            exact ⟨k + 1, _, by go_num, by omega, by omega, hst, hb, hW.out.setCell rfl _⟩
          case measure => simp [intOf]; omega
        · have hxn : ((x' : Int) != 0) = true := by simp; omega
          obtain ⟨u, hu⟩ : ∃ u, x' = u + 1 := ⟨x' - 1, by omega⟩
          have hst := hI.out.stop hlt HX'.out HXB.out hu
          have hb := hZ.out.set64 (o + k) u ((x' : Int) - 1) (by omega)
          rw [set_at pre rs k _ zs post o xs.length hpo hrl hz hlt] at hb
          have HST' := Lib.hid hst
          have HB := Lib.hid hb
          clear hst hb
          have hx1 : IntKind.u64.wrap ((x' : Int) - 1) = (x' : Int) - 1 := by rw [IntKind.wrap_u64]; simp only [B64] at hxk'; omega
          have HXM := Lib.hid hxm
          have HXK' := Lib.hid hxk'
          have HU := Lib.hid hu
          clear hxm hxk' hu
          rcases HQ.out with ⟨rfl, hqe⟩ | hqe
          · have HQE := Lib.hid hqe
            clear hqe HQ
            have hzx : z' = x' := by
              have h1 := hca
              rw [show (⟨g, o, none⟩ : Addr).add k = ⟨g, o + k, none⟩ from by unfold Addr.add; rw [if_neg (by omega)], hz1'] at h1
              simp at h1; omega
            subst hzx
            have hnp := fun W => neq_ptr_same W ⟨g, o, none⟩
            go_wp2
            go_quiet (fail)
            go_wp2
            go_ret
            refine ⟨0, _, rfl, ?_, HST'.out, (hW.out.setCell rfl _).drewN _⟩
            have e := HB.out
            rw [← HQE.out] at e
            exact e
          · have hqe2 : ¬ g = a.block := fun h => hqe h.symm
            obtain ⟨ca, ta, hpl⟩ := hpl
            have hpl2 : (wr.setCell ⟨g, o + k, none⟩ (.int .u64 ((x' : Int) - 1))).heap[a.block]? = some (.cells ca ta (0, 0)) := ((hW.out.setCell rfl _).block _ hqe).trans hpl
            have hnp := neq_ptr_other (wr.setCell ⟨g, o + k, none⟩ (.int .u64 ((x' : Int) - 1))) (a := ⟨g, o, none⟩) (b := a) (by rintro rfl; exact hqe rfl) HB.out hpl2
            have hnp2 := fun n => neq_ptr_other ((wr.setCell ⟨g, o + k, none⟩ (.int .u64 ((x' : Int) - 1))).drewN n) (a := ⟨g, o, none⟩) (b := a) (by rintro rfl; exact hqe rfl) HB.out hpl2
            have hsl1 := fun W => slice_from 79 (by kernel_rfl) W (some ⟨g, o, none⟩) xs.length c (k + 1) ((k : Int) + 1) (by omega) hlt hnc
            have hsl2 := fun W => slice_from 79 (by kernel_rfl) W (some a) xs.length cx (k + 1) ((k : Int) + 1) (by omega) hlt hncx
            obtain ⟨R, hR⟩ : ∃ R, R = (i64s (pre ++ (((rs ++ [u]) ++ xs.drop (k + 1)) ++ post))).toArray := ⟨_, rfl⟩
            have hcp := fun m ty => copy_rest (w := (wr.setCell ⟨g, o + k, none⟩ (.int .u64 ((x' : Int) - 1))).drewN m) (k := k + 1) (rs := rs ++ [u]) HB.out hpo (by simp [hrl]) hz rfl hlt (a := a) (fun j _ hj => (cell_far (by rw [Addr.add_block]; exact hqe) ((hW.out.cell (by rw [Addr.add_block]; exact hqe)).trans (HA.out j hj)))) (c - (k + 1)) (cx - (k + 1)) ty (adv (some a) (k + 1) cx) (adv (some ⟨g, o, none⟩) (k + 1) c) (adv_or a (by omega)) (by
              rcases adv_or (⟨g, o, none⟩ : Addr) hnc (k := k + 1) with h | h
              · left; rw [h]; unfold Addr.add; rw [if_neg (by omega)]
              · exact .inr h)
            simp only [← hR] at hcp
            have HR := Lib.hid hR
            clear hR
            go_wp2
            go_quiet (fail)
            go_wp2
            go_region_held3 (fun w' => True) (first | exact True.intro) (fail)
            go_wp2
            go_ret
            refine ⟨0, _, rfl, ?_, HST'.out, ((hW.out.setCell rfl _).drewN _).setRow _⟩
            rw [HR.out]
            exact Blk.setRow HB.out _
      · obtain rfl : k = xs.length := by omega
        have hZ' := hZ.out
        rw [List.drop_of_length_le (by omega), List.append_nil] at hZ'
        have HZ' := Lib.hid hZ'
        clear hZ'
        go_wp2
        go_ret
        exact ⟨1, rs, rfl, HZ'.out, hI.out.done, hW.out⟩
end Go.Proofs.YtikdhkmcdmnadaaGreatFmt
