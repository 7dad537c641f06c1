/- Walks and plain laws of this seat's functions, part 16: N4 N5 N6. -/
import Derived.Laws.CopyOwn
import Derived.Laws.CopyRow
import Derived.Test.YtikdhkmcdmnadaaGreatFmtJ09
set_option linter.unusedVariables false
set_option linter.unusedSimpArgs false
namespace Go.Proofs.YtikdhkmcdmnadaaGreatFmt
open Go.RowKit

set_option maxHeartbeats 400000 in
theorem badd_calls (x y c s b : Nat) (hc : c = 0 ∨ c = 1) (hs : s = (x + y + c) % 2 ^ 64) (hb : b = (x + y + c) / 2 ^ 64) (w : World) : Calls Tryz.prog 94 #[.int .u64 x, .int .u64 y, .int .u64 c] w fun e w' => e = .returned (.tuple #[.int .u64 s, .int .u64 b]) ∧ w = w' := by
  have h := fun w => run_add64 x y c hc w
  rw [← hs, ← hb] at h
  clear hs hb
  go_enter Tryz.func94, Tryz.ntmps94
  go_wp2
  go_ret2
  exact ⟨rfl, rfl⟩
set_option maxHeartbeats 400000 in
theorem bsub_calls (x y c s b : Nat) (hc : c = 0 ∨ c = 1) (hs : s = (x + 2 ^ 64 - y - c) % 2 ^ 64) (hb : b = if x < y + c then 1 else 0) (w : World) : Calls Tryz.prog 185 #[.int .u64 x, .int .u64 y, .int .u64 c] w fun e w' => e = .returned (.tuple #[.int .u64 s, .int .u64 b]) ∧ w = w' := by
  have h := fun w => run_sub64 x y c hc w
  rw [← hs, ← hb] at h
  clear hs hb
  go_enter Tryz.func185, Tryz.ntmps185
  go_wp2
  go_ret2
  exact ⟨rfl, rfl⟩
/-- but for one block all stays -/
structure Only (g : Nat) (w w' : World) : Prop where
  below : Below g w w'
  size : w'.heap.size = w.heap.size
  block : ∀ k, k ≠ g → w'.heap[k]? = w.heap[k]?
theorem Only.refl (g : Nat) (w : World) : Only g w w := ⟨Below.refl _ _, rfl, fun _ _ => rfl⟩
theorem Only.setCell {g : Nat} {w W : World} (h : Only g w W) {p : Addr} (hp : p.block = g) (u : Value) : Only g w (W.setCell p u) :=
  ⟨h.below.setCell (Nat.le_of_eq hp.symm) _, (by simp [World.setCell, h.size]), fun k hk => (Below.heap_setCell W p u k (by rw [hp]; exact hk)).trans (h.block k hk)⟩
theorem Only.drewN {g : Nat} {w W : World} (h : Only g w W) (n : Nat) : Only g w (W.drewN n) := ⟨below_drewN h.below n, h.size, h.block⟩
theorem Only.drew {g : Nat} {w W : World} (h : Only g w W) : Only g w W.drew := ⟨h.below.drew, h.size, h.block⟩
theorem Only.setRow {g : Nat} {w W : World} (h : Only g w W) (cs : Array Value) : Only g w (W.setRow g cs) :=
  ⟨below_setRow h.below (Nat.le_refl _) cs, (by simp [World.setRow, h.size]), fun k hk => (setRow_other W g k cs hk).trans (h.block k hk)⟩
theorem Only.cell {g : Nat} {w W : World} (h : Only g w W) {p : Addr} (hp : p.block ≠ g) : W.cell? p = w.cell? p := World.cell?_of_block (h.block _ hp)
theorem Only.trans {g : Nat} {w1 w2 w3 : World} (h : Only g w1 w2) (h' : Only g w2 w3) : Only g w1 w3 :=
  ⟨h.below.trans h'.below, h'.size.trans h.size, fun k hk => (h'.block k hk).trans (h.block k hk)⟩
theorem Only.after {g B : Nat} {w1 w2 w3 : World} (h : Below B w1 w2) (hB : B ≤ g) (h' : Only g w2 w3) : Below B w1 w3 := h.trans (h'.below.mono hB)
/-- where a row is read from while a block is written: it lies elsewhere, or just there -/
def Src (w : World) (g : Nat) (pre zs post : List Nat) (A : Option Addr) (xs : List Nat) : Prop :=
  ∀ (w' : World) (ys : List Nat) (k : Nat), ys.length = k → Blk w' g 109 (i64s (pre ++ ((ys ++ zs.drop k) ++ post))) → Only g w w' → ∀ j, k ≤ j → j < xs.length → ∃ a, A = some a ∧ w'.cell? (a.add j) = some (.int .u64 (xs.getD j 0 : Nat))
theorem Src.away {w : World} {g : Nat} {pre zs post xs : List Nat} {A : Option Addr} {t base : Nat} (h : u64.Row t w base A xs) (hne : ∀ a, A = some a → a.block ≠ g) : Src w g pre zs post A xs := by
  intro w' ys k _ _ hW j _ hj
  obtain ⟨a, x, ha, hc, _, hx⟩ := u64at h hj
  exact ⟨a, ha, by rw [hx.out]; exact (hW.cell (by rw [Addr.add_block]; exact hne a ha)).trans hc⟩
theorem Src.here {w : World} {g o : Nat} {pre zs post xs : List Nat} {n : Nat} (ho : pre.length = o) (hx : xs = zs.take n) : Src w g pre zs post (some ⟨g, o, none⟩) xs := by
  intro w' ys k hk hb _ j hkj hj
  refine ⟨_, rfl, ?_⟩
  rw [show (⟨g, o, none⟩ : Addr).add j = ⟨g, o + j, none⟩ from by unfold Addr.add; split <;> simp_all, hb.cell]
  subst hx ho hk
  rw [List.length_take] at hj
  have e : (pre ++ ((ys ++ zs.drop ys.length) ++ post))[pre.length + j]? = zs[j]? := by
    rw [List.getElem?_append_right (by omega), Nat.add_sub_cancel_left, List.getElem?_append_left (by simp; omega), List.getElem?_append_right hkj, List.getElem?_drop, Nat.add_sub_cancel' hkj]
  have e2 : (i64s (pre ++ ((ys ++ zs.drop ys.length) ++ post)))[pre.length + j]? = (zs[j]?).map fun x => Value.int .u64 (x : Nat) := by
    unfold i64s; rw [List.getElem?_map, e]
  rw [e2, List.getElem?_eq_getElem (by omega)]
  simp [List.getD_eq_getElem?_getD, List.getElem?_take, show j < n by omega, show j < zs.length by omega]
/-- after k words: the words of the sum, and what is carried -/
structure AddInv (xs ys : List Nat) (k : Nat) (zs : List Nat) (c : Nat) : Prop where
  len : zs.length = k
  bd : ∀ d ∈ zs, d < B64
  c1 : c = 0 ∨ c = 1
  eq : val B64 zs + B64 ^ k * c = val B64 (xs.take k) + val B64 (ys.take k)
theorem AddInv.step {xs ys zs : List Nat} {k c x y : Nat} (h : AddInv xs ys k zs c) (hk : k < xs.length) (hk2 : k < ys.length) (hx : xs.getD k 0 = x) (hy : ys.getD k 0 = y) (hxb : x < B64) (hyb : y < B64) :
    AddInv xs ys (k + 1) (zs ++ [(x + y + c) % 2 ^ 64]) ((x + y + c) / 2 ^ 64) := by
  obtain ⟨h1, h2, h3, h4⟩ := h
  refine ⟨by simp [h1], fun d hd => ?_, ?_, ?_⟩
  · rcases List.mem_append.1 hd with hd | hd
    · exact h2 d hd
    · simp at hd; subst hd; exact Nat.mod_lt _ (by decide)
  · simp only [B64] at hxb hyb; omega
  · rw [val_take B64 hk, val_take B64 hk2, val_append, h1, hx, hy]
    simp only [val, Nat.mul_zero, Nat.add_zero]
    have := digit_step (B64 ^ k) B64 (x + y + c)
    rw [show (2 : Nat) ^ 64 = B64 from rfl, Nat.pow_succ]
    rw [Nat.mul_add, Nat.mul_add] at this
    omega
/-- after k words: the words of the difference, and what is borrowed -/
structure SubInv (xs ys : List Nat) (k : Nat) (zs : List Nat) (c : Nat) : Prop where
  len : zs.length = k
  bd : ∀ d ∈ zs, d < B64
  c1 : c = 0 ∨ c = 1
  eq : val B64 zs + val B64 (ys.take k) = val B64 (xs.take k) + B64 ^ k * c
theorem SubInv.step {xs ys zs : List Nat} {k c x y : Nat} (h : SubInv xs ys k zs c) (hk : k < xs.length) (hk2 : k < ys.length) (hx : xs.getD k 0 = x) (hy : ys.getD k 0 = y) (hxb : x < B64) (hyb : y < B64) :
    SubInv xs ys (k + 1) (zs ++ [(x + 2 ^ 64 - y - c) % 2 ^ 64]) (if x < y + c then 1 else 0) := by
  obtain ⟨h1, h2, h3, h4⟩ := h
  refine ⟨by simp [h1], fun d hd => ?_, ?_, ?_⟩
  · rcases List.mem_append.1 hd with hd | hd
    · exact h2 d hd
    · simp at hd; subst hd; exact Nat.mod_lt _ (by decide)
  · split <;> simp
  · rw [val_take B64 hk, val_take B64 hk2, val_append, h1, hx, hy]
    simp only [val]
    rw [Nat.mul_zero, Nat.add_zero]
    have hd : (x + 2 ^ 64 - y - c) % 2 ^ 64 + (y + c) = x + B64 * (if x < y + c then 1 else 0) := by
      simp only [B64] at *
      split <;> omega
    have := congrArg (B64 ^ k * ·) hd
    simp only [Nat.mul_add] at this
    rw [show B64 ^ (k + 1) = B64 ^ k * B64 from Nat.pow_succ .., Nat.mul_assoc]
    generalize (x + 2 ^ 64 - y - c) % 2 ^ 64 = q at *
    omega
theorem set_at (pre ys : List Nat) (k x : Nat) (zs post : List Nat) (o n : Nat) (ho : pre.length = o) (hk : ys.length = k) (hz : zs.length = n) (hn : k < n) : (pre ++ ((ys ++ zs.drop k) ++ post)).set (o + k) x = pre ++ (((ys ++ [x]) ++ zs.drop (k + 1)) ++ post) := by
  rw [set_mid ho (by simp; omega)]
  congr 2
  rw [List.set_append, if_neg (by omega), hk, Nat.sub_self, List.drop_eq_getElem_cons (by omega), List.append_assoc]
  rfl
theorem bd_at {pre zs post ys : List Nat} (h : ∀ d ∈ pre ++ (zs ++ post), d < B64) (hy : ∀ d ∈ ys, d < B64) (k : Nat) : ∀ d ∈ pre ++ ((ys ++ zs.drop k) ++ post), d < B64 :=
  bd_mid h fun d hd => by
    rcases List.mem_append.1 hd with hd | hd
    · exact hy d hd
    · exact bd_in h d (List.mem_of_mem_drop hd)

set_option maxHeartbeats 2000000 in
set_option maxRecDepth 100000 in
theorem addVV_calls (A B : Option Addr) (n c cx cy g o : Nat) (xs ys pre zs post : List Nat) (w : World) (hn : xs.length = n) (hm : ys.length = n) (hg : Blk w g 109 (i64s (pre ++ (zs ++ post)))) (hz : zs.length = n) (hpo : pre.length = o) (hzb : ∀ d ∈ pre ++ (zs ++ post), d < B64)
    (hA : Src w g pre zs post A xs) (hB : Src w g pre zs post B ys) (hxb : ∀ d ∈ xs, d < B64) (hyb : ∀ d ∈ ys, d < B64) (hnb : n ≤ 1099511627776) (hob : o ≤ 1099511627776) :
    Calls Tryz.prog 57 #[.slice (some ⟨g, o, none⟩) n c, .slice A n cx, .slice B n cy] w fun e w' => ∃ (v : Nat) (rs : List Nat), e = .returned (.int .u64 v) ∧ Blk w' g 109 (i64s (pre ++ (rs ++ post))) ∧ AddInv xs ys n rs v ∧ Only g w w' := by
  subst hn
  have HZB := Lib.hid hzb
  have HXB := Lib.hid hxb
  have HYB := Lib.hid hyb
  have HA := Lib.hid hA
  have HB := Lib.hid hB
  clear hzb hxb hyb hA hB
  go_enter Tryz.func57, Tryz.ntmps57
  go_wp2
  go_loopw [6, 25] (fun cv i wr => ∃ (k cc : Nat) (rs : List Nat), i = .int .i64 k ∧ cv = .int .u64 cc ∧ k ≤ xs.length ∧ Hid (AddInv xs ys k rs cc) ∧ Hid (Blk wr g 109 (i64s (pre ++ ((rs ++ zs.drop k) ++ post)))) ∧ Hid (Only g w wr)) (fun _ i _ => xs.length - (intOf i).toNat)
  case atStart => exact ⟨0, 0, [], rfl, rfl, by omega, ⟨rfl, by simp, .inl rfl, by simp [val]⟩, hg, Only.refl _ _⟩
  case round =>
    obtain ⟨k, cc, rs, rfl, rfl, hk, hI, hZ, hW⟩ := hrel
    have hrl := hI.out.len
    by_cases hlt : k < xs.length
    · have hbb := bd_at HZB.out hI.out.bd k
      obtain ⟨z, hz1, hz2, _, _⟩ := hZ.out.at64 (i := o + k) (by simp; omega) hbb
      have HBB := Lib.hid hbb
      clear hbb
      obtain ⟨a, ha, hca⟩ := HA.out wr rs k hrl hZ.out hW.out k (Nat.le_refl _) hlt
      obtain ⟨b, hb, hcb⟩ := HB.out wr rs k hrl hZ.out hW.out k (Nat.le_refl _) (by omega)
      subst ha hb
      have hxk := getD_mem_lt HXB.out hlt
      have hyk := getD_mem_lt HYB.out (i := k) (by omega)
      obtain ⟨x, hx⟩ : ∃ x, xs.getD k 0 = x := ⟨_, rfl⟩
      obtain ⟨y, hy⟩ : ∃ y, ys.getD k 0 = y := ⟨_, rfl⟩
      rw [hx] at hca hxk
      rw [hy] at hcb hyk
      have HX := Lib.hid hx
      have HY := Lib.hid hy
      clear hx hy
      have hi1 : (0 : Int) ≤ (k : Int) := by omega
      have hi2 : (k : Int) < (xs.length : Int) := by omega
      obtain ⟨s, hs⟩ : ∃ s, s = (x + y + cc) % 2 ^ 64 := ⟨_, rfl⟩
      obtain ⟨b', hb'⟩ : ∃ b', b' = (x + y + cc) / 2 ^ 64 := ⟨_, rfl⟩
      have HC := Lib.hid (fun W => badd_calls x y cc s b' hI.out.c1 hs hb' W)
      have hst := AddInv.step hI.out hlt (by omega) HX.out HY.out hxk hyk
      rw [← hs, ← hb'] at hst
      have HST := Lib.hid hst
      clear hst hs hb'
      go_wp2_with fail
      go_quiet ((go_at_call 94; exact Calls.quiet_of_same ((HC.out _).mono (fun _ _ h => ⟨h.1, h.2.symm⟩))))
      go_wp2
      go_roundw
      case rel =>
        have hb := hZ.out.set64 (o + k) s _ rfl
        rw [set_at pre rs k _ zs post o xs.length hpo hrl hz hlt] at hb
        exact ⟨k + 1, _, _, by go_num, rfl, by omega, HST.out, hb, (hW.out.drewN _).setCell rfl _⟩
      case measure => simp [intOf]; omega
    · obtain rfl : k = xs.length := by omega
      have hZ' := hZ.out
      rw [List.drop_of_length_le (by omega), List.append_nil] at hZ'
      have HZ' := Lib.hid hZ'
      clear hZ'
      go_wp2
      go_ret
      exact ⟨cc, rs, rfl, HZ'.out, hI.out, hW.out⟩
set_option maxHeartbeats 2000000 in
set_option maxRecDepth 100000 in
theorem subVV_calls (A B : Option Addr) (n c cx cy g o : Nat) (xs ys pre zs post : List Nat) (w : World) (hn : xs.length = n) (hm : ys.length = n) (hg : Blk w g 109 (i64s (pre ++ (zs ++ post)))) (hz : zs.length = n) (hpo : pre.length = o) (hzb : ∀ d ∈ pre ++ (zs ++ post), d < B64)
    (hA : Src w g pre zs post A xs) (hB : Src w g pre zs post B ys) (hxb : ∀ d ∈ xs, d < B64) (hyb : ∀ d ∈ ys, d < B64) (hnb : n ≤ 1099511627776) (hob : o ≤ 1099511627776) :
    Calls Tryz.prog 58 #[.slice (some ⟨g, o, none⟩) n c, .slice A n cx, .slice B n cy] w fun e w' => ∃ (v : Nat) (rs : List Nat), e = .returned (.int .u64 v) ∧ Blk w' g 109 (i64s (pre ++ (rs ++ post))) ∧ SubInv xs ys n rs v ∧ Only g w w' := by
  subst hn
  have HZB := Lib.hid hzb
  have HXB := Lib.hid hxb
  have HYB := Lib.hid hyb
  have HA := Lib.hid hA
  have HB := Lib.hid hB
  clear hzb hxb hyb hA hB
  go_enter Tryz.func58, Tryz.ntmps58
  go_wp2
  go_loopw [6, 25] (fun cv i wr => ∃ (k cc : Nat) (rs : List Nat), i = .int .i64 k ∧ cv = .int .u64 cc ∧ k ≤ xs.length ∧ Hid (SubInv xs ys k rs cc) ∧ Hid (Blk wr g 109 (i64s (pre ++ ((rs ++ zs.drop k) ++ post)))) ∧ Hid (Only g w wr)) (fun _ i _ => xs.length - (intOf i).toNat)
  case atStart => exact ⟨0, 0, [], rfl, rfl, by omega, ⟨rfl, by simp, .inl rfl, by simp [val]⟩, hg, Only.refl _ _⟩
  case round =>
    obtain ⟨k, cc, rs, rfl, rfl, hk, hI, hZ, hW⟩ := hrel
    have hrl := hI.out.len
    by_cases hlt : k < xs.length
    · have hbb := bd_at HZB.out hI.out.bd k
      obtain ⟨z, hz1, hz2, _, _⟩ := hZ.out.at64 (i := o + k) (by simp; omega) hbb
      have HBB := Lib.hid hbb
      clear hbb
      obtain ⟨a, ha, hca⟩ := HA.out wr rs k hrl hZ.out hW.out k (Nat.le_refl _) hlt
      obtain ⟨b, hb, hcb⟩ := HB.out wr rs k hrl hZ.out hW.out k (Nat.le_refl _) (by omega)
      subst ha hb
      have hxk := getD_mem_lt HXB.out hlt
      have hyk := getD_mem_lt HYB.out (i := k) (by omega)
      obtain ⟨x, hx⟩ : ∃ x, xs.getD k 0 = x := ⟨_, rfl⟩
      obtain ⟨y, hy⟩ : ∃ y, ys.getD k 0 = y := ⟨_, rfl⟩
      rw [hx] at hca hxk
      rw [hy] at hcb hyk
      have HX := Lib.hid hx
      have HY := Lib.hid hy
      clear hx hy
      have hi1 : (0 : Int) ≤ (k : Int) := by omega
      have hi2 : (k : Int) < (xs.length : Int) := by omega
      obtain ⟨s, hs⟩ : ∃ s, s = (x + 2 ^ 64 - y - cc) % 2 ^ 64 := ⟨_, rfl⟩
      obtain ⟨b', hb'⟩ : ∃ b', b' = if x < y + cc then 1 else 0 := ⟨_, rfl⟩
      have HC := Lib.hid (fun W => bsub_calls x y cc s b' hI.out.c1 hs hb' W)
      have hst := SubInv.step hI.out hlt (by omega) HX.out HY.out hxk hyk
      rw [← hs, ← hb'] at hst
      have HST := Lib.hid hst
      clear hst hs hb'
      go_wp2_with fail
      go_quiet ((go_at_call 185; exact Calls.quiet_of_same ((HC.out _).mono (fun _ _ h => ⟨h.1, h.2.symm⟩))))
      go_wp2
      go_roundw
      case rel =>
        have hb := hZ.out.set64 (o + k) s _ rfl
        rw [set_at pre rs k _ zs post o xs.length hpo hrl hz hlt] at hb
        exact ⟨k + 1, _, _, by go_num, rfl, by omega, HST.out, hb, (hW.out.drewN _).setCell rfl _⟩
      case measure => simp [intOf]; omega
    · obtain rfl : k = xs.length := by omega
      have hZ' := hZ.out
      rw [List.drop_of_length_le (by omega), List.append_nil] at hZ'
      have HZ' := Lib.hid hZ'
      clear hZ'
      go_wp2
      go_ret
      exact ⟨cc, rs, rfl, HZ'.out, hI.out, hW.out⟩
end Go.Proofs.YtikdhkmcdmnadaaGreatFmt

namespace Go.Proofs.YtikdhkmcdmnadaaGreatFmt
open Go.RowKit

theorem Blk.setRow {w : World} {b t : Nat} {cs : List Value} (h : Blk w b t cs) (ds : List Value) : Blk (w.setRow b ds.toArray) b t ds := setRow_heap w b _ _ t _ h
theorem i64s_one (xs : List Nat) : ∀ v ∈ i64s xs, v.oneCell' = true := by
  intro v hv
  obtain ⟨x, _, rfl⟩ := List.mem_map.1 hv
  rfl
theorem copy64 {w : World} {g : Nat} {Z : List Nat} (hb : Blk w g 109 (i64s Z)) (o n cz cx dT sT ty : Nat) (hd : dT = 80 ∨ dT = 79) (A : Option Addr) (xs : List Nat) (hx : xs.length = n)
    (hs : ∀ j, j < n → ∃ a, A = some a ∧ w.cell? (a.add j) = some (.int .u64 (xs.getD j 0 : Nat))) (hfit : o + n ≤ Z.length) (p : Option Addr) (hp : p = some ⟨g, o, none⟩ ∨ n = 0) :
    (Builtin.copy_ #[dT, sT] ty #[.slice p n cz, .slice A n cx]).run Tryz.prog w = .ok (.int .i64 n) (w.setRow g (i64s (Z.take o ++ (xs ++ Z.drop (o + n)))).toArray) := by
  have hu : Tryz.prog.underlying dT = some (.slice 109) := by rcases hd with rfl | rfl <;> kernel_rfl
  have hsz : (Tryz.prog.info? 109).map (·.size) = some 1 := by kernel_rfl
  rcases Nat.eq_zero_or_pos n with h0 | h0
  · subst h0
    obtain rfl := List.eq_nil_of_length_eq_zero hx
    rw [List.nil_append, Nat.add_zero, List.take_append_drop, setRow_self w g (i64s Z).toArray 109 (0, 0) hb]
    exact run_copy_none (P := Tryz.prog) w dT sT ty _ p A 0 cz 0 cx hu hsz rfl
  · obtain rfl : p = some ⟨g, o, none⟩ := by
      rcases hp with h | h
      · exact h
      · omega
    obtain ⟨a, rfl, _⟩ := hs 0 h0
    have := run_copy_row (P := Tryz.prog) w dT sT ty 109 g o n cz a n cx (i64s Z).toArray 109 (i64s xs) hu hsz hb (by simp [i64s, hx]) (fun j v hj => by
      have hjl : j < xs.length := by
        rcases Nat.lt_or_ge j xs.length with h | h
        · exact h
        · rw [List.getElem?_eq_none (by simp [i64s]; omega)] at hj; cases hj
      obtain ⟨a', ha, hc⟩ := hs j (by omega)
      cases ha
      rw [hc]
      simp [i64s, hjl] at hj
      rw [← hj]; simp [List.getD_eq_getElem?_getD, hjl]) (by simp [i64s, hx]; omega) (i64s_one xs)
    have hl : (i64s xs).length = n := by simp [i64s, hx]
    rw [hl] at this
    have e : i64s (Z.take o ++ (xs ++ Z.drop (o + n))) = (i64s Z).toArray.toList.take o ++ i64s xs ++ (i64s Z).toArray.toList.drop (o + n) := by
      simp [i64s, List.map_take, List.map_drop, hx]
    rw [e]; exact this
theorem word_info : ∃ i, Tryz.prog.info? 109 = some i ∧ i.zero = some (.int .u64 0) ∧ i.size = 1 ∧ i.bytes = 8 := by
  have h : (Tryz.prog.info? 109).map (fun i => (i.zero, i.size, i.bytes)) = some (some (.int .u64 0), 1, 8) := by kernel_rfl
  cases hi : Tryz.prog.info? 109 with
  | none => rw [hi] at h; cases h
  | some i =>
    rw [hi] at h
    injection h with h
    simp only [Prod.mk.injEq] at h
    exact ⟨i, rfl, h⟩
theorem clear64 {w : World} {g : Nat} {Z : List Nat} (hb : Blk w g 109 (i64s Z)) (n cz ty : Nat) (hfit : n ≤ Z.length) :
    (Builtin.clear_ #[80] ty #[.slice (some ⟨g, 0, none⟩) n cz]).run Tryz.prog w = .ok (.tuple #[]) (w.setRow g (i64s (List.replicate n 0 ++ Z.drop n)).toArray) := by
  have hu : Tryz.prog.underlying 80 = some (.slice 109) := by kernel_rfl
  rcases Nat.eq_zero_or_pos n with h0 | h0
  · subst h0
    rw [show List.replicate 0 0 ++ Z.drop 0 = Z from by simp, setRow_self w g (i64s Z).toArray 109 (0, 0) hb]
    simp [Builtin.clear_, run_underlying hu]
  · have hz : Builtin.zeroCells #[Value.int .u64 0] n = (i64s (List.replicate n 0)).toArray := by
      apply Array.ext'
      simp [Builtin.zeroCells, Nat.mod_one, List.map_const', i64s, List.map_replicate]
    have := run_storeCells_at Tryz.prog g 0 109 (i64s (List.replicate n 0)) 0 (i64s Z).toArray w hb (by simp [i64s]; omega) (i64s_one _)
    have e : i64s (List.replicate n 0 ++ Z.drop n) = (i64s Z).toArray.toList.take (0 + 0) ++ i64s (List.replicate n 0) ++ (i64s Z).toArray.toList.drop (0 + 0 + (i64s (List.replicate n 0)).length) := by
      simp [i64s, List.map_drop]
    rw [← e] at this
    obtain ⟨k, rfl⟩ : ∃ k, n = k + 1 := ⟨n - 1, by omega⟩
    obtain ⟨i, hi, hi0, _⟩ := word_info
    simp [Builtin.clear_, run_underlying hu, zeroValue, typeInfo, hi, hi0, Value.cells, hz, this]

/-- what a whole number's row, where it may be written, is: nil, or a block whole -/
inductive Dest (w : World) : Value → Nat → Prop
  | nil (g : Nat) (h : w.heap.size ≤ g) : Dest w (.slice none 0 0) g
  | own {g : Nat} {Z : List Nat} {n : Nat} (hb : Blk w g 109 (i64s Z)) (hz : ∀ d ∈ Z, d < B64) (hn : n ≤ Z.length) (hl : Z.length ≤ 549755813888) : Dest w (.slice (some ⟨g, 0, none⟩) n Z.length) g

set_option maxHeartbeats 400000 in
theorem nmake_new (n : Nat) (w : World) (h0 : 0 < n) (hn : n ≤ 274877906944) (A : Option Addr) (l c : Nat) (hc : c < n) :
    Calls Tryz.prog 97 #[.slice A l c, .int .i64 n] w fun e w' => ∃ k, n ≤ k ∧ k ≤ n + 4 ∧ e = .returned (.slice (some ⟨w.heap.size, 0, none⟩) n k) ∧ w' = w.alloc (.cells (madeCells #[.int .u64 0] k) 109) := by
  rcases Nat.lt_or_ge 1 n with h1 | h1
  · obtain ⟨i, hi, hi0, hi1, hi2⟩ := word_info
    have hm := fun W => run_make (P := Tryz.prog) W 80 109 i (.int .u64 0) (by kernel_rfl) hi hi0 .i64 .i64 (n : Int) ((n : Int) + 4) (by omega) (by omega) (by rw [hi2]; omega) (by omega)
    rw [hi1] at hm
    clear hi hi0 hi1 hi2
    have e1 : ((n : Int)).toNat = n := by omega
    have e2 : ((n : Int) + 4).toNat = n + 4 := by omega
    rw [e1, e2] at hm
    simp only [Nat.mul_one] at hm
    have hn1 : ((n : Int) == 1) = false := by simp; omega
    go_enter Tryz.func97, Tryz.ntmps97
    go_wp2
    go_ret
    exact ⟨n + 4, by omega, by omega, rfl, rfl⟩
  · obtain rfl : n = 1 := by omega
    have hm := fun W => run_make_row' (P := Tryz.prog) 80 109 (.int .u64 0) 8 (by kernel_rfl) (by kernel_rfl) rfl .i64 .i64 1 (by omega) (by omega) W
    simp only [Int.natCast_one] at hm
    go_enter Tryz.func97, Tryz.ntmps97
    go_wp2
    go_ret
    exact ⟨1, by omega, by omega, rfl, rfl⟩
set_option maxHeartbeats 400000 in
theorem norm_calls (A : Option Addr) (n c t base : Nat) (xs : List Nat) (w : World) (hn : xs.length = n) (hA : u64.Row t w base A xs) (hl : n ≤ 1099511627776) (hc : n ≤ c) :
    Calls Tryz.prog 99 #[.slice A n c] w fun e w' => e = .returned (.slice A (trimLen xs n) c) ∧ w = w' := by
  subst hn
  go_enter Tryz.func99, Tryz.ntmps99
  go_wp2
  go_loop [3] (fun i => ∃ k : Nat, k ≤ xs.length ∧ i = .int .i64 k ∧ Hid (trimLen xs k = trimLen xs xs.length)) (fun i => (intOf i).toNat)
  case atStart => exact ⟨_, Nat.le_refl _, rfl, rfl⟩
  case round =>
    obtain ⟨k, hk, rfl, hT⟩ := hrel
    cases k with
    | zero =>
      go_wp2
      go_ret
      exact ⟨ret_slice (by rw [← hT.out]; rfl), rfl⟩
    | succ k =>
      obtain ⟨a, x, rfl, hca, hx, hxe⟩ := u64at hA (i := k) (by omega)
      by_cases h0 : x = 0
      · subst h0
        go_wp2
        go_round
        case rel => exact ⟨k, by omega, by go_num, (trimLen_zero hxe.out).symm.trans hT.out⟩
        case measure => simp [intOf]
      · go_wp2
        go_ret
        exact ⟨ret_slice (by rw [← hT.out, trimLen_pos (by rw [hxe.out]; exact h0)]), rfl⟩
end Go.Proofs.YtikdhkmcdmnadaaGreatFmt

namespace Go.Proofs.YtikdhkmcdmnadaaGreatFmt
open Go.RowKit

/-- the words of a row, one behind the other from an address on -/
def CellsAt (w : World) (a : Addr) (xs : List Nat) : Prop := ∀ j, j < xs.length → w.cell? (a.add j) = some (.int .u64 (xs.getD j 0 : Nat))
theorem CellsAt.row {w : World} {t base : Nat} {a : Addr} {xs : List Nat} (h : u64.Row t w base (some a) xs) : CellsAt w a xs := by
  intro j hj
  obtain ⟨a', x, ha, hc, _, hx⟩ := u64at h hj
  cases ha
  rw [hx.out]; exact hc
theorem CellsAt.drop {w : World} {a : Addr} {xs : List Nat} (h : CellsAt w a xs) (k : Nat) : CellsAt w (a.add k) (xs.drop k) := by
  intro j hj
  have hj' : k + j < xs.length := by simp at hj; omega
  rw [Addr.add_add, h _ hj']
  simp [List.getD_eq_getElem?_getD, List.getElem?_drop]
theorem CellsAt.take {w : World} {a : Addr} {xs : List Nat} (h : CellsAt w a xs) (k : Nat) : CellsAt w a (xs.take k) := by
  intro j hj
  simp only [List.length_take] at hj
  rw [h j (by omega)]
  simp [List.getD_eq_getElem?_getD, List.getElem?_take, show j < k by omega]
theorem CellsAt.only {w w' : World} {g : Nat} {a : Addr} {xs : List Nat} (h : CellsAt w a xs) (ho : Only g w w') (hne : a.block ≠ g) : CellsAt w' a xs :=
  fun j hj => (ho.cell (by rw [Addr.add_block]; exact hne)).trans (h j hj)
theorem CellsAt.below {w w' : World} {B : Nat} {a : Addr} {xs : List Nat} (h : CellsAt w a xs) (ho : Below B w w') (hne : a.block < B) : CellsAt w' a xs :=
  fun j hj => (ho.cell (by rw [Addr.add_block]; exact hne)).trans (h j hj)
theorem CellsAt.blk {w : World} {g o t : Nat} {Z xs pre post : List Nat} (hb : Blk w g t (i64s Z)) (hZ : Z = pre ++ (xs ++ post)) (ho : pre.length = o) : CellsAt w ⟨g, o, none⟩ xs := by
  intro j hj
  rw [show (⟨g, o, none⟩ : Addr).add j = ⟨g, o + j, none⟩ from by unfold Addr.add; split <;> simp_all, hb.cell, hZ]
  subst ho
  unfold i64s
  rw [List.getElem?_map, List.getElem?_append_right (by omega), Nat.add_sub_cancel_left, List.getElem?_append_left hj]
  simp [List.getD_eq_getElem?_getD, hj]
theorem CellsAt.eq {w : World} {g t : Nat} {Z xs : List Nat} (h : CellsAt w ⟨g, 0, none⟩ xs) (hb : Blk w g t (i64s Z)) (hl : xs.length ≤ Z.length) : xs = Z.take xs.length := by
  apply List.ext_getElem?
  intro j
  rcases Nat.lt_or_ge j xs.length with hj | hj
  · have := h j hj
    rw [show (⟨g, 0, none⟩ : Addr).add j = ⟨g, j, none⟩ from by unfold Addr.add; split <;> simp_all, hb.cell] at this
    simp [i64s, show j < Z.length by omega, hj] at this
    rw [List.getElem?_take, if_pos hj, List.getElem?_eq_getElem hj, List.getElem?_eq_getElem (by omega)]
    have h2 : ((Z[j] : Nat) : Int) = (xs[j] : Nat) := by first | exact this | (simp [List.getD_eq_getElem?_getD, hj] at this; omega)
    congr 1; omega
  · rw [List.getElem?_eq_none hj, List.getElem?_eq_none (by simp; omega)]
theorem Src.cells {w : World} {g o : Nat} {pre zs post xs : List Nat} {a : Addr} (h : CellsAt w a xs) (ho : pre.length = o) (hq : (a = ⟨g, o, none⟩ ∧ xs = zs.take xs.length) ∨ a.block ≠ g) : Src w g pre zs post (some a) xs := by
  rcases hq with ⟨rfl, hq⟩ | hq
  · exact Src.here ho hq
  · intro w' ys k _ _ hW j _ hj
    exact ⟨a, rfl, h.only hW hq j hj⟩
theorem drop_all {zs rs : List Nat} {k : Nat} (h : zs.length ≤ k) : rs ++ zs.drop k = rs := by rw [List.drop_of_length_le h, List.append_nil]
/-- the address of a slice cut from a place on -/
def adv (a : Option Addr) (k c : Nat) : Option Addr := if c = k then a else a.map (·.add k)
theorem adv_or (a : Addr) {k c n : Nat} (hn : n ≤ c) : adv (some a) k c = some (a.add k) ∨ n - k = 0 := by
  unfold adv
  split
  · exact .inr (by omega)
  · exact .inl rfl
theorem slice_from (T : Nat) (hT : Tryz.prog.underlying T = some (.slice 109)) (W : World) (A : Option Addr) (n c k : Nat) (i : Int) (hi : i = k) (hk : k ≤ n) (hnc : n ≤ c) :
    (Instr.slice T (.slice A n c) (some (.int .i64 i)) none none).run Tryz.prog W = .ok (.slice (adv A k c) (n - k) (c - k)) W := by
  subst hi
  obtain ⟨j, hj, _, hs, _⟩ := word_info
  have hw : (IntKind.i64.wrap (k : Int)) = k → True := fun _ => trivial
  simp [Instr.slice, run_underlying hT, Instr.sliceBounds, Instr.sliceBound, asIntOf, hk, sizeOf, typeInfo, hj, hs, adv]
/-- the copying of what is left -/
theorem copy_rest {w : World} {g o k n : Nat} {pre rs zs post xs : List Nat} {a : Addr} (hb : Blk w g 109 (i64s (pre ++ ((rs ++ zs.drop k) ++ post)))) (ho : pre.length = o) (hk : rs.length = k) (hz : zs.length = n) (hx : xs.length = n) (hkn : k ≤ n)
    (hs : ∀ j, k ≤ j → j < n → w.cell? (a.add j) = some (.int .u64 (xs.getD j 0 : Nat))) (cz cx ty : Nat) (A P : Option Addr) (hA : A = some (a.add k) ∨ n - k = 0) (hP : P = some ⟨g, o + k, none⟩ ∨ n - k = 0) :
    (Builtin.copy_ #[79, 79] ty #[.slice P (n - k) cz, .slice A (n - k) cx]).run Tryz.prog w = .ok (.int .i64 ((n - k : Nat) : Int)) (w.setRow g (i64s (pre ++ ((rs ++ xs.drop k) ++ post))).toArray) := by
  have h := copy64 hb (o + k) (n - k) cz cx 79 79 ty (.inr rfl) A (xs.drop k) (by simp [hx]) (fun j hj => ⟨a.add k, by
    rcases hA with h | h
    · exact h
    · omega, by
    rw [Addr.add_add, hs (k + j) (by omega) (by omega)]
    simp [List.getD_eq_getElem?_getD, List.getElem?_drop]⟩) (by simp; omega) P hP
  have e : pre ++ ((rs ++ xs.drop k) ++ post) = (pre ++ ((rs ++ zs.drop k) ++ post)).take (o + k) ++ (xs.drop k ++ (pre ++ ((rs ++ zs.drop k) ++ post)).drop (o + k + (n - k))) := by
    have e1 : pre ++ ((rs ++ zs.drop k) ++ post) = (pre ++ rs) ++ (zs.drop k ++ post) := by simp
    have e2 : pre ++ ((rs ++ zs.drop k) ++ post) = (pre ++ (rs ++ zs.drop k)) ++ post := by simp
    have e3 : (pre ++ ((rs ++ zs.drop k) ++ post)).drop (o + k + (n - k)) = post := by
      rw [e2, List.drop_left' (by simp; omega)]
    rw [e3, e1, List.take_left' (by simp; omega)]
    simp
  rw [e]; exact h

/-- the words of x + y behind the first k words, when one is carried -/
structure IncInv (B : Nat) (xs : List Nat) (y k : Nat) (rs : List Nat) : Prop where
  len : rs.length = k
  bd : ∀ d ∈ rs, d < B
  eq : val B rs + B ^ k = val B (xs.take k) + y
structure IncDone (B : Nat) (xs : List Nat) (y : Nat) (rs : List Nat) (v : Nat) : Prop where
  len : rs.length = xs.length
  bd : ∀ d ∈ rs, d < B
  v1 : v ≤ 1
  eq : val B rs + B ^ xs.length * v = val B xs + y
theorem IncInv.stop {B : Nat} {xs rs : List Nat} {y k x : Nat} (h : IncInv B xs y k rs) (hk : k < xs.length) (hx : xs.getD k 0 = x) (hb : ∀ d ∈ xs, d < B) (h1 : x + 1 < B) : IncDone B xs y (rs ++ [x + 1] ++ xs.drop (k + 1)) 0 := by
  refine ⟨by simp [h.len]; omega, fun d hd => ?_, by omega, ?_⟩
  · simp only [List.mem_append, List.mem_singleton] at hd
    rcases hd with (hd | hd) | hd
    · exact h.bd d hd
    · omega
    · exact hb d (List.mem_of_mem_drop hd)
  · have e := h.eq
    have e2 := val_split B xs (k + 1) (by omega)
    rw [val_take B hk, hx] at e2
    rw [e2, val_append, val_append, List.length_append, h.len]
    simp only [val, List.length_singleton, Nat.mul_zero, Nat.add_zero, Nat.mul_add, Nat.mul_one]
    omega
theorem IncInv.more {B : Nat} (hB : 0 < B) {xs rs : List Nat} {y k x : Nat} (h : IncInv B xs y k rs) (hk : k < xs.length) (hx : xs.getD k 0 = x) (h1 : x + 1 = B) : IncInv B xs y (k + 1) (rs ++ [0]) := by
  refine ⟨by simp [h.len], fun d hd => ?_, ?_⟩
  · simp only [List.mem_append, List.mem_singleton] at hd
    rcases hd with hd | hd
    · exact h.bd d hd
    · subst hd; exact hB
  · have e := h.eq
    rw [val_take B hk, hx, val_append, h.len, Nat.pow_succ]
    simp only [val, Nat.mul_zero, Nat.add_zero]
    have : B ^ k * B = B ^ k * x + B ^ k := by rw [← h1, Nat.mul_add, Nat.mul_one]
    omega
theorem IncInv.done {B : Nat} {xs rs : List Nat} {y : Nat} (h : IncInv B xs y xs.length rs) : IncDone B xs y rs 1 := by
  have e := h.eq
  rw [List.take_length] at e
  exact ⟨h.len, h.bd, by omega, by rw [Nat.mul_one]; exact e⟩
theorem inc_first {B : Nat} (hB : 0 < B) {xs : List Nat} {y x : Nat} (h0 : 0 < xs.length) (hx : xs.getD 0 0 = x) (hb : ∀ d ∈ xs, d < B) (hy : y < B) :
    (x + y < B → IncDone B xs y ([(x + y) % B] ++ xs.drop 1) 0) ∧ (B ≤ x + y → IncInv B xs y 1 [(x + y) % B]) := by
  have hxb := getD_mem_lt hb h0
  rw [hx] at hxb
  have e2 := val_split B xs 1 (by omega)
  have e3 := val_take B h0
  rw [hx, List.take_zero] at e3
  simp only [val, Nat.pow_zero, Nat.one_mul, Nat.zero_add] at e3
  refine ⟨fun h => ⟨by simp; omega, fun d hd => ?_, by omega, ?_⟩, fun h => ⟨rfl, fun d hd => ?_, ?_⟩⟩
  · simp only [List.mem_append, List.mem_singleton] at hd
    rcases hd with hd | hd
    · subst hd; exact Nat.mod_lt _ hB
    · exact hb d (List.mem_of_mem_drop hd)
  · have hm : (x + y) % B = x + y := Nat.mod_eq_of_lt h
    rw [hm, val_append, e2, e3]
    simp only [val, List.length_singleton, Nat.mul_zero, Nat.add_zero]
    omega
  · simp at hd; subst hd; exact Nat.mod_lt _ hB
  · rw [e3]
    simp only [val, Nat.mul_zero, Nat.add_zero, Nat.pow_one]
    have := Nat.mod_add_div (x + y) B
    have h2 : (x + y) / B = 1 := by
      apply Nat.div_eq_of_lt_le <;> omega
    rw [h2] at this; omega
end Go.Proofs.YtikdhkmcdmnadaaGreatFmt
