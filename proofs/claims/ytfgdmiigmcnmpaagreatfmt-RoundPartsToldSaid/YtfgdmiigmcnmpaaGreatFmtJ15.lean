/- Walks and plain laws of this seat's functions, part 15: N5 N6 N7. -/
import Derived.LaidEqlPtr
import Derived.Test.YtfgdmiigmcnmpaaGreatFmtJ09
set_option linter.unusedVariables false
set_option linter.unusedSimpArgs false
namespace Go.Proofs.YtfgdmiigmcnmpaaGreatFmt
open Go.RowKit

theorem Blk.setRow {w : World} {b t : Nat} {cs : List Value} (h : Blk w b t cs) (ds : List Value) : Blk (w.setRow b ds.toArray) b t ds := setRow_heap w b _ _ t _ h
theorem i64s_one (xs : List Nat) : ∀ v ∈ i64s xs, v.oneCell' = true := by
  intro v hv
  obtain ⟨x, _, rfl⟩ := List.mem_map.1 hv
  rfl
theorem copy64 {w : World} {g : Nat} {Z : List Nat} (hb : Blk w g 106 (i64s Z)) (o n cz cx dT sT ty : Nat) (hd : dT = 62 ∨ dT = 61) (A : Option Addr) (xs : List Nat) (hx : xs.length = n)
    (hs : ∀ j, j < n → ∃ a, A = some a ∧ w.cell? (a.add j) = some (.int .u64 (xs.getD j 0 : Nat))) (hfit : o + n ≤ Z.length) (p : Option Addr) (hp : p = some ⟨g, o, none⟩ ∨ n = 0) :
    (Builtin.copy_ #[dT, sT] ty #[.slice p n cz, .slice A n cx]).run Tryz.prog w = .ok (.int .i64 n) (w.setRow g (i64s (Z.take o ++ (xs ++ Z.drop (o + n)))).toArray) := by
  have hu : Tryz.prog.underlying dT = some (.slice 106) := by rcases hd with rfl | rfl <;> kernel_rfl
  have hsz : (Tryz.prog.info? 106).map (·.size) = some 1 := by kernel_rfl
  rcases Nat.eq_zero_or_pos n with h0 | h0
  · subst h0
    obtain rfl := List.eq_nil_of_length_eq_zero hx
    rw [List.nil_append, Nat.add_zero, List.take_append_drop, setRow_self w g (i64s Z).toArray 106 (0, 0) hb]
    exact run_copy_none (P := Tryz.prog) w dT sT ty _ p A 0 cz 0 cx hu hsz rfl
  · obtain rfl : p = some ⟨g, o, none⟩ := by
      rcases hp with h | h
      · exact h
      · omega
    obtain ⟨a, rfl, _⟩ := hs 0 h0
    have := run_copy_row (P := Tryz.prog) w dT sT ty 106 g o n cz a n cx (i64s Z).toArray 106 (i64s xs) hu hsz hb (by simp [i64s, hx]) (fun j v hj => by
      have hjl : j < xs.length := by
        rcases Nat.lt_or_ge j xs.length with h | h
        · exact h
        · rw [List.getElem?_eq_none (by simp [i64s]; omega)] at hj; cases hj
      obtain ⟨a', ha, hc⟩ := hs j (by omega)
      cases ha
      rw [hc]
      simp [i64s, hjl] at hj
      rw [← hj]; simp [List.getD_eq_getElem?_getD, hjl]) (by simp [i64s, hx]; omega) (i64s_one xs)
    have hl : (i64s xs).length = n := by simp [i64s, hx]
    rw [hl] at this
    have e : i64s (Z.take o ++ (xs ++ Z.drop (o + n))) = (i64s Z).toArray.toList.take o ++ i64s xs ++ (i64s Z).toArray.toList.drop (o + n) := by
      simp [i64s, List.map_take, List.map_drop, hx]
    rw [e]; exact this
theorem word_info : ∃ i, Tryz.prog.info? 106 = some i ∧ i.zero = some (.int .u64 0) ∧ i.size = 1 ∧ i.bytes = 8 := by
  have h : (Tryz.prog.info? 106).map (fun i => (i.zero, i.size, i.bytes)) = some (some (.int .u64 0), 1, 8) := by kernel_rfl
  cases hi : Tryz.prog.info? 106 with
  | none => rw [hi] at h; cases h
  | some i =>
    rw [hi] at h
    injection h with h
    simp only [Prod.mk.injEq] at h
    exact ⟨i, rfl, h⟩
theorem clear64 {w : World} {g : Nat} {Z : List Nat} (hb : Blk w g 106 (i64s Z)) (n cz ty : Nat) (hfit : n ≤ Z.length) :
    (Builtin.clear_ #[62] ty #[.slice (some ⟨g, 0, none⟩) n cz]).run Tryz.prog w = .ok (.tuple #[]) (w.setRow g (i64s (List.replicate n 0 ++ Z.drop n)).toArray) := by
  have hu : Tryz.prog.underlying 62 = some (.slice 106) := by kernel_rfl
  rcases Nat.eq_zero_or_pos n with h0 | h0
  · subst h0
    rw [show List.replicate 0 0 ++ Z.drop 0 = Z from by simp, setRow_self w g (i64s Z).toArray 106 (0, 0) hb]
    simp [Builtin.clear_, run_underlying hu]
  · have hz : Builtin.zeroCells #[Value.int .u64 0] n = (i64s (List.replicate n 0)).toArray := by
      apply Array.ext'
      simp [Builtin.zeroCells, Nat.mod_one, List.map_const', i64s, List.map_replicate]
    have := run_storeCells_at Tryz.prog g 0 106 (i64s (List.replicate n 0)) 0 (i64s Z).toArray w hb (by simp [i64s]; omega) (i64s_one _)
    have e : i64s (List.replicate n 0 ++ Z.drop n) = (i64s Z).toArray.toList.take (0 + 0) ++ i64s (List.replicate n 0) ++ (i64s Z).toArray.toList.drop (0 + 0 + (i64s (List.replicate n 0)).length) := by
      simp [i64s, List.map_drop]
    rw [← e] at this
    obtain ⟨k, rfl⟩ : ∃ k, n = k + 1 := ⟨n - 1, by omega⟩
    obtain ⟨i, hi, hi0, _⟩ := word_info
    simp [Builtin.clear_, run_underlying hu, zeroValue, typeInfo, hi, hi0, Value.cells, hz, this]

/-- what a whole number's row, where it may be written, is: nil, or a block whole -/
inductive Dest (w : World) : Value → Nat → Prop
  | nil (g : Nat) (h : w.heap.size ≤ g) : Dest w (.slice none 0 0) g
  | own {g : Nat} {Z : List Nat} {n : Nat} (hb : Blk w g 106 (i64s Z)) (hz : ∀ d ∈ Z, d < B64) (hn : n ≤ Z.length) (hl : Z.length ≤ 549755813888) : Dest w (.slice (some ⟨g, 0, none⟩) n Z.length) g

set_option maxHeartbeats 400000 in
theorem nmake_new (n : Nat) (w : World) (h0 : 0 < n) (hn : n ≤ 274877906944) (A : Option Addr) (l c : Nat) (hc : c < n) :
    Calls Tryz.prog 118 #[.slice A l c, .int .i64 n] w fun e w' => ∃ k, n ≤ k ∧ k ≤ n + 4 ∧ e = .returned (.slice (some ⟨w.heap.size, 0, none⟩) n k) ∧ w' = w.alloc (.cells (madeCells #[.int .u64 0] k) 106) := by
  rcases Nat.lt_or_ge 1 n with h1 | h1
  · obtain ⟨i, hi, hi0, hi1, hi2⟩ := word_info
    have hm := fun W => run_make (P := Tryz.prog) W 62 106 i (.int .u64 0) (by kernel_rfl) hi hi0 .i64 .i64 (n : Int) ((n : Int) + 4) (by omega) (by omega) (by rw [hi2]; omega) (by omega)
    rw [hi1] at hm
    clear hi hi0 hi1 hi2
    have e1 : ((n : Int)).toNat = n := by omega
    have e2 : ((n : Int) + 4).toNat = n + 4 := by omega
    rw [e1, e2] at hm
    simp only [Nat.mul_one] at hm
    have hn1 : ((n : Int) == 1) = false := by simp; omega
    go_enter Tryz.func118, Tryz.ntmps118
    go_wp2
    go_ret
    exact ⟨n + 4, by omega, by omega, rfl, rfl⟩
  · obtain rfl : n = 1 := by omega
    have hm := fun W => run_make_row' (P := Tryz.prog) 62 106 (.int .u64 0) 8 (by kernel_rfl) (by kernel_rfl) rfl .i64 .i64 1 (by omega) (by omega) W
    simp only [Int.natCast_one] at hm
    go_enter Tryz.func118, Tryz.ntmps118
    go_wp2
    go_ret
    exact ⟨1, by omega, by omega, rfl, rfl⟩
set_option maxHeartbeats 400000 in
theorem norm_calls (A : Option Addr) (n c t base : Nat) (xs : List Nat) (w : World) (hn : xs.length = n) (hA : u64.Row t w base A xs) (hl : n ≤ 1099511627776) (hc : n ≤ c) :
    Calls Tryz.prog 120 #[.slice A n c] w fun e w' => e = .returned (.slice A (trimLen xs n) c) ∧ w = w' := by
  subst hn
  go_enter Tryz.func120, Tryz.ntmps120
  go_wp2
  go_loop [3] (fun i => ∃ k : Nat, k ≤ xs.length ∧ i = .int .i64 k ∧ Hid (trimLen xs k = trimLen xs xs.length)) (fun i => (intOf i).toNat)
  case atStart => exact ⟨_, Nat.le_refl _, rfl, rfl⟩
  case round =>
    obtain ⟨k, hk, rfl, hT⟩ := hrel
    cases k with
    | zero =>
      go_wp2
      go_ret
      exact ⟨ret_slice (by rw [← hT.out]; rfl), rfl⟩
    | succ k =>
      obtain ⟨a, x, rfl, hca, hx, hxe⟩ := u64at hA (i := k) (by omega)
      by_cases h0 : x = 0
      · subst h0
        go_wp2
        go_round
        case rel => exact ⟨k, by omega, by go_num, (trimLen_zero hxe.out).symm.trans hT.out⟩
        case measure => simp [intOf]
      · go_wp2
        go_ret
        exact ⟨ret_slice (by rw [← hT.out, trimLen_pos (by rw [hxe.out]; exact h0)]), rfl⟩
end Go.Proofs.YtfgdmiigmcnmpaaGreatFmt

namespace Go.Proofs.YtfgdmiigmcnmpaaGreatFmt
open Go.RowKit

/-- the words of a row, one behind the other from an address on -/
def CellsAt (w : World) (a : Addr) (xs : List Nat) : Prop := ∀ j, j < xs.length → w.cell? (a.add j) = some (.int .u64 (xs.getD j 0 : Nat))
theorem CellsAt.row {w : World} {t base : Nat} {a : Addr} {xs : List Nat} (h : u64.Row t w base (some a) xs) : CellsAt w a xs := by
  intro j hj
  obtain ⟨a', x, ha, hc, _, hx⟩ := u64at h hj
  cases ha
  rw [hx.out]; exact hc
theorem CellsAt.drop {w : World} {a : Addr} {xs : List Nat} (h : CellsAt w a xs) (k : Nat) : CellsAt w (a.add k) (xs.drop k) := by
  intro j hj
  have hj' : k + j < xs.length := by simp at hj; omega
  rw [Addr.add_add, h _ hj']
  simp [List.getD_eq_getElem?_getD, List.getElem?_drop]
theorem CellsAt.take {w : World} {a : Addr} {xs : List Nat} (h : CellsAt w a xs) (k : Nat) : CellsAt w a (xs.take k) := by
  intro j hj
  simp only [List.length_take] at hj
  rw [h j (by omega)]
  simp [List.getD_eq_getElem?_getD, List.getElem?_take, show j < k by omega]
theorem CellsAt.only {w w' : World} {g : Nat} {a : Addr} {xs : List Nat} (h : CellsAt w a xs) (ho : Only g w w') (hne : a.block ≠ g) : CellsAt w' a xs :=
  fun j hj => (ho.cell (by rw [Addr.add_block]; exact hne)).trans (h j hj)
theorem CellsAt.below {w w' : World} {B : Nat} {a : Addr} {xs : List Nat} (h : CellsAt w a xs) (ho : Below B w w') (hne : a.block < B) : CellsAt w' a xs :=
  fun j hj => (ho.cell (by rw [Addr.add_block]; exact hne)).trans (h j hj)
theorem CellsAt.blk {w : World} {g o t : Nat} {Z xs pre post : List Nat} (hb : Blk w g t (i64s Z)) (hZ : Z = pre ++ (xs ++ post)) (ho : pre.length = o) : CellsAt w ⟨g, o, none⟩ xs := by
  intro j hj
  rw [show (⟨g, o, none⟩ : Addr).add j = ⟨g, o + j, none⟩ from by unfold Addr.add; split <;> simp_all, hb.cell, hZ]
  subst ho
  unfold i64s
  rw [List.getElem?_map, List.getElem?_append_right (by omega), Nat.add_sub_cancel_left, List.getElem?_append_left hj]
  simp [List.getD_eq_getElem?_getD, hj]
theorem CellsAt.eq {w : World} {g t : Nat} {Z xs : List Nat} (h : CellsAt w ⟨g, 0, none⟩ xs) (hb : Blk w g t (i64s Z)) (hl : xs.length ≤ Z.length) : xs = Z.take xs.length := by
  apply List.ext_getElem?
  intro j
  rcases Nat.lt_or_ge j xs.length with hj | hj
  · have := h j hj
    rw [show (⟨g, 0, none⟩ : Addr).add j = ⟨g, j, none⟩ from by unfold Addr.add; split <;> simp_all, hb.cell] at this
    simp [i64s, show j < Z.length by omega, hj] at this
    rw [List.getElem?_take, if_pos hj, List.getElem?_eq_getElem hj, List.getElem?_eq_getElem (by omega)]
    have h2 : ((Z[j] : Nat) : Int) = (xs[j] : Nat) := by first | exact this | (simp [List.getD_eq_getElem?_getD, hj] at this; omega)
    congr 1; omega
  · rw [List.getElem?_eq_none hj, List.getElem?_eq_none (by simp; omega)]
theorem Src.cells {w : World} {g o : Nat} {pre zs post xs : List Nat} {a : Addr} (h : CellsAt w a xs) (ho : pre.length = o) (hq : (a = ⟨g, o, none⟩ ∧ xs = zs.take xs.length) ∨ a.block ≠ g) : Src w g pre zs post (some a) xs := by
  rcases hq with ⟨rfl, hq⟩ | hq
  · exact Src.here ho hq
  · intro w' ys k _ _ hW j _ hj
    exact ⟨a, rfl, h.only hW hq j hj⟩
theorem drop_all {zs rs : List Nat} {k : Nat} (h : zs.length ≤ k) : rs ++ zs.drop k = rs := by rw [List.drop_of_length_le h, List.append_nil]
/-- the address of a slice cut from a place on -/
def adv (a : Option Addr) (k c : Nat) : Option Addr := if c = k then a else a.map (·.add k)
theorem adv_or (a : Addr) {k c n : Nat} (hn : n ≤ c) : adv (some a) k c = some (a.add k) ∨ n - k = 0 := by
  unfold adv
  split
  · exact .inr (by omega)
  · exact .inl rfl
theorem slice_from (T : Nat) (hT : Tryz.prog.underlying T = some (.slice 106)) (W : World) (A : Option Addr) (n c k : Nat) (i : Int) (hi : i = k) (hk : k ≤ n) (hnc : n ≤ c) :
    (Instr.slice T (.slice A n c) (some (.int .i64 i)) none none).run Tryz.prog W = .ok (.slice (adv A k c) (n - k) (c - k)) W := by
  subst hi
  obtain ⟨j, hj, _, hs, _⟩ := word_info
  have hw : (IntKind.i64.wrap (k : Int)) = k → True := fun _ => trivial
  simp [Instr.slice, run_underlying hT, Instr.sliceBounds, Instr.sliceBound, asIntOf, hk, sizeOf, typeInfo, hj, hs, adv]
/-- the copying of what is left -/
theorem copy_rest {w : World} {g o k n : Nat} {pre rs zs post xs : List Nat} {a : Addr} (hb : Blk w g 106 (i64s (pre ++ ((rs ++ zs.drop k) ++ post)))) (ho : pre.length = o) (hk : rs.length = k) (hz : zs.length = n) (hx : xs.length = n) (hkn : k ≤ n)
    (hs : ∀ j, k ≤ j → j < n → w.cell? (a.add j) = some (.int .u64 (xs.getD j 0 : Nat))) (cz cx ty : Nat) (A P : Option Addr) (hA : A = some (a.add k) ∨ n - k = 0) (hP : P = some ⟨g, o + k, none⟩ ∨ n - k = 0) :
    (Builtin.copy_ #[61, 61] ty #[.slice P (n - k) cz, .slice A (n - k) cx]).run Tryz.prog w = .ok (.int .i64 ((n - k : Nat) : Int)) (w.setRow g (i64s (pre ++ ((rs ++ xs.drop k) ++ post))).toArray) := by
  have h := copy64 hb (o + k) (n - k) cz cx 61 61 ty (.inr rfl) A (xs.drop k) (by simp [hx]) (fun j hj => ⟨a.add k, by
    rcases hA with h | h
    · exact h
    · omega, by
    rw [Addr.add_add, hs (k + j) (by omega) (by omega)]
    simp [List.getD_eq_getElem?_getD, List.getElem?_drop]⟩) (by simp; omega) P hP
  have e : pre ++ ((rs ++ xs.drop k) ++ post) = (pre ++ ((rs ++ zs.drop k) ++ post)).take (o + k) ++ (xs.drop k ++ (pre ++ ((rs ++ zs.drop k) ++ post)).drop (o + k + (n - k))) := by
    have e1 : pre ++ ((rs ++ zs.drop k) ++ post) = (pre ++ rs) ++ (zs.drop k ++ post) := by simp
    have e2 : pre ++ ((rs ++ zs.drop k) ++ post) = (pre ++ (rs ++ zs.drop k)) ++ post := by simp
    have e3 : (pre ++ ((rs ++ zs.drop k) ++ post)).drop (o + k + (n - k)) = post := by
      rw [e2, List.drop_left' (by simp; omega)]
    rw [e3, e1, List.take_left' (by simp; omega)]
    simp
  rw [e]; exact h

/-- the words of x + y behind the first k words, when one is carried -/
structure IncInv (B : Nat) (xs : List Nat) (y k : Nat) (rs : List Nat) : Prop where
  len : rs.length = k
  bd : ∀ d ∈ rs, d < B
  eq : val B rs + B ^ k = val B (xs.take k) + y
structure IncDone (B : Nat) (xs : List Nat) (y : Nat) (rs : List Nat) (v : Nat) : Prop where
  len : rs.length = xs.length
  bd : ∀ d ∈ rs, d < B
  v1 : v ≤ 1
  eq : val B rs + B ^ xs.length * v = val B xs + y
theorem IncInv.stop {B : Nat} {xs rs : List Nat} {y k x : Nat} (h : IncInv B xs y k rs) (hk : k < xs.length) (hx : xs.getD k 0 = x) (hb : ∀ d ∈ xs, d < B) (h1 : x + 1 < B) : IncDone B xs y (rs ++ [x + 1] ++ xs.drop (k + 1)) 0 := by
  refine ⟨by simp [h.len]; omega, fun d hd => ?_, by omega, ?_⟩
  · simp only [List.mem_append, List.mem_singleton] at hd
    rcases hd with (hd | hd) | hd
    · exact h.bd d hd
    · omega
    · exact hb d (List.mem_of_mem_drop hd)
  · have e := h.eq
    have e2 := val_split B xs (k + 1) (by omega)
    rw [val_take B hk, hx] at e2
    rw [e2, val_append, val_append, List.length_append, h.len]
    simp only [val, List.length_singleton, Nat.mul_zero, Nat.add_zero, Nat.mul_add, Nat.mul_one]
    omega
theorem IncInv.more {B : Nat} (hB : 0 < B) {xs rs : List Nat} {y k x : Nat} (h : IncInv B xs y k rs) (hk : k < xs.length) (hx : xs.getD k 0 = x) (h1 : x + 1 = B) : IncInv B xs y (k + 1) (rs ++ [0]) := by
  refine ⟨by simp [h.len], fun d hd => ?_, ?_⟩
  · simp only [List.mem_append, List.mem_singleton] at hd
    rcases hd with hd | hd
    · exact h.bd d hd
    · subst hd; exact hB
  · have e := h.eq
    rw [val_take B hk, hx, val_append, h.len, Nat.pow_succ]
    simp only [val, Nat.mul_zero, Nat.add_zero]
    have : B ^ k * B = B ^ k * x + B ^ k := by rw [← h1, Nat.mul_add, Nat.mul_one]
    omega
theorem IncInv.done {B : Nat} {xs rs : List Nat} {y : Nat} (h : IncInv B xs y xs.length rs) : IncDone B xs y rs 1 := by
  have e := h.eq
  rw [List.take_length] at e
  exact ⟨h.len, h.bd, by omega, by rw [Nat.mul_one]; exact e⟩
theorem inc_first {B : Nat} (hB : 0 < B) {xs : List Nat} {y x : Nat} (h0 : 0 < xs.length) (hx : xs.getD 0 0 = x) (hb : ∀ d ∈ xs, d < B) (hy : y < B) :
    (x + y < B → IncDone B xs y ([(x + y) % B] ++ xs.drop 1) 0) ∧ (B ≤ x + y → IncInv B xs y 1 [(x + y) % B]) := by
  have hxb := getD_mem_lt hb h0
  rw [hx] at hxb
  have e2 := val_split B xs 1 (by omega)
  have e3 := val_take B h0
  rw [hx, List.take_zero] at e3
  simp only [val, Nat.pow_zero, Nat.one_mul, Nat.zero_add] at e3
  refine ⟨fun h => ⟨by simp; omega, fun d hd => ?_, by omega, ?_⟩, fun h => ⟨rfl, fun d hd => ?_, ?_⟩⟩
  · simp only [List.mem_append, List.mem_singleton] at hd
    rcases hd with hd | hd
    · subst hd; exact Nat.mod_lt _ hB
    · exact hb d (List.mem_of_mem_drop hd)
  · have hm : (x + y) % B = x + y := Nat.mod_eq_of_lt h
    rw [hm, val_append, e2, e3]
    simp only [val, List.length_singleton, Nat.mul_zero, Nat.add_zero]
    omega
  · simp at hd; subst hd; exact Nat.mod_lt _ hB
  · rw [e3]
    simp only [val, Nat.mul_zero, Nat.add_zero, Nat.pow_one]
    have := Nat.mod_add_div (x + y) B
    have h2 : (x + y) / B = 1 := by
      apply Nat.div_eq_of_lt_le <;> omega
    rw [h2] at this; omega
end Go.Proofs.YtfgdmiigmcnmpaaGreatFmt

namespace Go.Proofs.YtfgdmiigmcnmpaaGreatFmt
open Go.RowKit

theorem neq_ptr_same (w : World) (a : Addr) : (binOp .neq 129 (.pointer (some a)) (.pointer (some a))).run Tryz.prog w = .ok (.bool false) w := by
  obtain ⟨i, hi, _⟩ := word_info
  have hp : Tryz.prog.underlying 129 = some (.pointer 106) := by kernel_rfl
  have h : ∀ d : Nat, (Op.equalIn (d + 1) 129 (.pointer (some a)) (.pointer (some a))).run Tryz.prog w = .ok true w := fun d => by
    simp [Op.equalIn, run_underlying hp, sizeOf, typeInfo, hi, run_sameAddr_same]
  simp only [binOp]
  simp [Op.equal, Op.maxDepth, h 9999]
theorem neq_ptr_other (w : World) {a b : Addr} {ca cb : Array Value} {ta tb : TypeId} (hne : a ≠ b) (ha : w.heap[a.block]? = some (.cells ca ta (0, 0))) (hb : w.heap[b.block]? = some (.cells cb tb (0, 0))) :
    (binOp .neq 129 (.pointer (some a)) (.pointer (some b))).run Tryz.prog w = .ok (.bool true) w := by
  obtain ⟨i, hi, _, hs, _⟩ := word_info
  have hp : Tryz.prog.underlying 129 = some (.pointer 106) := by kernel_rfl
  have h : ∀ d : Nat, (Op.equalIn (d + 1) 129 (.pointer (some a)) (.pointer (some b))).run Tryz.prog w = .ok false w := fun d => by
    simp [Op.equalIn, run_underlying hp, sizeOf, typeInfo, hi, hs, run_sameAddr_other w hne ha hb]
  simp only [binOp]
  simp [Op.equal, Op.maxDepth, h 9999]

set_option maxHeartbeats 2000000 in
set_option maxRecDepth 100000 in
theorem addVW_calls (a : Addr) (n y c cx g o : Nat) (xs pre zs post : List Nat) (w : World) (hn : xs.length = n) (hg : Blk w g 106 (i64s (pre ++ (zs ++ post)))) (hz : zs.length = n) (hpo : pre.length = o) (hzb : ∀ d ∈ pre ++ (zs ++ post), d < B64)
    (hA : CellsAt w a xs) (hq : (a = ⟨g, o, none⟩ ∧ xs = zs) ∨ a.block ≠ g) (hxb : ∀ d ∈ xs, d < B64) (hn0 : 0 < n) (hyb : y < B64) (hnb : n ≤ 1099511627776) (hob : o ≤ 1099511627776) (hnc : n ≤ c) (hncx : n ≤ cx) (hpl : ∃ ca ta, w.heap[a.block]? = some (.cells ca ta (0, 0))) :
    Calls Tryz.prog 90 #[.slice (some ⟨g, o, none⟩) n c, .slice (some a) n cx, .int .u64 y] w fun e w' => ∃ (v : Nat) (rs : List Nat), e = .returned (.int .u64 v) ∧ Blk w' g 106 (i64s (pre ++ (rs ++ post))) ∧ IncDone B64 xs y rs v ∧ Only g w w' := by
  subst hn
  have HZB := Lib.hid hzb
  have HXB := Lib.hid hxb
  have hS : Src w g pre zs post (some a) xs := Src.cells hA hpo (hq.imp (fun h => ⟨h.1, by rw [h.2, List.take_length]⟩) id)
  have HS := Lib.hid hS
  have hc0 := hA 0 hn0
  obtain ⟨x, hx⟩ : ∃ x, xs.getD 0 0 = x := ⟨_, rfl⟩
  have hxk := getD_mem_lt hxb hn0
  have HF := Lib.hid (inc_first (B := B64) (by decide) hn0 hx hxb hyb)
  rw [hx] at hc0 hxk
  rw [show a.add 0 = a from by simp [Addr.add]] at hc0
  obtain ⟨s, hs⟩ : ∃ s, s = (x + y + 0) % 2 ^ 64 := ⟨_, rfl⟩
  obtain ⟨b, hb⟩ : ∃ b, b = (x + y + 0) / 2 ^ 64 := ⟨_, rfl⟩
  have HC := fun W => badd_calls x y 0 s b (.inl rfl) hs hb W
  have HC' := Lib.hid HC
  obtain ⟨z, hz1, hz2, _, _⟩ := hg.at64 (i := o) (by simp; omega) hzb
  have hlz : ((xs.length : Int) == 0) = false := by simp; intro e; rw [e] at hn0; simp at hn0
  clear hzb hxb hS HC
  have HQ := Lib.hid hq
  have HHS := Lib.hid hs
  have HHB := Lib.hid hb
  have HA := Lib.hid hA
  clear hq hs hb hA
  go_enter Tryz.func90, Tryz.ntmps90
  go_wp2_with fail
  refine (HC'.out _).mono ?_
  rintro e w' ⟨rfl, rfl⟩
  by_cases hxy : x + y < 18446744073709551616
  · obtain rfl : b = 0 := by have := HHB.out; omega
    have HS0' : Hid (s = (x + y) % B64) := by have := HHS.out; rw [Hid, this, Nat.add_zero]
    have hi1 : (0 : Int) < (xs.length : Int) := by omega
    clear HHS HHB
    rcases HQ.out with ⟨rfl, hqe⟩ | hqe
    · have HQE := Lib.hid hqe
      have hnp := fun W => neq_ptr_same W ⟨g, o, none⟩
      clear hqe HQ
      go_wp2
      go_quiet (fail)
      go_wp2
      go_ret
      have hst := HF.out.1 hxy
      rw [← HS0'.out] at hst
      refine ⟨0, _, rfl, ?_, hst, ((Only.refl g w).setCell rfl _).drewN _⟩
      have hB1 := hg.set64 o s _ rfl
      rw [show (pre ++ (zs ++ post)).set o s = pre ++ (([] ++ [s]) ++ zs.drop (0 + 1) ++ post) from set_at pre [] 0 s zs post o xs.length hpo rfl hz hn0] at hB1
      rw [HQE.out]; exact hB1
    · have hqe2 : ¬ g = a.block := fun h => hqe h.symm
      obtain ⟨ca, ta, hpl⟩ := hpl
      have hB1 := hg.set64 o s _ rfl
      rw [show (pre ++ (zs ++ post)).set o s = pre ++ (([] ++ [s]) ++ zs.drop (0 + 1) ++ post) from set_at pre [] 0 s zs post o xs.length hpo rfl hz hn0] at hB1
      have hnp := neq_ptr_other (w.setCell ⟨g, o, none⟩ (.int .u64 s)) (a := ⟨g, o, none⟩) (b := a) (by rintro rfl; exact hqe rfl) hB1 ((Below.heap_setCell w ⟨g, o, none⟩ _ a.block hqe).trans hpl)
      have hnp2 := fun n => neq_ptr_other ((w.setCell ⟨g, o, none⟩ (.int .u64 s)).drewN n) (a := ⟨g, o, none⟩) (b := a) (by rintro rfl; exact hqe rfl) hB1 ((Below.heap_setCell w ⟨g, o, none⟩ _ a.block hqe).trans hpl)
      have hsl1 := fun W => slice_from 61 (by kernel_rfl) W (some ⟨g, o, none⟩) xs.length c 1 1 rfl hn0 hnc
      have hsl2 := fun W => slice_from 61 (by kernel_rfl) W (some a) xs.length cx 1 1 rfl hn0 hncx
      obtain ⟨R, hR⟩ : ∃ R, R = (i64s (pre ++ ((([] ++ [s]) ++ xs.drop (0 + 1)) ++ post))).toArray := ⟨_, rfl⟩
      have hcp := fun m ty => copy_rest (w := (w.setCell ⟨g, o, none⟩ (.int .u64 s)).drewN m) (k := 0 + 1) (rs := [] ++ [s]) hB1 hpo rfl hz rfl hn0 (a := a) (fun j _ hj => (cell_far (by rw [Addr.add_block]; exact hqe) (HA.out j hj))) (c - 1) (cx - 1) ty (adv (some a) 1 cx) (adv (some ⟨g, o, none⟩) 1 c) (adv_or a hncx) (by
        rcases adv_or (⟨g, o, none⟩ : Addr) hnc (k := 1) with h | h
        · left; rw [h]; unfold Addr.add; rw [if_neg (by omega)]
        · exact .inr h)
      simp only [Nat.zero_add] at hcp hR
      simp only [← hR] at hcp
      have HR := Lib.hid hR
      have HB1 := Lib.hid hB1
      clear hB1 hR
      go_wp2
      go_quiet (fail)
      go_wp2
      go_region_held3 (fun w' => True) (first | exact True.intro) (fail)
      go_wp2
      go_ret
      have hst := HF.out.1 hxy
      rw [← HS0'.out] at hst
      refine ⟨0, _, rfl, ?_, hst, (((Only.refl g w).setCell rfl _).drewN _).setRow _⟩
      rw [HR.out]
      exact Blk.setRow HB1.out _
  · obtain rfl : b = 1 := by have := HHB.out; simp only [B64] at *; omega
    have hst := HF.out.2 (by simp only [B64]; omega)
    rw [show (x + y) % B64 = s from by rw [HHS.out, Nat.add_zero]] at hst
    have HST := Lib.hid hst
    clear hst HHS HHB hxy
    have hi1 : (0 : Int) < (xs.length : Int) := by omega
    have hB1 := hg.set64 o s _ rfl
    rw [show (pre ++ (zs ++ post)).set o s = pre ++ (([] ++ [s]) ++ zs.drop (0 + 1) ++ post) from set_at pre [] 0 s zs post o xs.length hpo rfl hz hn0] at hB1
    have HB1 := Lib.hid hB1
    clear hB1
    go_wp2
    go_loopw [9] (fun i wr => ∃ (k : Nat) (rs : List Nat), i = .int .i64 k ∧ 1 ≤ k ∧ k ≤ xs.length ∧ Hid (IncInv B64 xs y k rs) ∧ Hid (Blk wr g 106 (i64s (pre ++ ((rs ++ zs.drop k) ++ post)))) ∧ Hid (Only g w wr)) (fun i _ => xs.length - (intOf i).toNat)
    case atStart => exact ⟨1, [s], rfl, by omega, by omega, HST.out, HB1.out, (Only.refl g w).setCell rfl _⟩
    case round =>
      obtain ⟨k, rs, rfl, hk1, hk, hI, hZ, hW⟩ := hrel
      have hrl := hI.out.len
      by_cases hlt : k < xs.length
      · have hbb := bd_at HZB.out hI.out.bd k
        obtain ⟨z', hz1', hz2', _, _⟩ := hZ.out.at64 (i := o + k) (by simp; omega) hbb
        have HBB := Lib.hid hbb
        clear hbb
        obtain ⟨a', ha, hca⟩ := HS.out wr rs k hrl hZ.out hW.out k (Nat.le_refl _) hlt
        cases ha
        have hxk' := getD_mem_lt HXB.out hlt
        obtain ⟨x', hx'⟩ : ∃ x', xs.getD k 0 = x' := ⟨_, rfl⟩
        rw [hx'] at hca hxk'
        have HX' := Lib.hid hx'
        clear hx'
        have hi2 : (k : Int) < (xs.length : Int) := by omega
        have hi3 : (0 : Int) ≤ (k : Int) := by omega
        have hwk : IntKind.i64.wrap ((k : Int) + 1) = (k : Int) + 1 := IntWalk.i64_in _ (by omega)
        by_cases hxm : x' = 18446744073709551615
        · subst hxm
          go_wp2
          go_roundw
          case rel =>
            have hst := hI.out.more (by decide) hlt HX'.out rfl
            have hb := hZ.out.set64 (o + k) 0 _ rfl
            rw [set_at pre rs k _ zs post o xs.length hpo hrl hz hlt] at hb
            exact ⟨k + 1, _, by go_num, by omega, by omega, hst, hb, hW.out.setCell rfl _⟩
          case measure => simp [intOf]; omega
        · have hxn : ((x' : Int) != 18446744073709551615) = true := by simp; omega
          have hst := hI.out.stop hlt HX'.out HXB.out (by simp only [B64] at *; omega)
          have hb := hZ.out.set64 (o + k) (x' + 1) ((x' : Int) + 1) (by omega)
          rw [set_at pre rs k _ zs post o xs.length hpo hrl hz hlt] at hb
          have HST' := Lib.hid hst
          have HB := Lib.hid hb
          clear hst hb
          have hx1 : IntKind.u64.wrap ((x' : Int) + 1) = (x' : Int) + 1 := by rw [IntKind.wrap_u64]; simp only [B64] at hxk'; omega
          have HXM := Lib.hid hxm
          have HXK' := Lib.hid hxk'
          clear hxm hxk'
          rcases HQ.out with ⟨rfl, hqe⟩ | hqe
          · have HQE := Lib.hid hqe
            clear hqe HQ
            have hzx : z' = x' := by
              have h1 := hca
              rw [show (⟨g, o, none⟩ : Addr).add k = ⟨g, o + k, none⟩ from by unfold Addr.add; rw [if_neg (by omega)], hz1'] at h1
              simp at h1; omega
            subst hzx
            have hnp := fun W => neq_ptr_same W ⟨g, o, none⟩
            go_wp2
            go_quiet (fail)
            go_wp2
            go_ret
            refine ⟨0, _, rfl, ?_, HST'.out, (hW.out.setCell rfl _).drewN _⟩
            have e := HB.out
            rw [← HQE.out] at e
            exact e
          · have hqe2 : ¬ g = a.block := fun h => hqe h.symm
            obtain ⟨ca, ta, hpl⟩ := hpl
            have hpl2 : (wr.setCell ⟨g, o + k, none⟩ (.int .u64 ((x' : Int) + 1))).heap[a.block]? = some (.cells ca ta (0, 0)) := ((hW.out.setCell rfl _).block _ hqe).trans hpl
            have hnp := neq_ptr_other (wr.setCell ⟨g, o + k, none⟩ (.int .u64 ((x' : Int) + 1))) (a := ⟨g, o, none⟩) (b := a) (by rintro rfl; exact hqe rfl) HB.out hpl2
            have hnp2 := fun n => neq_ptr_other ((wr.setCell ⟨g, o + k, none⟩ (.int .u64 ((x' : Int) + 1))).drewN n) (a := ⟨g, o, none⟩) (b := a) (by rintro rfl; exact hqe rfl) HB.out hpl2
            have hsl1 := fun W => slice_from 61 (by kernel_rfl) W (some ⟨g, o, none⟩) xs.length c (k + 1) ((k : Int) + 1) (by omega) hlt hnc
            have hsl2 := fun W => slice_from 61 (by kernel_rfl) W (some a) xs.length cx (k + 1) ((k : Int) + 1) (by omega) hlt hncx
            obtain ⟨R, hR⟩ : ∃ R, R = (i64s (pre ++ (((rs ++ [x' + 1]) ++ xs.drop (k + 1)) ++ post))).toArray := ⟨_, rfl⟩
            have hcp := fun m ty => copy_rest (w := (wr.setCell ⟨g, o + k, none⟩ (.int .u64 ((x' : Int) + 1))).drewN m) (k := k + 1) (rs := rs ++ [x' + 1]) HB.out hpo (by simp [hrl]) hz rfl hlt (a := a) (fun j _ hj => (cell_far (by rw [Addr.add_block]; exact hqe) ((hW.out.cell (by rw [Addr.add_block]; exact hqe)).trans (HA.out j hj)))) (c - (k + 1)) (cx - (k + 1)) ty (adv (some a) (k + 1) cx) (adv (some ⟨g, o, none⟩) (k + 1) c) (adv_or a (by omega)) (by
              rcases adv_or (⟨g, o, none⟩ : Addr) hnc (k := k + 1) with h | h
              · left; rw [h]; unfold Addr.add; rw [if_neg (by omega)]
              · exact .inr h)
            simp only [← hR] at hcp
            have HR := Lib.hid hR
            clear hR
            go_wp2
            go_quiet (fail)
            go_wp2
            go_region_held3 (fun w' => True) (first | exact True.intro) (fail)
            go_wp2
            go_ret
            refine ⟨0, _, rfl, ?_, HST'.out, ((hW.out.setCell rfl _).drewN _).setRow _⟩
            rw [HR.out]
            exact Blk.setRow HB.out _
      · obtain rfl : k = xs.length := by omega
        have hZ' := hZ.out
        rw [List.drop_of_length_le (by omega), List.append_nil] at hZ'
        have HZ' := Lib.hid hZ'
        clear hZ'
        go_wp2
        go_ret
        exact ⟨1, rs, rfl, HZ'.out, hI.out.done, hW.out⟩
end Go.Proofs.YtfgdmiigmcnmpaaGreatFmt
