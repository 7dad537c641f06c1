/- Walks and plain laws of this seat's functions, part 20: E1 E2. -/
import Derived.ProofKit
import Derived.SizedLaws
import Derived.Deep.Slices
import Derived.OpenShut
import Derived.Laws.Cover2
import Derived.Test.YtcfejobdgiiihaaGreatDoorJ19
set_option linter.unusedVariables false
set_option linter.unusedSimpArgs false
namespace Go.Proofs.YtcfejobdgiiihaaGreatDoor
open Go.ChangeShapes Go.WideShapes Go.ChangeAt Go.RowKit Go.Deep

/-- no string, slice or map of it is above the form's reach -/
def Wt {H : Type} (P : Program) (t : TypeId) (d : DataW H) : Prop := ∀ n ∈ d.weights P t, n ≤ reachBytes
theorem weights_all {H : Type} {P : Program} {e : TypeId} : ∀ {ds : List (DataW H)} {d : DataW H}, d ∈ ds → ∀ n ∈ d.weights P e, n ∈ DataW.weightsAll P e ds
  | d0 :: ds, d, hd, n, hn => by
    simp only [DataW.weightsAll, List.mem_append]
    rcases List.mem_cons.1 hd with rfl | h
    · exact .inl hn
    · exact .inr (weights_all h n hn)
theorem Wt.slice {H : Type} {P : Program} {t e : TypeId} {elems spare : List (DataW H)} (h : Wt P t (.slice elems spare)) (ht : P.underlying t = some (.slice e)) :
    elems.length * P.bytesOf e ≤ reachBytes ∧ ∀ d ∈ elems, Wt P e d := by
  have h1 := h ((elems.length + spare.length) * P.bytesOf e) (by simp [DataW.weights, ht])
  refine ⟨Nat.le_trans (Nat.mul_le_mul_right _ (by omega)) h1, fun d hd n hn => h n ?_⟩
  simp only [DataW.weights, ht, List.mem_cons, List.mem_append]
  exact .inr (.inl (weights_all hd n hn))
theorem Wt.agg {H : Type} {P : Program} {t : TypeId} {fs : Array Field} {parts : List (DataW H)} (h : Wt P t (.agg parts)) (ht : P.underlying t = some (.struct fs)) {i : Nat} {f : Field} {d : DataW H} (hf : fs[i]? = some f) (hd : parts[i]? = some d) : Wt P f.type d := by
  intro n hn
  refine h n ?_
  simp only [DataW.weights, ht]
  exact DataW.weights_mem_each (j := i) (by rw [List.getElem?_map, Array.getElem?_toList, hf]; rfl) hd n hn
theorem Wt.arg {H : Type} {P : Program} {ts : List TypeId} {ds : List (DataW H)} (h : (DataW.weightsEach P ts ds).all (· ≤ reachBytes) = true) {j : Nat} {t : TypeId} {d : DataW H} (ht : ts[j]? = some t) (hd : ds[j]? = some d) : Wt P t d := by
  intro n hn
  have := List.all_eq_true.1 h _ (DataW.weights_mem_each ht hd n hn)
  simpa using this
/-- what reads as data of this type lies in memory as d says -/
def Opens {α : Type} (d : Rd α) (t : TypeId) : Prop :=
  ∀ {H : Type} (enc : TypeId × Value → H) (w : World) (fuel : Nat) (cs : List Value) (x : DataW H × List MemPlace), DataW.trod enc Tryz.prog w 0 (fun _ => true) true fuel t cs = some x → Wt Tryz.prog t x.1 → ∃ a, d.R w w.heap.size a cs
theorem block_lt' {w : World} {a : Addr} {v : Value} (h : w.cell? a = some v) : a.block < w.heap.size := by
  unfold World.cell? at h
  split at h
  · rename_i hb; exact (Array.getElem?_eq_some_iff.1 hb).1
  · cases h
theorem trod_float' {H : Type} {enc : TypeId × Value → H} {P : Program} {w : World} {base : Nat} {spare : Nat → Bool} {held : Bool} {t : TypeId} {fuel : Nat} {cs : List Value} {x : DataW H × List MemPlace} {k : FloatKind}
    (ht : P.underlying t = some (.float k)) (h : DataW.trod enc P w base spare held fuel t cs = some x) : ∃ n, cs = [.float k n] ∧ (Lit.float k n).wf = true := by
  cases fuel with
  | zero => simp [DataW.trod] at h
  | succ n =>
    unfold DataW.trod at h
    rw [ht] at h
    split at h <;> simp_all
theorem opens_f64 : Opens f64 47 := by
  intro H enc w fuel cs x h _
  obtain ⟨n, rfl, hw⟩ := trod_float' (by kernel_rfl : Tryz.prog.underlying 47 = some (.float .f64)) h
  exact ⟨n, rfl, by simpa [Lit.wf] using hw⟩
theorem opens_i64 : Opens i64 3 := by
  intro H enc w fuel cs x h _
  obtain ⟨n, rfl, _, hw⟩ := DataW.trod_int (by kernel_rfl : Tryz.prog.underlying 3 = some (.int .i64)) h
  have : InInt n := by simp [Lit.wf, IntKind.min, IntKind.max, IntKind.signed, IntKind.bits] at hw; exact ⟨by omega, by omega⟩
  exact ⟨n, rfl, this⟩
theorem slice_reads {α : Type} [Inhabited α] {d : Rd α} {t e : TypeId} (hd : Opens d e) (ht : Tryz.prog.underlying t = some (.slice e)) (hs : Tryz.prog.cellsOf e = d.sz) (h0 : 0 < d.sz) (hb : 8 ≤ Tryz.prog.bytesOf e) {H : Type} (enc : TypeId × Value → H) (w : World) (fuel : Nat) (cs : List Value) (x : DataW H × List MemPlace) (h : DataW.trod enc Tryz.prog w 0 (fun _ => true) true fuel t cs = some x) (hw : Wt Tryz.prog t x.1) : ∃ a, (bsl e d).R w w.heap.size a cs ∧ a.length * Tryz.prog.bytesOf e ≤ reachBytes := by
  rcases open_slice ht h with ⟨rfl, rfl⟩ | ⟨a, len, cap, m, n, D, Pl, rfl, hb0, hl, hm, hmm, rfl, hx⟩
  · exact ⟨[], ⟨⟨none, 0, rfl, Nat.le_refl _, Rd.Row.nil _ _ _ _ _⟩, Nat.zero_le _⟩, by simp⟩
  · have hlm : len ≤ m := by rw [hmm]; exact hl
    have hwl := hw.slice ht
    simp only [List.length_map, List.length_range] at hwl
    obtain ⟨f, hf⟩ := choose_lt (α := α) (n := len) (p := fun i y => ∃ cs', w.cells? 0 (a.add (i * d.sz)) d.sz = some cs' ∧ d.R w w.heap.size y cs') (fun i hi => by
      obtain ⟨cs', h1, h2⟩ := hx i (by omega)
      obtain ⟨y, hy⟩ := hd enc w n cs' _ h2 (hwl.2 _ (List.mem_map.2 ⟨i, List.mem_range.2 hi, rfl⟩))
      rw [hs] at h1
      exact ⟨y, cs', h1, hy⟩)
    have hll : ((List.range len).map f).length = len := by simp
    refine ⟨(List.range len).map f, ⟨⟨some a, cap, by show [Value.slice (some a) len cap] = [Value.slice (some a) ((List.range len).map f).length cap]; rw [hll], by show ((List.range len).map f).length ≤ cap; rw [hll]; exact hl, ?_⟩, ?_⟩, by rw [hll]; exact hwl.1⟩
    show d.Row e w w.heap.size (some a) ((List.range len).map f)
    rotate_left
    show ((List.range len).map f).length ≤ 17592186044416
    rotate_left
    · intro i y hi
      have hil := (List.getElem?_eq_some_iff.1 hi).1
      rw [hll] at hil
      simp only [List.getElem?_map, List.getElem?_range hil, Option.map_some, Option.some.injEq] at hi
      subst hi
      obtain ⟨cs', h1, h2⟩ := hf i hil
      obtain ⟨_, hlen, hc⟩ := World.cells?_some h1
      have hlt : a.block < w.heap.size := by
        have hc0 := hc 0 h0
        have : 0 < cs'.length := by omega
        rw [List.getElem?_eq_getElem this] at hc0
        have := block_lt' hc0
        rwa [Addr.add_block, Addr.add_block] at this
      refine ⟨a, cs', rfl, .inl hlt, hlt, h2, fun j u hj => ?_⟩
      have hjl := (List.getElem?_eq_some_iff.1 hj).1
      rw [← Addr.add_add, hc j (by omega)]
      exact hj
    · rw [hll]
      have h1 := hwl.1
      have h2 : len * 8 ≤ reachBytes := Nat.le_trans (Nat.mul_le_mul_left _ hb) h1
      have h3 : reachBytes = 140737488351232 := rfl
      omega
theorem opens_slice {α : Type} [Inhabited α] {d : Rd α} {t e : TypeId} (hd : Opens d e) (ht : Tryz.prog.underlying t = some (.slice e)) (hs : Tryz.prog.cellsOf e = d.sz) (h0 : 0 < d.sz) (hb : 8 ≤ Tryz.prog.bytesOf e) : Opens (bsl e d) t := by
  intro H enc w fuel cs x h hw
  obtain ⟨a, ha, _⟩ := slice_reads hd ht hs h0 hb enc w fuel cs x h hw
  exact ⟨a, ha⟩
def shapeOf (P : Program) (t : TypeId) : Option (List (Nat × Nat)) := match P.underlying t with
  | some (.struct fs) => some (fs.toList.map fun f => (f.type, f.offset))
  | _ => none
theorem struct_open {H : Type} {enc : TypeId × Value → H} {P : Program} {w : World} {t : TypeId} {fuel : Nat} {cs : List Value} {x : DataW H × List MemPlace} {L : List (Nat × Nat)}
    (h : DataW.trod enc P w 0 (fun _ => true) true fuel t cs = some x) (hs : shapeOf P t = some L) (hw : Wt P t x.1) :
    cs.length = P.cellsOf t ∧ ∀ (i te o : Nat), L[i]? = some (te, o) → ∃ n y, DataW.trod enc P w 0 (fun _ => true) true n te ((cs.drop o).take (P.cellsOf te)) = some y ∧ Wt P te y.1 := by
  unfold shapeOf at hs
  split at hs
  · rename_i fs hu
    simp only [Option.some.injEq] at hs
    subst hs
    obtain ⟨xs, n, _, rfl, hl, hxl, hx⟩ := DataW.trod_struct hu h
    refine ⟨hl, fun i te o hi => ?_⟩
    simp only [List.getElem?_map, Array.getElem?_toList, Option.map_eq_some_iff] at hi
    obtain ⟨f, hf, hfe⟩ := hi
    simp only [Prod.mk.injEq] at hfe
    obtain ⟨rfl, rfl⟩ := hfe
    have hlt := (Array.getElem?_eq_some_iff.1 hf).1
    have hg := hx i f hf
    rw [List.getElem?_eq_getElem (show i < xs.length by omega)] at hg
    exact ⟨n, _, hg, hw.agg hu hf (by rw [List.getElem?_map, List.getElem?_eq_getElem (show i < xs.length by omega)]; rfl)⟩
  · cases hs
theorem list7 {α : Type} : ∀ {l : List α}, l.length = 7 → ∃ c0 c1 c2 c3 c4 c5 c6, l = [c0, c1, c2, c3, c4, c5, c6]
  | [c0, c1, c2, c3, c4, c5, c6], _ => ⟨c0, c1, c2, c3, c4, c5, c6, rfl⟩
set_option maxRecDepth 100000 in
theorem opens_pr : Opens prRd 25 := by
  intro H enc w fuel cs x h hw
  obtain ⟨hl, hf⟩ := struct_open h (by kernel_rfl : shapeOf Tryz.prog 25 = some [(22, 0), (23, 1), (3, 2), (23, 3), (3, 4), (3, 5), (3, 6)]) hw
  rw [show Tryz.prog.cellsOf 25 = 7 from by kernel_rfl] at hl
  obtain ⟨c0, c1, c2, c3, c4, c5, c6, rfl⟩ : ∃ c0 c1 c2 c3 c4 c5 c6, cs = [c0, c1, c2, c3, c4, c5, c6] := list7 hl
  have e1 : Tryz.prog.cellsOf 22 = 1 := by kernel_rfl
  have e2 : Tryz.prog.cellsOf 23 = 1 := by kernel_rfl
  have e3 : Tryz.prog.cellsOf 3 = 1 := by kernel_rfl
  obtain ⟨n0, y0, h0, w0⟩ := hf 0 _ _ rfl
  obtain ⟨n1, y1, h1, w1⟩ := hf 1 _ _ rfl
  obtain ⟨n2, y2, h2, w2⟩ := hf 2 _ _ rfl
  obtain ⟨n3, y3, h3, w3⟩ := hf 3 _ _ rfl
  obtain ⟨n4, y4, h4, w4⟩ := hf 4 _ _ rfl
  obtain ⟨n5, y5, h5, w5⟩ := hf 5 _ _ rfl
  obtain ⟨n6, y6, h6, w6⟩ := hf 6 _ _ rfl
  rw [e1] at h0
  rw [e2] at h1 h3
  rw [e3] at h2 h4 h5 h6
  have u1 : Tryz.prog.underlying 22 = some (.slice 47) := by kernel_rfl
  have u2 : Tryz.prog.underlying 23 = some (.slice 22) := by kernel_rfl
  have b1 : Tryz.prog.bytesOf 47 = 8 := by kernel_rfl
  have b2 : Tryz.prog.bytesOf 22 = 24 := by kernel_rfl
  have of1 : Opens (bsl 47 f64) 22 := opens_slice opens_f64 u1 (by kernel_rfl) (by decide) (by rw [b1]; decide)
  obtain ⟨C, ⟨⟨AC, cC, hc, hC1, hC2⟩, hC3⟩⟩ := of1 enc w n0 _ y0 h0 w0
  obtain ⟨G, ⟨⟨AG, cG, hg, hG1, hG2⟩, hG3⟩, hG4⟩ := slice_reads of1 u2 e1 (by decide) (by rw [b2]; decide) enc w n1 _ y1 h1 w1
  obtain ⟨L, ⟨⟨AL, cL, hh, hL1, hL2⟩, hL3⟩, hL4⟩ := slice_reads of1 u2 e1 (by decide) (by rw [b2]; decide) enc w n3 _ y3 h3 w3
  obtain ⟨T, hT, hT2⟩ := opens_i64 enc w n2 _ y2 h2 w2
  obtain ⟨K, hK, hK2⟩ := opens_i64 enc w n4 _ y4 h4 w4
  obtain ⟨D, hD, hD2⟩ := opens_i64 enc w n5 _ y5 h5 w5
  obtain ⟨S, hS, hS2⟩ := opens_i64 enc w n6 _ y6 h6 w6
  rw [b2, show reachBytes = 140737488351232 from rfl] at hG4 hL4
  simp only [List.drop, List.take, List.cons.injEq, and_true] at hc hg hh hT hK hD hS
  subst hc hg hh hT hK hD hS
  exact ⟨⟨C, G, T, L, K, D, S⟩, AC, AG, AL, cC, cG, cL, rfl, ⟨hC2, hG2, hL2⟩, ⟨hC1, hC3⟩, ⟨hG1, by show G.length ≤ _; omega⟩, ⟨hL1, by show L.length ≤ _; omega⟩, hT2, hK2, hD2, hS2⟩
end Go.Proofs.YtcfejobdgiiihaaGreatDoor

namespace Go.Proofs.YtcfejobdgiiihaaGreatDoor
open Go.ChangeShapes Go.WideShapes Go.ChangeAt Go.RowKit Go.Deep

theorem list6 {α : Type} : ∀ {l : List α}, l.length = 6 → ∃ c0 c1 c2 c3 c4 c5, l = [c0, c1, c2, c3, c4, c5]
  | [c0, c1, c2, c3, c4, c5], _ => ⟨c0, c1, c2, c3, c4, c5, rfl⟩
set_option maxRecDepth 100000 in
theorem opens_zn : Opens zRd 42 := by
  intro H enc w fuel cs x h hw
  obtain ⟨hl, hf⟩ := struct_open h (by kernel_rfl : shapeOf Tryz.prog 42 = some [(3, 0), (22, 1), (40, 2), (23, 3), (22, 4), (4, 5)]) hw
  rw [show Tryz.prog.cellsOf 42 = 6 from by kernel_rfl] at hl
  obtain ⟨c0, c1, c2, c3, c4, c5, rfl⟩ := list6 hl
  have e1 : Tryz.prog.cellsOf 22 = 1 := by kernel_rfl
  have e2 : Tryz.prog.cellsOf 23 = 1 := by kernel_rfl
  have e3 : Tryz.prog.cellsOf 3 = 1 := by kernel_rfl
  have e4 : Tryz.prog.cellsOf 40 = 1 := by kernel_rfl
  have e5 : Tryz.prog.cellsOf 4 = 1 := by kernel_rfl
  obtain ⟨n0, y0, h0, w0⟩ := hf 0 _ _ rfl
  obtain ⟨n1, y1, h1, w1⟩ := hf 1 _ _ rfl
  obtain ⟨n2, y2, h2, w2⟩ := hf 2 _ _ rfl
  obtain ⟨n3, y3, h3, w3⟩ := hf 3 _ _ rfl
  obtain ⟨n4, y4, h4, w4⟩ := hf 4 _ _ rfl
  obtain ⟨n5, y5, h5, w5⟩ := hf 5 _ _ rfl
  rw [e3] at h0
  rw [e1] at h1 h4
  rw [e4] at h2
  rw [e2] at h3
  rw [e5] at h5
  have u1 : Tryz.prog.underlying 22 = some (.slice 47) := by kernel_rfl
  have u2 : Tryz.prog.underlying 23 = some (.slice 22) := by kernel_rfl
  have u3 : Tryz.prog.underlying 40 = some (.slice 3) := by kernel_rfl
  have b1 : Tryz.prog.bytesOf 47 = 8 := by kernel_rfl
  have b2 : Tryz.prog.bytesOf 22 = 24 := by kernel_rfl
  have b3 : Tryz.prog.bytesOf 3 = 8 := by kernel_rfl
  have of1 : Opens (bsl 47 f64) 22 := opens_slice opens_f64 u1 (by kernel_rfl) (by decide) (by rw [b1]; decide)
  obtain ⟨N, hN, hN2⟩ := opens_i64 enc w n0 _ y0 h0 w0
  obtain ⟨C, ⟨⟨AC, cC, hc, hC1, hC2⟩, hC3⟩⟩ := of1 enc w n1 _ y1 h1 w1
  obtain ⟨R, ⟨⟨AR, cR, hrr, hR1, hR2⟩, hR3⟩⟩ := of1 enc w n4 _ y4 h4 w4
  obtain ⟨I, ⟨⟨AI, cI, hi, hI1, hI2⟩, hI3⟩⟩ := opens_slice (t := 40) (e := 3) opens_i64 u3 e3 (by decide) (by rw [b3]; decide) enc w n2 _ y2 h2 w2
  obtain ⟨G, ⟨⟨AG, cG, hg, hG1, hG2⟩, hG3⟩, hG4⟩ := slice_reads of1 u2 e1 (by decide) (by rw [b2]; decide) enc w n3 _ y3 h3 w3
  obtain ⟨bad, hb, _⟩ := DataW.trod_bool (by kernel_rfl : Tryz.prog.underlying 4 = some .bool) h5
  rw [b2, show reachBytes = 140737488351232 from rfl] at hG4
  simp only [List.drop, List.take, List.cons.injEq, and_true] at hN hc hrr hi hg hb
  subst hN hc hrr hi hg hb
  exact ⟨⟨N, C, I, G, R, bad⟩, AC, AI, AG, AR, cC, cI, cG, cR, rfl, ⟨hC2, hI2, hG2, hR2⟩, hN2, ⟨hC1, hC3⟩, ⟨hI1, hI3⟩, ⟨hG1, by show G.length ≤ _; omega⟩, ⟨hR1, hR3⟩⟩
theorem opens_ff : Opens (bsl 22 (bsl 47 f64)) 23 :=
  opens_slice (opens_slice opens_f64 (by kernel_rfl) (by kernel_rfl) (by decide) (by rw [show Tryz.prog.bytesOf 47 = 8 from by kernel_rfl]; decide)) (by kernel_rfl) (by kernel_rfl) (by decide) (by rw [show Tryz.prog.bytesOf 22 = 24 from by kernel_rfl]; decide)
theorem opens_f : Opens (bsl 47 f64) 22 :=
  opens_slice opens_f64 (by kernel_rfl) (by kernel_rfl) (by decide) (by rw [show Tryz.prog.bytesOf 47 = 8 from by kernel_rfl]; decide)
theorem opens_i : Opens (bsl 3 i64) 40 :=
  opens_slice opens_i64 (by kernel_rfl) (by kernel_rfl) (by decide) (by rw [show Tryz.prog.bytesOf 3 = 8 from by kernel_rfl]; decide)
end Go.Proofs.YtcfejobdgiiihaaGreatDoor
