import Derived.Test.YtfgdmiigmcnmpaaGreatFmtKQ22
import Derived.ProofKit
import Derived.SizedLaws
import Derived.Deep.Slices
import Derived.OpenShut
import Derived.Laws.Cover2
set_option linter.unusedVariables false
set_option linter.unusedSimpArgs false
namespace Go.Proofs.YtfgdmiigmcnmpaaGreatFmt
open Go.ChangeShapes Go.WideShapes Go.ChangeAt Go.RowKit Go.Deep

/-! ### the script of RoundPlays, opened -/
theorem trod_flt {H : Type} {enc : TypeId × Value → H} {P : Program} {w : World} {base : Nat} {spare : Nat → Bool} {held : Bool} {t : TypeId} {fuel : Nat} {cs : List Value} {x : DataW H × List MemPlace} {k : FloatKind}
    (ht : P.underlying t = some (.float k)) (h : DataW.trod enc P w base spare held fuel t cs = some x) : ∃ n, cs = [.float k n] ∧ (Lit.float k n).wf = true := by
  cases fuel with
  | zero => simp [DataW.trod] at h
  | succ n =>
    unfold DataW.trod at h
    rw [ht] at h
    split at h <;> simp_all
def shapeOf (P : Program) (t : TypeId) : Option (List (Nat × Nat)) := match P.underlying t with
  | some (.struct fs) => some (fs.toList.map fun f => (f.type, f.offset))
  | _ => none
theorem struct_opens {H : Type} {enc : TypeId × Value → H} {P : Program} {w : World} {t : TypeId} {fuel : Nat} {cs : List Value} {x : DataW H × List MemPlace} {L : List (Nat × Nat)}
    (h : DataW.trod enc P w 0 (fun _ => true) true fuel t cs = some x) (hs : shapeOf P t = some L) :
    cs.length = P.cellsOf t ∧ ∀ (i te o : Nat), L[i]? = some (te, o) → ∃ n y, DataW.trod enc P w 0 (fun _ => true) true n te ((cs.drop o).take (P.cellsOf te)) = some y := by
  unfold shapeOf at hs
  split at hs
  · rename_i fs hu
    simp only [Option.some.injEq] at hs
    subst hs
    obtain ⟨xs, n, _, rfl, hl, hxl, hx⟩ := DataW.trod_struct hu h
    refine ⟨hl, fun i te o hi => ?_⟩
    simp only [List.getElem?_map, Array.getElem?_toList, Option.map_eq_some_iff] at hi
    obtain ⟨f, hf, hfe⟩ := hi
    simp only [Prod.mk.injEq] at hfe
    obtain ⟨rfl, rfl⟩ := hfe
    have hlt := (Array.getElem?_eq_some_iff.1 hf).1
    have hg := hx i f hf
    rw [List.getElem?_eq_getElem (show i < xs.length by omega)] at hg
    exact ⟨n, _, hg⟩
  · cases hs
theorem list5 {α : Type} : ∀ {l : List α}, l.length = 5 → ∃ c0 c1 c2 c3 c4, l = [c0, c1, c2, c3, c4]
  | [c0, c1, c2, c3, c4], _ => ⟨c0, c1, c2, c3, c4, rfl⟩
theorem add_next (p : Addr) (n : Nat) (h : 0 < n) : (⟨p.block, p.off + n, none⟩ : Addr) = p.add n := by
  unfold Addr.add; rw [if_neg (by omega)]
set_option maxRecDepth 100000 in
theorem open_ops {H : Type} (enc : TypeId × Value → H) (w : World) (fuel : Nat) (A : Option Addr) (n c : Nat) (x : DataW H × List MemPlace) (h : DataW.trod enc Tryz.prog w 0 (fun _ => true) true fuel 37 [.slice A n c] = some x) : ∀ k, k < n → OpAt w A k := by
  have us : Tryz.prog.underlying 37 = some (.slice 39) := by kernel_rfl
  rcases open_slice us h with ⟨hc, _⟩ | ⟨a, len, cap, m, n', D, Pl, hc, hb0, hl, hm, hmm, rfl, hx⟩
  · cases hc
    intro k hk
    omega
  · cases hc
    intro k hk
    have hkm : k < m := by rw [hmm]; simp; omega
    obtain ⟨cs', h1, h2⟩ := hx k hkm
    rw [show Tryz.prog.cellsOf 39 = 5 from by kernel_rfl] at h1
    obtain ⟨_, hlen, hcell⟩ := World.cells?_some h1
    obtain ⟨_, hf⟩ := struct_opens h2 (by kernel_rfl : shapeOf Tryz.prog 39 = some [(3, 0), (3, 1), (22, 2), (22, 3), (3, 4)])
    obtain ⟨c0, c1, c2, c3, c4, rfl⟩ := list5 hlen
    have e1 : Tryz.prog.cellsOf 3 = 1 := by kernel_rfl
    have e2 : Tryz.prog.cellsOf 22 = 1 := by kernel_rfl
    have u1 : Tryz.prog.underlying 3 = some (.int .i64) := by kernel_rfl
    have u2 : Tryz.prog.underlying 22 = some (.float .f64) := by kernel_rfl
    obtain ⟨n0, y0, h0⟩ := hf 0 _ _ rfl
    obtain ⟨n1, y1, h1'⟩ := hf 1 _ _ rfl
    obtain ⟨n2, y2, h2'⟩ := hf 2 _ _ rfl
    obtain ⟨n3, y3, h3⟩ := hf 3 _ _ rfl
    obtain ⟨n4, y4, h4⟩ := hf 4 _ _ rfl
    rw [e1] at h0 h1' h4
    rw [e2] at h2' h3
    obtain ⟨v0, k0, _⟩ := DataW.trod_int u1 h0
    obtain ⟨v1, k1, _⟩ := DataW.trod_int u1 h1'
    obtain ⟨v2, k2, w2⟩ := trod_flt u2 h2'
    obtain ⟨v3, k3, w3⟩ := trod_flt u2 h3
    obtain ⟨v4, k4, _⟩ := DataW.trod_int u1 h4
    simp only [List.drop, List.take, List.cons.injEq, and_true] at k0 k1 k2 k3 k4
    subst k0 k1 k2 k3 k4
    refine ⟨a, v0, v1, v4, v2, v3, rfl, ⟨by simpa [Lit.wf] using w2, by simpa [Lit.wf] using w3⟩, ?_, ?_, ?_, ?_, ?_⟩
    · have := hcell 0 (by simp); rw [Addr.add_add] at this; simpa using this
    · rw [add_next _ 1 (by decide)]; have := hcell 1 (by simp); simpa using this
    · rw [add_next _ 2 (by decide)]; have := hcell 2 (by simp); simpa using this
    · rw [add_next _ 3 (by decide)]; have := hcell 3 (by simp); simpa using this
    · rw [add_next _ 4 (by decide)]; have := hcell 4 (by simp); simpa using this
end Go.Proofs.YtfgdmiigmcnmpaaGreatFmt
