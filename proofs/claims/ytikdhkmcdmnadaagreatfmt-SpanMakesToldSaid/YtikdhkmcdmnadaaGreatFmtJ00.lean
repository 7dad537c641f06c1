/- Walks and plain laws of this seat's functions, part 0: Base Dig. -/
import Derived.WalkKit
import Derived.WalkSpells
import Derived.WalkLawsBesides
import Derived.Deep.OwnRows
import Derived.Deep.LoopGhost
import Derived.Deep.QuietTactic
import Derived.BigQuiet
import Derived.Lib.Hide
import Derived.Deep.RegionHeld3
import Derived.Deep.DeepCutAuto
import Derived.Deep.AppendLies
set_option linter.unusedVariables false
set_option linter.unusedSimpArgs false
namespace Go.Proofs.YtikdhkmcdmnadaaGreatFmt
open Go.RowKit

/-! ### blocks known whole -/
def Blk (w : World) (b t : Nat) (cs : List Value) : Prop := w.heap[b]? = some (.cells cs.toArray t (0, 0))
theorem Blk.cell {w : World} {b t : Nat} {cs : List Value} (h : Blk w b t cs) (i : Nat) : w.cell? ⟨b, i, none⟩ = cs[i]? := by
  rw [cell_of_row w b i _ t (0, 0) h]; simp
theorem Blk.frozen {w : World} {b t : Nat} {cs : List Value} (h : Blk w b t cs) (i : Nat) : w.frozen? ⟨b, i, none⟩ = false := by
  simp [World.frozen?, show w.heap[b]? = _ from h]
theorem Blk.lt {w : World} {b t : Nat} {cs : List Value} (h : Blk w b t cs) : b < w.heap.size := (Array.getElem?_eq_some_iff.1 h).1
theorem Blk.below {w w' : World} {B b t : Nat} {cs : List Value} (h : Blk w b t cs) (hb : Below B w w') (hlt : b < B) : Blk w' b t cs :=
  (hb.block b hlt).trans h
theorem Blk.below' {w w' : World} {b t : Nat} {cs : List Value} (h : Blk w b t cs) (hb : Below w.heap.size w w') : Blk w' b t cs := h.below hb h.lt
theorem Blk.new (w : World) (cs : Array Value) (t : Nat) : Blk (w.alloc (.cells cs t)) w.heap.size t cs.toList := by
  unfold Blk; rw [heap_alloc_new]
theorem Blk.alloc {w : World} {b t : Nat} {cs : List Value} (h : Blk w b t cs) (o : Obj) : Blk (w.alloc o) b t cs :=
  h.below' ((Below.refl _ _).alloc (Nat.le_refl _) o)
theorem Blk.set {w : World} {b t : Nat} {cs : List Value} (h : Blk w b t cs) (i : Nat) (u : Value) : Blk (w.setCell ⟨b, i, none⟩ u) b t (cs.set i u) := by
  have h' : w.heap[b]? = some (.cells cs.toArray t (0, 0)) := h
  unfold Blk
  simp only [World.setCell, Array.getElem?_modify, if_pos, h']
  simp
theorem Blk.far {w : World} {b t : Nat} {cs : List Value} (h : Blk w b t cs) {p : Addr} (hp : b ≠ p.block) (u : Value) : Blk (w.setCell p u) b t cs :=
  (Below.heap_setCell w p u b hp).trans h
theorem Blk.ne {w : World} {b b' t t' : Nat} {cs cs' : List Value} (h : Blk w b t cs) (h' : Blk w b' t' cs') (ht : t ≠ t') : b ≠ b' := by
  rintro rfl
  have := (show w.heap[b]? = _ from h).symm.trans h'
  simp at this
  exact ht this.2
theorem Blk.grown {w w1 : World} {b t : Nat} {cs : List Value} {row : Option Nat} (h : Blk w b t cs) (hg : w.grownBy w1 row) (hne : some b ≠ row) : Blk w1 b t cs :=
  (hg.block b h.lt hne).trans h

theorem cell_succ {w : World} {a : Addr} {m : Nat} {v : Option Value} (h : w.cell? (a.add m) = v) (hm : 0 < m) : w.cell? ⟨a.block, a.off + m, none⟩ = v := by
  unfold Addr.add at h; rwa [if_neg (by omega)] at h

/-! ### small steps of 'Below' -/
theorem below_new {w W : World} (h : Below w.heap.size w W) (o : Obj) : Below w.heap.size w (W.alloc o) := h.alloc h.size o
theorem below_next {w W W' : World} (h : Below w.heap.size w W) (k : Below W.heap.size W W') : Below w.heap.size w W' := h.trans (k.mono h.size)

theorem below_drewN {B : Nat} {w W : World} (h : Below B w W) (n : Nat) : Below B w (W.drewN n) := ⟨h.os, h.tape, h.output, h.size, h.block⟩
theorem drewN_drewN (w : World) (a b : Nat) : (w.drewN a).drewN b = w.drewN (a + b) := by simp [World.drewN, Nat.add_assoc]

theorem bcell {W w1 : World} (hb : Below W.heap.size W w1) : (∀ b o, b < W.heap.size → w1.cell? ⟨b, o, none⟩ = W.cell? ⟨b, o, none⟩) ∧ (∀ b o, b < W.heap.size → w1.frozen? ⟨b, o, none⟩ = W.frozen? ⟨b, o, none⟩) :=
  ⟨fun b o h => hb.cell (p := ⟨b, o, none⟩) h, fun b o h => hb.frozen (p := ⟨b, o, none⟩) h⟩

theorem cell_kept {W w1 : World} (hb : Below W.heap.size W w1) {a : Addr} {v : Value} (h : W.cell? a = some v) : w1.cell? a = some v :=
  (hb.cell (World.block_lt_of_cell? W a h)).trans h

/-! ### what stays: the blocks below a base, and those of certain types -/
def Keeps (base : Nat) (E : List Nat) (w w' : World) : Prop :=
  w.heap.size ≤ w'.heap.size ∧ ∀ g, g < w.heap.size → (g < base ∨ ∃ cells q, q ∈ E ∧ w.heap[g]? = some (.cells cells q (0, 0))) → w'.heap[g]? = w.heap[g]?
theorem Keeps.of_below {w w' : World} (base : Nat) (E : List Nat) (h : Below w.heap.size w w') : Keeps base E w w' := ⟨h.size, fun g hg _ => h.block g hg⟩
theorem Keeps.sub {base : Nat} {E E' : List Nat} {w w' : World} (h : Keeps base E w w') (hs : ∀ q, q ∈ E' → q ∈ E) : Keeps base E' w w' :=
  ⟨h.1, fun g hg hk => h.2 g hg (hk.imp id fun ⟨c, q, hq, hh⟩ => ⟨c, q, hs q hq, hh⟩)⟩
theorem Keeps.of_grown {w w' : World} {base : Nat} {E : List Nat} {row : Option Nat} (h : w.grownBy w' row)
    (hr : ∀ k, row = some k → base ≤ k ∧ ∀ cells q, q ∈ E → w.heap[k]? ≠ some (.cells cells q (0, 0))) : Keeps base E w w' :=
  ⟨h.size, fun g hg hk => h.block g hg (fun e => by
    obtain ⟨h1, h2⟩ := hr g e.symm
    rcases hk with hk | ⟨c, q, hq, hh⟩
    · omega
    · exact h2 c q hq hh)⟩
theorem Keeps.of_set {w : World} {base : Nat} {E : List Nat} {p : Addr} (u : Value) (h1 : base ≤ p.block) (h2 : ∀ cells q, q ∈ E → w.heap[p.block]? ≠ some (.cells cells q (0, 0))) : Keeps base E w (w.setCell p u) :=
  ⟨by simp [World.setCell], fun g _ hk => Below.heap_setCell w p u g (fun e => by
    subst e
    rcases hk with hk | ⟨c, q, hq, hh⟩
    · omega
    · exact h2 c q hq hh)⟩
theorem Keeps.set_blk {w : World} {base : Nat} {E : List Nat} {b t : Nat} {cs : List Value} (hb : Blk w b t cs) (h1 : base ≤ b) (h2 : t ∉ E) (i : Nat) (u : Value) : Keeps base E w (w.setCell ⟨b, i, none⟩ u) :=
  Keeps.of_set u h1 (fun cells q hq hh => by
    have := (show w.heap[b]? = _ from hb).symm.trans hh
    simp at this
    exact h2 (this.2 ▸ hq))

/-- a block of another type -/
def NT (w : World) (q b : Nat) : Prop := ∃ t cs, t ≠ q ∧ Blk w b t cs
theorem NT.set {w : World} {q b : Nat} (h : NT w q b) (b' i : Nat) (u : Value) : NT (w.setCell ⟨b', i, none⟩ u) q b := by
  obtain ⟨t, cs, ht, hb⟩ := h
  by_cases e : b = b'
  · subst e; exact ⟨t, _, ht, hb.set i u⟩
  · exact ⟨t, cs, ht, hb.far e u⟩
theorem NT.below {w w' : World} {q b : Nat} (h : NT w q b) (hb : Below w.heap.size w w') : NT w' q b := by
  obtain ⟨t, cs, ht, h⟩ := h; exact ⟨t, cs, ht, h.below' hb⟩
theorem NT.new (w : World) (cs : Array Value) (t q : Nat) (h : t ≠ q) : NT (w.alloc (.cells cs t)) q w.heap.size := ⟨t, _, h, Blk.new _ _ _⟩
theorem NT.alloc {w : World} {q b : Nat} (h : NT w q b) (o : Obj) : NT (w.alloc o) q b := by
  obtain ⟨t, cs, ht, h⟩ := h; exact ⟨t, cs, ht, h.alloc o⟩
theorem NT.drewN {w : World} {q b : Nat} (h : NT w q b) (n : Nat) : NT (w.drewN n) q b := h
theorem NT.drew {w : World} {q b : Nat} (h : NT w q b) : NT w.drew q b := h
theorem Keeps.set_nt {w : World} {base q b : Nat} (h : NT w q b) (h1 : base ≤ b) (i : Nat) (u : Value) : Keeps base [q] w (w.setCell ⟨b, i, none⟩ u) := by
  obtain ⟨t, cs, ht, hb⟩ := h
  exact Keeps.set_blk hb h1 (by simpa using ht) i u

/-! ### a reading: how a datum lies in memory -/
structure Rd (α : Type) where
  sz : Nat
  E : List Nat
  R : World → Nat → α → List Value → Prop
  len : ∀ {w base x cs}, R w base x cs → cs.length = sz
  one : ∀ {w base x cs}, R w base x cs → ∀ u ∈ cs, u.oneCell' = true
  keep : ∀ {w w' base x cs}, R w base x cs → Keeps base E w w' → R w' base x cs
theorem Rd.below {α : Type} (d : Rd α) {w w' : World} {base : Nat} {x : α} {cs : List Value} (h : d.R w base x cs) (hb : Below w.heap.size w w') : d.R w' base x cs := d.keep h (Keeps.of_below _ _ hb)
def Okb (w : World) (base t g : Nat) : Prop := g < base ∨ ∃ cells, w.heap[g]? = some (.cells cells t (0, 0))
/-- a row of elements, from the address A on -/
def Rd.Row {α : Type} (d : Rd α) (t : Nat) (w : World) (base : Nat) (A : Option Addr) (xs : List α) : Prop :=
  ∀ i x, xs[i]? = some x → ∃ a cs, A = some a ∧ Okb w base t a.block ∧ a.block < w.heap.size ∧ d.R w base x cs ∧ ∀ j u, cs[j]? = some u → w.cell? (a.add (i * d.sz + j)) = some u
theorem Addr.add_block (a : Addr) (n : Nat) : (a.add n).block = a.block := by unfold Addr.add; split <;> rfl
theorem Rd.Row.keep {α : Type} {d : Rd α} {t : Nat} {w w' : World} {base : Nat} {A : Option Addr} {xs : List α} {E : List Nat} (h : d.Row t w base A xs)
    (hk : Keeps base E w w') (ht : t ∈ E) (hE : ∀ q, q ∈ d.E → q ∈ E) : d.Row t w' base A xs := by
  intro i x hi
  obtain ⟨a, cs, ha, hok, hlt, hr, hc⟩ := h i x hi
  have hs : w'.heap[a.block]? = w.heap[a.block]? := hk.2 _ hlt (hok.imp id fun ⟨c, hh⟩ => ⟨c, t, ht, hh⟩)
  refine ⟨a, cs, ha, hok.imp id (fun ⟨c, hh⟩ => ⟨c, hs.trans hh⟩), Nat.lt_of_lt_of_le hlt hk.1, d.keep hr (hk.sub hE), fun j u hj => ?_⟩
  exact (World.cell?_of_block (by rw [Addr.add_block]; exact hs)).trans (hc j u hj)
theorem Rd.Row.below {α : Type} {d : Rd α} {t : Nat} {w w' : World} {base : Nat} {A : Option Addr} {xs : List α} (h : d.Row t w base A xs) (hb : Below w.heap.size w w') : d.Row t w' base A xs :=
  h.keep (E := t :: d.E) (Keeps.of_below _ _ hb) (by simp) (fun q hq => by simp [hq])
theorem Rd.Row.nil {α : Type} (d : Rd α) (t : Nat) (w : World) (base : Nat) (A : Option Addr) : d.Row t w base A [] := fun i x h => by simp at h

def Rd.scalar {α : Type} (enc : α → Value) (P : α → Prop) (h1 : ∀ x, (enc x).oneCell' = true) : Rd α where
  sz := 1
  E := []
  R _ _ x cs := cs = [enc x] ∧ P x
  len h := by rw [h.1]; rfl
  one h u hu := by rw [h.1] at hu; simp at hu; subst hu; exact h1 _
  keep h _ := h
def Rd.slice {α : Type} (t : Nat) (d : Rd α) : Rd (List α) where
  sz := 1
  E := t :: d.E
  R w base xs cs := ∃ A c, cs = [.slice A xs.length c] ∧ xs.length ≤ c ∧ d.Row t w base A xs
  len h := by obtain ⟨A, c, rfl, _⟩ := h; rfl
  one h u hu := by obtain ⟨A, c, rfl, _⟩ := h; simp at hu; subst hu; rfl
  keep h hk := by obtain ⟨A, c, rfl, h1, h2⟩ := h; exact ⟨A, c, rfl, h1, h2.keep hk (by simp) (fun q hq => by simp [hq])⟩
def Rd.pair {α β : Type} (a : Rd α) (b : Rd β) : Rd (α × β) where
  sz := a.sz + b.sz
  E := a.E ++ b.E
  R w base x cs := ∃ c1 c2, cs = c1 ++ c2 ∧ a.R w base x.1 c1 ∧ b.R w base x.2 c2
  len h := by obtain ⟨c1, c2, rfl, h1, h2⟩ := h; rw [List.length_append, a.len h1, b.len h2]
  one h u hu := by
    obtain ⟨c1, c2, rfl, h1, h2⟩ := h
    rcases List.mem_append.1 hu with hu | hu
    · exact a.one h1 u hu
    · exact b.one h2 u hu
  keep h hk := by
    obtain ⟨c1, c2, rfl, h1, h2⟩ := h
    exact ⟨c1, c2, rfl, a.keep h1 (hk.sub (by simp +contextual)), b.keep h2 (hk.sub (by simp +contextual))⟩
def Rd.iso {α β : Type} (d : Rd α) (f : β → α) (P : β → Prop) : Rd β where
  sz := d.sz
  E := d.E
  R w base x cs := d.R w base (f x) cs ∧ P x
  len h := d.len h.1
  one h := d.one h.1
  keep h hk := ⟨d.keep h.1 hk, h.2⟩

/-- an element of a row of one-cell values -/
theorem Rd.Row.get {α : Type} {enc : α → Value} {P : α → Prop} {h1 : ∀ x, (enc x).oneCell' = true} {t : Nat} {w : World} {base : Nat} {A : Option Addr} {xs : List α}
    (h : (Rd.scalar enc P h1).Row t w base A xs) {i : Nat} (hi : i < xs.length) :
    ∃ (a : Addr) (x : α), A = some a ∧ w.cell? (a.add i) = some (enc x) ∧ P x ∧ Hid (xs[i]? = some x) := by
  obtain ⟨a, cs, ha, _, _, ⟨hr, hp⟩, hc⟩ := h i xs[i] (by simp [hi])
  subst hr
  have := hc 0 _ rfl
  simp only [Rd.scalar, Nat.mul_one, Nat.add_zero] at this
  exact ⟨a, xs[i], ha, this, hp, by simp [Hid, hi]⟩
/-- a row of one-cell values that lies in a block known whole -/
theorem Blk.row {α : Type} {enc : α → Value} {P : α → Prop} {h1 : ∀ x, (enc x).oneCell' = true} {t b : Nat} {w : World} {base : Nat} {cs : List Value} {xs : List α}
    (h : Blk w b t cs) (hn : cs.take xs.length = xs.map enc) (hP : ∀ x ∈ xs, P x) : (Rd.scalar enc P h1).Row t w base (some ⟨b, 0, none⟩) xs := by
  intro i x hi
  have hl : i < xs.length := (List.getElem?_eq_some_iff.1 hi).1
  refine ⟨_, [enc x], rfl, .inr ⟨_, h⟩, h.lt, ⟨rfl, hP x (List.mem_of_getElem? hi)⟩, fun j u hj => ?_⟩
  have hj0 : j = 0 := by
    rcases j with _ | j
    · rfl
    · simp at hj
  subst hj0
  simp at hj
  subst hj
  have e : cs[i]? = some (enc x) := by
    have := congrArg (·[i]?) hn
    simp only [List.getElem?_take, hl, if_true, List.getElem?_map, hi, Option.map_some] at this
    exact this
  have ha : (⟨b, 0, none⟩ : Addr).add (i * 1 + 0) = ⟨b, i, none⟩ := by unfold Addr.add; split <;> simp_all
  simp only [Rd.scalar]
  rw [ha, h.cell, e]

/-! ### a row of the call's own, still growing -/
def Rd.Own {α : Type} (d : Rd α) (t : Nat) (w : World) (b0 base : Nat) (v : Value) (xs : List α) : Prop :=
  ∃ css : List (List Value), css.length = xs.length ∧ w.ownsRow b0 t d.sz v xs.length css.flatten ∧ ∀ (i : Nat) (x : α) (c : List Value), xs[i]? = some x → css[i]? = some c → d.R w base x c
theorem flatten_at {α : Type} (sz : Nat) : ∀ (css : List (List α)) (i j : Nat) (c : List α) (u : α), (∀ c ∈ css, c.length = sz) → css[i]? = some c → c[j]? = some u → css.flatten[i * sz + j]? = some u
  | [], i, j, c, u, _, hi, _ => by simp at hi
  | c0 :: css, 0, j, c, u, hl, hi, hj => by
    simp at hi; subst hi
    have hjl := (List.getElem?_eq_some_iff.1 hj).1
    rw [List.flatten_cons, Nat.zero_mul, Nat.zero_add, List.getElem?_append_left hjl]; exact hj
  | c0 :: css, i + 1, j, c, u, hl, hi, hj => by
    have h0 := hl c0 (by simp)
    rw [List.flatten_cons, Nat.succ_mul, List.getElem?_append_right (by omega), show i * sz + sz + j - c0.length = i * sz + j from by omega]
    exact flatten_at sz css i j c u (fun c hc => hl c (by simp [hc])) (by simpa using hi) hj
theorem Rd.Own.nil {α : Type} (d : Rd α) (t : Nat) (w : World) (b0 base : Nat) : d.Own t w b0 base (.slice none 0 0) [] :=
  ⟨[], rfl, World.ownsRow_nil _ _ _ _, fun i x c h => by simp at h⟩
theorem Rd.Own.lens {α : Type} {d : Rd α} {w : World} {base : Nat} {css : List (List Value)} {xs : List α} (hl : css.length = xs.length)
    (h : ∀ (i : Nat) (x : α) (c : List Value), xs[i]? = some x → css[i]? = some c → d.R w base x c) : ∀ c ∈ css, c.length = d.sz := by
  intro c hc
  obtain ⟨i, hi, rfl⟩ := List.getElem_of_mem hc
  exact d.len (h i (xs[i]'(by omega)) _ (by simp) (by simp))
theorem Rd.Own.row {α : Type} {d : Rd α} {t : Nat} {w : World} {b0 base : Nat} {v : Value} {xs : List α} (h : d.Own t w b0 base v xs) :
    ∃ A c, v = .slice A xs.length c ∧ xs.length ≤ c ∧ d.Row t w base A xs := by
  obtain ⟨css, hl, ho, hr⟩ := h
  have hls := Rd.Own.lens hl hr
  rcases ho.2 with ⟨rfl, h0⟩ | ⟨g, cap, cur, rfl, hg, hh, h1, h2, h3, h4⟩
  · have : xs = [] := List.length_eq_zero_iff.1 h0
    subst this
    exact ⟨none, 0, rfl, Nat.le_refl _, Rd.Row.nil _ _ _ _ _⟩
  · refine ⟨_, cap, rfl, h1, fun i x hi => ?_⟩
    have hil := (List.getElem?_eq_some_iff.1 hi).1
    have hic : css[i]? = some (css[i]'(by omega)) := by simp
    refine ⟨_, _, rfl, .inr ⟨cur, hh⟩, (Array.getElem?_eq_some_iff.1 hh).1, hr i x _ hi hic, fun j u hj => ?_⟩
    have hf := flatten_at d.sz css i j _ u hls hic hj
    rw [← h4, List.getElem?_take] at hf
    split at hf
    · have ha : (⟨g, 0, none⟩ : Addr).add (i * d.sz + j) = ⟨g, i * d.sz + j, none⟩ := by unfold Addr.add; split <;> simp_all
      rw [ha, cell_of_row w g _ cur t (0, 0) hh, ← Array.getElem?_toList]
      exact hf
    · simp at hf
theorem Rd.Own.below {α : Type} {d : Rd α} {t : Nat} {w w' : World} {b0 base : Nat} {v : Value} {xs : List α} (h : d.Own t w b0 base v xs) (hb : Below w.heap.size w w') : d.Own t w' b0 base v xs := by
  obtain ⟨css, hl, ho, hr⟩ := h
  refine ⟨css, hl, ⟨ho.1, ?_⟩, fun i x c h1 h2 => d.below (hr i x c h1 h2) hb⟩
  rcases ho.2 with hn | ⟨g, cap, cur, rfl, hg, hh, r⟩
  · exact .inl hn
  · exact .inr ⟨g, cap, cur, rfl, hg, (hb.block g (Array.getElem?_eq_some_iff.1 hh).1).trans hh, r⟩
/-- the own block: from b0 on, of type t -/
theorem Rd.Own.blk {α : Type} {d : Rd α} {t : Nat} {w : World} {b0 base : Nat} {v : Value} {xs : List α} (h : d.Own t w b0 base v xs) :
    ∀ k, v.ownBlock = some k → b0 ≤ k ∧ k < w.heap.size ∧ ∃ cells, w.heap[k]? = some (.cells cells t (0, 0)) := by
  obtain ⟨css, hl, ho, hr⟩ := h
  intro k hk
  rcases ho.2 with ⟨rfl, h0⟩ | ⟨g, cap, cur, rfl, hg, hh, _⟩
  · simp [Value.ownBlock] at hk
  · simp [Value.ownBlock] at hk
    subst hk
    exact ⟨hg, (Array.getElem?_eq_some_iff.1 hh).1, cur, hh⟩
/-- appending to it keeps whatever is below the base or of other types -/
theorem Rd.Own.keeps {α : Type} {d : Rd α} {t : Nat} {w w' : World} {b0 base : Nat} {v : Value} {xs : List α} {E : List Nat} (h : d.Own t w b0 base v xs) (hg : w.grownBy w' v.ownBlock) (hb : base ≤ b0) (ht : t ∉ E) : Keeps base E w w' :=
  Keeps.of_grown hg (fun k hk => by
    obtain ⟨h1, _, cells, h2⟩ := h.blk k hk
    refine ⟨by omega, fun c q hq hh => ?_⟩
    have := h2.symm.trans hh
    simp at this
    exact ht (this.2 ▸ hq))
theorem Rd.Own.below_of {α : Type} {d : Rd α} {t : Nat} {w0 w w' : World} {base : Nat} {v : Value} {xs : List α} (h : d.Own t w w0.heap.size base v xs) (hb : Below w0.heap.size w0 w) (hg : w.grownBy w' v.ownBlock) : Below w0.heap.size w0 w' :=
  hb.grown hg hb.size (fun k hk => (h.blk k hk).1)

section
variable {P : Program} {ops : Array Oper} {rest : List Oper} {o : Oper} {a : Act} {Q : Exit → Act → World → Prop}
/-- 'out = append(out, x)': x was just laid in a block of its own -/
theorem own_append {α : Type} (d : Rd α) {W : World} (b0 base : Nat) (hgd : o.guard = none) (s x : Operand) (t e : TypeId) (z : Value) (bytes : Nat)
    (ho : o.op = .call { callee := .builtin .append, args := #[s, x], argTypes := #[t, t] })
    (ht : P.underlying t = some (.slice e)) (hinfo : (P.info? e).map (fun i => (i.zero, i.size, i.bytes)) = some (some z, d.sz, bytes)) (hz : z.cells.size = d.sz) (hs0 : 0 < d.sz) (hb0 : 0 < bytes)
    (v : Value) (xs : List α) (p : α) (cs : List Value) (hs : a.eval s = v) (hx : a.eval x = .slice (some ⟨W.heap.size, 0, none⟩) 1 1) (hp : d.R W base p cs) (he : e ∉ d.E)
    (HO : d.Own e W b0 base v xs) (hbb : base ≤ b0) (hbase : b0 ≤ W.heap.size) (hl : (xs.length + 1) * bytes ≤ 140737488355328)
    (h : ∀ v1 w1, d.Own e w1 b0 base v1 (xs ++ [p]) → W.grownBy w1 v.ownBlock → wpList P ops Q rest (a.put o.dst v1) w1) :
    wpList P ops Q (o :: rest) a (W.alloc (.cells cs.toArray e)) := by
  obtain ⟨i0, hi, hzz⟩ := Option.map_eq_some_iff.1 hinfo
  simp only [Prod.mk.injEq] at hzz
  obtain ⟨hz0, hz1, hz2⟩ := hzz
  have hlen : xs.length + 1 ≤ 140737488355328 := Nat.le_trans (Nat.le_mul_of_pos_right _ hb0) hl
  have HO0 := HO
  obtain ⟨css, hcl, hown, hr⟩ := HO
  refine wpList_append_own (W.alloc (.cells cs.toArray e)) hgd s x t ho b0 e i0 z d.sz bytes ht hi hz0 hz1 hz2 hz hs0 v xs.length css.flatten hs (hown.alloc _) ⟨W.heap.size, 0, none⟩ 1 1 cs hx (by rw [d.len hp]; simp)
    (by simpa using World.news_of_block (cs := cs.toArray) (t := e) (fr := (0, 0)) (heap_alloc_new W (.cells cs.toArray e))) (d.one hp) (by simp only [maxLen]; omega) hl (by simp; omega) ?_
  intro v1 w1 hown1 hg _
  have hg2 : W.grownBy w1 v.ownBlock := World.grownBy.trans (World.grownBy_alloc W _ _) hg
  have hk : Keeps base d.E W w1 := HO0.keeps hg2 hbb he
  refine h v1 w1 ⟨css ++ [cs], by simp [hcl], ?_, ?_⟩ hg2
  · simpa using hown1
  · intro i y c h1 h2
    rcases Nat.lt_or_ge i xs.length with hlt | hge
    · rw [List.getElem?_append_left hlt] at h1
      rw [List.getElem?_append_left (by omega)] at h2
      exact d.keep (hr i y c h1 h2) hk
    · rw [List.getElem?_append_right hge] at h1
      rw [List.getElem?_append_right (by omega)] at h2
      have : i - xs.length = 0 := by
        have := (List.getElem?_eq_some_iff.1 h1).1
        simp at this; omega
      rw [this] at h1
      rw [hcl, this] at h2
      simp at h1 h2
      subst h1; subst h2
      exact d.keep hp hk
end
end Go.Proofs.YtikdhkmcdmnadaaGreatFmt

namespace Go.Proofs.YtikdhkmcdmnadaaGreatFmt

/-! ### whole numbers as digits, the lowest first -/
def val (B : Nat) : List Nat → Nat
  | [] => 0
  | d :: r => d + B * val B r
theorem val_append (B : Nat) : ∀ xs ys : List Nat, val B (xs ++ ys) = val B xs + B ^ xs.length * val B ys
  | [], ys => by simp [val]
  | x :: xs, ys => by
    simp only [List.cons_append, val, List.length_cons, Nat.pow_succ, val_append B xs ys, Nat.mul_add]
    rw [Nat.mul_comm (B ^ xs.length) B, Nat.mul_assoc]; omega
theorem val_lt {B : Nat} (hB : 0 < B) : ∀ xs : List Nat, (∀ d ∈ xs, d < B) → val B xs < B ^ xs.length
  | [], _ => by simp [val]
  | x :: xs, h => by
    have h0 := h x (by simp)
    have ih := val_lt hB xs (fun d hd => h d (by simp [hd]))
    simp only [val, List.length_cons, Nat.pow_succ]
    have : B * (val B xs + 1) ≤ B * B ^ xs.length := Nat.mul_le_mul_left _ ih
    rw [Nat.mul_add, Nat.mul_one] at this
    rw [Nat.mul_comm (B ^ xs.length) B]; omega
theorem val_snoc (B : Nat) (xs : List Nat) (d : Nat) : val B (xs ++ [d]) = val B xs + B ^ xs.length * d := by simp [val_append, val]
theorem take_snoc' {xs : List Nat} {i : Nat} (h : i < xs.length) : xs.take (i + 1) = xs.take i ++ [xs.getD i 0] := by
  rw [List.take_succ_eq_append_getElem h]; simp [h]
theorem val_take (B : Nat) {xs : List Nat} {i : Nat} (h : i < xs.length) : val B (xs.take (i + 1)) = val B (xs.take i) + B ^ i * xs.getD i 0 := by
  rw [take_snoc' h, val_snoc, List.length_take, Nat.min_eq_left (by omega)]
theorem set_take {xs : List Nat} {k : Nat} (d : Nat) : (xs.set k d).take k = xs.take k := by
  rw [List.take_set, List.set_eq_of_length_le]; simp; omega
theorem set_take_succ {xs : List Nat} {k d : Nat} (h : k < xs.length) : (xs.set k d).take (k + 1) = xs.take k ++ [d] := by
  rw [take_snoc' (by simpa using h), set_take]; simp [h]
theorem val_set (B : Nat) {xs : List Nat} {k d : Nat} (h : k < xs.length) : val B ((xs.set k d).take (k + 1)) = val B (xs.take k) + B ^ k * d := by
  rw [set_take_succ h, val_snoc, List.length_take, Nat.min_eq_left (by omega)]
theorem digit_step (P B s : Nat) : P * (s % B) + P * B * (s / B) = P * s := by
  rw [Nat.mul_assoc, ← Nat.mul_add, Nat.mod_add_div]
theorem mem_set {xs : List Nat} {k d B : Nat} (h : ∀ x ∈ xs, x < B) (hd : d < B) : ∀ x ∈ xs.set k d, x < B := by
  intro x hx
  rcases List.mem_or_eq_of_mem_set hx with h1 | h1
  · exact h x h1
  · omega
theorem getD_mem_lt {xs : List Nat} {B i : Nat} (h : ∀ x ∈ xs, x < B) (hi : i < xs.length) : xs.getD i 0 < B := by
  rw [List.getD_eq_getElem?_getD]; simp [hi]; exact h _ (by simp)
theorem getD_ge {xs : List Nat} {k : Nat} (h : xs.length ≤ k) : xs.getD k 0 = 0 := by
  rw [List.getD_eq_getElem?_getD, List.getElem?_eq_none h]; rfl
theorem val_replicate (B n : Nat) : val B (List.replicate n 0) = 0 := by
  induction n with
  | zero => rfl
  | succ n ih => simp [List.replicate_succ, val, ih]

/-! no noughts at the upper end -/
def Trimmed (xs : List Nat) : Prop := xs = [] ∨ 0 < xs.getD (xs.length - 1) 0
def trimLen : List Nat → Nat → Nat
  | _, 0 => 0
  | xs, n + 1 => if xs.getD n 0 = 0 then trimLen xs n else n + 1
theorem trimLen_zero {xs : List Nat} {n : Nat} (h : xs.getD n 0 = 0) : trimLen xs (n + 1) = trimLen xs n := by rw [trimLen, if_pos h]
theorem trimLen_pos {xs : List Nat} {n : Nat} (h : xs.getD n 0 ≠ 0) : trimLen xs (n + 1) = n + 1 := by rw [trimLen, if_neg h]
theorem trimLen_le (xs : List Nat) : ∀ n, trimLen xs n ≤ n
  | 0 => Nat.le_refl _
  | n + 1 => by have := trimLen_le xs n; simp only [trimLen]; split <;> omega
theorem trimLen_val (B : Nat) (xs : List Nat) : ∀ n, n ≤ xs.length → val B (xs.take (trimLen xs n)) = val B (xs.take n)
  | 0, _ => rfl
  | n + 1, h => by
    simp only [trimLen]; split
    · rename_i h0
      rw [trimLen_val B xs n (by omega), val_take B (by omega), h0]; simp
    · rfl
theorem trimLen_trimmed (xs : List Nat) : ∀ n, n ≤ xs.length → Trimmed (xs.take (trimLen xs n))
  | 0, _ => .inl rfl
  | n + 1, h => by
    simp only [trimLen]; split
    · exact trimLen_trimmed xs n (by omega)
    · rename_i h0
      refine .inr ?_
      rw [List.length_take, Nat.min_eq_left h]
      have e : (xs.take (n + 1)).getD (n + 1 - 1) 0 = xs.getD n 0 := by
        simp [List.getElem?_take]
      rw [e]; omega
theorem Trimmed.val_pos {B : Nat} (hB : 0 < B) {xs : List Nat} (h : Trimmed xs) (hne : xs ≠ []) : B ^ (xs.length - 1) ≤ val B xs := by
  rcases h with h | h
  · exact absurd h hne
  · have hl : 0 < xs.length := List.length_pos_iff.2 hne
    have := val_take B (xs := xs) (i := xs.length - 1) (by omega)
    rw [Nat.sub_add_cancel hl, List.take_length] at this
    rw [this]
    have h2 := Nat.mul_le_mul_left (B ^ (xs.length - 1)) h
    omega
theorem Trimmed.nil_iff {B : Nat} (hB : 0 < B) {xs : List Nat} (h : Trimmed xs) : xs.length = 0 ↔ val B xs = 0 := by
  constructor
  · intro h0; rw [List.length_eq_zero_iff.1 h0]; rfl
  · intro h0
    rcases Nat.eq_zero_or_pos xs.length with h1 | h1
    · exact h1
    · have := h.val_pos hB (List.length_pos_iff.1 h1)
      have := Nat.pow_pos (n := xs.length - 1) hB
      omega
/-- the lengths say the order -/
theorem val_lt_of_len {B : Nat} (hB : 0 < B) {xs ys : List Nat} (hx : ∀ d ∈ xs, d < B) (hy : Trimmed ys) (h : xs.length < ys.length) : val B xs < val B ys := by
  have h1 := val_lt hB xs hx
  have h2 := hy.val_pos hB (by intro e; rw [e] at h; simp at h)
  exact Nat.lt_of_lt_of_le h1 (Nat.le_trans (Nat.pow_le_pow_right hB (by omega)) h2)
/-- a bound on the length -/
theorem len_le_of_val {B : Nat} (hB : 1 < B) {xs : List Nat} (hx : Trimmed xs) {L : Nat} (h : val B xs < B ^ L) : xs.length ≤ L := by
  rcases Nat.eq_zero_or_pos xs.length with h1 | h1
  · omega
  · have := hx.val_pos (B := B) (by omega) (List.length_pos_iff.1 h1)
    have h3 := (Nat.pow_lt_pow_iff_right hB).1 (Nat.lt_of_le_of_lt this h)
    omega

/-! plus -/
def PlusInv (B : Nat) (xs ys : List Nat) (k c : Nat) (zs : List Nat) : Prop :=
  zs.length = xs.length + 1 ∧ (∀ d ∈ zs, d < B) ∧ val B (zs.take k) + B ^ k * c = val B (xs.take k) + val B (ys.take k)
theorem PlusInv.start (B : Nat) (hB : 0 < B) (xs ys : List Nat) : PlusInv B xs ys 0 0 (List.replicate (xs.length + 1) 0) :=
  ⟨by simp, fun d hd => by simp at hd; omega, by simp [val]⟩
theorem PlusInv.step {B : Nat} (hB : 0 < B) {xs ys zs : List Nat} {k c s : Nat} (h : PlusInv B xs ys k c zs) (hk : k < xs.length)
    (hs : s = c + xs.getD k 0 + ys.getD k 0) : PlusInv B xs ys (k + 1) (s / B) (zs.set k (s % B)) := by
  obtain ⟨h1, h2, h3⟩ := h
  refine ⟨by simpa using h1, mem_set h2 (Nat.mod_lt _ hB), ?_⟩
  have hy : val B (ys.take (k + 1)) = val B (ys.take k) + B ^ k * ys.getD k 0 := by
    rcases Nat.lt_or_ge k ys.length with h | h
    · exact val_take B h
    · rw [List.take_of_length_le (by omega), List.take_of_length_le h, getD_ge h]; simp
  rw [val_set B (by omega), val_take B hk, hy, Nat.pow_succ, Nat.add_assoc, digit_step, hs, Nat.mul_add, Nat.mul_add]
  omega
theorem PlusInv.done {B : Nat} (hB : 0 < B) {xs ys zs : List Nat} {c : Nat} (h : PlusInv B xs ys xs.length c zs) (hl : ys.length ≤ xs.length) (hc : c < B) :
    val B (zs.set xs.length c) = val B xs + val B ys ∧ (∀ d ∈ zs.set xs.length c, d < B) := by
  obtain ⟨h1, h2, h3⟩ := h
  refine ⟨?_, mem_set h2 hc⟩
  have := val_set B (xs := zs) (k := xs.length) (d := c) (by omega)
  rw [List.take_of_length_le (by simp; omega)] at this
  rw [this, h3, List.take_of_length_le (Nat.le_refl _), List.take_of_length_le hl]

/-! minus -/
def MinusInv (B : Nat) (xs ys : List Nat) (k c : Nat) (zs : List Nat) : Prop :=
  zs.length = xs.length ∧ (∀ d ∈ zs, d < B) ∧ c ≤ 1 ∧ val B (zs.take k) + val B (ys.take k) = val B (xs.take k) + B ^ k * c
theorem MinusInv.start (B : Nat) (hB : 0 < B) (xs ys : List Nat) : MinusInv B xs ys 0 0 (List.replicate xs.length 0) :=
  ⟨by simp, fun d hd => by simp at hd; omega, by omega, by simp [val]⟩
theorem MinusInv.step {B : Nat} (hB : 0 < B) {xs ys zs : List Nat} {k c s z c' : Nat} (h : MinusInv B xs ys k c zs) (hk : k < xs.length)
    (hs : s = c + ys.getD k 0) (hz : z < B) (hc : c' ≤ 1) (hzc : z + s = xs.getD k 0 + B * c') : MinusInv B xs ys (k + 1) c' (zs.set k z) := by
  obtain ⟨h1, h2, h0, h3⟩ := h
  refine ⟨by simpa using h1, mem_set h2 hz, hc, ?_⟩
  have hy : val B (ys.take (k + 1)) = val B (ys.take k) + B ^ k * ys.getD k 0 := by
    rcases Nat.lt_or_ge k ys.length with h | h
    · exact val_take B h
    · rw [List.take_of_length_le (by omega), List.take_of_length_le h, getD_ge h]; simp
  rw [val_set B (by omega), val_take B hk, hy, Nat.pow_succ, Nat.mul_assoc]
  have e := congrArg (B ^ k * ·) hzc
  simp only [hs, Nat.mul_add] at e
  omega
theorem MinusInv.done {B : Nat} (hB : 0 < B) {xs ys zs : List Nat} {c : Nat} (h : MinusInv B xs ys xs.length c zs) (hl : ys.length ≤ xs.length) (hle : val B ys ≤ val B xs) :
    val B zs = val B xs - val B ys := by
  obtain ⟨h1, h2, h0, h3⟩ := h
  rw [List.take_of_length_le (by omega), List.take_of_length_le hl, List.take_of_length_le (Nat.le_refl _)] at h3
  have hz := val_lt hB zs h2
  rw [h1] at hz
  rcases Nat.lt_or_ge c 1 with hc | hc
  · have : c = 0 := by omega
    subst this; omega
  · have : c = 1 := by omega
    subst this; omega

/-! times: a row added at a place -/
theorem split_at {xs : List Nat} {k : Nat} (h : k < xs.length) : ∃ p x q, xs = p ++ x :: q ∧ p.length = k := by
  refine ⟨xs.take k, xs[k], xs.drop (k + 1), ?_, by simp; omega⟩
  rw [← List.drop_eq_getElem_cons h, List.take_append_drop]
theorem val_set_any (B : Nat) {xs : List Nat} {k : Nat} (d : Nat) (h : k < xs.length) : val B (xs.set k d) + B ^ k * xs.getD k 0 = val B xs + B ^ k * d := by
  obtain ⟨p, x, q, rfl, rfl⟩ := split_at h
  have e1 : (p ++ x :: q).set p.length d = p ++ d :: q := by simp
  have e2 : (p ++ x :: q).getD p.length 0 = x := by simp
  rw [e1, e2]
  simp only [val_append, val, Nat.mul_add]
  omega
end Go.Proofs.YtikdhkmcdmnadaaGreatFmt
