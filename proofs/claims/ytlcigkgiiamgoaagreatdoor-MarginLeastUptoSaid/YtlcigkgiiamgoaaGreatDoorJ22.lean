/- Walks and plain laws of this seat's functions, part 22: C18 C19 C11 C12 C13 C14 C20 C21. -/
import Derived.Deep.RegionLaw
import Derived.Deep.DrawnRows
import Derived.Test.YtlcigkgiiamgoaaGreatDoorJ18
set_option linter.unusedVariables false
set_option linter.unusedSimpArgs false
namespace Go.Proofs.YtlcigkgiiamgoaaGreatDoor
open Go.RowKit

section
variable {w wx wy : World} {base n c1 c2 : Nat} {zs : List Value} {C R : List Nat} {B1 B2 : Option Addr} {vI vG : Value} {I : List Int} {Gs : List (List Int)}
/-- the answer 'none' is laid -/
theorem RW.zero {xs : List Value} (h : RW w wx zs xs) :
    Blk (((((wx.setCell ⟨w.heap.size + 1, 0, none⟩ (.int .i64 0)).setCell ⟨w.heap.size + 1, 1, none⟩ (.slice none 0 0)).setCell ⟨w.heap.size + 1, 2, none⟩ (.slice none 0 0)).setCell ⟨w.heap.size + 1, 3, none⟩ (.slice none 0 0)).setCell ⟨w.heap.size + 1, 4, none⟩ (.slice none 0 0)) (w.heap.size + 1) 30 zc5 ∧
    Below w.heap.size w (((((wx.setCell ⟨w.heap.size + 1, 0, none⟩ (.int .i64 0)).setCell ⟨w.heap.size + 1, 1, none⟩ (.slice none 0 0)).setCell ⟨w.heap.size + 1, 2, none⟩ (.slice none 0 0)).setCell ⟨w.heap.size + 1, 3, none⟩ (.slice none 0 0)).setCell ⟨w.heap.size + 1, 4, none⟩ (.slice none 0 0)) := by
  obtain ⟨s1, s2, s3⟩ := set5 (base := 0) (B := w.heap.size) (E := []) (w0 := w) (.int .i64 0) (.slice none 0 0) (.slice none 0 0) (.slice none 0 0) (.slice none 0 0) h.O (by omega) (by simp) (by omega) h.W
  exact ⟨s1, s3⟩
theorem RW.ofz {xs : List Value} (h : RW w wx zs xs) : ∀ i, wx.frozen? ⟨w.heap.size + 1, i, none⟩ = false := fun i => h.O.frozen i
end
theorem own_new {α : Type} {d : Rd α} {t : Nat} {w : World} {b0 base n c : Nat} {A : Option Addr} {xs : List α} (h : d.Own t w b0 base (.slice A n c) xs) : ∀ q : Addr, A = some q → b0 ≤ q.block := by
  rintro q rfl
  obtain ⟨css, hl, ho, hr⟩ := h
  rcases ho.2 with ⟨hv, _⟩ | ⟨g, cap, cur, hv, hg, _⟩
  · cases hv
  · injection hv with h1 _ _
    injection h1 with h1
    subst h1
    exact hg
theorem AR5 : (Tryz.prog.underlying 30).map (·.isRow) = some true := by kernel_rfl
theorem IR5 : (Tryz.prog.info? 30).map (·.size) = some 5 := by kernel_rfl
theorem s3_of {w W : World} {n cI cG lI lG : Nat} {AI AG : Option Addr} {x1 x4 x5 u : Value} {q : Addr} (h : Blk W w.heap.size 36 [.int .i64 n, x1, .slice AI lI cI, .slice AG lG cG, x4, x5]) (hW : Below w.heap.size w W) (hq : w.cell? q = some u) :
    W.cell? ⟨w.heap.size, 3, none⟩ = some (.slice AG lG cG) ∧ W.cell? ⟨w.heap.size, 0, none⟩ = some (.int .i64 n) ∧ W.cell? q = some u := ⟨h.cell 3, h.cell 0, cell_kept hW hq⟩
theorem UG1 : Tryz.prog.underlying 28 = some (.slice 27) := by kernel_rfl
theorem IG1 : (Tryz.prog.info? 27).map (fun i => (i.zero, i.size, i.bytes)) = some (some (.slice none 0 0), 1, 24) := by kernel_rfl
set_option maxHeartbeats 16000000 in
set_option maxRecDepth 100000 in
theorem reals_tail (z : Zn) (cs : List Value) (w : World) (b1 base : Nat) (h : rzRd.R w b1 z cs) (hbase : base ≤ w.heap.size) (hb : z.bad = false) (hn1 : 1 ≤ z.N) (hn2 : z.N ≤ 256) (hL : z.Ids.length = z.G.length) (hC : rowB z.C z.N = true) (hR : rowB z.R z.N = true) :
    Calls Tryz.prog 4 #[.agg cs.toArray] w fun e w' => Below w.heap.size w w' ∧
      (((z.R.all (fun u => decide (0 ≤ fv u)) && (List.range z.Ids.length).all (idOk z)) = false ∧ e = .returned (.tuple #[.agg zc5.toArray, .bool false])) ∨
       ((z.R.all (fun u => decide (0 ≤ fv u)) && (List.range z.Ids.length).all (idOk z)) = true ∧ ∃ AC AI AG AR cC cI cG cR, e = .returned (.tuple #[.agg (realCs z AC AI AG AR cC cI cG cR).toArray, .bool true]) ∧ RRows w' base z AC AI AG AR ∧ ∀ q : Addr, AI = some q → w.heap.size ≤ q.block)) := by
  obtain ⟨AC, AI, AG, AR, cC, cI, cG, cR, rfl, hr, hl⟩ := h
  have HZ : Hid (∀ k, idOk z k = (decide (0 ≤ z.Ids.getD k 0) && decide (z.Ids.getD k 0 ≤ 1073741824) && (decide (k = 0) || decide (z.Ids.getD (k - 1) 0 < z.Ids.getD k 0)) && rowB (z.G.getD k []) z.N)) := fun _ => rfl
  obtain ⟨okf, hok⟩ : ∃ f, f = idOk z := ⟨_, rfl⟩
  rw [← hok] at HZ ⊢
  clear hok
  obtain ⟨N, C, Ids, G, R, bad⟩ := z
  simp only at hb hn1 hn2 hC hR hL HZ ⊢
  subst hb
  obtain ⟨n, rfl⟩ : ∃ n : Nat, N = n := ⟨N.toNat, by omega⟩
  have hCl : C.length = n := by unfold rowB at hC; simp only [Bool.and_eq_true, decide_eq_true_eq] at hC; omega
  have hRl : R.length = n := by unfold rowB at hR; simp only [Bool.and_eq_true, decide_eq_true_eq] at hR; omega
  have HNC := Lib.hid (fun W (hW : Below w.heap.size w W) => numbers_calls AC C C.length cC 51 b1 base n W rfl (hr.C.below hW) (by omega) (Nat.le_trans hbase hW.size))
  have HNR := Lib.hid (fun W (hW : Below w.heap.size w W) => numbers_calls AR R R.length cR 51 b1 base n W rfl (hr.R.below hW) (by omega) (Nat.le_trans hbase hW.size))
  have HNG := Lib.hid (fun B (l : List Nat) c W (hl : u64.Row 51 W b1 B l) (hb : base ≤ W.heap.size) => numbers_calls B l l.length c 51 b1 base n W rfl hl (by omega) hb)
  rw [hC] at HNC
  rw [hR] at HNR
  have HW := Lib.hid (rw_new w [.int .i64 n, .slice AC C.length cC, .slice AI Ids.length cI, .slice AG G.length cG, .slice AR R.length cR, .bool false] n)
  have HIDS := Lib.hid (fun W (hW : Below w.heap.size w W) => (show i64.Row 3 W b1 AI Ids from hr.I.below hW))
  have HG := Lib.hid (fun W (hW : Below w.heap.size w W) => (show (bsl 51 u64).Row 33 W b1 AG G from hr.G.below hW))
  have h1 : Ids.length ≤ 17592186044416 := hl.i.2
  have h2 : G.length ≤ 5864062014805 := hl.g.2
  have hd1 : decide ((n : Int) < 1) = false := by simp; omega
  have hd2 : decide (256 < (n : Int)) = false := by simp; omega
  have e1 : ((Ids.length : Int) != (G.length : Int)) = false := by simp; omega
  have HCL := Lib.hid hCl
  have HRL := Lib.hid hRl
  have HL := Lib.hid hL
  have hn256 : n ≤ 256 := by omega
  obtain ⟨ok, hok2⟩ : ∃ ok, (R.all (fun u => decide (0 ≤ fv u)) && (List.range Ids.length).all okf) = ok := ⟨_, rfl⟩
  rw [hok2]
  have HOK := Lib.hid hok2
  clear hr hl hL hC hR hCl hRl hn1 hn2 hok2
  go_enter Tryz.func4, Tryz.ntmps4
  go_wp2_with fail
  refine (HNC.out _ HW.out.W).mono ?_
  rintro e w1 ⟨B1, k1, c1, rfl, hk1, hW1, hC1⟩
  obtain ⟨hk1e, hrow1⟩ := hC1 trivial
  obtain rfl : n = k1 := (hk1e.trans HCL.out).symm
  have H1 := Lib.hid (HW.out.next hW1)
  have HR1 := Lib.hid hrow1
  obtain ⟨z0, _, _, _, z4, _⟩ := six H1.out.Z
  clear hW1 hC1 HNC HW hd1 hd2 e1 hk1e hrow1
  go_wp2_with fail
  refine (HNR.out _ H1.out.W).mono ?_
  rintro e w2 ⟨B2, k2, c2, rfl, hk2, hW2, hC2⟩
  obtain ⟨hk2e, hrow2⟩ := hC2 trivial
  obtain rfl : n = k2 := (hk2e.trans HRL.out).symm
  have H2 := Lib.hid (H1.out.next hW2)
  have x1 := H2.out.X.cell 1; have x4 := H2.out.X.cell 4; have g1 := H2.out.X.frozen 1; have g4 := H2.out.X.frozen 4
  have HS0 : Hid (RS w ((w2.setCell ⟨w.heap.size + 2, 1, none⟩ (.slice B1 n c1)).setCell ⟨w.heap.size + 2, 4, none⟩ (.slice B2 n c2)) base (rzCs n AC AI AG AR C.length cC Ids.length cI G.length cG R.length cR false) n C R B1 B2 c1 c2 (.slice none 0 0) (.slice none 0 0) [] []) := by
    have k2 : Keeps base [47, 87] w2 (w2.setCell ⟨w.heap.size + 2, 1, none⟩ (.slice B1 n c1)) := Keeps.set_blk H2.out.X (by omega) (by decide) 1 _
    have k3 := k2.trans (Keeps.set_blk (H2.out.setX 1 (.slice B1 n c1)).X (by omega) (by decide) 4 (.slice B2 n c2))
    exact ⟨(H2.out.setX 1 (.slice B1 n c1)).setX 4 (.slice B2 n c2), (HR1.out.below hW2).keep k3 (by simp) (by intro q hq; rw [nRd_E] at hq; simp at hq; simp [hq]), hrow2.keep k3 (by simp) (by intro q hq; rw [nRd_E] at hq; simp at hq; simp [hq]), Rd.Own.nil _ _ _ _ _, Rd.Own.nil _ _ _ _ _⟩
  clear hW2 hC2 HNR z0 z4 hk2e hrow2 H1 HR1
  go_wp2
  clear x1 x4 g1 g4
  rw [show w.heap.size + 1 + 1 = w.heap.size + 2 from rfl]
  obtain ⟨wo, hwo⟩ : ∃ wo, (w2.setCell ⟨w.heap.size + 2, 1, none⟩ (.slice B1 n c1)).setCell ⟨w.heap.size + 2, 4, none⟩ (.slice B2 n c2) = wo := ⟨_, rfl⟩
  rw [hwo] at HS0 ⊢
  clear hwo H2
  go_loopw [9] (fun i wr => ∃ k : Nat, k ≤ n ∧ i = .int .i64 k ∧ Hid ((R.take k).all (fun u => decide (0 ≤ fv u)) = true) ∧ Hid (RS w wr base (rzCs n AC AI AG AR C.length cC Ids.length cI G.length cG R.length cR false) n C R B1 B2 c1 c2 (.slice none 0 0) (.slice none 0 0) [] [])) (fun i _ => n - (intOf i).toNat)
  case atStart => exact ⟨0, by omega, rfl, rfl, HS0.out⟩
  case round =>
    obtain ⟨k, hk, rfl, hall, hS⟩ := hrel
    have z0 : wr.cell? ⟨w.heap.size, 0, none⟩ = some (.int .i64 n) := hS.out.rw.Z.cell 0
    by_cases hlt : k < n
    · obtain ⟨pa, neg, A2, n2, cc2, ex, rfl, ra, a0, a1, a2⟩ := nat_elem hS.out.R (i := k) (by rw [List.length_map, HRL.out]; exact hlt)
      have hxe : (R.map fv).getD k 0 = fv (R.getD k 0) := getD_map_fv (by rw [HRL.out]; exact hlt)
      obtain ⟨xu, hxu⟩ : ∃ x, R.getD k 0 = x := ⟨_, rfl⟩
      rw [hxe, hxu] at ra
      obtain ⟨x, hx⟩ : ∃ x, fv xu = x := ⟨_, rfl⟩
      rw [hx] at ra
      have HSG := sign_calls 1074 base x _ wr ra
      obtain ⟨s, hs⟩ : ∃ s, Int.sign x = s := ⟨_, rfl⟩
      have hneg : s < 0 ↔ x < 0 := by
        rw [← hs]
        rcases Int.lt_trichotomy x 0 with h | h | h
        · rw [Int.sign_eq_neg_one_of_neg h]; exact ⟨fun _ => h, fun _ => by decide⟩
        · rw [h]; exact ⟨fun h => absurd h (by decide), fun h => absurd h (by decide)⟩
        · rw [Int.sign_eq_one_of_pos h]; exact ⟨fun h => absurd h (by decide), fun h => absurd h (by omega)⟩
      rw [hs] at HSG
      have HSGH := Lib.hid HSG
      have HXU := Lib.hid hxu
      have HX := Lib.hid hx
      have HNEG := Lib.hid hneg
      have hi1 : (k : Int) < (n : Int) := by omega
      clear ra hxe hxu hx hs HSG hneg
      by_cases hs0 : s < 0
      · have d0 : decide (s < 0) = true := decide_eq_true hs0
        have HF : Hid (R.all (fun u => decide (0 ≤ fv u)) = false) := all_take_false (by rw [HRL.out]; exact hlt) HXU.out (decide_eq_false (by rw [HX.out]; have := HNEG.out.1 hs0; omega))
        clear hs0
        go_wp2_with fail
        refine HSGH.out.mono ?_
        rintro e w3 ⟨rfl, hW3⟩
        have H3 := Lib.hid (hS.out.next hW3)
        obtain ⟨o0, o1, o2, o3, o4⟩ := five H3.out.rw.O
        have of := H3.out.rw.ofz
        obtain ⟨t0, t1, t2, t3, t4⟩ := five H3.out.rw.zero.1
        clear hW3 z0 a0 a1 a2
        go_wp2
        refine bodyPost_ret (v := .tuple #[.agg zc5.toArray, .bool false]) (by simp [results, Tryz.results4, go_sem, t0, t1, t2, t3, t4]) rfl ⟨H3.out.rw.zero.2, .inl ⟨by rw [← HOK.out, HF.out]; rfl, rfl⟩⟩
      · have d0 : decide (s < 0) = false := decide_eq_false hs0
        have HT : Hid ((R.take (k + 1)).all (fun u => decide (0 ≤ fv u)) = true) := by rw [Hid, all_take_step (by rw [HRL.out]; exact hlt) HXU.out, hall.out, decide_eq_true (show 0 ≤ fv xu from Classical.byContradiction fun h => hs0 (HNEG.out.2 (by rw [← HX.out]; omega)))]; rfl
        clear hs0
        go_wp2_with fail
        refine HSGH.out.mono ?_
        rintro e w3 ⟨rfl, hW3⟩
        have H3 := Lib.hid (hS.out.next hW3)
        clear hW3 z0 a0 a1 a2
        go_wp2
        go_roundw
        case rel => exact ⟨k + 1, by omega, by go_num, HT.out, H3.out⟩
        case measure => simp [intOf]; omega
    · obtain rfl : n = k := by omega
      have hall2 : Hid (R.all (fun u => decide (0 ≤ fv u)) = true) := by have := hall.out; rw [← HRL.out, List.take_length] at this; exact this
      go_wp2
      clear z0 hlt
      go_loopw [10, 11, 12] (fun i _ _ wr => ∃ (k : Nat) (vA gA : Option Addr) (vc gc : Nat), k ≤ Ids.length ∧ i = .int .i64 k ∧ Hid ((List.range k).all okf = true) ∧ Hid (RS w wr base (rzCs n AC AI AG AR C.length cC Ids.length cI G.length cG R.length cR false) n C R B1 B2 c1 c2 (.slice vA k vc) (.slice gA k gc) (Ids.take k) ((G.map (fun g => g.map fv)).take k))) (fun i _ _ _ => Ids.length - (intOf i).toNat)
      case atStart => exact ⟨0, none, none, 0, 0, by omega, rfl, rfl, hS.out⟩
      case round =>
        obtain ⟨k, vA, gA, vc, gc, hk, rfl, hall, hS⟩ := hrel
        have hS0 := hS
        obtain ⟨Ik, hIk⟩ : ∃ g, Ids.take k = g := ⟨_, rfl⟩
        obtain ⟨Gk, hGk⟩ : ∃ g, (G.map (fun g => g.map fv)).take k = g := ⟨_, rfl⟩
        rw [hIk, hGk] at hS
        have HIK := Lib.hid hIk
        have HGK := Lib.hid hGk
        clear hIk hGk
        have c2' : wr.cell? ⟨w.heap.size, 2, none⟩ = some (.slice AI Ids.length cI) := hS.out.rw.Z.cell 2
        have o0 := hS.out.rw.O.cell 0; have o1 := hS.out.rw.O.cell 1; have o2 := hS.out.rw.O.cell 2; have o3 := hS.out.rw.O.cell 3; have o4 := hS.out.rw.O.cell 4
        have of := hS.out.rw.ofz
        by_cases hlt : k < Ids.length
        · obtain ⟨a, x, rfl, hcx, hxb, hxe⟩ := i64at (HIDS.out wr hS.out.rw.W) hlt
          obtain ⟨b, B, l, c, rfl, hcg, hge, hlc, hlC, hrow⟩ := bsl_at (HG.out w (Below.refl _ _)) (i := k) (by have := HL.out; omega)
          have HROW := Lib.hid (fun W (hW : Below w.heap.size w W) => (show u64.Row 51 W b1 B l from hrow.below hW))
          obtain ⟨rr, hrr⟩ : ∃ r, rowB l n = r := ⟨_, rfl⟩
          have hkg : k < G.length := by have := HL.out; omega
          have HRR := Lib.hid hrr
          have hi1 : (k : Int) < (Ids.length : Int) := by omega
          have hi2 : (k : Int) < (G.length : Int) := by omega
          have hi3 : (0 : Int) ≤ (k : Int) := by omega
          have HN := Lib.hid (fun W (hW : Below wr.heap.size wr W) => HNG.out B l c W (HROW.out W (below_next hS.out.rw.W hW)) (Nat.le_trans hbase (below_next hS.out.rw.W hW).size))
          rw [hrr] at HN
          have T := fun q => five (hS.out.rw.drewN q).zero.1
          clear hrow hrr
          by_cases hx1 : x < 0
          · have e1 : decide (x < 0) = true := by simpa using hx1
            have HF : Hid ((List.range Ids.length).all okf = false) := range_all_false hlt (by rw [HZ.out, hxe.out, decide_eq_false (by omega)]; rfl)
            clear hx1
            go_wp2
            go_quiet (fail)
            go_wp2
            refine bodyPost_ret (v := .tuple #[.agg zc5.toArray, .bool false]) (by simp [results, Tryz.results4, go_sem, T]) rfl ⟨(hS.out.rw.drewN _).zero.2, .inl ⟨by rw [← HOK.out, HF.out, hall2.out]; rfl, rfl⟩⟩
          · have e1 : decide (x < 0) = false := by simpa using hx1
            by_cases hx2 : 1073741824 < x
            · have e2 : decide (1073741824 < x) = true := by simpa using hx2
              have HF : Hid ((List.range Ids.length).all okf = false) := range_all_false hlt (by rw [HZ.out, hxe.out, decide_eq_true (show 0 ≤ x by omega), decide_eq_false (show ¬ x ≤ 1073741824 by omega)]; rfl)
              clear hx1 hx2
              go_wp2
              go_quiet (fail)
              go_wp2
              refine bodyPost_ret (v := .tuple #[.agg zc5.toArray, .bool false]) (by simp [results, Tryz.results4, go_sem, T]) rfl ⟨(hS.out.rw.drewN _).zero.2, .inl ⟨by rw [← HOK.out, HF.out, hall2.out]; rfl, rfl⟩⟩
            · have e2 : decide (1073741824 < x) = false := by simpa using hx2
              by_cases hbadk : k ≠ 0 ∧ x ≤ Ids.getD (k - 1) 0
              · obtain ⟨hk0, hxy⟩ := hbadk
                have e3 : decide ((0 : Int) < (k : Int)) = true := by simp; omega
                have e3' : decide (0 < k) = true := by simp; omega
                obtain ⟨a', y, ha', hcy, hyb, hye⟩ := i64at (HIDS.out wr hS.out.rw.W) (i := k - 1) (by omega)
                cases ha'
                rw [hye.out] at hxy
                have e4 : IntKind.i64.wrap ((k : Int) - 1) = (k : Int) - 1 := IntWalk.i64_in _ (by omega)
                have e5 : ((k : Int) - 1).toNat = k - 1 := by omega
                have e6 : (0 : Int) ≤ (k : Int) - 1 := by omega
                have e7 : (k : Int) - 1 < (Ids.length : Int) := by omega
                have e8 : decide (x ≤ y) = true := by simpa using hxy
                have HF : Hid ((List.range Ids.length).all okf = false) := range_all_false hlt (by rw [HZ.out, hxe.out, hye.out, decide_eq_false hk0, decide_eq_false (show ¬ y < x by omega)]; simp)
                clear hx1 hx2 hxy hk0
                go_wp2
                go_quiet (fail)
                clear e4 e5 e6 e7
                go_wp2
                refine bodyPost_ret (v := .tuple #[.agg zc5.toArray, .bool false]) (by simp [results, Tryz.results4, go_sem, T]) rfl ⟨(hS.out.rw.drewN _).zero.2, .inl ⟨by rw [← HOK.out, HF.out, hall2.out]; rfl, rfl⟩⟩
              · have HT : Hid (rr = true → (List.range (k + 1)).all okf = true) := by
                  intro hrt
                  refine range_all_step hall.out ?_
                  rw [HZ.out, hxe.out, hge.out, HRR.out, hrt, decide_eq_true (show 0 ≤ x by omega), decide_eq_true (show x ≤ 1073741824 by omega)]
                  by_cases h0 : k = 0
                  · rw [decide_eq_true h0]; rfl
                  · rw [decide_eq_true (show Ids.getD (k - 1) 0 < x by have := fun h => hbadk ⟨h0, h⟩; omega)]; simp
                have HFF : Hid (rr = false → (List.range Ids.length).all okf = false) := by
                  intro hrt
                  exact range_all_false hlt (by rw [HZ.out, hge.out, HRR.out, hrt]; simp)
                have c3' : wr.cell? ⟨w.heap.size, 3, none⟩ = some (.slice (some b) G.length cG) := hS.out.rw.Z.cell 3
                have c0' : wr.cell? ⟨w.heap.size, 0, none⟩ = some (.int .i64 n) := hS.out.rw.Z.cell 0
                have hcg' : wr.cell? (b.add k) = some (.slice B l.length c) := cell_kept hS.out.rw.W hcg
                by_cases hk0 : k = 0
                case' pos =>
                  have e3 : decide ((0 : Int) < (k : Int)) = false := by simp; omega
                  have e3' : decide (0 < k) = false := by simp; omega
                  have HK := Lib.hid hk0
                  clear hk0 hbadk hx1 hx2
                  go_wp2
                  go_quiet (fail)
                case' neg =>
                  have e3 : decide ((0 : Int) < (k : Int)) = true := by simp; omega
                  have e3' : decide (0 < k) = true := by simp; omega
                  obtain ⟨a', y, ha', hcy, hyb, hye⟩ := i64at (HIDS.out wr hS.out.rw.W) (i := k - 1) (by omega)
                  cases ha'
                  have e4 : IntKind.i64.wrap ((k : Int) - 1) = (k : Int) - 1 := IntWalk.i64_in _ (by omega)
                  have e5 : ((k : Int) - 1).toNat = k - 1 := by omega
                  have e6 : (0 : Int) ≤ (k : Int) - 1 := by omega
                  have e7 : (k : Int) - 1 < (Ids.length : Int) := by omega
                  have hxy : ¬ x ≤ y := by rw [← hye.out]; exact fun h => hbadk ⟨hk0, h⟩
                  have e8 : decide (x ≤ y) = false := by simpa using hxy
                  have HK := Lib.hid hk0
                  clear hk0 hbadk hx1 hx2 hxy
                  go_wp2
                  go_quiet (fail)
                  clear e4 e5 e6 e7 hcy e8 hyb
                all_goals
                  clear e1 e2 e3 e3' T o0 o1 o2 o3 o4 of
                  go_wp2_with fail
                  go_region_held3 (fun W => W.cell? ⟨w.heap.size, 3, none⟩ = some (.slice (some b) G.length cG) ∧ W.cell? ⟨w.heap.size, 0, none⟩ = some (.int .i64 n) ∧ W.cell? (b.add k) = some (.slice B l.length c))
                    (first | (with_reducible exact s3_of H3.out.rw.Z H3.out.rw.W hcg) | ((try dsimp only); (repeat' apply And.intro) <;> go_keep))
                    ((go_at_call 18; refine (HN.out _ (by repeat (first | exact Below.refl _ _ | (with_reducible apply below_drewN) | (with_reducible apply Below.drew)))).mono ?_; rintro e w3 ⟨B3, k3, c3, rfl, hk3, hW3, hC3⟩; have H3 := Lib.hid (hS.out.next (below_next (by repeat (first | exact Below.refl _ _ | (with_reducible apply below_drewN) | (with_reducible apply Below.drew))) hW3)); have HC3 := Lib.hid (And.intro hk3 hC3); clear hW3 hC3 hk3))
                  cases rr
                  · have HF : Hid ((List.range Ids.length).all okf = false) := HFF.out rfl
                    have T := five H3.out.rw.zero.1
                    obtain ⟨T0, T1, T2, T3, T4⟩ := T
                    have o0 := H3.out.rw.O.cell 0; have o1 := H3.out.rw.O.cell 1; have o2 := H3.out.rw.O.cell 2; have o3 := H3.out.rw.O.cell 3; have o4 := H3.out.rw.O.cell 4
                    have of := H3.out.rw.ofz
                    clear c3' c0' hcg' c2' hcx
                    go_wp2
                    refine bodyPost_ret (v := .tuple #[.agg zc5.toArray, .bool false]) (by simp [results, Tryz.results4, go_sem, T0, T1, T2, T3, T4]) rfl ⟨H3.out.rw.zero.2, .inl ⟨by rw [← HOK.out, HF.out, hall2.out]; rfl, rfl⟩⟩
                  · obtain ⟨hk3c, hC3'⟩ := HC3.out
                    obtain ⟨hk3e, hrow3⟩ := hC3' rfl
                    obtain rfl : l.length = k3 := hk3e.symm
                    have HTT := Lib.hid (HT.out rfl)
                    have HR3 : Hid (gRd.R w3 base (l.map fv) [.slice B3 l.length c3]) := ⟨⟨B3, c3, by show [Value.slice B3 l.length c3] = [Value.slice B3 (l.map fv).length c3]; rw [List.length_map], by show (l.map fv).length ≤ c3; rw [List.length_map]; exact hk3c, hrow3⟩, by show (l.map fv).length ≤ _; rw [List.length_map]; exact hlC⟩
                    have c2d : w3.cell? ⟨w.heap.size, 2, none⟩ = some (.slice (some a) Ids.length cI) := H3.out.rw.Z.cell 2
                    have c2x : w3.cell? ⟨w.heap.size + 2, 2, none⟩ = some (.slice vA k vc) := H3.out.rw.X.cell 2
                    have hcx3 : w3.cell? (a.add k) = some (.int .i64 x) := by
                      obtain ⟨a', x', ha', hcx', _, hxe'⟩ := i64at (HIDS.out w3 H3.out.rw.W) hlt
                      cases ha'
                      rw [← hxe.out, hxe'.out]; exact hcx'
                    have hw3s := H3.out.rw.W.size
                    have hx3 := H3.out.rw.X.lt
                    have hlenI : (Ik.length + 1) * 8 ≤ 140737488355328 := by rw [← HIK.out, List.length_take]; omega
                    have HI3 : Hid (i64.Own 3 w3.drew w.heap.size base (.slice vA k vc) Ik) := H3.out.drew.I
                    have hl1 : Hid ((Ik ++ [x]).length = k + 1) := by rw [← HIK.out]; simp only [Hid, List.length_append, List.length_take]; simp; omega
                    have hTI : Hid (Ik ++ [x] = Ids.take (k + 1)) := by rw [Hid, ← HIK.out, List.take_succ_eq_append_getElem hlt, ← hxe.out, List.getD_eq_getElem?_getD, List.getElem?_eq_getElem hlt]; rfl
                    have hTG : Hid (Gk ++ [l.map fv] = (G.map (fun g => g.map fv)).take (k + 1)) := by
                      have hkm : k < (G.map (fun g => g.map fv)).length := by rw [List.length_map]; exact hkg
                      rw [Hid, ← HGK.out, List.take_succ_eq_append_getElem hkm, List.getElem_map, ← hge.out, List.getD_eq_getElem?_getD, List.getElem?_eq_getElem hkg]; rfl
                    have hl2 : Hid ((Gk ++ [l.map fv]).length = k + 1) := by rw [Hid, hTG.out, List.length_take, List.length_map]; omega
                    have hlenG : (Gk.length + 1) * 24 ≤ 140737488355328 := by rw [← HGK.out, List.length_take, List.length_map]; omega
                    obtain ⟨lm, hlm⟩ : ∃ m, l.map fv = m := ⟨_, rfl⟩
                    rw [hlm] at HR3 hTG hl2
                    clear hlm hC3' hk3e hrow3 HC3 c3' c0' hcg' c2' hcx HFF HT hcg
                    go_wp2_with fail
                    go_region_law ((refine own_step i64 w3.heap.size w.heap.size base (by rfl) (by rfl) _ _ 23 3 (.int .i64 0) 8 (by rfl) UI1 II1 rfl (by decide) (by decide) _ Ik x [.int .i64 x] (by rfl) (by rfl) ⟨rfl, hxb⟩ (by decide) HI3.out hbase hw3s hlenI ?_; intro v1 w4 hO1 hg1; obtain ⟨vA1, vc1, hv1, _, _⟩ := hO1.row; rw [hl1.out] at hv1; subst hv1; have H45 := Lib.hid (RS.appI H3.out.drew hbase hO1 hg1); have x2 := H45.out.2.1.X.cell 2; have f2 := H45.out.2.1.X.frozen 2; clear hO1 hg1))
                    all_goals
                      have H5 := Lib.hid H45.out.1
                      have HR5 := Lib.hid (gRd.keep HR3.out (show Keeps base gRd.E w3 _ from H45.out.2.2.sub (by intro q hq; rw [gRd_E] at hq; simp at hq; rcases hq with hq | hq <;> simp [hq])))
                      clear H45 x2 f2 c2d c2x hcx3
                      obtain ⟨w5, hw5⟩ : ∃ W, w4.setCell ⟨w.heap.size + 2, 2, none⟩ (.slice vA1 (k + 1) vc1) = W := ⟨_, rfl⟩
                      rw [hw5] at H5 HR5 ⊢
                      clear hw5
                      have x3 := H5.out.rw.X.cell 3
                      have hw5s := H5.out.rw.W.size
                      go_wp2_with (at_builtin; refine own_append' gRd w5.heap.size w.heap.size base rfl rfl _ _ 28 27 (.slice none 0 0) 24 (by rfl) UG1 IG1 rfl (by decide) (by decide) _ Gk lm [.slice B3 l.length c3] (by rfl) (by rfl) HR5.out (by decide) H5.out.G hbase hw5s hlenG ?_; intro v2 w6 hO2 hg2; obtain ⟨gA1, gc1, hv2, _, _⟩ := hO2.row; rw [hl2.out] at hv2; subst hv2; have H67 := Lib.hid (RS.appG H5.out hbase hO2 hg2); have y3 := H67.out.2.X.cell 3; have g3 := H67.out.2.X.frozen 3; clear hO2 hg2)
                      go_roundw
                      case rel => exact ⟨k + 1, vA1, gA1, vc1, gc1, by omega, by go_num, HTT.out, by have := H67.out.1; rw [hTI.out, hTG.out] at this; exact this⟩
                      case measure => simp [intOf]; omega
        · obtain rfl : k = Ids.length := by omega
          clear hS HIK HGK
          have hS := hS0
          have HALL : Hid ((List.range Ids.length).all okf = true) := hall.out
          obtain ⟨x0, x1, x2, x3, x4⟩ := five hS.out.rw.X
          obtain ⟨s1, s2, s3⟩ := set5 (base := base) (B := w.heap.size) (E := [47, 87, 27, 3]) (w0 := w) (.int .i64 n) (.slice B1 n c1) (.slice vA Ids.length vc) (.slice gA Ids.length gc) (.slice B2 n c2) hS.out.rw.O (by omega) (by decide) (by omega) hS.out.rw.W
          obtain ⟨t0, t1, t2, t3, t4⟩ := five s1
          have HS3 := Lib.hid (And.intro s2 s3)
          clear s1 s2 s3 hlt
          go_wp2
          refine bodyPost_ret (v := .tuple #[.agg #[.int .i64 n, .slice B1 n c1, .slice vA Ids.length vc, .slice gA Ids.length gc, .slice B2 n c2], .bool true]) (by simp [results, Tryz.results4, go_sem, t0, t1, t2, t3, t4]) rfl ⟨HS3.out.2, .inr ⟨by rw [← HOK.out, HALL.out, hall2.out]; rfl, B1, vA, gA, B2, c1, vc, gc, c2, by unfold realCs; rw [HCL.out, HRL.out, ← HL.out], ?_, own_new hS.out.I⟩⟩
          have k1 := HS3.out.1
          refine ⟨hS.out.C.keep k1 (by simp) (by intro q hq; rw [nRd_E] at hq; simp at hq; simp [hq]), ?_, ?_, hS.out.R.keep k1 (by simp) (by intro q hq; rw [nRd_E] at hq; simp at hq; simp [hq])⟩
          · obtain ⟨A', c', hv, _, hrow⟩ := hS.out.I.row
            rw [List.take_length] at hrow
            injection hv with e1 _ _
            subst e1
            exact hrow.keep k1 (by simp) (by intro q hq; cases hq)
          · obtain ⟨A', c', hv, _, hrow⟩ := hS.out.G.row
            rw [HL.out, show G.length = (G.map (fun g => g.map fv)).length from (List.length_map _).symm, List.take_length] at hrow
            injection hv with e1 _ _
            subst e1
            exact hrow.keep k1 (by simp) (by intro q hq; rw [gRd_E] at hq; simp at hq; rcases hq with hq | hq <;> simp [hq])
end Go.Proofs.YtlcigkgiiamgoaaGreatDoor

namespace Go.Proofs.YtlcigkgiiamgoaaGreatDoor
open Go.RowKit

def RealsPost (z : Zn) (w : World) (base : Nat) (e : Ending) (w' : World) : Prop := Below w.heap.size w w' ∧
  ((realB z = false ∧ e = .returned (.tuple #[.agg zc5.toArray, .bool false])) ∨ (realB z = true ∧ ∃ AC AI AG AR cC cI cG cR, e = .returned (.tuple #[.agg (realCs z AC AI AG AR cC cI cG cR).toArray, .bool true]) ∧ RRows w' base z AC AI AG AR ∧ ∀ q : Addr, AI = some q → w.heap.size ≤ q.block))
theorem reals_calls (z : Zn) (cs : List Value) (w : World) (b1 base : Nat) (h : rzRd.R w b1 z cs) (hbase : base ≤ w.heap.size) :
    Calls Tryz.prog 4 #[.agg cs.toArray] w (RealsPost z w base) := by
  by_cases h1 : z.bad = true ∨ z.N < 1 ∨ 256 < z.N ∨ z.Ids.length ≠ z.G.length
  · refine (reals_early z cs w b1 h h1).mono ?_
    rintro e w' ⟨rfl, hW⟩
    refine ⟨hW, .inl ⟨realB_no ?_, rfl⟩⟩
    rcases h1 with h | h | h | h
    · exact .inl h
    · exact .inr (.inl h)
    · exact .inr (.inr (.inl h))
    · exact .inr (.inr (.inr (.inl h)))
  · have hb : z.bad = false := by
      cases hz : z.bad
      · rfl
      · exact absurd (.inl hz) h1
    have hn1 : 1 ≤ z.N := by
      rcases Int.lt_or_le z.N 1 with h | h
      · exact absurd (.inr (.inl h)) h1
      · exact h
    have hn2 : z.N ≤ 256 := by
      rcases Int.lt_or_le 256 z.N with h | h
      · exact absurd (.inr (.inr (.inl h))) h1
      · exact h
    have hL : z.Ids.length = z.G.length := Classical.byContradiction fun h => h1 (.inr (.inr (.inr h)))
    cases hrow : (rowB z.C z.N && rowB z.R z.N)
    · refine (reals_head z cs w b1 base h hbase hb hn1 hn2 hL hrow).mono ?_
      rintro e w' ⟨rfl, hW⟩
      refine ⟨hW, .inl ⟨realB_no ?_, rfl⟩⟩
      cases hc : rowB z.C z.N
      · exact .inr (.inr (.inr (.inr (.inl rfl))))
      · rw [hc, Bool.true_and] at hrow
        exact .inr (.inr (.inr (.inr (.inr hrow))))
    · have hC : rowB z.C z.N = true := by
        cases hc : rowB z.C z.N
        · rw [hc] at hrow; cases hrow
        · rfl
      have hR : rowB z.R z.N = true := by
        rw [hC, Bool.true_and] at hrow; exact hrow
      have hE : realB z = (z.R.all (fun u => decide (0 ≤ fv u)) && (List.range z.Ids.length).all (idOk z)) := by
        unfold realB goodB
        rw [hb, decide_eq_true hn1, decide_eq_true hn2, hC, hR, decide_eq_true hL]; rfl
      refine (reals_tail z cs w b1 base h hbase hb hn1 hn2 hL hC hR).mono ?_
      rintro e w' ⟨hW, hh⟩
      rw [← hE] at hh
      exact ⟨hW, hh⟩
theorem fits_real (z : Zn) (a : List Nat) : fitsB z a = (realB z && a.all fin && decide ((a.length : Int) = z.N + 1)) := by
  unfold fitsB realB
  cases z.bad <;> cases goodB z <;> cases a.all fin <;> simp
/-! what runs of ref2's functions leave, opened -/
theorem minus_o (K base : Nat) (X Y : Int) (cx cy : List Value) (w : World) (hbase : base ≤ w.heap.size) (hx : (numRd K).R w base X cx) (hy : (numRd K).R w base Y cy)
    (hX : X.natAbs < 2 ^ CapL) (hY : Y.natAbs < 2 ^ CapL) (hK : K ≤ 1073741824) :
    Calls Tryz.prog 10 #[.agg cx.toArray, .agg cy.toArray] w fun r w' => ∃ neg A n c e, r = .returned (.agg #[.bool neg, .slice A n c, .int .i64 e]) ∧ (numRd K).R w' base (X - Y) [.bool neg, .slice A n c, .int .i64 e] ∧ Below w.heap.size w w' := by
  refine (minus_num K base CapL X Y cx cy w hbase hx hy hX hY (by decide) hK).mono ?_
  rintro r w' ⟨cs, rfl, hr, hW⟩
  obtain ⟨neg, A, n, c, e, rfl⟩ := num_open hr
  exact ⟨_, _, _, _, _, rfl, hr, hW⟩
theorem size_o (K base : Nat) (X : Int) (cs : List Value) (w : World) (h : (numRd K).R w base X cs) :
    Calls Tryz.prog 14 #[.agg cs.toArray] w fun r w' => ∃ neg A n c e, r = .returned (.agg #[.bool neg, .slice A n c, .int .i64 e]) ∧ (numRd K).R w' base (X.natAbs : Int) [.bool neg, .slice A n c, .int .i64 e] ∧ Below w.heap.size w w' := by
  refine (size_calls K base X cs w h).mono ?_
  rintro r w' ⟨cs, rfl, hr, hW⟩
  obtain ⟨neg, A, n, c, e, rfl⟩ := num_open hr
  exact ⟨_, _, _, _, _, rfl, hr, hW⟩
theorem weighs_o (A B : Option Addr) (a l : List Nat) (n m ca cb t1 t2 base : Nat) (w : World) (hn : a.length = n) (hm : l.length = m) (hA : nRd.Row t1 w base A (a.map fv)) (hB : nRd.Row t2 w base B (l.map fv))
    (haf : a.all fin = true) (hlf : l.all fin = true) (hle : m ≤ n) (hm2 : m ≤ 256) (hn2 : n ≤ 1099511627776) (hbase : base ≤ w.heap.size) :
    Calls Tryz.prog 15 #[.slice A n ca, .slice B m cb] w fun r w' => ∃ neg A n c e, r = .returned (.agg #[.bool neg, .slice A n c, .int .i64 e]) ∧ mRd2.R w' base (dotS a l m) [.bool neg, .slice A n c, .int .i64 e] ∧ Below w.heap.size w w' := by
  refine (weighs_calls A B a l n m ca cb t1 t2 base w hn hm hA hB haf hlf hle hm2 hn2 hbase).mono ?_
  rintro r w' ⟨cs, rfl, hr, hW⟩
  obtain ⟨neg, A, n, c, e, rfl⟩ := num_open hr
  exact ⟨_, _, _, _, _, rfl, hr, hW⟩
/-- an element of a list of lists of reals -/
theorem gat {t : Nat} {w : World} {base : Nat} {A : Option Addr} {G : List (List Nat)} (h : gRd.Row t w base A (G.map (fun g => g.map fv))) {k : Nat} (hk : k < G.length) :
    ∃ (a : Addr) (B : Option Addr) (c : Nat), A = some a ∧ w.cell? (a.add k) = some (.slice B (G.getD k []).length c) ∧ nRd.Row 47 w base B ((G.getD k []).map fv) := by
  obtain ⟨a, B, l, c, ha, hc, hg, _, _, hr⟩ := bsl_at h (i := k) (by rw [List.length_map]; exact hk)
  have e : l = (G.getD k []).map fv := by
    rw [← hg.out, List.getD_eq_getElem?_getD, List.getD_eq_getElem?_getD, List.getElem?_map, List.getElem?_eq_getElem hk]; rfl
  subst e
  rw [List.length_map] at hc
  exact ⟨a, B, c, ha, hc, hr⟩
end Go.Proofs.YtlcigkgiiamgoaaGreatDoor

namespace Go.Proofs.YtlcigkgiiamgoaaGreatDoor
open Go.RowKit

set_option exponentiation.threshold 6000 in
theorem fv_capL {u : Nat} (h : fin u = true) : (fv u).natAbs < 2 ^ CapL := by
  have h1 := fv_le_max h
  have hc := F2_cap
  have hf : fMax ≤ F2 := Nat.le_mul_of_pos_left _ (by unfold fMax; exact Nat.mul_pos (by decide) (Nat.pow_pos (by decide)))
  have e2 : 72057594037927936 * F2 ≤ 72057594037927936 * F2 * 2 ^ 64 := Nat.le_mul_of_pos_right _ (by decide)
  rw [← cap_eqL]
  generalize Cap = cp at *
  generalize F2 = f at *
  generalize 72057594037927936 * f * 2 ^ 64 = q at *
  omega
end Go.Proofs.YtlcigkgiiamgoaaGreatDoor

namespace Go.Proofs.YtlcigkgiiamgoaaGreatDoor
open Go.RowKit

set_option maxHeartbeats 4000000 in
set_option maxRecDepth 100000 in
theorem signed_calls (K J base : Nat) (X Y : Int) (ca cr : List Value) (w : World) (hbase : base ≤ w.heap.size) (ha : (numRd K).R w base X ca) (hr : (numRd J).R w base Y cr) :
    Calls Tryz.prog 11 #[.agg ca.toArray, .agg cr.toArray] w fun e w' => ∃ cs, e = .returned (.agg cs.toArray) ∧ (numRd J).R w' base (if X < 0 then -Y else Y) cs ∧ Below w.heap.size w w' := by
  have HS := Lib.hid (fun W (hW : Below w.heap.size w W) => sign_calls K base X ca W (Rd.below _ ha hW))
  have HT := Lib.hid (fun W (hW : Below w.heap.size w W) => turned_calls J base Y cr W (Rd.below _ hr hW))
  have HR := Lib.hid (fun W (hW : Below w.heap.size w W) => (show (numRd J).R W base Y cr from Rd.below _ hr hW))
  obtain ⟨n1, a1, l1, c1, e1, rfl⟩ := num_open ha
  obtain ⟨n2, a2, l2, c2, e2, rfl⟩ := num_open hr
  have HW := Lib.hid (below_new (below_new (below_new (Below.refl w.heap.size w) (.cells #[.bool n1, .slice a1 l1 c1, .int .i64 e1] 47)) (.cells #[.bool n2, .slice a2 l2 c2, .int .i64 e2] 47)) (.cells #[.bool false, .slice none 0 0, .int .i64 0] 47))
  have HB2 := Lib.hid (blk_new' (w.alloc (.cells #[.bool n1, .slice a1 l1 c1, .int .i64 e1] 47)) (w.heap.size + 1) (by simp) #[.bool n2, .slice a2 l2 c2, .int .i64 e2] 47 |>.alloc (.cells #[.bool false, .slice none 0 0, .int .i64 0] 47))
  have HB3 := Lib.hid (blk_new' ((w.alloc (.cells #[.bool n1, .slice a1 l1 c1, .int .i64 e1] 47)).alloc (.cells #[.bool n2, .slice a2 l2 c2, .int .i64 e2] 47)) (w.heap.size + 1 + 1) (by simp) #[.bool false, .slice none 0 0, .int .i64 0] 47)
  clear ha hr
  by_cases hX : X < 0
  · rw [if_pos hX]
    have hs : Int.sign X = -1 := Int.sign_eq_neg_one_of_neg hX
    rw [hs] at HS
    clear hX hs
    go_enter Tryz.func11, Tryz.ntmps11
    go_wp2_with fail
    refine (HS.out _ HW.out).mono ?_
    rintro e w1 ⟨rfl, hW1⟩
    have H1 := Lib.hid (below_next HW.out hW1)
    have B2 := Lib.hid (HB2.out.below' hW1)
    have B3 := Lib.hid (HB3.out.below' hW1)
    obtain ⟨q0, q1, q2⟩ := three B2.out
    clear hW1 HS
    go_wp2_with fail
    refine (HT.out _ H1.out).mono ?_
    rintro e w2 ⟨cs, rfl, hr2, hW2⟩
    obtain ⟨n3, a3, l3, c3, e3, rfl⟩ := num_open hr2
    have C3 := Lib.hid (B3.out.below' hW2)
    obtain ⟨r0, r1, r2⟩ := three C3.out
    have f0 := C3.out.frozen 0
    have f1 := C3.out.frozen 1
    have f2 := C3.out.frozen 2
    obtain ⟨g1, g2, g3⟩ := set3 (base := base) (B := w.heap.size) (E := [87]) (w0 := w) (.bool n3) (.slice a3 l3 c3) (.int .i64 e3) C3.out (by omega) (by decide) (by omega) (below_next H1.out hW2)
    have HG := Lib.hid (And.intro g3 ((numRd J).keep hr2 g2))
    obtain ⟨t0, t1, t2⟩ := three g1
    clear g1 g2 g3 hr2 hW2 HT
    go_wp2
    refine bodyPost_ret (v := .agg #[.bool n3, .slice a3 l3 c3, .int .i64 e3]) (by simp [results, Tryz.results11, go_sem, t0, t1, t2]) rfl ⟨[.bool n3, .slice a3 l3 c3, .int .i64 e3], rfl, HG.out.2, HG.out.1⟩
  · rw [if_neg hX]
    have hs : ¬ Int.sign X < 0 := by
      intro h
      exact hX (Int.neg_of_sign_eq_neg_one (by have := (sign_bd X).1; omega))
    obtain ⟨sx, hsx⟩ : ∃ s, Int.sign X = s := ⟨_, rfl⟩
    rw [hsx] at hs HS
    have hs0 : decide (sx < 0) = false := decide_eq_false hs
    clear hX hsx hs
    go_enter Tryz.func11, Tryz.ntmps11
    go_wp2_with fail
    refine (HS.out _ HW.out).mono ?_
    rintro e w1 ⟨rfl, hW1⟩
    have H1 := Lib.hid (below_next HW.out hW1)
    have B2 := Lib.hid (HB2.out.below' hW1)
    have B3 := Lib.hid (HB3.out.below' hW1)
    obtain ⟨q0, q1, q2⟩ := three B2.out
    obtain ⟨r0, r1, r2⟩ := three B3.out
    have f0 := B3.out.frozen 0
    have f1 := B3.out.frozen 1
    have f2 := B3.out.frozen 2
    obtain ⟨g1, g2, g3⟩ := set3 (base := base) (B := w.heap.size) (E := [87]) (w0 := w) (.bool n2) (.slice a2 l2 c2) (.int .i64 e2) B3.out (by omega) (by decide) (by omega) H1.out
    have HG := Lib.hid (And.intro g3 ((numRd J).keep (HR.out _ H1.out) g2))
    obtain ⟨t0, t1, t2⟩ := three g1
    clear g1 g2 g3 hW1 HS HT
    go_wp2
    refine bodyPost_ret (v := .agg #[.bool n2, .slice a2 l2 c2, .int .i64 e2]) (by simp [results, Tryz.results11, go_sem, t0, t1, t2]) rfl ⟨[.bool n2, .slice a2 l2 c2, .int .i64 e2], rfl, HG.out.2, HG.out.1⟩
end Go.Proofs.YtlcigkgiiamgoaaGreatDoor

namespace Go.Proofs.YtlcigkgiiamgoaaGreatDoor
open Go.RowKit

end Go.Proofs.YtlcigkgiiamgoaaGreatDoor

namespace Go.Proofs.YtlcigkgiiamgoaaGreatDoor
open Go.RowKit

/-- a real is told -/
def NumRet (K base : Nat) (X : Int) (w : World) (r : Ending) (w' : World) : Prop :=
  ∃ neg A n c e, r = .returned (.agg #[.bool neg, .slice A n c, .int .i64 e]) ∧ (numRd K).R w' base X [.bool neg, .slice A n c, .int .i64 e] ∧ Below w.heap.size w w'
theorem numRet_mk {K base : Nat} {X : Int} {w w' : World} {neg : Bool} {A : Option Addr} {n c : Nat} {e : Int} (h : (numRd K).R w' base X [.bool neg, .slice A n c, .int .i64 e]) (hW : Below w.heap.size w w') : NumRet K base X w (.returned (.agg #[.bool neg, .slice A n c, .int .i64 e])) w' := ⟨neg, A, n, c, e, rfl, h, hW⟩
def partS (l : List Int) (i depth : Nat) : Int := if l.length ≤ i then 0 else max (min (l.getD i 0) (2 ^ depth : Nat)) (-(2 ^ depth : Nat))
theorem partS_bd (l : List Int) (i depth : Nat) : -((2 ^ depth : Nat) : Int) ≤ partS l i depth ∧ partS l i depth ≤ (2 ^ depth : Nat) := by
  unfold partS
  generalize 2 ^ depth = p
  split <;> omega
theorem wrap_pow {depth : Nat} {p : Int} (hq : (2 : Int) ^ depth = p) (h : 1 ≤ p) (h2 : p ≤ 1073741824) : wrap64 ((2 : Int) ^ depth) = p ∧ wrap64 (-(2 : Int) ^ depth) = -p := by
  rw [hq]
  exact ⟨IntWalk.wrap64_in _ (by omega), IntWalk.wrap64_in _ (by omega)⟩
theorem pow_le30 {depth : Nat} (h : depth ≤ 30) : 1 ≤ 2 ^ depth ∧ 2 ^ depth ≤ 1073741824 := by
  refine ⟨Nat.pow_pos (by decide), ?_⟩
  exact Nat.le_trans (Nat.pow_le_pow_right (by decide) h) (by decide)
end Go.Proofs.YtlcigkgiiamgoaaGreatDoor

namespace Go.Proofs.YtlcigkgiiamgoaaGreatDoor
open Go.RowKit
attribute [local go_sem ↓] Go.wp_at_zero Go.wp_at_succ

/-! ### a real in a block of its own -/
abbrev W3 (w : World) (b : Nat) (x0 x1 x2 : Value) : World := ((w.setCell ⟨b, 0, none⟩ x0).setCell ⟨b, 1, none⟩ x1).setCell ⟨b, 2, none⟩ x2
def NumB (K base : Nat) (w : World) (b : Nat) (X : Int) : Prop := ∃ neg A n c e, Blk w b 47 [.bool neg, .slice A n c, .int .i64 e] ∧ (numRd K).R w base X [.bool neg, .slice A n c, .int .i64 e]
theorem NumB.next {K base b : Nat} {w w' : World} {X : Int} (h : NumB K base w b X) (hW : Below w.heap.size w w') : NumB K base w' b X := by
  obtain ⟨neg, A, n, c, e, h1, h2⟩ := h
  exact ⟨neg, A, n, c, e, h1.below' hW, Rd.below _ h2 hW⟩
theorem NumB.lt {K base b : Nat} {w : World} {X : Int} (h : NumB K base w b X) : b < w.heap.size := by obtain ⟨_, _, _, _, _, h, _⟩ := h; exact h.lt
theorem numB_set {K base b : Nat} {w : World} {X : Int} {z0 z1 z2 : Value} {neg : Bool} {A : Option Addr} {n c : Nat} {e : Int} (hb : Blk w b 47 [z0, z1, z2]) (hr : (numRd K).R w base X [.bool neg, .slice A n c, .int .i64 e]) (hbase : base ≤ b) :
    NumB K base (W3 w b (.bool neg) (.slice A n c) (.int .i64 e)) b X := by
  obtain ⟨g1, g2, _⟩ := set3 (base := base) (B := 0) (E := [87]) (w0 := w) (.bool neg) (.slice A n c) (.int .i64 e) hb hbase (by decide) (Nat.zero_le _) ((Below.refl w.heap.size w).mono (Nat.zero_le _))
  exact ⟨neg, A, n, c, e, g1, (numRd K).keep hr g2⟩
theorem numB_far {K base b b' : Nat} {w : World} {X : Int} {z0 z1 z2 x0 x1 x2 : Value} (h : NumB K base w b X) (hb : Blk w b' 47 [z0, z1, z2]) (hne : b ≠ b') (hbase : base ≤ b') : NumB K base (W3 w b' x0 x1 x2) b X := by
  obtain ⟨neg, A, n, c, e, h1, h2⟩ := h
  obtain ⟨_, g2, _⟩ := set3 (base := base) (B := 0) (E := [87]) (w0 := w) x0 x1 x2 hb hbase (by decide) (Nat.zero_le _) ((Below.refl w.heap.size w).mono (Nat.zero_le _))
  exact ⟨neg, A, n, c, e, ((h1.far (p := ⟨b', 0, none⟩) hne _).far (p := ⟨b', 1, none⟩) hne _).far (p := ⟨b', 2, none⟩) hne _, (numRd K).keep h2 g2⟩
theorem Blk.far3 {w : World} {b b' t : Nat} {cs : List Value} (h : Blk w b t cs) (hne : b ≠ b') (x0 x1 x2 : Value) : Blk (W3 w b' x0 x1 x2) b t cs :=
  ((h.far (p := ⟨b', 0, none⟩) hne _).far (p := ⟨b', 1, none⟩) hne _).far (p := ⟨b', 2, none⟩) hne _
theorem below3 {B b : Nat} {w w' : World} (h : Below B w w') (hb : B ≤ b) (x0 x1 x2 : Value) : Below B w (W3 w' b x0 x1 x2) :=
  ((h.setCell (p := ⟨b, 0, none⟩) hb _).setCell (p := ⟨b, 1, none⟩) hb _).setCell (p := ⟨b, 2, none⟩) hb _
theorem numB_new {K base : Nat} {w : World} {X : Int} {neg : Bool} {A : Option Addr} {n c : Nat} {e : Int} (hr : (numRd K).R w base X [.bool neg, .slice A n c, .int .i64 e]) : NumB K base (w.alloc (.cells #[.bool neg, .slice A n c, .int .i64 e] 47)) w.heap.size X :=
  ⟨neg, A, n, c, e, Blk.new _ _ _, Rd.below _ hr (below_new (Below.refl _ _) _)⟩
theorem keep4 {w W : World} {q1 q2 q3 q4 : Addr} {u1 u2 u3 u4 : Value} (h1 : w.cell? q1 = some u1) (h2 : w.cell? q2 = some u2) (h3 : w.cell? q3 = some u3) (h4 : w.cell? q4 = some u4) (hW : Below w.heap.size w W) :
    W.cell? q1 = some u1 ∧ W.cell? q2 = some u2 ∧ W.cell? q3 = some u3 ∧ W.cell? q4 = some u4 := ⟨cell_kept hW h1, cell_kept hW h2, cell_kept hW h3, cell_kept hW h4⟩
/-! ### ref17.Least -/
structure LSt (w wx : World) (base bx : Nat) (xs : List Value) (V : Int) : Prop where
  W : Below w.heap.size w wx
  X : Blk wx w.heap.size 30 xs
  O : Blk wx (w.heap.size + 1) 47 [.bool false, .slice none 0 0, .int .i64 0]
  V : NumB 2148 base wx bx V
  b : w.heap.size + 2 ≤ bx
theorem LSt.next {w wx wy : World} {base bx : Nat} {xs : List Value} {V : Int} (h : LSt w wx base bx xs V) (hb : Below wx.heap.size wx wy) : LSt w wy base bx xs V :=
  ⟨below_next h.W hb, h.X.below' hb, h.O.below' hb, h.V.next hb, h.b⟩
theorem LSt.upd {w wx : World} {base bx : Nat} {xs : List Value} {V V' : Int} {neg : Bool} {A : Option Addr} {n c : Nat} {e : Int} (h : LSt w wx base bx xs V) (hbase : base ≤ w.heap.size) (hr : (numRd 2148).R wx base V' [.bool neg, .slice A n c, .int .i64 e]) :
    LSt w (W3 wx bx (.bool neg) (.slice A n c) (.int .i64 e)) base bx xs V' := by
  obtain ⟨_, _, _, _, _, hb, _⟩ := h.V
  have h2 := h.b
  exact ⟨below3 h.W (by omega) _ _ _, h.X.far3 (by omega) _ _ _, h.O.far3 (by omega) _ _ _, numB_set hb hr (by omega), h2⟩
theorem lst_new {w w3 : World} {base : Nat} {xs : List Value} {V : Int} {neg : Bool} {A : Option Addr} {n c : Nat} {e : Int} (hW : Below w.heap.size w w3) (hX : Blk w3 w.heap.size 30 xs) (hO : Blk w3 (w.heap.size + 1) 47 [.bool false, .slice none 0 0, .int .i64 0])
    (hr : (numRd 2148).R w3 base V [.bool neg, .slice A n c, .int .i64 e]) : LSt w (w3.alloc (.cells #[.bool neg, .slice A n c, .int .i64 e] 47)) base w3.heap.size xs V :=
  ⟨below_next hW (below_new (Below.refl _ _) _), hX.alloc _, hO.alloc _, numB_new hr, by have := hO.lt; omega⟩
theorem lst_set {w w3 : World} {base bx : Nat} {xs : List Value} {V : Int} {z0 z1 z2 : Value} {neg : Bool} {A : Option Addr} {n c : Nat} {e : Int} (hz : Blk w3 bx 47 [z0, z1, z2]) (hb : w.heap.size + 2 ≤ bx) (hbase : base ≤ w.heap.size) (hW : Below w.heap.size w w3) (hX : Blk w3 w.heap.size 30 xs) (hO : Blk w3 (w.heap.size + 1) 47 [.bool false, .slice none 0 0, .int .i64 0])
    (hr : (numRd 2148).R w3 base V [.bool neg, .slice A n c, .int .i64 e]) : LSt w (W3 w3 bx (.bool neg) (.slice A n c) (.int .i64 e)) base bx xs V :=
  ⟨below3 hW (by omega) _ _ _, hX.far3 (by omega) _ _ _, hO.far3 (by omega) _ _ _, numB_set hz hr (by omega), hb⟩
set_option exponentiation.threshold 6000 in
theorem capL_of {x : Int} (h : x.natAbs ≤ 72057594037927936 * F2) : x.natAbs < 2 ^ CapL := by
  rw [← cap_eqL]
  have := cap_of h
  rw [Int.natAbs_mul, Int.natAbs_natCast] at this
  exact Nat.lt_of_le_of_lt (Nat.le_mul_of_pos_right _ (by decide)) this
end Go.Proofs.YtlcigkgiiamgoaaGreatDoor

namespace Go.Proofs.YtlcigkgiiamgoaaGreatDoor
open Go.RowKit
attribute [local go_sem ↓] Go.wp_at_zero Go.wp_at_succ

/-! ### ref17.Margin -/
theorem rzRd.below {w w' : World} {base : Nat} {z : Zn} {cs : List Value} (h : rzRd.R w base z cs) (hb : Below w.heap.size w w') : rzRd.R w' base z cs := Rd.below _ h hb
theorem fits_no {z : Zn} {a : List Nat} (h : realB z = false ∨ a.all fin = false ∨ (a.length : Int) ≠ z.N + 1) : marginS z a = none ∧ fitsB z a = false := by
  have hf : fitsB z a = false := by
    rw [fits_real]
    rcases h with h | h | h
    · rw [h]; rfl
    · rw [h]; simp
    · rw [decide_eq_false h]; simp
  exact ⟨by unfold marginS; rw [hf]; rfl, hf⟩
theorem realB_n {z : Zn} (h : realB z = true) : 1 ≤ z.N ∧ z.N ≤ 256 := by
  unfold realB goodB at h
  simp only [Bool.and_eq_true, decide_eq_true_eq] at h
  exact ⟨h.2.1.1.1.1.1.1, h.2.1.1.1.1.1.2⟩
def MgRet (o : Option Nat) (w : World) (e : Ending) (w' : World) : Prop := e = optRet o ∧ Below w.heap.size w w'
end Go.Proofs.YtlcigkgiiamgoaaGreatDoor
