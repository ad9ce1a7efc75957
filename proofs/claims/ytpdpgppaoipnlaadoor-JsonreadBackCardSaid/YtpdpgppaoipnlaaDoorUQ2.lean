/- What the claim uses of the text Q2. -/
import Derived.Test.YtpdpgppaoipnlaaDoorUQ1
import Derived.Test.YtpdpgppaoipnlaaDoorUK1
import Derived.StillTailTactics
import Derived.Deep.RegionHeld3
set_option linter.unusedVariables false
set_option linter.unusedSimpArgs false
namespace Go.Proofs.YtpdpgppaoipnlaaDoor
open Go.RowKit Go.PlainAid
open Go.Proofs.YtpdpgppaoipnlaaDoorW.PrintWords hiding bt
open Go.Proofs.YtpdpgppaoipnlaaDoorW.PrintMore

theorem totL_take : ∀ (l : List JV) (k : Nat), k < l.length → totL (l.take (k + 1)) = totL (l.take k) + totV (l.getD k jz)
  | [], _, h => by simp at h
  | x :: l, 0, _ => by simp [totL]
  | x :: l, k + 1, h => by
    have := totL_take l k (by simpa using h)
    simp [totL] at this ⊢
    omega
theorem totM_take : ∀ (l : List (ByteArray × JV)) (k : Nat), k < l.length → totM (l.take (k + 1)) = totM (l.take k) + ((l.getD k (⟨#[]⟩, jz)).1.size + totV (l.getD k (⟨#[]⟩, jz)).2)
  | [], _, h => by simp at h
  | (n, x) :: l, 0, _ => by simp [totM]
  | (n, x) :: l, k + 1, h => by
    have := totM_take l k (by simpa using h)
    simp [totM] at this ⊢
    omega
theorem getD_mem' {α : Type} (l : List α) (k : Nat) (d : α) (h : k < l.length) : l.getD k d ∈ l := by
  rw [List.getD_eq_getElem?_getD, List.getElem?_eq_getElem h]
  exact List.getElem_mem h
/-- What count tells: up to the bound, the number itself. -/
def CInv (most T c : Nat) : Prop := (c ≤ most → T = c) ∧ 1 ≤ c ∧ c ≤ (most + 2) * 281474976710656
theorem CInv.start {most t : Nat} (h : t ≤ reachBytes) : CInv most (1 + t) (1 + t) := by
  unfold reachBytes at h
  exact ⟨fun _ => rfl, by omega, by omega⟩
theorem CInv.step {most T c r nm V : Nat} (h : CInv most T c) (hc : c ≤ most) (hr : CInv (most - c) V r) (hm : most ≤ 2000) (hn : nm ≤ reachBytes) : CInv most (T + (nm + V)) (c + (nm + r)) := by
  obtain ⟨a1, a2, a3⟩ := h
  obtain ⟨b1, b2, b3⟩ := hr
  unfold reachBytes at hn
  have hT := a1 hc
  refine ⟨fun h => ?_, by omega, ?_⟩
  · have := b1 (by omega); omega
  · have : (most - c + 2) * 281474976710656 ≤ (most + 1) * 281474976710656 := Nat.mul_le_mul_right _ (by omega)
    omega
theorem CInv.over {most T T' c : Nat} (h : CInv most T c) (hc : ¬ c ≤ most) : CInv most T' c := ⟨fun h' => absurd h' hc, h.2⟩

theorem wrap_sum {c nm r : Nat} (h1 : c ≤ 2000) (h2 : nm ≤ 140737488351232) (h3 : r ≤ 563512903374733312) : IntKind.i64.wrap ((c : Int) + IntKind.i64.wrap ((nm : Int) + (r : Int))) = ((c + (nm + r) : Nat) : Int) := by
  simp only [IntKind.wrap_i64]
  omega
def CountAll (n : Nat) : Prop := ∀ (x : JV) (cs : List Value) (most : Nat) (w : World), (jd n).K w x cs → szV reachBytes x → most ≤ 2000 →
  Calls Tryd.prog 27 #[.agg cs.toArray, .int .i64 (most : Int)] w fun e w' => ∃ c : Nat, e = .returned (.int .i64 (c : Int)) ∧ Hid (CInv most (totV x) c) ∧ Hid (Below w.heap.size w w')

set_option maxHeartbeats 4000000 in
set_option maxRecDepth 100000 in
theorem count_step (n : Nat) (ih : CountAll n) : CountAll (n + 1) := by
  intro x cs most w hk hz hmost
  obtain ⟨A2, c2, A3, c3, rfl, l2, g2, l3, g3⟩ := jd_open hk
  change Calls _ _ #[.agg #[.int .i64 x.kind, .string x.text, .slice A2 x.list.length c2, .slice A3 x.mem.length c3], .int .i64 (most : Int)] _ _
  have HIH := Lib.hid ih
  obtain ⟨kd, t, l, m⟩ := x
  dsimp only at *
  obtain ⟨z1, z2, z3⟩ := hz
  have HZ2 := Lib.hid z2
  have HZ3 := Lib.hid z3
  have HZ1 := Lib.hid z1
  have HT : Hid (totV ⟨kd, t, l, m⟩ = 1 + t.size + totL l + totM m) := by show _ = _; rw [totV]
  have z1' : t.size ≤ 140737488351232 := z1
  have HB0 : Hid (Below w.heap.size w (w.alloc (.cells #[.int .i64 kd, .string t, .slice A2 l.length c2, .slice A3 m.length c3] 26))) := (Below.refl _ _).alloc (Nat.le_refl _) _
  have HR1 : Hid (Row 26 w.heap.size #[.int .i64 kd, .string t, .slice A2 l.length c2, .slice A3 m.length c3] (w.alloc (.cells #[.int .i64 kd, .string t, .slice A2 l.length c2, .slice A3 m.length c3] 26))) := Row.new w _ _ rfl
  have G2 := Lib.hid (Kd.C_below g2 HB0.out)
  have G3 := Lib.hid (Kd.C_below g3 HB0.out)
  have s2 : l.length ≤ 9223372036854775807 := g2.2.1
  have s3 : m.length ≤ 9223372036854775807 := g3.2.1
  clear hk z1 z2 z3 g2 g3 l2 l3 ih
  go_enter Tryd.func27, Tryd.ntmps27
  go_wp2_with fail
  change Code.wp _ _ _ _ (w.alloc (.cells #[.int .i64 kd, .string t, .slice A2 l.length c2, .slice A3 m.length c3] 26))
  generalize w.alloc (.cells #[.int .i64 kd, .string t, .slice A2 l.length c2, .slice A3 m.length c3] 26) = w0 at *
  go_loopg [5, 6] l.length (fun g v5 v6 wi => ∃ k c : Nat, v5 = .int .i64 (c : Int) ∧ v6 = .int .i64 (k : Int) ∧ Hid (k + g = l.length) ∧ Hid (CInv most (1 + t.size + totL (l.take k)) c) ∧ Hid (Below w0.heap.size w0 wi))
  case atStart => exact ⟨0, 1 + t.size, by go_num, rfl, by show _ = _; omega, CInv.start HZ1.out, Below.refl _ _⟩
  case round =>
    obtain ⟨k, c, rfl, rfl, HK, HC, HB⟩ := hrel
    have ca := (HR1.out.below HB.out).cell 2 _ rfl
    have cb1 := HC.out.2.1
    have cb2 := HC.out.2.2
    by_cases hlt : k < l.length
    · have k3 : decide (k < l.length) = true := by simpa using hlt
      by_cases hc : c ≤ most
      · have k4 : decide (c ≤ most) = true := by simpa using hc
        obtain ⟨ad, X2, x2, X3, x3, hA, hKa, q0, q1, q2, q3⟩ := jv_at (Kd.C_below G2.out HB.out) k hlt
        rw [hA] at ca
        have k0 : (0 : Int) ≤ (k : Int) := by omega
        have k1 : (k : Int) < (l.length : Int) := by omega
        obtain ⟨g1, rfl⟩ : ∃ g1, gk = g1 + 1 := ⟨gk - 1, by have := HK.out; omega⟩
        have HZ := Lib.hid (szL_at HZ2.out _ (getD_mem' l k jz hlt))
        have HTk := Lib.hid (totL_take l k hlt)
        have HKa := Lib.hid hKa
        clear hA hKa
        generalize l.getD k jz = xa at *
        have HCC : Hid (∀ W, Below wr.heap.size wr W → Calls Tryd.prog 27 #[.agg #[.int .i64 xa.kind, .string xa.text, .slice X2 xa.list.length x2, .slice X3 xa.mem.length x3], .int .i64 ((most : Int) - (c : Int))] W fun e w' => ∃ r : Nat, e = .returned (.int .i64 (r : Int)) ∧ Hid (CInv (most - c) (totV xa) r) ∧ r ≤ 563512903374733312 ∧ Hid (Below W.heap.size W w')) := fun W hW => by
          have := HIH.out xa _ (most - c) W ((jd n).K_below hW HKa.out) HZ.out (by omega)
          rw [show (((most - c : Nat)) : Int) = (most : Int) - (c : Int) by omega] at this
          refine this.mono ?_
          rintro e w' ⟨r, rfl, h1, h2⟩
          exact ⟨r, rfl, h1, by have := h1.out.2.2; omega, h2⟩
        go_wp2_with (go_at_call 27; refine (HCC.out _ (Below.refl _ _)).mono ?_; rintro e w4 ⟨r, rfl, HCr, hr, hb4⟩)
        go_roundg g1
        case measure => omega
        case rel => exact ⟨k + 1, c + r, by go_num, by go_num, by have := HK.out; show _ = _; omega, by have := CInv.step (nm := 0) HC.out hc HCr.out hmost (by unfold reachBytes; omega); show CInv _ _ _; rw [HTk.out, ← Nat.add_assoc]; simpa only [Nat.zero_add] using this, below_then HB.out HB.out.size hb4.out⟩
      · have k4 : decide (c ≤ most) = false := by simpa using hc
        have HC2 : Hid (CInv most (1 + t.size + totL l) c) := by show CInv _ _ _; exact CInv.over HC.out hc
        clear HC HK hlt hc
        go_wp2_with fail
        obtain ⟨wm, hwm⟩ : ∃ wm : World, wm = wr := ⟨_, rfl⟩
        rw [← hwm] at HB ⊢
        clear hwm ca wr
        go_loopg [5, 7] m.length (fun g v5 v7 wi => ∃ k c : Nat, v5 = .int .i64 (c : Int) ∧ v7 = .int .i64 (k : Int) ∧ Hid (k + g = m.length) ∧ Hid (CInv most (1 + t.size + totL l + totM (m.take k)) c) ∧ Hid (Below w0.heap.size w0 wi))
        case atStart => exact ⟨0, c, rfl, rfl, by show _ = _; omega, by show CInv _ _ _; simpa [totM] using HC2.out, HB.out⟩
        case round =>
          clear HC2 cb1 cb2
          obtain ⟨k, c, rfl, rfl, HK, HC, HB⟩ := hrel
          have ca := (HR1.out.below HB.out).cell 3 _ rfl
          have cb1 := HC.out.2.1
          have cb2 := HC.out.2.2
          by_cases hlt : k < m.length
          · have k3 : decide (k < m.length) = true := by simpa using hlt
            by_cases hc : c ≤ most
            · have k4 : decide (c ≤ most) = true := by simpa using hc
              obtain ⟨ad, X2, x2, X3, x3, hA, hKa, qn, q0, q1, q2, q3⟩ := jm_at (Kd.C_below G3.out HB.out) k hlt
              rw [hA] at ca
              have k0 : (0 : Int) ≤ (k : Int) := by omega
              have k1 : (k : Int) < (m.length : Int) := by omega
              obtain ⟨g1, rfl⟩ : ∃ g1, gk = g1 + 1 := ⟨gk - 1, by have := HK.out; omega⟩
              have hz := szM_at HZ3.out _ (getD_mem' m k (⟨#[]⟩, jz) hlt)
              have HTk := Lib.hid (totM_take m k hlt)
              have HKa := Lib.hid hKa
              clear hA hKa
              generalize m.getD k (⟨#[]⟩, jz) = ea at *
              obtain ⟨na, xa⟩ := ea
              dsimp only at qn q0 q1 q2 q3 HKa HTk hz
              have HZ := Lib.hid hz.2
              have HZn := Lib.hid hz.1
              have hna : na.size ≤ 140737488351232 := hz.1
              have hc' : c ≤ 2000 := by omega
              clear hz
              have HCC : Hid (∀ W, Below wr.heap.size wr W → Calls Tryd.prog 27 #[.agg #[.int .i64 xa.kind, .string xa.text, .slice X2 xa.list.length x2, .slice X3 xa.mem.length x3], .int .i64 ((most : Int) - (c : Int))] W fun e w' => ∃ r : Nat, e = .returned (.int .i64 (r : Int)) ∧ Hid (CInv (most - c) (totV xa) r) ∧ r ≤ 563512903374733312 ∧ Hid (Below W.heap.size W w')) := fun W hW => by
                have := HIH.out xa _ (most - c) W ((jd n).K_below hW HKa.out) HZ.out (by omega)
                rw [show (((most - c : Nat)) : Int) = (most : Int) - (c : Int) by omega] at this
                refine this.mono ?_
                rintro e w' ⟨r, rfl, h1, h2⟩
                exact ⟨r, rfl, h1, by have := h1.out.2.2; omega, h2⟩
              have hwr : IntKind.i64.wrap ((most : Int) - (c : Int)) = (most : Int) - (c : Int) := by rw [IntKind.wrap_i64]; omega
              go_wp2_with fail
              go_region_held3 (fun W => W.cell? ⟨w.heap.size, 3, none⟩ = some (.slice (some ad) m.length c3) ∧ W.cell? (ad.add (k * 5)) = some (.string na) ∧ W.cell? ⟨(ad.add (k * 5)).block, (ad.add (k * 5)).off + 1, none⟩ = some (.int .i64 xa.kind) ∧ W.cell? ⟨(ad.add (k * 5)).block, (ad.add (k * 5)).off + 2, none⟩ = some (.string xa.text) ∧ W.cell? ⟨(ad.add (k * 5)).block, (ad.add (k * 5)).off + 3, none⟩ = some (.slice X2 xa.list.length x2) ∧ W.cell? ⟨(ad.add (k * 5)).block, (ad.add (k * 5)).off + 4, none⟩ = some (.slice X3 xa.mem.length x3)) (first | exact ⟨ca, qn, q0, q1, q2, q3⟩ | exact ⟨cell_below (w := wr.drew) hb4.out ca, cell_below (w := wr.drew) hb4.out qn, cell_below (w := wr.drew) hb4.out q0, cell_below (w := wr.drew) hb4.out q1, cell_below (w := wr.drew) hb4.out q2, cell_below (w := wr.drew) hb4.out q3⟩) (first | (go_simp; go_at_call 27; (try rw [hwr]); refine (HCC.out _ (below_drew (Below.refl _ _))).mono ?_; rintro e w4 ⟨r, rfl, HCr, hr, hb4⟩))
              all_goals
                go_wp2_with fail
                go_roundg g1
                case measure => omega
                case rel => exact ⟨k + 1, c + (na.size + r), by rw [wrap_sum (c := c) (nm := na.size) (r := r) hc' hna hr], by go_num, by have := HK.out; show _ = _; omega, by have := CInv.step HC.out hc HCr.out hmost HZn.out; show CInv _ _ _; rw [HTk.out, ← Nat.add_assoc]; exact this, below_then HB.out HB.out.size (below_then (below_drew (Below.refl _ _)) (Nat.le_refl _) hb4.out)⟩
            · have k4 : decide (c ≤ most) = false := by simpa using hc
              go_wp2_with fail
              go_ret
              exact ⟨c, rfl, by show CInv _ _ _; exact CInv.over HC.out hc, below_then HB0.out HB0.out.size HB.out⟩
          · have k3 : decide (k < m.length) = false := by simpa using hlt
            obtain rfl : k = m.length := by have := HK.out; omega
            go_wp2_with fail
            go_ret
            exact ⟨c, rfl, by show CInv _ _ _; rw [HT.out]; have := HC.out; rwa [List.take_length] at this, below_then HB0.out HB0.out.size HB.out⟩
    · have k3 : decide (k < l.length) = false := by simpa using hlt
      obtain rfl : k = l.length := by have := HK.out; omega
      have HC2 : Hid (CInv most (1 + t.size + totL l) c) := by show CInv _ _ _; have := HC.out; rwa [List.take_length] at this
      clear HC HK hlt
      go_wp2_with fail
      obtain ⟨wm, hwm⟩ : ∃ wm : World, wm = wr := ⟨_, rfl⟩
      rw [← hwm] at HB ⊢
      clear hwm ca wr
      go_loopg [5, 7] m.length (fun g v5 v7 wi => ∃ k c : Nat, v5 = .int .i64 (c : Int) ∧ v7 = .int .i64 (k : Int) ∧ Hid (k + g = m.length) ∧ Hid (CInv most (1 + t.size + totL l + totM (m.take k)) c) ∧ Hid (Below w0.heap.size w0 wi))
      case atStart => exact ⟨0, c, rfl, rfl, by show _ = _; omega, by show CInv _ _ _; simpa [totM] using HC2.out, HB.out⟩
      case round =>
        clear HC2 cb1 cb2
        obtain ⟨k, c, rfl, rfl, HK, HC, HB⟩ := hrel
        have ca := (HR1.out.below HB.out).cell 3 _ rfl
        have cb1 := HC.out.2.1
        have cb2 := HC.out.2.2
        by_cases hlt : k < m.length
        · have k3 : decide (k < m.length) = true := by simpa using hlt
          by_cases hc : c ≤ most
          · have k4 : decide (c ≤ most) = true := by simpa using hc
            obtain ⟨ad, X2, x2, X3, x3, hA, hKa, qn, q0, q1, q2, q3⟩ := jm_at (Kd.C_below G3.out HB.out) k hlt
            rw [hA] at ca
            have k0 : (0 : Int) ≤ (k : Int) := by omega
            have k1 : (k : Int) < (m.length : Int) := by omega
            obtain ⟨g1, rfl⟩ : ∃ g1, gk = g1 + 1 := ⟨gk - 1, by have := HK.out; omega⟩
            have hz := szM_at HZ3.out _ (getD_mem' m k (⟨#[]⟩, jz) hlt)
            have HTk := Lib.hid (totM_take m k hlt)
            have HKa := Lib.hid hKa
            clear hA hKa
            generalize m.getD k (⟨#[]⟩, jz) = ea at *
            obtain ⟨na, xa⟩ := ea
            dsimp only at qn q0 q1 q2 q3 HKa HTk hz
            have HZ := Lib.hid hz.2
            have HZn := Lib.hid hz.1
            have hna : na.size ≤ 140737488351232 := hz.1
            have hc' : c ≤ 2000 := by omega
            clear hz
            have HCC : Hid (∀ W, Below wr.heap.size wr W → Calls Tryd.prog 27 #[.agg #[.int .i64 xa.kind, .string xa.text, .slice X2 xa.list.length x2, .slice X3 xa.mem.length x3], .int .i64 ((most : Int) - (c : Int))] W fun e w' => ∃ r : Nat, e = .returned (.int .i64 (r : Int)) ∧ Hid (CInv (most - c) (totV xa) r) ∧ r ≤ 563512903374733312 ∧ Hid (Below W.heap.size W w')) := fun W hW => by
              have := HIH.out xa _ (most - c) W ((jd n).K_below hW HKa.out) HZ.out (by omega)
              rw [show (((most - c : Nat)) : Int) = (most : Int) - (c : Int) by omega] at this
              refine this.mono ?_
              rintro e w' ⟨r, rfl, h1, h2⟩
              exact ⟨r, rfl, h1, by have := h1.out.2.2; omega, h2⟩
            have hwr : IntKind.i64.wrap ((most : Int) - (c : Int)) = (most : Int) - (c : Int) := by rw [IntKind.wrap_i64]; omega
            go_wp2_with fail
            go_region_held3 (fun W => W.cell? ⟨w.heap.size, 3, none⟩ = some (.slice (some ad) m.length c3) ∧ W.cell? (ad.add (k * 5)) = some (.string na) ∧ W.cell? ⟨(ad.add (k * 5)).block, (ad.add (k * 5)).off + 1, none⟩ = some (.int .i64 xa.kind) ∧ W.cell? ⟨(ad.add (k * 5)).block, (ad.add (k * 5)).off + 2, none⟩ = some (.string xa.text) ∧ W.cell? ⟨(ad.add (k * 5)).block, (ad.add (k * 5)).off + 3, none⟩ = some (.slice X2 xa.list.length x2) ∧ W.cell? ⟨(ad.add (k * 5)).block, (ad.add (k * 5)).off + 4, none⟩ = some (.slice X3 xa.mem.length x3)) (first | exact ⟨ca, qn, q0, q1, q2, q3⟩ | exact ⟨cell_below (w := wr.drew) hb4.out ca, cell_below (w := wr.drew) hb4.out qn, cell_below (w := wr.drew) hb4.out q0, cell_below (w := wr.drew) hb4.out q1, cell_below (w := wr.drew) hb4.out q2, cell_below (w := wr.drew) hb4.out q3⟩) (first | (go_simp; go_at_call 27; (try rw [hwr]); refine (HCC.out _ (below_drew (Below.refl _ _))).mono ?_; rintro e w4 ⟨r, rfl, HCr, hr, hb4⟩))
            all_goals
              go_wp2_with fail
              go_roundg g1
              case measure => omega
              case rel => exact ⟨k + 1, c + (na.size + r), by rw [wrap_sum (c := c) (nm := na.size) (r := r) hc' hna hr], by go_num, by have := HK.out; show _ = _; omega, by have := CInv.step HC.out hc HCr.out hmost HZn.out; show CInv _ _ _; rw [HTk.out, ← Nat.add_assoc]; exact this, below_then HB.out HB.out.size (below_then (below_drew (Below.refl _ _)) (Nat.le_refl _) hb4.out)⟩
          · have k4 : decide (c ≤ most) = false := by simpa using hc
            go_wp2_with fail
            go_ret
            exact ⟨c, rfl, by show CInv _ _ _; exact CInv.over HC.out hc, below_then HB0.out HB0.out.size HB.out⟩
        · have k3 : decide (k < m.length) = false := by simpa using hlt
          obtain rfl : k = m.length := by have := HK.out; omega
          go_wp2_with fail
          go_ret
          exact ⟨c, rfl, by show CInv _ _ _; rw [HT.out]; have := HC.out; rwa [List.take_length] at this, below_then HB0.out HB0.out.size HB.out⟩
theorem count_all : ∀ n, CountAll n
  | 0 => fun _ _ _ _ ha _ => (jd_zero ha).elim
  | n + 1 => count_step n (count_all n)
set_option maxHeartbeats 1000000 in
set_option maxRecDepth 100000 in
/-- Great: a value that isn't has at most 2,000 values and bytes. -/
theorem Great_any (n : Nat) (x : JV) (cs : List Value) (w : World) (hk : (jd n).K w x cs) (hz : szV reachBytes x) :
    Calls Tryd.prog 24 #[.agg cs.toArray] w fun e w' => ∃ g : Bool, e = .returned (.bool g) ∧ Hid (g = false → totV x ≤ 2000) ∧ Hid (Below w.heap.size w w') := by
  have HK := Lib.hid hk
  obtain ⟨n, rfl⟩ := jd_cells hk
  obtain ⟨A2, c2, A3, c3, rfl, l2, g2, l3, g3⟩ := jd_open hk
  clear hk l2 g2 l3 g3
  change Calls _ _ #[.agg #[.int .i64 x.kind, .string x.text, .slice A2 x.list.length c2, .slice A3 x.mem.length c3]] _ _
  have HB : Hid (Below w.heap.size w (w.alloc (.cells #[.int .i64 x.kind, .string x.text, .slice A2 x.list.length c2, .slice A3 x.mem.length c3] 26))) := (Below.refl _ _).alloc (Nat.le_refl _) _
  have HC := Lib.hid (count_all (n + 1) x _ 2000 _ ((jd (n + 1)).K_below HB.out HK.out) hz (Nat.le_refl _))
  go_enter Tryd.func24, Tryd.ntmps24
  go_wp2_with fail
  refine HC.out.mono ?_
  rintro e w1 ⟨c, rfl, HI, HB1⟩
  by_cases hc : 2000 < c
  · have h1 : decide (2000 < c) = true := by simpa using hc
    have h2 : decide ((2000 : Int) < (c : Int)) = true := by simp; omega
    go_wp2_with fail
    go_ret
    exact ⟨true, rfl, (fun h => by cases h), below_then HB.out HB.out.size HB1.out⟩
  · have h1 : decide (2000 < c) = false := by simpa using hc
    have h2 : decide ((2000 : Int) < (c : Int)) = false := by simp; omega
    go_wp2_with fail
    go_ret
    exact ⟨false, rfl, (fun _ => by have := HI.out.1 (by omega); omega), below_then HB.out HB.out.size HB1.out⟩
end Go.Proofs.YtpdpgppaoipnlaaDoor

