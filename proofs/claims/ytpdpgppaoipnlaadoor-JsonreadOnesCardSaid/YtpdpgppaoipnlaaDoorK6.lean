/- Chapter 13: JsonreadOnes' walk. (Printed by mk13b.py.) -/
import Derived.Test.YtpdpgppaoipnlaaDoorK5
set_option linter.unusedVariables false
set_option linter.unusedSimpArgs false
namespace Go.Proofs.YtpdpgppaoipnlaaDoor
open Go.RowKit Go.PlainAid
open Go.Proofs.YtpdpgppaoipnlaaDoorW.PrintWords hiding bt
open Go.Proofs.YtpdpgppaoipnlaaDoorW.PrintMore

theorem oneRes_open {E : Nat → Addr} {r : JV × Int × Int × Int} {w w' : World} {e : Ending} (h : OneRes E r w e w') :
    ∃ A2 c2 A3 c3 v, e = .returned (.tuple #[.agg #[.int .i64 r.1.kind, .string r.1.text, .slice A2 r.1.list.length c2, .slice A3 r.1.mem.length c3], .int .i64 r.2.1, v]) ∧
      Hid ((jd 32).K w' r.1 (jcells r.1 A2 c2 A3 c3)) ∧ Hid (ErrV E w' v r.2.2.1 r.2.2.2) ∧ Hid (Below w.heap.size w w') := by
  obtain ⟨cs, v, rfl, hM, hE, hB⟩ := h
  obtain ⟨A2, c2, A3, c3, rfl⟩ := jdM_cells hM
  exact ⟨A2, c2, A3, c3, v, rfl, (jd 32).K_of_M hM, hE, hB⟩
theorem One_ok {E : Nat → Addr} (s : ByteArray) (i : Nat) (x : JV) (p : Int) (w : World) (hl : s.size ≤ 100000) (hs : Sents E w) (hi : i ≤ s.size) (h : valAt s 32 i = (x, p, 0)) :
    Calls Tryd.prog 17 #[.string s, .int .i64 i] w fun e w' => ∃ A2 c2 A3 c3, e = .returned (.tuple #[.agg #[.int .i64 x.kind, .string x.text, .slice A2 x.list.length c2, .slice A3 x.mem.length c3], .int .i64 p, .nilIface]) ∧ Hid ((jd 32).K w' x (jcells x A2 c2 A3 c3)) ∧ Hid (Below w.heap.size w w') := by
  refine (One_any s i w hl hs).mono ?_
  intro e w' ht
  rw [valG_in s i hi, h, if_pos rfl] at ht
  obtain ⟨A2, c2, A3, c3, v, rfl, hK, hE, hB⟩ := oneRes_open ht
  obtain ⟨_, rfl⟩ := Or.resolve_right hE.out (fun h => absurd h.1 (show ¬ (1 ≤ (0 : Int)) by omega))
  exact ⟨A2, c2, A3, c3, rfl, hK, hB⟩
theorem One_no {E : Nat → Addr} (s : ByteArray) (i : Int) (p c : Int) (w : World) (hl : s.size ≤ 100000) (hs : Sents E w) (h : valG s i = (jz, 0, p, c)) (hc : c ≠ 0) :
    Calls Tryd.prog 17 #[.string s, .int .i64 i] w fun e w' => ∃ A2 c2 A3 c3 q, e = .returned (.tuple #[.agg #[.int .i64 0, .string ⟨#[]⟩, .slice A2 0 c2, .slice A3 0 c3], .int .i64 0, .iface 69 (.pointer (some q))]) ∧ Hid (ErrV E w' (.iface 69 (.pointer (some q))) p c) ∧ Hid (Below w.heap.size w w') := by
  refine (One_any s i w hl hs).mono ?_
  intro e w' ht
  rw [h] at ht
  obtain ⟨A2, c2, A3, c3, v, rfl, hK, hE, hB⟩ := oneRes_open ht
  obtain ⟨_, _, q, rfl, _, _⟩ := Or.resolve_left hE.out (fun h => hc h.1)
  exact ⟨A2, c2, A3, c3, _, rfl, hE, hB⟩
theorem strG_in (s : ByteArray) (n : Nat) (hn : n ≤ s.size) : strG s n = if (strAt s n).2.2 = 0 then (txtOf (strAt s n).1, (strAt s n).2.1, 0, 0) else (⟨#[]⟩, 0, (strAt s n).2) := by
  unfold strG
  rw [if_neg (by omega), Int.toNat_natCast]
theorem Str_ok {E : Nat → Addr} (s : ByteArray) (i : Nat) (l : List Int) (p : Int) (w : World) (hl : s.size ≤ 100000) (hs : Sents E w) (hi : i ≤ s.size) (h : strAt s i = (l, p, 0)) :
    Calls Tryd.prog 18 #[.string s, .int .i64 i] w fun e w' => e = .returned (.tuple #[.string (txtOf l), .int .i64 p, .nilIface]) ∧ Hid (Below w.heap.size w w') := by
  refine (Str_any s i w hl hs).mono ?_
  intro e w' ht
  rw [strG_in s i hi, h, if_pos rfl] at ht
  obtain ⟨v, rfl, hE, hB⟩ := ht
  obtain ⟨_, rfl⟩ := Or.resolve_right hE (fun h => absurd h.1 (show ¬ (1 ≤ (0 : Int)) by omega))
  exact ⟨rfl, hB⟩
theorem Str_no {E : Nat → Addr} (s : ByteArray) (i : Int) (p c : Int) (w : World) (hl : s.size ≤ 100000) (hs : Sents E w) (h : strG s i = (⟨#[]⟩, 0, p, c)) (hc : c ≠ 0) :
    Calls Tryd.prog 18 #[.string s, .int .i64 i] w fun e w' => ∃ q, e = .returned (.tuple #[.string ⟨#[]⟩, .int .i64 0, .iface 69 (.pointer (some q))]) ∧ Hid (ErrV E w' (.iface 69 (.pointer (some q))) p c) ∧ Hid (Below w.heap.size w w') := by
  refine (Str_any s i w hl hs).mono ?_
  intro e w' ht
  rw [h] at ht
  obtain ⟨v, rfl, hE, hB⟩ := ht
  obtain ⟨_, _, q, rfl, _, _⟩ := Or.resolve_left hE (fun h => hc h.1)
  exact ⟨_, rfl, hE, hB⟩

set_option maxHeartbeats 2000000 in
set_option maxRecDepth 100000 in
theorem ones_long {E : Nat → Addr} (s : ByteArray) (at_ : Int) (w : World) (hs : Sents E w) (hl : 200 < s.size) :
    Calls Tryd.prog 4 #[.string s, .int .i64 at_] w fun e w' => e = .returned (.bool true) ∧ Below w.heap.size w w' := by
  have HAW := Lib.hid (awake13 w hs)
  have h1 : decide (200 < (s.size : Int)) = true := by simp; omega
  have h2 : decide (200 < s.size) = true := by simpa using hl
  clear hs
  go_enter Tryd.func4, Tryd.ntmps4
  go_wp2_with (first | (go_at_call 12; refine HAW.out.mono ?_; rintro e w1 ⟨rfl, HB⟩))
  go_ret
  exact ⟨rfl, HB.out⟩

set_option maxHeartbeats 2000000 in
set_option maxRecDepth 100000 in
theorem ones_out {E : Nat → Addr} (s : ByteArray) (at_ : Int) (w : World) (hs : Sents E w) (hl : s.size ≤ 200) (ho : at_ < 0 ∨ (s.size : Int) < at_) :
    Calls Tryd.prog 4 #[.string s, .int .i64 at_] w fun e w' => e = .returned (.bool true) ∧ Below w.heap.size w w' := by
  have HS := Lib.hid hs
  have HAW := Lib.hid (awake13 w hs)
  have h1 : decide (200 < (s.size : Int)) = false := by simp; omega
  have h2 : decide (200 < s.size) = false := by simp; omega
  have HV : Hid (valG s at_ = (jz, 0, at_, 4)) := by show _ = _; unfold valG; rw [if_pos ho]
  have HT : Hid (strG s at_ = (⟨#[]⟩, 0, at_, 4)) := by show _ = _; unfold strG; rw [if_pos ho]
  have HP : Hid (spaceAt s at_ = at_) := by show _ = _; unfold spaceAt; rw [if_pos ho]
  clear hs
  have key : ∀ b0 : Bool, decide (at_ < 0) = b0 → (b0 = false → decide ((s.size : Int) < at_) = true) → Calls Tryd.prog 4 #[.string s, .int .i64 at_] w fun e w' => e = .returned (.bool true) ∧ Below w.heap.size w w' := by
    intro b0 hb0 hb1
    clear ho
    cases b0 with
    | true =>
      go_enter Tryd.func4, Tryd.ntmps4
      go_wp2_with (first | (go_at_call 12; refine HAW.out.mono ?_; rintro e w1 ⟨rfl, HB⟩))
      refine (One_no (E := E) s at_ at_ 4 _ (by omega) (HS.out.below HB.out) HV.out (by omega)).mono ?_
      rintro e w2 ⟨A2, c2, A3, c3, q, rfl, HE, HB2⟩
      have HB3 := Lib.hid (below_then HB.out HB.out.size HB2.out)
      have H1 : Hid (Row 26 w2.heap.size (leafA 0 ⟨#[]⟩) (w2.alloc (.cells (leafA 0 ⟨#[]⟩) 26))) := Row.new w2 _ _ rfl
      have H1B := Lib.hid ((Below.refl w2.heap.size w2).alloc (Nat.le_refl _) (.cells (leafA 0 ⟨#[]⟩) 26))
      clear HB HB2
      go_wp2_with (first | ((with_reducible refine wpl_put_val (cs := ?_) H1.out rfl ?hx ?hy ?hs ?hz ?_); (case hx => rfl); (case hy => rfl); (case hs => rfl); (case hz => (simp [Value.oneCell']; done)); intro w4 hr4 hw4; have hb4 := hw4.below H1B.out (Nat.le_refl _); have HE4 := Lib.hid (HE.out.below hb4); have HB4 := Lib.hid (below_then HB3.out HB3.out.size hb4); clear hr4 hw4 hb4))
      refine (Str_no (E := E) s at_ at_ 4 _ (by omega) (HS.out.below HB4.out) HT.out (by omega)).mono ?_
      rintro e w5 ⟨q2, rfl, HF, HB5⟩
      have HB6 := Lib.hid (below_then HB4.out HB4.out.size HB5.out)
      have HE6 := Lib.hid (HE4.out.below HB5.out)
      clear HB5 HE4 HB4
      go_wp2_with fail
      refine (Space_any s at_ _ (by omega)).mono ?_
      rintro e w7 ⟨rfl, hb7⟩
      rw [HP.out]
      have HB7 := Lib.hid (below_then HB6.out HB6.out.size hb7)
      have HE7 := Lib.hid (HE6.out.below hb7)
      have HF7 := Lib.hid (HF.out.below hb7)
      clear hb7 HB6 HE6 HF
      go_wp2_with fail
      refine (is_any _ at_ 4 _ (HS.out.below HB7.out) HE7.out).mono ?_
      rintro e w8 ⟨rfl, hb8⟩
      have HB8 := Lib.hid (below_then HB7.out HB7.out.size hb8)
      have HF8 := Lib.hid (HF7.out.below hb8)
      clear hb8 HB7 HE7 HF7
      go_wp2_with fail
      refine (is_any _ at_ 4 _ (HS.out.below HB8.out) HF8.out).mono ?_
      rintro e w9 ⟨rfl, hb9⟩
      have HB9 := Lib.hid (below_then HB8.out HB8.out.size hb9)
      clear hb9
      go_wp2_with fail
      go_ret
      exact ⟨rfl, HB9.out⟩
    | false =>
      have hb2 := hb1 rfl
      clear hb1
      go_enter Tryd.func4, Tryd.ntmps4
      go_wp2_with (first | (go_at_call 12; refine HAW.out.mono ?_; rintro e w1 ⟨rfl, HB⟩))
      refine (One_no (E := E) s at_ at_ 4 _ (by omega) (HS.out.below HB.out) HV.out (by omega)).mono ?_
      rintro e w2 ⟨A2, c2, A3, c3, q, rfl, HE, HB2⟩
      have HB3 := Lib.hid (below_then HB.out HB.out.size HB2.out)
      have H1 : Hid (Row 26 w2.heap.size (leafA 0 ⟨#[]⟩) (w2.alloc (.cells (leafA 0 ⟨#[]⟩) 26))) := Row.new w2 _ _ rfl
      have H1B := Lib.hid ((Below.refl w2.heap.size w2).alloc (Nat.le_refl _) (.cells (leafA 0 ⟨#[]⟩) 26))
      clear HB HB2
      go_wp2_with (first | ((with_reducible refine wpl_put_val (cs := ?_) H1.out rfl ?hx ?hy ?hs ?hz ?_); (case hx => rfl); (case hy => rfl); (case hs => rfl); (case hz => (simp [Value.oneCell']; done)); intro w4 hr4 hw4; have hb4 := hw4.below H1B.out (Nat.le_refl _); have HE4 := Lib.hid (HE.out.below hb4); have HB4 := Lib.hid (below_then HB3.out HB3.out.size hb4); clear hr4 hw4 hb4))
      refine (Str_no (E := E) s at_ at_ 4 _ (by omega) (HS.out.below HB4.out) HT.out (by omega)).mono ?_
      rintro e w5 ⟨q2, rfl, HF, HB5⟩
      have HB6 := Lib.hid (below_then HB4.out HB4.out.size HB5.out)
      have HE6 := Lib.hid (HE4.out.below HB5.out)
      clear HB5 HE4 HB4
      go_wp2_with fail
      refine (Space_any s at_ _ (by omega)).mono ?_
      rintro e w7 ⟨rfl, hb7⟩
      rw [HP.out]
      have HB7 := Lib.hid (below_then HB6.out HB6.out.size hb7)
      have HE7 := Lib.hid (HE6.out.below hb7)
      have HF7 := Lib.hid (HF.out.below hb7)
      clear hb7 HB6 HE6 HF
      go_wp2_with fail
      refine (is_any _ at_ 4 _ (HS.out.below HB7.out) HE7.out).mono ?_
      rintro e w8 ⟨rfl, hb8⟩
      have HB8 := Lib.hid (below_then HB7.out HB7.out.size hb8)
      have HF8 := Lib.hid (HF7.out.below hb8)
      clear hb8 HB7 HE7 HF7
      go_wp2_with fail
      refine (is_any _ at_ 4 _ (HS.out.below HB8.out) HF8.out).mono ?_
      rintro e w9 ⟨rfl, hb9⟩
      have HB9 := Lib.hid (below_then HB8.out HB8.out.size hb9)
      clear hb9
      go_wp2_with fail
      go_ret
      exact ⟨rfl, HB9.out⟩
  exact key _ rfl (fun h => by simp at h ⊢; omega)

set_option maxHeartbeats 2000000 in
set_option maxRecDepth 100000 in
theorem ones_11 {E : Nat → Addr} (s : ByteArray) (i : Nat) (x : JV) (p : Int) (l : List Int) (p2 : Int) (w : World) (hs : Sents E w) (hl : s.size ≤ 200) (hi : i ≤ s.size) (hv : valAt s 32 i = (x, p, 0)) (hz : strAt s i = (l, p2, 0)) :
    Calls Tryd.prog 4 #[.string s, .int .i64 i] w fun e w' => e = .returned (.bool true) ∧ Below w.heap.size w w' := by
  have HS := Lib.hid hs
  have HAW := Lib.hid (awake13 w hs)
  have h1 : decide (200 < (s.size : Int)) = false := by simp; omega
  have h2 : decide (200 < s.size) = false := by simp; omega
  have h3 : decide (s.size < i) = false := by simp; omega
  have h4 : decide ((i : Int) < 0) = false := by simp
  have HP : Hid (spaceAt s i = ((spc s i : Nat) : Int)) := by show _ = _; unfold spaceAt; rw [if_neg (by omega), Int.toNat_natCast]
  have HV := Lib.hid hv
  have HZ := Lib.hid hz
  clear hs hv hz
  go_enter Tryd.func4, Tryd.ntmps4
  go_wp2_with (first | (go_at_call 12; refine HAW.out.mono ?_; rintro e w1 ⟨rfl, HB⟩))
  refine (One_ok (E := E) s i x p _ (by omega) (HS.out.below HB.out) hi HV.out).mono ?_
  rintro e w2 ⟨A2, k2, A3, k3, rfl, HK, HB2⟩
  have HB3 := Lib.hid (below_then HB.out HB.out.size HB2.out)
  have H1 : Hid (Row 26 w2.heap.size (leafA 0 ⟨#[]⟩) (w2.alloc (.cells (leafA 0 ⟨#[]⟩) 26))) := Row.new w2 _ _ rfl
  have H1B := Lib.hid ((Below.refl w2.heap.size w2).alloc (Nat.le_refl _) (.cells (leafA 0 ⟨#[]⟩) 26))
  clear HB HB2
  go_wp2_with (first | ((with_reducible refine wpl_put_val (cs := ?_) H1.out rfl ?hx ?hy ?hs ?hz ?_); (case hx => rfl); (case hy => rfl); (case hs => rfl); (case hz => (simp [Value.oneCell']; done)); intro w4 hr4 hw4; have HR4 := Lib.hid hr4; have hb4 := hw4.below H1B.out (Nat.le_refl _); have HK4 := Lib.hid ((jd 32).K_below hb4 HK.out); have HB4 := Lib.hid (below_then HB3.out HB3.out.size hb4); clear hr4 hw4 hb4))
  refine (Str_ok (E := E) s i l p2 _ (by omega) (HS.out.below HB4.out) hi HZ.out).mono ?_
  rintro e w5 ⟨rfl, hb5⟩
  have HR5 := Lib.hid (HR4.out.below hb5.out)
  have HK5 := Lib.hid ((jd 32).K_below hb5.out HK4.out)
  have HB5 := Lib.hid (below_then HB4.out HB4.out.size hb5.out)
  clear hb5 HB4 HR4
  go_wp2_with fail
  refine (rv_all 32 (by omega) s i _ _ _ rfl (by omega) (by omega) hi).mono ?_
  rintro e w6 ⟨a0, a1, a2, a3, t, rfl, hm6, HC, hb6⟩
  rw [HV.out] at hm6 ⊢
  dsimp only at hm6 ⊢
  have HR6 := Lib.hid (HR5.out.below hb6.out)
  have HK6 := Lib.hid ((jd 32).K_below hb6.out HK5.out)
  have HB6 := Lib.hid (below_then HB5.out HB5.out.size hb6.out)
  have HKg6 := Lib.hid ((jd 32).K_of_M (hm6.out rfl))
  clear hb6 HB5 HR5 hm6
  go_wp2_with fail
  refine (r13_Str s i _ _ rfl (by omega) hi).mono ?_
  rintro e w7 ⟨t2, rfl, ht2, hb7⟩
  rw [HZ.out] at ht2 ⊢
  dsimp only at ht2 ⊢
  have HR7 := Lib.hid (HR6.out.below hb7.out)
  have HK7 := Lib.hid ((jd 32).K_below hb7.out HK6.out)
  have HB7 := Lib.hid (below_then HB6.out HB6.out.size hb7.out)
  have HKg7 := Lib.hid ((jd 32).K_below hb7.out HKg6.out)
  obtain rfl := ht2.out rfl
  clear hb7 HB6 HR6 ht2
  have H8 : Hid (Row 32 w7.heap.size (gotZ 0 0) ((w7.alloc (.cells (gotZ 0 0) 32)).alloc (.cells (gotZ 0 0) 32))) := (Row.new w7 _ _ rfl).old _
  have H9 : Hid (Row 32 (w7.heap.size + 1) (gotZ 0 0) ((w7.alloc (.cells (gotZ 0 0) 32)).alloc (.cells (gotZ 0 0) 32))) := Row.new _ _ _ (by simp)
  have H8R := Lib.hid ((HR7.out.old (.cells (gotZ 0 0) 32)).old (.cells (gotZ 0 0) 32))
  have H8B : Hid (Below w7.heap.size w7 ((w7.alloc (.cells (gotZ 0 0) 32)).alloc (.cells (gotZ 0 0) 32))) := by show Below _ _ _; go_grown
  have hlt7 := HR7.out.lt
  go_wp2_with (first | ((with_reducible refine wpl_put_got (cs := ?_) H8.out rfl ?hx ?hy ?hs ?hz ?_); (case hx => rfl); (case hy => rfl); (case hs => rfl); (case hz => (first | exact one7 HC.out | (simp [Value.oneCell']; done))); intro w8 hr8 hw8; have HG8 := Lib.hid hr8; have HG9 := Lib.hid (hw8.row H9.out (by omega)); have HR8 := Lib.hid (hw8.row H8R.out (by omega)); have HB8 := Lib.hid (hw8.below H8B.out (Nat.le_refl _)); clear hr8 hw8) | ((with_reducible refine wpl_put_got (cs := ?_) HG9.out rfl ?hx ?hy ?hs ?hz ?_); (case hx => rfl); (case hy => rfl); (case hs => rfl); (case hz => (first | exact one7 HC.out | (simp [Value.oneCell']; done))); intro w9 hr9 hw9; have hg8 := hw9.row HG8.out (by omega); have HR9 := hw9.row HR8.out (by omega); have hb9 := hw9.below HB8.out (by omega); have g0 := hg8.cell 0 _ rfl; have g1 := hg8.cell 1 _ rfl; have g2 := hg8.cell 2 _ rfl; have g3 := hg8.cell 3 _ rfl; have g5 := hg8.cell 5 _ rfl; have g6 := hg8.cell 6 _ rfl; have f4 := hr9.cell 4 _ rfl; have f5 := hr9.cell 5 _ rfl; have f6 := hr9.cell 6 _ rfl; have d0 := HR9.cell 0 _ rfl; have d1 := HR9.cell 1 _ rfl; have d2 := HR9.cell 2 _ rfl; have d3 := HR9.cell 3 _ rfl; have HK9 := Lib.hid ((jd 32).K_below hb9 HK7.out); have HKg9 := Lib.hid ((jd 32).K_below hb9 HKg7.out); have HG9' := Lib.hid hr9; have HB9 := Lib.hid (below_then HB7.out HB7.out.size hb9); clear hr9 hw9 hg8 HR9 hb9))
  refine (Same_any x x (jcells x A2 k2 A3 k3) [a0, a1, a2, a3] 32 32 _ HK9.out HKg9.out).mono ?_
  rintro e wa ⟨rfl, hba⟩
  rw [sameV_refl]
  have hba := hba.out
  have HBa := Lib.hid (below_then HB9.out HB9.out.size hba)
  have ga := HG9'.out.below hba
  have j4 := ga.cell 4 _ rfl
  have j5 := ga.cell 5 _ rfl
  have j6 := ga.cell 6 _ rfl
  clear hba ga HG9' g0 g1 g2 g3 g5 g6 f4 f5 f6 d0 d1 d2 d3
  go_wp2_with fail
  have HBb := HBa
  refine (Space_any s i _ (by omega)).mono ?_
  rintro e wc ⟨rfl, hbc⟩
  rw [HP.out]
  have HBc := Lib.hid (below_then HBb.out HBb.out.size hbc)
  clear hbc
  go_wp2_with fail
  refine (r13_Space s i _ _ rfl (by omega) hi).mono ?_
  rintro e wd ⟨rfl, rfl⟩
  go_wp2_with fail
  go_ret
  exact ⟨rfl, HBc.out⟩

set_option maxHeartbeats 2000000 in
set_option maxRecDepth 100000 in
theorem ones_10 {E : Nat → Addr} (s : ByteArray) (i : Nat) (x : JV) (p : Int) (l : List Int) (p2 : Int) (c2 : Int) (w : World) (hs : Sents E w) (hl : s.size ≤ 200) (hi : i ≤ s.size) (hv : valAt s 32 i = (x, p, 0)) (hz : strAt s i = (l, p2, c2)) (hc2 : c2 ≠ 0) :
    Calls Tryd.prog 4 #[.string s, .int .i64 i] w fun e w' => e = .returned (.bool true) ∧ Below w.heap.size w w' := by
  have HS := Lib.hid hs
  have HAW := Lib.hid (awake13 w hs)
  have h1 : decide (200 < (s.size : Int)) = false := by simp; omega
  have h2 : decide (200 < s.size) = false := by simp; omega
  have h3 : decide (s.size < i) = false := by simp; omega
  have h4 : decide ((i : Int) < 0) = false := by simp
  have HP : Hid (spaceAt s i = ((spc s i : Nat) : Int)) := by show _ = _; unfold spaceAt; rw [if_neg (by omega), Int.toNat_natCast]
  have HV := Lib.hid hv
  have HZ := Lib.hid hz
  have HZG : Hid (strG s i = (⟨#[]⟩, 0, p2, c2)) := by show _ = _; rw [strG_in s i hi, hz, if_neg hc2]
  have ed : (c2 != 0) = true := by rw [bne_iff_ne]; exact hc2
  have ed0 : (c2 == 0) = false := by rw [beq_eq_false_iff_ne]; exact hc2
  clear hs hv hz
  go_enter Tryd.func4, Tryd.ntmps4
  go_wp2_with (first | (go_at_call 12; refine HAW.out.mono ?_; rintro e w1 ⟨rfl, HB⟩))
  refine (One_ok (E := E) s i x p _ (by omega) (HS.out.below HB.out) hi HV.out).mono ?_
  rintro e w2 ⟨A2, k2, A3, k3, rfl, HK, HB2⟩
  have HB3 := Lib.hid (below_then HB.out HB.out.size HB2.out)
  have H1 : Hid (Row 26 w2.heap.size (leafA 0 ⟨#[]⟩) (w2.alloc (.cells (leafA 0 ⟨#[]⟩) 26))) := Row.new w2 _ _ rfl
  have H1B := Lib.hid ((Below.refl w2.heap.size w2).alloc (Nat.le_refl _) (.cells (leafA 0 ⟨#[]⟩) 26))
  clear HB HB2
  go_wp2_with (first | ((with_reducible refine wpl_put_val (cs := ?_) H1.out rfl ?hx ?hy ?hs ?hz ?_); (case hx => rfl); (case hy => rfl); (case hs => rfl); (case hz => (simp [Value.oneCell']; done)); intro w4 hr4 hw4; have HR4 := Lib.hid hr4; have hb4 := hw4.below H1B.out (Nat.le_refl _); have HK4 := Lib.hid ((jd 32).K_below hb4 HK.out); have HB4 := Lib.hid (below_then HB3.out HB3.out.size hb4); clear hr4 hw4 hb4))
  have HDN := Lib.hid hc2
  clear hc2
  refine (Str_no (E := E) s i p2 c2 _ (by omega) (HS.out.below HB4.out) HZG.out HDN.out).mono ?_
  rintro e w5 ⟨q2, rfl, HF5, hb5⟩
  have HR5 := Lib.hid (HR4.out.below hb5.out)
  have HK5 := Lib.hid ((jd 32).K_below hb5.out HK4.out)
  have HB5 := Lib.hid (below_then HB4.out HB4.out.size hb5.out)
  clear hb5 HB4 HR4
  go_wp2_with fail
  refine (rv_all 32 (by omega) s i _ _ _ rfl (by omega) (by omega) hi).mono ?_
  rintro e w6 ⟨a0, a1, a2, a3, t, rfl, hm6, HC, hb6⟩
  rw [HV.out] at hm6 ⊢
  dsimp only at hm6 ⊢
  have HR6 := Lib.hid (HR5.out.below hb6.out)
  have HK6 := Lib.hid ((jd 32).K_below hb6.out HK5.out)
  have HB6 := Lib.hid (below_then HB5.out HB5.out.size hb6.out)
  have HKg6 := Lib.hid ((jd 32).K_of_M (hm6.out rfl))
  have HF6 := Lib.hid (HF5.out.below hb6.out)
  clear hb6 HB5 HR5 hm6
  go_wp2_with fail
  refine (r13_Str s i _ _ rfl (by omega) hi).mono ?_
  rintro e w7 ⟨t2, rfl, ht2, hb7⟩
  rw [HZ.out] at ht2 ⊢
  dsimp only at ht2 ⊢
  have HR7 := Lib.hid (HR6.out.below hb7.out)
  have HK7 := Lib.hid ((jd 32).K_below hb7.out HK6.out)
  have HB7 := Lib.hid (below_then HB6.out HB6.out.size hb7.out)
  have HKg7 := Lib.hid ((jd 32).K_below hb7.out HKg6.out)
  have HF7 := Lib.hid (HF6.out.below hb7.out)
  clear hb7 HB6 HR6 ht2
  have H8 : Hid (Row 32 w7.heap.size (gotZ 0 0) ((w7.alloc (.cells (gotZ 0 0) 32)).alloc (.cells (gotZ 0 0) 32))) := (Row.new w7 _ _ rfl).old _
  have H9 : Hid (Row 32 (w7.heap.size + 1) (gotZ 0 0) ((w7.alloc (.cells (gotZ 0 0) 32)).alloc (.cells (gotZ 0 0) 32))) := Row.new _ _ _ (by simp)
  have H8R := Lib.hid ((HR7.out.old (.cells (gotZ 0 0) 32)).old (.cells (gotZ 0 0) 32))
  have H8B : Hid (Below w7.heap.size w7 ((w7.alloc (.cells (gotZ 0 0) 32)).alloc (.cells (gotZ 0 0) 32))) := by show Below _ _ _; go_grown
  have hlt7 := HR7.out.lt
  go_wp2_with (first | ((with_reducible refine wpl_put_got (cs := ?_) H8.out rfl ?hx ?hy ?hs ?hz ?_); (case hx => rfl); (case hy => rfl); (case hs => rfl); (case hz => (first | exact one7 HC.out | (simp [Value.oneCell']; done))); intro w8 hr8 hw8; have HG8 := Lib.hid hr8; have HG9 := Lib.hid (hw8.row H9.out (by omega)); have HR8 := Lib.hid (hw8.row H8R.out (by omega)); have HB8 := Lib.hid (hw8.below H8B.out (Nat.le_refl _)); clear hr8 hw8) | ((with_reducible refine wpl_put_got (cs := ?_) HG9.out rfl ?hx ?hy ?hs ?hz ?_); (case hx => rfl); (case hy => rfl); (case hs => rfl); (case hz => (first | exact one7 HC.out | (simp [Value.oneCell']; done))); intro w9 hr9 hw9; have hg8 := hw9.row HG8.out (by omega); have HR9 := hw9.row HR8.out (by omega); have hb9 := hw9.below HB8.out (by omega); have g0 := hg8.cell 0 _ rfl; have g1 := hg8.cell 1 _ rfl; have g2 := hg8.cell 2 _ rfl; have g3 := hg8.cell 3 _ rfl; have g5 := hg8.cell 5 _ rfl; have g6 := hg8.cell 6 _ rfl; have f4 := hr9.cell 4 _ rfl; have f5 := hr9.cell 5 _ rfl; have f6 := hr9.cell 6 _ rfl; have d0 := HR9.cell 0 _ rfl; have d1 := HR9.cell 1 _ rfl; have d2 := HR9.cell 2 _ rfl; have d3 := HR9.cell 3 _ rfl; have HK9 := Lib.hid ((jd 32).K_below hb9 HK7.out); have HKg9 := Lib.hid ((jd 32).K_below hb9 HKg7.out); have HF9 := Lib.hid (HF7.out.below hb9); have HG9' := Lib.hid hr9; have HB9 := Lib.hid (below_then HB7.out HB7.out.size hb9); clear hr9 hw9 hg8 HR9 hb9))
  refine (Same_any x x (jcells x A2 k2 A3 k3) [a0, a1, a2, a3] 32 32 _ HK9.out HKg9.out).mono ?_
  rintro e wa ⟨rfl, hba⟩
  rw [sameV_refl]
  have hba := hba.out
  have HBa := Lib.hid (below_then HB9.out HB9.out.size hba)
  have ga := HG9'.out.below hba
  have j4 := ga.cell 4 _ rfl
  have j5 := ga.cell 5 _ rfl
  have j6 := ga.cell 6 _ rfl
  have HFa := Lib.hid (HF9.out.below hba)
  have HGa := Lib.hid ga
  clear hba ga HG9' g0 g1 g2 g3 g5 g6 f4 f5 f6 d0 d1 d2 d3
  go_wp2_with fail
  refine (is_any _ p2 c2 _ (HS.out.below HBa.out) HFa.out).mono ?_
  rintro e wb ⟨rfl, hbb⟩
  have HBb := Lib.hid (below_then HBa.out HBa.out.size hbb)
  have m6b := (HGa.out.below hbb).cell 6 _ rfl
  clear hbb HBa HGa
  go_wp2_with fail
  refine (Space_any s i _ (by omega)).mono ?_
  rintro e wc ⟨rfl, hbc⟩
  rw [HP.out]
  have HBc := Lib.hid (below_then HBb.out HBb.out.size hbc)
  clear hbc
  go_wp2_with fail
  refine (r13_Space s i _ _ rfl (by omega) hi).mono ?_
  rintro e wd ⟨rfl, rfl⟩
  go_wp2_with fail
  go_ret
  exact ⟨rfl, HBc.out⟩

set_option maxHeartbeats 2000000 in
set_option maxRecDepth 100000 in
theorem ones_01 {E : Nat → Addr} (s : ByteArray) (i : Nat) (x : JV) (p : Int) (l : List Int) (p2 : Int) (c : Int) (w : World) (hs : Sents E w) (hl : s.size ≤ 200) (hi : i ≤ s.size) (hv : valAt s 32 i = (x, p, c)) (hz : strAt s i = (l, p2, 0)) (hc : c ≠ 0) :
    Calls Tryd.prog 4 #[.string s, .int .i64 i] w fun e w' => e = .returned (.bool true) ∧ Below w.heap.size w w' := by
  have HS := Lib.hid hs
  have HAW := Lib.hid (awake13 w hs)
  have h1 : decide (200 < (s.size : Int)) = false := by simp; omega
  have h2 : decide (200 < s.size) = false := by simp; omega
  have h3 : decide (s.size < i) = false := by simp; omega
  have h4 : decide ((i : Int) < 0) = false := by simp
  have HP : Hid (spaceAt s i = ((spc s i : Nat) : Int)) := by show _ = _; unfold spaceAt; rw [if_neg (by omega), Int.toNat_natCast]
  have HV := Lib.hid hv
  have HZ := Lib.hid hz
  have HVG : Hid (valG s i = (jz, 0, p, c)) := by show _ = _; rw [valG_in s i hi, hv, if_neg hc]
  have ec : (c != 0) = true := by rw [bne_iff_ne]; exact hc
  have ec0 : (c == 0) = false := by rw [beq_eq_false_iff_ne]; exact hc
  clear hs hv hz
  go_enter Tryd.func4, Tryd.ntmps4
  go_wp2_with (first | (go_at_call 12; refine HAW.out.mono ?_; rintro e w1 ⟨rfl, HB⟩))
  have HCN := Lib.hid hc
  clear hc
  refine (One_no (E := E) s i p c _ (by omega) (HS.out.below HB.out) HVG.out HCN.out).mono ?_
  rintro e w2 ⟨A2, k2, A3, k3, q, rfl, HE, HB2⟩
  have HB3 := Lib.hid (below_then HB.out HB.out.size HB2.out)
  have H1 : Hid (Row 26 w2.heap.size (leafA 0 ⟨#[]⟩) (w2.alloc (.cells (leafA 0 ⟨#[]⟩) 26))) := Row.new w2 _ _ rfl
  have H1B := Lib.hid ((Below.refl w2.heap.size w2).alloc (Nat.le_refl _) (.cells (leafA 0 ⟨#[]⟩) 26))
  clear HB HB2
  go_wp2_with (first | ((with_reducible refine wpl_put_val (cs := ?_) H1.out rfl ?hx ?hy ?hs ?hz ?_); (case hx => rfl); (case hy => rfl); (case hs => rfl); (case hz => (simp [Value.oneCell']; done)); intro w4 hr4 hw4; have HR4 := Lib.hid hr4; have hb4 := hw4.below H1B.out (Nat.le_refl _); have HE4 := Lib.hid (HE.out.below hb4); have HB4 := Lib.hid (below_then HB3.out HB3.out.size hb4); clear hr4 hw4 hb4))
  refine (Str_ok (E := E) s i l p2 _ (by omega) (HS.out.below HB4.out) hi HZ.out).mono ?_
  rintro e w5 ⟨rfl, hb5⟩
  have HR5 := Lib.hid (HR4.out.below hb5.out)
  have HE5 := Lib.hid (HE4.out.below hb5.out)
  have HB5 := Lib.hid (below_then HB4.out HB4.out.size hb5.out)
  clear hb5 HB4 HR4
  go_wp2_with fail
  refine (rv_all 32 (by omega) s i _ _ _ rfl (by omega) (by omega) hi).mono ?_
  rintro e w6 ⟨a0, a1, a2, a3, t, rfl, hm6, HC, hb6⟩
  rw [HV.out] at hm6 ⊢
  dsimp only at hm6 ⊢
  have HR6 := Lib.hid (HR5.out.below hb6.out)
  have HE6 := Lib.hid (HE5.out.below hb6.out)
  have HB6 := Lib.hid (below_then HB5.out HB5.out.size hb6.out)
  clear hb6 HB5 HR5 hm6
  go_wp2_with fail
  refine (r13_Str s i _ _ rfl (by omega) hi).mono ?_
  rintro e w7 ⟨t2, rfl, ht2, hb7⟩
  rw [HZ.out] at ht2 ⊢
  dsimp only at ht2 ⊢
  have HR7 := Lib.hid (HR6.out.below hb7.out)
  have HE7 := Lib.hid (HE6.out.below hb7.out)
  have HB7 := Lib.hid (below_then HB6.out HB6.out.size hb7.out)
  obtain rfl := ht2.out rfl
  clear hb7 HB6 HR6 ht2
  have H8 : Hid (Row 32 w7.heap.size (gotZ 0 0) ((w7.alloc (.cells (gotZ 0 0) 32)).alloc (.cells (gotZ 0 0) 32))) := (Row.new w7 _ _ rfl).old _
  have H9 : Hid (Row 32 (w7.heap.size + 1) (gotZ 0 0) ((w7.alloc (.cells (gotZ 0 0) 32)).alloc (.cells (gotZ 0 0) 32))) := Row.new _ _ _ (by simp)
  have H8R := Lib.hid ((HR7.out.old (.cells (gotZ 0 0) 32)).old (.cells (gotZ 0 0) 32))
  have H8B : Hid (Below w7.heap.size w7 ((w7.alloc (.cells (gotZ 0 0) 32)).alloc (.cells (gotZ 0 0) 32))) := by show Below _ _ _; go_grown
  have hlt7 := HR7.out.lt
  go_wp2_with (first | ((with_reducible refine wpl_put_got (cs := ?_) H8.out rfl ?hx ?hy ?hs ?hz ?_); (case hx => rfl); (case hy => rfl); (case hs => rfl); (case hz => (first | exact one7 HC.out | (simp [Value.oneCell']; done))); intro w8 hr8 hw8; have HG8 := Lib.hid hr8; have HG9 := Lib.hid (hw8.row H9.out (by omega)); have HR8 := Lib.hid (hw8.row H8R.out (by omega)); have HB8 := Lib.hid (hw8.below H8B.out (Nat.le_refl _)); clear hr8 hw8) | ((with_reducible refine wpl_put_got (cs := ?_) HG9.out rfl ?hx ?hy ?hs ?hz ?_); (case hx => rfl); (case hy => rfl); (case hs => rfl); (case hz => (first | exact one7 HC.out | (simp [Value.oneCell']; done))); intro w9 hr9 hw9; have hg8 := hw9.row HG8.out (by omega); have HR9 := hw9.row HR8.out (by omega); have hb9 := hw9.below HB8.out (by omega); have g0 := hg8.cell 0 _ rfl; have g1 := hg8.cell 1 _ rfl; have g2 := hg8.cell 2 _ rfl; have g3 := hg8.cell 3 _ rfl; have g5 := hg8.cell 5 _ rfl; have g6 := hg8.cell 6 _ rfl; have f4 := hr9.cell 4 _ rfl; have f5 := hr9.cell 5 _ rfl; have f6 := hr9.cell 6 _ rfl; have d0 := HR9.cell 0 _ rfl; have d1 := HR9.cell 1 _ rfl; have d2 := HR9.cell 2 _ rfl; have d3 := HR9.cell 3 _ rfl; have HE9 := Lib.hid (HE7.out.below hb9); have HG9' := Lib.hid hr9; have HB9 := Lib.hid (below_then HB7.out HB7.out.size hb9); have HG8' := Lib.hid hg8; clear hr9 hw9 hg8 HR9 hb9))
  refine (is_any _ p c _ (HS.out.below HB9.out) HE9.out).mono ?_
  rintro e wa ⟨rfl, hba⟩
  have HBa := Lib.hid (below_then HB9.out HB9.out.size hba)
  have ga := HG9'.out.below hba
  have m6 := (HG8'.out.below hba).cell 6 _ rfl
  have j4 := ga.cell 4 _ rfl
  have j5 := ga.cell 5 _ rfl
  have j6 := ga.cell 6 _ rfl
  have HGa := Lib.hid ga
  clear hba ga HG9' HG8' g0 g1 g2 g3 g5 g6 f4 f5 f6 d0 d1 d2 d3
  go_wp2_with fail
  have HBb := HBa
  refine (Space_any s i _ (by omega)).mono ?_
  rintro e wc ⟨rfl, hbc⟩
  rw [HP.out]
  have HBc := Lib.hid (below_then HBb.out HBb.out.size hbc)
  clear hbc
  go_wp2_with fail
  refine (r13_Space s i _ _ rfl (by omega) hi).mono ?_
  rintro e wd ⟨rfl, rfl⟩
  go_wp2_with fail
  go_ret
  exact ⟨rfl, HBc.out⟩

set_option maxHeartbeats 2000000 in
set_option maxRecDepth 100000 in
theorem ones_00 {E : Nat → Addr} (s : ByteArray) (i : Nat) (x : JV) (p : Int) (l : List Int) (p2 : Int) (c : Int) (c2 : Int) (w : World) (hs : Sents E w) (hl : s.size ≤ 200) (hi : i ≤ s.size) (hv : valAt s 32 i = (x, p, c)) (hz : strAt s i = (l, p2, c2)) (hc : c ≠ 0) (hc2 : c2 ≠ 0) :
    Calls Tryd.prog 4 #[.string s, .int .i64 i] w fun e w' => e = .returned (.bool true) ∧ Below w.heap.size w w' := by
  have HS := Lib.hid hs
  have HAW := Lib.hid (awake13 w hs)
  have h1 : decide (200 < (s.size : Int)) = false := by simp; omega
  have h2 : decide (200 < s.size) = false := by simp; omega
  have h3 : decide (s.size < i) = false := by simp; omega
  have h4 : decide ((i : Int) < 0) = false := by simp
  have HP : Hid (spaceAt s i = ((spc s i : Nat) : Int)) := by show _ = _; unfold spaceAt; rw [if_neg (by omega), Int.toNat_natCast]
  have HV := Lib.hid hv
  have HZ := Lib.hid hz
  have HVG : Hid (valG s i = (jz, 0, p, c)) := by show _ = _; rw [valG_in s i hi, hv, if_neg hc]
  have ec : (c != 0) = true := by rw [bne_iff_ne]; exact hc
  have ec0 : (c == 0) = false := by rw [beq_eq_false_iff_ne]; exact hc
  have HZG : Hid (strG s i = (⟨#[]⟩, 0, p2, c2)) := by show _ = _; rw [strG_in s i hi, hz, if_neg hc2]
  have ed : (c2 != 0) = true := by rw [bne_iff_ne]; exact hc2
  have ed0 : (c2 == 0) = false := by rw [beq_eq_false_iff_ne]; exact hc2
  clear hs hv hz
  go_enter Tryd.func4, Tryd.ntmps4
  go_wp2_with (first | (go_at_call 12; refine HAW.out.mono ?_; rintro e w1 ⟨rfl, HB⟩))
  have HCN := Lib.hid hc
  clear hc
  refine (One_no (E := E) s i p c _ (by omega) (HS.out.below HB.out) HVG.out HCN.out).mono ?_
  rintro e w2 ⟨A2, k2, A3, k3, q, rfl, HE, HB2⟩
  have HB3 := Lib.hid (below_then HB.out HB.out.size HB2.out)
  have H1 : Hid (Row 26 w2.heap.size (leafA 0 ⟨#[]⟩) (w2.alloc (.cells (leafA 0 ⟨#[]⟩) 26))) := Row.new w2 _ _ rfl
  have H1B := Lib.hid ((Below.refl w2.heap.size w2).alloc (Nat.le_refl _) (.cells (leafA 0 ⟨#[]⟩) 26))
  clear HB HB2
  go_wp2_with (first | ((with_reducible refine wpl_put_val (cs := ?_) H1.out rfl ?hx ?hy ?hs ?hz ?_); (case hx => rfl); (case hy => rfl); (case hs => rfl); (case hz => (simp [Value.oneCell']; done)); intro w4 hr4 hw4; have HR4 := Lib.hid hr4; have hb4 := hw4.below H1B.out (Nat.le_refl _); have HE4 := Lib.hid (HE.out.below hb4); have HB4 := Lib.hid (below_then HB3.out HB3.out.size hb4); clear hr4 hw4 hb4))
  have HDN := Lib.hid hc2
  clear hc2
  refine (Str_no (E := E) s i p2 c2 _ (by omega) (HS.out.below HB4.out) HZG.out HDN.out).mono ?_
  rintro e w5 ⟨q2, rfl, HF5, hb5⟩
  have HR5 := Lib.hid (HR4.out.below hb5.out)
  have HE5 := Lib.hid (HE4.out.below hb5.out)
  have HB5 := Lib.hid (below_then HB4.out HB4.out.size hb5.out)
  clear hb5 HB4 HR4
  go_wp2_with fail
  refine (rv_all 32 (by omega) s i _ _ _ rfl (by omega) (by omega) hi).mono ?_
  rintro e w6 ⟨a0, a1, a2, a3, t, rfl, hm6, HC, hb6⟩
  rw [HV.out] at hm6 ⊢
  dsimp only at hm6 ⊢
  have HR6 := Lib.hid (HR5.out.below hb6.out)
  have HE6 := Lib.hid (HE5.out.below hb6.out)
  have HB6 := Lib.hid (below_then HB5.out HB5.out.size hb6.out)
  have HF6 := Lib.hid (HF5.out.below hb6.out)
  clear hb6 HB5 HR5 hm6
  go_wp2_with fail
  refine (r13_Str s i _ _ rfl (by omega) hi).mono ?_
  rintro e w7 ⟨t2, rfl, ht2, hb7⟩
  rw [HZ.out] at ht2 ⊢
  dsimp only at ht2 ⊢
  have HR7 := Lib.hid (HR6.out.below hb7.out)
  have HE7 := Lib.hid (HE6.out.below hb7.out)
  have HB7 := Lib.hid (below_then HB6.out HB6.out.size hb7.out)
  have HF7 := Lib.hid (HF6.out.below hb7.out)
  clear hb7 HB6 HR6 ht2
  have H8 : Hid (Row 32 w7.heap.size (gotZ 0 0) ((w7.alloc (.cells (gotZ 0 0) 32)).alloc (.cells (gotZ 0 0) 32))) := (Row.new w7 _ _ rfl).old _
  have H9 : Hid (Row 32 (w7.heap.size + 1) (gotZ 0 0) ((w7.alloc (.cells (gotZ 0 0) 32)).alloc (.cells (gotZ 0 0) 32))) := Row.new _ _ _ (by simp)
  have H8R := Lib.hid ((HR7.out.old (.cells (gotZ 0 0) 32)).old (.cells (gotZ 0 0) 32))
  have H8B : Hid (Below w7.heap.size w7 ((w7.alloc (.cells (gotZ 0 0) 32)).alloc (.cells (gotZ 0 0) 32))) := by show Below _ _ _; go_grown
  have hlt7 := HR7.out.lt
  go_wp2_with (first | ((with_reducible refine wpl_put_got (cs := ?_) H8.out rfl ?hx ?hy ?hs ?hz ?_); (case hx => rfl); (case hy => rfl); (case hs => rfl); (case hz => (first | exact one7 HC.out | (simp [Value.oneCell']; done))); intro w8 hr8 hw8; have HG8 := Lib.hid hr8; have HG9 := Lib.hid (hw8.row H9.out (by omega)); have HR8 := Lib.hid (hw8.row H8R.out (by omega)); have HB8 := Lib.hid (hw8.below H8B.out (Nat.le_refl _)); clear hr8 hw8) | ((with_reducible refine wpl_put_got (cs := ?_) HG9.out rfl ?hx ?hy ?hs ?hz ?_); (case hx => rfl); (case hy => rfl); (case hs => rfl); (case hz => (first | exact one7 HC.out | (simp [Value.oneCell']; done))); intro w9 hr9 hw9; have hg8 := hw9.row HG8.out (by omega); have HR9 := hw9.row HR8.out (by omega); have hb9 := hw9.below HB8.out (by omega); have g0 := hg8.cell 0 _ rfl; have g1 := hg8.cell 1 _ rfl; have g2 := hg8.cell 2 _ rfl; have g3 := hg8.cell 3 _ rfl; have g5 := hg8.cell 5 _ rfl; have g6 := hg8.cell 6 _ rfl; have f4 := hr9.cell 4 _ rfl; have f5 := hr9.cell 5 _ rfl; have f6 := hr9.cell 6 _ rfl; have d0 := HR9.cell 0 _ rfl; have d1 := HR9.cell 1 _ rfl; have d2 := HR9.cell 2 _ rfl; have d3 := HR9.cell 3 _ rfl; have HE9 := Lib.hid (HE7.out.below hb9); have HF9 := Lib.hid (HF7.out.below hb9); have HG9' := Lib.hid hr9; have HB9 := Lib.hid (below_then HB7.out HB7.out.size hb9); have HG8' := Lib.hid hg8; clear hr9 hw9 hg8 HR9 hb9))
  refine (is_any _ p c _ (HS.out.below HB9.out) HE9.out).mono ?_
  rintro e wa ⟨rfl, hba⟩
  have HBa := Lib.hid (below_then HB9.out HB9.out.size hba)
  have ga := HG9'.out.below hba
  have m6 := (HG8'.out.below hba).cell 6 _ rfl
  have j4 := ga.cell 4 _ rfl
  have j5 := ga.cell 5 _ rfl
  have j6 := ga.cell 6 _ rfl
  have HFa := Lib.hid (HF9.out.below hba)
  have HGa := Lib.hid ga
  clear hba ga HG9' HG8' g0 g1 g2 g3 g5 g6 f4 f5 f6 d0 d1 d2 d3
  go_wp2_with fail
  refine (is_any _ p2 c2 _ (HS.out.below HBa.out) HFa.out).mono ?_
  rintro e wb ⟨rfl, hbb⟩
  have HBb := Lib.hid (below_then HBa.out HBa.out.size hbb)
  have m6b := (HGa.out.below hbb).cell 6 _ rfl
  clear hbb HBa HGa
  clear m6
  go_wp2_with fail
  refine (Space_any s i _ (by omega)).mono ?_
  rintro e wc ⟨rfl, hbc⟩
  rw [HP.out]
  have HBc := Lib.hid (below_then HBb.out HBb.out.size hbc)
  clear hbc
  go_wp2_with fail
  refine (r13_Space s i _ _ rfl (by omega) hi).mono ?_
  rintro e wd ⟨rfl, rfl⟩
  go_wp2_with fail
  go_ret
  exact ⟨rfl, HBc.out⟩

theorem jsonreadOnes_walk {E : Nat → Addr} (s : ByteArray) (at_ : Int) (w : World) (hs : Sents E w) :
    Calls Tryd.prog 4 #[.string s, .int .i64 at_] w fun e w' => e = .returned (.bool true) ∧ Below w.heap.size w w' := by
  by_cases hl : 200 < s.size
  · exact ones_long s at_ w hs hl
  · by_cases ho : at_ < 0 ∨ (s.size : Int) < at_
    · exact ones_out s at_ w hs (by omega) ho
    · obtain ⟨i, rfl⟩ : ∃ i : Nat, at_ = i := ⟨at_.toNat, by omega⟩
      obtain ⟨x, p, c, hv⟩ : ∃ x p c, valAt s 32 i = (x, p, c) := ⟨_, _, _, rfl⟩
      obtain ⟨l, p2, c2, hz⟩ : ∃ l p2 c2, strAt s i = (l, p2, c2) := ⟨_, _, _, rfl⟩
      by_cases hc : c = 0
      · subst hc
        by_cases hc2 : c2 = 0
        · subst hc2
          exact ones_11 s i x p l p2 w hs (by omega) (by omega) hv hz
        · exact ones_10 s i x p l p2 c2 w hs (by omega) (by omega) hv hz hc2
      · by_cases hc2 : c2 = 0
        · subst hc2
          exact ones_01 s i x p l p2 c w hs (by omega) (by omega) hv hz hc
        · exact ones_00 s i x p l p2 c c2 w hs (by omega) (by omega) hv hz hc hc2
end Go.Proofs.YtpdpgppaoipnlaaDoor
