/- The document's answer of chapter 13: a value without others within it. (Printed by rv.py.) Stores after which the world is a letter; the document's Value at a string. The document's answer of chapter 13: an array. (Printed by rva.py.) -/
import Derived.Test.YtpdpgppaoipnlaaDoorK1
import Derived.Test.YtpdpgppaoipnlaaDoorK2
set_option linter.unusedVariables false
set_option linter.unusedSimpArgs false
namespace Go.Proofs.YtpdpgppaoipnlaaDoor
section
open Go.RowKit Go.PlainAid
open Go.Proofs.YtpdpgppaoipnlaaDoorW.PrintWords hiding bt
open Go.Proofs.YtpdpgppaoipnlaaDoorW.PrintMore

theorem jdM_le {n m : Nat} (hnm : n ≤ m) {w : World} {B : Nat} {ok : Nat → Prop} {x : JV} {cs : List Value} (h : (jd n).M w B ok x cs) : (jd m).M w B ok x cs := Kd.upto_M_le jmono jsz hnm h
theorem one7 {a0 a1 a2 a3 : Value} {t : ByteArray} {e c : Int} (h : (#[a0, a1, a2, a3] : Array Value).all (·.oneCell') = true) : (#[a0, a1, a2, a3, .string t, .int .i64 e, .int .i64 c] : Array Value).all (·.oneCell') = true := by
  simp at h
  have h4 : (Value.string t).oneCell' = true := by simp [Value.oneCell']
  have h5 : ∀ x, (Value.int .i64 x).oneCell' = true := fun x => by simp [Value.oneCell']
  simp [h, h4, h5]
/-- The document's reader reads values of so many levels. -/
def RefAll (L : Nat) : Prop := ∀ (s : ByteArray) (i : Nat) (I : Int) (w : World) (lev : Int), I = i → lev = 33 - L → s.size ≤ 100000 → i ≤ s.size →
  Calls Tryd.prog 20 #[.string s, .int .i64 I, .int .i64 lev] w (GotIs L (valAt s L i) w)
theorem GotIs.lift {L M : Nat} {r : JV × Int × Int} {w W w' : World} {a0 a1 a2 a3 : Value} {t : ByteArray} (hLM : L ≤ M) (hW : Below w.heap.size w W) (hw : w.heap.size < W.heap.size)
    (hM : r.2.2 = 0 → (jd L).M w' W.heap.size (fun k => W.heap.size ≤ k) r.1 [a0, a1, a2, a3]) (hC : (#[a0, a1, a2, a3] : Array Value).all (·.oneCell') = true) (hB : Below w.heap.size w w') (ds : Array Value) :
    GotIs M r w (.returned (.agg #[a0, a1, a2, a3, .string t, .int .i64 r.2.1, .int .i64 r.2.2])) (w'.setRow w.heap.size ds) :=
  ⟨_, _, _, _, _, rfl, fun h => (jd M).M_mono (fun k hk => by omega) ((jd M).M_lower (base := W.heap.size) (by omega) ((jd M).M_move (fun k hk => setRow_other _ _ _ _ (by omega)) (jdM_le hLM (hM h)))), hC, below_setRow hB (Nat.le_refl _) _⟩

set_option maxHeartbeats 4000000 in
set_option maxRecDepth 100000 in
theorem rv_end (L : Nat) (s : ByteArray) (i : Nat) (w : World) (lev : Int) (hl : s.size ≤ 100000) (hi : i ≤ s.size) (he : s.size ≤ i) :
    Calls Tryd.prog 20 #[.string s, .int .i64 i, .int .i64 lev] w (GotIs L (valAt s L i) w) := by
  have HA : Hid (valAt s L i = (jz, badAt s i)) := by
    show _ = _
    unfold badAt; rw [if_pos he]
    cases L with
    | zero => unfold valAt; rw [if_pos he]
    | succ L => unfold valAt; rw [if_pos he]
  have h1 : decide (s.size ≤ i) = true := by simpa using he
  have HV0 : Hid (Row 32 w.heap.size (gotZ 0 0) (w.alloc (.cells (gotZ 0 0) 32))) := Row.new w _ _ rfl
  have HB0 : Hid (Below w.heap.size w (w.alloc (.cells (gotZ 0 0) 32))) := (Below.refl _ _).alloc (Nat.le_refl _) _
  clear he
  go_enter Tryd.func20, Tryd.ntmps20
  go_wp2_with fail
  refine (r13_bad s i _ _ rfl (by omega) (by omega)).mono ?_
  rintro e w2 ⟨rfl, hb2⟩
  have HV2 := Lib.hid (HV0.out.below hb2.out)
  have HB2 := Lib.hid (below_then HB0.out HB0.out.size hb2.out)
  have HC : Hid ((#[.int .i64 0, .string ⟨#[]⟩, .slice none 0 0, .slice none 0 0] : Array Value).all (·.oneCell') = true) := (show (_ : Bool) = true by simp [Value.oneCell'])
  clear hb2
  go_wp2_with (first | ((with_reducible refine wpl_store_got (cs := ?_) HV2.out rfl ?hx ?hy ?hs ?hz ?_); (case hx => rfl); (case hy => rfl); (case hs => rfl); (case hz => (first | exact one7 HC.out | (simp [Value.oneCell']; done)))))
  (try simp only [Exit.inBlock, Exit.then])
  refine bodyPost_ret (v := .agg (gotZ (badAt s i).1 (badAt s i).2)) ?_ rfl ?_
  · exact results_got rfl _ _ _ _ rfl HV2.out.set rfl
  · exact GotIs.bad (s := s) (i := i) (x := jz) HA.out ⟨rfl, below_setRow HB2.out (Nat.le_refl _) _⟩

theorem starter_no {b : Int} (h : starter b = false) : (b == 110) = false ∧ (b == 102) = false ∧ (b == 116) = false ∧ (b == 34) = false ∧ (b == 91) = false ∧ (b == 123) = false ∧ (b == 45) = false ∧ isDig b = false := by
  simp [starter] at h
  simp [isDig]
  omega
set_option maxHeartbeats 4000000 in
set_option maxRecDepth 100000 in
theorem rv_not (L : Nat) (s : ByteArray) (i : Nat) (w : World) (lev : Int) (hl : s.size ≤ 100000) (hi : i < s.size) (hst : starter (bt s i) = false) :
    Calls Tryd.prog 20 #[.string s, .int .i64 i, .int .i64 lev] w (GotIs L (valAt s L i) w) := by
  have HA : Hid (valAt s L i = (jz, badAt s i)) := by
    show _ = _
    unfold badAt; rw [if_neg (by omega)]
    cases L with
    | zero => unfold valAt; rw [if_neg (by omega), if_pos hst]
    | succ L => unfold valAt; rw [if_neg (by omega), if_pos hst]
  have h1 : decide (s.size ≤ i) = false := by simpa using hi
  have hbt := get_bt s
  obtain ⟨e110, e102, e116, e34, e91, e123, e45, hd⟩ := starter_no hst
  have hdg : digAt s i = false := by simp [digAt, hd]
  have HD := Lib.hid (fun (W : World) => r13_digit s i i W rfl (by omega) (by omega))
  have HV0 : Hid (Row 32 w.heap.size (gotZ 0 0) (w.alloc (.cells (gotZ 0 0) 32))) := Row.new w _ _ rfl
  have HB0 : Hid (Below w.heap.size w (w.alloc (.cells (gotZ 0 0) 32))) := (Below.refl _ _).alloc (Nat.le_refl _) _
  rw [hdg] at HD
  clear hst hd hdg
  go_enter Tryd.func20, Tryd.ntmps20
  go_wp2_with fail
  refine (HD.out _).mono ?_
  rintro e w1 ⟨rfl, rfl⟩
  go_wp2_with fail
  refine (r13_bad s i _ _ rfl (by omega) (by omega)).mono ?_
  rintro e w2 ⟨rfl, hb2⟩
  have HV2 := Lib.hid (HV0.out.below hb2.out)
  have HB2 := Lib.hid (below_then HB0.out HB0.out.size hb2.out)
  have HC : Hid ((#[.int .i64 0, .string ⟨#[]⟩, .slice none 0 0, .slice none 0 0] : Array Value).all (·.oneCell') = true) := (show (_ : Bool) = true by simp [Value.oneCell'])
  clear hb2
  go_wp2_with (first | ((with_reducible refine wpl_store_got (cs := ?_) HV2.out rfl ?hx ?hy ?hs ?hz ?_); (case hx => rfl); (case hy => rfl); (case hs => rfl); (case hz => (first | exact one7 HC.out | (simp [Value.oneCell']; done)))))
  (try simp only [Exit.inBlock, Exit.then])
  refine bodyPost_ret (v := .agg (gotZ (badAt s i).1 (badAt s i).2)) ?_ rfl ?_
  · exact results_got rfl _ _ _ _ rfl HV2.out.set rfl
  · exact GotIs.bad (s := s) (i := i) (x := jz) HA.out ⟨rfl, below_setRow HB2.out (Nat.le_refl _) _⟩

set_option maxHeartbeats 4000000 in
set_option maxRecDepth 100000 in
theorem rv_null (L : Nat) (s : ByteArray) (i : Nat) (w : World) (lev : Int) (hL : L ≤ 31) (hlev : lev = 32 - L) (hl : s.size ≤ 100000) (hi : i < s.size) (hb : bt s i = 110) :
    Calls Tryd.prog 20 #[.string s, .int .i64 i, .int .i64 lev] w (GotIs (L + 1) (valAt s (L + 1) i) w) := by
  have hst : starter (bt s i) = true := by rw [hb]; rfl
  have HA : Hid (valAt s (L + 1) i = if (wordAt s [110, 117, 108, 108] i).2 = 0 then (⟨0, ⟨#[]⟩, [], []⟩, wordAt s [110, 117, 108, 108] i) else (jz, wordAt s [110, 117, 108, 108] i)) := by
    show _ = _
    rw [valAt_succ s L i hi hst]
    simp [hb]
  clear hst
  have h1 : decide (s.size ≤ i) = false := by simpa using hi
  have hlv : decide (32 < lev) = false := by simp; omega
  have hbt := get_bt s
  have e110 : (bt s i == 110) = true := by rw [hb]; decide
  have e102 : (bt s i == 102) = false := by rw [hb]; decide
  have e116 : (bt s i == 116) = false := by rw [hb]; decide
  have e34 : (bt s i == 34) = false := by rw [hb]; decide
  have e91 : (bt s i == 91) = false := by rw [hb]; decide
  have e123 : (bt s i == 123) = false := by rw [hb]; decide
  have e45 : (bt s i == 45) = false := by rw [hb]; decide
  have n91 : (bt s i != 91) = true := by rw [hb]; decide
  have n123 : (bt s i != 123) = true := by rw [hb]; decide
  have HV0 : Hid (Row 32 w.heap.size (gotZ 0 0) (w.alloc (.cells (gotZ 0 0) 32))) := Row.new w _ _ rfl
  have HB0 : Hid (Below w.heap.size w (w.alloc (.cells (gotZ 0 0) 32))) := (Below.refl _ _).alloc (Nat.le_refl _) _
  clear hb
  go_enter Tryd.func20, Tryd.ntmps20
  go_wp2_with fail
  refine (r13_word s ⟨#[110, 117, 108, 108]⟩ i _ 0 _ rfl (by omega) (by omega) (by decide)).mono ?_
  rintro e w2 ⟨a0, a1, a2, a3, t, rfl, hm, HC, hb2⟩
  have HV2 := Lib.hid (HV0.out.below hb2.out)
  have HB2 := Lib.hid (below_then HB0.out HB0.out.size hb2.out)
  clear hb2
  rw [show ints ⟨#[110, 117, 108, 108]⟩ = [110, 117, 108, 108] from rfl] at hm ⊢
  go_wp2_with (first | ((with_reducible refine wpl_store_got (cs := ?_) HV2.out rfl ?hx ?hy ?hs ?hz ?_); (case hx => rfl); (case hy => rfl); (case hs => rfl); (case hz => (first | exact one7 HC.out | (simp [Value.oneCell']; done)))))
  (try simp only [Exit.inBlock, Exit.then])
  have HA2 : Hid ((valAt s (L + 1) i).2 = wordAt s [110, 117, 108, 108] i ∧ ((wordAt s [110, 117, 108, 108] i).2 = 0 → (valAt s (L + 1) i).1 = ⟨0, ⟨#[]⟩, [], []⟩)) := by
    refine ⟨by rw [HA.out]; split <;> rfl, fun h => by rw [HA.out, if_pos h]⟩
  refine bodyPost_ret (v := .agg #[a0, a1, a2, a3, .string t, .int .i64 (valAt s (L + 1) i).2.1, .int .i64 (valAt s (L + 1) i).2.2]) ?_ rfl ?_
  · rw [HA2.out.1]
    exact results_got rfl _ _ _ _ rfl HV2.out.set rfl
  · refine GotIs.lift (L := 1) (W := w.alloc (.cells (gotZ 0 0) 32)) (by omega) HB0.out (by simp) (fun h => ?_) HC.out HB2.out _
    rw [HA2.out.1] at h
    rw [HA2.out.2 h]
    exact hm.out h

set_option maxHeartbeats 4000000 in
set_option maxRecDepth 100000 in
theorem rv_false (L : Nat) (s : ByteArray) (i : Nat) (w : World) (lev : Int) (hL : L ≤ 31) (hlev : lev = 32 - L) (hl : s.size ≤ 100000) (hi : i < s.size) (hb : bt s i = 102) :
    Calls Tryd.prog 20 #[.string s, .int .i64 i, .int .i64 lev] w (GotIs (L + 1) (valAt s (L + 1) i) w) := by
  have hst : starter (bt s i) = true := by rw [hb]; rfl
  have HA : Hid (valAt s (L + 1) i = if (wordAt s [102, 97, 108, 115, 101] i).2 = 0 then (⟨1, ⟨#[]⟩, [], []⟩, wordAt s [102, 97, 108, 115, 101] i) else (jz, wordAt s [102, 97, 108, 115, 101] i)) := by
    show _ = _
    rw [valAt_succ s L i hi hst]
    simp [hb]
  clear hst
  have h1 : decide (s.size ≤ i) = false := by simpa using hi
  have hlv : decide (32 < lev) = false := by simp; omega
  have hbt := get_bt s
  have e110 : (bt s i == 110) = false := by rw [hb]; decide
  have e102 : (bt s i == 102) = true := by rw [hb]; decide
  have e116 : (bt s i == 116) = false := by rw [hb]; decide
  have e34 : (bt s i == 34) = false := by rw [hb]; decide
  have e91 : (bt s i == 91) = false := by rw [hb]; decide
  have e123 : (bt s i == 123) = false := by rw [hb]; decide
  have e45 : (bt s i == 45) = false := by rw [hb]; decide
  have n91 : (bt s i != 91) = true := by rw [hb]; decide
  have n123 : (bt s i != 123) = true := by rw [hb]; decide
  have HV0 : Hid (Row 32 w.heap.size (gotZ 0 0) (w.alloc (.cells (gotZ 0 0) 32))) := Row.new w _ _ rfl
  have HB0 : Hid (Below w.heap.size w (w.alloc (.cells (gotZ 0 0) 32))) := (Below.refl _ _).alloc (Nat.le_refl _) _
  clear hb
  go_enter Tryd.func20, Tryd.ntmps20
  go_wp2_with fail
  refine (r13_word s ⟨#[102, 97, 108, 115, 101]⟩ i _ 1 _ rfl (by omega) (by omega) (by decide)).mono ?_
  rintro e w2 ⟨a0, a1, a2, a3, t, rfl, hm, HC, hb2⟩
  have HV2 := Lib.hid (HV0.out.below hb2.out)
  have HB2 := Lib.hid (below_then HB0.out HB0.out.size hb2.out)
  clear hb2
  rw [show ints ⟨#[102, 97, 108, 115, 101]⟩ = [102, 97, 108, 115, 101] from rfl] at hm ⊢
  go_wp2_with (first | ((with_reducible refine wpl_store_got (cs := ?_) HV2.out rfl ?hx ?hy ?hs ?hz ?_); (case hx => rfl); (case hy => rfl); (case hs => rfl); (case hz => (first | exact one7 HC.out | (simp [Value.oneCell']; done)))))
  (try simp only [Exit.inBlock, Exit.then])
  have HA2 : Hid ((valAt s (L + 1) i).2 = wordAt s [102, 97, 108, 115, 101] i ∧ ((wordAt s [102, 97, 108, 115, 101] i).2 = 0 → (valAt s (L + 1) i).1 = ⟨1, ⟨#[]⟩, [], []⟩)) := by
    refine ⟨by rw [HA.out]; split <;> rfl, fun h => by rw [HA.out, if_pos h]⟩
  refine bodyPost_ret (v := .agg #[a0, a1, a2, a3, .string t, .int .i64 (valAt s (L + 1) i).2.1, .int .i64 (valAt s (L + 1) i).2.2]) ?_ rfl ?_
  · rw [HA2.out.1]
    exact results_got rfl _ _ _ _ rfl HV2.out.set rfl
  · refine GotIs.lift (L := 1) (W := w.alloc (.cells (gotZ 0 0) 32)) (by omega) HB0.out (by simp) (fun h => ?_) HC.out HB2.out _
    rw [HA2.out.1] at h
    rw [HA2.out.2 h]
    exact hm.out h

set_option maxHeartbeats 4000000 in
set_option maxRecDepth 100000 in
theorem rv_true (L : Nat) (s : ByteArray) (i : Nat) (w : World) (lev : Int) (hL : L ≤ 31) (hlev : lev = 32 - L) (hl : s.size ≤ 100000) (hi : i < s.size) (hb : bt s i = 116) :
    Calls Tryd.prog 20 #[.string s, .int .i64 i, .int .i64 lev] w (GotIs (L + 1) (valAt s (L + 1) i) w) := by
  have hst : starter (bt s i) = true := by rw [hb]; rfl
  have HA : Hid (valAt s (L + 1) i = if (wordAt s [116, 114, 117, 101] i).2 = 0 then (⟨2, ⟨#[]⟩, [], []⟩, wordAt s [116, 114, 117, 101] i) else (jz, wordAt s [116, 114, 117, 101] i)) := by
    show _ = _
    rw [valAt_succ s L i hi hst]
    simp [hb]
  clear hst
  have h1 : decide (s.size ≤ i) = false := by simpa using hi
  have hlv : decide (32 < lev) = false := by simp; omega
  have hbt := get_bt s
  have e110 : (bt s i == 110) = false := by rw [hb]; decide
  have e102 : (bt s i == 102) = false := by rw [hb]; decide
  have e116 : (bt s i == 116) = true := by rw [hb]; decide
  have e34 : (bt s i == 34) = false := by rw [hb]; decide
  have e91 : (bt s i == 91) = false := by rw [hb]; decide
  have e123 : (bt s i == 123) = false := by rw [hb]; decide
  have e45 : (bt s i == 45) = false := by rw [hb]; decide
  have n91 : (bt s i != 91) = true := by rw [hb]; decide
  have n123 : (bt s i != 123) = true := by rw [hb]; decide
  have HV0 : Hid (Row 32 w.heap.size (gotZ 0 0) (w.alloc (.cells (gotZ 0 0) 32))) := Row.new w _ _ rfl
  have HB0 : Hid (Below w.heap.size w (w.alloc (.cells (gotZ 0 0) 32))) := (Below.refl _ _).alloc (Nat.le_refl _) _
  clear hb
  go_enter Tryd.func20, Tryd.ntmps20
  go_wp2_with fail
  refine (r13_word s ⟨#[116, 114, 117, 101]⟩ i _ 2 _ rfl (by omega) (by omega) (by decide)).mono ?_
  rintro e w2 ⟨a0, a1, a2, a3, t, rfl, hm, HC, hb2⟩
  have HV2 := Lib.hid (HV0.out.below hb2.out)
  have HB2 := Lib.hid (below_then HB0.out HB0.out.size hb2.out)
  clear hb2
  rw [show ints ⟨#[116, 114, 117, 101]⟩ = [116, 114, 117, 101] from rfl] at hm ⊢
  go_wp2_with (first | ((with_reducible refine wpl_store_got (cs := ?_) HV2.out rfl ?hx ?hy ?hs ?hz ?_); (case hx => rfl); (case hy => rfl); (case hs => rfl); (case hz => (first | exact one7 HC.out | (simp [Value.oneCell']; done)))))
  (try simp only [Exit.inBlock, Exit.then])
  have HA2 : Hid ((valAt s (L + 1) i).2 = wordAt s [116, 114, 117, 101] i ∧ ((wordAt s [116, 114, 117, 101] i).2 = 0 → (valAt s (L + 1) i).1 = ⟨2, ⟨#[]⟩, [], []⟩)) := by
    refine ⟨by rw [HA.out]; split <;> rfl, fun h => by rw [HA.out, if_pos h]⟩
  refine bodyPost_ret (v := .agg #[a0, a1, a2, a3, .string t, .int .i64 (valAt s (L + 1) i).2.1, .int .i64 (valAt s (L + 1) i).2.2]) ?_ rfl ?_
  · rw [HA2.out.1]
    exact results_got rfl _ _ _ _ rfl HV2.out.set rfl
  · refine GotIs.lift (L := 1) (W := w.alloc (.cells (gotZ 0 0) 32)) (by omega) HB0.out (by simp) (fun h => ?_) HC.out HB2.out _
    rw [HA2.out.1] at h
    rw [HA2.out.2 h]
    exact hm.out h

set_option maxHeartbeats 4000000 in
set_option maxRecDepth 100000 in
theorem rv_minus (L : Nat) (s : ByteArray) (i : Nat) (w : World) (lev : Int) (hL : L ≤ 31) (hlev : lev = 32 - L) (hl : s.size ≤ 100000) (hi : i < s.size) (hb : bt s i = 45) :
    Calls Tryd.prog 20 #[.string s, .int .i64 i, .int .i64 lev] w (GotIs (L + 1) (valAt s (L + 1) i) w) := by
  have hst : starter (bt s i) = true := by simp [starter]; omega
  have HA : Hid (valAt s (L + 1) i = if (numAt s i).2 = 0 then numG s i else (jz, numAt s i)) := by
    show _ = _
    rw [valAt_succ s L i hi hst, if_neg (by omega), if_neg (by omega), if_neg (by omega), if_neg (by omega), if_neg (by omega), if_neg (by omega)]
    rfl
  clear hst
  have h1 : decide (s.size ≤ i) = false := by simpa using hi
  have hlv : decide (32 < lev) = false := by simp; omega
  have hbt := get_bt s
  have e110 : (bt s i == 110) = false := by rw [beq_eq_false_iff_ne]; omega
  have e102 : (bt s i == 102) = false := by rw [beq_eq_false_iff_ne]; omega
  have e116 : (bt s i == 116) = false := by rw [beq_eq_false_iff_ne]; omega
  have e34 : (bt s i == 34) = false := by rw [beq_eq_false_iff_ne]; omega
  have e91 : (bt s i == 91) = false := by rw [beq_eq_false_iff_ne]; omega
  have e123 : (bt s i == 123) = false := by rw [beq_eq_false_iff_ne]; omega
  have n91 : (bt s i != 91) = true := by rw [bne_iff_ne]; omega
  have n123 : (bt s i != 123) = true := by rw [bne_iff_ne]; omega
  have e45 : (bt s i == 45) = true := by rw [hb]; decide
  have HV0 : Hid (Row 32 w.heap.size (gotZ 0 0) (w.alloc (.cells (gotZ 0 0) 32))) := Row.new w _ _ rfl
  have HB0 : Hid (Below w.heap.size w (w.alloc (.cells (gotZ 0 0) 32))) := (Below.refl _ _).alloc (Nat.le_refl _) _
  clear hb
  go_enter Tryd.func20, Tryd.ntmps20
  go_wp2_with fail
  refine (r13_number s i _ _ rfl (by omega) (by omega)).mono ?_
  rintro e w2 ⟨a0, a1, a2, a3, t, rfl, hm, HC, hb2⟩
  have HV2 := Lib.hid (HV0.out.below hb2.out)
  have HB2 := Lib.hid (below_then HB0.out HB0.out.size hb2.out)
  clear hb2
  go_wp2_with (first | ((with_reducible refine wpl_store_got (cs := ?_) HV2.out rfl ?hx ?hy ?hs ?hz ?_); (case hx => rfl); (case hy => rfl); (case hs => rfl); (case hz => (first | exact one7 HC.out | (simp [Value.oneCell']; done)))))
  (try simp only [Exit.inBlock, Exit.then])
  have HA2 : Hid ((valAt s (L + 1) i).2 = (numG s i).2 ∧ ((numG s i).2.2 = 0 → (valAt s (L + 1) i).1 = (numG s i).1)) := by
    refine ⟨by rw [HA.out]; split <;> rfl, fun h => by rw [HA.out, if_pos (show (numAt s i).2 = 0 from h)]⟩
  refine bodyPost_ret (v := .agg #[a0, a1, a2, a3, .string t, .int .i64 (valAt s (L + 1) i).2.1, .int .i64 (valAt s (L + 1) i).2.2]) ?_ rfl ?_
  · rw [HA2.out.1]
    exact results_got rfl _ _ _ _ rfl HV2.out.set rfl
  · refine GotIs.lift (L := 1) (W := w.alloc (.cells (gotZ 0 0) 32)) (by omega) HB0.out (by simp) (fun h => ?_) HC.out HB2.out _
    rw [HA2.out.1] at h
    rw [HA2.out.2 h]
    exact hm.out h

set_option maxHeartbeats 4000000 in
set_option maxRecDepth 100000 in
theorem rv_digit (L : Nat) (s : ByteArray) (i : Nat) (w : World) (lev : Int) (hL : L ≤ 31) (hlev : lev = 32 - L) (hl : s.size ≤ 100000) (hi : i < s.size) (hb : 48 ≤ bt s i ∧ bt s i ≤ 57) :
    Calls Tryd.prog 20 #[.string s, .int .i64 i, .int .i64 lev] w (GotIs (L + 1) (valAt s (L + 1) i) w) := by
  have hst : starter (bt s i) = true := by simp [starter]; omega
  have HA : Hid (valAt s (L + 1) i = if (numAt s i).2 = 0 then numG s i else (jz, numAt s i)) := by
    show _ = _
    rw [valAt_succ s L i hi hst, if_neg (by omega), if_neg (by omega), if_neg (by omega), if_neg (by omega), if_neg (by omega), if_neg (by omega)]
    rfl
  clear hst
  have h1 : decide (s.size ≤ i) = false := by simpa using hi
  have hlv : decide (32 < lev) = false := by simp; omega
  have hbt := get_bt s
  have e110 : (bt s i == 110) = false := by rw [beq_eq_false_iff_ne]; omega
  have e102 : (bt s i == 102) = false := by rw [beq_eq_false_iff_ne]; omega
  have e116 : (bt s i == 116) = false := by rw [beq_eq_false_iff_ne]; omega
  have e34 : (bt s i == 34) = false := by rw [beq_eq_false_iff_ne]; omega
  have e91 : (bt s i == 91) = false := by rw [beq_eq_false_iff_ne]; omega
  have e123 : (bt s i == 123) = false := by rw [beq_eq_false_iff_ne]; omega
  have n91 : (bt s i != 91) = true := by rw [bne_iff_ne]; omega
  have n123 : (bt s i != 123) = true := by rw [bne_iff_ne]; omega
  have e45 : (bt s i == 45) = false := by rw [beq_eq_false_iff_ne]; omega
  have hdg : digAt s i = true := by simp [digAt, isDig, hb, hi]
  have HD := Lib.hid (fun (W : World) => r13_digit s i i W rfl (by omega) (by omega))
  rw [hdg] at HD
  have HV0 : Hid (Row 32 w.heap.size (gotZ 0 0) (w.alloc (.cells (gotZ 0 0) 32))) := Row.new w _ _ rfl
  have HB0 : Hid (Below w.heap.size w (w.alloc (.cells (gotZ 0 0) 32))) := (Below.refl _ _).alloc (Nat.le_refl _) _
  clear hb hdg
  go_enter Tryd.func20, Tryd.ntmps20
  go_wp2_with fail
  refine (HD.out _).mono ?_
  rintro e w1 ⟨rfl, rfl⟩
  go_wp2_with fail
  refine (r13_number s i _ _ rfl (by omega) (by omega)).mono ?_
  rintro e w2 ⟨a0, a1, a2, a3, t, rfl, hm, HC, hb2⟩
  have HV2 := Lib.hid (HV0.out.below hb2.out)
  have HB2 := Lib.hid (below_then HB0.out HB0.out.size hb2.out)
  clear hb2
  go_wp2_with (first | ((with_reducible refine wpl_store_got (cs := ?_) HV2.out rfl ?hx ?hy ?hs ?hz ?_); (case hx => rfl); (case hy => rfl); (case hs => rfl); (case hz => (first | exact one7 HC.out | (simp [Value.oneCell']; done)))))
  (try simp only [Exit.inBlock, Exit.then])
  have HA2 : Hid ((valAt s (L + 1) i).2 = (numG s i).2 ∧ ((numG s i).2.2 = 0 → (valAt s (L + 1) i).1 = (numG s i).1)) := by
    refine ⟨by rw [HA.out]; split <;> rfl, fun h => by rw [HA.out, if_pos (show (numAt s i).2 = 0 from h)]⟩
  refine bodyPost_ret (v := .agg #[a0, a1, a2, a3, .string t, .int .i64 (valAt s (L + 1) i).2.1, .int .i64 (valAt s (L + 1) i).2.2]) ?_ rfl ?_
  · rw [HA2.out.1]
    exact results_got rfl _ _ _ _ rfl HV2.out.set rfl
  · refine GotIs.lift (L := 1) (W := w.alloc (.cells (gotZ 0 0) 32)) (by omega) HB0.out (by simp) (fun h => ?_) HC.out HB2.out _
    rw [HA2.out.1] at h
    rw [HA2.out.2 h]
    exact hm.out h

end

section
open Go.RowKit Go.PlainAid
open Go.Proofs.YtpdpgppaoipnlaaDoorW.PrintWords hiding bt
open Go.Proofs.YtpdpgppaoipnlaaDoorW.PrintMore

/-- A world in which a block was written, and nothing else turned. -/
structure Wrote (b : Nat) (w W : World) : Prop where
  os : W.os = w.os
  tape : W.tape = w.tape
  output : W.output = w.output
  size : W.heap.size = w.heap.size
  rest : ∀ k, k ≠ b → W.heap[k]? = w.heap[k]?
theorem Wrote.setRow (w : World) (b : Nat) (cs : Array Value) : Wrote b w (w.setRow b cs) := ⟨rfl, rfl, rfl, by simp [World.setRow], fun k hk => setRow_other _ _ _ _ hk⟩
theorem Wrote.setCell (w : World) (b o : Nat) (v : Value) : Wrote b w (w.setCell ⟨b, o, none⟩ v) := ⟨rfl, rfl, rfl, by simp [World.setCell], fun k hk => Below.heap_setCell _ _ _ _ hk⟩
theorem Wrote.below {B b : Nat} {w0 w W : World} (hw : Wrote b w W) (h : Below B w0 w) (hb : B ≤ b) : Below B w0 W :=
  ⟨hw.os.trans h.os, hw.tape.trans h.tape, hw.output.trans h.output, by rw [hw.size]; exact h.size, fun k hk => (hw.rest k (by omega)).trans (h.block k hk)⟩
theorem Wrote.row {t : TypeId} {b k : Nat} {cs : Array Value} {w W : World} (hw : Wrote b w W) (h : Row t k cs w) (hk : k ≠ b) : Row t k cs W := (hw.rest k hk).trans h
theorem Wrote.sents {E : Nat → Addr} {b : Nat} {w0 w W : World} (hw : Wrote b w W) (h : Sents E w0) (hb : Below w0.heap.size w0 w) (hk : w0.heap.size ≤ b) : Sents E W := h.below (hw.below hb hk)

section
variable {ops : Array Oper} {rest : List Oper} {a : Act} {w : World} {Q : Exit → Act → World → Prop} {dst : Option Tmp} {x y : Operand} {ty : TypeId} {pos : String} {after : Array Edge} {b : Nat}
theorem wpl_put {t : TypeId} {n : Nat} (hi : (Tryd.prog.info? t).map (·.size) = some n) {old cs : Array Value} (H : Row t b old w) (ho : old.size = n) (hx : a.eval x = .pointer (some ⟨b, 0, none⟩)) (hy : a.eval y = .agg cs) (hs : cs.size = n) (h1 : cs.all (·.oneCell') = true) (h : ∀ W, Row t b cs W → Wrote b w W → wpList Tryd.prog ops Q rest (a.put dst undef) W) :
    wpList Tryd.prog ops Q ({ dst := dst, op := .store t x y, type := ty, pos := pos, after := after, guard := none } :: rest) a w :=
  wpList_store_row rfl t x y rfl b _ hx hy t _ H (by rw [hs]; exact hi) (by rw [ho, hs]) h1 (h _ H.set (Wrote.setRow _ _ _))
theorem wpl_put_got {old cs : Array Value} (H : Row 32 b old w) (ho : old.size = 7) (hx : a.eval x = .pointer (some ⟨b, 0, none⟩)) (hy : a.eval y = .agg cs) (hs : cs.size = 7) (h1 : cs.all (·.oneCell') = true) (h : ∀ W, Row 32 b cs W → Wrote b w W → wpList Tryd.prog ops Q rest (a.put dst undef) W) :
    wpList Tryd.prog ops Q ({ dst := dst, op := .store 32 x y, type := ty, pos := pos, after := after, guard := none } :: rest) a w := wpl_put info_got H ho hx hy hs h1 h
theorem wpl_put_val {old cs : Array Value} (H : Row 26 b old w) (ho : old.size = 4) (hx : a.eval x = .pointer (some ⟨b, 0, none⟩)) (hy : a.eval y = .agg cs) (hs : cs.size = 4) (h1 : cs.all (·.oneCell') = true) (h : ∀ W, Row 26 b cs W → Wrote b w W → wpList Tryd.prog ops Q rest (a.put dst undef) W) :
    wpList Tryd.prog ops Q ({ dst := dst, op := .store 26 x y, type := ty, pos := pos, after := after, guard := none } :: rest) a w := wpl_put info_val H ho hx hy hs h1 h
/-- The value in a Got. -/
theorem wpl_put_gotV {a0 a1 a2 a3 a4 a5 a6 b0 b1 b2 b3 : Value} (H : Row 32 b #[a0, a1, a2, a3, a4, a5, a6] w) (hx : a.eval x = .pointer (some ⟨b, 0, none⟩)) (hy : a.eval y = .agg #[b0, b1, b2, b3]) (h1 : (#[b0, b1, b2, b3] : Array Value).all (·.oneCell') = true) (h : ∀ W, Row 32 b #[b0, b1, b2, b3, a4, a5, a6] W → Wrote b w W → wpList Tryd.prog ops Q rest (a.put dst undef) W) :
    wpList Tryd.prog ops Q ({ dst := dst, op := .store 26 x y, type := ty, pos := pos, after := after, guard := none } :: rest) a w := by
  refine wpList_store_mid rfl 26 x y rfl b 0 #[b0, b1, b2, b3] hx hy (fun j hj => ⟨?_, H.frozen _⟩) info_val h1 (h _ ?_ ?_)
  · simp at hj
    obtain rfl | rfl | rfl | rfl : j = 0 ∨ j = 1 ∨ j = 2 ∨ j = 3 := by omega
    · rw [H.cell (0 + 0) a0 rfl]; rfl
    · rw [H.cell (0 + 1) a1 rfl]; rfl
    · rw [H.cell (0 + 2) a2 rfl]; rfl
    · rw [H.cell (0 + 3) a3 rfl]; rfl
  · exact (((H.setCell 0 b0).setCell 1 b1).setCell 2 b2).setCell 3 b3
  · refine ⟨rfl, rfl, rfl, by simp [World.setCells, World.setCell], fun k hk => ?_⟩
    exact (Below.heap_setCell _ ⟨b, 0 + 1 + 1 + 1, none⟩ _ k hk).trans ((Below.heap_setCell _ ⟨b, 0 + 1 + 1, none⟩ _ k hk).trans ((Below.heap_setCell _ ⟨b, 0 + 1, none⟩ _ k hk).trans (Below.heap_setCell _ ⟨b, 0, none⟩ _ k hk)))
theorem wpl_get_val {a0 a1 a2 a3 : Value} (H : Row 26 b #[a0, a1, a2, a3] w) (hx : a.eval x = .pointer (some ⟨b, 0, none⟩)) (h : wpList Tryd.prog ops Q rest (a.put dst (.agg #[a0, a1, a2, a3])) w) :
    wpList Tryd.prog ops Q ({ dst := dst, op := .load 26 x, type := ty, pos := pos, after := after, guard := none } :: rest) a w := wpl_load_val H rfl hx h
end
set_option maxHeartbeats 4000000 in
set_option maxRecDepth 100000 in
theorem rv_str (L : Nat) (s : ByteArray) (i : Nat) (w : World) (lev : Int) (hL : L ≤ 31) (hlev : lev = 32 - L) (hl : s.size ≤ 100000) (hi : i < s.size) (hb : bt s i = 34) :
    Calls Tryd.prog 20 #[.string s, .int .i64 i, .int .i64 lev] w (GotIs (L + 1) (valAt s (L + 1) i) w) := by
  have hst : starter (bt s i) = true := by rw [hb]; rfl
  have HA : Hid (valAt s (L + 1) i = if (strAt s i).2.2 = 0 then (⟨4, txtOf (strAt s i).1, [], []⟩, (strAt s i).2) else (jz, (strAt s i).2)) := by
    show _ = _
    rw [valAt_succ s L i hi hst, if_neg (by omega), if_neg (by omega), if_neg (by omega), if_pos hb]
  clear hst
  have h1 : decide (s.size ≤ i) = false := by simpa using hi
  have hlv : decide (32 < lev) = false := by simp; omega
  have hbt := get_bt s
  have e110 : (bt s i == 110) = false := by rw [hb]; decide
  have e102 : (bt s i == 102) = false := by rw [hb]; decide
  have e116 : (bt s i == 116) = false := by rw [hb]; decide
  have e34 : (bt s i == 34) = true := by rw [hb]; decide
  have e91 : (bt s i == 91) = false := by rw [hb]; decide
  have e123 : (bt s i == 123) = false := by rw [hb]; decide
  have e45 : (bt s i == 45) = false := by rw [hb]; decide
  have n91 : (bt s i != 91) = true := by rw [hb]; decide
  have n123 : (bt s i != 123) = true := by rw [hb]; decide
  have HV0 : Hid (Row 32 w.heap.size (gotZ 0 0) (w.alloc (.cells (gotZ 0 0) 32))) := Row.new w _ _ rfl
  have HB0 : Hid (Below w.heap.size w (w.alloc (.cells (gotZ 0 0) 32))) := (Below.refl _ _).alloc (Nat.le_refl _) _
  clear hb
  go_enter Tryd.func20, Tryd.ntmps20
  go_wp2_with fail
  refine (r13_Str s i _ _ rfl (by omega) (by omega)).mono ?_
  rintro e w2 ⟨t, rfl, ht, hb2⟩
  have HV2 := Lib.hid (HV0.out.below hb2.out)
  have HB2 := Lib.hid (below_then HB0.out HB0.out.size hb2.out)
  have hlt2 : w.heap.size < w2.heap.size := HV2.out.lt
  clear hb2
  have H8 : Hid (Row 32 w2.heap.size (gotZ 0 0) (w2.alloc (.cells (gotZ 0 0) 32))) := Row.new w2 _ _ rfl
  have H8V := Lib.hid (HV2.out.old (.cells (gotZ 0 0) 32))
  have H8B := Lib.hid (HB2.out.alloc HB2.out.size (.cells (gotZ 0 0) 32))
  by_cases hc : (strAt s i).2.2 = 0
  · have ec : ((strAt s i).2.2 == 0) = true := by simpa using hc
    have HA2 : Hid (valAt s (L + 1) i = (⟨4, t, [], []⟩, (strAt s i).2)) := by show _ = _; rw [HA.out, if_pos hc, ht.out hc]
    have HE := Lib.hid hc
    generalize (strAt s i).2 = r at *
    clear ht HA hc
    go_wp2_with (first | ((with_reducible refine wpl_put_got (cs := ?_) H8.out rfl ?hx ?hy ?hs ?hz ?_); (case hx => rfl); (case hy => rfl); (case hs => rfl); (case hz => (first | exact one7 HC.out | (simp [Value.oneCell']; done))); intro W3 hr3 hw3; have HR3 := Lib.hid hr3; have HV3 := Lib.hid (hw3.row H8V.out (by omega)); have HB3 := Lib.hid (hw3.below H8B.out (by omega)); have c6 := hr3.cell 6 _ rfl; have c4 := hr3.cell 4 _ rfl; clear hr3 hw3) | ((with_reducible refine wpl_put_gotV (b0 := ?_) (b1 := ?_) (b2 := ?_) (b3 := ?_) HR3.out ?hx ?hy ?hz ?_); (case hx => rfl); (case hy => rfl); (case hz => (simp [Value.oneCell']; done)); intro W4 hr4 hw4; have HR4 := Lib.hid hr4; have HV4 := Lib.hid (hw4.row HV3.out (by omega)); have HB4 := Lib.hid (hw4.below HB3.out (by omega)); clear hr4 hw4) | ((with_reducible refine wpl_load_got HR4.out ?hx ?_); (case hx => rfl)) | ((with_reducible refine wpl_put_got (cs := ?_) HV4.out rfl ?hx ?hy ?hs ?hz ?_); (case hx => rfl); (case hy => rfl); (case hs => rfl); (case hz => (first | exact one7 HC.out | (simp [Value.oneCell']; done))); intro W5 hr5 hw5; have HV5 := Lib.hid hr5; have HB5 := Lib.hid (hw5.below HB4.out (by omega)); clear hr5 hw5))
    (try simp only [Exit.inBlock, Exit.then])
    refine bodyPost_ret (v := .agg #[.int .i64 4, .string t, .slice none 0 0, .slice none 0 0, .string t, .int .i64 r.1, .int .i64 r.2]) ?_ rfl ?_
    · exact results_got rfl _ _ _ _ rfl HV5.out rfl
    · rw [HA2.out]
      exact ⟨_, _, _, _, _, rfl, fun _ => jdM_leaf L _ _ _ 4 t, (show (_ : Bool) = true by simp [Value.oneCell']), HB5.out⟩
  · have ec : ((strAt s i).2.2 == 0) = false := by simpa using hc
    have HA2 : Hid (valAt s (L + 1) i = (jz, (strAt s i).2)) := by show _ = _; rw [HA.out, if_neg hc]
    have HE := Lib.hid hc
    generalize (strAt s i).2 = r at *
    clear ht HA hc
    go_wp2_with (first | ((with_reducible refine wpl_put_got (cs := ?_) H8.out rfl ?hx ?hy ?hs ?hz ?_); (case hx => rfl); (case hy => rfl); (case hs => rfl); (case hz => (first | exact one7 HC.out | (simp [Value.oneCell']; done))); intro W3 hr3 hw3; have HR3 := Lib.hid hr3; have HV3 := Lib.hid (hw3.row H8V.out (by omega)); have HB3 := Lib.hid (hw3.below H8B.out (by omega)); have c6 := hr3.cell 6 _ rfl; have c4 := hr3.cell 4 _ rfl; clear hr3 hw3) | ((with_reducible refine wpl_load_got HR3.out ?hx ?_); (case hx => rfl)) | ((with_reducible refine wpl_put_got (cs := ?_) HV3.out rfl ?hx ?hy ?hs ?hz ?_); (case hx => rfl); (case hy => rfl); (case hs => rfl); (case hz => (first | exact one7 HC.out | (simp [Value.oneCell']; done))); intro W5 hr5 hw5; have HV5 := Lib.hid hr5; have HB5 := Lib.hid (hw5.below HB3.out (by omega)); clear hr5 hw5))
    (try simp only [Exit.inBlock, Exit.then])
    refine bodyPost_ret (v := .agg #[.int .i64 0, .string ⟨#[]⟩, .slice none 0 0, .slice none 0 0, .string t, .int .i64 r.1, .int .i64 r.2]) ?_ rfl ?_
    · exact results_got rfl _ _ _ _ rfl HV5.out rfl
    · rw [HA2.out]
      exact ⟨_, _, _, _, _, rfl, fun h => absurd h HE.out, (show (_ : Bool) = true by simp [Value.oneCell']), HB5.out⟩
end

section
open Go.RowKit Go.PlainAid
open Go.Proofs.YtpdpgppaoipnlaaDoorW.PrintWords hiding bt
open Go.Proofs.YtpdpgppaoipnlaaDoorW.PrintMore

theorem GotIs.bad' {L : Nat} {s : ByteArray} {i : Nat} {r : JV × Int × Int} {w W : World} (h : r.2 = badAt s i) (hb : Below w.heap.size w W) : GotIs L r w (.returned (.agg #[.int .i64 0, .string ⟨#[]⟩, .slice none 0 0, .slice none 0 0, .string ⟨#[]⟩, .int .i64 (badAt s i).1, .int .i64 (badAt s i).2])) W :=
  GotIs.bad (s := s) (i := i) (x := r.1) (by rw [← h]) ⟨rfl, hb⟩
theorem R_slice' {L : Nat} {w : World} {B : Nat} {ok : Nat → Prop} {v : Value} {xs : List JV} (h : (jd L).R 26 w B ok v xs) : ∃ A c, v = .slice A xs.length c := by
  exact Kd.R_slice h
theorem new_below {w5 w6 : World} {o : Obj} (hw : Wrote w5.heap.size (w5.alloc o) w6) : Below w5.heap.size w5 w6 := hw.below ((Below.refl _ _).alloc (Nat.le_refl _) _) (Nat.le_refl _)
theorem new_size {w5 w6 : World} {o : Obj} (hw : Wrote w5.heap.size (w5.alloc o) w6) : w6.heap.size = w5.heap.size + 1 := by rw [hw.size]; simp
theorem M_new {L : Nat} {w5 w6 : World} {B C : Nat} {x : JV} {cs : List Value} (h : (jd L).M w5 C (fun k => C ≤ k) x cs) (hb : Below w5.heap.size w5 w6) (hBC : B ≤ C) : (jd L).M w6 B (fun k => C ≤ k ∧ k < w5.heap.size) x cs :=
  (jd L).M_lower hBC ((jd L).M_mono (fun k hk => ⟨hk.1, hk.2.2.1⟩) ((jd L).M_move (fun k hk => hb.block k hk.2.2.1) ((jd L).M_bound h)))
theorem isAt_open (s : ByteArray) (hl : s.size ≤ 100000) : Hid (∀ (k : Nat) (c : Int) (b : Bool), k ≤ 1000100 → 0 ≤ c → c ≤ 255 → isAt s k c = b → ∀ (I : Int) (W : World), I = (k : Int) → Calls Tryd.prog 60 #[.string s, .int .i64 I, .int .u8 c] W fun e w' => e = .returned (.bool b) ∧ W = w') := fun k c b h1 h2 h3 h4 I W h => by rw [← h4]; exact r13_is s k I c W h (by omega) (by omega) h2 h3

set_option maxHeartbeats 4000000 in
set_option maxRecDepth 100000 in
theorem rv_arr (L : Nat) (s : ByteArray) (i : Nat) (w : World) (lev : Int) (hL : L ≤ 31) (hlev : lev = 32 - L) (hl : s.size ≤ 100000) (hi : i < s.size) (hb : bt s i = 91) (hrec : RefAll L) :
    Calls Tryd.prog 20 #[.string s, .int .i64 i, .int .i64 lev] w (GotIs (L + 1) (valAt s (L + 1) i) w) := by
  have hst : starter (bt s i) = true := by rw [hb]; rfl
  have HA : Hid (valAt s (L + 1) i = arrAt s L i) := by
    show _ = _
    rw [valAt_succ s L i hi hst, if_neg (by omega), if_neg (by omega), if_neg (by omega), if_neg (by omega), if_pos hb]
  clear hst
  have h1 : decide (s.size ≤ i) = false := by simpa using hi
  have hlv : decide (32 < lev) = false := by simp; omega
  have hbt := get_bt s
  have e110 : (bt s i == 110) = false := by rw [hb]; decide
  have e102 : (bt s i == 102) = false := by rw [hb]; decide
  have e116 : (bt s i == 116) = false := by rw [hb]; decide
  have e34 : (bt s i == 34) = false := by rw [hb]; decide
  have e91 : (bt s i == 91) = true := by rw [hb]; decide
  have e123 : (bt s i == 123) = false := by rw [hb]; decide
  have e45 : (bt s i == 45) = false := by rw [hb]; decide
  have n91 : (bt s i != 91) = false := by rw [hb]; decide
  have n123 : (bt s i != 123) = true := by rw [hb]; decide
  have HV0 : Hid (Row 32 w.heap.size (gotZ 0 0) (w.alloc (.cells (gotZ 0 0) 32))) := Row.new w _ _ rfl
  have HB0 : Hid (Below w.heap.size w (w.alloc (.cells (gotZ 0 0) 32))) := (Below.refl _ _).alloc (Nat.le_refl _) _
  have HREC := Lib.hid hrec
  have HIS := isAt_open s hl
  have HV1 : Hid (Row 26 (w.heap.size + 1) (leafA 5 ⟨#[]⟩) ((w.alloc (.cells (gotZ 0 0) 32)).alloc (.cells (leafA 5 ⟨#[]⟩) 26))) := Row.new _ _ _ (by simp)
  have HVA := Lib.hid (HV0.out.old (.cells (leafA 5 ⟨#[]⟩) 26))
  have HBA := Lib.hid (HB0.out.alloc HB0.out.size (.cells (leafA 5 ⟨#[]⟩) 26))
  clear hb hrec HV0 HB0
  go_enter Tryd.func20, Tryd.ntmps20
  go_wp2_with fail
  change Calls _ _ _ ((w.alloc (.cells (gotZ 0 0) 32)).alloc (.cells (leafA 5 ⟨#[]⟩) 26)) _
  generalize (w.alloc (.cells (gotZ 0 0) 32)).alloc (.cells (leafA 5 ⟨#[]⟩) 26) = w0 at *
  have hn0 : w.heap.size + 2 ≤ w0.heap.size := by have := HV1.out.lt; omega
  refine (r13_Space s (i + 1) _ _ (by push_cast; rfl) (by omega) (by omega)).mono ?_
  rintro e w1 ⟨rfl, rfl⟩
  have hsp := spc_le s (i + 1) (by omega)
  obtain ⟨z, Hz⟩ : ∃ z, Hid (isAt s (spc s (i + 1)) 93 = z) := ⟨_, rfl⟩
  go_wp2_with fail
  refine (HIS.out (spc s (i + 1)) 93 z (by omega) (by omega) (by omega) Hz.out _ _ rfl).mono ?_
  rintro e w1 ⟨rfl, rfl⟩
  cases z with
  | true =>
    have HA2 : Hid (valAt s (L + 1) i = (⟨5, ⟨#[]⟩, [], []⟩, ((spc s (i + 1) : Nat) : Int) + 1, 0)) := by show _ = _; rw [HA.out]; unfold arrAt; rw [if_pos Hz.out]
    clear HA Hz
    generalize spc s (i + 1) = q at *
    go_wp2_with (first | ((with_reducible refine wpl_get_val (a0 := .int .i64 5) (a1 := .string ⟨#[]⟩) (a2 := .slice none 0 0) (a3 := .slice none 0 0) HV1.out ?hx ?_); (case hx => rfl)) | ((with_reducible refine wpl_put_got (cs := ?_) HVA.out rfl ?hx ?hy ?hs ?hz ?_); (case hx => rfl); (case hy => rfl); (case hs => rfl); (case hz => (first | exact one7 HC.out | (simp [Value.oneCell']; done))); intro W9 hr9 hw9; have HV9 := Lib.hid hr9; have HB9 := Lib.hid (hw9.below HBA.out (Nat.le_refl _)); have HW9 := Lib.hid hw9; clear hr9 hw9))
    (try simp only [Exit.inBlock, Exit.then])
    refine bodyPost_ret (v := .agg #[.int .i64 5, .string ⟨#[]⟩, .slice none 0 0, .slice none 0 0, .string ⟨#[]⟩, .int .i64 ((q : Int) + 1), .int .i64 0]) ?_ rfl ?_
    · exact results_got rfl _ _ _ _ rfl HV9.out rfl
    · rw [HA2.out]
      exact ⟨_, _, _, _, _, rfl, fun _ => jdM_leaf L _ _ _ 5 ⟨#[]⟩, (show (_ : Bool) = true by simp [Value.oneCell']), HB9.out⟩
  | false =>
    have HA2 : Hid (valAt s (L + 1) i = arrK s (valAt s L) s.size (spc s (i + 1)) []) := by show _ = _; rw [HA.out]; unfold arrAt; rw [if_neg (by rw [Hz.out]; simp)]
    clear HA Hz
    have hvv : ∀ j, (valAt s L j).2.2 = 0 → ∃ p : Nat, (valAt s L j).2.1 = p ∧ j < p ∧ p ≤ s.size := fun j => valAt_ends s L j
    have HP := Lib.hid hvv
    clear hvv
    go_wp2_with fail
    go_loopg [11] s.size (fun k v11 w' => ∃ (acc : List JV) (j : Nat) (lv : Value), v11 = .int .i64 j ∧ Hid (j ≤ s.size ∧ s.size + 1 ≤ j + k ∧ acc.length + 1 ≤ j) ∧ Hid (arrK s (valAt s L) k j acc = valAt s (L + 1) i) ∧ Hid (Row 32 w.heap.size (gotZ 0 0) w') ∧ Hid (Row 26 (w.heap.size + 1) #[.int .i64 5, .string ⟨#[]⟩, lv, .slice none 0 0] w') ∧ Hid (Below w.heap.size w w') ∧ Hid ((jd L).R 26 w' (w.heap.size + 2) (fun k => w.heap.size + 2 ≤ k) lv acc) ∧ w.heap.size + 2 ≤ w'.heap.size)
    case atStart => exact ⟨[], spc s (i + 1), _, rfl, ⟨hsp.2, by omega, by simp; omega⟩, HA2.out.symm, HVA.out, HV1.out, HBA.out, Kd.R_nil _ _ _ _ _, hn0⟩
    case round =>
      obtain ⟨acc, j, lv, rfl, HI, HD, HV, HVv, HB, HL, hn⟩ := hrel
      clear HVA HV1 HBA hn0 hsp HA2
      obtain ⟨k1, rfl⟩ : ∃ k1, gk = k1 + 1 := ⟨gk - 1, by have := HI.out; omega⟩
      have hj := HI.out.1
      have hsp := spc_le s j hj
      have hd := HD.out
      unfold arrK at hd
      dsimp only at hd
      go_wp2_with fail
      refine (r13_Space s j _ _ rfl (by omega) hj).mono ?_
      rintro e w1 ⟨rfl, rfl⟩
      go_wp2_with fail
      refine (HREC.out s (spc s j) _ _ _ rfl (by omega) hl hsp.2).mono ?_
      rintro e w5 ⟨a0, a1, a2, a3, t, rfl, hm, HC, hb5⟩
      have HV5 := Lib.hid (HV.out.below hb5.out)
      have HVv5 := Lib.hid (HVv.out.below hb5.out)
      have HB5 := Lib.hid (below_then HB.out HB.out.size hb5.out)
      have HL5 := Lib.hid (Kd.R_below HL.out hb5.out)
      have hn5 : w.heap.size + 2 ≤ w5.heap.size := Nat.le_trans hn hb5.out.size
      have H8 : Hid (Row 32 w5.heap.size (gotZ 0 0) (w5.alloc (.cells (gotZ 0 0) 32))) := Row.new w5 _ _ rfl
      have H8V := Lib.hid (HV5.out.old (.cells (gotZ 0 0) 32))
      have H8W := Lib.hid (HVv5.out.old (.cells (gotZ 0 0) 32))
      have H8B := Lib.hid (HB5.out.alloc HB5.out.size (.cells (gotZ 0 0) 32))
      have hbs := hb5.out.size
      have HLT : Hid (∀ k, lv.ownBlock = some k → k < wr.heap.size) := fun k hk => Kd.R_lt HL.out k hk
      clear HV HVv HB HL hb5 HD
      by_cases hc : (valAt s L (spc s j)).2.2 = 0
      · rw [if_neg (fun h => h hc)] at hd
        obtain ⟨p, hp1, hp2, hp3⟩ := HP.out _ hc
        have HM := Lib.hid (hm.out hc)
        generalize valAt s L (spc s j) = r at *
        obtain ⟨x, e1, e2⟩ := r
        dsimp only at hc hp1 hd HM ⊢
        subst hc hp1
        rw [Int.toNat_natCast] at hd
        have HD := Lib.hid hd
        clear hd hm
        have HLEN : Hid ((acc.length + 1) * 72 ≤ 140737488355328) := by have := HI.out; show _ ≤ _; omega
        have HZ : Hid ((Tryd.prog.info? 26).map (fun i => (i.zero, i.size, i.bytes)) = some (some (.agg #[.int .i64 0, .string ⟨#[]⟩, .slice none 0 0, .slice none 0 0]), (jd L).sz, 72)) := by show _ = _; rw [show (jd L).sz = 4 from jsz L]; exact info_v
        have HZ1 : Hid ((Value.agg #[.int .i64 0, .string ⟨#[]⟩, .slice none 0 0, .slice none 0 0]).cells.size = (jd L).sz) := by show _ = _; rw [show (jd L).sz = 4 from jsz L]; rfl
        have HZ2 : Hid (0 < (jd L).sz) := by show _ < _; rw [show (jd L).sz = 4 from jsz L]; omega
        go_wp2_with (first
          | ((with_reducible refine wpl_put_got (cs := ?_) H8.out rfl ?hx ?hy ?hs ?hz ?_); (case hx => rfl); (case hy => rfl); (case hs => rfl); (case hz => (first | exact one7 HC.out | (simp [Value.oneCell']; done))); intro w6 hr6 hw6; have HR6 := Lib.hid hr6; have HV6 := Lib.hid (hw6.row H8V.out (by omega)); have HW6 := Lib.hid (hw6.row H8W.out (by omega)); have HB6 := Lib.hid (hw6.below H8B.out (by omega)); have c66 := hr6.cell 6 _ rfl; have c65 := hr6.cell 5 _ rfl; have c62 := HW6.out.cell 2 lv rfl; have hb6 := new_below hw6; have HM6 : Hid ((jd L).M w6 (w.heap.size + 2) (fun k => wr.heap.size ≤ k ∧ k < w5.heap.size) x [a0, a1, a2, a3]) := M_new HM.out hb6 (by omega); have HL6 := Lib.hid (Kd.R_below HL5.out hb6); have hn6 : w.heap.size + 2 ≤ w6.heap.size := Nat.le_trans hn5 hb6.size; have HOK : Hid (∀ k, wr.heap.size ≤ k ∧ k < w5.heap.size → w.heap.size + 2 ≤ k ∧ some k ≠ lv.ownBlock) := fun k hk => ⟨by omega, fun e => by have := HLT.out k e.symm; omega⟩; clear hr6 hw6 hb6)
          | ((with_reducible refine wpl_load_gotV HR6.out ?hx ?_); (case hx => rfl))
          | (at_builtin; refine Kd.R_append (jd L) (w0 := w6) (W := w6) (w.heap.size + 2) (by rfl) (.tmp 186) (.tmp 189) 23 26 _ 72 (by rfl) Tryd.underlying23 HZ.out HZ1.out HZ2.out (by omega) lv acc x [a0, a1, a2, a3] (fun k => w.heap.size + 2 ≤ k) (fun k => wr.heap.size ≤ k ∧ k < w5.heap.size) (by rfl) (by rfl) HM6.out HOK.out (fun k hk => Nat.le_trans hn6 hk) HL6.out (Below.refl _ _) hn6 HLEN.out ?_; intro v1 w7 ho hb hg7 hat; obtain ⟨A7, cc7, hv1⟩ := Kd.R_slice ho; rw [List.length_append, List.length_singleton] at hv1; subst hv1; have HL7 := Lib.hid ho; have HV7 : Hid (Row 32 w.heap.size (gotZ 0 0) w7) := (hb.block _ (by omega)).trans HV6.out; have HVv7 : Hid (Row 26 (w.heap.size + 1) #[.int .i64 5, .string ⟨#[]⟩, lv, .slice none 0 0] w7) := (hb.block _ (by omega)).trans HW6.out; have HB7 := Lib.hid (HB6.out.trans (below_less hb (by omega))); have hn7 : w.heap.size + 2 ≤ w7.heap.size := Nat.le_trans hn6 hb.size; have HR7 : Hid (Row 32 w5.heap.size #[a0, a1, a2, a3, .string t, .int .i64 p, .int .i64 0] w7) := HR6.out.kept hg7 (fun e => by have := HLT.out _ e.symm; omega); have g75 := HR7.out.cell 5 _ rfl; have hc7 := HVv7.out.cell 2 lv rfl; have hf7 := HVv7.out.frozen 2; clear ho hb hg7 hat))
        have HR8 : Hid (Row 26 (w.heap.size + 1) #[.int .i64 5, .string ⟨#[]⟩, .slice A7 (acc.length + 1) cc7, .slice none 0 0] (w7.setCell ⟨w.heap.size + 1, 2, none⟩ (.slice A7 (acc.length + 1) cc7))) := HVv7.out.setCell 2 _
        have HV8 : Hid (Row 32 w.heap.size (gotZ 0 0) (w7.setCell ⟨w.heap.size + 1, 2, none⟩ (.slice A7 (acc.length + 1) cc7))) := HV7.out.far (by omega) _
        have HB8 : Hid (Below w.heap.size w (w7.setCell ⟨w.heap.size + 1, 2, none⟩ (.slice A7 (acc.length + 1) cc7))) := HB7.out.setCell (by simp) _
        have HL8 : Hid ((jd L).R 26 (w7.setCell ⟨w.heap.size + 1, 2, none⟩ (.slice A7 (acc.length + 1) cc7)) (w.heap.size + 2) (fun k => w.heap.size + 2 ≤ k) (.slice A7 (acc.length + 1) cc7) (acc ++ [x])) := Kd.R_far HL7.out (fun k hk => by simp; omega) _
        have hn8 : w.heap.size + 2 ≤ (w7.setCell ⟨w.heap.size + 1, 2, none⟩ (.slice A7 (acc.length + 1) cc7)).heap.size := by simp [World.setCell]; exact hn7
        clear HV7 HVv7 HB7 HL7 hn7 hc7 hf7 HR7 g75 HM6 HL6 HOK HB6 HV6 HW6 HR6 c66 c65 c62 H8 H8V H8W H8B HL5 HVv5 HV5 HB5
        generalize w7.setCell ⟨w.heap.size + 1, 2, none⟩ (.slice A7 (acc.length + 1) cc7) = w8 at *
        have hsq := spc_le s p hp3
        refine (r13_Space s p _ _ rfl (by omega) hp3).mono ?_
        rintro e w1 ⟨rfl, rfl⟩
        generalize spc s p = q at *
        obtain ⟨z, Hz⟩ : ∃ z, Hid (isAt s q 93 = z) := ⟨_, rfl⟩
        have hd := HD.out
        rw [Hz.out] at hd
        go_wp2_with fail
        refine (HIS.out q 93 z (by omega) (by omega) (by omega) Hz.out _ _ rfl).mono ?_
        rintro e w1 ⟨rfl, rfl⟩
        cases z with
        | true =>
          rw [if_pos rfl] at hd
          have HA2 : Hid (valAt s (L + 1) i = (⟨5, ⟨#[]⟩, acc ++ [x], []⟩, (q : Int) + 1, 0)) := hd.symm
          clear hd HD
          go_wp2_with (first | ((with_reducible refine wpl_get_val HR8.out ?hx ?_); (case hx => rfl)) | ((with_reducible refine wpl_put_got (cs := ?_) HV8.out rfl ?hx ?hy ?hs ?hz ?_); (case hx => rfl); (case hy => rfl); (case hs => rfl); (case hz => (first | exact one7 HC.out | (simp [Value.oneCell']; done))); intro W9 hr9 hw9; have HV9 := Lib.hid hr9; have HB9 := Lib.hid (hw9.below HB8.out (Nat.le_refl _)); have HW9 := Lib.hid hw9; clear hr9 hw9))
          (try simp only [Exit.inBlock, Exit.then])
          refine bodyPost_ret (v := .agg #[.int .i64 5, .string ⟨#[]⟩, .slice A7 (acc.length + 1) cc7, .slice none 0 0, .string ⟨#[]⟩, .int .i64 ((q : Int) + 1), .int .i64 0]) ?_ rfl ?_
          · exact results_got rfl _ _ _ _ rfl HV9.out rfl
          · rw [HA2.out]
            refine ⟨_, _, _, _, _, rfl, fun _ => ?_, (show (_ : Bool) = true by simp [Value.oneCell']), HB9.out⟩
            exact jdM_arr 5 ⟨#[]⟩ (Kd.R_lower (Kd.R_mono (Kd.R_step HL8.out (fun k hk _ => HW9.out.rest k (by omega))) (fun k hk => by omega)) (by omega))
        | false =>
          rw [if_neg (by simp)] at hd
          obtain ⟨z2, Hz2⟩ : ∃ z, Hid (isAt s q 44 = z) := ⟨_, rfl⟩
          rw [Hz2.out] at hd
          go_wp2_with fail
          refine (HIS.out q 44 z2 (by omega) (by omega) (by omega) Hz2.out _ _ rfl).mono ?_
          rintro e w1 ⟨rfl, rfl⟩
          cases z2 with
          | true =>
            rw [if_pos rfl] at hd
            replace HD := Lib.hid hd
            have hql := (isAt_lt Hz2.out).1
            clear hd
            go_wp2_with fail
            go_roundg k1
            case measure => omega
            case rel => exact ⟨acc ++ [x], q + 1, .slice A7 (acc.length + 1) cc7, by go_num, ⟨by omega, by have := HI.out; omega, by have := HI.out; simp; omega⟩, HD.out, HV8.out, HR8.out, HB8.out, HL8.out, hn8⟩
          | false =>
            rw [if_neg (by simp)] at hd
            have HA2 : Hid (valAt s (L + 1) i = (jz, badAt s q)) := hd.symm
            clear hd HD
            go_wp2_with fail
            refine (r13_bad s q _ _ rfl (by omega) (by omega)).mono ?_
            rintro e w9 ⟨rfl, hb9⟩
            have HVa := Lib.hid (HV8.out.below hb9.out)
            have HBa := Lib.hid (below_then HB8.out HB8.out.size hb9.out)
            clear hb9
            go_wp2_with (first | ((with_reducible refine wpl_put_got (cs := ?_) HVa.out rfl ?hx ?hy ?hs ?hz ?_); (case hx => rfl); (case hy => rfl); (case hs => rfl); (case hz => (first | exact one7 HC.out | (simp [Value.oneCell']; done))); intro W9 hr9 hw9; have HV9 := Lib.hid hr9; have HB9 := Lib.hid (hw9.below HBa.out (Nat.le_refl _)); have HW9 := Lib.hid hw9; clear hr9 hw9))
            (try simp only [Exit.inBlock, Exit.then])
            refine bodyPost_ret (v := .agg (gotZ (badAt s q).1 (badAt s q).2)) ?_ rfl ?_
            · exact results_got rfl _ _ _ _ rfl HV9.out rfl
            · exact GotIs.bad' (by rw [HA2.out]) HB9.out
      · rw [if_pos hc] at hd
        have HA2 : Hid (valAt s (L + 1) i = (jz, (valAt s L (spc s j)).2)) := hd.symm
        have HE := Lib.hid hc
        have ec : ((valAt s L (spc s j)).2.2 != 0) = true := by rw [bne_iff_ne]; exact hc
        generalize valAt s L (spc s j) = r at *
        clear hd hc hm
        go_wp2_with (first
          | ((with_reducible refine wpl_put_got (cs := ?_) H8.out rfl ?hx ?hy ?hs ?hz ?_); (case hx => rfl); (case hy => rfl); (case hs => rfl); (case hz => (first | exact one7 HC.out | (simp [Value.oneCell']; done))); intro w6 hr6 hw6; have HR6 := Lib.hid hr6; have HV6 := Lib.hid (hw6.row H8V.out (by omega)); have HB6 := Lib.hid (hw6.below H8B.out (by omega)); have c66 := hr6.cell 6 _ rfl; clear hr6 hw6)
          | ((with_reducible refine wpl_load_got HR6.out ?hx ?_); (case hx => rfl))
          | ((with_reducible refine wpl_put_got (cs := ?_) HV6.out rfl ?hx ?hy ?hs ?hz ?_); (case hx => rfl); (case hy => rfl); (case hs => rfl); (case hz => (first | exact one7 HC.out | (simp [Value.oneCell']; done))); intro W9 hr9 hw9; have HV9 := Lib.hid hr9; have HB9 := Lib.hid (hw9.below HB6.out (Nat.le_refl _)); have HW9 := Lib.hid hw9; clear hr9 hw9))
        (try simp only [Exit.inBlock, Exit.then])
        refine bodyPost_ret (v := .agg #[a0, a1, a2, a3, .string t, .int .i64 r.2.1, .int .i64 r.2.2]) ?_ rfl ?_
        · exact results_got rfl _ _ _ _ rfl HV9.out rfl
        · rw [HA2.out]
          exact ⟨_, _, _, _, _, rfl, fun h => absurd h HE.out, HC.out, HB9.out⟩
end
end Go.Proofs.YtpdpgppaoipnlaaDoor
