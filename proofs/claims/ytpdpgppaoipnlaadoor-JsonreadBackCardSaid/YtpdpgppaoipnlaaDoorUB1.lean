/- What the claim uses of the text B1. -/
import Derived.Test.YtpdpgppaoipnlaaDoorUQ6
set_option linter.unusedVariables false
set_option linter.unusedSimpArgs false
namespace Go.Proofs.YtpdpgppaoipnlaaDoor
open Go.RowKit Go.PlainAid
open Go.Proofs.YtpdpgppaoipnlaaDoorW.PrintWords hiding bt
open Go.Proofs.YtpdpgppaoipnlaaDoorW.PrintMore

/-- pad's captured variables: the counter (block a) and the slice of spaces (block b). -/
structure Pd (a b : Nat) (k : Nat) (sp : Value) (w : World) : Prop where
  p : w.heap[a]? = some (.cells #[.int .i64 k] 3 (0, 0))
  t : w.heap[b]? = some (.cells #[sp] 65 (0, 0))
theorem Pd.c1 {a b k : Nat} {sp : Value} {w : World} (h : Pd a b k sp w) : w.cell? ⟨a, 0, none⟩ = some (.int .i64 k) := by rw [Lib.cell_of_heap h.p]; rfl
theorem Pd.c0 {a b k : Nat} {sp : Value} {w : World} (h : Pd a b k sp w) : w.cell? ⟨b, 0, none⟩ = some sp := by rw [Lib.cell_of_heap h.t]; rfl
theorem Pd.f1 {a b k : Nat} {sp : Value} {w : World} (h : Pd a b k sp w) : w.frozen? ⟨a, 0, none⟩ = false := Lib.frozen_of_heap h.p 0
theorem Pd.ne {a b k : Nat} {sp : Value} {w : World} (h : Pd a b k sp w) : b ≠ a := by
  rintro rfl
  have h1 := h.p
  rw [h.t] at h1
  simp at h1
theorem Pd.set {a b k : Nat} {sp : Value} {w : World} (h : Pd a b k sp w) (j : Nat) : Pd a b j sp (w.setCell ⟨a, 0, none⟩ (.int .i64 j)) := by
  refine ⟨?_, (Below.heap_setCell _ _ _ _ h.ne).trans h.t⟩
  have := h.p
  simp [World.setCell, Array.getElem?_modify, this]

theorem Pd.lt {a b k : Nat} {sp : Value} {w : World} (h : Pd a b k sp w) : a < w.heap.size ∧ b < w.heap.size := ⟨(Array.getElem?_eq_some_iff.1 h.p).1, (Array.getElem?_eq_some_iff.1 h.t).1⟩
theorem Pd.alloc {a b k : Nat} {sp : Value} {w : World} (h : Pd a b k sp w) (o : Obj) : Pd a b k sp (w.alloc o) := ⟨(Go.heap_alloc_old _ _ h.lt.1).trans h.p, (Go.heap_alloc_old _ _ h.lt.2).trans h.t⟩
theorem sp_snoc {p : List Int} (h : Sp p) (c : Int) (hc : isSp c = true) : Sp (p ++ [c]) := fun b hb => by
  rcases List.mem_append.1 hb with hb | hb
  · exact h b hb
  · rw [List.mem_singleton.1 hb]; exact hc
theorem grown_alloc {w w' : World} {b : Nat} (h : w.grownBy w' (some b)) (o : Obj) : w.grownBy (w'.alloc o).drew (some b) :=
  h.trans ⟨rfl, rfl, rfl, by show _ ≤ (w'.alloc o).heap.size; simp, fun k hk _ => Go.heap_alloc_old _ _ hk⟩
theorem conv_one_drew (c : Int) (W : World) : (convert 65 9 (.slice (some ⟨W.heap.size, 0, none⟩) 1 1)).run Tryd.prog (W.alloc (.cells #[.int .u8 c] 5)).drew = .ok (.string (strOfNums [c])) (W.alloc (.cells #[.int .u8 c] 5)).drew := by
  refine Kd.C_string Tryd.underlying65 Tryd.underlying5 Tryd.underlying9 (Kd.C_below (C_of_cells (enc := Value.int .u8) (h1 := fun _ => rfl) _ _ 1 [c] rfl (by omega) 0 (fun i hi => ?_)) (below_drew (Below.refl _ _)))
  obtain rfl : i = 0 := by omega
  rw [Go.WideShapes.add_plain, Lib.cell_of_heap (Go.heap_alloc_new W _)]
  rfl

set_option maxHeartbeats 4000000 in
set_option maxRecDepth 100000 in
theorem pad_any (a b : Nat) (A : Option Addr) (c : Nat) (xs : List Int) (k : Nat) (w0 w : World) (hx : (Kd.int .u8).C w0 A xs.length xs) (hc : xs.length ≤ c) (hn : xs.length ≤ 20) (hwf : ∀ x ∈ xs, 0 ≤ x ∧ x ≤ 255) (hk : k ≤ 1000000) (hb : Below w0.heap.size w0 w) (ha : w0.heap.size ≤ a)
    (hp : Pd a b k (.slice A xs.length c) w) :
    Calls Tryd.prog 45 #[.pointer (some ⟨b, 0, none⟩), .pointer (some ⟨a, 0, none⟩)] w fun e w' => ∃ p : List Int, e = .returned (.string (strOfNums p)) ∧ Hid (Sp p) ∧ p.length ≤ 2 ∧ Hid (Pd a b (k + 1) (.slice A xs.length c) w') ∧ Hid (w.grownBy w' (some a)) := by
  have HP := Lib.hid hp
  have HX := Lib.hid hx
  have HB := Lib.hid hb
  have HW := Lib.hid hwf
  clear hx hb hp hwf
  have d0 := HP.out.c0
  have d1 := HP.out.c1
  have f1 := HP.out.f1
  go_enter Tryd.func45, Tryd.ntmps45
  go_wp2_with fail
  go_loopg [3, 4] 2 (fun g v3 v4 wi => ∃ (i : Nat) (p : List Int), v3 = .string (strOfNums p) ∧ v4 = .int .i64 (i : Int) ∧ Hid (i + g = 2) ∧ Hid (p.length = i) ∧ Hid (Sp p) ∧ Hid (Pd a b k (.slice A xs.length c) wi) ∧ Hid (w.grownBy wi (some a)))
  case atStart => exact ⟨0, [], rfl, rfl, rfl, rfl, sp_nil, HP.out, World.grownBy.refl _ _⟩
  case round =>
    obtain ⟨i, p, rfl, rfl, HI, HL, HS, HPj, HG⟩ := hrel
    clear d0 d1 f1 HP
    have d0 := HPj.out.c0
    have d1 := HPj.out.c1
    have f1 := HPj.out.f1
    have HBj := Lib.hid (below_grown' HB.out HG.out ha)
    by_cases hx0 : xs.length = 0
    · rw [hx0] at d0
      go_wp2_with fail
      go_quiet (fail)
      go_wp2_with fail
      go_ret
      refine ⟨p, rfl, HS, by have := HL.out; have := HI.out; omega, ?_, (grown_cell HG.out 0 _).trans ⟨rfl, rfl, rfl, Nat.le_refl _, fun _ _ _ => rfl⟩⟩
      have := HPj.out.set (k + 1)
      push_cast at this
      exact ⟨this.p, this.t⟩
    · obtain ⟨m, hm⟩ : ∃ m, k % xs.length = m := ⟨_, rfl⟩
      have hml : m < xs.length := by rw [← hm]; exact Nat.mod_lt _ (by omega)
      obtain ⟨ad, rfl, h1⟩ := C_int_get (Kd.C_below HX.out HBj.out) m hml
      have hmt : (k : Int).tmod (xs.length : Int) = (m : Int) := by rw [Int.tmod_eq_emod_of_nonneg (by omega), ← hm]; rfl
      obtain ⟨y, hy⟩ : ∃ y, xs.getD m 0 = y := ⟨_, rfl⟩
      have hyr : 0 ≤ y ∧ y ≤ 255 := by
        rw [← hy, List.getD_eq_getElem?_getD, List.getElem?_eq_getElem hml]
        exact HW.out _ (List.getElem_mem hml)
      rw [hy] at h1
      obtain ⟨d, hd⟩ : ∃ d : Nat, y.tmod 3 = (d : Int) := ⟨(y.tmod 3).toNat, by rw [Int.tmod_eq_emod_of_nonneg hyr.1]; omega⟩
      have hd2 : d ≤ 2 := by rw [Int.tmod_eq_emod_of_nonneg hyr.1] at hd; omega
      have hlt : decide ((0 : Int) < (xs.length : Int)) = true := decide_eq_true (by omega)
      have hlt2 : decide (0 < xs.length) = true := decide_eq_true (by omega)
      have k0 : (0 : Int) ≤ (k : Int) := by omega
      have m0 : (0 : Int) ≤ (m : Int) := by omega
      have m1 : (m : Int) < (xs.length : Int) := by omega
      have hne : ((xs.length : Int) == 0) = false := by rw [beq_eq_false_iff_ne]; omega
      have hdw : IntKind.u8.wrap (d : Int) = (d : Int) := by
        rcases (show d = 0 ∨ d = 1 ∨ d = 2 by omega) with rfl | rfl | rfl <;> rfl
      have hdw2 : IntKind.i64.wrap (d : Int) = (d : Int) := by
        rcases (show d = 0 ∨ d = 1 ∨ d = 2 by omega) with rfl | rfl | rfl <;> rfl
      clear hm hy hyr hml
      by_cases hid : i < d
      · have hid1 : decide ((i : Int) < (d : Int)) = true := decide_eq_true (by omega)
        have hid2 : decide (i < d) = true := decide_eq_true hid
        obtain ⟨q, hq⟩ : ∃ q, (k + i) % 4 = q := ⟨_, rfl⟩
        have hq4 : q < 4 := by omega
        have hqt : ((k : Int) + (i : Int)).tmod 4 = (q : Int) := by rw [Int.tmod_eq_emod_of_nonneg (by omega)]; omega
        have hkw : IntKind.i64.wrap ((k : Int) + (i : Int)) = (k : Int) + (i : Int) := by rw [IntKind.wrap_i64]; omega
        have HID := Lib.hid hid
        have hiw : IntKind.i64.wrap ((i : Int) + 1) = (i : Int) + 1 := by rw [IntKind.wrap_i64]; omega
        have hsp : (9223372036854775807 < (strOfNums p).size + 1) = False := eq_false (by have := HL.out; rw [strOfNums_size]; omega)
        obtain ⟨g1, rfl⟩ : ∃ g1, gk = g1 + 1 := ⟨gk - 1, by have := HI.out; omega⟩
        obtain ⟨sp, HSP⟩ : ∃ sp, Hid (strOfNums p = sp) := ⟨_, rfl⟩
        rw [HSP.out] at hsp ⊢
        clear hid hq
        rcases (show q = 0 ∨ q = 1 ∨ q = 2 ∨ q = 3 by omega) with rfl | rfl | rfl | rfl
        · have hbq : ((⟨#[32, 9, 13, 10]⟩ : ByteArray)[0]'(by decide)).toNat = 32 := rfl
          have hcv : ∀ W : World, (convert 65 9 (.slice (some ⟨W.heap.size, 0, none⟩) 1 1)).run Tryd.prog (W.alloc (.cells #[.int .u8 32] 5)).drew = .ok (.string ⟨#[32]⟩) (W.alloc (.cells #[.int .u8 32] 5)).drew := fun W => conv_one_drew 32 W
          go_wp2_with fail
          go_region_held3 (fun W => W.cell? ⟨b, 0, none⟩ = some (.slice (some ad) xs.length c) ∧ W.cell? ⟨a, 0, none⟩ = some (.int .i64 k) ∧ W.cell? (ad.add m) = some (.int .u8 y)) (go_keep) (fail)
          go_wp2_with fail
          go_roundg g1
          case measure => omega
          case rel =>
            refine ⟨i + 1, p ++ [32], ?_, by go_num, by have := HI.out; show _ = _; omega, by show _ = _; rw [List.length_append, HL.out]; rfl, sp_snoc HS.out _ rfl, ⟨(HPj.out.alloc _).p, (HPj.out.alloc _).t⟩, grown_alloc HG.out _⟩
            rw [← nums_append', HSP.out]
            rfl
        · have hbq : ((⟨#[32, 9, 13, 10]⟩ : ByteArray)[1]'(by decide)).toNat = 9 := rfl
          have hcv : ∀ W : World, (convert 65 9 (.slice (some ⟨W.heap.size, 0, none⟩) 1 1)).run Tryd.prog (W.alloc (.cells #[.int .u8 9] 5)).drew = .ok (.string ⟨#[9]⟩) (W.alloc (.cells #[.int .u8 9] 5)).drew := fun W => conv_one_drew 9 W
          go_wp2_with fail
          go_region_held3 (fun W => W.cell? ⟨b, 0, none⟩ = some (.slice (some ad) xs.length c) ∧ W.cell? ⟨a, 0, none⟩ = some (.int .i64 k) ∧ W.cell? (ad.add m) = some (.int .u8 y)) (go_keep) (fail)
          go_wp2_with fail
          go_roundg g1
          case measure => omega
          case rel =>
            refine ⟨i + 1, p ++ [9], ?_, by go_num, by have := HI.out; show _ = _; omega, by show _ = _; rw [List.length_append, HL.out]; rfl, sp_snoc HS.out _ rfl, ⟨(HPj.out.alloc _).p, (HPj.out.alloc _).t⟩, grown_alloc HG.out _⟩
            rw [← nums_append', HSP.out]
            rfl
        · have hbq : ((⟨#[32, 9, 13, 10]⟩ : ByteArray)[2]'(by decide)).toNat = 13 := rfl
          have hcv : ∀ W : World, (convert 65 9 (.slice (some ⟨W.heap.size, 0, none⟩) 1 1)).run Tryd.prog (W.alloc (.cells #[.int .u8 13] 5)).drew = .ok (.string ⟨#[13]⟩) (W.alloc (.cells #[.int .u8 13] 5)).drew := fun W => conv_one_drew 13 W
          go_wp2_with fail
          go_region_held3 (fun W => W.cell? ⟨b, 0, none⟩ = some (.slice (some ad) xs.length c) ∧ W.cell? ⟨a, 0, none⟩ = some (.int .i64 k) ∧ W.cell? (ad.add m) = some (.int .u8 y)) (go_keep) (fail)
          go_wp2_with fail
          go_roundg g1
          case measure => omega
          case rel =>
            refine ⟨i + 1, p ++ [13], ?_, by go_num, by have := HI.out; show _ = _; omega, by show _ = _; rw [List.length_append, HL.out]; rfl, sp_snoc HS.out _ rfl, ⟨(HPj.out.alloc _).p, (HPj.out.alloc _).t⟩, grown_alloc HG.out _⟩
            rw [← nums_append', HSP.out]
            rfl
        · have hbq : ((⟨#[32, 9, 13, 10]⟩ : ByteArray)[3]'(by decide)).toNat = 10 := rfl
          have hcv : ∀ W : World, (convert 65 9 (.slice (some ⟨W.heap.size, 0, none⟩) 1 1)).run Tryd.prog (W.alloc (.cells #[.int .u8 10] 5)).drew = .ok (.string ⟨#[10]⟩) (W.alloc (.cells #[.int .u8 10] 5)).drew := fun W => conv_one_drew 10 W
          go_wp2_with fail
          go_region_held3 (fun W => W.cell? ⟨b, 0, none⟩ = some (.slice (some ad) xs.length c) ∧ W.cell? ⟨a, 0, none⟩ = some (.int .i64 k) ∧ W.cell? (ad.add m) = some (.int .u8 y)) (go_keep) (fail)
          go_wp2_with fail
          go_roundg g1
          case measure => omega
          case rel =>
            refine ⟨i + 1, p ++ [10], ?_, by go_num, by have := HI.out; show _ = _; omega, by show _ = _; rw [List.length_append, HL.out]; rfl, sp_snoc HS.out _ rfl, ⟨(HPj.out.alloc _).p, (HPj.out.alloc _).t⟩, grown_alloc HG.out _⟩
            rw [← nums_append', HSP.out]
            rfl
      · have hid1 : decide ((i : Int) < (d : Int)) = false := decide_eq_false (by omega)
        have hid2 : decide (i < d) = false := decide_eq_false hid
        go_wp2_with fail
        go_region_held3 (fun W => W.cell? ⟨b, 0, none⟩ = some (.slice (some ad) xs.length c) ∧ W.cell? ⟨a, 0, none⟩ = some (.int .i64 k) ∧ W.cell? (ad.add m) = some (.int .u8 y)) (go_keep) (fail)
        go_wp2_with fail
        go_ret
        refine ⟨p, rfl, HS, by have := HL.out; have := HI.out; omega, ?_, (grown_cell HG.out 0 _).trans ⟨rfl, rfl, rfl, Nat.le_refl _, fun _ _ _ => rfl⟩⟩
        have := HPj.out.set (k + 1)
        push_cast at this
        exact ⟨this.p, this.t⟩
end Go.Proofs.YtpdpgppaoipnlaaDoor

