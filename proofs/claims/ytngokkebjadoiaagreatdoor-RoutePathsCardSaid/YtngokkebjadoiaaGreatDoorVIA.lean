/- What the claim uses of the text IA. -/
import Derived.Test.YtngokkebjadoiaaGreatDoorVI9
import Derived.Test.YtngokkebjadoiaaGreatDoorVG6
set_option linter.unusedVariables false
set_option linter.unusedSimpArgs false
namespace Go.Proofs.YtngokkebjadoiaaGreatDoor
open Go.RowKit Go.PlainAid
open Go.Proofs.YtngokkebjadoiaaGreatDoorW.PrintWords hiding bt
open Go.Proofs.YtngokkebjadoiaaGreatDoorW.PrintMore
theorem rWidth_lit (p : PV) (w : World) : Calls Tryz.prog 38 #[.agg #[.bool p.six, .int .u8 (p.addr 0 : Nat), .int .u8 (p.addr 1 : Nat), .int .u8 (p.addr 2 : Nat), .int .u8 (p.addr 3 : Nat), .int .u8 (p.addr 4 : Nat), .int .u8 (p.addr 5 : Nat), .int .u8 (p.addr 6 : Nat), .int .u8 (p.addr 7 : Nat), .int .u8 (p.addr 8 : Nat), .int .u8 (p.addr 9 : Nat), .int .u8 (p.addr 10 : Nat), .int .u8 (p.addr 11 : Nat), .int .u8 (p.addr 12 : Nat), .int .u8 (p.addr 13 : Nat), .int .u8 (p.addr 14 : Nat), .int .u8 (p.addr 15 : Nat), .int .i64 p.bits]] w fun e w' => e = .returned (.int .i64 (widthV p)) ∧ Hid (Below w.heap.size w w') := rWidth_any p w

set_option maxHeartbeats 8000000 in
set_option maxRecDepth 100000 in
theorem rText4_any (p : PV) (hp : ∀ i, i < 16 → p.addr i < 256) (h6 : p.six = false) (hb : 0 ≤ p.bits ∧ p.bits ≤ widthV p) (w : World) :
    Calls Tryz.prog 19 #[.agg (preA p)] w fun e w' => e = .returned (.string (strOfNums (ipT p))) ∧ Hid (Below w.heap.size w w') := by
  have H : Hid (PreAt w.heap.size p (w.alloc (.cells (preA p) 24))) := Row.new w _ _ rfl
  have HBw : Hid (Below w.heap.size w (w.alloc (.cells (preA p) 24))) := (Below.refl _ _).alloc (Nat.le_refl _) _
  have HP := Lib.hid hp
  have HBT := Lib.hid hb
  have HLn := Lib.hid (addrT_len p hp)
  clear hp hb
  go_enter Tryz.func19, Tryz.ntmps19
  go_upto_region 1 with (fail)
  generalize w.alloc (.cells (preA p) 24) = w0 at *
  have c0 := H.out.six
  rw [h6] at c0
  have HAT : Hid (preF p 4 = addrT p) := by
    show _ = _
    unfold addrT fourT preF
    rw [if_neg (by rw [h6]; simp)]
  clear h6
  go_wp2_with fail
  clear c0
  go_loopg [3, 4] 4 (fun k v3 v4 w' => ∃ i : Nat, v4 = .int .i64 i ∧ v3 = .string (strOfNums (preF p i)) ∧ Hid (i + k = 4) ∧ Hid (Below w0.heap.size w0 w'))
  case atStart => exact ⟨0, rfl, rfl, by show _ = _; omega, Below.refl _ _⟩
  case round =>
    obtain ⟨i, rfl, rfl, HI, HB⟩ := hrel
    by_cases hlt : i < 4
    · cases gk with
      | zero => have := HI.out; omega
      | succ k1 =>
        have HI2 : Hid (i + 1 + k1 = 4) := by have := HI.out; show _ = _; omega
        have HE := Lib.hid (preF_step p i)
        have HL := Lib.hid (preF_len p HP.out i (by omega))
        have hx := HP.out i (by omega)
        have HDg : Hid (∀ W, Calls Tryz.prog 20 #[.int .i64 (p.addr i : Nat), .int .i64 10] W fun e w' => e = .returned (.string (strOfNums (digs 10 (p.addr i)))) ∧ Hid (Below W.heap.size W w')) := fun W => Digits_any 10 (by omega) (by omega) (p.addr i) W (by omega)
        have c1 := (H.out.below HB.out).byte i (by omega)
        obtain ⟨x, hxx⟩ : ∃ x, p.addr i = x := ⟨_, rfl⟩
        rw [hxx] at hx HE HDg c1
        have HDL : Hid ((digs 10 x).length ≤ 3) := digs_len 10 (by omega) 2 x (by omega)
        clear hxx
        obtain ⟨t, Ht⟩ : ∃ t, Hid (strOfNums (preF p i) = t) := ⟨_, rfl⟩
        rw [Ht.out]
        have hts : t.size ≤ 16 := by rw [← Ht.out, nums_size]; exact HL.out
        by_cases hi0 : i = 0
        · have hle : i ≤ 0 := by omega
          rw [if_pos hi0] at HE
          clear hi0
          go_wp2_with fail
          refine (HDg.out _).mono ?_
          rintro e w5 ⟨rfl, hb5⟩
          obtain ⟨u, Hu⟩ : ∃ u, Hid (strOfNums (digs 10 x) = u) := ⟨_, rfl⟩
          rw [Hu.out]
          have hus : u.size ≤ 3 := by rw [← Hu.out, nums_size]; exact HDL.out
          have u0 : (⟨#[46]⟩ : ByteArray).size = 1 := rfl
          have s1 : (t ++ ⟨#[46]⟩).size = t.size + 1 := by rw [ByteArray.size_append]; rfl
          go_wp2_with fail
          go_roundg k1
          case measure => omega
          case rel =>
            refine ⟨i + 1, by go_num, ?_, HI2, below_step HB.out hb5.out⟩
            rw [HE.out, ← Ht.out, ← Hu.out]
            simp only [← nums_append', List.append_nil]
            all_goals first | rfl | (simp only [ByteArray.append_assoc]; rfl)
        · have hpos : 0 < i := by omega
          rw [if_neg hi0] at HE
          clear hi0
          go_wp2_with fail
          refine (HDg.out _).mono ?_
          rintro e w5 ⟨rfl, hb5⟩
          obtain ⟨u, Hu⟩ : ∃ u, Hid (strOfNums (digs 10 x) = u) := ⟨_, rfl⟩
          rw [Hu.out]
          have hus : u.size ≤ 3 := by rw [← Hu.out, nums_size]; exact HDL.out
          have u0 : (⟨#[46]⟩ : ByteArray).size = 1 := rfl
          have s1 : (t ++ ⟨#[46]⟩).size = t.size + 1 := by rw [ByteArray.size_append]; rfl
          go_wp2_with fail
          go_roundg k1
          case measure => omega
          case rel =>
            refine ⟨i + 1, by go_num, ?_, HI2, below_step HB.out hb5.out⟩
            rw [HE.out, ← Ht.out, ← Hu.out]
            simp only [← nums_append', List.append_nil]
            all_goals first | rfl | (simp only [ByteArray.append_assoc]; rfl)
    · have HI3 : i = 4 := by have := HI.out; omega
      subst HI3
      rw [HAT.out]
      obtain ⟨t, Ht⟩ : ∃ t, Hid (strOfNums (addrT p) = t) := ⟨_, rfl⟩
      rw [Ht.out]
      have HTS : Hid (t.size ≤ 1000) := by show _ ≤ _; rw [← Ht.out, nums_size]; exact HLn.out
      have H1 := Lib.hid (H.out.below HB.out)
      have HB1 := Lib.hid (below_then HBw.out HBw.out.size HB.out)
      clear HI HB H HBw hlt HAT HLn
      generalize wr = w1 at *
      go_upto_region 34 with (fail)
      have c17 := H1.out.bits
      have Hd : Hid (PreAt w.heap.size p w1.drew) := H1.out
      have HBd : Hid (Below w.heap.size w w1.drew) := below_drew HB1.out
      go_region_held3 (fun W => W.cell? ⟨w.heap.size, 0, none⟩ = some (.bool p.six) ∧ W.cell? ⟨w.heap.size, 1, none⟩ = some (.int .u8 (p.addr 0 : Nat)) ∧ W.cell? ⟨w.heap.size, 2, none⟩ = some (.int .u8 (p.addr 1 : Nat)) ∧ W.cell? ⟨w.heap.size, 3, none⟩ = some (.int .u8 (p.addr 2 : Nat)) ∧ W.cell? ⟨w.heap.size, 4, none⟩ = some (.int .u8 (p.addr 3 : Nat)) ∧ W.cell? ⟨w.heap.size, 5, none⟩ = some (.int .u8 (p.addr 4 : Nat)) ∧ W.cell? ⟨w.heap.size, 6, none⟩ = some (.int .u8 (p.addr 5 : Nat)) ∧ W.cell? ⟨w.heap.size, 7, none⟩ = some (.int .u8 (p.addr 6 : Nat)) ∧ W.cell? ⟨w.heap.size, 8, none⟩ = some (.int .u8 (p.addr 7 : Nat)) ∧ W.cell? ⟨w.heap.size, 9, none⟩ = some (.int .u8 (p.addr 8 : Nat)) ∧ W.cell? ⟨w.heap.size, 10, none⟩ = some (.int .u8 (p.addr 9 : Nat)) ∧ W.cell? ⟨w.heap.size, 11, none⟩ = some (.int .u8 (p.addr 10 : Nat)) ∧ W.cell? ⟨w.heap.size, 12, none⟩ = some (.int .u8 (p.addr 11 : Nat)) ∧ W.cell? ⟨w.heap.size, 13, none⟩ = some (.int .u8 (p.addr 12 : Nat)) ∧ W.cell? ⟨w.heap.size, 14, none⟩ = some (.int .u8 (p.addr 13 : Nat)) ∧ W.cell? ⟨w.heap.size, 15, none⟩ = some (.int .u8 (p.addr 14 : Nat)) ∧ W.cell? ⟨w.heap.size, 16, none⟩ = some (.int .u8 (p.addr 15 : Nat)) ∧ W.cell? ⟨w.heap.size, 17, none⟩ = some (.int .i64 p.bits))
        (first | exact Hd.out.cells | exact H9.out.cells)
        (first | (go_simp; go_at_call 38; refine (rWidth_lit p _).mono ?_; rintro e w9 ⟨rfl, h9⟩; have H9 : Hid (PreAt w.heap.size p w9) := Hd.out.below h9.out; have HB9 : Hid (Below w.heap.size w w9) := below_then HBd.out HBd.out.size h9.out; clear h9))
      clear c17 Hd HBd
      by_cases hw : p.bits = widthV p
      · have d1 : decide (p.bits < widthV p) = false := decide_eq_false (by omega)
        have d2 : widthV p ≤ p.bits := by omega
        have HO : Hid (strOfNums (ipT p) = t) := by show _ = _; unfold ipT; rw [if_pos hw, List.append_nil, Ht.out]
        clear hw
        go_wp2_with fail
        all_goals
          go_ret
          exact ⟨by rw [HO.out]; rfl, HB9⟩
      · have d1 : decide (p.bits < widthV p) = true := decide_eq_true (by have := HBT.out; omega)
        have d2 : p.bits < widthV p := by have := HBT.out; omega
        have c17 := H9.out.bits
        obtain ⟨n, hn⟩ : ∃ n : Nat, p.bits = n := ⟨p.bits.toNat, by have := HBT.out; omega⟩
        have HN128 : Hid (n ≤ 128) := by
          have h1 := HBT.out
          have : widthV p ≤ 128 := by unfold widthV; split <;> omega
          show _ ≤ _; omega
        have HO : Hid (strOfNums (ipT p) = t ++ ⟨#[47]⟩ ++ strOfNums (digs 10 n)) := by
          show _ = _
          unfold ipT
          rw [if_neg hw, show p.bits.toNat = n by omega, ← Ht.out, show (⟨#[47]⟩ : ByteArray) = strOfNums [47] from rfl, nums_append', nums_append', List.append_assoc]
          rfl
        have HDL : Hid ((strOfNums (digs 10 n)).size ≤ 3) := by
          show _ ≤ _
          rw [nums_size]
          exact digs_len 10 (by omega) 2 n (by have := HN128.out; omega)
        have HIt : Hid (∀ W, Calls Tryz.prog 20 #[.int .i64 p.bits, .int .i64 10] W fun e w' => e = .returned (.string (strOfNums (digs 10 n))) ∧ Hid (Below W.heap.size W w')) := by
          intro W
          rw [hn]
          exact Digits_any 10 (by omega) (by omega) n W (by have := HN128.out; omega)
        clear hw hn
        have u2 : t.size ≤ 1000 := HTS.out
        have u3 : (⟨#[47]⟩ : ByteArray).size = 1 := rfl
        have u4 : (t ++ ⟨#[47]⟩).size = t.size + 1 := by rw [ByteArray.size_append]; rfl
        go_wp2_with fail
        all_goals
          refine (HIt.out _).mono ?_
          rintro e w2 ⟨rfl, hb2⟩
          obtain ⟨u, Hu⟩ : ∃ u, Hid (strOfNums (digs 10 n) = u) := ⟨_, rfl⟩
          rw [Hu.out] at HO HDL ⊢
          have u1 := HDL.out
          go_wp2_with fail
          all_goals
            go_ret
            exact ⟨by rw [HO.out]; rfl, below_then HB9.out HB9.out.size hb2.out⟩
end Go.Proofs.YtngokkebjadoiaaGreatDoor

