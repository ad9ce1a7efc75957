/- What the claim uses of the text S5. -/
import Derived.Test.YtngokkebjadoiaaGreatDoorVS4
import Derived.Test.YtngokkebjadoiaaGreatDoorVI2
import Derived.Lib.ItoaMem
set_option linter.unusedVariables false
set_option linter.unusedSimpArgs false
namespace Go.Proofs.YtngokkebjadoiaaGreatDoor
open Go.RowKit Go.PlainAid
open Go.Proofs.YtngokkebjadoiaaGreatDoorW.PrintWords hiding bt
open Go.Proofs.YtngokkebjadoiaaGreatDoorW.PrintMore

/-- The library's tables hold what the program's text lays. -/
structure Caps (w : World) : Prop where
  pow : Lib.TabIs Tryz.prog w "internal/strconv.uint64pow10" .u64 Lib.pow10Tab
  tz : w.cell? ⟨9, 15, none⟩ = some (.int .u8 4)
theorem Caps.below {w w' : World} (h : Caps w) (hb : Below w.heap.size w w') : Caps w' := by
  refine ⟨?_, cell_below hb h.tz⟩
  have h := h.pow
  unfold Lib.TabIs World.var? at h ⊢
  rw [show Tryz.prog.globalNamed "internal/strconv.uint64pow10" = some 3 by kernel_rfl] at h ⊢
  simp only [Option.bind_some] at h ⊢
  have hlt : 3 < w.heap.size := by
    rcases Nat.lt_or_ge 3 w.heap.size with h' | h'
    · exact h'
    · rw [Array.getElem?_eq_none h'] at h; cases h
  rw [hb.block _ hlt]
  exact h
theorem below_grow {w : World} (k : Nat) (os : Array Obj) : Below w.heap.size w (Sort.grow (w.drewN k) os) :=
  ⟨rfl, rfl, rfl, by simp [Sort.grow, World.drewN], fun j hj => by simp [Sort.grow, World.drewN, Array.getElem?_append_left hj]⟩
theorem itoa_text (n : Nat) : (⟨(Lib.itoa (n : Int)).toArray⟩ : ByteArray) = strOfNums (digs 10 n) := by rw [Lib.itoa_nonneg, dec_text]

theorem Itoa_any (n : Nat) (h : n ≤ 9223372036854775807) (w : World) (hc : Caps w) :
    Calls Tryz.prog 34 #[.int .i64 n] w fun e w' => e = .returned (.string (strOfNums (digs 10 n))) ∧ Hid (Below w.heap.size w w') := by
  refine (strconv_Itoa n (by omega) (by omega) w hc.pow).mono ?_
  rintro e w' ⟨rfl, k, os, rfl⟩
  exact ⟨by rw [itoa_text], below_grow k os⟩
theorem FormatInt10_any (n : Nat) (h : n ≤ 9223372036854775807) (w : World) (hc : Caps w) :
    Calls Tryz.prog 69 #[.int .i64 n, .int .i64 10] w fun e w' => e = .returned (.string (strOfNums (digs 10 n))) ∧ Hid (Below w.heap.size w w') := by
  refine (strconv_FormatInt_10 n (by omega) (by omega) w hc.pow).mono ?_
  rintro e w' ⟨rfl, k, os, rfl⟩
  exact ⟨by rw [itoa_text], below_grow k os⟩

open Go.Sort in
theorem holds_zero0 (w : World) (T : TypeId) (nd : Nat) (hs : nd ≤ 24) : Holds (fun (b : UInt8) => Value.int .u8 (b.toNat : Int)) (w.alloc (.cells Lib.zeros24 T)) w.heap.size 0 (Array.replicate nd (0 : UInt8)) := fun j hj => by
  have hj' : j < nd := by simpa using hj
  refine ⟨?_, World.frozen?_alloc_new _ _ _ _⟩
  rw [World.cell?_alloc_new, Lib.zeros24_at _ (by omega), getElem!_pos _ j hj]
  simp
open Go.Sort in
theorem fin_pos0 (w : World) (o : Obj) (dk : Array UInt8) (k : Nat) : ∃ os, (putRow (fun (b : UInt8) => Value.int .u8 (b.toNat : Int)) (w.alloc o) w.heap.size 0 dk).drewN k = grow (w.drewN k) os := by
  rw [alloc_eq_grow]
  obtain ⟨os', _, e⟩ := putRow_grow_new (fun (b : UInt8) => Value.int .u8 (b.toNat : Int)) w #[o] w.heap.size 0 dk (Nat.le_refl _)
  exact ⟨os', by rw [e]; rfl⟩
open Go.Sort in
set_option maxHeartbeats 2000000 in
set_option maxRecDepth 100000 in
theorem iFormatUint10_any (u : Nat) (hu : u ≤ 4294967295) (w : World) (hc : Caps w) :
    Calls Tryz.prog 35 #[.int .u64 u, .int .i64 10] w fun e w' => e = .returned (.string (strOfNums (digs 10 u))) ∧ Hid (Below w.heap.size w w') := by
  by_cases hs : u < 100
  · have HT := Lib.hid (dec_text u)
    go_enter Tryz.func35, Tryz.ntmps35
    go_wp2_with (go_at_call 51; refine (internal_strconv_small u hs _).mono ?_; rintro e w' ⟨rfl, rfl⟩; rw [HT.out])
    go_ret
    exact ⟨rfl, Below.refl _ _⟩
  · have hu1 : 1 ≤ u := by omega
    have hu64 : u < 18446744073709551616 := by omega
    have hnd20 : Lib.nDigits u ≤ 20 := by have := Lib.numDigits_eq u hu1 hu64; split at this <;> omega
    have hb3 : Lib.nDigits u ≤ 24 := by omega
    have HT := Lib.hid (dec_text u)
    have hal : Tryz.prog.arrayLen 94 = 24 := by kernel_rfl
    have hsl1 : ∀ W, (Instr.sliceAt 94 (.pointer (some ⟨w.heap.size, 0, none⟩)) none (some (.int .i64 ((Lib.nDigits u : Nat) : Int))) none).run Tryz.prog W = .ok (.slice (some ⟨w.heap.size, 0, none⟩) (Lib.nDigits u) 24) W := fun W => by
      rw [run_sliceAt_array_h W 94 ⟨w.heap.size, 0, none⟩ (by rw [hal]; simp [Program.arrayLen, Program.elem, Tryz.underlying94]) .i64 ((Lib.nDigits u : Nat) : Int) (by omega) (by rw [hal]; omega)]
      go_simp
    have hH0 := holds_zero0 w 94 (Lib.nDigits u) hb3
    have hfmt := internal_strconv_formatBase10 w.heap.size 0 24 u (Array.replicate (Lib.nDigits u) 0) (w.alloc (.cells Lib.zeros24 94)) hH0 (by rw [Array.size_replicate]; exact Lib.lt_pow_nDigits u) hu64 (by rw [Array.size_replicate]; omega)
    rw [Array.size_replicate] at hfmt
    have HH0 := Lib.hid hH0
    clear hH0 hal
    go_enter Tryz.func35, Tryz.ntmps35
    go_wp2_with (first | (go_at_call 52; refine (internal_strconv_numDigits u hu1 hu64 _ (Lib.tabIs_alloc hc.pow _)).mono ?_; rintro e w' ⟨rfl, rfl⟩))
    go_at_call 53
    refine hfmt.mono ?_
    rintro e w' ⟨rfl, k, v', dk, rfl, hF⟩
    have hcv : (convert 71 9 (.slice (some ⟨w.heap.size, 0, none⟩) (Lib.nDigits u) 24)).run Tryz.prog ((putRow (fun (b : UInt8) => Value.int .u8 (b.toNat : Int)) (w.alloc (.cells Lib.zeros24 94)) w.heap.size 0 dk).drewN k) = .ok (.string ⟨(Lib.decDigits u).toArray⟩) ((putRow (fun (b : UInt8) => Value.int .u8 (b.toNat : Int)) (w.alloc (.cells Lib.zeros24 94)) w.heap.size 0 dk).drewN k) := by
      have h := run_convert_bytes_back (P := Tryz.prog) ((putRow (fun (b : UInt8) => Value.int .u8 (b.toNat : Int)) (w.alloc (.cells Lib.zeros24 94)) w.heap.size 0 dk).drewN k) 71 9 5 ⟨w.heap.size, 0, none⟩ 24 (Lib.decDigits u) Tryz.underlying71 Tryz.underlying5 Tryz.underlying9 (fun j hj => by
        rw [Lib.row_is_numeral hF j hj, Lib.add_plain, World.cell?_drewN]
        exact cell?_putRow (fun (b : UInt8) => Value.int .u8 (b.toNat : Int)) _ w.heap.size 0 _ dk HH0.out (by rw [hF.size, Array.size_replicate]) j (by rw [hF.size]; rw [Lib.decDigits_length] at hj; exact hj))
      rw [Lib.decDigits_length] at h
      exact h
    rw [HT.out] at hcv
    go_wp2
    go_ret
    obtain ⟨os, eo⟩ := fin_pos0 w (.cells Lib.zeros24 94) dk k
    refine ⟨rfl, ?_⟩
    show Below _ _ _
    rw [show Lib.zeros24 = Lib.zeros24 from rfl] at eo
    erw [eo]
    exact below_grow k os
theorem FormatUint10_any (u : Nat) (hu : u ≤ 4294967295) (w : World) (hc : Caps w) :
    Calls Tryz.prog 14 #[.int .u64 u, .int .i64 10] w fun e w' => e = .returned (.string (strOfNums (digs 10 u))) ∧ Hid (Below w.heap.size w w') := by
  go_enter Tryz.func14, Tryz.ntmps14
  go_wp2_with (go_at_call 35; refine (iFormatUint10_any u hu _ hc).mono ?_; rintro e w2 ⟨rfl, hb2⟩)
  go_ret
  exact ⟨rfl, hb2⟩

theorem lowd_fin : ∀ n : Fin 16, ((⟨#[48, 49, 50, 51, 52, 53, 54, 55, 56, 57, 97, 98, 99, 100, 101, 102, 103, 104, 105, 106, 107, 108, 109, 110, 111, 112, 113, 114, 115, 116, 117, 118, 119, 120, 121, 122]⟩ : ByteArray)[n.val]'(by have := n.isLt; show n.val < 36; omega)).toNat = lowB (hexc (n.val : Int)) := by decide +kernel
theorem lowd_at (n : Nat) (h1 : n < 16) {h : n < (⟨#[48, 49, 50, 51, 52, 53, 54, 55, 56, 57, 97, 98, 99, 100, 101, 102, 103, 104, 105, 106, 107, 108, 109, 110, 111, 112, 113, 114, 115, 116, 117, 118, 119, 120, 121, 122]⟩ : ByteArray).size} : ((((⟨#[48, 49, 50, 51, 52, 53, 54, 55, 56, 57, 97, 98, 99, 100, 101, 102, 103, 104, 105, 106, 107, 108, 109, 110, 111, 112, 113, 114, 115, 116, 117, 118, 119, 120, 121, 122]⟩ : ByteArray)[n]'h).toNat : Nat) : Int) = lowB (hexc n) := lowd_fin ⟨n, h1⟩
theorem hexl_small (n : Nat) (h : n < 16) : hexl n = [lowB (hexc n)] := by unfold hexl; rw [digs_small 16 n h]; rfl
theorem hexl_great (n : Nat) (h : 16 ≤ n) : hexl n = hexl (n / 16) ++ [lowB (hexc ((n % 16 : Nat) : Int))] := by unfold hexl; rw [digs_great 16 n h (by omega), List.map_append]; rfl
/-- formatBits' row of bytes: what stands at its end. -/
def Tail (cs : Array Value) (l : List Int) : Prop := cs.size = 65 ∧ l.length ≤ 65 ∧ ∀ (j : Nat) (x : Int), l[j]? = some x → cs[65 - l.length + j]? = some (.int .u8 x)
theorem Tail.put {cs : Array Value} {l : List Int} (h : Tail cs l) (hl : l.length ≤ 64) (x : Int) : Tail (cs.setIfInBounds (64 - l.length) (.int .u8 x)) (x :: l) := by
  obtain ⟨h1, h2, h3⟩ := h
  refine ⟨by simp [h1], by simp; omega, ?_⟩
  intro j y hj
  cases j with
  | zero =>
    simp at hj
    subst hj
    rw [List.length_cons, Nat.add_zero, show 65 - (l.length + 1) = 64 - l.length by omega]
    simp [Array.getElem?_setIfInBounds]
    omega
  | succ j =>
    rw [List.getElem?_cons_succ] at hj
    have := h3 j y hj
    rw [List.length_cons, show 65 - (l.length + 1) + (j + 1) = 65 - l.length + j by omega, Array.getElem?_setIfInBounds, if_neg (by omega)]
    exact this

theorem pow2_16 (w : World) : Calls Tryz.prog 75 #[.int .i64 16] w fun e w' => e = .returned (.bool true) ∧ w' = w := by
  have hb : bits .and .i64 16 15 = 0 := by decide +kernel
  go_enter Tryz.func75, Tryz.ntmps75
  go_wp2
  go_ret
  exact ⟨rfl, rfl⟩
theorem tz64_16 (w : World) (hc : w.cell? ⟨9, 15, none⟩ = some (.int .u8 4)) : Calls Tryz.prog 89 #[.int .u64 16] w fun e w' => e = .returned (.int .i64 4) ∧ w' = w := by
  have h1 : IntKind.u64.wrap (-16) = 18446744073709551600 := by decide +kernel
  have h2 : bits .and .u64 16 18446744073709551600 = 16 := by decide +kernel
  have h3 : IntKind.u64.wrap (16 * 285870213051353865) = 4573923408821661840 := by decide +kernel
  have h4 : (4573923408821661840 : Int) / 288230376151711744 = 15 := by decide +kernel
  go_enter Tryz.func89, Tryz.ntmps89
  go_wp2
  go_ret
  exact ⟨rfl, rfl⟩
theorem tz_16 (w : World) (hc : w.cell? ⟨9, 15, none⟩ = some (.int .u8 4)) : Calls Tryz.prog 76 #[.int .u64 16] w fun e w' => e = .returned (.int .i64 4) ∧ w' = w := by
  go_enter Tryz.func76, Tryz.ntmps76
  go_wp2_with (go_at_call 89; refine (tz64_16 _ hc).mono ?_; rintro e w2 ⟨rfl, rfl⟩)
  go_ret
  exact ⟨rfl, rfl⟩

theorem and15 (u : Nat) (hu : u < 65536) : bits .and .u64 (u : Int) 15 = ((u % 16 : Nat) : Int) := by
  simp [bits, IntKind.wrap_u64]
  rw [show IntKind.u64.bits = 64 from rfl, Nat.mod_eq_of_lt (a := u) (by omega), show 15 % 2 ^ 64 = 2 ^ 4 - 1 from rfl, Nat.and_two_pow_sub_one_eq_mod]
  omega
theorem run_tail (W : World) (b j : Nat) (cs : Array Value) (l : List Int) (hr : Row 119 b cs W) (ht : Tail cs l) (hj : j + l.length = 65) (hx : ∀ x ∈ l, 0 ≤ x ∧ x ≤ 255) :
    (convert 71 9 (.slice (some ⟨b, j, none⟩) (65 - j) (65 - j))).run Tryz.prog W = .ok (.string (strOfNums l)) W := by
  have h := run_convert_bytes_back (P := Tryz.prog) W 71 9 5 ⟨b, j, none⟩ (65 - j) (l.map fun n => UInt8.ofNat n.toNat) Tryz.underlying71 Tryz.underlying5 Tryz.underlying9 (fun k hk => by
    rw [List.length_map] at hk
    rw [Lib.add_plain, List.getElem_map]
    have h2 := ht.2.2 k _ (List.getElem?_eq_getElem hk)
    have h3 := hx _ (List.getElem_mem hk)
    rw [show 65 - l.length = j by omega] at h2
    rw [hr.cell _ _ h2]
    congr 2
    rw [UInt8.toNat_ofNat']
    omega)
  rw [List.length_map, show l.length = 65 - j by omega] at h
  exact h
set_option maxHeartbeats 4000000 in
set_option maxRecDepth 100000 in
theorem formatBits16_any (n : Nat) (hn : n < 65536) (w : World) (hc : Caps w) :
    Calls Tryz.prog 54 #[.slice none 0 0, .int .u64 n, .int .i64 16, .bool false, .bool false] w fun e w' => e = .returned (.tuple #[.slice none 0 0, .string (strOfNums (hexl n))]) ∧ Hid (Below w.heap.size w w') := by
  have H0 : Hid (Row 119 w.heap.size Tryz.zeroCells119 (w.alloc (.cells Tryz.zeroCells119 119))) := Row.new w _ _ rfl
  have HB0 : Hid (Below w.heap.size w (w.alloc (.cells Tryz.zeroCells119 119))) := (Below.refl _ _).alloc (Nat.le_refl _) _
  have HC0 := Lib.hid (hc.below HB0.out)
  have HT0 : Hid (Tail Tryz.zeroCells119 []) := ⟨by kernel_rfl, by simp, fun j x hx => by simp at hx⟩
  clear hc
  go_enter Tryz.func54, Tryz.ntmps54
  go_upto_region 4 with (fail)
  generalize w.alloc (.cells Tryz.zeroCells119 119) = w0 at *
  generalize Tryz.zeroCells119 = cs0 at *
  have hb16 : IntKind.u64.wrap 16 = 16 := by decide +kernel
  go_wp2_with (first | (go_at_call 75; refine (pow2_16 _).mono ?_; rintro e w2 ⟨rfl, rfl⟩) | (go_at_call 76; refine (tz_16 _ HC0.out.tz).mono ?_; rintro e w2 ⟨rfl, rfl⟩))
  go_loopg [1, 13] 3 (fun k v1 v13 w' => ∃ (u i : Nat) (cs : Array Value) (l : List Int), v1 = .int .u64 u ∧ v13 = .int .i64 i ∧ Hid (i + l.length = 65 ∧ k + l.length = 3 ∧ u < 16 ^ (k + 1)) ∧ Hid (Row 119 w.heap.size cs w') ∧ Hid (Tail cs l) ∧ Hid (hexl n = hexl u ++ l) ∧ Hid (Below w.heap.size w w'))
  case atStart => exact ⟨n, 65, cs0, [], rfl, rfl, ⟨rfl, rfl, hn⟩, H0, HT0, (List.append_nil _).symm, HB0⟩
  case round =>
    obtain ⟨u, i, cs, l, rfl, rfl, HI, HR, HT, HE, HB⟩ := hrel
    obtain ⟨j, rfl⟩ : ∃ j, i = j + 1 := ⟨i - 1, by have := HI.out; omega⟩
    obtain ⟨v, hv⟩ : ∃ v, cs[j]? = some v := ⟨_, Array.getElem?_eq_getElem (by have := HT.out.1; have := HI.out; omega)⟩
    have c0 := HR.out.cell j v hv
    have f0 := HR.out.frozen j
    have hj65 : j < 65 := by have := HI.out; omega
    have hu64 : u < 65536 := by
      have h1 := HI.out
      have h2 : 16 ^ (gk + 1) ≤ 16 ^ 4 := Nat.pow_le_pow_right (by omega) (by omega)
      omega
    have HL : Hid (64 - l.length = j ∧ l.length ≤ 64) := by have := HI.out; show _ ∧ _; omega
    clear hv H0 HB0 HT0
    by_cases hlt : 16 ≤ u
    · cases gk with
      | zero => have := HI.out.2.2; omega
      | succ k1 =>
        have a15 := and15 u hu64
        have HE2 := HE.out
        rw [hexl_great u hlt, List.append_assoc] at HE2
        have hq : (u : Int) / 16 = ((u / 16 : Nat) : Int) := by omega
        have HQ : Hid (u / 16 < 16 ^ (k1 + 1)) := by
          have := HI.out.2.2
          rw [Nat.pow_succ] at this
          show _ < _
          omega
        have hr16 : u % 16 < 16 := Nat.mod_lt _ (by omega)
        obtain ⟨r, hr⟩ : ∃ r, u % 16 = r := ⟨_, rfl⟩
        obtain ⟨q, hqq⟩ : ∃ q, u / 16 = q := ⟨_, rfl⟩
        rw [hr] at a15 HE2 hr16
        rw [hqq] at hq HQ HE2
        clear hr hqq
        have HE3 := Lib.hid HE2
        clear HE2
        have HP := Lib.hid (HT.out.put HL.out.2 (lowB (hexc r)))
        rw [HL.out.1] at HP
        go_wp2_with fail
        go_roundg k1
        case measure => omega
        case rel =>
          rw [lowd_at r hr16]
          exact ⟨q, j, _, lowB (hexc r) :: l, by go_num, by go_num, by have := HI.out; show _ ∧ _ ∧ _; rw [List.length_cons]; exact ⟨by omega, by omega, HQ.out⟩, HR.out.setCell j _, HP, HE3, HB.out.setCell (Nat.le_refl _) _⟩
    · have hu16 : u < 16 := by omega
      have HP := Lib.hid (HT.out.put HL.out.2 (lowB (hexc u)))
      rw [HL.out.1] at HP
      have HE2 : Hid (lowB (hexc u) :: l = hexl n) := by
        show _ = _
        rw [HE.out, hexl_small u hu16]
        rfl
      rw [HE2.out] at HP
      have HRR := Lib.hid (HR.out.setCell j (.int .u8 (lowB (hexc u))))
      have HLen : Hid (j + (hexl n).length = 65) := by
        have := HI.out
        show _ = _
        rw [← HE2.out, List.length_cons]
        omega
      have hcv := run_tail _ _ j _ _ HRR.out HP.out HLen.out (hexl_range n)
      have hal : Tryz.prog.arrayLen 119 = 65 := by kernel_rfl
      have hsl : ∀ W, (Instr.sliceAt 119 (.pointer (some ⟨w.heap.size, 0, none⟩)) (some (.int .i64 (j : Int))) none none).run Tryz.prog W = .ok (.slice (some ⟨w.heap.size, j, none⟩) (65 - j) (65 - j)) W := fun W => by
        rw [run_sliceAt_array_l W 119 ⟨w.heap.size, 0, none⟩ (by rw [hal]; simp [Program.arrayLen, Program.elem, Tryz.underlying119]) .i64 (j : Int) (by omega) (by rw [hal]; omega)]
        go_simp
        omega
      have hd := fun h => lowd_at u hu16 (h := h)
      clear hal
      go_wp2_with fail
      go_ret2
      exact ⟨rfl, HB.out.setCell (Nat.le_refl _) _⟩
theorem FormatInt16_any (n : Nat) (hn : n < 65536) (w : World) (hc : Caps w) :
    Calls Tryz.prog 69 #[.int .i64 n, .int .i64 16] w fun e w' => e = .returned (.string (strOfNums (hexl n))) ∧ Hid (Below w.heap.size w w') := by
  have h1 : Calls Tryz.prog 71 #[.int .i64 n, .int .i64 16] w fun e w' => e = .returned (.string (strOfNums (hexl n))) ∧ Hid (Below w.heap.size w w') := by
    have HH := Lib.hid (formatBits16_any n hn w hc)
    have hw : IntKind.u64.wrap (n : Int) = (n : Int) := by rw [IntKind.wrap_u64]; omega
    clear hc
    go_enter Tryz.func71, Tryz.ntmps71
    go_wp2_with (go_at_call 54; refine HH.out.mono ?_; rintro e w2 ⟨rfl, hb2⟩)
    go_ret
    exact ⟨rfl, hb2⟩
  have HH := Lib.hid h1
  clear h1
  go_enter Tryz.func69, Tryz.ntmps69
  go_wp2_with (go_at_call 71; refine HH.out.mono ?_; rintro e w2 ⟨rfl, hb2⟩)
  go_ret
  exact ⟨rfl, hb2⟩
end Go.Proofs.YtngokkebjadoiaaGreatDoor

