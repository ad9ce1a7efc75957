/- What the claim uses of the text LB. -/
import Derived.Test.YtangheahliekeaaGreatDoorVS4
import Derived.Test.YtangheahliekeaaGreatDoorVI1
import Derived.Test.YtangheahliekeaaGreatDoorVIC
import Derived.Lib.ItoaMem
set_option linter.unusedVariables false
set_option linter.unusedSimpArgs false
namespace Go.Proofs.YtangheahliekeaaGreatDoor
open Go.RowKit Go.PlainAid
open Go.Proofs.YtangheahliekeaaGreatDoorW.PrintWords hiding bt
open Go.Proofs.YtangheahliekeaaGreatDoorW.PrintMore


/-- The library's tables hold what the program's text lays. -/
structure Caps (w : World) : Prop where
  pow : Lib.TabIs Tryz.prog w "internal/strconv.uint64pow10" .u64 Lib.pow10Tab
  tz : w.cell? ⟨19, 15, none⟩ = some (.int .u8 4)
theorem Caps.below {w w' : World} (h : Caps w) (hb : Below w.heap.size w w') : Caps w' := by
  refine ⟨?_, cell_below hb h.tz⟩
  have h := h.pow
  unfold Lib.TabIs World.var? at h ⊢
  rw [show Tryz.prog.globalNamed "internal/strconv.uint64pow10" = some 13 by kernel_rfl] at h ⊢
  simp only [Option.bind_some] at h ⊢
  have hlt : 13 < w.heap.size := by
    rcases Nat.lt_or_ge 13 w.heap.size with h' | h'
    · exact h'
    · rw [Array.getElem?_eq_none h'] at h; cases h
  rw [hb.block _ hlt]
  exact h
theorem below_grow {w : World} (k : Nat) (os : Array Obj) : Below w.heap.size w (Sort.grow (w.drewN k) os) :=
  ⟨rfl, rfl, rfl, by simp [Sort.grow, World.drewN], fun j hj => by simp [Sort.grow, World.drewN, Array.getElem?_append_left hj]⟩
theorem itoa_text (n : Nat) : (⟨(Lib.itoa (n : Int)).toArray⟩ : ByteArray) = strOfNums (digs 10 n) := by rw [Lib.itoa_nonneg, dec_text]
theorem Itoa_any (n : Nat) (h : n ≤ 9223372036854775807) (w : World) (hc : Caps w) :
    Calls Tryz.prog 51 #[.int .i64 n] w fun e w' => e = .returned (.string (strOfNums (digs 10 n))) ∧ Hid (Below w.heap.size w w') := by
  refine (strconv_Itoa n (by omega) (by omega) w hc.pow).mono ?_
  rintro e w' ⟨rfl, k, os, rfl⟩
  exact ⟨by rw [itoa_text], below_grow k os⟩
open Go.Sort in
theorem holds_zero0 (w : World) (T : TypeId) (nd : Nat) (hs : nd ≤ 24) : Holds (fun (b : UInt8) => Value.int .u8 (b.toNat : Int)) (w.alloc (.cells Lib.zeros24 T)) w.heap.size 0 (Array.replicate nd (0 : UInt8)) := fun j hj => by
  have hj' : j < nd := by simpa using hj
  refine ⟨?_, World.frozen?_alloc_new _ _ _ _⟩
  rw [World.cell?_alloc_new, Lib.zeros24_at _ (by omega), getElem!_pos _ j hj]
  simp
open Go.Sort in
theorem fin_pos0 (w : World) (o : Obj) (dk : Array UInt8) (k : Nat) : ∃ os, (putRow (fun (b : UInt8) => Value.int .u8 (b.toNat : Int)) (w.alloc o) w.heap.size 0 dk).drewN k = grow (w.drewN k) os := by
  rw [alloc_eq_grow]
  obtain ⟨os', _, e⟩ := putRow_grow_new (fun (b : UInt8) => Value.int .u8 (b.toNat : Int)) w #[o] w.heap.size 0 dk (Nat.le_refl _)
  exact ⟨os', by rw [e]; rfl⟩
open Go.Sort in
set_option maxHeartbeats 2000000 in
set_option maxRecDepth 100000 in
theorem iFormatUint10_any (u : Nat) (hu : u ≤ 4294967295) (w : World) (hc : Caps w) :
    Calls Tryz.prog 89 #[.int .u64 u, .int .i64 10] w fun e w' => e = .returned (.string (strOfNums (digs 10 u))) ∧ Hid (Below w.heap.size w w') := by
  by_cases hs : u < 100
  · have HT := Lib.hid (dec_text u)
    go_enter Tryz.func89, Tryz.ntmps89
    go_wp2_with (go_at_call 117; refine (internal_strconv_small u hs _).mono ?_; rintro e w' ⟨rfl, rfl⟩; rw [HT.out])
    go_ret
    exact ⟨rfl, Below.refl _ _⟩
  · have hu1 : 1 ≤ u := by omega
    have hu64 : u < 18446744073709551616 := by omega
    have hnd20 : Lib.nDigits u ≤ 20 := by have := Lib.numDigits_eq u hu1 hu64; split at this <;> omega
    have hb3 : Lib.nDigits u ≤ 24 := by omega
    have HT := Lib.hid (dec_text u)
    have hal : Tryz.prog.arrayLen 200 = 24 := by kernel_rfl
    have hsl1 : ∀ W, (Instr.sliceAt 200 (.pointer (some ⟨w.heap.size, 0, none⟩)) none (some (.int .i64 ((Lib.nDigits u : Nat) : Int))) none).run Tryz.prog W = .ok (.slice (some ⟨w.heap.size, 0, none⟩) (Lib.nDigits u) 24) W := fun W => by
      rw [run_sliceAt_array_h W 200 ⟨w.heap.size, 0, none⟩ (by rw [hal]; simp [Program.arrayLen, Program.elem, Tryz.underlying200]) .i64 ((Lib.nDigits u : Nat) : Int) (by omega) (by rw [hal]; omega)]
      go_simp
    have hH0 := holds_zero0 w 200 (Lib.nDigits u) hb3
    have hfmt := internal_strconv_formatBase10 w.heap.size 0 24 u (Array.replicate (Lib.nDigits u) 0) (w.alloc (.cells Lib.zeros24 200)) hH0 (by rw [Array.size_replicate]; exact Lib.lt_pow_nDigits u) hu64 (by rw [Array.size_replicate]; omega)
    rw [Array.size_replicate] at hfmt
    have HH0 := Lib.hid hH0
    clear hH0 hal
    go_enter Tryz.func89, Tryz.ntmps89
    go_wp2_with (first | (go_at_call 118; refine (internal_strconv_numDigits u hu1 hu64 _ (Lib.tabIs_alloc hc.pow _)).mono ?_; rintro e w' ⟨rfl, rfl⟩))
    go_at_call 119
    refine hfmt.mono ?_
    rintro e w' ⟨rfl, k, v', dk, rfl, hF⟩
    have hcv : (convert 140 9 (.slice (some ⟨w.heap.size, 0, none⟩) (Lib.nDigits u) 24)).run Tryz.prog ((putRow (fun (b : UInt8) => Value.int .u8 (b.toNat : Int)) (w.alloc (.cells Lib.zeros24 200)) w.heap.size 0 dk).drewN k) = .ok (.string ⟨(Lib.decDigits u).toArray⟩) ((putRow (fun (b : UInt8) => Value.int .u8 (b.toNat : Int)) (w.alloc (.cells Lib.zeros24 200)) w.heap.size 0 dk).drewN k) := by
      have h := run_convert_bytes_back (P := Tryz.prog) ((putRow (fun (b : UInt8) => Value.int .u8 (b.toNat : Int)) (w.alloc (.cells Lib.zeros24 200)) w.heap.size 0 dk).drewN k) 140 9 5 ⟨w.heap.size, 0, none⟩ 24 (Lib.decDigits u) Tryz.underlying140 Tryz.underlying5 Tryz.underlying9 (fun j hj => by
        rw [Lib.row_is_numeral hF j hj, Lib.add_plain, World.cell?_drewN]
        exact cell?_putRow (fun (b : UInt8) => Value.int .u8 (b.toNat : Int)) _ w.heap.size 0 _ dk HH0.out (by rw [hF.size, Array.size_replicate]) j (by rw [hF.size]; rw [Lib.decDigits_length] at hj; exact hj))
      rw [Lib.decDigits_length] at h
      exact h
    rw [HT.out] at hcv
    go_wp2
    go_ret
    obtain ⟨os, eo⟩ := fin_pos0 w (.cells Lib.zeros24 200) dk k
    refine ⟨rfl, ?_⟩
    show Below _ _ _
    rw [show Lib.zeros24 = Lib.zeros24 from rfl] at eo
    erw [eo]
    exact below_grow k os
theorem FormatUint10_any (u : Nat) (hu : u ≤ 4294967295) (w : World) (hc : Caps w) :
    Calls Tryz.prog 63 #[.int .u64 u, .int .i64 10] w fun e w' => e = .returned (.string (strOfNums (digs 10 u))) ∧ Hid (Below w.heap.size w w') := by
  go_enter Tryz.func63, Tryz.ntmps63
  go_wp2_with (go_at_call 89; refine (iFormatUint10_any u hu _ hc).mono ?_; rintro e w2 ⟨rfl, hb2⟩)
  go_ret
  exact ⟨rfl, hb2⟩
theorem nums_size (xs : List Int) : (strOfNums xs).size = xs.length := strOfNums_size xs
/-- What the route's functions ask of a query and of memory. -/
structure Fine (E : Nat → Addr) (q : QV) (A : Option Addr) (w : World) : Prop where
  ges : Ges E w
  caps : Caps w
  addr : ∀ i, i < 16 → q.net.addr i < 256
  len : q.pieces.length ≤ 6
  texts : ∀ x ∈ q.pieces, x.1.size ≤ 100
  name : q.name.size ≤ 300
  num : 0 ≤ q.num ∧ q.num ≤ 4294967295
  C : pk.C w A q.pieces.length q.pieces
theorem Fine.below {E : Nat → Addr} {q : QV} {A : Option Addr} {w w' : World} (h : Fine E q A w) (hb : Below w.heap.size w w') : Fine E q A w' :=
  ⟨h.ges.below hb, h.caps.below hb, h.addr, h.len, h.texts, h.name, h.num, Kd.C_below h.C hb⟩
set_option maxHeartbeats 4000000 in
set_option maxRecDepth 100000 in
theorem Path_k6 {E : Nat → Addr} (q : QV) (A : Option Addr) (c : Nat) (w : World) (hf : Fine E q A w) (hk : q.kind = 6) (hok : qOk q = true) :
    Calls Tryz.prog 49 #[.agg (qryA q A c)] w fun e w' => e = .returned (.string (⟨#[97, 117, 116, 110, 117, 109, 47]⟩ ++ strOfNums (digs 10 q.num.toNat))) ∧ Hid (Below w.heap.size w w') := by
  have H : Hid (QAt w.heap.size q A c (w.alloc (.cells (qryA q A c) 100))) := Row.new w _ _ rfl
  have HB : Hid (Below w.heap.size w (w.alloc (.cells (qryA q A c) 100))) := (Below.refl _ _).alloc (Nat.le_refl _) _
  have HF := Lib.hid (hf.below HB.out)
  clear hf
  have HOK := Lib.hid hok
  clear hok
  have HBg := Lib.hid (fun W => begin_k6 q A c W hk)
  go_enter Tryz.func49, Tryz.ntmps49
  go_upto_region 1 with (fail)
  generalize w.alloc (.cells (qryA q A c) 100) = w0 at *
  go_wp2_with (first | ((with_reducible refine wpl_load_qry H.out ?hx ?_); (case hx => rfl)))
  refine (find_Check_any (E := E) q HF.out.addr A c _ HF.out.ges (by have := HF.out.len; omega)).mono ?_
  rintro e w1 ⟨⟨ho, rfl⟩ | ⟨ho, p, rfl⟩, h1⟩
  rotate_left
  · rw [HOK.out] at ho; cases ho
  have H1 := Lib.hid (H.out.below h1.out)
  have HB1 := Lib.hid (below_then HB.out HB.out.size h1.out)
  have HF1 := Lib.hid (HF.out.below h1.out)
  clear H HB HF h1 ho HOK
  go_wp2_with (first | ((with_reducible refine wpl_load_qry H1.out ?hx ?_); (case hx => rfl)))
  refine (HBg.out _).mono ?_
  rintro e w2 ⟨rfl, h2⟩
  have H2 := Lib.hid (H1.out.below h2.out)
  have HB2 := Lib.hid (below_then HB1.out HB1.out.size h2.out)
  have HF2 := Lib.hid (HF1.out.below h2.out)
  clear H1 HB1 HF1 h2 HBg
  have c0 := H2.out.kind
  rw [hk] at c0
  clear hk
  have hz : (⟨#[97, 117, 116, 110, 117, 109, 47]⟩ : ByteArray).size = 7 := rfl
  have c21 := H2.out.num
  have hw : IntKind.u64.wrap q.num = q.num := by have := HF2.out.num; rw [IntKind.wrap_u64]; omega
  have HN : Hid (∀ W, Caps W → Calls Tryz.prog 63 #[.int .u64 q.num, .int .i64 10] W fun e w' => e = .returned (.string (strOfNums (digs 10 q.num.toNat))) ∧ Hid (Below W.heap.size W w')) := by
    intro W hW
    obtain ⟨n, hn⟩ : ∃ n : Nat, q.num = n := ⟨q.num.toNat, by have := HF2.out.num; omega⟩
    rw [hn, Int.toNat_natCast]
    exact FormatUint10_any n (by have := HF2.out.num; omega) W hW
  have n0 := HF2.out.num.1
  have n1 := HF2.out.num.2
  go_wp2_with fail
  refine (HN.out _ HF2.out.caps).mono ?_
  rintro e w3 ⟨rfl, h3⟩
  obtain ⟨t, Ht⟩ : ∃ t, t = strOfNums (digs 10 q.num.toNat) := ⟨_, rfl⟩
  have hts : t.size ≤ 10 := by rw [Ht]; rw [nums_size]; exact digs_len 10 (by omega) 9 _ (by omega)
  rw [← Ht]
  have HT := Lib.hid Ht
  clear Ht
  have HB9 := Lib.hid (below_then HB2.out HB2.out.size h3.out)
  go_wp2_with fail
  go_ret
  exact ⟨by rw [← HT.out]; rfl, HB9⟩
end Go.Proofs.YtangheahliekeaaGreatDoor

