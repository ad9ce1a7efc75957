/- What the claim uses of the text IE. -/
import Derived.Test.YtngokkebjadoiaaGreatDoorVID
set_option linter.unusedVariables false
set_option linter.unusedSimpArgs false
namespace Go.Proofs.YtngokkebjadoiaaGreatDoor
open Go.RowKit Go.PlainAid
open Go.Proofs.YtngokkebjadoiaaGreatDoorW.PrintWords hiding bt
open Go.Proofs.YtngokkebjadoiaaGreatDoorW.PrintMore

set_option maxHeartbeats 4000000 in
set_option maxRecDepth 100000 in
theorem rPath_bad {E : Nat → Addr} (q : QV) (A : Option Addr) (c : Nat) (w : World) (hf : Fine E q A w) (hok : qOk q = false) :
    Calls Tryz.prog 7 #[.agg (qryA q A c)] w fun e w' => e = .returned (.string ⟨#[]⟩) ∧ Hid (Below w.heap.size w w') := by
  have H : Hid (QAt w.heap.size q A c (w.alloc (.cells (qryA q A c) 30))) := Row.new w _ _ rfl
  have HB : Hid (Below w.heap.size w (w.alloc (.cells (qryA q A c) 30))) := (Below.refl _ _).alloc (Nat.le_refl _) _
  have HF := Lib.hid (hf.below HB.out)
  clear hf
  go_enter Tryz.func7, Tryz.ntmps7
  go_upto_region 1 with (fail)
  generalize w.alloc (.cells (qryA q A c) 30) = w0 at *
  go_wp2_with (first | ((with_reducible refine wpl_load_qry H.out ?hx ?_); (case hx => rfl)))
  refine (rQCheck_any q HF.out.addr A c _).mono ?_
  rintro e w2 ⟨z, rfl, hz, h2⟩
  have hz0 : (z != 0) = true := by rw [bne_iff_ne]; intro x; have := hz.out.mp x; rw [hok] at this; cases this
  have hz1 : ¬ z = 0 := by intro x; have := hz.out.mp x; rw [hok] at this; cases this
  have HB1 := Lib.hid (below_then HB.out HB.out.size h2.out)
  clear H HB HF h2 hz hok
  go_wp2_with fail
  go_ret
  exact ⟨rfl, HB1⟩

set_option maxHeartbeats 8000000 in
set_option maxRecDepth 100000 in
theorem rPath_k1 {E : Nat → Addr} (q : QV) (A : Option Addr) (c : Nat) (w : World) (hf : Fine E q A w) (hk : q.kind = 1) (hok : qOk q = true) :
    Calls Tryz.prog 7 #[.agg (qryA q A c)] w fun e w' => e = .returned (.string (⟨#[104, 101, 108, 112]⟩)) ∧ Hid (Below w.heap.size w w') := by
  have H : Hid (QAt w.heap.size q A c (w.alloc (.cells (qryA q A c) 30))) := Row.new w _ _ rfl
  have HB : Hid (Below w.heap.size w (w.alloc (.cells (qryA q A c) 30))) := (Below.refl _ _).alloc (Nat.le_refl _) _
  have HF := Lib.hid (hf.below HB.out)
  clear hf
  have HOK := Lib.hid hok
  clear hok
  go_enter Tryz.func7, Tryz.ntmps7
  go_upto_region 1 with (fail)
  generalize w.alloc (.cells (qryA q A c) 30) = w0 at *
  go_wp2_with (first | ((with_reducible refine wpl_load_qry H.out ?hx ?_); (case hx => rfl)))
  refine (rQCheck_any q HF.out.addr A c _).mono ?_
  rintro e w2 ⟨z, rfl, hz, h2⟩
  obtain rfl : z = 0 := hz.out.mpr HOK.out
  have H2 := Lib.hid (H.out.below h2.out)
  have HB2 := Lib.hid (below_then HB.out HB.out.size h2.out)
  have HF2 := Lib.hid (HF.out.below h2.out)
  clear H HB HF h2 hz HOK
  have c0 := H2.out.kind
  rw [hk] at c0
  clear hk
  have hz : (⟨#[104, 101, 108, 112]⟩ : ByteArray).size = 4 := rfl
  go_wp2_with fail
  go_ret
  exact ⟨by rfl, HB2⟩

set_option maxHeartbeats 8000000 in
set_option maxRecDepth 100000 in
theorem rPath_k2 {E : Nat → Addr} (q : QV) (A : Option Addr) (c : Nat) (w : World) (hf : Fine E q A w) (hk : q.kind = 2) (hok : qOk q = true) :
    Calls Tryz.prog 7 #[.agg (qryA q A c)] w fun e w' => e = .returned (.string (⟨#[100, 111, 109, 97, 105, 110, 47]⟩ ++ strOfNums (escT (ints q.name)))) ∧ Hid (Below w.heap.size w w') := by
  have H : Hid (QAt w.heap.size q A c (w.alloc (.cells (qryA q A c) 30))) := Row.new w _ _ rfl
  have HB : Hid (Below w.heap.size w (w.alloc (.cells (qryA q A c) 30))) := (Below.refl _ _).alloc (Nat.le_refl _) _
  have HF := Lib.hid (hf.below HB.out)
  clear hf
  have HOK := Lib.hid hok
  clear hok
  go_enter Tryz.func7, Tryz.ntmps7
  go_upto_region 1 with (fail)
  generalize w.alloc (.cells (qryA q A c) 30) = w0 at *
  go_wp2_with (first | ((with_reducible refine wpl_load_qry H.out ?hx ?_); (case hx => rfl)))
  refine (rQCheck_any q HF.out.addr A c _).mono ?_
  rintro e w2 ⟨z, rfl, hz, h2⟩
  obtain rfl : z = 0 := hz.out.mpr HOK.out
  have H2 := Lib.hid (H.out.below h2.out)
  have HB2 := Lib.hid (below_then HB.out HB.out.size h2.out)
  have HF2 := Lib.hid (HF.out.below h2.out)
  clear H HB HF h2 hz HOK
  have c0 := H2.out.kind
  rw [hk] at c0
  clear hk
  have hz : (⟨#[100, 111, 109, 97, 105, 110, 47]⟩ : ByteArray).size = 7 := rfl
  have c2 := H2.out.name
  go_wp2_with fail
  refine (esc_any q.name _ (by have := HF2.out.name; omega)).mono ?_
  rintro e w3 ⟨rfl, h3⟩
  obtain ⟨t, Ht⟩ : ∃ t, t = strOfNums (escT (ints q.name)) := ⟨_, rfl⟩
  have hts : t.size ≤ 900 := by rw [Ht]; exact escT_size _ 300 HF2.out.name
  rw [← Ht]
  have HT := Lib.hid Ht
  clear Ht
  have HB9 := Lib.hid (below_then HB2.out HB2.out.size h3.out)
  go_wp2_with fail
  go_ret
  exact ⟨by rw [← HT.out]; rfl, HB9⟩

set_option maxHeartbeats 8000000 in
set_option maxRecDepth 100000 in
theorem rPath_k3 {E : Nat → Addr} (q : QV) (A : Option Addr) (c : Nat) (w : World) (hf : Fine E q A w) (hk : q.kind = 3) (hok : qOk q = true) :
    Calls Tryz.prog 7 #[.agg (qryA q A c)] w fun e w' => e = .returned (.string (⟨#[110, 97, 109, 101, 115, 101, 114, 118, 101, 114, 47]⟩ ++ strOfNums (escT (ints q.name)))) ∧ Hid (Below w.heap.size w w') := by
  have H : Hid (QAt w.heap.size q A c (w.alloc (.cells (qryA q A c) 30))) := Row.new w _ _ rfl
  have HB : Hid (Below w.heap.size w (w.alloc (.cells (qryA q A c) 30))) := (Below.refl _ _).alloc (Nat.le_refl _) _
  have HF := Lib.hid (hf.below HB.out)
  clear hf
  have HOK := Lib.hid hok
  clear hok
  go_enter Tryz.func7, Tryz.ntmps7
  go_upto_region 1 with (fail)
  generalize w.alloc (.cells (qryA q A c) 30) = w0 at *
  go_wp2_with (first | ((with_reducible refine wpl_load_qry H.out ?hx ?_); (case hx => rfl)))
  refine (rQCheck_any q HF.out.addr A c _).mono ?_
  rintro e w2 ⟨z, rfl, hz, h2⟩
  obtain rfl : z = 0 := hz.out.mpr HOK.out
  have H2 := Lib.hid (H.out.below h2.out)
  have HB2 := Lib.hid (below_then HB.out HB.out.size h2.out)
  have HF2 := Lib.hid (HF.out.below h2.out)
  clear H HB HF h2 hz HOK
  have c0 := H2.out.kind
  rw [hk] at c0
  clear hk
  have hz : (⟨#[110, 97, 109, 101, 115, 101, 114, 118, 101, 114, 47]⟩ : ByteArray).size = 11 := rfl
  have c2 := H2.out.name
  go_wp2_with fail
  refine (esc_any q.name _ (by have := HF2.out.name; omega)).mono ?_
  rintro e w3 ⟨rfl, h3⟩
  obtain ⟨t, Ht⟩ : ∃ t, t = strOfNums (escT (ints q.name)) := ⟨_, rfl⟩
  have hts : t.size ≤ 900 := by rw [Ht]; exact escT_size _ 300 HF2.out.name
  rw [← Ht]
  have HT := Lib.hid Ht
  clear Ht
  have HB9 := Lib.hid (below_then HB2.out HB2.out.size h3.out)
  go_wp2_with fail
  go_ret
  exact ⟨by rw [← HT.out]; rfl, HB9⟩

set_option maxHeartbeats 8000000 in
set_option maxRecDepth 100000 in
theorem rPath_k4 {E : Nat → Addr} (q : QV) (A : Option Addr) (c : Nat) (w : World) (hf : Fine E q A w) (hk : q.kind = 4) (hok : qOk q = true) :
    Calls Tryz.prog 7 #[.agg (qryA q A c)] w fun e w' => e = .returned (.string (⟨#[101, 110, 116, 105, 116, 121, 47]⟩ ++ strOfNums (escT (ints (strOfNums ((ints q.name).map capB)))))) ∧ Hid (Below w.heap.size w w') := by
  have H : Hid (QAt w.heap.size q A c (w.alloc (.cells (qryA q A c) 30))) := Row.new w _ _ rfl
  have HB : Hid (Below w.heap.size w (w.alloc (.cells (qryA q A c) 30))) := (Below.refl _ _).alloc (Nat.le_refl _) _
  have HF := Lib.hid (hf.below HB.out)
  clear hf
  have HOK := Lib.hid hok
  clear hok
  go_enter Tryz.func7, Tryz.ntmps7
  go_upto_region 1 with (fail)
  generalize w.alloc (.cells (qryA q A c) 30) = w0 at *
  go_wp2_with (first | ((with_reducible refine wpl_load_qry H.out ?hx ?_); (case hx => rfl)))
  refine (rQCheck_any q HF.out.addr A c _).mono ?_
  rintro e w2 ⟨z, rfl, hz, h2⟩
  obtain rfl : z = 0 := hz.out.mpr HOK.out
  have H2 := Lib.hid (H.out.below h2.out)
  have HB2 := Lib.hid (below_then HB.out HB.out.size h2.out)
  have HF2 := Lib.hid (HF.out.below h2.out)
  clear H HB HF h2 hz HOK
  have c0 := H2.out.kind
  rw [hk] at c0
  clear hk
  have hz : (⟨#[101, 110, 116, 105, 116, 121, 47]⟩ : ByteArray).size = 7 := rfl
  have c2 := H2.out.name
  go_wp2_with fail
  refine (Capitals_any q.name _ (by have := HF2.out.name; omega)).mono ?_
  rintro e w3 ⟨rfl, h3⟩
  have HB3 := Lib.hid (below_then HB2.out HB2.out.size h3.out)
  have hcs : (strOfNums ((ints q.name).map capB)).size ≤ 300 := by rw [nums_size, List.length_map, ints_length]; exact HF2.out.name
  obtain ⟨u, Hu⟩ : ∃ u, u = strOfNums ((ints q.name).map capB) := ⟨_, rfl⟩
  rw [← Hu] at hcs ⊢
  have HU := Lib.hid Hu
  clear Hu c0 c2
  go_wp2_with fail
  refine (esc_any u _ (by omega)).mono ?_
  rintro e w4 ⟨rfl, h4⟩
  obtain ⟨t, Ht⟩ : ∃ t, t = strOfNums (escT (ints u)) := ⟨_, rfl⟩
  have hts : t.size ≤ 900 := by rw [Ht]; exact escT_size _ 300 hcs
  rw [← Ht]
  have HT := Lib.hid Ht
  clear Ht
  have HB9 := Lib.hid (below_then HB3.out HB3.out.size h4.out)
  go_wp2_with fail
  go_ret
  exact ⟨by rw [← HU.out, ← HT.out]; rfl, HB9⟩

set_option maxHeartbeats 8000000 in
set_option maxRecDepth 100000 in
theorem rPath_k5 {E : Nat → Addr} (q : QV) (A : Option Addr) (c : Nat) (w : World) (hf : Fine E q A w) (hk : q.kind = 5) (hok : qOk q = true) :
    Calls Tryz.prog 7 #[.agg (qryA q A c)] w fun e w' => e = .returned (.string (⟨#[105, 112, 47]⟩ ++ strOfNums (ipT q.net))) ∧ Hid (Below w.heap.size w w') := by
  have H : Hid (QAt w.heap.size q A c (w.alloc (.cells (qryA q A c) 30))) := Row.new w _ _ rfl
  have HB : Hid (Below w.heap.size w (w.alloc (.cells (qryA q A c) 30))) := (Below.refl _ _).alloc (Nat.le_refl _) _
  have HBits : Hid (0 ≤ q.net.bits ∧ q.net.bits ≤ widthV q.net) := by
    refine ipOk_range ?_
    unfold qOk at hok
    rw [hk] at hok
    simpa [byOk] using hok
  have HF := Lib.hid (hf.below HB.out)
  clear hf
  have HOK := Lib.hid hok
  clear hok
  go_enter Tryz.func7, Tryz.ntmps7
  go_upto_region 1 with (fail)
  generalize w.alloc (.cells (qryA q A c) 30) = w0 at *
  go_wp2_with (first | ((with_reducible refine wpl_load_qry H.out ?hx ?_); (case hx => rfl)))
  refine (rQCheck_any q HF.out.addr A c _).mono ?_
  rintro e w2 ⟨z, rfl, hz, h2⟩
  obtain rfl : z = 0 := hz.out.mpr HOK.out
  have H2 := Lib.hid (H.out.below h2.out)
  have HB2 := Lib.hid (below_then HB.out HB.out.size h2.out)
  have HF2 := Lib.hid (HF.out.below h2.out)
  clear H HB HF h2 hz HOK
  have c0 := H2.out.kind
  rw [hk] at c0
  clear hk
  have hz : (⟨#[105, 112, 47]⟩ : ByteArray).size = 3 := rfl
  go_wp2_with (first | ((with_reducible refine wpl_load_net H2.out ?hx ?_); (case hx => rfl)))
  refine (rText_all q.net HF2.out.addr HBits.out _).mono ?_
  rintro e w3 ⟨rfl, h3⟩
  obtain ⟨t, Ht⟩ : ∃ t, t = strOfNums (ipT q.net) := ⟨_, rfl⟩
  have hts : t.size ≤ 1004 := by rw [Ht]; rw [nums_size]; exact ipT_len q.net HF2.out.addr HBits.out
  rw [← Ht]
  have HT := Lib.hid Ht
  clear Ht
  have HB9 := Lib.hid (below_then HB2.out HB2.out.size h3.out)
  go_wp2_with fail
  go_ret
  exact ⟨by rw [← HT.out]; rfl, HB9⟩

set_option maxHeartbeats 8000000 in
set_option maxRecDepth 100000 in
theorem rPath_k6 {E : Nat → Addr} (q : QV) (A : Option Addr) (c : Nat) (w : World) (hf : Fine E q A w) (hk : q.kind = 6) (hok : qOk q = true) :
    Calls Tryz.prog 7 #[.agg (qryA q A c)] w fun e w' => e = .returned (.string (⟨#[97, 117, 116, 110, 117, 109, 47]⟩ ++ strOfNums (digs 10 q.num.toNat))) ∧ Hid (Below w.heap.size w w') := by
  have H : Hid (QAt w.heap.size q A c (w.alloc (.cells (qryA q A c) 30))) := Row.new w _ _ rfl
  have HB : Hid (Below w.heap.size w (w.alloc (.cells (qryA q A c) 30))) := (Below.refl _ _).alloc (Nat.le_refl _) _
  have HF := Lib.hid (hf.below HB.out)
  clear hf
  have HOK := Lib.hid hok
  clear hok
  go_enter Tryz.func7, Tryz.ntmps7
  go_upto_region 1 with (fail)
  generalize w.alloc (.cells (qryA q A c) 30) = w0 at *
  go_wp2_with (first | ((with_reducible refine wpl_load_qry H.out ?hx ?_); (case hx => rfl)))
  refine (rQCheck_any q HF.out.addr A c _).mono ?_
  rintro e w2 ⟨z, rfl, hz, h2⟩
  obtain rfl : z = 0 := hz.out.mpr HOK.out
  have H2 := Lib.hid (H.out.below h2.out)
  have HB2 := Lib.hid (below_then HB.out HB.out.size h2.out)
  have HF2 := Lib.hid (HF.out.below h2.out)
  clear H HB HF h2 hz HOK
  have c0 := H2.out.kind
  rw [hk] at c0
  clear hk
  have hz : (⟨#[97, 117, 116, 110, 117, 109, 47]⟩ : ByteArray).size = 7 := rfl
  have c21 := H2.out.num
  have hw : IntKind.i64.wrap q.num = q.num := by have := HF2.out.num; rw [IntKind.wrap_i64]; omega
  have HN : Hid (∀ W, Calls Tryz.prog 20 #[.int .i64 q.num, .int .i64 10] W fun e w' => e = .returned (.string (strOfNums (digs 10 q.num.toNat))) ∧ Hid (Below W.heap.size W w')) := by
    intro W
    obtain ⟨n, hn⟩ : ∃ n : Nat, q.num = n := ⟨q.num.toNat, by have := HF2.out.num; omega⟩
    rw [hn, Int.toNat_natCast]
    exact Digits_any 10 (by omega) (by omega) n W (by have := HF2.out.num; omega)
  have n0 := HF2.out.num.1
  have n1 := HF2.out.num.2
  go_wp2_with fail
  refine (HN.out _).mono ?_
  rintro e w3 ⟨rfl, h3⟩
  obtain ⟨t, Ht⟩ : ∃ t, t = strOfNums (digs 10 q.num.toNat) := ⟨_, rfl⟩
  have hts : t.size ≤ 10 := by rw [Ht]; rw [nums_size]; exact digs_len 10 (by omega) 9 _ (by omega)
  rw [← Ht]
  have HT := Lib.hid Ht
  clear Ht
  have HB9 := Lib.hid (below_then HB2.out HB2.out.size h3.out)
  go_wp2_with fail
  go_ret
  exact ⟨by rw [← HT.out]; rfl, HB9⟩

set_option maxHeartbeats 8000000 in
set_option maxRecDepth 100000 in
theorem rPath_k71 {E : Nat → Addr} (q : QV) (A : Option Addr) (c : Nat) (w : World) (hf : Fine E q A w) (hk : q.kind = 7) (hb : q.by_ = 1) (hok : qOk q = true) :
    Calls Tryz.prog 7 #[.agg (qryA q A c)] w fun e w' => e = .returned (.string (⟨#[100, 111, 109, 97, 105, 110, 115, 63, 110, 97, 109, 101, 61]⟩ ++ strOfNums (escT (ints (strOfNums (patT q.pieces)))))) ∧ Hid (Below w.heap.size w w') := by
  have H : Hid (QAt w.heap.size q A c (w.alloc (.cells (qryA q A c) 30))) := Row.new w _ _ rfl
  have HB : Hid (Below w.heap.size w (w.alloc (.cells (qryA q A c) 30))) := (Below.refl _ _).alloc (Nat.le_refl _) _
  have HF := Lib.hid (hf.below HB.out)
  clear hf
  have HOK := Lib.hid hok
  clear hok
  go_enter Tryz.func7, Tryz.ntmps7
  go_upto_region 1 with (fail)
  generalize w.alloc (.cells (qryA q A c) 30) = w0 at *
  go_wp2_with (first | ((with_reducible refine wpl_load_qry H.out ?hx ?_); (case hx => rfl)))
  refine (rQCheck_any q HF.out.addr A c _).mono ?_
  rintro e w2 ⟨z, rfl, hz, h2⟩
  obtain rfl : z = 0 := hz.out.mpr HOK.out
  have H2 := Lib.hid (H.out.below h2.out)
  have HB2 := Lib.hid (below_then HB.out HB.out.size h2.out)
  have HF2 := Lib.hid (HF.out.below h2.out)
  clear H HB HF h2 hz HOK
  have c0 := H2.out.kind
  rw [hk] at c0
  have c1 := H2.out.by_
  rw [hb] at c1
  have HK := Lib.hid hk
  have HBy := Lib.hid hb
  clear hk hb
  have hz1 : (⟨#[100, 111, 109, 97, 105, 110, 115, 63]⟩ : ByteArray).size = 8 := rfl
  have hz2 : (⟨#[110, 97, 109, 101, 61]⟩ : ByteArray).size = 5 := rfl
  have hz3 : (⟨#[100, 111, 109, 97, 105, 110, 115, 63]⟩ ++ ⟨#[110, 97, 109, 101, 61]⟩ : ByteArray).size = 13 := rfl
  have hix : ∀ W, (Instr.index 58 (.agg #[.string ⟨#[]⟩, .string ⟨#[110, 97, 109, 101, 61]⟩, .string ⟨#[110, 115, 76, 100, 104, 78, 97, 109, 101, 61]⟩, .string ⟨#[110, 115, 73, 112, 61]⟩]) (.int .i64 1)).run Tryz.prog W = .ok (.string ⟨#[110, 97, 109, 101, 61]⟩) W := fun W => by kernel_rfl
  have c22 := H2.out.whole
  have c23 := H2.out.pieces
  go_wp2_with fail
  refine (rText_any q.whole q.pieces A c _ HF2.out.C (by have := HF2.out.len; omega) (fun x hx => by have := HF2.out.texts x hx; omega)).mono ?_
  rintro e w3 ⟨rfl, h3⟩
  have HB3 := Lib.hid (below_then HB2.out HB2.out.size h3.out)
  have H3 := Lib.hid (H2.out.below h3.out)
  have HF3 := Lib.hid (HF2.out.below h3.out)
  have hcs : (strOfNums (patT q.pieces)).size ≤ 10000 := by rw [nums_size]; exact HF2.out.pat
  obtain ⟨u, Hu⟩ : ∃ u, u = strOfNums (patT q.pieces) := ⟨_, rfl⟩
  rw [← Hu] at hcs ⊢
  have HU := Lib.hid Hu
  clear Hu c0 c1 c22 c23 H2 HB2 HF2
  go_wp2_with fail
  refine (esc_any u _ (by omega)).mono ?_
  rintro e w4 ⟨rfl, h4⟩
  have HB4 := Lib.hid (below_then HB3.out HB3.out.size h4.out)
  have H4 := Lib.hid (H3.out.below h4.out)
  have HF4 := Lib.hid (HF3.out.below h4.out)
  have c0 := H4.out.kind
  have c1 := H4.out.by_
  rw [HK.out] at c0
  rw [HBy.out] at c1
  clear h4 H3 HB3 HF3
  obtain ⟨t, Ht⟩ : ∃ t, t = strOfNums (escT (ints u)) := ⟨_, rfl⟩
  have hts : t.size ≤ 30000 := by rw [Ht]; exact escT_size _ 10000 hcs
  rw [← Ht]
  have HT := Lib.hid Ht
  clear Ht
  go_wp2_with fail
  go_ret
  exact ⟨by rw [← HU.out, ← HT.out]; rfl, HB4⟩

set_option maxHeartbeats 8000000 in
set_option maxRecDepth 100000 in
theorem rPath_k72 {E : Nat → Addr} (q : QV) (A : Option Addr) (c : Nat) (w : World) (hf : Fine E q A w) (hk : q.kind = 7) (hb : q.by_ = 2) (hok : qOk q = true) :
    Calls Tryz.prog 7 #[.agg (qryA q A c)] w fun e w' => e = .returned (.string (⟨#[100, 111, 109, 97, 105, 110, 115, 63, 110, 115, 76, 100, 104, 78, 97, 109, 101, 61]⟩ ++ strOfNums (escT (ints (strOfNums (patT q.pieces)))))) ∧ Hid (Below w.heap.size w w') := by
  have H : Hid (QAt w.heap.size q A c (w.alloc (.cells (qryA q A c) 30))) := Row.new w _ _ rfl
  have HB : Hid (Below w.heap.size w (w.alloc (.cells (qryA q A c) 30))) := (Below.refl _ _).alloc (Nat.le_refl _) _
  have HF := Lib.hid (hf.below HB.out)
  clear hf
  have HOK := Lib.hid hok
  clear hok
  go_enter Tryz.func7, Tryz.ntmps7
  go_upto_region 1 with (fail)
  generalize w.alloc (.cells (qryA q A c) 30) = w0 at *
  go_wp2_with (first | ((with_reducible refine wpl_load_qry H.out ?hx ?_); (case hx => rfl)))
  refine (rQCheck_any q HF.out.addr A c _).mono ?_
  rintro e w2 ⟨z, rfl, hz, h2⟩
  obtain rfl : z = 0 := hz.out.mpr HOK.out
  have H2 := Lib.hid (H.out.below h2.out)
  have HB2 := Lib.hid (below_then HB.out HB.out.size h2.out)
  have HF2 := Lib.hid (HF.out.below h2.out)
  clear H HB HF h2 hz HOK
  have c0 := H2.out.kind
  rw [hk] at c0
  have c1 := H2.out.by_
  rw [hb] at c1
  have HK := Lib.hid hk
  have HBy := Lib.hid hb
  clear hk hb
  have hz1 : (⟨#[100, 111, 109, 97, 105, 110, 115, 63]⟩ : ByteArray).size = 8 := rfl
  have hz2 : (⟨#[110, 115, 76, 100, 104, 78, 97, 109, 101, 61]⟩ : ByteArray).size = 10 := rfl
  have hz3 : (⟨#[100, 111, 109, 97, 105, 110, 115, 63]⟩ ++ ⟨#[110, 115, 76, 100, 104, 78, 97, 109, 101, 61]⟩ : ByteArray).size = 18 := rfl
  have hix : ∀ W, (Instr.index 58 (.agg #[.string ⟨#[]⟩, .string ⟨#[110, 97, 109, 101, 61]⟩, .string ⟨#[110, 115, 76, 100, 104, 78, 97, 109, 101, 61]⟩, .string ⟨#[110, 115, 73, 112, 61]⟩]) (.int .i64 2)).run Tryz.prog W = .ok (.string ⟨#[110, 115, 76, 100, 104, 78, 97, 109, 101, 61]⟩) W := fun W => by kernel_rfl
  have c22 := H2.out.whole
  have c23 := H2.out.pieces
  go_wp2_with fail
  refine (rText_any q.whole q.pieces A c _ HF2.out.C (by have := HF2.out.len; omega) (fun x hx => by have := HF2.out.texts x hx; omega)).mono ?_
  rintro e w3 ⟨rfl, h3⟩
  have HB3 := Lib.hid (below_then HB2.out HB2.out.size h3.out)
  have H3 := Lib.hid (H2.out.below h3.out)
  have HF3 := Lib.hid (HF2.out.below h3.out)
  have hcs : (strOfNums (patT q.pieces)).size ≤ 10000 := by rw [nums_size]; exact HF2.out.pat
  obtain ⟨u, Hu⟩ : ∃ u, u = strOfNums (patT q.pieces) := ⟨_, rfl⟩
  rw [← Hu] at hcs ⊢
  have HU := Lib.hid Hu
  clear Hu c0 c1 c22 c23 H2 HB2 HF2
  go_wp2_with fail
  refine (esc_any u _ (by omega)).mono ?_
  rintro e w4 ⟨rfl, h4⟩
  have HB4 := Lib.hid (below_then HB3.out HB3.out.size h4.out)
  have H4 := Lib.hid (H3.out.below h4.out)
  have HF4 := Lib.hid (HF3.out.below h4.out)
  have c0 := H4.out.kind
  have c1 := H4.out.by_
  rw [HK.out] at c0
  rw [HBy.out] at c1
  clear h4 H3 HB3 HF3
  obtain ⟨t, Ht⟩ : ∃ t, t = strOfNums (escT (ints u)) := ⟨_, rfl⟩
  have hts : t.size ≤ 30000 := by rw [Ht]; exact escT_size _ 10000 hcs
  rw [← Ht]
  have HT := Lib.hid Ht
  clear Ht
  go_wp2_with fail
  go_ret
  exact ⟨by rw [← HU.out, ← HT.out]; rfl, HB4⟩

set_option maxHeartbeats 8000000 in
set_option maxRecDepth 100000 in
theorem rPath_k73 {E : Nat → Addr} (q : QV) (A : Option Addr) (c : Nat) (w : World) (hf : Fine E q A w) (hk : q.kind = 7) (hb : q.by_ = 3) (hok : qOk q = true) :
    Calls Tryz.prog 7 #[.agg (qryA q A c)] w fun e w' => e = .returned (.string (⟨#[100, 111, 109, 97, 105, 110, 115, 63, 110, 115, 73, 112, 61]⟩ ++ strOfNums (ipT q.net))) ∧ Hid (Below w.heap.size w w') := by
  have H : Hid (QAt w.heap.size q A c (w.alloc (.cells (qryA q A c) 30))) := Row.new w _ _ rfl
  have HB : Hid (Below w.heap.size w (w.alloc (.cells (qryA q A c) 30))) := (Below.refl _ _).alloc (Nat.le_refl _) _
  have HBits : Hid (0 ≤ q.net.bits ∧ q.net.bits ≤ widthV q.net) := by
    refine ipOk_range ?_
    unfold qOk at hok
    rw [hk, hb] at hok
    simp [byOk, manyQ] at hok
    exact hok.1
  have HF := Lib.hid (hf.below HB.out)
  clear hf
  have HOK := Lib.hid hok
  clear hok
  go_enter Tryz.func7, Tryz.ntmps7
  go_upto_region 1 with (fail)
  generalize w.alloc (.cells (qryA q A c) 30) = w0 at *
  go_wp2_with (first | ((with_reducible refine wpl_load_qry H.out ?hx ?_); (case hx => rfl)))
  refine (rQCheck_any q HF.out.addr A c _).mono ?_
  rintro e w2 ⟨z, rfl, hz, h2⟩
  obtain rfl : z = 0 := hz.out.mpr HOK.out
  have H2 := Lib.hid (H.out.below h2.out)
  have HB2 := Lib.hid (below_then HB.out HB.out.size h2.out)
  have HF2 := Lib.hid (HF.out.below h2.out)
  clear H HB HF h2 hz HOK
  have c0 := H2.out.kind
  rw [hk] at c0
  have c1 := H2.out.by_
  rw [hb] at c1
  have HK := Lib.hid hk
  have HBy := Lib.hid hb
  clear hk hb
  have hz1 : (⟨#[100, 111, 109, 97, 105, 110, 115, 63]⟩ : ByteArray).size = 8 := rfl
  have hz2 : (⟨#[110, 115, 73, 112, 61]⟩ : ByteArray).size = 5 := rfl
  have hz3 : (⟨#[100, 111, 109, 97, 105, 110, 115, 63]⟩ ++ ⟨#[110, 115, 73, 112, 61]⟩ : ByteArray).size = 13 := rfl
  have hix : ∀ W, (Instr.index 58 (.agg #[.string ⟨#[]⟩, .string ⟨#[110, 97, 109, 101, 61]⟩, .string ⟨#[110, 115, 76, 100, 104, 78, 97, 109, 101, 61]⟩, .string ⟨#[110, 115, 73, 112, 61]⟩]) (.int .i64 3)).run Tryz.prog W = .ok (.string ⟨#[110, 115, 73, 112, 61]⟩) W := fun W => by kernel_rfl
  have c22 := H2.out.whole
  have c23 := H2.out.pieces
  go_wp2_with fail
  refine (rText_any q.whole q.pieces A c _ HF2.out.C (by have := HF2.out.len; omega) (fun x hx => by have := HF2.out.texts x hx; omega)).mono ?_
  rintro e w3 ⟨rfl, h3⟩
  have HB3 := Lib.hid (below_then HB2.out HB2.out.size h3.out)
  have H3 := Lib.hid (H2.out.below h3.out)
  have HF3 := Lib.hid (HF2.out.below h3.out)
  have hcs : (strOfNums (patT q.pieces)).size ≤ 10000 := by rw [nums_size]; exact HF2.out.pat
  obtain ⟨u, Hu⟩ : ∃ u, u = strOfNums (patT q.pieces) := ⟨_, rfl⟩
  rw [← Hu] at hcs ⊢
  have HU := Lib.hid Hu
  clear Hu c0 c1 c22 c23 H2 HB2 HF2
  go_wp2_with fail
  refine (esc_any u _ (by omega)).mono ?_
  rintro e w4 ⟨rfl, h4⟩
  have HB4 := Lib.hid (below_then HB3.out HB3.out.size h4.out)
  have H4 := Lib.hid (H3.out.below h4.out)
  have HF4 := Lib.hid (HF3.out.below h4.out)
  have c0 := H4.out.kind
  have c1 := H4.out.by_
  rw [HK.out] at c0
  rw [HBy.out] at c1
  clear h4 H3 HB3 HF3
  go_wp2_with (first | ((with_reducible refine wpl_load_net H4.out ?hx ?_); (case hx => rfl)))
  refine (rText_all q.net HF4.out.addr HBits.out _).mono ?_
  rintro e w5 ⟨rfl, h5⟩
  have HB5 := Lib.hid (below_then HB4.out HB4.out.size h5.out)
  replace c0 := cell_below h5.out c0
  replace c1 := cell_below h5.out c1
  clear h5
  obtain ⟨t, Ht⟩ : ∃ t, t = strOfNums (ipT q.net) := ⟨_, rfl⟩
  have hts : t.size ≤ 1004 := by rw [Ht]; rw [nums_size]; exact ipT_len q.net HF4.out.addr HBits.out
  rw [← Ht]
  have HT := Lib.hid Ht
  clear Ht
  go_wp2_with fail
  go_ret
  exact ⟨by rw [← HT.out]; rfl, HB5⟩

set_option maxHeartbeats 8000000 in
set_option maxRecDepth 100000 in
theorem rPath_k81 {E : Nat → Addr} (q : QV) (A : Option Addr) (c : Nat) (w : World) (hf : Fine E q A w) (hk : q.kind = 8) (hb : q.by_ = 1) (hok : qOk q = true) :
    Calls Tryz.prog 7 #[.agg (qryA q A c)] w fun e w' => e = .returned (.string (⟨#[110, 97, 109, 101, 115, 101, 114, 118, 101, 114, 115, 63, 110, 97, 109, 101, 61]⟩ ++ strOfNums (escT (ints (strOfNums (patT q.pieces)))))) ∧ Hid (Below w.heap.size w w') := by
  have H : Hid (QAt w.heap.size q A c (w.alloc (.cells (qryA q A c) 30))) := Row.new w _ _ rfl
  have HB : Hid (Below w.heap.size w (w.alloc (.cells (qryA q A c) 30))) := (Below.refl _ _).alloc (Nat.le_refl _) _
  have HF := Lib.hid (hf.below HB.out)
  clear hf
  have HOK := Lib.hid hok
  clear hok
  go_enter Tryz.func7, Tryz.ntmps7
  go_upto_region 1 with (fail)
  generalize w.alloc (.cells (qryA q A c) 30) = w0 at *
  go_wp2_with (first | ((with_reducible refine wpl_load_qry H.out ?hx ?_); (case hx => rfl)))
  refine (rQCheck_any q HF.out.addr A c _).mono ?_
  rintro e w2 ⟨z, rfl, hz, h2⟩
  obtain rfl : z = 0 := hz.out.mpr HOK.out
  have H2 := Lib.hid (H.out.below h2.out)
  have HB2 := Lib.hid (below_then HB.out HB.out.size h2.out)
  have HF2 := Lib.hid (HF.out.below h2.out)
  clear H HB HF h2 hz HOK
  have c0 := H2.out.kind
  rw [hk] at c0
  have c1 := H2.out.by_
  rw [hb] at c1
  have HK := Lib.hid hk
  have HBy := Lib.hid hb
  clear hk hb
  have hz1 : (⟨#[110, 97, 109, 101, 115, 101, 114, 118, 101, 114, 115, 63]⟩ : ByteArray).size = 12 := rfl
  have hz2 : (⟨#[110, 97, 109, 101, 61]⟩ : ByteArray).size = 5 := rfl
  have hz3 : (⟨#[110, 97, 109, 101, 115, 101, 114, 118, 101, 114, 115, 63]⟩ ++ ⟨#[110, 97, 109, 101, 61]⟩ : ByteArray).size = 17 := rfl
  have hix : ∀ W, (Instr.index 58 (.agg #[.string ⟨#[]⟩, .string ⟨#[110, 97, 109, 101, 61]⟩, .string ⟨#[]⟩, .string ⟨#[105, 112, 61]⟩]) (.int .i64 1)).run Tryz.prog W = .ok (.string ⟨#[110, 97, 109, 101, 61]⟩) W := fun W => by kernel_rfl
  have c22 := H2.out.whole
  have c23 := H2.out.pieces
  go_wp2_with fail
  refine (rText_any q.whole q.pieces A c _ HF2.out.C (by have := HF2.out.len; omega) (fun x hx => by have := HF2.out.texts x hx; omega)).mono ?_
  rintro e w3 ⟨rfl, h3⟩
  have HB3 := Lib.hid (below_then HB2.out HB2.out.size h3.out)
  have H3 := Lib.hid (H2.out.below h3.out)
  have HF3 := Lib.hid (HF2.out.below h3.out)
  have hcs : (strOfNums (patT q.pieces)).size ≤ 10000 := by rw [nums_size]; exact HF2.out.pat
  obtain ⟨u, Hu⟩ : ∃ u, u = strOfNums (patT q.pieces) := ⟨_, rfl⟩
  rw [← Hu] at hcs ⊢
  have HU := Lib.hid Hu
  clear Hu c0 c1 c22 c23 H2 HB2 HF2
  go_wp2_with fail
  refine (esc_any u _ (by omega)).mono ?_
  rintro e w4 ⟨rfl, h4⟩
  have HB4 := Lib.hid (below_then HB3.out HB3.out.size h4.out)
  have H4 := Lib.hid (H3.out.below h4.out)
  have HF4 := Lib.hid (HF3.out.below h4.out)
  have c0 := H4.out.kind
  have c1 := H4.out.by_
  rw [HK.out] at c0
  rw [HBy.out] at c1
  clear h4 H3 HB3 HF3
  obtain ⟨t, Ht⟩ : ∃ t, t = strOfNums (escT (ints u)) := ⟨_, rfl⟩
  have hts : t.size ≤ 30000 := by rw [Ht]; exact escT_size _ 10000 hcs
  rw [← Ht]
  have HT := Lib.hid Ht
  clear Ht
  go_wp2_with fail
  go_ret
  exact ⟨by rw [← HU.out, ← HT.out]; rfl, HB4⟩

set_option maxHeartbeats 8000000 in
set_option maxRecDepth 100000 in
theorem rPath_k83 {E : Nat → Addr} (q : QV) (A : Option Addr) (c : Nat) (w : World) (hf : Fine E q A w) (hk : q.kind = 8) (hb : q.by_ = 3) (hok : qOk q = true) :
    Calls Tryz.prog 7 #[.agg (qryA q A c)] w fun e w' => e = .returned (.string (⟨#[110, 97, 109, 101, 115, 101, 114, 118, 101, 114, 115, 63, 105, 112, 61]⟩ ++ strOfNums (ipT q.net))) ∧ Hid (Below w.heap.size w w') := by
  have H : Hid (QAt w.heap.size q A c (w.alloc (.cells (qryA q A c) 30))) := Row.new w _ _ rfl
  have HB : Hid (Below w.heap.size w (w.alloc (.cells (qryA q A c) 30))) := (Below.refl _ _).alloc (Nat.le_refl _) _
  have HBits : Hid (0 ≤ q.net.bits ∧ q.net.bits ≤ widthV q.net) := by
    refine ipOk_range ?_
    unfold qOk at hok
    rw [hk, hb] at hok
    simp [byOk, manyQ] at hok
    exact hok.1
  have HF := Lib.hid (hf.below HB.out)
  clear hf
  have HOK := Lib.hid hok
  clear hok
  go_enter Tryz.func7, Tryz.ntmps7
  go_upto_region 1 with (fail)
  generalize w.alloc (.cells (qryA q A c) 30) = w0 at *
  go_wp2_with (first | ((with_reducible refine wpl_load_qry H.out ?hx ?_); (case hx => rfl)))
  refine (rQCheck_any q HF.out.addr A c _).mono ?_
  rintro e w2 ⟨z, rfl, hz, h2⟩
  obtain rfl : z = 0 := hz.out.mpr HOK.out
  have H2 := Lib.hid (H.out.below h2.out)
  have HB2 := Lib.hid (below_then HB.out HB.out.size h2.out)
  have HF2 := Lib.hid (HF.out.below h2.out)
  clear H HB HF h2 hz HOK
  have c0 := H2.out.kind
  rw [hk] at c0
  have c1 := H2.out.by_
  rw [hb] at c1
  have HK := Lib.hid hk
  have HBy := Lib.hid hb
  clear hk hb
  have hz1 : (⟨#[110, 97, 109, 101, 115, 101, 114, 118, 101, 114, 115, 63]⟩ : ByteArray).size = 12 := rfl
  have hz2 : (⟨#[105, 112, 61]⟩ : ByteArray).size = 3 := rfl
  have hz3 : (⟨#[110, 97, 109, 101, 115, 101, 114, 118, 101, 114, 115, 63]⟩ ++ ⟨#[105, 112, 61]⟩ : ByteArray).size = 15 := rfl
  have hix : ∀ W, (Instr.index 58 (.agg #[.string ⟨#[]⟩, .string ⟨#[110, 97, 109, 101, 61]⟩, .string ⟨#[]⟩, .string ⟨#[105, 112, 61]⟩]) (.int .i64 3)).run Tryz.prog W = .ok (.string ⟨#[105, 112, 61]⟩) W := fun W => by kernel_rfl
  have c22 := H2.out.whole
  have c23 := H2.out.pieces
  go_wp2_with fail
  refine (rText_any q.whole q.pieces A c _ HF2.out.C (by have := HF2.out.len; omega) (fun x hx => by have := HF2.out.texts x hx; omega)).mono ?_
  rintro e w3 ⟨rfl, h3⟩
  have HB3 := Lib.hid (below_then HB2.out HB2.out.size h3.out)
  have H3 := Lib.hid (H2.out.below h3.out)
  have HF3 := Lib.hid (HF2.out.below h3.out)
  have hcs : (strOfNums (patT q.pieces)).size ≤ 10000 := by rw [nums_size]; exact HF2.out.pat
  obtain ⟨u, Hu⟩ : ∃ u, u = strOfNums (patT q.pieces) := ⟨_, rfl⟩
  rw [← Hu] at hcs ⊢
  have HU := Lib.hid Hu
  clear Hu c0 c1 c22 c23 H2 HB2 HF2
  go_wp2_with fail
  refine (esc_any u _ (by omega)).mono ?_
  rintro e w4 ⟨rfl, h4⟩
  have HB4 := Lib.hid (below_then HB3.out HB3.out.size h4.out)
  have H4 := Lib.hid (H3.out.below h4.out)
  have HF4 := Lib.hid (HF3.out.below h4.out)
  have c0 := H4.out.kind
  have c1 := H4.out.by_
  rw [HK.out] at c0
  rw [HBy.out] at c1
  clear h4 H3 HB3 HF3
  go_wp2_with (first | ((with_reducible refine wpl_load_net H4.out ?hx ?_); (case hx => rfl)))
  refine (rText_all q.net HF4.out.addr HBits.out _).mono ?_
  rintro e w5 ⟨rfl, h5⟩
  have HB5 := Lib.hid (below_then HB4.out HB4.out.size h5.out)
  replace c0 := cell_below h5.out c0
  replace c1 := cell_below h5.out c1
  clear h5
  obtain ⟨t, Ht⟩ : ∃ t, t = strOfNums (ipT q.net) := ⟨_, rfl⟩
  have hts : t.size ≤ 1004 := by rw [Ht]; rw [nums_size]; exact ipT_len q.net HF4.out.addr HBits.out
  rw [← Ht]
  have HT := Lib.hid Ht
  clear Ht
  go_wp2_with fail
  go_ret
  exact ⟨by rw [← HT.out]; rfl, HB5⟩

set_option maxHeartbeats 8000000 in
set_option maxRecDepth 100000 in
theorem rPath_k94 {E : Nat → Addr} (q : QV) (A : Option Addr) (c : Nat) (w : World) (hf : Fine E q A w) (hk : q.kind = 9) (hb : q.by_ = 4) (hok : qOk q = true) :
    Calls Tryz.prog 7 #[.agg (qryA q A c)] w fun e w' => e = .returned (.string (⟨#[101, 110, 116, 105, 116, 105, 101, 115, 63, 102, 110, 61]⟩ ++ strOfNums (escT (ints (strOfNums (patT q.pieces)))))) ∧ Hid (Below w.heap.size w w') := by
  have H : Hid (QAt w.heap.size q A c (w.alloc (.cells (qryA q A c) 30))) := Row.new w _ _ rfl
  have HB : Hid (Below w.heap.size w (w.alloc (.cells (qryA q A c) 30))) := (Below.refl _ _).alloc (Nat.le_refl _) _
  have HF := Lib.hid (hf.below HB.out)
  clear hf
  have HOK := Lib.hid hok
  clear hok
  go_enter Tryz.func7, Tryz.ntmps7
  go_upto_region 1 with (fail)
  generalize w.alloc (.cells (qryA q A c) 30) = w0 at *
  go_wp2_with (first | ((with_reducible refine wpl_load_qry H.out ?hx ?_); (case hx => rfl)))
  refine (rQCheck_any q HF.out.addr A c _).mono ?_
  rintro e w2 ⟨z, rfl, hz, h2⟩
  obtain rfl : z = 0 := hz.out.mpr HOK.out
  have H2 := Lib.hid (H.out.below h2.out)
  have HB2 := Lib.hid (below_then HB.out HB.out.size h2.out)
  have HF2 := Lib.hid (HF.out.below h2.out)
  clear H HB HF h2 hz HOK
  have c0 := H2.out.kind
  rw [hk] at c0
  have c1 := H2.out.by_
  rw [hb] at c1
  have HK := Lib.hid hk
  have HBy := Lib.hid hb
  clear hk hb
  have hz1 : (⟨#[101, 110, 116, 105, 116, 105, 101, 115, 63]⟩ : ByteArray).size = 9 := rfl
  have hz2 : (⟨#[102, 110, 61]⟩ : ByteArray).size = 3 := rfl
  have hz3 : (⟨#[101, 110, 116, 105, 116, 105, 101, 115, 63]⟩ ++ ⟨#[102, 110, 61]⟩ : ByteArray).size = 12 := rfl
  have hix : ∀ W, (Instr.index 59 (.agg #[.string ⟨#[]⟩, .string ⟨#[]⟩, .string ⟨#[]⟩, .string ⟨#[]⟩, .string ⟨#[102, 110, 61]⟩, .string ⟨#[104, 97, 110, 100, 108, 101, 61]⟩]) (.int .i64 4)).run Tryz.prog W = .ok (.string ⟨#[102, 110, 61]⟩) W := fun W => by kernel_rfl
  have c22 := H2.out.whole
  have c23 := H2.out.pieces
  go_wp2_with fail
  refine (rText_any q.whole q.pieces A c _ HF2.out.C (by have := HF2.out.len; omega) (fun x hx => by have := HF2.out.texts x hx; omega)).mono ?_
  rintro e w3 ⟨rfl, h3⟩
  have HB3 := Lib.hid (below_then HB2.out HB2.out.size h3.out)
  have H3 := Lib.hid (H2.out.below h3.out)
  have HF3 := Lib.hid (HF2.out.below h3.out)
  have hcs : (strOfNums (patT q.pieces)).size ≤ 10000 := by rw [nums_size]; exact HF2.out.pat
  obtain ⟨u, Hu⟩ : ∃ u, u = strOfNums (patT q.pieces) := ⟨_, rfl⟩
  rw [← Hu] at hcs ⊢
  have HU := Lib.hid Hu
  clear Hu c0 c1 c22 c23 H2 HB2 HF2
  go_wp2_with fail
  refine (esc_any u _ (by omega)).mono ?_
  rintro e w4 ⟨rfl, h4⟩
  have HB4 := Lib.hid (below_then HB3.out HB3.out.size h4.out)
  have H4 := Lib.hid (H3.out.below h4.out)
  have HF4 := Lib.hid (HF3.out.below h4.out)
  have c0 := H4.out.kind
  have c1 := H4.out.by_
  rw [HK.out] at c0
  rw [HBy.out] at c1
  clear h4 H3 HB3 HF3
  obtain ⟨t, Ht⟩ : ∃ t, t = strOfNums (escT (ints u)) := ⟨_, rfl⟩
  have hts : t.size ≤ 30000 := by rw [Ht]; exact escT_size _ 10000 hcs
  rw [← Ht]
  have HT := Lib.hid Ht
  clear Ht
  go_wp2_with fail
  go_ret
  exact ⟨by rw [← HU.out, ← HT.out]; rfl, HB4⟩

set_option maxHeartbeats 8000000 in
set_option maxRecDepth 100000 in
theorem rPath_k95 {E : Nat → Addr} (q : QV) (A : Option Addr) (c : Nat) (w : World) (hf : Fine E q A w) (hk : q.kind = 9) (hb : q.by_ = 5) (hok : qOk q = true) :
    Calls Tryz.prog 7 #[.agg (qryA q A c)] w fun e w' => e = .returned (.string (⟨#[101, 110, 116, 105, 116, 105, 101, 115, 63, 104, 97, 110, 100, 108, 101, 61]⟩ ++ strOfNums (escT (ints (strOfNums (patT q.pieces)))))) ∧ Hid (Below w.heap.size w w') := by
  have H : Hid (QAt w.heap.size q A c (w.alloc (.cells (qryA q A c) 30))) := Row.new w _ _ rfl
  have HB : Hid (Below w.heap.size w (w.alloc (.cells (qryA q A c) 30))) := (Below.refl _ _).alloc (Nat.le_refl _) _
  have HF := Lib.hid (hf.below HB.out)
  clear hf
  have HOK := Lib.hid hok
  clear hok
  go_enter Tryz.func7, Tryz.ntmps7
  go_upto_region 1 with (fail)
  generalize w.alloc (.cells (qryA q A c) 30) = w0 at *
  go_wp2_with (first | ((with_reducible refine wpl_load_qry H.out ?hx ?_); (case hx => rfl)))
  refine (rQCheck_any q HF.out.addr A c _).mono ?_
  rintro e w2 ⟨z, rfl, hz, h2⟩
  obtain rfl : z = 0 := hz.out.mpr HOK.out
  have H2 := Lib.hid (H.out.below h2.out)
  have HB2 := Lib.hid (below_then HB.out HB.out.size h2.out)
  have HF2 := Lib.hid (HF.out.below h2.out)
  clear H HB HF h2 hz HOK
  have c0 := H2.out.kind
  rw [hk] at c0
  have c1 := H2.out.by_
  rw [hb] at c1
  have HK := Lib.hid hk
  have HBy := Lib.hid hb
  clear hk hb
  have hz1 : (⟨#[101, 110, 116, 105, 116, 105, 101, 115, 63]⟩ : ByteArray).size = 9 := rfl
  have hz2 : (⟨#[104, 97, 110, 100, 108, 101, 61]⟩ : ByteArray).size = 7 := rfl
  have hz3 : (⟨#[101, 110, 116, 105, 116, 105, 101, 115, 63]⟩ ++ ⟨#[104, 97, 110, 100, 108, 101, 61]⟩ : ByteArray).size = 16 := rfl
  have hix : ∀ W, (Instr.index 59 (.agg #[.string ⟨#[]⟩, .string ⟨#[]⟩, .string ⟨#[]⟩, .string ⟨#[]⟩, .string ⟨#[102, 110, 61]⟩, .string ⟨#[104, 97, 110, 100, 108, 101, 61]⟩]) (.int .i64 5)).run Tryz.prog W = .ok (.string ⟨#[104, 97, 110, 100, 108, 101, 61]⟩) W := fun W => by kernel_rfl
  have c22 := H2.out.whole
  have c23 := H2.out.pieces
  go_wp2_with fail
  refine (rText_any q.whole q.pieces A c _ HF2.out.C (by have := HF2.out.len; omega) (fun x hx => by have := HF2.out.texts x hx; omega)).mono ?_
  rintro e w3 ⟨rfl, h3⟩
  have HB3 := Lib.hid (below_then HB2.out HB2.out.size h3.out)
  have H3 := Lib.hid (H2.out.below h3.out)
  have HF3 := Lib.hid (HF2.out.below h3.out)
  have hcs : (strOfNums (patT q.pieces)).size ≤ 10000 := by rw [nums_size]; exact HF2.out.pat
  obtain ⟨u, Hu⟩ : ∃ u, u = strOfNums (patT q.pieces) := ⟨_, rfl⟩
  rw [← Hu] at hcs ⊢
  have HU := Lib.hid Hu
  clear Hu c0 c1 c22 c23 H2 HB2 HF2
  go_wp2_with fail
  refine (esc_any u _ (by omega)).mono ?_
  rintro e w4 ⟨rfl, h4⟩
  have HB4 := Lib.hid (below_then HB3.out HB3.out.size h4.out)
  have H4 := Lib.hid (H3.out.below h4.out)
  have HF4 := Lib.hid (HF3.out.below h4.out)
  have c0 := H4.out.kind
  have c1 := H4.out.by_
  rw [HK.out] at c0
  rw [HBy.out] at c1
  clear h4 H3 HB3 HF3
  obtain ⟨t, Ht⟩ : ∃ t, t = strOfNums (escT (ints u)) := ⟨_, rfl⟩
  have hts : t.size ≤ 30000 := by rw [Ht]; exact escT_size _ 10000 hcs
  rw [← Ht]
  have HT := Lib.hid Ht
  clear Ht
  go_wp2_with fail
  go_ret
  exact ⟨by rw [← HU.out, ← HT.out]; rfl, HB4⟩
end Go.Proofs.YtngokkebjadoiaaGreatDoor

