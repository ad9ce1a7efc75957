/- What the claim uses of the text ID. -/
import Derived.Test.YtngokkebjadoiaaGreatDoorVIC
import Derived.Test.YtngokkebjadoiaaGreatDoorVIB
set_option linter.unusedVariables false
set_option linter.unusedSimpArgs false
namespace Go.Proofs.YtngokkebjadoiaaGreatDoor
open Go.RowKit Go.PlainAid
open Go.Proofs.YtngokkebjadoiaaGreatDoorW.PrintWords hiding bt
open Go.Proofs.YtngokkebjadoiaaGreatDoorW.PrintMore

/-- What the route's functions ask of a query and of memory. -/
structure Fine (E : Nat → Addr) (q : QV) (A : Option Addr) (w : World) : Prop where
  ges : Ges E w
  caps : Caps w
  addr : ∀ i, i < 16 → q.net.addr i < 256
  len : q.pieces.length ≤ 6
  texts : ∀ x ∈ q.pieces, x.1.size ≤ 100
  name : q.name.size ≤ 300
  num : 0 ≤ q.num ∧ q.num ≤ 4294967295
  C : pk.C w A q.pieces.length q.pieces
theorem Fine.below {E : Nat → Addr} {q : QV} {A : Option Addr} {w w' : World} (h : Fine E q A w) (hb : Below w.heap.size w w') : Fine E q A w' :=
  ⟨h.ges.below hb, h.caps.below hb, h.addr, h.len, h.texts, h.name, h.num, Kd.C_below h.C hb⟩
theorem Fine.pat {E : Nat → Addr} {q : QV} {A : Option Addr} {w : World} (h : Fine E q A w) : (patT q.pieces).length ≤ 10000 := by
  have := patP_len q.pieces (fun x hx => by have := h.texts x hx; omega) q.pieces.length (Nat.le_refl _)
  rw [patP_end] at this
  have := h.len
  omega
theorem ipOk_range {p : PV} (h : ipOk p = true) : 0 ≤ p.bits ∧ p.bits ≤ widthV p := by
  unfold ipOk at h
  simp only [Bool.and_eq_true, decide_eq_true_eq] at h
  exact ⟨h.1, h.2.1⟩
theorem ipT_len (p : PV) (hp : ∀ i, i < 16 → p.addr i < 256) (hb : 0 ≤ p.bits ∧ p.bits ≤ widthV p) : (ipT p).length ≤ 1004 := by
  unfold ipT
  rw [List.length_append]
  have h1 := addrT_len p hp
  have h2 := digs_len 10 (by omega) 2 p.bits.toNat (by
    have : widthV p ≤ 128 := by unfold widthV; split <;> omega
    omega)
  split <;> simp <;> omega
theorem rText_all (p : PV) (hp : ∀ i, i < 16 → p.addr i < 256) (hb : 0 ≤ p.bits ∧ p.bits ≤ widthV p) (w : World) :
    Calls Tryz.prog 19 #[.agg (preA p)] w fun e w' => e = .returned (.string (strOfNums (ipT p))) ∧ Hid (Below w.heap.size w w') := by
  cases h : p.six with
  | true => exact rText6_any p hp h hb w
  | false => exact rText4_any p hp h hb w
theorem escT_size (s : ByteArray) (n : Nat) (h : s.size ≤ n) : (strOfNums (escT (ints s))).size ≤ 3 * n := by
  rw [nums_size]
  have := escL_len (stay keepS) (ints s)
  rw [ints_length] at this
  unfold escT
  omega
theorem Escape_keep (s : ByteArray) (w : World) (hs : s.size ≤ 100000) : Calls Tryz.prog 11 #[.string s, .string ⟨#[42, 58]⟩] w fun e w' => e = .returned (.string (strOfNums (escT (ints s)))) ∧ Hid (Below w.heap.size w w') := pct_Escape_any s keepS w hs (by decide)

set_option maxHeartbeats 4000000 in
set_option maxRecDepth 100000 in
theorem Path_bad {E : Nat → Addr} (q : QV) (A : Option Addr) (c : Nat) (w : World) (hf : Fine E q A w) (hok : qOk q = false) :
    Calls Tryz.prog 6 #[.agg (qryA q A c)] w fun e w' => e = .returned (.string ⟨#[]⟩) ∧ Hid (Below w.heap.size w w') := by
  have H : Hid (QAt w.heap.size q A c (w.alloc (.cells (qryA q A c) 30))) := Row.new w _ _ rfl
  have HB : Hid (Below w.heap.size w (w.alloc (.cells (qryA q A c) 30))) := (Below.refl _ _).alloc (Nat.le_refl _) _
  have HF := Lib.hid (hf.below HB.out)
  clear hf
  go_enter Tryz.func6, Tryz.ntmps6
  go_upto_region 1 with (fail)
  generalize w.alloc (.cells (qryA q A c) 30) = w0 at *
  go_wp2_with (first | ((with_reducible refine wpl_load_qry H.out ?hx ?_); (case hx => rfl)))
  refine (find_Check_any (E := E) q HF.out.addr A c _ HF.out.ges (by have := HF.out.len; omega)).mono ?_
  rintro e w1 ⟨⟨ho, rfl⟩ | ⟨ho, p, rfl⟩, h1⟩
  · rw [hok] at ho; cases ho
  have HB1 := Lib.hid (below_then HB.out HB.out.size h1.out)
  clear H HB HF h1 ho hok
  go_wp2_with fail
  go_ret
  exact ⟨rfl, HB1⟩

set_option maxHeartbeats 4000000 in
set_option maxRecDepth 100000 in
theorem Path_k1 {E : Nat → Addr} (q : QV) (A : Option Addr) (c : Nat) (w : World) (hf : Fine E q A w) (hk : q.kind = 1) (hok : qOk q = true) :
    Calls Tryz.prog 6 #[.agg (qryA q A c)] w fun e w' => e = .returned (.string (⟨#[104, 101, 108, 112]⟩)) ∧ Hid (Below w.heap.size w w') := by
  have H : Hid (QAt w.heap.size q A c (w.alloc (.cells (qryA q A c) 30))) := Row.new w _ _ rfl
  have HB : Hid (Below w.heap.size w (w.alloc (.cells (qryA q A c) 30))) := (Below.refl _ _).alloc (Nat.le_refl _) _
  have HF := Lib.hid (hf.below HB.out)
  clear hf
  have HOK := Lib.hid hok
  clear hok
  have HBg := Lib.hid (fun W => begin_k1 q A c W hk)
  go_enter Tryz.func6, Tryz.ntmps6
  go_upto_region 1 with (fail)
  generalize w.alloc (.cells (qryA q A c) 30) = w0 at *
  go_wp2_with (first | ((with_reducible refine wpl_load_qry H.out ?hx ?_); (case hx => rfl)))
  refine (find_Check_any (E := E) q HF.out.addr A c _ HF.out.ges (by have := HF.out.len; omega)).mono ?_
  rintro e w1 ⟨⟨ho, rfl⟩ | ⟨ho, p, rfl⟩, h1⟩
  rotate_left
  · rw [HOK.out] at ho; cases ho
  have H1 := Lib.hid (H.out.below h1.out)
  have HB1 := Lib.hid (below_then HB.out HB.out.size h1.out)
  have HF1 := Lib.hid (HF.out.below h1.out)
  clear H HB HF h1 ho HOK
  go_wp2_with (first | ((with_reducible refine wpl_load_qry H1.out ?hx ?_); (case hx => rfl)))
  refine (HBg.out _).mono ?_
  rintro e w2 ⟨rfl, h2⟩
  have H2 := Lib.hid (H1.out.below h2.out)
  have HB2 := Lib.hid (below_then HB1.out HB1.out.size h2.out)
  have HF2 := Lib.hid (HF1.out.below h2.out)
  clear H1 HB1 HF1 h2 HBg
  have c0 := H2.out.kind
  rw [hk] at c0
  clear hk
  have hz : (⟨#[104, 101, 108, 112]⟩ : ByteArray).size = 4 := rfl
  go_wp2_with fail
  go_ret
  exact ⟨by rfl, HB2⟩

set_option maxHeartbeats 4000000 in
set_option maxRecDepth 100000 in
theorem Path_k2 {E : Nat → Addr} (q : QV) (A : Option Addr) (c : Nat) (w : World) (hf : Fine E q A w) (hk : q.kind = 2) (hok : qOk q = true) :
    Calls Tryz.prog 6 #[.agg (qryA q A c)] w fun e w' => e = .returned (.string (⟨#[100, 111, 109, 97, 105, 110, 47]⟩ ++ strOfNums (escT (ints q.name)))) ∧ Hid (Below w.heap.size w w') := by
  have H : Hid (QAt w.heap.size q A c (w.alloc (.cells (qryA q A c) 30))) := Row.new w _ _ rfl
  have HB : Hid (Below w.heap.size w (w.alloc (.cells (qryA q A c) 30))) := (Below.refl _ _).alloc (Nat.le_refl _) _
  have HF := Lib.hid (hf.below HB.out)
  clear hf
  have HOK := Lib.hid hok
  clear hok
  have HBg := Lib.hid (fun W => begin_k2 q A c W hk)
  go_enter Tryz.func6, Tryz.ntmps6
  go_upto_region 1 with (fail)
  generalize w.alloc (.cells (qryA q A c) 30) = w0 at *
  go_wp2_with (first | ((with_reducible refine wpl_load_qry H.out ?hx ?_); (case hx => rfl)))
  refine (find_Check_any (E := E) q HF.out.addr A c _ HF.out.ges (by have := HF.out.len; omega)).mono ?_
  rintro e w1 ⟨⟨ho, rfl⟩ | ⟨ho, p, rfl⟩, h1⟩
  rotate_left
  · rw [HOK.out] at ho; cases ho
  have H1 := Lib.hid (H.out.below h1.out)
  have HB1 := Lib.hid (below_then HB.out HB.out.size h1.out)
  have HF1 := Lib.hid (HF.out.below h1.out)
  clear H HB HF h1 ho HOK
  go_wp2_with (first | ((with_reducible refine wpl_load_qry H1.out ?hx ?_); (case hx => rfl)))
  refine (HBg.out _).mono ?_
  rintro e w2 ⟨rfl, h2⟩
  have H2 := Lib.hid (H1.out.below h2.out)
  have HB2 := Lib.hid (below_then HB1.out HB1.out.size h2.out)
  have HF2 := Lib.hid (HF1.out.below h2.out)
  clear H1 HB1 HF1 h2 HBg
  have c0 := H2.out.kind
  rw [hk] at c0
  clear hk
  have hz : (⟨#[100, 111, 109, 97, 105, 110, 47]⟩ : ByteArray).size = 7 := rfl
  have c2 := H2.out.name
  go_wp2_with fail
  refine (Escape_keep q.name _ (by have := HF2.out.name; omega)).mono ?_
  rintro e w3 ⟨rfl, h3⟩
  obtain ⟨t, Ht⟩ : ∃ t, t = strOfNums (escT (ints q.name)) := ⟨_, rfl⟩
  have hts : t.size ≤ 900 := by rw [Ht]; exact escT_size _ 300 HF2.out.name
  rw [← Ht]
  have HT := Lib.hid Ht
  clear Ht
  have HB9 := Lib.hid (below_then HB2.out HB2.out.size h3.out)
  go_wp2_with fail
  go_ret
  exact ⟨by rw [← HT.out]; rfl, HB9⟩

set_option maxHeartbeats 4000000 in
set_option maxRecDepth 100000 in
theorem Path_k3 {E : Nat → Addr} (q : QV) (A : Option Addr) (c : Nat) (w : World) (hf : Fine E q A w) (hk : q.kind = 3) (hok : qOk q = true) :
    Calls Tryz.prog 6 #[.agg (qryA q A c)] w fun e w' => e = .returned (.string (⟨#[110, 97, 109, 101, 115, 101, 114, 118, 101, 114, 47]⟩ ++ strOfNums (escT (ints q.name)))) ∧ Hid (Below w.heap.size w w') := by
  have H : Hid (QAt w.heap.size q A c (w.alloc (.cells (qryA q A c) 30))) := Row.new w _ _ rfl
  have HB : Hid (Below w.heap.size w (w.alloc (.cells (qryA q A c) 30))) := (Below.refl _ _).alloc (Nat.le_refl _) _
  have HF := Lib.hid (hf.below HB.out)
  clear hf
  have HOK := Lib.hid hok
  clear hok
  have HBg := Lib.hid (fun W => begin_k3 q A c W hk)
  go_enter Tryz.func6, Tryz.ntmps6
  go_upto_region 1 with (fail)
  generalize w.alloc (.cells (qryA q A c) 30) = w0 at *
  go_wp2_with (first | ((with_reducible refine wpl_load_qry H.out ?hx ?_); (case hx => rfl)))
  refine (find_Check_any (E := E) q HF.out.addr A c _ HF.out.ges (by have := HF.out.len; omega)).mono ?_
  rintro e w1 ⟨⟨ho, rfl⟩ | ⟨ho, p, rfl⟩, h1⟩
  rotate_left
  · rw [HOK.out] at ho; cases ho
  have H1 := Lib.hid (H.out.below h1.out)
  have HB1 := Lib.hid (below_then HB.out HB.out.size h1.out)
  have HF1 := Lib.hid (HF.out.below h1.out)
  clear H HB HF h1 ho HOK
  go_wp2_with (first | ((with_reducible refine wpl_load_qry H1.out ?hx ?_); (case hx => rfl)))
  refine (HBg.out _).mono ?_
  rintro e w2 ⟨rfl, h2⟩
  have H2 := Lib.hid (H1.out.below h2.out)
  have HB2 := Lib.hid (below_then HB1.out HB1.out.size h2.out)
  have HF2 := Lib.hid (HF1.out.below h2.out)
  clear H1 HB1 HF1 h2 HBg
  have c0 := H2.out.kind
  rw [hk] at c0
  clear hk
  have hz : (⟨#[110, 97, 109, 101, 115, 101, 114, 118, 101, 114, 47]⟩ : ByteArray).size = 11 := rfl
  have c2 := H2.out.name
  go_wp2_with fail
  refine (Escape_keep q.name _ (by have := HF2.out.name; omega)).mono ?_
  rintro e w3 ⟨rfl, h3⟩
  obtain ⟨t, Ht⟩ : ∃ t, t = strOfNums (escT (ints q.name)) := ⟨_, rfl⟩
  have hts : t.size ≤ 900 := by rw [Ht]; exact escT_size _ 300 HF2.out.name
  rw [← Ht]
  have HT := Lib.hid Ht
  clear Ht
  have HB9 := Lib.hid (below_then HB2.out HB2.out.size h3.out)
  go_wp2_with fail
  go_ret
  exact ⟨by rw [← HT.out]; rfl, HB9⟩

set_option maxHeartbeats 4000000 in
set_option maxRecDepth 100000 in
theorem Path_k4 {E : Nat → Addr} (q : QV) (A : Option Addr) (c : Nat) (w : World) (hf : Fine E q A w) (hk : q.kind = 4) (hok : qOk q = true) :
    Calls Tryz.prog 6 #[.agg (qryA q A c)] w fun e w' => e = .returned (.string (⟨#[101, 110, 116, 105, 116, 121, 47]⟩ ++ strOfNums (escT (ints (strOfNums ((ints q.name).map capB)))))) ∧ Hid (Below w.heap.size w w') := by
  have H : Hid (QAt w.heap.size q A c (w.alloc (.cells (qryA q A c) 30))) := Row.new w _ _ rfl
  have HB : Hid (Below w.heap.size w (w.alloc (.cells (qryA q A c) 30))) := (Below.refl _ _).alloc (Nat.le_refl _) _
  have HF := Lib.hid (hf.below HB.out)
  clear hf
  have HOK := Lib.hid hok
  clear hok
  have HBg := Lib.hid (fun W => begin_k4 q A c W hk)
  go_enter Tryz.func6, Tryz.ntmps6
  go_upto_region 1 with (fail)
  generalize w.alloc (.cells (qryA q A c) 30) = w0 at *
  go_wp2_with (first | ((with_reducible refine wpl_load_qry H.out ?hx ?_); (case hx => rfl)))
  refine (find_Check_any (E := E) q HF.out.addr A c _ HF.out.ges (by have := HF.out.len; omega)).mono ?_
  rintro e w1 ⟨⟨ho, rfl⟩ | ⟨ho, p, rfl⟩, h1⟩
  rotate_left
  · rw [HOK.out] at ho; cases ho
  have H1 := Lib.hid (H.out.below h1.out)
  have HB1 := Lib.hid (below_then HB.out HB.out.size h1.out)
  have HF1 := Lib.hid (HF.out.below h1.out)
  clear H HB HF h1 ho HOK
  go_wp2_with (first | ((with_reducible refine wpl_load_qry H1.out ?hx ?_); (case hx => rfl)))
  refine (HBg.out _).mono ?_
  rintro e w2 ⟨rfl, h2⟩
  have H2 := Lib.hid (H1.out.below h2.out)
  have HB2 := Lib.hid (below_then HB1.out HB1.out.size h2.out)
  have HF2 := Lib.hid (HF1.out.below h2.out)
  clear H1 HB1 HF1 h2 HBg
  have c0 := H2.out.kind
  rw [hk] at c0
  clear hk
  have hz : (⟨#[101, 110, 116, 105, 116, 121, 47]⟩ : ByteArray).size = 7 := rfl
  have c2 := H2.out.name
  go_wp2_with fail
  refine (capitals_any q.name _ (by have := HF2.out.name; omega)).mono ?_
  rintro e w3 ⟨rfl, h3⟩
  have HB3 := Lib.hid (below_then HB2.out HB2.out.size h3.out)
  have hcs : (strOfNums ((ints q.name).map capB)).size ≤ 300 := by rw [nums_size, List.length_map, ints_length]; exact HF2.out.name
  obtain ⟨u, Hu⟩ : ∃ u, u = strOfNums ((ints q.name).map capB) := ⟨_, rfl⟩
  rw [← Hu] at hcs ⊢
  have HU := Lib.hid Hu
  clear Hu c0 c2
  go_wp2_with fail
  refine (Escape_keep u _ (by omega)).mono ?_
  rintro e w4 ⟨rfl, h4⟩
  obtain ⟨t, Ht⟩ : ∃ t, t = strOfNums (escT (ints u)) := ⟨_, rfl⟩
  have hts : t.size ≤ 900 := by rw [Ht]; exact escT_size _ 300 hcs
  rw [← Ht]
  have HT := Lib.hid Ht
  clear Ht
  have HB9 := Lib.hid (below_then HB3.out HB3.out.size h4.out)
  go_wp2_with fail
  go_ret
  exact ⟨by rw [← HU.out, ← HT.out]; rfl, HB9⟩

set_option maxHeartbeats 4000000 in
set_option maxRecDepth 100000 in
theorem Path_k5 {E : Nat → Addr} (q : QV) (A : Option Addr) (c : Nat) (w : World) (hf : Fine E q A w) (hk : q.kind = 5) (hok : qOk q = true) :
    Calls Tryz.prog 6 #[.agg (qryA q A c)] w fun e w' => e = .returned (.string (⟨#[105, 112, 47]⟩ ++ strOfNums (ipT q.net))) ∧ Hid (Below w.heap.size w w') := by
  have H : Hid (QAt w.heap.size q A c (w.alloc (.cells (qryA q A c) 30))) := Row.new w _ _ rfl
  have HB : Hid (Below w.heap.size w (w.alloc (.cells (qryA q A c) 30))) := (Below.refl _ _).alloc (Nat.le_refl _) _
  have HBits : Hid (0 ≤ q.net.bits ∧ q.net.bits ≤ widthV q.net) := by
    refine ipOk_range ?_
    unfold qOk at hok
    rw [hk] at hok
    simpa [byOk] using hok
  have HF := Lib.hid (hf.below HB.out)
  clear hf
  have HOK := Lib.hid hok
  clear hok
  have HBg := Lib.hid (fun W => begin_k5 q A c W hk)
  go_enter Tryz.func6, Tryz.ntmps6
  go_upto_region 1 with (fail)
  generalize w.alloc (.cells (qryA q A c) 30) = w0 at *
  go_wp2_with (first | ((with_reducible refine wpl_load_qry H.out ?hx ?_); (case hx => rfl)))
  refine (find_Check_any (E := E) q HF.out.addr A c _ HF.out.ges (by have := HF.out.len; omega)).mono ?_
  rintro e w1 ⟨⟨ho, rfl⟩ | ⟨ho, p, rfl⟩, h1⟩
  rotate_left
  · rw [HOK.out] at ho; cases ho
  have H1 := Lib.hid (H.out.below h1.out)
  have HB1 := Lib.hid (below_then HB.out HB.out.size h1.out)
  have HF1 := Lib.hid (HF.out.below h1.out)
  clear H HB HF h1 ho HOK
  go_wp2_with (first | ((with_reducible refine wpl_load_qry H1.out ?hx ?_); (case hx => rfl)))
  refine (HBg.out _).mono ?_
  rintro e w2 ⟨rfl, h2⟩
  have H2 := Lib.hid (H1.out.below h2.out)
  have HB2 := Lib.hid (below_then HB1.out HB1.out.size h2.out)
  have HF2 := Lib.hid (HF1.out.below h2.out)
  clear H1 HB1 HF1 h2 HBg
  have c0 := H2.out.kind
  rw [hk] at c0
  clear hk
  have hz : (⟨#[105, 112, 47]⟩ : ByteArray).size = 3 := rfl
  go_wp2_with (first | ((with_reducible refine wpl_load_net H2.out ?hx ?_); (case hx => rfl)))
  refine (ip_Text_any q.net HF2.out.addr HBits.out _ HF2.out.caps).mono ?_
  rintro e w3 ⟨rfl, h3⟩
  obtain ⟨t, Ht⟩ : ∃ t, t = strOfNums (ipT q.net) := ⟨_, rfl⟩
  have hts : t.size ≤ 1004 := by rw [Ht]; rw [nums_size]; exact ipT_len q.net HF2.out.addr HBits.out
  rw [← Ht]
  have HT := Lib.hid Ht
  clear Ht
  have HB9 := Lib.hid (below_then HB2.out HB2.out.size h3.out)
  go_wp2_with fail
  go_ret
  exact ⟨by rw [← HT.out]; rfl, HB9⟩

set_option maxHeartbeats 4000000 in
set_option maxRecDepth 100000 in
theorem Path_k6 {E : Nat → Addr} (q : QV) (A : Option Addr) (c : Nat) (w : World) (hf : Fine E q A w) (hk : q.kind = 6) (hok : qOk q = true) :
    Calls Tryz.prog 6 #[.agg (qryA q A c)] w fun e w' => e = .returned (.string (⟨#[97, 117, 116, 110, 117, 109, 47]⟩ ++ strOfNums (digs 10 q.num.toNat))) ∧ Hid (Below w.heap.size w w') := by
  have H : Hid (QAt w.heap.size q A c (w.alloc (.cells (qryA q A c) 30))) := Row.new w _ _ rfl
  have HB : Hid (Below w.heap.size w (w.alloc (.cells (qryA q A c) 30))) := (Below.refl _ _).alloc (Nat.le_refl _) _
  have HF := Lib.hid (hf.below HB.out)
  clear hf
  have HOK := Lib.hid hok
  clear hok
  have HBg := Lib.hid (fun W => begin_k6 q A c W hk)
  go_enter Tryz.func6, Tryz.ntmps6
  go_upto_region 1 with (fail)
  generalize w.alloc (.cells (qryA q A c) 30) = w0 at *
  go_wp2_with (first | ((with_reducible refine wpl_load_qry H.out ?hx ?_); (case hx => rfl)))
  refine (find_Check_any (E := E) q HF.out.addr A c _ HF.out.ges (by have := HF.out.len; omega)).mono ?_
  rintro e w1 ⟨⟨ho, rfl⟩ | ⟨ho, p, rfl⟩, h1⟩
  rotate_left
  · rw [HOK.out] at ho; cases ho
  have H1 := Lib.hid (H.out.below h1.out)
  have HB1 := Lib.hid (below_then HB.out HB.out.size h1.out)
  have HF1 := Lib.hid (HF.out.below h1.out)
  clear H HB HF h1 ho HOK
  go_wp2_with (first | ((with_reducible refine wpl_load_qry H1.out ?hx ?_); (case hx => rfl)))
  refine (HBg.out _).mono ?_
  rintro e w2 ⟨rfl, h2⟩
  have H2 := Lib.hid (H1.out.below h2.out)
  have HB2 := Lib.hid (below_then HB1.out HB1.out.size h2.out)
  have HF2 := Lib.hid (HF1.out.below h2.out)
  clear H1 HB1 HF1 h2 HBg
  have c0 := H2.out.kind
  rw [hk] at c0
  clear hk
  have hz : (⟨#[97, 117, 116, 110, 117, 109, 47]⟩ : ByteArray).size = 7 := rfl
  have c21 := H2.out.num
  have hw : IntKind.u64.wrap q.num = q.num := by have := HF2.out.num; rw [IntKind.wrap_u64]; omega
  have HN : Hid (∀ W, Caps W → Calls Tryz.prog 14 #[.int .u64 q.num, .int .i64 10] W fun e w' => e = .returned (.string (strOfNums (digs 10 q.num.toNat))) ∧ Hid (Below W.heap.size W w')) := by
    intro W hW
    obtain ⟨n, hn⟩ : ∃ n : Nat, q.num = n := ⟨q.num.toNat, by have := HF2.out.num; omega⟩
    rw [hn, Int.toNat_natCast]
    exact FormatUint10_any n (by have := HF2.out.num; omega) W hW
  have n0 := HF2.out.num.1
  have n1 := HF2.out.num.2
  go_wp2_with fail
  refine (HN.out _ HF2.out.caps).mono ?_
  rintro e w3 ⟨rfl, h3⟩
  obtain ⟨t, Ht⟩ : ∃ t, t = strOfNums (digs 10 q.num.toNat) := ⟨_, rfl⟩
  have hts : t.size ≤ 10 := by rw [Ht]; rw [nums_size]; exact digs_len 10 (by omega) 9 _ (by omega)
  rw [← Ht]
  have HT := Lib.hid Ht
  clear Ht
  have HB9 := Lib.hid (below_then HB2.out HB2.out.size h3.out)
  go_wp2_with fail
  go_ret
  exact ⟨by rw [← HT.out]; rfl, HB9⟩

set_option maxHeartbeats 4000000 in
set_option maxRecDepth 100000 in
theorem Path_k71 {E : Nat → Addr} (q : QV) (A : Option Addr) (c : Nat) (w : World) (hf : Fine E q A w) (hk : q.kind = 7) (hb : q.by_ = 1) (hok : qOk q = true) :
    Calls Tryz.prog 6 #[.agg (qryA q A c)] w fun e w' => e = .returned (.string (⟨#[100, 111, 109, 97, 105, 110, 115, 63, 110, 97, 109, 101, 61]⟩ ++ strOfNums (escT (ints (strOfNums (patT q.pieces)))))) ∧ Hid (Below w.heap.size w w') := by
  have H : Hid (QAt w.heap.size q A c (w.alloc (.cells (qryA q A c) 30))) := Row.new w _ _ rfl
  have HB : Hid (Below w.heap.size w (w.alloc (.cells (qryA q A c) 30))) := (Below.refl _ _).alloc (Nat.le_refl _) _
  have HF := Lib.hid (hf.below HB.out)
  clear hf
  have HOK := Lib.hid hok
  clear hok
  have HBg := Lib.hid (fun W => begin_k71 q A c W hk hb)
  go_enter Tryz.func6, Tryz.ntmps6
  go_upto_region 1 with (fail)
  generalize w.alloc (.cells (qryA q A c) 30) = w0 at *
  go_wp2_with (first | ((with_reducible refine wpl_load_qry H.out ?hx ?_); (case hx => rfl)))
  refine (find_Check_any (E := E) q HF.out.addr A c _ HF.out.ges (by have := HF.out.len; omega)).mono ?_
  rintro e w1 ⟨⟨ho, rfl⟩ | ⟨ho, p, rfl⟩, h1⟩
  rotate_left
  · rw [HOK.out] at ho; cases ho
  have H1 := Lib.hid (H.out.below h1.out)
  have HB1 := Lib.hid (below_then HB.out HB.out.size h1.out)
  have HF1 := Lib.hid (HF.out.below h1.out)
  clear H HB HF h1 ho HOK
  go_wp2_with (first | ((with_reducible refine wpl_load_qry H1.out ?hx ?_); (case hx => rfl)))
  refine (HBg.out _).mono ?_
  rintro e w2 ⟨rfl, h2⟩
  have H2 := Lib.hid (H1.out.below h2.out)
  have HB2 := Lib.hid (below_then HB1.out HB1.out.size h2.out)
  have HF2 := Lib.hid (HF1.out.below h2.out)
  clear H1 HB1 HF1 h2 HBg
  have c0 := H2.out.kind
  rw [hk] at c0
  have c1 := H2.out.by_
  rw [hb] at c1
  clear hk hb
  have hz : (⟨#[100, 111, 109, 97, 105, 110, 115, 63, 110, 97, 109, 101, 61]⟩ : ByteArray).size = 13 := rfl
  have c22 := H2.out.whole
  have c23 := H2.out.pieces
  go_wp2_with fail
  refine (pattern_Text_any q.whole q.pieces A c _ HF2.out.C (by have := HF2.out.len; omega) (fun x hx => by have := HF2.out.texts x hx; omega)).mono ?_
  rintro e w3 ⟨rfl, h3⟩
  have HB3 := Lib.hid (below_then HB2.out HB2.out.size h3.out)
  have hcs : (strOfNums (patT q.pieces)).size ≤ 10000 := by rw [nums_size]; exact HF2.out.pat
  obtain ⟨u, Hu⟩ : ∃ u, u = strOfNums (patT q.pieces) := ⟨_, rfl⟩
  rw [← Hu] at hcs ⊢
  have HU := Lib.hid Hu
  clear Hu c0 c1 c22 c23
  go_wp2_with fail
  refine (Escape_keep u _ (by omega)).mono ?_
  rintro e w4 ⟨rfl, h4⟩
  obtain ⟨t, Ht⟩ : ∃ t, t = strOfNums (escT (ints u)) := ⟨_, rfl⟩
  have hts : t.size ≤ 30000 := by rw [Ht]; exact escT_size _ 10000 hcs
  rw [← Ht]
  have HT := Lib.hid Ht
  clear Ht
  have HB9 := Lib.hid (below_then HB3.out HB3.out.size h4.out)
  go_wp2_with fail
  go_ret
  exact ⟨by rw [← HU.out, ← HT.out]; rfl, HB9⟩

set_option maxHeartbeats 4000000 in
set_option maxRecDepth 100000 in
theorem Path_k72 {E : Nat → Addr} (q : QV) (A : Option Addr) (c : Nat) (w : World) (hf : Fine E q A w) (hk : q.kind = 7) (hb : q.by_ = 2) (hok : qOk q = true) :
    Calls Tryz.prog 6 #[.agg (qryA q A c)] w fun e w' => e = .returned (.string (⟨#[100, 111, 109, 97, 105, 110, 115, 63, 110, 115, 76, 100, 104, 78, 97, 109, 101, 61]⟩ ++ strOfNums (escT (ints (strOfNums (patT q.pieces)))))) ∧ Hid (Below w.heap.size w w') := by
  have H : Hid (QAt w.heap.size q A c (w.alloc (.cells (qryA q A c) 30))) := Row.new w _ _ rfl
  have HB : Hid (Below w.heap.size w (w.alloc (.cells (qryA q A c) 30))) := (Below.refl _ _).alloc (Nat.le_refl _) _
  have HF := Lib.hid (hf.below HB.out)
  clear hf
  have HOK := Lib.hid hok
  clear hok
  have HBg := Lib.hid (fun W => begin_k72 q A c W hk hb)
  go_enter Tryz.func6, Tryz.ntmps6
  go_upto_region 1 with (fail)
  generalize w.alloc (.cells (qryA q A c) 30) = w0 at *
  go_wp2_with (first | ((with_reducible refine wpl_load_qry H.out ?hx ?_); (case hx => rfl)))
  refine (find_Check_any (E := E) q HF.out.addr A c _ HF.out.ges (by have := HF.out.len; omega)).mono ?_
  rintro e w1 ⟨⟨ho, rfl⟩ | ⟨ho, p, rfl⟩, h1⟩
  rotate_left
  · rw [HOK.out] at ho; cases ho
  have H1 := Lib.hid (H.out.below h1.out)
  have HB1 := Lib.hid (below_then HB.out HB.out.size h1.out)
  have HF1 := Lib.hid (HF.out.below h1.out)
  clear H HB HF h1 ho HOK
  go_wp2_with (first | ((with_reducible refine wpl_load_qry H1.out ?hx ?_); (case hx => rfl)))
  refine (HBg.out _).mono ?_
  rintro e w2 ⟨rfl, h2⟩
  have H2 := Lib.hid (H1.out.below h2.out)
  have HB2 := Lib.hid (below_then HB1.out HB1.out.size h2.out)
  have HF2 := Lib.hid (HF1.out.below h2.out)
  clear H1 HB1 HF1 h2 HBg
  have c0 := H2.out.kind
  rw [hk] at c0
  have c1 := H2.out.by_
  rw [hb] at c1
  clear hk hb
  have hz : (⟨#[100, 111, 109, 97, 105, 110, 115, 63, 110, 115, 76, 100, 104, 78, 97, 109, 101, 61]⟩ : ByteArray).size = 18 := rfl
  have c22 := H2.out.whole
  have c23 := H2.out.pieces
  go_wp2_with fail
  refine (pattern_Text_any q.whole q.pieces A c _ HF2.out.C (by have := HF2.out.len; omega) (fun x hx => by have := HF2.out.texts x hx; omega)).mono ?_
  rintro e w3 ⟨rfl, h3⟩
  have HB3 := Lib.hid (below_then HB2.out HB2.out.size h3.out)
  have hcs : (strOfNums (patT q.pieces)).size ≤ 10000 := by rw [nums_size]; exact HF2.out.pat
  obtain ⟨u, Hu⟩ : ∃ u, u = strOfNums (patT q.pieces) := ⟨_, rfl⟩
  rw [← Hu] at hcs ⊢
  have HU := Lib.hid Hu
  clear Hu c0 c1 c22 c23
  go_wp2_with fail
  refine (Escape_keep u _ (by omega)).mono ?_
  rintro e w4 ⟨rfl, h4⟩
  obtain ⟨t, Ht⟩ : ∃ t, t = strOfNums (escT (ints u)) := ⟨_, rfl⟩
  have hts : t.size ≤ 30000 := by rw [Ht]; exact escT_size _ 10000 hcs
  rw [← Ht]
  have HT := Lib.hid Ht
  clear Ht
  have HB9 := Lib.hid (below_then HB3.out HB3.out.size h4.out)
  go_wp2_with fail
  go_ret
  exact ⟨by rw [← HU.out, ← HT.out]; rfl, HB9⟩

set_option maxHeartbeats 4000000 in
set_option maxRecDepth 100000 in
theorem Path_k73 {E : Nat → Addr} (q : QV) (A : Option Addr) (c : Nat) (w : World) (hf : Fine E q A w) (hk : q.kind = 7) (hb : q.by_ = 3) (hok : qOk q = true) :
    Calls Tryz.prog 6 #[.agg (qryA q A c)] w fun e w' => e = .returned (.string (⟨#[100, 111, 109, 97, 105, 110, 115, 63, 110, 115, 73, 112, 61]⟩ ++ strOfNums (ipT q.net))) ∧ Hid (Below w.heap.size w w') := by
  have H : Hid (QAt w.heap.size q A c (w.alloc (.cells (qryA q A c) 30))) := Row.new w _ _ rfl
  have HB : Hid (Below w.heap.size w (w.alloc (.cells (qryA q A c) 30))) := (Below.refl _ _).alloc (Nat.le_refl _) _
  have HBits : Hid (0 ≤ q.net.bits ∧ q.net.bits ≤ widthV q.net) := by
    refine ipOk_range ?_
    unfold qOk at hok
    rw [hk, hb] at hok
    simp [byOk, manyQ] at hok
    exact hok.1
  have HF := Lib.hid (hf.below HB.out)
  clear hf
  have HOK := Lib.hid hok
  clear hok
  have HBg := Lib.hid (fun W => begin_k73 q A c W hk hb)
  go_enter Tryz.func6, Tryz.ntmps6
  go_upto_region 1 with (fail)
  generalize w.alloc (.cells (qryA q A c) 30) = w0 at *
  go_wp2_with (first | ((with_reducible refine wpl_load_qry H.out ?hx ?_); (case hx => rfl)))
  refine (find_Check_any (E := E) q HF.out.addr A c _ HF.out.ges (by have := HF.out.len; omega)).mono ?_
  rintro e w1 ⟨⟨ho, rfl⟩ | ⟨ho, p, rfl⟩, h1⟩
  rotate_left
  · rw [HOK.out] at ho; cases ho
  have H1 := Lib.hid (H.out.below h1.out)
  have HB1 := Lib.hid (below_then HB.out HB.out.size h1.out)
  have HF1 := Lib.hid (HF.out.below h1.out)
  clear H HB HF h1 ho HOK
  go_wp2_with (first | ((with_reducible refine wpl_load_qry H1.out ?hx ?_); (case hx => rfl)))
  refine (HBg.out _).mono ?_
  rintro e w2 ⟨rfl, h2⟩
  have H2 := Lib.hid (H1.out.below h2.out)
  have HB2 := Lib.hid (below_then HB1.out HB1.out.size h2.out)
  have HF2 := Lib.hid (HF1.out.below h2.out)
  clear H1 HB1 HF1 h2 HBg
  have c0 := H2.out.kind
  rw [hk] at c0
  have c1 := H2.out.by_
  rw [hb] at c1
  clear hk hb
  have hz : (⟨#[100, 111, 109, 97, 105, 110, 115, 63, 110, 115, 73, 112, 61]⟩ : ByteArray).size = 13 := rfl
  go_wp2_with (first | ((with_reducible refine wpl_load_net H2.out ?hx ?_); (case hx => rfl)))
  refine (ip_Text_any q.net HF2.out.addr HBits.out _ HF2.out.caps).mono ?_
  rintro e w3 ⟨rfl, h3⟩
  obtain ⟨t, Ht⟩ : ∃ t, t = strOfNums (ipT q.net) := ⟨_, rfl⟩
  have hts : t.size ≤ 1004 := by rw [Ht]; rw [nums_size]; exact ipT_len q.net HF2.out.addr HBits.out
  rw [← Ht]
  have HT := Lib.hid Ht
  clear Ht
  have HB9 := Lib.hid (below_then HB2.out HB2.out.size h3.out)
  go_wp2_with fail
  go_ret
  exact ⟨by rw [← HT.out]; rfl, HB9⟩

set_option maxHeartbeats 4000000 in
set_option maxRecDepth 100000 in
theorem Path_k81 {E : Nat → Addr} (q : QV) (A : Option Addr) (c : Nat) (w : World) (hf : Fine E q A w) (hk : q.kind = 8) (hb : q.by_ = 1) (hok : qOk q = true) :
    Calls Tryz.prog 6 #[.agg (qryA q A c)] w fun e w' => e = .returned (.string (⟨#[110, 97, 109, 101, 115, 101, 114, 118, 101, 114, 115, 63, 110, 97, 109, 101, 61]⟩ ++ strOfNums (escT (ints (strOfNums (patT q.pieces)))))) ∧ Hid (Below w.heap.size w w') := by
  have H : Hid (QAt w.heap.size q A c (w.alloc (.cells (qryA q A c) 30))) := Row.new w _ _ rfl
  have HB : Hid (Below w.heap.size w (w.alloc (.cells (qryA q A c) 30))) := (Below.refl _ _).alloc (Nat.le_refl _) _
  have HF := Lib.hid (hf.below HB.out)
  clear hf
  have HOK := Lib.hid hok
  clear hok
  have HBg := Lib.hid (fun W => begin_k81 q A c W hk hb)
  go_enter Tryz.func6, Tryz.ntmps6
  go_upto_region 1 with (fail)
  generalize w.alloc (.cells (qryA q A c) 30) = w0 at *
  go_wp2_with (first | ((with_reducible refine wpl_load_qry H.out ?hx ?_); (case hx => rfl)))
  refine (find_Check_any (E := E) q HF.out.addr A c _ HF.out.ges (by have := HF.out.len; omega)).mono ?_
  rintro e w1 ⟨⟨ho, rfl⟩ | ⟨ho, p, rfl⟩, h1⟩
  rotate_left
  · rw [HOK.out] at ho; cases ho
  have H1 := Lib.hid (H.out.below h1.out)
  have HB1 := Lib.hid (below_then HB.out HB.out.size h1.out)
  have HF1 := Lib.hid (HF.out.below h1.out)
  clear H HB HF h1 ho HOK
  go_wp2_with (first | ((with_reducible refine wpl_load_qry H1.out ?hx ?_); (case hx => rfl)))
  refine (HBg.out _).mono ?_
  rintro e w2 ⟨rfl, h2⟩
  have H2 := Lib.hid (H1.out.below h2.out)
  have HB2 := Lib.hid (below_then HB1.out HB1.out.size h2.out)
  have HF2 := Lib.hid (HF1.out.below h2.out)
  clear H1 HB1 HF1 h2 HBg
  have c0 := H2.out.kind
  rw [hk] at c0
  have c1 := H2.out.by_
  rw [hb] at c1
  clear hk hb
  have hz : (⟨#[110, 97, 109, 101, 115, 101, 114, 118, 101, 114, 115, 63, 110, 97, 109, 101, 61]⟩ : ByteArray).size = 17 := rfl
  have c22 := H2.out.whole
  have c23 := H2.out.pieces
  go_wp2_with fail
  refine (pattern_Text_any q.whole q.pieces A c _ HF2.out.C (by have := HF2.out.len; omega) (fun x hx => by have := HF2.out.texts x hx; omega)).mono ?_
  rintro e w3 ⟨rfl, h3⟩
  have HB3 := Lib.hid (below_then HB2.out HB2.out.size h3.out)
  have hcs : (strOfNums (patT q.pieces)).size ≤ 10000 := by rw [nums_size]; exact HF2.out.pat
  obtain ⟨u, Hu⟩ : ∃ u, u = strOfNums (patT q.pieces) := ⟨_, rfl⟩
  rw [← Hu] at hcs ⊢
  have HU := Lib.hid Hu
  clear Hu c0 c1 c22 c23
  go_wp2_with fail
  refine (Escape_keep u _ (by omega)).mono ?_
  rintro e w4 ⟨rfl, h4⟩
  obtain ⟨t, Ht⟩ : ∃ t, t = strOfNums (escT (ints u)) := ⟨_, rfl⟩
  have hts : t.size ≤ 30000 := by rw [Ht]; exact escT_size _ 10000 hcs
  rw [← Ht]
  have HT := Lib.hid Ht
  clear Ht
  have HB9 := Lib.hid (below_then HB3.out HB3.out.size h4.out)
  go_wp2_with fail
  go_ret
  exact ⟨by rw [← HU.out, ← HT.out]; rfl, HB9⟩

set_option maxHeartbeats 4000000 in
set_option maxRecDepth 100000 in
theorem Path_k83 {E : Nat → Addr} (q : QV) (A : Option Addr) (c : Nat) (w : World) (hf : Fine E q A w) (hk : q.kind = 8) (hb : q.by_ = 3) (hok : qOk q = true) :
    Calls Tryz.prog 6 #[.agg (qryA q A c)] w fun e w' => e = .returned (.string (⟨#[110, 97, 109, 101, 115, 101, 114, 118, 101, 114, 115, 63, 105, 112, 61]⟩ ++ strOfNums (ipT q.net))) ∧ Hid (Below w.heap.size w w') := by
  have H : Hid (QAt w.heap.size q A c (w.alloc (.cells (qryA q A c) 30))) := Row.new w _ _ rfl
  have HB : Hid (Below w.heap.size w (w.alloc (.cells (qryA q A c) 30))) := (Below.refl _ _).alloc (Nat.le_refl _) _
  have HBits : Hid (0 ≤ q.net.bits ∧ q.net.bits ≤ widthV q.net) := by
    refine ipOk_range ?_
    unfold qOk at hok
    rw [hk, hb] at hok
    simp [byOk, manyQ] at hok
    exact hok.1
  have HF := Lib.hid (hf.below HB.out)
  clear hf
  have HOK := Lib.hid hok
  clear hok
  have HBg := Lib.hid (fun W => begin_k83 q A c W hk hb)
  go_enter Tryz.func6, Tryz.ntmps6
  go_upto_region 1 with (fail)
  generalize w.alloc (.cells (qryA q A c) 30) = w0 at *
  go_wp2_with (first | ((with_reducible refine wpl_load_qry H.out ?hx ?_); (case hx => rfl)))
  refine (find_Check_any (E := E) q HF.out.addr A c _ HF.out.ges (by have := HF.out.len; omega)).mono ?_
  rintro e w1 ⟨⟨ho, rfl⟩ | ⟨ho, p, rfl⟩, h1⟩
  rotate_left
  · rw [HOK.out] at ho; cases ho
  have H1 := Lib.hid (H.out.below h1.out)
  have HB1 := Lib.hid (below_then HB.out HB.out.size h1.out)
  have HF1 := Lib.hid (HF.out.below h1.out)
  clear H HB HF h1 ho HOK
  go_wp2_with (first | ((with_reducible refine wpl_load_qry H1.out ?hx ?_); (case hx => rfl)))
  refine (HBg.out _).mono ?_
  rintro e w2 ⟨rfl, h2⟩
  have H2 := Lib.hid (H1.out.below h2.out)
  have HB2 := Lib.hid (below_then HB1.out HB1.out.size h2.out)
  have HF2 := Lib.hid (HF1.out.below h2.out)
  clear H1 HB1 HF1 h2 HBg
  have c0 := H2.out.kind
  rw [hk] at c0
  have c1 := H2.out.by_
  rw [hb] at c1
  clear hk hb
  have hz : (⟨#[110, 97, 109, 101, 115, 101, 114, 118, 101, 114, 115, 63, 105, 112, 61]⟩ : ByteArray).size = 15 := rfl
  go_wp2_with (first | ((with_reducible refine wpl_load_net H2.out ?hx ?_); (case hx => rfl)))
  refine (ip_Text_any q.net HF2.out.addr HBits.out _ HF2.out.caps).mono ?_
  rintro e w3 ⟨rfl, h3⟩
  obtain ⟨t, Ht⟩ : ∃ t, t = strOfNums (ipT q.net) := ⟨_, rfl⟩
  have hts : t.size ≤ 1004 := by rw [Ht]; rw [nums_size]; exact ipT_len q.net HF2.out.addr HBits.out
  rw [← Ht]
  have HT := Lib.hid Ht
  clear Ht
  have HB9 := Lib.hid (below_then HB2.out HB2.out.size h3.out)
  go_wp2_with fail
  go_ret
  exact ⟨by rw [← HT.out]; rfl, HB9⟩

set_option maxHeartbeats 4000000 in
set_option maxRecDepth 100000 in
theorem Path_k94 {E : Nat → Addr} (q : QV) (A : Option Addr) (c : Nat) (w : World) (hf : Fine E q A w) (hk : q.kind = 9) (hb : q.by_ = 4) (hok : qOk q = true) :
    Calls Tryz.prog 6 #[.agg (qryA q A c)] w fun e w' => e = .returned (.string (⟨#[101, 110, 116, 105, 116, 105, 101, 115, 63, 102, 110, 61]⟩ ++ strOfNums (escT (ints (strOfNums (patT q.pieces)))))) ∧ Hid (Below w.heap.size w w') := by
  have H : Hid (QAt w.heap.size q A c (w.alloc (.cells (qryA q A c) 30))) := Row.new w _ _ rfl
  have HB : Hid (Below w.heap.size w (w.alloc (.cells (qryA q A c) 30))) := (Below.refl _ _).alloc (Nat.le_refl _) _
  have HF := Lib.hid (hf.below HB.out)
  clear hf
  have HOK := Lib.hid hok
  clear hok
  have HBg := Lib.hid (fun W => begin_k94 q A c W hk hb)
  go_enter Tryz.func6, Tryz.ntmps6
  go_upto_region 1 with (fail)
  generalize w.alloc (.cells (qryA q A c) 30) = w0 at *
  go_wp2_with (first | ((with_reducible refine wpl_load_qry H.out ?hx ?_); (case hx => rfl)))
  refine (find_Check_any (E := E) q HF.out.addr A c _ HF.out.ges (by have := HF.out.len; omega)).mono ?_
  rintro e w1 ⟨⟨ho, rfl⟩ | ⟨ho, p, rfl⟩, h1⟩
  rotate_left
  · rw [HOK.out] at ho; cases ho
  have H1 := Lib.hid (H.out.below h1.out)
  have HB1 := Lib.hid (below_then HB.out HB.out.size h1.out)
  have HF1 := Lib.hid (HF.out.below h1.out)
  clear H HB HF h1 ho HOK
  go_wp2_with (first | ((with_reducible refine wpl_load_qry H1.out ?hx ?_); (case hx => rfl)))
  refine (HBg.out _).mono ?_
  rintro e w2 ⟨rfl, h2⟩
  have H2 := Lib.hid (H1.out.below h2.out)
  have HB2 := Lib.hid (below_then HB1.out HB1.out.size h2.out)
  have HF2 := Lib.hid (HF1.out.below h2.out)
  clear H1 HB1 HF1 h2 HBg
  have c0 := H2.out.kind
  rw [hk] at c0
  have c1 := H2.out.by_
  rw [hb] at c1
  clear hk hb
  have hz : (⟨#[101, 110, 116, 105, 116, 105, 101, 115, 63, 102, 110, 61]⟩ : ByteArray).size = 12 := rfl
  have c22 := H2.out.whole
  have c23 := H2.out.pieces
  go_wp2_with fail
  refine (pattern_Text_any q.whole q.pieces A c _ HF2.out.C (by have := HF2.out.len; omega) (fun x hx => by have := HF2.out.texts x hx; omega)).mono ?_
  rintro e w3 ⟨rfl, h3⟩
  have HB3 := Lib.hid (below_then HB2.out HB2.out.size h3.out)
  have hcs : (strOfNums (patT q.pieces)).size ≤ 10000 := by rw [nums_size]; exact HF2.out.pat
  obtain ⟨u, Hu⟩ : ∃ u, u = strOfNums (patT q.pieces) := ⟨_, rfl⟩
  rw [← Hu] at hcs ⊢
  have HU := Lib.hid Hu
  clear Hu c0 c1 c22 c23
  go_wp2_with fail
  refine (Escape_keep u _ (by omega)).mono ?_
  rintro e w4 ⟨rfl, h4⟩
  obtain ⟨t, Ht⟩ : ∃ t, t = strOfNums (escT (ints u)) := ⟨_, rfl⟩
  have hts : t.size ≤ 30000 := by rw [Ht]; exact escT_size _ 10000 hcs
  rw [← Ht]
  have HT := Lib.hid Ht
  clear Ht
  have HB9 := Lib.hid (below_then HB3.out HB3.out.size h4.out)
  go_wp2_with fail
  go_ret
  exact ⟨by rw [← HU.out, ← HT.out]; rfl, HB9⟩

set_option maxHeartbeats 4000000 in
set_option maxRecDepth 100000 in
theorem Path_k95 {E : Nat → Addr} (q : QV) (A : Option Addr) (c : Nat) (w : World) (hf : Fine E q A w) (hk : q.kind = 9) (hb : q.by_ = 5) (hok : qOk q = true) :
    Calls Tryz.prog 6 #[.agg (qryA q A c)] w fun e w' => e = .returned (.string (⟨#[101, 110, 116, 105, 116, 105, 101, 115, 63, 104, 97, 110, 100, 108, 101, 61]⟩ ++ strOfNums (escT (ints (strOfNums (patT q.pieces)))))) ∧ Hid (Below w.heap.size w w') := by
  have H : Hid (QAt w.heap.size q A c (w.alloc (.cells (qryA q A c) 30))) := Row.new w _ _ rfl
  have HB : Hid (Below w.heap.size w (w.alloc (.cells (qryA q A c) 30))) := (Below.refl _ _).alloc (Nat.le_refl _) _
  have HF := Lib.hid (hf.below HB.out)
  clear hf
  have HOK := Lib.hid hok
  clear hok
  have HBg := Lib.hid (fun W => begin_k95 q A c W hk hb)
  go_enter Tryz.func6, Tryz.ntmps6
  go_upto_region 1 with (fail)
  generalize w.alloc (.cells (qryA q A c) 30) = w0 at *
  go_wp2_with (first | ((with_reducible refine wpl_load_qry H.out ?hx ?_); (case hx => rfl)))
  refine (find_Check_any (E := E) q HF.out.addr A c _ HF.out.ges (by have := HF.out.len; omega)).mono ?_
  rintro e w1 ⟨⟨ho, rfl⟩ | ⟨ho, p, rfl⟩, h1⟩
  rotate_left
  · rw [HOK.out] at ho; cases ho
  have H1 := Lib.hid (H.out.below h1.out)
  have HB1 := Lib.hid (below_then HB.out HB.out.size h1.out)
  have HF1 := Lib.hid (HF.out.below h1.out)
  clear H HB HF h1 ho HOK
  go_wp2_with (first | ((with_reducible refine wpl_load_qry H1.out ?hx ?_); (case hx => rfl)))
  refine (HBg.out _).mono ?_
  rintro e w2 ⟨rfl, h2⟩
  have H2 := Lib.hid (H1.out.below h2.out)
  have HB2 := Lib.hid (below_then HB1.out HB1.out.size h2.out)
  have HF2 := Lib.hid (HF1.out.below h2.out)
  clear H1 HB1 HF1 h2 HBg
  have c0 := H2.out.kind
  rw [hk] at c0
  have c1 := H2.out.by_
  rw [hb] at c1
  clear hk hb
  have hz : (⟨#[101, 110, 116, 105, 116, 105, 101, 115, 63, 104, 97, 110, 100, 108, 101, 61]⟩ : ByteArray).size = 16 := rfl
  have c22 := H2.out.whole
  have c23 := H2.out.pieces
  go_wp2_with fail
  refine (pattern_Text_any q.whole q.pieces A c _ HF2.out.C (by have := HF2.out.len; omega) (fun x hx => by have := HF2.out.texts x hx; omega)).mono ?_
  rintro e w3 ⟨rfl, h3⟩
  have HB3 := Lib.hid (below_then HB2.out HB2.out.size h3.out)
  have hcs : (strOfNums (patT q.pieces)).size ≤ 10000 := by rw [nums_size]; exact HF2.out.pat
  obtain ⟨u, Hu⟩ : ∃ u, u = strOfNums (patT q.pieces) := ⟨_, rfl⟩
  rw [← Hu] at hcs ⊢
  have HU := Lib.hid Hu
  clear Hu c0 c1 c22 c23
  go_wp2_with fail
  refine (Escape_keep u _ (by omega)).mono ?_
  rintro e w4 ⟨rfl, h4⟩
  obtain ⟨t, Ht⟩ : ∃ t, t = strOfNums (escT (ints u)) := ⟨_, rfl⟩
  have hts : t.size ≤ 30000 := by rw [Ht]; exact escT_size _ 10000 hcs
  rw [← Ht]
  have HT := Lib.hid Ht
  clear Ht
  have HB9 := Lib.hid (below_then HB3.out HB3.out.size h4.out)
  go_wp2_with fail
  go_ret
  exact ⟨by rw [← HU.out, ← HT.out]; rfl, HB9⟩
end Go.Proofs.YtngokkebjadoiaaGreatDoor

