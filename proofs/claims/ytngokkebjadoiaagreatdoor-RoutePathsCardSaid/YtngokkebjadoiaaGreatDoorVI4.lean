/- What the claim uses of the text I4. -/
import Derived.Test.YtngokkebjadoiaaGreatDoorVI3
import Derived.Test.YtngokkebjadoiaaGreatDoorVG8
set_option linter.unusedVariables false
set_option linter.unusedSimpArgs false
namespace Go.Proofs.YtngokkebjadoiaaGreatDoor
open Go.RowKit Go.PlainAid
open Go.Proofs.YtngokkebjadoiaaGreatDoorW.PrintWords hiding bt
open Go.Proofs.YtngokkebjadoiaaGreatDoorW.PrintMore

def pz : ByteArray × Bool := (⟨#[]⟩, false)
/-- A piece in memory. -/
theorem pk_at {w : World} {A : Option Addr} {k : Nat} {xs : List (ByteArray × Bool)} (h : pk.C w A k xs) (i : Nat) (h1 : i < k) :
    ∃ ad, A = some ad ∧ w.cell? (ad.add (i * 2)) = some (.string (xs.getD i pz).1) ∧ w.cell? ⟨(ad.add (i * 2)).block, (ad.add (i * 2)).off + 1, none⟩ = some (.bool (xs.getD i pz).2) := by
  obtain ⟨ad, c, e, _, hK, hc0⟩ := Kd.C_get h pz (i : Int) (by omega) (by omega)
  have hs : pk.sz = 2 := rfl
  rw [hs, Int.toNat_natCast] at hc0
  rw [Int.toNat_natCast] at hK
  obtain ⟨c1, c2, rfl, h1, h2⟩ := hK
  obtain rfl := h1
  obtain rfl := h2
  refine ⟨ad, e, ?_, ?_⟩
  · have := hc0 0 _ rfl; rwa [Nat.add_zero] at this
  · rw [← add_field _ _ 1 (by omega)]; exact hc0 1 _ rfl
/-- Is a query more than is looked at? -/
def longQ (q : QV) : Bool := decide (6 < q.pieces.length) || (decide (300 < q.name.size) || q.pieces.any fun x => decide (100 < x.1.size))
theorem longQ_of {q : QV} (h : longQ q = false) : q.pieces.length ≤ 6 ∧ q.name.size ≤ 300 ∧ ∀ x ∈ q.pieces, x.1.size ≤ 100 := by
  unfold longQ at h
  simp only [Bool.or_eq_false_iff, decide_eq_false_iff_not, List.any_eq_false, decide_eq_true_eq] at h
  exact ⟨by omega, by omega, fun x hx => by have := h.2.2 x hx; omega⟩
/-- A pattern's text so far. -/
def patP (ps : List (ByteArray × Bool)) (i : Nat) : List Int := joinI [46] ((ps.take i).map pieceL)
theorem patP_end (ps : List (ByteArray × Bool)) : patP ps ps.length = patT ps := by unfold patP patT; rw [List.take_length]
theorem patP_step (ps : List (ByteArray × Bool)) (i : Nat) (h : i < ps.length) : patP ps (i + 1) = patP ps i ++ (if i = 0 then [] else [46]) ++ (ints (ps.getD i pz).1 ++ if (ps.getD i pz).2 = true then [42] else []) := by
  unfold patP
  rw [List.take_succ_eq_append_getElem h, List.map_append, List.map_cons, List.map_nil, joinI_snoc, List.getD_eq_getElem?_getD, List.getElem?_eq_getElem h]
  congr 1
  congr 1
  by_cases hi : i = 0
  · subst hi; simp
  · rw [if_neg hi, if_neg]
    simp
    constructor
    · exact hi
    · intro e; rw [e] at h; simp at h
theorem patP_len (ps : List (ByteArray × Bool)) (hz : ∀ x ∈ ps, x.1.size ≤ 1000) (i : Nat) (hi : i ≤ ps.length) : (patP ps i).length ≤ i * 1002 := by
  unfold patP
  have := joinI_len [46] 1001 ((ps.take i).map pieceL) (fun t ht => by
    rw [List.mem_map] at ht
    obtain ⟨x, hx, rfl⟩ := ht
    have := hz x (List.mem_of_mem_take hx)
    unfold pieceL
    rw [List.length_append, ints_length]
    split <;> simp <;> omega)
  rw [List.length_map, List.length_take] at this
  simp only [List.length_cons, List.length_nil] at this
  rw [show min i ps.length = i by omega] at this
  omega
theorem Bld.wrote {B b c : Nat} {bs : List Int} {w W : World} {t : TypeId} {cs : Array Value} (h : Bld B b bs w) (hr : Row t c cs w) (h1 : t ≠ 73) (h2 : t ≠ 5) (hw : Wrote c w W) : Bld B b bs W := by
  have ha : ∀ p cs, Lib.BuilderAt 73 5 B b p cs w → Lib.BuilderAt 73 5 B b p cs W := by
    intro p cs' g
    obtain ⟨g1, v, g2, g3, g4⟩ := g
    have hb : b ≠ c := by
      rintro rfl
      unfold Row at hr
      rw [hr] at g2
      injection g2 with g2
      injection g2 with _ g2
      exact h1 g2
    refine ⟨g1, v, (hw.rest b hb).trans g2, own_move g3 (fun k hk => hw.rest k ?_), g4⟩
    rintro rfl
    obtain ⟨cells, hc⟩ := own_typed g3 k hk
    unfold Row at hr
    rw [hr] at hc
    injection hc with hc
    injection hc with _ hc
    exact h2 hc
  exact ⟨h.1, h.2.imp (ha _ _) (ha _ _)⟩
theorem info_piece : (Tryz.prog.info? 49).map (·.size) = some 2 := by kernel_rfl

set_option maxHeartbeats 2000000 in
set_option maxRecDepth 100000 in
theorem Long_any (q : QV) (A : Option Addr) (c : Nat) (w : World) (hC : pk.C w A q.pieces.length q.pieces) :
    Calls Tryz.prog 5 #[.agg (qryA q A c)] w fun e w' => e = .returned (.bool (longQ q)) ∧ Hid (Below w.heap.size w w') := by
  have H : Hid (QAt w.heap.size q A c (w.alloc (.cells (qryA q A c) 30))) := Row.new w _ _ rfl
  have HB : Hid (Below w.heap.size w (w.alloc (.cells (qryA q A c) 30))) := (Below.refl _ _).alloc (Nat.le_refl _) _
  have HC := Lib.hid (Kd.C_below hC HB.out)
  have HN : Hid (q.pieces.length ≤ 9223372036854775807) := hC.2.1
  clear hC
  go_enter Tryz.func5, Tryz.ntmps5
  go_upto_region 1 with (fail)
  generalize w.alloc (.cells (qryA q A c) 30) = w0 at *
  have c2 := H.out.name
  have c23 := H.out.pieces
  by_cases h6 : 6 < q.pieces.length
  · have HL : Hid (longQ q = true) := by show _ = _; unfold longQ; rw [decide_eq_true h6]; rfl
    go_wp2_with fail
    go_ret
    exact ⟨by rw [HL.out]; rfl, HB⟩
  by_cases h3 : 300 < q.name.size
  · have HL : Hid (longQ q = true) := by show _ = _; unfold longQ; rw [decide_eq_true h3]; simp
    go_wp2_with fail
    go_ret
    exact ⟨by rw [HL.out]; rfl, HB⟩
  have HL0 : Hid (longQ q = q.pieces.any fun x => decide (100 < x.1.size)) := by show _ = _; unfold longQ; rw [decide_eq_false h6, decide_eq_false h3]; rfl
  have H3 := Lib.hid h3
  go_wp2_with fail
  clear h3
  go_loopg [3] q.pieces.length (fun k v3 w' => w' = w0 ∧ ∃ i : Nat, v3 = .int .i64 i ∧ Hid (i + k = q.pieces.length) ∧ Hid (∀ j, j < i → (q.pieces.getD j pz).1.size ≤ 100))
  case atStart => exact ⟨rfl, 0, rfl, by show _ = _; omega, fun j hj => by omega⟩
  case round =>
    obtain ⟨rfl, i, rfl, HI, HJ⟩ := hrel
    by_cases hlt : i < q.pieces.length
    · cases gk with
      | zero => have := HI.out; omega
      | succ k1 =>
        have HI2 : Hid (i + 1 + k1 = q.pieces.length) := by have := HI.out; show _ = _; omega
        obtain ⟨ad, rfl, p0, p1⟩ := pk_at HC.out i hlt
        obtain ⟨⟨xt, xo⟩, hx⟩ : ∃ x, q.pieces.getD i pz = x := ⟨_, rfl⟩
        rw [hx] at p0 p1
        have HX := Lib.hid hx
        clear hx
        dsimp only at p0 p1
        by_cases hb : 100 < xt.size
        · have HL : Hid (longQ q = true) := by
            show _ = _
            rw [HL0.out, List.any_eq_true]
            refine ⟨(xt, xo), ?_, decide_eq_true hb⟩
            rw [← HX.out, List.getD_eq_getElem?_getD, List.getElem?_eq_getElem hlt]
            exact List.getElem_mem hlt
          go_wp2_with fail
          go_ret
          exact ⟨by rw [HL.out]; rfl, HB⟩
        · have HJ2 : Hid (∀ j, j < i + 1 → (q.pieces.getD j pz).1.size ≤ 100) := fun j hj => by
            by_cases e : j = i
            · subst e; rw [HX.out]; show xt.size ≤ 100; omega
            · exact HJ.out j (by omega)
          go_wp2_with fail
          go_roundg k1
          case measure => omega
          case rel => exact ⟨rfl, i + 1, by go_num, HI2, HJ2⟩
    · have HL : Hid (longQ q = false) := by
        show _ = _
        rw [HL0.out, List.any_eq_false]
        intro x hx
        obtain ⟨j, hj, rfl⟩ := List.mem_iff_getElem.1 hx
        have h5 := HJ.out j (by omega)
        rw [List.getD_eq_getElem?_getD, List.getElem?_eq_getElem hj] at h5
        simp only [Option.getD_some] at h5
        simp
        exact h5
      clear HJ HI
      go_wp2_with fail
      go_ret
      exact ⟨by rw [HL.out]; rfl, HB⟩

set_option maxHeartbeats 4000000 in
set_option maxRecDepth 100000 in
theorem pattern_Text_any (wh : Bool) (ps : List (ByteArray × Bool)) (A : Option Addr) (c : Nat) (w : World) (hC : pk.C w A ps.length ps) (hn : ps.length ≤ 1000) (hz : ∀ x ∈ ps, x.1.size ≤ 1000) :
    Calls Tryz.prog 15 #[.agg #[.bool wh, .slice A ps.length c]] w fun e w' => e = .returned (.string (strOfNums (patT ps))) ∧ Hid (Below w.heap.size w w') := by
  have H : Hid (Row 28 w.heap.size #[.bool wh, .slice A ps.length c] (w.alloc (.cells #[.bool wh, .slice A ps.length c] 28))) := Row.new w _ _ rfl
  have HBw : Hid (Below w.heap.size w (w.alloc (.cells #[.bool wh, .slice A ps.length c] 28))) := (Below.refl _ _).alloc (Nat.le_refl _) _
  have HC := Lib.hid (Kd.C_below hC HBw.out)
  have HZ := Lib.hid hz
  clear hC hz
  go_enter Tryz.func15, Tryz.ntmps15
  go_upto_region 1 with (fail)
  generalize w.alloc (.cells #[.bool wh, .slice A ps.length c] 28) = w0 at *
  have c1 := H.out.cell 1 _ rfl
  have c1' := (H.out.old (.cells #[.pointer none, .slice none 0 0] 73)).cell 1 _ rfl
  have H0 : Hid (Bld w0.heap.size w0.heap.size [] (w0.alloc (.cells #[.pointer none, .slice none 0 0] 73))) := ⟨by simp, Lib.fresh_isBuilder _ _ w0⟩
  go_wp2_with fail
  clear c1 c1'
  go_loopg [9] ps.length (fun k v9 w' => ∃ i : Nat, v9 = .int .i64 i ∧ Hid (i + k = ps.length) ∧ Hid (Bld w0.heap.size w0.heap.size (patP ps i) w') ∧ Hid (Below w0.heap.size w0 w'))
  case atStart => exact ⟨0, rfl, by show _ = _; omega, H0.out, (Below.refl _ _).alloc (Nat.le_refl _) _⟩
  case round =>
    obtain ⟨i, rfl, HI, H1, HB⟩ := hrel
    clear H0
    have HLen : Hid ((patP ps i).length ≤ 1002000) := by
      have := patP_len ps HZ.out i (by have := HI.out; omega)
      have := HI.out
      show _ ≤ _
      omega
    by_cases hlt : i < ps.length
    · cases gk with
      | zero => have := HI.out; omega
      | succ k1 =>
        have HI2 : Hid (i + 1 + k1 = ps.length) := by have := HI.out; show _ = _; omega
        have HE := Lib.hid (patP_step ps i hlt)
        have HX : Hid ((ps.getD i pz).1.size ≤ 1000) := by
          refine HZ.out _ ?_
          rw [List.getD_eq_getElem?_getD, List.getElem?_eq_getElem hlt]
          exact List.getElem_mem hlt
        obtain ⟨ad, rfl, p0, p1⟩ := pk_at (Kd.C_below HC.out HB.out) i hlt
        obtain ⟨⟨xt, xo⟩, hx⟩ : ∃ x, ps.getD i pz = x := ⟨_, rfl⟩
        rw [hx] at p0 p1 HE HX
        clear hx
        dsimp only at p0 p1 HE HX
        have HV : Hid (Row 49 wr.heap.size #[.string ⟨#[]⟩, .bool false] (wr.alloc (.cells #[.string ⟨#[]⟩, .bool false] 49))) := Row.new wr _ _ rfl
        have HB2 : Hid (Below w0.heap.size w0 (wr.alloc (.cells #[.string ⟨#[]⟩, .bool false] 49))) := HB.out.alloc HB.out.size _
        have H2 : Hid (Bld w0.heap.size w0.heap.size (patP ps i) (wr.alloc (.cells #[.string ⟨#[]⟩, .bool false] 49))) := H1.out.alloc _
        go_upto_region 5 with (first | ((with_reducible refine wpl_put (t := 49) (n := 2) info_piece (cs := ?_) HV.out rfl ?hx ?hy ?hs ?hz ?_); (case hx => rfl); (case hy => rfl); (case hs => rfl); (case hz => (simp [Value.oneCell']; done)); intro w2 hr2 hw2))
        have HB3 := Lib.hid (hw2.below HB2.out HB.out.size)
        have H3 := Lib.hid (H2.out.wrote HV.out (by decide) (by decide) hw2)
        have x0 := hr2.cell 0 _ rfl
        have x1 := hr2.cell 1 _ rfl
        have HR := Lib.hid hr2
        clear hw2 H2 HB2 HV H1 HB p0 p1 hr2
        by_cases hi0 : i = 0
        · have hle : i ≤ 0 := by omega
          cases xo with
          | true =>
            rw [if_pos hi0, if_pos rfl] at HE
            clear hi0
            have hW2 := Lib.hid (H3.out.putS xt _ rfl (by have := HX.out; omega) (by have := HLen.out; simp; omega) HB3.out)
            go_wp2_with fail
            refine hW2.out.mono ?_
            rintro e w4 ⟨rfl, hB4, hb4, hk4⟩
            have z1 := (Keeps.row HR.out hk4.out (by decide) (by decide)).cell 1 _ rfl
            clear hW2 H3 HB3 hk4 HR x0 x1
            have hW5 := Lib.hid (hB4.out.putB 42 (by omega) (by omega) (by have := HLen.out; have := HX.out; simp [ints_length]; omega) hb4.out)
            go_wp2_with fail
            refine hW5.out.mono ?_
            rintro e w5 ⟨rfl, hB5, hb5, hk5⟩
            clear hW5 hB4 hb4 hk5 z1
            go_wp2_with fail
            go_roundg k1
            case measure => omega
            case rel => exact ⟨i + 1, by go_num, HI2, by rw [HE.out]; first | exact hB5.out | (simpa using hB5.out) | (have := hB5.out; simp only [List.append_assoc, List.append_nil, List.nil_append] at this ⊢; exact this), hb5⟩
          | false =>
            rw [if_pos hi0, if_neg (by simp)] at HE
            clear hi0
            have hW2 := Lib.hid (H3.out.putS xt _ rfl (by have := HX.out; omega) (by have := HLen.out; simp; omega) HB3.out)
            go_wp2_with fail
            refine hW2.out.mono ?_
            rintro e w4 ⟨rfl, hB4, hb4, hk4⟩
            have z1 := (Keeps.row HR.out hk4.out (by decide) (by decide)).cell 1 _ rfl
            clear hW2 H3 HB3 hk4 HR x0 x1
            go_wp2_with fail
            go_roundg k1
            case measure => omega
            case rel => exact ⟨i + 1, by go_num, HI2, by rw [HE.out]; first | exact hB4.out | (simpa using hB4.out) | (have := hB4.out; simp only [List.append_assoc, List.append_nil, List.nil_append] at this ⊢; exact this), hb4⟩
        · have hpos : 0 < i := by omega
          cases xo with
          | true =>
            rw [if_neg hi0, if_pos rfl] at HE
            clear hi0
            have hW := Lib.hid (H3.out.putB 46 (by omega) (by omega) (by have := HLen.out; omega) HB3.out)
            go_wp2_with fail
            refine hW.out.mono ?_
            rintro e w3 ⟨rfl, hB, hb, hk⟩
            have y0 := (Keeps.row HR.out hk.out (by decide) (by decide)).cell 0 _ rfl
            have HR3 := Lib.hid (Keeps.row HR.out hk.out (by decide) (by decide))
            clear hW H3 HB3 hk x0 x1 HR
            have hW2 := Lib.hid (hB.out.putS xt _ rfl (by have := HX.out; omega) (by have := HLen.out; simp; omega) hb.out)
            go_wp2_with fail
            refine hW2.out.mono ?_
            rintro e w4 ⟨rfl, hB4, hb4, hk4⟩
            have z1 := (Keeps.row HR3.out hk4.out (by decide) (by decide)).cell 1 _ rfl
            clear hW2 hB hb hk4 HR3 y0
            have hW5 := Lib.hid (hB4.out.putB 42 (by omega) (by omega) (by have := HLen.out; have := HX.out; simp [ints_length]; omega) hb4.out)
            go_wp2_with fail
            refine hW5.out.mono ?_
            rintro e w5 ⟨rfl, hB5, hb5, hk5⟩
            clear hW5 hB4 hb4 hk5 z1
            go_wp2_with fail
            go_roundg k1
            case measure => omega
            case rel => exact ⟨i + 1, by go_num, HI2, by rw [HE.out]; first | exact hB5.out | (simpa using hB5.out) | (have := hB5.out; simp only [List.append_assoc, List.append_nil, List.nil_append] at this ⊢; exact this), hb5⟩
          | false =>
            rw [if_neg hi0, if_neg (by simp)] at HE
            clear hi0
            have hW := Lib.hid (H3.out.putB 46 (by omega) (by omega) (by have := HLen.out; omega) HB3.out)
            go_wp2_with fail
            refine hW.out.mono ?_
            rintro e w3 ⟨rfl, hB, hb, hk⟩
            have y0 := (Keeps.row HR.out hk.out (by decide) (by decide)).cell 0 _ rfl
            have HR3 := Lib.hid (Keeps.row HR.out hk.out (by decide) (by decide))
            clear hW H3 HB3 hk x0 x1 HR
            have hW2 := Lib.hid (hB.out.putS xt _ rfl (by have := HX.out; omega) (by have := HLen.out; simp; omega) hb.out)
            go_wp2_with fail
            refine hW2.out.mono ?_
            rintro e w4 ⟨rfl, hB4, hb4, hk4⟩
            have z1 := (Keeps.row HR3.out hk4.out (by decide) (by decide)).cell 1 _ rfl
            clear hW2 hB hb hk4 HR3 y0
            go_wp2_with fail
            go_roundg k1
            case measure => omega
            case rel => exact ⟨i + 1, by go_num, HI2, by rw [HE.out]; first | exact hB4.out | (simpa using hB4.out) | (have := hB4.out; simp only [List.append_assoc, List.append_nil, List.nil_append] at this ⊢; exact this), hb4⟩
    · have HI3 : i = ps.length := by have := HI.out; omega
      subst HI3
      rw [patP_end] at H1
      have HT := Lib.hid (H1.out.text HB.out)
      clear H1 HI
      go_wp2_with fail
      refine HT.out.mono ?_
      rintro e w6 ⟨rfl, hb6⟩
      go_wp2
      go_ret
      exact ⟨rfl, below_then HBw.out HBw.out.size hb6.out⟩

set_option maxHeartbeats 4000000 in
set_option maxRecDepth 100000 in
theorem rText_any (wh : Bool) (ps : List (ByteArray × Bool)) (A : Option Addr) (c : Nat) (w : World) (hC : pk.C w A ps.length ps) (hn : ps.length ≤ 1000) (hz : ∀ x ∈ ps, x.1.size ≤ 1000) :
    Calls Tryz.prog 21 #[.agg #[.bool wh, .slice A ps.length c]] w fun e w' => e = .returned (.string (strOfNums (patT ps))) ∧ Hid (Below w.heap.size w w') := by
  have H : Hid (Row 28 w.heap.size #[.bool wh, .slice A ps.length c] (w.alloc (.cells #[.bool wh, .slice A ps.length c] 28))) := Row.new w _ _ rfl
  have HBw : Hid (Below w.heap.size w (w.alloc (.cells #[.bool wh, .slice A ps.length c] 28))) := (Below.refl _ _).alloc (Nat.le_refl _) _
  have HC := Lib.hid (Kd.C_below hC HBw.out)
  have HZ := Lib.hid hz
  clear hC hz
  go_enter Tryz.func21, Tryz.ntmps21
  go_upto_region 1 with (fail)
  generalize w.alloc (.cells #[.bool wh, .slice A ps.length c] 28) = w0 at *
  have c1 := H.out.cell 1 _ rfl
  go_wp2_with fail
  go_loopg [3, 4] ps.length (fun k v3 v4 w' => w' = w0 ∧ ∃ i : Nat, v4 = .int .i64 i ∧ v3 = .string (strOfNums (patP ps i)) ∧ Hid (i + k = ps.length))
  case atStart => exact ⟨rfl, 0, rfl, rfl, by show _ = _; omega⟩
  case round =>
    obtain ⟨rfl, i, rfl, rfl, HI⟩ := hrel
    have HLen : Hid ((patP ps i).length ≤ 1002000) := by
      have := patP_len ps HZ.out i (by have := HI.out; omega)
      have := HI.out
      show _ ≤ _
      omega
    by_cases hlt : i < ps.length
    · cases gk with
      | zero => have := HI.out; omega
      | succ k1 =>
        have HI2 : Hid (i + 1 + k1 = ps.length) := by have := HI.out; show _ = _; omega
        have HE := Lib.hid (patP_step ps i hlt)
        have HX : Hid ((ps.getD i pz).1.size ≤ 1000) := by
          refine HZ.out _ ?_
          rw [List.getD_eq_getElem?_getD, List.getElem?_eq_getElem hlt]
          exact List.getElem_mem hlt
        obtain ⟨ad, rfl, p0, p1⟩ := pk_at HC.out i hlt
        obtain ⟨⟨xt, xo⟩, hx⟩ : ∃ x, ps.getD i pz = x := ⟨_, rfl⟩
        rw [hx] at p0 p1 HE HX
        clear hx
        dsimp only at p0 p1 HE HX
        obtain ⟨t, Ht⟩ : ∃ t, Hid (strOfNums (patP ps i) = t) := ⟨_, rfl⟩
        rw [Ht.out]
        have hts : t.size ≤ 1002000 := by rw [← Ht.out, nums_size]; exact HLen.out
        have hxs : xt.size ≤ 1000 := HX.out
        have HXT : Hid (strOfNums (ints xt) = xt) := ints_inj (ints_nums _ (ints_range xt))
        by_cases hi0 : i = 0
        · have hle : i ≤ 0 := by omega
          cases xo with
          | true =>
            rw [if_pos hi0, if_pos rfl] at HE
            clear hi0
            have u0 : (⟨#[46]⟩ : ByteArray).size = 1 := rfl
            have u1 : (⟨#[42]⟩ : ByteArray).size = 1 := rfl
            have s1 : (t ++ ⟨#[46]⟩).size = t.size + 1 := by rw [ByteArray.size_append]; rfl
            have s2 : (t ++ xt).size = t.size + xt.size := by rw [ByteArray.size_append]
            have s3 : (t ++ ⟨#[46]⟩ ++ xt).size = t.size + 1 + xt.size := by rw [ByteArray.size_append, s1]
            go_wp2_with fail
            go_roundg k1
            case measure => omega
            case rel =>
              refine ⟨rfl, i + 1, by go_num, ?_, HI2⟩
              rw [HE.out, ← Ht.out]
              simp only [← nums_append', List.append_nil, HXT.out]
              all_goals first | rfl | (simp only [ByteArray.append_assoc]; rfl)
          | false =>
            rw [if_pos hi0, if_neg (by simp)] at HE
            clear hi0
            have u0 : (⟨#[46]⟩ : ByteArray).size = 1 := rfl
            have u1 : (⟨#[42]⟩ : ByteArray).size = 1 := rfl
            have s1 : (t ++ ⟨#[46]⟩).size = t.size + 1 := by rw [ByteArray.size_append]; rfl
            have s2 : (t ++ xt).size = t.size + xt.size := by rw [ByteArray.size_append]
            have s3 : (t ++ ⟨#[46]⟩ ++ xt).size = t.size + 1 + xt.size := by rw [ByteArray.size_append, s1]
            go_wp2_with fail
            go_roundg k1
            case measure => omega
            case rel =>
              refine ⟨rfl, i + 1, by go_num, ?_, HI2⟩
              rw [HE.out, ← Ht.out]
              simp only [← nums_append', List.append_nil, HXT.out]
              all_goals first | rfl | (simp only [ByteArray.append_assoc]; rfl)
        · have hpos : 0 < i := by omega
          cases xo with
          | true =>
            rw [if_neg hi0, if_pos rfl] at HE
            clear hi0
            have u0 : (⟨#[46]⟩ : ByteArray).size = 1 := rfl
            have u1 : (⟨#[42]⟩ : ByteArray).size = 1 := rfl
            have s1 : (t ++ ⟨#[46]⟩).size = t.size + 1 := by rw [ByteArray.size_append]; rfl
            have s2 : (t ++ xt).size = t.size + xt.size := by rw [ByteArray.size_append]
            have s3 : (t ++ ⟨#[46]⟩ ++ xt).size = t.size + 1 + xt.size := by rw [ByteArray.size_append, s1]
            go_wp2_with fail
            go_roundg k1
            case measure => omega
            case rel =>
              refine ⟨rfl, i + 1, by go_num, ?_, HI2⟩
              rw [HE.out, ← Ht.out]
              simp only [← nums_append', List.append_nil, HXT.out]
              all_goals first | rfl | (simp only [ByteArray.append_assoc]; rfl)
          | false =>
            rw [if_neg hi0, if_neg (by simp)] at HE
            clear hi0
            have u0 : (⟨#[46]⟩ : ByteArray).size = 1 := rfl
            have u1 : (⟨#[42]⟩ : ByteArray).size = 1 := rfl
            have s1 : (t ++ ⟨#[46]⟩).size = t.size + 1 := by rw [ByteArray.size_append]; rfl
            have s2 : (t ++ xt).size = t.size + xt.size := by rw [ByteArray.size_append]
            have s3 : (t ++ ⟨#[46]⟩ ++ xt).size = t.size + 1 + xt.size := by rw [ByteArray.size_append, s1]
            go_wp2_with fail
            go_roundg k1
            case measure => omega
            case rel =>
              refine ⟨rfl, i + 1, by go_num, ?_, HI2⟩
              rw [HE.out, ← Ht.out]
              simp only [← nums_append', List.append_nil, HXT.out]
              all_goals first | rfl | (simp only [ByteArray.append_assoc]; rfl)
    · have HI3 : i = ps.length := by have := HI.out; omega
      subst HI3
      rw [patP_end]
      clear HI
      go_wp2_with fail
      go_ret
      exact ⟨rfl, HBw⟩
end Go.Proofs.YtngokkebjadoiaaGreatDoor

