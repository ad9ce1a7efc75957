/- What the claim uses of the text B2. -/
import Derived.Test.YtpdpgppaoipnlaaDoorUB1
import Derived.Deep.RegionHeld3
set_option linter.unusedVariables false
set_option linter.unusedSimpArgs false
namespace Go.Proofs.YtpdpgppaoipnlaaDoor
open Go.RowKit Go.PlainAid
open Go.Proofs.YtpdpgppaoipnlaaDoorW.PrintWords hiding bt
open Go.Proofs.YtpdpgppaoipnlaaDoorW.PrintMore

/-- Texts of a list's things, by commas and spaces between. -/
def WO {α : Type} (I : α → List Int → Prop) : List α → List Int → Prop
  | [], r => r = []
  | x :: l, r => ∃ t q, r = t ++ q ∧ I x t ∧ ((l = [] ∧ q = []) ∨ (l ≠ [] ∧ ∃ p' r', q = 44 :: (p' ++ r') ∧ Sp p' ∧ WO I l r'))
theorem WO_first {α : Type} {I : α → List Int → Prop} {x : α} {t : List Int} (h : I x t) : WO I [x] t := ⟨t, [], by simp, h, .inl ⟨rfl, rfl⟩⟩
theorem WO_snoc {α : Type} {I : α → List Int → Prop} : ∀ {l : List α} {r : List Int} {x : α} {t p' : List Int}, l ≠ [] → WO I l r → I x t → Sp p' → WO I (l ++ [x]) (r ++ 44 :: (p' ++ t))
  | [y], r, x, t, p', _, ⟨t1, q, hr, h1, h2⟩, h, hp => by
    rcases h2 with ⟨_, rfl⟩ | ⟨h2, _⟩
    · exact ⟨t1, 44 :: (p' ++ t), by rw [hr]; simp, h1, .inr ⟨by simp, p', t, rfl, hp, WO_first h⟩⟩
    · exact absurd rfl h2
  | y :: z :: l, r, x, t, p', _, ⟨t1, q, hr, h1, h2⟩, h, hp => by
    rcases h2 with ⟨h2, _⟩ | ⟨_, p2, r2, hq, h3, h4⟩
    · exact absurd h2 (by simp)
    · exact ⟨t1, 44 :: (p2 ++ (r2 ++ 44 :: (p' ++ t))), by rw [hr, hq]; simp, h1, .inr ⟨by simp, p2, _, rfl, h3, WO_snoc (l := z :: l) (by simp) h4 h hp⟩⟩
def IL (x : JV) (t : List Int) : Prop := ∃ b p, t = b ++ p ∧ WV x b ∧ Sp p
def IM (e : ByteArray × JV) (t : List Int) : Prop := ∃ p1 p2 b p, t = quo (ints e.1) ++ (p1 ++ 58 :: (p2 ++ (b ++ p))) ∧ Sp p1 ∧ Sp p2 ∧ WV e.2 b ∧ Sp p
theorem WO_L : ∀ {l : List JV} {r : List Int}, WO IL l r → WL l (r ++ [93])
  | [], r, h => by rw [WL, show r = [] from h]; rfl
  | [x], r, ⟨t, q, hr, ⟨b, p, ht, hb, hp⟩, h2⟩ => by
    rcases h2 with ⟨_, rfl⟩ | ⟨h2, _⟩
    · rw [WL]; exact ⟨b, p, [93], by rw [hr, ht]; simp, hb, hp, .inl ⟨rfl, rfl⟩⟩
    · exact absurd rfl h2
  | x :: y :: l, r, ⟨t, q, hr, ⟨b, p, ht, hb, hp⟩, h2⟩ => by
    rcases h2 with ⟨h2, _⟩ | ⟨_, p', r', hq, h3, h4⟩
    · exact absurd h2 (by simp)
    · rw [WL]; exact ⟨b, p, 44 :: (p' ++ (r' ++ [93])), by rw [hr, ht, hq]; simp, hb, hp, .inr ⟨by simp, p', _, rfl, h3, WO_L h4⟩⟩
theorem WO_M : ∀ {l : List (ByteArray × JV)} {r : List Int}, WO IM l r → WM l (r ++ [125])
  | [], r, h => by rw [WM, show r = [] from h]; rfl
  | [(n, x)], r, ⟨t, q, hr, ⟨p1, p2, b, p, ht, h1, h2, hb, hp⟩, h3⟩ => by
    rcases h3 with ⟨_, rfl⟩ | ⟨h3, _⟩
    · rw [WM]; exact ⟨p1, p2, b, p, [125], by rw [hr, ht]; simp, h1, h2, hb, hp, .inl ⟨rfl, rfl⟩⟩
    · exact absurd rfl h3
  | (n, x) :: y :: l, r, ⟨t, q, hr, ⟨p1, p2, b, p, ht, h1, h2, hb, hp⟩, h3⟩ => by
    rcases h3 with ⟨h3, _⟩ | ⟨_, p', r', hq, h4, h5⟩
    · exact absurd h3 (by simp)
    · rw [WM]; exact ⟨p1, p2, b, p, 44 :: (p' ++ (r' ++ [125])), by rw [hr, ht, hq]; simp, h1, h2, hb, hp, .inr ⟨by simp, p', _, rfl, h4, WO_M h5⟩⟩
theorem take_snoc {α : Type} (l : List α) (k : Nat) (z : α) (h : k < l.length) : l.take (k + 1) = l.take k ++ [l.getD k z] := by
  rw [List.take_succ_eq_append_getElem h, List.getD_eq_getElem?_getD, List.getElem?_eq_getElem h]
  rfl
theorem cell_grow {w w' : World} {a : Nat} {p : Addr} {v : Value} (h : w.cell? p = some v) (hg : w.grownBy w' (some a)) (hne : p.block ≠ a) : w'.cell? p = some v := by
  have hl := cell_lt h
  simp only [World.cell?] at h ⊢
  rw [hg.block _ hl (by simpa using hne)]
  exact h

theorem okV_leaf {k : Int} {t : ByteArray} {lev : Int} (h : okV ⟨k, t, [], []⟩ lev = true) : okV ⟨k, t, [], []⟩ 1 = true := by
  obtain ⟨h1, _, _⟩ := okV_one h
  have hl := (oneN_open h1).1
  rw [okV, Bool.and_eq_true, Bool.and_eq_true, decide_eq_true_eq]
  refine ⟨?_, rfl, rfl⟩
  unfold oneN at h1 ⊢
  rw [if_neg (by omega)] at h1 ⊢
  exact h1
theorem Pd.drewN {a b k : Nat} {sp : Value} {w : World} (h : Pd a b k sp w) (n : Nat) : Pd a b k sp (w.drewN n) := ⟨h.p, h.t⟩
theorem Pd.below {a b k : Nat} {sp : Value} {w w' : World} (h : Pd a b k sp w) (hb : Below w.heap.size w w') : Pd a b k sp w' := ⟨(hb.block a h.lt.1).trans h.p, (hb.block b h.lt.2).trans h.t⟩

def PadC (a b : Nat) (sp : Value) (w0 : World) : Prop := ∀ (k : Nat) (w : World), k ≤ 1000000 → Below w0.heap.size w0 w → Pd a b k sp w →
  Calls Tryd.prog 45 #[.pointer (some ⟨b, 0, none⟩), .pointer (some ⟨a, 0, none⟩)] w fun e w' => ∃ p : List Int, e = .returned (.string (strOfNums p)) ∧ Hid (Sp p) ∧ p.length ≤ 2 ∧ Hid (Pd a b (k + 1) sp w') ∧ Hid (w.grownBy w' (some a))
def PaddedAll (E : Nat → Addr) (a b : Nat) (sp : Value) (w0 : World) (n : Nat) : Prop := ∀ (x : JV) (cs : List Value) (lev : Int) (k : Nat) (w : World), (jd n).K w0 x cs → Below w0.heap.size w0 w → Pd a b k sp w → okV x lev = true → totV x ≤ 2000 → k + 8 * totV x ≤ 1000000 →
  Calls Tryd.prog 46 #[.agg cs.toArray, .func (.func 45) #[] #[.pointer (some ⟨b, 0, none⟩), .pointer (some ⟨a, 0, none⟩)]] w fun e w' => ∃ (t : List Int) (k' : Nat), e = .returned (.string (strOfNums t)) ∧ Hid (WV x t) ∧ Hid (t.length + 16 ≤ 30 * totV x) ∧ Hid (k' + 5 ≤ k + 8 * totV x) ∧ Hid (Pd a b k' sp w') ∧ Hid (w.grownBy w' (some a))

set_option maxHeartbeats 8000000 in
set_option maxRecDepth 100000 in
theorem padded_step (E : Nat → Addr) (a b : Nat) (sp : Value) (w0 : World) (hs : Sents E w0) (ha : w0.heap.size ≤ a) (hpad : PadC a b sp w0) (n : Nat) (ih : PaddedAll E a b sp w0 n) : PaddedAll E a b sp w0 (n + 1) := by
  intro x cs lev k w hk hb hp ho ht hkk
  have HIH := Lib.hid ih
  have HS := Lib.hid hs
  have HPAD := Lib.hid hpad
  have HK := Lib.hid hk
  have HB := Lib.hid hb
  have HP := Lib.hid hp
  have HO := Lib.hid ho
  obtain ⟨A2, c2, A3, c3, rfl, l2, g2, l3, g3⟩ := jd_open hk
  obtain ⟨kd, t, l, m⟩ := x
  dsimp only at *
  obtain ⟨ho1, hol, hom⟩ := okV_one ho
  obtain ⟨_, k0, k6, htx, hl, hm, hnum, hgood, _, _⟩ := oneN_open ho1
  have HOL := Lib.hid hol
  have HOM := Lib.hid hom
  have G2 := Lib.hid g2
  have G3 := Lib.hid g3
  have s2 : l.length ≤ 9223372036854775807 := g2.2.1
  have s3 : m.length ≤ 9223372036854775807 := g3.2.1
  have HL := Lib.hid hl
  have HM := Lib.hid hm
  clear hk hb hp ho hs hpad ih l2 g2 l3 g3 ho1 hol hom htx hl hm hnum hgood
  change Calls _ _ #[.agg #[.int .i64 kd, .string t, .slice A2 l.length c2, .slice A3 m.length c3], _] _ _
  have HB0 : Hid (Below w.heap.size w (w.alloc (.cells #[.int .i64 kd, .string t, .slice A2 l.length c2, .slice A3 m.length c3] 26))) := (Below.refl _ _).alloc (Nat.le_refl _) _
  have HR1 : Hid (Row 26 w.heap.size #[.int .i64 kd, .string t, .slice A2 l.length c2, .slice A3 m.length c3] (w.alloc (.cells #[.int .i64 kd, .string t, .slice A2 l.length c2, .slice A3 m.length c3] 26))) := Row.new w _ _ rfl
  have HTT := Lib.hid ht
  have HKK := Lib.hid hkk
  clear ht hkk
  have haw : a < w.heap.size := HP.out.lt.1
  by_cases q5 : kd = 5
  · subst q5
    obtain rfl : m = [] := HM.out (by omega)
    clear HL HM HOM HO HK
    go_enter Tryd.func46, Tryd.ntmps46
    go_wp2_with fail
    obtain ⟨w1, hw1⟩ : ∃ w1, w.alloc (.cells #[.int .i64 5, .string t, .slice A2 l.length c2, .slice A3 ([] : List (ByteArray × JV)).length c3] 26) = w1 := ⟨_, rfl⟩
    rw [hw1] at HB0 HR1
    simp only [List.length_nil] at hw1
    rw [hw1]
    clear hw1
    have HP1 := Lib.hid (HP.out.below HB0.out)
    have HB1 := Lib.hid (below_then HB.out HB.out.size HB0.out)
    refine (HPAD.out k w1 (by have := HKK.out; omega) HB1.out HP1.out).mono ?_
    rintro e w2 ⟨p0, rfl, HP0, hp0, HP2, HG2⟩
    obtain ⟨t0, HT0⟩ : ∃ t0, Hid (strOfNums p0 = t0) := ⟨_, rfl⟩
    have ht0 : t0.size ≤ 2 := by rw [← HT0.out, strOfNums_size]; exact hp0
    rw [HT0.out]
    go_wp2_with fail
    have a0 := cell_grow ((HR1.out).cell 0 _ rfl) HG2.out (by show w.heap.size ≠ a; omega)
    have a1 := cell_grow ((HR1.out).cell 1 _ rfl) HG2.out (by show w.heap.size ≠ a; omega)
    have a2 := cell_grow ((HR1.out).cell 2 _ rfl) HG2.out (by show w.heap.size ≠ a; omega)
    have a3 := cell_grow ((HR1.out).cell 3 _ rfl) HG2.out (by show w.heap.size ≠ a; omega)
    clear a0 a1 a2 a3
    go_loopg [5, 6] l.length (fun g v5 v6 wi => ∃ (i : Nat) (r : List Int) (j : Nat) (u : ByteArray), v5 = .string u ∧ v6 = .int .i64 (i : Int) ∧ Hid (i + g = l.length) ∧ Hid (u = strOfNums (91 :: (p0 ++ r))) ∧ Hid (WO IL (l.take i) r) ∧ Hid (r.length ≤ 30 * totL (l.take i)) ∧ Hid (j ≤ k + 1 + 8 * totL (l.take i)) ∧ u.size ≤ 70000 ∧ Hid (Pd a b j sp wi) ∧ Hid (w1.grownBy wi (some a)))
    case atStart => exact ⟨0, [], k + 1, _, rfl, rfl, by show _ = _; omega, by show _ = _; rw [← HT0.out]; simp; rfl, by show WO _ _ _; rfl, Nat.zero_le _, by show _ ≤ _; omega, by rw [ByteArray.size_append]; show 1 + t0.size ≤ _; omega, HP2.out, HG2.out⟩
    case round =>
      obtain ⟨i, r, j, u, rfl, rfl, HI, HU, HW, HRL, HJ, hu, HPj, HG⟩ := hrel
      have d2 := cell_grow ((HR1.out).cell 2 _ rfl) HG.out (by show w.heap.size ≠ a; omega)
      have HBj := Lib.hid (below_grown' HB1.out HG.out ha)
      by_cases hlt : i < l.length
      · have k3 : decide (i < l.length) = true := by simpa using hlt
        obtain ⟨ad, X2, x2, X3, x3, hA, hKa, q0, q1, q2, q3⟩ := jv_at G2.out i hlt
        obtain rfl := hA
        have k0' : (0 : Int) ≤ (i : Int) := by omega
        have k1' : (i : Int) < (l.length : Int) := by omega
        obtain ⟨g1, rfl⟩ : ∃ g1, gk = g1 + 1 := ⟨gk - 1, by have := HI.out; omega⟩
        have hta := totL_at l i hlt
        have HTK := Lib.hid (totL_take l i hlt)
        have HTS := Lib.hid (take_snoc l i jz hlt)
        have HOA := Lib.hid (okL_at' l _ HOL.out i hlt)
        have hpre : totL (l.take (i + 1)) ≤ totL l := by
          have h2 : totL l = totL (l.take (i + 1)) + totL (l.drop (i + 1)) := by rw [← totL_app, List.take_append_drop]
          omega
        have hKa := Lib.hid hKa
        have HAD : Hid ((ad.add (i * 4)).block ≠ a) := by have h1 := cell_lt q0; show _ ≠ _; omega
        replace q0 := cell_under HBj.out q0
        replace q1 := cell_under HBj.out q1
        replace q2 := cell_under HBj.out q2
        replace q3 := cell_under HBj.out q3
        generalize l.getD i jz = xa at *
        have HXA : Hid (totV xa ≤ 2000 ∧ k + 2 + 8 * totL (l.take (i + 1)) ≤ 1000000 ∧ 30 * totL (l.take (i + 1)) ≤ 60000) := by
          have h1 := HTT.out
          have h2 := HKK.out
          rw [totV] at h1 h2
          simp only [totM] at h1 h2
          show _ ∧ _ ∧ _
          omega
        have HCC : Hid (∀ (W : World) (j' : Nat), Below w0.heap.size w0 W → Pd a b j' sp W → j' + 8 * totV xa ≤ 1000000 → Calls Tryd.prog 46 #[.agg #[.int .i64 xa.kind, .string xa.text, .slice X2 xa.list.length x2, .slice X3 xa.mem.length x3], .func (.func 45) #[] #[.pointer (some ⟨b, 0, none⟩), .pointer (some ⟨a, 0, none⟩)]] W fun e w' => ∃ (t : List Int) (k' : Nat), e = .returned (.string (strOfNums t)) ∧ Hid (WV xa t) ∧ Hid (t.length + 16 ≤ 30 * totV xa) ∧ Hid (k' + 5 ≤ j' + 8 * totV xa) ∧ Hid (Pd a b k' sp w') ∧ Hid (W.grownBy w' (some a))) := fun W j' hW hP' hj => HIH.out xa _ _ j' W hKa.out hW hP' HOA.out HXA.out.1 hj
        clear hta hpre
        by_cases hi0 : i = 0
        · have hi1 : decide (0 < i) = false := by simp; omega
          have hi2 : decide ((0 : Int) < (i : Int)) = false := by simp; omega
          have HI0 := Lib.hid hi0
          clear hi0
          go_wp2_with fail
          refine (HCC.out wr j HBj.out HPj.out (by have := HJ.out; have := HXA.out; have := HTK.out; omega)).mono ?_
          rintro e w5 ⟨tx, kx, rfl, HWX, HLX, HKX, HP5, HG5⟩
          have HG6 : Hid (w1.grownBy w5 (some a)) := HG.out.trans HG5.out
          have HB6 := Lib.hid (below_grown' HB1.out HG6.out ha)
          obtain ⟨tS, HTX⟩ : ∃ tS, Hid (strOfNums tx = tS) := ⟨_, rfl⟩
          have htS : tS.size ≤ 60000 := by rw [← HTX.out, strOfNums_size]; have := HLX.out; have := HXA.out; omega
          rw [HTX.out]
          clear HG5
          go_wp2_with fail
          refine (HPAD.out kx w5 (by have := HKX.out; have := HJ.out; have := HXA.out; have := HTK.out; omega) HB6.out HP5.out).mono ?_
          rintro e w6 ⟨pp, rfl, HPP, hpp, HP7, HG7⟩
          obtain ⟨pS, HPS⟩ : ∃ pS, Hid (strOfNums pp = pS) := ⟨_, rfl⟩
          have hpS : pS.size ≤ 2 := by rw [← HPS.out, strOfNums_size]; exact hpp
          rw [HPS.out]
          have HG8 : Hid (w1.grownBy w6 (some a)) := HG6.out.trans HG7.out
          clear HG7 HG6
          go_wp2_with fail
          go_roundg g1
          case measure => omega
          case rel =>
            have HPL := Lib.hid hpp
            have hz := HI0.out
            have hr : r = [] := by have := HW.out; rw [hz] at this; exact this
            refine ⟨i + 1, tx ++ pp, kx + 1, _, rfl, by go_num, by have := HI.out; show _ = _; omega, ?_, ?_, ?_, ?_, ?_, HP7.out, HG8.out⟩
            · show _ = _
              rw [HU.out, ← HTX.out, ← HPS.out, nums_append', nums_append', hr]
              simp
            · show WO _ _ _
              rw [HTS.out, hz]
              exact WO_first ⟨tx, pp, rfl, HWX.out, HPP.out⟩
            · show _ ≤ _
              rw [HTK.out, List.length_append]
              have := HLX.out
              omega
            · show _ ≤ _
              rw [HTK.out]
              have := HKX.out
              have := HJ.out
              omega
            · rw [HU.out, ← HTX.out, ← HPS.out, nums_append', nums_append', hr, strOfNums_size]
              simp only [List.length_append, List.length_cons, List.length_nil]
              have := HLX.out; have := HXA.out; omega
        · have hi1 : decide (0 < i) = true := by simp; omega
          have hi2 : decide ((0 : Int) < (i : Int)) = true := by simp; omega
          have HI0 := Lib.hid hi0
          go_wp2_with fail
          refine (HPAD.out j wr (by have := HJ.out; have := HXA.out; have := HTK.out; omega) HBj.out HPj.out).mono ?_
          rintro e w3 ⟨pc, rfl, HPC0, hpc0, HP3, HG3⟩
          have HPC : Hid (Sp pc ∧ pc.length ≤ 2) := ⟨HPC0.out, hpc0⟩
          obtain ⟨cS, HPCS⟩ : ∃ cS, Hid (strOfNums pc = cS) := ⟨_, rfl⟩
          have hcS : cS.size ≤ 2 := by rw [← HPCS.out, strOfNums_size]; exact hpc0
          rw [HPCS.out]
          have HGc : Hid (w1.grownBy w3 (some a)) := HG.out.trans HG3.out
          have HBc := Lib.hid (below_grown' HB1.out HGc.out ha)
          replace q0 := cell_grow q0 HG3.out HAD.out
          replace q1 := cell_grow q1 HG3.out HAD.out
          replace q2 := cell_grow q2 HG3.out HAD.out
          replace q3 := cell_grow q3 HG3.out HAD.out
          replace d2 := cell_grow d2 HG3.out (by show w.heap.size ≠ a; omega)
          clear HG3 HPC0 hpc0
          go_wp2_with fail
          refine (HCC.out w3 (j + 1) HBc.out HP3.out (by have := HJ.out; have := HXA.out; have := HTK.out; omega)).mono ?_
          rintro e w5 ⟨tx, kx, rfl, HWX, HLX, HKX, HP5, HG5⟩
          have HG6 : Hid (w1.grownBy w5 (some a)) := HGc.out.trans HG5.out
          have HB6 := Lib.hid (below_grown' HB1.out HG6.out ha)
          obtain ⟨tS, HTX⟩ : ∃ tS, Hid (strOfNums tx = tS) := ⟨_, rfl⟩
          have htS : tS.size ≤ 60000 := by rw [← HTX.out, strOfNums_size]; have := HLX.out; have := HXA.out; omega
          rw [HTX.out]
          clear HG5
          go_wp2_with fail
          refine (HPAD.out kx w5 (by have := HKX.out; have := HJ.out; have := HXA.out; have := HTK.out; omega) HB6.out HP5.out).mono ?_
          rintro e w6 ⟨pp, rfl, HPP, hpp, HP7, HG7⟩
          obtain ⟨pS, HPS⟩ : ∃ pS, Hid (strOfNums pp = pS) := ⟨_, rfl⟩
          have hpS : pS.size ≤ 2 := by rw [← HPS.out, strOfNums_size]; exact hpp
          rw [HPS.out]
          have HG8 : Hid (w1.grownBy w6 (some a)) := HG6.out.trans HG7.out
          clear HG7 HG6
          go_wp2_with fail
          go_roundg g1
          case measure => omega
          case rel =>
            have HPL := Lib.hid hpp
            have hne : l.take i ≠ [] := by
              intro h
              have := congrArg List.length h
              rw [List.length_take, List.length_nil] at this
              omega
            have hpc := HPC.out
            refine ⟨i + 1, r ++ 44 :: (pc ++ (tx ++ pp)), kx + 1, _, rfl, by go_num, by have := HI.out; show _ = _; omega, ?_, ?_, ?_, ?_, ?_, HP7.out, HG8.out⟩
            · show _ = _
              rw [HU.out, ← HTX.out, ← HPS.out, ← HPCS.out, show (⟨#[44]⟩ : ByteArray) = strOfNums [44] from rfl, nums_append', nums_append', nums_append', nums_append']
              simp
            · show WO _ _ _
              rw [HTS.out]
              exact WO_snoc hne HW.out ⟨tx, pp, rfl, HWX.out, HPP.out⟩ hpc.1
            · show _ ≤ _
              rw [HTK.out]
              simp only [List.length_append, List.length_cons]
              have := HLX.out
              have := HRL.out
              omega
            · show _ ≤ _
              rw [HTK.out]
              have := HKX.out
              have := HJ.out
              omega
            · rw [HU.out, ← HTX.out, ← HPS.out, ← HPCS.out, show (⟨#[44]⟩ : ByteArray) = strOfNums [44] from rfl, nums_append', nums_append', nums_append', nums_append', strOfNums_size]
              simp only [List.length_append, List.length_cons, List.length_nil]
              have := HLX.out; have := HXA.out; have := HRL.out; have := HTK.out; omega
      · have k3 : decide (i < l.length) = false := by simpa using hlt
        obtain rfl : i = l.length := by have := HI.out; omega
        have HWL : Hid (WV ⟨5, t, l, []⟩ (91 :: (p0 ++ (r ++ [93])))) := by
          show WV _ _
          have hw := HW.out
          rw [List.take_length] at hw
          rw [WV, if_pos rfl]
          exact ⟨p0, r ++ [93], rfl, HP0.out, WO_L hw⟩
        go_wp2_with fail
        go_ret
        refine ⟨91 :: (p0 ++ (r ++ [93])), j, ?_, HWL, ?_, ?_, HPj.out, (grown_below HB0.out _).trans HG.out⟩
        · rw [show strOfNums (91 :: (p0 ++ (r ++ [93]))) = u ++ ⟨#[93]⟩ by rw [HU.out, show (⟨#[93]⟩ : ByteArray) = strOfNums [93] from rfl, nums_append']; simp]
          rfl
        · have h1 := HRL.out
          rw [List.take_length] at h1
          show _ ≤ _
          rw [totV]
          simp only [List.length_append, List.length_cons, List.length_nil, totM]
          omega
        · have h1 := HJ.out
          rw [List.take_length] at h1
          show _ ≤ _
          rw [totV]
          simp only [totM]
          omega
  have e5 : (kd == 5) = false := by rw [beq_eq_false_iff_ne]; exact q5
  by_cases q6 : kd = 6
  · subst q6
    obtain rfl : l = [] := HL.out (by omega)
    clear HL HM HOL HO HK
    go_enter Tryd.func46, Tryd.ntmps46
    go_wp2_with fail
    obtain ⟨w1, hw1⟩ : ∃ w1, w.alloc (.cells #[.int .i64 6, .string t, .slice A2 ([] : List JV).length c2, .slice A3 m.length c3] 26) = w1 := ⟨_, rfl⟩
    rw [hw1] at HB0 HR1
    simp only [List.length_nil] at hw1
    rw [hw1]
    clear hw1
    have HP1 := Lib.hid (HP.out.below HB0.out)
    have HB1 := Lib.hid (below_then HB.out HB.out.size HB0.out)
    refine (HPAD.out k w1 (by have := HKK.out; omega) HB1.out HP1.out).mono ?_
    rintro e w2 ⟨p0, rfl, HP0, hp0, HP2, HG2⟩
    obtain ⟨t0, HT0⟩ : ∃ t0, Hid (strOfNums p0 = t0) := ⟨_, rfl⟩
    have ht0 : t0.size ≤ 2 := by rw [← HT0.out, strOfNums_size]; exact hp0
    rw [HT0.out]
    go_wp2_with fail
    have a0 := cell_grow ((HR1.out).cell 0 _ rfl) HG2.out (by show w.heap.size ≠ a; omega)
    have a1 := cell_grow ((HR1.out).cell 1 _ rfl) HG2.out (by show w.heap.size ≠ a; omega)
    have a2 := cell_grow ((HR1.out).cell 2 _ rfl) HG2.out (by show w.heap.size ≠ a; omega)
    have a3 := cell_grow ((HR1.out).cell 3 _ rfl) HG2.out (by show w.heap.size ≠ a; omega)
    clear a0 a1 a2 a3
    go_loopg [7, 8] m.length (fun g v7 v8 wi => ∃ (i : Nat) (r : List Int) (j : Nat) (u : ByteArray), v7 = .string u ∧ v8 = .int .i64 (i : Int) ∧ Hid (i + g = m.length) ∧ Hid (u = strOfNums (123 :: (p0 ++ r))) ∧ Hid (WO IM (m.take i) r) ∧ Hid (r.length ≤ 30 * totM (m.take i)) ∧ Hid (j ≤ k + 1 + 8 * totM (m.take i)) ∧ u.size ≤ 70000 ∧ Hid (Pd a b j sp wi) ∧ Hid (w1.grownBy wi (some a)))
    case atStart => exact ⟨0, [], k + 1, _, rfl, rfl, by show _ = _; omega, by show _ = _; rw [← HT0.out]; simp; rfl, by show WO _ _ _; rfl, Nat.zero_le _, by show _ ≤ _; omega, by rw [ByteArray.size_append]; show 1 + t0.size ≤ _; omega, HP2.out, HG2.out⟩
    case round =>
      obtain ⟨i, r, j, u, rfl, rfl, HI, HU, HW, HRL, HJ, hu, HPj, HG⟩ := hrel
      have d2 := cell_grow ((HR1.out).cell 3 _ rfl) HG.out (by show w.heap.size ≠ a; omega)
      have HBj := Lib.hid (below_grown' HB1.out HG.out ha)
      by_cases hlt : i < m.length
      · have k3 : decide (i < m.length) = true := by simpa using hlt
        obtain ⟨ad, X2, x2, X3, x3, hA, hKa, qn, q0, q1, q2, q3⟩ := jm_at G3.out i hlt
        obtain rfl := hA
        have k0' : (0 : Int) ≤ (i : Int) := by omega
        have k1' : (i : Int) < (m.length : Int) := by omega
        obtain ⟨g1, rfl⟩ : ∃ g1, gk = g1 + 1 := ⟨gk - 1, by have := HI.out; omega⟩
        have hta := totM_at m i hlt
        have hnm := totM_name m _ (getD_mem' m i (⟨#[]⟩, jz) hlt)
        have HTK := Lib.hid (totM_take m i hlt)
        have HTS := Lib.hid (take_snoc m i (⟨#[]⟩, jz) hlt)
        have HOA := Lib.hid (okM_at' m _ HOM.out i hlt)
        have hpre : totM (m.take (i + 1)) ≤ totM m := by
          have h2 : totM m = totM (m.take (i + 1)) + totM (m.drop (i + 1)) := by rw [← totM_app, List.take_append_drop]
          omega
        have hKa := Lib.hid hKa
        have HAD : Hid ((ad.add (i * 5)).block ≠ a) := by have h1 : (ad.add (i * 5)).block < w0.heap.size := cell_lt qn; show _ ≠ _; omega
        replace qn := cell_under HBj.out qn
        replace q0 := cell_under HBj.out q0
        replace q1 := cell_under HBj.out q1
        replace q2 := cell_under HBj.out q2
        replace q3 := cell_under HBj.out q3
        generalize m.getD i (⟨#[]⟩, jz) = ea at *
        obtain ⟨na, xa⟩ := ea
        dsimp only at qn q0 q1 q2 q3 hKa hta HTK HOA hnm
        have HXA : Hid (totV xa ≤ 2000 ∧ k + 8 + 8 * totM (m.take (i + 1)) ≤ 1000000 ∧ 30 * totM (m.take (i + 1)) ≤ 60000 ∧ na.size ≤ 2000) := by
          have h1 := HTT.out
          have h2 := HKK.out
          rw [totV] at h1 h2
          simp only [totL] at h1 h2
          show _ ∧ _ ∧ _ ∧ _
          omega
        have HCC : Hid (∀ (W : World) (j' : Nat), Below w0.heap.size w0 W → Pd a b j' sp W → j' + 8 * totV xa ≤ 1000000 → Calls Tryd.prog 46 #[.agg #[.int .i64 xa.kind, .string xa.text, .slice X2 xa.list.length x2, .slice X3 xa.mem.length x3], .func (.func 45) #[] #[.pointer (some ⟨b, 0, none⟩), .pointer (some ⟨a, 0, none⟩)]] W fun e w' => ∃ (t : List Int) (k' : Nat), e = .returned (.string (strOfNums t)) ∧ Hid (WV xa t) ∧ Hid (t.length + 16 ≤ 30 * totV xa) ∧ Hid (k' + 5 ≤ j' + 8 * totV xa) ∧ Hid (Pd a b k' sp w') ∧ Hid (W.grownBy w' (some a))) := fun W j' hW hP' hj => HIH.out xa _ _ j' W hKa.out hW hP' HOA.out HXA.out.1 hj
        have HQ : Hid (∀ W : World, Calls Tryd.prog 35 #[.string na] W fun e w' => e = .returned (.string (strOfNums (quo (ints na)))) ∧ Hid (Below W.heap.size W w')) := fun W => Quote_any na W (by have := HXA.out; omega)
        clear hta hpre hnm
        by_cases hi0 : i = 0
        · have hi1 : decide (0 < i) = false := by simp; omega
          have hi2 : decide ((0 : Int) < (i : Int)) = false := by simp; omega
          have HI0 := Lib.hid hi0
          clear hi0
          obtain ⟨qS, HQS⟩ : ∃ qS, Hid (strOfNums (quo (ints na)) = qS) := ⟨_, rfl⟩
          have hqS : qS.size ≤ 20000 := by rw [← HQS.out, strOfNums_size]; have := quo_le na; have := HXA.out; omega
          have HST0 := Lib.hid trivial
          go_wp2_with fail
          go_region_held3 (fun W => W.cell? ⟨w.heap.size, 3, none⟩ = some (.slice (some ad) m.length c3) ∧ W.cell? (ad.add (i * 5)) = some (.string na) ∧ W.cell? ⟨(ad.add (i * 5)).block, (ad.add (i * 5)).off + 1, none⟩ = some (.int .i64 xa.kind) ∧ W.cell? ⟨(ad.add (i * 5)).block, (ad.add (i * 5)).off + 2, none⟩ = some (.string xa.text) ∧ W.cell? ⟨(ad.add (i * 5)).block, (ad.add (i * 5)).off + 3, none⟩ = some (.slice X2 xa.list.length x2) ∧ W.cell? ⟨(ad.add (i * 5)).block, (ad.add (i * 5)).off + 4, none⟩ = some (.slice X3 xa.mem.length x3))
            (first | exact ⟨d2, qn, q0, q1, q2, q3⟩ | exact ⟨cell_grow (w := wr) d2 hg.out (by show w.heap.size ≠ a; omega), cell_grow (w := wr) qn hg.out HAD.out, cell_grow (w := wr) q0 hg.out HAD.out, cell_grow (w := wr) q1 hg.out HAD.out, cell_grow (w := wr) q2 hg.out HAD.out, cell_grow (w := wr) q3 hg.out HAD.out⟩)
            (first
              | (go_simp; go_at_call 35; have st0 := HST0.out; refine (HQ.out _).mono ?_; rintro e w9 ⟨rfl, hq⟩; rw [HQS.out]; have hg := Lib.hid ((grown_drewN wr 1 (some a)).trans (grown_below hq.out (some a))); have hp := Lib.hid ((Pd.drewN HPj.out 1).below hq.out); clear hq HST0 st0; have ST1 := Lib.hid trivial)
              | (go_simp; go_at_call 45; have st1 := ST1.out; refine (HPAD.out _ _ (by have := HJ.out; have := HXA.out; have := HTK.out; omega) (below_grown' HBj.out hg.out ha) hp.out).mono ?_; rintro e w9 ⟨y1, rfl, HY1, hy1, hp1, hg1⟩; obtain ⟨yS1, HYS1⟩ : ∃ yS1, Hid (strOfNums y1 = yS1) := ⟨_, rfl⟩; have hys1 : yS1.size ≤ 2 := by rw [← HYS1.out, strOfNums_size]; exact hy1
                 rw [HYS1.out]; have hz1 : (9223372036854775807 < qS.size + yS1.size) = False := eq_false (by omega); have hz2 : (9223372036854775807 < qS.size + yS1.size + 1) = False := eq_false (by omega); have hgn := Lib.hid (hg.out.trans hg1.out); clear hg hp ST1 st1 hg1; have hg := hgn; have hp := hp1; clear hgn hp1; have ST2 := Lib.hid trivial)
              | (go_simp; go_at_call 45; have st2 := ST2.out; refine (HPAD.out _ _ (by have := HJ.out; have := HXA.out; have := HTK.out; omega) (below_grown' HBj.out hg.out ha) hp.out).mono ?_; rintro e w9 ⟨y2, rfl, HY2, hy2, hp1, hg1⟩; obtain ⟨yS2, HYS2⟩ : ∃ yS2, Hid (strOfNums y2 = yS2) := ⟨_, rfl⟩; have hys2 : yS2.size ≤ 2 := by rw [← HYS2.out, strOfNums_size]; exact hy2
                 rw [HYS2.out]; have hz3 : (9223372036854775807 < qS.size + yS1.size + 1 + yS2.size) = False := eq_false (by omega); have hgn := Lib.hid (hg.out.trans hg1.out); clear hg hp ST2 st2 hg1; have hg := hgn; have hp := hp1; clear hgn hp1; have ST3 := Lib.hid trivial)
              | (go_simp; go_at_call 46; have st3 := ST3.out; refine (HCC.out _ _ (below_grown' HBj.out hg.out ha) hp.out (by have := HJ.out; have := HXA.out; have := HTK.out; omega)).mono ?_; rintro e w9 ⟨tx, kx, rfl, HWX, HLX, HKX, hp1, hg1⟩; obtain ⟨tS, HTX⟩ : ∃ tS, Hid (strOfNums tx = tS) := ⟨_, rfl⟩; have htS : tS.size ≤ 60000 := by rw [← HTX.out, strOfNums_size]; have := HLX.out; have := HXA.out; omega
                 rw [HTX.out]; have hz4 : (9223372036854775807 < qS.size + yS1.size + 1 + yS2.size + tS.size) = False := eq_false (by omega); have hgn := Lib.hid (hg.out.trans hg1.out); clear hg hp ST3 st3 hg1; have hg := hgn; have hp := hp1; clear hgn hp1; have ST4 := Lib.hid trivial)
              | (go_simp; go_at_call 45; have st4 := ST4.out; refine (HPAD.out _ _ (by have := HJ.out; have := HXA.out; have := HTK.out; have := HKX.out; omega) (below_grown' HBj.out hg.out ha) hp.out).mono ?_; rintro e w9 ⟨y3, rfl, HY3, hy3, hp1, hg1⟩; obtain ⟨yS3, HYS3⟩ : ∃ yS3, Hid (strOfNums y3 = yS3) := ⟨_, rfl⟩; have hys3 : yS3.size ≤ 2 := by rw [← HYS3.out, strOfNums_size]; exact hy3
                 rw [HYS3.out]; have hz5 : (9223372036854775807 < qS.size + yS1.size + 1 + yS2.size + tS.size + yS3.size) = False := eq_false (by omega); have hz6 : (9223372036854775807 < u.size + (qS.size + yS1.size + 1 + yS2.size + tS.size + yS3.size)) = False := eq_false (by omega); have hgn := Lib.hid (hg.out.trans hg1.out); clear hg hp ST4 st4 hg1; have hg := hgn; have hp := hp1; clear hgn hp1; have ST5 := Lib.hid trivial))
          go_wp2_with fail
          go_roundg g1
          case measure => omega
          case rel =>
            have hz := HI0.out
            have hr : r = [] := by have := HW.out; rw [hz] at this; exact this
            have HQL := Lib.hid (quo_le na)
            have HY := Lib.hid (And.intro hy1 (And.intro hy2 hy3))
            have HE : Hid (u ++ (qS ++ yS1 ++ ⟨#[58]⟩ ++ yS2 ++ tS ++ yS3) = strOfNums (123 :: (p0 ++ (quo (ints na) ++ (y1 ++ 58 :: (y2 ++ (tx ++ y3))))))) := by
              show _ = _
              rw [HU.out, ← HQS.out, ← HYS1.out, ← HYS2.out, ← HTX.out, ← HYS3.out, hr, show (⟨#[58]⟩ : ByteArray) = strOfNums [58] from rfl]
              simp only [nums_append']
              simp
            have HIL : Hid ((quo (ints na) ++ (y1 ++ 58 :: (y2 ++ (tx ++ y3)))).length ≤ 30 * (na.size + totV xa)) := by
              show _ ≤ _
              simp only [List.length_append, List.length_cons]
              have := HLX.out; have := HQL.out; have h3 := HY.out
              omega
            refine ⟨i + 1, quo (ints na) ++ (y1 ++ 58 :: (y2 ++ (tx ++ y3))), kx + 1, _, rfl, by go_num, by have := HI.out; show _ = _; omega, HE.out, ?_, ?_, ?_, ?_, hp.out, HG.out.trans hg.out⟩
            · show WO _ _ _
              rw [HTS.out, hz]
              exact WO_first ⟨y1, y2, tx, y3, rfl, HY1.out, HY2.out, HWX.out, HY3.out⟩
            · show _ ≤ _
              rw [HTK.out]
              have := HIL.out
              omega
            · show _ ≤ _
              rw [HTK.out]
              have := HKX.out
              have := HJ.out
              omega
            · rw [HE.out, strOfNums_size, List.length_cons, List.length_append]
              have := HIL.out; have := HXA.out; have := HTK.out; omega
        · have hi1 : decide (0 < i) = true := by simp; omega
          have hi2 : decide ((0 : Int) < (i : Int)) = true := by simp; omega
          have HI0 := Lib.hid hi0
          clear hi0
          go_wp2_with fail
          refine (HPAD.out j wr (by have := HJ.out; have := HXA.out; have := HTK.out; omega) HBj.out HPj.out).mono ?_
          rintro e w3 ⟨pc, rfl, HPC0, hpc0, HP3, HG3⟩
          have HPC : Hid (Sp pc ∧ pc.length ≤ 2) := ⟨HPC0.out, hpc0⟩
          obtain ⟨cS, HPCS⟩ : ∃ cS, Hid (strOfNums pc = cS) := ⟨_, rfl⟩
          have hcS : cS.size ≤ 2 := by rw [← HPCS.out, strOfNums_size]; exact hpc0
          rw [HPCS.out]
          have HGc : Hid (w1.grownBy w3 (some a)) := HG.out.trans HG3.out
          have HBc := Lib.hid (below_grown' HB1.out HGc.out ha)
          replace qn := cell_grow qn HG3.out HAD.out
          replace q0 := cell_grow q0 HG3.out HAD.out
          replace q1 := cell_grow q1 HG3.out HAD.out
          replace q2 := cell_grow q2 HG3.out HAD.out
          replace q3 := cell_grow q3 HG3.out HAD.out
          replace d2 := cell_grow d2 HG3.out (by show w.heap.size ≠ a; omega)
          clear HG3 HPC0 hpc0
          go_wp2_with fail
          obtain ⟨u2, HU2⟩ : ∃ u2, Hid (u ++ (⟨#[44]⟩ ++ cS) = u2) := ⟨_, rfl⟩
          have hu2 : u2.size ≤ 70010 := by rw [← HU2.out, ByteArray.size_append, ByteArray.size_append]; show u.size + (1 + cS.size) ≤ _; omega
          rw [HU2.out]
          obtain ⟨qS, HQS⟩ : ∃ qS, Hid (strOfNums (quo (ints na)) = qS) := ⟨_, rfl⟩
          have hqS : qS.size ≤ 20000 := by rw [← HQS.out, strOfNums_size]; have := quo_le na; have := HXA.out; omega
          have HST0 := Lib.hid trivial
          go_region_held3 (fun W => W.cell? ⟨w.heap.size, 3, none⟩ = some (.slice (some ad) m.length c3) ∧ W.cell? (ad.add (i * 5)) = some (.string na) ∧ W.cell? ⟨(ad.add (i * 5)).block, (ad.add (i * 5)).off + 1, none⟩ = some (.int .i64 xa.kind) ∧ W.cell? ⟨(ad.add (i * 5)).block, (ad.add (i * 5)).off + 2, none⟩ = some (.string xa.text) ∧ W.cell? ⟨(ad.add (i * 5)).block, (ad.add (i * 5)).off + 3, none⟩ = some (.slice X2 xa.list.length x2) ∧ W.cell? ⟨(ad.add (i * 5)).block, (ad.add (i * 5)).off + 4, none⟩ = some (.slice X3 xa.mem.length x3))
            (first | exact ⟨d2, qn, q0, q1, q2, q3⟩ | exact ⟨cell_grow (w := w3) d2 hg.out (by show w.heap.size ≠ a; omega), cell_grow (w := w3) qn hg.out HAD.out, cell_grow (w := w3) q0 hg.out HAD.out, cell_grow (w := w3) q1 hg.out HAD.out, cell_grow (w := w3) q2 hg.out HAD.out, cell_grow (w := w3) q3 hg.out HAD.out⟩)
            (first
              | (go_simp; go_at_call 35; have st0 := HST0.out; refine (HQ.out _).mono ?_; rintro e w9 ⟨rfl, hq⟩; rw [HQS.out]; have hg := Lib.hid ((grown_drewN w3 1 (some a)).trans (grown_below hq.out (some a))); have hp := Lib.hid ((Pd.drewN HP3.out 1).below hq.out); clear hq HST0 st0; have ST1 := Lib.hid trivial)
              | (go_simp; go_at_call 45; have st1 := ST1.out; refine (HPAD.out _ _ (by have := HJ.out; have := HXA.out; have := HTK.out; omega) (below_grown' HBc.out hg.out ha) hp.out).mono ?_; rintro e w9 ⟨y1, rfl, HY1, hy1, hp1, hg1⟩; obtain ⟨yS1, HYS1⟩ : ∃ yS1, Hid (strOfNums y1 = yS1) := ⟨_, rfl⟩; have hys1 : yS1.size ≤ 2 := by rw [← HYS1.out, strOfNums_size]; exact hy1
                 rw [HYS1.out]; have hz1 : (9223372036854775807 < qS.size + yS1.size) = False := eq_false (by omega); have hz2 : (9223372036854775807 < qS.size + yS1.size + 1) = False := eq_false (by omega); have hgn := Lib.hid (hg.out.trans hg1.out); clear hg hp ST1 st1 hg1; have hg := hgn; have hp := hp1; clear hgn hp1; have ST2 := Lib.hid trivial)
              | (go_simp; go_at_call 45; have st2 := ST2.out; refine (HPAD.out _ _ (by have := HJ.out; have := HXA.out; have := HTK.out; omega) (below_grown' HBc.out hg.out ha) hp.out).mono ?_; rintro e w9 ⟨y2, rfl, HY2, hy2, hp1, hg1⟩; obtain ⟨yS2, HYS2⟩ : ∃ yS2, Hid (strOfNums y2 = yS2) := ⟨_, rfl⟩; have hys2 : yS2.size ≤ 2 := by rw [← HYS2.out, strOfNums_size]; exact hy2
                 rw [HYS2.out]; have hz3 : (9223372036854775807 < qS.size + yS1.size + 1 + yS2.size) = False := eq_false (by omega); have hgn := Lib.hid (hg.out.trans hg1.out); clear hg hp ST2 st2 hg1; have hg := hgn; have hp := hp1; clear hgn hp1; have ST3 := Lib.hid trivial)
              | (go_simp; go_at_call 46; have st3 := ST3.out; refine (HCC.out _ _ (below_grown' HBc.out hg.out ha) hp.out (by have := HJ.out; have := HXA.out; have := HTK.out; omega)).mono ?_; rintro e w9 ⟨tx, kx, rfl, HWX, HLX, HKX, hp1, hg1⟩; obtain ⟨tS, HTX⟩ : ∃ tS, Hid (strOfNums tx = tS) := ⟨_, rfl⟩; have htS : tS.size ≤ 60000 := by rw [← HTX.out, strOfNums_size]; have := HLX.out; have := HXA.out; omega
                 rw [HTX.out]; have hz4 : (9223372036854775807 < qS.size + yS1.size + 1 + yS2.size + tS.size) = False := eq_false (by omega); have hgn := Lib.hid (hg.out.trans hg1.out); clear hg hp ST3 st3 hg1; have hg := hgn; have hp := hp1; clear hgn hp1; have ST4 := Lib.hid trivial)
              | (go_simp; go_at_call 45; have st4 := ST4.out; refine (HPAD.out _ _ (by have := HJ.out; have := HXA.out; have := HTK.out; have := HKX.out; omega) (below_grown' HBc.out hg.out ha) hp.out).mono ?_; rintro e w9 ⟨y3, rfl, HY3, hy3, hp1, hg1⟩; obtain ⟨yS3, HYS3⟩ : ∃ yS3, Hid (strOfNums y3 = yS3) := ⟨_, rfl⟩; have hys3 : yS3.size ≤ 2 := by rw [← HYS3.out, strOfNums_size]; exact hy3
                 rw [HYS3.out]; have hz5 : (9223372036854775807 < qS.size + yS1.size + 1 + yS2.size + tS.size + yS3.size) = False := eq_false (by omega); have hz6 : (9223372036854775807 < u2.size + (qS.size + yS1.size + 1 + yS2.size + tS.size + yS3.size)) = False := eq_false (by omega); have hgn := Lib.hid (hg.out.trans hg1.out); clear hg hp ST4 st4 hg1; have hg := hgn; have hp := hp1; clear hgn hp1; have ST5 := Lib.hid trivial))
          go_wp2_with fail
          go_roundg g1
          case measure => omega
          case rel =>
            have hne : m.take i ≠ [] := by
              intro h
              have := congrArg List.length h
              rw [List.length_take, List.length_nil] at this
              have := HI0.out
              omega
            have hpc := HPC.out
            have HQL := Lib.hid (quo_le na)
            have HY := Lib.hid (And.intro hy1 (And.intro hy2 hy3))
            have HE : Hid (u2 ++ (qS ++ yS1 ++ ⟨#[58]⟩ ++ yS2 ++ tS ++ yS3) = strOfNums (123 :: (p0 ++ (r ++ 44 :: (pc ++ (quo (ints na) ++ (y1 ++ 58 :: (y2 ++ (tx ++ y3))))))))) := by
              show _ = _
              rw [← HU2.out, HU.out, ← HPCS.out, ← HQS.out, ← HYS1.out, ← HYS2.out, ← HTX.out, ← HYS3.out, show (⟨#[58]⟩ : ByteArray) = strOfNums [58] from rfl, show (⟨#[44]⟩ : ByteArray) = strOfNums [44] from rfl]
              simp only [nums_append']
              simp
            have HIL : Hid ((r ++ 44 :: (pc ++ (quo (ints na) ++ (y1 ++ 58 :: (y2 ++ (tx ++ y3)))))).length ≤ 30 * totM (m.take i) + 30 * (na.size + totV xa)) := by
              show _ ≤ _
              simp only [List.length_append, List.length_cons]
              have := HLX.out; have := HQL.out; have h3 := HY.out; have := HRL.out
              omega
            refine ⟨i + 1, r ++ 44 :: (pc ++ (quo (ints na) ++ (y1 ++ 58 :: (y2 ++ (tx ++ y3))))), kx + 1, _, rfl, by go_num, by have := HI.out; show _ = _; omega, HE.out, ?_, ?_, ?_, ?_, hp.out, HGc.out.trans hg.out⟩
            · show WO _ _ _
              rw [HTS.out]
              exact WO_snoc hne HW.out ⟨y1, y2, tx, y3, rfl, HY1.out, HY2.out, HWX.out, HY3.out⟩ hpc.1
            · show _ ≤ _
              rw [HTK.out]
              have := HIL.out
              omega
            · show _ ≤ _
              rw [HTK.out]
              have := HKX.out
              have := HJ.out
              omega
            · rw [HE.out, strOfNums_size, List.length_cons, List.length_append]
              have := HIL.out; have := HXA.out; have := HTK.out; omega
      · have k3 : decide (i < m.length) = false := by simpa using hlt
        obtain rfl : i = m.length := by have := HI.out; omega
        have HWL : Hid (WV ⟨6, t, [], m⟩ (123 :: (p0 ++ (r ++ [125])))) := by
          show WV _ _
          have hw := HW.out
          rw [List.take_length] at hw
          rw [WV, if_neg (by omega), if_pos rfl]
          exact ⟨p0, r ++ [125], rfl, HP0.out, WO_M hw⟩
        go_wp2_with fail
        go_ret
        refine ⟨123 :: (p0 ++ (r ++ [125])), j, ?_, HWL, ?_, ?_, HPj.out, (grown_below HB0.out _).trans HG.out⟩
        · rw [show strOfNums (123 :: (p0 ++ (r ++ [125]))) = u ++ ⟨#[125]⟩ by rw [HU.out, show (⟨#[125]⟩ : ByteArray) = strOfNums [125] from rfl, nums_append']; simp]
          rfl
        · have h1 := HRL.out
          rw [List.take_length] at h1
          show _ ≤ _
          rw [totV]
          simp only [List.length_append, List.length_cons, List.length_nil, totL]
          omega
        · have h1 := HJ.out
          rw [List.take_length] at h1
          show _ ≤ _
          rw [totV]
          simp only [totL]
          omega
  have e6 : (kd == 6) = false := by rw [beq_eq_false_iff_ne]; exact q6
  obtain rfl : l = [] := HL.out q5
  obtain rfl : m = [] := HM.out q6
  have HTX : Hid (txtV ⟨kd, t, [], []⟩ = putV ⟨kd, t, [], []⟩) := by show _ = _; unfold txtV; rw [if_pos ((chk_ok _).2 (okV_leaf HO.out))]
  have HWV : Hid (WV ⟨kd, t, [], []⟩ (putV ⟨kd, t, [], []⟩)) := wv_put _
  have HLN := Lib.hid (putV_len ⟨kd, t, [], []⟩)
  have HCT := Lib.hid (Text_any (E := E) (n + 1) ⟨kd, t, [], []⟩ _ (w.alloc (.cells #[.int .i64 kd, .string t, .slice A2 0 c2, .slice A3 0 c3] 26)) (HS.out.below (below_then HB.out HB.out.size HB0.out)) ((jd (n + 1)).K_below (below_then HB.out HB.out.size HB0.out) HK.out) (by have := HTT.out; omega) (by have := HLN.out; have := HTT.out; omega))
  have HG0 : Hid (w.grownBy (w.alloc (.cells #[.int .i64 kd, .string t, .slice A2 0 c2, .slice A3 0 c3] 26)) (some a)) := grown_below HB0.out _
  have HP0 : Hid (Pd a b k sp (w.alloc (.cells #[.int .i64 kd, .string t, .slice A2 0 c2, .slice A3 0 c3] 26))) := HP.out.alloc _
  clear HL HM HOL HOM G2 G3 HO HK HR1 HB0
  go_enter Tryd.func46, Tryd.ntmps46
  go_wp2_with (go_at_call 26; refine HCT.out.mono ?_; rintro e w2 ⟨rfl, h2⟩)
  go_ret
  exact ⟨putV ⟨kd, t, [], []⟩, k, by rw [HTX.out]; rfl, HWV, by have := HLN.out; have h1 : 1 ≤ totV ⟨kd, t, [], []⟩ := (by rw [totV]; omega); show _ ≤ _; omega, by have h1 : 1 ≤ totV ⟨kd, t, [], []⟩ := (by rw [totV]; omega); show _ ≤ _; omega, HP0.out.below h2.out, HG0.out.trans (grown_below h2.out _)⟩
theorem padded_all (E : Nat → Addr) (a b : Nat) (sp : Value) (w0 : World) (hs : Sents E w0) (ha : w0.heap.size ≤ a) (hpad : PadC a b sp w0) : ∀ n, PaddedAll E a b sp w0 n
  | 0 => fun _ _ _ _ _ hk _ _ _ _ _ => (jd_zero hk).elim
  | n + 1 => padded_step E a b sp w0 hs ha hpad n (padded_all E a b sp w0 hs ha hpad n)
end Go.Proofs.YtpdpgppaoipnlaaDoor

