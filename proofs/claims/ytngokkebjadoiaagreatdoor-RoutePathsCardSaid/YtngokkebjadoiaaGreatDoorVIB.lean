/- What the claim uses of the text IB. -/
import Derived.Test.YtngokkebjadoiaaGreatDoorVIA
set_option linter.unusedVariables false
set_option linter.unusedSimpArgs false
namespace Go.Proofs.YtngokkebjadoiaaGreatDoor
open Go.RowKit Go.PlainAid
open Go.Proofs.YtngokkebjadoiaaGreatDoorW.PrintWords hiding bt
open Go.Proofs.YtngokkebjadoiaaGreatDoorW.PrintMore

set_option maxHeartbeats 16000000 in
set_option maxRecDepth 100000 in
theorem rText6_any (p : PV) (hp : ∀ i, i < 16 → p.addr i < 256) (h6 : p.six = true) (hb : 0 ≤ p.bits ∧ p.bits ≤ widthV p) (w : World) :
    Calls Tryz.prog 19 #[.agg (preA p)] w fun e w' => e = .returned (.string (strOfNums (ipT p))) ∧ Hid (Below w.heap.size w w') := by
  have H : Hid (PreAt w.heap.size p (w.alloc (.cells (preA p) 24))) := Row.new w _ _ rfl
  have HBw : Hid (Below w.heap.size w (w.alloc (.cells (preA p) 24))) := (Below.refl _ _).alloc (Nat.le_refl _) _
  have HP := Lib.hid hp
  have HBT := Lib.hid hb
  have HLn := Lib.hid (addrT_len p hp)
  clear hp hb
  go_enter Tryz.func19, Tryz.ntmps19
  go_upto_region 1 with (fail)
  generalize w.alloc (.cells (preA p) 24) = w0 at *
  have c0 := H.out.six
  rw [h6] at c0
  have HAT : Hid (preS (grps p) (gapS (grps p) 8).1 (gapS (grps p) 8).2 8 = addrT p) := by
    show _ = _
    have := preS_end (grps p)
    rw [grps_length] at this
    rw [this]
    unfold addrT
    rw [if_pos h6]
  have HGL := Lib.hid (grps_lt p HP.out)
  have hw0 : w.heap.size < w0.heap.size := H.out.lt
  have HA0 : Hid (A8 w0.heap.size (fun _ => 0) (w0.alloc (.cells z8 80))) := by
    show Row _ _ _ _
    rw [← zero_a8]
    exact Row.new _ _ _ rfl
  have H0 : Hid (PreAt w.heap.size p (w0.alloc (.cells z8 80))) := H.out.old _
  have HB0 : Hid (Below w.heap.size w (w0.alloc (.cells z8 80))) := HBw.out.alloc HBw.out.size _
  clear h6
  go_wp2_with fail
  change Code.wp _ _ _ _ (w0.alloc (.cells z8 80))
  clear c0 H HBw
  generalize w0.alloc (.cells z8 80) = w1 at *
  generalize w0.heap.size = b8 at *
  go_loopg [6] 8 (fun k v6 w' => ∃ i : Nat, v6 = .int .i64 i ∧ Hid (i + k = 8) ∧ Hid (A8 b8 (fun j => if j < i then grp p j else 0) w') ∧ Hid (PreAt w.heap.size p w') ∧ Hid (Below w.heap.size w w'))
  case atStart => exact ⟨0, rfl, by show _ = _; omega, by show A8 _ _ _; simpa using HA0.out, H0, HB0⟩
  case round =>
    obtain ⟨i, rfl, HI, HA, HPr, HB⟩ := hrel
    clear HA0 H0 HB0
    by_cases hlt : i < 8
    · cases gk with
      | zero => have := HI.out; omega
      | succ k1 =>
        have HI2 : Hid (i + 1 + k1 = 8) := by have := HI.out; show _ = _; omega
        have c1 := HPr.out.byte (2 * i) (by omega)
        have c2 := HPr.out.byte (2 * i + 1) (by omega)
        have hd := HA.out.cell i hlt
        have hfz := HA.out.frozen i
        have hx := HP.out (2 * i) (by omega)
        have hy := HP.out (2 * i + 1) (by omega)
        have HSt := fill_step (grp p) i
        have hg0 : grp p i = 256 * p.addr (2 * i) + p.addr (2 * i + 1) := rfl
        obtain ⟨x, hxx⟩ : ∃ x, p.addr (2 * i) = x := ⟨_, rfl⟩
        obtain ⟨y, hyy⟩ : ∃ y, p.addr (2 * i + 1) = y := ⟨_, rfl⟩
        rw [hxx] at c1 hx hg0
        rw [hyy] at c2 hy hg0
        obtain ⟨j, hj⟩ : ∃ j, 2 * i = j := ⟨_, rfl⟩
        obtain ⟨g, hg⟩ : ∃ g, grp p i = g := ⟨_, rfl⟩
        rw [hg] at hg0 HSt
        have HS2 := Lib.hid HSt
        have w1' : IntKind.i64.wrap (2 * (i : Int)) = (j : Int) := by rw [IntKind.wrap_i64]; omega
        have w2' : IntKind.i64.wrap (x : Int) = (x : Int) := by rw [IntKind.wrap_i64]; omega
        have w3' : IntKind.i64.wrap (256 * (x : Int)) = 256 * (x : Int) := by rw [IntKind.wrap_i64]; omega
        have w4' : IntKind.i64.wrap (y : Int) = (y : Int) := by rw [IntKind.wrap_i64]; omega
        have w5' : IntKind.i64.wrap ((j : Int) + 1) = (j : Int) + 1 := by rw [IntKind.wrap_i64]; omega
        have w6' : IntKind.i64.wrap (256 * (x : Int) + (y : Int)) = (g : Int) := by rw [IntKind.wrap_i64]; omega
        rw [hj] at c1 c2
        have j00 : (0 : Int) ≤ (j : Int) := by omega
        have j01 : (j : Int) < 16 := by omega
        have j0 : (0 : Int) ≤ (j : Int) + 1 := by omega
        have j1 : (j : Int) + 1 < 16 := by omega
        have j2 : ((j : Int) + 1).toNat = j + 1 := by omega
        have i0 : (0 : Int) ≤ (i : Int) := by omega
        have i1 : (i : Int) < 8 := by omega
        have HAd : Hid (A8 b8 (fun j => if j < i then grp p j else 0) wr.drew) := HA.out
        have HPd : Hid (PreAt w.heap.size p wr.drew) := HPr.out
        have HBd : Hid (Below w.heap.size w wr.drew) := below_drew HB.out
        clear hxx hyy hj hg hg0 HSt hx hy
        go_wp2_with fail
        go_still_tail 17, (by kernel_rfl)
        change wpList _ _ _ _ _ wr.drew
        go_wp2_with fail
        go_roundg k1
        case measure => omega
        case rel => exact ⟨i + 1, by go_num, HI2, by show A8 _ _ _; rw [← HS2.out]; exact HAd.out.set i hlt _, Row.far HPd.out (by omega) _, HBd.out.setCell (Nat.le_of_lt hw0) _⟩
    · have HI3 : i = 8 := by have := HI.out; omega
      subst HI3
      clear hlt HI
      generalize wr = w2 at *
      have HCl : Hid (∀ j x, (grps p)[j]? = some x → w2.cell? ⟨b8, j, none⟩ = some (.int .i64 (x : Nat))) := by
        intro j x hj
        have hj8 : j < 8 := by have := (List.getElem?_eq_some_iff.1 hj).1; rwa [grps_length] at this
        have h1 := HA.out.cell j hj8
        rw [if_pos hj8] at h1
        rw [grps_at p j hj8] at hj
        injection hj with hj
        rw [← hj]
        exact h1
      have HL8 : Hid ((grps p).length = 8) := grps_length p
      have hst : gapS (grps p) 0 = (8, 1) := by unfold gapS; rw [grps_length]
      generalize grps p = l at *
      go_wp2_with fail
      go_loopg [7, 8, 9] 8 (fun k v7 v8 v9 w' => w' = w2 ∧ ∃ i : Nat, v9 = .int .i64 i ∧ v7 = .int .i64 ((gapS l i).1 : Nat) ∧ v8 = .int .i64 ((gapS l i).2 : Nat) ∧ Hid (i + k = 8))
      case atStart => exact ⟨rfl, 0, rfl, by rw [hst]; rfl, by rw [hst]; rfl, by show _ = _; omega⟩
      case round =>
        obtain ⟨rfl, i, rfl, rfl, rfl, HI⟩ := hrel
        by_cases hlt : i < 8
        · cases gk with
          | zero => have := HI.out; omega
          | succ k1 =>
            have HI2 : Hid (i + 1 + k1 = 8) := by have := HI.out; show _ = _; omega
            have HSt : gapS l (i + 1) = if (gapS l i).2 < run0 l i then (i, run0 l i) else gapS l i := rfl
            have HIn := Lib.hid (run0_in l i)
            have HOut := Lib.hid (run0_out l i (by rw [HL8.out]; omega))
            have HRl := Lib.hid (run0_le l i (by rw [HL8.out]; omega))
            have HIS := Lib.hid (gapS_is l i (by rw [HL8.out]; omega))
            obtain ⟨⟨F, G⟩, hFG⟩ : ∃ s, gapS l i = s := ⟨_, rfl⟩
            obtain ⟨r, hr⟩ : ∃ r, run0 l i = r := ⟨_, rfl⟩
            rw [hFG] at HSt HIS
            rw [hFG]
            rw [hr] at HSt HIn HOut HRl
            rw [HL8.out] at HRl HOut HIS
            dsimp only at HSt
            dsimp only
            have HS2 := Lib.hid HSt
            clear HSt hFG hr
            go_wp2_with fail
            go_loopg [10] r (fun k v10 w' => w' = wr ∧ ∃ n : Nat, v10 = .int .i64 n ∧ Hid (n + k = r))
            case atStart => exact ⟨rfl, 0, rfl, by show _ = _; omega⟩
            case round =>
              obtain ⟨rfl, n, rfl, HN⟩ := hrel
              by_cases hnr : n < r
              · cases gk with
                | zero => have := HN.out; omega
                | succ k2 =>
                  have hz := HCl.out _ _ (HIn.out n hnr)
                  have hb1 : i + n < 8 := by have := HRl.out; omega
                  have hb2 : (i : Int) + (n : Int) < 8 := by omega
                  have hb3 : ((i : Int) + (n : Int)).toNat = i + n := by omega
                  have hb4 : (0 : Int) ≤ (i : Int) + (n : Int) := by omega
                  have hz' : wr.cell? ⟨b8, i + n, none⟩ = some (.int .i64 0) := hz
                  clear hz
                  go_wp2_with fail
                  go_roundg k2
                  case measure => omega
                  case rel => exact ⟨rfl, n + 1, by go_num, by have := HN.out; show _ = _; omega⟩
              · obtain rfl : n = r := by have := HN.out; omega
                clear hnr HIn
                rcases HOut.out with he | ⟨x, hx1, hx2⟩
                · have hb2 : (8 : Int) ≤ (i : Int) + (n : Int) := by omega
                  have hb5 : decide ((i : Int) + (n : Int) < 8) = false := decide_eq_false (by omega)
                  have hb6 : ¬ (i : Int) + (n : Int) < 8 := by omega
                  have hb7 : n ≤ 8 := by omega
                  have hb8 : wrap64 ((i : Int) + (n : Int)) = (i : Int) + (n : Int) := w64 (by omega) (by omega)
                  by_cases hc : G < n
                  · have hc2 : (G : Int) < (n : Int) := by omega
                    have HS3 : Hid (gapS l (i + 1) = (i, n)) := by have := HS2.out; rwa [if_pos hc] at this
                    clear HS2 he hc
                    go_wp2_with fail
                    go_roundg k1
                    case measure => omega
                    case rel => exact ⟨rfl, i + 1, by go_num, by rw [HS3.out], by rw [HS3.out], HI2⟩
                  · have hc2 : (n : Int) ≤ (G : Int) := by omega
                    have HS3 : Hid (gapS l (i + 1) = (F, G)) := by have := HS2.out; rwa [if_neg hc] at this
                    clear HS2 he hc
                    go_wp2_with fail
                    go_roundg k1
                    case measure => omega
                    case rel => exact ⟨rfl, i + 1, by go_num, by rw [HS3.out], by rw [HS3.out], HI2⟩
                · have hz : wr.cell? ⟨b8, i + n, none⟩ = some (.int .i64 (x : Int)) := HCl.out _ _ hx1
                  have hb1 : i + n < 8 := by have := (List.getElem?_eq_some_iff.1 hx1).1; rw [HL8.out] at this; exact this
                  have hb2 : (i : Int) + (n : Int) < 8 := by omega
                  have hb3 : ((i : Int) + (n : Int)).toNat = i + n := by omega
                  have hb4 : (0 : Int) ≤ (i : Int) + (n : Int) := by omega
                  have hx3 : ((x : Int) == 0) = false := by rw [beq_eq_false_iff_ne]; omega
                  have hx4 : ¬ (x : Int) = 0 := by omega
                  clear hx1
                  by_cases hc : G < n
                  · have hc2 : (G : Int) < (n : Int) := by omega
                    have HS3 : Hid (gapS l (i + 1) = (i, n)) := by have := HS2.out; rwa [if_pos hc] at this
                    clear HS2 hc
                    go_wp2_with fail
                    go_roundg k1
                    case measure => omega
                    case rel => exact ⟨rfl, i + 1, by go_num, by rw [HS3.out], by rw [HS3.out], HI2⟩
                  · have hc2 : (n : Int) ≤ (G : Int) := by omega
                    have HS3 : Hid (gapS l (i + 1) = (F, G)) := by have := HS2.out; rwa [if_neg hc] at this
                    clear HS2 hc
                    go_wp2_with fail
                    go_roundg k1
                    case measure => omega
                    case rel => exact ⟨rfl, i + 1, by go_num, by rw [HS3.out], by rw [HS3.out], HI2⟩
        · have HI3 : i = 8 := by have := HI.out; omega
          subst HI3
          clear hlt HI
          have HIS := gapS_is l 8 (by rw [HL8.out]; omega)
          obtain ⟨⟨F, G⟩, hFG⟩ : ∃ s, gapS l 8 = s := ⟨_, rfl⟩
          rw [hFG] at HAT HIS
          rw [hFG]
          rw [HL8.out] at HIS
          dsimp only at HAT HIS
          dsimp only
          have HIS2 : Hid ((F = 8 ∧ G = 1) ∨ (2 ≤ G ∧ F < 8 ∧ F + G ≤ 8)) := by
            rcases HIS with h | h
            · injection h with h1 h2; exact .inl ⟨h1, h2⟩
            · exact .inr h
          clear HIS hFG hst HA
          have HB0' := HB
          clear HB
          go_wp2_with fail
          generalize wr = w5 at *
          go_loopg [3, 11] 8 (fun k v3 v11 w' => ∃ i : Nat, v11 = .int .i64 i ∧ v3 = .string (strOfNums (preS l F G i)) ∧ Hid (i + k = 8) ∧ Hid (i ≤ F ∨ F + G ≤ i) ∧ Hid (Below w5.heap.size w5 w'))
          case atStart => exact ⟨0, rfl, by unfold preS; rw [if_pos (Nat.zero_le _)]; rfl, by show _ = _; omega, .inl (Nat.zero_le _), Below.refl _ _⟩
          case round =>
            obtain ⟨i, rfl, rfl, HI, HF, HB5⟩ := hrel
            have HB := HB5
            clear HB5
            have HLen := Lib.hid (preS_len l HGL.out HL8.out F G i)
            by_cases hlt : i < 8
            · obtain ⟨x, hx⟩ : ∃ x, l[i]? = some x := ⟨_, List.getElem?_eq_getElem (by rw [HL8.out]; exact hlt)⟩
              have hx64 := HGL.out x (List.mem_of_getElem? hx)
              obtain ⟨t, Ht⟩ : ∃ t, Hid (strOfNums (preS l F G i) = t) := ⟨_, rfl⟩
              rw [Ht.out]
              have hts : t.size ≤ 100 := by rw [← Ht.out, nums_size]; exact HLen.out
              have HDL : Hid ((hexl x).length ≤ 4) := hexl_len x hx64
              have HDg : Hid (∀ W, Calls Tryz.prog 20 #[.int .i64 x, .int .i64 16] W fun e w' => e = .returned (.string (strOfNums (digs 16 x))) ∧ Hid (Below W.heap.size W w')) := fun W => Digits_any 16 (by omega) (by omega) x W (by omega)
              have HLw : Hid (∀ W, Calls Tryz.prog 40 #[.string (strOfNums (digs 16 x))] W fun e w' => e = .returned (.string (strOfNums (hexl x))) ∧ Hid (Below W.heap.size W w')) := by
                intro W
                have := lower_any (strOfNums (digs 16 x)) W (by rw [nums_size]; have := digs_len 16 (by omega) 3 x (by omega); omega)
                rw [ints_nums _ (digs_range 16 (by omega) (by omega) x)] at this
                exact this
              have hz : wr.cell? ⟨b8, i, none⟩ = some (.int .i64 (x : Int)) := cell_below HB.out (HCl.out _ _ hx)
              have i0 : (0 : Int) ≤ (i : Int) := by omega
              have i1 : (i : Int) < 8 := by omega
              by_cases hiF : i = F
              · have HG2 : Hid (2 ≤ G ∧ i + G ≤ 8) := by
                  have := HIS2.out
                  show _ ∧ _
                  omega
                have HE : Hid (preS l F G (i + G) = preS l F G i ++ [58, 58]) := by
                  show _ = _
                  rw [hiF]
                  exact preS_gap l F G (by have := HG2.out; omega)
                have e1 : ((i : Int) == (F : Int)) = true := by rw [hiF]; exact beq_self_eq_true _
                have e2 : (i : Int) = (F : Int) := by omega
                have u0 : (⟨#[58, 58]⟩ : ByteArray).size = 2 := rfl
                have g8 : G ≤ 8 := by have := HG2.out; omega
                have g2 : 2 ≤ G := HG2.out.1
                have HFF := Lib.hid hiF
                clear hiF HDg HLw hx
                go_wp2_with fail
                go_roundg (8 - (i + G))
                case measure => have := HI.out; omega
                case rel =>
                  refine ⟨i + G, by go_num, ?_, by have := HG2.out; show _ = _; omega, .inr (by rw [HFF.out]; exact Nat.le_refl _), HB⟩
                  rw [HE.out, ← nums_append', Ht.out]
                  rfl
              · have e1 : ((i : Int) == (F : Int)) = false := by rw [beq_eq_false_iff_ne]; omega
                have e1' : ¬ (i : Int) = (F : Int) := by omega
                obtain ⟨k1, hk1⟩ : ∃ k1, gk = k1 + 1 := ⟨gk - 1, by have := HI.out; omega⟩
                subst hk1
                have HI2 : Hid (i + 1 + k1 = 8) := by have := HI.out; show _ = _; omega
                have HF2 : Hid (i + 1 ≤ F ∨ F + G ≤ i + 1) := by have := HF.out; show _ ∨ _; omega
                by_cases hlow : i < F
                · have HE := Lib.hid (preS_low l F G i x hlow hx)
                  have e3 : ((i : Int) != (F : Int) + (G : Int)) = true := by rw [bne_iff_ne]; omega
                  have e3' : ¬ (i : Int) = (F : Int) + (G : Int) := by omega
                  have f8 : F ≤ 8 := by have := HIS2.out; omega
                  have g8 : G ≤ 8 := by have := HIS2.out; omega
                  clear hx hiF hlow
                  by_cases hi0 : i = 0
                  · have hle : (i : Int) ≤ 0 := by omega
                    rw [if_pos hi0] at HE
                    clear hi0
                    as_aux_lemma =>
                      go_wp2_with fail
                      refine (HDg.out _).mono ?_
                      rintro e w5 ⟨rfl, hb5⟩
                      have HLo := Lib.hid (HLw.out w5)
                      obtain ⟨d, Hd⟩ : ∃ d, Hid (strOfNums (digs 16 x) = d) := ⟨_, rfl⟩
                      rw [Hd.out] at HLo
                      rw [Hd.out]
                      obtain ⟨u, Hu⟩ : ∃ u, Hid (strOfNums (hexl x) = u) := ⟨_, rfl⟩
                      rw [Hu.out] at HLo
                      have hus : u.size ≤ 4 := by rw [← Hu.out, nums_size]; exact HDL.out
                      have u0 : (⟨#[58]⟩ : ByteArray).size = 1 := rfl
                      have s1 : (t ++ ⟨#[58]⟩).size = t.size + 1 := by rw [ByteArray.size_append]; rfl
                      go_wp2_with fail
                      refine HLo.out.mono ?_
                      rintro e w6 ⟨rfl, hb6⟩
                      clear HLo
                      go_wp2_with fail
                      go_roundg k1
                      case measure => omega
                      case rel =>
                        refine ⟨i + 1, by go_num, ?_, HI2, HF2, below_step HB.out (below_step hb5.out hb6.out)⟩
                        rw [HE.out, ← Ht.out, ← Hu.out]
                        simp only [← nums_append', List.append_nil]
                        all_goals first | rfl | (simp only [ByteArray.append_assoc]; rfl)
                  · have hpos : (0 : Int) < (i : Int) := by omega
                    rw [if_neg hi0] at HE
                    clear hi0
                    as_aux_lemma =>
                      go_wp2_with fail
                      refine (HDg.out _).mono ?_
                      rintro e w5 ⟨rfl, hb5⟩
                      have HLo := Lib.hid (HLw.out w5)
                      obtain ⟨d, Hd⟩ : ∃ d, Hid (strOfNums (digs 16 x) = d) := ⟨_, rfl⟩
                      rw [Hd.out] at HLo
                      rw [Hd.out]
                      obtain ⟨u, Hu⟩ : ∃ u, Hid (strOfNums (hexl x) = u) := ⟨_, rfl⟩
                      rw [Hu.out] at HLo
                      have hus : u.size ≤ 4 := by rw [← Hu.out, nums_size]; exact HDL.out
                      have u0 : (⟨#[58]⟩ : ByteArray).size = 1 := rfl
                      have s1 : (t ++ ⟨#[58]⟩).size = t.size + 1 := by rw [ByteArray.size_append]; rfl
                      go_wp2_with fail
                      refine HLo.out.mono ?_
                      rintro e w6 ⟨rfl, hb6⟩
                      clear HLo
                      go_wp2_with fail
                      go_roundg k1
                      case measure => omega
                      case rel =>
                        refine ⟨i + 1, by go_num, ?_, HI2, HF2, below_step HB.out (below_step hb5.out hb6.out)⟩
                        rw [HE.out, ← Ht.out, ← Hu.out]
                        simp only [← nums_append', List.append_nil]
                        all_goals first | rfl | (simp only [ByteArray.append_assoc]; rfl)
                · have hhi : F + G ≤ i := by have := HF.out; omega
                  have hG1 : 1 ≤ G := by have := HIS2.out; omega
                  have HE := Lib.hid (preS_high l F G i x hG1 hhi hx)
                  have hpos : (0 : Int) < (i : Int) := by omega
                  have f8 : F ≤ 8 := by omega
                  have g8 : G ≤ 8 := by omega
                  clear hx hiF hlow
                  by_cases hi0 : i = F + G
                  · have e3 : ((i : Int) != (F : Int) + (G : Int)) = false := by rw [bne_eq_false_iff_eq]; omega
                    have e3' : (i : Int) = (F : Int) + (G : Int) := by omega
                    have hz2 := hz
                    rw [hi0] at hz2
                    have q0 : (0 : Int) ≤ (F : Int) + (G : Int) := by omega
                    have q1 : (F : Int) + (G : Int) < 8 := by omega
                    have q2 : ((F : Int) + (G : Int)).toNat = F + G := by omega
                    rw [if_pos hi0] at HE
                    clear hi0
                    as_aux_lemma =>
                      go_wp2_with fail
                      refine (HDg.out _).mono ?_
                      rintro e w5 ⟨rfl, hb5⟩
                      have HLo := Lib.hid (HLw.out w5)
                      obtain ⟨d, Hd⟩ : ∃ d, Hid (strOfNums (digs 16 x) = d) := ⟨_, rfl⟩
                      rw [Hd.out] at HLo
                      rw [Hd.out]
                      obtain ⟨u, Hu⟩ : ∃ u, Hid (strOfNums (hexl x) = u) := ⟨_, rfl⟩
                      rw [Hu.out] at HLo
                      have hus : u.size ≤ 4 := by rw [← Hu.out, nums_size]; exact HDL.out
                      have u0 : (⟨#[58]⟩ : ByteArray).size = 1 := rfl
                      have s1 : (t ++ ⟨#[58]⟩).size = t.size + 1 := by rw [ByteArray.size_append]; rfl
                      go_wp2_with fail
                      refine HLo.out.mono ?_
                      rintro e w6 ⟨rfl, hb6⟩
                      clear HLo
                      go_wp2_with fail
                      go_roundg k1
                      case measure => omega
                      case rel =>
                        refine ⟨i + 1, by go_num, ?_, HI2, HF2, below_step HB.out (below_step hb5.out hb6.out)⟩
                        rw [HE.out, ← Ht.out, ← Hu.out]
                        simp only [← nums_append', List.append_nil]
                        all_goals first | rfl | (simp only [ByteArray.append_assoc]; rfl)
                  · have e3 : ((i : Int) != (F : Int) + (G : Int)) = true := by rw [bne_iff_ne]; omega
                    have e3' : ¬ (i : Int) = (F : Int) + (G : Int) := by omega
                    rw [if_neg hi0] at HE
                    clear hi0
                    as_aux_lemma =>
                      go_wp2_with fail
                      refine (HDg.out _).mono ?_
                      rintro e w5 ⟨rfl, hb5⟩
                      have HLo := Lib.hid (HLw.out w5)
                      obtain ⟨d, Hd⟩ : ∃ d, Hid (strOfNums (digs 16 x) = d) := ⟨_, rfl⟩
                      rw [Hd.out] at HLo
                      rw [Hd.out]
                      obtain ⟨u, Hu⟩ : ∃ u, Hid (strOfNums (hexl x) = u) := ⟨_, rfl⟩
                      rw [Hu.out] at HLo
                      have hus : u.size ≤ 4 := by rw [← Hu.out, nums_size]; exact HDL.out
                      have u0 : (⟨#[58]⟩ : ByteArray).size = 1 := rfl
                      have s1 : (t ++ ⟨#[58]⟩).size = t.size + 1 := by rw [ByteArray.size_append]; rfl
                      go_wp2_with fail
                      refine HLo.out.mono ?_
                      rintro e w6 ⟨rfl, hb6⟩
                      clear HLo
                      go_wp2_with fail
                      go_roundg k1
                      case measure => omega
                      case rel =>
                        refine ⟨i + 1, by go_num, ?_, HI2, HF2, below_step HB.out (below_step hb5.out hb6.out)⟩
                        rw [HE.out, ← Ht.out, ← Hu.out]
                        simp only [← nums_append', List.append_nil]
                        all_goals first | rfl | (simp only [ByteArray.append_assoc]; rfl)
            · have HI3 : i = 8 := by have := HI.out; omega
              subst HI3
              rw [HAT.out]
              obtain ⟨t, Ht⟩ : ∃ t, Hid (strOfNums (addrT p) = t) := ⟨_, rfl⟩
              rw [Ht.out]
              have HTS : Hid (t.size ≤ 1000) := by show _ ≤ _; rw [← Ht.out, nums_size]; exact HLn.out
              have H1 := Lib.hid (HPr.out.below HB.out)
              have HB1 := Lib.hid (below_then HB0'.out HB0'.out.size HB.out)
              clear HI HB hlt HAT HLn HLen HF HCl HPr HB0'
              generalize wr = w1 at *
              as_aux_lemma =>
                go_upto_region 34 with (fail)
                have c17 := H1.out.bits
                have Hd : Hid (PreAt w.heap.size p w1.drew) := H1.out
                have HBd : Hid (Below w.heap.size w w1.drew) := below_drew HB1.out
                go_region_held3 (fun W => W.cell? ⟨w.heap.size, 0, none⟩ = some (.bool p.six) ∧ W.cell? ⟨w.heap.size, 1, none⟩ = some (.int .u8 (p.addr 0 : Nat)) ∧ W.cell? ⟨w.heap.size, 2, none⟩ = some (.int .u8 (p.addr 1 : Nat)) ∧ W.cell? ⟨w.heap.size, 3, none⟩ = some (.int .u8 (p.addr 2 : Nat)) ∧ W.cell? ⟨w.heap.size, 4, none⟩ = some (.int .u8 (p.addr 3 : Nat)) ∧ W.cell? ⟨w.heap.size, 5, none⟩ = some (.int .u8 (p.addr 4 : Nat)) ∧ W.cell? ⟨w.heap.size, 6, none⟩ = some (.int .u8 (p.addr 5 : Nat)) ∧ W.cell? ⟨w.heap.size, 7, none⟩ = some (.int .u8 (p.addr 6 : Nat)) ∧ W.cell? ⟨w.heap.size, 8, none⟩ = some (.int .u8 (p.addr 7 : Nat)) ∧ W.cell? ⟨w.heap.size, 9, none⟩ = some (.int .u8 (p.addr 8 : Nat)) ∧ W.cell? ⟨w.heap.size, 10, none⟩ = some (.int .u8 (p.addr 9 : Nat)) ∧ W.cell? ⟨w.heap.size, 11, none⟩ = some (.int .u8 (p.addr 10 : Nat)) ∧ W.cell? ⟨w.heap.size, 12, none⟩ = some (.int .u8 (p.addr 11 : Nat)) ∧ W.cell? ⟨w.heap.size, 13, none⟩ = some (.int .u8 (p.addr 12 : Nat)) ∧ W.cell? ⟨w.heap.size, 14, none⟩ = some (.int .u8 (p.addr 13 : Nat)) ∧ W.cell? ⟨w.heap.size, 15, none⟩ = some (.int .u8 (p.addr 14 : Nat)) ∧ W.cell? ⟨w.heap.size, 16, none⟩ = some (.int .u8 (p.addr 15 : Nat)) ∧ W.cell? ⟨w.heap.size, 17, none⟩ = some (.int .i64 p.bits))
                  (first | exact Hd.out.cells | exact H9.out.cells)
                  (first | (go_simp; go_at_call 38; refine (rWidth_lit p _).mono ?_; rintro e w9 ⟨rfl, h9⟩; have H9 : Hid (PreAt w.heap.size p w9) := Hd.out.below h9.out; have HB9 : Hid (Below w.heap.size w w9) := below_then HBd.out HBd.out.size h9.out; clear h9))
                clear c17 Hd HBd
                by_cases hw : p.bits = widthV p
                · have d1 : decide (p.bits < widthV p) = false := decide_eq_false (by omega)
                  have d2 : widthV p ≤ p.bits := by omega
                  have HO : Hid (strOfNums (ipT p) = t) := by show _ = _; unfold ipT; rw [if_pos hw, List.append_nil, Ht.out]
                  clear hw
                  go_wp2_with fail
                  all_goals
                    go_ret
                    exact ⟨by rw [HO.out]; rfl, HB9⟩
                · have d1 : decide (p.bits < widthV p) = true := decide_eq_true (by have := HBT.out; omega)
                  have d2 : p.bits < widthV p := by have := HBT.out; omega
                  have c17 := H9.out.bits
                  obtain ⟨n, hn⟩ : ∃ n : Nat, p.bits = n := ⟨p.bits.toNat, by have := HBT.out; omega⟩
                  have HN128 : Hid (n ≤ 128) := by
                    have h1 := HBT.out
                    have : widthV p ≤ 128 := by unfold widthV; split <;> omega
                    show _ ≤ _; omega
                  have HO : Hid (strOfNums (ipT p) = t ++ ⟨#[47]⟩ ++ strOfNums (digs 10 n)) := by
                    show _ = _
                    unfold ipT
                    rw [if_neg hw, show p.bits.toNat = n by omega, ← Ht.out, show (⟨#[47]⟩ : ByteArray) = strOfNums [47] from rfl, nums_append', nums_append', List.append_assoc]
                    rfl
                  have HDL : Hid ((strOfNums (digs 10 n)).size ≤ 3) := by
                    show _ ≤ _
                    rw [nums_size]
                    exact digs_len 10 (by omega) 2 n (by have := HN128.out; omega)
                  have HIt : Hid (∀ W, Calls Tryz.prog 20 #[.int .i64 p.bits, .int .i64 10] W fun e w' => e = .returned (.string (strOfNums (digs 10 n))) ∧ Hid (Below W.heap.size W w')) := by
                    intro W
                    rw [hn]
                    exact Digits_any 10 (by omega) (by omega) n W (by have := HN128.out; omega)
                  clear hw hn
                  have u2 : t.size ≤ 1000 := HTS.out
                  have u3 : (⟨#[47]⟩ : ByteArray).size = 1 := rfl
                  have u4 : (t ++ ⟨#[47]⟩).size = t.size + 1 := by rw [ByteArray.size_append]; rfl
                  go_wp2_with fail
                  all_goals
                    refine (HIt.out _).mono ?_
                    rintro e w2 ⟨rfl, hb2⟩
                    obtain ⟨u, Hu⟩ : ∃ u, Hid (strOfNums (digs 10 n) = u) := ⟨_, rfl⟩
                    rw [Hu.out] at HO HDL ⊢
                    have u1 := HDL.out
                    go_wp2_with fail
                    all_goals
                      go_ret
                      exact ⟨by rw [HO.out]; rfl, below_then HB9.out HB9.out.size hb2.out⟩
end Go.Proofs.YtngokkebjadoiaaGreatDoor

