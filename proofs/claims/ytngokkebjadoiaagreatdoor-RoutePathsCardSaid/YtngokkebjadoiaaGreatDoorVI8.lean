/- What the claim uses of the text I8. -/
import Derived.Test.YtngokkebjadoiaaGreatDoorVI7
set_option linter.unusedVariables false
set_option linter.unusedSimpArgs false
namespace Go.Proofs.YtngokkebjadoiaaGreatDoor
open Go.RowKit Go.PlainAid
open Go.Proofs.YtngokkebjadoiaaGreatDoorW.PrintWords hiding bt
open Go.Proofs.YtngokkebjadoiaaGreatDoorW.PrintMore

theorem address_any (p : PV) (hp : ∀ i, i < 16 → p.addr i < 256) (w : World) (hc : Caps w) :
    Calls Tryz.prog 33 #[.agg (preA p)] w fun e w' => e = .returned (.string (strOfNums (addrT p))) ∧ Hid (Below w.heap.size w w') := by
  cases h : p.six with
  | true => exact address6_any p hp h w hc
  | false => exact address4_any p hp h w hc
theorem addrT_len (p : PV) (hp : ∀ i, i < 16 → p.addr i < 256) : (addrT p).length ≤ 1000 := by
  unfold addrT
  split
  · have hh : ∀ (l : List Nat), (∀ n ∈ l, n < 65536) → l.length ≤ 8 → (joinI [58] (l.map hexl)).length ≤ 40 := fun l hl h8 => by
      have := joinI_len [58] 4 (l.map hexl) (fun t ht => by
        rw [List.mem_map] at ht
        obtain ⟨n, hn, rfl⟩ := ht
        exact hexl_len n (hl n hn))
      rw [List.length_map] at this
      simp only [List.length_cons, List.length_nil] at this
      omega
    have hg := grps_lt p hp
    have hl := grps_length p
    unfold sixT
    split
    · have := hh (grps p) hg (by omega)
      omega
    · rw [List.length_append, List.length_append]
      have h1 := hh ((grps p).take (gapS (grps p) (grps p).length).1) (fun n hn => hg n (List.mem_of_mem_take hn)) (by rw [List.length_take]; omega)
      have h2 := hh ((grps p).drop ((gapS (grps p) (grps p).length).1 + (gapS (grps p) (grps p).length).2)) (fun n hn => hg n (List.mem_of_mem_drop hn)) (by rw [List.length_drop]; omega)
      simp only [List.length_cons, List.length_nil]
      omega
  · unfold fourT
    have := joinI_len [46] 3 ((List.range 4).map fun i => digs 10 (p.addr i)) (fun t ht => by
      rw [List.mem_map] at ht
      obtain ⟨n, hn, rfl⟩ := ht
      rw [List.mem_range] at hn
      exact digs_len 10 (by omega) 2 _ (by have := hp n (by omega); omega))
    rw [List.length_map, List.length_range] at this
    simp only [List.length_cons, List.length_nil] at this
    omega
set_option maxHeartbeats 8000000 in
set_option maxRecDepth 100000 in
theorem ip_Text_any (p : PV) (hp : ∀ i, i < 16 → p.addr i < 256) (hb : 0 ≤ p.bits ∧ p.bits ≤ widthV p) (w : World) (hc : Caps w) :
    Calls Tryz.prog 13 #[.agg (preA p)] w fun e w' => e = .returned (.string (strOfNums (ipT p))) ∧ Hid (Below w.heap.size w w') := by
  have H : Hid (PreAt w.heap.size p (w.alloc (.cells (preA p) 24))) := Row.new w _ _ rfl
  have HBw : Hid (Below w.heap.size w (w.alloc (.cells (preA p) 24))) := (Below.refl _ _).alloc (Nat.le_refl _) _
  have HC := Lib.hid (hc.below HBw.out)
  have HP := Lib.hid hp
  have HBT := Lib.hid hb
  have HLn := Lib.hid (addrT_len p hp)
  clear hc hp hb
  go_enter Tryz.func13, Tryz.ntmps13
  go_upto_region 1 with (fail)
  generalize w.alloc (.cells (preA p) 24) = w0 at *
  go_wp2_with (first | ((with_reducible refine wpl_load_pre H.out ?hx ?_); (case hx => rfl)))
  refine (address_any p HP.out _ HC.out).mono ?_
  rintro e w1 ⟨rfl, hb1⟩
  have HB1 := Lib.hid (below_then HBw.out HBw.out.size hb1.out)
  have H1 := Lib.hid (H.out.below hb1.out)
  have HC1 := Lib.hid (HC.out.below hb1.out)
  clear HC H HBw hb1
  obtain ⟨t, Ht⟩ : ∃ t, Hid (strOfNums (addrT p) = t) := ⟨_, rfl⟩
  rw [Ht.out]
  have HTS : Hid (t.size ≤ 1000) := by show _ ≤ _; rw [← Ht.out, nums_size]; exact HLn.out
  go_upto_region 2 with (fail)
  have c17 := H1.out.bits
  have Hd : Hid (PreAt w.heap.size p w1.drew) := H1.out
  have HBd : Hid (Below w.heap.size w w1.drew) := below_drew HB1.out
  have HBs : Hid (Below w1.heap.size w1 w1.drew) := below_drew (Below.refl _ _)
  go_region_held3 (fun W => W.cell? ⟨w.heap.size, 0, none⟩ = some (.bool p.six) ∧ W.cell? ⟨w.heap.size, 1, none⟩ = some (.int .u8 (p.addr 0 : Nat)) ∧ W.cell? ⟨w.heap.size, 2, none⟩ = some (.int .u8 (p.addr 1 : Nat)) ∧ W.cell? ⟨w.heap.size, 3, none⟩ = some (.int .u8 (p.addr 2 : Nat)) ∧ W.cell? ⟨w.heap.size, 4, none⟩ = some (.int .u8 (p.addr 3 : Nat)) ∧ W.cell? ⟨w.heap.size, 5, none⟩ = some (.int .u8 (p.addr 4 : Nat)) ∧ W.cell? ⟨w.heap.size, 6, none⟩ = some (.int .u8 (p.addr 5 : Nat)) ∧ W.cell? ⟨w.heap.size, 7, none⟩ = some (.int .u8 (p.addr 6 : Nat)) ∧ W.cell? ⟨w.heap.size, 8, none⟩ = some (.int .u8 (p.addr 7 : Nat)) ∧ W.cell? ⟨w.heap.size, 9, none⟩ = some (.int .u8 (p.addr 8 : Nat)) ∧ W.cell? ⟨w.heap.size, 10, none⟩ = some (.int .u8 (p.addr 9 : Nat)) ∧ W.cell? ⟨w.heap.size, 11, none⟩ = some (.int .u8 (p.addr 10 : Nat)) ∧ W.cell? ⟨w.heap.size, 12, none⟩ = some (.int .u8 (p.addr 11 : Nat)) ∧ W.cell? ⟨w.heap.size, 13, none⟩ = some (.int .u8 (p.addr 12 : Nat)) ∧ W.cell? ⟨w.heap.size, 14, none⟩ = some (.int .u8 (p.addr 13 : Nat)) ∧ W.cell? ⟨w.heap.size, 15, none⟩ = some (.int .u8 (p.addr 14 : Nat)) ∧ W.cell? ⟨w.heap.size, 16, none⟩ = some (.int .u8 (p.addr 15 : Nat)) ∧ W.cell? ⟨w.heap.size, 17, none⟩ = some (.int .i64 p.bits))
    (first | exact Hd.out.cells | exact H9.out.cells)
    (first | (go_simp; go_at_call 26; refine (Width_lit p _).mono ?_; rintro e w9 ⟨rfl, h9⟩; have H9 : Hid (PreAt w.heap.size p w9) := Hd.out.below h9.out; have HB9 : Hid (Below w.heap.size w w9) := below_then HBd.out HBd.out.size h9.out; have HC9 : Hid (Caps w9) := HC1.out.below (w := w1) (below_then HBs.out HBs.out.size h9.out); clear h9))
  clear c17 Hd HBd HBs
  by_cases hw : p.bits = widthV p
  · have d1 : (p.bits != widthV p) = false := by simpa using hw
    have HO : Hid (strOfNums (ipT p) = t) := by show _ = _; unfold ipT; rw [if_pos hw, List.append_nil, Ht.out]
    clear hw
    go_wp2_with fail
    all_goals
      go_ret
      exact ⟨by rw [HO.out]; rfl, HB9⟩
  · have d1 : (p.bits != widthV p) = true := by simpa using hw
    have c17 := H9.out.bits
    obtain ⟨n, hn⟩ : ∃ n : Nat, p.bits = n := ⟨p.bits.toNat, by have := HBT.out; omega⟩
    have HN128 : Hid (n ≤ 128) := by
      have h1 := HBT.out
      have : widthV p ≤ 128 := by unfold widthV; split <;> omega
      show _ ≤ _; omega
    have HO : Hid (strOfNums (ipT p) = t ++ (⟨#[47]⟩ ++ strOfNums (digs 10 n))) := by
      show _ = _
      unfold ipT
      rw [if_neg hw, show p.bits.toNat = n by omega, ← Ht.out, show (⟨#[47]⟩ : ByteArray) = strOfNums [47] from rfl, nums_append', nums_append']
      rfl
    have HDL : Hid ((strOfNums (digs 10 n)).size ≤ 3) := by
      show _ ≤ _
      rw [nums_size]
      exact digs_len 10 (by omega) 2 n (by have := HN128.out; omega)
    have HIt : Hid (∀ W, Caps W → Calls Tryz.prog 34 #[.int .i64 p.bits] W fun e w' => e = .returned (.string (strOfNums (digs 10 n))) ∧ Hid (Below W.heap.size W w')) := by
      intro W hW
      rw [hn]
      exact Itoa_any n (by have := HN128.out; omega) W hW
    clear hw hn
    go_wp2_with fail
    all_goals
      refine (HIt.out _ HC9.out).mono ?_
      rintro e w2 ⟨rfl, hb2⟩
      obtain ⟨u, Hu⟩ : ∃ u, Hid (strOfNums (digs 10 n) = u) := ⟨_, rfl⟩
      rw [Hu.out] at HO HDL ⊢
      have u1 := HDL.out
      have u2 := HTS.out
      have u3 : (⟨#[47]⟩ : ByteArray).size = 1 := rfl
      go_wp2_with fail
      all_goals
        go_ret
        exact ⟨by rw [HO.out]; rfl, below_then HB9.out HB9.out.size hb2.out⟩
end Go.Proofs.YtngokkebjadoiaaGreatDoor

