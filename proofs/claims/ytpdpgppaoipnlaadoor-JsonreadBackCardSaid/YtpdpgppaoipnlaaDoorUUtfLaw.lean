/- What the claim uses of the text UtfLaw. -/
import Derived.Test.YtpdpgppaoipnlaaDoorUUtf
import Derived.Test.YtpdpgppaoipnlaaDoorURef
set_option linter.unusedVariables false
set_option linter.unusedSimpArgs false
namespace Go.Proofs.YtpdpgppaoipnlaaDoor
section
open Go.RowKit Go.Proofs.YtpdpgppaoipnlaaDoorW.PrintWords Go.Proofs.YtpdpgppaoipnlaaDoorW.PrintMore

theorem C_int_get {k : IntKind} {w : World} {A : Option Addr} {n : Nat} {xs : List Int} (h : (Kd.int k).C w A n xs) (i : Nat) (hi : i < n) : ∃ ad, A = some ad ∧ w.cell? (ad.add i) = some (.int k (xs.getD i 0)) := by
  obtain ⟨ad, c, e, hc, hk, hcell⟩ := Kd.C_get h 0 i (by omega) (by omega)
  refine ⟨ad, e, ?_⟩
  have hk' : c = [.int k (xs.getD (i : Int).toNat 0)] := hk
  have := hcell 0 (.int k (xs.getD (i : Int).toNat 0)) (by rw [hk']; rfl)
  have e1 : (Kd.int k).sz = 1 := rfl
  simpa [e1] using this

theorem utf_Decode_ok {E : Nat → Addr} (s : ByteArray) (l : List Int) (w : World) (hl : s.size ≤ 1000000) (hs : Sents E w) (hd : dec s = (l, 0, 0)) :
    Calls Tryd.prog 114 #[.string s] w fun e w' => ∃ A c, e = .returned (.tuple #[.slice A l.length c, .nilIface]) ∧ Hid (l.length ≤ c) ∧ Hid ((Kd.int .i32).C w' A l.length l) ∧ Below w.heap.size w w' := by
  refine (utf_Decode_any s w hl hs).mono ?_
  rintro e w' ⟨lv, ev, rfl, hR, hE, hb⟩
  rw [hd] at hR hE
  obtain ⟨A, c, rfl, hc, hC⟩ := Kd.R_reads hR
  rcases hE with ⟨_, rfl⟩ | ⟨h, _⟩
  · exact ⟨A, c, rfl, hc, hC, hb⟩
  · simp at h
theorem utf_Decode_bad {E : Nat → Addr} (s : ByteArray) (l : List Int) (at_ n : Int) (w : World) (hl : s.size ≤ 1000000) (hs : Sents E w) (hd : dec s = (l, at_, n)) (hn : n ≠ 0) :
    Calls Tryd.prog 114 #[.string s] w fun e w' => ∃ A c p, e = .returned (.tuple #[.slice A l.length c, .iface 69 (.pointer (some p))]) ∧ Hid (l.length ≤ c) ∧ Hid ((Kd.int .i32).C w' A l.length l) ∧ Hid (ErrV E w' (.iface 69 (.pointer (some p))) at_ n) ∧ Below w.heap.size w w' := by
  refine (utf_Decode_any s w hl hs).mono ?_
  rintro e w' ⟨lv, ev, rfl, hR, hE, hb⟩
  rw [hd] at hR hE
  obtain ⟨A, c, rfl, hc, hC⟩ := Kd.R_reads hR
  have hE' := hE
  rcases hE with ⟨h, _⟩ | ⟨_, _, b, rfl, _⟩
  · exact absurd h hn
  · exact ⟨A, c, _, rfl, hc, hC, hE', hb⟩

/-- Is, of whatever error value it is: true. -/
theorem is_any {E : Nat → Addr} [AllE E] (v : Value) (at_ code : Int) (w : World) (hs : Sents E w) (hv : ErrV E w v at_ code) :
    Calls Tryd.prog 15 #[v, .int .i64 at_, .int .i64 code] w fun e w' => e = .returned (.bool true) ∧ Below w.heap.size w w' := by
  rcases hv with ⟨rfl, rfl⟩ | ⟨h1, h2, b, rfl, h4, h5⟩
  · exact (is_none _ at_ w rfl).mono fun e w' ⟨he, hw⟩ => ⟨he, by subst hw; exact Below.refl _ _⟩
  · exact is_some b at_ code w hs h1 h2 h4 h5

end


section
open Go.RowKit Go.Proofs.YtpdpgppaoipnlaaDoorW.PrintWords Go.Proofs.YtpdpgppaoipnlaaDoorW.PrintMore PAll

theorem dcd_ok (s : ByteArray) : ∀ (n : Nat) (at_ : Int) (acc : List Int), (dcd s n at_ acc).2.2 = 0 → (dcd s n at_ acc).2.1 = 0
  | 0, _, _, _ => rfl
  | n + 1, at_, acc, h => by
    unfold dcd at h ⊢
    split
    · rfl
    · rename_i c; rw [if_neg c] at h
      split
      · rename_i c2; rw [if_pos c2] at h; exact dcd_ok s n _ _ h
      · rename_i c2; rw [if_neg c2] at h; exact absurd h c2
theorem dec_ok (s : ByteArray) (h : (dec s).2.2 = 0) : (dec s).2.1 = 0 := dcd_ok s _ _ _ h

set_option maxHeartbeats 600000 in
theorem utf_Valid_any {E : Nat → Addr} (s : ByteArray) (w : World) (hl : s.size ≤ 1000000) (hs : Sents E w) (b : Bool) (hb : b = decide ((dec s).2.2 = 0)) :
    Calls Tryd.prog 98 #[.string s] w fun e w' => e = .returned (.bool b) ∧ Below w.heap.size w w' := by
  have hal : Below w.heap.size w (w.alloc (.cells #[.pointer none] 69)) := (Below.refl _ _).alloc (Nat.le_refl _) _
  obtain ⟨l, at_, n, HD⟩ : ∃ l at_ n, Hid (dec s = (l, at_, n)) := ⟨_, _, _, rfl⟩
  rw [HD.out] at hb
  by_cases hn : n = 0
  · have HN := Lib.hid hn
    have HBB : Hid (b = true) := by rw [hb]; show _ = _; simp [hn]
    obtain rfl := HBB.out
    have hat : at_ = 0 := by
      have := dec_ok s (by rw [HD.out]; exact hn)
      rw [HD.out] at this
      exact this
    clear hb hn
    go_enter Tryd.func98, Tryd.ntmps98
    go_wp2_with fail
    refine (utf_Decode_ok s l _ hl (hs.below hal) (by rw [HD.out, HN.out, hat])).mono ?_
    rintro e w1 ⟨A, c, rfl, hc, hC, hb1⟩
    go_wp2_with (go_at_call 47; refine (as_nil _ _).mono ?_; rintro e w2 ⟨rfl, rfl⟩)
    go_ret
    exact ⟨rfl, below_step hal hb1⟩
  · have HBB : Hid (b = false) := by rw [hb]; show _ = _; simp [hn]
    obtain rfl := HBB.out
    have HN := Lib.hid hn
    clear hb hn
    go_enter Tryd.func98, Tryd.ntmps98
    go_wp2_with fail
    refine (utf_Decode_bad s l at_ n _ hl (hs.below hal) HD.out HN.out).mono ?_
    rintro e w1 ⟨A, c, p, rfl, hc, hC, hE, hb1⟩
    have hB1 := Lib.hid (below_step hal hb1)
    have t0 : w1.cell? ⟨w.heap.size, 0, none⟩ = some (.pointer none) := cell_below hb1 (by simp)
    have f0 : w1.frozen? ⟨w.heap.size, 0, none⟩ = false := (hb1.frozen (p := ⟨w.heap.size, 0, none⟩) (by simp)).trans (by simp)
    have HA := Lib.hid (as_hit p ⟨w.heap.size, 0, none⟩ _ w1 (hs.below hB1.out) t0 f0)
    clear hb1 t0 f0 hC hc
    go_wp2_with fail
    refine HA.out.mono ?_
    rintro e w2 ⟨rfl, w3, hb3, rfl⟩
    go_wp2
    go_ret
    exact ⟨rfl, (below_step hB1.out hb3).setCell (Nat.le_refl _) _⟩

end
end Go.Proofs.YtpdpgppaoipnlaaDoor

