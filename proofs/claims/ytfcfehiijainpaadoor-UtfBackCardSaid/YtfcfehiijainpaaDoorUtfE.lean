/- utf.Decode by its two ends; the awake of the statements of layer 1; the statement UtfNext's walk. -/
import Derived.Test.YtfcfehiijainpaaDoorUtfD
import Derived.Test.YtfcfehiijainpaaDoorUtfU
namespace Go.Proofs.YtfcfehiijainpaaDoor
open Go.RowKit Go.Proofs.YtfcfehiijainpaaDoorW.PrintWords Go.Proofs.YtfcfehiijainpaaDoorW.PrintMore
set_option linter.unusedVariables false
set_option linter.unusedSimpArgs false

theorem C_int_get {k : IntKind} {w : World} {A : Option Addr} {n : Nat} {xs : List Int} (h : (Kd.int k).C w A n xs) (i : Nat) (hi : i < n) : ∃ ad, A = some ad ∧ w.cell? (ad.add i) = some (.int k (xs.getD i 0)) := by
  obtain ⟨ad, c, e, hc, hk, hcell⟩ := Kd.C_get h 0 i (by omega) (by omega)
  refine ⟨ad, e, ?_⟩
  have hk' : c = [.int k (xs.getD (i : Int).toNat 0)] := hk
  have := hcell 0 (.int k (xs.getD (i : Int).toNat 0)) (by rw [hk']; rfl)
  have e1 : (Kd.int k).sz = 1 := rfl
  simpa [e1] using this

theorem utf_Decode_ok {E : Nat → Addr} (s : ByteArray) (l : List Int) (w : World) (hl : s.size ≤ 1000000) (hs : Sents E w) (hd : dec s = (l, 0, 0)) :
    Calls Tryd.prog 23 #[.string s] w fun e w' => ∃ A c, e = .returned (.tuple #[.slice A l.length c, .nilIface]) ∧ Hid (l.length ≤ c) ∧ Hid ((Kd.int .i32).C w' A l.length l) ∧ Below w.heap.size w w' := by
  refine (utf_Decode_any s w hl hs).mono ?_
  rintro e w' ⟨lv, ev, rfl, hR, hE, hb⟩
  rw [hd] at hR hE
  obtain ⟨A, c, rfl, hc, hC⟩ := Kd.R_reads hR
  rcases hE with ⟨_, rfl⟩ | ⟨h, _⟩
  · exact ⟨A, c, rfl, hc, hC, hb⟩
  · simp at h
theorem utf_Decode_bad {E : Nat → Addr} (s : ByteArray) (l : List Int) (at_ n : Int) (w : World) (hl : s.size ≤ 1000000) (hs : Sents E w) (hd : dec s = (l, at_, n)) (hn : n ≠ 0) :
    Calls Tryd.prog 23 #[.string s] w fun e w' => ∃ A c p, e = .returned (.tuple #[.slice A l.length c, .iface 69 (.pointer (some p))]) ∧ Hid (l.length ≤ c) ∧ Hid ((Kd.int .i32).C w' A l.length l) ∧ Hid (ErrV E w' (.iface 69 (.pointer (some p))) at_ n) ∧ Below w.heap.size w w' := by
  refine (utf_Decode_any s w hl hs).mono ?_
  rintro e w' ⟨lv, ev, rfl, hR, hE, hb⟩
  rw [hd] at hR hE
  obtain ⟨A, c, rfl, hc, hC⟩ := Kd.R_reads hR
  have hE' := hE
  rcases hE with ⟨h, _⟩ | ⟨_, _, b, rfl, _⟩
  · exact absurd h hn
  · exact ⟨A, c, _, rfl, hc, hC, hE', hb⟩

/-- Is, of whatever error value it is: true. -/
theorem is_any {E : Nat → Addr} (v : Value) (at_ code : Int) (w : World) (hs : Sents E w) (hv : ErrV E w v at_ code) :
    Calls Tryd.prog 17 #[v, .int .i64 at_, .int .i64 code] w fun e w' => e = .returned (.bool true) ∧ Below w.heap.size w w' := by
  rcases hv with ⟨rfl, rfl⟩ | ⟨h1, h2, b, rfl, h4, h5⟩
  · exact (is_none _ at_ w rfl).mono fun e w' ⟨he, hw⟩ => ⟨he, by subst hw; exact Below.refl _ _⟩
  · exact is_some b at_ code w hs h1 h2 h4 h5

theorem dec_euro : dec ⟨#[226, 130, 172]⟩ = ([8364], 0, 0) := by decide +kernel
theorem dec_cut : dec ⟨#[97, 226, 130]⟩ = ([], 1, 2) := by decide +kernel

set_option maxHeartbeats 2000000 in
theorem awake01 {E : Nat → Addr} (w : World) (hs : Sents E w) :
    Calls Tryd.prog 15 #[] w fun e w' => e = .returned (.bool true) ∧ Below w.heap.size w w' := by
  go_enter Tryd.func15, Tryd.ntmps15
  go_wp2_with fail
  refine (utf_Decode_ok ⟨#[226, 130, 172]⟩ [8364] _ (by decide) hs dec_euro).mono ?_
  rintro e w1 ⟨A, c, rfl, hc, hC, hb⟩
  go_wp2_with fail
  refine (utf_Decode_bad ⟨#[97, 226, 130]⟩ [] 1 2 _ (by decide) (hs.below hb) dec_cut (by decide)).mono ?_
  rintro e w2 ⟨A2, c2, p, rfl, hc2, hC2, hE, hb2⟩
  obtain ⟨ad, rfl, hcell⟩ := C_int_get (Kd.C_below hC.out hb2) 0 (by simp)
  have hB := Lib.hid (below_step hb hb2)
  clear hb hb2 hC hC2
  simp only [Addr.add, if_true, List.getD_cons_zero] at hcell
  go_wp2_with fail
  refine (is_any _ 1 2 _ (hs.below hB.out) hE.out).mono ?_
  rintro e w3 ⟨rfl, hb3⟩
  go_wp2
  go_ret
  exact ⟨rfl, below_step hB.out hb3⟩
end Go.Proofs.YtfcfehiijainpaaDoor
