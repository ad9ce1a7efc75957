/- utf.Decode by its two ends; the awake of the statements of layer 1; the statement UtfNext's walk. The statement UtfNext's walk. utf.Valid by its contract; the statement UtfDecodes' walk. -/
import Derived.Test.YtkaepipnbgdoeaaDoorUtf
import Derived.Test.YtkaepipnbgdoeaaDoorRef
set_option linter.unusedVariables false
set_option linter.unusedSimpArgs false
namespace Go.Proofs.YtkaepipnbgdoeaaDoor
section
open Go.RowKit Go.Proofs.YtkaepipnbgdoeaaDoorW.PrintWords Go.Proofs.YtkaepipnbgdoeaaDoorW.PrintMore

theorem C_int_get {k : IntKind} {w : World} {A : Option Addr} {n : Nat} {xs : List Int} (h : (Kd.int k).C w A n xs) (i : Nat) (hi : i < n) : ∃ ad, A = some ad ∧ w.cell? (ad.add i) = some (.int k (xs.getD i 0)) := by
  obtain ⟨ad, c, e, hc, hk, hcell⟩ := Kd.C_get h 0 i (by omega) (by omega)
  refine ⟨ad, e, ?_⟩
  have hk' : c = [.int k (xs.getD (i : Int).toNat 0)] := hk
  have := hcell 0 (.int k (xs.getD (i : Int).toNat 0)) (by rw [hk']; rfl)
  have e1 : (Kd.int k).sz = 1 := rfl
  simpa [e1] using this

theorem utf_Decode_ok {E : Nat → Addr} (s : ByteArray) (l : List Int) (w : World) (hl : s.size ≤ 1000000) (hs : Sents E w) (hd : dec s = (l, 0, 0)) :
    Calls Tryd.prog 51 #[.string s] w fun e w' => ∃ A c, e = .returned (.tuple #[.slice A l.length c, .nilIface]) ∧ Hid (l.length ≤ c) ∧ Hid ((Kd.int .i32).C w' A l.length l) ∧ Below w.heap.size w w' := by
  refine (utf_Decode_any s w hl hs).mono ?_
  rintro e w' ⟨lv, ev, rfl, hR, hE, hb⟩
  rw [hd] at hR hE
  obtain ⟨A, c, rfl, hc, hC⟩ := Kd.R_reads hR
  rcases hE with ⟨_, rfl⟩ | ⟨h, _⟩
  · exact ⟨A, c, rfl, hc, hC, hb⟩
  · simp at h
theorem utf_Decode_bad {E : Nat → Addr} (s : ByteArray) (l : List Int) (at_ n : Int) (w : World) (hl : s.size ≤ 1000000) (hs : Sents E w) (hd : dec s = (l, at_, n)) (hn : n ≠ 0) :
    Calls Tryd.prog 51 #[.string s] w fun e w' => ∃ A c p, e = .returned (.tuple #[.slice A l.length c, .iface 65 (.pointer (some p))]) ∧ Hid (l.length ≤ c) ∧ Hid ((Kd.int .i32).C w' A l.length l) ∧ Hid (ErrV E w' (.iface 65 (.pointer (some p))) at_ n) ∧ Below w.heap.size w w' := by
  refine (utf_Decode_any s w hl hs).mono ?_
  rintro e w' ⟨lv, ev, rfl, hR, hE, hb⟩
  rw [hd] at hR hE
  obtain ⟨A, c, rfl, hc, hC⟩ := Kd.R_reads hR
  have hE' := hE
  rcases hE with ⟨h, _⟩ | ⟨_, _, b, rfl, _⟩
  · exact absurd h hn
  · exact ⟨A, c, _, rfl, hc, hC, hE', hb⟩

/-- Is, of whatever error value it is: true. -/
theorem is_any {E : Nat → Addr} (v : Value) (at_ code : Int) (w : World) (hs : Sents E w) (hv : ErrV E w v at_ code) :
    Calls Tryd.prog 13 #[v, .int .i64 at_, .int .i64 code] w fun e w' => e = .returned (.bool true) ∧ Below w.heap.size w w' := by
  rcases hv with ⟨rfl, rfl⟩ | ⟨h1, h2, b, rfl, h4, h5⟩
  · exact (is_none _ at_ w rfl).mono fun e w' ⟨he, hw⟩ => ⟨he, by subst hw; exact Below.refl _ _⟩
  · exact is_some b at_ code w hs h1 h2 h4 h5

theorem dec_euro : dec ⟨#[226, 130, 172]⟩ = ([8364], 0, 0) := by decide +kernel
theorem dec_cut : dec ⟨#[97, 226, 130]⟩ = ([], 1, 2) := by decide +kernel

set_option maxHeartbeats 2000000 in
theorem awake01 {E : Nat → Addr} (w : World) (hs : Sents E w) :
    Calls Tryd.prog 23 #[] w fun e w' => e = .returned (.bool true) ∧ Below w.heap.size w w' := by
  go_enter Tryd.func23, Tryd.ntmps23
  go_wp2_with fail
  refine (utf_Decode_ok ⟨#[226, 130, 172]⟩ [8364] _ (by decide) hs dec_euro).mono ?_
  rintro e w1 ⟨A, c, rfl, hc, hC, hb⟩
  go_wp2_with fail
  refine (utf_Decode_bad ⟨#[97, 226, 130]⟩ [] 1 2 _ (by decide) (hs.below hb) dec_cut (by decide)).mono ?_
  rintro e w2 ⟨A2, c2, p, rfl, hc2, hC2, hE, hb2⟩
  obtain ⟨ad, rfl, hcell⟩ := C_int_get (Kd.C_below hC.out hb2) 0 (by simp)
  have hB := Lib.hid (below_step hb hb2)
  clear hb hb2 hC hC2
  simp only [Addr.add, if_true, List.getD_cons_zero] at hcell
  go_wp2_with fail
  refine (is_any _ 1 2 _ (hs.below hB.out) hE.out).mono ?_
  rintro e w3 ⟨rfl, hb3⟩
  go_wp2
  go_ret
  exact ⟨rfl, below_step hB.out hb3⟩
end

section
open Go.RowKit Go.Proofs.YtkaepipnbgdoeaaDoorW.PrintWords Go.Proofs.YtkaepipnbgdoeaaDoorW.PrintMore PAll

theorem utf_Next_at {E : Nat → Addr} (s : ByteArray) (at_ r n c : Int) (w : World) (hl : s.size ≤ 140737488351232) (hs : Sents E w) (hn : nx s at_ = (r, n, c)) :
    Calls Tryd.prog 64 #[.string s, .int .i64 at_] w fun e w' => ∃ v, e = .returned (.tuple #[.int .i32 r, .int .i64 n, v]) ∧ Hid (ErrV E w' v at_ c) ∧ Below w.heap.size w w' := by
  refine (utf_Next_any s at_ w hl hs).mono ?_
  rintro e w' ⟨v, he, hv, hb⟩
  rw [hn] at he hv
  exact ⟨v, he, hv, hb⟩

end

section
open Go.RowKit Go.Proofs.YtkaepipnbgdoeaaDoorW.PrintWords Go.Proofs.YtkaepipnbgdoeaaDoorW.PrintMore PAll

theorem dcd_len (s : ByteArray) : ∀ (n : Nat) (at_ : Int) (acc : List Int), ((dcd s n at_ acc).1.length : Int) ≤ acc.length + n
  | 0, _, acc => by simp [dcd]
  | n + 1, at_, acc => by
    unfold dcd
    split
    · simp; omega
    · split
      · have := dcd_len s n (at_ + (nx s at_).2.1) (acc ++ [(nx s at_).1])
        simp at this ⊢
        omega
      · simp; omega
theorem dec_len (s : ByteArray) : (dec s).1.length ≤ s.size := by
  have := dcd_len s s.size 0 []
  unfold dec
  simp at this
  omega

theorem dcd_ok (s : ByteArray) : ∀ (n : Nat) (at_ : Int) (acc : List Int), (dcd s n at_ acc).2.2 = 0 → (dcd s n at_ acc).2.1 = 0
  | 0, _, _, _ => rfl
  | n + 1, at_, acc, h => by
    unfold dcd at h ⊢
    split
    · rfl
    · rename_i c; rw [if_neg c] at h
      split
      · rename_i c2; rw [if_pos c2] at h; exact dcd_ok s n _ _ h
      · rename_i c2; rw [if_neg c2] at h; exact absurd h c2
theorem dec_ok (s : ByteArray) (h : (dec s).2.2 = 0) : (dec s).2.1 = 0 := dcd_ok s _ _ _ h

end
end Go.Proofs.YtkaepipnbgdoeaaDoor
