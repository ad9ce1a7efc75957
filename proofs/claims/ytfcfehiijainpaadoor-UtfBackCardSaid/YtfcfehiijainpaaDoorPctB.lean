/- pct.Unescape by its contract. -/
import Derived.Test.YtfcfehiijainpaaDoorPctA
import Derived.Test.YtfcfehiijainpaaDoorBuild
import Derived.Test.YtfcfehiijainpaaDoorBytes
set_option linter.unusedVariables false
set_option linter.unusedSimpArgs false
namespace Go.Proofs.YtfcfehiijainpaaDoor
open Go.RowKit Go.PlainAid

/-- A builder of the call's own (the block b) holds these bytes. -/
def BuildSt (B b : Nat) (bs ps : List Int) (w : World) : Prop := (∀ x ∈ bs, 0 ≤ x ∧ x ≤ 255) ∧ Lib.IsBuilder 80 5 B b (bs.map (Value.int .u8)) w

theorem byteCells_nums (bs : List Int) (h : ∀ x ∈ bs, 0 ≤ x ∧ x ≤ 255) : Lib.byteCells (bs.map fun n => UInt8.ofNat n.toNat) = bs.map (Value.int .u8) := by
  unfold Lib.byteCells
  rw [List.map_map]
  apply List.map_congr_left
  intro x hx
  have := h x hx
  simp
  omega

theorem build_text {b : Nat} {bs : List Int} {w0 w : World} (h : ∀ x ∈ bs, 0 ≤ x ∧ x ≤ 255) (hb : Lib.IsBuilder 80 5 w0.heap.size b (bs.map (Value.int .u8)) w) (hw : Below w0.heap.size w0 w) :
    Calls Tryd.prog 53 #[.pointer (some ⟨b, 0, none⟩)] w fun e w' => e = .returned (.string (strOfNums bs)) ∧ Below w0.heap.size w0 w' := by
  refine (Builder_String_any w0.heap.size b (bs.map fun n => UInt8.ofNat n.toNat) w (by rw [byteCells_nums bs h]; exact hb) hw.size).mono ?_
  rintro e w' ⟨rfl, h2⟩
  exact ⟨rfl, hw.trans h2⟩

theorem Unescape1_any (b0 : Nat) (w0 : World) : ∀ (bs ps : List Int) (b at_ : Int) (w : World), 0 ≤ b → b ≤ 255 → (bs.length : Int) ≤ 1000000 → BuildSt w0.heap.size b0 bs ps w → Below w0.heap.size w0 w →
    Calls Tryd.prog 51 #[.int .u8 b, .int .i64 at_, .pointer (some ⟨b0, 0, none⟩)] w fun e w' => e = .returned (.tuple #[]) ∧ BuildSt w0.heap.size b0 (bs ++ [b]) (ps ++ [at_]) w' ∧ Below w0.heap.size w0 w' := by
  intro bs ps b at_ w h0 h1 hl ⟨hr, hst⟩ hb
  have hwb := Builder_WriteByte w0.heap.size b0 (bs.map (Value.int .u8)) b w hst (by simp; omega) hb.size
  have HB := Lib.hid hb
  have HR := Lib.hid hr
  clear hr hst hb
  go_enter Tryd.func51, Tryd.ntmps51
  go_wp2_with fail
  refine hwb.mono ?_
  rintro e w' ⟨rfl, hat, hb2⟩
  go_wp2_with fail
  go_end0
  refine ⟨rfl, ⟨?_, ?_⟩, HB.out.trans hb2⟩
  · intro x hx
    rcases List.mem_append.1 hx with hx | hx
    · exact HR.out x hx
    · rw [List.mem_singleton.1 hx]; exact ⟨h0, h1⟩
  · rw [List.map_append]; exact .inr hat

set_option maxHeartbeats 1000000 in
theorem pct_Unescape_any {E : Nat → Addr} (s : ByteArray) (w : World) (hl : s.size ≤ 1000000) (hs : Sents E w) :
    Calls Tryd.prog 20 #[.string s] w fun e w' => ∃ v, e = .returned (.tuple #[.string (strOfNums (ue s).1), v]) ∧ ErrV E w' v (ue s).2.2.1 (ue s).2.2.2 ∧ Below w.heap.size w w' := by
  have hst0 : BuildSt w.heap.size w.heap.size [] [] (w.alloc (.cells #[.pointer none, .slice none 0 0] 80)) := ⟨by simp, Lib.fresh_isBuilder _ _ w⟩
  have heach := each_Unescape (E := E) s (BuildSt w.heap.size w.heap.size) (.pointer (some ⟨w.heap.size, 0, none⟩)) w (w.alloc (.cells #[.pointer none, .slice none 0 0] 80)) hl hs ((Below.refl _ w).alloc (Nat.le_refl _) _) hst0 (fun _ _ _ _ h => h) (Unescape1_any w.heap.size w)
  have HE := Lib.hid heach
  clear heach hst0
  go_enter Tryd.func20, Tryd.ntmps20
  go_wp2_with fail
  refine HE.out.mono ?_
  rintro e w' ⟨v, rfl, hE, hS, hb⟩
  have HS := Lib.hid hS
  have HB := Lib.hid hb
  have HEV := Lib.hid hE
  clear hS hb
  rcases hE with ⟨h0, rfl⟩ | ⟨h1, h2, b, rfl, _⟩
  · obtain ⟨hr, hbd⟩ := HS.out h0
    have HT := Lib.hid (build_text (w0 := w) hr hbd HB.out)
    have HEV2 : ∀ w2, Hid (ErrV E w2 .nilIface (ue s).2.2.1 (ue s).2.2.2) := fun _ => .inl ⟨h0, rfl⟩
    clear hr hbd h0 HEV
    go_wp2_with fail
    refine HT.out.mono ?_
    rintro e w2 ⟨rfl, hb2⟩
    go_wp2
    go_ret2
    exact ⟨_, rfl, (HEV2 _).out, hb2⟩
  · have hnil : Hid (strOfNums (ue s).1 = ⟨#[]⟩) := by
      have := (ue_bad s (by omega)).1
      rw [this]; rfl
    clear h1 h2
    go_wp2
    go_ret2
    exact ⟨_, by rw [hnil.out]; rfl, HEV.out, HB.out⟩
end Go.Proofs.YtfcfehiijainpaaDoor
