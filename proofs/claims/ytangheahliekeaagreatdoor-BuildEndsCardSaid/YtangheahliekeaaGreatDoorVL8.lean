/- What the claim uses of the text L8. -/
import Derived.Test.YtangheahliekeaaGreatDoorVL7
set_option linter.unusedVariables false
set_option linter.unusedSimpArgs false
namespace Go.Proofs.YtangheahliekeaaGreatDoor
open Go.RowKit Go.PlainAid
open Go.Proofs.YtangheahliekeaaGreatDoorW.PrintWords hiding bt
open Go.Proofs.YtangheahliekeaaGreatDoorW.PrintMore

/-- Tables with nothing in them. -/
def tabA : Array Value := #[.slice none 0 0, .slice none 0 0, .slice none 0 0, .slice none 0 0, .slice none 0 0, .slice none 0 0, .slice none 0 0, .slice none 0 0, .slice none 0 0, .slice none 0 0, .slice none 0 0, .slice none 0 0, .slice none 0 0, .slice none 0 0, .slice none 0 0]
theorem info_db : (Tryz.prog.info? 62).map (·.size) = some 5 := by kernel_rfl
theorem info_au : (Tryz.prog.info? 55).map (·.size) = some 7 := by kernel_rfl
section
variable {ops : Array Oper} {rest : List Oper} {a : Act} {w : World} {Q : Exit → Act → World → Prop} {dst : Option Tmp} {x y : Operand} {ty : TypeId} {pos : String} {after : Array Edge} {b ab : Nat}
theorem wpl_load_tabA (H : Row 45 b tabA w) (hx : a.eval x = .pointer (some ⟨b, 0, none⟩)) (h : wpList Tryz.prog ops Q rest (a.put dst (.agg tabA)) w) :
    wpList Tryz.prog ops Q ({ dst := dst, op := .load 45 x, type := ty, pos := pos, after := after, guard := none } :: rest) a w :=
  wpList_load_row rfl 45 x rfl b hx 45 _ (0, 0) _ H Tryz.underlying45 rfl info_tab h
theorem wpl_load_auA (H : Row 55 b auA w) (hx : a.eval x = .pointer (some ⟨b, 0, none⟩)) (h : wpList Tryz.prog ops Q rest (a.put dst (.agg auA)) w) :
    wpList Tryz.prog ops Q ({ dst := dst, op := .load 55 x, type := ty, pos := pos, after := after, guard := none } :: rest) a w :=
  wpList_load_row rfl 55 x rfl b hx 55 _ (0, 0) _ H Tryz.underlying55 rfl info_au h
theorem wpl_load_dbG {o : Oper} (H : Row 62 b (dbA ab) w) (hw : Region.wanted o (yielded ops a.tmps) = true) (ho : o.op = .load 62 x) (hx : a.eval x = .pointer (some ⟨b, 0, none⟩)) (h : wpList Tryz.prog ops Q rest (a.put o.dst (.agg (dbA ab))) w) : wpList Tryz.prog ops Q (o :: rest) a w := by
  refine wpList_step fun K' hK' => ?_
  rw [if_pos hw]
  exact wp_load_row 62 x ho b hx 62 _ (0, 0) _ H Tryz.underlying62 rfl info_db (hK' _ _ h)
end
theorem sz_at (W : World) : Sem.run Tryz.prog (Instr.index 70 (.agg (szA 1)) (.int .i64 5)) W = .ok (.int .i64 1) W := by kernel_rfl

theorem all4 {v : Value} (h : v.oneCell' = true) : (#[Value.int .i64 6, .string ⟨#[]⟩, .slice none 0 0, v].all (·.oneCell')) = true := by
  have h1 : (Value.int .i64 6).oneCell' = true := rfl
  have h2 : (Value.string ⟨#[]⟩).oneCell' = true := rfl
  have h3 : (Value.slice none 0 0).oneCell' = true := rfl
  simp [h, h1, h2, h3]
/-- Where Record's walk stands. -/
structure Sr (E : Nat → Addr) (w0 : World) (B ab : Nat) (w : World) : Prop where
  tab : Row 45 B tabA w
  db : Row 62 (B + 1) (dbA ab) w
  rs : Row 34 (B + 1 + 1) (leafA 0 ⟨#[]⟩) w
  au : Row 55 ab auA w
  ges : Ges E w
  caps : Caps w
  bel : Below B w0 w
theorem Sr.step {E : Nat → Addr} {w0 : World} {B ab : Nat} {w w' : World} (h : Sr E w0 B ab w) (hb : Below w.heap.size w w') : Sr E w0 B ab w' :=
  ⟨h.tab.below hb, h.db.below hb, h.rs.below hb, h.au.below hb, h.ges.below hb, h.caps.below hb, h.bel.trans (hb.mono (by have := h.tab.lt; omega))⟩

set_option maxHeartbeats 8000000 in
set_option maxRecDepth 100000 in
theorem Record_awake {E : Nat → Addr} (ab : Nat) (w : World) (hg : Ges E w) (hc : Caps w) (hau : Row 55 ab auA w) (base at_ : ByteArray) (hbs : base.size ≤ 1000) (hat : at_ = base ++ (⟨#[97, 117, 116, 110, 117, 109, 47]⟩ ++ strOfNums (digs 10 q6.num.toNat))) :
    Calls Tryz.prog 9 #[.agg tabA, .string base, .agg (dbA ab), .int .i64 5, .int .i64 0] w fun e w' => ∃ v1, e = .returned (.agg #[.int .i64 6, .string ⟨#[]⟩, .slice none 0 0, v1]) ∧ Hid ((jd 4).K w' ⟨6, ⟨#[]⟩, [], [(⟨#[111, 98, 106, 101, 99, 116, 67, 108, 97, 115, 115, 78, 97, 109, 101]⟩, ⟨4, ⟨#[97, 117, 116, 110, 117, 109]⟩, [], []⟩)] ++ [(⟨#[104, 97, 110, 100, 108, 101]⟩, ⟨4, ⟨#[65]⟩, [], []⟩), (⟨#[115, 116, 97, 114, 116, 65, 117, 116, 110, 117, 109]⟩, ⟨3, ⟨#[49]⟩, [], []⟩), (⟨#[101, 110, 100, 65, 117, 116, 110, 117, 109]⟩, ⟨3, ⟨#[53]⟩, [], []⟩)] ++ [(⟨#[108, 105, 110, 107, 115]⟩, ⟨5, ⟨#[]⟩, [⟨6, ⟨#[]⟩, [], lnk at_⟩], []⟩)]⟩ [.int .i64 6, .string ⟨#[]⟩, .slice none 0 0, v1]) ∧ Hid (Below w.heap.size w w') := by
  have HS : Hid (Sr E w w.heap.size ab (((w.alloc (.cells tabA 45)).alloc (.cells (dbA ab) 62)).alloc (.cells (leafA 0 ⟨#[]⟩) 34))) := by
    have hb : Below w.heap.size w (((w.alloc (.cells tabA 45)).alloc (.cells (dbA ab) 62)).alloc (.cells (leafA 0 ⟨#[]⟩) 34)) := (((Below.refl _ _).alloc (Nat.le_refl _) _).alloc (by simp) _).alloc (by simp; omega) _
    exact ⟨((Row.new w _ _ rfl).old _).old _, (Row.new _ _ _ (by simp)).old _, Row.new _ _ _ (by simp), hau.below hb, hg.below hb, hc.below hb, hb⟩
  have HBS := Lib.hid hbs
  have HAT := Lib.hid hat
  clear hg hc hau hbs hat
  go_enter Tryz.func9, Tryz.ntmps9
  go_upto_region 1 with (fail)
  change Code.wp _ _ _ _ (((w.alloc (.cells tabA 45)).alloc (.cells (dbA ab) 62)).alloc (.cells (leafA 0 ⟨#[]⟩) 34))
  generalize ((w.alloc (.cells tabA 45)).alloc (.cells (dbA ab) 62)).alloc (.cells (leafA 0 ⟨#[]⟩) 34) = w0 at *
  have HGC : Hid (Ges E w0 ∧ Caps w0) := ⟨HS.out.ges, HS.out.caps⟩
  have HSl : Hid (w.heap.size + 1 + 1 < w0.heap.size) := HS.out.rs.lt
  have HR0 : Hid (Row 34 (w.heap.size + 1 + 1) (leafA 0 ⟨#[]⟩) w0) := HS.out.rs
  have HBw : Hid (Below w.heap.size w w0) := HS.out.bel
  go_upto_region 2 with ((with_reducible refine wpl_load_tabA HS.out.tab ?hx ?_); (case hx => rfl))
  obtain ⟨w1, hw1⟩ : ∃ w1, w1 = w0.alloc (.cells (buA base (.slice none 0 0)) 69) := ⟨_, rfl⟩
  have HU : Hid (Bu 3 w0.heap.size w1.heap.size w1.heap.size w0.heap.size base [] (.slice none 0 0) w1) := ⟨by rw [hw1]; exact Row.new w0 _ _ rfl, Kd.R_nil _ _ _ _ _, Nat.le_refl _, by rw [hw1]; simp, Nat.le_refl _, Nat.le_refl _⟩
  have HS1 : Hid (Sr E w w.heap.size ab w1) := HS.out.step (by rw [hw1]; exact (Below.refl _ _).alloc (Nat.le_refl _) _)
  have HBb : Hid (Below w0.heap.size w0 w1) := by rw [hw1]; exact (Below.refl _ _).alloc (Nat.le_refl _) _
  change Code.wp _ _ _ _ (w0.alloc (.cells (buA base (.slice none 0 0)) 69))
  rw [← hw1]
  clear hw1 HS
  have sz := sz_at
  go_upto_region 12 with (first | ((with_reducible refine wpl_load_dbG HS1.out.db rfl rfl ?hx ?_); (case hx => rfl)) | (go_at_call 15; refine (Size_awake ab _).mono ?_; rintro e w2 ⟨rfl, hb2⟩))
  have HS2 := Lib.hid (HS1.out.step hb2.out)
  have HU2 := Lib.hid (HU.out.below hb2.out)
  have HB2 := Lib.hid (below_then HBb.out HBb.out.size hb2.out)
  have HL0 : Hid (w.heap.size + 1 + 1 < w0.heap.size) := HSl.out
  have c4 : w2.cell? ⟨w.heap.size + 1, 4, none⟩ = some (.slice (some ⟨ab, 0, none⟩) 1 1) := HS2.out.db.cell 4 _ rfl
  clear hb2 HS1 HU HBb sz
  go_wp2_with (first | ((with_reducible refine wpl_load_auA HS2.out.au ?hx ?_); (case hx => rfl)) | (go_at_call 20; refine (autnum_awake (E := E) w0 w2 HGC.out.1 HGC.out.2 HU2.out HB2.out HBS.out at_ HAT.out).mono ?_; rintro e w3 ⟨v1, rfl, HM3, hb3⟩; have HR3 : Hid (Row 34 (w.heap.size + 1 + 1) (leafA 0 ⟨#[]⟩) w3) := (hb3.out.block _ HL0.out).trans HR0.out; have HB3 : Hid (Below w.heap.size w w3) := HBw.out.trans (hb3.out.mono (by have := HL0.out; omega)); have h1v : v1.oneCell' = true := (jd 4).K_one ((jd 4).K_of_M HM3.out) v1 (by simp); clear hb3 HS2 HU2 HB2 c4) | ((with_reducible refine wpl_put_val (cs := ?_) HR3.out rfl ?hx ?hy ?hs ?hz ?_); (case hx => rfl); (case hy => rfl); (case hs => rfl); (case hz => (exact all4 h1v)); intro w4 hr4 hw4))
  (try simp only [Exit.inBlock, Exit.then])
  have hM4 := (jd 4).M_move (w1 := w4) (fun k hk => hw4.rest k (by have := HL0.out; omega)) HM3.out
  refine bodyPost_ret (results_val rfl _ _ _ _ rfl hr4 rfl) rfl ?_
  exact ⟨_, rfl, (jd 4).K_of_M hM4, hw4.below HB3.out (by omega)⟩
end Go.Proofs.YtangheahliekeaaGreatDoor

