/- What the claim uses of the text L7. -/
import Derived.Test.YtangheahliekeaaGreatDoorVL6
set_option linter.unusedVariables false
set_option linter.unusedSimpArgs false
namespace Go.Proofs.YtangheahliekeaaGreatDoor
open Go.RowKit Go.PlainAid
open Go.Proofs.YtangheahliekeaaGreatDoorW.PrintWords hiding bt
open Go.Proofs.YtangheahliekeaaGreatDoorW.PrintMore

theorem info_6 : (Tryz.prog.info? 70).map (·.size) = some 6 := by kernel_rfl
/-- A database of one number. -/
def dbA (ab : Nat) : Array Value := #[.slice none 0 0, .slice none 0 0, .slice none 0 0, .slice none 0 0, .slice (some ⟨ab, 0, none⟩) 1 1]
def szA (x : Int) : Array Value := #[.int .i64 x, .int .i64 0, .int .i64 0, .int .i64 0, .int .i64 0, .int .i64 1]
def szA' (x : Int) : Array Value := #[.int .i64 x, .int .i64 0, .int .i64 0, .int .i64 0, .int .i64 0, .int .i64 0]
section
variable {ops : Array Oper} {rest : List Oper} {a : Act} {w : World} {Q : Exit → Act → World → Prop} {dst : Option Tmp} {x y : Operand} {ty : TypeId} {pos : String} {after : Array Edge} {b : Nat}
theorem wpl_put_sz {old cs : Array Value} (H : Row 70 b old w) (ho : old.size = 6) (hx : a.eval x = .pointer (some ⟨b, 0, none⟩)) (hy : a.eval y = .agg cs) (hs : cs.size = 6) (h1 : cs.all (·.oneCell') = true) (h : ∀ W, Row 70 b cs W → Wrote b w W → wpList Tryz.prog ops Q rest (a.put dst undef) W) :
    wpList Tryz.prog ops Q ({ dst := dst, op := .store 70 x y, type := ty, pos := pos, after := after, guard := none } :: rest) a w := wpl_put info_6 H ho hx hy hs h1 h
end
set_option maxHeartbeats 4000000 in
set_option maxRecDepth 100000 in
theorem Size_awake (ab : Nat) (w : World) : Calls Tryz.prog 15 #[.agg (dbA ab)] w fun e w' => e = .returned (.agg (szA 1)) ∧ Hid (Below w.heap.size w w') := by
  change Calls _ _ #[.agg #[.slice none 0 0, .slice none 0 0, .slice none 0 0, .slice none 0 0, .slice (some ⟨ab, 0, none⟩) 1 1]] _ _
  go_enter Tryz.func15, Tryz.ntmps15
  go_wp2_with fail
  go_loopg [24] 5 (fun g v24 wi => ∃ k : Nat, v24 = .int .i64 k ∧ Hid (k + g = 5) ∧ Hid (Row 70 (w.heap.size + 1) (szA' 0) wi) ∧ Hid (Row 70 (w.heap.size + 1 + 1) (szA (if k = 5 then 1 else 0)) wi) ∧ Hid (Below w.heap.size w wi))
  case atStart => exact ⟨0, rfl, rfl, (Row.new _ _ _ (by simp)).old _, Row.new _ _ _ (by simp), (((Below.refl _ _).alloc (Nat.le_refl _) _).alloc (by simp) _).alloc (by simp; omega) _⟩
  case round =>
    obtain ⟨k, rfl, HK, HR, HZ, HB⟩ := hrel
    have hk := HK.out
    by_cases hk5 : k = 5
    · subst hk5
      have c0 : wr.cell? ⟨w.heap.size + 1 + 1, 0, none⟩ = some (.int .i64 1) := HZ.out.cell 0 _ rfl
      have c1 : wr.cell? ⟨w.heap.size + 1 + 1, 1, none⟩ = some (.int .i64 0) := HZ.out.cell 1 _ rfl
      have c2 : wr.cell? ⟨w.heap.size + 1 + 1, 2, none⟩ = some (.int .i64 0) := HZ.out.cell 2 _ rfl
      have c3 : wr.cell? ⟨w.heap.size + 1 + 1, 3, none⟩ = some (.int .i64 0) := HZ.out.cell 3 _ rfl
      have c4 : wr.cell? ⟨w.heap.size + 1 + 1, 4, none⟩ = some (.int .i64 0) := HZ.out.cell 4 _ rfl
      have c5 : wr.cell? ⟨w.heap.size + 1 + 1, 5, none⟩ = some (.int .i64 1) := HZ.out.cell 5 _ rfl
      go_wp2_with ((with_reducible refine wpl_put_sz (cs := ?_) HR.out rfl ?hx ?hy ?hs ?hz ?_); (case hx => rfl); (case hy => rfl); (case hs => rfl); (case hz => (simp [Value.oneCell']; done)); intro w4 hr4 hw4)
      (try simp only [Exit.inBlock, Exit.then])
      refine bodyPost_ret (v := .agg (szA 1)) (results_cell_row rfl _ _ _ 70 _ (0, 0) _ rfl hr4 Tryz.underlying70 rfl info_6) rfl ?_
      exact ⟨rfl, hw4.below HB.out (by omega)⟩
    · obtain ⟨k1, rfl⟩ : ∃ k1, gk = k1 + 1 := ⟨gk - 1, by omega⟩
      rw [if_neg hk5] at HZ
      by_cases h0 : k = 0
      · subst h0
        have c0 : wr.cell? ⟨w.heap.size + 1 + 1, 0, none⟩ = some (.int .i64 0) := HZ.out.cell 0 _ rfl
        have c1 : wr.cell? ⟨w.heap.size + 1 + 1, 1, none⟩ = some (.int .i64 0) := HZ.out.cell 1 _ rfl
        have f0 := HZ.out.frozen 0
        go_wp2_with fail
        go_roundg k1
        case measure => omega
        case rel => exact ⟨1, rfl, by show _ = _; omega, HR.out.far (by omega) _, Row.setCell HZ.out 0 _, HB.out.setCell (by simp; omega) _⟩
      by_cases h1 : k = 1
      · subst h1
        have c0 : wr.cell? ⟨w.heap.size + 1 + 1, 0, none⟩ = some (.int .i64 0) := HZ.out.cell 0 _ rfl
        have c2 : wr.cell? ⟨w.heap.size + 1 + 1, 2, none⟩ = some (.int .i64 0) := HZ.out.cell 2 _ rfl
        have f0 := HZ.out.frozen 0
        go_wp2_with fail
        go_roundg k1
        case measure => omega
        case rel => exact ⟨2, rfl, by show _ = _; omega, HR.out.far (by omega) _, Row.setCell HZ.out 0 _, HB.out.setCell (by simp; omega) _⟩
      by_cases h2 : k = 2
      · subst h2
        have c0 : wr.cell? ⟨w.heap.size + 1 + 1, 0, none⟩ = some (.int .i64 0) := HZ.out.cell 0 _ rfl
        have c3 : wr.cell? ⟨w.heap.size + 1 + 1, 3, none⟩ = some (.int .i64 0) := HZ.out.cell 3 _ rfl
        have f0 := HZ.out.frozen 0
        go_wp2_with fail
        go_roundg k1
        case measure => omega
        case rel => exact ⟨3, rfl, by show _ = _; omega, HR.out.far (by omega) _, Row.setCell HZ.out 0 _, HB.out.setCell (by simp; omega) _⟩
      by_cases h3 : k = 3
      · subst h3
        have c0 : wr.cell? ⟨w.heap.size + 1 + 1, 0, none⟩ = some (.int .i64 0) := HZ.out.cell 0 _ rfl
        have c4 : wr.cell? ⟨w.heap.size + 1 + 1, 4, none⟩ = some (.int .i64 0) := HZ.out.cell 4 _ rfl
        have f0 := HZ.out.frozen 0
        go_wp2_with fail
        go_roundg k1
        case measure => omega
        case rel => exact ⟨4, rfl, by show _ = _; omega, HR.out.far (by omega) _, Row.setCell HZ.out 0 _, HB.out.setCell (by simp; omega) _⟩
      by_cases h4 : k = 4
      · subst h4
        have c0 : wr.cell? ⟨w.heap.size + 1 + 1, 0, none⟩ = some (.int .i64 0) := HZ.out.cell 0 _ rfl
        have c5 : wr.cell? ⟨w.heap.size + 1 + 1, 5, none⟩ = some (.int .i64 1) := HZ.out.cell 5 _ rfl
        have f0 := HZ.out.frozen 0
        go_wp2_with fail
        go_roundg k1
        case measure => omega
        case rel => exact ⟨5, rfl, by show _ = _; omega, HR.out.far (by omega) _, Row.setCell HZ.out 0 _, HB.out.setCell (by simp; omega) _⟩
      omega
end Go.Proofs.YtangheahliekeaaGreatDoor

