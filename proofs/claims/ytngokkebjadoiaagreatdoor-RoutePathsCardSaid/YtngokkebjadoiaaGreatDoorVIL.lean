/- What the claim uses of the text IL. -/
import Derived.Test.YtngokkebjadoiaaGreatDoorRows
import Derived.Test.YtngokkebjadoiaaGreatDoorVII
import Derived.ProofKit
import Derived.LaidMore
import Derived.LaidHandle
import Derived.OpenShut
import Derived.Stop.Joined
import Derived.Stop.LaidErr
import Derived.Carry
import Derived.SliceStrings
import Derived.Deep.Slices
import Derived.SizedLaws
import Derived.Lib.LaidTab
set_option linter.unusedVariables false
set_option linter.unusedSimpArgs false
namespace Go.Proofs.YtngokkebjadoiaaGreatDoor
section
open Go.ChangeShapes Go.WideShapes Go.ChangeAt Go.RowKit

theorem own : ownKnob Tryz.prog.godebug = none := by kernel_rfl
theorem laidOut : laidOutB Tryz.prog = true := by kernel_rfl
theorem row_err : ∀ u, Tryz.prog.typeName? 3 u = some "*errors.errorString" → u = 194 :=
  fun u hu => typeName_ptr_named (nm := "errors.errorString") (tp := 194) (by kernel_rfl) (by kernel_rfl) (by decide) u hu
theorem cells_err : Tryz.prog.cellsOf 196 = 1 := by kernel_rfl
theorem cells_str : Tryz.prog.cellsOf 9 = 1 := by kernel_rfl
theorem sent_head {n : String} {text : List UInt8} {r : List (String × DataW Unit)} {W : World} {g : Nat}
    (h : laidMet Tryz.prog ((n, .iface "*errors.errorString" (.ptr (.agg [.lit (.string text)]))) :: r) W)
    (hg : Tryz.prog.globalNamed n = some g) (ht : (Tryz.prog.globals[g]?).map (·.type) = some 35) :
    (∃ a : Addr, W.cell? ⟨g, 0, none⟩ = some (.iface 194 (.pointer (some a)))) ∧ laidMet Tryz.prog r W := by
  obtain ⟨a, s, hv, _⟩ := laid_sentinel h hg ht Tryz.underlying35 row_err Tryz.underlying194 Tryz.underlying196 rfl rfl Tryz.underlying9 cells_err cells_str
  exact ⟨⟨a, by simpa using World.var?_cell hg hv 0⟩, h.tail⟩
end

section
open Go.ChangeShapes Go.WideShapes Go.ChangeAt Go.RowKit Go.WideMaps Go.WideElems
open Go.Proofs.YtngokkebjadoiaaGreatDoorW.PrintWords
theorem row_of {α : Type} [Inhabited α] {R : α → List Value → Prop} {sz : Nat} {w : World} {a : Addr} {n : Nat} (hn : n ≤ 9223372036854775807)
    (h : ∀ i, i < n → ∃ x : α, ∃ c : List Value, c.length = sz ∧ R x c ∧ ∀ k u, c[k]? = some u → w.cell? (a.add (i * sz + k)) = some u) :
    ∃ xs : List α, xs.length = n ∧ ReadsRow R sz w (some a) n xs := by
  obtain ⟨f, hf⟩ := Go.Deep.choose_lt h
  have hget : ∀ i x, ((List.range n).map f)[i]? = some x → i < n ∧ x = f i := by
    intro i x hx
    rw [List.getElem?_map, Option.map_eq_some_iff] at hx
    obtain ⟨j, hj, rfl⟩ := hx
    obtain ⟨hlt, rfl⟩ := List.getElem?_eq_some_iff.1 hj
    simp at hlt ⊢
    exact hlt
  refine ⟨(List.range n).map f, by simp, ⟨by simp, hn, fun _ => ⟨a, rfl, fun j p hp => ?_⟩⟩⟩
  obtain ⟨hj, rfl⟩ := hget j p hp
  exact hf j hj
theorem cells_i : Tryz.prog.cellsOf 3 = 1 := by kernel_rfl
theorem cells_b : Tryz.prog.cellsOf 4 = 1 := by kernel_rfl
theorem cells_u8 : Tryz.prog.cellsOf 5 = 1 := by kernel_rfl
theorem cells_u32 : Tryz.prog.cellsOf 25 = 1 := by kernel_rfl
theorem cells_arr : Tryz.prog.cellsOf 22 = 16 := by kernel_rfl
theorem cells_pre : Tryz.prog.cellsOf 24 = 18 := by kernel_rfl
theorem cells_pat : Tryz.prog.cellsOf 28 = 2 := by kernel_rfl
theorem cells_pc : Tryz.prog.cellsOf 49 = 2 := by kernel_rfl
theorem cells_pcs : Tryz.prog.cellsOf 26 = 1 := by kernel_rfl
theorem cells_qry : Tryz.prog.cellsOf 30 = 24 := by kernel_rfl

section
variable {H : Type} {enc : TypeId × Value → H} {W : World} {cs : List Value} {x : DataW H × List MemPlace} {n : Nat}
set_option maxRecDepth 100000 in
theorem trod_piece (h : DataW.trod enc Tryz.prog W 0 (fun _ => true) true n 49 cs = some x) : ∃ p : ByteArray × Bool, pk.K W p cs := by
  obtain ⟨xs, m, rfl, rfl, hl, hlen, hf⟩ := DataW.trod_struct Tryz.underlying49 h
  rw [cells_pc] at hl
  match xs, hlen, cs, hl with
  | [y0, y1], _, [c0, c1], _ =>
    have h0 := (show DataW.trod enc Tryz.prog W 0 (fun _ => true) true m 9 (List.take (Tryz.prog.cellsOf 9) (List.drop 0 [c0, c1])) = some y0 from hf 0 _ rfl)
    have h1 := (show DataW.trod enc Tryz.prog W 0 (fun _ => true) true m 4 (List.take (Tryz.prog.cellsOf 4) (List.drop 1 [c0, c1])) = some y1 from hf 1 _ rfl)
    simp only [cells_str, cells_b, List.drop, List.take] at h0 h1
    obtain ⟨s, e1, _⟩ := DataW.trod_string Tryz.underlying9 h0
    obtain ⟨b, e2, _⟩ := DataW.trod_bool Tryz.underlying4 h1
    simp only [List.cons.injEq, and_true] at e1 e2
    subst e1 e2
    exact ⟨(s, b), [.string s], [.bool b], rfl, rfl, rfl⟩
set_option maxRecDepth 100000 in
theorem trod_pieces (h : DataW.trod enc Tryz.prog W 0 (fun _ => true) true n 26 cs = some x) :
    ∃ (A : Option Addr) (c : Nat) (l : List (ByteArray × Bool)), cs = [.slice A l.length c] ∧ pk.C W A l.length l := by
  rcases DataW.trod_slice Tryz.underlying26 h with ⟨rfl, rfl⟩ | ⟨a, len, cap, elems, rest, m, rfl, rfl, rfl, _, hle, hcap, hel, hget, _, _⟩
  · exact ⟨none, 0, [], rfl, Kd.C_nil pk W⟩
  · rw [cells_pc] at hget
    obtain ⟨xs, hxs, hrow⟩ := row_of (R := pk.K W) (sz := 2) (w := W) (a := a) (n := len) (by unfold maxLen at hcap; omega) (by
      intro i hi
      have hi' : i < elems.length := by omega
      have h1 := hget i hi
      rw [List.getElem?_eq_getElem hi'] at h1
      obtain ⟨cs', h2, h3⟩ := Option.bind_eq_some_iff.1 h1
      obtain ⟨_, h4, h5⟩ := World.cells?_some h2
      obtain ⟨X, hX⟩ := trod_piece h3
      refine ⟨X, cs', h4, hX, fun k u hu => ?_⟩
      have hk : k < 2 := by rw [← h4]; exact (List.getElem?_eq_some_iff.1 hu).1
      rw [← Go.Deep.add_add, h5 k hk, hu])
    subst hxs
    exact ⟨some a, cap, xs, rfl, hrow⟩
set_option maxRecDepth 100000 in
theorem trod_arr (h : DataW.trod enc Tryz.prog W 0 (fun _ => true) true n 22 cs = some x) : ∃ f : Nat → Nat, (∀ i, i < 16 → f i < 256) ∧ cs = (arr f).toList := by
  obtain ⟨xs, m, rfl, rfl, hl, hlen, hf⟩ := DataW.trod_array Tryz.underlying22 h
  rw [cells_arr] at hl
  simp only [cells_u8] at hf
  have hc : ∀ i, i < 16 → ∃ k : Nat, k < 256 ∧ cs[i]? = some (.int .u8 k) := by
    intro i hi
    have h1 := hf i hi
    rw [List.getElem?_eq_getElem (by rw [hlen]; exact hi), Nat.mul_one] at h1
    obtain ⟨z, e1, _, hw⟩ := DataW.trod_int Tryz.underlying5 h1
    have hb := bounds_u8 hw
    refine ⟨z.toNat, by omega, ?_⟩
    have h2 := congrArg (·[0]?) e1
    simp only [List.getElem?_take, List.getElem?_drop, List.getElem?_cons_zero, Nat.lt_one_iff, if_true, Nat.add_zero] at h2
    rw [h2]
    congr 2
    omega
  obtain ⟨f, hf2⟩ := Go.Deep.choose_lt hc
  refine ⟨f, fun i hi => (hf2 i hi).1, ?_⟩
  apply List.ext_getElem?
  intro i
  by_cases hi : i < 16
  · rw [(hf2 i hi).2, Array.getElem?_toList, arr_get f i hi]
  · rw [List.getElem?_eq_none (by omega), List.getElem?_eq_none (by rw [Array.length_toList, arr_size]; omega)]
set_option maxRecDepth 100000 in
theorem trod_prefix (h : DataW.trod enc Tryz.prog W 0 (fun _ => true) true n 24 cs = some x) : ∃ p : PV, (∀ i, i < 16 → p.addr i < 256) ∧ cs = (preA p).toList := by
  obtain ⟨xs, m, rfl, rfl, hl, hlen, hf⟩ := DataW.trod_struct Tryz.underlying24 h
  rw [cells_pre] at hl
  match xs, hlen with
  | [y0, y1, y2], _ =>
    have h0 := (show DataW.trod enc Tryz.prog W 0 (fun _ => true) true m 4 (List.take (Tryz.prog.cellsOf 4) (List.drop 0 cs)) = some y0 from hf 0 _ rfl)
    have h1 := (show DataW.trod enc Tryz.prog W 0 (fun _ => true) true m 22 (List.take (Tryz.prog.cellsOf 22) (List.drop 1 cs)) = some y1 from hf 1 _ rfl)
    have h2 := (show DataW.trod enc Tryz.prog W 0 (fun _ => true) true m 3 (List.take (Tryz.prog.cellsOf 3) (List.drop 17 cs)) = some y2 from hf 2 _ rfl)
    simp only [cells_b, cells_arr, cells_i] at h0 h1 h2
    obtain ⟨b, e0, _⟩ := DataW.trod_bool Tryz.underlying4 h0
    obtain ⟨f, hf3, e1⟩ := trod_arr h1
    obtain ⟨z, e2, _⟩ := DataW.trod_int Tryz.underlying3 h2
    refine ⟨⟨b, f, z⟩, hf3, ?_⟩
    have e : cs = List.take 1 (List.drop 0 cs) ++ (List.take 16 (List.drop 1 cs) ++ List.take 1 (List.drop 17 cs)) := by
      match cs, hl with
      | [c0, c1, c2, c3, c4, c5, c6, c7, c8, c9, c10, c11, c12, c13, c14, c15, c16, c17], _ => rfl
    rw [e, e0, e1, e2]
    simp [preA, arr]
set_option maxRecDepth 100000 in
theorem trod_query (h : DataW.trod enc Tryz.prog W 0 (fun _ => true) true n 30 cs = some x) :
    ∃ (q : QV) (A : Option Addr) (c : Nat), cs = (qryA q A c).toList ∧ (∀ i, i < 16 → q.net.addr i < 256) ∧ (0 ≤ q.num ∧ q.num ≤ 4294967295) ∧ pk.C W A q.pieces.length q.pieces := by
  obtain ⟨xs, m, rfl, rfl, hl, hlen, hf⟩ := DataW.trod_struct Tryz.underlying30 h
  rw [cells_qry] at hl
  match xs, hlen with
  | [y0, y1, y2, y3, y4, y5], _ =>
    have h0 := (show DataW.trod enc Tryz.prog W 0 (fun _ => true) true m 3 (List.take (Tryz.prog.cellsOf 3) (List.drop 0 cs)) = some y0 from hf 0 _ rfl)
    have h1 := (show DataW.trod enc Tryz.prog W 0 (fun _ => true) true m 3 (List.take (Tryz.prog.cellsOf 3) (List.drop 1 cs)) = some y1 from hf 1 _ rfl)
    have h2 := (show DataW.trod enc Tryz.prog W 0 (fun _ => true) true m 9 (List.take (Tryz.prog.cellsOf 9) (List.drop 2 cs)) = some y2 from hf 2 _ rfl)
    have h3 := (show DataW.trod enc Tryz.prog W 0 (fun _ => true) true m 24 (List.take (Tryz.prog.cellsOf 24) (List.drop 3 cs)) = some y3 from hf 3 _ rfl)
    have h4 := (show DataW.trod enc Tryz.prog W 0 (fun _ => true) true m 25 (List.take (Tryz.prog.cellsOf 25) (List.drop 21 cs)) = some y4 from hf 4 _ rfl)
    have h5 := (show DataW.trod enc Tryz.prog W 0 (fun _ => true) true m 28 (List.take (Tryz.prog.cellsOf 28) (List.drop 22 cs)) = some y5 from hf 5 _ rfl)
    simp only [cells_i, cells_str, cells_pre, cells_u32, cells_pat] at h0 h1 h2 h3 h4 h5
    obtain ⟨k, e0, _⟩ := DataW.trod_int Tryz.underlying3 h0
    obtain ⟨b, e1, _⟩ := DataW.trod_int Tryz.underlying3 h1
    obtain ⟨s, e2, _⟩ := DataW.trod_string Tryz.underlying9 h2
    obtain ⟨p, hp, e3⟩ := trod_prefix h3
    obtain ⟨u, e4, _, hw⟩ := DataW.trod_int Tryz.underlying25 h4
    obtain ⟨wh, A, c, l, e5, hC⟩ : ∃ wh : Bool, ∃ (A : Option Addr) (c : Nat) (l : List (ByteArray × Bool)), List.take 2 (List.drop 22 cs) = [.bool wh, .slice A l.length c] ∧ pk.C W A l.length l := by
      obtain ⟨zs, m2, rfl, rfl, hl2, hlen2, hg⟩ := DataW.trod_struct Tryz.underlying28 h5
      rw [cells_pat] at hl2
      match zs, hlen2, List.take 2 (List.drop 22 cs), hl2, hg with
      | [z0, z1], _, [d0, d1], _, hg =>
        have g0 := (show DataW.trod enc Tryz.prog W 0 (fun _ => true) true m2 4 (List.take (Tryz.prog.cellsOf 4) (List.drop 0 [d0, d1])) = some z0 from hg 0 _ rfl)
        have g1 := (show DataW.trod enc Tryz.prog W 0 (fun _ => true) true m2 26 (List.take (Tryz.prog.cellsOf 26) (List.drop 1 [d0, d1])) = some z1 from hg 1 _ rfl)
        simp only [cells_b, cells_pcs, List.drop, List.take] at g0 g1
        obtain ⟨wh, f0, _⟩ := DataW.trod_bool Tryz.underlying4 g0
        obtain ⟨A, c, l, f1, hC⟩ := trod_pieces g1
        simp only [List.cons.injEq, and_true] at f0 f1
        subst f0 f1
        exact ⟨wh, A, c, l, rfl, hC⟩
    refine ⟨⟨k, b, s, p, u, wh, l⟩, A, c, ?_, hp, bounds_u32 hw, hC⟩
    have e : cs = List.take 1 (List.drop 0 cs) ++ (List.take 1 (List.drop 1 cs) ++ (List.take 1 (List.drop 2 cs) ++ (List.take 18 (List.drop 3 cs) ++ (List.take 1 (List.drop 21 cs) ++ List.take 2 (List.drop 22 cs))))) := by
      match cs, hl with
      | [c0, c1, c2, c3, c4, c5, c6, c7, c8, c9, c10, c11, c12, c13, c14, c15, c16, c17, c18, c19, c20, c21, c22, c23], _ => rfl
    rw [e, e0, e1, e2, e3, e4, e5]
    simp [qryA, qryL]
end
set_option maxRecDepth 100000 in
/-- A query as an argument. -/
theorem open_query {H : Type} {enc : TypeId × Value → H} {W : World} {v : Value} {d : DataW H} {ps : List MemPlace} {r : Reach} {base : Nat} (hv : Value.okWide Tryz.prog W r base 30 v) (h : DataW.Trod enc Tryz.prog W 0 (fun _ => true) true 30 v d ps) :
    ∃ (q : QV) (A : Option Addr) (c : Nat), v = .agg (qryA q A c) ∧ (∀ i, i < 16 → q.net.addr i < 256) ∧ (0 ≤ q.num ∧ q.num ≤ 4294967295) ∧ pk.C W A q.pieces.length q.pieces := by
  obtain ⟨cs, rfl, _⟩ := okWide_struct Tryz.underlying30 hv
  obtain ⟨fuel, hf⟩ := h
  obtain ⟨q, A, c, e, h1, h2, h3⟩ := trod_query hf
  refine ⟨q, A, c, ?_, h1, h2, h3⟩
  congr 1
  apply Array.ext'
  exact e
end
end Go.Proofs.YtngokkebjadoiaaGreatDoor

