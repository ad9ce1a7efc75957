/- What the claim uses of the text Q1. -/
import Derived.Test.YtpdpgppaoipnlaaDoorULift
import Derived.Test.YtpdpgppaoipnlaaDoorUJ1
import Derived.Deep.Slices
import Derived.SizedLaws
set_option linter.unusedVariables false
set_option linter.unusedSimpArgs false
namespace Go.Proofs.YtpdpgppaoipnlaaDoor
open Go.ChangeShapes Go.WideShapes Go.ChangeAt Go.RowKit Go.WideMaps Go.WideElems
open Go.Proofs.YtpdpgppaoipnlaaDoorW.PrintWords

instance : Inhabited JV := ⟨jz⟩
mutual
/-- Every text, and every name, is of at most so many bytes. -/
def szV (B : Nat) : JV → Prop
  | ⟨_, t, l, m⟩ => t.size ≤ B ∧ szL B l ∧ szM B m
def szL (B : Nat) : List JV → Prop
  | [] => True
  | x :: l => szV B x ∧ szL B l
def szM (B : Nat) : List (ByteArray × JV) → Prop
  | [] => True
  | (n, x) :: l => n.size ≤ B ∧ szV B x ∧ szM B l
end
theorem szL_of {B : Nat} : ∀ {l : List JV}, (∀ x ∈ l, szV B x) → szL B l
  | [], _ => trivial
  | x :: l, h => ⟨h x (by simp), szL_of fun y hy => h y (by simp [hy])⟩
theorem szM_of {B : Nat} : ∀ {l : List (ByteArray × JV)}, (∀ p ∈ l, p.1.size ≤ B ∧ szV B p.2) → szM B l
  | [], _ => trivial
  | (n, x) :: l, h => ⟨(h (n, x) (by simp)).1, (h (n, x) (by simp)).2, szM_of fun y hy => h y (by simp [hy])⟩
theorem szL_at {B : Nat} : ∀ {l : List JV}, szL B l → ∀ x ∈ l, szV B x
  | [], _, _, h => absurd h (by simp)
  | y :: l, hz, x, h => by
    rcases List.mem_cons.1 h with rfl | h
    · exact hz.1
    · exact szL_at hz.2 x h
theorem szM_at {B : Nat} : ∀ {l : List (ByteArray × JV)}, szM B l → ∀ p ∈ l, p.1.size ≤ B ∧ szV B p.2
  | [], _, _, h => absurd h (by simp)
  | (n, y) :: l, hz, p, h => by
    rcases List.mem_cons.1 h with rfl | h
    · exact ⟨hz.1, hz.2.1⟩
    · exact szM_at hz.2.2 p h

theorem mem_weightsAll {H : Type} {P : Program} {e : TypeId} : ∀ {l : List (DataW H)} {d : DataW H}, d ∈ l → ∀ b ∈ d.weights P e, b ∈ DataW.weightsAll P e l
  | [], _, h, _, _ => absurd h (by simp)
  | y :: l, d, h, b, hb => by
    rw [DataW.weightsAll]
    rcases List.mem_cons.1 h with rfl | h
    · exact List.mem_append.2 (.inl hb)
    · exact List.mem_append.2 (.inr (mem_weightsAll h b hb))

/-- A row that is read: from what each element's cells read as. -/
theorem row_of {α : Type} [Inhabited α] {R : α → List Value → Prop} {sz : Nat} {w : World} {a : Addr} {n : Nat} {Q : Nat → α → Prop} (hn : n ≤ 9223372036854775807)
    (h : ∀ i, i < n → ∃ x, (∃ c : List Value, c.length = sz ∧ R x c ∧ ∀ k u, c[k]? = some u → w.cell? (a.add (i * sz + k)) = some u) ∧ Q i x) :
    ∃ xs : List α, xs.length = n ∧ ReadsRow R sz w (some a) n xs ∧ ∀ i x, xs[i]? = some x → Q i x := by
  obtain ⟨f, hf⟩ := Go.Deep.choose_lt h
  have hget : ∀ i x, ((List.range n).map f)[i]? = some x → i < n ∧ x = f i := by
    intro i x hx
    rw [List.getElem?_map, Option.map_eq_some_iff] at hx
    obtain ⟨j, hj, rfl⟩ := hx
    obtain ⟨hlt, rfl⟩ := List.getElem?_eq_some_iff.1 hj
    simp at hlt ⊢
    exact hlt
  refine ⟨(List.range n).map f, by simp, ⟨by simp, hn, fun _ => ⟨a, rfl, fun j p hp => ?_⟩⟩, fun i x hx => ?_⟩
  · obtain ⟨hj, rfl⟩ := hget j p hp
    exact (hf j hj).1
  · obtain ⟨hi, rfl⟩ := hget i x hx
    exact (hf i hi).2

theorem cells_v : Tryd.prog.cellsOf 26 = 4 := by kernel_rfl
theorem cells_m : Tryd.prog.cellsOf 50 = 5 := by kernel_rfl
theorem cells_i : Tryd.prog.cellsOf 3 = 1 := by kernel_rfl
theorem cells_vs : Tryd.prog.cellsOf 23 = 1 := by kernel_rfl
theorem cells_ms : Tryd.prog.cellsOf 24 = 1 := by kernel_rfl

section
variable {H : Type} {enc : TypeId × Value → H} {W : World}
/-- What a value's cells read as, up to so many steps. -/
def TrodV (H : Type) (enc : TypeId × Value → H) (W : World) (n : Nat) : Prop := ∀ (cs : List Value) (x : DataW H × List MemPlace), DataW.trod enc Tryd.prog W 0 (fun _ => true) true n 26 cs = some x → ∃ X : JV, (jd n).K W X cs ∧ ∀ B, (∀ b ∈ x.1.weights Tryd.prog 26, b ≤ B) → szV B X
theorem jm_sz' (n : Nat) : (jm n).sz = 5 := by show 1 + (jd n).sz = 5; rw [show (jd n).sz = 4 from jsz n]
theorem jm_le {n m : Nat} (hnm : n ≤ m) {w : World} {x : ByteArray × JV} {cs : List Value} (h : (jm n).K w x cs) : (jm m).K w x cs := by
  obtain ⟨a, b, e1, e2, hK⟩ := h
  exact ⟨a, b, e1, e2, jd_le hnm hK⟩
set_option maxRecDepth 100000 in
theorem trod_values {n : Nat} (ih : ∀ k, k < n → TrodV H enc W k) {cs : List Value} {x : DataW H × List MemPlace} (h : DataW.trod enc Tryd.prog W 0 (fun _ => true) true n 23 cs = some x) :
    ∃ (A : Option Addr) (c : Nat) (l : List JV), cs = [.slice A l.length c] ∧ l.length ≤ c ∧ (jd n).C W A l.length l ∧ ∀ B, (∀ b ∈ x.1.weights Tryd.prog 23, b ≤ B) → szL B l := by
  rcases DataW.trod_slice Tryd.underlying23 h with ⟨rfl, rfl⟩ | ⟨a, len, cap, elems, rest, m, rfl, rfl, rfl, _, hle, hcap, hel, hget, _, _⟩
  · exact ⟨none, 0, [], rfl, Nat.le_refl _, C_nil _ _ _, fun _ _ => trivial⟩
  · rw [cells_v] at hget
    obtain ⟨xs, hxs, hrow, hq⟩ := row_of (R := (jd (m + 1)).K W) (sz := 4) (w := W) (a := a) (n := len) (Q := fun i X => ∃ e ∈ elems, ∀ B, (∀ b ∈ e.1.weights Tryd.prog 26, b ≤ B) → szV B X) (by unfold maxLen at hcap; omega) (by
      intro i hi
      have hi' : i < elems.length := by omega
      have h1 := hget i hi
      rw [List.getElem?_eq_getElem hi'] at h1
      obtain ⟨cs', h2, h3⟩ := Option.bind_eq_some_iff.1 h1
      obtain ⟨_, h4, h5⟩ := World.cells?_some h2
      obtain ⟨X, hX, hB⟩ := ih m (by omega) cs' _ h3
      refine ⟨X, ⟨cs', h4, jd_le (by omega) hX, fun k u hu => ?_⟩, ⟨_, List.getElem_mem hi', hB⟩⟩
      have hk : k < 4 := by rw [← h4]; exact (List.getElem?_eq_some_iff.1 hu).1
      rw [← Go.Deep.add_add, h5 k hk, hu])
    subst hxs
    refine ⟨some a, cap, xs, rfl, hle, ?_, fun B hB => szL_of fun X hX => ?_⟩
    · show ReadsRow ((jd (m + 1)).K W) (jd (m + 1)).sz W (some a) xs.length xs
      rw [show (jd (m + 1)).sz = 4 from jsz _]
      exact hrow
    · obtain ⟨i, hi, rfl⟩ := List.mem_iff_getElem.1 hX
      obtain ⟨e, he, hsz⟩ := hq i _ (List.getElem?_eq_getElem hi)
      refine hsz B fun b hb => hB b ?_
      simp only [DataW.weights, Tryd.underlying23, List.mem_cons, List.mem_append]
      exact .inr (.inl (mem_weightsAll (List.mem_map.2 ⟨e, he, rfl⟩) b hb))
set_option maxRecDepth 100000 in
theorem trod_member {n : Nat} (ih : ∀ k, k < n → TrodV H enc W k) {cs : List Value} {x : DataW H × List MemPlace} (h : DataW.trod enc Tryd.prog W 0 (fun _ => true) true n 50 cs = some x) :
    ∃ p : ByteArray × JV, (jm n).K W p cs ∧ ∀ B, (∀ b ∈ x.1.weights Tryd.prog 50, b ≤ B) → p.1.size ≤ B ∧ szV B p.2 := by
  obtain ⟨xs, m, rfl, rfl, hl, hlen, hf⟩ := DataW.trod_struct Tryd.underlying50 h
  rw [cells_m] at hl
  match xs, hlen, cs, hl with
  | [y0, y1], _, [c0, c1, c2, c3, c4], _ =>
    have h0 := (show DataW.trod enc Tryd.prog W 0 (fun _ => true) true m 9 (List.take (Tryd.prog.cellsOf 9) (List.drop 0 [c0, c1, c2, c3, c4])) = some y0 from hf 0 _ rfl)
    have h1 := (show DataW.trod enc Tryd.prog W 0 (fun _ => true) true m 26 (List.take (Tryd.prog.cellsOf 26) (List.drop 1 [c0, c1, c2, c3, c4])) = some y1 from hf 1 _ rfl)
    simp only [cells_str, cells_v, List.drop, List.take] at h0 h1
    obtain ⟨s, e1, e2, _⟩ := DataW.trod_string Tryd.underlying9 h0
    obtain ⟨X, hX, hB⟩ := ih m (by omega) _ _ h1
    simp only [List.cons.injEq, and_true] at e1
    subst e1 e2
    refine ⟨(s, X), ⟨[.string s], [c1, c2, c3, c4], rfl, rfl, jd_le (by omega) hX⟩, fun B hb => ?_⟩
    simp only [DataW.weights, Tryd.underlying50, DataW.weightsEach, List.map, List.append_nil, List.mem_append, List.mem_singleton, Array.toList] at hb
    refine ⟨?_, hB B fun b h => hb b (.inr h)⟩
    have := hb s.data.toList.length (.inl rfl)
    rw [Array.length_toList] at this
    exact this
set_option maxRecDepth 100000 in
theorem trod_members {n : Nat} (ih : ∀ k, k < n → TrodV H enc W k) {cs : List Value} {x : DataW H × List MemPlace} (h : DataW.trod enc Tryd.prog W 0 (fun _ => true) true n 24 cs = some x) :
    ∃ (A : Option Addr) (c : Nat) (l : List (ByteArray × JV)), cs = [.slice A l.length c] ∧ l.length ≤ c ∧ (jm n).C W A l.length l ∧ ∀ B, (∀ b ∈ x.1.weights Tryd.prog 24, b ≤ B) → szM B l := by
  rcases DataW.trod_slice Tryd.underlying24 h with ⟨rfl, rfl⟩ | ⟨a, len, cap, elems, rest, m, rfl, rfl, rfl, _, hle, hcap, hel, hget, _, _⟩
  · exact ⟨none, 0, [], rfl, Nat.le_refl _, C_nil _ _ _, fun _ _ => trivial⟩
  · rw [cells_m] at hget
    obtain ⟨xs, hxs, hrow, hq⟩ := row_of (R := (jm (m + 1)).K W) (sz := 5) (w := W) (a := a) (n := len) (Q := fun i X => ∃ e ∈ elems, ∀ B, (∀ b ∈ e.1.weights Tryd.prog 50, b ≤ B) → X.1.size ≤ B ∧ szV B X.2) (by unfold maxLen at hcap; omega) (by
      intro i hi
      have hi' : i < elems.length := by omega
      have h1 := hget i hi
      rw [List.getElem?_eq_getElem hi'] at h1
      obtain ⟨cs', h2, h3⟩ := Option.bind_eq_some_iff.1 h1
      obtain ⟨_, h4, h5⟩ := World.cells?_some h2
      obtain ⟨X, hX, hB⟩ := trod_member (n := m) (fun k hk => ih k (by omega)) h3
      refine ⟨X, ⟨cs', h4, jm_le (by omega) hX, fun k u hu => ?_⟩, ⟨_, List.getElem_mem hi', hB⟩⟩
      have hk : k < 5 := by rw [← h4]; exact (List.getElem?_eq_some_iff.1 hu).1
      rw [← Go.Deep.add_add, h5 k hk, hu])
    subst hxs
    refine ⟨some a, cap, xs, rfl, hle, ?_, fun B hB => szM_of fun X hX => ?_⟩
    · show ReadsRow ((jm (m + 1)).K W) (jm (m + 1)).sz W (some a) xs.length xs
      rw [jm_sz']
      exact hrow
    · obtain ⟨i, hi, rfl⟩ := List.mem_iff_getElem.1 hX
      obtain ⟨e, he, hsz⟩ := hq i _ (List.getElem?_eq_getElem hi)
      refine hsz B fun b hb => hB b ?_
      simp only [DataW.weights, Tryd.underlying24, List.mem_cons, List.mem_append]
      exact .inr (.inl (mem_weightsAll (List.mem_map.2 ⟨e, he, rfl⟩) b hb))
set_option maxRecDepth 100000 in
theorem trod_value : ∀ n, TrodV H enc W n := by
  intro n
  induction n using Nat.strongRecOn with
  | ind n ih =>
  intro cs x h
  obtain ⟨xs, m, rfl, rfl, hl, hlen, hf⟩ := DataW.trod_struct Tryd.underlying26 h
  rw [cells_v] at hl
  match xs, hlen, cs, hl with
  | [y0, y1, y2, y3], _, [c0, c1, c2, c3], _ =>
    have h0 := (show DataW.trod enc Tryd.prog W 0 (fun _ => true) true m 3 (List.take (Tryd.prog.cellsOf 3) (List.drop 0 [c0, c1, c2, c3])) = some y0 from hf 0 _ rfl)
    have h1 := (show DataW.trod enc Tryd.prog W 0 (fun _ => true) true m 9 (List.take (Tryd.prog.cellsOf 9) (List.drop 1 [c0, c1, c2, c3])) = some y1 from hf 1 _ rfl)
    have h2 := (show DataW.trod enc Tryd.prog W 0 (fun _ => true) true m 23 (List.take (Tryd.prog.cellsOf 23) (List.drop 2 [c0, c1, c2, c3])) = some y2 from hf 2 _ rfl)
    have h3 := (show DataW.trod enc Tryd.prog W 0 (fun _ => true) true m 24 (List.take (Tryd.prog.cellsOf 24) (List.drop 3 [c0, c1, c2, c3])) = some y3 from hf 3 _ rfl)
    simp only [cells_str, cells_i, cells_vs, cells_ms, List.drop, List.take] at h0 h1 h2 h3
    obtain ⟨k, e0, f0, _⟩ := DataW.trod_int Tryd.underlying3 h0
    obtain ⟨s, e1, f1, _⟩ := DataW.trod_string Tryd.underlying9 h1
    obtain ⟨A2, k2, l, e2, l2, g2, z2⟩ := trod_values (n := m) (fun k hk => ih k (by omega)) h2
    obtain ⟨A3, k3, mm, e3, l3, g3, z3⟩ := trod_members (n := m) (fun k hk => ih k (by omega)) h3
    simp only [List.cons.injEq, and_true] at e0 e1 e2 e3
    subst e0 e1 e2 e3 f0 f1
    refine ⟨⟨k, s, l, mm⟩, jd_mk m W ⟨k, s, l, mm⟩ l2 g2 l3 g3, fun B hb => ?_⟩
    simp only [DataW.weights, Tryd.underlying26, DataW.weightsEach, List.map, List.append_nil, List.mem_append, List.mem_singleton, List.nil_append, Array.toList] at hb
    have hs := hb s.data.toList.length (.inl rfl)
    rw [Array.length_toList] at hs
    exact ⟨hs, z2 B fun b h => hb b (.inr (.inl h)), z3 B fun b h => hb b (.inr (.inr h))⟩
end
set_option maxRecDepth 100000 in
/-- A value as an argument. -/
theorem open_value {H : Type} {enc : TypeId × Value → H} {W : World} {v : Value} {d : DataW H} {ps : List MemPlace} {r : Reach} {base : Nat} (hv : Value.okWide Tryd.prog W r base 26 v) (h : DataW.Trod enc Tryd.prog W 0 (fun _ => true) true 26 v d ps)
    {ts : List TypeId} {ds : List (DataW H)} (hw : (DataW.weightsEach Tryd.prog ts ds).all (· ≤ reachBytes) = true) {j : Nat} (ht : ts[j]? = some 26) (hd : ds[j]? = some d) :
    ∃ (n : Nat) (X : JV) (cs : List Value), v = .agg cs.toArray ∧ (jd n).K W X cs ∧ szV reachBytes X := by
  obtain ⟨cs, rfl, _⟩ := okWide_struct Tryd.underlying26 hv
  obtain ⟨fuel, hf⟩ := h
  obtain ⟨X, hX, hB⟩ := trod_value fuel _ _ hf
  refine ⟨fuel, X, cs.toList, by simp, hX, hB _ fun b hb => ?_⟩
  exact of_decide_eq_true (List.all_eq_true.1 hw _ (DataW.weights_mem_each ht hd b hb))
set_option maxRecDepth 100000 in
/-- Values as an argument. -/
theorem open_values {H : Type} {enc : TypeId × Value → H} {W : World} {v : Value} {d : DataW H} {ps : List MemPlace} {r : Reach} {base : Nat} (hv : Value.okWide Tryd.prog W r base 23 v) (h : DataW.Trod enc Tryd.prog W 0 (fun _ => true) true 23 v d ps)
    {ts : List TypeId} {ds : List (DataW H)} (hw : (DataW.weightsEach Tryd.prog ts ds).all (· ≤ reachBytes) = true) {j : Nat} (ht : ts[j]? = some 23) (hd : ds[j]? = some d) :
    ∃ (n : Nat) (A : Option Addr) (c : Nat) (xs : List JV), v = .slice A xs.length c ∧ xs.length ≤ c ∧ (jd n).C W A xs.length xs ∧ szL reachBytes xs := by
  obtain ⟨a, len, cap, rfl⟩ := okWide_slice Tryd.underlying23 hv
  obtain ⟨fuel, hf⟩ := h
  obtain ⟨A, c, l, e, hl, hC, hB⟩ := trod_values (fun k _ => trod_value k) hf
  simp only [Value.cells, List.cons.injEq, and_true, Array.toList] at e
  refine ⟨fuel, A, c, l, e, hl, hC, hB _ fun b hb => ?_⟩
  exact of_decide_eq_true (List.all_eq_true.1 hw _ (DataW.weights_mem_each ht hd b hb))
end Go.Proofs.YtpdpgppaoipnlaaDoor

