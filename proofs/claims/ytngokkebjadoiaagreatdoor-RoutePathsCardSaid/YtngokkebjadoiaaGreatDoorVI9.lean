/- What the claim uses of the text I9. -/
import Derived.Test.YtngokkebjadoiaaGreatDoorVI8
set_option linter.unusedVariables false
set_option linter.unusedSimpArgs false
namespace Go.Proofs.YtngokkebjadoiaaGreatDoor
open Go.RowKit Go.PlainAid
open Go.Proofs.YtngokkebjadoiaaGreatDoorW.PrintWords hiding bt
open Go.Proofs.YtngokkebjadoiaaGreatDoorW.PrintMore

/-- Eight ints. -/
def a8 (f : Nat → Nat) : Array Value := ((List.range 8).map fun i => Value.int .i64 (f i)).toArray
theorem a8_size (f : Nat → Nat) : (a8 f).size = 8 := by simp [a8]
theorem a8_get (f : Nat → Nat) (i : Nat) (h : i < 8) : (a8 f)[i]? = some (.int .i64 (f i)) := by simp [a8, h]
theorem a8_set (f : Nat → Nat) (i v : Nat) (h : i < 8) : (a8 f).setIfInBounds i (.int .i64 v) = a8 fun j => if j = i then v else f j := by
  apply Array.ext_getElem?
  intro j
  by_cases hj : j < 8
  · rw [a8_get _ j hj, Array.getElem?_setIfInBounds]
    by_cases e : i = j
    · subst e; simp [a8_size, h]
    · rw [if_neg e, a8_get _ j hj, if_neg (fun x => e x.symm)]
  · rw [Array.getElem?_eq_none (by rw [Array.size_setIfInBounds, a8_size]; omega), Array.getElem?_eq_none (by rw [a8_size]; omega)]
def z8 : Array Value := #[.int .i64 0, .int .i64 0, .int .i64 0, .int .i64 0, .int .i64 0, .int .i64 0, .int .i64 0, .int .i64 0]
theorem zero_a8 : z8 = a8 fun _ => 0 := by kernel_rfl
def A8 (b : Nat) (f : Nat → Nat) (w : World) : Prop := Row 80 b (a8 f) w
section
variable {b : Nat} {f g : Nat → Nat} {w w' : World}
theorem A8.cell (h : A8 b f w) (i : Nat) (hi : i < 8) : w.cell? ⟨b, i, none⟩ = some (.int .i64 (f i)) := Row.cell h i _ (a8_get f i hi)
theorem A8.frozen (h : A8 b f w) (i : Nat) : w.frozen? ⟨b, i, none⟩ = false := Row.frozen h i
theorem A8.lt (h : A8 b f w) : b < w.heap.size := Row.lt h
theorem A8.set (h : A8 b f w) (i : Nat) (hi : i < 8) (v : Nat) : A8 b (fun j => if j = i then v else f j) (w.setCell ⟨b, i, none⟩ (.int .i64 v)) := by
  unfold A8
  rw [← a8_set f i v hi]
  exact Row.setCell h i _
theorem A8.below (h : A8 b f w) (hb : Below w.heap.size w w') : A8 b f w' := Row.below h hb
end
theorem fill_step (h : Nat → Nat) (i : Nat) : (fun j => if j = i then h i else if j < i then h j else 0) = fun j => if j < i + 1 then h j else 0 := by
  funext j
  by_cases e : j = i
  · subst e; simp
  · rw [if_neg e]
    by_cases h1 : j < i
    · rw [if_pos h1, if_pos (by omega)]
    · rw [if_neg h1, if_neg (by omega)]

/-- The text of the groups so far, f and g telling the row of noughts. -/
def preS (l : List Nat) (f g i : Nat) : List Int := if i ≤ f then joinI [58] ((l.take i).map hexl) else joinI [58] ((l.take f).map hexl) ++ [58, 58] ++ joinI [58] (((l.drop (f + g)).take (i - (f + g))).map hexl)
theorem preS_gap (l : List Nat) (f g : Nat) (hg : 1 ≤ g) : preS l f g (f + g) = preS l f g f ++ [58, 58] := by
  unfold preS
  rw [if_neg (by omega), if_pos (Nat.le_refl f), Nat.sub_self]
  simp [joinI]
theorem preS_low (l : List Nat) (f g i x : Nat) (h : i < f) (hx : l[i]? = some x) : preS l f g (i + 1) = preS l f g i ++ (if i = 0 then [] else [58]) ++ hexl x := by
  obtain ⟨hl, hx⟩ := List.getElem?_eq_some_iff.1 hx
  unfold preS
  rw [if_pos (by omega), if_pos (by omega), List.take_succ_eq_append_getElem hl, List.map_append, List.map_cons, List.map_nil, joinI_snoc, hx]
  congr 1
  congr 1
  by_cases hi : i = 0
  · subst hi; simp
  · rw [if_neg hi, if_neg]
    intro e
    have := congrArg List.length e
    rw [List.length_map, List.length_take, List.length_nil] at this
    omega
theorem preS_high (l : List Nat) (f g i x : Nat) (hg : 1 ≤ g) (h : f + g ≤ i) (hx : l[i]? = some x) : preS l f g (i + 1) = preS l f g i ++ (if i = f + g then [] else [58]) ++ hexl x := by
  obtain ⟨hl, hx⟩ := List.getElem?_eq_some_iff.1 hx
  unfold preS
  have hd : i - (f + g) < (l.drop (f + g)).length := by rw [List.length_drop]; omega
  rw [if_neg (by omega), if_neg (by omega), show i + 1 - (f + g) = i - (f + g) + 1 by omega, List.take_succ_eq_append_getElem hd, List.map_append, List.map_cons, List.map_nil, joinI_snoc]
  have hy : (l.drop (f + g))[i - (f + g)] = x := by
    rw [List.getElem_drop]
    simp only [show f + g + (i - (f + g)) = i by omega]
    exact hx
  rw [hy, List.append_assoc, List.append_assoc, List.append_assoc, List.append_assoc, List.append_assoc]
  congr 1
  congr 1
  congr 1
  congr 1
  by_cases hi : i = f + g
  · rw [if_pos hi, if_pos]
    rw [hi]; simp
  · rw [if_neg hi, if_neg]
    intro e
    have := congrArg List.length e
    rw [List.length_map, List.length_take, List.length_drop, List.length_nil] at this
    omega
theorem preS_end (l : List Nat) : preS l (gapS l l.length).1 (gapS l l.length).2 l.length = sixT l := by
  unfold sixT preS
  rcases gapS_is l l.length (Nat.le_refl _) with h | ⟨h1, h2, h3⟩
  · rw [h, if_pos (Nat.le_refl _), if_pos rfl, List.take_length]
  · rw [if_neg (by omega), if_neg (by omega), show (l.drop ((gapS l l.length).1 + (gapS l l.length).2)).take (l.length - ((gapS l l.length).1 + (gapS l l.length).2)) = l.drop ((gapS l l.length).1 + (gapS l l.length).2) from List.take_of_length_le (by rw [List.length_drop]; omega)]
theorem hexlist_len (l : List Nat) (hl : ∀ x ∈ l, x < 65536) (k : Nat) (hk : l.length ≤ k) : (joinI [58] (l.map hexl)).length ≤ k * 5 := by
  have := joinI_len [58] 4 (l.map hexl) (fun t ht => by
    rw [List.mem_map] at ht
    obtain ⟨n, hn, rfl⟩ := ht
    exact hexl_len n (hl n hn))
  rw [List.length_map] at this
  simp only [List.length_cons, List.length_nil] at this
  omega
theorem preS_len (l : List Nat) (hl : ∀ x ∈ l, x < 65536) (h8 : l.length = 8) (f g i : Nat) : (preS l f g i).length ≤ 100 := by
  unfold preS
  split
  · have := hexlist_len (l.take i) (fun x hx => hl x (List.mem_of_mem_take hx)) 8 (by rw [List.length_take]; omega)
    omega
  · rw [List.length_append, List.length_append]
    have h1 := hexlist_len (l.take f) (fun x hx => hl x (List.mem_of_mem_take hx)) 8 (by rw [List.length_take]; omega)
    have h2 := hexlist_len ((l.drop (f + g)).take (i - (f + g))) (fun x hx => hl x (List.mem_of_mem_drop (List.mem_of_mem_take hx))) 8 (by rw [List.length_take, List.length_drop]; omega)
    simp only [List.length_cons, List.length_nil]
    omega
/-- The first bytes' text. -/
def preF (p : PV) (i : Nat) : List Int := joinI [46] ((List.range i).map fun j => digs 10 (p.addr j))
theorem preF_step (p : PV) (i : Nat) : preF p (i + 1) = preF p i ++ (if i = 0 then [] else [46]) ++ digs 10 (p.addr i) := by
  unfold preF
  rw [List.range_succ, List.map_append, List.map_cons, List.map_nil, joinI_snoc]
  congr 1
  congr 1
  by_cases hi : i = 0
  · subst hi; simp
  · rw [if_neg hi, if_neg]
    intro e
    have := congrArg List.length e
    rw [List.length_map, List.length_range, List.length_nil] at this
    omega
theorem preF_len (p : PV) (hp : ∀ i, i < 16 → p.addr i < 256) (i : Nat) (hi : i ≤ 4) : (preF p i).length ≤ 16 := by
  unfold preF
  have := joinI_len [46] 3 ((List.range i).map fun i => digs 10 (p.addr i)) (fun t ht => by
    rw [List.mem_map] at ht
    obtain ⟨n, hn, rfl⟩ := ht
    rw [List.mem_range] at hn
    exact digs_len 10 (by omega) 2 _ (by have := hp n (by omega); omega))
  rw [List.length_map, List.length_range] at this
  simp only [List.length_cons, List.length_nil] at this
  omega
theorem grps_at (p : PV) (i : Nat) (h : i < 8) : (grps p)[i]? = some (grp p i) := by
  unfold grps
  rw [List.getElem?_map, List.getElem?_range h]
  rfl
end Go.Proofs.YtngokkebjadoiaaGreatDoor

