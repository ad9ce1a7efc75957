/- The reference's Next (as printed) comes to 'nx'. -/
import Derived.Test.YtfcfehiijainpaaDoorUtfR
set_option linter.unusedVariables false
set_option linter.unusedSimpArgs false
namespace Go.Proofs.YtfcfehiijainpaaDoor
open Go.RowKit Go.Proofs.YtfcfehiijainpaaDoorW.PrintWords PAll

def someB (a b n : Int) : Bool :=
  let lo : Int := if n = 3 then 2048 else if n = 4 then 65536 else 128
  let hi : Int := if n = 3 then 65535 else if n = 4 then 1114111 else 2047
  let a1 := if a < lo then lo else a
  let b1 := if hi < b then hi else b
  let a2 := if 55296 ≤ a1 ∧ a1 ≤ 57343 then 57344 else a1
  decide (a2 ≤ b1)

theorem some_f (a b n : Int) (k : Nat) (hn : n = 2 ∨ n = 3 ∨ n = 4) : eponymref01_some.f (k + 5) a b n = some (someB a b n) := by
  unfold someB
  rcases hn with rfl | rfl | rfl
  all_goals
    simp only [eponymref01_some.f, eponymref01_some.j0, eponymref01_some.j1, eponymref01_some.j2, Int.reduceEq, if_true, if_false, ↓reduceIte]
    (repeat' split) <;> first | rfl | omega | (congr 1; rw [Bool.eq_iff_iff, decide_eq_true_eq, decide_eq_true_eq]; omega)

theorem l1_end (r : ByteArray) (n : Int) (k : Nat) (h : 4 < n) : eponymref01_Next.l1 (k + 1) r n = some (0, 0, 1) := by
  rw [eponymref01_Next.l1, if_neg (by omega)]

theorem l2_fin (r x y : ByteArray) (n va vb : Int) (k : Nat) (hn : n = 2 ∨ n = 3 ∨ n = 4) (hx : (x.size : Int) = n)
    (ha : eponymref01_value.f (k + 29) x = some va) (hb : eponymref01_value.f (k + 29) y = some vb) :
    eponymref01_Next.l2 (k + 30) r n x y = if 0 ≤ va ∧ 0 ≤ vb ∧ someB va vb n = true then some (0, 0, 2) else eponymref01_Next.l1 (k + 29) r (n + 1) := by
  have e : wrap64 (n + 1) = n + 1 := w64 (by omega) (by omega)
  rw [eponymref01_Next.l2, if_neg (by omega), ha]
  simp only [Option.bind_some]
  rw [hb]
  simp only [Option.bind_some, e]
  by_cases c0 : 0 ≤ va
  · rw [if_pos (show va ≥ 0 from c0)]
    by_cases c1 : 0 ≤ vb
    · rw [if_pos (show vb ≥ 0 from c1), some_f va vb n (k + 24) hn]
      simp only [Option.bind_some]
      by_cases c2 : someB va vb n = true
      · rw [if_pos c2, if_pos ⟨c0, c1, c2⟩]
      · rw [if_neg c2, if_neg (fun h => c2 h.2.2)]
    · rw [if_neg (show ¬ vb ≥ 0 from c1), if_neg (fun h => c1 h.2.1)]
  · rw [if_neg (show ¬ va ≥ 0 from c0), if_neg (fun h => c0 h.1)]

theorem l2_pad (r x y : ByteArray) (n : Int) (k : Nat) (hn : n ≤ 4) (hx : (x.size : Int) < n) (hy : (y.size : Int) < n) :
    eponymref01_Next.l2 (k + 1) r n x y = eponymref01_Next.l2 k r n (x ++ (⟨#[128]⟩ : ByteArray)) (y ++ (⟨#[191]⟩ : ByteArray)) := by
  rw [eponymref01_Next.l2, if_pos hx, if_pos (by omega), if_pos (by omega)]

theorem size_snoc (x : ByteArray) (b : UInt8) : (x ++ (⟨#[b]⟩ : ByteArray)).size = x.size + 1 := by
  rw [ByteArray.size_append]; rfl
theorem bt_snoc_lt (x : ByteArray) (b : UInt8) (i : Int) (h0 : 0 ≤ i) (h : i < x.size) : bt (x ++ (⟨#[b]⟩ : ByteArray)) i = bt x i := by
  rw [btP, btP, bt_ints, bt_ints, ints_append, List.getD_eq_getElem?_getD, List.getD_eq_getElem?_getD, List.getElem?_append_left (by rw [ints_length]; omega)]
theorem bt_snoc_eq (x : ByteArray) (b : UInt8) (i : Int) (h : i = x.size) : bt (x ++ (⟨#[b]⟩ : ByteArray)) i = b.toNat := by
  subst h
  rw [btP, bt_ints, ints_append, List.getD_eq_getElem?_getD, List.getElem?_append_right (by rw [ints_length]; omega), ints_length]
  simp [ints]

/-- What is tried behind a rest of one byte, of two, of three. -/
def pad1 (b0 : Int) : Int × Int × Int :=
  if 0 ≤ val2 b0 128 ∧ 0 ≤ val2 b0 191 ∧ someB (val2 b0 128) (val2 b0 191) 2 = true then (0, 0, 2)
  else if 0 ≤ val3 b0 128 128 ∧ 0 ≤ val3 b0 191 191 ∧ someB (val3 b0 128 128) (val3 b0 191 191) 3 = true then (0, 0, 2)
  else if 0 ≤ val4 b0 128 128 128 ∧ 0 ≤ val4 b0 191 191 191 ∧ someB (val4 b0 128 128 128) (val4 b0 191 191 191) 4 = true then (0, 0, 2)
  else (0, 0, 1)
def pad2 (b0 b1 : Int) : Int × Int × Int :=
  if 0 ≤ val3 b0 b1 128 ∧ 0 ≤ val3 b0 b1 191 ∧ someB (val3 b0 b1 128) (val3 b0 b1 191) 3 = true then (0, 0, 2)
  else if 0 ≤ val4 b0 b1 128 128 ∧ 0 ≤ val4 b0 b1 191 191 ∧ someB (val4 b0 b1 128 128) (val4 b0 b1 191 191) 4 = true then (0, 0, 2)
  else (0, 0, 1)
def pad3 (b0 b1 b2 : Int) : Int × Int × Int :=
  if 0 ≤ val4 b0 b1 b2 128 ∧ 0 ≤ val4 b0 b1 b2 191 ∧ someB (val4 b0 b1 b2 128) (val4 b0 b1 b2 191) 4 = true then (0, 0, 2)
  else (0, 0, 1)

theorem l1_pad3 (r : ByteArray) (h : r.size = 3) (k : Nat) : eponymref01_Next.l1 (k + 60) r 4 = some (pad3 (bt r 0) (bt r 1) (bt r 2)) := by
  have hx (b : UInt8) : eponymref01_value.f (k + 57) (r ++ (⟨#[b]⟩ : ByteArray)) = some (val4 (bt r 0) (bt r 1) (bt r 2) b.toNat) := by
    rw [value_4 _ (by rw [size_snoc]; omega) (k + 37), bt_snoc_lt _ _ 0 (by omega) (by omega), bt_snoc_lt _ _ 1 (by omega) (by omega), bt_snoc_lt _ _ 2 (by omega) (by omega), bt_snoc_eq _ _ 3 (by omega)]
  rw [eponymref01_Next.l1, if_pos (by omega), l2_pad r r r 4 (k + 58) (by omega) (by omega) (by omega), l2_fin r _ _ 4 _ _ (k + 28) (by omega) (by rw [size_snoc]; omega) (hx 128) (hx 191), l1_end _ _ _ (by omega)]
  unfold pad3
  exact (apply_ite some _ _ _).symm

theorem l1_pad2_4 (r : ByteArray) (h : r.size = 2) (k : Nat) : eponymref01_Next.l1 (k + 60) r 4 = some (if 0 ≤ val4 (bt r 0) (bt r 1) 128 128 ∧ 0 ≤ val4 (bt r 0) (bt r 1) 191 191 ∧ someB (val4 (bt r 0) (bt r 1) 128 128) (val4 (bt r 0) (bt r 1) 191 191) 4 = true then (0, 0, 2) else (0, 0, 1)) := by
  have hx (b : UInt8) : eponymref01_value.f (k + 56) (r ++ (⟨#[b]⟩ : ByteArray) ++ (⟨#[b]⟩ : ByteArray)) = some (val4 (bt r 0) (bt r 1) b.toNat b.toNat) := by
    rw [value_4 _ (by rw [size_snoc, size_snoc]; omega) (k + 36), bt_snoc_lt _ _ 0 (by omega) (by rw [size_snoc]; omega), bt_snoc_lt _ _ 1 (by omega) (by rw [size_snoc]; omega), bt_snoc_lt _ _ 2 (by omega) (by rw [size_snoc]; omega), bt_snoc_eq _ _ 3 (by rw [size_snoc]; omega),
      bt_snoc_lt _ _ 0 (by omega) (by omega), bt_snoc_lt _ _ 1 (by omega) (by omega), bt_snoc_eq _ _ 2 (by omega)]
  rw [eponymref01_Next.l1, if_pos (by omega), l2_pad r r r 4 (k + 58) (by omega) (by omega) (by omega), l2_pad r _ _ 4 (k + 57) (by omega) (by rw [size_snoc]; omega) (by rw [size_snoc]; omega),
    l2_fin r _ _ 4 _ _ (k + 27) (by omega) (by rw [size_snoc, size_snoc]; omega) (hx 128) (hx 191), l1_end _ _ _ (by omega)]
  exact (apply_ite some _ _ _).symm
theorem l1_pad2 (r : ByteArray) (h : r.size = 2) (k : Nat) : eponymref01_Next.l1 (k + 90) r 3 = some (pad2 (bt r 0) (bt r 1)) := by
  have hx (b : UInt8) : eponymref01_value.f (k + 87) (r ++ (⟨#[b]⟩ : ByteArray)) = some (val3 (bt r 0) (bt r 1) b.toNat) := by
    rw [value_3 _ (by rw [size_snoc]; omega) (k + 67), bt_snoc_lt _ _ 0 (by omega) (by omega), bt_snoc_lt _ _ 1 (by omega) (by omega), bt_snoc_eq _ _ 2 (by omega)]
  rw [eponymref01_Next.l1, if_pos (by omega), l2_pad r r r 3 (k + 88) (by omega) (by omega) (by omega), l2_fin r _ _ 3 _ _ (k + 58) (by omega) (by rw [size_snoc]; omega) (hx 128) (hx 191)]
  rw [show (3 : Int) + 1 = 4 from rfl, l1_pad2_4 r h (k + 27)]
  unfold pad2
  exact (apply_ite some _ _ _).symm

theorem l1_pad1_4 (r : ByteArray) (h : r.size = 1) (k : Nat) : eponymref01_Next.l1 (k + 60) r 4 = some (if 0 ≤ val4 (bt r 0) 128 128 128 ∧ 0 ≤ val4 (bt r 0) 191 191 191 ∧ someB (val4 (bt r 0) 128 128 128) (val4 (bt r 0) 191 191 191) 4 = true then (0, 0, 2) else (0, 0, 1)) := by
  have hx (b : UInt8) : eponymref01_value.f (k + 55) (r ++ (⟨#[b]⟩ : ByteArray) ++ (⟨#[b]⟩ : ByteArray) ++ (⟨#[b]⟩ : ByteArray)) = some (val4 (bt r 0) b.toNat b.toNat b.toNat) := by
    rw [value_4 _ (by rw [size_snoc, size_snoc, size_snoc]; omega) (k + 35), bt_snoc_lt _ _ 0 (by omega) (by rw [size_snoc, size_snoc]; omega), bt_snoc_lt _ _ 1 (by omega) (by rw [size_snoc, size_snoc]; omega), bt_snoc_lt _ _ 2 (by omega) (by rw [size_snoc, size_snoc]; omega), bt_snoc_eq _ _ 3 (by rw [size_snoc, size_snoc]; omega),
      bt_snoc_lt _ _ 0 (by omega) (by rw [size_snoc]; omega), bt_snoc_lt _ _ 1 (by omega) (by rw [size_snoc]; omega), bt_snoc_eq _ _ 2 (by rw [size_snoc]; omega), bt_snoc_lt _ _ 0 (by omega) (by omega), bt_snoc_eq _ _ 1 (by omega)]
  rw [eponymref01_Next.l1, if_pos (by omega), l2_pad r r r 4 (k + 58) (by omega) (by omega) (by omega), l2_pad r _ _ 4 (k + 57) (by omega) (by rw [size_snoc]; omega) (by rw [size_snoc]; omega), l2_pad r _ _ 4 (k + 56) (by omega) (by rw [size_snoc, size_snoc]; omega) (by rw [size_snoc, size_snoc]; omega),
    l2_fin r _ _ 4 _ _ (k + 26) (by omega) (by rw [size_snoc, size_snoc, size_snoc]; omega) (hx 128) (hx 191), l1_end _ _ _ (by omega)]
  exact (apply_ite some _ _ _).symm
theorem l1_pad1_3 (r : ByteArray) (h : r.size = 1) (k : Nat) : eponymref01_Next.l1 (k + 90) r 3 = some (if 0 ≤ val3 (bt r 0) 128 128 ∧ 0 ≤ val3 (bt r 0) 191 191 ∧ someB (val3 (bt r 0) 128 128) (val3 (bt r 0) 191 191) 3 = true then (0, 0, 2)
    else if 0 ≤ val4 (bt r 0) 128 128 128 ∧ 0 ≤ val4 (bt r 0) 191 191 191 ∧ someB (val4 (bt r 0) 128 128 128) (val4 (bt r 0) 191 191 191) 4 = true then (0, 0, 2) else (0, 0, 1)) := by
  have hx (b : UInt8) : eponymref01_value.f (k + 86) (r ++ (⟨#[b]⟩ : ByteArray) ++ (⟨#[b]⟩ : ByteArray)) = some (val3 (bt r 0) b.toNat b.toNat) := by
    rw [value_3 _ (by rw [size_snoc, size_snoc]; omega) (k + 66), bt_snoc_lt _ _ 0 (by omega) (by rw [size_snoc]; omega), bt_snoc_lt _ _ 1 (by omega) (by rw [size_snoc]; omega), bt_snoc_eq _ _ 2 (by rw [size_snoc]; omega), bt_snoc_lt _ _ 0 (by omega) (by omega), bt_snoc_eq _ _ 1 (by omega)]
  rw [eponymref01_Next.l1, if_pos (by omega), l2_pad r r r 3 (k + 88) (by omega) (by omega) (by omega), l2_pad r _ _ 3 (k + 87) (by omega) (by rw [size_snoc]; omega) (by rw [size_snoc]; omega),
    l2_fin r _ _ 3 _ _ (k + 57) (by omega) (by rw [size_snoc, size_snoc]; omega) (hx 128) (hx 191)]
  rw [show (3 : Int) + 1 = 4 from rfl, l1_pad1_4 r h (k + 26)]
  exact (apply_ite some _ _ _).symm
theorem l1_pad1 (r : ByteArray) (h : r.size = 1) (k : Nat) : eponymref01_Next.l1 (k + 120) r 2 = some (pad1 (bt r 0)) := by
  have hx (b : UInt8) : eponymref01_value.f (k + 117) (r ++ (⟨#[b]⟩ : ByteArray)) = some (val2 (bt r 0) b.toNat) := by
    rw [value_2 _ (by rw [size_snoc]; omega) (k + 97), bt_snoc_lt _ _ 0 (by omega) (by omega), bt_snoc_eq _ _ 1 (by omega)]
  rw [eponymref01_Next.l1, if_pos (by omega), l2_pad r r r 2 (k + 118) (by omega) (by omega) (by omega), l2_fin r _ _ 2 _ _ (k + 88) (by omega) (by rw [size_snoc]; omega) (hx 128) (hx 191)]
  rw [show (2 : Int) + 1 = 3 from rfl, l1_pad1_3 r h (k + 27)]
  unfold pad1
  exact (apply_ite some _ _ _).symm
end Go.Proofs.YtfcfehiijainpaaDoor
