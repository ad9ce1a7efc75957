/- What the claim uses of the text RA. -/
import Derived.Test.YtpdpgppaoipnlaaDoorUJ2
import Derived.Test.YtpdpgppaoipnlaaDoorUNC
set_option linter.unusedVariables false
set_option linter.unusedSimpArgs false
namespace Go.Proofs.YtpdpgppaoipnlaaDoor
section
section
open Go.RowKit Go.PlainAid

theorem bt_pre {s : ByteArray} {pre l : List Int} (h : ints s = pre ++ l) (i : Nat) : bt s (pre.length + i) = l.getD i 0 := by
  rw [bt_ints, h, List.getD_eq_getElem?_getD, List.getD_eq_getElem?_getD, List.getElem?_append_right (by omega)]
  congr 2; omega
theorem size_pre {s : ByteArray} {pre l : List Int} (h : ints s = pre ++ l) : s.size = pre.length + l.length := by rw [← ints_length, h]; simp
theorem bt_0 {s : ByteArray} {pre l : List Int} {c : Int} (h : ints s = pre ++ c :: l) : bt s pre.length = c := by
  have := bt_pre h 0
  simpa using this
theorem isAt_0 {s : ByteArray} {pre l : List Int} {c : Int} (h : ints s = pre ++ c :: l) (b : Int) : isAt s pre.length b = decide (c = b) := by
  have := size_pre h
  unfold isAt
  rw [bt_0 h, decide_eq_true (by rw [this]; simp), Bool.true_and]
theorem isAt_end {s : ByteArray} {i : Nat} (h : s.size ≤ i) (b : Int) : isAt s i b = false := by
  unfold isAt
  rw [decide_eq_false (by omega), Bool.false_and]
theorem digAt_0 {s : ByteArray} {pre l : List Int} {c : Int} (h : ints s = pre ++ c :: l) : digAt s pre.length = isDig c := by
  have := size_pre h
  unfold digAt
  rw [bt_0 h, decide_eq_true (by rw [this]; simp), Bool.true_and]

/-- Only space. -/
def Sp (l : List Int) : Prop := ∀ b ∈ l, isSp b = true
/-- No space ahead. -/
def NoSp (l : List Int) : Prop := ∀ c, l.head? = some c → isSp c = false
theorem sp_nil : Sp [] := fun _ h => absurd h (by simp)
theorem spN_stop {s : ByteArray} {pre q : List Int} (h : ints s = pre ++ q) (hq : NoSp q) : spc s pre.length = pre.length := by
  have hsz := size_pre h
  unfold spc
  cases hk : s.size - pre.length with
  | zero => rfl
  | succ k =>
    unfold spcs
    cases q with
    | nil => simp at hsz; omega
    | cons c q =>
      rw [bt_0 h, hq c rfl]
      simp
theorem spN_more {s : ByteArray} {i : Nat} (h : i < s.size) (h2 : isSp (bt s i) = true) : spc s i = spc s (i + 1) := by
  unfold spc
  obtain ⟨k, hk⟩ : ∃ k, s.size - i = k + 1 := ⟨s.size - i - 1, by omega⟩
  rw [hk, show s.size - (i + 1) = k by omega]
  conv => lhs; unfold spcs
  rw [if_pos ⟨h, h2⟩]
theorem spc_sp {s : ByteArray} : ∀ (p pre q : List Int), ints s = pre ++ (p ++ q) → Sp p → NoSp q → spc s pre.length = pre.length + p.length
  | [], pre, q, h, _, hq => spN_stop h hq
  | c :: p, pre, q, h, hp, hq => by
    have hsz := size_pre h
    have h1 : isSp (bt s pre.length) = true := by
      rw [bt_0 (l := p ++ q) (c := c) (by rw [h]; simp)]
      exact hp c (by simp)
    rw [spN_more (by simp at hsz; omega) h1]
    have := spc_sp p (pre ++ [c]) q (by rw [h]; simp) (fun b hb => hp b (by simp [hb])) hq
    simp only [List.length_append, List.length_cons, List.length_nil, Nat.zero_add] at this ⊢
    omega

/-- Nothing ahead that a number goes on with. -/
def NoNum (l : List Int) : Prop := ∀ c, l.head? = some c → isDig c = false ∧ c ≠ 46 ∧ c ≠ 101 ∧ c ≠ 69
theorem dgs_shift (s t : ByteArray) (P : Nat) (h : ∀ i, i ≤ t.size → digAt s (P + i) = digAt t i) : ∀ k i, t.size - i = k → i ≤ t.size → dgs s (P + i) = P + dgs t i
  | 0, i, hk, hi => by
    have h1 : digAt t i = false := by
      cases hd : digAt t i with
      | false => rfl
      | true => have := digAt_lt hd; omega
    rw [wdgs_stop t i h1, wdgs_stop s (P + i) (by rw [h i hi, h1])]
  | k + 1, i, hk, hi => by
    cases hd : digAt t i with
    | false => rw [wdgs_stop t i hd, wdgs_stop s (P + i) (by rw [h i hi, hd])]
    | true =>
      rw [← wdgs_more t i hd, ← wdgs_more s (P + i) (by rw [h i hi, hd])]
      exact dgs_shift s t P h k (i + 1) (by omega) (by omega)
theorem num_back {s t : ByteArray} {pre post : List Int} (h : ints s = pre ++ (ints t ++ post)) (hn : NoNum post) (hw : wrt t = true) :
    numAt s pre.length = (((pre.length + t.size : Nat) : Int), 0) := by
  have hsz := size_pre h
  rw [List.length_append, ints_length] at hsz
  have hb : ∀ i, i < t.size → bt s (pre.length + i) = bt t i := by
    intro i hi
    rw [bt_pre h, bt_ints, List.getD_eq_getElem?_getD, List.getD_eq_getElem?_getD, List.getElem?_append_left (by rw [ints_length]; exact hi)]
  have hlt : ∀ i, i < t.size → ∀ b, isAt s (pre.length + i) b = isAt t i b := by
    intro i hi b
    unfold isAt
    rw [hb i hi, decide_eq_true (show pre.length + i < s.size by omega), decide_eq_true hi]
  have hend : ∀ b, (b = 46 ∨ b = 101 ∨ b = 69) → isAt s (pre.length + t.size) b = false := by
    intro b hbb
    cases hp : post with
    | nil => rw [hp] at hsz; simp at hsz; exact isAt_end (by omega) b
    | cons c q =>
      have h2 : ints s = (pre ++ ints t) ++ c :: q := by rw [h, hp]; simp
      have h3 := isAt_0 h2 b
      rw [List.length_append, ints_length] at h3
      rw [h3]
      have := hn c (by rw [hp]; rfl)
      simp; omega
  have hle : ∀ i, i ≤ t.size → ∀ b, (b = 46 ∨ b = 101 ∨ b = 69) → isAt s (pre.length + i) b = isAt t i b := by
    intro i hi b hbb
    rcases Nat.lt_or_ge i t.size with hlt' | hge
    · exact hlt i hlt' b
    · obtain rfl : i = t.size := by omega
      rw [hend b hbb, isAt_end (Nat.le_refl _)]
  have hdg : ∀ i, i ≤ t.size → digAt s (pre.length + i) = digAt t i := by
    intro i hi
    rcases Nat.lt_or_ge i t.size with hlt' | hge
    · unfold digAt
      rw [hb i hlt', decide_eq_true (show pre.length + i < s.size by omega), decide_eq_true hlt']
    · obtain rfl : i = t.size := by omega
      have h1 : digAt t t.size = false := by
        cases hd : digAt t t.size with
        | false => rfl
        | true => have := digAt_lt hd; omega
      rw [h1]
      cases hp : post with
      | nil =>
        rw [hp] at hsz; simp at hsz
        cases hd : digAt s (pre.length + t.size) with
        | false => rfl
        | true => have := digAt_lt hd; omega
      | cons c q =>
        have h2 : ints s = (pre ++ ints t) ++ c :: q := by rw [h, hp]; simp
        have h3 := digAt_0 h2
        rw [List.length_append, ints_length] at h3
        rw [h3]
        exact (hn c (by rw [hp]; rfl)).1
  have hds : ∀ i, i ≤ t.size → dgs s (pre.length + i) = pre.length + dgs t i := fun i hi => dgs_shift s t pre.length hdg _ i rfl hi
  generalize pre.length = P at *
  clear h hn hsz hb hend
  unfold wrt at hw
  unfold numAt
  simp only at hw ⊢
  generalize hi0 : (if isAt t 0 45 = true then 1 else 0) = i0 at hw
  have hd0 : digAt t i0 = true := by
    cases hdd : digAt t i0 with
    | true => rfl
    | false => rw [hdd] at hw; simp at hw
  have l0 := digAt_lt hd0
  rw [if_neg (by rw [hd0]; simp)] at hw
  have e0 : (if isAt s P 45 = true then P + 1 else P) = P + i0 := by
    rw [← hi0]
    have := hlt 0 (by omega) 45
    rw [Nat.add_zero] at this
    rw [this]
    split <;> rfl
  rw [e0, hdg i0 (by omega), if_neg (by rw [hd0]; simp)]
  generalize hi1 : (if isAt t i0 48 = true then i0 + 1 else dgs t i0) = i1 at hw
  have l1 : i1 ≤ t.size := by
    rw [← hi1]
    have := dgs_lt t i0 hd0
    split <;> omega
  have e1 : (if isAt s (P + i0) 48 = true then P + i0 + 1 else dgs s (P + i0)) = P + i1 := by
    rw [← hi1, hlt i0 l0 48, hds i0 (by omega)]
    split <;> omega
  rw [e1, hle i1 l1 46 (by simp)]
  by_cases c1 : isAt t i1 46 = true
  · have l1' := (isAt_lt c1).1
    have hd1 : digAt t (i1 + 1) = true := by
      cases hdd : digAt t (i1 + 1) with
      | true => rfl
      | false => rw [c1, hdd] at hw; simp at hw
    rw [if_neg (by rw [hd1]; simp), if_pos c1] at hw
    rw [if_neg (by rw [show P + i1 + 1 = P + (i1 + 1) by omega, hdg (i1 + 1) (by omega), hd1]; simp), if_pos c1, show P + i1 + 1 = P + (i1 + 1) by omega, hds (i1 + 1) (by omega)]
    have l2 := (dgs_lt t (i1 + 1) hd1).2
    generalize dgs t (i1 + 1) = i2 at hw l2 ⊢
    clear e0 e1 c1 hd1 l1' hi0 hi1 hd0 l0 l1
    revert hw
    rw [hle i2 l2 101 (by simp), hle i2 l2 69 (by simp)]
    by_cases c2 : isAt t i2 101 = true ∨ isAt t i2 69 = true
    · rw [if_pos c2, if_pos c2]
      intro hw
      have l2' : i2 < t.size := by rcases c2 with c | c <;> exact (isAt_lt c).1
      have hd3 : digAt t (if isAt t (i2 + 1) 43 = true ∨ isAt t (i2 + 1) 45 = true then i2 + 2 else i2 + 1) = true := by
        cases hdd : digAt t (if isAt t (i2 + 1) 43 = true ∨ isAt t (i2 + 1) 45 = true then i2 + 2 else i2 + 1) with
        | true => rfl
        | false => rw [hdd] at hw; simp at hw
      rw [if_neg (by rw [hd3]; simp)] at hw
      have l3 := digAt_lt hd3
      have l4 : i2 + 1 < t.size := by split at l3 <;> omega
      have e3 : (if isAt s (P + i2 + 1) 43 = true ∨ isAt s (P + i2 + 1) 45 = true then P + i2 + 2 else P + i2 + 1) = P + (if isAt t (i2 + 1) 43 = true ∨ isAt t (i2 + 1) 45 = true then i2 + 2 else i2 + 1) := by
        rw [show P + i2 + 1 = P + (i2 + 1) by omega, hlt _ l4, hlt _ l4]
        split <;> omega
      rw [e3]
      generalize (if isAt t (i2 + 1) 43 = true ∨ isAt t (i2 + 1) 45 = true then i2 + 2 else i2 + 1) = i3 at hw hd3 l3 ⊢
      rw [hdg i3 (by omega), if_neg (by rw [hd3]; simp), hds i3 (by omega), of_decide_eq_true hw]
    · rw [if_neg c2, if_neg c2]
      intro hw
      rw [of_decide_eq_true hw]
  · rw [if_neg (by simp [c1]), if_neg c1] at hw
    rw [if_neg (by simp [c1]), if_neg c1]
    have l2 := l1
    clear e0 e1 c1 hi0 hi1 hd0 l0 l1
    revert hw
    rw [hle i1 l2 101 (by simp), hle i1 l2 69 (by simp)]
    by_cases c2 : isAt t i1 101 = true ∨ isAt t i1 69 = true
    · rw [if_pos c2, if_pos c2]
      intro hw
      have l2' : i1 < t.size := by rcases c2 with c | c <;> exact (isAt_lt c).1
      have hd3 : digAt t (if isAt t (i1 + 1) 43 = true ∨ isAt t (i1 + 1) 45 = true then i1 + 2 else i1 + 1) = true := by
        cases hdd : digAt t (if isAt t (i1 + 1) 43 = true ∨ isAt t (i1 + 1) 45 = true then i1 + 2 else i1 + 1) with
        | true => rfl
        | false => rw [hdd] at hw; simp at hw
      rw [if_neg (by rw [hd3]; simp)] at hw
      have l3 := digAt_lt hd3
      have l4 : i1 + 1 < t.size := by split at l3 <;> omega
      have e3 : (if isAt s (P + i1 + 1) 43 = true ∨ isAt s (P + i1 + 1) 45 = true then P + i1 + 2 else P + i1 + 1) = P + (if isAt t (i1 + 1) 43 = true ∨ isAt t (i1 + 1) 45 = true then i1 + 2 else i1 + 1) := by
        rw [show P + i1 + 1 = P + (i1 + 1) by omega, hlt _ l4, hlt _ l4]
        split <;> omega
      rw [e3]
      generalize (if isAt t (i1 + 1) 43 = true ∨ isAt t (i1 + 1) 45 = true then i1 + 2 else i1 + 1) = i3 at hw hd3 l3 ⊢
      rw [hdg i3 (by omega), if_neg (by rw [hd3]; simp), hds i3 (by omega), of_decide_eq_true hw]
    · rw [if_neg c2, if_neg c2]
      intro hw
      rw [of_decide_eq_true hw]

/-- The first byte of a number. -/
theorem wrt_first {t : ByteArray} (hw : wrt t = true) : ∃ c l, ints t = c :: l ∧ (c = 45 ∨ isDig c = true) := by
  unfold wrt at hw
  simp only at hw
  generalize hi0 : (if isAt t 0 45 = true then 1 else 0) = i0 at hw
  have hd0 : digAt t i0 = true := by
    cases hdd : digAt t i0 with
    | true => rfl
    | false => rw [hdd] at hw; simp at hw
  have l0 := digAt_lt hd0
  cases he : ints t with
  | nil => have := ints_length t; rw [he] at this; simp at this; omega
  | cons c l =>
    refine ⟨c, l, rfl, ?_⟩
    have h0 : bt t 0 = c := by rw [bt_ints, he]; rfl
    by_cases c0 : isAt t 0 45 = true
    · left; rw [← h0]; exact (isAt_lt c0).2
    · right
      rw [if_neg c0] at hi0
      subst hi0
      unfold digAt at hd0
      rw [h0] at hd0
      simp at hd0
      exact hd0.2

/-- The digits of an escape. -/
theorem hexd_hexl (x : Int) (h0 : 0 ≤ x) (h1 : x < 16) : hexd (hexl x) = x := by unfold hexd hexl; (repeat' split) <;> omega
theorem quoB_cons (c : Int) (l : List Int) : quoB (c :: l) = quo1 c ++ quoB l := by simp [quoB]
theorem quoB_app (a b : List Int) : quoB (a ++ b) = quoB a ++ quoB b := by simp [quoB]
theorem quoB_same : ∀ (l : List Int), (∀ c ∈ l, 32 ≤ c ∧ c ≠ 34 ∧ c ≠ 92) → quoB l = l
  | [], _ => rfl
  | c :: l, h => by
    have hc := h c (by simp)
    rw [quoB_cons, quoB_same l (fun c hc => h c (by simp [hc]))]
    unfold quo1
    rw [if_neg (by omega), if_pos (by omega)]
    rfl
/-- What a rune's bytes in quotes are read to: the rune, and the place behind. -/
theorem rune_back {s : ByteArray} {pre post : List Int} (r : Int) (hr : utfRight r = true) (h : ints s = pre ++ (quoB (formL r) ++ post)) (k : Nat) (acc : List Int) :
    strK s (k + 1) pre.length acc = strK s k (pre.length + (quoB (formL r)).length) (acc ++ [r]) := by
  have hsz := size_pre h
  rw [List.length_append] at hsz
  have hr' := hr
  rw [utfRight_iff] at hr
  by_cases hp : 32 ≤ r ∧ r ≠ 34 ∧ r ≠ 92
  · have hall : ∀ c ∈ formL r, 32 ≤ c ∧ c ≠ 34 ∧ c ≠ 92 := by
      intro c hc
      unfold formL at hc
      (repeat' split at hc) <;> simp at hc <;> omega
    rw [quoB_same _ hall] at h hsz ⊢
    have hn := nx_of_form s pre post r hr' h
    cases hf : formL r with
    | nil => unfold formL at hf; (repeat' split at hf) <;> simp at hf
    | cons c fl =>
      have hc := hall c (by rw [hf]; simp)
      have hb : bt s pre.length = c := bt_0 (l := fl ++ post) (by rw [h, hf]; simp)
      rw [hf] at hsz hn
      simp at hsz
      conv => lhs; unfold strK
      rw [if_neg (by omega), hb, if_neg (by omega), if_neg (by omega), if_neg (by omega), hn]
      simp
  · have h128 : r < 128 := by omega
    rw [formL_1 r h128] at h hsz ⊢
    have hq : quoB [r] = quo1 r := by simp [quoB]
    rw [hq] at h hsz ⊢
    have he : ∃ e l, quo1 r = 92 :: e :: l := by unfold quo1; (repeat' split) <;> first | exact ⟨_, _, rfl⟩ | omega
    obtain ⟨e, l, he⟩ := he
    rw [he] at h hsz ⊢
    simp at hsz
    have hb0 : bt s pre.length = 92 := bt_0 (l := e :: (l ++ post)) (by rw [h]; simp)
    have hb1 : bt s (pre.length + 1) = e := by rw [bt_pre h]; rfl
    have hesc : escAt s pre.length = (r, ((pre.length + (l.length + 2) : Nat) : Int), 0) := by
      unfold escAt
      rw [if_neg (by omega), hb1]
      unfold quo1 at he
      by_cases c1 : r = 34 ∨ r = 92
      · rw [if_pos c1] at he
        obtain ⟨rfl, rfl⟩ : r = e ∧ l = [] := by simpa [eq_comm] using he
        rw [if_pos (by unfold escOf; rcases c1 with rfl | rfl <;> simp)]
        unfold escOf
        rcases c1 with rfl | rfl <;> simp
      · rw [if_neg c1, if_neg (by omega)] at he
        by_cases c8 : r = 8
        · rw [if_pos c8] at he
          obtain ⟨rfl, rfl⟩ : 98 = e ∧ l = [] := by simpa [eq_comm] using he
          rw [if_pos (by unfold escOf; simp)]; unfold escOf; simp [c8]
        · rw [if_neg c8] at he
          by_cases c9 : r = 9
          · rw [if_pos c9] at he
            obtain ⟨rfl, rfl⟩ : 116 = e ∧ l = [] := by simpa [eq_comm] using he
            rw [if_pos (by unfold escOf; simp)]; unfold escOf; simp [c9]
          · rw [if_neg c9] at he
            by_cases c10 : r = 10
            · rw [if_pos c10] at he
              obtain ⟨rfl, rfl⟩ : 110 = e ∧ l = [] := by simpa [eq_comm] using he
              rw [if_pos (by unfold escOf; simp)]; unfold escOf; simp [c10]
            · rw [if_neg c10] at he
              by_cases c12 : r = 12
              · rw [if_pos c12] at he
                obtain ⟨rfl, rfl⟩ : 102 = e ∧ l = [] := by simpa [eq_comm] using he
                rw [if_pos (by unfold escOf; simp)]; unfold escOf; simp [c12]
              · rw [if_neg c12] at he
                by_cases c13 : r = 13
                · rw [if_pos c13] at he
                  obtain ⟨rfl, rfl⟩ : 114 = e ∧ l = [] := by simpa [eq_comm] using he
                  rw [if_pos (by unfold escOf; simp)]; unfold escOf; simp [c13]
                · rw [if_neg c13] at he
                  obtain ⟨rfl, rfl⟩ : 117 = e ∧ l = [48, 48, hexl (r / 16), hexl (r % 16)] := by simpa [eq_comm] using he
                  rw [if_neg (by unfold escOf; simp), if_neg (by simp)]
                  have d2 : bt s (pre.length + 2) = 48 := by rw [bt_pre h]; rfl
                  have d3 : bt s (pre.length + 3) = 48 := by rw [bt_pre h]; rfl
                  have d4 : bt s (pre.length + 4) = hexl (r / 16) := by rw [bt_pre h]; rfl
                  have d5 : bt s (pre.length + 5) = hexl (r % 16) := by rw [bt_pre h]; rfl
                  have x4 := hexd_hexl (r / 16) (by omega) (by omega)
                  have x5 := hexd_hexl (r % 16) (by omega) (by omega)
                  have x0 : hexd 48 = 0 := by decide
                  simp at hsz
                  have hu : unitAt s 4 (pre.length + 2) 0 = (r, ((pre.length + 6 : Nat) : Int), 0) := by
                    unfold unitAt
                    rw [if_pos ⟨by omega, by rw [d2, x0]; omega⟩, d2, x0]
                    unfold unitAt
                    rw [if_pos ⟨by omega, by rw [show pre.length + 2 + 1 = pre.length + 3 by omega, d3, x0]; omega⟩, show pre.length + 2 + 1 = pre.length + 3 by omega, d3, x0]
                    unfold unitAt
                    rw [if_pos ⟨by omega, by rw [show pre.length + 3 + 1 = pre.length + 4 by omega, d4, x4]; omega⟩, show pre.length + 3 + 1 = pre.length + 4 by omega, d4, x4]
                    unfold unitAt
                    rw [if_pos ⟨by omega, by rw [show pre.length + 4 + 1 = pre.length + 5 by omega, d5, x5]; omega⟩, show pre.length + 4 + 1 = pre.length + 5 by omega, d5, x5]
                    unfold unitAt
                    rw [show 16 * (16 * (16 * (16 * 0 + 0) + 0) + r / 16) + r % 16 = r by omega]
                  simp only [hu]
                  rw [if_neg (by simp), if_neg (by omega), if_neg (by omega)]
                  simp
    conv => lhs; unfold strK
    rw [if_neg (by omega), hb0, if_neg (by omega), if_neg (by omega), if_pos rfl, hesc]
    show (if (0 : Int) = 0 then strK s k (((pre.length + (l.length + 2) : Nat) : Int)).toNat (acc ++ [r]) else _) = _
    rw [if_pos rfl, Int.toNat_natCast]
    rfl
theorem encL_cons (r : Int) (l : List Int) : encL (r :: l) = formL r ++ encL l := by simp [encL]
theorem runes_back {s : ByteArray} : ∀ (l pre post : List Int) (k : Nat) (acc : List Int), (∀ r ∈ l, utfRight r = true) → ints s = pre ++ (quoB (encL l) ++ 34 :: post) → l.length < k → strK s k pre.length acc = (acc ++ l, ((pre.length + (quoB (encL l)).length + 1 : Nat) : Int), 0)
  | [], pre, post, 0, acc, _, _, hk => by simp at hk
  | [], pre, post, k + 1, acc, _, h, hk => by
    have h' : ints s = pre ++ 34 :: post := by rw [h]; simp [encL, quoB]
    have hsz := size_pre h'
    simp at hsz
    unfold strK
    rw [if_neg (by omega), bt_0 h', if_pos rfl]
    simp [encL, quoB]
  | r :: l, pre, post, 0, acc, _, _, hk => by simp at hk
  | r :: l, pre, post, k + 1, acc, hr, h, hk => by
    rw [encL_cons, quoB_app] at h
    rw [rune_back (post := quoB (encL l) ++ 34 :: post) r (hr r (by simp)) (by rw [h]; simp)]
    have := runes_back l (pre ++ quoB (formL r)) post k (acc ++ [r]) (fun x hx => hr x (by simp [hx])) (by rw [h]; simp) (by simp at hk; omega)
    rw [List.length_append] at this
    rw [this, encL_cons, quoB_app]
    simp
    omega
theorem dcd_zero (s : ByteArray) : ∀ (k : Nat) (a : Int) (acc : List Int), (dcd s k a acc).2.2 = 0 → (dcd s k a acc).2.1 = 0
  | 0, _, _, _ => rfl
  | k + 1, a, acc, h => by
    unfold dcd at h ⊢
    split
    · rfl
    · rename_i c
      rw [if_neg c] at h
      split
      · rename_i c2; rw [if_pos c2] at h; exact dcd_zero s k _ _ h
      · rename_i c2; rw [if_neg c2] at h; exact absurd h c2
theorem good_runes {t : ByteArray} (h : goodT t = true) : ∃ l, (∀ r ∈ l, utfRight r = true) ∧ strOfNums (encL l) = t := by
  have h' : (dec t).2.2 = 0 := of_decide_eq_true h
  have hz : (dec t).2.1 = 0 := dcd_zero t _ _ _ h'
  exact ⟨_, enc_dec t (dec t).1 (Prod.ext rfl (Prod.ext hz h'))⟩
theorem quo_eq (l : List Int) : quo l = 34 :: (quoB l ++ [34]) := rfl
theorem str_back {s t : ByteArray} {pre post : List Int} (hg : goodT t = true) (h : ints s = pre ++ (quo (ints t) ++ post)) :
    ∃ l, txtOf l = t ∧ strAt s pre.length = (l, ((pre.length + (quo (ints t)).length : Nat) : Int), 0) := by
  obtain ⟨l, hr, ht⟩ := good_runes hg
  refine ⟨l, ht, ?_⟩
  have hi : ints t = encL l := by rw [← ht, ints_nums _ (encL_range l hr)]
  rw [quo_eq, hi] at h ⊢
  have hsz := size_pre h
  simp at hsz
  have hge := encL_ge l
  have hq : ∀ m : List Int, m.length ≤ (quoB m).length := by
    intro m
    induction m with
    | nil => simp
    | cons c m ih =>
      have : 1 ≤ (quo1 c).length := by unfold quo1; (repeat' split) <;> simp
      rw [quoB_cons]; simp; omega
  have hqe := hq (encL l)
  unfold strAt
  rw [isAt_0 (l := quoB (encL l) ++ [34] ++ post) (c := 34) (by rw [h]; simp), if_pos (by simp)]
  have := runes_back (s := s) l (pre ++ [34]) post (s.size - pre.length) [] hr (by rw [h]; simp) (by omega)
  rw [List.length_append, List.length_singleton] at this
  rw [this]
  simp
  omega
end

section
open Go.RowKit Go.PlainAid

mutual
/-- Is a value right, at a level? -/
def okV : JV → Int → Bool
  | ⟨k, t, l, m⟩, lev => decide (oneN ⟨k, t, l, m⟩ lev = 0) && (okL l (lev + 1) && okM m (lev + 1))
def okL : List JV → Int → Bool
  | [], _ => true
  | x :: l, lev => okV x lev && okL l lev
def okM : List (ByteArray × JV) → Int → Bool
  | [], _ => true
  | (_, x) :: l, lev => okV x lev && okM l lev
end
mutual
theorem lkV_ok : ∀ (x : JV) (lev n : Int), (lkV oneN x lev n).2 = 0 ↔ okV x lev = true
  | ⟨k, t, l, m⟩, lev, n => by
    have h1 := lkL_ok l (lev + 1) (n + 1)
    have h2 := lkM_ok m (lev + 1) (lkL oneN l (lev + 1) (n + 1)).1
    rw [lkV, okV]
    by_cases c : oneN ⟨k, t, l, m⟩ lev = 0
    · rw [if_neg (by simpa using c), decide_eq_true c, Bool.true_and, Bool.and_eq_true, ← h1, ← h2]
      by_cases d : (lkL oneN l (lev + 1) (n + 1)).2 = 0
      · rw [if_neg (by simpa using d)]; simp [d]
      · rw [if_pos d]; simp [d]
    · rw [if_pos c]; simp [c]
theorem lkL_ok : ∀ (l : List JV) (lev n : Int), (lkL oneN l lev n).2 = 0 ↔ okL l lev = true
  | [], lev, n => by simp [lkL, okL]
  | x :: l, lev, n => by
    have h1 := lkV_ok x lev n
    have h2 := lkL_ok l lev (lkV oneN x lev n).1
    rw [lkL, okL, Bool.and_eq_true, ← h1, ← h2]
    by_cases d : (lkV oneN x lev n).2 = 0
    · rw [if_neg (by simpa using d)]; simp [d]
    · rw [if_pos d]; simp [d]
theorem lkM_ok : ∀ (l : List (ByteArray × JV)) (lev n : Int), (lkM oneN l lev n).2 = 0 ↔ okM l lev = true
  | [], lev, n => by simp [lkM, okM]
  | (o, x) :: l, lev, n => by
    have h1 := lkV_ok x lev n
    have h2 := lkM_ok l lev (lkV oneN x lev n).1
    rw [lkM, okM, Bool.and_eq_true, ← h1, ← h2]
    by_cases d : (lkV oneN x lev n).2 = 0
    · rw [if_neg (by simpa using d)]; simp [d]
    · rw [if_pos d]; simp [d]
end
mutual
/-- A right value's text, with space wherever it may be. -/
def WV : JV → List Int → Prop
  | ⟨k, t, l, m⟩, a =>
    if k = 5 then ∃ p r, a = 91 :: (p ++ r) ∧ Sp p ∧ WL l r
    else if k = 6 then ∃ p r, a = 123 :: (p ++ r) ∧ Sp p ∧ WM m r
    else a = putV ⟨k, t, [], []⟩
def WL : List JV → List Int → Prop
  | [], r => r = [93]
  | x :: l, r => ∃ b p q, r = b ++ (p ++ q) ∧ WV x b ∧ Sp p ∧ ((l = [] ∧ q = [93]) ∨ (l ≠ [] ∧ ∃ p' r', q = 44 :: (p' ++ r') ∧ Sp p' ∧ WL l r'))
def WM : List (ByteArray × JV) → List Int → Prop
  | [], r => r = [125]
  | (n, x) :: l, r => ∃ p1 p2 b p q, r = quo (ints n) ++ (p1 ++ 58 :: (p2 ++ (b ++ (p ++ q)))) ∧ Sp p1 ∧ Sp p2 ∧ WV x b ∧ Sp p ∧ ((l = [] ∧ q = [125]) ∨ (l ≠ [] ∧ ∃ p' r', q = 44 :: (p' ++ r') ∧ Sp p' ∧ WM l r'))
end
theorem putV_leaf (k : Int) (t : ByteArray) (l : List JV) (m : List (ByteArray × JV)) (h5 : k ≠ 5) (h6 : k ≠ 6) : putV ⟨k, t, l, m⟩ = putV ⟨k, t, [], []⟩ := by
  simp only [putV, if_neg h5, if_neg h6]
theorem joinC_cons (a b : List Int) (l : List (List Int)) : joinC (a :: b :: l) = a ++ 44 :: joinC (b :: l) := by simp [joinC]
mutual
/-- What is put is such a text. -/
theorem wv_put : ∀ x : JV, WV x (putV x)
  | ⟨k, t, l, m⟩ => by
    have h1 := wl_put l
    have h2 := wm_put m
    rw [WV]
    by_cases h5 : k = 5
    · rw [if_pos h5]; subst h5
      exact ⟨[], joinC (putL l) ++ [93], by simp [putV], sp_nil, h1⟩
    · rw [if_neg h5]
      by_cases h6 : k = 6
      · rw [if_pos h6]; subst h6
        exact ⟨[], joinC (putM m) ++ [125], by simp [putV], sp_nil, h2⟩
      · rw [if_neg h6]
        exact putV_leaf k t l m h5 h6
theorem wl_put : ∀ l : List JV, WL l (joinC (putL l) ++ [93])
  | [] => by simp [WL, putL, joinC]
  | x :: l => by
    have h1 := wv_put x
    have h2 := wl_put l
    rw [WL]
    cases l with
    | nil => exact ⟨putV x, [], [93], by simp [putL, joinC], h1, sp_nil, .inl ⟨rfl, rfl⟩⟩
    | cons y l => exact ⟨putV x, [], 44 :: ([] ++ (joinC (putL (y :: l)) ++ [93])), by simp only [putL, joinC_cons]; simp, h1, sp_nil, .inr ⟨by simp, _, _, rfl, sp_nil, h2⟩⟩
theorem wm_put : ∀ l : List (ByteArray × JV), WM l (joinC (putM l) ++ [125])
  | [] => by simp [WM, putM, joinC]
  | (n, x) :: l => by
    have h1 := wv_put x
    have h2 := wm_put l
    rw [WM]
    cases l with
    | nil => exact ⟨[], [], putV x, [], [125], by simp [putM, joinC], sp_nil, sp_nil, h1, sp_nil, .inl ⟨rfl, rfl⟩⟩
    | cons y l =>
      obtain ⟨o, y⟩ := y
      exact ⟨[], [], putV x, [], 44 :: ([] ++ (joinC (putM ((o, y) :: l)) ++ [125])), by simp only [putM, joinC_cons]; simp, sp_nil, sp_nil, h1, sp_nil, .inr ⟨by simp, _, _, rfl, sp_nil, h2⟩⟩
end
/-- What a value that is right by itself has. -/
theorem oneN_open {k : Int} {t : ByteArray} {l : List JV} {m : List (ByteArray × JV)} {lev : Int} (h : oneN ⟨k, t, l, m⟩ lev = 0) :
    lev ≤ 32 ∧ 0 ≤ k ∧ k ≤ 6 ∧ (k ≠ 3 → k ≠ 4 → t = ⟨#[]⟩) ∧ (k ≠ 5 → l = []) ∧ (k ≠ 6 → m = []) ∧ (k = 3 → wrt t = true) ∧ (k = 4 → goodT t = true) ∧ (m.map Prod.fst).all goodT = true ∧ dupN [] (nms m) = false := by
  unfold oneN at h
  by_cases c0 : 32 < lev
  · rw [if_pos c0] at h; simp at h
  rw [if_neg c0] at h
  dsimp only at h
  by_cases c1 : k < 0 ∨ 6 < k
  · rw [if_pos c1] at h; simp at h
  rw [if_neg c1] at h
  by_cases c2 : alienV ⟨k, t, l, m⟩ = true
  · rw [if_pos c2] at h; simp at h
  rw [if_neg c2] at h
  by_cases c3 : k = 4 ∧ goodT t = false
  · rw [if_pos c3] at h; simp at h
  rw [if_neg c3] at h
  by_cases c4 : (m.map Prod.fst).all goodT = false
  · rw [if_pos c4] at h; simp at h
  rw [if_neg c4] at h
  by_cases c5 : dupN [] (nms m) = true
  · rw [if_pos c5] at h; simp at h
  unfold alienV at c2
  rw [decide_eq_true_eq] at c2
  dsimp only at c2
  refine ⟨by omega, by omega, by omega, ?_, ?_, ?_, ?_, ?_, by simpa using c4, by simpa using c5⟩
  · intro h3 h4
    have : t.size = 0 := by
      rcases Nat.eq_zero_or_pos t.size with h | h
      · exact h
      · exact absurd (.inl ⟨h3, h4, by omega⟩) c2
    exact ByteArray.ext (Array.eq_empty_of_size_eq_zero this)
  · intro h5
    rcases Nat.eq_zero_or_pos l.length with h | h
    · exact List.length_eq_zero_iff.1 h
    · exact absurd (.inr (.inl ⟨h5, by omega⟩)) c2
  · intro h6
    rcases Nat.eq_zero_or_pos m.length with h | h
    · exact List.length_eq_zero_iff.1 h
    · exact absurd (.inr (.inr (.inl ⟨h6, by omega⟩))) c2
  · intro h3
    cases hw : wrt t with
    | true => rfl
    | false => exact absurd (.inr (.inr (.inr ⟨h3, hw⟩))) c2
  · intro h4
    cases hg : goodT t with
    | true => rfl
    | false => exact absurd ⟨h4, hg⟩ c3
theorem okV_one {k : Int} {t : ByteArray} {l : List JV} {m : List (ByteArray × JV)} {lev : Int} (h : okV ⟨k, t, l, m⟩ lev = true) : oneN ⟨k, t, l, m⟩ lev = 0 ∧ okL l (lev + 1) = true ∧ okM m (lev + 1) = true := by
  rw [okV, Bool.and_eq_true, Bool.and_eq_true, decide_eq_true_eq] at h
  exact h
theorem starter_nosp {c : Int} (h : starter c = true) : isSp c = false := by
  unfold starter at h; unfold isSp
  simp at h ⊢
  omega
/-- The first byte of a value's text. -/
theorem wv_first {k : Int} {t : ByteArray} {l : List JV} {m : List (ByteArray × JV)} {lev : Int} {a : List Int} (h : okV ⟨k, t, l, m⟩ lev = true) (hw : WV ⟨k, t, l, m⟩ a) : ∃ c a', a = c :: a' ∧ starter c = true ∧
    (k = 0 → c = 110) ∧ (k = 1 → c = 102) ∧ (k = 2 → c = 116) ∧ (k = 3 → c = 45 ∨ isDig c = true) ∧ (k = 4 → c = 34) ∧ (k = 5 → c = 91) ∧ (k = 6 → c = 123) := by
  obtain ⟨h1, _, _⟩ := okV_one h
  obtain ⟨_, k0, k6, _, _, _, hn, _⟩ := oneN_open h1
  rw [WV] at hw
  by_cases c5 : k = 5
  · rw [if_pos c5] at hw
    obtain ⟨p, r, rfl, _⟩ := hw
    exact ⟨_, _, rfl, by decide, by omega, by omega, by omega, by omega, by omega, by omega, by omega⟩
  rw [if_neg c5] at hw
  by_cases c6 : k = 6
  · rw [if_pos c6] at hw
    obtain ⟨p, r, rfl, _⟩ := hw
    exact ⟨_, _, rfl, by decide, by omega, by omega, by omega, by omega, by omega, by omega, by omega⟩
  rw [if_neg c6] at hw
  rw [putV] at hw
  by_cases c0 : k = 0
  · rw [if_pos c0] at hw; subst hw
    exact ⟨_, _, rfl, by decide, by omega, by omega, by omega, by omega, by omega, by omega, by omega⟩
  rw [if_neg c0] at hw
  by_cases c1 : k = 1
  · rw [if_pos c1] at hw; subst hw
    exact ⟨_, _, rfl, by decide, by omega, by omega, by omega, by omega, by omega, by omega, by omega⟩
  rw [if_neg c1] at hw
  by_cases c2 : k = 2
  · rw [if_pos c2] at hw; subst hw
    exact ⟨_, _, rfl, by decide, by omega, by omega, by omega, by omega, by omega, by omega, by omega⟩
  rw [if_neg c2] at hw
  by_cases c3 : k = 3
  · rw [if_pos c3] at hw; subst hw
    obtain ⟨c, l', e, hc⟩ := wrt_first (hn c3)
    refine ⟨c, l', e, ?_, by omega, by omega, by omega, fun _ => hc, by omega, by omega, by omega⟩
    unfold starter
    unfold isDig at hc
    simp at hc ⊢
    omega
  rw [if_neg c3, if_pos (by omega)] at hw
  subst hw
  exact ⟨_, _, rfl, by decide, by omega, by omega, by omega, by omega, by omega, by omega, by omega⟩
theorem wv_nosp {x : JV} {lev : Int} {a b : List Int} (h : okV x lev = true) (hw : WV x a) : NoSp (a ++ b) := by
  obtain ⟨k, t, l, m⟩ := x
  obtain ⟨c, a', rfl, hs, _⟩ := wv_first h hw
  intro d hd
  simp at hd
  rw [← hd]
  exact starter_nosp hs
theorem wl_len : ∀ (l : List JV) (r : List Int), WL l r → l.length ≤ r.length
  | [], _, _ => by simp
  | x :: l, r, h => by
    rw [WL] at h
    obtain ⟨b, p, q, rfl, _, _, h⟩ := h
    rcases h with ⟨rfl, rfl⟩ | ⟨_, p', r', rfl, _, h⟩
    · simp; omega
    · have := wl_len l r' h
      simp; omega
theorem wm_len : ∀ (l : List (ByteArray × JV)) (r : List Int), WM l r → l.length ≤ r.length
  | [], _, _ => by simp
  | (n, x) :: l, r, h => by
    rw [WM] at h
    obtain ⟨p1, p2, b, p, q, rfl, _, _, _, _, h⟩ := h
    rcases h with ⟨rfl, rfl⟩ | ⟨_, p', r', rfl, _, h⟩
    · simp; omega
    · have := wm_len l r' h
      simp; omega
theorem noNum_sp {p q : List Int} (hp : Sp p) (hq : p = [] → NoNum q) : NoNum (p ++ q) := by
  cases p with
  | nil => exact hq rfl
  | cons c p =>
    intro d hd
    simp at hd
    subst hd
    have := hp c (by simp)
    unfold isSp at this
    unfold isDig
    simp at this ⊢
    omega
theorem noNum_c {c : Int} {q : List Int} (h : c = 44 ∨ c = 93 ∨ c = 125) : NoNum (c :: q) := by
  intro d hd
  simp at hd
  subst hd
  rcases h with rfl | rfl | rfl <;> decide
theorem noSp_c {c : Int} {q : List Int} (h : isSp c = false) : NoSp (c :: q) := by
  intro d hd
  simp at hd
  subst hd
  exact h
theorem word_back {s : ByteArray} : ∀ (w pre post : List Int), ints s = pre ++ (w ++ post) → wordAt s w pre.length = (((pre.length + w.length : Nat) : Int), 0)
  | [], pre, post, h => by simp [wordAt]
  | c :: w, pre, post, h => by
    unfold wordAt
    rw [isAt_0 (l := w ++ post) (c := c) (by rw [h]; simp), if_pos (by simp)]
    have := word_back w (pre ++ [c]) post (by rw [h]; simp)
    rw [List.length_append, List.length_singleton] at this
    rw [this]
    simp
    omega
/-- The loops begin with space. -/
theorem arr_sp {s : ByteArray} {val : Nat → JV × Int × Int} {k i j : Nat} {acc : List JV} (hk : k ≠ 0) (h : spc s i = j) (hj : spc s j = j) : arrK s val k i acc = arrK s val k j acc := by
  cases k with
  | zero => exact absurd rfl hk
  | succ k => unfold arrK; rw [h, hj]
theorem obj_sp {s : ByteArray} {val : Nat → JV × Int × Int} {k i j : Nat} {acc : List (ByteArray × JV)} (hk : k ≠ 0) (h : spc s i = j) (hj : spc s j = j) : objK s val k i acc = objK s val k j acc := by
  cases k with
  | zero => exact absurd rfl hk
  | succ k => unfold objK; rw [h, hj]
mutual
/-- A value is read back. -/
theorem reads_V {s : ByteArray} : ∀ (x : JV) (lev : Int) (L : Nat) (a pre post : List Int), okV x lev = true → WV x a → ints s = pre ++ (a ++ post) → NoNum post → lev + L = 33 → valAt s L pre.length = (x, ((pre.length + a.length : Nat) : Int), 0)
  | ⟨k, t, l, m⟩, lev, L, a, pre, post, ho, hw, h, hn, hL => by
    obtain ⟨c, a', ha, hst, f0, f1, f2, f3, f4, f5, f6⟩ := wv_first ho hw
    obtain ⟨h1, hol, hom⟩ := okV_one ho
    obtain ⟨hlev, k0, k6, ht, hl, hm, hnum, hgood, hnames, hdup⟩ := oneN_open h1
    obtain ⟨L, rfl⟩ : ∃ L', L = L' + 1 := ⟨L - 1, by omega⟩
    have hsz := size_pre h
    have hb : bt s pre.length = c := bt_0 (l := a' ++ post) (by rw [h, ha]; simp)
    have hlt : pre.length < s.size := by rw [hsz, ha]; simp
    have IHL := @reads_L s l (lev + 1) L
    have IHM := @reads_M s m (lev + 1) L
    unfold valAt
    rw [if_neg (by omega), hb, if_neg (by rw [hst]; simp)]
    rw [WV] at hw
    by_cases c5 : k = 5
    · have hc := f5 c5
      rw [if_pos c5] at hw
      obtain ⟨p, r, rfl, hp, hwl⟩ := hw
      obtain rfl := ht (by omega) (by omega)
      obtain rfl := hm (by omega)
      subst c5 hc
      rw [if_neg (by omega), if_neg (by omega), if_neg (by omega), if_neg (by omega), if_pos rfl]
      cases l with
      | nil =>
        rw [WL] at hwl
        subst hwl
        have hsp := spc_sp (s := s) p (pre ++ [91]) ([93] ++ post) (by rw [h]; simp) hp (noSp_c (by decide))
        rw [List.length_append, List.length_singleton] at hsp
        have h93 := isAt_0 (s := s) (pre := pre ++ 91 :: p) (l := post) (c := 93) (by rw [h]; simp) 93
        rw [List.length_append, List.length_cons] at h93
        rw [hsp, show pre.length + 1 + p.length = pre.length + (p.length + 1) by omega, h93, if_pos (by simp)]
        simp
        omega
      | cons y l =>
        have hno : NoSp (r ++ post) := by
          rw [WL] at hwl
          obtain ⟨b, p1, q, rfl, hwb, _⟩ := hwl
          rw [okL, Bool.and_eq_true] at hol
          rw [List.append_assoc]
          exact wv_nosp hol.1 hwb
        have hsp := spc_sp (s := s) p (pre ++ [91]) (r ++ post) (by rw [h]; simp) hp hno
        rw [List.length_append, List.length_singleton] at hsp
        have hr93 : isAt s (pre ++ 91 :: p).length 93 = false := by
          rw [WL] at hwl
          obtain ⟨b, p1, q, rfl, hwb, _⟩ := hwl
          rw [okL, Bool.and_eq_true] at hol
          obtain ⟨yk, yt, yl, ym⟩ := y
          obtain ⟨d, b', rfl, hds, _⟩ := wv_first hol.1 hwb
          rw [isAt_0 (l := b' ++ (p1 ++ q) ++ post) (c := d) (by rw [h]; simp)]
          simp
          rintro rfl
          exact absurd hds (by decide)
        rw [List.length_append, List.length_cons] at hr93
        have hlen := wl_len _ _ hwl
        have := IHL r (pre ++ [91]) p post [] s.size (by simp) hol hwl (by rw [h]; simp) hp (by omega) (by rw [hsz]; simp at hlen ⊢; omega)
        rw [hsp, show pre.length + 1 + p.length = pre.length + (p.length + 1) by omega, hr93, if_neg (by simp)]
        rw [List.length_append, List.length_singleton, show pre.length + 1 + p.length = pre.length + (p.length + 1) by omega] at this
        rw [this]
        simp
        omega
    rw [if_neg c5] at hw
    obtain rfl := hl c5
    by_cases c6 : k = 6
    · have hc := f6 c6
      rw [if_pos c6] at hw
      obtain ⟨p, r, rfl, hp, hwl⟩ := hw
      obtain rfl := ht (by omega) (by omega)
      subst c6 hc
      rw [if_neg (by omega), if_neg (by omega), if_neg (by omega), if_neg (by omega), if_neg (by omega), if_pos rfl]
      cases m with
      | nil =>
        rw [WM] at hwl
        subst hwl
        have hsp := spc_sp (s := s) p (pre ++ [123]) ([125] ++ post) (by rw [h]; simp) hp (noSp_c (by decide))
        rw [List.length_append, List.length_singleton] at hsp
        have h93 := isAt_0 (s := s) (pre := pre ++ 123 :: p) (l := post) (c := 125) (by rw [h]; simp) 125
        rw [List.length_append, List.length_cons] at h93
        rw [hsp, show pre.length + 1 + p.length = pre.length + (p.length + 1) by omega, h93, if_pos (by simp)]
        simp
        omega
      | cons y m =>
        obtain ⟨o, y⟩ := y
        have hr : ∃ r', r = 34 :: r' := by
          rw [WM] at hwl
          obtain ⟨p1, p2, b, p', q, rfl, _⟩ := hwl
          exact ⟨_, rfl⟩
        obtain ⟨r', hr'⟩ := hr
        have hsp := spc_sp (s := s) p (pre ++ [123]) (r ++ post) (by rw [h]; simp) hp (by rw [hr']; exact noSp_c (by decide))
        rw [List.length_append, List.length_singleton] at hsp
        have hr93 := isAt_0 (s := s) (pre := pre ++ 123 :: p) (l := r' ++ post) (c := 34) (by rw [h, hr']; simp) 125
        rw [List.length_append, List.length_cons] at hr93
        have hlen := wm_len _ _ hwl
        have := IHM r (pre ++ [123]) p post [] s.size (by simp) hom hnames (by simpa [nms] using hdup) hwl (by rw [h]; simp) hp (by omega) (by rw [hsz]; simp at hlen ⊢; omega)
        rw [hsp, show pre.length + 1 + p.length = pre.length + (p.length + 1) by omega, hr93, if_neg (by simp)]
        rw [List.length_append, List.length_singleton, show pre.length + 1 + p.length = pre.length + (p.length + 1) by omega] at this
        rw [this]
        simp
        omega
    rw [if_neg c6] at hw
    obtain rfl := hm c6
    rw [putV] at hw
    by_cases d0 : k = 0
    · rw [if_pos d0] at hw
      obtain rfl := ht (by omega) (by omega)
      rw [f0 d0, if_pos rfl, word_back (s := s) [110, 117, 108, 108] pre post (by rw [h, hw]), if_pos rfl, hw, d0]
    rw [if_neg d0] at hw
    by_cases d1 : k = 1
    · rw [if_pos d1] at hw
      obtain rfl := ht (by omega) (by omega)
      rw [f1 d1, if_neg (by omega), if_pos rfl, word_back (s := s) [102, 97, 108, 115, 101] pre post (by rw [h, hw]), if_pos rfl, hw, d1]
    rw [if_neg d1] at hw
    by_cases d2 : k = 2
    · rw [if_pos d2] at hw
      obtain rfl := ht (by omega) (by omega)
      rw [f2 d2, if_neg (by omega), if_neg (by omega), if_pos rfl, word_back (s := s) [116, 114, 117, 101] pre post (by rw [h, hw]), if_pos rfl, hw, d2]
    rw [if_neg d2] at hw
    by_cases d3 : k = 3
    · rw [if_pos d3] at hw
      have hc := f3 d3
      unfold isDig at hc
      simp at hc
      have hnb := num_back (s := s) (t := t) (pre := pre) (post := post) (by rw [h, hw]) hn (hnum d3)
      rw [if_neg (by omega), if_neg (by omega), if_neg (by omega), if_neg (by omega), if_neg (by omega), if_neg (by omega), hnb, if_pos rfl]
      have htx : s.extract pre.length (pre.length + t.size) = t := by
        apply ints_inj
        rw [ints_extract, h, hw, ← ints_length t, ← List.append_assoc, List.take_append_of_le_length (by simp)]
        rw [List.take_of_length_le (by simp), List.drop_left]
      simp only [Int.toNat_natCast]
      rw [htx, hw, ints_length, d3]
    rw [if_neg d3, if_pos (by omega)] at hw
    obtain ⟨lr, e1, e2⟩ := str_back (s := s) (t := t) (pre := pre) (post := post) (hgood (by omega)) (by rw [h, hw])
    rw [f4 (by omega), if_neg (by omega), if_neg (by omega), if_neg (by omega), if_pos rfl, e2, if_pos rfl]
    simp only
    rw [e1, hw, show k = 4 by omega]
theorem reads_L {s : ByteArray} : ∀ (l : List JV) (lev : Int) (L : Nat) (r pre p0 post : List Int) (acc : List JV) (k : Nat), l ≠ [] → okL l lev = true → WL l r → ints s = pre ++ (p0 ++ (r ++ post)) → Sp p0 → lev + L = 33 → l.length ≤ k →
    arrK s (valAt s L) k (pre.length + p0.length) acc = (⟨5, ⟨#[]⟩, acc ++ l, []⟩, ((pre.length + p0.length + r.length : Nat) : Int), 0)
  | [], _, _, _, _, _, _, _, _, h, _, _, _, _, _, _ => absurd rfl h
  | x :: l, lev, L, r, pre, p0, post, acc, 0, _, _, _, _, _, _, hk => by simp at hk
  | x :: l, lev, L, r, pre, p0, post, acc, k + 1, _, ho, hw, h, hp0, hL, hk => by
    rw [okL, Bool.and_eq_true] at ho
    rw [WL] at hw
    obtain ⟨b, p, q, rfl, hwb, hp, hq⟩ := hw
    have IH := @reads_V s x lev L b (pre ++ p0) (p ++ (q ++ post)) ho.1 hwb
    have hno : NoSp (b ++ (p ++ q) ++ post) := by rw [List.append_assoc]; exact wv_nosp ho.1 hwb
    have hs0 := spN_stop (s := s) (pre := pre ++ p0) (q := b ++ (p ++ q) ++ post) (by rw [h]; simp) hno
    rw [List.length_append] at hs0
    have IHL := @reads_L s l lev L
    rcases hq with ⟨rfl, rfl⟩ | ⟨hne, p', r', rfl, hp', hwl⟩
    · have hv := IH (by rw [h]; simp) (noNum_sp hp (fun _ => noNum_c (by simp))) hL
      have hs1 := spc_sp (s := s) p (pre ++ (p0 ++ b)) ([93] ++ post) (by rw [h]; simp) hp (noSp_c (by decide))
      have h93 := isAt_0 (s := s) (pre := pre ++ (p0 ++ (b ++ p))) (l := post) (c := 93) (by rw [h]; simp) 93
      simp only [List.length_append] at hv hs1 h93
      unfold arrK
      simp only [hs0, hv]
      rw [if_neg (by simp), Int.toNat_natCast, show pre.length + p0.length + b.length = pre.length + (p0.length + b.length) by omega, hs1, show pre.length + (p0.length + b.length) + p.length = pre.length + (p0.length + (b.length + p.length)) by omega, h93, if_pos (by simp)]
      simp
      omega
    · have hv := IH (by rw [h]; simp) (noNum_sp hp (fun _ => noNum_c (by simp))) hL
      have hs1 := spc_sp (s := s) p (pre ++ (p0 ++ b)) (44 :: (p' ++ r') ++ post) (by rw [h]; simp) hp (noSp_c (by decide))
      have hat := isAt_0 (s := s) (pre := pre ++ (p0 ++ (b ++ p))) (l := (p' ++ r') ++ post) (c := 44) (by rw [h]; simp)
      have h93 := hat 93
      have h44 := hat 44
      have hno2 : NoSp (r' ++ post) := by
        cases l with
        | nil => exact absurd rfl hne
        | cons y l =>
          rw [WL] at hwl
          obtain ⟨b2, p2, q2, rfl, hwb2, _⟩ := hwl
          rw [okL, Bool.and_eq_true] at ho
          rw [List.append_assoc]
          exact wv_nosp ho.2.1 hwb2
      have hs2 := spc_sp (s := s) p' (pre ++ (p0 ++ (b ++ (p ++ [44])))) (r' ++ post) (by rw [h]; simp) hp' hno2
      have IH2 := IHL r' (pre ++ (p0 ++ (b ++ (p ++ [44])))) p' post (acc ++ [x]) k hne ho.2 hwl (by rw [h]; simp) hp' hL (by simp at hk; omega)
      simp only [List.length_append, List.length_singleton] at hv hs1 h93 h44 hs2 IH2
      unfold arrK
      simp only [hs0, hv]
      rw [if_neg (by simp), Int.toNat_natCast, show pre.length + p0.length + b.length = pre.length + (p0.length + b.length) by omega, hs1, show pre.length + (p0.length + b.length) + p.length = pre.length + (p0.length + (b.length + p.length)) by omega, h93, if_neg (by simp), h44, if_pos (by simp)]
      have e1 := arr_sp (s := s) (val := valAt s L) (k := k) (i := pre.length + (p0.length + (b.length + (p.length + 1)))) (acc := acc ++ [x]) (hk := by have := List.length_pos_iff.2 hne; simp at hk; omega) (j := pre.length + (p0.length + (b.length + (p.length + 1))) + p'.length) hs2 (by have := spN_stop (s := s) (pre := pre ++ (p0 ++ (b ++ (p ++ 44 :: p')))) (q := r' ++ post) (by rw [h]; simp) hno2; simp only [List.length_append, List.length_cons] at this; rw [show pre.length + (p0.length + (b.length + (p.length + 1))) + p'.length = pre.length + (p0.length + (b.length + (p.length + (p'.length + 1)))) by omega]; exact this)
      rw [show pre.length + (p0.length + (b.length + p.length)) + 1 = pre.length + (p0.length + (b.length + (p.length + 1))) by omega, e1, IH2]
      simp
      omega
theorem reads_M {s : ByteArray} : ∀ (l : List (ByteArray × JV)) (lev : Int) (L : Nat) (r pre p0 post : List Int) (acc : List (ByteArray × JV)) (k : Nat), l ≠ [] → okM l lev = true → (l.map Prod.fst).all goodT = true → dupN (nms acc) (nms l) = false → WM l r → ints s = pre ++ (p0 ++ (r ++ post)) → Sp p0 → lev + L = 33 → l.length ≤ k →
    objK s (valAt s L) k (pre.length + p0.length) acc = (⟨6, ⟨#[]⟩, [], acc ++ l⟩, ((pre.length + p0.length + r.length : Nat) : Int), 0)
  | [], _, _, _, _, _, _, _, _, h, _, _, _, _, _, _, _, _ => absurd rfl h
  | x :: l, lev, L, r, pre, p0, post, acc, 0, _, _, _, _, _, _, _, _, hk => by simp at hk
  | (n, x) :: l, lev, L, r, pre, p0, post, acc, k + 1, _, ho, hg, hd, hw, h, hp0, hL, hk => by
    rw [okM, Bool.and_eq_true] at ho
    rw [WM] at hw
    obtain ⟨p1, p2, b, p, q, rfl, hp1, hp2, hwb, hp, hq⟩ := hw
    have hgn : goodT n = true := by simp at hg; exact hg.1
    have hgl : (l.map Prod.fst).all goodT = true := by simp at hg ⊢; exact hg.2
    have hd1 : ints n ∉ nms acc := by
      intro hm
      simp [nms, dupN] at hd
      simp [nms] at hm
      obtain ⟨a, ⟨b', hb'⟩, e⟩ := hm
      exact hd.1 a b' hb' e
    have hd2 : dupN (nms (acc ++ [(n, x)])) (nms l) = false := by
      simp only [nms, List.map_cons, dupN, Bool.or_eq_false_iff] at hd
      simp only [nms, List.map_append, List.map_cons, List.map_nil]
      exact hd.2
    have IH := @reads_V s x lev L b (pre ++ (p0 ++ (quo (ints n) ++ (p1 ++ 58 :: p2)))) (p ++ (q ++ post)) ho.1 hwb
    have hs0 := spN_stop (s := s) (pre := pre ++ p0) (q := quo (ints n) ++ (p1 ++ 58 :: (p2 ++ (b ++ (p ++ q)))) ++ post) (by rw [h]; simp) (by rw [quo_eq]; exact noSp_c (by decide))
    obtain ⟨lr, e1, e2⟩ := str_back (s := s) (t := n) (pre := pre ++ p0) (post := p1 ++ 58 :: (p2 ++ (b ++ (p ++ (q ++ post))))) hgn (by rw [h]; simp)
    have hs1 := spc_sp (s := s) p1 (pre ++ (p0 ++ quo (ints n))) (58 :: (p2 ++ (b ++ (p ++ (q ++ post))))) (by rw [h]; simp) hp1 (noSp_c (by decide))
    have h58 := isAt_0 (s := s) (pre := pre ++ (p0 ++ (quo (ints n) ++ p1))) (l := p2 ++ (b ++ (p ++ (q ++ post)))) (c := 58) (by rw [h]; simp) 58
    have hs2 := spc_sp (s := s) p2 (pre ++ (p0 ++ (quo (ints n) ++ (p1 ++ [58])))) (b ++ (p ++ (q ++ post))) (by rw [h]; simp) hp2 (wv_nosp ho.1 hwb)
    have IHL := @reads_M s l lev L
    unfold objK
    rcases hq with ⟨rfl, rfl⟩ | ⟨hne, p', r', rfl, hp', hwl⟩
    · have hv := IH (by rw [h]; simp) (noNum_sp hp (fun _ => noNum_c (by simp))) hL
      have hs3 := spc_sp (s := s) p (pre ++ (p0 ++ (quo (ints n) ++ (p1 ++ 58 :: (p2 ++ b))))) ([125] ++ post) (by rw [h]; simp) hp (noSp_c (by decide))
      have h93 := isAt_0 (s := s) (pre := pre ++ (p0 ++ (quo (ints n) ++ (p1 ++ 58 :: (p2 ++ (b ++ p)))))) (l := post) (c := 125) (by rw [h]; simp) 125
      simp only [List.length_append, List.length_cons, List.length_nil] at hv hs0 e2 hs1 h58 hs2 hs3 h93
      obtain ⟨qn, hqn⟩ : ∃ qn, (quo (ints n)).length = qn := ⟨_, rfl⟩
      simp only [hqn] at hv e2 hs1 h58 hs2 hs3 h93
      simp only [hs0, e2]
      rw [if_neg (by simp), e1, if_neg hd1, Int.toNat_natCast, show pre.length + p0.length + qn = pre.length + (p0.length + qn) by omega, hs1, show pre.length + (p0.length + qn) + p1.length = pre.length + (p0.length + (qn + p1.length)) by omega, h58, if_neg (by simp),
        show pre.length + (p0.length + (qn + p1.length)) + 1 = pre.length + (p0.length + (qn + (p1.length + (0 + 1)))) by omega, hs2, show pre.length + (p0.length + (qn + (p1.length + (0 + 1)))) + p2.length = pre.length + (p0.length + (qn + (p1.length + (p2.length + 1)))) by omega]
      simp only [hv]
      rw [if_neg (by simp), Int.toNat_natCast, show pre.length + (p0.length + (qn + (p1.length + (p2.length + 1)))) + b.length = pre.length + (p0.length + (qn + (p1.length + (p2.length + b.length + 1)))) by omega, hs3,
        show pre.length + (p0.length + (qn + (p1.length + (p2.length + b.length + 1)))) + p.length = pre.length + (p0.length + (qn + (p1.length + (p2.length + (b.length + p.length) + 1)))) by omega, h93, if_pos (by simp)]
      simp
      omega
    · have hv := IH (by rw [h]; simp) (noNum_sp hp (fun _ => noNum_c (by simp))) hL
      have hs3 := spc_sp (s := s) p (pre ++ (p0 ++ (quo (ints n) ++ (p1 ++ 58 :: (p2 ++ b))))) (44 :: (p' ++ r') ++ post) (by rw [h]; simp) hp (noSp_c (by decide))
      have hat := isAt_0 (s := s) (pre := pre ++ (p0 ++ (quo (ints n) ++ (p1 ++ 58 :: (p2 ++ (b ++ p)))))) (l := (p' ++ r') ++ post) (c := 44) (by rw [h]; simp)
      have h93 := hat 125
      have h44 := hat 44
      have hno2 : NoSp (r' ++ post) := by
        cases l with
        | nil => exact absurd rfl hne
        | cons y l =>
          obtain ⟨o, y⟩ := y
          rw [WM] at hwl
          obtain ⟨y1, y2, yb, yp, yq, rfl, _⟩ := hwl
          rw [quo_eq]
          exact noSp_c (by decide)
      have hs4 := spc_sp (s := s) p' (pre ++ (p0 ++ (quo (ints n) ++ (p1 ++ 58 :: (p2 ++ (b ++ (p ++ [44]))))))) (r' ++ post) (by rw [h]; simp) hp' hno2
      have hs5 := spN_stop (s := s) (pre := pre ++ (p0 ++ (quo (ints n) ++ (p1 ++ 58 :: (p2 ++ (b ++ (p ++ 44 :: p'))))))) (q := r' ++ post) (by rw [h]; simp) hno2
      have IH2 := IHL r' (pre ++ (p0 ++ (quo (ints n) ++ (p1 ++ 58 :: (p2 ++ (b ++ (p ++ [44]))))))) p' post (acc ++ [(n, x)]) k hne ho.2 hgl hd2 hwl (by rw [h]; simp) hp' hL (by simp at hk; omega)
      simp only [List.length_append, List.length_cons, List.length_nil] at hv hs0 e2 hs1 h58 hs2 hs3 h93 h44 hs4 hs5 IH2
      obtain ⟨qn, hqn⟩ : ∃ qn, (quo (ints n)).length = qn := ⟨_, rfl⟩
      simp only [hqn] at hv e2 hs1 h58 hs2 hs3 h93 h44 hs4 hs5 IH2
      simp only [hs0, e2]
      rw [if_neg (by simp), e1, if_neg hd1, Int.toNat_natCast, show pre.length + p0.length + qn = pre.length + (p0.length + qn) by omega, hs1, show pre.length + (p0.length + qn) + p1.length = pre.length + (p0.length + (qn + p1.length)) by omega, h58, if_neg (by simp),
        show pre.length + (p0.length + (qn + p1.length)) + 1 = pre.length + (p0.length + (qn + (p1.length + (0 + 1)))) by omega, hs2, show pre.length + (p0.length + (qn + (p1.length + (0 + 1)))) + p2.length = pre.length + (p0.length + (qn + (p1.length + (p2.length + 1)))) by omega]
      simp only [hv]
      rw [if_neg (by simp), Int.toNat_natCast, show pre.length + (p0.length + (qn + (p1.length + (p2.length + 1)))) + b.length = pre.length + (p0.length + (qn + (p1.length + (p2.length + b.length + 1)))) by omega, hs3,
        show pre.length + (p0.length + (qn + (p1.length + (p2.length + b.length + 1)))) + p.length = pre.length + (p0.length + (qn + (p1.length + (p2.length + (b.length + p.length) + 1)))) by omega, h93, if_neg (by simp), h44, if_pos (by simp)]
      have e3 := obj_sp (s := s) (val := valAt s L) (k := k) (acc := acc ++ [(n, x)]) (by have := List.length_pos_iff.2 hne; simp at hk; omega) hs4 (by rw [show pre.length + (p0.length + (qn + (p1.length + (p2.length + (b.length + (p.length + (0 + 1))) + 1)))) + p'.length = pre.length + (p0.length + (qn + (p1.length + (p2.length + (b.length + (p.length + (p'.length + 1))) + 1)))) by omega]; exact hs5)
      rw [show pre.length + (p0.length + (qn + (p1.length + (p2.length + (b.length + p.length) + 1)))) + 1 = pre.length + (p0.length + (qn + (p1.length + (p2.length + (b.length + (p.length + (0 + 1))) + 1)))) by omega, e3, IH2]
      simp
      omega
end
end
end

section
section
open Go.RowKit Go.PlainAid

/-- A text of a right value, with space around it, is read to that value. -/
theorem readV_back {s : ByteArray} {x : JV} {p a q : List Int} (ho : okV x 1 = true) (hw : WV x a) (h : ints s = p ++ (a ++ q)) (hp : Sp p) (hq : Sp q) (hl : s.size ≤ 4194304) : readV s = (x, ((p.length + a.length : Nat) : Int), 0) := by
  have hs0 := spc_sp (s := s) p [] (a ++ q) (by rw [h]; rfl) hp (wv_nosp ho hw)
  have hv := reads_V (s := s) x 1 32 a p q ho hw h (by have := noNum_sp (q := []) hq (fun _ => (fun d hd => by simp at hd)); simpa using this) (by omega)
  have hs1 := spc_sp (s := s) q (p ++ a) [] (by rw [h]; simp) hq (fun d hd => by simp at hd)
  have hsz := size_pre h
  simp only [List.length_append, List.length_nil, Nat.zero_add] at hs0 hs1 hsz
  unfold readV
  rw [if_neg (by omega), hs0]
  simp only [hv]
  rw [if_neg (by simp), Int.toNat_natCast, hs1, if_neg (by omega)]
theorem chk_ok (x : JV) : (chk x).2 = 0 ↔ okV x 1 = true := lkV_ok x 1 0

theorem quo1_len' (b : Int) : (quo1 b).length ≤ 6 := by unfold quo1; (repeat' split) <;> simp
theorem quo_le (t : ByteArray) : (quo (ints t)).length ≤ 6 * t.size + 2 := by
  have h : ∀ l : List Int, (l.map quo1).flatten.length ≤ 6 * l.length := by
    intro l
    induction l with
    | nil => simp
    | cons c l ih =>
      have := quo1_len' c
      simp only [List.map_cons, List.flatten_cons, List.length_append, List.length_cons]
      omega
  have := h (ints t)
  rw [ints_length] at this
  unfold quo
  simp only [List.length_cons, List.length_append, List.length_nil]
  omega
mutual
/-- How long a text is at most. -/
theorem putV_len : ∀ x : JV, (putV x).length + 5 ≤ 14 * totV x
  | ⟨k, t, l, m⟩ => by
    have h1 := putL_len l
    have h2 := putM_len m
    have h3 := quo_le t
    have h4 := ints_length t
    rw [putV, totV]
    (repeat' split) <;> (try simp only [List.length_cons, List.length_append, List.length_nil]) <;> omega
theorem putL_len : ∀ l : List JV, (joinC (putL l)).length + l.length ≤ 14 * totL l
  | [] => by simp [putL, joinC, totL]
  | x :: l => by
    have h1 := putV_len x
    have h2 := putL_len l
    rw [totL]
    cases l with
    | nil => simp [putL, joinC, totL]; omega
    | cons y l =>
      simp only [putL, joinC_cons] at h2 ⊢
      simp only [List.length_cons, List.length_append] at h2 ⊢
      omega
theorem putM_len : ∀ l : List (ByteArray × JV), (joinC (putM l)).length + l.length ≤ 14 * totM l
  | [] => by simp [putM, joinC, totM]
  | (n, x) :: l => by
    have h1 := putV_len x
    have h2 := putM_len l
    have h3 := quo_le n
    rw [totM]
    cases l with
    | nil => simp [putM, joinC, totM]; omega
    | cons y l =>
      obtain ⟨o, y⟩ := y
      simp only [putM, joinC_cons] at h2 ⊢
      simp only [List.length_cons, List.length_append] at h2 ⊢
      omega
end
theorem hexl_range (x : Int) (h0 : 0 ≤ x) (h1 : x < 16) : 0 ≤ hexl x ∧ hexl x ≤ 255 := by unfold hexl; split <;> omega
theorem quo_range (t : ByteArray) : ∀ c ∈ quo (ints t), 0 ≤ c ∧ c ≤ 255 := by
  intro c hc
  unfold quo at hc
  simp only [List.mem_cons, List.mem_append, List.not_mem_nil, or_false, List.mem_flatten, List.mem_map] at hc
  rcases hc with rfl | ⟨_, ⟨b, hb, rfl⟩, hc⟩ | rfl
  · omega
  · have hbr := ints_range t b hb
    have x1 := hexl_range (b / 16) (by omega) 
    have x2 := hexl_range (b % 16) (by omega) (by omega)
    unfold quo1 at hc
    (repeat' split at hc) <;> simp at hc <;> omega
  · omega
theorem joinC_range {ls : List (List Int)} (h : ∀ l ∈ ls, ∀ c ∈ l, 0 ≤ c ∧ c ≤ 255) : ∀ c ∈ joinC ls, (0 : Int) ≤ c ∧ c ≤ 255 := by
  intro c hc
  cases ls with
  | nil => simp [joinC] at hc
  | cons a ls =>
    simp only [joinC, List.mem_append, List.mem_flatten, List.mem_map] at hc
    rcases hc with hc | ⟨_, ⟨b, hb, rfl⟩, hc⟩
    · exact h a (by simp) c hc
    · rcases List.mem_cons.1 hc with rfl | hc
      · omega
      · exact h b (by simp [hb]) c hc
mutual
theorem putV_range : ∀ (x : JV), ∀ c ∈ putV x, (0 : Int) ≤ c ∧ c ≤ 255
  | ⟨k, t, l, m⟩ => by
    have h1 := joinC_range (putL_range l)
    have h2 := joinC_range (putM_range m)
    have h3 := quo_range t
    have h4 := ints_range t
    intro c hc
    rw [putV] at hc
    (repeat' split at hc)
    · simp at hc; omega
    · simp at hc; omega
    · simp at hc; omega
    · exact h4 c hc
    · exact h3 c hc
    · simp only [List.mem_cons, List.mem_append, List.not_mem_nil, or_false] at hc
      rcases hc with rfl | hc | rfl
      · omega
      · exact h1 c hc
      · omega
    · simp only [List.mem_cons, List.mem_append, List.not_mem_nil, or_false] at hc
      rcases hc with rfl | hc | rfl
      · omega
      · exact h2 c hc
      · omega
    · simp at hc
theorem putL_range : ∀ (ls : List JV), ∀ l ∈ putL ls, ∀ c ∈ l, (0 : Int) ≤ c ∧ c ≤ 255
  | [], l, hl => by simp [putL] at hl
  | x :: ls, l, hl => by
    have h1 := putV_range x
    rw [putL] at hl
    rcases List.mem_cons.1 hl with rfl | hl
    · exact h1
    · exact putL_range ls l hl
theorem putM_range : ∀ (ls : List (ByteArray × JV)), ∀ l ∈ putM ls, ∀ c ∈ l, (0 : Int) ≤ c ∧ c ≤ 255
  | [], l, hl => by simp [putM] at hl
  | (n, x) :: ls, l, hl => by
    have h1 := putV_range x
    rw [putM] at hl
    rcases List.mem_cons.1 hl with rfl | hl
    · intro c hc
      rcases List.mem_append.1 hc with hc | hc
      · exact quo_range n c hc
      · rcases List.mem_cons.1 hc with rfl | hc
        · omega
        · exact h1 c hc
    · exact putM_range ls l hl
end
/-- A right value's text is read to it. -/
theorem readV_put {x : JV} (ho : okV x 1 = true) (ht : totV x ≤ 100000) : ∃ p : Int, readV (strOfNums (putV x)) = (x, p, 0) := by
  have hi := ints_nums (putV x) (putV_range x)
  have hs : (strOfNums (putV x)).size = (putV x).length := strOfNums_size _
  have hl := putV_len x
  exact ⟨_, readV_back (s := strOfNums (putV x)) (p := []) (a := putV x) (q := []) ho (wv_put x) (by rw [hi]; simp) sp_nil sp_nil (by omega)⟩
end
end
end Go.Proofs.YtpdpgppaoipnlaaDoor

