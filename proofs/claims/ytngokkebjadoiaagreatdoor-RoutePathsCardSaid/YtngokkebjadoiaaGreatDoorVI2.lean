/- What the claim uses of the text I2. -/
import Derived.Test.YtngokkebjadoiaaGreatDoorVPAllx0
import Derived.Test.YtngokkebjadoiaaGreatDoorVI1
set_option linter.unusedVariables false
set_option linter.unusedSimpArgs false
namespace Go.Proofs.YtngokkebjadoiaaGreatDoor
open Go.RowKit Go.Proofs.YtngokkebjadoiaaGreatDoorW.PrintWords PAll

theorem w64 {n : Int} (h0 : -9223372036854775808 ≤ n) (h1 : n ≤ 9223372036854775807) : wrap64 n = n := by unfold wrap64; omega
theorem btP (s : ByteArray) (i : Int) : bt s i = PlainAid.bt s i.toNat := rfl
theorem ext_ints (s : ByteArray) (at_ n : Int) (h0 : 0 ≤ at_) (hn : 0 ≤ n) (h : at_ + n ≤ s.size) : ints (s.extract at_.toNat (at_ + n).toNat) = (List.range n.toNat).map fun (i : Nat) => bt s (at_ + (i : Int)) := by
  apply List.ext_getElem?
  intro i
  rw [ints_extract, List.getElem?_drop, List.getElem?_take]
  by_cases hi : i < n.toNat
  · rw [if_pos (by omega), List.getElem?_map, List.getElem?_range hi]
    simp only [Option.map_some, btP, bt_ints]
    rw [show (at_ + (i : Int)).toNat = at_.toNat + i by omega, List.getD_eq_getElem?_getD, List.getElem?_eq_getElem (by rw [ints_length]; omega)]
    rfl
  · rw [if_neg (by omega), List.getElem?_map, List.getElem?_eq_none (by simp; omega)]
    rfl

theorem ext_ints_1 (s : ByteArray) (at_ : Int) (h0 : 0 ≤ at_) (h : at_ + 1 ≤ s.size) : ints (s.extract at_.toNat (at_ + 1).toNat) = [bt s at_] := by
  rw [ext_ints s at_ 1 h0 (by omega) h]
  simp [List.range_succ]
theorem ext_one (s : ByteArray) (at_ : Int) (h0 : 0 ≤ at_) (h1 : at_ + 1 ≤ s.size) : s.extract at_.toNat (at_ + 1).toNat = strOfNums [bt s at_] := by
  apply ints_inj
  rw [ext_ints_1 s at_ h0 h1, ints_nums]
  intro x hx
  rw [List.mem_singleton.1 hx]
  exact bt_range s at_
theorem nums_size (xs : List Int) : (strOfNums xs).size = xs.length := strOfNums_size xs
theorem plain_f (b : Int) (h0 : 0 ≤ b) (h1 : b ≤ 255) : eponymref02_Plain.f b = some (plainB b.toNat) := by
  obtain ⟨n, rfl⟩ := Int.eq_ofNat_of_zero_le h0
  rw [Int.toNat_natCast]
  unfold eponymref02_Plain.f
  (repeat' split) <;> (congr 1; rw [Bool.eq_iff_iff]; simp [plainB]; omega)
theorem hex_f (n : Int) (h0 : 0 ≤ n) (h1 : n ≤ 15) : eponymref02_hex.f n = some (hexc n) := by
  unfold eponymref02_hex.f hexc
  split <;> (congr 1; omega)
theorem has_l (keep : ByteArray) (hk : keep.size ≤ 1000000) (b : Int) (k : Nat) : ∀ (n i : Nat), i + n = keep.size → eponymref02_has.l0 (k + n + 1) keep b i = some (decide (b ∈ (ints keep).drop i)) := by
  intro n
  induction n with
  | zero =>
    intro i h
    rw [eponymref02_has.l0, if_neg (by omega), List.drop_of_length_le (by rw [ints_length]; omega)]
    simp
  | succ n ih =>
    intro i h
    have hi : i < (ints keep).length := by rw [ints_length]; omega
    have e : (ints keep)[i] = bt keep i := by rw [btP, Int.toNat_natCast, bt_ints, List.getD_eq_getElem?_getD, List.getElem?_eq_getElem hi]; rfl
    rw [show k + (n + 1) + 1 = (k + n + 1) + 1 by omega, eponymref02_has.l0, if_pos (by omega), if_pos (by omega), List.drop_eq_getElem_cons hi, e]
    by_cases hb : bt keep i = b
    · rw [if_pos hb, hb]; simp
    · rw [if_neg hb, w64 (by omega) (by omega), show (i : Int) + 1 = ((i + 1 : Nat) : Int) by omega, ih (i + 1) (by omega)]
      congr 1
      rw [Bool.eq_iff_iff]
      simp [show ¬ b = bt keep i from fun h => hb h.symm]
theorem has_f (keep : ByteArray) (hk : keep.size ≤ 1000000) (b : Int) (h0 : 0 ≤ b) (k : Nat) (hkk : keep.size + 1 ≤ k) : eponymref02_has.f k keep b = some (bin keep b.toNat) := by
  unfold eponymref02_has.f
  have := has_l keep hk b (k - keep.size - 1) keep.size 0 (by omega)
  rw [show k - keep.size - 1 + keep.size + 1 = k by omega] at this
  simp only [List.drop_zero] at this
  rw [show ((0 : Nat) : Int) = 0 from rfl] at this
  rw [this]
  unfold bin
  rw [Int.toNat_of_nonneg h0]
theorem escape_j (s keep : ByteArray) (hs : s.size ≤ 100000) (out : List Int) (i : Nat) (st : Bool) (k : Nat) (hi : i < s.size) (ho : out.length ≤ 3 * i) (r : Option ByteArray)
    (h : eponymref02_Escape.l0 k s keep (strOfNums (out ++ if st = true then [bt s i] else [37, hexc (bt s i / 16), hexc (bt s i % 16)])) (i + 1 : Nat) = r) :
    eponymref02_Escape.j1 (k + 1) s keep (strOfNums out) i (bt s i) st = r := by
  have r0 := bt_range s i
  rw [eponymref02_Escape.j1]
  have e1 : wrap64 ((i : Int) + 1) = ((i + 1 : Nat) : Int) := by rw [w64 (by omega) (by omega)]; omega
  cases st with
  | true =>
    rw [if_pos rfl, e1, if_pos (by omega), if_pos (by omega), if_pos (by omega)]
    have hx := ext_one s i (by omega) (by omega)
    rw [show ((i : Int) + 1).toNat = ((i + 1 : Nat) : Int).toNat by omega] at hx
    rw [hx, if_pos (by rw [nums_size, nums_size]; simp; omega), nums_append']
    simpa using h
  | false =>
    have d1 : Int.tdiv (bt s i) 16 % 256 = bt s i / 16 := by rw [Int.tdiv_eq_ediv_of_nonneg r0.1]; omega
    have d2 : Int.tmod (bt s i) 16 = bt s i % 16 := by rw [Int.tmod_eq_emod_of_nonneg r0.1]
    rw [if_neg (by simp), d1, d2, hex_f _ (by omega) (by omega), hex_f _ (by omega) (by omega)]
    simp only [Option.bind_some]
    rw [if_pos (by rw [nums_size, nums_size]; simp; omega), e1, nums_append']
    simpa using h
theorem escape_l (s keep : ByteArray) (hs : s.size ≤ 100000) (hk : keep.size ≤ 100000) (k : Nat) : ∀ (n i : Nat), i + n = s.size →
    eponymref02_Escape.l0 (k + 2 * n + keep.size + 2) s keep (strOfNums (escL (stay keep) ((ints s).take i))) i = some (strOfNums (escL (stay keep) (ints s))) := by
  intro n
  induction n with
  | zero =>
    intro i h
    rw [show k + 2 * 0 + keep.size + 2 = (k + keep.size + 1) + 1 by omega, eponymref02_Escape.l0, if_neg (by omega), List.take_of_length_le (by rw [ints_length]; omega)]
  | succ n ih =>
    intro i h
    have r0 := bt_range s i
    have hE := escL_take (stay keep) s i (by omega)
    have hlen : (escL (stay keep) ((ints s).take i)).length ≤ 3 * i := by
      have := escL_len (stay keep) ((ints s).take i)
      have h2 : ((ints s).take i).length ≤ i := List.length_take_le _ _
      omega
    have ih' := ih (i + 1) (by omega)
    rw [hE, ← Int.toNat_natCast i, ← btP, Int.toNat_natCast] at ih'
    rw [show k + 2 * (n + 1) + keep.size + 2 = ((k + 2 * n + keep.size + 2) + 1) + 1 by omega, eponymref02_Escape.l0, if_pos (by omega), if_pos (by omega), plain_f _ r0.1 r0.2]
    simp only [Option.bind_some]
    unfold esc1 stay at ih'
    by_cases hp : plainB (bt s i).toNat = true
    · rw [if_pos hp]
      apply escape_j s keep hs _ i true _ (by omega) hlen
      rw [if_pos rfl]
      rw [if_pos (by
        rw [hp]
        by_cases h37 : (bt s i).toNat = 37
        · rw [h37] at hp; simp [plainB] at hp
        · rw [if_neg h37]; rfl)] at ih'
      exact ih'
    · rw [if_neg hp]
      have hp' : plainB (bt s i).toNat = false := by simpa using hp
      by_cases h37 : bt s i = 37
      · rw [if_pos h37]
        apply escape_j s keep hs _ i false _ (by omega) hlen
        rw [if_neg (by simp)]
        rw [if_neg (by rw [if_pos (by omega)]; simp)] at ih'
        exact ih'
      · rw [if_neg h37, has_f keep (by omega) _ r0.1 _ (by omega)]
        simp only [Option.bind_some]
        apply escape_j s keep hs _ i _ _ (by omega) hlen
        rw [if_neg (show ¬ (bt s i).toNat = 37 by omega), hp', Bool.false_or] at ih'
        exact ih'
theorem ref_escape (s keep : ByteArray) (hs : s.size ≤ 100000) (hk : keep.size ≤ 100000) : eponymref02_Escape.f (2 * s.size + keep.size + 2) s keep = some (strOfNums (escL (stay keep) (ints s))) := by
  have := escape_l s keep hs hk 0 s.size 0 (by omega)
  rw [show 0 + 2 * s.size + keep.size + 2 = 2 * s.size + keep.size + 2 by omega] at this
  exact this

def keepS : ByteArray := ⟨#[42, 58]⟩
/-- A text's escaped form in a path. -/
def escT (l : List Int) : List Int := escL (stay keepS) l
theorem esc_any (s : ByteArray) (w : World) (hs : s.size ≤ 100000) :
    Calls Tryz.prog 17 #[.string s] w fun e w' => e = .returned (.string (strOfNums (escT (ints s)))) ∧ Hid (Below w.heap.size w w') :=
  eponymref25_esc.calls (2 * s.size + 2 + 2) s _ w (by
    have h := ref_escape s keepS hs (by decide)
    unfold eponymref25_esc.f
    rw [show (⟨#[42, 58]⟩ : ByteArray) = keepS from rfl, show 2 * s.size + 2 + 2 = 2 * s.size + keepS.size + 2 from rfl, h]
    rfl)

theorem take_map (s : ByteArray) (f : Int → Int) (i : Nat) (h : i < s.size) : ((ints s).take (i + 1)).map f = ((ints s).take i).map f ++ [f (bt s i)] := by
  have h' : i < (ints s).length := by rw [ints_length]; exact h
  have e : (ints s)[i] = bt s i := by rw [btP, Int.toNat_natCast, bt_ints, List.getD_eq_getElem?_getD, List.getElem?_eq_getElem h']; rfl
  rw [List.take_succ_eq_append_getElem h', e]
  simp
theorem take_len (s : ByteArray) (f : Int → Int) (i : Nat) : (((ints s).take i).map f).length ≤ i := by
  rw [List.length_map]; exact List.length_take_le _ _
theorem caps_l (s : ByteArray) (hs : s.size ≤ 1000000) : ∀ (n i : Nat), i + n = s.size →
    eponymref22_Capitals.l0 (n + 1) s (strOfNums (((ints s).take i).map capB)) i = some (strOfNums ((ints s).map capB))
  | 0, i, h => by rw [eponymref22_Capitals.l0, if_neg (by omega), List.take_of_length_le (by rw [ints_length]; omega)]
  | n + 1, i, h => by
    have r0 := bt_range s i
    have hl := take_len s capB i
    have ih := caps_l s hs n (i + 1) (by omega)
    rw [take_map s capB i (by omega)] at ih
    rw [eponymref22_Capitals.l0, if_pos (by omega), if_pos (by omega)]
    have e1 : wrap64 ((i : Int) + 1) = ((i + 1 : Nat) : Int) := by rw [w64 (by omega) (by omega)]; omega
    have hsz : ∀ x : Int, (strOfNums (((ints s).take i).map capB)).size + (strOfNums [x]).size ≤ 9223372036854775807 := fun x => by rw [nums_size, nums_size]; simp only [List.length_cons, List.length_nil]; omega
    simp only [Option.bind_some]
    by_cases h1 : bt s i ≥ 97
    · rw [if_pos h1]
      by_cases h2 : bt s i ≤ 122
      · rw [if_pos h2, if_pos (hsz _), e1, nums_append', show (bt s (i : Int) - 32) % 256 = capB (bt s i) by unfold capB; rw [if_pos ⟨h1, h2⟩]; omega]
        exact ih
      · rw [if_neg h2, if_pos (hsz _), e1, nums_append', show bt s (i : Int) = capB (bt s i) by unfold capB; rw [if_neg (by omega)]]
        exact ih
    · rw [if_neg h1, if_pos (hsz _), e1, nums_append', show bt s (i : Int) = capB (bt s i) by unfold capB; rw [if_neg (by omega)]]
      exact ih
theorem Capitals_any (s : ByteArray) (w : World) (hs : s.size ≤ 1000000) :
    Calls Tryz.prog 18 #[.string s] w fun e w' => e = .returned (.string (strOfNums ((ints s).map capB))) ∧ Hid (Below w.heap.size w w') :=
  eponymref22_Capitals.calls (s.size + 1) s _ w (by
    have := caps_l s hs s.size 0 (by omega)
    unfold eponymref22_Capitals.f
    exact this)
theorem low_l (s : ByteArray) (hs : s.size ≤ 1000000) : ∀ (n i : Nat), i + n = s.size →
    eponymref14_lower.l0 (n + 1) s (strOfNums (((ints s).take i).map lowB)) i = some (strOfNums ((ints s).map lowB))
  | 0, i, h => by rw [eponymref14_lower.l0, if_neg (by omega), List.take_of_length_le (by rw [ints_length]; omega)]
  | n + 1, i, h => by
    have r0 := bt_range s i
    have hl := take_len s lowB i
    have ih := low_l s hs n (i + 1) (by omega)
    rw [take_map s lowB i (by omega)] at ih
    rw [eponymref14_lower.l0, if_pos (by omega), if_pos (by omega)]
    have e1 : wrap64 ((i : Int) + 1) = ((i + 1 : Nat) : Int) := by rw [w64 (by omega) (by omega)]; omega
    have hsz : ∀ x : Int, (strOfNums (((ints s).take i).map lowB)).size + (strOfNums [x]).size ≤ 9223372036854775807 := fun x => by rw [nums_size, nums_size]; simp only [List.length_cons, List.length_nil]; omega
    simp only [Option.bind_some]
    by_cases h1 : bt s i ≥ 65
    · rw [if_pos h1]
      by_cases h2 : bt s i ≤ 70
      · rw [if_pos h2, if_pos (hsz _), e1, nums_append', show (bt s (i : Int) + 32) % 256 = lowB (bt s i) by unfold lowB; rw [if_pos ⟨h1, h2⟩]; omega]
        exact ih
      · rw [if_neg h2, if_pos (hsz _), e1, nums_append', show bt s (i : Int) = lowB (bt s i) by unfold lowB; rw [if_neg (by omega)]]
        exact ih
    · rw [if_neg h1, if_pos (hsz _), e1, nums_append', show bt s (i : Int) = lowB (bt s i) by unfold lowB; rw [if_neg (by omega)]]
      exact ih
theorem lower_any (s : ByteArray) (w : World) (hs : s.size ≤ 1000000) :
    Calls Tryz.prog 40 #[.string s] w fun e w' => e = .returned (.string (strOfNums ((ints s).map lowB))) ∧ Hid (Below w.heap.size w w') :=
  eponymref14_lower.calls (s.size + 1) s _ w (by
    have := low_l s hs s.size 0 (by omega)
    unfold eponymref14_lower.f
    exact this)

theorem dig_step (b : Nat) (h2 : 2 ≤ b) (h16 : b ≤ 16) (k n : Nat) (l : List Int) (hn : n ≤ 9223372036854775807) (ha : l.length ≤ 1000) :
    eponymref03_Digits.j1 (k + 1) n b (strOfNums l) true = eponymref03_Digits.l0 k ((n / b : Nat) : Int) b (strOfNums (hexc ((n % b : Nat) : Int) :: l)) := by
  have hb : n % b < b := Nat.mod_lt n (by omega)
  have e1 : Int.tmod (n : Int) b = ((n % b : Nat) : Int) := by rw [Int.tmod_eq_emod_of_nonneg (by omega)]; omega
  have e2 : Int.tdiv (n : Int) b = ((n / b : Nat) : Int) := by rw [Int.tdiv_eq_ediv_of_nonneg (by omega)]; omega
  have hq : n / b ≤ n := Nat.div_le_self n b
  have e3 : ((n % b : Nat) : Int) % 256 = ((n % b : Nat) : Int) := by omega
  have e4 : wrap64 ((n / b : Nat) : Int) = ((n / b : Nat) : Int) := (fun q (hq : q ≤ n) => w64 (by omega) (by omega) : ∀ q : Nat, q ≤ n → wrap64 (q : Int) = q) _ hq
  rw [eponymref03_Digits.j1, if_pos rfl, if_neg (by omega), e1, e2, e3, e4]
  simp only [Option.bind_some]
  have hsz : ∀ x : Int, (strOfNums [x]).size + (strOfNums l).size ≤ 9223372036854775807 := fun x => by rw [nums_size, nums_size]; simp only [List.length_cons, List.length_nil]; omega
  by_cases hd : ((n % b : Nat) : Int) < 10
  · rw [if_pos hd, if_pos (hsz _), nums_append']
    congr 3
    unfold hexc
    rw [if_pos hd]
    simp only [List.cons_append, List.nil_append, List.cons.injEq, and_true]
    omega
  · rw [if_neg hd, if_pos (hsz _), nums_append']
    congr 3
    unfold hexc
    rw [if_neg hd]
    simp only [List.cons_append, List.nil_append, List.cons.injEq, and_true]
    omega
theorem nums_some (x : Int) (l : List Int) : ((strOfNums (x :: l)).toList == ([] : List UInt8)) = false := by
  rw [beq_eq_false_iff_ne]
  intro h
  have h2 := congrArg List.length h
  rw [ByteArray.toList_eq, Array.length_toList, strOfNums] at h2
  simp at h2
theorem dig_end (b k : Nat) (x : Int) (l : List Int) : eponymref03_Digits.l0 (k + 2) 0 b (strOfNums (x :: l)) = some (strOfNums (x :: l)) := by
  rw [eponymref03_Digits.l0, if_neg (by omega), nums_some, eponymref03_Digits.j1, if_neg (by simp)]
theorem dig_go (b : Nat) (h2 : 2 ≤ b) (h16 : b ≤ 16) : ∀ (j n : Nat) (l : List Int), n < b ^ j → 1 ≤ n → n ≤ 9223372036854775807 → l.length + j ≤ 1000 → ∃ k, eponymref03_Digits.l0 k n b (strOfNums l) = some (strOfNums (digs b n ++ l))
  | 0, n, l, h, h1, _, _ => by simp at h; omega
  | j + 1, n, l, h, h1, hn, h3 => by
    by_cases hb : n < b
    · refine ⟨4, ?_⟩
      rw [eponymref03_Digits.l0, if_pos (by omega), dig_step b h2 h16 _ _ _ hn (by omega), Nat.div_eq_of_lt hb]
      rw [show ((0 : Nat) : Int) = 0 from rfl, dig_end, digs_small b n hb, Nat.mod_eq_of_lt hb]
      rfl
    · obtain ⟨k, hk⟩ := dig_go b h2 h16 j (n / b) (hexc ((n % b : Nat) : Int) :: l) (by rw [Nat.pow_succ] at h; exact (Nat.div_lt_iff_lt_mul (by omega)).2 h) (Nat.div_pos (by omega) (by omega)) (by have := Nat.div_le_self n b; omega) (by simp; omega)
      refine ⟨k + 2, ?_⟩
      rw [eponymref03_Digits.l0, if_pos (by omega), dig_step b h2 h16 _ _ _ hn (by omega), hk, digs_great b n (by omega) h2]
      simp
theorem dig_all (b : Nat) (h2 : 2 ≤ b) (h16 : b ≤ 16) (n : Nat) (h : n ≤ 9223372036854775807) : ∃ k, eponymref03_Digits.f k n b = some (strOfNums (digs b n)) := by
  unfold eponymref03_Digits.f
  rw [show (⟨#[]⟩ : ByteArray) = strOfNums [] from rfl]
  by_cases h0 : n = 0
  · subst h0
    refine ⟨4, ?_⟩
    rw [eponymref03_Digits.l0, if_neg (by omega), show ((strOfNums []).toList == ([] : List UInt8)) = true by rw [ByteArray.toList_eq]; rfl]
    rw [dig_step b h2 h16 2 0 _ (by omega) (by decide)]
    rw [Nat.zero_div, show ((0 : Nat) : Int) = 0 from rfl, dig_end, digs_small b 0 (by omega), Nat.zero_mod]
  · obtain ⟨k, hk⟩ := dig_go b h2 h16 64 n [] (by
      have : 2 ^ 64 ≤ b ^ 64 := Nat.pow_le_pow_left h2 64
      omega) (by omega) h (by decide)
    exact ⟨k, by rw [hk, List.append_nil]⟩
theorem Digits_any (b : Nat) (h2 : 2 ≤ b) (h16 : b ≤ 16) (n : Nat) (w : World) (h : n ≤ 9223372036854775807) :
    Calls Tryz.prog 20 #[.int .i64 n, .int .i64 b] w fun e w' => e = .returned (.string (strOfNums (digs b n))) ∧ Hid (Below w.heap.size w w') := by
  obtain ⟨k, hk⟩ := dig_all b h2 h16 n h
  exact eponymref03_Digits.calls k n b _ w hk
end Go.Proofs.YtngokkebjadoiaaGreatDoor

