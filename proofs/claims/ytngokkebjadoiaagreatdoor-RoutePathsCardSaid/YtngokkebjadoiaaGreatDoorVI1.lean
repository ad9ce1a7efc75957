/- What the claim uses of the text I1. -/
import Derived.Test.YtngokkebjadoiaaGreatDoorVG2
import Derived.Test.YtngokkebjadoiaaGreatDoorVG4
import Derived.Lib.ItoaMem
set_option linter.unusedVariables false
set_option linter.unusedSimpArgs false
namespace Go.Proofs.YtngokkebjadoiaaGreatDoor
open Go.RowKit Go.PlainAid
open Go.Proofs.YtngokkebjadoiaaGreatDoorW.PrintWords hiding bt
open Go.Proofs.YtngokkebjadoiaaGreatDoorW.PrintMore

/-- A number's digits by a base, the first one first. -/
def digs (b n : Nat) : List Int := if h : n < b ∨ b < 2 then [hexc n] else digs b (n / b) ++ [hexc ((n % b : Nat) : Int)]
termination_by n
decreasing_by exact Nat.div_lt_self (by omega) (by omega)
theorem digs_small (b n : Nat) (h : n < b) : digs b n = [hexc n] := by rw [digs, dif_pos (.inl h)]
theorem digs_great (b n : Nat) (h : b ≤ n) (h2 : 2 ≤ b) : digs b n = digs b (n / b) ++ [hexc ((n % b : Nat) : Int)] := by rw [digs, dif_neg (by omega)]
theorem digs_range (b : Nat) (h2 : 2 ≤ b) (h16 : b ≤ 16) (n : Nat) : ∀ x ∈ digs b n, 0 ≤ x ∧ x ≤ 255 := by
  induction n using Nat.strongRecOn with
  | _ n ih =>
    intro x hx
    by_cases h : n < b
    · rw [digs_small b n h, List.mem_singleton] at hx
      subst hx
      exact hexc_range _ (by omega) (by omega)
    · rw [digs_great b n (by omega) h2] at hx
      rcases List.mem_append.1 hx with hx | hx
      · exact ih _ (Nat.div_lt_self (by omega) (by omega)) x hx
      · rw [List.mem_singleton] at hx
        subst hx
        have := Nat.mod_lt n (show b > 0 by omega)
        exact hexc_range _ (by omega) (by omega)
theorem digs_len (b : Nat) (h2 : 2 ≤ b) : ∀ (j n : Nat), n < b ^ (j + 1) → (digs b n).length ≤ j + 1
  | 0, n, h => by
    rw [digs_small b n (by simpa using h)]
    simp
  | j + 1, n, h => by
    by_cases h1 : n < b
    · rw [digs_small b n h1]; simp
    · rw [digs_great b n (by omega) h2, List.length_append]
      have := digs_len b h2 j (n / b) (by
        rw [Nat.div_lt_iff_lt_mul (by omega)]
        rw [Nat.pow_succ] at h
        exact h)
      simp
      omega
theorem digs_dec (n : Nat) : (Lib.decDigits n).map (fun c => (c.toNat : Int)) = digs 10 n := by
  induction n using Nat.strongRecOn with
  | _ n ih =>
    by_cases h : n < 10
    · rw [digs_small 10 n h, Lib.decDigits, dif_pos h]
      simp only [List.map_cons, List.map_nil, hexc]
      rw [if_pos (by omega)]
      congr 1
      have : (UInt8.ofNat (48 + n)).toNat = 48 + n := by
        rw [UInt8.toNat_ofNat']; omega
      omega
    · rw [digs_great 10 n (by omega) (by omega), Lib.decDigits, dif_neg h, List.map_append, ih _ (Nat.div_lt_self (by omega) (by omega))]
      congr 1
      simp only [List.map_cons, List.map_nil, hexc]
      have h10 := Nat.mod_lt n (show 10 > 0 by omega)
      rw [if_pos (by omega)]
      congr 1
      have : (UInt8.ofNat (48 + n % 10)).toNat = 48 + n % 10 := by
        rw [UInt8.toNat_ofNat']; omega
      omega
theorem dec_text (n : Nat) : (⟨(Lib.decDigits n).toArray⟩ : ByteArray) = strOfNums (digs 10 n) := by
  apply ints_inj
  rw [ints_nums _ (digs_range 10 (by omega) (by omega) n), ← digs_dec]
  rfl

def lowB (b : Int) : Int := if 65 ≤ b ∧ b ≤ 70 then b + 32 else b
def capB (b : Int) : Int := if 97 ≤ b ∧ b ≤ 122 then b - 32 else b
def hexl (n : Nat) : List Int := (digs 16 n).map lowB
theorem lowB_range (x : Int) (h : 0 ≤ x ∧ x ≤ 255) : 0 ≤ lowB x ∧ lowB x ≤ 255 := by unfold lowB; omega
theorem hexl_range (n : Nat) : ∀ x ∈ hexl n, 0 ≤ x ∧ x ≤ 255 := by
  intro x hx
  unfold hexl at hx
  rw [List.mem_map] at hx
  obtain ⟨y, hy, rfl⟩ := hx
  exact lowB_range y (digs_range 16 (by omega) (by omega) n y hy)
theorem hexl_len (n : Nat) (h : n < 65536) : (hexl n).length ≤ 4 := by unfold hexl; rw [List.length_map]; exact digs_len 16 (by omega) 3 n (by simpa using h)

/-- Texts with something between. -/
def joinI (sep : List Int) : List (List Int) → List Int
  | [] => []
  | [x] => x
  | x :: y :: l => x ++ sep ++ joinI sep (y :: l)
theorem joinI_snoc (sep : List Int) (x : List Int) : ∀ l : List (List Int), joinI sep (l ++ [x]) = joinI sep l ++ (if l = [] then [] else sep) ++ x
  | [] => by simp [joinI]
  | [y] => by simp [joinI]
  | y :: z :: l => by
    have := joinI_snoc sep x (z :: l)
    simp only [List.cons_append, joinI] at this ⊢
    rw [if_neg (by simp)] at this ⊢
    rw [this]
    simp [List.append_assoc]
theorem joinI_len (sep : List Int) (k : Nat) : ∀ l : List (List Int), (∀ t ∈ l, t.length ≤ k) → (joinI sep l).length ≤ l.length * (k + sep.length)
  | [], _ => by simp [joinI]
  | [y], h => by
    have := h y (by simp)
    simp [joinI]
    omega
  | y :: z :: l, h => by
    have h1 := h y (by simp)
    have h2 := joinI_len sep k (z :: l) (fun t ht => h t (by simp at ht ⊢; right; exact ht))
    simp only [joinI, List.length_append]
    rw [show (y :: z :: l).length = (z :: l).length + 1 from rfl, Nat.add_mul]
    omega

/-- How many noughts stand from a place on. -/
def run0 (l : List Nat) (i : Nat) : Nat := ((l.drop i).takeWhile (· == 0)).length
theorem run0_le (l : List Nat) (i : Nat) (h : i ≤ l.length) : i + run0 l i ≤ l.length := by
  unfold run0
  have h1 : ((l.drop i).takeWhile (· == 0)).length ≤ (l.drop i).length := (List.takeWhile_prefix _).length_le
  rw [List.length_drop] at h1
  omega
/-- The longest row of noughts among the first places (at least two; the first one): from, and how long; (all, 1): there is none. -/
def gapS (l : List Nat) : Nat → Nat × Nat
  | 0 => (l.length, 1)
  | i + 1 => if (gapS l i).2 < run0 l i then (i, run0 l i) else gapS l i
theorem gapS_is (l : List Nat) : ∀ i, i ≤ l.length → gapS l i = (l.length, 1) ∨ (2 ≤ (gapS l i).2 ∧ (gapS l i).1 < i ∧ (gapS l i).1 + (gapS l i).2 ≤ l.length)
  | 0, _ => .inl rfl
  | i + 1, h => by
    have ih := gapS_is l i (by omega)
    have hr := run0_le l i (by omega)
    rw [gapS]
    by_cases hc : (gapS l i).2 < run0 l i
    · rw [if_pos hc]
      right
      have h1 : 1 ≤ (gapS l i).2 := by
        rcases ih with h | h
        · rw [h]; exact Nat.le_refl 1
        · omega
      exact ⟨by show 2 ≤ run0 l i; omega, by show i < i + 1; omega, hr⟩
    · rw [if_neg hc]
      rcases ih with h | h
      · exact .inl h
      · exact .inr ⟨h.1, by omega, h.2.2⟩

def grp (p : PV) (i : Nat) : Nat := 256 * p.addr (2 * i) + p.addr (2 * i + 1)
def grps (p : PV) : List Nat := (List.range 8).map (grp p)
theorem grps_length (p : PV) : (grps p).length = 8 := by simp [grps]
theorem grps_lt (p : PV) (hp : ∀ i, i < 16 → p.addr i < 256) : ∀ x ∈ grps p, x < 65536 := by
  intro x hx
  unfold grps at hx
  rw [List.mem_map] at hx
  obtain ⟨i, hi, rfl⟩ := hx
  rw [List.mem_range] at hi
  have h1 := hp (2 * i) (by omega)
  have h2 := hp (2 * i + 1) (by omega)
  unfold grp
  omega
def sixT (l : List Nat) : List Int := if (gapS l l.length).2 = 1 then joinI [58] (l.map hexl) else joinI [58] ((l.take (gapS l l.length).1).map hexl) ++ [58, 58] ++ joinI [58] ((l.drop ((gapS l l.length).1 + (gapS l l.length).2)).map hexl)
def fourT (p : PV) : List Int := joinI [46] ((List.range 4).map fun i => digs 10 (p.addr i))
def addrT (p : PV) : List Int := if p.six = true then sixT (grps p) else fourT p
def ipT (p : PV) : List Int := addrT p ++ if p.bits = widthV p then [] else 47 :: digs 10 p.bits.toNat
def pieceL (x : ByteArray × Bool) : List Int := ints x.1 ++ if x.2 = true then [42] else []
def patT (l : List (ByteArray × Bool)) : List Int := joinI [46] (l.map pieceL)
end Go.Proofs.YtngokkebjadoiaaGreatDoor

