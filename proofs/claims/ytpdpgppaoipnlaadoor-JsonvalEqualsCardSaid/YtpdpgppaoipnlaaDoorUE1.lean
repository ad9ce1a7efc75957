/- What the claim uses of the text E1. -/
import Derived.Test.YtpdpgppaoipnlaaDoorUT5
set_option linter.unusedVariables false
set_option linter.unusedSimpArgs false
namespace Go.Proofs.YtpdpgppaoipnlaaDoor
open Go.RowKit Go.PlainAid

/-- The first member of a name. -/
def getF (n : ByteArray) : List (ByteArray × JV) → Option JV
  | [] => none
  | (o, x) :: l => if o = n then some x else getF n l
mutual
/-- Are two values equal, whatever the order of members? -/
def eqV : JV → JV → Bool
  | ⟨k, t, l, m⟩, y => decide (k = y.kind) && (decide (t = y.text) && (decide (l.length = y.list.length) && (decide (m.length = y.mem.length) && (eqL l y.list && eqM m y.mem))))
def eqL : List JV → List JV → Bool
  | [], _ => true
  | _ :: _, [] => false
  | x :: l, y :: r => eqV x y && eqL l r
def eqM : List (ByteArray × JV) → List (ByteArray × JV) → Bool
  | [], _ => true
  | (n, x) :: l, r => (match getF n r with | none => false | some y => eqV x y) && eqM l r
end
theorem eqV_eq (a b : JV) : eqV a b = (decide (a.kind = b.kind) && (decide (a.text = b.text) && (decide (a.list.length = b.list.length) && (decide (a.mem.length = b.mem.length) && (eqL a.list b.list && eqM a.mem b.mem))))) := by cases a; rw [eqV]
def eqO (x : JV) : Option JV → Bool
  | none => false
  | some y => eqV x y
theorem eqM_cons (n : ByteArray) (x : JV) (l r : List (ByteArray × JV)) : eqM ((n, x) :: l) r = (eqO x (getF n r) && eqM l r) := by
  rw [eqM]
  unfold eqO
  cases getF n r <;> rfl
theorem eqL_drop (l r : List JV) (k : Nat) (h : k < l.length) (h' : k < r.length) : eqL (l.drop k) (r.drop k) = (eqV (l.getD k jz) (r.getD k jz) && eqL (l.drop (k + 1)) (r.drop (k + 1))) := by
  rw [List.drop_eq_getElem_cons h, List.drop_eq_getElem_cons h', List.getD_eq_getElem?_getD, List.getD_eq_getElem?_getD, List.getElem?_eq_getElem h, List.getElem?_eq_getElem h', eqL]
  rfl
theorem eqM_drop (l r : List (ByteArray × JV)) (k : Nat) (h : k < l.length) : eqM (l.drop k) r = (eqO (l.getD k (⟨#[]⟩, jz)).2 (getF (l.getD k (⟨#[]⟩, jz)).1 r) && eqM (l.drop (k + 1)) r) := by
  rw [List.drop_eq_getElem_cons h, List.getD_eq_getElem?_getD, List.getElem?_eq_getElem h, eqM_cons]
  rfl
theorem getF_app (n : ByteArray) : ∀ (l r : List (ByteArray × JV)), getF n (l ++ r) = match getF n l with | some x => some x | none => getF n r
  | [], r => rfl
  | (o, x) :: l, r => by
    rw [List.cons_append, getF, getF, getF_app n l r]
    split <;> rfl
theorem getF_some {n : ByteArray} {x : JV} : ∀ {m : List (ByteArray × JV)}, getF n m = some x → (n, x) ∈ m
  | [], h => by simp [getF] at h
  | (o, y) :: l, h => by
    rw [getF] at h
    split at h
    · rename_i e
      injection h with h
      subst h e
      exact List.mem_cons_self
    · exact List.mem_cons_of_mem _ (getF_some h)
/-- No name twice. -/
def UN (m : List (ByteArray × JV)) : Prop := dupN [] (nms m) = false
theorem dupN_nodup : ∀ (l s : List (List Int)), dupN s l = false → l.Nodup ∧ ∀ x ∈ l, x ∉ s
  | [], _, _ => ⟨List.nodup_nil, fun _ h => absurd h (by simp)⟩
  | n :: l, s, h => by
    rw [dupN, Bool.or_eq_false_iff, decide_eq_false_iff_not] at h
    obtain ⟨h1, h2⟩ := dupN_nodup l _ h.2
    refine ⟨List.nodup_cons.2 ⟨fun hn => h2 n hn (by simp), h1⟩, fun x hx => ?_⟩
    rcases List.mem_cons.1 hx with rfl | hx
    · exact h.1
    · exact fun hs => h2 x hx (by simp [hs])
theorem un_nodup {m : List (ByteArray × JV)} (h : UN m) : (nms m).Nodup := (dupN_nodup _ _ h).1
theorem getF_of : ∀ {m : List (ByteArray × JV)} {n : ByteArray} {x : JV}, (nms m).Nodup → (n, x) ∈ m → getF n m = some x
  | [], _, _, _, h => by simp at h
  | (o, y) :: l, n, x, hn, h => by
    have hn' : (ints o :: nms l).Nodup := hn
    rw [List.nodup_cons] at hn'
    rw [getF]
    rcases List.mem_cons.1 h with h | h
    · injection h with h1 h2
      rw [if_pos h1.symm, h2]
    · rw [if_neg (fun e => hn'.1 (by subst e; exact List.mem_map.2 ⟨_, h, rfl⟩)), getF_of hn'.2 h]
theorem pig {α : Type} [DecidableEq α] : ∀ (a b : List α), a.Nodup → (∀ x ∈ a, x ∈ b) → b.length ≤ a.length → ∀ y ∈ b, y ∈ a
  | [], b, _, _, hl, y, hy => by
    have : b = [] := List.length_eq_zero_iff.1 (by simpa using hl)
    rw [this] at hy
    exact hy
  | x :: a, b, hn, hs, hl, y, hy => by
    rw [List.nodup_cons] at hn
    by_cases e : y = x
    · rw [e]; exact List.mem_cons_self
    · refine List.mem_cons_of_mem _ (pig a (b.erase x) hn.2 (fun z hz => ?_) ?_ y ((List.mem_erase_of_ne e).2 hy))
      · exact (List.mem_erase_of_ne (fun h => hn.1 (by rw [← h]; exact hz))).2 (hs z (by simp [hz]))
      · rw [List.length_erase_of_mem (hs x (by simp))]
        simp at hl
        omega
theorem eqM_iff : ∀ (m r : List (ByteArray × JV)), eqM m r = true ↔ ∀ p ∈ m, eqO p.2 (getF p.1 r) = true
  | [], r => by simp [eqM]
  | (n, x) :: l, r => by
    rw [eqM_cons, Bool.and_eq_true, eqM_iff l r]
    simp
theorem eqO_some {x : JV} {o : Option JV} (h : eqO x o = true) : ∃ y, o = some y ∧ eqV x y = true := by
  cases o with
  | none => cases h
  | some y => exact ⟨y, rfl, h⟩
theorem okV_parts {x : JV} {lev : Int} (h : okV x lev = true) : (x.kind ≠ 5 → x.list = []) ∧ (x.kind ≠ 6 → x.mem = []) ∧ UN x.mem ∧ (∀ y ∈ x.list, okV y (lev + 1) = true) ∧ ∀ p ∈ x.mem, okV p.2 (lev + 1) = true := by
  obtain ⟨k, t, l, m⟩ := x
  obtain ⟨h1, h2, h3⟩ := okV_one h
  have h4 := oneN_open h1
  refine ⟨h4.2.2.2.2.1, h4.2.2.2.2.2.1, h4.2.2.2.2.2.2.2.2.2, fun y hy => ?_, fun p hp => ?_⟩
  · obtain ⟨i, hi, rfl⟩ := List.mem_iff_getElem.1 hy
    have := okL_at' l _ h2 i hi
    rwa [List.getD_eq_getElem?_getD, List.getElem?_eq_getElem hi] at this
  · obtain ⟨i, hi, rfl⟩ := List.mem_iff_getElem.1 hp
    have := okM_at' m _ h3 i hi
    rwa [List.getD_eq_getElem?_getD, List.getElem?_eq_getElem hi] at this
def SymV (a : JV) : Prop := ∀ (b : JV) (la lb : Int), okV a la = true → okV b lb = true → eqV a b = true → eqV b a = true
theorem symL_step : ∀ (l r : List JV) (la lb : Int), (∀ x ∈ l, SymV x) → (∀ x ∈ l, okV x la = true) → (∀ x ∈ r, okV x lb = true) → l.length = r.length → eqL l r = true → eqL r l = true
  | [], [], _, _, _, _, _, _, _ => rfl
  | [], _ :: _, _, _, _, _, _, h, _ => by simp at h
  | _ :: _, [], _, _, _, _, _, h, _ => by simp at h
  | x :: l, y :: r, la, lb, hs, ha, hb, hl, h => by
    rw [eqL, Bool.and_eq_true] at h ⊢
    exact ⟨hs x (by simp) y la lb (ha x (by simp)) (hb y (by simp)) h.1, symL_step l r la lb (fun z hz => hs z (by simp [hz])) (fun z hz => ha z (by simp [hz])) (fun z hz => hb z (by simp [hz])) (by simpa using hl) h.2⟩
theorem symM_step (m r : List (ByteArray × JV)) (la lb : Int) (hs : ∀ p ∈ m, SymV p.2) (um : UN m) (ur : UN r) (ha : ∀ p ∈ m, okV p.2 la = true) (hb : ∀ p ∈ r, okV p.2 lb = true) (hl : m.length = r.length) (h : eqM m r = true) : eqM r m = true := by
  rw [eqM_iff] at h ⊢
  rintro ⟨n, y⟩ hp
  have hsub : ∀ z ∈ nms m, z ∈ nms r := by
    intro z hz
    obtain ⟨p, hp, rfl⟩ := List.mem_map.1 hz
    obtain ⟨y, hy, _⟩ := eqO_some (h p hp)
    exact List.mem_map.2 ⟨_, getF_some hy, rfl⟩
  have hback := pig (nms m) (nms r) (un_nodup um) hsub (by unfold nms; rw [List.length_map, List.length_map]; omega) (ints n) (List.mem_map.2 ⟨_, hp, rfl⟩)
  obtain ⟨⟨o, x⟩, hx, e⟩ := List.mem_map.1 hback
  obtain rfl : o = n := ints_inj e
  obtain ⟨y', hy, he⟩ := eqO_some (h _ hx)
  rw [getF_of (un_nodup ur) hp] at hy
  injection hy with hy
  subst hy
  rw [getF_of (un_nodup um) hx]
  exact hs _ hx y la lb (ha _ hx) (hb _ hp) he
theorem symV_step (k : Int) (t : ByteArray) (l : List JV) (m : List (ByteArray × JV)) (hl : ∀ x ∈ l, SymV x) (hm : ∀ p ∈ m, SymV p.2) : SymV ⟨k, t, l, m⟩ := by
  intro b la lb ha hb h
  obtain ⟨_, _, a3, a4, a5⟩ := okV_parts ha
  obtain ⟨_, _, b3, b4, b5⟩ := okV_parts hb
  rw [eqV_eq] at h ⊢
  simp only [Bool.and_eq_true, decide_eq_true_eq] at h ⊢
  obtain ⟨h1, h2, h3, h4, h5, h6⟩ := h
  exact ⟨h1.symm, h2.symm, h3.symm, h4.symm, symL_step l b.list _ _ hl a4 b4 h3 h5, symM_step m b.mem _ _ hm a3 b3 a5 b5 h4 h6⟩
mutual
theorem symV : ∀ a : JV, SymV a
  | ⟨k, t, l, m⟩ => symV_step k t l m (symL l) (symM m)
theorem symL : ∀ l : List JV, ∀ x ∈ l, SymV x
  | [], _, h => absurd h (by simp)
  | y :: l, x, h => by
    have h1 := symV y
    have h2 := symL l
    rcases List.mem_cons.1 h with rfl | h
    · exact h1
    · exact h2 x h
theorem symM : ∀ m : List (ByteArray × JV), ∀ p ∈ m, SymV p.2
  | [], _, h => absurd h (by simp)
  | (n, y) :: l, p, h => by
    have h1 := symV y
    have h2 := symM l
    rcases List.mem_cons.1 h with rfl | h
    · exact h1
    · exact h2 p h
end
theorem eqV_symm {a b : JV} {la lb : Int} (ha : okV a la = true) (hb : okV b lb = true) : eqV b a = eqV a b := by
  cases h1 : eqV a b with
  | true => exact symV a b la lb ha hb h1
  | false =>
    cases h2 : eqV b a with
    | false => rfl
    | true => rw [symV b a lb la hb ha h2] at h1; cases h1
theorem reflL_step : ∀ (l : List JV), (∀ x ∈ l, eqV x x = true) → eqL l l = true
  | [], _ => rfl
  | x :: l, h => by
    rw [eqL, Bool.and_eq_true]
    exact ⟨h x (by simp), reflL_step l fun z hz => h z (by simp [hz])⟩
theorem reflV_step (k : Int) (t : ByteArray) (l : List JV) (m : List (ByteArray × JV)) (hl : ∀ x ∈ l, ∀ la : Int, okV x la = true → eqV x x = true) (hm : ∀ p ∈ m, ∀ la : Int, okV p.2 la = true → eqV p.2 p.2 = true) (la : Int) (h : okV ⟨k, t, l, m⟩ la = true) : eqV ⟨k, t, l, m⟩ ⟨k, t, l, m⟩ = true := by
  obtain ⟨_, _, a3, a4, a5⟩ := okV_parts h
  rw [eqV_eq]
  simp only [Bool.and_eq_true, decide_eq_true_eq]
  refine ⟨trivial, trivial, trivial, trivial, reflL_step l fun x hx => hl x hx _ (a4 x hx), (eqM_iff m m).2 fun p hp => ?_⟩
  rw [getF_of (un_nodup a3) (x := p.2) hp]
  exact hm p hp _ (a5 p hp)
mutual
theorem eqV_refl : ∀ (a : JV) (la : Int), okV a la = true → eqV a a = true
  | ⟨k, t, l, m⟩ => reflV_step k t l m (eqL_refl l) (eqM_refl m)
theorem eqL_refl : ∀ l : List JV, ∀ x ∈ l, ∀ la : Int, okV x la = true → eqV x x = true
  | [], _, h => absurd h (by simp)
  | y :: l, x, h => by
    have h1 := eqV_refl y
    have h2 := eqL_refl l
    rcases List.mem_cons.1 h with rfl | h
    · exact h1
    · exact h2 x h
theorem eqM_refl : ∀ m : List (ByteArray × JV), ∀ p ∈ m, ∀ la : Int, okV p.2 la = true → eqV p.2 p.2 = true
  | [], _, h => absurd h (by simp)
  | (n, y) :: l, p, h => by
    have h1 := eqV_refl y
    have h2 := eqM_refl l
    rcases List.mem_cons.1 h with rfl | h
    · exact h1
    · exact h2 p h
end
/-- What is equal has equal members. -/
theorem eq_get {a b : JV} {la lb : Int} (n : ByteArray) (ha : okV a la = true) (hb : okV b lb = true) (h : eqV a b = true) : (getF n a.mem).isSome = (getF n b.mem).isSome ∧ ∀ x y, getF n a.mem = some x → getF n b.mem = some y → eqV x y = true := by
  have h' := symV a b la lb ha hb h
  rw [eqV_eq] at h h'
  simp only [Bool.and_eq_true, decide_eq_true_eq] at h h'
  have h1 := (eqM_iff _ _).1 h.2.2.2.2.2
  have h2 := (eqM_iff _ _).1 h'.2.2.2.2.2
  cases hx : getF n a.mem with
  | none =>
    cases hy : getF n b.mem with
    | none => exact ⟨rfl, fun _ _ h => by cases h⟩
    | some y =>
      obtain ⟨x, e, _⟩ := eqO_some (h2 _ (getF_some hy))
      rw [hx] at e
      cases e
  | some x =>
    obtain ⟨y, e, he⟩ := eqO_some (h1 _ (getF_some hx))
    dsimp only at e
    refine ⟨by rw [e]; rfl, fun x' y' hx' hy' => ?_⟩
    injection hx' with hx'
    rw [e] at hy'
    injection hy' with hy'
    rw [← hx', ← hy']
    exact he
theorem getF_take (n : ByteArray) (m : List (ByteArray × JV)) (k : Nat) (h : k < m.length) : getF n (m.take (k + 1)) = match getF n (m.take k) with | some x => some x | none => if (m.getD k (⟨#[]⟩, jz)).1 = n then some (m.getD k (⟨#[]⟩, jz)).2 else none := by
  rw [List.take_succ_eq_append_getElem h, getF_app, List.getD_eq_getElem?_getD, List.getElem?_eq_getElem h]
  rfl
theorem getF_take_none {n : ByteArray} {m : List (ByteArray × JV)} {k : Nat} (hu : UN m) (h : k < m.length) (e : (m.getD k (⟨#[]⟩, jz)).1 = n) : getF n (m.take k) = none := by
  cases hx : getF n (m.take k) with
  | none => rfl
  | some x =>
    exfalso
    have hmem := getF_some hx
    obtain ⟨i, hi, e2⟩ := List.mem_iff_getElem.1 hmem
    rw [List.getElem_take] at e2
    have hik : i < k := by rw [List.length_take] at hi; omega
    have hnd := un_nodup hu
    rw [List.getD_eq_getElem?_getD, List.getElem?_eq_getElem h] at e
    have hpw := (List.pairwise_iff_getElem.1 hnd) i k (by unfold nms; rw [List.length_map]; omega) (by unfold nms; rw [List.length_map]; omega) hik
    apply hpw
    unfold nms
    rw [List.getElem_map, List.getElem_map, e2]
    show ints n = ints _
    rw [← e]
    rfl
theorem getF_at {n : ByteArray} {m : List (ByteArray × JV)} {k : Nat} (hu : UN m) (h : k < m.length) (e : (m.getD k (⟨#[]⟩, jz)).1 = n) : getF n m = some (m.getD k (⟨#[]⟩, jz)).2 := by
  refine getF_of (un_nodup hu) ?_
  rw [List.getD_eq_getElem?_getD, List.getElem?_eq_getElem h] at e ⊢
  rw [← e]
  exact List.getElem_mem h
/-- A name's members: as many as were counted. -/
def Cnt (n : ByteArray) (m : List (ByteArray × JV)) (k c : Nat) : Prop := c ≤ k ∧ (0 < c ↔ (getF n (m.take k)).isSome = true)
theorem cnt_zero (n : ByteArray) (m : List (ByteArray × JV)) : Cnt n m 0 0 := ⟨Nat.le_refl _, by simp [getF]⟩
theorem cnt_yes {n : ByteArray} {m : List (ByteArray × JV)} {k c : Nat} (h : Cnt n m k c) (hk : k < m.length) (e : (m.getD k (⟨#[]⟩, jz)).1 = n) : Cnt n m (k + 1) (c + 1) := by
  refine ⟨by have := h.1; omega, ?_⟩
  rw [getF_take n m k hk]
  cases getF n (m.take k) with
  | some x => simp
  | none =>
    dsimp only
    rw [if_pos e]
    simp
theorem cnt_no {n : ByteArray} {m : List (ByteArray × JV)} {k c : Nat} (h : Cnt n m k c) (hk : k < m.length) (e : ¬ (m.getD k (⟨#[]⟩, jz)).1 = n) : Cnt n m (k + 1) c := by
  refine ⟨by have := h.1; omega, ?_⟩
  rw [getF_take n m k hk, h.2]
  cases getF n (m.take k) with
  | some x => simp
  | none =>
    dsimp only
    rw [if_neg e]
theorem cnt_all {n : ByteArray} {m : List (ByteArray × JV)} {c : Nat} (h : Cnt n m m.length c) : (0 < c ↔ (getF n m).isSome = true) := by
  have := h.2
  rwa [List.take_length] at this
end Go.Proofs.YtpdpgppaoipnlaaDoor

