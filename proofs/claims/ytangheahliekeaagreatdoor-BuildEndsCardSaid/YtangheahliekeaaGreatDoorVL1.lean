/- What the claim uses of the text L1. -/
import Derived.Test.YtangheahliekeaaGreatDoorVL0
import Derived.Deep.MidRow
set_option linter.unusedVariables false
set_option linter.unusedSimpArgs false
namespace Go.Proofs.YtangheahliekeaaGreatDoor
open Go.RowKit Go.PlainAid
open Go.Proofs.YtangheahliekeaaGreatDoorW.PrintWords hiding bt
open Go.Proofs.YtangheahliekeaaGreatDoorW.PrintMore

/-- A builder's cells: empty tables, a base, members. -/
def buA (base : ByteArray) (v : Value) : Array Value := #[.slice none 0 0, .slice none 0 0, .slice none 0 0, .slice none 0 0, .slice none 0 0, .slice none 0 0, .slice none 0 0, .slice none 0 0, .slice none 0 0, .slice none 0 0, .slice none 0 0, .slice none 0 0, .slice none 0 0, .slice none 0 0, .slice none 0 0, .string base, v]
theorem info_tab : (Tryz.prog.info? 45).map (·.size) = some 15 := by kernel_rfl
/-- A builder at b whose members lie in blocks from lo to m; it and they lie from lim on. -/
structure Bu (N lim lo m b : Nat) (base : ByteArray) (xs : List (ByteArray × JV)) (v : Value) (w : World) : Prop where
  row : Row 69 b (buA base v) w
  list : (jm N).R 88 w lo (fun k => lo ≤ k ∧ k < m) v xs
  low : lim ≤ b
  mid : lim ≤ lo
  top : m ≤ w.heap.size
  bas : lo ≤ w.heap.size
theorem Bu.lt {N lim lo m b : Nat} {base : ByteArray} {xs : List (ByteArray × JV)} {v : Value} {w : World} (h : Bu N lim lo m b base xs v w) : b < w.heap.size := h.row.lt
/-- What lies behind it may change. -/
theorem Bu.under {N lim lo m b L : Nat} {base : ByteArray} {xs : List (ByteArray × JV)} {v : Value} {w w' : World} (h : Bu N lim lo m b base xs v w) (hb : Below L w w') (h1 : b < L) (h2 : m ≤ L) : Bu N lim lo m b base xs v w' :=
  ⟨(hb.block b h1).trans h.row, Kd.R_move h.list (fun k hk => hb.block k (by omega)), h.low, h.mid, Nat.le_trans h.top hb.size, Nat.le_trans h.bas hb.size⟩
theorem Bu.below {N lim lo m b : Nat} {base : ByteArray} {xs : List (ByteArray × JV)} {v : Value} {w w' : World} (h : Bu N lim lo m b base xs v w) (hb : Below w.heap.size w w') : Bu N lim lo m b base xs v w' := h.under hb h.lt h.top

theorem jm_info (N : Nat) : (Tryz.prog.info? 88).map (fun i => (i.zero, i.size, i.bytes)) = some (some (.agg #[.string ⟨#[]⟩, .int .i64 0, .string ⟨#[]⟩, .slice none 0 0, .slice none 0 0]), (jm N).sz, 88) := by rw [jm_sz']; exact info_m5
/-- A value without list and members, of one's own. -/
theorem jd_leafM (n : Nat) (w : World) (lim : Nat) (ok : Nat → Prop) (k : Int) (t : ByteArray) : (jd (n + 1)).M w lim ok ⟨k, t, [], []⟩ [.int .i64 k, .string t, .slice none 0 0, .slice none 0 0] :=
  ⟨[_], [_, _, _], rfl, rfl, [_], [_, _], rfl, rfl, [_], [_], rfl, ⟨_, rfl, Kd.R_nil _ _ _ _ _⟩, ⟨_, rfl, Kd.R_nil _ _ _ _ _⟩⟩
theorem jm_ofM {n : Nat} {w : World} {lim : Nat} {ok : Nat → Prop} {x : JV} {cs : List Value} (nm : ByteArray) (h : (jd n).M w lim ok x cs) : (jm n).M w lim ok (nm, x) (.string nm :: cs) :=
  ⟨[_], cs, rfl, rfl, h⟩
/-- A member is stored at the end of a row of one's own. -/
theorem mem_store {N : Nat} {W : World} {lim n g cap : Nat} {ok okp : Nat → Prop} {xs : List (ByteArray × JV)} {z : ByteArray × JV} (nm : ByteArray) {x : JV} {cs : List Value}
    (HO : (jm N).R 88 W lim ok (.slice (some ⟨g, 0, none⟩) (n + 1) cap) (xs ++ [z])) (hn : xs.length = n) (hx : (jd N).M W lim okp x cs) (hokp : ∀ k, okp k → ok k ∧ k ≠ g) :
    ∃ W1, (Instr.storeAt 88 (.pointer (some ⟨g, n * 5, none⟩)) (.agg (.string nm :: cs).toArray)).run Tryz.prog W = .ok () W1 ∧ (jm N).R 88 W1 lim ok (.slice (some ⟨g, 0, none⟩) (n + 1) cap) (xs ++ [(nm, x)]) ∧ W.grownBy W1 (some g) ∧ lim ≤ g := by
  have hm := jm_ofM nm hx
  have hs5 : (jm N).sz = 5 := jm_sz' N
  have hcl5 : (Value.string nm :: cs).length = 5 := by rw [(jm N).K_len ((jm N).K_of_M hm)]; exact hs5
  obtain ⟨hrn, hrc, hC⟩ := Kd.R_reads' HO
  obtain ⟨ad, c, e, hcl, hK, hcc⟩ := Kd.C_get hC z (n : Int) (by omega) (by rw [List.length_append]; simp; omega)
  injection e with e
  subst e
  have hcc' : ∀ j u, c[j]? = some u → W.cell? ⟨g, (n : Int).toNat * (jm N).sz + j, none⟩ = some u := fun j u hu => by
    have := hcc j u hu
    rwa [Go.WideShapes.add_plain, Nat.zero_add] at this
  have hseg := Kd.R_seg HO (n : Int) (by omega) (by omega) (c := c) (seg := .string nm :: cs) (j := 0) hcl hcc' (by rw [hcl5, hs5]; omega) (x' := (nm, x)) (by
    rw [show c.take 0 ++ (Value.string nm :: cs) ++ c.drop (0 + (Value.string nm :: cs).length) = .string nm :: cs by rw [hcl5, Nat.zero_add, List.drop_eq_nil_of_le (by omega)]; simp]
    exact hm) hokp
  rw [Int.toNat_natCast, hs5, Nat.add_zero] at hseg
  obtain ⟨h1, h2⟩ := hseg
  have hset : (xs ++ [z]).set n (nm, x) = xs ++ [(nm, x)] := by
    rw [List.set_append_right _ _ (by omega), show n - xs.length = 0 by omega]
    rfl
  rw [hset] at h1
  obtain ⟨_, inner, hown, hr⟩ := HO
  rcases hown.2 with ⟨hv, _⟩ | ⟨g', cap', cur, hv, hb, hh, hnc, hcm, hcs, _⟩
  · cases hv
  injection hv with ha _ hc
  injection ha with ha
  injection ha with hg'
  subst hg'
  subst hc
  refine ⟨_, run_store_run 88 _ (.string nm :: cs) hh (by simp [Value.cells]) (by rw [hcl5]; kernel_rfl) ?_ ((jm N).K_one ((jm N).K_of_M hm)), h1, h2, hb⟩
  rw [hcl5]
  rw [hs5] at hcs
  have : (n + 1) * 5 ≤ cap * 5 := Nat.mul_le_mul_right _ (by rw [List.length_append] at hnc; simp at hnc; omega)
  omega

theorem R_some {N : Nat} {W : World} {lim : Nat} {ok : Nat → Prop} {v : Value} {xs : List (ByteArray × JV)} {z : ByteArray × JV} (h : (jm N).R 88 W lim ok v (xs ++ [z])) : ∃ g cap, v = .slice (some ⟨g, 0, none⟩) (xs.length + 1) cap := by
  obtain ⟨inner, ho⟩ := Kd.R_own h
  rw [List.length_append, List.length_singleton] at ho
  rcases ho.2 with ⟨_, h0⟩ | ⟨g, cap, cur, hv, _⟩
  · omega
  · exact ⟨g, cap, hv⟩
theorem R_typed {N : Nat} {W : World} {lim : Nat} {ok : Nat → Prop} {v : Value} {xs : List (ByteArray × JV)} (h : (jm N).R 88 W lim ok v xs) (k : Nat) (hk : v.ownBlock = some k) : ∃ cells, W.heap[k]? = some (.cells cells 88 (0, 0)) := by
  obtain ⟨inner, ho⟩ := Kd.R_own h
  exact own_typed ho k hk
theorem val_cells {vb : Nat} {c0 c1 c2 c3 : Value} {W : World} (h : Row 34 vb #[c0, c1, c2, c3] W) : W.cell? ⟨vb, 0, none⟩ = some c0 ∧ W.cell? ⟨vb, 1, none⟩ = some c1 ∧ W.cell? ⟨vb, 2, none⟩ = some c2 ∧ W.cell? ⟨vb, 3, none⟩ = some c3 :=
  ⟨h.cell 0 _ rfl, h.cell 1 _ rfl, h.cell 2 _ rfl, h.cell 3 _ rfl⟩
theorem Bu.make {N lim lo b : Nat} {base : ByteArray} {xs : List (ByteArray × JV)} {v : Value} {W : World} {ok : Nat → Prop} (h1 : Row 69 b (buA base v) W) (h2 : (jm N).R 88 W lo ok v xs) (h3 : lim ≤ b) (h4 : lim ≤ lo) (h5 : lo ≤ W.heap.size) : Bu N lim lo W.heap.size b base xs v W :=
  ⟨h1, Kd.R_mono (Kd.R_bound h2) (fun k h => ⟨h.2.1, h.2.2.1⟩), h3, h4, Nat.le_refl _, h5⟩
theorem Row.set16 {b : Nat} {base : ByteArray} {v v1 : Value} {W : World} (h : Row 69 b (buA base v) W) : Row 69 b (buA base v1) (W.setCell ⟨b, 16, none⟩ v1) := Row.setCell h 16 v1
theorem below_grown (lim : Nat) {w W W1 : World} {g : Nat} (hw : lim ≤ w.heap.size) (h : Below lim w W) (hg : W.grownBy W1 (some g)) (hl : lim ≤ g) : Below lim w W1 :=
  h.trans ⟨hg.os, hg.tape, hg.output, hg.size, fun k hk => by
    have := h.size
    exact hg.block k (by omega) (fun e => by injection e with e; omega)⟩
theorem below_set16 (lim : Nat) {w W : World} {b : Nat} (h : Below lim w W) (hl : lim ≤ b) (v : Value) : Below lim w (W.setCell ⟨b, 16, none⟩ v) := h.setCell hl _
theorem jd_E (N : Nat) : ∀ q, q ∈ (jd N).E → q ≠ 69 := fun q hq => by
  have h := Kd.upto_E jsub N q hq
  simp only [jE, List.mem_cons, List.not_mem_nil, or_false] at h
  rcases h with rfl | rfl <;> decide
theorem R_far16 {N : Nat} {W : World} {lim : Nat} {ok : Nat → Prop} {v : Value} {xs : List (ByteArray × JV)} {b : Nat} {base : ByteArray} {u : Value} (h : (jm N).R 88 W lim ok v xs) (hr : Row 69 b (buA base u) W) (v1 : Value) : (jm N).R 88 (W.setCell ⟨b, 16, none⟩ v1) lim ok v xs :=
  Kd.R_set h hr (fun q hq => by
    rcases List.mem_cons.1 hq with rfl | hq
    · decide
    · exact jd_E N q hq) 16 v1
theorem M_far16 {N : Nat} {W : World} {lim : Nat} {ok : Nat → Prop} {x : JV} {cs : List Value} {b : Nat} {base : ByteArray} {u : Value} (h : (jd N).M W lim ok x cs) (hr : Row 69 b (buA base u) W) (v1 : Value) : (jd N).M (W.setCell ⟨b, 16, none⟩ v1) lim ok x cs :=
  Kd.M_drop (Kd.M_far (p := ⟨b, 16, none⟩) (Kd.M_types h hr (jd_E N)) (fun _ hk => hk.2) v1)
/-- A store at a step of a region that draws its order, by its run. -/
theorem step_store {ops : Array Oper} {o : Oper} {a : Act} {W W1 : World} {Q : Exit → Act → World → Prop} {Kc : Act → World → Prop} (hw : Region.wanted o (yielded ops a.tmps) = true) (t : TypeId) (p x : Operand) (ho : o.op = .store t p x) (A V : Value) (hp : a.eval p = A) (hx : a.eval x = V)
    (hst : (Instr.storeAt t A V).run Tryz.prog W = .ok () W1) (h : Kc (a.put o.dst undef) W1) :
    if Region.wanted o (yielded ops a.tmps) = true then Oper.wp Tryz.prog o a W Kc Q else Kc (a.put o.dst undef) W := by
  rw [if_pos hw]
  unfold Oper.wp execOp
  simp only [ho, hp, hx, Sem.run_bind, Sem.run_pure, Result.andThen_ok, hst]
  exact h
/-- What a builder's work leaves as it was: v is its members' row. -/
def Fr (b : Nat) (v : Value) (w w' : World) : Prop := ∀ k, k < w.heap.size → k ≠ b → v.ownBlock ≠ some k → w'.heap[k]? = w.heap[k]?
theorem Fr.below {b : Nat} {v : Value} {w w1 w2 : World} (hb : Below w.heap.size w w1) (h : Fr b v w1 w2) : Fr b v w w2 := fun k h1 h2 h3 => (h k (Nat.lt_of_lt_of_le h1 hb.size) h2 h3).trans (hb.block k h1)
theorem Fr.grown {b g : Nat} {v : Value} {w w1 w2 : World} (h : Fr b v w w1) (hs : w.heap.size ≤ w1.heap.size) (hg : w1.grownBy w2 (some g)) (hne : ∀ k, k < w.heap.size → v.ownBlock ≠ some k → k ≠ g) : Fr b v w w2 := fun k h1 h2 h3 => (hg.block k (by omega) (fun e => hne k h1 h3 (Option.some.inj e))).trans (h k h1 h2 h3)
theorem Fr.set {b o : Nat} {v : Value} {w w1 : World} (h : Fr b v w w1) (u : Value) : Fr b v w (w1.setCell ⟨b, o, none⟩ u) := fun k h1 h2 h3 => (Below.heap_setCell w1 ⟨b, o, none⟩ u k h2).trans (h k h1 h2 h3)
theorem Fr.row {N lim lo m b t k : Nat} {base : ByteArray} {xs : List (ByteArray × JV)} {v : Value} {w w' : World} {cs : Array Value} (h : Fr b v w w') (hB : Bu N lim lo m b base xs v w) (hr : Row t k cs w) (ht : t ≠ 88) (hk : k ≠ b) : Row t k cs w' :=
  (h k hr.lt hk (fun e => by
    obtain ⟨cells, hc⟩ := R_typed hB.list k e
    have h2 : w.heap[k]? = _ := hr
    rw [hc] at h2
    injection h2 with h2
    injection h2 with _ h2
    exact ht h2.symm)).trans hr
/-- What put leaves behind its append. -/
theorem put_mid {N lim lo m b : Nat} {base : ByteArray} {xs : List (ByteArray × JV)} {A : Option Addr} {c : Nat} {w0 w7 : World} {okp : Nat → Prop} {x : JV} {cs : List Value} {v1 : Value} {vb : Nat} {vs : Array Value} {z : ByteArray × JV} (nm : ByteArray)
    (hU : Bu N lim lo m b base xs (.slice A xs.length c) w0) (hx : (jd N).M w0 lo okp x cs) (hok : ∀ k, okp k → m ≤ k ∧ lo ≤ k ∧ k < w0.heap.size) (hv : Row 34 vb vs w0) (hvm : m ≤ vb)
    (ho : (jm N).R 88 w7 lo (fun k => lo ≤ k) v1 (xs ++ [z])) (hg : w0.grownBy w7 (Value.slice A xs.length c).ownBlock) (hat : v1.ownBlock = (Value.slice A xs.length c).ownBlock ∨ ∃ k, v1.ownBlock = some k ∧ w0.heap.size ≤ k) :
    ∃ g cap, v1 = .slice (some ⟨g, 0, none⟩) (xs.length + 1) cap ∧ Hid (Row 69 b (buA base (.slice A xs.length c)) w7) ∧ Hid (Row 34 vb vs w7) ∧ Hid (g ≠ b ∧ g ≠ vb ∧ lo ≤ g) ∧ Hid ((jd N).M w7 lo okp x cs) ∧ Hid (∀ k, okp k → lo ≤ k ∧ k ≠ g) ∧
      Hid ((jm N).R 88 w7 lo (fun k => lo ≤ k) (.slice (some ⟨g, 0, none⟩) (xs.length + 1) cap) (xs ++ [z])) ∧ Hid (Fr b (.slice A xs.length c) w0 w7) ∧ Hid (∀ k, k < w0.heap.size → (Value.slice A xs.length c).ownBlock ≠ some k → k ≠ g) := by
  obtain ⟨g, cap, rfl⟩ := R_some ho
  have hown : ∀ k, (Value.slice A xs.length c).ownBlock = some k → k < m ∧ k ≠ b ∧ k ≠ vb := fun k hk => by
    obtain ⟨cells, hc⟩ := R_typed hU.list k hk
    have h1 := (hU.list.1 k hk).2
    refine ⟨h1, ?_, by omega⟩
    rintro rfl
    have h2 : w0.heap[k]? = _ := hU.row
    rw [hc] at h2
    injection h2 with h2
    injection h2 with _ h2
    exact absurd h2 (by decide)
  have hg0 : (Value.slice (some ⟨g, 0, none⟩) (xs.length + 1) cap).ownBlock = some g := by simp [Value.ownBlock]
  rw [hg0] at hat
  have hgb : g < m ∨ w0.heap.size ≤ g := by
    rcases hat with h | ⟨k, h, h2⟩
    · exact .inl (hown g h.symm).1
    · injection h with h; exact .inr (by omega)
  have hvl : vb < w0.heap.size := hv.lt
  have hbl := hU.lt
  refine ⟨g, cap, rfl, ?_, ?_, ⟨?_, by omega, Kd.R_base ho g hg0⟩, ?_, fun k hk => ?_, ho, fun k h1 _ h3 => hg.block k h1 (fun e => h3 e.symm), fun k h1 h2 e => by
    subst e
    rcases hat with h | ⟨k', h, h3⟩
    · exact h2 h.symm
    · injection h with h; omega⟩
  · exact (hg.block b hbl (fun e => (hown b e.symm).2.1 rfl)).trans hU.row
  · exact (hg.block vb hvl (fun e => (hown vb e.symm).2.2 rfl)).trans hv
  · rcases hat with h | ⟨k, h, h2⟩
    · exact (hown g h.symm).2.1
    · injection h with h; omega
  · exact Kd.M_grown hx hg (fun k hk e => by have := hown k e.symm; have := hok k hk; omega)
  · have := hok k hk
    refine ⟨this.2.1, ?_⟩
    rintro rfl
    omega
end Go.Proofs.YtangheahliekeaaGreatDoor

