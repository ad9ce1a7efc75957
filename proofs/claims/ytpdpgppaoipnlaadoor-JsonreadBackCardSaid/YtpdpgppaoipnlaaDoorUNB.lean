/- What the claim uses of the text NB. -/
import Derived.Test.YtpdpgppaoipnlaaDoorUJ1
import Derived.Test.YtpdpgppaoipnlaaDoorUUtfX
import Derived.Test.YtpdpgppaoipnlaaDoorUBuild
import Derived.Test.YtpdpgppaoipnlaaDoorUK1
set_option linter.unusedVariables false
set_option linter.unusedSimpArgs false
namespace Go.Proofs.YtpdpgppaoipnlaaDoor
section
open Go.RowKit Go.PlainAid
open Go.Proofs.YtpdpgppaoipnlaaDoorW.PrintWords hiding bt

/-- Every row of cells that is neither a builder nor bytes is as it was. -/
def Keeps (w w' : World) : Prop := w.heap.size ≤ w'.heap.size ∧ ∀ (k : Nat) (cs : Array Value) (t : TypeId) (fr : Nat × Nat), w.heap[k]? = some (Obj.cells cs t fr) → t ≠ 92 → t ≠ 5 → w'.heap[k]? = some (Obj.cells cs t fr)
theorem Keeps.refl (w : World) : Keeps w w := ⟨Nat.le_refl _, fun _ _ _ _ h _ _ => h⟩
theorem Keeps.trans {a b c : World} (h : Keeps a b) (g : Keeps b c) : Keeps a c := ⟨Nat.le_trans h.1 g.1, fun k cs t fr e h1 h2 => g.2 k cs t fr (h.2 k cs t fr e h1 h2) h1 h2⟩
theorem Keeps.alloc (w : World) (o : Obj) : Keeps w (w.alloc o) := ⟨by show _ ≤ (w.heap.push o).size; rw [Array.size_push]; omega, fun k cs t fr e _ _ => (Go.heap_alloc_old _ _ (Array.getElem?_eq_some_iff.1 e).1).trans e⟩
theorem Keeps.drew (w : World) : Keeps w w.drew := ⟨Nat.le_refl _, fun _ _ _ _ h _ _ => h⟩
theorem Keeps.set {w : World} {b o : Nat} {ds : Array Value} {fr' : Nat × Nat} (h : w.heap[b]? = some (Obj.cells ds 92 fr')) (v : Value) : Keeps w (w.setCell ⟨b, o, none⟩ v) :=
  ⟨by simp [World.setCell], fun k cs t fr e h1 _ => (Below.heap_setCell _ _ _ _ (fun hk => by simp at hk; subst hk; rw [h] at e; injection e with e; injection e with e; exact h1 (by simp_all))).trans e⟩
theorem Keeps.grown {w w' : World} {v : Value} {B n : Nat} {xs : List Value} (hg : w.grownBy w' v.ownBlock) (ho : w.ownsRow B 5 1 v n xs) : Keeps w w' :=
  ⟨hg.size, fun k cs t fr e _ h2 => (hg.block k (Array.getElem?_eq_some_iff.1 e).1 (fun hk => Lib.ownBlock_ne ho e h2 hk.symm)).trans e⟩

theorem Builder_copyCheck_k (B b : Nat) (bs : List Value) (w : World) (h : Lib.IsBuilder 92 5 B b bs w) :
    Calls Tryd.prog 115 #[.pointer (some ⟨b, 0, none⟩)] w fun e w' => e = .returned (.tuple #[]) ∧ (Lib.BuilderAt 92 5 B b (.pointer (some ⟨b, 0, none⟩)) bs w' ∧ Below B w w') ∧ Keeps w w' := by
  rcases h with h | h
  · refine (Builder_copyCheck_fresh b w h.cell0 h.shape h.frozen0).mono ?_
    rintro e w' ⟨rfl, rfl⟩
    refine ⟨rfl, ⟨h.used _, (Below.refl B w).setCell (p := ⟨b, 0, none⟩) h.1 _⟩, ?_⟩
    obtain ⟨_, v, hb, _⟩ := h
    exact Keeps.set hb _
  · refine (Builder_copyCheck_used b w h.cell0).mono ?_
    rintro e w' ⟨rfl, rfl⟩
    exact ⟨rfl, ⟨h, Below.refl B _⟩, Keeps.refl _⟩

set_option maxHeartbeats 2000000 in
set_option maxRecDepth 100000 in
theorem Builder_WriteByte_k (B b : Nat) (bs : List Value) (c : Int) (w : World) (h : Lib.IsBuilder 92 5 B b bs w) (hlen : bs.length + 1 ≤ 140737488355328) (hBw : B ≤ w.heap.size) :
    Calls Tryd.prog 100 #[.pointer (some ⟨b, 0, none⟩), .int .u8 c] w fun e w' => e = .returned .nilIface ∧ (Lib.BuilderAt 92 5 B b (.pointer (some ⟨b, 0, none⟩)) (bs ++ [.int .u8 c]) w' ∧ Below B w w') ∧ Keeps w w' := by
  obtain ⟨i0, hi, hz0, hz1, hz2⟩ := info_parts build_infoByte
  go_enter Tryd.func100, Tryd.ntmps100
  go_wp2_with (go_at_call 115; refine (Builder_copyCheck_k B b bs _ h).mono ?_)
  rintro e w1 ⟨rfl, ⟨h1, hb1⟩, hk1⟩
  obtain ⟨hB, v, hbk, hown, hne⟩ := h1
  have c0 : w1.cell? ⟨b, 0, none⟩ = some (.pointer (some ⟨b, 0, none⟩)) := by rw [Lib.cell_of_heap hbk]; rfl
  have c1 : w1.cell? ⟨b, 1, none⟩ = some v := by rw [Lib.cell_of_heap hbk]; rfl
  go_wp2_with (at_builtin; refine wpList_append_own _ rfl _ _ 65 rfl B 5 i0 (.int .u8 0) 1 1 Tryd.underlying65 hi hz0 hz1 hz2 rfl (by decide) _ _ _ rfl (hown.alloc _) ⟨w1.heap.size, 0, none⟩ 1 1 [.int .u8 c] rfl rfl ?c1 ?c2 ?c3 ?c4 ?c5 ?_)
  case c1 =>
    intro j u hj
    match j, hj with
    | 0, hj => simp at hj; subst hj; simp [Addr.add]
  case c2 => intro u hu; simp at hu; subst hu; rfl
  case c3 => unfold maxLen; omega
  case c4 => omega
  case c5 => have := hb1.size; simp; omega
  intro v' w2 hown' hgrow _
  have hlt : b < w1.heap.size := by
    rcases Nat.lt_or_ge b w1.heap.size with h' | h'
    · exact h'
    · simp [Array.getElem?_eq_none h'] at hbk
  have hb2 : w2.heap[b]? = some (.cells #[.pointer (some ⟨b, 0, none⟩), v] 92 (0, 0)) := by
    rw [hgrow.block b (by simp; omega) (fun e => hne e.symm), Lib.alloc_old w1 _ b hlt]
    exact hbk
  have d0 : w2.cell? ⟨b, 0, none⟩ = some (.pointer (some ⟨b, 0, none⟩)) := by rw [Lib.cell_of_heap hb2]; rfl
  have d1 : w2.cell? ⟨b, 1, none⟩ = some v := by rw [Lib.cell_of_heap hb2]; rfl
  have f1 : w2.frozen? ⟨b, 1, none⟩ = false := Lib.frozen_of_heap hb2 1
  obtain ⟨g, cap, rfl⟩ : ∃ g cap, v' = .slice (some ⟨g, 0, none⟩) (bs.length + 1) cap := by
    rcases hown'.2 with ⟨_, h0⟩ | ⟨g, cap, cur, hv, _⟩
    · omega
    · exact ⟨g, cap, hv⟩
  go_wp2
  go_ret
  refine ⟨rfl, ⟨?_, ?_⟩, ?_⟩
  · exact Lib.BuilderAt.put (T := 92) (e := 5) hB hb2 (bs' := bs ++ [.int .u8 c]) (by simpa using hown') build_neB5
  · exact ((hb1.alloc (by have := hb1.size; omega) _).grown hgrow (by have := hb1.size; simp; omega) (fun k hk => (hown.lt k hk).1)).setCell (p := ⟨b, 1, none⟩) hB _
  · exact (hk1.trans (Keeps.alloc _ _)).trans ((Keeps.grown hgrow (hown.alloc _)).trans (Keeps.set hb2 _))

set_option maxHeartbeats 2000000 in
set_option maxRecDepth 100000 in
theorem Builder_WriteString_k (B b : Nat) (bs : List Value) (s : ByteArray) (w : World) (h : Lib.IsBuilder 92 5 B b bs w) (hlen : bs.length + s.size ≤ 140737488355328) (hBw : B ≤ w.heap.size) :
    Calls Tryd.prog 99 #[.pointer (some ⟨b, 0, none⟩), .string s] w fun e w' => e = .returned (.tuple #[.int .i64 s.size, .nilIface]) ∧ (Lib.BuilderAt 92 5 B b (.pointer (some ⟨b, 0, none⟩)) (bs ++ Lib.strCells s) w' ∧ Below B w w') ∧ Keeps w w' := by
  obtain ⟨i0, hi, hz0, hz1, hz2⟩ := info_parts build_infoByte
  go_enter Tryd.func99, Tryd.ntmps99
  go_wp2_with (go_at_call 115; refine (Builder_copyCheck_k B b bs _ h).mono ?_)
  rintro e w1 ⟨rfl, ⟨h1, hb1⟩, hk1⟩
  obtain ⟨hB, v, hbk, hown, hne⟩ := h1
  have c0 : w1.cell? ⟨b, 0, none⟩ = some (.pointer (some ⟨b, 0, none⟩)) := by rw [Lib.cell_of_heap hbk]; rfl
  have c1 : w1.cell? ⟨b, 1, none⟩ = some v := by rw [Lib.cell_of_heap hbk]; rfl
  go_wp2_with (at_builtin; refine Lib.wpList_append_own_string _ rfl _ _ 65 9 rfl B 5 i0 Tryd.underlying65 Tryd.underlying9 hi hz0 hz1 hz2 _ _ _ rfl hown s rfl ?c3 ?c4 ?c5 ?_)
  case c3 => unfold maxLen; omega
  case c4 => omega
  case c5 => have := hb1.size; omega
  intro v' w2 hown' hgrow _
  have hlt : b < w1.heap.size := by
    rcases Nat.lt_or_ge b w1.heap.size with h' | h'
    · exact h'
    · simp [Array.getElem?_eq_none h'] at hbk
  have hb2 : w2.heap[b]? = some (.cells #[.pointer (some ⟨b, 0, none⟩), v] 92 (0, 0)) := by
    rw [hgrow.block b hlt (fun e => hne e.symm)]
    exact hbk
  have d0 : w2.cell? ⟨b, 0, none⟩ = some (.pointer (some ⟨b, 0, none⟩)) := by rw [Lib.cell_of_heap hb2]; rfl
  have d1 : w2.cell? ⟨b, 1, none⟩ = some v := by rw [Lib.cell_of_heap hb2]; rfl
  have f1 : w2.frozen? ⟨b, 1, none⟩ = false := Lib.frozen_of_heap hb2 1
  obtain ⟨ao, n', cap, rfl⟩ : ∃ ao n' cap, v' = .slice ao n' cap := by
    rcases hown'.2 with ⟨hv, _⟩ | ⟨g, cap, cur, hv, _⟩
    · exact ⟨_, _, _, hv⟩
    · exact ⟨_, _, _, hv⟩
  go_wp2
  go_ret2
  refine ⟨rfl, ⟨?_, ?_⟩, ?_⟩
  · exact Lib.BuilderAt.put (T := 92) (e := 5) hB hb2 (bs' := bs ++ Lib.strCells s) (by simpa [Lib.strCells_length] using hown') build_neB5
  · exact (hb1.grown hgrow (by have := hb1.size; omega) (fun k hk => (hown.lt k hk).1)).setCell (p := ⟨b, 1, none⟩) hB _
  · exact hk1.trans ((Keeps.grown hgrow hown).trans (Keeps.set hb2 _))

theorem strCells_ints (s : ByteArray) : Lib.strCells s = (ints s).map (Value.int .u8) := by
  unfold Lib.strCells ints
  rw [List.map_map]
  rfl
/-- A builder's state, and what is kept since w. -/
theorem Bld.putB {b : Nat} {bs : List Int} {w0 w : World} (h : Bld w0.heap.size b bs w) (c : Int) (h0 : 0 ≤ c) (h1 : c ≤ 255) (hl : (bs.length : Int) ≤ 1000000000) (hb : Below w0.heap.size w0 w) :
    Calls Tryd.prog 100 #[.pointer (some ⟨b, 0, none⟩), .int .u8 c] w fun e w' => e = .returned .nilIface ∧ Hid (Bld w0.heap.size b (bs ++ [c]) w') ∧ Hid (Below w0.heap.size w0 w') ∧ Hid (Keeps w w') := by
  refine (Builder_WriteByte_k w0.heap.size b (bs.map (Value.int .u8)) c w h.2 (by rw [List.length_map]; omega) hb.size).mono ?_
  rintro e w' ⟨rfl, ⟨h3, h2⟩, h4⟩
  refine ⟨rfl, ⟨?_, ?_⟩, hb.trans h2, h4⟩
  · intro x hx
    rcases List.mem_append.1 hx with hx | hx
    · exact h.1 x hx
    · rw [List.mem_singleton] at hx; omega
  · rw [List.map_append]
    exact .inr h3
theorem Bld.putS {b : Nat} {bs : List Int} {w0 w : World} (h : Bld w0.heap.size b bs w) (s : ByteArray) (l : List Int) (hsl : ints s = l) (hs : s.size ≤ 100000000) (hl : (bs.length : Int) ≤ 1000000000) (hb : Below w0.heap.size w0 w) :
    Calls Tryd.prog 99 #[.pointer (some ⟨b, 0, none⟩), .string s] w fun e w' => e = .returned (.tuple #[.int .i64 s.size, .nilIface]) ∧ Hid (Bld w0.heap.size b (bs ++ l) w') ∧ Hid (Below w0.heap.size w0 w') ∧ Hid (Keeps w w') := by
  subst hsl
  refine (Builder_WriteString_k w0.heap.size b (bs.map (Value.int .u8)) s w h.2 (by rw [List.length_map]; omega) hb.size).mono ?_
  rintro e w' ⟨rfl, ⟨h1, h2⟩, h4⟩
  refine ⟨rfl, ⟨?_, ?_⟩, hb.trans h2, h4⟩
  · intro x hx
    rcases List.mem_append.1 hx with hx | hx
    · exact h.1 x hx
    · exact ints_range s x hx
  · rw [List.map_append, ← strCells_ints]
    exact .inr h1
end

section
open Go.RowKit Go.PlainAid
open Go.Proofs.YtpdpgppaoipnlaaDoorW.PrintWords hiding bt

theorem dig_hexl (x : Int) (h0 : 0 ≤ x) (h1 : x < 16) (hh : x.toNat < (⟨#[48, 49, 50, 51, 52, 53, 54, 55, 56, 57, 97, 98, 99, 100, 101, 102]⟩ : ByteArray).size) : (((⟨#[48, 49, 50, 51, 52, 53, 54, 55, 56, 57, 97, 98, 99, 100, 101, 102]⟩ : ByteArray)[x.toNat]'hh).toNat : Int) = hexl x := by
  obtain ⟨n, rfl⟩ : ∃ n : Nat, x = n := ⟨x.toNat, by omega⟩
  have : n = 0 ∨ n = 1 ∨ n = 2 ∨ n = 3 ∨ n = 4 ∨ n = 5 ∨ n = 6 ∨ n = 7 ∨ n = 8 ∨ n = 9 ∨ n = 10 ∨ n = 11 ∨ n = 12 ∨ n = 13 ∨ n = 14 ∨ n = 15 := by omega
  rcases this with h | h | h | h | h | h | h | h | h | h | h | h | h | h | h | h <;> subst h <;> rfl
theorem quo1_len (b : Int) : (quo1 b).length ≤ 6 := by
  unfold quo1
  split <;> (try split) <;> (try split) <;> (try split) <;> (try split) <;> (try split) <;> (try split) <;> simp
def quoB (l : List Int) : List Int := (l.map quo1).flatten
theorem quoB_len (l : List Int) : (quoB l).length ≤ 6 * l.length := by
  induction l with
  | nil => simp [quoB]
  | cons b l ih =>
    have h1 := quo1_len b
    unfold quoB at ih ⊢
    rw [List.map_cons, List.flatten_cons, List.length_append, List.length_cons]
    omega
theorem quoB_take (s : ByteArray) (i : Nat) (h : i < s.size) : quoB ((ints s).take (i + 1)) = quoB ((ints s).take i) ++ quo1 (bt s i) := by
  have h' : i < (ints s).length := by rw [ints_length]; exact h
  have e : (ints s)[i] = bt s i := by rw [bt_ints, List.getD_eq_getElem?_getD, List.getElem?_eq_getElem h']; rfl
  rw [List.take_succ_eq_append_getElem h', e]
  simp [quoB]

set_option maxHeartbeats 2000000 in
set_option maxRecDepth 100000 in
theorem quote_any (b : Nat) (bs : List Int) (s : ByteArray) (w0 w : World) (h : Bld w0.heap.size b bs w) (hl : bs.length ≤ 100000000) (hs : s.size ≤ 100000000) (hb : Below w0.heap.size w0 w) :
    Calls Tryd.prog 69 #[.pointer (some ⟨b, 0, none⟩), .string s] w fun e w' => e = .returned (.tuple #[]) ∧ Hid (Bld w0.heap.size b (bs ++ quo (ints s)) w') ∧ Hid (Below w0.heap.size w0 w') ∧ Hid (Keeps w w') := by
  have hbt := get_bt s
  have HW := Lib.hid (h.putB 34 (by omega) (by omega) (by omega) hb)
  clear h hb
  go_enter Tryd.func69, Tryd.ntmps69
  go_wp2_with fail
  refine HW.out.mono ?_
  rintro e w1 ⟨rfl, hb1, hw1, hk1⟩
  have H0 := Lib.hid hb1.out
  have HB0 := Lib.hid hw1.out
  have HK0 := Lib.hid hk1.out
  clear HW hb1 hw1 hk1
  go_wp2_with fail
  go_loopg [4] s.size (fun k v4 w' => ∃ i : Nat, v4 = .int .i64 i ∧ Hid (i + k = s.size) ∧ Hid (Bld w0.heap.size b ((bs ++ [34]) ++ quoB ((ints s).take i)) w') ∧ Hid (Below w0.heap.size w0 w') ∧ Hid (Keeps w w'))
  case atStart => exact ⟨0, rfl, by show _ = _; omega, by show Bld _ _ _ _; simpa [quoB] using H0.out, HB0.out, HK0.out⟩
  case round =>
    obtain ⟨i, rfl, HI, H1, HB, HK⟩ := hrel
    clear H0 HB0 HK0
    have hlen : ((bs ++ [34] ++ quoB ((ints s).take i)).length : Int) ≤ 900000000 := by
      have := quoB_len ((ints s).take i)
      have h2 : ((ints s).take i).length ≤ s.size := by rw [List.length_take, ints_length]; omega
      rw [List.length_append, List.length_append, List.length_singleton]
      omega
    by_cases hlt : i < s.size
    · obtain ⟨k1, rfl⟩ : ∃ k1, gk = k1 + 1 := ⟨gk - 1, by have := HI.out; omega⟩
      have n0 := bt_nonneg s i
      have l0 := bt_le s i
      have HE := Lib.hid (quoB_take s i hlt)
      have HI2 : Hid (i + 1 + k1 = s.size) := by have := HI.out; show _ = _; omega
      generalize hpre : bs ++ [34] ++ quoB ((ints s).take i) = pre at *

      by_cases h34 : bt s i = 34
      · skip
        have e34 : (bt s i == 34) = true := by simp; omega
        have HQ : Hid (quo1 (bt s i) = [92, bt s i]) := by show _ = _; unfold quo1; rw [if_pos (.inl h34)]
        clear h34
        have HWr := Lib.hid (H1.out.putB (92) (by omega) (by omega) (by omega) HB.out)
        go_wp2_with fail
        refine HWr.out.mono ?_
        rintro e w2 ⟨rfl, hx0, hy0, hz0⟩
        clear HWr
        have HK1 := Lib.hid (Keeps.trans HK.out hz0.out)
        have HWr := Lib.hid (hx0.out.putB (bt s i) n0 l0 (by simp; omega) hy0.out)
        go_wp2_with fail
        refine HWr.out.mono ?_
        rintro e w3 ⟨rfl, hx1, hy1, hz1⟩
        clear HWr
        have HK2 := Lib.hid (Keeps.trans HK1.out hz1.out)
        go_wp2_with fail
        go_roundg k1
        case measure => omega
        case rel => exact ⟨i + 1, by go_num, HI2, by show Bld _ _ _ _; rw [HE.out, HQ.out, ← List.append_assoc, hpre]; have := hx1.out; rwa [List.append_assoc] at this, hy1, HK2⟩
      · by_cases h92 : bt s i = 92
        · skip
          have e34 : (bt s i == 34) = false := by simp; omega
          have e92 : (bt s i == 92) = true := by simp; omega
          have HQ : Hid (quo1 (bt s i) = [92, bt s i]) := by show _ = _; unfold quo1; rw [if_pos (.inr h92)]
          clear h34 h92
          have HWr := Lib.hid (H1.out.putB (92) (by omega) (by omega) (by omega) HB.out)
          go_wp2_with fail
          refine HWr.out.mono ?_
          rintro e w2 ⟨rfl, hx0, hy0, hz0⟩
          clear HWr
          have HK1 := Lib.hid (Keeps.trans HK.out hz0.out)
          have HWr := Lib.hid (hx0.out.putB (bt s i) n0 l0 (by simp; omega) hy0.out)
          go_wp2_with fail
          refine HWr.out.mono ?_
          rintro e w3 ⟨rfl, hx1, hy1, hz1⟩
          clear HWr
          have HK2 := Lib.hid (Keeps.trans HK1.out hz1.out)
          go_wp2_with fail
          go_roundg k1
          case measure => omega
          case rel => exact ⟨i + 1, by go_num, HI2, by show Bld _ _ _ _; rw [HE.out, HQ.out, ← List.append_assoc, hpre]; have := hx1.out; rwa [List.append_assoc] at this, hy1, HK2⟩
        · by_cases h8 : bt s i = 8
          · skip
            have e34 : (bt s i == 34) = false := by simp; omega
            have e92 : (bt s i == 92) = false := by simp; omega
            have e8 : (bt s i == 8) = true := by simp; omega
            have HQ : Hid (quo1 (bt s i) = [92, 98]) := by show _ = _; rw [h8]; kernel_rfl
            clear h34 h92 h8
            have HWr := Lib.hid (H1.out.putS ⟨#[92, 98]⟩ [92, 98] (by kernel_rfl) (by decide) (by omega) HB.out)
            go_wp2_with fail
            refine HWr.out.mono ?_
            rintro e w2 ⟨rfl, hx0, hy0, hz0⟩
            clear HWr
            have HK1 := Lib.hid (Keeps.trans HK.out hz0.out)
            go_wp2_with fail
            go_roundg k1
            case measure => omega
            case rel => exact ⟨i + 1, by go_num, HI2, by show Bld _ _ _ _; rw [HE.out, HQ.out, ← List.append_assoc, hpre]; exact hx0.out, hy0, HK1⟩
          · by_cases h9 : bt s i = 9
            · skip
              have e34 : (bt s i == 34) = false := by simp; omega
              have e92 : (bt s i == 92) = false := by simp; omega
              have e8 : (bt s i == 8) = false := by simp; omega
              have e9 : (bt s i == 9) = true := by simp; omega
              have HQ : Hid (quo1 (bt s i) = [92, 116]) := by show _ = _; rw [h9]; kernel_rfl
              clear h34 h92 h8 h9
              have HWr := Lib.hid (H1.out.putS ⟨#[92, 116]⟩ [92, 116] (by kernel_rfl) (by decide) (by omega) HB.out)
              go_wp2_with fail
              refine HWr.out.mono ?_
              rintro e w2 ⟨rfl, hx0, hy0, hz0⟩
              clear HWr
              have HK1 := Lib.hid (Keeps.trans HK.out hz0.out)
              go_wp2_with fail
              go_roundg k1
              case measure => omega
              case rel => exact ⟨i + 1, by go_num, HI2, by show Bld _ _ _ _; rw [HE.out, HQ.out, ← List.append_assoc, hpre]; exact hx0.out, hy0, HK1⟩
            · by_cases h10 : bt s i = 10
              · skip
                have e34 : (bt s i == 34) = false := by simp; omega
                have e92 : (bt s i == 92) = false := by simp; omega
                have e8 : (bt s i == 8) = false := by simp; omega
                have e9 : (bt s i == 9) = false := by simp; omega
                have e10 : (bt s i == 10) = true := by simp; omega
                have HQ : Hid (quo1 (bt s i) = [92, 110]) := by show _ = _; rw [h10]; kernel_rfl
                clear h34 h92 h8 h9 h10
                have HWr := Lib.hid (H1.out.putS ⟨#[92, 110]⟩ [92, 110] (by kernel_rfl) (by decide) (by omega) HB.out)
                go_wp2_with fail
                refine HWr.out.mono ?_
                rintro e w2 ⟨rfl, hx0, hy0, hz0⟩
                clear HWr
                have HK1 := Lib.hid (Keeps.trans HK.out hz0.out)
                go_wp2_with fail
                go_roundg k1
                case measure => omega
                case rel => exact ⟨i + 1, by go_num, HI2, by show Bld _ _ _ _; rw [HE.out, HQ.out, ← List.append_assoc, hpre]; exact hx0.out, hy0, HK1⟩
              · by_cases h12 : bt s i = 12
                · skip
                  have e34 : (bt s i == 34) = false := by simp; omega
                  have e92 : (bt s i == 92) = false := by simp; omega
                  have e8 : (bt s i == 8) = false := by simp; omega
                  have e9 : (bt s i == 9) = false := by simp; omega
                  have e10 : (bt s i == 10) = false := by simp; omega
                  have e12 : (bt s i == 12) = true := by simp; omega
                  have HQ : Hid (quo1 (bt s i) = [92, 102]) := by show _ = _; rw [h12]; kernel_rfl
                  clear h34 h92 h8 h9 h10 h12
                  have HWr := Lib.hid (H1.out.putS ⟨#[92, 102]⟩ [92, 102] (by kernel_rfl) (by decide) (by omega) HB.out)
                  go_wp2_with fail
                  refine HWr.out.mono ?_
                  rintro e w2 ⟨rfl, hx0, hy0, hz0⟩
                  clear HWr
                  have HK1 := Lib.hid (Keeps.trans HK.out hz0.out)
                  go_wp2_with fail
                  go_roundg k1
                  case measure => omega
                  case rel => exact ⟨i + 1, by go_num, HI2, by show Bld _ _ _ _; rw [HE.out, HQ.out, ← List.append_assoc, hpre]; exact hx0.out, hy0, HK1⟩
                · by_cases h13 : bt s i = 13
                  · skip
                    have e34 : (bt s i == 34) = false := by simp; omega
                    have e92 : (bt s i == 92) = false := by simp; omega
                    have e8 : (bt s i == 8) = false := by simp; omega
                    have e9 : (bt s i == 9) = false := by simp; omega
                    have e10 : (bt s i == 10) = false := by simp; omega
                    have e12 : (bt s i == 12) = false := by simp; omega
                    have e13 : (bt s i == 13) = true := by simp; omega
                    have HQ : Hid (quo1 (bt s i) = [92, 114]) := by show _ = _; rw [h13]; kernel_rfl
                    clear h34 h92 h8 h9 h10 h12 h13
                    have HWr := Lib.hid (H1.out.putS ⟨#[92, 114]⟩ [92, 114] (by kernel_rfl) (by decide) (by omega) HB.out)
                    go_wp2_with fail
                    refine HWr.out.mono ?_
                    rintro e w2 ⟨rfl, hx0, hy0, hz0⟩
                    clear HWr
                    have HK1 := Lib.hid (Keeps.trans HK.out hz0.out)
                    go_wp2_with fail
                    go_roundg k1
                    case measure => omega
                    case rel => exact ⟨i + 1, by go_num, HI2, by show Bld _ _ _ _; rw [HE.out, HQ.out, ← List.append_assoc, hpre]; exact hx0.out, hy0, HK1⟩
                  · by_cases h32 : 32 ≤ bt s i
                    · have e32 : decide (32 ≤ bt s i) = true := by simpa using h32
                      have e34 : (bt s i == 34) = false := by simp; omega
                      have e92 : (bt s i == 92) = false := by simp; omega
                      have e8 : (bt s i == 8) = false := by simp; omega
                      have e9 : (bt s i == 9) = false := by simp; omega
                      have e10 : (bt s i == 10) = false := by simp; omega
                      have e12 : (bt s i == 12) = false := by simp; omega
                      have e13 : (bt s i == 13) = false := by simp; omega
                      have HQ : Hid (quo1 (bt s i) = [bt s i]) := by show _ = _; unfold quo1; rw [if_neg (by omega), if_pos h32]
                      clear h34 h92 h8 h9 h10 h12 h13 h32
                      have HWr := Lib.hid (H1.out.putB (bt s i) n0 l0 (by omega) HB.out)
                      go_wp2_with fail
                      refine HWr.out.mono ?_
                      rintro e w2 ⟨rfl, hx0, hy0, hz0⟩
                      clear HWr
                      have HK1 := Lib.hid (Keeps.trans HK.out hz0.out)
                      go_wp2_with fail
                      go_roundg k1
                      case measure => omega
                      case rel => exact ⟨i + 1, by go_num, HI2, by show Bld _ _ _ _; rw [HE.out, HQ.out, ← List.append_assoc, hpre]; exact hx0.out, hy0, HK1⟩
                    · have e32 : decide (32 ≤ bt s i) = false := by simpa using h32
                      have sh : (bt s i >>> 4 : Int) = bt s i / 16 := by rw [Int.shiftRight_eq_div_pow]; rfl
                      have e34 : (bt s i == 34) = false := by simp; omega
                      have e92 : (bt s i == 92) = false := by simp; omega
                      have e8 : (bt s i == 8) = false := by simp; omega
                      have e9 : (bt s i == 9) = false := by simp; omega
                      have e10 : (bt s i == 10) = false := by simp; omega
                      have e12 : (bt s i == 12) = false := by simp; omega
                      have e13 : (bt s i == 13) = false := by simp; omega
                      have HQ : Hid (quo1 (bt s i) = [92, 117, 48, 48] ++ [hexl (bt s i / 16), hexl (bt s i % 16)]) := by show _ = _; unfold quo1; rw [if_neg (by omega), if_neg h32, if_neg h8, if_neg h9, if_neg h10, if_neg h12, if_neg h13]; rfl
                      clear h34 h92 h8 h9 h10 h12 h13 h32
                      have HWr := Lib.hid (H1.out.putS ⟨#[92, 117, 48, 48]⟩ [92, 117, 48, 48] (by kernel_rfl) (by decide) (by omega) HB.out)
                      go_wp2_with fail
                      refine HWr.out.mono ?_
                      rintro e w2 ⟨rfl, hx0, hy0, hz0⟩
                      clear HWr
                      have HK1 := Lib.hid (Keeps.trans HK.out hz0.out)
                      have HWr := Lib.hid (hx0.out.putB (hexl (bt s i / 16)) (by unfold hexl; split <;> omega) (by unfold hexl; split <;> omega) (by simp; omega) hy0.out)
                      go_wp2_with fail
                      rw [dig_hexl (bt s i / 16) (by omega) (by omega)]
                      refine HWr.out.mono ?_
                      rintro e w3 ⟨rfl, hx1, hy1, hz1⟩
                      clear HWr
                      have HK2 := Lib.hid (Keeps.trans HK1.out hz1.out)
                      have HWr := Lib.hid (hx1.out.putB (hexl (bt s i % 16)) (by unfold hexl; split <;> omega) (by unfold hexl; split <;> omega) (by simp; omega) hy1.out)
                      go_wp2_with fail
                      rw [dig_hexl (bt s i % 16) (by omega) (by omega)]
                      refine HWr.out.mono ?_
                      rintro e w4 ⟨rfl, hx2, hy2, hz2⟩
                      clear HWr
                      have HK3 := Lib.hid (Keeps.trans HK2.out hz2.out)
                      go_wp2_with fail
                      go_roundg k1
                      case measure => omega
                      case rel => exact ⟨i + 1, by go_num, HI2, by show Bld _ _ _ _; rw [HE.out, HQ.out, ← List.append_assoc, hpre]; have := hx2.out; simpa [List.append_assoc] using this, hy2, HK3⟩
    · obtain rfl : i = s.size := by have := HI.out; omega
      have HWr := Lib.hid (H1.out.putB 34 (by omega) (by omega) (by omega) HB.out)
      go_wp2_with fail
      refine HWr.out.mono ?_
      rintro e w2 ⟨rfl, hx, hy, hz⟩
      go_wp2_with fail
      refine bodyPost_end (results_none rfl _ _ _) rfl ?_
      refine ⟨rfl, ?_, hy, Keeps.trans HK.out hz.out⟩
      have := hx.out
      rw [show (ints s).take s.size = ints s by rw [← ints_length, List.take_length]] at this
      show Bld _ _ _ _
      unfold quo
      simpa [quoB, List.append_assoc] using this
end

section
open Go.RowKit Go.PlainAid
open Go.Proofs.YtpdpgppaoipnlaaDoorW.PrintWords hiding bt

def joinC : List (List Int) → List Int
  | [] => []
  | a :: l => a ++ (l.map (44 :: ·)).flatten
theorem joinC_snoc (l : List (List Int)) (a : List Int) : joinC (l ++ [a]) = joinC l ++ ((if l.length = 0 then [] else [44]) ++ a) := by
  cases l with
  | nil => simp [joinC]
  | cons b l => simp [joinC]
mutual
/-- What is put, whatever the value is. -/
def putV : JV → List Int
  | ⟨k, t, l, m⟩ =>
    if k = 0 then [110, 117, 108, 108] else if k = 1 then [102, 97, 108, 115, 101] else if k = 2 then [116, 114, 117, 101]
    else if k = 3 then ints t else if k = 4 then quo (ints t) else if k = 5 then 91 :: (joinC (putL l) ++ [93]) else if k = 6 then 123 :: (joinC (putM m) ++ [125]) else []
def putL : List JV → List (List Int)
  | [] => []
  | x :: l => putV x :: putL l
def putM : List (ByteArray × JV) → List (List Int)
  | [] => []
  | (n, x) :: l => (quo (ints n) ++ 58 :: putV x) :: putM l
end
theorem putL_map : ∀ l : List JV, putL l = l.map putV
  | [] => rfl
  | x :: l => by rw [putL, List.map_cons, putL_map l]
theorem putM_map : ∀ l : List (ByteArray × JV), putM l = l.map fun p => quo (ints p.1) ++ 58 :: putV p.2
  | [] => rfl
  | (n, x) :: l => by rw [putM, List.map_cons, putM_map l]
theorem putL_take (l : List JV) (k : Nat) (h : k < l.length) : joinC (putL (l.take (k + 1))) = joinC (putL (l.take k)) ++ ((if k = 0 then [] else [44]) ++ putV (l.getD k jz)) := by
  rw [putL_map, putL_map, List.take_succ_eq_append_getElem h, List.map_append, List.map_singleton, joinC_snoc, List.length_map, List.length_take, List.getD_eq_getElem?_getD, List.getElem?_eq_getElem h]
  rw [show min k l.length = k by omega]
  rfl
theorem putM_take (l : List (ByteArray × JV)) (k : Nat) (h : k < l.length) : joinC (putM (l.take (k + 1))) = joinC (putM (l.take k)) ++ ((if k = 0 then [] else [44]) ++ (quo (ints (l.getD k (⟨#[]⟩, jz)).1) ++ 58 :: putV (l.getD k (⟨#[]⟩, jz)).2)) := by
  rw [putM_map, putM_map, List.take_succ_eq_append_getElem h, List.map_append, List.map_singleton, joinC_snoc, List.length_map, List.length_take, List.getD_eq_getElem?_getD, List.getElem?_eq_getElem h]
  rw [show min k l.length = k by omega]
  rfl
theorem joinC_pre (l : List (List Int)) (k : Nat) : (joinC (l.take k)).length ≤ (joinC l).length := by
  cases l with
  | nil => simp
  | cons a l =>
    cases k with
    | zero => simp [joinC]
    | succ k =>
      rw [List.take_succ_cons]
      simp only [joinC, List.length_append]
      have : ((l.take k).map (44 :: ·)).flatten.length ≤ (l.map (44 :: ·)).flatten.length := by
        rw [List.map_take]
        conv => rhs; rw [← List.take_append_drop k (l.map (44 :: ·))]
        rw [List.flatten_append, List.length_append]
        omega
      omega
theorem quo_len (s : ByteArray) : s.size + 2 ≤ (quo (ints s)).length := by
  have h : ∀ l : List Int, l.length ≤ (l.map quo1).flatten.length := by
    intro l
    induction l with
    | nil => simp
    | cons b l ih =>
      have : 1 ≤ (quo1 b).length := by
        unfold quo1
        split <;> (try split) <;> (try split) <;> (try split) <;> (try split) <;> (try split) <;> (try split) <;> simp
      rw [List.map_cons, List.flatten_cons, List.length_append, List.length_cons]
      omega
  have := h (ints s)
  rw [ints_length] at this
  unfold quo
  simp
  simpa using this
theorem Bld.alloc {B b : Nat} {bs : List Int} {w : World} (h : Bld B b bs w) (o : Obj) : Bld B b bs (w.alloc o) := by
  have ha : ∀ p cs, Lib.BuilderAt 92 5 B b p cs w → Lib.BuilderAt 92 5 B b p cs (w.alloc o) := by
    intro p cs g
    have hlt := g.lt
    obtain ⟨h1, v, h2, h3, h4⟩ := g
    exact ⟨h1, v, (Go.heap_alloc_old _ _ hlt).trans h2, h3.alloc _, h4⟩
  exact ⟨h.1, h.2.imp (ha _ _) (ha _ _)⟩
theorem cell_lt {w : World} {p : Addr} {v : Value} (h : w.cell? p = some v) : p.block < w.heap.size := by
  rcases Nat.lt_or_ge p.block w.heap.size with h' | h'
  · exact h'
  · simp [World.cell?, Array.getElem?_eq_none h'] at h
theorem cell_under {B : World} {w' : World} {p : Addr} {v : Value} (hb : Below B.heap.size B w') (h : B.cell? p = some v) : w'.cell? p = some v := (hb.cell (cell_lt h)).trans h
theorem Keeps.row {t : TypeId} {c : Nat} {cs : Array Value} {w w' : World} (h : Row t c cs w) (hk : Keeps w w') (h1 : t ≠ 92) (h2 : t ≠ 5) : Row t c cs w' := hk.2 _ _ _ _ h h1 h2

def PutAll (n : Nat) : Prop := ∀ (b : Nat) (bs : List Int) (x : JV) (cs : List Value) (w0 w : World), (jd n).K w0 x cs → Bld w0.heap.size b bs w → Below w0.heap.size w0 w → bs.length + (putV x).length ≤ 100000000 →
    Calls Tryd.prog 66 #[.pointer (some ⟨b, 0, none⟩), .agg cs.toArray] w fun e w' => e = .returned (.tuple #[]) ∧ Hid (Bld w0.heap.size b (bs ++ putV x) w') ∧ Hid (Below w0.heap.size w0 w') ∧ Hid (Keeps w w')

set_option maxHeartbeats 8000000 in
set_option maxRecDepth 100000 in
theorem put_step (n : Nat) (ih : PutAll n) : PutAll (n + 1) := by
  intro b bs x cs w0 w hk h hb hl
  have HIH := Lib.hid ih
  clear ih
  obtain ⟨A2, c2, A3, c3, rfl, l2, g2, l3, g3⟩ := jd_open hk
  clear hk
  obtain ⟨k, t, l, m⟩ := x
  change Calls _ _ #[_, .agg #[.int .i64 k, .string t, .slice A2 l.length c2, .slice A3 m.length c3]] _ _
  have H0 : Hid (Bld w0.heap.size b bs (w.alloc (.cells #[.int .i64 k, .string t, .slice A2 l.length c2, .slice A3 m.length c3] 26))) := h.alloc _
  have HB0 : Hid (Below w0.heap.size w0 (w.alloc (.cells #[.int .i64 k, .string t, .slice A2 l.length c2, .slice A3 m.length c3] 26))) := hb.alloc hb.size _
  have HK0 : Hid (Keeps w (w.alloc (.cells #[.int .i64 k, .string t, .slice A2 l.length c2, .slice A3 m.length c3] 26))) := Keeps.alloc _ _
  have G2 := Lib.hid g2
  have G3 := Lib.hid g3
  have s2 : l.length ≤ 9223372036854775807 := g2.2.1
  have s3 : m.length ≤ 9223372036854775807 := g3.2.1
  clear h hb g2 g3

  by_cases k0 : k = 0
  · subst k0
    have HV : Hid (putV ⟨0, t, l, m⟩ = [110, 117, 108, 108]) := by show _ = _; rw [putV]; rfl
    rw [HV.out] at hl ⊢
    have HWr := Lib.hid (H0.out.putS ⟨#[110, 117, 108, 108]⟩ [110, 117, 108, 108] (by kernel_rfl) (by decide) (by simp at hl; omega) HB0.out)
    clear H0 HB0 G2 G3
    go_enter Tryd.func66, Tryd.ntmps66
    go_wp2_with fail
    refine HWr.out.mono ?_
    rintro e w1 ⟨rfl, h1, h2, h3⟩
    go_wp2_with fail
    refine bodyPost_end (results_none rfl _ _ _) rfl ?_
    exact ⟨rfl, h1, h2, Keeps.trans HK0.out h3.out⟩
  · by_cases k1 : k = 1
    · subst k1
      have HV : Hid (putV ⟨1, t, l, m⟩ = [102, 97, 108, 115, 101]) := by show _ = _; rw [putV]; rfl
      rw [HV.out] at hl ⊢
      have HWr := Lib.hid (H0.out.putS ⟨#[102, 97, 108, 115, 101]⟩ [102, 97, 108, 115, 101] (by kernel_rfl) (by decide) (by simp at hl; omega) HB0.out)
      clear H0 HB0 G2 G3
      go_enter Tryd.func66, Tryd.ntmps66
      go_wp2_with fail
      refine HWr.out.mono ?_
      rintro e w1 ⟨rfl, h1, h2, h3⟩
      go_wp2_with fail
      refine bodyPost_end (results_none rfl _ _ _) rfl ?_
      exact ⟨rfl, h1, h2, Keeps.trans HK0.out h3.out⟩
    · by_cases k2 : k = 2
      · subst k2
        have HV : Hid (putV ⟨2, t, l, m⟩ = [116, 114, 117, 101]) := by show _ = _; rw [putV]; rfl
        rw [HV.out] at hl ⊢
        have HWr := Lib.hid (H0.out.putS ⟨#[116, 114, 117, 101]⟩ [116, 114, 117, 101] (by kernel_rfl) (by decide) (by simp at hl; omega) HB0.out)
        clear H0 HB0 G2 G3
        go_enter Tryd.func66, Tryd.ntmps66
        go_wp2_with fail
        refine HWr.out.mono ?_
        rintro e w1 ⟨rfl, h1, h2, h3⟩
        go_wp2_with fail
        refine bodyPost_end (results_none rfl _ _ _) rfl ?_
        exact ⟨rfl, h1, h2, Keeps.trans HK0.out h3.out⟩
      · by_cases k3 : k = 3
        · subst k3
          have HV : Hid (putV ⟨3, t, l, m⟩ = ints t) := by show _ = _; rw [putV]; rfl
          rw [HV.out] at hl ⊢
          rw [ints_length] at hl
          have HWr := Lib.hid (H0.out.putS t (ints t) rfl (by omega) (by omega) HB0.out)
          clear H0 HB0 G2 G3
          go_enter Tryd.func66, Tryd.ntmps66
          go_wp2_with fail
          refine HWr.out.mono ?_
          rintro e w1 ⟨rfl, h1, h2, h3⟩
          go_wp2_with fail
          refine bodyPost_end (results_none rfl _ _ _) rfl ?_
          exact ⟨rfl, h1, h2, Keeps.trans HK0.out h3.out⟩
        · by_cases k4 : k = 4
          · subst k4
            have HV : Hid (putV ⟨4, t, l, m⟩ = quo (ints t)) := by show _ = _; rw [putV]; rfl
            rw [HV.out] at hl ⊢
            have hq := quo_len t
            have HWr := Lib.hid (quote_any b bs t w0 _ H0.out (by omega) (by omega) HB0.out)
            clear hq
            clear H0 HB0 G2 G3
            go_enter Tryd.func66, Tryd.ntmps66
            go_wp2_with fail
            refine HWr.out.mono ?_
            rintro e w1 ⟨rfl, h1, h2, h3⟩
            go_wp2_with fail
            refine bodyPost_end (results_none rfl _ _ _) rfl ?_
            exact ⟨rfl, h1, h2, Keeps.trans HK0.out h3.out⟩
          · by_cases k5 : k = 5
            · subst k5
              have HV : Hid (putV ⟨5, t, l, m⟩ = 91 :: (joinC (putL l) ++ [93])) := by show _ = _; rw [putV]; rfl
              rw [HV.out] at hl ⊢
              have HL : Hid (bs.length + (joinC (putL l)).length + 2 ≤ 100000000) := by simp at hl; show _ ≤ _; omega
              clear hl
              have hbl : bs.length ≤ 100000000 := by have := HL.out; omega
              have HWr := Lib.hid (H0.out.putB 91 (by omega) (by omega) (by omega) HB0.out)
              have HR := Lib.hid (Row.new w 26 #[.int .i64 5, .string t, .slice A2 l.length c2, .slice A3 m.length c3] rfl)
              clear H0 HB0
              go_enter Tryd.func66, Tryd.ntmps66
              go_wp2_with fail
              refine HWr.out.mono ?_
              rintro e w1 ⟨rfl, h1, h2, h3⟩
              have HR1 := Keeps.row HR.out h3.out (by decide) (by decide)
              have d2 := HR1.cell 2 _ rfl
              have HK1 := Lib.hid (Keeps.trans HK0.out h3.out)
              clear HWr HR HK0 h3 HR1
              go_wp2_with fail
              go_loopg [41] l.length (fun g v41 wi => ∃ k : Nat, v41 = .int .i64 k ∧ Hid (k + g = l.length) ∧ Hid (Bld w0.heap.size b ((bs ++ [91]) ++ joinC (putL (l.take k))) wi) ∧ Hid (Below w0.heap.size w0 wi) ∧ Hid (Keeps w wi))
              case atStart => exact ⟨0, rfl, by show _ = _; omega, by show Bld _ _ _ _; simpa [putL, joinC] using h1.out, h2, HK1⟩
              case round =>
                obtain ⟨k, rfl, HKg, H1, HB, HK⟩ := hrel
                clear h1 h2 HK1
                by_cases hlt : k < l.length
                · have hbig := joinC_pre (putL l) (k + 1)
                  rw [show (putL l).take (k + 1) = putL (l.take (k + 1)) by rw [putL_map, putL_map, List.map_take], putL_take l k hlt] at hbig
                  have HT := Lib.hid (putL_take l k hlt)
                  obtain ⟨ad, X2, x2, X3, x3, rfl, hKa, q0, q1, q2, q3⟩ := jv_at G2.out k hlt
                  replace q0 := cell_under HB.out q0
                  replace q1 := cell_under HB.out q1
                  replace q2 := cell_under HB.out q2
                  replace q3 := cell_under HB.out q3
                  have k0 : (0 : Int) ≤ (k : Int) := by omega
                  have k1 : (k : Int) < (l.length : Int) := by omega
                  have k3 : decide (k < l.length) = true := by simpa using hlt
                  obtain ⟨g1, rfl⟩ : ∃ g1, gk = g1 + 1 := ⟨gk - 1, by have := HKg.out; omega⟩
                  have HKa := Lib.hid hKa
                  clear hKa
                  generalize l.getD k jz = xa at *
                  generalize hpre : bs ++ [91] ++ joinC (putL (l.take k)) = pre at *
                  have hpl : pre.length = bs.length + 1 + (joinC (putL (l.take k))).length := by rw [← hpre]; simp; omega
                  have hL := HL.out
                  have HRa := Lib.hid (Row.new wr 26 #[.int .i64 xa.kind, .string xa.text, .slice X2 xa.list.length x2, .slice X3 xa.mem.length x3] rfl)
                  have HBa : Hid (Below w0.heap.size w0 (wr.alloc (.cells #[.int .i64 xa.kind, .string xa.text, .slice X2 xa.list.length x2, .slice X3 xa.mem.length x3] 26))) := HB.out.alloc HB.out.size _
                  have HKb : Hid (Keeps w (wr.alloc (.cells #[.int .i64 xa.kind, .string xa.text, .slice X2 xa.list.length x2, .slice X3 xa.mem.length x3] 26))) := HK.out.trans (Keeps.alloc _ _)
                  have H1a : Hid (Bld w0.heap.size b pre (wr.alloc (.cells #[.int .i64 xa.kind, .string xa.text, .slice X2 xa.list.length x2, .slice X3 xa.mem.length x3] 26))) := H1.out.alloc _
                  clear H1 HB HK
                  by_cases hk0 : k = 0
                  · have k4 : decide (0 < k) = false := by simp; omega
                    rw [if_pos hk0] at hbig HT
                    simp only [List.length_append, List.length_cons, List.length_nil, List.nil_append] at hbig
                    clear hk0
                    have HWr := Lib.hid (HIH.out b _ xa _ w0 _ HKa.out H1a.out HBa.out (by (try simp); omega))
                    go_wp2_with fail
                    refine HWr.out.mono ?_
                    rintro e w10 ⟨rfl, h10, b10, c10⟩
                    have HK10 := Lib.hid (Keeps.trans HKb.out c10.out)
                    have HR10 := Lib.hid (Keeps.row HRa.out c10.out (by decide) (by decide))
                    clear HWr H1a HBa HKb HRa c10
                    go_wp2_with fail
                    go_roundg g1
                    case measure => omega
                    case rel => exact ⟨k + 1, by go_num, by have := HKg.out; show _ = _; omega, by have := h10.out; show Bld _ _ _ _; rw [HT.out, ← List.append_assoc, hpre]; simpa [List.append_assoc] using this, b10, HK10⟩
                  · have k4 : decide (0 < k) = true := by simp; omega
                    rw [if_neg hk0] at hbig HT
                    simp only [List.length_append, List.length_cons, List.length_nil, List.nil_append] at hbig
                    clear hk0
                    have HWr := Lib.hid (H1a.out.putB 44 (by omega) (by omega) (by (try simp); omega) HBa.out)
                    go_wp2_with fail
                    refine HWr.out.mono ?_
                    rintro e w10 ⟨rfl, h10, b10, c10⟩
                    have HK10 := Lib.hid (Keeps.trans HKb.out c10.out)
                    have HR10 := Lib.hid (Keeps.row HRa.out c10.out (by decide) (by decide))
                    clear HWr H1a HBa HKb HRa c10
                    have HWr := Lib.hid (HIH.out b _ xa _ w0 _ HKa.out h10.out b10.out (by (try simp); omega))
                    have hrr := HR10.out
                    have e11_0 := hrr.cell 0 _ rfl
                    have e11_1 := hrr.cell 1 _ rfl
                    have e11_2 := hrr.cell 2 _ rfl
                    have e11_3 := hrr.cell 3 _ rfl
                    clear hrr
                    go_wp2_with fail
                    refine HWr.out.mono ?_
                    rintro e w11 ⟨rfl, h11, b11, c11⟩
                    have HK11 := Lib.hid (Keeps.trans HK10.out c11.out)
                    have HR11 := Lib.hid (Keeps.row HR10.out c11.out (by decide) (by decide))
                    clear e11_0 e11_1 e11_2 e11_3
                    clear HWr h10 b10 HK10 HR10 c11
                    go_wp2_with fail
                    go_roundg g1
                    case measure => omega
                    case rel => exact ⟨k + 1, by go_num, by have := HKg.out; show _ = _; omega, by have := h11.out; show Bld _ _ _ _; rw [HT.out, ← List.append_assoc, hpre]; simpa [List.append_assoc] using this, b11, HK11⟩
                · obtain rfl : k = l.length := by have := HKg.out; omega
                  rw [List.take_length] at H1
                  have k3 : decide (l.length < l.length) = false := by simp
                  have hL := HL.out
                  have HWr := Lib.hid (H1.out.putB 93 (by omega) (by omega) (by (try simp); omega) HB.out)
                  clear hL hlt
                  go_wp2_with fail
                  refine HWr.out.mono ?_
                  rintro e w9 ⟨rfl, h9, b9, c9⟩
                  go_wp2_with fail
                  refine bodyPost_end (results_none rfl _ _ _) rfl ?_
                  exact ⟨rfl, by have := h9.out; show Bld _ _ _ _; simpa [List.append_assoc] using this, b9, Keeps.trans HK.out c9.out⟩
            · by_cases k6 : k = 6
              · subst k6
                have HV : Hid (putV ⟨6, t, l, m⟩ = 123 :: (joinC (putM m) ++ [125])) := by show _ = _; rw [putV]; rfl
                rw [HV.out] at hl ⊢
                have HL : Hid (bs.length + (joinC (putM m)).length + 2 ≤ 100000000) := by simp at hl; show _ ≤ _; omega
                clear hl
                have hbl : bs.length ≤ 100000000 := by have := HL.out; omega
                have HWr := Lib.hid (H0.out.putB 123 (by omega) (by omega) (by omega) HB0.out)
                have HR := Lib.hid (Row.new w 26 #[.int .i64 6, .string t, .slice A2 l.length c2, .slice A3 m.length c3] rfl)
                clear H0 HB0
                go_enter Tryd.func66, Tryd.ntmps66
                go_wp2_with fail
                refine HWr.out.mono ?_
                rintro e w1 ⟨rfl, h1, h2, h3⟩
                have HR1 := Keeps.row HR.out h3.out (by decide) (by decide)
                have d3 := HR1.cell 3 _ rfl
                have HK1 := Lib.hid (Keeps.trans HK0.out h3.out)
                clear HWr HR HK0 h3 HR1
                go_wp2_with fail
                go_loopg [63] m.length (fun g v63 wi => ∃ k : Nat, v63 = .int .i64 k ∧ Hid (k + g = m.length) ∧ Hid (Bld w0.heap.size b ((bs ++ [123]) ++ joinC (putM (m.take k))) wi) ∧ Hid (Below w0.heap.size w0 wi) ∧ Hid (Keeps w wi))
                case atStart => exact ⟨0, rfl, by show _ = _; omega, by show Bld _ _ _ _; simpa [putM, joinC] using h1.out, h2, HK1⟩
                case round =>
                  obtain ⟨k, rfl, HKg, H1, HB, HK⟩ := hrel
                  clear h1 h2 HK1
                  by_cases hlt : k < m.length
                  · have hbig := joinC_pre (putM m) (k + 1)
                    rw [show (putM m).take (k + 1) = putM (m.take (k + 1)) by rw [putM_map, putM_map, List.map_take], putM_take m k hlt] at hbig
                    have HT := Lib.hid (putM_take m k hlt)
                    obtain ⟨ad, X2, x2, X3, x3, rfl, hKa, qn, q0, q1, q2, q3⟩ := jm_at G3.out k hlt
                    replace qn := cell_under HB.out qn
                    replace q0 := cell_under HB.out q0
                    replace q1 := cell_under HB.out q1
                    replace q2 := cell_under HB.out q2
                    replace q3 := cell_under HB.out q3
                    have k0 : (0 : Int) ≤ (k : Int) := by omega
                    have k1 : (k : Int) < (m.length : Int) := by omega
                    have k3 : decide (k < m.length) = true := by simpa using hlt
                    obtain ⟨g1, rfl⟩ : ∃ g1, gk = g1 + 1 := ⟨gk - 1, by have := HKg.out; omega⟩
                    have HKa := Lib.hid hKa
                    clear hKa
                    generalize m.getD k (⟨#[]⟩, jz) = ea at *
                    obtain ⟨nm, xa⟩ := ea
                    dsimp only at qn q0 q1 q2 q3 HKa HT hbig
                    have hq := quo_len nm
                    generalize hpre : bs ++ [123] ++ joinC (putM (m.take k)) = pre at *
                    have hpl : pre.length = bs.length + 1 + (joinC (putM (m.take k))).length := by rw [← hpre]; simp; omega
                    have hL := HL.out
                    have HRa := Lib.hid (Row.new wr 50 #[.string nm, .int .i64 xa.kind, .string xa.text, .slice X2 xa.list.length x2, .slice X3 xa.mem.length x3] rfl)
                    have HBa : Hid (Below w0.heap.size w0 (wr.alloc (.cells #[.string nm, .int .i64 xa.kind, .string xa.text, .slice X2 xa.list.length x2, .slice X3 xa.mem.length x3] 50))) := HB.out.alloc HB.out.size _
                    have HKb : Hid (Keeps w (wr.alloc (.cells #[.string nm, .int .i64 xa.kind, .string xa.text, .slice X2 xa.list.length x2, .slice X3 xa.mem.length x3] 50))) := HK.out.trans (Keeps.alloc _ _)
                    have H1a : Hid (Bld w0.heap.size b pre (wr.alloc (.cells #[.string nm, .int .i64 xa.kind, .string xa.text, .slice X2 xa.list.length x2, .slice X3 xa.mem.length x3] 50))) := H1.out.alloc _
                    clear H1 HB HK
                    by_cases hk0 : k = 0
                    · have k4 : decide (0 < k) = false := by simp; omega
                      rw [if_pos hk0] at hbig HT
                      simp only [List.length_append, List.length_cons, List.length_nil, List.nil_append] at hbig
                      clear hk0
                      have HWr := Lib.hid (quote_any b _ nm w0 _ H1a.out (by (try simp); omega) (by omega) HBa.out)
                      go_wp2_with fail
                      refine HWr.out.mono ?_
                      rintro e w10 ⟨rfl, h10, b10, c10⟩
                      have HK10 := Lib.hid (Keeps.trans HKb.out c10.out)
                      have HR10 := Lib.hid (Keeps.row HRa.out c10.out (by decide) (by decide))
                      clear HWr H1a HBa HKb HRa c10
                      have HWr := Lib.hid (h10.out.putB 58 (by omega) (by omega) (by (try simp); omega) b10.out)
                      have hrr := HR10.out
                      have e11_0 := hrr.cell 0 _ rfl
                      have e11_1 := hrr.cell 1 _ rfl
                      have e11_2 := hrr.cell 2 _ rfl
                      have e11_3 := hrr.cell 3 _ rfl
                      have e11_4 := hrr.cell 4 _ rfl
                      clear hrr
                      go_wp2_with fail
                      refine HWr.out.mono ?_
                      rintro e w11 ⟨rfl, h11, b11, c11⟩
                      have HK11 := Lib.hid (Keeps.trans HK10.out c11.out)
                      have HR11 := Lib.hid (Keeps.row HR10.out c11.out (by decide) (by decide))
                      clear e11_0 e11_1 e11_2 e11_3 e11_4
                      clear HWr h10 b10 HK10 HR10 c11
                      have HWr := Lib.hid (HIH.out b _ xa _ w0 _ HKa.out h11.out b11.out (by (try simp); omega))
                      have hrr := HR11.out
                      have e12_0 := hrr.cell 0 _ rfl
                      have e12_1 := hrr.cell 1 _ rfl
                      have e12_2 := hrr.cell 2 _ rfl
                      have e12_3 := hrr.cell 3 _ rfl
                      have e12_4 := hrr.cell 4 _ rfl
                      clear hrr
                      go_wp2_with fail
                      refine HWr.out.mono ?_
                      rintro e w12 ⟨rfl, h12, b12, c12⟩
                      have HK12 := Lib.hid (Keeps.trans HK11.out c12.out)
                      have HR12 := Lib.hid (Keeps.row HR11.out c12.out (by decide) (by decide))
                      clear e12_0 e12_1 e12_2 e12_3 e12_4
                      clear HWr h11 b11 HK11 HR11 c12
                      go_wp2_with fail
                      go_roundg g1
                      case measure => omega
                      case rel => exact ⟨k + 1, by go_num, by have := HKg.out; show _ = _; omega, by have := h12.out; show Bld _ _ _ _; rw [HT.out, ← List.append_assoc, hpre]; simpa [List.append_assoc] using this, b12, HK12⟩
                    · have k4 : decide (0 < k) = true := by simp; omega
                      rw [if_neg hk0] at hbig HT
                      simp only [List.length_append, List.length_cons, List.length_nil, List.nil_append] at hbig
                      clear hk0
                      have HWr := Lib.hid (H1a.out.putB 44 (by omega) (by omega) (by (try simp); omega) HBa.out)
                      go_wp2_with fail
                      refine HWr.out.mono ?_
                      rintro e w10 ⟨rfl, h10, b10, c10⟩
                      have HK10 := Lib.hid (Keeps.trans HKb.out c10.out)
                      have HR10 := Lib.hid (Keeps.row HRa.out c10.out (by decide) (by decide))
                      clear HWr H1a HBa HKb HRa c10
                      have HWr := Lib.hid (quote_any b _ nm w0 _ h10.out (by (try simp); omega) (by omega) b10.out)
                      have hrr := HR10.out
                      have e11_0 := hrr.cell 0 _ rfl
                      have e11_1 := hrr.cell 1 _ rfl
                      have e11_2 := hrr.cell 2 _ rfl
                      have e11_3 := hrr.cell 3 _ rfl
                      have e11_4 := hrr.cell 4 _ rfl
                      clear hrr
                      go_wp2_with fail
                      refine HWr.out.mono ?_
                      rintro e w11 ⟨rfl, h11, b11, c11⟩
                      have HK11 := Lib.hid (Keeps.trans HK10.out c11.out)
                      have HR11 := Lib.hid (Keeps.row HR10.out c11.out (by decide) (by decide))
                      clear e11_0 e11_1 e11_2 e11_3 e11_4
                      clear HWr h10 b10 HK10 HR10 c11
                      have HWr := Lib.hid (h11.out.putB 58 (by omega) (by omega) (by (try simp); omega) b11.out)
                      have hrr := HR11.out
                      have e12_0 := hrr.cell 0 _ rfl
                      have e12_1 := hrr.cell 1 _ rfl
                      have e12_2 := hrr.cell 2 _ rfl
                      have e12_3 := hrr.cell 3 _ rfl
                      have e12_4 := hrr.cell 4 _ rfl
                      clear hrr
                      go_wp2_with fail
                      refine HWr.out.mono ?_
                      rintro e w12 ⟨rfl, h12, b12, c12⟩
                      have HK12 := Lib.hid (Keeps.trans HK11.out c12.out)
                      have HR12 := Lib.hid (Keeps.row HR11.out c12.out (by decide) (by decide))
                      clear e12_0 e12_1 e12_2 e12_3 e12_4
                      clear HWr h11 b11 HK11 HR11 c12
                      have HWr := Lib.hid (HIH.out b _ xa _ w0 _ HKa.out h12.out b12.out (by (try simp); omega))
                      have hrr := HR12.out
                      have e13_0 := hrr.cell 0 _ rfl
                      have e13_1 := hrr.cell 1 _ rfl
                      have e13_2 := hrr.cell 2 _ rfl
                      have e13_3 := hrr.cell 3 _ rfl
                      have e13_4 := hrr.cell 4 _ rfl
                      clear hrr
                      go_wp2_with fail
                      refine HWr.out.mono ?_
                      rintro e w13 ⟨rfl, h13, b13, c13⟩
                      have HK13 := Lib.hid (Keeps.trans HK12.out c13.out)
                      have HR13 := Lib.hid (Keeps.row HR12.out c13.out (by decide) (by decide))
                      clear e13_0 e13_1 e13_2 e13_3 e13_4
                      clear HWr h12 b12 HK12 HR12 c13
                      go_wp2_with fail
                      go_roundg g1
                      case measure => omega
                      case rel => exact ⟨k + 1, by go_num, by have := HKg.out; show _ = _; omega, by have := h13.out; show Bld _ _ _ _; rw [HT.out, ← List.append_assoc, hpre]; simpa [List.append_assoc] using this, b13, HK13⟩
                  · obtain rfl : k = m.length := by have := HKg.out; omega
                    rw [List.take_length] at H1
                    have k3 : decide (m.length < m.length) = false := by simp
                    have hL := HL.out
                    have HWr := Lib.hid (H1.out.putB 125 (by omega) (by omega) (by (try simp); omega) HB.out)
                    clear hL hlt
                    go_wp2_with fail
                    refine HWr.out.mono ?_
                    rintro e w9 ⟨rfl, h9, b9, c9⟩
                    go_wp2_with fail
                    refine bodyPost_end (results_none rfl _ _ _) rfl ?_
                    exact ⟨rfl, by have := h9.out; show Bld _ _ _ _; simpa [List.append_assoc] using this, b9, Keeps.trans HK.out c9.out⟩
              · have HV : Hid (putV ⟨k, t, l, m⟩ = []) := by show _ = _; rw [putV, if_neg k0, if_neg k1, if_neg k2, if_neg k3, if_neg k4, if_neg k5, if_neg k6]
                have e0 : (k == 0) = false := by rw [beq_eq_false_iff_ne]; exact k0
                have e1 : (k == 1) = false := by rw [beq_eq_false_iff_ne]; exact k1
                have e2 : (k == 2) = false := by rw [beq_eq_false_iff_ne]; exact k2
                have e3 : (k == 3) = false := by rw [beq_eq_false_iff_ne]; exact k3
                have e4 : (k == 4) = false := by rw [beq_eq_false_iff_ne]; exact k4
                have e5 : (k == 5) = false := by rw [beq_eq_false_iff_ne]; exact k5
                have e6 : (k == 6) = false := by rw [beq_eq_false_iff_ne]; exact k6
                clear k0 k1 k2 k3 k4 k5 k6 hl
                rw [HV.out, List.append_nil]
                go_enter Tryd.func66, Tryd.ntmps66
                go_wp2_with fail
                refine bodyPost_end (results_none rfl _ _ _) rfl ?_
                exact ⟨rfl, H0, HB0, HK0⟩
theorem put_all : ∀ n, PutAll n
  | 0 => fun b bs x cs w0 w hk _ _ _ => (jd_zero hk).elim
  | n + 1 => put_step n (put_all n)
end
end Go.Proofs.YtpdpgppaoipnlaaDoor

