/- What the claim uses of the text I5. -/
import Derived.Test.YtngokkebjadoiaaGreatDoorVS5
import Derived.Test.YtngokkebjadoiaaGreatDoorVI4
import Derived.Lib.Join
set_option linter.unusedVariables false
set_option linter.unusedSimpArgs false
namespace Go.Proofs.YtngokkebjadoiaaGreatDoor
open Go.RowKit Go.PlainAid
open Go.Proofs.YtngokkebjadoiaaGreatDoorW.PrintWords hiding bt
open Go.Proofs.YtngokkebjadoiaaGreatDoorW.PrintMore
open Go.Proofs.YtngokkebjadoiaaGreatDoor.PAll

/-- Numbers as Go's ints. -/
def zsOf (ns : List Nat) : List Int := ns.map fun (n : Nat) => (n : Int)
theorem zsOf_length (ns : List Nat) : (zsOf ns).length = ns.length := by simp [zsOf]
theorem infoS : (Tryz.prog.info? 9).map (fun i => (i.zero, i.size, i.bytes)) = some (some (.string ⟨#[]⟩), 1, 16) := by kernel_rfl
theorem infoI : (Tryz.prog.info? 3).map (fun i => (i.zero, i.size, i.bytes)) = some (some (.int .i64 0), 1, 8) := by kernel_rfl
theorem C_int_get {k : IntKind} {w : World} {A : Option Addr} {n : Nat} {xs : List Int} (h : (Kd.int k).C w A n xs) (i : Nat) (hi : i < n) : ∃ ad, A = some ad ∧ w.cell? (ad.add i) = some (.int k (xs.getD i 0)) := by
  obtain ⟨ad, c, e, hc, hk, hcell⟩ := Kd.C_get h 0 i (by omega) (by omega)
  refine ⟨ad, e, ?_⟩
  have hk' : c = [.int k (xs.getD (i : Int).toNat 0)] := hk
  have := hcell 0 (.int k (xs.getD (i : Int).toNat 0)) (by rw [hk']; rfl)
  have e1 : (Kd.int k).sz = 1 := rfl
  simpa [e1] using this
theorem C_str_get {w : World} {A : Option Addr} {n : Nat} {xs : List ByteArray} (h : Kd.string.C w A n xs) (i : Nat) (hi : i < n) : ∃ ad, A = some ad ∧ w.cell? (ad.add i) = some (.string (xs.getD i ByteArray.empty)) := by
  obtain ⟨ad, c, e, hc, hk, hcell⟩ := Kd.C_get h ByteArray.empty i (by omega) (by omega)
  refine ⟨ad, e, ?_⟩
  have hk' : c = [.string (xs.getD (i : Int).toNat ByteArray.empty)] := hk
  have := hcell 0 (.string (xs.getD (i : Int).toNat ByteArray.empty)) (by rw [hk']; rfl)
  have e1 : Kd.string.sz = 1 := rfl
  simpa [e1] using this

/-- A joined text, as strings.Join makes it. -/
theorem joinI_cons (sep x : List Int) : ∀ r : List (List Int), joinI sep (x :: r) = x ++ (r.map (sep ++ ·)).flatten
  | [] => by simp [joinI]
  | y :: r => by
    rw [joinI, joinI_cons sep y r]
    simp
theorem bytes_nums (xs : List Int) : (strOfNums xs).data.toList = xs.map fun n => UInt8.ofNat n.toNat := strOfNums_data xs
theorem join_text (ts : List (List Int)) (sep : List Int) : (⟨(Lib.join ((ts.map strOfNums).map (·.data.toList)) (strOfNums sep).data.toList).toArray⟩ : ByteArray) = strOfNums (joinI sep ts) := by
  apply ByteArray.ext
  apply Array.ext'
  rw [bytes_nums]
  cases ts with
  | nil => rfl
  | cons x r =>
    rw [joinI_cons]
    simp only [List.map_cons, Lib.join_cons, Lib.joinTail, bytes_nums, List.map_map, List.map_append, List.map_flatten]
    congr 1
    congr 1
    apply List.map_congr_left
    intro y _
    simp [bytes_nums]
theorem strings_Join_any {base : Nat} {ok : Nat → Prop} {v : Value} (ts : List (List Int)) (sep : List Int) (w : World) (hR : Kd.R Kd.string 9 w base ok v (ts.map strOfNums)) (hn : ts.length ≤ 1000) (hl : (joinI sep ts).length ≤ 1000000) :
    Calls Tryz.prog 70 #[v, .string (strOfNums sep)] w fun e w' => e = .returned (.string (strOfNums (joinI sep ts))) ∧ Hid (Below w.heap.size w w') := by
  obtain ⟨A, c, rfl, hc, hC⟩ := Kd.R_reads hR
  rw [List.length_map] at hc hC ⊢
  cases ts with
  | nil =>
    refine (strings_Join_none A c _ w).mono ?_
    rintro e w' ⟨rfl, rfl⟩
    exact ⟨rfl, Below.refl _ _⟩
  | cons x r =>
    obtain ⟨inner, ho⟩ := Kd.R_own hR
    obtain ⟨g, cap, hA⟩ : ∃ g cap, (Value.slice A ((x :: r).map strOfNums).length c) = .slice (some ⟨g, 0, none⟩) ((x :: r).map strOfNums).length cap := by
      rcases ho.2 with ⟨_, h0⟩ | ⟨g, cap, cur, hv, _⟩
      · simp at h0
      · exact ⟨g, cap, hv⟩
    injection hA with hA _ _
    subst hA
    have hcells : ∀ (j : Nat) y, ((x :: r).map strOfNums)[j]? = some y → w.cell? ⟨g, 0 + j, none⟩ = some (.string y) := by
      intro j y hj
      have hj' := (List.getElem?_eq_some_iff.1 hj).1
      rw [List.length_map] at hj'
      obtain ⟨ad, had, hcell⟩ := C_str_get hC j hj'
      injection had with had
      subst had
      rw [Lib.add_plain] at hcell
      rw [hcell, List.getD_eq_getElem?_getD, hj]
      rfl
    have hg : g < w.heap.size := cell_lt (hcells 0 (strOfNums x) rfl)
    have hb := strings_Join g 0 c ((x :: r).map strOfNums) (strOfNums sep) w hcells hg (by rw [List.length_map]; omega) (by rw [List.length_map]; exact hc) (by
      have h1 := congrArg ByteArray.size (join_text (x :: r) sep)
      rw [strOfNums_size] at h1
      have h2 : (Lib.join (((x :: r).map strOfNums).map (·.data.toList)) (strOfNums sep).data.toList).length = (joinI sep (x :: r)).length := by
        rw [← h1]; simp [ByteArray.size]
      omega)
    rw [join_text, List.length_map] at hb
    exact hb

set_option maxHeartbeats 4000000 in
set_option maxRecDepth 100000 in
theorem words_any (A : Option Addr) (c : Nat) (ns : List Nat) (base : Nat) (st : List Int) (F : Nat → List Int) (w : World) (hc : Caps w) (hC : (Kd.int .i64).C w A ns.length (zsOf ns)) (hn : ns.length ≤ 16) (hst : st.length = 1)
    (hF : ∀ n ∈ ns, (F n).length ≤ 20) (hcall : ∀ n ∈ ns, ∀ W, Caps W → Calls Tryz.prog 69 #[.int .i64 n, .int .i64 base] W fun e w' => e = .returned (.string (strOfNums (F n))) ∧ Hid (Below W.heap.size W w')) :
    Calls Tryz.prog 48 #[.slice A ns.length c, .int .i64 base, .string (strOfNums st)] w fun e w' => e = .returned (.string (strOfNums (joinI st (ns.map F)))) ∧ Hid (Below w.heap.size w w') := by
  have info := infoS
  have HC := Lib.hid hC
  have HCp := Lib.hid hc
  have HF := Lib.hid hF
  have HCL := Lib.hid hcall
  have HST := Lib.hid hst
  clear hC hc hF hcall hst
  obtain ⟨sv, HSV⟩ : ∃ sv, Hid (strOfNums st = sv) := ⟨_, rfl⟩
  rw [HSV.out]
  go_enter Tryz.func48, Tryz.ntmps48
  go_wp2_with fail
  go_loopg [7, 12] ns.length (fun k v7 v12 w' => ∃ i : Nat, v12 = .int .i64 i ∧ Hid (i + k = ns.length) ∧ Hid (Kd.R Kd.string 9 w' w.heap.size (fun k => w.heap.size ≤ k) v7 ((ns.take i).map fun n => strOfNums (F n))) ∧ Hid (Below w.heap.size w w'))
  case atStart => exact ⟨0, rfl, by show _ = _; omega, Kd.R_nil _ _ _ _ _, Below.refl _ _⟩
  case round =>
    obtain ⟨i, rfl, HI, HR, HB⟩ := hrel
    by_cases hlt : i < ns.length
    · cases gk with
      | zero => have := HI.out; omega
      | succ k1 =>
        have HI2 : Hid (i + 1 + k1 = ns.length) := by have := HI.out; show _ = _; omega
        obtain ⟨ad, rfl, c0⟩ := C_int_get (Kd.C_below HC.out HB.out) i hlt
        have hx : (zsOf ns).getD i 0 = ((ns[i] : Nat) : Int) := by
          rw [zsOf, List.getD_eq_getElem?_getD, List.getElem?_map, List.getElem?_eq_getElem hlt]
          rfl
        rw [hx] at c0
        have HM : Hid (ns[i] ∈ ns) := List.getElem_mem hlt
        have HTk : Hid ((ns.take (i + 1)).map (fun n => strOfNums (F n)) = (ns.take i).map (fun n => strOfNums (F n)) ++ [strOfNums (F ns[i])]) := by
          show _ = _
          rw [List.take_succ_eq_append_getElem hlt, List.map_append]
          rfl
        obtain ⟨x, hxx⟩ : ∃ x, ns[i] = x := ⟨_, rfl⟩
        rw [hxx] at c0 HM HTk
        clear hx hxx
        have HW := Lib.hid (HCL.out x HM.out wr (HCp.out.below HB.out))
        obtain ⟨t, Ht⟩ : ∃ t, Hid (strOfNums (F x) = t) := ⟨_, rfl⟩
        rw [Ht.out] at HW HTk
        obtain ⟨acc, Hacc⟩ : ∃ acc, Hid ((ns.take i).map (fun n => strOfNums (F n)) = acc) := ⟨_, rfl⟩
        rw [Hacc.out] at HR HTk
        have HAL : Hid (acc.length + 1 ≤ 17) := by
          have := HI.out
          show _ ≤ _
          rw [← Hacc.out, List.length_map, List.length_take]
          omega
        go_wp2_with fail
        refine HW.out.mono ?_
        rintro e w3 ⟨rfl, hb3⟩
        have HB3 := Lib.hid (below_step HB.out hb3.out)
        have HR3 := Lib.hid (Kd.R_below HR.out hb3.out)
        clear hb3 HB HR HW c0
        go_wp2_with (at_builtin; go_must (refine Kd.R_append Kd.string (w0 := w) w.heap.size rfl (.tmp 16) (.tmp 20) 37 9 (.string ⟨#[]⟩) 16 rfl Tryz.underlying37 info rfl (by decide) (by omega) _ acc t [.string t] (fun k => w.heap.size ≤ k) (fun _ => False) rfl rfl ?aP (fun _ hk => hk.elim) ?aF ?aO ?aB ?aS ?aL ?_); (case aP => exact rfl); (case aB => exact HB3.out); (case aF => exact (fun k hk => Nat.le_trans HB3.out.size hk)); (case aO => exact HR3.out); (case aS => exact HB3.out.size); (case aL => have := HAL.out; omega); intro v7 w7 ho hb7 hg7 hat; have HR7 := Lib.hid ho; have HB7 := Lib.hid hb7; clear ho hb7 hg7 hat HR3 HB3)
        go_roundg k1
        case measure => omega
        case rel => exact ⟨i + 1, by go_num, HI2, by rw [HTk.out]; exact HR7.out, HB7⟩
    · have HI3 : i = ns.length := by have := HI.out; omega
      subst HI3
      rw [List.take_length] at HR
      have HJ : Hid (Calls Tryz.prog 70 #[u7, .string sv] wr fun e w' => e = .returned (.string (strOfNums (joinI st (ns.map F)))) ∧ Hid (Below wr.heap.size wr w')) := by
        show Calls _ _ _ _ _
        rw [← HSV.out]
        refine strings_Join_any (ns.map F) st wr (by rw [List.map_map]; exact HR.out) (by rw [List.length_map]; omega) ?_
        have := joinI_len st 20 (ns.map F) (fun t ht => by
          rw [List.mem_map] at ht
          obtain ⟨n, hn, rfl⟩ := ht
          exact HF.out n hn)
        rw [List.length_map] at this
        have h1 := HST.out
        have h2 : ns.length * (20 + st.length) ≤ 16 * 21 := Nat.mul_le_mul hn (by omega)
        omega
      clear HI
      go_wp2_with fail
      refine HJ.out.mono ?_
      rintro e w6 ⟨rfl, hb6⟩
      go_wp2
      go_ret
      exact ⟨rfl, below_step HB.out hb6.out⟩
end Go.Proofs.YtngokkebjadoiaaGreatDoor

