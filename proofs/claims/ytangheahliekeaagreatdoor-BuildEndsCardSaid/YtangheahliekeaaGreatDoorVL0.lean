/- What the claim uses of the text L0. -/
import Derived.Test.YtangheahliekeaaGreatDoorVG1
import Derived.Deep.RegionHeld3
import Derived.Laws.AppendOwn
import Derived.Laws.AppendOwnNone
import Derived.Laws.ResultCell
import Derived.Deep.CutBlock
set_option linter.unusedVariables false
set_option linter.unusedSimpArgs false
namespace Go.Proofs.YtangheahliekeaaGreatDoor
open Go.RowKit Go.PlainAid
open Go.Proofs.YtangheahliekeaaGreatDoorW.PrintWords hiding bt
open Go.Proofs.YtangheahliekeaaGreatDoorW.PrintMore


/-- A JSON value. -/
structure JV where
  kind : Int
  text : ByteArray
  list : List JV
  mem : List (ByteArray × JV)
def jz : JV := ⟨0, ⟨#[]⟩, [], []⟩
def JF (d : Kd JV) : Kd JV := Kd.iso (Kd.pair (Kd.int .i64) (Kd.pair Kd.string (Kd.pair (Kd.slice 34 d) (Kd.slice 88 (Kd.pair Kd.string d))))) (fun x : JV => (x.kind, x.text, x.list, x.mem))
theorem jmono : Kd.Mono JF := Kd.mono_iso _ (Kd.mono_pair (Kd.mono_const _) (Kd.mono_pair (Kd.mono_const _) (Kd.mono_pair (Kd.mono_slice 34 Kd.mono_id) (Kd.mono_slice 88 (Kd.mono_pair (Kd.mono_const _) Kd.mono_id)))))
def jE : List Nat := [34, 88]
theorem jsub : Kd.Sub JF jE := Kd.sub_iso _ (Kd.sub_pair (Kd.sub_const _ (by decide)) (Kd.sub_pair (Kd.sub_const _ (by decide)) (Kd.sub_pair (Kd.sub_slice 34 (by decide) Kd.sub_id) (Kd.sub_slice 88 (by decide) (Kd.sub_pair (Kd.sub_const _ (by decide)) Kd.sub_id)))))
theorem jsz : ∀ n, (Kd.upto JF 4 jE n).sz = 4 := Kd.upto_sz (fun _ => rfl)
/-- A value nested at most n deep; a member; a value of whatever depth. -/
def jd (n : Nat) : Kd JV := Kd.upto JF 4 jE n
def jm (n : Nat) : Kd (ByteArray × JV) := Kd.pair Kd.string (jd n)
/-- A value as a call's argument, a slot, a result. -/
def jcells (x : JV) (A2 : Option Addr) (c2 : Nat) (A3 : Option Addr) (c3 : Nat) : List Value := [.int .i64 x.kind, .string x.text, .slice A2 x.list.length c2, .slice A3 x.mem.length c3]
theorem jd_zero {w : World} {x : JV} {cs : List Value} (h : (jd 0).K w x cs) : False := h
theorem jd_open {n : Nat} {w : World} {x : JV} {cs : List Value} (h : (jd (n + 1)).K w x cs) :
    ∃ A2 c2 A3 c3, cs = jcells x A2 c2 A3 c3 ∧ x.list.length ≤ c2 ∧ (jd n).C w A2 x.list.length x.list ∧ x.mem.length ≤ c3 ∧ (jm n).C w A3 x.mem.length x.mem := by
  obtain ⟨_, _, rfl, rfl, _, _, rfl, rfl, _, _, rfl, ⟨A2, c2, rfl, l2, g2⟩, ⟨A3, c3, rfl, l3, g3⟩⟩ := h
  exact ⟨A2, c2, A3, c3, rfl, l2, g2, l3, g3⟩
theorem jd_mk (n : Nat) (w : World) (x : JV) {A2 : Option Addr} {c2 : Nat} {A3 : Option Addr} {c3 : Nat} (l2 : x.list.length ≤ c2) (g2 : (jd n).C w A2 x.list.length x.list) (l3 : x.mem.length ≤ c3) (g3 : (jm n).C w A3 x.mem.length x.mem) :
    (jd (n + 1)).K w x (jcells x A2 c2 A3 c3) :=
  ⟨[_], [_, _, _], rfl, rfl, [_], [_, _], rfl, rfl, [_], [_], rfl, ⟨A2, c2, rfl, l2, g2⟩, ⟨A3, c3, rfl, l3, g3⟩⟩
theorem jd_cells {n : Nat} {w : World} {x : JV} {cs : List Value} (h : (jd n).K w x cs) : ∃ m, n = m + 1 := by
  cases n with
  | zero => exact (jd_zero h).elim
  | succ m => exact ⟨m, rfl⟩
theorem jd_le {n m : Nat} (hnm : n ≤ m) {w : World} {x : JV} {cs : List Value} (h : (jd n).K w x cs) : (jd m).K w x cs := Kd.upto_K_le jmono jsz hnm h
/-- An element of a row of values. -/
theorem jv_at {n : Nat} {w : World} {A : Option Addr} {k : Nat} {xs : List JV} (h : (jd n).C w A k xs) (i : Nat) (h1 : i < k) :
    ∃ ad A2 c2 A3 c3, A = some ad ∧ (jd n).K w (xs.getD i jz) (jcells (xs.getD i jz) A2 c2 A3 c3) ∧
      w.cell? (ad.add (i * 4)) = some (.int .i64 (xs.getD i jz).kind) ∧ w.cell? ⟨(ad.add (i * 4)).block, (ad.add (i * 4)).off + 1, none⟩ = some (.string (xs.getD i jz).text) ∧
      w.cell? ⟨(ad.add (i * 4)).block, (ad.add (i * 4)).off + 2, none⟩ = some (.slice A2 (xs.getD i jz).list.length c2) ∧ w.cell? ⟨(ad.add (i * 4)).block, (ad.add (i * 4)).off + 3, none⟩ = some (.slice A3 (xs.getD i jz).mem.length c3) := by
  obtain ⟨ad, c, e, _, hK, hc0⟩ := Kd.C_get h jz (i : Int) (by omega) (by omega)
  have hs : (jd n).sz = 4 := jsz n
  rw [hs, Int.toNat_natCast] at hc0
  rw [Int.toNat_natCast] at hK
  obtain ⟨m, rfl⟩ := jd_cells hK
  obtain ⟨A2, c2, A3, c3, rfl, l2, g2, l3, g3⟩ := jd_open hK
  refine ⟨ad, A2, c2, A3, c3, e, hK, ?_, ?_, ?_, ?_⟩
  · have := hc0 0 _ rfl; rwa [Nat.add_zero] at this
  · rw [← add_field _ _ 1 (by omega)]; exact hc0 1 _ rfl
  · rw [← add_field _ _ 2 (by omega)]; exact hc0 2 _ rfl
  · rw [← add_field _ _ 3 (by omega)]; exact hc0 3 _ rfl
/-- A member. -/
theorem jm_at {n : Nat} {w : World} {A : Option Addr} {k : Nat} {xs : List (ByteArray × JV)} (h : (jm n).C w A k xs) (i : Nat) (h1 : i < k) :
    ∃ ad A2 c2 A3 c3, A = some ad ∧ (jd n).K w (xs.getD i (⟨#[]⟩, jz)).2 (jcells (xs.getD i (⟨#[]⟩, jz)).2 A2 c2 A3 c3) ∧
      w.cell? (ad.add (i * 5)) = some (.string (xs.getD i (⟨#[]⟩, jz)).1) ∧
      w.cell? ⟨(ad.add (i * 5)).block, (ad.add (i * 5)).off + 1, none⟩ = some (.int .i64 (xs.getD i (⟨#[]⟩, jz)).2.kind) ∧ w.cell? ⟨(ad.add (i * 5)).block, (ad.add (i * 5)).off + 2, none⟩ = some (.string (xs.getD i (⟨#[]⟩, jz)).2.text) ∧
      w.cell? ⟨(ad.add (i * 5)).block, (ad.add (i * 5)).off + 3, none⟩ = some (.slice A2 (xs.getD i (⟨#[]⟩, jz)).2.list.length c2) ∧ w.cell? ⟨(ad.add (i * 5)).block, (ad.add (i * 5)).off + 4, none⟩ = some (.slice A3 (xs.getD i (⟨#[]⟩, jz)).2.mem.length c3) := by
  obtain ⟨ad, c, e, _, hK, hc0⟩ := Kd.C_get h (⟨#[]⟩, jz) (i : Int) (by omega) (by omega)
  have hs : (jm n).sz = 5 := by show 1 + (jd n).sz = 5; rw [show (jd n).sz = 4 from jsz n]
  rw [hs, Int.toNat_natCast] at hc0
  rw [Int.toNat_natCast] at hK
  obtain ⟨_, c1, rfl, rfl, hK⟩ := hK
  obtain ⟨m, rfl⟩ := jd_cells hK
  obtain ⟨A2, c2, A3, c3, rfl, l2, g2, l3, g3⟩ := jd_open hK
  refine ⟨ad, A2, c2, A3, c3, e, hK, ?_, ?_, ?_, ?_, ?_⟩
  · have := hc0 0 _ rfl; rwa [Nat.add_zero] at this
  · rw [← add_field _ _ 1 (by omega)]; exact hc0 1 _ rfl
  · rw [← add_field _ _ 2 (by omega)]; exact hc0 2 _ rfl
  · rw [← add_field _ _ 3 (by omega)]; exact hc0 3 _ rfl
  · rw [← add_field _ _ 4 (by omega)]; exact hc0 4 _ rfl
instance byteArrayEq : DecidableEq ByteArray := fun a b => decidable_of_iff (ints a = ints b) ⟨ints_inj, fun h => h ▸ rfl⟩
/-- A block that holds one value. -/
def VRow (b : Nat) (cs : Array Value) (w : World) : Prop := w.heap[b]? = some (.cells cs 34 (0, 0))
theorem info_val : (Tryz.prog.info? 34).map (·.size) = some 4 := by kernel_rfl
theorem results_val {fn : Func} {p : Tmp} (h : fn.results = #[.cell p 34]) (tmps : Array Value) (w : World) (g : Nat) (cs : Array Value) (hp : tmps.getD p undef = .pointer (some ⟨g, 0, none⟩)) (hg : VRow g cs w) (hs : cs.size = 4) :
    (results fn tmps).run Tryz.prog w = .ok (.agg cs) w :=
  results_cell_row h tmps w g 34 cs (0, 0) _ hp hg Tryz.underlying34 rfl (by rw [hs]; exact info_val)
/-- A value without list and members. -/
def leafA (k : Int) (t : ByteArray) : Array Value := #[.int .i64 k, .string t, .slice none 0 0, .slice none 0 0]
theorem info_v : (Tryz.prog.info? 34).map (fun i => (i.zero, i.size, i.bytes)) = some (some (.agg #[.int .i64 0, .string ⟨#[]⟩, .slice none 0 0, .slice none 0 0]), 4, 72) := by kernel_rfl
theorem C_nil {α : Type} (d : Kd α) (w : World) (A : Option Addr) : d.C w A 0 [] := ⟨rfl, by omega, fun h => by omega⟩
section
variable {H : Type} {enc : TypeId × Value → H} {W : World}
theorem jm_sz' (n : Nat) : (jm n).sz = 5 := by show 1 + (jd n).sz = 5; rw [show (jd n).sz = 4 from jsz n]
end
section
variable {ops : Array Oper} {rest : List Oper} {a : Act} {w : World} {Q : Exit → Act → World → Prop} {dst : Option Tmp} {x y : Operand} {ty : TypeId} {pos : String} {after : Array Edge} {b : Nat}
theorem wpl_put_val {old cs : Array Value} (H : Row 34 b old w) (ho : old.size = 4) (hx : a.eval x = .pointer (some ⟨b, 0, none⟩)) (hy : a.eval y = .agg cs) (hs : cs.size = 4) (h1 : cs.all (·.oneCell') = true) (h : ∀ W, Row 34 b cs W → Wrote b w W → wpList Tryz.prog ops Q rest (a.put dst undef) W) :
    wpList Tryz.prog ops Q ({ dst := dst, op := .store 34 x y, type := ty, pos := pos, after := after, guard := none } :: rest) a w := wpl_put info_val H ho hx hy hs h1 h
end
/-- The first member of a name. -/
def getF (n : ByteArray) : List (ByteArray × JV) → Option JV
  | [] => none
  | (o, x) :: l => if o = n then some x else getF n l
theorem K_jz (n : Nat) (w : World) : (jd (n + 1)).K w jz (jcells jz none 0 none 0) := jd_mk n w jz (Nat.le_refl _) (C_nil _ _ _) (Nat.le_refl _) (C_nil _ _ _)
/-- What Get gives. -/
def GotV (n : Nat) (w : World) (o : Option JV) (e : Ending) (w' : World) : Prop :=
  ∃ A2 c2 A3 c3, e = .returned (.tuple #[.agg #[.int .i64 (o.getD jz).kind, .string (o.getD jz).text, .slice A2 (o.getD jz).list.length c2, .slice A3 (o.getD jz).mem.length c3], .bool o.isSome]) ∧ Hid ((jd n).K w' (o.getD jz) (jcells (o.getD jz) A2 c2 A3 c3)) ∧ Hid (Below w.heap.size w w')
theorem getF_drop (n : ByteArray) (m : List (ByteArray × JV)) (k : Nat) (h : k < m.length) : getF n (m.drop k) = if (m.getD k (⟨#[]⟩, jz)).1 = n then some (m.getD k (⟨#[]⟩, jz)).2 else getF n (m.drop (k + 1)) := by
  rw [List.drop_eq_getElem_cons h, List.getD_eq_getElem?_getD, List.getElem?_eq_getElem h]
  rfl
theorem results_get (tmps : Array Value) (w : World) (n : Nat) (cs : Array Value) (H : Row 34 n cs w) (hs : cs.size = 4) (v : Value) (h2 : tmps.getD 4 undef = .pointer (some ⟨n, 0, none⟩)) (h3 : tmps.getD 5 undef = v) :
    (results Tryz.f10 tmps).run Tryz.prog w = .ok (.tuple #[.agg cs, v]) w := by
  subst h3
  exact results_ct rfl tmps w n 34 cs (0, 0) _ h2 H Tryz.underlying34 rfl (by rw [hs]; exact info_val)
set_option maxHeartbeats 4000000 in
set_option maxRecDepth 100000 in
theorem Get_any (n : Nat) (x : JV) (cs : List Value) (name : ByteArray) (w : World) (hk : (jd n).K w x cs) (h6 : x.kind ≠ 6 → x.mem = []) :
    Calls Tryz.prog 10 #[.agg cs.toArray, .string name] w (GotV n w (getF name x.mem)) := by
  obtain ⟨n, rfl⟩ := jd_cells hk
  obtain ⟨A2, c2, A3, c3, rfl, l2, g2, l3, g3⟩ := jd_open hk
  change Calls _ _ #[.agg #[.int .i64 x.kind, .string x.text, .slice A2 x.list.length c2, .slice A3 x.mem.length c3], _] _ _
  have HB0 : Hid (Below w.heap.size w ((w.alloc (.cells #[.int .i64 x.kind, .string x.text, .slice A2 x.list.length c2, .slice A3 x.mem.length c3] 34)).alloc (.cells (leafA 0 ⟨#[]⟩) 34))) := by show Below _ _ _; go_grown
  have HRx : Hid (Row 34 w.heap.size #[.int .i64 x.kind, .string x.text, .slice A2 x.list.length c2, .slice A3 x.mem.length c3] ((w.alloc (.cells #[.int .i64 x.kind, .string x.text, .slice A2 x.list.length c2, .slice A3 x.mem.length c3] 34)).alloc (.cells (leafA 0 ⟨#[]⟩) 34))) := (Row.new w _ _ rfl).old _
  have HRr : Hid (Row 34 (w.heap.size + 1) (leafA 0 ⟨#[]⟩) ((w.alloc (.cells #[.int .i64 x.kind, .string x.text, .slice A2 x.list.length c2, .slice A3 x.mem.length c3] 34)).alloc (.cells (leafA 0 ⟨#[]⟩) 34))) := Row.new _ _ _ (by simp)
  have G3 := Lib.hid g3
  have s3 : x.mem.length ≤ 9223372036854775807 := g3.2.1
  clear hk g2 g3 l2 l3
  by_cases hk6 : x.kind = 6
  · have e1 : (x.kind != 6) = false := by rw [bne_eq_false_iff_eq]; exact hk6
    have HX6 := Lib.hid hk6
    clear h6 hk6
    go_enter Tryz.func10, Tryz.ntmps10
    go_wp2_with fail
    change Code.wp _ _ _ _ ((w.alloc (.cells #[.int .i64 x.kind, .string x.text, .slice A2 x.list.length c2, .slice A3 x.mem.length c3] 34)).alloc (.cells (leafA 0 ⟨#[]⟩) 34))
    generalize (w.alloc (.cells #[.int .i64 x.kind, .string x.text, .slice A2 x.list.length c2, .slice A3 x.mem.length c3] 34)).alloc (.cells (leafA 0 ⟨#[]⟩) 34) = w0 at *
    have hr1 := HRr.out.lt
    go_loopg [15] x.mem.length (fun g v15 wi => ∃ k : Nat, v15 = .int .i64 k ∧ Hid (k + g = x.mem.length) ∧ Hid (getF name (x.mem.drop k) = getF name x.mem) ∧ Hid (Below w0.heap.size w0 wi))
    case atStart => exact ⟨0, rfl, by show _ = _; omega, rfl, Below.refl _ _⟩
    case round =>
      obtain ⟨k, rfl, HK, HD, HB⟩ := hrel
      by_cases hlt : k < x.mem.length
      · have hd := HD.out
        rw [getF_drop _ _ _ hlt] at hd
        obtain ⟨ad, X2, x2, X3, x3, rfl, hKa, qn, q0, q1, q2, q3⟩ := jm_at G3.out k hlt
        have HBi : Hid (Below w.heap.size w wr) := below_then HB0.out HB0.out.size HB.out
        replace qn := cell_under HBi.out qn
        replace q0 := cell_under HBi.out q0
        replace q1 := cell_under HBi.out q1
        replace q2 := cell_under HBi.out q2
        replace q3 := cell_under HBi.out q3
        have k0 : (0 : Int) ≤ (k : Int) := by omega
        have k1 : (k : Int) < (x.mem.length : Int) := by omega
        have k3 : decide (k < x.mem.length) = true := by simpa using hlt
        obtain ⟨g1, rfl⟩ : ∃ g1, gk = g1 + 1 := ⟨gk - 1, by have := HK.out; omega⟩
        have HKa := Lib.hid hKa
        clear hKa HD
        generalize x.mem.getD k (⟨#[]⟩, jz) = ea at *
        obtain ⟨nm, ya⟩ := ea
        dsimp only at qn q0 q1 q2 q3 HKa hd
        have HR3 := Lib.hid ((HRr.out.below HB.out).old (.cells #[.string nm, .int .i64 ya.kind, .string ya.text, .slice X2 ya.list.length x2, .slice X3 ya.mem.length x3] 88))
        have HBa : Hid (Below w0.heap.size w0 (wr.alloc (.cells #[.string nm, .int .i64 ya.kind, .string ya.text, .slice X2 ya.list.length x2, .slice X3 ya.mem.length x3] 88))) := HB.out.alloc HB.out.size _
        by_cases hn : nm = name
        · have e2 := tl_true hn
          have e3 : nm.toList = name.toList := by rw [hn]
          rw [if_pos hn] at hd
          have HF := Lib.hid hd.symm
          have HWB : Hid (Below w.heap.size w (wr.alloc (.cells #[.string nm, .int .i64 ya.kind, .string ya.text, .slice X2 ya.list.length x2, .slice X3 ya.mem.length x3] 88))) := below_then HB0.out HB0.out.size HBa.out
          clear hd hn
          go_wp2_with (first | ((with_reducible refine wpl_put_val (cs := ?_) HR3.out rfl ?hx ?hy ?hs ?hz ?_); (case hx => rfl); (case hy => rfl); (case hs => rfl); (case hz => (simp [Value.oneCell']; done)); intro w4 hr4 hw4; have HQ4 := Lib.hid hr4; have HB4 := Lib.hid (hw4.below HWB.out (by omega)); clear hr4 hw4))
          (try simp only [Exit.inBlock, Exit.then])
          rw [HF.out]
          refine bodyPost_ret (v := .tuple #[.agg #[.int .i64 ya.kind, .string ya.text, .slice X2 ya.list.length x2, .slice X3 ya.mem.length x3], .bool true]) (results_get _ _ _ _ HQ4.out rfl _ rfl rfl) rfl ?_
          exact ⟨X2, x2, X3, x3, rfl, jd_le (Nat.le_succ n) ((jd n).K_below HB4.out HKa.out), HB4⟩
        · have e2 := tl_false hn
          have e3 : ¬ nm.toList = name.toList := fun h => by have := tl_false hn; rw [h] at this; simp at this
          rw [if_neg hn] at hd
          have HD2 := Lib.hid hd
          clear hd hn
          go_wp2_with fail
          go_roundg g1
          case measure => omega
          case rel => exact ⟨k + 1, by go_num, by have := HK.out; show _ = _; omega, HD2, HBa⟩
      · obtain rfl : k = x.mem.length := by have := HK.out; omega
        have k3 : decide (x.mem.length < x.mem.length) = false := by simp
        have hd := HD.out
        rw [List.drop_length, getF] at hd
        have HF := Lib.hid hd.symm
        have HR3 := Lib.hid (HRr.out.below HB.out)
        have HWB : Hid (Below w.heap.size w wr) := below_then HB0.out HB0.out.size HB.out
        clear hd hlt HD HK
        go_wp2_with (first | ((with_reducible refine wpl_put_val (cs := ?_) HR3.out rfl ?hx ?hy ?hs ?hz ?_); (case hx => rfl); (case hy => rfl); (case hs => rfl); (case hz => (simp [Value.oneCell']; done)); intro w4 hr4 hw4; have HQ4 := Lib.hid hr4; have HB4 := Lib.hid (hw4.below HWB.out (by omega)); clear hr4 hw4))
        (try simp only [Exit.inBlock, Exit.then])
        rw [HF.out]
        refine bodyPost_ret (v := .tuple #[.agg #[.int .i64 0, .string ⟨#[]⟩, .slice none 0 0, .slice none 0 0], .bool false]) (results_get _ _ _ _ HQ4.out rfl _ rfl rfl) rfl ?_
        exact ⟨none, 0, none, 0, rfl, K_jz n _, HB4⟩
  · have e1 : (x.kind != 6) = true := by rw [bne_iff_ne]; exact hk6
    have HF : Hid (getF name x.mem = none) := by show _ = _; rw [h6 hk6]; rfl
    clear h6 hk6
    go_enter Tryz.func10, Tryz.ntmps10
    go_wp2_with (first | ((with_reducible refine wpl_put_val (cs := ?_) HRr.out rfl ?hx ?hy ?hs ?hz ?_); (case hx => rfl); (case hy => rfl); (case hs => rfl); (case hz => (simp [Value.oneCell']; done)); intro w4 hr4 hw4; have HQ4 := Lib.hid hr4; have HB4 := Lib.hid (hw4.below HB0.out (by omega)); clear hr4 hw4))
    (try simp only [Exit.inBlock, Exit.then])
    rw [HF.out]
    refine bodyPost_ret (v := .tuple #[.agg #[.int .i64 0, .string ⟨#[]⟩, .slice none 0 0, .slice none 0 0], .bool false]) (results_get _ _ _ _ HQ4.out rfl _ rfl rfl) rfl ?_
    exact ⟨none, 0, none, 0, rfl, K_jz n _, HB4⟩
theorem grown_none {w w' : World} (h : w.grownBy w' none) : Below w.heap.size w w' := ⟨h.os, h.tape, h.output, h.size, fun k hk => h.block k hk (by simp)⟩
section
variable {ops : Array Oper} {rest : List Oper} {a : Act} {w : World} {Q : Exit → Act → World → Prop} {dst : Option Tmp} {s x : Operand} {ty : TypeId} {pos : String} {after : Array Edge}
theorem info_m5 : (Tryz.prog.info? 88).map (fun i => (i.zero, i.size, i.bytes)) = some (some (.agg #[.string ⟨#[]⟩, .int .i64 0, .string ⟨#[]⟩, .slice none 0 0, .slice none 0 0]), 5, 88) := by kernel_rfl
end
set_option maxHeartbeats 1000000 in
theorem Str_val (s : ByteArray) (w : World) : Calls Tryz.prog 23 #[.string s] w fun e w' => e = .returned (.agg #[.int .i64 4, .string s, .slice none 0 0, .slice none 0 0]) ∧ Hid (Below w.heap.size w w') := by
  have HV0 : Hid (Row 34 w.heap.size (leafA 0 ⟨#[]⟩) (w.alloc (.cells (leafA 0 ⟨#[]⟩) 34))) := Row.new w _ _ rfl
  have HB0 : Hid (Below w.heap.size w (w.alloc (.cells (leafA 0 ⟨#[]⟩) 34))) := (Below.refl _ _).alloc (Nat.le_refl _) _
  go_enter Tryz.func23, Tryz.ntmps23
  go_wp2_with (first | ((with_reducible refine wpl_put_val (cs := ?_) HV0.out rfl ?hx ?hy ?hs ?hz ?_); (case hx => rfl); (case hy => rfl); (case hs => rfl); (case hz => (simp [Value.oneCell']; done)); intro w2 hr2 hw2))
  (try simp only [Exit.inBlock, Exit.then])
  have hb2 := hw2.below HB0.out (Nat.le_refl _)
  refine bodyPost_ret (v := .agg (leafA 4 s)) ?_ rfl ?_
  · exact results_val rfl _ _ _ _ rfl hr2 rfl
  · exact ⟨rfl, hb2⟩
end Go.Proofs.YtangheahliekeaaGreatDoor

