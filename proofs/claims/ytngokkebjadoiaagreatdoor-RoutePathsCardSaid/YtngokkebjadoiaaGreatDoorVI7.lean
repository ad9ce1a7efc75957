/- What the claim uses of the text I7. -/
import Derived.Test.YtngokkebjadoiaaGreatDoorVI6
set_option linter.unusedVariables false
set_option linter.unusedSimpArgs false
namespace Go.Proofs.YtngokkebjadoiaaGreatDoor
open Go.RowKit Go.PlainAid
open Go.Proofs.YtngokkebjadoiaaGreatDoorW.PrintWords hiding bt
open Go.Proofs.YtngokkebjadoiaaGreatDoorW.PrintMore

def bys (p : PV) (i : Nat) : List Nat := (List.range i).map p.addr
theorem bys_step (p : PV) (i : Nat) : zsOf (bys p (i + 1)) = zsOf (bys p i) ++ [(p.addr i : Int)] := by
  unfold bys zsOf
  rw [List.range_succ, List.map_append, List.map_append]
  rfl
theorem bys_len (p : PV) (i : Nat) : (zsOf (bys p i)).length = i := by simp [bys, zsOf]
def grs (p : PV) (i : Nat) : List Nat := (List.range i).map (grp p)
theorem grs_step (p : PV) (i : Nat) : zsOf (grs p (i + 1)) = zsOf (grs p i) ++ [(grp p i : Int)] := by
  unfold grs zsOf
  rw [List.range_succ, List.map_append, List.map_append]
  rfl
theorem grs_len (p : PV) (i : Nat) : (zsOf (grs p i)).length = i := by simp [grs, zsOf]

set_option maxHeartbeats 4000000 in
set_option maxRecDepth 100000 in
theorem address4_any (p : PV) (hp : ∀ i, i < 16 → p.addr i < 256) (h6 : p.six = false) (w : World) (hc : Caps w) :
    Calls Tryz.prog 33 #[.agg (preA p)] w fun e w' => e = .returned (.string (strOfNums (addrT p))) ∧ Hid (Below w.heap.size w w') := by
  have H : Hid (PreAt w.heap.size p (w.alloc (.cells (preA p) 24))) := Row.new w _ _ rfl
  have HBw : Hid (Below w.heap.size w (w.alloc (.cells (preA p) 24))) := (Below.refl _ _).alloc (Nat.le_refl _) _
  have HC := Lib.hid (hc.below HBw.out)
  have HP := Lib.hid hp
  have hsl : ∀ W, (Instr.sliceAt 22 (.pointer (some ⟨w.heap.size, 1, none⟩)) none (some (.int .i64 4)) (some (.int .i64 4))).run Tryz.prog W = .ok (.slice (some ⟨w.heap.size, 1, none⟩) 4 4) W := fun W => by
    have hal : Tryz.prog.arrayLen 22 = 16 := by kernel_rfl
    rw [run_sliceAt_array_hm W 22 ⟨w.heap.size, 1, none⟩ (by rw [hal]; simp [Program.arrayLen, Program.elem, Tryz.underlying22]) .i64 .i64 4 4 (by omega) (by omega) (by rw [hal]; omega)]
    go_simp
  have HAT : Hid (addrT p = joinI [46] ((bys p 4).map (digs 10))) := by
    show _ = _
    unfold addrT fourT bys
    rw [if_neg (by rw [h6]; simp), List.map_map]
    rfl
  clear hc hp
  go_enter Tryz.func33, Tryz.ntmps33
  go_upto_region 1 with (fail)
  generalize w.alloc (.cells (preA p) 24) = w0 at *
  have c0 := H.out.six
  rw [h6] at c0
  clear h6
  go_wp2_with fail
  clear c0
  go_loopg [3, 15] 4 (fun k v3 v15 w' => ∃ i : Nat, v15 = .int .i64 i ∧ Hid (i + k = 4) ∧ Hid (Kd.R (Kd.int .i64) 3 w' w0.heap.size (fun k => w0.heap.size ≤ k) v3 (zsOf (bys p i))) ∧ Hid (Below w0.heap.size w0 w'))
  case atStart => exact ⟨0, rfl, by show _ = _; omega, Kd.R_nil _ _ _ _ _, Below.refl _ _⟩
  case round =>
    obtain ⟨i, rfl, HI, HR, HB⟩ := hrel
    by_cases hlt : i < 4
    · cases gk with
      | zero => have := HI.out; omega
      | succ k1 =>
        have HI2 : Hid (i + 1 + k1 = 4) := by have := HI.out; show _ = _; omega
        have c1 := (H.out.below HB.out).byte i (by omega)
        have c1' : wr.cell? ((⟨w.heap.size, 1, none⟩ : Addr).add i) = some (.int .u8 (p.addr i)) := by rw [Lib.add_plain]; exact c1
        have HS := Lib.hid (bys_step p i)
        have hx := HP.out i (by omega)
        obtain ⟨x, hxx⟩ : ∃ x, p.addr i = x := ⟨_, rfl⟩
        rw [hxx] at c1 c1' HS hx
        clear hxx
        have HAL : Hid ((zsOf (bys p i)).length + 1 ≤ 17) := by show _ ≤ _; rw [bys_len]; omega
        obtain ⟨acc, Hacc⟩ : ∃ acc, Hid (zsOf (bys p i) = acc) := ⟨_, rfl⟩
        rw [Hacc.out] at HR HS HAL
        go_wp2_with (at_builtin; go_must (refine Kd.R_append (Kd.int .i64) (w0 := w0) w0.heap.size rfl (.tmp 19) (.tmp 22) 90 3 (.int .i64 0) 8 rfl Tryz.underlying90 infoI rfl (by decide) (by omega) _ acc (x : Int) [.int .i64 x] (fun k => w0.heap.size ≤ k) (fun _ => False) rfl rfl ?aP (fun _ hk => hk.elim) ?aF ?aO ?aB ?aS ?aL ?_); (case aP => exact rfl); (case aB => exact HB.out); (case aF => exact (fun k hk => Nat.le_trans HB.out.size hk)); (case aO => exact HR.out); (case aS => exact HB.out.size); (case aL => have := HAL.out; omega); intro v7 w7 ho hb7 hg7 hat; have HR7 := Lib.hid ho; have HB7 := Lib.hid hb7; clear ho hb7 hg7 hat HR HB c1 c1')
        go_roundg k1
        case measure => omega
        case rel => exact ⟨i + 1, by go_num, HI2, by rw [HS.out]; exact HR7.out, HB7⟩
    · have HI3 : i = 4 := by have := HI.out; omega
      subst HI3
      obtain ⟨A, c, hv, hc, hC⟩ := Kd.R_reads HR.out
      rw [bys_len] at hv hc hC
      subst hv
      have HW : Hid (Calls Tryz.prog 48 #[.slice A 4 c, .int .i64 10, .string ⟨#[46]⟩] wr fun e w' => e = .returned (.string (strOfNums (addrT p))) ∧ Hid (Below wr.heap.size wr w')) := by
        show Calls _ _ _ _ _
        rw [HAT.out]
        have hb : ∀ n ∈ bys p 4, n < 256 := by
          intro n hn
          unfold bys at hn
          rw [List.mem_map] at hn
          obtain ⟨j, hj, rfl⟩ := hn
          rw [List.mem_range] at hj
          exact HP.out j (by omega)
        exact words_any A c (bys p 4) 10 [46] (digs 10) wr (HC.out.below HB.out) hC (show 4 ≤ 16 by omega) rfl (fun n hn => by have := digs_len 10 (by omega) 2 n (by have := hb n hn; omega); omega) (fun n hn W hW => FormatInt10_any n (by have := hb n hn; omega) W hW)
      clear HI hC hc HR
      go_wp2_with fail
      refine HW.out.mono ?_
      rintro e w6 ⟨rfl, hb6⟩
      go_wp2
      go_ret
      exact ⟨rfl, below_then HBw.out HBw.out.size (below_step HB.out hb6.out)⟩

theorem or_lowN (a b : Nat) (hb : b < 256) : 256 * a ||| b = 256 * a + b := by
  have := Nat.shiftLeft_add_eq_or_of_lt (i := 8) (b := b) (by omega) a
  rw [Nat.shiftLeft_eq, show a * 2 ^ 8 = 256 * a from Nat.mul_comm a 256] at this
  exact this.symm
theorem or_low (a b : Nat) (ha : a < 256) (hb : b < 256) : bits .or .i64 ((a : Int) * 256) (b : Int) = ((256 * a + b : Nat) : Int) := by
  have h3 := or_lowN a b hb
  generalize h1 : 256 * a = c at h3 ⊢
  have h4 : ((a : Int) * 256) = (c : Int) := by omega
  rw [h4]
  have h5 : ∀ x : Nat, x < 65536 → x % 2 ^ 64 = x := fun x hx => Nat.mod_eq_of_lt (Nat.lt_trans hx (by decide))
  simp [bits]
  rw [show IntKind.i64.bits = 64 from rfl, h5 c (by omega), h5 b (by omega), h3, IntKind.wrap_i64]
  omega
theorem C_of_cells {w : World} {b o n : Nat} (xs : List Int) (hn : xs.length = n) (hm : n ≤ 1000) (h : ∀ (j : Nat) (x : Int), xs[j]? = some x → w.cell? ⟨b, o + j, none⟩ = some (.int .i64 x)) : (Kd.int .i64).C w (some ⟨b, o, none⟩) n xs := by
  refine ⟨hn, by omega, fun _ => ⟨⟨b, o, none⟩, rfl, fun j p hj => ⟨[.int .i64 p], rfl, rfl, fun i u hu => ?_⟩⟩⟩
  cases i with
  | zero =>
    simp at hu
    subst hu
    rw [Lib.add_plain, show o + (j * (Kd.int .i64).sz + 0) = o + j by show o + (j * 1 + 0) = o + j; omega]
    exact h j p hj
  | succ i => simp at hu
set_option maxHeartbeats 8000000 in
set_option maxRecDepth 100000 in
theorem address6_any (p : PV) (hp : ∀ i, i < 16 → p.addr i < 256) (h6 : p.six = true) (w : World) (hc : Caps w) :
    Calls Tryz.prog 33 #[.agg (preA p)] w fun e w' => e = .returned (.string (strOfNums (addrT p))) ∧ Hid (Below w.heap.size w w') := by
  have H : Hid (PreAt w.heap.size p (w.alloc (.cells (preA p) 24))) := Row.new w _ _ rfl
  have HBw : Hid (Below w.heap.size w (w.alloc (.cells (preA p) 24))) := (Below.refl _ _).alloc (Nat.le_refl _) _
  have HC := Lib.hid (hc.below HBw.out)
  have HP := Lib.hid hp
  have HAT : Hid (addrT p = sixT (grs p 8)) := by
    show _ = _
    unfold addrT
    rw [if_pos h6]
    rfl
  clear hc hp
  go_enter Tryz.func33, Tryz.ntmps33
  go_upto_region 1 with (fail)
  generalize w.alloc (.cells (preA p) 24) = w0 at *
  have c0 := H.out.six
  rw [h6] at c0
  clear h6
  go_wp2_with fail
  clear c0
  go_loopg [3, 6] 8 (fun k v3 v6 w' => ∃ i : Nat, v6 = .int .i64 ((2 * i : Nat) : Int) ∧ Hid (i + k = 8) ∧ Hid (Kd.R (Kd.int .i64) 3 w' w0.heap.size (fun k => w0.heap.size ≤ k) v3 (zsOf (grs p i))) ∧ Hid (Below w0.heap.size w0 w'))
  case atStart => exact ⟨0, rfl, by show _ = _; omega, Kd.R_nil _ _ _ _ _, Below.refl _ _⟩
  case round =>
    obtain ⟨i, rfl, HI, HR, HB⟩ := hrel
    by_cases hlt : i < 8
    · cases gk with
      | zero => have := HI.out; omega
      | succ k1 =>
        have HI2 : Hid (i + 1 + k1 = 8) := by have := HI.out; show _ = _; omega
        have c1 := (H.out.below HB.out).byte (2 * i) (by omega)
        have c2 := (H.out.below HB.out).byte (2 * i + 1) (by omega)
        have HS := Lib.hid (grs_step p i)
        have hx := HP.out (2 * i) (by omega)
        have hy := HP.out (2 * i + 1) (by omega)
        unfold grp at HS
        obtain ⟨x, hxx⟩ : ∃ x, p.addr (2 * i) = x := ⟨_, rfl⟩
        obtain ⟨y, hyy⟩ : ∃ y, p.addr (2 * i + 1) = y := ⟨_, rfl⟩
        rw [hxx] at c1 hx HS
        rw [hyy] at c2 hy HS
        clear hxx hyy
        obtain ⟨j, hj⟩ : ∃ j, 2 * i = j := ⟨_, rfl⟩
        have hj16 : j < 15 := by omega
        rw [hj] at c1 c2 ⊢
        have HJ := Lib.hid hj
        clear hj
        have hor := or_low x y hx hy
        obtain ⟨g, hg⟩ : ∃ g, 256 * x + y = g := ⟨_, rfl⟩
        rw [hg] at hor HS
        clear hg
        have w1 : IntKind.i64.wrap ((j : Int) + 1) = (j : Int) + 1 := by rw [IntKind.wrap_i64]; omega
        have w2 : IntKind.i64.wrap (x : Int) = (x : Int) := by rw [IntKind.wrap_i64]; omega
        have w3 : IntKind.i64.wrap ((x : Int) * 256) = (x : Int) * 256 := by rw [IntKind.wrap_i64]; omega
        have w4 : IntKind.i64.wrap (y : Int) = (y : Int) := by rw [IntKind.wrap_i64]; omega
        have HAL : Hid ((zsOf (grs p i)).length + 1 ≤ 17) := by show _ ≤ _; rw [grs_len]; omega
        obtain ⟨acc, Hacc⟩ : ∃ acc, Hid (zsOf (grs p i) = acc) := ⟨_, rfl⟩
        rw [Hacc.out] at HR HS HAL
        have hwlt := H.out.lt
        have j0 : (0 : Int) ≤ (j : Int) + 1 := by omega
        have j1 : (j : Int) + 1 < 16 := by omega
        have j2 : ((j : Int) + 1).toNat = j + 1 := by omega
        have HRd := Lib.hid (Kd.R_below HR.out (below_drew (Below.refl _ _)))
        have HBd := Lib.hid (below_drew HB.out)
        go_wp2_with fail
        go_region_held3 (fun W => W.cell? ⟨w.heap.size, 1 + j, none⟩ = some (.int .u8 x) ∧ W.cell? ⟨w.heap.size, 1 + (j + 1), none⟩ = some (.int .u8 y))
          (first | exact ⟨c1, c2⟩ | exact ⟨c1z, c2z⟩ | go_keep)
          (first | (refine Kd.R_append_step (Kd.int .i64) (w0 := wr.drew) (W := wr.drew) w0.heap.size (by rfl) (.tmp 31) (.tmp 45) 90 3 (.int .i64 0) 8 (by rfl) Tryz.underlying90 infoI rfl (by decide) (by omega) u3 acc (g : Int) [.int .i64 g] (fun k => w0.heap.size ≤ k) (fun _ => False) (by rfl) (by rfl) rfl (fun _ hk => hk.elim) (fun k hk => Nat.le_trans HBd.out.size hk) HRd.out (Below.refl _ _) HBd.out.size (by have := HAL.out; omega) ?_; intro v1 w7 ho hb hg7 hat; have HR7 := Lib.hid ho; have HB7 := Lib.hid (HBd.out.trans hb); have c1z : w7.cell? ⟨w.heap.size, 1 + j, none⟩ = some (.int .u8 x) := (hb.cell (by exact hwlt)).trans c1; have c2z : w7.cell? ⟨w.heap.size, 1 + (j + 1), none⟩ = some (.int .u8 y) := (hb.cell (by exact hwlt)).trans c2; clear ho hb hg7 hat))
        all_goals
          clear c1 c2 c1z c2z
          go_wp2_with fail
          go_roundg k1
          case measure => omega
          case rel => exact ⟨i + 1, by rw [show 2 * (i + 1) = j + 2 by have := HJ.out; omega]; go_num, HI2, by rw [HS.out]; exact HR7.out, HB7⟩
    · have HI3 : i = 8 := by have := HI.out; omega
      subst HI3
      obtain ⟨A, c, hv, hc, hC⟩ := Kd.R_reads HR.out
      obtain ⟨inner, ho⟩ := Kd.R_own HR.out
      rw [grs_len] at hv hc hC ho
      obtain ⟨g0, cap, hA⟩ : ∃ g0 cap, u3 = .slice (some ⟨g0, 0, none⟩) 8 cap := by
        rcases ho.2 with ⟨_, h0⟩ | ⟨g, cap, cur, hv, _⟩
        · omega
        · exact ⟨g, cap, hv⟩
      rw [hv] at hA
      injection hA with hA _ hcp
      subst hA
      subst hcp
      subst hv
      have HG := Lib.hid (gap_any (some ⟨g0, 0, none⟩) c (grs p 8) wr hC hc (show 8 ≤ 1000 by omega))
      have HCW := Lib.hid (HC.out.below HB.out)
      have hlt : ∀ n ∈ grs p 8, n < 65536 := grps_lt p HP.out
      have hgl : (grs p 8).length = 8 := by simp [grs]
      have HIS := gapS_is (grs p 8) 8 (by rw [hgl]; omega)
      have HT : Hid (addrT p = sixT (grs p 8)) := HAT
      clear HI HR ho HAT
      unfold sixT at HT
      rw [hgl] at HT HG HIS
      rcases HIS with h1 | ⟨h2, h3, h4⟩
      · rw [h1] at HT HG
        have HT2 : Hid (addrT p = joinI [58] ((grs p 8).map hexl)) := by have := HT.out; rwa [if_pos rfl] at this
        have HG2 : Hid (Calls Tryz.prog 49 #[.slice (some ⟨g0, 0, none⟩) 8 c] wr fun e w' => e = .returned (.tuple #[.int .i64 0, .int .i64 0]) ∧ Hid (Below wr.heap.size wr w')) := HG.out
        have HW : Hid (∀ W, Below wr.heap.size wr W → Calls Tryz.prog 48 #[.slice (some ⟨g0, 0, none⟩) 8 c, .int .i64 16, .string ⟨#[58]⟩] W fun e w' => e = .returned (.string (strOfNums (addrT p))) ∧ Hid (Below W.heap.size W w')) := by
          intro W hW
          rw [HT2.out]
          exact words_any (some ⟨g0, 0, none⟩) c (grs p 8) 16 [58] hexl W (HCW.out.below hW) (Kd.C_below hC hW) (show 8 ≤ 16 by omega) rfl (fun n hn => by have := hexl_len n (hlt n hn); omega) (fun n hn W hW => FormatInt16_any n (hlt n hn) W hW)
        clear h1 HT HG hC hc hlt
        go_wp2_with fail
        refine HG2.out.mono ?_
        rintro e w4 ⟨rfl, hb4⟩
        go_wp2_with fail
        refine (HW.out _ hb4.out).mono ?_
        rintro e w6 ⟨rfl, hb6⟩
        go_wp2
        go_ret
        exact ⟨rfl, below_then HBw.out HBw.out.size (below_step HB.out (below_step hb4.out hb6.out))⟩
      · have HT2 := HT.out
        rw [if_neg (by omega)] at HT2
        unfold gapP at HG
        rw [if_neg (by omega)] at HG
        obtain ⟨⟨f, g⟩, hfg⟩ : ∃ s, gapS (grs p 8) 8 = s := ⟨_, rfl⟩
        rw [hfg] at HT2 HG h2 h3 h4
        dsimp only at HT2 HG h2 h3 h4
        clear hfg HT
        have hcell : ∀ j x, (zsOf (grs p 8))[j]? = some x → wr.cell? ⟨g0, j, none⟩ = some (.int .i64 x) := by
          intro j x hj
          have hj' := (List.getElem?_eq_some_iff.1 hj).1
          rw [grs_len] at hj'
          obtain ⟨ad, had, hcell⟩ := C_int_get hC j hj'
          injection had with had
          subst had
          rw [Lib.add_plain, Nat.zero_add] at hcell
          rw [hcell, List.getD_eq_getElem?_getD, hj]
          rfl
        obtain ⟨l, hl⟩ : ∃ l, grs p 8 = l := ⟨_, rfl⟩
        rw [hl] at HT2 hcell hlt hgl
        have hC1 : (Kd.int .i64).C wr (some ⟨g0, 0, none⟩) f (zsOf (l.take f)) := C_of_cells _ (by simp [zsOf]; omega) (by omega) (fun j x hj => by
          rw [Nat.zero_add]
          refine hcell j x ?_
          unfold zsOf at hj ⊢
          rw [List.map_take, List.getElem?_take] at hj
          split at hj
          · exact hj
          · cases hj)
        have hC2 : (Kd.int .i64).C wr (some ⟨g0, f + g, none⟩) (8 - (f + g)) (zsOf (l.drop (f + g))) := C_of_cells _ (by simp [zsOf]; omega) (by omega) (fun j x hj => by
          refine hcell (f + g + j) x ?_
          unfold zsOf at hj ⊢
          rw [List.map_drop, List.getElem?_drop] at hj
          exact hj)
        have HC1 := Lib.hid hC1
        have HC2 := Lib.hid hC2
        clear hC1 hC2 hcell
        have HG2 : Hid (Calls Tryz.prog 49 #[.slice (some ⟨g0, 0, none⟩) 8 c] wr fun e w' => e = .returned (.tuple #[.int .i64 f, .int .i64 g]) ∧ Hid (Below wr.heap.size wr w')) := HG.out
        have HR1 : Hid ((joinI [58] ((l.take f).map hexl)).length ≤ 100) := by
          have := joinI_len [58] 4 ((l.take f).map hexl) (fun t ht => by
            rw [List.mem_map] at ht
            obtain ⟨n, hn, rfl⟩ := ht
            exact hexl_len n (hlt n (List.mem_of_mem_take hn)))
          rw [List.length_map, List.length_take] at this
          simp only [List.length_cons, List.length_nil] at this
          show _ ≤ _
          omega
        have HR2 : Hid ((joinI [58] ((l.drop (f + g)).map hexl)).length ≤ 100) := by
          have := joinI_len [58] 4 ((l.drop (f + g)).map hexl) (fun t ht => by
            rw [List.mem_map] at ht
            obtain ⟨n, hn, rfl⟩ := ht
            exact hexl_len n (hlt n (List.mem_of_mem_drop hn)))
          rw [List.length_map, List.length_drop] at this
          simp only [List.length_cons, List.length_nil] at this
          show _ ≤ _
          omega
        have HW1 : Hid (∀ W, Below wr.heap.size wr W → Calls Tryz.prog 48 #[.slice (some ⟨g0, 0, none⟩) f c, .int .i64 16, .string ⟨#[58]⟩] W fun e w' => e = .returned (.string (strOfNums (joinI [58] ((l.take f).map hexl)))) ∧ Hid (Below wr.heap.size wr w')) := by
          intro W hW
          have := words_any (some ⟨g0, 0, none⟩) c (l.take f) 16 [58] hexl W (HCW.out.below hW) (by rw [show (l.take f).length = f by rw [List.length_take]; omega]; exact Kd.C_below HC1.out hW) (by rw [List.length_take]; omega) rfl (fun n hn => by have := hexl_len n (hlt n (List.mem_of_mem_take hn)); omega) (fun n hn W hW => FormatInt16_any n (hlt n (List.mem_of_mem_take hn)) W hW)
          rw [show (l.take f).length = f by rw [List.length_take]; omega] at this
          refine Calls.mono this ?_
          rintro e w' ⟨rfl, hb⟩
          exact ⟨rfl, below_step hW hb.out⟩
        have HW2 : Hid (∀ W, Below wr.heap.size wr W → Calls Tryz.prog 48 #[.slice (if c = f + g then some ⟨g0, 0, none⟩ else some ⟨g0, f + g, none⟩) (8 - (f + g)) (c - (f + g)), .int .i64 16, .string ⟨#[58]⟩] W fun e w' => e = .returned (.string (strOfNums (joinI [58] ((l.drop (f + g)).map hexl)))) ∧ Hid (Below wr.heap.size wr w')) := by
          intro W hW
          have := words_any (if c = f + g then some ⟨g0, 0, none⟩ else some ⟨g0, f + g, none⟩) (c - (f + g)) (l.drop (f + g)) 16 [58] hexl W (HCW.out.below hW) (by rw [show (l.drop (f + g)).length = 8 - (f + g) by rw [List.length_drop]; omega]; split; (exact ⟨by simp [zsOf]; omega, by omega, fun h => by omega⟩); (exact Kd.C_below HC2.out hW)) (by rw [List.length_drop]; omega) rfl (fun n hn => by have := hexl_len n (hlt n (List.mem_of_mem_drop hn)); omega) (fun n hn W hW => FormatInt16_any n (hlt n (List.mem_of_mem_drop hn)) W hW)
          rw [show (l.drop (f + g)).length = 8 - (f + g) by rw [List.length_drop]; omega] at this
          refine Calls.mono this ?_
          rintro e w' ⟨rfl, hb⟩
          exact ⟨rfl, below_step hW hb.out⟩
        have HTX : Hid (strOfNums (addrT p) = strOfNums (joinI [58] ((l.take f).map hexl)) ++ ⟨#[58, 58]⟩ ++ strOfNums (joinI [58] ((l.drop (f + g)).map hexl))) := by
          show _ = _
          rw [HT2, show (⟨#[58, 58]⟩ : ByteArray) = strOfNums [58, 58] from rfl, nums_append', nums_append']
        rw [← nums_size] at HR1 HR2
        obtain ⟨t1, Ht1⟩ : ∃ t, Hid (strOfNums (joinI [58] ((l.take f).map hexl)) = t) := ⟨_, rfl⟩
        obtain ⟨t2, Ht2⟩ : ∃ t, Hid (strOfNums (joinI [58] ((l.drop (f + g)).map hexl)) = t) := ⟨_, rfl⟩
        rw [Ht1.out] at HW1 HTX HR1
        rw [Ht2.out] at HW2 HTX HR2
        clear HT2 HC1 HC2 hlt hl hgl HG HCW hC Ht1 Ht2
        have r1 : t1.size ≤ 100 := HR1.out
        have r2 : t2.size ≤ 100 := HR2.out
        have o1 : (9223372036854775807 < t1.size + 2) = False := by rw [eq_iff_iff]; constructor; omega; intro h; exact h.elim
        have o2 : (9223372036854775807 < t1.size + 2 + t2.size) = False := by rw [eq_iff_iff]; constructor; omega; intro h; exact h.elim
        have k1 : (0 : Int) ≤ (f : Int) := by omega
        have k2 : (f : Int) ≤ 8 := by omega
        have k3 : (f : Int) ≤ (c : Int) := by omega
        have k4 : IntKind.i64.wrap ((f : Int) + (g : Int)) = (f : Int) + (g : Int) := by rw [IntKind.wrap_i64]; omega
        have k5 : (f : Int) + (g : Int) ≤ 8 := by omega
        have k6 : (0 : Int) ≤ (f : Int) + (g : Int) := by omega
        have k7 : ((f : Int) + (g : Int)).toNat = f + g := by omega
        go_wp2_with fail
        refine HG2.out.mono ?_
        rintro e w4 ⟨rfl, hb4⟩
        have e0 : ((g : Int) == 0) = false := by rw [beq_eq_false_iff_ne]; omega
        clear HG2
        go_upto_region 16 with (fail)
        have hb9 : Hid (Below wr.heap.size wr w4.drew) := below_drew hb4.out
        go_region_held3 (fun W => True) (exact trivial)
          (first | (go_simp; go_at_call 48; (first | with_reducible refine (HW1.out _ (by exact hb9.out)).mono ?_ | with_reducible refine (HW2.out _ (by exact hb9.out)).mono ?_); rintro e w9 ⟨rfl, hb9⟩; (try dsimp only)))
        go_wp2_with fail
        all_goals
          go_ret
          exact ⟨by rw [HTX.out]; rfl, below_then HBw.out HBw.out.size (below_step HB.out hb9.out)⟩
end Go.Proofs.YtngokkebjadoiaaGreatDoor

