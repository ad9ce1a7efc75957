/- What the claim uses of the text IF. -/
import Derived.Test.YtngokkebjadoiaaGreatDoorVS5
import Derived.RangeFuncFrom
import Derived.RangeFuncNested
import Derived.RangeFuncBound
import Derived.RangeFuncCalls
import Derived.RangeFuncLeaves
import Derived.Shelf.Abstract
import Derived.OwnWalkIn
import Derived.TacticsInMore
import Derived.LoopNIn
import Derived.LoopIn
set_option linter.unusedVariables false
set_option linter.unusedSimpArgs false
namespace Go.Proofs.YtngokkebjadoiaaGreatDoor
open Go.RowKit Go.PlainAid Go.Shelf
open Go.Proofs.YtngokkebjadoiaaGreatDoorW.PrintWords hiding bt
open Go.Proofs.YtngokkebjadoiaaGreatDoorW.PrintMore
attribute [local go_sem] Oper.semAt_some
def tAcom : ByteArray := ⟨#[97, 46, 99, 111, 109]⟩
def tCom : ByteArray := ⟨#[99, 111, 109]⟩
theorem icut_found (w : World) : Calls Tryz.prog 91 #[.string ⟨#[97, 46, 99, 111, 109]⟩, .string ⟨#[46]⟩] w fun e w' => e = .returned (.tuple #[.string ⟨#[97]⟩, .string ⟨#[99, 111, 109]⟩, .bool true]) ∧ ∃ k, w' = w.drewN k := by
  have hi : Lib.indexByte (⟨#[97, 46, 99, 111, 109]⟩ : ByteArray).data.toList 46 = 1 := by decide +kernel
  have h1 : (⟨#[97, 46, 99, 111, 109]⟩ : ByteArray).size = 5 := rfl
  have h2 : (⟨#[46]⟩ : ByteArray).size = 1 := rfl
  go_enter Tryz.func91, Tryz.ntmps91
  go_wp2_with (go_at_call 101; refine (stringslite_Index_one ⟨#[97, 46, 99, 111, 109]⟩ 46 _).mono ?_; rintro e w2 ⟨rfl, rfl⟩; rw [hi])
  go_quiet (fail)
  go_wp2
  go_ret3
  exact ⟨by rfl, _, rfl⟩
theorem icut_none (w : World) : Calls Tryz.prog 91 #[.string ⟨#[99, 111, 109]⟩, .string ⟨#[46]⟩] w fun e w' => e = .returned (.tuple #[.string ⟨#[99, 111, 109]⟩, .string ⟨#[]⟩, .bool false]) ∧ ∃ k, w' = w.drewN k := by
  have hi : Lib.indexByte (⟨#[99, 111, 109]⟩ : ByteArray).data.toList 46 = -1 := by decide +kernel
  go_enter Tryz.func91, Tryz.ntmps91
  go_wp2_with (go_at_call 101; refine (stringslite_Index_one ⟨#[99, 111, 109]⟩ 46 _).mono ?_; rintro e w2 ⟨rfl, rfl⟩; rw [hi])
  go_ret3
  exact ⟨by rfl, 0, rfl⟩
theorem cut_found (w : World) : Calls Tryz.prog 80 #[.string ⟨#[97, 46, 99, 111, 109]⟩, .string ⟨#[46]⟩] w fun e w' => e = .returned (.tuple #[.string ⟨#[97]⟩, .string ⟨#[99, 111, 109]⟩, .bool true]) ∧ ∃ k, w' = w.drewN k := by
  go_enter Tryz.func80, Tryz.ntmps80
  go_wp2_with (go_at_call 91; refine (icut_found _).mono ?_; rintro e w2 ⟨rfl, hw⟩)
  go_ret3
  exact ⟨by rfl, hw⟩
theorem cut_none (w : World) : Calls Tryz.prog 80 #[.string ⟨#[99, 111, 109]⟩, .string ⟨#[46]⟩] w fun e w' => e = .returned (.tuple #[.string ⟨#[99, 111, 109]⟩, .string ⟨#[]⟩, .bool false]) ∧ ∃ k, w' = w.drewN k := by
  go_enter Tryz.func80, Tryz.ntmps80
  go_wp2_with (go_at_call 91; refine (icut_none _).mono ?_; rintro e w2 ⟨rfl, hw⟩)
  go_ret3
  exact ⟨by rfl, hw⟩

def msr (v : Value) : Nat := match v with | .string s => s.size | _ => 0
set_option maxRecDepth 100000 in
set_option maxHeartbeats 2000000 in
theorem Up1_in (n : Nat) (hn : 1 ≤ n) (l Bn : Nat) (J Jx : List ByteArray → World → Prop) (W : World) (hJa : AbidesFrom W.heap.size J)
    (hY : ∀ pre x W1, J pre W1 → pre.length < 2 → YieldAt Fence.wide (n - 1) Tryz.prog l #[.string x] W1 fun e W' =>
      (e = .returned (.bool true) ∧ J (pre ++ [x]) W' ∧ True) ∨ (e = .returned (.bool false) ∧ Jx (pre ++ [x]) W'))
    (hBn : W.cell? ⟨Bn, 0, none⟩ = some (.string ⟨#[97, 46, 99, 111, 109]⟩)) (h0 : J [] W) :
    CallsIn Fence.wide n Tryz.prog 90 #[.func (.yield l) #[] #[], .pointer (some ⟨Bn, 0, none⟩)] W fun e W' => (∃ v, e = .returned v) ∧
      ((∃ ys, ys = [tAcom, tCom] ∧ J ys W') ∨ (∃ pre, (pre = [tAcom] ∨ pre = [tAcom, tCom]) ∧ Jx pre W')) := by
  have hJd : ∀ (s : List ByteArray) (A : World) (k : Nat), J s A → J s (A.drewN k) := fun s A k h => hJa s A _ none h (grown_drewN A k none) (fun r e => by cases e)
  have hf80 : Fence.wide.fn 80 := trivial
  refine callsIn_of_wp Tryz.func90 rfl trivial ?_ rfl
  simp only [Tryz.ntmps90, List.size_toArray, List.length_cons, List.length_nil, Nat.reduceAdd, Nat.reduceSub, Array.replicate_succ, Array.replicate_zero, List.push_toArray, List.append_toArray, List.nil_append, List.cons_append]
  gi_wp2
  gi_loopw [3] (fun p wr => (p = .string ⟨#[97, 46, 99, 111, 109]⟩ ∧ J [] wr) ∨ (p = .string ⟨#[99, 111, 109]⟩ ∧ J [tAcom] wr) ∨ (p = .string ⟨#[]⟩ ∧ J [tAcom, tCom] wr))
    (fun p wr => msr p)
  case atStart => exact .inl ⟨rfl, h0⟩
  case round =>
    rcases hrel with ⟨rfl, hJs⟩ | ⟨rfl, hJs⟩ | ⟨rfl, hJs⟩
    · obtain ⟨fn, tmps, assign, body, hy, hR⟩ := hY [] tAcom wr hJs (by simp)
      have hy' : (Instr.yield l #[.string ⟨#[97, 46, 99, 111, 109]⟩]).run Tryz.prog wr = .ok (.round l fn tmps assign body) wr := hy
      gi_wp2
      refine hR.mono ?_
      rintro e W3 (⟨rfl, hJ3, _⟩ | ⟨rfl, hJx3⟩)
      · gi_wp2_with (gi_at_call 80; refine (callsIn_wide.2 (cut_found _)).mono ?_; rintro e w4 ⟨rfl, k4, rfl⟩)
        go_roundw
        case rel => exact .inr (.inl ⟨rfl, hJd _ _ _ hJ3⟩)
        case measure => decide
      · gi_wp2
        refine bodyPost_ret (results_none rfl _ _ _) rfl ?_
        exact ⟨⟨_, rfl⟩, .inr ⟨_, .inl rfl, hJx3⟩⟩
    · obtain ⟨fn, tmps, assign, body, hy, hR⟩ := hY [tAcom] tCom wr hJs (by simp)
      have hy' : (Instr.yield l #[.string ⟨#[99, 111, 109]⟩]).run Tryz.prog wr = .ok (.round l fn tmps assign body) wr := hy
      gi_wp2
      refine hR.mono ?_
      rintro e W3 (⟨rfl, hJ3, _⟩ | ⟨rfl, hJx3⟩)
      · gi_wp2_with (gi_at_call 80; refine (callsIn_wide.2 (cut_none _)).mono ?_; rintro e w4 ⟨rfl, k4, rfl⟩)
        go_roundw
        case rel => exact .inr (.inr ⟨rfl, hJd _ _ _ hJ3⟩)
        case measure => decide
      · gi_wp2
        refine bodyPost_ret (results_none rfl _ _ _) rfl ?_
        exact ⟨⟨_, rfl⟩, .inr ⟨_, .inr rfl, hJx3⟩⟩
    · gi_wp2
      go_end0
      exact ⟨⟨_, rfl⟩, .inl ⟨_, rfl, hJs⟩⟩
theorem Up1_stops (n : Nat) (hn : 1 ≤ n) (Bn : Nat) (w : World) (hBn : Bn < w.heap.size) (hc : w.cell? ⟨Bn, 0, none⟩ = some (.string ⟨#[97, 46, 99, 111, 109]⟩)) :
    SeqStopsK Fence.wide n Tryz.prog 90 #[.pointer (some ⟨Bn, 0, none⟩)] (fun x : ByteArray => #[Value.string x]) (fun _ _ => True) (fun ys => ys = [tAcom, tCom]) (fun pre => pre = [tAcom] ∨ pre = [tAcom, tCom]) 2 w :=
  fun l J Jx W hW hJ _ hY h0 => Up1_in n hn l Bn J Jx W hJ hY ((hW.cell (p := ⟨Bn, 0, none⟩) hBn).trans hc) h0
theorem Up_any (s : ByteArray) (w : World) : Calls Tryz.prog 79 #[.string s] w fun e w' => e = .returned (.func (.func 90) #[] #[.pointer (some ⟨w.heap.size, 0, none⟩)]) ∧ w' = w.alloc (.cells #[.string s] 9) := by
  go_enter Tryz.func79, Tryz.ntmps79
  go_wp2
  go_ret
  exact ⟨rfl, rfl⟩
theorem cell_of_box_l {W : World} {B : Nat} {v : Value} {t : TypeId} (h : W.heap[B]? = some (.cells #[v] t (0, 0))) : W.cell? ⟨B, 0, none⟩ = some v ∧ W.frozen? ⟨B, 0, none⟩ = false := by
  constructor <;> simp [World.cell?, World.frozen?, h]
theorem cell_new_l (W : World) (v : Value) (t : TypeId) : (W.alloc (.cells #[v] t)).cell? ⟨W.heap.size, 0, none⟩ = some v ∧ (W.alloc (.cells #[v] t)).frozen? ⟨W.heap.size, 0, none⟩ = false :=
  cell_of_box_l (World.alloc_heap_new W _)
theorem cell_alloc_l {W : World} {a : Addr} {v : Value} (o : Obj) (h : W.cell? a = some v) : (W.alloc o).cell? a = some v := cell_kept h (World.grownBy_alloc W o none) (fun r e => by cases e)
theorem frozen_alloc_l {W : World} {a : Addr} {v : Value} (o : Obj) (h : W.cell? a = some v) (hf : W.frozen? a = false) : (W.alloc o).frozen? a = false := (frozen_kept h (World.grownBy_alloc W o none) (fun r e => by cases e)).trans hf
theorem of_toList {x : ByteArray} (h : x.toList = (⟨#[99, 111, 109]⟩ : ByteArray).toList) : x = tCom := ints_inj ((toList_ints x tCom).1 h)
set_option maxRecDepth 100000 in
set_option maxHeartbeats 4000000 in
theorem Under_in (w : World) : CallsIn Fence.wide 5 Tryz.prog 61 #[.string ⟨#[97, 46, 99, 111, 109]⟩, .string ⟨#[99, 111, 109]⟩] w fun e W' => e = .returned (.bool true) ∧ Below w.heap.size w W' := by
  have hf79 : Fence.wide.fn 79 := trivial
  have hts : ((⟨#[99, 111, 109]⟩ : ByteArray).toList == (⟨#[]⟩ : ByteArray).toList) = false := by decide +kernel
  refine callsIn_of_wp_marks Tryz.func61 rfl trivial ?_ rfl
  simp only [Tryz.ntmps61, List.size_toArray, List.length_cons, List.length_nil, Nat.reduceAdd, Nat.reduceSub, Array.replicate_succ, Array.replicate_zero, List.push_toArray, List.append_toArray, List.nil_append, List.cons_append]
  gi_wp2_with (gi_at_call 79; refine (callsIn_wide.2 (Up_any ⟨#[97, 46, 99, 111, 109]⟩ _)).mono ?_; rintro e w' ⟨rfl, rfl⟩)
  have c0 := cell_new_l w (.string ⟨#[99, 111, 109]⟩) 9
  have c1 := cell_new_l (w.alloc (.cells #[.string ⟨#[99, 111, 109]⟩] 9)) (.bool false) 4
  have c2 := cell_new_l ((w.alloc (.cells #[.string ⟨#[99, 111, 109]⟩] 9)).alloc (.cells #[.bool false] 4)) (.string ⟨#[97, 46, 99, 111, 109]⟩) 9
  simp only [World.size_alloc] at c1 c2
  have hB0 : Below w.heap.size w (((w.alloc (.cells #[.string ⟨#[99, 111, 109]⟩] 9)).alloc (.cells #[.bool false] 4)).alloc (.cells #[.string ⟨#[97, 46, 99, 111, 109]⟩] 9)) := (((Below.refl _ w).alloc (Nat.le_refl _) _).alloc (by simp) _).alloc (by simp; omega) _
  refine wpIn_rangeFunc_ownF rfl (by omega) (gf := 90) (lb := #[.pointer (some ⟨w.heap.size + 1 + 1, 0, none⟩)]) rfl trivial (enters_of Tryz.func90 (by kernel_rfl) rfl)
    (Up1_stops (5 - 1) (by omega) (w.heap.size + 1 + 1) _ (by simp) c2.1) (fun _ _ => trivial) (fun _ _ _ _ _ _ _ _ => trivial) (Below.refl _ _) (fun _ => rfl)
    (fun pre W => ((∀ y ∈ pre, y ≠ tCom) ∧ W.cell? ⟨w.heap.size, 0, none⟩ = some (.string ⟨#[99, 111, 109]⟩) ∧ W.cell? ⟨w.heap.size + 1, 0, none⟩ = some (.bool false) ∧ W.frozen? ⟨w.heap.size + 1, 0, none⟩ = false) ∧ Below w.heap.size w W)
    (fun c pre W => (c = .ret ∧ tCom ∈ pre ∧ W.cell? ⟨w.heap.size + 1, 0, none⟩ = some (.bool true)) ∧ Below w.heap.size w W)
    (OwnFrom.and (Own.from (fun s A B row hs hg hr => ⟨hs.1, cell_kept hs.2.1 hg hr, cell_kept hs.2.2.1 hg hr, (frozen_kept hs.2.2.1 hg hr).trans hs.2.2.2⟩) _) (ownFrom_below (Nat.le_refl _) (by simp; omega)))
    (fun c => OwnFrom.and (Own.from (fun s A B row hs hg hr => ⟨hs.1, hs.2.1, cell_kept hs.2.2 hg hr⟩) _) (ownFrom_below (Nat.le_refl _) (by simp; omega)))
    ⟨⟨by simp, cell_alloc_l _ (cell_alloc_l _ c0.1), cell_alloc_l _ c1.1, frozen_alloc_l _ c1.1 c1.2⟩, hB0⟩
    (fun x => { tmps := #[.string ⟨#[97, 46, 99, 111, 109]⟩, .string ⟨#[99, 111, 109]⟩, undef, .pointer (some ⟨w.heap.size, 0, none⟩), .pointer (some ⟨w.heap.size + 1, 0, none⟩), .string x, .string ⟨#[99, 111, 109]⟩, .bool false, .string ⟨#[97, 46, 99, 111, 109]⟩, .func (.func 90) #[] #[.pointer (some ⟨w.heap.size + 1 + 1, 0, none⟩)], .string x, undef, undef, undef], defers := [] }) ?assign ?body ?done ?stop
  case assign =>
    intro l x W K hK
    gi_wp2
    exact hK
  case body =>
    rintro l pre x W ⟨⟨hp, hcw, hcr, hfr⟩, hB⟩ _
    gi_wp2
    · rename_i hx
      obtain rfl : x = tCom := of_toList (by simpa using hx)
      exact ⟨KeepsOthers.setCell _ _ _, ⟨rfl, List.mem_append.2 (.inr (by simp)), World.cell?_setCell_same' _ _ _ (by rw [hcr]; rfl)⟩, hB.setCell (p := ⟨w.heap.size + 1, 0, none⟩) (by simp) _⟩
    · rename_i hx
      exact ⟨KeepsOthers.refl _, trivial, ⟨fun y hy => (List.mem_append.1 hy).elim (hp y) (fun e e' => by simp at e; subst e; subst e'; simp [tCom] at hx), hcw, hcr, hfr⟩, hB⟩
  case done =>
    rintro D ys W hD rfl ⟨⟨hne, _, hcr, hfr⟩, hB⟩ hK
    exact absurd rfl (hne tCom (by simp))
  case stop =>
    rintro D c pre W hD hpre ⟨⟨rfl, hin, hcr⟩, hB⟩ hK
    gi_wp2
    refine ⟨by simp, .inl ⟨_, _, rfl, run_takeDeferred hK, ?_⟩⟩
    have hc5 := cell_kept hcr (grownBy_putObj' _ D (.deferred none)) (fun r e => by cases e; exact ⟨_, hK, rfl⟩)
    refine ⟨.bool true, ?_, rfl, hB.trans (belowK_b (w := w) (Nat.le_refl _) W D _ _ (by simp at hD; omega) hK rfl rfl)⟩
    simp [results, Tryz.f61, go_sem, hc5]
theorem Under_any (w : World) : Calls Tryz.prog 61 #[.string ⟨#[97, 46, 99, 111, 109]⟩, .string ⟨#[99, 111, 109]⟩] w fun e W' => e = .returned (.bool true) ∧ Hid (Below w.heap.size w W') := callsIn_wide.1 (Under_in w)
end Go.Proofs.YtngokkebjadoiaaGreatDoor

