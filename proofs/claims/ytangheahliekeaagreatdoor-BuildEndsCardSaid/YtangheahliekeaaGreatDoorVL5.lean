/- What the claim uses of the text L5. -/
import Derived.Test.YtangheahliekeaaGreatDoorVL4
import Derived.Test.YtangheahliekeaaGreatDoorVLB
set_option linter.unusedVariables false
set_option linter.unusedSimpArgs false
namespace Go.Proofs.YtangheahliekeaaGreatDoor
open Go.RowKit Go.PlainAid
open Go.Proofs.YtangheahliekeaaGreatDoorW.PrintWords hiding bt
open Go.Proofs.YtangheahliekeaaGreatDoorW.PrintMore

theorem R_box {n lim : Nat} {ok : Nat → Prop} {x : JV} {cs : List Value} (w : World) (h : (jd n).M w lim ok x cs) (hlim : lim ≤ w.heap.size) :
    (jd n).R 34 (w.alloc (.cells cs.toArray 34)) lim (fun k => ok k ∨ w.heap.size ≤ k) (.slice (some ⟨w.heap.size, 0, none⟩) 1 1) [x] := by
  have hrep : Reps ((jd n).M w lim ok) (jd n).sz [x] cs := by
    have := (Reps.none ((jd n).M w lim ok) (jd n).sz).snoc h ((jd n).K_len ((jd n).K_of_M h))
    simpa using this
  refine ⟨fun k hk => ?_, cs, ?_, ?_⟩
  · have : w.heap.size = k := by simpa [Value.ownBlock] using hk
    exact .inr (by omega)
  · have h2 := World.ownsRow_lit (base := lim) (e := 34) (size := (jd n).sz) w cs.toArray 1 hlim (by decide) (by simpa using hrep.1)
    simpa using h2
  · refine hrep.imp_ (fun q c hq => (jd n).M_mono (fun k hk => ⟨.inl hk.1, fun he => ?_⟩) (Kd.M_below ((jd n).M_bound hq) (below_alloc (Below.refl _ _) _)))
    have h3 : k = w.heap.size := by simpa [Value.ownBlock] using he
    have := hk.2.2.1
    omega

/-- A record's link. -/
def lnk (at_ : ByteArray) : List (ByteArray × JV) := [(⟨#[118, 97, 108, 117, 101]⟩, ⟨4, at_, [], []⟩), (⟨#[114, 101, 108]⟩, ⟨4, ⟨#[115, 101, 108, 102]⟩, [], []⟩), (⟨#[104, 114, 101, 102]⟩, ⟨4, at_, [], []⟩), (⟨#[116, 121, 112, 101]⟩, ⟨4, ⟨#[97, 112, 112, 108, 105, 99, 97, 116, 105, 111, 110, 47, 114, 100, 97, 112, 43, 106, 115, 111, 110]⟩, [], []⟩)]
/-- What common's boxes hold. -/
structure Cm (N lim lo m b B : Nat) (base : ByteArray) (xs : List (ByteArray × JV)) (v : Value) (q : QV) (w : World) : Prop where
  bu : Bu N lim lo m b base xs v w
  ptr : Row 67 B #[.pointer (some ⟨b, 0, none⟩)] w
  com : Row 53 (B + 1) #[.slice none 0 0, .slice none 0 0, .slice none 0 0] w
  qry : QAt (B + 1 + 1) q none 0 w
theorem Cm.below {N lim lo m b B : Nat} {base : ByteArray} {xs : List (ByteArray × JV)} {v : Value} {q : QV} {w w' : World} (h : Cm N lim lo m b B base xs v q w) (hb : Below w.heap.size w w') : Cm N lim lo m b B base xs v q w' :=
  ⟨h.bu.below hb, h.ptr.below hb, h.com.below hb, h.qry.below hb⟩
theorem Cm.under {N lim lo m b B L : Nat} {base : ByteArray} {xs : List (ByteArray × JV)} {v : Value} {q : QV} {w w' : World} (h : Cm N lim lo m b B base xs v q w) (hb : Below L w w') (h1 : b < L) (h2 : m ≤ L) (h3 : B + 1 + 1 < L) : Cm N lim lo m b B base xs v q w' :=
  ⟨h.bu.under hb h1 h2, (hb.block B (by omega)).trans h.ptr, (hb.block (B + 1) (by omega)).trans h.com, (hb.block (B + 1 + 1) h3).trans h.qry⟩
theorem Cm.cells {N lim lo m b B : Nat} {base : ByteArray} {xs : List (ByteArray × JV)} {v : Value} {q : QV} {w : World} (h : Cm N lim lo m b B base xs v q w) :
    w.cell? ⟨B, 0, none⟩ = some (.pointer (some ⟨b, 0, none⟩)) ∧ w.cell? ⟨B + 1, 0, none⟩ = some (.slice none 0 0) ∧ w.cell? ⟨B + 1, 1, none⟩ = some (.slice none 0 0) ∧ w.cell? ⟨B + 1, 2, none⟩ = some (.slice none 0 0) :=
  ⟨h.ptr.cell 0 _ rfl, h.com.cell 0 _ rfl, h.com.cell 1 _ rfl, h.com.cell 2 _ rfl⟩

/-- Where the walk stands. -/
structure Sg (E : Nat → Addr) (N lim lo m b : Nat) (base : ByteArray) (xs : List (ByteArray × JV)) (v : Value) (q : QV) (w wi : World) : Prop where
  cm : Cm N lim lo m b w.heap.size base xs v q wi
  bel : Below w.heap.size w wi
  fine : Fine E q none wi
  sz : w.heap.size + 3 ≤ wi.heap.size
theorem Sg.step {E : Nat → Addr} {N lim lo m b : Nat} {base : ByteArray} {xs : List (ByteArray × JV)} {v : Value} {q : QV} {w wi w' : World} (h : Sg E N lim lo m b base xs v q w wi) (hb : Below wi.heap.size wi w') : Sg E N lim lo m b base xs v q w w' :=
  ⟨h.cm.below hb, below_then h.bel (by have := h.sz; omega) hb, h.fine.below hb, Nat.le_trans h.sz hb.size⟩

set_option maxHeartbeats 8000000 in
set_option maxRecDepth 100000 in
theorem common_none {E : Nat → Addr} {lim lo m b : Nat} {base : ByteArray} {xs : List (ByteArray × JV)} {v : Value} (q : QV) (w : World) (hB : Bu 3 lim lo m b base xs v w) (hl : xs.length ≤ 900) (hbs : base.size ≤ 1000) (hf : Fine E q none w) (hk : q.kind = 6) (hok : qOk q = true)
    (at_ : ByteArray) (hat : at_ = base ++ (⟨#[97, 117, 116, 110, 117, 109, 47]⟩ ++ strOfNums (digs 10 q.num.toNat))) :
    Calls Tryz.prog 27 #[.pointer (some ⟨b, 0, none⟩), .agg #[.slice none 0 0, .slice none 0 0, .slice none 0 0], .agg (qryA q none 0)] w fun e w' => e = .returned (.pointer (some ⟨b, 0, none⟩)) ∧ ∃ v', Hid (Bu 3 lim lo w'.heap.size b base (xs ++ [(⟨#[108, 105, 110, 107, 115]⟩, ⟨5, ⟨#[]⟩, [⟨6, ⟨#[]⟩, [], lnk at_⟩], []⟩)]) v' w') ∧ Hid (Below lim w w') ∧ Hid (Fr b v w w') := by
  obtain ⟨wa, hwa⟩ : ∃ wa, wa = ((w.alloc (.cells #[.pointer (some ⟨b, 0, none⟩)] 67)).alloc (.cells #[.slice none 0 0, .slice none 0 0, .slice none 0 0] 53)).alloc (.cells (qryA q none 0) 100) := ⟨_, rfl⟩
  have hba : Below w.heap.size w wa := by rw [hwa]; exact (((Below.refl _ _).alloc (Nat.le_refl _) _).alloc (by simp) _).alloc (by simp; omega) _
  have hcm : Cm 3 lim lo m b w.heap.size base xs v q wa := by
    refine ⟨hB.below hba, ?_, ?_, ?_⟩
    · rw [hwa]; exact ((Row.new w _ _ rfl).old _).old _
    · rw [hwa]; exact (Row.new _ _ _ (by simp)).old _
    · rw [hwa]; exact Row.new _ _ _ (by simp)
  have hsa : wa.heap.size = w.heap.size + 3 := by rw [hwa]; simp
  have HLM : Hid (lim ≤ w.heap.size) := Nat.le_trans hB.low (Nat.le_of_lt hB.lt)
  have HBL := Lib.hid hB.lt
  have HTM := Lib.hid hB.top
  have HS := Lib.hid (Sg.mk (E := E) hcm hba (hf.below hba) (Nat.le_of_eq hsa.symm))
  have HL := Lib.hid hl
  have HBS := Lib.hid hbs
  clear hB hl hbs hf hba hcm hsa
  go_enter Tryz.func27, Tryz.ntmps27
  go_upto_region 1 with (fail)
  rw [← hwa]
  clear hwa
  have HSd := Lib.hid (HS.out.step (below_drew (Below.refl _ _)))
  refine wp_region_noPanic ?_
  refine wp_region_held_drew (S := (fun W => W.cell? ⟨w.heap.size, 0, none⟩ = some (.pointer (some ⟨b, 0, none⟩)) ∧ W.cell? ⟨w.heap.size + 1, 0, none⟩ = some (.slice none 0 0) ∧ W.cell? ⟨w.heap.size + 1, 1, none⟩ = some (.slice none 0 0) ∧ W.cell? ⟨w.heap.size + 1, 2, none⟩ = some (.slice none 0 0))) (by kernel_rfl) ?_ (fun hHeld => ?_)
  · exact HS.out.cm.cells
  refine wpAnyH_take (i := 0) (v := ?_) rfl (by kernel_rfl) (by kernel_rfl) (by kernel_rfl) (fun _ _ _ h => h) (Or.inl ⟨by rfl, ?_⟩) (by assumption) ?_
  rotate_left
  · intro W hSw
    (try dsimp only at hSw)
    go_simp
    (try with_reducible rfl)
  (try simp only [List.getElem_toArray, List.getElem_cons_succ, List.getElem_cons_zero, Act.put, List.setIfInBounds_toArray, List.set_cons_zero, List.set_cons_succ])
  refine wpAnyH_take (i := 1) (v := ?_) rfl (by kernel_rfl) (by kernel_rfl) (by kernel_rfl) (fun _ _ _ h => h) (Or.inl ⟨by rfl, ?_⟩) (by assumption) ?_
  rotate_left
  · intro W hSw
    (try dsimp only at hSw)
    go_simp
    (try with_reducible rfl)
  (try simp only [List.getElem_toArray, List.getElem_cons_succ, List.getElem_cons_zero, Act.put, List.setIfInBounds_toArray, List.set_cons_zero, List.set_cons_succ])
  refine wpAnyH_take (i := 2) (v := ?_) rfl (by kernel_rfl) (by kernel_rfl) (by kernel_rfl) (fun _ _ _ h => h) (Or.inl ⟨by rfl, ?_⟩) (by assumption) ?_
  rotate_left
  · intro W hSw
    (try dsimp only at hSw)
    go_simp
    (try with_reducible rfl)
  (try simp only [List.getElem_toArray, List.getElem_cons_succ, List.getElem_cons_zero, Act.put, List.setIfInBounds_toArray, List.set_cons_zero, List.set_cons_succ])
  refine wpAnyH_ready (rs := [3]) (by kernel_rfl) (by simp) ?_
  refine AllReadyH.cons (o := _) rfl (fun K hK => ?_) AllReadyH.nil
  go_simp
  go_at_call 39
  refine (each_int _ _).mono ?_
  rintro e wc1 ⟨rfl, hbc⟩
  have HS1 := Lib.hid (HSd.out.step hbc.out)
  clear hbc
  (try dsimp only)
  refine hK.out _ _ HS1.out.cm.cells (fun hHeld => ?_)
  clear hK K
  (try simp only [List.getElem_toArray, List.getElem_cons_succ, List.getElem_cons_zero, Act.put, List.setIfInBounds_toArray, List.set_cons_zero, List.set_cons_succ])
  refine wpAnyH_ready (rs := [4]) (by kernel_rfl) (by simp) ?_
  refine AllReadyH.cons (o := _) rfl (fun K hK => ?_) AllReadyH.nil
  go_simp
  go_at_call 32
  refine (some_none _ _ _).mono ?_
  rintro e wc2 ⟨rfl, hbc⟩
  have HS2 := Lib.hid (HS1.out.step hbc.out)
  clear hbc
  (try dsimp only)
  refine hK.out _ _ HS2.out.cm.cells (fun hHeld => ?_)
  clear hK K
  (try simp only [List.getElem_toArray, List.getElem_cons_succ, List.getElem_cons_zero, Act.put, List.setIfInBounds_toArray, List.set_cons_zero, List.set_cons_succ])
  refine wpAnyH_done (by kernel_rfl) (NoPanic.normal ?_) _
  go_upto_region 2 with (fail)
  have HSd2 := Lib.hid (HS2.out.step (below_drew (Below.refl _ _)))
  refine wp_region_noPanic ?_
  refine wp_region_held_drew (S := (fun W => W.cell? ⟨w.heap.size, 0, none⟩ = some (.pointer (some ⟨b, 0, none⟩)) ∧ W.cell? ⟨w.heap.size + 1, 0, none⟩ = some (.slice none 0 0) ∧ W.cell? ⟨w.heap.size + 1, 1, none⟩ = some (.slice none 0 0) ∧ W.cell? ⟨w.heap.size + 1, 2, none⟩ = some (.slice none 0 0))) (by kernel_rfl) ?_ (fun hHeld => ?_)
  · exact HS2.out.cm.cells
  refine wpAnyH_take (i := 0) (v := ?_) rfl (by kernel_rfl) (by kernel_rfl) (by kernel_rfl) (fun _ _ _ h => h) (Or.inl ⟨by rfl, ?_⟩) (by assumption) ?_
  rotate_left
  · intro W hSw
    (try dsimp only at hSw)
    go_simp
    (try with_reducible rfl)
  (try simp only [List.getElem_toArray, List.getElem_cons_succ, List.getElem_cons_zero, Act.put, List.setIfInBounds_toArray, List.set_cons_zero, List.set_cons_succ])
  refine wpAnyH_take (i := 1) (v := ?_) rfl (by kernel_rfl) (by kernel_rfl) (by kernel_rfl) (fun _ _ _ h => h) (Or.inl ⟨by rfl, ?_⟩) (by assumption) ?_
  rotate_left
  · intro W hSw
    (try dsimp only at hSw)
    go_simp
    (try with_reducible rfl)
  (try simp only [List.getElem_toArray, List.getElem_cons_succ, List.getElem_cons_zero, Act.put, List.setIfInBounds_toArray, List.set_cons_zero, List.set_cons_succ])
  refine wpAnyH_take (i := 2) (v := ?_) rfl (by kernel_rfl) (by kernel_rfl) (by kernel_rfl) (fun _ _ _ h => h) (Or.inl ⟨by rfl, ?_⟩) (by assumption) ?_
  rotate_left
  · intro W hSw
    (try dsimp only at hSw)
    go_simp
    (try with_reducible rfl)
  (try simp only [List.getElem_toArray, List.getElem_cons_succ, List.getElem_cons_zero, Act.put, List.setIfInBounds_toArray, List.set_cons_zero, List.set_cons_succ])
  refine wpAnyH_take (i := 3) (v := ?_) rfl (by kernel_rfl) (by kernel_rfl) (by kernel_rfl) (fun _ _ _ h => h) (Or.inl ⟨by rfl, ?_⟩) (by assumption) ?_
  rotate_left
  · intro W hSw
    (try dsimp only at hSw)
    go_simp
    (try with_reducible rfl)
  (try simp only [List.getElem_toArray, List.getElem_cons_succ, List.getElem_cons_zero, Act.put, List.setIfInBounds_toArray, List.set_cons_zero, List.set_cons_succ])
  refine wpAnyH_ready (rs := [4]) (by kernel_rfl) (by simp) ?_
  refine AllReadyH.cons (o := _) rfl (fun K hK => ?_) AllReadyH.nil
  go_simp
  go_at_call 42
  refine (each_event _ _).mono ?_
  rintro e wc3 ⟨rfl, hbc⟩
  have HS3 := Lib.hid (HSd2.out.step hbc.out)
  clear hbc
  (try dsimp only)
  refine hK.out _ _ HS3.out.cm.cells (fun hHeld => ?_)
  clear hK K
  (try simp only [List.getElem_toArray, List.getElem_cons_succ, List.getElem_cons_zero, Act.put, List.setIfInBounds_toArray, List.set_cons_zero, List.set_cons_succ])
  refine wpAnyH_ready (rs := [5]) (by kernel_rfl) (by simp) ?_
  refine AllReadyH.cons (o := _) rfl (fun K hK => ?_) AllReadyH.nil
  go_simp
  go_at_call 32
  refine (some_none _ _ _).mono ?_
  rintro e wc4 ⟨rfl, hbc⟩
  have HS4 := Lib.hid (HS3.out.step hbc.out)
  clear hbc
  (try dsimp only)
  refine hK.out _ _ HS4.out.cm.cells (fun hHeld => ?_)
  clear hK K
  (try simp only [List.getElem_toArray, List.getElem_cons_succ, List.getElem_cons_zero, Act.put, List.setIfInBounds_toArray, List.set_cons_zero, List.set_cons_succ])
  refine wpAnyH_done (by kernel_rfl) (NoPanic.normal ?_) _
  go_upto_region 3 with (fail)
  have HSd3 := Lib.hid (HS4.out.step (below_drew (Below.refl _ _)))
  refine wp_region_noPanic ?_
  refine wp_region_held_drew (S := (fun W => W.cell? ⟨w.heap.size, 0, none⟩ = some (.pointer (some ⟨b, 0, none⟩)) ∧ W.cell? ⟨w.heap.size + 1, 0, none⟩ = some (.slice none 0 0) ∧ W.cell? ⟨w.heap.size + 1, 1, none⟩ = some (.slice none 0 0) ∧ W.cell? ⟨w.heap.size + 1, 2, none⟩ = some (.slice none 0 0))) (by kernel_rfl) ?_ (fun hHeld => ?_)
  · exact HS4.out.cm.cells
  refine wpAnyH_take (i := 0) (v := ?_) rfl (by kernel_rfl) (by kernel_rfl) (by kernel_rfl) (fun _ _ _ h => h) (Or.inl ⟨by rfl, ?_⟩) (by assumption) ?_
  rotate_left
  · intro W hSw
    (try dsimp only at hSw)
    go_simp
    (try with_reducible rfl)
  (try simp only [List.getElem_toArray, List.getElem_cons_succ, List.getElem_cons_zero, Act.put, List.setIfInBounds_toArray, List.set_cons_zero, List.set_cons_succ])
  refine wpAnyH_take (i := 1) (v := ?_) rfl (by kernel_rfl) (by kernel_rfl) (by kernel_rfl) (fun _ _ _ h => h) (Or.inl ⟨by rfl, ?_⟩) (by assumption) ?_
  rotate_left
  · intro W hSw
    (try dsimp only at hSw)
    go_simp
    (try with_reducible rfl)
  (try simp only [List.getElem_toArray, List.getElem_cons_succ, List.getElem_cons_zero, Act.put, List.setIfInBounds_toArray, List.set_cons_zero, List.set_cons_succ])
  refine wpAnyH_take (i := 2) (v := ?_) rfl (by kernel_rfl) (by kernel_rfl) (by kernel_rfl) (fun _ _ _ h => h) (Or.inl ⟨by rfl, ?_⟩) (by assumption) ?_
  rotate_left
  · intro W hSw
    (try dsimp only at hSw)
    go_simp
    (try with_reducible rfl)
  (try simp only [List.getElem_toArray, List.getElem_cons_succ, List.getElem_cons_zero, Act.put, List.setIfInBounds_toArray, List.set_cons_zero, List.set_cons_succ])
  refine wpAnyH_take (i := 3) (v := ?_) rfl (by kernel_rfl) (by kernel_rfl) (by kernel_rfl) (fun _ _ _ h => h) (Or.inl ⟨by rfl, ?_⟩) (by assumption) ?_
  rotate_left
  · intro W hSw
    (try dsimp only at hSw)
    go_simp
    (try with_reducible rfl)
  (try simp only [List.getElem_toArray, List.getElem_cons_succ, List.getElem_cons_zero, Act.put, List.setIfInBounds_toArray, List.set_cons_zero, List.set_cons_succ])
  refine wpAnyH_ready (rs := [4]) (by kernel_rfl) (by simp) ?_
  refine AllReadyH.cons (o := _) rfl (fun K hK => ?_) AllReadyH.nil
  go_simp
  go_at_call 46
  refine (each_role _ _).mono ?_
  rintro e wc5 ⟨rfl, hbc⟩
  have HS5 := Lib.hid (HSd3.out.step hbc.out)
  clear hbc
  (try dsimp only)
  refine hK.out _ _ HS5.out.cm.cells (fun hHeld => ?_)
  clear hK K
  (try simp only [List.getElem_toArray, List.getElem_cons_succ, List.getElem_cons_zero, Act.put, List.setIfInBounds_toArray, List.set_cons_zero, List.set_cons_succ])
  refine wpAnyH_ready (rs := [5]) (by kernel_rfl) (by simp) ?_
  refine AllReadyH.cons (o := _) rfl (fun K hK => ?_) AllReadyH.nil
  go_simp
  go_at_call 32
  refine (some_none _ _ _).mono ?_
  rintro e wc6 ⟨rfl, hbc⟩
  have HS6 := Lib.hid (HS5.out.step hbc.out)
  clear hbc
  (try dsimp only)
  refine hK.out _ _ HS6.out.cm.cells (fun hHeld => ?_)
  clear hK K
  (try simp only [List.getElem_toArray, List.getElem_cons_succ, List.getElem_cons_zero, Act.put, List.setIfInBounds_toArray, List.set_cons_zero, List.set_cons_succ])
  refine wpAnyH_done (by kernel_rfl) (NoPanic.normal ?_) _
  go_upto_region 4 with (fail)
  have HSd4 := Lib.hid (HS6.out.step (below_drew (Below.refl _ _)))
  have HP : Hid (∀ W, Fine E q none W → Calls Tryz.prog 49 #[.agg (qryA q none 0)] W fun e w' => e = .returned (.string (⟨#[97, 117, 116, 110, 117, 109, 47]⟩ ++ strOfNums (digs 10 q.num.toNat))) ∧ Hid (Below W.heap.size W w')) := fun W hW => Path_k6 q none 0 W hW hk hok
  have hnum := HS6.out.fine.num
  obtain ⟨pt, hpt⟩ : ∃ pt, (⟨#[97, 117, 116, 110, 117, 109, 47]⟩ ++ strOfNums (digs 10 q.num.toNat) : ByteArray) = pt := ⟨_, rfl⟩
  have hps : pt.size ≤ 100 := by
    have := digs_len 10 (by omega) 9 q.num.toNat (by omega)
    rw [← hpt, ByteArray.size_append, nums_size]
    have h7 : (⟨#[97, 117, 116, 110, 117, 109, 47]⟩ : ByteArray).size = 7 := rfl
    omega
  rw [hpt] at HP hat
  clear hnum hpt hk hok
  subst hat
  have o1 : (9223372036854775807 < base.size + pt.size) = False := by have := HBS.out; rw [eq_iff_iff]; constructor; omega; intro h; exact h.elim
  have hu24 := Tryz.underlying100
  have hi24 : (Tryz.prog.info? 100).map (·.size) = some (qryA q none 0).toList.length := by rw [Array.length_toList, qryA_size]; exact info_qry
  have hrk : Hid (∀ W, Sg E 3 lim lo m b base xs v q w W → W.cell? ⟨w.heap.size, 0, none⟩ = some (.pointer (some ⟨b, 0, none⟩)) ∧ W.cell? ⟨b, 15, none⟩ = some (.string base) ∧ W.rangeAt (w.heap.size + 1 + 1) 0 (qryA q none 0).toList) := fun W hW => ⟨hW.cm.cells.1, hW.cm.bu.row.cell 15 _ rfl, fun j u hu => by
    have := Row.cell hW.cm.qry j u (by rwa [Array.getElem?_toList] at hu)
    rw [Nat.zero_add]; exact this⟩
  refine wp_region_noPanic ?_
  refine wp_region_held_drew (S := (fun W => W.cell? ⟨w.heap.size, 0, none⟩ = some (.pointer (some ⟨b, 0, none⟩)) ∧ W.cell? ⟨b, 15, none⟩ = some (.string base) ∧ W.rangeAt (w.heap.size + 1 + 1) 0 (qryA q none 0).toList)) (by kernel_rfl) ?_ (fun hHeld => ?_)
  · exact hrk.out _ HSd4.out
  refine wpAnyH_take (i := 0) (v := ?_) rfl (by kernel_rfl) (by kernel_rfl) (by kernel_rfl) (fun _ _ _ h => h) (Or.inl ⟨by rfl, ?_⟩) (by assumption) ?_
  rotate_left
  · intro W hSw
    (try dsimp only at hSw)
    go_simp
    (try with_reducible rfl)
  (try simp only [List.getElem_toArray, List.getElem_cons_succ, List.getElem_cons_zero, Act.put, List.setIfInBounds_toArray, List.set_cons_zero, List.set_cons_succ])
  refine wpAnyH_take (i := 1) (v := ?_) rfl (by kernel_rfl) (by kernel_rfl) (by kernel_rfl) (fun _ _ _ h => h) (Or.inl ⟨by rfl, ?_⟩) (by assumption) ?_
  rotate_left
  · intro W hSw
    (try dsimp only at hSw)
    go_simp
    (try with_reducible rfl)
  (try simp only [List.getElem_toArray, List.getElem_cons_succ, List.getElem_cons_zero, Act.put, List.setIfInBounds_toArray, List.set_cons_zero, List.set_cons_succ])
  refine wpAnyH_take (i := 2) (v := ?_) rfl (by kernel_rfl) (by kernel_rfl) (by kernel_rfl) (fun _ _ _ h => h) (Or.inl ⟨by rfl, ?_⟩) (by assumption) ?_
  rotate_left
  · intro W hSw
    (try dsimp only at hSw)
    go_simp
    (try with_reducible rfl)
  (try simp only [List.getElem_toArray, List.getElem_cons_succ, List.getElem_cons_zero, Act.put, List.setIfInBounds_toArray, List.set_cons_zero, List.set_cons_succ])
  refine wpAnyH_take (i := 3) (v := ?_) rfl (by kernel_rfl) (by kernel_rfl) (by kernel_rfl) (fun _ _ _ h => h) (Or.inl ⟨by rfl, ?_⟩) (by assumption) ?_
  rotate_left
  · intro W hSw
    (try dsimp only at hSw)
    go_simp
    (try with_reducible rfl)
  (try simp only [List.getElem_toArray, List.getElem_cons_succ, List.getElem_cons_zero, Act.put, List.setIfInBounds_toArray, List.set_cons_zero, List.set_cons_succ])
  refine wpAnyH_take (i := 4) rfl (by kernel_rfl) (by kernel_rfl) (by kernel_rfl) (fun _ _ _ h => h) (yieldsIf_load_mid (by rfl) _ _ rfl (w.heap.size + 1 + 1) 0 rfl (qryA q none 0).toList _ (fun W h => h.2.2) hu24 rfl hi24) (by assumption) ?_
  (try simp only [List.getElem_toArray, List.getElem_cons_succ, List.getElem_cons_zero, Act.put, List.setIfInBounds_toArray, List.set_cons_zero, List.set_cons_succ])
  refine wpAnyH_ready (rs := [5]) (by kernel_rfl) (by simp) ?_
  refine AllReadyH.cons (o := _) rfl (fun K hK => ?_) AllReadyH.nil
  go_simp
  go_at_call 49
  refine (show Calls _ _ #[.agg (qryA q none 0)] _ _ from HP.out _ HSd4.out.fine).mono ?_
  rintro e w4 ⟨rfl, hbc⟩
  have HS4 := Lib.hid (HSd4.out.step hbc.out)
  clear hbc
  (try dsimp only)
  refine hK.out _ _ (hrk.out _ HS4.out) (fun hHeld => ?_)
  clear hK K
  (try simp only [List.getElem_toArray, List.getElem_cons_succ, List.getElem_cons_zero, Act.put, List.setIfInBounds_toArray, List.set_cons_zero, List.set_cons_succ])
  refine wpAnyH_take (i := 6) (v := ?_) rfl (by kernel_rfl) (by kernel_rfl) (by kernel_rfl) (fun _ _ _ h => h) (Or.inl ⟨by rfl, ?_⟩) (by assumption) ?_
  rotate_left
  · intro W hSw
    (try dsimp only at hSw)
    go_simp
    (try with_reducible rfl)
  (try simp only [List.getElem_toArray, List.getElem_cons_succ, List.getElem_cons_zero, Act.put, List.setIfInBounds_toArray, List.set_cons_zero, List.set_cons_succ])
  refine wpAnyH_take (i := 7) (v := ?_) rfl (by kernel_rfl) (by kernel_rfl) (by kernel_rfl) (fun _ _ _ h => h) (Or.inl ⟨by rfl, ?_⟩) (by assumption) ?_
  rotate_left
  · intro W hSw
    (try dsimp only at hSw)
    go_simp
    (try with_reducible rfl)
  (try simp only [List.getElem_toArray, List.getElem_cons_succ, List.getElem_cons_zero, Act.put, List.setIfInBounds_toArray, List.set_cons_zero, List.set_cons_succ])
  refine wpAnyH_done (by kernel_rfl) (NoPanic.normal ?_) _
  have c0 : w4.cell? ⟨w.heap.size, 0, none⟩ = some (.pointer (some ⟨b, 0, none⟩)) := HS4.out.cm.cells.1
  clear o1 hu24 hi24 hHeld
  go_wp2_with fail
  refine (part_any 1 _ HS4.out.cm.bu.row).mono ?_
  rintro e w5 ⟨b1, rfl, HL5, HB5⟩
  go_wp2_with fail
  refine (text_any (n := 0) ⟨#[118, 97, 108, 117, 101]⟩ (base ++ pt) _ HL5.out (by simp)).mono ?_
  rintro e w6 ⟨rfl, v6, HL6, hb6, _⟩
  have HB6 := Lib.hid (HB5.out.trans hb6.out)
  clear hb6 HB5 HL5
  go_wp2_with fail
  refine (text_any (n := 0) ⟨#[114, 101, 108]⟩ ⟨#[115, 101, 108, 102]⟩ _ HL6.out (by simp)).mono ?_
  rintro e w7 ⟨rfl, v7, HL7, hb7, _⟩
  have HB7 := Lib.hid (HB6.out.trans hb7.out)
  clear hb7 HB6 HL6
  go_wp2_with fail
  refine (text_any (n := 0) ⟨#[104, 114, 101, 102]⟩ (base ++ pt) _ HL7.out (by simp)).mono ?_
  rintro e w8 ⟨rfl, v8, HL8, hb8, _⟩
  have HB8 := Lib.hid (HB7.out.trans hb8.out)
  clear hb8 HB7 HL7
  go_wp2_with fail
  refine (text_any (n := 0) ⟨#[116, 121, 112, 101]⟩ ⟨#[97, 112, 112, 108, 105, 99, 97, 116, 105, 111, 110, 47, 114, 100, 97, 112, 43, 106, 115, 111, 110]⟩ _ HL8.out (by simp)).mono ?_
  rintro e w9 ⟨rfl, v9, HL9, hb9, _⟩
  have HB9 := Lib.hid (HB8.out.trans hb9.out)
  clear hb9 HB8 HL8 c0
  have HS9 := Lib.hid (HS4.out.step HB9.out)
  go_upto_region 6 with (fail)
  have HSd9 := Lib.hid (HS9.out.step (below_drew (Below.refl _ _)))
  have HLd9 : Hid (Bu 1 w4.heap.size w4.heap.size w9.heap.size b1 base (lnk (base ++ pt)) v9 w9.drew) := HL9.out.below (below_drew (Below.refl _ _))
  have HML : Hid (m ≤ w4.heap.size) := by have := HS4.out.sz; have := HTM.out; show _ ≤ _; omega
  have HLL : Hid (lo ≤ w4.heap.size) := HS4.out.cm.bu.bas
  have HLw : Hid (w4.heap.size ≤ w9.drew.heap.size) := HB9.out.size
  refine wp_region_noPanic ?_
  refine wp_region_held_drew (S := (fun W => W.cell? ⟨w.heap.size, 0, none⟩ = some (.pointer (some ⟨b, 0, none⟩)))) (by kernel_rfl) ?_ (fun hHeld => ?_)
  · exact HS9.out.cm.cells.1
  refine wpAnyH_take (i := 0) (v := ?_) rfl (by kernel_rfl) (by kernel_rfl) (by kernel_rfl) (fun _ _ _ h => h) (Or.inl ⟨by rfl, ?_⟩) (by assumption) ?_
  rotate_left
  · intro W hSw
    (try dsimp only at hSw)
    go_simp
    (try with_reducible rfl)
  (try simp only [List.getElem_toArray, List.getElem_cons_succ, List.getElem_cons_zero, Act.put, List.setIfInBounds_toArray, List.set_cons_zero, List.set_cons_succ])
  refine wpAnyH_take (i := 1) (v := ?_) rfl (by kernel_rfl) (by kernel_rfl) (by kernel_rfl) (fun _ _ _ h => h) (Or.inl ⟨by rfl, ?_⟩) (by assumption) ?_
  rotate_left
  · intro W hSw
    (try dsimp only at hSw)
    go_simp
    (try with_reducible rfl)
  (try simp only [List.getElem_toArray, List.getElem_cons_succ, List.getElem_cons_zero, Act.put, List.setIfInBounds_toArray, List.set_cons_zero, List.set_cons_succ])
  refine wpAnyH_ready (rs := [2]) (by kernel_rfl) (by simp) ?_
  refine AllReadyH.cons (o := _) rfl (fun K hK => ?_) AllReadyH.nil
  go_simp
  go_at_call 28
  refine (value_own w9.drew HLd9.out (by show 4 ≤ 1000; omega)).mono ?_
  rintro e w10 ⟨v10, rfl, hR10, hb10⟩
  have HO10 := Lib.hid (jd_objM hR10.out)
  obtain ⟨A10, c10, rfl⟩ := Kd.R_slice hR10.out
  have HS10 := Lib.hid (HSd9.out.step hb10.out)
  have HLw10 : Hid (w4.heap.size ≤ w10.heap.size) := Nat.le_trans HLw.out hb10.out.size
  clear hR10 hb10
  (try dsimp only)
  refine hK.out _ _ HS10.out.cm.cells.1 (fun hHeld => ?_)
  clear hK K
  (try simp only [List.getElem_toArray, List.getElem_cons_succ, List.getElem_cons_zero, Act.put, List.setIfInBounds_toArray, List.set_cons_zero, List.set_cons_succ])
  refine wpAnyH_ready (rs := [3]) (by kernel_rfl) (by simp) ?_
  refine AllReadyH.cons (o := _) rfl (fun K hK => ?_) AllReadyH.nil
  have HX11 := Lib.hid (R_box w10 HO10.out HLw10.out)
  have HS11 := Lib.hid (HS10.out.step ((Below.refl _ w10).alloc (Nat.le_refl _) (.cells #[.int .i64 6, .string ⟨#[]⟩, .slice none 0 0, .slice A10 (lnk (base ++ pt)).length c10] 34)))
  have HLw11 : Hid (w4.heap.size ≤ (w10.alloc (.cells #[.int .i64 6, .string ⟨#[]⟩, .slice none 0 0, .slice A10 (lnk (base ++ pt)).length c10] 34)).heap.size) := by have := HLw10.out; show _ ≤ _; simp; omega
  go_simp
  refine hK.out _ _ HS11.out.cm.cells.1 (fun hHeld => ?_)
  clear hK K
  (try simp only [List.getElem_toArray, List.getElem_cons_succ, List.getElem_cons_zero, Act.put, List.setIfInBounds_toArray, List.set_cons_zero, List.set_cons_succ])
  refine wpAnyH_ready (rs := [4]) (by kernel_rfl) (by simp) ?_
  refine AllReadyH.cons (o := _) rfl (fun K hK => ?_) AllReadyH.nil
  go_simp
  go_at_call 22
  refine (List_own (.slice (some ⟨w10.heap.size, 0, none⟩) 1 1) _ HX11.out HLw11.out (by simp)).mono ?_
  rintro e w12 ⟨v12, rfl, hR12, hb12⟩
  have HO12 := Lib.hid (jd_listM hR12.out)
  obtain ⟨A12, c12, rfl⟩ := Kd.R_slice hR12.out
  have HS12 := Lib.hid (HS11.out.step hb12.out)
  clear hR12 hb12 HX11
  (try dsimp only)
  refine hK.out _ _ HS12.out.cm.cells.1 (fun hHeld => ?_)
  clear hK K
  (try simp only [List.getElem_toArray, List.getElem_cons_succ, List.getElem_cons_zero, Act.put, List.setIfInBounds_toArray, List.set_cons_zero, List.set_cons_succ])
  refine wpAnyH_ready (rs := [5]) (by kernel_rfl) (by simp) ?_
  refine AllReadyH.cons (o := _) rfl (fun K hK => ?_) AllReadyH.nil
  have HM12 := Lib.hid ((jd 3).M_lower HLL.out ((jd 3).M_bound HO12.out))
  go_simp
  go_at_call 26
  refine (put_any ⟨#[108, 105, 110, 107, 115]⟩ _ _ _ w12 HS12.out.cm.bu HM12.out (fun k hk => Nat.le_trans HML.out hk.2.1) (by have := HL.out; omega)).mono ?_
  rintro e w13 ⟨rfl, v13, hU13, hb13, hf13⟩
  have HC13 : Hid (w13.cell? ⟨w.heap.size, 0, none⟩ = some (.pointer (some ⟨b, 0, none⟩))) := (Fr.row hf13.out HS12.out.cm.bu HS12.out.cm.ptr (by decide) (by have := HBL.out; omega)).cell 0 _ rfl
  have HW13 := Lib.hid ((below_less HS12.out.bel HLM.out).trans hb13.out)
  have HF13 := Lib.hid (Fr.below HS12.out.bel hf13.out)
  clear hb13 hf13
  (try dsimp only)
  refine hK.out _ _ HC13.out (fun hHeld => ?_)
  clear hK K
  (try simp only [List.getElem_toArray, List.getElem_cons_succ, List.getElem_cons_zero, Act.put, List.setIfInBounds_toArray, List.set_cons_zero, List.set_cons_succ])
  refine wpAnyH_take (i := 6) (v := ?_) rfl (by kernel_rfl) (by kernel_rfl) (by kernel_rfl) (fun _ _ _ h => h) (Or.inl ⟨by rfl, ?_⟩) (by assumption) ?_
  rotate_left
  · intro W hSw
    (try dsimp only at hSw)
    go_simp
    (try with_reducible rfl)
  (try simp only [List.getElem_toArray, List.getElem_cons_succ, List.getElem_cons_zero, Act.put, List.setIfInBounds_toArray, List.set_cons_zero, List.set_cons_succ])
  refine wpAnyH_done (by kernel_rfl) (NoPanic.normal ?_) _
  go_wp2_with fail
  go_ret
  exact ⟨rfl, v13, hU13, HW13.out, HF13.out⟩
end Go.Proofs.YtangheahliekeaaGreatDoor

