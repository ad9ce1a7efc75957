/- What the claim uses of the text B3. -/
import Derived.Test.YtpdpgppaoipnlaaDoorUB2
import Derived.Test.YtpdpgppaoipnlaaDoorUQ4
import Derived.Test.YtpdpgppaoipnlaaDoorUK5
set_option linter.unusedVariables false
set_option linter.unusedSimpArgs false
namespace Go.Proofs.YtpdpgppaoipnlaaDoor
open Go.RowKit Go.PlainAid
open Go.Proofs.YtpdpgppaoipnlaaDoorW.PrintWords hiding bt
open Go.Proofs.YtpdpgppaoipnlaaDoorW.PrintMore

def Rg (l : List Int) : Prop := ∀ c ∈ l, (0 : Int) ≤ c ∧ c ≤ 255
theorem rg_cons {c : Int} {l : List Int} (h : 0 ≤ c ∧ c ≤ 255) (hl : Rg l) : Rg (c :: l) := fun d hd => by
  rcases List.mem_cons.1 hd with rfl | hd
  · exact h
  · exact hl d hd
theorem rg_nil : Rg [] := fun _ h => absurd h (by simp)
theorem rg_app {l m : List Int} (h : Rg l) (hm : Rg m) : Rg (l ++ m) := fun d hd => by
  rcases List.mem_append.1 hd with hd | hd
  · exact h d hd
  · exact hm d hd
theorem sp_range {l : List Int} (h : Sp l) : Rg l := fun d hd => by
  have := h d hd
  unfold isSp at this
  simp at this
  omega
mutual
theorem wv_range : ∀ (x : JV) (a : List Int), WV x a → Rg a
  | ⟨k, t, l, m⟩, a, h => by
    have hl := wl_range l
    have hm := wm_range m
    rw [WV] at h
    by_cases h5 : k = 5
    · rw [if_pos h5] at h
      obtain ⟨p, r, rfl, hp, hr⟩ := h
      exact rg_cons (by omega) (rg_app (sp_range hp) (hl _ hr))
    · rw [if_neg h5] at h
      by_cases h6 : k = 6
      · rw [if_pos h6] at h
        obtain ⟨p, r, rfl, hp, hr⟩ := h
        exact rg_cons (by omega) (rg_app (sp_range hp) (hm _ hr))
      · rw [if_neg h6] at h
        subst h
        exact putV_range _
theorem wl_range : ∀ (l : List JV) (r : List Int), WL l r → Rg r
  | [], r, h => by
    rw [WL] at h
    subst h
    exact rg_cons (by omega) rg_nil
  | x :: l, r, h => by
    have h1 := wv_range x
    have h2 := wl_range l
    rw [WL] at h
    obtain ⟨b, p, q, rfl, hb, hp, hq⟩ := h
    refine rg_app (h1 _ hb) (rg_app (sp_range hp) ?_)
    rcases hq with ⟨_, rfl⟩ | ⟨_, p', r', rfl, hp', hr'⟩
    · exact rg_cons (by omega) rg_nil
    · exact rg_cons (by omega) (rg_app (sp_range hp') (h2 _ hr'))
theorem wm_range : ∀ (l : List (ByteArray × JV)) (r : List Int), WM l r → Rg r
  | [], r, h => by
    rw [WM] at h
    subst h
    exact rg_cons (by omega) rg_nil
  | (n, x) :: l, r, h => by
    have h1 := wv_range x
    have h2 := wm_range l
    rw [WM] at h
    obtain ⟨p1, p2, b, p, q, rfl, hp1, hp2, hb, hp, hq⟩ := h
    refine rg_app (quo_range n) (rg_app (sp_range hp1) (rg_cons (by omega) (rg_app (sp_range hp2) (rg_app (h1 _ hb) (rg_app (sp_range hp) ?_)))))
    rcases hq with ⟨_, rfl⟩ | ⟨_, p', r', rfl, hp', hr'⟩
    · exact rg_cons (by omega) rg_nil
    · exact rg_cons (by omega) (rg_app (sp_range hp') (h2 _ hr'))
end
theorem add_block (ad : Addr) (k : Nat) : (ad.add k).block = ad.block := by unfold Addr.add; split <;> rfl
theorem str_off {w : World} {N : Nat} {k : Int} {T : TypeId} {p : Addr} {t : ByteArray} (hN : w.heap[N]? = some (.cells #[.int .i64 k] T (0, 0))) (h : w.cell? p = some (.string t)) : p.block ≠ N := by
  rintro rfl
  obtain ⟨b, o, s⟩ := p
  simp only [World.cell?, hN] at h
  cases o with
  | zero => simp at h
  | succ o => simp at h
theorem grow_row {α : Type} {R R' : α → List Value → Prop} {sz : Nat} {w w' : World} {N : Nat} {A : Option Addr} {n : Nat} {ps : List α} {k : Int} {T : TypeId} (h : ReadsRow R sz w A n ps) (hg : w.grownBy w' (some N)) (hN : w.heap[N]? = some (.cells #[.int .i64 k] T (0, 0)))
    (hR : ∀ (p : α) (c : List Value), R p c → R' p c) (hst : ∀ (p : α) (c : List Value), R p c → ∃ (i : Nat) (t : ByteArray), c[i]? = some (Value.string t)) : ReadsRow R' sz w' A n ps :=
  ⟨h.1, h.2.1, fun hn => by
    obtain ⟨ad, e, hc⟩ := h.2.2 hn
    refine ⟨ad, e, fun j p hj => ?_⟩
    obtain ⟨c, hs, hr, hcell⟩ := hc j p hj
    obtain ⟨i, t, hi⟩ := hst p c hr
    have hb := str_off hN (hcell i _ hi)
    rw [add_block] at hb
    exact ⟨c, hs, hR _ _ hr, fun i' u hu => cell_grow (hcell i' u hu) hg (by rw [add_block]; exact hb)⟩⟩
theorem Row.grow {t : TypeId} {c : Nat} {cs : Array Value} {w w' : World} {N : Nat} (h : Row t c cs w) (hg : w.grownBy w' (some N)) (hne : c ≠ N) : Row t c cs w' := (hg.block c h.lt (by simpa using hne)).trans h
theorem jd_grow {w w' : World} {N : Nat} {k : Int} {T : TypeId} (hg : w.grownBy w' (some N)) (hN : w.heap[N]? = some (.cells #[.int .i64 k] T (0, 0))) : ∀ (n : Nat) (x : JV) (cs : List Value), (jd n).K w x cs → (jd n).K w' x cs
  | 0, _, _, h => (jd_zero h).elim
  | n + 1, x, cs, h => by
    obtain ⟨A2, c2, A3, c3, rfl, l2, g2, l3, g3⟩ := jd_open h
    refine jd_mk n w' x l2 (grow_row g2 hg hN (fun p c hp => jd_grow hg hN n p c hp) (fun p c hp => ?_)) l3 (grow_row g3 hg hN (fun p c hp => ?_) (fun p c hp => ?_))
    · obtain ⟨m, rfl⟩ := jd_cells hp
      obtain ⟨_, _, _, _, rfl, _⟩ := jd_open hp
      exact ⟨1, _, rfl⟩
    · obtain ⟨_, c2', rfl, rfl, hK⟩ := hp
      exact ⟨_, c2', rfl, rfl, jd_grow hg hN n _ _ hK⟩
    · obtain ⟨_, c2', rfl, rfl, hK⟩ := hp
      exact ⟨0, _, rfl⟩

theorem row_born {w w' : World} {N : Nat} {cs : Array Value} {t : TypeId} (hg : (w.alloc (.cells cs t)).grownBy w' (some N)) (hN : N < w.heap.size) : Row t w.heap.size cs w' := Row.grow (Row.new w t cs rfl) hg (Nat.ne_of_gt hN)
theorem row_born_d {w w' : World} {N : Nat} {cs : Array Value} {t : TypeId} (hg : (w.alloc (.cells cs t)).drew.grownBy w' (some N)) (hN : N < w.heap.size) : Row t w.heap.size cs w' := Row.grow (w := (w.alloc (.cells cs t)).drew) (Row.new w t cs rfl) hg (Nat.ne_of_gt hN)
theorem cell_drew {w : World} {a : Addr} {v : Value} (h : w.cell? a = some v) : w.drew.cell? a = some v := h
theorem cell_old {w : World} {a : Addr} {v : Value} (h : w.cell? a = some v) (o : Obj) : (w.alloc o).cell? a = some v := cell_below ((Below.refl _ _).alloc (Nat.le_refl _) _) h
theorem cell_far4 {w : World} {b o c : Nat} {v x0 x1 x2 x3 : Value} (h : w.cell? ⟨b, o, none⟩ = some v) (hn : b ≠ c) : ((((w.setCell ⟨c, 0, none⟩ x0).setCell ⟨c, 1, none⟩ x1).setCell ⟨c, 2, none⟩ x2).setCell ⟨c, 3, none⟩ x3).cell? ⟨b, o, none⟩ = some v := by
  have hne : ∀ j, (⟨c, j, none⟩ : Addr) ≠ ⟨b, o, none⟩ := fun j e => hn (congrArg Addr.block e).symm
  rw [World.cell?_setCell_other _ _ _ _ (hne 3), World.cell?_setCell_other _ _ _ _ (hne 2), World.cell?_setCell_other _ _ _ _ (hne 1), World.cell?_setCell_other _ _ _ _ (hne 0)]
  exact h

/-- Read, of a text that is read: what it made is new. -/
theorem Read_okM {E : Nat → Addr} (s : ByteArray) (x : JV) (p : Int) (w : World) (hl : s.size ≤ 100000) (hs : Sents E w) (h : readV s = (x, p, 0)) :
    Calls Tryd.prog 13 #[.string s] w fun e w' => ∃ A2 c2 A3 c3, e = .returned (.tuple #[.agg #[.int .i64 x.kind, .string x.text, .slice A2 x.list.length c2, .slice A3 x.mem.length c3], .nilIface]) ∧ Hid ((jd 32).M w' w.heap.size (fun k => w.heap.size ≤ k) x (jcells x A2 c2 A3 c3)) ∧ Hid (Below w.heap.size w w') := by
  refine (Read_any s w hl hs).mono ?_
  intro e w' ht
  rw [h] at ht
  obtain ⟨cs, v, rfl, hM, hE, hB⟩ := ht
  dsimp only at hM hE
  rw [if_pos rfl] at hM hE
  obtain ⟨A2, c2, A3, c3, rfl⟩ := jdM_cells hM
  obtain ⟨_, rfl⟩ := Or.resolve_right hE (fun h => absurd h.1 (show ¬ (1 ≤ (0 : Int)) by omega))
  exact ⟨A2, c2, A3, c3, rfl, hM, hB⟩
theorem set4_block (w : World) (N : Nat) (x0 x1 x2 x3 : Value) (k : Nat) (h : k ≠ N) : ((((w.setCell ⟨N, 0, none⟩ x0).setCell ⟨N, 1, none⟩ x1).setCell ⟨N, 2, none⟩ x2).setCell ⟨N, 3, none⟩ x3).heap[k]? = w.heap[k]? :=
  (Below.heap_setCell _ ⟨N, 3, none⟩ _ k h).trans ((Below.heap_setCell _ ⟨N, 2, none⟩ _ k h).trans ((Below.heap_setCell _ ⟨N, 1, none⟩ _ k h).trans (Below.heap_setCell _ ⟨N, 0, none⟩ _ k h)))
/-- Behind the store into b: its row, what has grown since an older world, and what was made since another. -/
theorem fin_set {w7 w9 : World} {p bd N : Nat} {t : TypeId} {a0 a1 a2 a3 : Value} (x0 x1 x2 x3 : Value) (H : Row t N #[a0, a1, a2, a3] w9) (hg : w7.grownBy w9 (some p)) (hN : w7.heap.size ≤ N) (hb : N < bd) :
    ∃ Wz, ((((w9.setCell ⟨N, 0, none⟩ x0).setCell ⟨N, 1, none⟩ x1).setCell ⟨N, 2, none⟩ x2).setCell ⟨N, 3, none⟩ x3) = Wz ∧ Row t N #[x0, x1, x2, x3] Wz ∧ w7.grownBy Wz (some p) ∧ ∀ k, bd ≤ k → k < w9.heap.size → Wz.heap[k]? = w9.heap[k]? :=
  ⟨_, rfl, (((H.setCell 0 x0).setCell 1 x1).setCell 2 x2).setCell 3 x3,
    ⟨hg.os, hg.tape, hg.output, by simp [World.setCell]; exact hg.size, fun k hk hr => (set4_block _ _ _ _ _ _ k (by omega)).trans (hg.block k hk hr)⟩,
    fun k hk _ => set4_block _ _ _ _ _ _ k (by omega)⟩
theorem fin_new {w7 w9 : World} {p : Nat} (t : TypeId) (x0 x1 x2 x3 : Value) (hg : w7.grownBy w9 (some p)) :
    ∃ Wz, w9.alloc (.cells #[x0, x1, x2, x3] t) = Wz ∧ Row t w9.heap.size #[x0, x1, x2, x3] Wz ∧ w7.grownBy Wz (some p) ∧ ∀ k, 0 ≤ k → k < w9.heap.size → Wz.heap[k]? = w9.heap[k]? :=
  ⟨_, rfl, Row.new _ _ _ rfl, hg.trans (World.grownBy_alloc _ _ _), fun k _ hk => Go.heap_alloc_old _ _ hk⟩
theorem born_lt {w w' : World} {N : Nat} {cs : Array Value} {t : TypeId} (hg : (w.alloc (.cells cs t)).grownBy w' (some N)) : w.heap.size < (w.alloc (.cells cs t)).heap.size := by simp

set_option maxHeartbeats 8000000 in
set_option maxRecDepth 100000 in
theorem jsonreadBack_walk {E : Nat → Addr} [AllE E] (n : Nat) (a : JV) (cs : List Value) (S : Option Addr) (sc : Nat) (xs : List Int) (w : World) (hs : Sents E w) (hka : (jd n).K w a cs) (hza : szV reachBytes a) (hx : (Kd.int .u8).C w S xs.length xs) (hc : xs.length ≤ sc) (hwf : ∀ x ∈ xs, 0 ≤ x ∧ x ≤ 255) :
    Calls Tryd.prog 11 #[.agg cs.toArray, .slice S xs.length sc] w fun e w' => e = .returned (.bool true) ∧ Below w.heap.size w w' := by
  have hmf : ∀ (fn : Fn) (first cap : Array Value) (w : World), (Instr.makeFunc fn first cap).run Tryd.prog w = .ok (.func fn first cap) w := fun _ _ _ _ => rfl
  have HKa := Lib.hid hka
  have HS := Lib.hid hs
  have HZa := Lib.hid hza
  have HX := Lib.hid hx
  have HW := Lib.hid hwf
  have s1 : xs.length ≤ 9223372036854775807 := hx.2.1
  obtain ⟨n', e1⟩ := jd_cells hka
  subst e1
  obtain ⟨A2, c2, A3, c3, rfl, l2, g2, l3, g3⟩ := jd_open hka
  clear hka hs hza hx hwf l2 g2 l3 g3
  change Calls _ _ #[.agg #[.int .i64 a.kind, .string a.text, .slice A2 a.list.length c2, .slice A3 a.mem.length c3], _] _ _
  have HB0 : Hid (Below w.heap.size w ((w.alloc (.cells #[.int .i64 a.kind, .string a.text, .slice A2 a.list.length c2, .slice A3 a.mem.length c3] 26)).alloc (.cells #[.slice S xs.length sc] 65))) := by show Below _ _ _; go_grown
  have HRa : Hid (Row 26 w.heap.size #[.int .i64 a.kind, .string a.text, .slice A2 a.list.length c2, .slice A3 a.mem.length c3] ((w.alloc (.cells #[.int .i64 a.kind, .string a.text, .slice A2 a.list.length c2, .slice A3 a.mem.length c3] 26)).alloc (.cells #[.slice S xs.length sc] 65))) := (Row.new w _ _ rfl).old _
  have HSp : Hid (((w.alloc (.cells #[.int .i64 a.kind, .string a.text, .slice A2 a.list.length c2, .slice A3 a.mem.length c3] 26)).alloc (.cells #[.slice S xs.length sc] 65)).heap[w.heap.size + 1]? = some (.cells #[.slice S xs.length sc] 65 (0, 0))) := by
    show _ = _
    have := Go.heap_alloc_new (w.alloc (.cells #[.int .i64 a.kind, .string a.text, .slice A2 a.list.length c2, .slice A3 a.mem.length c3] 26)) (.cells #[.slice S xs.length sc] 65)
    simpa using this
  go_enter Tryd.func11, Tryd.ntmps11
  go_wp2_with fail
  obtain ⟨w0, hw0⟩ : ∃ w0, ((w.alloc (.cells #[.int .i64 a.kind, .string a.text, .slice A2 a.list.length c2, .slice A3 a.mem.length c3] 26)).alloc (.cells #[.slice S xs.length sc] 65)) = w0 := ⟨_, rfl⟩
  rw [hw0] at HB0 HRa HSp ⊢
  clear hw0
  have HSL : Hid (w.heap.size + 1 < w0.heap.size) := (Array.getElem?_eq_some_iff.1 HSp.out).1
  refine (awake13 (E := E) _ (HS.out.below HB0.out)).mono ?_
  rintro e w1 ⟨rfl, H1⟩
  have c0 := (HRa.out.below H1.out).cell 0 _ rfl
  have c1 := (HRa.out.below H1.out).cell 1 _ rfl
  have c2' := (HRa.out.below H1.out).cell 2 _ rfl
  have c3' := (HRa.out.below H1.out).cell 3 _ rfl
  go_wp2_with fail
  refine (Great_any _ a _ _ ((jd _).K_below (below_then HB0.out HB0.out.size H1.out) HKa.out) HZa.out).mono ?_
  rintro e w2 ⟨g, rfl, hg, h2⟩
  have H2 := Lib.hid (below_then H1.out H1.out.size h2.out)
  clear h2 H1 c0 c1 c2' c3'
  have HSp2 : Hid (w2.heap[w.heap.size + 1]? = some (.cells #[.slice S xs.length sc] 65 (0, 0))) := (H2.out.block _ HSL.out).trans HSp.out
  have sp0 : w2.cell? ⟨w.heap.size + 1, 0, none⟩ = some (.slice S xs.length sc) := by rw [Lib.cell_of_heap HSp2.out]; rfl
  by_cases hg1 : g = true
  · subst hg1
    go_wp2_with fail
    go_ret
    exact ⟨rfl, below_then HB0.out HB0.out.size H2.out⟩
  have hg2 : g = false := by cases g <;> simp_all
  subst hg2
  by_cases hsz : 20 < xs.length
  · have hsd : decide ((20 : Int) < (xs.length : Int)) = true := decide_eq_true (by omega)
    have hsd2 : decide (20 < xs.length) = true := decide_eq_true hsz
    go_wp2_with fail
    go_ret
    exact ⟨rfl, below_then HB0.out HB0.out.size H2.out⟩
  have hsd : decide ((20 : Int) < (xs.length : Int)) = false := decide_eq_false (by omega)
  have hsd2 : decide (20 < xs.length) = false := decide_eq_false hsz
  have HXZ : Hid (xs.length ≤ 20) := by show _ ≤ _; omega
  have HTa : Hid (totV a ≤ 2000) := by show _ ≤ _; have := hg.out rfl; omega
  have c0 := (HRa.out.below H2.out).cell 0 _ rfl
  have c1 := (HRa.out.below H2.out).cell 1 _ rfl
  have c2' := (HRa.out.below H2.out).cell 2 _ rfl
  have c3' := (HRa.out.below H2.out).cell 3 _ rfl
  clear hg1 hsz hg
  go_wp2_with fail
  refine (Check_tells (E := E) _ a _ _ (HS.out.below (below_then HB0.out HB0.out.size H2.out)) ((jd _).K_below (below_then HB0.out HB0.out.size H2.out) HKa.out) (by have := HTa.out; omega)).mono ?_
  rintro e w4 ⟨⟨hoa, rfl⟩ | ⟨_, q, rfl⟩, h2⟩
  rotate_left
  · have H4 := Lib.hid (below_then H2.out H2.out.size h2.out)
    go_wp2_with fail
    go_ret
    exact ⟨rfl, below_then HB0.out HB0.out.size H4.out⟩
  have H4 := Lib.hid (below_then H2.out H2.out.size h2.out)
  have HOa := Lib.hid hoa
  clear h2 H2 HSp2 sp0 c0 c1 c2' c3' hoa
  have HSp4 : Hid (w4.heap[w.heap.size + 1]? = some (.cells #[.slice S xs.length sc] 65 (0, 0))) := (H4.out.block _ HSL.out).trans HSp.out
  have HR4 := Lib.hid ((HRa.out.below H4.out).old (.cells #[.int .i64 0] 3))
  have HB4 : Hid (Below w.heap.size w (w4.alloc (.cells #[.int .i64 0] 3))) := (below_then HB0.out HB0.out.size H4.out).alloc (below_then HB0.out HB0.out.size H4.out).size _
  have HPD : Hid (Pd w4.heap.size (w.heap.size + 1) 0 (.slice S xs.length sc) (w4.alloc (.cells #[.int .i64 0] 3))) := ⟨Go.heap_alloc_new _ _, (Go.heap_alloc_old _ _ (by have := HSL.out; have := H4.out.size; omega)).trans HSp4.out⟩
  have HWA : Hid (w.heap.size + 1 < w4.heap.size) := by show _ < _; have := HSL.out; have := H4.out.size; omega
  have c0 := HR4.out.cell 0 _ rfl
  have c1 := HR4.out.cell 1 _ rfl
  have c2' := HR4.out.cell 2 _ rfl
  have c3' := HR4.out.cell 3 _ rfl
  obtain ⟨p2, hr2⟩ := readV_put HOa.out (by have := HTa.out; omega)
  have HR2 := Lib.hid hr2
  have HLn : Hid ((strOfNums (putV a)).size ≤ 100000) := by
    show _ ≤ _
    rw [strOfNums_size]
    have := putV_len a
    have := HTa.out
    omega
  clear hr2
  go_wp2_with fail
  refine (Text_ok (E := E) _ a _ _ (HS.out.below HB4.out) ((jd _).K_below HB4.out HKa.out) (by have := HTa.out; omega) HOa.out).mono ?_
  rintro e w5 ⟨rfl, h5⟩
  have HR5 := Lib.hid (HR4.out.below h5.out)
  have HB5 := Lib.hid (below_then HB4.out HB4.out.size h5.out)
  have HP5 := Lib.hid (HPD.out.below h5.out)
  clear h5 HR4 HB4 HPD c0 c1 c2' c3' HSp4
  obtain ⟨t, HTx⟩ : ∃ t, Hid (strOfNums (putV a) = t) := ⟨_, rfl⟩
  rw [HTx.out] at HR2 HLn ⊢
  go_wp2_with fail
  refine (Read_ok (E := E) t a p2 _ HLn.out (HS.out.below HB5.out) HR2.out).mono ?_
  rintro e w6 ⟨X2, x2, X3, x3, rfl, HM, h6⟩
  have HR6 := Lib.hid (HR5.out.below h6.out)
  have HB6 := Lib.hid (below_then HB5.out HB5.out.size h6.out)
  have HP6 := Lib.hid (HP5.out.below h6.out)
  have H1 : Hid (Row 26 w6.heap.size (leafA 0 ⟨#[]⟩) (w6.alloc (.cells (leafA 0 ⟨#[]⟩) 26))) := Row.new w6 _ _ rfl
  have H1B := Lib.hid ((Below.refl w6.heap.size w6).alloc (Nat.le_refl _) (.cells (leafA 0 ⟨#[]⟩) 26))
  clear h6 HR5 HB5 HP5
  go_wp2_with (first | ((with_reducible refine wpl_put_val (cs := ?_) H1.out rfl ?hx ?hy ?hs ?hz ?_); (case hx => rfl); (case hy => rfl); (case hs => rfl); (case hz => (simp [Value.oneCell']; done)); intro w7 hr7 hw7; have HQ7 := Lib.hid hr7; have hb7 := hw7.below H1B.out (Nat.le_refl _); have HR7 := Lib.hid (HR6.out.below hb7); have HP7 := Lib.hid (HP6.out.below hb7); have HM7 := Lib.hid ((jd 32).K_below hb7 HM.out); have HB7 := Lib.hid (below_then HB6.out HB6.out.size hb7); have HN7 := Lib.hid (show w6.heap.size < w7.heap.size from hr7.lt); clear hr7 hw7 hb7; have c0 : w7.cell? ⟨w.heap.size, 0, none⟩ = some (.int .i64 a.kind) := HR7.out.cell 0 _ rfl; have c1 : w7.cell? ⟨w.heap.size, 1, none⟩ = some (.string a.text) := HR7.out.cell 1 _ rfl; have c2' : w7.cell? ⟨w.heap.size, 2, none⟩ = some (.slice A2 a.list.length c2) := HR7.out.cell 2 _ rfl; have c3' : w7.cell? ⟨w.heap.size, 3, none⟩ = some (.slice A3 a.mem.length c3) := HR7.out.cell 3 _ rfl))
  have ha : w.heap.size ≤ w4.heap.size := by have := HWA.out; omega
  have HPADC : Hid (PadC w4.heap.size (w.heap.size + 1) (.slice S xs.length sc) w) := fun k W hk hb hp => pad_any w4.heap.size (w.heap.size + 1) S sc xs k w W HX.out hc HXZ.out HW.out hk hb ha hp
  have HPDD := Lib.hid (padded_all E w4.heap.size (w.heap.size + 1) (.slice S xs.length sc) w HS.out ha HPADC.out (n' + 1))
  have hb := HB7
  have hp := HP7
  have HV := HR7
  have HA := HQ7
  have HK := HM7
  have hn6 : w4.heap.size < w6.heap.size := HP6.out.lt.1
  have hwa : w.heap.size + 1 < w4.heap.size := HWA.out
  clear HP6 HR6 HB6 HM H1 H1B
  have HG := Lib.hid (grown_below (Below.refl w7.heap.size w7) (some w4.heap.size))
  have ST0 := Lib.hid trivial
  go_region_held3 (fun W => W.cell? ⟨w.heap.size, 0, none⟩ = some (.int .i64 a.kind) ∧ W.cell? ⟨w.heap.size, 1, none⟩ = some (.string a.text) ∧ W.cell? ⟨w.heap.size, 2, none⟩ = some (.slice A2 a.list.length c2) ∧ W.cell? ⟨w.heap.size, 3, none⟩ = some (.slice A3 a.mem.length c3))
    (first | with_reducible exact ⟨v0, v1, v2, v3⟩ | with_reducible exact ⟨cell_old v0 _, cell_old v1 _, cell_old v2 _, cell_old v3 _⟩ | with_reducible exact ⟨cell_far4 v0 HVN.out, cell_far4 v1 HVN.out, cell_far4 v2 HVN.out, cell_far4 v3 HVN.out⟩ | with_reducible exact ⟨cell_drew c0, cell_drew c1, cell_drew c2', cell_drew c3'⟩ | with_reducible exact ⟨cell_old (cell_drew c0) _, cell_old (cell_drew c1) _, cell_old (cell_drew c2') _, cell_old (cell_drew c3') _⟩ | with_reducible exact ⟨cell_drew (cell_old c0 _), cell_drew (cell_old c1 _), cell_drew (cell_old c2' _), cell_drew (cell_old c3' _)⟩)
    (first
              | (go_simp; go_at_call 45; have st := ST0.out; refine (HPADC.out 0 _ (by first | omega | (have := HKX.out; have := HTa.out; omega)) (by first | exact hb.out | exact below_drew hb.out | exact hb.out.alloc hb.out.size _ | exact below_drew (hb.out.alloc hb.out.size _)) (by first | exact hp.out | exact ⟨hp.out.p, hp.out.t⟩ | exact ⟨(hp.out.alloc _).p, (hp.out.alloc _).t⟩)).mono ?_; rintro e w9 ⟨y0, rfl, HY0, hy0, hp1, hg1⟩; obtain ⟨yS0, HYS0⟩ : ∃ yS, Hid (strOfNums y0 = yS) := ⟨_, rfl⟩; have hys0 : yS0.size ≤ 2 := (by rw [← HYS0.out, strOfNums_size]; exact hy0); rw [HYS0.out]; (try dsimp only); have hbn : Hid (Below w.heap.size w w9) := below_grown' hb.out (by first | exact hg1.out | exact World.grownBy.trans (grown_drewN _ 1 _) hg1.out | exact World.grownBy.trans (grown_below ((Below.refl _ _).alloc (Nat.le_refl _) _) _) hg1.out | exact World.grownBy.trans (World.grownBy.trans (grown_below ((Below.refl _ _).alloc (Nat.le_refl _) _) _) (grown_drewN _ 1 _)) hg1.out | exact World.grownBy.trans (World.grownBy.trans (grown_drewN _ 1 _) (grown_below ((Below.refl _ _).alloc (Nat.le_refl _) _) _)) hg1.out) ha; have HVn : Hid (Row _ w.heap.size _ w9) := HV.out.grow (by first | exact hg1.out | exact World.grownBy.trans (grown_drewN _ 1 _) hg1.out | exact World.grownBy.trans (grown_below ((Below.refl _ _).alloc (Nat.le_refl _) _) _) hg1.out | exact World.grownBy.trans (World.grownBy.trans (grown_below ((Below.refl _ _).alloc (Nat.le_refl _) _) _) (grown_drewN _ 1 _)) hg1.out | exact World.grownBy.trans (World.grownBy.trans (grown_drewN _ 1 _) (grown_below ((Below.refl _ _).alloc (Nat.le_refl _) _) _)) hg1.out) (by omega); have HAn : Hid (Row _ w6.heap.size _ w9) := HA.out.grow (by first | exact hg1.out | exact World.grownBy.trans (grown_drewN _ 1 _) hg1.out | exact World.grownBy.trans (grown_below ((Below.refl _ _).alloc (Nat.le_refl _) _) _) hg1.out | exact World.grownBy.trans (World.grownBy.trans (grown_below ((Below.refl _ _).alloc (Nat.le_refl _) _) _) (grown_drewN _ 1 _)) hg1.out | exact World.grownBy.trans (World.grownBy.trans (grown_drewN _ 1 _) (grown_below ((Below.refl _ _).alloc (Nat.le_refl _) _) _)) hg1.out) (by omega); have HKn : Hid ((jd 32).K w9 a _) := jd_grow (w := _) (by first | exact hg1.out | exact World.grownBy.trans (grown_drewN _ 1 _) hg1.out | exact World.grownBy.trans (grown_below ((Below.refl _ _).alloc (Nat.le_refl _) _) _) hg1.out | exact World.grownBy.trans (World.grownBy.trans (grown_below ((Below.refl _ _).alloc (Nat.le_refl _) _) _) (grown_drewN _ 1 _)) hg1.out | exact World.grownBy.trans (World.grownBy.trans (grown_drewN _ 1 _) (grown_below ((Below.refl _ _).alloc (Nat.le_refl _) _) _)) hg1.out) hp.out.p _ _ _ HK.out; have HGn : Hid (w7.grownBy w9 (some w4.heap.size)) := World.grownBy.trans HG.out (by first | exact hg1.out | exact World.grownBy.trans (grown_drewN _ 1 _) hg1.out | exact World.grownBy.trans (grown_below ((Below.refl _ _).alloc (Nat.le_refl _) _) _) hg1.out | exact World.grownBy.trans (World.grownBy.trans (grown_below ((Below.refl _ _).alloc (Nat.le_refl _) _) _) (grown_drewN _ 1 _)) hg1.out | exact World.grownBy.trans (World.grownBy.trans (grown_drewN _ 1 _) (grown_below ((Below.refl _ _).alloc (Nat.le_refl _) _) _)) hg1.out); (first | (have HNn := Lib.hid (Row.grow HN.out (by first | exact hg1.out | exact World.grownBy.trans (grown_drewN _ 1 _) hg1.out | exact World.grownBy.trans (grown_below ((Below.refl _ _).alloc (Nat.le_refl _) _) _) hg1.out | exact World.grownBy.trans (World.grownBy.trans (grown_below ((Below.refl _ _).alloc (Nat.le_refl _) _) _) (grown_drewN _ 1 _)) hg1.out | exact World.grownBy.trans (World.grownBy.trans (grown_drewN _ 1 _) (grown_below ((Below.refl _ _).alloc (Nat.le_refl _) _) _)) hg1.out) HNe.out); clear HN; have HN := HNn; clear HNn) | (have hne0 := Nat.ne_of_gt hp.out.lt.1; have HNG := Lib.hid HG.out.size; have HVN := Lib.hid (Nat.ne_of_lt (Nat.lt_trans (Nat.lt_of_succ_lt hwa) hp.out.lt.1)); (first | have HN0 := row_born hg1.out hp.out.lt.1 | have HN0 := row_born_d hg1.out hp.out.lt.1); (try simp only [World.size_drew] at HN0); have HN := Lib.hid HN0; have HNe := Lib.hid hne0; clear HN0 hne0) | skip); clear hb HV HA HK hp; have hb := hbn; have HV := HVn; have HA := HAn; have HK := HKn; have hp := hp1; clear HG; have HG := HGn; clear HGn; clear hbn HVn HAn HKn hp1 hg1; (try clear v0 v1 v2 v3); have v0 : w9.cell? ⟨w.heap.size, 0, none⟩ = some (.int .i64 a.kind) := HV.out.cell 0 _ rfl; have v1 : w9.cell? ⟨w.heap.size, 1, none⟩ = some (.string a.text) := HV.out.cell 1 _ rfl; have v2 : w9.cell? ⟨w.heap.size, 2, none⟩ = some (.slice A2 a.list.length c2) := HV.out.cell 2 _ rfl; have v3 : w9.cell? ⟨w.heap.size, 3, none⟩ = some (.slice A3 a.mem.length c3) := HV.out.cell 3 _ rfl; clear ST0 st; have ST1 := Lib.hid trivial)
              | (go_simp; go_at_call 46; have st := ST1.out; refine (HPDD.out a _ 1 1 _ HKa.out (by first | exact hb.out | exact below_drew hb.out | exact hb.out.alloc hb.out.size _ | exact below_drew (hb.out.alloc hb.out.size _)) (by first | exact hp.out | exact ⟨hp.out.p, hp.out.t⟩ | exact ⟨(hp.out.alloc _).p, (hp.out.alloc _).t⟩) HOa.out HTa.out (by have := HTa.out; omega)).mono ?_; rintro e w9 ⟨tx, kx, rfl, HWX, HLX, HKX, hp1, hg1⟩; obtain ⟨tS, HTX⟩ : ∃ tS, Hid (strOfNums tx = tS) := ⟨_, rfl⟩; have htS : tS.size ≤ 60000 := (by rw [← HTX.out, strOfNums_size]; have := HLX.out; have := HTa.out; omega); rw [HTX.out]; (try dsimp only); have hz1 : (9223372036854775807 < yS0.size + tS.size) = False := eq_false (by omega); have hbn : Hid (Below w.heap.size w w9) := below_grown' hb.out (by first | exact hg1.out | exact World.grownBy.trans (grown_drewN _ 1 _) hg1.out | exact World.grownBy.trans (grown_below ((Below.refl _ _).alloc (Nat.le_refl _) _) _) hg1.out | exact World.grownBy.trans (World.grownBy.trans (grown_below ((Below.refl _ _).alloc (Nat.le_refl _) _) _) (grown_drewN _ 1 _)) hg1.out | exact World.grownBy.trans (World.grownBy.trans (grown_drewN _ 1 _) (grown_below ((Below.refl _ _).alloc (Nat.le_refl _) _) _)) hg1.out) ha; have HVn : Hid (Row _ w.heap.size _ w9) := HV.out.grow (by first | exact hg1.out | exact World.grownBy.trans (grown_drewN _ 1 _) hg1.out | exact World.grownBy.trans (grown_below ((Below.refl _ _).alloc (Nat.le_refl _) _) _) hg1.out | exact World.grownBy.trans (World.grownBy.trans (grown_below ((Below.refl _ _).alloc (Nat.le_refl _) _) _) (grown_drewN _ 1 _)) hg1.out | exact World.grownBy.trans (World.grownBy.trans (grown_drewN _ 1 _) (grown_below ((Below.refl _ _).alloc (Nat.le_refl _) _) _)) hg1.out) (by omega); have HAn : Hid (Row _ w6.heap.size _ w9) := HA.out.grow (by first | exact hg1.out | exact World.grownBy.trans (grown_drewN _ 1 _) hg1.out | exact World.grownBy.trans (grown_below ((Below.refl _ _).alloc (Nat.le_refl _) _) _) hg1.out | exact World.grownBy.trans (World.grownBy.trans (grown_below ((Below.refl _ _).alloc (Nat.le_refl _) _) _) (grown_drewN _ 1 _)) hg1.out | exact World.grownBy.trans (World.grownBy.trans (grown_drewN _ 1 _) (grown_below ((Below.refl _ _).alloc (Nat.le_refl _) _) _)) hg1.out) (by omega); have HKn : Hid ((jd 32).K w9 a _) := jd_grow (w := _) (by first | exact hg1.out | exact World.grownBy.trans (grown_drewN _ 1 _) hg1.out | exact World.grownBy.trans (grown_below ((Below.refl _ _).alloc (Nat.le_refl _) _) _) hg1.out | exact World.grownBy.trans (World.grownBy.trans (grown_below ((Below.refl _ _).alloc (Nat.le_refl _) _) _) (grown_drewN _ 1 _)) hg1.out | exact World.grownBy.trans (World.grownBy.trans (grown_drewN _ 1 _) (grown_below ((Below.refl _ _).alloc (Nat.le_refl _) _) _)) hg1.out) hp.out.p _ _ _ HK.out; have HGn : Hid (w7.grownBy w9 (some w4.heap.size)) := World.grownBy.trans HG.out (by first | exact hg1.out | exact World.grownBy.trans (grown_drewN _ 1 _) hg1.out | exact World.grownBy.trans (grown_below ((Below.refl _ _).alloc (Nat.le_refl _) _) _) hg1.out | exact World.grownBy.trans (World.grownBy.trans (grown_below ((Below.refl _ _).alloc (Nat.le_refl _) _) _) (grown_drewN _ 1 _)) hg1.out | exact World.grownBy.trans (World.grownBy.trans (grown_drewN _ 1 _) (grown_below ((Below.refl _ _).alloc (Nat.le_refl _) _) _)) hg1.out); (first | (have HNn := Lib.hid (Row.grow HN.out (by first | exact hg1.out | exact World.grownBy.trans (grown_drewN _ 1 _) hg1.out | exact World.grownBy.trans (grown_below ((Below.refl _ _).alloc (Nat.le_refl _) _) _) hg1.out | exact World.grownBy.trans (World.grownBy.trans (grown_below ((Below.refl _ _).alloc (Nat.le_refl _) _) _) (grown_drewN _ 1 _)) hg1.out | exact World.grownBy.trans (World.grownBy.trans (grown_drewN _ 1 _) (grown_below ((Below.refl _ _).alloc (Nat.le_refl _) _) _)) hg1.out) HNe.out); clear HN; have HN := HNn; clear HNn) | (have hne0 := Nat.ne_of_gt hp.out.lt.1; have HNG := Lib.hid HG.out.size; have HVN := Lib.hid (Nat.ne_of_lt (Nat.lt_trans (Nat.lt_of_succ_lt hwa) hp.out.lt.1)); (first | have HN0 := row_born hg1.out hp.out.lt.1 | have HN0 := row_born_d hg1.out hp.out.lt.1); (try simp only [World.size_drew] at HN0); have HN := Lib.hid HN0; have HNe := Lib.hid hne0; clear HN0 hne0) | skip); clear hb HV HA HK hp; have hb := hbn; have HV := HVn; have HA := HAn; have HK := HKn; have hp := hp1; clear HG; have HG := HGn; clear HGn; clear hbn HVn HAn HKn hp1 hg1; (try clear v0 v1 v2 v3); have v0 : w9.cell? ⟨w.heap.size, 0, none⟩ = some (.int .i64 a.kind) := HV.out.cell 0 _ rfl; have v1 : w9.cell? ⟨w.heap.size, 1, none⟩ = some (.string a.text) := HV.out.cell 1 _ rfl; have v2 : w9.cell? ⟨w.heap.size, 2, none⟩ = some (.slice A2 a.list.length c2) := HV.out.cell 2 _ rfl; have v3 : w9.cell? ⟨w.heap.size, 3, none⟩ = some (.slice A3 a.mem.length c3) := HV.out.cell 3 _ rfl; clear ST1 st; have ST2 := Lib.hid trivial)
              | (go_simp; go_at_call 45; have st := ST2.out; refine (HPADC.out kx _ (by first | omega | (have := HKX.out; have := HTa.out; omega)) (by first | exact hb.out | exact below_drew hb.out | exact hb.out.alloc hb.out.size _ | exact below_drew (hb.out.alloc hb.out.size _)) (by first | exact hp.out | exact ⟨hp.out.p, hp.out.t⟩ | exact ⟨(hp.out.alloc _).p, (hp.out.alloc _).t⟩)).mono ?_; rintro e w9 ⟨y2, rfl, HY2, hy2, hp1, hg1⟩; obtain ⟨yS2, HYS2⟩ : ∃ yS, Hid (strOfNums y2 = yS) := ⟨_, rfl⟩; have hys2 : yS2.size ≤ 2 := (by rw [← HYS2.out, strOfNums_size]; exact hy2); rw [HYS2.out]; (try dsimp only); have hz2 : (9223372036854775807 < yS0.size + tS.size + yS2.size) = False := eq_false (by omega); have hbn : Hid (Below w.heap.size w w9) := below_grown' hb.out (by first | exact hg1.out | exact World.grownBy.trans (grown_drewN _ 1 _) hg1.out | exact World.grownBy.trans (grown_below ((Below.refl _ _).alloc (Nat.le_refl _) _) _) hg1.out | exact World.grownBy.trans (World.grownBy.trans (grown_below ((Below.refl _ _).alloc (Nat.le_refl _) _) _) (grown_drewN _ 1 _)) hg1.out | exact World.grownBy.trans (World.grownBy.trans (grown_drewN _ 1 _) (grown_below ((Below.refl _ _).alloc (Nat.le_refl _) _) _)) hg1.out) ha; have HVn : Hid (Row _ w.heap.size _ w9) := HV.out.grow (by first | exact hg1.out | exact World.grownBy.trans (grown_drewN _ 1 _) hg1.out | exact World.grownBy.trans (grown_below ((Below.refl _ _).alloc (Nat.le_refl _) _) _) hg1.out | exact World.grownBy.trans (World.grownBy.trans (grown_below ((Below.refl _ _).alloc (Nat.le_refl _) _) _) (grown_drewN _ 1 _)) hg1.out | exact World.grownBy.trans (World.grownBy.trans (grown_drewN _ 1 _) (grown_below ((Below.refl _ _).alloc (Nat.le_refl _) _) _)) hg1.out) (by omega); have HAn : Hid (Row _ w6.heap.size _ w9) := HA.out.grow (by first | exact hg1.out | exact World.grownBy.trans (grown_drewN _ 1 _) hg1.out | exact World.grownBy.trans (grown_below ((Below.refl _ _).alloc (Nat.le_refl _) _) _) hg1.out | exact World.grownBy.trans (World.grownBy.trans (grown_below ((Below.refl _ _).alloc (Nat.le_refl _) _) _) (grown_drewN _ 1 _)) hg1.out | exact World.grownBy.trans (World.grownBy.trans (grown_drewN _ 1 _) (grown_below ((Below.refl _ _).alloc (Nat.le_refl _) _) _)) hg1.out) (by omega); have HKn : Hid ((jd 32).K w9 a _) := jd_grow (w := _) (by first | exact hg1.out | exact World.grownBy.trans (grown_drewN _ 1 _) hg1.out | exact World.grownBy.trans (grown_below ((Below.refl _ _).alloc (Nat.le_refl _) _) _) hg1.out | exact World.grownBy.trans (World.grownBy.trans (grown_below ((Below.refl _ _).alloc (Nat.le_refl _) _) _) (grown_drewN _ 1 _)) hg1.out | exact World.grownBy.trans (World.grownBy.trans (grown_drewN _ 1 _) (grown_below ((Below.refl _ _).alloc (Nat.le_refl _) _) _)) hg1.out) hp.out.p _ _ _ HK.out; have HGn : Hid (w7.grownBy w9 (some w4.heap.size)) := World.grownBy.trans HG.out (by first | exact hg1.out | exact World.grownBy.trans (grown_drewN _ 1 _) hg1.out | exact World.grownBy.trans (grown_below ((Below.refl _ _).alloc (Nat.le_refl _) _) _) hg1.out | exact World.grownBy.trans (World.grownBy.trans (grown_below ((Below.refl _ _).alloc (Nat.le_refl _) _) _) (grown_drewN _ 1 _)) hg1.out | exact World.grownBy.trans (World.grownBy.trans (grown_drewN _ 1 _) (grown_below ((Below.refl _ _).alloc (Nat.le_refl _) _) _)) hg1.out); (first | (have HNn := Lib.hid (Row.grow HN.out (by first | exact hg1.out | exact World.grownBy.trans (grown_drewN _ 1 _) hg1.out | exact World.grownBy.trans (grown_below ((Below.refl _ _).alloc (Nat.le_refl _) _) _) hg1.out | exact World.grownBy.trans (World.grownBy.trans (grown_below ((Below.refl _ _).alloc (Nat.le_refl _) _) _) (grown_drewN _ 1 _)) hg1.out | exact World.grownBy.trans (World.grownBy.trans (grown_drewN _ 1 _) (grown_below ((Below.refl _ _).alloc (Nat.le_refl _) _) _)) hg1.out) HNe.out); clear HN; have HN := HNn; clear HNn) | (have hne0 := Nat.ne_of_gt hp.out.lt.1; have HNG := Lib.hid HG.out.size; have HVN := Lib.hid (Nat.ne_of_lt (Nat.lt_trans (Nat.lt_of_succ_lt hwa) hp.out.lt.1)); (first | have HN0 := row_born hg1.out hp.out.lt.1 | have HN0 := row_born_d hg1.out hp.out.lt.1); (try simp only [World.size_drew] at HN0); have HN := Lib.hid HN0; have HNe := Lib.hid hne0; clear HN0 hne0) | skip); clear hb HV HA HK hp; have hb := hbn; have HV := HVn; have HA := HAn; have HK := HKn; have hp := hp1; clear HG; have HG := HGn; clear HGn; clear hbn HVn HAn HKn hp1 hg1; (try clear v0 v1 v2 v3); have v0 : w9.cell? ⟨w.heap.size, 0, none⟩ = some (.int .i64 a.kind) := HV.out.cell 0 _ rfl; have v1 : w9.cell? ⟨w.heap.size, 1, none⟩ = some (.string a.text) := HV.out.cell 1 _ rfl; have v2 : w9.cell? ⟨w.heap.size, 2, none⟩ = some (.slice A2 a.list.length c2) := HV.out.cell 2 _ rfl; have v3 : w9.cell? ⟨w.heap.size, 3, none⟩ = some (.slice A3 a.mem.length c3) := HV.out.cell 3 _ rfl; clear ST2 st; have ST3 := Lib.hid trivial)
              | (go_simp; go_at_call 13; have st := ST3.out; refine (Read_okM (E := E) (yS0 ++ tS ++ yS2) a _ _ (by have := HTa.out; simp only [ByteArray.size_append]; omega) (HS.out.below (by first | exact hb.out | exact below_drew hb.out | exact hb.out.alloc hb.out.size _ | exact below_drew (hb.out.alloc hb.out.size _))) (readV_back HOa.out HWX.out (by rw [← HYS0.out, ← HTX.out, ← HYS2.out, nums_append', nums_append', ints_nums _ (rg_app (rg_app (sp_range HY0.out) (wv_range _ _ HWX.out)) (sp_range HY2.out)), List.append_assoc]) HY0.out HY2.out (by simp only [ByteArray.size_append]; omega))).mono ?_; rintro e w9 ⟨Z2, z2, Z3, z3, rfl, HM9, hg0⟩; (try dsimp only); have hg1 := Lib.hid (grown_below hg0.out (some w4.heap.size)); have hbn : Hid (Below w.heap.size w w9) := below_grown' hb.out (by first | exact hg1.out | exact World.grownBy.trans (grown_drewN _ 1 _) hg1.out | exact World.grownBy.trans (grown_below ((Below.refl _ _).alloc (Nat.le_refl _) _) _) hg1.out | exact World.grownBy.trans (World.grownBy.trans (grown_below ((Below.refl _ _).alloc (Nat.le_refl _) _) _) (grown_drewN _ 1 _)) hg1.out | exact World.grownBy.trans (World.grownBy.trans (grown_drewN _ 1 _) (grown_below ((Below.refl _ _).alloc (Nat.le_refl _) _) _)) hg1.out) ha; have HVn : Hid (Row _ w.heap.size _ w9) := HV.out.grow (by first | exact hg1.out | exact World.grownBy.trans (grown_drewN _ 1 _) hg1.out | exact World.grownBy.trans (grown_below ((Below.refl _ _).alloc (Nat.le_refl _) _) _) hg1.out | exact World.grownBy.trans (World.grownBy.trans (grown_below ((Below.refl _ _).alloc (Nat.le_refl _) _) _) (grown_drewN _ 1 _)) hg1.out | exact World.grownBy.trans (World.grownBy.trans (grown_drewN _ 1 _) (grown_below ((Below.refl _ _).alloc (Nat.le_refl _) _) _)) hg1.out) (by omega); have HAn : Hid (Row _ w6.heap.size _ w9) := HA.out.grow (by first | exact hg1.out | exact World.grownBy.trans (grown_drewN _ 1 _) hg1.out | exact World.grownBy.trans (grown_below ((Below.refl _ _).alloc (Nat.le_refl _) _) _) hg1.out | exact World.grownBy.trans (World.grownBy.trans (grown_below ((Below.refl _ _).alloc (Nat.le_refl _) _) _) (grown_drewN _ 1 _)) hg1.out | exact World.grownBy.trans (World.grownBy.trans (grown_drewN _ 1 _) (grown_below ((Below.refl _ _).alloc (Nat.le_refl _) _) _)) hg1.out) (by omega); have HKn : Hid ((jd 32).K w9 a _) := jd_grow (w := _) (by first | exact hg1.out | exact World.grownBy.trans (grown_drewN _ 1 _) hg1.out | exact World.grownBy.trans (grown_below ((Below.refl _ _).alloc (Nat.le_refl _) _) _) hg1.out | exact World.grownBy.trans (World.grownBy.trans (grown_below ((Below.refl _ _).alloc (Nat.le_refl _) _) _) (grown_drewN _ 1 _)) hg1.out | exact World.grownBy.trans (World.grownBy.trans (grown_drewN _ 1 _) (grown_below ((Below.refl _ _).alloc (Nat.le_refl _) _) _)) hg1.out) hp.out.p _ _ _ HK.out; have HGn : Hid (w7.grownBy w9 (some w4.heap.size)) := World.grownBy.trans HG.out (by first | exact hg1.out | exact World.grownBy.trans (grown_drewN _ 1 _) hg1.out | exact World.grownBy.trans (grown_below ((Below.refl _ _).alloc (Nat.le_refl _) _) _) hg1.out | exact World.grownBy.trans (World.grownBy.trans (grown_below ((Below.refl _ _).alloc (Nat.le_refl _) _) _) (grown_drewN _ 1 _)) hg1.out | exact World.grownBy.trans (World.grownBy.trans (grown_drewN _ 1 _) (grown_below ((Below.refl _ _).alloc (Nat.le_refl _) _) _)) hg1.out); (first | (have HNW := Lib.hid HN.out.lt; have HNn := Lib.hid (Row.grow HN.out (by first | exact hg1.out | exact World.grownBy.trans (grown_drewN _ 1 _) hg1.out | exact World.grownBy.trans (grown_below ((Below.refl _ _).alloc (Nat.le_refl _) _) _) hg1.out | exact World.grownBy.trans (World.grownBy.trans (grown_below ((Below.refl _ _).alloc (Nat.le_refl _) _) _) (grown_drewN _ 1 _)) hg1.out | exact World.grownBy.trans (World.grownBy.trans (grown_drewN _ 1 _) (grown_below ((Below.refl _ _).alloc (Nat.le_refl _) _) _)) hg1.out) HNe.out); clear HN; have HN := HNn; clear HNn) | (have hne0 := Nat.ne_of_gt hp.out.lt.1; have HNG := Lib.hid HG.out.size; have HVN := Lib.hid (Nat.ne_of_lt (Nat.lt_trans (Nat.lt_of_succ_lt hwa) hp.out.lt.1)); (first | have HN0 := row_born hg1.out hp.out.lt.1 | have HN0 := row_born_d hg1.out hp.out.lt.1); (try simp only [World.size_drew] at HN0); have HN := Lib.hid HN0; have HNW := Lib.hid (born_lt hg1.out); have HNe := Lib.hid hne0; clear HN0 hne0) | skip); clear hb HV HA HK; have hb := hbn; have HV := HVn; have HA := HAn; have HK := HKn; clear HG; have HG := HGn; clear HGn; clear hbn HVn HAn HKn hg1; (try clear v0 v1 v2 v3); have v0 : w9.cell? ⟨w.heap.size, 0, none⟩ = some (.int .i64 a.kind) := HV.out.cell 0 _ rfl; have v1 : w9.cell? ⟨w.heap.size, 1, none⟩ = some (.string a.text) := HV.out.cell 1 _ rfl; have v2 : w9.cell? ⟨w.heap.size, 2, none⟩ = some (.slice A2 a.list.length c2) := HV.out.cell 2 _ rfl; have v3 : w9.cell? ⟨w.heap.size, 3, none⟩ = some (.slice A3 a.mem.length c3) := HV.out.cell 3 _ rfl; (first | (have r0 := HN.out.cell 0 _ rfl; have r1 := HN.out.cell 1 _ rfl; have r2 := HN.out.cell 2 _ rfl; have r3 := HN.out.cell 3 _ rfl; have rf0 := Lib.frozen_of_heap HN.out 0; have rf1 := Lib.frozen_of_heap HN.out 1; have rf2 := Lib.frozen_of_heap HN.out 2; have rf3 := Lib.frozen_of_heap HN.out 3) | skip); have ST4 := Lib.hid trivial))
  all_goals
    obtain ⟨Wz, hWz, hRb, hGz, hsame⟩ := (by first | exact fin_set (.int .i64 a.kind) (.string a.text) (.slice Z2 a.list.length z2) (.slice Z3 a.mem.length z3) HN.out HG.out HNG.out HNW.out | exact fin_new 26 (.int .i64 a.kind) (.string a.text) (.slice Z2 a.list.length z2) (.slice Z3 a.mem.length z3) HG.out)
    rw [hWz]
    have HBz := Lib.hid (below_grown' HB7.out hGz ha)
    have HVz := Lib.hid (Row.grow HR7.out hGz (by omega))
    have HAz := Lib.hid (Row.grow HQ7.out hGz (by omega))
    have HKz := Lib.hid (jd_grow hGz HP7.out.p _ _ _ HM7.out)
    have HKy := Lib.hid ((jd 32).K_of_M (Kd.M_step HM9.out (fun k hk hlt => hsame k (by first | exact hk | exact Nat.zero_le _) hlt)))
    have HKv := Lib.hid ((jd (n' + 1)).K_below HBz.out HKa.out)
    have HRz := Lib.hid hRb
    have c0 := HVz.out.cell 0 _ rfl
    have c1 := HVz.out.cell 1 _ rfl
    have c2' := HVz.out.cell 2 _ rfl
    have c3' := HVz.out.cell 3 _ rfl
    have d0 := HAz.out.cell 0 _ rfl
    have d1 := HAz.out.cell 1 _ rfl
    have d2 := HAz.out.cell 2 _ rfl
    have d3 := HAz.out.cell 3 _ rfl
    clear hWz hRb hGz hsame v0 v1 v2 v3
    go_wp2_with fail
    refine (Same_any a a _ _ 32 (n' + 1) _ HKz.out HKv.out).mono ?_
    rintro e w12 ⟨rfl, h12⟩
    rw [sameV_refl]
    have HB12 := Lib.hid (below_then HBz.out HBz.out.size h12.out)
    have HV12 := Lib.hid (HVz.out.below h12.out)
    have HR12 := Lib.hid (HRz.out.below h12.out)
    have HKv12 := Lib.hid ((jd (n' + 1)).K_below h12.out HKv.out)
    have HKy12 := Lib.hid ((jd 32).K_below h12.out HKy.out)
    clear h12 c0 c1 c2' c3' d0 d1 d2 d3
    have c0 := HV12.out.cell 0 _ rfl
    have c1 := HV12.out.cell 1 _ rfl
    have c2' := HV12.out.cell 2 _ rfl
    have c3' := HV12.out.cell 3 _ rfl
    have d0 := HR12.out.cell 0 _ rfl
    have d1 := HR12.out.cell 1 _ rfl
    have d2 := HR12.out.cell 2 _ rfl
    have d3 := HR12.out.cell 3 _ rfl
    go_wp2_with fail
    refine (Same_any a a _ _ 32 (n' + 1) _ HKy12.out HKv12.out).mono ?_
    rintro e w13 ⟨rfl, h13⟩
    rw [sameV_refl]
    have HB13 := Lib.hid (below_then HB12.out HB12.out.size h13.out)
    clear h13
    go_wp2_with fail
    go_ret
    exact ⟨rfl, HB13.out⟩
end Go.Proofs.YtpdpgppaoipnlaaDoor

