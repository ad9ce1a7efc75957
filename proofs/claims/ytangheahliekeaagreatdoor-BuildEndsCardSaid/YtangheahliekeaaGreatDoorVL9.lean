/- What the claim uses of the text L9. -/
import Derived.Test.YtangheahliekeaaGreatDoorVL8
set_option linter.unusedVariables false
set_option linter.unusedSimpArgs false
namespace Go.Proofs.YtangheahliekeaaGreatDoor
open Go.RowKit Go.PlainAid
open Go.Proofs.YtangheahliekeaaGreatDoorW.PrintWords hiding bt
open Go.Proofs.YtangheahliekeaaGreatDoorW.PrintMore

/-- The awake's base, and its link. -/
def bR : ByteArray := ⟨#[104, 116, 116, 112, 115, 58, 47, 47, 114, 47]⟩
def aR : ByteArray := ⟨#[104, 116, 116, 112, 115, 58, 47, 47, 114, 47, 97, 117, 116, 110, 117, 109, 47, 49]⟩
theorem aR_eq : aR = bR ++ (⟨#[97, 117, 116, 110, 117, 109, 47]⟩ ++ strOfNums (digs 10 q6.num.toNat)) := by
  rw [show strOfNums (digs 10 q6.num.toNat) = ⟨#[49]⟩ from digs_1]
  kernel_rfl
/-- The record's members. -/
def mR : List (ByteArray × JV) := [(⟨#[111, 98, 106, 101, 99, 116, 67, 108, 97, 115, 115, 78, 97, 109, 101]⟩, ⟨4, ⟨#[97, 117, 116, 110, 117, 109]⟩, [], []⟩)] ++ [(⟨#[104, 97, 110, 100, 108, 101]⟩, ⟨4, ⟨#[65]⟩, [], []⟩), (⟨#[115, 116, 97, 114, 116, 65, 117, 116, 110, 117, 109]⟩, ⟨3, ⟨#[49]⟩, [], []⟩), (⟨#[101, 110, 100, 65, 117, 116, 110, 117, 109]⟩, ⟨3, ⟨#[53]⟩, [], []⟩)] ++ [(⟨#[108, 105, 110, 107, 115]⟩, ⟨5, ⟨#[]⟩, [⟨6, ⟨#[]⟩, [], lnk aR⟩], []⟩)]
theorem mR_get : getF ⟨#[108, 105, 110, 107, 115]⟩ mR = some ⟨5, ⟨#[]⟩, [⟨6, ⟨#[]⟩, [], lnk aR⟩], []⟩ := by rfl
theorem lnk_get : getF ⟨#[104, 114, 101, 102]⟩ (lnk aR) = some ⟨4, aR, [], []⟩ := by rfl

theorem Get_of {n : Nat} {x y : JV} {cs : List Value} {name : ByteArray} {w : World} (hk : (jd n).K w x cs) (h6 : x.kind = 6) (hy : getF name x.mem = some y) :
    Calls Tryz.prog 10 #[.agg cs.toArray, .string name] w fun e w' => ∃ A2 c2 A3 c3, e = .returned (.tuple #[.agg #[.int .i64 y.kind, .string y.text, .slice A2 y.list.length c2, .slice A3 y.mem.length c3], .bool true]) ∧ Hid ((jd n).K w' y (jcells y A2 c2 A3 c3)) ∧ Hid (Below w.heap.size w w') := by
  have h := Get_any n x cs name w hk (fun h => absurd h6 h)
  rw [hy] at h
  exact h
theorem one4 (k : Int) (t : ByteArray) (A B : Option Addr) (n m c d : Nat) : (#[Value.int .i64 k, .string t, .slice A n c, .slice B m d].all (·.oneCell')) = true := by
  have h1 : (Value.int .i64 k).oneCell' = true := rfl
  have h2 : (Value.string t).oneCell' = true := rfl
  have h3 : (Value.slice A n c).oneCell' = true := rfl
  have h4 : (Value.slice B m d).oneCell' = true := rfl
  simp [h1, h2, h3, h4]

set_option maxHeartbeats 8000000 in
set_option maxRecDepth 100000 in
theorem awake28 {E : Nat → Addr} (w : World) (hg : Ges E w) (hc : Caps w) :
    Calls Tryz.prog 4 #[] w fun e w' => e = .returned (.bool true) ∧ Hid (Below w.heap.size w w') := by
  have HG := Lib.hid hg
  have HC := Lib.hid hc
  clear hg hc
  have HB0 : Hid (Below w.heap.size w (w.alloc (.cells auA 55))) := (Below.refl _ _).alloc (Nat.le_refl _) _
  have HR0 : Hid (Row 55 w.heap.size auA (w.alloc (.cells auA 55))) := Row.new w _ _ rfl
  go_enter Tryz.func4, Tryz.ntmps4
  have HGC : Hid (Ges E (w.alloc (.cells auA 55)) ∧ Caps (w.alloc (.cells auA 55))) := ⟨HG.out.below HB0.out, HC.out.below HB0.out⟩
  go_upto_region 2 with (first | (go_at_call 9; refine (show Calls _ _ #[.agg tabA, .string bR, .agg (dbA w.heap.size), .int .i64 5, .int .i64 0] _ _ from Record_awake (E := E) w.heap.size _ HGC.out.1 HGC.out.2 HR0.out bR aR (by decide) aR_eq).mono ?_; rintro e w1 ⟨v1, rfl, HK1, hb1⟩; have h1v : v1.oneCell' = true := (jd 4).K_one HK1.out v1 (by simp)) | ((with_reducible refine wpl_put_val (cs := ?_) (Row.new w1 _ _ rfl) rfl ?hx ?hy ?hs ?hz ?_); (case hx => rfl); (case hy => rfl); (case hs => rfl); (case hz => (exact all4 h1v)); intro w2 hr2 hw2))
  have HBa : Hid (Below w1.heap.size w1 w2) := hw2.below ((Below.refl _ _).alloc (Nat.le_refl _) _) (Nat.le_refl _)
  have HB1 := Lib.hid (below_then HB0.out HB0.out.size hb1.out)
  have HB2 := Lib.hid (below_then HB1.out HB1.out.size HBa.out)
  have HK2 := Lib.hid ((jd 4).K_below HBa.out HK1.out)
  have HR2 := Lib.hid hr2
  clear HK1 HB1 hb1 HGC HB0 HR0 hr2 hw2 HBa
  have c0 : w2.cell? ⟨w1.heap.size, 0, none⟩ = some (.int .i64 6) := HR2.out.cell 0 _ rfl
  have c1 : w2.cell? ⟨w1.heap.size, 1, none⟩ = some (.string ⟨#[]⟩) := HR2.out.cell 1 _ rfl
  have c2 : w2.cell? ⟨w1.heap.size, 2, none⟩ = some (.slice none 0 0) := HR2.out.cell 2 _ rfl
  have c3 : w2.cell? ⟨w1.heap.size, 3, none⟩ = some v1 := HR2.out.cell 3 _ rfl
  go_upto_region 3 with (first | (go_at_call 10; refine (Get_of (name := ⟨#[108, 105, 110, 107, 115]⟩) HK2.out rfl mR_get).mono ?_; rintro e w3 ⟨A2, n2, A3, n3, rfl, HK3, hb3⟩) | ((with_reducible refine wpl_put_val (cs := ?_) (Row.new w3 _ _ rfl) rfl ?hx ?hy ?hs ?hz ?_); (case hx => rfl); (case hy => rfl); (case hs => rfl); (case hz => (exact one4 _ _ _ _ _ _ _ _)); intro w4 hr4 hw4))
  have HBb : Hid (Below w3.heap.size w3 w4) := hw4.below ((Below.refl _ _).alloc (Nat.le_refl _) _) (Nat.le_refl _)
  have HB3 := Lib.hid (below_then HB2.out HB2.out.size hb3.out)
  have HB4 := Lib.hid (below_then HB3.out HB3.out.size HBb.out)
  have HR4 := Lib.hid hr4
  obtain ⟨B2, m2, B3, m3, e5, l2, g2, l3, g3⟩ := jd_open ((jd 4).K_below HBb.out HK3.out)
  obtain ⟨rfl, rfl, rfl, rfl⟩ : A2 = B2 ∧ n2 = m2 ∧ A3 = B3 ∧ n3 = m3 := by
    unfold jcells at e5
    simp only [List.cons.injEq, Value.slice.injEq, and_true, true_and] at e5
    exact ⟨e5.1.1, e5.1.2, e5.2.1, e5.2.2⟩
  obtain ⟨ad, C2, p2, C3, p3, rfl, hK5, q0, q1, q2, q3⟩ := jv_at g2 0 (by decide)
  have HK5 := Lib.hid hK5
  have d2 : w4.cell? ⟨w3.heap.size, 2, none⟩ = some (.slice (some ad) 1 n2) := HR4.out.cell 2 _ rfl
  change w4.cell? ad = some (.int .i64 6) at q0
  change w4.cell? ⟨ad.block, ad.off + 1, none⟩ = some (.string ⟨#[]⟩) at q1
  change w4.cell? ⟨ad.block, ad.off + 2, none⟩ = some (.slice C2 0 p2) at q2
  change w4.cell? ⟨ad.block, ad.off + 3, none⟩ = some (.slice C3 4 p3) at q3
  change Hid ((jd 3).K w4 ⟨6, ⟨#[]⟩, [], lnk aR⟩ [.int .i64 6, .string ⟨#[]⟩, .slice C2 0 p2, .slice C3 4 p3]) at HK5
  clear hK5 hb3 hr4 hw4 HBb c0 c1 c2 c3 HK3 HK2 HR2 HB2 HB3 e5 l2 g2 l3 g3
  go_upto_region 6 with (first | (go_at_call 10; refine (Get_of (name := ⟨#[104, 114, 101, 102]⟩) HK5.out rfl lnk_get).mono ?_; rintro e w5 ⟨A5, n5, A6, n6, rfl, HK6, hb5⟩) | ((with_reducible refine wpl_put_val (cs := ?_) (Row.new w5 _ _ rfl) rfl ?hx ?hy ?hs ?hz ?_); (case hx => rfl); (case hy => rfl); (case hs => rfl); (case hz => (exact one4 _ _ _ _ _ _ _ _)); intro w6 hr6 hw6))
  have HBc : Hid (Below w5.heap.size w5 w6) := hw6.below ((Below.refl _ _).alloc (Nat.le_refl _) _) (Nat.le_refl _)
  have HB5 := Lib.hid (below_then HB4.out HB4.out.size hb5.out)
  have HB6 := Lib.hid (below_then HB5.out HB5.out.size HBc.out)
  have d1 : w6.cell? ⟨w5.heap.size, 1, none⟩ = some (.string aR) := Row.cell hr6 1 _ rfl
  have e1 : (aR.toList == [104, 116, 116, 112, 115, 58, 47, 47, 114, 47, 97, 117, 116, 110, 117, 109, 47, 49]) = true := by rw [ByteArray.toList_eq]; rfl
  clear HBc HB5 HB4 hb5 hr6 hw6 HK5 HK6 q0 q1 q2 q3 d2 HR4
  go_wp2_with fail
  go_ret
  exact ⟨rfl, HB6⟩
end Go.Proofs.YtangheahliekeaaGreatDoor

