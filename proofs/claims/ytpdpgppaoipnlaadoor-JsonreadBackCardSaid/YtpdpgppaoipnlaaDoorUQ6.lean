/- What the claim uses of the text Q6. -/
import Derived.Test.YtpdpgppaoipnlaaDoorUT3
import Derived.Test.YtpdpgppaoipnlaaDoorUT5
import Derived.Test.YtpdpgppaoipnlaaDoorUR3
import Derived.Deep.RegionHeld3
set_option linter.unusedVariables false
set_option linter.unusedSimpArgs false
namespace Go.Proofs.YtpdpgppaoipnlaaDoor
open Go.RowKit Go.PlainAid
open Go.Proofs.YtpdpgppaoipnlaaDoorW.PrintWords hiding bt
open Go.Proofs.YtpdpgppaoipnlaaDoorW.PrintMore

set_option maxHeartbeats 2000000 in
set_option maxRecDepth 100000 in
theorem Right_any (n : Nat) (x : JV) (cs : List Value) (w : World) (hk : (jd n).K w x cs) (ht : totV x ≤ 100000) :
    Calls Tryd.prog 33 #[.agg cs.toArray] w fun e w' => e = .returned (.bool (okV x 1)) ∧ Hid (Below w.heap.size w w') := by
  have HK := Lib.hid hk
  obtain ⟨n, rfl⟩ := jd_cells hk
  obtain ⟨A2, c2, A3, c3, rfl, l2, g2, l3, g3⟩ := jd_open hk
  clear hk l2 g2 l3 g3
  change Calls _ _ #[.agg #[.int .i64 x.kind, .string x.text, .slice A2 x.list.length c2, .slice A3 x.mem.length c3]] _ _
  have HO : Hid (((chk x).2 == 0) = okV x 1) := by
    show _ = _
    cases ho : okV x 1 with
    | true => rw [(chk_ok x).2 ho]; rfl
    | false => rw [beq_eq_false_iff_ne]; exact fun h => by rw [(chk_ok x).1 h] at ho; cases ho
  go_enter Tryd.func33, Tryd.ntmps33
  have HB0 : Hid (Below w.heap.size w (w.alloc (.cells #[.int .i64 x.kind, .string x.text, .slice A2 x.list.length c2, .slice A3 x.mem.length c3] 26))) := (Below.refl _ _).alloc (Nat.le_refl _) _
  have HC := Lib.hid (refCheck_any (n + 1) x _ _ ((jd (n + 1)).K_below HB0.out HK.out) ht)
  obtain ⟨r1, Hr1⟩ : ∃ r, Hid ((if (chk x).2 = 0 then 0 else (chk x).1) = r) := ⟨_, rfl⟩
  obtain ⟨r2, Hr2⟩ : ∃ r, Hid ((chk x).2 = r) := ⟨_, rfl⟩
  rw [Hr2.out] at HO
  go_wp2_with (go_at_call 42; refine HC.out.mono ?_; rintro e w1 ⟨rfl, h1⟩; rw [Hr1.out, Hr2.out])
  go_ret
  exact ⟨by rw [← HO.out]; rfl, below_then HB0.out HB0.out.size h1.out⟩

end Go.Proofs.YtpdpgppaoipnlaaDoor

