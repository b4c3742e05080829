/- Walks: the law HtokWrites. -/
import Derived.Test.YtjlgbkedbbailaaGreatDoorZBQ
import Derived.Test.YtjlgbkedbbailaaGreatDoorZBV
set_option linter.unusedVariables false
set_option linter.unusedSimpArgs false
namespace Go.Proofs.YtjlgbkedbbailaaGreatDoor.Mu
open Go.RowKit Go.Proofs.YtjlgbkedbbailaaGreatDoor.Pr Go.Proofs.YtjlgbkedbbailaaGreatDoorW.PrintWords Go.Proofs.YtjlgbkedbbailaaGreatDoorW.PrintLast Go.Proofs.YtjlgbkedbbailaaGreatDoorW.PrintMore
set_option maxRecDepth 20000 in
set_option maxHeartbeats 4000000 in
theorem htokWrites_calls (A : Option Addr) (c : Nat) (xs : List S32) (w : World) (hE : Env w) (hC : k32.C w A xs.length xs) (hc : xs.length ≤ c) :
    Calls Tryz.prog 4 #[.slice A xs.length c] w fun e w' => e = .returned (.bool true) ∧ Below w.heap.size w w' := by
  have HF := Lib.hid (few_calls A c xs w hC hc)
  have HE := Lib.hid hE
  have HC := Lib.hid hC
  have hnot : ∀ (x : Bool) (w : World), (Op.unary .not (.bool x)).run Tryz.prog w = .ok (.bool (!x)) w := fun _ _ => rfl
  clear hE hC
  by_cases hf : fewL xs = true
  · rw [hf] at HF
    obtain ⟨h60, _, hFT⟩ := few_T hf
    have HW := Lib.hid (fun (w' : World) hE' hC' => write_toks_calls A c xs w' hE' hC' hc hFT (by omega))
    have HR := Lib.hid (fun (w' : World) hC' => refWrite_calls A c xs w' hC' hc hf)
    clear hFT hf
    go_enter Tryz.func4, Tryz.ntmps4
    go_wp2_with fail
    refine HF.out.mono ?_
    rintro e w1 ⟨rfl, hb⟩
    have HB := Lib.hid hb
    clear hb
    go_wp2_with fail
    refine (HW.out w1 (HE.out.below HB.out) (Kd.C_below HC.out HB.out)).mono ?_
    rintro e w2 ⟨rfl, hb2⟩
    have HB2 := Lib.hid (below_next HB.out hb2)
    clear hb2
    go_wp2_with fail
    refine (HR.out w2 (Kd.C_below HC.out HB2.out)).mono ?_
    rintro e w3 ⟨rfl, hb3⟩
    have HB3 := Lib.hid (below_next HB2.out hb3)
    clear hb3
    have HL := Lib.hid (live_calls w3 (HE.out.below HB3.out))
    go_wp2_with fail
    refine HL.out.mono ?_
    rintro e w4 ⟨rfl, hb4⟩
    have HB4 := Lib.hid (below_next HB3.out hb4)
    clear hb4
    go_wp2_with fail
    go_ret
    exact ⟨rfl, HB4.out⟩
  · rw [Bool.not_eq_true] at hf
    rw [hf] at HF
    go_enter Tryz.func4, Tryz.ntmps4
    go_wp2_with fail
    refine HF.out.mono ?_
    rintro e w1 ⟨rfl, hb⟩
    have HB := Lib.hid hb
    clear hb
    have HL := Lib.hid (live_calls w1 (HE.out.below HB.out))
    go_wp2_with fail
    refine HL.out.mono ?_
    rintro e w4 ⟨rfl, hb4⟩
    have HB4 := Lib.hid (below_next HB.out hb4)
    clear hb4
    go_wp2_with fail
    go_ret
    exact ⟨rfl, HB4.out⟩
end Go.Proofs.YtjlgbkedbbailaaGreatDoor.Mu
