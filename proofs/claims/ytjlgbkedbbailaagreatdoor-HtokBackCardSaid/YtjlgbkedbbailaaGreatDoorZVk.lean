/- Walks: the law HtokBack. -/
import Derived.Test.YtjlgbkedbbailaaGreatDoorZBC
set_option linter.unusedVariables false
set_option linter.unusedSimpArgs false
namespace Go.Proofs.YtjlgbkedbbailaaGreatDoor.Mu
open Go.RowKit Go.Proofs.YtjlgbkedbbailaaGreatDoor.Pr Go.Proofs.YtjlgbkedbbailaaGreatDoorW.PrintWords Go.Proofs.YtjlgbkedbbailaaGreatDoorW.PrintLast Go.Proofs.YtjlgbkedbbailaaGreatDoorW.PrintMore
set_option maxRecDepth 20000 in
set_option maxHeartbeats 4000000 in
theorem htokBack_calls (A : Option Addr) (c : Nat) (xs : List S32) (w : World) (hE : Env w) (hC : k32.C w A xs.length xs) (hc : xs.length ≤ c) :
    Calls Tryz.prog 5 #[.slice A xs.length c] w fun e w' => e = .returned (.bool true) ∧ Below w.heap.size w w' := by
  have HF := Lib.hid (few_calls A c xs w hC hc)
  have HE := Lib.hid hE
  have HC := Lib.hid hC
  have hnot : ∀ (x : Bool) (w : World), (Op.unary .not (.bool x)).run Tryz.prog w = .ok (.bool (!x)) w := fun _ _ => rfl
  clear hE hC
  by_cases hf : fewL xs = true
  · rw [hf] at HF
    obtain ⟨h60, hT, hFT⟩ := few_T hf
    have HT := Lib.hid hT
    have HFT := Lib.hid hFT
    have HFL := Lib.hid hf
    clear hFT hf hT
    go_enter Tryz.func5, Tryz.ntmps5
    go_wp2_with fail
    refine HF.out.mono ?_
    rintro e w1 ⟨rfl, hb⟩
    have HB1 := Lib.hid hb
    clear hb
    go_wp2_with fail
    go_loopg [3, 4] xs.length (fun g v3 v4 wx => ∃ i : Nat, g + i = xs.length ∧ v3 = .int .i64 (prevK xs i) ∧ v4 = .int .i64 i ∧ Below w.heap.size w wx ∧ ∀ j (hj : j < xs.length), j < i → CleanS xs[j] (prevK xs j))
    case atStart => exact ⟨0, by omega, rfl, rfl, HB1.out, fun _ _ h => absurd h (by omega)⟩
    case round =>
      obtain ⟨i, hg, rfl, rfl, hb, hcl⟩ := hrel
      have HG := Lib.hid hg
      have HB := Lib.hid hb
      have HCL := Lib.hid hcl
      have hil : i ≤ xs.length := by omega
      clear hg hb hcl
      by_cases hi : i < xs.length
      · obtain ⟨ad, A2, c2, rfl, d0, d1, d2, d3, hl2, hC2⟩ := at_T32 (Kd.C_below HC.out HB.out) (i : Int) (by omega) (by omega)
        have hpk : prevK xs (i + 1) = (rd_T32 xs (i : Int)).f0 := rfl
        rw [rdT_at hi] at d0 d1 d2 d3 hl2 hC2 hpk
        simp only [Int.toNat_natCast] at d0 d1 d2 d3
        have hft := HT.out xs[i] (List.getElem_mem hi)
        have HNX := Lib.hid (fun (h : CleanS xs[i] (prevK xs i)) j (hj : j < xs.length) (h' : j < i + 1) => show CleanS xs[j] (prevK xs j) from by
          rcases Nat.lt_succ_iff_lt_or_eq.1 h' with h'' | rfl
          · exact HCL.out j hj h''
          · exact h)
        obtain ⟨⟨tk, tn, ta, tt⟩, ht⟩ : ∃ t, xs[i] = t := ⟨_, rfl⟩
        rw [ht] at d0 d1 d2 d3 hl2 hC2 hft HNX hpk
        dsimp only at d0 d1 d2 d3 hl2 hC2 hpk
        have HCC := Lib.hid (clean_calls tk tn ta tt A2 c2 (prevK xs i) wr (HE.out.below HB.out) hC2 hft)
        have HPK := Lib.hid hpk
        obtain ⟨was, hwas⟩ : ∃ z, prevK xs i = z := ⟨_, rfl⟩
        rw [hwas] at HCC HNX
        clear hC2 hft ht hpk
        rw [hwas]
        go_wp2_with fail
        refine HCC.out.mono ?_
        rintro e w2 ⟨b, rfl, hbc, hb2⟩
        have HB2 := Lib.hid (below_next HB.out hb2)
        have f0 := pw_cell_below hb2 d0
        have HBC := Lib.hid hbc
        clear hb2 hbc d0 d1 d2 d3
        cases b with
        | false =>
          have HL := Lib.hid (live_calls w2 (HE.out.below HB2.out))
          go_wp2_with fail
          refine HL.out.mono ?_
          rintro e w4 ⟨rfl, hb4⟩
          have HB4 := Lib.hid (below_next HB2.out hb4)
          clear hb4
          go_wp2_with fail
          go_ret
          exact ⟨rfl, HB4.out⟩
        | true =>
          go_wp2_with fail
          go_roundg (gk - 1)
          case measure => have := HG.out; omega
          case rel => exact ⟨i + 1, by have := HG.out; omega, by rw [HPK.out], by simp, HB2.out, HNX.out (HBC.out (by first | rfl | trivial))⟩
      · have hix : i = xs.length := by omega
        subst hix
        have hback := back_scan (xs := xs) (fun i hi => HCL.out i hi hi)
        have HW := Lib.hid (write_toks_calls A c xs wr (HE.out.below HB.out) (Kd.C_below HC.out HB.out) hc HFT.out (by omega))
        have HSC := Lib.hid (fun (w' : World) hE' => scan_calls (toksB xs) w' hE' (few_len HFL.out))
        have HBK := Lib.hid hback
        clear hback hi
        go_wp2_with fail
        refine HW.out.mono ?_
        rintro e w2 ⟨rfl, hb2⟩
        have HB2 := Lib.hid (below_next HB.out hb2)
        clear hb2 HW
        go_wp2_with fail
        refine (HSC.out w2 (HE.out.below HB2.out)).mono ?_
        rintro e w3 ⟨⟨v, rfl, hv⟩, hb3⟩
        have HB3 := Lib.hid (below_next HB2.out hb3)
        unfold ToksIs at hv
        rw [HBK.out] at hv
        obtain ⟨A', cp, rfl, hcp, hC'⟩ := Kd.R_reads hv
        have HSM := Lib.hid (same_calls A' A cp c xs w3 hC' (Kd.C_below HC.out HB3.out) (by omega) (fun x hx => by have := (HFT.out x hx).len; omega))
        clear hv hb3 hC' hcp HSC HBK
        go_wp2_with fail
        refine HSM.out.mono ?_
        rintro e w4 ⟨rfl, hd⟩
        have HB4 := Lib.hid (below_next HB3.out hd.below)
        clear hd HSM
        have HL := Lib.hid (live_calls w4 (HE.out.below HB4.out))
        go_wp2_with fail
        refine HL.out.mono ?_
        rintro e w5 ⟨rfl, hb5⟩
        have HB5 := Lib.hid (below_next HB4.out hb5)
        clear hb5
        go_wp2_with fail
        go_ret
        exact ⟨rfl, HB5.out⟩
  · rw [Bool.not_eq_true] at hf
    rw [hf] at HF
    go_enter Tryz.func5, Tryz.ntmps5
    go_wp2_with fail
    refine HF.out.mono ?_
    rintro e w1 ⟨rfl, hb⟩
    have HB := Lib.hid hb
    clear hb
    have HL := Lib.hid (live_calls w1 (HE.out.below HB.out))
    go_wp2_with fail
    refine HL.out.mono ?_
    rintro e w4 ⟨rfl, hb4⟩
    have HB4 := Lib.hid (below_next HB.out hb4)
    clear hb4
    go_wp2_with fail
    go_ret
    exact ⟨rfl, HB4.out⟩
end Go.Proofs.YtjlgbkedbbailaaGreatDoor.Mu
