/- Walks: the law HtokText. -/
import Derived.Test.YtjlgbkedbbailaaGreatDoorZVe
set_option linter.unusedVariables false
set_option linter.unusedSimpArgs false
namespace Go.Proofs.YtjlgbkedbbailaaGreatDoor.Mu
open Go.RowKit Go.Proofs.YtjlgbkedbbailaaGreatDoor.Pr Go.Proofs.YtjlgbkedbbailaaGreatDoorW.PrintWords Go.Proofs.YtjlgbkedbbailaaGreatDoorW.PrintLast Go.Proofs.YtjlgbkedbbailaaGreatDoorW.PrintMore
set_option maxRecDepth 20000 in
set_option maxHeartbeats 4000000 in
theorem htokText_calls (s : Bs) (w : World) (hE : Env w) (hs : s.length ≤ 9223372036854775807) :
    Calls Tryz.prog 7 #[.string ⟨s.toArray⟩] w fun e w' => e = .returned (.bool true) ∧ Below w.heap.size w w' := by
  have HL := Lib.hid (live_calls w hE)
  have HE := Lib.hid hE
  clear hE
  by_cases h300 : 1500 < s.length
  · go_enter Tryz.func7, Tryz.ntmps7
    go_wp2_with fail
    refine HL.out.mono ?_
    rintro e w1 ⟨rfl, hb⟩
    have HB := Lib.hid hb
    clear hb
    go_wp2_with fail
    go_ret
    exact ⟨rfl, HB.out⟩
  · go_enter Tryz.func7, Tryz.ntmps7
    go_wp2_with fail
    go_loop [3] (fun i => ∃ k : Nat, k ≤ s.length ∧ i = .int .i64 k ∧ ∀ c ∈ s.take k, c ≠ 60) (fun i => s.length - (intOf i).toNat)
    case atStart => exact ⟨0, Nat.zero_le _, rfl, by simp⟩
    case round =>
      obtain ⟨k, hk, rfl, hno⟩ := hrel
      have HN := Lib.hid hno
      clear hno
      by_cases hlt : k < s.length
      · have hix := byte_at hlt
        have HNX := Lib.hid (fun (h : s[k] ≠ 60) => show ∀ c ∈ s.take (k + 1), c ≠ 60 from by
          intro c hc
          rw [List.take_succ_eq_append_getElem hlt] at hc
          rcases List.mem_append.1 hc with hc | hc
          · exact HN.out c hc
          · rw [List.mem_singleton.1 hc]; exact h)
        obtain ⟨c, hcc⟩ : ∃ c, s[k] = c := ⟨_, rfl⟩
        rw [hcc] at HNX
        have hix' : ∀ h', (⟨s.toArray⟩ : ByteArray)[k]'h' = c := fun h' => (hix h').trans hcc
        clear hix hcc
        by_cases h60 : c = 60
        · subst h60
          go_wp2_with fail
          refine HL.out.mono ?_
          rintro e w1 ⟨rfl, hb⟩
          have HB := Lib.hid hb
          clear hb
          go_wp2_with fail
          go_ret
          exact ⟨rfl, HB.out⟩
        · have n1 : ((c.toNat : Int) == 60) = false := u8_ne (n := 60) (by omega) h60
          have HN2 := Lib.hid (HNX.out h60)
          clear HNX h60
          go_wp2_with fail
          go_round
          case rel => exact ⟨k + 1, by omega, by simp, HN2.out⟩
          case measure => simp [intOf]; omega
      · have hkl : k = s.length := by omega
        subst hkl
        have hno := HN.out
        rw [List.take_length] at hno
        have hsc := scan_text s hno
        have HSC := Lib.hid (scan_calls s w HE.out (by omega))
        rw [hsc] at HSC
        have hdl := dec_len_le s
        clear hno hsc
        cases s with
        | nil =>
          rw [if_pos rfl] at HSC
          go_wp2_with fail
          refine HSC.out.mono ?_
          rintro e w1 ⟨⟨v, rfl, hv⟩, hb⟩
          obtain ⟨A, cp, rfl, hcp, hC⟩ := Kd.R_reads hv
          have HB := Lib.hid hb
          have HL2 := Lib.hid (live_calls w1 (HE.out.below hb))
          clear hC hv hb hcp
          rw [show (([] : List Tok).map tokS).length = 0 from rfl]
          go_wp2_with fail
          refine HL2.out.mono ?_
          rintro e w2 ⟨rfl, hb2⟩
          have HB2 := Lib.hid hb2
          clear hb2
          go_wp2_with fail
          go_ret
          exact ⟨rfl, below_next HB.out HB2.out⟩
        | cons c r =>
          rw [if_neg (by simp)] at HSC
          have hne : ((c :: r) == ([] : Bs)) = false := rfl
          obtain ⟨t, ht⟩ : ∃ t, dec (c :: r) = t := ⟨_, rfl⟩
          rw [ht] at HSC hdl
          clear ht
          go_wp2_with fail
          refine HSC.out.mono ?_
          rintro e w1 ⟨⟨v, rfl, hv⟩, hb⟩
          obtain ⟨A, cp, rfl, hcp, hC⟩ := Kd.R_reads hv
          obtain ⟨ad, a2, k2, rfl, d0, d1, d2, d3, _, _⟩ := at_T32 hC 0 (by omega) (by show (0 : Int) < ((1 : Nat) : Int); decide)
          have d0' : w1.cell? ad = some (.int .i64 1) := d0
          have d3' : w1.cell? ⟨ad.block, ad.off + 3, none⟩ = some (.string ⟨t.toArray⟩) := d3
          have HB := Lib.hid hb
          have HL2 := Lib.hid (live_calls w1 (HE.out.below hb))
          have hle : (t.length : Int) ≤ (r.length : Int) + 1 := by simp only [List.length_cons] at hdl; omega
          clear d0 d1 d2 d3 hC hv hb hcp hdl
          rw [show ([chars t].map tokS).length = 1 from rfl]
          go_wp2_with fail
          refine HL2.out.mono ?_
          rintro e w2 ⟨rfl, hb2⟩
          have HB2 := Lib.hid hb2
          clear hb2
          go_wp2_with fail
          go_ret
          exact ⟨rfl, below_next HB.out HB2.out⟩
end Go.Proofs.YtjlgbkedbbailaaGreatDoor.Mu
