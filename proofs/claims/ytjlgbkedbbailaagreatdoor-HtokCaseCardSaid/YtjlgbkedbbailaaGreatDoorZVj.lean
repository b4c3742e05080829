/- Walks: the law HtokCase. -/
import Derived.Test.YtjlgbkedbbailaaGreatDoorZQd
set_option linter.unusedVariables false
set_option linter.unusedSimpArgs false
namespace Go.Proofs.YtjlgbkedbbailaaGreatDoor.Mu
open Go.RowKit Go.Proofs.YtjlgbkedbbailaaGreatDoor.Pr Go.Proofs.YtjlgbkedbbailaaGreatDoorW.PrintWords Go.Proofs.YtjlgbkedbbailaaGreatDoorW.PrintLast Go.Proofs.YtjlgbkedbbailaaGreatDoorW.PrintMore
set_option maxRecDepth 20000 in
set_option maxHeartbeats 4000000 in
theorem htokCase_calls (A : Option Addr) (c : Nat) (xs : List S32) (w : World) (hE : Env w) (hC : k32.C w A xs.length xs) (hc : xs.length ≤ c) :
    Calls Tryz.prog 8 #[.slice A xs.length c] w fun e w' => e = .returned (.bool true) ∧ Below w.heap.size w w' := by
  have HF := Lib.hid (few_calls A c xs w hC hc)
  have HE := Lib.hid hE
  have HC := Lib.hid hC
  have hnot : ∀ (x : Bool) (w : World), (Op.unary .not (.bool x)).run Tryz.prog w = .ok (.bool (!x)) w := fun _ _ => rfl
  clear hE hC
  by_cases hf : fewL xs = true
  · rw [hf] at HF
    obtain ⟨h60, hT, hFT⟩ := few_T hf
    have HT := Lib.hid hT
    have HFT := Lib.hid hFT
    have HFL := Lib.hid hf
    clear hFT hf hT
    go_enter Tryz.func8, Tryz.ntmps8
    go_wp2_with fail
    refine HF.out.mono ?_
    rintro e w1 ⟨rfl, hb⟩
    have HB1 := Lib.hid hb
    clear hb
    go_wp2_with fail
    go_loopg [3, 4, 5] xs.length (fun g v3 v4 v5 wx => ∃ i : Nat, g + i = xs.length ∧ v3 = .int .i64 (prevK xs i) ∧ v5 = .int .i64 i ∧ (∃ inner, wx.ownsRow w.heap.size 32 4 v4 i inner ∧ Reps (k32.K w) 4 ((xs.take i).map largeS) inner) ∧ Below w.heap.size w wx ∧ ∀ j (hj : j < xs.length), j < i → CleanS xs[j] (prevK xs j))
    case atStart => exact ⟨0, by omega, rfl, rfl, ⟨[], ⟨rfl, .inl ⟨rfl, rfl⟩⟩, by simpa using Reps.none _ _⟩, HB1.out, fun _ _ h => absurd h (by omega)⟩
    case round =>
      obtain ⟨i, hg, rfl, rfl, ⟨inner, how, hre⟩, hb, hcl⟩ := hrel
      have HOW := Lib.hid how
      have HRE := Lib.hid hre
      clear how hre
      have HG := Lib.hid hg
      have HB := Lib.hid hb
      have HCL := Lib.hid hcl
      have hil : i ≤ xs.length := by omega
      clear hg hb hcl
      by_cases hi : i < xs.length
      · obtain ⟨ad, A2, c2, rfl, d0, d1, d2, d3, hl2, hC2⟩ := at_T32 HC.out (i : Int) (by omega) (by omega)
        have hpk : prevK xs (i + 1) = (rd_T32 xs (i : Int)).f0 := rfl
        rw [rdT_at hi] at d0 d1 d2 d3 hl2 hC2 hpk
        simp only [Int.toNat_natCast] at d0 d1 d2 d3
        have hft := HT.out xs[i] (List.getElem_mem hi)
        have HNX := Lib.hid (fun (h : CleanS xs[i] (prevK xs i)) j (hj : j < xs.length) (h' : j < i + 1) => show CleanS xs[j] (prevK xs j) from by
          rcases Nat.lt_succ_iff_lt_or_eq.1 h' with h'' | rfl
          · exact HCL.out j hj h''
          · exact h)
        obtain ⟨⟨tk, tn, ta, tt⟩, ht⟩ : ∃ t, xs[i] = t := ⟨_, rfl⟩
        rw [ht] at d0 d1 d2 d3 hl2 hC2 hft HNX hpk
        dsimp only at d0 d1 d2 d3 hl2 hC2 hpk
        have HXI := Lib.hid ht
        have HC2 := Lib.hid hC2
        have HL2 := Lib.hid hl2
        replace d0 := pw_cell_below HB.out d0
        replace d1 := pw_cell_below HB.out d1
        replace d2 := pw_cell_below HB.out d2
        replace d3 := pw_cell_below HB.out d3
        have HCC := Lib.hid (clean_calls tk tn ta tt A2 c2 (prevK xs i) wr (HE.out.below HB.out) (Kd.C_below hC2 HB.out) hft)
        have HFX := Lib.hid hft
        have HBW := Lib.hid (fun (w' : World) (h : Below wr.heap.size wr w') => own_move HOW.out (fun k hk => h.block k (own_lt HOW.out k hk)))
        have HPK := Lib.hid hpk
        obtain ⟨was, hwas⟩ : ∃ z, prevK xs i = z := ⟨_, rfl⟩
        rw [hwas] at HCC HNX
        clear hC2 hft ht hpk
        rw [hwas]
        go_wp2_with fail
        refine HCC.out.mono ?_
        rintro e w2 ⟨b, rfl, hbc, hb2⟩
        have HB2 := Lib.hid (below_next HB.out hb2)
        have HOW2 := Lib.hid (HBW.out _ hb2)
        have f0 := pw_cell_below hb2 d0
        have HBC := Lib.hid hbc
        have f1 := pw_cell_below hb2 d1
        have f2 := pw_cell_below hb2 d2
        have f3 := pw_cell_below hb2 d3
        clear hb2 hbc d0 d1 d2 d3
        cases b with
        | false =>
          have HL := Lib.hid (live_calls w2 (HE.out.below HB2.out))
          go_wp2_with fail
          refine HL.out.mono ?_
          rintro e w4 ⟨rfl, hb4⟩
          have HB4 := Lib.hid (below_next HB2.out hb4)
          clear hb4
          go_wp2_with fail
          go_ret
          exact ⟨rfl, HB4.out⟩
        | true =>
          obtain ⟨nl, rfl⟩ : ∃ nl : Bs, tn = ⟨nl.toArray⟩ := ⟨tn.data.toList, by simp⟩
          have hnl : nl.length ≤ 300 := by
            have := HFX.out
            simp only [fewT, Bool.and_eq_true, decide_eq_true_eq] at this
            exact this.1.1.1
          have hbm : ∀ (w : World), Sem.run Tryz.prog (convert 9 36 (Value.string ⟨nl.toArray⟩)) w = Result.ok (Value.slice (some { block := w.heap.size, off := 0 }) nl.length (grownCap w nl.length 0 5)) (Lib.bytesWorld w 5 ⟨nl.toArray⟩) := fun w => Lib.run_convert_string_bytes (P := Tryz.prog) w 9 36 5 ⟨nl.toArray⟩ Tryz.underlying9 Tryz.underlying36 Tryz.underlying5
          have hB6 := BlkL.new w2 32 [.int .i64 tk, .string ⟨nl.toArray⟩, .slice A2 ta.length c2, .string tt]
          have hsz6 : (w2.alloc (.cells [.int .i64 tk, .string ⟨nl.toArray⟩, .slice A2 ta.length c2, .string tt].toArray 32)).heap.size = w2.heap.size + 1 := by
            show (w2.heap.push _).size = _
            simp
          have hb6 : Below w2.heap.size w2 (w2.alloc (.cells [.int .i64 tk, .string ⟨nl.toArray⟩, .slice A2 ta.length c2, .string tt].toArray 32)) := below_alloc (Below.refl _ _) _
          obtain ⟨go, hgo⟩ : ∃ go : Nat, go = gk := ⟨_, rfl⟩
          subst hgo
          obtain ⟨wo, hwo⟩ : ∃ wo : World, wo = wr := ⟨_, rfl⟩
          subst hwo
          go_wp2_with fail
          clear hbm f0 f1 f2 f3
          generalize w2.alloc _ = w6 at *
          have HB6 := Lib.hid hB6
          have HBE := Lib.hid hb6
          clear hB6 hb6
          go_loopg [8] nl.length (fun g v8 wx => ∃ k : Nat, g + k = nl.length ∧ v8 = .int .i64 k ∧ LargeRel w6 nl k wx)
          case atStart => exact ⟨0, by omega, rfl, LargeRel.start w6 nl⟩
          case round =>
            obtain ⟨k, hk, rfl, hr⟩ := hrel
            have HK := Lib.hid hk
            have hkl : k ≤ nl.length := by omega
            clear hk
            by_cases hlt : k < nl.length
            · obtain ⟨hc, hf⟩ := hr.cell hlt
              obtain ⟨c, hcc⟩ : ∃ c, nl[k] = c := ⟨_, rfl⟩
              rw [hcc] at hc
              have hset := fun x hx => hr.set_ hlt (x := x) hx
              have hkeep := hr.keep hlt
              rw [hcc] at hset hkeep
              rw [hsz6] at hc hf hset
              have HS := Lib.hid (And.intro hset hkeep)
              clear hset hkeep hcc hr
              have hcb := c.toNat_lt
              go_wp2_with fail
              all_goals
                go_roundg (gk - 1)
                case measure => have := HK.out; omega
                case rel => first | exact ⟨k + 1, by have := HK.out; omega, by simp, HS.out.1 _ (up_in c (by assumption) (by assumption))⟩ | exact ⟨k + 1, by have := HK.out; omega, by simp, HS.out.2 (up_out c (by omega))⟩
            · have hkk : k = nl.length := by omega
              subst hkk
              have hcb := fun (w' : World) hc => run_convert_bytes_back (P := Tryz.prog) w' 36 9 5 ⟨w2.heap.size + 1, 0, none⟩ (grownCap w6 nl.length 0 5) (large nl) Tryz.underlying36 Tryz.underlying5 Tryz.underlying9 hc
              have hend := hr.end_
              rw [hsz6] at hend
              have hcv := hcb wr hend
              have hll : (large nl).length = nl.length := by simp [large]
              rw [hll] at hcv
              have hbb := below_next HBE.out hr.below
              have hB := HB6.out.below hr.below (by rw [hsz6]; omega)
              have hfz := hB.f 1
              have h1 := hB.cell (i := 1) rfl
              obtain ⟨wS, hwS⟩ : ∃ wS, wr.setCell ⟨w2.heap.size, 1, none⟩ (.string ⟨(large nl).toArray⟩) = wS := ⟨_, rfl⟩
              have hBS := hB.set_ 1 (.string ⟨(large nl).toArray⟩)
              rw [hwS] at hBS
              have s0 := hBS.cell (i := 0) rfl
              have s1 := hBS.cell (i := 1) rfl
              have s2 := hBS.cell (i := 2) rfl
              have s3 := hBS.cell (i := 3) rfl
              have hbS : Below w2.heap.size w2 wS := by rw [← hwS]; exact hbb.setCell (Nat.le_refl _) _
              have HBS := Lib.hid (below_next HB2.out hbS)
              have HOWS := Lib.hid (own_move HOW2.out (fun k hk => hbS.block k (own_lt HOW2.out k hk)))
              clear hcb hend hr hll hbb hB hBS hbS
              go_wp2_with (at_builtin; refine print_append_cells (W := wS) (w0 := w) w.heap.size rfl (.tmp 68) (.tmp 70) 24 32 (.agg #[(.int .i64 0), (.string ⟨#[]⟩), (.slice none 0 0), (.string ⟨#[]⟩)]) 4 64 rfl Tryz.underlying24 info_tok rfl (by decide) (by decide) u4 i inner [.int .i64 tk, .string ⟨(large nl).toArray⟩, .slice A2 ta.length c2, .string tt] rfl rfl rfl (by simp [Value.oneCell']) ?aO ?aB ?aS ?aL ?_)
              case aO => exact HOWS.out
              case aB => exact HBS.out
              case aS => exact HBS.out.size
              case aL => omega
              rintro v1 w9 hown hB9 - -
              have HO9 := Lib.hid hown
              have HB9 := Lib.hid hB9
              clear hown hB9
              go_wp2_with fail
              go_roundg (go - 1)
              case measure => have := HG.out; omega
              case rel => exact ⟨i + 1, by have := HG.out; omega, by rw [HPK.out], by simp, ⟨_, HO9.out, by
                rw [List.take_succ_eq_append_getElem hi, HXI.out, List.map_append]
                exact HRE.out.snoc (k32_mk w (largeS ⟨tk, ⟨nl.toArray⟩, ta, tt⟩) HL2.out HC2.out) rfl⟩, HB9.out, HNX.out (HBC.out (by first | rfl | trivial))⟩
      · have hix : i = xs.length := by omega
        subst hix
        have hback := large_scan (xs := xs) (fun i hi => HCL.out i hi hi)
        have hrow : OwnRow (k32.K w) 32 4 wr w.heap.size u4 (xs.map largeS) := ⟨inner, by rw [List.length_map]; exact HOW.out, by have := HRE.out; rwa [List.take_length] at this⟩
        obtain ⟨AL, cL, rfl, hcL, hrL⟩ := hrow.reads
        have hCL : k32.C wr AL (xs.map largeS).length (xs.map largeS) := hrL.imp_ (Below.refl _ _) (fun _ _ hp => k32.K_below HB.out hp)
        have hfl := few_large HFL.out
        obtain ⟨_, _, hFL⟩ := few_T hfl
        have HW := Lib.hid (write_toks_calls AL cL (xs.map largeS) wr (HE.out.below HB.out) hCL hcL hFL (by rw [List.length_map]; omega))
        have HSC := Lib.hid (fun (w' : World) hE' => scan_calls (toksB (xs.map largeS)) w' hE' (few_len hfl))
        have HBK := Lib.hid hback
        rw [List.length_map] at HW
        rw [List.length_map]
        clear hback hi hrL hCL hfl hFL hcL
        go_wp2_with fail
        refine HW.out.mono ?_
        rintro e w2 ⟨rfl, hb2⟩
        have HB2 := Lib.hid (below_next HB.out hb2)
        clear hb2 HW
        go_wp2_with fail
        refine (HSC.out w2 (HE.out.below HB2.out)).mono ?_
        rintro e w3 ⟨⟨v, rfl, hv⟩, hb3⟩
        have HB3 := Lib.hid (below_next HB2.out hb3)
        unfold ToksIs at hv
        rw [HBK.out] at hv
        obtain ⟨A', cp, rfl, hcp, hC'⟩ := Kd.R_reads hv
        have HSM := Lib.hid (same_calls A' A cp c xs w3 hC' (Kd.C_below HC.out HB3.out) (by omega) (fun x hx => by have := (HFT.out x hx).len; omega))
        clear hv hb3 hC' hcp HSC HBK
        go_wp2_with fail
        refine HSM.out.mono ?_
        rintro e w4 ⟨rfl, hd⟩
        have HB4 := Lib.hid (below_next HB3.out hd.below)
        clear hd HSM
        have HL := Lib.hid (live_calls w4 (HE.out.below HB4.out))
        go_wp2_with fail
        refine HL.out.mono ?_
        rintro e w5 ⟨rfl, hb5⟩
        have HB5 := Lib.hid (below_next HB4.out hb5)
        clear hb5
        go_wp2_with fail
        go_ret
        exact ⟨rfl, HB5.out⟩
  · rw [Bool.not_eq_true] at hf
    rw [hf] at HF
    go_enter Tryz.func8, Tryz.ntmps8
    go_wp2_with fail
    refine HF.out.mono ?_
    rintro e w1 ⟨rfl, hb⟩
    have HB := Lib.hid hb
    clear hb
    have HL := Lib.hid (live_calls w1 (HE.out.below HB.out))
    go_wp2_with fail
    refine HL.out.mono ?_
    rintro e w4 ⟨rfl, hb4⟩
    have HB4 := Lib.hid (below_next HB.out hb4)
    clear hb4
    go_wp2_with fail
    go_ret
    exact ⟨rfl, HB4.out⟩
end Go.Proofs.YtjlgbkedbbailaaGreatDoor.Mu
