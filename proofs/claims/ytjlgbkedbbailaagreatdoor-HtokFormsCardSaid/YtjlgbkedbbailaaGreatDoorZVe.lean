/- Walks: the laws HtokComment and HtokText. -/
import Derived.Test.YtjlgbkedbbailaaGreatDoorZBV
import Derived.Test.YtjlgbkedbbailaaGreatDoorZBM
set_option linter.unusedVariables false
set_option linter.unusedSimpArgs false
namespace Go.Proofs.YtjlgbkedbbailaaGreatDoor.Mu
open Go.RowKit Go.Proofs.YtjlgbkedbbailaaGreatDoor.Pr Go.Proofs.YtjlgbkedbbailaaGreatDoorW.PrintWords Go.Proofs.YtjlgbkedbbailaaGreatDoorW.PrintLast Go.Proofs.YtjlgbkedbbailaaGreatDoorW.PrintMore
theorem byte_at {s : Bs} {k : Nat} (h : k < s.length) : ∀ h', (⟨s.toArray⟩ : ByteArray)[k]'h' = s[k]'h := fun _ => rfl
theorem u8_ne {c : UInt8} {n : Nat} (hn : n < 256) (h : c ≠ UInt8.ofNat n) : ((c.toNat : Int) == (n : Int)) = false := by
  rw [beq_eq_false_iff_ne]
  intro e
  refine h (UInt8.toNat_inj.1 ?_)
  rw [UInt8.toNat_ofNat', Nat.mod_eq_of_lt (by omega)]
  omega
set_option maxRecDepth 20000 in
set_option maxHeartbeats 4000000 in
theorem htokComment_calls (s : Bs) (w : World) (hE : Env w) (hs : s.length ≤ 9223372036854775807) :
    Calls Tryz.prog 9 #[.string ⟨s.toArray⟩] w fun e w' => e = .returned (.bool true) ∧ Below w.heap.size w w' := by
  have HL := Lib.hid (live_calls w hE)
  have HE := Lib.hid hE
  clear hE
  by_cases h300 : 300 < s.length
  · go_enter Tryz.func9, Tryz.ntmps9
    go_wp2_with fail
    refine HL.out.mono ?_
    rintro e w1 ⟨rfl, hb⟩
    have HB := Lib.hid hb
    clear hb
    go_wp2_with fail
    go_ret
    exact ⟨rfl, HB.out⟩
  · go_enter Tryz.func9, Tryz.ntmps9
    go_wp2_with fail
    go_loop [3] (fun i => ∃ k : Nat, k ≤ s.length ∧ i = .int .i64 k ∧ ∀ c ∈ s.take k, c ≠ 45 ∧ c ≠ 62) (fun i => s.length - (intOf i).toNat)
    case atStart => exact ⟨0, Nat.zero_le _, rfl, by simp⟩
    case round =>
      obtain ⟨k, hk, rfl, hno⟩ := hrel
      have HN := Lib.hid hno
      clear hno
      by_cases hlt : k < s.length
      · have hix := byte_at hlt
        have HNX := Lib.hid (fun (h : s[k] ≠ 45 ∧ s[k] ≠ 62) => show ∀ c ∈ s.take (k + 1), c ≠ 45 ∧ c ≠ 62 from by
          intro c hc
          rw [List.take_succ_eq_append_getElem hlt] at hc
          rcases List.mem_append.1 hc with hc | hc
          · exact HN.out c hc
          · rw [List.mem_singleton.1 hc]; exact h)
        obtain ⟨c, hcc⟩ : ∃ c, s[k] = c := ⟨_, rfl⟩
        rw [hcc] at HNX
        have hix' : ∀ h', (⟨s.toArray⟩ : ByteArray)[k]'h' = c := fun h' => (hix h').trans hcc
        clear hix hcc
        by_cases h45 : c = 45
        · subst h45
          go_wp2_with fail
          refine HL.out.mono ?_
          rintro e w1 ⟨rfl, hb⟩
          have HB := Lib.hid hb
          clear hb
          go_wp2_with fail
          go_ret
          exact ⟨rfl, HB.out⟩
        · by_cases h62 : c = 62
          · subst h62
            go_wp2_with fail
            refine HL.out.mono ?_
            rintro e w1 ⟨rfl, hb⟩
            have HB := Lib.hid hb
            clear hb
            go_wp2_with fail
            go_ret
            exact ⟨rfl, HB.out⟩
          · have n1 : ((c.toNat : Int) == 45) = false := u8_ne (n := 45) (by omega) h45
            have n2 : ((c.toNat : Int) == 62) = false := u8_ne (n := 62) (by omega) h62
            have HN2 := Lib.hid (HNX.out ⟨h45, h62⟩)
            clear HNX h45 h62
            go_wp2_with fail
            go_round
            case rel => exact ⟨k + 1, by omega, by simp, HN2.out⟩
            case measure => simp [intOf]; omega
      · have hkl : k = s.length := by omega
        subst hkl
        have hno := HN.out
        rw [List.take_length] at hno
        have hsc := scan_comment s hno
        have p1 : (⟨#[60, 98, 62, 60, 33, 45, 45]⟩ : ByteArray) ++ ⟨s.toArray⟩ = ⟨(60 :: 98 :: 62 :: 60 :: 33 :: 45 :: 45 :: s).toArray⟩ := by apply ByteArray.ext; simp
        have p2 : (⟨(60 :: 98 :: 62 :: 60 :: 33 :: 45 :: 45 :: s).toArray⟩ : ByteArray) ++ ⟨#[45, 45, 62, 60, 47, 98, 62]⟩ = ⟨([60, 98, 62, 60, 33, 45, 45] ++ s ++ [45, 45, 62, 60, 47, 98, 62]).toArray⟩ := by apply ByteArray.ext; simp
        have q1 : ¬ 9223372036854775807 < 7 + s.length := by omega
        have q2 : ¬ 9223372036854775807 < s.length + 1 + 1 + 1 + 1 + 1 + 1 + 1 + 7 := by omega
        have HSC := Lib.hid (scan_calls ([60, 98, 62, 60, 33, 45, 45] ++ s ++ [45, 45, 62, 60, 47, 98, 62]) w HE.out (by simp; omega))
        rw [hsc, show [60, 98, 62, 60, 33, 45, 45] ++ s ++ [45, 45, 62, 60, 47, 98, 62] = 60 :: 98 :: 62 :: 60 :: 33 :: 45 :: 45 :: (s ++ [45, 45, 62, 60, 47, 98, 62]) from rfl] at HSC
        clear hno hsc
        go_wp2_with fail
        refine HSC.out.mono ?_
        rintro e w1 ⟨⟨v, rfl, hv⟩, hb⟩
        obtain ⟨A, cp, rfl, hcp, hC⟩ := Kd.R_reads hv
        obtain ⟨ad, a2, k2, rfl, d0, d1, d2, d3, _, _⟩ := at_T32 hC 0 (by omega) (by show (0 : Int) < ((3 : Nat) : Int); decide)
        obtain ⟨ad1, a3, k3, h1, e0, e1, e2, e3, _, _⟩ := at_T32 hC 1 (by omega) (by show (1 : Int) < ((3 : Nat) : Int); decide)
        obtain ⟨ad2, a4, k4, h2, f0, f1, f2, f3, _, _⟩ := at_T32 hC 2 (by omega) (by show (2 : Int) < ((3 : Nat) : Int); decide)
        obtain rfl := Option.some.inj h1
        obtain rfl := Option.some.inj h2
        have d1' : w1.cell? ⟨ad.block, ad.off + 1, none⟩ = some (.string ⟨#[98]⟩) := d1
        have e0' : w1.cell? ⟨ad.block, ad.off + 4, none⟩ = some (.int .i64 4) := e0
        have e3' : w1.cell? ⟨ad.block, ad.off + 4 + 3, none⟩ = some (.string ⟨s.toArray⟩) := e3
        have f0' : w1.cell? ⟨ad.block, ad.off + 8, none⟩ = some (.int .i64 3) := f0
        have HB := Lib.hid hb
        have HL2 := Lib.hid (live_calls w1 (HE.out.below hb))
        clear d0 d1 d2 d3 e0 e1 e2 e3 f0 f1 f2 f3 hC hv hb h1 h2 hcp p1 p2 q1 q2
        rw [show ([⟨2, [98], [], []⟩, comment s, ⟨3, [98], [], []⟩].map tokS).length = 3 from rfl]
        go_wp2_with fail
        refine HL2.out.mono ?_
        rintro e w2 ⟨rfl, hb2⟩
        have HB2 := Lib.hid hb2
        clear hb2
        go_wp2_with fail
        go_ret
        exact ⟨rfl, below_next HB.out HB2.out⟩
end Go.Proofs.YtjlgbkedbbailaaGreatDoor.Mu
