/- Walks: muslinref03.Small. -/
import Derived.Test.YtjlgbkedbbailaaGreatDoorZBV
set_option linter.unusedVariables false
set_option linter.unusedSimpArgs false
namespace Go.Proofs.YtjlgbkedbbailaaGreatDoor.Mu
open Go.RowKit
theorem low_add (c : UInt8) (h1 : 65 ≤ (c.toNat : Int)) (h2 : (c.toNat : Int) ≤ 90) : (c.toNat : Int) + 32 = ((low c).toNat : Int) := by
  rw [← low_in c h1 h2]; omega
set_option maxHeartbeats 1000000 in
theorem refSmall_calls (l : Bs) (w : World) (hs : l.length ≤ 140737488351232) :
    Calls Tryz.prog 20 #[.string ⟨l.toArray⟩] w fun e w' => e = .returned (.string ⟨(small l).toArray⟩) ∧ Below w.heap.size w w' := by
  have hbm : ∀ (w : World), Sem.run Tryz.prog (convert 9 36 (Value.string ⟨l.toArray⟩)) w = Result.ok (Value.slice (some { block := w.heap.size, off := 0 }) l.length (grownCap w l.length 0 5)) (Lib.bytesWorld w 5 ⟨l.toArray⟩) := fun w => Lib.run_convert_string_bytes (P := Tryz.prog) w 9 36 5 ⟨l.toArray⟩ Tryz.underlying9 Tryz.underlying36 Tryz.underlying5
  go_enter Tryz.func20, Tryz.ntmps20
  go_wp2
  go_loopw [4] (fun i wr => ∃ k : Nat, k ≤ l.length ∧ i = .int .i64 k ∧ SmallRel w l k wr) (fun i _ => l.length - (intOf i).toNat)
  case atStart => exact ⟨0, Nat.zero_le _, rfl, SmallRel.start w l⟩
  case round =>
    obtain ⟨k, hk, rfl, hr⟩ := hrel
    clear hbm
    by_cases hlt : k < l.length
    · obtain ⟨hc, hf⟩ := hr.cell hlt
      obtain ⟨c, hcc⟩ : ∃ c, l[k] = c := ⟨_, rfl⟩
      rw [hcc] at hc
      have hset := fun x hx => hr.set_ hlt (x := x) hx
      have hkeep := hr.keep hlt
      rw [hcc] at hset hkeep
      have HS := Lib.hid (And.intro hset hkeep); clear hset hkeep hcc hr
      have hcb := c.toNat_lt
      go_wp2
      all_goals
        go_roundw
        case rel => first | exact ⟨k + 1, by omega, by go_num, HS.out.1 _ (low_add c (by assumption) (by assumption))⟩ | exact ⟨k + 1, by omega, by go_num, HS.out.2 (low_out c (by omega))⟩
        case measure => simp [intOf]; omega
    · have : k = l.length := by omega
      subst this
      have hcb := fun (w' : World) hc => run_convert_bytes_back (P := Tryz.prog) w' 36 9 5 ⟨w.heap.size, 0, none⟩ (grownCap w l.length 0 5) (small l) Tryz.underlying36 Tryz.underlying5 Tryz.underlying9 hc
      have hcv := hcb wr hr.end_
      have hl2 : (small l).length = l.length := by simp [small]
      rw [hl2] at hcv
      clear hcb
      have hbe := hr.below
      clear hr hl2
      go_wp2
      go_ret
      exact ⟨rfl, hbe⟩
end Go.Proofs.YtjlgbkedbbailaaGreatDoor.Mu
