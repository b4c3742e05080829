-- PRINTED by print.py (a twelfth state) out of the translation. Not trusted: Lean checks it.
import Derived.Test.YtjlgbkedbbailaaGreatDoorPr0
import Derived.Test.YtjlgbkedbbailaaGreatDoorPr180
namespace Go.Proofs.YtjlgbkedbbailaaGreatDoor.Pr
open Go.RowKit Go.Proofs.YtjlgbkedbbailaaGreatDoorW.PrintWords Go.Proofs.YtjlgbkedbbailaaGreatDoorW.PrintLast Go.Proofs.YtjlgbkedbbailaaGreatDoorW.PrintMore
attribute [local go_sem] max2_int min2_int max_two min_two max_three min_three max_four min_four   -- for this text's walks alone
set_option linter.unusedVariables false
set_option linter.unusedSimpArgs false

/-! ### muslinref12_Text: function 36 -/
def muslinref12_Text.f (k : Nat) (a0 : ByteArray) : Option (ByteArray) := (muslinref12_write.f k a0 false).bind fun t320 => (some t320)
theorem muslinref12_Text.mono : ∀ a0 k, LeO (muslinref12_Text.f k a0) (muslinref12_Text.f (k + 1) a0) := by
  intro a0 k
  unfold muslinref12_Text.f
  repeat' first
      | (with_reducible exact muslinref12_write.mono _ _ _)
      | (with_reducible exact LeO.refl _)
      | (with_reducible exact LeO.none _)
      | (with_reducible refine LeO.ite ?_ ?_)
      | (with_reducible refine LeO.bind ?_ (fun _ => ?_))
      | exact muslinref12_write.mono _ _ _
      | exact LeO.none _
      | refine LeO.ite ?_ ?_
      | refine LeO.bind ?_ (fun _ => ?_)
set_option maxHeartbeats 8000000 in
set_option maxRecDepth 100000 in
theorem muslinref12_Text.calls (k : Nat) (a0 : ByteArray) (r : ByteArray) (w : World) (h : muslinref12_Text.f k a0 = some r) :
    Calls Tryz.prog 36 #[.string a0] w fun e w' => e = .returned (.string r) ∧ Below w.heap.size w w' := by
  have HB := Aside0.mk (Below.refl w.heap.size w)
  have H : ((muslinref12_write.f k a0 false).bind fun t320 => (some t320)) = some r := h
  clear h
  replace H := Option.bind_eq_some_iff.mp H
  obtain ⟨t320, A20, H⟩ := H
  replace H : (some t320) = some r := H
  have A2 := Aside0.mk A20
  clear A20
  obtain rfl := Option.some.inj H
  go_enter Tryz.func36, Tryz.ntmps36
  go_wp2_with (first | ((with_reducible refine gate_callee (f := 60) rfl ?_); refine goesL_ (some 4) rfl rfl Tryz.func60 (by kernel_rfl) rfl #[.string a0, .bool false] rfl (by (try simp only [List.map_toArray, List.map_cons, List.map_nil]); first | done | rfl | (simp only [List.length_drop, List.length_take]; rfl)) ?_; (with_reducible refine (muslinref12_write.calls k a0 false t320 _ A2.out).mono ?_); rintro e w3 ⟨rfl, hb⟩; refine ⟨_, rfl, ?_⟩; have n0_ := Aside0.mk (below_step (by repeat (first | (with_reducible first | exact HB.out | apply below_alloc | apply pw_below_drewN | apply below_drew1) | exact HB.out)) hb); clear HB; have HB := n0_; clear n0_; (try clear hb); (try clear hb2); (try clear hk); (try clear hi)))
  go_ret
  exact ⟨by first | rfl | (simp [errW_none, errW_some] <;> rfl) | (simp [*, errW_none, errW_some] <;> rfl), by repeat (first | (with_reducible first | exact HB.out | apply below_alloc | apply pw_below_drewN | apply below_drew1) | exact HB.out)⟩

end Go.Proofs.YtjlgbkedbbailaaGreatDoor.Pr
