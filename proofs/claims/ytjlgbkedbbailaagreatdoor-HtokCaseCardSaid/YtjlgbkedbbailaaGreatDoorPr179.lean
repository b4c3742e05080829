-- PRINTED by print.py (a twelfth state) out of the translation. Not trusted: Lean checks it.
import Derived.Test.YtjlgbkedbbailaaGreatDoorPr0
namespace Go.Proofs.YtjlgbkedbbailaaGreatDoor.Pr
open Go.RowKit Go.Proofs.YtjlgbkedbbailaaGreatDoorW.PrintWords Go.Proofs.YtjlgbkedbbailaaGreatDoorW.PrintLast Go.Proofs.YtjlgbkedbbailaaGreatDoorW.PrintMore
attribute [local go_sem] max2_int min2_int max_two min_two max_three min_three max_four min_four   -- for this text's walks alone
set_option linter.unusedVariables false
set_option linter.unusedSimpArgs false

/-! ### muslinref13_Few: function 16 -/
mutual
def muslinref13_Few.l0 : Nat → List (S32) → Int → Option (Bool)
  | 0, _, _ => none
  | k + 1, x0, x3 => if x3 < (x0.length : Int) then (if 0 ≤ x3 then (if (((rd_T32 x0 x3).f1).size : Int) > 300 then (muslinref13_Few.j1 k x0 x3 true) else (if (((rd_T32 x0 x3).f3).size : Int) > 300 then (muslinref13_Few.j1 k x0 x3 true) else (muslinref13_Few.j1 k x0 x3 (decide ((((rd_T32 x0 x3).f2).length : Int) > 40))))) else (none)) else (some true)
def muslinref13_Few.j1 : Nat → List (S32) → Int → Bool → Option (Bool)
  | 0, _, _, _ => none
  | k + 1, x0, x3, x38 => if x38 = true then (some false) else (muslinref13_Few.l1 k x0 x3 0)
def muslinref13_Few.l1 : Nat → List (S32) → Int → Int → Option (Bool)
  | 0, _, _, _ => none
  | k + 1, x0, x3, x4 => if 0 ≤ x3 then (if x3 < (x0.length : Int) then (if x4 < (((rd_T32 x0 x3).f2).length : Int) then (if 0 ≤ x4 then (if (((rd_T35 ((rd_T32 x0 x3).f2) x4).f0).size : Int) > 300 then (some false) else (if (((rd_T35 ((rd_T32 x0 x3).f2) x4).f1).size : Int) > 300 then (some false) else (muslinref13_Few.l1 k x0 x3 (wrap64 (x4 + 1))))) else (none)) else (muslinref13_Few.l0 k x0 (wrap64 (x3 + 1)))) else (none)) else (none)
end
def muslinref13_Few.f (k : Nat) (l0 : List (S32)) : Option (Bool) := if (l0.length : Int) > 60 then (some false) else (muslinref13_Few.l0 k l0 0)
theorem muslinref13_Few.mono_l : ∀ k, (∀ y0 y1, LeO (muslinref13_Few.l0 k y0 y1) (muslinref13_Few.l0 (k + 1) y0 y1)) ∧ (∀ y0 y1 y2, LeO (muslinref13_Few.j1 k y0 y1 y2) (muslinref13_Few.j1 (k + 1) y0 y1 y2)) ∧ (∀ y0 y1 y2, LeO (muslinref13_Few.l1 k y0 y1 y2) (muslinref13_Few.l1 (k + 1) y0 y1 y2))
  | 0 => ⟨fun _ _ r h => by simp [muslinref13_Few.l0] at h, fun _ _ _ r h => by simp [muslinref13_Few.j1] at h, fun _ _ _ r h => by simp [muslinref13_Few.l1] at h⟩
  | k + 1 => by
    obtain ⟨ih0, ih1, ih2⟩ := muslinref13_Few.mono_l k
    refine ⟨?_, ?_, ?_⟩
    · intro y0 y1
      unfold muslinref13_Few.l0
      repeat' first
      | (with_reducible exact ih0 _ _)
      | (with_reducible exact ih1 _ _ _)
      | (with_reducible exact ih2 _ _ _)
      | (with_reducible exact LeO.refl _)
      | (with_reducible exact LeO.none _)
      | (with_reducible refine LeO.ite ?_ ?_)
      | (with_reducible refine LeO.bind ?_ (fun _ => ?_))
      | exact ih0 _ _
      | exact ih1 _ _ _
      | exact ih2 _ _ _
      | exact LeO.none _
      | refine LeO.ite ?_ ?_
      | refine LeO.bind ?_ (fun _ => ?_)
    · intro y0 y1 y2
      unfold muslinref13_Few.j1
      repeat' first
      | (with_reducible exact ih0 _ _)
      | (with_reducible exact ih1 _ _ _)
      | (with_reducible exact ih2 _ _ _)
      | (with_reducible exact LeO.refl _)
      | (with_reducible exact LeO.none _)
      | (with_reducible refine LeO.ite ?_ ?_)
      | (with_reducible refine LeO.bind ?_ (fun _ => ?_))
      | exact ih0 _ _
      | exact ih1 _ _ _
      | exact ih2 _ _ _
      | exact LeO.none _
      | refine LeO.ite ?_ ?_
      | refine LeO.bind ?_ (fun _ => ?_)
    · intro y0 y1 y2
      unfold muslinref13_Few.l1
      repeat' first
      | (with_reducible exact ih0 _ _)
      | (with_reducible exact ih1 _ _ _)
      | (with_reducible exact ih2 _ _ _)
      | (with_reducible exact LeO.refl _)
      | (with_reducible exact LeO.none _)
      | (with_reducible refine LeO.ite ?_ ?_)
      | (with_reducible refine LeO.bind ?_ (fun _ => ?_))
      | exact ih0 _ _
      | exact ih1 _ _ _
      | exact ih2 _ _ _
      | exact LeO.none _
      | refine LeO.ite ?_ ?_
      | refine LeO.bind ?_ (fun _ => ?_)
theorem muslinref13_Few.mono : ∀ a0 k, LeO (muslinref13_Few.f k a0) (muslinref13_Few.f (k + 1) a0) := by
  intro a0 k
  obtain ⟨ih0, ih1, ih2⟩ := muslinref13_Few.mono_l k
  unfold muslinref13_Few.f
  repeat' first
      | (with_reducible exact ih0 _ _)
      | (with_reducible exact ih1 _ _ _)
      | (with_reducible exact ih2 _ _ _)
      | (with_reducible exact LeO.refl _)
      | (with_reducible exact LeO.none _)
      | (with_reducible refine LeO.ite ?_ ?_)
      | (with_reducible refine LeO.bind ?_ (fun _ => ?_))
      | exact ih0 _ _
      | exact ih1 _ _ _
      | exact ih2 _ _ _
      | exact LeO.none _
      | refine LeO.ite ?_ ?_
      | refine LeO.bind ?_ (fun _ => ?_)
set_option maxHeartbeats 8000000 in
set_option maxRecDepth 100000 in
theorem muslinref13_Few.calls (k : Nat) (A0 : Option Addr) (c0 : Nat) (l0 : List (S32)) (r : Bool) (w : World) (hr0 : Kd.C k32 w A0 l0.length l0) (hc0 : l0.length ≤ c0) (h : muslinref13_Few.f k l0 = some r) :
    Calls Tryz.prog 16 #[.slice A0 l0.length c0] w fun e w' => e = .returned (.bool r) ∧ Drawn0 w w' := by
  have HR0 := Aside0.mk hr0
  have HC0 := Aside0.mk hc0
  clear hr0 hc0
  have H : (if (l0.length : Int) > 60 then (some false) else (muslinref13_Few.l0 k l0 0)) = some r := h
  clear h
  by_cases c2 : (l0.length : Int) > 60
  · rw [if_pos c2] at H
    have c2b0 : decide (60 < (l0.length : Int)) = true := decide_eq_true c2
    have c2b1 : decide (60 < l0.length) = true := decide_eq_true (by omega)
    clear c2
    obtain rfl := Option.some.inj H
    go_enter Tryz.func16, Tryz.ntmps16
    go_wp2
    go_ret
    exact ⟨by first | rfl | (simp; done) | (simp [*]; done), by repeat (first | exact Drawn0.refl _ | apply Drawn0.step)⟩
  · rw [if_neg c2] at H
    have c2b0 : decide (60 < (l0.length : Int)) = false := decide_eq_false c2
    have c2b1 : decide (60 < l0.length) = false := decide_eq_false (by omega)
    clear c2
    have H' := Aside0.mk H
    clear H
    go_enter Tryz.func16, Tryz.ntmps16
    go_wp2
    go_loopg [3] k (fun kq v3 w' => ∃ (x3_1 : Int), v3 = .int .i64 x3_1 ∧ Aside0 (muslinref13_Few.l0 kq l0 x3_1 = some r) ∧ Aside0 (kq ≤ k) ∧ Drawn0 w w')
    case atStart => exact ⟨(0), (by first | rfl | (simp; done) | (simp [*]; done)), H', ⟨Nat.le_refl _⟩, by repeat (first | exact Drawn0.refl _ | apply Drawn0.step)⟩
    case round =>
      clear H'
      try clear c1
      try clear c2
      try clear c2b0
      try clear c2b1
      try clear p2
      obtain ⟨x3_1, rfl, HA, HK1, ⟨m1, rfl⟩⟩ := hrel
      cases gk with
      | zero => exact absurd HA.out (by simp [muslinref13_Few.l0])
      | succ k1 =>
        have H := HA.out
        clear HA
        simp only [muslinref13_Few.l0] at H
        by_cases c3 : x3_1 < (l0.length : Int)
        · rw [if_pos c3] at H
          have c3b0 : decide (x3_1 < (l0.length : Int)) = true := decide_eq_true c3
          clear c3
          have HC4 := Aside0.mk H
          clear H
          go_upto_region 6 with (fail)
          go_cut [38] (fun v38 wc => ∃ (kq : Nat) (x38_3 : Bool), v38 = .bool x38_3 ∧ Aside0 (muslinref13_Few.j1 kq l0 x3_1 x38_3 = some r) ∧ Aside0 (kq ≤ k1) ∧ Drawn0 w wc)
          case first =>
            have H := HC4.out
            clear HC4
            by_cases c5 : 0 ≤ x3_1
            · rw [if_pos c5] at H
              have c5b0 : decide (0 ≤ x3_1) = true := decide_eq_true c5
              clear c5
              (first | rw [c5b0] | (simp only [i64_w, i32_w]; rw [c5b0]) | skip)
              by_cases c6 : (((rd_T32 l0 x3_1).f1).size : Int) > 300
              · rw [if_pos c6] at H
                have c6b0 : decide (300 < (((rd_T32 l0 x3_1).f1).size : Int)) = true := decide_eq_true c6
                have c6b1 : decide (300 < ((rd_T32 l0 x3_1).f1).size) = true := decide_eq_true (by omega)
                clear c6
                have H' := Aside0.mk H
                clear H
                have p288 : 0 ≤ (x3_1 : Int) := of_decide_eq_true (by first | (with_reducible assumption) | assumption)
                have q288 : x3_1 < (l0.length : Int) := of_decide_eq_true (by first | (with_reducible assumption) | assumption)
                obtain ⟨ad288, A288_2, c288_2, e288, hx288_0, hx288_1, hx288_2, hx288_3, hl288_2, hi288_2⟩ := at_T32 HR0.out x3_1 p288 q288
                cases e288
                have HR288_2 := Aside0.mk hi288_2
                have HC288_2 := Aside0.mk hl288_2
                clear hi288_2 hl288_2
                replace p288 := eq_true p288
                replace q288 := eq_true q288
                go_wp2
                go_meet
                case rel => exact ⟨_, (true), (by first | rfl | (simp; done) | (simp [*]; done)), H', ⟨by have := HK1.out; first | omega | exact Nat.le_refl _⟩, by repeat (first | exact Drawn0.refl _ | apply Drawn0.step)⟩
              · rw [if_neg c6] at H
                have c6b0 : decide (300 < (((rd_T32 l0 x3_1).f1).size : Int)) = false := decide_eq_false c6
                have c6b1 : decide (300 < ((rd_T32 l0 x3_1).f1).size) = false := decide_eq_false (by omega)
                clear c6
                by_cases c7 : (((rd_T32 l0 x3_1).f3).size : Int) > 300
                · rw [if_pos c7] at H
                  have c7b0 : decide (300 < (((rd_T32 l0 x3_1).f3).size : Int)) = true := decide_eq_true c7
                  have c7b1 : decide (300 < ((rd_T32 l0 x3_1).f3).size) = true := decide_eq_true (by omega)
                  clear c7
                  have H' := Aside0.mk H
                  clear H
                  have p288 : 0 ≤ (x3_1 : Int) := of_decide_eq_true (by first | (with_reducible assumption) | assumption)
                  have q288 : x3_1 < (l0.length : Int) := of_decide_eq_true (by first | (with_reducible assumption) | assumption)
                  obtain ⟨ad288, A288_2, c288_2, e288, hx288_0, hx288_1, hx288_2, hx288_3, hl288_2, hi288_2⟩ := at_T32 HR0.out x3_1 p288 q288
                  cases e288
                  have HR288_2 := Aside0.mk hi288_2
                  have HC288_2 := Aside0.mk hl288_2
                  clear hi288_2 hl288_2
                  replace p288 := eq_true p288
                  replace q288 := eq_true q288
                  have p289 : 0 ≤ (x3_1 : Int) := of_decide_eq_true (by first | (with_reducible assumption) | assumption)
                  have q289 : x3_1 < (l0.length : Int) := of_decide_eq_true (by first | (with_reducible assumption) | assumption)
                  obtain ⟨ad289, A289_2, c289_2, e289, hx289_0, hx289_1, hx289_2, hx289_3, hl289_2, hi289_2⟩ := at_T32 HR0.out x3_1 p289 q289
                  obtain rfl : ad288 = ad289 := (by injection e289)
                  have HR289_2 := Aside0.mk hi289_2
                  have HC289_2 := Aside0.mk hl289_2
                  clear hi289_2 hl289_2
                  replace p289 := eq_true p289
                  replace q289 := eq_true q289
                  have ea_ := Option.some.inj (hx288_2.symm.trans hx289_2)
                  injection ea_ with ea_ en_ ec_
                  subst ea_
                  subst ec_
                  clear en_
                  go_wp2
                  go_meet
                  case rel => exact ⟨_, (true), (by first | rfl | (simp; done) | (simp [*]; done)), H', ⟨by have := HK1.out; first | omega | exact Nat.le_refl _⟩, by repeat (first | exact Drawn0.refl _ | apply Drawn0.step)⟩
                · rw [if_neg c7] at H
                  have c7b0 : decide (300 < (((rd_T32 l0 x3_1).f3).size : Int)) = false := decide_eq_false c7
                  have c7b1 : decide (300 < ((rd_T32 l0 x3_1).f3).size) = false := decide_eq_false (by omega)
                  clear c7
                  have H' := Aside0.mk H
                  clear H
                  have p288 : 0 ≤ (x3_1 : Int) := of_decide_eq_true (by first | (with_reducible assumption) | assumption)
                  have q288 : x3_1 < (l0.length : Int) := of_decide_eq_true (by first | (with_reducible assumption) | assumption)
                  obtain ⟨ad288, A288_2, c288_2, e288, hx288_0, hx288_1, hx288_2, hx288_3, hl288_2, hi288_2⟩ := at_T32 HR0.out x3_1 p288 q288
                  cases e288
                  have HR288_2 := Aside0.mk hi288_2
                  have HC288_2 := Aside0.mk hl288_2
                  clear hi288_2 hl288_2
                  replace p288 := eq_true p288
                  replace q288 := eq_true q288
                  have p289 : 0 ≤ (x3_1 : Int) := of_decide_eq_true (by first | (with_reducible assumption) | assumption)
                  have q289 : x3_1 < (l0.length : Int) := of_decide_eq_true (by first | (with_reducible assumption) | assumption)
                  obtain ⟨ad289, A289_2, c289_2, e289, hx289_0, hx289_1, hx289_2, hx289_3, hl289_2, hi289_2⟩ := at_T32 HR0.out x3_1 p289 q289
                  obtain rfl : ad288 = ad289 := (by injection e289)
                  have HR289_2 := Aside0.mk hi289_2
                  have HC289_2 := Aside0.mk hl289_2
                  clear hi289_2 hl289_2
                  replace p289 := eq_true p289
                  replace q289 := eq_true q289
                  have ea_ := Option.some.inj (hx288_2.symm.trans hx289_2)
                  injection ea_ with ea_ en_ ec_
                  subst ea_
                  subst ec_
                  clear en_
                  have p290 : 0 ≤ (x3_1 : Int) := of_decide_eq_true (by first | (with_reducible assumption) | assumption)
                  have q290 : x3_1 < (l0.length : Int) := of_decide_eq_true (by first | (with_reducible assumption) | assumption)
                  obtain ⟨ad290, A290_2, c290_2, e290, hx290_0, hx290_1, hx290_2, hx290_3, hl290_2, hi290_2⟩ := at_T32 HR0.out x3_1 p290 q290
                  obtain rfl : ad288 = ad290 := (by injection e290)
                  have HR290_2 := Aside0.mk hi290_2
                  have HC290_2 := Aside0.mk hl290_2
                  clear hi290_2 hl290_2
                  replace p290 := eq_true p290
                  replace q290 := eq_true q290
                  have ea_ := Option.some.inj (hx288_2.symm.trans hx290_2)
                  injection ea_ with ea_ en_ ec_
                  subst ea_
                  subst ec_
                  clear en_
                  go_wp2
                  go_meet
                  case rel => exact ⟨_, (decide ((((rd_T32 l0 x3_1).f2).length : Int) > 40)), (by first | rfl | (simp; done) | (simp [*]; done)), H', ⟨by have := HK1.out; first | omega | exact Nat.le_refl _⟩, by repeat (first | exact Drawn0.refl _ | apply Drawn0.step)⟩
            · rw [if_neg c5] at H
              exact absurd H (by simp)
          case rest =>
            clear HC4
            try clear c1
            try clear c2
            try clear c2b0
            try clear c2b1
            try clear p2
            try clear q2
            try clear hx2
            try clear c3
            try clear c3b0
            try clear c5
            try clear c5b0
            try clear c6
            try clear c6b0
            try clear c6b1
            try clear c7
            try clear c7b0
            try clear c7b1
            try clear hx288_0
            try clear hx288_1
            try clear hx288_2
            try clear hx288_3
            try clear hx289_0
            try clear hx289_1
            try clear hx289_2
            try clear hx289_3
            try clear hx290_0
            try clear hx290_1
            try clear hx290_2
            try clear hx290_3
            try clear p2
            try clear p288
            try clear p289
            try clear p290
            try clear q288
            try clear q289
            try clear q290
            obtain ⟨kq, x38_3, rfl, HA, HJ3, ⟨mc3, rfl⟩⟩ := hcut
            cases kq with
            | zero => exact absurd HA.out (by simp [muslinref13_Few.j1])
            | succ kj3 =>
              have H := HA.out
              clear HA
              simp only [muslinref13_Few.j1] at H
              by_cases c8 : x38_3 = true
              · subst c8
                have H1 : (some false) = some r := by rw [if_pos rfl] at H; exact H
                clear H
                have H := H1
                clear H1
                obtain rfl := Option.some.inj H
                go_wp2
                go_ret
                exact ⟨by first | rfl | (simp; done) | (simp [*]; done), by repeat (first | exact Drawn0.refl _ | apply Drawn0.step)⟩
              · replace c8 := Bool.eq_false_iff.mpr c8
                subst c8
                have H1 : (muslinref13_Few.l1 kj3 l0 x3_1 0) = some r := by rw [if_neg (show ¬ (false = true) by decide)] at H; exact H
                clear H
                have H := H1
                clear H1
                have H' := Aside0.mk H
                clear H
                go_wp2
                go_loopg [4] kj3 (fun kq v4 w' => ∃ (x4_3 : Int), v4 = .int .i64 x4_3 ∧ Aside0 (muslinref13_Few.l1 kq l0 x3_1 x4_3 = some r) ∧ Aside0 (kq ≤ kj3) ∧ Drawn0 w w')
                case atStart => exact ⟨(0), (by first | rfl | (simp; done) | (simp [*]; done)), H', ⟨Nat.le_refl _⟩, by repeat (first | exact Drawn0.refl _ | apply Drawn0.step)⟩
                case round =>
                  clear H'
                  try clear c1
                  try clear c2
                  try clear c2b0
                  try clear c2b1
                  try clear p2
                  try clear q2
                  try clear hx2
                  try clear c3
                  try clear c3b0
                  try clear c5
                  try clear c5b0
                  try clear c6
                  try clear c6b0
                  try clear c6b1
                  try clear c7
                  try clear c7b0
                  try clear c7b1
                  try clear c8
                  try clear hx288_0
                  try clear hx288_1
                  try clear hx288_2
                  try clear hx288_3
                  try clear hx289_0
                  try clear hx289_1
                  try clear hx289_2
                  try clear hx289_3
                  try clear hx290_0
                  try clear hx290_1
                  try clear hx290_2
                  try clear hx290_3
                  try clear p2
                  try clear p288
                  try clear p289
                  try clear p290
                  try clear q2
                  try clear q288
                  try clear q289
                  try clear q290
                  obtain ⟨x4_3, rfl, HA, HK3, ⟨m3, rfl⟩⟩ := hrel
                  cases gk with
                  | zero => exact absurd HA.out (by simp [muslinref13_Few.l1])
                  | succ k3 =>
                    have H := HA.out
                    clear HA
                    simp only [muslinref13_Few.l1] at H
                    by_cases c9 : 0 ≤ x3_1
                    · rw [if_pos c9] at H
                      have c9b0 : decide (0 ≤ x3_1) = true := decide_eq_true c9
                      clear c9
                      by_cases c10 : x3_1 < (l0.length : Int)
                      · rw [if_pos c10] at H
                        have c10b0 : decide (x3_1 < (l0.length : Int)) = true := decide_eq_true c10
                        clear c10
                        by_cases c11 : x4_3 < (((rd_T32 l0 x3_1).f2).length : Int)
                        · rw [if_pos c11] at H
                          have c11b0 : decide (x4_3 < (((rd_T32 l0 x3_1).f2).length : Int)) = true := decide_eq_true c11
                          clear c11
                          by_cases c12 : 0 ≤ x4_3
                          · rw [if_pos c12] at H
                            have c12b0 : decide (0 ≤ x4_3) = true := decide_eq_true c12
                            clear c12
                            by_cases c13 : (((rd_T35 ((rd_T32 l0 x3_1).f2) x4_3).f0).size : Int) > 300
                            · rw [if_pos c13] at H
                              have c13b0 : decide (300 < (((rd_T35 ((rd_T32 l0 x3_1).f2) x4_3).f0).size : Int)) = true := decide_eq_true c13
                              have c13b1 : decide (300 < ((rd_T35 ((rd_T32 l0 x3_1).f2) x4_3).f0).size) = true := decide_eq_true (by omega)
                              clear c13
                              obtain rfl := Option.some.inj H
                              have p291 : 0 ≤ (x3_1 : Int) := of_decide_eq_true (by first | (with_reducible assumption) | assumption)
                              have q291 : x3_1 < (l0.length : Int) := of_decide_eq_true (by first | (with_reducible assumption) | assumption)
                              obtain ⟨ad291, A291_2, c291_2, e291, hx291_0, hx291_1, hx291_2, hx291_3, hl291_2, hi291_2⟩ := at_T32 HR0.out x3_1 p291 q291
                              cases e291
                              have HR291_2 := Aside0.mk hi291_2
                              have HC291_2 := Aside0.mk hl291_2
                              clear hi291_2 hl291_2
                              replace p291 := eq_true p291
                              replace q291 := eq_true q291
                              have p292 : 0 ≤ (x3_1 : Int) := of_decide_eq_true (by first | (with_reducible assumption) | assumption)
                              have q292 : x3_1 < (l0.length : Int) := of_decide_eq_true (by first | (with_reducible assumption) | assumption)
                              obtain ⟨ad292, A292_2, c292_2, e292, hx292_0, hx292_1, hx292_2, hx292_3, hl292_2, hi292_2⟩ := at_T32 HR0.out x3_1 p292 q292
                              obtain rfl : ad291 = ad292 := (by injection e292)
                              have HR292_2 := Aside0.mk hi292_2
                              have HC292_2 := Aside0.mk hl292_2
                              clear hi292_2 hl292_2
                              replace p292 := eq_true p292
                              replace q292 := eq_true q292
                              have ea_ := Option.some.inj (hx291_2.symm.trans hx292_2)
                              injection ea_ with ea_ en_ ec_
                              subst ea_
                              subst ec_
                              clear en_
                              have p293 : 0 ≤ (x4_3 : Int) := of_decide_eq_true (by first | (with_reducible assumption) | assumption)
                              have q293 : x4_3 < (((rd_T32 l0 x3_1).f2).length : Int) := of_decide_eq_true (by first | (with_reducible assumption) | assumption)
                              obtain ⟨ad293, e293, hx293_0, hx293_1⟩ := at_T35 HR292_2.out x4_3 p293 q293
                              cases e293
                              replace p293 := eq_true p293
                              replace q293 := eq_true q293
                              go_wp2
                              go_ret
                              exact ⟨by first | rfl | (simp; done) | (simp [*]; done), by repeat (first | exact Drawn0.refl _ | apply Drawn0.step)⟩
                            · rw [if_neg c13] at H
                              have c13b0 : decide (300 < (((rd_T35 ((rd_T32 l0 x3_1).f2) x4_3).f0).size : Int)) = false := decide_eq_false c13
                              have c13b1 : decide (300 < ((rd_T35 ((rd_T32 l0 x3_1).f2) x4_3).f0).size) = false := decide_eq_false (by omega)
                              clear c13
                              by_cases c14 : (((rd_T35 ((rd_T32 l0 x3_1).f2) x4_3).f1).size : Int) > 300
                              · rw [if_pos c14] at H
                                have c14b0 : decide (300 < (((rd_T35 ((rd_T32 l0 x3_1).f2) x4_3).f1).size : Int)) = true := decide_eq_true c14
                                have c14b1 : decide (300 < ((rd_T35 ((rd_T32 l0 x3_1).f2) x4_3).f1).size) = true := decide_eq_true (by omega)
                                clear c14
                                obtain rfl := Option.some.inj H
                                have p291 : 0 ≤ (x3_1 : Int) := of_decide_eq_true (by first | (with_reducible assumption) | assumption)
                                have q291 : x3_1 < (l0.length : Int) := of_decide_eq_true (by first | (with_reducible assumption) | assumption)
                                obtain ⟨ad291, A291_2, c291_2, e291, hx291_0, hx291_1, hx291_2, hx291_3, hl291_2, hi291_2⟩ := at_T32 HR0.out x3_1 p291 q291
                                cases e291
                                have HR291_2 := Aside0.mk hi291_2
                                have HC291_2 := Aside0.mk hl291_2
                                clear hi291_2 hl291_2
                                replace p291 := eq_true p291
                                replace q291 := eq_true q291
                                have p292 : 0 ≤ (x3_1 : Int) := of_decide_eq_true (by first | (with_reducible assumption) | assumption)
                                have q292 : x3_1 < (l0.length : Int) := of_decide_eq_true (by first | (with_reducible assumption) | assumption)
                                obtain ⟨ad292, A292_2, c292_2, e292, hx292_0, hx292_1, hx292_2, hx292_3, hl292_2, hi292_2⟩ := at_T32 HR0.out x3_1 p292 q292
                                obtain rfl : ad291 = ad292 := (by injection e292)
                                have HR292_2 := Aside0.mk hi292_2
                                have HC292_2 := Aside0.mk hl292_2
                                clear hi292_2 hl292_2
                                replace p292 := eq_true p292
                                replace q292 := eq_true q292
                                have ea_ := Option.some.inj (hx291_2.symm.trans hx292_2)
                                injection ea_ with ea_ en_ ec_
                                subst ea_
                                subst ec_
                                clear en_
                                have p293 : 0 ≤ (x4_3 : Int) := of_decide_eq_true (by first | (with_reducible assumption) | assumption)
                                have q293 : x4_3 < (((rd_T32 l0 x3_1).f2).length : Int) := of_decide_eq_true (by first | (with_reducible assumption) | assumption)
                                obtain ⟨ad293, e293, hx293_0, hx293_1⟩ := at_T35 HR292_2.out x4_3 p293 q293
                                cases e293
                                replace p293 := eq_true p293
                                replace q293 := eq_true q293
                                have p294 : 0 ≤ (x3_1 : Int) := of_decide_eq_true (by first | (with_reducible assumption) | assumption)
                                have q294 : x3_1 < (l0.length : Int) := of_decide_eq_true (by first | (with_reducible assumption) | assumption)
                                obtain ⟨ad294, A294_2, c294_2, e294, hx294_0, hx294_1, hx294_2, hx294_3, hl294_2, hi294_2⟩ := at_T32 HR0.out x3_1 p294 q294
                                obtain rfl : ad291 = ad294 := (by injection e294)
                                have HR294_2 := Aside0.mk hi294_2
                                have HC294_2 := Aside0.mk hl294_2
                                clear hi294_2 hl294_2
                                replace p294 := eq_true p294
                                replace q294 := eq_true q294
                                have ea_ := Option.some.inj (hx291_2.symm.trans hx294_2)
                                injection ea_ with ea_ en_ ec_
                                subst ea_
                                subst ec_
                                clear en_
                                have p295 : 0 ≤ (x4_3 : Int) := of_decide_eq_true (by first | (with_reducible assumption) | assumption)
                                have q295 : x4_3 < (((rd_T32 l0 x3_1).f2).length : Int) := of_decide_eq_true (by first | (with_reducible assumption) | assumption)
                                obtain ⟨ad295, e295, hx295_0, hx295_1⟩ := at_T35 HR294_2.out x4_3 p295 q295
                                cases e295
                                replace p295 := eq_true p295
                                replace q295 := eq_true q295
                                go_wp2
                                go_ret
                                exact ⟨by first | rfl | (simp; done) | (simp [*]; done), by repeat (first | exact Drawn0.refl _ | apply Drawn0.step)⟩
                              · rw [if_neg c14] at H
                                have c14b0 : decide (300 < (((rd_T35 ((rd_T32 l0 x3_1).f2) x4_3).f1).size : Int)) = false := decide_eq_false c14
                                have c14b1 : decide (300 < ((rd_T35 ((rd_T32 l0 x3_1).f2) x4_3).f1).size) = false := decide_eq_false (by omega)
                                clear c14
                                have H' := Aside0.mk H
                                clear H
                                have p291 : 0 ≤ (x3_1 : Int) := of_decide_eq_true (by first | (with_reducible assumption) | assumption)
                                have q291 : x3_1 < (l0.length : Int) := of_decide_eq_true (by first | (with_reducible assumption) | assumption)
                                obtain ⟨ad291, A291_2, c291_2, e291, hx291_0, hx291_1, hx291_2, hx291_3, hl291_2, hi291_2⟩ := at_T32 HR0.out x3_1 p291 q291
                                cases e291
                                have HR291_2 := Aside0.mk hi291_2
                                have HC291_2 := Aside0.mk hl291_2
                                clear hi291_2 hl291_2
                                replace p291 := eq_true p291
                                replace q291 := eq_true q291
                                have p292 : 0 ≤ (x3_1 : Int) := of_decide_eq_true (by first | (with_reducible assumption) | assumption)
                                have q292 : x3_1 < (l0.length : Int) := of_decide_eq_true (by first | (with_reducible assumption) | assumption)
                                obtain ⟨ad292, A292_2, c292_2, e292, hx292_0, hx292_1, hx292_2, hx292_3, hl292_2, hi292_2⟩ := at_T32 HR0.out x3_1 p292 q292
                                obtain rfl : ad291 = ad292 := (by injection e292)
                                have HR292_2 := Aside0.mk hi292_2
                                have HC292_2 := Aside0.mk hl292_2
                                clear hi292_2 hl292_2
                                replace p292 := eq_true p292
                                replace q292 := eq_true q292
                                have ea_ := Option.some.inj (hx291_2.symm.trans hx292_2)
                                injection ea_ with ea_ en_ ec_
                                subst ea_
                                subst ec_
                                clear en_
                                have p293 : 0 ≤ (x4_3 : Int) := of_decide_eq_true (by first | (with_reducible assumption) | assumption)
                                have q293 : x4_3 < (((rd_T32 l0 x3_1).f2).length : Int) := of_decide_eq_true (by first | (with_reducible assumption) | assumption)
                                obtain ⟨ad293, e293, hx293_0, hx293_1⟩ := at_T35 HR292_2.out x4_3 p293 q293
                                cases e293
                                replace p293 := eq_true p293
                                replace q293 := eq_true q293
                                have p294 : 0 ≤ (x3_1 : Int) := of_decide_eq_true (by first | (with_reducible assumption) | assumption)
                                have q294 : x3_1 < (l0.length : Int) := of_decide_eq_true (by first | (with_reducible assumption) | assumption)
                                obtain ⟨ad294, A294_2, c294_2, e294, hx294_0, hx294_1, hx294_2, hx294_3, hl294_2, hi294_2⟩ := at_T32 HR0.out x3_1 p294 q294
                                obtain rfl : ad291 = ad294 := (by injection e294)
                                have HR294_2 := Aside0.mk hi294_2
                                have HC294_2 := Aside0.mk hl294_2
                                clear hi294_2 hl294_2
                                replace p294 := eq_true p294
                                replace q294 := eq_true q294
                                have ea_ := Option.some.inj (hx291_2.symm.trans hx294_2)
                                injection ea_ with ea_ en_ ec_
                                subst ea_
                                subst ec_
                                clear en_
                                have p295 : 0 ≤ (x4_3 : Int) := of_decide_eq_true (by first | (with_reducible assumption) | assumption)
                                have q295 : x4_3 < (((rd_T32 l0 x3_1).f2).length : Int) := of_decide_eq_true (by first | (with_reducible assumption) | assumption)
                                obtain ⟨ad295, e295, hx295_0, hx295_1⟩ := at_T35 HR294_2.out x4_3 p295 q295
                                cases e295
                                replace p295 := eq_true p295
                                replace q295 := eq_true q295
                                go_wp2
                                go_roundg k3
                                case measure => have := HK1.out; have := HJ3.out; have := HK3.out; omega
                                case rel => exact ⟨(wrap64 (x4_3 + 1)), (by first | rfl | (simp; done) | (simp [*]; done)), H', ⟨by have := HK1.out; have := HJ3.out; have := HK3.out; omega⟩, by repeat (first | exact Drawn0.refl _ | apply Drawn0.step)⟩
                          · rw [if_neg c12] at H
                            exact absurd H (by simp)
                        · rw [if_neg c11] at H
                          have c11b0 : decide (x4_3 < (((rd_T32 l0 x3_1).f2).length : Int)) = false := decide_eq_false c11
                          clear c11
                          have H' := Aside0.mk H
                          clear H
                          have p291 : 0 ≤ (x3_1 : Int) := of_decide_eq_true (by first | (with_reducible assumption) | assumption)
                          have q291 : x3_1 < (l0.length : Int) := of_decide_eq_true (by first | (with_reducible assumption) | assumption)
                          obtain ⟨ad291, A291_2, c291_2, e291, hx291_0, hx291_1, hx291_2, hx291_3, hl291_2, hi291_2⟩ := at_T32 HR0.out x3_1 p291 q291
                          cases e291
                          have HR291_2 := Aside0.mk hi291_2
                          have HC291_2 := Aside0.mk hl291_2
                          clear hi291_2 hl291_2
                          replace p291 := eq_true p291
                          replace q291 := eq_true q291
                          go_wp2
                          go_roundg k3
                          case measure => have := HK1.out; have := HJ3.out; have := HK3.out; omega
                          case rel => exact ⟨(wrap64 (x3_1 + 1)), (by first | rfl | (simp; done) | (simp [*]; done)), H', ⟨by have := HK1.out; have := HJ3.out; have := HK3.out; omega⟩, by repeat (first | exact Drawn0.refl _ | apply Drawn0.step)⟩
                      · rw [if_neg c10] at H
                        exact absurd H (by simp)
                    · rw [if_neg c9] at H
                      exact absurd H (by simp)
        · rw [if_neg c3] at H
          have c3b0 : decide (x3_1 < (l0.length : Int)) = false := decide_eq_false c3
          clear c3
          obtain rfl := Option.some.inj H
          go_wp2
          go_ret
          exact ⟨by first | rfl | (simp; done) | (simp [*]; done), by repeat (first | exact Drawn0.refl _ | apply Drawn0.step)⟩

end Go.Proofs.YtjlgbkedbbailaaGreatDoor.Pr
