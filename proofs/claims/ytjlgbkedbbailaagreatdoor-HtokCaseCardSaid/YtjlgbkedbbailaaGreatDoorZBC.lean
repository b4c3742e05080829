/- muslinlaw13.plain in plain words.
   Walks: muslinlaw13.clean.
   Clean tokens as the model's tokens: written and read they come back. -/
import Derived.Test.YtjlgbkedbbailaaGreatDoorPr185
import Derived.Test.YtjlgbkedbbailaaGreatDoorZBQ
import Derived.Lib.Bytes
import Derived.Test.YtjlgbkedbbailaaGreatDoorZBV
import Derived.MapKept
import Derived.Test.YtjlgbkedbbailaaGreatDoorZBM
set_option linter.unusedVariables false
set_option linter.unusedSimpArgs false
namespace Go.Proofs.YtjlgbkedbbailaaGreatDoor.Mu
open Go.RowKit Go.Proofs.YtjlgbkedbbailaaGreatDoor.Pr Go.Proofs.YtjlgbkedbbailaaGreatDoorW.PrintWords Go.Proofs.YtjlgbkedbbailaaGreatDoorW.PrintLast Go.Proofs.YtjlgbkedbbailaaGreatDoorW.PrintMore
def lowC (c : UInt8) : Bool := decide (97 ≤ c.toNat) && decide (c.toNat ≤ 122)
def digC (c : UInt8) : Bool := decide (48 ≤ c.toNat) && decide (c.toNat ≤ 57)
def okC (c : UInt8) : Bool := lowC c || digC c
def plainB : Bs → Bool
  | [] => false
  | c :: r => lowC c && r.all okC
theorem dig_f (c : UInt8) : muslinref03_Digit.f (c.toNat : Int) = some (digC c) := by
  unfold muslinref03_Digit.f digC
  by_cases h : (c.toNat : Int) ≥ 48
  · rw [if_pos h]
    have : 48 ≤ c.toNat := by omega
    simp only [this, decide_true, Bool.true_and, Option.some.injEq, decide_eq_decide]
    omega
  · rw [if_neg h]
    have : ¬ 48 ≤ c.toNat := by omega
    simp [this]
theorem plain_on (s : ByteArray) (hs : s.data.toList.length ≤ 100000) : ∀ d i, i + d = s.data.toList.length → 0 < i → ∃ k, muslinlaw13_plain.l0 k s (i : Int) = some ((s.data.toList.drop i).all okC) := by
  intro d
  have hsz := size_toList s
  induction d with
  | zero =>
    intro i hi h0
    refine ⟨1, ?_⟩
    unfold muslinlaw13_plain.l0
    rw [if_neg (by omega), List.drop_eq_nil_of_le (by omega), Lib.toList_data]
    have : s.data.toList ≠ [] := by intro e; rw [e] at hi; simp at hi; omega
    simpa using this
  | succ d ih =>
    intro i hi h0
    obtain ⟨k, hk⟩ := ih (i + 1) (by omega) (by omega)
    have hil : i < s.data.toList.length := by omega
    refine ⟨k + 1, ?_⟩
    rw [drop_all okC hil]
    unfold muslinlaw13_plain.l0
    have hbt := bt_list hil
    obtain ⟨c, hc⟩ : ∃ c, s.data.toList[i] = c := ⟨_, rfl⟩
    rw [hc] at hbt ⊢
    rw [if_pos (by omega), if_pos (by omega), hbt, wrap_up (by omega), dig_f, hk]
    by_cases h1 : (c.toNat : Int) ≥ 97
    · rw [if_pos h1]
      by_cases h2 : (c.toNat : Int) ≤ 122
      · rw [if_pos h2]
        have : okC c = true := by simp [okC, lowC]; omega
        rw [this]; rfl
      · rw [if_neg h2, if_neg (by omega)]
        cases hd : digC c <;> simp [okC, lowC, hd] <;> omega
    · rw [if_neg h1, if_neg (by omega)]
      cases hd : digC c <;> simp [okC, lowC, hd] <;> omega
theorem plain_plain (s : ByteArray) (hs : s.data.toList.length ≤ 100000) : ∃ k, muslinlaw13_plain.f k s = some (plainB s.data.toList) := by
  have hsz := size_toList s
  by_cases h0 : s.data.toList.length = 0
  · refine ⟨1, ?_⟩
    have e : s.data.toList = [] := List.eq_nil_of_length_eq_zero h0
    unfold muslinlaw13_plain.f muslinlaw13_plain.l0
    rw [if_neg (by omega), Lib.toList_data, e]
    rfl
  · obtain ⟨k, hk⟩ := plain_on s hs (s.data.toList.length - 1) 1 (by omega) (by omega)
    have hil : 0 < s.data.toList.length := by omega
    have hbt := bt_list hil
    have hcons : s.data.toList = s.data.toList[0] :: s.data.toList.drop 1 := by
      have := List.drop_eq_getElem_cons hil
      simpa using this
    obtain ⟨c, hc⟩ : ∃ c, s.data.toList[0] = c := ⟨_, rfl⟩
    rw [hc] at hbt hcons
    have hp : plainB s.data.toList = (lowC c && (s.data.toList.drop 1).all okC) := by
      conv => lhs; rw [hcons]
      rfl
    refine ⟨k + 1, ?_⟩
    rw [hp]
    have hw : wrap64 ((0 : Int) + 1) = ((1 : Nat) : Int) := wrap_up (i := 0) (by omega)
    unfold muslinlaw13_plain.f muslinlaw13_plain.l0
    rw [if_pos (by omega), if_pos (by omega), show bt s 0 = (c.toNat : Int) from hbt, hw, hk]
    by_cases h1 : (c.toNat : Int) ≥ 97
    · rw [if_pos h1]
      by_cases h2 : (c.toNat : Int) ≤ 122
      · rw [if_pos h2]
        have : lowC c = true := by simp [lowC]; omega
        rw [this]; rfl
      · rw [if_neg h2, if_pos rfl]
        have : lowC c = false := by simp [lowC]; omega
        rw [this]; rfl
    · rw [if_neg h1, if_pos rfl]
      have : lowC c = false := by simp [lowC]; omega
      rw [this]; rfl
theorem plain_calls (s : ByteArray) (w : World) (hs : s.data.toList.length ≤ 100000) : Calls Tryz.prog 38 #[.string s] w fun e w' => e = .returned (.bool (plainB s.data.toList)) ∧ Dr w w' := by
  obtain ⟨k, hk⟩ := plain_plain s hs
  refine (muslinlaw13_plain.calls k s _ w hk).mono ?_
  rintro e w' ⟨rfl, hd⟩
  obtain ⟨n, rfl⟩ := hd
  exact ⟨rfl, n, rfl⟩
end Go.Proofs.YtjlgbkedbbailaaGreatDoor.Mu
namespace Go.Proofs.YtjlgbkedbbailaaGreatDoor.Mu
open Go.RowKit Go.Proofs.YtjlgbkedbbailaaGreatDoor.Pr Go.Proofs.YtjlgbkedbbailaaGreatDoorW.PrintWords Go.Proofs.YtjlgbkedbbailaaGreatDoorW.PrintLast Go.Proofs.YtjlgbkedbbailaaGreatDoorW.PrintMore
def distinctS (l : List S35) : Prop := ∀ (i j : Nat) (a b : S35), l[i]? = some a → l[j]? = some b → a.f0 = b.f0 → i = j
structure CleanS (x : S32) (was : Int) : Prop where
  kinds : (x.f0 = 1 ∧ x.f1.toList = [] ∧ x.f2 = [] ∧ x.f3.toList ≠ [] ∧ was ≠ 1) ∨ (x.f0 = 3 ∧ plainB x.f1.data.toList = true ∧ x.f2 = [] ∧ x.f3.toList = []) ∨
    (x.f0 = 2 ∧ plainB x.f1.data.toList = true ∧ raw x.f1.data.toList = false ∧ x.f3.toList = [] ∧ x.f2.length ≤ 30 ∧ distinctS x.f2 ∧ ∀ a ∈ x.f2, plainB a.f0.data.toList = true)
theorem Dr.cell_ {w w1 : World} (h : Dr w w1) {a : Addr} {v : Value} (hc : w.cell? a = some v) : w1.cell? a = some v := by
  obtain ⟨n, rfl⟩ := h
  exact hc
set_option maxRecDepth 20000 in
set_option maxHeartbeats 4000000 in
theorem clean_calls (kd : Int) (tn : ByteArray) (ta : List S35) (tt : ByteArray) (A : Option Addr) (c : Nat) (was : Int) (w : World) (hE : Env w) (hC : k35.C w A ta.length ta) (hF : fewT ⟨kd, tn, ta, tt⟩ = true) :
    Calls Tryz.prog 19 #[.agg #[.int .i64 kd, .string tn, .slice A ta.length c, .string tt], .int .i64 was] w fun e w' => ∃ b, e = .returned (.bool b) ∧ (b = true → CleanS ⟨kd, tn, ta, tt⟩ was) ∧ Below w.heap.size w w' := by
  have HE := Lib.hid hE
  have HC := Lib.hid hC
  clear hE hC
  simp only [fewT, Bool.and_eq_true, decide_eq_true_eq, List.all_eq_true] at hF
  obtain ⟨⟨⟨f1, f3⟩, f40⟩, fA⟩ := hF
  have HFA := Lib.hid fA
  clear fA
  have hsn := size_toList tn
  have hlen0 : ∀ l : List S35, l ≠ [] → ¬ (l.length : Int) = 0 := fun l h e => h (List.eq_nil_of_length_eq_zero (by omega))
  by_cases k1 : kd = 1
  · subst k1
    go_enter Tryz.func19, Tryz.ntmps19
    by_cases n0 : tn.toList = []
    · by_cases l0 : ta = []
      · subst l0
        by_cases t0 : tt.toList = []
        · go_wp2_with fail
          go_ret
          exact ⟨_, rfl, fun h => by first | (simp at h; done) | (simp_all; done), below_alloc (Below.refl _ _) _⟩
        · by_cases p0 : was = 1
          · go_wp2_with fail
            go_ret
            exact ⟨_, rfl, fun h => by first | (simp at h; done) | (simp_all; done), below_alloc (Below.refl _ _) _⟩
          · go_wp2_with fail
            go_ret
            exact ⟨_, rfl, fun _ => ⟨.inl ⟨rfl, n0, rfl, t0, p0⟩⟩, below_alloc (Below.refl _ _) _⟩
      · have l1 := hlen0 ta l0
        go_wp2_with fail
        go_ret
        exact ⟨_, rfl, fun h => by first | (simp at h; done) | (simp_all; done), below_alloc (Below.refl _ _) _⟩
    · go_wp2_with fail
      go_ret
      exact ⟨_, rfl, fun h => by first | (simp at h; done) | (simp_all; done), below_alloc (Below.refl _ _) _⟩
  · by_cases k3 : kd = 3
    · subst k3
      have HP := Lib.hid (fun w' => plain_calls tn w' (by omega))
      obtain ⟨p, hp⟩ : ∃ p, plainB tn.data.toList = p := ⟨_, rfl⟩
      rw [hp] at HP
      have HPL := Lib.hid hp
      clear hp
      go_enter Tryz.func19, Tryz.ntmps19
      go_wp2_with fail
      refine (HP.out _).mono ?_
      rintro e w2 ⟨rfl, n2, rfl⟩
      cases p with
      | false =>
        go_wp2_with fail
        go_ret
        exact ⟨_, rfl, fun h => by first | (simp at h; done) | (simp_all; done), pw_below_drewN (below_alloc (Below.refl _ _) _) _⟩
      | true =>
        by_cases l0 : ta = []
        · subst l0
          by_cases t0 : tt.toList = []
          · go_wp2_with fail
            go_ret
            exact ⟨_, rfl, fun _ => ⟨.inr (.inl ⟨rfl, HPL.out, rfl, t0⟩)⟩, pw_below_drewN (below_alloc (Below.refl _ _) _) _⟩
          · go_wp2_with fail
            go_ret
            exact ⟨_, rfl, fun h => by first | (simp at h; done) | (simp_all; done), pw_below_drewN (below_alloc (Below.refl _ _) _) _⟩
        · have l1 := hlen0 ta l0
          go_wp2_with fail
          go_ret
          exact ⟨_, rfl, fun h => by first | (simp at h; done) | (simp_all; done), pw_below_drewN (below_alloc (Below.refl _ _) _) _⟩
    · by_cases k2 : kd = 2
      · subst k2
        have HP := Lib.hid (fun w' => plain_calls tn w' (by omega))
        obtain ⟨pn, hpn⟩ : ∃ p, plainB tn.data.toList = p := ⟨_, rfl⟩
        rw [hpn] at HP
        have HPL := Lib.hid hpn
        clear hpn
        have HR := Lib.hid (fun w' hE' => isRaw_calls tn.data.toList w' hE' (by omega))
        rw [show (⟨tn.data.toList.toArray⟩ : ByteArray) = tn from by simp] at HR
        obtain ⟨rn, hrn⟩ : ∃ p, raw tn.data.toList = p := ⟨_, rfl⟩
        rw [hrn] at HR
        have HRL := Lib.hid hrn
        clear hrn hlen0 k1 k3
        go_enter Tryz.func19, Tryz.ntmps19
        go_wp2_with fail
        have G1 : (w.alloc (.cells #[.int .i64 2, .string tn, .slice A ta.length c, .string tt] 32)).cell? ⟨w.heap.size, 1, none⟩ = some (.string tn) := (BlkL.new w 32 [.int .i64 2, .string tn, .slice A ta.length c, .string tt]).cell (i := 1) rfl
        have G2 : (w.alloc (.cells #[.int .i64 2, .string tn, .slice A ta.length c, .string tt] 32)).cell? ⟨w.heap.size, 2, none⟩ = some (.slice A ta.length c) := (BlkL.new w 32 [.int .i64 2, .string tn, .slice A ta.length c, .string tt]).cell (i := 2) rfl
        have G3 : (w.alloc (.cells #[.int .i64 2, .string tn, .slice A ta.length c, .string tt] 32)).cell? ⟨w.heap.size, 3, none⟩ = some (.string tt) := (BlkL.new w 32 [.int .i64 2, .string tn, .slice A ta.length c, .string tt]).cell (i := 3) rfl
        have HB0 := Lib.hid (show Below w.heap.size w (w.alloc (.cells #[.int .i64 2, .string tn, .slice A ta.length c, .string tt] 32)) from below_alloc (Below.refl _ _) _)
        generalize w.alloc _ = w0 at *
        go_loopg [5] ta.length (fun g v5 wx => ∃ m : Nat, g + m = ta.length ∧ v5 = .int .i64 m ∧ Dr w0 wx ∧ (∀ j (hj : j < ta.length), j < m → plainB ta[j].f0.data.toList = true) ∧ (∀ p q (hp : p < ta.length) (hq : q < ta.length), p < q → q < m → ta[p].f0 ≠ ta[q].f0))
        case atStart => exact ⟨0, by omega, rfl, ⟨0, rfl⟩, fun _ _ h => absurd h (by omega), fun _ _ _ _ _ h => absurd h (by omega)⟩
        case round =>
          obtain ⟨m, hg, rfl, hdr, hpl, hdi⟩ := hrel
          have HDR := Lib.hid hdr
          have g1 := hdr.cell_ G1
          have g2 := hdr.cell_ G2
          have g3 := hdr.cell_ G3
          have HG := Lib.hid hg
          have HPLM := Lib.hid hpl
          have HDI := Lib.hid hdi
          have hml : m ≤ ta.length := by omega
          clear hg hpl hdi hdr
          by_cases hm : m < ta.length
          · obtain ⟨gp, hgp⟩ : ∃ gp : Nat, gp = gk := ⟨_, rfl⟩
            subst hgp
            obtain ⟨ae, rfl, _, _⟩ := at_T35 HC.out (m : Int) (by omega) (by omega)
            go_wp2_with fail
            go_loopg [6] m (fun g v6 wx => ∃ p : Nat, g + p = m ∧ v6 = .int .i64 p ∧ Dr w0 wx ∧ (∀ q (hq : q < ta.length), q < p → ta[q].f0 ≠ ta[m].f0))
            case atStart => exact ⟨0, by omega, rfl, HDR.out, fun _ _ h => absurd h (by omega)⟩
            case round =>
              obtain ⟨p, hg, rfl, hdr, hne⟩ := hrel
              have HDP := Lib.hid hdr
              have q2 := hdr.cell_ G2
              have HGP := Lib.hid hg
              have HNE := Lib.hid hne
              have hpl : p ≤ m := by omega
              clear hg hne hdr g1 g2 g3
              by_cases hp : p < m
              · obtain ⟨_, h1, e0, _⟩ := at_T35 (HDP.out.C (Kd.C_below HC.out HB0.out)) (p : Int) (by omega) (by omega)
                obtain ⟨_, h2, e1, _⟩ := at_T35 (HDP.out.C (Kd.C_below HC.out HB0.out)) (m : Int) (by omega) (by omega)
                obtain rfl := Option.some.inj h1
                obtain rfl := Option.some.inj h2
                rw [rdT2_at (by omega)] at e0
                rw [rdT2_at hm] at e1
                simp only [Int.toNat_natCast] at e0 e1
                have HIN := Lib.hid (fun (h : ¬ ta[p].f0 = ta[m].f0) q (hq : q < ta.length) (h' : q < p + 1) => show ta[q].f0 ≠ ta[m].f0 from by
                  rcases Nat.lt_succ_iff_lt_or_eq.1 h' with h'' | rfl
                  · exact HNE.out q hq h''
                  · exact h)
                obtain ⟨np, hnp⟩ : ∃ z, ta[p].f0 = z := ⟨_, rfl⟩
                obtain ⟨nm, hnm⟩ : ∃ z, ta[m].f0 = z := ⟨_, rfl⟩
                rw [hnp] at e0 HIN
                rw [hnm] at e1 HIN
                have hpi : (p : Int) < (ta.length : Int) := by omega
                have hmi : (m : Int) < (ta.length : Int) := by omega
                have HNM := Lib.hid hnm
                clear h1 h2 hnp hnm
                by_cases he : np = nm
                · subst he
                  clear HIN
                  go_wp2_with fail
                  go_quiet (fail)
                  go_wp2_with fail
                  go_ret
                  exact ⟨_, rfl, fun h => by first | (simp at h; done) | (simp_all; done), below_next HB0.out (HDP.out.step _).below⟩
                · have he2 : (np == nm) = false := by
                    rw [Bool.eq_false_iff]
                    exact fun h => he ((Go.MapKept.bytes_beq _ _).1 h)
                  have he3 : ¬ np.toList = nm.toList := fun h => he (Go.WideShapes.bytes_inj (by rw [← Lib.toList_data, ← Lib.toList_data, h]))
                  have he4 : (np.toList == nm.toList) = false := by rw [beq_eq_false_iff_ne]; exact he3
                  have HI2 := Lib.hid (HIN.out he)
                  clear HIN
                  go_wp2_with fail
                  go_quiet (fail)
                  go_wp2_with fail
                  go_roundg (gk - 1)
                  case measure => have := HGP.out; omega
                  case rel => exact ⟨p + 1, by have := HGP.out; omega, by simp, HDP.out.step _, fun q hq h => by rw [HNM.out]; exact HI2.out q hq h⟩
              · have hpm : p = m := by omega
                subst hpm
                obtain ⟨_, h2, e1, _⟩ := at_T35 (HDP.out.C (Kd.C_below HC.out HB0.out)) (p : Int) (by omega) (by omega)
                obtain rfl := Option.some.inj h2
                rw [rdT2_at hm] at e1
                simp only [Int.toNat_natCast] at e1
                have hfa := HFA.out ta[p] (List.getElem_mem hm)
                simp only [fewA, Bool.and_eq_true, decide_eq_true_eq] at hfa
                obtain ⟨a0, _⟩ := hfa
                rw [← size_toList] at a0
                have HPN := Lib.hid (fun (h : plainB ta[p].f0.data.toList = true) j (hj : j < ta.length) (h' : j < p + 1) => show plainB ta[j].f0.data.toList = true from by
                  rcases Nat.lt_succ_iff_lt_or_eq.1 h' with h'' | rfl
                  · exact HPLM.out j hj h''
                  · exact h)
                have HDN := Lib.hid (show ∀ x y (hx : x < ta.length) (hy : y < ta.length), x < y → y < p + 1 → ta[x].f0 ≠ ta[y].f0 from by
                  intro x y hx hy hxy h'
                  rcases Nat.lt_succ_iff_lt_or_eq.1 h' with h'' | rfl
                  · exact HDI.out x y hx hy hxy h''
                  · exact HNE.out x hx hxy)
                obtain ⟨nm, hnm⟩ : ∃ z, ta[p].f0 = z := ⟨_, rfl⟩
                rw [hnm] at e1 HPN a0
                have HP2 := Lib.hid (plain_calls nm wr (by omega))
                obtain ⟨pm, hpm⟩ : ∃ z, plainB nm.data.toList = z := ⟨_, rfl⟩
                rw [hpm] at HP2 HPN
                have hmi : (p : Int) < (ta.length : Int) := by omega
                clear h2 hnm hpm a0
                go_wp2_with fail
                refine HP2.out.mono ?_
                rintro e w2 ⟨rfl, n2, rfl⟩
                cases pm with
                | false =>
                  go_wp2_with fail
                  go_ret
                  exact ⟨_, rfl, fun h => by first | (simp at h; done) | (simp_all; done), below_next HB0.out (HDP.out.step _).below⟩
                | true =>
                  go_wp2_with fail
                  go_roundg (gp - 1)
                  case measure => have := HG.out; omega
                  case rel => exact ⟨p + 1, by have := HG.out; omega, by simp, HDP.out.step _, HPN.out (by first | rfl | trivial), HDN.out⟩
          · have hmm : m = ta.length := by omega
            subst hmm
            have HDI2 := Lib.hid (show distinctS ta from by
              intro x y a b hx hy hab
              obtain ⟨hx1, hx2⟩ := List.getElem?_eq_some_iff.1 hx
              obtain ⟨hy1, hy2⟩ := List.getElem?_eq_some_iff.1 hy
              subst hx2 hy2
              rcases Nat.lt_trichotomy x y with h | h | h
              · exact absurd hab (HDI.out x y hx1 hy1 h hy1)
              · exact h
              · exact absurd hab.symm (HDI.out y x hy1 hx1 h hx1))
            have HPA := Lib.hid (show ∀ a ∈ ta, plainB a.f0.data.toList = true from by
              intro a ha
              obtain ⟨j, hj, rfl⟩ := List.getElem_of_mem ha
              exact HPLM.out j hj hj)
            have HEW := Lib.hid (HE.out.below (below_next HB0.out HDR.out.below))
            have HBW := Lib.hid (below_next HB0.out HDR.out.below)
            clear hml hm
            go_wp2_with fail
            refine (HP.out _).mono ?_
            rintro e w2 ⟨rfl, n2, rfl⟩
            have HB2 := Lib.hid (below_next HB0.out (HDR.out.step n2).below)
            have HE2 := Lib.hid (HE.out.below HB2.out)
            cases pn with
            | false =>
              go_wp2_with fail
              go_ret
              exact ⟨_, rfl, fun h => by first | (simp at h; done) | (simp_all; done), HB2.out⟩
            | true =>
              go_wp2_with fail
              refine (HR.out _ HE2.out).mono ?_
              rintro e w3 ⟨rfl, rfl⟩
              cases rn with
              | true =>
                go_wp2_with fail
                go_ret
                exact ⟨_, rfl, fun h => by first | (simp at h; done) | (simp_all; done), HB2.out⟩
              | false =>
                by_cases t0 : tt.toList = []
                · by_cases l30 : (ta.length : Int) ≤ 30
                  · go_wp2_with fail
                    go_ret
                    exact ⟨_, rfl, fun _ => ⟨.inr (.inr ⟨rfl, HPL.out, HRL.out, t0, by show ta.length ≤ 30; omega, HDI2.out, HPA.out⟩)⟩, HB2.out⟩
                  · go_wp2_with fail
                    go_ret
                    exact ⟨_, rfl, fun h => by first | (simp at h; done) | (simp_all; done) | (simp at h; omega), HB2.out⟩
                · go_wp2_with fail
                  go_ret
                  exact ⟨_, rfl, fun h => by first | (simp at h; done) | (simp_all; done), HB2.out⟩
      · go_enter Tryz.func19, Tryz.ntmps19
        go_wp2_with fail
        go_ret
        exact ⟨_, rfl, fun h => by first | (simp at h; done) | (simp_all; done), below_alloc (Below.refl _ _) _⟩
end Go.Proofs.YtjlgbkedbbailaaGreatDoor.Mu
namespace Go.Proofs.YtjlgbkedbbailaaGreatDoor.Mu
open Go.RowKit Go.Proofs.YtjlgbkedbbailaaGreatDoor.Pr Go.Proofs.YtjlgbkedbbailaaGreatDoorW.PrintWords Go.Proofs.YtjlgbkedbbailaaGreatDoorW.PrintLast Go.Proofs.YtjlgbkedbbailaaGreatDoorW.PrintMore
theorem all_u8 (p : UInt8 → Bool) (h : (List.range 256).all (fun n => p (UInt8.ofNat n)) = true) (c : UInt8) : p c = true := by
  have := List.all_eq_true.1 h c.toNat (List.mem_range.2 c.toNat_lt)
  simpa using this
def attrO (a : S35) : Attr := ⟨a.f0.data.toList, a.f1.data.toList⟩
def tokO (x : S32) : Tok := ⟨x.f0.toNat, x.f1.data.toList, x.f2.map attrO, x.f3.data.toList⟩
theorem attrS_attrO (a : S35) : attrS (attrO a) = a := by
  obtain ⟨n, v⟩ := a
  simp [attrS, attrO]
theorem attrs_back (l : List S35) : (l.map attrO).map attrS = l := by
  rw [List.map_map]
  conv => rhs; rw [← List.map_id l]
  exact List.map_congr_left fun a _ => attrS_attrO a
theorem tokS_tokO (x : S32) (h : 0 ≤ x.f0) : tokS (tokO x) = x := by
  obtain ⟨k, n, ats, t⟩ := x
  have hk : ((k.toNat : Nat) : Int) = k := Int.toNat_of_nonneg h
  simp only [tokS, tokO, attrs_back, hk]
theorem ok_inner (c : UInt8) (h : okC c = true) : white c = false ∧ c ≠ 47 ∧ c ≠ 62 ∧ c ≠ 61 ∧ low c = c := by
  have := all_u8 (fun c => !okC c || (!white c && c != 47 && c != 62 && c != 61 && low c == c)) (by decide +kernel) c
  rw [h] at this
  simpa [and_assoc] using this
theorem low_letter (c : UInt8) (h : lowC c = true) : letter c = true ∧ okC c = true := by
  have := all_u8 (fun c => !lowC c || (letter c && okC c)) (by decide +kernel) c
  rw [h] at this
  simpa using this
theorem plain_ok {n : Bs} (h : plainB n = true) : (∃ c r, n = c :: r ∧ lowC c = true) ∧ ∀ c ∈ n, okC c = true := by
  match n, h with
  | c :: r, h =>
    simp only [plainB, Bool.and_eq_true, List.all_eq_true] at h
    refine ⟨⟨c, r, rfl, h.1⟩, fun d hd => ?_⟩
    rcases List.mem_cons.1 hd with rfl | hd
    · exact (low_letter _ h.1).2
    · exact h.2 d hd
theorem plain_name {n : Bs} (h : plainB n = true) : NameOk n ∧ small n = n := by
  obtain ⟨⟨c, r, e, hc⟩, hi⟩ := plain_ok h
  refine ⟨⟨⟨c, r, e, (low_letter c hc).1⟩, fun d hd => ?_⟩, ?_⟩
  · have := ok_inner d (hi d hd)
    exact ⟨this.1, this.2.1, this.2.2.1, this.2.2.2.1⟩
  · unfold small
    conv => rhs; rw [← List.map_id n]
    exact List.map_congr_left fun d hd => (ok_inner d (hi d hd)).2.2.2.2
theorem list_nil (s : ByteArray) (h : s.toList = []) : s.data.toList = [] := by rw [← Lib.toList_data, h]
theorem once_back {l : List S35} (h : distinctS l) : distinct (l.map attrO) := by
  intro i k a b ha hb e
  rw [List.getElem?_map] at ha hb
  obtain ⟨x, hx, rfl⟩ := Option.map_eq_some_iff.1 ha
  obtain ⟨y, hy, rfl⟩ := Option.map_eq_some_iff.1 hb
  exact h i k x y hx hy (Go.WideShapes.bytes_inj e)
theorem clean_tok {x : S32} {was : Int} (h : CleanS x was) : Clean (tokO x) (tokO x) := by
  obtain ⟨h⟩ := h
  rcases h with ⟨h1, h2, h3, h4, _⟩ | ⟨h1, h2, h3, h4⟩ | ⟨h1, h2, h3, h4, h5, h6, h7⟩
  · have e := list_nil _ h2
    refine ⟨⟨rfl, rfl, rfl, ?_⟩, .inl ⟨?_, e, ?_, fun e' => h4 ?_⟩⟩
    · show small x.f1.data.toList = x.f1.data.toList
      rw [e]; rfl
    · show x.f0.toNat = 1
      rw [h1]; rfl
    · show x.f2.map attrO = []
      rw [h3]; rfl
    · rw [Lib.toList_data]; exact e'
  · refine ⟨⟨rfl, rfl, rfl, (plain_name h2).2⟩, .inr (.inl ⟨?_, (plain_name h2).1, ?_, list_nil _ h4⟩)⟩
    · show x.f0.toNat = 3
      rw [h1]; rfl
    · show x.f2.map attrO = []
      rw [h3]; rfl
  · refine ⟨⟨rfl, rfl, rfl, (plain_name h2).2⟩, .inr (.inr ⟨?_, (plain_name h2).1, h3, list_nil _ h4, ?_, once_back h6, fun a ha => ?_⟩)⟩
    · show x.f0.toNat = 2
      rw [h1]; rfl
    · show (x.f2.map attrO).length ≤ 30
      rw [List.length_map]; exact h5
    · obtain ⟨y, hy, rfl⟩ := List.mem_map.1 ha
      exact ⟨(plain_name (h7 y hy)).1, (plain_name (h7 y hy)).2⟩
theorem clean_kind {x : S32} {was : Int} (h : CleanS x was) : 0 ≤ x.f0 ∧ (x.f0 = 1 → was ≠ 1) := by
  obtain ⟨h⟩ := h
  rcases h with ⟨h1, _, _, _, h5⟩ | ⟨h1, _⟩ | ⟨h1, _⟩
  · exact ⟨by omega, fun _ => h5⟩
  · exact ⟨by omega, fun e => by omega⟩
  · exact ⟨by omega, fun e => by omega⟩
def prevK (xs : List S32) : Nat → Int
  | 0 => 0
  | j + 1 => (rd_T32 xs (j : Int)).f0
theorem adjK_of : ∀ l : List Nat, (∀ i (h : i + 1 < l.length), ¬ (l[i] = 1 ∧ l[i + 1] = 1)) → adjK l = true
  | [], _ => rfl
  | [_], _ => rfl
  | a :: b :: r, h => by
    have h0 := h 0 (by simp)
    have hr := adjK_of (b :: r) (fun i hi => by
      have := h (i + 1) (by simpa using hi)
      simpa using this)
    simp only [List.getElem_cons_zero, List.getElem_cons_succ] at h0
    simp only [adjK, hr, Bool.and_true, Bool.not_eq_true', Bool.and_eq_false_iff, beq_eq_false_iff_ne]
    by_cases ha : a = 1
    · exact .inr fun hb => h0 ⟨ha, hb⟩
    · exact .inl ha
theorem cleans_of {f : S32 → Tok} : ∀ xs : List S32, (∀ x ∈ xs, Clean (tokO x) (f x)) → Cleans (xs.map tokO) (xs.map f)
  | [], _ => .nil
  | x :: xs, h => .cons (h x (by simp)) (cleans_of xs (fun y hy => h y (by simp [hy])))
theorem clean_adj {xs : List S32} (h : ∀ i (hi : i < xs.length), CleanS xs[i] (prevK xs i)) : adjK ((xs.map tokO).map (·.kind)) = true := by
  refine adjK_of _ fun i hi => ?_
  have hi2 : i + 1 < xs.length := by simpa using hi
  have hk := clean_kind (h (i + 1) hi2)
  have h0 := clean_kind (h i (by omega))
  simp only [prevK] at hk
  rw [rdT_at (show i < xs.length by omega)] at hk
  simp only [List.getElem_map, tokO]
  rintro ⟨a, b⟩
  exact hk.2 (by omega) (by omega)
theorem toks_back {xs : List S32} (h : ∀ x ∈ xs, 0 ≤ x.f0) : (xs.map tokO).map tokS = xs := by
  rw [List.map_map]
  conv => rhs; rw [← List.map_id xs]
  exact List.map_congr_left fun x hx => tokS_tokO x (h x hx)
theorem asB_write : ∀ l : List Attr, asB (l.map attrS) = wAttrs l
  | [] => rfl
  | a :: r => by
    have := asB_write r
    simp only [asB, List.map_cons, List.flatten_cons, wAttrs] at this ⊢
    rw [this]
    simp [aB, attrS]
theorem tokB_write (t : Tok) : tokB (tokS t) = wTok t := by
  unfold tokB wTok
  have hk : (tokS t).f0 = (t.kind : Int) := rfl
  by_cases h1 : t.kind = 1
  · rw [if_pos h1, if_pos (show (tokS t).f0 = 1 by omega)]
    rfl
  · rw [if_neg h1, if_neg (show ¬ (tokS t).f0 = 1 by omega)]
    by_cases h2 : t.kind = 2
    · rw [if_pos h2, if_pos (show (tokS t).f0 = 2 by omega), ← asB_write]
      rfl
    · rw [if_neg h2, if_neg (show ¬ (tokS t).f0 = 2 by omega)]
      by_cases h3 : t.kind = 3
      · rw [if_pos h3, if_pos (show (tokS t).f0 = 3 by omega)]
        rfl
      · rw [if_neg h3, if_neg (show ¬ (tokS t).f0 = 3 by omega)]
theorem toksB_write (l : List Tok) : toksB (l.map tokS) = write l := by
  unfold toksB write
  rw [List.map_map]
  congr 1
  exact List.map_congr_left fun t _ => tokB_write t
theorem few_len {xs : List S32} (h : fewL xs = true) : (toksB xs).length ≤ 536870912 := by
  obtain ⟨h60, hT, _⟩ := few_T h
  have h1 : (toksB xs).length ≤ 500000 * xs.length := flat_len tokB _ xs (fun x hx => by
    have := hT x hx
    simp only [fewT, Bool.and_eq_true, decide_eq_true_eq, List.all_eq_true] at this
    obtain ⟨⟨⟨f1, f3⟩, f40⟩, fA⟩ := this
    have ha : (asB x.f2).length ≤ 11200 * x.f2.length := flat_len aB _ x.f2 (fun a ha => by
      have := fA a ha
      simp only [fewA, Bool.and_eq_true, decide_eq_true_eq] at this
      have h1 := value_len a.f1.data.toList
      have h2 := size_toList a.f0
      have h3 := size_toList a.f1
      simp only [aB, List.length_append, List.length_cons, List.length_nil]; omega)
    have h1 := esc_len x.f3.data.toList
    have h2 := size_toList x.f1
    have h3 := size_toList x.f3
    unfold tokB
    split
    · omega
    · split
      · simp only [List.length_append, List.length_cons, List.length_nil]; omega
      · split
        · simp only [List.length_append, List.length_cons, List.length_nil]; omega
        · simp)
  omega
theorem back_scan {xs : List S32} (h : ∀ i (hi : i < xs.length), CleanS xs[i] (prevK xs i)) : (scan (toksB xs)).map tokS = xs := by
  have hk : ∀ x ∈ xs, 0 ≤ x.f0 := fun x hx => by
    obtain ⟨i, hi, rfl⟩ := List.getElem_of_mem hx
    exact (clean_kind (h i hi)).1
  have hc : ∀ x ∈ xs, Clean (tokO x) (tokO x) := fun x hx => by
    obtain ⟨i, hi, rfl⟩ := List.getElem_of_mem hx
    exact clean_tok (h i hi)
  have e := scan_write (cleans_of xs hc) (clean_adj h)
  have e2 : toksB xs = write (xs.map tokO) := by
    conv => lhs; rw [← toks_back hk]
    exact toksB_write _
  rw [e2, e, toks_back hk]
end Go.Proofs.YtjlgbkedbbailaaGreatDoor.Mu
