/- muslinref13.Few in plain words.
   An argument of tokens, opened: what a slice of tokens holds, read as a list.
   The reference's writing, in plain words.
   Walks: the reference's writing. -/
import Derived.Test.YtjlgbkedbbailaaGreatDoorPr179
import Derived.Test.YtjlgbkedbbailaaGreatDoorZBV
import Derived.Deep.Slices
import Derived.ChangeSame
import Derived.Test.YtjlgbkedbbailaaGreatDoorPr181
import Derived.Test.YtjlgbkedbbailaaGreatDoorPr182
set_option linter.unusedVariables false
set_option linter.unusedSimpArgs false
namespace Go.Proofs.YtjlgbkedbbailaaGreatDoor.Mu
open Go.RowKit Go.Proofs.YtjlgbkedbbailaaGreatDoor.Pr Go.Proofs.YtjlgbkedbbailaaGreatDoorW.PrintWords Go.Proofs.YtjlgbkedbbailaaGreatDoorW.PrintLast Go.Proofs.YtjlgbkedbbailaaGreatDoorW.PrintMore
def fewA (a : S35) : Bool := decide (a.f0.size ≤ 300) && decide (a.f1.size ≤ 300)
def fewT (x : S32) : Bool := decide (x.f1.size ≤ 300) && decide (x.f3.size ≤ 300) && decide (x.f2.length ≤ 40) && x.f2.all fewA
def fewL (l : List S32) : Bool := decide (l.length ≤ 60) && l.all fewT
theorem wrap_up {i : Nat} (h : i ≤ 9223372036854775806) : wrap64 ((i : Int) + 1) = ((i + 1 : Nat) : Int) := by
  unfold wrap64; omega
theorem rdT_at {l : List S32} {i : Nat} (h : i < l.length) : rd_T32 l (i : Int) = l[i] := by
  unfold rd_T32
  simp [List.getD, List.getElem?_eq_getElem h]
theorem rdT2_at {l : List S35} {i : Nat} (h : i < l.length) : rd_T35 l (i : Int) = l[i] := by
  unfold rd_T35
  simp [List.getD, List.getElem?_eq_getElem h]
theorem drop_all {α : Type} (p : α → Bool) {l : List α} {i : Nat} (h : i < l.length) : (l.drop i).all p = (p l[i] && (l.drop (i + 1)).all p) := by
  rw [List.drop_eq_getElem_cons h, List.all_cons]
theorem few_in (l : List S32) (i : Nat) (hi : i < l.length) (h40 : l[i].f2.length ≤ 40) (r : Bool) (hn : ∃ k, muslinref13_Few.l0 k l ((i + 1 : Nat) : Int) = some r) (hlen : l.length ≤ 60) :
    ∀ d j, j + d = l[i].f2.length → ∃ k, muslinref13_Few.l1 k l (i : Int) (j : Int) = some ((l[i].f2.drop j).all fewA && r) := by
  intro d
  induction d with
  | zero =>
    intro j hj
    obtain ⟨k, hk⟩ := hn
    refine ⟨k + 1, ?_⟩
    unfold muslinref13_Few.l1
    rw [if_pos (by omega), if_pos (by omega), rdT_at hi, if_neg (by omega), wrap_up (by omega), hk, List.drop_eq_nil_of_le (by omega)]
    rfl
  | succ d ih =>
    intro j hj
    obtain ⟨k, hk⟩ := ih (j + 1) (by omega)
    have hjl : j < l[i].f2.length := by omega
    refine ⟨k + 1, ?_⟩
    unfold muslinref13_Few.l1
    rw [if_pos (by omega), if_pos (by omega), rdT_at hi, if_pos (by omega), if_pos (by omega), rdT2_at hjl, drop_all fewA hjl, wrap_up (by omega), hk]
    by_cases h0 : (l[i].f2[j].f0.size : Int) > 300
    · rw [if_pos h0]
      have : fewA l[i].f2[j] = false := by simp [fewA]; omega
      rw [this]; rfl
    · rw [if_neg h0]
      by_cases h1 : (l[i].f2[j].f1.size : Int) > 300
      · rw [if_pos h1]
        have : fewA l[i].f2[j] = false := by simp [fewA]; omega
        rw [this]; rfl
      · rw [if_neg h1]
        have : fewA l[i].f2[j] = true := by simp [fewA]; omega
        rw [this]; rfl
theorem few_out (l : List S32) (hlen : l.length ≤ 60) : ∀ d i, i + d = l.length → ∃ k, muslinref13_Few.l0 k l (i : Int) = some ((l.drop i).all fewT) := by
  intro d
  induction d with
  | zero =>
    intro i hi
    refine ⟨1, ?_⟩
    unfold muslinref13_Few.l0
    rw [if_neg (by omega), List.drop_eq_nil_of_le (by omega)]
    rfl
  | succ d ih =>
    intro i hi
    have hil : i < l.length := by omega
    have hn := ih (i + 1) (by omega)
    rw [drop_all fewT hil]
    by_cases h0 : (l[i].f1.size : Int) > 300
    · have hf : fewT l[i] = false := by simp [fewT]; omega
      refine ⟨2, ?_⟩
      unfold muslinref13_Few.l0
      rw [if_pos (by omega), if_pos (by omega), rdT_at hil, if_pos h0, hf]
      rfl
    · by_cases h1 : (l[i].f3.size : Int) > 300
      · have hf : fewT l[i] = false := by simp [fewT]; omega
        refine ⟨2, ?_⟩
        unfold muslinref13_Few.l0
        rw [if_pos (by omega), if_pos (by omega), rdT_at hil, if_neg h0, if_pos h1, hf]
        rfl
      · by_cases h2 : (l[i].f2.length : Int) > 40
        · have hf : fewT l[i] = false := by simp [fewT]; omega
          refine ⟨2, ?_⟩
          unfold muslinref13_Few.l0
          rw [if_pos (by omega), if_pos (by omega), rdT_at hil, if_neg h0, if_neg h1, decide_eq_true h2, hf]
          rfl
        · obtain ⟨k, hk⟩ := few_in l i hil (by omega) _ hn hlen l[i].f2.length 0 (by omega)
          have hf : fewT l[i] = l[i].f2.all fewA := by simp [fewT]; omega
          refine ⟨k + 2, ?_⟩
          unfold muslinref13_Few.l0
          rw [if_pos (by omega), if_pos (by omega), rdT_at hil, if_neg h0, if_neg h1, decide_eq_false h2, hf]
          unfold muslinref13_Few.j1
          rw [if_neg (by simp)]
          simpa using hk
theorem few_plain (l : List S32) : ∃ k, muslinref13_Few.f k l = some (fewL l) := by
  by_cases h : (l.length : Int) > 60
  · refine ⟨0, ?_⟩
    unfold muslinref13_Few.f
    have : fewL l = false := by simp [fewL]; omega
    rw [if_pos h, this]
  · obtain ⟨k, hk⟩ := few_out l (by omega) l.length 0 (by omega)
    refine ⟨k, ?_⟩
    unfold muslinref13_Few.f
    have : fewL l = l.all fewT := by simp [fewL]; omega
    rw [if_neg h, this]
    simpa using hk
theorem few_calls (A : Option Addr) (c : Nat) (l : List S32) (w : World) (hC : k32.C w A l.length l) (hc : l.length ≤ c) :
    Calls Tryz.prog 16 #[.slice A l.length c] w fun e w' => e = .returned (.bool (fewL l)) ∧ Below w.heap.size w w' := by
  obtain ⟨k, hk⟩ := few_plain l
  refine (muslinref13_Few.calls k A c l (fewL l) w hC hc hk).mono ?_
  rintro e w' ⟨rfl, hd⟩
  exact ⟨rfl, hd.below⟩
end Go.Proofs.YtjlgbkedbbailaaGreatDoor.Mu
namespace Go.Proofs.YtjlgbkedbbailaaGreatDoor.Mu
open Go.ChangeShapes Go.WideShapes Go.RowKit Go.Deep Go.Proofs.YtjlgbkedbbailaaGreatDoor.Pr Go.Proofs.YtjlgbkedbbailaaGreatDoorW.PrintWords Go.Proofs.YtjlgbkedbbailaaGreatDoorW.PrintLast Go.Proofs.YtjlgbkedbbailaaGreatDoorW.PrintMore
theorem len4 {α : Type} {l : List α} (h : l.length = 4) : ∃ a b c d, l = [a, b, c, d] := by
  match l, h with
  | [a, b, c, d], _ => exact ⟨a, b, c, d, rfl⟩
theorem len2 {α : Type} {l : List α} (h : l.length = 2) : ∃ a b, l = [a, b] := by
  match l, h with
  | [a, b], _ => exact ⟨a, b, rfl⟩
section
variable {H : Type} {enc : TypeId × Value → H} {w : World} {base : Nat} {spare : Nat → Bool} {held : Bool}
theorem row_read {α : Type} (d : Kd α) (z : α) (Q : α → Prop) {a : Addr} {len : Nat} (hm : len ≤ maxLen)
    (hx : ∀ i, i < len → ∃ cs', w.cells? base (a.add (i * d.sz)) d.sz = some cs' ∧ ∃ p, d.K w p cs' ∧ Q p) :
    ∃ xs : List α, xs.length = len ∧ d.C w (some a) len xs ∧ ∀ x ∈ xs, Q x := by
  letI : Inhabited α := ⟨z⟩
  obtain ⟨f, hf⟩ := choose_lt (α := α) (p := fun i p => ∃ cs', w.cells? base (a.add (i * d.sz)) d.sz = some cs' ∧ d.K w p cs' ∧ Q p) (fun i hi => by
    obtain ⟨cs', h1, p, h2, h3⟩ := hx i hi
    exact ⟨p, cs', h1, h2, h3⟩)
  refine ⟨(List.range len).map f, by simp, ⟨by simp, ?_, fun _ => ⟨a, rfl, fun j p hj => ?_⟩⟩, fun x hxm => ?_⟩
  · simpa [maxLen] using hm
  · obtain ⟨hj1, hj2⟩ := List.getElem?_eq_some_iff.1 hj
    have hjl : j < len := by simpa using hj1
    simp at hj2
    subst hj2
    obtain ⟨cs', h1, h2, _⟩ := hf j hjl
    obtain ⟨_, hlen, hcell⟩ := World.cells?_some h1
    refine ⟨cs', hlen, h2, fun i u hu => ?_⟩
    have hi : i < d.sz := by rw [← hlen]; exact (List.getElem?_eq_some_iff.1 hu).1
    have := hcell i hi
    rw [Go.Deep.add_add] at this
    rw [this, hu]
  · simp only [List.mem_map, List.mem_range] at hxm
    obtain ⟨i, hi, rfl⟩ := hxm
    obtain ⟨cs', _, _, h3⟩ := hf i hi
    exact h3
theorem open_row {α : Type} (d : Kd α) (z : α) (Q : α → Prop) {t e : TypeId} {fuel : Nat} {v : Value} {x : DataW H × List MemPlace} (ht : Tryz.prog.underlying t = some (.slice e)) (hc : Tryz.prog.cellsOf e = d.sz)
    (hel : ∀ n cs' y, DataW.trod enc Tryz.prog w base spare held n e cs' = some y → ∃ p, d.K w p cs' ∧ Q p) (h : DataW.trod enc Tryz.prog w base spare held fuel t [v] = some x) :
    ∃ A c xs, v = .slice A xs.length c ∧ xs.length ≤ c ∧ xs.length ≤ maxLen ∧ d.C w A xs.length xs ∧ ∀ p ∈ xs, Q p := by
  rcases open_slice ht h with ⟨hv, _⟩ | ⟨a, len, cap, m, n, D, Pl, hv, _, hl, hm, hmm, _, hx⟩
  · simp only [List.cons.injEq, and_true] at hv
    subst hv
    exact ⟨none, 0, [], rfl, Nat.le_refl _, by simp, Kd.C_nil d w, fun p hp => by cases hp⟩
  · simp only [List.cons.injEq, and_true] at hv
    subst hv
    have hlm : len ≤ m := by rw [hmm]; split <;> omega
    obtain ⟨xs, hxl, hC, hQ⟩ := row_read (w := w) (base := base) d z Q (a := a) (len := len) (by omega) (fun i hi => by
      obtain ⟨cs', h1, h2⟩ := hx i (by omega)
      rw [hc] at h1
      exact ⟨cs', h1, hel _ _ _ h2⟩)
    subst hxl
    exact ⟨some a, cap, xs, rfl, hl, by omega, hC, hQ⟩
theorem c_text : Tryz.prog.cellsOf 9 = 1 := by kernel_rfl
theorem c_attr : Tryz.prog.cellsOf 35 = 2 := by kernel_rfl
theorem c_tok : Tryz.prog.cellsOf 32 = 4 := by kernel_rfl
theorem c_int : Tryz.prog.cellsOf 3 = 1 := by kernel_rfl
theorem c_attrs : Tryz.prog.cellsOf 30 = 1 := by kernel_rfl
def AttrIn (a : S35) : Prop := a.f0.size ≤ maxLen ∧ a.f1.size ≤ maxLen
def TokIn (x : S32) : Prop := (Lit.int .i64 x.f0).wf = true ∧ x.f1.size ≤ maxLen ∧ x.f3.size ≤ maxLen ∧ x.f2.length ≤ maxLen ∧ ∀ a ∈ x.f2, AttrIn a
theorem open_attr {fuel : Nat} {cs : List Value} {x : DataW H × List MemPlace} (h : DataW.trod enc Tryz.prog w base spare held fuel 35 cs = some x) : ∃ p, k35.K w p cs ∧ AttrIn p := by
  obtain ⟨xs, n, _, _, hlen, hxl, hf⟩ := DataW.trod_struct Tryz.underlying35 h
  rw [c_attr] at hlen
  obtain ⟨v0, v1, rfl⟩ := len2 hlen
  obtain ⟨y0, y1, rfl⟩ := len2 (show xs.length = 2 from hxl)
  · have g0 := hf 0 _ rfl
    have g1 := hf 1 _ rfl
    simp [c_text] at g0 g1
    obtain ⟨s0, e0, _, l0⟩ := DataW.trod_string Tryz.underlying9 g0
    obtain ⟨s1, e1, _, l1⟩ := DataW.trod_string Tryz.underlying9 g1
    simp only [List.cons.injEq, and_true] at e0 e1
    subst e0 e1
    exact ⟨⟨s0, s1⟩, k35_mk w _, l0, l1⟩
theorem open_tok {fuel : Nat} {cs : List Value} {x : DataW H × List MemPlace} (h : DataW.trod enc Tryz.prog w base spare held fuel 32 cs = some x) : ∃ p, k32.K w p cs ∧ TokIn p := by
  obtain ⟨xs, n, _, _, hlen, hxl, hf⟩ := DataW.trod_struct Tryz.underlying32 h
  rw [c_tok] at hlen
  obtain ⟨v0, v1, v2, v3, rfl⟩ := len4 hlen
  obtain ⟨y0, y1, y2, y3, rfl⟩ := len4 (show xs.length = 4 from hxl)
  · have g0 := hf 0 _ rfl
    have g1 := hf 1 _ rfl
    have g2 := hf 2 _ rfl
    have g3 := hf 3 _ rfl
    simp [c_text, c_int, c_attrs] at g0 g1 g2 g3
    obtain ⟨m, e0, _, l0⟩ := DataW.trod_int Tryz.underlying3 g0
    obtain ⟨s1, e1, _, l1⟩ := DataW.trod_string Tryz.underlying9 g1
    obtain ⟨s3, e3, _, l3⟩ := DataW.trod_string Tryz.underlying9 g3
    obtain ⟨A, c, ats, e2, l2, m2, hC, hQ⟩ := open_row k35 z35 AttrIn Tryz.underlying30 (by rw [c_attr]; rfl) (fun _ _ _ hh => open_attr hh) g2
    simp only [List.cons.injEq, and_true] at e0 e1 e3
    subst e0 e1 e3 e2
    exact ⟨⟨m, s1, ats, s3⟩, k32_mk w _ l2 hC, l0, l1, l3, m2, hQ⟩
theorem open_toks {v : Value} {d : DataW H} {ps : List MemPlace} (hv : v.cells.toList = [v]) (h : DataW.Trod enc Tryz.prog w base spare held 24 v d ps) :
    ∃ A c xs, v = .slice A xs.length c ∧ xs.length ≤ c ∧ xs.length ≤ maxLen ∧ k32.C w A xs.length xs ∧ ∀ p ∈ xs, TokIn p := by
  obtain ⟨fuel, h⟩ := h
  rw [hv] at h
  exact open_row k32 z32 TokIn Tryz.underlying24 (by rw [c_tok]; rfl) (fun _ _ _ hh => open_tok hh) h
end
end Go.Proofs.YtjlgbkedbbailaaGreatDoor.Mu
namespace Go.Proofs.YtjlgbkedbbailaaGreatDoor.Mu
open Go.RowKit Go.Proofs.YtjlgbkedbbailaaGreatDoor.Pr Go.Proofs.YtjlgbkedbbailaaGreatDoorW.PrintWords Go.Proofs.YtjlgbkedbbailaaGreatDoorW.PrintLast Go.Proofs.YtjlgbkedbbailaaGreatDoorW.PrintMore
def escOne (q : Bool) : Bs → Bs
  | 194 :: 160 :: r => [38, 110, 98, 115, 112, 59] ++ escOne q r
  | c :: r => (if c = 38 then [38, 97, 109, 112, 59] else if c = 60 then [38, 108, 116, 59] else if c = 62 then [38, 103, 116, 59] else if c = 34 ∧ q = true then [38, 113, 117, 111, 116, 59] else [c]) ++ escOne q r
  | [] => []
theorem escOne_nb (q : Bool) (r : Bs) : escOne q (194 :: 160 :: r) = [38, 110, 98, 115, 112, 59] ++ escOne q r := by rw [escOne]
theorem escOne_cons (q : Bool) (c : UInt8) (r : Bs) (h : c ≠ 194 ∨ r.head? ≠ some 160) : escOne q (c :: r) = (if c = 38 then [38, 97, 109, 112, 59] else if c = 60 then [38, 108, 116, 59] else if c = 62 then [38, 103, 116, 59] else if c = 34 ∧ q = true then [38, 113, 117, 111, 116, 59] else [c]) ++ escOne q r := by
  rw [escOne]
  intro r' hc hr
  subst hr
  rcases h with h | h
  · exact h hc
  · simp at h
theorem escOne_nil (q : Bool) : escOne q [] = [] := by simp [escOne]
theorem escOne_text : ∀ s : Bs, escOne false s = escText s
  | [] => by simp [escOne, escText]
  | [c] => by
    rw [escOne_cons false c [] (.inr (by simp)), escText_cons c [] (.inr (by simp)), escOne_nil]
    simp [escText]
  | c :: d :: r => by
    by_cases h : c = 194 ∧ d = 160
    · obtain ⟨rfl, rfl⟩ := h
      rw [escOne_nb, escText, escOne_text r]
    · have h' : c ≠ 194 ∨ (d :: r).head? ≠ some 160 := by
        by_cases hc : c = 194
        · exact .inr (by simpa using fun e => h ⟨hc, e⟩)
        · exact .inl hc
      rw [escOne_cons false c _ h', escText_cons c _ h', escOne_text (d :: r)]
      simp
theorem escQuote_app : ∀ a b : Bs, escQuote (a ++ b) = escQuote a ++ escQuote b
  | [], _ => rfl
  | c :: a, b => by simp [escQuote, escQuote_app a b]
theorem escOne_value : ∀ s : Bs, escOne true s = escQuote (escText s)
  | [] => by simp [escOne, escText, escQuote]
  | [c] => by
    rw [escOne_cons true c [] (.inr (by simp)), escText_cons c [] (.inr (by simp)), escOne_nil, escQuote_app]
    have e : escText [] = [] := by simp [escText]
    rw [e]
    repeat' split
    all_goals simp_all [escQuote]
  | c :: d :: r => by
    by_cases h : c = 194 ∧ d = 160
    · obtain ⟨rfl, rfl⟩ := h
      rw [escOne_nb, escText, escQuote_app, escOne_value r]
      rfl
    · have h' : c ≠ 194 ∨ (d :: r).head? ≠ some 160 := by
        by_cases hc : c = 194
        · exact .inr (by simpa using fun e => h ⟨hc, e⟩)
        · exact .inl hc
      rw [escOne_cons true c _ h', escText_cons c _ h', escQuote_app, escOne_value (d :: r)]
      congr 1
      repeat' split
      all_goals simp_all [escQuote]
theorem bt_list {s : ByteArray} {i : Nat} (h : i < s.data.toList.length) : bt s (i : Int) = ((s.data.toList[i]).toNat : Int) := by
  have hs : i < s.size := by rw [← size_toList]; exact h
  rw [← bt_at s (i : Int) (by simpa using hs)]
  rfl
theorem u8_not {c : UInt8} {n : Nat} (hn : n < 256) (h : c ≠ UInt8.ofNat n) : ¬ (c.toNat : Int) = (n : Int) := by
  intro e
  refine h (UInt8.toNat_inj.1 ?_)
  rw [UInt8.toNat_ofNat', Nat.mod_eq_of_lt (by omega)]
  omega
def nb (l : Bs) : List Int := l.map fun b => (b.toNat : Int)
theorem nb_app (a b : Bs) : nb (a ++ b) = nb a ++ nb b := by simp [nb]
theorem nb_len (a : Bs) : (nb a).length = a.length := by simp [nb]
theorem str_nb (l : Bs) : strOfNums (nb l) = ⟨l.toArray⟩ := by
  unfold strOfNums nb
  rw [List.map_map]
  congr
  conv => rhs; rw [← List.map_id l]
  refine List.map_congr_left fun b _ => ?_
  simp
set_option maxHeartbeats 1000000 in
theorem w12 (s : ByteArray) (q : Bool) (hs : s.data.toList.length ≤ 100000) : ∀ d i (acc : Bs) k, i + d = s.data.toList.length → 2 * d < k → acc.length + 6 * d ≤ 1000000000 →
    muslinref12_write.l0 k s q (nb acc) (i : Int) = some ⟨(acc ++ escOne q (s.data.toList.drop i)).toArray⟩ := by
  intro d
  induction d using Nat.strongRecOn with
  | ind d ih =>
    intro i acc k hi hk hacc
    have hsz := size_toList s
    obtain ⟨k, rfl⟩ : ∃ k', k = k' + 1 := ⟨k - 1, by omega⟩
    by_cases hd : d = 0
    · subst hd
      unfold muslinref12_write.l0
      rw [if_neg (by omega), List.drop_eq_nil_of_le (by omega), escOne_nil, str_nb, List.append_nil]
    · have hil : i < s.data.toList.length := by omega
      have hdr : s.data.toList.drop i = s.data.toList[i] :: s.data.toList.drop (i + 1) := List.drop_eq_getElem_cons hil
      have hbt := bt_list hil
      have key : ∀ (p : Bs) (m k1 : Nat), 0 < m → m ≤ d → 2 * (d - m) < k1 → p.length ≤ 6 * m → escOne q (s.data.toList.drop i) = p ++ escOne q (s.data.toList.drop (i + m)) →
          muslinref12_write.l0 k1 s q (nb acc ++ nb p) ((i + m : Nat) : Int) = some ⟨(acc ++ escOne q (s.data.toList.drop i)).toArray⟩ := by
        intro p m k1 h0 h1 h2 h3 h4
        rw [← nb_app, ih (d - m) (by omega) (i + m) (acc ++ p) k1 (by omega) h2 (by rw [List.length_append]; omega), h4, List.append_assoc]
      have w1 := wrap_up (i := i) (by omega)
      have w2 := wrap_up (i := i + 1) (by omega)
      obtain ⟨c, hc⟩ : ∃ c, s.data.toList[i] = c := ⟨_, rfl⟩
      rw [hc] at hdr hbt
      -- the branch of one byte, or of the narrow white sign
      have last : ∀ k1, 2 * (d - 1) < k1 → c ≠ 38 → c ≠ 60 → c ≠ 62 → ¬ (c = 34 ∧ q = true) → muslinref12_write.j1 (k1 + 1) s q (nb acc) (i : Int) false = some ⟨(acc ++ escOne q (s.data.toList.drop i)).toArray⟩ := by
        intro k1 hk1 h38 h60 h62 h34
        unfold muslinref12_write.j1
        rw [if_neg (by simp), if_pos (by omega), if_pos (by omega), hbt, w1]
        have one : (c ≠ 194 ∨ (s.data.toList.drop (i + 1)).head? ≠ some 160) → (if (nb acc).length < 140737488355328 then muslinref12_write.l0 k1 s q (nb acc ++ [(c.toNat : Int)]) ((i + 1 : Nat) : Int) else none) = some ⟨(acc ++ escOne q (s.data.toList.drop i)).toArray⟩ := by
          intro h
          rw [if_pos (by rw [nb_len]; omega)]
          refine key [c] 1 k1 (by omega) (by omega) hk1 (by simp) ?_
          rw [hdr, escOne_cons q c _ h, if_neg h38, if_neg h60, if_neg h62, if_neg h34]
        by_cases h194 : c = 194
        · subst h194
          rw [if_pos (by rfl)]
          by_cases hlt : i + 1 < s.data.toList.length
          · rw [if_pos (by omega), if_pos (by omega), bt_list hlt]
            by_cases h160 : s.data.toList[i + 1] = 160
            · rw [h160, if_pos (by rfl), if_pos (by rw [nb_len]; omega), w2]
              refine key [38, 110, 98, 115, 112, 59] 2 k1 (by omega) (by omega) (by omega) (by simp) ?_
              rw [hdr, List.drop_eq_getElem_cons hlt, h160, escOne_nb]
            · rw [if_neg (show ¬ _ = (160 : Int) from u8_not (n := 160) (by omega) h160)]
              refine one (.inr ?_)
              rw [List.drop_eq_getElem_cons hlt]
              simpa using h160
          · rw [if_neg (by omega)]
            refine one (.inr ?_)
            rw [List.drop_eq_nil_of_le (by omega)]
            simp
        · rw [if_neg (show ¬ _ = (194 : Int) from u8_not (n := 194) (by omega) h194)]
          exact one (.inl h194)
      unfold muslinref12_write.l0
      rw [if_pos (by omega), if_pos (by omega), hbt, w1]
      by_cases h38 : c = 38
      · subst h38
        rw [if_pos (by rfl), if_pos (by rw [nb_len]; omega)]
        refine key [38, 97, 109, 112, 59] 1 k (by omega) (by omega) (by omega) (by simp) ?_
        rw [hdr, escOne_cons q _ _ (.inl (by decide))]; rfl
      · rw [if_neg (show ¬ _ = (38 : Int) from u8_not (n := 38) (by omega) h38)]
        by_cases h60 : c = 60
        · subst h60
          rw [if_pos (by rfl), if_pos (by rw [nb_len]; omega)]
          refine key [38, 108, 116, 59] 1 k (by omega) (by omega) (by omega) (by simp) ?_
          rw [hdr, escOne_cons q _ _ (.inl (by decide))]; rfl
        · rw [if_neg (show ¬ _ = (60 : Int) from u8_not (n := 60) (by omega) h60)]
          by_cases h62 : c = 62
          · subst h62
            rw [if_pos (by rfl), if_pos (by rw [nb_len]; omega)]
            refine key [38, 103, 116, 59] 1 k (by omega) (by omega) (by omega) (by simp) ?_
            rw [hdr, escOne_cons q _ _ (.inl (by decide))]; rfl
          · rw [if_neg (show ¬ _ = (62 : Int) from u8_not (n := 62) (by omega) h62)]
            obtain ⟨k, rfl⟩ : ∃ k', k = k' + 1 := ⟨k - 1, by omega⟩
            by_cases h34 : c = 34
            · subst h34
              rw [if_pos (by rfl)]
              cases q with
              | true =>
                unfold muslinref12_write.j1
                rw [if_pos rfl, if_pos (by rw [nb_len]; omega), w1]
                refine key [38, 113, 117, 111, 116, 59] 1 k (by omega) (by omega) (by omega) (by simp) ?_
                rw [hdr, escOne_cons _ _ _ (.inl (by decide))]; rfl
              | false => exact last k (by omega) h38 h60 h62 (by simp)
            · rw [if_neg (show ¬ _ = (34 : Int) from u8_not (n := 34) (by omega) h34)]
              exact last k (by omega) h38 h60 h62 (fun h => h34 h.1)
theorem rText_eq (s : ByteArray) (hs : s.data.toList.length ≤ 300) (k : Nat) (hk : 700 ≤ k) : muslinref12_Text.f k s = some ⟨(escText s.data.toList).toArray⟩ := by
  have := w12 s false (by omega) s.data.toList.length 0 [] k (by omega) (by omega) (by rw [List.length_nil]; omega)
  unfold muslinref12_Text.f muslinref12_write.f
  rw [show ([] : List Int) = nb [] from rfl, show (0 : Int) = ((0 : Nat) : Int) from rfl, this, List.drop_zero, escOne_text]
  rfl
theorem rValue_eq (s : ByteArray) (hs : s.data.toList.length ≤ 300) (k : Nat) (hk : 700 ≤ k) : muslinref12_Value.f k s = some ⟨(escValue s.data.toList).toArray⟩ := by
  have := w12 s true (by omega) s.data.toList.length 0 [] k (by omega) (by omega) (by rw [List.length_nil]; omega)
  unfold muslinref12_Value.f muslinref12_write.f
  rw [show ([] : List Int) = nb [] from rfl, show (0 : Int) = ((0 : Nat) : Int) from rfl, this, List.drop_zero, escOne_value]
  rfl
def mkB (b : Bs) : ByteArray := ⟨b.toArray⟩
theorem mkB_app (a b : Bs) : mkB a ++ mkB b = mkB (a ++ b) := by
  have : (mkB a ++ mkB b).data = (mkB (a ++ b)).data := by rw [ByteArray.data_append]; simp [mkB]
  exact ByteArray.ext this
theorem mkB_of (s : ByteArray) : s = mkB s.data.toList := by simp [mkB]
theorem mkB_size (b : Bs) : (mkB b).size = b.length := by simp [mkB, ByteArray.size]
theorem asB_drop {l : List S35} {j : Nat} (h : j < l.length) : asB (l.drop j) = aB l[j] ++ asB (l.drop (j + 1)) := by
  rw [List.drop_eq_getElem_cons h]; rfl
theorem toksB_drop {l : List S32} {i : Nat} (h : i < l.length) : toksB (l.drop i) = tokB l[i] ++ toksB (l.drop (i + 1)) := by
  rw [List.drop_eq_getElem_cons h]; rfl
theorem few_T {l : List S32} (h : fewL l = true) : l.length ≤ 60 ∧ (∀ x ∈ l, fewT x = true) ∧ ∀ x ∈ l, FewT x := by
  simp only [fewL, Bool.and_eq_true, decide_eq_true_eq, List.all_eq_true] at h
  refine ⟨h.1, h.2, fun x hx => ?_⟩
  have := h.2 x hx
  simp only [fewT, Bool.and_eq_true, decide_eq_true_eq, List.all_eq_true] at this
  obtain ⟨⟨⟨f1, f3⟩, f40⟩, fA⟩ := this
  refine ⟨by omega, by omega, by omega, fun a ha => ?_⟩
  have := fA a ha
  simp only [fewA, Bool.and_eq_true, decide_eq_true_eq] at this
  exact ⟨by omega, by omega⟩
theorem refText_calls (s : ByteArray) (w : World) (hs : s.data.toList.length ≤ 300) : Calls Tryz.prog 36 #[.string s] w fun e w' => e = .returned (.string ⟨(escText s.data.toList).toArray⟩) ∧ Below w.heap.size w w' :=
  muslinref12_Text.calls 700 s _ w (rText_eq s hs 700 (Nat.le_refl _))
theorem refValue_calls (s : ByteArray) (w : World) (hs : s.data.toList.length ≤ 300) : Calls Tryz.prog 37 #[.string s] w fun e w' => e = .returned (.string ⟨(escValue s.data.toList).toArray⟩) ∧ Below w.heap.size w w' :=
  muslinref12_Value.calls 700 s _ w (rValue_eq s hs 700 (Nat.le_refl _))
end Go.Proofs.YtjlgbkedbbailaaGreatDoor.Mu
namespace Go.Proofs.YtjlgbkedbbailaaGreatDoor.Mu
open Go.RowKit Go.Proofs.YtjlgbkedbbailaaGreatDoor.Pr Go.Proofs.YtjlgbkedbbailaaGreatDoorW.PrintWords Go.Proofs.YtjlgbkedbbailaaGreatDoorW.PrintLast Go.Proofs.YtjlgbkedbbailaaGreatDoorW.PrintMore
theorem app_list (a b : ByteArray) : (a ++ b).data.toList = a.data.toList ++ b.data.toList := by rw [ByteArray.data_append]; simp
set_option maxRecDepth 20000 in
set_option maxHeartbeats 4000000 in
theorem refWrite_calls (A : Option Addr) (c : Nat) (l : List S32) (w : World) (hC : k32.C w A l.length l) (hc : l.length ≤ c) (h : fewL l = true) :
    Calls Tryz.prog 18 #[.slice A l.length c] w fun e w' => e = .returned (.string ⟨(toksB l).toArray⟩) ∧ Below w.heap.size w w' := by
  obtain ⟨h60, hT, hF⟩ := few_T h
  have hmax : (toksB l).length ≤ 4001000000 * l.length := flat_len tokB _ l (fun x hx => tokB_len (hF x hx))
  have HM := Lib.hid (show (toksB l).length ≤ 1000000000000 by omega)
  have HC := Lib.hid hC
  have HT := Lib.hid hT
  clear hC hT hF hmax h
  go_enter Tryz.func18, Tryz.ntmps18
  go_wp2_with fail
  go_loopg [3, 4] l.length (fun g v3 v4 wx => ∃ (i : Nat) (x : ByteArray), g + i = l.length ∧ v3 = .string x ∧ v4 = .int .i64 i ∧ x.data.toList ++ toksB (l.drop i) = toksB l ∧ Below w.heap.size w wx)
  case atStart => exact ⟨0, ⟨#[]⟩, by omega, rfl, rfl, by simp, Below.refl _ _⟩
  case round =>
    obtain ⟨i, x, hg, rfl, rfl, hx, hb⟩ := hrel
    have HG := Lib.hid hg
    have HB := Lib.hid hb
    have hil : i ≤ l.length := by omega
    clear hg hb
    by_cases hi : i < l.length
    · obtain ⟨ad, A2, c2, rfl, d0, d1, d2, d3, hl2, hC2⟩ := at_T32 (Kd.C_below HC.out HB.out) (i : Int) (by omega) (by omega)
      rw [rdT_at hi] at d0 d1 d2 d3 hl2 hC2
      simp only [Int.toNat_natCast] at d0 d1 d2 d3
      have hft := HT.out l[i] (List.getElem_mem hi)
      rw [toksB_drop hi] at hx
      obtain ⟨t, ht⟩ : ∃ t, l[i] = t := ⟨_, rfl⟩
      rw [ht] at d0 d1 d2 d3 hl2 hC2 hft hx
      have HC2 := Lib.hid hC2
      clear hC2
      have HTI := Lib.hid ht
      clear ht
      simp only [fewT, Bool.and_eq_true, decide_eq_true_eq, List.all_eq_true] at hft
      obtain ⟨⟨⟨f1, f3⟩, f40⟩, fA⟩ := hft
      have HFA := Lib.hid fA
      clear fA
      obtain ⟨tk, tn, ta, tt⟩ := t
      dsimp only at d0 d1 d2 d3 hl2 f1 f3 f40
      have HXL := congrArg List.length hx
      simp only [List.length_append] at HXL
      have hsx := size_toList x
      have hsn := size_toList tn
      have hst := size_toList tt
      have HX := Lib.hid hx
      clear hx
      have hmx := HM.out
      by_cases k1 : tk = 1
      · subst k1
        have e : tokB ⟨1, tn, ta, tt⟩ = escText tt.data.toList := by unfold tokB; rw [if_pos rfl]
        obtain ⟨y, hy⟩ : ∃ y : ByteArray, y = ⟨(escText tt.data.toList).toArray⟩ := ⟨_, rfl⟩
        have hyl : y.data.toList = escText tt.data.toList := by rw [hy]
        have HY := Lib.hid (refText_calls tt wr (by omega))
        rw [← hy] at HY
        have hsy := size_toList y
        rw [e, ← hyl, hsx, hsy] at HXL
        have q1 : ¬ 9223372036854775807 < x.size + y.size := by omega
        have HXN := Lib.hid (show (x ++ y).data.toList ++ toksB (l.drop (i + 1)) = toksB l by rw [app_list, hyl, ← e, List.append_assoc]; exact HX.out)
        clear e hy hyl hsy HXL hmx hsx hsn hst HX
        go_wp2_with fail
        refine HY.out.mono ?_
        rintro e w2 ⟨rfl, hb2⟩
        have HB2 := Lib.hid (below_next HB.out hb2)
        clear hb2
        go_wp2_with fail
        go_roundg (gk - 1)
        case measure => have := HG.out; omega
        case rel => exact ⟨i + 1, x ++ y, by have := HG.out; omega, rfl, by simp, HXN.out, HB2.out⟩
      · have b1 : (tk == 1) = false := by rw [beq_eq_false_iff_ne]; exact k1
        by_cases k2 : tk = 2
        · subst k2
          have e : tokB ⟨2, tn, ta, tt⟩ = [60] ++ tn.data.toList ++ asB ta ++ [62] := by unfold tokB; rw [if_neg (show ¬ (2 : Int) = 1 by decide), if_pos rfl]
          rw [e] at HXL
          simp only [List.length_append, List.length_cons, List.length_nil] at HXL
          obtain ⟨x1, hx1⟩ : ∃ z, x ++ ⟨#[60]⟩ = z := ⟨_, rfl⟩
          have hs1 : x1.size = x.size + 1 := by rw [← hx1, ByteArray.size_append]; rfl
          obtain ⟨x2, hx2⟩ : ∃ z, x1 ++ tn = z := ⟨_, rfl⟩
          have hs2 : x2.size = x1.size + tn.size := by rw [← hx2, ByteArray.size_append]
          have q1 : ¬ 9223372036854775807 < x.size + 1 := by omega
          have q2 : ¬ 9223372036854775807 < x1.size + tn.size := by omega
          have HX2 := Lib.hid (show x2.data.toList ++ asB (ta.drop 0) ++ [62] ++ toksB (l.drop (i + 1)) = toksB l by
            rw [← hx2, app_list, ← hx1, app_list, ← HX.out, e]; simp)
          clear e HXL hs1 hs2 hmx hsx hsn hst HX
          go_wp2_with fail
          clear q1 q2 hx1 hx2
          obtain ⟨go, hgo⟩ : ∃ go : Nat, go = gk := ⟨_, rfl⟩
          subst hgo
          obtain ⟨wo, hwo⟩ : ∃ wo : World, wo = wr := ⟨_, rfl⟩
          subst hwo
          go_loopg [3, 5] ta.length (fun g v3 v5 wx => ∃ (j : Nat) (y : ByteArray), g + j = ta.length ∧ v3 = .string y ∧ v5 = .int .i64 j ∧ y.data.toList ++ asB (ta.drop j) ++ [62] ++ toksB (l.drop (i + 1)) = toksB l ∧ Below w.heap.size w wx ∧ Below wo.heap.size wo wx)
          case atStart => exact ⟨0, x2, by omega, rfl, rfl, HX2.out, HB.out, Below.refl _ _⟩
          case round =>
            obtain ⟨j, y, hg, rfl, rfl, hy, hb, hbo⟩ := hrel
            have HGJ := Lib.hid hg
            have HBJ := Lib.hid hb
            have HBO := Lib.hid hbo
            have hjl : j ≤ ta.length := by omega
            have g2 := pw_cell_below hbo d2
            clear hg hb hbo
            have hmx := HM.out
            have hsy := size_toList y
            by_cases hj : j < ta.length
            · obtain ⟨ae, rfl, e0, e1⟩ := at_T35 (Kd.C_below HC2.out HBO.out) (j : Int) (by omega) (by omega)
              rw [rdT2_at hj] at e0 e1
              simp only [Int.toNat_natCast] at e0 e1
              have hfa := HFA.out ta[j] (List.getElem_mem hj)
              rw [asB_drop hj] at hy
              obtain ⟨⟨an, av⟩, hat⟩ : ∃ a, ta[j] = a := ⟨_, rfl⟩
              rw [hat] at e0 e1 hfa hy
              clear hat
              simp only [fewA, Bool.and_eq_true, decide_eq_true_eq] at hfa
              obtain ⟨a0, a1⟩ := hfa
              dsimp only at e0 e1
              have HYL := congrArg List.length hy
              simp only [aB, List.length_append, List.length_cons, List.length_nil] at HYL
              have hsn := size_toList an
              have hsv := size_toList av
              obtain ⟨z, hz⟩ : ∃ z : ByteArray, z = ⟨(escValue av.data.toList).toArray⟩ := ⟨_, rfl⟩
              have hzl : z.data.toList = escValue av.data.toList := by rw [hz]
              have hsz := size_toList z
              have HV := Lib.hid (fun w' => refValue_calls av w' (by omega))
              rw [← hz] at HV
              rw [← hzl] at HYL
              obtain ⟨y1, hy1⟩ : ∃ z, y ++ ⟨#[32]⟩ = z := ⟨_, rfl⟩
              have hs1 : y1.size = y.size + 1 := by rw [← hy1, ByteArray.size_append]; rfl
              obtain ⟨y2, hy2⟩ : ∃ z, y1 ++ an = z := ⟨_, rfl⟩
              have hs2 : y2.size = y1.size + an.size := by rw [← hy2, ByteArray.size_append]
              obtain ⟨y3, hy3⟩ : ∃ z, y2 ++ ⟨#[61, 34]⟩ = z := ⟨_, rfl⟩
              have hs3 : y3.size = y2.size + 2 := by rw [← hy3, ByteArray.size_append]; rfl
              obtain ⟨y4, hy4⟩ : ∃ v, y3 ++ z = v := ⟨_, rfl⟩
              have hs4 : y4.size = y3.size + z.size := by rw [← hy4, ByteArray.size_append]
              obtain ⟨y5, hy5⟩ : ∃ z, y4 ++ ⟨#[34]⟩ = z := ⟨_, rfl⟩
              have q1 : ¬ 9223372036854775807 < y.size + 1 := by omega
              have q2 : ¬ 9223372036854775807 < y1.size + an.size := by omega
              have q3 : ¬ 9223372036854775807 < y2.size + 2 := by omega
              have q4 : ¬ 9223372036854775807 < y3.size + z.size := by omega
              have q5 : ¬ 9223372036854775807 < y4.size + 1 := by omega
              have HY5 := Lib.hid (show y5.data.toList ++ asB (ta.drop (j + 1)) ++ [62] ++ toksB (l.drop (i + 1)) = toksB l by
                rw [← hy5, app_list, ← hy4, app_list, ← hy3, app_list, ← hy2, app_list, ← hy1, app_list, hzl, ← hy]; simp [aB])
              have hii : (i : Int) < (l.length : Int) := by omega
              have hjj : (j : Int) < (ta.length : Int) := by omega
              clear hz hzl hsz hs1 hs2 hs3 hs4 HYL hy hsn hsv a0 a1 hsy hmx
              go_wp2_with fail
              refine start_ (n := 26) (S := fun w' => w'.cell? ⟨(ad.add (i * 4)).block, (ad.add (i * 4)).off + 2, none⟩ = some (.slice (some ae) ta.length c2) ∧ w'.cell? (ae.add (j * 2)) = some (.string an) ∧ w'.cell? ⟨(ae.add (j * 2)).block, (ae.add (j * 2)).off + 1, none⟩ = some (.string av)) (ds := []) #[false, false, false, false, false, false, false, false, false, false, false, false, false, false, false, false, false, false, false, false, false, false, false, false, false, false] (by kernel_rfl) rfl rfl ⟨g2, e0, e1⟩ (fun hHeld => ?_)
              refine pure_ (i := 0) (N := some 47) (v := ?_) (a' := ?_) #[true, false, false, false, false, false, false, false, false, false, false, false, false, false, false, false, false, false, false, false, false, false, false, false, false, false] rfl rfl (by kernel_rfl) (fun _ _ _ h => h) (Or.inl ⟨by rfl, ?_⟩) ?_ ?_
              rotate_left
              · intro w'; go_simp; with_reducible rfl
              rotate_left
              · simp only [Act.put, List.setIfInBounds_toArray, List.set_cons_zero, List.set_cons_succ]
                rfl
              refine pure_ (i := 1) (N := some 48) (v := ?_) (a' := ?_) #[true, true, false, false, false, false, false, false, false, false, false, false, false, false, false, false, false, false, false, false, false, false, false, false, false, false] rfl rfl (by kernel_rfl) (fun _ _ _ h => h) (Or.inl ⟨by rfl, ?_⟩) ?_ ?_
              rotate_left
              · intro w'; go_simp; with_reducible rfl
              rotate_left
              · simp only [Act.put, List.setIfInBounds_toArray, List.set_cons_zero, List.set_cons_succ]
                rfl
              refine pure_ (i := 2) (N := some 49) (v := ?_) (a' := ?_) #[true, true, true, false, false, false, false, false, false, false, false, false, false, false, false, false, false, false, false, false, false, false, false, false, false, false] rfl rfl (by kernel_rfl) (fun _ _ _ h => h) (Or.inl ⟨by rfl, ?_⟩) ?_ ?_
              rotate_left
              · intro w'; go_simp; with_reducible rfl
              rotate_left
              · simp only [Act.put, List.setIfInBounds_toArray, List.set_cons_zero, List.set_cons_succ]
                rfl
              refine pure_ (i := 3) (N := some 50) (v := ?_) (a' := ?_) #[true, true, true, true, false, false, false, false, false, false, false, false, false, false, false, false, false, false, false, false, false, false, false, false, false, false] rfl rfl (by kernel_rfl) (fun _ _ _ h => h) (Or.inl ⟨by rfl, ?_⟩) ?_ ?_
              rotate_left
              · intro w'; go_simp; with_reducible rfl
              rotate_left
              · simp only [Act.put, List.setIfInBounds_toArray, List.set_cons_zero, List.set_cons_succ]
                rfl
              refine pure_ (i := 4) (N := some 51) (v := ?_) (a' := ?_) #[true, true, true, true, true, false, false, false, false, false, false, false, false, false, false, false, false, false, false, false, false, false, false, false, false, false] rfl rfl (by kernel_rfl) (fun _ _ _ h => h) (Or.inl ⟨by rfl, ?_⟩) ?_ ?_
              rotate_left
              · intro w'; go_simp; with_reducible rfl
              rotate_left
              · simp only [Act.put, List.setIfInBounds_toArray, List.set_cons_zero, List.set_cons_succ]
                rfl
              refine pure_ (i := 5) (N := some 52) (v := ?_) (a' := ?_) #[true, true, true, true, true, true, false, false, false, false, false, false, false, false, false, false, false, false, false, false, false, false, false, false, false, false] rfl rfl (by kernel_rfl) (fun _ _ _ h => h) (Or.inl ⟨by rfl, ?_⟩) ?_ ?_
              rotate_left
              · intro w'; go_simp; with_reducible rfl
              rotate_left
              · simp only [Act.put, List.setIfInBounds_toArray, List.set_cons_zero, List.set_cons_succ]
                rfl
              refine take_ (i := 6) (N := some 53) (v := ?_) (a' := ?_) #[true, true, true, true, true, true, true, false, false, false, false, false, false, false, false, false, false, false, false, false, false, false, false, false, false, false] rfl rfl (by kernel_rfl) (fun _ _ _ h => h) (Or.inl ⟨by rfl, ?_⟩) hHeld ?_ ?_
              rotate_left
              · intro w' hS; (try obtain ⟨hS1, hS2, hS3, hS4, hS5⟩ := hS); go_simp; with_reducible rfl
              rotate_left
              · simp only [Act.put, List.setIfInBounds_toArray, List.set_cons_zero, List.set_cons_succ]
                rfl
              refine pure_ (i := 7) (N := some 54) (v := ?_) (a' := ?_) #[true, true, true, true, true, true, true, true, false, false, false, false, false, false, false, false, false, false, false, false, false, false, false, false, false, false] rfl rfl (by kernel_rfl) (fun _ _ _ h => h) (Or.inl ⟨by rfl, ?_⟩) ?_ ?_
              rotate_left
              · intro w'; go_simp; with_reducible rfl
              rotate_left
              · simp only [Act.put, List.setIfInBounds_toArray, List.set_cons_zero, List.set_cons_succ]
                rfl
              refine pure_ (i := 8) (N := some 55) (v := ?_) (a' := ?_) #[true, true, true, true, true, true, true, true, true, false, false, false, false, false, false, false, false, false, false, false, false, false, false, false, false, false] rfl rfl (by kernel_rfl) (fun _ _ _ h => h) (Or.inl ⟨by rfl, ?_⟩) ?_ ?_
              rotate_left
              · intro w'; go_simp; with_reducible rfl
              rotate_left
              · simp only [Act.put, List.setIfInBounds_toArray, List.set_cons_zero, List.set_cons_succ]
                rfl
              refine pure_ (i := 9) (N := some 56) (v := ?_) (a' := ?_) #[true, true, true, true, true, true, true, true, true, true, false, false, false, false, false, false, false, false, false, false, false, false, false, false, false, false] rfl rfl (by kernel_rfl) (fun _ _ _ h => h) (Or.inl ⟨by rfl, ?_⟩) ?_ ?_
              rotate_left
              · intro w'; go_simp; with_reducible rfl
              rotate_left
              · simp only [Act.put, List.setIfInBounds_toArray, List.set_cons_zero, List.set_cons_succ]
                rfl
              refine take_ (i := 10) (N := some 57) (v := ?_) (a' := ?_) #[true, true, true, true, true, true, true, true, true, true, true, false, false, false, false, false, false, false, false, false, false, false, false, false, false, false] rfl rfl (by kernel_rfl) (fun _ _ _ h => h) (Or.inl ⟨by rfl, ?_⟩) hHeld ?_ ?_
              rotate_left
              · intro w' hS; (try obtain ⟨hS1, hS2, hS3, hS4, hS5⟩ := hS); go_simp; with_reducible rfl
              rotate_left
              · simp only [Act.put, List.setIfInBounds_toArray, List.set_cons_zero, List.set_cons_succ]
                rfl
              refine pure_ (i := 11) (N := some 58) (v := ?_) (a' := ?_) #[true, true, true, true, true, true, true, true, true, true, true, true, false, false, false, false, false, false, false, false, false, false, false, false, false, false] rfl rfl (by kernel_rfl) (fun _ _ _ h => h) (Or.inl ⟨by rfl, ?_⟩) ?_ ?_
              rotate_left
              · intro w'; go_simp; with_reducible rfl
              rotate_left
              · simp only [Act.put, List.setIfInBounds_toArray, List.set_cons_zero, List.set_cons_succ]
                rfl
              refine pure_ (i := 12) (N := some 59) (v := ?_) (a' := ?_) #[true, true, true, true, true, true, true, true, true, true, true, true, true, false, false, false, false, false, false, false, false, false, false, false, false, false] rfl rfl (by kernel_rfl) (fun _ _ _ h => h) (Or.inl ⟨by rfl, ?_⟩) ?_ ?_
              rotate_left
              · intro w'; go_simp; with_reducible rfl
              rotate_left
              · simp only [Act.put, List.setIfInBounds_toArray, List.set_cons_zero, List.set_cons_succ]
                rfl
              refine pure_ (i := 13) (N := some 60) (v := ?_) (a' := ?_) #[true, true, true, true, true, true, true, true, true, true, true, true, true, true, false, false, false, false, false, false, false, false, false, false, false, false] rfl rfl (by kernel_rfl) (fun _ _ _ h => h) (Or.inl ⟨by rfl, ?_⟩) ?_ ?_
              rotate_left
              · intro w'; go_simp; with_reducible rfl
              rotate_left
              · simp only [Act.put, List.setIfInBounds_toArray, List.set_cons_zero, List.set_cons_succ]
                rfl
              refine pure_ (i := 14) (N := some 61) (v := ?_) (a' := ?_) #[true, true, true, true, true, true, true, true, true, true, true, true, true, true, true, false, false, false, false, false, false, false, false, false, false, false] rfl rfl (by kernel_rfl) (fun _ _ _ h => h) (Or.inl ⟨by rfl, ?_⟩) ?_ ?_
              rotate_left
              · intro w'; go_simp; with_reducible rfl
              rotate_left
              · simp only [Act.put, List.setIfInBounds_toArray, List.set_cons_zero, List.set_cons_succ]
                rfl
              refine pure_ (i := 15) (N := some 62) (v := ?_) (a' := ?_) #[true, true, true, true, true, true, true, true, true, true, true, true, true, true, true, true, false, false, false, false, false, false, false, false, false, false] rfl rfl (by kernel_rfl) (fun _ _ _ h => h) (Or.inl ⟨by rfl, ?_⟩) ?_ ?_
              rotate_left
              · intro w'; go_simp; with_reducible rfl
              rotate_left
              · simp only [Act.put, List.setIfInBounds_toArray, List.set_cons_zero, List.set_cons_succ]
                rfl
              refine pure_ (i := 16) (N := some 63) (v := ?_) (a' := ?_) #[true, true, true, true, true, true, true, true, true, true, true, true, true, true, true, true, true, false, false, false, false, false, false, false, false, false] rfl rfl (by kernel_rfl) (fun _ _ _ h => h) (Or.inl ⟨by rfl, ?_⟩) ?_ ?_
              rotate_left
              · intro w'; go_simp; with_reducible rfl
              rotate_left
              · simp only [Act.put, List.setIfInBounds_toArray, List.set_cons_zero, List.set_cons_succ]
                rfl
              refine take_ (i := 17) (N := some 64) (v := ?_) (a' := ?_) #[true, true, true, true, true, true, true, true, true, true, true, true, true, true, true, true, true, true, false, false, false, false, false, false, false, false] rfl rfl (by kernel_rfl) (fun _ _ _ h => h) (Or.inl ⟨by rfl, ?_⟩) hHeld ?_ ?_
              rotate_left
              · intro w' hS; (try obtain ⟨hS1, hS2, hS3, hS4, hS5⟩ := hS); go_simp; with_reducible rfl
              rotate_left
              · simp only [Act.put, List.setIfInBounds_toArray, List.set_cons_zero, List.set_cons_succ]
                rfl
              refine pure_ (i := 18) (N := some 65) (v := ?_) (a' := ?_) #[true, true, true, true, true, true, true, true, true, true, true, true, true, true, true, true, true, true, true, false, false, false, false, false, false, false] rfl rfl (by kernel_rfl) (fun _ _ _ h => h) (Or.inl ⟨by rfl, ?_⟩) ?_ ?_
              rotate_left
              · intro w'; go_simp; with_reducible rfl
              rotate_left
              · simp only [Act.put, List.setIfInBounds_toArray, List.set_cons_zero, List.set_cons_succ]
                rfl
              refine pure_ (i := 19) (N := some 66) (v := ?_) (a' := ?_) #[true, true, true, true, true, true, true, true, true, true, true, true, true, true, true, true, true, true, true, true, false, false, false, false, false, false] rfl rfl (by kernel_rfl) (fun _ _ _ h => h) (Or.inl ⟨by rfl, ?_⟩) ?_ ?_
              rotate_left
              · intro w'; go_simp; with_reducible rfl
              rotate_left
              · simp only [Act.put, List.setIfInBounds_toArray, List.set_cons_zero, List.set_cons_succ]
                rfl
              refine pure_ (i := 20) (N := some 67) (v := ?_) (a' := ?_) #[true, true, true, true, true, true, true, true, true, true, true, true, true, true, true, true, true, true, true, true, true, false, false, false, false, false] rfl rfl (by kernel_rfl) (fun _ _ _ h => h) (Or.inl ⟨by rfl, ?_⟩) ?_ ?_
              rotate_left
              · intro w'; go_simp; with_reducible rfl
              rotate_left
              · simp only [Act.put, List.setIfInBounds_toArray, List.set_cons_zero, List.set_cons_succ]
                rfl
              refine take_ (i := 21) (N := some 68) (v := ?_) (a' := ?_) #[true, true, true, true, true, true, true, true, true, true, true, true, true, true, true, true, true, true, true, true, true, true, false, false, false, false] rfl rfl (by kernel_rfl) (fun _ _ _ h => h) (Or.inl ⟨by rfl, ?_⟩) hHeld ?_ ?_
              rotate_left
              · intro w' hS; (try obtain ⟨hS1, hS2, hS3, hS4, hS5⟩ := hS); go_simp; with_reducible rfl
              rotate_left
              · simp only [Act.put, List.setIfInBounds_toArray, List.set_cons_zero, List.set_cons_succ]
                rfl
              refine one_ (i := 22) (N := some 69) #[true, true, true, true, true, true, true, true, true, true, true, true, true, true, true, true, true, true, true, true, true, true, true, false, false, false] rfl rfl (by kernel_rfl) (by decide) (fun K hK => ?_)
              refine goes_ Tryz.func37 (by kernel_rfl) rfl #[.string av] (by rfl) rfl rfl (by simp only [List.map_toArray, List.map_cons, List.map_nil]; rfl) ?_
              refine (HV.out _).mono ?_
              rintro e w3 ⟨rfl, hb3⟩
              refine ⟨_, rfl, ?_⟩
              have HB3 := Lib.hid hb3
              refine hK.out _ _ ⟨pw_cell_below hb3 hHeld.1, pw_cell_below hb3 hHeld.2.1, pw_cell_below hb3 hHeld.2.2⟩ (fun hHeld => ?_)
              clear hK K
              refine norm_ (a' := ?_) ?_ ?_
              rotate_left
              · show Act.put _ (some 69) _ = _
                simp only [Act.put, List.setIfInBounds_toArray, List.set_cons_zero, List.set_cons_succ]
                rfl
              refine pure_ (i := 23) (N := some 70) (v := ?_) (a' := ?_) #[true, true, true, true, true, true, true, true, true, true, true, true, true, true, true, true, true, true, true, true, true, true, true, true, false, false] rfl rfl (by kernel_rfl) (fun _ _ _ h => h) (Or.inl ⟨by rfl, ?_⟩) ?_ ?_
              rotate_left
              · intro w'; go_simp; with_reducible rfl
              rotate_left
              · simp only [Act.put, List.setIfInBounds_toArray, List.set_cons_zero, List.set_cons_succ]
                rfl
              refine pure_ (i := 24) (N := some 71) (v := ?_) (a' := ?_) #[true, true, true, true, true, true, true, true, true, true, true, true, true, true, true, true, true, true, true, true, true, true, true, true, true, false] rfl rfl (by kernel_rfl) (fun _ _ _ h => h) (Or.inl ⟨by rfl, ?_⟩) ?_ ?_
              rotate_left
              · intro w'; go_simp; with_reducible rfl
              rotate_left
              · simp only [Act.put, List.setIfInBounds_toArray, List.set_cons_zero, List.set_cons_succ]
                rfl
              refine pure_ (i := 25) (N := some 3) (v := ?_) (a' := ?_) #[true, true, true, true, true, true, true, true, true, true, true, true, true, true, true, true, true, true, true, true, true, true, true, true, true, true] rfl rfl (by kernel_rfl) (fun _ _ _ h => h) (Or.inl ⟨by rfl, ?_⟩) ?_ ?_
              rotate_left
              · intro w'; go_simp; with_reducible rfl
              rotate_left
              · simp only [Act.put, List.setIfInBounds_toArray, List.set_cons_zero, List.set_cons_succ]
                rfl
              refine done_ (by kernel_rfl) ?_
              have HBW := Lib.hid (below_next (below_drew HBJ.out) HB3.out)
              have HBV := Lib.hid (below_next (below_drew HBO.out) HB3.out)
              clear hHeld e0 e1 HB3 q1 q2 q3 q4 q5 hy1 hy2 hy3 hy4 hy5
              go_wp2_with fail
              go_roundg (gk - 1)
              case measure => have := HGJ.out; omega
              case rel => exact ⟨j + 1, y5, by have := HGJ.out; omega, rfl, by simp, HY5.out, HBW.out, HBV.out⟩
            · have e0 : ta.drop j = [] := List.drop_eq_nil_of_le (by omega)
              rw [e0] at hy
              have HYL := congrArg List.length hy
              simp only [asB, List.map_nil, List.flatten_nil, List.length_append, List.length_cons, List.length_nil] at HYL
              have q1 : ¬ 9223372036854775807 < y.size + 1 := by omega
              have HY := Lib.hid (show (y ++ ⟨#[62]⟩).data.toList ++ toksB (l.drop (i + 1)) = toksB l by
                rw [app_list, ← hy]; simp [asB])
              clear e0 HYL hy hmx hsy
              go_wp2_with fail
              go_roundg (go - 1)
              case measure => have := HG.out; omega
              case rel => exact ⟨i + 1, y ++ ⟨#[62]⟩, by have := HG.out; omega, rfl, by simp, HY.out, HBJ.out⟩
        · have b2 : (tk == 2) = false := by rw [beq_eq_false_iff_ne]; exact k2
          by_cases k3 : tk = 3
          · subst k3
            have e : tokB ⟨3, tn, ta, tt⟩ = [60, 47] ++ tn.data.toList ++ [62] := by unfold tokB; rw [if_neg (show ¬ (3 : Int) = 1 by decide), if_neg (show ¬ (3 : Int) = 2 by decide), if_pos rfl]
            rw [e] at HXL
            simp only [List.length_append, List.length_cons, List.length_nil] at HXL
            obtain ⟨x1, hx1⟩ : ∃ z, x ++ ⟨#[60, 47]⟩ = z := ⟨_, rfl⟩
            have hs1 : x1.size = x.size + 2 := by rw [← hx1, ByteArray.size_append]; rfl
            obtain ⟨x2, hx2⟩ : ∃ z, x1 ++ tn = z := ⟨_, rfl⟩
            have hs2 : x2.size = x1.size + tn.size := by rw [← hx2, ByteArray.size_append]
            have q1 : ¬ 9223372036854775807 < x.size + 2 := by omega
            have q2 : ¬ 9223372036854775807 < x1.size + tn.size := by omega
            have q3 : ¬ 9223372036854775807 < x2.size + 1 := by omega
            have HX2 := Lib.hid (show (x2 ++ ⟨#[62]⟩).data.toList ++ toksB (l.drop (i + 1)) = toksB l by
              rw [app_list, ← hx2, app_list, ← hx1, app_list, ← HX.out, e]; simp)
            clear e HXL hs1 hs2 hmx hsx hsn hst HX
            go_wp2_with fail
            go_roundg (gk - 1)
            case measure => have := HG.out; omega
            case rel => exact ⟨i + 1, x2 ++ ⟨#[62]⟩, by have := HG.out; omega, rfl, by simp, HX2.out, HB.out⟩
          · have b3 : (tk == 3) = false := by rw [beq_eq_false_iff_ne]; exact k3
            have e : tokB ⟨tk, tn, ta, tt⟩ = [] := by unfold tokB; rw [if_neg k1, if_neg k2, if_neg k3]
            have HX2 := Lib.hid (show x.data.toList ++ toksB (l.drop (i + 1)) = toksB l by rw [← HX.out, e]; rfl)
            clear e HXL hmx hsx hsn hst HX k1 k2 k3
            go_wp2_with fail
            go_roundg (gk - 1)
            case measure => have := HG.out; omega
            case rel => exact ⟨i + 1, x, by have := HG.out; omega, rfl, by simp, HX2.out, HB.out⟩
    · have e0 : l.drop i = [] := List.drop_eq_nil_of_le (by omega)
      rw [e0] at hx
      have hx' : x.data.toList = toksB l := by simpa [toksB] using hx
      have he : x = ⟨(toksB l).toArray⟩ := by rw [← hx']
      clear hx hx' e0
      have hi2 : i = l.length := by omega
      subst hi2
      go_wp2_with fail
      go_ret
      exact ⟨by first | rfl | (rw [he]; rfl), HB.out⟩
end Go.Proofs.YtjlgbkedbbailaaGreatDoor.Mu
