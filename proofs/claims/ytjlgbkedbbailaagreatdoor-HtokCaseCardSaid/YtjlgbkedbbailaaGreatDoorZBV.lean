/- Walks: ent.Value; htok.Write.
   Walks: htok.Write.
   Walks: muslinref13.SameAttrs and Same of two equal lists.
   Walks: the sample that each law of layer 13 holds against the document. -/
import Derived.Test.YtjlgbkedbbailaaGreatDoorZBR
import Derived.Test.YtjlgbkedbbailaaGreatDoorZBW
import Derived.Test.YtjlgbkedbbailaaGreatDoorZBM
set_option linter.unusedVariables false
set_option linter.unusedSimpArgs false
namespace Go.Proofs.YtjlgbkedbbailaaGreatDoor.Mu
open Go.RowKit Go.Proofs.YtjlgbkedbbailaaGreatDoor.Pr Go.Proofs.YtjlgbkedbbailaaGreatDoorW.PrintWords Go.Proofs.YtjlgbkedbbailaaGreatDoorW.PrintLast Go.Proofs.YtjlgbkedbbailaaGreatDoorW.PrintMore
theorem count_le_len (s : Bs) : Lib.countB ⟨s.toArray⟩ ⟨#[34]⟩ ≤ s.length := by
  show Lib.count s [34] ≤ s.length
  rw [Lib.count_one]
  exact List.count_le_length
set_option maxHeartbeats 1000000 in
theorem value_text_calls (s : Bs) (w : World) (hE : Env w) (hs : s.length ≤ 16777216) :
    Calls Tryz.prog 34 #[.string ⟨s.toArray⟩] w fun e w' => e = .returned (.string ⟨(escValue s).toArray⟩) ∧ Below w.heap.size w w' := by
  have HT := Lib.hid (text_calls s w (by omega))
  have HE := Lib.hid hE
  clear hE
  go_enter Tryz.func34, Tryz.ntmps34
  go_wp2_with fail
  refine HT.out.mono ?_
  rintro e w1 ⟨rfl, hb⟩
  obtain ⟨m, hm⟩ := (HE.out.below hb).maxlen
  have hl := esc_len s
  have hcl := count_le_len (escText s)
  have HR := Lib.hid (Tryz.strings_ReplaceAll ⟨(escText s).toArray⟩ ⟨#[34]⟩ ⟨#[38, 113, 117, 111, 116, 59]⟩ m w1 (by show (escText s).length < _; omega) hm (by decide) (by
    show (escText s).length + _ * 6 ≤ _
    omega))
  have HB := Lib.hid hb
  clear hb hm
  go_wp2_with fail
  refine HR.out.mono ?_
  rintro e w2 ⟨rfl, hb2⟩
  have HB2 := Lib.hid hb2
  clear hb2
  go_wp2_with fail
  go_ret
  refine ⟨?_, below_next HB.out HB2.out⟩
  show Ending.returned (.string ⟨(Lib.replaceAll (escText s) [34] quot).toArray⟩) = _
  rw [replaceAll_quote]
  rfl
end Go.Proofs.YtjlgbkedbbailaaGreatDoor.Mu
namespace Go.Proofs.YtjlgbkedbbailaaGreatDoor.Mu
open Go.RowKit Go.Proofs.YtjlgbkedbbailaaGreatDoor.Pr Go.Proofs.YtjlgbkedbbailaaGreatDoorW.PrintWords Go.Proofs.YtjlgbkedbbailaaGreatDoorW.PrintLast Go.Proofs.YtjlgbkedbbailaaGreatDoorW.PrintMore
def aB (a : S35) : Bs := [32] ++ a.f0.data.toList ++ [61, 34] ++ escValue a.f1.data.toList ++ [34]
def asB (l : List S35) : Bs := (l.map aB).flatten
def tokB (x : S32) : Bs :=
  if x.f0 = 1 then escText x.f3.data.toList
  else if x.f0 = 2 then [60] ++ x.f1.data.toList ++ asB x.f2 ++ [62]
  else if x.f0 = 3 then [60, 47] ++ x.f1.data.toList ++ [62] else []
def toksB (l : List S32) : Bs := (l.map tokB).flatten
def FewA (a : S35) : Prop := a.f0.size ≤ 100000 ∧ a.f1.size ≤ 100000
structure FewT (x : S32) : Prop where
  name : x.f1.size ≤ 100000
  text : x.f3.size ≤ 100000
  len : x.f2.length ≤ 1000
  attrs : ∀ a ∈ x.f2, FewA a
theorem size_toList (s : ByteArray) : s.data.toList.length = s.size := by rw [Array.length_toList]; rfl
theorem flat_len {α : Type} (f : α → Bs) (m : Nat) : ∀ l : List α, (∀ a ∈ l, (f a).length ≤ m) → (l.map f).flatten.length ≤ m * l.length
  | [], _ => by simp
  | a :: r, h => by
    have h1 := h a (by simp)
    have h2 := flat_len f m r (fun x hx => h x (by simp [hx]))
    simp only [List.map_cons, List.flatten_cons, List.length_append, List.length_cons, Nat.mul_add, Nat.mul_one]
    omega
theorem value_len (s : Bs) : (escValue s).length ≤ 36 * s.length := by
  have h1 := quote_len (escText s)
  have h2 := esc_len s
  unfold escValue; omega
theorem aB_len {a : S35} (h : FewA a) : (aB a).length ≤ 4000000 := by
  have h1 := value_len a.f1.data.toList
  have h2 := size_toList a.f0
  have h3 := size_toList a.f1
  obtain ⟨h4, h5⟩ := h
  simp only [aB, List.length_append, List.length_cons, List.length_nil]; omega
theorem asB_len {l : List S35} (h : ∀ a ∈ l, FewA a) : (asB l).length ≤ 4000000 * l.length := flat_len aB _ l (fun a ha => aB_len (h a ha))
theorem tokB_len {x : S32} (h : FewT x) : (tokB x).length ≤ 4001000000 := by
  have h1 := esc_len x.f3.data.toList
  have h2 := size_toList x.f1
  have h3 := size_toList x.f3
  have h4 := asB_len h.attrs
  have h5 := h.name
  have h6 := h.text
  have h7 := h.len
  unfold tokB
  split
  · omega
  · split
    · simp only [List.length_append, List.length_cons, List.length_nil]; omega
    · split
      · simp only [List.length_append, List.length_cons, List.length_nil]; omega
      · simp
theorem toksB_len {l : List S32} (h : ∀ x ∈ l, FewT x) (hl : l.length ≤ 10000) : (toksB l).length ≤ 40010000000000 := by
  have := flat_len tokB 4001000000 l (fun x hx => tokB_len (h x hx))
  unfold toksB
  omega
theorem flat_take {α : Type} (f : α → Bs) (l : List α) (k : Nat) (h : k < l.length) : ((l.take (k + 1)).map f).flatten = ((l.take k).map f).flatten ++ f l[k] := by
  rw [List.take_succ_eq_append_getElem h, List.map_append, List.flatten_append]
  simp only [List.map_cons, List.map_nil, List.flatten_cons, List.flatten_nil, List.append_nil]
theorem rd_at {l : List S32} {k : Nat} (h : k < l.length) : rd_T32 l (k : Int) = l[k] := by
  unfold rd_T32
  rw [Int.toNat_natCast, List.getD_eq_getElem?_getD, List.getElem?_eq_getElem h]; rfl
theorem rdA_at {l : List S35} {k : Nat} (h : k < l.length) : rd_T35 l (k : Int) = l[k] := by
  unfold rd_T35
  rw [Int.toNat_natCast, List.getD_eq_getElem?_getD, List.getElem?_eq_getElem h]; rfl
theorem flat_le {α : Type} (f : α → Bs) (l : List α) (k : Nat) : ((l.take k).map f).flatten.length ≤ (l.map f).flatten.length := by
  have h : (l.map f).flatten = ((l.take k).map f).flatten ++ ((l.drop k).map f).flatten := by rw [← List.flatten_append, ← List.map_append, List.take_append_drop]
  rw [h, List.length_append]; omega
theorem Bld.lt {B b : Nat} {l : Bs} {w wr : World} (h : Bld B b l w wr) : b < wr.heap.size := by
  rcases h.is with ⟨_, v, hv, _⟩ | ⟨_, v, hv, _⟩ <;> exact (Array.getElem?_eq_some_iff.1 hv).1
theorem Bld.drew {B b : Nat} {l : Bs} {w wr : World} (h : Bld B b l w wr) : Bld B b l w wr.drew := h.keep (below_drew (Below.refl _ wr))
/-- The same, and blocks of another kind are kept. -/
theorem Bld.strK {B b : Nat} {l : Bs} {w wr : World} (h : Bld B b l w wr) (s : Bs) (hl : l.length + s.length ≤ 140737488355328) :
    Calls Tryz.prog 32 #[.pointer (some ⟨b, 0, none⟩), .string ⟨s.toArray⟩] wr fun e w' => e = .returned (.tuple #[.int .i64 s.length, .nilIface]) ∧ Bld B b (l ++ s) w w' ∧ Lib.OthersKept 5 (some b) wr w' := by
  refine (Tryz.Builder_WriteString_k B b _ ⟨s.toArray⟩ wr h.is (by rw [byteCells_len]; exact hl) h.size).mono ?_
  rintro e w' ⟨rfl, h1, h2, h3⟩
  refine ⟨rfl, ⟨.inr ?_, h.below.trans h2, Nat.le_trans h.size h2.size⟩, h3⟩
  rw [Lib.byteCells_append]
  exact h1
theorem BlkL.others {w w' : World} {a b t : Nat} {cs : List Value} (h : BlkL w a t cs) (hk : Lib.OthersKept 5 (some b) w w') (hab : a ≠ b) (ht : t ≠ 5) : BlkL w' a t cs :=
  hk a _ h (fun e => hab (Option.some.inj e)) (fun c fz e => by injection e with _ e; exact ht e)
set_option maxRecDepth 20000 in
set_option maxHeartbeats 4000000 in
theorem write_toks_calls (A : Option Addr) (c : Nat) (xs : List S32) (w : World) (hE : Env w) (hC : k32.C w A xs.length xs) (hc : xs.length ≤ c) (hx : ∀ x ∈ xs, FewT x) (hn : xs.length ≤ 10000) :
    Calls Tryz.prog 17 #[.slice A xs.length c] w fun e w' => e = .returned (.string ⟨(toksB xs).toArray⟩) ∧ Below w.heap.size w w' := by
  have HE := Lib.hid hE
  have HC := Lib.hid hC
  have HX := Lib.hid hx
  have hall := toksB_len hx hn
  have HALL := Lib.hid hall
  clear hE hC hx hall
  go_enter Tryz.func17, Tryz.ntmps17
  go_wp2_with fail
  have HB0 := Lib.hid (Bld.fresh w)
  go_loopg [10] xs.length (fun k i wr => ∃ j : Nat, k + j = xs.length ∧ i = .int .i64 j ∧ Bld w.heap.size w.heap.size (toksB (xs.take j)) w wr)
  case atStart => exact ⟨0, by omega, rfl, HB0.out⟩
  case round =>
    obtain ⟨j, hj, rfl, hb⟩ := hrel
    have HB := Lib.hid hb
    have HJ := Lib.hid hj
    have hjl : j ≤ xs.length := by omega
    clear hb hj HB0
    by_cases hlt : j < xs.length
    · have hle := flat_le tokB xs (j + 1)
      have hft := flat_take tokB xs j hlt
      have HFT := Lib.hid (show toksB (xs.take (j + 1)) = toksB (xs.take j) ++ tokB xs[j] from hft)
      have hfw := HX.out xs[j] (List.getElem_mem hlt)
      obtain ⟨ad, A2, c2, hA, e0, e1, e2, e3, hl2, hC2⟩ := at_T32 HC.out (j : Int) (by omega) (by omega)
      have hla : (toksB (xs.take (j + 1))).length ≤ 40010000000000 := Nat.le_trans hle HALL.out
      rw [HFT.out, List.length_append] at hla
      rw [rd_at hlt] at e0 e1 e2 e3 hl2 hC2
      obtain ⟨x, hxx⟩ : ∃ x, xs[j] = x := ⟨_, rfl⟩
      rw [hxx] at e0 e1 e2 e3 hl2 hC2 hfw hla HFT
      obtain ⟨kd, ⟨⟨nm⟩⟩, ys, ⟨⟨tx⟩⟩⟩ := x
      have d0 := pw_cell_below HB.out.below e0
      have d1 := pw_cell_below HB.out.below e1
      have d2 := pw_cell_below HB.out.below e2
      have d3 := pw_cell_below HB.out.below e3
      simp only [Int.toNat_natCast] at d0 d1 d2 d3
      dsimp only at d0 d1 d2 d3 hl2 hC2
      clear e0 e1 e2 e3
      have hnm : nm.length ≤ 100000 := hfw.name
      have htx : tx.length ≤ 100000 := hfw.text
      have hal : ys.length ≤ 1000 := hfw.len
      have HFW := Lib.hid hfw.attrs
      have HC2 := Lib.hid hC2
      have HT := Lib.hid (fun w => text_calls tx w (by omega))
      clear hle hft hfw hxx hC2
      subst hA
      by_cases k1 : kd = 1
      · subst k1
        have HTK := Lib.hid (show tokB ⟨1, ⟨⟨nm⟩⟩, ys, ⟨⟨tx⟩⟩⟩ = escText tx from if_pos rfl)
        go_wp2_with fail
        refine (HT.out _).mono ?_
        rintro e w2 ⟨rfl, hb2⟩
        have H2 := Lib.hid ((HB.out.keep (below_alloc (Below.refl _ wr) _)).keep hb2)
        clear hb2
        go_wp2_with fail
        refine (H2.out.str (escText tx) (by have h1 := HTK.out; rw [h1] at hla; omega)).mono ?_
        rintro e w3 ⟨rfl, h3⟩
        have H3 := Lib.hid h3
        clear h3
        go_wp2_with fail
        go_roundg (gk - 1)
        case measure => have := HJ.out; omega
        case rel => exact ⟨j + 1, by have := HJ.out; omega, by simp, by rw [HFT.out, HTK.out]; exact H3.out⟩
      by_cases k2 : kd = 2
      · subst k2
        have HTK := Lib.hid (show tokB ⟨2, ⟨⟨nm⟩⟩, ys, ⟨⟨tx⟩⟩⟩ = (60 :: nm) ++ asB ys ++ [62] from by simp [tokB])
        have p1 : (⟨#[60]⟩ : ByteArray) ++ ⟨nm.toArray⟩ = ⟨(60 :: nm).toArray⟩ := by apply ByteArray.ext; simp
        have q1 : ¬ 9223372036854775807 < 1 + nm.length := by omega
        have hlb := hla
        rw [HTK.out, List.length_append, List.length_append] at hlb
        have H2 := Lib.hid (HB.out.keep (below_alloc (Below.refl _ wr) (.cells #[.int .i64 2, .string ⟨nm.toArray⟩, .slice A2 ys.length c2, .string ⟨tx.toArray⟩] 32)))
        go_wp2_with fail
        refine (H2.out.strK (60 :: nm) (by omega)).mono ?_
        rintro e w3 ⟨rfl, h3, ho⟩
        have hn3 := (BlkL.new wr 32 [.int .i64 2, .string ⟨nm.toArray⟩, .slice A2 ys.length c2, .string ⟨tx.toArray⟩]).others ho (by have := HB.out.lt; omega) (by decide)
        have c7 := hn3.cell (i := 2) rfl
        have H3 := Lib.hid h3
        clear h3 ho hn3 p1 q1 d0 d1 d2 d3
        go_wp2_with fail
        obtain ⟨go, hgo⟩ : ∃ go : Nat, go = gk := ⟨_, rfl⟩
        subst hgo
        obtain ⟨wo, hwo⟩ : ∃ wo : World, wo = wr := ⟨_, rfl⟩
        subst hwo
        go_loopg [31] ys.length (fun k i wi => ∃ m : Nat, k + m = ys.length ∧ i = .int .i64 m ∧ Bld w.heap.size w.heap.size (toksB (xs.take j) ++ (60 :: nm) ++ asB (ys.take m)) w wi)
        case atStart => exact ⟨0, by omega, rfl, by have := H3.out; simpa [asB] using this⟩
        case round =>
          obtain ⟨m, hm, rfl, hbi⟩ := hrel
          have HBI := Lib.hid hbi
          have HM := Lib.hid hm
          have hml : m ≤ ys.length := by omega
          clear hbi hm H3 H2
          by_cases hmt : m < ys.length
          · have hle2 := flat_le aB ys (m + 1)
            have HF2 := Lib.hid (show asB (ys.take (m + 1)) = asB (ys.take m) ++ aB ys[m] from flat_take aB ys m hmt)
            have hle3 : (asB (ys.take (m + 1))).length ≤ (asB ys).length := hle2
            rw [HF2.out, List.length_append] at hle3
            have hfa := HFW.out ys[m] (List.getElem_mem hmt)
            obtain ⟨ae, hA2, e0, e1⟩ := at_T35 HC2.out (m : Int) (by omega) (by omega)
            have d0 := pw_cell_below HBI.out.below e0
            have d1 := pw_cell_below HBI.out.below e1
            simp only [Int.toNat_natCast] at d0 d1
            rw [rdA_at hmt] at d0 d1
            obtain ⟨x, hxx⟩ : ∃ x, ys[m] = x := ⟨_, rfl⟩
            rw [hxx] at d0 d1 hfa hle3 HF2
            obtain ⟨⟨⟨an⟩⟩, ⟨⟨av⟩⟩⟩ := x
            have han : an.length ≤ 100000 := hfa.1
            have hav : av.length ≤ 100000 := hfa.2
            have hvl := value_len av
            have HV := Lib.hid (fun w hE => value_text_calls av w hE (by omega))
            subst hA2
            dsimp only at d0 d1
            have hLA : (toksB (xs.take j) ++ (60 :: nm) ++ asB (ys.take m)).length + (aB ⟨⟨an.toArray⟩, ⟨av.toArray⟩⟩).length ≤ 140737488355328 := by
              simp only [List.length_append]
              have : (aB ⟨⟨⟨an⟩⟩, ⟨⟨av⟩⟩⟩).length = (aB ⟨⟨an.toArray⟩, ⟨av.toArray⟩⟩).length := rfl
              omega
            have HLA := Lib.hid hLA
            clear e0 e1 hle2 hle3 hfa hxx hLA
            go_wp2_with fail
            have hwa := BlkL.new wr 35 [.string ⟨an.toArray⟩, .string ⟨av.toArray⟩]
            have HWA := Lib.hid (HBI.out.keep (below_alloc (Below.refl _ wr) (.cells #[.string ⟨an.toArray⟩, .string ⟨av.toArray⟩] 35)))
            have hc0 := hwa.cell (i := 0) rfl
            have hc1 := hwa.cell (i := 1) rfl
            clear hwa
            change ((wr.alloc (.cells #[.string ⟨an.toArray⟩, .string ⟨av.toArray⟩] 35)).cell? _ = _) at hc0 hc1
            generalize wr.alloc (.cells #[.string ⟨an.toArray⟩, .string ⟨av.toArray⟩] 35) = wA at *
            refine start_ (n := 10) (S := fun w' => w'.cell? ⟨wr.heap.size, 0, none⟩ = some (.string ⟨an.toArray⟩) ∧ w'.cell? ⟨wr.heap.size, 1, none⟩ = some (.string ⟨av.toArray⟩)) (ds := [9]) #[false, false, false, false, false, false, false, false, false, false] (by kernel_rfl) rfl rfl ⟨hc0, hc1⟩ (fun hHeld => ?_)
            have p1 : (⟨#[32]⟩ : ByteArray) ++ ⟨an.toArray⟩ = ⟨(32 :: an).toArray⟩ := by apply ByteArray.ext; simp
            have p2 : (⟨(32 :: an).toArray⟩ : ByteArray) ++ ⟨#[61, 34]⟩ = ⟨(32 :: (an ++ [61, 34])).toArray⟩ := by apply ByteArray.ext; simp
            have p3 : (⟨(32 :: (an ++ [61, 34])).toArray⟩ : ByteArray) ++ ⟨(escValue av).toArray⟩ = ⟨(32 :: (an ++ 61 :: 34 :: escValue av)).toArray⟩ := by apply ByteArray.ext; simp
            have p4 : (⟨(32 :: (an ++ 61 :: 34 :: escValue av)).toArray⟩ : ByteArray) ++ ⟨#[34]⟩ = ⟨(aB ⟨⟨an.toArray⟩, ⟨av.toArray⟩⟩).toArray⟩ := by apply ByteArray.ext; simp [aB]
            refine pure_ (i := 0) (N := some 35) (v := ?_) (a' := ?_) #[true, false, false, false, false, false, false, false, false, false] rfl rfl (by kernel_rfl) (fun _ _ _ h => h) (Or.inl ⟨by rfl, ?_⟩) ?_ ?_
            rotate_left
            · intro w'; go_simp; with_reducible rfl
            rotate_left
            · simp only [Act.put, List.setIfInBounds_toArray, List.set_cons_zero, List.set_cons_succ]
              rfl
            refine take_ (i := 1) (N := some 36) (v := ?_) (a' := ?_) #[true, true, false, false, false, false, false, false, false, false] rfl rfl (by kernel_rfl) (fun _ _ _ h => h) (Or.inl ⟨by rfl, ?_⟩) hHeld ?_ ?_
            rotate_left
            · intro w' hS; (try obtain ⟨hS1, hS2, hS3, hS4, hS5⟩ := hS); go_simp; with_reducible rfl
            rotate_left
            · simp only [Act.put, List.setIfInBounds_toArray, List.set_cons_zero, List.set_cons_succ]
              rfl
            refine pure_ (i := 2) (N := some 37) (v := ?_) (a' := ?_) #[true, true, true, false, false, false, false, false, false, false] rfl rfl (by kernel_rfl) (fun _ _ _ h => h) (Or.inl ⟨by rfl, ?_⟩) ?_ ?_
            rotate_left
            · intro w'; go_simp; rw [if_neg (by (try simp only [List.length_cons, List.length_append, List.length_nil]); omega)]
            rotate_left
            · simp only [Act.put, List.setIfInBounds_toArray, List.set_cons_zero, List.set_cons_succ]
              rfl
            refine pure_ (i := 3) (N := some 38) (v := ?_) (a' := ?_) #[true, true, true, true, false, false, false, false, false, false] rfl rfl (by kernel_rfl) (fun _ _ _ h => h) (Or.inl ⟨by rfl, ?_⟩) ?_ ?_
            rotate_left
            · intro w'; go_simp; rw [if_neg (by (try simp only [List.length_cons, List.length_append, List.length_nil]); omega)]
            rotate_left
            · simp only [Act.put, List.setIfInBounds_toArray, List.set_cons_zero, List.set_cons_succ]
              rfl
            refine pure_ (i := 4) (N := some 39) (v := ?_) (a' := ?_) #[true, true, true, true, true, false, false, false, false, false] rfl rfl (by kernel_rfl) (fun _ _ _ h => h) (Or.inl ⟨by rfl, ?_⟩) ?_ ?_
            rotate_left
            · intro w'; go_simp; with_reducible rfl
            rotate_left
            · simp only [Act.put, List.setIfInBounds_toArray, List.set_cons_zero, List.set_cons_succ]
              rfl
            refine take_ (i := 5) (N := some 40) (v := ?_) (a' := ?_) #[true, true, true, true, true, true, false, false, false, false] rfl rfl (by kernel_rfl) (fun _ _ _ h => h) (Or.inl ⟨by rfl, ?_⟩) hHeld ?_ ?_
            rotate_left
            · intro w' hS; (try obtain ⟨hS1, hS2, hS3, hS4, hS5⟩ := hS); go_simp; with_reducible rfl
            rotate_left
            · simp only [Act.put, List.setIfInBounds_toArray, List.set_cons_zero, List.set_cons_succ]
              rfl
            refine one_ (i := 6) (N := some 41) #[true, true, true, true, true, true, true, false, false, false] rfl rfl (by kernel_rfl) (by decide) (fun K hK => ?_)
            refine goes_ Tryz.func34 (by kernel_rfl) rfl #[.string ⟨av.toArray⟩] (by rfl) rfl rfl (by simp only [List.map_toArray, List.map_cons, List.map_nil]; rfl) ?_
            refine (HV.out _ (HWA.out.drew.env HE.out)).mono ?_
            rintro e w2 ⟨rfl, hb2⟩
            refine ⟨_, rfl, ?_⟩
            have H2 := Lib.hid (HWA.out.drew.keep hb2)
            refine hK.out _ _ ⟨pw_cell_below hb2 hHeld.1, pw_cell_below hb2 hHeld.2⟩ (fun hHeld => ?_)
            clear hK K
            refine norm_ (a' := ?_) ?_ ?_
            rotate_left
            · show Act.put _ (some 41) _ = _
              simp only [Act.put, List.setIfInBounds_toArray, List.set_cons_zero, List.set_cons_succ]
              rfl
            refine pure_ (i := 7) (N := some 42) (v := ?_) (a' := ?_) #[true, true, true, true, true, true, true, true, false, false] rfl rfl (by kernel_rfl) (fun _ _ _ h => h) (Or.inl ⟨by rfl, ?_⟩) ?_ ?_
            rotate_left
            · intro w'; go_simp; rw [if_neg (by (try simp only [List.length_cons, List.length_append, List.length_nil]); omega)]
            rotate_left
            · simp only [Act.put, List.setIfInBounds_toArray, List.set_cons_zero, List.set_cons_succ]
              rfl
            refine pure_ (i := 8) (N := some 43) (v := ?_) (a' := ?_) #[true, true, true, true, true, true, true, true, true, false] rfl rfl (by kernel_rfl) (fun _ _ _ h => h) (Or.inl ⟨by rfl, ?_⟩) ?_ ?_
            rotate_left
            · intro w'; go_simp; rw [if_neg (by (try simp only [List.length_cons, List.length_append, List.length_nil]); omega)]
            rotate_left
            · simp only [Act.put, List.setIfInBounds_toArray, List.set_cons_zero, List.set_cons_succ]
              rfl
            refine last_ (i := 9) (N := some 44) #[true, true, true, true, true, true, true, true, true, true] rfl rfl (by kernel_rfl) (by decide) (fun K hK => ?_)
            refine goes_ Tryz.func32 (by kernel_rfl) rfl #[.pointer (some ⟨w.heap.size, 0, none⟩), .string ⟨(aB ⟨⟨an.toArray⟩, ⟨av.toArray⟩⟩).toArray⟩] (by rfl) rfl rfl (by simp only [List.map_toArray, List.map_cons, List.map_nil]; rfl) ?_
            refine (H2.out.str _ HLA.out).mono ?_
            rintro e w3 ⟨rfl, h3⟩
            have H3 := Lib.hid h3
            refine ⟨_, rfl, hK.out _ _ ?_⟩
            clear hK K
            refine norm_ (a' := ?_) ?_ ?_
            rotate_left
            · show Act.put _ (some 44) _ = _
              simp only [Act.put, List.setIfInBounds_toArray, List.set_cons_zero, List.set_cons_succ]
              rfl
            refine done_ (by kernel_rfl) ?_
            clear p1 p2 p3 p4
            go_wp2_with fail
            go_roundg (gk - 1)
            case measure => have := HM.out; omega
            case rel => exact ⟨m + 1, by have := HM.out; omega, by simp, by rw [HF2.out, ← List.append_assoc]; exact H3.out⟩
          · have hm2 : m = ys.length := by omega
            subst hm2
            rw [List.take_length] at HBI
            have hlc := hlb
            go_wp2_with fail
            refine (HBI.out.str [62] (by simp only [List.length_append] at hlc ⊢; omega)).mono ?_
            rintro e w4 ⟨rfl, h4⟩
            have H4 := Lib.hid h4
            clear h4
            go_wp2_with fail
            go_roundg (go - 1)
            case measure => have := HJ.out; omega
            case rel => exact ⟨j + 1, by have := HJ.out; omega, by simp, by rw [HFT.out, HTK.out, ← List.append_assoc, ← List.append_assoc]; exact H4.out⟩
      by_cases k3 : kd = 3
      · subst k3
        have HTK := Lib.hid (show tokB ⟨3, ⟨⟨nm⟩⟩, ys, ⟨⟨tx⟩⟩⟩ = 60 :: 47 :: (nm ++ [62]) from by simp [tokB])
        have p1 : (⟨#[60, 47]⟩ : ByteArray) ++ ⟨nm.toArray⟩ = ⟨(60 :: 47 :: nm).toArray⟩ := by apply ByteArray.ext; simp
        have p2 : (⟨(60 :: 47 :: nm).toArray⟩ : ByteArray) ++ ⟨#[62]⟩ = ⟨(60 :: 47 :: (nm ++ [62])).toArray⟩ := by apply ByteArray.ext; simp
        have q1 : ¬ 9223372036854775807 < 2 + nm.length := by omega
        have q2 : ¬ 9223372036854775807 < nm.length + 1 + 1 + 1 := by omega
        have H2 := Lib.hid (HB.out.keep (below_alloc (Below.refl _ wr) (.cells #[.int .i64 3, .string ⟨nm.toArray⟩, .slice A2 ys.length c2, .string ⟨tx.toArray⟩] 32)))
        go_wp2_with fail
        refine (H2.out.str (60 :: 47 :: (nm ++ [62])) (by have h1 := HTK.out; rw [h1] at hla; omega)).mono ?_
        rintro e w3 ⟨rfl, h3⟩
        have H3 := Lib.hid h3
        clear h3
        go_wp2_with fail
        go_roundg (gk - 1)
        case measure => have := HJ.out; omega
        case rel => exact ⟨j + 1, by have := HJ.out; omega, by simp, by rw [HFT.out, HTK.out]; exact H3.out⟩
      · have HTK := Lib.hid (show tokB ⟨kd, ⟨⟨nm⟩⟩, ys, ⟨⟨tx⟩⟩⟩ = [] from by simp [tokB, k1, k2, k3])
        have b1 : (kd == 1) = false := by rw [beq_eq_false_iff_ne]; exact k1
        have b2 : (kd == 2) = false := by rw [beq_eq_false_iff_ne]; exact k2
        have b3 : (kd == 3) = false := by rw [beq_eq_false_iff_ne]; exact k3
        have H2 := Lib.hid (HB.out.keep (below_alloc (Below.refl _ wr) (.cells #[.int .i64 kd, .string ⟨nm.toArray⟩, .slice A2 ys.length c2, .string ⟨tx.toArray⟩] 32)))
        go_wp2_with fail
        go_roundg (gk - 1)
        case measure => have := HJ.out; omega
        case rel => exact ⟨j + 1, by have := HJ.out; omega, by simp, by rw [HFT.out, HTK.out, List.append_nil]; exact H2.out⟩
    · have hj2 : j = xs.length := by omega
      subst hj2
      have HS := Lib.hid HB.out.string
      rw [List.take_length] at HS
      go_wp2_with fail
      refine HS.out.mono ?_
      rintro e w2 ⟨rfl, h2⟩
      have H2 := Lib.hid h2
      clear h2
      go_wp2_with fail
      go_ret
      exact ⟨rfl, H2.out.below⟩
end Go.Proofs.YtjlgbkedbbailaaGreatDoor.Mu
namespace Go.Proofs.YtjlgbkedbbailaaGreatDoor.Mu
open Go.RowKit Go.Proofs.YtjlgbkedbbailaaGreatDoor.Pr Go.Proofs.YtjlgbkedbbailaaGreatDoorW.PrintWords Go.Proofs.YtjlgbkedbbailaaGreatDoorW.PrintLast Go.Proofs.YtjlgbkedbbailaaGreatDoorW.PrintMore
theorem Dr.step {w w1 : World} (h : Dr w w1) (n : Nat) : Dr w (w1.drewN n) := by
  obtain ⟨m, rfl⟩ := h
  exact ⟨m + n, World.drewN_drewN _ _ _⟩
theorem Dr.C {α : Type} {d : Kd α} {w w1 : World} (h : Dr w w1) {A : Option Addr} {n : Nat} {xs : List α} (hC : d.C w A n xs) : d.C w1 A n xs := by
  obtain ⟨m, rfl⟩ := h
  exact Kd.C_drewN hC m
theorem Dr.below {w w1 : World} (h : Dr w w1) : Below w.heap.size w w1 := by
  obtain ⟨m, rfl⟩ := h
  exact pw_below_drewN (Below.refl _ w) m
set_option maxHeartbeats 1000000 in
theorem sameAttrs_calls (A0 A1 : Option Addr) (c0 c1 : Nat) (ys : List S35) (w : World) (h0 : k35.C w A0 ys.length ys) (h1 : k35.C w A1 ys.length ys) (hn : ys.length ≤ 1073741824) :
    Calls Tryz.prog 21 #[.slice A0 ys.length c0, .slice A1 ys.length c1] w fun e w' => e = .returned (.bool true) ∧ Dr w w' := by
  have H0 := Lib.hid h0
  have H1 := Lib.hid h1
  clear h0 h1
  go_enter Tryz.func21, Tryz.ntmps21
  go_wp2_with fail
  go_loopg [5] ys.length (fun k i wr => ∃ m n : Nat, k + m = ys.length ∧ i = .int .i64 m ∧ wr = w.drewN n)
  case atStart => exact ⟨0, 0, by omega, rfl, rfl⟩
  case round =>
    obtain ⟨m, n, hm, rfl, rfl⟩ := hrel
    have HM := Lib.hid hm
    have hml : m ≤ ys.length := by omega
    clear hm
    by_cases hmt : m < ys.length
    · obtain ⟨ad0, rfl, d0, d1⟩ := at_T35 H0.out (m : Int) (by omega) (by omega)
      obtain ⟨ad1, rfl, d2, d3⟩ := at_T35 H1.out (m : Int) (by omega) (by omega)
      simp only [Int.toNat_natCast] at d0 d1 d2 d3
      generalize rd_T35 ys (m : Int) = x at *
      obtain ⟨⟨⟨an⟩⟩, ⟨⟨av⟩⟩⟩ := x
      dsimp only at d0 d1 d2 d3
      have hmi : (m : Int) < (ys.length : Int) := by omega
      go_wp2_with fail
      go_quiet (fail)
      go_wp2_with fail
      go_roundg (gk - 1)
      case measure => have := HM.out; omega
      case rel => exact ⟨m + 1, n + nq, by have := HM.out; omega, by simp, rfl⟩
    · go_wp2_with fail
      go_ret
      exact ⟨rfl, n, rfl⟩
set_option maxRecDepth 20000 in
set_option maxHeartbeats 4000000 in
theorem same_calls (A0 A1 : Option Addr) (c0 c1 : Nat) (xs : List S32) (w : World) (h0 : k32.C w A0 xs.length xs) (h1 : k32.C w A1 xs.length xs) (hn : xs.length ≤ 1073741824) (hx : ∀ x ∈ xs, x.f2.length ≤ 1073741824) :
    Calls Tryz.prog 11 #[.slice A0 xs.length c0, .slice A1 xs.length c1] w fun e w' => e = .returned (.bool true) ∧ Dr w w' := by
  have H0 := Lib.hid h0
  have H1 := Lib.hid h1
  have HX := Lib.hid hx
  clear h0 h1 hx
  have hnot : ∀ (x : Bool) (w : World), (Op.unary .not (.bool x)).run Tryz.prog w = .ok (.bool (!x)) w := fun _ _ => rfl
  go_enter Tryz.func11, Tryz.ntmps11
  go_wp2_with fail
  go_loopg [5] xs.length (fun k i wr => ∃ m : Nat, k + m = xs.length ∧ i = .int .i64 m ∧ Dr w wr)
  case atStart => exact ⟨0, by omega, rfl, 0, rfl⟩
  case round =>
    obtain ⟨m, hm, rfl, hdr⟩ := hrel
    have HD := Lib.hid hdr
    clear hdr
    have HM := Lib.hid hm
    have hml : m ≤ xs.length := by omega
    clear hm
    by_cases hmt : m < xs.length
    · have hxl := HX.out xs[m] (List.getElem_mem hmt)
      obtain ⟨ad0, a2, k2, rfl, d0, d1, d2, d3, hk, hC0⟩ := at_T32 (HD.out.C H0.out) (m : Int) (by omega) (by omega)
      obtain ⟨ad1, a3, k3, rfl, e0, e1, e2, e3, hk1, hC1⟩ := at_T32 (HD.out.C H1.out) (m : Int) (by omega) (by omega)
      simp only [Int.toNat_natCast] at d0 d1 d2 d3 e0 e1 e2 e3
      rw [← rd_at hmt] at hxl
      generalize rd_T32 xs (m : Int) = x at *
      obtain ⟨kd, ⟨⟨nm⟩⟩, ys, ⟨⟨tx⟩⟩⟩ := x
      dsimp only at d0 d1 d2 d3 e0 e1 e2 e3 hk hC0 hk1 hC1 hxl
      have hmi : (m : Int) < (xs.length : Int) := by omega
      have HSA := Lib.hid (fun j => sameAttrs_calls a2 a3 k2 k3 ys (wr.drewN j) (Kd.C_drewN hC0 j) (Kd.C_drewN hC1 j) hxl)
      clear hC0 hC1
      go_wp2_with fail
      go_quiet ((go_at_call 21; exact Calls.quiet_of (HSA.out _)))
      go_wp2_with fail
      go_roundg (gk - 1)
      case measure => have := HM.out; omega
      case rel => exact ⟨m + 1, by have := HM.out; omega, by simp, HD.out.step _⟩
    · go_wp2_with fail
      go_ret
      exact ⟨rfl, HD.out⟩
end Go.Proofs.YtjlgbkedbbailaaGreatDoor.Mu
namespace Go.Proofs.YtjlgbkedbbailaaGreatDoor.Mu
open Go.RowKit Go.Proofs.YtjlgbkedbbailaaGreatDoor.Pr Go.Proofs.YtjlgbkedbbailaaGreatDoorW.PrintWords Go.Proofs.YtjlgbkedbbailaaGreatDoorW.PrintLast Go.Proofs.YtjlgbkedbbailaaGreatDoorW.PrintMore
def liveDoc : Bs := [60, 65, 32, 72, 82, 69, 70, 61, 120, 32, 98, 61, 39, 38, 108, 116, 59, 39, 47, 99, 62, 121, 38, 97, 109, 112, 59, 60, 33, 45, 45, 122, 45, 45, 62, 60, 47, 97, 62, 60, 115, 116, 121, 108, 101, 62, 60, 98, 62, 60, 47, 83, 116, 121, 108, 101, 32, 62, 60]
def liveToks : List Tok := [⟨2, [97], [⟨[104, 114, 101, 102], [120]⟩, ⟨[98], [60]⟩, ⟨[99], []⟩], []⟩, ⟨1, [], [], [121, 38]⟩, ⟨4, [], [], [122]⟩, ⟨3, [97], [], []⟩, ⟨2, [115, 116, 121, 108, 101], [], []⟩, ⟨1, [], [], [60, 98, 62]⟩, ⟨3, [115, 116, 121, 108, 101], [], []⟩, ⟨1, [], [], [60]⟩]
theorem scan_live : scan liveDoc = liveToks := by decide +kernel
def liveOut : List Tok := [⟨2, [98], [⟨[99], [34]⟩], []⟩, ⟨1, [], [], [60]⟩, ⟨3, [98], [], []⟩]
theorem out_text : toksB (liveOut.map tokS) = [60, 98, 32, 99, 61, 34, 38, 113, 117, 111, 116, 59, 34, 62, 38, 108, 116, 59, 60, 47, 98, 62] := by decide +kernel
theorem Reps.cons_ {α : Type} {R : α → List Value → Prop} {size : Nat} {p : α} {c : List Value} {ps : List α} {cs : List Value} (hp : R p c) (hc : c.length = size) (h : Reps R size ps cs) : Reps R size (p :: ps) (c ++ cs) := by
  refine ⟨by rw [List.length_append, h.1, hc, List.length_cons, Nat.add_mul]; omega, fun j q hq => ?_⟩
  cases j with
  | zero =>
    simp at hq; subst hq
    rw [Nat.zero_mul, List.drop_zero, ← hc, List.take_left]
    exact hp
  | succ j =>
    have := h.2 j q (by simpa using hq)
    rw [show (j + 1) * size = c.length + j * size by rw [hc, Nat.add_mul]; omega, ← List.drop_drop, List.drop_left]
    exact this
/-- A literal's block reads as its elements. -/
theorem C_blk {α : Type} {d : Kd α} {w : World} {b t : Nat} {cs : List Value} {xs : List α} (h : BlkL w b t cs) (hr : Reps (d.K w) d.sz xs cs) (hn : xs.length ≤ 9223372036854775807) : d.C w (some ⟨b, 0, none⟩) xs.length xs := by
  refine ⟨rfl, hn, fun _ => ⟨_, rfl, fun j p hj => ⟨_, d.K_len (hr.2 j p hj), hr.2 j p hj, fun i u hu => ?_⟩⟩⟩
  rw [add_plain]
  refine h.cell ?_
  rw [List.getElem?_take] at hu
  split at hu
  · rw [List.getElem?_drop] at hu; exact hu
  · cases hu
theorem K_attr (w : World) (n v : Bs) : k35.K w ⟨⟨n.toArray⟩, ⟨v.toArray⟩⟩ [.string ⟨n.toArray⟩, .string ⟨v.toArray⟩] := k35_mk w ⟨⟨n.toArray⟩, ⟨v.toArray⟩⟩
theorem K_tok0 (w : World) (k : Int) (n t : Bs) : k32.K w ⟨k, ⟨n.toArray⟩, [], ⟨t.toArray⟩⟩ [.int .i64 k, .string ⟨n.toArray⟩, .slice none 0 0, .string ⟨t.toArray⟩] :=
  k32_mk w ⟨k, ⟨n.toArray⟩, [], ⟨t.toArray⟩⟩ (Nat.le_refl 0) (Kd.C_nil _ _)
theorem K_tok (w : World) (k : Int) (n t : Bs) (A : Option Addr) (c : Nat) (as_ : List S35) (hl : as_.length ≤ c) (hC : k35.C w A as_.length as_) : k32.K w ⟨k, ⟨n.toArray⟩, as_, ⟨t.toArray⟩⟩ [.int .i64 k, .string ⟨n.toArray⟩, .slice A as_.length c, .string ⟨t.toArray⟩] :=
  k32_mk w ⟨k, ⟨n.toArray⟩, as_, ⟨t.toArray⟩⟩ hl hC
def wantAs : List Value := [.string ⟨#[104, 114, 101, 102]⟩, .string ⟨#[120]⟩, .string ⟨#[98]⟩, .string ⟨#[60]⟩, .string ⟨#[99]⟩, .string ⟨#[]⟩]
def wantTs (b : Nat) : List Value := [.int .i64 2, .string ⟨#[97]⟩, .slice (some ⟨b, 0, none⟩) 3 3, .string ⟨#[]⟩, .int .i64 1, .string ⟨#[]⟩, .slice none 0 0, .string ⟨#[121, 38]⟩, .int .i64 4, .string ⟨#[]⟩, .slice none 0 0, .string ⟨#[122]⟩, .int .i64 3, .string ⟨#[97]⟩, .slice none 0 0, .string ⟨#[]⟩, .int .i64 2, .string ⟨#[115, 116, 121, 108, 101]⟩, .slice none 0 0, .string ⟨#[]⟩, .int .i64 1, .string ⟨#[]⟩, .slice none 0 0, .string ⟨#[60, 98, 62]⟩, .int .i64 3, .string ⟨#[115, 116, 121, 108, 101]⟩, .slice none 0 0, .string ⟨#[]⟩, .int .i64 1, .string ⟨#[]⟩, .slice none 0 0, .string ⟨#[60]⟩]
theorem want_C (w1 : World) : k32.C ((w1.alloc (.cells wantAs.toArray 35)).alloc (.cells (wantTs w1.heap.size).toArray 32)) (some ⟨w1.heap.size + 1, 0, none⟩) (liveToks.map tokS).length (liveToks.map tokS) := by
  have hA := (BlkL.new w1 35 wantAs).alloc (.cells (wantTs w1.heap.size).toArray 32)
  have hT := BlkL.new (w1.alloc (.cells wantAs.toArray 35)) 32 (wantTs w1.heap.size)
  rw [show (w1.alloc (.cells wantAs.toArray 35)).heap.size = w1.heap.size + 1 from by show (w1.heap.push _).size = _; simp] at hT
  generalize (w1.alloc (.cells wantAs.toArray 35)).alloc (.cells (wantTs w1.heap.size).toArray 32) = W at *
  have hCA := C_blk (d := k35) (xs := [⟨⟨#[104, 114, 101, 102]⟩, ⟨#[120]⟩⟩, ⟨⟨#[98]⟩, ⟨#[60]⟩⟩, ⟨⟨#[99]⟩, ⟨#[]⟩⟩]) hA (Reps.cons_ (K_attr W _ _) rfl (Reps.cons_ (K_attr W _ _) rfl (Reps.cons_ (K_attr W _ _) rfl (Reps.none _ _)))) (by decide)
  exact C_blk (d := k32) (xs := liveToks.map tokS) hT (Reps.cons_ (K_tok W 2 [97] [] _ 3 _ (by decide) hCA) rfl (Reps.cons_ (K_tok0 W 1 [] [121, 38]) rfl (Reps.cons_ (K_tok0 W 4 [] [122]) rfl (Reps.cons_ (K_tok0 W 3 [97] []) rfl (Reps.cons_ (K_tok0 W 2 [115, 116, 121, 108, 101] []) rfl (Reps.cons_ (K_tok0 W 1 [] [60, 98, 62]) rfl (Reps.cons_ (K_tok0 W 3 [115, 116, 121, 108, 101] []) rfl (Reps.cons_ (K_tok0 W 1 [] [60]) rfl (Reps.none _ _))))))))) (by decide)
def outAs : List Value := [.string ⟨#[99]⟩, .string ⟨#[34]⟩]
def outTs (b : Nat) : List Value := [.int .i64 2, .string ⟨#[98]⟩, .slice (some ⟨b, 0, none⟩) 1 1, .string ⟨#[]⟩, .int .i64 1, .string ⟨#[]⟩, .slice none 0 0, .string ⟨#[60]⟩, .int .i64 3, .string ⟨#[98]⟩, .slice none 0 0, .string ⟨#[]⟩]
theorem out_C (w1 : World) : k32.C ((w1.alloc (.cells outAs.toArray 35)).alloc (.cells (outTs w1.heap.size).toArray 32)) (some ⟨w1.heap.size + 1, 0, none⟩) (liveOut.map tokS).length (liveOut.map tokS) := by
  have hA := (BlkL.new w1 35 outAs).alloc (.cells (outTs w1.heap.size).toArray 32)
  have hT := BlkL.new (w1.alloc (.cells outAs.toArray 35)) 32 (outTs w1.heap.size)
  rw [show (w1.alloc (.cells outAs.toArray 35)).heap.size = w1.heap.size + 1 from by show (w1.heap.push _).size = _; simp] at hT
  generalize (w1.alloc (.cells outAs.toArray 35)).alloc (.cells (outTs w1.heap.size).toArray 32) = W at *
  have hCA := C_blk (d := k35) (xs := [⟨⟨#[99]⟩, ⟨#[34]⟩⟩]) hA (Reps.cons_ (K_attr W _ _) rfl (Reps.none _ _)) (by decide)
  exact C_blk (d := k32) (xs := liveOut.map tokS) hT (Reps.cons_ (K_tok W 2 [98] [] _ 1 _ (by decide) hCA) rfl (Reps.cons_ (K_tok0 W 1 [] [60]) rfl (Reps.cons_ (K_tok0 W 3 [98] []) rfl (Reps.none _ _)))) (by decide)
set_option maxRecDepth 20000 in
set_option maxHeartbeats 4000000 in
theorem live_calls (w : World) (hE : Env w) : Calls Tryz.prog 10 #[] w fun e w' => e = .returned (.bool true) ∧ Below w.heap.size w w' := by
  have HS := Lib.hid (scan_calls liveDoc w hE (by decide))
  have HE := Lib.hid hE
  clear hE
  go_enter Tryz.func10, Tryz.ntmps10
  go_wp2_with fail
  refine HS.out.mono ?_
  rintro e w1 ⟨⟨v, rfl, hv⟩, hb⟩
  unfold ToksIs at hv
  rw [scan_live] at hv
  obtain ⟨A, cp, rfl, hcp, hC⟩ := Kd.R_reads hv
  have HB := Lib.hid hb
  have HC := Lib.hid hC
  clear hb hC hv hcp
  rw [show (liveToks.map tokS).length = 8 from rfl]
  have hW := want_C w1
  have HW := Lib.hid hW
  have HWB := Lib.hid ((below_alloc (below_alloc (Below.refl _ w1) (.cells wantAs.toArray 35)) (.cells (wantTs w1.heap.size).toArray 32)))
  clear hW
  go_wp2_with fail
  unfold wantAs wantTs at HW HWB
  generalize ((w1.alloc _).alloc _) = w2 at *
  refine (same_calls A (some ⟨w1.heap.size + 1, 0, none⟩) cp 8 (liveToks.map tokS) w2 (Kd.C_below HC.out HWB.out) HW.out (by decide) (by decide)).mono ?_
  rintro e w3 ⟨rfl, hd⟩
  have HD := Lib.hid (below_next (below_next HB.out HWB.out) hd.below)
  clear hd HW HWB HC
  have HR1 := Lib.hid (isRaw_calls [116, 105, 116, 108, 101] w3 (HE.out.below HD.out) (by decide))
  have HR2 := Lib.hid (isRaw_calls [98] w3 (HE.out.below HD.out) (by decide))
  rw [show raw [116, 105, 116, 108, 101] = true from rfl] at HR1
  rw [show raw [98] = false from rfl] at HR2
  have hnot : ∀ (x : Bool) (w : World), (Op.unary .not (.bool x)).run Tryz.prog w = .ok (.bool (!x)) w := fun _ _ => rfl
  go_wp2_with fail
  refine HR1.out.mono ?_
  rintro e w4 ⟨rfl, rfl⟩
  go_wp2_with fail
  refine HR2.out.mono ?_
  rintro e w4 ⟨rfl, rfl⟩
  have hW := out_C w3
  have HW := Lib.hid hW
  have HWB := Lib.hid ((below_alloc (below_alloc (Below.refl _ w3) (.cells outAs.toArray 35)) (.cells (outTs w3.heap.size).toArray 32)))
  clear hW HR1 HR2
  go_wp2_with fail
  unfold outAs outTs at HW HWB
  generalize ((w3.alloc _).alloc _) = w5 at *
  have hx : ∀ x ∈ liveOut.map tokS, FewT x := by
    intro x hx
    simp only [liveOut, List.map_cons, List.map_nil, List.mem_cons, List.mem_nil_iff, or_false] at hx
    rcases hx with rfl | rfl | rfl
    · exact ⟨by decide, by decide, by decide, fun a ha => by
        have : a = ⟨⟨#[99]⟩, ⟨#[34]⟩⟩ := by simpa [tokS, attrS] using ha
        subst this; exact ⟨by decide, by decide⟩⟩
    · exact ⟨by decide, by decide, by decide, fun a ha => by simp [tokS] at ha⟩
    · exact ⟨by decide, by decide, by decide, fun a ha => by simp [tokS] at ha⟩
  refine (write_toks_calls (some ⟨w3.heap.size + 1, 0, none⟩) 3 (liveOut.map tokS) w5 (HE.out.below (below_next HD.out HWB.out)) HW.out (by decide) hx (by decide)).mono ?_
  rintro e w6 ⟨rfl, h6⟩
  have H6 := Lib.hid (below_next (below_next HD.out HWB.out) h6)
  clear h6 hx
  rw [out_text]
  go_wp2_with fail
  go_ret
  exact ⟨rfl, H6.out⟩
end Go.Proofs.YtjlgbkedbbailaaGreatDoor.Mu
