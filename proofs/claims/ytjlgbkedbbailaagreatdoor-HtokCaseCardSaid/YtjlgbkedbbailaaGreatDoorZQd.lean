/- Large letters: the plain side of HtokCase. -/
import Derived.Test.YtjlgbkedbbailaaGreatDoorZBC
set_option linter.unusedVariables false
set_option linter.unusedSimpArgs false
namespace Go.Proofs.YtjlgbkedbbailaaGreatDoor.Mu
open Go.RowKit Go.Proofs.YtjlgbkedbbailaaGreatDoor.Pr Go.Proofs.YtjlgbkedbbailaaGreatDoorW.PrintWords Go.Proofs.YtjlgbkedbbailaaGreatDoorW.PrintLast Go.Proofs.YtjlgbkedbbailaaGreatDoorW.PrintMore
def up (c : UInt8) : UInt8 := if 97 ≤ c.toNat ∧ c.toNat ≤ 122 then c - 32 else c
def large (l : Bs) : Bs := l.map up
theorem up_in (c : UInt8) (h1 : 97 ≤ (c.toNat : Int)) (h2 : (c.toNat : Int) ≤ 122) : (c.toNat : Int) - 32 = ((up c).toNat : Int) := by
  unfold up
  rw [if_pos ⟨by omega, by omega⟩]
  have : (c - 32).toNat = c.toNat - 32 := by rw [UInt8.toNat_sub_of_le _ _ (by show (32 : UInt8).toNat ≤ c.toNat; show 32 ≤ c.toNat; omega)]; rfl
  rw [this]; omega
theorem up_out (c : UInt8) (h : (c.toNat : Int) < 97 ∨ 122 < (c.toNat : Int)) : up c = c := by
  unfold up
  rw [if_neg (by omega)]
/-- The bytes of a text while its first k letters have been made large. -/
def largeTo (l : Bs) (k : Nat) : Bs := (l.take k).map up ++ l.drop k
theorem largeTo_len (l : Bs) (k : Nat) : (largeTo l k).length = l.length := by simp [largeTo]; omega
theorem largeTo_get (l : Bs) (k : Nat) (h : k < l.length) : (largeTo l k)[k]? = some l[k] := by
  rw [largeTo, List.getElem?_append_right (by simp; omega)]
  simp [List.getElem?_drop, show min k l.length = k by omega, h]
theorem largeTo_set (l : Bs) (k : Nat) (h : k < l.length) : largeTo l (k + 1) = (largeTo l k).set k (up l[k]) := by
  apply List.ext_getElem?
  intro i
  simp only [largeTo, List.getElem?_set, List.getElem?_append, List.length_map, List.length_take, List.getElem?_map, List.getElem?_drop, List.getElem?_take, List.length_append, List.length_drop]
  by_cases h1 : i < k
  · rw [if_pos (by omega), if_pos (by omega), if_neg (by omega), if_pos (by omega), if_pos h1]
  · by_cases h2 : i = k
    · subst h2
      rw [if_pos (by omega), if_pos (by omega), if_pos rfl, if_pos (by omega)]
      simp [h]
    · rw [if_neg (by omega), if_neg (by omega), if_neg (by omega)]
      congr 1; omega
theorem largeTo_same (l : Bs) (k : Nat) (h : k < l.length) (hl : up l[k] = l[k]) : largeTo l (k + 1) = largeTo l k := by
  rw [largeTo_set l k h, hl]
  have := largeTo_get l k h
  exact List.ext_getElem? fun i => by
    rw [List.getElem?_set]; split
    · rename_i e; subst e; split
      · exact this.symm
      · rename_i h2; rw [largeTo_len] at h2; exact absurd h h2
    · rfl
structure LargeRel (w : World) (l : Bs) (k : Nat) (wr : World) : Prop where
  blk : ∃ more fz, wr.heap[w.heap.size]? = some (.cells (bcells (largeTo l k) ++ more).toArray 5 (l.length + fz, l.length + fz + 1))
  below : Below w.heap.size w wr
theorem LargeRel.start (w : World) (l : Bs) : LargeRel w l 0 (Lib.bytesWorld w 5 ⟨l.toArray⟩) := by
  have hsz : (⟨l.toArray⟩ : ByteArray).size = l.length := rfl
  refine ⟨⟨List.replicate (grownCap w l.length 0 5 - l.length) (Value.int .u8 0), grownCap w l.length 0 5 - l.length, ?_⟩, ?_⟩
  · rw [Lib.bytesWorld_at_new]
    have e : Lib.bytesCells w 5 ⟨l.toArray⟩ = (bcells (largeTo l 0) ++ List.replicate (grownCap w l.length 0 5 - l.length) (Value.int .u8 0)).toArray := by
      simp [Lib.bytesCells, largeTo, hsz, bcells]
    rw [e]; simp [largeTo_len, bcells]
  · exact ⟨rfl, rfl, rfl, by rw [Lib.bytesWorld_size]; omega, fun k hk => Lib.bytesWorld_at_old w 5 _ k hk⟩
theorem LargeRel.keep {w wr : World} {l : Bs} {k : Nat} (h : LargeRel w l k wr) (hk : k < l.length) (hl : up l[k] = l[k]) : LargeRel w l (k + 1) wr := by
  obtain ⟨⟨more, fz, hb⟩, hbe⟩ := h
  exact ⟨⟨more, fz, by rw [largeTo_same l k hk hl]; exact hb⟩, hbe⟩
theorem LargeRel.set_ {w wr : World} {l : Bs} {k : Nat} (h : LargeRel w l k wr) (hk : k < l.length) {x : Int} (hx : x = (up l[k]).toNat) : LargeRel w l (k + 1) (wr.setCell ⟨w.heap.size, k, none⟩ (.int .u8 x)) := by
  obtain ⟨⟨more, fz, hb⟩, hbe⟩ := h
  subst hx
  exact ⟨⟨more, fz, by rw [largeTo_set l k hk]; exact set_bytes hb k (by rw [largeTo_len]; exact hk) _⟩, hbe.setCell (Nat.le_refl _) _⟩
theorem LargeRel.cell {w wr : World} {l : Bs} {k : Nat} (h : LargeRel w l k wr) (hk : k < l.length) : wr.cell? ⟨w.heap.size, k, none⟩ = some (.int .u8 (l[k].toNat : Int)) ∧ wr.frozen? ⟨w.heap.size, k, none⟩ = false := by
  obtain ⟨⟨more, fz, hb⟩, hbe⟩ := h
  refine ⟨?_, ?_⟩
  · rw [cell_bytes hb k (by rw [largeTo_len]; exact hk)]
    have := largeTo_get l k hk
    rw [List.getElem?_eq_getElem (by rw [largeTo_len]; exact hk)] at this
    rw [Option.some.inj this]
  · simp only [World.frozen?, hb]; simp; omega
theorem LargeRel.end_ {w wr : World} {l : Bs} (h : LargeRel w l l.length wr) : ∀ j (hj : j < (large l).length), wr.cell? ((⟨w.heap.size, 0, none⟩ : Addr).add j) = some (.int .u8 ((large l)[j].toNat : Int)) := by
  obtain ⟨⟨more, fz, hb⟩, hbe⟩ := h
  intro j hj
  have e : (⟨w.heap.size, 0, none⟩ : Addr).add j = ⟨w.heap.size, j, none⟩ := by unfold Addr.add; split <;> simp_all
  have e2 : largeTo l l.length = large l := by simp [largeTo, large]
  rw [e]; rw [e2] at hb
  exact cell_bytes hb j hj
def largeS (x : S32) : S32 := ⟨x.f0, ⟨(large x.f1.data.toList).toArray⟩, x.f2, x.f3⟩
theorem up_ok (c : UInt8) (h : okC c = true) : white (up c) = false ∧ up c ≠ 47 ∧ up c ≠ 62 ∧ up c ≠ 61 ∧ low (up c) = c := by
  have := all_u8 (fun c => !okC c || (!white (up c) && up c != 47 && up c != 62 && up c != 61 && low (up c) == c)) (by decide +kernel) c
  rw [h] at this
  simpa [and_assoc] using this
theorem up_letter (c : UInt8) (h : lowC c = true) : letter (up c) = true := by
  have := all_u8 (fun c => !lowC c || letter (up c)) (by decide +kernel) c
  rw [h] at this
  simpa using this
theorem large_name {n : Bs} (h : plainB n = true) : NameOk (large n) ∧ small (large n) = n := by
  obtain ⟨⟨c, r, e, hc⟩, hi⟩ := plain_ok h
  refine ⟨⟨⟨up c, r.map up, by rw [e]; rfl, up_letter c hc⟩, fun d hd => ?_⟩, ?_⟩
  · obtain ⟨x, hx, rfl⟩ := List.mem_map.1 hd
    have := up_ok x (hi x hx)
    exact ⟨this.1, this.2.1, this.2.2.1, this.2.2.2.1⟩
  · unfold small large
    rw [List.map_map]
    conv => rhs; rw [← List.map_id n]
    exact List.map_congr_left fun d hd => (up_ok d (hi d hd)).2.2.2.2
theorem clean_large {x : S32} {was : Int} (h : CleanS x was) : Clean (tokO x) (tokO (largeS x)) := by
  obtain ⟨h⟩ := h
  rcases h with ⟨h1, h2, h3, h4, _⟩ | ⟨h1, h2, h3, h4⟩ | ⟨h1, h2, h3, h4, h5, h6, h7⟩
  · have e := list_nil _ h2
    refine ⟨⟨rfl, rfl, rfl, ?_⟩, .inl ⟨?_, e, ?_, fun e' => h4 ?_⟩⟩
    · show small (large x.f1.data.toList) = x.f1.data.toList
      rw [e]; rfl
    · show x.f0.toNat = 1
      rw [h1]; rfl
    · show x.f2.map attrO = []
      rw [h3]; rfl
    · rw [Lib.toList_data]; exact e'
  · refine ⟨⟨rfl, rfl, rfl, (large_name h2).2⟩, .inr (.inl ⟨?_, (large_name h2).1, ?_, list_nil _ h4⟩)⟩
    · show x.f0.toNat = 3
      rw [h1]; rfl
    · show x.f2.map attrO = []
      rw [h3]; rfl
  · refine ⟨⟨rfl, rfl, rfl, (large_name h2).2⟩, .inr (.inr ⟨?_, (large_name h2).1, h3, list_nil _ h4, ?_, once_back h6, fun a ha => ?_⟩)⟩
    · show x.f0.toNat = 2
      rw [h1]; rfl
    · show (x.f2.map attrO).length ≤ 30
      rw [List.length_map]; exact h5
    · obtain ⟨y, hy, rfl⟩ := List.mem_map.1 ha
      exact ⟨(plain_name (h7 y hy)).1, (plain_name (h7 y hy)).2⟩
theorem few_large {xs : List S32} (h : fewL xs = true) : fewL (xs.map largeS) = true := by
  simp only [fewL, Bool.and_eq_true, decide_eq_true_eq, List.all_eq_true, List.length_map] at h ⊢
  refine ⟨h.1, fun y hy => ?_⟩
  obtain ⟨x, hx, rfl⟩ := List.mem_map.1 hy
  have := h.2 x hx
  simp only [fewT, Bool.and_eq_true, decide_eq_true_eq] at this ⊢
  have hs : (largeS x).f1.size = x.f1.size := by
    rw [← size_toList x.f1]; show (large x.f1.data.toList).toArray.size = _; simp [large]
  rw [hs]
  exact this
theorem large_scan {xs : List S32} (h : ∀ i (hi : i < xs.length), CleanS xs[i] (prevK xs i)) : (scan (toksB (xs.map largeS))).map tokS = xs := by
  have hk : ∀ x ∈ xs, 0 ≤ x.f0 := fun x hx => by
    obtain ⟨i, hi, rfl⟩ := List.getElem_of_mem hx
    exact (clean_kind (h i hi)).1
  have hc : ∀ x ∈ xs, Clean (tokO x) (tokO (largeS x)) := fun x hx => by
    obtain ⟨i, hi, rfl⟩ := List.getElem_of_mem hx
    exact clean_large (h i hi)
  have e := scan_write (cleans_of (f := fun x => tokO (largeS x)) xs hc) (clean_adj h)
  have e2 : toksB (xs.map largeS) = write (xs.map fun x => tokO (largeS x)) := by
    have hb := toks_back (xs := xs.map largeS) (fun y hy => by
      obtain ⟨x, hx, rfl⟩ := List.mem_map.1 hy
      exact hk x hx)
    conv => lhs; rw [← hb]
    rw [toksB_write, List.map_map]
    rfl
  rw [e2, e, toks_back hk]
end Go.Proofs.YtjlgbkedbbailaaGreatDoor.Mu
