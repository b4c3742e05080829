/- Walks: small functions on bytes.
   Walks: a text up to some bytes.
   Walks: numbers of digits.
   Walks: the map of names.
   Walks: what a reference says.
   The shelf's contracts of strings.Builder that its own command does not lay here: the numbers by hand, the proofs the shelf's.
   Walks: a number's sign.
   Walks: a reference's sign; what is read of references.
   Walks: a reference's sign.
   Walks: strings.Cut, ent.Decode.
   Walks: ent.Decode.
   Walks: an attribute's value.
   The shelf's contract of slices.ContainsFunc at a struct, laid at attributes: the numbers by hand, the proof the shelf's.
   Walks: is an attribute of a name there?
   Walks: htok.attrs.
   Walks: the scanner's methods add and chars.
   Walks: the scanner's method chars.
   Walks: the scanner's methods comment and remark.
   Walks: the scanner's method raw.
   Walks: htok.Raw.
   Walks: the scanner's method tag.
   Walks: htok.begins, the scanner's method markup.
   Walks: htok.begins.
   Walks: htok.Scan.
   Walks: the parts of sync.Once (one goroutine, the lock free): after the kit's worked LazyParts, its numbers turned.
   Walks: sync.Once of a Replacer (one goroutine, not yet done): after the kit's worked LazySlow; the callee's contract is a letter. -/
import Derived.Test.YtjlgbkedbbailaaGreatDoorProg
import Derived.Test.YtjlgbkedbbailaaGreatDoorZBM
import Derived.Test.YtjlgbkedbbailaaGreatDoorZShelf
import Derived.WalkKit
import Derived.Handy
import Derived.Outline
import Derived.Lib.ConvBytes
import Derived.Lib.Hide
import Derived.Laws.BytesString
import Derived.Laws.IdiomStrings
import Derived.Deep.QuietTactic
import Derived.BigQuiet
import Derived.WalkSpells
import Derived.WalkSmall
import Derived.MapKept
import Derived.Maps.Own
import Derived.Shelf.Strings.BuilderK
import Derived.Shelf.Strings.BuilderRune
import Derived.KernelRfl
import Derived.Shelf.Strings.SlTrimAscii
import Derived.Stop.FmtQuoteTie
import Derived.Shelf.SlicesQ.IndexFunc
import Derived.Test.YtjlgbkedbbailaaGreatDoorPr0
import Derived.Deep.RegionHeld3
import Derived.Defers
import Derived.Laws.Pointers
import Derived.Laws.LoneSync
import Derived.RegionTactic
import Derived.RegionCalls
set_option linter.unusedVariables false
set_option linter.unusedSimpArgs false
namespace Go.Proofs.YtjlgbkedbbailaaGreatDoor.Mu
open Go.RowKit
theorem bits_or32 (c : UInt8) : bits BinOp.or IntKind.u8 (c.toNat : Int) 32 = (((c ||| 32).toNat : Nat) : Int) := by
  have h : ∀ n : Fin 256, bits BinOp.or IntKind.u8 (n.val : Int) 32 = (((UInt8.ofNat n.val ||| 32).toNat : Nat) : Int) := by decide +kernel
  have := h ⟨c.toNat, c.toNat_lt⟩
  simpa using this
theorem ret_bool {a b : Bool} (h : a = b) : Ending.returned (.bool a) = Ending.returned (.bool b) := by rw [h]
theorem ret_str {a b : ByteArray} (h : a = b) : Ending.returned (.string a) = Ending.returned (.string b) := by rw [h]
theorem ret_int {k : IntKind} {a b : Int} (h : a = b) : Ending.returned (.int k a) = Ending.returned (.int k b) := by rw [h]
set_option maxHeartbeats 400000 in
theorem isLetter_calls (c : UInt8) (w : World) :
    Calls Tryz.prog 39 #[.int .u8 c.toNat] w fun e w' => e = .returned (.bool (letter c)) ∧ w' = w := by
  go_enter Tryz.func39, Tryz.ntmps39
  go_wp2
  · have h1 : 97 ≤ bits BinOp.or IntKind.u8 (↑c.toNat) 32 := by assumption
    go_ret
    refine ⟨ret_bool ?_, rfl⟩
    rw [bits_or32] at h1 ⊢
    unfold letter
    rw [decide_eq_true (by omega : 97 ≤ (c ||| 32).toNat), Bool.true_and]
    exact decide_eq_decide.2 (by omega)
  · have h1 : bits BinOp.or IntKind.u8 (↑c.toNat) 32 < 97 := by assumption
    go_ret
    refine ⟨ret_bool ?_, rfl⟩
    rw [bits_or32] at h1
    unfold letter
    rw [decide_eq_false (by omega : ¬ 97 ≤ (c ||| 32).toNat), Bool.false_and]

/-- The bytes of a text while its first k letters have been made small. -/
def smallTo (l : Bs) (k : Nat) : Bs := (l.take k).map low ++ l.drop k
theorem smallTo_len (l : Bs) (k : Nat) : (smallTo l k).length = l.length := by simp [smallTo]; omega
theorem smallTo_get (l : Bs) (k : Nat) (h : k < l.length) : (smallTo l k)[k]? = some l[k] := by
  rw [smallTo, List.getElem?_append_right (by simp; omega)]
  simp [List.getElem?_drop, show min k l.length = k by omega, h]
theorem smallTo_set (l : Bs) (k : Nat) (h : k < l.length) : smallTo l (k + 1) = (smallTo l k).set k (low l[k]) := by
  apply List.ext_getElem?
  intro i
  simp only [smallTo, List.getElem?_set, List.getElem?_append, List.length_map, List.length_take, List.getElem?_map, List.getElem?_drop, List.getElem?_take, List.length_append, List.length_drop]
  by_cases h1 : i < k
  · rw [if_pos (by omega), if_pos (by omega), if_neg (by omega), if_pos (by omega), if_pos h1]
  · by_cases h2 : i = k
    · subst h2
      rw [if_pos (by omega), if_pos (by omega), if_pos rfl, if_pos (by omega)]
      simp [h]
    · rw [if_neg (by omega), if_neg (by omega), if_neg (by omega)]
      congr 1; omega
theorem smallTo_same (l : Bs) (k : Nat) (h : k < l.length) (hl : low l[k] = l[k]) : smallTo l (k + 1) = smallTo l k := by
  rw [smallTo_set l k h, hl]
  have := smallTo_get l k h
  exact List.ext_getElem? fun i => by
    rw [List.getElem?_set]; split
    · rename_i e; subst e; split
      · exact this.symm
      · rename_i h2; rw [smallTo_len] at h2; exact absurd h h2
    · rfl
/-- The cells of bytes. -/
def bcells (l : Bs) : List Value := l.map fun b => Value.int .u8 b.toNat
theorem cell_bytes {w : World} {b : Nat} {l : Bs} {more : List Value} {e : Nat} {fz : Nat × Nat} (h : w.heap[b]? = some (.cells (bcells l ++ more).toArray e fz)) (k : Nat) (hk : k < l.length) :
    w.cell? ⟨b, k, none⟩ = some (.int .u8 (l[k].toNat : Int)) := by
  simp only [World.cell?, h]
  rw [if_neg (by simp), List.getElem?_toArray, List.getElem?_append_left (by simpa [bcells] using hk)]
  simp [bcells, hk]
theorem set_bytes {w : World} {b : Nat} {l : Bs} {more : List Value} {e : Nat} {fz : Nat × Nat} (h : w.heap[b]? = some (.cells (bcells l ++ more).toArray e fz)) (k : Nat) (hk : k < l.length) (c : UInt8) :
    (w.setCell ⟨b, k, none⟩ (.int .u8 (c.toNat : Int))).heap[b]? = some (.cells (bcells (l.set k c) ++ more).toArray e fz) := by
  simp only [World.setCell, Array.getElem?_modify, if_pos, h, Option.map_some]
  congr 2
  rw [if_neg (by simp)]
  simp only [List.setIfInBounds_toArray, bcells]
  rw [List.set_append_left _ _ (by simpa using hk), List.map_set]
theorem low_in (c : UInt8) (h1 : 65 ≤ (c.toNat : Int)) (h2 : (c.toNat : Int) ≤ 90) : (c.toNat : Int) - 65 + 97 = ((low c).toNat : Int) := by
  unfold low
  rw [if_pos ⟨by omega, by omega⟩]
  have : (c + 32).toNat = c.toNat + 32 := by rw [UInt8.toNat_add]; show (c.toNat + 32) % 256 = _; omega
  rw [this]; omega
theorem low_out (c : UInt8) (h : (c.toNat : Int) < 65 ∨ 90 < (c.toNat : Int)) : low c = c := by
  unfold low
  rw [if_neg (by omega)]
structure SmallRel (w : World) (l : Bs) (k : Nat) (wr : World) : Prop where
  blk : ∃ more fz, wr.heap[w.heap.size]? = some (.cells (bcells (smallTo l k) ++ more).toArray 5 (l.length + fz, l.length + fz + 1))
  below : Below w.heap.size w wr
theorem SmallRel.start (w : World) (l : Bs) : SmallRel w l 0 (Lib.bytesWorld w 5 ⟨l.toArray⟩) := by
  have hsz : (⟨l.toArray⟩ : ByteArray).size = l.length := rfl
  refine ⟨⟨List.replicate (grownCap w l.length 0 5 - l.length) (Value.int .u8 0), grownCap w l.length 0 5 - l.length, ?_⟩, ?_⟩
  · rw [Lib.bytesWorld_at_new]
    have e : Lib.bytesCells w 5 ⟨l.toArray⟩ = (bcells (smallTo l 0) ++ List.replicate (grownCap w l.length 0 5 - l.length) (Value.int .u8 0)).toArray := by
      simp [Lib.bytesCells, smallTo, hsz, bcells]
    rw [e]; simp [smallTo_len, bcells]
  · exact ⟨rfl, rfl, rfl, by rw [Lib.bytesWorld_size]; omega, fun k hk => Lib.bytesWorld_at_old w 5 _ k hk⟩
theorem SmallRel.keep {w wr : World} {l : Bs} {k : Nat} (h : SmallRel w l k wr) (hk : k < l.length) (hl : low l[k] = l[k]) : SmallRel w l (k + 1) wr := by
  obtain ⟨⟨more, fz, hb⟩, hbe⟩ := h
  exact ⟨⟨more, fz, by rw [smallTo_same l k hk hl]; exact hb⟩, hbe⟩
theorem SmallRel.set_ {w wr : World} {l : Bs} {k : Nat} (h : SmallRel w l k wr) (hk : k < l.length) {x : Int} (hx : x = (low l[k]).toNat) : SmallRel w l (k + 1) (wr.setCell ⟨w.heap.size, k, none⟩ (.int .u8 x)) := by
  obtain ⟨⟨more, fz, hb⟩, hbe⟩ := h
  subst hx
  exact ⟨⟨more, fz, by rw [smallTo_set l k hk]; exact set_bytes hb k (by rw [smallTo_len]; exact hk) _⟩, hbe.setCell (Nat.le_refl _) _⟩
theorem SmallRel.cell {w wr : World} {l : Bs} {k : Nat} (h : SmallRel w l k wr) (hk : k < l.length) : wr.cell? ⟨w.heap.size, k, none⟩ = some (.int .u8 (l[k].toNat : Int)) ∧ wr.frozen? ⟨w.heap.size, k, none⟩ = false := by
  obtain ⟨⟨more, fz, hb⟩, hbe⟩ := h
  refine ⟨?_, ?_⟩
  · rw [cell_bytes hb k (by rw [smallTo_len]; exact hk)]
    have := smallTo_get l k hk
    rw [List.getElem?_eq_getElem (by rw [smallTo_len]; exact hk)] at this
    rw [Option.some.inj this]
  · simp only [World.frozen?, hb]; simp; omega
theorem SmallRel.end_ {w wr : World} {l : Bs} (h : SmallRel w l l.length wr) : ∀ j (hj : j < (small l).length), wr.cell? ((⟨w.heap.size, 0, none⟩ : Addr).add j) = some (.int .u8 ((small l)[j].toNat : Int)) := by
  obtain ⟨⟨more, fz, hb⟩, hbe⟩ := h
  intro j hj
  have e : (⟨w.heap.size, 0, none⟩ : Addr).add j = ⟨w.heap.size, j, none⟩ := by unfold Addr.add; split <;> simp_all
  have e2 : smallTo l l.length = small l := by simp [smallTo, small]
  rw [e]; rw [e2] at hb
  exact cell_bytes hb j hj
set_option maxHeartbeats 400000 in
theorem small_calls (s : ByteArray) (w : World) (hs : s.size ≤ 140737488351232) :
    Calls Tryz.prog 67 #[.string s] w fun e w' => e = .returned (.string ⟨(small s.data.toList).toArray⟩) ∧ Below w.heap.size w w' := by
  obtain ⟨⟨l⟩⟩ := s
  show Calls Tryz.prog 67 #[.string ⟨l.toArray⟩] w fun e w' => e = .returned (.string ⟨(small l).toArray⟩) ∧ Below w.heap.size w w'
  have hs : l.length ≤ 140737488351232 := hs
  have hbm : ∀ (w : World), Sem.run Tryz.prog (convert 9 36 (Value.string ⟨l.toArray⟩)) w = Result.ok (Value.slice (some { block := w.heap.size, off := 0 }) l.length (grownCap w l.length 0 5)) (Lib.bytesWorld w 5 ⟨l.toArray⟩) := fun w => Lib.run_convert_string_bytes (P := Tryz.prog) w 9 36 5 ⟨l.toArray⟩ Tryz.underlying9 Tryz.underlying36 Tryz.underlying5
  go_enter Tryz.func67, Tryz.ntmps67
  go_wp2
  go_loopw [10] (fun i wr => ∃ k : Nat, k ≤ l.length ∧ i = .int .i64 k ∧ SmallRel w l k wr) (fun i _ => l.length - (intOf i).toNat)
  case atStart => exact ⟨0, Nat.zero_le _, rfl, SmallRel.start w l⟩
  case round =>
    obtain ⟨k, hk, rfl, hr⟩ := hrel
    clear hbm
    by_cases hlt : k < l.length
    · obtain ⟨hc, hf⟩ := hr.cell hlt
      obtain ⟨c, hcc⟩ : ∃ c, l[k] = c := ⟨_, rfl⟩
      rw [hcc] at hc
      have hset := fun x hx => hr.set_ hlt (x := x) hx
      have hkeep := hr.keep hlt
      rw [hcc] at hset hkeep
      have HS := Lib.hid (And.intro hset hkeep); clear hset hkeep hcc hr
      have hcb := c.toNat_lt
      go_wp2
      all_goals
        go_roundw
        case rel => first | exact ⟨k + 1, by omega, by go_num, HS.out.1 _ (low_in c (by assumption) (by assumption))⟩ | exact ⟨k + 1, by omega, by go_num, HS.out.2 (low_out c (by omega))⟩
        case measure => simp [intOf]; omega
    · have : k = l.length := by omega
      subst this
      have hcb := fun (w' : World) hc => run_convert_bytes_back (P := Tryz.prog) w' 36 9 5 ⟨w.heap.size, 0, none⟩ (grownCap w l.length 0 5) (small l) Tryz.underlying36 Tryz.underlying5 Tryz.underlying9 hc
      have hcv := hcb wr hr.end_
      have hl2 : (small l).length = l.length := by simp [small]
      rw [hl2] at hcv
      clear hcb
      have hbe := hr.below
      clear hr hl2
      go_wp2
      go_ret
      exact ⟨rfl, hbe⟩
set_option maxHeartbeats 400000 in
theorem chars_small_calls (s : ByteArray) (w : World) (hs : s.size ≤ 140737488351232) :
    Calls Tryz.prog 138 #[.string s] w fun e w' => e = .returned (.string ⟨(small s.data.toList).toArray⟩) ∧ Below w.heap.size w w' := by
  obtain ⟨⟨l⟩⟩ := s
  show Calls Tryz.prog 138 #[.string ⟨l.toArray⟩] w fun e w' => e = .returned (.string ⟨(small l).toArray⟩) ∧ Below w.heap.size w w'
  have hs : l.length ≤ 140737488351232 := hs
  have hbm : ∀ (w : World), Sem.run Tryz.prog (convert 9 36 (Value.string ⟨l.toArray⟩)) w = Result.ok (Value.slice (some { block := w.heap.size, off := 0 }) l.length (grownCap w l.length 0 5)) (Lib.bytesWorld w 5 ⟨l.toArray⟩) := fun w => Lib.run_convert_string_bytes (P := Tryz.prog) w 9 36 5 ⟨l.toArray⟩ Tryz.underlying9 Tryz.underlying36 Tryz.underlying5
  go_enter Tryz.func138, Tryz.ntmps138
  go_wp2
  go_loopw [10] (fun i wr => ∃ k : Nat, k ≤ l.length ∧ i = .int .i64 k ∧ SmallRel w l k wr) (fun i _ => l.length - (intOf i).toNat)
  case atStart => exact ⟨0, Nat.zero_le _, rfl, SmallRel.start w l⟩
  case round =>
    obtain ⟨k, hk, rfl, hr⟩ := hrel
    clear hbm
    by_cases hlt : k < l.length
    · obtain ⟨hc, hf⟩ := hr.cell hlt
      obtain ⟨c, hcc⟩ : ∃ c, l[k] = c := ⟨_, rfl⟩
      rw [hcc] at hc
      have hset := fun x hx => hr.set_ hlt (x := x) hx
      have hkeep := hr.keep hlt
      rw [hcc] at hset hkeep
      have HS := Lib.hid (And.intro hset hkeep); clear hset hkeep hcc hr
      have hcb := c.toNat_lt
      go_wp2
      all_goals
        go_roundw
        case rel => first | exact ⟨k + 1, by omega, by go_num, HS.out.1 _ (low_in c (by assumption) (by assumption))⟩ | exact ⟨k + 1, by omega, by go_num, HS.out.2 (low_out c (by omega))⟩
        case measure => simp [intOf]; omega
    · have : k = l.length := by omega
      subst this
      have hcb := fun (w' : World) hc => run_convert_bytes_back (P := Tryz.prog) w' 36 9 5 ⟨w.heap.size, 0, none⟩ (grownCap w l.length 0 5) (small l) Tryz.underlying36 Tryz.underlying5 Tryz.underlying9 hc
      have hcv := hcb wr hr.end_
      have hl2 : (small l).length = l.length := by simp [small]
      rw [hl2] at hcv
      clear hcb
      have hbe := hr.below
      clear hr hl2
      go_wp2
      go_ret
      exact ⟨rfl, hbe⟩
end Go.Proofs.YtjlgbkedbbailaaGreatDoor.Mu
namespace Go.Proofs.YtjlgbkedbbailaaGreatDoor.Mu
open Go.RowKit
theorem ret_str2 {a b c d : ByteArray} (h : a = b) (h' : c = d) : Ending.returned (.tuple #[.string a, .string c]) = Ending.returned (.tuple #[.string b, .string d]) := by rw [h, h']
theorem indexByte_has (cs : Bs) (c : UInt8) : (0 ≤ Lib.indexByte cs c) ↔ cs.contains c = true := by
  induction cs with
  | nil => simp [Lib.indexByte]
  | cons b l ih =>
    unfold Lib.indexByte
    have hge := Lib.indexByte_ge l c
    simp only [List.contains_cons, Bool.or_eq_true]
    by_cases h : b = c
    · subst h; simp
    · have h1 : (b == c) = false := by simpa using h
      have h2 : (c == b) = false := by simpa using fun e => h e.symm
      rw [h1, h2, ← ih]
      by_cases h3 : Lib.indexByte l c = -1
      · simp [h3]
      · have : (Lib.indexByte l c == -1) = false := by simpa using h3
        rw [this]; simp; omega
theorem till_at (p : UInt8 → Bool) : ∀ (l : Bs) (k : Nat), (∀ j (h : j < l.length), j < k → p l[j] = false) → (hk : k < l.length) → p l[k] = true → till p l = (l.take k, l.drop k)
  | c :: r, 0, _, _, hp => by simp at hp; simp [till, hp]
  | c :: r, k + 1, h, hk, hp => by
    have h0 := h 0 (by simp) (by omega)
    have := till_at p r k (fun j hj hlt => by have := h (j + 1) (by simpa using hj) (by omega); simpa using this) (by simpa using hk) (by simpa using hp)
    simp at h0
    simp [till, h0, this]
theorem till_none (p : UInt8 → Bool) : ∀ (l : Bs), (∀ j (h : j < l.length), p l[j] = false) → till p l = (l, [])
  | [], _ => rfl
  | c :: r, h => by
    have h0 := h 0 (by simp)
    have := till_none p r (fun j hj => by have := h (j + 1) (by simpa using hj); simpa using this)
    simp at h0
    simp [till, h0, this]
theorem ba_ext {a b : ByteArray} (h : a.data.toList = b.data.toList) : a = b := by
  obtain ⟨⟨a⟩⟩ := a; obtain ⟨⟨b⟩⟩ := b; simp at h; rw [h]
theorem ext_any (l : Bs) (a b : Nat) : (⟨l.toArray⟩ : ByteArray).extract a b = ⟨((l.drop a).take (b - a)).toArray⟩ := ba_ext (by rw [Lib.extract_data])
theorem ext_take (l : Bs) (k : Nat) : (⟨l.toArray⟩ : ByteArray).extract 0 k = ⟨(l.take k).toArray⟩ := by rw [ext_any]; simp
theorem ext_drop (l : Bs) (k : Nat) : (⟨l.toArray⟩ : ByteArray).extract k l.length = ⟨(l.drop k).toArray⟩ := by
  rw [ext_any, List.take_of_length_le (by simp)]
def ixB (cs : Bs) (c : UInt8) : Int := Lib.indexByte cs c
theorem indexByte_calls (cs : Bs) (c : UInt8) (w : World) : Calls Tryz.prog 86 #[.string ⟨cs.toArray⟩, .int .u8 c.toNat] w fun e w' => e = .returned (.int .i64 (ixB cs c)) ∧ w = w' := by
  refine (Tryz.strings_IndexByte ⟨cs.toArray⟩ c.toNat w).mono ?_
  rintro e w' ⟨rfl, rfl⟩
  refine ⟨ret_int ?_, rfl⟩
  simp [ixB]
set_option maxHeartbeats 400000 in
theorem until_calls (l cs : Bs) (w : World) (hs : l.length ≤ 140737488351232) :
    Calls Tryz.prog 66 #[.string ⟨l.toArray⟩, .string ⟨cs.toArray⟩] w fun e w' => e = .returned (.tuple #[.string ⟨(till cs.contains l).1.toArray⟩, .string ⟨(till cs.contains l).2.toArray⟩]) ∧ Below w.heap.size w w' := by
  go_enter Tryz.func66, Tryz.ntmps66
  go_wp2_with fail
  go_loop [9] (fun i => ∃ k : Nat, k ≤ l.length ∧ i = .int .i64 k ∧ ∀ j (h : j < l.length), j < k → cs.contains l[j] = false) (fun i => l.length - (intOf i).toNat)
  case atStart => exact ⟨0, Nat.zero_le _, rfl, fun j _ h => absurd h (Nat.not_lt_zero _)⟩
  case round =>
    obtain ⟨k, hk, rfl, hr⟩ := hrel
    have HR := Lib.hid hr; clear hr
    by_cases hlt : k < l.length
    · have hkl : k < (⟨l.toArray⟩ : ByteArray).size := hlt
      obtain ⟨c, hc⟩ : ∃ c, l[k] = c := ⟨_, rfl⟩
      have hbe : ((⟨l.toArray⟩ : ByteArray)[k]'hkl) = c := hc
      have HC := Lib.hid hc; clear hc
      by_cases hp : 0 ≤ ixB cs c
      · go_wp2_with ((with_reducible refine (indexByte_calls _ _ _).mono ?_); rintro e w' ⟨rfl, rfl⟩)
        go_quiet (fail)
        go_wp2_with fail
        go_ret2
        have e := till_at cs.contains l k HR.out hlt (by rw [HC.out]; exact (indexByte_has cs c).1 hp)
        exact ⟨ret_str2 (by rw [e]; exact ext_take l k) (by rw [e]; exact ext_drop l k), below_drewN (Below.refl _ _) _⟩
      · have hp2 : ixB cs c < 0 := by omega
        go_wp2_with ((with_reducible refine (indexByte_calls _ _ _).mono ?_); rintro e w' ⟨rfl, rfl⟩)
        go_round
        case rel =>
          refine ⟨k + 1, by omega, by go_num, fun j hj hlt' => ?_⟩
          by_cases hjk : j < k
          · exact HR.out j hj hjk
          · have : j = k := by omega
            subst this
            rw [HC.out]
            cases hcc : cs.contains c with
            | false => rfl
            | true => have hh := (indexByte_has cs c).2 hcc; unfold ixB at hp2; omega
        case measure => simp [intOf]; omega
    · go_wp2_with fail
      go_ret2
      have : k = l.length := by omega
      subst this
      have e := till_none cs.contains l (fun j hj => HR.out j hj hj)
      exact ⟨ret_str2 (by rw [e]) (by rw [e]), Below.refl _ _⟩
end Go.Proofs.YtjlgbkedbbailaaGreatDoor.Mu
namespace Go.Proofs.YtjlgbkedbbailaaGreatDoor.Mu
open Go.RowKit
theorem numF_append (B : Nat) : ∀ (a b : Bs) (n : Nat), numF B n (a ++ b) = (numF B n a).bind fun m => numF B m b
  | [], b, n => rfl
  | c :: a, b, n => by
    simp only [List.cons_append, numF]
    split
    · split
      · exact numF_append B a b _
      · rfl
    · rfl
/-- One digit more. -/
def numStep (B m : Nat) (c : UInt8) : Option Nat := match digit c with
  | some d => if d < B then some (m * B + d) else none
  | none => none
theorem numF_one (B m : Nat) (c : UInt8) : numF B m [c] = numStep B m c := by
  unfold numF numStep
  cases hd : digit c with
  | none => rfl
  | some d => simp only; split <;> rfl
theorem numF_take (B : Nat) (l : Bs) (k : Nat) (hk : k < l.length) (m : Nat) (h : numF B 0 (l.take k) = some m) : numF B 0 (l.take (k + 1)) = numStep B m l[k] := by
  rw [List.take_succ_eq_append_getElem hk, numF_append, h]
  exact numF_one B m _
theorem numF_stop (B : Nat) (l : Bs) (k : Nat) (hk : k < l.length) (m : Nat) (h : numF B 0 (l.take k) = some m) (hs : numStep B m l[k] = none) : numF B 0 l = none := by
  have e := numF_take B l k hk m h
  rw [hs] at e
  rw [← List.take_append_drop (k + 1) l, numF_append, e]; rfl
theorem numStep_bound {B m k : Nat} {c : UInt8} {n : Nat} (h : numStep B m c = some n) (hm : m < B ^ k) : n < B ^ (k + 1) := by
  unfold numStep at h
  split at h
  · split at h
    · rename_i d _ hd
      injection h with h; subst h
      rw [Nat.pow_succ]
      have : (m + 1) * B ≤ B ^ k * B := Nat.mul_le_mul_right _ hm
      rw [Nat.add_mul] at this; omega
    · cases h
  · cases h
theorem byte_all {p : UInt8 → Prop} (h : ∀ n : Fin 256, p (UInt8.ofNat n.val)) (c : UInt8) : p c := by
  have := h ⟨c.toNat, c.toNat_lt⟩
  simpa using this
theorem step_dec (B m : Nat) (hB : 10 ≤ B) (c : UInt8) (h1 : 48 ≤ c.toNat) (h2 : c.toNat ≤ 57) : numStep B m c = some (m * B + (c.toNat - 48)) := by
  unfold numStep digit
  rw [if_pos ⟨h1, h2⟩]
  simp only
  rw [if_pos (by omega)]
theorem digit_letter (c : UInt8) : ¬ (48 ≤ c.toNat ∧ c.toNat ≤ 57) → (97 ≤ (c ||| 32).toNat ∧ (c ||| 32).toNat ≤ 122) → digit c = if (c ||| 32).toNat ≤ 102 then some ((c ||| 32).toNat - 87) else none :=
  byte_all (p := fun c => ¬ (48 ≤ c.toNat ∧ c.toNat ≤ 57) → (97 ≤ (c ||| 32).toNat ∧ (c ||| 32).toNat ≤ 122) → digit c = if (c ||| 32).toNat ≤ 102 then some ((c ||| 32).toNat - 87) else none) (by decide +kernel) c
theorem digit_none (c : UInt8) : ¬ (48 ≤ c.toNat ∧ c.toNat ≤ 57) → ¬ (97 ≤ (c ||| 32).toNat ∧ (c ||| 32).toNat ≤ 122) → digit c = none :=
  byte_all (p := fun c => ¬ (48 ≤ c.toNat ∧ c.toNat ≤ 57) → ¬ (97 ≤ (c ||| 32).toNat ∧ (c ||| 32).toNat ≤ 122) → digit c = none) (by decide +kernel) c
theorem step_letter (B m : Nat) (hB : B ≤ 16) (c : UInt8) (h0 : ¬ (48 ≤ c.toNat ∧ c.toNat ≤ 57)) (h1 : 97 ≤ (c ||| 32).toNat ∧ (c ||| 32).toNat ≤ 122) :
    numStep B m c = if (c ||| 32).toNat - 87 < B then some (m * B + ((c ||| 32).toNat - 87)) else none := by
  unfold numStep
  rw [digit_letter c h0 h1]
  split
  · rename_i d hd
    split at hd
    · injection hd with hd; subst hd; rfl
    · cases hd
  · rename_i hd
    split at hd
    · cases hd
    · rw [if_neg (by omega)]
theorem step_none (B m : Nat) (c : UInt8) (h0 : ¬ (48 ≤ c.toNat ∧ c.toNat ≤ 57)) (h1 : ¬ (97 ≤ (c ||| 32).toNat ∧ (c ||| 32).toNat ≤ 122)) : numStep B m c = none := by
  unfold numStep
  rw [digit_none c h0 h1]
/-- What ParseUint tells of digits of a base. -/
def NumPost (B : Nat) (l : Bs) (e : Ending) : Prop :=
  (∃ n, numF B 0 l = some n ∧ e = .returned (.tuple #[.int .u64 (n : Int), .nilIface])) ∨ (numF B 0 l = none ∧ e = .returned (.tuple #[.int .u64 0, .iface 160 (.int .i64 2)]))
theorem NumPost.ok {B : Nat} {l : Bs} {n : Nat} (h : numF B 0 l = some n) {x : Int} (hx : x = n) : NumPost B l (.returned (.tuple #[.int .u64 x, .nilIface])) := .inl ⟨n, h, by rw [hx]⟩
theorem NumPost.no {B : Nat} {l : Bs} (h : numF B 0 l = none) : NumPost B l (.returned (.tuple #[.int .u64 0, .iface 160 (.int .i64 2)])) := .inr ⟨h, rfl⟩
theorem bytesWorld_below (w : World) (e : TypeId) (s : ByteArray) : Below w.heap.size w (Lib.bytesWorld w e s) := ⟨rfl, rfl, rfl, by rw [Lib.bytesWorld_size]; omega, fun k hk => Lib.bytesWorld_at_old w e _ k hk⟩
def lowq (c : UInt8) : Nat := (c ||| 32).toNat
theorem lower_calls (c : UInt8) (w : World) : Calls Tryz.prog 132 #[.int .u8 c.toNat] w fun e w' => e = .returned (.int .u8 (lowq c : Int)) ∧ w = w' := by
  go_enter Tryz.func132, Tryz.ntmps132
  go_wp2
  go_ret
  exact ⟨ret_int (bits_or32 c), rfl⟩
theorem maxVal_big : (268435456 : Int) ≤ IntKind.u64.wrap (IntKind.u64.wrap 18446744073709551616 - 1) := by decide +kernel
theorem bytes_cell (w : World) (l : Bs) (k : Nat) (hk : k < l.length) : (Lib.bytesWorld w 5 ⟨l.toArray⟩).cell? ⟨w.heap.size, k, none⟩ = some (.int .u8 (l[k].toNat : Int)) := by
  rw [Lib.bytesWorld_cell w 5 _ k (show k < (⟨l.toArray⟩ : ByteArray).size from hk)]; simp [hk]
/-- The relation of the loop over digits. -/
def NumRel (B : Nat) (l : Bs) (k m : Nat) : Prop := numF B 0 (l.take k) = some m ∧ m < B ^ k
theorem NumRel.step {B : Nat} {l : Bs} {k m n : Nat} (h : NumRel B l k m) (hk : k < l.length) {c : UInt8} (hc : l[k] = c) (hs : numStep B m c = some n) : NumRel B l (k + 1) n :=
  ⟨by rw [numF_take B l k hk m h.1, hc]; exact hs, numStep_bound hs h.2⟩
theorem NumRel.stop {B : Nat} {l : Bs} {k m : Nat} (h : NumRel B l k m) (hk : k < l.length) {c : UInt8} (hc : l[k] = c) (hs : numStep B m c = none) : numF B 0 l = none :=
  numF_stop B l k hk m h.1 (by rw [hc]; exact hs)
theorem NumRel.small16 {l : Bs} {k m : Nat} (h : NumRel 16 l k m) (hk : k ≤ 6) : m < 16777216 :=
  Nat.lt_of_lt_of_le h.2 (Nat.le_trans (Nat.pow_le_pow_right (by omega) hk) (by decide))
theorem NumRel.small10 {l : Bs} {k m : Nat} (h : NumRel 10 l k m) (hk : k ≤ 6) : m < 16777216 :=
  Nat.lt_of_lt_of_le h.2 (Nat.le_trans (Nat.pow_le_pow_right (by omega) hk) (by decide))
set_option maxRecDepth 100000 in
set_option maxHeartbeats 1000000 in
theorem parse16_calls (l : Bs) (w : World) (h1 : 0 < l.length) (h2 : l.length ≤ 7) :
    Calls Tryz.prog 105 #[.string ⟨l.toArray⟩, .int .i64 16, .int .i64 64] w fun e w' => NumPost 16 l e ∧ Below w.heap.size w w' := by
  have hbm : ∀ (w : World), Sem.run Tryz.prog (convert 9 36 (Value.string ⟨l.toArray⟩)) w = Result.ok (Value.slice (some { block := w.heap.size, off := 0 }) l.length (grownCap w l.length 0 5)) (Lib.bytesWorld w 5 ⟨l.toArray⟩) := fun w => Lib.run_convert_string_bytes (P := Tryz.prog) w 9 36 5 ⟨l.toArray⟩ Tryz.underlying9 Tryz.underlying36 Tryz.underlying5
  have hne : l.isEmpty = false := by cases l with
    | nil => simp at h1
    | cons a b => rfl
  have hmv := maxVal_big
  have HW := Lib.hid (bytesWorld_below w 5 ⟨l.toArray⟩)
  have HC := Lib.hid (bytes_cell w l)
  go_enter Tryz.func105, Tryz.ntmps105
  go_wp2_with fail
  generalize IntKind.u64.wrap (IntKind.u64.wrap 18446744073709551616 - 1) = mv at *
  generalize Lib.bytesWorld w 5 ⟨l.toArray⟩ = W at *
  obtain ⟨cut, hcut, hlo⟩ : ∃ cut : Int, 1152921504606846976 = cut ∧ 268435456 ≤ cut := ⟨_, rfl, by decide⟩
  rw [hcut]; clear hcut
  clear hbm
  go_loop [12, 13, 101] (fun us n i => ∃ k m : Nat, k ≤ l.length ∧ us = .bool false ∧ n = .int .u64 m ∧ i = .int .i64 k ∧ Hid (NumRel 16 l k m)) (fun _ _ i => l.length - (intOf i).toNat)
  case atStart => exact ⟨0, 0, Nat.zero_le _, rfl, rfl, rfl, ⟨rfl, by decide⟩⟩
  case round =>
    obtain ⟨k, m, hk, rfl, rfl, rfl, HN⟩ := hrel
    by_cases hlt : k < l.length
    · have hc := HC.out k hlt
      have hm := HN.out.small16 (by omega)
      obtain ⟨c, hcc⟩ : ∃ c, l[k] = c := ⟨_, rfl⟩
      rw [hcc] at hc
      have hcb := c.toNat_lt
      have HCC := Lib.hid hcc; clear hcc
      by_cases hA : 48 ≤ (c.toNat : Int) ∧ (c.toNat : Int) ≤ 57
      · obtain ⟨hA1, hA2⟩ := hA
        by_cases hd : (c.toNat : Int) - 48 < 16
        · go_wp2_with fail
          go_round
          case rel => exact ⟨k + 1, m * 16 + (c.toNat - 48), by omega, rfl, by congr 1; omega, by go_num, HN.out.step hlt HCC.out (step_dec 16 m (by omega) c (by omega) (by omega))⟩
          case measure => simp [intOf]; omega
        · exact absurd hd (by omega)
      · by_cases hB : 97 ≤ (lowq c : Int) ∧ (lowq c : Int) ≤ 122
        · have hst : numStep 16 m c = if lowq c - 87 < 16 then some (m * 16 + (lowq c - 87)) else none := step_letter 16 m (by omega) c (by omega) (by unfold lowq at hB; omega)
          have HS := Lib.hid hst; clear hst
          obtain ⟨hB1, hB2⟩ := hB
          have hc95 : ¬ (c.toNat : Int) = 95 := by
            intro e
            have : c = 95 := UInt8.toNat_inj.1 (by show c.toNat = 95; omega)
            subst this; exact absurd hB2 (by decide)

          have HB0 := Lib.hid (show 97 ≤ lowq c by omega)
          by_cases hd : lowq c ≤ 102
          · go_wp2_with ((with_reducible refine (lower_calls _ _).mono ?_); rintro e w' ⟨rfl, rfl⟩)
            all_goals
              go_round
              case rel => exact ⟨k + 1, m * 16 + (lowq c - 87), by omega, rfl, by have := HB0.out; congr 1; omega, by go_num, HN.out.step hlt HCC.out (by have := HB0.out; rw [HS.out, if_pos (by omega)])⟩
              case measure => simp [intOf]; omega
          · go_wp2_with ((with_reducible refine (lower_calls _ _).mono ?_); rintro e w' ⟨rfl, rfl⟩)
            all_goals
              go_ret2
              exact ⟨NumPost.no (HN.out.stop hlt HCC.out (by have := HB0.out; rw [HS.out, if_neg (by omega)])), HW.out⟩
        · have hst : numStep 16 m c = none := step_none 16 m c (by omega) (by unfold lowq at hB; omega)
          have HS := Lib.hid hst; clear hst
          by_cases hc95 : c = 95
          · subst hc95
            have hc : W.cell? ⟨w.heap.size, k, none⟩ = some (.int .u8 95) := hc
            have hb : bits BinOp.or IntKind.u8 95 32 = 127 := by decide +kernel
            clear hA hB hcb
            go_wp2_with ((with_reducible refine (Tryz.internal_strconv_lower _ _).mono ?_); rintro e w' ⟨rfl, hw'⟩; subst hw')
            all_goals
              go_ret2
              exact ⟨NumPost.no (HN.out.stop hlt HCC.out HS.out), HW.out⟩
          · have hc96 : ¬ (c.toNat : Int) = 95 := fun e => hc95 (UInt8.toNat_inj.1 (by show c.toNat = 95; omega))
            clear hc95
            go_wp2_with ((with_reducible refine (lower_calls _ _).mono ?_); rintro e w' ⟨rfl, rfl⟩)
            all_goals
              go_ret2
              exact ⟨NumPost.no (HN.out.stop hlt HCC.out HS.out), HW.out⟩
    · have : k = l.length := by omega
      subst this
      go_wp2_with fail
      go_ret2
      refine ⟨NumPost.ok ?_ rfl, HW.out⟩
      have := HN.out.1
      rwa [List.take_length] at this
set_option maxRecDepth 100000 in
set_option maxHeartbeats 1000000 in
theorem parse10_calls (l : Bs) (w : World) (h1 : 0 < l.length) (h2 : l.length ≤ 7) :
    Calls Tryz.prog 105 #[.string ⟨l.toArray⟩, .int .i64 10, .int .i64 64] w fun e w' => NumPost 10 l e ∧ Below w.heap.size w w' := by
  have hbm : ∀ (w : World), Sem.run Tryz.prog (convert 9 36 (Value.string ⟨l.toArray⟩)) w = Result.ok (Value.slice (some { block := w.heap.size, off := 0 }) l.length (grownCap w l.length 0 5)) (Lib.bytesWorld w 5 ⟨l.toArray⟩) := fun w => Lib.run_convert_string_bytes (P := Tryz.prog) w 9 36 5 ⟨l.toArray⟩ Tryz.underlying9 Tryz.underlying36 Tryz.underlying5
  have hne : l.isEmpty = false := by cases l with
    | nil => simp at h1
    | cons a b => rfl
  have hmv := maxVal_big
  have HW := Lib.hid (bytesWorld_below w 5 ⟨l.toArray⟩)
  have HC := Lib.hid (bytes_cell w l)
  go_enter Tryz.func105, Tryz.ntmps105
  go_wp2_with fail
  generalize IntKind.u64.wrap (IntKind.u64.wrap 18446744073709551616 - 1) = mv at *
  generalize Lib.bytesWorld w 5 ⟨l.toArray⟩ = W at *
  obtain ⟨cut, hcut, hlo⟩ : ∃ cut : Int, 1844674407370955162 = cut ∧ 268435456 ≤ cut := ⟨_, rfl, by decide⟩
  rw [hcut]; clear hcut
  clear hbm
  go_loop [12, 13, 101] (fun us n i => ∃ k m : Nat, k ≤ l.length ∧ us = .bool false ∧ n = .int .u64 m ∧ i = .int .i64 k ∧ Hid (NumRel 10 l k m)) (fun _ _ i => l.length - (intOf i).toNat)
  case atStart => exact ⟨0, 0, Nat.zero_le _, rfl, rfl, rfl, ⟨rfl, by decide⟩⟩
  case round =>
    obtain ⟨k, m, hk, rfl, rfl, rfl, HN⟩ := hrel
    by_cases hlt : k < l.length
    · have hc := HC.out k hlt
      have hm := HN.out.small10 (by omega)
      obtain ⟨c, hcc⟩ : ∃ c, l[k] = c := ⟨_, rfl⟩
      rw [hcc] at hc
      have hcb := c.toNat_lt
      have HCC := Lib.hid hcc; clear hcc
      by_cases hA : 48 ≤ (c.toNat : Int) ∧ (c.toNat : Int) ≤ 57
      · obtain ⟨hA1, hA2⟩ := hA
        by_cases hd : (c.toNat : Int) - 48 < 10
        · go_wp2_with fail
          go_round
          case rel => exact ⟨k + 1, m * 10 + (c.toNat - 48), by omega, rfl, by congr 1; omega, by go_num, HN.out.step hlt HCC.out (step_dec 10 m (by omega) c (by omega) (by omega))⟩
          case measure => simp [intOf]; omega
        · exact absurd hd (by omega)
      · by_cases hB : 97 ≤ (lowq c : Int) ∧ (lowq c : Int) ≤ 122
        · have hst : numStep 10 m c = if lowq c - 87 < 10 then some (m * 10 + (lowq c - 87)) else none := step_letter 10 m (by omega) c (by omega) (by unfold lowq at hB; omega)
          have HS := Lib.hid hst; clear hst
          obtain ⟨hB1, hB2⟩ := hB
          have hc95 : ¬ (c.toNat : Int) = 95 := by
            intro e
            have : c = 95 := UInt8.toNat_inj.1 (by show c.toNat = 95; omega)
            subst this; exact absurd hB2 (by decide)

          have HB0 := Lib.hid (show 97 ≤ lowq c by omega)
          by_cases hd : lowq c ≤ 96
          · go_wp2_with ((with_reducible refine (lower_calls _ _).mono ?_); rintro e w' ⟨rfl, rfl⟩)
            all_goals
              go_round
              case rel => exact ⟨k + 1, m * 10 + (lowq c - 87), by omega, rfl, by have := HB0.out; congr 1; omega, by go_num, HN.out.step hlt HCC.out (by have := HB0.out; rw [HS.out, if_pos (by omega)])⟩
              case measure => simp [intOf]; omega
          · go_wp2_with ((with_reducible refine (lower_calls _ _).mono ?_); rintro e w' ⟨rfl, rfl⟩)
            all_goals
              go_ret2
              exact ⟨NumPost.no (HN.out.stop hlt HCC.out (by have := HB0.out; rw [HS.out, if_neg (by omega)])), HW.out⟩
        · have hst : numStep 10 m c = none := step_none 10 m c (by omega) (by unfold lowq at hB; omega)
          have HS := Lib.hid hst; clear hst
          by_cases hc95 : c = 95
          · subst hc95
            have hc : W.cell? ⟨w.heap.size, k, none⟩ = some (.int .u8 95) := hc
            have hb : bits BinOp.or IntKind.u8 95 32 = 127 := by decide +kernel
            clear hA hB hcb
            go_wp2_with ((with_reducible refine (Tryz.internal_strconv_lower _ _).mono ?_); rintro e w' ⟨rfl, hw'⟩; subst hw')
            all_goals
              go_ret2
              exact ⟨NumPost.no (HN.out.stop hlt HCC.out HS.out), HW.out⟩
          · have hc96 : ¬ (c.toNat : Int) = 95 := fun e => hc95 (UInt8.toNat_inj.1 (by show c.toNat = 95; omega))
            clear hc95
            go_wp2_with ((with_reducible refine (lower_calls _ _).mono ?_); rintro e w' ⟨rfl, rfl⟩)
            all_goals
              go_ret2
              exact ⟨NumPost.no (HN.out.stop hlt HCC.out HS.out), HW.out⟩
    · have : k = l.length := by omega
      subst this
      go_wp2_with fail
      go_ret2
      refine ⟨NumPost.ok ?_ rfl, HW.out⟩
      have := HN.out.1
      rwa [List.take_length] at this
end Go.Proofs.YtjlgbkedbbailaaGreatDoor.Mu
namespace Go.Proofs.YtjlgbkedbbailaaGreatDoor.Mu
open Go.RowKit Go.MapKept
def kvs : List (Bs × Int) := [([97, 109, 112], 38), ([108, 116], 60), ([103, 116], 62), ([113, 117, 111, 116], 34), ([97, 112, 111, 115], 39), ([110, 98, 115, 112], 160), ([99, 111, 112, 121], 169), ([114, 101, 103], 174), ([104, 101, 108, 108, 105, 112], 8230), ([110, 100, 97, 115, 104], 8211), ([109, 100, 97, 115, 104], 8212), ([101, 117, 114, 111], 8364), ([108, 115, 113, 117, 111], 8216), ([114, 115, 113, 117, 111], 8217), ([108, 100, 113, 117, 111], 8220), ([114, 100, 113, 117, 111], 8221)]
def entry (i : Nat) : MapEntry := match kvs[i]? with
  | some p => ⟨.string ⟨p.1.toArray⟩, .int .i32 p.2, i⟩
  | none => ⟨.nilIface, .nilIface, 0⟩
def ents (n : Nat) : Array MapEntry := ((List.range n).map entry).toArray
theorem ents_succ (n : Nat) : ents (n + 1) = (ents n).push (entry n) := by simp [ents, List.range_succ]
theorem push_set {α : Type} (a : Array α) (x y : α) : (a.push x).setIfInBounds a.size y = a.push y := by
  apply Array.ext_getElem?
  intro i
  simp only [Array.getElem?_setIfInBounds, Array.getElem?_push, Array.size_push]
  split
  · rename_i h; subst h; simp
  · rename_i h; rw [if_neg (fun e => h e.symm), if_neg (fun e => h e.symm)]
theorem insert_run (w : World) (n : Nat) (k : Bs) (v : Int) (he : entry n = ⟨.string ⟨k.toArray⟩, .int .i32 v, n⟩)
    (hf : Instr.findNow .string (.string ⟨k.toArray⟩) (ents n).toList 0 = some none) :
    (Instr.mapUpdate 82 (.map (some w.heap.size)) (.string ⟨k.toArray⟩) (.int .i32 v)).run Tryz.prog (w.alloc (.map (ents n) n)) = .ok () (w.alloc (.map (ents (n + 1)) (n + 1))) := by
  have hb : (w.alloc (.map (ents n) n)).heap[w.heap.size]? = some (.map (ents n) n) := heap_alloc_new w _
  have hu := Tryz.underlying82
  have hs := Tryz.underlying9
  simp only [Instr.mapUpdate]
  simp [run_underlying hu, MapKept.run_getObj_map hb, MapKept.run_checkKey hs (k := Value.string ⟨k.toArray⟩) trivial, MapKept.run_findKey hs hf, MapKept.run_setObj_map _ hb, Result.andThen]
  rw [ents_succ, he]
  simp [World.alloc, -World.alloc_eq, push_set]
theorem insert_at (n : Nat) (k : Bs) (v : Int) (he : entry n = ⟨.string ⟨k.toArray⟩, .int .i32 v, n⟩)
    (hf : Instr.findNow .string (.string ⟨k.toArray⟩) (ents n).toList 0 = some none) (w : World) :
    (Instr.mapUpdate 82 (.map (some w.heap.size)) (.string ⟨k.toArray⟩) (.int .i32 v)).run Tryz.prog (w.alloc (.map (ents n) n)) = .ok () (w.alloc (.map (ents (n + 1)) (n + 1))) := insert_run w n k v he hf
set_option maxRecDepth 100000 in
set_option maxHeartbeats 1000000 in
theorem names_calls (w : World) :
    Calls Tryz.prog 63 #[] w fun e w' => e = .returned (.map (some w.heap.size)) ∧ w' = w.alloc (.map (ents 16) 16) := by
  have hmm := @run_makeMap Tryz.prog
  have e0 : ents 0 = #[] := rfl
  have f0 := insert_at 0 [97, 109, 112] 38 rfl (by rfl)
  have f1 := insert_at 1 [108, 116] 60 rfl (by rfl)
  have f2 := insert_at 2 [103, 116] 62 rfl (by rfl)
  have f3 := insert_at 3 [113, 117, 111, 116] 34 rfl (by rfl)
  have f4 := insert_at 4 [97, 112, 111, 115] 39 rfl (by rfl)
  have f5 := insert_at 5 [110, 98, 115, 112] 160 rfl (by rfl)
  have f6 := insert_at 6 [99, 111, 112, 121] 169 rfl (by rfl)
  have f7 := insert_at 7 [114, 101, 103] 174 rfl (by rfl)
  have f8 := insert_at 8 [104, 101, 108, 108, 105, 112] 8230 rfl (by rfl)
  have f9 := insert_at 9 [110, 100, 97, 115, 104] 8211 rfl (by rfl)
  have f10 := insert_at 10 [109, 100, 97, 115, 104] 8212 rfl (by rfl)
  have f11 := insert_at 11 [101, 117, 114, 111] 8364 rfl (by rfl)
  have f12 := insert_at 12 [108, 115, 113, 117, 111] 8216 rfl (by rfl)
  have f13 := insert_at 13 [114, 115, 113, 117, 111] 8217 rfl (by rfl)
  have f14 := insert_at 14 [108, 100, 113, 117, 111] 8220 rfl (by rfl)
  have f15 := insert_at 15 [114, 100, 113, 117, 111] 8221 rfl (by rfl)
  rw [e0] at f0
  clear e0
  simp only [Nat.zero_add, Nat.reduceAdd] at f0 f1 f2 f3 f4 f5 f6 f7 f8 f9 f10 f11 f12 f13 f14 f15
  go_enter Tryz.func63, Tryz.ntmps63
  go_wp2_with fail
  go_ret
  exact ⟨rfl, rfl⟩
def nameVal (s : Bs) : Int := ((kvs.find? (fun p => p.1 == s)).map (·.2)).getD 0
def nameHas (s : Bs) : Bool := (kvs.find? (fun p => p.1 == s)).isSome
theorem ba_beq (a b : Bs) : ((⟨a.toArray⟩ : ByteArray) == ⟨b.toArray⟩) = (a == b) := by
  show (a.toArray == b.toArray) = _
  rw [Bool.eq_iff_iff, beq_iff_eq, beq_iff_eq]
  constructor
  · intro h; injection h
  · intro h; rw [h]
theorem findNow_names (s : Bs) : ∀ (l : List (Bs × Int)) (es : List MapEntry) (i : Nat), es.length = l.length → (∀ (j : Nat) (p : Bs × Int) (e : MapEntry), l[j]? = some p → es[j]? = some e → e.key = .string ⟨p.1.toArray⟩ ∧ e.val = .int .i32 p.2) →
    ∃ o, Instr.findNow .string (.string ⟨s.toArray⟩) es i = some o ∧ o.map (·.2) = (l.find? (fun p => p.1 == s)).map (fun p => Value.int .i32 p.2)
  | [], [], i, _, _ => ⟨none, rfl, rfl⟩
  | [], _ :: _, _, h, _ => by simp at h
  | _ :: _, [], _, h, _ => by simp at h
  | p :: l, e :: es, i, hl, h => by
    have h0 := h 0 p e rfl rfl
    have ih := findNow_names s l es (i + 1) (by simpa using hl) (fun j p' e' hp he => h (j + 1) p' e' (by simpa using hp) (by simpa using he))
    simp only [Instr.findNow, h0.1, Instr.sameNow, ba_beq, List.find?_cons]
    cases hs : (s == p.1) with
    | true =>
      have : (p.1 == s) = true := by rw [beq_iff_eq] at hs ⊢; exact hs.symm
      rw [this]
      exact ⟨_, rfl, by simp [h0.2]⟩
    | false =>
      have : (p.1 == s) = false := by
        cases h2 : (p.1 == s) with
        | false => rfl
        | true => rw [beq_iff_eq] at h2; rw [← h2] at hs; simp at hs
      rw [this]
      exact ih
theorem ents_spec : ∀ (j : Nat) (p : Bs × Int) (e : MapEntry), kvs[j]? = some p → (ents 16).toList[j]? = some e → e.key = .string ⟨p.1.toArray⟩ ∧ e.val = .int .i32 p.2 := by
  intro j p e hp he
  have hj : j < 16 := (List.getElem?_eq_some_iff.1 hp).1
  have : (ents 16).toList[j]? = some (entry j) := by simp [ents, hj]
  rw [this] at he
  injection he with he
  subst he
  simp [entry, hp]
theorem lookup_run (s : Bs) (w : World) (B : Nat) (hb : w.heap[B]? = some (.map (ents 16) 16)) :
    (Instr.lookup 82 (.map (some B)) (.string ⟨s.toArray⟩) true).run Tryz.prog w = .ok (.tuple #[.int .i32 (nameVal s), .bool (nameHas s)]) w := by
  have hu := Tryz.underlying82
  have hs := Tryz.underlying9
  obtain ⟨o, ho, hv⟩ := findNow_names s kvs (ents 16).toList 0 (by simp [ents, kvs]) ents_spec
  have hz : (zeroValue 21).run Tryz.prog w = .ok (.int .i32 0) w := by kernel_rfl
  simp only [Instr.lookup]
  simp [run_underlying hu, MapKept.run_getObj_map hb, MapKept.run_checkKey hs (k := Value.string ⟨s.toArray⟩) trivial, MapKept.run_findKey hs ho, Result.andThen]
  cases o with
  | none =>
    simp at hv
    have : kvs.find? (fun p => p.1 == s) = none := by cases h : kvs.find? (fun p => p.1 == s) with
      | none => rfl
      | some p => rw [h] at hv; simp at hv
    simp [hz, nameVal, nameHas, this]
  | some q =>
    obtain ⟨i, v⟩ := q
    cases h : kvs.find? (fun p => p.1 == s) with
    | none => rw [h] at hv; simp at hv
    | some p => rw [h] at hv; simp at hv; subst hv; simp [nameVal, nameHas, h]
theorem named_kvs (s : Bs) : named s = (kvs.find? (fun p => p.1 == s)).map fun p => Lib.encodeRune p.2 := by
  have h : namedTab = kvs.map fun p => (p.1, Lib.encodeRune p.2) := by decide +kernel
  unfold named
  rw [h, List.find?_map]
  cases hf : kvs.find? ((fun p => p.1 == s) ∘ fun p => (p.1, Lib.encodeRune p.2)) with
  | none =>
    have : kvs.find? (fun p => p.1 == s) = none := hf
    rw [this]; rfl
  | some p =>
    have : kvs.find? (fun p => p.1 == s) = some p := hf
    rw [this]; rfl
theorem named_has (s : Bs) (h : nameHas s = true) : named s = some (Lib.encodeRune (nameVal s)) := by
  rw [named_kvs]; unfold nameHas at h; unfold nameVal
  cases hf : kvs.find? (fun p => p.1 == s) with
  | none => rw [hf] at h; cases h
  | some p => rfl
theorem named_no (s : Bs) (h : nameHas s = false) : named s = none := by
  rw [named_kvs]; unfold nameHas at h
  cases hf : kvs.find? (fun p => p.1 == s) with
  | none => rfl
  | some p => rw [hf] at h; cases h
end Go.Proofs.YtjlgbkedbbailaaGreatDoor.Mu
namespace Go.Proofs.YtjlgbkedbbailaaGreatDoor.Mu
open Go.RowKit
/-- What the walks ask of the variables. -/
structure Env (w : World) : Prop where
  maxlen : ∃ m, w.cell? ⟨0, 0, none⟩ = some (.int .i64 m)
  syn : ∃ ev, w.cell? ⟨4, 0, none⟩ = some ev ∧ (ev = .nilIface ∨ ∃ te pe, ev = .iface te pe)
  high : ∀ j, j < 32 → w.cell? ⟨1, j, none⟩ = some (.int .i32 (high.getD j 0))
theorem Env.below {w w' : World} (h : Env w) (hb : Below w.heap.size w w') : Env w' := by
  have hc : ∀ (a : Addr) (v : Value), w.cell? a = some v → w'.cell? a = some v := fun a v h => (hb.cell (World.block_lt_of_cell? w a h)).trans h
  obtain ⟨m, h1⟩ := h.maxlen
  obtain ⟨ev, h2, h3⟩ := h.syn
  exact ⟨⟨m, hc _ _ h1⟩, ⟨ev, hc _ _ h2, h3⟩, fun j hj => hc _ _ (h.high j hj)⟩
def PuPost (B : Nat) (l : Bs) (e : Ending) : Prop :=
  (∃ n, numF B 0 l = some n ∧ e = .returned (.tuple #[.int .u64 (n : Int), .nilIface])) ∨ (numF B 0 l = none ∧ ∃ t v, e = .returned (.tuple #[.int .u64 0, .iface t v]))
theorem PuPost.ok {B : Nat} {l : Bs} {n : Nat} (h : numF B 0 l = some n) : PuPost B l (.returned (.tuple #[.int .u64 (n : Int), .nilIface])) := .inl ⟨n, h, rfl⟩
theorem PuPost.no {B : Nat} {l : Bs} (h : numF B 0 l = none) {t : TypeId} {v : Value} : PuPost B l (.returned (.tuple #[.int .u64 0, .iface t v])) := .inr ⟨h, _, _, rfl⟩
theorem below_step {B : Nat} {w w1 w2 : World} (h : Below B w w1) (hB : B ≤ w1.heap.size) (k : Below w1.heap.size w1 w2) : Below B w w2 := h.trans (k.mono hB)
theorem below_next {w w1 w2 : World} (h : Below w.heap.size w w1) (k : Below w1.heap.size w1 w2) : Below w.heap.size w w2 := h.trans (k.mono h.size)
set_option maxHeartbeats 1000000 in
theorem pu16_calls (l : Bs) (w : World) (hE : Env w) (h1 : 0 < l.length) (h2 : l.length ≤ 7) :
    Calls Tryz.prog 84 #[.string ⟨l.toArray⟩, .int .i64 16, .int .i64 64] w fun e w' => PuPost 16 l e ∧ Below w.heap.size w w' := by
  have HE := Lib.hid hE; clear hE
  go_enter Tryz.func84, Tryz.ntmps84
  go_wp2_with fail
  refine (parse16_calls l _ h1 h2).mono ?_
  rintro e w1 ⟨h, hb⟩
  rcases h with ⟨n, hn, rfl⟩ | ⟨hn, rfl⟩
  · have HN := Lib.hid hn; clear hn
    go_wp2_with fail
    go_ret2
    exact ⟨PuPost.ok HN.out, hb⟩
  · have HN := Lib.hid hn; clear hn
    go_wp2_with fail
    obtain ⟨ev, hev, hev2⟩ := (HE.out.below hb).syn
    refine (Tryz.strconv_toError_syntax _ _ _ _ ev _ (by show l.length ≤ _; omega) hev hev2).mono ?_
    rintro e w2 ⟨N, rfl, _, _, hb2⟩
    clear hev hev2
    go_wp2_with fail
    go_ret2
    exact ⟨PuPost.no HN.out, below_next hb hb2⟩
set_option maxHeartbeats 1000000 in
theorem pu10_calls (l : Bs) (w : World) (hE : Env w) (h1 : 0 < l.length) (h2 : l.length ≤ 7) :
    Calls Tryz.prog 84 #[.string ⟨l.toArray⟩, .int .i64 10, .int .i64 64] w fun e w' => PuPost 10 l e ∧ Below w.heap.size w w' := by
  have HE := Lib.hid hE; clear hE
  go_enter Tryz.func84, Tryz.ntmps84
  go_wp2_with fail
  refine (parse10_calls l _ h1 h2).mono ?_
  rintro e w1 ⟨h, hb⟩
  rcases h with ⟨n, hn, rfl⟩ | ⟨hn, rfl⟩
  · have HN := Lib.hid hn; clear hn
    go_wp2_with fail
    go_ret2
    exact ⟨PuPost.ok HN.out, hb⟩
  · have HN := Lib.hid hn; clear hn
    go_wp2_with fail
    obtain ⟨ev, hev, hev2⟩ := (HE.out.below hb).syn
    refine (Tryz.strconv_toError_syntax _ _ _ _ ev _ (by show l.length ≤ _; omega) hev hev2).mono ?_
    rintro e w2 ⟨N, rfl, _, _, hb2⟩
    clear hev hev2
    go_wp2_with fail
    go_ret2
    exact ⟨PuPost.no HN.out, below_next hb hb2⟩
theorem numF_bound (B : Nat) (hB : 0 < B) : ∀ (l : Bs) (m k n : Nat), m < B ^ k → numF B m l = some n → n < B ^ (k + l.length)
  | [], m, k, n, hm, h => by simp [numF] at h; subst h; simpa using hm
  | c :: r, m, k, n, hm, h => by
    cases hs : numStep B m c with
    | none =>
      have : numF B m (c :: r) = none := by
        have e := numF_append B [c] r m
        rw [numF_one, hs] at e; simpa using e
      rw [this] at h; cases h
    | some q =>
      have e := numF_append B [c] r m
      rw [numF_one, hs] at e
      have e' : numF B m (c :: r) = numF B q r := by simpa using e
      rw [e'] at h
      have := numF_bound B hB r q (k + 1) n (numStep_bound hs hm) h
      simp only [List.length_cons]
      rwa [show k + (r.length + 1) = k + 1 + r.length by omega]
theorem numF_bound16 (l : Bs) (n : Nat) (h : numF 16 0 l = some n) (hl : l.length ≤ 6) : n < 16777216 := by
  have := numF_bound 16 (by omega) l 0 0 n (by decide) h
  exact Nat.lt_of_lt_of_le this (Nat.le_trans (Nat.pow_le_pow_right (by omega) (show 0 + l.length ≤ 6 by omega)) (by decide))
theorem numF_bound10 (l : Bs) (n : Nat) (h : numF 10 0 l = some n) (hl : l.length ≤ 7) : n < 16777216 := by
  have := numF_bound 10 (by omega) l 0 0 n (by decide) h
  exact Nat.lt_of_lt_of_le this (Nat.le_trans (Nat.pow_le_pow_right (by omega) (show 0 + l.length ≤ 7 by omega)) (by decide))
set_option maxHeartbeats 1000000 in
theorem digits16_calls (l : Bs) (w : World) (hE : Env w) (hl : l.length ≤ 140737488351232) :
    Calls Tryz.prog 64 #[.string ⟨l.toArray⟩, .int .i64 16, .int .i64 6] w fun e w' => e = .returned (.tuple #[.int .i64 (((num 16 6 l).getD 0 : Nat) : Int), .bool (num 16 6 l).isSome]) ∧ Below w.heap.size w w' := by
  have HE := Lib.hid hE; clear hE
  by_cases h1 : l.length < 1
  · have hn : num 16 6 l = none := by unfold num; rw [if_pos (.inl h1)]
    rw [hn]; clear hn
    go_enter Tryz.func64, Tryz.ntmps64
    go_wp2_with fail
    go_ret2
    exact ⟨rfl, Below.refl _ _⟩
  by_cases h2 : 6 < l.length
  · have hn : num 16 6 l = none := by unfold num; rw [if_pos (.inr h2)]
    rw [hn]; clear hn
    go_enter Tryz.func64, Tryz.ntmps64
    go_wp2_with fail
    go_ret2
    exact ⟨rfl, Below.refl _ _⟩
  have hnum : num 16 6 l = numF 16 0 l := by unfold num; rw [if_neg (by omega)]
  obtain ⟨c, r, rfl⟩ : ∃ c r, l = c :: r := by cases l with
    | nil => simp at h1
    | cons c r => exact ⟨c, r, rfl⟩
  have hi : ∀ (h : 0 < (⟨(c :: r).toArray⟩ : ByteArray).size), (⟨(c :: r).toArray⟩ : ByteArray)[0]'h = c := fun _ => rfl
  have hr5 : r.length ≤ 5 := by simp only [List.length_cons] at h2; omega
  by_cases hs : c = 43 ∨ c = 45
  · have hn : num 16 6 (c :: r) = none := by rw [hnum]; rcases hs with rfl | rfl <;> rfl
    rw [hn]; clear hn hnum h1 h2 hl
    go_enter Tryz.func64, Tryz.ntmps64
    rcases hs with rfl | rfl
    all_goals
      go_wp2_with fail
      go_ret2
      exact ⟨rfl, Below.refl _ _⟩
  · have h43 : ((c.toNat : Int) == 43) = false := by rw [beq_eq_false_iff_ne]; intro e; exact hs (.inl (UInt8.toNat_inj.1 (by show c.toNat = 43; omega)))
    have h45 : ((c.toNat : Int) == 45) = false := by rw [beq_eq_false_iff_ne]; intro e; exact hs (.inr (UInt8.toNat_inj.1 (by show c.toNat = 45; omega)))
    rw [hnum]; clear hnum h1 h2 hs hl
    go_enter Tryz.func64, Tryz.ntmps64
    go_wp2_with fail
    refine (pu16_calls (c :: r) _ HE.out (by simp) (by simp only [List.length_cons]; omega)).mono ?_
    rintro e w1 ⟨h, hb⟩
    rcases h with ⟨n, hn, rfl⟩ | ⟨hn, t, v, rfl⟩
    · have hn2 : n < 16777216 := by
        have := numF_bound16 (c :: r) n hn (by simp only [List.length_cons]; omega)
        exact this
      have HN := Lib.hid hn
      have HB := Lib.hid hb; clear hn hb
      go_wp2_with fail
      go_quiet (fail)
      go_wp2_with fail
      go_ret2
      exact ⟨by rw [HN.out]; rfl, below_drewN HB.out _⟩
    · have HN := Lib.hid hn
      have HB := Lib.hid hb; clear hn hb
      go_wp2_with fail
      go_quiet (fail)
      go_wp2_with fail
      go_ret2
      exact ⟨by rw [HN.out]; rfl, below_drewN HB.out _⟩
set_option maxHeartbeats 1000000 in
theorem digits10_calls (l : Bs) (w : World) (hE : Env w) (hl : l.length ≤ 140737488351232) :
    Calls Tryz.prog 64 #[.string ⟨l.toArray⟩, .int .i64 10, .int .i64 7] w fun e w' => e = .returned (.tuple #[.int .i64 (((num 10 7 l).getD 0 : Nat) : Int), .bool (num 10 7 l).isSome]) ∧ Below w.heap.size w w' := by
  have HE := Lib.hid hE; clear hE
  by_cases h1 : l.length < 1
  · have hn : num 10 7 l = none := by unfold num; rw [if_pos (.inl h1)]
    rw [hn]; clear hn
    go_enter Tryz.func64, Tryz.ntmps64
    go_wp2_with fail
    go_ret2
    exact ⟨rfl, Below.refl _ _⟩
  by_cases h2 : 7 < l.length
  · have hn : num 10 7 l = none := by unfold num; rw [if_pos (.inr h2)]
    rw [hn]; clear hn
    go_enter Tryz.func64, Tryz.ntmps64
    go_wp2_with fail
    go_ret2
    exact ⟨rfl, Below.refl _ _⟩
  have hnum : num 10 7 l = numF 10 0 l := by unfold num; rw [if_neg (by omega)]
  obtain ⟨c, r, rfl⟩ : ∃ c r, l = c :: r := by cases l with
    | nil => simp at h1
    | cons c r => exact ⟨c, r, rfl⟩
  have hi : ∀ (h : 0 < (⟨(c :: r).toArray⟩ : ByteArray).size), (⟨(c :: r).toArray⟩ : ByteArray)[0]'h = c := fun _ => rfl
  have hr5 : r.length ≤ 6 := by simp only [List.length_cons] at h2; omega
  by_cases hs : c = 43 ∨ c = 45
  · have hn : num 10 7 (c :: r) = none := by rw [hnum]; rcases hs with rfl | rfl <;> rfl
    rw [hn]; clear hn hnum h1 h2 hl
    go_enter Tryz.func64, Tryz.ntmps64
    rcases hs with rfl | rfl
    all_goals
      go_wp2_with fail
      go_ret2
      exact ⟨rfl, Below.refl _ _⟩
  · have h43 : ((c.toNat : Int) == 43) = false := by rw [beq_eq_false_iff_ne]; intro e; exact hs (.inl (UInt8.toNat_inj.1 (by show c.toNat = 43; omega)))
    have h45 : ((c.toNat : Int) == 45) = false := by rw [beq_eq_false_iff_ne]; intro e; exact hs (.inr (UInt8.toNat_inj.1 (by show c.toNat = 45; omega)))
    rw [hnum]; clear hnum h1 h2 hs hl
    go_enter Tryz.func64, Tryz.ntmps64
    go_wp2_with fail
    refine (pu10_calls (c :: r) _ HE.out (by simp) (by simp only [List.length_cons]; omega)).mono ?_
    rintro e w1 ⟨h, hb⟩
    rcases h with ⟨n, hn, rfl⟩ | ⟨hn, t, v, rfl⟩
    · have hn2 : n < 16777216 := by
        have := numF_bound10 (c :: r) n hn (by simp only [List.length_cons]; omega)
        exact this
      have HN := Lib.hid hn
      have HB := Lib.hid hb; clear hn hb
      go_wp2_with fail
      go_quiet (fail)
      go_wp2_with fail
      go_ret2
      exact ⟨by rw [HN.out]; rfl, below_drewN HB.out _⟩
    · have HN := Lib.hid hn
      have HB := Lib.hid hb; clear hn hb
      go_wp2_with fail
      go_quiet (fail)
      go_wp2_with fail
      go_ret2
      exact ⟨by rw [HN.out]; rfl, below_drewN HB.out _⟩
end Go.Proofs.YtjlgbkedbbailaaGreatDoor.Mu
namespace Go.Proofs
open Go.Shelf
def Tryz.lays240_ren : Go.Shelf.Ren := ⟨fun | 240 => 56 | 276 => 80 | n => n, fun | 0 => 0 | 4 => 4 | 5 => 5 | 9 => 9 | 20 => 20 | 37 => 36 | 70 => 48 | 72 => 50 | 75 => 52 | 80 => 55 | 164 => 94 | n => n, fun | n => n⟩
theorem Tryz.lays240 : Go.Proofs.Lays.n240 Tryz.prog Tryz.lays240_ren := {
  mixed := by kernel_rfl
  f240 := Tryz.func56.trans (congrArg some (by kernel_rfl))
  f276 := Tryz.func80.trans (congrArg some (by kernel_rfl))
  t0 := Tryz.underlying0
  a0 := Tryz.isAgg0
  z0 := Tryz.sizeOf0
  v0 := Tryz.zeroValue0
  t4 := Tryz.underlying4
  a4 := Tryz.isAgg4
  z4 := Tryz.sizeOf4
  v4 := Tryz.zeroValue4
  t9 := Tryz.underlying9
  a9 := Tryz.isAgg9
  z9 := Tryz.sizeOf9
  v9 := Tryz.zeroValue9
  t20 := Tryz.underlying20
  a20 := Tryz.isAgg20
  z20 := Tryz.sizeOf20
  v20 := Tryz.zeroValue20
  t70 := Tryz.underlying48
  a70 := Tryz.isAgg48
  z70 := Tryz.sizeOf48
  v70 := Tryz.zeroValue48
  t72 := Tryz.underlying50
  a72 := Tryz.isAgg50
  z72 := Tryz.sizeOf50
  v72 := Tryz.zeroValue50
  t164 := Tryz.underlying94
  a164 := Tryz.isAgg94
  z164 := Tryz.sizeOf94
  v164 := Tryz.zeroValue94 }
def Tryz.lays166_ren : Go.Shelf.Ren := ⟨fun | 166 => 32 | 240 => 56 | 276 => 80 | n => n, fun | 0 => 0 | 3 => 3 | 4 => 4 | 5 => 5 | 9 => 9 | 20 => 20 | 37 => 36 | 70 => 48 | 72 => 50 | 75 => 52 | 80 => 55 | 164 => 94 | n => n, fun | n => n⟩
theorem Tryz.lays166 : Go.Proofs.Lays.n166 Tryz.prog Tryz.lays166_ren := {
  mixed := by kernel_rfl
  f166 := Tryz.func32.trans (congrArg some (by kernel_rfl))
  f240 := Tryz.func56.trans (congrArg some (by kernel_rfl))
  f276 := Tryz.func80.trans (congrArg some (by kernel_rfl))
  t0 := Tryz.underlying0
  a0 := Tryz.isAgg0
  z0 := Tryz.sizeOf0
  v0 := Tryz.zeroValue0
  t3 := Tryz.underlying3
  a3 := Tryz.isAgg3
  z3 := Tryz.sizeOf3
  v3 := Tryz.zeroValue3
  t4 := Tryz.underlying4
  a4 := Tryz.isAgg4
  z4 := Tryz.sizeOf4
  v4 := Tryz.zeroValue4
  t9 := Tryz.underlying9
  a9 := Tryz.isAgg9
  z9 := Tryz.sizeOf9
  v9 := Tryz.zeroValue9
  t20 := Tryz.underlying20
  a20 := Tryz.isAgg20
  z20 := Tryz.sizeOf20
  v20 := Tryz.zeroValue20
  t37 := Tryz.underlying36
  a37 := Tryz.isAgg36
  z37 := Tryz.sizeOf36
  v37 := Tryz.zeroValue36
  t70 := Tryz.underlying48
  a70 := Tryz.isAgg48
  z70 := Tryz.sizeOf48
  v70 := Tryz.zeroValue48
  t72 := Tryz.underlying50
  a72 := Tryz.isAgg50
  z72 := Tryz.sizeOf50
  v72 := Tryz.zeroValue50
  t75 := Tryz.underlying52
  a75 := Tryz.isAgg52
  z75 := Tryz.sizeOf52
  v75 := Tryz.zeroValue52
  t164 := Tryz.underlying94
  a164 := Tryz.isAgg94
  z164 := Tryz.sizeOf94
  v164 := Tryz.zeroValue94 }
theorem Tryz.Builder_Extra_166 : Builder.Extra Tryz.prog Tryz.lays166_ren := {
  sizeBuilder := by kernel_rfl
  liesBuilder := by kernel_rfl
  t5 := Tryz.underlying5
  a5 := Tryz.isAgg5
  z5 := Tryz.sizeOf5
  v5 := Tryz.zeroValue5
  infoByte := by kernel_rfl
  cellsByte := by kernel_rfl
  sizeByte := by kernel_rfl
  neB5 := by decide }
def Tryz.lays167_ren : Go.Shelf.Ren := ⟨fun | 167 => 43 | 240 => 56 | 276 => 80 | n => n, fun | 0 => 0 | 4 => 4 | 5 => 5 | 9 => 9 | 20 => 20 | 37 => 36 | 70 => 48 | 72 => 50 | 75 => 52 | 80 => 55 | 164 => 94 | n => n, fun | n => n⟩
theorem Tryz.lays167 : Go.Proofs.Lays.n167 Tryz.prog Tryz.lays167_ren := {
  mixed := by kernel_rfl
  f167 := Tryz.func43.trans (congrArg some (by kernel_rfl))
  f240 := Tryz.func56.trans (congrArg some (by kernel_rfl))
  f276 := Tryz.func80.trans (congrArg some (by kernel_rfl))
  t0 := Tryz.underlying0
  a0 := Tryz.isAgg0
  z0 := Tryz.sizeOf0
  v0 := Tryz.zeroValue0
  t4 := Tryz.underlying4
  a4 := Tryz.isAgg4
  z4 := Tryz.sizeOf4
  v4 := Tryz.zeroValue4
  t5 := Tryz.underlying5
  a5 := Tryz.isAgg5
  z5 := Tryz.sizeOf5
  v5 := Tryz.zeroValue5
  t9 := Tryz.underlying9
  a9 := Tryz.isAgg9
  z9 := Tryz.sizeOf9
  v9 := Tryz.zeroValue9
  t20 := Tryz.underlying20
  a20 := Tryz.isAgg20
  z20 := Tryz.sizeOf20
  v20 := Tryz.zeroValue20
  t37 := Tryz.underlying36
  a37 := Tryz.isAgg36
  z37 := Tryz.sizeOf36
  v37 := Tryz.zeroValue36
  t70 := Tryz.underlying48
  a70 := Tryz.isAgg48
  z70 := Tryz.sizeOf48
  v70 := Tryz.zeroValue48
  t72 := Tryz.underlying50
  a72 := Tryz.isAgg50
  z72 := Tryz.sizeOf50
  v72 := Tryz.zeroValue50
  t75 := Tryz.underlying52
  a75 := Tryz.isAgg52
  z75 := Tryz.sizeOf52
  v75 := Tryz.zeroValue52
  t164 := Tryz.underlying94
  a164 := Tryz.isAgg94
  z164 := Tryz.sizeOf94
  v164 := Tryz.zeroValue94 }
theorem Tryz.Builder_Extra_167 : Builder.Extra Tryz.prog Tryz.lays167_ren := {
  sizeBuilder := by kernel_rfl
  liesBuilder := by kernel_rfl
  t5 := Tryz.underlying5
  a5 := Tryz.isAgg5
  z5 := Tryz.sizeOf5
  v5 := Tryz.zeroValue5
  infoByte := by kernel_rfl
  cellsByte := by kernel_rfl
  sizeByte := by kernel_rfl
  neB5 := by decide }
def Tryz.lays168_ren : Go.Shelf.Ren := ⟨fun | 168 => 140 | 240 => 56 | 242 => 158 | 276 => 80 | 278 => 172 | n => n, fun | 0 => 0 | 3 => 3 | 4 => 4 | 5 => 5 | 9 => 9 | 20 => 20 | 21 => 21 | 37 => 36 | 46 => 123 | 51 => 99 | 70 => 48 | 72 => 50 | 75 => 52 | 80 => 55 | 164 => 94 | n => n, fun | n => n⟩
theorem Tryz.lays168 : Go.Proofs.Lays.n168 Tryz.prog Tryz.lays168_ren := {
  mixed := by kernel_rfl
  f168 := Tryz.func140.trans (congrArg some (by kernel_rfl))
  f240 := Tryz.func56.trans (congrArg some (by kernel_rfl))
  f242 := Tryz.func158.trans (congrArg some (by kernel_rfl))
  f276 := Tryz.func80.trans (congrArg some (by kernel_rfl))
  f278 := Tryz.func172.trans (congrArg some (by kernel_rfl))
  t0 := Tryz.underlying0
  a0 := Tryz.isAgg0
  z0 := Tryz.sizeOf0
  v0 := Tryz.zeroValue0
  t3 := Tryz.underlying3
  a3 := Tryz.isAgg3
  z3 := Tryz.sizeOf3
  v3 := Tryz.zeroValue3
  t4 := Tryz.underlying4
  a4 := Tryz.isAgg4
  z4 := Tryz.sizeOf4
  v4 := Tryz.zeroValue4
  t5 := Tryz.underlying5
  a5 := Tryz.isAgg5
  z5 := Tryz.sizeOf5
  v5 := Tryz.zeroValue5
  t9 := Tryz.underlying9
  a9 := Tryz.isAgg9
  z9 := Tryz.sizeOf9
  v9 := Tryz.zeroValue9
  t20 := Tryz.underlying20
  a20 := Tryz.isAgg20
  z20 := Tryz.sizeOf20
  v20 := Tryz.zeroValue20
  t21 := Tryz.underlying21
  a21 := Tryz.isAgg21
  z21 := Tryz.sizeOf21
  v21 := Tryz.zeroValue21
  t37 := Tryz.underlying36
  a37 := Tryz.isAgg36
  z37 := Tryz.sizeOf36
  v37 := Tryz.zeroValue36
  t46 := Tryz.underlying123
  a46 := Tryz.isAgg123
  z46 := Tryz.sizeOf123
  v46 := Tryz.zeroValue123
  t51 := Tryz.underlying99
  a51 := Tryz.isAgg99
  z51 := Tryz.sizeOf99
  v51 := Tryz.zeroValue99
  t70 := Tryz.underlying48
  a70 := Tryz.isAgg48
  z70 := Tryz.sizeOf48
  v70 := Tryz.zeroValue48
  t72 := Tryz.underlying50
  a72 := Tryz.isAgg50
  z72 := Tryz.sizeOf50
  v72 := Tryz.zeroValue50
  t75 := Tryz.underlying52
  a75 := Tryz.isAgg52
  z75 := Tryz.sizeOf52
  v75 := Tryz.zeroValue52
  t164 := Tryz.underlying94
  a164 := Tryz.isAgg94
  z164 := Tryz.sizeOf94
  v164 := Tryz.zeroValue94 }
theorem Tryz.Builder_Extra_168 : Builder.Extra Tryz.prog Tryz.lays168_ren := {
  sizeBuilder := by kernel_rfl
  liesBuilder := by kernel_rfl
  t5 := Tryz.underlying5
  a5 := Tryz.isAgg5
  z5 := Tryz.sizeOf5
  v5 := Tryz.zeroValue5
  infoByte := by kernel_rfl
  cellsByte := by kernel_rfl
  sizeByte := by kernel_rfl
  neB5 := by decide }
open Go.RowKit in
theorem Tryz.Builder_WriteString_k (B b : Nat) (bs : List Value) (s : ByteArray) (w : World) (h : Lib.IsBuilderF 50 5 B b bs w) (hlen : bs.length + s.size ≤ 140737488355328) (hBw : B ≤ w.heap.size) :
    Calls Tryz.prog 32 #[.pointer (some ⟨b, 0, none⟩), .string s] w fun e w' => e = .returned (.tuple #[.int .i64 s.size, .nilIface]) ∧ (Lib.BuilderAtF 50 5 B b (.pointer (some ⟨b, 0, none⟩)) (bs ++ Lib.strCells s) w' ∧ Below B w w' ∧ Lib.OthersKept 5 (some b) w w') := Any.Builder_WriteString_k Tryz.lays166 Tryz.Builder_Extra_166 B b bs s w h hlen hBw
open Go.RowKit in
theorem Tryz.Builder_WriteByte_k (B b : Nat) (bs : List Value) (c : Int) (w : World) (h : Lib.IsBuilderF 50 5 B b bs w) (hlen : bs.length + 1 ≤ 140737488355328) (hBw : B ≤ w.heap.size) :
    Calls Tryz.prog 43 #[.pointer (some ⟨b, 0, none⟩), .int .u8 c] w fun e w' => e = .returned .nilIface ∧ (Lib.BuilderAtF 50 5 B b (.pointer (some ⟨b, 0, none⟩)) (bs ++ [.int .u8 c]) w' ∧ Below B w w' ∧ Lib.OthersKept 5 (some b) w w') := Any.Builder_WriteByte_k Tryz.lays167 Tryz.Builder_Extra_167 B b bs c w h hlen hBw
open Go.RowKit in
theorem Tryz.Builder_WriteRune_k (B b : Nat) (bs : List Value) (r : Int) (hr0 : -2147483648 ≤ r) (hr1 : r ≤ 2147483647) (w : World) (h : Lib.IsBuilderF 50 5 B b bs w) (hlen : bs.length + 4 ≤ 140737488355328) (hBw : B ≤ w.heap.size) :
    Calls Tryz.prog 140 #[.pointer (some ⟨b, 0, none⟩), .int .i32 r] w fun e w' => e = .returned (.tuple #[.int .i64 (Lib.runeCells r).length, .nilIface]) ∧ (Lib.BuilderAtF 50 5 B b (.pointer (some ⟨b, 0, none⟩)) (bs ++ Lib.runeCells r) w' ∧ Below B w w' ∧ Lib.OthersKept 5 (some b) w w') := Any.Builder_WriteRune_k Tryz.lays168 Tryz.Builder_Extra_168 B b bs r hr0 hr1 w h hlen hBw
end Go.Proofs
namespace Go.Proofs.YtjlgbkedbbailaaGreatDoor.Mu
open Go.RowKit
theorem high_range (j : Nat) : -2147483648 ≤ high.getD j 0 ∧ high.getD j 0 ≤ 2147483647 := by
  by_cases h : j < 32
  · exact (by decide : ∀ j : Fin 32, -2147483648 ≤ high.getD j.val 0 ∧ high.getD j.val 0 ≤ 2147483647) ⟨j, h⟩
  · have : high[j]? = none := by rw [List.getElem?_eq_none_iff]; show 32 ≤ j; omega
    rw [List.getD_eq_getElem?_getD, this]; decide
/-- The sign of a byte of windows-1252. -/
def latin (c : UInt8) : Int := if 128 ≤ c.toNat ∧ c.toNat < 160 then high.getD (c.toNat - 128) 0 else c.toNat
theorem latin_range (c : UInt8) : -2147483648 ≤ latin c ∧ latin c ≤ 2147483647 := by
  have := high_range (c.toNat - 128)
  have := c.toNat_lt
  unfold latin; split <;> omega
def latins (l : Bs) : Bs := (l.map fun c => Lib.encodeRune (latin c)).flatten
theorem latins_take (l : Bs) (k : Nat) (h : k < l.length) : latins (l.take (k + 1)) = latins (l.take k) ++ Lib.encodeRune (latin l[k]) := by
  unfold latins
  rw [List.take_succ_eq_append_getElem h, List.map_append, List.flatten_append]; simp only [List.map_cons, List.map_nil, List.flatten_cons, List.flatten_nil, List.append_nil]
theorem latins_len : ∀ l : Bs, (latins l).length ≤ 4 * l.length
  | [] => by simp [latins]
  | c :: r => by
    have h1 := latins_len r
    have h2 : (Lib.encodeRune (latin c)).length ≤ 4 := by have := Lib.encodeRuneZ_length (latin c); simpa [Lib.encodeRune] using this.2
    simp only [latins, List.map_cons, List.flatten_cons, List.length_append, List.length_cons] at h1 ⊢; omega
/-- A builder of the call's own that holds some bytes. -/
structure Bld (B b : Nat) (l : Bs) (w wr : World) : Prop where
  is : Lib.IsBuilderF 50 5 B b (Lib.byteCells l) wr
  below : Below B w wr
  size : B ≤ wr.heap.size
theorem Bld.fresh (w : World) : Bld w.heap.size w.heap.size [] w (w.alloc (.cells #[.pointer none, .slice none 0 0] 50)) :=
  ⟨Lib.IsBuilderF.of (Lib.fresh_isBuilder 50 5 w), (Below.refl _ w).alloc (Nat.le_refl _) _, by simp⟩
theorem byteCells_len (l : Bs) : (Lib.byteCells l).length = l.length := by simp [Lib.byteCells]
theorem Bld.rune {B b : Nat} {l : Bs} {w wr : World} (h : Bld B b l w wr) (r : Int) (hr0 : -2147483648 ≤ r) (hr1 : r ≤ 2147483647) (hl : l.length + 4 ≤ 140737488355328) :
    Calls Tryz.prog 140 #[.pointer (some ⟨b, 0, none⟩), .int .i32 r] wr fun e w' => e = .returned (.tuple #[.int .i64 (Lib.runeCells r).length, .nilIface]) ∧ Bld B b (l ++ Lib.encodeRune r) w w' := by
  refine (Tryz.Builder_WriteRune_k B b _ r hr0 hr1 wr h.is (by rw [byteCells_len]; exact hl) h.size).mono ?_
  rintro e w' ⟨rfl, h1, h2, _⟩
  refine ⟨rfl, .inr ?_, h.below.trans h2, Nat.le_trans h.size h2.size⟩
  rw [← Lib.byteCells_encodeRune, ← Lib.byteCells_append] at h1
  exact h1
theorem Bld.byte {B b : Nat} {l : Bs} {w wr : World} (h : Bld B b l w wr) (c : UInt8) (hl : l.length + 1 ≤ 140737488355328) :
    Calls Tryz.prog 43 #[.pointer (some ⟨b, 0, none⟩), .int .u8 c.toNat] wr fun e w' => e = .returned .nilIface ∧ Bld B b (l ++ [c]) w w' := by
  refine (Tryz.Builder_WriteByte_k B b _ c.toNat wr h.is (by rw [byteCells_len]; exact hl) h.size).mono ?_
  rintro e w' ⟨rfl, h1, h2, _⟩
  refine ⟨rfl, .inr ?_, h.below.trans h2, Nat.le_trans h.size h2.size⟩
  rw [Lib.byteCells_append]; exact h1
theorem Bld.str {B b : Nat} {l : Bs} {w wr : World} (h : Bld B b l w wr) (s : Bs) (hl : l.length + s.length ≤ 140737488355328) :
    Calls Tryz.prog 32 #[.pointer (some ⟨b, 0, none⟩), .string ⟨s.toArray⟩] wr fun e w' => e = .returned (.tuple #[.int .i64 s.length, .nilIface]) ∧ Bld B b (l ++ s) w w' := by
  refine (Tryz.Builder_WriteString_k B b _ ⟨s.toArray⟩ wr h.is (by rw [byteCells_len]; exact hl) h.size).mono ?_
  rintro e w' ⟨rfl, h1, h2, _⟩
  refine ⟨rfl, .inr ?_, h.below.trans h2, Nat.le_trans h.size h2.size⟩
  rw [Lib.byteCells_append]
  exact h1
theorem Bld.string {B b : Nat} {l : Bs} {w wr : World} (h : Bld B b l w wr) :
    Calls Tryz.prog 35 #[.pointer (some ⟨b, 0, none⟩)] wr fun e w' => e = .returned (.string ⟨l.toArray⟩) ∧ Bld B b l w w' := by
  refine (Tryz.Builder_String_any_k B b l wr h.is h.size).mono ?_
  rintro e w' ⟨rfl, h1, h2, _⟩
  exact ⟨rfl, h1, h.below.trans h2, Nat.le_trans h.size h2.size⟩
theorem Bld.env {l : Bs} {w wr : World} (h : Bld w.heap.size w.heap.size l w wr) (hE : Env w) : Env wr := hE.below h.below
set_option maxHeartbeats 1000000 in
theorem singles_calls (l : Bs) (w : World) (hE : Env w) (hs : l.length ≤ 1073741824) :
    Calls Tryz.prog 108 #[.string ⟨l.toArray⟩] w fun e w' => e = .returned (.string ⟨(latins l).toArray⟩) ∧ Below w.heap.size w w' := by
  have HE := Lib.hid hE
  have HB := Lib.hid (Bld.fresh w)
  clear hE
  go_enter Tryz.func108, Tryz.ntmps108
  go_wp2_with fail
  go_loopw [9] (fun i wr => ∃ k : Nat, k ≤ l.length ∧ i = .int .i64 k ∧ Bld w.heap.size w.heap.size (latins (l.take k)) w wr) (fun i _ => l.length - (intOf i).toNat)
  case atStart => exact ⟨0, Nat.zero_le _, rfl, HB.out⟩
  case round =>
    obtain ⟨k, hk, rfl, hr⟩ := hrel
    by_cases hlt : k < l.length
    · have hkl : k < (⟨l.toArray⟩ : ByteArray).size := hlt
      obtain ⟨c, hc⟩ : ∃ c, l[k] = c := ⟨_, rfl⟩
      have hbe : ((⟨l.toArray⟩ : ByteArray)[k]'hkl) = c := hc
      have hst := latins_take l k hlt
      rw [hc] at hst
      have hln : (latins (l.take k)).length ≤ 4294967296 := by
        have := latins_len (l.take k); simp only [List.length_take] at this; omega
      have hcr := hr.rune (latin c) (latin_range c).1 (latin_range c).2 (by omega)
      have HCR := Lib.hid hcr
      have HS := Lib.hid hst
      clear hcr hst hc
      have hcb := c.toNat_lt
      by_cases h1 : 128 ≤ c.toNat ∧ c.toNat < 160
      · obtain ⟨h1, h2⟩ := h1
        have hg := (hr.env HE.out).high (c.toNat - 128) (by omega)
        obtain ⟨j, hj⟩ : ∃ j, c.toNat - 128 = j := ⟨_, rfl⟩
        have hla : latin c = high.getD j 0 := by unfold latin; rw [if_pos ⟨h1, h2⟩, hj]
        rw [hj, ← hla] at hg
        have hcj : (c.toNat : Int) = j + 128 := by omega
        have hj2 : j < 32 := by omega
        have HR := Lib.hid hr
        clear hj hla hr h1 h2 hcb
        go_wp2_with fail
        refine HCR.out.mono ?_
        rintro e w1 ⟨rfl, hb⟩
        have HB1 := Lib.hid hb; clear hb
        go_wp2_with fail
        go_roundw
        case rel => exact ⟨k + 1, by omega, by go_num, by rw [HS.out]; exact HB1.out⟩
        case measure => simp [intOf]; omega
      · have hla : latin c = c.toNat := by unfold latin; rw [if_neg h1]
        have hcr2 := HCR.out
        rw [hla] at hcr2
        have HCR2 := Lib.hid hcr2
        have HLA := Lib.hid hla
        clear hcr2 hla
        by_cases h3 : c.toNat < 128
        · clear h1
          go_wp2_with fail
          refine HCR2.out.mono ?_
          rintro e w1 ⟨rfl, hb⟩
          have HB1 := Lib.hid hb; clear hb
          go_wp2_with fail
          go_roundw
          case rel => exact ⟨k + 1, by omega, by go_num, by rw [HS.out, HLA.out]; exact HB1.out⟩
          case measure => simp [intOf]; omega
        · have h4 : 160 ≤ c.toNat := by omega
          clear h1 h3
          go_wp2_with fail
          refine HCR2.out.mono ?_
          rintro e w1 ⟨rfl, hb⟩
          have HB1 := Lib.hid hb; clear hb
          go_wp2_with fail
          go_roundw
          case rel => exact ⟨k + 1, by omega, by go_num, by rw [HS.out, HLA.out]; exact HB1.out⟩
          case measure => simp [intOf]; omega
    · have : k = l.length := by omega
      subst this
      have hcs := hr.string
      rw [List.take_length] at hcs
      have HCS := Lib.hid hcs
      clear hcs
      go_wp2_with fail
      refine HCS.out.mono ?_
      rintro e w1 ⟨rfl, hb⟩
      have HB1 := Lib.hid hb; clear hb
      go_wp2_with fail
      go_ret
      exact ⟨rfl, HB1.out.below⟩
end Go.Proofs.YtjlgbkedbbailaaGreatDoor.Mu
namespace Go.Proofs.YtjlgbkedbbailaaGreatDoor.Mu
open Go.RowKit
def latinName : Bs := [119, 105, 110, 100, 111, 119, 115, 45, 49, 50, 53, 50]
def whites5 : Bs := [32, 9, 10, 12, 13]
theorem trim_calls (s cs : Bs) (w : World) (hs : s.length ≤ 140737488351232) (hc : cs.length < 4294967281) (ha : cs.all (fun b => decide (b.toNat < 128)) = true) :
    Calls Tryz.prog 139 #[.string ⟨s.toArray⟩, .string ⟨cs.toArray⟩] w fun e w' => e = .returned (.string ⟨(Lib.trimS s cs).toArray⟩) ∧ Below w.heap.size w w' :=
  Any.strings_Trim_laid Tryz.lays160 (by kernel_rfl) ⟨s.toArray⟩ ⟨cs.toArray⟩ w (by show s.length ≤ _; omega) hc (ascii_of_all ha)
theorem trimLeft_calls (s cs : Bs) (w : World) (hc : cs.length < 4294967281) (ha : cs.all (fun b => decide (b.toNat < 128)) = true) :
    Calls Tryz.prog 87 #[.string ⟨s.toArray⟩, .string ⟨cs.toArray⟩] w fun e w' => e = .returned (.string ⟨(Lib.trimLeftS s cs).toArray⟩) ∧ Below w.heap.size w w' :=
  Any.strings_TrimLeft_laid Tryz.lays161 (by kernel_rfl) ⟨s.toArray⟩ ⟨cs.toArray⟩ w hc (ascii_of_all ha)
set_option maxHeartbeats 1000000 in
theorem known_latin_calls (w : World) :
    Calls Tryz.prog 107 #[.string ⟨latinName.toArray⟩] w fun e w' => e = .returned (.tuple #[.string ⟨latinName.toArray⟩, .bool true]) ∧ Below w.heap.size w w' := by
  have ht : Lib.trimS latinName whites5 = latinName := by decide
  have hsm : small latinName = latinName := by decide
  have htc := fun w => trim_calls latinName whites5 w (by decide) (by decide) (by decide)
  rw [ht] at htc
  have hsc := fun w => chars_small_calls ⟨latinName.toArray⟩ w (by decide)
  simp only [hsm] at hsc
  have HT := Lib.hid htc
  have HS := Lib.hid hsc
  clear htc hsc ht hsm
  go_enter Tryz.func107, Tryz.ntmps107
  go_wp2_with fail
  refine (HT.out _).mono ?_
  rintro e w1 ⟨rfl, hb1⟩
  have HB1 := Lib.hid hb1; clear hb1
  go_wp2_with fail
  refine (HS.out _).mono ?_
  rintro e w2 ⟨rfl, hb2⟩
  have HB2 := Lib.hid hb2; clear hb2
  simp only [latinName]
  go_wp2_with fail
  go_ret2
  exact ⟨rfl, below_next HB1.out HB2.out⟩
set_option maxHeartbeats 1000000 in
theorem decode_latin_calls (l : Bs) (w : World) (hE : Env w) (hs : l.length ≤ 1073741824) :
    Calls Tryz.prog 85 #[.string ⟨latinName.toArray⟩, .string ⟨l.toArray⟩] w fun e w' => e = .returned (.tuple #[.string ⟨(latins l).toArray⟩, .bool true]) ∧ Below w.heap.size w w' := by
  have HE := Lib.hid hE; clear hE
  go_enter Tryz.func85, Tryz.ntmps85
  go_wp2_with fail
  refine (known_latin_calls _).mono ?_
  rintro e w1 ⟨rfl, hb1⟩
  have HB1 := Lib.hid hb1; clear hb1
  simp only [latinName]
  go_wp2_with fail
  refine (singles_calls l _ (HE.out.below HB1.out) hs).mono ?_
  rintro e w2 ⟨rfl, hb2⟩
  have HB2 := Lib.hid hb2; clear hb2
  go_wp2_with fail
  go_ret2
  exact ⟨rfl, below_next HB1.out HB2.out⟩
theorem utf8_encode (r : Nat) : Utf8.encode (r : Int) = ⟨(Lib.encodeRune (r : Int)).toArray⟩ := by
  apply ba_ext
  have h := Extern.FmtText.encode_eq r
  unfold Lib.encodeRune
  rw [← h]
  simp only [Extern.FmtText.nums, List.map_map]
  have : ((fun x : Int => x.toNat.toUInt8) ∘ fun b : UInt8 => (b.toNat : Int)) = id := by funext b; simp
  rw [this, List.map_id]
set_option maxHeartbeats 1000000 in
theorem numbered_calls (n : Nat) (w : World) (hE : Env w) (hn : n < 16777216) :
    Calls Tryz.prog 65 #[.int .i64 n] w fun e w' => e = .returned (.string ⟨(signOf n).toArray⟩) ∧ Below w.heap.size w w' := by
  have HE := Lib.hid hE; clear hE
  by_cases h0 : n = 0
  · subst h0
    go_enter Tryz.func65, Tryz.ntmps65
    go_wp2_with fail
    go_ret
    exact ⟨rfl, Below.refl _ _⟩
  by_cases h1 : 128 ≤ n ∧ n ≤ 159
  · obtain ⟨c, hc⟩ : ∃ c : UInt8, c.toNat = n := ⟨UInt8.ofNat n, by simp; omega⟩
    subst hc
    have hso : signOf c.toNat = latins [c] := by
      unfold signOf; rw [if_neg h0, if_pos h1]; simp [latins, latin, h1.1, show c.toNat < 160 by omega]
    rw [hso]; clear hso
    obtain ⟨h1, h2⟩ := h1
    have hne : ((c.toNat : Int) == 0) = false := by rw [beq_eq_false_iff_ne]; omega
    have hcv : ∀ w : World, (convert 36 9 (.slice (some ⟨w.heap.size, 0, none⟩) 1 1)).run Tryz.prog (w.alloc (.cells #[.int .u8 c.toNat] 5)) = .ok (.string ⟨[c].toArray⟩) (w.alloc (.cells #[.int .u8 c.toNat] 5)) := by
      intro w
      refine run_convert_bytes_back (P := Tryz.prog) _ 36 9 5 ⟨w.heap.size, 0, none⟩ 1 [c] Tryz.underlying36 Tryz.underlying5 Tryz.underlying9 ?_
      intro j hj
      have : j = 0 := by simpa using hj
      subst this
      have hn := heap_alloc_new w (.cells #[.int .u8 c.toNat] 5)
      rw [Addr.add_zero']
      simp only [World.cell?, hn]; rfl
    clear h0 hn
    go_enter Tryz.func65, Tryz.ntmps65
    go_wp2_with fail
    refine (decode_latin_calls [c] _ (HE.out.below ((Below.refl _ w).alloc (Nat.le_refl _) _)) (by simp)).mono ?_
    rintro e w1 ⟨rfl, hb1⟩
    have HB1 := Lib.hid hb1; clear hb1
    go_wp2_with fail
    go_ret
    exact ⟨rfl, below_next ((Below.refl _ w).alloc (Nat.le_refl _) _) HB1.out⟩
  · have hso : (⟨(signOf n).toArray⟩ : ByteArray) = Utf8.encode n := by rw [utf8_encode]; unfold signOf; rw [if_neg h0, if_neg h1]
    rw [hso]; clear hso
    have hne : ((n : Int) == 0) = false := by rw [beq_eq_false_iff_ne]; omega
    go_enter Tryz.func65, Tryz.ntmps65
    by_cases h2 : n < 128
    · clear h0 h1
      go_wp2_with fail
      go_ret
      exact ⟨rfl, Below.refl _ _⟩
    · have h3 : 160 ≤ n := by omega
      clear h0 h1
      go_wp2_with fail
      go_ret
      exact ⟨rfl, Below.refl _ _⟩
end Go.Proofs.YtjlgbkedbbailaaGreatDoor.Mu
namespace Go.Proofs.YtjlgbkedbbailaaGreatDoor.Mu
open Go.RowKit
theorem cutPrefix_calls (s p : Bs) (w : World) : Calls Tryz.prog 46 #[.string ⟨s.toArray⟩, .string ⟨p.toArray⟩] w fun e w' => e = .returned (.tuple #[.string ⟨(Lib.trimPrefix s p).toArray⟩, .bool (Lib.hasPrefix s p)]) ∧ w = w' := by
  refine (Tryz.strings_CutPrefix ⟨s.toArray⟩ ⟨p.toArray⟩ w).mono ?_
  rintro e w' ⟨rfl, rfl⟩
  exact ⟨rfl, rfl⟩
theorem cutPrefix_yes (p r : Bs) (w : World) : Calls Tryz.prog 46 #[.string ⟨(p ++ r).toArray⟩, .string ⟨p.toArray⟩] w fun e w' => e = .returned (.tuple #[.string ⟨r.toArray⟩, .bool true]) ∧ w = w' := by
  refine (cutPrefix_calls (p ++ r) p w).mono ?_
  rintro e w' ⟨rfl, h⟩
  have hp : Lib.hasPrefix (p ++ r) p = true := by unfold Lib.hasPrefix; rw [List.isPrefixOf_iff_prefix]; exact List.prefix_append _ _
  refine ⟨?_, h⟩
  rw [hp]
  unfold Lib.trimPrefix
  rw [if_pos hp]; simp
theorem cutPrefix_no (s p : Bs) (hp : p.isPrefixOf s = false) (w : World) : Calls Tryz.prog 46 #[.string ⟨s.toArray⟩, .string ⟨p.toArray⟩] w fun e w' => e = .returned (.tuple #[.string ⟨s.toArray⟩, .bool false]) ∧ w = w' := by
  refine (cutPrefix_calls s p w).mono ?_
  rintro e w' ⟨rfl, h⟩
  have hp : Lib.hasPrefix s p = false := hp
  refine ⟨?_, h⟩
  rw [hp]
  unfold Lib.trimPrefix
  rw [if_neg (by rw [hp]; simp)]
def SignPost (s : Bs) (e : Ending) : Prop := ∃ x : Bs, e = .returned (.tuple #[.string ⟨x.toArray⟩, .bool (sign s).isSome]) ∧ ∀ t, sign s = some t → x = t
theorem SignPost.ok {s x : Bs} (h : sign s = some x) : SignPost s (.returned (.tuple #[.string ⟨x.toArray⟩, .bool true])) := ⟨x, by rw [h]; rfl, fun t ht => by rw [h] at ht; injection ht⟩
theorem SignPost.no {s x : Bs} (h : sign s = none) : SignPost s (.returned (.tuple #[.string ⟨x.toArray⟩, .bool false])) := ⟨x, by rw [h]; rfl, fun t ht => by rw [h] at ht; cases ht⟩
theorem nameVal_nat (s : Bs) : ∃ n : Nat, nameVal s = n := by
  have h : ∀ p ∈ kvs, 0 ≤ p.2 := by decide
  unfold nameVal
  cases hf : kvs.find? (fun p => p.1 == s) with
  | none => exact ⟨0, rfl⟩
  | some p => exact ⟨p.2.toNat, by have := h p (List.mem_of_find?_eq_some hf); simp; omega⟩
theorem sign_named (s : Bs) (h : [35].isPrefixOf s = false) : sign s = named s := by
  unfold sign
  split
  · simp [List.isPrefixOf] at h
  · simp [List.isPrefixOf] at h
  · rfl
set_option maxHeartbeats 1000000 in
theorem sign_named_calls (s : Bs) (w : World) (h : [35].isPrefixOf s = false) :
    Calls Tryz.prog 42 #[.string ⟨s.toArray⟩] w fun e w' => SignPost s e ∧ Below w.heap.size w w' := by
  have hcp := fun w => cutPrefix_no s [35] h w
  have hlk := fun w B hb => lookup_run s w B hb
  have hs := sign_named s h
  obtain ⟨n, hn⟩ := nameVal_nat s
  have hen := utf8_encode n
  cases hh : nameHas s with
  | true =>
    have hok : sign s = some (Lib.encodeRune n) := by rw [hs, named_has s hh, hn]
    rw [hn, hh] at hlk
    have HOK := Lib.hid hok
    have HCP := Lib.hid hcp
    clear hs h hok hcp hn hh
    go_enter Tryz.func42, Tryz.ntmps42
    go_wp2_with fail
    refine (HCP.out _).mono ?_
    rintro e w' ⟨rfl, rfl⟩
    go_wp2_with fail
    refine (names_calls _).mono ?_
    rintro e w' ⟨rfl, rfl⟩
    have hlk2 := hlk (w.alloc (.map (ents 16) 16)) w.heap.size (heap_alloc_new w _)
    clear hlk
    go_wp2_with fail
    go_ret2
    exact ⟨SignPost.ok HOK.out, (Below.refl _ w).alloc (Nat.le_refl _) _⟩
  | false =>
    have hok : sign s = none := by rw [hs, named_no s hh]
    rw [hn, hh] at hlk
    have HOK := Lib.hid hok
    have HCP := Lib.hid hcp
    clear hs h hok hcp hn hh
    go_enter Tryz.func42, Tryz.ntmps42
    go_wp2_with fail
    refine (HCP.out _).mono ?_
    rintro e w' ⟨rfl, rfl⟩
    go_wp2_with fail
    refine (names_calls _).mono ?_
    rintro e w' ⟨rfl, rfl⟩
    have hlk2 := hlk (w.alloc (.map (ents 16) 16)) w.heap.size (heap_alloc_new w _)
    clear hlk
    go_wp2_with fail
    go_ret2
    exact ⟨SignPost.no HOK.out, (Below.refl _ w).alloc (Nat.le_refl _) _⟩
theorem SignPost.num {s : Bs} {o : Option Nat} (h : sign s = o.map signOf) : SignPost s (.returned (.tuple #[.string ⟨(signOf (o.getD 0)).toArray⟩, .bool o.isSome])) := by
  cases o with
  | none => exact SignPost.no h
  | some n => exact SignPost.ok h
theorem num_bound16 (l : Bs) : (num 16 6 l).getD 0 < 16777216 := by
  cases h : num 16 6 l with
  | none => decide
  | some n =>
    unfold num at h
    split at h
    · cases h
    · exact numF_bound16 l n h (by omega)
theorem num_bound10 (l : Bs) : (num 10 7 l).getD 0 < 16777216 := by
  cases h : num 10 7 l with
  | none => decide
  | some n =>
    unfold num at h
    split at h
    · cases h
    · exact numF_bound10 l n h (by omega)
set_option maxHeartbeats 1000000 in
theorem sign_hex_calls (x : UInt8) (q : Bs) (w : World) (hE : Env w) (hx : x = 120 ∨ x = 88) (hl : q.length ≤ 140737488351200) :
    Calls Tryz.prog 42 #[.string ⟨(35 :: x :: q).toArray⟩] w fun e w' => SignPost (35 :: x :: q) e ∧ Below w.heap.size w w' := by
  have HE := Lib.hid hE; clear hE
  have hs : sign (35 :: x :: q) = (num 16 6 q).map signOf := by unfold sign; simp only [if_pos hx]
  have HS := Lib.hid hs; clear hs
  have HCP := Lib.hid (fun w => cutPrefix_yes [35] (x :: q) w)
  have hext : (⟨(x :: q).toArray⟩ : ByteArray).extract 1 (q.length + 1) = ⟨q.toArray⟩ := ext_drop (x :: q) 1
  have hbit : (bits BinOp.or IntKind.u8 (x.toNat : Int) 32 == 120) = true := by rcases hx with rfl | rfl <;> decide +kernel
  have hi : ∀ (h : 0 < (⟨(x :: q).toArray⟩ : ByteArray).size), (⟨(x :: q).toArray⟩ : ByteArray)[0]'h = x := fun _ => rfl
  have HDG := Lib.hid (fun w hE => digits16_calls q w hE (by omega))
  have HNB := Lib.hid (num_bound16 q)
  clear hx
  go_enter Tryz.func42, Tryz.ntmps42
  go_wp2_with fail
  refine (HCP.out _).mono ?_
  rintro e w' ⟨rfl, rfl⟩
  go_wp2_with fail
  refine (HDG.out _ HE.out).mono ?_
  rintro e w1 ⟨rfl, hb1⟩
  have HB1 := Lib.hid hb1; clear hb1
  generalize num 16 6 q = o at *
  go_wp2_with fail
  refine (numbered_calls _ _ (HE.out.below HB1.out) HNB.out).mono ?_
  rintro e w2 ⟨rfl, hb2⟩
  have HB2 := Lib.hid hb2; clear hb2
  go_wp2_with fail
  go_ret2
  exact ⟨SignPost.num HS.out, below_next HB1.out HB2.out⟩
set_option maxHeartbeats 1000000 in
theorem sign_dec_calls (r : Bs) (w : World) (hE : Env w) (hx : ∀ x q, r = x :: q → ¬ (x = 120 ∨ x = 88)) (hl : r.length ≤ 140737488351200) :
    Calls Tryz.prog 42 #[.string ⟨(35 :: r).toArray⟩] w fun e w' => SignPost (35 :: r) e ∧ Below w.heap.size w w' := by
  have HE := Lib.hid hE; clear hE
  have hs : sign (35 :: r) = (num 10 7 r).map signOf := by
    cases r with
    | nil => rfl
    | cons x q => unfold sign; simp only [if_neg (hx x q rfl)]
  have HS := Lib.hid hs; clear hs
  have HCP := Lib.hid (fun w => cutPrefix_yes [35] r w)
  have HDG := Lib.hid (fun w hE => digits10_calls r w hE (by omega))
  have HNB := Lib.hid (num_bound10 r)
  cases r with
  | nil =>
    clear hx hl
    go_enter Tryz.func42, Tryz.ntmps42
    go_wp2_with fail
    refine (HCP.out _).mono ?_
    rintro e w' ⟨rfl, rfl⟩
    go_wp2_with fail
    refine (HDG.out _ HE.out).mono ?_
    rintro e w1 ⟨rfl, hb1⟩
    have HB1 := Lib.hid hb1; clear hb1
    generalize num 10 7 [] = o at *
    go_wp2_with fail
    refine (numbered_calls _ _ (HE.out.below HB1.out) HNB.out).mono ?_
    rintro e w2 ⟨rfl, hb2⟩
    have HB2 := Lib.hid hb2; clear hb2
    go_wp2_with fail
    go_ret2
    exact ⟨SignPost.num HS.out, below_next HB1.out HB2.out⟩
  | cons x q =>
    have hbit : (bits BinOp.or IntKind.u8 (x.toNat : Int) 32 == 120) = false := by
      have := hx x q rfl
      rw [bits_or32, beq_eq_false_iff_ne]
      intro e
      have e : (x ||| 32).toNat = 120 := by omega
      exact this (byte_all (p := fun x => (x ||| 32).toNat = 120 → (x = 120 ∨ x = 88)) (by decide +kernel) x e)
    have hi : ∀ (h : 0 < (⟨(x :: q).toArray⟩ : ByteArray).size), (⟨(x :: q).toArray⟩ : ByteArray)[0]'h = x := fun _ => rfl
    clear hx
    go_enter Tryz.func42, Tryz.ntmps42
    go_wp2_with fail
    refine (HCP.out _).mono ?_
    rintro e w' ⟨rfl, rfl⟩
    go_wp2_with fail
    refine (HDG.out _ HE.out).mono ?_
    rintro e w1 ⟨rfl, hb1⟩
    have HB1 := Lib.hid hb1; clear hb1
    generalize num 10 7 (x :: q) = o at *
    go_wp2_with fail
    refine (numbered_calls _ _ (HE.out.below HB1.out) HNB.out).mono ?_
    rintro e w2 ⟨rfl, hb2⟩
    have HB2 := Lib.hid hb2; clear hb2
    go_wp2_with fail
    go_ret2
    exact ⟨SignPost.num HS.out, below_next HB1.out HB2.out⟩
theorem sign_calls (s : Bs) (w : World) (hE : Env w) (hl : s.length ≤ 140737488351200) :
    Calls Tryz.prog 42 #[.string ⟨s.toArray⟩] w fun e w' => SignPost s e ∧ Below w.heap.size w w' := by
  by_cases h : [35].isPrefixOf s = false
  · exact sign_named_calls s w h
  · cases s with
    | nil => simp [List.isPrefixOf] at h
    | cons c r =>
      have hc : c = 35 := by simp [List.isPrefixOf] at h; exact h.symm
      subst hc
      simp only [List.length_cons] at hl
      by_cases hx : ∃ x q, r = x :: q ∧ (x = 120 ∨ x = 88)
      · obtain ⟨x, q, rfl, hx⟩ := hx
        exact sign_hex_calls x q w hE hx (by simp only [List.length_cons] at hl; omega)
      · exact sign_dec_calls r w hE (fun x q e hx' => hx ⟨x, q, e, hx'⟩) (by omega)
end Go.Proofs.YtjlgbkedbbailaaGreatDoor.Mu
namespace Go.Proofs.YtjlgbkedbbailaaGreatDoor.Mu
open Go.RowKit
theorem index_has (sep : Bs) : ∀ s : Bs, (0 ≤ Lib.index s sep) ↔ hasB sep s = true
  | [] => by
    unfold Lib.index hasB
    cases sep <;> simp
  | c :: r => by
    have ih := index_has sep r
    have hge : -1 ≤ Lib.index r sep := by
      rcases Lib.index_spec r sep with ⟨h, _⟩ | ⟨i, h, _⟩ <;> omega
    unfold Lib.index hasB
    cases hp : sep.isPrefixOf (c :: r) with
    | true => simp
    | false =>
      simp only [Bool.false_or, ← ih]
      by_cases h1 : Lib.index r sep = -1
      · simp [h1]
      · have : (Lib.index r sep == -1) = false := by simpa using h1
        simp [this]; omega
theorem cut_eq (sep : Bs) (h0 : sep ≠ []) : ∀ s : Bs, Lib.cut s sep = ((cutB sep s).1, (cutB sep s).2, hasB sep s)
  | [] => by
    cases sep with
    | nil => exact absurd rfl h0
    | cons a b => rfl
  | c :: r => by
    have ih := cut_eq sep h0 r
    have hi := index_has sep r
    have hi2 := index_has sep (c :: r)
    have hge : -1 ≤ Lib.index r sep := by
      rcases Lib.index_spec r sep with ⟨h, _⟩ | ⟨i, h, _⟩ <;> omega
    unfold Lib.cut at ih ⊢
    cases hp : sep.isPrefixOf (c :: r) with
    | true =>
      have e : Lib.index (c :: r) sep = 0 := by unfold Lib.index; rw [if_pos hp]
      have eh : hasB sep (c :: r) = true := by unfold hasB; rw [hp]; rfl
      rw [e, eh]
      simp [cutB, hp]
    | false =>
      have eh : hasB sep (c :: r) = hasB sep r := by rw [hasB, hp]; rfl
      have ec : cutB sep (c :: r) = (c :: (cutB sep r).1, (cutB sep r).2) := by rw [cutB, hp]; rfl
      rw [eh, ec]
      cases hh : hasB sep r with
      | false =>
        rw [hh] at hi ih eh
        have h1 : ¬ 0 ≤ Lib.index r sep := fun h => by have := hi.1 h; cases this
        have h2 : ¬ 0 ≤ Lib.index (c :: r) sep := fun h => by have := hi2.1 h; rw [eh] at this; cases this
        rw [if_neg h1] at ih
        rw [if_neg h2]
        injection ih with e1 e2; injection e2 with e2 e3
        simp only [← e1, ← e2]
      | true =>
        rw [hh] at hi ih
        have h1 : 0 ≤ Lib.index r sep := hi.2 rfl
        have e : Lib.index (c :: r) sep = Lib.index r sep + 1 := by
          conv => lhs; unfold Lib.index
          have : (Lib.index r sep == -1) = false := by rw [beq_eq_false_iff_ne]; omega
          rw [hp, this]; rfl
        rw [if_pos h1] at ih
        injection ih with e1 e2; injection e2 with e2 e3
        rw [e, if_pos (by omega)]
        have en : (Lib.index r sep + 1).toNat = (Lib.index r sep).toNat + 1 := by omega
        rw [en, List.take_succ_cons, e1]
        rw [show (Lib.index r sep).toNat + 1 + sep.length = ((Lib.index r sep).toNat + sep.length) + 1 by omega, List.drop_succ_cons, e2]
theorem cut_calls (s sep : Bs) (w : World) (hE : Env w) (h0 : sep ≠ []) (hs : s.length ≤ 1073741824) :
    Calls Tryz.prog 41 #[.string ⟨s.toArray⟩, .string ⟨sep.toArray⟩] w fun e w' => e = .returned (.tuple #[.string ⟨(cutB sep s).1.toArray⟩, .string ⟨(cutB sep s).2.toArray⟩, .bool (hasB sep s)]) ∧ Below w.heap.size w w' := by
  obtain ⟨m, hm⟩ := hE.maxlen
  refine (Tryz.strings_Cut ⟨s.toArray⟩ ⟨sep.toArray⟩ m w (by show s.length < _; omega) hm).mono ?_
  rintro e w' ⟨rfl, n, rfl⟩
  refine ⟨?_, below_drewN (Below.refl _ _) n⟩
  show Ending.returned (.tuple #[.string ⟨(Lib.cut s sep).1.toArray⟩, .string ⟨(Lib.cut s sep).2.1.toArray⟩, .bool (Lib.cut s sep).2.2]) = _
  rw [cut_eq sep h0]
theorem Bld.keep {B b : Nat} {l : Bs} {w wr w' : World} (h : Bld B b l w wr) (hb : Below wr.heap.size wr w') : Bld B b l w w' := by
  refine ⟨?_, h.below.trans (hb.mono h.size), Nat.le_trans h.size hb.size⟩
  have key : ∀ p, Lib.BuilderAtF 50 5 B b p (Lib.byteCells l) wr → Lib.BuilderAtF 50 5 B b p (Lib.byteCells l) w' := by
    rintro p ⟨hB, v, hv, ho, hne⟩
    have hlt : b < wr.heap.size := (Array.getElem?_eq_some_iff.1 hv).1
    have hg : wr.grownBy w' none := ⟨hb.os, hb.tape, hb.output, hb.size, fun i hi _ => hb.block i hi⟩
    refine ⟨hB, v, (hb.block b hlt).trans hv, ho.kept hg ?_, hne⟩
    cases hvb : v.ownBlock with
    | none => exact .inl rfl
    | some k => exact .inr (by simp)
  exact h.is.elim (fun x => .inl (key _ x)) (fun x => .inr (key _ x))
/-! the loop's plain side -/
theorem dec_app (a r : Bs) (h : ∀ c ∈ a, c ≠ 38) : dec (a ++ r) = a ++ dec r := by
  induction a with
  | nil => rfl
  | cons c a ih => rw [List.cons_append, dec_cons c _ (h c (by simp)), ih (fun x hx => h x (by simp [hx]))]; rfl
theorem cutB_one (d : UInt8) : ∀ s : Bs, (∀ c ∈ (cutB [d] s).1, c ≠ d) ∧ (hasB [d] s = true → s = (cutB [d] s).1 ++ d :: (cutB [d] s).2) ∧ (hasB [d] s = false → (cutB [d] s).1 = s)
  | [] => by simp [cutB, hasB]
  | c :: r => by
    have ih := cutB_one d r
    by_cases hc : d = c
    · subst hc; simp [cutB, hasB]
    · have hp : [d].isPrefixOf (c :: r) = false := by simp [List.isPrefixOf, hc]
      rw [cutB, hasB, hp]
      simp only [Bool.false_eq_true, if_false, Bool.false_or, List.mem_cons, forall_eq_or_imp, List.cons_append, List.cons.injEq, true_and]
      exact ⟨⟨fun e => hc e.symm, ih.1⟩, ih.2.1, ih.2.2⟩
/-- One round of the decoder: what goes out, and what is left. -/
def decStep (r : Bs) : Bs × Bs := match refAt r with
  | some (t, q) => (t, q)
  | none => ([38], r)
theorem dec_step (s : Bs) (h : hasB [38] s = true) : dec s = (cutB [38] s).1 ++ (decStep (cutB [38] s).2).1 ++ dec (decStep (cutB [38] s).2).2 := by
  have h1 := cutB_one 38 s
  conv => lhs; rw [h1.2.1 h]
  rw [dec_app _ _ h1.1]
  unfold decStep
  cases hr : refAt (cutB [38] s).2 with
  | none => rw [dec_none _ hr]; simp
  | some p => obtain ⟨t, q⟩ := p; rw [dec_ref _ t q hr]; simp
theorem dec_end (s : Bs) (h : hasB [38] s = false) : dec s = s := by
  have h1 := cutB_one 38 s
  have h2 := h1.2.2 h
  have := dec_app (cutB [38] s).1 [] h1.1
  rw [List.append_nil, h2] at this
  simpa [dec_nil] using this
end Go.Proofs.YtjlgbkedbbailaaGreatDoor.Mu
namespace Go.Proofs.YtjlgbkedbbailaaGreatDoor.Mu
open Go.RowKit
theorem decStep_len {s : Bs} (h : hasB [38] s = true) : ((cutB [38] s).1 ++ (decStep (cutB [38] s).2).1).length + (decStep (cutB [38] s).2).2.length ≤ s.length ∧ (decStep (cutB [38] s).2).2.length < s.length := by
  have h1 := cutB_has [38] (by simp) s h
  unfold decStep
  cases hr : refAt (cutB [38] s).2 with
  | none => simp only [List.length_append, List.length_cons, List.length_nil] at h1 ⊢; omega
  | some p => obtain ⟨t, q⟩ := p; have := refAt_full hr; have := refAt_len hr; simp only [List.length_append, List.length_cons, List.length_nil] at h1 ⊢; omega
/-- The relation of the decoder's loop. -/
structure DecRel (s : Bs) (rest acc : Bs) : Prop where
  eq : acc ++ dec rest = dec s
  len : acc.length + rest.length ≤ s.length
theorem DecRel.start (s : Bs) : DecRel s s [] := ⟨rfl, by simp⟩
theorem DecRel.step {s rest acc : Bs} (h : DecRel s rest acc) (hh : hasB [38] rest = true) : DecRel s (decStep (cutB [38] rest).2).2 (acc ++ (cutB [38] rest).1 ++ (decStep (cutB [38] rest).2).1) := by
  have := decStep_len hh
  refine ⟨?_, ?_⟩
  · rw [← h.eq, dec_step rest hh]; simp
  · have := h.len; simp only [List.length_append] at *; omega
theorem DecRel.fin {s rest acc : Bs} (h : DecRel s rest acc) (hh : hasB [38] rest = false) : acc ++ (cutB [38] rest).1 = dec s := by
  rw [← h.eq, dec_end rest hh, (cutB_one 38 rest).2.2 hh]
set_option maxHeartbeats 2000000 in
theorem decode_calls (s : Bs) (w : World) (hE : Env w) (hs : s.length ≤ 1073741824) :
    Calls Tryz.prog 24 #[.string ⟨s.toArray⟩] w fun e w' => e = .returned (.string ⟨(dec s).toArray⟩) ∧ Below w.heap.size w w' := by
  have HE := Lib.hid hE; clear hE
  have HB := Lib.hid (Bld.fresh w)
  have HR0 := Lib.hid (DecRel.start s)
  go_enter Tryz.func24, Tryz.ntmps24
  go_wp2_with fail
  have hb0 := HB.out
  go_loopg [0] s.length (fun n p wr => ∃ rest acc : Bs, n = rest.length ∧ p = .string ⟨rest.toArray⟩ ∧ DecRel s rest acc ∧ Bld w.heap.size w.heap.size acc w wr)
  case atStart => exact ⟨s, [], rfl, rfl, HR0.out, hb0⟩
  case round =>
    obtain ⟨rest, acc, hn, rfl, hr, hb⟩ := hrel
    have hlen := hr.len
    have HR := Lib.hid hr
    have HN := Lib.hid hn
    clear hb0 hr hn
    have HBR := Lib.hid hb; clear hb
    have hc1 := cutB_len [38] rest
    have HCL := Lib.hid hc1
    cases hh : hasB [38] rest with
    | false =>
      have hct := cut_calls rest [38] wr (HBR.out.env HE.out) (by simp) (by omega)
      rw [hh] at hct
      have HCT := Lib.hid hct
      have HF := Lib.hid (HR.out.fin hh)
      clear hct hh
      go_wp2_with fail
      refine HCT.out.mono ?_
      rintro e w1 ⟨rfl, hb1⟩
      have HB1 := Lib.hid (HBR.out.keep hb1); clear hb1
      go_wp2_with fail
      refine (HB1.out.str (cutB [38] rest).1 (by omega)).mono ?_
      rintro e w2 ⟨rfl, hb2⟩
      have HB2 := Lib.hid hb2; clear hb2
      go_wp2_with fail
      refine HB2.out.string.mono ?_
      rintro e w3 ⟨rfl, hb3⟩
      have HB3 := Lib.hid hb3; clear hb3
      go_wp2_with fail
      go_ret
      exact ⟨ret_str (by rw [← HF.out]), HB3.out.below⟩
    | true =>
      have hct := cut_calls rest [38] wr (HBR.out.env HE.out) (by simp) (by omega)
      rw [hh] at hct
      have HCT := Lib.hid hct
      have HST := Lib.hid (HR.out.step hh)
      have HSL := Lib.hid (decStep_len hh)
      clear hct hh
      obtain ⟨ahead, r, hcut⟩ : ∃ ahead r, cutB [38] rest = (ahead, r) := ⟨_, _, rfl⟩
      rw [hcut] at HCT HST HSL hc1
      have hc2 := cutB_len [59] r
      clear hcut
      dsimp only at HCT HST HSL hc1
      go_wp2_with fail
      refine HCT.out.mono ?_
      rintro e w1 ⟨rfl, hb1⟩
      have HB1 := Lib.hid (HBR.out.keep hb1); clear hb1
      go_wp2_with fail
      refine (HB1.out.str ahead (by omega)).mono ?_
      rintro e w2 ⟨rfl, hb2⟩
      have HB2 := Lib.hid hb2; clear hb2
      go_wp2_with fail
      refine (cut_calls r [59] w2 (HB2.out.env HE.out) (by simp) (by omega)).mono ?_
      rintro e w3 ⟨rfl, hb3⟩
      have HB3 := Lib.hid (HB2.out.keep hb3); clear hb3
      go_wp2_with fail
      refine (sign_calls (cutB [59] r).1 w3 (HB3.out.env HE.out) (by omega)).mono ?_
      rintro e w4 ⟨⟨x, rfl, hx⟩, hb4⟩
      have HX := Lib.hid hx
      have HB4 := Lib.hid (HB3.out.keep hb4); clear hb4 hx
      have HRA : Hid (refAt r = if hasB [59] r then (sign (cutB [59] r).1).map fun t => (t, (cutB [59] r).2) else none) := rfl
      generalize hasB [59] r = e59 at *
      cases hsg : sign (cutB [59] r).1 with
      | none =>
        have hds : decStep r = ([38], r) := by
          have := HRA.out; rw [hsg] at this
          unfold decStep
          cases e59 <;> (simp at this; rw [this])
        rw [hds] at HST HSL
        have hsome : (none : Option Bs).isSome = false := rfl
        clear hds HRA hsg
        cases e59
        all_goals
          go_wp2_with fail
          refine (HB4.out.byte 38 (by simp only [List.length_append]; omega)).mono ?_
          rintro e w5 ⟨rfl, hb5⟩
          have HB5 := Lib.hid hb5; clear hb5
          go_wp2_with fail
          go_roundg r.length
          case measure => have := HSL.out; have := HN.out; omega
          case rel => exact ⟨r, _, rfl, rfl, HST.out, HB5.out⟩
      | some t =>
        have ht := HX.out t hsg
        subst ht
        cases e59 with
        | false =>
          have hds : decStep r = ([38], r) := by
            have := HRA.out; rw [if_neg (by simp)] at this
            unfold decStep; rw [this]
          rw [hds] at HST HSL
          have hsome : (some x).isSome = true := rfl
          clear hds HRA hsg
          go_wp2_with fail
          refine (HB4.out.byte 38 (by simp only [List.length_append]; omega)).mono ?_
          rintro e w5 ⟨rfl, hb5⟩
          have HB5 := Lib.hid hb5; clear hb5
          go_wp2_with fail
          go_roundg r.length
          case measure => have := HSL.out; have := HN.out; omega
          case rel => exact ⟨r, _, rfl, rfl, HST.out, HB5.out⟩
        | true =>
          have hds : decStep r = (x, (cutB [59] r).2) := by
            have := HRA.out; rw [if_pos rfl, hsg] at this
            unfold decStep; rw [this]; rfl
          rw [hds] at HST HSL
          have hxl : x.length ≤ (cutB [59] r).1.length + 2 := (sign_len hsg).2.1
          have hsome : (some x).isSome = true := rfl
          clear hds HRA hsg
          go_wp2_with fail
          refine (HB4.out.str x (by simp only [List.length_append]; omega)).mono ?_
          rintro e w5 ⟨rfl, hb5⟩
          have HB5 := Lib.hid hb5; clear hb5
          go_wp2_with fail
          go_roundg (cutB [59] r).2.length
          case measure => have h1 := HSL.out.2; have h2 := HN.out; show (cutB [59] r).2.length < gk; rw [h2]; exact h1
          case rel => exact ⟨_, _, rfl, rfl, HST.out, HB5.out⟩
end Go.Proofs.YtjlgbkedbbailaaGreatDoor.Mu
namespace Go.Proofs.YtjlgbkedbbailaaGreatDoor.Mu
open Go.RowKit
theorem cut_quiet (s sep : Bs) (w : World) (hE : Env w) (h0 : sep ≠ []) (hs : s.length ≤ 1073741824) :
    Calls Tryz.prog 41 #[.string ⟨s.toArray⟩, .string ⟨sep.toArray⟩] w fun e w' => e = .returned (.tuple #[.string ⟨(cutB sep s).1.toArray⟩, .string ⟨(cutB sep s).2.toArray⟩, .bool (hasB sep s)]) ∧ ∃ n, w' = w.drewN n := by
  obtain ⟨m, hm⟩ := hE.maxlen
  refine (Tryz.strings_Cut ⟨s.toArray⟩ ⟨sep.toArray⟩ m w (by show s.length < _; omega) hm).mono ?_
  rintro e w' ⟨rfl, n, rfl⟩
  refine ⟨?_, n, rfl⟩
  show Ending.returned (.tuple #[.string ⟨(Lib.cut s sep).1.toArray⟩, .string ⟨(Lib.cut s sep).2.1.toArray⟩, .bool (Lib.cut s sep).2.2]) = _
  rw [cut_eq sep h0]
theorem till_congr {p q : UInt8 → Bool} (h : ∀ c, p c = q c) : ∀ s : Bs, till p s = till q s
  | [] => rfl
  | c :: r => by unfold till; rw [h c, till_congr h r]
theorem white62 (c : UInt8) : List.contains [32, 9, 10, 12, 13, 62] c = (white c || c == 62) := by
  simp only [List.contains_cons, List.contains_nil, Bool.or_false, white, Bool.or_assoc]
theorem dec_len_le (s : Bs) : (dec s).length ≤ s.length := dec_le s
set_option maxHeartbeats 2000000 in
theorem value_calls (s : Bs) (w : World) (hE : Env w) (hs : s.length ≤ 1073741824) :
    Calls Tryz.prog 88 #[.string ⟨s.toArray⟩] w fun e w' => e = .returned (.tuple #[.string ⟨(value s).1.toArray⟩, .string ⟨(value s).2.toArray⟩]) ∧ Below w.heap.size w w' := by
  have HE := Lib.hid hE
  by_cases hq : ∃ q r, s = q :: r ∧ (q = 34 ∨ q = 39)
  · obtain ⟨q, r, rfl, hq⟩ := hq
    have hv : value (q :: r) = (dec (cutB [q] r).1, (cutB [q] r).2) := by unfold value; simp only [if_pos hq]
    rw [hv]; clear hv
    simp only [List.length_cons] at hs
    have hlen := cutB_len [q] r
    have hct := fun w hE => cut_quiet r [q] w hE (by simp) (by omega)
    have HCT := Lib.hid hct
    have hext : (⟨(q :: r).toArray⟩ : ByteArray).extract 1 (r.length + 1) = ⟨r.toArray⟩ := ext_drop (q :: r) 1
    have hext2 : (⟨(q :: r).toArray⟩ : ByteArray).extract 0 1 = ⟨[q].toArray⟩ := ext_take (q :: r) 1
    have hi : ∀ (h : 0 < (⟨(q :: r).toArray⟩ : ByteArray).size), (⟨(q :: r).toArray⟩ : ByteArray)[0]'h = q := fun _ => rfl
    clear hct hE
    go_enter Tryz.func88, Tryz.ntmps88
    rcases hq with rfl | rfl
    all_goals
      go_wp2_with fail
      go_quiet ((go_at_call 41; exact Calls.quiet_of (HCT.out _ (HE.out.below (below_drewN (Below.refl _ _) _)))))
      go_wp2_with fail
      refine (decode_calls (cutB [_] r).1 _ (HE.out.below (below_drewN (Below.refl _ _) _)) (by omega)).mono ?_
      rintro e w1 ⟨rfl, hb1⟩
      have HB1 := Lib.hid hb1; clear hb1
      go_wp2_with fail
      go_ret2
      exact ⟨rfl, below_next (below_drewN (Below.refl _ _) _) HB1.out⟩
  · have hv : value s = (dec (till [32, 9, 10, 12, 13, 62].contains s).1, (till [32, 9, 10, 12, 13, 62].contains s).2) := by
      rw [till_congr white62 s]
      cases s with
      | nil => rfl
      | cons q r => unfold value; simp only [if_neg (fun h => hq ⟨q, r, rfl, h⟩)]
    rw [hv]; clear hv
    have hlen := till_len [32, 9, 10, 12, 13, 62].contains s
    have HU := Lib.hid (fun w => until_calls s [32, 9, 10, 12, 13, 62] w (by omega))
    have HDC := Lib.hid (fun w hE => decode_calls (till [32, 9, 10, 12, 13, 62].contains s).1 w hE (by omega))
    have hrest : ∀ {K : Prop}, K → K := fun h => h
    clear hE hlen hrest
    cases s with
    | nil =>
      clear hq
      go_enter Tryz.func88, Tryz.ntmps88
      go_wp2_with fail
      refine (HU.out _).mono ?_
      rintro e w1 ⟨rfl, hb1⟩
      have HB1 := Lib.hid hb1; clear hb1
      go_wp2_with fail
      refine (HDC.out _ (HE.out.below HB1.out)).mono ?_
      rintro e w2 ⟨rfl, hb2⟩
      have HB2 := Lib.hid hb2; clear hb2
      go_wp2_with fail
      go_ret2
      exact ⟨rfl, below_next HB1.out HB2.out⟩
    | cons q r =>
      have h34 : ((q.toNat : Int) == 34) = false := by rw [beq_eq_false_iff_ne]; intro e; exact hq ⟨q, r, rfl, .inl (UInt8.toNat_inj.1 (by show q.toNat = 34; omega))⟩
      have h39 : ((q.toNat : Int) == 39) = false := by rw [beq_eq_false_iff_ne]; intro e; exact hq ⟨q, r, rfl, .inr (UInt8.toNat_inj.1 (by show q.toNat = 39; omega))⟩
      have hi : ∀ (h : 0 < (⟨(q :: r).toArray⟩ : ByteArray).size), (⟨(q :: r).toArray⟩ : ByteArray)[0]'h = q := fun _ => rfl
      generalize till [32, 9, 10, 12, 13, 62].contains (q :: r) = tl at *
      clear hq
      go_enter Tryz.func88, Tryz.ntmps88
      go_wp2_with fail
      refine (HU.out _).mono ?_
      rintro e w1 ⟨rfl, hb1⟩
      have HB1 := Lib.hid hb1; clear hb1
      go_wp2_with fail
      refine (HDC.out _ (HE.out.below HB1.out)).mono ?_
      rintro e w2 ⟨rfl, hb2⟩
      have HB2 := Lib.hid hb2; clear hb2
      go_wp2_with fail
      go_ret2
      exact ⟨rfl, below_next HB1.out HB2.out⟩
end Go.Proofs.YtjlgbkedbbailaaGreatDoor.Mu
namespace Go.Proofs
open Go.Shelf
def Tryz.laysSlHAttr_ren : Go.Shelf.Ren := ⟨fun | 8 => 89 | 6 => 115 | n => n, fun | 22 => 30 | 23 => 35 | 25 => 121 | 4 => 4 | 3 => 3 | 0 => 0 | n => n, fun | n => n⟩
theorem Tryz.laysSlHAttr : Go.Proofs.SlLaysH0.n8 Tryz.prog Tryz.laysSlHAttr_ren := {
  mixed := by kernel_rfl
  f6 := ⟨Tryz.f115.name, by decide, Tryz.func115.trans (congrArg some (by kernel_rfl))⟩
  f8 := ⟨Tryz.f89.name, by decide, Tryz.func89.trans (congrArg some (by kernel_rfl))⟩
  t0 := Tryz.underlying0
  a0 := Tryz.isAgg0
  z0 := Tryz.sizeOf0
  v0 := Tryz.zeroValue0
  t3 := Tryz.underlying3
  a3 := Tryz.isAgg3
  z3 := Tryz.sizeOf3
  v3 := Tryz.zeroValue3
  t4 := Tryz.underlying4
  a4 := Tryz.isAgg4
  z4 := Tryz.sizeOf4
  v4 := Tryz.zeroValue4
  t22 := Tryz.underlying30
  a22 := Tryz.isAgg30
  z22 := Tryz.sizeOf30
  v22 := Tryz.zeroValue30
  t25 := Tryz.underlying121
  a25 := Tryz.isAgg121
  z25 := Tryz.sizeOf121
  v25 := Tryz.zeroValue121 }
open Go.RowKit Go.Lib in
theorem Tryz.attr_ContainsFunc {α : Type} [Inhabited α] (k : Nat) (aE : ∀ w, (isAgg 35).run Tryz.prog w = .ok true w) (zE : ∀ w, (Go.sizeOf 35).run Tryz.prog w = .ok k w) (enc : α → List Value) (hk : ∀ x, (enc x).length = k) (p : α → Bool) (g : Nat) (lb : Array Value) (eg : ∀ args w, (callFunc g args).run Tryz.prog w = .ok (.enter g args) w) (b off n c : Nat) (zs : List α) (w : World) (hp : PredBelow Tryz.prog g lb (fun x => .agg (enc x).toArray) p w) (hz : n ≤ zs.length) (hbig : n ≤ 9223372036854775807) (hb : b < w.heap.size) (hc : ∀ j, j < zs.length → ∀ i v, (enc zs[j]!)[i]? = some v → w.cell? ⟨b, off + j * k + i, none⟩ = some v) :
    Calls Tryz.prog 89 #[.slice (some ⟨b, off, none⟩) n c, .func (.func g) #[] lb] w fun e w' => e = .returned (.bool ((zs.take n).any p)) ∧ Below w.heap.size w w' := AnyQ.slices_ContainsFunc Tryz.laysSlHAttr k aE zE enc hk p g lb eg b off n c zs w hp hz hbig hb hc
end Go.Proofs
namespace Go.Proofs.YtjlgbkedbbailaaGreatDoor.Mu
open Go.RowKit Go.Proofs.YtjlgbkedbbailaaGreatDoor.Pr Go.Proofs.YtjlgbkedbbailaaGreatDoorW.PrintWords Go.Proofs.YtjlgbkedbbailaaGreatDoorW.PrintLast Go.Proofs.YtjlgbkedbbailaaGreatDoorW.PrintMore
instance : Inhabited Attr := ⟨⟨[], []⟩⟩
def attrS (a : Attr) : S35 := ⟨⟨a.name.toArray⟩, ⟨a.value.toArray⟩⟩
def attrCells (a : Attr) : List Value := [.string ⟨a.name.toArray⟩, .string ⟨a.value.toArray⟩]
/-- A row of attributes of the call's own. -/
def AttrsIs (w : World) (B : Nat) (v : Value) (l : List Attr) : Prop := k35.R 35 w B (fun _ => True) v (l.map attrS)
set_option maxHeartbeats 1000000 in
theorem sameName_calls (a x : Attr) (B : Nat) (W : World) (hc : W.cell? ⟨B, 0, none⟩ = some (.string ⟨a.name.toArray⟩)) :
    Calls Tryz.prog 90 (#[.agg (attrCells x).toArray] ++ #[.pointer (some ⟨B, 0, none⟩)]) W fun e w' => e = .returned (.bool (x.name == a.name)) ∧ Below W.heap.size W w' := by
  have hne : B < W.heap.size := World.block_lt_of_cell? W _ hc
  show Calls Tryz.prog 90 #[.agg #[.string ⟨x.name.toArray⟩, .string ⟨x.value.toArray⟩], .pointer (some ⟨B, 0, none⟩)] W _
  go_enter Tryz.func90, Tryz.ntmps90
  go_wp2_with fail
  go_ret

  exact ⟨rfl, (Below.refl _ _).alloc (Nat.le_refl _) _⟩
theorem attr_pred (a : Attr) (B : Nat) (w : World) (hc : w.cell? ⟨B, 0, none⟩ = some (.string ⟨a.name.toArray⟩)) :
    PredBelow Tryz.prog 90 #[.pointer (some ⟨B, 0, none⟩)] (fun x => .agg (attrCells x).toArray) (fun x => x.name == a.name) w := fun W x hb => by
  have hB : B < w.heap.size := World.block_lt_of_cell? w _ hc
  have hc' : W.cell? ⟨B, 0, none⟩ = some (.string ⟨a.name.toArray⟩) := (hb.cell (p := ⟨B, 0, none⟩) hB).trans hc
  refine (sameName_calls a x B W hc').mono ?_
  rintro e w' ⟨rfl, h⟩
  exact ⟨rfl, below_next hb h⟩
theorem indexNil_calls (c : Nat) (f : Value) (w : World) : Calls Tryz.prog 115 #[.slice none 0 c, f] w fun e w' => e = .returned (.int .i64 (-1)) ∧ w' = w := by
  go_enter Tryz.func115, Tryz.ntmps115
  go_wp2_with fail
  go_loop [8] (fun p => p = .int .i64 0) (fun _ => 1)
  case atStart => rfl
  case round =>
    subst hrel
    go_wp2_with fail
    go_ret
    exact ⟨rfl, rfl⟩
theorem containsNil_calls (c : Nat) (f : Value) (w : World) : Calls Tryz.prog 89 #[.slice none 0 c, f] w fun e w' => e = .returned (.bool false) ∧ w' = w := by
  go_enter Tryz.func89, Tryz.ntmps89
  go_wp2_with fail
  refine (indexNil_calls c f w).mono ?_
  rintro e w1 ⟨rfl, rfl⟩
  go_wp2_with fail
  go_ret
  exact ⟨rfl, rfl⟩
theorem contains_calls (a : Attr) (l : List Attr) (v : Value) (B base : Nat) (ok : Nat → Prop) (w : World) (hR : k35.R 35 w base ok v (l.map attrS)) (hc : w.cell? ⟨B, 0, none⟩ = some (.string ⟨a.name.toArray⟩)) (hl : l.length ≤ 1073741824) :
    Calls Tryz.prog 89 #[v, .func (.func 90) #[] #[.pointer (some ⟨B, 0, none⟩)]] w fun e w' => e = .returned (.bool (l.any (fun x => x.name == a.name))) ∧ Below w.heap.size w w' := by
  by_cases h0 : l = [] ∧ v = .slice none 0 0
  · obtain ⟨rfl, rfl⟩ := h0
    refine (containsNil_calls 0 _ w).mono ?_
    rintro e w' ⟨rfl, rfl⟩
    exact ⟨rfl, Below.refl _ _⟩
  · obtain ⟨A, c, rfl, hlc, hC⟩ := Kd.R_reads hR
    rw [List.length_map] at hC hlc h0 ⊢
    have hA : ∃ g o, A = some ⟨g, o, none⟩ := by
      obtain ⟨_, inner, ⟨_, ho⟩, _⟩ := hR
      rcases ho with ⟨he, hn⟩ | ⟨g, cap, cur, he, _⟩
      · exact absurd ⟨by simpa using hn, by simpa using he⟩ h0
      · injection he with e1; exact ⟨g, 0, e1⟩
    obtain ⟨g, o, rfl⟩ := hA
    have eg : ∀ args w, (callFunc 90 args).run Tryz.prog w = .ok (.enter 90 args) w := enters_of Tryz.func90 (by kernel_rfl) rfl
    have := Tryz.attr_ContainsFunc 2 Tryz.isAgg35 Tryz.sizeOf35 attrCells (fun _ => rfl) (fun x => x.name == a.name) 90 #[.pointer (some ⟨B, 0, none⟩)] eg g o l.length c l w (attr_pred a B w hc) (Nat.le_refl _) (by omega) (Kd.R_lt hR g rfl) (fun j hj i u hu => by
      obtain ⟨_, _, h3⟩ := hC
      obtain ⟨ad, had, hcell⟩ := h3 (by omega)
      injection had with had; subst had
      obtain ⟨cs, _, hK, hcs⟩ := hcell j (attrS l[j]) (by simp [hj])
      have := k35_open hK; subst this
      rw [getElem!_pos l j hj] at hu
      have := hcs i u hu
      have e2 : (⟨g, o, none⟩ : Addr).add (j * 2 + i) = ⟨g, o + j * 2 + i, none⟩ := by
        unfold Addr.add
        split
        · next h => rw [Nat.add_assoc, h]; rfl
        · simp [Nat.add_assoc]
      rw [← e2]; exact this)
    rw [List.take_length] at this
    exact this
end Go.Proofs.YtjlgbkedbbailaaGreatDoor.Mu
namespace Go.Proofs.YtjlgbkedbbailaaGreatDoor.Mu
open Go.RowKit Go.Proofs.YtjlgbkedbbailaaGreatDoor.Pr Go.Proofs.YtjlgbkedbbailaaGreatDoorW.PrintWords Go.Proofs.YtjlgbkedbbailaaGreatDoorW.PrintLast Go.Proofs.YtjlgbkedbbailaaGreatDoorW.PrintMore
def attrsL (s : Bs) : List Attr := match attrs s with | some q => q.1 | none => []
def attrsQ (s : Bs) : Bs := match attrs s with | some q => q.2 | none => []
theorem trimS (s cs : Bs) : Lib.trimLeftS s cs = s.dropWhile cs.contains := rfl
theorem white_slash (c : UInt8) : List.contains [32, 9, 10, 12, 13, 47] c = (white c || c == 47) := by
  simp only [List.contains_cons, List.contains_nil, Bool.or_false, white, Bool.or_assoc]
theorem white_five (c : UInt8) : List.contains [32, 9, 10, 12, 13] c = white c := by
  simp only [List.contains_cons, List.contains_nil, Bool.or_false, white, Bool.or_assoc]
theorem white_eight (c : UInt8) : List.contains [32, 9, 10, 12, 13, 47, 62, 61] c = (white c || c == 47 || c == 62 || c == 61) := by
  simp only [List.contains_cons, List.contains_nil, Bool.or_false, white, Bool.or_assoc]
theorem trim6 (s : Bs) : Lib.trimLeftS s [32, 9, 10, 12, 13, 47] = s.dropWhile (fun c => white c || c == 47) := by
  rw [trimS]; congr 1; funext c; exact white_slash c
theorem trim5 (s : Bs) : Lib.trimLeftS s [32, 9, 10, 12, 13] = s.dropWhile white := by
  rw [trimS]; congr 1; funext c; exact white_five c
theorem attr1_yes (c : UInt8) (r n rest b : Bs) (h : till [32, 9, 10, 12, 13, 47, 62, 61].contains r = (n, rest)) (hb : rest.dropWhile white = 61 :: b) :
    attr1 c r = (⟨small (c :: n), (value (b.dropWhile white)).1⟩, (value (b.dropWhile white)).2) := by
  unfold attr1
  rw [till_congr white_eight r] at h
  simp only [h, hb]
theorem attr1_no (c : UInt8) (r n rest : Bs) (h : till [32, 9, 10, 12, 13, 47, 62, 61].contains r = (n, rest)) (hb : ∀ b, rest.dropWhile white ≠ 61 :: b) :
    attr1 c r = (⟨small (c :: n), []⟩, rest) := by
  unfold attr1
  rw [till_congr white_eight r] at h
  simp only [h]
theorem info_attr : (Tryz.prog.info? 35).map (fun i => (i.zero, i.size, i.bytes)) = some (some (.agg #[(.string ⟨#[]⟩), (.string ⟨#[]⟩)]), 2, 32) := by kernel_rfl
theorem addAttr_full {acc : List Attr} (h : 30 ≤ acc.length) (a : Attr) : addAttr acc a = acc := by
  unfold addAttr; rw [if_neg (fun h' => by omega)]
theorem addAttr_there {acc : List Attr} {n : Bs} (h : acc.any (fun b => b.name == n) = true) (V : Bs) : addAttr acc ⟨n, V⟩ = acc := by
  unfold addAttr
  rw [if_neg (fun h' => by
    obtain ⟨b, hbm, hbe⟩ := List.any_eq_true.1 h
    have := List.all_eq_true.1 h'.2 b hbm
    simp only [Bool.not_eq_true'] at this
    rw [this] at hbe; cases hbe)]
theorem addAttr_new {acc : List Attr} {n : Bs} (hl : acc.length < 30) (h : acc.any (fun b => b.name == n) = false) (V : Bs) : addAttr acc ⟨n, V⟩ = acc ++ [⟨n, V⟩] := by
  unfold addAttr
  rw [if_pos]
  exact ⟨hl, List.all_eq_true.2 fun b hb => by
    have := List.any_eq_false.1 h b hb
    simpa using this⟩
/-- A block of two cells. -/
def Box2 (w : World) (b t : Nat) (x y : Value) : Prop := w.heap[b]? = some (.cells #[x, y] t (0, 0))
theorem Box2.c0 {w : World} {b t : Nat} {x y : Value} (h : Box2 w b t x y) : w.cell? ⟨b, 0, none⟩ = some x := by
  unfold Box2 at h; simp [World.cell?, h]
theorem Box2.c1 {w : World} {b t : Nat} {x y : Value} (h : Box2 w b t x y) : w.cell? ⟨b, 1, none⟩ = some y := by
  unfold Box2 at h; simp [World.cell?, h]
theorem Box2.f {w : World} {b t : Nat} {x y : Value} (h : Box2 w b t x y) (j : Nat) : w.frozen? ⟨b, j, none⟩ = false := by
  unfold Box2 at h; simp [World.frozen?, h]
theorem Box2.lt {w : World} {b t : Nat} {x y : Value} (h : Box2 w b t x y) : b < w.heap.size := (Array.getElem?_eq_some_iff.1 h).1
theorem Box2.below {w w' : World} {b t B : Nat} {x y : Value} (h : Box2 w b t x y) (hb : Below B w w') (hB : b < B) : Box2 w' b t x y := (hb.block b hB).trans h
theorem Box2.next {w w' : World} {b t : Nat} {x y : Value} (h : Box2 w b t x y) (hb : Below w.heap.size w w') : Box2 w' b t x y := h.below hb h.lt
theorem Box2.new (w : World) (t : Nat) (x y : Value) : Box2 (w.alloc (.cells #[x, y] t)) w.heap.size t x y := by
  show (w.heap.push _)[w.heap.size]? = _
  simp
theorem Box2.set0 {w : World} {b t : Nat} {x y : Value} (h : Box2 w b t x y) (u : Value) : Box2 (w.setCell ⟨b, 0, none⟩ u) b t u y := by
  unfold Box2 at *
  unfold World.setCell
  rw [Array.getElem?_modify]; simp [h]
theorem Box2.set1 {w : World} {b t : Nat} {x y : Value} (h : Box2 w b t x y) (u : Value) : Box2 (w.setCell ⟨b, 1, none⟩ u) b t x u := by
  unfold Box2 at *
  unfold World.setCell
  rw [Array.getElem?_modify]; simp [h]
structure AttrsRel (s rest : Bs) (acc : List Attr) : Prop where
  eq : attrsF (rest.length + 1) acc rest = attrs s
  len : rest.length ≤ s.length
  few : acc.length ≤ 30
theorem AttrsRel.start (s : Bs) : AttrsRel s s [] := ⟨rfl, Nat.le_refl _, by simp⟩
theorem AttrsRel.fin {s rest : Bs} {acc : List Attr} (h : AttrsRel s rest acc) (hd : rest.dropWhile (fun c => white c || c == 47) = []) : attrs s = none := by
  rw [← h.eq]; unfold attrsF; rw [hd]
theorem AttrsRel.stop {s rest r : Bs} {acc : List Attr} (h : AttrsRel s rest acc) (hd : rest.dropWhile (fun c => white c || c == 47) = 62 :: r) : attrs s = some (acc, r) := by
  rw [← h.eq]; unfold attrsF; rw [hd]; rfl
theorem addAttr_len (l : List Attr) (a : Attr) (h : l.length ≤ 30) : (addAttr l a).length ≤ 30 := by
  unfold addAttr; split
  · next hh => simp; omega
  · exact h
theorem AttrsRel.step {s rest r : Bs} {c : UInt8} {acc : List Attr} (h : AttrsRel s rest acc) (hd : rest.dropWhile (fun c => white c || c == 47) = c :: r) (hc : c ≠ 62) :
    AttrsRel s (attr1 c r).2 (addAttr acc (attr1 c r).1) ∧ (attr1 c r).2.length < rest.length := by
  have h1 := attr1_le c r
  have h2 := dropWhile_le (fun c => white c || c == 47) rest
  rw [hd] at h2
  simp only [List.length_cons] at h2
  refine ⟨⟨?_, ?_, addAttr_len _ _ h.few⟩, by omega⟩
  · rw [← h.eq]
    conv => rhs; unfold attrsF
    rw [hd]
    simp only [if_neg hc]
    exact attrsF_more _ _ _ (by omega) _ (by omega)
  · have := h.len; omega
set_option maxHeartbeats 4000000 in
theorem attrs_calls (s : Bs) (w : World) (hE : Env w) (hs : s.length ≤ 1073741824) :
    Calls Tryz.prog 68 #[.string ⟨s.toArray⟩] w fun e w' => (∃ v, e = .returned (.tuple #[v, .string ⟨(attrsQ s).toArray⟩, .bool (attrs s).isSome]) ∧ AttrsIs w' w.heap.size v (attrsL s)) ∧ Below w.heap.size w w' := by
  have HE := Lib.hid hE; clear hE
  have HR0 := Lib.hid (AttrsRel.start s)
  go_enter Tryz.func68, Tryz.ntmps68
  go_wp2_with fail
  go_loopg [0, 5] s.length (fun n p lv wr => ∃ (rest : Bs) (acc : List Attr), n = rest.length ∧ p = .string ⟨rest.toArray⟩ ∧ AttrsRel s rest acc ∧ AttrsIs wr w.heap.size lv acc ∧ Below w.heap.size w wr)
  case atStart => exact ⟨s, [], rfl, rfl, HR0.out, Kd.R_nil _ _ _ _ _, Below.refl _ _⟩
  case round =>
    obtain ⟨rest, acc, hn, rfl, hr, hA, hb⟩ := hrel
    obtain ⟨A, cp, rfl, hcap, _⟩ := Kd.R_reads hA
    rw [List.length_map] at hcap hA ⊢
    have hlen := hr.len
    have HR := Lib.hid hr
    have HN := Lib.hid hn
    have HA := Lib.hid hA
    have HB := Lib.hid hb
    clear hr hn hA hb
    have HT := Lib.hid (fun w => trimLeft_calls rest [32, 9, 10, 12, 13, 47] w (by decide) (by decide))
    rw [trim6] at HT
    cases hd : rest.dropWhile (fun c => white c || c == 47) with
    | nil =>
      have hf := HR.out.fin hd
      rw [hd] at HT
      have HF := Lib.hid hf
      clear hf hd
      go_wp2_with fail
      refine (HT.out _).mono ?_
      rintro e w1 ⟨rfl, hb1⟩
      have HB1 := Lib.hid hb1; clear hb1
      go_wp2_with fail
      go_ret3
      have hF := HF.out
      refine ⟨⟨.slice none 0 0, ?_, ?_⟩, below_next HB.out HB1.out⟩
      · unfold attrsQ; rw [hF]; rfl
      · unfold attrsL; rw [hF]; exact Kd.R_nil _ _ _ _ _
    | cons c r =>
      rw [hd] at HT
      have hcr : r.length + 1 ≤ rest.length := by have := dropWhile_le (fun c => white c || c == 47) rest; rw [hd] at this; exact this
      by_cases hc : c = 62
      · subst hc
        have hf := HR.out.stop hd
        have HF := Lib.hid hf
        clear hf hd
        have hext : (⟨((62 : UInt8) :: r).toArray⟩ : ByteArray).extract 1 (r.length + 1) = ⟨r.toArray⟩ := ext_drop (62 :: r) 1
        have hext2 : (⟨((62 : UInt8) :: r).toArray⟩ : ByteArray).extract 0 1 = ⟨[62].toArray⟩ := ext_take (62 :: r) 1
        go_wp2_with fail
        refine (HT.out _).mono ?_
        rintro e w1 ⟨rfl, hb1⟩
        have HB1 := Lib.hid hb1; clear hb1
        go_wp2_with fail
        go_quiet (fail)
        go_wp2_with fail
        go_ret3
        have hF := HF.out
        refine ⟨⟨.slice A acc.length cp, ?_, ?_⟩, below_next HB.out (below_drewN HB1.out _)⟩
        · unfold attrsQ; rw [hF]; rfl
        · unfold attrsL; rw [hF]; exact Kd.R_drewN (Kd.R_below HA.out HB1.out) _
      · have hst := HR.out.step hd hc
        obtain ⟨n1, rest1, htl⟩ : ∃ n1 rest1, till [32, 9, 10, 12, 13, 47, 62, 61].contains r = (n1, rest1) := ⟨_, _, rfl⟩
        have HU := Lib.hid (fun w => until_calls r [32, 9, 10, 12, 13, 47, 62, 61] w (by omega))
        have htlen := till_len [32, 9, 10, 12, 13, 47, 62, 61].contains r
        rw [htl] at HU htlen
        have HTL := Lib.hid htl
        have HST := Lib.hid hst
        have hout : 30 ≤ acc.length ∨ (acc.length < 30 ∧ ∃ b, acc.any (fun b => b.name == small (c :: n1)) = b) := by
          by_cases h : 30 ≤ acc.length
          · exact .inl h
          · exact .inr ⟨by omega, _, rfl⟩
        have hext : (⟨(c :: r).toArray⟩ : ByteArray).extract 1 (r.length + 1) = ⟨r.toArray⟩ := ext_drop (c :: r) 1
        have hext2 : (⟨(c :: r).toArray⟩ : ByteArray).extract 0 1 = ⟨[c].toArray⟩ := ext_take (c :: r) 1
        have h62 : ([c] == [62]) = false := by simpa using hc
        clear hd hst htl
        dsimp only at htlen
        go_wp2_with fail
        refine (HT.out _).mono ?_
        rintro e w1 ⟨rfl, hb1⟩
        have HB1 := Lib.hid (below_next HB.out hb1)
        have HA1 := Lib.hid (Kd.R_below HA.out hb1)
        clear hb1 HA HB
        go_wp2_with fail
        refine (HU.out _).mono ?_
        rintro e w2 ⟨rfl, hb2⟩
        have HB2 := Lib.hid (below_next HB1.out hb2)
        have HA2 := Lib.hid (Kd.R_below HA1.out hb2)
        clear hb2 HA1 HB1
        go_wp2_with fail
        have hsm := small_calls ⟨(c :: n1).toArray⟩ w2 (by show (c :: n1).length ≤ _; simp only [List.length_cons]; omega)
        have HS := Lib.hid hsm; clear hsm
        dsimp only at HS
        refine HS.out.mono ?_
        rintro e w3 ⟨rfl, hb3⟩
        have HB3 := Lib.hid (below_next HB2.out hb3)
        have HA3 := Lib.hid (Kd.R_below HA2.out hb3)
        clear hb3 HA2 HB2
        go_wp2_with fail
        have hB4 := below_alloc HB3.out (.cells #[.string ⟨(small (c :: n1)).toArray⟩, .string ⟨#[]⟩] 35)
        have hbase : w.heap.size ≤ w3.heap.size := HB3.out.size
        have HA4 := Lib.hid (Kd.R_alloc (Kd.R_elderB HA3.out _ (Nat.le_refl _)) (.cells #[.string ⟨(small (c :: n1)).toArray⟩, .string ⟨#[]⟩] 35))
        have HBX := Lib.hid (Box2.new w3 35 (.string ⟨(small (c :: n1)).toArray⟩) (.string ⟨#[]⟩))
        have HB4 := Lib.hid hB4
        clear hB4 HS HU HT HA3 HB3
        generalize w3.alloc (.cells #[.string ⟨(small (c :: n1)).toArray⟩, .string ⟨#[]⟩] 35) = w4 at *
        generalize w3.heap.size = bx at *
        have HT := Lib.hid (fun w => trimLeft_calls rest1 [32, 9, 10, 12, 13] w (by decide) (by decide))
        rw [trim5] at HT
        refine (HT.out _).mono ?_
        rintro e w5 ⟨rfl, hb5⟩
        have HB5 := Lib.hid (below_next HB4.out hb5)
        have HA5 := Lib.hid (Kd.R_below HA4.out hb5)
        have HBX5 := Lib.hid (HBX.out.next hb5)
        clear hb5 HA4 HB4 HBX
        go_wp2_with fail
        by_cases hq : ∃ b1, rest1.dropWhile white = 61 :: b1
        · obtain ⟨b1, hb1⟩ := hq
          have hl1 := dropWhile_le white rest1
          have hl2 := dropWhile_le white b1
          have ha1 := attr1_yes c r n1 rest1 b1 HTL.out hb1
          obtain ⟨V, Q, hVQ⟩ : ∃ V Q, value (b1.dropWhile white) = (V, Q) := ⟨_, _, rfl⟩
          have HVC := Lib.hid (fun w hE => value_calls (b1.dropWhile white) w hE (by rw [hb1] at hl1; simp only [List.length_cons] at hl1; omega))
          rw [ha1, hVQ] at HST
          rw [hVQ] at HVC
          rw [hb1] at hl1 ⊢
          simp only [List.length_cons] at hl1
          clear hb1 ha1 HTL hVQ
          dsimp only at HST HVC
          refine (cutPrefix_yes [61] b1 w5).mono ?_
          rintro e w6 ⟨rfl, rfl⟩
          go_wp2_with fail
          have HT := Lib.hid (fun w => trimLeft_calls b1 [32, 9, 10, 12, 13] w (by decide) (by decide))
          rw [trim5] at HT
          refine (HT.out _).mono ?_
          rintro e w6 ⟨rfl, hb6⟩
          have HB6 := Lib.hid (below_next HB5.out hb6)
          have HA6 := Lib.hid (Kd.R_below HA5.out hb6)
          have HBX6 := Lib.hid (HBX5.out.next hb6)
          clear hb6 HA5 HB5 HBX5
          go_wp2_with fail
          refine (HVC.out w6 (HE.out.below HB6.out)).mono ?_
          rintro e w7 ⟨rfl, hb7⟩
          have HB7 := Lib.hid (below_next HB6.out hb7)
          have HA7 := Lib.hid (Kd.R_below HA6.out hb7)
          have HBX7 := Lib.hid (HBX6.out.next hb7)
          clear hb7 HA6 HB6 HBX6 HT HVC
          have hfr := HBX7.out.f 1
          have hc1 := HBX7.out.c1
          obtain ⟨wS, hws⟩ : ∃ wS, w7.setCell ⟨bx, 1, none⟩ (.string ⟨V.toArray⟩) = wS := ⟨_, rfl⟩
          have HBS := Lib.hid (below_set (j := 1) (v := .string ⟨V.toArray⟩) HB7.out hbase)
          have HAS := Lib.hid (Kd.R_far (p := ⟨bx, 1, none⟩) HA7.out (fun k hk => hk.2) (.string ⟨V.toArray⟩))
          have HBXS := Lib.hid (HBX7.out.set1 (.string ⟨V.toArray⟩))
          rw [hws] at HBS HAS HBXS
          clear HB7 HA7 HBX7
          rcases hout with h30 | ⟨h30, bb, hany⟩
          · rw [addAttr_full h30] at HST
            go_wp2_with fail
            go_roundg Q.length
            case measure => have h1 := HST.out.2; have h2 := HN.out; show Q.length < gk; rw [h2]; exact h1
            case rel => exact ⟨Q, acc, rfl, rfl, HST.out.1, Kd.R_mono HAS.out (fun _ _ => trivial), HBS.out⟩
          · have HCN := Lib.hid (contains_calls ⟨small (c :: n1), V⟩ acc _ bx w.heap.size _ wS HAS.out HBXS.out.c0 (by omega))
            dsimp only at HCN
            rw [hany] at HCN
            cases bb with
            | true =>
              rw [addAttr_there hany] at HST
              clear hany
              go_wp2_with fail
              refine HCN.out.mono ?_
              rintro e w8 ⟨rfl, hb8⟩
              have HB8 := Lib.hid (below_next HBS.out hb8)
              have HA8 := Lib.hid (Kd.R_below HAS.out hb8)
              clear hb8
              go_wp2_with fail
              go_roundg Q.length
              case measure => have h1 := HST.out.2; have h2 := HN.out; show Q.length < gk; rw [h2]; exact h1
              case rel => exact ⟨Q, acc, rfl, rfl, HST.out.1, Kd.R_mono HA8.out (fun _ _ => trivial), HB8.out⟩
            | false =>
              rw [addAttr_new h30 hany] at HST
              clear hany
              go_wp2_with fail
              refine HCN.out.mono ?_
              rintro e w8 ⟨rfl, hb8⟩
              have HB8 := Lib.hid (below_next HBS.out hb8)
              have HA8 := Lib.hid (Kd.R_below HAS.out hb8)
              have hc0 := (HBXS.out.next hb8).c0
              have hc1 := (HBXS.out.next hb8).c1
              have hbx8 := (HBXS.out.next hb8).lt
              clear hb8
              go_wp2_with (at_builtin; refine Kd.R_append k35 (w0 := w) w.heap.size rfl (.tmp 57) (.tmp 59) 30 35 (.agg #[(.string ⟨#[]⟩), (.string ⟨#[]⟩)]) 32 rfl Tryz.underlying30 info_attr rfl (by decide) (by decide) (.slice A acc.length cp) (acc.map attrS) (attrS ⟨small (c :: n1), V⟩) [.string ⟨(small (c :: n1)).toArray⟩, .string ⟨V.toArray⟩] (fun k => True ∧ k ≠ bx) (fun _ => False) rfl rfl ?aP (fun _ hk => hk.elim) ?aF ?aO ?aB ?aS ?aL ?_)
              case aP => exact k35_mkM _ _ _ (attrS ⟨small (c :: n1), V⟩)
              case aF => exact fun k hk => ⟨trivial, fun h => by omega⟩
              case aO => exact HA8.out
              case aB => exact HB8.out
              case aS => exact HB8.out.size
              case aL => rw [List.length_map]; omega
              rintro v1 w9 hR9 hB9 - -
              obtain ⟨A9, c9, rfl, hc9, _⟩ := Kd.R_reads hR9
              have HR9 := Lib.hid hR9
              have HB9 := Lib.hid hB9
              clear hR9 hB9
              go_wp2_with fail
              go_roundg Q.length
              case measure => have h1 := HST.out.2; have h2 := HN.out; show Q.length < gk; rw [h2]; exact h1
              case rel => exact ⟨Q, acc ++ [⟨small (c :: n1), V⟩], rfl, rfl, HST.out.1, by
                unfold AttrsIs
                rw [List.map_append]
                exact Kd.R_mono HR9.out (fun _ _ => trivial), HB9.out⟩
        · have hq' : ∀ b1, rest1.dropWhile white ≠ 61 :: b1 := fun b1 h => hq ⟨b1, h⟩
          have ha1 := attr1_no c r n1 rest1 HTL.out hq'
          have hnp : [61].isPrefixOf (rest1.dropWhile white) = false := by
            cases hdw : rest1.dropWhile white with
            | nil => rfl
            | cons x y =>
              have : (61 : UInt8) ≠ x := fun h => hq' y (by rw [hdw, h])
              simp [List.isPrefixOf, this]
          rw [ha1] at HST
          dsimp only at HST
          clear ha1 HTL hq' hq
          refine (cutPrefix_no _ [61] hnp w5).mono ?_
          rintro e w6 ⟨rfl, rfl⟩
          rcases hout with h30 | ⟨h30, bb, hany⟩
          · rw [addAttr_full h30] at HST
            go_wp2_with fail
            go_roundg rest1.length
            case measure => have h1 := HST.out.2; have h2 := HN.out; show rest1.length < gk; rw [h2]; exact h1
            case rel => exact ⟨rest1, acc, rfl, rfl, HST.out.1, Kd.R_mono HA5.out (fun _ _ => trivial), HB5.out⟩
          · have HCN := Lib.hid (contains_calls ⟨small (c :: n1), []⟩ acc _ bx w.heap.size _ w5 HA5.out HBX5.out.c0 (by omega))
            dsimp only at HCN
            rw [hany] at HCN
            cases bb with
            | true =>
              rw [addAttr_there hany] at HST
              clear hany
              go_wp2_with fail
              refine HCN.out.mono ?_
              rintro e w8 ⟨rfl, hb8⟩
              have HB8 := Lib.hid (below_next HB5.out hb8)
              have HA8 := Lib.hid (Kd.R_below HA5.out hb8)
              clear hb8
              go_wp2_with fail
              go_roundg rest1.length
              case measure => have h1 := HST.out.2; have h2 := HN.out; show rest1.length < gk; rw [h2]; exact h1
              case rel => exact ⟨rest1, acc, rfl, rfl, HST.out.1, Kd.R_mono HA8.out (fun _ _ => trivial), HB8.out⟩
            | false =>
              rw [addAttr_new h30 hany] at HST
              clear hany
              go_wp2_with fail
              refine HCN.out.mono ?_
              rintro e w8 ⟨rfl, hb8⟩
              have HB8 := Lib.hid (below_next HB5.out hb8)
              have HA8 := Lib.hid (Kd.R_below HA5.out hb8)
              have hc0 := (HBX5.out.next hb8).c0
              have hc1 := (HBX5.out.next hb8).c1
              have hbx8 := (HBX5.out.next hb8).lt
              clear hb8
              go_wp2_with (at_builtin; refine Kd.R_append k35 (w0 := w) w.heap.size rfl (.tmp 57) (.tmp 59) 30 35 (.agg #[(.string ⟨#[]⟩), (.string ⟨#[]⟩)]) 32 rfl Tryz.underlying30 info_attr rfl (by decide) (by decide) (.slice A acc.length cp) (acc.map attrS) (attrS ⟨small (c :: n1), []⟩) [.string ⟨(small (c :: n1)).toArray⟩, .string ⟨#[]⟩] (fun k => True ∧ k ≠ bx) (fun _ => False) rfl rfl ?aP (fun _ hk => hk.elim) ?aF ?aO ?aB ?aS ?aL ?_)
              case aP => exact k35_mkM _ _ _ (attrS ⟨small (c :: n1), []⟩)
              case aF => exact fun k hk => ⟨trivial, fun h => by omega⟩
              case aO => exact HA8.out
              case aB => exact HB8.out
              case aS => exact HB8.out.size
              case aL => rw [List.length_map]; omega
              rintro v1 w9 hR9 hB9 - -
              obtain ⟨A9, c9, rfl, hc9, _⟩ := Kd.R_reads hR9
              have HR9 := Lib.hid hR9
              have HB9 := Lib.hid hB9
              clear hR9 hB9
              go_wp2_with fail
              go_roundg rest1.length
              case measure => have h1 := HST.out.2; have h2 := HN.out; show rest1.length < gk; rw [h2]; exact h1
              case rel => exact ⟨rest1, acc ++ [⟨small (c :: n1), []⟩], rfl, rfl, HST.out.1, by
                unfold AttrsIs
                rw [List.map_append]
                exact Kd.R_mono HR9.out (fun _ _ => trivial), HB9.out⟩
end Go.Proofs.YtjlgbkedbbailaaGreatDoor.Mu
namespace Go.Proofs.YtjlgbkedbbailaaGreatDoor.Mu
open Go.RowKit Go.Proofs.YtjlgbkedbbailaaGreatDoor.Pr Go.Proofs.YtjlgbkedbbailaaGreatDoorW.PrintWords Go.Proofs.YtjlgbkedbbailaaGreatDoorW.PrintLast Go.Proofs.YtjlgbkedbbailaaGreatDoorW.PrintMore
theorem info_tok : (Tryz.prog.info? 32).map (fun i => (i.zero, i.size, i.bytes)) = some (some (.agg #[(.int .i64 0), (.string ⟨#[]⟩), (.slice none 0 0), (.string ⟨#[]⟩)]), 4, 64) := by kernel_rfl
def tokS (t : Tok) : S32 := ⟨t.kind, ⟨t.name.toArray⟩, t.attrs.map attrS, ⟨t.text.toArray⟩⟩
/-- The tokens' row of the scanner at block g. -/
def TokR (w : World) (B g : Nat) (v : Value) (l : List Tok) : Prop := k32.R 32 w B (fun k => k ≠ g) v (l.map tokS)
/-- The scanner at block g: its rest and its tokens. -/
structure Scn (B g : Nat) (rest : Bs) (l : List Tok) (w w1 : World) : Prop where
  is : ∃ v, Box2 w1 g 40 (.string ⟨rest.toArray⟩) v ∧ TokR w1 B g v l
  below : Below B w w1
  base : B ≤ g
  size : B ≤ w1.heap.size
theorem frz_alloc {W : World} {g j : Nat} (h : W.frozen? ⟨g, j, none⟩ = false) (hl : g < W.heap.size) (o : Obj) : (W.alloc o).drew.frozen? ⟨g, j, none⟩ = false :=
  (World.frozen?_of_block (w := W) (a := ⟨g, j, none⟩) (by show (W.heap.push o)[g]? = W.heap[g]?; rw [Array.getElem?_push_lt hl, Array.getElem?_eq_getElem hl])).trans h
set_option maxRecDepth 20000 in
set_option maxHeartbeats 2000000 in
theorem add_calls (B g : Nat) (rest : Bs) (l : List Tok) (t : Tok) (v va : Value) (w w1 : World) (hb : Below B w w1) (hg : B ≤ g) (hB : B ≤ w1.heap.size) (hbox : Box2 w1 g 40 (.string ⟨rest.toArray⟩) v) (hR : TokR w1 B g v l)
    (hA : k35.R 35 w1 B (fun k => k ≠ g ∧ some k ≠ v.ownBlock) va (t.attrs.map attrS)) (hl : l.length ≤ 1073741824) :
    Calls Tryz.prog 40 #[.pointer (some ⟨g, 0, none⟩), .agg #[.int .i64 t.kind, .string ⟨t.name.toArray⟩, va, .string ⟨t.text.toArray⟩]] w1 fun e w' => e = .returned (.tuple #[]) ∧ Scn B g rest (l ++ [t]) w w' := by
  obtain ⟨A, cp, rfl, hcap, _⟩ := Kd.R_reads hR
  rw [List.length_map] at hcap hR hA hbox
  have HBox := Lib.hid hbox
  have HR := Lib.hid hR
  have HA := Lib.hid hA
  have HB := Lib.hid hb
  have hgl := hbox.lt
  clear hbox hR hA hb
  go_enter Tryz.func40, Tryz.ntmps40
  go_wp2_with fail
  obtain ⟨bx, hbx⟩ : ∃ bx, w1.heap.size = bx := ⟨_, rfl⟩
  obtain ⟨W, hW⟩ : ∃ W, w1.alloc (.cells #[.int .i64 t.kind, .string ⟨t.name.toArray⟩, va, .string ⟨t.text.toArray⟩] 32) = W := ⟨_, rfl⟩
  have hblk : W.heap[bx]? = some (.cells #[.int .i64 t.kind, .string ⟨t.name.toArray⟩, va, .string ⟨t.text.toArray⟩] 32 (0, 0)) := by
    rw [← hW, ← hbx]; show (w1.heap.push _)[w1.heap.size]? = _; simp
  have hbW : Below w1.heap.size w1 W := by rw [← hW]; exact below_alloc (Below.refl _ _) _
  have hsW : W.heap.size = bx + 1 := by rw [← hW, ← hbx]; show (w1.heap.push _).size = _; simp
  rw [hbx, hW]
  have HBox1 := Lib.hid (HBox.out.next hbW)
  have HR1 := Lib.hid (Kd.R_below HR.out hbW)
  have HA1 := Lib.hid (Kd.R_below HA.out hbW)
  have HB1 := Lib.hid (HB.out.trans (hbW.mono hB))
  have HBLK := Lib.hid hblk
  have hnb0 : some bx ≠ (Value.slice A l.length cp).ownBlock := fun e => by have := Kd.R_lt HR.out bx e.symm; omega
  have hgx : g ≠ bx := by omega
  have hsz : B ≤ W.heap.size := by omega
  have HSW := Lib.hid hsW
  clear HBox HR HA HB hbW hblk hW
  clear hsW
  have hg1 := HBox1.out.c1
  have hgf := HBox1.out.f 1
  have hx0 : W.cell? ⟨bx, 0, none⟩ = some (.int .i64 t.kind) := by simp [World.cell?, HBLK.out]
  have hx1 : W.cell? ⟨bx, 1, none⟩ = some (.string ⟨t.name.toArray⟩) := by simp [World.cell?, HBLK.out]
  have hx2 : W.cell? ⟨bx, 2, none⟩ = some va := by simp [World.cell?, HBLK.out]
  have hx3 : W.cell? ⟨bx, 3, none⟩ = some (.string ⟨t.text.toArray⟩) := by simp [World.cell?, HBLK.out]
  have hng : some g ≠ (Value.slice A l.length cp).ownBlock := Kd.R_away HR1.out (fun _ hk => hk)
  have hnb : some bx ≠ (Value.slice A l.length cp).ownBlock := hnb0
  have HNG := Lib.hid hng
  have HNB := Lib.hid hnb
  clear hng hnb hnb0
  refine start_ (n := 11) (S := fun w' => w'.cell? ⟨g, 1, none⟩ = some (.slice A l.length cp) ∧ w'.cell? ⟨bx, 0, none⟩ = some (.int .i64 t.kind) ∧ w'.cell? ⟨bx, 1, none⟩ = some (.string ⟨t.name.toArray⟩) ∧ w'.cell? ⟨bx, 2, none⟩ = some va ∧ w'.cell? ⟨bx, 3, none⟩ = some (.string ⟨t.text.toArray⟩)) (ds := [10]) #[false, false, false, false, false, false, false, false, false, false, false] (by kernel_rfl) rfl rfl ⟨hg1, hx0, hx1, hx2, hx3⟩ (fun hHeld => ?_)
  refine pure_ (i := 0) (N := some 4) (v := ?_) (a' := ?_) #[true, false, false, false, false, false, false, false, false, false, false] rfl rfl (by kernel_rfl) (fun _ _ _ h => h) (Or.inl ⟨by rfl, ?_⟩) ?_ ?_
  rotate_left
  · intro w'; go_simp; with_reducible rfl
  rotate_left
  · simp only [Act.put, List.setIfInBounds_toArray, List.set_cons_zero, List.set_cons_succ]
    rfl
  refine pure_ (i := 1) (N := some 5) (v := ?_) (a' := ?_) #[true, true, false, false, false, false, false, false, false, false, false] rfl rfl (by kernel_rfl) (fun _ _ _ h => h) (Or.inl ⟨by rfl, ?_⟩) ?_ ?_
  rotate_left
  · intro w'; go_simp; with_reducible rfl
  rotate_left
  · simp only [Act.put, List.setIfInBounds_toArray, List.set_cons_zero, List.set_cons_succ]
    rfl
  refine pure_ (i := 2) (N := some 6) (v := ?_) (a' := ?_) #[true, true, true, false, false, false, false, false, false, false, false] rfl rfl (by kernel_rfl) (fun _ _ _ h => h) (Or.inl ⟨by rfl, ?_⟩) ?_ ?_
  rotate_left
  · intro w'; go_simp; with_reducible rfl
  rotate_left
  · simp only [Act.put, List.setIfInBounds_toArray, List.set_cons_zero, List.set_cons_succ]
    rfl
  refine pure_ (i := 3) (N := some 7) (v := ?_) (a' := ?_) #[true, true, true, true, false, false, false, false, false, false, false] rfl rfl (by kernel_rfl) (fun _ _ _ h => h) (Or.inl ⟨by rfl, ?_⟩) ?_ ?_
  rotate_left
  · intro w'; go_simp; with_reducible rfl
  rotate_left
  · simp only [Act.put, List.setIfInBounds_toArray, List.set_cons_zero, List.set_cons_succ]
    rfl
  refine take_ (i := 4) (N := some 8) (v := ?_) (a' := ?_) #[true, true, true, true, true, false, false, false, false, false, false] rfl rfl (by kernel_rfl) (fun _ _ _ h => h) (Or.inl ⟨by rfl, ?_⟩) hHeld ?_ ?_
  rotate_left
  · intro w' hS; (try obtain ⟨hS1, hS2, hS3, hS4, hS5⟩ := hS); go_simp; with_reducible rfl
  rotate_left
  · simp only [Act.put, List.setIfInBounds_toArray, List.set_cons_zero, List.set_cons_succ]
    rfl
  refine take_ (i := 5) (N := some 9) (v := ?_) (a' := ?_) #[true, true, true, true, true, true, false, false, false, false, false] rfl rfl (by kernel_rfl) (fun _ _ _ h => h) (Or.inl ⟨by rfl, ?_⟩) hHeld ?_ ?_
  rotate_left
  · intro w' hS; (try obtain ⟨hS1, hS2, hS3, hS4, hS5⟩ := hS); go_simp; with_reducible rfl
  rotate_left
  · simp only [Act.put, List.setIfInBounds_toArray, List.set_cons_zero, List.set_cons_succ]
    rfl
  refine one_ (i := 6) (N := some 10) #[true, true, true, true, true, true, true, false, false, false, false] rfl rfl (by kernel_rfl) (by decide) (fun K hK => ?_)
  refine value_ (w1 := ?_) (v := ?_) (by rfl) rfl ?_ ?_
  rotate_left 2
  · go_simp
    constructor
    · rfl
    · rfl
  refine hK.out _ _ ?_ (fun hHeld => ?_)
  · have hl1 : ∀ (p : Addr) v, W.cell? p = some v → (W.alloc (.cells #[.int .i64 t.kind, .string ⟨t.name.toArray⟩, va, .string ⟨t.text.toArray⟩] 32)).drew.cell? p = some v := fun p v h => ((below_alloc (Below.refl _ W) _).cell (p := p) (World.block_lt_of_cell? W p h)).trans h
    exact ⟨hl1 _ _ hg1, hl1 _ _ hx0, hl1 _ _ hx1, hl1 _ _ hx2, hl1 _ _ hx3⟩
  clear hK K
  refine norm_ (a' := ?_) ?_ ?_
  rotate_left
  · show Act.put _ (some 10) _ = _
    simp only [Act.put, List.setIfInBounds_toArray, List.set_cons_zero, List.set_cons_succ]
    rfl
  refine one_ (i := 7) (N := some 11) #[true, true, true, true, true, true, true, true, false, false, false] rfl rfl (by kernel_rfl) (by decide) (fun K hK => ?_)
  refine Kd.R_append_step (W := W.drew) k32 (w0 := w) B (by rfl) (.tmp 8) (.tmp 10) 24 32 (.agg #[(.int .i64 0), (.string ⟨#[]⟩), (.slice none 0 0), (.string ⟨#[]⟩)]) 64 (by rfl) Tryz.underlying24 info_tok rfl (by decide) (by decide) (.slice A l.length cp) (l.map tokS) (tokS t) [.int .i64 t.kind, .string ⟨t.name.toArray⟩, va, .string ⟨t.text.toArray⟩] (fun k => k ≠ g) (fun k => k ≠ g ∧ some k ≠ (Value.slice A l.length cp).ownBlock) (by rfl) (by rfl) (k32_mkM _ _ _ (tokS t) (Kd.R_drew HA1.out)) (fun _ hk => hk) (fun k hk => by have : W.heap.size ≤ k := hk; have := HSW.out; omega) (Kd.R_drew HR1.out) (below_drew HB1.out) hsz (by rw [List.length_map]; omega) ?_
  intro v1 w2 hR2 hB2 hg2 hat2
  obtain ⟨A2, c2, rfl, _, _⟩ := Kd.R_reads hR2
  refine hK.out _ _ ?_ (fun hHeld => ?_)
  · have hgl2 : g < W.drew.heap.size := (show g < W.heap.size by have := HSW.out; omega)
    have hbl2 : bx < W.drew.heap.size := (show bx < W.heap.size by have := HSW.out; omega)
    exact ⟨(World.cell?_of_block (hg2.block g hgl2 HNG.out)).trans hg1, (World.cell?_of_block (hg2.block bx hbl2 HNB.out)).trans hx0, (World.cell?_of_block (hg2.block bx hbl2 HNB.out)).trans hx1, (World.cell?_of_block (hg2.block bx hbl2 HNB.out)).trans hx2, (World.cell?_of_block (hg2.block bx hbl2 HNB.out)).trans hx3⟩
  clear hK K
  refine norm_ (a' := ?_) ?_ ?_
  rotate_left
  · show Act.put _ (some 11) _ = _
    simp only [Act.put, List.setIfInBounds_toArray, List.set_cons_zero, List.set_cons_succ]
    rfl
  refine pure_ (i := 8) (N := some 12) (v := ?_) (a' := ?_) #[true, true, true, true, true, true, true, true, true, false, false] rfl rfl (by kernel_rfl) (fun _ _ _ h => h) (Or.inl ⟨by rfl, ?_⟩) ?_ ?_
  rotate_left
  · intro w'; go_simp; with_reducible rfl
  rotate_left
  · simp only [Act.put, List.setIfInBounds_toArray, List.set_cons_zero, List.set_cons_succ]
    rfl
  refine pure_ (i := 9) (N := some 13) (v := ?_) (a' := ?_) #[true, true, true, true, true, true, true, true, true, true, false] rfl rfl (by kernel_rfl) (fun _ _ _ h => h) (Or.inl ⟨by rfl, ?_⟩) ?_ ?_
  rotate_left
  · intro w'; go_simp; with_reducible rfl
  rotate_left
  · simp only [Act.put, List.setIfInBounds_toArray, List.set_cons_zero, List.set_cons_succ]
    rfl
  refine last_ (i := 10) (N := none) #[true, true, true, true, true, true, true, true, true, true, true] rfl rfl (by kernel_rfl) (by decide) (fun K hK => ?_)
  have hbox2 : Box2 w2 g 40 (.string ⟨rest.toArray⟩) (.slice A l.length cp) := (hg2.block g (show g < W.heap.size by have := HSW.out; omega) HNG.out).trans HBox1.out
  have hc2 := hbox2.c1
  have hf2 := hbox2.f 1
  refine skip_ (w1 := w2.setCell ⟨g, 1, none⟩ (.slice A2 (l.map tokS ++ [tokS t]).length c2)) (by rfl) rfl ?_ ?_
  · go_simp
  refine hK.out _ _ ?_
  clear hK K
  refine done_ (by kernel_rfl) ?_
  go_wp2_with fail
  go_end0
  refine ⟨rfl, ⟨⟨_, hbox2.set1 _, ?_⟩, ?_, hg, ?_⟩⟩
  · unfold TokR
    rw [List.map_append]
    exact Kd.R_far (p := ⟨g, 1, none⟩) hR2 (fun k hk => hk) _
  · exact hB2.setCell hg _
  · have := hg2.size
    have h2 : W.drew.heap.size = W.heap.size := rfl
    rw [World.size_setCell]; omega
end Go.Proofs.YtjlgbkedbbailaaGreatDoor.Mu
namespace Go.Proofs.YtjlgbkedbbailaaGreatDoor.Mu
open Go.RowKit Go.Proofs.YtjlgbkedbbailaaGreatDoor.Pr Go.Proofs.YtjlgbkedbbailaaGreatDoorW.PrintWords Go.Proofs.YtjlgbkedbbailaaGreatDoorW.PrintLast Go.Proofs.YtjlgbkedbbailaaGreatDoorW.PrintMore
theorem Scn.keep {B g : Nat} {rest : Bs} {l : List Tok} {w w1 w2 : World} (h : Scn B g rest l w w1) (hb : Below w1.heap.size w1 w2) : Scn B g rest l w w2 := by
  obtain ⟨v, h1, h2⟩ := h.is
  exact ⟨⟨v, h1.next hb, Kd.R_below h2 hb⟩, h.below.trans (hb.mono h.size), h.base, Nat.le_trans h.size hb.size⟩
theorem Scn.env {B g : Nat} {rest : Bs} {l : List Tok} {w w1 : World} (h : Scn B g rest l w w1) (hw : Env w) (hB : w.heap.size = B) : Env w1 := hw.below (hB ▸ h.below)
theorem add0_calls {B g : Nat} {rest : Bs} {l : List Tok} {w w1 : World} (h : Scn B g rest l w w1) (t : Tok) (ht : t.attrs = []) (hl : l.length ≤ 1073741824) :
    Calls Tryz.prog 40 #[.pointer (some ⟨g, 0, none⟩), .agg #[.int .i64 t.kind, .string ⟨t.name.toArray⟩, .slice none 0 0, .string ⟨t.text.toArray⟩]] w1 fun e w' => e = .returned (.tuple #[]) ∧ Scn B g rest (l ++ [t]) w w' := by
  obtain ⟨v, h1, h2⟩ := h.is
  refine add_calls B g rest l t v _ w w1 h.below h.base h.size h1 h2 ?_ hl
  rw [ht]; exact Kd.R_nil _ _ _ _ _
theorem addA_calls {B g : Nat} {rest : Bs} {l : List Tok} {w w0 w1 : World} (h : Scn B g rest l w w0) (hb : Below w0.heap.size w0 w1) (t : Tok) (va : Value) (hA : AttrsIs w1 w0.heap.size va t.attrs) (hl : l.length ≤ 1073741824) :
    Calls Tryz.prog 40 #[.pointer (some ⟨g, 0, none⟩), .agg #[.int .i64 t.kind, .string ⟨t.name.toArray⟩, va, .string ⟨t.text.toArray⟩]] w1 fun e w' => e = .returned (.tuple #[]) ∧ Scn B g rest (l ++ [t]) w w' := by
  obtain ⟨v, h1, h2⟩ := h.is
  have hk := h.keep hb
  refine add_calls B g rest l t v va w w1 hk.below hk.base hk.size (h1.next hb) (Kd.R_below h2 hb) ?_ hl
  have hA' := Kd.R_lower (Kd.R_bound hA) h.size
  refine Kd.R_mono hA' (fun k hk => ⟨?_, ?_⟩)
  · have := h1.lt; have := hk.2.1; omega
  · intro e
    have := Kd.R_lt h2 k e.symm
    have := hk.2.1; omega
set_option maxRecDepth 20000 in
set_option maxHeartbeats 2000000 in
theorem chars_calls {B g : Nat} {rest : Bs} {l : List Tok} {w w1 : World} (h : Scn B g rest l w w1) (t : Bs) (hl : l.length ≤ 1073741824) (ht : t.length ≤ 1073741824) (hx : ∀ x ∈ l, x.text.length ≤ 1073741824) :
    Calls Tryz.prog 23 #[.pointer (some ⟨g, 0, none⟩), .string ⟨t.toArray⟩] w1 fun e w' => e = .returned (.tuple #[]) ∧ Scn B g rest (push l (chars t)) w w' := by
  obtain ⟨v, h1, h2⟩ := h.is
  have HS := Lib.hid h
  obtain ⟨A, cp, rfl, hcap, _⟩ := Kd.R_reads h2
  rw [List.length_map] at hcap h1 h2
  have hc1 := h1.c1
  cases t with
  | nil =>
    clear h h1 h2 hx
    go_enter Tryz.func23, Tryz.ntmps23
    go_wp2_with fail
    go_end0
    exact ⟨rfl, HS.out⟩
  | cons c t =>
    have hne : ((c :: t) == ([] : Bs)) = false := rfl
    rcases List.eq_nil_or_concat l with rfl | ⟨l', x, rfl⟩
    · clear h h1 h2 hx
      go_enter Tryz.func23, Tryz.ntmps23
      go_wp2_with fail
      refine (add0_calls HS.out (chars (c :: t)) rfl hl).mono ?_
      rintro e w2 ⟨rfl, h2⟩
      have H2 := Lib.hid h2; clear h2
      go_wp2_with fail
      go_end0
      exact ⟨rfl, H2.out⟩
    · simp only [List.concat_eq_append] at *
      rw [List.length_append, List.length_singleton] at hcap h1 h2 hc1 hl
      obtain ⟨b, cap, hv, hbB, hbl, cells, hcells⟩ := Kd.R_form h2 (by simp)
      injection hv with e1 e2 e3
      subst e1; subst e3
      have hel := Kd.R_elem (i := (l'.length : Int)) h2 (tokS x) (by omega) (by omega)
      obtain ⟨cs, hcl, hM, hcc, hcf⟩ := hel
      have hgd : ((l' ++ [x]).map tokS).getD (Int.toNat (l'.length : Int)) (tokS x) = tokS x := by
        rw [List.getD_eq_getElem?_getD]; simp
      rw [hgd] at hM
      obtain ⟨va, hcs, hva⟩ := k32_openM hM
      subst hcs
      have hx0 := hcc 0 _ rfl
      have hx3 := hcc 3 _ rfl
      have hf3 := hcf 3
      simp only [Int.toNat_natCast] at hx0 hx3 hf3
      have hxl : x.text.length ≤ 1073741824 := hx x (by simp)
      have hx0' : w1.cell? ⟨b, l'.length * 4, none⟩ = some (.int .i64 x.kind) := hx0
      have hx3' : w1.cell? ⟨b, l'.length * 4 + 3, none⟩ = some (.string ⟨x.text.toArray⟩) := hx3
      have hf3' : w1.frozen? ⟨b, l'.length * 4 + 3, none⟩ = false := hf3
      have HM := Lib.hid hM
      have HVA := Lib.hid hva
      have H1 := Lib.hid h1
      have H2 := Lib.hid h2
      have HCC := Lib.hid hcc
      have hpush : push (l' ++ [x]) (chars (c :: t)) = if x.kind = 1 then l' ++ [{ x with text := x.text ++ (c :: t) }] else l' ++ [x] ++ [chars (c :: t)] := by
        unfold push
        simp [chars]
      clear h h1 h2 hx hcells hx0 hx3 hf3 hM hva hgd hcc hcf hcl
      obtain ⟨m, hm⟩ : ∃ m, l'.length = m := ⟨_, rfl⟩
      rw [hm] at hx0' hx3' hf3' hc1 hl hcap
      have HMM := Lib.hid hm
      rename_i hC1
      clear hm hC1
      by_cases hk : x.kind = 1
      · rw [hpush, if_pos hk]
        rw [hk] at hx0'
        clear hpush
        go_enter Tryz.func23, Tryz.ntmps23
        have hsum : ¬ 9223372036854775807 < x.text.length + (t.length + 1) := by simp only [List.length_cons] at ht; omega
        go_wp2_with fail
        go_end0
        have hm := HMM.out
        subst hm
        have happ : (⟨x.text.toArray⟩ : ByteArray) ++ ⟨(c :: t).toArray⟩ = ⟨(x.text ++ c :: t).toArray⟩ := by
          apply ByteArray.ext; simp
        rw [happ]
        have hgb : g ≠ b := fun e => Kd.R_away H2.out (fun _ hk => hk) (by rw [e]; rfl)
        obtain ⟨hR, hG⟩ := Kd.R_seg (i := (l'.length : Int)) (c := [.int .i64 x.kind, .string ⟨x.name.toArray⟩, va, .string ⟨x.text.toArray⟩]) (seg := [.string ⟨(x.text ++ c :: t).toArray⟩]) (j := 3) H2.out (by omega) (by omega) rfl HCC.out (Nat.le_refl 4) (x' := tokS { x with text := x.text ++ c :: t }) (k32_mkM _ _ _ (tokS { x with text := x.text ++ c :: t }) HVA.out) (fun _ hk => hk)
        refine ⟨rfl, ⟨⟨_, (Below.heap_setCell w1 _ _ g hgb).trans H1.out, ?_⟩, HS.out.below.setCell hbB _, HS.out.base, ?_⟩⟩
        · unfold TokR
          have e3 : (l' ++ [{ x with text := x.text ++ c :: t }]).map tokS = ((l' ++ [x]).map tokS).set (Int.toNat (l'.length : Int)) (tokS { x with text := x.text ++ c :: t }) := by
            simp
          rw [e3]
          exact hR
        · rw [World.size_setCell]; exact HS.out.size
      · rw [hpush, if_neg hk]
        have hkk : ((x.kind : Int) == 1) = false := by rw [beq_eq_false_iff_ne]; omega
        clear hpush
        go_enter Tryz.func23, Tryz.ntmps23
        go_wp2_with fail
        refine (add0_calls HS.out (chars (c :: t)) rfl (by rw [List.length_append, List.length_singleton, HMM.out]; exact hl)).mono ?_
        rintro e w2 ⟨rfl, h2⟩
        have H2' := Lib.hid h2; clear h2
        go_wp2_with fail
        go_end0
        exact ⟨rfl, H2'.out⟩
end Go.Proofs.YtjlgbkedbbailaaGreatDoor.Mu
namespace Go.Proofs.YtjlgbkedbbailaaGreatDoor.Mu
open Go.RowKit Go.Proofs.YtjlgbkedbbailaaGreatDoor.Pr Go.Proofs.YtjlgbkedbbailaaGreatDoorW.PrintWords Go.Proofs.YtjlgbkedbbailaaGreatDoorW.PrintLast Go.Proofs.YtjlgbkedbbailaaGreatDoorW.PrintMore
theorem Scn.setRest {B g : Nat} {rest : Bs} {l : List Tok} {w w1 : World} (h : Scn B g rest l w w1) (r : Bs) : Scn B g r l w (w1.setCell ⟨g, 0, none⟩ (.string ⟨r.toArray⟩)) := by
  obtain ⟨v, h1, h2⟩ := h.is
  exact ⟨⟨v, h1.set0 _, Kd.R_far (p := ⟨g, 0, none⟩) h2 (fun _ hk => hk) _⟩, h.below.setCell h.base _, h.base, by rw [World.size_setCell]; exact h.size⟩
theorem Scn.c0 {B g : Nat} {rest : Bs} {l : List Tok} {w w1 : World} (h : Scn B g rest l w w1) : w1.cell? ⟨g, 0, none⟩ = some (.string ⟨rest.toArray⟩) := by
  obtain ⟨v, h1, _⟩ := h.is
  exact h1.c0
theorem Scn.f0 {B g : Nat} {rest : Bs} {l : List Tok} {w w1 : World} (h : Scn B g rest l w w1) : w1.frozen? ⟨g, 0, none⟩ = false := by
  obtain ⟨v, h1, _⟩ := h.is
  exact h1.f 0
theorem Scn.env' {g : Nat} {rest : Bs} {l : List Tok} {w w1 : World} (h : Scn w.heap.size g rest l w w1) (hw : Env w) : Env w1 := hw.below h.below
set_option maxHeartbeats 2000000 in
theorem comment_calls {g : Nat} {rest : Bs} {l : List Tok} {w w1 : World} (h : Scn w.heap.size g rest l w w1) (hE : Env w) (s sep : Bs) (h0 : sep ≠ []) (hl : l.length ≤ 1073741824) (hs : s.length ≤ 1073741824) :
    Calls Tryz.prog 45 #[.pointer (some ⟨g, 0, none⟩), .string ⟨s.toArray⟩, .string ⟨sep.toArray⟩] w1 fun e w' => e = .returned (.tuple #[]) ∧ Scn w.heap.size g (commentTo sep s).2 (l ++ (commentTo sep s).1) w w' := by
  have HS := Lib.hid h
  have HE := Lib.hid hE
  have HC := Lib.hid (fun w1 hE => cut_calls s sep w1 hE h0 hs)
  clear h hE h0
  unfold commentTo
  generalize cutB sep s = q at *
  obtain ⟨text, r⟩ := q
  dsimp only at *
  go_enter Tryz.func45, Tryz.ntmps45
  go_wp2_with fail
  refine (HC.out w1 (HS.out.env' HE.out)).mono ?_
  rintro e w2 ⟨rfl, hb2⟩
  have H2 := Lib.hid (HS.out.keep hb2); clear hb2
  go_wp2_with fail
  refine (add0_calls H2.out (comment text) rfl hl).mono ?_
  rintro e w3 ⟨rfl, h3⟩
  have H3 := Lib.hid h3; clear h3
  have hc0 := H3.out.c0
  have hf0 := H3.out.f0
  go_wp2_with fail
  go_end0
  exact ⟨rfl, H3.out.setRest r⟩
set_option maxHeartbeats 4000000 in
theorem remark_calls {g : Nat} {rest : Bs} {l : List Tok} {w w1 : World} (h : Scn w.heap.size g rest l w w1) (hE : Env w) (s : Bs) (hl : l.length ≤ 1073741824) (hs : s.length ≤ 1073741824) :
    Calls Tryz.prog 47 #[.pointer (some ⟨g, 0, none⟩), .string ⟨s.toArray⟩] w1 fun e w' => e = .returned (.tuple #[]) ∧ Scn w.heap.size g (remark s).2 (l ++ (remark s).1) w w' := by
  have HS := Lib.hid h
  have HE := Lib.hid hE
  clear h hE
  by_cases ha : ∃ r, s = 62 :: r
  · obtain ⟨r, rfl⟩ := ha
    have hrem : remark (62 :: r) = ([comment []], r) := by unfold remark; rfl
    rw [hrem]; clear hrem
    go_enter Tryz.func47, Tryz.ntmps47
    go_wp2_with fail
    have hbw := below_alloc (Below.refl _ w1) (.cells #[.string ⟨#[62]⟩, .string ⟨#[45, 62]⟩] 9)
    have hbx := Box2.new w1 9 (.string ⟨#[62]⟩) (.string ⟨#[45, 62]⟩)
    have HSW := Lib.hid (HS.out.keep hbw)
    have hx0 := hbx.c0
    have hx1 := hbx.c1
    clear hbw hbx HS
    generalize w1.alloc (.cells #[.string ⟨#[62]⟩, .string ⟨#[45, 62]⟩] 9) = W at *
    generalize w1.heap.size = bx at *
    go_loop [10] (fun i => i = .int .i64 0) (fun _ => 0)
    case atStart => rfl
    case round =>
      subst hrel
      go_wp2_with fail
      refine (cutPrefix_yes [62] r W).mono ?_
      rintro e w2 ⟨rfl, rfl⟩
      go_wp2_with fail
      refine (add0_calls HSW.out (comment []) rfl hl).mono ?_
      rintro e w3 ⟨rfl, h3⟩
      have H3 := Lib.hid h3; clear h3
      have hc0 := H3.out.c0
      have hf0 := H3.out.f0
      go_wp2_with fail
      refine bodyPost_ret (results_none rfl _ _ _) rfl ?_
      exact ⟨rfl, H3.out.setRest r⟩
  · have hn1 : [62].isPrefixOf s = false := by
      cases s with
      | nil => rfl
      | cons c r => have : (62 : UInt8) ≠ c := fun e => ha ⟨r, by rw [e]⟩
                    simp [List.isPrefixOf, this]
    have HN1 := Lib.hid hn1
    by_cases hb : ∃ r, s = 45 :: 62 :: r
    · obtain ⟨r, rfl⟩ := hb
      have hrem : remark (45 :: 62 :: r) = ([comment []], r) := by unfold remark; rfl
      rw [hrem]; clear hrem
      clear ha hn1
      go_enter Tryz.func47, Tryz.ntmps47
      go_wp2_with fail
      have hbw := below_alloc (Below.refl _ w1) (.cells #[.string ⟨#[62]⟩, .string ⟨#[45, 62]⟩] 9)
      have hbx := Box2.new w1 9 (.string ⟨#[62]⟩) (.string ⟨#[45, 62]⟩)
      have HSW := Lib.hid (HS.out.keep hbw)
      have hx0 := hbx.c0
      have hx1 := hbx.c1
      clear hbw hbx HS
      generalize w1.alloc (.cells #[.string ⟨#[62]⟩, .string ⟨#[45, 62]⟩] 9) = W at *
      generalize w1.heap.size = bx at *
      go_loop [10] (fun i => i = .int .i64 0 ∨ i = .int .i64 1) (fun i => 1 - (intOf i).toNat)
      case atStart => exact .inl rfl
      case round =>
        rcases hrel with rfl | rfl
        · go_wp2_with fail
          refine (cutPrefix_no (45 :: 62 :: r) [62] HN1.out W).mono ?_
          rintro e w2 ⟨rfl, rfl⟩
          go_wp2_with fail
          go_round
          case measure => decide
          case rel => exact .inr rfl
        · go_wp2_with fail
          refine (cutPrefix_yes [45, 62] r W).mono ?_
          rintro e w2 ⟨rfl, rfl⟩
          go_wp2_with fail
          refine (add0_calls HSW.out (comment []) rfl hl).mono ?_
          rintro e w3 ⟨rfl, h3⟩
          have H3 := Lib.hid h3; clear h3
          have hc0 := H3.out.c0
          have hf0 := H3.out.f0
          go_wp2_with fail
          refine bodyPost_ret (results_none rfl _ _ _) rfl ?_
          exact ⟨rfl, H3.out.setRest r⟩
    · have hn2 : [45, 62].isPrefixOf s = false := by
        match s, hb with
        | [], _ => rfl
        | [c], _ => simp [List.isPrefixOf]
        | c :: d :: r, hb =>
          by_cases hc : (45 : UInt8) = c
          · subst hc
            have : (62 : UInt8) ≠ d := fun e => hb ⟨r, by rw [e]⟩
            simp [List.isPrefixOf, this]
          · simp [List.isPrefixOf, hc]
      have HN2 := Lib.hid hn2
      have hrem : remark s = commentTo [45, 45, 62] s := by
        unfold remark
        split
        · exact absurd ⟨_, rfl⟩ ha
        · exact absurd ⟨_, rfl⟩ hb
        · rfl
      rw [hrem]
      clear ha hn1 hb hn2 hrem
      go_enter Tryz.func47, Tryz.ntmps47
      go_wp2_with fail
      have hbw := below_alloc (Below.refl _ w1) (.cells #[.string ⟨#[62]⟩, .string ⟨#[45, 62]⟩] 9)
      have hbx := Box2.new w1 9 (.string ⟨#[62]⟩) (.string ⟨#[45, 62]⟩)
      have HSW := Lib.hid (HS.out.keep hbw)
      have hx0 := hbx.c0
      have hx1 := hbx.c1
      clear hbw hbx HS
      generalize w1.alloc (.cells #[.string ⟨#[62]⟩, .string ⟨#[45, 62]⟩] 9) = W at *
      generalize w1.heap.size = bx at *
      go_loop [10] (fun i => i = .int .i64 0 ∨ i = .int .i64 1 ∨ i = .int .i64 2) (fun i => 2 - (intOf i).toNat)
      case atStart => exact .inl rfl
      case round =>
        rcases hrel with rfl | rfl | rfl
        · go_wp2_with fail
          refine (cutPrefix_no s [62] HN1.out W).mono ?_
          rintro e w2 ⟨rfl, rfl⟩
          go_wp2_with fail
          go_round
          case measure => decide
          case rel => exact .inr (.inl rfl)
        · go_wp2_with fail
          refine (cutPrefix_no s [45, 62] HN2.out W).mono ?_
          rintro e w2 ⟨rfl, rfl⟩
          go_wp2_with fail
          go_round
          case measure => decide
          case rel => exact .inr (.inr rfl)
        · go_wp2_with fail
          refine (comment_calls HSW.out HE.out s [45, 45, 62] (by simp) hl hs).mono ?_
          rintro e w3 ⟨rfl, h3⟩
          have H3 := Lib.hid h3; clear h3
          go_wp2_with fail
          go_end0
          exact ⟨rfl, H3.out⟩
end Go.Proofs.YtjlgbkedbbailaaGreatDoor.Mu
namespace Go.Proofs.YtjlgbkedbbailaaGreatDoor.Mu
open Go.RowKit Go.Proofs.YtjlgbkedbbailaaGreatDoor.Pr Go.Proofs.YtjlgbkedbbailaaGreatDoorW.PrintWords Go.Proofs.YtjlgbkedbbailaaGreatDoorW.PrintLast Go.Proofs.YtjlgbkedbbailaaGreatDoorW.PrintMore
def RawNo (name rest : Bs) (k : Nat) : Prop := ∀ j, j < k → rawEnd name (rest.drop j) = false
theorem RawNo.succ {name rest : Bs} {k : Nat} (h : RawNo name rest k) (h1 : rawEnd name (rest.drop k) = false) : RawNo name rest (k + 1) := fun j hj => by
  by_cases e : j = k
  · rw [e]; exact h1
  · exact h j (by omega)
theorem rawCut_at (name : Bs) : ∀ (s : Bs) (k : Nat), RawNo name s k → k < s.length → rawEnd name (s.drop k) = true → rawCut name s = (s.take k, s.drop k)
  | [], k, _, hk, _ => absurd hk (by simp)
  | c :: r, 0, _, _, h => by
    simp only [List.drop_zero] at h
    unfold rawCut; simp [h]
  | c :: r, k + 1, hn, hk, h => by
    have h0 := hn 0 (by omega)
    simp only [List.drop_zero] at h0
    have ih := rawCut_at name r k (fun j hj => by have := hn (j + 1) (by omega); simpa using this) (by simpa using hk) (by simpa using h)
    unfold rawCut; simp [h0, ih]
theorem rawCut_none (name : Bs) : ∀ (s : Bs), (∀ j, rawEnd name (s.drop j) = false) → rawCut name s = (s, [])
  | [], _ => rfl
  | c :: r, hn => by
    have h0 := hn 0
    simp only [List.drop_zero] at h0
    have ih := rawCut_none name r (fun j => by have := hn (j + 1); simpa using this)
    unfold rawCut; simp [h0, ih]
theorem rawEnd_occ {name s : Bs} (h : [60, 47].isPrefixOf s = false) : rawEnd name s = false := by
  unfold rawEnd
  split
  · simp [List.isPrefixOf] at h
  · rfl
theorem white_seven (c : UInt8) : List.contains [32, 9, 10, 12, 13, 47, 62] c = (white c || c == 47 || c == 62) := by
  simp only [List.contains_cons, List.contains_nil, Bool.or_false, white, Bool.or_assoc]
theorem rawEnd_at (name rest : Bs) (K : Nat) (h : [60, 47].isPrefixOf (rest.drop K) = true) :
    K + 2 ≤ rest.length ∧ rawEnd name (rest.drop K) = (decide (K + 2 + name.length < rest.length) && small ((rest.drop (K + 2)).take name.length) == name && [32, 9, 10, 12, 13, 47, 62].contains (rest.getD (K + 2 + name.length) 0)) := by
  have h1 : ∃ r, rest.drop K = 60 :: 47 :: r := by
    match hd : rest.drop K, h with
    | [], h => cases h
    | [c], h => simp [List.isPrefixOf] at h
    | c :: d :: r, h =>
      simp [List.isPrefixOf] at h
      exact ⟨r, by rw [← h.1, ← h.2]⟩
  obtain ⟨r, hr⟩ := h1
  have hlen : (rest.drop K).length = r.length + 2 := by rw [hr]; rfl
  rw [List.length_drop] at hlen
  have hd2 : rest.drop (K + 2) = r := by rw [← List.drop_drop, hr]; rfl
  have hget : rest.getD (K + 2 + name.length) 0 = r.getD name.length 0 := by
    rw [← hd2, List.getD_eq_getElem?_getD, List.getD_eq_getElem?_getD, List.getElem?_drop]
  refine ⟨by omega, ?_⟩
  rw [hr, hd2, hget, white_seven]
  have hdec : decide (K + 2 + name.length < rest.length) = decide (name.length < r.length) := by
    apply decide_eq_decide.2; omega
  rw [hdec]
  rfl
theorem index_calls (s sub : Bs) (w : World) (hE : Env w) (hs : s.length ≤ 1073741824) : Calls Tryz.prog 55 #[.string ⟨s.toArray⟩, .string ⟨sub.toArray⟩] w fun e w' => e = .returned (.int .i64 (Lib.index s sub)) ∧ w = w' := by
  obtain ⟨m, hm⟩ := hE.maxlen
  refine (Tryz.strings_Index ⟨s.toArray⟩ ⟨sub.toArray⟩ m w (by show s.length < _; omega) hm).mono ?_
  rintro e w' ⟨rfl, rfl⟩
  exact ⟨rfl, rfl⟩
theorem raw_step (name rest : Bs) (k : Nat) (h : RawNo name rest k) (hk : k ≤ rest.length) :
    (Lib.index (rest.drop k) [60, 47] = -1 ∧ rawCut name rest = (rest, [])) ∨ ∃ i : Nat, Lib.index (rest.drop k) [60, 47] = i ∧ RawNo name rest (k + i) ∧ [60, 47].isPrefixOf (rest.drop (k + i)) = true := by
  rcases Lib.index_spec (rest.drop k) [60, 47] with ⟨h1, h2⟩ | ⟨i, h1, _, h3, h4⟩
  · refine .inl ⟨h1, rawCut_none name rest fun j => ?_⟩
    by_cases hj : j < k
    · exact h j hj
    · by_cases hj2 : j ≤ rest.length
      · have := h2 (j - k) (by rw [List.length_drop]; omega)
        unfold Lib.occAt at this
        rw [List.drop_drop, show k + (j - k) = j by omega] at this
        exact rawEnd_occ this
      · rw [List.drop_eq_nil_of_le (by omega)]; rfl
  · refine .inr ⟨i, h1, fun j hj => ?_, ?_⟩
    · by_cases hjk : j < k
      · exact h j hjk
      · have := h4 (j - k) (by omega)
        unfold Lib.occAt at this
        rw [List.drop_drop, show k + (j - k) = j by omega] at this
        exact rawEnd_occ this
    · unfold Lib.occAt at h3
      rw [List.drop_drop] at h3
      exact h3
set_option maxRecDepth 20000 in
set_option maxHeartbeats 4000000 in
theorem raw_calls {g : Nat} {rest : Bs} {l : List Tok} {w w1 : World} (h : Scn w.heap.size g rest l w w1) (hE : Env w) (name : Bs) (hl : l.length ≤ 1073741824) (hs : rest.length ≤ 1073741824) (hn : name.length ≤ 1073741824) (hx : ∀ x ∈ l, x.text.length ≤ 1073741824) :
    Calls Tryz.prog 69 #[.pointer (some ⟨g, 0, none⟩), .string ⟨name.toArray⟩] w1 fun e w' => e = .returned (.tuple #[]) ∧ Scn w.heap.size g (rawPart name rest).2 (push l (chars (rawPart name rest).1)) w w' := by
  have HS := Lib.hid h
  have HE := Lib.hid hE
  have HX := Lib.hid hx
  clear h hE hx
  by_cases hp : name = plaintext
  · have hrp : rawPart name rest = (rest, []) := by unfold rawPart; rw [if_pos hp]
    rw [hrp]; clear hrp
    subst hp
    have hpp : (plaintext == [112, 108, 97, 105, 110, 116, 101, 120, 116]) = true := rfl
    have hc0 := HS.out.c0
    go_enter Tryz.func69, Tryz.ntmps69
    go_wp2_with fail
    go_loop [4] (fun i => i = .int .i64 0) (fun _ => 0)
    case atStart => rfl
    case round =>
      subst hrel
      go_wp2_with fail
      refine (chars_calls HS.out rest hl hs HX.out).mono ?_
      rintro e w2 ⟨rfl, h2⟩
      have H2 := Lib.hid h2; clear h2
      have hc2 := H2.out.c0
      have hf2 := H2.out.f0
      go_wp2_with fail
      go_end0
      exact ⟨rfl, H2.out.setRest []⟩
  · have hrp : rawPart name rest = rawCut name rest := by unfold rawPart; rw [if_neg hp]
    rw [hrp]; clear hrp
    have hpp : (name == [112, 108, 97, 105, 110, 116, 101, 120, 116]) = false := by rw [beq_eq_false_iff_ne]; exact hp
    clear hp
    go_enter Tryz.func69, Tryz.ntmps69
    go_wp2_with fail
    go_loopg [4] rest.length (fun n p wr => ∃ k : Nat, n = rest.length - k ∧ k ≤ rest.length ∧ p = .int .i64 k ∧ RawNo name rest k ∧ Scn w.heap.size g rest l w wr)
    case atStart => exact ⟨0, rfl, Nat.zero_le _, rfl, fun j hj => absurd hj (Nat.not_lt_zero _), HS.out⟩
    case round =>
      obtain ⟨k, hkm, hk, rfl, hno, hsc⟩ := hrel
      have HSR := Lib.hid hsc
      have HKM := Lib.hid hkm
      have hc0 := hsc.c0
      have hext : (⟨rest.toArray⟩ : ByteArray).extract k rest.length = ⟨(rest.drop k).toArray⟩ := ext_drop rest k
      have HIX := Lib.hid (index_calls (rest.drop k) [60, 47] wr (hsc.env' HE.out) (by rw [List.length_drop]; omega))
      have hst := raw_step name rest k hno hk
      clear hkm hsc hno
      rcases hst with ⟨hix, hcut⟩ | ⟨i, hix, hno, hpre⟩
      · rw [hix] at HIX
        have HCUT := Lib.hid hcut
        clear hcut hix
        go_wp2_with fail
        refine HIX.out.mono ?_
        rintro e w2 ⟨rfl, rfl⟩
        go_wp2_with fail
        refine (chars_calls HSR.out rest hl hs HX.out).mono ?_
        rintro e w2 ⟨rfl, h2⟩
        have H2 := Lib.hid h2; clear h2
        have hc2 := H2.out.c0
        have hf2 := H2.out.f0
        go_wp2_with fail
        go_end0
        rw [HCUT.out]
        exact ⟨rfl, H2.out.setRest []⟩
      · rw [hix] at HIX
        clear hix
        obtain ⟨K, hK⟩ : ∃ K : Nat, k + i = K := ⟨_, rfl⟩
        rw [hK] at hno hpre
        have hK' : (k : Int) + (i : Int) = (K : Int) := by omega
        obtain ⟨hK2, hre⟩ := rawEnd_at name rest K hpre
        have HNO := Lib.hid hno
        have HRE := Lib.hid hre
        clear hno hpre hre
        obtain ⟨E, hEE⟩ : ∃ E : Nat, K + 2 + name.length = E := ⟨_, rfl⟩
        have hE' : (K : Int) + 2 + (name.length : Int) = (E : Int) := by omega
        rw [hEE] at HRE
        have hki : i ≤ 1073741824 := by omega
        by_cases hEl : E < rest.length
        · have hmid : (⟨rest.toArray⟩ : ByteArray).extract (K + 2) E = ⟨((rest.drop (K + 2)).take name.length).toArray⟩ := by
            rw [ext_any, show E - (K + 2) = name.length by omega]
          have HSM := Lib.hid (fun w => small_calls ⟨((rest.drop (K + 2)).take name.length).toArray⟩ w (by show ((rest.drop (K + 2)).take name.length).length ≤ _; rw [List.length_take]; omega))
          dsimp only at HSM
          rw [decide_eq_true hEl, Bool.true_and] at HRE
          generalize (rest.drop (K + 2)).take name.length = mid at hmid HSM HRE
          cases hsm : small mid == name with
          | false =>
            rw [hsm, Bool.false_and] at HRE
            go_wp2_with fail
            refine HIX.out.mono ?_
            rintro e w2 ⟨rfl, rfl⟩
            go_wp2_with fail
            refine (HSM.out _).mono ?_
            rintro e w3 ⟨rfl, hb3⟩
            have H3 := Lib.hid (HSR.out.keep hb3); clear hb3
            go_wp2_with fail
            go_roundg (rest.length - (K + 1))
            case measure => have := HKM.out; show rest.length - (K + 1) < gk; omega
            case rel => exact ⟨K + 1, rfl, by omega, by simp, RawNo.succ HNO.out HRE.out, H3.out⟩
          | true =>
            rw [hsm, Bool.true_and] at HRE
            obtain ⟨d, hd⟩ : ∃ d, rest.getD E 0 = d := ⟨_, rfl⟩
            have hEz : E < (⟨rest.toArray⟩ : ByteArray).size := hEl
            have hbe : ((⟨rest.toArray⟩ : ByteArray)[E]'hEz) = d := by
              rw [← hd, List.getD_eq_getElem?_getD, List.getElem?_eq_getElem hEl]; rfl
            rw [hd] at HRE
            have HI2 := Lib.hid (fun w => indexByte_calls [32, 9, 10, 12, 13, 47, 62] d w)
            have hixb := indexByte_has [32, 9, 10, 12, 13, 47, 62] d
            change 0 ≤ ixB _ d ↔ _ at hixb
            generalize ixB [32, 9, 10, 12, 13, 47, 62] d = y at HI2 hixb
            clear hd
            cases hct : [32, 9, 10, 12, 13, 47, 62].contains d with
            | false =>
              rw [hct] at HRE hixb
              have hy : y < 0 := by
                have : ¬ 0 ≤ y := fun h => by have := hixb.1 h; cases this
                omega
              clear hixb
              go_wp2_with fail
              refine HIX.out.mono ?_
              rintro e w2 ⟨rfl, rfl⟩
              go_wp2_with fail
              refine (HSM.out _).mono ?_
              rintro e w3 ⟨rfl, hb3⟩
              have H3 := Lib.hid (HSR.out.keep hb3); clear hb3
              have hc3 := H3.out.c0
              go_wp2_with fail
              refine (HI2.out _).mono ?_
              rintro e w4 ⟨rfl, rfl⟩
              go_wp2_with fail
              go_roundg (rest.length - (K + 1))
              case measure => have := HKM.out; show rest.length - (K + 1) < gk; omega
              case rel => exact ⟨K + 1, rfl, by omega, by simp, RawNo.succ HNO.out HRE.out, H3.out⟩
            | true =>
              rw [hct] at HRE hixb
              have hy : 0 ≤ y := hixb.2 rfl
              have hcut := rawCut_at name rest K HNO.out (by omega) HRE.out
              have HCUT := Lib.hid hcut
              have hxt : (⟨rest.toArray⟩ : ByteArray).extract 0 K = ⟨(rest.take K).toArray⟩ := ext_take rest K
              have hxd : (⟨rest.toArray⟩ : ByteArray).extract K rest.length = ⟨(rest.drop K).toArray⟩ := ext_drop rest K
              clear hixb hcut
              go_wp2_with fail
              refine HIX.out.mono ?_
              rintro e w2 ⟨rfl, rfl⟩
              go_wp2_with fail
              refine (HSM.out _).mono ?_
              rintro e w3 ⟨rfl, hb3⟩
              have H3 := Lib.hid (HSR.out.keep hb3); clear hb3
              have hc3 := H3.out.c0
              go_wp2_with fail
              refine (HI2.out _).mono ?_
              rintro e w4 ⟨rfl, rfl⟩
              go_wp2_with fail
              refine (chars_calls H3.out (rest.take K) hl (by rw [List.length_take]; omega) HX.out).mono ?_
              rintro e w5 ⟨rfl, h5⟩
              have H5 := Lib.hid h5; clear h5
              have hc5 := H5.out.c0
              have hf5 := H5.out.f0
              go_wp2_with fail
              refine bodyPost_ret (results_none rfl _ _ _) rfl ?_
              rw [HCUT.out]
              exact ⟨rfl, H5.out.setRest (rest.drop K)⟩
        · rw [decide_eq_false hEl, Bool.false_and, Bool.false_and] at HRE
          have hEl' : ¬ (E : Int) < (rest.length : Int) := by omega
          go_wp2_with fail
          refine HIX.out.mono ?_
          rintro e w2 ⟨rfl, rfl⟩
          go_wp2_with fail
          go_roundg (rest.length - (K + 1))
          case measure => have := HKM.out; show rest.length - (K + 1) < gk; omega
          case rel => exact ⟨K + 1, rfl, by omega, by simp, RawNo.succ HNO.out HRE.out, HSR.out⟩
end Go.Proofs.YtjlgbkedbbailaaGreatDoor.Mu
namespace Go.Proofs.YtjlgbkedbbailaaGreatDoor.Mu
open Go.RowKit
abbrev rawsB : Bs := [32, 115, 99, 114, 105, 112, 116, 32, 115, 116, 121, 108, 101, 32, 116, 105, 116, 108, 101, 32, 116, 101, 120, 116, 97, 114, 101, 97, 32, 120, 109, 112, 32, 105, 102, 114, 97, 109, 101, 32, 110, 111, 101, 109, 98, 101, 100, 32, 110, 111, 102, 114, 97, 109, 101, 115, 32, 112, 108, 97, 105, 110, 116, 101, 120, 116, 32, 110, 111, 115, 99, 114, 105, 112, 116, 32]
theorem lib_contains_iff (s sub : Bs) : Lib.contains s sub = true ↔ ∃ i, i ≤ s.length ∧ sub.isPrefixOf (s.drop i) = true := by
  unfold Lib.contains
  rcases Lib.index_spec s sub with ⟨h1, h2⟩ | ⟨i, h1, hi, h3, _⟩
  · rw [h1]
    constructor
    · intro h; simp at h
    · rintro ⟨i, hi, hp⟩
      have := h2 i hi
      unfold Lib.occAt at this
      rw [hp] at this; cases this
  · constructor
    · intro _; exact ⟨i, hi, h3⟩
    · intro _; rw [h1]; simp
theorem till_word : ∀ (n t : Bs), (∀ c ∈ n, c ≠ 32) → (n ++ [32]).isPrefixOf t = true → (till (fun c => c == 32) t).1 = n
  | [], [], _, h => by simp [List.isPrefixOf] at h
  | [], d :: t, _, h => by simp [List.isPrefixOf] at h; subst h; simp [till]
  | c :: n, [], _, h => by simp [List.isPrefixOf] at h
  | c :: n, d :: t, hn, h => by
    simp only [List.cons_append, List.isPrefixOf, Bool.and_eq_true, beq_iff_eq] at h
    obtain ⟨rfl, h⟩ := h
    have ih := till_word n t (fun x hx => hn x (by simp [hx])) h
    have hc : (c == 32) = false := by simpa using hn c (by simp)
    simp [till, hc, ih]
theorem raws_words : ∀ i, i < 76 → (rawsB.drop i).head? = some 32 → (till (fun c => c == 32) (rawsB.drop i).tail).1 = [] ∨ rawNames.contains (till (fun c => c == 32) (rawsB.drop i).tail).1 = true := by decide +kernel
theorem raws_have : ∀ n ∈ rawNames, Lib.contains rawsB (32 :: (n ++ [32])) = true ∧ n ≠ [] ∧ Lib.contains n [32] = false := by decide +kernel
theorem raw_eq (name : Bs) : (name != [] && !Lib.contains name [32] && Lib.contains rawsB (32 :: (name ++ [32]))) = raw name := by
  rw [Bool.eq_iff_iff]
  constructor
  · intro h
    simp only [Bool.and_eq_true, Bool.not_eq_true', bne_iff_ne] at h
    obtain ⟨⟨h1, h2⟩, h3⟩ := h
    have hn : ∀ c ∈ name, c ≠ 32 := by
      rintro c hc rfl
      have : Lib.contains name [32] = true := by
        rw [lib_contains_iff]
        obtain ⟨i, hi, hg⟩ := List.getElem_of_mem hc
        refine ⟨i, by omega, ?_⟩
        rw [List.drop_eq_getElem_cons hi, hg]; simp [List.isPrefixOf]
      rw [h2] at this; cases this
    obtain ⟨i, hi, hp⟩ := (lib_contains_iff _ _).1 h3
    have hlt : i < 76 ∧ (rawsB.drop i).head? = some 32 ∧ (name ++ [32]).isPrefixOf (rawsB.drop i).tail = true := by
      cases hd : rawsB.drop i with
      | nil => rw [hd] at hp; simp [List.isPrefixOf] at hp
      | cons c t =>
        rw [hd] at hp
        simp only [List.isPrefixOf, Bool.and_eq_true, beq_iff_eq] at hp
        have hl : (rawsB.drop i).length = t.length + 1 := by rw [hd]; rfl
        rw [List.length_drop] at hl
        have hr : rawsB.length = 76 := rfl
        refine ⟨by omega, by rw [← hp.1]; rfl, hp.2⟩
    have hw := till_word name _ hn hlt.2.2
    rcases raws_words i hlt.1 hlt.2.1 with h | h
    · rw [hw] at h; exact absurd h h1
    · rw [hw] at h; exact h
  · intro h
    have hm : name ∈ rawNames := by unfold raw at h; simpa using h
    obtain ⟨h1, h2, h3⟩ := raws_have name hm
    simp [h1, h2, h3]
theorem contains_bool (s sub : Bs) (w : World) (hE : Env w) (hs : s.length ≤ 1073741824) : Calls Tryz.prog 31 #[.string ⟨s.toArray⟩, .string ⟨sub.toArray⟩] w fun e w' => e = .returned (.bool (Lib.contains s sub)) ∧ w = w' := by
  obtain ⟨m, hm⟩ := hE.maxlen
  refine (Tryz.strings_Contains ⟨s.toArray⟩ ⟨sub.toArray⟩ m w (by show s.length < _; omega) hm).mono ?_
  rintro e w' ⟨rfl, rfl⟩
  exact ⟨rfl, rfl⟩
set_option maxRecDepth 20000 in
set_option maxHeartbeats 2000000 in
theorem isRaw_calls (name : Bs) (w : World) (hE : Env w) (hs : name.length ≤ 1073741824) : Calls Tryz.prog 14 #[.string ⟨name.toArray⟩] w fun e w' => e = .returned (.bool (raw name)) ∧ w = w' := by
  have H1 := Lib.hid (contains_bool name [32] w hE hs)
  have H2 := Lib.hid (contains_bool rawsB (32 :: (name ++ [32])) w hE (by decide))
  have happ : ((⟨#[32]⟩ : ByteArray) ++ ⟨name.toArray⟩) ++ ⟨#[32]⟩ = ⟨(32 :: (name ++ [32])).toArray⟩ := by apply ByteArray.ext; simp
  rw [← raw_eq]
  clear hE
  generalize Lib.contains name [32] = b1 at *
  generalize Lib.contains rawsB (32 :: (name ++ [32])) = b2 at *
  cases name with
  | nil =>
    go_enter Tryz.func14, Tryz.ntmps14
    go_wp2_with fail
    go_ret
    exact ⟨rfl, rfl⟩
  | cons c r =>
    have hne : ((c :: r) == ([] : Bs)) = false := rfl
    have hsum : ¬ 9223372036854775807 < 1 + (r.length + 1) := by simp only [List.length_cons] at hs; omega
    have hsum2 : ¬ 9223372036854775807 < 1 + (r.length + 1) + 1 := by simp only [List.length_cons] at hs; omega
    cases b1 with
    | true =>
      go_enter Tryz.func14, Tryz.ntmps14
      go_wp2_with fail
      refine H1.out.mono ?_
      rintro e w2 ⟨rfl, rfl⟩
      go_wp2_with fail
      go_ret
      exact ⟨rfl, rfl⟩
    | false =>
      go_enter Tryz.func14, Tryz.ntmps14
      go_wp2_with fail
      refine H1.out.mono ?_
      rintro e w2 ⟨rfl, rfl⟩
      go_wp2_with fail
      refine H2.out.mono ?_
      rintro e w2 ⟨rfl, rfl⟩
      go_wp2_with fail
      go_ret
      exact ⟨rfl, rfl⟩
end Go.Proofs.YtjlgbkedbbailaaGreatDoor.Mu
namespace Go.Proofs.YtjlgbkedbbailaaGreatDoor.Mu
open Go.RowKit Go.Proofs.YtjlgbkedbbailaaGreatDoor.Pr Go.Proofs.YtjlgbkedbbailaaGreatDoorW.PrintWords Go.Proofs.YtjlgbkedbbailaaGreatDoorW.PrintLast Go.Proofs.YtjlgbkedbbailaaGreatDoorW.PrintMore
theorem white_seven' (c : UInt8) : List.contains [32, 9, 10, 12, 13, 47, 62] c = (fun c => white c || c == 47 || c == 62) c := white_seven c
theorem push_other (l : List Tok) (t : Tok) (h : t.kind ≠ 1) : push l t = l ++ [t] := by unfold push; rw [if_neg h]
theorem tag_none (kind : Nat) (s : Bs) (n r : Bs) (ht : till [32, 9, 10, 12, 13, 47, 62].contains s = (n, r)) (ha : attrs r = none) : tag kind s = ([], []) := by
  rw [till_congr white_seven'] at ht
  unfold tag
  simp only [ht, ha]
theorem tag_end (s : Bs) (n r : Bs) (q : List Attr × Bs) (ht : till [32, 9, 10, 12, 13, 47, 62].contains s = (n, r)) (ha : attrs r = some q) : tag 3 s = ([⟨3, small n, [], []⟩], q.2) := by
  rw [till_congr white_seven'] at ht
  unfold tag
  simp only [ht, ha, if_true]
theorem tag_raw (kind : Nat) (s : Bs) (n r : Bs) (q : List Attr × Bs) (ht : till [32, 9, 10, 12, 13, 47, 62].contains s = (n, r)) (ha : attrs r = some q) (hk : kind ≠ 3) (hr : raw (small n) = true) :
    tag kind s = ([⟨kind, small n, q.1, []⟩, chars (rawPart (small n) q.2).1], (rawPart (small n) q.2).2) := by
  rw [till_congr white_seven'] at ht
  unfold tag
  simp only [ht, ha, if_neg hk, if_pos hr]
theorem tag_plain (kind : Nat) (s : Bs) (n r : Bs) (q : List Attr × Bs) (ht : till [32, 9, 10, 12, 13, 47, 62].contains s = (n, r)) (ha : attrs r = some q) (hk : kind ≠ 3) (hr : raw (small n) = false) :
    tag kind s = ([⟨kind, small n, q.1, []⟩], q.2) := by
  rw [till_congr white_seven'] at ht
  unfold tag
  simp only [ht, ha, if_neg hk, hr]
  rfl
theorem small_len (s : Bs) : (small s).length = s.length := by unfold small; simp
theorem attrsQ_len (s : Bs) : (attrsQ s).length ≤ s.length := by
  unfold attrsQ
  split
  · next q h => have := attrsF_some _ _ _ _ h; omega
  · simp
theorem addS_calls {B g : Nat} {rest : Bs} {l : List Tok} {w w0 w1 : World} (h : Scn B g rest l w w0) (hb : Below w0.heap.size w0 w1) (r : Bs) (t : Tok) (va : Value) (hA : AttrsIs w1 w0.heap.size va t.attrs) (hl : l.length ≤ 1073741824) :
    Calls Tryz.prog 40 #[.pointer (some ⟨g, 0, none⟩), .agg #[.int .i64 t.kind, .string ⟨t.name.toArray⟩, va, .string ⟨t.text.toArray⟩]] (w1.setCell ⟨g, 0, none⟩ (.string ⟨r.toArray⟩)) fun e w' => e = .returned (.tuple #[]) ∧ Scn B g r (l ++ [t]) w w' := by
  obtain ⟨v, h1, h2⟩ := h.is
  have hk := h.keep hb
  have hA' := Kd.R_lower (Kd.R_bound hA) h.size
  have hA2 : k35.R 35 w1 B (fun k => k ≠ g ∧ some k ≠ v.ownBlock) va (t.attrs.map attrS) := Kd.R_mono hA' (fun k hk => ⟨by have := h1.lt; have := hk.2.1; omega, fun e => by have := Kd.R_lt h2 k e.symm; have := hk.2.1; omega⟩)
  refine add_calls B g r l t v va w _ (hk.below.setCell hk.base _) hk.base (by rw [World.size_setCell]; exact hk.size) ((h1.next hb).set0 _) (Kd.R_far (p := ⟨g, 0, none⟩) (Kd.R_below h2 hb) (fun _ hk => hk) _) (Kd.R_far (p := ⟨g, 0, none⟩) hA2 (fun _ hk => hk.1) _) hl
set_option maxRecDepth 20000 in
set_option maxHeartbeats 1000000 in
theorem tag_calls {g : Nat} {rest : Bs} {l : List Tok} {w w1 : World} (h : Scn w.heap.size g rest l w w1) (hE : Env w) (kind : Nat) (hk : kind = 2 ∨ kind = 3) (s : Bs) (hl : l.length + 1 ≤ 1073741824) (hs : s.length ≤ 1073741824) (hx : ∀ x ∈ l, x.text.length ≤ 1073741824) :
    Calls Tryz.prog 44 #[.pointer (some ⟨g, 0, none⟩), .int .i64 kind, .string ⟨s.toArray⟩] w1 fun e w' => e = .returned (.tuple #[]) ∧ Scn w.heap.size g (tag kind s).2 ((tag kind s).1.foldl push l) w w' := by
  have HS := Lib.hid h
  have HE := Lib.hid hE
  have HX := Lib.hid hx
  clear h hE hx
  obtain ⟨n, r, hnr⟩ : ∃ n r, till [32, 9, 10, 12, 13, 47, 62].contains s = (n, r) := ⟨_, _, rfl⟩
  have htl := till_len [32, 9, 10, 12, 13, 47, 62].contains s
  have HU := Lib.hid (fun w => until_calls s [32, 9, 10, 12, 13, 47, 62] w (by omega))
  rw [hnr] at htl HU
  dsimp only at htl HU
  have HSM := Lib.hid (fun w => small_calls ⟨n.toArray⟩ w (by show n.length ≤ _; omega))
  dsimp only at HSM
  have HAT := Lib.hid (fun w hE => attrs_calls r w hE (by omega))
  have hql := attrsQ_len r
  have hsl := small_len n
  cases hat : attrs r with
  | none =>
    rw [tag_none kind s n r hnr hat]
    have e1 : attrsQ r = [] := by unfold attrsQ; rw [hat]
    have e2 : attrsL r = [] := by unfold attrsL; rw [hat]
    rw [e1, e2, hat] at HAT
    clear hnr hat e1 e2 hql hsl
    go_enter Tryz.func44, Tryz.ntmps44
    go_wp2_with fail
    refine (HU.out _).mono ?_
    rintro e w2 ⟨rfl, hb⟩
    have H2 := Lib.hid (HS.out.keep hb); clear hb
    go_wp2_with fail
    refine (HSM.out _).mono ?_
    rintro e w3 ⟨rfl, hb⟩
    have H3 := Lib.hid (H2.out.keep hb); clear hb
    go_wp2_with fail
    refine (HAT.out _ (H3.out.env' HE.out)).mono ?_
    rintro e w4 ⟨⟨v, rfl, hA⟩, hb⟩
    have H4 := Lib.hid (H3.out.keep hb); clear hb hA
    have hc4 := H4.out.c0
    have hf4 := H4.out.f0
    go_wp2_with fail
    refine bodyPost_ret (results_none rfl _ _ _) rfl ?_
    exact ⟨rfl, H4.out.setRest []⟩
  | some q =>
    have e1 : attrsQ r = q.2 := by unfold attrsQ; rw [hat]
    have e2 : attrsL r = q.1 := by unfold attrsL; rw [hat]
    rw [e1, e2, hat] at HAT
    rw [e1] at hql
    clear e1 e2
    obtain ⟨al, aq⟩ := q
    dsimp only at HAT hql
    by_cases hk3 : kind = 3
    · subst hk3
      rw [tag_end s n r _ hnr hat]
      clear hnr hat hk
      go_enter Tryz.func44, Tryz.ntmps44
      go_wp2_with fail
      refine (HU.out _).mono ?_
      rintro e w2 ⟨rfl, hb⟩
      have H2 := Lib.hid (HS.out.keep hb); clear hb
      go_wp2_with fail
      refine (HSM.out _).mono ?_
      rintro e w3 ⟨rfl, hb⟩
      have H3 := Lib.hid (H2.out.keep hb); clear hb
      go_wp2_with fail
      refine (HAT.out _ (H3.out.env' HE.out)).mono ?_
      rintro e w4 ⟨⟨v, rfl, hA⟩, hb⟩
      have H4 := Lib.hid (H3.out.keep hb); clear hb hA
      have hc4 := H4.out.c0
      have hf4 := H4.out.f0
      go_wp2_with fail
      refine (add0_calls (H4.out.setRest aq) ⟨3, small n, [], []⟩ rfl (by omega)).mono ?_
      rintro e w5 ⟨rfl, h5⟩
      have H5 := Lib.hid h5; clear h5
      go_wp2_with fail
      refine bodyPost_ret (results_none rfl _ _ _) rfl ?_
      refine ⟨rfl, ?_⟩
      rw [show List.foldl push l [⟨3, small n, [], []⟩] = l ++ [⟨3, small n, [], []⟩] from push_other l ⟨3, small n, [], []⟩ (by show (3 : Nat) ≠ 1; decide)]
      exact H5.out
    · have hk2 : kind = 2 := by omega
      subst hk2
      clear hk hk3
      have HRC := Lib.hid (fun w hE => isRaw_calls (small n) w hE (by omega))
      cases hrw : raw (small n) with
      | false =>
        rw [tag_plain 2 s n r _ hnr hat (by decide) hrw]
        rw [hrw] at HRC
        clear hnr hat hrw
        go_enter Tryz.func44, Tryz.ntmps44
        go_wp2_with fail
        refine (HU.out _).mono ?_
        rintro e w2 ⟨rfl, hb⟩
        have H2 := Lib.hid (HS.out.keep hb); clear hb
        go_wp2_with fail
        refine (HSM.out _).mono ?_
        rintro e w3 ⟨rfl, hb⟩
        have H3 := Lib.hid (H2.out.keep hb); clear hb
        go_wp2_with fail
        refine (HAT.out _ (H3.out.env' HE.out)).mono ?_
        rintro e w4 ⟨⟨v, rfl, hA⟩, hb⟩
        have H4 := Lib.hid (H3.out.keep hb)
        have HB4 := Lib.hid hb
        obtain ⟨A4, c4, rfl, _, _⟩ := Kd.R_reads hA
        rw [List.length_map] at hA
        have HA4 := Lib.hid hA
        clear hb hA
        have hc4 := H4.out.c0
        have hf4 := H4.out.f0
        go_wp2_with fail
        refine (addS_calls H3.out HB4.out aq ⟨2, small n, al, []⟩ _ HA4.out (by omega)).mono ?_
        rintro e w5 ⟨rfl, h5⟩
        have H5 := Lib.hid h5; clear h5
        go_wp2_with fail
        refine (HRC.out _ (H5.out.env' HE.out)).mono ?_
        rintro e w6 ⟨rfl, rfl⟩
        go_wp2_with fail
        go_end0
        refine ⟨rfl, ?_⟩
        rw [show List.foldl push l [⟨2, small n, al, []⟩] = l ++ [⟨2, small n, al, []⟩] from push_other l ⟨2, small n, al, []⟩ (by show (2 : Nat) ≠ 1; decide)]
        exact H5.out
      | true =>
        rw [tag_raw 2 s n r _ hnr hat (by decide) hrw]
        rw [hrw] at HRC
        clear hnr hat hrw
        go_enter Tryz.func44, Tryz.ntmps44
        go_wp2_with fail
        refine (HU.out _).mono ?_
        rintro e w2 ⟨rfl, hb⟩
        have H2 := Lib.hid (HS.out.keep hb); clear hb
        go_wp2_with fail
        refine (HSM.out _).mono ?_
        rintro e w3 ⟨rfl, hb⟩
        have H3 := Lib.hid (H2.out.keep hb); clear hb
        go_wp2_with fail
        refine (HAT.out _ (H3.out.env' HE.out)).mono ?_
        rintro e w4 ⟨⟨v, rfl, hA⟩, hb⟩
        have H4 := Lib.hid (H3.out.keep hb)
        have HB4 := Lib.hid hb
        obtain ⟨A4, c4, rfl, _, _⟩ := Kd.R_reads hA
        rw [List.length_map] at hA
        have HA4 := Lib.hid hA
        clear hb hA
        have hc4 := H4.out.c0
        have hf4 := H4.out.f0
        go_wp2_with fail
        refine (addS_calls H3.out HB4.out aq ⟨2, small n, al, []⟩ _ HA4.out (by omega)).mono ?_
        rintro e w5 ⟨rfl, h5⟩
        have H5 := Lib.hid h5; clear h5
        go_wp2_with fail
        refine (HRC.out _ (H5.out.env' HE.out)).mono ?_
        rintro e w6 ⟨rfl, rfl⟩
        go_wp2_with fail
        refine (raw_calls H5.out HE.out (small n) (by rw [List.length_append]; exact hl) (by omega) (by omega) (fun x hx => by
          rcases List.mem_append.1 hx with h | h
          · exact HX.out x h
          · rw [List.mem_singleton.1 h]; exact Nat.zero_le _)).mono ?_
        rintro e w7 ⟨rfl, h7⟩
        have H7 := Lib.hid h7; clear h7
        go_wp2_with fail
        go_end0
        refine ⟨rfl, ?_⟩
        rw [show List.foldl push l [⟨2, small n, al, []⟩, chars (rawPart (small n) aq).1] = push (l ++ [⟨2, small n, al, []⟩]) (chars (rawPart (small n) aq).1) from by rw [← push_other l ⟨2, small n, al, []⟩ (by show (2 : Nat) ≠ 1; decide)]; rfl]
        exact H7.out
end Go.Proofs.YtjlgbkedbbailaaGreatDoor.Mu
namespace Go.Proofs.YtjlgbkedbbailaaGreatDoor.Mu
open Go.RowKit Go.Proofs.YtjlgbkedbbailaaGreatDoor.Pr Go.Proofs.YtjlgbkedbbailaaGreatDoorW.PrintWords Go.Proofs.YtjlgbkedbbailaaGreatDoorW.PrintLast Go.Proofs.YtjlgbkedbbailaaGreatDoorW.PrintMore
theorem begins_form {s : Bs} (h : begins s = true) : (∃ d r, s = 60 :: 47 :: d :: r) ∨ ∃ c r, s = 60 :: c :: r ∧ c ≠ 47 ∧ (letter c = true ∨ c = 33 ∨ c = 63) := by
  unfold begins at h
  split at h
  · next d r => exact .inl ⟨_, _, rfl⟩
  · next c r hno =>
    by_cases hc : c = 47
    · subst hc
      simp [letter] at h
    · refine .inr ⟨_, _, rfl, hc, ?_⟩
      simpa [Bool.or_eq_true, or_assoc] using h
  · cases h
theorem markup_bang (r : Bs) (hp : ∀ r2, r ≠ 45 :: 45 :: r2) : markup (60 :: 33 :: r) = commentTo [62] r := by
  rw [markup.eq_def]
  split
  · next h => simp at h
  · next h => simp at h; exact (hp _ h).elim
  · next h => simp at h; rw [h]
  · next h => simp at h
  · next h1 h2 h3 h4 h =>
    simp at h
    exact (h3 r h.1.symm h.2.symm).elim
  · next h => cases h
theorem foldl_comment (l : List Tok) (sep s : Bs) : (commentTo sep s).1.foldl push l = l ++ (commentTo sep s).1 := by
  exact push_other l (comment _) (fun h => by cases h)
theorem foldl_remark (l : List Tok) (s : Bs) : (remark s).1.foldl push l = l ++ (remark s).1 := by
  unfold remark
  split
  · exact push_other l (comment []) (fun h => by cases h)
  · exact push_other l (comment []) (fun h => by cases h)
  · exact foldl_comment l _ _
set_option maxRecDepth 20000 in
set_option maxHeartbeats 2000000 in
theorem markup_calls {g : Nat} {rest : Bs} {l : List Tok} {w w1 : World} (h : Scn w.heap.size g rest l w w1) (hE : Env w) (hb : begins rest = true) (hl : l.length + 1 ≤ 1073741824) (hs : rest.length ≤ 1073741824) (hx : ∀ x ∈ l, x.text.length ≤ 1073741824) :
    Calls Tryz.prog 25 #[.pointer (some ⟨g, 0, none⟩)] w1 fun e w' => e = .returned (.tuple #[]) ∧ Scn w.heap.size g (markup rest).2 ((markup rest).1.foldl push l) w w' := by
  have HS := Lib.hid h
  have HE := Lib.hid hE
  have HX := Lib.hid hx
  have hc0 := h.c0
  have hf0 := h.f0
  clear h hE hx
  rcases begins_form hb with ⟨d, r, rfl⟩ | ⟨c, r, rfl, hc47, hc⟩
  · have hi2 : ∀ (h : 2 < (⟨((60 : UInt8) :: 47 :: d :: r).toArray⟩ : ByteArray).size), (⟨((60 : UInt8) :: 47 :: d :: r).toArray⟩ : ByteArray)[2]'h = d := fun _ => rfl
    have hi1 : ∀ (h : 1 < (⟨((60 : UInt8) :: 47 :: d :: r).toArray⟩ : ByteArray).size), (⟨((60 : UInt8) :: 47 :: d :: r).toArray⟩ : ByteArray)[1]'h = 47 := fun _ => rfl
    have hx2 : (⟨((60 : UInt8) :: 47 :: d :: r).toArray⟩ : ByteArray).extract 2 (r.length + 1 + 1 + 1) = ⟨(d :: r).toArray⟩ := ext_drop (60 :: 47 :: d :: r) 2
    have hx3 : (⟨((60 : UInt8) :: 47 :: d :: r).toArray⟩ : ByteArray).extract 3 (r.length + 1 + 1 + 1) = ⟨r.toArray⟩ := ext_drop (60 :: 47 :: d :: r) 3
    have hx23 : (⟨((60 : UInt8) :: 47 :: d :: r).toArray⟩ : ByteArray).extract 2 3 = ⟨[d].toArray⟩ := ext_any (60 :: 47 :: d :: r) 2 3
    clear hb
    cases hld : letter d with
    | true =>
      have hm : markup (60 :: 47 :: d :: r) = tag 3 (d :: r) := by unfold markup; simp only [hld, if_true]
      rw [hm]; clear hm
      go_enter Tryz.func25, Tryz.ntmps25
      go_wp2_with fail
      refine (isLetter_calls d w1).mono ?_
      rintro e w2 ⟨rfl, h2⟩
      rw [hld, h2]; clear h2
      go_wp2_with fail
      refine (tag_calls HS.out HE.out 3 (.inr rfl) (d :: r) hl (by simp only [List.length_cons] at hs ⊢; omega) HX.out).mono ?_
      rintro e w3 ⟨rfl, h3⟩
      have H3 := Lib.hid h3; clear h3
      go_wp2_with fail
      go_end0
      exact ⟨rfl, H3.out⟩
    | false =>
      by_cases hd : d = 62
      · subst hd
        have hm : markup (60 :: 47 :: 62 :: r) = ([], r) := by unfold markup; rfl
        rw [hm]; clear hm
        go_enter Tryz.func25, Tryz.ntmps25
        go_wp2_with fail
        refine (isLetter_calls 62 w1).mono ?_
        rintro e w2 ⟨rfl, h2⟩
        rw [hld, h2]; clear h2
        go_wp2_with fail
        go_end0
        exact ⟨rfl, HS.out.setRest r⟩
      · have hm : markup (60 :: 47 :: d :: r) = commentTo [62] (d :: r) := by unfold markup; simp only [hld, if_neg hd]; rfl
        have hdd : ([d] == [62]) = false := by simpa using hd
        rw [hm, foldl_comment]; clear hm
        go_enter Tryz.func25, Tryz.ntmps25
        go_wp2_with fail
        refine (isLetter_calls d w1).mono ?_
        rintro e w2 ⟨rfl, h2⟩
        rw [hld, h2]; clear h2
        go_wp2_with fail
        refine (comment_calls HS.out HE.out (d :: r) [62] (by simp) (by omega) (by simp only [List.length_cons] at hs ⊢; omega)).mono ?_
        rintro e w3 ⟨rfl, h3⟩
        have H3 := Lib.hid h3; clear h3
        go_wp2_with fail
        go_end0
        exact ⟨rfl, H3.out⟩
  · clear hb
    have hi1 : ∀ (h : 1 < (⟨((60 : UInt8) :: c :: r).toArray⟩ : ByteArray).size), (⟨((60 : UInt8) :: c :: r).toArray⟩ : ByteArray)[1]'h = c := fun _ => rfl
    have hx1 : (⟨((60 : UInt8) :: c :: r).toArray⟩ : ByteArray).extract 1 (r.length + 1 + 1) = ⟨(c :: r).toArray⟩ := ext_drop (60 :: c :: r) 1
    have hx1' : (⟨(c :: r).toArray⟩ : ByteArray).extract 1 (r.length + 1) = ⟨r.toArray⟩ := ext_drop (c :: r) 1
    by_cases h33 : c = 33
    · subst h33
      by_cases hp : ∃ r2, r = 45 :: 45 :: r2
      · obtain ⟨r2, rfl⟩ := hp
        have hm : markup (60 :: 33 :: 45 :: 45 :: r2) = remark r2 := by unfold markup; rfl
        rw [hm, foldl_remark]; clear hm hx1 hx1'
        go_enter Tryz.func25, Tryz.ntmps25
        go_wp2_with fail
        refine (cutPrefix_yes [60, 33, 45, 45] r2 w1).mono ?_
        rintro e w2 ⟨rfl, rfl⟩
        go_wp2_with fail
        refine (remark_calls HS.out HE.out r2 (by omega) (by simp only [List.length_cons] at hs; omega)).mono ?_
        rintro e w3 ⟨rfl, h3⟩
        have H3 := Lib.hid h3; clear h3
        go_wp2_with fail
        refine bodyPost_ret (results_none rfl _ _ _) rfl ?_
        exact ⟨rfl, H3.out⟩
      · have hm : markup (60 :: 33 :: r) = commentTo [62] r := markup_bang r (fun r2 e => hp ⟨r2, e⟩)
        have hnp : [60, 33, 45, 45].isPrefixOf (60 :: 33 :: r) = false := by
          match r, hp with
          | [], _ => rfl
          | [x], _ => simp [List.isPrefixOf]
          | x :: y :: z, hp =>
            by_cases hx : (45 : UInt8) = x
            · subst hx
              have : (45 : UInt8) ≠ y := fun e => hp ⟨z, by rw [e]⟩
              simp [List.isPrefixOf, this]
            · simp [List.isPrefixOf, hx]
        have HNP := Lib.hid (fun w => cutPrefix_no (60 :: 33 :: r) [60, 33, 45, 45] hnp w)
        rw [hm, foldl_comment]; clear hm hnp hp
        go_enter Tryz.func25, Tryz.ntmps25
        go_wp2_with fail
        refine (HNP.out w1).mono ?_
        rintro e w2 ⟨rfl, rfl⟩
        go_wp2_with fail
        refine (comment_calls HS.out HE.out r [62] (by simp) (by omega) (by simp only [List.length_cons] at hs; omega)).mono ?_
        rintro e w3 ⟨rfl, h3⟩
        have H3 := Lib.hid h3; clear h3
        go_wp2_with fail
        go_end0
        exact ⟨rfl, H3.out⟩
    · by_cases h63 : c = 63
      · subst h63
        have hm : markup (60 :: 63 :: r) = commentTo [62] (63 :: r) := by unfold markup; rfl
        rw [hm, foldl_comment]; clear hm
        go_enter Tryz.func25, Tryz.ntmps25
        go_wp2_with fail
        refine (comment_calls HS.out HE.out (63 :: r) [62] (by simp) (by omega) (by simp only [List.length_cons] at hs ⊢; omega)).mono ?_
        rintro e w3 ⟨rfl, h3⟩
        have H3 := Lib.hid h3; clear h3
        go_wp2_with fail
        go_end0
        exact ⟨rfl, H3.out⟩
      · have hm : markup (60 :: c :: r) = tag 2 (c :: r) := by
          unfold markup
          split <;> simp_all
        rw [hm]; clear hm hc
        have n47 : ((c.toNat : Int) == 47) = false := by rw [beq_eq_false_iff_ne]; intro e; exact hc47 (UInt8.toNat_inj.1 (by show c.toNat = 47; omega))
        have n33 : ((c.toNat : Int) == 33) = false := by rw [beq_eq_false_iff_ne]; intro e; exact h33 (UInt8.toNat_inj.1 (by show c.toNat = 33; omega))
        have n63 : ((c.toNat : Int) == 63) = false := by rw [beq_eq_false_iff_ne]; intro e; exact h63 (UInt8.toNat_inj.1 (by show c.toNat = 63; omega))
        clear hc47 h33 h63
        go_enter Tryz.func25, Tryz.ntmps25
        go_wp2_with fail
        refine (tag_calls HS.out HE.out 2 (.inl rfl) (c :: r) hl (by simp only [List.length_cons] at hs ⊢; omega) HX.out).mono ?_
        rintro e w3 ⟨rfl, h3⟩
        have H3 := Lib.hid h3; clear h3
        go_wp2_with fail
        go_end0
        exact ⟨rfl, H3.out⟩
end Go.Proofs.YtjlgbkedbbailaaGreatDoor.Mu
namespace Go.Proofs.YtjlgbkedbbailaaGreatDoor.Mu
open Go.RowKit Go.Proofs.YtjlgbkedbbailaaGreatDoor.Pr Go.Proofs.YtjlgbkedbbailaaGreatDoorW.PrintWords Go.Proofs.YtjlgbkedbbailaaGreatDoorW.PrintLast Go.Proofs.YtjlgbkedbbailaaGreatDoorW.PrintMore
set_option maxRecDepth 20000 in
set_option maxHeartbeats 2000000 in
theorem begins_calls (s : Bs) (w : World) (hs : s.length ≤ 1073741824) : Calls Tryz.prog 22 #[.string ⟨s.toArray⟩] w fun e w' => e = .returned (.bool (begins s)) ∧ w = w' := by
  match s, hs with
  | [], _ =>
    go_enter Tryz.func22, Tryz.ntmps22
    go_wp2_with fail
    go_ret
    exact ⟨rfl, rfl⟩
  | [a], _ =>
    have hb : begins [a] = false := by
      unfold begins; split <;> simp_all
    rw [hb]; clear hb
    go_enter Tryz.func22, Tryz.ntmps22
    go_wp2_with fail
    go_ret
    exact ⟨rfl, rfl⟩
  | a :: c :: r, hs =>
    have hx : (⟨(a :: c :: r).toArray⟩ : ByteArray).extract 0 1 = ⟨[a].toArray⟩ := ext_take (a :: c :: r) 1
    have hi1 : ∀ (h : 1 < (⟨(a :: c :: r).toArray⟩ : ByteArray).size), (⟨(a :: c :: r).toArray⟩ : ByteArray)[1]'h = c := fun _ => rfl
    have hlen : r.length ≤ 1073741824 := by simp only [List.length_cons] at hs; omega
    by_cases ha : a = 60
    · subst ha
      by_cases hc : c = 47
      · subst hc
        have hb : begins (60 :: 47 :: r) = decide (0 < r.length) := by
          cases r with
          | nil => rfl
          | cons d r => simp [begins]
        rw [hb]; clear hb
        go_enter Tryz.func22, Tryz.ntmps22
        go_wp2_with fail
        go_ret
        have hd : (decide ((2 : Int) < (r.length : Int) + 1 + 1)) = decide (0 < r.length) := decide_eq_decide.2 (by omega)
        exact ⟨ret_bool hd, rfl⟩
      · have hb : begins (60 :: c :: r) = (letter c || c == 33 || c == 63) := by
          unfold begins
          split <;> simp_all
        have n47 : ((c.toNat : Int) == 47) = false := by rw [beq_eq_false_iff_ne]; intro e; exact hc (UInt8.toNat_inj.1 (by show c.toNat = 47; omega))
        have n33 : ((c.toNat : Int) == 33) = (c == 33) := by
          rw [Bool.eq_iff_iff, beq_iff_eq, beq_iff_eq]; constructor
          · intro e; exact UInt8.toNat_inj.1 (by show c.toNat = 33; omega)
          · intro e; subst e; rfl
        have n63 : ((c.toNat : Int) == 63) = (c == 63) := by
          rw [Bool.eq_iff_iff, beq_iff_eq, beq_iff_eq]; constructor
          · intro e; exact UInt8.toNat_inj.1 (by show c.toNat = 63; omega)
          · intro e; subst e; rfl
        rw [hb]; clear hb hc
        have HL := Lib.hid (isLetter_calls c w)
        generalize letter c = bl at *
        cases bl <;> cases h1 : c == 33 <;> cases h2 : c == 63
        all_goals
          rw [h1] at n33
          rw [h2] at n63
          go_enter Tryz.func22, Tryz.ntmps22
          go_wp2_with fail
          refine HL.out.mono ?_
          rintro e w2 ⟨rfl, h2⟩
          rw [h2]; clear h2
          go_wp2_with fail
          go_ret
          exact ⟨rfl, rfl⟩
    · have hb : begins (a :: c :: r) = false := by
        unfold begins; split <;> simp_all
      have ha' : ([a] == [60]) = false := by simpa using ha
      rw [hb]; clear hb
      go_enter Tryz.func22, Tryz.ntmps22
      go_wp2_with fail
      go_ret
      exact ⟨rfl, rfl⟩
end Go.Proofs.YtjlgbkedbbailaaGreatDoor.Mu
namespace Go.Proofs.YtjlgbkedbbailaaGreatDoor.Mu
open Go.RowKit Go.Proofs.YtjlgbkedbbailaaGreatDoor.Pr Go.Proofs.YtjlgbkedbbailaaGreatDoorW.PrintWords Go.Proofs.YtjlgbkedbbailaaGreatDoorW.PrintLast Go.Proofs.YtjlgbkedbbailaaGreatDoorW.PrintMore
/-- A row of tokens of the call's own. -/
def ToksIs (w : World) (B : Nat) (v : Value) (l : List Tok) : Prop := k32.R 32 w B (fun _ => True) v (l.map tokS)
set_option maxRecDepth 20000 in
set_option maxHeartbeats 4000000 in
theorem scan_calls (s : Bs) (w : World) (hE : Env w) (hs : s.length ≤ 536870912) :
    Calls Tryz.prog 12 #[.string ⟨s.toArray⟩] w fun e w' => (∃ v, e = .returned v ∧ ToksIs w' w.heap.size v (scan s)) ∧ Below w.heap.size w w' := by
  have HE := Lib.hid hE; clear hE
  have HR0 := Lib.hid (ScanRel.start s)
  go_enter Tryz.func12, Tryz.ntmps12
  go_wp2_with fail
  have h0 : Scn w.heap.size w.heap.size s [] w (w.alloc (.cells #[.string ⟨s.toArray⟩, .slice none 0 0] 40)) :=
    ⟨⟨_, Box2.new w _ _ _, Kd.R_nil _ _ _ _ _⟩, below_alloc (Below.refl _ w) _, Nat.le_refl _, by show _ ≤ (w.heap.push _).size; simp⟩
  have H0 := Lib.hid h0; clear h0
  generalize w.alloc (.cells #[.string ⟨s.toArray⟩, .slice none 0 0] 40) = w0 at *
  go_loopg [4] s.length (fun n p wr => ∃ rest l, n = rest.length ∧ ScanRel s rest l ∧ Scn w.heap.size w.heap.size rest l w wr)
  case atStart => exact ⟨s, [], rfl, HR0.out, H0.out⟩
  case round =>
    obtain ⟨rest, l, hn, hr, hsc⟩ := hrel
    have HR := Lib.hid hr
    have HN := Lib.hid hn
    have HS := Lib.hid hsc
    have hlen := hr.len
    have htxt := hr.txt
    have hc0 := hsc.c0
    clear hr hn hsc
    by_cases hnil : rest = []
    · subst hnil
      obtain ⟨v, hb, hR⟩ := HS.out.is
      obtain ⟨A, cp, rfl, _, _⟩ := Kd.R_reads hR
      rw [List.length_map] at hb hR
      have hc1 := hb.c1
      have hfin := HR.out.fin
      have HFN := Lib.hid hfin
      have HRR := Lib.hid hR
      clear hb hR hfin
      rename_i hC1
      clear hC1
      go_wp2_with fail
      go_ret
      refine ⟨⟨_, rfl, ?_⟩, HS.out.below⟩
      rw [← HFN.out]
      exact Kd.R_mono HRR.out (fun _ _ => trivial)
    · have hne : (rest == ([] : Bs)) = false := by rw [beq_eq_false_iff_ne]; exact hnil
      have HCH := Lib.hid (HR.out.chars hnil)
      have HNN := Lib.hid hnil
      clear hnil
      go_wp2_with fail
      go_loop [4] (fun i => ∃ k : Nat, k ≤ rest.length ∧ i = .int .i64 k ∧ ∀ j, j < k → begins (rest.drop j) = false) (fun i => rest.length - (intOf i).toNat)
      case atStart => exact ⟨0, Nat.zero_le _, rfl, fun j hj => absurd hj (Nat.not_lt_zero _)⟩
      case round =>
        obtain ⟨k, hk, rfl, hno⟩ := hrel
        have HNO := Lib.hid hno
        clear hno
        have hxd : (⟨rest.toArray⟩ : ByteArray).extract k rest.length = ⟨(rest.drop k).toArray⟩ := ext_drop rest k
        have hxt : (⟨rest.toArray⟩ : ByteArray).extract 0 k = ⟨(rest.take k).toArray⟩ := ext_take rest k
        by_cases hlt : k < rest.length
        · have HBG := Lib.hid (begins_calls (rest.drop k) wr (by rw [List.length_drop]; omega))
          cases hbg : begins (rest.drop k) with
          | false =>
            rw [hbg] at HBG
            have HNX := Lib.hid (show ∀ j, j < k + 1 → begins (rest.drop j) = false from fun j hj => by
              by_cases e : j = k
              · rw [e]; exact hbg
              · exact HNO.out j (by omega))
            clear hbg
            go_wp2_with fail
            refine HBG.out.mono ?_
            rintro e w2 ⟨rfl, rfl⟩
            go_wp2_with fail
            go_round
            case measure => show rest.length - (((k : Int) + 1)).toNat < rest.length - (k : Int).toNat; omega
            case rel => exact ⟨k + 1, by omega, by simp, HNX.out⟩
          | true =>
            rw [hbg] at HBG
            have hld := lead_at rest k HNO.out hk (.inr hbg)
            have hl2 : (lead rest).2 ≠ [] := by rw [hld]; intro e; simp at e; omega
            have HNEXT := Lib.hid (HR.out.next HNN.out hl2)
            have HMK := Lib.hid (fun w1 (l : List Tok) h hE hl hx => markup_calls (g := w.heap.size) (rest := rest.drop k) (l := l) (w := w) (w1 := w1) h hE hbg hl (by rw [List.length_drop]; omega) hx)
            rw [hld] at HNEXT HCH
            have HDC := Lib.hid (fun w hE => decode_calls (rest.take k) w hE (by rw [List.length_take]; omega))
            have hdl := dec_len_le (rest.take k)
            rw [List.length_take] at hdl
            have hne2 : (rest.drop k == ([] : Bs)) = false := by rw [beq_eq_false_iff_ne]; intro e; simp at e; omega
            clear hbg hld hl2
            dsimp only at HNEXT HCH
            go_wp2_with fail
            refine HBG.out.mono ?_
            rintro e w2 ⟨rfl, rfl⟩
            go_wp2_with fail
            refine (HDC.out _ (HS.out.env' HE.out)).mono ?_
            rintro e w2 ⟨rfl, hb2⟩
            have H2 := Lib.hid (HS.out.keep hb2); clear hb2
            go_wp2_with fail
            refine (chars_calls H2.out (dec (rest.take k)) (by omega) (by omega) (fun x hx => by have := tw_mem hx; omega)).mono ?_
            rintro e w3 ⟨rfl, h3⟩
            have H3 := Lib.hid h3; clear h3
            have hc3 := H3.out.c0
            have hf3 := H3.out.f0
            have H3' := Lib.hid (H3.out.setRest (rest.drop k))
            go_wp2_with fail
            refine (HMK.out _ _ H3'.out HE.out (by have := HCH.out; rw [List.length_drop] at this; omega) (fun x hx => by have := tw_mem hx; have := HCH.out; omega)).mono ?_
            rintro e w4 ⟨rfl, h4⟩
            have H4 := Lib.hid h4; clear h4
            go_wp2_with fail
            go_roundg (markup (rest.drop k)).2.length
            case measure => have h1 := HNEXT.out.2; have h2 := HN.out; show (markup (rest.drop k)).2.length < gk; omega
            case rel => exact ⟨_, _, rfl, HNEXT.out.1, H4.out⟩
        · have hkl : k = rest.length := by omega
          subst hkl
          have hld := lead_at rest rest.length HNO.out hk (.inl rfl)
          rw [List.drop_length, List.take_length] at hld
          have hl2 : (lead rest).2 = [] := by rw [hld]
          have HLAST := Lib.hid (HR.out.last HNN.out hl2)
          rw [hld] at HLAST
          have HDC := Lib.hid (fun w hE => decode_calls rest w hE (by omega))
          have hdl := dec_len_le rest
          rw [List.take_length] at hxt
          rw [List.drop_length] at hxd
          clear hld hl2 hlt
          dsimp only at HLAST
          go_wp2_with fail
          refine (HDC.out _ (HS.out.env' HE.out)).mono ?_
          rintro e w2 ⟨rfl, hb2⟩
          have H2 := Lib.hid (HS.out.keep hb2); clear hb2
          go_wp2_with fail
          refine (chars_calls H2.out (dec rest) (by omega) (by omega) (fun x hx => by have := tw_mem hx; omega)).mono ?_
          rintro e w3 ⟨rfl, h3⟩
          have H3 := Lib.hid h3; clear h3
          have hc3 := H3.out.c0
          have hf3 := H3.out.f0
          have H3' := Lib.hid (H3.out.setRest [])
          go_wp2_with fail
          go_roundg 0
          case measure => have h2 := HN.out; have h3 : 0 < rest.length := List.length_pos_iff.2 HNN.out; show 0 < gk; omega
          case rel => exact ⟨[], _, rfl, HLAST.out, H3'.out⟩
end Go.Proofs.YtjlgbkedbbailaaGreatDoor.Mu
namespace Go.Proofs.YtjlgbkedbbailaaGreatDoor.Mu
open Go.RowKit
theorem rc_disable (w : World) : (callFunc 160 #[]).run Tryz.prog w = .ok (.value (.tuple #[])) w := run_call_mark0 Tryz.func160 (by kernel_rfl) (by kernel_rfl) (by kernel_rfl) .disable (by kernel_rfl) w
theorem rc_enable (w : World) : (callFunc 162 #[]).run Tryz.prog w = .ok (.value (.tuple #[])) w := run_call_mark0 Tryz.func162 (by kernel_rfl) (by kernel_rfl) (by kernel_rfl) .enable (by kernel_rfl) w
theorem rc_acquire (a : Addr) (w : World) : (callFunc 163 #[.pointer (some a)]).run Tryz.prog w = .ok (.value (.tuple #[])) w := run_call_marked Tryz.func163 (by kernel_rfl) (by kernel_rfl) (by kernel_rfl) .acquire (by kernel_rfl) a w
theorem rc_releaseMerge (a : Addr) (w : World) : (callFunc 165 #[.pointer (some a)]).run Tryz.prog w = .ok (.value (.tuple #[])) w := run_call_marked Tryz.func165 (by kernel_rfl) (by kernel_rfl) (by kernel_rfl) .releaseMerge (by kernel_rfl) a w
theorem store_deferred (a : Addr) (x : Value) (u : FrameMode) (w : World) (hc : w.cell? a = some x) (hz : w.frozen? a = false) :
    CallsD Tryz.prog 125 #[.pointer (some a), .bool true] u w fun e u' w' => u' = u ∧ (e = .returned (.tuple #[]) ∧ w' = w.drew.setCell a (.int .u32 1)) := by
  have hc' : w.drew.cell? a = some x := by go_simp
  have hz' : w.drew.frozen? a = false := by go_simp
  have hst := run_call_store (P := Tryz.prog) Tryz.func147 (by kernel_rfl) (by kernel_rfl) (by kernel_rfl) (by kernel_rfl) (k := .u32) (y := 1) hc' hz'
  go_enter_d Tryz.func125, Tryz.ntmps125
  go_wp2
  go_region_calls
  all_goals (go_end0; exact ⟨rfl, rfl⟩)
set_option maxRecDepth 100000 in
theorem unlock_deferred (a : Addr) (u : FrameMode) (w : World) (hc : w.cell? a = some (.int .i32 1)) (hz : w.frozen? a = false) :
    CallsD Tryz.prog 124 #[.pointer (some a)] u w fun e u' w' => u' = u ∧ (e = .returned (.tuple #[]) ∧ w' = w.setCell a (.int .i32 0)) := by
  have hd := rc_disable
  have he := rc_enable
  have hr := rc_releaseMerge
  have hadd := run_call_add (P := Tryz.prog) Tryz.func166 (by kernel_rfl) (by kernel_rfl) (by kernel_rfl) .i32 (by kernel_rfl) (y := -1) (s := 0) hc hz (by simp [go_sem]; rfl)
  have hcv := run_convert_to_unsafe (P := Tryz.prog) (src := 191) (dst := 94) Tryz.underlying191 Tryz.underlying94 (by kernel_rfl) hc
  go_enter_d Tryz.func124, Tryz.ntmps124
  go_wp2
  go_end0
  go_wp2
set_option maxRecDepth 100000 in
theorem lock_free (a : Addr) (w : World) (hc : w.cell? a = some (.int .i32 0)) (hz : w.frozen? a = false) :
    Calls Tryz.prog 123 #[.pointer (some a)] w fun e w' => e = .returned (.tuple #[]) ∧ w' = w.setCell a (.int .i32 1) := by
  have hd := rc_disable
  have he := rc_enable
  have ha := rc_acquire
  have hcas := run_call_cas_hit (P := Tryz.prog) Tryz.func161 (by kernel_rfl) (by kernel_rfl) (by kernel_rfl) .i32 (by kernel_rfl) (y := 1) hc hz
  have hc' : (w.setCell a (.int .i32 1)).cell? a = some (.int .i32 1) := World.cell?_setCell_same w a _ hc
  have hcv := run_convert_to_unsafe (P := Tryz.prog) (src := 191) (dst := 94) Tryz.underlying191 Tryz.underlying94 (by kernel_rfl) hc'
  go_enter Tryz.func123, Tryz.ntmps123
  go_wp2
  first | go_end0 | (simp only [Exit.inBlock, Exit.then]; refine bodyPost_ret (results_none rfl _ _ _) rfl ?_) | refine bodyPost_ret (results_none rfl _ _ _) rfl ?_
  go_wp2
end Go.Proofs.YtjlgbkedbbailaaGreatDoor.Mu
namespace Go.Proofs.YtjlgbkedbbailaaGreatDoor.Mu
open Go.RowKit
theorem boolLoad_calls (a : Addr) (w : World) (h0 : w.cell? a = some (.int .u32 0)) : Calls Tryz.prog 99 #[.pointer (some a)] w fun e w' => e = .returned (.bool false) ∧ w = w' := by
  have hl := run_call_load (P := Tryz.prog) Tryz.func122 (by kernel_rfl) (by kernel_rfl) (by kernel_rfl) .u32 (by kernel_rfl) h0
  go_enter Tryz.func99, Tryz.ntmps99
  go_wp2
  go_ret
  exact ⟨rfl, rfl⟩
set_option maxRecDepth 100000 in
set_option maxHeartbeats 1600000 in
theorem slow_calls (b : Nat) (w : World) (R : World → Prop)
    (hcall : Calls Tryz.prog 82 #[.pointer (some ⟨b, 0, none⟩)] (w.setCell ⟨b, 1, none⟩ (.int .i32 1)) fun e w' => e = .returned (.tuple #[]) ∧ R w' ∧ w'.cell? ⟨b, 0, none⟩ = some (.int .u32 0) ∧ w'.cell? ⟨b, 1, none⟩ = some (.int .i32 1) ∧ w'.frozen? ⟨b, 0, none⟩ = false ∧ w'.frozen? ⟨b, 1, none⟩ = false)
    (h0 : w.cell? ⟨b, 0, none⟩ = some (.int .u32 0)) (h1 : w.cell? ⟨b, 1, none⟩ = some (.int .i32 0))
    (f0 : w.frozen? ⟨b, 0, none⟩ = false) (f1 : w.frozen? ⟨b, 1, none⟩ = false) :
    Calls Tryz.prog 100 #[.pointer (some ⟨b, 0, none⟩), .func (.func 82) #[.pointer (some ⟨b, 0, none⟩)] #[]] w fun e w' => e = .returned (.tuple #[]) ∧ ∃ w2, R w2 ∧ w' = (w2.drew.setCell ⟨b, 0, none⟩ (.int .u32 1)).setCell ⟨b, 1, none⟩ (.int .i32 0) := by
  have hl0 : (w.setCell ⟨b, 1, none⟩ (.int .i32 1)).cell? ⟨b, 0, none⟩ = some (.int .u32 0) := (World.cell?_setCell_other _ ⟨b, 1, none⟩ ⟨b, 0, none⟩ _ (by simp)).trans h0
  have HL := Lib.hid (boolLoad_calls ⟨b, 0, none⟩ _ hl0)
  clear hl0
  have hnot : ∀ (x : Bool) (w : World), (Op.unary .not (.bool x)).run Tryz.prog w = .ok (.bool (!x)) w := fun _ _ => rfl
  have HC := Lib.hid hcall
  clear hcall
  go_enter_defers Tryz.func100, Tryz.ntmps100
  go_wp2_with (go_at_call 123; refine (lock_free ⟨b, 1, none⟩ _ (by go_simp) (by go_simp)).mono ?_; rintro e w' ⟨rfl, rfl⟩)
  refine HL.out.mono ?_
  rintro e w2 ⟨rfl, rfl⟩
  go_wp2_with fail
  refine HC.out.mono ?_
  rintro e w2 ⟨rfl, hR, c0, c1, z0, z1⟩
  go_wp2_with fail
  refine leaves_cons (f := 125) (args := #[.pointer (some ⟨b, 0, none⟩), .bool true]) (by simp) (by simp [go_sem]) ?_
  refine (store_deferred ⟨b, 0, none⟩ (.int .u32 0) .returning _ c0 z0).mono ?_
  rintro e u' w'' ⟨rfl, rfl, rfl⟩
  refine leaves_cons (f := 124) (args := #[.pointer (some ⟨b, 1, none⟩)]) (by simp [settle]) (by simp [go_sem]) ?_
  refine (unlock_deferred ⟨b, 1, none⟩ _ _ ?_ (by simp [z1])).mono ?_
  · refine (World.cell?_setCell_other _ ⟨b, 0, none⟩ ⟨b, 1, none⟩ _ (by simp)).trans ?_
    rw [World.cell?_drew]
    exact c1
  rintro e u' w'' ⟨rfl, rfl, rfl⟩
  simp [Leaves, settle, results, Tryz.results100]
  exact ⟨w2, hR, rfl⟩
set_option maxRecDepth 100000 in
theorem do_calls (b : Nat) (w : World) (R : World → Prop)
    (hcall : Calls Tryz.prog 82 #[.pointer (some ⟨b, 0, none⟩)] (w.setCell ⟨b, 1, none⟩ (.int .i32 1)) fun e w' => e = .returned (.tuple #[]) ∧ R w' ∧ w'.cell? ⟨b, 0, none⟩ = some (.int .u32 0) ∧ w'.cell? ⟨b, 1, none⟩ = some (.int .i32 1) ∧ w'.frozen? ⟨b, 0, none⟩ = false ∧ w'.frozen? ⟨b, 1, none⟩ = false)
    (h0 : w.cell? ⟨b, 0, none⟩ = some (.int .u32 0)) (h1 : w.cell? ⟨b, 1, none⟩ = some (.int .i32 0))
    (f0 : w.frozen? ⟨b, 0, none⟩ = false) (f1 : w.frozen? ⟨b, 1, none⟩ = false) :
    Calls Tryz.prog 81 #[.pointer (some ⟨b, 0, none⟩), .func (.func 82) #[.pointer (some ⟨b, 0, none⟩)] #[]] w fun e w' => e = .returned (.tuple #[]) ∧ ∃ w2, R w2 ∧ w' = (w2.drew.setCell ⟨b, 0, none⟩ (.int .u32 1)).setCell ⟨b, 1, none⟩ (.int .i32 0) := by
  have HL := Lib.hid (boolLoad_calls ⟨b, 0, none⟩ _ h0)
  have HS := Lib.hid (slow_calls b w R hcall h0 h1 f0 f1)
  clear hcall
  go_enter Tryz.func81, Tryz.ntmps81
  go_wp2_with fail
  refine HL.out.mono ?_
  rintro e w2 ⟨rfl, rfl⟩
  go_wp2_with fail
  refine HS.out.mono ?_
  rintro e w2 ⟨rfl, w3, hR, rfl⟩
  go_wp2_with fail
  go_end0
  exact ⟨rfl, w3, hR, rfl⟩
end Go.Proofs.YtjlgbkedbbailaaGreatDoor.Mu
