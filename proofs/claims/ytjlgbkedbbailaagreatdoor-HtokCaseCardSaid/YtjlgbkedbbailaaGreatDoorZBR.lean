/- Walks: (*strings.trieNode).add at the keys that are asked of it.
   Walks: (*strings.trieNode).add at the root's table.
   Walks: (*strings.genericReplacer).lookup over the replacer's trie.
   Walks: the lists that a replacer of four pairs is made of.
   Walks: the four keys are added to the trie, one behind the other.
   Walks: strings.makeGenericReplacer over the four pairs.
   Walks: (*strings.Replacer).build and buildOnce over the four pairs.
   Walks: strings.NewReplacer over the four pairs.
   Walks: the writer that a replacer writes to.
   Plain laws: how far a text has been written while it is escaped.
   Walks: (*strings.genericReplacer).WriteString.
   Walks: (*strings.genericReplacer).Replace.
   Walks: (*strings.Replacer).Replace, ent.Text. -/
import Derived.Test.YtjlgbkedbbailaaGreatDoorProg
import Derived.Test.YtjlgbkedbbailaaGreatDoorZBM
import Derived.WalkKit
import Derived.WalkSpells
import Derived.Handy
import Derived.Outline
import Derived.Lib.Hide
import Derived.RegionTactic
import Derived.RegionCalls
import Derived.StillTailTactics
import Derived.Deep.QuietTactic
import Derived.BigQuiet
import Derived.Test.YtjlgbkedbbailaaGreatDoorZBW
import Derived.LoopN
import Derived.LoopTactic
import Derived.Deep.LoopGhost
import Derived.BigRegion
import Derived.Test.YtjlgbkedbbailaaGreatDoorWWords
import Derived.Stop.Asserts
import Derived.Deep.RegionWith
set_option linter.unusedVariables false
set_option linter.unusedSimpArgs false
namespace Go.Proofs.YtjlgbkedbbailaaGreatDoor.Mu
open Go.RowKit
/-- A block whose cells are known. -/
def BlkL (w : World) (b t : Nat) (cs : List Value) : Prop := w.heap[b]? = some (.cells cs.toArray t (0, 0))
section
variable {w w' : World} {b t : Nat} {cs : List Value}
theorem BlkL.cell (h : BlkL w b t cs) {i : Nat} {v : Value} (hv : cs[i]? = some v) : w.cell? ⟨b, i, none⟩ = some v := by
  unfold BlkL at h; simp [World.cell?, h, hv]
theorem BlkL.f (h : BlkL w b t cs) (i : Nat) : w.frozen? ⟨b, i, none⟩ = false := by
  unfold BlkL at h; simp [World.frozen?, h]
theorem BlkL.lt (h : BlkL w b t cs) : b < w.heap.size := (Array.getElem?_eq_some_iff.1 h).1
theorem BlkL.keep (h : BlkL w b t cs) (hk : w'.heap[b]? = w.heap[b]?) : BlkL w' b t cs := hk.trans h
theorem BlkL.new (w : World) (t : Nat) (cs : List Value) : BlkL (w.alloc (.cells cs.toArray t)) w.heap.size t cs := by
  show (w.heap.push _)[w.heap.size]? = _
  simp
theorem BlkL.set_ (h : BlkL w b t cs) (i : Nat) (u : Value) : BlkL (w.setCell ⟨b, i, none⟩ u) b t (cs.set i u) := by
  unfold BlkL at *
  unfold World.setCell
  rw [Array.getElem?_modify]; simp [h]
theorem BlkL.far (h : BlkL w b t cs) {p : Addr} (hp : b ≠ p.block) (u : Value) : BlkL (w.setCell p u) b t cs := (Below.heap_setCell w p u b hp).trans h
theorem BlkL.alloc (h : BlkL w b t cs) (o : Obj) : BlkL (w.alloc o) b t cs := by
  have hl := h.lt
  unfold BlkL at *
  show (w.heap.push o)[b]? = _
  rw [Array.getElem?_push_lt hl, ← Array.getElem?_eq_getElem hl]; exact h
theorem BlkL.below {B : Nat} (h : BlkL w b t cs) (hb : Below B w w') (hB : b < B) : BlkL w' b t cs := (hb.block b hB).trans h
theorem BlkL.next (h : BlkL w b t cs) (hb : Below w.heap.size w w') : BlkL w' b t cs := h.below hb h.lt
theorem BlkL.grown (h : BlkL w b t cs) {row : Option Nat} (hg : w.grownBy w' row) (hn : some b ≠ row) : BlkL w' b t cs := (hg.block b h.lt hn).trans h
theorem BlkL.drewN (h : BlkL w b t cs) (n : Nat) : BlkL (w.drewN n) b t cs := h
end
section
variable {w w1 w2 : World} {row : Option Nat}
theorem gr_refl (w : World) (row : Option Nat) : w.grownBy w row := ⟨rfl, rfl, rfl, Nat.le_refl _, fun _ _ _ => rfl⟩
theorem gr_trans (h : w.grownBy w1 row) (k : w1.grownBy w2 row) : w.grownBy w2 row :=
  ⟨k.os.trans h.os, k.tape.trans h.tape, k.output.trans h.output, Nat.le_trans h.size k.size, fun i hi hr => (k.block i (Nat.lt_of_lt_of_le hi h.size) hr).trans (h.block i hi hr)⟩
theorem gr_set (h : w.grownBy w1 row) {p : Addr} (hp : some p.block = row ∨ w.heap.size ≤ p.block) (u : Value) : w.grownBy (w1.setCell p u) row :=
  ⟨h.os, h.tape, h.output, by rw [World.size_setCell]; exact h.size, fun i hi hr => (Below.heap_setCell w1 p u i (by rintro rfl; rcases hp with hp | hp; exact hr hp; omega)).trans (h.block i hi hr)⟩
theorem gr_alloc (h : w.grownBy w1 row) (o : Obj) : w.grownBy (w1.alloc o) row :=
  ⟨h.os, h.tape, h.output, Nat.le_trans h.size (by show _ ≤ (w1.heap.push o).size; simp), fun i hi hr => by
    have hl : i < w1.heap.size := Nat.lt_of_lt_of_le hi h.size
    show (w1.heap.push o)[i]? = _
    rw [Array.getElem?_push_lt hl, ← Array.getElem?_eq_getElem hl]; exact h.block i hi hr⟩
theorem gr_drewN (h : w.grownBy w1 row) (n : Nat) : w.grownBy (w1.drewN n) row := ⟨h.os, h.tape, h.output, h.size, h.block⟩
/-- What was written to a new block is new. -/
theorem gr_sub (h : w.grownBy w1 row) {b : Nat} (hb : w.heap.size ≤ b) (k : w1.grownBy w2 (some b)) : w.grownBy w2 row :=
  ⟨k.os.trans h.os, k.tape.trans h.tape, k.output.trans h.output, Nat.le_trans h.size k.size, fun i hi hr => (k.block i (Nat.lt_of_lt_of_le hi h.size) (by intro e; injection e with e; omega)).trans (h.block i hi hr)⟩
end
/-- The cells of a node of the trie. -/
def nodeL (val : ByteArray) (p : Int) (pre : ByteArray) (nx : Option Addr) : List Value := [.string val, .int .i64 p, .string pre, .pointer nx, .slice none 0 0]

structure AddEnd (b : Nat) (val : ByteArray) (p : Int) (w w' : World) : Prop where
  grown : w.grownBy w' (some b)
  node : BlkL w' b 178 (nodeL val p ⟨#[]⟩ none)
set_option maxRecDepth 100000 in
set_option maxHeartbeats 2000000 in
theorem add_end (b : Nat) (val : ByteArray) (p : Int) (r : Value) (w : World) (h : BlkL w b 178 (nodeL ⟨#[]⟩ 0 ⟨#[]⟩ none)) :
    Calls Tryz.prog 150 #[.pointer (some ⟨b, 0, none⟩), .string ⟨#[]⟩, .string val, .int .i64 p, r] w fun e w' => e = .returned (.tuple #[]) ∧ AddEnd b val p w w' := by
  have c0 := h.cell (i := 0) rfl
  have c1 := h.cell (i := 1) rfl
  have f0 := h.f 0
  have f1 := h.f 1
  have H := Lib.hid h; clear h
  go_enter Tryz.func150, Tryz.ntmps150
  go_wp2_with fail
  refine bodyPost_ret (results_none rfl _ _ _) rfl ?_
  exact ⟨rfl, gr_set (gr_set (gr_refl w (some b)) (.inl rfl) _) (.inl rfl) _, (H.out.set_ 0 _).set_ 1 _⟩
/-- A key that is not empty, at a node that is empty: its prefix, and behind it a node of its own. -/
structure AddTail (b : Nat) (key val : ByteArray) (p : Int) (w w' : World) : Prop where
  grown : w.grownBy w' (some b)
  node : BlkL w' b 178 (nodeL ⟨#[]⟩ 0 key (some ⟨w.heap.size, 0, none⟩))
  tail : BlkL w' w.heap.size 178 (nodeL val p ⟨#[]⟩ none)
set_option maxRecDepth 100000 in
set_option maxHeartbeats 2000000 in
theorem add_tail (b : Nat) (c : UInt8) (r : Bs) (val : ByteArray) (p : Int) (q : Value) (w : World) (h : BlkL w b 178 (nodeL ⟨#[]⟩ 0 ⟨#[]⟩ none)) :
    Calls Tryz.prog 150 #[.pointer (some ⟨b, 0, none⟩), .string ⟨(c :: r).toArray⟩, .string val, .int .i64 p, q] w fun e w' => e = .returned (.tuple #[]) ∧ AddTail b ⟨(c :: r).toArray⟩ val p w w' := by
  have c0 := h.cell (i := 0) rfl
  have c1 := h.cell (i := 1) rfl
  have c2 := h.cell (i := 2) rfl
  have c3 := h.cell (i := 3) rfl
  have c4 := h.cell (i := 4) rfl
  have f2 := h.f 2
  have f3 := h.f 3
  have hne : ((c :: r) == ([] : Bs)) = false := rfl
  have qT := fun (w : World) (a : Option Addr) (n c n' c' : Nat) => run_neq_slice_nil_any w 176 175 a n c n' c' Tryz.underlying176
  have hw1 := (h.set_ 2 (.string ⟨(c :: r).toArray⟩)).alloc (.cells (nodeL ⟨#[]⟩ 0 ⟨#[]⟩ none).toArray 178)
  have d3 : ((w.setCell ⟨b, 2, none⟩ (.string ⟨(c :: r).toArray⟩)).alloc (.cells #[.string ⟨#[]⟩, .int .i64 0, .string ⟨#[]⟩, .pointer none, .slice none 0 0] 178)).cell? ⟨b, 3, none⟩ = some (.pointer none) := hw1.cell rfl
  have g3 : ((w.setCell ⟨b, 2, none⟩ (.string ⟨(c :: r).toArray⟩)).alloc (.cells #[.string ⟨#[]⟩, .int .i64 0, .string ⟨#[]⟩, .pointer none, .slice none 0 0] 178)).frozen? ⟨b, 3, none⟩ = false := hw1.f 3
  have hn : BlkL (((w.setCell ⟨b, 2, none⟩ (.string ⟨(c :: r).toArray⟩)).setCell ⟨b, 3, none⟩ (.pointer (some ⟨w.heap.size, 0, none⟩))).alloc (.cells #[.string ⟨#[]⟩, .int .i64 0, .string ⟨#[]⟩, .pointer none, .slice none 0 0] 178)) w.heap.size 178 (nodeL ⟨#[]⟩ 0 ⟨#[]⟩ none) := by
    have := BlkL.new ((w.setCell ⟨b, 2, none⟩ (.string ⟨(c :: r).toArray⟩)).setCell ⟨b, 3, none⟩ (.pointer (some ⟨w.heap.size, 0, none⟩))) 178 (nodeL ⟨#[]⟩ 0 ⟨#[]⟩ none)
    rw [World.size_setCell, World.size_setCell] at this
    exact this
  have hbs := h.lt
  have HE := Lib.hid (add_end w.heap.size val p q _ hn)
  have HB := Lib.hid (((h.set_ 2 (.string ⟨(c :: r).toArray⟩)).set_ 3 (.pointer (some ⟨w.heap.size, 0, none⟩))).alloc (.cells #[.string ⟨#[]⟩, .int .i64 0, .string ⟨#[]⟩, .pointer none, .slice none 0 0] 178))
  have H := Lib.hid h; clear h hn hw1
  go_enter Tryz.func150, Tryz.ntmps150
  go_wp2_with fail
  refine HE.out.mono ?_
  rintro e w2 ⟨rfl, h2⟩
  have H2 := Lib.hid h2; clear h2
  go_wp2_with fail
  go_end0
  refine ⟨rfl, ?_, ?_, H2.out.node⟩
  · exact gr_sub (gr_alloc (gr_set (gr_set (gr_refl w (some b)) (.inl rfl) _) (.inl rfl) _) _) (Nat.le_refl _) H2.out.grown
  · exact (HB.out).grown H2.out.grown (by intro e; injection e with e; omega)
end Go.Proofs.YtjlgbkedbbailaaGreatDoor.Mu
namespace Go.Proofs.YtjlgbkedbbailaaGreatDoor.Mu
open Go.RowKit
/-- The cells of a replacer whose root has a table alone. -/
def grL (tbl : Value) (ts : Int) (m : List Int) : List Value :=
  .string ⟨#[]⟩ :: .int .i64 0 :: .string ⟨#[]⟩ :: .pointer none :: tbl :: .int .i64 ts :: m.map fun x => .int .u8 x
theorem grL_map (tbl : Value) (ts : Int) (m : List Int) (k : Nat) (x : Int) (h : m[k]? = some x) : (grL tbl ts m)[6 + k]? = some (.int .u8 x) := by
  rw [show 6 + k = k + 6 from by omega]
  show (m.map fun x => Value.int .u8 x)[k]? = _
  simp [h]
theorem grL_set (tbl : Value) (ts : Int) (m : List Int) (k : Nat) (x : Int) : (grL tbl ts m).set (6 + k) (.int .u8 x) = grL tbl ts (m.set k x) := by
  rw [show 6 + k = k + 6 from by omega]
  simp only [grL, List.set_cons_succ, List.map_set]
theorem ext_drop1 (c : UInt8) (r : Bs) : (⟨(c :: r).toArray⟩ : ByteArray).extract 1 (r.length + 1) = ⟨r.toArray⟩ := by
  apply ByteArray.ext
  simp [ByteArray.data_extract]
structure AddTable (tb mc nb : Nat) (ptrs : List Value) (Q : World → Prop) (w w' : World) : Prop where
  grown : w.grownBy w' (some tb)
  post : Q w'
  table : BlkL w' tb 175 (ptrs.set mc (.pointer (some ⟨nb, 0, none⟩)))
set_option maxRecDepth 100000 in
set_option maxHeartbeats 4000000 in
theorem add_table (g tb mc : Nat) (c : UInt8) (r : Bs) (val : ByteArray) (p : Int) (m : List Int) (ptrs : List Value) (w : World) (Q : World → Prop)
    (hg : BlkL w g 180 (grL (.slice (some ⟨tb, 0, none⟩) 5 5) 5 m)) (ht : BlkL w tb 175 ptrs) (hne : g ≠ tb)
    (hm : m[c.toNat]? = some (mc : Int)) (hmc : mc < 5) (hp : ptrs[mc]? = some (.pointer none))
    (hcall : ∀ w1, BlkL w1 w.heap.size 178 (nodeL ⟨#[]⟩ 0 ⟨#[]⟩ none) → Calls Tryz.prog 150 #[.pointer (some ⟨w.heap.size, 0, none⟩), .string ⟨r.toArray⟩, .string val, .int .i64 p, .pointer (some ⟨g, 0, none⟩)] w1 fun e w' => e = .returned (.tuple #[]) ∧ w1.grownBy w' (some w.heap.size) ∧ Q w') :
    Calls Tryz.prog 150 #[.pointer (some ⟨g, 0, none⟩), .string ⟨(c :: r).toArray⟩, .string val, .int .i64 p, .pointer (some ⟨g, 0, none⟩)] w fun e w' => e = .returned (.tuple #[]) ∧ AddTable tb mc w.heap.size ptrs Q w w' := by
  have c2 := hg.cell (i := 2) rfl
  have c4 := hg.cell (i := 4) rfl
  have cm := hg.cell (grL_map _ _ _ _ _ hm)
  have ct := ht.cell hp
  have ft := ht.f mc
  have hcb := c.toNat_lt
  have hx := ext_drop1 c r
  have hi : ∀ h, (⟨(c :: r).toArray⟩ : ByteArray)[0]'h = c := fun _ => rfl
  have hne2 : ((c :: r) == ([] : Bs)) = false := rfl
  have qT := fun (w : World) (a : Option Addr) (n c n' c' : Nat) => run_neq_slice_nil_any w 176 175 a n c n' c' Tryz.underlying176
  have HG := Lib.hid hg
  have HT := Lib.hid ht
  have HC := Lib.hid hcall
  have HP := Lib.hid hp
  clear hg ht hcall hm hp
  go_enter Tryz.func150, Tryz.ntmps150
  go_wp2_with fail
  go_quiet (fail)
  have HG1 := Lib.hid (HG.out.drewN nq)
  have HT1 := Lib.hid (HT.out.drewN nq)
  have hgr1 := gr_drewN (gr_refl w (some tb)) nq
  have hsz : (w.drewN nq).heap.size = w.heap.size := rfl
  generalize w.drewN nq = wd at *
  have HGR := Lib.hid hgr1
  have HSZ := Lib.hid hsz
  clear hgr1 c2 c4 cm ct ft
  have c4 := HG1.out.cell (i := 4) rfl
  have ct := HT1.out.cell HP.out
  have hw1 := HT1.out.alloc (.cells #[.string ⟨#[]⟩, .int .i64 0, .string ⟨#[]⟩, .pointer none, .slice none 0 0] 178)
  have c4' : (wd.alloc (.cells #[.string ⟨#[]⟩, .int .i64 0, .string ⟨#[]⟩, .pointer none, .slice none 0 0] 178)).cell? ⟨g, 4, none⟩ = some (.slice (some ⟨tb, 0, none⟩) 5 5) := (HG1.out.alloc _).cell rfl
  have ct' : (wd.alloc (.cells #[.string ⟨#[]⟩, .int .i64 0, .string ⟨#[]⟩, .pointer none, .slice none 0 0] 178)).cell? ⟨tb, mc, none⟩ = some (.pointer none) := hw1.cell HP.out
  have ft' : (wd.alloc (.cells #[.string ⟨#[]⟩, .int .i64 0, .string ⟨#[]⟩, .pointer none, .slice none 0 0] 178)).frozen? ⟨tb, mc, none⟩ = false := hw1.f mc
  clear hw1 hsz
  have hlt := HT1.out.lt
  have hlg := HG1.out.lt
  go_wp2_with fail
  clear c4' ct' ft' c4 ct
  have hT2 := (HT1.out.set_ mc (.pointer (some ⟨wd.heap.size, 0, none⟩))).alloc (.cells #[.string ⟨#[]⟩, .int .i64 0, .string ⟨#[]⟩, .pointer none, .slice none 0 0] 178)
  have hG2 := (HG1.out.far (p := ⟨tb, mc, none⟩) hne (.pointer (some ⟨wd.heap.size, 0, none⟩))).alloc (.cells #[.string ⟨#[]⟩, .int .i64 0, .string ⟨#[]⟩, .pointer none, .slice none 0 0] 178)
  have hN2 := BlkL.new (wd.setCell ⟨tb, mc, none⟩ (.pointer (some ⟨wd.heap.size, 0, none⟩))) 178 (nodeL ⟨#[]⟩ 0 ⟨#[]⟩ none)
  rw [World.size_setCell, HSZ.out] at hN2
  rw [HSZ.out] at hT2 hG2 hlt hlg
  have hGR2 := gr_alloc (gr_set HGR.out (p := ⟨tb, mc, none⟩) (.inl rfl) (.pointer (some ⟨w.heap.size, 0, none⟩))) (.cells #[.string ⟨#[]⟩, .int .i64 0, .string ⟨#[]⟩, .pointer none, .slice none 0 0] 178)
  have hs1 := HSZ.out
  simp only [hs1]
  clear hs1
  change BlkL ((wd.setCell ⟨tb, mc, none⟩ (.pointer (some ⟨w.heap.size, 0, none⟩))).alloc (.cells #[.string ⟨#[]⟩, .int .i64 0, .string ⟨#[]⟩, .pointer none, .slice none 0 0] 178)) _ _ _ at hN2
  generalize (wd.setCell ⟨tb, mc, none⟩ (.pointer (some ⟨w.heap.size, 0, none⟩))).alloc (.cells #[.string ⟨#[]⟩, .int .i64 0, .string ⟨#[]⟩, .pointer none, .slice none 0 0] 178) = W at *
  have c4 := hG2.cell (i := 4) rfl
  have hml : mc < ptrs.length := (List.getElem?_eq_some_iff.1 HP.out).1
  have ct := hT2.cell (i := mc) (by rw [List.getElem?_set_self hml])
  have HT2 := Lib.hid hT2
  have HN2 := Lib.hid hN2
  have HGR2 := Lib.hid hGR2
  have HNE := Lib.hid hne
  clear hT2 hG2 hN2 hGR2 hne
  have hmi : (mc : Int) < 5 := by omega
  have hmi0 : (0 : Int) ≤ (mc : Int) := by omega
  have hrl : (1 : Int) ≤ (r.length : Int) + 1 := by omega
  go_still_tail 12, (by kernel_rfl)
  change wpList _ _ _ _ _ W.drew
  go_wp2_with fail
  refine (HC.out W.drew HN2.out).mono ?_
  rintro e w2 ⟨rfl, h2, hq⟩
  have H2 := Lib.hid h2
  have HQ := Lib.hid hq
  clear h2 hq
  go_wp2_with fail
  go_end0
  refine ⟨rfl, ?_, HQ.out, ?_⟩
  · exact gr_sub (gr_drewN HGR2.out 1) (Nat.le_refl _) H2.out
  · exact (HT2.out.drewN 1).grown H2.out (by intro e; injection e with e; omega)
end Go.Proofs.YtjlgbkedbbailaaGreatDoor.Mu
namespace Go.Proofs.YtjlgbkedbbailaaGreatDoor.Mu
open Go.RowKit
/-- The world while nothing but draws have been made. -/
def Dr (w w' : World) : Prop := ∃ n, w' = w.drewN n
set_option maxRecDepth 100000 in
set_option maxHeartbeats 4000000 in
/-- One byte is a key whole, and no key goes on behind it. -/
theorem lookup_leaf (g tb b mc : Nat) (c : UInt8) (r : Bs) (val : ByteArray) (p : Int) (m : List Int) (ptrs : List Value) (w : World)
    (hg : BlkL w g 180 (grL (.slice (some ⟨tb, 0, none⟩) 5 5) 5 m)) (ht : BlkL w tb 175 ptrs)
    (hb : BlkL w b 178 (nodeL val p ⟨#[]⟩ none)) (hp0 : 0 < p)
    (hm : m[c.toNat]? = some (mc : Int)) (hmc : mc < 5) (hp : ptrs[mc]? = some (.pointer (some ⟨b, 0, none⟩))) :
    Calls Tryz.prog 216 #[.pointer (some ⟨g, 0, none⟩), .string ⟨(c :: r).toArray⟩, .bool false] w fun e w' => e = .returned (.tuple #[.string val, .int .i64 1, .bool true]) ∧ Dr w w' := by
  have c1 := hg.cell (i := 1) rfl
  have c4 := hg.cell (i := 4) rfl
  have c5 := hg.cell (i := 5) rfl
  have cm := hg.cell (grL_map _ _ _ _ _ hm)
  have ct := ht.cell hp
  have b0 := hb.cell (i := 0) rfl
  have b1 := hb.cell (i := 1) rfl
  have b2 := hb.cell (i := 2) rfl
  have b4 := hb.cell (i := 4) rfl
  have hcb := c.toNat_lt
  have hx := ext_drop1 c r
  have hi : ∀ h, (⟨(c :: r).toArray⟩ : ByteArray)[0]'h = c := fun _ => rfl
  have hne2 : ((c :: r) == ([] : Bs)) = false := rfl
  have qT := fun (w : World) (a : Option Addr) (n c n' c' : Nat) => run_neq_slice_nil_any w 176 175 a n c n' c' Tryz.underlying176
  have hmi : (mc : Int) < 5 := by omega
  have hmi0 : (0 : Int) ≤ (mc : Int) := by omega
  have hmn : ((mc : Int) == 5) = false := by rw [beq_eq_false_iff_ne]; omega
  have hrl : (1 : Int) ≤ (r.length : Int) + 1 := by omega
  clear hg ht hb hp hm
  go_enter Tryz.func216, Tryz.ntmps216
  go_wp2_with fail
  refine wp_loop_rounds 2 ?_
  rw [rounds_succ]
  go_wp2_with fail
  go_quiet (fail)
  go_wp2_with fail
  rw [rounds_succ]
  go_wp2_with fail
  all_goals
    go_ret3
    exact ⟨rfl, nq, rfl⟩
theorem hasPrefix_any (s p : Bs) (w : World) : Calls Tryz.prog 168 #[.string ⟨s.toArray⟩, .string ⟨p.toArray⟩] w fun e w' => e = .returned (.bool (p.isPrefixOf s)) ∧ w = w' := by
  refine (Tryz.strings_HasPrefix ⟨s.toArray⟩ ⟨p.toArray⟩ w).mono ?_
  rintro e w' ⟨rfl, rfl⟩
  exact ⟨rfl, rfl⟩
theorem hasPrefix_yes (p r : Bs) (w : World) : Calls Tryz.prog 168 #[.string ⟨(p ++ r).toArray⟩, .string ⟨p.toArray⟩] w fun e w' => e = .returned (.bool true) ∧ w = w' := by
  have := hasPrefix_any (p ++ r) p w
  rw [show p.isPrefixOf (p ++ r) = true by rw [List.isPrefixOf_iff_prefix]; exact ⟨r, rfl⟩] at this
  exact this
theorem hasPrefix_no (s p : Bs) (w : World) (h : p.isPrefixOf s = false) : Calls Tryz.prog 168 #[.string ⟨s.toArray⟩, .string ⟨p.toArray⟩] w fun e w' => e = .returned (.bool false) ∧ w = w' := by
  have := hasPrefix_any s p w
  rw [h] at this
  exact this
set_option maxRecDepth 100000 in
set_option maxHeartbeats 4000000 in
/-- A key of two bytes: both stand there. -/
theorem lookup_two (g tb b b2 mc : Nat) (c d : UInt8) (r : Bs) (val : ByteArray) (p : Int) (m : List Int) (ptrs : List Value) (w : World)
    (hg : BlkL w g 180 (grL (.slice (some ⟨tb, 0, none⟩) 5 5) 5 m)) (ht : BlkL w tb 175 ptrs)
    (hb : BlkL w b 178 (nodeL ⟨#[]⟩ 0 ⟨[d].toArray⟩ (some ⟨b2, 0, none⟩))) (hb2 : BlkL w b2 178 (nodeL val p ⟨#[]⟩ none)) (hp0 : 0 < p)
    (hm : m[c.toNat]? = some (mc : Int)) (hmc : mc < 5) (hp : ptrs[mc]? = some (.pointer (some ⟨b, 0, none⟩))) :
    Calls Tryz.prog 216 #[.pointer (some ⟨g, 0, none⟩), .string ⟨(c :: d :: r).toArray⟩, .bool false] w fun e w' => e = .returned (.tuple #[.string val, .int .i64 2, .bool true]) ∧ Dr w w' := by
  have c1 := hg.cell (i := 1) rfl
  have c4 := hg.cell (i := 4) rfl
  have c5 := hg.cell (i := 5) rfl
  have cm := hg.cell (grL_map _ _ _ _ _ hm)
  have ct := ht.cell hp
  have b1 := hb.cell (i := 1) rfl
  have b2' := hb.cell (i := 2) rfl
  have b3 := hb.cell (i := 3) rfl
  have b4 := hb.cell (i := 4) rfl
  have e0 := hb2.cell (i := 0) rfl
  have e1 := hb2.cell (i := 1) rfl
  have e2 := hb2.cell (i := 2) rfl
  have e4 := hb2.cell (i := 4) rfl
  have hcb := c.toNat_lt
  have hx : (⟨(c :: d :: r).toArray⟩ : ByteArray).extract 1 (r.length + 1 + 1) = ⟨(d :: r).toArray⟩ := ext_drop1 c (d :: r)
  have hx2 := ext_drop1 d r
  have hi : ∀ h, (⟨(c :: d :: r).toArray⟩ : ByteArray)[0]'h = c := fun _ => rfl
  have hne2 : ((c :: d :: r) == ([] : Bs)) = false := rfl
  have hne3 : ((d :: r) == ([] : Bs)) = false := rfl
  have hrl : (1 : Int) ≤ ((d :: r).length : Int) + 1 := by omega
  have hrl2 : (1 : Int) ≤ (r.length : Int) + 1 := by omega
  have hrl3 : (1 : Int) ≤ (r.length : Int) + 1 + 1 := by omega
  have HP := Lib.hid (fun w => hasPrefix_yes [d] r w)

  have qT := fun (w : World) (a : Option Addr) (n c n' c' : Nat) => run_neq_slice_nil_any w 176 175 a n c n' c' Tryz.underlying176
  have hmi : (mc : Int) < 5 := by omega
  have hmi0 : (0 : Int) ≤ (mc : Int) := by omega
  have hmn : ((mc : Int) == 5) = false := by rw [beq_eq_false_iff_ne]; omega
  clear hg ht hb hb2 hp hm
  go_enter Tryz.func216, Tryz.ntmps216
  go_wp2_with fail
  refine wp_loop_rounds 3 ?_
  rw [rounds_succ]
  go_wp2_with fail
  go_quiet (fail)
  go_wp2_with fail
  rw [rounds_succ]
  go_wp2_with fail
  refine (HP.out _).mono ?_
  rintro e w2 ⟨rfl, rfl⟩
  go_wp2_with fail
  rw [rounds_succ]
  go_wp2_with fail
  all_goals
    go_ret3
    exact ⟨rfl, nq, rfl⟩
set_option maxRecDepth 100000 in
set_option maxHeartbeats 4000000 in
/-- A key of two bytes: the second is another. -/
theorem lookup_other (g tb b b2 mc : Nat) (c d x : UInt8) (r : Bs) (val : ByteArray) (p : Int) (m : List Int) (ptrs : List Value) (w : World)
    (hg : BlkL w g 180 (grL (.slice (some ⟨tb, 0, none⟩) 5 5) 5 m)) (ht : BlkL w tb 175 ptrs)
    (hb : BlkL w b 178 (nodeL ⟨#[]⟩ 0 ⟨[d].toArray⟩ (some ⟨b2, 0, none⟩))) (hb2 : BlkL w b2 178 (nodeL val p ⟨#[]⟩ none)) (hp0 : 0 < p)
    (hm : m[c.toNat]? = some (mc : Int)) (hmc : mc < 5) (hp : ptrs[mc]? = some (.pointer (some ⟨b, 0, none⟩))) (hxd : x ≠ d) :
    Calls Tryz.prog 216 #[.pointer (some ⟨g, 0, none⟩), .string ⟨(c :: x :: r).toArray⟩, .bool false] w fun e w' => e = .returned (.tuple #[.string ⟨#[]⟩, .int .i64 0, .bool false]) ∧ Dr w w' := by
  have c1 := hg.cell (i := 1) rfl
  have c4 := hg.cell (i := 4) rfl
  have c5 := hg.cell (i := 5) rfl
  have cm := hg.cell (grL_map _ _ _ _ _ hm)
  have ct := ht.cell hp
  have b1 := hb.cell (i := 1) rfl
  have b2' := hb.cell (i := 2) rfl
  have b3 := hb.cell (i := 3) rfl
  have b4 := hb.cell (i := 4) rfl
  have e0 := hb2.cell (i := 0) rfl
  have e1 := hb2.cell (i := 1) rfl
  have e2 := hb2.cell (i := 2) rfl
  have e4 := hb2.cell (i := 4) rfl
  have hcb := c.toNat_lt
  have hx : (⟨(c :: x :: r).toArray⟩ : ByteArray).extract 1 (r.length + 1 + 1) = ⟨(x :: r).toArray⟩ := ext_drop1 c (x :: r)
  have hx2 := ext_drop1 x r
  have hi : ∀ h, (⟨(c :: x :: r).toArray⟩ : ByteArray)[0]'h = c := fun _ => rfl
  have hne2 : ((c :: x :: r) == ([] : Bs)) = false := rfl
  have hne3 : ((x :: r) == ([] : Bs)) = false := rfl
  have hrl : (1 : Int) ≤ ((x :: r).length : Int) + 1 := by omega
  have hrl2 : (1 : Int) ≤ (r.length : Int) + 1 := by omega
  have hrl3 : (1 : Int) ≤ (r.length : Int) + 1 + 1 := by omega
  have HP := Lib.hid (fun w => hasPrefix_no (x :: r) [d] w (by simp [List.isPrefixOf]; exact fun e => hxd e.symm))

  have qT := fun (w : World) (a : Option Addr) (n c n' c' : Nat) => run_neq_slice_nil_any w 176 175 a n c n' c' Tryz.underlying176
  have hmi : (mc : Int) < 5 := by omega
  have hmi0 : (0 : Int) ≤ (mc : Int) := by omega
  have hmn : ((mc : Int) == 5) = false := by rw [beq_eq_false_iff_ne]; omega
  clear hg ht hb hb2 hp hm hxd
  go_enter Tryz.func216, Tryz.ntmps216
  go_wp2_with fail
  refine wp_loop_rounds 3 ?_
  rw [rounds_succ]
  go_wp2_with fail
  go_quiet (fail)
  go_wp2_with fail
  rw [rounds_succ]
  go_wp2_with fail
  refine (HP.out _).mono ?_
  rintro e w2 ⟨rfl, rfl⟩
  go_wp2_with fail
  go_ret3
  exact ⟨rfl, nq, rfl⟩
set_option maxRecDepth 100000 in
set_option maxHeartbeats 4000000 in
/-- A key of two bytes: nothing stands behind the first. -/
theorem lookup_short (g tb b b2 mc : Nat) (c d : UInt8) (val : ByteArray) (p : Int) (m : List Int) (ptrs : List Value) (w : World)
    (hg : BlkL w g 180 (grL (.slice (some ⟨tb, 0, none⟩) 5 5) 5 m)) (ht : BlkL w tb 175 ptrs)
    (hb : BlkL w b 178 (nodeL ⟨#[]⟩ 0 ⟨[d].toArray⟩ (some ⟨b2, 0, none⟩))) (hb2 : BlkL w b2 178 (nodeL val p ⟨#[]⟩ none)) (hp0 : 0 < p)
    (hm : m[c.toNat]? = some (mc : Int)) (hmc : mc < 5) (hp : ptrs[mc]? = some (.pointer (some ⟨b, 0, none⟩))) :
    Calls Tryz.prog 216 #[.pointer (some ⟨g, 0, none⟩), .string ⟨(c :: []).toArray⟩, .bool false] w fun e w' => e = .returned (.tuple #[.string ⟨#[]⟩, .int .i64 0, .bool false]) ∧ Dr w w' := by
  have c1 := hg.cell (i := 1) rfl
  have c4 := hg.cell (i := 4) rfl
  have c5 := hg.cell (i := 5) rfl
  have cm := hg.cell (grL_map _ _ _ _ _ hm)
  have ct := ht.cell hp
  have b1 := hb.cell (i := 1) rfl
  have b2' := hb.cell (i := 2) rfl
  have b3 := hb.cell (i := 3) rfl
  have b4 := hb.cell (i := 4) rfl
  have e0 := hb2.cell (i := 0) rfl
  have e1 := hb2.cell (i := 1) rfl
  have e2 := hb2.cell (i := 2) rfl
  have e4 := hb2.cell (i := 4) rfl
  have hcb := c.toNat_lt
  have hx : (⟨(c :: []).toArray⟩ : ByteArray).extract 1 1 = ⟨([] : Bs).toArray⟩ := ext_drop1 c []
  have hi : ∀ h, (⟨(c :: []).toArray⟩ : ByteArray)[0]'h = c := fun _ => rfl
  have hne2 : ((c :: []) == ([] : Bs)) = false := rfl
  have qT := fun (w : World) (a : Option Addr) (n c n' c' : Nat) => run_neq_slice_nil_any w 176 175 a n c n' c' Tryz.underlying176
  have hmi : (mc : Int) < 5 := by omega
  have hmi0 : (0 : Int) ≤ (mc : Int) := by omega
  have hmn : ((mc : Int) == 5) = false := by rw [beq_eq_false_iff_ne]; omega
  clear hg ht hb hb2 hp hm
  go_enter Tryz.func216, Tryz.ntmps216
  go_wp2_with fail
  refine wp_loop_rounds 3 ?_
  rw [rounds_succ]
  go_wp2_with fail
  go_quiet (fail)
  go_wp2_with fail
  rw [rounds_succ]
  go_wp2_with fail
  go_ret3
  exact ⟨rfl, nq, rfl⟩
set_option maxRecDepth 100000 in
set_option maxHeartbeats 4000000 in
/-- No key is empty. -/
theorem lookup_empty (g tb : Nat) (m : List Int) (w : World)
    (hg : BlkL w g 180 (grL (.slice (some ⟨tb, 0, none⟩) 5 5) 5 m)) :
    Calls Tryz.prog 216 #[.pointer (some ⟨g, 0, none⟩), .string ⟨#[]⟩, .bool false] w fun e w' => e = .returned (.tuple #[.string ⟨#[]⟩, .int .i64 0, .bool false]) ∧ Dr w w' := by
  have c1 := hg.cell (i := 1) rfl
  have HG := Lib.hid hg
  clear hg
  go_enter Tryz.func216, Tryz.ntmps216
  go_wp2_with fail
  refine wp_loop_rounds 1 ?_
  rw [rounds_succ]
  go_wp2_with fail
  go_ret3
  exact ⟨rfl, 0, rfl⟩
end Go.Proofs.YtjlgbkedbbailaaGreatDoor.Mu
namespace Go.Proofs.YtjlgbkedbbailaaGreatDoor.Mu
open Go.RowKit
def keyOf (k : Nat) : Bs := [[38], [60], [62], [194, 160]].getD k []
def valOf (k : Nat) : Bs := [[38, 97, 109, 112, 59], [38, 108, 116, 59], [38, 103, 116, 59], [38, 110, 98, 115, 112, 59]].getD k []
def mark (m : List Int) (key : Bs) : List Int := key.foldl (fun m c => m.set c.toNat 1) m
def marks : Nat → List Int
  | 0 => List.replicate 256 0
  | k + 1 => mark (marks k) (keyOf k)
theorem mark_length (key : Bs) : ∀ m, (mark m key).length = m.length := by
  induction key with
  | nil => intro m; rfl
  | cons c r ih => intro m; show (mark (m.set c.toNat 1) r).length = _; rw [ih]; simp
theorem marks_length : ∀ k, (marks k).length = 256
  | 0 => List.length_replicate
  | k + 1 => by rw [marks, mark_length, marks_length k]
theorem mark_take (m : List Int) (key : Bs) (n : Nat) (h : n < key.length) : mark m (key.take (n + 1)) = (mark m (key.take n)).set key[n].toNat 1 := by
  unfold mark
  rw [List.take_succ_eq_append_getElem h, List.foldl_append]
  rfl
theorem zero_cells : Tryz.zeroCells180 = (grL (.slice none 0 0) 0 (List.replicate 256 0)).toArray := by kernel_rfl
structure MkA (w : World) (k : Nat) (wr : World) : Prop where
  blk : BlkL wr w.heap.size 180 (grL (.slice none 0 0) 0 (marks k))
  below : Below w.heap.size w wr
structure MkI (w : World) (k n : Nat) (wr : World) : Prop where
  blk : BlkL wr w.heap.size 180 (grL (.slice none 0 0) 0 (mark (marks k) ((keyOf k).take n)))
  below : Below w.heap.size w wr
theorem MkA.start (w : World) : MkA w 0 (w.alloc (.cells Tryz.zeroCells180 180)) := by
  rw [zero_cells]
  exact ⟨BlkL.new w _ _, (Below.refl _ _).alloc (Nat.le_refl _) _⟩
theorem MkI.start {w wr : World} {k : Nat} (h : MkA w k wr) : MkI w k 0 wr := ⟨h.blk, h.below⟩
theorem MkI.fin {w wr : World} {k : Nat} (h : MkI w k (keyOf k).length wr) : MkA w (k + 1) wr := ⟨by have := h.blk; rw [List.take_length] at this; exact this, h.below⟩
theorem MkI.old {w wr : World} {k n : Nat} (h : MkI w k n wr) (c : UInt8) : ∃ x, wr.cell? ⟨w.heap.size, 6 + c.toNat, none⟩ = some (.int .u8 x) := by
  have hl : c.toNat < (mark (marks k) ((keyOf k).take n)).length := by rw [mark_length, marks_length]; exact c.toNat_lt
  exact ⟨_, h.blk.cell (grL_map _ _ _ _ _ (List.getElem?_eq_getElem hl))⟩
theorem MkI.step {w wr : World} {k n : Nat} (h : MkI w k n wr) (hn : n < (keyOf k).length) {c : UInt8} (hc : (keyOf k)[n] = c) : MkI w k (n + 1) ((wr.setCell ⟨w.heap.size, 6 + c.toNat, none⟩ (.int .u8 1)).drew) := by
  refine ⟨?_, (h.below.setCell (Nat.le_refl _) _).drew⟩
  have := h.blk.set_ (6 + c.toNat) (.int .u8 1)
  rw [grL_set] at this
  rw [mark_take _ _ _ hn, hc]
  exact this
theorem cell_below {w w1 : World} (h : Below w.heap.size w w1) {a : Addr} {v : Value} (hc : w.cell? a = some v) : w1.cell? a = some v := (h.cell (World.block_lt_of_cell? w a hc)).trans hc
theorem keyOf_len (k : Nat) : (keyOf k).length ≤ 2 := by
  rcases k with _ | _ | _ | _ | k <;> simp [keyOf]
section
variable {P : Program}
theorem run_loadVar_mid (w : World) (p : Addr) (ty : TypeId) (cs : Array Value) (d : TypeDesc) (hc : ∀ j v, cs[j]? = some v → w.cell? (p.add j) = some v)
    (hu : P.underlying ty = some d) (hd : (match d with | .struct _ | .array _ _ => true | _ => false) = true) (hi : (P.info? ty).map (·.size) = some cs.size) :
    (loadVar ty p).run P w = .ok (.agg cs) w := by
  have hl : (loadCells p cs.toList.length).run P w = .ok cs.toList.toArray w :=
    run_loadCells_list (P := P) w p cs.toList (fun j v hv => hc j v (by simpa using hv))
  cases hq : P.info? ty with
  | none => simp [hq] at hi
  | some i =>
    have hs : i.size = cs.size := by simpa [hq] using hi
    have hagg : (isAgg ty).run P w = .ok true w := by
      unfold isAgg
      rw [Sem.run_bind, run_underlying hu w]
      cases d <;> simp_all
    simp only [Array.length_toList, Array.toArray_toList] at hl
    simp [loadVar, Sem.run_bind, hagg, sizeOf, typeInfo, hq, hs, hl]
theorem wpList_load_mid {ops : Array Oper} {rest : List Oper} {o : Oper} {a : Act} {w : World} {Q : Exit → Act → World → Prop} (hgd : o.guard = none) (ty : TypeId) (x : Operand) (ho : o.op = .load ty x)
    (p : Addr) (hx : a.eval x = .pointer (some p)) (cs : Array Value) (d : TypeDesc) (hc : ∀ j v, cs[j]? = some v → w.cell? (p.add j) = some v)
    (hu : P.underlying ty = some d) (hd : (match d with | .struct _ | .array _ _ => true | _ => false) = true) (hi : (P.info? ty).map (·.size) = some cs.size)
    (h : wpList P ops Q rest (a.put o.dst (.agg cs)) w) : wpList P ops Q (o :: rest) a w :=
  wpList_plain hgd fun _ hK => by
    have := hK _ _ h
    unfold Oper.wp execOp
    simp only [ho, hx, Instr.loadAt, Instr.sureAddr, Sem.run_bind, Sem.run_pure, Result.andThen_ok, run_loadVar_mid w p ty cs d hc hu hd hi]
    exact this
end
def sumTo (k : Nat) : Int := ((marks 4).take k).sum
def codeAt (i : Nat) : Int := if i = 38 then 0 else if i = 60 then 1 else if i = 62 then 2 else if i = 160 then 3 else if i = 194 then 4 else 5
def codeM : List Int := (List.range 256).map codeAt
def codes (k : Nat) : List Int := codeM.take k ++ (marks 4).drop k
theorem codeM_length : codeM.length = 256 := by simp [codeM]
theorem codes_length (k : Nat) (h : k ≤ 256) : (codes k).length = 256 := by
  simp [codes, codeM_length, marks_length]; omega
theorem codes_zero : codes 0 = marks 4 := by simp [codes]
theorem codes_all : codes 256 = codeM := by
  unfold codes
  rw [List.take_of_length_le (by rw [codeM_length]; omega), List.drop_eq_nil_of_le (by rw [marks_length]; omega), List.append_nil]
theorem codes_set (k : Nat) (h : k < 256) : (codes k).set k (codeAt k) = codes (k + 1) := by
  unfold codes
  rw [List.set_append_right _ _ (by simp [codeM_length]; omega)]
  have h1 : k - (codeM.take k).length = 0 := by simp [codeM_length]; omega
  have h2 : (marks 4).drop k = (marks 4)[k]'(by rw [marks_length]; exact h) :: (marks 4).drop (k + 1) := by rw [List.drop_eq_getElem_cons]
  rw [h1, h2, List.set_cons_zero, List.take_succ_eq_append_getElem (by rw [codeM_length]; exact h), List.append_assoc]
  simp [codeM]
theorem sum_facts : ∀ k : Fin 256, (sumTo k.val + (marks 4).getD k.val 0 = sumTo (k.val + 1) ∧ 0 ≤ sumTo k.val ∧ sumTo k.val ≤ 5 ∧ ((marks 4).getD k.val 0 = 0 ∧ codeAt k.val = 5 ∨ (marks 4).getD k.val 0 = 1 ∧ codeAt k.val = sumTo k.val)) := by decide +kernel
theorem sum_all : sumTo 256 = 5 := by decide +kernel
theorem run_index_map (w : World) (m : List Int) (k : Nat) (x : Int) (hk : k < 256) (hx : m[k]? = some x) :
    (Instr.index 152 (.agg (m.map fun x => Value.int .u8 x).toArray) (.int .i64 k)).run Tryz.prog w = .ok (.int .u8 x) w := by
  have hx' : (m.map fun x => Value.int .u8 x)[k]? = some (.int .u8 x) := by simp [hx]
  have hk' : (k : Int) < 256 := by omega
  simp [Instr.index, asIntOf]
  rw [if_pos hk]
  simp [part, hx]
/-- The cells that a loaded table reads. -/
theorem map_reads {w : World} {g : Nat} {tbl : Value} {ts : Int} {m : List Int} (h : BlkL w g 180 (grL tbl ts m)) :
    ∀ j v, (m.map fun x => Value.int .u8 x).toArray[j]? = some v → w.cell? ((⟨g, 6, none⟩ : Addr).add j) = some v := by
  intro j v hv
  have e : (⟨g, 6, none⟩ : Addr).add j = ⟨g, 6 + j, none⟩ := by unfold Addr.add; split <;> simp_all
  rw [e]
  simp at hv
  obtain ⟨x, hx, rfl⟩ := hv
  exact h.cell (grL_map _ _ _ _ _ hx)
structure MkB (w : World) (ts : Int) (k : Nat) (wr : World) : Prop where
  blk : BlkL wr w.heap.size 180 (grL (.slice none 0 0) ts (codes k))
  below : Below w.heap.size w wr
theorem MkA.toB {w wr : World} (h : MkA w 4 wr) : MkB w (sumTo 0) 0 wr := ⟨by rw [codes_zero]; exact h.blk, h.below⟩
theorem MkB.ts {w wr : World} {ts : Int} {k : Nat} (h : MkB w ts k wr) (t : Int) : MkB w t k (wr.setCell ⟨w.heap.size, 5, none⟩ (.int .i64 t)) :=
  ⟨h.blk.set_ 5 _, h.below.setCell (Nat.le_refl _) _⟩
theorem MkB.old {w wr : World} {ts : Int} {k : Nat} (h : MkB w ts k wr) (hk : k < 256) : ∃ x, wr.cell? ⟨w.heap.size, 6 + k, none⟩ = some (.int .u8 x) := by
  have hl : k < (codes k).length := by rw [codes_length k (by omega)]; exact hk
  exact ⟨_, h.blk.cell (grL_map _ _ _ _ _ (List.getElem?_eq_getElem hl))⟩
theorem MkB.code {w wr : World} {ts : Int} {k : Nat} (h : MkB w ts k wr) (hk : k < 256) : MkB w ts (k + 1) (wr.setCell ⟨w.heap.size, 6 + k, none⟩ (.int .u8 (codeAt k))) := by
  refine ⟨?_, h.below.setCell (Nat.le_refl _) _⟩
  have := h.blk.set_ (6 + k) (.int .u8 (codeAt k))
  rw [grL_set, codes_set k hk] at this
  exact this
theorem MkB.drew {w wr : World} {ts : Int} {k : Nat} (h : MkB w ts k wr) : MkB w ts k wr.drew := ⟨h.blk, h.below.drew⟩
end Go.Proofs.YtjlgbkedbbailaaGreatDoor.Mu
namespace Go.Proofs.YtjlgbkedbbailaaGreatDoor.Mu
open Go.RowKit
def ptrTo (bs : List Nat) (i : Nat) : Value := match bs[i]? with
  | some b => .pointer (some ⟨b, 0, none⟩)
  | none => .pointer none
def tabOf (bs : List Nat) : List Value := [ptrTo bs 0, ptrTo bs 1, ptrTo bs 2, .pointer none, ptrTo bs 3]
def slotOf (k : Nat) : Nat := if k = 3 then 4 else k
theorem tabOf_snoc (bs : List Nat) (b : Nat) (h : bs.length < 4) : (tabOf bs).set (slotOf bs.length) (.pointer (some ⟨b, 0, none⟩)) = tabOf (bs ++ [b]) := by
  match bs, h with
  | [], _ => rfl
  | [a], _ => rfl
  | [a, c], _ => rfl
  | [a, c, d], _ => rfl
theorem tabOf_free (bs : List Nat) (h : bs.length < 4) : (tabOf bs)[slotOf bs.length]? = some (.pointer none) := by
  match bs, h with
  | [], _ => rfl
  | [a], _ => rfl
  | [a, c], _ => rfl
  | [a, c, d], _ => rfl
/-- What stands at a key's node. -/
def Leaf (j b : Nat) (w : World) : Prop :=
  if j = 3 then ∃ b2, BlkL w b 178 (nodeL ⟨#[]⟩ 0 ⟨[160].toArray⟩ (some ⟨b2, 0, none⟩)) ∧ BlkL w b2 178 (nodeL ⟨(valOf 3).toArray⟩ 2 ⟨#[]⟩ none)
  else BlkL w b 178 (nodeL ⟨(valOf j).toArray⟩ (8 - 2 * (j : Int)) ⟨#[]⟩ none)
theorem BlkL.ne {w : World} {a b t u : Nat} {cs ds : List Value} (h : BlkL w a t cs) (k : BlkL w b u ds) (hne : t ≠ u) : a ≠ b := by
  rintro rfl
  unfold BlkL at h k
  rw [h] at k
  injection k with k
  injection k with _ k _
  exact hne k
theorem Leaf.keep {j b : Nat} {w w1 : World} (h : Leaf j b w) {tb : Nat} {cs : List Value} (ht : BlkL w tb 175 cs) (hg : w.grownBy w1 (some tb)) : Leaf j b w1 := by
  unfold Leaf at *
  split at h
  · obtain ⟨b2, h1, h2⟩ := h
    rw [if_pos (by assumption)]
    exact ⟨b2, h1.grown hg (fun e => h1.ne ht (by decide) (Option.some.inj e)), h2.grown hg (fun e => h2.ne ht (by decide) (Option.some.inj e))⟩
  · rw [if_neg (by assumption)]
    exact h.grown hg (fun e => h.ne ht (by decide) (Option.some.inj e))
theorem Leaf.next {j b : Nat} {w w1 : World} (h : Leaf j b w) (hb : Below w.heap.size w w1) : Leaf j b w1 := by
  unfold Leaf at *
  split at h
  · obtain ⟨b2, h1, h2⟩ := h
    rw [if_pos (by assumption)]
    exact ⟨b2, h1.next hb, h2.next hb⟩
  · rw [if_neg (by assumption)]
    exact h.next hb
/-- The replacer at block g while the trie holds the first keys. -/
structure MkT (w : World) (g tb : Nat) (bs : List Nat) (wr : World) : Prop where
  blk : BlkL wr g 180 (grL (.slice (some ⟨tb, 0, none⟩) 5 5) 5 codeM)
  tab : BlkL wr tb 175 (tabOf bs)
  leaf : ∀ j b, bs[j]? = some b → Leaf j b wr
  below : Below w.heap.size w wr
  base : w.heap.size ≤ tb
theorem codeM_at (k : Nat) (hk : k < 256) : codeM[k]? = some (codeAt k) := by
  unfold codeM
  rw [List.getElem?_map, List.getElem?_range hk]; rfl
theorem key_cons (k : Nat) (hk : k < 4) : ∃ c r, keyOf k = c :: r ∧ codeAt c.toNat = (slotOf k : Int) ∧ slotOf k < 5 ∧ (k ≠ 3 ∧ r = [] ∨ k = 3 ∧ r = [160]) := by
  match k, hk with
  | 0, _ => exact ⟨_, _, rfl, rfl, by decide, by decide⟩
  | 1, _ => exact ⟨_, _, rfl, rfl, by decide, by decide⟩
  | 2, _ => exact ⟨_, _, rfl, rfl, by decide, by decide⟩
  | 3, _ => exact ⟨_, _, rfl, rfl, by decide, by decide⟩
theorem add_round {w wi : World} {g tb : Nat} {bs : List Nat} (h : MkT w g tb bs wi) (hk : bs.length < 4) {c : UInt8} {r : Bs} (hkey : keyOf bs.length = c :: r) (p : Int) (hp : p = 8 - 2 * (bs.length : Int)) :
    Calls Tryz.prog 150 #[.pointer (some ⟨g, 0, none⟩), .string ⟨(c :: r).toArray⟩, .string ⟨(valOf bs.length).toArray⟩, .int .i64 p, .pointer (some ⟨g, 0, none⟩)] wi fun e w' => e = .returned (.tuple #[]) ∧ MkT w g tb (bs ++ [wi.heap.size]) w' := by
  subst hp
  obtain ⟨c', r', e1, hcode, hsl, hr⟩ := key_cons bs.length hk
  rw [hkey] at e1
  injection e1 with e1 e2
  subst e1; subst e2
  have hgt : g ≠ tb := h.blk.ne h.tab (by decide)
  have hwB : w.heap.size ≤ wi.heap.size := h.below.size
  refine (add_table g tb (slotOf bs.length) c r ⟨(valOf bs.length).toArray⟩ _ codeM (tabOf bs) wi (Leaf bs.length wi.heap.size) h.blk h.tab hgt (by rw [codeM_at _ c.toNat_lt, hcode]) hsl (tabOf_free bs hk) ?_).mono ?_
  · intro w1 h1
    rcases hr with ⟨h3, rfl⟩ | ⟨h3, rfl⟩
    · refine (add_end wi.heap.size _ _ _ w1 h1).mono ?_
      rintro e w2 ⟨rfl, h2⟩
      refine ⟨rfl, h2.grown, ?_⟩
      unfold Leaf
      rw [if_neg h3]
      exact h2.node
    · refine (add_tail wi.heap.size 160 [] _ _ _ w1 h1).mono ?_
      rintro e w2 ⟨rfl, h2⟩
      refine ⟨rfl, h2.grown, ?_⟩
      unfold Leaf
      rw [if_pos h3]
      have := h2.tail
      rw [h3] at this
      exact ⟨_, h2.node, this⟩
  · rintro e w2 ⟨rfl, h2⟩
    refine ⟨rfl, ?_, ?_, ?_, ?_, h.base⟩
    · exact h.blk.grown h2.grown (fun e => hgt (Option.some.inj e))
    · rw [← tabOf_snoc bs _ hk]; exact h2.table
    · intro j b hj
      rw [List.getElem?_append] at hj
      split at hj
      · exact (h.leaf j b hj).keep h.tab h2.grown
      · have hj0 : j - bs.length = 0 := by
          by_cases e : j - bs.length = 0
          · exact e
          · have := (List.getElem?_eq_some_iff.1 hj).1
            simp at this; omega
        rw [hj0] at hj
        simp at hj
        subst hj
        have : j = bs.length := by omega
        rw [this]; exact h2.post
    · have hb := h2.grown
      exact ⟨hb.os.trans h.below.os, hb.tape.trans h.below.tape, hb.output.trans h.below.output, Nat.le_trans h.below.size hb.size, fun i hi => (hb.block i (Nat.lt_of_lt_of_le hi hwB) (fun e => by have := Option.some.inj e; have := h.base; omega)).trans (h.below.block i hi)⟩
theorem MkT.drew {w wi : World} {g tb : Nat} {bs : List Nat} (h : MkT w g tb bs wi) : MkT w g tb bs wi.drew :=
  ⟨h.blk, h.tab, h.leaf, h.below.drew, h.base⟩
/-- A replacer of the four pairs at block g. -/
structure RepAt (g tb : Nat) (bs : List Nat) (w : World) : Prop where
  blk : BlkL w g 180 (grL (.slice (some ⟨tb, 0, none⟩) 5 5) 5 codeM)
  tab : BlkL w tb 175 (tabOf bs)
  leaf : ∀ j b, bs[j]? = some b → Leaf j b w
  four : bs.length = 4
def Rep (g : Nat) (w : World) : Prop := ∃ tb bs, RepAt g tb bs w
theorem Rep.next {g : Nat} {w w1 : World} (h : Rep g w) (hb : Below w.heap.size w w1) : Rep g w1 := by
  obtain ⟨tb, bs, h⟩ := h
  exact ⟨tb, bs, h.blk.next hb, h.tab.next hb, fun j b hj => (h.leaf j b hj).next hb, h.four⟩
theorem MkT.rep {w wi : World} {g tb : Nat} {bs : List Nat} (h : MkT w g tb bs wi) (h4 : bs.length = 4) : Rep g wi := ⟨tb, bs, h.blk, h.tab, h.leaf, h4⟩
end Go.Proofs.YtjlgbkedbbailaaGreatDoor.Mu
namespace Go.Proofs.YtjlgbkedbbailaaGreatDoor.Mu
open Go.RowKit
set_option maxRecDepth 100000 in
set_option maxHeartbeats 4000000 in
theorem make_calls (o cap : Nat) (w : World) (hcap : 8 ≤ cap) (hk : ∀ k, k < 4 → w.cell? ⟨o, 2 * k, none⟩ = some (.string ⟨(keyOf k).toArray⟩) ∧ w.cell? ⟨o, 2 * k + 1, none⟩ = some (.string ⟨(valOf k).toArray⟩)) :
    Calls Tryz.prog 127 #[.slice (some ⟨o, 0, none⟩) 8 cap] w fun e w' => e = .returned (.pointer (some ⟨w.heap.size, 0, none⟩)) ∧ Below w.heap.size w w' ∧ Rep w.heap.size w' := by
  have HK := Lib.hid hk; clear hk
  go_enter Tryz.func127, Tryz.ntmps127
  go_wp2_with fail
  have h0 := Lib.hid (MkA.start w)
  generalize w.alloc (.cells Tryz.zeroCells180 180) = w0 at *
  go_loopw [4] (fun i wr => ∃ k : Nat, k ≤ 4 ∧ i = .int .i64 ((2 * k : Nat) : Int) ∧ MkA w k wr) (fun i _ => 8 - (intOf i).toNat)
  case atStart => exact ⟨0, by omega, rfl, h0.out⟩
  case round =>
    obtain ⟨k, hk4, rfl, hr⟩ := hrel
    have HR := Lib.hid hr; clear hr
    by_cases hlt : k < 4
    · have hck : wr.cell? ⟨o, 2 * k, none⟩ = some (.string ⟨(keyOf k).toArray⟩) := cell_below HR.out.below (HK.out k hlt).1
      obtain ⟨key, hkey⟩ : ∃ key, keyOf k = key := ⟨_, rfl⟩
      have hkl := keyOf_len k
      rw [hkey] at hck hkl
      have HKEY := Lib.hid hkey; clear hkey
      go_wp2_with fail
      have hI := MkI.start HR.out
      have HI := Lib.hid hI; clear hI hck HR
      go_loopw [6] (fun j wi => ∃ n : Nat, n ≤ key.length ∧ j = .int .i64 n ∧ MkI w k n wi) (fun j _ => key.length - (intOf j).toNat)
      case atStart => exact ⟨0, Nat.zero_le _, rfl, HI.out⟩
      case round =>
        clear HI
        obtain ⟨n, hn, rfl, hi⟩ := hrel
        by_cases hnk : n < key.length
        · obtain ⟨c, hc⟩ : ∃ c, key[n] = c := ⟨_, rfl⟩
          have hix : ∀ h, (⟨key.toArray⟩ : ByteArray)[n]'h = c := fun _ => hc
          obtain ⟨x, hcx⟩ := hi.old c
          have hfx := hi.blk.f (6 + c.toNat)
          have hcb := c.toNat_lt
          have HS := Lib.hid (hi.step (c := c) (by rw [HKEY.out]; exact hnk) (by subst hc; have := HKEY.out; subst this; rfl))
          clear hi hc
          go_wp2_with fail
          go_region
          all_goals
            go_wp2_with fail
            go_roundw
            case rel => exact ⟨n + 1, by omega, by go_num, HS.out⟩
            case measure => simp [intOf]; omega
        · have hn' : n = key.length := by omega
          subst hn'
          have HF := Lib.hid (show MkA w (k + 1) _ from MkI.fin (by rw [HKEY.out]; exact hi))
          clear hi
          go_wp2_with fail
          go_roundw
          case rel => exact ⟨k + 1, by omega, by go_num, HF.out⟩
          case measure => simp [intOf]; omega
    · have hk : k = 4 := by omega
      subst hk
      have hB := HR.out.toB
      have hM := map_reads hB.blk
      rw [codes_zero] at hM
      have HM := Lib.hid hM
      have HMM := Lib.hid (show ∀ (wi : World) (ts : Int), MkB w ts 0 wi → ∀ j v, ((marks 4).map fun x => Value.int .u8 x).toArray[j]? = some v → wi.cell? ((⟨w.heap.size, 6, none⟩ : Addr).add j) = some v from fun wi ts h => by
        have := map_reads h.blk
        rw [codes_zero] at this
        exact this)
      have HB := Lib.hid hB
      clear hM hB HR h0
      have hsz : ((marks 4).map fun x => Value.int .u8 x).toArray.size = 256 := by rw [List.size_toArray, List.length_map]; exact marks_length 4
      have hinfo : (Tryz.prog.info? 152).map (·.size) = some 256 := by kernel_rfl
      rw [← hsz] at hinfo
      have HI := Lib.hid hinfo
      have HX := Lib.hid (fun (w : World) (k : Nat) (x : Int) (hk : k < 256) (hx : (marks 4)[k]? = some x) => run_index_map w (marks 4) k x hk hx)
      clear hinfo hsz
      generalize ((marks 4).map fun x => Value.int .u8 x).toArray = M at *
      go_wp2_with (refine wpList_load_mid (o := ⟨some 40, _, _, _, _, _⟩) rfl 152 (.tmp 39) rfl ⟨w.heap.size, 6, none⟩ rfl M _ HM.out Tryz.underlying152 rfl HI.out ?_)
      go_loopw [41] (fun i wi => ∃ n : Nat, n ≤ 256 ∧ i = .int .i64 n ∧ MkB w (sumTo n) 0 wi) (fun i _ => 256 - (intOf i).toNat)
      case atStart => exact ⟨0, by omega, rfl, HB.out⟩
      case round =>
        obtain ⟨n, hn, rfl, hb⟩ := hrel
        have HB2 := Lib.hid hb
        clear hb HM HB
        by_cases hlt : n < 256
        · have hs := sum_facts ⟨n, hlt⟩
          have hgt : (marks 4)[n]? = some ((marks 4).getD n 0) := by
            have hl : n < (marks 4).length := by rw [marks_length]; exact hlt
            rw [List.getElem?_eq_getElem hl, List.getD_eq_getElem?_getD, List.getElem?_eq_getElem hl]; rfl
          have hidx := fun w => HX.out w n _ hlt hgt
          dsimp only at hs
          generalize (marks 4).getD n 0 = x at *
          obtain ⟨hs1, hs2, hs3, hs4⟩ := hs
          have hx01 : 0 ≤ x ∧ x ≤ 1 := by omega
          have c5 := HB2.out.blk.cell (i := 5) rfl
          have f5 := HB2.out.blk.f 5
          have HN := Lib.hid (HB2.out.ts (sumTo n + x))
          rw [hs1] at HN
          have HS1 := Lib.hid hs1
          obtain ⟨S, hS⟩ : ∃ S, sumTo n = S := ⟨_, rfl⟩
          rw [hS] at hs2 hs3 c5
          have HSS := Lib.hid hS
          have hx0 := hx01.1
          have hx1 := hx01.2
          clear hs1 hs4 hgt hS hx01
          go_wp2_with fail
          go_roundw
          case rel => exact ⟨n + 1, by omega, by go_num, by have h1 := HS1.out; have h2 := HSS.out; rw [h2] at h1; rw [h1]; exact HN.out⟩
          case measure => simp [intOf]; omega
        · have hn : n = 256 := by omega
          subst hn
          rw [sum_all] at HB2
          rw [show ((256 : Nat) : Int) = 256 from rfl]
          have HM2 := Lib.hid (HMM.out _ _ HB2.out)
          have HB0 := Lib.hid (show sumTo 0 = 0 from rfl)
          clear hn hlt HMM
          go_wp2_with (refine wpList_load_mid (o := ⟨some 57, _, _, _, _, _⟩) rfl 152 (.tmp 56) rfl ⟨w.heap.size, 6, none⟩ rfl M _ HM2.out Tryz.underlying152 rfl HI.out ?_)
          clear HM2
          go_loopw [58, 9] (fun i q wi => ∃ n : Nat, n ≤ 256 ∧ i = .int .i64 n ∧ q = .int .u8 (sumTo n) ∧ MkB w 5 n wi) (fun i _ _ => 256 - (intOf i).toNat)
          case atStart => exact ⟨0, by omega, rfl, rfl, HB2.out⟩
          case round =>
            clear HB2
            obtain ⟨n, hn, rfl, rfl, hb⟩ := hrel
            have HB3 := Lib.hid hb
            clear hb
            by_cases hlt : n < 256
            · have hs := sum_facts ⟨n, hlt⟩
              have hgt : (marks 4)[n]? = some ((marks 4).getD n 0) := by
                have hl : n < (marks 4).length := by rw [marks_length]; exact hlt
                rw [List.getElem?_eq_getElem hl, List.getD_eq_getElem?_getD, List.getElem?_eq_getElem hl]; rfl
              have hidx := fun w => HX.out w n _ hlt hgt
              dsimp only at hs
              generalize (marks 4).getD n 0 = x at *
              obtain ⟨hs1, hs2, hs3, hs4⟩ := hs
              have c5 := HB3.out.blk.cell (i := 5) rfl
              obtain ⟨y, cy⟩ := HB3.out.old hlt
              have fy := HB3.out.blk.f (6 + n)
              have HN := Lib.hid (HB3.out.code hlt)
              have HS1 := Lib.hid hs1
              obtain ⟨S, hS⟩ : ∃ S, sumTo n = S := ⟨_, rfl⟩
              rw [hS] at hs2 hs3 hs4 HS1 ⊢
              rcases hs4 with ⟨rfl, hcd⟩ | ⟨rfl, hcd⟩
              · rw [hcd] at HN
                have HN2 := Lib.hid (HN.out.drew)
                clear hs1 hgt hS hcd
                go_wp2_with fail
                go_region
                all_goals
                  go_wp2_with fail
                  go_roundw
                  case rel => exact ⟨n + 1, by omega, by go_num, by rw [← HS1.out, Int.add_zero], HN2.out⟩
                  case measure => simp [intOf]; omega
              · rw [hcd] at HN
                clear hs1 hgt hS hcd
                go_wp2_with fail
                go_roundw
                case rel => exact ⟨n + 1, by omega, by go_num, by rw [← HS1.out], HN.out⟩
                case measure => simp [intOf]; omega
            · have hn : n = 256 := by omega
              subst hn
              rw [sum_all, show ((256 : Nat) : Int) = 256 from rfl]
              have c4 := HB3.out.blk.cell (i := 4) rfl
              have c5 := HB3.out.blk.cell (i := 5) rfl
              have d4 : (wr.alloc (.cells #[.pointer none, .pointer none, .pointer none, .pointer none, .pointer none] 175)).cell? ⟨w.heap.size, 4, none⟩ = some (.slice none 0 0) := (HB3.out.blk.alloc _).cell rfl
              have g4 : (wr.alloc (.cells #[.pointer none, .pointer none, .pointer none, .pointer none, .pointer none] 175)).frozen? ⟨w.heap.size, 4, none⟩ = false := (HB3.out.blk.alloc _).f 4
              have hmk : ∀ w : World, (Instr.makeSlice 176 (.int .i64 5) (.int .i64 5)).run Tryz.prog w = .ok (.slice (some ⟨w.heap.size, 0, none⟩) 5 5) (w.alloc (.cells #[.pointer none, .pointer none, .pointer none, .pointer none, .pointer none] 175)) := fun _ => by kernel_rfl
              have hgz : w.heap.size < wr.heap.size := HB3.out.blk.lt
              have hT0 : MkT w w.heap.size wr.heap.size [] ((wr.setCell ⟨w.heap.size, 4, none⟩ (.slice (some ⟨wr.heap.size, 0, none⟩) 5 5)).alloc (.cells #[.pointer none, .pointer none, .pointer none, .pointer none, .pointer none] 175)) := by
                have hb := (HB3.out.blk.set_ 4 (.slice (some ⟨wr.heap.size, 0, none⟩) 5 5)).alloc (.cells #[.pointer none, .pointer none, .pointer none, .pointer none, .pointer none] 175)
                rw [codes_all] at hb
                have hn := BlkL.new (wr.setCell ⟨w.heap.size, 4, none⟩ (.slice (some ⟨wr.heap.size, 0, none⟩) 5 5)) 175 (tabOf [])
                rw [World.size_setCell] at hn
                exact ⟨hb, hn, fun j b h => by simp at h, (HB3.out.below.setCell (Nat.le_refl _) _).alloc (by rw [World.size_setCell]; exact HB3.out.below.size) _, HB3.out.below.size⟩
              have HT0 := Lib.hid hT0
              clear hT0
              go_wp2_with fail
              clear c4 c5 d4 g4 hmk HB3 HX HI HB0
              generalize wr.heap.size = tb at *
              generalize World.alloc _ _ = w5 at *
              go_loopw [12] (fun i wi => ∃ bs : List Nat, bs.length ≤ 4 ∧ i = .int .i64 ((2 * bs.length : Nat) : Int) ∧ MkT w w.heap.size tb bs wi) (fun i _ => 8 - (intOf i).toNat)
              case atStart => exact ⟨[], by simp, rfl, HT0.out⟩
              case round =>
                obtain ⟨bs, hbs, rfl, hT⟩ := hrel
                have HT := Lib.hid hT
                clear hT HT0
                by_cases hlt : bs.length < 4
                · obtain ⟨c, r, hkey, _⟩ := key_cons bs.length hlt
                  have hck := cell_below HT.out.below (HK.out _ hlt).1
                  have hcv := cell_below HT.out.below (HK.out _ hlt).2
                  rw [hkey] at hck
                  have HA := Lib.hid (add_round (p := 8 - 2 * (bs.length : Int)) HT.out.drew hlt hkey rfl)
                  have hi1 : (2 * (bs.length : Int)) < 8 := by omega
                  have hi2 : (2 * (bs.length : Int)) + 1 < 8 := by omega
                  have hi3 : 0 ≤ (2 * (bs.length : Int)) := by omega
                  have hi4 : 0 ≤ (2 * (bs.length : Int)) + 1 := by omega
                  have ht1 : (2 * (bs.length : Int)).toNat = 2 * bs.length := by omega
                  have ht2 : (2 * (bs.length : Int) + 1).toNat = 2 * bs.length + 1 := by omega
                  have hw1 : IntKind.i64.wrap (2 * (bs.length : Int) + 1) = 2 * (bs.length : Int) + 1 := IntWalk.i64_in _ (by omega)
                  have hw2 : IntKind.i64.wrap (8 - 2 * (bs.length : Int)) = 8 - 2 * (bs.length : Int) := IntWalk.i64_in _ (by omega)
                  generalize hbl : bs.length = k at *
                  have HBL := Lib.hid hbl
                  clear hbl hkey
                  go_wp2_with fail
                  go_still_tail 17, (by kernel_rfl)
                  change wpList _ _ _ _ _ wr.drew
                  go_wp2_with fail
                  refine HA.out.mono ?_
                  rintro e w2 ⟨rfl, h2⟩
                  have H2 := Lib.hid h2; clear h2
                  go_wp2_with fail
                  go_roundw
                  case rel => exact ⟨_, by rw [List.length_append, HBL.out]; show k + 1 ≤ 4; omega, by rw [List.length_append, HBL.out]; simp; omega, H2.out⟩
                  case measure => simp [intOf]; omega
                · have hb4 : bs.length = 4 := by omega
                  have HRP := Lib.hid (HT.out.rep hb4)
                  rw [hb4]
                  clear hb4
                  go_wp2_with fail
                  go_ret
                  exact ⟨rfl, HT.out.below, HRP.out⟩
end Go.Proofs.YtjlgbkedbbailaaGreatDoor.Mu
namespace Go.Proofs.YtjlgbkedbbailaaGreatDoor.Mu
open Go.RowKit
/-- The eight texts that a replacer is made of. -/
def Pairs (w : World) (o : Nat) : Prop := ∀ k, k < 4 → w.cell? ⟨o, 2 * k, none⟩ = some (.string ⟨(keyOf k).toArray⟩) ∧ w.cell? ⟨o, 2 * k + 1, none⟩ = some (.string ⟨(valOf k).toArray⟩)
theorem Pairs.next {w w1 : World} {o : Nat} (h : Pairs w o) (hb : Below w.heap.size w w1) : Pairs w1 o := fun k hk => ⟨cell_below hb (h k hk).1, cell_below hb (h k hk).2⟩
set_option maxRecDepth 100000 in
set_option maxHeartbeats 4000000 in
theorem build_calls (b o cap : Nat) (w : World) (hcap : 8 ≤ cap) (hk : Pairs w o) (h4 : w.cell? ⟨b, 4, none⟩ = some (.slice (some ⟨o, 0, none⟩) 8 cap)) :
    Calls Tryz.prog 101 #[.pointer (some ⟨b, 0, none⟩)] w fun e w' => e = .returned (.iface 150 (.pointer (some ⟨w.heap.size, 0, none⟩))) ∧ Below w.heap.size w w' ∧ Rep w.heap.size w' := by
  have HM := Lib.hid (make_calls o cap w hcap hk)
  have k0 : w.cell? ⟨o, 0, none⟩ = some (.string ⟨#[38]⟩) := (hk 0 (by omega)).1
  have v0 : w.cell? ⟨o, 1, none⟩ = some (.string ⟨#[38, 97, 109, 112, 59]⟩) := (hk 0 (by omega)).2
  have k1 : w.cell? ⟨o, 2, none⟩ = some (.string ⟨#[60]⟩) := (hk 1 (by omega)).1
  have v1 : w.cell? ⟨o, 3, none⟩ = some (.string ⟨#[38, 108, 116, 59]⟩) := (hk 1 (by omega)).2
  have k2 : w.cell? ⟨o, 4, none⟩ = some (.string ⟨#[62]⟩) := (hk 2 (by omega)).1
  have v2 : w.cell? ⟨o, 5, none⟩ = some (.string ⟨#[38, 103, 116, 59]⟩) := (hk 2 (by omega)).2
  have k3 : w.cell? ⟨o, 6, none⟩ = some (.string ⟨#[194, 160]⟩) := (hk 3 (by omega)).1
  clear hk
  go_enter Tryz.func101, Tryz.ntmps101
  go_wp2_with fail
  refine wp_loop_rounds 4 ?_
  rw [rounds_succ]
  go_wp2_with fail
  rw [rounds_succ]
  go_wp2_with fail
  rw [rounds_succ]
  go_wp2_with fail
  rw [rounds_succ]
  go_wp2_with fail
  refine HM.out.mono ?_
  rintro e w2 ⟨rfl, h1, h2⟩
  have H1 := Lib.hid h1
  have H2 := Lib.hid h2
  clear h1 h2
  go_wp2_with fail
  go_ret
  exact ⟨rfl, H1.out, H2.out⟩
/-- The cells of a Replacer. -/
def repL (dn st : Int) (r : Value) (old : Value) : List Value := [.int .u32 dn, .int .i32 st, .int .u32 0, r, old]
def genV (g : Nat) : Value := .iface 150 (.pointer (some ⟨g, 0, none⟩))
structure Built (b g : Nat) (dn st : Int) (w w' : World) : Prop where
  grown : w.grownBy w' (some b)
  rep : Rep g w'
  blk : BlkL w' b 111 (repL dn st (genV g) (.slice none 0 0))
theorem Rep.far {g b : Nat} {w : World} (h : Rep g w) {cs : List Value} (hb : BlkL w b 111 cs) (j : Nat) (u : Value) : Rep g (w.setCell ⟨b, j, none⟩ u) := by
  obtain ⟨tb, bs, h⟩ := h
  refine ⟨tb, bs, h.blk.far (h.blk.ne hb (by decide)) u, h.tab.far (h.tab.ne hb (by decide)) u, fun k c hc => ?_, h.four⟩
  have hl := h.leaf k c hc
  unfold Leaf at *
  split at hl
  · obtain ⟨b2, h1, h2⟩ := hl
    rw [if_pos (by assumption)]
    exact ⟨b2, h1.far (h1.ne hb (by decide)) u, h2.far (h2.ne hb (by decide)) u⟩
  · rw [if_neg (by assumption)]
    exact hl.far (hl.ne hb (by decide)) u
theorem gr_below {w w1 : World} (h : Below w.heap.size w w1) (row : Option Nat) : w.grownBy w1 row := ⟨h.os, h.tape, h.output, h.size, fun i hi _ => h.block i hi⟩
set_option maxRecDepth 100000 in
set_option maxHeartbeats 4000000 in
theorem buildOnce_calls (b o cap : Nat) (w : World) (hcap : 8 ≤ cap) (hk : Pairs w o) (hb : BlkL w b 111 (repL 0 1 .nilIface (.slice (some ⟨o, 0, none⟩) 8 cap))) :
    Calls Tryz.prog 82 #[.pointer (some ⟨b, 0, none⟩)] w fun e w' => e = .returned (.tuple #[]) ∧ Built b w.heap.size 0 1 w w' := by
  have HM := Lib.hid (build_calls b o cap w hcap hk (hb.cell rfl))
  have HB := Lib.hid hb
  clear hk hb
  go_enter Tryz.func82, Tryz.ntmps82
  go_wp2_with fail
  refine HM.out.mono ?_
  rintro e w2 ⟨rfl, h1, h2⟩
  have hB2 := HB.out.next h1
  have c3 := hB2.cell (i := 3) rfl
  have f3 := hB2.f 3
  have c4 := hB2.cell (i := 4) rfl
  have f4 := hB2.f 4
  have HG := Lib.hid (gr_set (p := ⟨b, 4, none⟩) (gr_set (gr_below h1 (some b)) (p := ⟨b, 3, none⟩) (.inl rfl) (genV w.heap.size)) (.inl rfl) (.slice none 0 0))
  have HR := Lib.hid ((h2.far hB2 3 (genV w.heap.size)).far (hB2.set_ 3 _) 4 (.slice none 0 0))
  have HB3 := Lib.hid ((hB2.set_ 3 (genV w.heap.size)).set_ 4 (.slice none 0 0))
  clear h1 h2 hB2
  go_wp2_with fail
  go_end0
  exact ⟨rfl, HG.out, HR.out, HB3.out⟩
end Go.Proofs.YtjlgbkedbbailaaGreatDoor.Mu
namespace Go.Proofs.YtjlgbkedbbailaaGreatDoor.Mu
open Go.RowKit Go.Proofs.YtjlgbkedbbailaaGreatDoorW.PrintWords
def eight : List ByteArray := [⟨#[38]⟩, ⟨#[38, 97, 109, 112, 59]⟩, ⟨#[60]⟩, ⟨#[38, 108, 116, 59]⟩, ⟨#[62]⟩, ⟨#[38, 103, 116, 59]⟩, ⟨#[194, 160]⟩, ⟨#[38, 110, 98, 115, 112, 59]⟩]
theorem pairs_of {w : World} {o : Nat} (h : ∀ i s, eight[i]? = some s → w.cell? ⟨o, i, none⟩ = some (.string s)) : Pairs w o := by
  intro k hk
  match k, hk with
  | 0, _ => exact ⟨h 0 _ rfl, h 1 _ rfl⟩
  | 1, _ => exact ⟨h 2 _ rfl, h 3 _ rfl⟩
  | 2, _ => exact ⟨h 4 _ rfl, h 5 _ rfl⟩
  | 3, _ => exact ⟨h 6 _ rfl, h 7 _ rfl⟩
theorem of_pairs {w : World} {o : Nat} (h : Pairs w o) : ∀ j, j < 8 → w.cell? ⟨o, j, none⟩ = some (.string (eight.getD j ⟨#[]⟩)) := by
  intro j hj
  match j, hj with
  | 0, _ => exact (h 0 (by omega)).1
  | 1, _ => exact (h 0 (by omega)).2
  | 2, _ => exact (h 1 (by omega)).1
  | 3, _ => exact (h 1 (by omega)).2
  | 4, _ => exact (h 2 (by omega)).1
  | 5, _ => exact (h 2 (by omega)).2
  | 6, _ => exact (h 3 (by omega)).1
  | 7, _ => exact (h 3 (by omega)).2
structure NewRep (w : World) (e : Ending) (w' : World) (b o cap : Nat) : Prop where
  ends : e = .returned (.pointer (some ⟨b, 0, none⟩))
  below : Below w.heap.size w w'
  blk : BlkL w' b 111 (repL 0 0 .nilIface (.slice (some ⟨o, 0, none⟩) 8 cap))
  pairs : Pairs w' o
  cap : 8 ≤ cap
  base : w.heap.size ≤ b
def NewRep' (w : World) (e : Ending) (w' : World) : Prop := ∃ b o cap, NewRep w e w' b o cap
theorem info_str : (Tryz.prog.info? 9).map (fun i => (i.zero, i.size, i.bytes)) = some (some (.string ⟨#[]⟩), 1, 16) := by kernel_rfl
theorem row_pairs {w : World} {base : Nat} {v : Value} (h : w.ownsRow base 9 1 v eight.length (encs Value.string eight)) : ∃ g cap, v = .slice (some ⟨g, 0, none⟩) 8 cap ∧ 8 ≤ cap ∧ Pairs w g := by
  obtain ⟨A, c, hv, hrd⟩ := own_reads_of (d := ⟨#[]⟩) h
  rcases h.2 with ⟨_, h0⟩ | ⟨g, cap, cur, hv2, _, _, hn, _⟩
  · exact absurd h0 (by decide)
  · refine ⟨g, cap, hv2, hn, pairs_of fun i s hs => ?_⟩
    have hi : i < 8 := (List.getElem?_eq_some_iff.1 hs).1
    rw [hv2] at hv
    injection hv with e1
    obtain ⟨ad, ha, hc⟩ := hrd.2.2 (by decide)
    rw [← e1] at ha
    injection ha with ha
    subst ha
    have := hc i hi
    rw [add_plain] at this
    rw [this, List.getD_eq_getElem?_getD, hs]; rfl
set_option maxHeartbeats 1000000 in
theorem newReplacer_calls (o : Nat) (w : World) (hP : Pairs w o) :
    Calls Tryz.prog 57 #[.slice (some ⟨o, 0, none⟩) 8 8] w (NewRep' w) := by
  have HP := Lib.hid hP
  have hR : ReadsOf Value.string ⟨#[]⟩ w (some ⟨o, 0, none⟩) 8 eight := by
    refine ⟨rfl, by omega, fun _ => ⟨_, rfl, fun j hj => ?_⟩⟩
    rw [add_plain]
    exact of_pairs hP j hj
  have HR := Lib.hid hR
  clear hP hR
  go_enter Tryz.func57, Tryz.ntmps57
  go_wp2_with (at_builtin; refine print_append_row_of (W := w) (w0 := w) Value.string ⟨#[]⟩ w.heap.size rfl (.const (.slice none 0 0)) (.tmp 8) 91 9 (.string ⟨#[]⟩) 16 rfl Tryz.underlying91 info_str rfl (by decide) (fun _ => rfl) (.slice none 0 0) [] eight (some ⟨o, 0, none⟩) 8 8 rfl rfl (own_nil _ _ _ _) HR.out (Below.refl _ _) (Nat.le_refl _) (by simp) ?_)
  intro v1 w1 hown hb _ _
  obtain ⟨g, cap, rfl, hcap, hp⟩ := row_pairs hown
  have HB := Lib.hid hb
  have HPP := Lib.hid hp
  have hbs := hb.size
  clear hown hb hp HP HR
  go_wp2_with fail
  go_ret
  refine ⟨w1.heap.size, g, cap, rfl, HB.out.alloc HB.out.size _, ?_, HPP.out.next (below_alloc (Below.refl _ w1) _), hcap, hbs⟩
  exact BlkL.new w1 111 (repL 0 0 .nilIface (.slice (some ⟨g, 0, none⟩) 8 cap))
end Go.Proofs.YtjlgbkedbbailaaGreatDoor.Mu
namespace Go.Proofs.YtjlgbkedbbailaaGreatDoor.Mu
open Go.RowKit Go.Proofs.YtjlgbkedbbailaaGreatDoorW.PrintWords
def bI (l : Bs) : List Int := l.map fun b => (b.toNat : Int)
theorem bytesOf_bI (l : Bs) : bytesOf ⟨l.toArray⟩ = bI l := rfl
/-- A row of bytes behind a pointer. -/
structure Buf (B q : Nat) (l : Bs) (w w1 : World) : Prop where
  is : ∃ v, BlkL w1 q 233 [v] ∧ w1.ownsRow B 5 1 v (bI l).length (nums .u8 (bI l))
  below : Below B w w1
  base : B ≤ q
  size : B ≤ w1.heap.size
def ioV (q : Nat) : Value := .iface 234 (.pointer (some ⟨q, 0, none⟩))
set_option maxHeartbeats 1000000 in
theorem getWriter_calls (q : Nat) (w : World) : Calls Tryz.prog 215 #[ioV q] w fun e w' => e = .returned (ioV q) ∧ w = w' := by
  have hta := run_typeAssert_hasB (P := Tryz.prog) (t := 234) (asserted := 238) Tryz.underlying238 (by kernel_rfl) (.pointer (some ⟨q, 0, none⟩))
  have hnot : ∀ (x : Bool) (w : World), (Op.unary .not (.bool x)).run Tryz.prog w = .ok (.bool (!x)) w := fun _ _ => rfl
  unfold ioV
  go_enter Tryz.func215, Tryz.ntmps215
  go_wp2_with fail
  go_ret
  exact ⟨rfl, rfl⟩
theorem bI_append (l m : Bs) : bI (l ++ m) = bI l ++ bI m := by simp [bI]
theorem bI_length (l : Bs) : (bI l).length = l.length := by simp [bI]
theorem info_u8 : (Tryz.prog.info? 5).map (fun i => (i.zero, i.size, i.bytes)) = some (some (.int .u8 0), 1, 1) := by kernel_rfl
set_option maxHeartbeats 1000000 in
theorem write_calls {B q : Nat} {l : Bs} {w w1 : World} (h : Buf B q l w w1) (y : Bs) (hl : l.length + y.length ≤ 140737488355328) :
    Calls Tryz.prog 226 #[.pointer (some ⟨q, 0, none⟩), .string ⟨y.toArray⟩] w1 fun e w' => e = .returned (.tuple #[.int .i64 y.length, .nilIface]) ∧ Buf B q (l ++ y) w w' := by
  obtain ⟨v, hb, hown⟩ := h.is
  have c0 := hb.cell (i := 0) rfl
  have f0 := hb.f 0
  have HB := Lib.hid hb
  have HO := Lib.hid hown
  have HH := Lib.hid h
  clear hb hown h
  go_enter Tryz.func226, Tryz.ntmps226
  go_wp2_with (at_builtin; refine print_append_str (W := w1) (w0 := w) B rfl (.tmp 9) (.tmp 10) 233 9 5 rfl Tryz.underlying233 Tryz.underlying9 info_u8 v (bI l) ⟨y.toArray⟩ rfl rfl HO.out HH.out.below HH.out.size (by rw [bI_length]; exact hl) ?_)
  intro v1 w2 hown2 hB2 hg2
  rw [bytesOf_bI, ← bI_append] at hown2
  obtain ⟨n, hn⟩ : ∃ n, (bI l).length + (bI y).length = n := ⟨_, rfl⟩
  rw [hn] at hown2
  have HN := Lib.hid (show (bI (l ++ y)).length = n by rw [bI_append, List.length_append, hn])
  clear hn
  obtain ⟨A1, cp1, rfl⟩ := own_slice hown2
  have hne : some q ≠ v.ownBlock := own_ne HO.out HB.out (by decide)
  have hb2 := HB.out.grown hg2 hne
  have hne2 : some q ≠ (Value.slice A1 n cp1).ownBlock := own_ne hown2 hb2 (by decide)
  have hc0 := hb2.cell (i := 0) rfl
  have hf0 := hb2.f 0
  have H1 := Lib.hid (hb2.set_ 0 (.slice A1 n cp1))
  have H2 := Lib.hid (own_setCell hown2 (p := ⟨q, 0, none⟩) hne2 (.slice A1 n cp1))
  have H3 := Lib.hid (hB2.setCell (p := ⟨q, 0, none⟩) HH.out.base (.slice A1 n cp1))
  have H4 := Lib.hid (Nat.le_trans HH.out.size hg2.size)
  clear hown2 hB2 hg2 hne hb2 hne2 c0 f0
  go_wp2_with fail
  go_ret2
  exact ⟨rfl, ⟨_, H1.out, by rw [HN.out]; exact H2.out⟩, H3.out, HH.out.base, by rw [World.size_setCell]; exact H4.out⟩
end Go.Proofs.YtjlgbkedbbailaaGreatDoor.Mu
namespace Go.Proofs.YtjlgbkedbbailaaGreatDoor.Mu
structure EscRel (s : Bs) (i last : Nat) (l : Bs) : Prop where
  eq : l ++ (s.drop last).take (i - last) ++ escText (s.drop i) = escText s
  le : last ≤ i
  ls : last ≤ s.length
theorem EscRel.start (s : Bs) : EscRel s 0 0 [] := ⟨by simp, Nat.le_refl _, Nat.zero_le _⟩
theorem take_more (s : Bs) (i last : Nat) (c : UInt8) (r : Bs) (h : s.drop i = c :: r) (hl : last ≤ i) : (s.drop last).take (i + 1 - last) = (s.drop last).take (i - last) ++ [c] := by
  have h1 : (s.drop last)[i - last]? = some c := by
    rw [List.getElem?_drop, show last + (i - last) = i from by omega]
    have : (s.drop i)[0]? = some c := by rw [h]; rfl
    rw [List.getElem?_drop] at this
    exact this
  rw [show i + 1 - last = (i - last) + 1 from by omega, List.take_add_one, h1]; rfl
theorem drop_more (s : Bs) (i : Nat) (k r : Bs) (h : s.drop i = k ++ r) : s.drop (i + k.length) = r := by
  rw [← List.drop_drop, h, List.drop_left]
theorem EscRel.skip {s : Bs} {i last : Nat} {l : Bs} (h : EscRel s i last l) {c : UInt8} {r : Bs} (hd : s.drop i = c :: r) (he : escText (c :: r) = c :: escText r) : EscRel s (i + 1) last l := by
  refine ⟨?_, Nat.le_succ_of_le h.le, h.ls⟩
  rw [← h.eq, take_more s i last c r hd h.le, hd, he, show s.drop (i + 1) = r from drop_more s i [c] r hd]
  simp
theorem EscRel.last {s : Bs} {last : Nat} {l : Bs} (h : EscRel s s.length last l) : EscRel s (s.length + 1) last l := by
  refine ⟨?_, Nat.le_succ_of_le h.le, h.ls⟩
  rw [← h.eq]
  rw [List.drop_eq_nil_of_le (Nat.le_refl s.length), List.drop_eq_nil_of_le (show s.length ≤ s.length + 1 by omega), List.take_of_length_le (by simp; omega), List.take_of_length_le (by simp)]
theorem EscRel.key {s : Bs} {i last : Nat} {l : Bs} (h : EscRel s i last l) {k r v : Bs} (hd : s.drop i = k ++ r) (hi : i ≤ s.length) (he : escText (k ++ r) = v ++ escText r) :
    EscRel s (i + k.length) (i + k.length) (l ++ (s.drop last).take (i - last) ++ v) := by
  have hk : k.length + r.length = s.length - i := by
    have := congrArg List.length hd
    simp at this; omega
  refine ⟨?_, Nat.le_refl _, by omega⟩
  rw [← h.eq, hd, he, drop_more s i k r hd]
  simp
theorem EscRel.fin {s : Bs} {i last : Nat} {l : Bs} (h : EscRel s i last l) (hi : s.length < i) : l ++ s.drop last = escText s := by
  rw [← h.eq, List.drop_eq_nil_of_le (show s.length ≤ i by omega), List.take_of_length_le (by simp; omega)]
  simp [escText]
theorem esc_len : ∀ s : Bs, (escText s).length ≤ 6 * s.length
  | 194 :: 160 :: r => by
    have := esc_len r
    simp only [escText, List.length_append, List.length_cons, List.length_nil]; omega
  | [] => by simp [escText]
  | c :: r => by
    have := esc_len r
    by_cases h : ∃ q, c = 194 ∧ r = 160 :: q
    · obtain ⟨q, rfl, rfl⟩ := h
      have := esc_len q
      simp only [escText, List.length_append, List.length_cons, List.length_nil]; omega
    · rw [escText]
      · simp only [List.length_append, List.length_cons]
        repeat' split
        all_goals (simp; omega)
      · intro q e1 e2; exact h ⟨q, e1, e2⟩
theorem EscRel.len {s : Bs} {i last : Nat} {l : Bs} (h : EscRel s i last l) : l.length ≤ 6 * s.length := by
  have h1 := congrArg List.length h.eq
  have h2 := esc_len s
  simp only [List.length_append] at h1
  omega
theorem esc_plain (c : UInt8) (r : Bs) (h1 : c ≠ 38) (h2 : c ≠ 60) (h3 : c ≠ 62) (h4 : ¬ ∃ q, c = 194 ∧ r = 160 :: q) : escText (c :: r) = c :: escText r := by
  rw [escText]
  · rw [if_neg h1, if_neg h2, if_neg h3]; rfl
  · intro q e1 e2; exact h4 ⟨q, e1, e2⟩
theorem esc_key (k : Nat) (hk : k < 4) (r : Bs) : escText (keyOf k ++ r) = valOf k ++ escText r := by
  match k, hk with
  | 0, _ => show escText (38 :: r) = _; rw [escText] <;> simp [valOf]
  | 1, _ => show escText (60 :: r) = _; rw [escText] <;> simp [valOf]
  | 2, _ => show escText (62 :: r) = _; rw [escText] <;> simp [valOf]
  | 3, _ => rfl
/-- What a byte is to the table. -/
theorem code_cases (c : UInt8) : (∃ k, k < 3 ∧ keyOf k = [c] ∧ codeAt c.toNat = (k : Int) ∧ slotOf k = k) ∨ (c = 194 ∧ codeAt c.toNat = 4) ∨ (c ≠ 38 ∧ c ≠ 60 ∧ c ≠ 62 ∧ c ≠ 194 ∧ (codeAt c.toNat = 5 ∨ codeAt c.toNat = 3)) := by
  by_cases h0 : c = 38
  · subst h0; exact .inl ⟨0, by omega, rfl, rfl, rfl⟩
  by_cases h1 : c = 60
  · subst h1; exact .inl ⟨1, by omega, rfl, rfl, rfl⟩
  by_cases h2 : c = 62
  · subst h2; exact .inl ⟨2, by omega, rfl, rfl, rfl⟩
  by_cases h3 : c = 194
  · subst h3; exact .inr (.inl ⟨rfl, rfl⟩)
  refine .inr (.inr ⟨h0, h1, h2, h3, ?_⟩)
  have n0 : c.toNat ≠ 38 := fun e => h0 (UInt8.toNat_inj.1 e)
  have n1 : c.toNat ≠ 60 := fun e => h1 (UInt8.toNat_inj.1 e)
  have n2 : c.toNat ≠ 62 := fun e => h2 (UInt8.toNat_inj.1 e)
  have n3 : c.toNat ≠ 194 := fun e => h3 (UInt8.toNat_inj.1 e)
  unfold codeAt
  rw [if_neg n0, if_neg n1, if_neg n2, if_neg n3]
  split
  · exact .inr rfl
  · exact .inl rfl
end Go.Proofs.YtjlgbkedbbailaaGreatDoor.Mu
namespace Go.Proofs.YtjlgbkedbbailaaGreatDoor.Mu
open Go.RowKit Go.Proofs.YtjlgbkedbbailaaGreatDoorW.PrintWords
theorem Buf.drewN {B q : Nat} {l : Bs} {w w1 : World} (h : Buf B q l w w1) (n : Nat) : Buf B q l w (w1.drewN n) := by
  obtain ⟨v, h1, h2⟩ := h.is
  exact ⟨⟨v, h1, h2⟩, pw_below_drewN h.below n, h.base, h.size⟩
theorem valOf_len (k : Nat) : (valOf k).length ≤ 6 := by
  rcases k with _ | _ | _ | _ | k <;> simp [valOf]
theorem Buf.drew {B q : Nat} {l : Bs} {w w1 : World} (h : Buf B q l w w1) : Buf B q l w w1.drew := by
  obtain ⟨v, h1, h2⟩ := h.is
  exact ⟨⟨v, h1, h2⟩, h.below.drew, h.base, h.size⟩
theorem Buf.dr {B q : Nat} {l : Bs} {w w1 w2 : World} (h : Buf B q l w w1) (n : Nat) (hd : Dr (w1.drewN n) w2) : Buf B q l w w2 := by
  obtain ⟨k, rfl⟩ := hd
  exact (h.drewN n).drewN k
/-- What a round of the loop finds in memory. -/
structure Look (g tb b0 b1 b2 b3 b4 : Nat) (w : World) : Prop where
  blk : BlkL w g 180 (grL (.slice (some ⟨tb, 0, none⟩) 5 5) 5 codeM)
  tab : BlkL w tb 175 (tabOf [b0, b1, b2, b3])
  l0 : BlkL w b0 178 (nodeL ⟨(valOf 0).toArray⟩ 8 ⟨#[]⟩ none)
  l1 : BlkL w b1 178 (nodeL ⟨(valOf 1).toArray⟩ 6 ⟨#[]⟩ none)
  l2 : BlkL w b2 178 (nodeL ⟨(valOf 2).toArray⟩ 4 ⟨#[]⟩ none)
  l3 : BlkL w b3 178 (nodeL ⟨#[]⟩ 0 ⟨[160].toArray⟩ (some ⟨b4, 0, none⟩))
  l4 : BlkL w b4 178 (nodeL ⟨(valOf 3).toArray⟩ 2 ⟨#[]⟩ none)
theorem Rep.look {g : Nat} {w : World} (h : Rep g w) : ∃ tb b0 b1 b2 b3 b4, Look g tb b0 b1 b2 b3 b4 w := by
  obtain ⟨tb, bs, h⟩ := h
  obtain ⟨b0, b1, b2, b3, rfl⟩ : ∃ b0 b1 b2 b3, bs = [b0, b1, b2, b3] := by
    match bs, h.four with
    | [a, b, c, d], _ => exact ⟨a, b, c, d, rfl⟩
  obtain ⟨b4, h3, h4⟩ : ∃ x, BlkL w b3 178 (nodeL ⟨#[]⟩ 0 ⟨[160].toArray⟩ (some ⟨x, 0, none⟩)) ∧ BlkL w x 178 (nodeL ⟨(valOf 3).toArray⟩ 2 ⟨#[]⟩ none) := by
    have := h.leaf 3 b3 rfl
    unfold Leaf at this
    rw [if_pos rfl] at this
    exact this
  have hl : ∀ j b, j < 3 → [b0, b1, b2, b3][j]? = some b → BlkL w b 178 (nodeL ⟨(valOf j).toArray⟩ (8 - 2 * (j : Int)) ⟨#[]⟩ none) := by
    intro j b hj hb
    have := h.leaf j b hb
    unfold Leaf at this
    rw [if_neg (by omega)] at this
    exact this
  exact ⟨tb, b0, b1, b2, b3, b4, h.blk, h.tab, hl 0 b0 (by omega) rfl, hl 1 b1 (by omega) rfl, hl 2 b2 (by omega) rfl, h3, h4⟩
/-- A key that is one byte: where it leads. -/
theorem Look.one {g tb b0 b1 b2 b3 b4 : Nat} {w : World} (h : Look g tb b0 b1 b2 b3 b4 w) {k : Nat} (hk : k < 3) : ∃ b, (tabOf [b0, b1, b2, b3])[k]? = some (.pointer (some ⟨b, 0, none⟩)) ∧
    ∃ p, 0 < p ∧ BlkL w b 178 (nodeL ⟨(valOf k).toArray⟩ p ⟨#[]⟩ none) := by
  match k, hk with
  | 0, _ => exact ⟨b0, rfl, 8, by omega, h.l0⟩
  | 1, _ => exact ⟨b1, rfl, 6, by omega, h.l1⟩
  | 2, _ => exact ⟨b2, rfl, 4, by omega, h.l2⟩
theorem Look.drewN {g tb b0 b1 b2 b3 b4 : Nat} {w : World} (h : Look g tb b0 b1 b2 b3 b4 w) (n : Nat) : Look g tb b0 b1 b2 b3 b4 (w.drewN n) := ⟨h.blk, h.tab, h.l0, h.l1, h.l2, h.l3, h.l4⟩
theorem writer_ahead (a : Addr) (w : World) : (nilAhead 346 234 (.pointer (some a)) "WriteString").run Tryz.prog w = .ok (some false) w := by kernel_rfl
theorem writer_method (a : Addr) (w : World) : (method 346 234 (.pointer (some a)) "WriteString").run Tryz.prog w = .ok (226, .pointer (some a)) w := by kernel_rfl
set_option maxRecDepth 100000 in
set_option maxHeartbeats 8000000 in
theorem gwrite_calls (g q : Nat) (s : Bs) (w w1 : World) (hR : Rep g w) (h : Buf w.heap.size q [] w w1) (hs : s.length ≤ 1073741824) :
    Calls Tryz.prog 214 #[.pointer (some ⟨g, 0, none⟩), ioV q, .string ⟨s.toArray⟩] w1 fun e w' => (∃ v, e = .returned v) ∧ Buf w.heap.size q (escText s) w w' := by
  have HR := Lib.hid hR
  have HH := Lib.hid h
  have HW := Lib.hid (getWriter_calls q w1)
  unfold ioV at HW ⊢
  clear hR h
  go_enter Tryz.func214, Tryz.ntmps214
  go_wp2_with fail
  refine HW.out.mono ?_
  rintro e w2 ⟨rfl, rfl⟩
  go_wp2_with fail
  have HE0 := Lib.hid (EscRel.start s)
  go_loopg [6, 7, 9, 11, 12] (s.length + 2) (fun k n er la pm i wr => ∃ (l : Bs) (last j : Nat), k + j = s.length + 2 ∧ n = .int .i64 l.length ∧ er = .nilIface ∧ la = .int .i64 last ∧ pm = .bool false ∧ i = .int .i64 j ∧ EscRel s j last l ∧ Buf w.heap.size q l w wr)
  case atStart => exact ⟨[], 0, 0, by omega, rfl, rfl, rfl, rfl, rfl, HE0.out, HH.out⟩
  case round =>
    obtain ⟨l, last, j, hkj, rfl, rfl, rfl, rfl, rfl, he, hb⟩ := hrel
    have HE := Lib.hid he
    have HB := Lib.hid hb
    have HK := Lib.hid hkj
    have hll := he.len
    have hle := he.le
    have hls := he.ls
    obtain ⟨tb, b0, b1, b2, b3, b4, hl⟩ := (HR.out.next hb.below).look
    have HL := Lib.hid hl
    clear he hb hkj hl HE0 HH HW
    by_cases hj : j < s.length
    · obtain ⟨c, r, hd⟩ : ∃ c r, s.drop j = c :: r := by
        cases hd : s.drop j with
        | nil => rw [List.drop_eq_nil_iff] at hd; omega
        | cons c r => exact ⟨c, r, rfl⟩
      have hix : ∀ h, (⟨s.toArray⟩ : ByteArray)[j]'h = c := by
        intro h
        have : (s.drop j)[0]? = some c := by rw [hd]; rfl
        rw [List.getElem?_drop] at this
        exact (List.getElem?_eq_some_iff.1 this).2
      have c1 := HL.out.blk.cell (i := 1) rfl
      have c4 := HL.out.blk.cell (i := 4) rfl
      have c5 := HL.out.blk.cell (i := 5) rfl
      have cm := HL.out.blk.cell (grL_map _ _ _ _ _ (codeM_at c.toNat c.toNat_lt))
      have hcb := c.toNat_lt
      have HD := Lib.hid hd
      have hjl : ((j : Int) == (s.length : Int)) = false := by rw [beq_eq_false_iff_ne]; omega
      clear hd
      rcases code_cases c with ⟨k, hk3, hkey, hcode, hslot⟩ | ⟨hc, hcode⟩ | ⟨n0, n1, n2, n3, hcode⟩
      · obtain ⟨b, hpb, p, hp0, hbk⟩ := HL.out.one hk3
        have ct := HL.out.tab.cell hpb
        have HLK := Lib.hid (fun n => lookup_leaf g tb b k c r ⟨(valOf k).toArray⟩ p codeM _ (wr.drewN n) (HL.out.drewN n).blk (HL.out.drewN n).tab (hbk.drewN n) hp0 (by rw [codeM_at c.toNat c.toNat_lt, hcode]) (by omega) hpb)
        have HP := Lib.hid (HE.out.key (k := keyOf k) (r := r) (by rw [hkey]; exact HD.out) (by omega) (esc_key k (by omega) r))
        rw [hkey] at HP
        have hxd : (⟨s.toArray⟩ : ByteArray).extract j s.length = ⟨(c :: r).toArray⟩ := by rw [ext_drop, HD.out]
        rw [hcode] at cm
        have hk5 : ((k : Int) == 5) = false := by rw [beq_eq_false_iff_ne]; omega
        have hki : (k : Int) < 5 := by omega
        have hki0 : (0 : Int) ≤ (k : Int) := by omega
        clear hcode hslot hpb hbk hkey
        go_wp2_with fail
        go_quiet (fail)
        go_wp2_with fail
        refine (HLK.out _).mono ?_
        rintro e w3 ⟨rfl, hdr⟩
        have H3 := Lib.hid (HB.out.dr _ hdr)
        clear hdr
        go_wp2_with fail
        have hxm : (⟨s.toArray⟩ : ByteArray).extract last j = ⟨((s.drop last).take (j - last)).toArray⟩ := by rw [ext_any]
        have hi1 : (last : Int) ≤ (j : Int) := by omega
        have hi2 : (j : Int) ≤ (s.length : Int) := by omega
        have hna := writer_ahead ⟨q, 0, none⟩
        have hme := writer_method ⟨q, 0, none⟩
        have hpl : ((s.drop last).take (j - last)).length ≤ s.length := by rw [List.length_take, List.length_drop]; omega
        generalize (s.drop last).take (j - last) = pc at *
        go_region_with (go_at_call 226; refine (write_calls H3.out.drew pc (by omega)).mono ?_; rintro e w4 ⟨rfl, h4⟩)
        have H4 := Lib.hid h4
        clear h4
        have hvl : (valOf k).length ≤ 6 := valOf_len k
        generalize valOf k = vk at *
        go_wp2_with fail
        refine (write_calls H4.out vk (by rw [List.length_append]; omega)).mono ?_
        rintro e w5 ⟨rfl, h5⟩
        have H5 := Lib.hid h5
        clear h5
        go_wp2_with fail
        go_roundg (gk - 1)
        case measure => have := HK.out; omega
        case rel => exact ⟨_, j + 1, j + 1, by have := HK.out; omega, by simp; omega, rfl, by simp, rfl, by simp, HP.out, H5.out⟩
      · have ct : wr.cell? ⟨tb, 4, none⟩ = some (.pointer (some ⟨b3, 0, none⟩)) := HL.out.tab.cell rfl
        rw [hcode] at cm
        have HC := Lib.hid hc
        have HCM := Lib.hid (show codeM[c.toNat]? = some ((4 : Nat) : Int) by rw [codeM_at c.toNat c.toNat_lt, hcode]; rfl)
        clear hcode hc
        cases r with
        | nil =>
          have HP := Lib.hid (HE.out.skip HD.out (by rw [HC.out]; exact esc_plain 194 [] (by decide) (by decide) (by decide) (fun ⟨_, _, e⟩ => by cases e)))
          have HLK := Lib.hid (fun n => lookup_short g tb b3 b4 4 c 160 ⟨(valOf 3).toArray⟩ 2 codeM _ (wr.drewN n) (HL.out.drewN n).blk (HL.out.drewN n).tab (HL.out.drewN n).l3 (HL.out.drewN n).l4 (by omega) HCM.out (by omega) rfl)
          have hxd : (⟨s.toArray⟩ : ByteArray).extract j s.length = ⟨([c] : Bs).toArray⟩ := by rw [ext_drop, HD.out]
          go_wp2_with fail
          go_quiet (fail)
          go_wp2_with fail
          refine (HLK.out _).mono ?_
          rintro e w3 ⟨rfl, hdr⟩
          have H3 := Lib.hid (HB.out.dr _ hdr)
          clear hdr
          go_wp2_with fail
          go_roundg (gk - 1)
          case measure => have := HK.out; omega
          case rel => exact ⟨l, last, j + 1, by have := HK.out; omega, rfl, rfl, rfl, rfl, by simp, HP.out, H3.out⟩
        | cons x r =>
          by_cases hx : x = 160
          · subst hx
            have HLK := Lib.hid (fun n => lookup_two g tb b3 b4 4 c 160 r ⟨(valOf 3).toArray⟩ 2 codeM _ (wr.drewN n) (HL.out.drewN n).blk (HL.out.drewN n).tab (HL.out.drewN n).l3 (HL.out.drewN n).l4 (by omega) HCM.out (by omega) rfl)
            have HP := Lib.hid (HE.out.key (k := keyOf 3) (r := r) (by rw [HD.out, HC.out]; rfl) (by omega) (esc_key 3 (by omega) r))
            have hxd : (⟨s.toArray⟩ : ByteArray).extract j s.length = ⟨(c :: 160 :: r).toArray⟩ := by rw [ext_drop, HD.out]
            have hj2 : j + 2 ≤ s.length := by
              have := congrArg List.length HD.out
              simp at this; omega
            go_wp2_with fail
            go_quiet (fail)
            go_wp2_with fail
            refine (HLK.out _).mono ?_
            rintro e w3 ⟨rfl, hdr⟩
            have H3 := Lib.hid (HB.out.dr _ hdr)
            clear hdr
            go_wp2_with fail
            have hxm : (⟨s.toArray⟩ : ByteArray).extract last j = ⟨((s.drop last).take (j - last)).toArray⟩ := by rw [ext_any]
            have hi1 : (last : Int) ≤ (j : Int) := by omega
            have hi2 : (j : Int) ≤ (s.length : Int) := by omega
            have hna := writer_ahead ⟨q, 0, none⟩
            have hme := writer_method ⟨q, 0, none⟩
            have hpl : ((s.drop last).take (j - last)).length ≤ s.length := by rw [List.length_take, List.length_drop]; omega
            generalize (s.drop last).take (j - last) = pc at *
            go_region_with (go_at_call 226; refine (write_calls H3.out.drew pc (by omega)).mono ?_; rintro e w4 ⟨rfl, h4⟩)
            have H4 := Lib.hid h4
            clear h4
            have hvl : (valOf 3).length ≤ 6 := valOf_len 3
            generalize valOf 3 = vk at *
            go_wp2_with fail
            refine (write_calls H4.out vk (by rw [List.length_append]; omega)).mono ?_
            rintro e w5 ⟨rfl, h5⟩
            have H5 := Lib.hid h5
            clear h5
            go_wp2_with fail
            go_roundg (gk - 2)
            case measure => have := HK.out; omega
            case rel => exact ⟨_, j + 2, j + 2, by have := HK.out; omega, by simp; omega, rfl, by simp, rfl, by simp, HP.out, H5.out⟩
          · have HP := Lib.hid (HE.out.skip HD.out (by rw [HC.out]; exact esc_plain 194 (x :: r) (by decide) (by decide) (by decide) (fun ⟨_, _, e⟩ => hx (by injection e))))
            have HLK := Lib.hid (fun n => lookup_other g tb b3 b4 4 c 160 x r ⟨(valOf 3).toArray⟩ 2 codeM _ (wr.drewN n) (HL.out.drewN n).blk (HL.out.drewN n).tab (HL.out.drewN n).l3 (HL.out.drewN n).l4 (by omega) HCM.out (by omega) rfl hx)
            have hxd : (⟨s.toArray⟩ : ByteArray).extract j s.length = ⟨(c :: x :: r).toArray⟩ := by rw [ext_drop, HD.out]
            clear hx
            go_wp2_with fail
            go_quiet (fail)
            go_wp2_with fail
            refine (HLK.out _).mono ?_
            rintro e w3 ⟨rfl, hdr⟩
            have H3 := Lib.hid (HB.out.dr _ hdr)
            clear hdr
            go_wp2_with fail
            go_roundg (gk - 1)
            case measure => have := HK.out; omega
            case rel => exact ⟨l, last, j + 1, by have := HK.out; omega, rfl, rfl, rfl, rfl, by simp, HP.out, H3.out⟩
      · have HP := Lib.hid (HE.out.skip HD.out (esc_plain c r n0 n1 n2 (fun ⟨_, e, _⟩ => n3 e)))
        have ct := HL.out.tab.cell (i := 3) rfl
        clear n0 n1 n2 n3
        rcases hcode with hcode | hcode
        all_goals
          rw [hcode] at cm
          clear hcode
          go_wp2_with fail
          go_quiet (fail)
          go_wp2_with fail
          go_roundg (gk - 1)
          case measure => have := HK.out; omega
          case rel => exact ⟨l, last, j + 1, by have := HK.out; omega, rfl, rfl, rfl, rfl, by simp, HP.out, HB.out.drewN _⟩
    · by_cases hj2 : j = s.length
      · subst hj2
        have HP := Lib.hid HE.out.last
        have c1 := HL.out.blk.cell (i := 1) rfl
        have HLK := Lib.hid (lookup_empty g tb codeM wr HL.out.blk)
        have hxd : (⟨s.toArray⟩ : ByteArray).extract s.length s.length = ⟨#[]⟩ := by rw [ext_drop, List.drop_length]
        go_wp2_with fail
        refine HLK.out.mono ?_
        rintro e w3 ⟨rfl, hdr⟩
        have H3 := Lib.hid (HB.out.dr 0 hdr)
        clear hdr
        go_wp2_with fail
        go_roundg (gk - 1)
        case measure => have := HK.out; omega
        case rel => exact ⟨l, last, s.length + 1, by have := HK.out; omega, rfl, rfl, rfl, rfl, by simp, HP.out, H3.out⟩
      · have HF := Lib.hid (HE.out.fin (by omega))
        have hgt : ¬ (j : Int) ≤ (s.length : Int) := by omega
        by_cases hls2 : last = s.length
        · subst hls2
          go_wp2_with fail
          go_ret2
          refine ⟨⟨_, rfl⟩, ?_⟩
          have := HB.out
          have hf := HF.out
          rw [List.drop_length, List.append_nil] at hf
          rw [← hf]
          exact this
        · have hlb : ((last : Int) == (s.length : Int)) = false := by rw [beq_eq_false_iff_ne]; omega
          have hxd : (⟨s.toArray⟩ : ByteArray).extract last s.length = ⟨(s.drop last).toArray⟩ := by rw [ext_drop]
          have hi2 : (last : Int) ≤ (s.length : Int) := by omega
          have hna := writer_ahead ⟨q, 0, none⟩
          have hme := writer_method ⟨q, 0, none⟩
          have hpl : (s.drop last).length ≤ s.length := by rw [List.length_drop]; omega
          generalize s.drop last = pc at *
          go_wp2_with fail
          go_region_with (go_at_call 226; refine (write_calls HB.out.drew pc (by omega)).mono ?_; rintro e w4 ⟨rfl, h4⟩)
          have H4 := Lib.hid h4
          clear h4
          go_wp2_with fail
          go_ret2
          have := H4.out
          rw [HF.out] at this
          exact ⟨⟨_, rfl⟩, this⟩
end Go.Proofs.YtjlgbkedbbailaaGreatDoor.Mu
namespace Go.Proofs.YtjlgbkedbbailaaGreatDoor.Mu
open Go.RowKit Go.Proofs.YtjlgbkedbbailaaGreatDoorW.PrintWords
theorem str_bI (l : Bs) : strOfNums (bI l) = ⟨l.toArray⟩ := by
  unfold strOfNums bI
  congr 1
  rw [List.map_map]
  congr 1
  conv => rhs; rw [← List.map_id l]
  apply List.map_congr_left
  intro b _
  simp
theorem below_of_gr {w w1 : World} (h : w.grownBy w1 none) : Below w.heap.size w w1 := ⟨h.os, h.tape, h.output, h.size, fun i hi => h.block i hi (by simp)⟩
theorem Buf.conv {B q : Nat} {l : Bs} {w w1 : World} (h : Buf B q l w w1) : ∃ v, w1.cell? ⟨q, 0, none⟩ = some v ∧ (∃ A n c, v = .slice A n c) ∧ (convert 233 9 v).run Tryz.prog w1 = .ok (.string ⟨l.toArray⟩) w1 := by
  obtain ⟨v, h1, h2⟩ := h.is
  obtain ⟨A, c, hv⟩ := own_slice h2
  refine ⟨v, h1.cell rfl, ⟨A, _, c, hv⟩, ?_⟩
  rw [own_string (P := Tryz.prog) Tryz.underlying233 Tryz.underlying5 Tryz.underlying9 h2, str_bI]
set_option maxHeartbeats 1000000 in
theorem greplace_calls (g : Nat) (s : Bs) (w : World) (hR : Rep g w) (hs : s.length ≤ 1073741824) :
    Calls Tryz.prog 213 #[.pointer (some ⟨g, 0, none⟩), .string ⟨s.toArray⟩] w fun e w' => e = .returned (.string ⟨(escText s).toArray⟩) ∧ Below w.heap.size w w' := by
  obtain ⟨i0, hi, hz⟩ := Option.map_eq_some_iff.1 info_u8
  simp only [Prod.mk.injEq] at hz
  obtain ⟨hz0, hz1, hz2⟩ := hz
  obtain ⟨w1, hmk, hown, hgr⟩ := run_make_own (P := Tryz.prog) w w.heap.size 233 5 i0 (.int .u8 0) 1 Tryz.underlying233 hi hz0 hz1 .i64 .i64 s.length (by rw [hz2]; omega) (by unfold maxLen; omega) (Nat.le_refl _)
  have HR := Lib.hid hR
  have HO := Lib.hid hown
  have HG := Lib.hid hgr
  clear hR hown hgr hi hz0 hz1 hz2
  go_enter Tryz.func213, Tryz.ntmps213
  go_wp2_with fail
  have hbuf : Buf w.heap.size w1.heap.size [] w (w1.alloc (.cells #[.slice (some ⟨w.heap.size, 0, none⟩) 0 s.length] 233)) :=
    ⟨⟨_, BlkL.new w1 _ [.slice (some ⟨w.heap.size, 0, none⟩) 0 s.length], own_alloc HO.out _⟩, (below_of_gr HG.out).alloc HG.out.size _, HG.out.size, by have := HG.out.size; show _ ≤ (w1.heap.push _).size; simp; omega⟩
  have HW := Lib.hid (gwrite_calls g w1.heap.size s w _ HR.out hbuf hs)
  unfold ioV at HW
  clear hbuf hmk
  refine HW.out.mono ?_
  rintro e w2 ⟨⟨v, rfl⟩, h2⟩
  obtain ⟨x, hx, ⟨A, n, c, rfl⟩, hcv⟩ := h2.conv
  have H2 := Lib.hid h2
  clear h2
  go_wp2_with fail
  go_ret
  exact ⟨rfl, H2.out.below⟩
end Go.Proofs.YtjlgbkedbbailaaGreatDoor.Mu
namespace Go.Proofs.YtjlgbkedbbailaaGreatDoor.Mu
open Go.RowKit Go.Proofs.YtjlgbkedbbailaaGreatDoorW.PrintWords
theorem genReplace_method (a : Addr) (w : World) : (method 346 150 (.pointer (some a)) "Replace").run Tryz.prog w = .ok (213, .pointer (some a)) w := by kernel_rfl
theorem Rep.drew {g : Nat} {w : World} (h : Rep g w) : Rep g w.drew := by
  obtain ⟨tb, bs, h⟩ := h
  exact ⟨tb, bs, h.blk, h.tab, h.leaf, h.four⟩
set_option maxHeartbeats 1000000 in
theorem replacer_calls (b o cap : Nat) (s : Bs) (w : World) (hcap : 8 ≤ cap) (hb : BlkL w b 111 (repL 0 0 .nilIface (.slice (some ⟨o, 0, none⟩) 8 cap))) (hk : Pairs w o) (hob : o ≠ b) (hs : s.length ≤ 1073741824) :
    Calls Tryz.prog 58 #[.pointer (some ⟨b, 0, none⟩), .string ⟨s.toArray⟩] w fun e w' => e = .returned (.string ⟨(escText s).toArray⟩) ∧ w.grownBy w' (some b) := by
  have hb1 := hb.set_ 1 (.int .i32 1)
  have hk1 : Pairs (w.setCell ⟨b, 1, none⟩ (.int .i32 1)) o := fun k h4 =>
    ⟨(World.cell?_setCell_other _ ⟨b, 1, none⟩ ⟨o, 2 * k, none⟩ _ (by simp)).trans (hk k h4).1, (World.cell?_setCell_other _ ⟨b, 1, none⟩ ⟨o, 2 * k + 1, none⟩ _ (by simp)).trans (hk k h4).2⟩
  have hdo := do_calls b w (fun w2 => Built b w.heap.size 0 1 (w.setCell ⟨b, 1, none⟩ (.int .i32 1)) w2) (by
    refine (buildOnce_calls b o cap _ hcap hk1 hb1).mono ?_
    rintro e w2 ⟨rfl, h2⟩
    rw [World.size_setCell] at h2
    exact ⟨rfl, h2, h2.blk.cell rfl, h2.blk.cell rfl, h2.blk.f 0, h2.blk.f 1⟩) (hb.cell rfl) (hb.cell rfl) (hb.f 0) (hb.f 1)
  have HD := Lib.hid hdo
  have hme := genReplace_method ⟨w.heap.size, 0, none⟩
  clear hdo hb1 hk1 hb hk
  go_enter Tryz.func58, Tryz.ntmps58
  go_wp2_with fail
  refine HD.out.mono ?_
  rintro e w2 ⟨rfl, w3, h3, rfl⟩
  have hb3 : BlkL w3.drew b 111 (repL 0 1 (genV w.heap.size) (.slice none 0 0)) := h3.blk
  have hb4 := (hb3.set_ 0 (.int .u32 1)).set_ 1 (.int .i32 0)
  have hr4 := ((h3.rep.drew).far hb3 0 (.int .u32 1)).far (hb3.set_ 0 (.int .u32 1)) 1 (.int .i32 0)
  have hg4 := gr_set (p := ⟨b, 1, none⟩) (gr_set (p := ⟨b, 0, none⟩) (gr_trans (gr_set (gr_refl w (some b)) (p := ⟨b, 1, none⟩) (.inl rfl) (.int .i32 1)) (gr_drewN h3.grown 1)) (.inl rfl) (.int .u32 1)) (.inl rfl) (.int .i32 0)
  change w.grownBy ((w3.drew.setCell ⟨b, 0, none⟩ (.int .u32 1)).setCell ⟨b, 1, none⟩ (.int .i32 0)) (some b) at hg4
  generalize (w3.drew.setCell ⟨b, 0, none⟩ (.int .u32 1)).setCell ⟨b, 1, none⟩ (.int .i32 0) = w4 at *
  have c3 : w4.cell? ⟨b, 3, none⟩ = some (.iface 150 (.pointer (some ⟨w.heap.size, 0, none⟩))) := hb4.cell rfl
  have HR := Lib.hid (greplace_calls w.heap.size s w4 hr4 hs)
  have HG := Lib.hid hg4
  clear hb4 hr4 hg4 hb3 h3
  go_wp2_with fail
  refine HR.out.mono ?_
  rintro e w5 ⟨rfl, h5⟩
  have H5 := Lib.hid h5
  clear h5
  go_wp2_with fail
  go_ret
  exact ⟨rfl, gr_trans HG.out (gr_below H5.out (some b))⟩
theorem pairs_new (w : World) : Pairs (w.alloc (.cells #[.string ⟨#[38]⟩, .string ⟨#[38, 97, 109, 112, 59]⟩, .string ⟨#[60]⟩, .string ⟨#[38, 108, 116, 59]⟩, .string ⟨#[62]⟩, .string ⟨#[38, 103, 116, 59]⟩, .string ⟨#[194, 160]⟩, .string ⟨#[38, 110, 98, 115, 112, 59]⟩] 9)) w.heap.size := by
  have h := BlkL.new w 9 (eight.map Value.string)
  exact pairs_of fun i s hs => h.cell (by rw [List.getElem?_map, hs]; rfl)
set_option maxHeartbeats 1000000 in
theorem text_calls (s : Bs) (w : World) (hs : s.length ≤ 1073741824) :
    Calls Tryz.prog 33 #[.string ⟨s.toArray⟩] w fun e w' => e = .returned (.string ⟨(escText s).toArray⟩) ∧ Below w.heap.size w w' := by
  have HN := Lib.hid (newReplacer_calls w.heap.size _ (pairs_new w))
  go_enter Tryz.func33, Tryz.ntmps33
  go_wp2_with fail
  refine HN.out.mono ?_
  rintro e w2 ⟨b, o, cap, h⟩
  obtain ⟨rfl, hb, hblk, hp, hcap, hbase⟩ := h
  have hob : o ≠ b := by
    rintro rfl
    have h1 := (hp 0 (by omega)).1
    have h2 : w2.cell? ⟨o, 0, none⟩ = some (.int .u32 0) := hblk.cell rfl
    rw [h1] at h2; cases h2
  have hwb : w.heap.size ≤ b := Nat.le_trans (by show w.heap.size ≤ (w.heap.push _).size; simp) hbase
  have HR := Lib.hid (replacer_calls b o cap s w2 hcap hblk hp hob hs)
  have HB := Lib.hid hb
  clear hb hblk hp
  go_wp2_with fail
  refine HR.out.mono ?_
  rintro e w3 ⟨rfl, h3⟩
  have H3 := Lib.hid h3
  clear h3
  go_wp2_with fail
  go_ret
  refine ⟨rfl, ?_⟩
  have hw2 : Below w.heap.size w w2 := ((Below.refl _ w).alloc (Nat.le_refl _) _).trans (HB.out.mono (by show w.heap.size ≤ (w.heap.push _).size; simp))
  exact pw_below_grown hw2 (some b) hw2.size H3.out (fun k hk => by injection hk with hk; omega)
end Go.Proofs.YtjlgbkedbbailaaGreatDoor.Mu
