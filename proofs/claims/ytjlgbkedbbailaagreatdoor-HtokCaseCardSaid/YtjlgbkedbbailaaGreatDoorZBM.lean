/- The plain model of layers 12 and 13 (ent, htok), on lists of bytes: no program and no memory in it.
   Plain laws of layer 12's model: what is written is read; how long what is read is.
   Plain laws of layer 13's model: rounds, lengths, and that what is written is read to the same.
   Plain laws of layer 13's model: the forms of what a document is taken apart to; a document without a tag; a remark.
   Plain laws of layer 13's model: tokens are written and read to the same, whatever the size of their names' letters.
   Plain: how long the texts of the tokens are.
   Plain laws: quotes replaced one by one are the escaped quotes of the model; lengths of what is escaped. -/
import Derived.Lib.IndexMore
import Derived.Lib.RuneBytes
import Derived.Lib.SlTrimSet
import Derived.Lib.Replace
import Derived.Lib.IndexBytes
set_option linter.unusedVariables false
set_option linter.unusedSimpArgs false
namespace Go.Proofs.YtjlgbkedbbailaaGreatDoor.Mu
abbrev Bs := List UInt8

/-! ### bytes -/
def white (c : UInt8) : Bool := c == 32 || c == 9 || c == 10 || c == 12 || c == 13
def letter (c : UInt8) : Bool := decide (97 ≤ (c ||| 32).toNat) && decide ((c ||| 32).toNat ≤ 122)
def low (c : UInt8) : UInt8 := if 65 ≤ c.toNat ∧ c.toNat ≤ 90 then c + 32 else c
def small (l : Bs) : Bs := l.map low
/-- Up to the first byte of which p holds, and from there on. -/
def till (p : UInt8 → Bool) : Bs → Bs × Bs
  | [] => ([], [])
  | c :: r => if p c then ([], c :: r) else (c :: (till p r).1, (till p r).2)
/-- Around the first instance of a text; nothing behind it, if there is none. -/
def cutB (sep : Bs) : Bs → Bs × Bs
  | [] => ([], [])
  | c :: r => if sep.isPrefixOf (c :: r) then ([], (c :: r).drop sep.length) else (c :: (cutB sep r).1, (cutB sep r).2)
def hasB (sep : Bs) : Bs → Bool
  | [] => sep.isEmpty
  | c :: r => sep.isPrefixOf (c :: r) || hasB sep r

/-! ### layer 12 -/
def digit (c : UInt8) : Option Nat :=
  if 48 ≤ c.toNat ∧ c.toNat ≤ 57 then some (c.toNat - 48)
  else if 97 ≤ c.toNat ∧ c.toNat ≤ 102 then some (c.toNat - 87)
  else if 65 ≤ c.toNat ∧ c.toNat ≤ 70 then some (c.toNat - 55) else none
/-- The number of digits of a base. -/
def numF (base : Nat) : Nat → Bs → Option Nat
  | n, [] => some n
  | n, c :: r => match digit c with
    | some d => if d < base then numF base (n * base + d) r else none
    | none => none
def num (base most : Nat) (l : Bs) : Option Nat := if l.length < 1 ∨ most < l.length then none else numF base 0 l
def high : List Int := [0x20ac, 0x81, 0x201a, 0x192, 0x201e, 0x2026, 0x2020, 0x2021, 0x2c6, 0x2030, 0x160, 0x2039, 0x152, 0x8d, 0x17d, 0x8f, 0x90, 0x2018, 0x2019, 0x201c, 0x201d, 0x2022, 0x2013, 0x2014, 0x2dc, 0x2122, 0x161, 0x203a, 0x153, 0x9d, 0x17e, 0x178]
def bad : Bs := [239, 191, 189]
/-- The sign of a number. -/
def signOf (n : Nat) : Bs :=
  if n = 0 then bad else if 128 ≤ n ∧ n ≤ 159 then Lib.encodeRune (high.getD (n - 128) 0) else Lib.encodeRune n
def namedTab : List (Bs × Bs) := [([97, 109, 112], [38]), ([108, 116], [60]), ([103, 116], [62]), ([113, 117, 111, 116], [34]), ([97, 112, 111, 115], [39]), ([110, 98, 115, 112], [194, 160]), ([99, 111, 112, 121], [194, 169]), ([114, 101, 103], [194, 174]), ([104, 101, 108, 108, 105, 112], [226, 128, 166]), ([110, 100, 97, 115, 104], [226, 128, 147]), ([109, 100, 97, 115, 104], [226, 128, 148]), ([101, 117, 114, 111], [226, 130, 172]), ([108, 115, 113, 117, 111], [226, 128, 152]), ([114, 115, 113, 117, 111], [226, 128, 153]), ([108, 100, 113, 117, 111], [226, 128, 156]), ([114, 100, 113, 117, 111], [226, 128, 157])]
def named (s : Bs) : Option Bs := (namedTab.find? (fun p => p.1 == s)).map (·.2)
/-- The sign of what stands between '&' and ';'. -/
def sign (s : Bs) : Option Bs :=
  match s with
  | 35 :: x :: r => if x = 120 ∨ x = 88 then (num 16 6 r).map signOf else (num 10 7 (x :: r)).map signOf
  | 35 :: [] => none
  | _ => named s
/-- A reference behind its '&': its sign, and what is behind it. -/
def refAt (s : Bs) : Option (Bs × Bs) := if hasB [59] s then (sign (cutB [59] s).1).map fun t => (t, (cutB [59] s).2) else none
def decF : Nat → Bs → Bs
  | 0, _ => []
  | _, [] => []
  | k + 1, c :: r => if c = 38 then match refAt r with
      | some (t, q) => t ++ decF k q
      | none => 38 :: decF k r
    else c :: decF k r
def dec (s : Bs) : Bs := decF s.length s
def escText : Bs → Bs
  | 194 :: 160 :: r => [38, 110, 98, 115, 112, 59] ++ escText r
  | c :: r => (if c = 38 then [38, 97, 109, 112, 59] else if c = 60 then [38, 108, 116, 59] else if c = 62 then [38, 103, 116, 59] else [c]) ++ escText r
  | [] => []
def escQuote : Bs → Bs
  | [] => []
  | c :: r => (if c = 34 then [38, 113, 117, 111, 116, 59] else [c]) ++ escQuote r
def escValue (s : Bs) : Bs := escQuote (escText s)

/-! ### layer 13 -/
structure Attr where
  name : Bs
  value : Bs
  deriving DecidableEq, Repr
structure Tok where
  kind : Nat
  name : Bs
  attrs : List Attr
  text : Bs
  deriving DecidableEq, Repr
def chars (t : Bs) : Tok := ⟨1, [], [], t⟩
def comment (t : Bs) : Tok := ⟨4, [], [], t⟩

def rawNames : List Bs := [[115, 99, 114, 105, 112, 116], [115, 116, 121, 108, 101], [116, 105, 116, 108, 101], [116, 101, 120, 116, 97, 114, 101, 97], [120, 109, 112], [105, 102, 114, 97, 109, 101], [110, 111, 101, 109, 98, 101, 100], [110, 111, 102, 114, 97, 109, 101, 115], [112, 108, 97, 105, 110, 116, 101, 120, 116], [110, 111, 115, 99, 114, 105, 112, 116]]
def raw (name : Bs) : Bool := rawNames.contains name
def plaintext : Bs := [112, 108, 97, 105, 110, 116, 101, 120, 116]

def value (s : Bs) : Bs × Bs :=
  match s with
  | q :: r => if q = 34 ∨ q = 39 then (dec (cutB [q] r).1, (cutB [q] r).2) else (dec (till (fun c => white c || c == 62) s).1, (till (fun c => white c || c == 62) s).2)
  | [] => ([], [])
def addAttr (l : List Attr) (a : Attr) : List Attr := if l.length < 30 ∧ l.all (fun b => !(b.name == a.name)) = true then l ++ [a] else l
/-- The attribute that begins with a byte (no white one, no '/', no '>'), and what is behind it. -/
def attr1 (c : UInt8) (r : Bs) : Attr × Bs :=
  let n := till (fun c => white c || c == 47 || c == 62 || c == 61) r
  match n.2.dropWhile white with
  | 61 :: b => (⟨small (c :: n.1), (value (b.dropWhile white)).1⟩, (value (b.dropWhile white)).2)
  | _ => (⟨small (c :: n.1), []⟩, n.2)
def attrsF : Nat → List Attr → Bs → Option (List Attr × Bs)
  | 0, _, _ => none
  | k + 1, l, s => match s.dropWhile (fun c => white c || c == 47) with
    | [] => none
    | c :: r => if c = 62 then some (l, r) else attrsF k (addAttr l (attr1 c r).1) (attr1 c r).2
def attrs (s : Bs) : Option (List Attr × Bs) := attrsF (s.length + 1) [] s
/-- Does a raw element's end stand here? -/
def rawEnd (name s : Bs) : Bool :=
  match s with
  | 60 :: 47 :: r => decide (name.length < r.length) && small (r.take name.length) == name && (white (r.getD name.length 0) || r.getD name.length 0 == 47 || r.getD name.length 0 == 62)
  | _ => false
def rawCut (name : Bs) : Bs → Bs × Bs
  | [] => ([], [])
  | c :: r => if rawEnd name (c :: r) then ([], c :: r) else (c :: (rawCut name r).1, (rawCut name r).2)
def rawPart (name s : Bs) : Bs × Bs := if name = plaintext then (s, []) else rawCut name s
def tag (kind : Nat) (s : Bs) : List Tok × Bs :=
  let n := till (fun c => white c || c == 47 || c == 62) s
  let name := small n.1
  match attrs n.2 with
  | none => ([], [])
  | some (l, rest) =>
    if kind = 3 then ([⟨3, name, [], []⟩], rest)
    else if raw name then ([⟨kind, name, l, []⟩, chars (rawPart name rest).1], (rawPart name rest).2)
    else ([⟨kind, name, l, []⟩], rest)
def commentTo (sep s : Bs) : List Tok × Bs := ([comment (cutB sep s).1], (cutB sep s).2)
def remark (s : Bs) : List Tok × Bs :=
  match s with
  | 62 :: r => ([comment []], r)
  | 45 :: 62 :: r => ([comment []], r)
  | _ => commentTo [45, 45, 62] s
def begins (s : Bs) : Bool :=
  match s with
  | 60 :: 47 :: _ :: _ => true
  | 60 :: c :: _ => letter c || c == 33 || c == 63
  | _ => false
def markup (s : Bs) : List Tok × Bs :=
  match s with
  | 60 :: 47 :: d :: r => if letter d then tag 3 (d :: r) else if d = 62 then ([], r) else commentTo [62] (d :: r)
  | 60 :: 33 :: 45 :: 45 :: r => remark r
  | 60 :: 33 :: r => commentTo [62] r
  | 60 :: 63 :: r => commentTo [62] (63 :: r)
  | _ :: r => tag 2 r
  | [] => ([], [])
/-- Up to the first markup. -/
def lead : Bs → Bs × Bs
  | [] => ([], [])
  | c :: r => if begins (c :: r) then ([], c :: r) else (c :: (lead r).1, (lead r).2)
def scanF : Nat → Bs → List Tok
  | 0, _ => []
  | k + 1, s => if s = [] then [] else chars (dec (lead s).1) :: (if (lead s).2 = [] then [] else (markup (lead s).2).1 ++ scanF k (markup (lead s).2).2)
/-- A token behind others: characters that stand one behind the other are one, empty ones are none. -/
def push (l : List Tok) (t : Tok) : List Tok :=
  if t.kind = 1 then
    if t.text = [] then l else
    match l.getLast? with
    | some x => if x.kind = 1 then l.dropLast ++ [{ x with text := x.text ++ t.text }] else l ++ [t]
    | none => [t]
  else l ++ [t]
def glue (l : List Tok) : List Tok := l.foldl push []
def scan (s : Bs) : List Tok := glue (scanF (s.length + 1) s)
def wAttrs : List Attr → Bs
  | [] => []
  | a :: r => [32] ++ a.name ++ [61, 34] ++ escValue a.value ++ [34] ++ wAttrs r
def wTok (t : Tok) : Bs :=
  if t.kind = 1 then escText t.text
  else if t.kind = 2 then [60] ++ t.name ++ wAttrs t.attrs ++ [62]
  else if t.kind = 3 then [60, 47] ++ t.name ++ [62] else []
def write (l : List Tok) : Bs := (l.map wTok).flatten
end Go.Proofs.YtjlgbkedbbailaaGreatDoor.Mu
namespace Go.Proofs.YtjlgbkedbbailaaGreatDoor.Mu

theorem isPrefixOf_one (c : UInt8) (d : UInt8) (r : Bs) : [c].isPrefixOf (d :: r) = (c == d) := by simp [List.isPrefixOf]

theorem cutB_le (sep : Bs) : ∀ s : Bs, (cutB sep s).2.length ≤ s.length
  | [] => by simp [cutB]
  | c :: r => by
    have := cutB_le sep r
    unfold cutB; split
    · simp only [List.length_drop, List.length_cons]; omega
    · simp only [List.length_cons]; omega
theorem cutB_len (sep : Bs) : ∀ s : Bs, (cutB sep s).1.length + (cutB sep s).2.length ≤ s.length
  | [] => by simp [cutB]
  | c :: r => by
    have := cutB_len sep r
    unfold cutB; split
    · simp only [List.length_drop, List.length_cons, List.length_nil]; omega
    · simp only [List.length_cons]; omega
theorem cutB_has (sep : Bs) (h0 : sep ≠ []) : ∀ s : Bs, hasB sep s = true → (cutB sep s).1.length + (cutB sep s).2.length + sep.length = s.length
  | [], h => by cases sep with
    | nil => exact absurd rfl h0
    | cons a b => simp [hasB] at h
  | c :: r, h => by
    unfold cutB; split
    · rename_i hp
      have := List.IsPrefix.length_le (List.isPrefixOf_iff_prefix.1 hp)
      simp only [List.length_drop, List.length_nil]; omega
    · rename_i hp
      have h' : hasB sep r = true := by
        unfold hasB at h; simpa [hp] using h
      have := cutB_has sep h0 r h'
      simp only [List.length_cons]; omega
theorem refAt_len {r t q : Bs} (h : refAt r = some (t, q)) : q.length < r.length := by
  unfold refAt at h
  split at h
  · rename_i hh
    have := cutB_has [59] (by simp) r hh
    cases hs : sign (cutB [59] r).1 with
    | none => simp [hs] at h
    | some z => simp [hs] at h; rw [← h.2]; simp at this; omega
  · cases h

theorem decF_more : ∀ (k : Nat) (s : Bs), s.length ≤ k → ∀ k', s.length ≤ k' → decF k s = decF k' s
  | 0, s, h, k', h' => by
    have : s = [] := List.length_eq_zero_iff.1 (by omega)
    subst this; cases k' <;> rfl
  | k + 1, [], h, k', h' => by cases k' <;> rfl
  | k + 1, c :: r, h, k', h' => by
    cases k' with
    | zero => simp at h'
    | succ k' =>
      simp only [List.length_cons] at h h'
      have e := decF_more k r (by omega) k' (by omega)
      simp only [decF]
      split
      · cases hr : refAt r with
        | none => simp only [e]
        | some p =>
          obtain ⟨t, q⟩ := p
          have := refAt_len hr
          simp only [decF_more k q (by omega) k' (by omega)]
      · rw [e]
theorem dec_nil : dec [] = [] := rfl
theorem dec_cons (c : UInt8) (r : Bs) (h : c ≠ 38) : dec (c :: r) = c :: dec r := by
  simp [dec, decF, h]
theorem dec_ref (r t q : Bs) (h : refAt r = some (t, q)) : dec (38 :: r) = t ++ dec q := by
  have := refAt_len h
  simp only [dec, List.length_cons, decF, if_true, h]
  rw [decF_more r.length q (by omega) q.length (Nat.le_refl _)]
theorem dec_none (r : Bs) (h : refAt r = none) : dec (38 :: r) = 38 :: dec r := by
  simp only [dec, List.length_cons, decF, if_true, h]

theorem escText_cons (c : UInt8) (r : Bs) (h : c ≠ 194 ∨ r.head? ≠ some 160) : escText (c :: r) = (if c = 38 then [38, 97, 109, 112, 59] else if c = 60 then [38, 108, 116, 59] else if c = 62 then [38, 103, 116, 59] else [c]) ++ escText r := by
  rw [escText]
  intro r' hc hr
  subst hr
  rcases h with h | h
  · exact h hc
  · simp at h
theorem dec_escText : ∀ t : Bs, dec (escText t) = t
  | [] => rfl
  | [c] => by
    rw [escText_cons c [] (.inr (by simp))]
    have : escText [] = [] := by simp [escText]
    rw [this, List.append_nil]
    split
    · subst_vars; rfl
    · split
      · subst_vars; rfl
      · split
        · subst_vars; rfl
        · rename_i h _ _; rw [dec_cons _ _ h, dec_nil]
  | c :: d :: r => by
    by_cases h : c = 194 ∧ d = 160
    · obtain ⟨rfl, rfl⟩ := h
      rw [escText]
      have e := dec_ref ([110, 98, 115, 112, 59] ++ escText r) [194, 160] (escText r) rfl
      simp only [List.cons_append, List.nil_append] at e ⊢
      rw [e, dec_escText r]
    · have h' : c ≠ 194 ∨ (d :: r).head? ≠ some 160 := by
        by_cases hc : c = 194
        · right; intro hd; exact h ⟨hc, by simpa using hd⟩
        · exact .inl hc
      have ih := dec_escText (d :: r)
      rw [escText_cons c (d :: r) h']
      split
      · subst_vars
        have e := dec_ref ([97, 109, 112, 59] ++ escText (d :: r)) [38] (escText (d :: r)) rfl
        simp only [List.cons_append, List.nil_append] at e ⊢
        rw [e, ih]
      · split
        · subst_vars
          have e := dec_ref ([108, 116, 59] ++ escText (d :: r)) [60] (escText (d :: r)) rfl
          simp only [List.cons_append, List.nil_append] at e ⊢
          rw [e, ih]
        · split
          · subst_vars
            have e := dec_ref ([103, 116, 59] ++ escText (d :: r)) [62] (escText (d :: r)) rfl
            simp only [List.cons_append, List.nil_append] at e ⊢
            rw [e, ih]
          · rename_i h1 _ _
            simp only [List.cons_append, List.nil_append]
            rw [dec_cons _ _ h1, ih]

theorem escQuote_append (a b : Bs) : escQuote (a ++ b) = escQuote a ++ escQuote b := by
  induction a with
  | nil => rfl
  | cons c r ih => simp only [List.cons_append, escQuote, ih, List.append_assoc]
theorem dec_escValue : ∀ t : Bs, dec (escValue t) = t
  | [] => rfl
  | [c] => by
    unfold escValue
    rw [escText_cons c [] (.inr (by simp))]
    have : escText [] = [] := by simp [escText]
    rw [this, List.append_nil]
    split
    · subst_vars; rfl
    · split
      · subst_vars; rfl
      · split
        · subst_vars; rfl
        · rename_i h _ _
          by_cases hq : c = 34
          · subst hq; rfl
          · simp only [escQuote, if_neg hq, List.append_nil]; rw [dec_cons _ _ h, dec_nil]
  | c :: d :: r => by
    unfold escValue
    by_cases h : c = 194 ∧ d = 160
    · obtain ⟨rfl, rfl⟩ := h
      rw [escText, escQuote_append]
      have e := dec_ref ([110, 98, 115, 112, 59] ++ escQuote (escText r)) [194, 160] (escQuote (escText r)) rfl
      have e2 : escQuote [38, 110, 98, 115, 112, 59] = [38, 110, 98, 115, 112, 59] := rfl
      rw [e2]
      simp only [List.cons_append, List.nil_append] at e ⊢
      rw [e]
      have ih := dec_escValue r
      unfold escValue at ih
      rw [ih]
    · have h' : c ≠ 194 ∨ (d :: r).head? ≠ some 160 := by
        by_cases hc : c = 194
        · right; intro hd; exact h ⟨hc, by simpa using hd⟩
        · exact .inl hc
      have ih := dec_escValue (d :: r)
      unfold escValue at ih
      rw [escText_cons c (d :: r) h', escQuote_append]
      split
      · subst_vars
        have e := dec_ref ([97, 109, 112, 59] ++ escQuote (escText (d :: r))) [38] (escQuote (escText (d :: r))) rfl
        have e2 : escQuote [38, 97, 109, 112, 59] = [38, 97, 109, 112, 59] := rfl
        rw [e2]
        simp only [List.cons_append, List.nil_append] at e ⊢
        rw [e, ih]
      · split
        · subst_vars
          have e := dec_ref ([108, 116, 59] ++ escQuote (escText (d :: r))) [60] (escQuote (escText (d :: r))) rfl
          have e2 : escQuote [38, 108, 116, 59] = [38, 108, 116, 59] := rfl
          rw [e2]
          simp only [List.cons_append, List.nil_append] at e ⊢
          rw [e, ih]
        · split
          · subst_vars
            have e := dec_ref ([103, 116, 59] ++ escQuote (escText (d :: r))) [62] (escQuote (escText (d :: r))) rfl
            have e2 : escQuote [38, 103, 116, 59] = [38, 103, 116, 59] := rfl
            rw [e2]
            simp only [List.cons_append, List.nil_append] at e ⊢
            rw [e, ih]
          · rename_i h1 _ _
            by_cases hq : c = 34
            · subst hq
              have e := dec_ref ([113, 117, 111, 116, 59] ++ escQuote (escText (d :: r))) [34] (escQuote (escText (d :: r))) rfl
              simp only [escQuote, if_true, List.cons_append, List.nil_append] at e ⊢
              rw [e, ih]
            · simp only [escQuote, if_neg hq, List.cons_append, List.nil_append]
              rw [dec_cons _ _ h1, ih]

/-- No '<' and no '>' in what is written of a text. -/
theorem escText_no : ∀ t : Bs, ∀ c ∈ escText t, c ≠ 60 ∧ c ≠ 62
  | [] => by simp [escText]
  | [c] => by
    rw [escText_cons c [] (.inr (by simp))]
    have : escText [] = [] := by simp [escText]
    rw [this, List.append_nil]
    intro x hx
    split at hx
    · simp at hx; rcases hx with rfl | rfl | rfl | rfl | rfl <;> decide
    · split at hx
      · simp at hx; rcases hx with rfl | rfl | rfl | rfl <;> decide
      · split at hx
        · simp at hx; rcases hx with rfl | rfl | rfl | rfl <;> decide
        · rename_i h1 h2 h3; simp at hx; subst hx; exact ⟨h2, h3⟩
  | c :: d :: r => by
    intro x hx
    by_cases h : c = 194 ∧ d = 160
    · obtain ⟨rfl, rfl⟩ := h
      rw [escText] at hx
      rcases List.mem_append.1 hx with hx | hx
      · simp at hx; rcases hx with rfl | rfl | rfl | rfl | rfl | rfl <;> decide
      · exact escText_no r x hx
    · have h' : c ≠ 194 ∨ (d :: r).head? ≠ some 160 := by
        by_cases hc : c = 194
        · right; intro hd; exact h ⟨hc, by simpa using hd⟩
        · exact .inl hc
      rw [escText_cons c (d :: r) h'] at hx
      rcases List.mem_append.1 hx with hx | hx
      · split at hx
        · simp at hx; rcases hx with rfl | rfl | rfl | rfl | rfl <;> decide
        · split at hx
          · simp at hx; rcases hx with rfl | rfl | rfl | rfl <;> decide
          · split at hx
            · simp at hx; rcases hx with rfl | rfl | rfl | rfl <;> decide
            · rename_i h1 h2 h3; simp at hx; subst hx; exact ⟨h2, h3⟩
      · exact escText_no (d :: r) x hx
theorem escQuote_no : ∀ t : Bs, ∀ c ∈ escQuote t, c ≠ 34
  | [] => by simp [escQuote]
  | d :: r => by
    intro x hx
    simp only [escQuote] at hx
    rcases List.mem_append.1 hx with hx | hx
    · split at hx
      · simp at hx; rcases hx with rfl | rfl | rfl | rfl | rfl | rfl <;> decide
      · rename_i h; simp at hx; subst hx; exact h
    · exact escQuote_no r x hx

/-! ### how long what is read is -/
theorem encodeRune_len (r : Int) : 1 ≤ (Lib.encodeRune r).length ∧ (Lib.encodeRune r).length ≤ 4 := by
  have := Lib.encodeRuneZ_length r; simpa [Lib.encodeRune] using this
theorem signOf_len (n : Nat) : 1 ≤ (signOf n).length ∧ (signOf n).length ≤ 4 := by
  unfold signOf; split
  · simp [bad]
  · split <;> exact encodeRune_len _
theorem named_mem {s t : Bs} (h : named s = some t) : (s, t) ∈ namedTab := by
  unfold named at h
  cases hf : namedTab.find? (fun p => p.1 == s) with
  | none => simp [hf] at h
  | some p =>
    simp [hf] at h
    have h1 := List.mem_of_find?_eq_some hf
    have h2 := List.find?_some hf
    simp at h2
    obtain ⟨a, b⟩ := p
    simp at h h2; subst h; subst h2; exact h1
theorem named_len {s t : Bs} (h : named s = some t) : 1 ≤ t.length ∧ t.length ≤ s.length + 2 ∧ 2 ≤ s.length :=
  (by decide : ∀ p ∈ namedTab, 1 ≤ p.2.length ∧ p.2.length ≤ p.1.length + 2 ∧ 2 ≤ p.1.length) _ (named_mem h)
theorem num_len {b m : Nat} {s : Bs} {n : Nat} (h : num b m s = some n) : 1 ≤ s.length := by
  unfold num at h; split at h
  · cases h
  · omega
theorem sign_len {s t : Bs} (h : sign s = some t) : 1 ≤ t.length ∧ t.length ≤ s.length + 2 ∧ 2 ≤ s.length := by
  unfold sign at h
  split at h
  · split at h
    · rename_i r _
      cases hn : num 16 6 r with
      | none => simp [hn] at h
      | some n => simp [hn] at h; have := signOf_len n; have h1 := num_len hn; subst h; simp only [List.length_cons]; omega
    · rename_i x r _
      cases hn : num 10 7 (x :: r) with
      | none => simp [hn] at h
      | some n => simp [hn] at h; have := signOf_len n; subst h; simp only [List.length_cons]; omega
  · cases h
  · exact named_len h
theorem refAt_full {r t q : Bs} (h : refAt r = some (t, q)) : 1 ≤ t.length ∧ t.length + q.length ≤ r.length + 1 := by
  unfold refAt at h
  split at h
  · rename_i hh
    have := cutB_has [59] (by simp) r hh
    cases hs : sign (cutB [59] r).1 with
    | none => simp [hs] at h
    | some z =>
      simp [hs] at h; have hl := sign_len hs; rw [← h.2, ← h.1]; simp only [List.length_cons, List.length_nil] at this; omega
  · cases h
theorem dec_len : ∀ (n : Nat) (s : Bs), s.length ≤ n → (dec s).length ≤ s.length ∧ (s ≠ [] → 1 ≤ (dec s).length)
  | _, [], _ => by simp [dec_nil]
  | 0, c :: r, h => by simp at h
  | n + 1, c :: r, h => by
    simp only [List.length_cons] at h
    by_cases hc : c = 38
    · subst hc
      cases hr : refAt r with
      | none => rw [dec_none r hr]; have := dec_len n r (by omega); simp only [List.length_cons]; constructor <;> intros <;> omega
      | some p =>
        obtain ⟨t, q⟩ := p
        have hl := refAt_len hr
        have hf := refAt_full hr
        rw [dec_ref r t q hr]
        have := dec_len n q (by omega)
        simp only [List.length_append, List.length_cons]; constructor <;> intros <;> omega
    · rw [dec_cons c r hc]; have := dec_len n r (by omega); simp only [List.length_cons]; constructor <;> intros <;> omega
theorem dec_le (s : Bs) : (dec s).length ≤ s.length := (dec_len s.length s (Nat.le_refl _)).1
theorem dec_ne (s : Bs) (h : s ≠ []) : dec s ≠ [] := by
  have := (dec_len s.length s (Nat.le_refl _)).2 h
  intro e; rw [e] at this; simp at this
end Go.Proofs.YtjlgbkedbbailaaGreatDoor.Mu
namespace Go.Proofs.YtjlgbkedbbailaaGreatDoor.Mu

theorem till_len (p : UInt8 → Bool) : ∀ s : Bs, (till p s).1.length + (till p s).2.length = s.length
  | [] => rfl
  | c :: r => by
    have := till_len p r
    unfold till; split <;> simp only [List.length_cons, List.length_nil] <;> omega
theorem till_stop (p : UInt8 → Bool) (n : Bs) (hn : ∀ c ∈ n, p c = false) (d : UInt8) (hd : p d = true) (r : Bs) : till p (n ++ d :: r) = (n, d :: r) := by
  induction n with
  | nil => simp [till, hd]
  | cons c n ih =>
    have h1 := hn c (by simp)
    have := ih (fun x hx => hn x (by simp [hx]))
    simp [till, h1, this]
theorem lead_len : ∀ s : Bs, (lead s).1.length + (lead s).2.length = s.length
  | [] => rfl
  | c :: r => by
    have := lead_len r
    unfold lead; split <;> simp only [List.length_cons, List.length_nil] <;> omega
theorem lead_begins : ∀ s : Bs, (lead s).2 = [] ∨ begins (lead s).2 = true
  | [] => .inl rfl
  | c :: r => by
    unfold lead; split
    · rename_i h; exact .inr h
    · exact lead_begins r
theorem lead_stop (t rest : Bs) (ht : ∀ c ∈ t, c ≠ 60) (hr : rest = [] ∨ begins rest = true) : lead (t ++ rest) = (t, rest) := by
  induction t with
  | nil =>
    cases rest with
    | nil => rfl
    | cons c r => rcases hr with h | h
                  · cases h
                  · simp [lead, h]
  | cons c t ih =>
    have h1 := ht c (by simp)
    have := ih (fun x hx => ht x (by simp [hx]))
    have hb : begins (c :: (t ++ rest)) = false := by
      unfold begins
      split
      · rename_i h; simp at h; exact absurd h.1 h1
      · rename_i h; simp at h; exact absurd h.1 h1
      · rfl
    simp [lead, hb, this]
theorem dropWhile_le (p : UInt8 → Bool) (s : Bs) : (s.dropWhile p).length ≤ s.length := by
  induction s with
  | nil => simp
  | cons c r ih => rw [List.dropWhile_cons]; split
                   · simp only [List.length_cons]; omega
                   · simp
theorem value_le (s : Bs) : (value s).2.length ≤ s.length := by
  unfold value; split
  · rename_i q r
    split
    · have := cutB_le [q] r; simp only [List.length_cons]; omega
    · have := till_len (fun c => white c || c == 62) (q :: r); show List.length (till (fun c => white c || c == 62) (q :: r)).2 ≤ _; omega
  · simp
theorem attr1_le (c : UInt8) (r : Bs) : (attr1 c r).2.length ≤ r.length := by
  have h1 := till_len (fun c => white c || c == 47 || c == 62 || c == 61) r
  unfold attr1
  simp only
  split
  · rename_i b hb
    have h2 := value_le (b.dropWhile white)
    have h3 := dropWhile_le white b
    have h4 := dropWhile_le white (till (fun c => white c || c == 47 || c == 62 || c == 61) r).2
    rw [hb] at h4; simp only [List.length_cons] at h4; show List.length (value (List.dropWhile white b)).2 ≤ _; omega
  · show List.length (till (fun c => white c || c == 47 || c == 62 || c == 61) r).2 ≤ _; omega
theorem attrsF_some : ∀ (k : Nat) (l : List Attr) (s : Bs) (q : List Attr × Bs), attrsF k l s = some q → q.2.length < s.length
  | 0, _, _, _, h => by cases h
  | k + 1, l, s, q, h => by
    have h0 := dropWhile_le (fun c => white c || c == 47) s
    unfold attrsF at h
    split at h
    · cases h
    · rename_i c r hs
      rw [hs] at h0; simp only [List.length_cons] at h0
      split at h
      · cases h; simp only; omega
      · have := attrsF_some k _ _ q h; have := attr1_le c r; omega
theorem attrsF_more : ∀ (k : Nat) (l : List Attr) (s : Bs), s.length < k → ∀ k', s.length < k' → attrsF k l s = attrsF k' l s
  | 0, _, _, h, _, _ => by omega
  | k + 1, l, s, h, 0, h' => by omega
  | k + 1, l, s, h, k' + 1, h' => by
    have h0 := dropWhile_le (fun c => white c || c == 47) s
    simp only [attrsF]
    split
    · rfl
    · rename_i c r hs
      rw [hs] at h0; simp only [List.length_cons] at h0
      split
      · rfl
      · have := attr1_le c r
        exact attrsF_more k _ _ (by omega) k' (by omega)
theorem rawCut_len (name : Bs) : ∀ s : Bs, (rawCut name s).1.length + (rawCut name s).2.length = s.length
  | [] => rfl
  | c :: r => by
    have := rawCut_len name r
    unfold rawCut; split <;> simp only [List.length_cons, List.length_nil] <;> omega
theorem rawPart_len (name s : Bs) : (rawPart name s).1.length + (rawPart name s).2.length = s.length := by
  unfold rawPart; split
  · simp
  · exact rawCut_len name s

/-- How many tokens may come of events. -/
def weight (l : List Tok) : Nat := (l.filter fun t => !(t.kind == 1 && t.text.isEmpty)).length
theorem weight_append (a b : List Tok) : weight (a ++ b) = weight a + weight b := by simp [weight]
theorem weight_cons (a : Tok) (b : List Tok) : weight (a :: b) = weight [a] + weight b := weight_append [a] b
theorem weight_chars (t : Bs) : weight [chars t] ≤ t.length := by
  cases t with
  | nil => simp [weight, chars]
  | cons c r => simp [weight, chars]
theorem weight_one (t : Tok) : weight [t] ≤ 1 := by
  unfold weight; simp only [List.filter_cons]; split <;> simp

theorem tag_len (kind : Nat) (s : Bs) : weight (tag kind s).1 + (tag kind s).2.length ≤ s.length + 1 ∧ (tag kind s).2.length ≤ s.length := by
  have h1 := till_len (fun c => white c || c == 47 || c == 62) s
  unfold tag
  simp only
  split
  · simp [weight]
  · rename_i l rest hl
    have := attrsF_some _ _ _ _ hl
    simp only at this
    split
    · have := weight_one ⟨3, small (till (fun c => white c || c == 47 || c == 62) s).1, [], []⟩; simp only; omega
    · split
      · have h2 := rawPart_len (small (till (fun c => white c || c == 47 || c == 62) s).1) rest
        have h3 := weight_chars (rawPart (small (till (fun c => white c || c == 47 || c == 62) s).1) rest).1
        have h4 := weight_one ⟨kind, small (till (fun c => white c || c == 47 || c == 62) s).1, l, []⟩
        rw [weight_cons]; simp only; omega
      · have := weight_one ⟨kind, small (till (fun c => white c || c == 47 || c == 62) s).1, l, []⟩; simp only; omega
theorem commentTo_len (sep s : Bs) : weight (commentTo sep s).1 + (commentTo sep s).2.length ≤ s.length + 1 ∧ (commentTo sep s).2.length ≤ s.length := by
  have := cutB_le sep s
  have := weight_one (comment (cutB sep s).1)
  unfold commentTo; simp only; omega
theorem remark_len (s : Bs) : weight (remark s).1 + (remark s).2.length ≤ s.length + 1 ∧ (remark s).2.length ≤ s.length := by
  unfold remark
  have := weight_one (comment [])
  split
  · simp only [List.length_cons]; omega
  · simp only [List.length_cons]; omega
  · exact commentTo_len _ s
theorem markup_len (s : Bs) (h : s ≠ []) : weight (markup s).1 + (markup s).2.length ≤ s.length ∧ (markup s).2.length < s.length := by
  unfold markup
  split
  · rename_i d r
    split
    · have := tag_len 3 (d :: r); simp only [List.length_cons] at this ⊢; omega
    · split
      · simp [weight]; omega
      · have := commentTo_len [62] (d :: r); simp only [List.length_cons] at this ⊢; omega
  · rename_i r; have := remark_len r; simp only [List.length_cons] at this ⊢; omega
  · rename_i r _; have := commentTo_len [62] r; simp only [List.length_cons] at this ⊢; omega
  · rename_i r; have := commentTo_len [62] (63 :: r); simp only [List.length_cons] at this ⊢; omega
  · rename_i c r _ _ _ _; have := tag_len 2 r; simp only [List.length_cons] at this ⊢; omega
  · exact absurd rfl h
theorem scanF_more : ∀ (k : Nat) (s : Bs), s.length < k → ∀ k', s.length < k' → scanF k s = scanF k' s
  | 0, _, h, _, _ => by omega
  | k + 1, s, h, 0, h' => by omega
  | k + 1, s, h, k' + 1, h' => by
    simp only [scanF]
    split
    · rfl
    · split
      · rfl
      · rename_i _ hne
        have h1 := (markup_len _ hne).2
        have h2 := lead_len s
        rw [scanF_more k _ (by omega) k' (by omega)]
/-- What a document is taken apart to, before characters are joined. -/
def ev (s : Bs) : List Tok := scanF (s.length + 1) s
theorem ev_nil : ev [] = [] := rfl
theorem ev_eq (s : Bs) (h : s ≠ []) : ev s = chars (dec (lead s).1) :: (if (lead s).2 = [] then [] else (markup (lead s).2).1 ++ ev (markup (lead s).2).2) := by
  show scanF (s.length + 1) s = chars (dec (lead s).1) :: (if (lead s).2 = [] then [] else (markup (lead s).2).1 ++ scanF ((markup (lead s).2).2.length + 1) (markup (lead s).2).2)
  rw [scanF, if_neg h]
  split
  · rfl
  · rename_i hne
    have h1 := (markup_len _ hne).2
    have h2 := lead_len s
    rw [scanF_more s.length _ (by omega) ((markup (lead s).2).2.length + 1) (by omega)]
theorem scan_ev (s : Bs) : scan s = glue (ev s) := rfl
theorem ev_weight : ∀ (n : Nat) (s : Bs), s.length ≤ n → weight (ev s) ≤ s.length
  | n, [], _ => by simp [ev_nil, weight]
  | 0, c :: r, h => by simp at h
  | n + 1, c :: r, h => by
    rw [ev_eq _ (by simp), weight_cons]
    have h1 := weight_chars (dec (lead (c :: r)).1)
    have h2 := dec_le (lead (c :: r)).1
    have h3 := lead_len (c :: r)
    split
    · simp only [weight, List.filter_nil, List.length_nil] at *; omega
    · rename_i hne
      have h4 := markup_len _ hne
      have h5 := ev_weight n (markup (lead (c :: r)).2).2 (by omega)
      rw [weight_append]; omega

/-! ### characters that are joined -/
theorem push_len (l : List Tok) (t : Tok) : (push l t).length ≤ l.length + weight [t] := by
  unfold push
  split
  · rename_i hk
    split
    · simp
    · rename_i hne
      have hw : weight [t] = 1 := by
        simp only [weight, List.filter_cons, hk, List.isEmpty_eq_false_iff.2 hne]; rfl
      split
      · split
        · rename_i x hx _
          have hl : l ≠ [] := by rintro rfl; simp at hx
          have := List.length_pos_iff.2 hl
          simp only [List.length_append, List.length_dropLast, List.length_cons, List.length_nil]; omega
        · simp; omega
      · simp; omega
  · rename_i hk
    have hw : weight [t] = 1 := by
      have : (t.kind == 1) = false := by simpa using hk
      simp only [weight, List.filter_cons, this]; rfl
    simp; omega
theorem foldl_push_len : ∀ (l acc : List Tok), (l.foldl push acc).length ≤ acc.length + weight l
  | [], acc => by simp [weight]
  | t :: l, acc => by
    have h1 := push_len acc t
    have h2 := foldl_push_len l (push acc t)
    rw [weight_cons]
    simp only [List.foldl_cons]; omega
theorem scan_len (s : Bs) : (scan s).length ≤ s.length := by
  have h1 := foldl_push_len (ev s) []
  have h2 := ev_weight s.length s (Nat.le_refl _)
  rw [scan_ev]; unfold glue; simp only [List.length_nil] at h1; omega
end Go.Proofs.YtjlgbkedbbailaaGreatDoor.Mu
namespace Go.Proofs.YtjlgbkedbbailaaGreatDoor.Mu

theorem low_low (c : UInt8) : low (low c) = low c := by
  unfold low
  split
  · rename_i h
    have : (c + 32).toNat = c.toNat + 32 := by rw [UInt8.toNat_add]; show (c.toNat + 32) % 256 = _; omega
    rw [if_neg (by omega)]
  · rfl
theorem small_small (s : Bs) : small (small s) = small s := by simp [small, low_low]

def distinct (l : List Attr) : Prop := ∀ (i k : Nat) (a b : Attr), l[i]? = some a → l[k]? = some b → a.name = b.name → i = k
theorem distinct_nil : distinct [] := by intro i k a b h; simp at h
theorem distinct_add {l : List Attr} (h : distinct l) (a : Attr) (ha : l.all (fun b => !(b.name == a.name)) = true) : distinct (l ++ [a]) := by
  intro i k x y hi hk e
  rw [List.getElem?_append] at hi hk
  have hne : ∀ z ∈ l, z.name ≠ a.name := by
    intro z hz; have := List.all_eq_true.1 ha z hz; simpa using this
  split at hi <;> split at hk
  · exact h i k x y hi hk e
  · have : y = a := by
      have := List.mem_of_getElem? hk; simpa using this
    subst this
    exact absurd e (hne x (List.mem_of_getElem? hi))
  · have : x = a := by
      have := List.mem_of_getElem? hi; simpa using this
    subst this
    exact absurd e.symm (hne y (List.mem_of_getElem? hk))
  · have h1 := (List.getElem?_eq_some_iff.1 hi).1
    have h2 := (List.getElem?_eq_some_iff.1 hk).1
    simp at h1 h2; omega
structure AttrsOk (l : List Attr) : Prop where
  few : l.length ≤ 30
  once : distinct l
theorem addAttr_ok {l : List Attr} (h : AttrsOk l) (a : Attr) : AttrsOk (addAttr l a) := by
  unfold addAttr; split
  · rename_i hc
    exact ⟨by simp; omega, distinct_add h.once a hc.2⟩
  · exact h
theorem attrsF_ok : ∀ (k : Nat) (l : List Attr) (s : Bs) (q : List Attr × Bs), AttrsOk l → attrsF k l s = some q → AttrsOk q.1
  | 0, _, _, _, _, h => by cases h
  | k + 1, l, s, q, hl, h => by
    unfold attrsF at h
    split at h
    · cases h
    · split at h
      · cases h; exact hl
      · exact attrsF_ok k _ _ q (addAttr_ok hl _) h
structure Good (t : Tok) : Prop where
  name : small t.name = t.name
  attrs : AttrsOk t.attrs
  start : t.kind ≠ 2 → t.attrs = []
theorem attrsOk_nil : AttrsOk [] := ⟨by simp, distinct_nil⟩
theorem good_chars (t : Bs) : Good (chars t) := ⟨rfl, attrsOk_nil, fun _ => rfl⟩
theorem good_comment (t : Bs) : Good (comment t) := ⟨rfl, attrsOk_nil, fun _ => rfl⟩
theorem tag_good (kind : Nat) (hk : kind = 2 ∨ kind = 3) (s : Bs) : ∀ t ∈ (tag kind s).1, Good t := by
  intro t ht
  unfold tag at ht
  simp only at ht
  split at ht
  · simp at ht
  · rename_i l rest hl
    have hok : AttrsOk l := attrsF_ok _ _ _ (l, rest) attrsOk_nil hl
    split at ht
    · simp at ht; subst ht; exact ⟨small_small _, attrsOk_nil, fun _ => rfl⟩
    · have h2 : kind = 2 := by omega
      split at ht
      · simp at ht; rcases ht with rfl | rfl
        · exact ⟨small_small _, hok, fun h => absurd h2 h⟩
        · exact good_chars _
      · simp at ht; subst ht; exact ⟨small_small _, hok, fun h => absurd h2 h⟩
theorem commentTo_good (sep s : Bs) : ∀ t ∈ (commentTo sep s).1, Good t := by
  intro t ht; simp [commentTo] at ht; subst ht; exact good_comment _
theorem remark_good (s : Bs) : ∀ t ∈ (remark s).1, Good t := by
  intro t ht
  unfold remark at ht
  split at ht
  · simp at ht; subst ht; exact good_comment _
  · simp at ht; subst ht; exact good_comment _
  · exact commentTo_good _ _ t ht
theorem markup_good (s : Bs) : ∀ t ∈ (markup s).1, Good t := by
  intro t ht
  unfold markup at ht
  split at ht
  · split at ht
    · exact tag_good 3 (.inr rfl) _ t ht
    · split at ht
      · simp at ht
      · exact commentTo_good _ _ t ht
  · exact remark_good _ t ht
  · exact commentTo_good _ _ t ht
  · exact commentTo_good _ _ t ht
  · exact tag_good 2 (.inl rfl) _ t ht
  · simp at ht
theorem scanF_good : ∀ (k : Nat) (s : Bs), ∀ t ∈ scanF k s, Good t
  | 0, _, t, h => by simp [scanF] at h
  | k + 1, s, t, h => by
    unfold scanF at h
    split at h
    · simp at h
    · rcases List.mem_cons.1 h with h | h
      · subst h; exact good_chars _
      · split at h
        · simp at h
        · rcases List.mem_append.1 h with h | h
          · exact markup_good _ t h
          · exact scanF_good k _ t h

/-- No two characters' kinds stand one behind the other. -/
def adjK : List Nat → Bool
  | a :: b :: r => !(a == 1 && b == 1) && adjK (b :: r)
  | _ => true
theorem adjK_snoc : ∀ (l : List Nat) (k : Nat), adjK l = true → (∀ a, l.getLast? = some a → ¬ (a = 1 ∧ k = 1)) → adjK (l ++ [k]) = true
  | [], _, _, _ => rfl
  | [a], k, _, h => by
    have := h a rfl
    simp only [List.cons_append, List.nil_append, adjK, Bool.and_true, Bool.not_eq_true', Bool.and_eq_false_iff, beq_eq_false_iff_ne]
    by_cases ha : a = 1
    · right; intro hk; exact this ⟨ha, hk⟩
    · exact .inl ha
  | a :: b :: r, k, h, h2 => by
    simp only [List.cons_append, adjK, Bool.and_eq_true] at h ⊢
    refine ⟨h.1, ?_⟩
    have := adjK_snoc (b :: r) k h.2 (fun x hx => h2 x (by simpa using hx))
    simpa using this
theorem adjK_at : ∀ (l : List Nat), adjK l = true → ∀ i a b, l[i]? = some a → l[i + 1]? = some b → ¬ (a = 1 ∧ b = 1)
  | [], _, i, a, b, h, _ => by simp at h
  | [x], _, i, a, b, _, h => by simp at h
  | x :: y :: r, h, 0, a, b, ha, hb => by
    simp only [adjK, Bool.and_eq_true] at h
    simp at ha hb; subst ha; subst hb
    intro ⟨h1, h2⟩; simp [h1, h2] at h
  | x :: y :: r, h, i + 1, a, b, ha, hb => by
    simp only [adjK, Bool.and_eq_true] at h
    exact adjK_at (y :: r) h.2 i a b (by simpa using ha) (by simpa using hb)
structure Glued (l : List Tok) : Prop where
  good : ∀ t ∈ l, Good t ∧ (t.kind = 1 → t.text ≠ [])
  adj : adjK (l.map (·.kind)) = true
theorem glued_nil : Glued [] := ⟨by simp, rfl⟩
theorem push_glued {l : List Tok} (h : Glued l) {t : Tok} (ht : Good t) : Glued (push l t) := by
  unfold push
  split
  · rename_i hk
    split
    · exact h
    · rename_i hne
      split
      · rename_i x hx
        obtain ⟨l', rfl⟩ : ∃ l', l = l' ++ [x] := by
          have hl : l ≠ [] := by rintro rfl; simp at hx
          refine ⟨l.dropLast, ?_⟩
          rw [List.getLast?_eq_some_getLast hl] at hx
          have := List.dropLast_concat_getLast hl
          simp at hx; rw [hx] at this; exact this.symm
        split
        · rename_i hxk
          rw [List.dropLast_concat]
          refine ⟨?_, ?_⟩
          · intro u hu
            rcases List.mem_append.1 hu with hu | hu
            · exact h.good u (by simp [hu])
            · simp at hu; subst hu
              have hxg := h.good x (by simp)
              exact ⟨⟨hxg.1.name, hxg.1.attrs, hxg.1.start⟩, fun _ e => by
                have hx2 := hxg.2 hxk
                simp at e; exact hx2 e.1⟩
          · have := h.adj
            simpa using this
        · rename_i hxk
          refine ⟨?_, ?_⟩
          · intro u hu
            rcases List.mem_append.1 hu with hu | hu
            · exact h.good u hu
            · simp at hu; subst hu; exact ⟨ht, fun _ => hne⟩
          · rw [List.map_append]
            refine adjK_snoc _ _ h.adj ?_
            intro a ha
            simp at ha; subst ha
            intro hc; exact hxk hc.1
      · refine ⟨?_, rfl⟩
        intro u hu; simp at hu; subst hu; exact ⟨ht, fun _ => hne⟩
  · rename_i hk
    refine ⟨?_, ?_⟩
    · intro u hu
      rcases List.mem_append.1 hu with hu | hu
      · exact h.good u hu
      · simp at hu; subst hu; exact ⟨ht, fun e => absurd e hk⟩
    · rw [List.map_append]
      exact adjK_snoc _ _ h.adj (fun a _ hc => hk hc.2)
theorem foldl_glued : ∀ (l acc : List Tok), Glued acc → (∀ t ∈ l, Good t) → Glued (l.foldl push acc)
  | [], _, h, _ => h
  | t :: l, acc, h, hl => foldl_glued l _ (push_glued h (hl t (by simp))) (fun u hu => hl u (by simp [hu]))
theorem scan_glued (s : Bs) : Glued (scan s) := foldl_glued _ _ glued_nil (fun t ht => scanF_good _ _ t ht)

/-! ### a document without the sign of a tag -/
theorem scan_text (s : Bs) (h : ∀ c ∈ s, c ≠ 60) : scan s = if s = [] then [] else [chars (dec s)] := by
  split
  · rename_i e; subst e; rfl
  · rename_i e
    have hl := lead_stop s [] h (.inl rfl)
    rw [List.append_nil] at hl
    rw [scan_ev, ev_eq s e, hl]
    simp only [if_true, glue, List.foldl_cons, List.foldl_nil, push]
    rw [if_pos (by rfl)]
    show (if dec s = [] then _ else _) = _
    rw [if_neg (dec_ne s e)]
    rfl

/-! ### a remark with no end in it -/
theorem cutB_at (sep : Bs) (h0 : sep ≠ []) (c0 : UInt8) (hc : sep.head? = some c0) : ∀ (s rest : Bs), (∀ c ∈ s, c ≠ c0) → cutB sep (s ++ (sep ++ rest)) = (s, rest)
  | [], rest, _ => by
    cases sep with
    | nil => exact absurd rfl h0
    | cons a b =>
      simp only [List.nil_append, List.cons_append, cutB]
      have : (a :: b).isPrefixOf (a :: (b ++ rest)) = true := by
        rw [List.isPrefixOf_iff_prefix]; exact ⟨rest, by simp⟩
      rw [if_pos this]
      simp
  | c :: s, rest, h => by
    have h1 := h c (by simp)
    have ih := cutB_at sep h0 c0 hc s rest (fun x hx => h x (by simp [hx]))
    simp only [List.cons_append, cutB]
    have : sep.isPrefixOf (c :: (s ++ (sep ++ rest))) = false := by
      cases sep with
      | nil => exact absurd rfl h0
      | cons a b =>
        simp at hc; subst hc
        simp [List.isPrefixOf]; intro e; exact absurd e.symm h1
    rw [this, ih]; rfl
theorem scan_comment (s : Bs) (h : ∀ c ∈ s, c ≠ 45 ∧ c ≠ 62) :
    scan ([60, 98, 62, 60, 33, 45, 45] ++ s ++ [45, 45, 62, 60, 47, 98, 62]) = [⟨2, [98], [], []⟩, comment s, ⟨3, [98], [], []⟩] := by
  have hr : remark (s ++ [45, 45, 62, 60, 47, 98, 62]) = ([comment s], [60, 47, 98, 62]) := by
    have hc := cutB_at [45, 45, 62] (by simp) 45 rfl s [60, 47, 98, 62] (fun c hc => (h c hc).1)
    simp only [List.cons_append, List.nil_append] at hc
    unfold remark
    split
    · rename_i r e
      cases s with
      | nil => simp at e
      | cons c s => simp at e; exact absurd e.1 (h c (by simp)).2
    · rename_i r e
      cases s with
      | nil => simp at e
      | cons c s => simp at e; exact absurd e.1 (h c (by simp)).1
    · simp only [commentTo, hc]
  have e1 : ev ([60, 98, 62, 60, 33, 45, 45] ++ s ++ [45, 45, 62, 60, 47, 98, 62]) = chars [] :: (⟨2, [98], [], []⟩ :: ev ([60, 33, 45, 45] ++ (s ++ [45, 45, 62, 60, 47, 98, 62]))) := by
    rw [ev_eq _ (by simp)]
    simp only [List.cons_append, List.nil_append]
    rfl
  have e2 : ev ([60, 33, 45, 45] ++ (s ++ [45, 45, 62, 60, 47, 98, 62])) = chars [] :: (comment s :: ev [60, 47, 98, 62]) := by
    rw [ev_eq _ (by simp)]
    have hl : lead ([60, 33, 45, 45] ++ (s ++ [45, 45, 62, 60, 47, 98, 62])) = ([], [60, 33, 45, 45] ++ (s ++ [45, 45, 62, 60, 47, 98, 62])) := rfl
    rw [hl]
    have hm : markup ([60, 33, 45, 45] ++ (s ++ [45, 45, 62, 60, 47, 98, 62])) = remark (s ++ [45, 45, 62, 60, 47, 98, 62]) := rfl
    simp only [hm, hr]
    rfl
  rw [scan_ev, e1, e2]
  rfl
end Go.Proofs.YtjlgbkedbbailaaGreatDoor.Mu
namespace Go.Proofs.YtjlgbkedbbailaaGreatDoor.Mu

/-- A name that a tag can have: a letter, and no byte that ends a name. -/
structure NameOk (n : Bs) : Prop where
  first : ∃ c r, n = c :: r ∧ letter c = true
  inner : ∀ c ∈ n, white c = false ∧ c ≠ 47 ∧ c ≠ 62 ∧ c ≠ 61
structure AttrOk (a : Attr) : Prop where
  name : NameOk a.name
  small : small a.name = a.name
theorem wAttrs_len : ∀ l : List Attr, l.length ≤ (wAttrs l).length
  | [] => by simp [wAttrs]
  | a :: r => by
    have := wAttrs_len r
    simp only [wAttrs, List.length_append, List.length_cons, List.length_nil]; omega
theorem cutB_quote (v X : Bs) (hv : ∀ c ∈ v, c ≠ 34) : cutB [34] (v ++ 34 :: X) = (v, X) := by
  have := cutB_at [34] (by simp) 34 rfl v X hv
  simpa using this
theorem attr1_write {a : Attr} {c : UInt8} {n : Bs} (hn : a.name = c :: n) (ha : AttrOk a) (X : Bs) : attr1 c (n ++ [61, 34] ++ escValue a.value ++ [34] ++ X) = (a, X) := by
  have h1 : till (fun c => white c || c == 47 || c == 62 || c == 61) (n ++ 61 :: (34 :: (escValue a.value ++ 34 :: X))) = (n, 61 :: (34 :: (escValue a.value ++ 34 :: X))) := by
    refine till_stop _ n (fun x hx => ?_) 61 rfl _
    have := ha.name.inner x (by rw [hn]; simp [hx])
    simp [this]
  have e : n ++ [61, 34] ++ escValue a.value ++ [34] ++ X = n ++ 61 :: (34 :: (escValue a.value ++ 34 :: X)) := by simp
  have h2 : (61 :: 34 :: (escValue a.value ++ 34 :: X)).dropWhile white = 61 :: 34 :: (escValue a.value ++ 34 :: X) := rfl
  have h3 : (34 :: (escValue a.value ++ 34 :: X)).dropWhile white = 34 :: (escValue a.value ++ 34 :: X) := rfl
  have h4 : value (34 :: (escValue a.value ++ 34 :: X)) = (a.value, X) := by
    unfold value
    simp only [true_or, if_true, cutB_quote _ X (escQuote_no (escText a.value)), escValue]
    have := dec_escValue a.value
    unfold escValue at this
    rw [this]
  rw [e]
  unfold attr1
  simp only [h1, h2, h3, h4]
  have := ha.small
  rw [hn] at this
  rw [this, ← hn]
theorem letter_not (c : UInt8) (h : letter c = true) : white c = false ∧ c ≠ 47 ∧ c ≠ 62 ∧ c ≠ 33 ∧ c ≠ 63 := by
  refine ⟨?_, ?_, ?_, ?_, ?_⟩
  · cases hw : white c with
    | false => rfl
    | true =>
      simp [white] at hw
      rcases hw with (((rfl | rfl) | rfl) | rfl) | rfl <;> simp [letter] at h
  all_goals (rintro rfl; simp [letter] at h)
theorem attrsF_write : ∀ (as l : List Attr) (rest : Bs) (k : Nat), (∀ a ∈ as, AttrOk a) → distinct (l ++ as) → (l ++ as).length ≤ 30 → as.length < k → attrsF k l (wAttrs as ++ 62 :: rest) = some (l ++ as, rest)
  | [], l, rest, 0, _, _, _, h => by simp at h
  | [], l, rest, k + 1, _, _, _, _ => by
    simp only [wAttrs, List.nil_append, List.append_nil]
    unfold attrsF
    have : (62 :: rest).dropWhile (fun c => white c || c == 47) = 62 :: rest := rfl
    rw [this]; simp
  | a :: as, l, rest, 0, _, _, _, h => by simp at h
  | a :: as, l, rest, k + 1, ha, hd, hl, h => by
    have hok := ha a (by simp)
    obtain ⟨c, n, hn, hc⟩ := hok.name.first
    have hcl := letter_not c hc
    have e : (wAttrs (a :: as) ++ 62 :: rest).dropWhile (fun c => white c || c == 47) = c :: (n ++ [61, 34] ++ escValue a.value ++ [34] ++ (wAttrs as ++ 62 :: rest)) := by
      simp only [wAttrs, hn, List.cons_append, List.nil_append, List.append_assoc]
      rw [List.dropWhile_cons_of_pos (by rfl), List.dropWhile_cons_of_neg (by simp [hcl])]
    unfold attrsF
    rw [e]
    simp only [if_neg hcl.2.2.1]
    rw [attr1_write hn hok]
    have hadd : addAttr l a = l ++ [a] := by
      unfold addAttr
      rw [if_pos]
      refine ⟨by simp at hl; omega, List.all_eq_true.2 fun b hb => ?_⟩
      obtain ⟨i, hi, hib⟩ := List.mem_iff_getElem.1 hb
      have h1 : (l ++ a :: as)[i]? = some b := by rw [List.getElem?_append_left hi, List.getElem?_eq_getElem hi, hib]
      have h2 : (l ++ a :: as)[l.length]? = some a := by simp
      cases hbe : b.name == a.name with
      | false => rfl
      | true => have := hd i l.length b a h1 h2 (by simpa using hbe); omega
    rw [hadd]
    have := attrsF_write as (l ++ [a]) rest k (fun b hb => ha b (by simp [hb])) (by simpa using hd) (by simpa using hl) (by simpa using h)
    simpa using this
theorem tag_write (kind : Nat) (n : Bs) (hn : NameOk n) (as : List Attr) (rest : Bs) (ha : ∀ a ∈ as, AttrOk a) (hd : distinct as) (hl : as.length ≤ 30) (hr : kind = 3 ∨ raw (small n) = false) :
    tag kind (n ++ wAttrs as ++ 62 :: rest) = ([if kind = 3 then ⟨3, small n, [], []⟩ else ⟨kind, small n, as, []⟩], rest) := by
  have h1 : till (fun c => white c || c == 47 || c == 62) (n ++ (wAttrs as ++ 62 :: rest)) = (n, wAttrs as ++ 62 :: rest) := by
    have hp : ∀ c ∈ n, (fun c => white c || c == 47 || c == 62) c = false := fun x hx => by have := hn.inner x hx; simp [this]
    cases as with
    | nil => exact till_stop _ n hp 62 rfl rest
    | cons a as => exact till_stop _ n hp 32 rfl _
  have h2 : attrs (wAttrs as ++ 62 :: rest) = some (as, rest) := by
    have hw := wAttrs_len as
    have := attrsF_write as [] rest ((wAttrs as ++ 62 :: rest).length + 1) ha (by simpa using hd) (by simpa using hl) (by simp only [List.length_append, List.length_cons]; omega)
    simpa [attrs] using this
  unfold tag
  rw [List.append_assoc, h1]
  simp only [h2]
  split
  · rfl
  · rename_i hk
    rcases hr with h | h
    · exact absurd h hk
    · rw [h]; rfl

/-- A token that can be written and read, but for the size of its name's letters. -/
structure Clean (t t' : Tok) : Prop where
  kind : t'.kind = t.kind ∧ t'.attrs = t.attrs ∧ t'.text = t.text ∧ small t'.name = t.name
  kinds : (t.kind = 1 ∧ t.name = [] ∧ t.attrs = [] ∧ t.text ≠ []) ∨ (t.kind = 3 ∧ NameOk t'.name ∧ t.attrs = [] ∧ t.text = []) ∨
    (t.kind = 2 ∧ NameOk t'.name ∧ raw t.name = false ∧ t.text = [] ∧ t.attrs.length ≤ 30 ∧ distinct t.attrs ∧ ∀ a ∈ t.attrs, AttrOk a)
inductive Cleans : List Tok → List Tok → Prop
  | nil : Cleans [] []
  | cons {t t' : Tok} {l l' : List Tok} : Clean t t' → Cleans l l' → Cleans (t :: l) (t' :: l')
theorem write_cons (t : Tok) (l : List Tok) : write (t :: l) = wTok t ++ write l := by simp [write]
theorem markup_write {t t' : Tok} (h : Clean t t') (hk : t.kind ≠ 1) (X : Bs) : markup (wTok t' ++ X) = ([t], X) ∧ begins (wTok t' ++ X) = true := by
  obtain ⟨⟨k1, k2, k3, k4⟩, h⟩ := h
  rcases h with h | h | h
  · exact absurd h.1 hk
  · obtain ⟨c, r, hc, hl⟩ := h.2.1.first
    have e : wTok t' = 60 :: 47 :: (t'.name ++ [62]) := by simp [wTok, k1, h.1]
    have ht := tag_write 3 t'.name h.2.1 [] X (by simp) distinct_nil (by simp) (.inl rfl)
    simp only [wAttrs, List.append_nil, if_true] at ht
    refine ⟨?_, by rw [e, hc]; rfl⟩
    rw [e, hc]
    simp only [List.cons_append, List.append_assoc, List.nil_append]
    rw [hc] at ht
    simp only [List.cons_append] at ht
    unfold markup
    simp only [hl, if_true]
    rw [ht, ← hc, k4]
    obtain ⟨tk, tn, ta, tt⟩ := t
    simp at h ⊢; exact ⟨h.1.symm, h.2.2.1, h.2.2.2⟩
  · obtain ⟨c, r, hc, hl⟩ := h.2.1.first
    have hcl := letter_not c hl
    have e : wTok t' = 60 :: (t'.name ++ wAttrs t'.attrs ++ [62]) := by simp [wTok, k1, h.1]
    have ht := tag_write 2 t'.name h.2.1 t.attrs X h.2.2.2.2.2.2 h.2.2.2.2.2.1 h.2.2.2.2.1 (.inr (by rw [k4]; exact h.2.2.1))
    simp only [show ¬ ((2 : Nat) = 3) by decide, if_false] at ht
    refine ⟨?_, ?_⟩
    · rw [e, hc]
      simp only [List.cons_append, List.append_assoc, List.nil_append]
      rw [hc] at ht
      simp only [List.cons_append, List.append_assoc] at ht
      rw [k2]
      unfold markup
      split
      · rename_i heq; simp at heq; exact absurd heq.1 hcl.2.1
      · rename_i heq; simp at heq; exact absurd heq.1 hcl.2.2.2.1
      · rename_i heq; simp at heq; exact absurd heq.1 hcl.2.2.2.1
      · rename_i heq; simp at heq; exact absurd heq.1 hcl.2.2.2.2
      · rename_i heq
        simp at heq
        obtain ⟨_, rfl⟩ := heq
        rw [ht, ← hc, k4]
        obtain ⟨tk, tn, ta, tt⟩ := t
        simp at h ⊢; exact ⟨h.1.symm, h.2.2.2.1⟩
      · rename_i heq; simp at heq
    · rw [e, hc]
      simp only [List.cons_append]
      unfold begins
      split
      · rfl
      · rename_i heq; simp at heq; rw [← heq.1, hl]; rfl
      · rename_i hx; exact absurd rfl (hx _ _)
theorem foldl_write : ∀ (n : Nat) (ts ts' acc : List Tok), ts.length ≤ n → Cleans ts ts' → adjK (ts.map (·.kind)) = true → (∀ t x, ts.head? = some t → acc.getLast? = some x → ¬ (x.kind = 1 ∧ t.kind = 1)) →
    (ev (write ts')).foldl push acc = acc ++ ts
  | n, [], ts', acc, _, h, _, _ => by
    cases h; simp [write, ev_nil]
  | 0, t :: r, _, _, h, _, _, _ => by simp at h
  | n + 1, t :: r, ts', acc, hn, h, hadj, hacc => by
    cases h with
    | @cons _ t' _ r' ht hr =>
    simp only [List.length_cons] at hn
    rw [write_cons]
    by_cases hk : t.kind = 1
    · obtain ⟨⟨k1, k2, k3, k4⟩, hc⟩ := ht
      have hc1 : t.name = [] ∧ t.attrs = [] ∧ t.text ≠ [] := by
        rcases hc with h | h | h
        · exact h.2
        · exact absurd (h.1.symm.trans hk) (by decide)
        · exact absurd (h.1.symm.trans hk) (by decide)
      have et : t = chars t.text := by
        obtain ⟨tk, tn, ta, tt⟩ := t
        simp at hk hc1; simp [chars, hk, hc1]
      have ew : wTok t' = escText t.text := by simp [wTok, k1, hk, k3]
      have hne : escText t.text ≠ [] := by
        intro e; have := dec_escText t.text; rw [e] at this; exact hc1.2.2 this.symm
      have hpush : push (push acc (chars t.text)) = push (acc ++ [t]) := by
        congr 1
        unfold push
        rw [if_pos (by rfl)]
        show (if t.text = [] then _ else _) = _
        rw [if_neg hc1.2.2]
        split
        · rename_i x hx
          have := hacc t x rfl hx
          rw [if_neg (fun e => this ⟨e, hk⟩), ← et]
        · rename_i hx
          have : acc = [] := by simpa using hx
          subst this; rw [← et]; rfl
      have hpush' : push acc (chars t.text) = acc ++ [t] := by
        have := congrFun hpush (chars [])
        simpa [push, chars] using this
      rw [ew]
      cases hr with
      | nil =>
        have hl := lead_stop (escText t.text) (write []) (fun c hc => (escText_no _ c hc).1) (.inl rfl)
        rw [ev_eq _ (by simp [hne]), hl, dec_escText]
        simp only [write, List.map_nil, List.flatten_nil, if_true, List.foldl_cons, List.foldl_nil, hpush']
      | @cons u u' q q' hu hq =>
        have huk : u.kind ≠ 1 := by
          intro e
          simp [adjK, hk, e] at hadj
        have hm := markup_write hu huk (write q')
        have hl := lead_stop (escText t.text) (write (u' :: q')) (fun c hc => (escText_no _ c hc).1) (.inr (by rw [write_cons]; exact hm.2))
        rw [ev_eq _ (by simp [hne]), hl, dec_escText]
        have hwne : write (u' :: q') ≠ [] := by
          intro e; have h2 := hm.2; rw [← write_cons, e] at h2; cases h2
        simp only [if_neg hwne, List.foldl_cons, hpush']
        rw [write_cons, hm.1]
        simp only [List.foldl_append, List.foldl_cons, List.foldl_nil]
        have hp2 : push (acc ++ [t]) u = acc ++ [t] ++ [u] := by unfold push; rw [if_neg huk]
        rw [hp2]
        have hadj2 : adjK (q.map (·.kind)) = true := by
          simp only [List.map_cons] at hadj
          cases q with
          | nil => rfl
          | cons a b => simp [adjK] at hadj ⊢; exact hadj.2.2
        have := foldl_write n q q' (acc ++ [t] ++ [u]) (by simp only [List.length_cons] at hn; omega) hq hadj2 (fun a x ha hx => by
          simp at hx; subst hx; intro hc; exact huk hc.1)
        rw [this]; simp
    · have hm := markup_write ht hk (write r')
      have hs : wTok t' ++ write r' ≠ [] := by
        intro e; have h2 := hm.2; rw [e] at h2; cases h2
      have hl := lead_stop [] (wTok t' ++ write r') (by simp) (.inr hm.2)
      rw [List.nil_append] at hl
      rw [ev_eq _ hs, hl]
      simp only [if_neg hs, List.foldl_cons, hm.1, List.foldl_append, List.foldl_nil]
      have hp1 : push acc (chars (dec [])) = acc := rfl
      have hp2 : push acc t = acc ++ [t] := by unfold push; rw [if_neg hk]
      rw [hp1, hp2]
      have hadj2 : adjK (r.map (·.kind)) = true := by
        simp only [List.map_cons] at hadj
        cases r with
        | nil => rfl
        | cons a b => simp [adjK] at hadj ⊢; exact hadj.2
      have := foldl_write n r r' (acc ++ [t]) (by omega) hr hadj2 (fun a x ha hx => by
        simp at hx; subst hx; intro hc; exact hk hc.1)
      rw [this]; simp
theorem scan_write {ts ts' : List Tok} (h : Cleans ts ts') (hadj : adjK (ts.map (·.kind)) = true) : scan (write ts') = ts := by
  have := foldl_write ts.length ts ts' [] (Nat.le_refl _) h hadj (fun _ _ _ hx => by simp at hx)
  rw [scan_ev]; unfold glue; simpa using this
end Go.Proofs.YtjlgbkedbbailaaGreatDoor.Mu
namespace Go.Proofs.YtjlgbkedbbailaaGreatDoor.Mu
def tw (l : List Tok) : Nat := (l.map (fun t => t.text.length)).sum
theorem tw_append (a b : List Tok) : tw (a ++ b) = tw a + tw b := by simp [tw]
theorem tw_one (t : Tok) : tw [t] = t.text.length := by simp [tw]
theorem tw_cons (t : Tok) (l : List Tok) : tw (t :: l) = t.text.length + tw l := by simp [tw]
theorem tw_mem {l : List Tok} {x : Tok} (h : x ∈ l) : x.text.length ≤ tw l := by
  induction l with
  | nil => cases h
  | cons a l ih =>
    rw [tw_cons]
    rcases List.mem_cons.1 h with rfl | h
    · omega
    · have := ih h; omega
theorem push_tw (l : List Tok) (t : Tok) : tw (push l t) ≤ tw l + t.text.length := by
  unfold push
  split
  · split
    · omega
    · split
      · rename_i x hx
        split
        · have hl : l = l.dropLast ++ [x] := by
            have hne : l ≠ [] := by rintro rfl; simp at hx
            have := List.dropLast_concat_getLast hne
            rw [List.getLast?_eq_some_getLast hne] at hx
            injection hx with hx
            rw [hx] at this; exact this.symm
          conv => rhs; rw [hl]
          simp only [tw_append, tw_one, List.length_append]; omega
        · rw [tw_append, tw_one]; omega
      · rw [tw_one]; omega
  · rw [tw_append, tw_one]; omega
theorem foldl_push_tw : ∀ (ts l : List Tok), tw (ts.foldl push l) ≤ tw l + tw ts
  | [], l => by simp [tw]
  | t :: ts, l => by
    have h1 := push_tw l t
    have h2 := foldl_push_tw ts (push l t)
    rw [tw_cons]; simp only [List.foldl_cons]; omega
theorem tag_tw (kind : Nat) (s : Bs) : tw (tag kind s).1 + (tag kind s).2.length ≤ s.length := by
  have h1 := till_len (fun c => white c || c == 47 || c == 62) s
  unfold tag
  simp only
  split
  · simp [tw]
  · rename_i l rest hl
    have := attrsF_some _ _ _ _ hl
    simp only at this
    split
    · simp only [tw_one, List.length_nil]; omega
    · split
      · have h2 := rawPart_len (small (till (fun c => white c || c == 47 || c == 62) s).1) rest
        rw [tw_cons, tw_one]; simp only [chars, List.length_nil]; omega
      · simp only [tw_one, List.length_nil]; omega
theorem commentTo_tw (sep s : Bs) : tw (commentTo sep s).1 + (commentTo sep s).2.length ≤ s.length := by
  have := cutB_len sep s
  unfold commentTo; simp only [tw_one, comment]; omega
theorem remark_tw (s : Bs) : tw (remark s).1 + (remark s).2.length ≤ s.length := by
  unfold remark
  split
  · simp only [tw_one, comment, List.length_cons, List.length_nil]; omega
  · simp only [tw_one, comment, List.length_cons, List.length_nil]; omega
  · exact commentTo_tw _ s
theorem markup_tw (s : Bs) : tw (markup s).1 + (markup s).2.length ≤ s.length := by
  unfold markup
  split
  · rename_i d r
    split
    · have := tag_tw 3 (d :: r); simp only [List.length_cons] at this ⊢; omega
    · split
      · simp [tw]; omega
      · have := commentTo_tw [62] (d :: r); simp only [List.length_cons] at this ⊢; omega
  · rename_i r; have := remark_tw r; simp only [List.length_cons] at this ⊢; omega
  · rename_i r _; have := commentTo_tw [62] r; simp only [List.length_cons] at this ⊢; omega
  · rename_i r; have := commentTo_tw [62] (63 :: r); simp only [List.length_cons] at this ⊢; omega
  · rename_i c r _ _ _ _; have := tag_tw 2 r; simp only [List.length_cons] at this ⊢; omega
  · simp [tw]
/-- The relation of the scanner's loop. -/
structure ScanRel (s rest : Bs) (l : List Tok) : Prop where
  eq : (ev rest).foldl push l = scan s
  len : l.length + rest.length ≤ s.length
  txt : tw l + rest.length ≤ s.length
theorem ScanRel.start (s : Bs) : ScanRel s s [] := ⟨rfl, by simp, by simp [tw]⟩
theorem ScanRel.fin {s : Bs} {l : List Tok} (h : ScanRel s [] l) : l = scan s := by
  have := h.eq
  rwa [ev_nil] at this
theorem ScanRel.chars {s rest : Bs} {l : List Tok} (h : ScanRel s rest l) (hne : rest ≠ []) :
    (push l (chars (dec (lead rest).1))).length + (lead rest).2.length ≤ s.length ∧ tw (push l (chars (dec (lead rest).1))) + (lead rest).2.length ≤ s.length := by
  have h1 := push_len l (Mu.chars (dec (lead rest).1))
  have h2 := push_tw l (Mu.chars (dec (lead rest).1))
  have h3 := weight_chars (dec (lead rest).1)
  have h4 := dec_le (lead rest).1
  have h5 := lead_len rest
  have := h.len
  have := h.txt
  have h6 : (Mu.chars (dec (lead rest).1)).text.length = (dec (lead rest).1).length := rfl
  omega
theorem ScanRel.last {s rest : Bs} {l : List Tok} (h : ScanRel s rest l) (hne : rest ≠ []) (hl : (lead rest).2 = []) : ScanRel s [] (push l (Mu.chars (dec (lead rest).1))) := by
  have hc := h.chars hne
  rw [hl] at hc
  refine ⟨?_, hc.1, hc.2⟩
  rw [← h.eq, ev_eq rest hne, if_pos hl]; rfl
theorem ScanRel.next {s rest : Bs} {l : List Tok} (h : ScanRel s rest l) (hne : rest ≠ []) (hl : (lead rest).2 ≠ []) :
    ScanRel s (markup (lead rest).2).2 ((markup (lead rest).2).1.foldl push (push l (Mu.chars (dec (lead rest).1)))) ∧ (markup (lead rest).2).2.length < rest.length := by
  have hc := h.chars hne
  have h1 := foldl_push_len (markup (lead rest).2).1 (push l (Mu.chars (dec (lead rest).1)))
  have h2 := foldl_push_tw (markup (lead rest).2).1 (push l (Mu.chars (dec (lead rest).1)))
  have h3 := markup_len _ hl
  have h4 := markup_tw (lead rest).2
  have h5 := lead_len rest
  refine ⟨⟨?_, by omega, by omega⟩, by omega⟩
  rw [← h.eq, ev_eq rest hne, if_neg hl, List.foldl_cons, List.foldl_append]
theorem lead_at : ∀ (s : Bs) (k : Nat), (∀ j, j < k → begins (s.drop j) = false) → k ≤ s.length → (k = s.length ∨ begins (s.drop k) = true) → lead s = (s.take k, s.drop k)
  | [], k, _, hk, _ => by simp at hk; subst hk; rfl
  | c :: r, 0, _, _, h => by
    have hb : begins (c :: r) = true := by
      rcases h with h | h
      · simp at h
      · exact h
    unfold lead; simp [hb]
  | c :: r, k + 1, hn, hk, h => by
    have h0 := hn 0 (by omega)
    simp only [List.drop_zero] at h0
    have ih := lead_at r k (fun j hj => by have := hn (j + 1) (by omega); simpa using this) (by simpa using hk) (by simpa using h)
    unfold lead; simp [h0, ih]
end Go.Proofs.YtjlgbkedbbailaaGreatDoor.Mu
namespace Go.Proofs.YtjlgbkedbbailaaGreatDoor.Mu
def quot : Bs := [38, 113, 117, 111, 116, 59]
theorem escQuote_cons (c : UInt8) (r : Bs) : escQuote (c :: r) = (if c = 34 then quot else [c]) ++ escQuote r := rfl
theorem replaceK_quote : ∀ s : Bs, Lib.replaceK [34] quot (Lib.count s [34]) s = escQuote s
  | [] => by
    have : Lib.count ([] : Bs) [34] = 0 := by rw [Lib.count_one]; rfl
    rw [this]; rfl
  | c :: r => by
    have ih := replaceK_quote r
    by_cases hc : c = 34
    · subst hc
      rw [Lib.count_cons_eq, Nat.add_comm, Lib.replaceK_hit [34] quot _ (34 :: r) 0 (by rw [Lib.index_one]; rfl), escQuote_cons, if_pos rfl]
      show [] ++ quot ++ Lib.replaceK [34] quot _ r = _
      rw [ih]; rfl
    · rw [Lib.count_cons_ne c 34 r hc, escQuote_cons, if_neg hc]
      cases hk : Lib.count r [34] with
      | zero =>
        rw [hk] at ih
        show c :: r = [c] ++ escQuote r
        rw [← ih]; rfl
      | succ k =>
        obtain ⟨i, hi⟩ := Lib.index_of_count (s := r) (old := [34]) (by omega)
        have hi2 : Lib.index (c :: r) [34] = ((i + 1 : Nat) : Int) := by
          rw [Lib.index_one] at hi ⊢
          unfold Lib.indexByte
          have h1 : (c == 34) = false := by simpa using hc
          have h2 : (Lib.indexByte r 34 == -1) = false := by rw [hi, beq_eq_false_iff_ne]; omega
          simp only [h1, hi] at *
          simp [h2]
        rw [hk, Lib.replaceK_hit [34] quot k r i hi] at ih
        rw [Lib.replaceK_hit [34] quot k (c :: r) (i + 1) hi2, ← ih]
        simp
theorem replaceAll_quote (s : Bs) : Lib.replaceAll s [34] quot = escQuote s := by
  unfold Lib.replaceAll Lib.replace Lib.replaceNum
  rw [if_neg (by decide), if_pos (.inl (by decide))]
  exact replaceK_quote s
theorem quote_len : ∀ s : Bs, (escQuote s).length ≤ 6 * s.length
  | [] => by simp [escQuote]
  | c :: r => by
    have := quote_len r
    rw [escQuote_cons]
    split <;> simp [quot] <;> omega
end Go.Proofs.YtjlgbkedbbailaaGreatDoor.Mu
