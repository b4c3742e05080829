/- Plain laws of layer 13's model: names are no longer than the document. -/
import Derived.Test.YtjlgbkedbbailaaGreatDoorZBM
set_option linter.unusedVariables false
set_option linter.unusedSimpArgs false
namespace Go.Proofs.YtjlgbkedbbailaaGreatDoor.Mu
theorem small_len (s : Bs) : (small s).length = s.length := by simp [small]
theorem tag_name (kind : Nat) (s : Bs) : ∀ t ∈ (tag kind s).1, t.name.length ≤ s.length := by
  intro t ht
  have h1 := till_len (fun c => white c || c == 47 || c == 62) s
  have h2 := small_len (till (fun c => white c || c == 47 || c == 62) s).1
  unfold tag at ht
  simp only at ht
  split at ht
  · simp at ht
  · split at ht
    · simp at ht; subst ht; show (small _).length ≤ _; omega
    · split at ht
      · simp at ht; rcases ht with rfl | rfl
        · show (small _).length ≤ _; omega
        · simp [chars]
      · simp at ht; subst ht; show (small _).length ≤ _; omega
theorem commentTo_name (sep s : Bs) : ∀ t ∈ (commentTo sep s).1, t.name = [] := by
  intro t ht; simp [commentTo] at ht; subst ht; rfl
theorem remark_name (s : Bs) : ∀ t ∈ (remark s).1, t.name = [] := by
  intro t ht
  unfold remark at ht
  split at ht
  · simp at ht; subst ht; rfl
  · simp at ht; subst ht; rfl
  · exact commentTo_name _ _ t ht
theorem markup_name (s : Bs) : ∀ t ∈ (markup s).1, t.name.length ≤ s.length := by
  intro t ht
  unfold markup at ht
  split at ht
  · split at ht
    · have := tag_name 3 _ t ht
      simp only [List.length_cons] at this ⊢; omega
    · split at ht
      · simp at ht
      · rw [commentTo_name _ _ t ht]; simp
  · rw [remark_name _ t ht]; simp
  · rw [commentTo_name _ _ t ht]; simp
  · rw [commentTo_name _ _ t ht]; simp
  · have := tag_name 2 _ t ht
    simp only [List.length_cons]; omega
  · simp at ht
theorem scanF_name : ∀ (k : Nat) (s : Bs), ∀ t ∈ scanF k s, t.name.length ≤ s.length
  | 0, _, t, h => by simp [scanF] at h
  | k + 1, s, t, h => by
    have h1 := lead_len s
    unfold scanF at h
    split at h
    · simp at h
    · rcases List.mem_cons.1 h with h | h
      · subst h; simp [chars]
      · split at h
        · simp at h
        · rename_i hne
          have h2 := (markup_len (lead s).2 hne).2
          rcases List.mem_append.1 h with h | h
          · have := markup_name _ t h; omega
          · have := scanF_name k _ t h; omega
theorem push_name {n : Nat} {l : List Tok} (h : ∀ t ∈ l, t.name.length ≤ n) {t : Tok} (ht : t.name.length ≤ n) : ∀ u ∈ push l t, u.name.length ≤ n := by
  intro u hu
  unfold push at hu
  split at hu
  · split at hu
    · exact h u hu
    · split at hu
      · rename_i x hx
        split at hu
        · rcases List.mem_append.1 hu with hu | hu
          · exact h u (List.dropLast_subset _ hu)
          · simp at hu; subst hu
            exact h x (List.mem_of_getLast? hx)
        · rcases List.mem_append.1 hu with hu | hu
          · exact h u hu
          · simp at hu; subst hu; exact ht
      · simp at hu; subst hu; exact ht
  · rcases List.mem_append.1 hu with hu | hu
    · exact h u hu
    · simp at hu; subst hu; exact ht
theorem foldl_name {n : Nat} : ∀ (ts l : List Tok), (∀ t ∈ l, t.name.length ≤ n) → (∀ t ∈ ts, t.name.length ≤ n) → ∀ u ∈ ts.foldl push l, u.name.length ≤ n
  | [], _, h, _ => h
  | t :: ts, l, h, hts => foldl_name ts _ (push_name h (hts t (by simp))) (fun u hu => hts u (by simp [hu]))
theorem scan_name (s : Bs) : ∀ t ∈ scan s, t.name.length ≤ s.length := foldl_name _ _ (by simp) (scanF_name _ s)
end Go.Proofs.YtjlgbkedbbailaaGreatDoor.Mu
