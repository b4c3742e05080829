/- What the walks ask of the variables, out of the rows' condition. -/
import Derived.Test.YtjlgbkedbbailaaGreatDoorRows
import Derived.Test.YtjlgbkedbbailaaGreatDoorZBW
import Derived.ProofKit
import Derived.OpenShut
import Derived.LaidMore
import Derived.Lay
import Derived.Stop.Joined
import Derived.Shelf.Vars
import Derived.Lib.LaidU8
import Derived.Lib.LaidTab
import Derived.ShutString
set_option linter.unusedVariables false
set_option linter.unusedSimpArgs false
namespace Go.Proofs.YtjlgbkedbbailaaGreatDoor.Mu
open Go.ChangeShapes Go.WideShapes Go.ChangeAt Go.RowKit
theorem iface_cells {H : Type} {enc : TypeId × Value → H} {P : Program} {w : World} {sp : Nat → Bool} {fuel : Nat} {t : TypeId} {ms : Array (String × TypeId)} {cs : List Value} {x : DataW H × List MemPlace} (ht : P.underlying t = some (.interface ms))
    (h : DataW.trod enc P w 0 sp false fuel t cs = some x) : cs = [.nilIface] ∨ ∃ u v, cs = [.iface u v] := by
  cases fuel with
  | zero => simp [DataW.trod] at h
  | succ n =>
    rcases cs with _ | ⟨v, _ | ⟨v2, r⟩⟩
    · simp [DataW.trod, ht] at h
    · cases v <;> first | exact .inl rfl | exact .inr ⟨_, _, rfl⟩ | simp [DataW.trod, ht] at h
    · simp [DataW.trod, ht] at h
abbrev seatLaid : List (String × DataW Unit) := Rows.htokCommentRow.laid
theorem env_of {W : World} (hL : laidMetH Tryz.prog seatLaid W) (hsh : W.ShapedOpen Tryz.prog) : Env W := by
  rw [MakeChecks.laidMetH_plain _ _ _ (by kernel_rfl)] at hL
  refine ⟨?_, ?_, ?_⟩
  · exact cell_of_shapedOpen_int (P := Tryz.prog) (g := 0) (t := 3) (zero := #[.int .i64 0]) hsh (of_decide_eq_true (by kernel_rfl)) (by kernel_rfl) rfl (by kernel_rfl) (by kernel_rfl) Tryz.underlying3
  · obtain ⟨g, t, cs, fuel, p, hg, ht, hv, hd⟩ := Lib.laidMet.reads hL (n := "strconv.ErrSyntax") (d := Rows.laid_strconv_ErrSyntax) (by simp [seatLaid, Rows.htokCommentRow])
    obtain rfl := Option.some.inj ((show Tryz.prog.globalNamed "strconv.ErrSyntax" = some 4 by kernel_rfl).symm.trans hg)
    obtain rfl := Option.some.inj ((show (Tryz.prog.globals[4]?).map (·.type) = some 52 by kernel_rfl).symm.trans ht)
    have hc := World.var?_cell hg hv 0
    rcases iface_cells Tryz.underlying52 hd with h | ⟨u, v, h⟩
    · exact ⟨.nilIface, by rw [hc, Array.eq_one_of_toList h]; rfl, .inl rfl⟩
    · exact ⟨.iface u v, by rw [hc, Array.eq_one_of_toList h]; rfl, .inr ⟨u, v, rfl⟩⟩
  · intro j hj
    obtain ⟨g, t, cs, fuel, p, hg, ht, hv, hd⟩ := Lib.laidMet.reads hL (n := "muslin/chars.high") (d := Rows.laid_muslin_chars_high) (by simp [seatLaid, Rows.htokCommentRow])
    obtain rfl := Option.some.inj ((show Tryz.prog.globalNamed "muslin/chars.high" = some 1 by kernel_rfl).symm.trans hg)
    obtain rfl := Option.some.inj ((show (Tryz.prog.globals[1]?).map (·.type) = some 165 by kernel_rfl).symm.trans ht)
    have hcs : cs.toList = high.map fun z => Value.int .i32 z := Lib.cells_of_tab (zs := high) Tryz.underlying165 Tryz.underlying21 (by kernel_rfl) (by kernel_rfl) hd
    have hc := World.var?_cell hg hv j
    rw [hc]
    have : cs.toList[j]? = some (.int .i32 (high.getD j 0)) := by
      rw [hcs, List.getElem?_map, List.getElem?_eq_getElem (show j < high.length by simpa [high] using hj), List.getD_eq_getElem?_getD, List.getElem?_eq_getElem (show j < high.length by simpa [high] using hj)]; rfl
    simpa using this
/-- The row's contract with the listed variables and the shape of all others handed on. -/
theorem returns_laid_shaped {H : Type} {enc : TypeId × Value → H} {a : Assume} {C : Checked} {os : Os} {f : FuncId} {fn : Func} {s : ChangeSpec} {conds : List PathCond} {apart fresh handsOn again : Bool} {X : World → Array Value → Prop}
    (hX : ∀ (w w' : World) (args : Array Value), w.heap = w'.heap → X w args → X w' args)
    (own : ownKnob C.prog.godebug = none) (started : os.Started) (noInit : C.prog.inits.idxOf? f = none) (hfn : C.prog.funcs[f]? = some fn)
    (witness : ∃ (w : World) (tape : Tape) (i : Input), w.os = os ∧ (w.forCall tape i).Shaped C.prog ∧ i.vars = [] ∧ Input.okWide C.prog (w.forCall tape i) .any w.heap.size f i ∧
      ((s.pre enc C.prog fn conds apart (w.forCall tape i).memory i.args ∧ X (w.forCall tape i).memory i.args) ∧ sizedMet enc C.prog fn (OpenSpec.ofChange s) apart (w.forCall tape i).memory i.args) ∧ a.holds C.prog (lone (Frame.enter C.prog f i.args .normal) [] (w.forCall tape i)))
    (contract : ∀ (W : World) (base : Nat) (args : Array Value) (ds gs : List (DataW H)) (before : List MemPlace),
      (∀ (j : Nat) t v, fn.params[j]? = some t → args[j]? = some v → Value.okWide C.prog W .any base t v) →
      DataW.Whole enc C.prog fn.params.toList s.vars apart W args.toList ds gs before →
      (DataW.weightsEach C.prog (fn.params.toList ++ s.plain.varTypes C.prog) (ds ++ gs)).all (· ≤ reachBytes) = true → X W args → W.ShapedOpen C.prog →
      Calls C.prog f args W fun e W' => ∃ v, e = .returned v ∧ s.post enc C.prog fn apart fresh handsOn again W args v W') :
    ReturnsInHanded a C os f .any (fun w args => (s.pre enc C.prog fn conds apart w args ∧ X w args) ∧ sizedMet enc C.prog fn (OpenSpec.ofChange s) apart w args) (s.post enc C.prog fn apart fresh handsOn again) := by
  refine returnsInHanded_of_calls own started noInit witness ?_
  intro w tape i _ hsh _ hok hpre _
  obtain ⟨_, _, _, fn', hfn', _, _, _, _, hval⟩ := hok
  have e : fn' = fn := Option.some.inj (hfn'.symm.trans hfn)
  subst e
  obtain ⟨⟨⟨ds, gs, before, hw, _⟩, hx⟩, hz⟩ := hpre
  have hw' := DataW.Whole.of_heap (w' := w.forCall tape i) (by rfl) hw
  refine (contract (w.forCall tape i) w.heap.size i.args ds gs before hval hw' (hz.weights hw) (hX _ _ _ (by rfl) hx) hsh).mono fun e W' ⟨v, he, hp⟩ => ?_
  subst he
  exact ChangeSpec.post_blind hp
end Go.Proofs.YtjlgbkedbbailaaGreatDoor.Mu
