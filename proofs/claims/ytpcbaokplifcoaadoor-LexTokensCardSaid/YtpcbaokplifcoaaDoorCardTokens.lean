/- LexTokens's card: for every input, where the listed library variables hold what the program's text lays (tied), the law returns true: Tokens agrees with the reference. -/
import Derived.Test.YtpcbaokplifcoaaDoorLawTokens
import Derived.Test.YtpcbaokplifcoaaDoorCards
import Derived.Test.YtpcbaokplifcoaaDoorTie
import Derived.SevenTiedAt
namespace Go.Proofs.YtpcbaokplifcoaaDoor
open Go.ChangeShapes Go.WideShapes Go.ChangeAt Go.RowKit Go.Chalk

set_option maxRecDepth 100000 in
theorem tokens_lifted (os : Os) (started : os.Started) (H : Type) (enc : TypeId × Value → H) :
    ReturnsInHanded {} Tryd.checked os 3 .any (fun w args => (Rows.lexTokensSpec.pre enc Tryd.prog Tryd.f3 [] false w args ∧ laidMetH Tryd.prog laidL w) ∧ sizedMet enc Tryd.prog Tryd.f3 (OpenSpec.ofChange Rows.lexTokensSpec) false w args)
      (Rows.lexTokensSpec.post enc Tryd.prog Tryd.f3 false true false false) := by
  refine returnsInHanded_of_change_and (C := Tryd.checked) (X := fun w _ => laidMetH Tryd.prog laidL w) (fun _ _ _ hh h => h.of_heap hh) own started (by kernel_rfl) Tryd.func3
    (ChangeSpec.witness_shaped (enc := enc) (C := Tryd.checked) (os := os) (X := fun w _ => laidMetH Tryd.prog laidL w) false (World.doorLaid Tryd.prog 400 os) #[.slice none 0 0] 8 rfl (World.shaped_of_RefB (by kernel_rfl) (by kernel_rfl)) (by kernel_rfl) (by kernel_rfl) (by kernel_rfl) (door_met os _)) ?_
  intro W base args ds gs before hval0 hW _ _ hL _
  have hval : ∀ (j : Nat) t v, Tryd.f3.params[j]? = some t → args[j]? = some v → Value.okWide Tryd.prog W .any base t v := hval0
  have hW' := hW
  obtain ⟨p, q, hA0, hV, rfl, hfz, hnd⟩ := hW
  have r_ : DataW.TrodAll enc Tryd.prog W 0 (fun _ => true) true Tryd.f3.params.toList args.toList ds p := hA0
  rw [Tryd.params3] at r_ hval
  obtain ⟨v0, vs0, d0, ds0, p0, q0, hargs, rfl, rfl, h0, r0⟩ := trodAll_cons r_
  obtain ⟨rfl, rfl, rfl⟩ := trodAll_nil r0
  obtain rfl : args = #[v0] := by cases args; simp_all
  obtain ⟨rfl, rfl⟩ := trodVars_none hV
  obtain ⟨l0, a0, b0, o0, c0, rfl, s0, g0, m0⟩ := bytes_arg (hval 0 _ v0 rfl rfl) h0
  refine (tokens_walk W (gat_of hL) l0 a0 b0 o0 c0 s0 g0 m0).mono fun e W' ⟨he, hb'⟩ => ?_
  subst he
  exact ⟨_, rfl, law_post laid rfl hW' (by kernel_rfl) rfl Tryd.underlying4 rfl hb'⟩

theorem tokens_said : Rows.LexTokensSaid :=
  OpenClaim.holds_of_wide 3 Tryd.f3 rfl rfl rfl rfl rfl rfl rfl ⟨rfl, rfl, rfl, rfl, rfl⟩ rfl rfl rfl rfl rfl (by kernel_rfl) Tryd.func3 (by kernel_rfl)
    (of_decide_eq_true (by kernel_rfl)) (by unfold Func.isWrapper; first | (rw [if_pos (by decide +kernel)]; kernel_rfl) | (rw [if_neg (by decide +kernel)]; exact ⟨rfl, rfl⟩))
    (fun os started H enc _ => tokens_lifted os started H enc)

theorem tokens_plain (f : FuncId) (fn : Func) (hf : Tryd.pinned.checked.prog.funcNamed "chalkline/chalklinelaw05.LexTokens" = some f) (hfn : Tryd.pinned.checked.prog.funcs[f]? = some fn) :
    true = Tryd.pinned.checked.prog.looks [] ∧ ∀ (j : Nat) t, fn.params[j]? = some t → Tryd.pinned.checked.prog.wantsStandIn t = false := by
  obtain rfl : f = 3 := Option.some.inj ((show Tryd.prog.funcNamed "chalkline/chalklinelaw05.LexTokens" = some 3 by kernel_rfl).symm.trans hf) |>.symm
  obtain rfl : fn = Tryd.f3 := (Option.some.inj (Tryd.func3.symm.trans hfn)).symm
  refine ⟨by kernel_rfl, fun j t ht => ?_⟩
  rw [Tryd.params3] at ht
  have hm : t ∈ [22] := by simpa using Array.mem_of_getElem? ht
  have hall : ([22].all fun u => !Tryd.prog.wantsStandIn u) = true := by kernel_rfl
  exact (show Tryd.prog.wantsStandIn t = false by simpa using List.all_eq_true.1 hall t hm)

theorem tokens_card : Rows.LexTokensCardSaid :=
  Claim7.holds_tied_plain_at .later [] _ _ _ _ tokens_said (fun _ h => by cases h) (by kernel_rfl) (fun _ h => by cases h) lexTokens_row_tie rfl ⟨rfl, rfl⟩ (by kernel_rfl) rfl tokens_plain (by kernel_rfl)

end Go.Proofs.YtpcbaokplifcoaaDoor
