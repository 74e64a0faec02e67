/-
  SagaPlays: the statement's card, out of its walk. Conditions: the listed variables as the program's text lays them (tied).
-/
import Derived.Test.YteaiadpigpehaaaGreatDoorFrameOps
import Derived.Test.YteaiadpigpehaaaGreatDoorPkPlays
namespace Go.Proofs.YteaiadpigpehaaaGreatDoor.sagaPlays
open Go.ChangeShapes Go.WideShapes Go.ChangeAt Go.RowKit

set_option maxRecDepth 100000 in
theorem contract (H : Type) (enc : TypeId × Value → H) (W : World) (base : Nat) (args : Array Value) (ds gs : List (DataW H)) (before : List MemPlace)
    (hval : ∀ (j : Nat) t v, Tryz.f6.params[j]? = some t → args[j]? = some v → Value.okWide Tryz.prog W .any base t v)
    (hW : DataW.Whole enc Tryz.prog Tryz.f6.params.toList Rows.sagaPlaysSpec.vars false W args.toList ds gs before) (hL : laidMetH Tryz.prog Rows.sagaPlaysUptoRow.laid W) (hc : Rows.uptoSmall H (ds ++ gs) = true) :
    Calls Tryz.prog 6 args W fun e W' => ∃ v, e = .returned v ∧ Rows.sagaPlaysSpec.post enc Tryz.prog Tryz.f6 false true false false W args v W' := by
  have hW' := hW
  obtain ⟨p, q, hA0, hV, rfl, hfz, hnd⟩ := hW
  have hA : DataW.TrodAll enc Tryz.prog W 0 (fun _ => true) true Tryz.f6.params.toList args.toList ds p := hA0
  rw [Tryz.params6] at hA hval
  obtain ⟨v0, vs0, d0, ds0, p0, q0, hargs, rfl, rfl, h0, r0⟩ := trodAll_cons hA
  obtain ⟨rfl, rfl, rfl⟩ := trodAll_nil r0
  obtain rfl : args = #[v0] := by cases args; simp_all
  obtain ⟨rfl, rfl⟩ := trodVars_none hV
  obtain ⟨s0, Os0, rfl, rd0, nm0⟩ := open_ops_arg (hval 0 22 v0 rfl rfl) h0 (lite_of hc (by simp))
  have hLm : laidMet Tryz.prog Rows.sagaPlaysUptoRow.laid W := hL
  have tU : U8 W := u8_tables hLm (by simp [Rows.sagaPlaysUptoRow]) (by simp [Rows.sagaPlaysUptoRow])
  have tL := letters_of hLm (by simp [Rows.sagaPlaysUptoRow])
  have tT : Tables W := ⟨⟨tU, tL⟩, may_of hLm (by simp [Rows.sagaPlaysUptoRow]), ways_of hLm (by simp [Rows.sagaPlaysUptoRow])⟩
  have tD := lands_of hLm (by simp [Rows.sagaPlaysUptoRow])
  have tR : RefTabs W := ⟨lr_of hLm (by simp [Rows.sagaPlaysUptoRow]), rows_of hLm (by simp [Rows.sagaPlaysUptoRow])⟩
  refine (walk s0 Os0 W tT tD tR rd0 nm0).mono fun e W' ⟨he, hb⟩ => ?_
  subst he
  exact ⟨_, rfl, law_post laidOut_ (fun t ht => by
    rw [Tryz.params6] at ht
    have : t = 22 := by simpa using ht
    rcases this with rfl
    all_goals exact ⟨by kernel_rfl, of_decide_eq_true (by kernel_rfl)⟩) rfl rfl Tryz.underlying4 hW' (fun ds hl => by
    rw [show Tryz.f6.params.toList.length = 1 from rfl] at hl
    match ds, hl with
    | [_], _ => rfl) rfl hb⟩

/-- A world for the witness: the settled one, the listed variables as their initialisers lay them. -/
noncomputable def laidWorld (os : Os) : World :=
  { World.holding Tryz.prog os ⟨#[], #[], []⟩ with heap := (((((((((World.holding Tryz.prog os ⟨#[], #[], []⟩).heap).modify 7 (lay (flatD Rows.laid_unicode_utf8_acceptRanges))).modify 5 (lay (flatD Rows.laid_annals_annalsref2_letters))).modify 3 (lay (flatD Rows.laid_annals_annalsref3_rows))).modify 4 (lay (flatD Rows.laid_annals_text_letters))).modify 0 (lay (flatD Rows.laid_annals_record_may))).modify 2 (lay (flatD Rows.laid_annals_lift_ways))).modify 1 (lay (flatD Rows.laid_annals_saga_lands))).modify 6 (lay (flatD Rows.laid_unicode_utf8_first)) }
theorem laid_met (os : Os) : laidMet Tryz.prog Rows.sagaPlaysUptoRow.laid ((laidWorld os).forCall (fun _ _ => 0) ⟨#[], #[.slice none 0 0], []⟩).memory :=
  laidMet_of_run' 8 (by kernel_rfl) (by kernel_rfl)
theorem reads (os : Os) {H : Type} (enc : TypeId × Value → H) : ∃ places, DataW.whole enc Tryz.prog ((laidWorld os).forCall (fun _ _ => 0) ⟨#[], #[.slice none 0 0], []⟩).memory Tryz.f6.params.toList Rows.sagaPlaysSpec.vars false #[Value.slice none 0 0].toList 8 = some ([.nil], [], places) :=
  ⟨[], by kernel_rfl⟩

set_option maxRecDepth 100000 in
theorem lifted (os : Os) (started : os.Started) (H : Type) (enc : TypeId × Value → H) (F : Stop.Interp) :
    ReturnsInHanded {} Tryz.checked os 6 .any ((Rows.OpenSpec.upto Rows.sagaPlaysSpec).preRow enc Tryz.prog Tryz.f6 Rows.sagaPlaysUptoRow.domain false Rows.sagaPlaysUptoRow.laid) (((Rows.OpenSpec.upto Rows.sagaPlaysSpec).at F).post enc Tryz.prog Tryz.f6 false true false false) := by
  obtain ⟨places, hx⟩ := reads os enc
  refine returnsInHanded_of_row (C := Tryz.checked) (s := Rows.OpenSpec.upto Rows.sagaPlaysSpec) own_ started (by kernel_rfl) Tryz.func6
    (witness_row_at (enc := enc) (C := Tryz.checked) false (laidWorld os) #[.slice none 0 0] rfl (by kernel_rfl) (by kernel_rfl) (by kernel_rfl)
      (OpenSpec.preRow_of_cond 8 hx (by kernel_rfl) (fun k hk => by cases hk; kernel_rfl) (by kernel_rfl) (laid_met os))) ?_
  intro W base args ds gs before hval hW _ hcond hsz hL _ _
  exact contract H enc W base args ds gs before hval hW hL (hcond _ rfl)

theorem said : Rows.SagaPlaysUptoSaid :=
  OpenClaim.holds_of_cond 6 Tryz.f6 rfl rfl rfl rfl rfl rfl rfl ⟨rfl, rfl, rfl, rfl, rfl⟩ rfl rfl rfl rfl rfl (by kernel_rfl) Tryz.func6 (by kernel_rfl)
    (of_decide_eq_true (by kernel_rfl)) (by unfold Func.isWrapper; first | (rw [if_pos (by decide +kernel)]; kernel_rfl) | (rw [if_neg (by decide +kernel)]; exact ⟨rfl, rfl⟩))
    (fun os started H enc _ F => by rw [OpenClaim.pre_eq_preRow]; exact lifted os started H enc F)

theorem plain (f : FuncId) (fn : Func) (hf : Tryz.pinned.checked.prog.funcNamed "annals/annalslaw10.SagaPlays" = some f) (hfn : Tryz.pinned.checked.prog.funcs[f]? = some fn) :
    false = Tryz.pinned.checked.prog.looks [] ∧ ∀ (j : Nat) t, fn.params[j]? = some t → Tryz.pinned.checked.prog.wantsStandIn t = false := by
  obtain rfl : f = 6 := Option.some.inj ((show Tryz.prog.funcNamed "annals/annalslaw10.SagaPlays" = some 6 by kernel_rfl).symm.trans hf) |>.symm
  obtain rfl : fn = Tryz.f6 := (Option.some.inj (Tryz.func6.symm.trans hfn)).symm
  refine ⟨by kernel_rfl, fun j t ht => ?_⟩
  rw [Tryz.params6] at ht
  have hm := Array.mem_of_getElem? ht
  have : t = 22 := by simpa using hm
  rcases this with rfl
  all_goals (show Tryz.prog.wantsStandIn _ = false; kernel_rfl)

theorem holds : Rows.SagaPlaysUptoCardSaid :=
  Claim7.holds_tied_plain_at .later [] _ _ _ _ said (fun _ h => by cases h) (by kernel_rfl) (fun _ h => by cases h) sagaPlaysUpto_row_tie rfl ⟨rfl, rfl⟩ (by kernel_rfl) rfl plain (by kernel_rfl)
end Go.Proofs.YteaiadpigpehaaaGreatDoor.sagaPlays
