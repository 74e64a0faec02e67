/-
  TextLetters: for every rune number the program's Letter answers what the reference's Letter does, there and at the two numbers beside it; the card. Conditions: the two tables of letters as the program's text lays them (tied).
-/
import Derived.Test.YtepmfjhhmnmmeaaDoorCards
import Derived.Test.YtepmfjhhmnmmeaaDoorTie
import Derived.Test.YtepmfjhhmnmmeaaDoorLetters
import Derived.ProofKit
import Derived.OpenShut
import Derived.Deep.DeepHandedRow
namespace Go.Proofs.YtepmfjhhmnmmeaaDoor.textLetters
open Go.ChangeShapes Go.WideShapes Go.ChangeAt Go.RowKit

theorem l97 : letterB 97 = true := by decide
theorem l48 : letterB 48 = false := by decide

theorem letter_yes (w : World) (h : PairsAt .i32 0 letTab w) : Calls Tryd.prog 13 #[.int .i32 97] w fun e w' => e = .returned (.bool true) ∧ Drawn w w' := by
  rw [← l97]; exact letter_any 97 w h
theorem letter_no (w : World) (h : PairsAt .i32 0 letTab w) : Calls Tryd.prog 13 #[.int .i32 48] w fun e w' => e = .returned (.bool false) ∧ Drawn w w' := by
  rw [← l48]; exact letter_any 48 w h

set_option maxHeartbeats 1000000 in
theorem walk (r : Int) (hr0 : -2147483648 ≤ r) (hr1 : r ≤ 2147483647) (w : World) (ht : PairsAt .i32 0 letTab w) (hu : PairsAt .i64 1 letTab w) :
    Calls Tryd.prog 3 #[.int .i32 r] w fun e w' => e = .returned (.bool true) ∧ Drawn w w' := by
  have HT := Lib.hid ht
  have HU := Lib.hid hu
  have HD := Drawn.refl w
  clear ht hu
  by_cases h0 : r > -2147483648
  all_goals by_cases h1 : r < 2147483647
  all_goals
    go_enter Tryd.func3, Tryd.ntmps3
    go_wp2_with (first
      | (go_at_call 13; (with_reducible refine (letter_yes _ (HT.out.drawn HD)).mono ?_); rintro e w1 ⟨rfl, hd⟩; have HD' := HD.trans hd; clear HD hd; have HD := HD'; clear HD')
      | (go_at_call 13; (with_reducible refine (letter_no _ (HT.out.drawn HD)).mono ?_); rintro e w1 ⟨rfl, hd⟩; have HD' := HD.trans hd; clear HD hd; have HD := HD'; clear HD')
      | (go_at_call 13; (with_reducible refine (letter_any _ _ (HT.out.drawn HD)).mono ?_); rintro e w1 ⟨rfl, hd⟩; have HD' := HD.trans hd; clear HD hd; have HD := HD'; clear HD')
      | (go_at_call 14; (with_reducible refine (refLetter_any _ _ (HU.out.drawn HD)).mono ?_); rintro e w1 ⟨rfl, hd⟩; have HD' := HD.trans hd; clear HD hd; have HD := HD'; clear HD'))
    all_goals (go_ret; exact ⟨by simp, HD⟩)

theorem own : ownKnob Tryd.prog.godebug = none := by kernel_rfl
theorem gL : Tryd.prog.globalNamed "annals/text.letters" = some 0 := by kernel_rfl
theorem gR : Tryd.prog.globalNamed "annals/annalsref2.letters" = some 1 := by kernel_rfl
theorem tL : (Tryd.prog.globals[0]?).map (·.type) = some 72 := by kernel_rfl
theorem tR : (Tryd.prog.globals[1]?).map (·.type) = some 74 := by kernel_rfl
theorem cSpan : Tryd.prog.cellsOf 71 = 2 := by kernel_rfl
theorem cPair : Tryd.prog.cellsOf 73 = 2 := by kernel_rfl
theorem cI32 : Tryd.prog.cellsOf 21 = 1 := by kernel_rfl
theorem cInt : Tryd.prog.cellsOf 3 = 1 := by kernel_rfl
set_option maxRecDepth 100000 in
theorem dL : Rows.laid_annals_text_letters = pairsData .i32 letTab := by kernel_rfl
set_option maxRecDepth 100000 in
theorem dR : Rows.laid_annals_annalsref2_letters = pairsData .i64 letTab := by kernel_rfl

theorem tables {W : World} {l : List (String × DataW Unit)} (h : laidMet Tryd.prog l W) (hL : ("annals/text.letters", Rows.laid_annals_text_letters) ∈ l) (hR : ("annals/annalsref2.letters", Rows.laid_annals_annalsref2_letters) ∈ l) :
    PairsAt .i32 0 letTab W ∧ PairsAt .i64 1 letTab W :=
  ⟨pairsAt_structs gL tL Tryd.underlying72 Tryd.underlying71 rfl Tryd.underlying21 cI32 cSpan (Lib.laidMet.reads h (dL ▸ hL)),
   pairsAt_arrays gR tR Tryd.underlying74 Tryd.underlying73 Tryd.underlying3 cInt cPair (Lib.laidMet.reads h (dR ▸ hR))⟩

set_option maxRecDepth 100000 in
theorem contract (H : Type) (enc : TypeId × Value → H) (W : World) (base : Nat) (args : Array Value) (ds gs : List (DataW H)) (before : List MemPlace)
    (hval : ∀ (j : Nat) t v, Tryd.f3.params[j]? = some t → args[j]? = some v → Value.okWide Tryd.prog W .any base t v)
    (hW : DataW.Whole enc Tryd.prog Tryd.f3.params.toList Rows.textLettersSpec.vars false W args.toList ds gs before) (hL : laidMetH Tryd.prog Rows.textLettersRow.laid W) :
    Calls Tryd.prog 3 args W fun e W' => ∃ v, e = .returned v ∧ Rows.textLettersSpec.post enc Tryd.prog Tryd.f3 false true false false W args v W' := by
  have hW' := hW
  obtain ⟨p, q, hA0, hV, rfl, hfz, hnd⟩ := hW
  have hA : DataW.TrodAll enc Tryd.prog W 0 (fun _ => true) true Tryd.f3.params.toList args.toList ds p := hA0
  rw [Tryd.params3] at hA hval
  obtain ⟨v0, vs0, d0, ds0, p0, q0, hargs, rfl, rfl, h0, r0⟩ := trodAll_cons hA
  obtain ⟨rfl, rfl, rfl⟩ := trodAll_nil r0
  obtain rfl : args = #[v0] := by cases args; simp_all
  obtain ⟨rfl, rfl⟩ := trodVars_none hV
  obtain ⟨r, rfl, rfl, rfl, wr⟩ := open_int Tryd.underlying21 (hval 0 21 v0 rfl rfl) h0
  clear hA0
  simp only [List.append_nil] at hW'
  obtain ⟨tL, tR⟩ := tables (l := Rows.textLettersRow.laid) hL (by simp [Rows.textLettersRow]) (by simp [Rows.textLettersRow])
  have bd := bounds_i32 wr
  refine (walk r bd.1 bd.2 W tL tR).mono fun e W' ⟨he, hd⟩ => ?_
  subst he
  have hg := hd.grown
  exact ⟨_, rfl, post_of_same (pa := []) (pv := []) hW' (fun _ _ _ => trodAll_cons_mk (shut_bool Tryd.underlying4 _) trodAll_mk0) (fun _ _ => trodAll_cons_mk (shut_int Tryd.underlying21 wr) trodAll_mk0) (fun _ _ => rfl) rfl
    (hg.frame _) hg.2.1 (ok_one (by kernel_rfl) rfl (okWide_bool_mk Tryd.underlying4 _))⟩

/-- A world for the witness: the settled one, the two tables as their initialisers lay them. -/
def lay (vs : List Value) : Obj → Obj
  | .cells _ t frozen => .cells vs.toArray t frozen
  | o => o
noncomputable def laidWorld (os : Os) : World :=
  { World.holding Tryd.prog os ⟨#[], #[], []⟩ with heap := ((World.holding Tryd.prog os ⟨#[], #[], []⟩).heap.modify 0 (lay (letTab.flatMap fun p => [Value.int .i32 p.1, Value.int .i32 p.2]))).modify 1 (lay (letTab.flatMap fun p => [Value.int .i64 p.1, Value.int .i64 p.2])) }
theorem laid_met (os : Os) : laidMet Tryd.prog Rows.textLettersRow.laid ((laidWorld os).forCall (fun _ _ => 0) ⟨#[], #[.int .i32 0], []⟩).memory :=
  laidMet_of_run' 8 (by kernel_rfl) (by kernel_rfl)
theorem reads (os : Os) {H : Type} (enc : TypeId × Value → H) : ∃ places, DataW.whole enc Tryd.prog ((laidWorld os).forCall (fun _ _ => 0) ⟨#[], #[.int .i32 0], []⟩).memory Tryd.f3.params.toList Rows.textLettersSpec.vars false #[Value.int .i32 0].toList 8 = some ([.lit (.int .i32 0)], [], places) :=
  ⟨[], by kernel_rfl⟩

set_option maxRecDepth 100000 in
theorem lifted (os : Os) (started : os.Started) (H : Type) (enc : TypeId × Value → H) (F : Stop.Interp) :
    ReturnsInHanded {} Tryd.checked os 3 .any ((OpenSpec.ofChange Rows.textLettersSpec).preRow enc Tryd.prog Tryd.f3 Rows.textLettersRow.domain false Rows.textLettersRow.laid) (((OpenSpec.ofChange Rows.textLettersSpec).at F).post enc Tryd.prog Tryd.f3 false true false false) := by
  obtain ⟨places, hx⟩ := reads os enc
  refine returnsInHanded_of_row (C := Tryd.checked) (s := OpenSpec.ofChange Rows.textLettersSpec) own started (by kernel_rfl) Tryd.func3
    (witness_row_at (enc := enc) (C := Tryd.checked) false (laidWorld os) #[.int .i32 0] rfl (by kernel_rfl) (by kernel_rfl) (by kernel_rfl)
      (OpenSpec.preRow_of_cond 8 hx (by kernel_rfl) (fun k hk => by cases hk) (by kernel_rfl) (laid_met os))) ?_
  intro W base args ds gs before hval hW _ _ _ hL _ _
  exact contract H enc W base args ds gs before hval hW hL

theorem said : Rows.TextLettersSaid :=
  OpenClaim.holds_of_cond 3 Tryd.f3 rfl rfl rfl rfl rfl rfl rfl ⟨rfl, rfl, rfl, rfl, rfl⟩ rfl rfl rfl rfl rfl (by kernel_rfl) Tryd.func3 (by kernel_rfl)
    (of_decide_eq_true (by kernel_rfl)) (by unfold Func.isWrapper; first | (rw [if_pos (by decide +kernel)]; kernel_rfl) | (rw [if_neg (by decide +kernel)]; exact ⟨rfl, rfl⟩))
    (fun os started H enc _ F => by rw [OpenClaim.pre_eq_preRow]; exact lifted os started H enc F)

theorem plain (f : FuncId) (fn : Func) (hf : Tryd.pinned.checked.prog.funcNamed "annals/annalslaw2.TextLetters" = some f) (hfn : Tryd.pinned.checked.prog.funcs[f]? = some fn) :
    false = Tryd.pinned.checked.prog.looks [] ∧ ∀ (j : Nat) t, fn.params[j]? = some t → Tryd.pinned.checked.prog.wantsStandIn t = false := by
  obtain rfl : f = 3 := Option.some.inj ((show Tryd.prog.funcNamed "annals/annalslaw2.TextLetters" = some 3 by kernel_rfl).symm.trans hf) |>.symm
  obtain rfl : fn = Tryd.f3 := (Option.some.inj (Tryd.func3.symm.trans hfn)).symm
  refine ⟨by kernel_rfl, fun j t ht => ?_⟩
  rw [Tryd.params3] at ht
  obtain rfl : t = 21 := by simpa using Array.mem_of_getElem? ht
  exact (show Tryd.prog.wantsStandIn 21 = false by kernel_rfl)

theorem holds : Rows.TextLettersCardSaid :=
  Claim7.holds_tied_plain_at .later [] _ _ _ _ said (fun _ h => by cases h) (by kernel_rfl) (fun _ h => by cases h) textLetters_row_tie rfl ⟨rfl, rfl⟩ (by kernel_rfl) rfl plain (by kernel_rfl)
end Go.Proofs.YtepmfjhhmnmmeaaDoor.textLetters
