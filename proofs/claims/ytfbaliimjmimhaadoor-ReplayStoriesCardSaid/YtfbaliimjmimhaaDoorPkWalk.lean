/-
  The tests of saga's walk walked: wrongPhase, wrongStep, wrongTry, wrongCode.
  wrongStep of saga's walk walked.
  wrongTry and wrongFlight of saga's walk walked.
  refused of saga's walk walked: why a record may not come.
  Sagas and records as plain data; how words in a world are read as such data; what saga.Check asks of them.
  What saga.Check asks of a saga, as plain facts.
  What record.Check asks of a record, as plain facts of the record lifted to version 3.
  What Begin, Apply, Finished, Allowed and Pending answer, as plain functions.
  Conditions: as each theorem says. (Joined by wip/tools/pack.py.)
-/
import Derived.Test.YtfbaliimjmimhaaDoorPkCheck
import Derived.Test.YtfbaliimjmimhaaDoorPkLift
namespace Go.Proofs.YtfbaliimjmimhaaDoor
open Go.RowKit

/-- A walk's words at a block: the saga's, then the record's. -/
structure WalkIn (w : World) (g : Nat) (s : SagaV) (r : RecV) : Prop where
  s : SagaIn w g 0 s
  r : RecIn w g 16 r
theorem WalkIn.below {w w' : World} {g : Nat} {s : SagaV} {r : RecV} (h : WalkIn w g s r) (hb : Below w.heap.size w w') : WalkIn w' g s r := ⟨h.s.below hb, h.r.below hb⟩

def wrongPhaseB (s : SagaV) (r : RecV) : Bool :=
  if r.kind = 2 ∨ r.kind = 3 then s.phase == 2 else if r.kind = 5 ∨ r.kind = 6 then s.phase == 1 else if r.kind = 4 then (s.phase == 2 && r.last == 1) else false
def wrongStepB (s : SagaV) (r : RecV) : Bool :=
  if r.kind = 7 ∧ s.phase = 1 then s.next != s.count else if r.kind = 7 then s.next != 0 else if s.phase = 1 then (r.step != s.next || s.next == s.count) else r.step != wrap64 (s.next - 1)
def wrongTryB (s : SagaV) (r : RecV) : Bool := (r.kind == 2 || r.kind == 5) && (r.try_ != min (s.tries + 1) 1000)
def wrongCodeB (s : SagaV) (r : RecV) : Bool := if r.kind ≠ 7 ∨ r.code = 0 then false else r.code != s.phase

set_option maxRecDepth 100000 in
theorem wrongPhase_any (g : Nat) (s : SagaV) (r : RecV) (w : World) (h : WalkIn w g s r) :
    Calls Tryd.prog 62 #[.pointer (some ⟨g, 0, none⟩)] w fun e w' => e = .returned (.bool (wrongPhaseB s r)) ∧ w' = w := by
  have h7 := h.s.c7
  have k1 := h.r.c1
  have k6 := h.r.c6
  simp only [Nat.zero_add, Nat.reduceAdd] at h7 k1 k6
  clear h
  unfold wrongPhaseB
  obtain ⟨phase, hp⟩ : ∃ x, s.phase = x := ⟨_, rfl⟩
  obtain ⟨kind, hk⟩ : ∃ x, r.kind = x := ⟨_, rfl⟩
  obtain ⟨last, hl⟩ : ∃ x, r.last = x := ⟨_, rfl⟩
  rw [hp] at h7
  rw [hk] at k1
  rw [hl] at k6
  rw [hp, hk, hl]
  clear hp hk hl
  go_enter Tryd.func62, Tryd.ntmps62
  go_wp2
  all_goals go_ret
  all_goals refine ⟨ret_bool ?_, rfl⟩
  all_goals simp_all

set_option maxRecDepth 100000 in
theorem wrongCode_any (g : Nat) (s : SagaV) (r : RecV) (w : World) (h : WalkIn w g s r) :
    Calls Tryd.prog 66 #[.pointer (some ⟨g, 0, none⟩)] w fun e w' => e = .returned (.bool (wrongCodeB s r)) ∧ Drawn w w' := by
  have s7 := h.s.c7
  have r1 := h.r.c1
  have r7 := h.r.c7
  simp only [Nat.zero_add, Nat.reduceAdd] at s7 r1 r7
  clear h
  unfold wrongCodeB
  obtain ⟨xphase, ephase⟩ : ∃ x, s.phase = x := ⟨_, rfl⟩
  rw [ephase] at s7
  obtain ⟨ykind, fkind⟩ : ∃ x, r.kind = x := ⟨_, rfl⟩
  rw [fkind] at r1
  obtain ⟨ycode, fcode⟩ : ∃ x, r.code = x := ⟨_, rfl⟩
  rw [fcode] at r7
  rw [ephase, fkind, fcode]
  clear ephase fkind fcode
  go_enter Tryd.func66, Tryd.ntmps66
  go_wp2
  all_goals try (go_quiet (fail); go_wp2)
  all_goals try (go_quiet (fail); go_wp2)
  all_goals go_ret
  all_goals refine ⟨ret_bool ?_, by first | exact Drawn.refl _ | exact ⟨⟨_, rfl⟩⟩⟩
  all_goals simp_all
end Go.Proofs.YtfbaliimjmimhaaDoor
namespace Go.Proofs.YtfbaliimjmimhaaDoor
open Go.RowKit

set_option maxRecDepth 100000 in
theorem wrongStep_any (g : Nat) (s : SagaV) (r : RecV) (w : World) (h : WalkIn w g s r) :
    Calls Tryd.prog 64 #[.pointer (some ⟨g, 0, none⟩)] w fun e w' => e = .returned (.bool (wrongStepB s r)) ∧ Drawn w w' := by
  have s7 := h.s.c7
  have s8 := h.s.c8
  have s2 := h.s.c2
  have r1 := h.r.c1
  have r3 := h.r.c3
  simp only [Nat.zero_add, Nat.reduceAdd] at s7 s8 s2 r1 r3
  clear h
  unfold wrongStepB
  obtain ⟨xphase, ephase⟩ : ∃ x, s.phase = x := ⟨_, rfl⟩
  rw [ephase] at s7
  obtain ⟨xnext, enext⟩ : ∃ x, s.next = x := ⟨_, rfl⟩
  rw [enext] at s8
  obtain ⟨xcount, ecount⟩ : ∃ x, s.count = x := ⟨_, rfl⟩
  rw [ecount] at s2
  obtain ⟨ykind, fkind⟩ : ∃ x, r.kind = x := ⟨_, rfl⟩
  rw [fkind] at r1
  obtain ⟨ystep, fstep⟩ : ∃ x, r.step = x := ⟨_, rfl⟩
  rw [fstep] at r3
  rw [ephase, enext, ecount, fkind, fstep]
  clear ephase enext ecount fkind fstep
  by_cases h7 : ykind = 7
  · by_cases h1 : xphase = 1
    · subst h7 h1
      go_enter Tryd.func64, Tryd.ntmps64
      go_wp2
      all_goals try (go_quiet (fail); go_wp2)
      all_goals try (go_quiet (fail); go_wp2)
      all_goals go_ret
      all_goals refine ⟨ret_bool ?_, by first | exact Drawn.refl _ | exact ⟨⟨_, rfl⟩⟩⟩
      all_goals simp_all
    · subst h7
      go_enter Tryd.func64, Tryd.ntmps64
      go_wp2
      all_goals try (go_quiet (fail); go_wp2)
      all_goals try (go_quiet (fail); go_wp2)
      all_goals go_ret
      all_goals refine ⟨ret_bool ?_, by first | exact Drawn.refl _ | exact ⟨⟨_, rfl⟩⟩⟩
      all_goals simp_all
  · by_cases h1 : xphase = 1
    · subst h1
      by_cases h2 : ystep = xnext
      · subst h2
        go_enter Tryd.func64, Tryd.ntmps64
        go_wp2
        all_goals try (go_quiet (fail); go_wp2)
        all_goals try (go_quiet (fail); go_wp2)
        all_goals go_ret
        all_goals refine ⟨ret_bool ?_, by first | exact Drawn.refl _ | exact ⟨⟨_, rfl⟩⟩⟩
        all_goals simp_all
      · have h2' : (ystep != xnext) = true := by rw [bne_iff_ne]; exact h2
        go_enter Tryd.func64, Tryd.ntmps64
        go_wp2
        all_goals try (go_quiet (fail); go_wp2)
        all_goals try (go_quiet (fail); go_wp2)
        all_goals go_ret
        all_goals refine ⟨ret_bool ?_, by first | exact Drawn.refl _ | exact ⟨⟨_, rfl⟩⟩⟩
        all_goals simp_all
    · go_enter Tryd.func64, Tryd.ntmps64
      go_wp2
      all_goals try (go_quiet (fail); go_wp2)
      all_goals try (go_quiet (fail); go_wp2)
      all_goals go_ret
      all_goals refine ⟨ret_bool ?_, by first | exact Drawn.refl _ | exact ⟨⟨_, rfl⟩⟩⟩
      all_goals simp_all

end Go.Proofs.YtfbaliimjmimhaaDoor
namespace Go.Proofs.YtfbaliimjmimhaaDoor
open Go.RowKit

def landsL : List Bool := [false, false, false, true, true, false, true, false]
def LandsAt (w : World) : Prop := ∀ i, i < 8 → w.cell? ⟨3, i, none⟩ = some (.bool (landsL.getD i false))
theorem LandsAt.below {w w' : World} (h : LandsAt w) (hb : Below w.heap.size w w') : LandsAt w' := fun i hi => (hb.cell (World.block_lt_of_cell? w _ (h i hi))).trans (h i hi)
def wrongFlightB (s : SagaV) (k : Nat) : Bool := s.flight != landsL.getD k false

set_option maxRecDepth 100000 in
theorem wrongFlight_any (g : Nat) (s : SagaV) (r : RecV) (k : Nat) (hk : r.kind = k) (hk8 : k < 8) (w : World) (h : WalkIn w g s r) (hl : LandsAt w) :
    Calls Tryd.prog 63 #[.pointer (some ⟨g, 0, none⟩)] w fun e w' => e = .returned (.bool (wrongFlightB s k)) ∧ Drawn w w' := by
  have h9 := h.s.c9
  have k1 := h.r.c1
  have hc := hl k hk8
  simp only [Nat.zero_add, Nat.reduceAdd] at h9 k1
  rw [hk] at k1
  unfold wrongFlightB
  obtain ⟨F, hF⟩ : ∃ x, s.flight = x := ⟨_, rfl⟩
  obtain ⟨L, hL⟩ : ∃ x, landsL.getD k false = x := ⟨_, rfl⟩
  rw [hF] at h9
  rw [hL] at hc
  rw [hF, hL]
  clear h hl hF hL hk
  go_enter Tryd.func63, Tryd.ntmps63
  go_wp2
  all_goals try (go_quiet (fail); go_wp2)
  all_goals go_ret
  all_goals refine ⟨ret_bool ?_, by first | exact Drawn.refl _ | exact ⟨⟨_, rfl⟩⟩⟩
  all_goals (cases F <;> cases L <;> simp_all)

set_option maxRecDepth 100000 in
theorem wrongTry_any (g : Nat) (s : SagaV) (r : RecV) (w : World) (h : WalkIn w g s r) (ht : 0 ≤ s.tries ∧ s.tries ≤ 1000) :
    Calls Tryd.prog 65 #[.pointer (some ⟨g, 0, none⟩)] w fun e w' => e = .returned (.bool (wrongTryB s r)) ∧ Drawn w w' := by
  have h10 := h.s.c10
  have k1 := h.r.c1
  have k4 := h.r.c4
  simp only [Nat.zero_add, Nat.reduceAdd] at h10 k1 k4
  clear h
  unfold wrongTryB
  obtain ⟨tries, ht'⟩ : ∃ x, s.tries = x := ⟨_, rfl⟩
  obtain ⟨kind, hk⟩ : ∃ x, r.kind = x := ⟨_, rfl⟩
  obtain ⟨try_, hy⟩ : ∃ x, r.try_ = x := ⟨_, rfl⟩
  rw [ht'] at h10 ht
  rw [hk] at k1
  rw [hy] at k4
  rw [ht', hk, hy]
  clear ht' hk hy
  obtain ⟨ht0, ht1⟩ := ht
  by_cases h2 : kind = 2
  · subst h2
    go_enter Tryd.func65, Tryd.ntmps65
    go_wp2
    all_goals try (go_quiet (fail); go_wp2)
    all_goals go_ret
    all_goals refine ⟨ret_bool ?_, by first | exact Drawn.refl _ | exact ⟨⟨_, rfl⟩⟩⟩
    all_goals simp_all
  by_cases h5 : kind = 5
  · subst h5
    go_enter Tryd.func65, Tryd.ntmps65
    go_wp2
    all_goals try (go_quiet (fail); go_wp2)
    all_goals go_ret
    all_goals refine ⟨ret_bool ?_, by first | exact Drawn.refl _ | exact ⟨⟨_, rfl⟩⟩⟩
    all_goals simp_all
  · go_enter Tryd.func65, Tryd.ntmps65
    go_wp2
    all_goals try (go_quiet (fail); go_wp2)
    all_goals go_ret
    all_goals refine ⟨ret_bool ?_, by first | exact Drawn.refl _ | exact ⟨⟨_, rfl⟩⟩⟩
    all_goals simp_all
end Go.Proofs.YtfbaliimjmimhaaDoor
namespace Go.Proofs.YtfbaliimjmimhaaDoor
open Go.RowKit

def pivotB (s : SagaV) (r : RecV) : Bool := decide (r.kind = 4 ∧ r.last = 1 ∧ 0 < s.pivot ∧ s.pivot ≤ r.step)
def refusedN (s : SagaV) (r : RecV) : Int :=
  if r.saga ≠ s.id then 101 else if r.kind = 1 then 102 else if s.phase ≠ 1 ∧ s.phase ≠ 2 then 103
  else if wrongPhaseB s r = true then 104 else if wrongFlightB s r.kind.toNat = true then 105 else if wrongStepB s r = true then 106
  else if wrongTryB s r = true then 107 else if pivotB s r = true then 108 else if wrongCodeB s r = true then 109 else 0

set_option maxRecDepth 10000000 in
set_option maxHeartbeats 4000000 in
theorem refused_any (g : Nat) (s : SagaV) (r : RecV) (w : World) (h : WalkIn w g s r) (hl : LandsAt w) (hk : 1 ≤ r.kind ∧ r.kind ≤ 7) (ht : 0 ≤ s.tries ∧ s.tries ≤ 1000) :
    Calls Tryd.prog 49 #[.pointer (some ⟨g, 0, none⟩)] w fun e w' => e = .returned (.int .i64 (refusedN s r)) ∧ Drawn w w' := by
  have hd0 := Drawn.refl w
  obtain ⟨b1, e1⟩ : ∃ x, wrongPhaseB s r = x := ⟨_, rfl⟩
  obtain ⟨b2, e2⟩ : ∃ x, wrongFlightB s r.kind.toNat = x := ⟨_, rfl⟩
  obtain ⟨b3, e3⟩ : ∃ x, wrongStepB s r = x := ⟨_, rfl⟩
  obtain ⟨b4, e4⟩ : ∃ x, wrongTryB s r = x := ⟨_, rfl⟩
  obtain ⟨b5, e5⟩ : ∃ x, wrongCodeB s r = x := ⟨_, rfl⟩
  have WD : ∀ w', Drawn w w' → WalkIn w' g s r := fun w' hd => h.below hd.below
  have LD : ∀ w', Drawn w w' → LandsAt w' := fun w' hd => hl.below hd.below
  have C1 := Lib.hid (fun w' hd => wrongPhase_any g s r w' (WD w' hd))
  have C2 := Lib.hid (fun w' hd => wrongFlight_any g s r r.kind.toNat (by omega) (by omega) w' (WD w' hd) (LD w' hd))
  have C3 := Lib.hid (fun w' hd => wrongStep_any g s r w' (WD w' hd))
  have C4 := Lib.hid (fun w' hd => wrongTry_any g s r w' (WD w' hd) ht)
  have C5 := Lib.hid (fun w' hd => wrongCode_any g s r w' (WD w' hd))
  rw [e1] at C1
  rw [e2] at C2
  rw [e3] at C3
  rw [e4] at C4
  rw [e5] at C5
  have hv : refusedN s r = if r.saga ≠ s.id then 101 else if r.kind = 1 then 102 else if s.phase ≠ 1 ∧ s.phase ≠ 2 then 103
    else if b1 = true then 104 else if b2 = true then 105 else if b3 = true then 106 else if b4 = true then 107 else if pivotB s r = true then 108 else if b5 = true then 109 else 0 := by
    unfold refusedN; rw [e1, e2, e3, e4, e5]
  obtain ⟨V, hV⟩ : ∃ x, refusedN s r = x := ⟨_, rfl⟩
  rw [hV] at hv
  rw [hV]
  have hp : pivotB s r = decide (r.kind = 4 ∧ r.last = 1 ∧ 0 < s.pivot ∧ s.pivot ≤ r.step) := rfl
  rw [hp] at hv
  clear hV hp e1 e2 e3 e4 e5 WD LD ht hl hk
  have HW := Lib.hid (fun w' (hd : Drawn w w') => h.below hd.below)
  clear h
  obtain ⟨id, name, count, pivot, begun, at_, ⟨ia, il, ic⟩, phase, next, flight, tries, ⟨oa, ol, oc⟩, ⟨ua, ul, uc⟩, fs, fc, ⟨fa, fl, fcap⟩⟩ := s
  obtain ⟨rv, kind, rsaga, rstep, rtry, rat, rlast, rcode, rcount, rpivot, rname, ⟨da, dn, dc⟩⟩ := r
  simp only at hv
  have HV := Lib.hid hv
  clear hv
  have h := HW.out w hd0
  have a0 := h.s.c0; have a3 := h.s.c3; have a7 := h.s.c7
  have r1 := h.r.c1; have r2 := h.r.c2; have r3 := h.r.c3; have r6 := h.r.c6
  simp only [Nat.zero_add, Nat.reduceAdd] at a0 a3 a7 r1 r2 r3 r6
  clear h
  go_enter Tryd.func49, Tryd.ntmps49
  go_wp2
  go_quiet (fail)
  have hd1 : Drawn w (w.drewN nq) := ⟨⟨_, rfl⟩⟩
  go_wp2_with (first
    | (go_at_call 62; (with_reducible refine (C1.out _ hd1).mono ?_); rintro e w1 ⟨rfl, rfl⟩)
    | (go_at_call 63; (with_reducible refine (C2.out _ hd1).mono ?_); rintro e w2 ⟨rfl, hd⟩; have hd2 := hd1.trans hd; clear hd; have h := HW.out w2 hd2; have a0 := h.s.c0; have a3 := h.s.c3; have a7 := h.s.c7; have r1 := h.r.c1; have r2 := h.r.c2; have r3 := h.r.c3; have r6 := h.r.c6; simp only [Nat.zero_add, Nat.reduceAdd] at a0 a3 a7 r1 r2 r3 r6; clear h)
    | (go_at_call 64; (with_reducible refine (C3.out _ hd2).mono ?_); rintro e w3 ⟨rfl, hd⟩; have hd3 := hd2.trans hd; clear hd; have h := HW.out w3 hd3; have a0 := h.s.c0; have a3 := h.s.c3; have a7 := h.s.c7; have r1 := h.r.c1; have r2 := h.r.c2; have r3 := h.r.c3; have r6 := h.r.c6; simp only [Nat.zero_add, Nat.reduceAdd] at a0 a3 a7 r1 r2 r3 r6; clear h)
    | (go_at_call 65; (with_reducible refine (C4.out _ hd3).mono ?_); rintro e w4 ⟨rfl, hd⟩; have hd4 := hd3.trans hd; clear hd; have h := HW.out w4 hd4; have a0 := h.s.c0; have a3 := h.s.c3; have a7 := h.s.c7; have r1 := h.r.c1; have r2 := h.r.c2; have r3 := h.r.c3; have r6 := h.r.c6; simp only [Nat.zero_add, Nat.reduceAdd] at a0 a3 a7 r1 r2 r3 r6; clear h)
    | (go_at_call 66; (with_reducible refine (C5.out _ hd4).mono ?_); rintro e w5 ⟨rfl, hd⟩; have hd5 := hd4.trans hd; clear hd))
  all_goals try (go_quiet (fail); go_wp2)
  all_goals try (go_quiet (fail); go_wp2)
  all_goals first
    | (go_ret; refine ⟨ret_int ?_, by first | exact hd1 | exact hd2 | exact hd3 | exact hd4 | exact hd5⟩; rw [HV.out]; simp_all; done)
    | skip
  all_goals
    have q : (kind == 4) = false ∨ (kind = 4 ∧ (rlast == 1) = false) ∨ (kind = 4 ∧ rlast = 1 ∧ decide (0 < pivot) = false) ∨ (kind = 4 ∧ rlast = 1 ∧ decide (0 < pivot) = true ∧ decide (pivot ≤ rstep) = false) ∨ (kind = 4 ∧ rlast = 1 ∧ decide (0 < pivot) = true ∧ decide (pivot ≤ rstep) = true) := by
      simp only [beq_eq_false_iff_ne, decide_eq_false_iff_not, decide_eq_true_eq, ne_eq]
      omega
    rcases q with q | ⟨rfl, q⟩ | ⟨rfl, rfl, q⟩ | ⟨rfl, rfl, q1, q2⟩ | ⟨rfl, rfl, q1, q2⟩
  all_goals
    go_quiet (fail)
    have hd5 := hd4.step nq
    go_wp2_with (go_at_call 66; (with_reducible refine (C5.out _ hd5).mono ?_); rintro e w6 ⟨rfl, hd⟩; have hd6 := hd5.trans hd; clear hd)
  all_goals go_ret
  all_goals refine ⟨ret_int ?_, by first | exact hd6 | exact hd5⟩
  all_goals (rw [HV.out]; (try simp at q q1 q2); (try simp at q1 q2); (try simp at q); simp_all <;> omega)
end Go.Proofs.YtfbaliimjmimhaaDoor
namespace Go.Proofs.YtfbaliimjmimhaaDoor
open Go.RowKit

structure RecD where
  v : Int
  kind : Int
  saga : Int
  step : Int
  try_ : Int
  at_ : Int
  last : Int
  code : Int
  count : Int
  pivot : Int
  name : ByteArray
  data : List Int
structure SagaD where
  id : Int
  name : ByteArray
  count : Int
  pivot : Int
  begun : Int
  at_ : Int
  input : List Int
  phase : Int
  next : Int
  flight : Bool
  tries : Int
  outs : List (List Int)
  undos : List (List Int)
  failStep : Int
  failCode : Int
  fail : List Int

@[reducible] def RecD.words (R : RecD) (d : Sl) : RecV := ⟨R.v, R.kind, R.saga, R.step, R.try_, R.at_, R.last, R.code, R.count, R.pivot, R.name, d⟩
@[reducible] def SagaD.words (D : SagaD) (i o u f : Sl) : SagaV := ⟨D.id, D.name, D.count, D.pivot, D.begun, D.at_, i, D.phase, D.next, D.flight, D.tries, o, u, D.failStep, D.failCode, f⟩
@[reducible] def SagaD.held (D : SagaD) : Held := ⟨D.input, D.outs, D.undos, D.fail⟩

/-- A record's words read as such data. -/
structure RecRd (w : World) (r : RecV) (R : RecD) : Prop where
  eq : r = R.words r.data
  data : BytesAt w r.data R.data
theorem RecRd.below {w w' : World} {r : RecV} {R : RecD} (h : RecRd w r R) (hb : Below w.heap.size w w') : RecRd w' r R := ⟨h.eq, h.data.below hb⟩
structure SagaRd (w : World) (s : SagaV) (D : SagaD) : Prop where
  eq : s = D.words s.input s.outs s.undos s.fail
  held : HeldAt w s D.held
theorem SagaRd.below {w w' : World} {s : SagaV} {D : SagaD} (h : SagaRd w s D) (hb : Below w.heap.size w w') : SagaRd w' s D := ⟨h.eq, h.held.below hb⟩
/-- The same, the lists in blocks of one's own. -/
structure SagaOwn (w : World) (base : Nat) (s : SagaV) (D : SagaD) : Prop where
  eq : s = D.words s.input s.outs s.undos s.fail
  held : OwnHeld w base s D.held
theorem SagaOwn.through {w w' : World} {b : Nat} {s : SagaV} {D : SagaD} (h : SagaOwn w b s D) (hb : Below w.heap.size w w') : SagaOwn w' b s D :=
  ⟨h.eq, h.held.input.through hb, h.held.outs.through hb, h.held.undos.through hb, h.held.fail.through hb, h.held.apart⟩
theorem SagaOwn.lower {w : World} {b c : Nat} {s : SagaV} {D : SagaD} (h : SagaOwn w b s D) (hb : c ≤ b) : SagaOwn w c s D :=
  ⟨h.eq, h.held.input.lower hb, h.held.outs.lower hb, h.held.undos.lower hb, h.held.fail.lower hb, h.held.apart⟩
theorem SagaOwn.set {w : World} {base : Nat} {s : SagaV} {D : SagaD} (h : SagaOwn w base s D) {a : Addr} {u : Value} (ha : a.block < base) : SagaOwn (w.setCell a u) base s D :=
  ⟨h.eq, h.held.input.set ha, h.held.outs.set ha, h.held.undos.set ha, h.held.fail.set ha, h.held.apart⟩

theorem slv_inj {a b : Sl} (h : a.v = b.v) : a = b := by
  obtain ⟨x, n, c⟩ := a
  obtain ⟨x', n', c'⟩ := b
  simp only [Sl.v, Value.slice.injEq] at h
  obtain ⟨rfl, rfl, rfl⟩ := h
  rfl
theorem OwnLists.lists {w : World} {b : Nat} {s : Sl} {ls : List (List Int)} (h : OwnLists w b s.v ls) (hl : ls.length ≤ 1048576) (hd : ∀ d ∈ ls, d.length ≤ 1073741824) : ListsAt w s ls := by
  obtain ⟨s', e, h'⟩ := h.at hl hd
  rw [slv_inj e]; exact h'
theorem SagaOwn.rd {w : World} {b : Nat} {s : SagaV} {D : SagaD} (h : SagaOwn w b s D) (k : D.held.Small) : SagaRd w s D :=
  ⟨h.eq, h.held.input.bytes (by have := k.input; omega), h.held.outs.lists k.outs k.outs2, h.held.undos.lists k.undos k.undos2, h.held.fail.bytes (by have := k.fail; omega)⟩

def lenSl (d : List Int) : Sl := ⟨none, d.length, 0⟩
def checkD (D : SagaD) : Int := checkN (D.words (lenSl D.input) ⟨none, D.outs.length, 0⟩ ⟨none, D.undos.length, 0⟩ (lenSl D.fail)) (D.outs.map lenSl) (D.undos.map lenSl)
def recD (R : RecD) : Int := recN (R.words (lenSl R.data)) R.data

theorem smallB_of {vs us : List Sl} (h : vs.map Sl.n = us.map Sl.n) : smallB vs = smallB us := by
  have key : ∀ l : List Sl, l.any bigOne = (l.map Sl.n).any (fun n => decide (16384 < n)) := fun l => by rw [List.any_map]; rfl
  unfold smallB
  rw [key, key, h]
/-- The lists of a saga as they stand. -/
theorem SagaRd.parts {w : World} {s : SagaV} {D : SagaD} (h : SagaRd w s D) : ∃ os us : List Sl, RowAt w s.outs (os.map Sl.v) ∧ RowAt w s.undos (us.map Sl.v) ∧ checkN s os us = checkD D := by
  obtain ⟨he, hi, ⟨os, o1, o2, o3⟩, ⟨us, u1, u2, u3⟩, hf⟩ := h
  refine ⟨os, us, o1, u1, ?_⟩
  have e1 : os.map Sl.n = (D.outs.map lenSl).map Sl.n := by
    refine List.ext_getElem (by simpa using o2) fun i a b => ?_
    simp only [List.getElem_map]
    exact (o3 i (by simpa using a) (by simpa using b)).len
  have e2 : us.map Sl.n = (D.undos.map lenSl).map Sl.n := by
    refine List.ext_getElem (by simpa using u2) fun i a b => ?_
    simp only [List.getElem_map]
    exact (u3 i (by simpa using a) (by simpa using b)).len
  have l1 := hi.len
  have l2 := hf.len
  have l3 : s.outs.n = D.outs.length := by have := o1.len; rw [this]; simpa using o2
  have l4 : s.undos.n = D.undos.length := by have := u1.len; rw [this]; simpa using u2
  have e3 : smallB [s.input, s.fail] = smallB [lenSl D.input, lenSl D.fail] := smallB_of (by simp [lenSl, l1, l2])
  unfold checkD checkN fitB plainB
  rw [he] at *
  simp only at l1 l2 l3 l4 e3 ⊢
  rw [smallB_of e1, smallB_of e2, e3]
  have e4 : ∀ (i o u f i' o' u' f' : Sl), o.n = o'.n → u.n = u'.n → f.n = f'.n → forwardB (D.words i o u f) = forwardB (D.words i' o' u' f') ∧ backB (D.words i o u f) = backB (D.words i' o' u' f') ∧ plainNum (D.words i o u f) = plainNum (D.words i' o' u' f') := by
    intro i o u f i' o' u' f' ho hu hf
    unfold forwardB backB plainNum
    simp only [ho, hu, hf, and_self]
  obtain ⟨q1, q2, q3⟩ := e4 s.input s.outs s.undos s.fail (lenSl D.input) ⟨none, D.outs.length, 0⟩ ⟨none, D.undos.length, 0⟩ (lenSl D.fail) l3 l4 l2
  rw [q1, q2, q3]
theorem boundsN_of {r r' : RecV} {d : List Int} (h : r' = { r with data := r'.data }) (hn : r'.data.n = r.data.n) (tag : Nat) : boundsN r' d tag = boundsN r d tag := by
  unfold boundsN
  rw [h] at *
  simp only at hn ⊢
  rw [hn]
theorem zeroB_of {r r' : RecV} (h : r' = { r with data := r'.data }) (hn : r'.data.n = r.data.n) (tag : Nat) : zeroB r' tag = zeroB r tag := by
  unfold zeroB
  have e : numberN r' tag = numberN r tag := by rw [h]; rfl
  rw [e, hn, h]
theorem recN_of {r r' : RecV} {d : List Int} (h : r' = { r with data := r'.data }) (hn : r'.data.n = r.data.n) : recN r' d = recN r d := by
  have e : ∀ T tag, tagErr r' d T tag = tagErr r d T tag := fun T tag => by unfold tagErr; rw [boundsN_of h hn, zeroB_of h hn]
  have e2 : ∀ T f tag, recFrom r' d T f tag = recFrom r d T f tag := by
    intro T f
    induction f with
    | zero => intro tag; rfl
    | succ f ih => intro tag; rw [recFrom, recFrom, e, ih]
  unfold recN
  simp only [e2]
  rw [h]
theorem RecRd.recEq {w : World} {r : RecV} {R : RecD} (h : RecRd w r R) : recN r R.data = recD R := by
  unfold recD
  refine recN_of ?_ (by simpa [lenSl] using h.data.len)
  exact h.eq

/-- The record as one of version 3. -/
def up3 (R : RecD) : RecD :=
  if R.v = 1 then
    (if R.kind = 1 then { R with v := 3, name := strOfNums R.data, data := [], count := R.step, step := 0 }
     else if R.kind = 2 ∨ R.kind = 5 then { R with v := 3, try_ := 1 }
     else if R.kind = 4 then { R with v := 3, last := 1 } else { R with v := 3 })
  else { R with v := 3 }
theorem up3_kind (R : RecD) : (up3 R).kind = R.kind := by unfold up3; split; split; rfl; split; rfl; split; rfl; rfl; rfl
theorem up3_saga (R : RecD) : (up3 R).saga = R.saga := by unfold up3; split; split; rfl; split; rfl; split; rfl; rfl; rfl
theorem up3_v (R : RecD) : (up3 R).v = 3 := by unfold up3; split; split; rfl; split; rfl; split; rfl; rfl; rfl
theorem up3_at (R : RecD) : (up3 R).at_ = R.at_ := by unfold up3; split; split; rfl; split; rfl; split; rfl; rfl; rfl
theorem up3_3 {R : RecD} (h : R.v = 3) : up3 R = R := by
  unfold up3
  rw [if_neg (by omega)]
  cases R
  simp only at h
  subst h
  rfl
/-- What finish makes of a record's words. -/
theorem finish_rd {w : World} {b : Nat} {s : Sl} {R : RecD} (ho : OwnBytes w b s.v R.data) : ∃ t : Sl, finish (R.words s) R.data = (up3 R).words t ∧ OwnBytes w b t.v (up3 R).data := by
  unfold finish up3 fillV
  simp only
  split
  · split
    · exact ⟨⟨none, 0, 0⟩, rfl, World.ownsRow_nil _ _ _ _⟩
    · split
      · exact ⟨s, rfl, ho⟩
      · split
        · exact ⟨s, rfl, ho⟩
        · exact ⟨s, rfl, ho⟩
  · exact ⟨s, rfl, ho⟩
end Go.Proofs.YtfbaliimjmimhaaDoor
namespace Go.Proofs.YtfbaliimjmimhaaDoor
open Go.RowKit

theorem smallB_iff (ls : List (List Int)) : smallB (ls.map lenSl) = true ↔ ∀ d ∈ ls, d.length ≤ 16384 := by
  unfold smallB
  rw [Bool.not_eq_true', ← Bool.not_eq_true, List.any_eq_true]
  constructor
  · intro h d hd
    rcases Nat.lt_or_ge 16384 d.length with h1 | h1
    · exact absurd ⟨lenSl d, List.mem_map_of_mem hd, by simp [bigOne, lenSl, h1]⟩ h
    · exact h1
  · rintro h ⟨x, hx, hb⟩
    obtain ⟨d, hd, rfl⟩ := List.mem_map.1 hx
    have := h d hd
    have hb' : 16384 < d.length := of_decide_eq_true hb
    omega

structure PlainD (D : SagaD) : Prop where
  id : 1 ≤ D.id
  name : (nameA D.name).1 = 0
  count1 : 1 ≤ D.count
  count32 : D.count ≤ 32
  pivot0 : 0 ≤ D.pivot
  pivot : D.pivot ≤ D.count
  begun : 0 ≤ D.begun
  at0 : 0 ≤ D.at_
  phase1 : 1 ≤ D.phase
  phase4 : D.phase ≤ 4
  tries0 : 0 ≤ D.tries
  tries1000 : D.tries ≤ 1000
  flight : D.flight = true → D.tries ≠ 0
  input : D.input.length ≤ 16384
  fail : D.fail.length ≤ 16384
  outs : ∀ d ∈ D.outs, d.length ≤ 16384
  undos : ∀ d ∈ D.undos, d.length ≤ 16384
structure ForwardD (D : SagaD) : Prop where
  undos : D.undos = []
  failStep : D.failStep = 0
  failCode : D.failCode = 0
  fail : D.fail = []
  next0 : 0 ≤ D.next
  next : D.next ≤ D.count
  outs : (D.outs.length : Int) = D.next
  whole : D.phase = 3 → D.next = D.count
  full : D.next = D.count → D.tries = 0
  start : D.next ≠ D.count → (D.next > 0 ∨ D.tries > 0 ∨ D.at_ = D.begun)
structure BackD (D : SagaD) : Prop where
  failStep : D.failStep = D.outs.length
  count : D.failStep < D.count
  pivot : D.pivot > 0 → D.failStep < D.pivot
  next0 : 0 ≤ D.next
  next : D.next ≤ D.failStep
  undos : (D.undos.length : Int) = D.failStep - D.next
  undone : D.phase = 4 → D.next = 0
  none : D.next > 0 ∨ D.tries = 0
/-- A saga that may be. -/
structure GoodD (D : SagaD) : Prop where
  plain : PlainD D
  fw : D.phase = 1 ∨ D.phase = 3 → ForwardD D
  bk : ¬ (D.phase = 1 ∨ D.phase = 3) → BackD D

theorem plainB_iff (D : SagaD) (o u : Sl) : plainB (D.words (lenSl D.input) o u (lenSl D.fail)) (D.outs.map lenSl) (D.undos.map lenSl) = true ↔ PlainD D := by
  have e : [lenSl D.input, lenSl D.fail] = [D.input, D.fail].map lenSl := rfl
  unfold plainB plainNum
  simp only [e, Bool.and_eq_true, smallB_iff, decide_eq_true_eq, List.mem_cons, List.not_mem_nil, or_false, forall_eq_or_imp, forall_eq]
  constructor
  · rintro ⟨⟨a1, a2, a3, a4, a5, a6, a7, a8, a9, a10, a11, a12, a13⟩, ⟨a14, a15⟩, a16, a17⟩
    exact ⟨a1, a2, a3, a4, a5, a6, a7, a8, a9, a10, a11, a12, a13, a14, a15, a16, a17⟩
  · rintro ⟨a1, a2, a3, a4, a5, a6, a7, a8, a9, a10, a11, a12, a13, a14, a15, a16, a17⟩
    exact ⟨⟨a1, a2, a3, a4, a5, a6, a7, a8, a9, a10, a11, a12, a13⟩, ⟨a14, a15⟩, a16, a17⟩
theorem forwardB_iff (D : SagaD) (i : Sl) : forwardB (D.words i ⟨none, D.outs.length, 0⟩ ⟨none, D.undos.length, 0⟩ (lenSl D.fail)) = true ↔ ForwardD D := by
  unfold forwardB lenSl
  simp only [decide_eq_true_eq, List.length_eq_zero_iff]
  constructor
  · rintro ⟨a1, a2, a3, a4, a5, a6, a7, a8, a9, a10⟩
    exact ⟨a1, a2, a3, a4, a5, a6, a7, a8, a9, a10⟩
  · rintro ⟨a1, a2, a3, a4, a5, a6, a7, a8, a9, a10⟩
    exact ⟨a1, a2, a3, a4, a5, a6, a7, a8, a9, a10⟩
theorem backB_iff (D : SagaD) (i f : Sl) : backB (D.words i ⟨none, D.outs.length, 0⟩ ⟨none, D.undos.length, 0⟩ f) = true ↔ BackD D := by
  unfold backB
  simp only [decide_eq_true_eq]
  constructor
  · rintro ⟨a1, a2, a3, a4, a5, a6, a7, a8⟩
    exact ⟨a1, a2, a3, a4, a5, a6, a7, a8⟩
  · rintro ⟨a1, a2, a3, a4, a5, a6, a7, a8⟩
    exact ⟨a1, a2, a3, a4, a5, a6, a7, a8⟩
theorem checkD_iff (D : SagaD) : checkD D = 0 ↔ GoodD D := by
  have e : checkD D = 0 ↔ fitB (D.words (lenSl D.input) ⟨none, D.outs.length, 0⟩ ⟨none, D.undos.length, 0⟩ (lenSl D.fail)) (D.outs.map lenSl) (D.undos.map lenSl) = true := by
    unfold checkD checkN
    split
    · next h => simp [h]
    · next h => simp [h]
  rw [e]
  unfold fitB
  rw [Bool.and_eq_true, plainB_iff]
  by_cases h : D.phase = 1 ∨ D.phase = 3
  · rw [if_pos h, forwardB_iff]
    exact ⟨fun ⟨a, b⟩ => ⟨a, fun _ => b, fun k => absurd h k⟩, fun a => ⟨a.plain, a.fw h⟩⟩
  · rw [if_neg h, backB_iff]
    exact ⟨fun ⟨a, b⟩ => ⟨a, fun k => absurd k h, fun _ => b⟩, fun a => ⟨a.plain, a.bk h⟩⟩
theorem checkD_or (D : SagaD) : checkD D = 0 ∨ checkD D = 100 := by
  unfold checkD checkN
  split
  · exact .inl rfl
  · exact .inr rfl
theorem GoodD.small {D : SagaD} (h : GoodD D) : D.held.Small := by
  have hp := h.plain
  have ho : D.outs.length ≤ 1048576 := by
    by_cases k : D.phase = 1 ∨ D.phase = 3
    · have := (h.fw k).outs; have := (h.fw k).next; have := hp.count32; omega
    · have := (h.bk k).failStep; have := (h.bk k).count; have := hp.count32; omega
  have hu : D.undos.length ≤ 1048576 := by
    by_cases k : D.phase = 1 ∨ D.phase = 3
    · rw [(h.fw k).undos]; simp
    · have := (h.bk k).undos; have := (h.bk k).next; have := (h.bk k).next0; have := (h.bk k).count; have := hp.count32; omega
  exact ⟨by have := hp.input; simp only; omega, ho, fun d hd => by have := hp.outs d hd; omega, hu, fun d hd => by have := hp.undos d hd; omega, by have := hp.fail; simp only; omega⟩
end Go.Proofs.YtfbaliimjmimhaaDoor
namespace Go.Proofs.YtfbaliimjmimhaaDoor
open Go.RowKit

/-- A valid record of version 3. -/
structure RecGood (X : RecD) : Prop where
  kind1 : 1 ≤ X.kind
  kind7 : X.kind ≤ 7
  saga : 1 ≤ X.saga
  at0 : 0 ≤ X.at_
  data : X.data.length ≤ 16384
  begun : X.kind = 1 → 1 ≤ X.count ∧ X.count ≤ 32 ∧ 0 ≤ X.pivot ∧ X.pivot ≤ X.count ∧ (nameA X.name).1 = 0
  step : 2 ≤ X.kind → X.kind ≤ 6 → 0 ≤ X.step ∧ X.step ≤ 31
  try_ : X.kind = 2 ∨ X.kind = 5 → 1 ≤ X.try_ ∧ X.try_ ≤ 1000
  last : X.kind = 4 → 0 ≤ X.last ∧ X.last ≤ 1
  code : X.kind = 7 → 0 ≤ X.code ∧ X.code ≤ 2

theorem tag_stands {r : RecV} {d : List Int} {T j : Nat} (h : tagErr r d T j = 0) (hs : standsB T j = true) : boundsN r d j = 0 := by
  unfold tagErr at h; rwa [if_pos hs] at h
theorem tag_zero {r : RecV} {d : List Int} {T j : Nat} (h : tagErr r d T j = 0) (hs : standsB T j = false) : zeroB r j = true := by
  unfold tagErr at h
  rw [if_neg (by simp [hs])] at h
  split at h
  · assumption
  · cases h
theorem within_0 {n lo hi : Int} (h : withinN n lo hi = 0) : lo ≤ n ∧ n ≤ hi := by
  unfold withinN at h
  split at h
  · cases h
  · omega
theorem label_0 {s : ByteArray} (h : labelN s = 0) : (nameA s).1 = 0 := by
  unfold labelN at h
  split at h
  · assumption
  · cases h
theorem bnd3 {r : RecV} {d : List Int} (h : boundsN r d 3 = 0) : if r.v = 1 ∧ r.kind = 1 then 1 ≤ r.step ∧ r.step ≤ 32 else 0 ≤ r.step ∧ r.step ≤ 31 := by
  unfold boundsN at h
  simp only [if_true] at h
  split at h
  · next k => rw [if_pos k]; exact within_0 h
  · next k => rw [if_neg k]; exact within_0 h
theorem bnd4 {r : RecV} {d : List Int} (h : boundsN r d 4 = 0) : 1 ≤ r.try_ ∧ r.try_ ≤ 1000 := within_0 (by simpa [boundsN] using h)
theorem bnd5 {r : RecV} {d : List Int} (h : boundsN r d 5 = 0) : 0 ≤ r.at_ := (within_0 (by simpa [boundsN] using h)).1
theorem bnd6 {r : RecV} {d : List Int} (h : boundsN r d 6 = 0) : 0 ≤ r.last ∧ r.last ≤ 1 := within_0 (by simpa [boundsN] using h)
theorem bnd7 {r : RecV} {d : List Int} (h : boundsN r d 7 = 0) (hk : r.kind = 7) : 0 ≤ r.code ∧ r.code ≤ 2 := within_0 (by simpa [boundsN, hk] using h)
theorem bnd8 {r : RecV} {d : List Int} (h : boundsN r d 8 = 0) : 1 ≤ r.count ∧ r.count ≤ 32 := within_0 (by simpa [boundsN] using h)
theorem bnd9 {r : RecV} {d : List Int} (h : boundsN r d 9 = 0) : 0 ≤ r.pivot ∧ r.pivot ≤ r.count := within_0 (by simpa [boundsN] using h)
theorem bnd10 {r : RecV} {d : List Int} (h : boundsN r d 10 = 0) : (nameA r.name).1 = 0 := label_0 (by simpa [boundsN] using h)
theorem bnd11 {r : RecV} {d : List Int} (h : boundsN r d 11 = 0) : r.data.n ≤ 16384 ∧ (r.v = 1 ∧ r.kind = 1 → (nameA (strOfNums d)).1 = 0) := by
  unfold boundsN at h
  simp only [show (11 : Nat) ≠ 3 by decide, show (11 : Nat) ≠ 4 by decide, show (11 : Nat) ≠ 5 by decide, show (11 : Nat) ≠ 6 by decide, show (11 : Nat) ≠ 7 by decide, show (11 : Nat) ≠ 8 by decide, show (11 : Nat) ≠ 9 by decide, show (11 : Nat) ≠ 10 by decide, if_false] at h
  split at h
  · cases h
  · refine ⟨by omega, fun k => ?_⟩
    rw [if_pos k] at h
    exact label_0 h
theorem zer {r : RecV} {j : Nat} (h : zeroB r j = true) (h1 : j < 10) : numberN r j = 0 := by
  unfold zeroB at h
  rw [if_neg (by omega), if_neg (by omega)] at h
  simpa using h
theorem zer11 {r : RecV} (h : zeroB r 11 = true) : r.data.n = 0 := by
  unfold zeroB at h
  simp at h
  exact h

theorem rec_1_1 (R : RecD) (h : recD R = 0) (hv : R.v = 1) (hk : R.kind = 1) : RecGood (up3 R) := by
  have hs := (recN_0 h).2.2.2.2
  unfold recD at h
  rw [recN_tags (V := 0) (K := 0) hv hk (by decide) (by decide) (by simp only at hs ⊢; omega)] at h
  have hA := recFrom_all 9 3 h
  clear h
  have b3 := tag_stands (hA 3 (by decide) (by decide)) (by decide)
  have b4 := zer (tag_zero (hA 4 (by decide) (by decide)) (by decide)) (by decide)
  have b5 := zer (tag_zero (hA 5 (by decide) (by decide)) (by decide)) (by decide)
  have b6 := zer (tag_zero (hA 6 (by decide) (by decide)) (by decide)) (by decide)
  have b7 := zer (tag_zero (hA 7 (by decide) (by decide)) (by decide)) (by decide)
  have b8 := zer (tag_zero (hA 8 (by decide) (by decide)) (by decide)) (by decide)
  have b9 := zer (tag_zero (hA 9 (by decide) (by decide)) (by decide)) (by decide)
  have b11 := tag_stands (hA 11 (by decide) (by decide)) (by decide)
  clear hA
  have b3 := bnd3 b3
  have b11 := bnd11 b11
  simp only [hv, hk] at b3
  simp only [hv, hk] at b11
  obtain ⟨rv, rk, rs, rst, rt, ra, rl, rc, rn, rp, nm, dt⟩ := R
  simp only at hv hk hs
  subst hv hk
  simp only [numberN, lenSl] at *
  constructor <;> simp [up3] <;> first | omega | (refine ⟨?_, ?_, ?_, ?_, ?_⟩ <;> first | omega | simp_all; done) | (simp_all; done) | (simp_all; omega)
theorem rec_1_2 (R : RecD) (h : recD R = 0) (hv : R.v = 1) (hk : R.kind = 2) : RecGood (up3 R) := by
  have hs := (recN_0 h).2.2.2.2
  unfold recD at h
  rw [recN_tags (V := 0) (K := 1) hv hk (by decide) (by decide) (by simp only at hs ⊢; omega)] at h
  have hA := recFrom_all 9 3 h
  clear h
  have b3 := tag_stands (hA 3 (by decide) (by decide)) (by decide)
  have b4 := zer (tag_zero (hA 4 (by decide) (by decide)) (by decide)) (by decide)
  have b5 := zer (tag_zero (hA 5 (by decide) (by decide)) (by decide)) (by decide)
  have b6 := zer (tag_zero (hA 6 (by decide) (by decide)) (by decide)) (by decide)
  have b7 := zer (tag_zero (hA 7 (by decide) (by decide)) (by decide)) (by decide)
  have b8 := zer (tag_zero (hA 8 (by decide) (by decide)) (by decide)) (by decide)
  have b9 := zer (tag_zero (hA 9 (by decide) (by decide)) (by decide)) (by decide)
  have b11 := zer11 (tag_zero (hA 11 (by decide) (by decide)) (by decide))
  clear hA
  have b3 := bnd3 b3
  simp only [hv, hk] at b3
  obtain ⟨rv, rk, rs, rst, rt, ra, rl, rc, rn, rp, nm, dt⟩ := R
  simp only at hv hk hs
  subst hv hk
  simp only [numberN, lenSl] at *
  constructor <;> simp [up3] <;> first | omega | (refine ⟨?_, ?_, ?_, ?_, ?_⟩ <;> first | omega | simp_all; done) | (simp_all; done) | (simp_all; omega)
theorem rec_1_3 (R : RecD) (h : recD R = 0) (hv : R.v = 1) (hk : R.kind = 3) : RecGood (up3 R) := by
  have hs := (recN_0 h).2.2.2.2
  unfold recD at h
  rw [recN_tags (V := 0) (K := 2) hv hk (by decide) (by decide) (by simp only at hs ⊢; omega)] at h
  have hA := recFrom_all 9 3 h
  clear h
  have b3 := tag_stands (hA 3 (by decide) (by decide)) (by decide)
  have b4 := zer (tag_zero (hA 4 (by decide) (by decide)) (by decide)) (by decide)
  have b5 := zer (tag_zero (hA 5 (by decide) (by decide)) (by decide)) (by decide)
  have b6 := zer (tag_zero (hA 6 (by decide) (by decide)) (by decide)) (by decide)
  have b7 := zer (tag_zero (hA 7 (by decide) (by decide)) (by decide)) (by decide)
  have b8 := zer (tag_zero (hA 8 (by decide) (by decide)) (by decide)) (by decide)
  have b9 := zer (tag_zero (hA 9 (by decide) (by decide)) (by decide)) (by decide)
  have b11 := tag_stands (hA 11 (by decide) (by decide)) (by decide)
  clear hA
  have b3 := bnd3 b3
  have b11 := bnd11 b11
  simp only [hv, hk] at b3
  simp only [hv, hk] at b11
  obtain ⟨rv, rk, rs, rst, rt, ra, rl, rc, rn, rp, nm, dt⟩ := R
  simp only at hv hk hs
  subst hv hk
  simp only [numberN, lenSl] at *
  constructor <;> simp [up3] <;> first | omega | (refine ⟨?_, ?_, ?_, ?_, ?_⟩ <;> first | omega | simp_all; done) | (simp_all; done) | (simp_all; omega)
theorem rec_1_4 (R : RecD) (h : recD R = 0) (hv : R.v = 1) (hk : R.kind = 4) : RecGood (up3 R) := by
  have hs := (recN_0 h).2.2.2.2
  unfold recD at h
  rw [recN_tags (V := 0) (K := 3) hv hk (by decide) (by decide) (by simp only at hs ⊢; omega)] at h
  have hA := recFrom_all 9 3 h
  clear h
  have b3 := tag_stands (hA 3 (by decide) (by decide)) (by decide)
  have b4 := zer (tag_zero (hA 4 (by decide) (by decide)) (by decide)) (by decide)
  have b5 := zer (tag_zero (hA 5 (by decide) (by decide)) (by decide)) (by decide)
  have b6 := zer (tag_zero (hA 6 (by decide) (by decide)) (by decide)) (by decide)
  have b7 := zer (tag_zero (hA 7 (by decide) (by decide)) (by decide)) (by decide)
  have b8 := zer (tag_zero (hA 8 (by decide) (by decide)) (by decide)) (by decide)
  have b9 := zer (tag_zero (hA 9 (by decide) (by decide)) (by decide)) (by decide)
  have b11 := tag_stands (hA 11 (by decide) (by decide)) (by decide)
  clear hA
  have b3 := bnd3 b3
  have b11 := bnd11 b11
  simp only [hv, hk] at b3
  simp only [hv, hk] at b11
  obtain ⟨rv, rk, rs, rst, rt, ra, rl, rc, rn, rp, nm, dt⟩ := R
  simp only at hv hk hs
  subst hv hk
  simp only [numberN, lenSl] at *
  constructor <;> simp [up3] <;> first | omega | (refine ⟨?_, ?_, ?_, ?_, ?_⟩ <;> first | omega | simp_all; done) | (simp_all; done) | (simp_all; omega)
theorem rec_1_5 (R : RecD) (h : recD R = 0) (hv : R.v = 1) (hk : R.kind = 5) : RecGood (up3 R) := by
  have hs := (recN_0 h).2.2.2.2
  unfold recD at h
  rw [recN_tags (V := 0) (K := 4) hv hk (by decide) (by decide) (by simp only at hs ⊢; omega)] at h
  have hA := recFrom_all 9 3 h
  clear h
  have b3 := tag_stands (hA 3 (by decide) (by decide)) (by decide)
  have b4 := zer (tag_zero (hA 4 (by decide) (by decide)) (by decide)) (by decide)
  have b5 := zer (tag_zero (hA 5 (by decide) (by decide)) (by decide)) (by decide)
  have b6 := zer (tag_zero (hA 6 (by decide) (by decide)) (by decide)) (by decide)
  have b7 := zer (tag_zero (hA 7 (by decide) (by decide)) (by decide)) (by decide)
  have b8 := zer (tag_zero (hA 8 (by decide) (by decide)) (by decide)) (by decide)
  have b9 := zer (tag_zero (hA 9 (by decide) (by decide)) (by decide)) (by decide)
  have b11 := zer11 (tag_zero (hA 11 (by decide) (by decide)) (by decide))
  clear hA
  have b3 := bnd3 b3
  simp only [hv, hk] at b3
  obtain ⟨rv, rk, rs, rst, rt, ra, rl, rc, rn, rp, nm, dt⟩ := R
  simp only at hv hk hs
  subst hv hk
  simp only [numberN, lenSl] at *
  constructor <;> simp [up3] <;> first | omega | (refine ⟨?_, ?_, ?_, ?_, ?_⟩ <;> first | omega | simp_all; done) | (simp_all; done) | (simp_all; omega)
theorem rec_1_6 (R : RecD) (h : recD R = 0) (hv : R.v = 1) (hk : R.kind = 6) : RecGood (up3 R) := by
  have hs := (recN_0 h).2.2.2.2
  unfold recD at h
  rw [recN_tags (V := 0) (K := 5) hv hk (by decide) (by decide) (by simp only at hs ⊢; omega)] at h
  have hA := recFrom_all 9 3 h
  clear h
  have b3 := tag_stands (hA 3 (by decide) (by decide)) (by decide)
  have b4 := zer (tag_zero (hA 4 (by decide) (by decide)) (by decide)) (by decide)
  have b5 := zer (tag_zero (hA 5 (by decide) (by decide)) (by decide)) (by decide)
  have b6 := zer (tag_zero (hA 6 (by decide) (by decide)) (by decide)) (by decide)
  have b7 := zer (tag_zero (hA 7 (by decide) (by decide)) (by decide)) (by decide)
  have b8 := zer (tag_zero (hA 8 (by decide) (by decide)) (by decide)) (by decide)
  have b9 := zer (tag_zero (hA 9 (by decide) (by decide)) (by decide)) (by decide)
  have b11 := tag_stands (hA 11 (by decide) (by decide)) (by decide)
  clear hA
  have b3 := bnd3 b3
  have b11 := bnd11 b11
  simp only [hv, hk] at b3
  simp only [hv, hk] at b11
  obtain ⟨rv, rk, rs, rst, rt, ra, rl, rc, rn, rp, nm, dt⟩ := R
  simp only at hv hk hs
  subst hv hk
  simp only [numberN, lenSl] at *
  constructor <;> simp [up3] <;> first | omega | (refine ⟨?_, ?_, ?_, ?_, ?_⟩ <;> first | omega | simp_all; done) | (simp_all; done) | (simp_all; omega)
theorem rec_1_7 (R : RecD) (h : recD R = 0) (hv : R.v = 1) (hk : R.kind = 7) : RecGood (up3 R) := by
  have hs := (recN_0 h).2.2.2.2
  unfold recD at h
  rw [recN_tags (V := 0) (K := 6) hv hk (by decide) (by decide) (by simp only at hs ⊢; omega)] at h
  have hA := recFrom_all 9 3 h
  clear h
  have b3 := zer (tag_zero (hA 3 (by decide) (by decide)) (by decide)) (by decide)
  have b4 := zer (tag_zero (hA 4 (by decide) (by decide)) (by decide)) (by decide)
  have b5 := zer (tag_zero (hA 5 (by decide) (by decide)) (by decide)) (by decide)
  have b6 := zer (tag_zero (hA 6 (by decide) (by decide)) (by decide)) (by decide)
  have b7 := zer (tag_zero (hA 7 (by decide) (by decide)) (by decide)) (by decide)
  have b8 := zer (tag_zero (hA 8 (by decide) (by decide)) (by decide)) (by decide)
  have b9 := zer (tag_zero (hA 9 (by decide) (by decide)) (by decide)) (by decide)
  have b11 := zer11 (tag_zero (hA 11 (by decide) (by decide)) (by decide))
  clear hA
  obtain ⟨rv, rk, rs, rst, rt, ra, rl, rc, rn, rp, nm, dt⟩ := R
  simp only at hv hk hs
  subst hv hk
  simp only [numberN, lenSl] at *
  constructor <;> simp [up3] <;> first | omega | (refine ⟨?_, ?_, ?_, ?_, ?_⟩ <;> first | omega | simp_all; done) | (simp_all; done) | (simp_all; omega)
theorem rec_2_1 (R : RecD) (h : recD R = 0) (hv : R.v = 2) (hk : R.kind = 1) : RecGood (up3 R) := by
  have hs := (recN_0 h).2.2.2.2
  unfold recD at h
  rw [recN_tags (V := 1) (K := 0) hv hk (by decide) (by decide) (by simp only at hs ⊢; omega)] at h
  have hA := recFrom_all 9 3 h
  clear h
  have b3 := zer (tag_zero (hA 3 (by decide) (by decide)) (by decide)) (by decide)
  have b4 := zer (tag_zero (hA 4 (by decide) (by decide)) (by decide)) (by decide)
  have b5 := tag_stands (hA 5 (by decide) (by decide)) (by decide)
  have b6 := zer (tag_zero (hA 6 (by decide) (by decide)) (by decide)) (by decide)
  have b7 := zer (tag_zero (hA 7 (by decide) (by decide)) (by decide)) (by decide)
  have b8 := tag_stands (hA 8 (by decide) (by decide)) (by decide)
  have b9 := zer (tag_zero (hA 9 (by decide) (by decide)) (by decide)) (by decide)
  have b10 := tag_stands (hA 10 (by decide) (by decide)) (by decide)
  have b11 := tag_stands (hA 11 (by decide) (by decide)) (by decide)
  clear hA
  have b5 := bnd5 b5
  have b8 := bnd8 b8
  have b10 := bnd10 b10
  have b11 := bnd11 b11
  simp only [hv, hk] at b11
  obtain ⟨rv, rk, rs, rst, rt, ra, rl, rc, rn, rp, nm, dt⟩ := R
  simp only at hv hk hs
  subst hv hk
  simp only [numberN, lenSl] at *
  constructor <;> simp [up3] <;> first | omega | (refine ⟨?_, ?_, ?_, ?_, ?_⟩ <;> first | omega | simp_all; done) | (simp_all; done) | (simp_all; omega)
theorem rec_2_2 (R : RecD) (h : recD R = 0) (hv : R.v = 2) (hk : R.kind = 2) : RecGood (up3 R) := by
  have hs := (recN_0 h).2.2.2.2
  unfold recD at h
  rw [recN_tags (V := 1) (K := 1) hv hk (by decide) (by decide) (by simp only at hs ⊢; omega)] at h
  have hA := recFrom_all 9 3 h
  clear h
  have b3 := tag_stands (hA 3 (by decide) (by decide)) (by decide)
  have b4 := tag_stands (hA 4 (by decide) (by decide)) (by decide)
  have b5 := tag_stands (hA 5 (by decide) (by decide)) (by decide)
  have b6 := zer (tag_zero (hA 6 (by decide) (by decide)) (by decide)) (by decide)
  have b7 := zer (tag_zero (hA 7 (by decide) (by decide)) (by decide)) (by decide)
  have b8 := zer (tag_zero (hA 8 (by decide) (by decide)) (by decide)) (by decide)
  have b9 := zer (tag_zero (hA 9 (by decide) (by decide)) (by decide)) (by decide)
  have b11 := zer11 (tag_zero (hA 11 (by decide) (by decide)) (by decide))
  clear hA
  have b3 := bnd3 b3
  have b4 := bnd4 b4
  have b5 := bnd5 b5
  simp only [hv, hk] at b3
  obtain ⟨rv, rk, rs, rst, rt, ra, rl, rc, rn, rp, nm, dt⟩ := R
  simp only at hv hk hs
  subst hv hk
  simp only [numberN, lenSl] at *
  constructor <;> simp [up3] <;> first | omega | (refine ⟨?_, ?_, ?_, ?_, ?_⟩ <;> first | omega | simp_all; done) | (simp_all; done) | (simp_all; omega)
theorem rec_2_3 (R : RecD) (h : recD R = 0) (hv : R.v = 2) (hk : R.kind = 3) : RecGood (up3 R) := by
  have hs := (recN_0 h).2.2.2.2
  unfold recD at h
  rw [recN_tags (V := 1) (K := 2) hv hk (by decide) (by decide) (by simp only at hs ⊢; omega)] at h
  have hA := recFrom_all 9 3 h
  clear h
  have b3 := tag_stands (hA 3 (by decide) (by decide)) (by decide)
  have b4 := zer (tag_zero (hA 4 (by decide) (by decide)) (by decide)) (by decide)
  have b5 := tag_stands (hA 5 (by decide) (by decide)) (by decide)
  have b6 := zer (tag_zero (hA 6 (by decide) (by decide)) (by decide)) (by decide)
  have b7 := zer (tag_zero (hA 7 (by decide) (by decide)) (by decide)) (by decide)
  have b8 := zer (tag_zero (hA 8 (by decide) (by decide)) (by decide)) (by decide)
  have b9 := zer (tag_zero (hA 9 (by decide) (by decide)) (by decide)) (by decide)
  have b11 := tag_stands (hA 11 (by decide) (by decide)) (by decide)
  clear hA
  have b3 := bnd3 b3
  have b5 := bnd5 b5
  have b11 := bnd11 b11
  simp only [hv, hk] at b3
  simp only [hv, hk] at b11
  obtain ⟨rv, rk, rs, rst, rt, ra, rl, rc, rn, rp, nm, dt⟩ := R
  simp only at hv hk hs
  subst hv hk
  simp only [numberN, lenSl] at *
  constructor <;> simp [up3] <;> first | omega | (refine ⟨?_, ?_, ?_, ?_, ?_⟩ <;> first | omega | simp_all; done) | (simp_all; done) | (simp_all; omega)
theorem rec_2_4 (R : RecD) (h : recD R = 0) (hv : R.v = 2) (hk : R.kind = 4) : RecGood (up3 R) := by
  have hs := (recN_0 h).2.2.2.2
  unfold recD at h
  rw [recN_tags (V := 1) (K := 3) hv hk (by decide) (by decide) (by simp only at hs ⊢; omega)] at h
  have hA := recFrom_all 9 3 h
  clear h
  have b3 := tag_stands (hA 3 (by decide) (by decide)) (by decide)
  have b4 := zer (tag_zero (hA 4 (by decide) (by decide)) (by decide)) (by decide)
  have b5 := tag_stands (hA 5 (by decide) (by decide)) (by decide)
  have b6 := tag_stands (hA 6 (by decide) (by decide)) (by decide)
  have b7 := zer (tag_zero (hA 7 (by decide) (by decide)) (by decide)) (by decide)
  have b8 := zer (tag_zero (hA 8 (by decide) (by decide)) (by decide)) (by decide)
  have b9 := zer (tag_zero (hA 9 (by decide) (by decide)) (by decide)) (by decide)
  have b11 := tag_stands (hA 11 (by decide) (by decide)) (by decide)
  clear hA
  have b3 := bnd3 b3
  have b5 := bnd5 b5
  have b6 := bnd6 b6
  have b11 := bnd11 b11
  simp only [hv, hk] at b3
  simp only [hv, hk] at b11
  obtain ⟨rv, rk, rs, rst, rt, ra, rl, rc, rn, rp, nm, dt⟩ := R
  simp only at hv hk hs
  subst hv hk
  simp only [numberN, lenSl] at *
  constructor <;> simp [up3] <;> first | omega | (refine ⟨?_, ?_, ?_, ?_, ?_⟩ <;> first | omega | simp_all; done) | (simp_all; done) | (simp_all; omega)
theorem rec_2_5 (R : RecD) (h : recD R = 0) (hv : R.v = 2) (hk : R.kind = 5) : RecGood (up3 R) := by
  have hs := (recN_0 h).2.2.2.2
  unfold recD at h
  rw [recN_tags (V := 1) (K := 4) hv hk (by decide) (by decide) (by simp only at hs ⊢; omega)] at h
  have hA := recFrom_all 9 3 h
  clear h
  have b3 := tag_stands (hA 3 (by decide) (by decide)) (by decide)
  have b4 := tag_stands (hA 4 (by decide) (by decide)) (by decide)
  have b5 := tag_stands (hA 5 (by decide) (by decide)) (by decide)
  have b6 := zer (tag_zero (hA 6 (by decide) (by decide)) (by decide)) (by decide)
  have b7 := zer (tag_zero (hA 7 (by decide) (by decide)) (by decide)) (by decide)
  have b8 := zer (tag_zero (hA 8 (by decide) (by decide)) (by decide)) (by decide)
  have b9 := zer (tag_zero (hA 9 (by decide) (by decide)) (by decide)) (by decide)
  have b11 := zer11 (tag_zero (hA 11 (by decide) (by decide)) (by decide))
  clear hA
  have b3 := bnd3 b3
  have b4 := bnd4 b4
  have b5 := bnd5 b5
  simp only [hv, hk] at b3
  obtain ⟨rv, rk, rs, rst, rt, ra, rl, rc, rn, rp, nm, dt⟩ := R
  simp only at hv hk hs
  subst hv hk
  simp only [numberN, lenSl] at *
  constructor <;> simp [up3] <;> first | omega | (refine ⟨?_, ?_, ?_, ?_, ?_⟩ <;> first | omega | simp_all; done) | (simp_all; done) | (simp_all; omega)
theorem rec_2_6 (R : RecD) (h : recD R = 0) (hv : R.v = 2) (hk : R.kind = 6) : RecGood (up3 R) := by
  have hs := (recN_0 h).2.2.2.2
  unfold recD at h
  rw [recN_tags (V := 1) (K := 5) hv hk (by decide) (by decide) (by simp only at hs ⊢; omega)] at h
  have hA := recFrom_all 9 3 h
  clear h
  have b3 := tag_stands (hA 3 (by decide) (by decide)) (by decide)
  have b4 := zer (tag_zero (hA 4 (by decide) (by decide)) (by decide)) (by decide)
  have b5 := tag_stands (hA 5 (by decide) (by decide)) (by decide)
  have b6 := zer (tag_zero (hA 6 (by decide) (by decide)) (by decide)) (by decide)
  have b7 := zer (tag_zero (hA 7 (by decide) (by decide)) (by decide)) (by decide)
  have b8 := zer (tag_zero (hA 8 (by decide) (by decide)) (by decide)) (by decide)
  have b9 := zer (tag_zero (hA 9 (by decide) (by decide)) (by decide)) (by decide)
  have b11 := tag_stands (hA 11 (by decide) (by decide)) (by decide)
  clear hA
  have b3 := bnd3 b3
  have b5 := bnd5 b5
  have b11 := bnd11 b11
  simp only [hv, hk] at b3
  simp only [hv, hk] at b11
  obtain ⟨rv, rk, rs, rst, rt, ra, rl, rc, rn, rp, nm, dt⟩ := R
  simp only at hv hk hs
  subst hv hk
  simp only [numberN, lenSl] at *
  constructor <;> simp [up3] <;> first | omega | (refine ⟨?_, ?_, ?_, ?_, ?_⟩ <;> first | omega | simp_all; done) | (simp_all; done) | (simp_all; omega)
theorem rec_2_7 (R : RecD) (h : recD R = 0) (hv : R.v = 2) (hk : R.kind = 7) : RecGood (up3 R) := by
  have hs := (recN_0 h).2.2.2.2
  unfold recD at h
  rw [recN_tags (V := 1) (K := 6) hv hk (by decide) (by decide) (by simp only at hs ⊢; omega)] at h
  have hA := recFrom_all 9 3 h
  clear h
  have b3 := zer (tag_zero (hA 3 (by decide) (by decide)) (by decide)) (by decide)
  have b4 := zer (tag_zero (hA 4 (by decide) (by decide)) (by decide)) (by decide)
  have b5 := tag_stands (hA 5 (by decide) (by decide)) (by decide)
  have b6 := zer (tag_zero (hA 6 (by decide) (by decide)) (by decide)) (by decide)
  have b7 := zer (tag_zero (hA 7 (by decide) (by decide)) (by decide)) (by decide)
  have b8 := zer (tag_zero (hA 8 (by decide) (by decide)) (by decide)) (by decide)
  have b9 := zer (tag_zero (hA 9 (by decide) (by decide)) (by decide)) (by decide)
  have b11 := zer11 (tag_zero (hA 11 (by decide) (by decide)) (by decide))
  clear hA
  have b5 := bnd5 b5
  obtain ⟨rv, rk, rs, rst, rt, ra, rl, rc, rn, rp, nm, dt⟩ := R
  simp only at hv hk hs
  subst hv hk
  simp only [numberN, lenSl] at *
  constructor <;> simp [up3] <;> first | omega | (refine ⟨?_, ?_, ?_, ?_, ?_⟩ <;> first | omega | simp_all; done) | (simp_all; done) | (simp_all; omega)
theorem rec_3_1 (R : RecD) (h : recD R = 0) (hv : R.v = 3) (hk : R.kind = 1) : RecGood (up3 R) := by
  have hs := (recN_0 h).2.2.2.2
  unfold recD at h
  rw [recN_tags (V := 2) (K := 0) hv hk (by decide) (by decide) (by simp only at hs ⊢; omega)] at h
  have hA := recFrom_all 9 3 h
  clear h
  have b3 := zer (tag_zero (hA 3 (by decide) (by decide)) (by decide)) (by decide)
  have b4 := zer (tag_zero (hA 4 (by decide) (by decide)) (by decide)) (by decide)
  have b5 := tag_stands (hA 5 (by decide) (by decide)) (by decide)
  have b6 := zer (tag_zero (hA 6 (by decide) (by decide)) (by decide)) (by decide)
  have b7 := zer (tag_zero (hA 7 (by decide) (by decide)) (by decide)) (by decide)
  have b8 := tag_stands (hA 8 (by decide) (by decide)) (by decide)
  have b9 := tag_stands (hA 9 (by decide) (by decide)) (by decide)
  have b10 := tag_stands (hA 10 (by decide) (by decide)) (by decide)
  have b11 := tag_stands (hA 11 (by decide) (by decide)) (by decide)
  clear hA
  have b5 := bnd5 b5
  have b8 := bnd8 b8
  have b9 := bnd9 b9
  have b10 := bnd10 b10
  have b11 := bnd11 b11
  simp only [hv, hk] at b11
  obtain ⟨rv, rk, rs, rst, rt, ra, rl, rc, rn, rp, nm, dt⟩ := R
  simp only at hv hk hs
  subst hv hk
  simp only [numberN, lenSl] at *
  constructor <;> simp [up3] <;> first | omega | (refine ⟨?_, ?_, ?_, ?_, ?_⟩ <;> first | omega | simp_all; done) | (simp_all; done) | (simp_all; omega)
theorem rec_3_2 (R : RecD) (h : recD R = 0) (hv : R.v = 3) (hk : R.kind = 2) : RecGood (up3 R) := by
  have hs := (recN_0 h).2.2.2.2
  unfold recD at h
  rw [recN_tags (V := 2) (K := 1) hv hk (by decide) (by decide) (by simp only at hs ⊢; omega)] at h
  have hA := recFrom_all 9 3 h
  clear h
  have b3 := tag_stands (hA 3 (by decide) (by decide)) (by decide)
  have b4 := tag_stands (hA 4 (by decide) (by decide)) (by decide)
  have b5 := tag_stands (hA 5 (by decide) (by decide)) (by decide)
  have b6 := zer (tag_zero (hA 6 (by decide) (by decide)) (by decide)) (by decide)
  have b7 := zer (tag_zero (hA 7 (by decide) (by decide)) (by decide)) (by decide)
  have b8 := zer (tag_zero (hA 8 (by decide) (by decide)) (by decide)) (by decide)
  have b9 := zer (tag_zero (hA 9 (by decide) (by decide)) (by decide)) (by decide)
  have b11 := zer11 (tag_zero (hA 11 (by decide) (by decide)) (by decide))
  clear hA
  have b3 := bnd3 b3
  have b4 := bnd4 b4
  have b5 := bnd5 b5
  simp only [hv, hk] at b3
  obtain ⟨rv, rk, rs, rst, rt, ra, rl, rc, rn, rp, nm, dt⟩ := R
  simp only at hv hk hs
  subst hv hk
  simp only [numberN, lenSl] at *
  constructor <;> simp [up3] <;> first | omega | (refine ⟨?_, ?_, ?_, ?_, ?_⟩ <;> first | omega | simp_all; done) | (simp_all; done) | (simp_all; omega)
theorem rec_3_3 (R : RecD) (h : recD R = 0) (hv : R.v = 3) (hk : R.kind = 3) : RecGood (up3 R) := by
  have hs := (recN_0 h).2.2.2.2
  unfold recD at h
  rw [recN_tags (V := 2) (K := 2) hv hk (by decide) (by decide) (by simp only at hs ⊢; omega)] at h
  have hA := recFrom_all 9 3 h
  clear h
  have b3 := tag_stands (hA 3 (by decide) (by decide)) (by decide)
  have b4 := zer (tag_zero (hA 4 (by decide) (by decide)) (by decide)) (by decide)
  have b5 := tag_stands (hA 5 (by decide) (by decide)) (by decide)
  have b6 := zer (tag_zero (hA 6 (by decide) (by decide)) (by decide)) (by decide)
  have b7 := zer (tag_zero (hA 7 (by decide) (by decide)) (by decide)) (by decide)
  have b8 := zer (tag_zero (hA 8 (by decide) (by decide)) (by decide)) (by decide)
  have b9 := zer (tag_zero (hA 9 (by decide) (by decide)) (by decide)) (by decide)
  have b11 := tag_stands (hA 11 (by decide) (by decide)) (by decide)
  clear hA
  have b3 := bnd3 b3
  have b5 := bnd5 b5
  have b11 := bnd11 b11
  simp only [hv, hk] at b3
  simp only [hv, hk] at b11
  obtain ⟨rv, rk, rs, rst, rt, ra, rl, rc, rn, rp, nm, dt⟩ := R
  simp only at hv hk hs
  subst hv hk
  simp only [numberN, lenSl] at *
  constructor <;> simp [up3] <;> first | omega | (refine ⟨?_, ?_, ?_, ?_, ?_⟩ <;> first | omega | simp_all; done) | (simp_all; done) | (simp_all; omega)
theorem rec_3_4 (R : RecD) (h : recD R = 0) (hv : R.v = 3) (hk : R.kind = 4) : RecGood (up3 R) := by
  have hs := (recN_0 h).2.2.2.2
  unfold recD at h
  rw [recN_tags (V := 2) (K := 3) hv hk (by decide) (by decide) (by simp only at hs ⊢; omega)] at h
  have hA := recFrom_all 9 3 h
  clear h
  have b3 := tag_stands (hA 3 (by decide) (by decide)) (by decide)
  have b4 := zer (tag_zero (hA 4 (by decide) (by decide)) (by decide)) (by decide)
  have b5 := tag_stands (hA 5 (by decide) (by decide)) (by decide)
  have b6 := tag_stands (hA 6 (by decide) (by decide)) (by decide)
  have b7 := tag_stands (hA 7 (by decide) (by decide)) (by decide)
  have b8 := zer (tag_zero (hA 8 (by decide) (by decide)) (by decide)) (by decide)
  have b9 := zer (tag_zero (hA 9 (by decide) (by decide)) (by decide)) (by decide)
  have b11 := tag_stands (hA 11 (by decide) (by decide)) (by decide)
  clear hA
  have b3 := bnd3 b3
  have b5 := bnd5 b5
  have b6 := bnd6 b6
  clear b7
  have b11 := bnd11 b11
  simp only [hv, hk] at b3
  simp only [hv, hk] at b11
  obtain ⟨rv, rk, rs, rst, rt, ra, rl, rc, rn, rp, nm, dt⟩ := R
  simp only at hv hk hs
  subst hv hk
  simp only [numberN, lenSl] at *
  constructor <;> simp [up3] <;> first | omega | (refine ⟨?_, ?_, ?_, ?_, ?_⟩ <;> first | omega | simp_all; done) | (simp_all; done) | (simp_all; omega)
theorem rec_3_5 (R : RecD) (h : recD R = 0) (hv : R.v = 3) (hk : R.kind = 5) : RecGood (up3 R) := by
  have hs := (recN_0 h).2.2.2.2
  unfold recD at h
  rw [recN_tags (V := 2) (K := 4) hv hk (by decide) (by decide) (by simp only at hs ⊢; omega)] at h
  have hA := recFrom_all 9 3 h
  clear h
  have b3 := tag_stands (hA 3 (by decide) (by decide)) (by decide)
  have b4 := tag_stands (hA 4 (by decide) (by decide)) (by decide)
  have b5 := tag_stands (hA 5 (by decide) (by decide)) (by decide)
  have b6 := zer (tag_zero (hA 6 (by decide) (by decide)) (by decide)) (by decide)
  have b7 := zer (tag_zero (hA 7 (by decide) (by decide)) (by decide)) (by decide)
  have b8 := zer (tag_zero (hA 8 (by decide) (by decide)) (by decide)) (by decide)
  have b9 := zer (tag_zero (hA 9 (by decide) (by decide)) (by decide)) (by decide)
  have b11 := zer11 (tag_zero (hA 11 (by decide) (by decide)) (by decide))
  clear hA
  have b3 := bnd3 b3
  have b4 := bnd4 b4
  have b5 := bnd5 b5
  simp only [hv, hk] at b3
  obtain ⟨rv, rk, rs, rst, rt, ra, rl, rc, rn, rp, nm, dt⟩ := R
  simp only at hv hk hs
  subst hv hk
  simp only [numberN, lenSl] at *
  constructor <;> simp [up3] <;> first | omega | (refine ⟨?_, ?_, ?_, ?_, ?_⟩ <;> first | omega | simp_all; done) | (simp_all; done) | (simp_all; omega)
theorem rec_3_6 (R : RecD) (h : recD R = 0) (hv : R.v = 3) (hk : R.kind = 6) : RecGood (up3 R) := by
  have hs := (recN_0 h).2.2.2.2
  unfold recD at h
  rw [recN_tags (V := 2) (K := 5) hv hk (by decide) (by decide) (by simp only at hs ⊢; omega)] at h
  have hA := recFrom_all 9 3 h
  clear h
  have b3 := tag_stands (hA 3 (by decide) (by decide)) (by decide)
  have b4 := zer (tag_zero (hA 4 (by decide) (by decide)) (by decide)) (by decide)
  have b5 := tag_stands (hA 5 (by decide) (by decide)) (by decide)
  have b6 := zer (tag_zero (hA 6 (by decide) (by decide)) (by decide)) (by decide)
  have b7 := zer (tag_zero (hA 7 (by decide) (by decide)) (by decide)) (by decide)
  have b8 := zer (tag_zero (hA 8 (by decide) (by decide)) (by decide)) (by decide)
  have b9 := zer (tag_zero (hA 9 (by decide) (by decide)) (by decide)) (by decide)
  have b11 := tag_stands (hA 11 (by decide) (by decide)) (by decide)
  clear hA
  have b3 := bnd3 b3
  have b5 := bnd5 b5
  have b11 := bnd11 b11
  simp only [hv, hk] at b3
  simp only [hv, hk] at b11
  obtain ⟨rv, rk, rs, rst, rt, ra, rl, rc, rn, rp, nm, dt⟩ := R
  simp only at hv hk hs
  subst hv hk
  simp only [numberN, lenSl] at *
  constructor <;> simp [up3] <;> first | omega | (refine ⟨?_, ?_, ?_, ?_, ?_⟩ <;> first | omega | simp_all; done) | (simp_all; done) | (simp_all; omega)
theorem rec_3_7 (R : RecD) (h : recD R = 0) (hv : R.v = 3) (hk : R.kind = 7) : RecGood (up3 R) := by
  have hs := (recN_0 h).2.2.2.2
  unfold recD at h
  rw [recN_tags (V := 2) (K := 6) hv hk (by decide) (by decide) (by simp only at hs ⊢; omega)] at h
  have hA := recFrom_all 9 3 h
  clear h
  have b3 := zer (tag_zero (hA 3 (by decide) (by decide)) (by decide)) (by decide)
  have b4 := zer (tag_zero (hA 4 (by decide) (by decide)) (by decide)) (by decide)
  have b5 := tag_stands (hA 5 (by decide) (by decide)) (by decide)
  have b6 := zer (tag_zero (hA 6 (by decide) (by decide)) (by decide)) (by decide)
  have b7 := tag_stands (hA 7 (by decide) (by decide)) (by decide)
  have b8 := zer (tag_zero (hA 8 (by decide) (by decide)) (by decide)) (by decide)
  have b9 := zer (tag_zero (hA 9 (by decide) (by decide)) (by decide)) (by decide)
  have b11 := zer11 (tag_zero (hA 11 (by decide) (by decide)) (by decide))
  clear hA
  have b5 := bnd5 b5
  have b7 := bnd7 b7 hk
  obtain ⟨rv, rk, rs, rst, rt, ra, rl, rc, rn, rp, nm, dt⟩ := R
  simp only at hv hk hs
  subst hv hk
  simp only [numberN, lenSl] at *
  constructor <;> simp [up3] <;> first | omega | (refine ⟨?_, ?_, ?_, ?_, ?_⟩ <;> first | omega | simp_all; done) | (simp_all; done) | (simp_all; omega)
theorem recGood {R : RecD} (h : recD R = 0) : RecGood (up3 R) := by
  obtain ⟨h1, h2, h3, h4, h5⟩ := recN_0 h
  simp only at h1 h2 h3 h4
  have hv : R.v = 1 ∨ R.v = 2 ∨ R.v = 3 := by omega
  have hk : R.kind = 1 ∨ R.kind = 2 ∨ R.kind = 3 ∨ R.kind = 4 ∨ R.kind = 5 ∨ R.kind = 6 ∨ R.kind = 7 := by omega
  rcases hv with hv | hv | hv <;> rcases hk with hk | hk | hk | hk | hk | hk | hk
  · exact rec_1_1 R h hv hk
  · exact rec_1_2 R h hv hk
  · exact rec_1_3 R h hv hk
  · exact rec_1_4 R h hv hk
  · exact rec_1_5 R h hv hk
  · exact rec_1_6 R h hv hk
  · exact rec_1_7 R h hv hk
  · exact rec_2_1 R h hv hk
  · exact rec_2_2 R h hv hk
  · exact rec_2_3 R h hv hk
  · exact rec_2_4 R h hv hk
  · exact rec_2_5 R h hv hk
  · exact rec_2_6 R h hv hk
  · exact rec_2_7 R h hv hk
  · exact rec_3_1 R h hv hk
  · exact rec_3_2 R h hv hk
  · exact rec_3_3 R h hv hk
  · exact rec_3_4 R h hv hk
  · exact rec_3_5 R h hv hk
  · exact rec_3_6 R h hv hk
  · exact rec_3_7 R h hv hk
end Go.Proofs.YtfbaliimjmimhaaDoor
namespace Go.Proofs.YtfbaliimjmimhaaDoor
open Go.RowKit

def refusedD (D : SagaD) (X : RecD) : Int := refusedN (D.words nilSl nilSl nilSl nilSl) (X.words nilSl)
/-- What the record's kind does. -/
def turnD (D : SagaD) (X : RecD) : SagaD :=
  if X.kind = 2 ∨ X.kind = 5 then { D with flight := true, tries := X.try_ }
  else if X.kind = 3 then { D with flight := false, tries := 0, next := D.next + 1, outs := D.outs ++ [X.data] }
  else if X.kind = 4 then (if X.last = 0 then { D with flight := false } else { D with flight := false, tries := 0, phase := 2, failStep := X.step, failCode := X.code, fail := X.data })
  else if X.kind = 6 then { D with flight := false, tries := 0, next := D.next - 1, undos := D.undos ++ [X.data] }
  else { D with phase := if D.phase = 1 then 3 else 4 }
def zeroD : SagaD := ⟨0, ⟨#[]⟩, 0, 0, 0, 0, [], 0, 0, false, 0, [], [], 0, 0, []⟩
def applyN (D : SagaD) (R : RecD) : Int := if checkD D ≠ 0 then 100 else if recD R ≠ 0 then recD R else refusedD D (up3 R)
def movedD (D : SagaD) (X : RecD) : SagaD := turnD { D with at_ := X.at_ } X
def applyD (D : SagaD) (R : RecD) : SagaD := if applyN D R ≠ 0 then zeroD else movedD D (up3 R)
def beginN (R : RecD) : Int := if recD R ≠ 0 then recD R else if R.kind ≠ 1 then 102 else 0
def begunD (X : RecD) : SagaD := ⟨X.saga, X.name, X.count, X.pivot, X.at_, X.at_, X.data, 1, 0, false, 0, [], [], 0, 0, []⟩
def beginD (R : RecD) : SagaD := if beginN R ≠ 0 then zeroD else begunD (up3 R)
def finishedD (D : SagaD) : Bool := decide (checkD D = 0 ∧ (D.phase = 3 ∨ D.phase = 4))
def allowedD (D : SagaD) : List Int :=
  if checkD D ≠ 0 ∨ D.phase = 3 ∨ D.phase = 4 then [] else if D.flight = true ∧ D.phase = 1 then [3, 4] else if D.flight = true then [4, 6]
  else if D.phase = 1 ∧ D.next < D.count then [2] else if D.phase = 2 ∧ D.next > 0 then [5] else [7]
def pendingD (D : SagaD) : List Int :=
  if checkD D ≠ 0 then [] else if ¬ (D.phase = 1 ∧ D.next < D.count ∧ (D.pivot = 0 ∨ D.next < D.pivot)) ∧ D.phase ≠ 2 then [] else (List.range D.next.toNat).reverse.map Int.ofNat

theorem applyN_0 {D : SagaD} {R : RecD} (h : applyN D R = 0) : checkD D = 0 ∧ recD R = 0 ∧ refusedD D (up3 R) = 0 := by
  unfold applyN at h
  split at h
  · cases h
  · next h1 =>
    split at h
    · next h2 => exact absurd h h2
    · next h2 => exact ⟨by simpa using h1, by simpa using h2, h⟩
/-- What a record that is not refused keeps. -/
structure TakenD (D : SagaD) (X : RecD) : Prop where
  saga : X.saga = D.id
  kind : X.kind ≠ 1
  phase : D.phase = 1 ∨ D.phase = 2
  running : X.kind = 2 ∨ X.kind = 3 → D.phase = 1
  undoing : X.kind = 5 ∨ X.kind = 6 → D.phase = 2
  failed : X.kind = 4 → X.last = 1 → D.phase = 1
  flight : D.flight = decide (X.kind = 3 ∨ X.kind = 4 ∨ X.kind = 6)
  ended1 : X.kind = 7 → D.phase = 1 → D.next = D.count
  ended2 : X.kind = 7 → D.phase = 2 → D.next = 0
  step1 : X.kind ≠ 7 → D.phase = 1 → X.step = D.next ∧ D.next ≠ D.count
  step2 : X.kind ≠ 7 → D.phase = 2 → X.step = D.next - 1
  try_ : X.kind = 2 ∨ X.kind = 5 → X.try_ = min (D.tries + 1) 1000
  pivot : X.kind = 4 → X.last = 1 → 0 < D.pivot → X.step < D.pivot
  code : X.kind = 7 → X.code ≠ 0 → X.code = D.phase
end Go.Proofs.YtfbaliimjmimhaaDoor
