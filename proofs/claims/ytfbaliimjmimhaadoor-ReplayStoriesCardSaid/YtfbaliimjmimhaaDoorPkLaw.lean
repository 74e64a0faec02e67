/-
  What a record that is not refused keeps, as plain facts, and conversely; the kinds that may come.
  What Apply and Begin answer is a saga that may be.
  Records of version 3 that record.Check takes, by their kinds.
  The records that succeed lead to a saga's end: the law, in plain words.
  num, first, sameInts, of of annalslaw10 walked.
  The first saga of the laws: it may be, what may come next, how it is read.
  The first saga of the laws: what Begin answers of its record.
  annalsref3.Alike, annalsref10.SameLists and Same walked.
  Conditions: as each theorem says. (Joined by wip/tools/pack.py.)
-/
import Derived.Test.YtfbaliimjmimhaaDoorPkWalk
import Derived.Test.YtfbaliimjmimhaaDoorPkApply
import Derived.Lib.SlBytesConst
namespace Go.Proofs.YtfbaliimjmimhaaDoor
open Go.RowKit

theorem wrap_small {n : Int} (h0 : -1000 ≤ n) (h1 : n ≤ 1000) : wrap64 n = n := by unfold wrap64; omega

theorem refused_iff {D : SagaD} {X : RecD} (hk : 1 ≤ X.kind ∧ X.kind ≤ 7) (hn : 0 ≤ D.next ∧ D.next ≤ 1000) : refusedD D X = 0 ↔ TakenD D X := by
  obtain ⟨hk1, hk7⟩ := hk
  have hw : wrap64 (D.next - 1) = D.next - 1 := wrap_small (by omega) (by omega)
  obtain ⟨id, name, count, pivot, begun, at_, input, phase, next, flight, tries, outs, undos, fs, fc, fail⟩ := D
  obtain ⟨v, kind, saga, step, try_, rat, last, code, rcount, rpivot, rname, data⟩ := X
  simp only at hk1 hk7 hw hn
  have hcases : kind = 1 ∨ kind = 2 ∨ kind = 3 ∨ kind = 4 ∨ kind = 5 ∨ kind = 6 ∨ kind = 7 := by omega
  constructor
  · intro h
    unfold refusedD refusedN at h
    simp only at h
    split at h
    · cases h
    next h1 =>
    split at h
    · cases h
    next h2 =>
    split at h
    · cases h
    next h3 =>
    split at h
    · cases h
    next h4 =>
    split at h
    · cases h
    next h5 =>
    split at h
    · cases h
    next h6 =>
    split at h
    · cases h
    next h7 =>
    split at h
    · cases h
    next h8 =>
    split at h
    · cases h
    next h9 =>
    clear h
    simp only [wrongPhaseB, wrongFlightB, wrongStepB, wrongTryB, pivotB, wrongCodeB] at h4 h5 h6 h7 h8 h9
    rw [hw] at h6
    clear hw
    have hp : phase = 1 ∨ phase = 2 := by omega
    rcases hcases with rfl | rfl | rfl | rfl | rfl | rfl | rfl <;> rcases hp with rfl | rfl <;> constructor <;> simp_all [landsL] <;> omega
  · rintro ⟨a1, a2, a3, a4, a5, a6, a7, a8, a9, a10, a11, a12, a13, a14⟩
    simp only at a1 a2 a3 a4 a5 a6 a7 a8 a9 a10 a11 a12 a13 a14
    unfold refusedD refusedN
    simp only [wrongPhaseB, wrongFlightB, wrongStepB, wrongTryB, pivotB, wrongCodeB, hw]
    clear hw
    rcases hcases with rfl | rfl | rfl | rfl | rfl | rfl | rfl <;> rcases a3 with rfl | rfl <;> simp_all [landsL] <;> omega

theorem may_kind {D : SagaD} {R : RecD} (h : applyN D R = 0) : (allowedD D).any (· == R.kind) = true := by
  obtain ⟨h1, h2, h3⟩ := applyN_0 h
  have hg := (checkD_iff D).1 h1
  have hr := recGood h2
  have hb : 0 ≤ D.next ∧ D.next ≤ 1000 := by
    have hp := hg.plain.count32
    by_cases k : D.phase = 1 ∨ D.phase = 3
    · have := (hg.fw k).next; have := (hg.fw k).next0; omega
    · have := (hg.bk k).next; have := (hg.bk k).count; have := (hg.bk k).next0; omega
  have ht := (refused_iff ⟨hr.kind1, hr.kind7⟩ hb).1 h3
  have hk : (up3 R).kind = R.kind := up3_kind R
  rw [← hk]
  have hfw := hg.fw
  have hbk := hg.bk
  obtain ⟨a1, a2, a3, a4, a5, a6, a7, a8, a9, a10, a11, a12, a13, a14⟩ := ht
  have k1 := hr.kind1
  have k7 := hr.kind7
  have hs := hr.step
  obtain ⟨K, hK⟩ : ∃ x, (up3 R).kind = x := ⟨_, rfl⟩
  obtain ⟨S, hS⟩ : ∃ x, (up3 R).step = x := ⟨_, rfl⟩
  rw [hK] at a2 a4 a5 a6 a7 a8 a9 a10 a11 k1 k7 hs
  rw [hS] at a10 a11 hs
  rw [hK]
  unfold allowedD
  have hp3 : ¬ D.phase = 3 := by rcases a3 with p | p <;> rw [p] <;> decide
  have hp4 : ¬ D.phase = 4 := by rcases a3 with p | p <;> rw [p] <;> decide
  rw [if_neg (by simp [h1, hp3, hp4])]
  have hle : D.phase = 1 → D.next ≤ D.count := fun k => (hfw (.inl k)).next
  clear hfw hbk hK hS h h1 h2 h3 hg hr a1 a12 a13 a14
  have hcases : K = 2 ∨ K = 3 ∨ K = 4 ∨ K = 5 ∨ K = 6 ∨ K = 7 := by omega
  rcases hcases with rfl | rfl | rfl | rfl | rfl | rfl
  · have f : D.flight = false := by rw [a7]; decide
    have p := a4 (.inl rfl)
    have q := (a10 (by decide) p).2
    have := hle p
    rw [if_neg (by simp [f]), if_neg (by simp [f]), if_pos ⟨p, by omega⟩]; rfl
  · have f : D.flight = true := by rw [a7]; decide
    have p := a4 (.inr rfl)
    rw [if_pos ⟨f, p⟩]; rfl
  · have f : D.flight = true := by rw [a7]; decide
    rcases a3 with p | p
    · rw [if_pos ⟨f, p⟩]; rfl
    · rw [if_neg (by omega), if_pos f]; rfl
  · have f : D.flight = false := by rw [a7]; decide
    have p := a5 (.inl rfl)
    have q := a11 (by decide) p
    have := hs (by decide) (by decide)
    rw [if_neg (by simp [f]), if_neg (by simp [f]), if_neg (by omega), if_pos ⟨p, by omega⟩]; rfl
  · have f : D.flight = true := by rw [a7]; decide
    have p := a5 (.inr rfl)
    rw [if_neg (by omega), if_pos f]; rfl
  · have f : D.flight = false := by rw [a7]; decide
    rcases a3 with p | p
    · have := a8 rfl p
      rw [if_neg (by simp [f]), if_neg (by simp [f]), if_neg (by omega), if_neg (by omega)]; rfl
    · have := a9 rfl p
      rw [if_neg (by simp [f]), if_neg (by simp [f]), if_neg (by omega), if_neg (by omega)]; rfl
theorem allowed_len (D : SagaD) : (allowedD D).length ≤ 2 := by
  unfold allowedD
  (repeat' split) <;> simp
theorem allowed_no1 (D : SagaD) : (allowedD D).any (· == 1) = false := by
  unfold allowedD
  (repeat' split) <;> simp
def firstD' : SagaD := ⟨7, ⟨#[98, 117, 121]⟩, 2, 1, 5, 5, [105, 110], 1, 0, false, 0, [], [], 0, 0, []⟩
theorem checkD_first : checkD firstD' = 0 := by
  rw [checkD_iff]
  constructor
  · constructor <;> first | decide | rfl
  · intro _
    constructor <;> first | decide | rfl
  · intro h
    exact absurd (Or.inl rfl) h
end Go.Proofs.YtfbaliimjmimhaaDoor
namespace Go.Proofs.YtfbaliimjmimhaaDoor
open Go.RowKit

theorem turn_2 {D : SagaD} {X : RecD} (h : X.kind = 2 ∨ X.kind = 5) : movedD D X = { D with at_ := X.at_, flight := true, tries := X.try_ } := by
  unfold movedD turnD; rw [if_pos h]
theorem turn_3 {D : SagaD} {X : RecD} (h : X.kind = 3) : movedD D X = { D with at_ := X.at_, flight := false, tries := 0, next := D.next + 1, outs := D.outs ++ [X.data] } := by
  unfold movedD turnD; rw [if_neg (by omega), if_pos h]
theorem turn_4a {D : SagaD} {X : RecD} (h : X.kind = 4) (hl : X.last = 0) : movedD D X = { D with at_ := X.at_, flight := false } := by
  unfold movedD turnD; rw [if_neg (by omega), if_neg (by omega), if_pos h, if_pos hl]
theorem turn_4b {D : SagaD} {X : RecD} (h : X.kind = 4) (hl : X.last ≠ 0) : movedD D X = { D with at_ := X.at_, flight := false, tries := 0, phase := 2, failStep := X.step, failCode := X.code, fail := X.data } := by
  unfold movedD turnD; rw [if_neg (by omega), if_neg (by omega), if_pos h, if_neg hl]
theorem turn_6 {D : SagaD} {X : RecD} (h : X.kind = 6) : movedD D X = { D with at_ := X.at_, flight := false, tries := 0, next := D.next - 1, undos := D.undos ++ [X.data] } := by
  unfold movedD turnD; rw [if_neg (by omega), if_neg (by omega), if_neg (by omega), if_pos h]
theorem turn_7 {D : SagaD} {X : RecD} (h : X.kind = 7) : movedD D X = { D with at_ := X.at_, phase := if D.phase = 1 then 3 else 4 } := by
  unfold movedD turnD; rw [if_neg (by omega), if_neg (by omega), if_neg (by omega), if_neg (by omega)]

theorem good_step {D : SagaD} {X : RecD} (hg : GoodD D) (hx : RecGood X) (ht : TakenD D X) : GoodD (movedD D X) := by
  have hp := hg.plain
  obtain ⟨p1, p2, p3, p4, p5, p6, p7, p8, p9, p10, p11, p12, p13, p14, p15, p16, p17⟩ := hp
  have hk1 := hx.kind1
  have hk7 := hx.kind7
  have hk := ht.kind
  have hcases : X.kind = 2 ∨ X.kind = 5 ∨ X.kind = 3 ∨ X.kind = 4 ∨ X.kind = 6 ∨ X.kind = 7 := by omega
  rcases hcases with k | k | k | k | k | k
  · rw [turn_2 (.inl k)]
    have ph := ht.running (.inl k)
    have tr := ht.try_ (.inl k)
    have st := (ht.step1 (by omega) ph).2
    obtain ⟨a1, a2, a3, a4, a5, a6, a7, a8, a9, a10⟩ := hg.fw (.inl ph)
    refine ⟨⟨p1, p2, p3, p4, p5, p6, p7, hx.at0, p9, p10, ?_, ?_, ?_, p14, p15, p16, p17⟩, fun _ => ⟨a1, a2, a3, a4, a5, a6, a7, ?_, ?_, ?_⟩, fun h => absurd (.inl ph) h⟩
    · show 0 ≤ X.try_; omega
    · show X.try_ ≤ 1000; omega
    · show _ → X.try_ ≠ 0; intro _; omega
    · exact a8
    · exact fun h => absurd h st
    · exact fun _ => .inr (.inl (by show X.try_ > 0; omega))
  · rw [turn_2 (.inr k)]
    have ph := ht.undoing (.inl k)
    have tr := ht.try_ (.inr k)
    have st := ht.step2 (by omega) ph
    have ss := hx.step (by omega) (by omega)
    have hn : ¬ (D.phase = 1 ∨ D.phase = 3) := by omega
    obtain ⟨a1, a2, a3, a4, a5, a6, a7, a8⟩ := hg.bk hn
    refine ⟨⟨p1, p2, p3, p4, p5, p6, p7, hx.at0, p9, p10, ?_, ?_, ?_, p14, p15, p16, p17⟩, fun h => absurd h hn, fun _ => ⟨a1, a2, a3, a4, a5, a6, a7, ?_⟩⟩
    · show 0 ≤ X.try_; omega
    · show X.try_ ≤ 1000; omega
    · show _ → X.try_ ≠ 0; intro _; omega
    · exact .inl (by show D.next > 0; omega)
  · rw [turn_3 k]
    have ph := ht.running (.inr k)
    have st := (ht.step1 (by omega) ph).2
    obtain ⟨a1, a2, a3, a4, a5, a6, a7, a8, a9, a10⟩ := hg.fw (.inl ph)
    refine ⟨⟨p1, p2, p3, p4, p5, p6, p7, hx.at0, p9, p10, by show (0 : Int) ≤ 0; omega, by show (0 : Int) ≤ 1000; omega, (fun h => by cases h), p14, p15, ?_, p17⟩, fun _ => ⟨a1, a2, a3, a4, ?_, ?_, ?_, ?_, fun _ => rfl, ?_⟩, fun h => absurd (.inl ph) h⟩
    · intro d hd
      rcases List.mem_append.1 hd with h | h
      · exact p16 d h
      · rw [List.mem_singleton.1 h]; exact hx.data
    · show 0 ≤ D.next + 1; omega
    · show D.next + 1 ≤ D.count; omega
    · show ((D.outs ++ [X.data]).length : Int) = D.next + 1
      rw [List.length_append]; simp; omega
    · show D.phase = 3 → _; omega
    · exact fun _ => .inl (by show D.next + 1 > 0; omega)
  · by_cases hl : X.last = 0
    · rw [turn_4a k hl]
      have fl : D.flight = true := by rw [ht.flight, k]; decide
      have tn := p13 fl
      rcases ht.phase with ph | ph
      · have st := (ht.step1 (by omega) ph).2
        obtain ⟨a1, a2, a3, a4, a5, a6, a7, a8, a9, a10⟩ := hg.fw (.inl ph)
        refine ⟨⟨p1, p2, p3, p4, p5, p6, p7, hx.at0, p9, p10, p11, p12, (fun h => by cases h), p14, p15, p16, p17⟩, fun _ => ⟨a1, a2, a3, a4, a5, a6, a7, a8, a9, ?_⟩, fun h => absurd (.inl ph) h⟩
        exact fun _ => .inr (.inl (by show D.tries > 0; omega))
      · have st := ht.step2 (by omega) ph
        have ss := hx.step (by omega) (by omega)
        have hn : ¬ (D.phase = 1 ∨ D.phase = 3) := by omega
        obtain ⟨a1, a2, a3, a4, a5, a6, a7, a8⟩ := hg.bk hn
        exact ⟨⟨p1, p2, p3, p4, p5, p6, p7, hx.at0, p9, p10, p11, p12, (fun h => by cases h), p14, p15, p16, p17⟩, fun h => absurd h hn, fun _ => ⟨a1, a2, a3, a4, a5, a6, a7, a8⟩⟩
    · rw [turn_4b k hl]
      have l1 : X.last = 1 := by have := hx.last k; omega
      have ph := ht.failed k l1
      have st := ht.step1 (by omega) ph
      have pv := ht.pivot k l1
      have ss := hx.step (by omega) (by omega)
      obtain ⟨a1, a2, a3, a4, a5, a6, a7, a8, a9, a10⟩ := hg.fw (.inl ph)
      refine ⟨⟨p1, p2, p3, p4, p5, p6, p7, hx.at0, by show (1 : Int) ≤ 2; omega, by show (2 : Int) ≤ 4; omega, by show (0 : Int) ≤ 0; omega, by show (0 : Int) ≤ 1000; omega, (fun h => by cases h), p14, hx.data, p16, p17⟩, fun h => absurd h (by show ¬ ((2 : Int) = 1 ∨ (2 : Int) = 3); omega), fun _ => ⟨?_, ?_, ?_, a5, ?_, ?_, (fun h => by cases h), .inr rfl⟩⟩
      · show X.step = D.outs.length; omega
      · show X.step < D.count; omega
      · show D.pivot > 0 → X.step < D.pivot; exact pv
      · show D.next ≤ X.step; omega
      · show (D.undos.length : Int) = X.step - D.next
        rw [a1]; simp; omega
  · rw [turn_6 k]
    have ph := ht.undoing (.inr k)
    have st := ht.step2 (by omega) ph
    have ss := hx.step (by omega) (by omega)
    have hn : ¬ (D.phase = 1 ∨ D.phase = 3) := by omega
    obtain ⟨a1, a2, a3, a4, a5, a6, a7, a8⟩ := hg.bk hn
    refine ⟨⟨p1, p2, p3, p4, p5, p6, p7, hx.at0, p9, p10, by show (0 : Int) ≤ 0; omega, by show (0 : Int) ≤ 1000; omega, (fun h => by cases h), p14, p15, p16, ?_⟩, fun h => absurd h hn, fun _ => ⟨a1, a2, a3, ?_, ?_, ?_, ?_, .inr rfl⟩⟩
    · intro d hd
      rcases List.mem_append.1 hd with h | h
      · exact p17 d h
      · rw [List.mem_singleton.1 h]; exact hx.data
    · show 0 ≤ D.next - 1; omega
    · show D.next - 1 ≤ D.failStep; omega
    · show ((D.undos ++ [X.data]).length : Int) = D.failStep - (D.next - 1)
      rw [List.length_append]; simp; omega
    · show D.phase = 4 → _; omega
  · rw [turn_7 k]
    have fl : D.flight = false := by rw [ht.flight, k]; decide
    rcases ht.phase with ph | ph
    · have st := ht.ended1 k ph
      obtain ⟨a1, a2, a3, a4, a5, a6, a7, a8, a9, a10⟩ := hg.fw (.inl ph)
      rw [if_pos ph]
      refine ⟨⟨p1, p2, p3, p4, p5, p6, p7, hx.at0, by show (1 : Int) ≤ 3; omega, by show (3 : Int) ≤ 4; omega, p11, p12, p13, p14, p15, p16, p17⟩, fun _ => ⟨a1, a2, a3, a4, a5, a6, a7, fun _ => st, a9, fun h => absurd st h⟩, fun h => absurd (.inr rfl) h⟩
    · have st := ht.ended2 k ph
      have hn : ¬ (D.phase = 1 ∨ D.phase = 3) := by omega
      obtain ⟨a1, a2, a3, a4, a5, a6, a7, a8⟩ := hg.bk hn
      rw [if_neg (by omega)]
      refine ⟨⟨p1, p2, p3, p4, p5, p6, p7, hx.at0, by show (1 : Int) ≤ 4; omega, by show (4 : Int) ≤ 4; omega, p11, p12, p13, p14, p15, p16, p17⟩, fun h => absurd h (by show ¬ ((4 : Int) = 1 ∨ (4 : Int) = 3); omega), fun _ => ⟨a1, a2, a3, a4, a5, a6, fun _ => st, a8⟩⟩

theorem good_begun {X : RecD} (hx : RecGood X) (k : X.kind = 1) : GoodD (begunD X) := by
  obtain ⟨b1, b2, b3, b4, b5⟩ := hx.begun k
  refine ⟨⟨hx.saga, b5, b1, b2, b3, b4, hx.at0, hx.at0, by show (1 : Int) ≤ 1; omega, by show (1 : Int) ≤ 4; omega, by show (0 : Int) ≤ 0; omega, by show (0 : Int) ≤ 1000; omega, (fun h => by cases h), hx.data, by show (0 : Nat) ≤ 16384; omega, (fun d h => by cases h), (fun d h => by cases h)⟩, fun _ => ⟨rfl, rfl, rfl, rfl, by show (0 : Int) ≤ 0; omega, by show (0 : Int) ≤ X.count; omega, rfl, (fun h => by cases h), fun _ => rfl, fun _ => .inr (.inr rfl)⟩, fun h => absurd (.inl rfl) h⟩

/-- What Apply takes. -/
theorem apply_taken {D : SagaD} {R : RecD} (h : applyN D R = 0) : GoodD D ∧ RecGood (up3 R) ∧ TakenD D (up3 R) ∧ applyD D R = movedD D (up3 R) ∧ GoodD (applyD D R) := by
  obtain ⟨h1, h2, h3⟩ := applyN_0 h
  have hg := (checkD_iff D).1 h1
  have hx := recGood h2
  have hb : 0 ≤ D.next ∧ D.next ≤ 1000 := by
    have hp := hg.plain.count32
    by_cases k : D.phase = 1 ∨ D.phase = 3
    · have := (hg.fw k).next; have := (hg.fw k).next0; omega
    · have := (hg.bk k).next; have := (hg.bk k).count; have := (hg.bk k).next0; omega
  have ht := (refused_iff ⟨hx.kind1, hx.kind7⟩ hb).1 h3
  have e : applyD D R = movedD D (up3 R) := if_neg (by rw [h]; simp)
  exact ⟨hg, hx, ht, e, by rw [e]; exact good_step hg hx ht⟩
theorem begin_taken {R : RecD} (h : beginN R = 0) : RecGood (up3 R) ∧ R.kind = 1 ∧ beginD R = begunD (up3 R) ∧ GoodD (beginD R) := by
  unfold beginN at h
  split at h
  · next k => exact absurd h k
  · next k =>
    have k' : recD R = 0 := by simpa using k
    split at h
    · cases h
    · next q =>
      have q' : R.kind = 1 := by simpa using q
      have hx := recGood k'
      have hb : beginN R = 0 := by unfold beginN; rw [if_neg k, if_neg q]
      have e : beginD R = begunD (up3 R) := if_neg (by rw [hb]; simp)
      exact ⟨hx, q', e, by rw [e]; exact good_begun hx (by rw [up3_kind]; exact q')⟩
/-- What no record turns. -/
structure KeptD (D E : SagaD) : Prop where
  id : E.id = D.id
  name : E.name = D.name
  count : E.count = D.count
  pivot : E.pivot = D.pivot
  begun : E.begun = D.begun
theorem moved_kept (D : SagaD) (X : RecD) : KeptD D (movedD D X) := by
  unfold movedD turnD
  split
  · exact ⟨rfl, rfl, rfl, rfl, rfl⟩
  · split
    · exact ⟨rfl, rfl, rfl, rfl, rfl⟩
    · split
      · split <;> exact ⟨rfl, rfl, rfl, rfl, rfl⟩
      · split <;> exact ⟨rfl, rfl, rfl, rfl, rfl⟩
theorem GoodD.fits {D : SagaD} (h : GoodD D) (hn : D.name.size ≤ 4611686018427387904) : D.name.size ≤ 4611686018427387904 ∧ D.next ≤ 9223372036854775807 ∧ D.failStep ≤ 9223372036854775807 := by
  have hp := h.plain.count32
  by_cases k : D.phase = 1 ∨ D.phase = 3
  · have := (h.fw k).next; have := (h.fw k).failStep; exact ⟨hn, by omega, by omega⟩
  · have := (h.bk k).next; have := (h.bk k).count; exact ⟨hn, by omega, by omega⟩
theorem up3_step {R : RecD} (h : R.kind ≠ 1) : (up3 R).step = R.step := by
  unfold up3
  split
  · first
      | (split
         · next k => exact absurd k h
         · split
           · rfl
           · split <;> rfl)
      | (split
         · rfl
         · split <;> rfl)
  · rfl
end Go.Proofs.YtfbaliimjmimhaaDoor
namespace Go.Proofs.YtfbaliimjmimhaaDoor
open Go.RowKit

theorem recFrom_zero {r : RecV} {d : List Int} {T : Nat} : ∀ f tag, (∀ j, tag ≤ j → j < tag + f → tagErr r d T j = 0) → recFrom r d T f tag = 0
  | 0, _, _ => rfl
  | f + 1, tag, h => by
    rw [recFrom, if_pos (h tag (by omega) (by omega))]
    exact recFrom_zero f (tag + 1) (fun j h1 h2 => h j (by omega) (by omega))
theorem recFrom_nine {r : RecV} {d : List Int} {T : Nat} (h3 : tagErr r d T 3 = 0) (h4 : tagErr r d T 4 = 0) (h5 : tagErr r d T 5 = 0) (h6 : tagErr r d T 6 = 0) (h7 : tagErr r d T 7 = 0) (h8 : tagErr r d T 8 = 0) (h9 : tagErr r d T 9 = 0) (h10 : tagErr r d T 10 = 0) (h11 : tagErr r d T 11 = 0) : recFrom r d T 9 3 = 0 := by
  refine recFrom_zero 9 3 (fun j h1 h2 => ?_)
  have : j = 3 ∨ j = 4 ∨ j = 5 ∨ j = 6 ∨ j = 7 ∨ j = 8 ∨ j = 9 ∨ j = 10 ∨ j = 11 := by omega
  rcases this with rfl | rfl | rfl | rfl | rfl | rfl | rfl | rfl | rfl <;> assumption
theorem tag_yes {r : RecV} {d : List Int} {T j : Nat} (hs : standsB T j = true) (h : boundsN r d j = 0) : tagErr r d T j = 0 := by unfold tagErr; rw [if_pos hs]; exact h
theorem tag_no {r : RecV} {d : List Int} {T j : Nat} (hs : standsB T j = false) (h : zeroB r j = true) : tagErr r d T j = 0 := by unfold tagErr; rw [if_neg (by simp [hs]), if_pos h]
theorem within_ok {n lo hi : Int} (h1 : lo ≤ n) (h2 : n ≤ hi) : withinN n lo hi = 0 := by unfold withinN; rw [if_neg (by omega)]
theorem bnd11_ok {r : RecV} {d : List Int} (hv : r.v = 3) (h : r.data.n ≤ 16384) : boundsN r d 11 = 0 := by
  unfold boundsN
  simp only [show (11 : Nat) ≠ 3 by decide, show (11 : Nat) ≠ 4 by decide, show (11 : Nat) ≠ 5 by decide, show (11 : Nat) ≠ 6 by decide, show (11 : Nat) ≠ 7 by decide, show (11 : Nat) ≠ 8 by decide, show (11 : Nat) ≠ 9 by decide, show (11 : Nat) ≠ 10 by decide, if_false]
  rw [if_neg (by omega), if_neg (by omega)]
theorem bnd3_ok {r : RecV} {d : List Int} (hv : r.v = 3) (h1 : 0 ≤ r.step) (h2 : r.step ≤ 31) : boundsN r d 3 = 0 := by
  unfold boundsN
  rw [if_pos rfl, if_neg (by omega)]
  exact within_ok h1 h2
theorem bnd4_ok {r : RecV} {d : List Int} (h1 : 1 ≤ r.try_) (h2 : r.try_ ≤ 1000) : boundsN r d 4 = 0 := by simpa [boundsN] using within_ok h1 h2
theorem bnd5_ok {r : RecV} {d : List Int} (h1 : 0 ≤ r.at_) (h2 : r.at_ ≤ 9223372036854775807) : boundsN r d 5 = 0 := by simpa [boundsN] using within_ok h1 h2
theorem bnd6_ok {r : RecV} {d : List Int} (h1 : 0 ≤ r.last) (h2 : r.last ≤ 1) : boundsN r d 6 = 0 := by simpa [boundsN] using within_ok h1 h2
theorem bnd7_ok {r : RecV} {d : List Int} (h : r.kind = 7 → 0 ≤ r.code ∧ r.code ≤ 2) : boundsN r d 7 = 0 := by
  by_cases k : r.kind = 7
  · simpa [boundsN, k] using within_ok (h k).1 (h k).2
  · simp [boundsN, k]
theorem bnd8_ok {r : RecV} {d : List Int} (h1 : 1 ≤ r.count) (h2 : r.count ≤ 32) : boundsN r d 8 = 0 := by simpa [boundsN] using within_ok h1 h2
theorem bnd9_ok {r : RecV} {d : List Int} (h1 : 0 ≤ r.pivot) (h2 : r.pivot ≤ r.count) : boundsN r d 9 = 0 := by simpa [boundsN] using within_ok h1 h2
theorem bnd10_ok {r : RecV} {d : List Int} (h : (nameA r.name).1 = 0) : boundsN r d 10 = 0 := by simp [boundsN, labelN, h]

theorem rec_start2 {g st t a : Int} (hg : 1 ≤ g) (h1 : 0 ≤ st) (h2 : st ≤ 31) (h3 : 1 ≤ t) (h4 : t ≤ 1000) (ha : 0 ≤ a) (ha2 : a ≤ 9223372036854775807) : recD ⟨3, 2, g, st, t, a, 0, 0, 0, 0, ⟨#[]⟩, []⟩ = 0 := by
  unfold recD
  rw [recN_tags (V := 2) (K := 1) rfl rfl (by decide) (by decide) (by simp only; omega)]
  exact recFrom_nine (tag_yes (by decide) (bnd3_ok rfl h1 h2)) (tag_yes (by decide) (bnd4_ok h3 h4)) (tag_yes (by decide) (bnd5_ok ha ha2)) (tag_no (by decide) rfl) (tag_no (by decide) rfl) (tag_no (by decide) rfl) (tag_no (by decide) rfl) (tag_no (by decide) (by simp [zeroB])) (tag_no (by decide) rfl)
theorem rec_start5 {g st t a : Int} (hg : 1 ≤ g) (h1 : 0 ≤ st) (h2 : st ≤ 31) (h3 : 1 ≤ t) (h4 : t ≤ 1000) (ha : 0 ≤ a) (ha2 : a ≤ 9223372036854775807) : recD ⟨3, 5, g, st, t, a, 0, 0, 0, 0, ⟨#[]⟩, []⟩ = 0 := by
  unfold recD
  rw [recN_tags (V := 2) (K := 4) rfl rfl (by decide) (by decide) (by simp only; omega)]
  exact recFrom_nine (tag_yes (by decide) (bnd3_ok rfl h1 h2)) (tag_yes (by decide) (bnd4_ok h3 h4)) (tag_yes (by decide) (bnd5_ok ha ha2)) (tag_no (by decide) rfl) (tag_no (by decide) rfl) (tag_no (by decide) rfl) (tag_no (by decide) rfl) (tag_no (by decide) (by simp [zeroB])) (tag_no (by decide) rfl)
theorem rec_done3 {g st a : Int} {d : List Int} (hg : 1 ≤ g) (h1 : 0 ≤ st) (h2 : st ≤ 31) (ha : 0 ≤ a) (ha2 : a ≤ 9223372036854775807) (hd : d.length ≤ 16384) : recD ⟨3, 3, g, st, 0, a, 0, 0, 0, 0, ⟨#[]⟩, d⟩ = 0 := by
  unfold recD
  rw [recN_tags (V := 2) (K := 2) rfl rfl (by decide) (by decide) (by simp only; omega)]
  exact recFrom_nine (tag_yes (by decide) (bnd3_ok rfl h1 h2)) (tag_no (by decide) rfl) (tag_yes (by decide) (bnd5_ok ha ha2)) (tag_no (by decide) rfl) (tag_no (by decide) rfl) (tag_no (by decide) rfl) (tag_no (by decide) rfl) (tag_no (by decide) (by simp [zeroB])) (tag_yes (by decide) (bnd11_ok rfl hd))
theorem rec_done6 {g st a : Int} {d : List Int} (hg : 1 ≤ g) (h1 : 0 ≤ st) (h2 : st ≤ 31) (ha : 0 ≤ a) (ha2 : a ≤ 9223372036854775807) (hd : d.length ≤ 16384) : recD ⟨3, 6, g, st, 0, a, 0, 0, 0, 0, ⟨#[]⟩, d⟩ = 0 := by
  unfold recD
  rw [recN_tags (V := 2) (K := 5) rfl rfl (by decide) (by decide) (by simp only; omega)]
  exact recFrom_nine (tag_yes (by decide) (bnd3_ok rfl h1 h2)) (tag_no (by decide) rfl) (tag_yes (by decide) (bnd5_ok ha ha2)) (tag_no (by decide) rfl) (tag_no (by decide) rfl) (tag_no (by decide) rfl) (tag_no (by decide) rfl) (tag_no (by decide) (by simp [zeroB])) (tag_yes (by decide) (bnd11_ok rfl hd))
theorem rec_fail {g st a l c : Int} {d : List Int} (hg : 1 ≤ g) (h1 : 0 ≤ st) (h2 : st ≤ 31) (ha : 0 ≤ a) (ha2 : a ≤ 9223372036854775807) (h3 : 0 ≤ l) (h4 : l ≤ 1) (hd : d.length ≤ 16384) : recD ⟨3, 4, g, st, 0, a, l, c, 0, 0, ⟨#[]⟩, d⟩ = 0 := by
  unfold recD
  rw [recN_tags (V := 2) (K := 3) rfl rfl (by decide) (by decide) (by simp only; omega)]
  exact recFrom_nine (tag_yes (by decide) (bnd3_ok rfl h1 h2)) (tag_no (by decide) rfl) (tag_yes (by decide) (bnd5_ok ha ha2)) (tag_yes (by decide) (bnd6_ok h3 h4)) (tag_yes (by decide) (bnd7_ok (fun h => by cases h))) (tag_no (by decide) rfl) (tag_no (by decide) rfl) (tag_no (by decide) (by simp [zeroB])) (tag_yes (by decide) (bnd11_ok rfl hd))
theorem rec_end {g a c : Int} (hg : 1 ≤ g) (ha : 0 ≤ a) (ha2 : a ≤ 9223372036854775807) (h1 : 0 ≤ c) (h2 : c ≤ 2) : recD ⟨3, 7, g, 0, 0, a, 0, c, 0, 0, ⟨#[]⟩, []⟩ = 0 := by
  unfold recD
  rw [recN_tags (V := 2) (K := 6) rfl rfl (by decide) (by decide) (by simp only; omega)]
  exact recFrom_nine (tag_no (by decide) rfl) (tag_no (by decide) rfl) (tag_yes (by decide) (bnd5_ok ha ha2)) (tag_no (by decide) rfl) (tag_yes (by decide) (bnd7_ok (fun _ => ⟨h1, h2⟩))) (tag_no (by decide) rfl) (tag_no (by decide) rfl) (tag_no (by decide) (by simp [zeroB])) (tag_no (by decide) rfl)
theorem rec_begin {g a n p : Int} {s : ByteArray} {d : List Int} (hg : 1 ≤ g) (ha : 0 ≤ a) (ha2 : a ≤ 9223372036854775807) (h1 : 1 ≤ n) (h2 : n ≤ 32) (h3 : 0 ≤ p) (h4 : p ≤ n) (hs : (nameA s).1 = 0) (hd : d.length ≤ 16384) : recD ⟨3, 1, g, 0, 0, a, 0, 0, n, p, s, d⟩ = 0 := by
  unfold recD
  rw [recN_tags (V := 2) (K := 0) rfl rfl (by decide) (by decide) (by simp only; omega)]
  exact recFrom_nine (tag_no (by decide) rfl) (tag_no (by decide) rfl) (tag_yes (by decide) (bnd5_ok ha ha2)) (tag_no (by decide) rfl) (tag_no (by decide) rfl) (tag_yes (by decide) (bnd8_ok h1 h2)) (tag_yes (by decide) (bnd9_ok h3 h4)) (tag_yes (by decide) (bnd10_ok hs)) (tag_yes (by decide) (bnd11_ok rfl hd))
end Go.Proofs.YtfbaliimjmimhaaDoor
namespace Go.Proofs.YtfbaliimjmimhaaDoor
open Go.RowKit

def happyK (D : SagaD) : Int := match allowedD D with
  | [] => 0
  | k :: l => if k = 4 then (match l with | [] => 0 | q :: _ => q) else k
def happyR (D : SagaD) : RecD := ⟨3, happyK D, D.id, if happyK D = 2 ∨ happyK D = 3 then D.next else if happyK D = 5 ∨ happyK D = 6 then D.next - 1 else 0, if happyK D = 2 ∨ happyK D = 5 then min (D.tries + 1) 1000 else 0, 9, 0, 0, 0, 0, ⟨#[]⟩, []⟩
/-- How many records are still to come. -/
def leftD (D : SagaD) : Int := 2 * (if D.phase = 1 then D.count - D.next else D.next) + (if D.flight = true then 0 else 1)

theorem allowed_31 {D : SagaD} (hg : checkD D = 0) (hf : D.flight = true) (hp : D.phase = 1) : allowedD D = [3, 4] := by
  unfold allowedD; rw [if_neg (by simp [hg, hp]), if_pos ⟨hf, hp⟩]
theorem allowed_32 {D : SagaD} (hg : checkD D = 0) (hf : D.flight = true) (hp : D.phase = 2) : allowedD D = [4, 6] := by
  unfold allowedD; rw [if_neg (by simp [hg, hp]), if_neg (by simp [hp]), if_pos hf]
theorem allowed_1 {D : SagaD} (hg : checkD D = 0) (hf : D.flight = false) (hp : D.phase = 1) (hn : D.next < D.count) : allowedD D = [2] := by
  unfold allowedD; rw [if_neg (by simp [hg, hp]), if_neg (by simp [hf]), if_neg (by simp [hf]), if_pos ⟨hp, hn⟩]
theorem allowed_17 {D : SagaD} (hg : checkD D = 0) (hf : D.flight = false) (hp : D.phase = 1) (hn : ¬ D.next < D.count) : allowedD D = [7] := by
  unfold allowedD; rw [if_neg (by simp [hg, hp]), if_neg (by simp [hf]), if_neg (by simp [hf]), if_neg (by simp [hn]), if_neg (by simp [hp])]
theorem allowed_2 {D : SagaD} (hg : checkD D = 0) (hf : D.flight = false) (hp : D.phase = 2) (hn : D.next > 0) : allowedD D = [5] := by
  unfold allowedD; rw [if_neg (by simp [hg, hp]), if_neg (by simp [hf]), if_neg (by simp [hf]), if_neg (by simp [hp]), if_pos ⟨hp, hn⟩]
theorem allowed_27 {D : SagaD} (hg : checkD D = 0) (hf : D.flight = false) (hp : D.phase = 2) (hn : ¬ D.next > 0) : allowedD D = [7] := by
  unfold allowedD; rw [if_neg (by simp [hg, hp]), if_neg (by simp [hf]), if_neg (by simp [hf]), if_neg (by simp [hp]), if_neg (by simp [hn])]

theorem apply_ok {D : SagaD} {R : RecD} (h1 : checkD D = 0) (h2 : recD R = 0) (hv : R.v = 3) (hk : 1 ≤ R.kind ∧ R.kind ≤ 7) (hn : 0 ≤ D.next ∧ D.next ≤ 1000) (ht : TakenD D R) : applyN D R = 0 ∧ applyD D R = movedD D R := by
  have e : up3 R = R := up3_3 hv
  have h3 : refusedD D (up3 R) = 0 := by rw [e]; exact (refused_iff hk hn).2 ht
  have h : applyN D R = 0 := by unfold applyN; rw [if_neg (by simp [h1]), if_neg (by simp [h2]), h3]
  refine ⟨h, ?_⟩
  unfold applyD
  rw [if_neg (by rw [h]; simp), e]

/-- A step of a saga that goes on as it should. -/
structure HappyD (D : SagaD) : Prop where
  ok : applyN D (happyR D) = 0
  good : GoodD (applyD D (happyR D))
  count : (applyD D (happyR D)).count = D.count
  next : ((applyD D (happyR D)).phase = D.phase + 2) ∨ ((applyD D (happyR D)).phase = D.phase ∧ leftD (applyD D (happyR D)) + 1 = leftD D)

theorem happy_step {D : SagaD} (hg : GoodD D) (hp : D.phase = 1 ∨ D.phase = 2) : HappyD D := by
  have hc := (checkD_iff D).2 hg
  obtain ⟨p1, p2, p3, p4, p5, p6, p7, p8, p9, p10, p11, p12, p13, p14, p15, p16, p17⟩ := hg.plain
  have fin : ∀ {R : RecD}, happyR D = R → applyN D R = 0 ∧ applyD D R = movedD D R → ((movedD D R).count = D.count ∧ (((movedD D R).phase = D.phase + 2) ∨ ((movedD D R).phase = D.phase ∧ leftD (movedD D R) + 1 = leftD D))) → HappyD D := by
    rintro R rfl ⟨h1, h2⟩ ⟨h3, h4⟩
    exact ⟨h1, (apply_taken h1).2.2.2.2, by rw [h2]; exact h3, by rw [h2]; exact h4⟩
  rcases hp with hp | hp
  · obtain ⟨a1, a2, a3, a4, a5, a6, a7, a8, a9, a10⟩ := hg.fw (.inl hp)
    have hn : 0 ≤ D.next ∧ D.next ≤ 1000 := by omega
    cases hf : D.flight with
    | true =>
      have tn := p13 hf
      have hlt : D.next < D.count := by
        by_cases k : D.next = D.count
        · exact absurd (a9 k) tn
        · omega
      have hk : happyK D = 3 := by unfold happyK; rw [allowed_31 hc hf hp]; rfl
      have e : happyR D = ⟨3, 3, D.id, D.next, 0, 9, 0, 0, 0, 0, ⟨#[]⟩, []⟩ := by unfold happyR; rw [hk]; rfl
      refine fin e (apply_ok hc (rec_done3 p1 a5 (by omega) (by decide) (by decide) (by simp)) rfl ⟨by simp, by simp⟩ hn ?_) ?_
      · exact ⟨rfl, by simp, .inl hp, fun _ => hp, (fun h => by rcases h with h | h <;> cases h), (fun h => by cases h), by rw [hf]; rfl, (fun h => by cases h), (fun h => by cases h), fun _ _ => ⟨rfl, by omega⟩, (fun _ h => by omega), (fun h => by rcases h with h | h <;> cases h), (fun h => by cases h), (fun h => by cases h)⟩
      · rw [turn_3 rfl]
        refine ⟨rfl, .inr ⟨rfl, ?_⟩⟩
        unfold leftD
        simp only [hp, hf, if_true]
        rw [if_neg (by decide)]
        omega
    | false =>
      by_cases hlt : D.next < D.count
      · have hk : happyK D = 2 := by unfold happyK; rw [allowed_1 hc hf hp hlt]; rfl
        have e : happyR D = ⟨3, 2, D.id, D.next, min (D.tries + 1) 1000, 9, 0, 0, 0, 0, ⟨#[]⟩, []⟩ := by unfold happyR; rw [hk]; rfl
        refine fin e (apply_ok hc (rec_start2 p1 a5 (by omega) (by omega) (by omega) (by decide) (by decide)) rfl ⟨by simp, by simp⟩ hn ?_) ?_
        · exact ⟨rfl, by simp, .inl hp, fun _ => hp, (fun h => by rcases h with h | h <;> cases h), (fun h => by cases h), by rw [hf]; rfl, (fun h => by cases h), (fun h => by cases h), fun _ _ => ⟨rfl, by omega⟩, (fun _ h => by omega), fun _ => rfl, (fun h => by cases h), (fun h => by cases h)⟩
        · rw [turn_2 (.inl rfl)]
          refine ⟨rfl, .inr ⟨rfl, ?_⟩⟩
          unfold leftD
          simp only [hp, hf, if_true]
          rw [if_neg (by decide)]
          omega
      · have hk : happyK D = 7 := by unfold happyK; rw [allowed_17 hc hf hp hlt]; rfl
        have e : happyR D = ⟨3, 7, D.id, 0, 0, 9, 0, 0, 0, 0, ⟨#[]⟩, []⟩ := by unfold happyR; rw [hk]; rfl
        refine fin e (apply_ok hc (rec_end p1 (by decide) (by decide) (by decide) (by decide)) rfl ⟨by simp, by simp⟩ hn ?_) ?_
        · exact ⟨rfl, by simp, .inl hp, fun _ => hp, (fun h => by rcases h with h | h <;> cases h), (fun h => by cases h), by rw [hf]; rfl, fun _ _ => by omega, (fun _ h => by omega), fun h => absurd rfl h, fun h => absurd rfl h, (fun h => by rcases h with h | h <;> cases h), (fun h => by cases h), fun _ h => absurd rfl h⟩
        · rw [turn_7 rfl]
          exact ⟨rfl, .inl (by simp only [hp, if_true]; rfl)⟩
  · have hnf : ¬ (D.phase = 1 ∨ D.phase = 3) := by omega
    obtain ⟨a1, a2, a3, a4, a5, a6, a7, a8⟩ := hg.bk hnf
    have hn : 0 ≤ D.next ∧ D.next ≤ 1000 := by omega
    have hp1 : ¬ D.phase = 1 := by omega
    cases hf : D.flight with
    | true =>
      have tn := p13 hf
      have hlt : D.next > 0 := a8.resolve_right tn
      have hk : happyK D = 6 := by unfold happyK; rw [allowed_32 hc hf hp]; rfl
      have e : happyR D = ⟨3, 6, D.id, D.next - 1, 0, 9, 0, 0, 0, 0, ⟨#[]⟩, []⟩ := by unfold happyR; rw [hk]; rfl
      refine fin e (apply_ok hc (rec_done6 p1 (by omega) (by omega) (by decide) (by decide) (by simp)) rfl ⟨by simp, by simp⟩ hn ?_) ?_
      · exact ⟨rfl, by simp, .inr hp, (fun h => by rcases h with h | h <;> cases h), fun _ => hp, (fun h => by cases h), by rw [hf]; rfl, (fun h => by cases h), (fun h => by cases h), fun _ h => absurd h hp1, fun _ _ => rfl, (fun h => by rcases h with h | h <;> cases h), (fun h => by cases h), (fun h => by cases h)⟩
      · rw [turn_6 rfl]
        refine ⟨rfl, .inr ⟨rfl, ?_⟩⟩
        unfold leftD
        simp only [hp, hf, if_true]
        rw [if_neg (by decide), if_neg (by decide)]
        omega
    | false =>
      by_cases hlt : D.next > 0
      · have hk : happyK D = 5 := by unfold happyK; rw [allowed_2 hc hf hp hlt]; rfl
        have e : happyR D = ⟨3, 5, D.id, D.next - 1, min (D.tries + 1) 1000, 9, 0, 0, 0, 0, ⟨#[]⟩, []⟩ := by unfold happyR; rw [hk]; rfl
        refine fin e (apply_ok hc (rec_start5 p1 (by omega) (by omega) (by omega) (by omega) (by decide) (by decide)) rfl ⟨by simp, by simp⟩ hn ?_) ?_
        · exact ⟨rfl, by simp, .inr hp, (fun h => by rcases h with h | h <;> cases h), fun _ => hp, (fun h => by cases h), by rw [hf]; rfl, (fun h => by cases h), (fun h => by cases h), fun _ h => absurd h hp1, fun _ _ => rfl, fun _ => rfl, (fun h => by cases h), (fun h => by cases h)⟩
        · rw [turn_2 (.inr rfl)]
          refine ⟨rfl, .inr ⟨rfl, ?_⟩⟩
          unfold leftD
          simp only [hp, hf, if_true]
          rw [if_neg (by decide), if_neg (by decide)]
          omega
      · have hk : happyK D = 7 := by unfold happyK; rw [allowed_27 hc hf hp hlt]; rfl
        have e : happyR D = ⟨3, 7, D.id, 0, 0, 9, 0, 0, 0, 0, ⟨#[]⟩, []⟩ := by unfold happyR; rw [hk]; rfl
        refine fin e (apply_ok hc (rec_end p1 (by decide) (by decide) (by decide) (by decide)) rfl ⟨by simp, by simp⟩ hn ?_) ?_
        · exact ⟨rfl, by simp, .inr hp, (fun h => by rcases h with h | h <;> cases h), fun _ => hp, (fun h => by cases h), by rw [hf]; rfl, (fun _ h => absurd h hp1), fun _ _ => by omega, fun h => absurd rfl h, fun h => absurd rfl h, (fun h => by rcases h with h | h <;> cases h), (fun h => by cases h), fun _ h => absurd rfl h⟩
        · rw [turn_7 rfl]
          exact ⟨rfl, .inl (by simp only [hp1, if_false]; omega)⟩
theorem HappyD.kept {D : SagaD} (h : HappyD D) : KeptD D (applyD D (happyR D)) := by
  rw [(apply_taken h.ok).2.2.2.1]
  exact moved_kept _ _
theorem left_pos {D : SagaD} (hg : GoodD D) (hp : D.phase = 1 ∨ D.phase = 2) : 1 ≤ leftD D ∧ leftD D ≤ 2 * D.count + 1 := by
  obtain ⟨p1, p2, p3, p4, p5, p6, p7, p8, p9, p10, p11, p12, p13, p14, p15, p16, p17⟩ := hg.plain
  unfold leftD
  rcases hp with hp | hp
  · obtain ⟨a1, a2, a3, a4, a5, a6, a7, a8, a9, a10⟩ := hg.fw (.inl hp)
    rw [if_pos hp]
    split
    · next hf =>
      have : ¬ D.next = D.count := fun k => p13 hf (a9 k)
      omega
    · omega
  · obtain ⟨a1, a2, a3, a4, a5, a6, a7, a8⟩ := hg.bk (by omega)
    rw [if_neg (by omega)]
    split
    · next hf =>
      have : D.next > 0 := a8.resolve_right (p13 hf)
      omega
    · omega
end Go.Proofs.YtfbaliimjmimhaaDoor
namespace Go.Proofs.YtfbaliimjmimhaaDoor
open Go.RowKit

/-- The whole numbers that a slice holds. -/
def IntsAt (w : World) (s : Sl) (l : List Int) : Prop := RowAt w s (l.map (Value.int .i64))
theorem IntsAt.below {w w' : World} {s : Sl} {l : List Int} (h : IntsAt w s l) (hb : Below w.heap.size w w') : IntsAt w' s l := RowAt.below h hb
theorem IntsAt.len {w : World} {s : Sl} {l : List Int} (h : IntsAt w s l) : s.n = l.length := by have := RowAt.len h; rw [this]; simp
theorem IntsAt.get {w : World} {s : Sl} {l : List Int} (h : IntsAt w s l) {j : Nat} (hj : j < l.length) : ∃ b o, s.a = some ⟨b, o, none⟩ ∧ w.cell? ⟨b, o + j, none⟩ = some (.int .i64 l[j]) := by
  have hl := h.len
  obtain ⟨b, o, e, hc⟩ := h.2.2 (by omega)
  refine ⟨b, o, e, ?_⟩
  rw [hc j (by omega)]
  simp [hj]
theorem OwnInts.at {w : World} {base : Nat} {v : Value} {l : List Int} (h : OwnInts w base v l) (hl : l.length ≤ 9223372036854775807) : ∃ s : Sl, v = s.v ∧ IntsAt w s l := by
  obtain ⟨s, e, _, hr⟩ := own_row h hl
  exact ⟨s, e, hr⟩
theorem IntsAt.of_lit1 (w : World) (a : Int) (t : TypeId) : IntsAt (w.alloc (.cells #[.int .i64 a] t)) ⟨some ⟨w.heap.size, 0, none⟩, 1, 1⟩ [a] := RowAt.of_lit1 w _ t

theorem take_eq {l m : List Int} {j : Nat} (h1 : j < l.length) (h2 : j < m.length) (h : l.take j = m.take j) (he : l[j] = m[j]) : l.take (j + 1) = m.take (j + 1) := by
  rw [take_snoc l j h1, take_snoc m j h2, h, he]
theorem take_ne {l m : List Int} {j : Nat} (h1 : j < l.length) (h2 : j < m.length) (he : l[j] ≠ m[j]) : l ≠ m := by
  rintro rfl
  exact he rfl

def firstR : RecD := ⟨3, 1, 7, 0, 0, 5, 0, 0, 2, 1, ⟨#[98, 117, 121]⟩, [105, 110]⟩
def firstD : SagaD := ⟨7, ⟨#[98, 117, 121]⟩, 2, 1, 5, 5, [105, 110], 1, 0, false, 0, [], [], 0, 0, []⟩

theorem bytes_lit2 (w : World) (a b : Int) (t : TypeId) (f : Nat × Nat) : BytesAt (w.alloc (.cells #[.int .u8 a, .int .u8 b] t f)) ⟨some ⟨w.heap.size, 0, none⟩, 2, 2⟩ [a, b] := by
  refine ⟨rfl, ⟨by simp, fun h => by cases h⟩, fun _ => ⟨w.heap.size, 0, rfl, fun i hi => ?_⟩⟩
  have hb : (w.alloc (.cells #[.int .u8 a, .int .u8 b] t f)).heap[w.heap.size]? = some (.cells #[.int .u8 a, .int .u8 b] t f) := heap_alloc_new w _
  match i, hi with
  | 0, _ => rw [cell_of_row _ _ _ _ _ _ hb]; rfl
  | 1, _ => rw [cell_of_row _ _ _ _ _ _ hb]; rfl

theorem recArr_first (t : Sl) : recArr (firstR.words t) = #[.int .i64 3, .int .i64 1, .int .i64 7, .int .i64 0, .int .i64 0, .int .i64 5, .int .i64 0, .int .i64 0, .int .i64 2, .int .i64 1, .string ⟨#[98, 117, 121]⟩, t.v] := rfl
theorem firstD_begun : firstD = begunD firstR := rfl
end Go.Proofs.YtfbaliimjmimhaaDoor
namespace Go.Proofs.YtfbaliimjmimhaaDoor
open Go.RowKit

theorem firstD_eq : firstD = firstD' := rfl
theorem fits_first : SagaFits firstD := ⟨by decide, by decide, by decide⟩
theorem allowed_first : allowedD firstD = [2] := by
  have h : checkD firstD = 0 := checkD_first
  unfold allowedD
  rw [h]
  rfl
theorem ListsAt.nil (w : World) : ListsAt w nilSl [] := ⟨[], RowAt.nil _ _ _ (fun _ => rfl), rfl, fun i h => by simp at h⟩
theorem first_rd {w : World} {u : Sl} (h : BytesAt w u [105, 110]) : SagaRd w (firstD.words u nilSl nilSl nilSl) firstD := ⟨rfl, h, ListsAt.nil w, ListsAt.nil w, RowAt.nil _ _ _ (fun _ => rfl)⟩
theorem IntsAt.of_nil (w : World) : IntsAt w nilSl [] := RowAt.nil _ _ _ (fun _ => rfl)

end Go.Proofs.YtfbaliimjmimhaaDoor
namespace Go.Proofs.YtfbaliimjmimhaaDoor
open Go.RowKit

theorem rec_first : recD firstR = 0 := rec_begin (by decide) (by decide) (by decide) (by decide) (by decide) (by decide) (by decide) (by rfl) (by decide)
theorem begin_first : beginN firstR = 0 := by
  unfold beginN
  rw [if_neg (by rw [rec_first]; simp), if_neg (by decide)]
theorem begin_firstD : beginD firstR = firstD := by
  unfold beginD
  rw [if_neg (by rw [begin_first]; simp), up3_3 rfl]
  rfl
theorem good_first : GoodD firstD := (checkD_iff _).1 checkD_first
theorem begin_first_any (t : Sl) (w : World) (ht : Tables w) (hb : BytesAt w t [105, 110]) :
    Calls Tryd.prog 38 #[(firstR.words t).val] w fun e w' => ∃ z : SagaV, e = .returned (.tuple #[z.val, .int .i64 0]) ∧ SagaRd w' z firstD ∧ Below w.heap.size w w' := by
  refine (begin_any (firstR.words t) firstR w ht ⟨rfl, hb⟩ ⟨by decide, by decide⟩).mono ?_
  rintro e w' ⟨z, rfl, ho, hb⟩
  rw [begin_firstD] at ho
  rw [begin_first]
  exact ⟨z, rfl, ho.rd good_first.small, hb⟩
theorem happy_first : happyR firstD = ⟨3, 2, 7, 0, 1, 9, 0, 0, 0, 0, ⟨#[]⟩, []⟩ := by
  have hk : happyK firstD = 2 := by unfold happyK; rw [allowed_first]; rfl
  unfold happyR
  rw [hk]
  rfl
end Go.Proofs.YtfbaliimjmimhaaDoor
namespace Go.Proofs.YtfbaliimjmimhaaDoor
open Go.RowKit

theorem BytesAt.get {w : World} {s : Sl} {l : List Int} (h : BytesAt w s l) {j : Nat} (hj : j < l.length) : ∃ b o, s.a = some ⟨b, o, none⟩ ∧ w.cell? ⟨b, o + j, none⟩ = some (.int .u8 l[j]) := by
  have hl := h.len
  obtain ⟨b, o, e, hc⟩ := h.2.2 (by omega)
  refine ⟨b, o, e, ?_⟩
  rw [hc j (by omega)]
  simp [byteCells, hj]

theorem Drawn.below2 {w w' : World} (h : Below w.heap.size w w') (n : Nat) : Below w.heap.size w (w'.drewN n) := then_ h (Drawn.below ⟨⟨n, rfl⟩⟩)
theorem bytes_take_eq {l m : List Int} {j : Nat} (h1 : j < l.length) (h2 : j < m.length) (h : l.take j = m.take j) (he : l[j] = m[j]) : l.take (j + 1) = m.take (j + 1) := by
  rw [take_snoc l j h1, take_snoc m j h2, h, he]
theorem bytes_take_ne {l m : List Int} {j : Nat} (h1 : j < l.length) (h2 : j < m.length) (he : l[j] ≠ m[j]) : l ≠ m := by
  rintro rfl
  exact he rfl

set_option maxRecDepth 100000 in
set_option maxHeartbeats 1000000 in
theorem alike_any (s t : Sl) (l m : List Int) (w : World) (h : BytesAt w s l) (k : BytesAt w t m) :
    Calls Tryd.prog 25 #[s.v, t.v] w fun e w' => e = .returned (.bool (decide (l = m))) ∧ Drawn w w' := by
  have hl := h.len
  have hk := k.len
  have hmax := h.2.1.1
  have hmax2 := k.2.1.1
  have H := Lib.hid (fun j hj => h.get (j := j) hj)
  have K := Lib.hid (fun j hj => k.get (j := j) hj)
  have hd0 := Drawn.refl w
  clear h k
  obtain ⟨a, n, c⟩ := s
  obtain ⟨a', n', c'⟩ := t
  simp only at hl hmax hk hmax2
  subst hl hk
  dsimp only [Sl.v]
  obtain ⟨B, hB⟩ : ∃ x, decide (l = m) = x := ⟨_, rfl⟩
  rw [hB]
  have HB := Lib.hid hB
  clear hB
  by_cases hlen : l.length = m.length
  · have HL := Lib.hid hlen
    have hlen' : ((l.length : Int) != (m.length : Int)) = false := by simp [hlen]
    rw [hlen] at hlen' hmax
    go_enter Tryd.func25, Tryd.ntmps25
    rw [hlen]
    clear hlen
    go_wp2
    go_loopw [5] (fun i wr => ∃ j : Nat, j ≤ m.length ∧ i = .int .i64 j ∧ Hid (l.take j = m.take j) ∧ Hid (Drawn w wr)) (fun i _ => m.length - (intOf i).toNat)
    case atStart => exact ⟨0, by omega, rfl, Lib.hid (by simp), Lib.hid hd0⟩
    case round =>
      obtain ⟨j, hj, rfl, HN, HD⟩ := hrel
      by_cases hlt : j < m.length
      · have hlt2 : j < l.length := by rw [HL.out]; exact hlt
        obtain ⟨b, o, hA, hc⟩ := H.out j hlt2
        obtain ⟨b', o', hA', hc'⟩ := K.out j hlt
        try simp only at hA hA'
        subst hA hA'
        have hc := (HD.out.cell _).trans hc
        have hc' := (HD.out.cell _).trans hc'
        have ht := Lib.hid (bytes_take_eq hlt2 hlt HN.out)
        have hn := Lib.hid (bytes_take_ne hlt2 hlt)
        obtain ⟨x, hx⟩ : ∃ x, l[j] = x := ⟨_, rfl⟩
        obtain ⟨y, hy⟩ : ∃ x, m[j] = x := ⟨_, rfl⟩
        rw [hx, hy] at ht hn
        rw [hx] at hc
        rw [hy] at hc'
        clear hx hy
        by_cases he : x = y
        · subst he
          have hr := Lib.hid (ht.out rfl)
          clear ht hn HN
          go_wp2
          go_quiet (fail)
          have HD2 := Lib.hid (HD.out.step nq)
          go_wp2
          all_goals go_roundw
          case rel => exact ⟨j + 1, by omega, by go_num, hr, HD2⟩
          case measure => simp [intOf]; omega
        · have hr := Lib.hid (hn.out he)
          have he' : (x != y) = true := by rw [bne_iff_ne]; exact he
          clear ht hn HN
          go_wp2
          go_quiet (fail)
          have HD2 := Lib.hid (HD.out.step nq)
          go_wp2
          all_goals go_ret
          all_goals exact ⟨ret_bool (by rw [← HB.out]; simp [hr.out]), HD2.out⟩
      · obtain rfl : j = m.length := by omega
        have hr : Hid (l = m) := Lib.hid (by have := HN.out; rwa [List.take_length, ← HL.out, List.take_length] at this)
        go_wp2
        all_goals go_ret
        all_goals exact ⟨ret_bool (by rw [← HB.out]; simp [hr.out]), HD.out⟩
  · have hne : Hid (l ≠ m) := Lib.hid (fun e => hlen (by rw [e]))
    have hlen' : decide (l.length = m.length) = false := by simp [hlen]
    go_enter Tryd.func25, Tryd.ntmps25
    go_wp2
    all_goals go_ret
    all_goals exact ⟨ret_bool (by rw [← HB.out]; simp [hne.out]), hd0⟩

theorem lists_take_eq {l m : List (List Int)} {j : Nat} (h1 : j < l.length) (h2 : j < m.length) (h : l.take j = m.take j) (he : l[j] = m[j]) : l.take (j + 1) = m.take (j + 1) := by
  rw [take_snoc l j h1, take_snoc m j h2, h, he]
theorem lists_take_ne {l m : List (List Int)} {j : Nat} (h1 : j < l.length) (h2 : j < m.length) (he : l[j] ≠ m[j]) : l ≠ m := by
  rintro rfl
  exact he rfl
/-- An element of a row of rows. -/
theorem ListsAt.get {w : World} {s : Sl} {l : List (List Int)} (h : ListsAt w s l) : ∃ vs : List Sl, vs.length = l.length ∧ ∀ j (hj : j < l.length), ∃ b o, s.a = some ⟨b, o, none⟩ ∧ w.cell? ⟨b, o + j, none⟩ = some (vs.getD j nilSl).v ∧ BytesAt w (vs.getD j nilSl) l[j] := by
  obtain ⟨vs, h1, h2, h3⟩ := h
  refine ⟨vs, h2, fun j hj => ?_⟩
  obtain ⟨b, o, e, hc⟩ := row_get h1 (j := j) (by omega)
  refine ⟨b, o, e, hc, ?_⟩
  have : vs.getD j nilSl = vs[j] := by simp [List.getD, show j < vs.length by omega]
  rw [this]
  exact h3 j (by omega) hj

set_option maxRecDepth 100000 in
set_option maxHeartbeats 1000000 in
theorem sameLists_any (s t : Sl) (l m : List (List Int)) (w : World) (h : ListsAt w s l) (k : ListsAt w t m) :
    Calls Tryd.prog 26 #[s.v, t.v] w fun e w' => e = .returned (.bool (decide (l = m))) ∧ Drawn w w' := by
  have hl := h.len
  have hk := k.len
  have hmax : s.n ≤ 9223372036854775807 := by obtain ⟨vs, h1, _⟩ := h; exact h1.2.1.1
  have hmax2 : t.n ≤ 9223372036854775807 := by obtain ⟨vs, h1, _⟩ := k; exact h1.2.1.1
  obtain ⟨vs, v1, v2⟩ := h.get
  obtain ⟨us, u1, u2⟩ := k.get
  have H := Lib.hid v2
  have K := Lib.hid u2
  have hd0 := Drawn.refl w
  clear h k v2 u2
  obtain ⟨a, n, c⟩ := s
  obtain ⟨a', n', c'⟩ := t
  simp only at hl hmax hk hmax2
  subst hl hk
  dsimp only [Sl.v]
  obtain ⟨B, hB⟩ : ∃ x, decide (l = m) = x := ⟨_, rfl⟩
  rw [hB]
  have HB := Lib.hid hB
  clear hB
  by_cases hlen : l.length = m.length
  · have HL := Lib.hid hlen
    have hlen' : ((l.length : Int) != (m.length : Int)) = false := by simp [hlen]
    rw [hlen] at hlen' hmax
    go_enter Tryd.func26, Tryd.ntmps26
    rw [hlen]
    clear hlen v1 u1
    go_wp2
    go_loopw [5] (fun i wr => ∃ j : Nat, j ≤ m.length ∧ i = .int .i64 j ∧ Hid (l.take j = m.take j) ∧ Hid (Drawn w wr)) (fun i _ => m.length - (intOf i).toNat)
    case atStart => exact ⟨0, by omega, rfl, Lib.hid (by simp), Lib.hid hd0⟩
    case round =>
      obtain ⟨j, hj, rfl, HN, HD⟩ := hrel
      by_cases hlt : j < m.length
      · have hlt2 : j < l.length := by rw [HL.out]; exact hlt
        obtain ⟨b, o, hA, hc, hb⟩ := H.out j hlt2
        obtain ⟨b', o', hA', hc', hb'⟩ := K.out j hlt
        try simp only at hA hA'
        subst hA hA'
        have hc := (HD.out.cell _).trans hc
        have hc' := (HD.out.cell _).trans hc'
        have cA := Lib.hid (fun w' (hd : Drawn w w') => alike_any _ _ _ _ w' (hb.below hd.below) (hb'.below hd.below))
        have ht := Lib.hid (lists_take_eq hlt2 hlt HN.out)
        have hn := Lib.hid (lists_take_ne hlt2 hlt)
        obtain ⟨x, hx⟩ : ∃ x, l[j] = x := ⟨_, rfl⟩
        obtain ⟨y, hy⟩ : ∃ x, m[j] = x := ⟨_, rfl⟩
        rw [hx, hy] at ht hn cA
        obtain ⟨⟨va, vn, vc⟩, hv⟩ : ∃ x, vs.getD j nilSl = x := ⟨_, rfl⟩
        obtain ⟨⟨ua, un, uc⟩, hu⟩ : ∃ x, us.getD j nilSl = x := ⟨_, rfl⟩
        rw [hv, hu] at cA
        rw [hv] at hc
        rw [hu] at hc'
        dsimp only [Sl.v] at hc hc' cA
        clear hx hy hv hu hb hb'
        by_cases he : x = y
        · rw [decide_eq_true he] at cA
          have hr := Lib.hid (ht.out he)
          clear ht hn HN he
          go_wp2
          go_quiet ((go_at_call 25; exact Calls.quiet_of ((cA.out _ (HD.out.step _)).mono fun _ _ h => ⟨h.1, h.2.out⟩)))
          have HD2 := Lib.hid (HD.out.step nq)
          go_wp2
          all_goals go_roundw
          case rel => exact ⟨j + 1, by omega, by go_num, hr, HD2⟩
          case measure => simp [intOf]; omega
        · rw [decide_eq_false he] at cA
          have hr := Lib.hid (hn.out he)
          clear ht hn HN he
          go_wp2
          go_quiet ((go_at_call 25; exact Calls.quiet_of ((cA.out _ (HD.out.step _)).mono fun _ _ h => ⟨h.1, h.2.out⟩)))
          have HD2 := Lib.hid (HD.out.step nq)
          go_wp2
          all_goals go_ret
          all_goals exact ⟨ret_bool (by rw [← HB.out]; simp [hr.out]), HD2.out⟩
      · obtain rfl : j = m.length := by omega
        have hr : Hid (l = m) := Lib.hid (by have := HN.out; rwa [List.take_length, ← HL.out, List.take_length] at this)
        go_wp2
        all_goals go_ret
        all_goals exact ⟨ret_bool (by rw [← HB.out]; simp [hr.out]), HD.out⟩
  · have hne : Hid (l ≠ m) := Lib.hid (fun e => hlen (by rw [e]))
    have hlen' : decide (l.length = m.length) = false := by simp [hlen]
    go_enter Tryd.func26, Tryd.ntmps26
    clear v1 u1
    go_wp2
    all_goals go_ret
    all_goals exact ⟨ret_bool (by rw [← HB.out]; simp [hne.out]), hd0⟩

theorem name_iff {a b : ByteArray} : a = b ↔ a.toList = b.toList := by
  rw [ByteArray.toList_eq, ByteArray.toList_eq]
  exact ⟨fun h => by rw [h], fun h => by obtain ⟨⟨x⟩⟩ := a; obtain ⟨⟨y⟩⟩ := b; simp at h; rw [h]⟩
/-- Are two sagas the same, field by field? -/
def sameB (D E : SagaD) : Bool := decide (D.id = E.id ∧ D.name = E.name ∧ D.count = E.count ∧ D.pivot = E.pivot ∧ D.begun = E.begun ∧ D.at_ = E.at_ ∧ D.phase = E.phase ∧ D.next = E.next ∧ D.flight = E.flight ∧ D.tries = E.tries ∧ D.failStep = E.failStep ∧ D.failCode = E.failCode ∧ D.input = E.input ∧ D.fail = E.fail ∧ D.outs = E.outs ∧ D.undos = E.undos)
theorem sameB_iff {D E : SagaD} : sameB D E = true ↔ D = E := by
  unfold sameB
  rw [decide_eq_true_eq]
  constructor
  · rintro ⟨a1, a2, a3, a4, a5, a6, a7, a8, a9, a10, a11, a12, a13, a14, a15, a16⟩
    cases D; cases E
    simp_all
  · rintro rfl
    simp
theorem sameB_refl (D : SagaD) : sameB D D = true := sameB_iff.2 rfl

set_option maxRecDepth 10000000 in
set_option maxHeartbeats 4000000 in
theorem same_any (s t : SagaV) (D E : SagaD) (w : World) (hs : SagaRd w s D) (ht : SagaRd w t E) :
    Calls Tryd.prog 15 #[s.val, t.val] w fun e w' => e = .returned (.bool (sameB D E)) ∧ Below w.heap.size w w' := by
  have hb1 := boxd (o := .cells (sagaArr t) 40) (boxd (o := .cells (sagaArr s) 40) (Below.refl w.heap.size w))
  have c1 := fun w' (hb : Below w.heap.size w w') => alike_any s.input t.input D.input E.input w' (hs.held.input.below hb) (ht.held.input.below hb)
  have c2 := fun w' (hb : Below w.heap.size w w') => alike_any s.fail t.fail D.fail E.fail w' (hs.held.fail.below hb) (ht.held.fail.below hb)
  have c3 := fun w' (hb : Below w.heap.size w w') => sameLists_any s.outs t.outs D.outs E.outs w' (hs.held.outs.below hb) (ht.held.outs.below hb)
  have c4 := fun w' (hb : Below w.heap.size w w') => sameLists_any s.undos t.undos D.undos E.undos w' (hs.held.undos.below hb) (ht.held.undos.below hb)
  obtain ⟨b1, e1⟩ : ∃ x, decide (D.input = E.input) = x := ⟨_, rfl⟩
  obtain ⟨b2, e2⟩ : ∃ x, decide (D.fail = E.fail) = x := ⟨_, rfl⟩
  obtain ⟨b3, e3⟩ : ∃ x, decide (D.outs = E.outs) = x := ⟨_, rfl⟩
  obtain ⟨b4, e4⟩ : ∃ x, decide (D.undos = E.undos) = x := ⟨_, rfl⟩
  rw [e1] at c1
  rw [e2] at c2
  rw [e3] at c3
  rw [e4] at c4
  have hq : sameB D E = (decide (s.id = t.id ∧ s.name.toList = t.name.toList ∧ s.count = t.count ∧ s.pivot = t.pivot ∧ s.begun = t.begun ∧ s.at_ = t.at_ ∧ s.phase = t.phase ∧ s.next = t.next ∧ s.flight = t.flight ∧ s.tries = t.tries ∧ s.failStep = t.failStep ∧ s.failCode = t.failCode) && (b1 && (b2 && (b3 && b4)))) := by
    rw [hs.eq, ht.eq, ← e1, ← e2, ← e3, ← e4]
    unfold sameB
    rw [Bool.eq_iff_iff]
    simp only [decide_eq_true_eq, Bool.and_eq_true, and_assoc, name_iff]
  obtain ⟨B, hB⟩ : ∃ x, sameB D E = x := ⟨_, rfl⟩
  rw [hB] at hq
  rw [hB]
  have HQ := Lib.hid hq
  have C1 := Lib.hid c1
  have C2 := Lib.hid c2
  have C3 := Lib.hid c3
  have C4 := Lib.hid c4
  have HB := Lib.hid hb1
  clear hb1 c1 c2 c3 c4 e1 e2 e3 e4 hq hB hs ht
  dsimp only [SagaV.val, Sl.v, sagaArr] at C1 C2 C3 C4 HB
  dsimp only [SagaV.val, Sl.v]
  go_enter Tryd.func15, Tryd.ntmps15
  go_wp2_with (first
    | (go_at_call 25; (with_reducible refine (C1.out _ ?_).mono ?_); (first | exact boxd (boxd (Below.refl _ _)) | exact Drawn.below2 (boxd (boxd (Below.refl _ _))) _); rintro e w2 ⟨rfl, hd⟩; obtain ⟨⟨n1, rfl⟩⟩ := hd)
    | (go_at_call 25; (with_reducible refine (C2.out _ ?_).mono ?_); (first | exact boxd (boxd (Below.refl _ _)) | exact Drawn.below2 (boxd (boxd (Below.refl _ _))) _); rintro e w2 ⟨rfl, hd⟩; obtain ⟨⟨n2, rfl⟩⟩ := hd)
    | (go_at_call 26; (with_reducible refine (C3.out _ ?_).mono ?_); (first | exact boxd (boxd (Below.refl _ _)) | exact Drawn.below2 (boxd (boxd (Below.refl _ _))) _); rintro e w2 ⟨rfl, hd⟩; obtain ⟨⟨n3, rfl⟩⟩ := hd)
    | (go_at_call 26; (with_reducible refine (C4.out _ ?_).mono ?_); (first | exact boxd (boxd (Below.refl _ _)) | exact Drawn.below2 (boxd (boxd (Below.refl _ _))) _); rintro e w2 ⟨rfl, hd⟩; obtain ⟨⟨n4, rfl⟩⟩ := hd))
  all_goals go_ret
  all_goals refine ⟨ret_bool ?_, by first | exact boxd (boxd (Below.refl _ _)) | exact Drawn.below2 (boxd (boxd (Below.refl _ _))) _⟩
  all_goals (rw [HQ.out]; simp_all)
end Go.Proofs.YtfbaliimjmimhaaDoor
