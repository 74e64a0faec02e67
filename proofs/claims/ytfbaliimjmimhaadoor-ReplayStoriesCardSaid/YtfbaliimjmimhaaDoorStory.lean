/-
  The story of a saga that may be leads to just this saga: the law, in plain words. Conditions: none.
-/
import Derived.Test.YtfbaliimjmimhaaDoorPkLaw
namespace Go.Proofs.YtfbaliimjmimhaaDoor
open Go.RowKit

/-- A record is taken, and leads there. -/
structure StepD (S : SagaD) (R : RecD) (S' : SagaD) : Prop where
  taken : applyN S R = 0
  to : applyD S R = S'
theorem StepD.good {S S' : SagaD} {R : RecD} (h : StepD S R S') : GoodD S' := by rw [← h.to]; exact (apply_taken h.taken).2.2.2.2
/-- Records are taken one after the other, and lead there. -/
def PlaysD : SagaD → List RecD → SagaD → Prop
  | S, [], E => S = E
  | S, R :: l, E => applyN S R = 0 ∧ PlaysD (applyD S R) l E
theorem PlaysD.one {S S' : SagaD} {R : RecD} (h : StepD S R S') : PlaysD S [R] S' := ⟨h.taken, h.to⟩
theorem PlaysD.append {l m : List RecD} : ∀ {S S' E : SagaD}, PlaysD S l S' → PlaysD S' m E → PlaysD S (l ++ m) E := by
  induction l with
  | nil => intro S S' E h k; cases h; exact k
  | cons R l ih => intro S S' E h k; exact ⟨h.1, ih h.2 k⟩
theorem PlaysD.good {l : List RecD} : ∀ {S E : SagaD}, GoodD S → PlaysD S l E → GoodD E := by
  induction l with
  | nil => intro S E hg h; cases h; exact hg
  | cons R l ih => intro S E hg h; exact ih (apply_taken h.1).2.2.2.2 h.2

/-- A saga with what records turn laid anew. -/
@[reducible] def stD (D : SagaD) (a ph nx : Int) (fl : Bool) (tr : Int) (os us : List (List Int)) (fs fc : Int) (f : List Int) : SagaD :=
  ⟨D.id, D.name, D.count, D.pivot, D.begun, a, D.input, ph, nx, fl, tr, os, us, fs, fc, f⟩
@[reducible] def startR (D : SagaD) (k st t : Int) : RecD := ⟨3, k, D.id, st, t, D.at_, 0, 0, 0, 0, ⟨#[]⟩, []⟩
@[reducible] def doneR (D : SagaD) (k st : Int) (d : List Int) : RecD := ⟨3, k, D.id, st, 0, D.at_, 0, 0, 0, 0, ⟨#[]⟩, d⟩
@[reducible] def failR (D : SagaD) (st l c : Int) (d : List Int) : RecD := ⟨3, 4, D.id, st, 0, D.at_, l, c, 0, 0, ⟨#[]⟩, d⟩
@[reducible] def endR (D : SagaD) (c : Int) : RecD := ⟨3, 7, D.id, 0, 0, D.at_, 0, c, 0, 0, ⟨#[]⟩, []⟩
@[reducible] def beginR (D : SagaD) : RecD := ⟨3, 1, D.id, 0, 0, D.begun, 0, 0, D.count, D.pivot, D.name, D.input⟩

section
variable {D : SagaD} {a ph nx tr fs fc : Int} {fl : Bool} {os us : List (List Int)} {f : List Int}
theorem st_start (hp : 1 ≤ D.id ∧ 0 ≤ D.at_ ∧ D.at_ ≤ 9223372036854775807) (hg : GoodD (stD D a 1 nx false tr os us fs fc f)) (hlt : nx < D.count) {t : Int} (ht : t = min (tr + 1) 1000) :
    StepD (stD D a 1 nx false tr os us fs fc f) (startR D 2 nx t) (stD D D.at_ 1 nx true t os us fs fc f) := by
  have hc := (checkD_iff _).2 hg
  have p4 := hg.plain.count32
  have p11 := hg.plain.tries0
  have p12 := hg.plain.tries1000
  have a5 := (hg.fw (.inl rfl)).next0
  simp only at p4 p11 p12 a5
  obtain ⟨h1, h2⟩ := apply_ok hc (rec_start2 hp.1 a5 (by omega) (by omega) (by omega) hp.2.1 hp.2.2 : recD (startR D 2 nx t) = 0) rfl ⟨by simp, by simp⟩ ⟨a5, by simp only; omega⟩
    ⟨rfl, by simp, .inl rfl, fun _ => rfl, (fun h => by rcases h with h | h <;> cases h), (fun h => by cases h), rfl, (fun h => by cases h), (fun h => by cases h), fun _ _ => ⟨rfl, by simp only; omega⟩, (fun _ h => by cases h), fun _ => ht, (fun h => by cases h), (fun h => by cases h)⟩
  exact ⟨h1, by rw [h2, turn_2 (.inl rfl)]⟩
theorem st_done (hp : 1 ≤ D.id ∧ 0 ≤ D.at_ ∧ D.at_ ≤ 9223372036854775807) (hg : GoodD (stD D a 1 nx true tr os us fs fc f)) (hlt : nx < D.count) {d : List Int} (hd : d.length ≤ 16384) :
    StepD (stD D a 1 nx true tr os us fs fc f) (doneR D 3 nx d) (stD D D.at_ 1 (nx + 1) false 0 (os ++ [d]) us fs fc f) := by
  have hc := (checkD_iff _).2 hg
  have p4 := hg.plain.count32
  have a5 := (hg.fw (.inl rfl)).next0
  simp only at p4 a5
  obtain ⟨h1, h2⟩ := apply_ok hc (rec_done3 hp.1 a5 (by omega) hp.2.1 hp.2.2 hd : recD (doneR D 3 nx d) = 0) rfl ⟨by simp, by simp⟩ ⟨a5, by simp only; omega⟩
    ⟨rfl, by simp, .inl rfl, fun _ => rfl, (fun h => by rcases h with h | h <;> cases h), (fun h => by cases h), rfl, (fun h => by cases h), (fun h => by cases h), fun _ _ => ⟨rfl, by simp only; omega⟩, (fun _ h => by cases h), (fun h => by rcases h with h | h <;> cases h), (fun h => by cases h), (fun h => by cases h)⟩
  exact ⟨h1, by rw [h2, turn_3 rfl]⟩
/-- A failure that is no last one, while the saga runs. -/
theorem st_again (hp : 1 ≤ D.id ∧ 0 ≤ D.at_ ∧ D.at_ ≤ 9223372036854775807) (hg : GoodD (stD D a 1 nx true tr os us fs fc f)) (hlt : nx < D.count) :
    StepD (stD D a 1 nx true tr os us fs fc f) (failR D nx 0 0 []) (stD D D.at_ 1 nx false tr os us fs fc f) := by
  have hc := (checkD_iff _).2 hg
  have p4 := hg.plain.count32
  have a5 := (hg.fw (.inl rfl)).next0
  simp only at p4 a5
  obtain ⟨h1, h2⟩ := apply_ok hc (rec_fail hp.1 a5 (by omega) hp.2.1 hp.2.2 (by omega) (by omega) (by simp) : recD (failR D nx 0 0 []) = 0) rfl ⟨by simp, by simp⟩ ⟨a5, by simp only; omega⟩
    ⟨rfl, by simp, .inl rfl, fun _ => rfl, (fun h => by rcases h with h | h <;> cases h), (fun _ h => by cases h), rfl, (fun h => by cases h), (fun h => by cases h), fun _ _ => ⟨rfl, by simp only; omega⟩, (fun _ h => by cases h), (fun h => by rcases h with h | h <;> cases h), (fun _ h => by cases h), (fun h => by cases h)⟩
  exact ⟨h1, by rw [h2, turn_4a rfl rfl]⟩
theorem st_fails (hp : 1 ≤ D.id ∧ 0 ≤ D.at_ ∧ D.at_ ≤ 9223372036854775807) (hg : GoodD (stD D a 1 nx true tr os us fs fc f)) (hlt : nx < D.count) {c : Int} {d : List Int} (hd : d.length ≤ 16384) (hpv : 0 < D.pivot → nx < D.pivot) :
    StepD (stD D a 1 nx true tr os us fs fc f) (failR D nx 1 c d) (stD D D.at_ 2 nx false 0 os us nx c d) := by
  have hc := (checkD_iff _).2 hg
  have p4 := hg.plain.count32
  have a5 := (hg.fw (.inl rfl)).next0
  simp only at p4 a5
  obtain ⟨h1, h2⟩ := apply_ok hc (rec_fail hp.1 a5 (by omega) hp.2.1 hp.2.2 (by omega) (by omega) hd : recD (failR D nx 1 c d) = 0) rfl ⟨by simp, by simp⟩ ⟨a5, by simp only; omega⟩
    ⟨rfl, by simp, .inl rfl, fun _ => rfl, (fun h => by rcases h with h | h <;> cases h), (fun _ _ => rfl), rfl, (fun h => by cases h), (fun h => by cases h), fun _ _ => ⟨rfl, by simp only; omega⟩, (fun _ h => by cases h), (fun h => by rcases h with h | h <;> cases h), (fun _ _ => hpv), (fun h => by cases h)⟩
  exact ⟨h1, by rw [h2, turn_4b rfl (show (1 : Int) ≠ 0 by decide)]⟩
theorem st_undo (hp : 1 ≤ D.id ∧ 0 ≤ D.at_ ∧ D.at_ ≤ 9223372036854775807) (hg : GoodD (stD D a 2 nx false tr os us fs fc f)) (hlt : 0 < nx) {t : Int} (ht : t = min (tr + 1) 1000) :
    StepD (stD D a 2 nx false tr os us fs fc f) (startR D 5 (nx - 1) t) (stD D D.at_ 2 nx true t os us fs fc f) := by
  have hc := (checkD_iff _).2 hg
  have p4 := hg.plain.count32
  have p11 := hg.plain.tries0
  have p12 := hg.plain.tries1000
  have b := hg.bk (by simp)
  have b1 := b.count
  have b2 := b.next
  simp only at p4 p11 p12 b1 b2
  obtain ⟨h1, h2⟩ := apply_ok hc (rec_start5 hp.1 (by omega) (by omega) (by omega) (by omega) hp.2.1 hp.2.2 : recD (startR D 5 (nx - 1) t) = 0) rfl ⟨by simp, by simp⟩ ⟨by simp only; omega, by simp only; omega⟩
    ⟨rfl, by simp, .inr rfl, (fun h => by rcases h with h | h <;> cases h), (fun _ => rfl), (fun h => by cases h), rfl, (fun h => by cases h), (fun h => by cases h), (fun _ h => by cases h), (fun _ _ => rfl), fun _ => ht, (fun h => by cases h), (fun h => by cases h)⟩
  exact ⟨h1, by rw [h2, turn_2 (.inr rfl)]⟩
theorem st_undone (hp : 1 ≤ D.id ∧ 0 ≤ D.at_ ∧ D.at_ ≤ 9223372036854775807) (hg : GoodD (stD D a 2 nx true tr os us fs fc f)) (hlt : 0 < nx) {d : List Int} (hd : d.length ≤ 16384) :
    StepD (stD D a 2 nx true tr os us fs fc f) (doneR D 6 (nx - 1) d) (stD D D.at_ 2 (nx - 1) false 0 os (us ++ [d]) fs fc f) := by
  have hc := (checkD_iff _).2 hg
  have p4 := hg.plain.count32
  have b := hg.bk (by simp)
  have b1 := b.count
  have b2 := b.next
  simp only at p4 b1 b2
  obtain ⟨h1, h2⟩ := apply_ok hc (rec_done6 hp.1 (by omega) (by omega) hp.2.1 hp.2.2 hd : recD (doneR D 6 (nx - 1) d) = 0) rfl ⟨by simp, by simp⟩ ⟨by simp only; omega, by simp only; omega⟩
    ⟨rfl, by simp, .inr rfl, (fun h => by rcases h with h | h <;> cases h), (fun _ => rfl), (fun h => by cases h), rfl, (fun h => by cases h), (fun h => by cases h), (fun _ h => by cases h), (fun _ _ => rfl), (fun h => by rcases h with h | h <;> cases h), (fun h => by cases h), (fun h => by cases h)⟩
  exact ⟨h1, by rw [h2, turn_6 rfl]⟩
/-- A failure while the saga is being undone. -/
theorem st_again2 (hp : 1 ≤ D.id ∧ 0 ≤ D.at_ ∧ D.at_ ≤ 9223372036854775807) (hg : GoodD (stD D a 2 nx true tr os us fs fc f)) (hlt : 0 < nx) :
    StepD (stD D a 2 nx true tr os us fs fc f) (failR D (nx - 1) 0 0 []) (stD D D.at_ 2 nx false tr os us fs fc f) := by
  have hc := (checkD_iff _).2 hg
  have p4 := hg.plain.count32
  have b := hg.bk (by simp)
  have b1 := b.count
  have b2 := b.next
  simp only at p4 b1 b2
  obtain ⟨h1, h2⟩ := apply_ok hc (rec_fail hp.1 (by omega) (by omega) hp.2.1 hp.2.2 (by omega) (by omega) (by simp) : recD (failR D (nx - 1) 0 0 []) = 0) rfl ⟨by simp, by simp⟩ ⟨by simp only; omega, by simp only; omega⟩
    ⟨rfl, by simp, .inr rfl, (fun h => by rcases h with h | h <;> cases h), (fun h => by rcases h with h | h <;> cases h), (fun _ h => by cases h), rfl, (fun h => by cases h), (fun h => by cases h), (fun _ h => by cases h), (fun _ _ => rfl), (fun h => by rcases h with h | h <;> cases h), (fun _ h => by cases h), (fun h => by cases h)⟩
  exact ⟨h1, by rw [h2, turn_4a rfl rfl]⟩
theorem st_end1 (hp : 1 ≤ D.id ∧ 0 ≤ D.at_ ∧ D.at_ ≤ 9223372036854775807) (hg : GoodD (stD D a 1 nx false tr os us fs fc f)) (hn : nx = D.count) :
    StepD (stD D a 1 nx false tr os us fs fc f) (endR D 1) (stD D D.at_ 3 nx false tr os us fs fc f) := by
  have hc := (checkD_iff _).2 hg
  have p4 := hg.plain.count32
  have a5 := (hg.fw (.inl rfl)).next0
  simp only at p4 a5
  obtain ⟨h1, h2⟩ := apply_ok hc (rec_end hp.1 hp.2.1 hp.2.2 (by omega) (by omega) : recD (endR D 1) = 0) rfl ⟨by simp, by simp⟩ ⟨a5, by simp only; omega⟩
    ⟨rfl, by simp, .inl rfl, (fun h => by rcases h with h | h <;> cases h), (fun h => by rcases h with h | h <;> cases h), (fun h => by cases h), rfl, (fun _ _ => hn), (fun _ h => by cases h), (fun h => absurd rfl h), (fun h => absurd rfl h), (fun h => by rcases h with h | h <;> cases h), (fun h => by cases h), (fun _ _ => rfl)⟩
  exact ⟨h1, by rw [h2, turn_7 rfl]; rfl⟩
theorem st_end2 (hp : 1 ≤ D.id ∧ 0 ≤ D.at_ ∧ D.at_ ≤ 9223372036854775807) (hg : GoodD (stD D a 2 nx false tr os us fs fc f)) (hn : nx = 0) :
    StepD (stD D a 2 nx false tr os us fs fc f) (endR D 2) (stD D D.at_ 4 nx false tr os us fs fc f) := by
  have hc := (checkD_iff _).2 hg
  obtain ⟨h1, h2⟩ := apply_ok hc (rec_end hp.1 hp.2.1 hp.2.2 (by omega) (by omega) : recD (endR D 2) = 0) rfl ⟨by simp, by simp⟩ ⟨by simp only; omega, by simp only; omega⟩
    ⟨rfl, by simp, .inr rfl, (fun h => by rcases h with h | h <;> cases h), (fun h => by rcases h with h | h <;> cases h), (fun h => by cases h), rfl, (fun _ h => by cases h), (fun _ _ => hn), (fun h => absurd rfl h), (fun h => absurd rfl h), (fun h => by rcases h with h | h <;> cases h), (fun h => by cases h), (fun _ _ => rfl)⟩
  exact ⟨h1, by rw [h2, turn_7 rfl]; rfl⟩
end
end Go.Proofs.YtfbaliimjmimhaaDoor
