/-
  ReplayLifts: what lift.Up leaves, and how the loop stands. Conditions: as each theorem says.
-/
import Derived.Test.YtfbaliimjmimhaaDoorMingSt
import Derived.Test.YtfbaliimjmimhaaDoorLift2
namespace Go.Proofs.YtfbaliimjmimhaaDoor
open Go.RowKit

theorem up3_use (r : RecV) (R : RecD) (w : World) (ht : Tables w) (h : RecRd w r R) (fr : RecFits R) :
    Calls Tryd.prog 16 #[r.val, .int .i64 3] w fun e w' => ∃ (E : Int) (y : RecV), e = .returned (.tuple #[y.val, .int .i64 E]) ∧ (E = 0 → y = (lift3 R).words y.data ∧ OwnBytes w' w.heap.size y.data.v (lift3 R).data) ∧ (E ≠ 0 → lift3 R = R) ∧ Below w.heap.size w w' := by
  have hok : RecOk w r R.data := BeginPre h fr
  by_cases he : recD R = 0
  · refine (up_rd r R w ht hok h.eq h.recEq he).mono ?_
    rintro e w' ⟨t, rfl, ho, hb⟩
    have el : lift3 R = up3 R := by unfold lift3; rw [if_pos he]
    exact ⟨0, (up3 R).words t, rfl, fun _ => by rw [el]; exact ⟨rfl, ho⟩, fun k => absurd rfl k, hb⟩
  · refine (up_bad r R.data w ht hok (by rw [h.recEq]; exact he)).mono ?_
    rintro e w' ⟨rfl, hb⟩
    rw [h.recEq]
    exact ⟨recD R, zeroRecV, rfl, fun k => absurd k he, fun _ => by unfold lift3; rw [if_neg he], hb⟩
theorem up2_use (r : RecV) (R : RecD) (w : World) (ht : Tables w) (h : RecRd w r R) (fr : RecFits R) :
    Calls Tryd.prog 16 #[r.val, .int .i64 2] w fun e w' => ∃ (E : Int) (y : RecV), e = .returned (.tuple #[y.val, .int .i64 E]) ∧ (E = 0 → y = (lift2 R).words y.data ∧ OwnBytes w' w.heap.size y.data.v (lift2 R).data) ∧ (E ≠ 0 → lift2 R = R) ∧ Below w.heap.size w w' := by
  have hok : RecOk w r R.data := BeginPre h fr
  have hrv : r.v = R.v := by rw [h.eq]
  by_cases he : recD R = 0
  · have hn : recN r R.data = 0 := h.recEq.trans he
    have hv := recN_0 hn
    have el : lift2 R = up2 R := by unfold lift2; rw [if_pos he]
    by_cases h3 : r.v = 3
    · refine (up2_way r R.data w ht hok hn h3).mono ?_
      rintro e w' ⟨⟨E, hE, rfl⟩, hb⟩
      exact ⟨E, zeroRecV, rfl, fun k => absurd k hE, fun _ => by rw [el]; unfold up2; rw [if_neg (by omega)], hb⟩
    · refine (up2_good r R.data w ht hok hn (by omega)).mono ?_
      rintro e w' ⟨s, rfl, ho, hb⟩
      obtain ⟨t, h1, h2⟩ := finish2_rd ho
      have e2 : ({ r with data := s } : RecV) = R.words s := by rw [h.eq]
      rw [e2, h1]
      exact ⟨0, (up2 R).words t, rfl, fun _ => by rw [el]; exact ⟨rfl, h2⟩, fun k => absurd rfl k, hb⟩
  · refine (up2_bad r R.data w ht hok (by rw [h.recEq]; exact he)).mono ?_
    rintro e w' ⟨rfl, hb⟩
    rw [h.recEq]
    exact ⟨recD R, zeroRecV, rfl, fun k => absurd k he, fun _ => by unfold lift2; rw [if_neg he], hb⟩
theorem up3_data_le (R : RecD) : (up3 R).data.length ≤ R.data.length := by
  unfold up3
  split
  · split
    · exact Nat.zero_le _
    · split
      · exact Nat.le_refl _
      · split <;> exact Nat.le_refl _
  · exact Nat.le_refl _
theorem lift3_ok {R : RecD} (h : FoldOk R) : FoldOk (lift3 R) := by
  unfold lift3
  split
  · exact ⟨⟨up3_name_le' h.fits, Nat.le_trans (up3_data_le R) h.fits.len⟩, by rw [up3_saga]; exact h.wf⟩
  · exact h
theorem lift2_ok {R : RecD} (h : FoldOk R) : FoldOk (lift2 R) := by
  unfold lift2
  split
  · refine ⟨⟨?_, ?_⟩, by rw [up2_saga]; exact h.wf⟩
    · unfold up2; split
      · exact up3_name_le' h.fits
      · exact h.fits.name
    · unfold up2; split
      · exact Nat.le_trans (up3_data_le R) h.fits.len
      · exact h.fits.len
  · exact h
theorem lift3_len {R : RecD} (h : R.data.length ≤ 9223372036854775807) : (lift3 R).data.length ≤ 9223372036854775807 := by
  unfold lift3
  split
  · exact Nat.le_trans (up3_data_le R) h
  · exact h
theorem lift2_len {R : RecD} (h : R.data.length ≤ 9223372036854775807) : (lift2 R).data.length ≤ 9223372036854775807 := by
  unfold lift2 up2
  split
  · split
    · exact Nat.le_trans (up3_data_le R) h
    · exact h
  · exact h
/-- How the loop stands: two rows of one's own, in different blocks. -/
structure LSt (w wr : World) (B : Nat) (a b : Value) (As Bs : List RecD) : Prop where
  ra : RowSt w wr B a As
  rb : RowSt w wr B b Bs
  apart : ∀ g, a.ownBlock = some g → b.ownBlock ≠ some g
theorem LSt.call {w wr w' : World} {B : Nat} {a b : Value} {As Bs : List RecD} (h : LSt w wr B a b As Bs) (hb : Below wr.heap.size wr w') : LSt w w' B a b As Bs := ⟨h.ra.call hb, h.rb.call hb, h.apart⟩
theorem LSt.swap {w wr : World} {B : Nat} {a b : Value} {As Bs : List RecD} (h : LSt w wr B a b As Bs) : LSt w wr B b a Bs As := ⟨h.rb, h.ra, fun g e k => h.apart g k e⟩
/-- A block that is in no row's way is written. -/
theorem LSt.wrote {w wr w' : World} {B g : Nat} {a b : Value} {As Bs : List RecD} {cs : Array Value} {t : TypeId} (h : LSt w wr B a b As Bs) (hw : Wrote wr w' g) (hk : BlkAt wr g cs t) (h1 : t ≠ 5) (h2 : t ≠ 37) (h3 : a.ownBlock ≠ some g) (h4 : b.ownBlock ≠ some g) (hg : w.heap.size ≤ g) : LSt w w' B a b As Bs :=
  ⟨h.ra.put0 hw hk h1 h2 h3 hg, h.rb.put0 hw hk h1 h2 h4 hg, h.apart⟩
/-- The first row grows. -/
theorem LSt.grow {w wr w' : World} {B H : Nat} {a b a' : Value} {As Bs Ts : List RecD} (h : LSt w wr B a b As Bs) (ho : OwnRecs w' B a' Ts) (hg : wr.grownBy w' a.ownBlock) (hH : wr.heap.size ≤ H) (hat : a'.ownBlock = a.ownBlock ∨ a'.ownBlock = some H) : LSt w w' B a' b Ts Bs := by
  refine ⟨h.ra.put ho hg hH hat, ⟨?_, h.rb.new, h.rb.below.grown hg h.rb.below.size (fun q hq => h.ra.new q hq)⟩, fun g e k => ?_⟩
  · obtain ⟨rs, o1, o2, o3⟩ := h.rb.own
    obtain ⟨qs, p1, _⟩ := h.ra.own
    have hr := rows_rec p1 hg
    refine ⟨rs, World.ownsRow.kept o1 hg ?_, o2, fun i p q => ⟨(o3 i p q).1, (o3 i p q).2.keep hr⟩⟩
    cases hb : b.ownBlock with
    | none => exact .inl rfl
    | some q => exact .inr (fun e => h.apart q e.symm hb)
  · rcases hat with k2 | k2
    · rw [k2] at e
      exact h.apart g e k
    · rw [k2] at e
      cases e
      exact h.rb.ne hH k
/-- A block that is no row's own is as it was when a row grows. -/
theorem LSt.blk {w wr w' : World} {B g : Nat} {a b : Value} {As Bs : List RecD} {cs : Array Value} {t : TypeId} (_h : LSt w wr B a b As Bs) (hg : wr.grownBy w' a.ownBlock) (hk : BlkAt wr g cs t) (hne : a.ownBlock ≠ some g) : BlkAt w' g cs t := blk_grown hk hg (fun e => hne e.symm)
end Go.Proofs.YtfbaliimjmimhaaDoor
