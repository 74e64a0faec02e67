/-
  record.Check walked: whether a record is valid in its version. Conditions: the tables of letters, of unicode/utf8 and of the tags as laid.
-/
import Derived.Test.YteaiadpigpehaaaDoorRecFns
namespace Go.Proofs.YteaiadpigpehaaaDoor
open Go.RowKit

def mayL : List Nat := [2062, 14, 2062, 2062, 14, 2062, 6, 3366, 62, 2094, 2158, 62, 2094, 38, 3878, 62, 2094, 2286, 62, 2094, 166]
def MayAt (w : World) : Prop := ∀ i, i < 21 → w.cell? ⟨0, i, none⟩ = some (.int .u16 (mayL.getD i 0 : Nat))
theorem MayAt.below {w w' : World} (h : MayAt w) (hb : Below w.heap.size w w') : MayAt w' := fun i hi => (hb.cell (World.block_lt_of_cell? w _ (h i hi))).trans (h i hi)

def tagErr (r : RecV) (d : List Int) (T tag : Nat) : Int := if standsB T tag = true then boundsN r d tag else if zeroB r tag = true then 0 else 33
def recFrom (r : RecV) (d : List Int) (T : Nat) : Nat → Nat → Int
  | 0, _ => 0
  | f + 1, tag => if tagErr r d T tag = 0 then recFrom r d T f (tag + 1) else tagErr r d T tag
def recN (r : RecV) (d : List Int) : Int :=
  if r.v < 1 ∨ 3 < r.v then 3 else if r.kind < 1 ∨ 7 < r.kind then 31 else if r.saga < 1 then 32 else recFrom r d (mayL.getD ((r.v - 1).toNat * 7 + (r.kind - 1).toNat) 0) 9 3

/-- What is left to be asked at a tag. -/
def RecAtTag (r : RecV) (d : List Int) (T j : Nat) : Prop := recFrom r d T 9 3 = recFrom r d T (12 - j) j
theorem RecAtTag.start (r : RecV) (d : List Int) (T : Nat) : RecAtTag r d T 3 := rfl
theorem RecAtTag.bad {r : RecV} {d : List Int} {T j : Nat} {x : Int} (h : RecAtTag r d T j) (hj : j < 12) (he : tagErr r d T j = x) (hx : ¬ x = 0) : recFrom r d T 9 3 = x := by
  rw [h, show 12 - j = (11 - j) + 1 by omega, recFrom, he, if_neg hx]
theorem RecAtTag.on {r : RecV} {d : List Int} {T j : Nat} (h : RecAtTag r d T j) (hj : j < 12) (he : tagErr r d T j = 0) : RecAtTag r d T (j + 1) := by
  unfold RecAtTag
  rw [h, show 12 - j = (11 - j) + 1 by omega, recFrom, if_pos he, show 12 - (j + 1) = 11 - j by omega]
theorem RecAtTag.good {r : RecV} {d : List Int} {T : Nat} (h : RecAtTag r d T 12) : recFrom r d T 9 3 = 0 := by
  rw [h]; rfl

theorem stands_is {T tag : Nat} {b : Bool} (h : standsB T tag = b) (h0 : T < 65536) (h1 : tag < 12) (w : World) :
    Calls Tryd.prog 69 #[.int .u16 T, .int .i64 tag] w fun e w' => e = .returned (.bool b) ∧ w' = w := by
  rw [← h]; exact stands_any T tag h0 h1 w
theorem zero_is {r : RecV} {g tag : Nat} {b : Bool} (h : zeroB r tag = b) (h1 : 3 ≤ tag) (h2 : tag ≤ 11) (w : World) (hr : RecIn w g 0 r) :
    Calls Tryd.prog 70 #[.pointer (some ⟨g, 0, none⟩), .int .i64 tag] w fun e w' => e = .returned (.bool b) ∧ w' = w := by
  rw [← h]; exact zero_any g tag r h1 h2 w hr
theorem bounds_is {g tag : Nat} {r : RecV} {d : List Int} {x : Int} (h : boundsN r d tag = x) (h1 : 3 ≤ tag) (h2 : tag ≤ 11) (w : World) (hn : r.name.size ≤ 4611686018427387904) (ht : Tabs w) (hr : RecIn w g 0 r) (hd : BytesAt w r.data d) (hdl : d.length ≤ 4611686018427387904) :
    Calls Tryd.prog 71 #[.pointer (some ⟨g, 0, none⟩), .int .i64 tag] w fun e w' => e = .returned (.int .i64 x) ∧ Below w.heap.size w w' := by
  rw [← h]; exact bounds_any g tag r d h1 h2 w hn ht hr hd hdl

/-- What a record handed in is to be. -/
structure RecOk (w : World) (r : RecV) (d : List Int) : Prop where
  name : r.name.size ≤ 4611686018427387904
  len : d.length ≤ 4611686018427387904
  data : BytesAt w r.data d
theorem RecOk.below {w w' : World} {r : RecV} {d : List Int} (h : RecOk w r d) (hb : Below w.heap.size w w') : RecOk w' r d := ⟨h.name, h.len, h.data.below hb⟩

/-- What a round of record.Check's loop leans on. -/
structure RecRound (w : World) (g : Nat) (r : RecV) (d : List Int) : Prop where
  tabs : Tabs w
  ok : RecOk w r d
  here : RecIn w g 0 r
theorem RecRound.below {w w' : World} {g : Nat} {r : RecV} {d : List Int} (h : RecRound w g r d) (hb : Below w.heap.size w w') : RecRound w' g r d := ⟨h.tabs.below hb, h.ok.below hb, h.here.below hb⟩

theorem recN_v {r : RecV} {d : List Int} (h : r.v < 1 ∨ 3 < r.v) : recN r d = 3 := by unfold recN; rw [if_pos h]
theorem recN_kind {r : RecV} {d : List Int} (h : ¬ (r.v < 1 ∨ 3 < r.v)) (h2 : r.kind < 1 ∨ 7 < r.kind) : recN r d = 31 := by unfold recN; rw [if_neg h, if_pos h2]
theorem recN_saga {r : RecV} {d : List Int} (h : ¬ (r.v < 1 ∨ 3 < r.v)) (h2 : ¬ (r.kind < 1 ∨ 7 < r.kind)) (h3 : r.saga < 1) : recN r d = 32 := by unfold recN; rw [if_neg h, if_neg h2, if_pos h3]
theorem recN_tags {r : RecV} {d : List Int} {V K : Nat} (h : r.v = V + 1) (h2 : r.kind = K + 1) (hV : V < 3) (hK : K < 7) (h3 : ¬ r.saga < 1) : recN r d = recFrom r d (mayL.getD (V * 7 + K) 0) 9 3 := by
  unfold recN; rw [if_neg (by omega), if_neg (by omega), if_neg h3]
  congr 2
  omega

set_option maxRecDepth 10000000 in
set_option maxHeartbeats 4000000 in
theorem recCheck_any (r : RecV) (d : List Int) (w : World) (ht : Tabs w) (hm : MayAt w) (hok : RecOk w r d) :
    Calls Tryd.prog 44 #[r.val] w fun e w' => e = .returned (.int .i64 (recN r d)) ∧ Below w.heap.size w w' := by
  have hB := Below.refl w.heap.size w
  by_cases hv : r.v < 1 ∨ 3 < r.v
  · rw [recN_v hv]
    obtain ⟨v, kind, saga, step, try_, at_, last, code, count, pivot, name, ⟨da, dn, dc⟩⟩ := r
    simp only at hv
    clear ht hm hok
    dsimp only [RecV.val, Sl.v]
    rcases hv with hv | hv
    all_goals
      go_enter Tryd.func44, Tryd.ntmps44
      go_wp2
      all_goals go_ret
      all_goals exact ⟨rfl, boxd hB⟩
  by_cases hk : r.kind < 1 ∨ 7 < r.kind
  · rw [recN_kind hv hk]
    obtain ⟨v, kind, saga, step, try_, at_, last, code, count, pivot, name, ⟨da, dn, dc⟩⟩ := r
    simp only at hv hk
    have hv1 : ¬ v < 1 := by omega
    have hv3 : ¬ 3 < v := by omega
    clear ht hm hok hv
    dsimp only [RecV.val, Sl.v]
    rcases hk with hk | hk
    all_goals
      go_enter Tryd.func44, Tryd.ntmps44
      go_wp2
      all_goals go_ret
      all_goals exact ⟨rfl, boxd hB⟩
  by_cases hs : r.saga < 1
  · rw [recN_saga hv hk hs]
    obtain ⟨v, kind, saga, step, try_, at_, last, code, count, pivot, name, ⟨da, dn, dc⟩⟩ := r
    simp only at hv hk hs
    have hv1 : ¬ v < 1 := by omega
    have hv3 : ¬ 3 < v := by omega
    have hk1 : ¬ kind < 1 := by omega
    have hk3 : ¬ 7 < kind := by omega
    clear ht hm hok hv hk
    dsimp only [RecV.val, Sl.v]
    go_enter Tryd.func44, Tryd.ntmps44
    go_wp2
    all_goals go_ret
    all_goals exact ⟨rfl, boxd hB⟩
  obtain ⟨V, hV⟩ : ∃ V : Nat, r.v = V + 1 := ⟨(r.v - 1).toNat, by omega⟩
  obtain ⟨K, hK⟩ : ∃ K : Nat, r.kind = K + 1 := ⟨(r.kind - 1).toNat, by omega⟩
  have hV3 : V < 3 := by omega
  have hK7 : K < 7 := by omega
  rw [recN_tags hV hK hV3 hK7 hs]
  have hcell := (hm.below (boxd (o := .cells #[.int .i64 r.v, .int .i64 r.kind, .int .i64 r.saga, .int .i64 r.step, .int .i64 r.try_, .int .i64 r.at_, .int .i64 r.last, .int .i64 r.code, .int .i64 r.count, .int .i64 r.pivot, .string r.name, r.data.v] 27) hB)) (V * 7 + K) (by omega)
  have hR := Lib.hid (RecIn.new w r 27)
  have hT : mayL.getD (V * 7 + K) 0 < 65536 := by
    have : ∀ i, i < 21 → mayL.getD i 0 < 65536 := by decide
    exact this _ (by omega)
  obtain ⟨T, hTT⟩ : ∃ x, mayL.getD (V * 7 + K) 0 = x := ⟨_, rfl⟩
  rw [hTT] at hcell hT
  rw [hTT]
  clear hTT hm hv hk
  have RR : Hid (RecRound _ w.heap.size r d) := Lib.hid (⟨ht.below (boxd hB), hok.below (boxd hB), hR.out⟩ : RecRound _ w.heap.size r d)
  clear hR ht hok
  obtain ⟨res, hres⟩ : ∃ x, recFrom r d T 9 3 = x := ⟨_, rfl⟩
  obtain ⟨v, kind, saga, step, try_, at_, last, code, count, pivot, name, ⟨da, dn, dc⟩⟩ := r
  simp only at hV hK hs
  subst hV hK
  dsimp only [Sl.v] at hcell RR
  dsimp only [RecV.val, Sl.v]
  have HRES := Lib.hid hres
  rw [hres]
  clear hres
  go_enter Tryd.func44, Tryd.ntmps44
  go_wp2
  go_quiet (fail)
  go_wp2
  go_loopw [4] (fun c wr => ∃ j : Nat, 3 ≤ j ∧ j ≤ 12 ∧ c = .int .i64 j ∧ Hid (RecRound wr w.heap.size ⟨V + 1, K + 1, saga, step, try_, at_, last, code, count, pivot, name, ⟨da, dn, dc⟩⟩ d) ∧ Hid (Below w.heap.size w wr) ∧ Hid (RecAtTag ⟨V + 1, K + 1, saga, step, try_, at_, last, code, count, pivot, name, ⟨da, dn, dc⟩⟩ d T j)) (fun c _ => 12 - (intOf c).toNat)
  case atStart => exact ⟨3, by omega, by omega, rfl, Lib.hid (RR.out.below (Drawn.below ⟨⟨_, rfl⟩⟩)), Lib.hid (then_ (boxd hB) (Drawn.below ⟨⟨_, rfl⟩⟩)), Lib.hid (RecAtTag.start _ _ _)⟩
  case round =>
    obtain ⟨j, hj3, hj12, rfl, HR, HB, HA⟩ := hrel
    by_cases hlt : j < 12
    · obtain ⟨sb, hsb⟩ : ∃ x, standsB T j = x := ⟨_, rfl⟩
      have cS := Lib.hid (fun w => stands_is hsb hT hlt w)
      cases sb with
      | false =>
        obtain ⟨zb, hzb⟩ : ∃ x, zeroB ⟨V + 1, K + 1, saga, step, try_, at_, last, code, count, pivot, name, ⟨da, dn, dc⟩⟩ j = x := ⟨_, rfl⟩
        have cZ := Lib.hid (zero_is hzb hj3 (by omega) wr HR.out.here)
        have hte : tagErr ⟨V + 1, K + 1, saga, step, try_, at_, last, code, count, pivot, name, ⟨da, dn, dc⟩⟩ d T j = if zb = true then 0 else 33 := by unfold tagErr; rw [hsb, hzb]; rfl
        cases zb with
        | false =>
          have hr := HA.out.bad hlt hte (by decide)
          rw [HRES.out] at hr
          simp at hr
          subst hr
          clear hzb hsb hte HRES
          go_wp2_with (first
            | (go_at_call 69; (with_reducible refine (cS.out _).mono ?_); rintro e w2 ⟨rfl, rfl⟩)
            | (go_at_call 70; (with_reducible refine cZ.out.mono ?_); rintro e w2 ⟨rfl, rfl⟩))
          all_goals go_ret
          all_goals exact ⟨rfl, HB.out⟩
        | true =>
          have HA2 := Lib.hid (HA.out.on hlt hte)
          clear hzb hsb hte HA
          go_wp2_with (first
            | (go_at_call 69; (with_reducible refine (cS.out _).mono ?_); rintro e w2 ⟨rfl, rfl⟩)
            | (go_at_call 70; (with_reducible refine cZ.out.mono ?_); rintro e w2 ⟨rfl, rfl⟩))
          all_goals go_roundw
          case rel => exact ⟨j + 1, by omega, by omega, by go_num, HR, HB, HA2⟩
          case measure => simp [intOf]; omega
      | true =>
        obtain ⟨x, hx⟩ : ∃ x, boundsN ⟨V + 1, K + 1, saga, step, try_, at_, last, code, count, pivot, name, ⟨da, dn, dc⟩⟩ d j = x := ⟨_, rfl⟩
        have cN := Lib.hid (bounds_is hx hj3 (by omega) wr HR.out.ok.name HR.out.tabs HR.out.here HR.out.ok.data HR.out.ok.len)
        have hte : tagErr ⟨V + 1, K + 1, saga, step, try_, at_, last, code, count, pivot, name, ⟨da, dn, dc⟩⟩ d T j = x := by unfold tagErr; rw [hsb, hx]; rfl
        by_cases hx0 : x = 0
        · subst hx0
          have HA2 := Lib.hid (HA.out.on hlt hte)
          clear hx hsb hte HA
          go_wp2_with (first
            | (go_at_call 69; (with_reducible refine (cS.out _).mono ?_); rintro e w2 ⟨rfl, rfl⟩)
            | (go_at_call 71; (with_reducible refine cN.out.mono ?_); rintro e w2 ⟨rfl, hb⟩; have HX := Lib.hid hb; clear hb))
          all_goals go_roundw
          case rel => exact ⟨j + 1, by omega, by omega, by go_num, Lib.hid (HR.out.below HX.out), Lib.hid (then_ HB.out HX.out), HA2⟩
          case measure => simp [intOf]; omega
        · have hr := HA.out.bad hlt hte hx0
          rw [HRES.out] at hr
          subst hr
          clear hx hsb hte HRES
          go_wp2_with (first
            | (go_at_call 69; (with_reducible refine (cS.out _).mono ?_); rintro e w2 ⟨rfl, rfl⟩)
            | (go_at_call 71; (with_reducible refine cN.out.mono ?_); rintro e w2 ⟨rfl, hb⟩; have HX := Lib.hid hb; clear hb))
          all_goals go_ret
          all_goals exact ⟨rfl, then_ HB.out HX.out⟩
    · obtain rfl : j = 12 := by omega
      have hr := HA.out.good
      rw [HRES.out] at hr
      subst hr
      go_wp2
      all_goals go_ret
      all_goals exact ⟨rfl, HB.out⟩
end Go.Proofs.YteaiadpigpehaaaDoor
