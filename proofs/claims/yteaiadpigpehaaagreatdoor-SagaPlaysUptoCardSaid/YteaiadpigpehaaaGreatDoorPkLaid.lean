/-
  annalslaw10.roomy, full and laid walked: the bytes with seventy-five marks behind them.
  annalslaw10.laid walked: lists with room behind each, and twenty more behind the last.
  Conditions: as each theorem says. (Joined by wip/tools/pack.py.)
-/
import Derived.Test.YteaiadpigpehaaaGreatDoorPkLift
import Derived.Deep.DeepCutAuto
import Derived.Test.YteaiadpigpehaaaGreatDoorPkTurn
import Derived.Deep.AppendLies
namespace Go.Proofs.YteaiadpigpehaaaGreatDoor
open Go.RowKit

/-- The marks behind a list. -/
def marksL : List Int := (List.range 75).map fun (i : Nat) => 201 + (i : Int) % 5
theorem marksL_len : marksL.length = 75 := by simp [marksL]
theorem marksL_get (j : Nat) (h : j < marksL.length) : marksL[j] = 201 + (j : Int) % 5 := by simp [marksL]
def fullD (d : List Int) : List Int := d ++ marksL
theorem fullD_len (d : List Int) : (fullD d).length = d.length + 75 := by rw [fullD, List.length_append, marksL_len]
set_option maxRecDepth 100000 in
set_option maxHeartbeats 1000000 in
theorem roomy_any (s : Sl) (d : List Int) (w : World) (h : BytesAt w s d) (hd : d.length ≤ 1073741824) :
    Calls Tryz.prog 37 #[s.v] w fun e w' => ∃ v, e = .returned v ∧ OwnBytes w' w.heap.size v (fullD d) ∧ Below w.heap.size w w' := by
  have hl := h.len
  obtain ⟨a, n, c⟩ := s
  simp only at hl
  subst hl
  have H := Lib.hid h
  clear h
  dsimp only [Sl.v]
  go_enter Tryz.func37, Tryz.ntmps37
  go_wp2_with (at_builtin; refine wpList_append_row _ rfl (.tmp 5) (.tmp 6) 26 rfl w.heap.size 5 (.int .u8 0) 1 Tryz.underlying26 infoByte rfl _ 0 [] rfl (World.ownsRow_nil _ _ _ _) ⟨a, d.length, c⟩ (byteCells d) rfl H.out (byteCells_one d) ?c1 ?c2 ?c3 ?_)
  case c1 => simp only [maxLen]; omega
  case c2 => omega
  case c3 => simp
  intro v1 w1 hown hgr
  have HO1 : Hid (OwnBytes w1 w.heap.size v1 (d ++ marksL.take 0)) := Lib.hid (by
    rw [List.take_zero, List.append_nil]
    simpa [OwnBytes] using hown)
  have HB1 : Hid (Below w.heap.size w w1) := Lib.hid ((Below.refl w.heap.size w).grown hgr (Nat.le_refl _) (fun k hk => by cases hk))
  clear hown hgr H
  go_wp2_with fail
  go_loopw [3, 4] (fun v c wr => ∃ j : Nat, j ≤ 75 ∧ c = .int .i64 j ∧ Hid (OwnBytes wr w.heap.size v (d ++ marksL.take j)) ∧ Hid (Below w.heap.size w wr)) (fun _ c _ => 75 - (intOf c).toNat)
  case atStart => exact ⟨0, by omega, rfl, HO1, HB1⟩
  case round =>
    obtain ⟨j, hj, rfl, HO, HB⟩ := hrel
    by_cases hlt : j < 75
    · have hj2 : j < marksL.length := by rw [marksL_len]; omega
      have hlen : (d ++ marksL.take j).length = d.length + j := by rw [List.length_append, List.length_take, marksL_len]; omega
      have hsz := HB.out.size
      have HS : Hid (d ++ marksL.take (j + 1) = (d ++ marksL.take j) ++ [201 + (j : Int) % 5]) := Lib.hid (by rw [take_snoc _ _ hj2, marksL_get, List.append_assoc])
      go_wp2_with (at_builtin; refine wpList_append_row _ rfl (.tmp 12) (.tmp 17) 26 rfl w.heap.size 5 (.int .u8 0) 1 Tryz.underlying26 infoByte rfl _ _ _ rfl (World.ownsRow.alloc HO.out _) ⟨some ⟨wr.heap.size, 0, none⟩, 1, 1⟩ [.int .u8 (201 + (j : Int) % 5)] rfl (RowAt.of_lit1 wr _ _) (by simp [Value.oneCell']) ?c1 ?c2 ?c3 ?_)
      case c1 => simp only [maxLen]; omega
      case c2 => omega
      case c3 => simp; omega
      intro v' w3 hown hgr
      have HO3 : Hid (OwnBytes w3 w.heap.size v' (d ++ marksL.take (j + 1))) := Lib.hid (by
        rw [HS.out]
        unfold OwnBytes byteCells
        rw [List.length_append, List.map_append, hlen]
        exact hown)
      have HB3 : Hid (Below w.heap.size w w3) := Lib.hid ((boxd (o := .cells #[.int .u8 (201 + (j : Int) % 5)] 5) HB.out).grown hgr (by simp; omega) (fun q hq => (HO.out.lt q hq).1))
      clear hown hgr
      go_wp2
      all_goals go_roundw
      case rel => exact ⟨j + 1, by omega, by go_num, HO3, HB3⟩
      case measure => simp [intOf]; omega
    · have hk' : j = 75 := by omega
      subst hk'
      have HO3 := Lib.hid (show OwnBytes wr w.heap.size _ (fullD d) by
        have := HO.out
        rwa [List.take_of_length_le (by rw [marksL_len]; omega)] at this)
      go_wp2
      all_goals go_ret
      all_goals exact ⟨_, rfl, HO3.out, HB.out⟩

theorem map_take_snoc {α β : Type} (f : α → β) (l : List α) (j : Nat) (h : j < l.length) : (l.take (j + 1)).map f = (l.take j).map f ++ [f l[j]] := by rw [take_snoc l j h, List.map_append]; rfl
set_option maxRecDepth 100000 in
set_option maxHeartbeats 1000000 in
theorem full_any (l : Sl) (ls : List (List Int)) (w : World) (h : ListsAt w l ls) (hn : ls.length ≤ 1048576) (hd : ∀ d ∈ ls, d.length ≤ 1073741824) :
    Calls Tryz.prog 38 #[l.v] w fun e w' => ∃ v, e = .returned v ∧ OwnLists w' w.heap.size v (ls.map fullD) ∧ Below w.heap.size w w' := by
  obtain ⟨vs, h1, h2, h3⟩ := h
  have hl := h1.1
  rw [List.length_map] at hl
  have hmax := h1.2.1.1
  have H := Lib.hid (fun j hj => row_get h1 (j := j) hj)
  have H3 := Lib.hid h3
  clear h1 h3
  obtain ⟨a, n, c⟩ := l
  simp only at hl hmax
  subst hl
  dsimp only [Sl.v]
  go_enter Tryz.func38, Tryz.ntmps38
  go_wp2
  go_loopw [3, 4] (fun v c wr => ∃ j : Nat, j ≤ vs.length ∧ c = .int .i64 j ∧ Hid (OwnLists wr w.heap.size v ((ls.take j).map fullD)) ∧ Hid (Below w.heap.size w wr)) (fun _ c _ => vs.length - (intOf c).toNat)
  case atStart => exact ⟨0, by omega, rfl, Lib.hid (OwnLists.nil _ _), Lib.hid (Below.refl _ _)⟩
  case round =>
    obtain ⟨j, hj, rfl, HO, HB⟩ := hrel
    by_cases hlt : j < vs.length
    · obtain ⟨b, o, hA, hc⟩ := H.out j hlt
      have hc := (HB.out.cell (World.block_lt_of_cell? _ _ hc)).trans hc
      subst hA
      have hbs := H3.out j hlt (by omega)
      have hj2 : j < ls.length := by omega
      have hgd : vs.getD j nilSl = vs[j] := by simp [List.getD, hlt]
      rw [hgd] at hc
      have cB := Lib.hid (roomy_any vs[j] ls[j] wr (hbs.below HB.out) (hd _ (List.getElem_mem _)))
      have hsn := map_take_snoc fullD ls j hj2
      have hDl : (fullD ls[j]).length ≤ 1073741899 := by rw [fullD_len]; have := hd ls[j] (List.getElem_mem _); omega
      obtain ⟨D, hD⟩ : ∃ x, fullD ls[j] = x := ⟨_, rfl⟩
      rw [hD] at cB hsn hDl
      obtain ⟨⟨va, vn, vc⟩, hv⟩ : ∃ x, vs[j] = x := ⟨_, rfl⟩
      rw [hv] at hc cB
      dsimp only [Sl.v] at hc cB
      have hlen : ((ls.take j).map fullD).length = j := by rw [List.length_map, List.length_take]; omega
      have HS := Lib.hid hsn
      clear hv hD hbs hgd hsn
      go_wp2_with fail
      refine cB.out.mono ?_
      rintro e w2 ⟨v, rfl, hov, hb⟩
      obtain ⟨⟨sa, sn, sc⟩, rfl, -⟩ := hov.at (by omega)
      dsimp only [Sl.v] at hov
      have hsz := HB.out.size
      have hov2 := hov.lower (base := w.heap.size) hsz
      obtain ⟨us, o1, o2, o3⟩ := HO.out.through hb
      have hb1 := boxd (o := .cells #[.slice sa sn sc] 26) (Below.refl w2.heap.size w2)
      have HB2 := Lib.hid (boxd (o := .cells #[.slice sa sn sc] 26) (then_ HB.out hb))
      have O1 := Lib.hid (o1.alloc (.cells #[.slice sa sn sc] 26))
      have O3 := Lib.hid (fun i a b => (o3 i a b).through hb1)
      have OV := Lib.hid (hov2.through hb1)
      have hb2 := hb.size
      have OL := Lib.hid o2
      clear hov hov2 o1 o3 hb1 hb HO o2
      go_wp2_with (at_builtin; refine wpList_append_row _ rfl (.tmp 11) (.tmp 17) 27 rfl w.heap.size 26 (.slice none 0 0) 24 Tryz.underlying27 infoBytes rfl _ _ _ rfl O1.out ⟨some ⟨w2.heap.size, 0, none⟩, 1, 1⟩ [.slice sa sn sc] rfl (RowAt.of_lit1 w2 _ _) (by simp [Value.oneCell']) ?c1 ?c2 ?c3 ?_)
      case c1 => simp only [maxLen]; omega
      case c2 => omega
      case c3 => simp; omega
      intro v' w3 hown hgr
      have HG : Hid (OwnLists w3 w.heap.size v' ((ls.take j).map fullD ++ [D])) := Lib.hid (OwnLists.grown (s := ⟨sa, sn, sc⟩) OL.out O3.out O1.out OV.out (by rw [hlen]; rw [show min j ls.length = j from by omega] at hown; exact hown) hgr)
      rw [← HS.out] at HG
      have HB3 : Hid (Below w.heap.size w w3) := Lib.hid (HB2.out.grown hgr (by simp; omega) (fun k hk => (O1.out.lt k hk).1))
      clear hown hgr O1 O3 OV HB2 OL
      go_wp2
      all_goals go_roundw
      case rel => exact ⟨j + 1, by omega, by go_num, HG, HB3⟩
      case measure => simp [intOf]; omega
    · obtain rfl : j = vs.length := by omega
      have HO2 : Hid (OwnLists wr w.heap.size _ (ls.map fullD)) := Lib.hid (by have := HO.out; rwa [h2, List.take_length] at this)
      go_wp2
      all_goals go_ret
      all_goals exact ⟨_, rfl, HO2.out, HB.out⟩
end Go.Proofs.YteaiadpigpehaaaGreatDoor
namespace Go.Proofs.YteaiadpigpehaaaGreatDoor
open Go.RowKit

/-- A beginning of bytes of one's own. -/
def PreBytes (w : World) (B : Nat) (u : Sl) (d : List Int) : Prop := ∃ (v : Sl) (f : List Int), OwnBytes w B v.v (d ++ f) ∧ u = ⟨v.a, d.length, v.c⟩ ∧ (d ++ f).length ≤ 4294967296
theorem PreBytes.through {w w' : World} {B : Nat} {u : Sl} {d : List Int} (h : PreBytes w B u d) (hb : Below w.heap.size w w') : PreBytes w' B u d := by
  obtain ⟨v, f, h1, h2, h3⟩ := h
  exact ⟨v, f, h1.through hb, h2, h3⟩
theorem PreBytes.kept {w w' : World} {B n : Nat} {u : Sl} {d : List Int} {v : Value} {xs : List Value} (h : PreBytes w B u d) (k : w.ownsRow B 26 1 v n xs) (hg : w.grownBy w' v.ownBlock) : PreBytes w' B u d := by
  obtain ⟨x, f, h1, h2, h3⟩ := h
  exact ⟨x, f, bytes_kept h1 k hg, h2, h3⟩
theorem PreBytes.bytes {w : World} {B : Nat} {u : Sl} {d : List Int} (h : PreBytes w B u d) : BytesAt w u d := by
  obtain ⟨v, f, h1, rfl, h3⟩ := h
  obtain ⟨q1, ⟨q2, q3⟩, q4⟩ := h1.bytes (by omega)
  have hl : v.n = d.length + f.length := by rw [q1]; simp [byteCells]
  refine ⟨by simp [byteCells], ⟨by simp only; omega, q3⟩, fun h0 => ?_⟩
  simp only at h0
  obtain ⟨b, o, e, hc⟩ := q4 (by omega)
  refine ⟨b, o, e, fun i hi => ?_⟩
  simp only at hi
  rw [hc i (by omega)]
  simp [byteCells, List.getElem?_append_left, hi]
/-- Lists that are beginnings of bytes of one's own. -/
def PreLists (w : World) (B : Nat) (v : Value) (ls : List (List Int)) : Prop :=
  ∃ vs : List Sl, w.ownsRow B 26 1 v ls.length (vs.map Sl.v) ∧ vs.length = ls.length ∧ ∀ i (h1 : i < vs.length) (h2 : i < ls.length), PreBytes w B vs[i] ls[i]
theorem PreLists.nil (w : World) (B : Nat) : PreLists w B (.slice none 0 0) [] := ⟨[], World.ownsRow_nil _ _ _ _, rfl, fun i h => by simp at h⟩
theorem PreLists.through {w w' : World} {B : Nat} {v : Value} {ls : List (List Int)} (h : PreLists w B v ls) (hb : Below w.heap.size w w') : PreLists w' B v ls := by
  obtain ⟨vs, h1, h2, h3⟩ := h
  exact ⟨vs, own_through h1 hb, h2, fun i a b => (h3 i a b).through hb⟩
theorem PreLists.kept {w w' : World} {B n : Nat} {u v : Value} {ls : List (List Int)} {xs : List Value} (h : PreLists w B u ls) (k : w.ownsRow B 26 1 v n xs) (hg : w.grownBy w' v.ownBlock) (ha : u.ownBlock = none ∨ u.ownBlock ≠ v.ownBlock) : PreLists w' B u ls := by
  obtain ⟨vs, h1, h2, h3⟩ := h
  exact ⟨vs, h1.kept hg ha, h2, fun i a b => (h3 i a b).kept k hg⟩
theorem PreLists.grown {w w' : World} {B : Nat} {v v' : Value} {ls : List (List Int)} {s : Sl} {d : List Int} {vs : List Sl} (h2 : vs.length = ls.length) (h3 : ∀ i (h1 : i < vs.length) (h2 : i < ls.length), PreBytes w B vs[i] ls[i])
    (h1 : w.ownsRow B 26 1 v ls.length (vs.map Sl.v)) (hs : PreBytes w B s d) (hn : w'.ownsRow B 26 1 v' (ls.length + 1) (vs.map Sl.v ++ [s.v])) (hg : w.grownBy w' v.ownBlock) : PreLists w' B v' (ls ++ [d]) := by
  refine ⟨vs ++ [s], by simpa using hn, by simp [h2], fun i a b => ?_⟩
  by_cases e : i < vs.length
  · rw [List.getElem_append_left e, List.getElem_append_left (by omega)]
    exact (h3 i e (by omega)).kept h1 hg
  · have e1 : i = vs.length := by simp at a; omega
    subst e1
    rw [List.getElem_append_right (by omega), List.getElem_append_right (by omega)]
    simpa using hs.kept h1 hg
theorem PreLists.at {w : World} {B : Nat} {v : Value} {ls : List (List Int)} (h : PreLists w B v ls) (hl : ls.length ≤ 4294967296) : ∃ s : Sl, v = s.v ∧ ListsAt w s ls := by
  obtain ⟨vs, h1, h2, h3⟩ := h
  obtain ⟨s, e, _, hr⟩ := own_row h1 (by omega)
  exact ⟨s, e, vs, hr, h2, fun i a b => (h3 i a b).bytes⟩
theorem PreLists.lt {w : World} {B : Nat} {v : Value} {ls : List (List Int)} (h : PreLists w B v ls) : ∀ k, v.ownBlock = some k → B ≤ k ∧ k < w.heap.size := by
  obtain ⟨vs, h1, _⟩ := h
  exact h1.lt
/-- The two lists that laid makes. -/
structure Laid2 (w0 w : World) (vm vw : Value) (Ms Ws : List (List Int)) : Prop where
  m : PreLists w w0.heap.size vm Ms
  ws : OwnLists w w0.heap.size vw Ws
  apart : vm.ownBlock = none ∨ vm.ownBlock ≠ vw.ownBlock
  below : Below w0.heap.size w0 w
theorem Laid2.through {w0 w w' : World} {vm vw : Value} {Ms Ws : List (List Int)} (h : Laid2 w0 w vm vw Ms Ws) (hb : Below w.heap.size w w') : Laid2 w0 w' vm vw Ms Ws := ⟨h.m.through hb, h.ws.through hb, h.apart, then_ h.below hb⟩
theorem Laid2.growW {w0 w w1 : World} {vm vw : Value} {Ms Ws : List (List Int)} {us : List Sl} {s : Sl} {D : List Int} {o : Obj} {gg cap n : Nat} (h : Laid2 w0 w vm vw Ms Ws) (hw : Ws.length = n) (o1 : w.ownsRow w0.heap.size 26 1 vw n (us.map Sl.v)) (o2 : us.length = Ws.length) (o3 : ∀ i (h1 : i < us.length) (h2 : i < Ws.length), OwnBytes w w0.heap.size (us[i]).v Ws[i])
    (hs : OwnBytes w w0.heap.size s.v D) (hg : (w.alloc o).grownBy w1 vw.ownBlock) (hn : w1.ownsRow w0.heap.size 26 1 (.slice (some ⟨gg, 0, none⟩) (n + 1) cap) (n + 1) (us.map Sl.v ++ [s.v])) (hat : vw.ownBlock = some gg ∨ gg = w.heap.size + 1) :
    Laid2 w0 w1 vm (.slice (some ⟨gg, 0, none⟩) (n + 1) cap) Ms (Ws ++ [D]) ∧ OwnBytes w1 w0.heap.size s.v D := by
  subst hw
  have hb : Below w.heap.size w (w.alloc o) := boxd (Below.refl _ _)
  have p1 := own_through o1 hb
  refine ⟨⟨(h.m.through hb).kept p1 hg h.apart, OwnLists.grown o2 (fun i a b => (o3 i a b).through hb) p1 (hs.through hb) hn hg, ?_, (then_ h.below hb).grown hg (by have := h.below.size; simp; omega) (fun q hq => (p1.lt q hq).1)⟩, bytes_kept (hs.through hb) p1 hg⟩
  rcases hat with hat | hat
  · have e := h.apart
    rw [hat] at e
    exact e
  · refine .inr fun e => ?_
    have := (h.m.lt gg e).2
    omega
theorem Laid2.growM {w0 w w1 : World} {vm vw : Value} {Ms Ws : List (List Int)} {us : List Sl} {s : Sl} {D : List Int} {o : Obj} {gg cap n : Nat} (h : Laid2 w0 w vm vw Ms Ws) (hw : Ms.length = n) (o1 : w.ownsRow w0.heap.size 26 1 vm n (us.map Sl.v)) (o2 : us.length = Ms.length) (o3 : ∀ i (h1 : i < us.length) (h2 : i < Ms.length), PreBytes w w0.heap.size us[i] Ms[i])
    (hs : PreBytes w w0.heap.size s D) (hg : (w.alloc o).grownBy w1 vm.ownBlock) (hn : w1.ownsRow w0.heap.size 26 1 (.slice (some ⟨gg, 0, none⟩) (n + 1) cap) (n + 1) (us.map Sl.v ++ [s.v])) (hat : vm.ownBlock = some gg ∨ gg = w.heap.size + 1) :
    Laid2 w0 w1 (.slice (some ⟨gg, 0, none⟩) (n + 1) cap) vw (Ms ++ [D]) Ws := by
  subst hw
  have hb : Below w.heap.size w (w.alloc o) := boxd (Below.refl _ _)
  have p1 := own_through o1 hb
  refine ⟨PreLists.grown o2 (fun i a b => (o3 i a b).through hb) p1 (hs.through hb) hn hg, lists_kept (h.ws.through hb) p1 hg (apart_sym h.apart), ?_, (then_ h.below hb).grown hg (by have := h.below.size; simp; omega) (fun q hq => (p1.lt q hq).1)⟩
  rcases hat with hat | hat
  · have e := h.apart
    rw [hat] at e
    exact e
  · refine .inr fun e => ?_
    have := (h.ws.lt gg e.symm).2
    omega
theorem heap_alloc_new' (w : World) (o : Obj) {g : Nat} (h : w.heap.size = g) : (w.alloc o).heap[g]? = some o := by subst h; exact heap_alloc_new w o
def moreL : List (List Int) := List.replicate 20 [206]
set_option maxRecDepth 100000 in
set_option maxHeartbeats 2000000 in
theorem laid_any (l : Sl) (ls : List (List Int)) (w : World) (h : ListsAt w l ls) (hn : ls.length ≤ 1048576) (hd : ∀ d ∈ ls, d.length ≤ 1073741824) :
    Calls Tryz.prog 36 #[l.v] w fun e w' => ∃ vm vw, e = .returned (.tuple #[vm, vw]) ∧ Laid2 w w' vm vw (ls ++ moreL) (ls.map fullD) := by
  obtain ⟨i0, hi0, hz0, hz1, hz2⟩ := info_parts infoBytes
  obtain ⟨vs, h1, h2, h3⟩ := h
  have hl := h1.1
  rw [List.length_map] at hl
  have hmax := h1.2.1.1
  have H := Lib.hid (fun j hj => row_get h1 (j := j) hj)
  have H3 := Lib.hid h3
  clear h1 h3
  obtain ⟨a, n, c⟩ := l
  simp only at hl hmax
  subst hl
  dsimp only [Sl.v]
  go_enter Tryz.func36, Tryz.ntmps36
  go_wp2
  go_loopw [4, 5, 6] (fun vm vw c wr => ∃ j : Nat, j ≤ vs.length ∧ c = .int .i64 j ∧ Hid (Laid2 w wr vm vw (ls.take j) ((ls.take j).map fullD))) (fun _ _ c _ => vs.length - (intOf c).toNat)
  case atStart => exact ⟨0, by omega, rfl, Lib.hid ⟨PreLists.nil _ _, OwnLists.nil _ _, .inl rfl, Below.refl _ _⟩⟩
  case round =>
    obtain ⟨j, hj, rfl, HL⟩ := hrel
    by_cases hlt : j < vs.length
    · obtain ⟨b, o, hA, hc⟩ := H.out j hlt
      subst hA
      have hj2 : j < ls.length := by omega
      have hgd : vs.getD j nilSl = vs[j] := by simp [List.getD, hlt]
      rw [hgd] at hc
      have hbs := (H3.out j hlt hj2).below HL.out.below
      have hvn := hbs.len
      have cB := Lib.hid (roomy_any vs[j] ls[j] wr hbs (hd _ (List.getElem_mem _)))
      have hs1 := take_snoc ls j hj2
      have hs2 := map_take_snoc fullD ls j hj2
      have hDl := hd ls[j] (List.getElem_mem _)
      have hFl := fullD_len ls[j]
      obtain ⟨D, hD⟩ : ∃ x, ls[j] = x := ⟨_, rfl⟩
      rw [hD] at cB hs1 hs2 hDl hFl hvn
      obtain ⟨⟨va, vn, vc⟩, hv⟩ : ∃ x, vs[j] = x := ⟨_, rfl⟩
      rw [hv] at hc cB hvn
      have hc0 := hc
      have hc := (HL.out.below.cell (World.block_lt_of_cell? _ _ hc0)).trans hc0
      dsimp only at hvn
      subst hvn
      dsimp only [Sl.v] at hc hc0 cB
      have hlen : (ls.take j).length = j := by rw [List.length_take]; omega
      have hlen2 : ((ls.take j).map fullD).length = j := by rw [List.length_map, hlen]
      have HS1 := Lib.hid hs1
      have HS2 := Lib.hid hs2
      clear hv hD hbs hgd hs1 hs2
      go_wp2_with fail
      refine cB.out.mono ?_
      rintro e w2 ⟨v, rfl, hov, hb⟩
      have hsz := HL.out.below.size
      have hov2 := hov.lower (base := w.heap.size) hsz
      obtain ⟨sl, rfl, -⟩ := hov.at (by omega)
      have HL2 := Lib.hid (HL.out.through hb)
      have hc2 := (hb.cell (World.block_lt_of_cell? _ _ hc)).trans hc
      rcases hov2.2 with ⟨e1, e2⟩ | ⟨gd, capd, cur, e1, q1, q2, q3⟩
      · omega
      · rw [hFl] at e1 q3
        obtain rfl : sl = ⟨some ⟨gd, 0, none⟩, D.length + 75, capd⟩ := slv_inj e1
        have hcd : D.length ≤ capd := by have := q3.1; omega
        have hcd2 : capd ≤ maxLen := q3.2.1
        have hov3 := hov2
        dsimp only [Sl.v]
        obtain ⟨us, o1, o2, o3⟩ := HL2.out.ws
        rw [hlen2] at o1
        have O1 := Lib.hid o1
        have O3 := Lib.hid o3
        have HOV := Lib.hid hov3
        have hsz2 : w.heap.size ≤ w2.heap.size := HL2.out.below.size
        clear q1 q2 q3 hov hov2 hov3 cB hb o1 o3 e1 hsz HL
        go_wp2_with (at_builtin; refine wpList_append_lies _ rfl (.tmp 20) (.tmp 22) 27 rfl w.heap.size 26 i0 _ 1 24 Tryz.underlying27 hi0 hz0 hz1 hz2 rfl (by omega) _ j _ rfl (O1.out.alloc _) ⟨w2.heap.size, 0, none⟩ 1 1 [.slice (some ⟨gd, 0, none⟩) (D.length + 75) capd] rfl rfl (World.news_of_block (cs := #[.slice (some ⟨gd, 0, none⟩) (D.length + 75) capd]) (t := 26) (fr := (0, 0)) (heap_alloc_new w2 _)) (by simp [Value.oneCell']) (by omega) (by simp only [maxLen]; omega) (by omega) (by simp; omega) (w2.heap.size + 1) (by simp) ?_)
        intro gg cap w3 hown hgr hat hlt3
        obtain ⟨hl3, hob⟩ := HL2.out.growW (s := ⟨some ⟨gd, 0, none⟩, D.length + 75, capd⟩) hlen2 O1.out o2 O3.out HOV.out hgr hown hat
        rw [← HS2.out] at hl3
        have HP : Hid (PreBytes w3 w.heap.size ⟨some ⟨gd, 0, none⟩, D.length, capd⟩ D) := Lib.hid ⟨⟨some ⟨gd, 0, none⟩, D.length + 75, capd⟩, marksL, hob, rfl, (by show (fullD D).length ≤ _; omega)⟩
        have hc3 := (hl3.below.cell (World.block_lt_of_cell? _ _ hc0)).trans hc0
        obtain ⟨ms, m1, m2, m3⟩ := hl3.m
        rw [hlen] at m1
        have M1 := Lib.hid m1
        have M3 := Lib.hid m3
        have HL3 := Lib.hid hl3
        have hsz3 : w.heap.size ≤ w3.heap.size := hl3.below.size
        clear hown hgr hat hl3 hob m1 m3 O1 O3 o2 HOV HL2 hc2 hlt3
        go_wp2_with (at_builtin; refine wpList_append_lies _ rfl (.tmp 24) (.tmp 32) 27 rfl w.heap.size 26 i0 _ 1 24 Tryz.underlying27 hi0 hz0 hz1 hz2 rfl (by omega) _ j _ rfl (M1.out.alloc _) ⟨w3.heap.size, 0, none⟩ 1 1 [.slice (some ⟨gd, 0, none⟩) D.length capd] rfl rfl (World.news_of_block (cs := #[.slice (some ⟨gd, 0, none⟩) D.length capd]) (t := 26) (fr := (0, 0)) (heap_alloc_new w3 _)) (by simp [Value.oneCell']) (by omega) (by simp only [maxLen]; omega) (by omega) (by simp; omega) (w3.heap.size + 1) (by simp) ?_)
        intro gg2 cap2 w4 hown hgr hat hlt4
        have hl4 := HL3.out.growM (s := ⟨some ⟨gd, 0, none⟩, D.length, capd⟩) hlen M1.out m2 M3.out HP.out hgr hown hat
        rw [← HS1.out] at hl4
        have HL4 := Lib.hid hl4
        clear hown hgr hat hlt4 hl4 M1 M3 m2 HP HL3 hc3
        go_wp2
        all_goals go_roundw
        case rel => exact ⟨j + 1, by omega, by go_num, HL4⟩
        case measure => simp [intOf]; omega
    · obtain rfl : j = ls.length := by omega
      have HL5 : Hid (Laid2 w wr _ _ (ls ++ moreL.take 0) (ls.map fullD)) := Lib.hid (by
        have := HL.out
        rw [List.take_length] at this
        rw [List.take_zero, List.append_nil]
        exact this)
      clear HL
      go_wp2
      go_loopw [4, 8] (fun vm c wr => ∃ k : Nat, k ≤ 20 ∧ c = .int .i64 k ∧ Hid (Laid2 w wr vm u5 (ls ++ moreL.take k) (ls.map fullD))) (fun _ c _ => 20 - (intOf c).toNat)
      case atStart => exact ⟨0, by omega, rfl, HL5⟩
      case round =>
        obtain ⟨k, hk, rfl, HL⟩ := hrel
        by_cases hlt : k < 20
        · have hsn : ls ++ moreL.take (k + 1) = (ls ++ moreL.take k) ++ [[206]] := by
            have hm : k < moreL.length := by simp [moreL]; omega
            have e : moreL[k] = [206] := List.getElem_replicate _
            rw [take_snoc _ _ hm, e, List.append_assoc]
          have hlen : (ls ++ moreL.take k).length = ls.length + k := by rw [List.length_append, List.length_take]; simp [moreL]; omega
          have hb1 : Below wr.heap.size wr (wr.alloc (.cells #[.int .u8 206] 5)) := boxd (Below.refl _ _)
          have hl2 := HL.out.through hb1
          have hsz : w.heap.size ≤ wr.heap.size := HL.out.below.size
          have hob : OwnBytes (wr.alloc (.cells #[.int .u8 206] 5)) w.heap.size (.slice (some ⟨wr.heap.size, 0, none⟩) 1 1) [206] := by
            have := World.ownsRow_lit (base := w.heap.size) (e := 5) (size := 1) wr #[.int .u8 206] 1 hsz (by simp [maxLen]) rfl
            simpa [OwnBytes, byteCells] using this
          obtain ⟨ms, m1, m2, m3⟩ := hl2.m
          rw [hlen] at m1
          have M1 := Lib.hid m1
          have M3 := Lib.hid m3
          have HL2 := Lib.hid hl2
          have HP : Hid (PreBytes (wr.alloc (.cells #[.int .u8 206] 5)) w.heap.size ⟨some ⟨wr.heap.size, 0, none⟩, 1, 1⟩ [206]) := Lib.hid ⟨⟨some ⟨wr.heap.size, 0, none⟩, 1, 1⟩, [], hob, rfl, by decide⟩
          have HS := Lib.hid hsn
          clear hb1 hl2 hob m1 m3 hsn HL
          go_wp2_with (at_builtin; refine wpList_append_lies _ rfl (.tmp 38) (.tmp 40) 27 rfl w.heap.size 26 i0 _ 1 24 Tryz.underlying27 hi0 hz0 hz1 hz2 rfl (by omega) _ (ls.length + k) _ rfl (M1.out.alloc _) ⟨wr.heap.size + 1, 0, none⟩ 1 1 [.slice (some ⟨wr.heap.size, 0, none⟩) 1 1] rfl rfl (World.news_of_block (cs := #[.slice (some ⟨wr.heap.size, 0, none⟩) 1 1]) (t := 26) (fr := (0, 0)) (heap_alloc_new' (wr.alloc _) _ (by simp))) (by simp [Value.oneCell']) (by omega) (by simp only [maxLen]; omega) (by omega) (by simp; omega) (wr.heap.size + 2) (by simp) ?_)
          intro gg cap w4 hown hgr hat hlt4
          have hl4 := HL2.out.growM (s := ⟨some ⟨wr.heap.size, 0, none⟩, 1, 1⟩) hlen M1.out m2 M3.out HP.out hgr hown (by simpa using hat)
          rw [← HS.out] at hl4
          have HL4 := Lib.hid hl4
          clear hown hgr hat hlt4 hl4 M1 M3 m2 HP HL2
          go_wp2
          all_goals go_roundw
          case rel => exact ⟨k + 1, by omega, by go_num, HL4⟩
          case measure => simp [intOf]; omega
        · have hk' : k = 20 := by omega
          subst hk'
          have HL6 : Hid (Laid2 w wr _ _ (ls ++ moreL) (ls.map fullD)) := Lib.hid (by
            have := HL.out
            rwa [List.take_of_length_le (by simp [moreL])] at this)
          clear HL
          go_wp2
          all_goals go_ret2
          all_goals exact ⟨_, _, rfl, HL6.out⟩
end Go.Proofs.YteaiadpigpehaaaGreatDoor
