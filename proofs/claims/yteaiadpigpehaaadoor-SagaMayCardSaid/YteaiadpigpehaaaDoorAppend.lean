/-
  Appending a row that is read to a row of one's own, whether nil or not: a law for the walk; what an own row holds. Conditions: none.
-/
import Derived.Test.YteaiadpigpehaaaDoorCells
import Derived.Laws.AppendOwn
import Derived.Laws.AppendOwnNone
namespace Go.Proofs.YteaiadpigpehaaaDoor
open Go.RowKit

theorem wpList_append_row {P : Program} (w : World) {ops : Array Oper} {rest : List Oper} {o : Oper} {a : Act} {Q : Exit → Act → World → Prop} (hgd : o.guard = none) (s x : Operand) (t : TypeId)
    (ho : o.op = .call { callee := .builtin .append, args := #[s, x], argTypes := #[t, t] })
    (base : Nat) (e : TypeId) (z : Value) (bytes : Nat) (ht : P.underlying t = some (.slice e)) (hinfo : (P.info? e).map (fun i => (i.zero, i.size, i.bytes)) = some (some z, 1, bytes)) (hzs : z.cells.size = 1)
    (v : Value) (n : Nat) (xs : List Value) (hs : a.eval s = v) (hown : w.ownsRow base e 1 v n xs)
    (src : Sl) (vs : List Value) (hx : a.eval x = src.v) (hrow : RowAt w src vs) (h1 : ∀ u ∈ vs, u.oneCell' = true)
    (h63 : n + src.n ≤ maxLen) (hbytes : (n + src.n) * bytes ≤ 140737488355328) (hbase : base ≤ w.heap.size)
    (h : ∀ v' w', w'.ownsRow base e 1 v' (n + src.n) (xs ++ vs) → w.grownBy w' v.ownBlock → wpList P ops Q rest (a.put o.dst v') w') : wpList P ops Q (o :: rest) a w := by
  obtain ⟨i, hi, hzz⟩ := Option.map_eq_some_iff.1 hinfo
  simp only [Prod.mk.injEq] at hzz
  obtain ⟨hz, hsz, hby⟩ := hzz
  obtain ⟨A, m, c⟩ := src
  have hlen := hrow.1
  simp only at hlen h63 hbytes
  cases A with
  | none =>
    have hc := hrow.2.1.2 rfl
    have hm : m = 0 := by
      rcases Nat.eq_zero_or_pos m with h0 | h0
      · exact h0
      · obtain ⟨_, _, h', _⟩ := hrow.2.2 h0
        cases h'
    simp only at hc
    subst hc hm
    have hvs : vs = [] := List.eq_nil_of_length_eq_zero hlen.symm
    subst hvs
    refine wpList_append_own_none hgd s x t ho base e i 1 ht hi v n xs hs hown hx ?_
    exact h v w (by simpa using hown) (World.grownBy.refl _ _)
  | some ad =>
    refine wpList_append_own w hgd s x t ho base e i z 1 bytes ht hi hz hsz hby hzs (by decide) v n xs hs hown ad m c vs hx (by simp [hlen]) ?_ h1 h63 hbytes hbase (fun v' w' p q _ => h v' w' p q)
    intro j u hu
    have hj : j < vs.length := (List.getElem?_eq_some_iff.1 hu).1
    obtain ⟨b, o', e', hc⟩ := hrow.2.2 (show 0 < m by omega)
    obtain rfl : ad = ⟨b, o', none⟩ := Option.some.inj e'
    rw [show (⟨b, o', none⟩ : Addr).add j = ⟨b, o' + j, none⟩ by unfold Addr.add; split <;> simp_all, hc j (show j < m by omega)]
    exact hu

/-- What an own row of one-cell values holds. -/
theorem own_row {w : World} {base : Nat} {e : TypeId} {v : Value} {n : Nat} {xs : List Value} (h : w.ownsRow base e 1 v n xs) (hn : n ≤ 9223372036854775807) : ∃ s : Sl, v = s.v ∧ s.n = n ∧ RowAt w s xs := by
  have hl := h.1
  rcases h.2 with ⟨rfl, hn0⟩ | ⟨g, cap, cur, rfl, h3, h4, h5, h6, h7, h8⟩
  · subst hn0
    have hxs : xs = [] := List.eq_nil_of_length_eq_zero (by simpa using hl)
    subst hxs
    exact ⟨⟨none, 0, 0⟩, rfl, rfl, RowAt.nil _ _ _ (fun _ => rfl)⟩
  · refine ⟨⟨some ⟨g, 0, none⟩, n, cap⟩, rfl, rfl, by simpa using hl.symm, ⟨hn, fun h' => by cases h'⟩, fun _ => ⟨g, 0, rfl, fun i hi => ?_⟩⟩
    rw [Nat.zero_add]
    exact h.cellAt i (by simpa using hi)
theorem byteCells_one (d : List Int) : ∀ u ∈ byteCells d, u.oneCell' = true := by
  intro u hu
  obtain ⟨n, _, rfl⟩ := List.mem_map.1 hu
  rfl
theorem infoByte : (Tryd.prog.info? 5).map (fun i => (i.zero, i.size, i.bytes)) = some (some (.int .u8 0), 1, 1) := by kernel_rfl
theorem infoBytes : (Tryd.prog.info? 22).map (fun i => (i.zero, i.size, i.bytes)) = some (some (.slice none 0 0), 1, 24) := by kernel_rfl
end Go.Proofs.YteaiadpigpehaaaDoor
