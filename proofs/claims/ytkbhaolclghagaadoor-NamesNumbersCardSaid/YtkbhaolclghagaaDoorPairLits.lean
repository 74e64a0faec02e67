/-
  annalslaw0.errs and annalslaw0.limits walked: the two lists of pairs, in new blocks. Conditions: none.
-/
import Derived.Test.YtkbhaolclghagaaDoorBase
import Derived.Great.CaseRows
namespace Go.Proofs.YtkbhaolclghagaaDoor
open Go.RowKit Go.Great

/-- The operation that builds one pair of equal numbers, as it is laid. -/
def prOp (t : TypeId) (pos : String) (d : Nat) (x : Int) : Oper :=
  { dst := some d, op := .build t #[(0, .const (.int .i64 x)), (1, .const (.int .i64 x))], type := t, pos := pos, after := #[], guard := none }
def prOps (t : TypeId) (pos : String) : Nat → List Int → List Oper
  | _, [] => []
  | d, x :: xs => prOp t pos d x :: prOps t pos (d + 1) xs
def pair2 (x : Int) : List Value := [.int .i64 x, .int .i64 x]

theorem wpList_prs {P : Program} {ops : Array Oper} {rest : List Oper} {w : World} {Q : Exit → Act → World → Prop} (t : TypeId) (pos : String)
    (hb : ∀ x y : Int, P.built t [(0, .int .i64 x), (1, .int .i64 y)] = some #[.int .i64 x, .int .i64 y]) :
    ∀ (xs : List Int) (d : Nat) (a : Act), d + xs.length ≤ a.tmps.size →
      (∀ a' : Act, a'.tmps.size = a.tmps.size → a'.defers = a.defers → (∀ i (h : i < xs.length), a'.eval (.tmp (d + i)) = .agg (pair2 xs[i]).toArray) →
        (∀ j, j < d → a'.eval (.tmp j) = a.eval (.tmp j)) → wpList P ops Q rest a' w) →
      wpList P ops Q (prOps t pos d xs ++ rest) a w
  | [], d, a, _, h => h a rfl rfl (fun i hi => absurd hi (by simp)) (fun _ _ => rfl)
  | x :: xs, d, a, hd, h => by
    have hlt : d < a.tmps.size := by simp at hd; omega
    show wpList P ops Q (prOp t pos d x :: (prOps t pos (d + 1) xs ++ rest)) a w
    refine wpList_buildTo rfl t _ rfl (some d) rfl (pair2 x).toArray (by simpa [Act.eval, pair2] using hb x x) ?_
    refine wpList_prs t pos hb xs (d + 1) _ (by rw [Act.size_put]; simp at hd; omega) fun a' hs hdf hev hlow => ?_
    refine h a' (hs.trans (Act.size_put _ _ _)) (hdf.trans (Act.defers_put' _ _ _)) (fun i hi => ?_) (fun j hj => ?_)
    · cases i with
      | zero => rw [Nat.add_zero, hlow d (by omega), Act.eval_put_same _ _ _ hlt]; rfl
      | succ i =>
        have := hev i (by simpa using hi)
        rw [show d + (i + 1) = d + 1 + i by omega, this]
        rfl
    · rw [hlow j (by omega), Act.eval_put_ne _ _ _ _ (by omega)]

def pairCells (zs : List Int) : Array Value := (zs.flatMap pair2).toArray
theorem pairCells_get (zs : List Int) : ∀ i (h : i < zs.length), (zs.flatMap pair2)[i * 2]? = some (.int .i64 zs[i]) ∧ (zs.flatMap pair2)[i * 2 + 1]? = some (.int .i64 zs[i]) := by
  induction zs with
  | nil => intro i h; simp at h
  | cons z zs ih =>
    intro i h
    cases i with
    | zero => exact ⟨rfl, rfl⟩
    | succ i =>
      have := ih i (by simpa using h)
      rw [List.flatMap_cons, show (i + 1) * 2 = i * 2 + 2 by omega, show i * 2 + 2 + 1 = (i * 2 + 1) + 2 by omega]
      exact ⟨this.1, this.2⟩
theorem results_put {fn : Func} (h : fn.results = #[.tmp 0]) (a : Act) (v : Value) (P : Program) (w : World) (hs : 0 < a.tmps.size) : (results fn (a.put (some 0) v).tmps).run P w = .ok v w := by
  rw [results_tmp h]
  simp [Act.put, hs]

theorem assigned {P : Program} {a : Act} {w : World} {k : Nat} {v : Value} {o : Oper} (ho : o.op = .assign (.tmp k)) (h : a.eval (.tmp k) = v) :
    (execOp a.eval o).run P w = .ok (.value v) w := by
  rw [← h]
  unfold execOp
  rw [ho]
  rfl

def errsZ : List Int := [0, 1, 2, 3, 10, 11, 12, 13, 14, 15, 16, 20, 21, 22, 23, 24, 25, 26, 27, 28, 29, 31, 32, 33, 34, 35, 36, 37, 38, 40, 41, 50, 51, 52, 53, 60, 61, 62, 63, 64, 65, 70, 72, 73, 74, 75, 76, 80, 81, 82, 83, 84, 85, 86, 90, 91, 92, 93, 94, 95, 100, 101, 102, 103, 104, 105, 106, 107, 108, 109, 110, 111, 130, 131, 132, 133, 134, 135, 136, 137, 138, 139, 140, 141, 142, 150, 151, 152, 153, 154, 155, 156, 160, 161, 162, 163, 170, 171, 172, 173, 174, 175, 176, 180, 181, 182, 183, 184, 190, 191, 192, 193, 200, 201, 202, 203, 204, 205, 206, 207, 208, 209]
set_option maxRecDepth 1000000 in
set_option maxHeartbeats 4000000 in
theorem errs_any (w : World) : Calls Tryd.prog 4 #[] w fun e w' => e = .returned (.slice (some ⟨w.heap.size, 0, none⟩) 122 122) ∧ w' = w.alloc (.cells (pairCells errsZ) 25) := by
  refine calls_of_wp Tryd.func4 rfl ?_
  refine wp_anyFrame 124 (by as_aux_lemma => kernel_rfl) rfl fun b0 hb0 he0 => ?_
  apply wp_seq_k; intro K1 hK1
  apply wp_region_lit
  refine wpList_runTo rfl (some 0) rfl (.slice none 0 0) w rfl ?_
  apply wpList_nil
  refine hK1 _ _ ?_
  refine wp_anyFrame 124 (by rw [Act.size_put, hb0]) (by rw [Act.defers_put', he0]) fun a0 hs0 hd0 => ?_
  apply wp_seq_k; intro K0 hK0
  apply wp_region_lit
  refine wpList_splitAt 122 (prOps 25 "names.go:14" 1 errsZ) (by as_aux_lemma => kernel_rfl) ?_
  refine wpList_prs 25 "names.go:14" (fun _ _ => by as_aux_lemma => kernel_rfl) errsZ 1 _ (by rw [hs0]; exact Nat.le_of_ble_eq_true (by as_aux_lemma => kernel_rfl)) fun a1 hs1 hd1 hev1 _ => ?_
  refine wpList_buildRows rfl 22 25 _ 2 (errsZ.map fun x => .agg (pair2 x).toArray) rfl (fun i => 1 + i) w.heap.size rfl (some 123) rfl (by as_aux_lemma => kernel_rfl) (by as_aux_lemma => kernel_rfl) (by as_aux_lemma => kernel_rfl) (by decide) (by decide) (by decide) (by as_aux_lemma => kernel_rfl) (fun v hv => by obtain ⟨x, _, rfl⟩ := List.mem_map.1 hv; rfl) (fun i hi => by rw [List.getElem_map]; exact hev1 i (by simpa using hi)) ?_
  have e1 : (a1.put (some 123) (.slice (some ⟨w.heap.size, 0, none⟩) 122 122)).eval (.tmp 123) = .slice (some ⟨w.heap.size, 0, none⟩) 122 122 := Act.eval_put_same a1 123 _ (by rw [hs1, hs0]; decide)
  refine wpList_runTo rfl (some 0) rfl (.slice (some ⟨w.heap.size, 0, none⟩) 122 122) (w.alloc (.cells ((errsZ.map fun x => Value.agg (pair2 x).toArray).flatMap fun v => v.cells.toList).toArray 25)) (assigned rfl e1) ?_
  apply wpList_nil
  refine hK0 _ _ ?_
  refine wp_ret ?_
  refine bodyPost_ret (results_put rfl _ _ _ _ (by rw [Act.size_put, hs1, hs0]; exact Nat.le_of_ble_eq_true (by as_aux_lemma => kernel_rfl))) (by rw [Act.defers_put', Act.defers_put', hd1, hd0]) ⟨rfl, ?_⟩
  have e : ((errsZ.map fun x => Value.agg (pair2 x).toArray).flatMap fun v => v.cells.toList) = errsZ.flatMap pair2 := by simp [List.flatMap_map, Value.cells]
  rw [e]
  rfl

def limitsZ : List Int := [9223372036854775807, 32, 1000, 48, 16384, 1048576, 16, 64, 65536, 524288, 128, 1099511627776, 40, 4194304, 16, 16, 16777216, 8388608, 1024, 65536, 256, 64, 165, 1, 2, 3, 4, 5, 6, 7, 1, 2, 3, 4, 1, 2, 3, 4, 0, 1, 2, 3, 4, 5, 0, 1, 2, 3, 4, 5, 6, 1, 2, 3, 4, 0, 1, 2, 3, 0, 1, 2, 3, 4, 5, 6, 7, 8, 9, 10, 11, 12, 13, 0, 1, 2, 3, 4, 1, 2]
set_option maxRecDepth 1000000 in
set_option maxHeartbeats 4000000 in
theorem limits_any (w : World) : Calls Tryd.prog 5 #[] w fun e w' => e = .returned (.slice (some ⟨w.heap.size, 0, none⟩) 80 80) ∧ w' = w.alloc (.cells (pairCells limitsZ) 25) := by
  refine calls_of_wp Tryd.func5 rfl ?_
  refine wp_anyFrame 82 (by as_aux_lemma => kernel_rfl) rfl fun b0 hb0 he0 => ?_
  apply wp_seq_k; intro K1 hK1
  apply wp_region_lit
  refine wpList_runTo rfl (some 0) rfl (.slice none 0 0) w rfl ?_
  apply wpList_nil
  refine hK1 _ _ ?_
  refine wp_anyFrame 82 (by rw [Act.size_put, hb0]) (by rw [Act.defers_put', he0]) fun a0 hs0 hd0 => ?_
  apply wp_seq_k; intro K0 hK0
  apply wp_region_lit
  refine wpList_splitAt 80 (prOps 25 "names.go:142" 1 limitsZ) (by as_aux_lemma => kernel_rfl) ?_
  refine wpList_prs 25 "names.go:142" (fun _ _ => by as_aux_lemma => kernel_rfl) limitsZ 1 _ (by rw [hs0]; exact Nat.le_of_ble_eq_true (by as_aux_lemma => kernel_rfl)) fun a1 hs1 hd1 hev1 _ => ?_
  refine wpList_buildRows rfl 22 25 _ 2 (limitsZ.map fun x => .agg (pair2 x).toArray) rfl (fun i => 1 + i) w.heap.size rfl (some 81) rfl (by as_aux_lemma => kernel_rfl) (by as_aux_lemma => kernel_rfl) (by as_aux_lemma => kernel_rfl) (by decide) (by decide) (by decide) (by as_aux_lemma => kernel_rfl) (fun v hv => by obtain ⟨x, _, rfl⟩ := List.mem_map.1 hv; rfl) (fun i hi => by rw [List.getElem_map]; exact hev1 i (by simpa using hi)) ?_
  have e1 : (a1.put (some 81) (.slice (some ⟨w.heap.size, 0, none⟩) 80 80)).eval (.tmp 81) = .slice (some ⟨w.heap.size, 0, none⟩) 80 80 := Act.eval_put_same a1 81 _ (by rw [hs1, hs0]; decide)
  refine wpList_runTo rfl (some 0) rfl (.slice (some ⟨w.heap.size, 0, none⟩) 80 80) (w.alloc (.cells ((limitsZ.map fun x => Value.agg (pair2 x).toArray).flatMap fun v => v.cells.toList).toArray 25)) (assigned rfl e1) ?_
  apply wpList_nil
  refine hK0 _ _ ?_
  refine wp_ret ?_
  refine bodyPost_ret (results_put rfl _ _ _ _ (by rw [Act.size_put, hs1, hs0]; exact Nat.le_of_ble_eq_true (by as_aux_lemma => kernel_rfl))) (by rw [Act.defers_put', Act.defers_put', hd1, hd0]) ⟨rfl, ?_⟩
  have e : ((limitsZ.map fun x => Value.agg (pair2 x).toArray).flatMap fun v => v.cells.toList) = limitsZ.flatMap pair2 := by simp [List.flatMap_map, Value.cells]
  rw [e]
  rfl
end Go.Proofs.YtkbhaolclghagaaDoor
