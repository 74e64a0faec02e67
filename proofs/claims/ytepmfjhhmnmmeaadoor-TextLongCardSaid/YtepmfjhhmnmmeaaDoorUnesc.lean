/-
  text.unescaped walked: what an escape stands for. Conditions: none.
-/
import Derived.Test.YtepmfjhhmnmmeaaDoorBraced
namespace Go.Proofs.YtepmfjhhmnmmeaaDoor
open Go.RowKit

theorem unesc_one {t : ByteArray} (h : 0 < t.size) : unescL t 0 = (
    if t.get! 0 = 34 ∨ t.get! 0 = 92 then ([t.get! 0], 1) else if t.get! 0 = 110 then ([10], 1) else if t.get! 0 = 116 then ([9], 1) else if t.get! 0 = 114 then ([13], 1)
    else if t.get! 0 = 120 then (if 2 < t.size then (match hexN (partL t 1 2) with | some v => ([UInt8.ofNat v], 3) | none => ([], 0)) else ([], 0))
    else if t.get! 0 = 117 then bracedL t 0 else ([], 0)) := by
  unfold unescL
  rw [if_pos h]
  simp only [Nat.zero_add]
  rfl
theorem head_one {t : ByteArray} (h : 0 < t.size) : t.extract 0 1 = ⟨#[t.get! 0]⟩ := by
  apply ByteArray.ext
  apply Array.toList_inj.1
  rw [part_extract]
  unfold partL
  have := take_get (s := t) (p := 0) h
  simpa using this
theorem hexN_two {l : List UInt8} {v : Nat} (hl : l.length ≤ 2) (h : hexN l = some v) : v < 256 := by
  rw [hexN_fold] at h
  match l, hl with
  | [], _ => simp at h; omega
  | [a], _ =>
    simp only [List.foldl_cons, List.foldl_nil, hexStep] at h
    cases ha : hexV a with
    | none => rw [ha] at h; cases h
    | some x =>
      rw [ha] at h
      have := hexV_lt ha
      simp at h
      omega
  | [a, b], _ =>
    simp only [List.foldl_cons, List.foldl_nil, hexStep] at h
    cases ha : hexV a with
    | none => rw [ha] at h; cases h
    | some x =>
      rw [ha] at h
      cases hb : hexV b with
      | none => rw [hb] at h; cases h
      | some y =>
        rw [hb] at h
        have := hexV_lt ha
        have := hexV_lt hb
        simp at h
        omega
theorem empty_no {t : ByteArray} (h : ¬ t = ⟨#[]⟩) : (t == ⟨#[]⟩) = false := by
  show (t.data == #[]) = false
  rw [beq_eq_false_iff_ne]
  intro e
  exact h (ByteArray.ext e)
theorem ne_int {c : UInt8} {k : Nat} (h : ¬ c = UInt8.ofNat k) : ¬ (c.toNat : Int) = (k : Int) := fun e => by
  apply h
  have : c.toNat = k := by omega
  rw [← this, UInt8.ofNat_toNat]
set_option maxHeartbeats 4000000 in
set_option maxRecDepth 100000 in
theorem unescaped_any (t : ByteArray) (ht : t.size ≤ 4611686018427387904) (w : World) :
    Calls Tryd.prog 43 #[.string t] w fun e w' => e = .returned (escV (unescL t 0)) ∧ Below w.heap.size w w' := by
  by_cases h0 : 0 < t.size
  · have hg := get_at' (s := t) (p := 0) h0
    have HR := unesc_one h0
    have hx1 := head_one h0
    obtain ⟨c, hc⟩ : ∃ c, t.get! 0 = c := ⟨_, rfl⟩
    rw [hc] at hg HR hx1
    have n1 : ¬ t = ⟨#[]⟩ := fun e => by subst e; simp [ByteArray.size] at h0
    have n2 := empty_no n1
    have n3 : t.toList.isEmpty = false := by
      rw [ByteArray.toList_eq]
      have : t.data.toList.length = t.size := rfl
      cases h : t.data.toList with
      | nil => rw [h] at this; simp at this; omega
      | cons a l => rfl
    have s0 : (0 : Int) < (t.size : Int) := by omega
    have s1 : (1 : Int) ≤ (t.size : Int) := by omega
    rw [HR]
    clear HR hc
    by_cases c34 : c = 34
    · subst c34
      rw [if_pos (Or.inl rfl)]
      go_enter Tryd.func43, Tryd.ntmps43
      go_wp2
      all_goals go_ret2
      all_goals exact ⟨by rfl, Below.refl _ _⟩
    by_cases c92 : c = 92
    · subst c92
      rw [if_pos (Or.inr rfl)]
      go_enter Tryd.func43, Tryd.ntmps43
      go_wp2
      all_goals go_ret2
      all_goals exact ⟨by rfl, Below.refl _ _⟩
    rw [if_neg (by rintro (h | h); exact c34 h; exact c92 h)]
    by_cases c110 : c = 110
    · subst c110
      rw [if_pos rfl]
      go_enter Tryd.func43, Tryd.ntmps43
      go_wp2
      all_goals go_ret2
      all_goals exact ⟨by rfl, Below.refl _ _⟩
    rw [if_neg c110]
    by_cases c116 : c = 116
    · subst c116
      rw [if_pos rfl]
      go_enter Tryd.func43, Tryd.ntmps43
      go_wp2
      all_goals go_ret2
      all_goals exact ⟨by rfl, Below.refl _ _⟩
    rw [if_neg c116]
    by_cases c114 : c = 114
    · subst c114
      rw [if_pos rfl]
      go_enter Tryd.func43, Tryd.ntmps43
      go_wp2
      all_goals go_ret2
      all_goals exact ⟨by rfl, Below.refl _ _⟩
    rw [if_neg c114]
    by_cases c120 : c = 120
    · subst c120
      rw [if_pos rfl]
      by_cases h2 : 2 < t.size
      · rw [if_pos h2]
        have z1 : (2 : Int) < (t.size : Int) := by omega
        have z2 : (3 : Int) ≤ (t.size : Int) := by omega
        have hx := hex_any (t.extract 1 3) (by rw [ByteArray.size_extract]; omega)
        unfold hexRes at hx
        rw [part_extract] at hx
        simp only [Nat.reduceSub] at hx
        cases hn : hexN (partL t 1 2) with
        | none =>
          rw [hn] at hx
          have hx := Lib.hid hx
          clear hn
          go_enter Tryd.func43, Tryd.ntmps43
          go_wp2_with (go_at_call 63; (with_reducible refine (hx.out _).mono ?_); rintro e w3 ⟨rfl, hb3⟩)
          all_goals go_ret2
          all_goals exact ⟨by rfl, hb3⟩
        | some v =>
          have hv := hexN_two (partL_len t 1 2) hn
          rw [hn] at hx
          have hx := Lib.hid hx
          clear hn
          have hcv : ∀ W : World, (convert 81 9 (.slice (some ⟨W.heap.size, 0, none⟩) 1 1)).run Tryd.prog (W.alloc (.cells #[.int .u8 (v : Int)] 5)) = .ok (.string ⟨#[UInt8.ofNat v]⟩) (W.alloc (.cells #[.int .u8 (v : Int)] 5)) := fun W =>
            run_convert_bytes_back _ 81 9 5 ⟨W.heap.size, 0, none⟩ 1 [UInt8.ofNat v] Tryd.underlying81 Tryd.underlying5 Tryd.underlying9 (fun j hj => by
              obtain rfl : j = 0 := by simpa using hj
              have e : ((UInt8.ofNat v).toNat : Int) = (v : Int) := by simp; omega
              have := cells_new W [.int .u8 (v : Int)] 5 0 (.int .u8 (v : Int)) rfl
              rw [List.getElem_cons_zero, e]
              exact this)
          go_enter Tryd.func43, Tryd.ntmps43
          go_wp2_with (go_at_call 63; (with_reducible refine (hx.out _).mono ?_); rintro e w3 ⟨rfl, hb3⟩)
          all_goals go_ret2
          all_goals exact ⟨by rfl, hb3.alloc hb3.size _⟩
      · rw [if_neg h2]
        have z1 : ¬ (2 : Int) < (t.size : Int) := by omega
        go_enter Tryd.func43, Tryd.ntmps43
        go_wp2
        all_goals go_ret2
        all_goals exact ⟨by rfl, Below.refl _ _⟩
    rw [if_neg c120]
    by_cases c117 : c = 117
    · subst c117
      rw [if_pos rfl]
      have hb := braced_any t ht w
      unfold escV at hb
      obtain ⟨⟨x1, x2⟩, hxx⟩ : ∃ x, bracedL t 0 = x := ⟨_, rfl⟩
      rw [hxx] at hb ⊢
      simp only at hb
      have hb := Lib.hid hb
      clear hxx
      go_enter Tryd.func43, Tryd.ntmps43
      go_wp2_with (go_at_call 64; (with_reducible refine hb.out.mono ?_); rintro e w3 ⟨rfl, hb3⟩)
      all_goals go_ret2
      all_goals exact ⟨by rfl, hb3⟩
    rw [if_neg c117]
    have e34 := ne_int (k := 34) c34
    have e92 := ne_int (k := 92) c92
    have e110 := ne_int (k := 110) c110
    have e116 := ne_int (k := 116) c116
    have e114 := ne_int (k := 114) c114
    have e120 := ne_int (k := 120) c120
    have e117 := ne_int (k := 117) c117
    clear c34 c92 c110 c116 c114 c120 c117
    obtain ⟨C, hC⟩ : ∃ C : Int, (c.toNat : Int) = C := ⟨_, rfl⟩
    rw [hC] at e34 e92 e110 e116 e114 e120 e117
    go_enter Tryd.func43, Tryd.ntmps43
    go_wp2
    all_goals go_ret2
    all_goals exact ⟨by rfl, Below.refl _ _⟩
  · obtain rfl : t = ⟨#[]⟩ := by
      apply ByteArray.ext
      apply Array.eq_empty_of_size_eq_zero
      show t.size = 0
      omega
    go_enter Tryd.func43, Tryd.ntmps43
    go_wp2
    all_goals go_ret2
    all_goals exact ⟨by rfl, Below.refl _ _⟩
end Go.Proofs.YtepmfjhhmnmmeaaDoor
