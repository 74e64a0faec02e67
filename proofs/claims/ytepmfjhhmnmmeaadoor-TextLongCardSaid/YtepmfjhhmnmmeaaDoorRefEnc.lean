/-
  annalsref2.encoded, braced, escape walked: the bytes of a rune, what an escape stands for. Conditions: none.
-/
import Derived.Test.YtepmfjhhmnmmeaaDoorRefHex
import Derived.Test.YtepmfjhhmnmmeaaDoorUnqLaw
import Derived.Test.YtepmfjhhmnmmeaaDoorBuilder
import Derived.OwnWalk
namespace Go.Proofs.YtepmfjhhmnmmeaaDoor
open Go.RowKit

/-- A list of bytes lies there. -/
def BytesIn (w : World) (v : Value) (x : List UInt8) : Prop := ∃ g c, v = .slice (some ⟨g, 0, none⟩) x.length c ∧ ∀ j u, (Lib.byteCells x)[j]? = some u → w.cell? ((⟨g, 0, none⟩ : Addr).add j) = some u
theorem bytesIn_new (w : World) (l : List Value) (x : List UInt8) (h : l = Lib.byteCells x) (t : TypeId) : BytesIn (w.alloc (.cells l.toArray t)) (.slice (some ⟨w.heap.size, 0, none⟩) x.length x.length) x :=
  ⟨w.heap.size, x.length, rfl, fun j u hj => cells_new w l t j u (h ▸ hj)⟩
theorem quo64 (r : Nat) (k : Nat) : ((r : Int).tdiv k) = ((r / k : Nat) : Int) := by
  rw [Int.tdiv_eq_ediv_of_nonneg (by omega)]
  exact (Int.natCast_ediv r k).symm
theorem rem64 (r : Nat) (k : Nat) : ((r : Int).tmod k) = ((r % k : Nat) : Int) := by
  rw [Int.tmod_eq_emod_of_nonneg (by omega)]
  exact (Int.natCast_emod r k).symm
theorem u8_in {n : Nat} (h : n < 256) : IntKind.u8.wrap (n : Int) = (n : Int) := by simp [IntKind.wrap, IntKind.bits, IntKind.signed]; omega
theorem cell8 {n : Nat} (h : n < 256) : ((UInt8.ofNat n).toNat : Int) = (n : Int) := by
  rw [UInt8.toNat_ofNat']
  omega
set_option maxHeartbeats 1000000 in
set_option maxRecDepth 100000 in
theorem encoded_any (r : Nat) (hr : r ≤ 1114111) (w : World) :
    Calls Tryd.prog 81 #[.int .i64 r] w fun e w' => ∃ v, e = .returned v ∧ BytesIn w' v (encL r) ∧ Below w.heap.size w w' := by
  by_cases c1 : r < 128
  · have hE : Hid (encL r = [UInt8.ofNat r]) := Lib.hid (if_pos c1)
    have u1 := u8_in (n := r) (by omega)
    have v1 := cell8 (n := r) (by omega)
    have z1 : (r : Int) < 128 := by omega
    have z0 : (0 : Int) ≤ (r : Int) := by omega
    have V1 := Lib.hid v1
    clear v1
    go_enter Tryd.func81, Tryd.ntmps81
    go_wp2
    all_goals go_ret
    all_goals exact ⟨_, rfl, by rw [hE.out]; exact bytesIn_new w [.int .u8 (r : Int)] [UInt8.ofNat r] (by simp only [Lib.byteCells, List.map_cons, List.map_nil, V1.out]) _, (Below.refl _ _).alloc (Nat.le_refl _) _⟩
  by_cases c2 : r < 2048
  · have hE : Hid (encL r = [UInt8.ofNat (192 + r / 64), UInt8.ofNat (128 + r % 64)]) := Lib.hid (by unfold encL; rw [if_neg c1, if_pos c2])
    have V1 := Lib.hid (cell8 (n := 192 + r / 64) (by omega))
    have V2 := Lib.hid (cell8 (n := 128 + r % 64) (by omega))
    have z1 : ¬ (r : Int) < 128 := by omega
    have z2 : (r : Int) < 2048 := by omega
    have q1 := quo64 r 64
    have m1 := rem64 r 64
    have q2 : (r : Int) / 64 = ((r / 64 : Nat) : Int) := by omega
    have m2 : (r : Int) % 64 = ((r % 64 : Nat) : Int) := by omega
    have b1 : r / 64 < 32 := by omega
    have b2 : r % 64 < 64 := by omega
    obtain ⟨q, hq⟩ : ∃ q, r / 64 = q := ⟨_, rfl⟩
    obtain ⟨m, hm⟩ : ∃ m, r % 64 = m := ⟨_, rfl⟩
    rw [hq] at q1 q2 b1 V1 hE
    rw [hm] at m1 m2 b2 V2 hE
    have u1 : IntKind.u8.wrap (192 + (q : Int)) = ((192 + q : Nat) : Int) := by simp [IntKind.wrap, IntKind.bits, IntKind.signed]; omega
    have u2 : IntKind.u8.wrap (128 + (m : Int)) = ((128 + m : Nat) : Int) := by simp [IntKind.wrap, IntKind.bits, IntKind.signed]; omega
    clear hq hm c1 c2
    go_enter Tryd.func81, Tryd.ntmps81
    go_wp2
    all_goals go_ret
    all_goals exact ⟨_, rfl, by rw [hE.out]; exact bytesIn_new w [.int .u8 ((192 + q : Nat) : Int), .int .u8 ((128 + m : Nat) : Int)] [UInt8.ofNat (192 + q), UInt8.ofNat (128 + m)] (by simp only [Lib.byteCells, List.map_cons, List.map_nil, V1.out, V2.out]) _, (Below.refl _ _).alloc (Nat.le_refl _) _⟩
  by_cases c3 : r < 65536
  · have hE : Hid (encL r = [UInt8.ofNat (224 + r / 4096), UInt8.ofNat (128 + r / 64 % 64), UInt8.ofNat (128 + r % 64)]) := Lib.hid (by unfold encL; rw [if_neg c1, if_neg c2, if_pos c3])
    have V1 := Lib.hid (cell8 (n := 224 + r / 4096) (by omega))
    have V2 := Lib.hid (cell8 (n := 128 + r / 64 % 64) (by omega))
    have V3 := Lib.hid (cell8 (n := 128 + r % 64) (by omega))
    have z1 : ¬ (r : Int) < 128 := by omega
    have z2 : ¬ (r : Int) < 2048 := by omega
    have z3 : (r : Int) < 65536 := by omega
    have q1 := quo64 r 4096
    have q3 := quo64 r 64
    have m1 := rem64 r 64
    have m3 := rem64 (r / 64) 64
    have q2 : (r : Int) / 4096 = ((r / 4096 : Nat) : Int) := by omega
    have q4 : (r : Int) / 64 = ((r / 64 : Nat) : Int) := by omega
    have m2 : (r : Int) % 64 = ((r % 64 : Nat) : Int) := by omega
    have m4 : ((r / 64 : Nat) : Int) % 64 = ((r / 64 % 64 : Nat) : Int) := by omega
    have b1 : r / 4096 < 16 := by omega
    have b2 : r % 64 < 64 := by omega
    have b3 : r / 64 % 64 < 64 := by omega
    obtain ⟨h, hh⟩ : ∃ q, r / 4096 = q := ⟨_, rfl⟩
    obtain ⟨n, hn⟩ : ∃ q, r / 64 % 64 = q := ⟨_, rfl⟩
    obtain ⟨m, hm⟩ : ∃ m, r % 64 = m := ⟨_, rfl⟩
    rw [hh] at q1 q2 b1 V1 hE
    rw [hn] at m3 m4 b3 V2 hE
    rw [hm] at m1 m2 b2 V3 hE
    obtain ⟨q, hq⟩ : ∃ q, r / 64 = q := ⟨_, rfl⟩
    rw [hq] at q3 q4 m3 m4
    have u1 : IntKind.u8.wrap (224 + (h : Int)) = ((224 + h : Nat) : Int) := by simp [IntKind.wrap, IntKind.bits, IntKind.signed]; omega
    have u2 : IntKind.u8.wrap (128 + (n : Int)) = ((128 + n : Nat) : Int) := by simp [IntKind.wrap, IntKind.bits, IntKind.signed]; omega
    have u3 : IntKind.u8.wrap (128 + (m : Int)) = ((128 + m : Nat) : Int) := by simp [IntKind.wrap, IntKind.bits, IntKind.signed]; omega
    clear hh hn hm hq c1 c2 c3
    go_enter Tryd.func81, Tryd.ntmps81
    go_wp2
    all_goals go_ret
    all_goals exact ⟨_, rfl, by rw [hE.out]; exact bytesIn_new w [.int .u8 ((224 + h : Nat) : Int), .int .u8 ((128 + n : Nat) : Int), .int .u8 ((128 + m : Nat) : Int)] [UInt8.ofNat (224 + h), UInt8.ofNat (128 + n), UInt8.ofNat (128 + m)] (by simp only [Lib.byteCells, List.map_cons, List.map_nil, V1.out, V2.out, V3.out]) _, (Below.refl _ _).alloc (Nat.le_refl _) _⟩
  · have hE : Hid (encL r = [UInt8.ofNat (240 + r / 262144), UInt8.ofNat (128 + r / 4096 % 64), UInt8.ofNat (128 + r / 64 % 64), UInt8.ofNat (128 + r % 64)]) := Lib.hid (by unfold encL; rw [if_neg c1, if_neg c2, if_neg c3])
    have V0 := Lib.hid (cell8 (n := 240 + r / 262144) (by omega))
    have V1 := Lib.hid (cell8 (n := 128 + r / 4096 % 64) (by omega))
    have V2 := Lib.hid (cell8 (n := 128 + r / 64 % 64) (by omega))
    have V3 := Lib.hid (cell8 (n := 128 + r % 64) (by omega))
    have z1 : ¬ (r : Int) < 128 := by omega
    have z2 : ¬ (r : Int) < 2048 := by omega
    have z3 : ¬ (r : Int) < 65536 := by omega
    have q0 := quo64 r 262144
    have q1 := quo64 r 4096
    have q3 := quo64 r 64
    have m1 := rem64 r 64
    have m3 := rem64 (r / 64) 64
    have m5 := rem64 (r / 4096) 64
    have q5 : (r : Int) / 262144 = ((r / 262144 : Nat) : Int) := by omega
    have q2 : (r : Int) / 4096 = ((r / 4096 : Nat) : Int) := by omega
    have q4 : (r : Int) / 64 = ((r / 64 : Nat) : Int) := by omega
    have m2 : (r : Int) % 64 = ((r % 64 : Nat) : Int) := by omega
    have m4 : ((r / 64 : Nat) : Int) % 64 = ((r / 64 % 64 : Nat) : Int) := by omega
    have m6 : ((r / 4096 : Nat) : Int) % 64 = ((r / 4096 % 64 : Nat) : Int) := by omega
    have b0 : r / 262144 < 8 := by omega
    have b1 : r / 4096 % 64 < 64 := by omega
    have b2 : r % 64 < 64 := by omega
    have b3 : r / 64 % 64 < 64 := by omega
    obtain ⟨a, ha⟩ : ∃ q, r / 262144 = q := ⟨_, rfl⟩
    obtain ⟨h, hh⟩ : ∃ q, r / 4096 % 64 = q := ⟨_, rfl⟩
    obtain ⟨n, hn⟩ : ∃ q, r / 64 % 64 = q := ⟨_, rfl⟩
    obtain ⟨m, hm⟩ : ∃ m, r % 64 = m := ⟨_, rfl⟩
    rw [ha] at q0 q5 b0 V0 hE
    rw [hh] at m5 m6 b1 V1 hE
    rw [hn] at m3 m4 b3 V2 hE
    rw [hm] at m1 m2 b2 V3 hE
    obtain ⟨q, hq⟩ : ∃ q, r / 64 = q := ⟨_, rfl⟩
    obtain ⟨p, hp⟩ : ∃ q, r / 4096 = q := ⟨_, rfl⟩
    rw [hq] at q3 q4 m3 m4
    rw [hp] at q1 q2 m5 m6
    have u0 : IntKind.u8.wrap (240 + (a : Int)) = ((240 + a : Nat) : Int) := by simp [IntKind.wrap, IntKind.bits, IntKind.signed]; omega
    have u1 : IntKind.u8.wrap (128 + (h : Int)) = ((128 + h : Nat) : Int) := by simp [IntKind.wrap, IntKind.bits, IntKind.signed]; omega
    have u2 : IntKind.u8.wrap (128 + (n : Int)) = ((128 + n : Nat) : Int) := by simp [IntKind.wrap, IntKind.bits, IntKind.signed]; omega
    have u3 : IntKind.u8.wrap (128 + (m : Int)) = ((128 + m : Nat) : Int) := by simp [IntKind.wrap, IntKind.bits, IntKind.signed]; omega
    clear ha hh hn hm hq hp c1 c2 c3
    go_enter Tryd.func81, Tryd.ntmps81
    go_wp2
    all_goals go_ret
    all_goals exact ⟨_, rfl, by rw [hE.out]; exact bytesIn_new w [.int .u8 ((240 + a : Nat) : Int), .int .u8 ((128 + h : Nat) : Int), .int .u8 ((128 + n : Nat) : Int), .int .u8 ((128 + m : Nat) : Int)] [UInt8.ofNat (240 + a), UInt8.ofNat (128 + h), UInt8.ofNat (128 + n), UInt8.ofNat (128 + m)] (by simp only [Lib.byteCells, List.map_cons, List.map_nil, V0.out, V1.out, V2.out, V3.out]) _, (Below.refl _ _).alloc (Nat.le_refl _) _⟩
end Go.Proofs.YtepmfjhhmnmmeaaDoor
