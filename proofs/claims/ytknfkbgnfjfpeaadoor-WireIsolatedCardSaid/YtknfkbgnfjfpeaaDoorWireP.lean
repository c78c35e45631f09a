/- A nil reader returns zero values. -/
import Derived.Test.YtknfkbgnfjfpeaaDoorWireK
namespace Go.Proofs.YtknfkbgnfjfpeaaDoor
open Go.RowKit Go.Shelf

set_option maxHeartbeats 1000000 in
theorem nil_err (w : World) : Calls Tryd.prog 25 #[.pointer none] w fun r w' => r = .returned (.int .i64 1) ∧ w = w' := by
  go_enter Tryd.func25, Tryd.ntmps25
  go_wp2
  go_ret
  exact ⟨rfl, rfl⟩
set_option maxHeartbeats 1000000 in
theorem nil_at (w : World) : Calls Tryd.prog 26 #[.pointer none] w fun r w' => r = .returned (.int .i64 0) ∧ w = w' := by
  go_enter Tryd.func26, Tryd.ntmps26
  go_wp2
  go_ret
  exact ⟨rfl, rfl⟩
set_option maxHeartbeats 1000000 in
theorem nil_fail (e : Int) (w : World) : Calls Tryd.prog 33 #[.pointer none, .int .i64 e] w fun r w' => r = .returned (.tuple #[]) ∧ w = w' := by
  go_enter Tryd.func33, Tryd.ntmps33
  go_wp2
  go_end0
  exact ⟨rfl, rfl⟩
set_option maxHeartbeats 1000000 in
theorem nil_end (w : World) : Calls Tryd.prog 29 #[.pointer none] w fun r w' => r = .returned (.int .i64 1) ∧ w = w' := by
  go_enter Tryd.func29, Tryd.ntmps29
  go_wp2_with (go_at_call 25; refine (nil_err _).mono ?_; rintro r w1 ⟨rfl, rfl⟩)
  go_ret
  exact ⟨rfl, rfl⟩
set_option maxHeartbeats 1000000 in
theorem nil_readByte (F : Value) (w : World) : Calls Tryd.prog 64 #[.pointer none, F] w fun r w' => r = .returned (.int .u8 0) ∧ w = w' := by
  go_enter Tryd.func64, Tryd.ntmps64
  go_wp2_with (go_at_call 25; refine (nil_err _).mono ?_; rintro r w1 ⟨rfl, rfl⟩)
  go_ret
  exact ⟨rfl, rfl⟩
set_option maxHeartbeats 1000000 in
theorem nil_readUint (F : Value) (w : World) : Calls Tryd.prog 66 #[.pointer none, F] w fun r w' => r = .returned (.int .u64 0) ∧ w = w' := by
  go_enter Tryd.func66, Tryd.ntmps66
  go_wp2_with (go_at_call 25; refine (nil_err _).mono ?_; rintro r w1 ⟨rfl, rfl⟩)
  go_ret
  exact ⟨rfl, rfl⟩
set_option maxHeartbeats 1000000 in
theorem nil_readTake (F : Value) (w : World) : Calls Tryd.prog 51 #[.pointer none, F] w fun r w' => r = .returned (.slice none 0 0) ∧ w = w' := by
  go_enter Tryd.func51, Tryd.ntmps51
  go_wp2_with (go_at_call 25; refine (nil_err _).mono ?_; rintro r w1 ⟨rfl, rfl⟩)
  go_ret
  exact ⟨rfl, rfl⟩
set_option maxHeartbeats 1000000 in
theorem nil_readString (F : Value) (w : World) : Calls Tryd.prog 56 #[.pointer none, F] w fun r w' => r = .returned (.string ⟨#[]⟩) ∧ w = w' := by
  go_enter Tryd.func56, Tryd.ntmps56
  go_wp2_with (go_at_call 25; refine (nil_err _).mono ?_; rintro r w1 ⟨rfl, rfl⟩)
  go_ret
  exact ⟨rfl, rfl⟩
set_option maxHeartbeats 1000000 in
theorem nil_byte (w : World) : Calls Tryd.prog 32 #[.pointer none] w fun r w' => r = .returned (.int .u8 0) ∧ Below w.heap.size w w' := by
  have b0 := Below.refl w.heap.size w
  go_enter Tryd.func32, Tryd.ntmps32
  go_wp2_with (go_at_call 64; refine (nil_readByte _ _).mono ?_; rintro r w1 ⟨rfl, rfl⟩)
  go_ret
  exact ⟨rfl, by first | exact b0.alloc (Nat.le_refl _) _ | exact (b0.alloc (Nat.le_refl _) _).alloc (by simp) _⟩
set_option maxHeartbeats 1000000 in
theorem nil_uint (u : Nat) (w : World) : Calls Tryd.prog 34 #[.pointer none, .int .u64 (u : Int)] w fun r w' => r = .returned (.int .u64 0) ∧ Below w.heap.size w w' := by
  have b0 := Below.refl w.heap.size w
  go_enter Tryd.func34, Tryd.ntmps34
  go_wp2_with (go_at_call 66; refine (nil_readUint _ _).mono ?_; rintro r w1 ⟨rfl, rfl⟩)
  go_ret
  exact ⟨rfl, by first | exact b0.alloc (Nat.le_refl _) _ | exact (b0.alloc (Nat.le_refl _) _).alloc (by simp) _⟩
set_option maxHeartbeats 1000000 in
theorem nil_take (n : Int) (w : World) : Calls Tryd.prog 35 #[.pointer none, .int .i64 n] w fun r w' => r = .returned (.slice none 0 0) ∧ Below w.heap.size w w' := by
  have b0 := Below.refl w.heap.size w
  go_enter Tryd.func35, Tryd.ntmps35
  go_wp2_with (go_at_call 51; refine (nil_readTake _ _).mono ?_; rintro r w1 ⟨rfl, rfl⟩)
  go_ret
  exact ⟨rfl, by first | exact b0.alloc (Nat.le_refl _) _ | exact (b0.alloc (Nat.le_refl _) _).alloc (by simp) _⟩
set_option maxHeartbeats 1000000 in
theorem nil_string (n : Int) (w : World) : Calls Tryd.prog 28 #[.pointer none, .int .i64 n] w fun r w' => r = .returned (.string ⟨#[]⟩) ∧ Below w.heap.size w w' := by
  have b0 := Below.refl w.heap.size w
  go_enter Tryd.func28, Tryd.ntmps28
  go_wp2_with (go_at_call 56; refine (nil_readString _ _).mono ?_; rintro r w1 ⟨rfl, rfl⟩)
  go_ret
  exact ⟨rfl, by first | exact b0.alloc (Nat.le_refl _) _ | exact (b0.alloc (Nat.le_refl _) _).alloc (by simp) _⟩
set_option maxHeartbeats 1000000 in
theorem nil_section (id : UInt8) (w : World) : Calls Tryd.prog 24 #[.pointer none, .int .u8 (id.toNat : Int)] w fun r w' => r = .returned (.slice none 0 0) ∧ Below w.heap.size w w' := by
  have b0 := Below.refl w.heap.size w
  go_enter Tryd.func24, Tryd.ntmps24
  go_wp2_with (go_at_call 51; refine (nil_readTake _ _).mono ?_; rintro r w1 ⟨rfl, rfl⟩)
  go_ret
  exact ⟨rfl, by first | exact b0.alloc (Nat.le_refl _) _ | exact (b0.alloc (Nat.le_refl _) _).alloc (by simp) _⟩
end Go.Proofs.YtknfkbgnfjfpeaaDoor
