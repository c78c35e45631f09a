/- crc.Update computes Crc.upd, for every state and all bytes. -/
import Derived.Test.YtknfkbgnfjfpeaaDoorCrcMath
import Derived.Test.YtknfkbgnfjfpeaaDoorMemB
namespace Go.Proofs.YtknfkbgnfjfpeaaDoor
open Go.RowKit

/-- the table of crc -/
def Tab (w : World) : Prop := ∀ i, i < 16 → w.cell? ⟨0, i, none⟩ = some (.int .u32 ((Crc.tab.getD i 0 : Nat) : Int))

theorem Tab.lt {w : World} (h : Tab w) : 0 < w.heap.size := World.block_lt_of_cell? w _ (h 0 (by decide))
theorem Tab.below {w w' : World} (h : Tab w) (hb : Below w.heap.size w w') : Tab w' := fun i hi => (hb.cell (p := ⟨_, i, none⟩) h.lt).trans (h i hi)
theorem Tab.drew {w : World} (h : Tab w) : Tab w.drew := h
theorem Tab.drewN {w : World} (h : Tab w) (n : Nat) : Tab (w.drewN n) := h
theorem Tab.alloc {w : World} (h : Tab w) (o : Obj) : Tab (w.alloc o) := h.below ((Below.refl _ w).alloc (Nat.le_refl _) o)
set_option maxHeartbeats 400000 in
theorem upd_any (s : Nat) (A : Option Addr) (n c : Nat) (l : List UInt8) (w : World) (B : Nat) (hs : s < 4294967296) (hv : RdB w B A n c l) (ht : Tab w) :
    Calls Tryd.prog 80 #[.int .u32 (s : Int), .slice A n c] w fun e w' => e = .returned (.int .u32 ((Crc.upd s l : Nat) : Int)) ∧ w = w' := by
  obtain rfl := hv.len
  have hlc := hv.1
  have hcm := hv.2.1
  unfold maxLen at hcm
  go_enter Tryd.func80, Tryd.ntmps80
  go_wp2
  go_loop [0, 9] (fun t i => ∃ k : Nat, k ≤ l.length ∧ i = .int .i64 k ∧ t = .int .u32 ((Crc.upd s (l.take k) : Nat) : Int)) (fun _ i => l.length - (intOf i).toNat)
  case atStart => exact ⟨0, Nat.zero_le _, rfl, rfl⟩
  case round =>
    obtain ⟨k, hk, rfl, rfl⟩ := hrel
    by_cases hlt : k < l.length
    · obtain ⟨b, off, rfl, hb, hck⟩ := hv.at_ hlt
      have hU := Crc.upd_lt (l.take k) hs
      have hC : l[k].toNat < 256 := l[k].toNat_lt
      have hst := Crc.upd_take_succ s l k hlt
      generalize Crc.upd s (l.take k) = u at *
      generalize l[k] = x at *
      clear hv
      obtain ⟨a, ha⟩ : ∃ a, a = u ^^^ x.toNat := ⟨_, rfl⟩
      have haU : a < 4294967296 := by rw [ha]; exact Nat.xor_lt_two_pow (n := 32) hU (by omega)
      have e1 : bits .xor .u32 (u : Int) (x.toNat : Int) = (a : Int) := by rw [ha]; exact u32_xor_nat _ _ hU (by omega)
      have e2 : bits .and .u32 (a : Int) 15 = ((a % 16 : Nat) : Int) := by rw [← nat_mask4]; exact u32_and_nat _ 15 haU (by omega)
      have t1 := ht (a % 16) (by omega)
      have h4 := Crc.it4 a
      have hT1 := Crc.tab_lt (a % 16)
      generalize Crc.tab.getD (a % 16) 0 = y1 at *
      obtain ⟨b1, hb1⟩ : ∃ b, b = y1 ^^^ a / 16 := ⟨_, rfl⟩
      have hbU : b1 < 4294967296 := by rw [hb1]; exact Nat.xor_lt_two_pow (n := 32) hT1 (by omega)
      have e3 : bits .xor .u32 (y1 : Int) ((a : Int) / 16) = (b1 : Int) := by rw [hb1, ← u32_xor_nat y1 (a / 16) hT1 (by omega)]; rfl
      have e4 : bits .and .u32 (b1 : Int) 15 = ((b1 % 16 : Nat) : Int) := by rw [← nat_mask4]; exact u32_and_nat _ 15 hbU (by omega)
      have t2 := ht (b1 % 16) (by omega)
      have h5 := Crc.it4 b1
      have hT2 := Crc.tab_lt (b1 % 16)
      generalize Crc.tab.getD (b1 % 16) 0 = y2 at *
      obtain ⟨b2, hb2⟩ : ∃ b, b = y2 ^^^ b1 / 16 := ⟨_, rfl⟩
      have e5 : bits .xor .u32 (y2 : Int) ((b1 : Int) / 16) = (b2 : Int) := by rw [hb2, ← u32_xor_nat y2 (b1 / 16) hT2 (by omega)]; rfl
      have fin : Hid (b2 = Crc.upd s (l.take (k + 1))) := by
        show b2 = _
        rw [hst, ← ha, show (8 : Nat) = 4 + 4 from rfl, Crc.it_add, ← h4, ← hb1, ← h5, hb2]
      clear ha hb1 hb2 hst h4 h5 hT1 hT2
      go_wp2
      go_round
      case rel => exact ⟨k + 1, by omega, by go_num, by rw [fin.out]⟩
      case measure => simp [intOf]; omega
    · obtain rfl : k = l.length := by omega
      rw [List.take_length]
      go_wp2
      go_ret
      exact ⟨rfl, rfl⟩
end Go.Proofs.YtknfkbgnfjfpeaaDoor
