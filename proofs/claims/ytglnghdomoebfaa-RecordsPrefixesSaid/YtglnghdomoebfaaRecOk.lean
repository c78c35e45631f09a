/- Chapter 13, plain: what Encode accepts is read back; a prefix, and a longer string, are not. -/
import Derived.Test.YtglnghdomoebfaaRecQ
import Derived.Test.YtglnghdomoebfaaRecLe
namespace Go.Proofs.Ytglnghdomoebfaa
open Go.RowKit Go.Shelf

namespace Rc
theorem chErr_cases : ∀ (C : List Int), chErr C = 0 ∨ chErr C = 23
  | [] => .inl rfl
  | n :: C => by
    rw [chErr]
    split
    · exact .inr rfl
    · exact chErr_cases C
theorem chErr_zero : ∀ {C : List Int}, chErr C = 0 → ∃ CN : List Nat, C = CN.map Int.ofNat ∧ ∀ n ∈ CN, 1 ≤ n ∧ n ≤ 2147483647
  | [], _ => ⟨[], rfl, by simp⟩
  | n :: C, h => by
    rw [chErr] at h
    split at h
    · cases h
    · rename_i hn
      obtain ⟨CN, h1, h2⟩ := chErr_zero h
      refine ⟨n.toNat :: CN, ?_, fun m hm => ?_⟩
      · rw [List.map_cons, h1]
        congr 1
        show n = ((n.toNat : Nat) : Int)
        omega
      · rcases List.mem_cons.1 hm with rfl | hm
        · omega
        · exact h2 m hm
theorem symErr_zero {T : List ByteArray} {C : List Int} : ∀ {ss : List ByteArray}, symErr T C ss = 0 → C ≠ [] ∧ chErr C = 0 ∧ ∀ s ∈ ss, (Sy.idx T s).isSome = true
  | [], h => by
    rw [symErr] at h
    split at h
    · cases h
    · rename_i hC; exact ⟨hC, h, by simp⟩
  | s :: ss, h => by
    rw [symErr] at h
    split at h
    · cases h
    · rename_i hs
      obtain ⟨h1, h2, h3⟩ := symErr_zero h
      refine ⟨h1, h2, fun t ht => ?_⟩
      rcases List.mem_cons.1 ht with rfl | ht
      · exact Option.isSome_iff_ne_none.2 hs
      · exact h3 t ht
theorem symErr_in {T : List ByteArray} {C : List Int} : ∀ {ss : List ByteArray}, (∀ s ∈ ss, (Sy.idx T s).isSome = true) → symErr T C ss = 0 ∨ symErr T C ss = 23
  | [], _ => by
    rw [symErr]
    split
    · exact .inr rfl
    · exact chErr_cases C
  | s :: ss, h => by
    rw [symErr, if_neg (Option.isSome_iff_ne_none.1 (h s (by simp)))]
    exact symErr_in fun t ht => h t (by simp [ht])
theorem err_in {T : List ByteArray} : ∀ {rs : List RecV}, (∀ r ∈ rs, ∀ s ∈ Lb.strs r.1, (Sy.idx T s).isSome = true) → err T rs = 0 ∨ err T rs = 23
  | [], _ => .inl rfl
  | r :: rs, h => by
    rw [err]
    split
    · exact symErr_in (h r (by simp))
    · exact err_in fun q hq => h q (by simp [hq])
theorem err_ok {T : List ByteArray} : ∀ {rs : List RecV}, (∀ r ∈ rs, r.1.length ≤ mx ∧ r.2.length ≤ mx) → err T rs = 0 → ∃ rsN : List (List Lab × List Nat), rs = rsN.map toRec ∧ ∀ r ∈ rsN, okN T r
  | [], _, _ => ⟨[], rfl, by simp⟩
  | r :: rs, hl, h => by
    rw [err] at h
    split at h
    · rename_i h1; exact absurd h h1
    · rename_i h1
      have h1' : symErr T r.2 (Lb.strs r.1) = 0 := by simpa using h1
      obtain ⟨h2, h3, h4⟩ := symErr_zero h1'
      obtain ⟨CN, h5, h6⟩ := chErr_zero h3
      obtain ⟨rsN, h7, h8⟩ := err_ok (fun q hq => hl q (by simp [hq])) h
      have hlr := hl r (by simp)
      refine ⟨(r.1, CN) :: rsN, ?_, fun q hq => ?_⟩
      · rw [List.map_cons, ← h7]
        congr 1
        unfold toRec
        rw [← h5]
      · rcases List.mem_cons.1 hq with rfl | hq
        · refine ⟨⟨⟨hlr.1, fun x hx => ⟨h4 x.n ?_, h4 x.v ?_⟩⟩, by rw [h5, List.length_map] at hlr; exact hlr.2, h6⟩, fun e => h2 (by rw [h5]; simp only [] at e; rw [e]; rfl)⟩
          · unfold Lb.strs; exact List.mem_flatMap.2 ⟨x, hx, by simp⟩
          · unfold Lb.strs; exact List.mem_flatMap.2 ⟨x, hx, by simp⟩
        · exact h8 q hq
theorem dec_enc {T : List ByteArray} (hS : Sy.Srt T) (hT : T.length ≤ mx) {rsN : List (List Lab × List Nat)} (hl : rsN.length ≤ mx) (hok : ∀ r ∈ rsN, okN T r) : dec T (encB T (rsN.map toRec)) = (rsN.map toRec, 0) := by
  rw [encB_to]
  have h := (recs_good hS hT).fwd [] rsN [] ⟨hl, hok⟩
  rw [List.append_nil, List.nil_append] at h
  simp only [List.length_nil, Nat.zero_add] at h
  unfold dec
  rw [h]
  simp only []
  have hf : Wr.fin (lsE (recN T) rsN) (lsE (recN T) rsN).length 0 = 0 := by unfold Wr.fin; rw [if_neg (by simp), if_neg (by omega)]
  rw [hf, if_neg (by simp)]
theorem dec_more {T : List ByteArray} (hS : Sy.Srt T) (hT : T.length ≤ mx) {rsN : List (List Lab × List Nat)} (hl : rsN.length ≤ mx) (hok : ∀ r ∈ rsN, okN T r) (c : UInt8) : dec T (encB T (rsN.map toRec) ++ [c]) = ([], 4) := by
  rw [encB_to]
  have h := (recs_good hS hT).fwd [] rsN [c] ⟨hl, hok⟩
  rw [List.nil_append] at h
  simp only [List.length_nil, Nat.zero_add] at h
  unfold dec
  rw [h]
  simp only []
  have hf : Wr.fin (lsE (recN T) rsN ++ [c]) (lsE (recN T) rsN).length 0 = 4 := by unfold Wr.fin; rw [if_neg (by simp), if_pos (by simp)]
  rw [hf, if_pos (by simp)]
theorem dec_pre {T : List ByteArray} (hS : Sy.Srt T) (hT : T.length ≤ mx) {rsN : List (List Lab × List Nat)} (hl : rsN.length ≤ mx) (hok : ∀ r ∈ rsN, okN T r) (k : Nat) (hk : k < (encB T (rsN.map toRec)).length) : dec T ((encB T (rsN.map toRec)).take k) = ([], 3) := by
  rw [encB_to] at hk ⊢
  have h := (recs_good hS hT).pre [] rsN k ⟨hl, hok⟩ hk
  rw [List.nil_append, List.length_nil] at h
  unfold dec
  simp only []
  have hf : Wr.fin ((lsE (recN T) rsN).take k) (recs T ((lsE (recN T) rsN).take k) 0 0).2.1 (recs T ((lsE (recN T) rsN).take k) 0 0).2.2 = 3 := by rw [h]; rfl
  rw [hf, if_pos (by simp)]
/-- the strings of the first records -/
def strsOf (rs : List RecV) : List ByteArray := rs.flatMap fun r => Lb.strs r.1
theorem strsOf_take (rs : List RecV) (k : Nat) (h : k < rs.length) : strsOf (rs.take (k + 1)) = strsOf (rs.take k) ++ Lb.strs rs[k].1 := by
  unfold strsOf
  rw [List.take_succ_eq_append_getElem h, List.flatMap_append]
  simp
theorem strsOf_fit {rs : List RecV} (h : FitR rs) : Sy.Fit (strsOf rs) := fun s hs => by
  obtain ⟨r, hr, hs⟩ := List.mem_flatMap.1 hs
  obtain ⟨x, hx, hs⟩ := List.mem_flatMap.1 hs
  have := (h r hr).1 x hx
  simp at hs
  rcases hs with rfl | rfl
  · exact this.1
  · exact this.2
theorem idx_of_mem {T : List ByteArray} {s : ByteArray} (h : s ∈ T) : (Sy.idx T s).isSome = true := by
  cases e : Sy.idx T s with
  | some k => rfl
  | none =>
    obtain ⟨j, hj, rfl⟩ := List.mem_iff_getElem.1 h
    exact absurd rfl (Sy.idx_none.1 e j hj)
theorem all_in {T all : List ByteArray} {rs : List RecV} (hT : Sy.Tab all T) (h : ∀ s ∈ strsOf rs, s ∈ all) : ∀ r ∈ rs, ∀ s ∈ Lb.strs r.1, (Sy.idx T s).isSome = true := fun r hr s hs =>
  idx_of_mem ((hT.2 s).2 (h s (List.mem_flatMap.2 ⟨r, hr, hs⟩)))
theorem short_mx {n : Nat} {rs : List RecV} (h : Short n rs) : ∀ r ∈ rs, r.1.length ≤ mx ∧ r.2.length ≤ mx := fun r hr => by
  have := h.2 r hr
  unfold mx
  omega
theorem encB_le2 {T : List ByteArray} (hT : T.length ≤ 1000000) {n : Nat} {rs : List RecV} (hn : n = rs.length) (h : Short n rs) (hf : FitR rs) : (encB T rs).length ≤ 20000000 := by
  have h1 := h.1
  have a1 := Vi.enc_len rs.length (by omega)
  have a2 := flat_le (f := recE T) (m := 34020) (l := rs) fun r hr => recE_le hT (h.2 r hr).1 (h.2 r hr).2 (hf r hr).2
  unfold encB
  rw [List.length_append]
  omega
/-- what RecordsRoundTrip needs -/
theorem round {T all : List ByteArray} {n : Nat} {rs : List RecV} (hT : Sy.Tab all T) (hl : T.length ≤ 1000000) (hn : n = rs.length) (hin : ∀ s ∈ strsOf rs, s ∈ all) (h : Short n rs) :
    enc T rs = ([], 23) ∨ (enc T rs = (encB T rs, 0) ∧ dec T (encB T rs) = (rs, 0)) := by
  rcases err_in (all_in hT hin) with h0 | h0
  · right
    obtain ⟨rsN, e1, e2⟩ := err_ok (short_mx h) h0
    refine ⟨by unfold enc; rw [if_pos h0], ?_⟩
    have := dec_enc hT.1 (by unfold mx; omega) (rsN := rsN) (by rw [e1, List.length_map] at hn; have := h.1; unfold mx; omega) e2
    rw [← e1] at this
    exact this
  · left
    unfold enc
    rw [if_neg (by rw [h0]; simp), h0]
end Rc
end Go.Proofs.Ytglnghdomoebfaa
