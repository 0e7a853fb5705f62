/- Frames: what each call makes. -/
import Derived.Test.YtpgndejmhegklaaTyp
import Derived.Test.YtpgndejmhegklaaCrc
import Derived.Lib.LazyBuf
namespace Go.Proofs.Ytpgndejmhegklaa
set_option linter.unusedVariables false
open Go.RowKit

theorem crcN_lt (bs : List Nat) : crcN bs < 4294967296 := by unfold crcN; omega

set_option maxHeartbeats 400000 in
theorem clone_any (A : Option Addr) (n c : Nat) (bs : List Nat) (w : World) (hz : Bytes w A n bs) (hnc : n ≤ c) (hn : n ≤ 10000000) :
    Calls Try.prog 43 #[.slice A n c] w fun e w' => ∃ A' c', e = .returned (.slice A' n c') ∧ GB w' A' n c' bs ∧ Ext w w' := by
  have m1 : 0 + n ≤ maxLen := by unfold maxLen; omega
  have m2 : (0 + n) * 1 ≤ 140737488355328 := by omega
  have hz' := (hz.ext ((Ext.refl w).alloc (.cells #[] 5))).rs
  have hl := hz.len
  cases A with
  | none =>
    have hn0 : n = 0 := by
      rcases Nat.eq_zero_or_pos n with h | h
      · exact h
      · obtain ⟨b, o, e, _⟩ := hz.at_ 0 h
        cases e
    subst hn0
    have hq : ∀ w, (binOp .eql 22 (.slice none 0 c) (.slice none 0 0)).run Try.prog w = .ok (.bool true) w := fun w => run_eql_slice_nil w _ _ _ _ _ Try.underlying22
    go_enter Try.func43, Try.ntmps43
    go_wp2_with fail
    go_ret
    exact ⟨none, 0, rfl, ⟨Nat.le_refl _, by simp [maxLen], hz, .inl rfl⟩, Ext.refl _⟩
  | some ad =>
    have hq : ∀ w, (binOp .eql 22 (.slice (some ad) n c) (.slice none 0 0)).run Try.prog w = .ok (.bool false) w := fun w => run_eql_slice_nil w _ _ _ _ _ Try.underlying22
    go_enter Try.func43, Try.ntmps43
    go_wp2_with (at_builtin; refine wpList_append_Own rfl (.tmp 5) (.tmp 6) _ rfl w.heap.size byte_elem rfl (Own.nil _ _ _ _ _) rfl hz' (bvals_one _) m1 m2 ?_ ?_)
    · simp
    intro A9 c9 w9 ho9 hg9
    have he9 : Ext w w9 := ((Ext.refl w).alloc _).grown hg9 (fun k h => by simp [rowOf] at h)
    go_wp2_with fail
    go_ret
    exact ⟨A9, c9, by simp, .own (by simpa using ho9), he9⟩

set_option maxHeartbeats 400000 in
theorem grow_nil (n : Nat) (w : World) (hn : n ≤ 10000000) :
    Calls Try.prog 47 #[.slice none 0 0, .int .i64 (n : Int)] w fun e w' => ∃ A' c', e = .returned (.slice A' 0 c') ∧ Own w' w.heap.size 5 1 A' 0 c' [] ∧ Ext w w' := by
  have hb1 : Try.t5.bytes = 1 := by kernel_rfl
  rcases Nat.eq_zero_or_pos n with h0 | h0
  · subst h0
    go_enter Try.func47, Try.ntmps47
    go_wp2_with fail
    go_ret
    exact ⟨none, 0, rfl, Own.nil _ _ _ _ _, Ext.refl _⟩
  · have hns : Builtin.nextslicecap n 0 = n := nextslicecap_zero (by omega)
    have h48 : Builtin.nextslicecap n 0 * Try.t5.bytes ≤ 281474976710656 := by rw [nextslicecap_zero (by omega), hb1]; omega
    have h49 : (n : Int) * (Try.t5.bytes : Int) ≤ 281474976710656 := by rw [hb1]; omega
    go_enter Try.func47, Try.ntmps47
    go_wp2_with fail
    all_goals try (exfalso; omega)
    have hge := grownCap_ge w n 0 5
    have hcm : grownCap w n 0 5 ≤ maxLen := grownCap_le_maxLen w n 0 5 (by unfold maxLen; omega)
    go_ret
    have hown : Own (w.drew.alloc (.cells (Builtin.zeroCells #[.int .u8 0] n ++ Builtin.zeroCells #[.int .u8 0] (grownCap w n 0 5 - n)) 5)) w.heap.size 5 1 (some ⟨w.heap.size, 0, none⟩) 0 (grownCap w n 0 5) [] :=
      Own.lit w.drew _ (Nat.le_refl _) (by omega) hcm (by simp only [Array.size_append, size_zeroCells]; simp; omega) (by simp)
    exact ⟨_, _, rfl, hown, (Ext.refl w).drew.alloc _⟩

/-- From an address on stand slices that read as these rows. -/
def Parts (w : World) (b o : Nat) (ps : List (List Nat)) : Prop := b < w.heap.size ∧ ∀ j (hj : j < ps.length), ∃ A n c, w.cell? ⟨b, o + j, none⟩ = some (.slice A n c) ∧ Bytes w A n ps[j] ∧ n ≤ c
theorem Parts.ext {w w' : World} {b o : Nat} {ps : List (List Nat)} (h : Parts w b o ps) (he : Ext w w') : Parts w' b o ps :=
  ⟨he.lt h.1, fun j hj => by obtain ⟨A, n, c, h1, h2, h3⟩ := h.2 j hj; exact ⟨A, n, c, he.cell h1, h2.ext he, h3⟩⟩
theorem flat_take (ps : List (List Nat)) (k : Nat) (hk : k < ps.length) : (ps.take (k + 1)).flatten = (ps.take k).flatten ++ ps[k] := by
  rw [List.take_succ_eq_append_getElem hk, List.flatten_append]; simp only [List.flatten_cons, List.flatten_nil, List.append_nil]
theorem flat_le (ps : List (List Nat)) (k : Nat) : (ps.take k).flatten.length ≤ ps.flatten.length := by
  conv => rhs; rw [← List.take_append_drop k ps, List.flatten_append, List.length_append]
  omega

def flatL (ps : List (List Nat)) (k : Nat) : List Nat := (ps.take k).flatten
def flatN (ps : List (List Nat)) (k : Nat) : Nat := (flatL ps k).length
theorem flatL_succ (ps : List (List Nat)) (k : Nat) (hk : k < ps.length) : flatL ps (k + 1) = flatL ps k ++ ps[k] := flat_take ps k hk
theorem flatL_all (ps : List (List Nat)) : flatL ps ps.length = ps.flatten := by unfold flatL; rw [List.take_of_length_le (Nat.le_refl _)]
theorem flatN_zero (ps : List (List Nat)) : flatN ps 0 = 0 := rfl
theorem flatN_succ (ps : List (List Nat)) (k : Nat) (hk : k < ps.length) : flatN ps (k + 1) = flatN ps k + ps[k].length := by
  unfold flatN; rw [flatL_succ ps k hk, List.length_append]
theorem flatN_le (ps : List (List Nat)) (k N : Nat) (hN : ps.flatten.length = N) : flatN ps k ≤ N := by rw [← hN]; exact flat_le ps k
theorem flatN_all (ps : List (List Nat)) (N : Nat) (hN : ps.flatten.length = N) : flatN ps ps.length = N := by unfold flatN; rw [flatL_all, hN]

set_option maxHeartbeats 400000 in
theorem concat_any (b o c : Nat) (ps : List (List Nat)) (w : World) (hp : Parts w b o ps) (hm : ps.length ≤ 1000) (N : Nat) (hN : ps.flatten.length = N) (hn : N ≤ 10000000) :
    Calls Try.prog 44 #[.slice (some ⟨b, o, none⟩) ps.length c] w fun e w' => ∃ A' c', e = .returned (.slice A' N c') ∧ GB w' A' N c' ps.flatten ∧ Ext w w' := by
  have hle := fun k => flatN_le ps k N hN
  have hall := flatN_all ps N hN
  go_enter Try.func44, Try.ntmps44
  go_wp2_with fail
  go_loop [3, 11] (fun s i => ∃ k : Nat, k ≤ ps.length ∧ i = .int .i64 k ∧ s = .int .i64 (flatN ps k : Int)) (fun _ i => ps.length - (intOf i).toNat)
  case atStart => exact ⟨0, by omega, rfl, rfl⟩
  case round =>
    obtain ⟨k, hk, rfl, rfl⟩ := hrel
    by_cases hkn : k < ps.length
    · obtain ⟨A, n, c2, hc, hz, hnc⟩ := hp.2 k hkn
      have hbl := hp.1
      have hf := hle (k + 1)
      have hf2 := flatN_succ ps k hkn
      rw [hz.len] at hf2
      go_wp2_with fail
      go_round
      case rel => exact ⟨k + 1, by omega, by go_num, by rw [hf2]; go_num⟩
      case measure => simp [intOf]; omega
    · have : k = ps.length := by omega
      subst this
      rw [hall]
      go_wp2_with fail
      refine (grow_nil N w hn).mono ?_
      rintro e w1 ⟨A1, c1, rfl, ho1, he1⟩
      go_wp2_with fail
      go_loopw [6, 27] (fun s i wr => ∃ (k : Nat) (A' : Option Addr) (c' : Nat), k ≤ ps.length ∧ i = .int .i64 k ∧ s = .slice A' (flatN ps k) c' ∧ Own wr w.heap.size 5 1 A' (flatN ps k) c' (bvals (flatL ps k)) ∧ Ext w wr) (fun _ i _ => ps.length - (intOf i).toNat)
      case atStart => exact ⟨0, A1, c1, by omega, rfl, rfl, ho1, he1⟩
      case round =>
        obtain ⟨k, A', c', hk, rfl, rfl, hor, her⟩ := hrel
        by_cases hkn : k < ps.length
        · obtain ⟨A, n, c2, hc, hz, hnc⟩ := (hp.ext her).2 k hkn
          have hbl := (hp.ext her).1
          have hf := hle (k + 1)
          have hf2 := flatN_succ ps k hkn
          have hf3 := flatL_succ ps k hkn
          rw [hz.len] at hf2
          have m1 : flatN ps k + n ≤ maxLen := by unfold maxLen; omega
          have m2 : (flatN ps k + n) * 1 ≤ 140737488355328 := by omega
          go_wp2_with (at_builtin; refine wpList_append_Own rfl (.tmp 31) (.tmp 32) _ rfl w.heap.size byte_elem rfl hor rfl hz.rs (bvals_one _) m1 m2 her.le ?_)
          intro A9 c9 w9 ho9 hg9
          have he9 : Ext w w9 := her.grown hg9 (fun k h => (hor.row k h).1)
          go_wp2_with fail
          go_round
          case rel => exact ⟨k + 1, A9, c9, by omega, by go_num, by rw [hf2], by rw [hf3, bvals_append, hf2]; exact ho9, he9⟩
          case measure => simp [intOf]; omega
        · have : k = ps.length := by omega
          subst this
          rw [hall, flatL_all] at hor
          rw [hall]
          go_wp2_with fail
          go_ret
          exact ⟨A', c', rfl, .own hor, her⟩

set_option maxHeartbeats 400000 in
theorem frame_any (A : Option Addr) (n c : Nat) (bs : List Nat) (w : World) (hz : Bytes w A n bs) (hnc : n ≤ c) (hb : ∀ x ∈ bs, x < 256) (hn : n ≤ 4000000) :
    Calls Try.prog 40 #[.slice A n c] w fun e w' => ∃ A' c', e = .returned (.tuple #[.slice A' (n + 8) c', .int .i64 0]) ∧ GB w' A' (n + 8) c' (bytes4 n ++ bytes4 (crcN bs) ++ bs) ∧ Ext w w' := by
  have hcr := crcN_lt bs
  go_enter Try.func40, Try.ntmps40
  go_wp2_with fail
  refine (four_any n w (by omega)).mono ?_
  rintro e w1 ⟨A1, rfl, hz1, he1⟩
  go_wp2_with fail
  refine (crc_any A n c bs w1 (hz.ext he1) (by unfold maxLen; omega) hb).mono ?_
  rintro e w2 ⟨rfl, he2⟩
  go_wp2_with fail
  refine (four_any (crcN bs) w2 hcr).mono ?_
  rintro e w3 ⟨A3, rfl, hz3, he3⟩
  go_wp2_with fail
  have hpt : Parts (w3.alloc (.cells #[.slice A1 4 4, .slice A3 4 4, .slice A n c] 22)) w3.heap.size 0 [bytes4 n, bytes4 (crcN bs), bs] := by
    have h1 := (Ext.refl w3).alloc (.cells #[.slice A1 4 4, .slice A3 4 4, .slice A n c] 22)
    refine ⟨by simp, fun j hj => ?_⟩
    match j, hj with
    | 0, _ => exact ⟨_, _, _, box_cell _ _ _ 0 _ rfl, ((hz1.ext he2).ext he3).ext h1, Nat.le_refl _⟩
    | 1, _ => exact ⟨_, _, _, box_cell _ _ _ 1 _ rfl, hz3.ext h1, Nat.le_refl _⟩
    | 2, _ => exact ⟨_, _, _, box_cell _ _ _ 2 _ rfl, (hz.ext ((he1.trans he2).trans he3)).ext h1, hnc⟩
  have hl := hz.len
  have hfl : [bytes4 n, bytes4 (crcN bs), bs].flatten.length = n + 8 := by simp [bytes4, hl]
  refine (concat_any w3.heap.size 0 3 [bytes4 n, bytes4 (crcN bs), bs] _ hpt (by simp) (n + 8) hfl (by omega)).mono ?_
  rintro e w4 ⟨A4, c4, rfl, hz4, he4⟩
  go_wp2_with fail
  go_ret2
  refine ⟨A4, c4, ?_, by simpa using hz4, ((((Ext.refl w).trans he1).trans he2).trans he3).trans (((Ext.refl _).alloc _).trans he4)⟩
  rfl
end Go.Proofs.Ytpgndejmhegklaa
