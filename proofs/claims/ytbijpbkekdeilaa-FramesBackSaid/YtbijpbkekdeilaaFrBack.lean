/- FramesBack: the walk. -/
import Derived.Test.YtbijpbkekdeilaaFrPlain
import Derived.Test.YtbijpbkekdeilaaFrWrite
namespace Go.Proofs.Ytbijpbkekdeilaa
set_option linter.unusedVariables false
open Go.RowKit

def manyL (k : Nat) (bs : List Nat) : List Nat := logL (List.replicate k bs)
theorem many_succ (k : Nat) (bs : List Nat) : manyL (k + 1) bs = manyL k bs ++ frameL bs := by
  unfold manyL
  rw [List.replicate_succ']
  simp [logL]
theorem many_len (k n : Nat) (bs : List Nat) (h : bs.length = n) : (manyL k bs).length = k * (n + 8) := by
  induction k with
  | zero => simp [manyL, logL]
  | succ k ih => rw [many_succ, List.length_append, ih, frameL_len, h, Nat.add_mul, Nat.one_mul]
theorem scan_many (k : Nat) (bs : List Nat) (h : bs.length ≤ 4194304) : scanL (manyL k bs) = (List.replicate k bs, (manyL k bs).length) :=
  scan_all _ (fun b hb => by rw [(List.mem_replicate.1 hb).2]; exact h)
theorem many_lt (k : Nat) (bs : List Nat) (hb : ∀ x ∈ bs, x < 256) (h : bs.length ≤ 300) : ∀ x ∈ manyL k bs, x < 256 :=
  logL_lt (fun r hr => by rw [(List.mem_replicate.1 hr).2]; exact hb) (fun r hr => by rw [(List.mem_replicate.1 hr).2]; exact h)

set_option maxRecDepth 100000 in
set_option maxHeartbeats 1000000 in
theorem back_walk (A : Option Addr) (n c : Nat) (bs : List Nat) (cut : Int) (w : World) (hz : Bytes w A n bs) (hnc : n ≤ c) (hm : c ≤ maxLen) (hb : ∀ x ∈ bs, x < 256) :
    Calls Try.prog 13 #[.slice A n c, .int .i64 cut] w fun e w' => e = .returned (.bool true) ∧ Ext w w' := by
  have hlm := Lib.hid hz.len
  unfold maxLen at hm
  go_enter Try.func13, Try.ntmps13
  go_wp2_with fail
  refine (known3 w).mono ?_
  rintro e w1 ⟨rfl, hx1⟩
  by_cases hbig : 300 < n
  · go_wp2_with fail
    go_ret
    exact ⟨rfl, hx1⟩
  obtain ⟨q, hq, hqn⟩ := emod_nat cut 4 4 rfl (by omega)
  have hwi := within3 cut 4 (by omega) (by omega) w1
  rw [hq] at hwi
  go_wp2_with fail
  refine hwi.mono ?_
  rintro e w' ⟨rfl, rfl⟩
  clear hwi
  have hx2 : Ext w (w1.alloc (.cells #[] 5)) := hx1.alloc _
  go_wp2_with fail
  generalize w1.alloc (.cells #[] 5) = w2 at *
  go_loopw [5, 6] (fun s i wr => ∃ (k : Nat) (A' : Option Addr) (m c' : Nat), k ≤ q ∧ i = .int .i64 k ∧ s = .slice A' m c' ∧ m ≤ 308 * k ∧ Own wr w.heap.size 5 1 A' m c' (bvals (manyL k bs)) ∧ Ext w wr) (fun _ i _ => q - (intOf i).toNat)
  case atStart => exact ⟨0, _, 0, 0, by omega, rfl, rfl, by omega, Own.nil _ _ _ _ _, hx2⟩
  case round =>
    obtain ⟨k, A', m, c', hk, rfl, rfl, hmk, hor, her⟩ := hrel
    by_cases hlt : k < q
    · go_wp2_with fail
      refine (frame_any A n c bs wr (hz.ext her) hnc hb (by omega)).mono ?_
      rintro e w3 ⟨A3, c3, rfl, hz3, hx3⟩
      rw [frameL_of hlm.out] at hz3
      obtain ⟨o1, o2⟩ := one_frame bs (by rw [hlm.out]; omega)
      have hfl : ∀ x ∈ frameL bs, x < 256 := frameL_lt hb (by rw [hlm.out]; omega)
      have h1 := one_any A3 (n + 8) c3 (frameL bs) w3 hz3.bytes hz3.le (by omega) hfl
      rw [o1, o2, hlm.out] at h1
      have hms := Lib.hid (many_succ k bs)
      clear o1 o2
      go_wp2_with fail
      refine h1.mono ?_
      rintro e w4 ⟨A4, c4, rfl, hz4, hx4⟩
      clear h1
      have s1 := run_string A n c bs w4 ((hz.ext her).ext (hx3.trans hx4))
      have s2 := run_string A4 n c4 bs w4 hz4.bytes
      have ho4 := hor.ext (hx3.trans hx4)
      have m3 : m + (n + 8) ≤ maxLen := by unfold maxLen; omega
      have m4 : (m + (n + 8)) * 1 ≤ 140737488355328 := by omega
      have hx34 := (her.trans hx3).trans hx4
      go_wp2_with (at_builtin; refine wpList_append_Own rfl _ _ _ rfl w.heap.size byte_elem rfl ho4 rfl (hz3.ext hx4).bytes.rs (bvals_one _) m3 m4 hx34.le ?_)
      intro A9 c9 w9 ho9 hg9
      have he9 : Ext w w9 := hx34.grown hg9 (fun k h => (ho4.row k h).1)
      rw [← bvals_append, ← hms.out] at ho9
      clear ho4 s1 s2
      go_wp2_with fail
      go_roundw
      case rel => exact ⟨k + 1, A9, m + (n + 8), c9, by omega, by go_num, rfl, by omega, ho9, he9⟩
      case measure => simp [intOf]; omega
    · have : k = q := by omega
      subst this
      have hmm : (manyL k bs).length = m := by have := hor.1; simpa [bvals] using this
      have hsc := scan_many k bs (by rw [hlm.out]; omega)
      rw [hmm] at hsc
      have hgo := GB.own hor
      have h1 := scan_any A' m c' (manyL k bs) wr hgo.bytes hgo.le hgo.2.1 (by omega) (many_lt k bs hb (by rw [hlm.out]; omega))
      rw [hsc] at h1
      have hrl : (List.replicate k bs).length = k := by simp
      simp only [hrl] at h1
      clear hsc hmm hgo hor
      have Hrl := Lib.hid hrl
      clear hrl
      go_wp2_with fail
      refine h1.mono ?_
      rintro e w3 ⟨A3, c3, rfl, hc3, hm3, hz3, hx3⟩
      clear h1
      go_wp2_with fail
      go_loopw [13] (fun i wr => ∃ j : Nat, j ≤ k ∧ i = .int .i64 j ∧ Ext w3 wr) (fun i _ => k - (intOf i).toNat)
      case atStart => exact ⟨0, by omega, rfl, Ext.refl _⟩
      case round =>
        obtain ⟨j, hj, rfl, her3⟩ := hrel
        by_cases hjk : j < k
        · obtain ⟨b, o, A1, n1, c1, rfl, hbb, hc, h1, h2, h3⟩ := (hz3.ext her3).at_ j hjk
          have hgd : (List.replicate k bs).getD j [] = bs := by simp [hjk]
          rw [hgd] at h3
          clear hgd
          have s1 : ∀ nq, (convert 35 9 (.slice A1 n1 c1)).run Try.prog (wr.drewN nq) = .ok (.string (strOf bs)) (wr.drewN nq) := fun nq => run_string A1 n1 c1 _ _ (h3.ext ((Ext.refl wr).drewN nq))
          have s2 : ∀ nq, (convert 35 9 (.slice A n c)).run Try.prog (wr.drewN nq) = .ok (.string (strOf bs)) (wr.drewN nq) := fun nq => run_string A n c _ _ (hz.ext (((her.trans hx3).trans her3).trans ((Ext.refl wr).drewN nq)))
          go_wp2_with fail
          go_quiet (fail)
          go_wp2_with fail
          go_roundw
          case rel => exact ⟨j + 1, by omega, by go_num, her3.drewN _⟩
          case measure => simp [intOf]; omega
        · have : j = k := by omega
          subst this
          go_wp2_with fail
          go_ret
          exact ⟨rfl, (her.trans hx3).trans her3⟩
end Go.Proofs.Ytbijpbkekdeilaa
