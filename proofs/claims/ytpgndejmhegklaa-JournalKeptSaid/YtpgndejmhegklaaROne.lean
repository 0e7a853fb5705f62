/- One frame read, the document's way. -/
import Derived.Test.YtpgndejmhegklaaOne
namespace Go.Proofs.Ytpgndejmhegklaa
set_option linter.unusedVariables false
open Go.RowKit

set_option maxHeartbeats 400000 in
theorem rone_any (A : Option Addr) (n c : Nat) (bs : List Nat) (w : World) (hz : Bytes w A n bs) (hnc : n ≤ c) (hn : n ≤ 4000000) (hb : ∀ x ∈ bs, x < 256) :
    Calls Try.prog 25 #[.slice A n c] w fun e w' => ∃ A' c', e = .returned (.tuple #[.slice A' (oneB bs).length c', .int .i64 (oneE bs : Int)]) ∧ GB w' A' (oneB bs).length c' (oneB bs) ∧ Ext w w' := by
  have hl := hz.len
  by_cases h8 : n < 8
  · have he : oneE bs = 8 := by unfold oneE; rw [if_pos (by omega)]
    have hbs : oneB bs = [] := by unfold oneB; rw [he]; rfl
    rw [he, hbs]
    go_enter Try.func25, Try.ntmps25
    go_wp2_with fail
    go_ret2
    exact ⟨none, 0, rfl, .nil _, Ext.refl _⟩
  · obtain ⟨A8, e8, z8⟩ : ∃ A3, (∀ w, (Instr.slice 22 (.slice A n c) (some (.int .i64 8)) none none).run Try.prog w = .ok (.slice A3 (n - 8) (c - 8)) w) ∧ Bytes w A3 (n - 8) (bs.drop 8) := hz.rest (k := 8) (by omega) hnc
    obtain ⟨A4, e4, z4⟩ : ∃ A3, (∀ w, (Instr.slice 22 (.slice A n c) (some (.int .i64 4)) none none).run Try.prog w = .ok (.slice A3 (n - 4) (c - 4)) w) ∧ Bytes w A3 (n - 4) (bs.drop 4) := hz.rest (k := 4) (by omega) hnc
    go_enter Try.func25, Try.ntmps25
    go_wp2_with fail
    have hmx : n ≤ maxLen := by unfold maxLen; omega
    refine (get_any A n c bs _ hz (by omega) hmx hb).mono ?_
    rintro e w1 ⟨rfl, hx⟩
    have hnum : num4 bs < 4294967296 := num4_lt hb
    have hcr := crcN_lt (bs.drop 8)
    have hnu4 : num4 (bs.drop 4) < 4294967296 := num4_lt fun x hx => hb x (List.mem_of_mem_drop hx)
    have hE : oneE bs = if 4194304 < num4 bs then 5 else if n - 8 < num4 bs then 8 else if num4 bs < n - 8 then 9 else if crcN (bs.drop 8) ≠ num4 (bs.drop 4) then 10 else 0 := by unfold oneE; rw [if_neg (by omega), hl]
    have hB : oneB bs = if oneE bs = 0 then bs.drop 8 else [] := rfl
    generalize num4 bs = m at *
    go_wp2_with fail
    · have he : oneE bs = 5 := by rw [hE, if_pos (by omega)]
      have hbs : oneB bs = [] := by rw [hB, he]; rfl
      rw [he, hbs]
      go_ret2
      exact ⟨none, 0, rfl, .nil _, hx⟩
    · have he : oneE bs = 8 := by rw [hE, if_neg (by omega), if_pos (by omega)]
      have hbs : oneB bs = [] := by rw [hB, he]; rfl
      rw [he, hbs]
      go_ret2
      exact ⟨none, 0, rfl, .nil _, hx⟩
    · have he : oneE bs = 9 := by rw [hE, if_neg (by omega), if_neg (by omega), if_pos (by omega)]
      have hbs : oneB bs = [] := by rw [hB, he]; rfl
      rw [he, hbs]
      go_ret2
      exact ⟨none, 0, rfl, .nil _, hx⟩
    have hm8 : m = n - 8 := by omega
    have hE' : oneE bs = if crcN (bs.drop 8) ≠ num4 (bs.drop 4) then 10 else 0 := by rw [hE, if_neg (by omega), if_neg (by omega), if_neg (by omega)]
    have hb8 : ∀ x ∈ bs.drop 8, x < 256 := fun x hx => hb x (List.mem_of_mem_drop hx)
    have hb4 : ∀ x ∈ bs.drop 4, x < 256 := fun x hx => hb x (List.mem_of_mem_drop hx)
    have hcall2 := fun w' (h : Ext w1 w') => rcrc_any A8 (n - 8) (c - 8) (bs.drop 8) w' ((z8.ext hx).ext h) (by omega) hb8
    have hcall3 := fun w' (h : Ext w1 w') => get_any A4 (n - 4) (c - 4) (bs.drop 4) w' ((z4.ext hx).ext h) (by omega) (by omega) hb4
    have hz8 := z8.ext hx
    have hbs : oneB bs = if crcN (bs.drop 8) ≠ num4 (bs.drop 4) then [] else bs.drop 8 := by
      rw [hB, hE']; split <;> rfl
    have hl8 : (bs.drop 8).length = n - 8 := z8.len
    clear hE hB hz z8 z4 hb8 hb4
    generalize crcN (bs.drop 8) = cr at *
    generalize num4 (bs.drop 4) = nu at *
    go_region_held3 (fun w' => Ext w1 w')
      (first | assumption | exact Ext.refl _ | exact (Ext.refl _).drew | exact Ext.trans (by assumption) (by assumption) | exact Ext.drew (by assumption))
      (first
        | (go_at_call 35; refine (hcall3 _ (by assumption)).mono ?_; rintro e w2 ⟨rfl, he2⟩)
        | (go_at_call 36; refine (hcall2 _ (by assumption)).mono ?_; rintro e w2 ⟨rfl, he2⟩))
    have hx2 : Ext w w2 := by first | exact hx.trans (by assumption) | exact (hx.trans (Ext.refl _).drew).trans (by assumption)
    have hz82 := hz8.ext (show Ext w1 w2 by first | assumption | exact (Ext.refl _).drew.trans (by assumption))
    by_cases hcn : cr = nu
    · subst hcn
      rw [if_neg (by simp)] at hE' hbs
      have hz83 := hz82.ext ((Ext.refl w2).alloc (.cells #[] 5))
      have m1 : 0 + (n - 8) ≤ maxLen := by unfold maxLen; omega
      have m2 : (0 + (n - 8)) * 1 ≤ 140737488355328 := by omega
      go_wp2_with (at_builtin; refine wpList_append_Own rfl _ _ _ rfl w2.heap.size byte_elem rfl (Own.nil _ _ _ _ _) rfl hz83.rs (bvals_one _) m1 m2 ?_ ?_)
      · simp
      intro A9 c9 w9 ho9 hg9
      have he9 : Ext w2 w9 := ((Ext.refl w2).alloc _).grown hg9 (fun k h => by simp [rowOf] at h)
      go_wp2_with fail
      rw [hE', hbs, hl8]
      go_ret2
      refine ⟨A9, c9, ?_, .own (by simpa using ho9), hx2.trans he9⟩
      simp
    · rw [if_pos hcn] at hE' hbs
      have hcn' : ((cr : Int) != (nu : Int)) = true := by simp; omega
      go_wp2_with fail
      rw [hE', hbs]
      go_ret2
      exact ⟨none, 0, rfl, .nil _, hx2⟩
end Go.Proofs.Ytpgndejmhegklaa
