/- One frame read. -/
import Derived.Test.YtpgndejmhegklaaFrame
namespace Go.Proofs.Ytpgndejmhegklaa
set_option linter.unusedVariables false
open Go.RowKit

/-- What one frame's reading says, and gives. -/
def oneE (bs : List Nat) : Nat :=
  if bs.length < 8 then 8
  else if 4194304 < num4 bs then 5
  else if bs.length - 8 < num4 bs then 8
  else if num4 bs < bs.length - 8 then 9
  else if crcN (bs.drop 8) ≠ num4 (bs.drop 4) then 10
  else 0
def oneB (bs : List Nat) : List Nat := if oneE bs = 0 then bs.drop 8 else []

theorem num4_lt {bs : List Nat} (hb : ∀ x ∈ bs, x < 256) : num4 bs < 4294967296 := by
  have h0 := getD_lt hb 0
  have h1 := getD_lt hb 1
  have h2 := getD_lt hb 2
  have h3 := getD_lt hb 3
  unfold num4
  omega

set_option maxHeartbeats 400000 in
theorem one_any (A : Option Addr) (n c : Nat) (bs : List Nat) (w : World) (hz : Bytes w A n bs) (hnc : n ≤ c) (hn : n ≤ 4000000) (hb : ∀ x ∈ bs, x < 256) :
    Calls Try.prog 38 #[.slice A n c] w fun e w' => ∃ A' c', e = .returned (.tuple #[.slice A' (oneB bs).length c', .int .i64 (oneE bs : Int)]) ∧ GB w' A' (oneB bs).length c' (oneB bs) ∧ Ext w w' := by
  have hl := hz.len
  by_cases h8 : n < 8
  · have he : oneE bs = 8 := by unfold oneE; rw [if_pos (by omega)]
    have hbs : oneB bs = [] := by unfold oneB; rw [he]; rfl
    rw [he, hbs]
    go_enter Try.func38, Try.ntmps38
    go_wp2_with fail
    go_ret2
    exact ⟨none, 0, rfl, .nil _, Ext.refl _⟩
  · obtain ⟨A8, e8, z8⟩ : ∃ A3, (∀ w, (Instr.slice 22 (.slice A n c) (some (.int .i64 8)) none none).run Try.prog w = .ok (.slice A3 (n - 8) (c - 8)) w) ∧ Bytes w A3 (n - 8) (bs.drop 8) := hz.rest (k := 8) (by omega) hnc
    obtain ⟨A4, e4, z4⟩ : ∃ A3, (∀ w, (Instr.slice 22 (.slice A n c) (some (.int .i64 4)) none none).run Try.prog w = .ok (.slice A3 (n - 4) (c - 4)) w) ∧ Bytes w A3 (n - 4) (bs.drop 4) := hz.rest (k := 4) (by omega) hnc
    go_enter Try.func38, Try.ntmps38
    go_wp2_with fail
    have hmx : n ≤ maxLen := by unfold maxLen; omega
    have hcall := fun w' (h : Ext w w') => number_any A n c bs w' (hz.ext h) (by omega) hmx hb
    go_region_held3 (fun w' => Ext w w')
      (first | assumption | exact Ext.refl _ | exact (Ext.refl _).drew | exact Ext.trans (by assumption) (by assumption) | exact Ext.drew (by assumption))
      (first
        | (go_at_call 41; refine (hcall _ (by assumption)).mono ?_; rintro e w1 ⟨rfl, he1⟩))
    have hnum : num4 bs < 4294967296 := num4_lt hb
    have hcr := crcN_lt (bs.drop 8)
    have hnu4 : num4 (bs.drop 4) < 4294967296 := num4_lt fun x hx => hb x (List.mem_of_mem_drop hx)
    have hE : oneE bs = if 4194304 < num4 bs then 5 else if n - 8 < num4 bs then 8 else if num4 bs < n - 8 then 9 else if crcN (bs.drop 8) ≠ num4 (bs.drop 4) then 10 else 0 := by unfold oneE; rw [if_neg (by omega), hl]
    have hB : oneB bs = if oneE bs = 0 then bs.drop 8 else [] := rfl
    generalize num4 bs = m at *
    have hx : Ext w w1 := by first | assumption | exact (Ext.refl _).drew.trans (by assumption)
    go_wp2_with fail
    · have he : oneE bs = 5 := by rw [hE, if_pos (by omega)]
      have hbs : oneB bs = [] := by rw [hB, he]; rfl
      rw [he, hbs]
      go_ret2
      exact ⟨none, 0, rfl, .nil _, hx⟩
    · have he : oneE bs = 8 := by rw [hE, if_neg (by omega), if_pos (by omega)]
      have hbs : oneB bs = [] := by rw [hB, he]; rfl
      rw [he, hbs]
      go_ret2
      exact ⟨none, 0, rfl, .nil _, hx⟩
    · have he : oneE bs = 9 := by rw [hE, if_neg (by omega), if_neg (by omega), if_pos (by omega)]
      have hbs : oneB bs = [] := by rw [hB, he]; rfl
      rw [he, hbs]
      go_ret2
      exact ⟨none, 0, rfl, .nil _, hx⟩
    have hm8 : m = n - 8 := by omega
    have hE' : oneE bs = if crcN (bs.drop 8) ≠ num4 (bs.drop 4) then 10 else 0 := by rw [hE, if_neg (by omega), if_neg (by omega), if_neg (by omega)]
    have hb8 : ∀ x ∈ bs.drop 8, x < 256 := fun x hx => hb x (List.mem_of_mem_drop hx)
    have hb4 : ∀ x ∈ bs.drop 4, x < 256 := fun x hx => hb x (List.mem_of_mem_drop hx)
    have hcall2 := fun w' (h : Ext w1 w') => crc_any A8 (n - 8) (c - 8) (bs.drop 8) w' ((z8.ext hx).ext h) (by omega) hb8
    have hcall3 := fun w' (h : Ext w1 w') => number_any A4 (n - 4) (c - 4) (bs.drop 4) w' ((z4.ext hx).ext h) (by omega) (by omega) hb4
    have hz8 := z8.ext hx
    have hbs : oneB bs = if crcN (bs.drop 8) ≠ num4 (bs.drop 4) then [] else bs.drop 8 := by
      rw [hB, hE']; split <;> rfl
    have hl8 : (bs.drop 8).length = n - 8 := z8.len
    clear hE hB hcall hz z8 z4 hb8 hb4
    generalize crcN (bs.drop 8) = cr at *
    generalize num4 (bs.drop 4) = nu at *
    go_region_held3 (fun w' => Ext w1 w')
      (first | assumption | exact Ext.refl _ | exact (Ext.refl _).drew | exact Ext.trans (by assumption) (by assumption) | exact Ext.drew (by assumption))
      (first
        | (go_at_call 41; refine (hcall3 _ (by assumption)).mono ?_; rintro e w2 ⟨rfl, he2⟩)
        | (go_at_call 42; refine (hcall2 _ (by assumption)).mono ?_; rintro e w2 ⟨rfl, he2⟩))
    have hx2 : Ext w w2 := by first | exact hx.trans (by assumption) | exact (hx.trans (Ext.refl _).drew).trans (by assumption)
    have hz82 := hz8.ext (show Ext w1 w2 by first | assumption | exact (Ext.refl _).drew.trans (by assumption))
    by_cases hcn : cr = nu
    · subst hcn
      rw [if_neg (by simp)] at hE' hbs
      go_wp2_with fail
      refine (clone_any A8 (n - 8) (c - 8) (bs.drop 8) w2 hz82 (by omega) (by omega)).mono ?_
      rintro e w3 ⟨A3, c3, rfl, hz3, he3⟩
      go_wp2_with fail
      rw [hE', hbs, hl8]
      go_ret2
      exact ⟨A3, c3, rfl, hz3, hx2.trans he3⟩
    · rw [if_pos hcn] at hE' hbs
      have hcn' : ((cr : Int) != (nu : Int)) = true := by simp; omega
      go_wp2_with fail
      rw [hE', hbs]
      go_ret2
      exact ⟨none, 0, rfl, .nil _, hx2⟩
end Go.Proofs.Ytpgndejmhegklaa
