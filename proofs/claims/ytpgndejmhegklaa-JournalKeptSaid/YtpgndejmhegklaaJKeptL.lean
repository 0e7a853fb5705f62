/- JournalKept: plain laws of a disk whose power may go. -/
import Derived.Test.YtpgndejmhegklaaJSnaps
namespace Go.Proofs.Ytpgndejmhegklaa
set_option linter.unusedVariables false
open Go.RowKit

def SnapIs (s ss : List Nat) : Prop := (s = [] ∧ ss = []) ∨ s = frameL ss
/-- The power is there: this snapshot, these records. -/
structure Alive (d : Dsk) (ss : List Nat) (rs : List (List Nat)) : Prop where
  dead : d.dead = false
  left : 1 ≤ d.left
  room : d.room = 1048576
  snap : SnapIs d.snap ss
  log : d.log = logL rs
  sync : d.synced = d.log.length
/-- The power is gone, while mo was written. -/
structure Gone (d : Dsk) (ss : List Nat) (rs : List (List Nat)) (mo : List Nat) (sw : Bool) : Prop where
  dead : d.dead = true
  tail : (sw = false ∧ SnapIs d.snap ss ∧ d.log = logL rs ++ frameL mo ∧ d.synced = (logL rs).length) ∨ (sw = true ∧ d.snap = frameL mo ∧ d.log = []) ∨ (sw = true ∧ SnapIs d.snap ss ∧ d.log = logL rs ∧ d.synced = d.log.length)
theorem SnapIs.len {s ss : List Nat} (h : SnapIs s ss) (hl : ss.length ≤ 200) : s.length ≤ 208 := by
  rcases h with ⟨h1, _⟩ | h1
  · rw [h1]; simp
  · rw [h1, frameL_len]; omega
theorem SnapIs.one {s ss : List Nat} (h : SnapIs s ss) (hl : ss.length ≤ 200) : (s = [] ∨ oneE s = 0) ∧ oneB s = ss := by
  rcases h with ⟨h1, h2⟩ | h1
  · exact ⟨.inl h1, by rw [h1, h2]; rfl⟩
  · obtain ⟨a, b⟩ := one_frame ss (by omega)
    exact ⟨.inr (by rw [h1]; exact a), by rw [h1]; exact b⟩
theorem Alive.add {d : Dsk} {ss : List Nat} {rs : List (List Nat)} (h : Alive d ss rs) {b : List Nat} (hb : b.length ≤ 200) (hs : ss.length ≤ 200) (hr : ∀ r ∈ rs, r.length ≤ 200) (hn : rs.length ≤ 30) :
    ((addV d b).1 = 0 ∧ Alive (addV d b).2 ss (rs ++ [b])) ∨ ((addV d b).1 = 20 ∧ Gone (addV d b).2 ss rs b false) := by
  obtain ⟨hd, hl, hro, hsn, hlo, hsy⟩ := h
  have l1 := hsn.len hs
  have l2 : d.log.length ≤ 208 * rs.length := by rw [hlo]; exact logL_len2 hr
  have hsp : d.spend = { d with left := d.left - 1, dead := decide (d.left = 1) } := by unfold Dsk.spend; rw [if_pos (by omega)]
  have ha : d.append (frameL b) = (if d.left = 1 then 20 else 0, { d with left := d.left - 1, dead := decide (d.left = 1), log := d.log ++ frameL b }) := by
    unfold Dsk.append
    rw [if_neg (by simp [hd]), if_neg (by rw [frameL_len, hro]; omega), hsp]
    unfold Dsk.code
    simp only [decide_eq_true_eq]
  unfold addV
  by_cases h1 : d.left = 1
  · rw [ha, if_pos h1, if_neg (by simp)]
    exact .inr ⟨rfl, by simp [h1], .inl ⟨rfl, hsn, by show d.log ++ _ = _; rw [hlo], by show d.synced = _; rw [hsy, hlo]⟩⟩
  · rw [ha, if_neg h1, if_pos rfl]
    have hsp2 : Dsk.spend { d with left := d.left - 1, dead := decide (d.left = 1), log := d.log ++ frameL b } = { d with left := d.left - 1 - 1, dead := decide (d.left - 1 = 1), log := d.log ++ frameL b } := by
      unfold Dsk.spend
      rw [if_pos (by show 0 < d.left - 1; omega)]
    unfold Dsk.sync
    rw [if_neg (by simp [h1]), hsp2]
    by_cases h2 : d.left - 1 = 1
    · rw [if_pos (by simp [h2])]
      exact .inr ⟨rfl, by simp [h2], .inl ⟨rfl, hsn, by show d.log ++ _ = _; rw [hlo], by show d.synced = _; rw [hsy, hlo]⟩⟩
    · rw [if_neg (by simp [h2])]
      exact .inl ⟨rfl, by simp [h2], by show 1 ≤ d.left - 1 - 1; omega, hro, hsn, by show d.log ++ _ = _; rw [hlo, logL_add], rfl⟩
theorem Alive.snap_ {d : Dsk} {ss : List Nat} {rs : List (List Nat)} (h : Alive d ss rs) {b : List Nat} (hb : b.length ≤ 200) :
    ((snapV d b).1 = 0 ∧ Alive (snapV d b).2 b []) ∨ ((snapV d b).1 = 20 ∧ Gone (snapV d b).2 ss rs b true) := by
  obtain ⟨hd, hl, hro, hsn, hlo, hsy⟩ := h
  have hsp : d.spend = { d with left := d.left - 1, dead := decide (d.left = 1) } := by unfold Dsk.spend; rw [if_pos (by omega)]
  unfold snapV
  rw [swap_at d _ hd (by rw [frameL_len, hro]; omega), hsp]
  unfold Dsk.code
  by_cases h1 : d.left = 1
  · simp only [h1, decide_true, if_true]
    by_cases ho : d.odd = 0
    · rw [if_pos (.inr ho)]
      exact .inr ⟨by simp, rfl, .inr (.inl ⟨rfl, rfl, rfl⟩)⟩
    · rw [if_neg (by simp [ho])]
      exact .inr ⟨by simp, rfl, .inr (.inr ⟨rfl, hsn, hlo, hsy⟩)⟩
  · rw [if_neg (by simp [h1]), if_pos (.inl (by simp [h1]))]
    exact .inl ⟨rfl, by simp [h1], by show 1 ≤ d.left - 1; omega, hro, .inr rfl, rfl, rfl⟩
/-- What is there when it is opened anew. -/
def Found (dead sw : Bool) (ss : List Nat) (rs : List (List Nat)) (mo ss' : List Nat) (rs' : List (List Nat)) : Prop :=
  (ss' = ss ∧ rs' = rs) ∨ (dead = true ∧ sw = false ∧ ss' = ss ∧ rs' = rs ++ [mo]) ∨ (dead = true ∧ sw = true ∧ ss' = mo ∧ rs' = [])
theorem crash_log (d : Dsk) (pick : Int) (h : d.synced ≤ d.log.length) : ∃ k, d.synced + k ≤ d.log.length ∧ (d.stop 0).crash pick = { d with left := 0, odd := 0, dead := false, log := d.log.take (d.synced + k), synced := d.synced + k } :=
  ⟨d.pickN pick, Dsk.pick_lt h pick, rfl⟩
theorem Alive.found {d : Dsk} {ss : List Nat} {rs : List (List Nat)} (h : Alive d ss rs) (pick : Int) (sw : Bool) (mo : List Nat) (hs : ss.length ≤ 200) (hr : ∀ r ∈ rs, r.length ≤ 200) :
    ((d.stop 0).crash pick).snap.length ≤ 208 ∧ (((d.stop 0).crash pick).snap = [] ∨ oneE ((d.stop 0).crash pick).snap = 0) ∧ Found d.dead sw ss rs mo (oneB ((d.stop 0).crash pick).snap) (scanL ((d.stop 0).crash pick).log).1 ∧ ((d.stop 0).crash pick).log.length ≤ 208 * rs.length + 208 := by
  obtain ⟨hd, hl, hro, hsn, hlo, hsy⟩ := h
  obtain ⟨k, hk, he⟩ := crash_log d pick (by omega)
  have h0 : k = 0 := by omega
  subst h0
  rw [he]
  have hsc := scan_all rs (fun b hb => by have := hr b hb; omega)
  obtain ⟨o1, o2⟩ := hsn.one hs
  have hl : d.log.take (d.synced + 0) = logL rs := by rw [Nat.add_zero, hsy, List.take_length, hlo]
  have l2 := logL_len2 hr
  exact ⟨hsn.len hs, o1, .inl ⟨o2, by show (scanL (d.log.take _)).1 = _; rw [hl, hsc]⟩, by show (d.log.take _).length ≤ _; rw [hl]; omega⟩
theorem Gone.found {d : Dsk} {ss : List Nat} {rs : List (List Nat)} {mo : List Nat} {sw : Bool} (h : Gone d ss rs mo sw) (pick : Int) (hs : ss.length ≤ 200) (hr : ∀ r ∈ rs, r.length ≤ 200) (hm : mo.length ≤ 200) (hsy : d.synced ≤ d.log.length) :
    ((d.stop 0).crash pick).snap.length ≤ 208 ∧ (((d.stop 0).crash pick).snap = [] ∨ oneE ((d.stop 0).crash pick).snap = 0) ∧ Found d.dead sw ss rs mo (oneB ((d.stop 0).crash pick).snap) (scanL ((d.stop 0).crash pick).log).1 ∧ ((d.stop 0).crash pick).log.length ≤ 208 * rs.length + 208 := by
  obtain ⟨hd, ht⟩ := h
  obtain ⟨k, hk, he⟩ := crash_log d pick hsy
  rw [he]
  have l2 := logL_len2 hr
  have hrl : ∀ b ∈ rs, b.length ≤ 4194304 := fun b hb => by have := hr b hb; omega
  rcases ht with ⟨h1, hsn, hlo, hs2⟩ | ⟨h1, hsn, hlo⟩ | ⟨h1, hsn, hlo, hs2⟩
  · obtain ⟨o1, o2⟩ := hsn.one hs
    have hl : d.log.take (d.synced + k) = logL rs ++ (frameL mo).take k := by rw [hlo, hs2, List.take_append]; congr 1; rw [List.take_of_length_le (by omega)]; congr 1; omega
    have hkl : k ≤ mo.length + 8 := by rw [hlo, List.length_append, frameL_len] at hk; omega
    refine ⟨hsn.len hs, o1, ?_, ?_⟩
    · show Found _ _ _ _ _ (oneB d.snap) (scanL (d.log.take _)).1
      rw [hl, o2]
      by_cases hc : k < mo.length + 8
      · rw [scan_torn rs mo k hrl (by omega) hc]
        exact .inl ⟨rfl, rfl⟩
      · rw [List.take_of_length_le (by rw [frameL_len]; omega), scan_whole rs mo hrl (by omega)]
        exact .inr (.inl ⟨hd, h1, rfl, rfl⟩)
    · show (d.log.take _).length ≤ _
      rw [hl, List.length_append, List.length_take, frameL_len]
      omega
  · have hl : d.log.take (d.synced + k) = [] := by rw [hlo]; simp
    obtain ⟨o1, o2⟩ := (show SnapIs d.snap mo from .inr hsn).one hm
    refine ⟨(show SnapIs d.snap mo from .inr hsn).len hm, o1, ?_, by show (d.log.take _).length ≤ _; rw [hl]; simp⟩
    show Found _ _ _ _ _ (oneB d.snap) (scanL (d.log.take _)).1
    rw [hl, o2, scan_nil]
    exact .inr (.inr ⟨hd, h1, rfl, rfl⟩)
  · have h0 : k = 0 := by omega
    subst h0
    obtain ⟨o1, o2⟩ := hsn.one hs
    have hl : d.log.take (d.synced + 0) = logL rs := by rw [Nat.add_zero, hs2, List.take_length, hlo]
    refine ⟨hsn.len hs, o1, .inl ⟨o2, by show (scanL (d.log.take _)).1 = _; rw [hl, scan_all rs hrl]⟩, by show (d.log.take _).length ≤ _; rw [hl]; omega⟩
end Go.Proofs.Ytpgndejmhegklaa
