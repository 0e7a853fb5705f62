/- Plain laws of a disk: no program in sight. -/
namespace Go.Proofs.Ytpgndejmhegklaa

structure Dsk where
  left : Nat
  odd : Nat
  dead : Bool
  log : List Nat
  synced : Nat
  snap : List Nat
  room : Nat

namespace Dsk
def mk0 (room : Nat) : Dsk := ⟨0, 0, false, [], 0, [], room⟩
def spend (d : Dsk) : Dsk := if 0 < d.left then { d with left := d.left - 1, dead := decide (d.left = 1) } else d
def stop (d : Dsk) (n : Int) : Dsk := { d with left := n.toNat, odd := n.toNat % 2 }
def code (d : Dsk) : Nat := if d.dead then 20 else 0
def append (d : Dsk) (b : List Nat) : Nat × Dsk :=
  if d.dead then (20, d)
  else if d.room < d.log.length + d.snap.length + b.length then (19, d)
  else ((d.spend).code, { d.spend with log := d.log ++ b })
def sync (d : Dsk) : Nat × Dsk :=
  if d.dead then (20, d)
  else if d.spend.dead then (20, d.spend)
  else (0, { d.spend with synced := d.log.length })
def cut (d : Dsk) (n : Int) : Nat × Dsk :=
  if d.dead then (20, d)
  else if n < 0 ∨ d.log.length < n then (1, d)
  else ((d.spend).code, if d.spend.dead = false ∨ d.odd = 0 then { d.spend with log := d.log.take n.toNat, synced := n.toNat } else d.spend)
def swap (d : Dsk) (b : List Nat) : Nat × Dsk :=
  if d.dead then (20, d)
  else if d.room < b.length then (19, d)
  else ((d.spend).code, if d.spend.dead = false ∨ d.odd = 0 then { d.spend with snap := b, log := [], synced := 0 } else d.spend)
def pickN (d : Dsk) (pick : Int) : Nat := (pick % ((d.log.length - d.synced + 1 : Nat) : Int)).toNat
def crash (d : Dsk) (pick : Int) : Dsk := { d with left := 0, odd := 0, dead := false, log := d.log.take (d.synced + d.pickN pick), synced := d.synced + d.pickN pick }

/-- What may be of a disk. -/
structure Ok (d : Dsk) : Prop where
  room : d.room ≤ 16777216
  fits : d.log.length + d.snap.length ≤ d.room
  sync : d.synced ≤ d.log.length
  left : d.left ≤ 9223372036854775807
  odd : d.odd ≤ 1
  log8 : ∀ x ∈ d.log, x < 256
  snap8 : ∀ x ∈ d.snap, x < 256

theorem pick_lt {d : Dsk} (h : d.synced ≤ d.log.length) (pick : Int) : d.synced + d.pickN pick ≤ d.log.length := by
  unfold pickN
  have h1 := Int.emod_lt_of_pos pick (show (0 : Int) < ((d.log.length - d.synced + 1 : Nat) : Int) by omega)
  have h2 := Int.emod_nonneg pick (show ((d.log.length - d.synced + 1 : Nat) : Int) ≠ 0 by omega)
  omega
theorem spend_log (d : Dsk) : d.spend.log = d.log := by unfold spend; split <;> rfl
theorem spend_snap (d : Dsk) : d.spend.snap = d.snap := by unfold spend; split <;> rfl
theorem spend_synced (d : Dsk) : d.spend.synced = d.synced := by unfold spend; split <;> rfl
theorem spend_room (d : Dsk) : d.spend.room = d.room := by unfold spend; split <;> rfl
theorem spend_odd (d : Dsk) : d.spend.odd = d.odd := by unfold spend; split <;> rfl
theorem Ok.spend {d : Dsk} (h : Ok d) : Ok d.spend := by
  refine ⟨by rw [spend_room]; exact h.room, by rw [spend_log, spend_snap, spend_room]; exact h.fits, by rw [spend_log, spend_synced]; exact h.sync, ?_, by rw [spend_odd]; exact h.odd, by rw [spend_log]; exact h.log8, by rw [spend_snap]; exact h.snap8⟩
  unfold Dsk.spend
  have := h.left
  split
  · simp only; omega
  · exact this
theorem Ok.new {room : Nat} (h : room ≤ 16777216) : Ok (mk0 room) := ⟨h, by simp [mk0], by simp [mk0], by simp [mk0], by simp [mk0], by simp [mk0], by simp [mk0]⟩
theorem Ok.stop {d : Dsk} (h : Ok d) {n : Int} (hn : n ≤ 9223372036854775807) : Ok (d.stop n) := ⟨h.room, h.fits, h.sync, by simp only [Dsk.stop]; omega, by simp only [Dsk.stop]; omega, h.log8, h.snap8⟩
theorem Ok.append {d : Dsk} (h : Ok d) {b : List Nat} (hb : ∀ x ∈ b, x < 256) : Ok (d.append b).2 := by
  unfold Dsk.append
  split
  · exact h
  · split
    · exact h
    · have hs := h.spend
      have h1 := h.fits
      have h2 := h.sync
      refine ⟨hs.room, ?_, ?_, hs.left, hs.odd, ?_, hs.snap8⟩
      · simp only [List.length_append, spend_snap, spend_room]; omega
      · simp only [List.length_append, spend_synced]; omega
      · intro x hx
        rcases List.mem_append.1 hx with h3 | h3
        · exact h.log8 x h3
        · exact hb x h3
theorem Ok.sync_ {d : Dsk} (h : Ok d) : Ok (d.sync).2 := by
  unfold Dsk.sync
  split
  · exact h
  · split
    · exact h.spend
    · have hs := h.spend
      exact ⟨hs.room, hs.fits, by simp only [spend_log]; omega, hs.left, hs.odd, hs.log8, hs.snap8⟩
theorem Ok.cut {d : Dsk} (h : Ok d) (n : Int) : Ok (d.cut n).2 := by
  unfold Dsk.cut
  split
  · exact h
  · split
    · exact h
    · rename_i _ hn
      have hs := h.spend
      have hf := h.fits
      simp only
      split
      · refine ⟨hs.room, ?_, ?_, hs.left, hs.odd, fun x hx => h.log8 x (List.mem_of_mem_take hx), hs.snap8⟩
        · simp only [List.length_take, spend_snap, spend_room]; omega
        · simp only [List.length_take]; omega
      · exact hs
theorem Ok.swap {d : Dsk} (h : Ok d) {b : List Nat} (hb : ∀ x ∈ b, x < 256) : Ok (d.swap b).2 := by
  unfold Dsk.swap
  split
  · exact h
  · split
    · exact h
    · have hs := h.spend
      simp only
      split
      · exact ⟨hs.room, by simp only [List.length_nil, spend_room]; omega, by simp, hs.left, hs.odd, by simp, hb⟩
      · exact hs
theorem Ok.crash {d : Dsk} (h : Ok d) (pick : Int) : Ok (d.crash pick) := by
  have h1 := pick_lt h.sync pick
  have h2 := h.fits
  exact ⟨h.room, by simp only [Dsk.crash, List.length_take]; omega, by simp only [Dsk.crash, List.length_take]; omega, by simp [Dsk.crash], by simp [Dsk.crash], fun x hx => h.log8 x (List.mem_of_mem_take hx), h.snap8⟩
end Dsk
end Go.Proofs.Ytpgndejmhegklaa
