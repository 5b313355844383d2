/-
  Plain facts on disks: what they hold behind a sync, a crash, a repair; their records.
-/
import Derived.Test.YtdflpildopefaaaDiskV
import Derived.Test.YtdflpildopefaaaScanP
namespace Go.Proofs.Ytdflpildopefaaa

def syncD (d : DiskD) : DiskD := if diskOk d = true then (d.1 ++ d.2, []) else ([], [])
def crashD (d : DiskD) (keep : Int) : DiskD := if diskOk d = true ∧ 0 ≤ keep then (d.1 ++ d.2.take keep.toNat, []) else ([], [])
def repairD (d : DiskD) : DiskD := if diskOk d = true then (d.1.take (scan d.1).2, []) else ([], [])
def recordsD (d : DiskD) : List (List Int) := if diskOk d = true then (scan (d.1 ++ d.2)).1 else []
theorem diskOk_def (d : DiskD) : diskOk d = bytesOk (d.1 ++ d.2) := rfl
theorem bytesOk_left {xs ys : List Int} (h : bytesOk (xs ++ ys) = true) : bytesOk xs = true := by
  have := bytesOk_take h xs.length
  rwa [List.take_left'] at this
  rfl
theorem bytesOk_prefix {xs ys : List Int} (k : Nat) (h : bytesOk (xs ++ ys) = true) : bytesOk (xs ++ ys.take k) = true := by
  have h1 := bytesOk_take h (xs.length + k)
  rwa [List.take_append, List.take_of_length_le (by omega), show xs.length + k - xs.length = k from by omega] at h1
theorem diskOk_safe {xs : List Int} (h : bytesOk xs = true) : diskOk (xs, []) = true := by rw [diskOk_def]; simpa using h
theorem syncD_yes {d : DiskD} (h : diskOk d = true) : syncD d = (d.1 ++ d.2, []) := by rw [syncD, if_pos h]
theorem syncD_no {d : DiskD} (h : diskOk d = false) : syncD d = ([], []) := by rw [syncD, if_neg (by simp [h])]
theorem crashD_yes {d : DiskD} {keep : Int} (h : diskOk d = true) (hk : 0 ≤ keep) : crashD d keep = (d.1 ++ d.2.take keep.toNat, []) := by rw [crashD, if_pos ⟨h, hk⟩]
theorem crashD_no {d : DiskD} {keep : Int} (h : diskOk d = false ∨ keep < 0) : crashD d keep = ([], []) := by
  rw [crashD, if_neg]
  rintro ⟨h1, h2⟩
  rcases h with h | h
  · rw [h1] at h; cases h
  · omega
theorem repairD_yes {d : DiskD} (h : diskOk d = true) : repairD d = (d.1.take (scan d.1).2, []) := by rw [repairD, if_pos h]
theorem repairD_no {d : DiskD} (h : diskOk d = false) : repairD d = ([], []) := by rw [repairD, if_neg (by simp [h])]
theorem recordsD_yes {d : DiskD} (h : diskOk d = true) : recordsD d = (scan (d.1 ++ d.2)).1 := by rw [recordsD, if_pos h]
theorem recordsD_no {d : DiskD} (h : diskOk d = false) : recordsD d = [] := by rw [recordsD, if_neg (by simp [h])]
theorem diskOk_rng {d : DiskD} (h : diskOk d = true) : d.1.length + d.2.length ≤ 2000 := by
  have := (bytesOk_rng h).1; rwa [List.length_append] at this
theorem syncD_ok {d : DiskD} (h : diskOk d = true) : diskOk (syncD d) = true := by rw [syncD_yes h]; exact diskOk_safe h
/-- A crash behind a sync loses nothing. -/
theorem crash_sync {d : DiskD} (h : diskOk d = true) {keep : Int} (hk : 0 ≤ keep) : crashD (syncD d) keep = syncD d := by
  rw [crashD_yes (syncD_ok h) hk, syncD_yes h]; simp
theorem records_sync {d : DiskD} (h : diskOk d = true) : recordsD (syncD d) = recordsD d := by
  rw [recordsD_yes (syncD_ok h), recordsD_yes h, syncD_yes h]; simp
/-- Keeping everything is a sync. -/
theorem crash_all {d : DiskD} (h : diskOk d = true) {keep : Int} (hk : (d.2.length : Int) ≤ keep) : crashD d keep = syncD d := by
  rw [crashD_yes h (by omega), syncD_yes h, List.take_of_length_le (by omega)]
theorem crashD_ok {d : DiskD} (h : diskOk d = true) {keep : Int} (hk : 0 ≤ keep) : diskOk (crashD d keep) = true := by
  rw [crashD_yes h hk]; exact diskOk_safe (bytesOk_prefix _ h)
theorem repairD_ok {d : DiskD} (h : diskOk d = true) : diskOk (repairD d) = true := by
  rw [repairD_yes h]; exact diskOk_safe (bytesOk_take (bytesOk_left h) _)
theorem scan_repair {d : DiskD} (h : diskOk d = true) : scan (repairD d).1 = scan d.1 := by
  rw [repairD_yes h]; exact scan_taken (bytesOk_left h)
theorem scan_repair_len {d : DiskD} (h : diskOk d = true) : (scan (repairD d).1).2 = (repairD d).1.length := by
  rw [scan_repair h, repairD_yes h]
  show _ = (d.1.take (scan d.1).2).length
  rw [List.length_take, Nat.min_eq_left (scan_rng _).1]
/-- Repairing again changes nothing. -/
theorem repair_twice {d : DiskD} (h : diskOk d = true) : repairD (repairD d) = repairD d := by
  rw [repairD_yes (repairD_ok h), scan_repair_len h, List.take_of_length_le (Nat.le_refl _), repairD_yes h]
theorem records_repair {d : DiskD} (h : diskOk d = true) : recordsD (repairD d) = recordsD (d.1, []) := by
  rw [recordsD_yes (repairD_ok h), recordsD_yes (diskOk_safe (bytesOk_left h))]
  have e : (repairD d).2 = [] := by rw [repairD_yes h]
  rw [e, List.append_nil, List.append_nil, scan_repair h]
/-- Behind a crash and a repair the records are a beginning of those before. -/
theorem records_crash {d : DiskD} (h : diskOk d = true) {keep : Int} (hk : 0 ≤ keep) :
    (recordsD (repairD (crashD d keep))).length ≤ (recordsD d).length ∧ recordsD (repairD (crashD d keep)) = (recordsD d).take (recordsD (repairD (crashD d keep))).length := by
  have hc := crashD_ok h hk
  have e1 : recordsD (repairD (crashD d keep)) = (scan (d.1 ++ d.2.take keep.toNat)).1 := by
    rw [records_repair hc, crashD_yes h hk, recordsD_yes (diskOk_safe (bytesOk_prefix _ h)), List.append_nil]
  have hp := scan_prefix (d.1 ++ d.2.take keep.toNat) (d.2.drop keep.toNat)
  rw [List.append_assoc, List.take_append_drop] at hp
  rw [e1, recordsD_yes h]
  exact ⟨hp.2, hp.1⟩
end Go.Proofs.Ytdflpildopefaaa
