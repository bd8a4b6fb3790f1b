/- What aes.Keys computes: the bytes of all round keys, as a function of the place. -/
import Derived.Test.YtnaidfcehmdmcaaRowB
import Derived.Test.YtnaidfcehmdmcaaFieldQuiet
import Derived.Maps.AppendAt
namespace Go.Proofs.Ytnaidfcehmdmcaa.Key
open Go.RowKit Go.Proofs.Ytnaidfcehmdmcaa.FC Go.Proofs.Ytnaidfcehmdmcaa.Mem Go.Proofs.Ytnaidfcehmdmcaa.AS Go.Proofs.Ytnaidfcehmdmcaa.Row
open Go.Proofs.YtnaidfcehmdmcaaW.PrintWords Go.Proofs.YtnaidfcehmdmcaaW.PrintLast Go.Proofs.YtnaidfcehmdmcaaW.PrintMore

/-- word n's bytes ahead of the sum with the word K back -/
def wd (K : Nat) (F : Nat → Int) (n r : Nat) : Int :=
  if n % K = 0 then (if r = 0 then bits .xor .u8 (boxI (F (4 * n - 4 + 1))) (twoI (n / K - 1)) else boxI (F (4 * n - 4 + (r + 1) % 4)))
  else if K = 8 ∧ n % 8 = 4 then boxI (F (4 * n - 4 + r)) else F (4 * n - 4 + r)
/-- the bytes, m words behind the key's own -/
def keyG (K : Nat) (s : ByteArray) : Nat → Nat → Int
  | 0 => fun j => bt s j
  | m + 1 => fun j => if j < 4 * (K + m) then keyG K s m j else bits .xor .u8 (keyG K s m (j - 4 * K)) (wd K (keyG K s m) (K + m) (j % 4))
def keyF (K : Nat) (s : ByteArray) : Nat → Int := keyG K s 60
theorem keyG_more (K : Nat) (s : ByteArray) (m j : Nat) (hj : j < 4 * (K + m)) : ∀ d, keyG K s (m + d) j = keyG K s m j
  | 0 => rfl
  | d + 1 => by
    show keyG K s (m + d + 1) j = _
    unfold keyG
    rw [if_pos (by omega)]
    have := keyG_more K s m j hj d
    rw [this]
    cases m <;> simp [keyG]
theorem wd_congr {K : Nat} {F G : Nat → Int} {n r : Nat} (hn : 0 < n) (hr : r < 4) (h : ∀ j, j < 4 * n → F j = G j) : wd K F n r = wd K G n r := by
  unfold wd
  rw [h (4 * n - 4 + 1) (by omega), h (4 * n - 4 + (r + 1) % 4) (by omega), h (4 * n - 4 + r) (by omega)]
structure KeyF (K : Nat) (s : ByteArray) (F : Nat → Int) : Prop where
  first : ∀ j, j < 4 * K → F j = bt s j
  next : ∀ n r, K ≤ n → n < K + 60 → r < 4 → F (4 * n + r) = bits .xor .u8 (F (4 * n + r - 4 * K)) (wd K F n r)
theorem keyF_law (K : Nat) (hK : 0 < K) (s : ByteArray) : KeyF K s (keyF K s) := by
  refine ⟨fun j hj => ?_, fun n r h1 h2 h3 => ?_⟩
  · have := keyG_more K s 0 j (by omega) 60
    rw [Nat.zero_add] at this
    unfold keyF; rw [this]; rfl
  · obtain ⟨m, rfl⟩ : ∃ m, n = K + m := ⟨n - K, by omega⟩
    have hm : m < 60 := by omega
    have st : ∀ j, j < 4 * (K + m) → keyF K s j = keyG K s m j := fun j hj => by
      have := keyG_more K s m j hj (60 - m)
      rw [show m + (60 - m) = 60 by omega] at this
      exact this
    have st1 : keyF K s (4 * (K + m) + r) = keyG K s (m + 1) (4 * (K + m) + r) := by
      have := keyG_more K s (m + 1) (4 * (K + m) + r) (by omega) (60 - (m + 1))
      rw [show m + 1 + (60 - (m + 1)) = 60 by omega] at this
      exact this
    rw [st1]
    show (if _ then _ else _) = _
    rw [if_neg (by omega), show (4 * (K + m) + r) % 4 = r by omega, st _ (by omega), wd_congr (by omega) h3 st]
theorem By.wd {K : Nat} {F : Nat → Int} (h : ∀ j, By (F j)) (n r : Nat) : By (wd K F n r) := by
  unfold Key.wd
  split
  · split
    · exact (By.box (h _)).xor (By.two _)
    · exact By.box (h _)
  · split
    · exact By.box (h _)
    · exact h _
theorem keyG_by (K : Nat) (s : ByteArray) : ∀ m j, By (keyG K s m j)
  | 0, j => bt_by s j
  | m + 1, j => by
    unfold keyG
    split
    · exact keyG_by K s m j
    · exact (keyG_by K s m _).xor (By.wd (keyG_by K s m) _ _)
theorem keyF_by (K : Nat) (s : ByteArray) (j : Nat) : By (keyF K s j) := keyG_by K s 60 j
/-- a round key -/
def keyT (F : Nat → Int) (m : Nat) : ByteArray := txt fun i => F (16 * m + i)
/-- four of a row of bytes, as an array -/
theorem slice29 (g p c cap : Nat) (hc : c = p + 4) (hcap : c ≤ cap) (L : Nat) (w : World) : (Instr.sliceAt 29 (.slice (some ⟨g, 0, none⟩) L cap) (some (.int .i64 (p : Int))) (some (.int .i64 (c : Int))) none).run Try.prog w = .ok (.slice (some ⟨g, p, none⟩) 4 (cap - p)) w := by
  have ht : Try.prog.underlying 29 = some (.slice (Try.prog.elem 29)) := by kernel_rfl
  have hs : (sizeOf (Try.prog.elem 29)).run Try.prog w = .ok 1 w := by kernel_rfl
  rw [run_sliceAt_slice w 29 _ _ _ _ ht, run_slice_lh w 29 _ _ _ ht .i64 .i64 (p : Int) (c : Int) (by omega) (by omega) (by omega), hs, Result.andThen_ok, Int.toNat_natCast, Int.toNat_natCast]
  unfold sliced
  rw [if_neg (by omega), hc]
  simp [Addr.add]
  intro h; exact h.symm
theorem slice29b (g p cap : Nat) (hcap : p + 16 ≤ cap) (L : Nat) (w : World) : (Instr.sliceAt 29 (.slice (some ⟨g, 0, none⟩) L cap) (some (.int .i64 (p : Int))) (some (.int .i64 ((p : Int) + 16))) none).run Try.prog w = .ok (.slice (some ⟨g, p, none⟩) 16 (cap - p)) w := by
  have ht : Try.prog.underlying 29 = some (.slice (Try.prog.elem 29)) := by kernel_rfl
  have hs : (sizeOf (Try.prog.elem 29)).run Try.prog w = .ok 1 w := by kernel_rfl
  have e2 : ((p : Int) + 16).toNat = p + 16 := by omega
  rw [run_sliceAt_slice w 29 _ _ _ _ ht, run_slice_lh w 29 _ _ _ ht .i64 .i64 (p : Int) ((p : Int) + 16) (by omega) (by omega) (by omega), hs, Result.andThen_ok, Int.toNat_natCast, e2]
  unfold sliced
  rw [if_neg (by omega)]
  simp [Addr.add]
  intro h; exact h.symm
theorem conv29 (f : Nat → Int) (g o cp : Nat) (w : World) (h : ∀ i, i < 16 → w.cell? ⟨g, o + i, none⟩ = some (.int .u8 (f i))) : (convert 29 9 (.slice (some ⟨g, o, none⟩) 16 cp)).run Try.prog w = .ok (.string (txt f)) w := by
  refine run_convert_bytes_arg w 29 5 Try.underlying29 Try.underlying5 g o 16 cp ((List.range 16).map f) (by simp) (fun i hi => ?_) 9 Try.underlying9
  rw [h i hi]
  simp [List.getElem?_range hi]
theorem str_info : ∃ i z, Try.prog.info? 9 = some i ∧ i.zero = some z ∧ i.size = 1 ∧ i.bytes = 16 ∧ z.cells.size = 1 := by
  have h1 : (Try.prog.info? 9).map (·.zero) = some (some (.string ⟨#[]⟩)) := by kernel_rfl
  have h2 : (Try.prog.info? 9).map (·.size) = some 1 := by kernel_rfl
  have h3 : (Try.prog.info? 9).map (·.bytes) = some 16 := by kernel_rfl
  cases hq : Try.prog.info? 9 with
  | none => rw [hq] at h2; cases h2
  | some i =>
    rw [hq] at h1 h2 h3
    exact ⟨i, .string ⟨#[]⟩, rfl, by simpa using h1, by simpa using h2, by simpa using h3, rfl⟩
/-- the round keys, as a slice of texts that the call has made -/
def KeysRow (B : Nat) (v : Value) (m : Nat) (F : Nat → Int) (w : World) : Prop := w.ownsRow B 9 1 v m ((List.range m).map fun i => .string (keyT F i))
end Go.Proofs.Ytnaidfcehmdmcaa.Key
