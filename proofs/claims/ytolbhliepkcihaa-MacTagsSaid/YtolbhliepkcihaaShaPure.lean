/- SHA-256 in plain Lean: what the laws ask. -/
import Derived.Test.YtolbhliepkcihaaShaStub
namespace Go.Proofs.Ytolbhliepkcihaa.Sha
open Go.RowKit Go.Proofs.YtolbhliepkcihaaW.PrintWords Go.Proofs.YtolbhliepkcihaaW.PrintLast Go.Proofs.YtolbhliepkcihaaW.PrintMore
theorem bt_ofNats (l : List Nat) (i : Nat) (h : i < l.length) (hx : l.getD i 0 < 256) : bt (ofNats l) (i : Int) = ((l.getD i 0 : Nat) : Int) := by
  rw [bt_bn]
  congr 1
  unfold bn
  have hs := ofNats_size l
  rw [dif_pos (by omega)]
  show (((l.map UInt8.ofNat).toArray[i]'(by simpa using h))).toNat = _
  rw [List.getElem_toArray, List.getElem_map]
  rw [List.getD_eq_getElem?_getD, List.getElem?_eq_getElem h] at hx ⊢
  simp only [Option.getD_some] at hx ⊢
  simp
  omega
theorem out_length (s : St) : (outL s).length = 32 := rfl
theorem sum_size (s : ByteArray) : (sumS s).size = 32 := by unfold sumS; rw [ofNats_size, out_length]
theorem rounds_congr {W V : Nat → Nat} (s : St) (h : ∀ t, W t = V t) (t : Nat) : rounds W s t = rounds V s t := by
  have : W = V := funext h
  rw [this]
theorem abc_go : (goS (padS abc) 1).a = 0xba7816bf := by
  have h1 : goS (padS abc) 1 = addS (rounds (wordN ((padS abc).extract 0 64)) start 64) start := rfl
  have h2 : ∀ t, wordN ((padS abc).extract 0 64) t = (moreW 48 [0x61626380, 0, 0, 0, 0, 0, 0, 0, 0, 0, 0, 0, 0, 0, 0, 24]).getD t 0 := fun t => by
    unfold wordN words
    rw [abc_words]
  rw [h1, rounds_congr _ h2]
  exact abc_a
theorem abc_pad : (padS abc).size / 64 = 1 := by decide +kernel
theorem abc_bt0 : bt (sumS abc) 0 = 186 := by
  have h := bt_ofNats (outL (goS (padS abc) 1)) 0 (by rw [out_length]; decide) (by
    show (goS (padS abc) 1).a / 16777216 % 256 < 256
    exact Nat.mod_lt _ (by decide))
  have e : (outL (goS (padS abc) 1)).getD 0 0 = (goS (padS abc) 1).a / 16777216 % 256 := rfl
  rw [e, abc_go] at h
  unfold sumS
  rw [abc_pad]
  exact h
theorem abc_bt1 : bt (sumS abc) 1 = 120 := by
  have h := bt_ofNats (outL (goS (padS abc) 1)) 1 (by rw [out_length]; decide) (by
    show (goS (padS abc) 1).a / 65536 % 256 < 256
    exact Nat.mod_lt _ (by decide))
  have e : (outL (goS (padS abc) 1)).getD 1 0 = (goS (padS abc) 1).a / 65536 % 256 := rfl
  rw [e, abc_go] at h
  unfold sumS
  rw [abc_pad]
  exact h
theorem sum_f (s : ByteArray) (h : s.size ≤ 1000000) : sha_Sum.f s = some (sumS s) := if_pos (by unfold most; omega)
theorem refsum_f (s : ByteArray) (h : s.size ≤ 1000000) : saltusref03_Sum.f s = some (sumS s) := if_pos (by unfold most; omega)
theorem pad_f (s : ByteArray) (h : s.size ≤ 1000000) : sha_Pad.f s = some (padS s) := if_pos (by unfold most; omega)
theorem refpad_f (s : ByteArray) (h : s.size ≤ 1000000) : saltusref03_Pad.f s = some (padS s) := if_pos (by unfold most; omega)

theorem pad_list (s : ByteArray) : (padS s).data.toList = ((s.data.toList ++ [128]) ++ List.replicate (zerosN s.size) 0) ++ (high8 (s.size * 8 % 18446744073709551616)).map UInt8.ofNat := by
  unfold padS
  rw [ByteArray.data_append, ByteArray.data_append, ByteArray.data_append]
  simp [ofNats]
theorem high8_inj {a b : Nat} (ha : a < 18446744073709551616) (hb : b < 18446744073709551616) (h : (high8 a).map UInt8.ofNat = (high8 b).map UInt8.ofNat) : a = b := by
  have key : ∀ x y : Nat, UInt8.ofNat (x % 256) = UInt8.ofNat (y % 256) → x % 256 = y % 256 := fun x y e => by
    have := congrArg UInt8.toNat e
    simpa using this
  simp only [high8, List.map_cons, List.map_nil, List.cons.injEq, and_true] at h
  obtain ⟨h0, h1, h2, h3, h4, h5, h6, h7⟩ := h
  have e0 := key _ _ h0; have e1 := key _ _ h1; have e2 := key _ _ h2; have e3 := key _ _ h3
  have e4 := key _ _ h4; have e5 := key _ _ h5; have e6 := key _ _ h6; have e7 := key _ _ h7
  clear h0 h1 h2 h3 h4 h5 h6 h7 key
  omega
theorem pad_inj {s t : ByteArray} (hs : s.size ≤ 1000000) (ht : t.size ≤ 1000000) (h : padS s = padS t) : s = t := by
  have hl : (padS s).data.toList = (padS t).data.toList := by rw [h]
  rw [pad_list, pad_list] at hl
  obtain ⟨h1, h2⟩ := List.append_inj' hl (by simp [high8])
  have h3 := high8_inj (Nat.mod_lt _ (by decide)) (Nat.mod_lt _ (by decide)) h2
  have hsz : s.size = t.size := by omega
  rw [hsz] at h1
  obtain ⟨h4, _⟩ := List.append_inj' h1 (by simp)
  obtain ⟨h5, _⟩ := List.append_inj' h4 (by simp)
  exact ByteArray.ext (Array.toList_inj.mp h5)
theorem toList_inj {a b : ByteArray} (h : a.toList = b.toList) : a = b := by
  rw [ByteArray.toList_eq, ByteArray.toList_eq] at h
  exact ByteArray.ext (Array.toList_inj.mp h)
theorem pad_prefix (s : ByteArray) : (padS s).extract 0 (s.size + 1) = s ++ ⟨#[128]⟩ := by
  have h : padS s = (s ++ ⟨#[128]⟩) ++ (ofNats (List.replicate (zerosN s.size) 0) ++ ofNats (high8 (s.size * 8 % 18446744073709551616))) := by
    unfold padS
    rw [ByteArray.append_assoc]
  rw [h]
  exact ByteArray.extract_append_eq_left (by rw [ByteArray.size_append]; rfl)
end Go.Proofs.Ytolbhliepkcihaa.Sha
