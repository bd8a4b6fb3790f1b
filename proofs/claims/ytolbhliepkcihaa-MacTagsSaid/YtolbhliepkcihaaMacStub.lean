/- mac.of, and mac's inner functions in the form that the printed texts call. -/
import Derived.Test.YtolbhliepkcihaaMacKeys
namespace Go.Proofs.Ytolbhliepkcihaa.Mac
open Go.RowKit Go.Proofs.Ytolbhliepkcihaa.Mem Go.Proofs.Ytolbhliepkcihaa.Sha Go.Proofs.YtolbhliepkcihaaW.PrintWords Go.Proofs.YtolbhliepkcihaaW.PrintLast Go.Proofs.YtolbhliepkcihaaW.PrintMore
theorem join_two (a b : ByteArray) : (⟨(Lib.join ([a, b].map (·.data.toList)) (⟨#[]⟩ : ByteArray).data.toList).toArray⟩ : ByteArray) = a ++ b := by
  apply ByteArray.ext
  rw [ByteArray.data_append]
  simp [Lib.join]
set_option maxRecDepth 100000 in
theorem of_any (a b : ByteArray) (hs : a.size + b.size ≤ 1099511627776) (bk c : Nat) (hc : 2 ≤ c) (w : World) (hcells : ∀ (j : Nat) x, [a, b][j]? = some x → w.cell? ⟨bk, 0 + j, none⟩ = some (.string x)) (hbk : bk < w.heap.size) :
    Calls Try.prog 79 #[.slice (some ⟨bk, 0, none⟩) 2 c] w fun e w' => e = .returned (.string (sumS (a ++ b))) ∧ Below w.heap.size w w' := by
  have hl : (Lib.join ([a, b].map (·.data.toList)) (⟨#[]⟩ : ByteArray).data.toList).length ≤ 140737488355328 := by
    have h := congrArg ByteArray.size (join_two a b)
    rw [ByteArray.size_append] at h
    have h2 : (⟨(Lib.join ([a, b].map (·.data.toList)) (⟨#[]⟩ : ByteArray).data.toList).toArray⟩ : ByteArray).size = (Lib.join ([a, b].map (·.data.toList)) (⟨#[]⟩ : ByteArray).data.toList).length := by simp [ByteArray.size]
    omega
  have hj := Try.strings_Join bk 0 c [a, b] ⟨#[]⟩ w hcells hbk (by simp) (by simpa using hc) hl
  rw [join_two] at hj
  have HJ := Lib.hid hj
  have HS := Lib.hid (sum_any (a ++ b) (by rw [ByteArray.size_append]; exact hs))
  clear hj hl hcells
  generalize sumS (a ++ b) = r at *
  generalize a ++ b = s at *
  go_enter Try.func79, Try.ntmps79
  go_wp2_with fail
  refine HJ.out.mono ?_
  rintro e w1 ⟨rfl, hb1⟩
  go_wp2_with fail
  refine (HS.out _).mono ?_
  rintro e w2 ⟨rfl, hb2⟩
  go_wp2
  go_ret
  exact ⟨rfl, Bel.step hb1 hb2⟩
end Go.Proofs.Ytolbhliepkcihaa.Mac
namespace Go.Proofs.Ytolbhliepkcihaa
open Go.RowKit Go.Proofs.YtolbhliepkcihaaW.PrintWords Go.Proofs.YtolbhliepkcihaaW.PrintLast Go.Proofs.YtolbhliepkcihaaW.PrintMore Go.Proofs.Ytolbhliepkcihaa.Sha Go.Proofs.Ytolbhliepkcihaa.Mac
def mac_keys.f (a0 : ByteArray) : Option (ByteArray × ByteArray) := if a0.size ≤ 549755813888 then some (xorS (fitS a0) 54, xorS (fitS a0) 92) else none
theorem mac_keys.calls (a0 : ByteArray) (r1 r2 : ByteArray) (w : World) (h : mac_keys.f a0 = some (r1, r2)) :
    Calls Try.prog 78 #[.string a0] w fun e w' => e = .returned (.tuple #[.string r1, .string r2]) ∧ Below w.heap.size w w' := by
  unfold mac_keys.f at h
  split at h
  · injection h with h
    injection h with h1 h2
    subst h1
    subst h2
    exact keys_any a0 (by assumption) w
  · cases h
def mac_of.f : List ByteArray → Option ByteArray
  | [a, b] => if a.size + b.size ≤ 1099511627776 then some (sumS (a ++ b)) else none
  | _ => none
theorem mac_of_own {w : World} {base : Nat} {ok : Nat → Prop} {A : Option Addr} {c : Nat} {l0 : List ByteArray} {r : ByteArray} (hR : Kd.R Kd.string 9 w base ok (.slice A l0.length c) l0) (h : mac_of.f l0 = some r) :
    Calls Try.prog 79 #[.slice A l0.length c] w fun e w' => e = .returned (.string r) ∧ Below w.heap.size w w' := by
  match l0, h with
  | [a, b], h =>
    have h : (if a.size + b.size ≤ 1099511627776 then some (sumS (a ++ b)) else none) = some r := h
    split at h
    · obtain rfl := Option.some.inj h
      have ho := Kd.own_of_R hR
      rcases ho.2 with ⟨e, h0⟩ | ⟨g, cap, cur, e, hb, hg, hcap, hmax, hsz, htk⟩
      · cases h0
      · injection e with e1 e2 e3
        subst e1
        subst e3
        refine of_any a b (by assumption) g c hcap w (fun j x hj => ?_) (Array.getElem?_eq_some_iff.1 hg).1
        have hj2 : j < 2 := (List.getElem?_eq_some_iff.1 hj).1
        rw [Nat.zero_add, ho.cellAt j (by simpa using hj2)]
        show ([a, b].map Value.string)[j]? = _
        rw [List.getElem?_map, hj]
        rfl
    · cases h
def strings_Repeat.f (a0 : ByteArray) (a1 : Int) : Option ByteArray := if 0 ≤ a1 ∧ a1 ≤ 1000 ∧ a0.size ≤ 1000 then some ⟨(Lib.repeatL a0.data.toList a1.toNat).toArray⟩ else none
theorem strings_Repeat.calls (a0 : ByteArray) (a1 : Int) (r : ByteArray) (w : World) (h : strings_Repeat.f a0 a1 = some r) :
    Calls Try.prog 70 #[.string a0, .int .i64 a1] w fun e w' => e = .returned (.string r) ∧ Below w.heap.size w w' := by
  unfold strings_Repeat.f at h
  split at h
  · rename_i hc
    obtain ⟨h1, h2, h3⟩ := hc
    obtain rfl := Option.some.inj h
    obtain ⟨c, rfl⟩ : ∃ c : Nat, a1 = (c : Int) := ⟨a1.toNat, by omega⟩
    rw [Int.toNat_natCast]
    refine Try.strings_Repeat a0 c w (by omega) ?_
    have := Nat.mul_le_mul h3 (show c ≤ 1000 by omega)
    omega
  · cases h
end Go.Proofs.Ytolbhliepkcihaa
