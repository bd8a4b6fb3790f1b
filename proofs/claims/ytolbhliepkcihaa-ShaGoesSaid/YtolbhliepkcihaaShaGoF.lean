/- slices.Clone of a row of the call's own, in the form that the printed texts call. -/
import Derived.Test.YtolbhliepkcihaaShaMixF
namespace Go.Proofs.Ytolbhliepkcihaa
open Go.RowKit Go.Proofs.YtolbhliepkcihaaW.PrintWords Go.Proofs.YtolbhliepkcihaaW.PrintLast Go.Proofs.YtolbhliepkcihaaW.PrintMore Go.Proofs.Ytolbhliepkcihaa.Sha
def slices_Clone_uint32_uint32.f (l0 : List Int) : Option (List Int) := if l0.length ≤ 1000 then some l0 else none
theorem clone_own {w : World} {base : Nat} {ok : Nat → Prop} {A : Option Addr} {c : Nat} {l0 r : List Int} (hR : Kd.R (Kd.int .u32) 25 w base ok (.slice A l0.length c) l0) (h : slices_Clone_uint32_uint32.f l0 = some r) :
    Calls Try.prog 32 #[.slice A l0.length c] w fun e w' => ∃ v0_ : Value, e = .returned (v0_) ∧ Kd.R (Kd.int .u32) 25 w' w.heap.size (fun _ => True) v0_ r ∧ Below w.heap.size w w' := by
  unfold slices_Clone_uint32_uint32.f at h
  split at h
  · rename_i hl
    obtain rfl := Option.some.inj h
    have ho := Kd.own_of_R hR
    have hlen := ho.1
    rcases ho.2 with ⟨e, h0⟩ | ⟨g, cap, cur, e, hb, hg, hcap, hmax, hsz, htk⟩
    · injection e with e1 e2 e3
      subst e1
      have hn : l0 = [] := List.eq_nil_of_length_eq_zero h0
      subst hn
      exact (Try.slices_Clone_nil 0 c w).mono fun e w' ⟨he, hw⟩ => ⟨_, he, Kd.R_nil _ _ _ _ _, by rw [hw]; exact Below.refl _ _⟩
    · injection e with e1 e2 e3
      subst e1
      subst e3
      have hc : ∀ j u, (encs (Value.int .u32) l0)[j]? = some u → w.cell? ⟨g, 0 + j, none⟩ = some u := fun j u hu => by
        have hj : j < l0.length * 1 := by rw [← hlen]; exact (List.getElem?_eq_some_iff.1 hu).1
        rw [Nat.zero_add, ho.cellAt j hj]
        exact hu
      have hi := u32_info
      cases hq : Try.prog.info? 25 with
      | none => rw [hq] at hi; simp at hi
      | some i0 =>
        rw [hq] at hi
        simp only [Option.map_some, Option.some.injEq, Prod.mk.injEq] at hi
        obtain ⟨h1, h2, h3⟩ := hi
        refine (Try.slices_Clone i0 (.int .u32 0) 1 4 hq h1 h2 h3 rfl (by decide) (fun w => by kernel_rfl) g 0 l0.length c (encs (Value.int .u32) l0) w hlen (by unfold maxLen; omega) (by omega) hc (fun u hu => ?_)).mono
          fun e w' ⟨v, he, ho', _, hb'⟩ => ⟨v, he, Kd.R_of_own (enc := Value.int .u32) (xs := l0) ho' (fun _ _ => trivial), hb'⟩
        obtain ⟨x, _, rfl⟩ := List.mem_map.1 hu
        rfl
  · cases h
end Go.Proofs.Ytolbhliepkcihaa
