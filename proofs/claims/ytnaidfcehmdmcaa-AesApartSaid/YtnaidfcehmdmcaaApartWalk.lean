/- AesApart: the walk. -/
import Derived.Test.YtnaidfcehmdmcaaEncPlain
import Derived.Test.YtnaidfcehmdmcaaAesLaw1
import Derived.Deep.RegionHeld3
import Derived.Outline
namespace Go.Proofs.Ytnaidfcehmdmcaa.Key
open Go.RowKit Go.Proofs.Ytnaidfcehmdmcaa.FC Go.Proofs.Ytnaidfcehmdmcaa.Mem Go.Proofs.Ytnaidfcehmdmcaa.AS Go.Proofs.Ytnaidfcehmdmcaa.Row
open Go.Proofs.YtnaidfcehmdmcaaW.PrintWords Go.Proofs.YtnaidfcehmdmcaaW.PrintLast Go.Proofs.YtnaidfcehmdmcaaW.PrintMore
set_option maxRecDepth 100000
set_option maxHeartbeats 800000
theorem bytes_inj {a b : ByteArray} (h : a.toList = b.toList) : a = b := by
  rw [ByteArray.toList_eq, ByteArray.toList_eq] at h
  exact ByteArray.ext (Array.toList_inj.mp h)
theorem apart_all (key a0 b0 : ByteArray) (w : World) : Calls Try.prog 11 #[.string key, .string a0, .string b0] w fun e w' => e = .returned (.bool true) ∧ Below w.heap.size w w' := by
  have HB := Lib.hid (Below.refl w.heap.size w)
  have hc1 := cut_any key
  have hc2 := cut_any a0
  have hc3 := cut_any b0
  generalize cutS key = k at *
  generalize cutS a0 = a at *
  generalize cutS b0 = b at *
  have HC1 := Lib.hid hc1
  have HC2 := Lib.hid hc2
  have HC3 := Lib.hid hc3
  clear hc1 hc2 hc3
  by_cases hk : k.size = 16 ∨ k.size = 32
  · by_cases ha : a.size = 16
    · by_cases hb : b.size = 16
      · rcases hk with h | h
        · have hkk : k.size = 16 ∨ k.size = 32 := by omega
          have hks : ((k.size : Nat) : Int) = 16 := by omega
          have hkn : keyN k = 11 := by unfold keyN; omega
          have E1 := Lib.hid (enc_yes k a hkk ha)
          have E2 := Lib.hid (enc_yes k b hkk hb)
          have hk2 := keys_yes k hkk
          rw [hkn] at hk2
          have HK := Lib.hid hk2
          have hx : (encS k a).size = 16 := AS.txt_size _
          have hz := keyT_zero k hkk
          have hi := encS_inj k a b ha hb
          have hj : a = b → encS k a = encS k b := fun h => by rw [h]
          generalize encS k a = x at *
          generalize encS k b = y at *
          generalize hz0 : keyT (keyB k) 0 = z at *
          have HZ0 := Lib.hid hz0
          have hxi : ((x.size : Nat) : Int) = 16 := by omega
          have hcase : (a = b ∧ x = y) ∨ (a ≠ b ∧ x ≠ y) := by
            by_cases c : a = b
            · exact .inl ⟨c, hj c⟩
            · exact .inr ⟨c, fun h => c (hi h)⟩
          clear hi hj hz0 hb hk2 hkn hkk h ha hx
          go_enter Try.func11, Try.ntmps11
          go_wp2_with (first | (go_at_call 23; first | ((with_reducible refine (HC1.out _).mono ?_); rintro e w1 ⟨rfl, hb⟩; replace HB := Lib.hid (Bel.step HB.out hb); clear hb) | ((with_reducible refine (HC2.out _).mono ?_); rintro e w1 ⟨rfl, hb⟩; replace HB := Lib.hid (Bel.step HB.out hb); clear hb) | ((with_reducible refine (HC3.out _).mono ?_); rintro e w1 ⟨rfl, hb⟩; replace HB := Lib.hid (Bel.step HB.out hb); clear hb)) | (go_at_call 35; first | ((with_reducible refine (E1.out _).mono ?_); rintro e w1 ⟨rfl, hb⟩; replace HB := Lib.hid (Bel.step HB.out hb); clear hb) | ((with_reducible refine (E2.out _).mono ?_); rintro e w1 ⟨rfl, hb⟩; replace HB := Lib.hid (Bel.step HB.out hb); clear hb)) | (go_at_call 31; refine (HK.out _).mono ?_; rintro e w1 ⟨v, rfl, hrow, hb⟩; obtain ⟨rb, cap, rfl, hB, hcap, hr⟩ := hrow.open_ (by decide); have hr0 := hr 0 (by decide); clear hrow hr; replace HB := Lib.hid (Bel.step HB.out hb); clear hb))
          have hdd : ∃ t : Bool, (a.toList == b.toList) = t ∧ (x.toList == y.toList) = t := by
            rcases hcase with ⟨c1, c2⟩ | ⟨c1, c2⟩
            · exact ⟨true, by rw [c1]; exact beq_self_eq_true _, by rw [c2]; exact beq_self_eq_true _⟩
            · exact ⟨false, beq_eq_false_iff_ne.2 (fun h => c1 (bytes_inj h)), beq_eq_false_iff_ne.2 (fun h => c2 (bytes_inj h))⟩
          obtain ⟨t, hd1, hd2⟩ := hdd
          clear hcase
          have hlr : rb < w1.heap.size := World.block_lt_of_cell? w1 _ hr0
          rw [HZ0.out] at hr0
          go_region_held3 (fun w' => w'.cell? ⟨rb, 0, none⟩ = some (.string z))
            (first | go_keep | exact (World.cell?_of_block (a := ⟨rb, 0, none⟩) (hb7.block rb hlr)).trans hr0)
            (first | (go_at_call 27; refine (alive06 _).mono ?_; rintro e w7 ⟨rfl, hb7⟩))
          go_wp2
          go_ret
          exact ⟨by first | rfl | (simp; done) | (simp [*]; done) | (simp; rfl), by first | exact Bel.step HB.out hb7 | exact Bel.step (below_drew HB.out) hb7⟩
        · have hkk : k.size = 16 ∨ k.size = 32 := by omega
          have hks : ((k.size : Nat) : Int) = 32 := by omega
          have hkn : keyN k = 15 := by unfold keyN; omega
          have E1 := Lib.hid (enc_yes k a hkk ha)
          have E2 := Lib.hid (enc_yes k b hkk hb)
          have hk2 := keys_yes k hkk
          rw [hkn] at hk2
          have HK := Lib.hid hk2
          have hx : (encS k a).size = 16 := AS.txt_size _
          have hz := keyT_zero k hkk
          have hi := encS_inj k a b ha hb
          have hj : a = b → encS k a = encS k b := fun h => by rw [h]
          generalize encS k a = x at *
          generalize encS k b = y at *
          generalize hz0 : keyT (keyB k) 0 = z at *
          have HZ0 := Lib.hid hz0
          have hxi : ((x.size : Nat) : Int) = 16 := by omega
          have hcase : (a = b ∧ x = y) ∨ (a ≠ b ∧ x ≠ y) := by
            by_cases c : a = b
            · exact .inl ⟨c, hj c⟩
            · exact .inr ⟨c, fun h => c (hi h)⟩
          clear hi hj hz0 hb hk2 hkn hkk h ha hx
          go_enter Try.func11, Try.ntmps11
          go_wp2_with (first | (go_at_call 23; first | ((with_reducible refine (HC1.out _).mono ?_); rintro e w1 ⟨rfl, hb⟩; replace HB := Lib.hid (Bel.step HB.out hb); clear hb) | ((with_reducible refine (HC2.out _).mono ?_); rintro e w1 ⟨rfl, hb⟩; replace HB := Lib.hid (Bel.step HB.out hb); clear hb) | ((with_reducible refine (HC3.out _).mono ?_); rintro e w1 ⟨rfl, hb⟩; replace HB := Lib.hid (Bel.step HB.out hb); clear hb)) | (go_at_call 35; first | ((with_reducible refine (E1.out _).mono ?_); rintro e w1 ⟨rfl, hb⟩; replace HB := Lib.hid (Bel.step HB.out hb); clear hb) | ((with_reducible refine (E2.out _).mono ?_); rintro e w1 ⟨rfl, hb⟩; replace HB := Lib.hid (Bel.step HB.out hb); clear hb)) | (go_at_call 31; refine (HK.out _).mono ?_; rintro e w1 ⟨v, rfl, hrow, hb⟩; obtain ⟨rb, cap, rfl, hB, hcap, hr⟩ := hrow.open_ (by decide); have hr0 := hr 0 (by decide); clear hrow hr; replace HB := Lib.hid (Bel.step HB.out hb); clear hb))
          have hdd : ∃ t : Bool, (a.toList == b.toList) = t ∧ (x.toList == y.toList) = t := by
            rcases hcase with ⟨c1, c2⟩ | ⟨c1, c2⟩
            · exact ⟨true, by rw [c1]; exact beq_self_eq_true _, by rw [c2]; exact beq_self_eq_true _⟩
            · exact ⟨false, beq_eq_false_iff_ne.2 (fun h => c1 (bytes_inj h)), beq_eq_false_iff_ne.2 (fun h => c2 (bytes_inj h))⟩
          obtain ⟨t, hd1, hd2⟩ := hdd
          clear hcase
          have hlr : rb < w1.heap.size := World.block_lt_of_cell? w1 _ hr0
          rw [HZ0.out] at hr0
          go_region_held3 (fun w' => w'.cell? ⟨rb, 0, none⟩ = some (.string z))
            (first | go_keep | exact (World.cell?_of_block (a := ⟨rb, 0, none⟩) (hb7.block rb hlr)).trans hr0)
            (first | (go_at_call 27; refine (alive06 _).mono ?_; rintro e w7 ⟨rfl, hb7⟩))
          go_wp2
          go_ret
          exact ⟨by first | rfl | (simp; done) | (simp [*]; done) | (simp; rfl), by first | exact Bel.step HB.out hb7 | exact Bel.step (below_drew HB.out) hb7⟩
      · have E1 := Lib.hid (enc_yes k a hk ha)
        have E2 := Lib.hid (enc_size k b hk hb)
        have HK := Lib.hid (keys_yes k hk)
        have hne : ((b.size : Int) != 16) = true := by rw [bne_iff_ne]; omega
        have hae : ((a.size : Int) != 16) = false := by rw [ha]; rfl
        clear hb
        go_enter Try.func11, Try.ntmps11
        go_wp2_with (first | (go_at_call 23; first | ((with_reducible refine (HC1.out _).mono ?_); rintro e w1 ⟨rfl, hb⟩; replace HB := Lib.hid (Bel.step HB.out hb); clear hb) | ((with_reducible refine (HC2.out _).mono ?_); rintro e w1 ⟨rfl, hb⟩; replace HB := Lib.hid (Bel.step HB.out hb); clear hb) | ((with_reducible refine (HC3.out _).mono ?_); rintro e w1 ⟨rfl, hb⟩; replace HB := Lib.hid (Bel.step HB.out hb); clear hb)) | (go_at_call 35; first | ((with_reducible refine (E1.out _).mono ?_); rintro e w1 ⟨rfl, hb⟩; replace HB := Lib.hid (Bel.step HB.out hb); clear hb) | ((with_reducible refine (E2.out _).mono ?_); rintro e w1 ⟨rfl, hb⟩; replace HB := Lib.hid (Bel.step HB.out hb); clear hb)) | (go_at_call 31; refine (HK.out _).mono ?_; rintro e w1 ⟨v, rfl, hrow, hb⟩; obtain ⟨rb, cap, rfl, hB, hcap, hr⟩ := hrow.open_ (by have := keyN_two k; omega); have hr0 := hr 0 (by have := keyN_two k; omega); clear hrow hr; replace HB := Lib.hid (Bel.step HB.out hb); clear hb) | (go_at_call 27; refine (alive06 _).mono ?_; rintro e w1 ⟨rfl, hb⟩; replace HB := Lib.hid (Bel.step HB.out hb); clear hb))
        go_ret
        exact ⟨by first | rfl | (simp; done) | (simp [*]; done) | (simp; rfl), HB.out⟩
    · have E1 := Lib.hid (enc_size k a hk ha)
      have HK := Lib.hid (keys_yes k hk)
      have hne : ((a.size : Int) != 16) = true := by rw [bne_iff_ne]; omega
      by_cases hb : b.size = 16
      · have E2 := Lib.hid (enc_yes k b hk hb)
        clear hb
        go_enter Try.func11, Try.ntmps11
        go_wp2_with (first | (go_at_call 23; first | ((with_reducible refine (HC1.out _).mono ?_); rintro e w1 ⟨rfl, hb⟩; replace HB := Lib.hid (Bel.step HB.out hb); clear hb) | ((with_reducible refine (HC2.out _).mono ?_); rintro e w1 ⟨rfl, hb⟩; replace HB := Lib.hid (Bel.step HB.out hb); clear hb) | ((with_reducible refine (HC3.out _).mono ?_); rintro e w1 ⟨rfl, hb⟩; replace HB := Lib.hid (Bel.step HB.out hb); clear hb)) | (go_at_call 35; first | ((with_reducible refine (E1.out _).mono ?_); rintro e w1 ⟨rfl, hb⟩; replace HB := Lib.hid (Bel.step HB.out hb); clear hb) | ((with_reducible refine (E2.out _).mono ?_); rintro e w1 ⟨rfl, hb⟩; replace HB := Lib.hid (Bel.step HB.out hb); clear hb)) | (go_at_call 31; refine (HK.out _).mono ?_; rintro e w1 ⟨v, rfl, hrow, hb⟩; obtain ⟨rb, cap, rfl, hB, hcap, hr⟩ := hrow.open_ (by have := keyN_two k; omega); have hr0 := hr 0 (by have := keyN_two k; omega); clear hrow hr; replace HB := Lib.hid (Bel.step HB.out hb); clear hb) | (go_at_call 27; refine (alive06 _).mono ?_; rintro e w1 ⟨rfl, hb⟩; replace HB := Lib.hid (Bel.step HB.out hb); clear hb))
        go_ret
        exact ⟨by first | rfl | (simp; done) | (simp [*]; done) | (simp; rfl), HB.out⟩
      · have E2 := Lib.hid (enc_size k b hk hb)
        clear hb
        go_enter Try.func11, Try.ntmps11
        go_wp2_with (first | (go_at_call 23; first | ((with_reducible refine (HC1.out _).mono ?_); rintro e w1 ⟨rfl, hb⟩; replace HB := Lib.hid (Bel.step HB.out hb); clear hb) | ((with_reducible refine (HC2.out _).mono ?_); rintro e w1 ⟨rfl, hb⟩; replace HB := Lib.hid (Bel.step HB.out hb); clear hb) | ((with_reducible refine (HC3.out _).mono ?_); rintro e w1 ⟨rfl, hb⟩; replace HB := Lib.hid (Bel.step HB.out hb); clear hb)) | (go_at_call 35; first | ((with_reducible refine (E1.out _).mono ?_); rintro e w1 ⟨rfl, hb⟩; replace HB := Lib.hid (Bel.step HB.out hb); clear hb) | ((with_reducible refine (E2.out _).mono ?_); rintro e w1 ⟨rfl, hb⟩; replace HB := Lib.hid (Bel.step HB.out hb); clear hb)) | (go_at_call 31; refine (HK.out _).mono ?_; rintro e w1 ⟨v, rfl, hrow, hb⟩; obtain ⟨rb, cap, rfl, hB, hcap, hr⟩ := hrow.open_ (by have := keyN_two k; omega); have hr0 := hr 0 (by have := keyN_two k; omega); clear hrow hr; replace HB := Lib.hid (Bel.step HB.out hb); clear hb) | (go_at_call 27; refine (alive06 _).mono ?_; rintro e w1 ⟨rfl, hb⟩; replace HB := Lib.hid (Bel.step HB.out hb); clear hb))
        go_ret
        exact ⟨by first | rfl | (simp; done) | (simp [*]; done) | (simp; rfl), HB.out⟩
  · have h16 : k.size ≠ 16 := fun h => hk (.inl h)
    have h32 : k.size ≠ 32 := fun h => hk (.inr h)
    have E1 := Lib.hid (enc_no k a h16 h32)
    have E2 := Lib.hid (enc_no k b h16 h32)
    have HK := Lib.hid (keys_no k h16 h32)
    clear hk
    go_enter Try.func11, Try.ntmps11
    go_wp2_with (first | (go_at_call 23; first | ((with_reducible refine (HC1.out _).mono ?_); rintro e w1 ⟨rfl, hb⟩; replace HB := Lib.hid (Bel.step HB.out hb); clear hb) | ((with_reducible refine (HC2.out _).mono ?_); rintro e w1 ⟨rfl, hb⟩; replace HB := Lib.hid (Bel.step HB.out hb); clear hb) | ((with_reducible refine (HC3.out _).mono ?_); rintro e w1 ⟨rfl, hb⟩; replace HB := Lib.hid (Bel.step HB.out hb); clear hb)) | (go_at_call 35; first | ((with_reducible refine (E1.out _).mono ?_); rintro e w1 ⟨rfl, hb⟩; replace HB := Lib.hid (Bel.step HB.out hb); clear hb) | ((with_reducible refine (E2.out _).mono ?_); rintro e w1 ⟨rfl, hb⟩; replace HB := Lib.hid (Bel.step HB.out hb); clear hb)) | (go_at_call 31; refine (HK.out _).mono ?_; rintro e w1 ⟨rfl, hb⟩; replace HB := Lib.hid (Bel.step HB.out hb); clear hb) | (go_at_call 27; refine (alive06 _).mono ?_; rintro e w1 ⟨rfl, hb⟩; replace HB := Lib.hid (Bel.step HB.out hb); clear hb))
    all_goals first
      | (go_ret
         exact ⟨by first | rfl | (simp; done) | (simp [*]; done) | (simp; rfl), HB.out⟩)
end Go.Proofs.Ytnaidfcehmdmcaa.Key
