/- HMAC in plain Lean: one known tag, by the kernel. -/
import Derived.Test.YtolbhliepkcihaaMacSpec
import Derived.Test.YtolbhliepkcihaaShaPure
namespace Go.Proofs.Ytolbhliepkcihaa.Mac
open Go.RowKit Go.Proofs.YtolbhliepkcihaaW.PrintWords Go.Proofs.YtolbhliepkcihaaW.PrintLast Go.Proofs.YtolbhliepkcihaaW.PrintMore Go.Proofs.Ytolbhliepkcihaa.Sha
theorem mix_words (s : St) (b : ByteArray) (ws : List Nat) (h : (List.range 16).map (word b) = ws) : mixS s b = addS (rounds (fun t => (moreW 48 ws).getD t 0) s 64) s := by
  have e := rounds_congr (W := wordN b) (V := fun t => (moreW 48 ws).getD t 0) s (fun t => by unfold wordN words; rw [h]) 64
  unfold mixS
  rw [e]
theorem sum_eq (m p : ByteArray) (e : padS m = p) (n : Nat) (z : p.size / 64 = n) : sumS m = ofNats (outL (goS p n)) := by
  subst e
  subst z
  rfl
theorem St_list {s t : St} (h : s.list = t.list) : s = t := by
  cases s
  cases t
  simp only [St.list, List.cons.injEq, and_true] at h
  simp only [St.mk.injEq]
  exact h
def elevens : ByteArray := ⟨#[11, 11, 11, 11, 11, 11, 11, 11, 11, 11, 11, 11, 11, 11, 11, 11, 11, 11, 11, 11]⟩
def hiThere : ByteArray := ⟨#[72, 105, 32, 84, 104, 101, 114, 101]⟩
def in1 : ByteArray := padS (xorS (fitS elevens) 54 ++ hiThere)
theorem in1a : goS in1 1 = ((⟨733091844, 599350265, 3035112844, 4206224980, 301109790, 1340831982, 2559632894, 1689747510⟩ : St)) := by
  show mixS (goS in1 0) (in1.extract (64 * 0) (64 * 0 + 64)) = _
  show mixS Sha.start _ = _
  rw [mix_words _ _ [1027423549, 1027423549, 1027423549, 1027423549, 1027423549, 909522486, 909522486, 909522486, 909522486, 909522486, 909522486, 909522486, 909522486, 909522486, 909522486, 909522486] (by decide +kernel)]
  apply St_list
  decide +kernel
theorem in1b : goS in1 2 = ((⟨2460700058, 523985234, 3165248926, 1773093876, 3466191919, 3571650553, 1925480485, 3120156655⟩ : St)) := by
  show mixS (goS in1 1) (in1.extract (64 * 1) (64 * 1 + 64)) = _
  rw [in1a]
  rw [mix_words _ _ [1214849108, 1751478885, 2147483648, 0, 0, 0, 0, 0, 0, 0, 0, 0, 0, 0, 0, 576] (by decide +kernel)]
  apply St_list
  decide +kernel
theorem in1_sum : sumS (xorS (fitS elevens) 54 ++ hiThere) = ofNats (outL ((⟨2460700058, 523985234, 3165248926, 1773093876, 3466191919, 3571650553, 1925480485, 3120156655⟩ : St))) := by
  rw [sum_eq (xorS (fitS elevens) 54 ++ hiThere) in1 (by unfold in1; rfl) 2 (by decide +kernel), in1b]
def in2 : ByteArray := padS (xorS (fitS elevens) 92 ++ ofNats (outL ((⟨2460700058, 523985234, 3165248926, 1773093876, 3466191919, 3571650553, 1925480485, 3120156655⟩ : St))))
theorem in2a : goS in2 1 = ((⟨669479839, 3646301571, 1456891618, 1602293224, 3965603722, 1430081464, 1023353018, 270748480⟩ : St)) := by
  show mixS (goS in2 0) (in2.extract (64 * 0) (64 * 0 + 64)) = _
  show mixS Sha.start _ = _
  rw [mix_words _ _ [1465341783, 1465341783, 1465341783, 1465341783, 1465341783, 1549556828, 1549556828, 1549556828, 1549556828, 1549556828, 1549556828, 1549556828, 1549556828, 1549556828, 1549556828, 1549556828] (by decide +kernel)]
  apply St_list
  decide +kernel
theorem in2b : goS in2 2 = ((⟨2956217441, 3638245459, 1554558926, 2936795435, 2283651584, 3380821415, 652818284, 775081975⟩ : St)) := by
  show mixS (goS in2 1) (in2.extract (64 * 1) (64 * 1 + 64)) = _
  rw [in2a]
  rw [mix_words _ _ [2460700058, 523985234, 3165248926, 1773093876, 3466191919, 3571650553, 1925480485, 3120156655, 2147483648, 0, 0, 0, 0, 0, 0, 768] (by decide +kernel)]
  apply St_list
  decide +kernel
theorem hi_tag : tagS elevens hiThere = ofNats (outL ((⟨2956217441, 3638245459, 1554558926, 2936795435, 2283651584, 3380821415, 652818284, 775081975⟩ : St))) := by
  unfold tagS
  rw [in1_sum]
  rw [sum_eq _ in2 (by unfold in2; rfl) 2 (by decide +kernel), in2b]
theorem hi_bt0 : bt (tagS elevens hiThere) 0 = 176 := by
  rw [hi_tag]
  exact bt_ofNats _ 0 (by rw [out_length]; decide) (by decide)
theorem hi_bt1 : bt (tagS elevens hiThere) 1 = 52 := by
  rw [hi_tag]
  exact bt_ofNats _ 1 (by rw [out_length]; decide) (by decide)
end Go.Proofs.Ytolbhliepkcihaa.Mac
