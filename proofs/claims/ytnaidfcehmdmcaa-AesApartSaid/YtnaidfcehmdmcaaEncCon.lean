/- aes.Encrypt: its contracts. -/
import Derived.Test.YtnaidfcehmdmcaaEncWalk
namespace Go.Proofs.Ytnaidfcehmdmcaa.Key
open Go.RowKit Go.Proofs.Ytnaidfcehmdmcaa.FC Go.Proofs.Ytnaidfcehmdmcaa.Mem Go.Proofs.Ytnaidfcehmdmcaa.AS Go.Proofs.Ytnaidfcehmdmcaa.Row
open Go.Proofs.YtnaidfcehmdmcaaW.PrintWords Go.Proofs.YtnaidfcehmdmcaaW.PrintLast Go.Proofs.YtnaidfcehmdmcaaW.PrintMore
theorem txt_size (f : Nat → Int) : (txt f).size = 16 := by simp [txt, strOfNums, ByteArray.size]
/-- a block, encrypted -/
def encA (key block : ByteArray) : Nat → Int := encR (keyT (keyB key)) (keyN key) (fun i => bt block i) (keyN key - 1)
def encS (key block : ByteArray) : ByteArray := txt (encA key block)
theorem KeysRow.open_ {B m : Nat} {v : Value} {F : Nat → Int} {w : World} (h : KeysRow B v m F w) (hm : 0 < m) : ∃ rb cap, v = .slice (some ⟨rb, 0, none⟩) m cap ∧ B ≤ rb ∧ m ≤ cap ∧ ∀ i, i < m → w.cell? ⟨rb, i, none⟩ = some (.string (keyT F i)) := by
  have h0 := h
  rcases h.2 with ⟨_, h0⟩ | ⟨rb, cap, cur, rfl, hb, hg, hc, _⟩
  · omega
  · refine ⟨rb, cap, rfl, hb, hc, fun i hi => ?_⟩
    have h1 : w.ownsRow B 9 1 (.slice (some ⟨rb, 0, none⟩) m cap) m ((List.range m).map fun i => .string (keyT F i)) := h0
    rw [h1.cellAt i (by omega)]
    simp [List.getElem?_range hi]
theorem keyN_two (key : ByteArray) : 2 ≤ keyN key := by unfold keyN; omega
theorem keyN_most {key : ByteArray} (h : key.size = 16 ∨ key.size = 32) : keyN key ≤ 100 := by unfold keyN; omega
theorem enc55 (key : ByteArray) (h : key.size = 16 ∨ key.size = 32) (st : Nat → Int) (hst : ∀ i, By (st i)) (rb kb cap : Nat) (hcap : keyN key ≤ cap) (w : World)
    (hk : w.cell? ⟨kb, 0, none⟩ = some (.slice (some ⟨rb, 0, none⟩) (keyN key) cap)) (hr : ∀ i, i < keyN key → w.cell? ⟨rb, i, none⟩ = some (.string (keyT (keyB key) i))) :
    Calls Try.prog 55 #[.agg (u8a 16 st), .pointer (some ⟨kb, 0, none⟩)] w fun e w' => e = .returned (.agg (u8a 16 (encR (keyT (keyB key)) (keyN key) st (keyN key - 1)))) ∧ Below w.heap.size w w' :=
  step55 _ _ _ cap rb kb rfl (fun _ _ => txt_size _) (keyN_two key) (keyN_most h) hcap st hst w hk hr
set_option maxRecDepth 100000 in
set_option maxHeartbeats 4000000 in
theorem enc_yes (key block : ByteArray) (h : key.size = 16 ∨ key.size = 32) (hb : block.size = 16) (w : World) :
    Calls Try.prog 35 #[.string key, .string block] w fun e w' => e = .returned (.tuple #[.string (encS key block), .int .i64 0]) ∧ Below w.heap.size w w' := by
  have HK := Lib.hid (keys_yes key h w)
  have hmf : ∀ (fn : Fn) (first cap : Array Value) (w : World), (Instr.makeFunc fn first cap).run Try.prog w = .ok (.func fn first cap) w := fun _ _ _ _ => rfl
  go_enter Try.func35, Try.ntmps35
  go_wp2_with (first | (go_at_call 31; refine (HK.out).mono ?_; rintro e w1 ⟨v, rfl, hrow, hbw⟩; obtain ⟨rb, cap, rfl, hB, hcap, hr⟩ := hrow.open_ (by have := keyN_two key; omega); clear hrow))
  obtain ⟨kb, hkb⟩ : ∃ kb, w1.heap.size = kb := ⟨_, rfl⟩
  have hwk : w.heap.size ≤ kb := by rw [← hkb]; exact hbw.size
  have K1 := Blk.new w1 36 #[.slice (some ⟨rb, 0, none⟩) (keyN key) cap]
  have b2 := hbw.alloc hbw.size (.cells #[.slice (some ⟨rb, 0, none⟩) (keyN key) cap] 36)
  have hr2 : ∀ i, i < keyN key → (w1.alloc (.cells #[.slice (some ⟨rb, 0, none⟩) (keyN key) cap] 36)).cell? ⟨rb, i, none⟩ = some (.string (keyT (keyB key) i)) := fun i hi => by
    have h1 := World.block_lt_of_cell? w1 _ (hr i hi)
    exact (World.cell?_of_block (a := ⟨rb, i, none⟩) (Below.heap_alloc w1 _ rb h1)).trans (hr i hi)
  have hlr : rb < w1.heap.size := World.block_lt_of_cell? w1 _ (hr 0 (by have := keyN_two key; omega))
  rw [hkb] at K1
  have HR := Lib.hid hr2
  clear hr2 hr
  rw [hkb]
  generalize hw2 : w1.alloc (.cells #[.slice (some ⟨rb, 0, none⟩) (keyN key) cap] 36) = w2 at *
  have z2 : w2.heap.size = kb + 1 := by rw [← hw2, ← hkb]; simp
  refine (done55 block hb w2 (encA key block) kb (fun W hW => ?_)).mono ?_
  · have hk2 : W.cell? ⟨kb, 0, none⟩ = some (.slice (some ⟨rb, 0, none⟩) (keyN key) cap) := by
      rw [World.cell?_of_block (a := ⟨kb, 0, none⟩) (hW.block kb (by omega)), K1.cell]; rfl
    exact enc55 key h _ (fun i => bt_by _ _) rb kb cap hcap W hk2 (fun i hi => (World.cell?_of_block (a := ⟨rb, i, none⟩) (hW.block rb (by omega))).trans (HR.out i hi))
  · rintro e w3 ⟨rfl, hb3⟩
    have b3 := b2.trans (hb3.mono (by omega))
    go_wp2
    go_ret2
    exact ⟨rfl, b3⟩
set_option maxRecDepth 100000 in
theorem enc_size (key block : ByteArray) (h : key.size = 16 ∨ key.size = 32) (hb : block.size ≠ 16) (w : World) :
    Calls Try.prog 35 #[.string key, .string block] w fun e w' => e = .returned (.tuple #[.string ⟨#[]⟩, .int .i64 4]) ∧ Below w.heap.size w w' := by
  have HK := Lib.hid (keys_yes key h w)
  have hmf : ∀ (fn : Fn) (first cap : Array Value) (w : World), (Instr.makeFunc fn first cap).run Try.prog w = .ok (.func fn first cap) w := fun _ _ _ _ => rfl
  go_enter Try.func35, Try.ntmps35
  go_wp2_with (first | (go_at_call 31; refine (HK.out).mono ?_; rintro e w1 ⟨v, rfl, hrow, hbw⟩; obtain ⟨rb, cap, rfl, hB, hcap, hr⟩ := hrow.open_ (by have := keyN_two key; omega); clear hrow))
  have b2 := hbw.alloc hbw.size (.cells #[.slice (some ⟨rb, 0, none⟩) (keyN key) cap] 36)
  have z2 : w.heap.size ≤ (w1.alloc (.cells #[.slice (some ⟨rb, 0, none⟩) (keyN key) cap] 36)).heap.size := b2.size
  refine (done55_no block hb _ _).mono ?_
  rintro e w3 ⟨rfl, hb3⟩
  have b3 := b2.trans (hb3.mono z2)
  go_wp2
  go_ret2
  exact ⟨rfl, b3⟩
set_option maxRecDepth 100000 in
theorem enc_no (key block : ByteArray) (h16 : key.size ≠ 16) (h32 : key.size ≠ 32) (w : World) :
    Calls Try.prog 35 #[.string key, .string block] w fun e w' => e = .returned (.tuple #[.string ⟨#[]⟩, .int .i64 4]) ∧ Below w.heap.size w w' := by
  have HK := Lib.hid (keys_no key h16 h32 w)
  go_enter Try.func35, Try.ntmps35
  go_wp2_with (first | (go_at_call 31; refine (HK.out).mono ?_; rintro e w1 ⟨rfl, hbw⟩; have b2 := hbw.alloc hbw.size (.cells #[.slice none 0 0] 36)))
  go_ret2
  exact ⟨rfl, b2⟩
end Go.Proofs.Ytnaidfcehmdmcaa.Key
