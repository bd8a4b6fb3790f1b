/- SHA-256's turning of a word, and a round: the walks. -/
import Derived.Test.YtolbhliepkcihaaShaRef
import Derived.Test.YtolbhliepkcihaaRorStill
import Derived.Test.YtolbhliepkcihaaMem
import Derived.Deep.QuietTactic
import Derived.BigQuiet
import Derived.RegionTactic
import Derived.Outline
namespace Go.Proofs.Ytolbhliepkcihaa.Sha
open Go.RowKit Go.Proofs.Ytolbhliepkcihaa.QR Go.Proofs.Ytolbhliepkcihaa.Mem Go.Proofs.YtolbhliepkcihaaW.PrintWords Go.Proofs.YtolbhliepkcihaaW.PrintLast Go.Proofs.YtolbhliepkcihaaW.PrintMore
theorem sharor (n r : Nat) (hn : n < 4294967296) (h0 : r ≤ 32) (c1 : Go.bits .and .u64 (IntKind.u64.wrap (wrap64 (-(r : Int)))) 31 = ((32 - r : Nat) : Int)) (c2 : IntKind.u64.wrap (32 - ((32 - r : Nat) : Int)) = (r : Int)) : sha_ror.f (n : Int) (r : Int) = some ((rr n r : Nat) : Int) := by
  unfold sha_ror.f bits_RotateLeft32.f
  rw [c1, c2, if_pos (by omega), if_pos (by omega), shl32 n (32 - r) (by omega), shr32 n r h0]
  have h1 : n / 2 ^ r < 4294967296 := Nat.lt_of_le_of_lt (Nat.div_le_self _ _) hn
  have h2 : n * 2 ^ (32 - r) % M < 4294967296 := Nat.mod_lt _ (by decide)
  rw [u32_or_nat _ _ h2 h1, Nat.or_comm]
  rfl
theorem ror_any (n : Nat) (hn : n < 4294967296) (r : Int) (hr : r ∈ ([2, 6, 7, 11, 13, 17, 18, 19, 22, 25] : List Int)) (w : World) :
    Calls Try.prog 115 #[.int .u32 (n : Int), .int .i64 r] w fun e w' => e = .returned (.int .u32 ((rr n r.toNat : Nat) : Int)) ∧ w' = w := by
  refine sha_ror.still (n : Int) r _ w ?_
  simp only [List.mem_cons, List.not_mem_nil, or_false] at hr
  rcases hr with rfl | rfl | rfl | rfl | rfl | rfl | rfl | rfl | rfl | rfl
  · exact sharor n 2 hn (by decide) (by decide +kernel) (by decide +kernel)
  · exact sharor n 6 hn (by decide) (by decide +kernel) (by decide +kernel)
  · exact sharor n 7 hn (by decide) (by decide +kernel) (by decide +kernel)
  · exact sharor n 11 hn (by decide) (by decide +kernel) (by decide +kernel)
  · exact sharor n 13 hn (by decide) (by decide +kernel) (by decide +kernel)
  · exact sharor n 17 hn (by decide) (by decide +kernel) (by decide +kernel)
  · exact sharor n 18 hn (by decide) (by decide +kernel) (by decide +kernel)
  · exact sharor n 19 hn (by decide) (by decide +kernel) (by decide +kernel)
  · exact sharor n 22 hn (by decide) (by decide +kernel) (by decide +kernel)
  · exact sharor n 25 hn (by decide) (by decide +kernel) (by decide +kernel)
theorem quiet_add_same {P : Program} {f : FuncId} {args : Array Value} {w : World} {a n : Nat} {v : Value}
    (h : Calls P f args (w.drewN (a + n)) fun e w' => e = .returned v ∧ w' = w.drewN (a + n)) :
    Calls P f args (w.drewN (a + n)) fun e w'' => e = .returned v ∧ ∃ m, w'' = w.drewN (a + m) :=
  h.mono fun _ _ ⟨he, hm⟩ => ⟨he, n, hm⟩
theorem max_xor (e : Nat) (he : e < 4294967296) : bits .xor .u32 IntKind.u32.max (e : Int) = ((4294967295 - e : Nat) : Int) := by
  have h := u32_xor_nat 4294967295 e (by decide) he
  have hm : IntKind.u32.max = ((4294967295 : Nat) : Int) := by decide
  rw [hm, h]
  congr 1
  apply Nat.eq_of_testBit_eq
  intro j
  have e1 : 4294967295 - e = 2 ^ 32 - (e + 1) := by omega
  rw [e1, Nat.testBit_two_pow_sub_succ (by omega), Nat.testBit_xor, show (4294967295 : Nat) = 2 ^ 32 - 1 from rfl, Nat.testBit_two_pow_sub_one]
  by_cases hj : j < 32
  · simp [hj]
  · have : e.testBit j = false := Nat.testBit_lt_two_pow (Nat.lt_of_lt_of_le he (Nat.pow_le_pow_right (n := 2) (by decide) (by omega : 32 ≤ j)))
    simp [hj, this]
/-- a state, as a value -/
def St.arr (s : St) : Array Value := #[.int .u32 (s.a : Int), .int .u32 (s.b : Int), .int .u32 (s.c : Int), .int .u32 (s.d : Int), .int .u32 (s.e : Int), .int .u32 (s.f : Int), .int .u32 (s.g : Int), .int .u32 (s.h : Int)]
set_option maxRecDepth 100000 in
set_option maxHeartbeats 2000000 in
theorem round_any (s : St) (hs : s.Ok) (k x : Nat) (w : World) :
    Calls Try.prog 104 #[.agg s.arr, .int .u32 (k : Int), .int .u32 (x : Int)] w fun e w' => e = .returned (.agg (roundS s k x).arr) ∧ Below w.heap.size w w' := by
  obtain ⟨a, b, c, d, e, f, g, i⟩ := s
  obtain ⟨ha, hb, hc, hd, he, hf, hg, hi⟩ := hs
  simp only at ha hb hc hd he hf hg hi
  unfold St.arr
  dsimp only
  go_enter Try.func104, Try.ntmps104
  go_wp2
  go_quiet (fail)
  go_wp2
  go_quiet ((go_at_call 115; exact quiet_add_same (ror_any _ (by assumption) _ (by decide) _)))
  go_wp2_with (first | (go_at_call 115; refine (ror_any _ (by assumption) _ (by decide) _).mono ?_; rintro e w' ⟨rfl, rfl⟩))
  have H2 := Blk.new (w.alloc (.cells #[.int .u32 (a : Int), .int .u32 (b : Int), .int .u32 (c : Int), .int .u32 (d : Int), .int .u32 (e : Int), .int .u32 (f : Int), .int .u32 (g : Int), .int .u32 (i : Int)] 86)) 86 #[.int .u32 0, .int .u32 0, .int .u32 0, .int .u32 0, .int .u32 0, .int .u32 0, .int .u32 0, .int .u32 0]
  rw [World.size_alloc] at H2
  have hsz : (Try.prog.info? 86).map (·.size) = some 8 := by kernel_rfl
  refine bodyPost_ret (results_cell_row rfl _ _ (w.heap.size + 1) 86 _ (0, 0) _ rfl (((((((((H2.drewN _).set_ 0 _).set_ 1 _).set_ 2 _).set_ 3 _).set_ 4 _).set_ 5 _).set_ 6 _).set_ 7 _) Try.underlying86 rfl (by rw [hsz]; rfl)) rfl ⟨?_, ?_⟩
  · show Ending.returned (.agg #[.int .u32 _, .int .u32 _, .int .u32 _, .int .u32 _, .int .u32 _, .int .u32 _, .int .u32 _, .int .u32 _]) = _
    rw [max_xor e he, u32_xor_nat _ _ (rr_lt he) (rr_lt he), u32_xor_nat _ _ (xor_lt (rr_lt he) (rr_lt he)) (rr_lt he), u32_xor_nat _ _ (rr_lt ha) (rr_lt ha), u32_xor_nat _ _ (xor_lt (rr_lt ha) (rr_lt ha)) (rr_lt ha), u32_and_nat e f he hf, u32_and_nat (4294967295 - e) g (by omega) hg, u32_xor_nat _ _ (and_lt he) (and_lt (by omega)), u32_and_nat a b ha hb, u32_and_nat a c ha hc, u32_and_nat b c hb hc, u32_xor_nat _ _ (and_lt ha) (and_lt ha), u32_xor_nat _ _ (xor_lt (and_lt ha) (and_lt ha)) (and_lt hb)]
    have hr : (roundS ⟨a, b, c, d, e, f, g, i⟩ k x).arr = #[.int .u32 ((((i + big1 e + ch e f g + k + x) % 4294967296 + (big0 a + maj a b c) % 4294967296) % 4294967296 : Nat) : Int), .int .u32 (a : Int), .int .u32 (b : Int), .int .u32 (c : Int), .int .u32 (((d + (i + big1 e + ch e f g + k + x) % 4294967296) % 4294967296 : Nat) : Int), .int .u32 (e : Int), .int .u32 (f : Int), .int .u32 (g : Int)] := rfl
    have q1 : (rr e 6 ^^^ rr e 11) ^^^ rr e 25 = big1 e := rfl
    have q2 : (rr a 2 ^^^ rr a 13) ^^^ rr a 22 = big0 a := rfl
    have q3 : (e &&& f) ^^^ ((4294967295 - e) &&& g) = ch e f g := rfl
    have q4 : ((a &&& b) ^^^ (a &&& c)) ^^^ (b &&& c) = maj a b c := rfl
    unfold St.arr at hr
    rw [q1, q2, q3, q4, hr]
    generalize big1 e = x1
    generalize ch e f g = x2
    generalize big0 a = x3
    generalize maj a b c = x4
    have z1 : (((i : Int) + (x1 : Int) + (x2 : Int) + (k : Int) + (x : Int)) + ((x3 : Int) + (x4 : Int))) % 4294967296 = (((i + x1 + x2 + k + x) % 4294967296 + (x3 + x4) % 4294967296) % 4294967296 : Nat) := by omega
    have z2 : ((d : Int) + ((i : Int) + (x1 : Int) + (x2 : Int) + (k : Int) + (x : Int))) % 4294967296 = ((d + (i + x1 + x2 + k + x) % 4294967296) % 4294967296 : Nat) := by omega
    rw [z1, z2]
  · exact (((((((((below_drewN (((Below.refl _ _).alloc (Nat.le_refl _) _).alloc (by simp) _) _).setCell (by simp) _).setCell (by simp) _).setCell (by simp) _).setCell (by simp) _).setCell (by simp) _).setCell (by simp) _).setCell (by simp) _).setCell (by simp) _)
end Go.Proofs.Ytolbhliepkcihaa.Sha
