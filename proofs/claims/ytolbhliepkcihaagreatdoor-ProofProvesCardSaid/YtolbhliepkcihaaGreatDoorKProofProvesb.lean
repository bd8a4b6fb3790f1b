/- Joined by a program of this session (wip/pack.py) for this claim: SkipPure, SkipPure2, SkipOps, SkipCon, RightW, LabTop, LabTop2, LabStub2, ProofMay, QPAx0, QPAx1, QPAx2, ProofPure, ProofPure2, ProofStub, QPPx0, ProvePure, ProvePure2, ProvePure3, QLKx0, QLKx1, Like, QRPx0, QRPx1, ProveIdx, Prove0, ProveDel, ProveTok, ProveRnd. -/
import Derived.Test.YtolbhliepkcihaaGreatDoorKProofProvesa
import Derived.Test.YtolbhliepkcihaaGreatDoorBaseA
import Derived.Test.YtolbhliepkcihaaGreatDoorProg
import Derived.Below
import Derived.Deep.Draws
import Derived.Deep.AppendLies
import Derived.Maps.AppendAt
import Derived.OwnWalk
import Derived.Laws.BytesArg
import Derived.Laws.MakeOwn
import Derived.Laws.OwnMore
import Derived.Deep.OwnRows
import Derived.Tactics
import Derived.Lib.ConvBytes
import Derived.Laws.Slices
import Derived.WalkKit
import Derived.KernelRfl
import Derived.RowKit3
import Derived.Deep.LoopGhost
import Derived.Deep.QuietTactic
import Derived.BigQuiet
import Derived.WideLaws
import Derived.Deep.DeepCutAuto
import Derived.Deep.CutBlock
import Derived.Deep.RegionHeld3
import Derived.Laws.Rows
import Derived.Lib.AppendStr
import Derived.ArgAppend
import Derived.Laws.IdiomCopy
import Derived.OrdersHeld
import Derived.Laws.BitsLemmas
import Derived.RowKit
import Derived.Test.YtolbhliepkcihaaGreatDoorBaseH
import Derived.Test.YtolbhliepkcihaaGreatDoorPWa
import Derived.Sort.OwnSortedInts
import Derived.Lib.SliceRun
import Derived.Deep.CutRange
section
namespace Go.Proofs.YtolbhliepkcihaaGreatDoor.SkipPure
open Go.RowKit Kinds QSF YtolbhliepkcihaaGreatDoorW.PrintWords YtolbhliepkcihaaGreatDoorW.PrintLast YtolbhliepkcihaaGreatDoorW.PrintMore Sha Mac Codec Tower
abbrev Item := S44
def it (l : List Item) (i : Nat) : Item := rd_T44 l (i : Int)
def ky (l : List Item) (i : Nat) : Int := (it l i).f0
theorem w_succ (i n : Nat) (h : i < n) (hn : n ≤ 1000000000) : wrap64 ((i : Int) + 1) = ((i + 1 : Nat) : Int) := by unfold wrap64; omega
theorem mn_nat (a b : Nat) : mn (a : Int) (b : Int) = ((min a b : Nat) : Int) := by unfold mn; split <;> omega
/-! ### a tower's height, by halving -/
def tz (f x : Nat) : Nat := if x = 0 then f else Lib.ctzFrom f x
theorem tz_succ (f x : Nat) (h : x % 2 = 0) : tz (f + 1) x = tz f (x / 2) + 1 := by
 unfold tz
 by_cases h0 : x = 0
 ·subst h0; rfl
 ·rw [if_neg h0, if_neg (by omega), Lib.ctzFrom, if_neg (by omega)]
  omega
theorem tz_odd (f x : Nat) (h : x % 2 ≠ 0) : tz (f + 1) x = 0 := by
 unfold tz; rw [if_neg (by omega), Lib.ctzFrom, if_pos (by omega)]
theorem refheight_l0 (f : Nat) : ∀ (k x o : Nat), x < 18446744073709551616 → o ≤ 8 → 8 ≤ o + f → f < k → saltusref15_Height.l0 k (x : Int) (o : Int) = some ((min (tz f x + o) 8 : Nat) : Int) := by
 induction f with
 | zero =>
  intro k x o hx h1 h2 hk
  obtain ⟨k, rfl⟩ : ∃ m, k = m + 1 := ⟨k - 1, by omega⟩
  rw [saltusref15_Height.l0]
  have e : min (tz 0 x + o) 8 = o := by omega
  rw [e]
  split
  ·rw [if_neg (by omega)]
  (rfl)
 | succ f ih =>
  intro k x o hx h1 h2 hk
  obtain ⟨k, rfl⟩ : ∃ m, k = m + 1 := ⟨k - 1, by omega⟩
  have e1 : Int.tmod (x : Int) 2 = ((x % 2 : Nat) : Int) := by rw [Int.tmod_eq_emod_of_nonneg (Int.natCast_nonneg _)]; omega
  rw [saltusref15_Height.l0, e1]
  by_cases hp : x % 2 = 0
  ·rw [if_pos (by omega)]; have ez := tz_succ f x hp
   by_cases h8 : o < 8
   ·have e2 : IntKind.u64.wrap (Int.tdiv (x : Int) 2) = ((x / 2 : Nat) : Int) := by
     rw [Int.tdiv_eq_ediv_of_nonneg (Int.natCast_nonneg _), IntKind.wrap_u64]
     omega
    have e3 : wrap64 ((o : Int) + 1) = ((o + 1 : Nat) : Int) := by unfold wrap64; omega
    rw [if_pos (by omega), e2, e3, ih k (x / 2) (o + 1) (by omega) (by omega) (by omega) (by omega), ez]
    congr 2
    omega
   ·rw [if_neg (by omega)]
    congr 2
    omega
  ·rw [if_neg (by omega), tz_odd f x hp]
   congr 2
   omega
theorem refheight_f (key : ByteArray) (n : Nat) (hk : key.size ≤ 1000000000) (hn : n < 18446744073709551616) (k : Nat) (h : 64 < k) : saltusref15_Height.f k key (n : Int) = some ((heightN key n : Nat) : Int) := by
 have e0 : saltusref02_Low.f (n : Int) 8 = some (numS n) := by unfold saltusref02_Low.f; rw [if_pos ⟨by omega, by omega, by decide, by decide⟩, Int.toNat_natCast]; rfl
 have e1 : saltusref10_Word.f key (numS n) = some ((wordN key (numS n) : Nat) : Int) := if_pos ⟨hk, by rw [numS_size]; decide⟩; unfold saltusref15_Height.f; rw [e0, qv, e1, qv]; have h0 := refheight_l0 64 k (wordN key (numS n)) 1 (wordN_lt key (numS n)) (by decide) (by decide) h; rw [show ((1 : Nat) : Int) = 1 from rfl] at h0; rw [h0]; rfl
/-! ### a list that may be -/
def okAt (l : List Item) (i : Nat) : Prop := (it l i).f1.size ≤ 64 ∧ (0 < i → ky l (i - 1) < ky l i)
def RightP (l : List Item) : Prop := (∀ i, i < l.length → okAt l i) ∧ l.length ≤ 64
theorem asc (l : List Item) (n : Nat) (h : ∀ j, j < n → okAt l j) (b : Nat) : ∀ a, a < b → b < n → ky l a < ky l b := by
 induction b with
 | zero => intro a ha; omega
 | succ b ih =>
  intro a ha hb; have h1 := (h (b + 1) hb).2 (by omega); rw [show b + 1 - 1 = b from rfl] at h1
  by_cases e : a = b
  ·subst e; exact h1
  ·have := ih a (by omega) (by omega)
   omega
theorem it_take (l : List Item) (i j : Nat) (h : j < i) (_ : i ≤ l.length) : rd_T44 (l.take i) (j : Int) = it l j := by
 unfold it rd_T44; rw [Int.toNat_natCast, List.getD_eq_getElem?_getD, List.getD_eq_getElem?_getD, List.getElem?_take, if_pos h]
theorem refright_l1 (l : List Item) (hn : l.length ≤ 100000) (i : Nat) (hi : i < l.length) (x : Int) (v : ByteArray) (e : Nat) : ∀ j, j + e = i →
  ((∀ q, j ≤ q → q < i → ky l q < x) → ∀ r, Ev (fun k => saltusref16_Right.l0 k l l (l.length : Int) ((i + 1 : Nat) : Int)) r → Ev (fun k => saltusref16_Right.l1 k l l (l.length : Int) (i : Int) (l.take i) ((l.take i).length : Int) (j : Int) x v) r) ∧
  ((∃ q, j ≤ q ∧ q < i ∧ ¬ky l q < x) → Ev (fun k => saltusref16_Right.l1 k l l (l.length : Int) (i : Int) (l.take i) ((l.take i).length : Int) (j : Int) x v) false) := by
 have hz : (l.take i).length = i := by rw [qw]; omega
 induction e with
 | zero =>
  intro j hj
  obtain rfl : j = i := by omega
  refine ⟨fun _ r hr => Ev.step (fun k => ?_) hr, fun ⟨q, h1, h2, _⟩ => by omega⟩; rw [saltusref16_Right.l1, if_neg (by omega), w_succ j l.length hi (by omega)]
 | succ e ih =>
  intro j hj; obtain ⟨ih1, ih2⟩ := ih (j + 1) (by omega)
  by_cases hk : ky l j < x
  ·have st : ∀ k, saltusref16_Right.l1 (k + 1) l l (l.length : Int) (i : Int) (l.take i) ((l.take i).length : Int) (j : Int) x v = saltusref16_Right.l1 k l l (l.length : Int) (i : Int) (l.take i) ((l.take i).length : Int) ((j + 1 : Nat) : Int) x v := fun k => by
    rw [saltusref16_Right.l1, if_pos (by omega), if_pos (by omega), if_pos (by omega), it_take l i j (by omega) (by omega), if_neg (show ¬ ((it l j).f0 ≥ x) by have := hk; unfold ky at this; omega), w_succ j l.length (by omega) (by omega)]
   refine ⟨fun h r hr => Ev.step st (ih1 (fun q h1 h2 => h q (by omega) h2) r hr), fun ⟨q, h1, h2, h3⟩ => Ev.step st (ih2 ⟨q, ?_, h2, h3⟩)⟩
   by_cases e : q = j
   ·subst e; exact absurd hk h3
   ·omega
  ·refine ⟨fun h => absurd (h j (Nat.le_refl _) (by omega)) hk, fun _ => Ev.step (fun k => ?_) (Ev.now false)⟩; rw [saltusref16_Right.l1, if_pos (by omega), if_pos (by omega), if_pos (by omega), it_take l i j (by omega) (by omega), if_pos (show ((it l j).f0 ≥ x) by have := hk; unfold ky at this; omega)]
theorem refright_l0 (l : List Item) (hn : l.length ≤ 100000) (d : Nat) : ∀ i, i + d = l.length → (∀ j, j < i → okAt l j) →
  (RightP l ∧ Ev (fun k => saltusref16_Right.l0 k l l (l.length : Int) (i : Int)) true) ∨ (¬RightP l ∧ Ev (fun k => saltusref16_Right.l0 k l l (l.length : Int) (i : Int)) false) := by
 induction d with
 | zero =>
  intro i hi hp
  obtain rfl : i = l.length := by omega
  by_cases h : l.length ≤ 64
  ·refine .inl ⟨⟨hp, h⟩, Ev.step (fun k => ?_) (Ev.now true)⟩; rw [saltusref16_Right.l0, if_neg (by omega), qj (show (l.length : Int) ≤ 64 by omega)]
  ·refine .inr ⟨fun hr => h hr.2, Ev.step (fun k => ?_) (Ev.now false)⟩; rw [saltusref16_Right.l0, if_neg (by omega), decide_eq_false (show ¬ (l.length : Int) ≤ 64 by omega)]
 | succ d ih =>
  intro i hi hp
  by_cases hs : (it l i).f1.size ≤ 64
  ·have st : ∀ k, saltusref16_Right.l0 (k + 1) l l (l.length : Int) (i : Int) = saltusref16_Right.l1 k l l (l.length : Int) (i : Int) (l.take i) ((l.take i).length : Int) ((0 : Nat) : Int) (ky l i) (it l i).f1 := fun k => by
    rw [saltusref16_Right.l0, if_pos (by omega), if_pos (by omega), if_pos (by omega), if_neg (show ¬ ((((rd_T44 l (i : Int)).f1).size : Int) > 64) by have := hs; unfold it at this; omega), if_pos (by omega), Int.toNat_natCast, qv]; rfl
   obtain ⟨g1, g2⟩ := refright_l1 l hn i (by omega) (ky l i) (it l i).f1 i 0 (by omega)
   by_cases hk : 0 < i → ky l (i - 1) < ky l i
   ·have hok : okAt l i := ⟨hs, hk⟩
    have hp2 : ∀ j, j < i + 1 → okAt l j := fun j hj => by
     by_cases e : j = i
     ·subst e; exact hok
     ·exact hp j (by omega)
    have hall : ∀ q, 0 ≤ q → q < i → ky l q < ky l i := fun q _ hq => asc l (i + 1) hp2 i q hq (by omega)
    rcases ih (i + 1) (by omega) hp2 with ⟨h1, h2⟩ | ⟨h1, h2⟩
    ·exact .inl ⟨h1, Ev.step st (g1 hall true h2)⟩
    ·exact .inr ⟨h1, Ev.step st (g1 hall false h2)⟩
   ·refine .inr ⟨fun hr => hk (hr.1 i (by omega)).2, Ev.step st (g2 ⟨i - 1, by omega, ?_, fun h => hk fun _ => h⟩)⟩
    rcases Nat.eq_zero_or_pos i with e | e
    ·exact absurd (fun h => absurd h (by omega)) hk
    ·omega
  ·refine .inr ⟨fun hr => hs (hr.1 i (by omega)).1, Ev.step (fun k => ?_) (Ev.now false)⟩; rw [saltusref16_Right.l0, if_pos (by omega), if_pos (by omega), if_pos (by omega), if_pos (show ((((rd_T44 l (i : Int)).f1).size : Int) > 64) by have := hs; unfold it at this; omega)]
theorem refright_ev (l : List Item) (hn : l.length ≤ 100000) : (RightP l ∧ Ev (fun k => saltusref16_Right.f k l) true) ∨ (¬RightP l ∧ Ev (fun k => saltusref16_Right.f k l) false) :=
 refright_l0 l hn l.length 0 (by omega) (fun j hj => absurd hj (by omega))
end Go.Proofs.YtolbhliepkcihaaGreatDoor.SkipPure
end
section
namespace Go.Proofs.YtolbhliepkcihaaGreatDoor.SkipPure
open Go.RowKit Kinds QSF YtolbhliepkcihaaGreatDoorW.PrintWords YtolbhliepkcihaaGreatDoorW.PrintLast YtolbhliepkcihaaGreatDoorW.PrintMore Sha Mac Codec Tower
def htsL (key : ByteArray) (l : List Item) : List Int := l.map fun x => ((heightN key x.f0.toNat : Nat) : Int)
theorem hts_len (key : ByteArray) (l : List Item) : (htsL key l).length = l.length := by unfold htsL; rw [List.length_map]
theorem it_mem (l : List Item) (i : Nat) (h : i < l.length) : it l i = l[i] := by
 unfold it rd_T44; rw [Int.toNat_natCast, List.getD_eq_getElem?_getD, List.getElem?_eq_getElem h]; rfl
theorem keys_l0 (l : List Item) (hn : l.length ≤ 100000) (d : Nat) : ∀ i acc, i + d = l.length → acc.length + d ≤ 100000 → Ev (fun k => saltusref16_Keys.l0 k acc l (l.length : Int) (i : Int)) (acc ++ (l.drop i).map (·.f0)) := by
 induction d with
 | zero =>
  intro i acc hi ha; refine Ev.step (fun k => ?_) (Ev.now _); rw [saltusref16_Keys.l0, if_neg (by omega), List.drop_eq_nil_of_le (by omega)]
  simp
 | succ d ih =>
  intro i acc hi ha; have h := ih (i + 1) (acc ++ [(it l i).f0]) (by omega) (by rw [List.length_append, List.length_singleton]; omega); rw [List.drop_eq_getElem_cons (show i < l.length by omega), ← it_mem l i (by omega)]; rw [List.append_assoc] at h; refine Ev.step (fun k => ?_) h; rw [saltusref16_Keys.l0, if_pos (by omega), if_pos (by omega), if_pos (by omega), if_pos (by omega), w_succ i l.length (by omega) (by omega)]; rfl
theorem heights_l0 (key : ByteArray) (hkey : key.size ≤ 1000000000) (l : List Int) (hn : l.length ≤ 100000) (hk : ∀ y, y ∈ l → 0 ≤ y ∧ y ≤ 18446744073709551615) (d : Nat) : ∀ i acc, i + d = l.length → acc.length + d ≤ 100000 →
  Ev (fun k => saltusref15_Heights.l0 k key acc l (l.length : Int) (i : Int)) (acc ++ (l.drop i).map fun y => ((heightN key y.toNat : Nat) : Int)) := by
 induction d with
 | zero =>
  intro i acc hi ha; refine Ev.step (fun k => ?_) (Ev.now _); rw [saltusref15_Heights.l0, if_neg (by omega), List.drop_eq_nil_of_le (by omega)]
  simp
 | succ d ih =>
  intro i acc hi ha
  have hlt : i < l.length := by omega
  have hb := hk l[i] (List.getElem_mem hlt)
  have hrd : rd l (i : Int) = l[i] := by
   unfold rd; rw [Int.toNat_natCast, List.getD_eq_getElem?_getD, List.getElem?_eq_getElem hlt]; rfl
  have h := ih (i + 1) (acc ++ [((heightN key (l[i]).toNat : Nat) : Int)]) (by omega) (by rw [List.length_append, List.length_singleton]; omega); rw [List.drop_eq_getElem_cons hlt]; rw [List.append_assoc] at h; obtain ⟨K, h⟩ := h; refine ⟨max K 65 + 1, fun k hk2 => ?_⟩
  obtain ⟨k, rfl⟩ : ∃ m, k = m + 1 := ⟨k - 1, by omega⟩
  obtain ⟨n, hn2⟩ := Int.eq_ofNat_of_zero_le hb.1; have e := refheight_f key n hkey (by omega) k (by omega)
  show saltusref15_Heights.l0 (k + 1) key acc l (l.length : Int) (i : Int) = _
  rw [saltusref15_Heights.l0, if_pos (by omega), if_pos (by omega), if_pos (by omega), hrd, hn2, e, qv, if_pos (by omega), w_succ i l.length (by omega) (by omega)]; have h2 := h k (by omega); rw [hn2] at h2; exact h2
end Go.Proofs.YtolbhliepkcihaaGreatDoor.SkipPure
end
section
namespace Go.Proofs.YtolbhliepkcihaaGreatDoor.SkipOps
open Go.RowKit Kinds QSF YtolbhliepkcihaaGreatDoorW.PrintWords YtolbhliepkcihaaGreatDoorW.PrintLast YtolbhliepkcihaaGreatDoorW.PrintMore Sha Mac Codec Tower SkipPure
abbrev It := S44
def has (l : List It) (q : Int) : Bool := l.any fun y => y.f0 == q
theorem has_iff (l : List It) (q : Int) : has l q = true ↔ ∃ y, y ∈ l ∧ y.f0 = q := by
 unfold has; rw [List.any_eq_true]
 constructor
 ·rintro ⟨y, hy, e⟩; exact ⟨y, hy, by simpa using e⟩
 ·rintro ⟨y, hy, e⟩; exact ⟨y, hy, by simpa using e⟩
theorem not_has (l : List It) (q : Int) (h : has l q = false) (y : It) (hy : y ∈ l) : y.f0 ≠ q := by
 intro e; have := (has_iff l q).2 ⟨y, hy, e⟩; rw [h] at this; cases this
end Go.Proofs.YtolbhliepkcihaaGreatDoor.SkipOps
end
section
namespace Go.Proofs.YtolbhliepkcihaaGreatDoor.SkipOps
open Go.RowKit Kinds QSF QSF YtolbhliepkcihaaGreatDoorW.PrintWords YtolbhliepkcihaaGreatDoorW.PrintLast YtolbhliepkcihaaGreatDoorW.PrintMore Sha Mac Codec Tower SkipPure
theorem at_l0 (l : List It) (hn : l.length ≤ 100000) (q : Int) (d : Nat) : ∀ i, i + d = l.length → (∀ j, j < i → ky l j ≠ q) →
  ∃ r : Int, Ev (fun k => saltusref16_At.l0 k q l (l.length : Int) (i : Int)) r ∧ (has l q = true → 0 ≤ r) ∧ (has l q = false → r < 0) := by
 induction d with
 | zero =>
  intro i hi hp; refine ⟨-1, Ev.step (fun k => ?_) (Ev.now _), fun h => ?_, fun _ => by decide⟩
  ·rw [saltusref16_At.l0, if_neg (by omega)]
  ·obtain ⟨y, hy, e⟩ := (has_iff l q).1 h; obtain ⟨j, hj, rfl⟩ := List.mem_iff_getElem.1 hy; refine absurd ?_ (hp j (by omega)); unfold ky; rw [it_mem l j hj]; exact e
 | succ d ih =>
  intro i hi hp
  by_cases c : ky l i = q
  ·refine ⟨(i : Int), Ev.step (fun k => ?_) (Ev.now _), fun _ => by omega, fun h => ?_⟩
   ·rw [saltusref16_At.l0, if_pos (by omega), if_pos (by omega), if_pos (by omega), if_pos (show (rd_T44 l (i : Int)).f0 = q from c)]
   ·refine absurd ?_ (not_has l q h _ (List.getElem_mem (show i < l.length by omega))); rw [← it_mem l i (by omega)]; exact c
  ·obtain ⟨r, h1, h2⟩ := ih (i + 1) (by omega) (fun j hj => by
    by_cases e : j = i
    ·subst e; exact c
    ·exact hp j (by omega))
   refine ⟨r, Ev.step (fun k => ?_) h1, h2⟩; rw [saltusref16_At.l0, if_pos (by omega), if_pos (by omega), if_pos (by omega), if_neg (show ¬(rd_T44 l (i : Int)).f0 = q from c), w_succ i l.length (by omega) (by omega)]
theorem at_ev (l : List It) (hn : l.length ≤ 100000) (q : Int) : ∃ r : Int, Ev (fun k => saltusref16_At.f k l q) r ∧ (has l q = true → 0 ≤ r) ∧ (has l q = false → r < 0) :=
 at_l0 l hn q l.length 0 (by omega) (fun j h => absurd h (by omega))
theorem c_right (A : Option Addr) (c : Nat) (l : List It) (hn : l.length ≤ 100000) : ∃ r, (r = true ↔ RightP l) ∧ True ∧
  (∀ w, Kd.C k44 w A l.length l → l.length ≤ c → Calls Tryz.prog 9 #[.slice A l.length c] w fun e w' => e = .returned (.bool r) ∧ Below w.heap.size w w') := by
 rcases refright_ev l hn with ⟨p2, h2⟩ | ⟨p2, h2⟩
 ·obtain ⟨k2, e2⟩ := h2.rounds; exact ⟨true, ⟨fun _ => p2, fun _ => rfl⟩, trivial, fun w q1 q2 => saltusref16_Right.calls k2 A c l true w q1 q2 e2⟩
 ·obtain ⟨k2, e2⟩ := h2.rounds; exact ⟨false, ⟨(fun h => by cases h), fun h => absurd h p2⟩, trivial, fun w q1 q2 => saltusref16_Right.calls k2 A c l false w q1 q2 e2⟩
theorem c_at (A : Option Addr) (c : Nat) (l : List It) (hn : l.length ≤ 100000) (q : Int) : ∃ r : Int, (has l q = true → 0 ≤ r) ∧ (has l q = false → r < 0) ∧
  (∀ w, Kd.C k44 w A l.length l → l.length ≤ c → Calls Tryz.prog 10 #[.slice A l.length c, .int .u64 q] w fun e w' => e = .returned (.int .i64 r) ∧ Below w.heap.size w w') := by
 obtain ⟨r, h1, h2, h3⟩ := at_ev l hn q; obtain ⟨k1, e1⟩ := h1.rounds; exact ⟨r, h2, h3, fun w q1 q2 => saltusref16_At.calls k1 A c l q r w q1 q2 e1⟩
end Go.Proofs.YtolbhliepkcihaaGreatDoor.SkipOps
end
section
namespace Go.Proofs.YtolbhliepkcihaaGreatDoor.SkipPure
open Go.RowKit Kinds QSF YtolbhliepkcihaaGreatDoorW.PrintWords YtolbhliepkcihaaGreatDoorW.PrintLast YtolbhliepkcihaaGreatDoorW.PrintMore Sha Mac Codec Tower Mem
set_option maxRecDepth 100000 in
set_option maxHeartbeats 4000000 in
theorem right_walk (A : Option Addr) (c : Nat) (l : List Item) (hn : l.length ≤ 100000) (rs : Bool) (hrs : rs = true ↔ RightP l) (w : World) (hr : Kd.C k44 w A l.length l) :
  Calls Tryz.prog 14 #[.slice A l.length c] w fun e w' => e = .returned (.bool rs) ∧ Below w.heap.size w w' := by
 have HC := Lib.hid hr; have HR := Lib.hid hrs; have HB0 := qf (Below.refl w.heap.size w); clear hr hrs
 go_enter Tryz.func14, Tryz.ntmps14
 go_wp2
 go_loopw [7] (fun iv wq => ∃ k : Nat, k ≤ l.length ∧ iv = .int .i64 k ∧ Hid (∀ j, j < k → okAt l j) ∧ Aside0 (Below w.heap.size w wq)) (fun iv _ => l.length - (intOf iv).toNat)
 case atStart => exact ⟨0, Nat.zero_le _, rfl, Lib.hid (fun j hj => absurd hj (by omega)), HB0⟩
 case round =>
  clear HB0; obtain ⟨k, hk, rfl, HO, HB⟩ := hrel
  by_cases hlt : k < l.length
  ·obtain ⟨ad, e1, hc0, hc1⟩ := at_T44 HC.out (k : Int) (by omega) (by omega); subst e1; rw [show rd_T44 l (k : Int) = it l k from rfl, Int.toNat_natCast] at hc0 hc1; replace hc0 := (HB.out.cell (qd w _ hc0)).trans hc0; replace hc1 := (HB.out.cell (qd w _ hc1)).trans hc1; have hky : ky l k = (it l k).f0 := rfl; have HX := qf (Blk.new wr 44 #[.int .u64 (it l k).f0, .string (it l k).f1]); have hbn := (Below.refl wr.heap.size wr).alloc (Nat.le_refl _) (.cells #[.int .u64 (it l k).f0, .string (it l k).f1] 44); have HB2 := qf (HB.out.trans (hbn.mono HB.out.size)); have HN := Lib.hid (fun (p : ¬okAt l k) (q : RightP l) => p (q.1 k hlt)); have HY := Lib.hid (fun (p : okAt l k) => (fun j (hj : j < k + 1) => if e : j = k then (show okAt l j by rw [e]; exact p) else HO.out j (by omega) : ∀ j, j < k + 1 → okAt l j))
   have i1 : (k : Int) < (l.length : Int) := by omega
   have i0 : (0 : Int) ≤ (k : Int) := by omega
   by_cases hs : (it l k).f1.size ≤ 64
   ·have d1 : decide ((64 : Int) < ((it l k).f1.size : Int)) = false := decide_eq_false (by omega)
    by_cases h0 : k = 0
    ·have d2 : decide ((0 : Int) < (k : Int)) = false := decide_eq_false (by omega); have d2n : decide (0 < k) = false := decide_eq_false (by omega); have HO2 := Lib.hid (HY.out ⟨hs, fun q => absurd q (by omega)⟩); clear HN HY hs h0 HC hky; generalize (it l k).f0 = f0 at *; generalize (it l k).f1 = f1 at *
     go_upto_region 4 with (fail)
     generalize wr.heap.size = gx at *; generalize wr.alloc (.cells #[.int .u64 f0, .string f1] 44) = w5 at *; clear hc0 hc1; have y0 := HX.out.cell 0; have y1 := HX.out.cell 1
     go_quiet (fail)
     rename_i nq; replace HB2 := qf (HB2.out.trans ((qb (Below.refl w5.heap.size w5) nq).mono HB2.out.size)); go_wp2
     go_roundw
     case rel => exact ⟨k + 1, by omega, by go_num, HO2, HB2⟩
     case measure => simp [intOf]; omega
    ·obtain ⟨m, hm⟩ : ∃ m, m + 1 = k := ⟨k - 1, by omega⟩
     have d2 : decide ((0 : Int) < (k : Int)) = true := qj (by omega); have d2n : decide (0 < k) = true := qj (by omega)
     have hw : wrap64 ((k : Int) - 1) = (m : Int) := by unfold wrap64; omega
     have hw2 : IntKind.i64.wrap ((k : Int) - 1) = (m : Int) := (i64_w _).trans hw
     have m0 : (0 : Int) ≤ (m : Int) := by omega
     have m1 : (m : Int) < (l.length : Int) := by omega
     obtain ⟨ad2, e2, hp0, _⟩ := at_T44 HC.out (m : Int) (by omega) (by omega); obtain rfl := Option.some.inj e2; rw [show rd_T44 l (m : Int) = it l m from rfl, Int.toNat_natCast] at hp0; replace hp0 := (HB2.out.cell (qd w _ hp0)).trans hp0
     have hpy : ky l (k - 1) = (it l m).f0 := by rw [← hm]; rfl
     by_cases hq : (it l m).f0 < (it l k).f0
     ·have d3 : decide ((it l k).f0 ≤ (it l m).f0) = false := decide_eq_false (by omega); have HO2 := Lib.hid (HY.out ⟨hs, fun _ => by rw [hpy, hky]; exact hq⟩); clear HN HY hs h0 HC hky hpy hq hm e2; generalize (it l m).f0 = fp at *; generalize (it l k).f0 = f0 at *; generalize (it l k).f1 = f1 at *
      go_upto_region 4 with (fail)
      generalize wr.heap.size = gx at *; generalize wr.alloc (.cells #[.int .u64 f0, .string f1] 44) = w5 at *; clear hc0 hc1; have y0 := HX.out.cell 0; have y1 := HX.out.cell 1
      go_quiet (fail)
      rename_i nq; replace HB2 := qf (HB2.out.trans ((qb (Below.refl w5.heap.size w5) nq).mono HB2.out.size)); go_wp2
      go_roundw
      case rel => exact ⟨k + 1, by omega, by go_num, HO2, HB2⟩
      case measure => simp [intOf]; omega
     ·have d3 : decide ((it l k).f0 ≤ (it l m).f0) = true := qj (by omega)
      have er : rs = false := by
       cases hb : rs with
       | false => rfl
       | true => exact (HN.out (fun q => hq (by have := q.2 (by omega); rw [hpy, hky] at this; exact this)) (HR.out.1 hb)).elim
      clear HN HY hs h0 HC hky hpy hq hm e2 HR; subst er; generalize (it l m).f0 = fp at *; generalize (it l k).f0 = f0 at *; generalize (it l k).f1 = f1 at *
      go_upto_region 4 with (fail)
      generalize wr.heap.size = gx at *; generalize wr.alloc (.cells #[.int .u64 f0, .string f1] 44) = w5 at *; clear hc0 hc1; have y0 := HX.out.cell 0; have y1 := HX.out.cell 1
      go_quiet (fail)
      rename_i nq; go_wp2; go_ret; exact ⟨by first | rfl | (simp; done), HB2.out.trans ((qb (Below.refl w5.heap.size w5) nq).mono HB2.out.size)⟩
   ·have d1 : decide ((64 : Int) < ((it l k).f1.size : Int)) = true := qj (by omega)
    have er : rs = false := by
     cases hb : rs with
     | false => rfl
     | true => exact (HN.out (fun q => hs q.1) (HR.out.1 hb)).elim
    clear HN HY hs HC hky HR; subst er; generalize (it l k).f0 = f0 at *; generalize (it l k).f1 = f1 at *
    go_upto_region 4 with (fail)
    generalize wr.heap.size = gx at *; generalize wr.alloc (.cells #[.int .u64 f0, .string f1] 44) = w5 at *; clear hc0 hc1; have y0 := HX.out.cell 0; have y1 := HX.out.cell 1
    go_quiet (fail)
    rename_i nq; go_wp2; go_ret; exact ⟨by first | rfl | (simp; done), HB2.out.trans ((qb (Below.refl w5.heap.size w5) nq).mono HB2.out.size)⟩
  ·obtain rfl : k = l.length := by omega
   have er : rs = decide ((l.length : Int) ≤ 64) := by
    by_cases h : l.length ≤ 64
    ·rw [qj (show (l.length : Int) ≤ 64 by omega)]; exact HR.out.2 ⟨HO.out, h⟩
    ·rw [decide_eq_false (show ¬(l.length : Int) ≤ 64 by omega)]
     cases hb : rs with
     | false => rfl
     | true => exact absurd (HR.out.1 hb).2 h
   have HE := Lib.hid er; clear er; go_wp2; go_ret; exact ⟨by rw [HE.out]; rfl, HB.out⟩
end Go.Proofs.YtolbhliepkcihaaGreatDoor.SkipPure
end
section
namespace Go.Proofs.YtolbhliepkcihaaGreatDoor.Lab
open Go.RowKit YtolbhliepkcihaaGreatDoorW.PrintWords Kinds Build Sha Mac Codec Tower Mem SkipOps SkipPure
theorem c_rightP (A : Option Addr) (c : Nat) (l : List S44) (hn : l.length ≤ 100000) : ∃ r, (r = true ↔ RightP l) ∧
  (∀ w, Kd.C k44 w A l.length l → l.length ≤ c → Calls Tryz.prog 14 #[.slice A l.length c] w fun e w' => e = .returned (.bool r) ∧ Below w.heap.size w w') ∧ True := by
 by_cases h : RightP l
 ·exact ⟨true, ⟨fun _ => h, fun _ => rfl⟩, fun w q _ => right_walk A c l hn true ⟨fun _ => h, fun _ => rfl⟩ w q, trivial⟩
 ·exact ⟨false, ⟨(fun q => by cases q), fun q => absurd q h⟩, fun w q _ => right_walk A c l hn false ⟨(fun q => by cases q), fun q => absurd q h⟩ w q, trivial⟩
theorem Row_ok (key : ByteArray) (A0 : Option Addr) (c0 : Nat) (l : List S44) (lv : Nat) (w : World) (hr0 : Kd.C k44 w A0 l.length l) (hc0 : l.length ≤ c0) (hl : l.length ≤ 1000) (hkey : key.size ≤ 1000000000) (hok : ∀ x, x ∈ l → x.f1.size ≤ 4096 ∧ 0 ≤ x.f0 ∧ x.f0 < 18446744073709551616) (hlv : lv ≤ 8) (hT : TabW w) (hb : RightP l) :
  Calls Tryz.prog 18 #[.string key, .slice A0 l.length c0, .int .i64 (lv : Int)] w fun e w' => ∃ v, e = .returned (.tuple #[v, .int .i64 0]) ∧ w'.ownsRow w.heap.size 9 1 v (rowL key l lv).length (strV (rowL key l lv)) ∧ Below w.heap.size w w' := by
 obtain ⟨r, hr, hA, _⟩ := c_rightP A0 c0 l (by omega); obtain rfl := hr.2 hb; have HA := Lib.hid (hA w hr0 hc0); have HR := Lib.hid (fun W (h : Below w.heap.size w W) => row_walk key A0 c0 l lv W (Kd.C_below hr0 h) hl hkey hok hlv (tab_below hT h (Nat.le_refl _))); clear hr hA hr0 hok hT hb; have d1 : decide ((lv : Int) < 0) = false := decide_eq_false (by omega); have d2 : decide ((8 : Int) < (lv : Int)) = false := decide_eq_false (by omega)
 go_enter Tryz.func18, Tryz.ntmps18
 go_wp2_with (first | (go_at_call 14; refine (HA.out).mono ?_; rintro e w1 ⟨rfl, hb1⟩) | (go_at_call 37; refine (HR.out _ hb1).mono ?_; rintro e w2 ⟨v, rfl, ho, hb2⟩; have HS := hb1.size; have ho' := qf (own_le ho HS); have hb' := qf (below_step hb1 hb2); clear ho hb2 HS))
 go_ret2
 exact ⟨_, rfl, ho'.out, hb'.out⟩
theorem rootL_row (key : ByteArray) (l : List S44) : rowL key l 8 = [rootL key l] := by
 have h : ∀ s : List S44, rowF (lab 8) 8 (s.map (ent key)) = [] := fun s => by
  induction s with
  | nil => rfl
  | cons x r ih =>
   have := height_hi key x.f0.toNat; rw [List.map_cons, rowF, if_neg (by show ¬8 < heightN key x.f0.toNat; omega), ih]
 unfold rowL ents rootL; rw [rowF, if_pos (by decide), h]; rfl
theorem Root_ok (key : ByteArray) (A0 : Option Addr) (c0 : Nat) (l : List S44) (w : World) (hr0 : Kd.C k44 w A0 l.length l) (hc0 : l.length ≤ c0) (hl : l.length ≤ 1000) (hkey : key.size ≤ 1000000000) (hok : ∀ x, x ∈ l → x.f1.size ≤ 4096 ∧ 0 ≤ x.f0 ∧ x.f0 < 18446744073709551616) (hT : TabW w) (hb : RightP l) :
  Calls Tryz.prog 27 #[.string key, .slice A0 l.length c0] w fun e w' => e = .returned (.tuple #[.string (rootL key l), .int .i64 0]) ∧ Below w.heap.size w w' := by
 obtain ⟨r, hr, hA, _⟩ := c_rightP A0 c0 l (by omega); obtain rfl := hr.2 hb; have HA := Lib.hid (hA w hr0 hc0); have HR := Lib.hid (fun W (h : Below w.heap.size w W) => row_walk key A0 c0 l 8 W (Kd.C_below hr0 h) hl hkey hok (by decide) (tab_below hT h (Nat.le_refl _))); rw [rootL_row] at HR; clear hr hA hr0 hok hT hb; generalize rootL key l = y at *
 go_enter Tryz.func27, Tryz.ntmps27
 go_wp2_with (first | (go_at_call 14; refine (HA.out).mono ?_; rintro e w1 ⟨rfl, hb1⟩) | (go_at_call 37; refine (HR.out _ hb1).mono ?_; rintro e w2 ⟨v, rfl, ho, hb2⟩; obtain ⟨g, cp, rfl, _⟩ := own_succ3 (k := 0) ho; have hcc : w2.cell? ⟨g, 0, none⟩ = some (.string y) := ho.cellAt 0 (by decide); have hb' := qf (below_step hb1 hb2); clear ho hb2))
 go_ret2
 exact ⟨rfl, hb'.out⟩
end Go.Proofs.YtolbhliepkcihaaGreatDoor.Lab
end
section
namespace Go.Proofs.YtolbhliepkcihaaGreatDoor.Lab
open Go.RowKit YtolbhliepkcihaaGreatDoorW.PrintWords Kinds Build Sha Mac Codec Tower Mem SkipOps SkipPure
def okL (l : List S44) : Prop := ∀ x, x ∈ l → x.f1.size ≤ 4096 ∧ 0 ≤ x.f0 ∧ x.f0 < 18446744073709551616
theorem keys_ev (l : List S44) (hn : l.length ≤ 50000) : Ev (fun k => QSF.saltusref16_Keys.f k l) (l.map (·.f0)) := by
 have h1 := keys_l0 l (by omega) l.length 0 [] (by omega) (by simp; omega); simp only [List.nil_append, List.drop_zero] at h1; exact h1
theorem heights_ev (key : ByteArray) (hkey : key.size ≤ 1000000000) (l : List S44) (hn : l.length ≤ 50000) (hok : okL l) : Ev (fun k => QSF.saltusref15_Heights.f k key (l.map (·.f0))) (htsL key l) := by
 have h2 := heights_l0 key hkey (l.map (·.f0)) (by rw [List.length_map]; omega) (fun y hy => by
  obtain ⟨z, hz, rfl⟩ := List.mem_map.1 hy; have := hok z hz
  omega) (l.map (·.f0)).length 0 [] (by omega) (by simp; omega)
 simp only [List.nil_append, List.drop_zero, List.map_map] at h2; exact h2
theorem okT_of (key : ByteArray) (l : List S44) (hn : l.length ≤ 1000) (hok : okL l) : okT l (htsL key l) = true := by
 unfold okT okIt okHt htsL; simp only [Bool.and_eq_true, List.all_eq_true, decide_eq_true_eq, List.length_map]; refine ⟨⟨⟨fun x hx => ?_, fun x hx => ?_⟩, trivial⟩, by omega⟩
 ·have := hok x hx; exact ⟨⟨this.1, this.2.1⟩, this.2.2⟩
 ·obtain ⟨y, _, rfl⟩ := List.mem_map.1 hx; have := height_hi key y.f0.toNat
  omega
theorem esOf_hts (key : ByteArray) : ∀ l : List S44, esOf l (htsL key l) = l.map (ent key)
 | [] => rfl
 | x :: r => by
  have ih := esOf_hts key r
  have e : esOf (x :: r) (htsL key (x :: r)) = ⟨((heightN key x.f0.toNat : Nat) : Int).toNat, itemT x⟩ :: esOf r (htsL key r) := by
   unfold esOf htsL; rw [List.map_cons, List.zipWith_cons_cons]
  rw [e, ih, Int.toNat_natCast, List.map_cons]; unfold ent; exact List.cons_eq_cons.2 ⟨rfl, rfl⟩
theorem suf_at (key : ByteArray) (l : List S44) (a : Int) : sufT l (htsL key l) a = (ents key l).drop (a + 1).toNat := by
 unfold sufT ents; rw [esOf_hts]
theorem of_at (key : ByteArray) (l : List S44) (hn : l.length ≤ 1000) (hok : okL l) (a : Int) (h1 : -1 ≤ a) (h2 : a < (l.length : Int)) (lv : Nat) (hlv : lv ≤ 8) :
  saltusref17_Of.f l (htsL key l) a (lv : Int) = some (lab lv ((ents key l).drop (a + 1).toNat)) := by
 unfold saltusref17_Of.f; rw [if_pos ⟨okT_of key l hn hok, h1, h2, by omega, by omega⟩, suf_at, Int.toNat_natCast]
theorem set_grown_at (w : World) (b i : Nat) (u : Value) : w.grownBy (w.setCell ⟨b, i, none⟩ u) (some b) :=
 ⟨rfl, rfl, rfl, by simp, fun k _ hk => heap_setCell_other w ⟨b, i, none⟩ k u (fun e => hk (by simp [e]))⟩
set_option maxHeartbeats 2000000 in
set_option maxRecDepth 100000 in
theorem list_walk (key : ByteArray) (A0 : Option Addr) (c0 : Nat) (l : List S44) (w : World) (hr0 : Kd.C k44 w A0 l.length l) (hc0 : l.length ≤ c0) (hl : l.length ≤ 1000) (hkey : key.size ≤ 1000000000) (hok : okL l) :
  Calls Tryz.prog 12 #[.string key, .slice A0 l.length c0] w fun e w' => ∃ A2 c2, e = .returned (.agg #[.slice A0 l.length c0, .slice A2 l.length c2]) ∧ Kd.C (Kd.int .i64) w' A2 l.length (htsL key l) ∧ l.length ≤ c2 ∧ w'.ownsRow w.heap.size 3 1 (.slice A2 l.length c2) l.length (intV (htsL key l)) ∧ Below w.heap.size w w' := by
 obtain ⟨k1, e1⟩ := (keys_ev l (by omega)).rounds; obtain ⟨k2, e2⟩ := (heights_ev key hkey l (by omega) hok).rounds; have HK := Lib.hid (fun W (h : Below w.heap.size w W) => QSF.saltusref16_Keys.calls k1 A0 c0 l _ W (Kd.C_below hr0 h) hc0 e1); have HH := Lib.hid (fun A c W h h2 => QSF.saltusref15_Heights.calls k2 key A c (l.map (·.f0)) _ W h h2 e2); have hlen : (l.map (·.f0)).length = l.length := List.length_map _
 have hlen2 : (htsL key l).length = l.length := by unfold htsL; exact List.length_map _
 clear e1 e2 hr0 hok hkey
 go_enter Tryz.func12, Tryz.ntmps12
 generalize l.map (·.f0) = ks at *; generalize htsL key l = hs at *; rw [hlen] at HH
 go_upto_region 1 with (fail)
 have N := qf (Blk.new w 38 #[.slice none 0 0, .slice none 0 0]); have HB := qf (Below.alloc (Below.refl w.heap.size w) (Nat.le_refl _) (.cells #[.slice none 0 0, .slice none 0 0] 38))
 obtain ⟨g, hg⟩ : ∃ g, w.heap.size = g := ⟨_, rfl⟩
 rw [hg] at N; have HK2 := Lib.hid (HK.out _ HB.out); clear HK; generalize w.alloc (.cells #[.slice none 0 0, .slice none 0 0] 38) = w0 at *; rw [hg]
 go_wp2_with fail
 refine (HK2.out).mono ?_
 rintro e w1 ⟨v1, rfl, hr1, hb1⟩
 obtain ⟨A1, c1, rfl⟩ := Kd.R_slice hr1; have q1 := qf (Kd.R_reads' hr1); replace N := qf (N.out.below hb1 N.out.lt); replace HB := qf (below_step HB.out hb1); have hw1 := HB.out.size; clear hr1 hb1 HK2
 go_wp2_with fail
 have q1c : Kd.C (Kd.int .u64) w1 A1 l.length ks := by rw [← hlen]; exact q1.out.2.2
 have q1d : l.length ≤ c1 := by rw [← hlen]; exact q1.out.2.1
 refine (HH.out A1 c1 w1 q1c q1d).mono ?_
 rintro e w2 ⟨v2, rfl, hr2, hb2⟩
 obtain ⟨A2, c2, rfl⟩ := Kd.R_slice hr2; have q2 := qf (Kd.R_reads' hr2); replace N := qf (N.out.below hb2 N.out.lt); replace HB := qf (below_step HB.out hb2); have hc0' := N.out.cell 0; have hc1' := N.out.cell 1; have hf0' := N.out.frozen 0; have hf1' := N.out.frozen 1; clear hb2 HH q1 q1c
 go_wp2_with fail
 have ho := own_le (Kd.own_of_R hr2) hw1; have h1 : w.heap.size ≤ g := Nat.le_of_eq hg; have n1 := own_ne ho N.out (by decide); have ho1 := ho.kept (set_grown_at w2 g 0 (.slice A0 l.length c0)) (.inr n1); have N1 := N.out.set_ 0 (.slice A0 l.length c0); have ho2 := ho1.kept (set_grown_at _ g 1 (.slice A2 l.length c2)) (.inr n1); have N2 := N1.set_ 1 (.slice A2 l.length c2); have HB2 := (HB.out.setCell (p := ⟨g, 0, none⟩) h1 (.slice A0 l.length c0)).setCell (p := ⟨g, 1, none⟩) h1 (.slice A2 l.length c2); generalize (w2.setCell ⟨g, 0, none⟩ (.slice A0 l.length c0)).setCell ⟨g, 1, none⟩ (.slice A2 l.length c2) = w3 at *; have q3 := (Kd.R_reads' (Kd.R_of_own (h1 := fun _ => rfl) (ok := fun _ => True) ho2 (fun _ _ => trivial))).2; refine bodyPost_ret (v := .agg #[.slice A0 l.length c0, .slice A2 l.length c2]) ?_ rfl ?_
 ·exact results_cell_row rfl _ _ g 38 #[.slice A0 l.length c0, .slice A2 l.length c2] (0, 0) _ rfl N2 Tryz.underlying38 rfl (by kernel_rfl)
 ·rw [hlen2] at q3 ho2; exact ⟨A2, c2, rfl, q3.2, q3.1, ho2, HB2⟩
end Go.Proofs.YtolbhliepkcihaaGreatDoor.Lab
end
section
namespace Go.Proofs.YtolbhliepkcihaaGreatDoor
open Go.RowKit YtolbhliepkcihaaGreatDoorW.PrintWords Kinds Build Lab Sha Mac Codec Tower SkipOps SkipPure
def keysB (l : List S44) : Bool := l.all fun x => decide (0 ≤ x.f0) && decide (x.f0 < 18446744073709551616)
def rightB (l : List S44) : Bool := (List.range l.length).all (fun i => decide ((it l i).f1.size ≤ 64) && (decide (i = 0) || decide (ky l (i - 1) < ky l i))) && decide (l.length ≤ 64)
theorem rightB_iff (l : List S44) : rightB l = true ↔ RightP l := by
 unfold rightB RightP okAt; simp only [Bool.and_eq_true, List.all_eq_true, List.mem_range, decide_eq_true_eq, Bool.or_eq_true]
 constructor
 ·rintro ⟨h1, h2⟩
  refine ⟨fun i hi => ⟨(h1 i hi).1, fun h0 => ?_⟩, h2⟩
  rcases (h1 i hi).2 with h | h
  ·omega
  ·exact h
 ·rintro ⟨h1, h2⟩
  refine ⟨fun i hi => ⟨(h1 i hi).1, ?_⟩, h2⟩
  rcases Nat.eq_zero_or_pos i with h | h
  ·exact .inl h
  ·exact .inr ((h1 i hi).2 h)
theorem keysB_all (l : List S44) (h : keysB l = true) : ∀ x, x ∈ l → 0 ≤ x.f0 ∧ x.f0 < 18446744073709551616 := fun x hx => by
 have := List.all_eq_true.1 h x hx
 simpa [Bool.and_eq_true] using this
theorem right_size (l : List S44) (h : RightP l) : ∀ x, x ∈ l → x.f1.size ≤ 64 := fun x hx => by
 obtain ⟨i, hi, rfl⟩ := List.mem_iff_getElem.1 hx; have := (h.1 i hi).1; rw [it_mem l i hi] at this; exact this
theorem okL_of (l : List S44) (h : RightP l) (hk : keysB l = true) : okL l := fun x hx => by
 have h1 := right_size l h x hx; have h2 := keysB_all l hk x hx; exact ⟨by omega, h2.1, h2.2⟩
def saltusref16_Right.f (l0 : List S44) : Option Bool := if l0.length ≤ 100000 then some (rightB l0) else none
def leafB (a0 : Int) (a1 : ByteArray) : Bool := decide (0 ≤ a0) && decide (a0 < 18446744073709551616) && decide (a1.size ≤ 4096)
def saltusref17_Leaf.f (a0 : Int) (a1 : ByteArray) : Option ByteArray := if leafB a0 a1 = true then some (sumS (itemT ⟨a0, a1⟩)) else none
def saltusref17_Item.f (a0 : Int) (a1 : ByteArray) : Option ByteArray := if leafB a0 a1 = true then some (itemT ⟨a0, a1⟩) else none
def saltusref17_Text.f (a0 : Int) (l1 : List ByteArray) : Option ByteArray := if 0 ≤ a0 ∧ a0 ≤ 1000 ∧ l1.length ≤ 1000000 ∧ (catS l1).size ≤ 1000000000000 then some (joinT a0.toNat l1) else none
end Go.Proofs.YtolbhliepkcihaaGreatDoor
end
section
namespace Go.Proofs.YtolbhliepkcihaaGreatDoor.Lab
open Go.RowKit YtolbhliepkcihaaGreatDoorW.PrintWords Kinds Build Sha Mac Codec Tower Mem
def oddR (r : List ByteArray) : Bool := decide (64 < r.length) || odds r
def oddRs (l : List (List ByteArray)) : Bool := l.any oddR
theorem oddRs_snoc (l : List (List ByteArray)) (k : Nat) (h : k < l.length) : oddRs (l.take (k + 1)) = (oddRs (l.take k) || oddR l[k]) := by
 unfold oddRs; rw [List.take_succ_eq_append_getElem h, List.any_append]
 simp
theorem oddRs_take (l : List (List ByteArray)) (k : Nat) (h : k < l.length) (ho : oddR l[k] = true) : oddRs l = true := List.any_eq_true.2 ⟨_, List.getElem_mem h, ho⟩
theorem oddR_m (A : Option Addr) (c : Nat) (r : List ByteArray) (w : World) (hr : Kd.C Kd.string w A r.length r) :
  Calls Tryz.prog 69 #[.slice A r.length c] w fun e w' => e = .returned (.bool (oddR r)) ∧ w' = w := by
 by_cases h : 64 < r.length
 ·have e : oddR r = true := by unfold oddR; rw [qj h]; rfl
  rw [e]; have d : decide ((64 : Int) < (r.length : Int)) = true := qj (by omega); clear hr e
  go_enter Tryz.func69, Tryz.ntmps69
  go_wp2; go_ret; exact ⟨rfl, rfl⟩
 ·have e : oddR r = odds r := by unfold oddR; rw [decide_eq_false h]; rfl
  rw [e]; have H := Lib.hid (has_b A c r w hr (by omega)); have d : decide ((64 : Int) < (r.length : Int)) = false := decide_eq_false (by omega); clear hr e; generalize odds r = b at *
  go_enter Tryz.func69, Tryz.ntmps69
  go_wp2_with (go_at_call 70; refine (H.out).mono ?_; rintro e w1 ⟨rfl, rfl⟩)
  go_ret; exact ⟨rfl, rfl⟩
theorem rows_at {w : World} {A : Option Addr} {l : List (List ByteArray)} (h : Kd.C (Kd.slice 9 Kd.string) w A l.length l) (h0 : 0 < l.length) :
  ∃ ad, A = some ad ∧ ∀ k, (hk : k < l.length) → ∃ B d, w.cell? (ad.add k) = some (.slice B l[k].length d) ∧ l[k].length ≤ d ∧ Kd.C Kd.string w B l[k].length l[k] := by
 obtain ⟨ad, e, hc⟩ := h.2.2 h0; refine ⟨ad, e, fun k hk => ?_⟩; obtain ⟨c, _, ⟨B, d, rfl, hd, hC⟩, hcell⟩ := hc k _ (List.getElem?_eq_getElem hk); have h1 := hcell 0 _ rfl
 have h3 : k * (Kd.slice 9 Kd.string).sz + 0 = k := by show k * 1 + 0 = k; omega
 rw [h3] at h1; exact ⟨B, d, h1, hd, hC⟩
set_option maxRecDepth 100000 in
set_option maxHeartbeats 4000000 in
theorem idx_m (ad : Addr) (c : Nat) (l : List (List ByteArray)) (w : World) (hn : l.length ≤ 1000000) (hx : ∀ k, (hk : k < l.length) → ∃ B d, w.cell? (ad.add k) = some (.slice B l[k].length d) ∧ l[k].length ≤ d ∧ Kd.C Kd.string w B l[k].length l[k]) :
  Calls Tryz.prog 91 #[.slice (some ad) l.length c, .func (.func 69) #[] #[]] w fun e w' => (∃ i : Int, e = .returned (.int .i64 i) ∧ decide (0 ≤ i) = oddRs l) ∧ w' = w := by
 have HX := Lib.hid hx; clear hx
 go_enter Tryz.func91, Tryz.ntmps91
 go_wp2
 go_loop [8] (fun iv => ∃ k : Nat, k ≤ l.length ∧ iv = .int .i64 k ∧ Aside0 (oddRs (l.take k) = false)) (fun iv => l.length - (intOf iv).toNat)
 case atStart => exact ⟨0, Nat.zero_le _, rfl, ⟨rfl⟩⟩
 case round =>
  obtain ⟨k, hk, rfl, HO⟩ := hrel
  by_cases hlt : k < l.length
  ·obtain ⟨B, d, hcx, _, hC⟩ := HX.out k hlt; have HS := Lib.hid (oddRs_snoc l k hlt); have HT := Lib.hid (oddRs_take l k hlt); have G := Lib.hid (oddR_m B d l[k] w hC); clear hC; generalize l[k] = x at *
   cases ho : oddR x with
   | true =>
    rw [ho] at G
    go_wp2_with (go_at_call 69; refine (G.out).mono ?_; rintro e w1 ⟨rfl, rfl⟩)
    go_ret; exact ⟨⟨_, rfl, by rw [HT.out ho]; exact qj (by omega)⟩, rfl⟩
   | false =>
    rw [ho] at G; have HO2 := Lib.hid ho; clear ho
    go_wp2_with (go_at_call 69; refine (G.out).mono ?_; rintro e w1 ⟨rfl, rfl⟩)
    go_round
    case rel => exact ⟨k + 1, by omega, by go_num, ⟨by rw [HS.out, HO.out, HO2.out]; rfl⟩⟩
    case measure => simp [intOf]; omega
  ·obtain rfl : k = l.length := by omega
   rw [List.take_length] at HO; go_wp2; go_ret; exact ⟨⟨_, rfl, by rw [HO.out]; rfl⟩, rfl⟩
theorem idx_nil_m (A : Option Addr) (c : Nat) (w : World) : Calls Tryz.prog 91 #[.slice A 0 c, .func (.func 69) #[] #[]] w fun e w' => e = .returned (.int .i64 (-1)) ∧ w' = w := by
 go_enter Tryz.func91, Tryz.ntmps91
 go_wp2
 go_loop [8] (fun iv => iv = .int .i64 0) (fun _ => 0)
 case atStart => rfl
 case round =>
  obtain rfl := hrel; go_wp2; go_ret; exact ⟨rfl, rfl⟩
set_option maxRecDepth 100000 in
theorem has_m (A : Option Addr) (c : Nat) (l : List (List ByteArray)) (w : World) (hr : Kd.C (Kd.slice 9 Kd.string) w A l.length l) (hn : l.length ≤ 1000000) :
  Calls Tryz.prog 72 #[.slice A l.length c, .func (.func 69) #[] #[]] w fun e w' => e = .returned (.bool (oddRs l)) ∧ w' = w := by
 by_cases h0 : 0 < l.length
 ·obtain ⟨ad, rfl, hx⟩ := rows_at hr h0; have H := Lib.hid (idx_m ad c l w hn hx); clear hx hr h0 hn; generalize oddRs l = b at *
  go_enter Tryz.func72, Tryz.ntmps72
  go_wp2_with (go_at_call 91; refine (H.out).mono ?_; rintro e w1 ⟨⟨i, rfl, hi⟩, rfl⟩; have HI := Lib.hid hi; clear hi)
  all_goals go_ret
  all_goals exact ⟨by rw [← HI.out]; simp, rfl⟩
 ·obtain rfl : l = [] := List.eq_nil_of_length_eq_zero (by omega); have H := Lib.hid (idx_nil_m A c w); clear hr h0 hn
  go_enter Tryz.func72, Tryz.ntmps72
  go_wp2_with (go_at_call 91; refine (H.out).mono ?_; rintro e w1 ⟨rfl, rfl⟩)
  go_ret; exact ⟨rfl, rfl⟩
def mayN (v : ByteArray) (b a : List (List ByteArray)) : Int := if 64 < v.size then 4 else if b.length ≠ 8 ∨ a.length ≠ 8 ∨ oddRs b = true ∨ oddRs a = true then 1 else 0
theorem may_walk (a0 : Int) (v : ByteArray) (A : Option Addr) (c : Nat) (b : List (List ByteArray)) (B : Option Addr) (d : Nat) (a : List (List ByteArray)) (w : World) (hr1 : Kd.C (Kd.slice 9 Kd.string) w A b.length b) (hr2 : Kd.C (Kd.slice 9 Kd.string) w B a.length a) (hn1 : b.length ≤ 1000000) (hn2 : a.length ≤ 1000000) :
  Calls Tryz.prog 53 #[.agg #[.int .u64 a0, .string v], .agg #[.slice A b.length c, .slice B a.length d]] w fun e w' => e = .returned (.int .i64 (mayN v b a)) ∧ Below w.heap.size w w' := by
 have H1 := Lib.hid (fun W (h : Below w.heap.size w W) => has_m A c b W (Kd.C_below hr1 h) hn1); have H2 := Lib.hid (fun W (h : Below w.heap.size w W) => has_m B d a W (Kd.C_below hr2 h) hn2); clear hr1 hr2; have HBW := qa (qa (Below.refl w.heap.size w) (.cells #[.int .u64 a0, .string v] 44)) (.cells #[.slice A b.length c, .slice B a.length d] 26)
 obtain ⟨r, hr⟩ : ∃ r, mayN v b a = r := ⟨_, rfl⟩
 rw [hr]; unfold mayN at hr
 by_cases g : 64 < v.size
 ·rw [if_pos g] at hr; subst hr; have q : decide ((64 : Int) < (v.size : Int)) = true := qj (by omega)
  go_enter Tryz.func53, Tryz.ntmps53
  go_wp2; go_ret; exact ⟨rfl, HBW⟩
 ·rw [if_neg g] at hr; have q : decide ((64 : Int) < (v.size : Int)) = false := decide_eq_false (by omega)
  by_cases g1 : b.length = 8
  ·have q1 : (((b.length : Nat) : Int) != 8) = false := bne_eq_false_iff_eq.2 (by omega); have G1 := qf g1; clear g1
   by_cases g2 : a.length = 8
   ·have q2 : (((a.length : Nat) : Int) != 8) = false := bne_eq_false_iff_eq.2 (by omega); have G2 := qf g2; clear g2
    cases o1 : oddRs b with
    | true =>
     rw [o1] at H1 hr; rw [if_pos (.inr (.inr (.inl rfl)))] at hr; subst hr
     go_enter Tryz.func53, Tryz.ntmps53
     go_wp2_with (go_at_call 72; (first | (with_reducible refine (H1.out _ HBW).mono ?_) | (with_reducible refine (H2.out _ HBW).mono ?_)); rintro e w1 ⟨rfl, rfl⟩)
     go_ret; exact ⟨rfl, HBW⟩
    | false =>
     rw [o1] at H1 hr
     cases o2 : oddRs a with
     | true =>
      rw [o2] at H2 hr; rw [if_pos (.inr (.inr (.inr rfl)))] at hr; subst hr
      go_enter Tryz.func53, Tryz.ntmps53
      go_wp2_with (go_at_call 72; (first | (with_reducible refine (H1.out _ HBW).mono ?_) | (with_reducible refine (H2.out _ HBW).mono ?_)); rintro e w1 ⟨rfl, rfl⟩)
      go_ret; exact ⟨rfl, HBW⟩
     | false =>
      rw [o2] at H2 hr; rw [if_neg (by rintro (h | h | h | h); exact h G1.out; exact h G2.out; exact absurd h (by decide); exact absurd h (by decide))] at hr; subst hr
      go_enter Tryz.func53, Tryz.ntmps53
      go_wp2_with (go_at_call 72; (first | (with_reducible refine (H1.out _ HBW).mono ?_) | (with_reducible refine (H2.out _ HBW).mono ?_)); rintro e w1 ⟨rfl, rfl⟩)
      go_ret; exact ⟨rfl, HBW⟩
   ·have q2 : (((a.length : Nat) : Int) != 8) = true := bne_iff_ne.2 (by omega); rw [if_pos (.inr (.inl g2))] at hr; subst hr
    go_enter Tryz.func53, Tryz.ntmps53
    go_wp2; go_ret; exact ⟨rfl, HBW⟩
  ·have q1 : (((b.length : Nat) : Int) != 8) = true := bne_iff_ne.2 (by omega); rw [if_pos (.inl g1)] at hr; subst hr
   go_enter Tryz.func53, Tryz.ntmps53
   go_wp2; go_ret; exact ⟨rfl, HBW⟩
end Go.Proofs.YtolbhliepkcihaaGreatDoor.Lab
namespace Go.Proofs.YtolbhliepkcihaaGreatDoor
open Go.RowKit YtolbhliepkcihaaGreatDoorW.PrintWords Lab
def proof_may.f (_ : Int) (a0_1 : ByteArray) (l1_0 l1_1 : List (List ByteArray)) : Option Int := if l1_0.length ≤ 1000000 ∧ l1_1.length ≤ 1000000 then some (mayN a0_1 l1_0 l1_1) else none
theorem proof_may.calls (a0_0 : Int) (a0_1 : ByteArray) (A1_0 : Option Addr) (c1_0 : Nat) (l1_0 : List (List ByteArray)) (A1_1 : Option Addr) (c1_1 : Nat) (l1_1 : List (List ByteArray)) (r : Int) (w : World) (hr1_0 : Kd.C (Kd.slice 9 Kd.string) w A1_0 l1_0.length l1_0) (_ : l1_0.length ≤ c1_0) (hr1_1 : Kd.C (Kd.slice 9 Kd.string) w A1_1 l1_1.length l1_1) (_ : l1_1.length ≤ c1_1) (h : proof_may.f a0_0 a0_1 l1_0 l1_1 = some r) :
  Calls Tryz.prog 53 #[.agg #[.int .u64 a0_0, .string a0_1], .agg #[.slice A1_0 l1_0.length c1_0, .slice A1_1 l1_1.length c1_1]] w fun e w' => e = .returned (.int .i64 r) ∧ Below w.heap.size w w' := by
 unfold proof_may.f at h
 split at h
 ·rename_i hc; obtain rfl := Option.some.inj h; exact may_walk a0_0 a0_1 A1_0 c1_0 l1_0 A1_1 c1_1 l1_1 w hr1_0 hr1_1 hc.1 hc.2
 ·cases h
end Go.Proofs.YtolbhliepkcihaaGreatDoor
end
section
namespace Go.Proofs.YtolbhliepkcihaaGreatDoor.QPA
open Go.RowKit Kinds YtolbhliepkcihaaGreatDoorW.PrintWords YtolbhliepkcihaaGreatDoorW.PrintLast YtolbhliepkcihaaGreatDoorW.PrintMore
attribute [local go_sem] max2_int min2_int max_two min_two max_three min_three max_four min_four   -- for this text's walks alone
set_option linter.unusedVariables false
set_option linter.unusedSimpArgs false
def errW : Option Int → Value
 | none => .nilIface
 | some c => .iface 0 (.int .i64 c)
theorem errW_none : errW none = .nilIface := rfl
theorem errW_some (c : Int) : errW (some c) = .iface 0 (.int .i64 c) := rfl
theorem info9 : (Tryz.prog.info? 9).map (fun i => (i.zero, i.size, i.bytes)) = some (some (.string ⟨#[]⟩), 1, 16) := by kernel_rfl
theorem info47 : (Tryz.prog.info? 47).map (fun i => (i.zero, i.size, i.bytes)) = some (some (.slice none 0 0), 1, 24) := by kernel_rfl
def rd_L1 (xs : List (List ByteArray)) (i : Int) : (List ByteArray) := xs.getD i.toNat ([] : List ByteArray)
theorem at_L1 {w : World} {A : Option Addr} {n : Nat} {xs : List (List ByteArray)} (h : Kd.C (Kd.slice 9 Kd.string) w A n xs) (i : Int) (h0 : 0 ≤ i) (h1 : i < n) : ∃ ad A0 c0, A = some ad ∧ w.cell? (ad.add i.toNat) = some (.slice A0 (rd_L1 xs i).length c0) ∧ (rd_L1 xs i).length ≤ c0 ∧ Kd.string.C w A0 (rd_L1 xs i).length (rd_L1 xs i) := by
 obtain ⟨ad, c, e, _, hK, hc0⟩ := Kd.C_get h ([] : List ByteArray) i h0 h1
 have hc : ∀ j u, c[j]? = some u → w.cell? (ad.add (i.toNat * 1 + j)) = some u := hc0
 obtain ⟨A0, c0, rfl, l0, g0⟩ := hK; exact ⟨ad, A0, c0, e, by have hq := hc 0 _ rfl; rwa [Nat.mul_one, Nat.add_zero] at hq, l0, g0⟩
end Go.Proofs.YtolbhliepkcihaaGreatDoor.QPA
end
section
namespace Go.Proofs.YtolbhliepkcihaaGreatDoor.QPA
open Go.RowKit Kinds YtolbhliepkcihaaGreatDoorW.PrintWords YtolbhliepkcihaaGreatDoorW.PrintLast YtolbhliepkcihaaGreatDoorW.PrintMore
attribute [local go_sem] max2_int min2_int max_two min_two max_three min_three max_four min_four   -- for this text's walks alone
set_option linter.unusedVariables false
set_option linter.unusedSimpArgs false
/-! ### saltuslaw18_cut: function 13 -/
mutual
def saltuslaw18_cut.l0 : Nat → List (List ByteArray) → List (List ByteArray) → Int → Int → Option ((List (List ByteArray)))
 | 0, _, _, _, _ => none
 | k + 1, x3, x13, x14, x15 => if x15 < x14 then (if 0 ≤ x15 then (if x15 < (x13.length : Int) then (if 0 ≤ (mn ((rd_L1 x13 x15).length : Int) 66) then (if (mn ((rd_L1 x13 x15).length : Int) 66) ≤ ((rd_L1 x13 x15).length : Int) then (saltuslaw18_cut.l1 k x3 ([] : List ByteArray) x13 x14 x15 ((rd_L1 x13 x15).take ((mn ((rd_L1 x13 x15).length : Int) 66) : Int).toNat) (((rd_L1 x13 x15).take ((mn ((rd_L1 x13 x15).length : Int) 66) : Int).toNat).length : Int) 0) else (none)) else (none)) else (none)) else (none)) else (some x3)
def saltuslaw18_cut.l1 : Nat → List (List ByteArray) → List ByteArray → List (List ByteArray) → Int → Int → List ByteArray → Int → Int → Option ((List (List ByteArray)))
 | 0, _, _, _, _, _, _, _, _ => none
 | k + 1, x3, x6, x13, x14, x15, x23, x24, x25 => if x25 < x24 then (if 0 ≤ x25 then (if x25 < (x23.length : Int) then (if 0 ≤ (mn ((rdOf ByteArray.empty x23 x25).size : Int) 40) then (if (mn ((rdOf ByteArray.empty x23 x25).size : Int) 40) ≤ ((rdOf ByteArray.empty x23 x25).size : Int) then (if x6.length < 8796093022208 then (saltuslaw18_cut.l1 k x3 (x6 ++ [(rdOf ByteArray.empty x23 x25).extract 0 ((mn ((rdOf ByteArray.empty x23 x25).size : Int) 40) : Int).toNat]) x13 x14 x15 x23 x24 (wrap64 (x25 + 1))) else (none)) else (none)) else (none)) else (none)) else (none)) else (if x3.length < 5864062014805 then (saltuslaw18_cut.l0 k (x3 ++ [x6]) x13 x14 (wrap64 (x15 + 1))) else (none))
end
def saltuslaw18_cut.f (k : Nat) (l0 : List (List ByteArray)) : Option ((List (List ByteArray))) := if 0 ≤ (mn (l0.length : Int) 9) then (if (mn (l0.length : Int) 9) ≤ (l0.length : Int) then ((some (l0.take ((mn (l0.length : Int) 9) : Int).toNat : List (List ByteArray))).bind fun y101 => (saltuslaw18_cut.l0 k ([] : List (List ByteArray)) y101 (y101.length : Int) 0)) else (none)) else (none)
set_option maxHeartbeats 8000000 in
set_option maxRecDepth 100000 in
theorem saltuslaw18_cut.calls (k : Nat) (A0 : Option Addr) (c0 : Nat) (l0 : List (List ByteArray)) (r : List (List ByteArray)) (w : World) (hr0 : Kd.C (Kd.slice 9 Kd.string) w A0 l0.length l0) (hc0 : l0.length ≤ c0) (h : saltuslaw18_cut.f k l0 = some r) :
  Calls Tryz.prog 13 #[.slice A0 l0.length c0] w fun e w' => ∃ v0_ : Value, e = .returned (v0_) ∧ Kd.S (Kd.slice 9 Kd.string) 47 w' w.heap.size (fun _ => True) v0_ r ∧ Below w.heap.size w w' := by
 have HR0 := qf hr0; have HC0 := qf hc0; clear hr0 hc0; have HB := qf (Below.refl w.heap.size w); have H : (if 0 ≤ (mn (l0.length : Int) 9) then (if (mn (l0.length : Int) 9) ≤ (l0.length : Int) then ((some (l0.take ((mn (l0.length : Int) 9) : Int).toNat : List (List ByteArray))).bind fun y101 => (saltuslaw18_cut.l0 k ([] : List (List ByteArray)) y101 (y101.length : Int) 0)) else (none)) else (none)) = some r := h; clear h
 obtain ⟨ji2, hji2⟩ : ∃ j_ : Int, (mn (l0.length : Int) 9) = j_ := ⟨_, rfl⟩
 replace H : (if 0 ≤ (ji2) then (if (ji2) ≤ (l0.length : Int) then ((some (l0.take ((ji2) : Int).toNat : List (List ByteArray))).bind fun y101 => (saltuslaw18_cut.l0 k ([] : List (List ByteArray)) y101 (y101.length : Int) 0)) else (none)) else (none)) = some r := by first | (rw [hji2] at H; exact H) | (simp only [hji2] at H ⊢; exact H)
 (try (have hji2h : ji2 ≤ 9 := by (rw [← hji2]; unfold mn; (repeat' split) <;> omega)))
 (try (have hji2g : ji2 ≤ 64 := by omega))
 (try (have hji2l : 0 ≤ ji2 := by (rw [← hji2]; unfold mn; (repeat' split) <;> omega)))
 (try (have hji2m : 0 ≤ ji2 := by omega))
 have hji2_ : (if 9 < (l0.length : Int) then 9 else (l0.length : Int)) = ji2 := hji2
 by_cases c3 : 0 ≤ (ji2)
 ·rw [if_pos c3] at H; have c3b0 := eq_true c3; have c3b1 := qj c3; clear c3
  by_cases c4 : (ji2) ≤ (l0.length : Int)
  ·rw [if_pos c4] at H; have c4b0 := eq_true c4; have c4b1 := qj c4; clear c4
   obtain ⟨y101, hy101⟩ : ∃ y_ : List (List ByteArray), y_ = (l0.take ((ji2) : Int).toNat) := ⟨_, rfl⟩
   replace H : (saltuslaw18_cut.l0 k ([] : List (List ByteArray)) y101 (y101.length : Int) 0) = some r := by first | (rw [hy101]; with_reducible exact H) | (have H2_ := (qv _ _).symm.trans H; rw [hy101]; with_reducible exact H2_) | (have H2_ := (qv _ _).symm.trans H; with_reducible exact H2_) | with_reducible exact H | (rw [hy101]; exact H) | exact H
   have Ny101 := qf hy101; clear hy101; have H' := qf H; clear H; have q5 : ((ji2) : Int) ≤ ((l0.length : Int) : Int) := qe (by with_reducible assumption); obtain ⟨i05, hi05, _, hsz5, _⟩ := info_parts info47; have hroom5 : l0.length ≤ c0 := HC0.out; have hC5 : Kd.C (Kd.slice 9 Kd.string) _ A0 l0.length l0 := HR0.out; have hcut5 := cut_to (P := Tryz.prog) 24 47 .i64 Tryz.underlying24 hi05 A0 l0.length c0 (ji2) (qe (by with_reducible assumption)) q5 hroom5; have hr5 := Kd.C_take (m := ((ji2) : Int).toNat) hC5 (by omega); have hy5 : y101.length = ((ji2) : Int).toNat := (by rw [Ny101.out, qw]; omega); rw [← Ny101.out] at hr5; rw [← hy5] at hcut5; have HR104 := qf hr5; have HC104 := qf (show y101.length ≤ c0 from by omega); clear hr5 hC5 hroom5 hi05 hsz5; have KY5 := qf hy5; clear hy5; replace q5 := eq_true q5
   go_enter Tryz.func13, Tryz.ntmps13
   go_wp2
   go_loopg [3, 15] k (fun kq v3 v15 w' => ∃ (x3_1 : List (List ByteArray)) (x15_1 : Int), v15 = .int .i64 x15_1 ∧ Aside0 (saltuslaw18_cut.l0 kq x3_1 y101 (y101.length : Int) x15_1 = some r) ∧ Aside0 (kq ≤ k) ∧ Aside0 (Kd.S (Kd.slice 9 Kd.string) 47 w' w.heap.size (fun _ => True) v3 x3_1) ∧ Aside0 (Below w.heap.size w w'))
   case atStart => exact ⟨(([] : List (List ByteArray))), (0), (by first | rfl | (simp; done) | (simp [*]; done)), H', ⟨Nat.le_refl _⟩, ⟨by first | exact Kd.S_nil _ _ _ _ _ | exact Kd.N_nil _ _ _ _ _ | exact Kd.V_nil _ _ _ _ _ | exact Kd.Q_nil _ _ _ _ _ | exact Kd.R_nil _ _ _ _ _⟩, ⟨by repeat (first | (with_reducible first | exact HB.out | apply qa | apply qb | apply qc) | exact HB.out)⟩⟩
   case round =>
    clear H'; (try clear c1); (try clear p2); (try clear c3); (try clear c3b0); (try clear c3b1); (try clear c4); (try clear c4b0); (try clear c4b1); (try clear q5); (try clear q5); obtain ⟨x3_1, x15_1, rfl, HA, HK1, HO_3, HB⟩ := hrel
    cases gk with
    | zero => exact absurd HA.out (by simp [saltuslaw18_cut.l0])
    | succ k1 =>
     have H := HA.out; clear HA; simp only [saltuslaw18_cut.l0] at H
     by_cases c6 : x15_1 < (y101.length : Int)
     ·rw [if_pos c6] at H; have c6b0 := qj c6; clear c6
      by_cases c7 : 0 ≤ x15_1
      ·rw [if_pos c7] at H; have c7b0 := qj c7; clear c7
       by_cases c8 : x15_1 < (y101.length : Int)
       ·rw [if_pos c8] at H; have c8b0 := qj c8; clear c8
        obtain ⟨ji9, hji9⟩ : ∃ j_ : Int, (mn ((rd_L1 y101 x15_1).length : Int) 66) = j_ := ⟨_, rfl⟩
        replace H : (if 0 ≤ (ji9) then (if (ji9) ≤ ((rd_L1 y101 x15_1).length : Int) then (saltuslaw18_cut.l1 k1 x3_1 ([] : List ByteArray) y101 (y101.length : Int) x15_1 ((rd_L1 y101 x15_1).take ((ji9) : Int).toNat) (((rd_L1 y101 x15_1).take ((ji9) : Int).toNat).length : Int) 0) else (none)) else (none)) = some r := by first | (rw [hji9] at H; exact H) | (simp only [hji9] at H ⊢; exact H)
        have hji9_ : (if 66 < ((rd_L1 y101 x15_1).length : Int) then 66 else ((rd_L1 y101 x15_1).length : Int)) = ji9 := hji9
        by_cases c10 : 0 ≤ (ji9)
        ·rw [if_pos c10] at H; have c10b0 := eq_true c10; have c10b1 := qj c10; clear c10
         by_cases c11 : (ji9) ≤ ((rd_L1 y101 x15_1).length : Int)
         ·rw [if_pos c11] at H; have c11b0 := eq_true c11; have c11b1 := qj c11; clear c11; have H' := qf H; clear H; have p105 : 0 ≤ (x15_1 : Int) := qe (by with_reducible assumption); have q105 : x15_1 < (y101.length : Int) := qe (by with_reducible assumption); obtain ⟨ad105, A105_0, c105_0, e105, hx105_0, hl105_0, hi105_0⟩ := at_L1 HR104.out x15_1 p105 q105; cases e105; replace hx105_0 := (HB.out.cell (qd w _ hx105_0)).trans hx105_0; have HR105_0 := qf hi105_0; have HC105_0 := qf hl105_0; clear hi105_0 hl105_0; replace p105 := eq_true p105; replace q105 := eq_true q105; obtain ⟨i012, hi012, _, hsz12, _⟩ := info_parts info9; obtain ⟨hcut12, hA12, hC12⟩ := print_take_of (P := Tryz.prog) Value.string (⟨#[]⟩ : ByteArray) 47 9 .i64 Tryz.underlying47 hi012 hsz12 A105_0 c105_0 (rd_L1 y101 x15_1) (ji9) (qe (by with_reducible assumption)) (qe (by with_reducible assumption)) HC105_0.out; have HR106 := qf (Kd.C_of_reads (h1 := fun _ => rfl) (hA12 _ (Kd.reads_of_C HR105_0.out))); have HC106 := qf hC12; clear hA12 hC12 hi012 hsz12
          obtain ⟨lq12, hlq12⟩ : ∃ l_, (rd_L1 y101 x15_1).take ((ji9) : Int).toNat = l_ := ⟨_, rfl⟩
          simp only [hlq12] at hcut12 HR106 HC106 H'; clear hlq12; go_wp2
          go_loopg [6, 25] k1 (fun kq v6 v25 w' => ∃ (x6_2 : List ByteArray) (x25_2 : Int), v25 = .int .i64 x25_2 ∧ Aside0 (saltuslaw18_cut.l1 kq x3_1 x6_2 y101 (y101.length : Int) x15_1 lq12 (lq12.length : Int) x25_2 = some r) ∧ Aside0 (kq ≤ k1) ∧ Aside0 (Kd.S (Kd.slice 9 Kd.string) 47 w' w.heap.size (fun k_ => some k_ ≠ (v6 : Value).ownBlock) u3 x3_1) ∧ Aside0 (Kd.R Kd.string 9 w' w.heap.size (fun _ => True) v6 x6_2) ∧ Aside0 (Below w.heap.size w w'))
          case atStart => exact ⟨(([] : List ByteArray)), (0), (by first | rfl | (simp; done) | (simp [*]; done)), H', ⟨Nat.le_refl _⟩, ⟨by (with_reducible repeat (first | apply Kd.S_alloc | apply Kd.S_drewN | apply Kd.S_drew)); exact Kd.S_mono HO_3.out (fun _ hk => (by simp [Value.ownBlock]))⟩, ⟨by first | exact Kd.R_nil _ _ _ _ _ | exact Kd.N_nil _ _ _ _ _ | exact Kd.V_nil _ _ _ _ _ | exact Kd.Q_nil _ _ _ _ _ | exact Kd.S_nil _ _ _ _ _⟩, ⟨by repeat (first | (with_reducible first | exact HB.out | apply qa | apply qb | apply qc) | exact HB.out)⟩⟩
          case round =>
           clear H'; (try clear c1); (try clear p1); (try clear q1); (try clear hx1); (try clear p2); (try clear c3); (try clear c3b0); (try clear c3b1); (try clear c4); (try clear c4b0); (try clear c4b1); (try clear q5); (try clear c6); (try clear c6b0); (try clear c7); (try clear c7b0); (try clear c8); (try clear c8b0); (try clear c10); (try clear c10b0); (try clear c10b1); (try clear p10); (try clear q10); (try clear hx10); (try clear c11); (try clear c11b0); (try clear c11b1); (try clear hx105_0); (try clear p105); (try clear p2); (try clear q105); (try clear q5); obtain ⟨x6_2, x25_2, rfl, HA, HK2, HO_3, HO_6, HB⟩ := hrel
           cases gk with
           | zero => exact absurd HA.out (by simp [saltuslaw18_cut.l1])
           | succ k2 =>
            have H := HA.out; clear HA; simp only [saltuslaw18_cut.l1] at H
            by_cases c13 : x25_2 < (lq12.length : Int)
            ·rw [if_pos c13] at H; have c13b0 := qj c13; clear c13
             by_cases c14 : 0 ≤ x25_2
             ·rw [if_pos c14] at H; have c14b0 := qj c14; clear c14
              by_cases c15 : x25_2 < (lq12.length : Int)
              ·rw [if_pos c15] at H; have c15b0 := qj c15; clear c15
               obtain ⟨ji16, hji16⟩ : ∃ j_ : Int, (mn ((rdOf ByteArray.empty lq12 x25_2).size : Int) 40) = j_ := ⟨_, rfl⟩
               replace H : (if 0 ≤ (ji16) then (if (ji16) ≤ ((rdOf ByteArray.empty lq12 x25_2).size : Int) then (if x6_2.length < 8796093022208 then (saltuslaw18_cut.l1 k2 x3_1 (x6_2 ++ [(rdOf ByteArray.empty lq12 x25_2).extract 0 ((ji16) : Int).toNat]) y101 (y101.length : Int) x15_1 lq12 (lq12.length : Int) (wrap64 (x25_2 + 1))) else (none)) else (none)) else (none)) = some r := by first | (rw [hji16] at H; exact H) | (simp only [hji16] at H ⊢; exact H)
               have hji16_ : (if 40 < ((rdOf ByteArray.empty lq12 x25_2).size : Int) then 40 else ((rdOf ByteArray.empty lq12 x25_2).size : Int)) = ji16 := hji16
               by_cases c17 : 0 ≤ (ji16)
               ·rw [if_pos c17] at H; have c17b0 := eq_true c17; have c17b1 := qj c17; clear c17
                by_cases c18 : (ji16) ≤ ((rdOf ByteArray.empty lq12 x25_2).size : Int)
                ·rw [if_pos c18] at H; have c18b0 := eq_true c18; have c18b1 := qj c18; clear c18
                 by_cases c19 : x6_2.length < 8796093022208
                 ·rw [if_pos c19] at H; have LMc19 := qf c19; clear c19
                  obtain ⟨y108, hy108⟩ : ∃ y_ : List ByteArray, y_ = (x6_2 ++ [(rdOf ByteArray.empty lq12 x25_2).extract 0 ((ji16) : Int).toNat]) := ⟨_, rfl⟩
                  replace H : (saltuslaw18_cut.l1 k2 x3_1 y108 y101 (y101.length : Int) x15_1 lq12 (lq12.length : Int) (wrap64 (x25_2 + 1))) = some r := by first | (rw [hy108]; with_reducible exact H) | (have H2_ := (qv _ _).symm.trans H; rw [hy108]; with_reducible exact H2_) | (have H2_ := (qv _ _).symm.trans H; with_reducible exact H2_) | with_reducible exact H | (rw [hy108]; exact H) | exact H
                  have Ny108 := qf hy108; clear hy108; have H' := qf H; clear H; have p107 : 0 ≤ (x25_2 : Int) := qe (by with_reducible assumption); have q107 : x25_2 < (lq12.length : Int) := qe (by with_reducible assumption); obtain ⟨ad107, e107, hx107_0⟩ := Kd.at_string HR106.out x25_2 p107 q107; cases e107; replace hx107_0 := (HB.out.cell (qd w _ hx107_0)).trans hx107_0; replace p107 := eq_true p107; replace q107 := eq_true q107
                  go_wp2_with (first | ((with_reducible refine gate_builtin (b := .append) (xs := #[.tmp 29, .tmp 35]) rfl ?_); at_builtin; refine Kd.R_append Kd.string (w0 := w) w.heap.size rfl (.tmp 29) (.tmp 35) 47 9 (.string ⟨#[]⟩) 16 rfl Tryz.underlying47 info9 rfl (by decide) (by omega) u6 x6_2 ((rdOf ByteArray.empty lq12 x25_2).extract 0 ((ji16) : Int).toNat) [.string ((rdOf ByteArray.empty lq12 x25_2).extract 0 ((ji16) : Int).toNat)] (fun _ => True) (fun _ => False) rfl rfl ?aP (fun _ hk => hk.elim) ?aF ?aO ?aB ?aS ?aL ?_; (case aP => exact rfl); (case aB => exact (by repeat (first | (with_reducible first | exact HB.out | apply qa | apply qb | apply qc) | exact HB.out))); (case aF => exact (fun _ _ => trivial)); (case aO => exact (by (with_reducible repeat (first | apply Kd.R_alloc | apply Kd.R_drewN | apply Kd.R_drew)); exact HO_6.out)); (case aS => exact (below_size (by repeat (first | (with_reducible first | exact HB.out | apply qa | apply qb | apply qc) | exact HB.out)))); (case aL => have := LMc19.out; omega); intro v109 w20 ho hb hg hat; rw [← Ny108.out] at ho; have n0_ := qf (Kd.S_after (ok := (fun _ => True)) (by (with_reducible repeat (first | apply Kd.S_alloc | apply Kd.S_drewN | apply Kd.S_drew)); exact Kd.S_mono HO_3.out (fun _ hk => ⟨trivial, hk⟩)) hg hat); have n1_ := qf (hb); have n2_ := qf (ho); clear HO_3 HB HO_6; have HO_3 := n0_; have HB := n1_; have HO110 := n2_; clear n0_ n1_ n2_ ho hb hg hat))
                  go_roundg k2
                  case measure => have := HK1.out; have := HK2.out; omega
                  case rel => exact ⟨(y108), (wrap64 (x25_2 + 1)), (by first | rfl | (simp; done) | (simp [*]; done)), H', ⟨by have := HK1.out; have := HK2.out; omega⟩, ⟨by (with_reducible repeat (first | apply Kd.S_alloc | apply Kd.S_drewN | apply Kd.S_drew)); exact Kd.S_mono HO_3.out (fun _ hk => hk.2)⟩, ⟨by (with_reducible repeat (first | apply Kd.R_alloc | apply Kd.R_drewN | apply Kd.R_drew)); exact HO110.out⟩, ⟨by repeat (first | (with_reducible first | exact HB.out | apply qa | apply qb | apply qc) | exact HB.out)⟩⟩
                 ·rw [if_neg c19] at H; exact absurd H (by simp)
                ·rw [if_neg c18] at H; exact absurd H (by simp)
               ·rw [if_neg c17] at H; exact absurd H (by simp)
              ·rw [if_neg c15] at H; exact absurd H (by simp)
             ·rw [if_neg c14] at H; exact absurd H (by simp)
            ·rw [if_neg c13] at H; have c13b0 := decide_eq_false c13; clear c13
             by_cases c21 : x3_1.length < 5864062014805
             ·rw [if_pos c21] at H; have LMc21 := qf c21; clear c21
              obtain ⟨y111, hy111⟩ : ∃ y_ : List (List ByteArray), y_ = (x3_1 ++ [x6_2]) := ⟨_, rfl⟩
              replace H : (saltuslaw18_cut.l0 k2 y111 y101 (y101.length : Int) (wrap64 (x15_1 + 1))) = some r := by first | (rw [hy111]; with_reducible exact H) | (have H2_ := (qv _ _).symm.trans H; rw [hy111]; with_reducible exact H2_) | (have H2_ := (qv _ _).symm.trans H; with_reducible exact H2_) | with_reducible exact H | (rw [hy111]; exact H) | exact H
              have Ny111 := qf hy111; clear hy111; have H' := qf H; clear H; obtain ⟨Ao23, co23, eo23⟩ := Kd.R_slice HO_6.out; subst eo23
              go_wp2_with (first | ((with_reducible refine gate_builtin (b := .append) (xs := #[.tmp 38, .tmp 40]) rfl ?_); at_builtin; refine Kd.S_append (Kd.slice 9 Kd.string) (w0 := w) w.heap.size rfl (.tmp 38) (.tmp 40) 24 47 (.slice none 0 0) 24 rfl Tryz.underlying24 info47 rfl (by decide) (by omega) u3 x3_1 x6_2 [.slice Ao23 x6_2.length co23] (fun _ => True) (fun k_ => some k_ = (.slice Ao23 x6_2.length co23 : Value).ownBlock) rfl rfl ?aP (fun k_ hk_ => ((Kd.R_mono (ok' := fun k_ => ((fun _ => True)) k_ ∧ some k_ ≠ (u3 : Value).ownBlock) (Kd.R_apart' (HO_6.out) (Kd.S_typed HO_3.out) (by decide)) (fun k_ hk => ⟨trivial, hk.2⟩))).1 k_ hk_.symm) ?aF ?aO ?aB ?aS ?aL ?_; (case aP => exact Kd.M_row (Kd.R_mono (Kd.R_tight rfl (Kd.R_mono (ok' := fun k_ => ((fun _ => True)) k_ ∧ some k_ ≠ (u3 : Value).ownBlock) (Kd.R_apart' (HO_6.out) (Kd.S_typed HO_3.out) (by decide)) (fun k_ hk => ⟨trivial, hk.2⟩))) (fun _ h_ => h_))); (case aB => exact (by repeat (first | (with_reducible first | exact HB.out | apply qa | apply qb | apply qc) | exact HB.out))); (case aF => exact (fun _ _ => trivial)); (case aO => exact (by (with_reducible repeat (first | apply Kd.S_alloc | apply Kd.S_drewN | apply Kd.S_drew)); exact Kd.S_mono HO_3.out (fun k_ hk => ⟨trivial, fun e_ => hk e_⟩))); (case aS => exact (below_size (by repeat (first | (with_reducible first | exact HB.out | apply qa | apply qb | apply qc) | exact HB.out)))); (case aL => have := LMc21.out; omega); intro v112 w22 ho hb hg hat; rw [← Ny111.out] at ho; have n0_ := qf (hb); have n1_ := qf (ho); clear HB HO_3 HO_6; have HB := n0_; have HO113 := n1_; clear n0_ n1_ ho hb hg hat))
              go_roundg k2
              case measure => have := HK1.out; have := HK2.out; omega
              case rel => exact ⟨(y111), (wrap64 (x15_1 + 1)), (by first | rfl | (simp; done) | (simp [*]; done)), H', ⟨by have := HK1.out; have := HK2.out; omega⟩, ⟨by (with_reducible repeat (first | apply Kd.S_alloc | apply Kd.S_drewN | apply Kd.S_drew)); exact HO113.out⟩, ⟨by repeat (first | (with_reducible first | exact HB.out | apply qa | apply qb | apply qc) | exact HB.out)⟩⟩
             ·rw [if_neg c21] at H; exact absurd H (by simp)
         ·rw [if_neg c11] at H; exact absurd H (by simp)
        ·rw [if_neg c10] at H; exact absurd H (by simp)
       ·rw [if_neg c8] at H; exact absurd H (by simp)
      ·rw [if_neg c7] at H; exact absurd H (by simp)
     ·rw [if_neg c6] at H; have c6b0 := decide_eq_false c6; clear c6; obtain rfl := Option.some.inj H; go_wp2; go_ret; exact ⟨_, by first | rfl | (simp [errW_none, errW_some] <;> rfl) | (simp only [← hji2]; first | rfl | (simp [errW_none, errW_some] <;> rfl)) | (simp [*, errW_none, errW_some] <;> rfl), by (with_reducible repeat (first | apply Kd.S_alloc | apply Kd.S_drewN | apply Kd.S_drew)); exact HO_3.out, by repeat (first | (with_reducible first | exact HB.out | apply qa | apply qb | apply qc) | exact HB.out)⟩
  ·rw [if_neg c4] at H; exact absurd H (by simp)
 ·rw [if_neg c3] at H; exact absurd H (by simp)
/-! ### saltuslaw18_few: function 4 -/
def saltuslaw18_few.f (k : Nat) (l0_0 : List (List ByteArray)) (l0_1 : List (List ByteArray)) : Option ((List (List ByteArray)) × (List (List ByteArray))) := (saltuslaw18_cut.f k l0_0).bind fun t116 => ((saltuslaw18_cut.f k l0_1).bind fun t119 => (some (t116, t119)))
def saltuslaw18_few.T1 : Bool × List (List Nat × List Nat) := (true, [([], []), ([0], [0]), ([1], [1]), ([], []), ([3], [3]), ([4, 2], [4]), ([2, 5], [2, 5]), ([6, 5, 0, 1, 2, 3, 4, 5, 6], [6])])
def saltuslaw18_few.B1 : List Nat := [0, 1, 3, 0, 8, 31, 63, 127]
theorem saltuslaw18_few.tab1 : rtab .any (opsOf Tryz.f4 1) = saltuslaw18_few.T1 := by kernel_rfl
theorem saltuslaw18_few.bits1 : waitsOk saltuslaw18_few.T1.2 saltuslaw18_few.B1 = true := by kernel_rfl
set_option maxHeartbeats 8000000 in
set_option maxRecDepth 100000 in
theorem saltuslaw18_few.calls (k : Nat) (A0_0 : Option Addr) (c0_0 : Nat) (l0_0 : List (List ByteArray)) (A0_1 : Option Addr) (c0_1 : Nat) (l0_1 : List (List ByteArray)) (r1 : List (List ByteArray)) (r2 : List (List ByteArray)) (w : World) (hr0_0 : Kd.C (Kd.slice 9 Kd.string) w A0_0 l0_0.length l0_0) (hc0_0 : l0_0.length ≤ c0_0) (hr0_1 : Kd.C (Kd.slice 9 Kd.string) w A0_1 l0_1.length l0_1) (hc0_1 : l0_1.length ≤ c0_1) (h : saltuslaw18_few.f k l0_0 l0_1 = some (r1, r2)) :
  Calls Tryz.prog 4 #[.agg #[.slice A0_0 l0_0.length c0_0, .slice A0_1 l0_1.length c0_1]] w fun e w' => ∃ v0_ v1_ : Value, e = .returned (.agg #[v0_, v1_]) ∧ Kd.S (Kd.slice 9 Kd.string) 47 w' w.heap.size (fun k_ => some k_ ≠ (v1_ : Value).ownBlock) v0_ r1 ∧ Kd.S (Kd.slice 9 Kd.string) 47 w' w.heap.size (fun k_ => some k_ ≠ (v0_ : Value).ownBlock) v1_ r2 ∧ Below w.heap.size w w' := by
 have hu26 := Tryz.underlying26; have HR0_0 := qf hr0_0; have HC0_0 := qf hc0_0; clear hr0_0 hc0_0; have HR0_1 := qf hr0_1; have HC0_1 := qf hc0_1; clear hr0_1 hc0_1; have HB := qf (Below.refl w.heap.size w); have H : ((saltuslaw18_cut.f k l0_0).bind fun t116 => ((saltuslaw18_cut.f k l0_1).bind fun t119 => (some (t116, t119)))) = some (r1, r2) := h; clear h; replace H := qi H; obtain ⟨t116, A20, H⟩ := H
 (try dsimp only at H)
 have A2 := qf A20; clear A20; replace H := qi H; obtain ⟨t119, A30, H⟩ := H
 (try dsimp only at H)
 have A3 := qf A30; clear A30; simp only [Option.some.injEq, Prod.mk.injEq] at H; obtain ⟨rfl, rfl⟩ := H
 go_enter Tryz.func4, Tryz.ntmps4
 try go_wp2_with (first | ((with_reducible refine gate_dst (N := 1) rfl ?_); refine box_event ?hg (N := 1) ?hd (cs := #[.slice A0_0 l0_0.length c0_0, .slice A0_1 l0_1.length c0_1]) (t := 26) ?hr ?_; (case hd => rfl); (case hg => rfl); (case hr => first | (go_simp; done) | (go_simp; rfl)); intro gb114 hg w4 hbox hb; have n0_ := qf (below_step (by repeat (first | (with_reducible first | exact HB.out | apply qa | apply qb | apply qc) | exact HB.out)) hb); have n1_ := qf (hbox); have n2_ := qf ((by rw [hg]; exact (below_size (by repeat (first | (with_reducible first | exact HB.out | apply qa | apply qb | apply qc) | exact HB.out))) : w.heap.size ≤ gb114)); have n3_ := qf ((by rw [hg]; exact (below_size (by repeat (first | (with_reducible first | exact HB.out | apply qa | apply qb | apply qc) | exact HB.out))) : w.heap.size ≤ gb114)); clear HB; have HB := n0_; have BK114 := n1_; have GW114 := n2_; have GE114 := n3_; clear n0_ n1_ n2_ n3_ hb hbox hg) | ((with_reducible refine gate_dst (N := 2) rfl ?_); refine box_event ?hg (N := 2) ?hd (cs := #[.slice none 0 0, .slice none 0 0]) (t := 26) ?hr ?_; (case hd => rfl); (case hg => rfl); (case hr => first | (go_simp; done) | (go_simp; rfl)); intro gb115 hg w5 hbox hb; have n0_ := qf (blk_below (g := gb114) (o := .cells #[.slice A0_0 l0_0.length c0_0, .slice A0_1 l0_1.length c0_1] 26 (0, 0)) (by (with_reducible repeat (first | refine blk_drewN ?_ _ | refine blk_drew ?_ | refine qh ?_ _)); exact BK114.out) hb); have n1_ := qf (below_step (by repeat (first | (with_reducible first | exact HB.out | apply qa | apply qb | apply qc | refine qg ?_ GE114.out) | exact HB.out)) hb); have n2_ := qf (hbox); have n3_ := qf ((by rw [hg]; exact (below_size (by repeat (first | (with_reducible first | exact HB.out | apply qa | apply qb | apply qc | refine qg ?_ GE114.out) | exact HB.out))) : w.heap.size ≤ gb115)); have n4_ := qf ((by rw [hg]; exact (below_size (by repeat (first | (with_reducible first | exact HB.out | apply qa | apply qb | apply qc | refine qg ?_ GE114.out) | exact HB.out))) : w.heap.size ≤ gb115)); have n5_ := qf ((by rw [hg]; exact Nat.ne_of_lt (blk_lt (g := gb114) (o := .cells #[.slice A0_0 l0_0.length c0_0, .slice A0_1 l0_1.length c0_1] 26 (0, 0)) (by (with_reducible repeat (first | refine blk_drewN ?_ _ | refine blk_drew ?_ | refine qh ?_ _)); exact BK114.out)) : gb114 ≠ gb115)); have n6_ := qf ((by rw [hg]; exact Nat.ne_of_gt (blk_lt (g := gb114) (o := .cells #[.slice A0_0 l0_0.length c0_0, .slice A0_1 l0_1.length c0_1] 26 (0, 0)) (by (with_reducible repeat (first | refine blk_drewN ?_ _ | refine blk_drew ?_ | refine qh ?_ _)); exact BK114.out)) : gb115 ≠ gb114)); clear BK114 HB; have BK114 := n0_; have HB := n1_; have BK115 := n2_; have GW115 := n3_; have GE115 := n4_; have NB114_115 := n5_; have NB115_114 := n6_; clear n0_ n1_ n2_ n3_ n4_ n5_ n6_ hb hbox hg))
 have n0_ := qf (blk_drew BK114.out); have n1_ := qf (blk_drew BK115.out); have n2_ := qf (qc HB.out); clear BK114 BK115 HB; have BK114 := n0_; have BK115 := n1_; have HB := n2_; clear n0_ n1_ n2_; refine start_ (n := 8) (S := fun w' => w'.cell? ⟨gb114, 0, none⟩ = some (.slice A0_0 l0_0.length c0_0) ∧ w'.cell? ⟨gb114, 1, none⟩ = some (.slice A0_1 l0_1.length c0_1)) (ds := []) (bm 8 0) (by kernel_rfl) rfl rfl ⟨(blk_cell BK114.out 0).trans rfl, (blk_cell BK114.out 1).trans rfl⟩ (fun hHeld => ?_); refine with_tabW saltuslaw18_few.tab1 saltuslaw18_few.bits1 (fun HT_ HW_ => ?_); generalize w5.drew = w6 at BK114 BK115 HB hHeld ⊢; refine qz 0 3 ?_ (bm 8 1) rfl rfl HT_ (by kernel_rfl) (fun _ _ _ h => h) (by rfl) ?_ ?_ ?_ ?_; rotate_left; (intro w'; go_simp; with_reducible rfl); rotate_left; (simp only [Act.put, qs, qt, qu, i64_w, i32_w]; rfl); refine qz 3 6 ?_ (bm 8 9) rfl rfl HT_ (by kernel_rfl) (fun _ _ _ h => h) (by rfl) ?_ ?_ ?_ ?_; rotate_left; (intro w'; go_simp; with_reducible rfl); rotate_left; (simp only [Act.put, qs, qt, qu, i64_w, i32_w]; rfl); refine take_ (i := 1) (N := some 4) (v := ?_) (a' := ?_) (bm 8 11) rfl rfl (take_ofW HT_.out HW_.out (by kernel_rfl)) (fun _ _ _ h => h) (Or.inl ⟨by rfl, ?_⟩) hHeld ?_ ?_; rotate_left
 ·rintro w' ⟨s0, s1⟩
  go_simp; with_reducible rfl
 rotate_left; (simp only [Act.put, qs, qt, qu, i64_w, i32_w]; rfl); refine take_ (i := 4) (N := some 7) (v := ?_) (a' := ?_) (bm 8 27) rfl rfl (take_ofW HT_.out HW_.out (by kernel_rfl)) (fun _ _ _ h => h) (Or.inl ⟨by rfl, ?_⟩) hHeld ?_ ?_; rotate_left
 ·rintro w' ⟨s0, s1⟩
  go_simp; with_reducible rfl
 rotate_left; (simp only [Act.put, qs, qt, qu, i64_w, i32_w]; rfl); refine one_ (i := 2) (N := some 5) (bm 8 31) rfl rfl (one_of HT_.out (by kernel_rfl)) (by decide) (fun K hK => ?_); refine goes_ Tryz.func13 (by kernel_rfl) rfl #[.slice A0_0 l0_0.length c0_0] (by rfl) rfl rfl (by (try simp only [List.map_toArray, List.map_cons, List.map_nil]); first | done | rfl | (simp only [List.length_drop, qw]; rfl)) ?_
 with_reducible refine (saltuslaw18_cut.calls k _ _ l0_0 t116 _ ?side1 ?side2 A2.out).mono ?_
 (case side1 => repeat (first | exact (Kd.C_below HR0_0.out HB.out) | with_reducible first | apply Kd.C_alloc | apply Kd.C_drewN | apply Kd.C_drew))
 (case side2 => exact HC0_0.out)
 rintro e w7 ⟨v117, rfl, ho0, hb⟩
 refine ⟨_, rfl, ?_⟩; have n0_ := qf (Kd.S_lower ho0 (below_size (by repeat (first | (with_reducible first | exact HB.out | apply qa | apply qb | apply qc | refine qg ?_ GE114.out | refine qg ?_ GE115.out) | exact HB.out)))); have n1_ := qf (blk_below (g := gb114) (o := .cells #[.slice A0_0 l0_0.length c0_0, .slice A0_1 l0_1.length c0_1] 26 (0, 0)) (by (with_reducible repeat (first | refine blk_drewN ?_ _ | refine blk_drew ?_ | refine qh ?_ _)); exact BK114.out) hb); have n2_ := qf (blk_below (g := gb115) (o := .cells #[.slice none 0 0, .slice none 0 0] 26 (0, 0)) (by (with_reducible repeat (first | refine blk_drewN ?_ _ | refine blk_drew ?_ | refine qh ?_ _)); exact BK115.out) hb); have n3_ := qf (below_step (by repeat (first | (with_reducible first | exact HB.out | apply qa | apply qb | apply qc | refine qg ?_ GE114.out | refine qg ?_ GE115.out) | exact HB.out)) hb); clear BK114 BK115 HB; have HO118 := n0_; have BK114 := n1_; have BK115 := n2_; have HB := n3_; clear n0_ n1_ n2_ n3_
 (try clear hb)
 (try clear hb2)
 (try clear hk)
 (try clear hi)
 (try clear ho0)
 refine hK.out _ _ ⟨(blk_cell BK114.out 0).trans rfl, (blk_cell BK114.out 1).trans rfl⟩ (fun hHeld => ?_); clear hK K; refine norm_ (a' := ?_) ?_ ?_; rotate_left
 ·show Act.put _ (some 5) _ = _
  simp only [Act.put, qs, qt, qu, i64_w, i32_w]; rfl
 refine one_ (i := 5) (N := some 8) (bm 8 63) rfl rfl (one_of HT_.out (by kernel_rfl)) (by decide) (fun K hK => ?_); refine goes_ Tryz.func13 (by kernel_rfl) rfl #[.slice A0_1 l0_1.length c0_1] (by rfl) rfl rfl (by (try simp only [List.map_toArray, List.map_cons, List.map_nil]); first | done | rfl | (simp only [List.length_drop, qw]; rfl)) ?_
 with_reducible refine (saltuslaw18_cut.calls k _ _ l0_1 t119 _ ?side1 ?side2 A3.out).mono ?_
 (case side1 => repeat (first | exact (Kd.C_below HR0_1.out HB.out) | with_reducible first | apply Kd.C_alloc | apply Kd.C_drewN | apply Kd.C_drew))
 (case side2 => exact HC0_1.out)
 rintro e w8 ⟨v120, rfl, ho0, hb⟩
 refine ⟨_, rfl, ?_⟩; have n0_ := qf (Kd.S_elder' (by (with_reducible repeat (first | apply Kd.S_alloc | apply Kd.S_drewN | apply Kd.S_drew)); exact HO118.out) (Kd.S_base ho0) hb); have n1_ := qf (Kd.S_lower (Kd.S_new' ho0 (Kd.S_lt (by (with_reducible repeat (first | apply Kd.S_alloc | apply Kd.S_drewN | apply Kd.S_drew)); exact HO118.out))) (below_size (by repeat (first | (with_reducible first | exact HB.out | apply qa | apply qb | apply qc | refine qg ?_ GE114.out | refine qg ?_ GE115.out) | exact HB.out)))); have n2_ := qf (blk_below (g := gb114) (o := .cells #[.slice A0_0 l0_0.length c0_0, .slice A0_1 l0_1.length c0_1] 26 (0, 0)) (by (with_reducible repeat (first | refine blk_drewN ?_ _ | refine blk_drew ?_ | refine qh ?_ _)); exact BK114.out) hb); have n3_ := qf (blk_below (g := gb115) (o := .cells #[.slice none 0 0, .slice none 0 0] 26 (0, 0)) (by (with_reducible repeat (first | refine blk_drewN ?_ _ | refine blk_drew ?_ | refine qh ?_ _)); exact BK115.out) hb); have n4_ := qf (below_step (by repeat (first | (with_reducible first | exact HB.out | apply qa | apply qb | apply qc | refine qg ?_ GE114.out | refine qg ?_ GE115.out) | exact HB.out)) hb); clear HO118 BK114 BK115 HB; have HO118 := n0_; have HO121 := n1_; have BK114 := n2_; have BK115 := n3_; have HB := n4_; clear n0_ n1_ n2_ n3_ n4_
 (try clear hb)
 (try clear hb2)
 (try clear hk)
 (try clear hi)
 (try clear ho0)
 obtain ⟨Ao9, co9, eo9⟩ := Kd.S_slice HO121.out
 (first | subst eo9 | (injection eo9 with f1_ f2_ f3_; have f4_ := f1_.symm; have f5_ := f3_.symm; clear f1_ f2_ f3_; subst f4_; subst f5_))
 obtain ⟨Ao10, co10, eo10⟩ := Kd.S_slice HO118.out
 (first | subst eo10 | (injection eo10 with f1_ f2_ f3_; have f4_ := f1_.symm; have f5_ := f3_.symm; clear f1_ f2_ f3_; subst f4_; subst f5_))
 refine hK.out _ _ ⟨(blk_cell BK114.out 0).trans rfl, (blk_cell BK114.out 1).trans rfl⟩ (fun hHeld => ?_); clear hK K; refine norm_ (a' := ?_) ?_ ?_; rotate_left
 ·show Act.put _ (some 8) _ = _
  simp only [Act.put, qs, qt, qu, i64_w, i32_w]; rfl
 refine qz 6 9 ?_ (bm 8 127) rfl rfl HT_ (by kernel_rfl) (fun _ _ _ h => h) (by rfl) ?_ ?_ ?_ ?_; rotate_left; (intro w'; go_simp; with_reducible rfl); rotate_left; (simp only [Act.put, qs, qt, qu, i64_w, i32_w]; rfl); refine one_ (i := 7) (N := none) (bm 8 255) rfl rfl (one_of HT_.out (by kernel_rfl)) (by decide) (fun K hK => ?_); have hs11 : w8.cell? ⟨gb115, 0, none⟩ = some (.slice none 0 0) := (blk_cell BK115.out 0).trans rfl; have hfs11 := blk_frozen BK115.out 0; have hns11_0 := NB114_115.out; have hms11_0 := NB115_114.out; have hs12 : w8.cell? ⟨gb115, 1, none⟩ = some (.slice none 0 0) := (blk_cell BK115.out 1).trans rfl; have hfs12 := blk_frozen BK115.out 1; have hns12_0 := NB114_115.out; have hms12_0 := NB115_114.out; refine skip_ (w1 := ?_) (by rfl) rfl ?_ ?_; rotate_left; (go_simp; rfl); refine hK.out _ _ ⟨((cell_far (p := ⟨gb115, _, none⟩) NB114_115.out _).trans (((cell_far (p := ⟨gb115, _, none⟩) NB114_115.out _).trans (hHeld.1)))), ((cell_far (p := ⟨gb115, _, none⟩) NB114_115.out _).trans (((cell_far (p := ⟨gb115, _, none⟩) NB114_115.out _).trans (hHeld.2))))⟩ (fun hHeld => ?_); clear hK K; refine done_ (done_of HT_.out (by kernel_rfl)) ?_
 try go_wp2
 refine bodyPost_ret (results_cell_row rfl _ _ gb115 26 #[.slice Ao10 t116.length co10, .slice Ao9 t119.length co9] (0, 0) _ rfl (by (with_reducible repeat (first | refine blk_drewN ?_ _ | refine blk_drew ?_ | refine qh ?_ _)); refine blk_put (cs := #[.slice Ao10 t116.length co10, .slice none 0 0]) ?_ 1 _ rfl; (with_reducible repeat (first | refine blk_drewN ?_ _ | refine blk_drew ?_ | refine qh ?_ _)); refine blk_put (cs := #[.slice none 0 0, .slice none 0 0]) ?_ 0 _ rfl; (with_reducible repeat (first | refine blk_drewN ?_ _ | refine blk_drew ?_ | refine qh ?_ _)); exact BK115.out) Tryz.underlying26 rfl (by kernel_rfl)) rfl ?_; exact ⟨_, _, by first | rfl | (simp [errW_none, errW_some] <;> rfl) | (simp [*, errW_none, errW_some] <;> rfl), by (with_reducible repeat (first | apply Kd.S_alloc | apply Kd.S_drewN | apply Kd.S_drew)); exact Kd.S_mono (Kd.S_far (p := ⟨gb115, 1, none⟩) (Kd.S_far (p := ⟨gb115, 0, none⟩) (Kd.S_types HO118.out BK115.out (by decide)) (fun _ hk => hk.2) (.slice Ao10 t116.length co10)) (fun _ hk => hk.2) (.slice Ao9 t119.length co9)) (fun _ hk => hk.1.2), by (with_reducible repeat (first | apply Kd.S_alloc | apply Kd.S_drewN | apply Kd.S_drew)); exact Kd.S_mono (Kd.S_far (p := ⟨gb115, 1, none⟩) (Kd.S_far (p := ⟨gb115, 0, none⟩) (Kd.S_types HO121.out BK115.out (by decide)) (fun _ hk => hk.2) (.slice Ao10 t116.length co10)) (fun _ hk => hk.2) (.slice Ao9 t119.length co9)) (fun _ hk => hk.1.2), by repeat (first | (with_reducible first | exact HB.out | apply qa | apply qb | apply qc | refine qg ?_ GE114.out | refine qg ?_ GE115.out) | exact HB.out)⟩
end Go.Proofs.YtolbhliepkcihaaGreatDoor.QPA
end
section
namespace Go.Proofs.YtolbhliepkcihaaGreatDoor.QPA
open Go.RowKit Kinds YtolbhliepkcihaaGreatDoorW.PrintWords YtolbhliepkcihaaGreatDoorW.PrintLast YtolbhliepkcihaaGreatDoorW.PrintMore
attribute [local go_sem] max2_int min2_int max_two min_two max_three min_three max_four min_four   -- for this text's walks alone
set_option linter.unusedVariables false
set_option linter.unusedSimpArgs false
/-! ### proof_Steps: function 39 -/
def proof_Steps.l0 : Nat → List ByteArray → Int → List (List ByteArray) → List (List ByteArray) → Option (List ByteArray × Int)
 | 0, _, _, _, _ => none
 | k + 1, x9, x32, x124000, x124001 => if x32 < 8 then (if 0 ≤ x32 then (if x32 < (x9.length : Int) then ((sha_Sum.f (rdOf ByteArray.empty x9 x32)).bind fun t134 => ((codec_Number.f (IntKind.u64.wrap ((IntKind.u64.wrap (x32)) + 1))).bind fun t135 => (if 1 + t135.size ≤ 9223372036854775807 then (if x32 < (x124000.length : Int) then ((strings_Join.f (rd_L1 x124000 x32) (⟨#[]⟩ : ByteArray)).bind fun t137 => (if ((⟨#[2]⟩ : ByteArray) ++ t135).size + t137.size ≤ 9223372036854775807 then (if (((⟨#[2]⟩ : ByteArray) ++ t135) ++ t137).size + t134.size ≤ 9223372036854775807 then (if x32 < (x124001.length : Int) then ((strings_Join.f (rd_L1 x124001 x32) (⟨#[]⟩ : ByteArray)).bind fun t139 => (if ((((⟨#[2]⟩ : ByteArray) ++ t135) ++ t137) ++ t134).size + t139.size ≤ 9223372036854775807 then (if x9.length < 8796093022208 then (proof_Steps.l0 k (x9 ++ [((((⟨#[2]⟩ : ByteArray) ++ t135) ++ t137) ++ t134) ++ t139]) (wrap64 (x32 + 1)) x124000 x124001) else (none)) else (none))) else (none)) else (none)) else (none))) else (none)) else (none)))) else (none)) else (none)) else (some (x9, 0))
def proof_Steps.f (k : Nat) (a0_0 : Int) (a0_1 : ByteArray) (l1_0 : List (List ByteArray)) (l1_1 : List (List ByteArray)) : Option (List ByteArray × Int) := (proof_may.f a0_0 a0_1 l1_0 l1_1).bind fun t124 => (if t124 = 0 then ((codec_Join.f (([(⟨false, a0_0, (⟨#[]⟩ : ByteArray)⟩ : S84), (⟨true, 0, a0_1⟩ : S84)] : List (S84)))).bind fun bt128 => (if 1 + bt128.1.size ≤ 9223372036854775807 then (proof_Steps.l0 k (([(⟨#[0]⟩ : ByteArray) ++ bt128.1] : List ByteArray)) 0 l1_0 l1_1) else (none))) else (some (([] : List ByteArray), t124)))
def proof_Steps.T10 : Bool × List (List Nat × List Nat) := (true, [([], []), ([], []), ([1], [1]), ([2], [2]), ([3], [3]), ([4], [4]), ([], []), ([6], [6]), ([], []), ([7, 8], [7, 8]), ([9], [9]), ([10, 4], [10]), ([5, 11], [5, 11]), ([], []), ([12, 13], [12, 13]), ([], []), ([15], [15]), ([], []), ([16, 17], [16, 17]), ([18], [18]), ([19, 11], [19]), ([14, 20], [14, 20]), ([21], [21]), ([0, 22, 20], [0, 22]), ([23, 23, 0, 1, 2, 3, 4, 5, 6, 7, 8, 9, 10, 11, 12, 13, 14, 15, 16, 17, 18, 19, 20, 21, 22, 23], [0, 23])])
def proof_Steps.B10 : List Nat := [0, 0, 2, 6, 14, 30, 0, 64, 0, 448, 960, 2014, 4094, 0, 16382, 0, 32768, 0, 229376, 491520, 1019870, 2097150, 4194302, 8388607, 16777215]
theorem proof_Steps.tab10 : rtab .any (opsOf Tryz.f39 10) = proof_Steps.T10 := by kernel_rfl
theorem proof_Steps.bits10 : waitsOk proof_Steps.T10.2 proof_Steps.B10 = true := by kernel_rfl
set_option maxHeartbeats 8000000 in
set_option maxRecDepth 100000 in
theorem proof_Steps.calls (k : Nat) (a0_0 : Int) (a0_1 : ByteArray) (A1_0 : Option Addr) (c1_0 : Nat) (l1_0 : List (List ByteArray)) (A1_1 : Option Addr) (c1_1 : Nat) (l1_1 : List (List ByteArray)) (r1 : List ByteArray) (r2 : Int) (w : World) (hr1_0 : Kd.C (Kd.slice 9 Kd.string) w A1_0 l1_0.length l1_0) (hc1_0 : l1_0.length ≤ c1_0) (hr1_1 : Kd.C (Kd.slice 9 Kd.string) w A1_1 l1_1.length l1_1) (hc1_1 : l1_1.length ≤ c1_1) (h : proof_Steps.f k a0_0 a0_1 l1_0 l1_1 = some (r1, r2)) :
  Calls Tryz.prog 39 #[.agg #[.int .u64 a0_0, .string a0_1], .agg #[.slice A1_0 l1_0.length c1_0, .slice A1_1 l1_1.length c1_1]] w fun e w' => ∃ v0_ : Value, e = .returned (.tuple #[v0_, .int .i64 r2]) ∧ Kd.R Kd.string 9 w' w.heap.size (fun _ => True) v0_ r1 ∧ Below w.heap.size w w' := by
 have hu44 := Tryz.underlying44; have hu26 := Tryz.underlying26; have hu84 := Tryz.underlying84; have HR1_0 := qf hr1_0; have HC1_0 := qf hc1_0; clear hr1_0 hc1_0; have HR1_1 := qf hr1_1; have HC1_1 := qf hc1_1; clear hr1_1 hc1_1; have HB := qf (Below.refl w.heap.size w); have H : ((proof_may.f a0_0 a0_1 l1_0 l1_1).bind fun t124 => (if t124 = 0 then ((codec_Join.f (([(⟨false, a0_0, (⟨#[]⟩ : ByteArray)⟩ : S84), (⟨true, 0, a0_1⟩ : S84)] : List (S84)))).bind fun bt128 => (if 1 + bt128.1.size ≤ 9223372036854775807 then (proof_Steps.l0 k (([(⟨#[0]⟩ : ByteArray) ++ bt128.1] : List ByteArray)) 0 l1_0 l1_1) else (none))) else (some (([] : List ByteArray), t124)))) = some (r1, r2) := h; clear h; replace H := qi H; obtain ⟨t124, A30, H⟩ := H
 (try dsimp only at H)
 have A3 := qf A30; clear A30
 by_cases c4 : t124 = 0
 ·rw [if_pos c4] at H; have c4b0 : (t124 == 0) = true := beq_iff_eq.mpr c4; have c4b1 : (t124 != 0) = false := bne_eq_false_iff_eq.mpr c4; clear c4
  obtain ⟨y125, hy125⟩ : ∃ y_ : List (S84), y_ = (([(⟨false, a0_0, (⟨#[]⟩ : ByteArray)⟩ : S84), (⟨true, 0, a0_1⟩ : S84)] : List (S84))) := ⟨_, rfl⟩
  replace H : ((codec_Join.f y125).bind fun bt128 => (if 1 + bt128.1.size ≤ 9223372036854775807 then (proof_Steps.l0 k (([(⟨#[0]⟩ : ByteArray) ++ bt128.1] : List ByteArray)) 0 l1_0 l1_1) else (none))) = some (r1, r2) := by first | (rw [hy125]; with_reducible exact H) | (have H2_ := (qv _ _).symm.trans H; rw [hy125]; with_reducible exact H2_) | (have H2_ := (qv _ _).symm.trans H; with_reducible exact H2_) | with_reducible exact H | (rw [hy125]; exact H) | exact H
  have Ny125 := qf hy125; clear hy125; replace H := qi H; obtain ⟨⟨t128, t129⟩, A50, H⟩ := H
  (try dsimp only at H)
  have A5 := qf A50; clear A50
  by_cases c6 : 1 + t128.size ≤ 9223372036854775807
  ·rw [if_pos c6] at H; have c6b0 := eq_true c6; have c6b1 := qj c6
   try have c6b2 : (9223372036854775807 < 1 + t128.size) = False := eq_false (Nat.not_lt.2 c6)
   obtain ⟨y130, hy130⟩ : ∃ y_ : List ByteArray, y_ = (([(⟨#[0]⟩ : ByteArray) ++ t128] : List ByteArray)) := ⟨_, rfl⟩
   replace H : (proof_Steps.l0 k y130 0 l1_0 l1_1) = some (r1, r2) := by first | (rw [hy130]; with_reducible exact H) | (have H2_ := (qv _ _).symm.trans H; rw [hy130]; with_reducible exact H2_) | (have H2_ := (qv _ _).symm.trans H; with_reducible exact H2_) | with_reducible exact H | (rw [hy130]; exact H) | exact H
   have Ny130 := qf hy130; clear hy130; have H' := qf H; clear H
   go_enter Tryz.func39, Tryz.ntmps39
   go_wp2_with (first | ((with_reducible refine gate_dst (N := 2) rfl ?_); refine box_event ?hg (N := 2) ?hd (cs := #[.int .u64 a0_0, .string a0_1]) (t := 44) ?hr ?_; (case hd => rfl); (case hg => rfl); (case hr => first | (go_simp; done) | (go_simp; rfl)); intro gb122 hg w7 hbox hb; have n0_ := qf (below_step (by repeat (first | (with_reducible first | exact HB.out | apply qa | apply qb | apply qc) | exact HB.out)) hb); have n1_ := qf (hbox); have n2_ := qf ((by rw [hg]; exact (below_size (by repeat (first | (with_reducible first | exact HB.out | apply qa | apply qb | apply qc) | exact HB.out))) : w.heap.size ≤ gb122)); have n3_ := qf ((by rw [hg]; exact (below_size (by repeat (first | (with_reducible first | exact HB.out | apply qa | apply qb | apply qc) | exact HB.out))) : w.heap.size ≤ gb122)); clear HB; have HB := n0_; have BK122 := n1_; have GW122 := n2_; have GE122 := n3_; clear n0_ n1_ n2_ n3_ hb hbox hg) | ((with_reducible refine gate_dst (N := 3) rfl ?_); refine box_event ?hg (N := 3) ?hd (cs := #[.slice A1_0 l1_0.length c1_0, .slice A1_1 l1_1.length c1_1]) (t := 26) ?hr ?_; (case hd => rfl); (case hg => rfl); (case hr => first | (go_simp; done) | (go_simp; rfl)); intro gb123 hg w8 hbox hb; have n0_ := qf (blk_below (g := gb122) (o := .cells #[.int .u64 a0_0, .string a0_1] 44 (0, 0)) (by (with_reducible repeat (first | refine blk_drewN ?_ _ | refine blk_drew ?_ | refine qh ?_ _)); exact BK122.out) hb); have n1_ := qf (below_step (by repeat (first | (with_reducible first | exact HB.out | apply qa | apply qb | apply qc | refine qg ?_ GE122.out) | exact HB.out)) hb); have n2_ := qf (hbox); have n3_ := qf ((by rw [hg]; exact (below_size (by repeat (first | (with_reducible first | exact HB.out | apply qa | apply qb | apply qc | refine qg ?_ GE122.out) | exact HB.out))) : w.heap.size ≤ gb123)); have n4_ := qf ((by rw [hg]; exact (below_size (by repeat (first | (with_reducible first | exact HB.out | apply qa | apply qb | apply qc | refine qg ?_ GE122.out) | exact HB.out))) : w.heap.size ≤ gb123)); have n5_ := qf ((by rw [hg]; exact Nat.ne_of_lt (blk_lt (g := gb122) (o := .cells #[.int .u64 a0_0, .string a0_1] 44 (0, 0)) (by (with_reducible repeat (first | refine blk_drewN ?_ _ | refine blk_drew ?_ | refine qh ?_ _)); exact BK122.out)) : gb122 ≠ gb123)); have n6_ := qf ((by rw [hg]; exact Nat.ne_of_gt (blk_lt (g := gb122) (o := .cells #[.int .u64 a0_0, .string a0_1] 44 (0, 0)) (by (with_reducible repeat (first | refine blk_drewN ?_ _ | refine blk_drew ?_ | refine qh ?_ _)); exact BK122.out)) : gb123 ≠ gb122)); clear BK122 HB; have BK122 := n0_; have HB := n1_; have BK123 := n2_; have GW123 := n3_; have GE123 := n4_; have NB122_123 := n5_; have NB123_122 := n6_; clear n0_ n1_ n2_ n3_ n4_ n5_ n6_ hb hbox hg; have hnb9 := NB122_123.out; have hnc9 := NB123_122.out; have hcz10_0 : w8.cell? ⟨gb122, 0, none⟩ = some (.int .u64 a0_0) := (blk_cell BK122.out 0).trans rfl; have hcz10_1 : w8.cell? ⟨gb122, 1, none⟩ = some (.string a0_1) := (blk_cell BK122.out 1).trans rfl; have hfz10_0 := blk_frozen BK122.out 0; have hfz10_1 := blk_frozen BK122.out 1; have hcz11_0 : w8.cell? ⟨gb123, 0, none⟩ = some (.slice A1_0 l1_0.length c1_0) := (blk_cell BK123.out 0).trans rfl; have hcz11_1 : w8.cell? ⟨gb123, 1, none⟩ = some (.slice A1_1 l1_1.length c1_1) := (blk_cell BK123.out 1).trans rfl; have hfz11_0 := blk_frozen BK123.out 0; have hfz11_1 := blk_frozen BK123.out 1) | ((with_reducible refine gate_callee (f := 53) rfl ?_); refine goesL_ (some 14) rfl rfl Tryz.func53 (by kernel_rfl) rfl #[.agg #[.int .u64 a0_0, .string a0_1], .agg #[.slice A1_0 l1_0.length c1_0, .slice A1_1 l1_1.length c1_1]] rfl (by (try simp only [List.map_toArray, List.map_cons, List.map_nil]); first | done | rfl | (simp only [List.length_drop, qw]; rfl)) ?_; (with_reducible refine (proof_may.calls a0_0 a0_1 _ _ l1_0 _ _ l1_1 t124 _ ?side1 ?side2 ?side3 ?side4 A3.out).mono ?_); (case side1 => repeat (first | exact (Kd.C_below HR1_0.out HB.out) | with_reducible first | apply Kd.C_alloc | apply Kd.C_drewN | apply Kd.C_drew)); (case side2 => exact HC1_0.out); (case side3 => repeat (first | exact (Kd.C_below HR1_1.out HB.out) | with_reducible first | apply Kd.C_alloc | apply Kd.C_drewN | apply Kd.C_drew)); (case side4 => exact HC1_1.out); rintro e w12 ⟨rfl, hb⟩; refine ⟨_, rfl, ?_⟩; have n0_ := qf (blk_below (g := gb122) (o := .cells #[.int .u64 a0_0, .string a0_1] 44 (0, 0)) (by (with_reducible repeat (first | refine blk_drewN ?_ _ | refine blk_drew ?_ | refine qh ?_ _)); exact BK122.out) hb); have n1_ := qf (blk_below (g := gb123) (o := .cells #[.slice A1_0 l1_0.length c1_0, .slice A1_1 l1_1.length c1_1] 26 (0, 0)) (by (with_reducible repeat (first | refine blk_drewN ?_ _ | refine blk_drew ?_ | refine qh ?_ _)); exact BK123.out) hb); have n2_ := qf (below_step (by repeat (first | (with_reducible first | exact HB.out | apply qa | apply qb | apply qc | refine qg ?_ GE122.out | refine qg ?_ GE123.out) | exact HB.out)) hb); clear BK122 BK123 HB; have BK122 := n0_; have BK123 := n1_; have HB := n2_; clear n0_ n1_ n2_; (try clear hb); have hcz13_0 : w12.cell? ⟨gb122, 0, none⟩ = some (.int .u64 a0_0) := (blk_cell BK122.out 0).trans rfl; have hcz13_1 : w12.cell? ⟨gb122, 1, none⟩ = some (.string a0_1) := (blk_cell BK122.out 1).trans rfl; have hfz13_0 := blk_frozen BK122.out 0; have hfz13_1 := blk_frozen BK122.out 1) | ((with_reducible refine gate_dst (N := 25) rfl ?_); refine Kd.R_lit k84 _ 84 ?hg (N := 25) ?hd (xs := ([(⟨false, a0_0, (⟨#[]⟩ : ByteArray)⟩ : S84), (⟨true, 0, a0_1⟩ : S84)] : List (S84))) (inner := [.bool false, .int .u64 a0_0, .string (⟨#[]⟩ : ByteArray), .bool true, .int .u64 0, .string a0_1]) (ok := fun _ => True) (okp := fun _ => True) ?hr ?hp (fun _ hk => hk) trivial (Below.refl _ _) (Nat.le_refl _) (by simp) ?_; (case hd => rfl); (case hg => rfl); (case hr => first | (go_simp; done) | (go_simp; rfl)); (case hp => exact (Reps.c3 (show Kd.M k84 _ _ _ (⟨false, a0_0, (⟨#[]⟩ : ByteArray)⟩ : S84) [.bool false, .int .u64 a0_0, .string (⟨#[]⟩ : ByteArray)] from (k84_mkM _ _ _ (⟨false, a0_0, (⟨#[]⟩ : ByteArray)⟩ : S84) )) (Reps.c3 (show Kd.M k84 _ _ _ (⟨true, 0, a0_1⟩ : S84) [.bool true, .int .u64 0, .string a0_1] from (k84_mkM _ _ _ (⟨true, 0, a0_1⟩ : S84) )) (Reps.none _ _)))); intro v126 w14 ho15 hb hg_ hnew_; clear hg_ hnew_; (first | rw [← Ny125.out] at ho15 | (simp only [Int.reduceToNat] at ho15; rw [← Ny125.out] at ho15)); have n0_ := qf (Kd.R_lower ho15 (below_size (by repeat (first | (with_reducible first | exact HB.out | apply qa | apply qb | apply qc | refine qg ?_ GE122.out | refine qg ?_ GE123.out) | exact HB.out)))); have n1_ := qf (blk_below (g := gb122) (o := .cells #[.int .u64 a0_0, .string a0_1] 44 (0, 0)) (by (with_reducible repeat (first | refine blk_drewN ?_ _ | refine blk_drew ?_ | refine qh ?_ _)); exact BK122.out) hb); have n2_ := qf (blk_below (g := gb123) (o := .cells #[.slice A1_0 l1_0.length c1_0, .slice A1_1 l1_1.length c1_1] 26 (0, 0)) (by (with_reducible repeat (first | refine blk_drewN ?_ _ | refine blk_drew ?_ | refine qh ?_ _)); exact BK123.out) hb); have n3_ := qf (below_step (by repeat (first | (with_reducible first | exact HB.out | apply qa | apply qb | apply qc | refine qg ?_ GE122.out | refine qg ?_ GE123.out) | exact HB.out)) hb); clear BK122 BK123 HB; have HO127 := n0_; have BK122 := n1_; have BK123 := n2_; have HB := n3_; clear n0_ n1_ n2_ n3_ hb ho15; obtain ⟨Ao16, co16, eo16⟩ := Kd.R_slice HO127.out; subst eo16) | ((with_reducible refine gate_callee (f := 54) rfl ?_); refine goesL_ (some 26) rfl rfl Tryz.func54 (by kernel_rfl) rfl #[.slice Ao16 y125.length co16] rfl (by (try simp only [List.map_toArray, List.map_cons, List.map_nil]); first | done | rfl | (simp only [List.length_drop, qw]; rfl)) ?_; (with_reducible refine (codec_Join.calls _ _ y125 t128 t129 _ ?side1 ?side2 A5.out).mono ?_); (case side1 => repeat (first | exact (Kd.R_reads' HO127.out).2.2 | with_reducible first | apply Kd.C_alloc | apply Kd.C_drewN | apply Kd.C_drew)); (case side2 => exact (Kd.R_reads' HO127.out).2.1); rintro e w17 ⟨rfl, hb⟩; refine ⟨_, rfl, ?_⟩; have n0_ := qf (Kd.R_below (by (with_reducible repeat (first | apply Kd.R_alloc | apply Kd.R_drewN | apply Kd.R_drew)); exact HO127.out) hb); have n1_ := qf (blk_below (g := gb122) (o := .cells #[.int .u64 a0_0, .string a0_1] 44 (0, 0)) (by (with_reducible repeat (first | refine blk_drewN ?_ _ | refine blk_drew ?_ | refine qh ?_ _)); exact BK122.out) hb); have n2_ := qf (blk_below (g := gb123) (o := .cells #[.slice A1_0 l1_0.length c1_0, .slice A1_1 l1_1.length c1_1] 26 (0, 0)) (by (with_reducible repeat (first | refine blk_drewN ?_ _ | refine blk_drew ?_ | refine qh ?_ _)); exact BK123.out) hb); have n3_ := qf (below_step (by repeat (first | (with_reducible first | exact HB.out | apply qa | apply qb | apply qc | refine qg ?_ GE122.out | refine qg ?_ GE123.out) | exact HB.out)) hb); clear HO127 BK122 BK123 HB; have HO127 := n0_; have BK122 := n1_; have BK123 := n2_; have HB := n3_; clear n0_ n1_ n2_ n3_; (try clear hb); (try clear hi)) | ((with_reducible refine gate_dst (N := 31) rfl ?_); refine Kd.R_lit Kd.string _ 9 ?hg (N := 31) ?hd (xs := ([(⟨#[0]⟩ : ByteArray) ++ t128] : List ByteArray)) (inner := [.string ((⟨#[0]⟩ : ByteArray) ++ t128)]) (ok := fun _ => True) (okp := fun _ => True) ?hr ?hp (fun _ hk => hk) trivial (Below.refl _ _) (Nat.le_refl _) (by simp) ?_; (case hd => rfl); (case hg => rfl); (case hr => first | (go_simp; done) | (go_simp; rfl)); (case hp => exact (Reps.one (show Kd.M Kd.string _ _ _ ((⟨#[0]⟩ : ByteArray) ++ t128) [.string ((⟨#[0]⟩ : ByteArray) ++ t128)] from rfl) (Reps.none _ _))); intro v131 w18 ho19 hb hg_ hnew_; clear hg_ hnew_; (first | rw [← Ny130.out] at ho19 | (simp only [Int.reduceToNat] at ho19; rw [← Ny130.out] at ho19)); have n0_ := qf (Kd.R_below (by (with_reducible repeat (first | apply Kd.R_alloc | apply Kd.R_drewN | apply Kd.R_drew)); exact HO127.out) hb); have n1_ := qf (Kd.R_lower ho19 (below_size (by repeat (first | (with_reducible first | exact HB.out | apply qa | apply qb | apply qc | refine qg ?_ GE122.out | refine qg ?_ GE123.out) | exact HB.out)))); have n2_ := qf (blk_below (g := gb122) (o := .cells #[.int .u64 a0_0, .string a0_1] 44 (0, 0)) (by (with_reducible repeat (first | refine blk_drewN ?_ _ | refine blk_drew ?_ | refine qh ?_ _)); exact BK122.out) hb); have n3_ := qf (blk_below (g := gb123) (o := .cells #[.slice A1_0 l1_0.length c1_0, .slice A1_1 l1_1.length c1_1] 26 (0, 0)) (by (with_reducible repeat (first | refine blk_drewN ?_ _ | refine blk_drew ?_ | refine qh ?_ _)); exact BK123.out) hb); have n4_ := qf (below_step (by repeat (first | (with_reducible first | exact HB.out | apply qa | apply qb | apply qc | refine qg ?_ GE122.out | refine qg ?_ GE123.out) | exact HB.out)) hb); clear HO127 BK122 BK123 HB; have HO127 := n0_; have HO132 := n1_; have BK122 := n2_; have BK123 := n3_; have HB := n4_; clear n0_ n1_ n2_ n3_ n4_ hb ho19))
   go_loopg [9, 32] k (fun kq v9 v32 w' => ∃ (x9_1 : List ByteArray) (x32_1 : Int), v32 = .int .i64 x32_1 ∧ Aside0 (proof_Steps.l0 kq x9_1 x32_1 l1_0 l1_1 = some (r1, r2)) ∧ Aside0 (kq ≤ k) ∧ Aside0 (Kd.R Kd.string 9 w' w.heap.size (fun _ => True) v9 x9_1) ∧ Aside0 (w'.heap[gb122]? = some (.cells #[.int .u64 a0_0, .string a0_1] 44 (0, 0))) ∧ Aside0 (w'.heap[gb123]? = some (.cells #[(.slice A1_0 l1_0.length c1_0), (.slice A1_1 l1_1.length c1_1)] 26 (0, 0))) ∧ Aside0 (Below w.heap.size w w'))
   case atStart => exact ⟨(y130), (0), (by first | rfl | (simp; done) | (simp [*]; done)), H', ⟨Nat.le_refl _⟩, ⟨by (with_reducible repeat (first | apply Kd.R_alloc | apply Kd.R_drewN | apply Kd.R_drew)); exact HO132.out⟩, ⟨by (with_reducible repeat (first | refine blk_drewN ?_ _ | refine blk_drew ?_ | refine qh ?_ _)); exact BK122.out⟩, ⟨by (with_reducible repeat (first | refine blk_drewN ?_ _ | refine blk_drew ?_ | refine qh ?_ _)); exact BK123.out⟩, ⟨by repeat (first | (with_reducible first | exact HB.out | apply qa | apply qb | apply qc | refine qg ?_ GE122.out | refine qg ?_ GE123.out) | exact HB.out)⟩⟩
   case round =>
    clear H'; (try clear c1); (try clear p2); (try clear c3); (try clear c4); (try clear c4b0); (try clear c4b1); (try clear c5); (try clear c6); (try clear c6b0); (try clear c6b1); (try clear c6b2); (try clear c9); (try clear hcz10_0); (try clear hcz10_1); (try clear hcz11_0); (try clear hcz11_1); (try clear hcz13_0); (try clear hcz13_1); (try clear hfz10_0); (try clear hfz10_1); (try clear hfz11_0); (try clear hfz11_1); (try clear hfz13_0); (try clear hfz13_1); obtain ⟨x9_1, x32_1, rfl, HA, HK1, HO_9, BK122, BK123, HB⟩ := hrel
    cases gk with
    | zero => exact absurd HA.out (by simp [proof_Steps.l0])
    | succ k1 =>
     have H := HA.out; clear HA; simp only [proof_Steps.l0] at H
     by_cases c20 : x32_1 < 8
     ·rw [if_pos c20] at H; have c20b0 := qj c20; clear c20
      by_cases c21 : 0 ≤ x32_1
      ·rw [if_pos c21] at H; have c21b0 := qj c21; clear c21
       by_cases c22 : x32_1 < (x9_1.length : Int)
       ·rw [if_pos c22] at H; have c22b0 := qj c22; clear c22; replace H := qi H; obtain ⟨t134, A230, H⟩ := H
        (try dsimp only at H)
        have A23 := qf A230; clear A230; replace H := qi H; obtain ⟨t135, A240, H⟩ := H
        (try dsimp only at H)
        have A24 := qf A240; clear A240
        by_cases c25 : 1 + t135.size ≤ 9223372036854775807
        ·rw [if_pos c25] at H; have c25b0 := eq_true c25; have c25b1 := qj c25
         try have c25b2 : (9223372036854775807 < 1 + t135.size) = False := eq_false (Nat.not_lt.2 c25)
         by_cases c26 : x32_1 < (l1_0.length : Int)
         ·rw [if_pos c26] at H; have c26b0 := qj c26; clear c26; replace H := qi H; obtain ⟨t137, A270, H⟩ := H
          (try dsimp only at H)
          have A27 := qf A270; clear A270
          by_cases c28 : ((⟨#[2]⟩ : ByteArray) ++ t135).size + t137.size ≤ 9223372036854775807
          ·rw [if_pos c28] at H; have c28b0 := eq_true c28; have c28b1 := qj c28
           try have c28b2 : (9223372036854775807 < ((⟨#[2]⟩ : ByteArray) ++ t135).size + t137.size) = False := eq_false (Nat.not_lt.2 c28)
           have c28m : (9223372036854775807 < 1 + t135.size + t137.size) = False := by have z0_ : (⟨#[2]⟩ : ByteArray).size = 1 := rfl; have h_ := c28; simp only [ByteArray.size_extract, ByteArray.size_append, Nat.min_self] at h_; exact eq_false (by omega)
           by_cases c29 : (((⟨#[2]⟩ : ByteArray) ++ t135) ++ t137).size + t134.size ≤ 9223372036854775807
           ·rw [if_pos c29] at H; have c29b0 := eq_true c29; have c29b1 := qj c29
            try have c29b2 : (9223372036854775807 < (((⟨#[2]⟩ : ByteArray) ++ t135) ++ t137).size + t134.size) = False := eq_false (Nat.not_lt.2 c29)
            have c29m : (9223372036854775807 < (1 + t135.size + t137.size) + t134.size) = False := by have z0_ : (⟨#[2]⟩ : ByteArray).size = 1 := rfl; have h_ := c29; simp only [ByteArray.size_extract, ByteArray.size_append, Nat.min_self] at h_; exact eq_false (by omega)
            by_cases c30 : x32_1 < (l1_1.length : Int)
            ·rw [if_pos c30] at H; have c30b0 := qj c30; clear c30; replace H := qi H; obtain ⟨t139, A310, H⟩ := H
             (try dsimp only at H)
             have A31 := qf A310; clear A310
             by_cases c32 : ((((⟨#[2]⟩ : ByteArray) ++ t135) ++ t137) ++ t134).size + t139.size ≤ 9223372036854775807
             ·rw [if_pos c32] at H; have c32b0 := eq_true c32; have c32b1 := qj c32
              try have c32b2 : (9223372036854775807 < ((((⟨#[2]⟩ : ByteArray) ++ t135) ++ t137) ++ t134).size + t139.size) = False := eq_false (Nat.not_lt.2 c32)
              have c32m : (9223372036854775807 < ((1 + t135.size + t137.size) + t134.size) + t139.size) = False := by have z0_ : (⟨#[2]⟩ : ByteArray).size = 1 := rfl; have h_ := c32; simp only [ByteArray.size_extract, ByteArray.size_append, Nat.min_self] at h_; exact eq_false (by omega)
              by_cases c33 : x9_1.length < 8796093022208
              ·rw [if_pos c33] at H; have LMc33 := qf c33; clear c33
               obtain ⟨y140, hy140⟩ : ∃ y_ : List ByteArray, y_ = (x9_1 ++ [((((⟨#[2]⟩ : ByteArray) ++ t135) ++ t137) ++ t134) ++ t139]) := ⟨_, rfl⟩
               replace H : (proof_Steps.l0 k1 y140 (wrap64 (x32_1 + 1)) l1_0 l1_1) = some (r1, r2) := by first | (rw [hy140]; with_reducible exact H) | (have H2_ := (qv _ _).symm.trans H; rw [hy140]; with_reducible exact H2_) | (have H2_ := (qv _ _).symm.trans H; with_reducible exact H2_) | with_reducible exact H | (rw [hy140]; exact H) | exact H
               have Ny140 := qf hy140; clear hy140; have H' := qf H; clear H; obtain ⟨Ao34, co34, eo34⟩ := Kd.R_slice HO_9.out; subst eo34; have p133 : 0 ≤ (x32_1 : Int) := qe (by with_reducible assumption); have q133 : x32_1 < (x9_1.length : Int) := qe (by with_reducible assumption); obtain ⟨ad133, e133, hx133_0⟩ := Kd.at_string (Kd.R_reads' HO_9.out).2.2 x32_1 p133 q133; cases e133; replace p133 := eq_true p133; replace q133 := eq_true q133
               try go_wp2_with (first | ((with_reducible refine gate_callee (f := 40) rfl ?_); refine goesL_ (some 39) rfl rfl Tryz.func40 (by kernel_rfl) rfl #[.string (rdOf ByteArray.empty x9_1 x32_1)] rfl (by (try simp only [List.map_toArray, List.map_cons, List.map_nil]); first | done | rfl | (simp only [List.length_drop, qw]; rfl)) ?_; (with_reducible refine (sha_Sum.calls (rdOf ByteArray.empty x9_1 x32_1) t134 _ A23.out).mono ?_); rintro e w35 ⟨rfl, hb⟩; refine ⟨_, rfl, ?_⟩; have n0_ := qf (Kd.R_below (by (with_reducible repeat (first | apply Kd.R_alloc | apply Kd.R_drewN | apply Kd.R_drew)); exact HO_9.out) hb); have n1_ := qf (blk_below (g := gb122) (o := .cells #[.int .u64 a0_0, .string a0_1] 44 (0, 0)) (by (with_reducible repeat (first | refine blk_drewN ?_ _ | refine blk_drew ?_ | refine qh ?_ _)); exact BK122.out) hb); have n2_ := qf (blk_below (g := gb123) (o := .cells #[.slice A1_0 l1_0.length c1_0, .slice A1_1 l1_1.length c1_1] 26 (0, 0)) (by (with_reducible repeat (first | refine blk_drewN ?_ _ | refine blk_drew ?_ | refine qh ?_ _)); exact BK123.out) hb); have n3_ := qf (below_step (by repeat (first | (with_reducible first | exact HB.out | apply qa | apply qb | apply qc | refine qg ?_ GE122.out | refine qg ?_ GE123.out) | exact HB.out)) hb); clear HO_9 BK122 BK123 HB; have HO_9 := n0_; have BK122 := n1_; have BK123 := n2_; have HB := n3_; clear n0_ n1_ n2_ n3_; (try clear hb); (try clear hi)))
               have n0_ := qf (Kd.R_drew HO_9.out); have n1_ := qf (blk_drew BK122.out); have n2_ := qf (blk_drew BK123.out); have n3_ := qf (qc HB.out); clear HO_9 BK122 BK123 HB; have HO_9 := n0_; have BK122 := n1_; have BK123 := n2_; have HB := n3_; clear n0_ n1_ n2_ n3_; have p136 : 0 ≤ (x32_1 : Int) := qe (by with_reducible assumption); have q136 : x32_1 < (l1_0.length : Int) := qe (by with_reducible assumption); obtain ⟨ad136, A136_0, c136_0, e136, hx136_0, hl136_0, hi136_0⟩ := at_L1 HR1_0.out x32_1 p136 q136; have hw136_0 := hx136_0; cases e136; replace hx136_0 := (HB.out.cell (qd w _ hx136_0)).trans hx136_0; have HR136_0 := qf hi136_0; have HC136_0 := qf hl136_0; clear hi136_0 hl136_0; replace p136 := eq_true p136; replace q136 := eq_true q136; have p138 : 0 ≤ (x32_1 : Int) := qe (by with_reducible assumption); have q138 : x32_1 < (l1_1.length : Int) := qe (by with_reducible assumption); obtain ⟨ad138, A138_0, c138_0, e138, hx138_0, hl138_0, hi138_0⟩ := at_L1 HR1_1.out x32_1 p138 q138; have hw138_0 := hx138_0; cases e138; replace hx138_0 := (HB.out.cell (qd w _ hx138_0)).trans hx138_0; have HR138_0 := qf hi138_0; have HC138_0 := qf hl138_0; clear hi138_0 hl138_0; replace p138 := eq_true p138; replace q138 := eq_true q138; refine start_ (n := 25) (S := fun w' => w'.cell? ⟨gb123, 0, none⟩ = some (.slice (some ad136) l1_0.length c1_0) ∧ w'.cell? ⟨gb123, 1, none⟩ = some (.slice (some ad138) l1_1.length c1_1) ∧ w'.cell? (ad136.add (x32_1).toNat) = some (.slice A136_0 (rd_L1 l1_0 x32_1).length c136_0) ∧ w'.cell? (ad138.add (x32_1).toNat) = some (.slice A138_0 (rd_L1 l1_1 x32_1).length c138_0)) (ds := []) (bm 25 0) (by kernel_rfl) rfl rfl ⟨(blk_cell BK123.out 0).trans rfl, (blk_cell BK123.out 1).trans rfl, ((HB.out.cell (qd w _ hw136_0)).trans hw136_0), ((HB.out.cell (qd w _ hw138_0)).trans hw138_0)⟩ (fun hHeld => ?_); refine with_tabW proof_Steps.tab10 proof_Steps.bits10 (fun HT_ HW_ => ?_); generalize w35.drew = w36 at HO_9 BK122 BK123 HB HR136_0 HR138_0 hx136_0 hx138_0 hHeld ⊢; refine qz 0 40 ?_ (bm 25 1) rfl rfl HT_ (by kernel_rfl) (fun _ _ _ h => h) (by rfl) ?_ ?_ ?_ ?_; rotate_left; (intro w'; go_simp; with_reducible rfl); rotate_left; (simp only [Act.put, qs, qt, qu, i64_w, i32_w]; rfl); refine qz 1 41 ?_ (bm 25 3) rfl rfl HT_ (by kernel_rfl) (fun _ _ _ h => h) (by rfl) ?_ ?_ ?_ ?_; rotate_left; (intro w'; go_simp; with_reducible rfl); rotate_left; (simp only [Act.put, qs, qt, qu, i64_w, i32_w]; rfl); refine qz 2 42 ?_ (bm 25 7) rfl rfl HT_ (by kernel_rfl) (fun _ _ _ h => h) (by rfl) ?_ ?_ ?_ ?_; rotate_left; (intro w'; go_simp; with_reducible rfl); rotate_left; (simp only [Act.put, qs, qt, qu, i64_w, i32_w]; rfl); refine qz 3 43 ?_ (bm 25 15) rfl rfl HT_ (by kernel_rfl) (fun _ _ _ h => h) (by rfl) ?_ ?_ ?_ ?_; rotate_left; (intro w'; go_simp; with_reducible rfl); rotate_left; (simp only [Act.put, qs, qt, qu, i64_w, i32_w]; rfl)
               refine qz 6 46 ?_ (bm 25 79) rfl rfl HT_ (by kernel_rfl) (fun _ _ _ h => h) (by rfl) ?_ ?_ ?_ ?_; rotate_left; (intro w'; go_simp; with_reducible rfl); rotate_left; (simp only [Act.put, qs, qt, qu, i64_w, i32_w]; rfl); refine qz 8 48 ?_ (bm 25 335) rfl rfl HT_ (by kernel_rfl) (fun _ _ _ h => h) (by rfl) ?_ ?_ ?_ ?_; rotate_left; (intro w'; go_simp; with_reducible rfl); rotate_left; (simp only [Act.put, qs, qt, qu, i64_w, i32_w]; rfl); refine qz 13 53 ?_ (bm 25 8527) rfl rfl HT_ (by kernel_rfl) (fun _ _ _ h => h) (by rfl) ?_ ?_ ?_ ?_; rotate_left; (intro w'; go_simp; with_reducible rfl); rotate_left; (simp only [Act.put, qs, qt, qu, i64_w, i32_w]; rfl); refine qz 15 55 ?_ (bm 25 41295) rfl rfl HT_ (by kernel_rfl) (fun _ _ _ h => h) (by rfl) ?_ ?_ ?_ ?_; rotate_left; (intro w'; go_simp; with_reducible rfl); rotate_left; (simp only [Act.put, qs, qt, qu, i64_w, i32_w]; rfl); refine qz 17 57 ?_ (bm 25 172367) rfl rfl HT_ (by kernel_rfl) (fun _ _ _ h => h) (by rfl) ?_ ?_ ?_ ?_; rotate_left; (intro w'; go_simp; with_reducible rfl); rotate_left; (simp only [Act.put, qs, qt, qu, i64_w, i32_w]; rfl); refine take_ (i := 7) (N := some 47) (v := ?_) (a' := ?_) (bm 25 172495) rfl rfl (take_ofW HT_.out HW_.out (by kernel_rfl)) (fun _ _ _ h => h) (Or.inl ⟨by rfl, ?_⟩) hHeld ?_ ?_; rotate_left
               ·rintro w' ⟨s0, s1, s2, s3⟩
                go_simp; with_reducible rfl
               rotate_left; (simp only [Act.put, qs, qt, qu, i64_w, i32_w]; rfl); refine qz 9 49 ?_ (bm 25 173007) rfl rfl HT_ (by kernel_rfl) (fun _ _ _ h => h) (by rfl) ?_ ?_ ?_ ?_; rotate_left; (intro w'; go_simp; with_reducible rfl); rotate_left; (simp only [Act.put, qs, qt, qu, i64_w, i32_w]; rfl); refine take_ (i := 10) (N := some 50) (v := ?_) (a' := ?_) (bm 25 174031) rfl rfl (take_ofW HT_.out HW_.out (by kernel_rfl)) (fun _ _ _ h => h) (Or.inl ⟨by rfl, ?_⟩) hHeld ?_ ?_; rotate_left
               ·rintro w' ⟨s0, s1, s2, s3⟩
                go_simp; with_reducible rfl
               rotate_left; (simp only [Act.put, qs, qt, qu, i64_w, i32_w]; rfl); refine take_ (i := 16) (N := some 56) (v := ?_) (a' := ?_) (bm 25 239567) rfl rfl (take_ofW HT_.out HW_.out (by kernel_rfl)) (fun _ _ _ h => h) (Or.inl ⟨by rfl, ?_⟩) hHeld ?_ ?_; rotate_left
               ·rintro w' ⟨s0, s1, s2, s3⟩
                go_simp; with_reducible rfl
               rotate_left; (simp only [Act.put, qs, qt, qu, i64_w, i32_w]; rfl); refine qz 18 58 ?_ (bm 25 501711) rfl rfl HT_ (by kernel_rfl) (fun _ _ _ h => h) (by rfl) ?_ ?_ ?_ ?_; rotate_left; (intro w'; go_simp; with_reducible rfl); rotate_left; (simp only [Act.put, qs, qt, qu, i64_w, i32_w]; rfl); refine take_ (i := 19) (N := some 59) (v := ?_) (a' := ?_) (bm 25 1025999) rfl rfl (take_ofW HT_.out HW_.out (by kernel_rfl)) (fun _ _ _ h => h) (Or.inl ⟨by rfl, ?_⟩) hHeld ?_ ?_; rotate_left
               ·rintro w' ⟨s0, s1, s2, s3⟩
                go_simp; with_reducible rfl
               rotate_left; (simp only [Act.put, qs, qt, qu, i64_w, i32_w]; rfl); refine one_ (i := 4) (N := some 44) (bm 25 1026015) rfl rfl (one_of HT_.out (by kernel_rfl)) (by decide) (fun K hK => ?_); refine goes_ Tryz.func36 (by kernel_rfl) rfl #[.int .u64 (IntKind.u64.wrap ((IntKind.u64.wrap (x32_1)) + 1))] (by rfl) rfl rfl (by (try simp only [List.map_toArray, List.map_cons, List.map_nil]); first | done | rfl | (simp only [List.length_drop, qw]; rfl)) ?_
               with_reducible refine (codec_Number.calls (IntKind.u64.wrap ((IntKind.u64.wrap (x32_1)) + 1)) t135 _ A24.out).mono ?_
               rintro e w37 ⟨rfl, hb⟩
               refine ⟨_, rfl, ?_⟩; have n0_ := qf (Kd.R_below (by (with_reducible repeat (first | apply Kd.R_alloc | apply Kd.R_drewN | apply Kd.R_drew)); exact HO_9.out) hb); have n1_ := qf (blk_below (g := gb122) (o := .cells #[.int .u64 a0_0, .string a0_1] 44 (0, 0)) (by (with_reducible repeat (first | refine blk_drewN ?_ _ | refine blk_drew ?_ | refine qh ?_ _)); exact BK122.out) hb); have n2_ := qf (blk_below (g := gb123) (o := .cells #[.slice (some ad136) l1_0.length c1_0, .slice (some ad138) l1_1.length c1_1] 26 (0, 0)) (by (with_reducible repeat (first | refine blk_drewN ?_ _ | refine blk_drew ?_ | refine qh ?_ _)); exact BK123.out) hb); have n3_ := qf (below_step (by repeat (first | (with_reducible first | exact HB.out | apply qa | apply qb | apply qc | refine qg ?_ GE122.out | refine qg ?_ GE123.out) | exact HB.out)) hb); clear HO_9 BK122 BK123 HB; have HO_9 := n0_; have BK122 := n1_; have BK123 := n2_; have HB := n3_; clear n0_ n1_ n2_ n3_
               (try clear hb)
               (try clear hb2)
               (try clear hk)
               (try clear hi)
               refine hK.out _ _ ⟨(blk_cell BK123.out 0).trans rfl, (blk_cell BK123.out 1).trans rfl, ((HB.out.cell (qd w _ hw136_0)).trans hw136_0), ((HB.out.cell (qd w _ hw138_0)).trans hw138_0)⟩ (fun hHeld => ?_); clear hK K; refine norm_ (a' := ?_) ?_ ?_; rotate_left
               ·show Act.put _ (some 44) _ = _
                simp only [Act.put, qs, qt, qu, i64_w, i32_w]; rfl
               refine qz 5 45 ?_ (bm 25 1026047) rfl rfl HT_ (by kernel_rfl) (fun _ _ _ h => h) (by rfl) ?_ ?_ ?_ ?_; rotate_left; (intro w'; go_simp; with_reducible rfl); rotate_left; (simp only [Act.put, qs, qt, qu, i64_w, i32_w]; rfl); refine one_ (i := 11) (N := some 51) (bm 25 1028095) rfl rfl (one_of HT_.out (by kernel_rfl)) (by decide) (fun K hK => ?_); refine goes_ Tryz.func55 (by kernel_rfl) rfl #[.slice A136_0 (rd_L1 l1_0 x32_1).length c136_0, .string (⟨#[]⟩ : ByteArray)] (by rfl) rfl rfl (by (try simp only [List.map_toArray, List.map_cons, List.map_nil]); first | done | rfl | (simp only [List.length_drop, qw]; rfl)) ?_
               with_reducible refine (strings_Join.calls _ _ (rd_L1 l1_0 x32_1) (⟨#[]⟩ : ByteArray) t137 _ ?side1 ?side2 A27.out).mono ?_
               (case side1 => repeat (first | exact (Kd.C_below HR136_0.out HB.out) | with_reducible first | apply Kd.C_alloc | apply Kd.C_drewN | apply Kd.C_drew))
               (case side2 => exact HC136_0.out)
               rintro e w38 ⟨rfl, hb⟩
               refine ⟨_, rfl, ?_⟩; have n0_ := qf (Kd.R_below (by (with_reducible repeat (first | apply Kd.R_alloc | apply Kd.R_drewN | apply Kd.R_drew)); exact HO_9.out) hb); have n1_ := qf (blk_below (g := gb122) (o := .cells #[.int .u64 a0_0, .string a0_1] 44 (0, 0)) (by (with_reducible repeat (first | refine blk_drewN ?_ _ | refine blk_drew ?_ | refine qh ?_ _)); exact BK122.out) hb); have n2_ := qf (blk_below (g := gb123) (o := .cells #[.slice (some ad136) l1_0.length c1_0, .slice (some ad138) l1_1.length c1_1] 26 (0, 0)) (by (with_reducible repeat (first | refine blk_drewN ?_ _ | refine blk_drew ?_ | refine qh ?_ _)); exact BK123.out) hb); have n3_ := qf (below_step (by repeat (first | (with_reducible first | exact HB.out | apply qa | apply qb | apply qc | refine qg ?_ GE122.out | refine qg ?_ GE123.out) | exact HB.out)) hb); clear HO_9 BK122 BK123 HB; have HO_9 := n0_; have BK122 := n1_; have BK123 := n2_; have HB := n3_; clear n0_ n1_ n2_ n3_
               (try clear hb)
               (try clear hb2)
               (try clear hk)
               (try clear hi)
               refine hK.out _ _ ⟨(blk_cell BK123.out 0).trans rfl, (blk_cell BK123.out 1).trans rfl, ((HB.out.cell (qd w _ hw136_0)).trans hw136_0), ((HB.out.cell (qd w _ hw138_0)).trans hw138_0)⟩ (fun hHeld => ?_); clear hK K; refine norm_ (a' := ?_) ?_ ?_; rotate_left
               ·show Act.put _ (some 51) _ = _
                simp only [Act.put, qs, qt, qu, i64_w, i32_w]; rfl
               refine qz 12 52 ?_ (bm 25 1032191) rfl rfl HT_ (by kernel_rfl) (fun _ _ _ h => h) (by rfl) ?_ ?_ ?_ ?_; rotate_left; (intro w'; go_simp; with_reducible rfl); rotate_left; (simp only [Act.put, qs, qt, qu, i64_w, i32_w]; rfl); refine qz 14 54 ?_ (bm 25 1048575) rfl rfl HT_ (by kernel_rfl) (fun _ _ _ h => h) (by rfl) ?_ ?_ ?_ ?_; rotate_left; (intro w'; go_simp; with_reducible rfl); rotate_left; (simp only [Act.put, qs, qt, qu, i64_w, i32_w]; rfl); refine one_ (i := 20) (N := some 60) (bm 25 2097151) rfl rfl (one_of HT_.out (by kernel_rfl)) (by decide) (fun K hK => ?_); refine goes_ Tryz.func55 (by kernel_rfl) rfl #[.slice A138_0 (rd_L1 l1_1 x32_1).length c138_0, .string (⟨#[]⟩ : ByteArray)] (by rfl) rfl rfl (by (try simp only [List.map_toArray, List.map_cons, List.map_nil]); first | done | rfl | (simp only [List.length_drop, qw]; rfl)) ?_
               with_reducible refine (strings_Join.calls _ _ (rd_L1 l1_1 x32_1) (⟨#[]⟩ : ByteArray) t139 _ ?side1 ?side2 A31.out).mono ?_
               (case side1 => repeat (first | exact (Kd.C_below HR138_0.out HB.out) | with_reducible first | apply Kd.C_alloc | apply Kd.C_drewN | apply Kd.C_drew))
               (case side2 => exact HC138_0.out)
               rintro e w39 ⟨rfl, hb⟩
               refine ⟨_, rfl, ?_⟩; have n0_ := qf (Kd.R_below (by (with_reducible repeat (first | apply Kd.R_alloc | apply Kd.R_drewN | apply Kd.R_drew)); exact HO_9.out) hb); have n1_ := qf (blk_below (g := gb122) (o := .cells #[.int .u64 a0_0, .string a0_1] 44 (0, 0)) (by (with_reducible repeat (first | refine blk_drewN ?_ _ | refine blk_drew ?_ | refine qh ?_ _)); exact BK122.out) hb); have n2_ := qf (blk_below (g := gb123) (o := .cells #[.slice (some ad136) l1_0.length c1_0, .slice (some ad138) l1_1.length c1_1] 26 (0, 0)) (by (with_reducible repeat (first | refine blk_drewN ?_ _ | refine blk_drew ?_ | refine qh ?_ _)); exact BK123.out) hb); have n3_ := qf (below_step (by repeat (first | (with_reducible first | exact HB.out | apply qa | apply qb | apply qc | refine qg ?_ GE122.out | refine qg ?_ GE123.out) | exact HB.out)) hb); clear HO_9 BK122 BK123 HB; have HO_9 := n0_; have BK122 := n1_; have BK123 := n2_; have HB := n3_; clear n0_ n1_ n2_ n3_
               (try clear hb)
               (try clear hb2)
               (try clear hk)
               (try clear hi)
               refine hK.out _ _ ⟨(blk_cell BK123.out 0).trans rfl, (blk_cell BK123.out 1).trans rfl, ((HB.out.cell (qd w _ hw136_0)).trans hw136_0), ((HB.out.cell (qd w _ hw138_0)).trans hw138_0)⟩ (fun hHeld => ?_); clear hK K; refine norm_ (a' := ?_) ?_ ?_; rotate_left
               ·show Act.put _ (some 60) _ = _
                simp only [Act.put, qs, qt, qu, i64_w, i32_w]; rfl
               refine qz 21 61 ?_ (bm 25 4194303) rfl rfl HT_ (by kernel_rfl) (fun _ _ _ h => h) (by rfl) ?_ ?_ ?_ ?_; rotate_left; (intro w'; go_simp; with_reducible rfl); rotate_left; (simp only [Act.put, qs, qt, qu, i64_w, i32_w]; rfl); refine one_ (i := 22) (N := some 62) (bm 25 8388607) rfl rfl (one_of HT_.out (by kernel_rfl)) (by decide) (fun K hK => ?_); refine value_ (w1 := ?_) (v := ?_) (by rfl) rfl ?_ ?_; rotate_left 2
               ·go_simp
                constructor
                (rfl); (rfl)
               refine hK.out _ _ ⟨(blk_cell (qh BK123.out _) 0).trans rfl, (blk_cell (qh BK123.out _) 1).trans rfl, (World.cell?_alloc_lt _ _ _ (qd _ _ (((HB.out.cell (qd w _ hw136_0)).trans hw136_0)))).trans (((HB.out.cell (qd w _ hw136_0)).trans hw136_0)), (World.cell?_alloc_lt _ _ _ (qd _ _ (((HB.out.cell (qd w _ hw138_0)).trans hw138_0)))).trans (((HB.out.cell (qd w _ hw138_0)).trans hw138_0))⟩ (fun hHeld => ?_); clear hK K; refine norm_ (a' := ?_) ?_ ?_; rotate_left
               ·show Act.put _ (some 62) _ = _
                simp only [Act.put, qs, qt, qu, i64_w, i32_w]; rfl
               refine one_ (i := 23) (N := some 63) (bm 25 16777215) rfl rfl (one_of HT_.out (by kernel_rfl)) (by decide) (fun K hK => ?_); refine Kd.R_append_step Kd.string (w0 := w) w.heap.size (by rfl) (.tmp 40) (.tmp 62) 47 9 (.string ⟨#[]⟩) 16 rfl Tryz.underlying47 info9 rfl (by decide) (by omega) (.slice (some ad133) x9_1.length co34) x9_1 (((((⟨#[2]⟩ : ByteArray) ++ t135) ++ t137) ++ t134) ++ t139) [.string (((((⟨#[2]⟩ : ByteArray) ++ t135) ++ t137) ++ t134) ++ t139)] (fun _ => True) (fun _ => False) rfl rfl ?aP (fun _ hk => hk.elim) ?aF ?aO ?aB ?aS ?aL ?_
               (case aP => exact rfl)
               (case aB => exact (by repeat (first | (with_reducible first | exact HB.out | apply qa | apply qb | apply qc | refine qg ?_ GE122.out | refine qg ?_ GE123.out) | exact HB.out)))
               (case aF => exact (fun _ _ => trivial))
               (case aO => exact (by (with_reducible repeat (first | apply Kd.R_alloc | apply Kd.R_drewN | apply Kd.R_drew)); exact HO_9.out))
               (case aS => exact (below_size (by repeat (first | (with_reducible first | exact HB.out | apply qa | apply qb | apply qc | refine qg ?_ GE122.out | refine qg ?_ GE123.out) | exact HB.out))))
               (case aL => have := LMc33.out; omega)
               intro v141 w40 ho hb hg hat; rw [← Ny140.out] at ho; have n0_ := qf (blk_grown (g := gb122) (o := .cells #[.int .u64 a0_0, .string a0_1] 44 (0, 0)) (by (with_reducible repeat (first | refine blk_drewN ?_ _ | refine blk_drew ?_ | refine qh ?_ _)); exact BK122.out) hg (Kd.R_ne HO_9.out BK122.out (by decide))); have n1_ := qf (blk_grown (g := gb123) (o := .cells #[.slice (some ad136) l1_0.length c1_0, .slice (some ad138) l1_1.length c1_1] 26 (0, 0)) (by (with_reducible repeat (first | refine blk_drewN ?_ _ | refine blk_drew ?_ | refine qh ?_ _)); exact BK123.out) hg (Kd.R_ne HO_9.out BK123.out (by decide))); have n2_ := qf (hb); have n3_ := qf (ho); clear BK122 BK123 HB HO_9; have BK122 := n0_; have BK123 := n1_; have HB := n2_; have HO142 := n3_; clear n0_ n1_ n2_ n3_ ho hb hg hat; refine hK.out _ _ ⟨(blk_cell BK123.out 0).trans rfl, (blk_cell BK123.out 1).trans rfl, ((HB.out.cell (qd w _ hw136_0)).trans hw136_0), ((HB.out.cell (qd w _ hw138_0)).trans hw138_0)⟩ (fun hHeld => ?_); clear hK K; refine norm_ (a' := ?_) ?_ ?_; rotate_left
               ·show Act.put _ (some 63) _ = _
                simp only [Act.put, qs, qt, qu, i64_w, i32_w]; rfl
               refine qz 24 9 ?_ (bm 25 33554431) rfl rfl HT_ (by kernel_rfl) (fun _ _ _ h => h) (by rfl) ?_ ?_ ?_ ?_; rotate_left; (intro w'; go_simp; with_reducible rfl); rotate_left; (simp only [Act.put, qs, qt, qu, i64_w, i32_w]; rfl); refine done_ (done_of HT_.out (by kernel_rfl)) ?_
               try go_wp2
               go_roundg k1
               case measure => have := HK1.out; omega
               case rel => exact ⟨(y140), (wrap64 (x32_1 + 1)), (by first | rfl | (simp; done) | (simp [*]; done)), H', ⟨by have := HK1.out; omega⟩, ⟨by (with_reducible repeat (first | apply Kd.R_alloc | apply Kd.R_drewN | apply Kd.R_drew)); exact HO142.out⟩, ⟨by (with_reducible repeat (first | refine blk_drewN ?_ _ | refine blk_drew ?_ | refine qh ?_ _)); exact BK122.out⟩, ⟨by (with_reducible repeat (first | refine blk_drewN ?_ _ | refine blk_drew ?_ | refine qh ?_ _)); exact BK123.out⟩, ⟨by repeat (first | (with_reducible first | exact HB.out | apply qa | apply qb | apply qc | refine qg ?_ GE122.out | refine qg ?_ GE123.out) | exact HB.out)⟩⟩
              ·rw [if_neg c33] at H; exact absurd H (by simp)
             ·rw [if_neg c32] at H; exact absurd H (by simp)
            ·rw [if_neg c30] at H; exact absurd H (by simp)
           ·rw [if_neg c29] at H; exact absurd H (by simp)
          ·rw [if_neg c28] at H; exact absurd H (by simp)
         ·rw [if_neg c26] at H; exact absurd H (by simp)
        ·rw [if_neg c25] at H; exact absurd H (by simp)
       ·rw [if_neg c22] at H; exact absurd H (by simp)
      ·rw [if_neg c21] at H; exact absurd H (by simp)
     ·rw [if_neg c20] at H; have c20b0 := decide_eq_false c20; clear c20; simp only [Option.some.injEq, Prod.mk.injEq] at H; obtain ⟨rfl, rfl⟩ := H; go_wp2
      go_ret2
      exact ⟨_, by first | rfl | (simp [errW_none, errW_some] <;> rfl) | (simp [*, errW_none, errW_some] <;> rfl), by (with_reducible repeat (first | apply Kd.R_alloc | apply Kd.R_drewN | apply Kd.R_drew)); exact HO_9.out, by repeat (first | (with_reducible first | exact HB.out | apply qa | apply qb | apply qc | refine qg ?_ GE122.out | refine qg ?_ GE123.out) | exact HB.out)⟩
  ·rw [if_neg c6] at H; exact absurd H (by simp)
 ·rw [if_neg c4] at H; have c4b0 : (t124 == 0) = false := beq_eq_false_iff_ne.mpr c4; have c4b1 : (t124 != 0) = true := bne_iff_ne.mpr c4; simp only [Option.some.injEq, Prod.mk.injEq] at H; obtain ⟨rfl, rfl⟩ := H
  go_enter Tryz.func39, Tryz.ntmps39
  go_wp2_with (first | ((with_reducible refine gate_dst (N := 2) rfl ?_); refine box_event ?hg (N := 2) ?hd (cs := #[.int .u64 a0_0, .string a0_1]) (t := 44) ?hr ?_; (case hd => rfl); (case hg => rfl); (case hr => first | (go_simp; done) | (go_simp; rfl)); intro gb122 hg w41 hbox hb; have n0_ := qf (below_step (by repeat (first | (with_reducible first | exact HB.out | apply qa | apply qb | apply qc) | exact HB.out)) hb); have n1_ := qf (hbox); have n2_ := qf ((by rw [hg]; exact (below_size (by repeat (first | (with_reducible first | exact HB.out | apply qa | apply qb | apply qc) | exact HB.out))) : w.heap.size ≤ gb122)); have n3_ := qf ((by rw [hg]; exact (below_size (by repeat (first | (with_reducible first | exact HB.out | apply qa | apply qb | apply qc) | exact HB.out))) : w.heap.size ≤ gb122)); clear HB; have HB := n0_; have BK122 := n1_; have GW122 := n2_; have GE122 := n3_; clear n0_ n1_ n2_ n3_ hb hbox hg) | ((with_reducible refine gate_dst (N := 3) rfl ?_); refine box_event ?hg (N := 3) ?hd (cs := #[.slice A1_0 l1_0.length c1_0, .slice A1_1 l1_1.length c1_1]) (t := 26) ?hr ?_; (case hd => rfl); (case hg => rfl); (case hr => first | (go_simp; done) | (go_simp; rfl)); intro gb123 hg w42 hbox hb; have n0_ := qf (blk_below (g := gb122) (o := .cells #[.int .u64 a0_0, .string a0_1] 44 (0, 0)) (by (with_reducible repeat (first | refine blk_drewN ?_ _ | refine blk_drew ?_ | refine qh ?_ _)); exact BK122.out) hb); have n1_ := qf (below_step (by repeat (first | (with_reducible first | exact HB.out | apply qa | apply qb | apply qc | refine qg ?_ GE122.out) | exact HB.out)) hb); have n2_ := qf (hbox); have n3_ := qf ((by rw [hg]; exact (below_size (by repeat (first | (with_reducible first | exact HB.out | apply qa | apply qb | apply qc | refine qg ?_ GE122.out) | exact HB.out))) : w.heap.size ≤ gb123)); have n4_ := qf ((by rw [hg]; exact (below_size (by repeat (first | (with_reducible first | exact HB.out | apply qa | apply qb | apply qc | refine qg ?_ GE122.out) | exact HB.out))) : w.heap.size ≤ gb123)); have n5_ := qf ((by rw [hg]; exact Nat.ne_of_lt (blk_lt (g := gb122) (o := .cells #[.int .u64 a0_0, .string a0_1] 44 (0, 0)) (by (with_reducible repeat (first | refine blk_drewN ?_ _ | refine blk_drew ?_ | refine qh ?_ _)); exact BK122.out)) : gb122 ≠ gb123)); have n6_ := qf ((by rw [hg]; exact Nat.ne_of_gt (blk_lt (g := gb122) (o := .cells #[.int .u64 a0_0, .string a0_1] 44 (0, 0)) (by (with_reducible repeat (first | refine blk_drewN ?_ _ | refine blk_drew ?_ | refine qh ?_ _)); exact BK122.out)) : gb123 ≠ gb122)); clear BK122 HB; have BK122 := n0_; have HB := n1_; have BK123 := n2_; have GW123 := n3_; have GE123 := n4_; have NB122_123 := n5_; have NB123_122 := n6_; clear n0_ n1_ n2_ n3_ n4_ n5_ n6_ hb hbox hg; have hnb43 := NB122_123.out; have hnc43 := NB123_122.out; have hcz44_0 : w42.cell? ⟨gb122, 0, none⟩ = some (.int .u64 a0_0) := (blk_cell BK122.out 0).trans rfl; have hcz44_1 : w42.cell? ⟨gb122, 1, none⟩ = some (.string a0_1) := (blk_cell BK122.out 1).trans rfl; have hfz44_0 := blk_frozen BK122.out 0; have hfz44_1 := blk_frozen BK122.out 1; have hcz45_0 : w42.cell? ⟨gb123, 0, none⟩ = some (.slice A1_0 l1_0.length c1_0) := (blk_cell BK123.out 0).trans rfl; have hcz45_1 : w42.cell? ⟨gb123, 1, none⟩ = some (.slice A1_1 l1_1.length c1_1) := (blk_cell BK123.out 1).trans rfl; have hfz45_0 := blk_frozen BK123.out 0; have hfz45_1 := blk_frozen BK123.out 1) | ((with_reducible refine gate_callee (f := 53) rfl ?_); refine goesL_ (some 14) rfl rfl Tryz.func53 (by kernel_rfl) rfl #[.agg #[.int .u64 a0_0, .string a0_1], .agg #[.slice A1_0 l1_0.length c1_0, .slice A1_1 l1_1.length c1_1]] rfl (by (try simp only [List.map_toArray, List.map_cons, List.map_nil]); first | done | rfl | (simp only [List.length_drop, qw]; rfl)) ?_; (with_reducible refine (proof_may.calls a0_0 a0_1 _ _ l1_0 _ _ l1_1 t124 _ ?side1 ?side2 ?side3 ?side4 A3.out).mono ?_); (case side1 => repeat (first | exact (Kd.C_below HR1_0.out HB.out) | with_reducible first | apply Kd.C_alloc | apply Kd.C_drewN | apply Kd.C_drew)); (case side2 => exact HC1_0.out); (case side3 => repeat (first | exact (Kd.C_below HR1_1.out HB.out) | with_reducible first | apply Kd.C_alloc | apply Kd.C_drewN | apply Kd.C_drew)); (case side4 => exact HC1_1.out); rintro e w46 ⟨rfl, hb⟩; refine ⟨_, rfl, ?_⟩; have n0_ := qf (blk_below (g := gb122) (o := .cells #[.int .u64 a0_0, .string a0_1] 44 (0, 0)) (by (with_reducible repeat (first | refine blk_drewN ?_ _ | refine blk_drew ?_ | refine qh ?_ _)); exact BK122.out) hb); have n1_ := qf (blk_below (g := gb123) (o := .cells #[.slice A1_0 l1_0.length c1_0, .slice A1_1 l1_1.length c1_1] 26 (0, 0)) (by (with_reducible repeat (first | refine blk_drewN ?_ _ | refine blk_drew ?_ | refine qh ?_ _)); exact BK123.out) hb); have n2_ := qf (below_step (by repeat (first | (with_reducible first | exact HB.out | apply qa | apply qb | apply qc | refine qg ?_ GE122.out | refine qg ?_ GE123.out) | exact HB.out)) hb); clear BK122 BK123 HB; have BK122 := n0_; have BK123 := n1_; have HB := n2_; clear n0_ n1_ n2_; (try clear hb); (try clear hi)))
  go_ret2
  exact ⟨_, by first | rfl | (simp [errW_none, errW_some] <;> rfl) | (simp [*, errW_none, errW_some] <;> rfl), by first | exact Kd.R_nil _ _ _ _ _ | exact Kd.N_nil _ _ _ _ _ | exact Kd.V_nil _ _ _ _ _ | exact Kd.Q_nil _ _ _ _ _ | exact Kd.S_nil _ _ _ _ _, by repeat (first | (with_reducible first | exact HB.out | apply qa | apply qb | apply qc | refine qg ?_ GE122.out | refine qg ?_ GE123.out) | exact HB.out)⟩
/-! ### proof_Check: function 28 -/
def proof_Check.f (k : Nat) (a0 : ByteArray) (a1_0 : Int) (a1_1 : ByteArray) (l2_0 : List (List ByteArray)) (l2_1 : List (List ByteArray)) : Option (Bool × Int) := (proof_Steps.f k a1_0 a1_1 l2_0 l2_1).bind fun bt145 => (if bt145.2 = 0 then (if 0 ≤ (wrap64 ((bt145.1.length : Int) - 1)) then (if (wrap64 ((bt145.1.length : Int) - 1)) < (bt145.1.length : Int) then ((sha_Sum.f (rdOf ByteArray.empty bt145.1 (wrap64 ((bt145.1.length : Int) - 1)))).bind fun t150 => (some ((t150.toList == a0.toList), 0))) else (none)) else (none)) else (some (false, bt145.2)))
set_option maxHeartbeats 8000000 in
set_option maxRecDepth 100000 in
theorem proof_Check.calls (k : Nat) (a0 : ByteArray) (a1_0 : Int) (a1_1 : ByteArray) (A2_0 : Option Addr) (c2_0 : Nat) (l2_0 : List (List ByteArray)) (A2_1 : Option Addr) (c2_1 : Nat) (l2_1 : List (List ByteArray)) (r1 : Bool) (r2 : Int) (w : World) (hr2_0 : Kd.C (Kd.slice 9 Kd.string) w A2_0 l2_0.length l2_0) (hc2_0 : l2_0.length ≤ c2_0) (hr2_1 : Kd.C (Kd.slice 9 Kd.string) w A2_1 l2_1.length l2_1) (hc2_1 : l2_1.length ≤ c2_1) (h : proof_Check.f k a0 a1_0 a1_1 l2_0 l2_1 = some (r1, r2)) :
  Calls Tryz.prog 28 #[.string a0, .agg #[.int .u64 a1_0, .string a1_1], .agg #[.slice A2_0 l2_0.length c2_0, .slice A2_1 l2_1.length c2_1]] w fun e w' => e = .returned (.tuple #[.bool r1, .int .i64 r2]) ∧ Below w.heap.size w w' := by
 have hu44 := Tryz.underlying44; have hu26 := Tryz.underlying26; have HR2_0 := qf hr2_0; have HC2_0 := qf hc2_0; clear hr2_0 hc2_0; have HR2_1 := qf hr2_1; have HC2_1 := qf hc2_1; clear hr2_1 hc2_1; have HB := qf (Below.refl w.heap.size w); have H : ((proof_Steps.f k a1_0 a1_1 l2_0 l2_1).bind fun bt145 => (if bt145.2 = 0 then (if 0 ≤ (wrap64 ((bt145.1.length : Int) - 1)) then (if (wrap64 ((bt145.1.length : Int) - 1)) < (bt145.1.length : Int) then ((sha_Sum.f (rdOf ByteArray.empty bt145.1 (wrap64 ((bt145.1.length : Int) - 1)))).bind fun t150 => (some ((t150.toList == a0.toList), 0))) else (none)) else (none)) else (some (false, bt145.2)))) = some (r1, r2) := h; clear h; replace H := qi H; obtain ⟨⟨t145, t148⟩, A40, H⟩ := H
 (try dsimp only at H)
 have A4 := qf A40; clear A40
 by_cases c5 : t148 = 0
 ·rw [if_pos c5] at H; have c5b0 : (t148 == 0) = true := beq_iff_eq.mpr c5; have c5b1 : (t148 != 0) = false := bne_eq_false_iff_eq.mpr c5; clear c5
  obtain ⟨ji6, hji6⟩ : ∃ j_ : Int, (wrap64 ((t145.length : Int) - 1)) = j_ := ⟨_, rfl⟩
  replace H : (if 0 ≤ (ji6) then (if (ji6) < (t145.length : Int) then ((sha_Sum.f (rdOf ByteArray.empty t145 (ji6))).bind fun t150 => (some ((t150.toList == a0.toList), 0))) else (none)) else (none)) = some (r1, r2) := by first | (rw [hji6] at H; exact H) | (simp only [hji6] at H ⊢; exact H)
  (try rw [hji6] at A4)
  have hji6w : (IntKind.i64.wrap ((t145.length : Int) - 1)) = ji6 := (i64_w _).trans hji6
  by_cases c7 : 0 ≤ (ji6)
  ·rw [if_pos c7] at H; have c7b0 := qj c7; clear c7
   by_cases c8 : (ji6) < (t145.length : Int)
   ·rw [if_pos c8] at H; have c8b0 := qj c8; clear c8; replace H := qi H; obtain ⟨t150, A90, H⟩ := H
    (try dsimp only at H)
    have A9 := qf A90; clear A90; simp only [Option.some.injEq, Prod.mk.injEq] at H; obtain ⟨rfl, rfl⟩ := H
    go_enter Tryz.func28, Tryz.ntmps28
    go_wp2_with (first | ((with_reducible refine gate_dst (N := 4) rfl ?_); refine box_event ?hg (N := 4) ?hd (cs := #[.int .u64 a1_0, .string a1_1]) (t := 44) ?hr ?_; (case hd => rfl); (case hg => rfl); (case hr => first | (go_simp; done) | (go_simp; rfl)); intro gb143 hg w10 hbox hb; have n0_ := qf (below_step (by repeat (first | (with_reducible first | exact HB.out | apply qa | apply qb | apply qc) | exact HB.out)) hb); have n1_ := qf (hbox); have n2_ := qf ((by rw [hg]; exact (below_size (by repeat (first | (with_reducible first | exact HB.out | apply qa | apply qb | apply qc) | exact HB.out))) : w.heap.size ≤ gb143)); have n3_ := qf ((by rw [hg]; exact (below_size (by repeat (first | (with_reducible first | exact HB.out | apply qa | apply qb | apply qc) | exact HB.out))) : w.heap.size ≤ gb143)); clear HB; have HB := n0_; have BK143 := n1_; have GW143 := n2_; have GE143 := n3_; clear n0_ n1_ n2_ n3_ hb hbox hg) | ((with_reducible refine gate_dst (N := 5) rfl ?_); refine box_event ?hg (N := 5) ?hd (cs := #[.slice A2_0 l2_0.length c2_0, .slice A2_1 l2_1.length c2_1]) (t := 26) ?hr ?_; (case hd => rfl); (case hg => rfl); (case hr => first | (go_simp; done) | (go_simp; rfl)); intro gb144 hg w11 hbox hb; have n0_ := qf (blk_below (g := gb143) (o := .cells #[.int .u64 a1_0, .string a1_1] 44 (0, 0)) (by (with_reducible repeat (first | refine blk_drewN ?_ _ | refine blk_drew ?_ | refine qh ?_ _)); exact BK143.out) hb); have n1_ := qf (below_step (by repeat (first | (with_reducible first | exact HB.out | apply qa | apply qb | apply qc | refine qg ?_ GE143.out) | exact HB.out)) hb); have n2_ := qf (hbox); have n3_ := qf ((by rw [hg]; exact (below_size (by repeat (first | (with_reducible first | exact HB.out | apply qa | apply qb | apply qc | refine qg ?_ GE143.out) | exact HB.out))) : w.heap.size ≤ gb144)); have n4_ := qf ((by rw [hg]; exact (below_size (by repeat (first | (with_reducible first | exact HB.out | apply qa | apply qb | apply qc | refine qg ?_ GE143.out) | exact HB.out))) : w.heap.size ≤ gb144)); have n5_ := qf ((by rw [hg]; exact Nat.ne_of_lt (blk_lt (g := gb143) (o := .cells #[.int .u64 a1_0, .string a1_1] 44 (0, 0)) (by (with_reducible repeat (first | refine blk_drewN ?_ _ | refine blk_drew ?_ | refine qh ?_ _)); exact BK143.out)) : gb143 ≠ gb144)); have n6_ := qf ((by rw [hg]; exact Nat.ne_of_gt (blk_lt (g := gb143) (o := .cells #[.int .u64 a1_0, .string a1_1] 44 (0, 0)) (by (with_reducible repeat (first | refine blk_drewN ?_ _ | refine blk_drew ?_ | refine qh ?_ _)); exact BK143.out)) : gb144 ≠ gb143)); clear BK143 HB; have BK143 := n0_; have HB := n1_; have BK144 := n2_; have GW144 := n3_; have GE144 := n4_; have NB143_144 := n5_; have NB144_143 := n6_; clear n0_ n1_ n2_ n3_ n4_ n5_ n6_ hb hbox hg; have hnb12 := NB143_144.out; have hnc12 := NB144_143.out; have hcz13_0 : w11.cell? ⟨gb143, 0, none⟩ = some (.int .u64 a1_0) := (blk_cell BK143.out 0).trans rfl; have hcz13_1 : w11.cell? ⟨gb143, 1, none⟩ = some (.string a1_1) := (blk_cell BK143.out 1).trans rfl; have hfz13_0 := blk_frozen BK143.out 0; have hfz13_1 := blk_frozen BK143.out 1; have hcz14_0 : w11.cell? ⟨gb144, 0, none⟩ = some (.slice A2_0 l2_0.length c2_0) := (blk_cell BK144.out 0).trans rfl; have hcz14_1 : w11.cell? ⟨gb144, 1, none⟩ = some (.slice A2_1 l2_1.length c2_1) := (blk_cell BK144.out 1).trans rfl; have hfz14_0 := blk_frozen BK144.out 0; have hfz14_1 := blk_frozen BK144.out 1) | ((with_reducible refine gate_callee (f := 39) rfl ?_); refine goesL_ (some 13) rfl rfl Tryz.func39 (by kernel_rfl) rfl #[.agg #[.int .u64 a1_0, .string a1_1], .agg #[.slice A2_0 l2_0.length c2_0, .slice A2_1 l2_1.length c2_1]] rfl (by (try simp only [List.map_toArray, List.map_cons, List.map_nil]); first | done | rfl | (simp only [List.length_drop, qw]; rfl)) ?_; (with_reducible refine (proof_Steps.calls k a1_0 a1_1 _ _ l2_0 _ _ l2_1 t145 t148 _ ?side1 ?side2 ?side3 ?side4 A4.out).mono ?_); (case side1 => repeat (first | exact (Kd.C_below HR2_0.out HB.out) | with_reducible first | apply Kd.C_alloc | apply Kd.C_drewN | apply Kd.C_drew)); (case side2 => exact HC2_0.out); (case side3 => repeat (first | exact (Kd.C_below HR2_1.out HB.out) | with_reducible first | apply Kd.C_alloc | apply Kd.C_drewN | apply Kd.C_drew)); (case side4 => exact HC2_1.out); rintro e w15 ⟨v146, rfl, ho0, hb⟩; refine ⟨_, rfl, ?_⟩; have n0_ := qf (Kd.R_lower ho0 (below_size (by repeat (first | (with_reducible first | exact HB.out | apply qa | apply qb | apply qc | refine qg ?_ GE143.out | refine qg ?_ GE144.out) | exact HB.out)))); have n1_ := qf (blk_below (g := gb143) (o := .cells #[.int .u64 a1_0, .string a1_1] 44 (0, 0)) (by (with_reducible repeat (first | refine blk_drewN ?_ _ | refine blk_drew ?_ | refine qh ?_ _)); exact BK143.out) hb); have n2_ := qf (blk_below (g := gb144) (o := .cells #[.slice A2_0 l2_0.length c2_0, .slice A2_1 l2_1.length c2_1] 26 (0, 0)) (by (with_reducible repeat (first | refine blk_drewN ?_ _ | refine blk_drew ?_ | refine qh ?_ _)); exact BK144.out) hb); have n3_ := qf (below_step (by repeat (first | (with_reducible first | exact HB.out | apply qa | apply qb | apply qc | refine qg ?_ GE143.out | refine qg ?_ GE144.out) | exact HB.out)) hb); clear BK143 BK144 HB; have HO147 := n0_; have BK143 := n1_; have BK144 := n2_; have HB := n3_; clear n0_ n1_ n2_ n3_; (try clear hb); (try clear ho0); obtain ⟨Ao16, co16, eo16⟩ := Kd.R_slice HO147.out; subst eo16; have p149 : 0 ≤ ((ji6) : Int) := qe (by with_reducible assumption); have q149 : (ji6) < (t145.length : Int) := qe (by with_reducible assumption); obtain ⟨ad149, e149, hx149_0⟩ := Kd.at_string (Kd.R_reads' HO147.out).2.2 (ji6) p149 q149; cases e149; replace p149 := eq_true p149; replace q149 := eq_true q149) | ((with_reducible refine gate_callee (f := 40) rfl ?_); refine goesL_ (some 25) rfl rfl Tryz.func40 (by kernel_rfl) rfl #[.string (rdOf ByteArray.empty t145 (ji6))] rfl (by (try simp only [List.map_toArray, List.map_cons, List.map_nil]); first | done | (simp only [hji6]; rfl) | rfl | (simp only [List.length_drop, qw]; rfl)) ?_; (with_reducible refine (sha_Sum.calls (rdOf ByteArray.empty t145 (ji6)) t150 _ A9.out).mono ?_); rintro e w17 ⟨rfl, hb⟩; refine ⟨_, rfl, ?_⟩; have n0_ := qf (Kd.R_below (by (with_reducible repeat (first | apply Kd.R_alloc | apply Kd.R_drewN | apply Kd.R_drew)); exact HO147.out) hb); have n1_ := qf (blk_below (g := gb143) (o := .cells #[.int .u64 a1_0, .string a1_1] 44 (0, 0)) (by (with_reducible repeat (first | refine blk_drewN ?_ _ | refine blk_drew ?_ | refine qh ?_ _)); exact BK143.out) hb); have n2_ := qf (blk_below (g := gb144) (o := .cells #[.slice A2_0 l2_0.length c2_0, .slice A2_1 l2_1.length c2_1] 26 (0, 0)) (by (with_reducible repeat (first | refine blk_drewN ?_ _ | refine blk_drew ?_ | refine qh ?_ _)); exact BK144.out) hb); have n3_ := qf (below_step (by repeat (first | (with_reducible first | exact HB.out | apply qa | apply qb | apply qc | refine qg ?_ GE143.out | refine qg ?_ GE144.out) | exact HB.out)) hb); clear HO147 BK143 BK144 HB; have HO147 := n0_; have BK143 := n1_; have BK144 := n2_; have HB := n3_; clear n0_ n1_ n2_ n3_; (try clear hb); (try clear hi)))
    go_ret2
    exact ⟨by first | rfl | (simp [errW_none, errW_some] <;> rfl) | (simp only [← hji6]; first | rfl | (simp [errW_none, errW_some] <;> rfl)) | (simp [*, errW_none, errW_some] <;> rfl), by repeat (first | (with_reducible first | exact HB.out | apply qa | apply qb | apply qc | refine qg ?_ GE143.out | refine qg ?_ GE144.out) | exact HB.out)⟩
   ·rw [if_neg c8] at H; exact absurd H (by simp)
  ·rw [if_neg c7] at H; exact absurd H (by simp)
 ·rw [if_neg c5] at H; have c5b0 : (t148 == 0) = false := beq_eq_false_iff_ne.mpr c5; have c5b1 : (t148 != 0) = true := bne_iff_ne.mpr c5; simp only [Option.some.injEq, Prod.mk.injEq] at H; obtain ⟨rfl, rfl⟩ := H
  go_enter Tryz.func28, Tryz.ntmps28
  go_wp2_with (first | ((with_reducible refine gate_dst (N := 4) rfl ?_); refine box_event ?hg (N := 4) ?hd (cs := #[.int .u64 a1_0, .string a1_1]) (t := 44) ?hr ?_; (case hd => rfl); (case hg => rfl); (case hr => first | (go_simp; done) | (go_simp; rfl)); intro gb143 hg w18 hbox hb; have n0_ := qf (below_step (by repeat (first | (with_reducible first | exact HB.out | apply qa | apply qb | apply qc) | exact HB.out)) hb); have n1_ := qf (hbox); have n2_ := qf ((by rw [hg]; exact (below_size (by repeat (first | (with_reducible first | exact HB.out | apply qa | apply qb | apply qc) | exact HB.out))) : w.heap.size ≤ gb143)); have n3_ := qf ((by rw [hg]; exact (below_size (by repeat (first | (with_reducible first | exact HB.out | apply qa | apply qb | apply qc) | exact HB.out))) : w.heap.size ≤ gb143)); clear HB; have HB := n0_; have BK143 := n1_; have GW143 := n2_; have GE143 := n3_; clear n0_ n1_ n2_ n3_ hb hbox hg) | ((with_reducible refine gate_dst (N := 5) rfl ?_); refine box_event ?hg (N := 5) ?hd (cs := #[.slice A2_0 l2_0.length c2_0, .slice A2_1 l2_1.length c2_1]) (t := 26) ?hr ?_; (case hd => rfl); (case hg => rfl); (case hr => first | (go_simp; done) | (go_simp; rfl)); intro gb144 hg w19 hbox hb; have n0_ := qf (blk_below (g := gb143) (o := .cells #[.int .u64 a1_0, .string a1_1] 44 (0, 0)) (by (with_reducible repeat (first | refine blk_drewN ?_ _ | refine blk_drew ?_ | refine qh ?_ _)); exact BK143.out) hb); have n1_ := qf (below_step (by repeat (first | (with_reducible first | exact HB.out | apply qa | apply qb | apply qc | refine qg ?_ GE143.out) | exact HB.out)) hb); have n2_ := qf (hbox); have n3_ := qf ((by rw [hg]; exact (below_size (by repeat (first | (with_reducible first | exact HB.out | apply qa | apply qb | apply qc | refine qg ?_ GE143.out) | exact HB.out))) : w.heap.size ≤ gb144)); have n4_ := qf ((by rw [hg]; exact (below_size (by repeat (first | (with_reducible first | exact HB.out | apply qa | apply qb | apply qc | refine qg ?_ GE143.out) | exact HB.out))) : w.heap.size ≤ gb144)); have n5_ := qf ((by rw [hg]; exact Nat.ne_of_lt (blk_lt (g := gb143) (o := .cells #[.int .u64 a1_0, .string a1_1] 44 (0, 0)) (by (with_reducible repeat (first | refine blk_drewN ?_ _ | refine blk_drew ?_ | refine qh ?_ _)); exact BK143.out)) : gb143 ≠ gb144)); have n6_ := qf ((by rw [hg]; exact Nat.ne_of_gt (blk_lt (g := gb143) (o := .cells #[.int .u64 a1_0, .string a1_1] 44 (0, 0)) (by (with_reducible repeat (first | refine blk_drewN ?_ _ | refine blk_drew ?_ | refine qh ?_ _)); exact BK143.out)) : gb144 ≠ gb143)); clear BK143 HB; have BK143 := n0_; have HB := n1_; have BK144 := n2_; have GW144 := n3_; have GE144 := n4_; have NB143_144 := n5_; have NB144_143 := n6_; clear n0_ n1_ n2_ n3_ n4_ n5_ n6_ hb hbox hg; have hnb20 := NB143_144.out; have hnc20 := NB144_143.out; have hcz21_0 : w19.cell? ⟨gb143, 0, none⟩ = some (.int .u64 a1_0) := (blk_cell BK143.out 0).trans rfl; have hcz21_1 : w19.cell? ⟨gb143, 1, none⟩ = some (.string a1_1) := (blk_cell BK143.out 1).trans rfl; have hfz21_0 := blk_frozen BK143.out 0; have hfz21_1 := blk_frozen BK143.out 1; have hcz22_0 : w19.cell? ⟨gb144, 0, none⟩ = some (.slice A2_0 l2_0.length c2_0) := (blk_cell BK144.out 0).trans rfl; have hcz22_1 : w19.cell? ⟨gb144, 1, none⟩ = some (.slice A2_1 l2_1.length c2_1) := (blk_cell BK144.out 1).trans rfl; have hfz22_0 := blk_frozen BK144.out 0; have hfz22_1 := blk_frozen BK144.out 1) | ((with_reducible refine gate_callee (f := 39) rfl ?_); refine goesL_ (some 13) rfl rfl Tryz.func39 (by kernel_rfl) rfl #[.agg #[.int .u64 a1_0, .string a1_1], .agg #[.slice A2_0 l2_0.length c2_0, .slice A2_1 l2_1.length c2_1]] rfl (by (try simp only [List.map_toArray, List.map_cons, List.map_nil]); first | done | rfl | (simp only [List.length_drop, qw]; rfl)) ?_; (with_reducible refine (proof_Steps.calls k a1_0 a1_1 _ _ l2_0 _ _ l2_1 t145 t148 _ ?side1 ?side2 ?side3 ?side4 A4.out).mono ?_); (case side1 => repeat (first | exact (Kd.C_below HR2_0.out HB.out) | with_reducible first | apply Kd.C_alloc | apply Kd.C_drewN | apply Kd.C_drew)); (case side2 => exact HC2_0.out); (case side3 => repeat (first | exact (Kd.C_below HR2_1.out HB.out) | with_reducible first | apply Kd.C_alloc | apply Kd.C_drewN | apply Kd.C_drew)); (case side4 => exact HC2_1.out); rintro e w23 ⟨v146, rfl, ho0, hb⟩; refine ⟨_, rfl, ?_⟩; have n0_ := qf (Kd.R_lower ho0 (below_size (by repeat (first | (with_reducible first | exact HB.out | apply qa | apply qb | apply qc | refine qg ?_ GE143.out | refine qg ?_ GE144.out) | exact HB.out)))); have n1_ := qf (blk_below (g := gb143) (o := .cells #[.int .u64 a1_0, .string a1_1] 44 (0, 0)) (by (with_reducible repeat (first | refine blk_drewN ?_ _ | refine blk_drew ?_ | refine qh ?_ _)); exact BK143.out) hb); have n2_ := qf (blk_below (g := gb144) (o := .cells #[.slice A2_0 l2_0.length c2_0, .slice A2_1 l2_1.length c2_1] 26 (0, 0)) (by (with_reducible repeat (first | refine blk_drewN ?_ _ | refine blk_drew ?_ | refine qh ?_ _)); exact BK144.out) hb); have n3_ := qf (below_step (by repeat (first | (with_reducible first | exact HB.out | apply qa | apply qb | apply qc | refine qg ?_ GE143.out | refine qg ?_ GE144.out) | exact HB.out)) hb); clear BK143 BK144 HB; have HO147 := n0_; have BK143 := n1_; have BK144 := n2_; have HB := n3_; clear n0_ n1_ n2_ n3_; (try clear hb); (try clear ho0)))
  go_ret2
  exact ⟨by first | rfl | (simp [errW_none, errW_some] <;> rfl) | (simp [*, errW_none, errW_some] <;> rfl), by repeat (first | (with_reducible first | exact HB.out | apply qa | apply qb | apply qc | refine qg ?_ GE143.out | refine qg ?_ GE144.out) | exact HB.out)⟩
end Go.Proofs.YtolbhliepkcihaaGreatDoor.QPA
end
section
namespace Go.Proofs.YtolbhliepkcihaaGreatDoor.ProofPure
open Go.RowKit QPA YtolbhliepkcihaaGreatDoorW.PrintWords Kinds Build Lab Sha Mac Codec Tower SkipOps SkipPure
abbrev Rows := List (List ByteArray)
def stepN (x : S44) (b a : Rows) : Nat → ByteArray
 | 0 => itemT x
 | j + 1 => joinT (j + 1) (b.getD j [] ++ [sumS (stepN x b a j)] ++ a.getD j [])
def stepsL (x : S44) (b a : Rows) : List ByteArray := (List.range 9).map (stepN x b a)
def okRows (b : Rows) : Prop := b.length = 8 ∧ ∀ j, j < 8 → (b.getD j []).length ≤ 64 ∧ ∀ s, s ∈ b.getD j [] → s.size = 32
theorem odd_false {s : ByteArray} (h : odd s = false) : s.size = 32 := by
 unfold odd at h; simp at h
 omega
theorem okRows_of {b : Rows} (hl : b.length = 8) (h : oddRs b = false) : okRows b := by
 refine ⟨hl, fun j hj => ?_⟩
 have hlt : j < b.length := by omega
 have e : b.getD j [] = b[j] := by rw [List.getD_eq_getElem?_getD, List.getElem?_eq_getElem hlt]; rfl
 have ho : oddR b[j] = false := by
  cases hb : oddR b[j] with
  | false => rfl
  | true => rw [oddRs_take b j hlt hb] at h; cases h
 rw [e]; unfold oddR at ho; rw [Bool.or_eq_false_iff] at ho; refine ⟨by have := of_decide_eq_false ho.1; omega, fun s hs => odd_false ?_⟩
 cases hb : odd s with
 | false => rfl
 | true =>
  have := ho.2; unfold odds at this; rw [List.any_eq_true.2 ⟨s, hs, hb⟩] at this; cases this
theorem okRows_cat {b : Rows} (h : okRows b) (j : Nat) (hj : j < 8) : (catS (b.getD j [])).size ≤ 2048 := by
 obtain ⟨h1, h2⟩ := h.2 j hj; rw [cat32 _ h2]
 omega
theorem stepN_size (x : S44) (b a : Rows) (hx : x.f1.size ≤ 64) (hb : okRows b) (ha : okRows a) (j : Nat) (hj : j ≤ 8) : (stepN x b a j).size ≤ 5000 := by
 cases j with
 | zero => show (itemT x).size ≤ 5000; rw [itemT_size]; omega
 | succ j =>
  have h1 := okRows_cat hb j (by omega); have h2 := okRows_cat ha j (by omega)
  show (joinT (j + 1) _).size ≤ 5000
  rw [joinT_size, cat_app, cat_app, cat_one, ByteArray.size_append, ByteArray.size_append, sumS_size]
  omega
theorem rd_rows (b : Rows) (j : Nat) : rd_L1 b (j : Int) = b.getD j [] := by unfold rd_L1; rw [Int.toNat_natCast]
theorem steps_rd (x : S44) (b a : Rows) (j n : Nat) (h : j < n) : rdOf ByteArray.empty ((List.range n).map (stepN x b a)) (j : Int) = stepN x b a j := by
 unfold rdOf; rw [Int.toNat_natCast, List.getD_eq_getElem?_getD, List.getElem?_map, List.getElem?_range h]; rfl
theorem range_next (x : S44) (b a : Rows) (n : Nat) : (List.range n).map (stepN x b a) ++ [stepN x b a n] = (List.range (n + 1)).map (stepN x b a) := by
 rw [List.range_succ, List.map_append]; rfl
theorem step_text (x : S44) (b a : Rows) (j : Nat) : ((((⟨#[2]⟩ : ByteArray) ++ numS (j + 1)) ++ catS (b.getD j [])) ++ sumS (stepN x b a j)) ++ catS (a.getD j []) = stepN x b a (j + 1) := by
 show _ = ofNats [2] ++ numS (j + 1) ++ catS (b.getD j [] ++ [sumS (stepN x b a j)] ++ a.getD j [])
 rw [cat_app, cat_app, cat_one]; simp only [ByteArray.append_assoc]; rfl
theorem steps_l0 (x : S44) (b a : Rows) (hx : x.f1.size ≤ 64) (hb : okRows b) (ha : okRows a) (d : Nat) : ∀ j, j + d = 8 → Ev (fun k => proof_Steps.l0 k ((List.range (j + 1)).map (stepN x b a)) (j : Int) b a) (stepsL x b a, 0) := by
 induction d with
 | zero =>
  intro j hj
  obtain rfl : j = 8 := by omega
  refine Ev.step (fun k => ?_) (Ev.now _); rw [proof_Steps.l0, if_neg (by decide)]; rfl
 | succ d ih =>
  intro j hj; have h := ih (j + 1) (by omega)
  have hlen : ((List.range (j + 1)).map (stepN x b a)).length = j + 1 := by simp
  have z1 := stepN_size x b a hx hb ha j (by omega); have z2 := okRows_cat hb j (by omega); have z3 := okRows_cat ha j (by omega); have l1 := (hb.2 j (by omega)).1; have l2 := (ha.2 j (by omega)).1; have e1 : sha_Sum.f (stepN x b a j) = some (sumS (stepN x b a j)) := if_pos (by show _ ≤ 1099511627776; omega)
  have ew : IntKind.u64.wrap (IntKind.u64.wrap (j : Int) + 1) = ((j + 1 : Nat) : Int) := by rw [wrap_nat j (by omega), show ((j : Int) + 1) = ((j + 1 : Nat) : Int) from by omega, wrap_nat (j + 1) (by omega)]
  have e2 : codec_Number.f ((j + 1 : Nat) : Int) = some (numS (j + 1)) := by unfold codec_Number.f; rw [if_pos ⟨by omega, by omega⟩, Int.toNat_natCast]
  have e3 : strings_Join.f (b.getD j []) (⟨#[]⟩ : ByteArray) = some (catS (b.getD j [])) := if_pos ⟨by omega, by omega, rfl⟩; have e4 : strings_Join.f (a.getD j []) (⟨#[]⟩ : ByteArray) = some (catS (a.getD j [])) := if_pos ⟨by omega, by omega, rfl⟩; have zn : (numS (j + 1)).size = 8 := numS_size _; have z0 : (⟨#[2]⟩ : ByteArray).size = 1 := rfl; have zs : (sumS (stepN x b a j)).size = 32 := sumS_size _; refine Ev.step (fun k => ?_) h; have hbl := hb.1; have hal := ha.1
  rw [proof_Steps.l0, if_pos (by omega), if_pos (by omega), if_pos (by rw [hlen]; omega), steps_rd x b a j (j + 1) (by omega), e1, qv, ew, e2, qv, if_pos (by omega), if_pos (by omega), rd_rows, e3, qv,
   if_pos (by rw [ByteArray.size_append]; omega), if_pos (by rw [ByteArray.size_append, ByteArray.size_append]; omega), if_pos (by omega), rd_rows, e4, qv, if_pos (by rw [ByteArray.size_append, ByteArray.size_append, ByteArray.size_append]; omega), if_pos (by rw [hlen]; omega), step_text, range_next]
  rw [show wrap64 ((j : Int) + 1) = ((j + 1 : Nat) : Int) from SkipPure.w_succ j 8 (by omega) (by omega)]
theorem join_two (x : S44) (h0 : 0 ≤ x.f0) (h1 : x.f0 < 18446744073709551616) (hs : x.f1.size ≤ 4096) : codec_Join.f [(⟨false, x.f0, ⟨#[]⟩⟩ : S84), ⟨true, 0, x.f1⟩] = some (numS x.f0.toNat ++ textS x.f1, 0) := by
 have hk : okB [(⟨false, x.f0, ⟨#[]⟩⟩ : S84), ⟨true, 0, x.f1⟩] = true := by
  unfold okB; simp only [List.all_cons, List.all_nil, Bool.and_true, Bool.and_eq_true, decide_eq_true_eq]; exact ⟨⟨⟨by decide, h0⟩, h1⟩, ⟨hs, by decide⟩, by decide⟩
 have e2 : catS [numS x.f0.toNat, textS x.f1] = numS x.f0.toNat ++ textS x.f1 := by
  show numS x.f0.toNat ++ catS [textS x.f1] = _
  rw [cat_one]
 unfold codec_Join.f; rw [if_pos ⟨show 2 ≤ 1000000 by decide, hk⟩, ← e2]; rfl
theorem may_ok {v : ByteArray} {b a : Rows} (h : mayN v b a = 0) : v.size ≤ 64 ∧ okRows b ∧ okRows a := by
 unfold mayN at h
 split at h
 ·cases h
 ·rename_i g
  split at h
  ·cases h
  ·rename_i g2
   have hb : b.length = 8 := Decidable.byContradiction fun c => g2 (.inl c)
   have ha : a.length = 8 := Decidable.byContradiction fun c => g2 (.inr (.inl c))
   have ob : oddRs b = false := by
    cases h : oddRs b
    (rfl)
    ·exact absurd (.inr (.inr (.inl h))) g2
   have oa : oddRs a = false := by
    cases h : oddRs a
    (rfl)
    ·exact absurd (.inr (.inr (.inr h))) g2
   exact ⟨by omega, okRows_of hb ob, okRows_of ha oa⟩
def stepsR (x : S44) (b a : Rows) : List ByteArray × Int := if mayN x.f1 b a = 0 then (stepsL x b a, 0) else ([], mayN x.f1 b a)
theorem steps_ev (x : S44) (b a : Rows) (h0 : 0 ≤ x.f0) (h1 : x.f0 < 18446744073709551616) (hb : b.length ≤ 1000000) (ha : a.length ≤ 1000000) : Ev (fun k => proof_Steps.f k x.f0 x.f1 b a) (stepsR x b a) := by
 have e1 : proof_may.f x.f0 x.f1 b a = some (mayN x.f1 b a) := if_pos ⟨hb, ha⟩; unfold proof_Steps.f stepsR; simp only [e1, qv]
 by_cases g : mayN x.f1 b a = 0
 rotate_left
 ·rw [if_neg g]; simp only [if_neg g]; exact Ev.now _
 rw [if_pos g]; simp only [if_pos g]; obtain ⟨q1, q2, q3⟩ := may_ok g; have e2 := join_two x h0 h1 (by omega)
 have e3 : (⟨#[0]⟩ : ByteArray) ++ (numS x.f0.toNat ++ textS x.f1) = itemT x := by
  unfold itemT; rw [ByteArray.append_assoc]; rfl
 have zt : (numS x.f0.toNat ++ textS x.f1).size ≤ 100 := by rw [ByteArray.size_append, numS_size, textS_size]; omega
 refine Ev.congr (fun k => ?_) (steps_l0 x b a q1 q2 q3 8 0 rfl); rw [e2, qv]
 show (if 1 + (numS x.f0.toNat ++ textS x.f1).size ≤ _ then _ else _) = _
 rw [if_pos (by omega), e3]; rfl
theorem check_ev (rt : ByteArray) (x : S44) (b a : Rows) (h0 : 0 ≤ x.f0) (h1 : x.f0 < 18446744073709551616) (hb : b.length ≤ 1000000) (ha : a.length ≤ 1000000) :
  Ev (fun k => proof_Check.f k rt x.f0 x.f1 b a) (if mayN x.f1 b a = 0 then ((sumS (stepN x b a 8)).toList == rt.toList, 0) else (false, mayN x.f1 b a)) := by
 unfold proof_Check.f; refine Ev.bind (steps_ev x b a h0 h1 hb ha) ?_; unfold stepsR
 by_cases g : mayN x.f1 b a = 0
 ·obtain ⟨q1, q2, q3⟩ := may_ok g
  have hl : (stepsL x b a).length = 9 := by unfold stepsL; simp
  have z1 := stepN_size x b a q1 q2 q3 8 (by omega); have e1 : sha_Sum.f (stepN x b a 8) = some (sumS (stepN x b a 8)) := if_pos (by show _ ≤ 1099511627776; omega)
  have ew : wrap64 (((stepsL x b a).length : Int) - 1) = ((8 : Nat) : Int) := by rw [hl]; first | rfl | (unfold wrap64; rfl) | (unfold wrap64; omega) | (unfold wrap64; simp)
  have er := steps_rd x b a 8 9 (by omega); rw [if_pos g, if_pos g]; refine Ev.congr (fun k => ?_) (Ev.now _)
  show (if (0 : Int) = 0 then _ else _) = _
  rw [if_pos rfl]
  show (if 0 ≤ wrap64 (((stepsL x b a).length : Int) - 1) then _ else _) = _
  rw [ew, hl, if_pos (by decide), if_pos (by decide)]
  show (sha_Sum.f (rdOf ByteArray.empty (stepsL x b a) ((8 : Nat) : Int))).bind _ = _
  unfold stepsL; rw [er, e1]; rfl
 ·rw [if_neg g, if_neg g]; refine Ev.congr (fun k => ?_) (Ev.now _); rw [if_neg g]
end Go.Proofs.YtolbhliepkcihaaGreatDoor.ProofPure
end
section
namespace Go.Proofs.YtolbhliepkcihaaGreatDoor.ProofPure
open Go.RowKit QPA YtolbhliepkcihaaGreatDoorW.PrintWords Kinds Build Lab Sha Mac Codec Tower SkipOps SkipPure
def cut40 (s : ByteArray) : ByteArray := s.extract 0 (min s.size 40)
def cutRow (r : List ByteArray) : List ByteArray := (r.take (min r.length 66)).map cut40
def cutR (l : Rows) : Rows := (l.take (min l.length 9)).map cutRow
theorem cut_l1 (y : Rows) (acc : Rows) (i : Nat) (x : List ByteArray) (hx : x.length ≤ 66) (hacc : acc.length ≤ 100) (R : Rows)
  (hk : Ev (fun k => saltuslaw18_cut.l0 k (acc ++ [x.map cut40]) y (y.length : Int) (wrap64 ((i : Int) + 1))) R) (d : Nat) : ∀ j o, j + d = x.length → o = (x.take j).map cut40 →
  Ev (fun k => saltuslaw18_cut.l1 k acc o y (y.length : Int) (i : Int) x (x.length : Int) (j : Int)) R := by
 induction d with
 | zero =>
  intro j o hj ho; rw [List.take_of_length_le (by omega)] at ho; subst ho; refine Ev.step (fun k => ?_) hk; rw [saltuslaw18_cut.l1, if_neg (by omega), if_pos (by omega)]
 | succ d ih =>
  intro j o hj ho
  have hlt : j < x.length := by omega
  have hrd : rdOf ByteArray.empty x (j : Int) = x[j] := by
   unfold rdOf; rw [Int.toNat_natCast, List.getD_eq_getElem?_getD, List.getElem?_eq_getElem hlt]; rfl
  have e40 := mn_nat x[j].size 40; rw [show ((40 : Nat) : Int) = 40 from rfl] at e40; have hmin : min x[j].size 40 ≤ x[j].size := Nat.min_le_left _ _
  have hol : o.length = j := by rw [ho, List.length_map, qw]; omega
  have h := ih (j + 1) (o ++ [cut40 x[j]]) (by omega) (by rw [ho, List.take_succ_eq_append_getElem hlt, List.map_append]; rfl); refine Ev.step (fun k => ?_) h; rw [saltuslaw18_cut.l1, if_pos (by omega), if_pos (by omega), if_pos (by omega), hrd, e40, if_pos (by omega), if_pos (by omega), if_pos (by omega), Int.toNat_natCast, SkipPure.w_succ j x.length (by omega) (by omega)]; rfl
theorem cut_l0 (y : Rows) (hy : y.length ≤ 9) (d : Nat) : ∀ i acc, i + d = y.length → acc = (y.take i).map cutRow → Ev (fun k => saltuslaw18_cut.l0 k acc y (y.length : Int) (i : Int)) (y.map cutRow) := by
 induction d with
 | zero =>
  intro i acc hi ho; rw [List.take_of_length_le (by omega)] at ho; subst ho; refine Ev.step (fun k => ?_) (Ev.now _); rw [saltuslaw18_cut.l0, if_neg (by omega)]
 | succ d ih =>
  intro i acc hi ho
  have hlt : i < y.length := by omega
  have er : rd_L1 y (i : Int) = y[i] := by
   unfold rd_L1; rw [Int.toNat_natCast, List.getD_eq_getElem?_getD, List.getElem?_eq_getElem hlt]; rfl
  have e66 := mn_nat y[i].length 66; rw [show ((66 : Nat) : Int) = 66 from rfl] at e66; have hmin : min y[i].length 66 ≤ y[i].length := Nat.min_le_left _ _
  have hal : acc.length = i := by rw [ho, List.length_map, qw]; omega
  have h := ih (i + 1) (acc ++ [cutRow y[i]]) (by omega) (by rw [ho, List.take_succ_eq_append_getElem hlt, List.map_append]; rfl); have hw : wrap64 ((i : Int) + 1) = ((i + 1 : Nat) : Int) := SkipPure.w_succ i y.length (by omega) (by omega); rw [← hw] at h; have h1 := cut_l1 y acc i (y[i].take (min y[i].length 66)) (by rw [qw]; omega) (by omega) _ h (y[i].take (min y[i].length 66)).length 0 [] (by omega) rfl; refine Ev.step (fun k => ?_) h1; rw [saltuslaw18_cut.l0, if_pos (by omega), if_pos (by omega), if_pos (by omega), er, e66, if_pos (by omega), if_pos (by omega), Int.toNat_natCast]; rfl
theorem cut_ev (l : Rows) : Ev (fun k => saltuslaw18_cut.f k l) (cutR l) := by
 have e9 := mn_nat l.length 9; rw [show ((9 : Nat) : Int) = 9 from rfl] at e9; have h := cut_l0 (l.take (min l.length 9)) (by rw [qw]; omega) (l.take (min l.length 9)).length 0 [] (by omega) rfl; have h2 : min l.length 9 ≤ l.length := Nat.min_le_left _ _; refine Ev.congr (fun k => ?_) h; unfold saltuslaw18_cut.f; rw [e9, if_pos (by omega), if_pos (by omega), Int.toNat_natCast, qv]; rfl
theorem few_ev (b a : Rows) : Ev (fun k => saltuslaw18_few.f k b a) (cutR b, cutR a) := by
 unfold saltuslaw18_few.f; exact Ev.bind (cut_ev b) (Ev.bind (cut_ev a) (Ev.now _))
theorem cutR_len (l : Rows) : (cutR l).length ≤ 9 := by unfold cutR; rw [List.length_map, qw]; omega
end Go.Proofs.YtolbhliepkcihaaGreatDoor.ProofPure
end
section
namespace Go.Proofs.YtolbhliepkcihaaGreatDoor
open Go.RowKit YtolbhliepkcihaaGreatDoorW.PrintWords Kinds Build Lab Sha Mac Codec Tower SkipOps SkipPure ProofPure
def domP (a0 : Int) (b a : ProofPure.Rows) : Bool := decide (0 ≤ a0) && decide (a0 < 18446744073709551616) && decide (b.length ≤ 1000) && decide (a.length ≤ 1000)
theorem domP_of {a0 : Int} {b a : ProofPure.Rows} (h : domP a0 b a = true) : 0 ≤ a0 ∧ a0 < 18446744073709551616 ∧ b.length ≤ 1000 ∧ a.length ≤ 1000 := by
 unfold domP at h; simp only [Bool.and_eq_true, decide_eq_true_eq] at h; exact ⟨h.1.1.1, h.1.1.2, h.1.2, h.2⟩
def proof_Steps.f (a0_0 : Int) (a0_1 : ByteArray) (l1_0 l1_1 : ProofPure.Rows) : Option (List ByteArray × Int) := if domP a0_0 l1_0 l1_1 = true then some (stepsR ⟨a0_0, a0_1⟩ l1_0 l1_1) else none
def proof_Check.f (a0 : ByteArray) (a1_0 : Int) (a1_1 : ByteArray) (l2_0 l2_1 : ProofPure.Rows) : Option (Bool × Int) := if domP a1_0 l2_0 l2_1 = true then some (if mayN a1_1 l2_0 l2_1 = 0 then ((sumS (stepN ⟨a1_0, a1_1⟩ l2_0 l2_1 8)).toList == a0.toList, 0) else (false, mayN a1_1 l2_0 l2_1)) else none
theorem proof_Check.calls (a0 : ByteArray) (a1_0 : Int) (a1_1 : ByteArray) (A2_0 : Option Addr) (c2_0 : Nat) (l2_0 : List (List ByteArray)) (A2_1 : Option Addr) (c2_1 : Nat) (l2_1 : List (List ByteArray)) (r1 : Bool) (r2 : Int) (w : World) (hr2_0 : Kd.C (Kd.slice 9 Kd.string) w A2_0 l2_0.length l2_0) (hc2_0 : l2_0.length ≤ c2_0) (hr2_1 : Kd.C (Kd.slice 9 Kd.string) w A2_1 l2_1.length l2_1) (hc2_1 : l2_1.length ≤ c2_1) (h : proof_Check.f a0 a1_0 a1_1 l2_0 l2_1 = some (r1, r2)) :
  Calls Tryz.prog 28 #[.string a0, .agg #[.int .u64 a1_0, .string a1_1], .agg #[.slice A2_0 l2_0.length c2_0, .slice A2_1 l2_1.length c2_1]] w fun e w' => e = .returned (.tuple #[.bool r1, .int .i64 r2]) ∧ Below w.heap.size w w' := by
 unfold proof_Check.f at h
 split at h
 ·rename_i hd; obtain ⟨h1, h2, h3, h4⟩ := domP_of hd; obtain ⟨k, hk⟩ := (check_ev a0 ⟨a1_0, a1_1⟩ l2_0 l2_1 h1 h2 (by omega) (by omega)).rounds; exact QPA.proof_Check.calls k a0 a1_0 a1_1 A2_0 c2_0 l2_0 A2_1 c2_1 l2_1 r1 r2 w hr2_0 hc2_0 hr2_1 hc2_1 (hk.trans h)
 ·cases h
def saltuslaw18_few.f (l0_0 l0_1 : ProofPure.Rows) : Option (ProofPure.Rows × ProofPure.Rows) := some (cutR l0_0, cutR l0_1)
theorem saltuslaw18_few.calls (A0_0 : Option Addr) (c0_0 : Nat) (l0_0 : List (List ByteArray)) (A0_1 : Option Addr) (c0_1 : Nat) (l0_1 : List (List ByteArray)) (r1 : List (List ByteArray)) (r2 : List (List ByteArray)) (w : World) (hr0_0 : Kd.C (Kd.slice 9 Kd.string) w A0_0 l0_0.length l0_0) (hc0_0 : l0_0.length ≤ c0_0) (hr0_1 : Kd.C (Kd.slice 9 Kd.string) w A0_1 l0_1.length l0_1) (hc0_1 : l0_1.length ≤ c0_1) (h : saltuslaw18_few.f l0_0 l0_1 = some (r1, r2)) :
  Calls Tryz.prog 4 #[.agg #[.slice A0_0 l0_0.length c0_0, .slice A0_1 l0_1.length c0_1]] w fun e w' => ∃ v0_ v1_ : Value, e = .returned (.agg #[v0_, v1_]) ∧ Kd.S (Kd.slice 9 Kd.string) 47 w' w.heap.size (fun k_ => some k_ ≠ (v1_ : Value).ownBlock) v0_ r1 ∧ Kd.S (Kd.slice 9 Kd.string) 47 w' w.heap.size (fun k_ => some k_ ≠ (v0_ : Value).ownBlock) v1_ r2 ∧ Below w.heap.size w w' := by
 obtain ⟨k, hk⟩ := (few_ev l0_0 l0_1).rounds; exact QPA.saltuslaw18_few.calls k A0_0 c0_0 l0_0 A0_1 c0_1 l0_1 r1 r2 w hr0_0 hc0_0 hr0_1 hc0_1 (hk.trans h)
end Go.Proofs.YtolbhliepkcihaaGreatDoor
end
section
namespace Go.Proofs.YtolbhliepkcihaaGreatDoor.QPP
open Go.RowKit Kinds YtolbhliepkcihaaGreatDoorW.PrintWords YtolbhliepkcihaaGreatDoorW.PrintLast YtolbhliepkcihaaGreatDoorW.PrintMore
attribute [local go_sem] max2_int min2_int max_two min_two max_three min_three max_four min_four   -- for this text's walks alone
set_option linter.unusedVariables false
set_option linter.unusedSimpArgs false
def errW : Option Int → Value
 | none => .nilIface
 | some c => .iface 0 (.int .i64 c)
theorem errW_none : errW none = .nilIface := rfl
theorem errW_some (c : Int) : errW (some c) = .iface 0 (.int .i64 c) := rfl
end Go.Proofs.YtolbhliepkcihaaGreatDoor.QPP
end
section
namespace Go.Proofs.YtolbhliepkcihaaGreatDoor.ProofPure
open Go.RowKit YtolbhliepkcihaaGreatDoorW.PrintWords Kinds Build Lab Sha Mac Codec Tower SkipOps SkipPure
abbrev Z := Nat × ByteArray
def pr (j : Nat) : List E → List Z
 | [] => []
 | y :: r => if j < y.h then (y.h, lab j (y :: r)) :: pr j r else pr j r
theorem pr_snd (j : Nat) : ∀ s : List E, (pr j s).map (·.2) = rowF (lab j) j s
 | [] => rfl
 | y :: r => by
  have ih := pr_snd j r
  by_cases c : j < y.h
  ·rw [pr, rowF, if_pos c, if_pos c, List.map_cons, ih]
  ·rw [pr, rowF, if_neg c, if_neg c, ih]
theorem pr_fst (j : Nat) : ∀ s : List E, (pr j s).map (·.1) = hts j s
 | [] => rfl
 | y :: r => by
  have ih := pr_fst j r; unfold hts at ih ⊢
  by_cases c : j < y.h
  ·rw [pr, if_pos c, List.map_cons, ih, List.map_cons, List.filter_cons_of_pos (by simpa using c)]
  ·rw [pr, if_neg c, ih, List.map_cons, List.filter_cons_of_neg (by simpa using c)]
def low (t : Nat) (z : Z) : Bool := decide (z.1 ≤ t)
theorem more_pr (j : Nat) : ∀ s : List E, more (lab j) j s = ((pr j s).takeWhile (low (j + 1))).map (·.2)
 | [] => rfl
 | y :: r => by
  have ih := more_pr j r
  by_cases d : j + 1 < y.h
  ·rw [more, if_pos d, pr, if_pos (by omega), List.takeWhile_cons_of_neg (by unfold low; simp; omega)]; rfl
  ·by_cases c : j < y.h
   ·rw [more, if_neg d, if_pos c, pr, if_pos c, List.takeWhile_cons_of_pos (by unfold low; simp; omega), List.map_cons, ih]
   ·rw [more, if_neg d, if_neg c, pr, if_neg c, ih]
def up (t : Nat) : List Z → List Z
 | [] => []
 | z :: r => if t < z.1 then (z.1, sumS (joinT t (z.2 :: (r.takeWhile (low t)).map (·.2)))) :: up t r else up t r
theorem pr_up (j : Nat) : ∀ s : List E, pr (j + 1) s = up (j + 1) (pr j s)
 | [] => rfl
 | y :: r => by
  have ih := pr_up j r
  by_cases d : j + 1 < y.h
  ·rw [pr, if_pos d, pr, if_pos (by omega), up, if_pos d, ih, ← more_pr]; rfl
  ·by_cases c : j < y.h
   ·rw [pr, if_neg d, pr, if_pos c, up, if_neg d, ih]
   ·rw [pr, if_neg d, pr, if_neg c, ih]
def cnt (t : Nat) (u : List Z) : Nat := (u.filter fun z => decide (t < z.1)).length
theorem up_get (t : Nat) : ∀ (u : List Z) (f : Nat) (h : f < u.length), t < u[f].1 →
  (up t u)[cnt t (u.take f)]? = some (u[f].1, sumS (joinT t (u[f].2 :: ((u.drop (f + 1)).takeWhile (low t)).map (·.2))))
 | [], f, h, _ => absurd h (by simp)
 | z :: r, 0, h, hf => by
  have hz : t < z.1 := hf; rw [up, if_pos hz]; rfl
 | z :: r, f + 1, h, hf => by
  have hr : f < r.length := by simpa using h
  have ih := up_get t r f hr hf
  by_cases c : t < z.1
  ·have e : cnt t ((z :: r).take (f + 1)) = cnt t (r.take f) + 1 := by
    unfold cnt; rw [List.take_succ_cons, List.filter_cons_of_pos (by simpa using c), List.length_cons]
   rw [up, if_pos c, e, List.getElem?_cons_succ]; exact ih
  ·have e : cnt t ((z :: r).take (f + 1)) = cnt t (r.take f) := by
    unfold cnt; rw [List.take_succ_cons, List.filter_cons_of_neg (by simpa using c)]
   rw [up, if_neg c, e]; exact ih
def fromN (t : Nat) (u : List Z) : Nat → Nat
 | 0 => 0
 | i + 1 => if t < (u.getD (i + 1) (0, ⟨#[]⟩)).1 then i + 1 else fromN t u i
def toN (t : Nat) (u : List Z) : Nat → Nat → Nat
 | 0, i => i
 | d + 1, i => if t < (u.getD i (0, ⟨#[]⟩)).1 then i else toN t u d (i + 1)
def gD (u : List Z) (i : Nat) : Nat := (u.getD i (0, ⟨#[]⟩)).1
theorem from_spec (t : Nat) (u : List Z) (h0 : t < gD u 0) : ∀ i, fromN t u i ≤ i ∧ t < gD u (fromN t u i) ∧ ∀ k, fromN t u i < k → k ≤ i → gD u k ≤ t
 | 0 => ⟨Nat.le_refl _, h0, fun k h1 h2 => absurd h1 (by rw [fromN]; omega)⟩
 | i + 1 => by
  obtain ⟨h1, h2, h3⟩ := from_spec t u h0 i
  by_cases c : t < (u.getD (i + 1) (0, ⟨#[]⟩)).1
  ·rw [fromN, if_pos c]; exact ⟨Nat.le_refl _, c, fun k q1 q2 => absurd q1 (by omega)⟩
  ·rw [fromN, if_neg c]; refine ⟨by omega, h2, fun k q1 q2 => ?_⟩
   by_cases e : k = i + 1
   ·subst e; unfold gD
    omega
   ·exact h3 k q1 (by omega)
theorem to_spec (t : Nat) (u : List Z) : ∀ d i, i + d = u.length → i ≤ toN t u d i ∧ toN t u d i ≤ u.length ∧ (∀ k, i ≤ k → k < toN t u d i → gD u k ≤ t) ∧ (toN t u d i = u.length ∨ t < gD u (toN t u d i))
 | 0, i, h => ⟨Nat.le_refl _, by rw [toN]; omega, fun k h1 h2 => absurd h2 (by rw [toN]; omega), .inl (by rw [toN]; omega)⟩
 | d + 1, i, h => by
  by_cases c : t < (u.getD i (0, ⟨#[]⟩)).1
  ·rw [toN, if_pos c]; exact ⟨Nat.le_refl _, by omega, fun k q1 q2 => absurd q2 (by omega), .inr c⟩
  ·obtain ⟨h1, h2, h3, h4⟩ := to_spec t u d (i + 1) (by omega); rw [toN, if_neg c]; refine ⟨by omega, h2, fun k q1 q2 => ?_, h4⟩
   by_cases e : k = i
   ·subst e; unfold gD
    omega
   ·exact h3 k (by omega) q2
theorem gD_at (u : List Z) (i : Nat) (h : i < u.length) : gD u i = u[i].1 := by unfold gD; rw [List.getD_eq_getElem?_getD, List.getElem?_eq_getElem h]; rfl
theorem while_is (t : Nat) (u : List Z) (e : Nat) (he : e ≤ u.length) (hend : e = u.length ∨ t < gD u e) : ∀ d i, i + d = e → (∀ k, i ≤ k → k < e → gD u k ≤ t) → (u.drop i).takeWhile (low t) = (u.take e).drop i
 | 0, i, h, hk => by
  obtain rfl : i = e := by omega
  rw [List.drop_eq_nil_of_le (show (u.take i).length ≤ i by rw [qw]; omega)]
  rcases hend with h1 | h1
  ·rw [List.drop_eq_nil_of_le (by omega)]; rfl
  ·by_cases c : i < u.length
   ·rw [gD_at u i c] at h1; rw [List.drop_eq_getElem_cons c, List.takeWhile_cons_of_neg (by unfold low; simp; omega)]
   ·rw [List.drop_eq_nil_of_le (by omega)]; rfl
 | d + 1, i, h, hk => by
  have c : i < u.length := by omega
  have ih := while_is t u e he hend d (i + 1) (by omega) (fun k q1 q2 => hk k (by omega) q2); have h1 := hk i (Nat.le_refl _) (by omega); rw [gD_at u i c] at h1
  have c2 : i < (u.take e).length := by rw [qw]; omega
  rw [List.drop_eq_getElem_cons c, List.takeWhile_cons_of_pos (by unfold low; simp; omega), ih, List.drop_eq_getElem_cons c2]
  congr 1
  exact (List.getElem_take ..).symm
def labs (u : List Z) : List ByteArray := u.map (·.2)
def befN (t : Nat) (u : List Z) (a : Nat) : List ByteArray := cutL (labs u) (fromN t u a, a)
def aftN (t : Nat) (u : List Z) (a : Nat) : List ByteArray := cutL (labs u) (a + 1, toN t u (u.length - (a + 1)) (a + 1))
theorem step_up (t : Nat) (u : List Z) (a : Nat) (ha : a < u.length) (h0 : t < gD u 0) :
  ∃ h, (up t u)[cnt t (u.take (fromN t u a))]? = some (h, sumS (joinT t (befN t u a ++ [u[a].2] ++ aftN t u a))) := by
 obtain ⟨f1, f2, f3⟩ := from_spec t u h0 a; obtain ⟨t1, t2, t3, t4⟩ := to_spec t u (u.length - (a + 1)) (a + 1) (by omega); generalize hf : fromN t u a = f at *; generalize ht : toN t u (u.length - (a + 1)) (a + 1) = e at *
 have hfl : f < u.length := by omega
 rw [gD_at u f hfl] at f2; refine ⟨u[f].1, ?_⟩
 rw [up_get t u f hfl f2, while_is t u e t2 t4 (e - (f + 1)) (f + 1) (by omega) (fun k q1 q2 => by
  by_cases c : k ≤ a
  ·exact f3 k (by omega) c
  ·exact t3 k (by omega) q2)]
 congr 4
 unfold befN aftN cutL labs; rw [hf, ht]
 show u[f].2 :: ((u.take e).drop (f + 1)).map (·.2) = _
 have hc : f < (u.take e).length := by rw [qw]; omega
 have e1 : u[f].2 :: ((u.take e).drop (f + 1)).map (·.2) = ((u.take e).drop f).map (·.2) := by
  rw [List.drop_eq_getElem_cons hc, List.map_cons]
  congr 1
  rw [List.getElem_take]
 rw [e1, ← List.map_take, ← List.map_take, ← List.map_drop, ← List.map_drop]
 have e2 : (u.take e).drop f = (u.take a).drop f ++ ([u[a]] ++ (u.take e).drop (a + 1)) := by
  have h1 : u.take e = u.take a ++ (u.take e).drop a := by
   have := (List.take_append_drop a (u.take e)).symm
   rwa [List.take_take, Nat.min_eq_left (by omega)] at this
  have h2 : (u.take e).drop a = [u[a]] ++ (u.take e).drop (a + 1) := by
   have ca : a < (u.take e).length := by rw [qw]; omega
   rw [List.drop_eq_getElem_cons ca, List.getElem_take]; rfl
  rw [← h2]
  conv => lhs; rw [h1]
  rw [List.drop_append_of_le_length (by rw [qw]; omega)]
 rw [e2, List.map_append, List.map_append, List.append_assoc]; rfl
end Go.Proofs.YtolbhliepkcihaaGreatDoor.ProofPure
end
section
namespace Go.Proofs.YtolbhliepkcihaaGreatDoor.ProofPure
open Go.RowKit YtolbhliepkcihaaGreatDoorW.PrintWords Kinds Build Lab Sha Mac Codec Tower SkipOps SkipPure
def atN (es : List E) (a0 : Nat) : Nat → Nat
 | 0 => a0
 | j + 1 => cnt (j + 1) ((pr j es).take (fromN (j + 1) (pr j es) (atN es a0 j)))
def befR (es : List E) (a0 : Nat) : Rows := (List.range 8).map fun j => befN (j + 1) (pr j es) (atN es a0 j)
def aftR (es : List E) (a0 : Nat) : Rows := (List.range 8).map fun j => aftN (j + 1) (pr j es) (atN es a0 j)
theorem bef_at (es : List E) (a0 j : Nat) (h : j < 8) : (befR es a0).getD j [] = befN (j + 1) (pr j es) (atN es a0 j) := by
 unfold befR; rw [List.getD_eq_getElem?_getD, List.getElem?_map, List.getElem?_range h]; rfl
theorem aft_at (es : List E) (a0 j : Nat) (h : j < 8) : (aftR es a0).getD j [] = aftN (j + 1) (pr j es) (atN es a0 j) := by
 unfold aftR; rw [List.getD_eq_getElem?_getD, List.getElem?_map, List.getElem?_range h]; rfl
theorem pr_head (r : List E) (j : Nat) (h : j < 9) : gD (pr j (head :: r)) 0 = 9 := by
 rw [pr, if_pos (show j < head.h from h)]; rfl
theorem labs_pr (j : Nat) (es : List E) : labs (pr j es) = rowF (lab j) j es := pr_snd j es
theorem pr_len (j : Nat) (es : List E) : (pr j es).length = (rowF (lab j) j es).length := by rw [← pr_snd, List.length_map]
theorem at_lt (r : List E) (a0 : Nat) (h0 : a0 < (pr 0 (head :: r)).length) : ∀ j, j ≤ 8 → atN (head :: r) a0 j < (pr j (head :: r)).length
 | 0, _ => h0
 | j + 1, hj => by
  have ih := at_lt r a0 h0 j (by omega); obtain ⟨h, e⟩ := step_up (j + 1) (pr j (head :: r)) (atN (head :: r) a0 j) ih (by rw [pr_head r j (by omega)]; omega); rw [← pr_up] at e; exact (List.getElem?_eq_some_iff.1 e).1
theorem steps_at (x : S44) (r : List E) (a0 : Nat) (h0 : a0 < (pr 0 (head :: r)).length) (hx : ((pr 0 (head :: r))[a0]'h0).2 = sumS (itemT x)) : ∀ j, (hj : j ≤ 8) →
  sumS (stepN x (befR (head :: r) a0) (aftR (head :: r) a0) j) = ((pr j (head :: r))[atN (head :: r) a0 j]'(at_lt r a0 h0 j hj)).2
 | 0, _ => hx.symm
 | j + 1, hj => by
  have ih := steps_at x r a0 h0 hx j (by omega); obtain ⟨h, e⟩ := step_up (j + 1) (pr j (head :: r)) (atN (head :: r) a0 j) (at_lt r a0 h0 j (by omega)) (by rw [pr_head r j (by omega)]; omega); rw [← pr_up, ← ih] at e; obtain ⟨q, e2⟩ := List.getElem?_eq_some_iff.1 e; have e3 := congrArg Prod.snd e2
  show sumS (joinT (j + 1) _) = _
  rw [bef_at _ _ _ (by omega), aft_at _ _ _ (by omega)]; exact e3.symm
theorem root_pr (key : ByteArray) (l : List S44) : labs (pr 8 (ents key l)) = [rootL key l] := by
 rw [labs_pr]; exact rootL_row key l
theorem pr_item (key : ByteArray) (l : List S44) (i : Nat) (h : i < l.length) : ∃ q : i + 1 < (pr 0 (ents key l)).length, ((pr 0 (ents key l))[i + 1]).2 = sumS (itemT l[i]) := by
 have e := labs_pr 0 (ents key l); rw [← labs_row] at e
 have hl : (pr 0 (ents key l)).length = l.length + 1 := by
  have := congrArg List.length e; unfold labs at this; rw [List.length_map, labs_len] at this; exact this
 refine ⟨by omega, ?_⟩
 have e2 : (labs (pr 0 (ents key l)))[i + 1]? = some (sumS (itemT l[i])) := by
  rw [e]; unfold labs0 ents; rw [List.map_cons, List.getElem?_cons_succ, List.getElem?_map, List.getElem?_map, List.getElem?_eq_getElem h]; rfl
 unfold labs at e2; rw [List.getElem?_map, List.getElem?_eq_getElem (by omega)] at e2; exact Option.some.inj e2
theorem prove_root (key : ByteArray) (l : List S44) (i : Nat) (h : i < l.length) : sumS (stepN l[i] (befR (ents key l) (i + 1)) (aftR (ents key l) (i + 1)) 8) = rootL key l := by
 obtain ⟨q, hx⟩ := pr_item key l i h; have e := steps_at l[i] (l.map (ent key)) (i + 1) q hx 8 (Nat.le_refl _); have h8 := root_pr key l
 have hl : (pr 8 (ents key l)).length = 1 := by
  have := congrArg List.length h8; unfold labs at this
  rwa [List.length_map] at this
 refine e.trans ?_; have ha := at_lt (l.map (ent key)) (i + 1) q 8 (Nat.le_refl _)
 have h0 : atN (head :: l.map (ent key)) (i + 1) 8 = 0 := by
  have : (pr 8 (head :: l.map (ent key))).length = 1 := hl
  omega
 have h1 : (labs (pr 8 (ents key l)))[0]? = some (rootL key l) := by rw [h8]; rfl
 unfold labs at h1; rw [List.getElem?_map] at h1
 have h2 : (pr 8 (ents key l))[0]? = (pr 8 (head :: l.map (ent key)))[atN (head :: l.map (ent key)) (i + 1) 8]? := by rw [h0]; rfl
 rw [h2, List.getElem?_eq_getElem ha] at h1; exact Option.some.inj h1
theorem cutL_mem {l : List ByteArray} {s : Nat × Nat} {x : ByteArray} (h : x ∈ cutL l s) : x ∈ l := List.mem_of_mem_take (List.mem_of_mem_drop h)
theorem cutL_len (l : List ByteArray) (s : Nat × Nat) : (cutL l s).length ≤ l.length := by unfold cutL; rw [List.length_drop, qw]; omega
theorem ok_row (key : ByteArray) (l : List S44) (hl : l.length ≤ 60) (j : Nat) (s : Nat × Nat) : oddR (cutL (labs (pr j (ents key l))) s) = false := by
 have h1 : (cutL (labs (pr j (ents key l))) s).length ≤ 64 := by
  have a1 := cutL_len (labs (pr j (ents key l))) s; have a2 := row_len j (ents key l); rw [labs_pr] at a1 ⊢; unfold ents at a1 a2 ⊢; simp only [List.length_cons, List.length_map] at a2
  omega
 unfold oddR; rw [decide_eq_false (by omega), Bool.false_or]
 cases h : odds (cutL (labs (pr j (ents key l))) s) with
 | false => rfl
 | true =>
  unfold odds at h; obtain ⟨x, hx, ho⟩ := List.any_eq_true.1 h; have hm := cutL_mem hx; rw [labs_pr] at hm; have h32 := row_size j (ents key l) x hm; unfold odd at ho; rw [h32] at ho; exact absurd ho (by decide)
theorem rows_ok (f : Nat → List ByteArray) (h : ∀ j, oddR (f j) = false) : oddRs ((List.range 8).map f) = false := by
 cases hh : oddRs ((List.range 8).map f) with
 | false => rfl
 | true =>
  unfold oddRs at hh; obtain ⟨r, hr, ho⟩ := List.any_eq_true.1 hh; obtain ⟨j, _, rfl⟩ := List.mem_map.1 hr; rw [h j] at ho; cases ho
theorem prove_may (key : ByteArray) (l : List S44) (hl : l.length ≤ 60) (a0 : Nat) (v : ByteArray) (hv : v.size ≤ 64) : mayN v (befR (ents key l) a0) (aftR (ents key l) a0) = 0 := by
 have o1 : oddRs (befR (ents key l) a0) = false := rows_ok _ (fun j => ok_row key l hl j _); have o2 : oddRs (aftR (ents key l) a0) = false := rows_ok _ (fun j => ok_row key l hl j _)
 have l1 : (befR (ents key l) a0).length = 8 := by unfold befR; simp
 have l2 : (aftR (ents key l) a0).length = 8 := by unfold aftR; simp
 unfold mayN; rw [if_neg (by omega), if_neg]
 rintro (h | h | h | h)
 ·exact h l1
 ·exact h l2
 ·rw [o1] at h; cases h
 ·rw [o2] at h; cases h
end Go.Proofs.YtolbhliepkcihaaGreatDoor.ProofPure
end
section
namespace Go.Proofs.YtolbhliepkcihaaGreatDoor.ProofPure
open Go.RowKit YtolbhliepkcihaaGreatDoorW.PrintWords Kinds Build Lab Sha Mac Codec Tower SkipOps SkipPure
def hN (s : List E) (i : Nat) : Nat := (s.getD i ⟨0, ⟨#[]⟩⟩).h
theorem hN_cons (y : E) (r : List E) (i : Nat) : hN (y :: r) (i + 1) = hN r i := by unfold hN; rw [List.getD_cons_succ]
theorem hN_zero (y : E) (r : List E) : hN (y :: r) 0 = y.h := rfl
theorem hN_nil (i : Nat) : hN [] i = 0 := by unfold hN; rw [List.getD_nil]
theorem hN_at (s : List E) (i : Nat) (h : i < s.length) : hN s i = s[i].h := by unfold hN; rw [List.getD_eq_getElem?_getD, List.getElem?_eq_getElem h]; rfl
theorem hN_lt (s : List E) (i : Nat) (h : 0 < hN s i) : i < s.length := by
 by_cases c : i < s.length
 ·exact c
 ·unfold hN at h; rw [List.getD_eq_getElem?_getD, List.getElem?_eq_none (by omega)] at h; exact absurd h (Nat.lt_irrefl 0)
def cI (j : Nat) : List E → Nat → Nat
 | _, 0 => 0
 | [], _ + 1 => 0
 | y :: r, p + 1 => if j < y.h then cI j r p + 1 else cI j r p
theorem cI_zero (j : Nat) (s : List E) : cI j s 0 = 0 := by cases s <;> rfl
theorem cI_nil (j : Nat) (p : Nat) : cI j [] p = 0 := by cases p <;> rfl
theorem cI_yes (j : Nat) (y : E) (r : List E) (p : Nat) (h : j < y.h) : cI j (y :: r) (p + 1) = cI j r p + 1 := by rw [cI, if_pos h]
theorem cI_no (j : Nat) (y : E) (r : List E) (p : Nat) (h : ¬j < y.h) : cI j (y :: r) (p + 1) = cI j r p := by rw [cI, if_neg h]
theorem pr_yes (j : Nat) (y : E) (r : List E) (h : j < y.h) : pr j (y :: r) = (y.h, lab j (y :: r)) :: pr j r := by rw [pr, if_pos h]
theorem pr_no (j : Nat) (y : E) (r : List E) (h : ¬j < y.h) : pr j (y :: r) = pr j r := by rw [pr, if_neg h]
def mem (j : Nat) (s : List E) : Nat → Nat → List Nat
 | 0, _ => []
 | d + 1, i => if j < hN s i then i :: mem j s d (i + 1) else mem j s d (i + 1)
theorem mem_shift (j : Nat) (y : E) (r : List E) : ∀ d i, mem j (y :: r) d (i + 1) = (mem j r d i).map (· + 1)
 | 0, _ => rfl
 | d + 1, i => by
  have ih := mem_shift j y r d (i + 1); rw [mem, mem, hN_cons, ih]
  by_cases c : j < hN r i
  ·rw [if_pos c, if_pos c, List.map_cons]
  ·rw [if_neg c, if_neg c]
theorem mem_add (j : Nat) (s : List E) : ∀ d i e, mem j s (d + e) i = mem j s d i ++ mem j s e (i + d)
 | 0, i, e => by rw [Nat.zero_add, mem, Nat.add_zero]; rfl
 | d + 1, i, e => by
  have ih := mem_add j s d (i + 1) e; rw [show d + 1 + e = (d + e) + 1 from by omega, mem, mem, ih, show i + 1 + d = i + (d + 1) from by omega]
  by_cases c : j < hN s i
  ·rw [if_pos c, if_pos c, List.cons_append]
  ·rw [if_neg c, if_neg c]
theorem mem_in (j : Nat) (s : List E) : ∀ d i k, k ∈ mem j s d i → i ≤ k ∧ k < i + d ∧ j < hN s k
 | 0, _, _, h => by rw [mem] at h; cases h
 | d + 1, i, k, h => by
  rw [mem] at h
  by_cases c : j < hN s i
  ·rw [if_pos c] at h
   rcases List.mem_cons.1 h with rfl | h
   ·exact ⟨Nat.le_refl _, by omega, c⟩
   ·obtain ⟨q1, q2, q3⟩ := mem_in j s d (i + 1) k h; exact ⟨by omega, by omega, q3⟩
  ·rw [if_neg c] at h; obtain ⟨q1, q2, q3⟩ := mem_in j s d (i + 1) k h; exact ⟨by omega, by omega, q3⟩
theorem cut_mem (j : Nat) : ∀ (s : List E) (p d : Nat), p + d ≤ s.length → ((labs (pr j s)).take (cI j s (p + d))).drop (cI j s p) = (mem j s d p).map fun i => lab j (s.drop i)
 | [], p, d, h => by
  obtain rfl : d = 0 := by simp at h; omega
  rw [cI_nil, cI_nil, mem]; rfl
 | y :: r, 0, 0, _ => by
  rw [Nat.add_zero, cI_zero, mem]; rfl
 | y :: r, 0, d + 1, h => by
  have ih := cut_mem j r 0 d (by simp at h; omega); rw [Nat.zero_add, cI_zero, List.drop_zero] at ih; rw [Nat.zero_add, cI_zero, List.drop_zero, mem, hN_zero, mem_shift]
  by_cases c : j < y.h
  ·rw [if_pos c, cI_yes j y r d c, pr_yes j y r c, List.map_cons, List.map_map]
   show lab j (y :: r) :: (labs (pr j r)).take (cI j r d) = _
   rw [ih]; rfl
  ·rw [if_neg c, cI_no j y r d c, pr_no j y r c, ih, List.map_map]; rfl
 | y :: r, p + 1, d, h => by
  have ih := cut_mem j r p d (by simp at h; omega); rw [show p + 1 + d = (p + d) + 1 from by omega, mem_shift, List.map_map]
  by_cases c : j < y.h
  ·rw [cI_yes j y r (p + d) c, cI_yes j y r p c, pr_yes j y r c]
   show (lab j (y :: r) :: (labs (pr j r)).take (cI j r (p + d))).drop (cI j r p + 1) = _
   rw [List.drop_succ_cons, ih]; rfl
  ·rw [cI_no j y r (p + d) c, cI_no j y r p c, pr_no j y r c, ih]; rfl
theorem gD_cI (j : Nat) : ∀ (s : List E) (i : Nat), j < hN s i → gD (pr j s) (cI j s i) = hN s i
 | [], i, h => by rw [hN_nil] at h; omega
 | y :: r, 0, h => by
  rw [hN_zero] at h; rw [pr_yes j y r h, cI_zero]; rfl
 | y :: r, i + 1, h => by
  rw [hN_cons] at h ⊢; have ih := gD_cI j r i h
  by_cases c : j < y.h
  ·rw [pr_yes j y r c, cI_yes j y r i c, ← ih]; unfold gD; rw [List.getD_cons_succ]
  ·rw [pr_no j y r c, cI_no j y r i c, ih]
theorem pos_inv (j : Nat) : ∀ (s : List E) (k : Nat), k < (pr j s).length → ∃ i, j < hN s i ∧ cI j s i = k
 | [], k, h => by
  have : (pr j ([] : List E)).length = 0 := rfl
  omega
 | y :: r, k, h => by
  by_cases c : j < y.h
  ·rw [pr_yes j y r c, List.length_cons] at h
   cases k with
   | zero => exact ⟨0, c, cI_zero _ _⟩
   | succ k =>
    obtain ⟨i, q1, q2⟩ := pos_inv j r k (by omega); exact ⟨i + 1, by rw [hN_cons]; exact q1, by rw [cI_yes j y r i c, q2]⟩
  ·rw [pr_no j y r c] at h; obtain ⟨i, q1, q2⟩ := pos_inv j r k h; exact ⟨i + 1, by rw [hN_cons]; exact q1, by rw [cI_no j y r i c, q2]⟩
theorem cI_succ (j : Nat) : ∀ (s : List E) (p : Nat), j < hN s p → cI j s (p + 1) = cI j s p + 1
 | [], p, h => by rw [hN_nil] at h; omega
 | y :: r, 0, h => by rw [cI_yes j y r 0 h, cI_zero, cI_zero]
 | y :: r, p + 1, h => by
  rw [hN_cons] at h; have ih := cI_succ j r p h
  by_cases c : j < y.h
  ·rw [cI_yes j y r _ c, cI_yes j y r _ c, ih]
  ·rw [cI_no j y r _ c, cI_no j y r _ c, ih]
theorem cI_mono (j : Nat) : ∀ (s : List E) (p q : Nat), p ≤ q → cI j s p ≤ cI j s q
 | [], p, q, _ => by rw [cI_nil, cI_nil]; exact Nat.le_refl _
 | y :: r, 0, q, _ => by rw [cI_zero]; exact Nat.zero_le _
 | y :: r, p + 1, 0, h => by omega
 | y :: r, p + 1, q + 1, h => by
  have ih := cI_mono j r p q (by omega)
  by_cases c : j < y.h
  ·rw [cI_yes j y r _ c, cI_yes j y r _ c]; omega
  ·rw [cI_no j y r _ c, cI_no j y r _ c]; exact ih
theorem cI_lt (j : Nat) (s : List E) (p q : Nat) (h : p < q) (hp : j < hN s p) : cI j s p < cI j s q := by
 have h1 := cI_succ j s p hp; have h2 := cI_mono j s (p + 1) q h
 omega
theorem cI_len (j : Nat) : ∀ s : List E, cI j s s.length = (pr j s).length
 | [] => rfl
 | y :: r => by
  have ih := cI_len j r; rw [List.length_cons]
  by_cases c : j < y.h
  ·rw [cI_yes j y r _ c, pr_yes j y r c, List.length_cons, ih]
  ·rw [cI_no j y r _ c, pr_no j y r c, ih]
theorem cI_back (j : Nat) (s : List E) (p q : Nat) (h : cI j s p < cI j s q) : p < q := by
 by_cases c : p < q
 ·exact c
 ·have := cI_mono j s q p (by omega)
  omega
theorem cI_bound (j : Nat) (s : List E) (o : Nat) (ho : j < hN s o) : cI j s o < (pr j s).length := by
 have hl := hN_lt s o (by omega); have := cI_lt j s o s.length hl ho; rw [cI_len] at this; exact this
theorem from_is (j : Nat) (s : List E) (o p : Nat) (ho : j < hN s o) (h0 : j + 1 < hN s 0) (hp : p ≤ o) (hp1 : j + 1 < hN s p) (hp2 : ∀ k, p < k → k ≤ o → hN s k ≤ j + 1) : fromN (j + 1) (pr j s) (cI j s o) = cI j s p := by
 have g0 : j + 1 < gD (pr j s) 0 := by
  have := gD_cI j s 0 (by omega); rw [cI_zero] at this
  omega
 obtain ⟨f1, f2, f3⟩ := from_spec (j + 1) (pr j s) g0 (cI j s o); have hb := cI_bound j s o ho; generalize fromN (j + 1) (pr j s) (cI j s o) = f at *
 rcases Nat.lt_trichotomy f (cI j s p) with c | c | c
 ·have q1 := f3 (cI j s p) c (cI_mono j s p o hp); rw [gD_cI j s p (by omega)] at q1
  omega
 ·exact c
 ·obtain ⟨i, i1, i2⟩ := pos_inv j s f (by omega); have q1 : p < i := cI_back j s p i (by omega)
  have q2 : i ≤ o := by
   by_cases d : i ≤ o
   ·exact d
   ·have := cI_lt j s o i (by omega) ho
    omega
  have q3 := hp2 i q1 q2; rw [← i2, gD_cI j s i i1] at f2
  omega
theorem to_is (j : Nat) (s : List E) (o q : Nat) (ho : j < hN s o) (hq0 : o + 1 ≤ q) (hq1 : q ≤ s.length) (hq2 : ∀ k, o + 1 ≤ k → k < q → hN s k ≤ j + 1) (hq3 : q = s.length ∨ j + 1 < hN s q) :
  toN (j + 1) (pr j s) ((pr j s).length - (cI j s o + 1)) (cI j s o + 1) = cI j s q := by
 have hb := cI_bound j s o ho; obtain ⟨t1, t2, t3, t4⟩ := to_spec (j + 1) (pr j s) ((pr j s).length - (cI j s o + 1)) (cI j s o + 1) (by omega); generalize toN (j + 1) (pr j s) ((pr j s).length - (cI j s o + 1)) (cI j s o + 1) = e at *; have hm := cI_lt j s o q hq0 ho
 rcases Nat.lt_trichotomy e (cI j s q) with c | c | c
 ·have hl := cI_mono j s q s.length hq1; rw [cI_len] at hl; obtain ⟨i, i1, i2⟩ := pos_inv j s e (by omega); have c1 : o < i := cI_back j s o i (by omega); have c2 : i < q := cI_back j s i q (by omega); have c3 := hq2 i c1 c2
  rcases t4 with t4 | t4
  ·omega
  ·rw [← i2, gD_cI j s i i1] at t4
   omega
 ·exact c
 ·rcases hq3 with hq3 | hq3
  ·rw [hq3, cI_len] at c
   omega
  ·have := t3 (cI j s q) (by omega) c; rw [gD_cI j s q (by omega)] at this
   omega
theorem cnt_take (j : Nat) : ∀ (s : List E) (p : Nat), cnt (j + 1) ((pr j s).take (cI j s p)) = cI (j + 1) s p
 | [], p => by rw [cI_nil, cI_nil]; rfl
 | y :: r, 0 => by rw [cI_zero, cI_zero]; rfl
 | y :: r, p + 1 => by
  have ih := cnt_take j r p; unfold cnt at ih ⊢
  by_cases c : j < y.h
  ·rw [cI_yes j y r p c, pr_yes j y r c, List.take_succ_cons]
   by_cases d : j + 1 < y.h
   ·rw [List.filter_cons_of_pos (by simpa using d), List.length_cons, ih, cI_yes (j + 1) y r p d]
   ·rw [List.filter_cons_of_neg (by simpa using d), ih, cI_no (j + 1) y r p d]
  ·rw [cI_no j y r p c, pr_no j y r c, ih, cI_no (j + 1) y r p (by omega)]
/-! ### the last one up to a place that is above a level; the first one behind it -/
def ownN (t : Nat) (s : List E) : Nat → Nat
 | 0 => 0
 | i + 1 => if t < hN s (i + 1) then i + 1 else ownN t s i
theorem own_spec (t : Nat) (s : List E) (h0 : t < hN s 0) : ∀ i, ownN t s i ≤ i ∧ t < hN s (ownN t s i) ∧ ∀ k, ownN t s i < k → k ≤ i → hN s k ≤ t
 | 0 => ⟨Nat.le_refl _, h0, fun k h1 h2 => absurd h1 (by rw [ownN]; omega)⟩
 | i + 1 => by
  obtain ⟨h1, h2, h3⟩ := own_spec t s h0 i
  by_cases c : t < hN s (i + 1)
  ·rw [ownN, if_pos c]; exact ⟨Nat.le_refl _, c, fun k q1 q2 => absurd q1 (by omega)⟩
  ·rw [ownN, if_neg c]; refine ⟨by omega, h2, fun k q1 q2 => ?_⟩
   by_cases e : k = i + 1
   ·subst e
    omega
   ·exact h3 k q1 (by omega)
theorem own_self (t : Nat) (s : List E) (i : Nat) (h : t < hN s i) : ownN t s i = i := by
 cases i with
 | zero => rfl
 | succ i => rw [ownN, if_pos h]
def stopN (t : Nat) (s : List E) : Nat → Nat → Nat
 | 0, i => i
 | d + 1, i => if t < hN s i then i else stopN t s d (i + 1)
theorem stop_spec (t : Nat) (s : List E) : ∀ d i, i + d = s.length → i ≤ stopN t s d i ∧ stopN t s d i ≤ s.length ∧ (∀ k, i ≤ k → k < stopN t s d i → hN s k ≤ t) ∧ (stopN t s d i = s.length ∨ t < hN s (stopN t s d i))
 | 0, i, h => ⟨Nat.le_refl _, by rw [stopN]; omega, fun k h1 h2 => absurd h2 (by rw [stopN]; omega), .inl (by rw [stopN]; omega)⟩
 | d + 1, i, h => by
  by_cases c : t < hN s i
  ·rw [stopN, if_pos c]; exact ⟨Nat.le_refl _, by omega, fun k q1 q2 => absurd q2 (by omega), .inr c⟩
  ·obtain ⟨h1, h2, h3, h4⟩ := stop_spec t s d (i + 1) (by omega); rw [stopN, if_neg c]; refine ⟨by omega, h2, fun k q1 q2 => ?_, h4⟩
   by_cases e : k = i
   ·subst e
    omega
   ·exact h3 k (by omega) q2
theorem cI_all (s : List E) : ∀ p, p ≤ s.length → (∀ k, k < p → 0 < hN s k) → cI 0 s p = p
 | 0, _, _ => cI_zero _ _
 | p + 1, h, hk => by
  rw [cI_succ 0 s p (hk p (by omega)), cI_all s p (by omega) (fun k q => hk k (by omega))]
theorem atN_is (s : List E) (a0 : Nat) (ha : a0 < s.length) (hpos : ∀ k, k < s.length → 0 < hN s k) (h9 : hN s 0 = 9) : ∀ j, j ≤ 8 → atN s a0 j = cI j s (ownN j s a0)
 | 0, _ => by
  rw [own_self 0 s a0 (hpos a0 ha), cI_all s a0 (by omega) (fun k q => hpos k (by omega))]; rfl
 | j + 1, hj => by
  have ih := atN_is s a0 ha hpos h9 j (by omega); obtain ⟨o1, o2, o3⟩ := own_spec j s (by omega) a0; obtain ⟨p1, p2, p3⟩ := own_spec (j + 1) s (by omega) a0
  have hp : ownN (j + 1) s a0 ≤ ownN j s a0 := by
   by_cases c : ownN (j + 1) s a0 ≤ ownN j s a0
   ·exact c
   ·have := o3 _ (by omega) p1
    omega
  rw [atN, ih, from_is j s _ (ownN (j + 1) s a0) o2 (by omega) hp p2 (fun k q1 q2 => p3 k q1 (by omega)), cnt_take]
theorem rows_is (s : List E) (a0 : Nat) (ha : a0 < s.length) (hpos : ∀ k, k < s.length → 0 < hN s k) (h9 : hN s 0 = 9) (j : Nat) (hj : j < 8) (o p q : Nat) (ho : ownN j s a0 = o) (hp : ownN (j + 1) s a0 = p) (hq : stopN (j + 1) s (s.length - (p + 1)) (p + 1) = q) :
  p ≤ o ∧ o < q ∧ q ≤ s.length ∧ j < hN s p ∧ j < hN s o ∧ befN (j + 1) (pr j s) (atN s a0 j) = (mem j s (o - p) p).map (fun i => lab j (s.drop i)) ∧ aftN (j + 1) (pr j s) (atN s a0 j) = (mem j s (q - (o + 1)) (o + 1)).map (fun i => lab j (s.drop i)) := by
 have hat := atN_is s a0 ha hpos h9 j (by omega); obtain ⟨o1, o2, o3⟩ := own_spec j s (by omega) a0; obtain ⟨p1, p2, p3⟩ := own_spec (j + 1) s (by omega) a0; rw [ho] at o1 o2 o3 hat; rw [hp] at p1 p2 p3; clear ho hp
 have hpo : p ≤ o := by
  by_cases c : p ≤ o
  ·exact c
  ·have := o3 p (by omega) p1
   omega
 have hol := hN_lt s o (by omega); obtain ⟨q1, q2, q3, q4⟩ := stop_spec (j + 1) s (s.length - (p + 1)) (p + 1) (by omega); rw [hq] at q1 q2 q3 q4; clear hq
 have hoq : o < q := by
  by_cases c : o < q
  ·exact c
  ·rcases q4 with q4 | q4
   ·omega
   ·have := p3 q (by omega) (by omega)
    omega
 refine ⟨hpo, hoq, q2, by omega, o2, ?_, ?_⟩
 ·unfold befN; rw [hat, from_is j s o p o2 (by omega) hpo p2 (fun k c1 c2 => p3 k c1 (by omega))]; unfold cutL; have := cut_mem j s p (o - p) (by omega); rw [show p + (o - p) = o from by omega] at this; exact this
 ·unfold aftN; rw [hat, to_is j s o q o2 hoq q2 (fun k c1 c2 => q3 k (by omega) c2) q4, ← cI_succ j s o o2]; unfold cutL; have := cut_mem j s (o + 1) (q - (o + 1)) (by omega); rw [show o + 1 + (q - (o + 1)) = q from by omega] at this; exact this
end Go.Proofs.YtolbhliepkcihaaGreatDoor.ProofPure
end
section
namespace Go.Proofs.YtolbhliepkcihaaGreatDoor.QLK
open Go.RowKit Kinds YtolbhliepkcihaaGreatDoorW.PrintWords YtolbhliepkcihaaGreatDoorW.PrintLast YtolbhliepkcihaaGreatDoorW.PrintMore
attribute [local go_sem] max2_int min2_int max_two min_two max_three min_three max_four min_four   -- for this text's walks alone
set_option linter.unusedVariables false
set_option linter.unusedSimpArgs false
def errW : Option Int → Value
 | none => .nilIface
 | some c => .iface 0 (.int .i64 c)
theorem errW_none : errW none = .nilIface := rfl
theorem errW_some (c : Int) : errW (some c) = .iface 0 (.int .i64 c) := rfl
end Go.Proofs.YtolbhliepkcihaaGreatDoor.QLK
end
section
namespace Go.Proofs.YtolbhliepkcihaaGreatDoor.QLK
open Go.RowKit Kinds YtolbhliepkcihaaGreatDoorW.PrintWords YtolbhliepkcihaaGreatDoorW.PrintLast YtolbhliepkcihaaGreatDoorW.PrintMore
attribute [local go_sem] max2_int min2_int max_two min_two max_three min_three max_four min_four   -- for this text's walks alone
set_option linter.unusedVariables false
set_option linter.unusedSimpArgs false
/-! ### slices_Equal_string_string: function 24 -/
def slices_Equal_string_string.l0 : Nat → List ByteArray → List ByteArray → Int → Int → Option (Bool)
 | 0, _, _, _, _ => none
 | k + 1, x0, x1, x12, x13 => if x13 < x12 then (if 0 ≤ x13 then (if x13 < (x0.length : Int) then (if x13 < (x1.length : Int) then (if (rdOf ByteArray.empty x0 x13).toList = (rdOf ByteArray.empty x1 x13).toList then (slices_Equal_string_string.l0 k x0 x1 x12 (wrap64 (x13 + 1))) else (some false)) else (none)) else (none)) else (none)) else (some true)
def slices_Equal_string_string.f (k : Nat) (l0 : List ByteArray) (l1 : List ByteArray) : Option (Bool) := if (l0.length : Int) = (l1.length : Int) then (slices_Equal_string_string.l0 k l0 l1 (l0.length : Int) 0) else (some false)
set_option maxHeartbeats 8000000 in
set_option maxRecDepth 100000 in
theorem slices_Equal_string_string.calls (k : Nat) (A0 : Option Addr) (c0 : Nat) (l0 : List ByteArray) (A1 : Option Addr) (c1 : Nat) (l1 : List ByteArray) (r : Bool) (w : World) (hr0 : Kd.C Kd.string w A0 l0.length l0) (hc0 : l0.length ≤ c0) (hr1 : Kd.C Kd.string w A1 l1.length l1) (hc1 : l1.length ≤ c1) (h : slices_Equal_string_string.f k l0 l1 = some r) :
  Calls Tryz.prog 24 #[.slice A0 l0.length c0, .slice A1 l1.length c1] w fun e w' => e = .returned (.bool r) ∧ Drawn0 w w' := by
 have HR0 := qf hr0; have HC0 := qf hc0; clear hr0 hc0; have HR1 := qf hr1; have HC1 := qf hc1; clear hr1 hc1; have H : (if (l0.length : Int) = (l1.length : Int) then (slices_Equal_string_string.l0 k l0 l1 (l0.length : Int) 0) else (some false)) = some r := h; clear h
 by_cases c3 : (l0.length : Int) = (l1.length : Int)
 ·rw [if_pos c3] at H; have c3b0 : ((l0.length : Int) == (l1.length : Int)) = true := beq_iff_eq.mpr c3; have c3b1 : ((l0.length : Int) != (l1.length : Int)) = false := bne_eq_false_iff_eq.mpr c3
  have c3b2 : (l0.length == l1.length) = true := by first | simpa using c3 | (simp at c3 ⊢; omega)
  clear c3; have H' := qf H; clear H
  go_enter Tryz.func24, Tryz.ntmps24
  go_wp2
  repeat (go_quiet (fail); try go_wp2)
  go_loopg [13] k (fun kq v13 w' => ∃ (x13_1 : Int), v13 = .int .i64 x13_1 ∧ Aside0 (slices_Equal_string_string.l0 kq l0 l1 (l0.length : Int) x13_1 = some r) ∧ Aside0 (kq ≤ k) ∧ Drawn0 w w')
  case atStart => exact ⟨(0), (by first | rfl | (simp; done) | (simp [*]; done)), H', ⟨Nat.le_refl _⟩, by repeat (first | exact Drawn0.refl _ | apply Drawn0.step)⟩
  case round =>
   clear H'; (try clear c1); (try clear c2); (try clear p2); (try clear c3); (try clear c3b0); (try clear c3b1); (try clear c3b2); obtain ⟨x13_1, rfl, HA, HK1, ⟨m1, rfl⟩⟩ := hrel
   cases gk with
   | zero => exact absurd HA.out (by simp [slices_Equal_string_string.l0])
   | succ k1 =>
    have H := HA.out; clear HA; simp only [slices_Equal_string_string.l0] at H
    by_cases c4 : x13_1 < (l0.length : Int)
    ·rw [if_pos c4] at H; have c4b0 := qj c4; clear c4
     by_cases c5 : 0 ≤ x13_1
     ·rw [if_pos c5] at H; have c5b0 := qj c5; clear c5
      by_cases c6 : x13_1 < (l0.length : Int)
      ·rw [if_pos c6] at H; have c6b0 := qj c6; clear c6
       by_cases c7 : x13_1 < (l1.length : Int)
       ·rw [if_pos c7] at H; have c7b0 := qj c7; clear c7
        by_cases c8 : (rdOf ByteArray.empty l0 x13_1).toList = (rdOf ByteArray.empty l1 x13_1).toList
        ·rw [if_pos c8] at H; have c8b0 : ((rdOf ByteArray.empty l0 x13_1).toList == (rdOf ByteArray.empty l1 x13_1).toList) = true := beq_iff_eq.mpr c8; have c8b1 : ((rdOf ByteArray.empty l0 x13_1).toList != (rdOf ByteArray.empty l1 x13_1).toList) = false := bne_eq_false_iff_eq.mpr c8; clear c8; have H' := qf H; clear H; have p101 : 0 ≤ (x13_1 : Int) := qe (by with_reducible assumption); have q101 : x13_1 < (l0.length : Int) := qe (by with_reducible assumption); obtain ⟨ad101, e101, hx101_0⟩ := Kd.at_string HR0.out x13_1 p101 q101; cases e101; replace p101 := eq_true p101; replace q101 := eq_true q101; have p102 : 0 ≤ (x13_1 : Int) := qe (by with_reducible assumption); have q102 : x13_1 < (l1.length : Int) := qe (by with_reducible assumption); obtain ⟨ad102, e102, hx102_0⟩ := Kd.at_string HR1.out x13_1 p102 q102; cases e102; replace p102 := eq_true p102; replace q102 := eq_true q102; go_wp2
         repeat (go_quiet (fail); try go_wp2)
         go_roundg k1
         case measure => have := HK1.out; omega
         case rel => exact ⟨(wrap64 (x13_1 + 1)), (by first | rfl | (simp; done) | (simp [*]; done)), H', ⟨by have := HK1.out; omega⟩, by repeat (first | exact Drawn0.refl _ | apply Drawn0.step)⟩
        ·rw [if_neg c8] at H; have c8b0 : ((rdOf ByteArray.empty l0 x13_1).toList == (rdOf ByteArray.empty l1 x13_1).toList) = false := beq_eq_false_iff_ne.mpr c8; have c8b1 : ((rdOf ByteArray.empty l0 x13_1).toList != (rdOf ByteArray.empty l1 x13_1).toList) = true := bne_iff_ne.mpr c8; obtain rfl := Option.some.inj H; have p101 : 0 ≤ (x13_1 : Int) := qe (by with_reducible assumption); have q101 : x13_1 < (l0.length : Int) := qe (by with_reducible assumption); obtain ⟨ad101, e101, hx101_0⟩ := Kd.at_string HR0.out x13_1 p101 q101; cases e101; replace p101 := eq_true p101; replace q101 := eq_true q101; have p102 : 0 ≤ (x13_1 : Int) := qe (by with_reducible assumption); have q102 : x13_1 < (l1.length : Int) := qe (by with_reducible assumption); obtain ⟨ad102, e102, hx102_0⟩ := Kd.at_string HR1.out x13_1 p102 q102; cases e102; replace p102 := eq_true p102; replace q102 := eq_true q102; go_wp2
         repeat (go_quiet (fail); try go_wp2)
         go_ret; exact ⟨by first | rfl | (simp; done) | (simp [*]; done), by repeat (first | exact Drawn0.refl _ | apply Drawn0.step)⟩
       ·rw [if_neg c7] at H; exact absurd H (by simp)
      ·rw [if_neg c6] at H; exact absurd H (by simp)
     ·rw [if_neg c5] at H; exact absurd H (by simp)
    ·rw [if_neg c4] at H; have c4b0 := decide_eq_false c4; clear c4; obtain rfl := Option.some.inj H; go_wp2
     repeat (go_quiet (fail); try go_wp2)
     go_ret; exact ⟨by first | rfl | (simp; done) | (simp [*]; done), by repeat (first | exact Drawn0.refl _ | apply Drawn0.step)⟩
 ·rw [if_neg c3] at H; have c3b0 : ((l0.length : Int) == (l1.length : Int)) = false := beq_eq_false_iff_ne.mpr c3; have c3b1 : ((l0.length : Int) != (l1.length : Int)) = true := bne_iff_ne.mpr c3
  have c3b2 : (l0.length == l1.length) = false := by first | simpa using c3 | (simp at c3 ⊢; omega)
  obtain rfl := Option.some.inj H
  go_enter Tryz.func24, Tryz.ntmps24
  go_wp2
  repeat (go_quiet (fail); try go_wp2)
  go_ret; exact ⟨by first | rfl | (simp; done) | (simp [*]; done), by repeat (first | exact Drawn0.refl _ | apply Drawn0.step)⟩
end Go.Proofs.YtolbhliepkcihaaGreatDoor.QLK
end
section
namespace Go.Proofs.YtolbhliepkcihaaGreatDoor.Lab
open Go.RowKit YtolbhliepkcihaaGreatDoorW.PrintWords Kinds Build Sha Mac Codec Tower Mem
abbrev RR := List (List ByteArray)
theorem equal_l0 (a b : List ByteArray) (hab : a.length = b.length) (hn : a.length ≤ 1000000) (d : Nat) : ∀ i, i + d = a.length → Ev (fun k => QLK.slices_Equal_string_string.l0 k a b (a.length : Int) (i : Int)) (decide (a.drop i = b.drop i)) := by
 induction d with
 | zero =>
  intro i hi; refine Ev.step (fun k => ?_) (Ev.now _); rw [QLK.slices_Equal_string_string.l0, if_neg (by omega), List.drop_eq_nil_of_le (by omega), List.drop_eq_nil_of_le (by omega)]; rfl
 | succ d ih =>
  intro i hi
  have h1 : i < a.length := by omega
  have h2 : i < b.length := by omega
  have e1 : rdOf ByteArray.empty a (i : Int) = a[i] := rd_str a i h1; have e2 : rdOf ByteArray.empty b (i : Int) = b[i] := rd_str b i h2; rw [List.drop_eq_getElem_cons h1, List.drop_eq_getElem_cons h2]
  by_cases c : a[i] = b[i]
  ·have e : decide (a[i] :: a.drop (i + 1) = b[i] :: b.drop (i + 1)) = decide (a.drop (i + 1) = b.drop (i + 1)) := by
    rw [decide_eq_decide]; exact ⟨fun h => (List.cons.inj h).2, fun h => by rw [c, h]⟩
   rw [e]; refine Ev.step (fun k => ?_) (ih (i + 1) (by omega)); rw [QLK.slices_Equal_string_string.l0, if_pos (by omega), if_pos (by omega), if_pos (by omega), if_pos (by omega), e1, e2, if_pos (by rw [c]), w_succ i a.length h1 (by omega)]
  ·have e : decide (a[i] :: a.drop (i + 1) = b[i] :: b.drop (i + 1)) = false := decide_eq_false (fun h => c (List.cons.inj h).1); rw [e]; refine Ev.step (fun k => ?_) (Ev.now _); rw [QLK.slices_Equal_string_string.l0, if_pos (by omega), if_pos (by omega), if_pos (by omega), if_pos (by omega), e1, e2, if_neg (fun h => c (Sha.toList_inj h))]
theorem equal_ev (a b : List ByteArray) (hn : a.length ≤ 1000000) : Ev (fun k => QLK.slices_Equal_string_string.f k a b) (decide (a = b)) := by
 by_cases c : a.length = b.length
 ·refine Ev.congr (fun k => ?_) (equal_l0 a b c hn a.length 0 (by omega)); unfold QLK.slices_Equal_string_string.f; rw [if_pos (by omega)]; rfl
 ·have e : decide (a = b) = false := decide_eq_false (fun h => c (by rw [h])); rw [e]; refine Ev.congr (fun k => ?_) (Ev.now _); unfold QLK.slices_Equal_string_string.f; rw [if_neg (by omega)]
theorem like1 (A B : Option Addr) (c d : Nat) (a b : List ByteArray) (w : World) (ha : Kd.C Kd.string w A a.length a) (hc : a.length ≤ c) (hb : Kd.C Kd.string w B b.length b) (hd : b.length ≤ d) (hn : a.length ≤ 1000000) :
  Calls Tryz.prog 23 #[.slice A a.length c, .slice B b.length d] w fun e w' => e = .returned (.bool (decide (a = b))) ∧ Below w.heap.size w w' := by
 obtain ⟨k, hk⟩ := (equal_ev a b hn).rounds; have H := Lib.hid (QLK.slices_Equal_string_string.calls k A c a B d b _ w ha hc hb hd hk); clear ha hb hk hn hc hd; generalize decide (a = b) = t at *
 go_enter Tryz.func23, Tryz.ntmps23
 go_wp2_with (go_at_call 24; refine (H.out).mono ?_; rintro e w1 ⟨rfl, hq⟩; have HQ := Lib.hid hq; clear hq)
 go_ret; exact ⟨rfl, HQ.out.below⟩
structure T2 (b0 : Nat) (w0 : World) (A B : Addr) (x y : RR) (W : World) : Prop where
 hx : ∀ k, (hk : k < x.length) → ∃ P d, W.cell? (A.add k) = some (.slice P x[k].length d) ∧ x[k].length ≤ d ∧ Kd.C Kd.string W P x[k].length x[k]
 hy : ∀ k, (hk : k < y.length) → ∃ P d, W.cell? (B.add k) = some (.slice P y[k].length d) ∧ y[k].length ≤ d ∧ Kd.C Kd.string W P y[k].length y[k]
 hb : Below b0 w0 W
set_option maxRecDepth 100000 in
set_option maxHeartbeats 4000000 in
theorem eqf_ne (A B : Option Addr) (c d : Nat) (n m : Nat) (fv : Value) (hne : n ≠ m) (w : World) :
  Calls Tryz.prog 25 #[.slice A n c, .slice B m d, fv] w fun e w' => e = .returned (.bool false) ∧ w' = w := by
 have d1 : ((n : Int) != (m : Int)) = true := bne_iff_ne.2 (by omega)
 go_enter Tryz.func25, Tryz.ntmps25
 go_wp2; go_ret; exact ⟨rfl, rfl⟩
theorem take_eq_snoc (x y : RR) (k : Nat) (h1 : k < x.length) (h2 : k < y.length) (e : x.take k = y.take k) (e2 : x[k] = y[k]) : x.take (k + 1) = y.take (k + 1) := by
 rw [List.take_succ_eq_append_getElem h1, List.take_succ_eq_append_getElem h2, e, e2]
theorem ne_of_at (x y : RR) (k : Nat) (h1 : k < x.length) (h2 : k < y.length) (e : x[k] ≠ y[k]) : decide (x = y) = false := decide_eq_false (fun h => by subst h; exact e rfl)
theorem eq_of_take (x y : RR) (k : Nat) (h1 : k = x.length) (h2 : k = y.length) (e : x.take k = y.take k) : decide (x = y) = true := qj (by
 subst h1; rw [List.take_length, h2, List.take_length] at e
 exact e)
theorem T2.below {b0 : Nat} {w0 : World} {A B : Addr} {x y : RR} {W W' : World} (t : T2 b0 w0 A B x y W) (hz : b0 ≤ W.heap.size) (h : Below W.heap.size W W') : T2 b0 w0 A B x y W' where
 hx := fun k hk => by
  obtain ⟨P, d, h1, h2, h3⟩ := t.hx k hk; exact ⟨P, d, (h.cell (qd _ _ h1)).trans h1, h2, Kd.C_below h3 h⟩
 hy := fun k hk => by
  obtain ⟨P, d, h1, h2, h3⟩ := t.hy k hk; exact ⟨P, d, (h.cell (qd _ _ h1)).trans h1, h2, Kd.C_below h3 h⟩
 hb := t.hb.trans (h.mono hz)
set_option maxRecDepth 100000 in
set_option maxHeartbeats 4000000 in
theorem eqf_eq (A B : Addr) (c d : Nat) (x y : RR) (hl : x.length = y.length) (hz : ∀ r, r ∈ x → r.length ≤ 1000) (hn : x.length ≤ 1000) (w : World) (hT : T2 w.heap.size w A B x y w) :
  Calls Tryz.prog 25 #[.slice (some A) x.length c, .slice (some B) x.length d, .func (.func 23) #[] #[]] w fun e w' => e = .returned (.bool (decide (x = y))) ∧ Below w.heap.size w w' := by
 have T := qf hT; have HZ := Lib.hid hz; have HL := Lib.hid hl; clear hT hz hl
 go_enter Tryz.func25, Tryz.ntmps25
 go_wp2
 go_loopw [17] (fun iv wq => ∃ k : Nat, k ≤ x.length ∧ iv = .int .i64 k ∧ Aside0 (x.take k = y.take k) ∧ Aside0 (T2 w.heap.size w A B x y wq)) (fun iv _ => x.length - (intOf iv).toNat)
 case atStart => exact ⟨0, Nat.zero_le _, rfl, ⟨rfl⟩, T⟩
 case round =>
  obtain ⟨k, hk, rfl, HO, T⟩ := hrel
  by_cases hlt : k < x.length
  ·have hlt2 : k < y.length := by have := HL.out; omega
   obtain ⟨P1, d1, c1, l1, k1⟩ := T.out.hx k hlt; obtain ⟨P2, d2, c2, l2, k2⟩ := T.out.hy k hlt2; have G := Lib.hid (like1 P1 P2 d1 d2 x[k] y[k] wr k1 l1 k2 l2 (Nat.le_trans (HZ.out _ (List.getElem_mem hlt)) (by decide))); have HS := Lib.hid (take_eq_snoc x y k hlt hlt2 HO.out); have HN := Lib.hid (ne_of_at x y k hlt hlt2); clear k1 k2; generalize x[k] = r1 at *; generalize y[k] = r2 at *
   cases ho : decide (r1 = r2) with
   | true =>
    rw [ho] at G; have he := qe ho; have HS2 := qf (HS.out he); clear ho he HS HN
    go_wp2_with (go_at_call 23; refine (G.out).mono ?_; rintro e w1 ⟨rfl, hb⟩; replace T := qf (T.out.below T.out.hb.size hb); clear hb)
    go_roundw
    case rel => exact ⟨k + 1, by omega, by go_num, HS2, T⟩
    case measure => simp [intOf]; omega
   | false =>
    rw [ho] at G; have he := of_decide_eq_false ho; have HN2 := Lib.hid (HN.out he); clear ho he HS HN
    go_wp2_with (go_at_call 23; refine (G.out).mono ?_; rintro e w1 ⟨rfl, hb⟩; replace T := qf (T.out.below T.out.hb.size hb); clear hb)
    go_ret; exact ⟨by rw [HN2.out]; rfl, T.out.hb⟩
  ·obtain rfl : k = x.length := by omega
   have he := Lib.hid (eq_of_take x y _ rfl HL.out HO.out); go_wp2; go_ret; exact ⟨by rw [he.out]; rfl, T.out.hb⟩
set_option maxRecDepth 100000 in
theorem eqf_nil (A B : Option Addr) (c d : Nat) (fv : Value) (w : World) :
  Calls Tryz.prog 25 #[.slice A 0 c, .slice B 0 d, fv] w fun e w' => e = .returned (.bool true) ∧ w' = w := by
 go_enter Tryz.func25, Tryz.ntmps25
 go_wp2
 go_loop [17] (fun iv => iv = .int .i64 0) (fun _ => 0)
 case atStart => rfl
 case round =>
  obtain rfl := hrel; go_wp2; go_ret; exact ⟨rfl, rfl⟩
theorem eqf_any (A B : Option Addr) (c d : Nat) (x y : RR) (hz : ∀ r, r ∈ x → r.length ≤ 1000) (hn : x.length ≤ 1000) (w : World) (hx : Kd.C (Kd.slice 9 Kd.string) w A x.length x) (hy : Kd.C (Kd.slice 9 Kd.string) w B y.length y) :
  Calls Tryz.prog 25 #[.slice A x.length c, .slice B y.length d, .func (.func 23) #[] #[]] w fun e w' => e = .returned (.bool (decide (x = y))) ∧ Below w.heap.size w w' := by
 by_cases h : x.length = y.length
 ·by_cases h0 : 0 < x.length
  ·obtain ⟨A1, rfl, h1⟩ := rows_at hx h0; obtain ⟨B1, rfl, h2⟩ := rows_at hy (by omega); rw [← h]; exact eqf_eq A1 B1 c d x y h hz hn w ⟨h1, h2, Below.refl _ _⟩
  ·obtain rfl : x = [] := List.eq_nil_of_length_eq_zero (by omega); obtain rfl : y = [] := List.eq_nil_of_length_eq_zero (by rw [← h]; rfl)
   exact (eqf_nil A B c d _ w).mono fun e w' q => ⟨q.1, by rw [q.2]; exact Below.refl _ _⟩
 ·have e : decide (x = y) = false := decide_eq_false (fun q => h (by rw [q])); rw [e]
  exact (eqf_ne A B c d _ _ _ h w).mono fun e w' q => ⟨q.1, by rw [q.2]; exact Below.refl _ _⟩
end Go.Proofs.YtolbhliepkcihaaGreatDoor.Lab
end
section
namespace Go.Proofs.YtolbhliepkcihaaGreatDoor.QRP
open Go.RowKit Kinds YtolbhliepkcihaaGreatDoorW.PrintWords YtolbhliepkcihaaGreatDoorW.PrintLast YtolbhliepkcihaaGreatDoorW.PrintMore
attribute [local go_sem] max2_int min2_int max_two min_two max_three min_three max_four min_four   -- for this text's walks alone
set_option linter.unusedVariables false
set_option linter.unusedSimpArgs false
def errW : Option Int → Value
 | none => .nilIface
 | some c => .iface 0 (.int .i64 c)
theorem errW_none : errW none = .nilIface := rfl
theorem errW_some (c : Int) : errW (some c) = .iface 0 (.int .i64 c) := rfl
theorem info3 : (Tryz.prog.info? 3).map (fun i => (i.zero, i.size, i.bytes)) = some (some (.int .i64 0), 1, 8) := by kernel_rfl
theorem info9 : (Tryz.prog.info? 9).map (fun i => (i.zero, i.size, i.bytes)) = some (some (.string ⟨#[]⟩), 1, 16) := by kernel_rfl
theorem info47 : (Tryz.prog.info? 47).map (fun i => (i.zero, i.size, i.bytes)) = some (some (.slice none 0 0), 1, 24) := by kernel_rfl
end Go.Proofs.YtolbhliepkcihaaGreatDoor.QRP
end
section
namespace Go.Proofs.YtolbhliepkcihaaGreatDoor.QRP
open Go.RowKit Kinds YtolbhliepkcihaaGreatDoorW.PrintWords YtolbhliepkcihaaGreatDoorW.PrintLast YtolbhliepkcihaaGreatDoorW.PrintMore
attribute [local go_sem] max2_int min2_int max_two min_two max_three min_three max_four min_four   -- for this text's walks alone
set_option linter.unusedVariables false
set_option linter.unusedSimpArgs false
/-! ### saltusref04_Same: function 26 -/
def saltusref04_Same.l0 : Nat → List ByteArray → List ByteArray → Int → Int → Option (Bool)
 | 0, _, _, _, _ => none
 | k + 1, x0, x1, x12, x13 => if x13 < x12 then (if 0 ≤ x13 then (if x13 < (x0.length : Int) then (if x13 < (x1.length : Int) then (if (rdOf ByteArray.empty x0 x13).toList = (rdOf ByteArray.empty x1 x13).toList then (saltusref04_Same.l0 k x0 x1 x12 (wrap64 (x13 + 1))) else (some false)) else (none)) else (none)) else (none)) else (some true)
def saltusref04_Same.f (k : Nat) (l0 : List ByteArray) (l1 : List ByteArray) : Option (Bool) := if (l0.length : Int) = (l1.length : Int) then (saltusref04_Same.l0 k l0 l1 (l0.length : Int) 0) else (some false)
set_option maxHeartbeats 8000000 in
set_option maxRecDepth 100000 in
theorem saltusref04_Same.calls (k : Nat) (A0 : Option Addr) (c0 : Nat) (l0 : List ByteArray) (A1 : Option Addr) (c1 : Nat) (l1 : List ByteArray) (r : Bool) (w : World) (hr0 : Kd.C Kd.string w A0 l0.length l0) (hc0 : l0.length ≤ c0) (hr1 : Kd.C Kd.string w A1 l1.length l1) (hc1 : l1.length ≤ c1) (h : saltusref04_Same.f k l0 l1 = some r) :
  Calls Tryz.prog 26 #[.slice A0 l0.length c0, .slice A1 l1.length c1] w fun e w' => e = .returned (.bool r) ∧ Drawn0 w w' := by
 have HR0 := qf hr0; have HC0 := qf hc0; clear hr0 hc0; have HR1 := qf hr1; have HC1 := qf hc1; clear hr1 hc1; have H : (if (l0.length : Int) = (l1.length : Int) then (saltusref04_Same.l0 k l0 l1 (l0.length : Int) 0) else (some false)) = some r := h; clear h
 by_cases c3 : (l0.length : Int) = (l1.length : Int)
 ·rw [if_pos c3] at H; have c3b0 : ((l0.length : Int) == (l1.length : Int)) = true := beq_iff_eq.mpr c3; have c3b1 : ((l0.length : Int) != (l1.length : Int)) = false := bne_eq_false_iff_eq.mpr c3
  have c3b2 : (l0.length == l1.length) = true := by first | simpa using c3 | (simp at c3 ⊢; omega)
  clear c3; have H' := qf H; clear H
  go_enter Tryz.func26, Tryz.ntmps26
  go_wp2
  repeat (go_quiet (fail); try go_wp2)
  go_loopg [13] k (fun kq v13 w' => ∃ (x13_1 : Int), v13 = .int .i64 x13_1 ∧ Aside0 (saltusref04_Same.l0 kq l0 l1 (l0.length : Int) x13_1 = some r) ∧ Aside0 (kq ≤ k) ∧ Drawn0 w w')
  case atStart => exact ⟨(0), (by first | rfl | (simp; done) | (simp [*]; done)), H', ⟨Nat.le_refl _⟩, by repeat (first | exact Drawn0.refl _ | apply Drawn0.step)⟩
  case round =>
   clear H'; (try clear c1); (try clear c2); (try clear p2); (try clear c3); (try clear c3b0); (try clear c3b1); (try clear c3b2); obtain ⟨x13_1, rfl, HA, HK1, ⟨m1, rfl⟩⟩ := hrel
   cases gk with
   | zero => exact absurd HA.out (by simp [saltusref04_Same.l0])
   | succ k1 =>
    have H := HA.out; clear HA; simp only [saltusref04_Same.l0] at H
    by_cases c4 : x13_1 < (l0.length : Int)
    ·rw [if_pos c4] at H; have c4b0 := qj c4; clear c4
     by_cases c5 : 0 ≤ x13_1
     ·rw [if_pos c5] at H; have c5b0 := qj c5; clear c5
      by_cases c6 : x13_1 < (l0.length : Int)
      ·rw [if_pos c6] at H; have c6b0 := qj c6; clear c6
       by_cases c7 : x13_1 < (l1.length : Int)
       ·rw [if_pos c7] at H; have c7b0 := qj c7; clear c7
        by_cases c8 : (rdOf ByteArray.empty l0 x13_1).toList = (rdOf ByteArray.empty l1 x13_1).toList
        ·rw [if_pos c8] at H; have c8b0 : ((rdOf ByteArray.empty l0 x13_1).toList == (rdOf ByteArray.empty l1 x13_1).toList) = true := beq_iff_eq.mpr c8; have c8b1 : ((rdOf ByteArray.empty l0 x13_1).toList != (rdOf ByteArray.empty l1 x13_1).toList) = false := bne_eq_false_iff_eq.mpr c8; clear c8; have H' := qf H; clear H; have p103 : 0 ≤ (x13_1 : Int) := qe (by with_reducible assumption); have q103 : x13_1 < (l0.length : Int) := qe (by with_reducible assumption); obtain ⟨ad103, e103, hx103_0⟩ := Kd.at_string HR0.out x13_1 p103 q103; cases e103; replace p103 := eq_true p103; replace q103 := eq_true q103; have p104 : 0 ≤ (x13_1 : Int) := qe (by with_reducible assumption); have q104 : x13_1 < (l1.length : Int) := qe (by with_reducible assumption); obtain ⟨ad104, e104, hx104_0⟩ := Kd.at_string HR1.out x13_1 p104 q104; cases e104; replace p104 := eq_true p104; replace q104 := eq_true q104; go_wp2
         repeat (go_quiet (fail); try go_wp2)
         go_roundg k1
         case measure => have := HK1.out; omega
         case rel => exact ⟨(wrap64 (x13_1 + 1)), (by first | rfl | (simp; done) | (simp [*]; done)), H', ⟨by have := HK1.out; omega⟩, by repeat (first | exact Drawn0.refl _ | apply Drawn0.step)⟩
        ·rw [if_neg c8] at H; have c8b0 : ((rdOf ByteArray.empty l0 x13_1).toList == (rdOf ByteArray.empty l1 x13_1).toList) = false := beq_eq_false_iff_ne.mpr c8; have c8b1 : ((rdOf ByteArray.empty l0 x13_1).toList != (rdOf ByteArray.empty l1 x13_1).toList) = true := bne_iff_ne.mpr c8; obtain rfl := Option.some.inj H; have p103 : 0 ≤ (x13_1 : Int) := qe (by with_reducible assumption); have q103 : x13_1 < (l0.length : Int) := qe (by with_reducible assumption); obtain ⟨ad103, e103, hx103_0⟩ := Kd.at_string HR0.out x13_1 p103 q103; cases e103; replace p103 := eq_true p103; replace q103 := eq_true q103; have p104 : 0 ≤ (x13_1 : Int) := qe (by with_reducible assumption); have q104 : x13_1 < (l1.length : Int) := qe (by with_reducible assumption); obtain ⟨ad104, e104, hx104_0⟩ := Kd.at_string HR1.out x13_1 p104 q104; cases e104; replace p104 := eq_true p104; replace q104 := eq_true q104; go_wp2
         repeat (go_quiet (fail); try go_wp2)
         go_ret; exact ⟨by first | rfl | (simp; done) | (simp [*]; done), by repeat (first | exact Drawn0.refl _ | apply Drawn0.step)⟩
       ·rw [if_neg c7] at H; exact absurd H (by simp)
      ·rw [if_neg c6] at H; exact absurd H (by simp)
     ·rw [if_neg c5] at H; exact absurd H (by simp)
    ·rw [if_neg c4] at H; have c4b0 := decide_eq_false c4; clear c4; obtain rfl := Option.some.inj H; go_wp2
     repeat (go_quiet (fail); try go_wp2)
     go_ret; exact ⟨by first | rfl | (simp; done) | (simp [*]; done), by repeat (first | exact Drawn0.refl _ | apply Drawn0.step)⟩
 ·rw [if_neg c3] at H; have c3b0 : ((l0.length : Int) == (l1.length : Int)) = false := beq_eq_false_iff_ne.mpr c3; have c3b1 : ((l0.length : Int) != (l1.length : Int)) = true := bne_iff_ne.mpr c3
  have c3b2 : (l0.length == l1.length) = false := by first | simpa using c3 | (simp at c3 ⊢; omega)
  obtain rfl := Option.some.inj H
  go_enter Tryz.func26, Tryz.ntmps26
  go_wp2
  repeat (go_quiet (fail); try go_wp2)
  go_ret; exact ⟨by first | rfl | (simp; done) | (simp [*]; done), by repeat (first | exact Drawn0.refl _ | apply Drawn0.step)⟩
/-! ### saltusref18_Same: function 7 -/
end Go.Proofs.YtolbhliepkcihaaGreatDoor.QRP
end
section
namespace Go.Proofs.YtolbhliepkcihaaGreatDoor.Lab
open Go.RowKit YtolbhliepkcihaaGreatDoorW.PrintWords Kinds Build Sha Mac Codec Tower Mem ProofPure
theorem is_k (f0 : Int) (f1 : ByteArray) (q : Addr) (k : Int) (w : World) (hq : w.cell? q = some (.int .u64 k)) :
  Calls Tryz.prog 16 #[.agg #[.int .u64 f0, .string f1], .pointer (some q)] w fun e w' => e = .returned (.bool (f0 == k)) ∧ Below w.heap.size w w' := by
 have hq2 := (World.cell?_alloc_lt w (.cells #[.int .u64 f0, .string f1] 44) q (qd _ _ hq)).trans hq; have HBW := qa (Below.refl w.heap.size w) (.cells #[.int .u64 f0, .string f1] 44)
 go_enter Tryz.func16, Tryz.ntmps16
 go_wp2; go_ret; exact ⟨rfl, HBW⟩
set_option maxRecDepth 100000 in
set_option maxHeartbeats 4000000 in
theorem idx_k (A : Option Addr) (c : Nat) (l : List It) (w : World) (hr : Kd.C k44 w A l.length l) (hn : l.length ≤ 1000000) (q : Addr) (k : Int) (hq : w.cell? q = some (.int .u64 k)) (i : Int)
  (hi : (∃ m : Nat, ∃ h : m < l.length, i = (m : Int) ∧ l[m].f0 = k ∧ ∀ j (hj : j < m), l[j].f0 ≠ k) ∨ (i = -1 ∧ ∀ j (hj : j < l.length), l[j].f0 ≠ k)) :
  Calls Tryz.prog 15 #[.slice A l.length c, .func (.func 16) #[] #[.pointer (some q)]] w fun e w' => e = .returned (.int .i64 i) ∧ Below w.heap.size w w' := by
 have HI := Lib.hid hi; have HC := qf hr; have HQ := Lib.hid hq; clear hi hr hq
 go_enter Tryz.func15, Tryz.ntmps15
 go_wp2
 go_loopw [8] (fun iv wr => ∃ m : Nat, m ≤ l.length ∧ iv = .int .i64 m ∧ Hid (∀ j (hj : j < l.length), j < m → l[j].f0 ≠ k) ∧ Aside0 (Below w.heap.size w wr)) (fun iv _ => l.length - (intOf iv).toNat)
 case atStart => exact ⟨0, Nat.zero_le _, rfl, Lib.hid (fun j hj h => absurd h (by omega)), ⟨Below.refl _ _⟩⟩
 case round =>
  obtain ⟨m, hm, rfl, HN, HB⟩ := hrel
  by_cases hlt : m < l.length
  ·obtain ⟨ad, e1, hc0, hc1⟩ := at_T44 HC.out (m : Int) (by omega) (by omega); cases e1; rw [rd_it l m hlt, Int.toNat_natCast] at hc0 hc1; replace hc0 := (HB.out.cell (qd w _ hc0)).trans hc0; replace hc1 := (HB.out.cell (qd w _ hc1)).trans hc1; have hqr := (HB.out.cell (qd w _ HQ.out)).trans HQ.out; have G := Lib.hid (is_k l[m].f0 l[m].f1 q k wr hqr)
   have p0 : (0 : Int) ≤ (m : Int) := by omega
   have p1 : (m : Int) < (l.length : Int) := by omega
   cases hb : (l[m].f0 == k) with
   | true =>
    have hk := beq_iff_eq.1 hb
    have hi : i = (m : Int) := by
     rcases HI.out with ⟨m2, h2, rfl, h3, h4⟩ | ⟨_, h4⟩
     ·rcases Nat.lt_trichotomy m m2 with q1 | q1 | q1
      ·exact absurd hk (h4 m q1)
      ·rw [q1]
      ·exact absurd h3 (HN.out m2 h2 q1)
     ·exact absurd hk (h4 m hlt)
    subst hi; rw [hb] at G; clear hk hb; generalize l[m].f0 = f0 at *; generalize l[m].f1 = f1 at *
    go_wp2_with (go_at_call 16; refine (G.out).mono ?_; rintro e w1 ⟨rfl, hb1⟩; have HB2 := qf (below_step HB.out hb1); clear hb1)
    go_ret; exact ⟨rfl, HB2.out⟩
   | false =>
    have hk : l[m].f0 ≠ k := beq_eq_false_iff_ne.1 hb
    have HN2 : Hid (∀ j (hj : j < l.length), j < m + 1 → l[j].f0 ≠ k) := Lib.hid (fun j hj h => by
     by_cases e : j = m
     ·subst e; exact hk
     ·exact HN.out j hj (by omega))
    rw [hb] at G; clear hk hb; generalize l[m].f0 = f0 at *; generalize l[m].f1 = f1 at *
    go_wp2_with (go_at_call 16; refine (G.out).mono ?_; rintro e w1 ⟨rfl, hb1⟩; have HB2 := qf (below_step HB.out hb1); clear hb1)
    go_roundw
    case rel => exact ⟨m + 1, by omega, by go_num, HN2, HB2⟩
    case measure => simp [intOf]; omega
  ·obtain rfl : m = l.length := by omega
   have hi : i = -1 := by
    rcases HI.out with ⟨m2, h2, rfl, h3, h4⟩ | ⟨h4, _⟩
    ·exact absurd h3 (HN.out m2 h2 h2)
    ·exact h4
   subst hi; go_wp2; go_ret; exact ⟨rfl, HB.out⟩
end Go.Proofs.YtolbhliepkcihaaGreatDoor.Lab
end
section
namespace Go.Proofs.YtolbhliepkcihaaGreatDoor.Lab
open Go.RowKit YtolbhliepkcihaaGreatDoorW.PrintWords Kinds Build Sha Mac Codec Tower Mem ProofPure SkipOps SkipPure
theorem results_row_tmp {P : Program} {fn : Func} {p u : Tmp} {ty : TypeId} (h : fn.results = #[.cell p ty, .tmp u]) (tmps : Array Value) (w : World) (g : Nat) (t : TypeId) (cs : Array Value) (fr : Nat × Nat) (d : TypeDesc)
  (hp : tmps.getD p undef = .pointer (some ⟨g, 0, none⟩)) (hg : w.heap[g]? = some (.cells cs t fr))
  (hu : P.underlying ty = some d) (hd : (match d with | .struct _ | .array _ _ => true | _ => false) = true) (hi : (P.info? ty).map (·.size) = some cs.size) (v : Value) (hv : tmps.getD u undef = v) :
  (results fn tmps).run P w = .ok (.tuple #[.agg cs, v]) w := by
 have hp' : tmps[p]?.getD undef = .pointer (some ⟨g, 0, none⟩) := by simpa using hp
 have hv' : tmps[u]?.getD undef = v := by simpa using hv
 simp [results, h, hp', hv', asAddr, run_loadVar_row w g t ty cs fr d hg hu hd hi]
theorem prove_ret {w w1 : World} {g : Nat} {u1 u2 : Value} (hgw : w.heap.size ≤ g) (N : Blk w1 g 26 #[u1, u2]) (HB : Below w.heap.size w w1) (tmps : Array Value) (er : Int) (v1 v2 : Value) (hp : tmps.getD 6 undef = .pointer (some ⟨g, 0, none⟩)) (hv : tmps.getD 7 undef = .int .i64 er) :
  bodyPost Tryz.prog Tryz.f5 (fun e w' => e = .returned (.tuple #[.agg #[v1, v2], .int .i64 er]) ∧ Below w.heap.size w w') .ret { tmps := tmps, defers := [] } ((w1.setCell ⟨g, 0, none⟩ v1).setCell ⟨g, 1, none⟩ v2) := by
 have N2 := (N.set_ 0 v1).set_ 1 v2; refine bodyPost_ret (results_row_tmp rfl _ _ g 26 #[v1, v2] (0, 0) _ hp N2 Tryz.underlying26 rfl (by kernel_rfl) _ hv) rfl ?_; exact ⟨rfl, (HB.setCell (p := ⟨g, 0, none⟩) hgw v1).setCell (p := ⟨g, 1, none⟩) hgw v2⟩
set_option maxRecDepth 100000 in
set_option maxHeartbeats 4000000 in
theorem prove_bad (key : ByteArray) (A0 : Option Addr) (c0 : Nat) (l : List S44) (k : Int) (w : World) (hr0 : Kd.C k44 w A0 l.length l) (hc0 : l.length ≤ c0) (hl : l.length ≤ 1000) (hb : ¬RightP l) :
  Calls Tryz.prog 5 #[.string key, .slice A0 l.length c0, .int .u64 k] w fun e w' => e = .returned (.tuple #[.agg #[.slice none 0 0, .slice none 0 0], .int .i64 1]) ∧ Below w.heap.size w w' := by
 obtain ⟨r, hr, hA, _⟩ := c_rightP A0 c0 l (by omega)
 obtain rfl : r = false := by
  cases r; (rfl)
  ·exact absurd (hr.1 rfl) hb
 have HA := Lib.hid (fun W (h : Below w.heap.size w W) => hA W (Kd.C_below hr0 h) hc0); clear hr hA hr0 hb
 go_enter Tryz.func5, Tryz.ntmps5
 go_upto_region 1 with (fail)
 have N := qf (Blk.new (w.alloc (.cells #[.int .u64 k] 23)) 26 #[.slice none 0 0, .slice none 0 0]); have HB := qf (qa (qa (Below.refl w.heap.size w) (.cells #[.int .u64 k] 23)) (.cells #[.slice none 0 0, .slice none 0 0] 26)); rw [World.size_alloc] at N; generalize (w.alloc (.cells #[.int .u64 k] 23)).alloc (.cells #[.slice none 0 0, .slice none 0 0] 26) = w0 at *
 obtain ⟨g, hg⟩ : ∃ g, w.heap.size + 1 = g := ⟨_, rfl⟩
 rw [hg] at N ⊢
 have hgw : w.heap.size ≤ g := by omega
 go_wp2_with (go_at_call 14; refine (HA.out _ HB.out).mono ?_; rintro e w1 ⟨rfl, hb1⟩; replace N := qf (blk_bel N.out hb1); replace HB := qf (below_step HB.out hb1); have hc0' := N.out.cell 0; have hc1' := N.out.cell 1; have hf0' := N.out.frozen 0; have hf1' := N.out.frozen 1; clear hb1)
 exact prove_ret hgw N.out HB.out _ _ _ _ rfl rfl
set_option maxRecDepth 100000 in
set_option maxHeartbeats 4000000 in
theorem prove_none (key : ByteArray) (A0 : Option Addr) (c0 : Nat) (l : List S44) (k : Int) (w : World) (hr0 : Kd.C k44 w A0 l.length l) (hc0 : l.length ≤ c0) (hl : l.length ≤ 1000) (hb : RightP l) (hh : has l k = false) :
  Calls Tryz.prog 5 #[.string key, .slice A0 l.length c0, .int .u64 k] w fun e w' => e = .returned (.tuple #[.agg #[.slice none 0 0, .slice none 0 0], .int .i64 3]) ∧ Below w.heap.size w w' := by
 obtain ⟨r, hr, hA, _⟩ := c_rightP A0 c0 l (by omega); obtain rfl := hr.2 hb; have HA := Lib.hid (fun W (h : Below w.heap.size w W) => hA W (Kd.C_below hr0 h) hc0); have HI := Lib.hid (fun W (h : Below w.heap.size w W) q hq => idx_k A0 c0 l W (Kd.C_below hr0 h) (by omega) q k hq (-1) (.inr ⟨rfl, fun j hj => not_has l k hh _ (List.getElem_mem hj)⟩)); clear hr hA hr0 hb hh
 go_enter Tryz.func5, Tryz.ntmps5
 go_upto_region 1 with (fail)
 have N := qf (Blk.new (w.alloc (.cells #[.int .u64 k] 23)) 26 #[.slice none 0 0, .slice none 0 0]); have NK := qf ((Blk.new w 23 #[.int .u64 k]).alloc (.cells #[.slice none 0 0, .slice none 0 0] 26)); have HB := qf (qa (qa (Below.refl w.heap.size w) (.cells #[.int .u64 k] 23)) (.cells #[.slice none 0 0, .slice none 0 0] 26)); rw [World.size_alloc] at N; generalize (w.alloc (.cells #[.int .u64 k] 23)).alloc (.cells #[.slice none 0 0, .slice none 0 0] 26) = w0 at *
 obtain ⟨g, hg⟩ : ∃ g, w.heap.size + 1 = g := ⟨_, rfl⟩
 rw [hg] at N ⊢
 have hgw : w.heap.size ≤ g := by omega
 go_wp2_with (first | (go_at_call 14; refine (HA.out _ HB.out).mono ?_; rintro e w1 ⟨rfl, hb1⟩; replace N := qf (blk_bel N.out hb1); replace NK := qf (blk_bel NK.out hb1); replace HB := qf (below_step HB.out hb1); clear hb1) | (go_at_call 15; refine (HI.out _ HB.out _ (NK.out.cell 0)).mono ?_; rintro e w1 ⟨rfl, hb1⟩; replace N := qf (blk_bel N.out hb1); replace HB := qf (below_step HB.out hb1); have hc0' := N.out.cell 0; have hc1' := N.out.cell 1; have hf0' := N.out.frozen 0; have hf1' := N.out.frozen 1; clear hb1))
 exact prove_ret hgw N.out HB.out _ _ _ _ rfl rfl
end Go.Proofs.YtolbhliepkcihaaGreatDoor.Lab
end
section
namespace Go.Proofs.YtolbhliepkcihaaGreatDoor.Lab
open Go.RowKit Go.Shelf Go.Lib Go.Sort YtolbhliepkcihaaGreatDoorW.PrintWords Kinds Build Tower
theorem prva_walk (q11 : Addr) (now : Int) (n0 : 0 ≤ now) (n1 : now ≤ 100) (x : Int) (W : World) (h11 : W.cell? q11 = some (.int .i64 now)) :
  FnGives Tryz.prog 21 #[.pointer (some q11)] #[.int .i64 x] (.bool (decide (x ≤ now + 1))) W := by
 show Calls Tryz.prog 21 #[.int .i64 x, .pointer (some q11)] W _
 go_enter Tryz.func21, Tryz.ntmps21
 go_wp2
 all_goals (go_ret; exact ⟨by simp_all, 0, rfl⟩)
theorem prva_at (q11 : Addr) (now : Int) (n0 : 0 ≤ now) (n1 : now ≤ 100) (w : World) (h11 : w.cell? q11 = some (.int .i64 now)) :
  PredAt Tryz.prog 21 #[.pointer (some q11)] (Value.int .i64) (fun x => decide (x ≤ now + 1)) w :=
 fun W x hb => prva_walk q11 now n0 n1 x W ((hb.cell (qd _ _ h11)).trans h11)
theorem prva_over (q11 : Addr) (now : Int) (n0 : 0 ≤ now) (n1 : now ≤ 100) (blk off size : Nat) (w : World) (hne : q11.block ≠ blk) (h11 : w.cell? q11 = some (.int .i64 now)) :
  PredOver Tryz.prog 21 #[.pointer (some q11)] (Value.int .i64) (fun x => decide (x ≤ now + 1)) blk off size w :=
 fun n os dk x _ => prva_walk q11 now n0 n1 x _ (by
  have hB := qd _ _ h11; unfold sortWorld; rw [cell?_grow _ _ _ (by show q11.block < (putRow _ _ _ _ _).heap.size; rw [size_putRow]; exact hB), cell?_putRow_other _ _ blk off _ _ (Or.inl hne)]
  exact h11)
theorem del_a (g cap base : Nat) (hs : List Int) (now : Int) (n0 : 0 ≤ now) (n1 : now ≤ 100) (q11 : Addr) (w : World) (hown : w.ownsRow base 3 1 (.slice (some ⟨g, 0, none⟩) hs.length cap) hs.length (hs.map (Value.int .i64)))
  (h11 : w.cell? q11 = some (.int .i64 now)) (hne : q11.block ≠ g) (hn : hs.length ≤ 1000000) :
  Calls Tryz.prog 19 #[.slice (some ⟨g, 0, none⟩) hs.length cap, .func (.func 21) #[] #[.pointer (some q11)]] w fun e w' =>
   e = .returned (.slice (some ⟨g, 0, none⟩) (hs.filter fun x => !decide (x ≤ now + 1)).length cap) ∧ w'.ownsRow base 3 1 (.slice (some ⟨g, 0, none⟩) (hs.filter fun x => !decide (x ≤ now + 1)).length cap) (hs.filter fun x => !decide (x ≤ now + 1)).length ((hs.filter fun x => !decide (x ≤ now + 1)).map (Value.int .i64)) ∧ w.grownBy w' (some g) := by
 obtain ⟨hlen, hor⟩ := hown
 rcases hor with ⟨he, _⟩ | ⟨g', cap', cur, hv, hbase, hb, hnc, hcm, hsz, htk⟩
 ·cases he
 ·injection hv with e1 _ e3
  injection e1 with e1
  injection e1 with e1 _ _
  subst e1 e3; rw [Nat.mul_one] at htk hsz; have hH := holds_of_blockI hb htk
  have eg : ∀ args w, (callFunc 21 args).run Tryz.prog w = .ok (.enter 21 args) w := enters_of Tryz.func21 (by kernel_rfl) rfl
  have h := Tryz.slices_DeleteFunc (Value.int .i64) (fun _ => rfl) (fun x => decide (x ≤ now + 1)) 21 #[.pointer (some q11)] eg (0 : Int) Tryz.zeroValue3 g 0 cap hs.toArray w (prva_at q11 now n0 n1 w h11) (prva_over q11 now n0 n1 g 0 _ w hne h11) hH (by simp; omega) (by simpa using hnc); rw [show hs.toArray.size = hs.length from by simp] at h; refine h.mono ?_
  rintro e w' ⟨rfl, q, rfl⟩
  obtain ⟨r, hr⟩ : ∃ r, (hs.filter fun x => !decide (x ≤ now + 1)) = r := ⟨_, rfl⟩
  have hrl : r.length ≤ hs.length := by rw [← hr]; exact List.length_filter_le _ _
  have hl : hs.toArray.toList = hs := by simp
  simp only [hr]
  have hD : (r ++ List.replicate (hs.length - r.length) (0 : Int)).length = hs.length := by rw [List.length_append, List.length_replicate]; omega
  have hg := grownBy_sortedI (w := w) (g := g) (n := q) (os := #[]) (r ++ List.replicate (hs.length - r.length) (0 : Int)).toArray; rw [grow_empty] at hg; have ht := take_putCellsI cur (r ++ List.replicate (hs.length - r.length) (0 : Int)) (by rw [hD]; omega); refine ⟨trivial, ⟨by simp, .inr ⟨g, cap, putCells (Value.int .i64) 0 (r ++ List.replicate (hs.length - r.length) (0 : Int)).toArray cur, rfl, hbase, ?_, by omega, hcm, by rw [Nat.mul_one]; simp [putCells, hsz], ?_⟩⟩, hg⟩
  ·show (mapBlock (Sort.ahead w q) g _).heap[g]? = _
   unfold mapBlock; rw [Array.getElem?_modify, if_pos rfl]
   show (w.heap[g]?).map _ = _
   rw [hb]; rfl
  ·rw [hD] at ht; rw [Nat.mul_one]; have h2 := congrArg (List.take r.length) ht; rw [List.take_take, Nat.min_eq_left hrl, List.map_append, List.take_append_of_le_length (by rw [List.length_map]; exact Nat.le_refl _), show (r.map (Value.int .i64)).take r.length = r.map (Value.int .i64) from List.take_of_length_le (by rw [List.length_map]; exact Nat.le_refl _)] at h2; exact h2
theorem prvb_walk (q11 : Addr) (now : Int) (n0 : 0 ≤ now) (n1 : now ≤ 100) (x : Int) (W : World) (h11 : W.cell? q11 = some (.int .i64 now)) :
  FnGives Tryz.prog 22 #[.pointer (some q11)] #[.int .i64 x] (.bool (decide (x ≤ now + 1))) W := by
 show Calls Tryz.prog 22 #[.int .i64 x, .pointer (some q11)] W _
 go_enter Tryz.func22, Tryz.ntmps22
 go_wp2
 all_goals (go_ret; exact ⟨by simp_all, 0, rfl⟩)
theorem prvb_at (q11 : Addr) (now : Int) (n0 : 0 ≤ now) (n1 : now ≤ 100) (w : World) (h11 : w.cell? q11 = some (.int .i64 now)) :
  PredAt Tryz.prog 22 #[.pointer (some q11)] (Value.int .i64) (fun x => decide (x ≤ now + 1)) w :=
 fun W x hb => prvb_walk q11 now n0 n1 x W ((hb.cell (qd _ _ h11)).trans h11)
theorem prvb_over (q11 : Addr) (now : Int) (n0 : 0 ≤ now) (n1 : now ≤ 100) (blk off size : Nat) (w : World) (hne : q11.block ≠ blk) (h11 : w.cell? q11 = some (.int .i64 now)) :
  PredOver Tryz.prog 22 #[.pointer (some q11)] (Value.int .i64) (fun x => decide (x ≤ now + 1)) blk off size w :=
 fun n os dk x _ => prvb_walk q11 now n0 n1 x _ (by
  have hB := qd _ _ h11; unfold sortWorld; rw [cell?_grow _ _ _ (by show q11.block < (putRow _ _ _ _ _).heap.size; rw [size_putRow]; exact hB), cell?_putRow_other _ _ blk off _ _ (Or.inl hne)]
  exact h11)
theorem del_b (g cap base : Nat) (hs : List Int) (now : Int) (n0 : 0 ≤ now) (n1 : now ≤ 100) (q11 : Addr) (w : World) (hown : w.ownsRow base 3 1 (.slice (some ⟨g, 0, none⟩) hs.length cap) hs.length (hs.map (Value.int .i64)))
  (h11 : w.cell? q11 = some (.int .i64 now)) (hne : q11.block ≠ g) (hn : hs.length ≤ 1000000) :
  Calls Tryz.prog 19 #[.slice (some ⟨g, 0, none⟩) hs.length cap, .func (.func 22) #[] #[.pointer (some q11)]] w fun e w' =>
   e = .returned (.slice (some ⟨g, 0, none⟩) (hs.filter fun x => !decide (x ≤ now + 1)).length cap) ∧ w'.ownsRow base 3 1 (.slice (some ⟨g, 0, none⟩) (hs.filter fun x => !decide (x ≤ now + 1)).length cap) (hs.filter fun x => !decide (x ≤ now + 1)).length ((hs.filter fun x => !decide (x ≤ now + 1)).map (Value.int .i64)) ∧ w.grownBy w' (some g) := by
 obtain ⟨hlen, hor⟩ := hown
 rcases hor with ⟨he, _⟩ | ⟨g', cap', cur, hv, hbase, hb, hnc, hcm, hsz, htk⟩
 ·cases he
 ·injection hv with e1 _ e3
  injection e1 with e1
  injection e1 with e1 _ _
  subst e1 e3; rw [Nat.mul_one] at htk hsz; have hH := holds_of_blockI hb htk
  have eg : ∀ args w, (callFunc 22 args).run Tryz.prog w = .ok (.enter 22 args) w := enters_of Tryz.func22 (by kernel_rfl) rfl
  have h := Tryz.slices_DeleteFunc (Value.int .i64) (fun _ => rfl) (fun x => decide (x ≤ now + 1)) 22 #[.pointer (some q11)] eg (0 : Int) Tryz.zeroValue3 g 0 cap hs.toArray w (prvb_at q11 now n0 n1 w h11) (prvb_over q11 now n0 n1 g 0 _ w hne h11) hH (by simp; omega) (by simpa using hnc); rw [show hs.toArray.size = hs.length from by simp] at h; refine h.mono ?_
  rintro e w' ⟨rfl, q, rfl⟩
  obtain ⟨r, hr⟩ : ∃ r, (hs.filter fun x => !decide (x ≤ now + 1)) = r := ⟨_, rfl⟩
  have hrl : r.length ≤ hs.length := by rw [← hr]; exact List.length_filter_le _ _
  have hl : hs.toArray.toList = hs := by simp
  simp only [hr]
  have hD : (r ++ List.replicate (hs.length - r.length) (0 : Int)).length = hs.length := by rw [List.length_append, List.length_replicate]; omega
  have hg := grownBy_sortedI (w := w) (g := g) (n := q) (os := #[]) (r ++ List.replicate (hs.length - r.length) (0 : Int)).toArray; rw [grow_empty] at hg; have ht := take_putCellsI cur (r ++ List.replicate (hs.length - r.length) (0 : Int)) (by rw [hD]; omega); refine ⟨trivial, ⟨by simp, .inr ⟨g, cap, putCells (Value.int .i64) 0 (r ++ List.replicate (hs.length - r.length) (0 : Int)).toArray cur, rfl, hbase, ?_, by omega, hcm, by rw [Nat.mul_one]; simp [putCells, hsz], ?_⟩⟩, hg⟩
  ·show (mapBlock (Sort.ahead w q) g _).heap[g]? = _
   unfold mapBlock; rw [Array.getElem?_modify, if_pos rfl]
   show (w.heap[g]?).map _ = _
   rw [hb]; rfl
  ·rw [hD] at ht; rw [Nat.mul_one]; have h2 := congrArg (List.take r.length) ht; rw [List.take_take, Nat.min_eq_left hrl, List.map_append, List.take_append_of_le_length (by rw [List.length_map]; exact Nat.le_refl _), show (r.map (Value.int .i64)).take r.length = r.map (Value.int .i64) from List.take_of_length_le (by rw [List.length_map]; exact Nat.le_refl _)] at h2; exact h2
end Go.Proofs.YtolbhliepkcihaaGreatDoor.Lab
end
section
namespace Go.Proofs.YtolbhliepkcihaaGreatDoor.Lab
open Go.RowKit YtolbhliepkcihaaGreatDoorW.PrintWords Kinds Build Sha Mac Codec Tower Mem ProofPure
theorem own_form {w : World} {base : Nat} {e : TypeId} {size : Nat} {v : Value} {N : Nat} {xs : List Value} (h : w.ownsRow base e size v N xs) (h0 : 0 < N) : ∃ g cap, v = .slice (some ⟨g, 0, none⟩) N cap ∧ N ≤ cap := by
 obtain ⟨k, rfl⟩ : ∃ k, N = k + 1 := ⟨N - 1, by omega⟩
 exact own_succ3 h
def segW (g c : Nat) (s : Nat × Nat) : Value := .slice (if c = s.1 then some ⟨g, 0, none⟩ else some ⟨g, s.1, none⟩) (s.2 - s.1) (c - s.1)
def befS (es : List E) (a0 i : Nat) : Nat × Nat := (fromN (i + 1) (pr i es) (atN es a0 i), atN es a0 i)
def aftS (es : List E) (a0 i : Nat) : Nat × Nat := (atN es a0 i + 1, toN (i + 1) (pr i es) ((pr i es).length - (atN es a0 i + 1)) (atN es a0 i + 1))
structure Outs (base : Nat) (es : List E) (a0 j : Nat) (bs xs2 : List Value) (W : World) : Prop where
 lb : bs.length = j
 la : xs2.length = j
 row : ∀ i, i < j → ∃ g c N, N = (rowF (lab i) i es).length ∧ N ≤ c ∧ W.ownsRow base 9 1 (.slice (some ⟨g, 0, none⟩) N c) N (strV (rowF (lab i) i es)) ∧ bs[i]? = some (segW g c (befS es a0 i)) ∧ xs2[i]? = some (segW g c (aftS es a0 i))
theorem Outs.keep {base : Nat} {es : List E} {a0 j : Nat} {bs xs2 : List Value} {W W' : World} (h : Outs base es a0 j bs xs2 W) (f : ∀ (v : Value) (n : Nat) (xs : List Value), W.ownsRow base 9 1 v n xs → W'.ownsRow base 9 1 v n xs) : Outs base es a0 j bs xs2 W' :=
 ⟨h.lb, h.la, fun i hi => by
  obtain ⟨g, c, N, h1, h2, h3, h4, h5⟩ := h.row i hi
  exact ⟨g, c, N, h1, h2, f _ _ _ h3, h4, h5⟩⟩
theorem Outs.push {base : Nat} {es : List E} {a0 j : Nat} {bs xs2 : List Value} {W : World} (h : Outs base es a0 j bs xs2 W) {g c N : Nat} (h1 : N = (rowF (lab j) j es).length) (h2 : N ≤ c) (h3 : W.ownsRow base 9 1 (.slice (some ⟨g, 0, none⟩) N c) N (strV (rowF (lab j) j es))) :
  Outs base es a0 (j + 1) (bs ++ [segW g c (befS es a0 j)]) (xs2 ++ [segW g c (aftS es a0 j)]) W := by
 have lb := h.lb; have la := h.la; refine ⟨by rw [List.length_append, lb]; rfl, by rw [List.length_append, la]; rfl, fun i hi => ?_⟩
 by_cases e : i = j
 ·subst e; refine ⟨g, c, N, h1, h2, h3, ?_, ?_⟩
  ·rw [List.getElem?_append_right (by omega), lb, Nat.sub_self]; rfl
  ·rw [List.getElem?_append_right (by omega), la, Nat.sub_self]; rfl
 ·obtain ⟨g', c', N', q1, q2, q3, q4, q5⟩ := h.row i (by omega); refine ⟨g', c', N', q1, q2, q3, ?_, ?_⟩
  ·rw [List.getElem?_append_left (by omega)]; exact q4
  ·rw [List.getElem?_append_left (by omega)]; exact q5
theorem Outs.none (base : Nat) (es : List E) (a0 : Nat) (W : World) : Outs base es a0 0 [] [] W := ⟨rfl, rfl, fun i hi => absurd hi (by omega)⟩
theorem segW_reads {W : World} {base g c N : Nat} {row : List ByteArray} (h : W.ownsRow base 9 1 (.slice (some ⟨g, 0, none⟩) N c) N (strV row)) (hc : N ≤ c) (s : Nat × Nat) (h1 : s.1 ≤ s.2) (h2 : s.2 ≤ N) :
  ∃ A d, segW g c s = .slice A (cutL row s).length d ∧ (cutL row s).length ≤ d ∧ Kd.C Kd.string W A (cutL row s).length (cutL row s) := by
 have hl : row.length = N := by have := h.1; unfold strV at this; simpa using this
 have hlen : (cutL row s).length = s.2 - s.1 := by unfold cutL; rw [List.length_drop, qw]; omega
 have hC := cut_C h s h1 h2; unfold segW
 by_cases e : c = s.1
 ·have hz : (cutL row s).length = 0 := by omega
  have hnil : cutL row s = [] := List.eq_nil_of_length_eq_zero hz; rw [if_pos e]; refine ⟨some ⟨g, 0, none⟩, c - s.1, by rw [hlen], by omega, ?_⟩; rw [hnil]; exact ⟨rfl, by simp, fun h => absurd h (Nat.lt_irrefl 0)⟩
 ·rw [if_neg e]; exact ⟨_, c - s.1, by rw [hlen], by omega, hC⟩
theorem prove_ret2 {R : Ending → World → Prop} {w1 : World} {g : Nat} {u1 u2 : Value} (N : Blk w1 g 26 #[u1, u2]) (tmps : Array Value) (er : Int) (v1 v2 : Value) (hp : tmps.getD 6 undef = .pointer (some ⟨g, 0, none⟩)) (hv : tmps.getD 7 undef = .int .i64 er)
  (h : R (.returned (.tuple #[.agg #[v1, v2], .int .i64 er])) ((w1.setCell ⟨g, 0, none⟩ v1).setCell ⟨g, 1, none⟩ v2)) :
  bodyPost Tryz.prog Tryz.f5 R .ret { tmps := tmps, defers := [] } ((w1.setCell ⟨g, 0, none⟩ v1).setCell ⟨g, 1, none⟩ v2) := by
 have N2 := (N.set_ 0 v1).set_ 1 v2; exact bodyPost_ret (results_row_tmp rfl _ _ g 26 #[v1, v2] (0, 0) _ hp N2 Tryz.underlying26 rfl (by kernel_rfl) _ hv) rfl h
theorem befR_eq (es : List E) (a0 : Nat) : befR es a0 = (List.range 8).map fun n => cutL (labs (pr n es)) (befS es a0 n) := List.map_congr_left (fun _ _ => rfl)
theorem aftR_eq (es : List E) (a0 : Nat) : aftR es a0 = (List.range 8).map fun n => cutL (labs (pr n es)) (aftS es a0 n) := List.map_congr_left (fun _ _ => rfl)
theorem befS_ok (r : List E) (a0 : Nat) (h0 : a0 < (pr 0 (head :: r)).length) (i : Nat) (hi : i < 8) : (befS (head :: r) a0 i).1 ≤ (befS (head :: r) a0 i).2 ∧ (befS (head :: r) a0 i).2 ≤ (rowF (lab i) i (head :: r)).length := by
 have h1 := at_lt r a0 h0 i (by omega); have h2 := (from_spec (i + 1) (pr i (head :: r)) (by rw [pr_head r i (by omega)]; omega) (atN (head :: r) a0 i)).1; rw [← pr_len]; exact ⟨h2, by show atN (head :: r) a0 i ≤ _; omega⟩
theorem aftS_ok (r : List E) (a0 : Nat) (h0 : a0 < (pr 0 (head :: r)).length) (i : Nat) (hi : i < 8) : (aftS (head :: r) a0 i).1 ≤ (aftS (head :: r) a0 i).2 ∧ (aftS (head :: r) a0 i).2 ≤ (rowF (lab i) i (head :: r)).length := by
 have h1 := at_lt r a0 h0 i (by omega); obtain ⟨q1, q2, _, _⟩ := to_spec (i + 1) (pr i (head :: r)) ((pr i (head :: r)).length - (atN (head :: r) a0 i + 1)) (atN (head :: r) a0 i + 1) (by omega); rw [← pr_len]; exact ⟨q1, q2⟩
theorem outs_reads {W : World} {base : Nat} {es : List E} {A : Option Addr} {c : Nat} (f : Nat → Nat × Nat) (vs : List Value)
  (hv : ∀ i, i < 8 → ∃ g d N, N = (rowF (lab i) i es).length ∧ N ≤ d ∧ W.ownsRow base 9 1 (.slice (some ⟨g, 0, none⟩) N d) N (strV (rowF (lab i) i es)) ∧ vs[i]? = some (segW g d (f i)))
  (hf : ∀ i, i < 8 → (f i).1 ≤ (f i).2 ∧ (f i).2 ≤ (rowF (lab i) i es).length) (ho : W.ownsRow base 47 1 (.slice A 8 c) 8 vs) :
  Kd.C (Kd.slice 9 Kd.string) W A 8 ((List.range 8).map fun i => cutL (labs (pr i es)) (f i)) ∧ 8 ≤ c := by
 obtain ⟨g, cap, e, hcap⟩ := own_form ho (by decide); cases e; refine ⟨⟨by simp, by decide, fun _ => ⟨_, rfl, fun i p hp => ?_⟩⟩, hcap⟩
 have hi : i < 8 := by have := (List.getElem?_eq_some_iff.1 hp).1; simpa using this
 have hp2 : p = cutL (labs (pr i es)) (f i) := by
  rw [List.getElem?_map, List.getElem?_range hi] at hp; exact (Option.some.inj hp).symm
 subst hp2; obtain ⟨g', d, N, q1, q2, q3, q4⟩ := hv i hi; obtain ⟨f1, f2⟩ := hf i hi; obtain ⟨B, b, r1, r2, r3⟩ := segW_reads q3 q2 (f i) f1 (by omega); rw [← labs_pr] at r1 r2 r3; refine ⟨[.slice B (cutL (labs (pr i es)) (f i)).length b], rfl, ⟨B, b, rfl, r2, r3⟩, fun n u hu => ?_⟩
 cases n with
 | succ n => simp at hu
 | zero =>
  obtain rfl := Option.some.inj hu; rw [r1] at q4; have hc := ho.cells rfl i _ q4; rw [show i * (Kd.slice 9 Kd.string).sz + 0 = i from by show i * 1 + 0 = i; omega]; exact hc
theorem outs_bef {W : World} {base : Nat} {es : List E} {a0 : Nat} {bs xs2 : List Value} {A : Option Addr} {c : Nat} (o : Outs base es a0 8 bs xs2 W) (fb : ∀ n, n < 8 → (befS es a0 n).1 ≤ (befS es a0 n).2 ∧ (befS es a0 n).2 ≤ (rowF (lab n) n es).length) (ho : W.ownsRow base 47 1 (.slice A 8 c) 8 bs) :
  Kd.C (Kd.slice 9 Kd.string) W A 8 (befR es a0) ∧ 8 ≤ c := by
 rw [befR_eq]
 exact outs_reads (befS es a0) bs (fun n hn => by
  obtain ⟨q0, q1, q2, q3, q4, q5, q6, _⟩ := o.row n hn
  exact ⟨q0, q1, q2, q3, q4, q5, q6⟩) fb ho
theorem outs_aft {W : World} {base : Nat} {es : List E} {a0 : Nat} {bs xs2 : List Value} {A : Option Addr} {c : Nat} (o : Outs base es a0 8 bs xs2 W) (fa : ∀ n, n < 8 → (aftS es a0 n).1 ≤ (aftS es a0 n).2 ∧ (aftS es a0 n).2 ≤ (rowF (lab n) n es).length) (ho : W.ownsRow base 47 1 (.slice A 8 c) 8 xs2) :
  Kd.C (Kd.slice 9 Kd.string) W A 8 (aftR es a0) ∧ 8 ≤ c := by
 rw [aftR_eq]
 exact outs_reads (aftS es a0) xs2 (fun n hn => by
  obtain ⟨q0, q1, q2, q3, q4, q5, _, q6⟩ := o.row n hn
  exact ⟨q0, q1, q2, q3, q4, q5, q6⟩) fa ho
end Go.Proofs.YtolbhliepkcihaaGreatDoor.Lab
end
section
namespace Go.Proofs.YtolbhliepkcihaaGreatDoor.Lab
open Go.RowKit YtolbhliepkcihaaGreatDoorW.PrintWords YtolbhliepkcihaaGreatDoorW.PrintLast Kinds Build Sha Mac Codec Tower Mem ProofPure
/-! ### in plain Lean -/
theorem gD_hts (j : Nat) (es : List E) (k : Nat) : gD (pr j es) k = (hts j es).getD k 0 := by
  rw [← pr_fst]; unfold gD; rw [List.getD_eq_getElem?_getD, List.getD_eq_getElem?_getD, List.getElem?_map]
  cases (pr j es)[k]? <;> rfl
theorem from_stop (t : Nat) (u : List Z) (f : Nat) (h : t < gD u f) : fromN t u f = f := by
  cases f with
  | zero => rfl
  | succ f => unfold gD at h; rw [fromN, if_pos h]
theorem from_go (t : Nat) (u : List Z) (f : Nat) (h : gD u (f + 1) ≤ t) : fromN t u (f + 1) = fromN t u f := by unfold gD at h; rw [fromN, if_neg (Nat.not_lt.2 h)]
theorem to_stop (t : Nat) (u : List Z) (d i : Nat) (h : d = 0 ∨ t < gD u i) : toN t u d i = i := by
  cases d with
  | zero => rfl
  | succ d =>
    rcases h with h | h
    · cases h
    · unfold gD at h; rw [toN, if_pos h]
theorem to_go (t : Nat) (u : List Z) (d i : Nat) (h : gD u i ≤ t) : toN t u (d + 1) i = toN t u d (i + 1) := by unfold gD at h; rw [toN, if_neg (Nat.not_lt.2 h)]
theorem htI_up2 (m : Nat) (s : List E) : (htI m s).filter (fun x => !decide (x ≤ (m : Int) + 1)) = htI (m + 1) s := htI_up m s
theorem cnt_hts (j : Nat) (es : List E) (f : Nat) : (((htI j es).take f).filter (fun x => !decide (x ≤ (j : Int) + 1))).length = cnt (j + 1) ((pr j es).take f) := by
  unfold htI cnt; rw [← pr_fst, List.map_map, ← List.map_take, List.filter_map, List.length_map]
  congr 1
  congr 1
  funext z
  show (!decide (((z.1 : Nat) : Int) ≤ (j : Int) + 1)) = decide (j + 1 < z.1)
  by_cases c : j + 1 < z.1
  · rw [qj c, decide_eq_false (by omega)]; rfl
  · rw [decide_eq_false c, qj (by omega)]; rfl
/-! ### rows and blocks -/
theorem own_form2 {w : World} {base : Nat} {e : TypeId} {size : Nat} {v : Value} {N : Nat} {xs : List Value} (h : w.ownsRow base e size v N xs) (h0 : v ≠ .slice none 0 0) : ∃ g cap, v = .slice (some ⟨g, 0, none⟩) N cap ∧ N ≤ cap := by
  rcases h.2 with ⟨e, _⟩ | ⟨g, cap, cur, rfl, _, _, hc, _⟩
  · exact absurd e h0
  · exact ⟨g, cap, rfl, hc⟩
theorem cut_w (g n c f k : Nat) (hfk : f ≤ k) (hk : k ≤ n) (hc : n ≤ c) : ∀ W : World, (Instr.slice 47 (.slice (some ⟨g, 0, none⟩) n c) (some (.int .i64 (f : Int))) (some (.int .i64 (k : Int))) none).run Tryz.prog W = .ok (segW g c (f, k)) W := by
  obtain ⟨i0, hi, _, hs, _⟩ := info_parts str_info; intro W; rw [cut_mid (P := Tryz.prog) 47 9 .i64 .i64 Tryz.underlying47 hi 1 hs (some ⟨g, 0, none⟩) n c f k (by omega) (by omega) (by omega) hc W, Int.toNat_natCast, Int.toNat_natCast]; unfold segW
  by_cases h : c = f
  · rw [if_pos h, if_pos h]
  · rw [if_neg h, if_neg h]; simp only [Option.map_some, add_at]
theorem ne_sym {a b : Option Nat} (h : a = none ∨ a ≠ b) : b = none ∨ b ≠ a := by
  cases b with
  | none => exact .inl rfl
  | some x => exact .inr (fun e => by
      rcases h with h | h
      · rw [h] at e; cases e
      · exact h e.symm)
theorem ne_app {W : World} {base : Nat} {e : TypeId} {size n : Nat} {v va v1 : Value} {xs : List Value} (h : v.ownBlock = none ∨ v.ownBlock ≠ va.ownBlock) (hat : v1.ownBlock = v.ownBlock ∨ v1.ownBlock = some W.heap.size) (hva : W.ownsRow base e size va n xs) : v1.ownBlock = none ∨ v1.ownBlock ≠ va.ownBlock := by
  rcases hat with hat | hat
  · rw [hat]; exact h
  · refine .inr (fun q => ?_); rw [hat] at q; have := (hva.lt _ q.symm).2
    omega
structure PT (b0 : Nat) (w0 : World) (g gp : Nat) (es : List E) (a0 j : Nat) (hv : Value) (nh : Nat) (hs : List Value) (vb : Value) (nb : Nat) (bs : List Value) (va : Value) (na : Nat) (xs : List Value) (pb pa : Value) (ob ox : List Value) (W : World) : Prop where
  rh : W.ownsRow b0 3 1 hv nh hs
  rb : W.ownsRow b0 47 1 vb nb bs
  ra : W.ownsRow b0 47 1 va na xs
  gp_ : Blk W gp 26 #[pb, pa]
  ho : Outs b0 es a0 j ob ox W
  n : Blk W g 26 #[.slice none 0 0, .slice none 0 0]
  hb : Below b0 w0 W
  hz : b0 ≤ W.heap.size
  hg : b0 ≤ gp
theorem PT.below {b0 : Nat} {w0 : World} {g gp : Nat} {es : List E} {a0 j : Nat} {hv : Value} {nh : Nat} {hs : List Value} {vb : Value} {nb : Nat} {bs : List Value} {va : Value} {na : Nat} {xs : List Value} {pb pa : Value} {ob ox : List Value} {W W' : World}
    (p : PT b0 w0 g gp es a0 j hv nh hs vb nb bs va na xs pb pa ob ox W) (h : Below W.heap.size W W') : PT b0 w0 g gp es a0 j hv nh hs vb nb bs va na xs pb pa ob ox W' :=
  ⟨own_bel p.rh h, own_bel p.rb h, own_bel p.ra h, blk_bel p.gp_ h, p.ho.keep (fun _ _ _ q => own_bel q h), blk_bel p.n h, p.hb.trans (h.mono p.hz), Nat.le_trans p.hz h.size, p.hg⟩
theorem PT.appB {b0 : Nat} {w0 : World} {g gp : Nat} {es : List E} {a0 j : Nat} {hv : Value} {nh : Nat} {hs : List Value} {vb : Value} {nb : Nat} {bs : List Value} {va : Value} {na : Nat} {xs : List Value} {pb pa : Value} {ob ox : List Value} {W W' : World} {v1 : Value} {nb1 : Nat} {bs1 : List Value}
    (p : PT b0 w0 g gp es a0 j hv nh hs vb nb bs va na xs pb pa ob ox W) (hne : vb.ownBlock = none ∨ vb.ownBlock ≠ va.ownBlock) (ho : W'.ownsRow b0 47 1 v1 nb1 bs1) (hg : W.grownBy W' vb.ownBlock) :
    PT b0 w0 g gp es a0 j hv nh hs v1 nb1 bs1 va na xs pb pa ob ox W' :=
  ⟨p.rh.kept hg (own_ne2 p.rh p.rb (by decide)), ho, p.ra.kept hg (ne_sym hne), blk_grown p.gp_ hg (own_ne p.rb p.gp_ (by decide)), p.ho.keep (fun _ _ _ q => q.kept hg (own_ne2 q p.rb (by decide))),
   blk_grown p.n hg (own_ne p.rb p.n (by decide)), p.hb.grown hg p.hz (fun _ e => own_base p.rb _ e), Nat.le_trans p.hz hg.size, p.hg⟩
theorem PT.appA {b0 : Nat} {w0 : World} {g gp : Nat} {es : List E} {a0 j : Nat} {hv : Value} {nh : Nat} {hs : List Value} {vb : Value} {nb : Nat} {bs : List Value} {va : Value} {na : Nat} {xs : List Value} {pb pa : Value} {ob ox : List Value} {W W' : World} {v1 : Value} {na1 : Nat} {xs1 : List Value}
    (p : PT b0 w0 g gp es a0 j hv nh hs vb nb bs va na xs pb pa ob ox W) (hne : vb.ownBlock = none ∨ vb.ownBlock ≠ va.ownBlock) (ho : W'.ownsRow b0 47 1 v1 na1 xs1) (hg : W.grownBy W' va.ownBlock) :
    PT b0 w0 g gp es a0 j hv nh hs vb nb bs v1 na1 xs1 pb pa ob ox W' :=
  ⟨p.rh.kept hg (own_ne2 p.rh p.ra (by decide)), p.rb.kept hg hne, ho, blk_grown p.gp_ hg (own_ne p.ra p.gp_ (by decide)), p.ho.keep (fun _ _ _ q => q.kept hg (own_ne2 q p.ra (by decide))),
   blk_grown p.n hg (own_ne p.ra p.n (by decide)), p.hb.grown hg p.hz (fun _ e => own_base p.ra _ e), Nat.le_trans p.hz hg.size, p.hg⟩
theorem PT.delH {b0 : Nat} {w0 : World} {g gp : Nat} {es : List E} {a0 j : Nat} {hv : Value} {nh : Nat} {hs : List Value} {vb : Value} {nb : Nat} {bs : List Value} {va : Value} {na : Nat} {xs : List Value} {pb pa : Value} {ob ox : List Value} {W W' : World} {v1 : Value} {nh1 : Nat} {hs1 : List Value}
    (p : PT b0 w0 g gp es a0 j hv nh hs vb nb bs va na xs pb pa ob ox W) (ho : W'.ownsRow b0 3 1 v1 nh1 hs1) (hg : W.grownBy W' hv.ownBlock) :
    PT b0 w0 g gp es a0 j v1 nh1 hs1 vb nb bs va na xs pb pa ob ox W' :=
  ⟨ho, p.rb.kept hg (own_ne2 p.rb p.rh (by decide)), p.ra.kept hg (own_ne2 p.ra p.rh (by decide)), blk_grown p.gp_ hg (own_ne p.rh p.gp_ (by decide)), p.ho.keep (fun _ _ _ q => q.kept hg (own_ne2 q p.rh (by decide))),
   blk_grown p.n hg (own_ne p.rh p.n (by decide)), p.hb.grown hg p.hz (fun _ e => own_base p.rh _ e), Nat.le_trans p.hz hg.size, p.hg⟩
theorem PT.outs {b0 : Nat} {w0 : World} {g gp : Nat} {es : List E} {a0 j : Nat} {hv : Value} {nh : Nat} {hs : List Value} {vb : Value} {nb : Nat} {bs : List Value} {va : Value} {na : Nat} {xs : List Value} {pb pa : Value} {ob ox : List Value} {W : World} {j1 : Nat} {ob1 ox1 : List Value}
    (p : PT b0 w0 g gp es a0 j hv nh hs vb nb bs va na xs pb pa ob ox W) (h : Outs b0 es a0 j1 ob1 ox1 W) : PT b0 w0 g gp es a0 j1 hv nh hs vb nb bs va na xs pb pa ob1 ox1 W :=
  ⟨p.rh, p.rb, p.ra, p.gp_, h, p.n, p.hb, p.hz, p.hg⟩
theorem PT.store {b0 : Nat} {w0 : World} {g gp : Nat} {es : List E} {a0 j : Nat} {hv : Value} {nh : Nat} {hs : List Value} {vb : Value} {nb : Nat} {bs : List Value} {va : Value} {na : Nat} {xs : List Value} {pb pa : Value} {ob ox : List Value} {W : World}
    (p : PT b0 w0 g gp es a0 j hv nh hs vb nb bs va na xs pb pa ob ox W) (hne : g ≠ gp) (u1 u2 : Value) :
    PT b0 w0 g gp es a0 j hv nh hs vb nb bs va na xs u1 u2 ob ox ((W.setCell ⟨gp, 0, none⟩ u1).setCell ⟨gp, 1, none⟩ u2) :=
  ⟨(p.rh.kept (set_grown_at W gp 0 u1) (.inr (own_ne p.rh p.gp_ (by decide)))).kept (set_grown_at _ gp 1 u2) (.inr (own_ne p.rh p.gp_ (by decide))),
   (p.rb.kept (set_grown_at W gp 0 u1) (.inr (own_ne p.rb p.gp_ (by decide)))).kept (set_grown_at _ gp 1 u2) (.inr (own_ne p.rb p.gp_ (by decide))),
   (p.ra.kept (set_grown_at W gp 0 u1) (.inr (own_ne p.ra p.gp_ (by decide)))).kept (set_grown_at _ gp 1 u2) (.inr (own_ne p.ra p.gp_ (by decide))),
   (p.gp_.set_ 0 u1).set_ 1 u2,
   p.ho.keep (fun _ _ _ q => (q.kept (set_grown_at W gp 0 u1) (.inr (own_ne q p.gp_ (by decide)))).kept (set_grown_at _ gp 1 u2) (.inr (own_ne q p.gp_ (by decide)))),
   blk_grown (blk_grown p.n (set_grown_at W gp 0 u1) (fun e => hne (Option.some.inj e).symm)) (set_grown_at _ gp 1 u2) (fun e => hne (Option.some.inj e).symm),
   (p.hb.setCell (p := ⟨gp, 0, none⟩) p.hg u1).setCell (p := ⟨gp, 1, none⟩) p.hg u2,
   by have := p.hz; simpa using this, p.hg⟩
/-! ### steps -/
theorem step_own_at {P : Program} {ops : Array Oper} {o : Oper} {a : Act} {w : World} {K : Act → World → Prop} {Q : Exit → Act → World → Prop} {E : Prop}
    (hg : o.guard = none) (s x : Operand) (t : TypeId) (hop : o.op = Op.call { callee := Callee.builtin Builtin.append, args := #[s, x], argTypes := #[t, t] })
    (base : Nat) (e : TypeId) (i : TypeInfo) (z : Value) (size bytes : Nat) (h1 : P.underlying t = some (.slice e)) (h2 : P.info? e = some i) (h3 : i.zero = some z) (h4 : i.size = size) (h5 : i.bytes = bytes) (h6 : z.cells.size = size) (h7 : 0 < size)
    (v : Value) (n : Nat) (xs : List Value) (hs : a.eval s = v) (hown : w.ownsRow base e size v n xs)
    (ad : Addr) (m c : Nat) (news : List Value) (hx : a.eval x = .slice (some ad) m c) (hn : news.length = m * size) (hc : ∀ j u, news[j]? = some u → w.cell? (ad.add j) = some u) (h1c : ∀ u ∈ news, u.oneCell' = true)
    (b1 : n + m ≤ maxLen) (b2 : (n + m) * bytes ≤ 140737488355328) (hbase : base ≤ w.heap.size)
    (hK : ∀ v' w', w'.ownsRow base e size v' (n + m) (xs ++ news) → w.grownBy w' v.ownBlock → (v'.ownBlock = v.ownBlock ∨ v'.ownBlock = some w.heap.size) → K (a.put o.dst v') w') :
    if Region.wanted o (yielded ops a.tmps) = true then Oper.wp P o a w K Q else E := by
  have hw : Region.wanted o (yielded ops a.tmps) = true := by simp [Region.wanted, hg]
  rw [if_pos hw]; obtain ⟨v', w', hrun, r1, r2, _, r3⟩ := run_append_own_at (P := P) (w := w) base t o.type e i z size bytes h1 h2 h3 h4 h5 h6 h7 v n xs hown ad m c news hn hc h1c b1 b2 hbase; unfold Oper.wp; simp [execOp, hop, resolve, invoke, builtin, hs, hx, hrun, Result.andThen]; exact hK v' w' r1 r2 r3
theorem clone_h (base gh ch M f : Nat) (hs : List Int) (w : World) (hh : w.ownsRow base 3 1 (.slice (some ⟨gh, 0, none⟩) M ch) M (intV hs)) (hf : f ≤ M) (hM : M ≤ 1000) :
    Calls Tryz.prog 20 #[.slice (some ⟨gh, 0, none⟩) f ch] w fun e w' => ∃ g c, e = .returned (.slice (some ⟨g, 0, none⟩) f c) ∧ w.heap.size ≤ g ∧ w'.ownsRow w.heap.size 3 1 (.slice (some ⟨g, 0, none⟩) f c) f ((hs.take f).map (Value.int .i64)) ∧ Below w.heap.size w w' := by
  obtain ⟨i0, hi, hz0, hz1, hz2⟩ := info_parts int_info
  have hl : hs.length = M := by have := hh.1; unfold intV at this; simpa using this
  have hlf : (hs.take f).length = f := by rw [qw]; omega
  have h := Tryz.slices_Clone i0 (.int .i64 0) 1 8 hi hz0 hz1 hz2 rfl (by decide) (fun w => by kernel_rfl) gh 0 f ch ((hs.take f).map (Value.int .i64)) w (by rw [List.length_map, hlf, Nat.mul_one]) (by unfold maxLen; omega) (by omega) (fun j u hj => by
    have hj2 : j < f := by have := (List.getElem?_eq_some_iff.1 hj).1; rw [List.length_map, hlf] at this; exact this
    have hc := hh.cellAt j (by omega); rw [Nat.zero_add]; rw [hc]; unfold intV; rw [List.getElem?_map, List.getElem?_take, if_pos hj2] at hj; rw [List.getElem?_map]
    exact hj) (fun u hu => by
    obtain ⟨z, _, rfl⟩ := List.mem_map.1 hu
    simp [Value.oneCell'])
  refine h.mono ?_
  rintro e w' ⟨v', rfl, hown, hne, hb⟩
  obtain ⟨g, c, rfl, _⟩ := own_form2 hown hne; exact ⟨g, c, rfl, own_base hown g rfl, hown, hb⟩
theorem delA_at (j : Nat) (es : List E) (gq cq base f M G3 : Nat) (W : World) (hj : j ≤ 100) (hM : (rowF (lab j) j es).length = M) (hf : f ≤ M) (hM1 : M ≤ 1000) (ho : W.ownsRow base 3 1 (.slice (some ⟨gq, 0, none⟩) f cq) f (((htI j es).take f).map (Value.int .i64)))
    (T : Blk W G3 3 #[.int .i64 (j : Int)]) (hne : G3 ≠ gq) :
    Calls Tryz.prog 19 #[.slice (some ⟨gq, 0, none⟩) f cq, .func (.func 21) #[] #[.pointer (some ⟨G3, 0, none⟩)]] W fun e w' => e = .returned (.slice (some ⟨gq, 0, none⟩) (cnt (j + 1) ((pr j es).take f)) cq) ∧ W.grownBy w' (some gq) := by
  have hl : ((htI j es).take f).length = f := by rw [qw, htI_len]; omega
  have h := del_a gq cq base ((htI j es).take f) (j : Int) (by omega) (by omega) ⟨G3, 0, none⟩ W (by rw [hl]; exact ho) (T.cell 0) hne (by omega); rw [hl, cnt_hts] at h
  exact h.mono fun e w' q => ⟨q.1, q.2.2⟩
theorem delB_at (j : Nat) (es : List E) (gh ch base M G3 : Nat) (W : World) (hj : j ≤ 100) (hM : (rowF (lab j) j es).length = M) (hM1 : M ≤ 1000) (hh : W.ownsRow base 3 1 (.slice (some ⟨gh, 0, none⟩) M ch) M (intV (htI j es)))
    (T : Blk W G3 3 #[.int .i64 (j : Int)]) (hne : G3 ≠ gh) :
    Calls Tryz.prog 19 #[.slice (some ⟨gh, 0, none⟩) M ch, .func (.func 22) #[] #[.pointer (some ⟨G3, 0, none⟩)]] W fun e w' => e = .returned (.slice (some ⟨gh, 0, none⟩) (rowF (lab (j + 1)) (j + 1) es).length ch) ∧
      w'.ownsRow base 3 1 (.slice (some ⟨gh, 0, none⟩) (rowF (lab (j + 1)) (j + 1) es).length ch) (rowF (lab (j + 1)) (j + 1) es).length (intV (htI (j + 1) es)) ∧ W.grownBy w' (some gh) := by
  have hl : (htI j es).length = M := (htI_len j es).trans hM; have h := del_b gh ch base (htI j es) (j : Int) (by omega) (by omega) ⟨G3, 0, none⟩ W (by rw [hl]; exact hh) (T.cell 0) hne (by omega); rw [hl, htI_up2, htI_len] at h; exact h
end Go.Proofs.YtolbhliepkcihaaGreatDoor.Lab
end
