/- Joined by a program of this session (wip/pack.py) for this claim: BindPure, ProofPure2, ProofStub, BindAll, ProvePure, ProvePure2, ProveIdx, Prove0, ProveDel, ProveTok, ProveRnd, Prove1, Alive18, Twice, ProofStub3, QPCx0, QPCx2, QPCx1, QPCx3, PureProofs, Shows. -/
import Derived.Test.YtolbhliepkcihaaDoorKProofShowsb
import Derived.Sort.OwnSortedInts
import Derived.Lib.SliceRun
import Derived.Maps.AppendAt
import Derived.Deep.CutRange
import Derived.Deep.DeepCutAuto
import Derived.Test.YtolbhliepkcihaaDoorProg
import Derived.Below
import Derived.Deep.Draws
import Derived.Deep.AppendLies
import Derived.OwnWalk
import Derived.Laws.BytesArg
import Derived.Laws.MakeOwn
import Derived.Laws.OwnMore
import Derived.Deep.OwnRows
import Derived.Tactics
import Derived.Lib.ConvBytes
import Derived.Laws.Slices
import Derived.WalkKit
import Derived.KernelRfl
import Derived.RowKit3
import Derived.Deep.LoopGhost
import Derived.Deep.QuietTactic
import Derived.BigQuiet
import Derived.WideLaws
import Derived.Deep.CutBlock
import Derived.Deep.RegionHeld3
import Derived.Laws.Rows
import Derived.Lib.AppendStr
import Derived.ArgAppend
import Derived.Laws.IdiomCopy
import Derived.OrdersHeld
import Derived.Laws.BitsLemmas
import Derived.RowKit
import Derived.Test.YtolbhliepkcihaaDoorBaseH
import Derived.Test.YtolbhliepkcihaaDoorPWa
section
namespace Go.Proofs.YtolbhliepkcihaaDoor.ProofPure
open Go.RowKit YtolbhliepkcihaaDoorW.PrintWords Kinds Build Lab Sha Mac Codec Tower SkipOps SkipPure
theorem app_inj {a b c d : ByteArray} (hs : a.size = c.size) (h : a ++ b = c ++ d) : a = c ∧ b = d := by
 have h1 : a.data.toList ++ b.data.toList = c.data.toList ++ d.data.toList := by
  have := congrArg (fun z : ByteArray => z.data.toList) h
  simpa [ByteArray.data_append] using this
 have hs' : a.data.toList.length = c.data.toList.length := by
  rw [Array.length_toList, Array.length_toList]
  exact hs
 obtain ⟨q1, q2⟩ := List.append_inj h1 hs'
 exact ⟨ByteArray.ext (Array.toList_inj.1 q1), ByteArray.ext (Array.toList_inj.1 q2)⟩
theorem ofNats_inj : ∀ a b : List Nat, (∀ x, x ∈ a → x < 256) → (∀ x, x ∈ b → x < 256) → a.map UInt8.ofNat = b.map UInt8.ofNat → a = b
 | [], [], _, _, _ => rfl
 | [], _ :: _, _, _, h => by cases h
 | _ :: _, [], _, _, h => by cases h
 | x :: a, y :: b, ha, hb, h => by
  rw [List.map_cons, List.map_cons] at h
  injection h with h1 h2
  have e := congrArg UInt8.toNat h1
  have hx := ha x List.mem_cons_self
  have hy := hb y List.mem_cons_self
  have e1 : (UInt8.ofNat x).toNat = x := by simp; omega
  have e2 : (UInt8.ofNat y).toNat = y := by simp; omega
  rw [e1, e2] at e
  rw [e, ofNats_inj a b (fun z hz => ha z (List.mem_cons_of_mem _ hz)) (fun z hz => hb z (List.mem_cons_of_mem _ hz)) h2]
theorem lowL_lt (n many x : Nat) (h : x ∈ lowL n many) : x < 256 := by
 unfold lowL at h
 obtain ⟨i, _, rfl⟩ := List.mem_map.1 h
 omega
theorem lowS_inj {n m many : Nat} (h : lowS n many = lowS m many) : lowL n many = lowL m many := by
 unfold lowS ofNats at h
 injection h with h
 exact ofNats_inj _ _ (lowL_lt n many) (lowL_lt m many) (by simpa using h)
theorem numS_inj {n m : Nat} (hn : n < 18446744073709551616) (hm : m < 18446744073709551616) (h : numS n = numS m) : n = m := by
 have e := lowS_inj h
 have g : ∀ i, i < 8 → n / 256 ^ i % 256 = m / 256 ^ i % 256 := fun i hi => by
  have e2 := congrArg (fun l => l[i]?) e
  unfold lowL at e2
  simp only [List.getElem?_map, List.getElem?_range hi] at e2
  exact Option.some.inj e2
 have g0 := g 0 (by decide)
 have g1 := g 1 (by decide)
 have g2 := g 2 (by decide)
 have g3 := g 3 (by decide)
 have g4 := g 4 (by decide)
 have g5 := g 5 (by decide)
 have g6 := g 6 (by decide)
 have g7 := g 7 (by decide)
 simp only [Nat.reducePow] at g0 g1 g2 g3 g4 g5 g6 g7
 omega
theorem cat_inj : ∀ a b : List ByteArray, (∀ s, s ∈ a → s.size = 32) → (∀ s, s ∈ b → s.size = 32) → catS a = catS b → a = b
 | [], [], _, _, _ => rfl
 | [], y :: b, _, hb, h => by
  have e := congrArg ByteArray.size h
  rw [cat32 _ hb, List.length_cons] at e
  have e0 : (catS []).size = 0 := rfl
  omega
 | x :: a, [], ha, _, h => by
  have e := congrArg ByteArray.size h
  rw [cat32 _ ha, List.length_cons] at e
  have e0 : (catS []).size = 0 := rfl
  omega
 | x :: a, y :: b, ha, hb, h => by
  have h' : x ++ catS a = y ++ catS b := h
  obtain ⟨q1, q2⟩ := app_inj (by rw [ha x List.mem_cons_self, hb y List.mem_cons_self]) h'
  rw [q1, cat_inj a b (fun z hz => ha z (List.mem_cons_of_mem _ hz)) (fun z hz => hb z (List.mem_cons_of_mem _ hz)) q2]
theorem joinT_inj {lv : Nat} {a b : List ByteArray} (ha : ∀ s, s ∈ a → s.size = 32) (hb : ∀ s, s ∈ b → s.size = 32) (h : joinT lv a = joinT lv b) : a = b :=
 cat_inj a b ha hb (app_inj rfl h).2
theorem textS_inj {a b : ByteArray} (h : textS a = textS b) : a = b := (app_inj (by rw [lowS_size, lowS_size]) h).2
theorem itemT_inj {x y : S46} (hx0 : 0 ≤ x.f0) (hx1 : x.f0 < 18446744073709551616) (hy0 : 0 ≤ y.f0) (hy1 : y.f0 < 18446744073709551616) (h : itemT x = itemT y) : x = y := by
 unfold itemT at h
 obtain ⟨h1, h2⟩ := app_inj (by rw [ByteArray.size_append, ByteArray.size_append, numS_size, numS_size]) h
 have h3 := numS_inj (by omega) (by omega) (app_inj rfl h1).2
 have h4 := textS_inj h2
 cases x
 cases y
 simp only at h3 h4 hx0 hx1 hy0 hy1
 subst h4
 congr 1
 omega
def textN : Nat → List E → ByteArray
 | _, [] => ⟨#[]⟩
 | 0, y :: _ => y.t
 | lv + 1, y :: r => joinT (lv + 1) (fromL lv (y :: r))
theorem lab_text (lv : Nat) (y : E) (r : List E) : lab lv (y :: r) = sumS (textN lv (y :: r)) := by cases lv <;> rfl
def lvG (y : E) (r : List E) : Nat → Nat → List ByteArray
 | 0, _ => []
 | d + 1, lv => if lv + 1 < y.h then joinT (lv + 1) (fromL lv (y :: r)) :: lvG y r d (lv + 1) else lvG y r d (lv + 1)
def lvT (y : E) (r : List E) : List ByteArray := lvG y r 8 0
theorem lvG_mem (y : E) (r : List E) : ∀ d lv m, lv ≤ m → m < lv + d → m + 1 < y.h → joinT (m + 1) (fromL m (y :: r)) ∈ lvG y r d lv
 | 0, lv, m, h1, h2, _ => by omega
 | d + 1, lv, m, h1, h2, h3 => by
  rw [lvG]
  by_cases e : lv = m
  ·subst e
   rw [if_pos h3]
   exact List.mem_cons_self
  ·have ih := lvG_mem y r d (lv + 1) m (by omega) (by omega) h3
   split
   ·exact List.mem_cons_of_mem _ ih
   ·exact ih
def allT : List E → List ByteArray
 | [] => []
 | y :: r => (y.t :: lvT y r) ++ allT r
theorem text_mem (lv : Nat) (hlv : lv ≤ 8) (y : E) (r : List E) (h : lv < y.h) : ∀ p : List E, textN lv (y :: r) ∈ allT (p ++ y :: r)
 | [] => by
  show _ ∈ (y.t :: lvT y r) ++ allT r
  refine List.mem_append_left _ ?_
  cases lv with
  | zero => exact List.mem_cons_self
  | succ lv => exact List.mem_cons_of_mem _ (lvG_mem y r 8 0 lv (by omega) (by omega) h)
 | z :: p => List.mem_append_right _ (text_mem lv hlv y r h p)
theorem more_mem (lv : Nat) : ∀ (r : List E) (z : ByteArray), z ∈ more (lab lv) lv r → ∃ p y s, r = p ++ y :: s ∧ lv < y.h ∧ z = lab lv (y :: s)
 | [], z, h => by cases h
 | y :: r, z, h => by
  rw [more] at h
  split at h
  ·cases h
  ·split at h
   ·rename_i c
    rcases List.mem_cons.1 h with rfl | h
    ·exact ⟨[], y, r, rfl, c, rfl⟩
    ·obtain ⟨p, u, s, rfl, q1, q2⟩ := more_mem lv r z h
     exact ⟨y :: p, u, s, rfl, q1, q2⟩
   ·obtain ⟨p, u, s, rfl, q1, q2⟩ := more_mem lv r z h
    exact ⟨y :: p, u, s, rfl, q1, q2⟩
theorem from_mem (lv : Nat) (y : E) (r : List E) (hy : lv < y.h) (z : ByteArray) (h : z ∈ fromL lv (y :: r)) : ∃ p u s, y :: r = p ++ u :: s ∧ lv < u.h ∧ z = lab lv (u :: s) := by
 rcases List.mem_cons.1 h with rfl | h
 ·exact ⟨[], y, r, rfl, hy, rfl⟩
 ·obtain ⟨p, u, s, e, q1, q2⟩ := more_mem lv r z h
  exact ⟨y :: p, u, s, by rw [e]; rfl, q1, q2⟩
def collB (ss ts : List ByteArray) : Bool := ss.any fun s => ts.any fun t => !(s.toList == t.toList) && ((sumS s).toList == (sumS t).toList)
theorem coll_none {ss ts : List ByteArray} (h : collB ss ts = false) : ∀ s, s ∈ ss → ∀ t, t ∈ ts → sumS s = sumS t → s = t := by
 intro s hs t ht e
 refine Decidable.byContradiction fun hne => ?_
 unfold collB at h
 have h1 := List.any_eq_false.1 h s hs
 refine h1 (List.any_eq_true.2 ⟨t, ht, ?_⟩)
 have hne2 : ¬ s.toList = t.toList := fun q => hne (toList_inj q)
 rw [e, beq_self_eq_true, Bool.and_true, beq_eq_false_iff_ne.2 hne2]
 rfl
theorem steps_mem (x : S46) (b a : Rows) (j : Nat) (hj : j ≤ 8) : stepN x b a j ∈ stepsL x b a := List.mem_map.2 ⟨j, List.mem_range.2 (by omega), rfl⟩
theorem bind_at (x : S46) (b a : Rows) (hb : okRows b) (ha : okRows a) (r0 : List E) (hno : ∀ s, s ∈ stepsL x b a → ∀ t, t ∈ allT (head :: r0) → sumS s = sumS t → s = t)
  (hroot : sumS (stepN x b a 8) = lab 8 (head :: r0)) (d : Nat) : ∀ j, j + d = 8 → ∃ p y s, head :: r0 = p ++ y :: s ∧ j < y.h ∧ stepN x b a j = textN j (y :: s) := by
 induction d with
 | zero =>
  intro j hj
  obtain rfl : j = 8 := by omega
  refine ⟨[], head, r0, rfl, by decide, ?_⟩
  exact hno _ (steps_mem x b a 8 (by omega)) _ (text_mem 8 (by omega) head r0 (by decide) []) (by rw [hroot, lab_text])
 | succ d ih =>
  intro j hj
  obtain ⟨p, y, s, e, hy, ht⟩ := ih (j + 1) (by omega)
  have ht2 : joinT (j + 1) (b.getD j [] ++ [sumS (stepN x b a j)] ++ a.getD j []) = joinT (j + 1) (fromL j (y :: s)) := ht
  have h1 := (hb.2 j (by omega)).2
  have h2 := (ha.2 j (by omega)).2
  have hl := joinT_inj (fun q hq => by
   rcases List.mem_append.1 hq with hq | hq
   ·rcases List.mem_append.1 hq with hq | hq
    ·exact h1 q hq
    ·rw [List.mem_singleton.1 hq]; exact sumS_size _
   ·exact h2 q hq) (from32 j y s).1 ht2
  have hm : sumS (stepN x b a j) ∈ fromL j (y :: s) := by
   rw [← hl]
   exact List.mem_append_left _ (List.mem_append_right _ (List.mem_singleton.2 rfl))
  obtain ⟨p2, u, s2, e2, hu, hz⟩ := from_mem j y s (by omega) _ hm
  refine ⟨p ++ p2, u, s2, by rw [e, e2, List.append_assoc], hu, ?_⟩
  refine hno _ (steps_mem x b a j (by omega)) _ ?_ (by rw [hz, lab_text])
  rw [e, e2, ← List.append_assoc]
  exact text_mem j (by omega) u s2 hu (p ++ p2)
theorem binds (key : ByteArray) (l : List S46) (x : S46) (b a : Rows) (hok : ∀ y, y ∈ l → 0 ≤ y.f0 ∧ y.f0 < 18446744073709551616) (hx0 : 0 ≤ x.f0) (hx1 : x.f0 < 18446744073709551616) (hb : okRows b) (ha : okRows a)
  (hroot : sumS (stepN x b a 8) = rootL key l) (hc : collB (stepsL x b a) (allT (ents key l)) = false) : x ∈ l := by
 obtain ⟨p, y, s, e, _, ht⟩ := bind_at x b a hb ha (l.map (ent key)) (coll_none hc) hroot 8 0 rfl
 have ht2 : itemT x = y.t := ht
 have hm : y ∈ head :: l.map (ent key) := by rw [e]; exact List.mem_append_right _ List.mem_cons_self
 rcases List.mem_cons.1 hm with rfl | hm
 ·have hz := congrArg ByteArray.size ht2
  rw [itemT_size] at hz
  have : (head.t).size = 1 := rfl
  omega
 ·obtain ⟨z, hz, rfl⟩ := List.mem_map.1 hm
  have hz2 := hok z hz
  have : x = z := itemT_inj hx0 hx1 hz2.1 hz2.2 ht2
  rw [this]
  exact hz
end Go.Proofs.YtolbhliepkcihaaDoor.ProofPure
end
section
namespace Go.Proofs.YtolbhliepkcihaaDoor.ProofPure
open Go.RowKit QPA YtolbhliepkcihaaDoorW.PrintWords Kinds Build Lab Sha Mac Codec Tower SkipOps SkipPure
theorem pitem_f (x : S46) (h0 : 0 ≤ x.f0) (h1 : x.f0 < 18446744073709551616) (hs : x.f1.size ≤ 4096) : saltusref17_Item.f x.f0 x.f1 = some (itemT x) := item_f x h0 h1 hs
end Go.Proofs.YtolbhliepkcihaaDoor.ProofPure
end
section
namespace Go.Proofs.YtolbhliepkcihaaDoor
open Go.RowKit YtolbhliepkcihaaDoorW.PrintWords Kinds Build Lab Sha Mac Codec Tower SkipOps SkipPure ProofPure
def domP (a0 : Int) (b a : ProofPure.Rows) : Bool := decide (0 ≤ a0) && decide (a0 < 18446744073709551616) && decide (b.length ≤ 1000) && decide (a.length ≤ 1000)
theorem domP_of {a0 : Int} {b a : ProofPure.Rows} (h : domP a0 b a = true) : 0 ≤ a0 ∧ a0 < 18446744073709551616 ∧ b.length ≤ 1000 ∧ a.length ≤ 1000 := by
 unfold domP at h
 simp only [Bool.and_eq_true, decide_eq_true_eq] at h
 exact ⟨h.1.1.1, h.1.1.2, h.1.2, h.2⟩
def proof_Steps.f (a0_0 : Int) (a0_1 : ByteArray) (l1_0 l1_1 : ProofPure.Rows) : Option (List ByteArray × Int) := if domP a0_0 l1_0 l1_1 = true then some (stepsR ⟨a0_0, a0_1⟩ l1_0 l1_1) else none
theorem proof_Steps.calls (a0_0 : Int) (a0_1 : ByteArray) (A1_0 : Option Addr) (c1_0 : Nat) (l1_0 : List (List ByteArray)) (A1_1 : Option Addr) (c1_1 : Nat) (l1_1 : List (List ByteArray)) (r1 : List ByteArray) (r2 : Int) (w : World) (hr1_0 : Kd.C (Kd.slice 9 Kd.string) w A1_0 l1_0.length l1_0) (hc1_0 : l1_0.length ≤ c1_0) (hr1_1 : Kd.C (Kd.slice 9 Kd.string) w A1_1 l1_1.length l1_1) (hc1_1 : l1_1.length ≤ c1_1) (h : proof_Steps.f a0_0 a0_1 l1_0 l1_1 = some (r1, r2)) :
  Calls Tryd.prog 53 #[.agg #[.int .u64 a0_0, .string a0_1], .agg #[.slice A1_0 l1_0.length c1_0, .slice A1_1 l1_1.length c1_1]] w fun e w' => ∃ v0_ : Value, e = .returned (.tuple #[v0_, .int .i64 r2]) ∧ Kd.R Kd.string 9 w' w.heap.size (fun _ => True) v0_ r1 ∧ Below w.heap.size w w' := by
 unfold proof_Steps.f at h
 split at h
 ·rename_i hd
  obtain ⟨h1, h2, h3, h4⟩ := domP_of hd
  obtain ⟨k, hk⟩ := (steps_ev ⟨a0_0, a0_1⟩ l1_0 l1_1 h1 h2 (by omega) (by omega)).rounds
  exact QPA.proof_Steps.calls k a0_0 a0_1 A1_0 c1_0 l1_0 A1_1 c1_1 l1_1 r1 r2 w hr1_0 hc1_0 hr1_1 hc1_1 (hk.trans h)
 ·cases h
def proof_Check.f (a0 : ByteArray) (a1_0 : Int) (a1_1 : ByteArray) (l2_0 l2_1 : ProofPure.Rows) : Option (Bool × Int) := if domP a1_0 l2_0 l2_1 = true then some (if mayN a1_1 l2_0 l2_1 = 0 then ((sumS (stepN ⟨a1_0, a1_1⟩ l2_0 l2_1 8)).toList == a0.toList, 0) else (false, mayN a1_1 l2_0 l2_1)) else none
theorem proof_Check.calls (a0 : ByteArray) (a1_0 : Int) (a1_1 : ByteArray) (A2_0 : Option Addr) (c2_0 : Nat) (l2_0 : List (List ByteArray)) (A2_1 : Option Addr) (c2_1 : Nat) (l2_1 : List (List ByteArray)) (r1 : Bool) (r2 : Int) (w : World) (hr2_0 : Kd.C (Kd.slice 9 Kd.string) w A2_0 l2_0.length l2_0) (hc2_0 : l2_0.length ≤ c2_0) (hr2_1 : Kd.C (Kd.slice 9 Kd.string) w A2_1 l2_1.length l2_1) (hc2_1 : l2_1.length ≤ c2_1) (h : proof_Check.f a0 a1_0 a1_1 l2_0 l2_1 = some (r1, r2)) :
  Calls Tryd.prog 54 #[.string a0, .agg #[.int .u64 a1_0, .string a1_1], .agg #[.slice A2_0 l2_0.length c2_0, .slice A2_1 l2_1.length c2_1]] w fun e w' => e = .returned (.tuple #[.bool r1, .int .i64 r2]) ∧ Below w.heap.size w w' := by
 unfold proof_Check.f at h
 split at h
 ·rename_i hd
  obtain ⟨h1, h2, h3, h4⟩ := domP_of hd
  obtain ⟨k, hk⟩ := (check_ev a0 ⟨a1_0, a1_1⟩ l2_0 l2_1 h1 h2 (by omega) (by omega)).rounds
  exact QPA.proof_Check.calls k a0 a1_0 a1_1 A2_0 c2_0 l2_0 A2_1 c2_1 l2_1 r1 r2 w hr2_0 hc2_0 hr2_1 hc2_1 (hk.trans h)
 ·cases h
end Go.Proofs.YtolbhliepkcihaaDoor
end
section
namespace Go.Proofs.YtolbhliepkcihaaDoor.ProofPure
open Go.RowKit QPA YtolbhliepkcihaaDoorW.PrintWords Kinds Build Lab Sha Mac Codec Tower SkipOps SkipPure
theorem es_at (key : ByteArray) (l : List S46) (p : Nat) (hp : p ≤ l.length) : ∃ y, (ents key l).drop p = y :: (ents key l).drop (p + 1) ∧ (p = 0 → y = head) ∧ ∀ (i : Nat) (hi : i < l.length), p = i + 1 → y = ent key l[i] := by
 have hlen : (ents key l).length = l.length + 1 := by unfold ents; simp
 refine ⟨(ents key l)[p]'(by omega), List.drop_eq_getElem_cons (by omega), fun e => by subst e; rfl, fun i hi e => ?_⟩
 subst e
 unfold ents
 simp
theorem hts_rd (key : ByteArray) (l : List S46) (i : Nat) (hi : i < l.length) : rd (htsL key l) (i : Int) = ((heightN key l[i].f0.toNat : Nat) : Int) := by
 unfold rd htsL
 rw [Int.toNat_natCast, List.getD_eq_getElem?_getD, List.getElem?_map, List.getElem?_eq_getElem hi]
 rfl
theorem from_f (key : ByteArray) (l : List S46) (hn : l.length ≤ 1000) (hok : okL l) (p : Nat) (hp : p ≤ l.length) (lv : Nat) (hlv : lv < 8) (y : E) (r : List E) (e : (ents key l).drop p = y :: r) :
  saltusref17_From.f l (htsL key l) ((p : Int) - 1) (lv : Int) (wrap64 ((lv : Int) + 1)) = some (fromL lv (y :: r)) := by
 have ew : wrap64 ((lv : Int) + 1) = ((lv + 1 : Nat) : Int) := SkipPure.w_succ lv 8 hlv (by decide)
 have es : sufT l (htsL key l) ((p : Int) - 1) = y :: r := by
  rw [suf_at, show ((p : Int) - 1 + 1).toNat = p by omega, e]
 rw [ew]
 unfold saltusref17_From.f
 rw [if_pos ⟨okT_of key l hn hok, by omega, by omega, by omega, by omega, by omega⟩, es]
 rfl
theorem text_f (lv : Nat) (hlv : lv < 8) (y : E) (r : List E) (hr : r.length ≤ 10000) : saltusref17_Text.f (wrap64 ((lv : Int) + 1)) (fromL lv (y :: r)) = some (joinT (lv + 1) (fromL lv (y :: r))) := by
 have ew : wrap64 ((lv : Int) + 1) = ((lv + 1 : Nat) : Int) := SkipPure.w_succ lv 8 hlv (by decide)
 obtain ⟨f1, f2⟩ := from32 lv y r
 have e2 := cat32 _ f1
 rw [ew]
 unfold saltusref17_Text.f
 rw [if_pos ⟨by omega, by omega, by omega, by omega⟩, Int.toNat_natCast]
theorem lvG_len (y : E) (r : List E) : ∀ d lv, (lvG y r d lv).length ≤ d
 | 0, _ => Nat.le_refl _
 | d + 1, lv => by
  have ih := lvG_len y r d (lv + 1)
  rw [lvG]
  split
  ·rw [List.length_cons]; omega
  ·omega
theorem all_l1 (key : ByteArray) (l : List S46) (hn : l.length ≤ 1000) (hok : okL l) (p : Nat) (hp : p ≤ l.length) (y : E) (r : List E) (e : (ents key l).drop p = y :: r) (h0 : p = 0 → y = head) (hy : ∀ (i : Nat) (hi : i < l.length), p = i + 1 → y = ent key l[i])
  (R : List ByteArray) (d : Nat) : ∀ lv acc, lv + d = 8 → acc.length + d ≤ 1000000 → (∀ acc2, acc2 = acc ++ lvG y r d lv → Ev (fun k => saltusref18_All.l0 k acc2 (wrap64 (((p : Int) - 1) + 1)) l (htsL key l)) R) →
  Ev (fun k => saltusref18_All.l1 k acc ((p : Int) - 1) (lv : Int) l (htsL key l)) R := by
 have hrl : r.length ≤ 10000 := by
  have := congrArg List.length e
  rw [List.length_drop, List.length_cons] at this
  have h2 : (ents key l).length = l.length + 1 := by unfold ents; simp
  omega
 induction d with
 | zero =>
  intro lv acc hlv ha hk
  obtain rfl : lv = 8 := by omega
  have h := hk acc (by rw [lvG, List.append_nil])
  refine Ev.step (fun k => ?_) h
  rw [saltusref18_All.l1, if_neg (by decide)]
 | succ d ih =>
  intro lv acc hlv ha hk
  have ew : wrap64 ((lv : Int) + 1) = ((lv + 1 : Nat) : Int) := SkipPure.w_succ lv 8 (by omega) (by decide)
  have ef := from_f key l hn hok p hp lv (by omega) y r e
  have et := text_f lv (by omega) y r hrl
  have hj : ∀ c : Bool, c = decide (lv + 1 < y.h) → Ev (fun k => saltusref18_All.j3 k acc ((p : Int) - 1) (lv : Int) c l (htsL key l)) R := by
   intro c hc
   by_cases g : lv + 1 < y.h
   ·rw [qj g] at hc
    subst hc
    have h := ih (lv + 1) (acc ++ [joinT (lv + 1) (fromL lv (y :: r))]) (by omega) (by simp; omega) (fun acc2 h2 => hk acc2 (by rw [h2, lvG, if_pos g, List.append_assoc]; rfl))
    refine Ev.step (fun k => ?_) h
    rw [saltusref18_All.j3, if_pos rfl, ef, qv, et, qv, if_pos (by omega), ew]
   ·rw [decide_eq_false g] at hc
    subst hc
    have h := ih (lv + 1) acc (by omega) (by omega) (fun acc2 h2 => hk acc2 (by rw [h2, lvG, if_neg g]))
    refine Ev.step (fun k => ?_) h
    rw [saltusref18_All.j3, if_neg (by decide), ew]
  by_cases hp0 : p = 0
  ·have h := hj true (by rw [h0 hp0]; exact (qj (show lv + 1 < 9 by omega)).symm)
   refine Ev.step (fun k => ?_) h
   rw [saltusref18_All.l1, if_pos (by omega), if_pos (by omega)]
  ·obtain ⟨i, rfl⟩ : ∃ i, p = i + 1 := ⟨p - 1, by omega⟩
   have hi : i < l.length := by omega
   have eh := hy i hi rfl
   have hlh : (htsL key l).length = l.length := by unfold htsL; simp
   have e1 : ((i + 1 : Nat) : Int) - 1 = (i : Int) := by omega
   have h := hj (decide ((rd (htsL key l) (((i + 1 : Nat) : Int) - 1)) > (wrap64 ((lv : Int) + 1)))) (by
    rw [e1, hts_rd key l i hi, ew, eh]
    show decide (_ > _) = decide (lv + 1 < heightN key l[i].f0.toNat)
    exact decide_eq_decide.2 (by omega))
   refine Ev.step (fun k => ?_) h
   rw [saltusref18_All.l1, if_pos (by omega), if_neg (by omega), if_pos (by omega), if_pos (by omega)]
theorem all_l0 (key : ByteArray) (l : List S46) (hn : l.length ≤ 1000) (hok : okL l) (d : Nat) : ∀ p acc, p + d = l.length + 1 → acc.length + 10 * d ≤ 100000 →
  Ev (fun k => saltusref18_All.l0 k acc ((p : Int) - 1) l (htsL key l)) (acc ++ (if p = 0 then (allT (ents key l)).tail else allT ((ents key l).drop p))) := by
 induction d with
 | zero =>
  intro p acc hp ha
  have hlen : (ents key l).length = l.length + 1 := by unfold ents; simp
  rw [if_neg (by omega), List.drop_eq_nil_of_le (by omega)]
  refine Ev.step (fun k => ?_) (Ev.now _)
  rw [saltusref18_All.l0, if_neg (by omega)]
  show some acc = some (acc ++ [])
  rw [List.append_nil]
 | succ d ih =>
  intro p acc hp ha
  obtain ⟨y, e, h0, hy⟩ := es_at key l p (by omega)
  have ew : wrap64 (((p : Int) - 1) + 1) = ((p + 1 : Nat) : Int) - 1 := by unfold wrap64; omega
  have hR := fun acc2 (hl : acc2.length + 10 * d ≤ 100000) => ih (p + 1) acc2 (by omega) hl
  simp only [if_neg (show ¬p + 1 = 0 by omega)] at hR
  have hlv := lvG_len y ((ents key l).drop (p + 1)) 8 0
  by_cases hp0 : p = 0
  ·have h1 := all_l1 key l hn hok p (by omega) y _ e h0 hy (acc ++ (allT (ents key l)).tail) 8 0 acc rfl (by omega) (fun acc2 h2 => by
    have h3 := hR acc2 (by rw [h2, List.length_append]; omega)
    rw [ew]
    have e2 : acc2 ++ allT ((ents key l).drop (p + 1)) = acc ++ (allT (ents key l)).tail := by
     rw [h2, List.append_assoc]
     congr 1
     subst hp0
     rw [List.drop_zero] at e
     conv => rhs; rw [e]
     rfl
    rw [← e2]
    exact h3)
   rw [if_pos hp0]
   refine Ev.step (fun k => ?_) (Ev.step (fun k => ?_) h1 : Ev (fun k => saltusref18_All.j1 k acc ((p : Int) - 1) l (htsL key l)) _)
   ·rw [saltusref18_All.l0, if_pos (by omega), if_neg (by omega)]
   ·rw [saltusref18_All.j1]
    rfl
  ·obtain ⟨i, rfl⟩ : ∃ i, p = i + 1 := ⟨p - 1, by omega⟩
   have hi : i < l.length := by omega
   have eh := hy i hi rfl
   have e1 : ((i + 1 : Nat) : Int) - 1 = (i : Int) := by omega
   obtain ⟨q1, q2, q3⟩ := hok _ (List.getElem_mem hi)
   have eI : saltusref17_Item.f (rd_T46 l (((i + 1 : Nat) : Int) - 1)).f0 (rd_T46 l (((i + 1 : Nat) : Int) - 1)).f1 = some y.t := by
    rw [e1, rd_it l i hi, pitem_f l[i] q2 q3 q1, eh]
    rfl
   have h1 := all_l1 key l hn hok (i + 1) (by omega) y _ e h0 hy (acc ++ allT ((ents key l).drop (i + 1))) 8 0 (acc ++ [y.t]) rfl (by simp; omega) (fun acc2 h2 => by
    have h3 := hR acc2 (by rw [h2, List.length_append, List.length_append, List.length_singleton]; omega)
    rw [ew]
    have e2 : acc2 ++ allT ((ents key l).drop (i + 1 + 1)) = acc ++ allT ((ents key l).drop (i + 1)) := by
     rw [h2, e, List.append_assoc, List.append_assoc]
     rfl
    rw [← e2]
    exact h3)
   rw [if_neg hp0]
   refine Ev.step (fun k => ?_) (Ev.step (fun k => ?_) h1 : Ev (fun k => saltusref18_All.j1 k (acc ++ [y.t]) (((i + 1 : Nat) : Int) - 1) l (htsL key l)) _)
   ·rw [saltusref18_All.l0, if_pos (by omega), if_pos (by omega), if_pos (by omega), eI, qv, if_pos (by omega)]
   ·rw [saltusref18_All.j1]
    rfl
theorem all_ev (key : ByteArray) (l : List S46) (hn : l.length ≤ 1000) (hok : okL l) : Ev (fun k => saltusref18_All.f k l (htsL key l)) (allT (ents key l)) := by
 have h := all_l0 key l hn hok (l.length + 1) 0 [ofNats [1]] (by omega) (by simp; omega)
 rw [if_pos rfl] at h
 have e : [ofNats [1]] ++ (allT (ents key l)).tail = allT (ents key l) := rfl
 rw [e] at h
 refine Ev.congr (fun k => ?_) h
 unfold saltusref18_All.f
 rw [show strOfNums ([1] : List Int) = ofNats [1] from ofNats_eq [1]]
 rfl
end Go.Proofs.YtolbhliepkcihaaDoor.ProofPure
end
section
namespace Go.Proofs.YtolbhliepkcihaaDoor.ProofPure
open Go.RowKit YtolbhliepkcihaaDoorW.PrintWords Kinds Build Lab Sha Mac Codec Tower SkipOps SkipPure
abbrev Z := Nat × ByteArray
def pr (j : Nat) : List E → List Z
 | [] => []
 | y :: r => if j < y.h then (y.h, lab j (y :: r)) :: pr j r else pr j r
theorem pr_snd (j : Nat) : ∀ s : List E, (pr j s).map (·.2) = rowF (lab j) j s
 | [] => rfl
 | y :: r => by
  have ih := pr_snd j r
  by_cases c : j < y.h
  ·rw [pr, rowF, if_pos c, if_pos c, List.map_cons, ih]
  ·rw [pr, rowF, if_neg c, if_neg c, ih]
theorem pr_fst (j : Nat) : ∀ s : List E, (pr j s).map (·.1) = hts j s
 | [] => rfl
 | y :: r => by
  have ih := pr_fst j r
  unfold hts at ih ⊢
  by_cases c : j < y.h
  ·rw [pr, if_pos c, List.map_cons, ih, List.map_cons, List.filter_cons_of_pos (by simpa using c)]
  ·rw [pr, if_neg c, ih, List.map_cons, List.filter_cons_of_neg (by simpa using c)]
def low (t : Nat) (z : Z) : Bool := decide (z.1 ≤ t)
theorem more_pr (j : Nat) : ∀ s : List E, more (lab j) j s = ((pr j s).takeWhile (low (j + 1))).map (·.2)
 | [] => rfl
 | y :: r => by
  have ih := more_pr j r
  by_cases d : j + 1 < y.h
  ·rw [more, if_pos d, pr, if_pos (by omega), List.takeWhile_cons_of_neg (by unfold low; simp; omega)]
   rfl
  ·by_cases c : j < y.h
   ·rw [more, if_neg d, if_pos c, pr, if_pos c, List.takeWhile_cons_of_pos (by unfold low; simp; omega), List.map_cons, ih]
   ·rw [more, if_neg d, if_neg c, pr, if_neg c, ih]
def up (t : Nat) : List Z → List Z
 | [] => []
 | z :: r => if t < z.1 then (z.1, sumS (joinT t (z.2 :: (r.takeWhile (low t)).map (·.2)))) :: up t r else up t r
theorem pr_up (j : Nat) : ∀ s : List E, pr (j + 1) s = up (j + 1) (pr j s)
 | [] => rfl
 | y :: r => by
  have ih := pr_up j r
  by_cases d : j + 1 < y.h
  ·rw [pr, if_pos d, pr, if_pos (by omega), up, if_pos d, ih, ← more_pr]
   rfl
  ·by_cases c : j < y.h
   ·rw [pr, if_neg d, pr, if_pos c, up, if_neg d, ih]
   ·rw [pr, if_neg d, pr, if_neg c, ih]
def cnt (t : Nat) (u : List Z) : Nat := (u.filter fun z => decide (t < z.1)).length
theorem up_get (t : Nat) : ∀ (u : List Z) (f : Nat) (h : f < u.length), t < u[f].1 →
  (up t u)[cnt t (u.take f)]? = some (u[f].1, sumS (joinT t (u[f].2 :: ((u.drop (f + 1)).takeWhile (low t)).map (·.2))))
 | [], f, h, _ => absurd h (by simp)
 | z :: r, 0, h, hf => by
  have hz : t < z.1 := hf
  rw [up, if_pos hz]
  rfl
 | z :: r, f + 1, h, hf => by
  have hr : f < r.length := by simpa using h
  have ih := up_get t r f hr hf
  by_cases c : t < z.1
  ·have e : cnt t ((z :: r).take (f + 1)) = cnt t (r.take f) + 1 := by
    unfold cnt
    rw [List.take_succ_cons, List.filter_cons_of_pos (by simpa using c), List.length_cons]
   rw [up, if_pos c, e, List.getElem?_cons_succ]
   exact ih
  ·have e : cnt t ((z :: r).take (f + 1)) = cnt t (r.take f) := by
    unfold cnt
    rw [List.take_succ_cons, List.filter_cons_of_neg (by simpa using c)]
   rw [up, if_neg c, e]
   exact ih
def fromN (t : Nat) (u : List Z) : Nat → Nat
 | 0 => 0
 | i + 1 => if t < (u.getD (i + 1) (0, ⟨#[]⟩)).1 then i + 1 else fromN t u i
def toN (t : Nat) (u : List Z) : Nat → Nat → Nat
 | 0, i => i
 | d + 1, i => if t < (u.getD i (0, ⟨#[]⟩)).1 then i else toN t u d (i + 1)
def gD (u : List Z) (i : Nat) : Nat := (u.getD i (0, ⟨#[]⟩)).1
theorem from_spec (t : Nat) (u : List Z) (h0 : t < gD u 0) : ∀ i, fromN t u i ≤ i ∧ t < gD u (fromN t u i) ∧ ∀ k, fromN t u i < k → k ≤ i → gD u k ≤ t
 | 0 => ⟨Nat.le_refl _, h0, fun k h1 h2 => absurd h1 (by rw [fromN]; omega)⟩
 | i + 1 => by
  obtain ⟨h1, h2, h3⟩ := from_spec t u h0 i
  by_cases c : t < (u.getD (i + 1) (0, ⟨#[]⟩)).1
  ·rw [fromN, if_pos c]
   exact ⟨Nat.le_refl _, c, fun k q1 q2 => absurd q1 (by omega)⟩
  ·rw [fromN, if_neg c]
   refine ⟨by omega, h2, fun k q1 q2 => ?_⟩
   by_cases e : k = i + 1
   ·subst e
    unfold gD
    omega
   ·exact h3 k q1 (by omega)
theorem to_spec (t : Nat) (u : List Z) : ∀ d i, i + d = u.length → i ≤ toN t u d i ∧ toN t u d i ≤ u.length ∧ (∀ k, i ≤ k → k < toN t u d i → gD u k ≤ t) ∧ (toN t u d i = u.length ∨ t < gD u (toN t u d i))
 | 0, i, h => ⟨Nat.le_refl _, by rw [toN]; omega, fun k h1 h2 => absurd h2 (by rw [toN]; omega), .inl (by rw [toN]; omega)⟩
 | d + 1, i, h => by
  by_cases c : t < (u.getD i (0, ⟨#[]⟩)).1
  ·rw [toN, if_pos c]
   exact ⟨Nat.le_refl _, by omega, fun k q1 q2 => absurd q2 (by omega), .inr c⟩
  ·obtain ⟨h1, h2, h3, h4⟩ := to_spec t u d (i + 1) (by omega)
   rw [toN, if_neg c]
   refine ⟨by omega, h2, fun k q1 q2 => ?_, h4⟩
   by_cases e : k = i
   ·subst e
    unfold gD
    omega
   ·exact h3 k (by omega) q2
theorem gD_at (u : List Z) (i : Nat) (h : i < u.length) : gD u i = u[i].1 := by unfold gD; rw [List.getD_eq_getElem?_getD, List.getElem?_eq_getElem h]; rfl
theorem while_is (t : Nat) (u : List Z) (e : Nat) (he : e ≤ u.length) (hend : e = u.length ∨ t < gD u e) : ∀ d i, i + d = e → (∀ k, i ≤ k → k < e → gD u k ≤ t) → (u.drop i).takeWhile (low t) = (u.take e).drop i
 | 0, i, h, hk => by
  obtain rfl : i = e := by omega
  rw [List.drop_eq_nil_of_le (show (u.take i).length ≤ i by rw [qw]; omega)]
  rcases hend with h1 | h1
  ·rw [List.drop_eq_nil_of_le (by omega)]; rfl
  ·by_cases c : i < u.length
   ·rw [gD_at u i c] at h1
    rw [List.drop_eq_getElem_cons c, List.takeWhile_cons_of_neg (by unfold low; simp; omega)]
   ·rw [List.drop_eq_nil_of_le (by omega)]; rfl
 | d + 1, i, h, hk => by
  have c : i < u.length := by omega
  have ih := while_is t u e he hend d (i + 1) (by omega) (fun k q1 q2 => hk k (by omega) q2)
  have h1 := hk i (Nat.le_refl _) (by omega)
  rw [gD_at u i c] at h1
  have c2 : i < (u.take e).length := by rw [qw]; omega
  rw [List.drop_eq_getElem_cons c, List.takeWhile_cons_of_pos (by unfold low; simp; omega), ih, List.drop_eq_getElem_cons c2]
  congr 1
  exact (List.getElem_take ..).symm
def labs (u : List Z) : List ByteArray := u.map (·.2)
def befN (t : Nat) (u : List Z) (a : Nat) : List ByteArray := cutL (labs u) (fromN t u a, a)
def aftN (t : Nat) (u : List Z) (a : Nat) : List ByteArray := cutL (labs u) (a + 1, toN t u (u.length - (a + 1)) (a + 1))
theorem step_up (t : Nat) (u : List Z) (a : Nat) (ha : a < u.length) (h0 : t < gD u 0) :
  ∃ h, (up t u)[cnt t (u.take (fromN t u a))]? = some (h, sumS (joinT t (befN t u a ++ [u[a].2] ++ aftN t u a))) := by
 obtain ⟨f1, f2, f3⟩ := from_spec t u h0 a
 obtain ⟨t1, t2, t3, t4⟩ := to_spec t u (u.length - (a + 1)) (a + 1) (by omega)
 generalize hf : fromN t u a = f at *
 generalize ht : toN t u (u.length - (a + 1)) (a + 1) = e at *
 have hfl : f < u.length := by omega
 rw [gD_at u f hfl] at f2
 refine ⟨u[f].1, ?_⟩
 rw [up_get t u f hfl f2, while_is t u e t2 t4 (e - (f + 1)) (f + 1) (by omega) (fun k q1 q2 => by
  by_cases c : k ≤ a
  ·exact f3 k (by omega) c
  ·exact t3 k (by omega) q2)]
 congr 4
 unfold befN aftN cutL labs
 rw [hf, ht]
 show u[f].2 :: ((u.take e).drop (f + 1)).map (·.2) = _
 have hc : f < (u.take e).length := by rw [qw]; omega
 have e1 : u[f].2 :: ((u.take e).drop (f + 1)).map (·.2) = ((u.take e).drop f).map (·.2) := by
  rw [List.drop_eq_getElem_cons hc, List.map_cons]
  congr 1
  rw [List.getElem_take]
 rw [e1, ← List.map_take, ← List.map_take, ← List.map_drop, ← List.map_drop]
 have e2 : (u.take e).drop f = (u.take a).drop f ++ ([u[a]] ++ (u.take e).drop (a + 1)) := by
  have h1 : u.take e = u.take a ++ (u.take e).drop a := by
   have := (List.take_append_drop a (u.take e)).symm
   rwa [List.take_take, Nat.min_eq_left (by omega)] at this
  have h2 : (u.take e).drop a = [u[a]] ++ (u.take e).drop (a + 1) := by
   have ca : a < (u.take e).length := by rw [qw]; omega
   rw [List.drop_eq_getElem_cons ca, List.getElem_take]
   rfl
  rw [← h2]
  conv => lhs; rw [h1]
  rw [List.drop_append_of_le_length (by rw [qw]; omega)]
 rw [e2, List.map_append, List.map_append, List.append_assoc]
 rfl
end Go.Proofs.YtolbhliepkcihaaDoor.ProofPure
end
section
namespace Go.Proofs.YtolbhliepkcihaaDoor.ProofPure
open Go.RowKit YtolbhliepkcihaaDoorW.PrintWords Kinds Build Lab Sha Mac Codec Tower SkipOps SkipPure
def atN (es : List E) (a0 : Nat) : Nat → Nat
 | 0 => a0
 | j + 1 => cnt (j + 1) ((pr j es).take (fromN (j + 1) (pr j es) (atN es a0 j)))
def befR (es : List E) (a0 : Nat) : Rows := (List.range 8).map fun j => befN (j + 1) (pr j es) (atN es a0 j)
def aftR (es : List E) (a0 : Nat) : Rows := (List.range 8).map fun j => aftN (j + 1) (pr j es) (atN es a0 j)
theorem bef_at (es : List E) (a0 j : Nat) (h : j < 8) : (befR es a0).getD j [] = befN (j + 1) (pr j es) (atN es a0 j) := by
 unfold befR
 rw [List.getD_eq_getElem?_getD, List.getElem?_map, List.getElem?_range h]
 rfl
theorem aft_at (es : List E) (a0 j : Nat) (h : j < 8) : (aftR es a0).getD j [] = aftN (j + 1) (pr j es) (atN es a0 j) := by
 unfold aftR
 rw [List.getD_eq_getElem?_getD, List.getElem?_map, List.getElem?_range h]
 rfl
theorem pr_head (r : List E) (j : Nat) (h : j < 9) : gD (pr j (head :: r)) 0 = 9 := by
 rw [pr, if_pos (show j < head.h from h)]
 rfl
theorem labs_pr (j : Nat) (es : List E) : labs (pr j es) = rowF (lab j) j es := pr_snd j es
theorem pr_len (j : Nat) (es : List E) : (pr j es).length = (rowF (lab j) j es).length := by rw [← pr_snd, List.length_map]
theorem at_lt (r : List E) (a0 : Nat) (h0 : a0 < (pr 0 (head :: r)).length) : ∀ j, j ≤ 8 → atN (head :: r) a0 j < (pr j (head :: r)).length
 | 0, _ => h0
 | j + 1, hj => by
  have ih := at_lt r a0 h0 j (by omega)
  obtain ⟨h, e⟩ := step_up (j + 1) (pr j (head :: r)) (atN (head :: r) a0 j) ih (by rw [pr_head r j (by omega)]; omega)
  rw [← pr_up] at e
  exact (List.getElem?_eq_some_iff.1 e).1
theorem steps_at (x : S46) (r : List E) (a0 : Nat) (h0 : a0 < (pr 0 (head :: r)).length) (hx : ((pr 0 (head :: r))[a0]'h0).2 = sumS (itemT x)) : ∀ j, (hj : j ≤ 8) →
  sumS (stepN x (befR (head :: r) a0) (aftR (head :: r) a0) j) = ((pr j (head :: r))[atN (head :: r) a0 j]'(at_lt r a0 h0 j hj)).2
 | 0, _ => hx.symm
 | j + 1, hj => by
  have ih := steps_at x r a0 h0 hx j (by omega)
  obtain ⟨h, e⟩ := step_up (j + 1) (pr j (head :: r)) (atN (head :: r) a0 j) (at_lt r a0 h0 j (by omega)) (by rw [pr_head r j (by omega)]; omega)
  rw [← pr_up, ← ih] at e
  obtain ⟨q, e2⟩ := List.getElem?_eq_some_iff.1 e
  have e3 := congrArg Prod.snd e2
  show sumS (joinT (j + 1) _) = _
  rw [bef_at _ _ _ (by omega), aft_at _ _ _ (by omega)]
  exact e3.symm
theorem root_pr (key : ByteArray) (l : List S46) : labs (pr 8 (ents key l)) = [rootL key l] := by
 rw [labs_pr]
 exact rootL_row key l
theorem pr_item (key : ByteArray) (l : List S46) (i : Nat) (h : i < l.length) : ∃ q : i + 1 < (pr 0 (ents key l)).length, ((pr 0 (ents key l))[i + 1]).2 = sumS (itemT l[i]) := by
 have e := labs_pr 0 (ents key l)
 rw [← labs_row] at e
 have hl : (pr 0 (ents key l)).length = l.length + 1 := by
  have := congrArg List.length e
  unfold labs at this
  rw [List.length_map, labs_len] at this
  exact this
 refine ⟨by omega, ?_⟩
 have e2 : (labs (pr 0 (ents key l)))[i + 1]? = some (sumS (itemT l[i])) := by
  rw [e]
  unfold labs0 ents
  rw [List.map_cons, List.getElem?_cons_succ, List.getElem?_map, List.getElem?_map, List.getElem?_eq_getElem h]
  rfl
 unfold labs at e2
 rw [List.getElem?_map, List.getElem?_eq_getElem (by omega)] at e2
 exact Option.some.inj e2
theorem prove_root (key : ByteArray) (l : List S46) (i : Nat) (h : i < l.length) : sumS (stepN l[i] (befR (ents key l) (i + 1)) (aftR (ents key l) (i + 1)) 8) = rootL key l := by
 obtain ⟨q, hx⟩ := pr_item key l i h
 have e := steps_at l[i] (l.map (ent key)) (i + 1) q hx 8 (Nat.le_refl _)
 have h8 := root_pr key l
 have hl : (pr 8 (ents key l)).length = 1 := by
  have := congrArg List.length h8
  unfold labs at this
  rwa [List.length_map] at this
 refine e.trans ?_
 have ha := at_lt (l.map (ent key)) (i + 1) q 8 (Nat.le_refl _)
 have h0 : atN (head :: l.map (ent key)) (i + 1) 8 = 0 := by
  have : (pr 8 (head :: l.map (ent key))).length = 1 := hl
  omega
 have h1 : (labs (pr 8 (ents key l)))[0]? = some (rootL key l) := by rw [h8]; rfl
 unfold labs at h1
 rw [List.getElem?_map] at h1
 have h2 : (pr 8 (ents key l))[0]? = (pr 8 (head :: l.map (ent key)))[atN (head :: l.map (ent key)) (i + 1) 8]? := by rw [h0]; rfl
 rw [h2, List.getElem?_eq_getElem ha] at h1
 exact Option.some.inj h1
theorem cutL_mem {l : List ByteArray} {s : Nat × Nat} {x : ByteArray} (h : x ∈ cutL l s) : x ∈ l := List.mem_of_mem_take (List.mem_of_mem_drop h)
theorem cutL_len (l : List ByteArray) (s : Nat × Nat) : (cutL l s).length ≤ l.length := by unfold cutL; rw [List.length_drop, qw]; omega
theorem ok_row (key : ByteArray) (l : List S46) (hl : l.length ≤ 60) (j : Nat) (s : Nat × Nat) : oddR (cutL (labs (pr j (ents key l))) s) = false := by
 have h1 : (cutL (labs (pr j (ents key l))) s).length ≤ 64 := by
  have a1 := cutL_len (labs (pr j (ents key l))) s
  have a2 := row_len j (ents key l)
  rw [labs_pr] at a1 ⊢
  unfold ents at a1 a2 ⊢
  simp only [List.length_cons, List.length_map] at a2
  omega
 unfold oddR
 rw [decide_eq_false (by omega), Bool.false_or]
 cases h : odds (cutL (labs (pr j (ents key l))) s) with
 | false => rfl
 | true =>
  unfold odds at h
  obtain ⟨x, hx, ho⟩ := List.any_eq_true.1 h
  have hm := cutL_mem hx
  rw [labs_pr] at hm
  have h32 := row_size j (ents key l) x hm
  unfold odd at ho
  rw [h32] at ho
  exact absurd ho (by decide)
theorem rows_ok (f : Nat → List ByteArray) (h : ∀ j, oddR (f j) = false) : oddRs ((List.range 8).map f) = false := by
 cases hh : oddRs ((List.range 8).map f) with
 | false => rfl
 | true =>
  unfold oddRs at hh
  obtain ⟨r, hr, ho⟩ := List.any_eq_true.1 hh
  obtain ⟨j, _, rfl⟩ := List.mem_map.1 hr
  rw [h j] at ho
  cases ho
theorem prove_may (key : ByteArray) (l : List S46) (hl : l.length ≤ 60) (a0 : Nat) (v : ByteArray) (hv : v.size ≤ 64) : mayN v (befR (ents key l) a0) (aftR (ents key l) a0) = 0 := by
 have o1 : oddRs (befR (ents key l) a0) = false := rows_ok _ (fun j => ok_row key l hl j _)
 have o2 : oddRs (aftR (ents key l) a0) = false := rows_ok _ (fun j => ok_row key l hl j _)
 have l1 : (befR (ents key l) a0).length = 8 := by unfold befR; simp
 have l2 : (aftR (ents key l) a0).length = 8 := by unfold aftR; simp
 unfold mayN
 rw [if_neg (by omega), if_neg]
 rintro (h | h | h | h)
 ·exact h l1
 ·exact h l2
 ·rw [o1] at h; cases h
 ·rw [o2] at h; cases h
end Go.Proofs.YtolbhliepkcihaaDoor.ProofPure
end
section
namespace Go.Proofs.YtolbhliepkcihaaDoor.Lab
open Go.RowKit YtolbhliepkcihaaDoorW.PrintWords Kinds Build Sha Mac Codec Tower Mem ProofPure
theorem is_k (f0 : Int) (f1 : ByteArray) (q : Addr) (k : Int) (w : World) (hq : w.cell? q = some (.int .u64 k)) :
  Calls Tryd.prog 89 #[.agg #[.int .u64 f0, .string f1], .pointer (some q)] w fun e w' => e = .returned (.bool (f0 == k)) ∧ Below w.heap.size w w' := by
 have hq2 := (World.cell?_alloc_lt w (.cells #[.int .u64 f0, .string f1] 46) q (qd _ _ hq)).trans hq
 have HBW := qa (Below.refl w.heap.size w) (.cells #[.int .u64 f0, .string f1] 46)
 go_enter Tryd.func89, Tryd.ntmps89
 go_wp2
 go_ret
 exact ⟨rfl, HBW⟩
set_option maxRecDepth 100000 in
set_option maxHeartbeats 4000000 in
theorem idx_k (A : Option Addr) (c : Nat) (l : List It) (w : World) (hr : Kd.C k46 w A l.length l) (hn : l.length ≤ 1000000) (q : Addr) (k : Int) (hq : w.cell? q = some (.int .u64 k)) (i : Int)
  (hi : (∃ m : Nat, ∃ h : m < l.length, i = (m : Int) ∧ l[m].f0 = k ∧ ∀ j (hj : j < m), l[j].f0 ≠ k) ∨ (i = -1 ∧ ∀ j (hj : j < l.length), l[j].f0 ≠ k)) :
  Calls Tryd.prog 88 #[.slice A l.length c, .func (.func 89) #[] #[.pointer (some q)]] w fun e w' => e = .returned (.int .i64 i) ∧ Below w.heap.size w w' := by
 have HI := Lib.hid hi
 have HC := qf hr
 have HQ := Lib.hid hq
 clear hi hr hq
 go_enter Tryd.func88, Tryd.ntmps88
 go_wp2
 go_loopw [8] (fun iv wr => ∃ m : Nat, m ≤ l.length ∧ iv = .int .i64 m ∧ Hid (∀ j (hj : j < l.length), j < m → l[j].f0 ≠ k) ∧ Aside0 (Below w.heap.size w wr)) (fun iv _ => l.length - (intOf iv).toNat)
 case atStart => exact ⟨0, Nat.zero_le _, rfl, Lib.hid (fun j hj h => absurd h (by omega)), ⟨Below.refl _ _⟩⟩
 case round =>
  obtain ⟨m, hm, rfl, HN, HB⟩ := hrel
  by_cases hlt : m < l.length
  ·obtain ⟨ad, e1, hc0, hc1⟩ := at_T46 HC.out (m : Int) (by omega) (by omega)
   cases e1
   rw [rd_it l m hlt, Int.toNat_natCast] at hc0 hc1
   replace hc0 := (HB.out.cell (qd w _ hc0)).trans hc0
   replace hc1 := (HB.out.cell (qd w _ hc1)).trans hc1
   have hqr := (HB.out.cell (qd w _ HQ.out)).trans HQ.out
   have G := Lib.hid (is_k l[m].f0 l[m].f1 q k wr hqr)
   have p0 : (0 : Int) ≤ (m : Int) := by omega
   have p1 : (m : Int) < (l.length : Int) := by omega
   cases hb : (l[m].f0 == k) with
   | true =>
    have hk := beq_iff_eq.1 hb
    have hi : i = (m : Int) := by
     rcases HI.out with ⟨m2, h2, rfl, h3, h4⟩ | ⟨_, h4⟩
     ·rcases Nat.lt_trichotomy m m2 with q1 | q1 | q1
      ·exact absurd hk (h4 m q1)
      ·rw [q1]
      ·exact absurd h3 (HN.out m2 h2 q1)
     ·exact absurd hk (h4 m hlt)
    subst hi
    rw [hb] at G
    clear hk hb
    generalize l[m].f0 = f0 at *
    generalize l[m].f1 = f1 at *
    go_wp2_with (go_at_call 89; refine (G.out).mono ?_; rintro e w1 ⟨rfl, hb1⟩; have HB2 := qf (below_step HB.out hb1); clear hb1)
    go_ret
    exact ⟨rfl, HB2.out⟩
   | false =>
    have hk : l[m].f0 ≠ k := beq_eq_false_iff_ne.1 hb
    have HN2 : Hid (∀ j (hj : j < l.length), j < m + 1 → l[j].f0 ≠ k) := Lib.hid (fun j hj h => by
     by_cases e : j = m
     ·subst e; exact hk
     ·exact HN.out j hj (by omega))
    rw [hb] at G
    clear hk hb
    generalize l[m].f0 = f0 at *
    generalize l[m].f1 = f1 at *
    go_wp2_with (go_at_call 89; refine (G.out).mono ?_; rintro e w1 ⟨rfl, hb1⟩; have HB2 := qf (below_step HB.out hb1); clear hb1)
    go_roundw
    case rel => exact ⟨m + 1, by omega, by go_num, HN2, HB2⟩
    case measure => simp [intOf]; omega
  ·obtain rfl : m = l.length := by omega
   have hi : i = -1 := by
    rcases HI.out with ⟨m2, h2, rfl, h3, h4⟩ | ⟨h4, _⟩
    ·exact absurd h3 (HN.out m2 h2 h2)
    ·exact h4
   subst hi
   go_wp2
   go_ret
   exact ⟨rfl, HB.out⟩
end Go.Proofs.YtolbhliepkcihaaDoor.Lab
end
section
namespace Go.Proofs.YtolbhliepkcihaaDoor.Lab
open Go.RowKit YtolbhliepkcihaaDoorW.PrintWords Kinds Build Sha Mac Codec Tower Mem ProofPure SkipOps SkipPure
theorem results_row_tmp {P : Program} {fn : Func} {p u : Tmp} {ty : TypeId} (h : fn.results = #[.cell p ty, .tmp u]) (tmps : Array Value) (w : World) (g : Nat) (t : TypeId) (cs : Array Value) (fr : Nat × Nat) (d : TypeDesc)
  (hp : tmps.getD p undef = .pointer (some ⟨g, 0, none⟩)) (hg : w.heap[g]? = some (.cells cs t fr))
  (hu : P.underlying ty = some d) (hd : (match d with | .struct _ | .array _ _ => true | _ => false) = true) (hi : (P.info? ty).map (·.size) = some cs.size) (v : Value) (hv : tmps.getD u undef = v) :
  (results fn tmps).run P w = .ok (.tuple #[.agg cs, v]) w := by
 have hp' : tmps[p]?.getD undef = .pointer (some ⟨g, 0, none⟩) := by simpa using hp
 have hv' : tmps[u]?.getD undef = v := by simpa using hv
 simp [results, h, hp', hv', asAddr, run_loadVar_row w g t ty cs fr d hg hu hd hi]
theorem prove_ret {w w1 : World} {g : Nat} {u1 u2 : Value} (hgw : w.heap.size ≤ g) (N : Blk w1 g 78 #[u1, u2]) (HB : Below w.heap.size w w1) (tmps : Array Value) (er : Int) (v1 v2 : Value) (hp : tmps.getD 6 undef = .pointer (some ⟨g, 0, none⟩)) (hv : tmps.getD 7 undef = .int .i64 er) :
  bodyPost Tryd.prog Tryd.f58 (fun e w' => e = .returned (.tuple #[.agg #[v1, v2], .int .i64 er]) ∧ Below w.heap.size w w') .ret { tmps := tmps, defers := [] } ((w1.setCell ⟨g, 0, none⟩ v1).setCell ⟨g, 1, none⟩ v2) := by
 have N2 := (N.set_ 0 v1).set_ 1 v2
 refine bodyPost_ret (results_row_tmp rfl _ _ g 78 #[v1, v2] (0, 0) _ hp N2 Tryd.underlying78 rfl (by kernel_rfl) _ hv) rfl ?_
 exact ⟨rfl, (HB.setCell (p := ⟨g, 0, none⟩) hgw v1).setCell (p := ⟨g, 1, none⟩) hgw v2⟩
set_option maxRecDepth 100000 in
set_option maxHeartbeats 4000000 in
theorem prove_bad (key : ByteArray) (A0 : Option Addr) (c0 : Nat) (l : List S46) (k : Int) (w : World) (hr0 : Kd.C k46 w A0 l.length l) (hc0 : l.length ≤ c0) (hl : l.length ≤ 1000) (hb : ¬RightP l) :
  Calls Tryd.prog 58 #[.string key, .slice A0 l.length c0, .int .u64 k] w fun e w' => e = .returned (.tuple #[.agg #[.slice none 0 0, .slice none 0 0], .int .i64 1]) ∧ Below w.heap.size w w' := by
 obtain ⟨r, hr, hA, _⟩ := c_right A0 c0 l (by omega)
 obtain rfl : r = false := by
  cases r
  ·rfl
  ·exact absurd (hr.1 rfl) hb
 have HA := Lib.hid (fun W (h : Below w.heap.size w W) => hA W (Kd.C_below hr0 h) hc0)
 clear hr hA hr0 hb
 go_enter Tryd.func58, Tryd.ntmps58
 go_upto_region 1 with (fail)
 have N := qf (Blk.new (w.alloc (.cells #[.int .u64 k] 22)) 78 #[.slice none 0 0, .slice none 0 0])
 have HB := qf (qa (qa (Below.refl w.heap.size w) (.cells #[.int .u64 k] 22)) (.cells #[.slice none 0 0, .slice none 0 0] 78))
 rw [World.size_alloc] at N
 generalize (w.alloc (.cells #[.int .u64 k] 22)).alloc (.cells #[.slice none 0 0, .slice none 0 0] 78) = w0 at *
 obtain ⟨g, hg⟩ : ∃ g, w.heap.size + 1 = g := ⟨_, rfl⟩
 rw [hg] at N ⊢
 have hgw : w.heap.size ≤ g := by omega
 go_wp2_with (go_at_call 38; refine (HA.out _ HB.out).mono ?_; rintro e w1 ⟨rfl, hb1⟩; replace N := qf (blk_bel N.out hb1); replace HB := qf (below_step HB.out hb1); have hc0' := N.out.cell 0; have hc1' := N.out.cell 1; have hf0' := N.out.frozen 0; have hf1' := N.out.frozen 1; clear hb1)
 exact prove_ret hgw N.out HB.out _ _ _ _ rfl rfl
set_option maxRecDepth 100000 in
set_option maxHeartbeats 4000000 in
theorem prove_none (key : ByteArray) (A0 : Option Addr) (c0 : Nat) (l : List S46) (k : Int) (w : World) (hr0 : Kd.C k46 w A0 l.length l) (hc0 : l.length ≤ c0) (hl : l.length ≤ 1000) (hb : RightP l) (hh : has l k = false) :
  Calls Tryd.prog 58 #[.string key, .slice A0 l.length c0, .int .u64 k] w fun e w' => e = .returned (.tuple #[.agg #[.slice none 0 0, .slice none 0 0], .int .i64 3]) ∧ Below w.heap.size w w' := by
 obtain ⟨r, hr, hA, _⟩ := c_right A0 c0 l (by omega)
 obtain rfl := hr.2 hb
 have HA := Lib.hid (fun W (h : Below w.heap.size w W) => hA W (Kd.C_below hr0 h) hc0)
 have HI := Lib.hid (fun W (h : Below w.heap.size w W) q hq => idx_k A0 c0 l W (Kd.C_below hr0 h) (by omega) q k hq (-1) (.inr ⟨rfl, fun j hj => not_has l k hh _ (List.getElem_mem hj)⟩))
 clear hr hA hr0 hb hh
 go_enter Tryd.func58, Tryd.ntmps58
 go_upto_region 1 with (fail)
 have N := qf (Blk.new (w.alloc (.cells #[.int .u64 k] 22)) 78 #[.slice none 0 0, .slice none 0 0])
 have NK := qf ((Blk.new w 22 #[.int .u64 k]).alloc (.cells #[.slice none 0 0, .slice none 0 0] 78))
 have HB := qf (qa (qa (Below.refl w.heap.size w) (.cells #[.int .u64 k] 22)) (.cells #[.slice none 0 0, .slice none 0 0] 78))
 rw [World.size_alloc] at N
 generalize (w.alloc (.cells #[.int .u64 k] 22)).alloc (.cells #[.slice none 0 0, .slice none 0 0] 78) = w0 at *
 obtain ⟨g, hg⟩ : ∃ g, w.heap.size + 1 = g := ⟨_, rfl⟩
 rw [hg] at N ⊢
 have hgw : w.heap.size ≤ g := by omega
 go_wp2_with (first | (go_at_call 38; refine (HA.out _ HB.out).mono ?_; rintro e w1 ⟨rfl, hb1⟩; replace N := qf (blk_bel N.out hb1); replace NK := qf (blk_bel NK.out hb1); replace HB := qf (below_step HB.out hb1); clear hb1) | (go_at_call 88; refine (HI.out _ HB.out _ (NK.out.cell 0)).mono ?_; rintro e w1 ⟨rfl, hb1⟩; replace N := qf (blk_bel N.out hb1); replace HB := qf (below_step HB.out hb1); have hc0' := N.out.cell 0; have hc1' := N.out.cell 1; have hf0' := N.out.frozen 0; have hf1' := N.out.frozen 1; clear hb1))
 exact prove_ret hgw N.out HB.out _ _ _ _ rfl rfl
end Go.Proofs.YtolbhliepkcihaaDoor.Lab
end
section
namespace Go.Proofs.YtolbhliepkcihaaDoor.Lab
open Go.RowKit Go.Shelf Go.Lib Go.Sort YtolbhliepkcihaaDoorW.PrintWords Kinds Build Tower
theorem prva_walk (q11 : Addr) (now : Int) (n0 : 0 ≤ now) (n1 : now ≤ 100) (x : Int) (W : World) (h11 : W.cell? q11 = some (.int .i64 now)) :
  FnGives Tryd.prog 92 #[.pointer (some q11)] #[.int .i64 x] (.bool (decide (x ≤ now + 1))) W := by
 show Calls Tryd.prog 92 #[.int .i64 x, .pointer (some q11)] W _
 go_enter Tryd.func92, Tryd.ntmps92
 go_wp2
 all_goals (go_ret; exact ⟨by simp_all, 0, rfl⟩)
theorem prva_at (q11 : Addr) (now : Int) (n0 : 0 ≤ now) (n1 : now ≤ 100) (w : World) (h11 : w.cell? q11 = some (.int .i64 now)) :
  PredAt Tryd.prog 92 #[.pointer (some q11)] (Value.int .i64) (fun x => decide (x ≤ now + 1)) w :=
 fun W x hb => prva_walk q11 now n0 n1 x W ((hb.cell (qd _ _ h11)).trans h11)
theorem prva_over (q11 : Addr) (now : Int) (n0 : 0 ≤ now) (n1 : now ≤ 100) (blk off size : Nat) (w : World) (hne : q11.block ≠ blk) (h11 : w.cell? q11 = some (.int .i64 now)) :
  PredOver Tryd.prog 92 #[.pointer (some q11)] (Value.int .i64) (fun x => decide (x ≤ now + 1)) blk off size w :=
 fun n os dk x _ => prva_walk q11 now n0 n1 x _ (by
  have hB := qd _ _ h11
  unfold sortWorld
  rw [cell?_grow _ _ _ (by show q11.block < (putRow _ _ _ _ _).heap.size; rw [size_putRow]; exact hB), cell?_putRow_other _ _ blk off _ _ (Or.inl hne)]
  exact h11)
theorem del_a (g cap base : Nat) (hs : List Int) (now : Int) (n0 : 0 ≤ now) (n1 : now ≤ 100) (q11 : Addr) (w : World) (hown : w.ownsRow base 3 1 (.slice (some ⟨g, 0, none⟩) hs.length cap) hs.length (hs.map (Value.int .i64)))
  (h11 : w.cell? q11 = some (.int .i64 now)) (hne : q11.block ≠ g) (hn : hs.length ≤ 1000000) :
  Calls Tryd.prog 90 #[.slice (some ⟨g, 0, none⟩) hs.length cap, .func (.func 92) #[] #[.pointer (some q11)]] w fun e w' =>
   e = .returned (.slice (some ⟨g, 0, none⟩) (hs.filter fun x => !decide (x ≤ now + 1)).length cap) ∧ w'.ownsRow base 3 1 (.slice (some ⟨g, 0, none⟩) (hs.filter fun x => !decide (x ≤ now + 1)).length cap) (hs.filter fun x => !decide (x ≤ now + 1)).length ((hs.filter fun x => !decide (x ≤ now + 1)).map (Value.int .i64)) ∧ w.grownBy w' (some g) := by
 obtain ⟨hlen, hor⟩ := hown
 rcases hor with ⟨he, _⟩ | ⟨g', cap', cur, hv, hbase, hb, hnc, hcm, hsz, htk⟩
 ·cases he
 ·injection hv with e1 _ e3
  injection e1 with e1
  injection e1 with e1 _ _
  subst e1 e3
  rw [Nat.mul_one] at htk hsz
  have hH := holds_of_blockI hb htk
  have eg : ∀ args w, (callFunc 92 args).run Tryd.prog w = .ok (.enter 92 args) w := enters_of Tryd.func92 (by kernel_rfl) rfl
  have h := Tryd.slices_DeleteFunc (Value.int .i64) (fun _ => rfl) (fun x => decide (x ≤ now + 1)) 92 #[.pointer (some q11)] eg (0 : Int) Tryd.zeroValue3 g 0 cap hs.toArray w (prva_at q11 now n0 n1 w h11) (prva_over q11 now n0 n1 g 0 _ w hne h11) hH (by simp; omega) (by simpa using hnc)
  rw [show hs.toArray.size = hs.length from by simp] at h
  refine h.mono ?_
  rintro e w' ⟨rfl, q, rfl⟩
  obtain ⟨r, hr⟩ : ∃ r, (hs.filter fun x => !decide (x ≤ now + 1)) = r := ⟨_, rfl⟩
  have hrl : r.length ≤ hs.length := by rw [← hr]; exact List.length_filter_le _ _
  have hl : hs.toArray.toList = hs := by simp
  simp only [hr]
  have hD : (r ++ List.replicate (hs.length - r.length) (0 : Int)).length = hs.length := by rw [List.length_append, List.length_replicate]; omega
  have hg := grownBy_sortedI (w := w) (g := g) (n := q) (os := #[]) (r ++ List.replicate (hs.length - r.length) (0 : Int)).toArray
  rw [grow_empty] at hg
  have ht := take_putCellsI cur (r ++ List.replicate (hs.length - r.length) (0 : Int)) (by rw [hD]; omega)
  refine ⟨trivial, ⟨by simp, .inr ⟨g, cap, putCells (Value.int .i64) 0 (r ++ List.replicate (hs.length - r.length) (0 : Int)).toArray cur, rfl, hbase, ?_, by omega, hcm, by rw [Nat.mul_one]; simp [putCells, hsz], ?_⟩⟩, hg⟩
  ·show (mapBlock (Sort.ahead w q) g _).heap[g]? = _
   unfold mapBlock
   rw [Array.getElem?_modify, if_pos rfl]
   show (w.heap[g]?).map _ = _
   rw [hb]
   rfl
  ·rw [hD] at ht
   rw [Nat.mul_one]
   have h2 := congrArg (List.take r.length) ht
   rw [List.take_take, Nat.min_eq_left hrl, List.map_append, List.take_append_of_le_length (by rw [List.length_map]; exact Nat.le_refl _), show (r.map (Value.int .i64)).take r.length = r.map (Value.int .i64) from List.take_of_length_le (by rw [List.length_map]; exact Nat.le_refl _)] at h2
   exact h2
theorem prvb_walk (q11 : Addr) (now : Int) (n0 : 0 ≤ now) (n1 : now ≤ 100) (x : Int) (W : World) (h11 : W.cell? q11 = some (.int .i64 now)) :
  FnGives Tryd.prog 93 #[.pointer (some q11)] #[.int .i64 x] (.bool (decide (x ≤ now + 1))) W := by
 show Calls Tryd.prog 93 #[.int .i64 x, .pointer (some q11)] W _
 go_enter Tryd.func93, Tryd.ntmps93
 go_wp2
 all_goals (go_ret; exact ⟨by simp_all, 0, rfl⟩)
theorem prvb_at (q11 : Addr) (now : Int) (n0 : 0 ≤ now) (n1 : now ≤ 100) (w : World) (h11 : w.cell? q11 = some (.int .i64 now)) :
  PredAt Tryd.prog 93 #[.pointer (some q11)] (Value.int .i64) (fun x => decide (x ≤ now + 1)) w :=
 fun W x hb => prvb_walk q11 now n0 n1 x W ((hb.cell (qd _ _ h11)).trans h11)
theorem prvb_over (q11 : Addr) (now : Int) (n0 : 0 ≤ now) (n1 : now ≤ 100) (blk off size : Nat) (w : World) (hne : q11.block ≠ blk) (h11 : w.cell? q11 = some (.int .i64 now)) :
  PredOver Tryd.prog 93 #[.pointer (some q11)] (Value.int .i64) (fun x => decide (x ≤ now + 1)) blk off size w :=
 fun n os dk x _ => prvb_walk q11 now n0 n1 x _ (by
  have hB := qd _ _ h11
  unfold sortWorld
  rw [cell?_grow _ _ _ (by show q11.block < (putRow _ _ _ _ _).heap.size; rw [size_putRow]; exact hB), cell?_putRow_other _ _ blk off _ _ (Or.inl hne)]
  exact h11)
theorem del_b (g cap base : Nat) (hs : List Int) (now : Int) (n0 : 0 ≤ now) (n1 : now ≤ 100) (q11 : Addr) (w : World) (hown : w.ownsRow base 3 1 (.slice (some ⟨g, 0, none⟩) hs.length cap) hs.length (hs.map (Value.int .i64)))
  (h11 : w.cell? q11 = some (.int .i64 now)) (hne : q11.block ≠ g) (hn : hs.length ≤ 1000000) :
  Calls Tryd.prog 90 #[.slice (some ⟨g, 0, none⟩) hs.length cap, .func (.func 93) #[] #[.pointer (some q11)]] w fun e w' =>
   e = .returned (.slice (some ⟨g, 0, none⟩) (hs.filter fun x => !decide (x ≤ now + 1)).length cap) ∧ w'.ownsRow base 3 1 (.slice (some ⟨g, 0, none⟩) (hs.filter fun x => !decide (x ≤ now + 1)).length cap) (hs.filter fun x => !decide (x ≤ now + 1)).length ((hs.filter fun x => !decide (x ≤ now + 1)).map (Value.int .i64)) ∧ w.grownBy w' (some g) := by
 obtain ⟨hlen, hor⟩ := hown
 rcases hor with ⟨he, _⟩ | ⟨g', cap', cur, hv, hbase, hb, hnc, hcm, hsz, htk⟩
 ·cases he
 ·injection hv with e1 _ e3
  injection e1 with e1
  injection e1 with e1 _ _
  subst e1 e3
  rw [Nat.mul_one] at htk hsz
  have hH := holds_of_blockI hb htk
  have eg : ∀ args w, (callFunc 93 args).run Tryd.prog w = .ok (.enter 93 args) w := enters_of Tryd.func93 (by kernel_rfl) rfl
  have h := Tryd.slices_DeleteFunc (Value.int .i64) (fun _ => rfl) (fun x => decide (x ≤ now + 1)) 93 #[.pointer (some q11)] eg (0 : Int) Tryd.zeroValue3 g 0 cap hs.toArray w (prvb_at q11 now n0 n1 w h11) (prvb_over q11 now n0 n1 g 0 _ w hne h11) hH (by simp; omega) (by simpa using hnc)
  rw [show hs.toArray.size = hs.length from by simp] at h
  refine h.mono ?_
  rintro e w' ⟨rfl, q, rfl⟩
  obtain ⟨r, hr⟩ : ∃ r, (hs.filter fun x => !decide (x ≤ now + 1)) = r := ⟨_, rfl⟩
  have hrl : r.length ≤ hs.length := by rw [← hr]; exact List.length_filter_le _ _
  have hl : hs.toArray.toList = hs := by simp
  simp only [hr]
  have hD : (r ++ List.replicate (hs.length - r.length) (0 : Int)).length = hs.length := by rw [List.length_append, List.length_replicate]; omega
  have hg := grownBy_sortedI (w := w) (g := g) (n := q) (os := #[]) (r ++ List.replicate (hs.length - r.length) (0 : Int)).toArray
  rw [grow_empty] at hg
  have ht := take_putCellsI cur (r ++ List.replicate (hs.length - r.length) (0 : Int)) (by rw [hD]; omega)
  refine ⟨trivial, ⟨by simp, .inr ⟨g, cap, putCells (Value.int .i64) 0 (r ++ List.replicate (hs.length - r.length) (0 : Int)).toArray cur, rfl, hbase, ?_, by omega, hcm, by rw [Nat.mul_one]; simp [putCells, hsz], ?_⟩⟩, hg⟩
  ·show (mapBlock (Sort.ahead w q) g _).heap[g]? = _
   unfold mapBlock
   rw [Array.getElem?_modify, if_pos rfl]
   show (w.heap[g]?).map _ = _
   rw [hb]
   rfl
  ·rw [hD] at ht
   rw [Nat.mul_one]
   have h2 := congrArg (List.take r.length) ht
   rw [List.take_take, Nat.min_eq_left hrl, List.map_append, List.take_append_of_le_length (by rw [List.length_map]; exact Nat.le_refl _), show (r.map (Value.int .i64)).take r.length = r.map (Value.int .i64) from List.take_of_length_le (by rw [List.length_map]; exact Nat.le_refl _)] at h2
   exact h2
end Go.Proofs.YtolbhliepkcihaaDoor.Lab
end
section
namespace Go.Proofs.YtolbhliepkcihaaDoor.Lab
open Go.RowKit YtolbhliepkcihaaDoorW.PrintWords Kinds Build Sha Mac Codec Tower Mem ProofPure
theorem own_form {w : World} {base : Nat} {e : TypeId} {size : Nat} {v : Value} {N : Nat} {xs : List Value} (h : w.ownsRow base e size v N xs) (h0 : 0 < N) : ∃ g cap, v = .slice (some ⟨g, 0, none⟩) N cap ∧ N ≤ cap := by
 obtain ⟨k, rfl⟩ : ∃ k, N = k + 1 := ⟨N - 1, by omega⟩
 exact own_succ3 h
def segW (g c : Nat) (s : Nat × Nat) : Value := .slice (if c = s.1 then some ⟨g, 0, none⟩ else some ⟨g, s.1, none⟩) (s.2 - s.1) (c - s.1)
def befS (es : List E) (a0 i : Nat) : Nat × Nat := (fromN (i + 1) (pr i es) (atN es a0 i), atN es a0 i)
def aftS (es : List E) (a0 i : Nat) : Nat × Nat := (atN es a0 i + 1, toN (i + 1) (pr i es) ((pr i es).length - (atN es a0 i + 1)) (atN es a0 i + 1))
structure Outs (base : Nat) (es : List E) (a0 j : Nat) (bs xs2 : List Value) (W : World) : Prop where
 lb : bs.length = j
 la : xs2.length = j
 row : ∀ i, i < j → ∃ g c N, N = (rowF (lab i) i es).length ∧ N ≤ c ∧ W.ownsRow base 9 1 (.slice (some ⟨g, 0, none⟩) N c) N (strV (rowF (lab i) i es)) ∧ bs[i]? = some (segW g c (befS es a0 i)) ∧ xs2[i]? = some (segW g c (aftS es a0 i))
theorem Outs.keep {base : Nat} {es : List E} {a0 j : Nat} {bs xs2 : List Value} {W W' : World} (h : Outs base es a0 j bs xs2 W) (f : ∀ (v : Value) (n : Nat) (xs : List Value), W.ownsRow base 9 1 v n xs → W'.ownsRow base 9 1 v n xs) : Outs base es a0 j bs xs2 W' :=
 ⟨h.lb, h.la, fun i hi => by
  obtain ⟨g, c, N, h1, h2, h3, h4, h5⟩ := h.row i hi
  exact ⟨g, c, N, h1, h2, f _ _ _ h3, h4, h5⟩⟩
theorem Outs.push {base : Nat} {es : List E} {a0 j : Nat} {bs xs2 : List Value} {W : World} (h : Outs base es a0 j bs xs2 W) {g c N : Nat} (h1 : N = (rowF (lab j) j es).length) (h2 : N ≤ c) (h3 : W.ownsRow base 9 1 (.slice (some ⟨g, 0, none⟩) N c) N (strV (rowF (lab j) j es))) :
  Outs base es a0 (j + 1) (bs ++ [segW g c (befS es a0 j)]) (xs2 ++ [segW g c (aftS es a0 j)]) W := by
 have lb := h.lb
 have la := h.la
 refine ⟨by rw [List.length_append, lb]; rfl, by rw [List.length_append, la]; rfl, fun i hi => ?_⟩
 by_cases e : i = j
 ·subst e
  refine ⟨g, c, N, h1, h2, h3, ?_, ?_⟩
  ·rw [List.getElem?_append_right (by omega), lb, Nat.sub_self]; rfl
  ·rw [List.getElem?_append_right (by omega), la, Nat.sub_self]; rfl
 ·obtain ⟨g', c', N', q1, q2, q3, q4, q5⟩ := h.row i (by omega)
  refine ⟨g', c', N', q1, q2, q3, ?_, ?_⟩
  ·rw [List.getElem?_append_left (by omega)]; exact q4
  ·rw [List.getElem?_append_left (by omega)]; exact q5
theorem Outs.none (base : Nat) (es : List E) (a0 : Nat) (W : World) : Outs base es a0 0 [] [] W := ⟨rfl, rfl, fun i hi => absurd hi (by omega)⟩
theorem segW_reads {W : World} {base g c N : Nat} {row : List ByteArray} (h : W.ownsRow base 9 1 (.slice (some ⟨g, 0, none⟩) N c) N (strV row)) (hc : N ≤ c) (s : Nat × Nat) (h1 : s.1 ≤ s.2) (h2 : s.2 ≤ N) :
  ∃ A d, segW g c s = .slice A (cutL row s).length d ∧ (cutL row s).length ≤ d ∧ Kd.C Kd.string W A (cutL row s).length (cutL row s) := by
 have hl : row.length = N := by have := h.1; unfold strV at this; simpa using this
 have hlen : (cutL row s).length = s.2 - s.1 := by unfold cutL; rw [List.length_drop, qw]; omega
 have hC := cut_C h s h1 h2
 unfold segW
 by_cases e : c = s.1
 ·have hz : (cutL row s).length = 0 := by omega
  have hnil : cutL row s = [] := List.eq_nil_of_length_eq_zero hz
  rw [if_pos e]
  refine ⟨some ⟨g, 0, none⟩, c - s.1, by rw [hlen], by omega, ?_⟩
  rw [hnil]
  exact ⟨rfl, by simp, fun h => absurd h (Nat.lt_irrefl 0)⟩
 ·rw [if_neg e]
  exact ⟨_, c - s.1, by rw [hlen], by omega, hC⟩
theorem prove_ret2 {R : Ending → World → Prop} {w1 : World} {g : Nat} {u1 u2 : Value} (N : Blk w1 g 78 #[u1, u2]) (tmps : Array Value) (er : Int) (v1 v2 : Value) (hp : tmps.getD 6 undef = .pointer (some ⟨g, 0, none⟩)) (hv : tmps.getD 7 undef = .int .i64 er)
  (h : R (.returned (.tuple #[.agg #[v1, v2], .int .i64 er])) ((w1.setCell ⟨g, 0, none⟩ v1).setCell ⟨g, 1, none⟩ v2)) :
  bodyPost Tryd.prog Tryd.f58 R .ret { tmps := tmps, defers := [] } ((w1.setCell ⟨g, 0, none⟩ v1).setCell ⟨g, 1, none⟩ v2) := by
 have N2 := (N.set_ 0 v1).set_ 1 v2
 exact bodyPost_ret (results_row_tmp rfl _ _ g 78 #[v1, v2] (0, 0) _ hp N2 Tryd.underlying78 rfl (by kernel_rfl) _ hv) rfl h
theorem befR_eq (es : List E) (a0 : Nat) : befR es a0 = (List.range 8).map fun n => cutL (labs (pr n es)) (befS es a0 n) := List.map_congr_left (fun _ _ => rfl)
theorem aftR_eq (es : List E) (a0 : Nat) : aftR es a0 = (List.range 8).map fun n => cutL (labs (pr n es)) (aftS es a0 n) := List.map_congr_left (fun _ _ => rfl)
theorem befS_ok (r : List E) (a0 : Nat) (h0 : a0 < (pr 0 (head :: r)).length) (i : Nat) (hi : i < 8) : (befS (head :: r) a0 i).1 ≤ (befS (head :: r) a0 i).2 ∧ (befS (head :: r) a0 i).2 ≤ (rowF (lab i) i (head :: r)).length := by
 have h1 := at_lt r a0 h0 i (by omega)
 have h2 := (from_spec (i + 1) (pr i (head :: r)) (by rw [pr_head r i (by omega)]; omega) (atN (head :: r) a0 i)).1
 rw [← pr_len]
 exact ⟨h2, by show atN (head :: r) a0 i ≤ _; omega⟩
theorem aftS_ok (r : List E) (a0 : Nat) (h0 : a0 < (pr 0 (head :: r)).length) (i : Nat) (hi : i < 8) : (aftS (head :: r) a0 i).1 ≤ (aftS (head :: r) a0 i).2 ∧ (aftS (head :: r) a0 i).2 ≤ (rowF (lab i) i (head :: r)).length := by
 have h1 := at_lt r a0 h0 i (by omega)
 obtain ⟨q1, q2, _, _⟩ := to_spec (i + 1) (pr i (head :: r)) ((pr i (head :: r)).length - (atN (head :: r) a0 i + 1)) (atN (head :: r) a0 i + 1) (by omega)
 rw [← pr_len]
 exact ⟨q1, q2⟩
theorem outs_reads {W : World} {base : Nat} {es : List E} {A : Option Addr} {c : Nat} (f : Nat → Nat × Nat) (vs : List Value)
  (hv : ∀ i, i < 8 → ∃ g d N, N = (rowF (lab i) i es).length ∧ N ≤ d ∧ W.ownsRow base 9 1 (.slice (some ⟨g, 0, none⟩) N d) N (strV (rowF (lab i) i es)) ∧ vs[i]? = some (segW g d (f i)))
  (hf : ∀ i, i < 8 → (f i).1 ≤ (f i).2 ∧ (f i).2 ≤ (rowF (lab i) i es).length) (ho : W.ownsRow base 49 1 (.slice A 8 c) 8 vs) :
  Kd.C (Kd.slice 9 Kd.string) W A 8 ((List.range 8).map fun i => cutL (labs (pr i es)) (f i)) ∧ 8 ≤ c := by
 obtain ⟨g, cap, e, hcap⟩ := own_form ho (by decide)
 cases e
 refine ⟨⟨by simp, by decide, fun _ => ⟨_, rfl, fun i p hp => ?_⟩⟩, hcap⟩
 have hi : i < 8 := by have := (List.getElem?_eq_some_iff.1 hp).1; simpa using this
 have hp2 : p = cutL (labs (pr i es)) (f i) := by
  rw [List.getElem?_map, List.getElem?_range hi] at hp
  exact (Option.some.inj hp).symm
 subst hp2
 obtain ⟨g', d, N, q1, q2, q3, q4⟩ := hv i hi
 obtain ⟨f1, f2⟩ := hf i hi
 obtain ⟨B, b, r1, r2, r3⟩ := segW_reads q3 q2 (f i) f1 (by omega)
 rw [← labs_pr] at r1 r2 r3
 refine ⟨[.slice B (cutL (labs (pr i es)) (f i)).length b], rfl, ⟨B, b, rfl, r2, r3⟩, fun n u hu => ?_⟩
 cases n with
 | succ n => simp at hu
 | zero =>
  obtain rfl := Option.some.inj hu
  rw [r1] at q4
  have hc := ho.cells rfl i _ q4
  rw [show i * (Kd.slice 9 Kd.string).sz + 0 = i from by show i * 1 + 0 = i; omega]
  exact hc
theorem outs_bef {W : World} {base : Nat} {es : List E} {a0 : Nat} {bs xs2 : List Value} {A : Option Addr} {c : Nat} (o : Outs base es a0 8 bs xs2 W) (fb : ∀ n, n < 8 → (befS es a0 n).1 ≤ (befS es a0 n).2 ∧ (befS es a0 n).2 ≤ (rowF (lab n) n es).length) (ho : W.ownsRow base 49 1 (.slice A 8 c) 8 bs) :
  Kd.C (Kd.slice 9 Kd.string) W A 8 (befR es a0) ∧ 8 ≤ c := by
 rw [befR_eq]
 exact outs_reads (befS es a0) bs (fun n hn => by
  obtain ⟨q0, q1, q2, q3, q4, q5, q6, _⟩ := o.row n hn
  exact ⟨q0, q1, q2, q3, q4, q5, q6⟩) fb ho
theorem outs_aft {W : World} {base : Nat} {es : List E} {a0 : Nat} {bs xs2 : List Value} {A : Option Addr} {c : Nat} (o : Outs base es a0 8 bs xs2 W) (fa : ∀ n, n < 8 → (aftS es a0 n).1 ≤ (aftS es a0 n).2 ∧ (aftS es a0 n).2 ≤ (rowF (lab n) n es).length) (ho : W.ownsRow base 49 1 (.slice A 8 c) 8 xs2) :
  Kd.C (Kd.slice 9 Kd.string) W A 8 (aftR es a0) ∧ 8 ≤ c := by
 rw [aftR_eq]
 exact outs_reads (aftS es a0) xs2 (fun n hn => by
  obtain ⟨q0, q1, q2, q3, q4, q5, _, q6⟩ := o.row n hn
  exact ⟨q0, q1, q2, q3, q4, q5, q6⟩) fa ho
end Go.Proofs.YtolbhliepkcihaaDoor.Lab
end
section
namespace Go.Proofs.YtolbhliepkcihaaDoor.Lab
open Go.RowKit YtolbhliepkcihaaDoorW.PrintWords YtolbhliepkcihaaDoorW.PrintLast Kinds Build Sha Mac Codec Tower Mem ProofPure
/-! ### in plain Lean -/
theorem gD_hts (j : Nat) (es : List E) (k : Nat) : gD (pr j es) k = (hts j es).getD k 0 := by
  rw [← pr_fst]
  unfold gD
  rw [List.getD_eq_getElem?_getD, List.getD_eq_getElem?_getD, List.getElem?_map]
  cases (pr j es)[k]? <;> rfl
theorem from_stop (t : Nat) (u : List Z) (f : Nat) (h : t < gD u f) : fromN t u f = f := by
  cases f with
  | zero => rfl
  | succ f => unfold gD at h; rw [fromN, if_pos h]
theorem from_go (t : Nat) (u : List Z) (f : Nat) (h : gD u (f + 1) ≤ t) : fromN t u (f + 1) = fromN t u f := by unfold gD at h; rw [fromN, if_neg (Nat.not_lt.2 h)]
theorem to_stop (t : Nat) (u : List Z) (d i : Nat) (h : d = 0 ∨ t < gD u i) : toN t u d i = i := by
  cases d with
  | zero => rfl
  | succ d =>
    rcases h with h | h
    · cases h
    · unfold gD at h; rw [toN, if_pos h]
theorem to_go (t : Nat) (u : List Z) (d i : Nat) (h : gD u i ≤ t) : toN t u (d + 1) i = toN t u d (i + 1) := by unfold gD at h; rw [toN, if_neg (Nat.not_lt.2 h)]
theorem htI_up2 (m : Nat) (s : List E) : (htI m s).filter (fun x => !decide (x ≤ (m : Int) + 1)) = htI (m + 1) s := htI_up m s
theorem cnt_hts (j : Nat) (es : List E) (f : Nat) : (((htI j es).take f).filter (fun x => !decide (x ≤ (j : Int) + 1))).length = cnt (j + 1) ((pr j es).take f) := by
  unfold htI cnt
  rw [← pr_fst, List.map_map, ← List.map_take, List.filter_map, List.length_map]
  congr 1
  congr 1
  funext z
  show (!decide (((z.1 : Nat) : Int) ≤ (j : Int) + 1)) = decide (j + 1 < z.1)
  by_cases c : j + 1 < z.1
  · rw [qj c, decide_eq_false (by omega)]; rfl
  · rw [decide_eq_false c, qj (by omega)]; rfl
/-! ### rows and blocks -/
theorem own_form2 {w : World} {base : Nat} {e : TypeId} {size : Nat} {v : Value} {N : Nat} {xs : List Value} (h : w.ownsRow base e size v N xs) (h0 : v ≠ .slice none 0 0) : ∃ g cap, v = .slice (some ⟨g, 0, none⟩) N cap ∧ N ≤ cap := by
  rcases h.2 with ⟨e, _⟩ | ⟨g, cap, cur, rfl, _, _, hc, _⟩
  · exact absurd e h0
  · exact ⟨g, cap, rfl, hc⟩
theorem cut_w (g n c f k : Nat) (hfk : f ≤ k) (hk : k ≤ n) (hc : n ≤ c) : ∀ W : World, (Instr.slice 49 (.slice (some ⟨g, 0, none⟩) n c) (some (.int .i64 (f : Int))) (some (.int .i64 (k : Int))) none).run Tryd.prog W = .ok (segW g c (f, k)) W := by
  obtain ⟨i0, hi, _, hs, _⟩ := info_parts str_info
  intro W
  rw [cut_mid (P := Tryd.prog) 49 9 .i64 .i64 Tryd.underlying49 hi 1 hs (some ⟨g, 0, none⟩) n c f k (by omega) (by omega) (by omega) hc W, Int.toNat_natCast, Int.toNat_natCast]
  unfold segW
  by_cases h : c = f
  · rw [if_pos h, if_pos h]
  · rw [if_neg h, if_neg h]
    simp only [Option.map_some, add_at]
theorem ne_sym {a b : Option Nat} (h : a = none ∨ a ≠ b) : b = none ∨ b ≠ a := by
  cases b with
  | none => exact .inl rfl
  | some x => exact .inr (fun e => by
      rcases h with h | h
      · rw [h] at e; cases e
      · exact h e.symm)
theorem ne_app {W : World} {base : Nat} {e : TypeId} {size n : Nat} {v va v1 : Value} {xs : List Value} (h : v.ownBlock = none ∨ v.ownBlock ≠ va.ownBlock) (hat : v1.ownBlock = v.ownBlock ∨ v1.ownBlock = some W.heap.size) (hva : W.ownsRow base e size va n xs) : v1.ownBlock = none ∨ v1.ownBlock ≠ va.ownBlock := by
  rcases hat with hat | hat
  · rw [hat]; exact h
  · refine .inr (fun q => ?_)
    rw [hat] at q
    have := (hva.lt _ q.symm).2
    omega
structure PT (b0 : Nat) (w0 : World) (g gp : Nat) (es : List E) (a0 j : Nat) (hv : Value) (nh : Nat) (hs : List Value) (vb : Value) (nb : Nat) (bs : List Value) (va : Value) (na : Nat) (xs : List Value) (pb pa : Value) (ob ox : List Value) (W : World) : Prop where
  rh : W.ownsRow b0 3 1 hv nh hs
  rb : W.ownsRow b0 49 1 vb nb bs
  ra : W.ownsRow b0 49 1 va na xs
  gp_ : Blk W gp 78 #[pb, pa]
  ho : Outs b0 es a0 j ob ox W
  n : Blk W g 78 #[.slice none 0 0, .slice none 0 0]
  hb : Below b0 w0 W
  hz : b0 ≤ W.heap.size
  hg : b0 ≤ gp
theorem PT.below {b0 : Nat} {w0 : World} {g gp : Nat} {es : List E} {a0 j : Nat} {hv : Value} {nh : Nat} {hs : List Value} {vb : Value} {nb : Nat} {bs : List Value} {va : Value} {na : Nat} {xs : List Value} {pb pa : Value} {ob ox : List Value} {W W' : World}
    (p : PT b0 w0 g gp es a0 j hv nh hs vb nb bs va na xs pb pa ob ox W) (h : Below W.heap.size W W') : PT b0 w0 g gp es a0 j hv nh hs vb nb bs va na xs pb pa ob ox W' :=
  ⟨own_bel p.rh h, own_bel p.rb h, own_bel p.ra h, blk_bel p.gp_ h, p.ho.keep (fun _ _ _ q => own_bel q h), blk_bel p.n h, p.hb.trans (h.mono p.hz), Nat.le_trans p.hz h.size, p.hg⟩
theorem PT.appB {b0 : Nat} {w0 : World} {g gp : Nat} {es : List E} {a0 j : Nat} {hv : Value} {nh : Nat} {hs : List Value} {vb : Value} {nb : Nat} {bs : List Value} {va : Value} {na : Nat} {xs : List Value} {pb pa : Value} {ob ox : List Value} {W W' : World} {v1 : Value} {nb1 : Nat} {bs1 : List Value}
    (p : PT b0 w0 g gp es a0 j hv nh hs vb nb bs va na xs pb pa ob ox W) (hne : vb.ownBlock = none ∨ vb.ownBlock ≠ va.ownBlock) (ho : W'.ownsRow b0 49 1 v1 nb1 bs1) (hg : W.grownBy W' vb.ownBlock) :
    PT b0 w0 g gp es a0 j hv nh hs v1 nb1 bs1 va na xs pb pa ob ox W' :=
  ⟨p.rh.kept hg (own_ne2 p.rh p.rb (by decide)), ho, p.ra.kept hg (ne_sym hne), blk_grown p.gp_ hg (own_ne p.rb p.gp_ (by decide)), p.ho.keep (fun _ _ _ q => q.kept hg (own_ne2 q p.rb (by decide))),
   blk_grown p.n hg (own_ne p.rb p.n (by decide)), p.hb.grown hg p.hz (fun _ e => own_base p.rb _ e), Nat.le_trans p.hz hg.size, p.hg⟩
theorem PT.appA {b0 : Nat} {w0 : World} {g gp : Nat} {es : List E} {a0 j : Nat} {hv : Value} {nh : Nat} {hs : List Value} {vb : Value} {nb : Nat} {bs : List Value} {va : Value} {na : Nat} {xs : List Value} {pb pa : Value} {ob ox : List Value} {W W' : World} {v1 : Value} {na1 : Nat} {xs1 : List Value}
    (p : PT b0 w0 g gp es a0 j hv nh hs vb nb bs va na xs pb pa ob ox W) (hne : vb.ownBlock = none ∨ vb.ownBlock ≠ va.ownBlock) (ho : W'.ownsRow b0 49 1 v1 na1 xs1) (hg : W.grownBy W' va.ownBlock) :
    PT b0 w0 g gp es a0 j hv nh hs vb nb bs v1 na1 xs1 pb pa ob ox W' :=
  ⟨p.rh.kept hg (own_ne2 p.rh p.ra (by decide)), p.rb.kept hg hne, ho, blk_grown p.gp_ hg (own_ne p.ra p.gp_ (by decide)), p.ho.keep (fun _ _ _ q => q.kept hg (own_ne2 q p.ra (by decide))),
   blk_grown p.n hg (own_ne p.ra p.n (by decide)), p.hb.grown hg p.hz (fun _ e => own_base p.ra _ e), Nat.le_trans p.hz hg.size, p.hg⟩
theorem PT.delH {b0 : Nat} {w0 : World} {g gp : Nat} {es : List E} {a0 j : Nat} {hv : Value} {nh : Nat} {hs : List Value} {vb : Value} {nb : Nat} {bs : List Value} {va : Value} {na : Nat} {xs : List Value} {pb pa : Value} {ob ox : List Value} {W W' : World} {v1 : Value} {nh1 : Nat} {hs1 : List Value}
    (p : PT b0 w0 g gp es a0 j hv nh hs vb nb bs va na xs pb pa ob ox W) (ho : W'.ownsRow b0 3 1 v1 nh1 hs1) (hg : W.grownBy W' hv.ownBlock) :
    PT b0 w0 g gp es a0 j v1 nh1 hs1 vb nb bs va na xs pb pa ob ox W' :=
  ⟨ho, p.rb.kept hg (own_ne2 p.rb p.rh (by decide)), p.ra.kept hg (own_ne2 p.ra p.rh (by decide)), blk_grown p.gp_ hg (own_ne p.rh p.gp_ (by decide)), p.ho.keep (fun _ _ _ q => q.kept hg (own_ne2 q p.rh (by decide))),
   blk_grown p.n hg (own_ne p.rh p.n (by decide)), p.hb.grown hg p.hz (fun _ e => own_base p.rh _ e), Nat.le_trans p.hz hg.size, p.hg⟩
theorem PT.outs {b0 : Nat} {w0 : World} {g gp : Nat} {es : List E} {a0 j : Nat} {hv : Value} {nh : Nat} {hs : List Value} {vb : Value} {nb : Nat} {bs : List Value} {va : Value} {na : Nat} {xs : List Value} {pb pa : Value} {ob ox : List Value} {W : World} {j1 : Nat} {ob1 ox1 : List Value}
    (p : PT b0 w0 g gp es a0 j hv nh hs vb nb bs va na xs pb pa ob ox W) (h : Outs b0 es a0 j1 ob1 ox1 W) : PT b0 w0 g gp es a0 j1 hv nh hs vb nb bs va na xs pb pa ob1 ox1 W :=
  ⟨p.rh, p.rb, p.ra, p.gp_, h, p.n, p.hb, p.hz, p.hg⟩
theorem PT.store {b0 : Nat} {w0 : World} {g gp : Nat} {es : List E} {a0 j : Nat} {hv : Value} {nh : Nat} {hs : List Value} {vb : Value} {nb : Nat} {bs : List Value} {va : Value} {na : Nat} {xs : List Value} {pb pa : Value} {ob ox : List Value} {W : World}
    (p : PT b0 w0 g gp es a0 j hv nh hs vb nb bs va na xs pb pa ob ox W) (hne : g ≠ gp) (u1 u2 : Value) :
    PT b0 w0 g gp es a0 j hv nh hs vb nb bs va na xs u1 u2 ob ox ((W.setCell ⟨gp, 0, none⟩ u1).setCell ⟨gp, 1, none⟩ u2) :=
  ⟨(p.rh.kept (set_grown_at W gp 0 u1) (.inr (own_ne p.rh p.gp_ (by decide)))).kept (set_grown_at _ gp 1 u2) (.inr (own_ne p.rh p.gp_ (by decide))),
   (p.rb.kept (set_grown_at W gp 0 u1) (.inr (own_ne p.rb p.gp_ (by decide)))).kept (set_grown_at _ gp 1 u2) (.inr (own_ne p.rb p.gp_ (by decide))),
   (p.ra.kept (set_grown_at W gp 0 u1) (.inr (own_ne p.ra p.gp_ (by decide)))).kept (set_grown_at _ gp 1 u2) (.inr (own_ne p.ra p.gp_ (by decide))),
   (p.gp_.set_ 0 u1).set_ 1 u2,
   p.ho.keep (fun _ _ _ q => (q.kept (set_grown_at W gp 0 u1) (.inr (own_ne q p.gp_ (by decide)))).kept (set_grown_at _ gp 1 u2) (.inr (own_ne q p.gp_ (by decide)))),
   blk_grown (blk_grown p.n (set_grown_at W gp 0 u1) (fun e => hne (Option.some.inj e).symm)) (set_grown_at _ gp 1 u2) (fun e => hne (Option.some.inj e).symm),
   (p.hb.setCell (p := ⟨gp, 0, none⟩) p.hg u1).setCell (p := ⟨gp, 1, none⟩) p.hg u2,
   by have := p.hz; simpa using this, p.hg⟩
/-! ### steps -/
theorem step_own_at {P : Program} {ops : Array Oper} {o : Oper} {a : Act} {w : World} {K : Act → World → Prop} {Q : Exit → Act → World → Prop} {E : Prop}
    (hg : o.guard = none) (s x : Operand) (t : TypeId) (hop : o.op = Op.call { callee := Callee.builtin Builtin.append, args := #[s, x], argTypes := #[t, t] })
    (base : Nat) (e : TypeId) (i : TypeInfo) (z : Value) (size bytes : Nat) (h1 : P.underlying t = some (.slice e)) (h2 : P.info? e = some i) (h3 : i.zero = some z) (h4 : i.size = size) (h5 : i.bytes = bytes) (h6 : z.cells.size = size) (h7 : 0 < size)
    (v : Value) (n : Nat) (xs : List Value) (hs : a.eval s = v) (hown : w.ownsRow base e size v n xs)
    (ad : Addr) (m c : Nat) (news : List Value) (hx : a.eval x = .slice (some ad) m c) (hn : news.length = m * size) (hc : ∀ j u, news[j]? = some u → w.cell? (ad.add j) = some u) (h1c : ∀ u ∈ news, u.oneCell' = true)
    (b1 : n + m ≤ maxLen) (b2 : (n + m) * bytes ≤ 140737488355328) (hbase : base ≤ w.heap.size)
    (hK : ∀ v' w', w'.ownsRow base e size v' (n + m) (xs ++ news) → w.grownBy w' v.ownBlock → (v'.ownBlock = v.ownBlock ∨ v'.ownBlock = some w.heap.size) → K (a.put o.dst v') w') :
    if Region.wanted o (yielded ops a.tmps) = true then Oper.wp P o a w K Q else E := by
  have hw : Region.wanted o (yielded ops a.tmps) = true := by simp [Region.wanted, hg]
  rw [if_pos hw]
  obtain ⟨v', w', hrun, r1, r2, _, r3⟩ := run_append_own_at (P := P) (w := w) base t o.type e i z size bytes h1 h2 h3 h4 h5 h6 h7 v n xs hown ad m c news hn hc h1c b1 b2 hbase
  unfold Oper.wp
  simp [execOp, hop, resolve, invoke, builtin, hs, hx, hrun, Result.andThen]
  exact hK v' w' r1 r2 r3
theorem clone_h (base gh ch M f : Nat) (hs : List Int) (w : World) (hh : w.ownsRow base 3 1 (.slice (some ⟨gh, 0, none⟩) M ch) M (intV hs)) (hf : f ≤ M) (hM : M ≤ 1000) :
    Calls Tryd.prog 91 #[.slice (some ⟨gh, 0, none⟩) f ch] w fun e w' => ∃ g c, e = .returned (.slice (some ⟨g, 0, none⟩) f c) ∧ w.heap.size ≤ g ∧ w'.ownsRow w.heap.size 3 1 (.slice (some ⟨g, 0, none⟩) f c) f ((hs.take f).map (Value.int .i64)) ∧ Below w.heap.size w w' := by
  obtain ⟨i0, hi, hz0, hz1, hz2⟩ := info_parts int_info
  have hl : hs.length = M := by have := hh.1; unfold intV at this; simpa using this
  have hlf : (hs.take f).length = f := by rw [qw]; omega
  have h := Tryd.slices_Clone i0 (.int .i64 0) 1 8 hi hz0 hz1 hz2 rfl (by decide) (fun w => by kernel_rfl) gh 0 f ch ((hs.take f).map (Value.int .i64)) w (by rw [List.length_map, hlf, Nat.mul_one]) (by unfold maxLen; omega) (by omega) (fun j u hj => by
    have hj2 : j < f := by have := (List.getElem?_eq_some_iff.1 hj).1; rw [List.length_map, hlf] at this; exact this
    have hc := hh.cellAt j (by omega)
    rw [Nat.zero_add]
    rw [hc]
    unfold intV
    rw [List.getElem?_map, List.getElem?_take, if_pos hj2] at hj
    rw [List.getElem?_map]
    exact hj) (fun u hu => by
    obtain ⟨z, _, rfl⟩ := List.mem_map.1 hu
    simp [Value.oneCell'])
  refine h.mono ?_
  rintro e w' ⟨v', rfl, hown, hne, hb⟩
  obtain ⟨g, c, rfl, _⟩ := own_form2 hown hne
  exact ⟨g, c, rfl, own_base hown g rfl, hown, hb⟩
theorem delA_at (j : Nat) (es : List E) (gq cq base f M G3 : Nat) (W : World) (hj : j ≤ 100) (hM : (rowF (lab j) j es).length = M) (hf : f ≤ M) (hM1 : M ≤ 1000) (ho : W.ownsRow base 3 1 (.slice (some ⟨gq, 0, none⟩) f cq) f (((htI j es).take f).map (Value.int .i64)))
    (T : Blk W G3 3 #[.int .i64 (j : Int)]) (hne : G3 ≠ gq) :
    Calls Tryd.prog 90 #[.slice (some ⟨gq, 0, none⟩) f cq, .func (.func 92) #[] #[.pointer (some ⟨G3, 0, none⟩)]] W fun e w' => e = .returned (.slice (some ⟨gq, 0, none⟩) (cnt (j + 1) ((pr j es).take f)) cq) ∧ W.grownBy w' (some gq) := by
  have hl : ((htI j es).take f).length = f := by rw [qw, htI_len]; omega
  have h := del_a gq cq base ((htI j es).take f) (j : Int) (by omega) (by omega) ⟨G3, 0, none⟩ W (by rw [hl]; exact ho) (T.cell 0) hne (by omega)
  rw [hl, cnt_hts] at h
  exact h.mono fun e w' q => ⟨q.1, q.2.2⟩
theorem delB_at (j : Nat) (es : List E) (gh ch base M G3 : Nat) (W : World) (hj : j ≤ 100) (hM : (rowF (lab j) j es).length = M) (hM1 : M ≤ 1000) (hh : W.ownsRow base 3 1 (.slice (some ⟨gh, 0, none⟩) M ch) M (intV (htI j es)))
    (T : Blk W G3 3 #[.int .i64 (j : Int)]) (hne : G3 ≠ gh) :
    Calls Tryd.prog 90 #[.slice (some ⟨gh, 0, none⟩) M ch, .func (.func 93) #[] #[.pointer (some ⟨G3, 0, none⟩)]] W fun e w' => e = .returned (.slice (some ⟨gh, 0, none⟩) (rowF (lab (j + 1)) (j + 1) es).length ch) ∧
      w'.ownsRow base 3 1 (.slice (some ⟨gh, 0, none⟩) (rowF (lab (j + 1)) (j + 1) es).length ch) (rowF (lab (j + 1)) (j + 1) es).length (intV (htI (j + 1) es)) ∧ W.grownBy w' (some gh) := by
  have hl : (htI j es).length = M := (htI_len j es).trans hM
  have h := del_b gh ch base (htI j es) (j : Int) (by omega) (by omega) ⟨G3, 0, none⟩ W (by rw [hl]; exact hh) (T.cell 0) hne (by omega)
  rw [hl, htI_up2, htI_len] at h
  exact h
end Go.Proofs.YtolbhliepkcihaaDoor.Lab
end
section
namespace Go.Proofs.YtolbhliepkcihaaDoor.Lab
open Go.RowKit YtolbhliepkcihaaDoorW.PrintWords YtolbhliepkcihaaDoorW.PrintLast Kinds Build Sha Mac Codec Tower Mem ProofPure SkipOps SkipPure
set_option maxRecDepth 100000 in
set_option maxHeartbeats 8000000 in
theorem prove_walk (key : ByteArray) (A0 : Option Addr) (c0 : Nat) (l : List S46) (k : Int) (i : Nat) (w : World) (hr0 : Kd.C k46 w A0 l.length l) (hc0 : l.length ≤ c0) (hl : l.length ≤ 60) (hkey : key.size ≤ 1000000000) (hok : okL l) (hT : TabW w) (hb : RightP l) (hi : i < l.length) (hik : l[i].f0 = k) (hij : ∀ j (hj : j < i), l[j].f0 ≠ k) :
  Calls Tryd.prog 58 #[.string key, .slice A0 l.length c0, .int .u64 k] w fun e w' => ∃ B c D d, e = .returned (.tuple #[.agg #[.slice B 8 c, .slice D 8 d], .int .i64 0]) ∧ 8 ≤ c ∧ 8 ≤ d ∧ Kd.C (Kd.slice 9 Kd.string) w' B 8 (befR (ents key l) (i + 1)) ∧ Kd.C (Kd.slice 9 Kd.string) w' D 8 (aftR (ents key l) (i + 1)) ∧ Below w.heap.size w w' := by
 obtain ⟨r, hr, hA, _⟩ := c_right A0 c0 l (by omega)
 obtain rfl := hr.2 hb
 obtain ⟨i3, hi3, hz3, hs3, hb3⟩ := info_parts int_info
 have HA := Lib.hid (fun W (h : Below w.heap.size w W) => hA W (Kd.C_below hr0 h) hc0)
 have HI := Lib.hid (fun W (h : Below w.heap.size w W) q hq => idx_k A0 c0 l W (Kd.C_below hr0 h) (by omega) q k hq (i : Int) (.inl ⟨i, hi, rfl, hik, hij⟩))
 have HC := qf hr0
 have HOK := Lib.hid hok
 have HT := Lib.hid hT
 have HW := Lib.hid (fun W (h : Below w.heap.size w W) (m : Nat) (hm : m ≤ 8) => Row_ok key A0 c0 l m W (Kd.C_below hr0 h) hc0 (by omega) hkey hok hm (tab_below hT h (Nat.le_refl _)) hb)
 have HH0 : Hid (intV ((hts0 key l).take 1) = [.int .i64 9]) := Lib.hid rfl
 clear hr hA hr0 hb hik hij hok hT
 go_enter Tryd.func58, Tryd.ntmps58
 go_upto_region 1 with (fail)
 have N := qf (Blk.new (w.alloc (.cells #[.int .u64 k] 22)) 78 #[.slice none 0 0, .slice none 0 0])
 have NK := qf ((Blk.new w 22 #[.int .u64 k]).alloc (.cells #[.slice none 0 0, .slice none 0 0] 78))
 have HB := qf (qa (qa (Below.refl w.heap.size w) (.cells #[.int .u64 k] 22)) (.cells #[.slice none 0 0, .slice none 0 0] 78))
 rw [World.size_alloc] at N
 generalize (w.alloc (.cells #[.int .u64 k] 22)).alloc (.cells #[.slice none 0 0, .slice none 0 0] 78) = w0 at *
 obtain ⟨g, hg⟩ : ∃ g, w.heap.size + 1 = g := ⟨_, rfl⟩
 rw [hg] at N ⊢
 have hgw : w.heap.size ≤ g := by omega
 clear hg
 go_upto_region 6 with (first | (go_at_call 38; refine (HA.out _ HB.out).mono ?_; rintro e w1 ⟨rfl, hb1⟩; replace N := qf (blk_bel N.out hb1); replace NK := qf (blk_bel NK.out hb1); replace HB := qf (below_step HB.out hb1); clear hb1) | (go_at_call 88; refine (HI.out _ HB.out _ (NK.out.cell 0)).mono ?_; rintro e w1 ⟨rfl, hb1⟩; replace N := qf (blk_bel N.out hb1); replace HB := qf (below_step HB.out hb1); clear hb1 NK))
 have R := qf (own_of_blk (base := w.heap.size) (Blk.new w1 3 #[.int .i64 9]) HB.out.size)
 replace N := qf (N.out.alloc (.cells #[.int .i64 9] 3))
 replace HB := qf (HB.out.alloc HB.out.size (.cells #[.int .i64 9] 3))
 clear HA HI
 go_wp2
 go_loopw [9, 31] (fun hv iv wr => ∃ m : Nat, m ≤ l.length ∧ iv = .int .i64 m ∧ Aside0 (wr.ownsRow w.heap.size 3 1 hv (m + 1) (intV ((hts0 key l).take (m + 1)))) ∧ Aside0 (Blk wr g 78 #[.slice none 0 0, .slice none 0 0]) ∧ Aside0 (Below w.heap.size w wr)) (fun _ iv _ => l.length - (intOf iv).toNat)
 case atStart => exact ⟨0, Nat.zero_le _, rfl, by rw [HH0.out]; exact R, N, HB⟩
 case round =>
  clear R N HB
  obtain ⟨m, hm, rfl, R, N, HB⟩ := hrel
  by_cases hlt : m < l.length
  ·obtain ⟨ad, e1, hc0', hc1'⟩ := at_T46 HC.out (m : Int) (by omega) (by omega)
   cases e1
   rw [rd_it l m hlt, Int.toNat_natCast] at hc0' hc1'
   replace hc0' := (HB.out.cell (qd w _ hc0')).trans hc0'
   replace hc1' := (HB.out.cell (qd w _ hc1')).trans hc1'
   obtain ⟨q1, q2, q3⟩ := HOK.out _ (List.getElem_mem hlt)
   have GH := Lib.hid (fun W h => tower_Height.calls key l[m].f0 ((heightN key l[m].f0.toNat : Nat) : Int) W (if_pos ⟨hkey, q2, q3⟩) h)
   have EH := Lib.hid (hts_take key l m hlt)
   have X := qf (Blk.new wr 46 #[.int .u64 l[m].f0, .string l[m].f1])
   replace R := qf (R.out.alloc (.cells #[.int .u64 l[m].f0, .string l[m].f1] 46))
   replace N := qf (N.out.alloc (.cells #[.int .u64 l[m].f0, .string l[m].f1] 46))
   replace HB := qf (HB.out.alloc HB.out.size (.cells #[.int .u64 l[m].f0, .string l[m].f1] 46))
   clear q1 q2 q3
   generalize ((heightN key l[m].f0.toNat : Nat) : Int) = z at *
   generalize l[m].f0 = f0 at *
   generalize l[m].f1 = f1 at *
   have p0 : (0 : Int) ≤ (m : Int) := by omega
   have p1 : (m : Int) < (l.length : Int) := by omega
   go_upto_region 10 with (fail)
   generalize wr.heap.size = gx at *
   generalize wr.alloc (.cells #[.int .u64 f0, .string f1] 46) = w5 at *
   have hx0 := X.out.cell 0
   have hm1 : m + 1 + 1 ≤ maxLen := by simp only [maxLen]; omega
   have hm2 : (m + 1 + 1) * 8 ≤ 140737488355328 := by omega
   clear hc0' hc1'
   go_wp2_with (first | (go_at_call 17; refine (GH.out _ (tab_below HT.out HB.out (Nat.le_refl _))).mono ?_; rintro e w6 ⟨rfl, hb6⟩; replace R := qf (own_bel R.out hb6); replace N := qf (blk_bel N.out hb6); replace HB := qf (below_step HB.out hb6); clear hb6) | (at_builtin; refine wpList_append_own _ rfl _ _ 27 rfl w.heap.size 3 i3 (.int .i64 0) 1 8 Tryd.underlying27 hi3 hz3 hs3 hb3 rfl (by decide) _ _ _ rfl (R.out.alloc _) ⟨w6.heap.size, 0, none⟩ 1 1 [.int .i64 z] rfl rfl (cell_one_new _ _ _) (by simp [Value.oneCell']) hm1 hm2 (by have := HB.out.size; simp; omega) ?_; intro v' w7 hown' hgrow _))
   go_roundw
   case rel =>
    refine ⟨m + 1, by omega, by go_num, ⟨by rw [EH.out]; exact hown'⟩, ⟨blk_grown (N.out.alloc (.cells #[.int .i64 z] 3)) hgrow (own_ne (R.out.alloc (.cells #[.int .i64 z] 3)) (N.out.alloc (.cells #[.int .i64 z] 3)) (by decide))⟩, ⟨(HB.out.alloc HB.out.size _).grown hgrow (by have := HB.out.size; simp; omega) (fun q e => own_base R.out q e)⟩⟩
   case measure => simp [intOf]; omega
  ·obtain rfl : m = l.length := by omega
   have e0 : intV ((hts0 key l).take (l.length + 1)) = intV (htI 0 (ents key l)) := by rw [List.take_of_length_le (Nat.le_of_eq (hts_len0 key l)), hts_row0]; rfl
   have e2 : (rowF (lab 0) 0 (ents key l)).length = l.length + 1 := by rw [← labs_row, labs_len]
   have R2 : Aside0 (wr.ownsRow w.heap.size 3 1 u9 (rowF (lab 0) 0 (ents key l)).length (intV (htI 0 (ents key l)))) := ⟨by rw [e2, ← e0]; exact R.out⟩
   have HA0 : Hid (i + 1 < (pr 0 (ents key l)).length) := Lib.hid (by rw [pr_len, e2]; omega)
   have HSZ : Hid (∀ j, (rowF (lab j) j (ents key l)).length ≤ 61) := Lib.hid (fun j => by have := row_len j (ents key l); unfold ents at this; simp at this; unfold ents; omega)
   clear R e0 e2 HC HOK HH0
   have HES : Hid (ents key l = head :: l.map (ent key)) := Lib.hid rfl
   unfold rowL at HW
   generalize hE : ents key l = es at *
   have HE := Lib.hid hE
   clear hE
   have hgne : g ≠ wr.heap.size := by have := N.out.lt; omega
   have hgpw := HB.out.size
   have PN := qf (Blk.new wr 78 #[.slice none 0 0, .slice none 0 0])
   have P0 : Aside0 (PT w.heap.size w g wr.heap.size es (i + 1) 0 u9 (rowF (lab 0) 0 es).length (intV (htI 0 es)) (.slice none 0 0) 0 [] (.slice none 0 0) 0 [] (.slice none 0 0) (.slice none 0 0) [] [] (wr.alloc (.cells #[.slice none 0 0, .slice none 0 0] 78))) :=
    ⟨R2.out.alloc _, World.ownsRow_nil _ _ _ _, World.ownsRow_nil _ _ _ _, PN.out, Outs.none _ _ _ _, N.out.alloc _, HB.out.alloc HB.out.size _, by have := HB.out.size; rw [World.size_alloc]; omega, hgpw⟩
   clear R2 N HB PN
   go_upto_region 14 with (fail)
   generalize wr.heap.size = gp at *
   generalize wr.alloc (.cells #[.slice none 0 0, .slice none 0 0] 78) = w2 at *
   obtain ⟨iS, hiS, hzS, hsS, hbS⟩ := info_parts strs_info
   go_wp2
   go_loopw [8, 9, 45] (fun av hv iv wr => ∃ (j : Nat) (vb va : Value) (bs xs2 : List Value), j ≤ 8 ∧ iv = .int .i64 j ∧ av = .int .i64 (atN es (i + 1) j : Nat) ∧ Hid (vb.ownBlock = none ∨ vb.ownBlock ≠ va.ownBlock) ∧ Aside0 (PT w.heap.size w g gp es (i + 1) j hv (rowF (lab j) j es).length (intV (htI j es)) vb j bs va j xs2 vb va bs xs2 wr)) (fun _ _ iv _ => 8 - (intOf iv).toNat)
   case atStart => exact ⟨0, _, _, [], [], by omega, rfl, rfl, Lib.hid (.inl rfl), P0⟩
   case round =>
    clear P0
    obtain ⟨j, vb, va, bs, xs2, hj, rfl, rfl, HNE, P⟩ := hrel
    by_cases hlt8 : j < 8
    ·have hes := HES.out
     have hal : atN es (i + 1) j < (pr j es).length := by
      have := HA0.out
      rw [hes] at this ⊢
      exact at_lt _ _ this j (by omega)
     have hg0 : gD (pr j es) 0 = 9 := by rw [hes]; exact pr_head _ j (by omega)
     have HG0 := Lib.hid hg0
     have hM61 := HSZ.out j
     obtain ⟨M, hM⟩ : ∃ M, (rowF (lab j) j es).length = M := ⟨_, rfl⟩
     have hMp : (pr j es).length = M := by rw [pr_len, hM]
     obtain ⟨a, hae⟩ : ∃ a, atN es (i + 1) j = a := ⟨_, rfl⟩
     rw [hae, hMp] at hal
     rw [hM] at hM61 P
     rw [hae]
     have HM := Lib.hid hM
     have HMP := Lib.hid hMp
     have HAE := Lib.hid hae
     clear hM hMp hae hg0 hes
     obtain ⟨gh, ch, rfl, hch⟩ := own_form P.out.rh (show 0 < M by omega)
     have hgh := (P.out.rh.lt gh rfl).2
     have hgpl := P.out.gp_.lt
     have T := qf (Blk.new wr 3 #[.int .i64 (j : Int)])
     replace P := qf (P.out.below ((Below.refl wr.heap.size wr).alloc (Nat.le_refl _) (.cells #[.int .i64 (j : Int)] 3)))
     go_upto_region 17 with (fail)
     have hG3 : Hid (wr.heap.size ≠ gp) := Lib.hid (by omega)
     have hghG : wr.heap.size ≠ gh := by omega
     clear hgh hgpl
     generalize wr.heap.size = G3 at *
     generalize wr.alloc (.cells #[.int .i64 (j : Int)] 3) = w3 at *
     have HR3 := Lib.hid (HW.out w3 P.out.hb j (by omega))
     have hc3 := T.out.cell 0
     go_upto_region 18 with (go_at_call 30; refine (HR3.out).mono ?_; rintro e w4 ⟨v, rfl, ho, hb4⟩; rw [HM.out] at ho; obtain ⟨gl, cl, rfl, hcl⟩ := own_form ho (by omega); have RW := qf (own_le ho P.out.hz); replace P := qf (P.out.below hb4); replace T := qf (blk_bel T.out hb4); clear ho hb4)
     clear HR3 hc3
     have p0 : (0 : Int) ≤ (a : Int) := by omega
     have p1 : (a : Int) ≤ 61 := by omega
     have p2 : (0 : Int) ≤ (j : Int) := by omega
     have p3 : (j : Int) ≤ 8 := by omega
     go_wp2
     go_loopw [16] (fun fv wq => ∃ f : Nat, f ≤ a ∧ fv = .int .i64 f ∧ Hid (fromN (j + 1) (pr j es) a = fromN (j + 1) (pr j es) f) ∧ Drawn0 w4 wq) (fun fv _ => (intOf fv).toNat)
     case atStart => exact ⟨a, Nat.le_refl _, rfl, Lib.hid rfl, Drawn0.refl _⟩
     case round =>
      obtain ⟨f, hf, rfl, HF, hD⟩ := hrel
      have hBq := hD.below
      obtain ⟨h, hh⟩ : ∃ h, (hts j es).getD f 0 = h := ⟨_, rfl⟩
      have HH : Hid (gD (pr j es) f = h) := Lib.hid ((gD_hts j es f).trans hh)
      have hcf := ((P.out.below hBq).rh.cellAt f (by omega)).trans (htI_at j es f (by rw [HM.out]; omega))
      rw [hh] at hcf
      have hc3 := (blk_bel T.out hBq).cell 0
      clear hh hBq
      have f0 : (0 : Int) ≤ (f : Int) := by omega
      have f1 : (f : Int) < (M : Int) := by omega
      have hw1 : IntKind.i64.wrap ((j : Int) + 1) = (j : Int) + 1 := IntWalk.i64_in _ (by omega)
      go_upto_region 19 with (fail)
      by_cases c : h ≤ j + 1
      ·have hd : decide ((h : Int) ≤ (j : Int) + 1) = true := qj (by omega)
       have hf0 : 0 < f := by
        rcases Nat.eq_zero_or_pos f with q | q
        ·subst q; have := HH.out; have := HG0.out; omega
        ·exact q
       have HF2 : Hid (fromN (j + 1) (pr j es) a = fromN (j + 1) (pr j es) (f - 1)) := Lib.hid (by
        rw [HF.out]
        obtain ⟨f', rfl⟩ : ∃ f', f = f' + 1 := ⟨f - 1, by omega⟩
        exact from_go _ _ _ (by rw [HH.out]; exact c))
       go_quiet (fail)
       clear hw1
       go_wp2
       go_roundw
       case rel => exact ⟨f - 1, by omega, by congr 1; omega, HF2, hD.step _⟩
       case measure => simp [intOf]; omega
      ·have hd : decide ((h : Int) ≤ (j : Int) + 1) = false := decide_eq_false (by omega)
       have HFE : Hid (fromN (j + 1) (pr j es) a = f) := Lib.hid (HF.out.trans (from_stop _ _ _ (by rw [HH.out]; omega)))
       go_quiet (fail)
       replace hD := hD.step nq
       clear hw1 hd c HH HF hcf hc3
       go_wp2
       go_loopw [17] (fun tv wq => ∃ t : Nat, t ≤ M ∧ a + 1 ≤ t ∧ tv = .int .i64 t ∧ Hid (toN (j + 1) (pr j es) (M - (a + 1)) (a + 1) = toN (j + 1) (pr j es) (M - t) t) ∧ Drawn0 w4 wq) (fun tv _ => M - (intOf tv).toNat)
       case atStart => exact ⟨a + 1, by omega, Nat.le_refl _, by go_num, Lib.hid rfl, hD⟩
       case round =>
        clear hD
        obtain ⟨t, ht, hat, rfl, HTO, hD⟩ := hrel
        go_upto_region 21 with (fail)
        go_cut [79] from 67 to 81 (fun s79 wx => s79 = .bool (decide (t < M ∧ gD (pr j es) t ≤ j + 1)) ∧ Drawn0 w4 wx)
        case first =>
         have hw1 : IntKind.i64.wrap ((j : Int) + 1) = (j : Int) + 1 := IntWalk.i64_in _ (by omega)
         have f0 : (0 : Int) ≤ (t : Int) := by omega
         by_cases hlt : t < M
         ·have f1 : (t : Int) < (M : Int) := by omega
          have hBq := hD.below
          obtain ⟨h, hh⟩ : ∃ h, (hts j es).getD t 0 = h := ⟨_, rfl⟩
          have HH : Hid (gD (pr j es) t = h) := Lib.hid ((gD_hts j es t).trans hh)
          have hcf := ((P.out.below hBq).rh.cellAt t (by omega)).trans (htI_at j es t (by rw [HM.out]; omega))
          rw [hh] at hcf
          have hc3 := (blk_bel T.out hBq).cell 0
          clear hh hBq
          have hl1 : decide ((t : Int) < (M : Int)) = true := qj (by omega)
          have hl2 : decide (t < M) = true := qj (by omega)
          by_cases c : h ≤ j + 1
          ·have hd : decide ((h : Int) ≤ (j : Int) + 1) = true := qj (by omega)
           have HV : Hid (decide (t < M ∧ gD (pr j es) t ≤ j + 1) = true) := Lib.hid (qj ⟨hlt, by rw [HH.out]; exact c⟩)
           go_quiet (fail)
           replace hD := hD.step nq
           clear hw1
           go_wp2
           go_meet
           exact ⟨by rw [HV.out], hD⟩
          ·have hd : decide ((h : Int) ≤ (j : Int) + 1) = false := decide_eq_false (by omega)
           have HV : Hid (decide (t < M ∧ gD (pr j es) t ≤ j + 1) = false) := Lib.hid (decide_eq_false (fun q => c (by rw [← HH.out]; exact q.2)))
           go_quiet (fail)
           replace hD := hD.step nq
           clear hw1
           go_wp2
           go_meet
           exact ⟨by rw [HV.out], hD⟩
         ·have hl1 : decide ((t : Int) < (M : Int)) = false := decide_eq_false (by omega)
          have hl2 : decide (t < M) = false := decide_eq_false (by omega)
          have HV : Hid (decide (t < M ∧ gD (pr j es) t ≤ j + 1) = false) := Lib.hid (decide_eq_false (fun q => hlt q.1))
          go_quiet (fail)
          replace hD := hD.step nq
          clear hw1
          go_wp2
          go_meet
          exact ⟨by rw [HV.out], hD⟩
        case rest =>
         clear hD
         obtain ⟨rfl, hD⟩ := hcut
         by_cases hb : t < M ∧ gD (pr j es) t ≤ j + 1
         ·have HTO2 : Hid (toN (j + 1) (pr j es) (M - (a + 1)) (a + 1) = toN (j + 1) (pr j es) (M - (t + 1)) (t + 1)) := Lib.hid (by
           rw [HTO.out]
           obtain ⟨d, hdd⟩ : ∃ d, M - t = d + 1 := ⟨M - t - 1, by omega⟩
           rw [hdd, to_go _ _ _ _ hb.2]
           congr 1
           omega)
          have ht1 := hb.1
          rw [qj hb]
          clear hb
          go_wp2
          go_roundw
          case rel => first | exact ⟨t + 1, by omega, by omega, by go_num, HTO2, hD⟩ | ((repeat apply Exists.intro); exact ⟨⟨t + 1, by omega, by omega, by go_num, HTO2, hD⟩, rfl⟩)
          case measure => simp [intOf]; omega
         ·have HTE : Hid (toN (j + 1) (pr j es) (M - (a + 1)) (a + 1) = t) := Lib.hid (HTO.out.trans (to_stop _ _ _ _ (by
           by_cases q : t < M
           ·exact .inr (Nat.lt_of_not_le (fun q2 => hb ⟨q, q2⟩))
           ·exact .inl (by omega))))
          rw [decide_eq_false hb]
          clear hb HTO
          have hfM : f ≤ M := by omega
          have ht0 : (t : Int) ≤ (M : Int) := by omega
          have HC1 := cut_w gl M cl f a hf (by omega) hcl
          have HC2 : ∀ W : World, (Instr.slice 49 (.slice (some ⟨gl, 0, none⟩) M cl) (some (.int .i64 ((a : Int) + 1))) (some (.int .i64 (t : Int))) none).run Tryd.prog W = .ok (segW gl cl (a + 1, t)) W := cut_w gl M cl (a + 1) t hat ht hcl
          go_upto_region 23 with (fail)
          go_cut [45] from 45 to 111 (fun s45 wx => s45 = .int .i64 (j : Int) ∧ ∃ v1 v2 : Value, Hid (v1.ownBlock = none ∨ v1.ownBlock ≠ v2.ownBlock) ∧ Aside0 (PT w.heap.size w g gp es (i + 1) j (.slice (some ⟨gh, 0, none⟩) M ch) M (intV (htI j es)) v1 (j + 1) (bs ++ [segW gl cl (f, a)]) v2 (j + 1) (xs2 ++ [segW gl cl (a + 1, t)]) v1 v2 bs xs2 wx) ∧ Aside0 (Blk wx G3 3 #[.int .i64 (j : Int)]) ∧ Aside0 (wx.ownsRow w.heap.size 9 1 (.slice (some ⟨gl, 0, none⟩) M cl) M (strV (rowF (lab j) j es))))
          case first =>
           have hBq := hD.below.drew
           replace P := qf (P.out.below hBq)
           replace T := qf (blk_bel T.out hBq)
           replace RW := qf (own_bel RW.out hBq)
           have hbv := fun q e => (P.out.rb.lt q e).2
           clear hBq hD
           have hw1 : IntKind.i64.wrap ((a : Int) + 1) = (a : Int) + 1 := IntWalk.i64_in _ (by omega)
           refine start_ (n := 21) (S := (fun w' : World => w'.cell? ⟨gp, 0, none⟩ = some vb ∧ w'.cell? ⟨gp, 1, none⟩ = some va)) (ds := [18, 20]) (bm 21 0) (by kernel_rfl) rfl rfl ⟨P.out.gp_.cell 0, P.out.gp_.cell 1⟩ (fun hHeld => ?_)
           refine pure_ (i := 0) (N := some 82) (v := .pointer (some ⟨gp, 0, none⟩)) (a' := ?_) (bm 21 1) rfl rfl (by kernel_rfl) (fun _ _ _ h => h) (Or.inl ⟨by rfl, ?_⟩) ?_ ?_
           ·intro w'
            go_simp
           rotate_left
           ·simp only [Act.put, qs, qt, qu]
            rfl
           refine pure_ (i := 8) (N := some 90) (v := .pointer (some ⟨gp, 1, none⟩)) (a' := ?_) (bm 21 257) rfl rfl (by kernel_rfl) (fun _ _ _ h => h) (Or.inl ⟨by rfl, ?_⟩) ?_ ?_
           ·intro w'
            go_simp
           rotate_left
           ·simp only [Act.put, qs, qt, qu]
            rfl
           refine pure_ (i := 2) (N := some 84) (v := .slice (some ⟨gl, 0, none⟩) M cl) (a' := ?_) (bm 21 261) rfl rfl (by kernel_rfl) (fun _ _ _ h => h) (Or.inl ⟨by rfl, ?_⟩) ?_ ?_
           ·intro w'
            go_simp
           rotate_left
           ·simp only [Act.put, qs, qt, qu]
            rfl
           refine pure_ (i := 3) (N := some 85) (v := .int .i64 (f : Int)) (a' := ?_) (bm 21 269) rfl rfl (by kernel_rfl) (fun _ _ _ h => h) (Or.inl ⟨by rfl, ?_⟩) ?_ ?_
           ·intro w'
            go_simp
           rotate_left
           ·simp only [Act.put, qs, qt, qu]
            rfl
           refine pure_ (i := 4) (N := some 86) (v := .int .i64 (a : Int)) (a' := ?_) (bm 21 285) rfl rfl (by kernel_rfl) (fun _ _ _ h => h) (Or.inl ⟨by rfl, ?_⟩) ?_ ?_
           ·intro w'
            go_simp
           rotate_left
           ·simp only [Act.put, qs, qt, qu]
            rfl
           refine pure_ (i := 5) (N := some 87) (v := segW gl cl (f, a)) (a' := ?_) (bm 21 317) rfl rfl (by kernel_rfl) (fun _ _ _ h => h) (Or.inl ⟨by rfl, ?_⟩) ?_ ?_
           ·intro w'
            go_simp
           rotate_left
           ·simp only [Act.put, qs, qt, qu]
            rfl
           refine pure_ (i := 10) (N := some 92) (v := .slice (some ⟨gl, 0, none⟩) M cl) (a' := ?_) (bm 21 1341) rfl rfl (by kernel_rfl) (fun _ _ _ h => h) (Or.inl ⟨by rfl, ?_⟩) ?_ ?_
           ·intro w'
            go_simp
           rotate_left
           ·simp only [Act.put, qs, qt, qu]
            rfl
           refine pure_ (i := 11) (N := some 93) (v := .int .i64 (a : Int)) (a' := ?_) (bm 21 3389) rfl rfl (by kernel_rfl) (fun _ _ _ h => h) (Or.inl ⟨by rfl, ?_⟩) ?_ ?_
           ·intro w'
            go_simp
           rotate_left
           ·simp only [Act.put, qs, qt, qu]
            rfl
           refine pure_ (i := 12) (N := some 94) (v := .int .i64 ((a : Int) + 1)) (a' := ?_) (bm 21 7485) rfl rfl (by kernel_rfl) (fun _ _ _ h => h) (Or.inl ⟨by rfl, ?_⟩) ?_ ?_
           ·intro w'
            go_simp
           rotate_left
           ·simp only [Act.put, qs, qt, qu]
            rfl
           refine pure_ (i := 13) (N := some 95) (v := .int .i64 (t : Int)) (a' := ?_) (bm 21 15677) rfl rfl (by kernel_rfl) (fun _ _ _ h => h) (Or.inl ⟨by rfl, ?_⟩) ?_ ?_
           ·intro w'
            go_simp
           rotate_left
           ·simp only [Act.put, qs, qt, qu]
            rfl
           refine pure_ (i := 14) (N := some 96) (v := segW gl cl (a + 1, t)) (a' := ?_) (bm 21 32061) rfl rfl (by kernel_rfl) (fun _ _ _ h => h) (Or.inl ⟨by rfl, ?_⟩) ?_ ?_
           ·intro w'
            go_simp
           rotate_left
           ·simp only [Act.put, qs, qt, qu]
            rfl
           refine take_ (i := 1) (N := some 83) (v := vb) (a' := ?_) (bm 21 32063) rfl rfl (by kernel_rfl) (fun _ _ _ h => h) (Or.inl ⟨by rfl, ?_⟩) hHeld ?_ ?_
           ·intro w' hSw
            obtain ⟨q0, q1⟩ := hSw
            go_simp
           rotate_left
           ·simp only [Act.put, qs, qt, qu]
            rfl
           refine take_ (i := 9) (N := some 91) (v := va) (a' := ?_) (bm 21 32575) rfl rfl (by kernel_rfl) (fun _ _ _ h => h) (Or.inl ⟨by rfl, ?_⟩) hHeld ?_ ?_
           ·intro w' hSw
            obtain ⟨q0, q1⟩ := hSw
            go_simp
           rotate_left
           ·simp only [Act.put, qs, qt, qu]
            rfl
           have HNE0 := HNE
           refine two_ (i := 6) (j := 15) (Ni := some 88) (Nj := some 97) (bm 21 32639) (bm 21 65343) rfl rfl rfl rfl (by kernel_rfl) (by decide) (by decide) (fun K hK => ?_) (fun K hK => ?_)
           ·skip
            clear hHeld
            go_simp
            have N6 := qf (Blk.new (wc.drew) 49 #[segW gl cl (f, a)])
            have hbn := (Below.refl (wc.drew).heap.size (wc.drew)).alloc (Nat.le_refl _) (.cells #[segW gl cl (f, a)] 49)
            replace P := qf (P.out.below hbn)
            replace T := qf (blk_bel T.out hbn)
            replace RW := qf (own_bel RW.out hbn)
            clear hbn
            refine hK.out _ _ ⟨P.out.gp_.cell 0, P.out.gp_.cell 1⟩ (fun hHeld => ?_)
            clear hK K
            simp only [Act.put, qs, qt, qu]
            refine two_ (i := 7) (j := 15) (Ni := some 89) (Nj := some 97) (bm 21 32767) (bm 21 65407) rfl rfl rfl rfl (by kernel_rfl) (by decide) (by decide) (fun K hK => ?_) (fun K hK => ?_)
            ·skip
             clear hHeld
             refine step_own_at rfl (.tmp 83) (.tmp 88) 76 rfl w.heap.size 49 iS (.slice none 0 0) 1 24 Tryd.underlying76 hiS hzS hsS hbS rfl (by decide) vb j bs (by rfl) P.out.rb ⟨(wc.drew).heap.size, 0, none⟩ 1 1 [segW gl cl (f, a)] (by rfl) rfl (blk_one N6.out) (by simp [segW, Value.oneCell']) (by simp only [maxLen]; omega) (by omega) P.out.hz ?_
             intro v1 wx1 ho hg hat
             clear N6
             have HNE := Lib.hid (ne_app HNE.out hat P.out.ra)
             replace T := qf (blk_grown T.out hg (own_ne P.out.rb T.out (by decide)))
             replace RW := qf (RW.out.kept hg (own_ne2 RW.out P.out.rb (by decide)))
             replace P := qf (P.out.appB HNE0.out ho hg)
             clear ho hg hat
             refine hK.out _ _ ⟨P.out.gp_.cell 0, P.out.gp_.cell 1⟩ (fun hHeld => ?_)
             clear hK K
             simp only [Act.put, qs]
             refine pure_ (i := 17) (N := some 99) (v := .pointer (some ⟨gp, 0, none⟩)) (a' := ?_) (bm 21 163839) rfl rfl (by kernel_rfl) (fun _ _ _ h => h) (Or.inl ⟨by rfl, ?_⟩) ?_ ?_
             ·intro w'
              go_simp
             rotate_left
             ·simp only [Act.put]
              rfl
             have HNE1 := HNE
             refine one_ (i := 15) (N := some 97) (bm 21 196607) rfl rfl (by kernel_rfl) (by decide) (fun K hK => ?_)
             clear hHeld
             go_simp
             have N15 := qf (Blk.new (wx1) 49 #[segW gl cl (a + 1, t)])
             have hbn := (Below.refl (wx1).heap.size (wx1)).alloc (Nat.le_refl _) (.cells #[segW gl cl (a + 1, t)] 49)
             replace P := qf (P.out.below hbn)
             replace T := qf (blk_bel T.out hbn)
             replace RW := qf (own_bel RW.out hbn)
             clear hbn
             refine hK.out _ _ ⟨P.out.gp_.cell 0, P.out.gp_.cell 1⟩ (fun hHeld => ?_)
             clear hK K
             simp only [Act.put, qs, qt, qu]
             refine one_ (i := 16) (N := some 98) (bm 21 262143) rfl rfl (by kernel_rfl) (by decide) (fun K hK => ?_)
             clear hHeld
             refine step_own_at rfl (.tmp 91) (.tmp 97) 76 rfl w.heap.size 49 iS (.slice none 0 0) 1 24 Tryd.underlying76 hiS hzS hsS hbS rfl (by decide) va j xs2 (by rfl) P.out.ra ⟨(wx1).heap.size, 0, none⟩ 1 1 [segW gl cl (a + 1, t)] (by rfl) rfl (blk_one N15.out) (by simp [segW, Value.oneCell']) (by simp only [maxLen]; omega) (by omega) P.out.hz ?_
             intro v2 wx2 ho hg hat
             clear N15
             have HNE := Lib.hid (ne_sym (ne_app (ne_sym HNE.out) hat P.out.rb))
             replace T := qf (blk_grown T.out hg (own_ne P.out.ra T.out (by decide)))
             replace RW := qf (RW.out.kept hg (own_ne2 RW.out P.out.ra (by decide)))
             replace P := qf (P.out.appA HNE1.out ho hg)
             clear ho hg hat
             refine hK.out _ _ ⟨P.out.gp_.cell 0, P.out.gp_.cell 1⟩ (fun hHeld => ?_)
             clear hK K
             simp only [Act.put, qs]
             have HNE2 := HNE
             obtain ⟨g1, c1, rfl, _⟩ := own_succ3 P.out.rb
             obtain ⟨g2, c2, rfl, _⟩ := own_succ3 P.out.ra
             have hx0 := P.out.gp_.cell 0
             have fx0 := P.out.gp_.frozen 0
             have P3 := qf (P.out.gp_.set_ 0 (.slice (some ⟨g1, 0, none⟩) (j + 1) c1))
             have hx1 := P3.out.cell 1
             have fx1 := P3.out.frozen 1
             refine last_ (i := 18) (N := none) (bm 21 524287) rfl rfl (by kernel_rfl) (by decide) (fun K hK => ?_)
             go_simp
             refine hK.out _ _ ?_
             clear hK K
             refine pure_ (i := 19) (N := some 100) (v := .pointer (some ⟨gp, 1, none⟩)) (a' := ?_) (bm 21 1048575) rfl rfl (by kernel_rfl) (fun _ _ _ h => h) (Or.inl ⟨by rfl, ?_⟩) ?_ ?_
             ·intro w'
              go_simp
             rotate_left
             ·simp only [Act.put, qs, qt, qu]
              rfl
             refine last_ (i := 20) (N := none) (bm 21 2097151) rfl rfl (by kernel_rfl) (by decide) (fun K hK => ?_)
             go_simp
             refine hK.out _ _ ?_
             refine done_ (by kernel_rfl) ?_
             clear hK K hHeld hx0 fx0 hx1 fx1
             have PF := qf (P.out.store hgne (.slice (some ⟨g1, 0, none⟩) (j + 1) c1) (.slice (some ⟨g2, 0, none⟩) (j + 1) c2))
             have TF := qf (blk_grown (blk_grown T.out (set_grown_at _ gp 0 (.slice (some ⟨g1, 0, none⟩) (j + 1) c1)) (fun e => hG3.out (Option.some.inj e).symm)) (set_grown_at _ gp 1 (.slice (some ⟨g2, 0, none⟩) (j + 1) c2)) (fun e => hG3.out (Option.some.inj e).symm))
             have RF := qf ((RW.out.kept (set_grown_at _ gp 0 (.slice (some ⟨g1, 0, none⟩) (j + 1) c1)) (.inr (own_ne RW.out P.out.gp_ (by decide)))).kept (set_grown_at _ gp 1 (.slice (some ⟨g2, 0, none⟩) (j + 1) c2)) (.inr (own_ne RW.out P.out.gp_ (by decide))))
             clear P3 P T RW
             go_wp2_with fail
             go_meet
             exact ⟨rfl, _, _, HNE2, PF, TF, RF⟩
            ·skip
             clear hHeld
             go_simp
             have N15 := qf (Blk.new ((wc.drew).alloc (.cells #[segW gl cl (f, a)] 49)) 49 #[segW gl cl (a + 1, t)])
             replace N6 := qf (N6.out.alloc (.cells #[segW gl cl (a + 1, t)] 49))
             have hbn := (Below.refl ((wc.drew).alloc (.cells #[segW gl cl (f, a)] 49)).heap.size ((wc.drew).alloc (.cells #[segW gl cl (f, a)] 49))).alloc (Nat.le_refl _) (.cells #[segW gl cl (a + 1, t)] 49)
             replace P := qf (P.out.below hbn)
             replace T := qf (blk_bel T.out hbn)
             replace RW := qf (own_bel RW.out hbn)
             clear hbn
             refine hK.out _ _ ⟨P.out.gp_.cell 0, P.out.gp_.cell 1⟩ (fun hHeld => ?_)
             clear hK K
             simp only [Act.put, qs, qt, qu]
             refine one_ (i := 7) (N := some 89) (bm 21 65535) rfl rfl (by kernel_rfl) (by decide) (fun K hK => ?_)
             clear hHeld
             refine step_own_at rfl (.tmp 83) (.tmp 88) 76 rfl w.heap.size 49 iS (.slice none 0 0) 1 24 Tryd.underlying76 hiS hzS hsS hbS rfl (by decide) vb j bs (by rfl) P.out.rb ⟨(wc.drew).heap.size, 0, none⟩ 1 1 [segW gl cl (f, a)] (by rfl) rfl (blk_one N6.out) (by simp [segW, Value.oneCell']) (by simp only [maxLen]; omega) (by omega) P.out.hz ?_
             intro v1 wx1 ho hg hat
             clear N6
             replace N15 := qf (blk_grown N15.out hg (fun e => absurd (hbv _ e) (by simp)))
             have HNE := Lib.hid (ne_app HNE.out hat P.out.ra)
             replace T := qf (blk_grown T.out hg (own_ne P.out.rb T.out (by decide)))
             replace RW := qf (RW.out.kept hg (own_ne2 RW.out P.out.rb (by decide)))
             replace P := qf (P.out.appB HNE0.out ho hg)
             clear ho hg hat
             refine hK.out _ _ ⟨P.out.gp_.cell 0, P.out.gp_.cell 1⟩ (fun hHeld => ?_)
             clear hK K
             simp only [Act.put, qs]
             refine pure_ (i := 17) (N := some 99) (v := .pointer (some ⟨gp, 0, none⟩)) (a' := ?_) (bm 21 196607) rfl rfl (by kernel_rfl) (fun _ _ _ h => h) (Or.inl ⟨by rfl, ?_⟩) ?_ ?_
             ·intro w'
              go_simp
             rotate_left
             ·simp only [Act.put]
              rfl
             have HNE1 := HNE
             refine one_ (i := 16) (N := some 98) (bm 21 262143) rfl rfl (by kernel_rfl) (by decide) (fun K hK => ?_)
             clear hHeld
             refine step_own_at rfl (.tmp 91) (.tmp 97) 76 rfl w.heap.size 49 iS (.slice none 0 0) 1 24 Tryd.underlying76 hiS hzS hsS hbS rfl (by decide) va j xs2 (by rfl) P.out.ra ⟨((wc.drew).alloc (.cells #[segW gl cl (f, a)] 49)).heap.size, 0, none⟩ 1 1 [segW gl cl (a + 1, t)] (by rfl) rfl (blk_one N15.out) (by simp [segW, Value.oneCell']) (by simp only [maxLen]; omega) (by omega) P.out.hz ?_
             intro v2 wx2 ho hg hat
             clear N15
             have HNE := Lib.hid (ne_sym (ne_app (ne_sym HNE.out) hat P.out.rb))
             replace T := qf (blk_grown T.out hg (own_ne P.out.ra T.out (by decide)))
             replace RW := qf (RW.out.kept hg (own_ne2 RW.out P.out.ra (by decide)))
             replace P := qf (P.out.appA HNE1.out ho hg)
             clear ho hg hat
             refine hK.out _ _ ⟨P.out.gp_.cell 0, P.out.gp_.cell 1⟩ (fun hHeld => ?_)
             clear hK K
             simp only [Act.put]
             have HNE2 := HNE
             obtain ⟨g1, c1, rfl, _⟩ := own_succ3 P.out.rb
             obtain ⟨g2, c2, rfl, _⟩ := own_succ3 P.out.ra
             have hx0 := P.out.gp_.cell 0
             have fx0 := P.out.gp_.frozen 0
             have P3 := qf (P.out.gp_.set_ 0 (.slice (some ⟨g1, 0, none⟩) (j + 1) c1))
             have hx1 := P3.out.cell 1
             have fx1 := P3.out.frozen 1
             refine last_ (i := 18) (N := none) (bm 21 524287) rfl rfl (by kernel_rfl) (by decide) (fun K hK => ?_)
             go_simp
             refine hK.out _ _ ?_
             clear hK K
             refine pure_ (i := 19) (N := some 100) (v := .pointer (some ⟨gp, 1, none⟩)) (a' := ?_) (bm 21 1048575) rfl rfl (by kernel_rfl) (fun _ _ _ h => h) (Or.inl ⟨by rfl, ?_⟩) ?_ ?_
             ·intro w'
              go_simp
             rotate_left
             ·simp only [Act.put, qs, qt, qu]
              rfl
             refine last_ (i := 20) (N := none) (bm 21 2097151) rfl rfl (by kernel_rfl) (by decide) (fun K hK => ?_)
             go_simp
             refine hK.out _ _ ?_
             refine done_ (by kernel_rfl) ?_
             clear hK K hHeld hx0 fx0 hx1 fx1
             have PF := qf (P.out.store hgne (.slice (some ⟨g1, 0, none⟩) (j + 1) c1) (.slice (some ⟨g2, 0, none⟩) (j + 1) c2))
             have TF := qf (blk_grown (blk_grown T.out (set_grown_at _ gp 0 (.slice (some ⟨g1, 0, none⟩) (j + 1) c1)) (fun e => hG3.out (Option.some.inj e).symm)) (set_grown_at _ gp 1 (.slice (some ⟨g2, 0, none⟩) (j + 1) c2)) (fun e => hG3.out (Option.some.inj e).symm))
             have RF := qf ((RW.out.kept (set_grown_at _ gp 0 (.slice (some ⟨g1, 0, none⟩) (j + 1) c1)) (.inr (own_ne RW.out P.out.gp_ (by decide)))).kept (set_grown_at _ gp 1 (.slice (some ⟨g2, 0, none⟩) (j + 1) c2)) (.inr (own_ne RW.out P.out.gp_ (by decide))))
             clear P3 P T RW
             go_wp2_with fail
             go_meet
             exact ⟨rfl, _, _, HNE2, PF, TF, RF⟩
           ·skip
            clear hHeld
            go_simp
            have N15 := qf (Blk.new (wc.drew) 49 #[segW gl cl (a + 1, t)])
            have hbn := (Below.refl (wc.drew).heap.size (wc.drew)).alloc (Nat.le_refl _) (.cells #[segW gl cl (a + 1, t)] 49)
            replace P := qf (P.out.below hbn)
            replace T := qf (blk_bel T.out hbn)
            replace RW := qf (own_bel RW.out hbn)
            clear hbn
            refine hK.out _ _ ⟨P.out.gp_.cell 0, P.out.gp_.cell 1⟩ (fun hHeld => ?_)
            clear hK K
            simp only [Act.put, qs, qt, qu]
            refine one_ (i := 6) (N := some 88) (bm 21 65407) rfl rfl (by kernel_rfl) (by decide) (fun K hK => ?_)
            clear hHeld
            go_simp
            have N6 := qf (Blk.new ((wc.drew).alloc (.cells #[segW gl cl (a + 1, t)] 49)) 49 #[segW gl cl (f, a)])
            replace N15 := qf (N15.out.alloc (.cells #[segW gl cl (f, a)] 49))
            have hbn := (Below.refl ((wc.drew).alloc (.cells #[segW gl cl (a + 1, t)] 49)).heap.size ((wc.drew).alloc (.cells #[segW gl cl (a + 1, t)] 49))).alloc (Nat.le_refl _) (.cells #[segW gl cl (f, a)] 49)
            replace P := qf (P.out.below hbn)
            replace T := qf (blk_bel T.out hbn)
            replace RW := qf (own_bel RW.out hbn)
            clear hbn
            refine hK.out _ _ ⟨P.out.gp_.cell 0, P.out.gp_.cell 1⟩ (fun hHeld => ?_)
            clear hK K
            simp only [Act.put, qs, qt, qu]
            refine one_ (i := 7) (N := some 89) (bm 21 65535) rfl rfl (by kernel_rfl) (by decide) (fun K hK => ?_)
            clear hHeld
            refine step_own_at rfl (.tmp 83) (.tmp 88) 76 rfl w.heap.size 49 iS (.slice none 0 0) 1 24 Tryd.underlying76 hiS hzS hsS hbS rfl (by decide) vb j bs (by rfl) P.out.rb ⟨((wc.drew).alloc (.cells #[segW gl cl (a + 1, t)] 49)).heap.size, 0, none⟩ 1 1 [segW gl cl (f, a)] (by rfl) rfl (blk_one N6.out) (by simp [segW, Value.oneCell']) (by simp only [maxLen]; omega) (by omega) P.out.hz ?_
            intro v1 wx1 ho hg hat
            clear N6
            replace N15 := qf (blk_grown N15.out hg (fun e => absurd (hbv _ e) (by simp)))
            have HNE := Lib.hid (ne_app HNE.out hat P.out.ra)
            replace T := qf (blk_grown T.out hg (own_ne P.out.rb T.out (by decide)))
            replace RW := qf (RW.out.kept hg (own_ne2 RW.out P.out.rb (by decide)))
            replace P := qf (P.out.appB HNE0.out ho hg)
            clear ho hg hat
            refine hK.out _ _ ⟨P.out.gp_.cell 0, P.out.gp_.cell 1⟩ (fun hHeld => ?_)
            clear hK K
            simp only [Act.put, qs]
            refine pure_ (i := 17) (N := some 99) (v := .pointer (some ⟨gp, 0, none⟩)) (a' := ?_) (bm 21 196607) rfl rfl (by kernel_rfl) (fun _ _ _ h => h) (Or.inl ⟨by rfl, ?_⟩) ?_ ?_
            ·intro w'
             go_simp
            rotate_left
            ·simp only [Act.put]
             rfl
            have HNE1 := HNE
            refine one_ (i := 16) (N := some 98) (bm 21 262143) rfl rfl (by kernel_rfl) (by decide) (fun K hK => ?_)
            clear hHeld
            refine step_own_at rfl (.tmp 91) (.tmp 97) 76 rfl w.heap.size 49 iS (.slice none 0 0) 1 24 Tryd.underlying76 hiS hzS hsS hbS rfl (by decide) va j xs2 (by rfl) P.out.ra ⟨(wc.drew).heap.size, 0, none⟩ 1 1 [segW gl cl (a + 1, t)] (by rfl) rfl (blk_one N15.out) (by simp [segW, Value.oneCell']) (by simp only [maxLen]; omega) (by omega) P.out.hz ?_
            intro v2 wx2 ho hg hat
            clear N15
            have HNE := Lib.hid (ne_sym (ne_app (ne_sym HNE.out) hat P.out.rb))
            replace T := qf (blk_grown T.out hg (own_ne P.out.ra T.out (by decide)))
            replace RW := qf (RW.out.kept hg (own_ne2 RW.out P.out.ra (by decide)))
            replace P := qf (P.out.appA HNE1.out ho hg)
            clear ho hg hat
            refine hK.out _ _ ⟨P.out.gp_.cell 0, P.out.gp_.cell 1⟩ (fun hHeld => ?_)
            clear hK K
            simp only [Act.put]
            have HNE2 := HNE
            obtain ⟨g1, c1, rfl, _⟩ := own_succ3 P.out.rb
            obtain ⟨g2, c2, rfl, _⟩ := own_succ3 P.out.ra
            have hx0 := P.out.gp_.cell 0
            have fx0 := P.out.gp_.frozen 0
            have P3 := qf (P.out.gp_.set_ 0 (.slice (some ⟨g1, 0, none⟩) (j + 1) c1))
            have hx1 := P3.out.cell 1
            have fx1 := P3.out.frozen 1
            refine last_ (i := 18) (N := none) (bm 21 524287) rfl rfl (by kernel_rfl) (by decide) (fun K hK => ?_)
            go_simp
            refine hK.out _ _ ?_
            clear hK K
            refine pure_ (i := 19) (N := some 100) (v := .pointer (some ⟨gp, 1, none⟩)) (a' := ?_) (bm 21 1048575) rfl rfl (by kernel_rfl) (fun _ _ _ h => h) (Or.inl ⟨by rfl, ?_⟩) ?_ ?_
            ·intro w'
             go_simp
            rotate_left
            ·simp only [Act.put, qs, qt, qu]
             rfl
            refine last_ (i := 20) (N := none) (bm 21 2097151) rfl rfl (by kernel_rfl) (by decide) (fun K hK => ?_)
            go_simp
            refine hK.out _ _ ?_
            refine done_ (by kernel_rfl) ?_
            clear hK K hHeld hx0 fx0 hx1 fx1
            have PF := qf (P.out.store hgne (.slice (some ⟨g1, 0, none⟩) (j + 1) c1) (.slice (some ⟨g2, 0, none⟩) (j + 1) c2))
            have TF := qf (blk_grown (blk_grown T.out (set_grown_at _ gp 0 (.slice (some ⟨g1, 0, none⟩) (j + 1) c1)) (fun e => hG3.out (Option.some.inj e).symm)) (set_grown_at _ gp 1 (.slice (some ⟨g2, 0, none⟩) (j + 1) c2)) (fun e => hG3.out (Option.some.inj e).symm))
            have RF := qf ((RW.out.kept (set_grown_at _ gp 0 (.slice (some ⟨g1, 0, none⟩) (j + 1) c1)) (.inr (own_ne RW.out P.out.gp_ (by decide)))).kept (set_grown_at _ gp 1 (.slice (some ⟨g2, 0, none⟩) (j + 1) c2)) (.inr (own_ne RW.out P.out.gp_ (by decide))))
            clear P3 P T RW
            go_wp2_with fail
            go_meet
            exact ⟨rfl, _, _, HNE2, PF, TF, RF⟩
          case rest =>
           clear P T RW HNE hD HC1 HC2
           obtain ⟨rfl, v1, v2, HNE, P, T, RW⟩ := hcut
           have EB : befS es (i + 1) j = (f, a) := by unfold befS; rw [HAE.out, HFE.out]
           have EA : aftS es (i + 1) j = (a + 1, t) := by unfold aftS; rw [HAE.out, HMP.out, HTE.out]
           have HO := P.out.ho.push HM.out.symm hcl RW.out
           rw [EB, EA] at HO
           have HO2 := qf HO
           have HCL := Lib.hid (clone_h w.heap.size gh ch M f (htI j es) wc P.out.rh hfM (by omega))
           have HTL := T.out.lt
           obtain ⟨q, hq⟩ : ∃ q, cnt (j + 1) ((pr j es).take f) = q := ⟨_, rfl⟩
           have HQ : Hid (atN es (i + 1) (j + 1) = q) := Lib.hid (by
            show cnt (j + 1) ((pr j es).take (fromN (j + 1) (pr j es) (atN es (i + 1) j))) = q
            rw [HAE.out, HFE.out, hq])
           have HDA := Lib.hid (fun (gq cq base : Nat) (W : World) ho T hne => delA_at j es gq cq base f M G3 W (by omega) HM.out hfM (by omega) ho T hne)
           rw [hq] at HDA
           clear EB EA HO hq RW
           have f2 : (f : Int) ≤ (ch : Int) := by omega
           go_upto_region 25 with (first | (go_at_call 91; refine (HCL.out).mono ?_; rintro e w6 ⟨gq, cq, rfl, hgq, hoq, hbq⟩; have HDB := Lib.hid (HDA.out gq cq wc.heap.size w6 hoq (blk_bel T.out hbq) (by omega)); have HBQ := qf hbq; have HGQ := Lib.hid hgq; clear hoq hbq hgq) | (go_at_call 90; refine (HDB.out).mono ?_; rintro e w7 ⟨rfl, hgr⟩; have HB7 := qf (HBQ.out.grown hgr HBQ.out.size (fun k e => by cases e; exact HGQ.out)); clear hgr))
           clear HCL HDA HDB HBQ HGQ
           replace P := qf (P.out.below HB7.out)
           replace T := qf (blk_bel T.out HB7.out)
           have HO3 := qf (HO2.out.keep (fun _ _ _ z => own_bel z HB7.out))
           clear HO2 HB7 HTL
           have HDE := Lib.hid (delB_at j es gh ch w.heap.size M G3 w7 (by omega) HM.out (by omega) P.out.rh T.out hghG)
           obtain ⟨M2, hM2⟩ : ∃ M2, (rowF (lab (j + 1)) (j + 1) es).length = M2 := ⟨_, rfl⟩
           rw [hM2] at HDE
           have HM2 := Lib.hid hM2
           clear hM2
           go_upto_region 26 with (go_at_call 90; refine (HDE.out).mono ?_; rintro e w8 ⟨rfl, hoh, hgr⟩; have HO4 := qf (HO3.out.keep (fun _ _ _ z => z.kept hgr (own_ne2 z P.out.rh (by decide)))); replace P := qf (P.out.delH hoh hgr); clear hoh hgr)
           clear HDE HO3
           have PF := qf (P.out.outs HO4.out)
           clear P HO4 T
           go_wp2
           go_roundw
           case rel => first | exact ⟨j + 1, v1, v2, _, _, by omega, by go_num, by rw [HQ.out], HNE, by rw [HM2.out]; exact PF⟩ | ((repeat apply Exists.intro); exact ⟨⟨j + 1, v1, v2, _, _, by omega, by go_num, by rw [HQ.out], HNE, by rw [HM2.out]; exact PF⟩, rfl⟩)
           case measure => simp [intOf]; omega
    ·obtain rfl : j = 8 := by omega
     obtain ⟨gb, cb, rfl, hcb⟩ := own_form P.out.rb (by decide)
     obtain ⟨ga, ca, rfl, hca⟩ := own_form P.out.ra (by decide)
     have hp0 := P.out.gp_.cell 0
     have hp1 := P.out.gp_.cell 1
     have hn0 := P.out.n.cell 0
     have hn1 := P.out.n.cell 1
     have hf0 := P.out.n.frozen 0
     have hf1 := P.out.n.frozen 1
     have hgb := own_ne P.out.rb P.out.n (by decide)
     have hga := own_ne P.out.ra P.out.n (by decide)
     have FB : Aside0 (∀ (u1 u2 : Value), ((wr.setCell ⟨g, 0, none⟩ u1).setCell ⟨g, 1, none⟩ u2).ownsRow w.heap.size 49 1 (.slice (some ⟨gb, 0, none⟩) 8 cb) 8 bs) := ⟨fun u1 u2 => (P.out.rb.kept (set_grown_at wr g 0 u1) (.inr hgb)).kept (set_grown_at _ g 1 u2) (.inr hgb)⟩
     have FA : Aside0 (∀ (u1 u2 : Value), ((wr.setCell ⟨g, 0, none⟩ u1).setCell ⟨g, 1, none⟩ u2).ownsRow w.heap.size 49 1 (.slice (some ⟨ga, 0, none⟩) 8 ca) 8 xs2) := ⟨fun u1 u2 => (P.out.ra.kept (set_grown_at wr g 0 u1) (.inr hga)).kept (set_grown_at _ g 1 u2) (.inr hga)⟩
     have FO : Aside0 (∀ (u1 u2 : Value), Outs w.heap.size es (i + 1) 8 bs xs2 ((wr.setCell ⟨g, 0, none⟩ u1).setCell ⟨g, 1, none⟩ u2)) := ⟨fun u1 u2 => P.out.ho.keep (fun v n xs h => (h.kept (set_grown_at wr g 0 u1) (.inr (own_ne h P.out.n (by decide)))).kept (set_grown_at _ g 1 u2) (.inr (own_ne h P.out.n (by decide))))⟩
     have FW : Aside0 (∀ (u1 u2 : Value), Below w.heap.size w ((wr.setCell ⟨g, 0, none⟩ u1).setCell ⟨g, 1, none⟩ u2)) := ⟨fun u1 u2 => (P.out.hb.setCell (p := ⟨g, 0, none⟩) hgw u1).setCell (p := ⟨g, 1, none⟩) hgw u2⟩
     have hes := HES.out
     have ha0 := HA0.out
     have fb : ∀ n, n < 8 → (befS es (i + 1) n).1 ≤ (befS es (i + 1) n).2 ∧ (befS es (i + 1) n).2 ≤ (rowF (lab n) n es).length := fun n hn => by
      rw [hes] at ha0 ⊢
      exact befS_ok _ _ ha0 n hn
     have fa : ∀ n, n < 8 → (aftS es (i + 1) n).1 ≤ (aftS es (i + 1) n).2 ∧ (aftS es (i + 1) n).2 ≤ (rowF (lab n) n es).length := fun n hn => by
      rw [hes] at ha0 ⊢
      exact aftS_ok _ _ ha0 n hn
     have GB : Aside0 (∀ W3 : World, Outs w.heap.size es (i + 1) 8 bs xs2 W3 → W3.ownsRow w.heap.size 49 1 (.slice (some ⟨gb, 0, none⟩) 8 cb) 8 bs → Kd.C (Kd.slice 9 Kd.string) W3 (some ⟨gb, 0, none⟩) 8 (befR es (i + 1))) := ⟨fun W3 o tb => (outs_bef o fb tb).1⟩
     have GA : Aside0 (∀ W3 : World, Outs w.heap.size es (i + 1) 8 bs xs2 W3 → W3.ownsRow w.heap.size 49 1 (.slice (some ⟨ga, 0, none⟩) 8 ca) 8 xs2 → Kd.C (Kd.slice 9 Kd.string) W3 (some ⟨ga, 0, none⟩) 8 (aftR es (i + 1))) := ⟨fun W3 o ta => (outs_aft o fa ta).1⟩
     have NN := qf P.out.n
     clear hgb hga hes ha0 fb fa P
     go_wp2
     refine prove_ret2 NN.out _ _ _ _ rfl rfl ?_
     rw [HE.out]
     exact ⟨_, _, _, _, rfl, hcb, hca, GB.out _ (FO.out _ _) (FB.out _ _), GA.out _ (FO.out _ _) (FA.out _ _), FW.out _ _⟩
end Go.Proofs.YtolbhliepkcihaaDoor.Lab
end
section
namespace Go.Proofs.YtolbhliepkcihaaDoor.Lab
open Go.RowKit YtolbhliepkcihaaDoorW.PrintWords YtolbhliepkcihaaDoorW.PrintLast Kinds Build Sha Mac Codec Tower Mem ProofPure SkipOps SkipPure
theorem bef_len (es : List E) (a0 : Nat) : (befR es a0).length = 8 := by unfold befR; simp
theorem aft_len (es : List E) (a0 : Nat) : (aftR es a0).length = 8 := by unfold aftR; simp
theorem c_check (r : ByteArray) (x : S46) (B D : Option Addr) (c d : Nat) (b a : ProofPure.Rows) (W : World) (hb8 : b.length = 8) (ha8 : a.length = 8) (kb : Kd.C (Kd.slice 9 Kd.string) W B 8 b) (hc : 8 ≤ c) (ka : Kd.C (Kd.slice 9 Kd.string) W D 8 a) (hd : 8 ≤ d)
  (hx0 : 0 ≤ x.f0) (hx1 : x.f0 < 18446744073709551616) (hm : mayN x.f1 b a = 0) :
  Calls Tryd.prog 54 #[.string r, .agg #[.int .u64 x.f0, .string x.f1], .agg #[.slice B 8 c, .slice D 8 d]] W fun e w' => e = .returned (.tuple #[.bool ((sumS (stepN x b a 8)).toList == r.toList), .int .i64 0]) ∧ Below W.heap.size W w' := by
 have hd2 : domP x.f0 b a = true := by
  unfold domP
  rw [hb8, ha8, qj hx0, qj hx1]
  rfl
 have h := proof_Check.calls r x.f0 x.f1 B c b D d a ((sumS (stepN x b a 8)).toList == r.toList) 0 W (by rw [hb8]; exact kb) (by omega) (by rw [ha8]; exact ka) (by omega) (by
  unfold proof_Check.f
  rw [if_pos hd2, if_pos hm])
 rw [hb8, ha8] at h
 exact h
abbrev aK : ByteArray := ⟨#[107]⟩
abbrev aV : ByteArray := ⟨#[97]⟩
abbrev aX : S46 := ⟨3, aV⟩
abbrev aL : List S46 := [aX]
theorem aC (w : World) : Kd.C k46 (w.alloc (.cells #[.int .u64 3, .string aV] 46)) (some ⟨w.heap.size, 0, none⟩) 1 aL := by
 have N := Blk.new w 46 #[.int .u64 3, .string aV]
 refine ⟨rfl, by decide, fun _ => ⟨_, rfl, fun j p hp => ?_⟩⟩
 cases j with
 | succ j => simp at hp
 | zero =>
  obtain rfl := Option.some.inj hp
  refine ⟨_, rfl, k46_mk _ _, fun i u hu => ?_⟩
  rw [Nat.zero_mul, Nat.zero_add]
  match i, hu with
  | 0, hu =>
   obtain rfl := Option.some.inj hu
   rw [add0]
   exact N.cell 0
  | 1, hu =>
   obtain rfl := Option.some.inj hu
   exact N.cell 1
  | i + 2, hu => simp at hu
theorem aCells {W : World} {g : Nat} (h : Kd.C k46 W (some ⟨g, 0, none⟩) 1 aL) : W.cell? ⟨g, 0, none⟩ = some (.int .u64 3) ∧ W.cell? ⟨g, 1, none⟩ = some (.string aV) := by
 obtain ⟨ad, e1, h0, h1⟩ := at_T46 h 0 (by decide) (by decide)
 cases e1
 exact ⟨h0, h1⟩
theorem aR : RightP aL := (rightB_iff aL).1 (by decide)
theorem aO : okL aL := okL_of aL aR (by decide)
set_option maxRecDepth 100000 in
set_option maxHeartbeats 8000000 in
theorem alive18 (w : World) (hT : TabW w) : Calls Tryd.prog 56 #[] w fun e w' => e = .returned (.bool true) ∧ Below w.heap.size w w' := by
 have HC := qf (aC w)
 have HB := qf ((Below.refl w.heap.size w).alloc (Nat.le_refl _) (.cells #[.int .u64 3, .string aV] 46))
 have HT := Lib.hid hT
 have HP := Lib.hid (fun W (q : Kd.C k46 W (some ⟨w.heap.size, 0, none⟩) 1 aL) (t : TabW W) => prove_walk aK (some ⟨w.heap.size, 0, none⟩) 1 aL 3 0 W q (by decide) (by decide) (by decide) aO t aR (by decide) rfl (fun j hj => absurd hj (by omega)))
 have HR := Lib.hid (fun W (q : Kd.C k46 W (some ⟨w.heap.size, 0, none⟩) 1 aL) (t : TabW W) => Root_ok aK (some ⟨w.heap.size, 0, none⟩) 1 aL W q (by decide) (by decide) (by decide) aO t aR)
 have HM : Hid (mayN aV (befR (ents aK aL) 1) (aftR (ents aK aL) 1) = 0) := Lib.hid (prove_may aK aL (by decide) 1 _ (by decide))
 have HS : Hid (sumS (stepN aX (befR (ents aK aL) 1) (aftR (ents aK aL) 1) 8) = rootL aK aL) := Lib.hid (prove_root aK aL 0 (by decide))
 have hl1 := bef_len (ents aK aL) 1
 have hl2 := aft_len (ents aK aL) 1
 rw [show 0 + 1 = 1 from rfl, show aL.length = 1 from rfl] at HP
 rw [show aL.length = 1 from rfl] at HR
 generalize befR (ents aK aL) 1 = b at *
 generalize aftR (ents aK aL) 1 = a at *
 generalize rootL aK aL = r at *
 have HL1 := Lib.hid hl1
 have HL2 := Lib.hid hl2
 clear hT hl1 hl2
 go_enter Tryd.func56, Tryd.ntmps56
 go_upto_region 2 with (fail)
 generalize w.alloc (.cells #[.int .u64 3, .string aV] 46) = w1 at *
 go_upto_region 3 with (go_at_call 58; refine (HP.out _ HC.out (tab_below HT.out HB.out (Nat.le_refl _))).mono ?_; rintro e w2 ⟨B, c, D, d, rfl, hc, hd, kb, ka, hb2⟩; replace HC := qf (Kd.C_below HC.out hb2); replace HB := qf (below_step HB.out hb2); have KB := qf kb; have KA := qf ka; clear kb ka hb2)
 have N := qf (Blk.new w2 78 #[.slice B 8 c, .slice D 8 d])
 have hbn := (Below.refl w2.heap.size w2).alloc (Nat.le_refl _) (.cells #[.slice B 8 c, .slice D 8 d] 78)
 replace HC := qf (Kd.C_below HC.out hbn)
 replace HB := qf (below_step HB.out hbn)
 replace KB := qf (Kd.C_below KB.out hbn)
 replace KA := qf (Kd.C_below KA.out hbn)
 clear hbn HP
 generalize w2.heap.size = g at *
 generalize w2.alloc (.cells #[.slice B 8 c, .slice D 8 d] 78) = w3 at *
 go_upto_region 4 with (go_at_call 31; refine (HR.out _ HC.out (tab_below HT.out HB.out (Nat.le_refl _))).mono ?_; rintro e w4 ⟨rfl, hb2⟩; replace HC := qf (Kd.C_below HC.out hb2); replace HB := qf (below_step HB.out hb2); replace KB := qf (Kd.C_below KB.out hb2); replace KA := qf (Kd.C_below KA.out hb2); replace N := qf (blk_bel N.out hb2); clear hb2)
 clear HR HT
 have hbn := (Below.refl w4.heap.size w4).drew
 replace HC := qf (Kd.C_below HC.out hbn)
 replace HB := qf (below_step HB.out hbn)
 replace KB := qf (Kd.C_below KB.out hbn)
 replace KA := qf (Kd.C_below KA.out hbn)
 replace N := qf (blk_bel N.out hbn)
 clear hbn
 have h0 := (aCells HC.out).1
 have h1 := (aCells HC.out).2
 have n0 := N.out.cell 0
 have n1 := N.out.cell 1
 go_region_held3 (fun w' => w'.cell? ⟨w.heap.size, 0, none⟩ = some (.int .u64 3) ∧ w'.cell? ⟨w.heap.size, 1, none⟩ = some (.string aV) ∧ w'.cell? ⟨g, 0, none⟩ = some (.slice B 8 c) ∧ w'.cell? ⟨g, 1, none⟩ = some (.slice D 8 d))
  (first | exact ⟨h0, h1, n0, n1⟩ | go_keep)
  ((go_at_call 54; refine (c_check r aX B D c d b a _ HL1.out HL2.out KB.out hc KA.out hd (by decide) (by decide) HM.out).mono ?_; rintro e w5 ⟨rfl, hb2⟩; rw [HS.out, beq_self_eq_true]; replace HC := qf (Kd.C_below HC.out hb2); replace HB := qf (below_step HB.out hb2); replace N := qf (blk_bel N.out hb2); (try clear h0 h1 n0 n1); have h0 := (aCells HC.out).1; have h1 := (aCells HC.out).2; have n0 := N.out.cell 0; have n1 := N.out.cell 1; clear hb2))
 go_wp2
 go_ret
 exact ⟨rfl, HB.out⟩
end Go.Proofs.YtolbhliepkcihaaDoor.Lab
end
section
namespace Go.Proofs.YtolbhliepkcihaaDoor.Lab
open Go.RowKit YtolbhliepkcihaaDoorW.PrintWords YtolbhliepkcihaaDoorW.PrintLast Kinds Build Sha Mac Codec Tower Mem ProofPure SkipOps SkipPure
theorem strC_cell {w : World} {g n : Nat} {xs : List ByteArray} (h : Kd.C Kd.string w (some ⟨g, 0, none⟩) n xs) (i : Nat) (hi : i < n) (hx : i < xs.length) : w.cell? ⟨g, i, none⟩ = some (.string xs[i]) := by
 obtain ⟨ad, c, e, hl, hK, hc⟩ := Kd.C_get h ⟨#[]⟩ (i : Int) (by omega) (by omega)
 cases e
 have hK2 : c = [Value.string (xs.getD (i : Int).toNat ⟨#[]⟩)] := hK
 subst hK2
 have := hc 0 _ rfl
 rw [Int.toNat_natCast, List.getD_eq_getElem?_getD, List.getElem?_eq_getElem hx, show i * Kd.string.sz + 0 = i from by show i * 1 + 0 = i; omega] at this
 have h2 : w.cell? ((⟨g, 0, none⟩ : Addr).add i) = some (.string xs[i]) := this
 rw [← h2]
 congr 1
 unfold Addr.add
 split <;> simp_all
def clB (s t : ByteArray) : Bool := !(s.toList == t.toList) && ((sumS s).toList == (sumS t).toList)
theorem any_next {α : Type} (f : α → Bool) (l : List α) (i : Nat) (h : i < l.length) : (l.take (i + 1)).any f = ((l.take i).any f || f l[i]) := by
 rw [List.take_succ_eq_append_getElem h, List.any_append, List.any_cons, List.any_nil, Bool.or_false]
theorem any_hit {α : Type} (f : α → Bool) (l : List α) (i : Nat) (h : i < l.length) (hf : f l[i] = true) : l.any f = true := List.any_eq_true.2 ⟨_, List.getElem_mem h, hf⟩
theorem lvG_size (y : E) (r : List E) (hr : r.length ≤ 10000) : ∀ d lv t, t ∈ lvG y r d lv → t.size ≤ 1000000
 | 0, _, t, h => by cases h
 | d + 1, lv, t, h => by
  have ih := lvG_size y r hr d (lv + 1) t
  rw [lvG] at h
  split at h
  ·rcases List.mem_cons.1 h with rfl | h
   ·obtain ⟨f1, f2⟩ := from32 lv y r
    have e2 := cat32 _ f1
    rw [joinT_size]
    omega
   ·exact ih h
  ·exact ih h
theorem allT_size : ∀ s : List E, s.length ≤ 10000 → (∀ y, y ∈ s → y.t.size ≤ 1000000) → ∀ t, t ∈ allT s → t.size ≤ 1000000
 | [], _, _, t, h => by cases h
 | y :: r, hl, hy, t, h => by
  rw [List.length_cons] at hl
  rcases List.mem_append.1 h with h | h
  ·rcases List.mem_cons.1 h with rfl | h
   ·exact hy _ List.mem_cons_self
   ·exact lvG_size y r (by omega) 8 0 t h
  ·exact allT_size r (by omega) (fun z hz => hy z (List.mem_cons_of_mem _ hz)) t h
theorem ents_size (key : ByteArray) (l : List S46) (hok : okL l) : ∀ y, y ∈ ents key l → y.t.size ≤ 1000000 := fun y hy => by
 unfold ents at hy
 rcases List.mem_cons.1 hy with rfl | hy
 ·decide
 ·obtain ⟨x, hx, rfl⟩ := List.mem_map.1 hy
  have := hok x hx
  show (itemT x).size ≤ _
  rw [itemT_size]
  omega
theorem allT_len : ∀ s : List E, (allT s).length ≤ 9 * s.length
 | [] => Nat.le_refl _
 | y :: r => by
  have ih := allT_len r
  have h1 := lvG_len y r 8 0
  show ((y.t :: lvT y r) ++ allT r).length ≤ _
  rw [List.length_append, List.length_cons, List.length_cons]
  unfold lvT
  omega
set_option maxRecDepth 100000 in
set_option maxHeartbeats 8000000 in
theorem twice_any (key : ByteArray) (A0 : Option Addr) (c0 : Nat) (l : List S46) (x : S46) (B D : Option Addr) (c d : Nat) (b a : ProofPure.Rows) (w : World) (hr0 : Kd.C k46 w A0 l.length l) (hc0 : l.length ≤ c0) (hl : l.length ≤ 1000) (hkey : key.size ≤ 1000000000) (hok : okL l)
  (kb : Kd.C (Kd.slice 9 Kd.string) w B b.length b) (hc : b.length ≤ c) (ka : Kd.C (Kd.slice 9 Kd.string) w D a.length a) (hd : a.length ≤ d) (hx0 : 0 ≤ x.f0) (hx1 : x.f0 < 18446744073709551616) (hm : mayN x.f1 b a = 0) :
  Calls Tryd.prog 59 #[.string key, .slice A0 l.length c0, .agg #[.int .u64 x.f0, .string x.f1], .agg #[.slice B b.length c, .slice D a.length d]] w fun e w' => e = .returned (.bool (collB (stepsL x b a) (allT (ents key l)))) ∧ Below w.heap.size w w' := by
 obtain ⟨m1, m2, m3⟩ := may_ok hm
 have hlb := m2.1
 have hla := m3.1
 have hd2 : domP x.f0 b a = true := by
  unfold domP
  rw [hlb, hla, qj hx0, qj hx1]
  rfl
 have HS := Lib.hid (fun W (q1 : Kd.C (Kd.slice 9 Kd.string) W B b.length b) (q2 : Kd.C (Kd.slice 9 Kd.string) W D a.length a) => proof_Steps.calls x.f0 x.f1 B c b D d a (stepsL x b a) 0 W q1 hc q2 hd (by
  unfold proof_Steps.f stepsR
  rw [if_pos hd2, if_pos hm]))
 obtain ⟨k, hk⟩ := (all_ev key l hl hok).rounds
 have HLI := Lib.hid (fun W (q : Kd.C k46 W A0 l.length l) => list_walk key A0 c0 l W q hc0 hl hkey hok)
 have hhl : (htsL key l).length = l.length := by unfold htsL; simp
 have HAL := Lib.hid (fun W A2 c2 (q : Kd.C k46 W A0 l.length l) (q2 : Kd.C (Kd.int .i64) W A2 (htsL key l).length (htsL key l)) (h2 : (htsL key l).length ≤ c2) => QPA.saltusref18_All.calls k A0 c0 l A2 c2 (htsL key l) _ W q hc0 q2 h2 hk)
 rw [hhl] at HAL
 have hSz : ∀ s, s ∈ stepsL x b a → s.size ≤ 5000 := fun s hs => by
  obtain ⟨j, hj, rfl⟩ := List.mem_map.1 hs
  exact stepN_size x b a m1 m2 m3 j (by have := List.mem_range.1 hj; omega)
 have hTz : ∀ t, t ∈ allT (ents key l) → t.size ≤ 1000000 := allT_size _ (by unfold ents; simp; omega) (ents_size key l hok)
 have hTl : (allT (ents key l)).length ≤ 100000 := by have := allT_len (ents key l); unfold ents at this ⊢; simp only [List.length_cons, List.length_map] at this; omega
 have hTp : 0 < (allT (ents key l)).length := by show 0 < ((_ :: _) ++ _ : List ByteArray).length; simp
 have hSl : (stepsL x b a).length = 9 := by unfold stepsL; simp
 have KB := qf kb
 have KA := qf ka
 have HC := qf hr0
 clear hk hd2 m1 m2 m3 hm hr0 kb ka hok hhl
 generalize htsL key l = hs at *
 generalize hAe : allT (ents key l) = T at *
 generalize hSe : stepsL x b a = S at *
 have HSZ := Lib.hid hSz
 have HTZ := Lib.hid hTz
 have HSL := Lib.hid hSl
 clear hAe hSe hSz hTz hSl hlb hla
 have HB := qf (Below.refl w.heap.size w)
 go_enter Tryd.func59, Tryd.ntmps59
 go_upto_region 1 with (fail)
 have X := qf ((Blk.new w 46 #[.int .u64 x.f0, .string x.f1]).alloc (.cells #[.slice B b.length c, .slice D a.length d] 78))
 have P := qf (Blk.new (w.alloc (.cells #[.int .u64 x.f0, .string x.f1] 46)) 78 #[.slice B b.length c, .slice D a.length d])
 rw [World.size_alloc] at P
 have hbn := qa (qa (Below.refl w.heap.size w) (.cells #[.int .u64 x.f0, .string x.f1] 46)) (.cells #[.slice B b.length c, .slice D a.length d] 78)
 replace KB := qf (Kd.C_below KB.out hbn)
 replace KA := qf (Kd.C_below KA.out hbn)
 replace HC := qf (Kd.C_below HC.out hbn)
 replace HB := qf hbn
 clear hbn
 generalize (w.alloc (.cells #[.int .u64 x.f0, .string x.f1] 46)).alloc (.cells #[.slice B b.length c, .slice D a.length d] 78) = w1 at *
 have x0 := X.out.cell 0
 have x1 := X.out.cell 1
 have p0 := P.out.cell 0
 have p1 := P.out.cell 1
 go_upto_region 2 with (go_at_call 53; refine (HS.out _ KB.out KA.out).mono ?_; rintro e w2 ⟨v, rfl, hv, hb2⟩; have VS := qf (Kd.R_mono hv (fun _ h => h)); replace HC := qf (Kd.C_below HC.out hb2); replace HB := qf (below_step HB.out hb2); clear hv hb2)
 clear HS KB KA X P x0 x1 p0 p1
 obtain ⟨g1, k1, rfl, _⟩ := Kd.R_form VS.out (by rw [HSL.out]; decide)
 have hS9 : S.length ≤ 9 := Nat.le_of_eq HSL.out
 have VC := qf (Kd.R_reads' VS.out).2.2
 clear VS
 go_upto_region 5 with (first | (go_at_call 70; refine (HLI.out _ HC.out).mono ?_; rintro e w3 ⟨A2, c2, rfl, h1, h2, h3, hb2⟩; have H1 := qf h1; have H2 := Lib.hid h2; replace HC := qf (Kd.C_below HC.out hb2); replace HB := qf (below_step HB.out hb2); replace VC := qf (Kd.C_below VC.out hb2); clear h1 h2 h3 hb2) | (go_at_call 94; refine (HAL.out _ A2 c2 HC.out H1.out H2.out).mono ?_; rintro e w4 ⟨v, rfl, hv, hb2⟩; have VT := qf (Kd.R_mono hv (fun _ h => h)); replace HB := qf (below_step HB.out hb2); replace VC := qf (Kd.C_below VC.out hb2); clear hv hb2))
 clear HLI HAL HC H1 H2
 obtain ⟨g2, k2, rfl, _⟩ := Kd.R_form VT.out hTp
 have VD := qf (Kd.R_reads' VT.out).2.2
 clear VT
 go_wp2
 go_loopw [30] (fun iv wr => ∃ i : Nat, i ≤ S.length ∧ iv = .int .i64 i ∧ Hid (collB (S.take i) T = false) ∧ Aside0 (Below w4.heap.size w4 wr)) (fun iv _ => S.length - (intOf iv).toNat)
 case atStart => exact ⟨0, Nat.zero_le _, rfl, Lib.hid rfl, ⟨Below.refl _ _⟩⟩
 case round =>
  obtain ⟨i, hi, rfl, HI, HQ⟩ := hrel
  by_cases hlt : i < S.length
  ·have hc1 := strC_cell (Kd.C_below VC.out HQ.out) i hlt hlt
   have HSI := Lib.hid (HSZ.out _ (List.getElem_mem hlt))
   have HNX : Hid (collB (S.take (i + 1)) T = (collB (S.take i) T || T.any fun t => clB S[i] t)) := Lib.hid (any_next _ S i hlt)
   have HHT : Hid ((T.any fun t => clB S[i] t) = true → collB S T = true) := Lib.hid (fun h => any_hit _ S i hlt h)
   have j0 : (0 : Int) ≤ (i : Int) := by omega
   have j1 : (i : Int) < (S.length : Int) := by omega
   generalize S[i] = s at *
   go_wp2
   go_loopw [36] (fun jv wq => ∃ j : Nat, j ≤ T.length ∧ jv = .int .i64 j ∧ Hid ((T.take j).any (fun t => clB s t) = false) ∧ Aside0 (Below w4.heap.size w4 wq)) (fun jv _ => T.length - (intOf jv).toNat)
   case atStart => exact ⟨0, Nat.zero_le _, rfl, Lib.hid rfl, HQ⟩
   case round =>
    clear HQ hc1
    obtain ⟨j, hj, rfl, HJ, HQ⟩ := hrel
    by_cases hlj : j < T.length
    ·have hc2 := strC_cell (Kd.C_below VD.out HQ.out) j hlj hlj
     have HTI := Lib.hid (HTZ.out _ (List.getElem_mem hlj))
     have HNJ : Hid ((T.take (j + 1)).any (fun t => clB s t) = ((T.take j).any (fun t => clB s t) || clB s T[j])) := Lib.hid (any_next _ T j hlj)
     have HHJ : Hid (clB s T[j] = true → (T.any fun t => clB s t) = true) := Lib.hid (fun h => any_hit _ T j hlj h)
     have j2 : (0 : Int) ≤ (j : Int) := by omega
     have j3 : (j : Int) < (T.length : Int) := by omega
     generalize T[j] = t at *
     have HS1 := Lib.hid (fun W => saltusref03_Sum.calls s (sumS s) W (if_pos (by have := HSI.out; show _ ≤ 1099511627776; omega)))
     have HS2 := Lib.hid (fun W => saltusref03_Sum.calls t (sumS t) W (if_pos (by have := HTI.out; show _ ≤ 1099511627776; omega)))
     by_cases h1 : s.toList = t.toList
     ·have b1 : (s.toList == t.toList) = true := by rw [h1, beq_self_eq_true]
      have HV : Hid (clB s t = false) := Lib.hid (by unfold clB; rw [b1]; rfl)
      clear h1
      go_wp2
      go_roundw
      case rel => exact ⟨j + 1, by omega, by go_num, Lib.hid (by rw [HNJ.out, HJ.out, HV.out]; rfl), HQ⟩
      case measure => simp [intOf]; omega
     ·have b1 : (s.toList == t.toList) = false := beq_eq_false_iff_ne.2 h1
      by_cases h2 : (sumS s).toList = (sumS t).toList
      ·have b2 : ((sumS s).toList == (sumS t).toList) = true := by rw [h2, beq_self_eq_true]
       have HV : Hid (collB S T = true) := Lib.hid (HHT.out (HHJ.out (by unfold clB; rw [b1, b2]; rfl)))
       clear h1 h2
       generalize sumS s = y1 at *
       generalize sumS t = y2 at *
       go_wp2_with (first | (go_at_call 45; ((with_reducible refine (HS1.out _).mono ?_); rintro e w5 ⟨rfl, hb2⟩; replace HQ := qf (below_step HQ.out hb2); clear hb2 HS1)) | (go_at_call 45; ((with_reducible refine (HS2.out _).mono ?_); rintro e w5 ⟨rfl, hb2⟩; replace HQ := qf (below_step HQ.out hb2); clear hb2 HS2)))
       go_ret
       exact ⟨by rw [HV.out]; rfl, below_step HB.out HQ.out⟩
      ·have b2 : ((sumS s).toList == (sumS t).toList) = false := beq_eq_false_iff_ne.2 h2
       have HV : Hid (clB s t = false) := Lib.hid (by unfold clB; rw [b1, b2]; rfl)
       clear h1 h2
       generalize sumS s = y1 at *
       generalize sumS t = y2 at *
       go_wp2_with (first | (go_at_call 45; ((with_reducible refine (HS1.out _).mono ?_); rintro e w5 ⟨rfl, hb2⟩; replace HQ := qf (below_step HQ.out hb2); clear hb2 HS1)) | (go_at_call 45; ((with_reducible refine (HS2.out _).mono ?_); rintro e w5 ⟨rfl, hb2⟩; replace HQ := qf (below_step HQ.out hb2); clear hb2 HS2)))
       go_roundw
       case rel => exact ⟨j + 1, by omega, by go_num, Lib.hid (by rw [HNJ.out, HJ.out, HV.out]; rfl), HQ⟩
       case measure => simp [intOf]; omega
    ·obtain rfl : j = T.length := by omega
     go_wp2
     go_roundw
     case rel => exact ⟨i + 1, by omega, by go_num, Lib.hid (by
      have q := HJ.out
      rw [List.take_length] at q
      rw [HNX.out, HI.out, q]
      rfl), HQ⟩
     case measure => simp [intOf]; omega
  ·obtain rfl : i = S.length := by omega
   have HV : Hid (collB S T = false) := Lib.hid (by have := HI.out; rwa [List.take_length] at this)
   go_wp2
   go_ret
   exact ⟨by rw [HV.out]; rfl, below_step HB.out HQ.out⟩
end Go.Proofs.YtolbhliepkcihaaDoor.Lab
end
section
namespace Go.Proofs.YtolbhliepkcihaaDoor
open Go.RowKit YtolbhliepkcihaaDoorW.PrintWords Kinds Build Lab Sha Mac Codec Tower SkipOps SkipPure ProofPure
end Go.Proofs.YtolbhliepkcihaaDoor
end
section
namespace Go.Proofs.YtolbhliepkcihaaDoor.QPC
open Go.RowKit Kinds YtolbhliepkcihaaDoorW.PrintWords YtolbhliepkcihaaDoorW.PrintLast YtolbhliepkcihaaDoorW.PrintMore
attribute [local go_sem] max2_int min2_int max_two min_two max_three min_three max_four min_four   -- for this text's walks alone
set_option linter.unusedVariables false
set_option linter.unusedSimpArgs false
end Go.Proofs.YtolbhliepkcihaaDoor.QPC
end
section
namespace Go.Proofs.YtolbhliepkcihaaDoor.QPC
open Go.RowKit Kinds YtolbhliepkcihaaDoorW.PrintWords YtolbhliepkcihaaDoorW.PrintLast YtolbhliepkcihaaDoorW.PrintMore
attribute [local go_sem] max2_int min2_int max_two min_two max_three min_three max_four min_four   -- for this text's walks alone
set_option linter.unusedVariables false
set_option linter.unusedSimpArgs false
/-! ### saltusref04_Same: function 34 -/
def saltusref04_Same.l0 : Nat → List ByteArray → List ByteArray → Int → Int → Option (Bool)
 | 0, _, _, _, _ => none
 | k + 1, x0, x1, x12, x13 => if x13 < x12 then (if 0 ≤ x13 then (if x13 < (x0.length : Int) then (if x13 < (x1.length : Int) then (if (rdOf ByteArray.empty x0 x13).toList = (rdOf ByteArray.empty x1 x13).toList then (saltusref04_Same.l0 k x0 x1 x12 (wrap64 (x13 + 1))) else (some false)) else (none)) else (none)) else (none)) else (some true)
def saltusref04_Same.f (k : Nat) (l0 : List ByteArray) (l1 : List ByteArray) : Option (Bool) := if (l0.length : Int) = (l1.length : Int) then (saltusref04_Same.l0 k l0 l1 (l0.length : Int) 0) else (some false)
/-! ### saltuslaw18_ProofChecks: function 13 -/
end Go.Proofs.YtolbhliepkcihaaDoor.QPC
end
section
namespace Go.Proofs.YtolbhliepkcihaaDoor.QPC
open Go.RowKit Kinds YtolbhliepkcihaaDoorW.PrintWords YtolbhliepkcihaaDoorW.PrintLast YtolbhliepkcihaaDoorW.PrintMore
attribute [local go_sem] max2_int min2_int max_two min_two max_three min_three max_four min_four   -- for this text's walks alone
set_option linter.unusedVariables false
set_option linter.unusedSimpArgs false
theorem eqA46 (d : Nat) (w : World) (x0 y0 : Int) (x1 y1 : ByteArray) :
  (Op.equalIn (d + 2) 46 (.agg #[.int .u64 x0, .string x1]) (.agg #[.int .u64 y0, .string y1])).run Tryd.prog w = .ok (x0 == y0 && (x1.toList == y1.toList)) w := by
 refine eqA_of Tryd.underlying46 (by kernel_rfl) ?_
 refine eqf_cons (by rfl) (by go_simp; rfl) (by go_simp; rfl) (by go_simp) ?_
 exact eqf_last (by rfl) (by go_simp; rfl) (by go_simp; rfl) (by go_simp)
end Go.Proofs.YtolbhliepkcihaaDoor.QPC
end
section
namespace Go.Proofs.YtolbhliepkcihaaDoor.QPC
open Go.RowKit Kinds YtolbhliepkcihaaDoorW.PrintWords YtolbhliepkcihaaDoorW.PrintLast YtolbhliepkcihaaDoorW.PrintMore
attribute [local go_sem] max2_int min2_int max_two min_two max_three min_three max_four min_four   -- for this text's walks alone
set_option linter.unusedVariables false
set_option linter.unusedSimpArgs false
attribute [local go_sem high] eqA46
/-! ### saltuslaw18_ProofBinds: function 15 -/
end Go.Proofs.YtolbhliepkcihaaDoor.QPC
end
section
namespace Go.Proofs.YtolbhliepkcihaaDoor.ProofLaw
open Go.RowKit QPC YtolbhliepkcihaaDoorW.PrintWords Kinds Build Lab Sha Mac Codec Tower SkipOps SkipPure ProofPure
theorem keysB_take (l : List S46) (hw : ∀ y, y ∈ l → 0 ≤ y.f0 ∧ y.f0 ≤ 18446744073709551615 ∧ y.f1.size ≤ 9223372036854775807) (n : Nat) : keysB (l.take n) = true := by
 unfold keysB
 refine List.all_eq_true.2 fun x hx => ?_
 have := hw x (List.mem_of_mem_take hx)
 simp only [Bool.and_eq_true, decide_eq_true_eq]
 omega
/-! ### ProofBinds -/
end Go.Proofs.YtolbhliepkcihaaDoor.ProofLaw
end
section
namespace Go.Proofs.YtolbhliepkcihaaDoor.ShowLaw
open Go.RowKit YtolbhliepkcihaaDoorW.PrintWords YtolbhliepkcihaaDoorW.PrintLast YtolbhliepkcihaaDoorW.PrintMore Kinds Build Lab Mem Sha Mac Codec Tower SkipOps SkipPure ProofPure ProofLaw
theorem at_l2 (l : List S46) (hn : l.length ≤ 100000) (q : Int) (i : Nat) (hi : i < l.length) (hik : l[i].f0 = q) (hij : ∀ j (hj : j < i), l[j].f0 ≠ q) (d : Nat) : ∀ j, j + d = i → Ev (fun k => QSQ.saltusref16_At.l0 k q l (l.length : Int) (j : Int)) (i : Int) := by
 induction d with
 | zero =>
  intro j hj
  obtain rfl : j = i := by omega
  refine Ev.step (fun k => ?_) (Ev.now _)
  rw [QSQ.saltusref16_At.l0, if_pos (by omega), if_pos (by omega), if_pos (by omega), rd_it l j hi, if_pos hik]
 | succ d ih =>
  intro j hj
  refine Ev.step (fun k => ?_) (ih (j + 1) (by omega))
  rw [QSQ.saltusref16_At.l0, if_pos (by omega), if_pos (by omega), if_pos (by omega), rd_it l j (by omega), if_neg (hij j (by omega)), SkipPure.w_succ j l.length (by omega) (by omega)]
theorem c_at2 (A : Option Addr) (c : Nat) (l : List S46) (hn : l.length ≤ 100000) (q : Int) (i : Nat) (hi : i < l.length) (hik : l[i].f0 = q) (hij : ∀ j (hj : j < i), l[j].f0 ≠ q) (w : World) (h : Kd.C k46 w A l.length l) (hc : l.length ≤ c) :
  Calls Tryd.prog 49 #[.slice A l.length c, .int .u64 q] w fun e w' => e = .returned (.int .i64 (i : Int)) ∧ Below w.heap.size w w' := by
 obtain ⟨k1, e1⟩ := (at_l2 l hn q i hi hik hij i 0 (by omega)).rounds
 exact QSQ.saltusref16_At.calls k1 A c l q _ w h hc e1
theorem first_at (l : List S46) (q : Int) : has l q = true → ∃ i, ∃ hi : i < l.length, l[i].f0 = q ∧ ∀ j (hj : j < i), l[j].f0 ≠ q := by
 induction l with
 | nil => intro h; cases h
 | cons x r ih =>
  intro h
  by_cases e : x.f0 = q
  ·exact ⟨0, by simp, e, fun j hj => absurd hj (by omega)⟩
  ·have h2 : has r q = true := by
    unfold has at h ⊢
    rw [List.any_cons] at h
    have : (x.f0 == q) = false := beq_eq_false_iff_ne.2 e
    rwa [this, Bool.false_or] at h
   obtain ⟨i, hi, e1, e2⟩ := ih h2
   refine ⟨i + 1, by simpa using hi, e1, fun j hj => ?_⟩
   cases j with
   | zero => exact e
   | succ j => exact e2 j (by omega)
theorem only_one (l : List S46) (h : RightP l) (x : S46) (hx : x ∈ l) (i : Nat) (hi : i < l.length) (e : x.f0 = l[i].f0) : x = l[i] := by
 obtain ⟨j, hj, rfl⟩ := List.mem_iff_getElem.1 hx
 have hk : ∀ p (hp : p < l.length), ky l p = l[p].f0 := fun p hp => by unfold ky; rw [it_mem l p hp]
 rcases Nat.lt_trichotomy j i with g | g | g
 ·have := asc l l.length h.1 i j g hi
  rw [hk j hj, hk i hi] at this
  omega
 ·subst g; rfl
 ·have := asc l l.length h.1 j i g hj
  rw [hk j hj, hk i hi] at this
  omega
structure ST (b0 : Nat) (w0 : World) (A0 : Option Addr) (l : List S46) (W : World) : Prop where
 hl : Kd.C k46 W A0 l.length l
 hb : Below b0 w0 W
 hz : b0 ≤ W.heap.size
theorem ST.below {b0 : Nat} {w0 : World} {A0 : Option Addr} {l : List S46} {W W' : World} (t : ST b0 w0 A0 l W) (h : Below W.heap.size W W') : ST b0 w0 A0 l W' :=
 ⟨Kd.C_below t.hl h, t.hb.trans (h.mono t.hz), Nat.le_trans t.hz h.size⟩
structure PK (g : Nat) (B D : Option Addr) (c d : Nat) (b a : ProofPure.Rows) (W : World) : Prop where
 n : Blk W g 78 #[.slice B 8 c, .slice D 8 d]
 kb : Kd.C (Kd.slice 9 Kd.string) W B 8 b
 ka : Kd.C (Kd.slice 9 Kd.string) W D 8 a
theorem PK.below {g : Nat} {B D : Option Addr} {c d : Nat} {b a : ProofPure.Rows} {W W' : World} (t : PK g B D c d b a W) (h : Below W.heap.size W W') : PK g B D c d b a W' :=
 ⟨blk_bel t.n h, Kd.C_below t.kb h, Kd.C_below t.ka h⟩
theorem pk_new {B D : Option Addr} {c d : Nat} {b a : ProofPure.Rows} {W : World} (kb : Kd.C (Kd.slice 9 Kd.string) W B 8 b) (ka : Kd.C (Kd.slice 9 Kd.string) W D 8 a) : PK W.heap.size B D c d b a (W.alloc (.cells #[.slice B 8 c, .slice D 8 d] 78)) :=
 ⟨Blk.new W _ _, Kd.C_alloc kb _, Kd.C_alloc ka _⟩
theorem bel_new (W : World) (o : Obj) : Below W.heap.size W (W.alloc o) := (Below.refl _ _).alloc (Nat.le_refl _) o
theorem bel_drewN (W : World) (n : Nat) : Below W.heap.size W (W.drewN n) := qb (Below.refl _ _) n
set_option maxRecDepth 100000 in
set_option maxHeartbeats 8000000 in
theorem shows_bad (a0 : ByteArray) (A1 : Option Addr) (c1 : Nat) (l0 : List S46) (k : Int) (s : ByteArray) (w : World) (hr0 : Kd.C k46 w A1 l0.length l0) (hc0 : l0.length ≤ c1) (hT0 : TabW w) (hR : ¬RightP (l0.take 12)) :
  Calls Tryd.prog 14 #[.string a0, .slice A1 l0.length c1, .int .u64 k, .string s] w fun e w' => e = .returned (.bool true) ∧ Below w.heap.size w w' := by
 have zm : (l0.take 12).length = min l0.length 12 := by rw [qw, Nat.min_comm]
 have hm : (min (l0.length : Int) 12) = ((l0.take 12).length : Int) := by omega
 have z0 : (l0.take 12).length ≤ 12 := by omega
 have y0 : (l0.take 12).length ≤ c1 := by omega
 have HL := Kd.C_take (m := min l0.length 12) hr0 (by omega)
 have e12 : l0.take (min l0.length 12) = l0.take 12 := by
  rcases Nat.le_total l0.length 12 with h | h
  ·rw [Nat.min_eq_left h, List.take_length, List.take_of_length_le h]
  ·rw [Nat.min_eq_right h]
 rw [e12] at HL
 have T := qf (⟨HL, Below.refl _ _, Nat.le_refl _⟩ : ST w.heap.size w A1 (l0.take 12) w)
 have hk0 : (min (a0.size : Int) 80) = ((min a0.size 80 : Nat) : Int) := by omega
 have hk1 : min a0.size 80 ≤ a0.size := Nat.min_le_left _ _
 have hk2 : (min (s.size : Int) 64) = ((min s.size 64 : Nat) : Int) := by omega
 have hk3 : min s.size 64 ≤ s.size := Nat.min_le_left _ _
 have HT := Lib.hid hT0
 clear hr0 hc0 zm e12 HL hT0
 generalize l0.take 12 = l at *
 obtain ⟨K, hK⟩ : ∃ K, a0.extract 0 (min a0.size 80) = K := ⟨_, rfl⟩
 have GP := Lib.hid (fun W q => prove_bad K A1 c1 l k W q y0 (by omega) hR)
 have GR := Lib.hid (fun W q => Root_bad K A1 c1 l W q y0 (by omega) hR)
 clear hR z0
 go_enter Tryd.func14, Tryd.ntmps14
 go_upto_region 1 with (fail)
 go_quiet (fail)
 rename_i nq
 replace T := qf (T.out.below (bel_drewN w nq))
 generalize w.drewN nq = w1 at *
 go_upto_region 3 with (go_at_call 58; ((with_reducible refine (GP.out _ T.out.hl).mono ?_); rintro e w2 ⟨rfl, hb2⟩; replace T := qf (T.out.below hb2); clear hb2))
 replace T := qf (T.out.below (bel_new w2 (.cells #[.slice none 0 0, .slice none 0 0] 78)))
 generalize w2.alloc (.cells #[.slice none 0 0, .slice none 0 0] 78) = w3 at *
 go_upto_region 4 with (go_at_call 31; ((with_reducible refine (GR.out _ T.out.hl).mono ?_); rintro e w4 ⟨rfl, hb2⟩; replace T := qf (T.out.below hb2); clear hb2))
 go_wp2_with (go_at_call 56; ((with_reducible refine (alive18 _ (tab_below HT.out T.out.hb (Nat.le_refl _))).mono ?_); rintro e w5 ⟨rfl, hb2⟩; replace T := qf (T.out.below hb2); clear hb2))
 go_ret
 exact ⟨by first | rfl | (simp; done), T.out.hb⟩
set_option maxRecDepth 100000 in
set_option maxHeartbeats 8000000 in
theorem shows_none (a0 : ByteArray) (A1 : Option Addr) (c1 : Nat) (l0 : List S46) (k : Int) (s : ByteArray) (w : World) (hr0 : Kd.C k46 w A1 l0.length l0) (hc0 : l0.length ≤ c1) (hT0 : TabW w) (hR : RightP (l0.take 12)) (hok : okL (l0.take 12)) (hh : has (l0.take 12) k = false) :
  Calls Tryd.prog 14 #[.string a0, .slice A1 l0.length c1, .int .u64 k, .string s] w fun e w' => e = .returned (.bool true) ∧ Below w.heap.size w w' := by
 have zm : (l0.take 12).length = min l0.length 12 := by rw [qw, Nat.min_comm]
 have hm : (min (l0.length : Int) 12) = ((l0.take 12).length : Int) := by omega
 have z0 : (l0.take 12).length ≤ 12 := by omega
 have y0 : (l0.take 12).length ≤ c1 := by omega
 have HL := Kd.C_take (m := min l0.length 12) hr0 (by omega)
 have e12 : l0.take (min l0.length 12) = l0.take 12 := by
  rcases Nat.le_total l0.length 12 with h | h
  ·rw [Nat.min_eq_left h, List.take_length, List.take_of_length_le h]
  ·rw [Nat.min_eq_right h]
 rw [e12] at HL
 have T := qf (⟨HL, Below.refl _ _, Nat.le_refl _⟩ : ST w.heap.size w A1 (l0.take 12) w)
 have hk0 : (min (a0.size : Int) 80) = ((min a0.size 80 : Nat) : Int) := by omega
 have hk1 : min a0.size 80 ≤ a0.size := Nat.min_le_left _ _
 have hk2 : (min (s.size : Int) 64) = ((min s.size 64 : Nat) : Int) := by omega
 have hk3 : min s.size 64 ≤ s.size := Nat.min_le_left _ _
 have hkz : (a0.extract 0 (min a0.size 80)).size ≤ 80 := by rw [ByteArray.size_extract]; omega
 have HT := Lib.hid hT0
 clear hr0 hc0 zm e12 HL hT0
 generalize l0.take 12 = l at *
 obtain ⟨K, hK⟩ : ∃ K, a0.extract 0 (min a0.size 80) = K := ⟨_, rfl⟩
 rw [hK] at hkz
 have GP := Lib.hid (fun W q => prove_none K A1 c1 l k W q y0 (by omega) hR hh)
 have GR := Lib.hid (fun W q t => Root_ok K A1 c1 l W q y0 (by omega) (by omega) hok t hR)
 clear hR z0 hok hh hkz
 generalize rootL K l = rt at *
 go_enter Tryd.func14, Tryd.ntmps14
 go_upto_region 1 with (fail)
 go_quiet (fail)
 rename_i nq
 replace T := qf (T.out.below (bel_drewN w nq))
 generalize w.drewN nq = w1 at *
 go_upto_region 3 with (go_at_call 58; ((with_reducible refine (GP.out _ T.out.hl).mono ?_); rintro e w2 ⟨rfl, hb2⟩; replace T := qf (T.out.below hb2); clear hb2))
 have N := qf (Blk.new w2 78 #[.slice none 0 0, .slice none 0 0])
 replace T := qf (T.out.below (bel_new w2 (.cells #[.slice none 0 0, .slice none 0 0] 78)))
 generalize w2.heap.size = g at *
 generalize w2.alloc (.cells #[.slice none 0 0, .slice none 0 0] 78) = w3 at *
 go_upto_region 4 with (go_at_call 31; ((with_reducible refine (GR.out _ T.out.hl (tab_below HT.out T.out.hb (Nat.le_refl _))).mono ?_); rintro e w4 ⟨rfl, hb2⟩; replace T := qf (T.out.below hb2); replace N := qf (blk_bel N.out hb2); clear hb2))
 go_wp2_with (go_at_call 56; ((with_reducible refine (alive18 _ (tab_below HT.out T.out.hb (Nat.le_refl _))).mono ?_); rintro e w5 ⟨rfl, hb2⟩; replace T := qf (T.out.below hb2); replace N := qf (blk_bel N.out hb2); have n0 := N.out.cell 0; have n1 := N.out.cell 1; clear hb2))
 go_ret
 exact ⟨by first | rfl | (simp; done), T.out.hb⟩
set_option maxRecDepth 100000 in
set_option maxHeartbeats 8000000 in
theorem shows_not (a0 : ByteArray) (A1 : Option Addr) (c1 : Nat) (l0 : List S46) (k : Int) (s : ByteArray) (w : World) (hr0 : Kd.C k46 w A1 l0.length l0) (hc0 : l0.length ≤ c1) (hT0 : TabW w) (l : List S46) (hle : l0.take 12 = l) (hR : RightP l) (hok : okL l) (i : Nat) (hi : i < l.length) (hik : l[i].f0 = k) (hij : ∀ j (hj : j < i), l[j].f0 ≠ k)
  (hso : ¬ sumS (stepN ⟨k, s.extract 0 (min s.size 64)⟩ (befR (ents (a0.extract 0 (min a0.size 80)) l) (i + 1)) (aftR (ents (a0.extract 0 (min a0.size 80)) l) (i + 1)) 8) = rootL (a0.extract 0 (min a0.size 80)) l) :
  Calls Tryd.prog 14 #[.string a0, .slice A1 l0.length c1, .int .u64 k, .string s] w fun e w' => e = .returned (.bool true) ∧ Below w.heap.size w w' := by
 have zm : l.length = min l0.length 12 := by rw [← hle, qw, Nat.min_comm]
 have hm : (min (l0.length : Int) 12) = (l.length : Int) := by omega
 have z0 : l.length ≤ 12 := by omega
 have y0 : l.length ≤ c1 := by omega
 have HL := Kd.C_take (m := min l0.length 12) hr0 (by omega)
 have e12 : l0.take (min l0.length 12) = l0.take 12 := by
  rcases Nat.le_total l0.length 12 with h | h
  ·rw [Nat.min_eq_left h, List.take_length, List.take_of_length_le h]
  ·rw [Nat.min_eq_right h]
 rw [e12, hle] at HL
 have T := qf (⟨HL, Below.refl _ _, Nat.le_refl _⟩ : ST w.heap.size w A1 l w)
 have hk0 : (min (a0.size : Int) 80) = ((min a0.size 80 : Nat) : Int) := by omega
 have hk1 : min a0.size 80 ≤ a0.size := Nat.min_le_left _ _
 have hk2 : (min (s.size : Int) 64) = ((min s.size 64 : Nat) : Int) := by omega
 have hk3 : min s.size 64 ≤ s.size := Nat.min_le_left _ _
 have hkz : (a0.extract 0 (min a0.size 80)).size ≤ 80 := by rw [ByteArray.size_extract]; omega
 have hvz : (s.extract 0 (min s.size 64)).size ≤ 64 := by rw [ByteArray.size_extract]; omega
 have HT := Lib.hid hT0
 clear hr0 hc0 zm e12 HL hT0 hle
 obtain ⟨K, hK⟩ : ∃ K, a0.extract 0 (min a0.size 80) = K := ⟨_, rfl⟩
 obtain ⟨v, hv⟩ : ∃ v, s.extract 0 (min s.size 64) = v := ⟨_, rfl⟩
 rw [hK] at hkz hso
 rw [hv] at hvz hso
 have GP := Lib.hid (fun W q t => prove_walk K A1 c1 l k i W q y0 (by omega) (by omega) hok t hR hi hik hij)
 have GR := Lib.hid (fun W q t => Root_ok K A1 c1 l W q y0 (by omega) (by omega) hok t hR)
 have GA := Lib.hid (fun W q => c_at2 A1 c1 l (by omega) k i hi hik hij W q y0)
 have hb8 := bef_len (ents K l) (i + 1)
 have ha8 := aft_len (ents K l) (i + 1)
 have hkr := hok _ (List.getElem_mem hi)
 rw [hik] at hkr
 have hrs := right_size l hR _ (List.getElem_mem hi)
 have m1 := prove_may K l (by omega) (i + 1) l[i].f1 hrs
 have m2 := prove_may K l (by omega) (i + 1) v hvz
 have hrt := prove_root K l i hi
 have hx : l[i] = ⟨k, l[i].f1⟩ := by rw [← hik]
 have hs1 : ((sumS (stepN ⟨k, v⟩ (befR (ents K l) (i + 1)) (aftR (ents K l) (i + 1)) 8)).toList == (rootL K l).toList) = false := beq_eq_false_iff_ne.2 (fun q => hso (Sha.toList_inj q))
 have HS := Lib.hid hs1
 clear hs1 hso
 have HX := Lib.hid hx
 generalize hfe : l[i].f1 = f1 at *
 rw [hx] at hrt
 have GC := Lib.hid (fun W B D c d kb hc ka hd => c_check (rootL K l) ⟨k, f1⟩ B D c d (befR (ents K l) (i + 1)) (aftR (ents K l) (i + 1)) W hb8 ha8 kb hc ka hd hkr.2.1 hkr.2.2 m1)
 have GX := Lib.hid (fun W B D c d kb hc ka hd => c_check (rootL K l) ⟨k, v⟩ B D c d (befR (ents K l) (i + 1)) (aftR (ents K l) (i + 1)) W hb8 ha8 kb hc ka hd hkr.2.1 hkr.2.2 m2)
 rw [hrt] at GC
 clear hok hij hkr hrs m1 m2 hrt hR hkz hvz hb8 ha8 hx
 generalize hbe : befR (ents K l) (i + 1) = b at *
 generalize hae : aftR (ents K l) (i + 1) = a at *
 generalize hre : rootL K l = rt at *
 have HI := Lib.hid (fun W (q : Kd.C k46 W A1 l.length l) => at_T46 q (i : Int) (by omega) (by omega))
 rw [rd_it l i hi, HX.out, Int.toNat_natCast] at HI
 have i0 : (0 : Int) ≤ (i : Int) := by omega
 have i1 : (i : Int) < (l.length : Int) := by omega
 have i2 : decide ((i : Int) < 0) = false := decide_eq_false (by omega)
 clear hi hik hbe hae hre z0 hfe HX
 go_enter Tryd.func14, Tryd.ntmps14
 go_upto_region 1 with (fail)
 go_quiet (fail)
 rename_i nq
 replace T := qf (T.out.below (bel_drewN w nq))
 generalize w.drewN nq = w1 at *
 go_upto_region 3 with (go_at_call 58; ((with_reducible refine (GP.out _ T.out.hl (tab_below HT.out T.out.hb (Nat.le_refl _))).mono ?_); rintro e w2 ⟨B, c, D, d, rfl, hc, hd, kb, ka, hb2⟩; replace T := qf (T.out.below hb2); have KN := qf (pk_new (c := c) (d := d) kb ka); clear kb ka hb2))
 replace T := qf (T.out.below (bel_new w2 (.cells #[.slice B 8 c, .slice D 8 d] 78)))
 generalize w2.heap.size = g at *
 generalize w2.alloc (.cells #[.slice B 8 c, .slice D 8 d] 78) = w3 at *
 go_upto_region 4 with (go_at_call 31; ((with_reducible refine (GR.out _ T.out.hl (tab_below HT.out T.out.hb (Nat.le_refl _))).mono ?_); rintro e w4 ⟨rfl, hb2⟩; replace T := qf (T.out.below hb2); replace KN := qf (KN.out.below hb2); clear hb2))
 go_upto_region 9 with (first | (go_at_call 49; ((with_reducible refine (GA.out _ T.out.hl).mono ?_); rintro e w5 ⟨rfl, hb2⟩; replace T := qf (T.out.below hb2); replace KN := qf (KN.out.below hb2); clear hb2)) | (go_at_call 56; ((with_reducible refine (alive18 _ (tab_below HT.out T.out.hb (Nat.le_refl _))).mono ?_); rintro e w6 ⟨rfl, hb2⟩; replace T := qf (T.out.below hb2); replace KN := qf (KN.out.below hb2); clear hb2)))
 have hbn := (Below.refl w6.heap.size w6).drew
 replace T := qf (T.out.below hbn)
 replace KN := qf (KN.out.below hbn)
 clear hbn
 obtain ⟨ad, e1, x0, x1⟩ := HI.out _ T.out.hl
 subst e1
 have n0 := KN.out.n.cell 0
 have n1 := KN.out.n.cell 1
 go_region_held3 (fun w' => w'.cell? (ad.add (i * 2)) = some (.int .u64 k) ∧ w'.cell? ⟨(ad.add (i * 2)).block, (ad.add (i * 2)).off + 1, none⟩ = some (.string f1) ∧ w'.cell? ⟨g, 0, none⟩ = some (.slice B 8 c) ∧ w'.cell? ⟨g, 1, none⟩ = some (.slice D 8 d))
  (first | exact ⟨x0, x1, n0, n1⟩ | go_keep)
  ((go_at_call 54; refine (GC.out _ B D c d KN.out.kb hc KN.out.ka hd).mono ?_; rintro e w7 ⟨rfl, hb2⟩; rw [beq_self_eq_true]; replace T := qf (T.out.below hb2); replace KN := qf (KN.out.below hb2); replace x0 := (hb2.cell (qd _ _ x0)).trans x0; replace x1 := (hb2.cell (qd _ _ x1)).trans x1; (try clear n0 n1); have n0 := KN.out.n.cell 0; have n1 := KN.out.n.cell 1; clear hb2))
 go_upto_region 11 with (fail)
 have X := qf (Blk.new w7 46 #[.int .u64 k, .string v])
 have hbn := bel_new w7 (.cells #[.int .u64 k, .string v] 46)
 replace T := qf (T.out.below hbn)
 replace KN := qf (KN.out.below hbn)
 clear hbn x0 x1 n0 n1
 generalize w7.heap.size = g2 at *
 generalize w7.alloc (.cells #[.int .u64 k, .string v] 46) = w8 at *
 have n0 := KN.out.n.cell 0
 have n1 := KN.out.n.cell 1
 have y0' := X.out.cell 0
 have y1' := X.out.cell 1
 go_upto_region 12 with (go_at_call 54; refine (GX.out _ B D c d KN.out.kb hc KN.out.ka hd).mono ?_; rintro e w9 ⟨rfl, hb2⟩; rw [HS.out]; replace T := qf (T.out.below hb2); replace KN := qf (KN.out.below hb2); replace X := qf (blk_bel X.out hb2); clear hb2)
 clear n0 n1 y0' y1'
 go_quiet (fail)
 replace T := qf (T.out.below (bel_drewN w9 nq))
 go_wp2
 go_ret
 exact ⟨by first | rfl | (simp; done), T.out.hb⟩
set_option maxRecDepth 100000 in
set_option maxHeartbeats 8000000 in
theorem shows_same (a0 : ByteArray) (A1 : Option Addr) (c1 : Nat) (l0 : List S46) (k : Int) (s : ByteArray) (w : World) (hr0 : Kd.C k46 w A1 l0.length l0) (hc0 : l0.length ≤ c1) (hT0 : TabW w) (l : List S46) (hle : l0.take 12 = l) (hR : RightP l) (hok : okL l) (i : Nat) (hi : i < l.length) (hik : l[i].f0 = k) (hij : ∀ j (hj : j < i), l[j].f0 ≠ k)
  (hsv : l[i].f1 = s.extract 0 (min s.size 64)) :
  Calls Tryd.prog 14 #[.string a0, .slice A1 l0.length c1, .int .u64 k, .string s] w fun e w' => e = .returned (.bool true) ∧ Below w.heap.size w w' := by
 have zm : l.length = min l0.length 12 := by rw [← hle, qw, Nat.min_comm]
 have hm : (min (l0.length : Int) 12) = (l.length : Int) := by omega
 have z0 : l.length ≤ 12 := by omega
 have y0 : l.length ≤ c1 := by omega
 have HL := Kd.C_take (m := min l0.length 12) hr0 (by omega)
 have e12 : l0.take (min l0.length 12) = l0.take 12 := by
  rcases Nat.le_total l0.length 12 with h | h
  ·rw [Nat.min_eq_left h, List.take_length, List.take_of_length_le h]
  ·rw [Nat.min_eq_right h]
 rw [e12, hle] at HL
 have T := qf (⟨HL, Below.refl _ _, Nat.le_refl _⟩ : ST w.heap.size w A1 l w)
 have hk0 : (min (a0.size : Int) 80) = ((min a0.size 80 : Nat) : Int) := by omega
 have hk1 : min a0.size 80 ≤ a0.size := Nat.min_le_left _ _
 have hk2 : (min (s.size : Int) 64) = ((min s.size 64 : Nat) : Int) := by omega
 have hk3 : min s.size 64 ≤ s.size := Nat.min_le_left _ _
 have hkz : (a0.extract 0 (min a0.size 80)).size ≤ 80 := by rw [ByteArray.size_extract]; omega
 have hvz : (s.extract 0 (min s.size 64)).size ≤ 64 := by rw [ByteArray.size_extract]; omega
 have HT := Lib.hid hT0
 clear hr0 hc0 zm e12 HL hT0 hle
 obtain ⟨K, hK⟩ : ∃ K, a0.extract 0 (min a0.size 80) = K := ⟨_, rfl⟩
 obtain ⟨v, hv⟩ : ∃ v, s.extract 0 (min s.size 64) = v := ⟨_, rfl⟩
 rw [hK] at hkz 
 rw [hv] at hvz hsv
 have GP := Lib.hid (fun W q t => prove_walk K A1 c1 l k i W q y0 (by omega) (by omega) hok t hR hi hik hij)
 have GR := Lib.hid (fun W q t => Root_ok K A1 c1 l W q y0 (by omega) (by omega) hok t hR)
 have GA := Lib.hid (fun W q => c_at2 A1 c1 l (by omega) k i hi hik hij W q y0)
 have hb8 := bef_len (ents K l) (i + 1)
 have ha8 := aft_len (ents K l) (i + 1)
 have hkr := hok _ (List.getElem_mem hi)
 rw [hik] at hkr
 have hrs := right_size l hR _ (List.getElem_mem hi)
 have m1 := prove_may K l (by omega) (i + 1) l[i].f1 hrs
 have m2 := prove_may K l (by omega) (i + 1) v hvz
 have hrt := prove_root K l i hi
 have hx : l[i] = ⟨k, l[i].f1⟩ := by rw [← hik]
 have hrt2 : sumS (stepN ⟨k, v⟩ (befR (ents K l) (i + 1)) (aftR (ents K l) (i + 1)) 8) = rootL K l := by rw [← hsv, ← hx]; exact hrt
 have HS : Hid (((sumS (stepN ⟨k, v⟩ (befR (ents K l) (i + 1)) (aftR (ents K l) (i + 1)) 8)).toList == (rootL K l).toList) = true) := Lib.hid (by rw [hrt2, beq_self_eq_true])
 clear hrt2
 have HX := Lib.hid hx
 generalize hfe : l[i].f1 = f1 at *
 rw [hx] at hrt
 have GC := Lib.hid (fun W B D c d kb hc ka hd => c_check (rootL K l) ⟨k, f1⟩ B D c d (befR (ents K l) (i + 1)) (aftR (ents K l) (i + 1)) W hb8 ha8 kb hc ka hd hkr.2.1 hkr.2.2 m1)
 have GX := Lib.hid (fun W B D c d kb hc ka hd => c_check (rootL K l) ⟨k, v⟩ B D c d (befR (ents K l) (i + 1)) (aftR (ents K l) (i + 1)) W hb8 ha8 kb hc ka hd hkr.2.1 hkr.2.2 m2)
 rw [hrt] at GC
 clear hok hij hkr hrs m1 m2 hrt hR hkz hvz hb8 ha8 hx
 generalize hbe : befR (ents K l) (i + 1) = b at *
 generalize hae : aftR (ents K l) (i + 1) = a at *
 generalize hre : rootL K l = rt at *
 have HI := Lib.hid (fun W (q : Kd.C k46 W A1 l.length l) => at_T46 q (i : Int) (by omega) (by omega))
 rw [rd_it l i hi, HX.out, Int.toNat_natCast] at HI
 have i0 : (0 : Int) ≤ (i : Int) := by omega
 have i1 : (i : Int) < (l.length : Int) := by omega
 have i2 : decide ((i : Int) < 0) = false := decide_eq_false (by omega)
 clear hi hik hbe hae hre z0 hfe HX
 subst hsv
 go_enter Tryd.func14, Tryd.ntmps14
 go_upto_region 1 with (fail)
 go_quiet (fail)
 rename_i nq
 replace T := qf (T.out.below (bel_drewN w nq))
 generalize w.drewN nq = w1 at *
 go_upto_region 3 with (go_at_call 58; ((with_reducible refine (GP.out _ T.out.hl (tab_below HT.out T.out.hb (Nat.le_refl _))).mono ?_); rintro e w2 ⟨B, c, D, d, rfl, hc, hd, kb, ka, hb2⟩; replace T := qf (T.out.below hb2); have KN := qf (pk_new (c := c) (d := d) kb ka); clear kb ka hb2))
 replace T := qf (T.out.below (bel_new w2 (.cells #[.slice B 8 c, .slice D 8 d] 78)))
 generalize w2.heap.size = g at *
 generalize w2.alloc (.cells #[.slice B 8 c, .slice D 8 d] 78) = w3 at *
 go_upto_region 4 with (go_at_call 31; ((with_reducible refine (GR.out _ T.out.hl (tab_below HT.out T.out.hb (Nat.le_refl _))).mono ?_); rintro e w4 ⟨rfl, hb2⟩; replace T := qf (T.out.below hb2); replace KN := qf (KN.out.below hb2); clear hb2))
 go_upto_region 9 with (first | (go_at_call 49; ((with_reducible refine (GA.out _ T.out.hl).mono ?_); rintro e w5 ⟨rfl, hb2⟩; replace T := qf (T.out.below hb2); replace KN := qf (KN.out.below hb2); clear hb2)) | (go_at_call 56; ((with_reducible refine (alive18 _ (tab_below HT.out T.out.hb (Nat.le_refl _))).mono ?_); rintro e w6 ⟨rfl, hb2⟩; replace T := qf (T.out.below hb2); replace KN := qf (KN.out.below hb2); clear hb2)))
 have hbn := (Below.refl w6.heap.size w6).drew
 replace T := qf (T.out.below hbn)
 replace KN := qf (KN.out.below hbn)
 clear hbn
 obtain ⟨ad, e1, x0, x1⟩ := HI.out _ T.out.hl
 subst e1
 have n0 := KN.out.n.cell 0
 have n1 := KN.out.n.cell 1
 go_region_held3 (fun w' => w'.cell? (ad.add (i * 2)) = some (.int .u64 k) ∧ w'.cell? ⟨(ad.add (i * 2)).block, (ad.add (i * 2)).off + 1, none⟩ = some (.string f1) ∧ w'.cell? ⟨g, 0, none⟩ = some (.slice B 8 c) ∧ w'.cell? ⟨g, 1, none⟩ = some (.slice D 8 d))
  (first | exact ⟨x0, x1, n0, n1⟩ | go_keep)
  ((go_at_call 54; refine (GC.out _ B D c d KN.out.kb hc KN.out.ka hd).mono ?_; rintro e w7 ⟨rfl, hb2⟩; rw [beq_self_eq_true]; replace T := qf (T.out.below hb2); replace KN := qf (KN.out.below hb2); replace x0 := (hb2.cell (qd _ _ x0)).trans x0; replace x1 := (hb2.cell (qd _ _ x1)).trans x1; (try clear n0 n1); have n0 := KN.out.n.cell 0; have n1 := KN.out.n.cell 1; clear hb2))
 go_upto_region 11 with (fail)
 have X := qf (Blk.new w7 46 #[.int .u64 k, .string f1])
 have hbn := bel_new w7 (.cells #[.int .u64 k, .string f1] 46)
 replace T := qf (T.out.below hbn)
 replace KN := qf (KN.out.below hbn)
 clear hbn x0 x1 n0 n1
 generalize w7.heap.size = g2 at *
 generalize w7.alloc (.cells #[.int .u64 k, .string f1] 46) = w8 at *
 have n0 := KN.out.n.cell 0
 have n1 := KN.out.n.cell 1
 have y0' := X.out.cell 0
 have y1' := X.out.cell 1
 go_upto_region 12 with (go_at_call 54; refine (GX.out _ B D c d KN.out.kb hc KN.out.ka hd).mono ?_; rintro e w9 ⟨rfl, hb2⟩; rw [HS.out]; replace T := qf (T.out.below hb2); replace KN := qf (KN.out.below hb2); replace X := qf (blk_bel X.out hb2); clear hb2)
 clear n0 n1 y0' y1'
 obtain ⟨ad2, e2, x0, x1⟩ := HI.out _ T.out.hl
 cases e2
 have n0 := X.out.cell 0
 have n1 := X.out.cell 1
 have b1 : (k == k) = true := beq_self_eq_true k
 have b2 : (f1.toList == f1.toList) = true := beq_self_eq_true _
 go_quiet (fail)
 replace T := qf (T.out.below (bel_drewN w9 nq))
 go_wp2
 go_ret
 exact ⟨by first | rfl | (simp; done), T.out.hb⟩
set_option maxRecDepth 100000 in
set_option maxHeartbeats 8000000 in
theorem shows_other (a0 : ByteArray) (A1 : Option Addr) (c1 : Nat) (l0 : List S46) (k : Int) (s : ByteArray) (w : World) (hr0 : Kd.C k46 w A1 l0.length l0) (hc0 : l0.length ≤ c1) (hT0 : TabW w) (l : List S46) (hle : l0.take 12 = l) (hR : RightP l) (hok : okL l) (i : Nat) (hi : i < l.length) (hik : l[i].f0 = k) (hij : ∀ j (hj : j < i), l[j].f0 ≠ k)
  (hso : sumS (stepN ⟨k, s.extract 0 (min s.size 64)⟩ (befR (ents (a0.extract 0 (min a0.size 80)) l) (i + 1)) (aftR (ents (a0.extract 0 (min a0.size 80)) l) (i + 1)) 8) = rootL (a0.extract 0 (min a0.size 80)) l) (hsv : ¬ l[i].f1 = s.extract 0 (min s.size 64)) :
  Calls Tryd.prog 14 #[.string a0, .slice A1 l0.length c1, .int .u64 k, .string s] w fun e w' => e = .returned (.bool true) ∧ Below w.heap.size w w' := by
 have zm : l.length = min l0.length 12 := by rw [← hle, qw, Nat.min_comm]
 have hm : (min (l0.length : Int) 12) = (l.length : Int) := by omega
 have z0 : l.length ≤ 12 := by omega
 have y0 : l.length ≤ c1 := by omega
 have HL := Kd.C_take (m := min l0.length 12) hr0 (by omega)
 have e12 : l0.take (min l0.length 12) = l0.take 12 := by
  rcases Nat.le_total l0.length 12 with h | h
  ·rw [Nat.min_eq_left h, List.take_length, List.take_of_length_le h]
  ·rw [Nat.min_eq_right h]
 rw [e12, hle] at HL
 have T := qf (⟨HL, Below.refl _ _, Nat.le_refl _⟩ : ST w.heap.size w A1 l w)
 have hk0 : (min (a0.size : Int) 80) = ((min a0.size 80 : Nat) : Int) := by omega
 have hk1 : min a0.size 80 ≤ a0.size := Nat.min_le_left _ _
 have hk2 : (min (s.size : Int) 64) = ((min s.size 64 : Nat) : Int) := by omega
 have hk3 : min s.size 64 ≤ s.size := Nat.min_le_left _ _
 have hkz : (a0.extract 0 (min a0.size 80)).size ≤ 80 := by rw [ByteArray.size_extract]; omega
 have hvz : (s.extract 0 (min s.size 64)).size ≤ 64 := by rw [ByteArray.size_extract]; omega
 have HT := Lib.hid hT0
 clear hr0 hc0 zm e12 HL hT0 hle
 obtain ⟨K, hK⟩ : ∃ K, a0.extract 0 (min a0.size 80) = K := ⟨_, rfl⟩
 obtain ⟨v, hv⟩ : ∃ v, s.extract 0 (min s.size 64) = v := ⟨_, rfl⟩
 rw [hK] at hkz hso
 rw [hv] at hvz hso hsv
 have GP := Lib.hid (fun W q t => prove_walk K A1 c1 l k i W q y0 (by omega) (by omega) hok t hR hi hik hij)
 have GR := Lib.hid (fun W q t => Root_ok K A1 c1 l W q y0 (by omega) (by omega) hok t hR)
 have GA := Lib.hid (fun W q => c_at2 A1 c1 l (by omega) k i hi hik hij W q y0)
 have hb8 := bef_len (ents K l) (i + 1)
 have ha8 := aft_len (ents K l) (i + 1)
 have hkr := hok _ (List.getElem_mem hi)
 rw [hik] at hkr
 have hrs := right_size l hR _ (List.getElem_mem hi)
 have m1 := prove_may K l (by omega) (i + 1) l[i].f1 hrs
 have m2 := prove_may K l (by omega) (i + 1) v hvz
 have hrt := prove_root K l i hi
 have hx : l[i] = ⟨k, l[i].f1⟩ := by rw [← hik]
 have HS : Hid (((sumS (stepN ⟨k, v⟩ (befR (ents K l) (i + 1)) (aftR (ents K l) (i + 1)) 8)).toList == (rootL K l).toList) = true) := Lib.hid (by rw [hso, beq_self_eq_true])
 obtain ⟨_, o2, o3⟩ := may_ok m2
 have HCO : Hid (collB (stepsL ⟨k, v⟩ (befR (ents K l) (i + 1)) (aftR (ents K l) (i + 1))) (allT (ents K l)) = true) := Lib.hid (by
  cases hcol : collB (stepsL ⟨k, v⟩ (befR (ents K l) (i + 1)) (aftR (ents K l) (i + 1))) (allT (ents K l)) with
  | true => rfl
  | false =>
   have hm := binds K l ⟨k, v⟩ _ _ (fun y hy => ⟨(hok y hy).2.1, (hok y hy).2.2⟩) hkr.2.1 hkr.2.2 o2 o3 hso hcol
   have he := only_one l hR ⟨k, v⟩ hm i hi hik.symm
   exact absurd (by rw [← he]) hsv)
 have hne : ¬ v.toList = l[i].f1.toList := fun q => hsv (Sha.toList_inj q).symm
 have HNV : Hid ((v.toList == l[i].f1.toList) = false) := Lib.hid (beq_eq_false_iff_ne.2 hne)
 clear hso o2 o3 hsv hne
 have HX := Lib.hid hx
 generalize hfe : l[i].f1 = f1 at *
 rw [hx] at hrt
 have GC := Lib.hid (fun W B D c d kb hc ka hd => c_check (rootL K l) ⟨k, f1⟩ B D c d (befR (ents K l) (i + 1)) (aftR (ents K l) (i + 1)) W hb8 ha8 kb hc ka hd hkr.2.1 hkr.2.2 m1)
 have GX := Lib.hid (fun W B D c d kb hc ka hd => c_check (rootL K l) ⟨k, v⟩ B D c d (befR (ents K l) (i + 1)) (aftR (ents K l) (i + 1)) W hb8 ha8 kb hc ka hd hkr.2.1 hkr.2.2 m2)
 have GT := Lib.hid (fun W B D c d (q : Kd.C k46 W A1 l.length l) kb hc ka hd => twice_any K A1 c1 l ⟨k, v⟩ B D c d (befR (ents K l) (i + 1)) (aftR (ents K l) (i + 1)) W q y0 (by omega) (by omega) hok kb hc ka hd hkr.2.1 hkr.2.2 m2)
 rw [HCO.out, hb8, ha8] at GT
 rw [hrt] at GC
 clear hok hij hkr hrs m1 m2 hrt hR hkz hvz hb8 ha8 hx
 generalize hbe : befR (ents K l) (i + 1) = b at *
 generalize hae : aftR (ents K l) (i + 1) = a at *
 generalize hre : rootL K l = rt at *
 have HI := Lib.hid (fun W (q : Kd.C k46 W A1 l.length l) => at_T46 q (i : Int) (by omega) (by omega))
 rw [rd_it l i hi, HX.out, Int.toNat_natCast] at HI
 have i0 : (0 : Int) ≤ (i : Int) := by omega
 have i1 : (i : Int) < (l.length : Int) := by omega
 have i2 : decide ((i : Int) < 0) = false := decide_eq_false (by omega)
 clear hi hik hbe hae hre z0 hfe HX
 clear HCO
 go_enter Tryd.func14, Tryd.ntmps14
 go_upto_region 1 with (fail)
 go_quiet (fail)
 rename_i nq
 replace T := qf (T.out.below (bel_drewN w nq))
 generalize w.drewN nq = w1 at *
 go_upto_region 3 with (go_at_call 58; ((with_reducible refine (GP.out _ T.out.hl (tab_below HT.out T.out.hb (Nat.le_refl _))).mono ?_); rintro e w2 ⟨B, c, D, d, rfl, hc, hd, kb, ka, hb2⟩; replace T := qf (T.out.below hb2); have KN := qf (pk_new (c := c) (d := d) kb ka); clear kb ka hb2))
 replace T := qf (T.out.below (bel_new w2 (.cells #[.slice B 8 c, .slice D 8 d] 78)))
 generalize w2.heap.size = g at *
 generalize w2.alloc (.cells #[.slice B 8 c, .slice D 8 d] 78) = w3 at *
 go_upto_region 4 with (go_at_call 31; ((with_reducible refine (GR.out _ T.out.hl (tab_below HT.out T.out.hb (Nat.le_refl _))).mono ?_); rintro e w4 ⟨rfl, hb2⟩; replace T := qf (T.out.below hb2); replace KN := qf (KN.out.below hb2); clear hb2))
 go_upto_region 9 with (first | (go_at_call 49; ((with_reducible refine (GA.out _ T.out.hl).mono ?_); rintro e w5 ⟨rfl, hb2⟩; replace T := qf (T.out.below hb2); replace KN := qf (KN.out.below hb2); clear hb2)) | (go_at_call 56; ((with_reducible refine (alive18 _ (tab_below HT.out T.out.hb (Nat.le_refl _))).mono ?_); rintro e w6 ⟨rfl, hb2⟩; replace T := qf (T.out.below hb2); replace KN := qf (KN.out.below hb2); clear hb2)))
 have hbn := (Below.refl w6.heap.size w6).drew
 replace T := qf (T.out.below hbn)
 replace KN := qf (KN.out.below hbn)
 clear hbn
 obtain ⟨ad, e1, x0, x1⟩ := HI.out _ T.out.hl
 subst e1
 have n0 := KN.out.n.cell 0
 have n1 := KN.out.n.cell 1
 go_region_held3 (fun w' => w'.cell? (ad.add (i * 2)) = some (.int .u64 k) ∧ w'.cell? ⟨(ad.add (i * 2)).block, (ad.add (i * 2)).off + 1, none⟩ = some (.string f1) ∧ w'.cell? ⟨g, 0, none⟩ = some (.slice B 8 c) ∧ w'.cell? ⟨g, 1, none⟩ = some (.slice D 8 d))
  (first | exact ⟨x0, x1, n0, n1⟩ | go_keep)
  ((go_at_call 54; refine (GC.out _ B D c d KN.out.kb hc KN.out.ka hd).mono ?_; rintro e w7 ⟨rfl, hb2⟩; rw [beq_self_eq_true]; replace T := qf (T.out.below hb2); replace KN := qf (KN.out.below hb2); replace x0 := (hb2.cell (qd _ _ x0)).trans x0; replace x1 := (hb2.cell (qd _ _ x1)).trans x1; (try clear n0 n1); have n0 := KN.out.n.cell 0; have n1 := KN.out.n.cell 1; clear hb2))
 go_upto_region 11 with (fail)
 have X := qf (Blk.new w7 46 #[.int .u64 k, .string v])
 have hbn := bel_new w7 (.cells #[.int .u64 k, .string v] 46)
 replace T := qf (T.out.below hbn)
 replace KN := qf (KN.out.below hbn)
 clear hbn x0 x1 n0 n1
 generalize w7.heap.size = g2 at *
 generalize w7.alloc (.cells #[.int .u64 k, .string v] 46) = w8 at *
 have n0 := KN.out.n.cell 0
 have n1 := KN.out.n.cell 1
 have y0' := X.out.cell 0
 have y1' := X.out.cell 1
 go_upto_region 12 with (go_at_call 54; refine (GX.out _ B D c d KN.out.kb hc KN.out.ka hd).mono ?_; rintro e w9 ⟨rfl, hb2⟩; rw [HS.out]; replace T := qf (T.out.below hb2); replace KN := qf (KN.out.below hb2); replace X := qf (blk_bel X.out hb2); clear hb2)
 clear n0 n1 y0' y1'
 have hbn := (Below.refl w9.heap.size w9).drew
 replace T := qf (T.out.below hbn)
 replace KN := qf (KN.out.below hbn)
 replace X := qf (blk_bel X.out hbn)
 clear hbn
 obtain ⟨ad2, e2, x0, x1⟩ := HI.out _ T.out.hl
 cases e2
 have n0 := X.out.cell 0
 have n1 := X.out.cell 1
 have m0 := KN.out.n.cell 0
 have m1 := KN.out.n.cell 1
 have b1 : (k == k) = true := beq_self_eq_true k
 have b2 := HNV.out
 refine start_ (n := 29) (S := (fun w' : World => w'.cell? (ad.add (i * 2)) = some (.int .u64 k) ∧ w'.cell? ⟨(ad.add (i * 2)).block, (ad.add (i * 2)).off + 1, none⟩ = some (.string f1) ∧ w'.cell? ⟨g, 0, none⟩ = some (.slice B 8 c) ∧ w'.cell? ⟨g, 1, none⟩ = some (.slice D 8 d) ∧ w'.cell? ⟨g2, 0, none⟩ = some (.int .u64 k) ∧ w'.cell? ⟨g2, 1, none⟩ = some (.string v))) (ds := []) (bm 29 0) (by kernel_rfl) rfl rfl ⟨x0, x1, m0, m1, n0, n1⟩ (fun hHeld => ?_)
 clear x0 x1 m0 m1 n0 n1
 refine pure_ (i := 0) (N := some 93) (v := .int .i64 0) (a' := ?_) (bm 29 1) rfl rfl (by kernel_rfl) (fun _ _ _ h => h) (Or.inl ⟨by rfl, ?_⟩) ?_ ?_
 ·intro w'
  go_simp
 rotate_left
 ·simp only [Act.put, qs, qt, qu]
  rfl
 refine pure_ (i := 1) (N := some 94) (v := .bool true) (a' := ?_) (bm 29 3) rfl rfl (by kernel_rfl) (fun _ _ _ h => h) (Or.inl ⟨by rfl, ?_⟩) ?_ ?_
 ·intro w'
  go_simp
 rotate_left
 ·simp only [Act.put, qs, qt, qu]
  rfl
 refine pure_ (i := 2) (N := some 95) (v := .bool true) (a' := ?_) (bm 29 7) rfl rfl (by kernel_rfl) (fun _ _ _ h => h) (Or.inl ⟨by rfl, ?_⟩) ?_ ?_
 ·intro w'
  go_simp
 rotate_left
 ·simp only [Act.put, qs, qt, qu]
  rfl
 refine pure_ (i := 3) (N := some 96) (v := .bool true) (a' := ?_) (bm 29 15) rfl rfl (by kernel_rfl) (fun _ _ _ h => h) (Or.inl ⟨by rfl, ?_⟩) ?_ ?_
 ·intro w'
  go_simp
 rotate_left
 ·simp only [Act.put, qs, qt, qu]
  rfl
 refine pure_ (i := 4) (N := some 97) (v := .bool true) (a' := ?_) (bm 29 31) rfl rfl (by kernel_rfl) (fun _ _ _ h => h) (Or.inl ⟨by rfl, ?_⟩) ?_ ?_
 ·intro w'
  go_simp
 rotate_left
 ·simp only [Act.put, qs, qt, qu]
  rfl
 refine pure_ (i := 5) (N := some 98) (v := .bool true) (a' := ?_) (bm 29 63) rfl rfl (by kernel_rfl) (fun _ _ _ h => h) (Or.inl ⟨by rfl, ?_⟩) ?_ ?_
 ·intro w'
  go_simp
 rotate_left
 ·simp only [Act.put, qs, qt, qu]
  rfl
 refine pure_ (i := 6) (N := some 99) (v := .int .i64 0) (a' := ?_) (bm 29 127) rfl rfl (by kernel_rfl) (fun _ _ _ h => h) (Or.inl ⟨by rfl, ?_⟩) ?_ ?_
 ·intro w'
  go_simp
 rotate_left
 ·simp only [Act.put, qs, qt, qu]
  rfl
 refine pure_ (i := 7) (N := some 100) (v := .bool true) (a' := ?_) (bm 29 255) rfl rfl (by kernel_rfl) (fun _ _ _ h => h) (Or.inl ⟨by rfl, ?_⟩) ?_ ?_
 ·intro w'
  go_simp
 rotate_left
 ·simp only [Act.put, qs, qt, qu]
  rfl
 refine pure_ (i := 8) (N := some 101) (v := .bool true) (a' := ?_) (bm 29 511) rfl rfl (by kernel_rfl) (fun _ _ _ h => h) (Or.inl ⟨by rfl, ?_⟩) ?_ ?_
 ·intro w'
  go_simp
 rotate_left
 ·simp only [Act.put, qs, qt, qu]
  rfl
 refine pure_ (i := 9) (N := some 102) (v := .bool true) (a' := ?_) (bm 29 1023) rfl rfl (by kernel_rfl) (fun _ _ _ h => h) (Or.inl ⟨by rfl, ?_⟩) ?_ ?_
 ·intro w'
  go_simp
 rotate_left
 ·simp only [Act.put, qs, qt, qu]
  rfl
 refine pure_ (i := 10) (N := some 103) (v := .bool true) (a' := ?_) (bm 29 2047) rfl rfl (by kernel_rfl) (fun _ _ _ h => h) (Or.inl ⟨by rfl, ?_⟩) ?_ ?_
 ·intro w'
  go_simp
 rotate_left
 ·simp only [Act.put, qs, qt, qu]
  rfl
 refine pure_ (i := 11) (N := some 104) (v := .bool false) (a' := ?_) (bm 29 4095) rfl rfl (by kernel_rfl) (fun _ _ _ h => h) (Or.inl ⟨by rfl, ?_⟩) ?_ ?_
 ·intro w'
  go_simp
 rotate_left
 ·simp only [Act.put, qs, qt, qu]
  rfl
 refine pure_ (i := 12) (N := some 105) (v := .bool false) (a' := ?_) (bm 29 8191) rfl rfl (by kernel_rfl) (fun _ _ _ h => h) (Or.inl ⟨by rfl, ?_⟩) ?_ ?_
 ·intro w'
  go_simp
 rotate_left
 ·simp only [Act.put, qs, qt, qu]
  rfl
 refine take_ (i := 13) (N := some 106) (v := .agg #[.int .u64 k, .string v]) (a' := ?_) (bm 29 16383) rfl rfl (by kernel_rfl) (fun _ _ _ h => h) (Or.inl ⟨by rfl, ?_⟩) hHeld ?_ ?_
 ·intro w' hSw
  obtain ⟨q0, q1, q2, q3, q4, q5⟩ := hSw
  go_simp
 rotate_left
 ·simp only [Act.put, qs, qt, qu]
  rfl
 refine pure_ (i := 14) (N := some 107) (v := .slice (some ad) l.length c1) (a' := ?_) (bm 29 32767) rfl rfl (by kernel_rfl) (fun _ _ _ h => h) (Or.inl ⟨by rfl, ?_⟩) ?_ ?_
 ·intro w'
  go_simp
 rotate_left
 ·simp only [Act.put, qs, qt, qu]
  rfl
 refine pure_ (i := 15) (N := some 108) (v := .int .i64 (i : Int)) (a' := ?_) (bm 29 65535) rfl rfl (by kernel_rfl) (fun _ _ _ h => h) (Or.inl ⟨by rfl, ?_⟩) ?_ ?_
 ·intro w'
  go_simp
 rotate_left
 ·simp only [Act.put, qs, qt, qu]
  rfl
 refine pure_ (i := 16) (N := some 109) (v := .pointer (some (ad.add (i * 2)))) (a' := ?_) (bm 29 131071) rfl rfl (by kernel_rfl) (fun _ _ _ h => h) (Or.inl ⟨by rfl, ?_⟩) ?_ ?_
 ·intro w'
  go_simp
 rotate_left
 ·simp only [Act.put, qs, qt, qu]
  rfl
 refine take_ (i := 17) (N := some 110) (v := .agg #[.int .u64 k, .string f1]) (a' := ?_) (bm 29 262143) rfl rfl (by kernel_rfl) (fun _ _ _ h => h) (Or.inl ⟨by rfl, ?_⟩) hHeld ?_ ?_
 ·intro w' hSw
  obtain ⟨q0, q1, q2, q3, q4, q5⟩ := hSw
  go_simp
 rotate_left
 ·simp only [Act.put, qs, qt, qu]
  rfl
 refine pure_ (i := 18) (N := some 111) (v := .bool false) (a' := ?_) (bm 29 524287) rfl rfl (by kernel_rfl) (fun _ _ _ h => h) (Or.inl ⟨by rfl, ?_⟩) ?_ ?_
 ·intro w'
  go_simp
 rotate_left
 ·simp only [Act.put, qs, qt, qu]
  rfl
 refine pure_ (i := 19) (N := some 112) (v := .bool false) (a' := ?_) (bm 29 1048575) rfl rfl (by kernel_rfl) (fun _ _ _ h => h) (Or.inl ⟨by rfl, ?_⟩) ?_ ?_
 ·intro w'
  go_simp
 rotate_left
 ·simp only [Act.put, qs, qt, qu]
  rfl
 refine pure_ (i := 20) (N := some 113) (v := .bool false) (a' := ?_) (bm 29 2097151) rfl rfl (by kernel_rfl) (fun _ _ _ h => h) (Or.inl ⟨by rfl, ?_⟩) ?_ ?_
 ·intro w'
  go_simp
 rotate_left
 ·simp only [Act.put, qs, qt, qu]
  rfl
 refine pure_ (i := 21) (N := some 114) (v := .string K) (a' := ?_) (bm 29 4194303) rfl rfl (by kernel_rfl) (fun _ _ _ h => h) (Or.inl ⟨by rfl, ?_⟩) ?_ ?_
 ·intro w'
  go_simp
 rotate_left
 ·simp only [Act.put, qs, qt, qu]
  rfl
 refine pure_ (i := 22) (N := some 115) (v := .slice (some ad) l.length c1) (a' := ?_) (bm 29 8388607) rfl rfl (by kernel_rfl) (fun _ _ _ h => h) (Or.inl ⟨by rfl, ?_⟩) ?_ ?_
 ·intro w'
  go_simp
 rotate_left
 ·simp only [Act.put, qs, qt, qu]
  rfl
 refine take_ (i := 23) (N := some 116) (v := .agg #[.int .u64 k, .string v]) (a' := ?_) (bm 29 16777215) rfl rfl (by kernel_rfl) (fun _ _ _ h => h) (Or.inl ⟨by rfl, ?_⟩) hHeld ?_ ?_
 ·intro w' hSw
  obtain ⟨q0, q1, q2, q3, q4, q5⟩ := hSw
  go_simp
 rotate_left
 ·simp only [Act.put, qs, qt, qu]
  rfl
 refine take_ (i := 24) (N := some 117) (v := .agg #[.slice B 8 c, .slice D 8 d]) (a' := ?_) (bm 29 33554431) rfl rfl (by kernel_rfl) (fun _ _ _ h => h) (Or.inl ⟨by rfl, ?_⟩) hHeld ?_ ?_
 ·intro w' hSw
  obtain ⟨q0, q1, q2, q3, q4, q5⟩ := hSw
  go_simp
 rotate_left
 ·simp only [Act.put, qs, qt, qu]
  rfl
 refine one_ (i := 25) (N := some 118) (bm 29 67108863) rfl rfl (by kernel_rfl) (by decide) (fun K' hK => ?_)
 go_simp
 go_at_call 59
 refine (GT.out _ B D c d T.out.hl KN.out.kb hc KN.out.ka hd).mono ?_
 rintro e wa ⟨rfl, hb2⟩
 replace T := qf (T.out.below hb2)
 have hs := hHeld
 refine hK.out _ _ ⟨(hb2.cell (qd _ _ hs.1)).trans hs.1, (hb2.cell (qd _ _ hs.2.1)).trans hs.2.1, (hb2.cell (qd _ _ hs.2.2.1)).trans hs.2.2.1, (hb2.cell (qd _ _ hs.2.2.2.1)).trans hs.2.2.2.1, (hb2.cell (qd _ _ hs.2.2.2.2.1)).trans hs.2.2.2.2.1, (hb2.cell (qd _ _ hs.2.2.2.2.2)).trans hs.2.2.2.2.2⟩ (fun hHeld2 => ?_)
 clear hK K' hs hHeld hHeld2 hb2
 refine pure_ (i := 26) (N := some 119) (v := .bool true) (a' := ?_) (bm 29 134217727) rfl rfl (by kernel_rfl) (fun _ _ _ h => h) (Or.inl ⟨by rfl, ?_⟩) ?_ ?_
 ·intro w'
  go_simp
 rotate_left
 ·simp only [Act.put, qs, qt, qu]
  rfl
 refine pure_ (i := 27) (N := some 120) (v := .bool true) (a' := ?_) (bm 29 268435455) rfl rfl (by kernel_rfl) (fun _ _ _ h => h) (Or.inl ⟨by rfl, ?_⟩) ?_ ?_
 ·intro w'
  go_simp
 rotate_left
 ·simp only [Act.put, qs, qt, qu]
  rfl
 refine pure_ (i := 28) (N := some 8) (v := .bool true) (a' := ?_) (bm 29 536870911) rfl rfl (by kernel_rfl) (fun _ _ _ h => h) (Or.inl ⟨by rfl, ?_⟩) ?_ ?_
 ·intro w'
  go_simp
 rotate_left
 ·simp only [Act.put, qs, qt, qu]
  rfl
 refine done_ (by kernel_rfl) ?_
 go_wp2
 go_ret
 exact ⟨by first | rfl | (simp; done), T.out.hb⟩
theorem proofShows_row (a0 : ByteArray) (A1 : Option Addr) (c1 : Nat) (l1 : List S46) (a2 : Int) (s : ByteArray) (w : World) (_ : a0.size ≤ 140737488351232) (hr1 : Kd.C k46 w A1 l1.length l1) (hc1 : l1.length ≤ c1) (hw : ∀ y, y ∈ l1 → 0 ≤ y.f0 ∧ y.f0 ≤ 18446744073709551615 ∧ y.f1.size ≤ 9223372036854775807) (_ : (Lit.int .u64 a2).wf = true) (_ : s.size ≤ 140737488351232) (hT0 : TabW w) :
  Calls Tryd.prog 14 #[.string a0, .slice A1 l1.length c1, .int .u64 a2, .string s] w fun e w' => e = .returned (.bool true) ∧ Below w.heap.size w w' := by
 have hks := keysB_take l1 hw 12
 by_cases hR : RightP (l1.take 12)
 ·have hok := okL_of _ hR hks
  cases hh : has (l1.take 12) a2 with
  | false => exact shows_none a0 A1 c1 l1 a2 s w hr1 hc1 hT0 hR hok hh
  | true =>
   obtain ⟨i, hi, hik, hij⟩ := first_at _ a2 hh
   by_cases hso : sumS (stepN ⟨a2, s.extract 0 (min s.size 64)⟩ (befR (ents (a0.extract 0 (min a0.size 80)) (l1.take 12)) (i + 1)) (aftR (ents (a0.extract 0 (min a0.size 80)) (l1.take 12)) (i + 1)) 8) = rootL (a0.extract 0 (min a0.size 80)) (l1.take 12)
   ·by_cases hsv : (l1.take 12)[i].f1 = s.extract 0 (min s.size 64)
    ·exact shows_same a0 A1 c1 l1 a2 s w hr1 hc1 hT0 _ rfl hR hok i hi hik hij hsv
    ·exact shows_other a0 A1 c1 l1 a2 s w hr1 hc1 hT0 _ rfl hR hok i hi hik hij hso hsv
   ·exact shows_not a0 A1 c1 l1 a2 s w hr1 hc1 hT0 _ rfl hR hok i hi hik hij hso
 ·exact shows_bad a0 A1 c1 l1 a2 s w hr1 hc1 hT0 hR
end Go.Proofs.YtolbhliepkcihaaDoor.ShowLaw
end
