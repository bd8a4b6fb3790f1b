/- Joined by a program of this session (wip/pack.py) for this claim: SkipPure2, SkipPure3, QSFx5, SkipPure4. -/
import Derived.Test.YtolbhliepkcihaaDoorKSkipHopsa
section
namespace Go.Proofs.YtolbhliepkcihaaDoor.SkipPure
open Go.RowKit Go.Proofs.YtolbhliepkcihaaDoor.Kinds Go.Proofs.YtolbhliepkcihaaDoor.QSF Go.Proofs.YtolbhliepkcihaaDoorW.PrintWords Go.Proofs.YtolbhliepkcihaaDoorW.PrintLast Go.Proofs.YtolbhliepkcihaaDoorW.PrintMore Go.Proofs.YtolbhliepkcihaaDoor.Sha Go.Proofs.YtolbhliepkcihaaDoor.Mac Go.Proofs.YtolbhliepkcihaaDoor.Codec Go.Proofs.YtolbhliepkcihaaDoor.Tower
def keysOk (l : List Item) : Prop := ∀ y, y ∈ l → 0 ≤ y.f0 ∧ y.f0 ≤ 18446744073709551615
def htsL (key : ByteArray) (l : List Item) : List Int := l.map fun x => ((heightN key x.f0.toNat : Nat) : Int)
theorem hts_len (key : ByteArray) (l : List Item) : (htsL key l).length = l.length := by unfold htsL; rw [List.length_map]
theorem it_mem (l : List Item) (i : Nat) (h : i < l.length) : it l i = l[i] := by
 unfold it rd_T46
 rw [Int.toNat_natCast, List.getD_eq_getElem?_getD, List.getElem?_eq_getElem h]
 rfl
theorem ky_ok {l : List Item} (hk : keysOk l) (i : Nat) (h : i < l.length) : 0 ≤ ky l i ∧ ky l i ≤ 18446744073709551615 := by
 unfold ky
 rw [it_mem l i h]
 exact hk _ (List.getElem_mem h)
theorem hts_at (key : ByteArray) (l : List Item) (i : Nat) (h : i < l.length) : rd (htsL key l) (i : Int) = ((heightN key (ky l i).toNat : Nat) : Int) := by
 unfold rd ky
 rw [it_mem l i h, Int.toNat_natCast, List.getD_eq_getElem?_getD, List.getElem?_eq_getElem (by rw [hts_len]; exact h)]
 simp [htsL]
theorem hts_get (key : ByteArray) (l : List Item) (i : Nat) (h : i < l.length) : (htsL key l)[i]'(by rw [hts_len]; exact h) = ((heightN key (ky l i).toNat : Nat) : Int) := by
 unfold ky
 rw [it_mem l i h]
 simp [htsL]
/-! ### the array of heights is filled -/
theorem fill_set (H : List Int) (i : Nat) (h : i < H.length) : (H.take i ++ List.replicate (H.length - i) 0).set i (H[i]'h) = H.take (i + 1) ++ List.replicate (H.length - (i + 1)) 0 := by
 have hz : (H.take i).length = i := by rw [List.length_take]; omega
 rw [List.set_append_right _ _ (by omega), hz, Nat.sub_self, show H.length - i = (H.length - (i + 1)) + 1 from by omega, List.replicate_succ, List.set_cons_zero, List.take_succ_eq_append_getElem h, List.append_assoc]
 rfl
theorem find_l0 (key : ByteArray) (hkey : key.size ≤ 1000000000) (l : List Item) (hn : l.length ≤ 100000) (hk : keysOk l) (q : Int) (r : Int × List Hop × Int) (hr : Ev (fun k => skip_Find.l1 k l q (htsL key l) (-1) [] 7) r) (d : Nat) : ∀ i, i + d = l.length →
  Ev (fun k => skip_Find.l0 k key l q ((htsL key l).take i ++ List.replicate ((htsL key l).length - i) 0) l (l.length : Int) (i : Int)) r := by
 have hz := hts_len key l
 induction d with
 | zero =>
  intro i hi
  obtain rfl : i = l.length := by omega
  refine Ev.step (fun k => ?_) hr
  rw [skip_Find.l0, if_neg (by omega), ← hz, List.take_length, Nat.sub_self]
  simp
 | succ d ih =>
  intro i hi
  refine Ev.step (fun k => ?_) (ih (i + 1) (by omega))
  have hb := ky_ok hk i (by omega)
  have e1 : tower_Height.f key (ky l i) = some ((heightN key (ky l i).toNat : Nat) : Int) := if_pos ⟨hkey, hb.1, by omega⟩
  have hlen : ((htsL key l).take i ++ List.replicate ((htsL key l).length - i) 0).length = l.length := by
   rw [List.length_append, List.length_take, List.length_replicate]; omega
  rw [skip_Find.l0, if_pos (by omega), if_pos (by omega), if_pos (by omega), show (rd_T46 l (i : Int)).f0 = ky l i from rfl, e1, Option.bind_some, if_pos (by omega), Int.toNat_natCast, w_succ i l.length (by omega) (by omega),
   ← hts_get key l i (by omega), fill_set (htsL key l) i (by omega)]
/-! ### the next one that is above a level -/
def nxF (h : List Int) (L : Int) : Nat → Nat → Nat
 | 0, i => i
 | d + 1, i => if rd h (i : Int) ≤ L then nxF h L d (i + 1) else i
def nx (h : List Int) (L : Int) (i : Nat) : Nat := nxF h L (h.length - i) i
theorem nxF_ge (h : List Int) (L : Int) : ∀ d i, i ≤ nxF h L d i ∧ nxF h L d i ≤ i + d
 | 0, i => ⟨Nat.le_refl _, Nat.le_refl _⟩
 | d + 1, i => by
  unfold nxF
  split
  ·have := nxF_ge h L d (i + 1)
   omega
  ·omega
theorem nx_ge (h : List Int) (L : Int) (i : Nat) (hi : i ≤ h.length) : i ≤ nx h L i ∧ nx h L i ≤ h.length := by
 have := nxF_ge h L (h.length - i) i
 unfold nx
 omega
theorem nx_zero (h : List Int) (i : Nat) (hi : i < h.length) (hp : 0 < rd h (i : Int)) : nx h 0 i = i := by
 unfold nx
 rw [show h.length - i = (h.length - i - 1) + 1 from by omega, nxF, if_neg (by omega)]
theorem find_l2 (l : List Item) (h : List Int) (hl : h.length = l.length) (hn : l.length ≤ 100000) (q : Int) (a : Int) (hops : List Hop) (hh : hops.length ≤ 100000) (L : Nat) (hL : L < 8) (r : Int × List Hop × Int) (d : Nat) : ∀ i, i + d = l.length →
  (¬(nxF h L d i < l.length ∧ ky l (nxF h L d i) ≤ q) → Ev (fun k => skip_Find.l1 k l q h a hops ((L : Int) - 1)) r → Ev (fun k => skip_Find.l2 k l q h a hops (L : Int) (i : Int)) r) ∧
  (nxF h L d i < l.length ∧ ky l (nxF h L d i) ≤ q → Ev (fun k => skip_Find.l1 k l q h ((nxF h L d i : Nat) : Int) (hops ++ [⟨(L : Int), ((nxF h L d i : Nat) : Int)⟩]) (L : Int)) r → Ev (fun k => skip_Find.l2 k l q h a hops (L : Int) (i : Int)) r) := by
 have ew : wrap64 ((L : Int) - 1) = (L : Int) - 1 := by unfold wrap64; omega
 induction d with
 | zero =>
  intro i hi
  obtain rfl : i = l.length := by omega
  refine ⟨fun _ hr => Ev.step (fun k => ?_) hr, fun hc => absurd hc.1 (by show ¬ l.length < l.length; omega)⟩
  rw [skip_Find.l2, if_neg (by omega), if_pos rfl, ew]
 | succ d ih =>
  intro i hi
  by_cases hle : rd h (i : Int) ≤ (L : Int)
  ·have e : nxF h L (d + 1) i = nxF h L d (i + 1) := by rw [nxF, if_pos hle]
   rw [e]
   have st : ∀ k, skip_Find.l2 (k + 1) l q h a hops (L : Int) (i : Int) = skip_Find.l2 k l q h a hops (L : Int) ((i + 1 : Nat) : Int) := fun k => by
    rw [skip_Find.l2, if_pos (by omega), if_pos (by omega), if_pos (by omega), if_pos hle, w_succ i l.length (by omega) (by omega)]
   obtain ⟨g1, g2⟩ := ih (i + 1) (by omega)
   exact ⟨fun hc hr => Ev.step st (g1 hc hr), fun hc hr => Ev.step st (g2 hc hr)⟩
  ·have e : nxF h L (d + 1) i = i := by rw [nxF, if_neg hle]
   rw [e]
   refine ⟨fun hc hr => Ev.step (fun k => ?_) hr, fun hc hr => Ev.step (fun k => ?_) hr⟩
   ·have hq : ¬ ky l i ≤ q := fun h => hc ⟨by omega, h⟩
    rw [skip_Find.l2, if_pos (by omega), if_pos (by omega), if_pos (by omega), if_neg hle, if_neg (by omega), if_pos (show (rd_T46 l (i : Int)).f0 > q by unfold ky it at hq; omega), ew]
   ·have hq := hc.2
    rw [skip_Find.l2, if_pos (by omega), if_pos (by omega), if_pos (by omega), if_neg hle, if_neg (by omega), if_neg (show ¬ (rd_T46 l (i : Int)).f0 > q by unfold ky it at hq; omega), if_pos (by omega)]
/-! ### the search -/
def goS (l : List Item) (q : Int) (h : List Int) : Nat → Nat → Nat → List Hop → Nat × List Hop
 | 0, s, _, hops => (s, hops)
 | _ + 1, s, 0, hops => (s, hops)
 | f + 1, s, L + 1, hops => if nx h L s < l.length ∧ ky l (nx h L s) ≤ q then goS l q h f (nx h L s + 1) (L + 1) (hops ++ [⟨(L : Int), ((nx h L s : Nat) : Int)⟩]) else goS l q h f s L hops
def fin (r : Nat × List Hop) : Int × List Hop × Int := if r.1 = 0 then (0, [], 3) else (((r.1 - 1 : Nat) : Int), r.2, 0)
theorem find_l1 (l : List Item) (h : List Int) (hl : h.length = l.length) (hn : l.length ≤ 50000) (q : Int) (f : Nat) : ∀ s L1 hops, (l.length - s) + L1 < f → s ≤ l.length → L1 ≤ 8 → hops.length ≤ s →
  Ev (fun k => skip_Find.l1 k l q h ((s : Int) - 1) hops ((L1 : Int) - 1)) (fin (goS l q h f s L1 hops)) := by
 induction f with
 | zero => intro s L1 hops hm; omega
 | succ f ih =>
  intro s L1 hops hm hs hL hh
  cases L1 with
  | zero =>
   refine Ev.step (fun k => ?_) (Ev.now _)
   rw [skip_Find.l1, if_neg (by omega), goS]
   unfold fin
   by_cases h0 : s = 0
   ·subst h0
    rw [if_pos (by omega), if_pos rfl]
   ·rw [if_neg (by omega), if_neg h0]
    congr 2
    show (s : Int) - 1 = ((s - 1 : Nat) : Int)
    omega
  | succ L =>
   have ea : wrap64 ((s : Int) - 1 + 1) = (s : Int) := by unfold wrap64; omega
   have st : ∀ k, skip_Find.l1 (k + 1) l q h ((s : Int) - 1) hops (((L + 1 : Nat) : Int) - 1) = skip_Find.l2 k l q h ((s : Int) - 1) hops (L : Int) (s : Int) := fun k => by
    rw [skip_Find.l1, if_pos (by omega), ea]
    congr 1
    omega
   have hz : h.length - s = l.length - s := by omega
   have hg := nx_ge h L s (by omega)
   have e : nx h L s = nxF h L (l.length - s) s := by unfold nx; rw [hz]
   by_cases hc : nx h L s < l.length ∧ ky l (nx h L s) ≤ q
   ·rw [goS, if_pos hc]
    have h2 := (find_l2 l h hl (by omega) q ((s : Int) - 1) hops (by omega) L (by omega) (fin (goS l q h f (nx h L s + 1) (L + 1) (hops ++ [⟨(L : Int), ((nx h L s : Nat) : Int)⟩]))) (l.length - s) s (by omega)).2
    rw [← e] at h2
    refine Ev.step st (h2 hc ?_)
    have h3 := ih (nx h L s + 1) (L + 1) (hops ++ [⟨(L : Int), ((nx h L s : Nat) : Int)⟩]) (by omega) (by omega) (by omega) (by rw [List.length_append, List.length_singleton]; omega)
    rw [show (((nx h L s + 1 : Nat) : Int) - 1) = ((nx h L s : Nat) : Int) from by omega, show (((L + 1 : Nat) : Int) - 1) = (L : Int) from by omega] at h3
    exact h3
   ·rw [goS, if_neg hc]
    have h2 := (find_l2 l h hl (by omega) q ((s : Int) - 1) hops (by omega) L (by omega) (fin (goS l q h f s L hops)) (l.length - s) s (by omega)).1
    rw [← e] at h2
    exact Ev.step st (h2 hc (ih s L hops (by omega) hs (by omega) hh))
theorem find_ev (key : ByteArray) (hkey : key.size ≤ 1000000000) (l : List Item) (hr : RightP l) (hk : keysOk l) (q : Int) :
  Ev (fun k => skip_Find.f k key l q) (fin (goS l q (htsL key l) (l.length + 9) 0 8 [])) := by
 have hn := hr.2
 have hz := hts_len key l
 have h1 : Ev (fun k => skip_Right.f k l) true := by
  rcases right_ev l (by omega) with ⟨_, h⟩ | ⟨h, _⟩
  ·exact h
  ·exact absurd hr h
 have h3 := find_l1 l (htsL key l) hz (by omega) q (l.length + 9) 0 8 [] (by omega) (by omega) (by decide) (by simp)
 rw [show ((0 : Nat) : Int) - 1 = -1 from rfl, show (((8 : Nat) : Int) - 1) = 7 from rfl] at h3
 have h4 := find_l0 key hkey l (by omega) hk q _ h3 l.length 0 (by omega)
 unfold skip_Find.f
 refine Ev.bind (f := fun k t => if t = true then (if 0 ≤ (l.length : Int) then (if ((l.length : Int) : Int).toNat ≤ 35184372088832 then (skip_Find.l0 k key l q (List.replicate ((l.length : Int) : Int).toNat 0) l (l.length : Int) 0) else none) else none) else some (0, [], 1)) h1 ?_
 refine Ev.congr (fun k => ?_) h4
 rw [if_pos rfl, if_pos (by omega), if_pos (by omega), Int.toNat_natCast, List.take_zero, List.nil_append, Nat.sub_zero, hz]
 rfl
theorem find_no (key : ByteArray) (l : List Item) (hn : l.length ≤ 100000) (hr : ¬RightP l) (q : Int) : Ev (fun k => skip_Find.f k key l q) (0, [], 1) := by
 have h1 : Ev (fun k => skip_Right.f k l) false := by
  rcases right_ev l hn with ⟨h, _⟩ | ⟨_, h⟩
  ·exact absurd h hr
  ·exact h
 unfold skip_Find.f
 refine Ev.bind (f := fun k t => if t = true then (if 0 ≤ (l.length : Int) then (if ((l.length : Int) : Int).toNat ≤ 35184372088832 then (skip_Find.l0 k key l q (List.replicate ((l.length : Int) : Int).toNat 0) l (l.length : Int) 0) else none) else none) else some (0, [], 1)) h1 ?_
 refine Ev.congr (fun k => ?_) (Ev.now _)
 rw [if_neg (by decide)]
end Go.Proofs.YtolbhliepkcihaaDoor.SkipPure
end
section
namespace Go.Proofs.YtolbhliepkcihaaDoor.SkipPure
open Go.RowKit Go.Proofs.YtolbhliepkcihaaDoor.Kinds Go.Proofs.YtolbhliepkcihaaDoor.QSF Go.Proofs.YtolbhliepkcihaaDoorW.PrintWords Go.Proofs.YtolbhliepkcihaaDoorW.PrintLast Go.Proofs.YtolbhliepkcihaaDoorW.PrintMore Go.Proofs.YtolbhliepkcihaaDoor.Sha Go.Proofs.YtolbhliepkcihaaDoor.Mac Go.Proofs.YtolbhliepkcihaaDoor.Codec Go.Proofs.YtolbhliepkcihaaDoor.Tower
def hp (hops : List Hop) (i : Nat) : Hop := rd_T48 hops (i : Int)
theorem hp_old (hops : List Hop) (z : Hop) (i : Nat) (h : i < hops.length) : hp (hops ++ [z]) i = hp hops i := by
 unfold hp rd_T48
 rw [Int.toNat_natCast, List.getD_eq_getElem?_getD, List.getD_eq_getElem?_getD, List.getElem?_append_left h]
theorem hp_new (hops : List Hop) (z : Hop) : hp (hops ++ [z]) hops.length = z := by
 unfold hp rd_T48
 rw [Int.toNat_natCast, List.getD_eq_getElem?_getD, List.getElem?_append_right (Nat.le_refl _), Nat.sub_self]
 rfl
structure GoodH (s L1 : Nat) (hops : List Hop) : Prop where
 some_ : 0 < s → 0 < hops.length
 none_ : s = 0 → hops = []
 last_ : 0 < hops.length → (hp hops (hops.length - 1)).f1 = (s : Int) - 1
 levels : ∀ i, i < hops.length → 0 ≤ (hp hops i).f0 ∧ (hp hops i).f0 < 8 ∧ (L1 : Int) - 1 ≤ (hp hops i).f0
 chain : ∀ i, 0 < i → i < hops.length → (hp hops (i - 1)).f1 < (hp hops i).f1 ∧ (hp hops i).f0 ≤ (hp hops (i - 1)).f0
theorem GoodH.down {s L : Nat} {hops : List Hop} (h : GoodH s (L + 1) hops) : GoodH s L hops :=
 ⟨h.some_, h.none_, h.last_, fun i hi => by have := h.levels i hi; omega, h.chain⟩
theorem GoodH.hop {s L x : Nat} {hops : List Hop} (h : GoodH s (L + 1) hops) (hL : L < 8) (hx : s ≤ x) : GoodH (x + 1) (L + 1) (hops ++ [⟨(L : Int), (x : Int)⟩]) := by
 have hz : (hops ++ [(⟨(L : Int), (x : Int)⟩ : Hop)]).length = hops.length + 1 := by simp
 refine ⟨fun _ => by omega, fun h0 => by omega, fun _ => ?_, fun i hi => ?_, fun i h0 hi => ?_⟩
 ·rw [hz, show hops.length + 1 - 1 = hops.length from rfl, hp_new]
  show (x : Int) = ((x + 1 : Nat) : Int) - 1
  omega
 ·by_cases e : i = hops.length
  ·subst e
   rw [hp_new]
   show 0 ≤ (L : Int) ∧ (L : Int) < 8 ∧ ((L + 1 : Nat) : Int) - 1 ≤ (L : Int)
   omega
  ·rw [hp_old _ _ _ (by omega)]
   exact h.levels i (by omega)
 ·by_cases e : i = hops.length
  ·subst e
   rw [hp_new, hp_old _ _ _ (by omega)]
   have h1 := h.last_ h0
   have h2 := h.levels (hops.length - 1) (by omega)
   show (hp hops (hops.length - 1)).f1 < (x : Int) ∧ (L : Int) ≤ (hp hops (hops.length - 1)).f0
   omega
  ·rw [hp_old _ _ _ (by omega), hp_old _ _ _ (by omega)]
   exact h.chain i h0 (by omega)
theorem go_spec (l : List Item) (q : Int) (h : List Int) (hl : h.length = l.length) (hpos : ∀ i, i < l.length → 0 < rd h (i : Int)) (f : Nat) : ∀ s L1 hops, (l.length - s) + L1 < f → s ≤ l.length → L1 ≤ 8 → (s = 0 ∨ ky l (s - 1) ≤ q) → (L1 = 0 → s = l.length ∨ q < ky l s) → GoodH s L1 hops →
  (goS l q h f s L1 hops).1 ≤ l.length ∧ ((goS l q h f s L1 hops).1 = 0 ∨ ky l ((goS l q h f s L1 hops).1 - 1) ≤ q) ∧ ((goS l q h f s L1 hops).1 = l.length ∨ q < ky l (goS l q h f s L1 hops).1) ∧ GoodH (goS l q h f s L1 hops).1 0 (goS l q h f s L1 hops).2 := by
 induction f with
 | zero => intro s L1 hops hm; omega
 | succ f ih =>
  intro s L1 hops hm hs hL hq1 hq2 hg
  cases L1 with
  | zero => exact ⟨hs, hq1, hq2 rfl, hg⟩
  | succ L =>
   have hx := nx_ge h L s (by omega)
   by_cases hc : nx h L s < l.length ∧ ky l (nx h L s) ≤ q
   ·rw [goS, if_pos hc]
    exact ih (nx h L s + 1) (L + 1) _ (by omega) (by omega) hL (.inr hc.2) (fun e => absurd e (by omega)) (hg.hop (by omega) hx.1)
   ·rw [goS, if_neg hc]
    refine ih s L hops (by omega) hs (by omega) hq1 (fun e => ?_) hg.down
    subst e
    by_cases hsn : s < l.length
    ·have e0 := nx_zero h s (by omega) (hpos s hsn)
     rw [show ((0 : Nat) : Int) = 0 from rfl, e0] at hc
     exact .inr (by
      have : ¬ ky l s ≤ q := fun h => hc ⟨hsn, h⟩
      omega)
    ·exact .inl (by omega)
theorem hts_pos (key : ByteArray) (l : List Item) (i : Nat) (h : i < l.length) : 0 < rd (htsL key l) (i : Int) := by
 rw [hts_at key l i h]
 have := height_lo key (ky l i).toNat
 omega
def endS (key : ByteArray) (l : List Item) (q : Int) : Nat × List Hop := goS l q (htsL key l) (l.length + 9) 0 8 []
theorem end_spec (key : ByteArray) (l : List Item) (q : Int) :
  (endS key l q).1 ≤ l.length ∧ ((endS key l q).1 = 0 ∨ ky l ((endS key l q).1 - 1) ≤ q) ∧ ((endS key l q).1 = l.length ∨ q < ky l (endS key l q).1) ∧ GoodH (endS key l q).1 0 (endS key l q).2 :=
 go_spec l q (htsL key l) (hts_len key l) (hts_pos key l) (l.length + 9) 0 8 [] (by omega) (by omega) (by decide) (.inl rfl) (fun e => absurd e (by decide))
  ⟨fun h => absurd h (by decide), fun _ => rfl, fun h => absurd h (by decide), fun i hi => absurd hi (by simp), fun i _ hi => absurd hi (by simp)⟩
theorem split_at (l : List Item) (hr : RightP l) (q : Int) (m : Nat) (_ : m ≤ l.length) (h1 : m = 0 ∨ ky l (m - 1) ≤ q) (h2 : m = l.length ∨ q < ky l m) : (∀ i, i < m → ky l i ≤ q) ∧ (∀ i, m ≤ i → i < l.length → ¬ky l i ≤ q) := by
 refine ⟨fun i hi => ?_, fun i hi hil => ?_⟩
 ·rcases h1 with h1 | h1
  ·omega
  ·by_cases e : i = m - 1
   ·subst e; exact h1
   ·have := asc l l.length hr.1 (m - 1) i (by omega) (by omega)
    omega
 ·rcases h2 with h2 | h2
  ·omega
  ·by_cases e : i = m
   ·subst e; omega
   ·have := asc l l.length hr.1 i m (by omega) hil
    omega
theorem go_hops (l : List Item) (q : Int) (h : List Int) (hl : h.length = l.length) (f : Nat) : ∀ s L1 hops, s ≤ l.length → hops.length ≤ s → (goS l q h f s L1 hops).2.length ≤ l.length := by
 induction f with
 | zero => intro s L1 hops h1 h2; show hops.length ≤ l.length; omega
 | succ f ih =>
  intro s L1 hops h1 h2
  cases L1 with
  | zero => show hops.length ≤ l.length; omega
  | succ L =>
   have hx := nx_ge h L s (by omega)
   rw [goS]
   split
   ·exact ih _ _ _ (by omega) (by rw [List.length_append, List.length_singleton]; omega)
   ·exact ih _ _ _ h1 h2
theorem end_hops (key : ByteArray) (l : List Item) (q : Int) : (endS key l q).2.length ≤ l.length := go_hops l q _ (hts_len key l) _ 0 8 [] (by omega) (by simp)
/-! ### a known search -/
def three : List Item := [⟨3, ⟨#[]⟩⟩, ⟨5, ⟨#[]⟩⟩, ⟨9, ⟨#[]⟩⟩]
theorem three_right : RightP three := by
 refine ⟨fun i hi => ?_, by decide⟩
 have hi : i < 3 := hi
 match i, hi with
 | 0, _ => exact ⟨by decide, fun h => absurd h (by decide)⟩
 | 1, _ => exact ⟨by decide, fun _ => by decide⟩
 | 2, _ => exact ⟨by decide, fun _ => by decide⟩
theorem three_keys : keysOk three := by
 intro y hy
 simp only [three, List.mem_cons, List.mem_nil_iff, or_false] at hy
 rcases hy with rfl | rfl | rfl <;> decide
theorem three_end (key : ByteArray) : (endS key three 6).1 = 2 := by
 obtain ⟨g1, g2, g3, _⟩ := end_spec key three 6
 obtain ⟨s1, s2⟩ := split_at three three_right 6 _ g1 g2 g3
 have hl : three.length = 3 := rfl
 rw [hl] at g1
 generalize (endS key three 6).1 = m at *
 have k0 : ky three 0 ≤ 6 := by decide
 have k1 : ky three 1 ≤ 6 := by decide
 have k2 : ¬ky three 2 ≤ 6 := by decide
 by_cases e0 : m ≤ 1
 ·exact absurd k1 (s2 1 e0 (by decide))
 ·by_cases e3 : 2 < m
  ·exact absurd (s1 2 e3) k2
  ·omega
theorem alive16 : Ev (fun k => saltuslaw16_alive.f k) true := by
 have h := find_ev ⟨#[107]⟩ (by decide) three three_right three_keys 6
 have he := three_end ⟨#[107]⟩
 obtain ⟨_, _, _, hg⟩ := end_spec ⟨#[107]⟩ three 6
 rw [he] at hg
 have hs := hg.some_ (by decide)
 have e1 : fin (goS three 6 (htsL ⟨#[107]⟩ three) (three.length + 9) 0 8 []) = (1, (endS ⟨#[107]⟩ three 6).2, 0) := by
  have : (goS three 6 (htsL ⟨#[107]⟩ three) (three.length + 9) 0 8 []).1 = 2 := he
  unfold fin
  rw [if_neg (by omega), this]
  rfl
 rw [e1] at h
 obtain ⟨K, h⟩ := h
 refine ⟨K, fun k hk => ?_⟩
 have h2 : skip_Find.f k ⟨#[107]⟩ three 6 = some (1, (endS ⟨#[107]⟩ three 6).2, 0) := h k hk
 show saltuslaw16_alive.f k = some true
 unfold saltuslaw16_alive.f
 rw [show ([(⟨3, (⟨#[]⟩ : ByteArray)⟩ : S46), (⟨5, (⟨#[]⟩ : ByteArray)⟩ : S46), (⟨9, (⟨#[]⟩ : ByteArray)⟩ : S46)] : List S46) = three from rfl, h2, Option.bind_some]
 dsimp only
 clear h2 h e1 hg he
 generalize (endS ⟨#[107]⟩ three 6).2 = hops at *
 rw [if_pos rfl, if_pos rfl, decide_eq_true (show (hops.length : Int) > 0 by omega)]
/-! ### the laws -/
theorem take_keys {l : List Item} (h : keysOk l) (n : Nat) : keysOk (l.take n) := fun y hy => h y (List.mem_of_mem_take hy)
theorem find_some (key : ByteArray) (hkey : key.size ≤ 1000) (l : List Item) (hl : l.length ≤ 1000) (hk : keysOk l) (q : Int) :
  (RightP l ∧ Ev (fun k => skip_Find.f k key l q) (fin (endS key l q))) ∨ (¬RightP l ∧ Ev (fun k => skip_Find.f k key l q) (0, [], 1)) := by
 rcases refright_ev l (by omega) with ⟨hr, _⟩ | ⟨hr, _⟩
 ·exact .inl ⟨hr, find_ev key (by omega) l hr hk q⟩
 ·exact .inr ⟨hr, find_no key l (by omega) hr q⟩
end Go.Proofs.YtolbhliepkcihaaDoor.SkipPure
end
section
namespace Go.Proofs.YtolbhliepkcihaaDoor.QSF
open Go.RowKit Go.Proofs.YtolbhliepkcihaaDoor.Kinds Go.Proofs.YtolbhliepkcihaaDoorW.PrintWords Go.Proofs.YtolbhliepkcihaaDoorW.PrintLast Go.Proofs.YtolbhliepkcihaaDoorW.PrintMore
attribute [local go_sem] max2_int min2_int max_two min_two max_three min_three max_four min_four   -- for this text's walks alone
set_option linter.unusedVariables false
set_option linter.unusedSimpArgs false
/-! ### saltuslaw16_SkipHops: function 7 -/
mutual
def saltuslaw16_SkipHops.j0 : Nat → List (S48) → Bool → Option (Bool)
 | 0, _, _ => none
 | k + 1, x8, x104 => if x104 = true then (some false) else (saltuslaw16_SkipHops.l0 k x8 x8 (x8.length : Int) 0)
def saltuslaw16_SkipHops.l0 : Nat → List (S48) → List (S48) → Int → Int → Option (Bool)
 | 0, _, _, _, _ => none
 | k + 1, x8, x105, x106, x107 => if x107 < x106 then (if 0 ≤ x107 then (if x107 < (x105.length : Int) then (if ((rd_T48 x105 x107).f0) < 0 then (some false) else (if ((rd_T48 x105 x107).f0) ≥ 8 then (some false) else (if x107 > 0 then (if 0 ≤ (wrap64 (x107 - 1)) then (if (wrap64 (x107 - 1)) < (x8.length : Int) then (if ((rd_T48 x8 (wrap64 (x107 - 1))).f1) ≥ ((rd_T48 x105 x107).f1) then (some false) else (if ((rd_T48 x8 (wrap64 (x107 - 1))).f0) < ((rd_T48 x105 x107).f0) then (some false) else (saltuslaw16_SkipHops.l0 k x8 x105 x106 (wrap64 (x107 + 1))))) else (none)) else (none)) else (saltuslaw16_SkipHops.l0 k x8 x105 x106 (wrap64 (x107 + 1)))))) else (none)) else (none)) else (some true)
end
def saltuslaw16_SkipHops.f (k : Nat) (a0 : ByteArray) (l1 : List (S46)) (a2 : Int) : Option (Bool) := if 0 ≤ (mn (a0.size : Int) 80) then (if (mn (a0.size : Int) 80) ≤ (a0.size : Int) then (if 0 ≤ (mn (l1.length : Int) 20) then (if (mn (l1.length : Int) 20) ≤ (l1.length : Int) then ((some (l1.take ((mn (l1.length : Int) 20) : Int).toNat : List (S46))).bind fun y191 => ((skip_Find.f k (a0.extract 0 ((mn (a0.size : Int) 80) : Int).toNat) y191 a2).bind fun bt195 => (if bt195.2.2 = 0 then (if (bt195.2.1.length : Int) = 0 then (saltuslaw16_SkipHops.j0 k bt195.2.1 true) else (if 0 ≤ (wrap64 ((bt195.2.1.length : Int) - 1)) then (if (wrap64 ((bt195.2.1.length : Int) - 1)) < (bt195.2.1.length : Int) then (if ((rd_T48 bt195.2.1 (wrap64 ((bt195.2.1.length : Int) - 1))).f1) = bt195.1 then (if bt195.1 ≥ (y191.length : Int) then (saltuslaw16_SkipHops.j0 k bt195.2.1 true) else (if 0 ≤ bt195.1 then (if bt195.1 < (y191.length : Int) then (if ((rd_T46 y191 bt195.1).f0) > a2 then (saltuslaw16_SkipHops.j0 k bt195.2.1 true) else (if (wrap64 (bt195.1 + 1)) < (y191.length : Int) then (if 0 ≤ (wrap64 (bt195.1 + 1)) then (if ((rd_T46 y191 (wrap64 (bt195.1 + 1))).f0) ≤ a2 then (saltuslaw16_SkipHops.j0 k bt195.2.1 true) else ((saltuslaw16_alive.f k).bind fun t205 => (saltuslaw16_SkipHops.j0 k bt195.2.1 (!t205)))) else (none)) else ((saltuslaw16_alive.f k).bind fun t206 => (saltuslaw16_SkipHops.j0 k bt195.2.1 (!t206))))) else (none)) else (none))) else (saltuslaw16_SkipHops.j0 k bt195.2.1 true)) else (none)) else (none))) else ((saltuslaw16_alive.f k).bind fun t200 => (if t200 = true then (if (bt195.2.1.length : Int) = 0 then (if bt195.2.2 = 1 then (some true) else (if (y191.length : Int) = 0 then (some true) else (if 0 < (y191.length : Int) then (some (decide (((rd_T46 y191 0).f0) > a2))) else (none)))) else (some false)) else (some false)))))) else (none)) else (none)) else (none)) else (none)
theorem saltuslaw16_SkipHops.mono_l : ∀ k, (∀ y0 y1, LeO (saltuslaw16_SkipHops.j0 k y0 y1) (saltuslaw16_SkipHops.j0 (k + 1) y0 y1)) ∧ (∀ y0 y1 y2 y3, LeO (saltuslaw16_SkipHops.l0 k y0 y1 y2 y3) (saltuslaw16_SkipHops.l0 (k + 1) y0 y1 y2 y3))
 | 0 => ⟨fun _ _ r h => by simp [saltuslaw16_SkipHops.j0] at h, fun _ _ _ _ r h => by simp [saltuslaw16_SkipHops.l0] at h⟩
 | k + 1 => by
  obtain ⟨ih0, ih1⟩ := saltuslaw16_SkipHops.mono_l k
  refine ⟨?_, ?_⟩
  ·intro y0 y1
   unfold saltuslaw16_SkipHops.j0
   repeat' first
   | (with_reducible exact ih0 _ _)
   | (with_reducible exact ih1 _ _ _ _)
   | (with_reducible exact saltuslaw16_alive.mono _)
   | (with_reducible exact skip_Find.mono _ _ _ _)
   | (with_reducible exact LeO.refl _)
   | (with_reducible exact LeO.none _)
   | (with_reducible refine LeO.ite ?_ ?_)
   | (with_reducible refine LeO.bind ?_ (fun _ => ?_))
   | exact ih0 _ _
   | exact ih1 _ _ _ _
   | exact saltuslaw16_alive.mono _
   | exact skip_Find.mono _ _ _ _
   | exact LeO.none _
   | refine LeO.ite ?_ ?_
   | refine LeO.bind ?_ (fun _ => ?_)
  ·intro y0 y1 y2 y3
   unfold saltuslaw16_SkipHops.l0
   repeat' first
   | (with_reducible exact ih0 _ _)
   | (with_reducible exact ih1 _ _ _ _)
   | (with_reducible exact saltuslaw16_alive.mono _)
   | (with_reducible exact skip_Find.mono _ _ _ _)
   | (with_reducible exact LeO.refl _)
   | (with_reducible exact LeO.none _)
   | (with_reducible refine LeO.ite ?_ ?_)
   | (with_reducible refine LeO.bind ?_ (fun _ => ?_))
   | exact ih0 _ _
   | exact ih1 _ _ _ _
   | exact saltuslaw16_alive.mono _
   | exact skip_Find.mono _ _ _ _
   | exact LeO.none _
   | refine LeO.ite ?_ ?_
   | refine LeO.bind ?_ (fun _ => ?_)
theorem saltuslaw16_SkipHops.mono : ∀ a0 a1 a2 k, LeO (saltuslaw16_SkipHops.f k a0 a1 a2) (saltuslaw16_SkipHops.f (k + 1) a0 a1 a2) := by
 intro a0 a1 a2 k
 obtain ⟨ih0, ih1⟩ := saltuslaw16_SkipHops.mono_l k
 unfold saltuslaw16_SkipHops.f
 repeat' first
   | (with_reducible exact ih0 _ _)
   | (with_reducible exact ih1 _ _ _ _)
   | (with_reducible exact saltuslaw16_alive.mono _)
   | (with_reducible exact skip_Find.mono _ _ _ _)
   | (with_reducible exact LeO.refl _)
   | (with_reducible exact LeO.none _)
   | (with_reducible refine LeO.ite ?_ ?_)
   | (with_reducible refine LeO.bind ?_ (fun _ => ?_))
   | exact ih0 _ _
   | exact ih1 _ _ _ _
   | exact saltuslaw16_alive.mono _
   | exact skip_Find.mono _ _ _ _
   | exact LeO.none _
   | refine LeO.ite ?_ ?_
   | refine LeO.bind ?_ (fun _ => ?_)
set_option maxHeartbeats 8000000 in
set_option maxRecDepth 100000 in
theorem saltuslaw16_SkipHops.calls (k : Nat) (a0 : ByteArray) (A1 : Option Addr) (c1 : Nat) (l1 : List (S46)) (a2 : Int) (r : Bool) (w : World) (hr1 : Kd.C k46 w A1 l1.length l1) (hc1 : l1.length ≤ c1) (hr : Aside0 (r = true)) (h : saltuslaw16_SkipHops.f k a0 l1 a2 = some r) (hT0 : Tower.TabW w) :
  Calls Tryd.prog 7 #[.string a0, .slice A1 l1.length c1, .int .u64 a2] w fun e w' => e = .returned (.bool r) ∧ Below w.heap.size w w' := by
 have HT := Aside0.mk hT0
 clear hT0
 have hu48 := Tryd.underlying48
 have HR1 := Aside0.mk hr1
 have HC1 := Aside0.mk hc1
 clear hr1 hc1
 have HB := Aside0.mk (Below.refl w.heap.size w)
 have H : (if 0 ≤ (mn (a0.size : Int) 80) then (if (mn (a0.size : Int) 80) ≤ (a0.size : Int) then (if 0 ≤ (mn (l1.length : Int) 20) then (if (mn (l1.length : Int) 20) ≤ (l1.length : Int) then ((some (l1.take ((mn (l1.length : Int) 20) : Int).toNat : List (S46))).bind fun y191 => ((skip_Find.f k (a0.extract 0 ((mn (a0.size : Int) 80) : Int).toNat) y191 a2).bind fun bt195 => (if bt195.2.2 = 0 then (if (bt195.2.1.length : Int) = 0 then (saltuslaw16_SkipHops.j0 k bt195.2.1 true) else (if 0 ≤ (wrap64 ((bt195.2.1.length : Int) - 1)) then (if (wrap64 ((bt195.2.1.length : Int) - 1)) < (bt195.2.1.length : Int) then (if ((rd_T48 bt195.2.1 (wrap64 ((bt195.2.1.length : Int) - 1))).f1) = bt195.1 then (if bt195.1 ≥ (y191.length : Int) then (saltuslaw16_SkipHops.j0 k bt195.2.1 true) else (if 0 ≤ bt195.1 then (if bt195.1 < (y191.length : Int) then (if ((rd_T46 y191 bt195.1).f0) > a2 then (saltuslaw16_SkipHops.j0 k bt195.2.1 true) else (if (wrap64 (bt195.1 + 1)) < (y191.length : Int) then (if 0 ≤ (wrap64 (bt195.1 + 1)) then (if ((rd_T46 y191 (wrap64 (bt195.1 + 1))).f0) ≤ a2 then (saltuslaw16_SkipHops.j0 k bt195.2.1 true) else ((saltuslaw16_alive.f k).bind fun t205 => (saltuslaw16_SkipHops.j0 k bt195.2.1 (!t205)))) else (none)) else ((saltuslaw16_alive.f k).bind fun t206 => (saltuslaw16_SkipHops.j0 k bt195.2.1 (!t206))))) else (none)) else (none))) else (saltuslaw16_SkipHops.j0 k bt195.2.1 true)) else (none)) else (none))) else ((saltuslaw16_alive.f k).bind fun t200 => (if t200 = true then (if (bt195.2.1.length : Int) = 0 then (if bt195.2.2 = 1 then (some true) else (if (y191.length : Int) = 0 then (some true) else (if 0 < (y191.length : Int) then (some (decide (((rd_T46 y191 0).f0) > a2))) else (none)))) else (some false)) else (some false)))))) else (none)) else (none)) else (none)) else (none)) = some r := h
 clear h
 obtain ⟨ji4, hji4⟩ : ∃ j_ : Int, (mn (a0.size : Int) 80) = j_ := ⟨_, rfl⟩
 replace H : (if 0 ≤ (ji4) then (if (ji4) ≤ (a0.size : Int) then (if 0 ≤ (mn (l1.length : Int) 20) then (if (mn (l1.length : Int) 20) ≤ (l1.length : Int) then ((some (l1.take ((mn (l1.length : Int) 20) : Int).toNat : List (S46))).bind fun y191 => ((skip_Find.f k (a0.extract 0 ((ji4) : Int).toNat) y191 a2).bind fun bt195 => (if bt195.2.2 = 0 then (if (bt195.2.1.length : Int) = 0 then (saltuslaw16_SkipHops.j0 k bt195.2.1 true) else (if 0 ≤ (wrap64 ((bt195.2.1.length : Int) - 1)) then (if (wrap64 ((bt195.2.1.length : Int) - 1)) < (bt195.2.1.length : Int) then (if ((rd_T48 bt195.2.1 (wrap64 ((bt195.2.1.length : Int) - 1))).f1) = bt195.1 then (if bt195.1 ≥ (y191.length : Int) then (saltuslaw16_SkipHops.j0 k bt195.2.1 true) else (if 0 ≤ bt195.1 then (if bt195.1 < (y191.length : Int) then (if ((rd_T46 y191 bt195.1).f0) > a2 then (saltuslaw16_SkipHops.j0 k bt195.2.1 true) else (if (wrap64 (bt195.1 + 1)) < (y191.length : Int) then (if 0 ≤ (wrap64 (bt195.1 + 1)) then (if ((rd_T46 y191 (wrap64 (bt195.1 + 1))).f0) ≤ a2 then (saltuslaw16_SkipHops.j0 k bt195.2.1 true) else ((saltuslaw16_alive.f k).bind fun t205 => (saltuslaw16_SkipHops.j0 k bt195.2.1 (!t205)))) else (none)) else ((saltuslaw16_alive.f k).bind fun t206 => (saltuslaw16_SkipHops.j0 k bt195.2.1 (!t206))))) else (none)) else (none))) else (saltuslaw16_SkipHops.j0 k bt195.2.1 true)) else (none)) else (none))) else ((saltuslaw16_alive.f k).bind fun t200 => (if t200 = true then (if (bt195.2.1.length : Int) = 0 then (if bt195.2.2 = 1 then (some true) else (if (y191.length : Int) = 0 then (some true) else (if 0 < (y191.length : Int) then (some (decide (((rd_T46 y191 0).f0) > a2))) else (none)))) else (some false)) else (some false)))))) else (none)) else (none)) else (none)) else (none)) = some r := by first | (rw [hji4] at H; exact H) | (simp only [hji4] at H ⊢; exact H)
 (try (have hji4h : ji4 ≤ 80 := by (rw [← hji4]; unfold mn; (repeat' split) <;> omega)))
 (try (have hji4g : ji4 ≤ 64 := by omega))
 (try (have hji4l : 0 ≤ ji4 := by (rw [← hji4]; unfold mn; (repeat' split) <;> omega)))
 (try (have hji4m : 0 ≤ ji4 := by omega))
 have hji4_ : (if 80 < (a0.size : Int) then 80 else (a0.size : Int)) = ji4 := hji4
 by_cases c5 : 0 ≤ (ji4)
 ·rw [if_pos c5] at H
  have c5b0 := eq_true c5
  have c5b1 : decide (0 ≤ (ji4)) = true := decide_eq_true c5
  clear c5
  by_cases c6 : (ji4) ≤ (a0.size : Int)
  ·rw [if_pos c6] at H
   have c6b0 := eq_true c6
   have c6b1 : decide ((ji4) ≤ (a0.size : Int)) = true := decide_eq_true c6
   clear c6
   obtain ⟨ji7, hji7⟩ : ∃ j_ : Int, (mn (l1.length : Int) 20) = j_ := ⟨_, rfl⟩
   replace H : (if 0 ≤ (ji7) then (if (ji7) ≤ (l1.length : Int) then ((some (l1.take ((ji7) : Int).toNat : List (S46))).bind fun y191 => ((skip_Find.f k (a0.extract 0 ((ji4) : Int).toNat) y191 a2).bind fun bt195 => (if bt195.2.2 = 0 then (if (bt195.2.1.length : Int) = 0 then (saltuslaw16_SkipHops.j0 k bt195.2.1 true) else (if 0 ≤ (wrap64 ((bt195.2.1.length : Int) - 1)) then (if (wrap64 ((bt195.2.1.length : Int) - 1)) < (bt195.2.1.length : Int) then (if ((rd_T48 bt195.2.1 (wrap64 ((bt195.2.1.length : Int) - 1))).f1) = bt195.1 then (if bt195.1 ≥ (y191.length : Int) then (saltuslaw16_SkipHops.j0 k bt195.2.1 true) else (if 0 ≤ bt195.1 then (if bt195.1 < (y191.length : Int) then (if ((rd_T46 y191 bt195.1).f0) > a2 then (saltuslaw16_SkipHops.j0 k bt195.2.1 true) else (if (wrap64 (bt195.1 + 1)) < (y191.length : Int) then (if 0 ≤ (wrap64 (bt195.1 + 1)) then (if ((rd_T46 y191 (wrap64 (bt195.1 + 1))).f0) ≤ a2 then (saltuslaw16_SkipHops.j0 k bt195.2.1 true) else ((saltuslaw16_alive.f k).bind fun t205 => (saltuslaw16_SkipHops.j0 k bt195.2.1 (!t205)))) else (none)) else ((saltuslaw16_alive.f k).bind fun t206 => (saltuslaw16_SkipHops.j0 k bt195.2.1 (!t206))))) else (none)) else (none))) else (saltuslaw16_SkipHops.j0 k bt195.2.1 true)) else (none)) else (none))) else ((saltuslaw16_alive.f k).bind fun t200 => (if t200 = true then (if (bt195.2.1.length : Int) = 0 then (if bt195.2.2 = 1 then (some true) else (if (y191.length : Int) = 0 then (some true) else (if 0 < (y191.length : Int) then (some (decide (((rd_T46 y191 0).f0) > a2))) else (none)))) else (some false)) else (some false)))))) else (none)) else (none)) = some r := by first | (rw [hji7] at H; exact H) | (simp only [hji7] at H ⊢; exact H)
   (try (have hji7h : ji7 ≤ 20 := by (rw [← hji7]; unfold mn; (repeat' split) <;> omega)))
   (try (have hji7g : ji7 ≤ 64 := by omega))
   (try (have hji7l : 0 ≤ ji7 := by (rw [← hji7]; unfold mn; (repeat' split) <;> omega)))
   (try (have hji7m : 0 ≤ ji7 := by omega))
   have hji7_ : (if 20 < (l1.length : Int) then 20 else (l1.length : Int)) = ji7 := hji7
   by_cases c8 : 0 ≤ (ji7)
   ·rw [if_pos c8] at H
    have c8b0 := eq_true c8
    have c8b1 : decide (0 ≤ (ji7)) = true := decide_eq_true c8
    clear c8
    by_cases c9 : (ji7) ≤ (l1.length : Int)
    ·rw [if_pos c9] at H
     have c9b0 := eq_true c9
     have c9b1 : decide ((ji7) ≤ (l1.length : Int)) = true := decide_eq_true c9
     clear c9
     obtain ⟨y191, hy191⟩ : ∃ y_ : List (S46), y_ = (l1.take ((ji7) : Int).toNat) := ⟨_, rfl⟩
     replace H : ((skip_Find.f k (a0.extract 0 ((ji4) : Int).toNat) y191 a2).bind fun bt195 => (if bt195.2.2 = 0 then (if (bt195.2.1.length : Int) = 0 then (saltuslaw16_SkipHops.j0 k bt195.2.1 true) else (if 0 ≤ (wrap64 ((bt195.2.1.length : Int) - 1)) then (if (wrap64 ((bt195.2.1.length : Int) - 1)) < (bt195.2.1.length : Int) then (if ((rd_T48 bt195.2.1 (wrap64 ((bt195.2.1.length : Int) - 1))).f1) = bt195.1 then (if bt195.1 ≥ (y191.length : Int) then (saltuslaw16_SkipHops.j0 k bt195.2.1 true) else (if 0 ≤ bt195.1 then (if bt195.1 < (y191.length : Int) then (if ((rd_T46 y191 bt195.1).f0) > a2 then (saltuslaw16_SkipHops.j0 k bt195.2.1 true) else (if (wrap64 (bt195.1 + 1)) < (y191.length : Int) then (if 0 ≤ (wrap64 (bt195.1 + 1)) then (if ((rd_T46 y191 (wrap64 (bt195.1 + 1))).f0) ≤ a2 then (saltuslaw16_SkipHops.j0 k bt195.2.1 true) else ((saltuslaw16_alive.f k).bind fun t205 => (saltuslaw16_SkipHops.j0 k bt195.2.1 (!t205)))) else (none)) else ((saltuslaw16_alive.f k).bind fun t206 => (saltuslaw16_SkipHops.j0 k bt195.2.1 (!t206))))) else (none)) else (none))) else (saltuslaw16_SkipHops.j0 k bt195.2.1 true)) else (none)) else (none))) else ((saltuslaw16_alive.f k).bind fun t200 => (if t200 = true then (if (bt195.2.1.length : Int) = 0 then (if bt195.2.2 = 1 then (some true) else (if (y191.length : Int) = 0 then (some true) else (if 0 < (y191.length : Int) then (some (decide (((rd_T46 y191 0).f0) > a2))) else (none)))) else (some false)) else (some false))))) = some r := by first | (rw [hy191]; with_reducible exact H) | (have H2_ := (Option.bind_some _ _).symm.trans H; rw [hy191]; with_reducible exact H2_) | (have H2_ := (Option.bind_some _ _).symm.trans H; with_reducible exact H2_) | with_reducible exact H | (rw [hy191]; exact H) | exact H
     have Ny191 := Aside0.mk hy191
     clear hy191
     replace H := Option.bind_eq_some_iff.mp H
     obtain ⟨⟨t195, t196, t197⟩, A100, H⟩ := H
     (try dsimp only at H)
     have A10 := Aside0.mk A100
     clear A100
     by_cases c11 : t197 = 0
     ·rw [if_pos c11] at H
      have c11b0 : (t197 == 0) = true := beq_iff_eq.mpr c11
      have c11b1 : (t197 != 0) = false := bne_eq_false_iff_eq.mpr c11
      clear c11
      have HC12 := Aside0.mk H
      clear H
      have q13 : ((ji7) : Int) ≤ ((l1.length : Int) : Int) := of_decide_eq_true (by first | (with_reducible assumption) | assumption)
      obtain ⟨i013, hi013, _, hsz13, _⟩ := info_parts info46
      have hroom13 : l1.length ≤ c1 := HC1.out
      have hC13 : Kd.C k46 _ A1 l1.length l1 := HR1.out
      have hcut13 := cut_to (P := Tryd.prog) 36 46 .i64 Tryd.underlying36 hi013 A1 l1.length c1 (ji7) (of_decide_eq_true (by first | (with_reducible assumption) | assumption)) q13 hroom13
      have hr13 := Kd.C_take (m := ((ji7) : Int).toNat) hC13 (by omega)
      have hy13 : y191.length = ((ji7) : Int).toNat := (by rw [Ny191.out, List.length_take]; omega)
      rw [← Ny191.out] at hr13
      rw [← hy13] at hcut13
      have HR194 := Aside0.mk hr13
      have HC194 := Aside0.mk (show y191.length ≤ c1 from by omega)
      clear hr13 hC13 hroom13 hi013 hsz13
      have KY13 := Aside0.mk hy13
      clear hy13
      replace q13 := eq_true q13
      go_enter Tryd.func7, Tryd.ntmps7
      go_upto_region 5 with (first | (go_at_call 24; (with_reducible refine (skip_Find.calls k (a0.extract 0 ((ji4) : Int).toNat) _ _ y191 a2 t195 t196 t197 _ ?side1 ?side2 A10.out (Tower.tab_below HT.out (by repeat (first | (with_reducible first | exact HB.out | apply below_alloc | apply pw_below_drewN | apply below_drew1) | exact HB.out)) (Nat.le_refl _))).mono ?_); (case side1 => repeat (first | exact HR194.out | (with_reducible refine Kd.C_alloc ?_ _) | (with_reducible refine Kd.C_drewN ?_ _) | (with_reducible refine Kd.C_drew ?_))); (case side2 => exact HC194.out); rintro e w14 ⟨v198, rfl, ho0, hb⟩; have n0_ := Aside0.mk (Kd.R_lower ho0 (below_size (by repeat (first | (with_reducible first | exact HB.out | apply below_alloc | apply pw_below_drewN | apply below_drew1) | exact HB.out)))); have n1_ := Aside0.mk (below_step (by repeat (first | (with_reducible first | exact HB.out | apply below_alloc | apply pw_below_drewN | apply below_drew1) | exact HB.out)) hb); clear HB; have HO199 := n0_; have HB := n1_; clear n0_ n1_; (try clear hb); (try clear hb2); (try clear hk); (try clear hi); (try clear ho0)))
      repeat (go_quiet (first | (go_at_call 24; (with_reducible refine (skip_Find.calls k (a0.extract 0 ((ji4) : Int).toNat) _ _ y191 a2 t195 t196 t197 _ ?side1 ?side2 A10.out (Tower.tab_below HT.out (by repeat (first | (with_reducible first | exact HB.out | apply below_alloc | apply pw_below_drewN | apply below_drew1) | exact HB.out)) (Nat.le_refl _))).mono ?_); (case side1 => repeat (first | exact HR194.out | (with_reducible refine Kd.C_alloc ?_ _) | (with_reducible refine Kd.C_drewN ?_ _) | (with_reducible refine Kd.C_drew ?_))); (case side2 => exact HC194.out); rintro e w14 ⟨v198, rfl, ho0, hb⟩; have n0_ := Aside0.mk (Kd.R_lower ho0 (below_size (by repeat (first | (with_reducible first | exact HB.out | apply below_alloc | apply pw_below_drewN | apply below_drew1) | exact HB.out)))); have n1_ := Aside0.mk (below_step (by repeat (first | (with_reducible first | exact HB.out | apply below_alloc | apply pw_below_drewN | apply below_drew1) | exact HB.out)) hb); clear HB; have HO199 := n0_; have HB := n1_; clear n0_ n1_; (try clear hb); (try clear hb2); (try clear hk); (try clear hi); (try clear ho0))); go_upto_region 5 with (first | (go_at_call 24; (with_reducible refine (skip_Find.calls k (a0.extract 0 ((ji4) : Int).toNat) _ _ y191 a2 t195 t196 t197 _ ?side1 ?side2 A10.out (Tower.tab_below HT.out (by repeat (first | (with_reducible first | exact HB.out | apply below_alloc | apply pw_below_drewN | apply below_drew1) | exact HB.out)) (Nat.le_refl _))).mono ?_); (case side1 => repeat (first | exact HR194.out | (with_reducible refine Kd.C_alloc ?_ _) | (with_reducible refine Kd.C_drewN ?_ _) | (with_reducible refine Kd.C_drew ?_))); (case side2 => exact HC194.out); rintro e w14 ⟨v198, rfl, ho0, hb⟩; have n0_ := Aside0.mk (Kd.R_lower ho0 (below_size (by repeat (first | (with_reducible first | exact HB.out | apply below_alloc | apply pw_below_drewN | apply below_drew1) | exact HB.out)))); have n1_ := Aside0.mk (below_step (by repeat (first | (with_reducible first | exact HB.out | apply below_alloc | apply pw_below_drewN | apply below_drew1) | exact HB.out)) hb); clear HB; have HO199 := n0_; have HB := n1_; clear n0_ n1_; (try clear hb); (try clear hb2); (try clear hk); (try clear hi); (try clear ho0))))
      (try simp only [Act.put, List.setIfInBounds_toArray, List.set_cons_zero, List.set_cons_succ])
      go_cut [104] (fun v104 wc => ∃ (kq : Nat) (x104_11 : Bool), v104 = .bool x104_11 ∧ Aside0 (saltuslaw16_SkipHops.j0 kq t196 x104_11 = some r) ∧ Aside0 (kq ≤ k) ∧ Aside0 (Kd.R k48 48 wc w.heap.size (fun _ => True) v198 t196) ∧ Aside0 (Below w.heap.size w wc))
      case first =>
       have H := HC12.out
       clear HC12
       by_cases c15 : (t196.length : Int) = 0
       ·rw [if_pos c15] at H
        have c15b0 : ((t196.length : Int) == 0) = true := beq_iff_eq.mpr c15
        have c15b1 : ((t196.length : Int) != 0) = false := bne_eq_false_iff_eq.mpr c15
        clear c15
        (first | rw [c15b0] | (simp only [i64_w, i32_w]; rw [c15b0]) | skip)
        have H' := Aside0.mk H
        clear H
        obtain ⟨Ao16, co16, eo16⟩ := Kd.R_slice HO199.out
        subst eo16
        go_wp2
        repeat (go_quiet (fail); try go_wp2)
        go_meet
        case rel => exact ⟨_, (true), (by first | rfl | (simp; done) | (simp [*]; done)), H', ⟨by first | omega | exact Nat.le_refl _⟩, ⟨by (with_reducible repeat (first | apply Kd.R_alloc | apply Kd.R_drewN | apply Kd.R_drew)); exact HO199.out⟩, ⟨by repeat (first | (with_reducible first | exact HB.out | apply below_alloc | apply pw_below_drewN | apply below_drew1) | exact HB.out)⟩⟩
       ·rw [if_neg c15] at H
        have c15b0 : ((t196.length : Int) == 0) = false := beq_eq_false_iff_ne.mpr c15
        have c15b1 : ((t196.length : Int) != 0) = true := bne_iff_ne.mpr c15
        have c15b2 : ¬ (t196 = []) := fun h_ => c15 (by rw [h_]; rfl)
        (first | rw [c15b0] | (simp only [i64_w, i32_w]; rw [c15b0]) | skip)
        obtain ⟨ji17, hji17⟩ : ∃ j_ : Int, (wrap64 ((t196.length : Int) - 1)) = j_ := ⟨_, rfl⟩
        replace H : (if 0 ≤ (ji17) then (if (ji17) < (t196.length : Int) then (if ((rd_T48 t196 (ji17)).f1) = t195 then (if t195 ≥ (y191.length : Int) then (saltuslaw16_SkipHops.j0 k t196 true) else (if 0 ≤ t195 then (if t195 < (y191.length : Int) then (if ((rd_T46 y191 t195).f0) > a2 then (saltuslaw16_SkipHops.j0 k t196 true) else (if (wrap64 (t195 + 1)) < (y191.length : Int) then (if 0 ≤ (wrap64 (t195 + 1)) then (if ((rd_T46 y191 (wrap64 (t195 + 1))).f0) ≤ a2 then (saltuslaw16_SkipHops.j0 k t196 true) else ((saltuslaw16_alive.f k).bind fun t205 => (saltuslaw16_SkipHops.j0 k t196 (!t205)))) else (none)) else ((saltuslaw16_alive.f k).bind fun t206 => (saltuslaw16_SkipHops.j0 k t196 (!t206))))) else (none)) else (none))) else (saltuslaw16_SkipHops.j0 k t196 true)) else (none)) else (none)) = some r := by first | (rw [hji17] at H; exact H) | (simp only [hji17] at H ⊢; exact H)
        have hji17w : (IntKind.i64.wrap ((t196.length : Int) - 1)) = ji17 := (i64_w _).trans hji17
        by_cases c18 : 0 ≤ (ji17)
        ·rw [if_pos c18] at H
         have c18b0 : decide (0 ≤ (ji17)) = true := decide_eq_true c18
         clear c18
         by_cases c19 : (ji17) < (t196.length : Int)
         ·rw [if_pos c19] at H
          have c19b0 : decide ((ji17) < (t196.length : Int)) = true := decide_eq_true c19
          clear c19
          by_cases c20 : ((rd_T48 t196 (ji17)).f1) = t195
          ·rw [if_pos c20] at H
           have c20b0 : (((rd_T48 t196 (ji17)).f1) == t195) = true := beq_iff_eq.mpr c20
           have c20b1 : (((rd_T48 t196 (ji17)).f1) != t195) = false := bne_eq_false_iff_eq.mpr c20
           clear c20
           by_cases c21 : t195 ≥ (y191.length : Int)
           ·rw [if_pos c21] at H
            have c21b0 : decide ((y191.length : Int) ≤ t195) = true := decide_eq_true c21
            clear c21
            have H' := Aside0.mk H
            clear H
            obtain ⟨Ao22, co22, eo22⟩ := Kd.R_slice HO199.out
            subst eo22
            have p202 : 0 ≤ ((ji17) : Int) := of_decide_eq_true (by first | (with_reducible assumption) | assumption)
            have q202 : (ji17) < (t196.length : Int) := of_decide_eq_true (by first | (with_reducible assumption) | assumption)
            obtain ⟨ad202, e202, hx202_0, hx202_1⟩ := at_T48 (Kd.R_reads' HO199.out).2.2 (ji17) p202 q202
            cases e202
            replace p202 := eq_true p202
            replace q202 := eq_true q202
            go_wp2
            repeat (go_quiet (fail); try go_wp2)
            go_meet
            case rel => exact ⟨_, (true), (by first | rfl | (simp; done) | (simp [*]; done)), H', ⟨by first | omega | exact Nat.le_refl _⟩, ⟨by (with_reducible repeat (first | apply Kd.R_alloc | apply Kd.R_drewN | apply Kd.R_drew)); exact HO199.out⟩, ⟨by repeat (first | (with_reducible first | exact HB.out | apply below_alloc | apply pw_below_drewN | apply below_drew1) | exact HB.out)⟩⟩
           ·rw [if_neg c21] at H
            have c21b0 : decide ((y191.length : Int) ≤ t195) = false := decide_eq_false c21
            clear c21
            by_cases c23 : 0 ≤ t195
            ·rw [if_pos c23] at H
             have c23b0 : decide (0 ≤ t195) = true := decide_eq_true c23
             clear c23
             by_cases c24 : t195 < (y191.length : Int)
             ·rw [if_pos c24] at H
              have c24b0 : decide (t195 < (y191.length : Int)) = true := decide_eq_true c24
              clear c24
              by_cases c25 : ((rd_T46 y191 t195).f0) > a2
              ·rw [if_pos c25] at H
               have c25b0 : decide (a2 < ((rd_T46 y191 t195).f0)) = true := decide_eq_true c25
               clear c25
               have H' := Aside0.mk H
               clear H
               obtain ⟨Ao26, co26, eo26⟩ := Kd.R_slice HO199.out
               subst eo26
               have p202 : 0 ≤ ((ji17) : Int) := of_decide_eq_true (by first | (with_reducible assumption) | assumption)
               have q202 : (ji17) < (t196.length : Int) := of_decide_eq_true (by first | (with_reducible assumption) | assumption)
               obtain ⟨ad202, e202, hx202_0, hx202_1⟩ := at_T48 (Kd.R_reads' HO199.out).2.2 (ji17) p202 q202
               cases e202
               replace p202 := eq_true p202
               replace q202 := eq_true q202
               have p203 : 0 ≤ (t195 : Int) := of_decide_eq_true (by first | (with_reducible assumption) | assumption)
               have q203 : t195 < (y191.length : Int) := of_decide_eq_true (by first | (with_reducible assumption) | assumption)
               obtain ⟨ad203, e203, hx203_0, hx203_1⟩ := at_T46 HR194.out t195 p203 q203
               cases e203
               replace hx203_0 := (HB.out.cell (World.block_lt_of_cell? w _ hx203_0)).trans hx203_0
               replace hx203_1 := (HB.out.cell (World.block_lt_of_cell? w _ hx203_1)).trans hx203_1
               replace p203 := eq_true p203
               replace q203 := eq_true q203
               go_wp2
               repeat (go_quiet (fail); try go_wp2)
               go_meet
               case rel => exact ⟨_, (true), (by first | rfl | (simp; done) | (simp [*]; done)), H', ⟨by first | omega | exact Nat.le_refl _⟩, ⟨by (with_reducible repeat (first | apply Kd.R_alloc | apply Kd.R_drewN | apply Kd.R_drew)); exact HO199.out⟩, ⟨by repeat (first | (with_reducible first | exact HB.out | apply below_alloc | apply pw_below_drewN | apply below_drew1) | exact HB.out)⟩⟩
              ·rw [if_neg c25] at H
               have c25b0 : decide (a2 < ((rd_T46 y191 t195).f0)) = false := decide_eq_false c25
               clear c25
               by_cases c27 : (wrap64 (t195 + 1)) < (y191.length : Int)
               ·rw [if_pos c27] at H
                have c27b0 : decide ((wrap64 (t195 + 1)) < (y191.length : Int)) = true := decide_eq_true c27
                clear c27
                obtain ⟨ji28, hji28⟩ : ∃ j_ : Int, (wrap64 (t195 + 1)) = j_ := ⟨_, rfl⟩
                replace H : (if 0 ≤ (ji28) then (if ((rd_T46 y191 (ji28)).f0) ≤ a2 then (saltuslaw16_SkipHops.j0 k t196 true) else ((saltuslaw16_alive.f k).bind fun t205 => (saltuslaw16_SkipHops.j0 k t196 (!t205)))) else (none)) = some r := by first | (rw [hji28] at H; exact H) | (simp only [hji28] at H ⊢; exact H)
                (try rw [hji28] at c27b0)
                have hji28w : (IntKind.i64.wrap (t195 + 1)) = ji28 := (i64_w _).trans hji28
                by_cases c29 : 0 ≤ (ji28)
                ·rw [if_pos c29] at H
                 have c29b0 : decide (0 ≤ (ji28)) = true := decide_eq_true c29
                 clear c29
                 by_cases c30 : ((rd_T46 y191 (ji28)).f0) ≤ a2
                 ·rw [if_pos c30] at H
                  have c30b0 : decide (((rd_T46 y191 (ji28)).f0) ≤ a2) = true := decide_eq_true c30
                  clear c30
                  have H' := Aside0.mk H
                  clear H
                  obtain ⟨Ao31, co31, eo31⟩ := Kd.R_slice HO199.out
                  subst eo31
                  have p202 : 0 ≤ ((ji17) : Int) := of_decide_eq_true (by first | (with_reducible assumption) | assumption)
                  have q202 : (ji17) < (t196.length : Int) := of_decide_eq_true (by first | (with_reducible assumption) | assumption)
                  obtain ⟨ad202, e202, hx202_0, hx202_1⟩ := at_T48 (Kd.R_reads' HO199.out).2.2 (ji17) p202 q202
                  cases e202
                  replace p202 := eq_true p202
                  replace q202 := eq_true q202
                  have p203 : 0 ≤ (t195 : Int) := of_decide_eq_true (by first | (with_reducible assumption) | assumption)
                  have q203 : t195 < (y191.length : Int) := of_decide_eq_true (by first | (with_reducible assumption) | assumption)
                  obtain ⟨ad203, e203, hx203_0, hx203_1⟩ := at_T46 HR194.out t195 p203 q203
                  cases e203
                  replace hx203_0 := (HB.out.cell (World.block_lt_of_cell? w _ hx203_0)).trans hx203_0
                  replace hx203_1 := (HB.out.cell (World.block_lt_of_cell? w _ hx203_1)).trans hx203_1
                  replace p203 := eq_true p203
                  replace q203 := eq_true q203
                  have p204 : 0 ≤ ((ji28) : Int) := of_decide_eq_true (by first | (with_reducible assumption) | assumption)
                  have q204 : (ji28) < (y191.length : Int) := of_decide_eq_true (by first | (with_reducible assumption) | assumption)
                  obtain ⟨ad204, e204, hx204_0, hx204_1⟩ := at_T46 HR194.out (ji28) p204 q204
                  obtain rfl : ad203 = ad204 := (by injection e204)
                  replace hx204_0 := (HB.out.cell (World.block_lt_of_cell? w _ hx204_0)).trans hx204_0
                  replace hx204_1 := (HB.out.cell (World.block_lt_of_cell? w _ hx204_1)).trans hx204_1
                  replace p204 := eq_true p204
                  replace q204 := eq_true q204
                  go_wp2
                  repeat (go_quiet (fail); try go_wp2)
                  go_meet
                  case rel => exact ⟨_, (true), (by first | rfl | (simp; done) | (simp [*]; done)), H', ⟨by first | omega | exact Nat.le_refl _⟩, ⟨by (with_reducible repeat (first | apply Kd.R_alloc | apply Kd.R_drewN | apply Kd.R_drew)); exact HO199.out⟩, ⟨by repeat (first | (with_reducible first | exact HB.out | apply below_alloc | apply pw_below_drewN | apply below_drew1) | exact HB.out)⟩⟩
                 ·rw [if_neg c30] at H
                  have c30b0 : decide (((rd_T46 y191 (ji28)).f0) ≤ a2) = false := decide_eq_false c30
                  clear c30
                  replace H := Option.bind_eq_some_iff.mp H
                  obtain ⟨t205, A320, H⟩ := H
                  (try dsimp only at H)
                  have A32 := Aside0.mk A320
                  clear A320
                  have H' := Aside0.mk H
                  clear H
                  obtain ⟨Ao33, co33, eo33⟩ := Kd.R_slice HO199.out
                  subst eo33
                  have p202 : 0 ≤ ((ji17) : Int) := of_decide_eq_true (by first | (with_reducible assumption) | assumption)
                  have q202 : (ji17) < (t196.length : Int) := of_decide_eq_true (by first | (with_reducible assumption) | assumption)
                  obtain ⟨ad202, e202, hx202_0, hx202_1⟩ := at_T48 (Kd.R_reads' HO199.out).2.2 (ji17) p202 q202
                  cases e202
                  replace p202 := eq_true p202
                  replace q202 := eq_true q202
                  have p203 : 0 ≤ (t195 : Int) := of_decide_eq_true (by first | (with_reducible assumption) | assumption)
                  have q203 : t195 < (y191.length : Int) := of_decide_eq_true (by first | (with_reducible assumption) | assumption)
                  obtain ⟨ad203, e203, hx203_0, hx203_1⟩ := at_T46 HR194.out t195 p203 q203
                  cases e203
                  replace hx203_0 := (HB.out.cell (World.block_lt_of_cell? w _ hx203_0)).trans hx203_0
                  replace hx203_1 := (HB.out.cell (World.block_lt_of_cell? w _ hx203_1)).trans hx203_1
                  replace p203 := eq_true p203
                  replace q203 := eq_true q203
                  have p204 : 0 ≤ ((ji28) : Int) := of_decide_eq_true (by first | (with_reducible assumption) | assumption)
                  have q204 : (ji28) < (y191.length : Int) := of_decide_eq_true (by first | (with_reducible assumption) | assumption)
                  obtain ⟨ad204, e204, hx204_0, hx204_1⟩ := at_T46 HR194.out (ji28) p204 q204
                  obtain rfl : ad203 = ad204 := (by injection e204)
                  replace hx204_0 := (HB.out.cell (World.block_lt_of_cell? w _ hx204_0)).trans hx204_0
                  replace hx204_1 := (HB.out.cell (World.block_lt_of_cell? w _ hx204_1)).trans hx204_1
                  replace p204 := eq_true p204
                  replace q204 := eq_true q204
                  go_wp2_with (first | (go_at_call 26; (with_reducible refine (saltuslaw16_alive.calls k  t205 _ A32.out (Tower.tab_below HT.out (by repeat (first | (with_reducible first | exact HB.out | apply below_alloc | apply pw_below_drewN | apply below_drew1) | exact HB.out)) (Nat.le_refl _))).mono ?_); rintro e w34 ⟨rfl, hb⟩; have n0_ := Aside0.mk (Kd.R_below (by (with_reducible repeat (first | apply Kd.R_alloc | apply Kd.R_drewN | apply Kd.R_drew)); exact HO199.out) hb); have n1_ := Aside0.mk (below_step (by repeat (first | (with_reducible first | exact HB.out | apply below_alloc | apply pw_below_drewN | apply below_drew1) | exact HB.out)) hb); clear HO199; clear HB; have HO199 := n0_; have HB := n1_; clear n0_ n1_; (try clear hb); (try clear hb2); (try clear hk); (try clear hi)))
                  repeat (go_quiet (first | (go_at_call 26; (with_reducible refine (saltuslaw16_alive.calls k  t205 _ A32.out (Tower.tab_below HT.out (by repeat (first | (with_reducible first | exact HB.out | apply below_alloc | apply pw_below_drewN | apply below_drew1) | exact HB.out)) (Nat.le_refl _))).mono ?_); rintro e w34 ⟨rfl, hb⟩; have n0_ := Aside0.mk (Kd.R_below (by (with_reducible repeat (first | apply Kd.R_alloc | apply Kd.R_drewN | apply Kd.R_drew)); exact HO199.out) hb); have n1_ := Aside0.mk (below_step (by repeat (first | (with_reducible first | exact HB.out | apply below_alloc | apply pw_below_drewN | apply below_drew1) | exact HB.out)) hb); clear HO199; clear HB; have HO199 := n0_; have HB := n1_; clear n0_ n1_; (try clear hb); (try clear hb2); (try clear hk); (try clear hi))); try go_wp2_with (first | (go_at_call 26; (with_reducible refine (saltuslaw16_alive.calls k  t205 _ A32.out (Tower.tab_below HT.out (by repeat (first | (with_reducible first | exact HB.out | apply below_alloc | apply pw_below_drewN | apply below_drew1) | exact HB.out)) (Nat.le_refl _))).mono ?_); rintro e w34 ⟨rfl, hb⟩; have n0_ := Aside0.mk (Kd.R_below (by (with_reducible repeat (first | apply Kd.R_alloc | apply Kd.R_drewN | apply Kd.R_drew)); exact HO199.out) hb); have n1_ := Aside0.mk (below_step (by repeat (first | (with_reducible first | exact HB.out | apply below_alloc | apply pw_below_drewN | apply below_drew1) | exact HB.out)) hb); clear HO199; clear HB; have HO199 := n0_; have HB := n1_; clear n0_ n1_; (try clear hb); (try clear hb2); (try clear hk); (try clear hi))))
                  go_meet
                  case rel => exact ⟨_, (!t205), (by first | rfl | (simp; done) | (simp [*]; done)), H', ⟨by first | omega | exact Nat.le_refl _⟩, ⟨by (with_reducible repeat (first | apply Kd.R_alloc | apply Kd.R_drewN | apply Kd.R_drew)); exact HO199.out⟩, ⟨by repeat (first | (with_reducible first | exact HB.out | apply below_alloc | apply pw_below_drewN | apply below_drew1) | exact HB.out)⟩⟩
                ·rw [if_neg c29] at H
                 exact absurd H (by simp)
               ·rw [if_neg c27] at H
                have c27b0 : decide ((wrap64 (t195 + 1)) < (y191.length : Int)) = false := decide_eq_false c27
                clear c27
                replace H := Option.bind_eq_some_iff.mp H
                obtain ⟨t206, A350, H⟩ := H
                (try dsimp only at H)
                have A35 := Aside0.mk A350
                clear A350
                have H' := Aside0.mk H
                clear H
                obtain ⟨Ao36, co36, eo36⟩ := Kd.R_slice HO199.out
                subst eo36
                have p202 : 0 ≤ ((ji17) : Int) := of_decide_eq_true (by first | (with_reducible assumption) | assumption)
                have q202 : (ji17) < (t196.length : Int) := of_decide_eq_true (by first | (with_reducible assumption) | assumption)
                obtain ⟨ad202, e202, hx202_0, hx202_1⟩ := at_T48 (Kd.R_reads' HO199.out).2.2 (ji17) p202 q202
                cases e202
                replace p202 := eq_true p202
                replace q202 := eq_true q202
                have p203 : 0 ≤ (t195 : Int) := of_decide_eq_true (by first | (with_reducible assumption) | assumption)
                have q203 : t195 < (y191.length : Int) := of_decide_eq_true (by first | (with_reducible assumption) | assumption)
                obtain ⟨ad203, e203, hx203_0, hx203_1⟩ := at_T46 HR194.out t195 p203 q203
                cases e203
                replace hx203_0 := (HB.out.cell (World.block_lt_of_cell? w _ hx203_0)).trans hx203_0
                replace hx203_1 := (HB.out.cell (World.block_lt_of_cell? w _ hx203_1)).trans hx203_1
                replace p203 := eq_true p203
                replace q203 := eq_true q203
                go_wp2_with (first | (go_at_call 26; (with_reducible refine (saltuslaw16_alive.calls k  t206 _ A35.out (Tower.tab_below HT.out (by repeat (first | (with_reducible first | exact HB.out | apply below_alloc | apply pw_below_drewN | apply below_drew1) | exact HB.out)) (Nat.le_refl _))).mono ?_); rintro e w37 ⟨rfl, hb⟩; have n0_ := Aside0.mk (Kd.R_below (by (with_reducible repeat (first | apply Kd.R_alloc | apply Kd.R_drewN | apply Kd.R_drew)); exact HO199.out) hb); have n1_ := Aside0.mk (below_step (by repeat (first | (with_reducible first | exact HB.out | apply below_alloc | apply pw_below_drewN | apply below_drew1) | exact HB.out)) hb); clear HO199; clear HB; have HO199 := n0_; have HB := n1_; clear n0_ n1_; (try clear hb); (try clear hb2); (try clear hk); (try clear hi)))
                repeat (go_quiet (first | (go_at_call 26; (with_reducible refine (saltuslaw16_alive.calls k  t206 _ A35.out (Tower.tab_below HT.out (by repeat (first | (with_reducible first | exact HB.out | apply below_alloc | apply pw_below_drewN | apply below_drew1) | exact HB.out)) (Nat.le_refl _))).mono ?_); rintro e w37 ⟨rfl, hb⟩; have n0_ := Aside0.mk (Kd.R_below (by (with_reducible repeat (first | apply Kd.R_alloc | apply Kd.R_drewN | apply Kd.R_drew)); exact HO199.out) hb); have n1_ := Aside0.mk (below_step (by repeat (first | (with_reducible first | exact HB.out | apply below_alloc | apply pw_below_drewN | apply below_drew1) | exact HB.out)) hb); clear HO199; clear HB; have HO199 := n0_; have HB := n1_; clear n0_ n1_; (try clear hb); (try clear hb2); (try clear hk); (try clear hi))); try go_wp2_with (first | (go_at_call 26; (with_reducible refine (saltuslaw16_alive.calls k  t206 _ A35.out (Tower.tab_below HT.out (by repeat (first | (with_reducible first | exact HB.out | apply below_alloc | apply pw_below_drewN | apply below_drew1) | exact HB.out)) (Nat.le_refl _))).mono ?_); rintro e w37 ⟨rfl, hb⟩; have n0_ := Aside0.mk (Kd.R_below (by (with_reducible repeat (first | apply Kd.R_alloc | apply Kd.R_drewN | apply Kd.R_drew)); exact HO199.out) hb); have n1_ := Aside0.mk (below_step (by repeat (first | (with_reducible first | exact HB.out | apply below_alloc | apply pw_below_drewN | apply below_drew1) | exact HB.out)) hb); clear HO199; clear HB; have HO199 := n0_; have HB := n1_; clear n0_ n1_; (try clear hb); (try clear hb2); (try clear hk); (try clear hi))))
                go_meet
                case rel => exact ⟨_, (!t206), (by first | rfl | (simp; done) | (simp [*]; done)), H', ⟨by first | omega | exact Nat.le_refl _⟩, ⟨by (with_reducible repeat (first | apply Kd.R_alloc | apply Kd.R_drewN | apply Kd.R_drew)); exact HO199.out⟩, ⟨by repeat (first | (with_reducible first | exact HB.out | apply below_alloc | apply pw_below_drewN | apply below_drew1) | exact HB.out)⟩⟩
             ·rw [if_neg c24] at H
              exact absurd H (by simp)
            ·rw [if_neg c23] at H
             exact absurd H (by simp)
          ·rw [if_neg c20] at H
           have c20b0 : (((rd_T48 t196 (ji17)).f1) == t195) = false := beq_eq_false_iff_ne.mpr c20
           have c20b1 : (((rd_T48 t196 (ji17)).f1) != t195) = true := bne_iff_ne.mpr c20
           have H' := Aside0.mk H
           clear H
           obtain ⟨Ao38, co38, eo38⟩ := Kd.R_slice HO199.out
           subst eo38
           have p202 : 0 ≤ ((ji17) : Int) := of_decide_eq_true (by first | (with_reducible assumption) | assumption)
           have q202 : (ji17) < (t196.length : Int) := of_decide_eq_true (by first | (with_reducible assumption) | assumption)
           obtain ⟨ad202, e202, hx202_0, hx202_1⟩ := at_T48 (Kd.R_reads' HO199.out).2.2 (ji17) p202 q202
           cases e202
           replace p202 := eq_true p202
           replace q202 := eq_true q202
           go_wp2
           repeat (go_quiet (fail); try go_wp2)
           go_meet
           case rel => exact ⟨_, (true), (by first | rfl | (simp; done) | (simp [*]; done)), H', ⟨by first | omega | exact Nat.le_refl _⟩, ⟨by (with_reducible repeat (first | apply Kd.R_alloc | apply Kd.R_drewN | apply Kd.R_drew)); exact HO199.out⟩, ⟨by repeat (first | (with_reducible first | exact HB.out | apply below_alloc | apply pw_below_drewN | apply below_drew1) | exact HB.out)⟩⟩
         ·rw [if_neg c19] at H
          exact absurd H (by simp)
        ·rw [if_neg c18] at H
         exact absurd H (by simp)
      case rest =>
       clear HC12
       try clear c1
       try clear q1
       try clear c2
       try clear p2
       try clear q2
       try clear hx2
       try clear c3
       try clear c5
       try clear c5b0
       try clear c5b1
       try clear c6
       try clear c6b0
       try clear c6b1
       try clear p6
       try clear c7
       try clear c8
       try clear c8b0
       try clear c8b1
       try clear c9
       try clear c9b0
       try clear c9b1
       try clear c11
       try clear c11b0
       try clear c11b1
       try clear q13
       try clear c15
       try clear c15b0
       try clear c15b1
       try clear c15b2
       try clear c18
       try clear c18b0
       try clear c19
       try clear c19b0
       try clear c20
       try clear c20b0
       try clear c20b1
       try clear p20
       try clear q20
       try clear hx20
       try clear c21
       try clear c21b0
       try clear c23
       try clear c23b0
       try clear c24
       try clear c24b0
       try clear c25
       try clear c25b0
       try clear c27
       try clear c27b0
       try clear c29
       try clear c29b0
       try clear c30
       try clear c30b0
       try clear hx202_0
       try clear hx202_1
       try clear hx203_0
       try clear hx203_1
       try clear hx204_0
       try clear hx204_1
       try clear p202
       try clear p203
       try clear p204
       try clear q13
       try clear q202
       try clear q203
       try clear q204
       obtain ⟨kq, x104_11, rfl, HA, HJ11, HO_8, HB⟩ := hcut
       cases kq with
       | zero => exact absurd HA.out (by simp [saltuslaw16_SkipHops.j0])
       | succ kj11 =>
        have H := HA.out
        clear HA
        simp only [saltuslaw16_SkipHops.j0] at H
        by_cases c39 : x104_11 = true
        ·subst c39
         have H1 : (some false) = some r := by rw [if_pos rfl] at H; exact H
         clear H
         have H := H1
         clear H1
         exact absurd ((Option.some.inj H).trans hr.out) (by decide)
        ·replace c39 := Bool.eq_false_iff.mpr c39
         subst c39
         have H1 : (saltuslaw16_SkipHops.l0 kj11 t196 t196 (t196.length : Int) 0) = some r := by rw [if_neg (show ¬ (false = true) by decide)] at H; exact H
         clear H
         have H := H1
         clear H1
         have H' := Aside0.mk H
         clear H
         obtain ⟨Ao40, co40, eo40⟩ := Kd.R_slice HO_8.out
         subst eo40
         go_wp2
         repeat (go_quiet (fail); try go_wp2)
         go_loopg [107] kj11 (fun kq v107 w' => ∃ (x107_2 : Int), v107 = .int .i64 x107_2 ∧ Aside0 (saltuslaw16_SkipHops.l0 kq t196 t196 (t196.length : Int) x107_2 = some r) ∧ Aside0 (kq ≤ kj11) ∧ Aside0 (Kd.R k48 48 w' w.heap.size (fun _ => True) (.slice Ao40 t196.length co40) t196) ∧ Aside0 (Kd.R k48 48 w' w.heap.size (fun _ => True) (.slice Ao40 t196.length co40) t196) ∧ Aside0 (Below w.heap.size w w'))
         case atStart => exact ⟨(0), (by first | rfl | (simp; done) | (simp [*]; done)), H', ⟨Nat.le_refl _⟩, ⟨by (with_reducible repeat (first | apply Kd.R_alloc | apply Kd.R_drewN | apply Kd.R_drew)); exact HO_8.out⟩, ⟨by (with_reducible repeat (first | apply Kd.R_alloc | apply Kd.R_drewN | apply Kd.R_drew)); exact HO_8.out⟩, ⟨by repeat (first | (with_reducible first | exact HB.out | apply below_alloc | apply pw_below_drewN | apply below_drew1) | exact HB.out)⟩⟩
         case round =>
          clear H'
          try clear c1
          try clear q1
          try clear c2
          try clear p2
          try clear q2
          try clear hx2
          try clear c3
          try clear c5
          try clear c5b0
          try clear c5b1
          try clear c6
          try clear c6b0
          try clear c6b1
          try clear p6
          try clear c7
          try clear c8
          try clear c8b0
          try clear c8b1
          try clear c9
          try clear c9b0
          try clear c9b1
          try clear c11
          try clear c11b0
          try clear c11b1
          try clear q13
          try clear c15
          try clear c15b0
          try clear c15b1
          try clear c15b2
          try clear c18
          try clear c18b0
          try clear c19
          try clear c19b0
          try clear c20
          try clear c20b0
          try clear c20b1
          try clear p20
          try clear q20
          try clear hx20
          try clear c21
          try clear c21b0
          try clear c23
          try clear c23b0
          try clear c24
          try clear c24b0
          try clear c25
          try clear c25b0
          try clear c27
          try clear c27b0
          try clear c29
          try clear c29b0
          try clear c30
          try clear c30b0
          try clear c39
          try clear hx202_0
          try clear hx202_1
          try clear hx203_0
          try clear hx203_1
          try clear hx204_0
          try clear hx204_1
          try clear p2
          try clear p20
          try clear p202
          try clear p203
          try clear p204
          try clear p6
          try clear q1
          try clear q13
          try clear q2
          try clear q20
          try clear q202
          try clear q203
          try clear q204
          obtain ⟨x107_2, rfl, HA, HK2, HO_8, HO_105, HB⟩ := hrel
          cases gk with
          | zero => exact absurd HA.out (by simp [saltuslaw16_SkipHops.l0])
          | succ k2 =>
           have H := HA.out
           clear HA
           simp only [saltuslaw16_SkipHops.l0] at H
           by_cases c41 : x107_2 < (t196.length : Int)
           ·rw [if_pos c41] at H
            have c41b0 : decide (x107_2 < (t196.length : Int)) = true := decide_eq_true c41
            clear c41
            by_cases c42 : 0 ≤ x107_2
            ·rw [if_pos c42] at H
             have c42b0 : decide (0 ≤ x107_2) = true := decide_eq_true c42
             clear c42
             by_cases c43 : x107_2 < (t196.length : Int)
             ·rw [if_pos c43] at H
              have c43b0 : decide (x107_2 < (t196.length : Int)) = true := decide_eq_true c43
              clear c43
              by_cases c44 : ((rd_T48 t196 x107_2).f0) < 0
              ·rw [if_pos c44] at H
               have c44b0 : decide (((rd_T48 t196 x107_2).f0) < 0) = true := decide_eq_true c44
               clear c44
               exact absurd ((Option.some.inj H).trans hr.out) (by decide)
              ·rw [if_neg c44] at H
               have c44b0 : decide (((rd_T48 t196 x107_2).f0) < 0) = false := decide_eq_false c44
               clear c44
               by_cases c45 : ((rd_T48 t196 x107_2).f0) ≥ 8
               ·rw [if_pos c45] at H
                have c45b0 : decide (8 ≤ ((rd_T48 t196 x107_2).f0)) = true := decide_eq_true c45
                clear c45
                exact absurd ((Option.some.inj H).trans hr.out) (by decide)
               ·rw [if_neg c45] at H
                have c45b0 : decide (8 ≤ ((rd_T48 t196 x107_2).f0)) = false := decide_eq_false c45
                clear c45
                by_cases c46 : x107_2 > 0
                ·rw [if_pos c46] at H
                 have c46b0 : decide (0 < x107_2) = true := decide_eq_true c46
                 clear c46
                 obtain ⟨ji47, hji47⟩ : ∃ j_ : Int, (wrap64 (x107_2 - 1)) = j_ := ⟨_, rfl⟩
                 replace H : (if 0 ≤ (ji47) then (if (ji47) < (t196.length : Int) then (if ((rd_T48 t196 (ji47)).f1) ≥ ((rd_T48 t196 x107_2).f1) then (some false) else (if ((rd_T48 t196 (ji47)).f0) < ((rd_T48 t196 x107_2).f0) then (some false) else (saltuslaw16_SkipHops.l0 k2 t196 t196 (t196.length : Int) (wrap64 (x107_2 + 1))))) else (none)) else (none)) = some r := by first | (rw [hji47] at H; exact H) | (simp only [hji47] at H ⊢; exact H)
                 have hji47w : (IntKind.i64.wrap (x107_2 - 1)) = ji47 := (i64_w _).trans hji47
                 by_cases c48 : 0 ≤ (ji47)
                 ·rw [if_pos c48] at H
                  have c48b0 : decide (0 ≤ (ji47)) = true := decide_eq_true c48
                  clear c48
                  by_cases c49 : (ji47) < (t196.length : Int)
                  ·rw [if_pos c49] at H
                   have c49b0 : decide ((ji47) < (t196.length : Int)) = true := decide_eq_true c49
                   clear c49
                   by_cases c50 : ((rd_T48 t196 (ji47)).f1) ≥ ((rd_T48 t196 x107_2).f1)
                   ·rw [if_pos c50] at H
                    have c50b0 : decide (((rd_T48 t196 x107_2).f1) ≤ ((rd_T48 t196 (ji47)).f1)) = true := decide_eq_true c50
                    clear c50
                    exact absurd ((Option.some.inj H).trans hr.out) (by decide)
                   ·rw [if_neg c50] at H
                    have c50b0 : decide (((rd_T48 t196 x107_2).f1) ≤ ((rd_T48 t196 (ji47)).f1)) = false := decide_eq_false c50
                    clear c50
                    by_cases c51 : ((rd_T48 t196 (ji47)).f0) < ((rd_T48 t196 x107_2).f0)
                    ·rw [if_pos c51] at H
                     have c51b0 : decide (((rd_T48 t196 (ji47)).f0) < ((rd_T48 t196 x107_2).f0)) = true := decide_eq_true c51
                     clear c51
                     exact absurd ((Option.some.inj H).trans hr.out) (by decide)
                    ·rw [if_neg c51] at H
                     have c51b0 : decide (((rd_T48 t196 (ji47)).f0) < ((rd_T48 t196 x107_2).f0)) = false := decide_eq_false c51
                     clear c51
                     have H' := Aside0.mk H
                     clear H
                     have p207 : 0 ≤ (x107_2 : Int) := of_decide_eq_true (by first | (with_reducible assumption) | assumption)
                     have q207 : x107_2 < (t196.length : Int) := of_decide_eq_true (by first | (with_reducible assumption) | assumption)
                     obtain ⟨ad207, e207, hx207_0, hx207_1⟩ := at_T48 (Kd.R_reads' HO_105.out).2.2 x107_2 p207 q207
                     cases e207
                     replace p207 := eq_true p207
                     replace q207 := eq_true q207
                     go_wp2_with (first | ((with_reducible refine gate_dst (N := 11) rfl ?_); (try (refine gate_guard (by rfl) ?_; dsimp only)); refine box_event ?hg (N := 11) ?hd (cs := #[.int .i64 0, .int .i64 0]) (t := 48) ?hr ?_; (case hd => rfl); (case hg => rfl); (case hr => first | (go_simp; done) | (go_simp; rfl)); intro gb208 hg w52 hbox hb; have n0_ := Aside0.mk (Kd.R_below (Kd.R_elderB (by (with_reducible repeat (first | apply Kd.R_alloc | apply Kd.R_drewN | apply Kd.R_drew)); exact HO_8.out) gb208 (Nat.le_of_eq hg.symm)) hb); have n1_ := Aside0.mk (Kd.R_below (Kd.R_elderB (by (with_reducible repeat (first | apply Kd.R_alloc | apply Kd.R_drewN | apply Kd.R_drew)); exact HO_105.out) gb208 (Nat.le_of_eq hg.symm)) hb); have n2_ := Aside0.mk (below_step (by repeat (first | (with_reducible first | exact HB.out | apply below_alloc | apply pw_below_drewN | apply below_drew1) | exact HB.out)) hb); have n3_ := Aside0.mk (hbox); have n4_ := Aside0.mk ((by rw [hg]; exact (below_size (by repeat (first | (with_reducible first | exact HB.out | apply below_alloc | apply pw_below_drewN | apply below_drew1) | exact HB.out))) : w.heap.size ≤ gb208)); have n5_ := Aside0.mk ((by rw [hg]; exact (below_size (by repeat (first | (with_reducible first | exact HB.out | apply below_alloc | apply pw_below_drewN | apply below_drew1) | exact HB.out))) : w.heap.size ≤ gb208)); clear HO_8; clear HO_105; clear HB; have HO_8 := n0_; have HO_105 := n1_; have HB := n2_; have BK208 := n3_; have GW208 := n4_; have GE208 := n5_; clear n0_ n1_ n2_ n3_ n4_ n5_; clear hb hbox hg; have hcz53_0 : w52.cell? ⟨gb208, 0, none⟩ = some (.int .i64 0) := (blk_cell BK208.out 0).trans rfl; have hcz53_1 : w52.cell? ⟨gb208, 1, none⟩ = some (.int .i64 0) := (blk_cell BK208.out 1).trans rfl; have hfz53_0 := blk_frozen BK208.out 0; have hfz53_1 := blk_frozen BK208.out 1; have p209 : 0 ≤ ((ji47) : Int) := of_decide_eq_true (by first | (with_reducible assumption) | assumption); have q209 : (ji47) < (t196.length : Int) := of_decide_eq_true (by first | (with_reducible assumption) | assumption); obtain ⟨ad209, e209, hx209_0, hx209_1⟩ := at_T48 (Kd.R_reads' HO_8.out).2.2 (ji47) p209 q209; obtain rfl : ad207 = ad209 := (by injection e209); have hn209_0 : ad207.block ≠ gb208 := (by first | exact Kd.own_blk (Kd.R_ne HO_8.out BK208.out (by decide)) | exact (HO_8.out.1 _ rfl).2 | exact (HO_8.out.1 _ (by simp [Value.ownBlock])).2); have hn209_1 : ad207.block ≠ gb208 := (by first | exact Kd.own_blk (Kd.R_ne HO_8.out BK208.out (by decide)) | exact (HO_8.out.1 _ rfl).2 | exact (HO_8.out.1 _ (by simp [Value.ownBlock])).2); replace hx209_0 := (cell_far (p := ⟨gb208, 0, none⟩) (by first | (rw [add_block]; exact hn209_0) | (show (Addr.add _ _).block ≠ _; rw [add_block]; exact hn209_0) | exact hn209_0) (.int .i64 ((rd_T48 t196 x107_2).f0))).trans hx209_0; replace hx209_1 := (cell_far (p := ⟨gb208, 0, none⟩) (by first | (rw [add_block]; exact hn209_0) | (show (Addr.add _ _).block ≠ _; rw [add_block]; exact hn209_0) | exact hn209_0) (.int .i64 ((rd_T48 t196 x107_2).f0))).trans hx209_1; replace hx209_0 := (cell_far (p := ⟨gb208, 1, none⟩) (by first | (rw [add_block]; exact hn209_1) | (show (Addr.add _ _).block ≠ _; rw [add_block]; exact hn209_1) | exact hn209_1) (.int .i64 ((rd_T48 t196 x107_2).f1))).trans hx209_0; replace hx209_1 := (cell_far (p := ⟨gb208, 1, none⟩) (by first | (rw [add_block]; exact hn209_1) | (show (Addr.add _ _).block ≠ _; rw [add_block]; exact hn209_1) | exact hn209_1) (.int .i64 ((rd_T48 t196 x107_2).f1))).trans hx209_1; (try have hy209_0 := fun (n_ : Nat) => (show ((((w52.drewN n_).setCell ⟨gb208, 0, none⟩ (.int .i64 ((rd_T48 t196 x107_2).f0))).setCell ⟨gb208, 1, none⟩ (.int .i64 ((rd_T48 t196 x107_2).f1)))).cell? _ = some _ from hx209_0)); (try have hy209_1 := fun (n_ : Nat) => (show ((((w52.drewN n_).setCell ⟨gb208, 0, none⟩ (.int .i64 ((rd_T48 t196 x107_2).f0))).setCell ⟨gb208, 1, none⟩ (.int .i64 ((rd_T48 t196 x107_2).f1)))).cell? _ = some _ from hx209_1)); clear hn209_0; clear hn209_1; replace p209 := eq_true p209; replace q209 := eq_true q209; have p210 : 0 ≤ ((ji47) : Int) := of_decide_eq_true (by first | (with_reducible assumption) | assumption); have q210 : (ji47) < (t196.length : Int) := of_decide_eq_true (by first | (with_reducible assumption) | assumption); obtain ⟨ad210, e210, hx210_0, hx210_1⟩ := at_T48 (Kd.R_reads' HO_8.out).2.2 (ji47) p210 q210; obtain rfl : ad207 = ad210 := (by injection e210); have hn210_0 : ad207.block ≠ gb208 := (by first | exact Kd.own_blk (Kd.R_ne HO_8.out BK208.out (by decide)) | exact (HO_8.out.1 _ rfl).2 | exact (HO_8.out.1 _ (by simp [Value.ownBlock])).2); have hn210_1 : ad207.block ≠ gb208 := (by first | exact Kd.own_blk (Kd.R_ne HO_8.out BK208.out (by decide)) | exact (HO_8.out.1 _ rfl).2 | exact (HO_8.out.1 _ (by simp [Value.ownBlock])).2); replace hx210_0 := (cell_far (p := ⟨gb208, 0, none⟩) (by first | (rw [add_block]; exact hn210_0) | (show (Addr.add _ _).block ≠ _; rw [add_block]; exact hn210_0) | exact hn210_0) (.int .i64 ((rd_T48 t196 x107_2).f0))).trans hx210_0; replace hx210_1 := (cell_far (p := ⟨gb208, 0, none⟩) (by first | (rw [add_block]; exact hn210_0) | (show (Addr.add _ _).block ≠ _; rw [add_block]; exact hn210_0) | exact hn210_0) (.int .i64 ((rd_T48 t196 x107_2).f0))).trans hx210_1; replace hx210_0 := (cell_far (p := ⟨gb208, 1, none⟩) (by first | (rw [add_block]; exact hn210_1) | (show (Addr.add _ _).block ≠ _; rw [add_block]; exact hn210_1) | exact hn210_1) (.int .i64 ((rd_T48 t196 x107_2).f1))).trans hx210_0; replace hx210_1 := (cell_far (p := ⟨gb208, 1, none⟩) (by first | (rw [add_block]; exact hn210_1) | (show (Addr.add _ _).block ≠ _; rw [add_block]; exact hn210_1) | exact hn210_1) (.int .i64 ((rd_T48 t196 x107_2).f1))).trans hx210_1; (try have hy210_0 := fun (n_ : Nat) => (show ((((w52.drewN n_).setCell ⟨gb208, 0, none⟩ (.int .i64 ((rd_T48 t196 x107_2).f0))).setCell ⟨gb208, 1, none⟩ (.int .i64 ((rd_T48 t196 x107_2).f1)))).cell? _ = some _ from hx210_0)); (try have hy210_1 := fun (n_ : Nat) => (show ((((w52.drewN n_).setCell ⟨gb208, 0, none⟩ (.int .i64 ((rd_T48 t196 x107_2).f0))).setCell ⟨gb208, 1, none⟩ (.int .i64 ((rd_T48 t196 x107_2).f1)))).cell? _ = some _ from hx210_1)); clear hn210_0; clear hn210_1; replace p210 := eq_true p210; replace q210 := eq_true q210))
                     repeat (go_quiet (first | ((with_reducible refine gate_dst (N := 11) rfl ?_); (try (refine gate_guard (by rfl) ?_; dsimp only)); refine box_event ?hg (N := 11) ?hd (cs := #[.int .i64 0, .int .i64 0]) (t := 48) ?hr ?_; (case hd => rfl); (case hg => rfl); (case hr => first | (go_simp; done) | (go_simp; rfl)); intro gb208 hg w52 hbox hb; have n0_ := Aside0.mk (Kd.R_below (Kd.R_elderB (by (with_reducible repeat (first | apply Kd.R_alloc | apply Kd.R_drewN | apply Kd.R_drew)); exact HO_8.out) gb208 (Nat.le_of_eq hg.symm)) hb); have n1_ := Aside0.mk (Kd.R_below (Kd.R_elderB (by (with_reducible repeat (first | apply Kd.R_alloc | apply Kd.R_drewN | apply Kd.R_drew)); exact HO_105.out) gb208 (Nat.le_of_eq hg.symm)) hb); have n2_ := Aside0.mk (below_step (by repeat (first | (with_reducible first | exact HB.out | apply below_alloc | apply pw_below_drewN | apply below_drew1) | exact HB.out)) hb); have n3_ := Aside0.mk (hbox); have n4_ := Aside0.mk ((by rw [hg]; exact (below_size (by repeat (first | (with_reducible first | exact HB.out | apply below_alloc | apply pw_below_drewN | apply below_drew1) | exact HB.out))) : w.heap.size ≤ gb208)); have n5_ := Aside0.mk ((by rw [hg]; exact (below_size (by repeat (first | (with_reducible first | exact HB.out | apply below_alloc | apply pw_below_drewN | apply below_drew1) | exact HB.out))) : w.heap.size ≤ gb208)); clear HO_8; clear HO_105; clear HB; have HO_8 := n0_; have HO_105 := n1_; have HB := n2_; have BK208 := n3_; have GW208 := n4_; have GE208 := n5_; clear n0_ n1_ n2_ n3_ n4_ n5_; clear hb hbox hg; have hcz53_0 : w52.cell? ⟨gb208, 0, none⟩ = some (.int .i64 0) := (blk_cell BK208.out 0).trans rfl; have hcz53_1 : w52.cell? ⟨gb208, 1, none⟩ = some (.int .i64 0) := (blk_cell BK208.out 1).trans rfl; have hfz53_0 := blk_frozen BK208.out 0; have hfz53_1 := blk_frozen BK208.out 1; have p209 : 0 ≤ ((ji47) : Int) := of_decide_eq_true (by first | (with_reducible assumption) | assumption); have q209 : (ji47) < (t196.length : Int) := of_decide_eq_true (by first | (with_reducible assumption) | assumption); obtain ⟨ad209, e209, hx209_0, hx209_1⟩ := at_T48 (Kd.R_reads' HO_8.out).2.2 (ji47) p209 q209; obtain rfl : ad207 = ad209 := (by injection e209); have hn209_0 : ad207.block ≠ gb208 := (by first | exact Kd.own_blk (Kd.R_ne HO_8.out BK208.out (by decide)) | exact (HO_8.out.1 _ rfl).2 | exact (HO_8.out.1 _ (by simp [Value.ownBlock])).2); have hn209_1 : ad207.block ≠ gb208 := (by first | exact Kd.own_blk (Kd.R_ne HO_8.out BK208.out (by decide)) | exact (HO_8.out.1 _ rfl).2 | exact (HO_8.out.1 _ (by simp [Value.ownBlock])).2); replace hx209_0 := (cell_far (p := ⟨gb208, 0, none⟩) (by first | (rw [add_block]; exact hn209_0) | (show (Addr.add _ _).block ≠ _; rw [add_block]; exact hn209_0) | exact hn209_0) (.int .i64 ((rd_T48 t196 x107_2).f0))).trans hx209_0; replace hx209_1 := (cell_far (p := ⟨gb208, 0, none⟩) (by first | (rw [add_block]; exact hn209_0) | (show (Addr.add _ _).block ≠ _; rw [add_block]; exact hn209_0) | exact hn209_0) (.int .i64 ((rd_T48 t196 x107_2).f0))).trans hx209_1; replace hx209_0 := (cell_far (p := ⟨gb208, 1, none⟩) (by first | (rw [add_block]; exact hn209_1) | (show (Addr.add _ _).block ≠ _; rw [add_block]; exact hn209_1) | exact hn209_1) (.int .i64 ((rd_T48 t196 x107_2).f1))).trans hx209_0; replace hx209_1 := (cell_far (p := ⟨gb208, 1, none⟩) (by first | (rw [add_block]; exact hn209_1) | (show (Addr.add _ _).block ≠ _; rw [add_block]; exact hn209_1) | exact hn209_1) (.int .i64 ((rd_T48 t196 x107_2).f1))).trans hx209_1; (try have hy209_0 := fun (n_ : Nat) => (show ((((w52.drewN n_).setCell ⟨gb208, 0, none⟩ (.int .i64 ((rd_T48 t196 x107_2).f0))).setCell ⟨gb208, 1, none⟩ (.int .i64 ((rd_T48 t196 x107_2).f1)))).cell? _ = some _ from hx209_0)); (try have hy209_1 := fun (n_ : Nat) => (show ((((w52.drewN n_).setCell ⟨gb208, 0, none⟩ (.int .i64 ((rd_T48 t196 x107_2).f0))).setCell ⟨gb208, 1, none⟩ (.int .i64 ((rd_T48 t196 x107_2).f1)))).cell? _ = some _ from hx209_1)); clear hn209_0; clear hn209_1; replace p209 := eq_true p209; replace q209 := eq_true q209; have p210 : 0 ≤ ((ji47) : Int) := of_decide_eq_true (by first | (with_reducible assumption) | assumption); have q210 : (ji47) < (t196.length : Int) := of_decide_eq_true (by first | (with_reducible assumption) | assumption); obtain ⟨ad210, e210, hx210_0, hx210_1⟩ := at_T48 (Kd.R_reads' HO_8.out).2.2 (ji47) p210 q210; obtain rfl : ad207 = ad210 := (by injection e210); have hn210_0 : ad207.block ≠ gb208 := (by first | exact Kd.own_blk (Kd.R_ne HO_8.out BK208.out (by decide)) | exact (HO_8.out.1 _ rfl).2 | exact (HO_8.out.1 _ (by simp [Value.ownBlock])).2); have hn210_1 : ad207.block ≠ gb208 := (by first | exact Kd.own_blk (Kd.R_ne HO_8.out BK208.out (by decide)) | exact (HO_8.out.1 _ rfl).2 | exact (HO_8.out.1 _ (by simp [Value.ownBlock])).2); replace hx210_0 := (cell_far (p := ⟨gb208, 0, none⟩) (by first | (rw [add_block]; exact hn210_0) | (show (Addr.add _ _).block ≠ _; rw [add_block]; exact hn210_0) | exact hn210_0) (.int .i64 ((rd_T48 t196 x107_2).f0))).trans hx210_0; replace hx210_1 := (cell_far (p := ⟨gb208, 0, none⟩) (by first | (rw [add_block]; exact hn210_0) | (show (Addr.add _ _).block ≠ _; rw [add_block]; exact hn210_0) | exact hn210_0) (.int .i64 ((rd_T48 t196 x107_2).f0))).trans hx210_1; replace hx210_0 := (cell_far (p := ⟨gb208, 1, none⟩) (by first | (rw [add_block]; exact hn210_1) | (show (Addr.add _ _).block ≠ _; rw [add_block]; exact hn210_1) | exact hn210_1) (.int .i64 ((rd_T48 t196 x107_2).f1))).trans hx210_0; replace hx210_1 := (cell_far (p := ⟨gb208, 1, none⟩) (by first | (rw [add_block]; exact hn210_1) | (show (Addr.add _ _).block ≠ _; rw [add_block]; exact hn210_1) | exact hn210_1) (.int .i64 ((rd_T48 t196 x107_2).f1))).trans hx210_1; (try have hy210_0 := fun (n_ : Nat) => (show ((((w52.drewN n_).setCell ⟨gb208, 0, none⟩ (.int .i64 ((rd_T48 t196 x107_2).f0))).setCell ⟨gb208, 1, none⟩ (.int .i64 ((rd_T48 t196 x107_2).f1)))).cell? _ = some _ from hx210_0)); (try have hy210_1 := fun (n_ : Nat) => (show ((((w52.drewN n_).setCell ⟨gb208, 0, none⟩ (.int .i64 ((rd_T48 t196 x107_2).f0))).setCell ⟨gb208, 1, none⟩ (.int .i64 ((rd_T48 t196 x107_2).f1)))).cell? _ = some _ from hx210_1)); clear hn210_0; clear hn210_1; replace p210 := eq_true p210; replace q210 := eq_true q210)); try go_wp2_with (first | ((with_reducible refine gate_dst (N := 11) rfl ?_); (try (refine gate_guard (by rfl) ?_; dsimp only)); refine box_event ?hg (N := 11) ?hd (cs := #[.int .i64 0, .int .i64 0]) (t := 48) ?hr ?_; (case hd => rfl); (case hg => rfl); (case hr => first | (go_simp; done) | (go_simp; rfl)); intro gb208 hg w52 hbox hb; have n0_ := Aside0.mk (Kd.R_below (Kd.R_elderB (by (with_reducible repeat (first | apply Kd.R_alloc | apply Kd.R_drewN | apply Kd.R_drew)); exact HO_8.out) gb208 (Nat.le_of_eq hg.symm)) hb); have n1_ := Aside0.mk (Kd.R_below (Kd.R_elderB (by (with_reducible repeat (first | apply Kd.R_alloc | apply Kd.R_drewN | apply Kd.R_drew)); exact HO_105.out) gb208 (Nat.le_of_eq hg.symm)) hb); have n2_ := Aside0.mk (below_step (by repeat (first | (with_reducible first | exact HB.out | apply below_alloc | apply pw_below_drewN | apply below_drew1) | exact HB.out)) hb); have n3_ := Aside0.mk (hbox); have n4_ := Aside0.mk ((by rw [hg]; exact (below_size (by repeat (first | (with_reducible first | exact HB.out | apply below_alloc | apply pw_below_drewN | apply below_drew1) | exact HB.out))) : w.heap.size ≤ gb208)); have n5_ := Aside0.mk ((by rw [hg]; exact (below_size (by repeat (first | (with_reducible first | exact HB.out | apply below_alloc | apply pw_below_drewN | apply below_drew1) | exact HB.out))) : w.heap.size ≤ gb208)); clear HO_8; clear HO_105; clear HB; have HO_8 := n0_; have HO_105 := n1_; have HB := n2_; have BK208 := n3_; have GW208 := n4_; have GE208 := n5_; clear n0_ n1_ n2_ n3_ n4_ n5_; clear hb hbox hg; have hcz53_0 : w52.cell? ⟨gb208, 0, none⟩ = some (.int .i64 0) := (blk_cell BK208.out 0).trans rfl; have hcz53_1 : w52.cell? ⟨gb208, 1, none⟩ = some (.int .i64 0) := (blk_cell BK208.out 1).trans rfl; have hfz53_0 := blk_frozen BK208.out 0; have hfz53_1 := blk_frozen BK208.out 1; have p209 : 0 ≤ ((ji47) : Int) := of_decide_eq_true (by first | (with_reducible assumption) | assumption); have q209 : (ji47) < (t196.length : Int) := of_decide_eq_true (by first | (with_reducible assumption) | assumption); obtain ⟨ad209, e209, hx209_0, hx209_1⟩ := at_T48 (Kd.R_reads' HO_8.out).2.2 (ji47) p209 q209; obtain rfl : ad207 = ad209 := (by injection e209); have hn209_0 : ad207.block ≠ gb208 := (by first | exact Kd.own_blk (Kd.R_ne HO_8.out BK208.out (by decide)) | exact (HO_8.out.1 _ rfl).2 | exact (HO_8.out.1 _ (by simp [Value.ownBlock])).2); have hn209_1 : ad207.block ≠ gb208 := (by first | exact Kd.own_blk (Kd.R_ne HO_8.out BK208.out (by decide)) | exact (HO_8.out.1 _ rfl).2 | exact (HO_8.out.1 _ (by simp [Value.ownBlock])).2); replace hx209_0 := (cell_far (p := ⟨gb208, 0, none⟩) (by first | (rw [add_block]; exact hn209_0) | (show (Addr.add _ _).block ≠ _; rw [add_block]; exact hn209_0) | exact hn209_0) (.int .i64 ((rd_T48 t196 x107_2).f0))).trans hx209_0; replace hx209_1 := (cell_far (p := ⟨gb208, 0, none⟩) (by first | (rw [add_block]; exact hn209_0) | (show (Addr.add _ _).block ≠ _; rw [add_block]; exact hn209_0) | exact hn209_0) (.int .i64 ((rd_T48 t196 x107_2).f0))).trans hx209_1; replace hx209_0 := (cell_far (p := ⟨gb208, 1, none⟩) (by first | (rw [add_block]; exact hn209_1) | (show (Addr.add _ _).block ≠ _; rw [add_block]; exact hn209_1) | exact hn209_1) (.int .i64 ((rd_T48 t196 x107_2).f1))).trans hx209_0; replace hx209_1 := (cell_far (p := ⟨gb208, 1, none⟩) (by first | (rw [add_block]; exact hn209_1) | (show (Addr.add _ _).block ≠ _; rw [add_block]; exact hn209_1) | exact hn209_1) (.int .i64 ((rd_T48 t196 x107_2).f1))).trans hx209_1; (try have hy209_0 := fun (n_ : Nat) => (show ((((w52.drewN n_).setCell ⟨gb208, 0, none⟩ (.int .i64 ((rd_T48 t196 x107_2).f0))).setCell ⟨gb208, 1, none⟩ (.int .i64 ((rd_T48 t196 x107_2).f1)))).cell? _ = some _ from hx209_0)); (try have hy209_1 := fun (n_ : Nat) => (show ((((w52.drewN n_).setCell ⟨gb208, 0, none⟩ (.int .i64 ((rd_T48 t196 x107_2).f0))).setCell ⟨gb208, 1, none⟩ (.int .i64 ((rd_T48 t196 x107_2).f1)))).cell? _ = some _ from hx209_1)); clear hn209_0; clear hn209_1; replace p209 := eq_true p209; replace q209 := eq_true q209; have p210 : 0 ≤ ((ji47) : Int) := of_decide_eq_true (by first | (with_reducible assumption) | assumption); have q210 : (ji47) < (t196.length : Int) := of_decide_eq_true (by first | (with_reducible assumption) | assumption); obtain ⟨ad210, e210, hx210_0, hx210_1⟩ := at_T48 (Kd.R_reads' HO_8.out).2.2 (ji47) p210 q210; obtain rfl : ad207 = ad210 := (by injection e210); have hn210_0 : ad207.block ≠ gb208 := (by first | exact Kd.own_blk (Kd.R_ne HO_8.out BK208.out (by decide)) | exact (HO_8.out.1 _ rfl).2 | exact (HO_8.out.1 _ (by simp [Value.ownBlock])).2); have hn210_1 : ad207.block ≠ gb208 := (by first | exact Kd.own_blk (Kd.R_ne HO_8.out BK208.out (by decide)) | exact (HO_8.out.1 _ rfl).2 | exact (HO_8.out.1 _ (by simp [Value.ownBlock])).2); replace hx210_0 := (cell_far (p := ⟨gb208, 0, none⟩) (by first | (rw [add_block]; exact hn210_0) | (show (Addr.add _ _).block ≠ _; rw [add_block]; exact hn210_0) | exact hn210_0) (.int .i64 ((rd_T48 t196 x107_2).f0))).trans hx210_0; replace hx210_1 := (cell_far (p := ⟨gb208, 0, none⟩) (by first | (rw [add_block]; exact hn210_0) | (show (Addr.add _ _).block ≠ _; rw [add_block]; exact hn210_0) | exact hn210_0) (.int .i64 ((rd_T48 t196 x107_2).f0))).trans hx210_1; replace hx210_0 := (cell_far (p := ⟨gb208, 1, none⟩) (by first | (rw [add_block]; exact hn210_1) | (show (Addr.add _ _).block ≠ _; rw [add_block]; exact hn210_1) | exact hn210_1) (.int .i64 ((rd_T48 t196 x107_2).f1))).trans hx210_0; replace hx210_1 := (cell_far (p := ⟨gb208, 1, none⟩) (by first | (rw [add_block]; exact hn210_1) | (show (Addr.add _ _).block ≠ _; rw [add_block]; exact hn210_1) | exact hn210_1) (.int .i64 ((rd_T48 t196 x107_2).f1))).trans hx210_1; (try have hy210_0 := fun (n_ : Nat) => (show ((((w52.drewN n_).setCell ⟨gb208, 0, none⟩ (.int .i64 ((rd_T48 t196 x107_2).f0))).setCell ⟨gb208, 1, none⟩ (.int .i64 ((rd_T48 t196 x107_2).f1)))).cell? _ = some _ from hx210_0)); (try have hy210_1 := fun (n_ : Nat) => (show ((((w52.drewN n_).setCell ⟨gb208, 0, none⟩ (.int .i64 ((rd_T48 t196 x107_2).f0))).setCell ⟨gb208, 1, none⟩ (.int .i64 ((rd_T48 t196 x107_2).f1)))).cell? _ = some _ from hx210_1)); clear hn210_0; clear hn210_1; replace p210 := eq_true p210; replace q210 := eq_true q210)))
                     go_roundg k2
                     case measure => have := HJ11.out; have := HK2.out; omega
                     case rel => exact ⟨(wrap64 (x107_2 + 1)), (by first | rfl | (simp; done) | (simp [*]; done)), H', ⟨by have := HJ11.out; have := HK2.out; omega⟩, ⟨by (with_reducible repeat (first | apply Kd.R_alloc | apply Kd.R_drewN | apply Kd.R_drew)); exact Kd.R_mono (Kd.R_far (p := ⟨gb208, 1, none⟩) (Kd.R_far (p := ⟨gb208, 0, none⟩) (Kd.R_mono HO_8.out (fun k_ hk => (⟨hk, hk.2⟩ : _ ∧ k_ ≠ gb208))) (fun _ hk => hk.2) (.int .i64 ((rd_T48 t196 x107_2).f0))) (fun _ hk => hk.2) (.int .i64 ((rd_T48 t196 x107_2).f1))) (fun _ hk => trivial)⟩, ⟨by (with_reducible repeat (first | apply Kd.R_alloc | apply Kd.R_drewN | apply Kd.R_drew)); exact Kd.R_mono (Kd.R_far (p := ⟨gb208, 1, none⟩) (Kd.R_far (p := ⟨gb208, 0, none⟩) (Kd.R_mono HO_105.out (fun k_ hk => (⟨hk, hk.2⟩ : _ ∧ k_ ≠ gb208))) (fun _ hk => hk.2) (.int .i64 ((rd_T48 t196 x107_2).f0))) (fun _ hk => hk.2) (.int .i64 ((rd_T48 t196 x107_2).f1))) (fun _ hk => trivial)⟩, ⟨by repeat (first | (with_reducible first | exact HB.out | apply below_alloc | apply pw_below_drewN | apply below_drew1 | refine below_set ?_ GE208.out) | exact HB.out)⟩⟩
                  ·rw [if_neg c49] at H
                   exact absurd H (by simp)
                 ·rw [if_neg c48] at H
                  exact absurd H (by simp)
                ·rw [if_neg c46] at H
                 have c46b0 : decide (0 < x107_2) = false := decide_eq_false c46
                 clear c46
                 have H' := Aside0.mk H
                 clear H
                 have p207 : 0 ≤ (x107_2 : Int) := of_decide_eq_true (by first | (with_reducible assumption) | assumption)
                 have q207 : x107_2 < (t196.length : Int) := of_decide_eq_true (by first | (with_reducible assumption) | assumption)
                 obtain ⟨ad207, e207, hx207_0, hx207_1⟩ := at_T48 (Kd.R_reads' HO_105.out).2.2 x107_2 p207 q207
                 cases e207
                 replace p207 := eq_true p207
                 replace q207 := eq_true q207
                 go_wp2_with (first | ((with_reducible refine gate_dst (N := 11) rfl ?_); (try (refine gate_guard (by rfl) ?_; dsimp only)); refine box_event ?hg (N := 11) ?hd (cs := #[.int .i64 0, .int .i64 0]) (t := 48) ?hr ?_; (case hd => rfl); (case hg => rfl); (case hr => first | (go_simp; done) | (go_simp; rfl)); intro gb208 hg w54 hbox hb; have n0_ := Aside0.mk (Kd.R_below (Kd.R_elderB (by (with_reducible repeat (first | apply Kd.R_alloc | apply Kd.R_drewN | apply Kd.R_drew)); exact HO_8.out) gb208 (Nat.le_of_eq hg.symm)) hb); have n1_ := Aside0.mk (Kd.R_below (Kd.R_elderB (by (with_reducible repeat (first | apply Kd.R_alloc | apply Kd.R_drewN | apply Kd.R_drew)); exact HO_105.out) gb208 (Nat.le_of_eq hg.symm)) hb); have n2_ := Aside0.mk (below_step (by repeat (first | (with_reducible first | exact HB.out | apply below_alloc | apply pw_below_drewN | apply below_drew1) | exact HB.out)) hb); have n3_ := Aside0.mk (hbox); have n4_ := Aside0.mk ((by rw [hg]; exact (below_size (by repeat (first | (with_reducible first | exact HB.out | apply below_alloc | apply pw_below_drewN | apply below_drew1) | exact HB.out))) : w.heap.size ≤ gb208)); have n5_ := Aside0.mk ((by rw [hg]; exact (below_size (by repeat (first | (with_reducible first | exact HB.out | apply below_alloc | apply pw_below_drewN | apply below_drew1) | exact HB.out))) : w.heap.size ≤ gb208)); clear HO_8; clear HO_105; clear HB; have HO_8 := n0_; have HO_105 := n1_; have HB := n2_; have BK208 := n3_; have GW208 := n4_; have GE208 := n5_; clear n0_ n1_ n2_ n3_ n4_ n5_; clear hb hbox hg; have hcz55_0 : w54.cell? ⟨gb208, 0, none⟩ = some (.int .i64 0) := (blk_cell BK208.out 0).trans rfl; have hcz55_1 : w54.cell? ⟨gb208, 1, none⟩ = some (.int .i64 0) := (blk_cell BK208.out 1).trans rfl; have hfz55_0 := blk_frozen BK208.out 0; have hfz55_1 := blk_frozen BK208.out 1))
                 repeat (go_quiet (first | ((with_reducible refine gate_dst (N := 11) rfl ?_); (try (refine gate_guard (by rfl) ?_; dsimp only)); refine box_event ?hg (N := 11) ?hd (cs := #[.int .i64 0, .int .i64 0]) (t := 48) ?hr ?_; (case hd => rfl); (case hg => rfl); (case hr => first | (go_simp; done) | (go_simp; rfl)); intro gb208 hg w54 hbox hb; have n0_ := Aside0.mk (Kd.R_below (Kd.R_elderB (by (with_reducible repeat (first | apply Kd.R_alloc | apply Kd.R_drewN | apply Kd.R_drew)); exact HO_8.out) gb208 (Nat.le_of_eq hg.symm)) hb); have n1_ := Aside0.mk (Kd.R_below (Kd.R_elderB (by (with_reducible repeat (first | apply Kd.R_alloc | apply Kd.R_drewN | apply Kd.R_drew)); exact HO_105.out) gb208 (Nat.le_of_eq hg.symm)) hb); have n2_ := Aside0.mk (below_step (by repeat (first | (with_reducible first | exact HB.out | apply below_alloc | apply pw_below_drewN | apply below_drew1) | exact HB.out)) hb); have n3_ := Aside0.mk (hbox); have n4_ := Aside0.mk ((by rw [hg]; exact (below_size (by repeat (first | (with_reducible first | exact HB.out | apply below_alloc | apply pw_below_drewN | apply below_drew1) | exact HB.out))) : w.heap.size ≤ gb208)); have n5_ := Aside0.mk ((by rw [hg]; exact (below_size (by repeat (first | (with_reducible first | exact HB.out | apply below_alloc | apply pw_below_drewN | apply below_drew1) | exact HB.out))) : w.heap.size ≤ gb208)); clear HO_8; clear HO_105; clear HB; have HO_8 := n0_; have HO_105 := n1_; have HB := n2_; have BK208 := n3_; have GW208 := n4_; have GE208 := n5_; clear n0_ n1_ n2_ n3_ n4_ n5_; clear hb hbox hg; have hcz55_0 : w54.cell? ⟨gb208, 0, none⟩ = some (.int .i64 0) := (blk_cell BK208.out 0).trans rfl; have hcz55_1 : w54.cell? ⟨gb208, 1, none⟩ = some (.int .i64 0) := (blk_cell BK208.out 1).trans rfl; have hfz55_0 := blk_frozen BK208.out 0; have hfz55_1 := blk_frozen BK208.out 1)); try go_wp2_with (first | ((with_reducible refine gate_dst (N := 11) rfl ?_); (try (refine gate_guard (by rfl) ?_; dsimp only)); refine box_event ?hg (N := 11) ?hd (cs := #[.int .i64 0, .int .i64 0]) (t := 48) ?hr ?_; (case hd => rfl); (case hg => rfl); (case hr => first | (go_simp; done) | (go_simp; rfl)); intro gb208 hg w54 hbox hb; have n0_ := Aside0.mk (Kd.R_below (Kd.R_elderB (by (with_reducible repeat (first | apply Kd.R_alloc | apply Kd.R_drewN | apply Kd.R_drew)); exact HO_8.out) gb208 (Nat.le_of_eq hg.symm)) hb); have n1_ := Aside0.mk (Kd.R_below (Kd.R_elderB (by (with_reducible repeat (first | apply Kd.R_alloc | apply Kd.R_drewN | apply Kd.R_drew)); exact HO_105.out) gb208 (Nat.le_of_eq hg.symm)) hb); have n2_ := Aside0.mk (below_step (by repeat (first | (with_reducible first | exact HB.out | apply below_alloc | apply pw_below_drewN | apply below_drew1) | exact HB.out)) hb); have n3_ := Aside0.mk (hbox); have n4_ := Aside0.mk ((by rw [hg]; exact (below_size (by repeat (first | (with_reducible first | exact HB.out | apply below_alloc | apply pw_below_drewN | apply below_drew1) | exact HB.out))) : w.heap.size ≤ gb208)); have n5_ := Aside0.mk ((by rw [hg]; exact (below_size (by repeat (first | (with_reducible first | exact HB.out | apply below_alloc | apply pw_below_drewN | apply below_drew1) | exact HB.out))) : w.heap.size ≤ gb208)); clear HO_8; clear HO_105; clear HB; have HO_8 := n0_; have HO_105 := n1_; have HB := n2_; have BK208 := n3_; have GW208 := n4_; have GE208 := n5_; clear n0_ n1_ n2_ n3_ n4_ n5_; clear hb hbox hg; have hcz55_0 : w54.cell? ⟨gb208, 0, none⟩ = some (.int .i64 0) := (blk_cell BK208.out 0).trans rfl; have hcz55_1 : w54.cell? ⟨gb208, 1, none⟩ = some (.int .i64 0) := (blk_cell BK208.out 1).trans rfl; have hfz55_0 := blk_frozen BK208.out 0; have hfz55_1 := blk_frozen BK208.out 1)))
                 go_roundg k2
                 case measure => have := HJ11.out; have := HK2.out; omega
                 case rel => exact ⟨(wrap64 (x107_2 + 1)), (by first | rfl | (simp; done) | (simp [*]; done)), H', ⟨by have := HJ11.out; have := HK2.out; omega⟩, ⟨by (with_reducible repeat (first | apply Kd.R_alloc | apply Kd.R_drewN | apply Kd.R_drew)); exact Kd.R_mono (Kd.R_far (p := ⟨gb208, 1, none⟩) (Kd.R_far (p := ⟨gb208, 0, none⟩) (Kd.R_mono HO_8.out (fun k_ hk => (⟨hk, hk.2⟩ : _ ∧ k_ ≠ gb208))) (fun _ hk => hk.2) (.int .i64 ((rd_T48 t196 x107_2).f0))) (fun _ hk => hk.2) (.int .i64 ((rd_T48 t196 x107_2).f1))) (fun _ hk => trivial)⟩, ⟨by (with_reducible repeat (first | apply Kd.R_alloc | apply Kd.R_drewN | apply Kd.R_drew)); exact Kd.R_mono (Kd.R_far (p := ⟨gb208, 1, none⟩) (Kd.R_far (p := ⟨gb208, 0, none⟩) (Kd.R_mono HO_105.out (fun k_ hk => (⟨hk, hk.2⟩ : _ ∧ k_ ≠ gb208))) (fun _ hk => hk.2) (.int .i64 ((rd_T48 t196 x107_2).f0))) (fun _ hk => hk.2) (.int .i64 ((rd_T48 t196 x107_2).f1))) (fun _ hk => trivial)⟩, ⟨by repeat (first | (with_reducible first | exact HB.out | apply below_alloc | apply pw_below_drewN | apply below_drew1 | refine below_set ?_ GE208.out) | exact HB.out)⟩⟩
             ·rw [if_neg c43] at H
              exact absurd H (by simp)
            ·rw [if_neg c42] at H
             exact absurd H (by simp)
           ·rw [if_neg c41] at H
            have c41b0 : decide (x107_2 < (t196.length : Int)) = false := decide_eq_false c41
            clear c41
            obtain rfl := Option.some.inj H
            go_wp2
            repeat (go_quiet (fail); try go_wp2)
            go_ret
            exact ⟨by first | rfl | (simp [errW_none, errW_some] <;> rfl) | (simp only [← hji4, ← hji7]; first | rfl | (simp [errW_none, errW_some] <;> rfl)) | (simp [*, errW_none, errW_some] <;> rfl), by repeat (first | (with_reducible first | exact HB.out | apply below_alloc | apply pw_below_drewN | apply below_drew1) | exact HB.out)⟩
     ·rw [if_neg c11] at H
      have c11b0 : (t197 == 0) = false := beq_eq_false_iff_ne.mpr c11
      have c11b1 : (t197 != 0) = true := bne_iff_ne.mpr c11
      replace H := Option.bind_eq_some_iff.mp H
      obtain ⟨t200, A560, H⟩ := H
      (try dsimp only at H)
      have A56 := Aside0.mk A560
      clear A560
      by_cases c57 : t200 = true
      ·subst c57
       have H1 : (if (t196.length : Int) = 0 then (if t197 = 1 then (some true) else (if (y191.length : Int) = 0 then (some true) else (if 0 < (y191.length : Int) then (some (decide (((rd_T46 y191 0).f0) > a2))) else (none)))) else (some false)) = some r := by rw [if_pos rfl] at H; exact H
       clear H
       have H := H1
       clear H1
       by_cases c58 : (t196.length : Int) = 0
       ·rw [if_pos c58] at H
        have c58b0 : ((t196.length : Int) == 0) = true := beq_iff_eq.mpr c58
        have c58b1 : ((t196.length : Int) != 0) = false := bne_eq_false_iff_eq.mpr c58
        clear c58
        by_cases c59 : t197 = 1
        ·rw [if_pos c59] at H
         have c59b0 : (t197 == 1) = true := beq_iff_eq.mpr c59
         have c59b1 : (t197 != 1) = false := bne_eq_false_iff_eq.mpr c59
         clear c59
         obtain rfl := Option.some.inj H
         have q60 : ((ji7) : Int) ≤ ((l1.length : Int) : Int) := of_decide_eq_true (by first | (with_reducible assumption) | assumption)
         obtain ⟨i060, hi060, _, hsz60, _⟩ := info_parts info46
         have hroom60 : l1.length ≤ c1 := HC1.out
         have hC60 : Kd.C k46 _ A1 l1.length l1 := HR1.out
         have hcut60 := cut_to (P := Tryd.prog) 36 46 .i64 Tryd.underlying36 hi060 A1 l1.length c1 (ji7) (of_decide_eq_true (by first | (with_reducible assumption) | assumption)) q60 hroom60
         have hr60 := Kd.C_take (m := ((ji7) : Int).toNat) hC60 (by omega)
         have hy60 : y191.length = ((ji7) : Int).toNat := (by rw [Ny191.out, List.length_take]; omega)
         rw [← Ny191.out] at hr60
         rw [← hy60] at hcut60
         have HR194 := Aside0.mk hr60
         have HC194 := Aside0.mk (show y191.length ≤ c1 from by omega)
         clear hr60 hC60 hroom60 hi060 hsz60
         have KY60 := Aside0.mk hy60
         clear hy60
         replace q60 := eq_true q60
         go_enter Tryd.func7, Tryd.ntmps7
         go_wp2_with (first | (go_at_call 24; (with_reducible refine (skip_Find.calls k (a0.extract 0 ((ji4) : Int).toNat) _ _ y191 a2 t195 t196 t197 _ ?side1 ?side2 A10.out (Tower.tab_below HT.out (by repeat (first | (with_reducible first | exact HB.out | apply below_alloc | apply pw_below_drewN | apply below_drew1) | exact HB.out)) (Nat.le_refl _))).mono ?_); (case side1 => repeat (first | exact HR194.out | (with_reducible refine Kd.C_alloc ?_ _) | (with_reducible refine Kd.C_drewN ?_ _) | (with_reducible refine Kd.C_drew ?_))); (case side2 => exact HC194.out); rintro e w61 ⟨v198, rfl, ho0, hb⟩; have n0_ := Aside0.mk (Kd.R_lower ho0 (below_size (by repeat (first | (with_reducible first | exact HB.out | apply below_alloc | apply pw_below_drewN | apply below_drew1) | exact HB.out)))); have n1_ := Aside0.mk (below_step (by repeat (first | (with_reducible first | exact HB.out | apply below_alloc | apply pw_below_drewN | apply below_drew1) | exact HB.out)) hb); clear HB; have HO199 := n0_; have HB := n1_; clear n0_ n1_; (try clear hb); (try clear hb2); (try clear hk); (try clear hi); (try clear ho0)) | (go_at_call 26; (with_reducible refine (saltuslaw16_alive.calls k  true _ A56.out (Tower.tab_below HT.out (by repeat (first | (with_reducible first | exact HB.out | apply below_alloc | apply pw_below_drewN | apply below_drew1) | exact HB.out)) (Nat.le_refl _))).mono ?_); rintro e w62 ⟨rfl, hb⟩; have n0_ := Aside0.mk (Kd.R_below (by (with_reducible repeat (first | apply Kd.R_alloc | apply Kd.R_drewN | apply Kd.R_drew)); exact HO199.out) hb); have n1_ := Aside0.mk (below_step (by repeat (first | (with_reducible first | exact HB.out | apply below_alloc | apply pw_below_drewN | apply below_drew1) | exact HB.out)) hb); clear HO199; clear HB; have HO199 := n0_; have HB := n1_; clear n0_ n1_; (try clear hb); (try clear hb2); (try clear hk); (try clear hi); obtain ⟨Ao63, co63, eo63⟩ := Kd.R_slice HO199.out; subst eo63))
         repeat (go_quiet (first | (go_at_call 24; (with_reducible refine (skip_Find.calls k (a0.extract 0 ((ji4) : Int).toNat) _ _ y191 a2 t195 t196 t197 _ ?side1 ?side2 A10.out (Tower.tab_below HT.out (by repeat (first | (with_reducible first | exact HB.out | apply below_alloc | apply pw_below_drewN | apply below_drew1) | exact HB.out)) (Nat.le_refl _))).mono ?_); (case side1 => repeat (first | exact HR194.out | (with_reducible refine Kd.C_alloc ?_ _) | (with_reducible refine Kd.C_drewN ?_ _) | (with_reducible refine Kd.C_drew ?_))); (case side2 => exact HC194.out); rintro e w61 ⟨v198, rfl, ho0, hb⟩; have n0_ := Aside0.mk (Kd.R_lower ho0 (below_size (by repeat (first | (with_reducible first | exact HB.out | apply below_alloc | apply pw_below_drewN | apply below_drew1) | exact HB.out)))); have n1_ := Aside0.mk (below_step (by repeat (first | (with_reducible first | exact HB.out | apply below_alloc | apply pw_below_drewN | apply below_drew1) | exact HB.out)) hb); clear HB; have HO199 := n0_; have HB := n1_; clear n0_ n1_; (try clear hb); (try clear hb2); (try clear hk); (try clear hi); (try clear ho0)) | (go_at_call 26; (with_reducible refine (saltuslaw16_alive.calls k  true _ A56.out (Tower.tab_below HT.out (by repeat (first | (with_reducible first | exact HB.out | apply below_alloc | apply pw_below_drewN | apply below_drew1) | exact HB.out)) (Nat.le_refl _))).mono ?_); rintro e w62 ⟨rfl, hb⟩; have n0_ := Aside0.mk (Kd.R_below (by (with_reducible repeat (first | apply Kd.R_alloc | apply Kd.R_drewN | apply Kd.R_drew)); exact HO199.out) hb); have n1_ := Aside0.mk (below_step (by repeat (first | (with_reducible first | exact HB.out | apply below_alloc | apply pw_below_drewN | apply below_drew1) | exact HB.out)) hb); clear HO199; clear HB; have HO199 := n0_; have HB := n1_; clear n0_ n1_; (try clear hb); (try clear hb2); (try clear hk); (try clear hi); obtain ⟨Ao63, co63, eo63⟩ := Kd.R_slice HO199.out; subst eo63)); try go_wp2_with (first | (go_at_call 24; (with_reducible refine (skip_Find.calls k (a0.extract 0 ((ji4) : Int).toNat) _ _ y191 a2 t195 t196 t197 _ ?side1 ?side2 A10.out (Tower.tab_below HT.out (by repeat (first | (with_reducible first | exact HB.out | apply below_alloc | apply pw_below_drewN | apply below_drew1) | exact HB.out)) (Nat.le_refl _))).mono ?_); (case side1 => repeat (first | exact HR194.out | (with_reducible refine Kd.C_alloc ?_ _) | (with_reducible refine Kd.C_drewN ?_ _) | (with_reducible refine Kd.C_drew ?_))); (case side2 => exact HC194.out); rintro e w61 ⟨v198, rfl, ho0, hb⟩; have n0_ := Aside0.mk (Kd.R_lower ho0 (below_size (by repeat (first | (with_reducible first | exact HB.out | apply below_alloc | apply pw_below_drewN | apply below_drew1) | exact HB.out)))); have n1_ := Aside0.mk (below_step (by repeat (first | (with_reducible first | exact HB.out | apply below_alloc | apply pw_below_drewN | apply below_drew1) | exact HB.out)) hb); clear HB; have HO199 := n0_; have HB := n1_; clear n0_ n1_; (try clear hb); (try clear hb2); (try clear hk); (try clear hi); (try clear ho0)) | (go_at_call 26; (with_reducible refine (saltuslaw16_alive.calls k  true _ A56.out (Tower.tab_below HT.out (by repeat (first | (with_reducible first | exact HB.out | apply below_alloc | apply pw_below_drewN | apply below_drew1) | exact HB.out)) (Nat.le_refl _))).mono ?_); rintro e w62 ⟨rfl, hb⟩; have n0_ := Aside0.mk (Kd.R_below (by (with_reducible repeat (first | apply Kd.R_alloc | apply Kd.R_drewN | apply Kd.R_drew)); exact HO199.out) hb); have n1_ := Aside0.mk (below_step (by repeat (first | (with_reducible first | exact HB.out | apply below_alloc | apply pw_below_drewN | apply below_drew1) | exact HB.out)) hb); clear HO199; clear HB; have HO199 := n0_; have HB := n1_; clear n0_ n1_; (try clear hb); (try clear hb2); (try clear hk); (try clear hi); obtain ⟨Ao63, co63, eo63⟩ := Kd.R_slice HO199.out; subst eo63)))
         go_ret
         exact ⟨by first | rfl | (simp [errW_none, errW_some] <;> rfl) | (simp only [← hji4, ← hji7]; first | rfl | (simp [errW_none, errW_some] <;> rfl)) | (simp [*, errW_none, errW_some] <;> rfl), by repeat (first | (with_reducible first | exact HB.out | apply below_alloc | apply pw_below_drewN | apply below_drew1) | exact HB.out)⟩
        ·rw [if_neg c59] at H
         have c59b0 : (t197 == 1) = false := beq_eq_false_iff_ne.mpr c59
         have c59b1 : (t197 != 1) = true := bne_iff_ne.mpr c59
         by_cases c64 : (y191.length : Int) = 0
         ·rw [if_pos c64] at H
          have c64b0 : ((y191.length : Int) == 0) = true := beq_iff_eq.mpr c64
          have c64b1 : ((y191.length : Int) != 0) = false := bne_eq_false_iff_eq.mpr c64
          clear c64
          obtain rfl := Option.some.inj H
          have q65 : ((ji7) : Int) ≤ ((l1.length : Int) : Int) := of_decide_eq_true (by first | (with_reducible assumption) | assumption)
          obtain ⟨i065, hi065, _, hsz65, _⟩ := info_parts info46
          have hroom65 : l1.length ≤ c1 := HC1.out
          have hC65 : Kd.C k46 _ A1 l1.length l1 := HR1.out
          have hcut65 := cut_to (P := Tryd.prog) 36 46 .i64 Tryd.underlying36 hi065 A1 l1.length c1 (ji7) (of_decide_eq_true (by first | (with_reducible assumption) | assumption)) q65 hroom65
          have hr65 := Kd.C_take (m := ((ji7) : Int).toNat) hC65 (by omega)
          have hy65 : y191.length = ((ji7) : Int).toNat := (by rw [Ny191.out, List.length_take]; omega)
          rw [← Ny191.out] at hr65
          rw [← hy65] at hcut65
          have HR194 := Aside0.mk hr65
          have HC194 := Aside0.mk (show y191.length ≤ c1 from by omega)
          clear hr65 hC65 hroom65 hi065 hsz65
          have KY65 := Aside0.mk hy65
          clear hy65
          replace q65 := eq_true q65
          go_enter Tryd.func7, Tryd.ntmps7
          go_wp2_with (first | (go_at_call 24; (with_reducible refine (skip_Find.calls k (a0.extract 0 ((ji4) : Int).toNat) _ _ y191 a2 t195 t196 t197 _ ?side1 ?side2 A10.out (Tower.tab_below HT.out (by repeat (first | (with_reducible first | exact HB.out | apply below_alloc | apply pw_below_drewN | apply below_drew1) | exact HB.out)) (Nat.le_refl _))).mono ?_); (case side1 => repeat (first | exact HR194.out | (with_reducible refine Kd.C_alloc ?_ _) | (with_reducible refine Kd.C_drewN ?_ _) | (with_reducible refine Kd.C_drew ?_))); (case side2 => exact HC194.out); rintro e w66 ⟨v198, rfl, ho0, hb⟩; have n0_ := Aside0.mk (Kd.R_lower ho0 (below_size (by repeat (first | (with_reducible first | exact HB.out | apply below_alloc | apply pw_below_drewN | apply below_drew1) | exact HB.out)))); have n1_ := Aside0.mk (below_step (by repeat (first | (with_reducible first | exact HB.out | apply below_alloc | apply pw_below_drewN | apply below_drew1) | exact HB.out)) hb); clear HB; have HO199 := n0_; have HB := n1_; clear n0_ n1_; (try clear hb); (try clear hb2); (try clear hk); (try clear hi); (try clear ho0)) | (go_at_call 26; (with_reducible refine (saltuslaw16_alive.calls k  true _ A56.out (Tower.tab_below HT.out (by repeat (first | (with_reducible first | exact HB.out | apply below_alloc | apply pw_below_drewN | apply below_drew1) | exact HB.out)) (Nat.le_refl _))).mono ?_); rintro e w67 ⟨rfl, hb⟩; have n0_ := Aside0.mk (Kd.R_below (by (with_reducible repeat (first | apply Kd.R_alloc | apply Kd.R_drewN | apply Kd.R_drew)); exact HO199.out) hb); have n1_ := Aside0.mk (below_step (by repeat (first | (with_reducible first | exact HB.out | apply below_alloc | apply pw_below_drewN | apply below_drew1) | exact HB.out)) hb); clear HO199; clear HB; have HO199 := n0_; have HB := n1_; clear n0_ n1_; (try clear hb); (try clear hb2); (try clear hk); (try clear hi); obtain ⟨Ao68, co68, eo68⟩ := Kd.R_slice HO199.out; subst eo68))
          repeat (go_quiet (first | (go_at_call 24; (with_reducible refine (skip_Find.calls k (a0.extract 0 ((ji4) : Int).toNat) _ _ y191 a2 t195 t196 t197 _ ?side1 ?side2 A10.out (Tower.tab_below HT.out (by repeat (first | (with_reducible first | exact HB.out | apply below_alloc | apply pw_below_drewN | apply below_drew1) | exact HB.out)) (Nat.le_refl _))).mono ?_); (case side1 => repeat (first | exact HR194.out | (with_reducible refine Kd.C_alloc ?_ _) | (with_reducible refine Kd.C_drewN ?_ _) | (with_reducible refine Kd.C_drew ?_))); (case side2 => exact HC194.out); rintro e w66 ⟨v198, rfl, ho0, hb⟩; have n0_ := Aside0.mk (Kd.R_lower ho0 (below_size (by repeat (first | (with_reducible first | exact HB.out | apply below_alloc | apply pw_below_drewN | apply below_drew1) | exact HB.out)))); have n1_ := Aside0.mk (below_step (by repeat (first | (with_reducible first | exact HB.out | apply below_alloc | apply pw_below_drewN | apply below_drew1) | exact HB.out)) hb); clear HB; have HO199 := n0_; have HB := n1_; clear n0_ n1_; (try clear hb); (try clear hb2); (try clear hk); (try clear hi); (try clear ho0)) | (go_at_call 26; (with_reducible refine (saltuslaw16_alive.calls k  true _ A56.out (Tower.tab_below HT.out (by repeat (first | (with_reducible first | exact HB.out | apply below_alloc | apply pw_below_drewN | apply below_drew1) | exact HB.out)) (Nat.le_refl _))).mono ?_); rintro e w67 ⟨rfl, hb⟩; have n0_ := Aside0.mk (Kd.R_below (by (with_reducible repeat (first | apply Kd.R_alloc | apply Kd.R_drewN | apply Kd.R_drew)); exact HO199.out) hb); have n1_ := Aside0.mk (below_step (by repeat (first | (with_reducible first | exact HB.out | apply below_alloc | apply pw_below_drewN | apply below_drew1) | exact HB.out)) hb); clear HO199; clear HB; have HO199 := n0_; have HB := n1_; clear n0_ n1_; (try clear hb); (try clear hb2); (try clear hk); (try clear hi); obtain ⟨Ao68, co68, eo68⟩ := Kd.R_slice HO199.out; subst eo68)); try go_wp2_with (first | (go_at_call 24; (with_reducible refine (skip_Find.calls k (a0.extract 0 ((ji4) : Int).toNat) _ _ y191 a2 t195 t196 t197 _ ?side1 ?side2 A10.out (Tower.tab_below HT.out (by repeat (first | (with_reducible first | exact HB.out | apply below_alloc | apply pw_below_drewN | apply below_drew1) | exact HB.out)) (Nat.le_refl _))).mono ?_); (case side1 => repeat (first | exact HR194.out | (with_reducible refine Kd.C_alloc ?_ _) | (with_reducible refine Kd.C_drewN ?_ _) | (with_reducible refine Kd.C_drew ?_))); (case side2 => exact HC194.out); rintro e w66 ⟨v198, rfl, ho0, hb⟩; have n0_ := Aside0.mk (Kd.R_lower ho0 (below_size (by repeat (first | (with_reducible first | exact HB.out | apply below_alloc | apply pw_below_drewN | apply below_drew1) | exact HB.out)))); have n1_ := Aside0.mk (below_step (by repeat (first | (with_reducible first | exact HB.out | apply below_alloc | apply pw_below_drewN | apply below_drew1) | exact HB.out)) hb); clear HB; have HO199 := n0_; have HB := n1_; clear n0_ n1_; (try clear hb); (try clear hb2); (try clear hk); (try clear hi); (try clear ho0)) | (go_at_call 26; (with_reducible refine (saltuslaw16_alive.calls k  true _ A56.out (Tower.tab_below HT.out (by repeat (first | (with_reducible first | exact HB.out | apply below_alloc | apply pw_below_drewN | apply below_drew1) | exact HB.out)) (Nat.le_refl _))).mono ?_); rintro e w67 ⟨rfl, hb⟩; have n0_ := Aside0.mk (Kd.R_below (by (with_reducible repeat (first | apply Kd.R_alloc | apply Kd.R_drewN | apply Kd.R_drew)); exact HO199.out) hb); have n1_ := Aside0.mk (below_step (by repeat (first | (with_reducible first | exact HB.out | apply below_alloc | apply pw_below_drewN | apply below_drew1) | exact HB.out)) hb); clear HO199; clear HB; have HO199 := n0_; have HB := n1_; clear n0_ n1_; (try clear hb); (try clear hb2); (try clear hk); (try clear hi); obtain ⟨Ao68, co68, eo68⟩ := Kd.R_slice HO199.out; subst eo68)))
          go_ret
          exact ⟨by first | rfl | (simp [errW_none, errW_some] <;> rfl) | (simp only [← hji4, ← hji7]; first | rfl | (simp [errW_none, errW_some] <;> rfl)) | (simp [*, errW_none, errW_some] <;> rfl), by repeat (first | (with_reducible first | exact HB.out | apply below_alloc | apply pw_below_drewN | apply below_drew1) | exact HB.out)⟩
         ·rw [if_neg c64] at H
          have c64b0 : ((y191.length : Int) == 0) = false := beq_eq_false_iff_ne.mpr c64
          have c64b1 : ((y191.length : Int) != 0) = true := bne_iff_ne.mpr c64
          have c64b2 : ¬ (y191 = []) := fun h_ => c64 (by rw [h_]; rfl)
          by_cases c69 : 0 < (y191.length : Int)
          ·rw [if_pos c69] at H
           have c69b0 : decide (0 < (y191.length : Int)) = true := decide_eq_true c69
           have c69b1 : decide (0 < y191.length) = true := decide_eq_true (by omega)
           clear c69
           obtain rfl := Option.some.inj H
           have q70 : ((ji7) : Int) ≤ ((l1.length : Int) : Int) := of_decide_eq_true (by first | (with_reducible assumption) | assumption)
           obtain ⟨i070, hi070, _, hsz70, _⟩ := info_parts info46
           have hroom70 : l1.length ≤ c1 := HC1.out
           have hC70 : Kd.C k46 _ A1 l1.length l1 := HR1.out
           have hcut70 := cut_to (P := Tryd.prog) 36 46 .i64 Tryd.underlying36 hi070 A1 l1.length c1 (ji7) (of_decide_eq_true (by first | (with_reducible assumption) | assumption)) q70 hroom70
           have hr70 := Kd.C_take (m := ((ji7) : Int).toNat) hC70 (by omega)
           have hy70 : y191.length = ((ji7) : Int).toNat := (by rw [Ny191.out, List.length_take]; omega)
           rw [← Ny191.out] at hr70
           rw [← hy70] at hcut70
           have HR194 := Aside0.mk hr70
           have HC194 := Aside0.mk (show y191.length ≤ c1 from by omega)
           clear hr70 hC70 hroom70 hi070 hsz70
           have KY70 := Aside0.mk hy70
           clear hy70
           replace q70 := eq_true q70
           go_enter Tryd.func7, Tryd.ntmps7
           go_wp2_with (first | (go_at_call 24; (with_reducible refine (skip_Find.calls k (a0.extract 0 ((ji4) : Int).toNat) _ _ y191 a2 t195 t196 t197 _ ?side1 ?side2 A10.out (Tower.tab_below HT.out (by repeat (first | (with_reducible first | exact HB.out | apply below_alloc | apply pw_below_drewN | apply below_drew1) | exact HB.out)) (Nat.le_refl _))).mono ?_); (case side1 => repeat (first | exact HR194.out | (with_reducible refine Kd.C_alloc ?_ _) | (with_reducible refine Kd.C_drewN ?_ _) | (with_reducible refine Kd.C_drew ?_))); (case side2 => exact HC194.out); rintro e w71 ⟨v198, rfl, ho0, hb⟩; have n0_ := Aside0.mk (Kd.R_lower ho0 (below_size (by repeat (first | (with_reducible first | exact HB.out | apply below_alloc | apply pw_below_drewN | apply below_drew1) | exact HB.out)))); have n1_ := Aside0.mk (below_step (by repeat (first | (with_reducible first | exact HB.out | apply below_alloc | apply pw_below_drewN | apply below_drew1) | exact HB.out)) hb); clear HB; have HO199 := n0_; have HB := n1_; clear n0_ n1_; (try clear hb); (try clear hb2); (try clear hk); (try clear hi); (try clear ho0)) | (go_at_call 26; (with_reducible refine (saltuslaw16_alive.calls k  true _ A56.out (Tower.tab_below HT.out (by repeat (first | (with_reducible first | exact HB.out | apply below_alloc | apply pw_below_drewN | apply below_drew1) | exact HB.out)) (Nat.le_refl _))).mono ?_); rintro e w72 ⟨rfl, hb⟩; have n0_ := Aside0.mk (Kd.R_below (by (with_reducible repeat (first | apply Kd.R_alloc | apply Kd.R_drewN | apply Kd.R_drew)); exact HO199.out) hb); have n1_ := Aside0.mk (below_step (by repeat (first | (with_reducible first | exact HB.out | apply below_alloc | apply pw_below_drewN | apply below_drew1) | exact HB.out)) hb); clear HO199; clear HB; have HO199 := n0_; have HB := n1_; clear n0_ n1_; (try clear hb); (try clear hb2); (try clear hk); (try clear hi); obtain ⟨Ao73, co73, eo73⟩ := Kd.R_slice HO199.out; subst eo73; have p201 : 0 ≤ (0 : Int) := (by omega); have q201 : 0 < (y191.length : Int) := of_decide_eq_true (by first | (with_reducible assumption) | assumption); obtain ⟨ad201, e201, hx201_0, hx201_1⟩ := at_T46 HR194.out 0 p201 q201; cases e201; have qi201 : (0 < y191.length) = True := eq_true (by omega); (try rw [show ((0 : Int)).toNat = 0 from rfl] at hx201_0); (try rw [show 0 * 2 = 0 from rfl] at hx201_0); (try rw [Addr.add_zero'] at hx201_0); (try rw [show ((0 : Int)).toNat = 0 from rfl] at hx201_1); (try rw [show 0 * 2 = 0 from rfl] at hx201_1); (try rw [Addr.add_zero'] at hx201_1); replace hx201_0 := (HB.out.cell (World.block_lt_of_cell? w _ hx201_0)).trans hx201_0; replace hx201_1 := (HB.out.cell (World.block_lt_of_cell? w _ hx201_1)).trans hx201_1; replace p201 := eq_true p201; replace q201 := eq_true q201))
           repeat (go_quiet (first | (go_at_call 24; (with_reducible refine (skip_Find.calls k (a0.extract 0 ((ji4) : Int).toNat) _ _ y191 a2 t195 t196 t197 _ ?side1 ?side2 A10.out (Tower.tab_below HT.out (by repeat (first | (with_reducible first | exact HB.out | apply below_alloc | apply pw_below_drewN | apply below_drew1) | exact HB.out)) (Nat.le_refl _))).mono ?_); (case side1 => repeat (first | exact HR194.out | (with_reducible refine Kd.C_alloc ?_ _) | (with_reducible refine Kd.C_drewN ?_ _) | (with_reducible refine Kd.C_drew ?_))); (case side2 => exact HC194.out); rintro e w71 ⟨v198, rfl, ho0, hb⟩; have n0_ := Aside0.mk (Kd.R_lower ho0 (below_size (by repeat (first | (with_reducible first | exact HB.out | apply below_alloc | apply pw_below_drewN | apply below_drew1) | exact HB.out)))); have n1_ := Aside0.mk (below_step (by repeat (first | (with_reducible first | exact HB.out | apply below_alloc | apply pw_below_drewN | apply below_drew1) | exact HB.out)) hb); clear HB; have HO199 := n0_; have HB := n1_; clear n0_ n1_; (try clear hb); (try clear hb2); (try clear hk); (try clear hi); (try clear ho0)) | (go_at_call 26; (with_reducible refine (saltuslaw16_alive.calls k  true _ A56.out (Tower.tab_below HT.out (by repeat (first | (with_reducible first | exact HB.out | apply below_alloc | apply pw_below_drewN | apply below_drew1) | exact HB.out)) (Nat.le_refl _))).mono ?_); rintro e w72 ⟨rfl, hb⟩; have n0_ := Aside0.mk (Kd.R_below (by (with_reducible repeat (first | apply Kd.R_alloc | apply Kd.R_drewN | apply Kd.R_drew)); exact HO199.out) hb); have n1_ := Aside0.mk (below_step (by repeat (first | (with_reducible first | exact HB.out | apply below_alloc | apply pw_below_drewN | apply below_drew1) | exact HB.out)) hb); clear HO199; clear HB; have HO199 := n0_; have HB := n1_; clear n0_ n1_; (try clear hb); (try clear hb2); (try clear hk); (try clear hi); obtain ⟨Ao73, co73, eo73⟩ := Kd.R_slice HO199.out; subst eo73; have p201 : 0 ≤ (0 : Int) := (by omega); have q201 : 0 < (y191.length : Int) := of_decide_eq_true (by first | (with_reducible assumption) | assumption); obtain ⟨ad201, e201, hx201_0, hx201_1⟩ := at_T46 HR194.out 0 p201 q201; cases e201; have qi201 : (0 < y191.length) = True := eq_true (by omega); (try rw [show ((0 : Int)).toNat = 0 from rfl] at hx201_0); (try rw [show 0 * 2 = 0 from rfl] at hx201_0); (try rw [Addr.add_zero'] at hx201_0); (try rw [show ((0 : Int)).toNat = 0 from rfl] at hx201_1); (try rw [show 0 * 2 = 0 from rfl] at hx201_1); (try rw [Addr.add_zero'] at hx201_1); replace hx201_0 := (HB.out.cell (World.block_lt_of_cell? w _ hx201_0)).trans hx201_0; replace hx201_1 := (HB.out.cell (World.block_lt_of_cell? w _ hx201_1)).trans hx201_1; replace p201 := eq_true p201; replace q201 := eq_true q201)); try go_wp2_with (first | (go_at_call 24; (with_reducible refine (skip_Find.calls k (a0.extract 0 ((ji4) : Int).toNat) _ _ y191 a2 t195 t196 t197 _ ?side1 ?side2 A10.out (Tower.tab_below HT.out (by repeat (first | (with_reducible first | exact HB.out | apply below_alloc | apply pw_below_drewN | apply below_drew1) | exact HB.out)) (Nat.le_refl _))).mono ?_); (case side1 => repeat (first | exact HR194.out | (with_reducible refine Kd.C_alloc ?_ _) | (with_reducible refine Kd.C_drewN ?_ _) | (with_reducible refine Kd.C_drew ?_))); (case side2 => exact HC194.out); rintro e w71 ⟨v198, rfl, ho0, hb⟩; have n0_ := Aside0.mk (Kd.R_lower ho0 (below_size (by repeat (first | (with_reducible first | exact HB.out | apply below_alloc | apply pw_below_drewN | apply below_drew1) | exact HB.out)))); have n1_ := Aside0.mk (below_step (by repeat (first | (with_reducible first | exact HB.out | apply below_alloc | apply pw_below_drewN | apply below_drew1) | exact HB.out)) hb); clear HB; have HO199 := n0_; have HB := n1_; clear n0_ n1_; (try clear hb); (try clear hb2); (try clear hk); (try clear hi); (try clear ho0)) | (go_at_call 26; (with_reducible refine (saltuslaw16_alive.calls k  true _ A56.out (Tower.tab_below HT.out (by repeat (first | (with_reducible first | exact HB.out | apply below_alloc | apply pw_below_drewN | apply below_drew1) | exact HB.out)) (Nat.le_refl _))).mono ?_); rintro e w72 ⟨rfl, hb⟩; have n0_ := Aside0.mk (Kd.R_below (by (with_reducible repeat (first | apply Kd.R_alloc | apply Kd.R_drewN | apply Kd.R_drew)); exact HO199.out) hb); have n1_ := Aside0.mk (below_step (by repeat (first | (with_reducible first | exact HB.out | apply below_alloc | apply pw_below_drewN | apply below_drew1) | exact HB.out)) hb); clear HO199; clear HB; have HO199 := n0_; have HB := n1_; clear n0_ n1_; (try clear hb); (try clear hb2); (try clear hk); (try clear hi); obtain ⟨Ao73, co73, eo73⟩ := Kd.R_slice HO199.out; subst eo73; have p201 : 0 ≤ (0 : Int) := (by omega); have q201 : 0 < (y191.length : Int) := of_decide_eq_true (by first | (with_reducible assumption) | assumption); obtain ⟨ad201, e201, hx201_0, hx201_1⟩ := at_T46 HR194.out 0 p201 q201; cases e201; have qi201 : (0 < y191.length) = True := eq_true (by omega); (try rw [show ((0 : Int)).toNat = 0 from rfl] at hx201_0); (try rw [show 0 * 2 = 0 from rfl] at hx201_0); (try rw [Addr.add_zero'] at hx201_0); (try rw [show ((0 : Int)).toNat = 0 from rfl] at hx201_1); (try rw [show 0 * 2 = 0 from rfl] at hx201_1); (try rw [Addr.add_zero'] at hx201_1); replace hx201_0 := (HB.out.cell (World.block_lt_of_cell? w _ hx201_0)).trans hx201_0; replace hx201_1 := (HB.out.cell (World.block_lt_of_cell? w _ hx201_1)).trans hx201_1; replace p201 := eq_true p201; replace q201 := eq_true q201)))
           go_ret
           exact ⟨by first | rfl | (simp [errW_none, errW_some] <;> rfl) | (simp only [← hji4, ← hji7]; first | rfl | (simp [errW_none, errW_some] <;> rfl)) | (simp [*, errW_none, errW_some] <;> rfl), by repeat (first | (with_reducible first | exact HB.out | apply below_alloc | apply pw_below_drewN | apply below_drew1) | exact HB.out)⟩
          ·rw [if_neg c69] at H
           exact absurd H (by simp)
       ·rw [if_neg c58] at H
        have c58b0 : ((t196.length : Int) == 0) = false := beq_eq_false_iff_ne.mpr c58
        have c58b1 : ((t196.length : Int) != 0) = true := bne_iff_ne.mpr c58
        have c58b2 : ¬ (t196 = []) := fun h_ => c58 (by rw [h_]; rfl)
        exact absurd ((Option.some.inj H).trans hr.out) (by decide)
      ·replace c57 := Bool.eq_false_iff.mpr c57
       subst c57
       have H1 : (some false) = some r := by rw [if_neg (show ¬ (false = true) by decide)] at H; exact H
       clear H
       have H := H1
       clear H1
       exact absurd ((Option.some.inj H).trans hr.out) (by decide)
    ·rw [if_neg c9] at H
     exact absurd H (by simp)
   ·rw [if_neg c8] at H
    exact absurd H (by simp)
  ·rw [if_neg c6] at H
   exact absurd H (by simp)
 ·rw [if_neg c5] at H
  exact absurd H (by simp)
end Go.Proofs.YtolbhliepkcihaaDoor.QSF
end
section
namespace Go.Proofs.YtolbhliepkcihaaDoor.SkipPure
open Go.RowKit Go.Proofs.YtolbhliepkcihaaDoor.Kinds Go.Proofs.YtolbhliepkcihaaDoor.QSF Go.Proofs.YtolbhliepkcihaaDoorW.PrintWords Go.Proofs.YtolbhliepkcihaaDoorW.PrintLast Go.Proofs.YtolbhliepkcihaaDoorW.PrintMore Go.Proofs.YtolbhliepkcihaaDoor.Sha Go.Proofs.YtolbhliepkcihaaDoor.Mac Go.Proofs.YtolbhliepkcihaaDoor.Codec Go.Proofs.YtolbhliepkcihaaDoor.Tower
theorem hops_l0 {s L : Nat} {hops : List Hop} (g : GoodH s L hops) (hn : hops.length ≤ 100000) (d : Nat) : ∀ i, i + d = hops.length → Ev (fun k => saltuslaw16_SkipHops.l0 k hops hops (hops.length : Int) (i : Int)) true := by
 induction d with
 | zero =>
  intro i hi
  refine Ev.step (fun k => ?_) (Ev.now _)
  rw [saltuslaw16_SkipHops.l0, if_neg (by omega)]
 | succ d ih =>
  intro i hi
  refine Ev.step (fun k => ?_) (ih (i + 1) (by omega))
  have h1 := g.levels i (by omega)
  unfold hp at h1
  rw [saltuslaw16_SkipHops.l0, if_pos (by omega), if_pos (by omega), if_pos (by omega), if_neg (by omega), if_neg (by omega)]
  by_cases h0 : i = 0
  ·rw [if_neg (by omega), w_succ i hops.length (by omega) (by omega)]
  ·have h2 := g.chain i (by omega) (by omega)
   have ew : wrap64 ((i : Int) - 1) = ((i - 1 : Nat) : Int) := by unfold wrap64; omega
   unfold hp at h2
   rw [if_pos (by omega), ew, if_pos (by omega), if_pos (by omega), if_neg (by omega), if_neg (by omega), w_succ i hops.length (by omega) (by omega)]
theorem hops_j0 {s L : Nat} {hops : List Hop} (g : GoodH s L hops) (hn : hops.length ≤ 100000) : Ev (fun k => saltuslaw16_SkipHops.j0 k hops false) true := by
 refine Ev.step (fun k => ?_) (hops_l0 g hn hops.length 0 (by omega))
 show saltuslaw16_SkipHops.j0 (k + 1) hops false = _
 rw [saltuslaw16_SkipHops.j0, if_neg (by decide)]
 rfl
theorem skipHops_ev (a0 : ByteArray) (l : List Item) (hk : keysOk l) (q : Int) : Ev (fun k => saltuslaw16_SkipHops.f k a0 l q) true := by
 have e80 := mn_nat a0.size 80
 have e20 := mn_nat l.length 20
 rw [show ((80 : Nat) : Int) = 80 from rfl] at e80
 rw [show ((20 : Nat) : Int) = 20 from rfl] at e20
 have hkey : (a0.extract 0 (min a0.size 80)).size ≤ 1000 := by rw [ByteArray.size_extract]; omega
 have hl : (l.take (min l.length 20)).length ≤ 1000 := by rw [List.length_take]; omega
 have hk2 := take_keys hk (min l.length 20)
 obtain ⟨KA, hA⟩ := alive16
 replace hA : ∀ k, KA ≤ k → saltuslaw16_alive.f k = some true := hA
 rcases find_some _ hkey _ hl hk2 q with ⟨hr, hF⟩ | ⟨hr, hF⟩
 ·obtain ⟨g1, g2, g3, hg⟩ := end_spec (a0.extract 0 (min a0.size 80)) (l.take (min l.length 20)) q
  have hn := end_hops (a0.extract 0 (min a0.size 80)) (l.take (min l.length 20)) q
  obtain ⟨K2, h2⟩ := hops_j0 hg (by omega)
  obtain ⟨K1, h1⟩ := hF
  replace h1 : ∀ k, K1 ≤ k → skip_Find.f k (a0.extract 0 (min a0.size 80)) (l.take (min l.length 20)) q = some (fin (endS (a0.extract 0 (min a0.size 80)) (l.take (min l.length 20)) q)) := h1
  replace h2 : ∀ k, K2 ≤ k → saltuslaw16_SkipHops.j0 k (endS (a0.extract 0 (min a0.size 80)) (l.take (min l.length 20)) q).2 false = some true := h2
  refine ⟨max KA (max K1 K2), fun k hkk => ?_⟩
  show saltuslaw16_SkipHops.f k a0 l q = some true
  unfold saltuslaw16_SkipHops.f
  rw [e80, e20, if_pos (by omega), if_pos (by omega), if_pos (by omega), if_pos (by omega), Int.toNat_natCast, Int.toNat_natCast, Option.bind_some, h1 k (by omega), Option.bind_some]
  have hj := h2 k (by omega)
  have ha := hA k (by omega)
  clear h1 h2 hA hk2 hkey e80 e20 hr
  generalize endS (a0.extract 0 (min a0.size 80)) (l.take (min l.length 20)) q = E at *
  generalize l.take (min l.length 20) = y at *
  unfold fin
  by_cases h0 : E.1 = 0
  ·rw [if_pos h0]
   have hne : ¬ y.length = 0 → 0 < y.length ∧ (rd_T46 y 0).f0 > q := fun hy => by
    rcases g3 with g3 | g3
    ·omega
    ·rw [h0] at g3
     exact ⟨by omega, g3⟩
   dsimp only
   rw [if_neg (by decide), ha, Option.bind_some, if_pos rfl, if_pos (show ((([] : List Hop).length : Nat) : Int) = 0 from rfl), if_neg (by decide)]
   by_cases hy : y.length = 0
   ·rw [if_pos (by omega)]
   ·rw [if_neg (by omega), if_pos (by have := (hne hy).1; omega), decide_eq_true (hne hy).2]
  ·rw [if_neg h0]
   have hs := hg.some_ (by omega)
   have hlast := hg.last_ hs
   unfold hp at hlast
   have ew : wrap64 ((E.2.length : Int) - 1) = ((E.2.length - 1 : Nat) : Int) := by unfold wrap64; omega
   have ew2 : wrap64 ((E.1 : Int) - 1 + 1) = (E.1 : Int) := by unfold wrap64; omega
   have hk0 : ¬ (rd_T46 y ((E.1 : Int) - 1)).f0 > q := by
    rcases g2 with g2 | g2
    ·omega
    ·unfold ky it at g2
     rw [show ((E.1 - 1 : Nat) : Int) = (E.1 : Int) - 1 from by omega] at g2
     omega
   have e11 : ((E.1 - 1 : Nat) : Int) = (E.1 : Int) - 1 := by omega
   dsimp only
   rw [if_pos rfl, if_neg (by omega), ew, if_pos (by omega), if_pos (by omega), hlast, e11, if_pos rfl, if_neg (by omega), if_pos (by omega), if_pos (by omega), if_neg hk0, ew2]
   by_cases hy : E.1 = y.length
   ·rw [if_neg (by omega), ha, Option.bind_some]
    exact hj
   ·have hk1 : ¬ (rd_T46 y (E.1 : Int)).f0 ≤ q := by
     rcases g3 with g3 | g3
     ·omega
     ·unfold ky it at g3
      omega
    rw [if_pos (by omega), if_pos (by omega), if_neg hk1, ha, Option.bind_some]
    exact hj
 ·obtain ⟨K1, h1⟩ := hF
  replace h1 : ∀ k, K1 ≤ k → skip_Find.f k (a0.extract 0 (min a0.size 80)) (l.take (min l.length 20)) q = some (0, [], 1) := h1
  refine ⟨max KA K1, fun k hkk => ?_⟩
  show saltuslaw16_SkipHops.f k a0 l q = some true
  unfold saltuslaw16_SkipHops.f
  rw [e80, e20, if_pos (by omega), if_pos (by omega), if_pos (by omega), if_pos (by omega), Int.toNat_natCast, Int.toNat_natCast, Option.bind_some, h1 k (by omega), Option.bind_some]
  rw [if_neg (by decide), hA k (by omega), Option.bind_some, if_pos rfl, if_pos (show ((([] : List Hop).length : Nat) : Int) = 0 from rfl), if_pos rfl]
theorem skipHops_row (a0 : ByteArray) (A1 : Option Addr) (c1 : Nat) (l1 : List Item) (a2 : Int) (w : World) (_ : a0.size ≤ 140737488351232) (hr1 : Kd.C k46 w A1 l1.length l1) (hc1 : l1.length ≤ c1)
  (hw : ∀ y, y ∈ l1 → 0 ≤ y.f0 ∧ y.f0 ≤ 18446744073709551615 ∧ y.f1.size ≤ 9223372036854775807) (_ : (Lit.int .u64 a2).wf = true) (hT0 : TabW w) :
  Calls Tryd.prog 7 #[.string a0, .slice A1 l1.length c1, .int .u64 a2] w fun e w' => e = .returned (.bool true) ∧ Below w.heap.size w w' := by
 obtain ⟨K, h⟩ := skipHops_ev a0 l1 (fun y hy => ⟨(hw y hy).1, (hw y hy).2.1⟩) a2
 exact saltuslaw16_SkipHops.calls K a0 A1 c1 l1 a2 true w hr1 hc1 ⟨rfl⟩ (h K (Nat.le_refl _)) hT0
end Go.Proofs.YtolbhliepkcihaaDoor.SkipPure
end
