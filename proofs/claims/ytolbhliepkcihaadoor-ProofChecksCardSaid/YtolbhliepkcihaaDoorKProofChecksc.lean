/- Joined by a program of this session (wip/pack.py) for this claim: ProveRnd, Prove1, Alive18, Twice, ProofStub3, QPCx0, QPCx2, QPCx1, QPCx3, PureProofs. -/
import Derived.Test.YtolbhliepkcihaaDoorKProofChecksb
import Derived.Maps.AppendAt
import Derived.Deep.CutRange
import Derived.Deep.DeepCutAuto
import Derived.Test.YtolbhliepkcihaaDoorProg
import Derived.Below
import Derived.Deep.Draws
import Derived.Deep.AppendLies
import Derived.OwnWalk
import Derived.Laws.BytesArg
import Derived.Laws.MakeOwn
import Derived.Laws.OwnMore
import Derived.Deep.OwnRows
import Derived.Tactics
import Derived.Lib.ConvBytes
import Derived.Laws.Slices
import Derived.WalkKit
import Derived.KernelRfl
import Derived.RowKit3
import Derived.Deep.LoopGhost
import Derived.Deep.QuietTactic
import Derived.BigQuiet
import Derived.WideLaws
import Derived.Deep.CutBlock
import Derived.Deep.RegionHeld3
import Derived.Laws.Rows
import Derived.Lib.AppendStr
import Derived.ArgAppend
import Derived.Laws.IdiomCopy
import Derived.OrdersHeld
import Derived.Laws.BitsLemmas
import Derived.RowKit
import Derived.Test.YtolbhliepkcihaaDoorBaseH
import Derived.Test.YtolbhliepkcihaaDoorPWa
section
namespace Go.Proofs.YtolbhliepkcihaaDoor.Lab
open Go.RowKit YtolbhliepkcihaaDoorW.PrintWords YtolbhliepkcihaaDoorW.PrintLast Kinds Build Sha Mac Codec Tower Mem ProofPure
/-! ### in plain Lean -/
theorem gD_hts (j : Nat) (es : List E) (k : Nat) : gD (pr j es) k = (hts j es).getD k 0 := by
  rw [← pr_fst]
  unfold gD
  rw [List.getD_eq_getElem?_getD, List.getD_eq_getElem?_getD, List.getElem?_map]
  cases (pr j es)[k]? <;> rfl
theorem from_stop (t : Nat) (u : List Z) (f : Nat) (h : t < gD u f) : fromN t u f = f := by
  cases f with
  | zero => rfl
  | succ f => unfold gD at h; rw [fromN, if_pos h]
theorem from_go (t : Nat) (u : List Z) (f : Nat) (h : gD u (f + 1) ≤ t) : fromN t u (f + 1) = fromN t u f := by unfold gD at h; rw [fromN, if_neg (Nat.not_lt.2 h)]
theorem to_stop (t : Nat) (u : List Z) (d i : Nat) (h : d = 0 ∨ t < gD u i) : toN t u d i = i := by
  cases d with
  | zero => rfl
  | succ d =>
    rcases h with h | h
    · cases h
    · unfold gD at h; rw [toN, if_pos h]
theorem to_go (t : Nat) (u : List Z) (d i : Nat) (h : gD u i ≤ t) : toN t u (d + 1) i = toN t u d (i + 1) := by unfold gD at h; rw [toN, if_neg (Nat.not_lt.2 h)]
theorem htI_up2 (m : Nat) (s : List E) : (htI m s).filter (fun x => !decide (x ≤ (m : Int) + 1)) = htI (m + 1) s := htI_up m s
theorem cnt_hts (j : Nat) (es : List E) (f : Nat) : (((htI j es).take f).filter (fun x => !decide (x ≤ (j : Int) + 1))).length = cnt (j + 1) ((pr j es).take f) := by
  unfold htI cnt
  rw [← pr_fst, List.map_map, ← List.map_take, List.filter_map, List.length_map]
  congr 1
  congr 1
  funext z
  show (!decide (((z.1 : Nat) : Int) ≤ (j : Int) + 1)) = decide (j + 1 < z.1)
  by_cases c : j + 1 < z.1
  · rw [qj c, decide_eq_false (by omega)]; rfl
  · rw [decide_eq_false c, qj (by omega)]; rfl
/-! ### rows and blocks -/
theorem own_form2 {w : World} {base : Nat} {e : TypeId} {size : Nat} {v : Value} {N : Nat} {xs : List Value} (h : w.ownsRow base e size v N xs) (h0 : v ≠ .slice none 0 0) : ∃ g cap, v = .slice (some ⟨g, 0, none⟩) N cap ∧ N ≤ cap := by
  rcases h.2 with ⟨e, _⟩ | ⟨g, cap, cur, rfl, _, _, hc, _⟩
  · exact absurd e h0
  · exact ⟨g, cap, rfl, hc⟩
theorem cut_w (g n c f k : Nat) (hfk : f ≤ k) (hk : k ≤ n) (hc : n ≤ c) : ∀ W : World, (Instr.slice 49 (.slice (some ⟨g, 0, none⟩) n c) (some (.int .i64 (f : Int))) (some (.int .i64 (k : Int))) none).run Tryd.prog W = .ok (segW g c (f, k)) W := by
  obtain ⟨i0, hi, _, hs, _⟩ := info_parts str_info
  intro W
  rw [cut_mid (P := Tryd.prog) 49 9 .i64 .i64 Tryd.underlying49 hi 1 hs (some ⟨g, 0, none⟩) n c f k (by omega) (by omega) (by omega) hc W, Int.toNat_natCast, Int.toNat_natCast]
  unfold segW
  by_cases h : c = f
  · rw [if_pos h, if_pos h]
  · rw [if_neg h, if_neg h]
    simp only [Option.map_some, add_at]
theorem ne_sym {a b : Option Nat} (h : a = none ∨ a ≠ b) : b = none ∨ b ≠ a := by
  cases b with
  | none => exact .inl rfl
  | some x => exact .inr (fun e => by
      rcases h with h | h
      · rw [h] at e; cases e
      · exact h e.symm)
theorem ne_app {W : World} {base : Nat} {e : TypeId} {size n : Nat} {v va v1 : Value} {xs : List Value} (h : v.ownBlock = none ∨ v.ownBlock ≠ va.ownBlock) (hat : v1.ownBlock = v.ownBlock ∨ v1.ownBlock = some W.heap.size) (hva : W.ownsRow base e size va n xs) : v1.ownBlock = none ∨ v1.ownBlock ≠ va.ownBlock := by
  rcases hat with hat | hat
  · rw [hat]; exact h
  · refine .inr (fun q => ?_)
    rw [hat] at q
    have := (hva.lt _ q.symm).2
    omega
structure PT (b0 : Nat) (w0 : World) (g gp : Nat) (es : List E) (a0 j : Nat) (hv : Value) (nh : Nat) (hs : List Value) (vb : Value) (nb : Nat) (bs : List Value) (va : Value) (na : Nat) (xs : List Value) (pb pa : Value) (ob ox : List Value) (W : World) : Prop where
  rh : W.ownsRow b0 3 1 hv nh hs
  rb : W.ownsRow b0 49 1 vb nb bs
  ra : W.ownsRow b0 49 1 va na xs
  gp_ : Blk W gp 78 #[pb, pa]
  ho : Outs b0 es a0 j ob ox W
  n : Blk W g 78 #[.slice none 0 0, .slice none 0 0]
  hb : Below b0 w0 W
  hz : b0 ≤ W.heap.size
  hg : b0 ≤ gp
theorem PT.below {b0 : Nat} {w0 : World} {g gp : Nat} {es : List E} {a0 j : Nat} {hv : Value} {nh : Nat} {hs : List Value} {vb : Value} {nb : Nat} {bs : List Value} {va : Value} {na : Nat} {xs : List Value} {pb pa : Value} {ob ox : List Value} {W W' : World}
    (p : PT b0 w0 g gp es a0 j hv nh hs vb nb bs va na xs pb pa ob ox W) (h : Below W.heap.size W W') : PT b0 w0 g gp es a0 j hv nh hs vb nb bs va na xs pb pa ob ox W' :=
  ⟨own_bel p.rh h, own_bel p.rb h, own_bel p.ra h, blk_bel p.gp_ h, p.ho.keep (fun _ _ _ q => own_bel q h), blk_bel p.n h, p.hb.trans (h.mono p.hz), Nat.le_trans p.hz h.size, p.hg⟩
theorem PT.appB {b0 : Nat} {w0 : World} {g gp : Nat} {es : List E} {a0 j : Nat} {hv : Value} {nh : Nat} {hs : List Value} {vb : Value} {nb : Nat} {bs : List Value} {va : Value} {na : Nat} {xs : List Value} {pb pa : Value} {ob ox : List Value} {W W' : World} {v1 : Value} {nb1 : Nat} {bs1 : List Value}
    (p : PT b0 w0 g gp es a0 j hv nh hs vb nb bs va na xs pb pa ob ox W) (hne : vb.ownBlock = none ∨ vb.ownBlock ≠ va.ownBlock) (ho : W'.ownsRow b0 49 1 v1 nb1 bs1) (hg : W.grownBy W' vb.ownBlock) :
    PT b0 w0 g gp es a0 j hv nh hs v1 nb1 bs1 va na xs pb pa ob ox W' :=
  ⟨p.rh.kept hg (own_ne2 p.rh p.rb (by decide)), ho, p.ra.kept hg (ne_sym hne), blk_grown p.gp_ hg (own_ne p.rb p.gp_ (by decide)), p.ho.keep (fun _ _ _ q => q.kept hg (own_ne2 q p.rb (by decide))),
   blk_grown p.n hg (own_ne p.rb p.n (by decide)), p.hb.grown hg p.hz (fun _ e => own_base p.rb _ e), Nat.le_trans p.hz hg.size, p.hg⟩
theorem PT.appA {b0 : Nat} {w0 : World} {g gp : Nat} {es : List E} {a0 j : Nat} {hv : Value} {nh : Nat} {hs : List Value} {vb : Value} {nb : Nat} {bs : List Value} {va : Value} {na : Nat} {xs : List Value} {pb pa : Value} {ob ox : List Value} {W W' : World} {v1 : Value} {na1 : Nat} {xs1 : List Value}
    (p : PT b0 w0 g gp es a0 j hv nh hs vb nb bs va na xs pb pa ob ox W) (hne : vb.ownBlock = none ∨ vb.ownBlock ≠ va.ownBlock) (ho : W'.ownsRow b0 49 1 v1 na1 xs1) (hg : W.grownBy W' va.ownBlock) :
    PT b0 w0 g gp es a0 j hv nh hs vb nb bs v1 na1 xs1 pb pa ob ox W' :=
  ⟨p.rh.kept hg (own_ne2 p.rh p.ra (by decide)), p.rb.kept hg hne, ho, blk_grown p.gp_ hg (own_ne p.ra p.gp_ (by decide)), p.ho.keep (fun _ _ _ q => q.kept hg (own_ne2 q p.ra (by decide))),
   blk_grown p.n hg (own_ne p.ra p.n (by decide)), p.hb.grown hg p.hz (fun _ e => own_base p.ra _ e), Nat.le_trans p.hz hg.size, p.hg⟩
theorem PT.delH {b0 : Nat} {w0 : World} {g gp : Nat} {es : List E} {a0 j : Nat} {hv : Value} {nh : Nat} {hs : List Value} {vb : Value} {nb : Nat} {bs : List Value} {va : Value} {na : Nat} {xs : List Value} {pb pa : Value} {ob ox : List Value} {W W' : World} {v1 : Value} {nh1 : Nat} {hs1 : List Value}
    (p : PT b0 w0 g gp es a0 j hv nh hs vb nb bs va na xs pb pa ob ox W) (ho : W'.ownsRow b0 3 1 v1 nh1 hs1) (hg : W.grownBy W' hv.ownBlock) :
    PT b0 w0 g gp es a0 j v1 nh1 hs1 vb nb bs va na xs pb pa ob ox W' :=
  ⟨ho, p.rb.kept hg (own_ne2 p.rb p.rh (by decide)), p.ra.kept hg (own_ne2 p.ra p.rh (by decide)), blk_grown p.gp_ hg (own_ne p.rh p.gp_ (by decide)), p.ho.keep (fun _ _ _ q => q.kept hg (own_ne2 q p.rh (by decide))),
   blk_grown p.n hg (own_ne p.rh p.n (by decide)), p.hb.grown hg p.hz (fun _ e => own_base p.rh _ e), Nat.le_trans p.hz hg.size, p.hg⟩
theorem PT.outs {b0 : Nat} {w0 : World} {g gp : Nat} {es : List E} {a0 j : Nat} {hv : Value} {nh : Nat} {hs : List Value} {vb : Value} {nb : Nat} {bs : List Value} {va : Value} {na : Nat} {xs : List Value} {pb pa : Value} {ob ox : List Value} {W : World} {j1 : Nat} {ob1 ox1 : List Value}
    (p : PT b0 w0 g gp es a0 j hv nh hs vb nb bs va na xs pb pa ob ox W) (h : Outs b0 es a0 j1 ob1 ox1 W) : PT b0 w0 g gp es a0 j1 hv nh hs vb nb bs va na xs pb pa ob1 ox1 W :=
  ⟨p.rh, p.rb, p.ra, p.gp_, h, p.n, p.hb, p.hz, p.hg⟩
theorem PT.store {b0 : Nat} {w0 : World} {g gp : Nat} {es : List E} {a0 j : Nat} {hv : Value} {nh : Nat} {hs : List Value} {vb : Value} {nb : Nat} {bs : List Value} {va : Value} {na : Nat} {xs : List Value} {pb pa : Value} {ob ox : List Value} {W : World}
    (p : PT b0 w0 g gp es a0 j hv nh hs vb nb bs va na xs pb pa ob ox W) (hne : g ≠ gp) (u1 u2 : Value) :
    PT b0 w0 g gp es a0 j hv nh hs vb nb bs va na xs u1 u2 ob ox ((W.setCell ⟨gp, 0, none⟩ u1).setCell ⟨gp, 1, none⟩ u2) :=
  ⟨(p.rh.kept (set_grown_at W gp 0 u1) (.inr (own_ne p.rh p.gp_ (by decide)))).kept (set_grown_at _ gp 1 u2) (.inr (own_ne p.rh p.gp_ (by decide))),
   (p.rb.kept (set_grown_at W gp 0 u1) (.inr (own_ne p.rb p.gp_ (by decide)))).kept (set_grown_at _ gp 1 u2) (.inr (own_ne p.rb p.gp_ (by decide))),
   (p.ra.kept (set_grown_at W gp 0 u1) (.inr (own_ne p.ra p.gp_ (by decide)))).kept (set_grown_at _ gp 1 u2) (.inr (own_ne p.ra p.gp_ (by decide))),
   (p.gp_.set_ 0 u1).set_ 1 u2,
   p.ho.keep (fun _ _ _ q => (q.kept (set_grown_at W gp 0 u1) (.inr (own_ne q p.gp_ (by decide)))).kept (set_grown_at _ gp 1 u2) (.inr (own_ne q p.gp_ (by decide)))),
   blk_grown (blk_grown p.n (set_grown_at W gp 0 u1) (fun e => hne (Option.some.inj e).symm)) (set_grown_at _ gp 1 u2) (fun e => hne (Option.some.inj e).symm),
   (p.hb.setCell (p := ⟨gp, 0, none⟩) p.hg u1).setCell (p := ⟨gp, 1, none⟩) p.hg u2,
   by have := p.hz; simpa using this, p.hg⟩
/-! ### steps -/
theorem step_own_at {P : Program} {ops : Array Oper} {o : Oper} {a : Act} {w : World} {K : Act → World → Prop} {Q : Exit → Act → World → Prop} {E : Prop}
    (hg : o.guard = none) (s x : Operand) (t : TypeId) (hop : o.op = Op.call { callee := Callee.builtin Builtin.append, args := #[s, x], argTypes := #[t, t] })
    (base : Nat) (e : TypeId) (i : TypeInfo) (z : Value) (size bytes : Nat) (h1 : P.underlying t = some (.slice e)) (h2 : P.info? e = some i) (h3 : i.zero = some z) (h4 : i.size = size) (h5 : i.bytes = bytes) (h6 : z.cells.size = size) (h7 : 0 < size)
    (v : Value) (n : Nat) (xs : List Value) (hs : a.eval s = v) (hown : w.ownsRow base e size v n xs)
    (ad : Addr) (m c : Nat) (news : List Value) (hx : a.eval x = .slice (some ad) m c) (hn : news.length = m * size) (hc : ∀ j u, news[j]? = some u → w.cell? (ad.add j) = some u) (h1c : ∀ u ∈ news, u.oneCell' = true)
    (b1 : n + m ≤ maxLen) (b2 : (n + m) * bytes ≤ 140737488355328) (hbase : base ≤ w.heap.size)
    (hK : ∀ v' w', w'.ownsRow base e size v' (n + m) (xs ++ news) → w.grownBy w' v.ownBlock → (v'.ownBlock = v.ownBlock ∨ v'.ownBlock = some w.heap.size) → K (a.put o.dst v') w') :
    if Region.wanted o (yielded ops a.tmps) = true then Oper.wp P o a w K Q else E := by
  have hw : Region.wanted o (yielded ops a.tmps) = true := by simp [Region.wanted, hg]
  rw [if_pos hw]
  obtain ⟨v', w', hrun, r1, r2, _, r3⟩ := run_append_own_at (P := P) (w := w) base t o.type e i z size bytes h1 h2 h3 h4 h5 h6 h7 v n xs hown ad m c news hn hc h1c b1 b2 hbase
  unfold Oper.wp
  simp [execOp, hop, resolve, invoke, builtin, hs, hx, hrun, Result.andThen]
  exact hK v' w' r1 r2 r3
theorem clone_h (base gh ch M f : Nat) (hs : List Int) (w : World) (hh : w.ownsRow base 3 1 (.slice (some ⟨gh, 0, none⟩) M ch) M (intV hs)) (hf : f ≤ M) (hM : M ≤ 1000) :
    Calls Tryd.prog 91 #[.slice (some ⟨gh, 0, none⟩) f ch] w fun e w' => ∃ g c, e = .returned (.slice (some ⟨g, 0, none⟩) f c) ∧ w.heap.size ≤ g ∧ w'.ownsRow w.heap.size 3 1 (.slice (some ⟨g, 0, none⟩) f c) f ((hs.take f).map (Value.int .i64)) ∧ Below w.heap.size w w' := by
  obtain ⟨i0, hi, hz0, hz1, hz2⟩ := info_parts int_info
  have hl : hs.length = M := by have := hh.1; unfold intV at this; simpa using this
  have hlf : (hs.take f).length = f := by rw [qw]; omega
  have h := Tryd.slices_Clone i0 (.int .i64 0) 1 8 hi hz0 hz1 hz2 rfl (by decide) (fun w => by kernel_rfl) gh 0 f ch ((hs.take f).map (Value.int .i64)) w (by rw [List.length_map, hlf, Nat.mul_one]) (by unfold maxLen; omega) (by omega) (fun j u hj => by
    have hj2 : j < f := by have := (List.getElem?_eq_some_iff.1 hj).1; rw [List.length_map, hlf] at this; exact this
    have hc := hh.cellAt j (by omega)
    rw [Nat.zero_add]
    rw [hc]
    unfold intV
    rw [List.getElem?_map, List.getElem?_take, if_pos hj2] at hj
    rw [List.getElem?_map]
    exact hj) (fun u hu => by
    obtain ⟨z, _, rfl⟩ := List.mem_map.1 hu
    simp [Value.oneCell'])
  refine h.mono ?_
  rintro e w' ⟨v', rfl, hown, hne, hb⟩
  obtain ⟨g, c, rfl, _⟩ := own_form2 hown hne
  exact ⟨g, c, rfl, own_base hown g rfl, hown, hb⟩
theorem delA_at (j : Nat) (es : List E) (gq cq base f M G3 : Nat) (W : World) (hj : j ≤ 100) (hM : (rowF (lab j) j es).length = M) (hf : f ≤ M) (hM1 : M ≤ 1000) (ho : W.ownsRow base 3 1 (.slice (some ⟨gq, 0, none⟩) f cq) f (((htI j es).take f).map (Value.int .i64)))
    (T : Blk W G3 3 #[.int .i64 (j : Int)]) (hne : G3 ≠ gq) :
    Calls Tryd.prog 90 #[.slice (some ⟨gq, 0, none⟩) f cq, .func (.func 92) #[] #[.pointer (some ⟨G3, 0, none⟩)]] W fun e w' => e = .returned (.slice (some ⟨gq, 0, none⟩) (cnt (j + 1) ((pr j es).take f)) cq) ∧ W.grownBy w' (some gq) := by
  have hl : ((htI j es).take f).length = f := by rw [qw, htI_len]; omega
  have h := del_a gq cq base ((htI j es).take f) (j : Int) (by omega) (by omega) ⟨G3, 0, none⟩ W (by rw [hl]; exact ho) (T.cell 0) hne (by omega)
  rw [hl, cnt_hts] at h
  exact h.mono fun e w' q => ⟨q.1, q.2.2⟩
theorem delB_at (j : Nat) (es : List E) (gh ch base M G3 : Nat) (W : World) (hj : j ≤ 100) (hM : (rowF (lab j) j es).length = M) (hM1 : M ≤ 1000) (hh : W.ownsRow base 3 1 (.slice (some ⟨gh, 0, none⟩) M ch) M (intV (htI j es)))
    (T : Blk W G3 3 #[.int .i64 (j : Int)]) (hne : G3 ≠ gh) :
    Calls Tryd.prog 90 #[.slice (some ⟨gh, 0, none⟩) M ch, .func (.func 93) #[] #[.pointer (some ⟨G3, 0, none⟩)]] W fun e w' => e = .returned (.slice (some ⟨gh, 0, none⟩) (rowF (lab (j + 1)) (j + 1) es).length ch) ∧
      w'.ownsRow base 3 1 (.slice (some ⟨gh, 0, none⟩) (rowF (lab (j + 1)) (j + 1) es).length ch) (rowF (lab (j + 1)) (j + 1) es).length (intV (htI (j + 1) es)) ∧ W.grownBy w' (some gh) := by
  have hl : (htI j es).length = M := (htI_len j es).trans hM
  have h := del_b gh ch base (htI j es) (j : Int) (by omega) (by omega) ⟨G3, 0, none⟩ W (by rw [hl]; exact hh) (T.cell 0) hne (by omega)
  rw [hl, htI_up2, htI_len] at h
  exact h
end Go.Proofs.YtolbhliepkcihaaDoor.Lab
end
section
namespace Go.Proofs.YtolbhliepkcihaaDoor.Lab
open Go.RowKit YtolbhliepkcihaaDoorW.PrintWords YtolbhliepkcihaaDoorW.PrintLast Kinds Build Sha Mac Codec Tower Mem ProofPure SkipOps SkipPure
set_option maxRecDepth 100000 in
set_option maxHeartbeats 8000000 in
theorem prove_walk (key : ByteArray) (A0 : Option Addr) (c0 : Nat) (l : List S46) (k : Int) (i : Nat) (w : World) (hr0 : Kd.C k46 w A0 l.length l) (hc0 : l.length ≤ c0) (hl : l.length ≤ 60) (hkey : key.size ≤ 1000000000) (hok : okL l) (hT : TabW w) (hb : RightP l) (hi : i < l.length) (hik : l[i].f0 = k) (hij : ∀ j (hj : j < i), l[j].f0 ≠ k) :
  Calls Tryd.prog 58 #[.string key, .slice A0 l.length c0, .int .u64 k] w fun e w' => ∃ B c D d, e = .returned (.tuple #[.agg #[.slice B 8 c, .slice D 8 d], .int .i64 0]) ∧ 8 ≤ c ∧ 8 ≤ d ∧ Kd.C (Kd.slice 9 Kd.string) w' B 8 (befR (ents key l) (i + 1)) ∧ Kd.C (Kd.slice 9 Kd.string) w' D 8 (aftR (ents key l) (i + 1)) ∧ Below w.heap.size w w' := by
 obtain ⟨r, hr, hA, _⟩ := c_right A0 c0 l (by omega)
 obtain rfl := hr.2 hb
 obtain ⟨i3, hi3, hz3, hs3, hb3⟩ := info_parts int_info
 have HA := Lib.hid (fun W (h : Below w.heap.size w W) => hA W (Kd.C_below hr0 h) hc0)
 have HI := Lib.hid (fun W (h : Below w.heap.size w W) q hq => idx_k A0 c0 l W (Kd.C_below hr0 h) (by omega) q k hq (i : Int) (.inl ⟨i, hi, rfl, hik, hij⟩))
 have HC := qf hr0
 have HOK := Lib.hid hok
 have HT := Lib.hid hT
 have HW := Lib.hid (fun W (h : Below w.heap.size w W) (m : Nat) (hm : m ≤ 8) => Row_ok key A0 c0 l m W (Kd.C_below hr0 h) hc0 (by omega) hkey hok hm (tab_below hT h (Nat.le_refl _)) hb)
 have HH0 : Hid (intV ((hts0 key l).take 1) = [.int .i64 9]) := Lib.hid rfl
 clear hr hA hr0 hb hik hij hok hT
 go_enter Tryd.func58, Tryd.ntmps58
 go_upto_region 1 with (fail)
 have N := qf (Blk.new (w.alloc (.cells #[.int .u64 k] 22)) 78 #[.slice none 0 0, .slice none 0 0])
 have NK := qf ((Blk.new w 22 #[.int .u64 k]).alloc (.cells #[.slice none 0 0, .slice none 0 0] 78))
 have HB := qf (qa (qa (Below.refl w.heap.size w) (.cells #[.int .u64 k] 22)) (.cells #[.slice none 0 0, .slice none 0 0] 78))
 rw [World.size_alloc] at N
 generalize (w.alloc (.cells #[.int .u64 k] 22)).alloc (.cells #[.slice none 0 0, .slice none 0 0] 78) = w0 at *
 obtain ⟨g, hg⟩ : ∃ g, w.heap.size + 1 = g := ⟨_, rfl⟩
 rw [hg] at N ⊢
 have hgw : w.heap.size ≤ g := by omega
 clear hg
 go_upto_region 6 with (first | (go_at_call 38; refine (HA.out _ HB.out).mono ?_; rintro e w1 ⟨rfl, hb1⟩; replace N := qf (blk_bel N.out hb1); replace NK := qf (blk_bel NK.out hb1); replace HB := qf (below_step HB.out hb1); clear hb1) | (go_at_call 88; refine (HI.out _ HB.out _ (NK.out.cell 0)).mono ?_; rintro e w1 ⟨rfl, hb1⟩; replace N := qf (blk_bel N.out hb1); replace HB := qf (below_step HB.out hb1); clear hb1 NK))
 have R := qf (own_of_blk (base := w.heap.size) (Blk.new w1 3 #[.int .i64 9]) HB.out.size)
 replace N := qf (N.out.alloc (.cells #[.int .i64 9] 3))
 replace HB := qf (HB.out.alloc HB.out.size (.cells #[.int .i64 9] 3))
 clear HA HI
 go_wp2
 go_loopw [9, 31] (fun hv iv wr => ∃ m : Nat, m ≤ l.length ∧ iv = .int .i64 m ∧ Aside0 (wr.ownsRow w.heap.size 3 1 hv (m + 1) (intV ((hts0 key l).take (m + 1)))) ∧ Aside0 (Blk wr g 78 #[.slice none 0 0, .slice none 0 0]) ∧ Aside0 (Below w.heap.size w wr)) (fun _ iv _ => l.length - (intOf iv).toNat)
 case atStart => exact ⟨0, Nat.zero_le _, rfl, by rw [HH0.out]; exact R, N, HB⟩
 case round =>
  clear R N HB
  obtain ⟨m, hm, rfl, R, N, HB⟩ := hrel
  by_cases hlt : m < l.length
  ·obtain ⟨ad, e1, hc0', hc1'⟩ := at_T46 HC.out (m : Int) (by omega) (by omega)
   cases e1
   rw [rd_it l m hlt, Int.toNat_natCast] at hc0' hc1'
   replace hc0' := (HB.out.cell (qd w _ hc0')).trans hc0'
   replace hc1' := (HB.out.cell (qd w _ hc1')).trans hc1'
   obtain ⟨q1, q2, q3⟩ := HOK.out _ (List.getElem_mem hlt)
   have GH := Lib.hid (fun W h => tower_Height.calls key l[m].f0 ((heightN key l[m].f0.toNat : Nat) : Int) W (if_pos ⟨hkey, q2, q3⟩) h)
   have EH := Lib.hid (hts_take key l m hlt)
   have X := qf (Blk.new wr 46 #[.int .u64 l[m].f0, .string l[m].f1])
   replace R := qf (R.out.alloc (.cells #[.int .u64 l[m].f0, .string l[m].f1] 46))
   replace N := qf (N.out.alloc (.cells #[.int .u64 l[m].f0, .string l[m].f1] 46))
   replace HB := qf (HB.out.alloc HB.out.size (.cells #[.int .u64 l[m].f0, .string l[m].f1] 46))
   clear q1 q2 q3
   generalize ((heightN key l[m].f0.toNat : Nat) : Int) = z at *
   generalize l[m].f0 = f0 at *
   generalize l[m].f1 = f1 at *
   have p0 : (0 : Int) ≤ (m : Int) := by omega
   have p1 : (m : Int) < (l.length : Int) := by omega
   go_upto_region 10 with (fail)
   generalize wr.heap.size = gx at *
   generalize wr.alloc (.cells #[.int .u64 f0, .string f1] 46) = w5 at *
   have hx0 := X.out.cell 0
   have hm1 : m + 1 + 1 ≤ maxLen := by simp only [maxLen]; omega
   have hm2 : (m + 1 + 1) * 8 ≤ 140737488355328 := by omega
   clear hc0' hc1'
   go_wp2_with (first | (go_at_call 17; refine (GH.out _ (tab_below HT.out HB.out (Nat.le_refl _))).mono ?_; rintro e w6 ⟨rfl, hb6⟩; replace R := qf (own_bel R.out hb6); replace N := qf (blk_bel N.out hb6); replace HB := qf (below_step HB.out hb6); clear hb6) | (at_builtin; refine wpList_append_own _ rfl _ _ 27 rfl w.heap.size 3 i3 (.int .i64 0) 1 8 Tryd.underlying27 hi3 hz3 hs3 hb3 rfl (by decide) _ _ _ rfl (R.out.alloc _) ⟨w6.heap.size, 0, none⟩ 1 1 [.int .i64 z] rfl rfl (cell_one_new _ _ _) (by simp [Value.oneCell']) hm1 hm2 (by have := HB.out.size; simp; omega) ?_; intro v' w7 hown' hgrow _))
   go_roundw
   case rel =>
    refine ⟨m + 1, by omega, by go_num, ⟨by rw [EH.out]; exact hown'⟩, ⟨blk_grown (N.out.alloc (.cells #[.int .i64 z] 3)) hgrow (own_ne (R.out.alloc (.cells #[.int .i64 z] 3)) (N.out.alloc (.cells #[.int .i64 z] 3)) (by decide))⟩, ⟨(HB.out.alloc HB.out.size _).grown hgrow (by have := HB.out.size; simp; omega) (fun q e => own_base R.out q e)⟩⟩
   case measure => simp [intOf]; omega
  ·obtain rfl : m = l.length := by omega
   have e0 : intV ((hts0 key l).take (l.length + 1)) = intV (htI 0 (ents key l)) := by rw [List.take_of_length_le (Nat.le_of_eq (hts_len0 key l)), hts_row0]; rfl
   have e2 : (rowF (lab 0) 0 (ents key l)).length = l.length + 1 := by rw [← labs_row, labs_len]
   have R2 : Aside0 (wr.ownsRow w.heap.size 3 1 u9 (rowF (lab 0) 0 (ents key l)).length (intV (htI 0 (ents key l)))) := ⟨by rw [e2, ← e0]; exact R.out⟩
   have HA0 : Hid (i + 1 < (pr 0 (ents key l)).length) := Lib.hid (by rw [pr_len, e2]; omega)
   have HSZ : Hid (∀ j, (rowF (lab j) j (ents key l)).length ≤ 61) := Lib.hid (fun j => by have := row_len j (ents key l); unfold ents at this; simp at this; unfold ents; omega)
   clear R e0 e2 HC HOK HH0
   have HES : Hid (ents key l = head :: l.map (ent key)) := Lib.hid rfl
   unfold rowL at HW
   generalize hE : ents key l = es at *
   have HE := Lib.hid hE
   clear hE
   have hgne : g ≠ wr.heap.size := by have := N.out.lt; omega
   have hgpw := HB.out.size
   have PN := qf (Blk.new wr 78 #[.slice none 0 0, .slice none 0 0])
   have P0 : Aside0 (PT w.heap.size w g wr.heap.size es (i + 1) 0 u9 (rowF (lab 0) 0 es).length (intV (htI 0 es)) (.slice none 0 0) 0 [] (.slice none 0 0) 0 [] (.slice none 0 0) (.slice none 0 0) [] [] (wr.alloc (.cells #[.slice none 0 0, .slice none 0 0] 78))) :=
    ⟨R2.out.alloc _, World.ownsRow_nil _ _ _ _, World.ownsRow_nil _ _ _ _, PN.out, Outs.none _ _ _ _, N.out.alloc _, HB.out.alloc HB.out.size _, by have := HB.out.size; rw [World.size_alloc]; omega, hgpw⟩
   clear R2 N HB PN
   go_upto_region 14 with (fail)
   generalize wr.heap.size = gp at *
   generalize wr.alloc (.cells #[.slice none 0 0, .slice none 0 0] 78) = w2 at *
   obtain ⟨iS, hiS, hzS, hsS, hbS⟩ := info_parts strs_info
   go_wp2
   go_loopw [8, 9, 45] (fun av hv iv wr => ∃ (j : Nat) (vb va : Value) (bs xs2 : List Value), j ≤ 8 ∧ iv = .int .i64 j ∧ av = .int .i64 (atN es (i + 1) j : Nat) ∧ Hid (vb.ownBlock = none ∨ vb.ownBlock ≠ va.ownBlock) ∧ Aside0 (PT w.heap.size w g gp es (i + 1) j hv (rowF (lab j) j es).length (intV (htI j es)) vb j bs va j xs2 vb va bs xs2 wr)) (fun _ _ iv _ => 8 - (intOf iv).toNat)
   case atStart => exact ⟨0, _, _, [], [], by omega, rfl, rfl, Lib.hid (.inl rfl), P0⟩
   case round =>
    clear P0
    obtain ⟨j, vb, va, bs, xs2, hj, rfl, rfl, HNE, P⟩ := hrel
    by_cases hlt8 : j < 8
    ·have hes := HES.out
     have hal : atN es (i + 1) j < (pr j es).length := by
      have := HA0.out
      rw [hes] at this ⊢
      exact at_lt _ _ this j (by omega)
     have hg0 : gD (pr j es) 0 = 9 := by rw [hes]; exact pr_head _ j (by omega)
     have HG0 := Lib.hid hg0
     have hM61 := HSZ.out j
     obtain ⟨M, hM⟩ : ∃ M, (rowF (lab j) j es).length = M := ⟨_, rfl⟩
     have hMp : (pr j es).length = M := by rw [pr_len, hM]
     obtain ⟨a, hae⟩ : ∃ a, atN es (i + 1) j = a := ⟨_, rfl⟩
     rw [hae, hMp] at hal
     rw [hM] at hM61 P
     rw [hae]
     have HM := Lib.hid hM
     have HMP := Lib.hid hMp
     have HAE := Lib.hid hae
     clear hM hMp hae hg0 hes
     obtain ⟨gh, ch, rfl, hch⟩ := own_form P.out.rh (show 0 < M by omega)
     have hgh := (P.out.rh.lt gh rfl).2
     have hgpl := P.out.gp_.lt
     have T := qf (Blk.new wr 3 #[.int .i64 (j : Int)])
     replace P := qf (P.out.below ((Below.refl wr.heap.size wr).alloc (Nat.le_refl _) (.cells #[.int .i64 (j : Int)] 3)))
     go_upto_region 17 with (fail)
     have hG3 : Hid (wr.heap.size ≠ gp) := Lib.hid (by omega)
     have hghG : wr.heap.size ≠ gh := by omega
     clear hgh hgpl
     generalize wr.heap.size = G3 at *
     generalize wr.alloc (.cells #[.int .i64 (j : Int)] 3) = w3 at *
     have HR3 := Lib.hid (HW.out w3 P.out.hb j (by omega))
     have hc3 := T.out.cell 0
     go_upto_region 18 with (go_at_call 30; refine (HR3.out).mono ?_; rintro e w4 ⟨v, rfl, ho, hb4⟩; rw [HM.out] at ho; obtain ⟨gl, cl, rfl, hcl⟩ := own_form ho (by omega); have RW := qf (own_le ho P.out.hz); replace P := qf (P.out.below hb4); replace T := qf (blk_bel T.out hb4); clear ho hb4)
     clear HR3 hc3
     have p0 : (0 : Int) ≤ (a : Int) := by omega
     have p1 : (a : Int) ≤ 61 := by omega
     have p2 : (0 : Int) ≤ (j : Int) := by omega
     have p3 : (j : Int) ≤ 8 := by omega
     go_wp2
     go_loopw [16] (fun fv wq => ∃ f : Nat, f ≤ a ∧ fv = .int .i64 f ∧ Hid (fromN (j + 1) (pr j es) a = fromN (j + 1) (pr j es) f) ∧ Drawn0 w4 wq) (fun fv _ => (intOf fv).toNat)
     case atStart => exact ⟨a, Nat.le_refl _, rfl, Lib.hid rfl, Drawn0.refl _⟩
     case round =>
      obtain ⟨f, hf, rfl, HF, hD⟩ := hrel
      have hBq := hD.below
      obtain ⟨h, hh⟩ : ∃ h, (hts j es).getD f 0 = h := ⟨_, rfl⟩
      have HH : Hid (gD (pr j es) f = h) := Lib.hid ((gD_hts j es f).trans hh)
      have hcf := ((P.out.below hBq).rh.cellAt f (by omega)).trans (htI_at j es f (by rw [HM.out]; omega))
      rw [hh] at hcf
      have hc3 := (blk_bel T.out hBq).cell 0
      clear hh hBq
      have f0 : (0 : Int) ≤ (f : Int) := by omega
      have f1 : (f : Int) < (M : Int) := by omega
      have hw1 : IntKind.i64.wrap ((j : Int) + 1) = (j : Int) + 1 := IntWalk.i64_in _ (by omega)
      go_upto_region 19 with (fail)
      by_cases c : h ≤ j + 1
      ·have hd : decide ((h : Int) ≤ (j : Int) + 1) = true := qj (by omega)
       have hf0 : 0 < f := by
        rcases Nat.eq_zero_or_pos f with q | q
        ·subst q; have := HH.out; have := HG0.out; omega
        ·exact q
       have HF2 : Hid (fromN (j + 1) (pr j es) a = fromN (j + 1) (pr j es) (f - 1)) := Lib.hid (by
        rw [HF.out]
        obtain ⟨f', rfl⟩ : ∃ f', f = f' + 1 := ⟨f - 1, by omega⟩
        exact from_go _ _ _ (by rw [HH.out]; exact c))
       go_quiet (fail)
       clear hw1
       go_wp2
       go_roundw
       case rel => exact ⟨f - 1, by omega, by congr 1; omega, HF2, hD.step _⟩
       case measure => simp [intOf]; omega
      ·have hd : decide ((h : Int) ≤ (j : Int) + 1) = false := decide_eq_false (by omega)
       have HFE : Hid (fromN (j + 1) (pr j es) a = f) := Lib.hid (HF.out.trans (from_stop _ _ _ (by rw [HH.out]; omega)))
       go_quiet (fail)
       replace hD := hD.step nq
       clear hw1 hd c HH HF hcf hc3
       go_wp2
       go_loopw [17] (fun tv wq => ∃ t : Nat, t ≤ M ∧ a + 1 ≤ t ∧ tv = .int .i64 t ∧ Hid (toN (j + 1) (pr j es) (M - (a + 1)) (a + 1) = toN (j + 1) (pr j es) (M - t) t) ∧ Drawn0 w4 wq) (fun tv _ => M - (intOf tv).toNat)
       case atStart => exact ⟨a + 1, by omega, Nat.le_refl _, by go_num, Lib.hid rfl, hD⟩
       case round =>
        clear hD
        obtain ⟨t, ht, hat, rfl, HTO, hD⟩ := hrel
        go_upto_region 21 with (fail)
        go_cut [79] from 67 to 81 (fun s79 wx => s79 = .bool (decide (t < M ∧ gD (pr j es) t ≤ j + 1)) ∧ Drawn0 w4 wx)
        case first =>
         have hw1 : IntKind.i64.wrap ((j : Int) + 1) = (j : Int) + 1 := IntWalk.i64_in _ (by omega)
         have f0 : (0 : Int) ≤ (t : Int) := by omega
         by_cases hlt : t < M
         ·have f1 : (t : Int) < (M : Int) := by omega
          have hBq := hD.below
          obtain ⟨h, hh⟩ : ∃ h, (hts j es).getD t 0 = h := ⟨_, rfl⟩
          have HH : Hid (gD (pr j es) t = h) := Lib.hid ((gD_hts j es t).trans hh)
          have hcf := ((P.out.below hBq).rh.cellAt t (by omega)).trans (htI_at j es t (by rw [HM.out]; omega))
          rw [hh] at hcf
          have hc3 := (blk_bel T.out hBq).cell 0
          clear hh hBq
          have hl1 : decide ((t : Int) < (M : Int)) = true := qj (by omega)
          have hl2 : decide (t < M) = true := qj (by omega)
          by_cases c : h ≤ j + 1
          ·have hd : decide ((h : Int) ≤ (j : Int) + 1) = true := qj (by omega)
           have HV : Hid (decide (t < M ∧ gD (pr j es) t ≤ j + 1) = true) := Lib.hid (qj ⟨hlt, by rw [HH.out]; exact c⟩)
           go_quiet (fail)
           replace hD := hD.step nq
           clear hw1
           go_wp2
           go_meet
           exact ⟨by rw [HV.out], hD⟩
          ·have hd : decide ((h : Int) ≤ (j : Int) + 1) = false := decide_eq_false (by omega)
           have HV : Hid (decide (t < M ∧ gD (pr j es) t ≤ j + 1) = false) := Lib.hid (decide_eq_false (fun q => c (by rw [← HH.out]; exact q.2)))
           go_quiet (fail)
           replace hD := hD.step nq
           clear hw1
           go_wp2
           go_meet
           exact ⟨by rw [HV.out], hD⟩
         ·have hl1 : decide ((t : Int) < (M : Int)) = false := decide_eq_false (by omega)
          have hl2 : decide (t < M) = false := decide_eq_false (by omega)
          have HV : Hid (decide (t < M ∧ gD (pr j es) t ≤ j + 1) = false) := Lib.hid (decide_eq_false (fun q => hlt q.1))
          go_quiet (fail)
          replace hD := hD.step nq
          clear hw1
          go_wp2
          go_meet
          exact ⟨by rw [HV.out], hD⟩
        case rest =>
         clear hD
         obtain ⟨rfl, hD⟩ := hcut
         by_cases hb : t < M ∧ gD (pr j es) t ≤ j + 1
         ·have HTO2 : Hid (toN (j + 1) (pr j es) (M - (a + 1)) (a + 1) = toN (j + 1) (pr j es) (M - (t + 1)) (t + 1)) := Lib.hid (by
           rw [HTO.out]
           obtain ⟨d, hdd⟩ : ∃ d, M - t = d + 1 := ⟨M - t - 1, by omega⟩
           rw [hdd, to_go _ _ _ _ hb.2]
           congr 1
           omega)
          have ht1 := hb.1
          rw [qj hb]
          clear hb
          go_wp2
          go_roundw
          case rel => first | exact ⟨t + 1, by omega, by omega, by go_num, HTO2, hD⟩ | ((repeat apply Exists.intro); exact ⟨⟨t + 1, by omega, by omega, by go_num, HTO2, hD⟩, rfl⟩)
          case measure => simp [intOf]; omega
         ·have HTE : Hid (toN (j + 1) (pr j es) (M - (a + 1)) (a + 1) = t) := Lib.hid (HTO.out.trans (to_stop _ _ _ _ (by
           by_cases q : t < M
           ·exact .inr (Nat.lt_of_not_le (fun q2 => hb ⟨q, q2⟩))
           ·exact .inl (by omega))))
          rw [decide_eq_false hb]
          clear hb HTO
          have hfM : f ≤ M := by omega
          have ht0 : (t : Int) ≤ (M : Int) := by omega
          have HC1 := cut_w gl M cl f a hf (by omega) hcl
          have HC2 : ∀ W : World, (Instr.slice 49 (.slice (some ⟨gl, 0, none⟩) M cl) (some (.int .i64 ((a : Int) + 1))) (some (.int .i64 (t : Int))) none).run Tryd.prog W = .ok (segW gl cl (a + 1, t)) W := cut_w gl M cl (a + 1) t hat ht hcl
          go_upto_region 23 with (fail)
          go_cut [45] from 45 to 111 (fun s45 wx => s45 = .int .i64 (j : Int) ∧ ∃ v1 v2 : Value, Hid (v1.ownBlock = none ∨ v1.ownBlock ≠ v2.ownBlock) ∧ Aside0 (PT w.heap.size w g gp es (i + 1) j (.slice (some ⟨gh, 0, none⟩) M ch) M (intV (htI j es)) v1 (j + 1) (bs ++ [segW gl cl (f, a)]) v2 (j + 1) (xs2 ++ [segW gl cl (a + 1, t)]) v1 v2 bs xs2 wx) ∧ Aside0 (Blk wx G3 3 #[.int .i64 (j : Int)]) ∧ Aside0 (wx.ownsRow w.heap.size 9 1 (.slice (some ⟨gl, 0, none⟩) M cl) M (strV (rowF (lab j) j es))))
          case first =>
           have hBq := hD.below.drew
           replace P := qf (P.out.below hBq)
           replace T := qf (blk_bel T.out hBq)
           replace RW := qf (own_bel RW.out hBq)
           have hbv := fun q e => (P.out.rb.lt q e).2
           clear hBq hD
           have hw1 : IntKind.i64.wrap ((a : Int) + 1) = (a : Int) + 1 := IntWalk.i64_in _ (by omega)
           refine start_ (n := 21) (S := (fun w' : World => w'.cell? ⟨gp, 0, none⟩ = some vb ∧ w'.cell? ⟨gp, 1, none⟩ = some va)) (ds := [18, 20]) (bm 21 0) (by kernel_rfl) rfl rfl ⟨P.out.gp_.cell 0, P.out.gp_.cell 1⟩ (fun hHeld => ?_)
           refine pure_ (i := 0) (N := some 82) (v := .pointer (some ⟨gp, 0, none⟩)) (a' := ?_) (bm 21 1) rfl rfl (by kernel_rfl) (fun _ _ _ h => h) (Or.inl ⟨by rfl, ?_⟩) ?_ ?_
           ·intro w'
            go_simp
           rotate_left
           ·simp only [Act.put, qs, qt, qu]
            rfl
           refine pure_ (i := 8) (N := some 90) (v := .pointer (some ⟨gp, 1, none⟩)) (a' := ?_) (bm 21 257) rfl rfl (by kernel_rfl) (fun _ _ _ h => h) (Or.inl ⟨by rfl, ?_⟩) ?_ ?_
           ·intro w'
            go_simp
           rotate_left
           ·simp only [Act.put, qs, qt, qu]
            rfl
           refine pure_ (i := 2) (N := some 84) (v := .slice (some ⟨gl, 0, none⟩) M cl) (a' := ?_) (bm 21 261) rfl rfl (by kernel_rfl) (fun _ _ _ h => h) (Or.inl ⟨by rfl, ?_⟩) ?_ ?_
           ·intro w'
            go_simp
           rotate_left
           ·simp only [Act.put, qs, qt, qu]
            rfl
           refine pure_ (i := 3) (N := some 85) (v := .int .i64 (f : Int)) (a' := ?_) (bm 21 269) rfl rfl (by kernel_rfl) (fun _ _ _ h => h) (Or.inl ⟨by rfl, ?_⟩) ?_ ?_
           ·intro w'
            go_simp
           rotate_left
           ·simp only [Act.put, qs, qt, qu]
            rfl
           refine pure_ (i := 4) (N := some 86) (v := .int .i64 (a : Int)) (a' := ?_) (bm 21 285) rfl rfl (by kernel_rfl) (fun _ _ _ h => h) (Or.inl ⟨by rfl, ?_⟩) ?_ ?_
           ·intro w'
            go_simp
           rotate_left
           ·simp only [Act.put, qs, qt, qu]
            rfl
           refine pure_ (i := 5) (N := some 87) (v := segW gl cl (f, a)) (a' := ?_) (bm 21 317) rfl rfl (by kernel_rfl) (fun _ _ _ h => h) (Or.inl ⟨by rfl, ?_⟩) ?_ ?_
           ·intro w'
            go_simp
           rotate_left
           ·simp only [Act.put, qs, qt, qu]
            rfl
           refine pure_ (i := 10) (N := some 92) (v := .slice (some ⟨gl, 0, none⟩) M cl) (a' := ?_) (bm 21 1341) rfl rfl (by kernel_rfl) (fun _ _ _ h => h) (Or.inl ⟨by rfl, ?_⟩) ?_ ?_
           ·intro w'
            go_simp
           rotate_left
           ·simp only [Act.put, qs, qt, qu]
            rfl
           refine pure_ (i := 11) (N := some 93) (v := .int .i64 (a : Int)) (a' := ?_) (bm 21 3389) rfl rfl (by kernel_rfl) (fun _ _ _ h => h) (Or.inl ⟨by rfl, ?_⟩) ?_ ?_
           ·intro w'
            go_simp
           rotate_left
           ·simp only [Act.put, qs, qt, qu]
            rfl
           refine pure_ (i := 12) (N := some 94) (v := .int .i64 ((a : Int) + 1)) (a' := ?_) (bm 21 7485) rfl rfl (by kernel_rfl) (fun _ _ _ h => h) (Or.inl ⟨by rfl, ?_⟩) ?_ ?_
           ·intro w'
            go_simp
           rotate_left
           ·simp only [Act.put, qs, qt, qu]
            rfl
           refine pure_ (i := 13) (N := some 95) (v := .int .i64 (t : Int)) (a' := ?_) (bm 21 15677) rfl rfl (by kernel_rfl) (fun _ _ _ h => h) (Or.inl ⟨by rfl, ?_⟩) ?_ ?_
           ·intro w'
            go_simp
           rotate_left
           ·simp only [Act.put, qs, qt, qu]
            rfl
           refine pure_ (i := 14) (N := some 96) (v := segW gl cl (a + 1, t)) (a' := ?_) (bm 21 32061) rfl rfl (by kernel_rfl) (fun _ _ _ h => h) (Or.inl ⟨by rfl, ?_⟩) ?_ ?_
           ·intro w'
            go_simp
           rotate_left
           ·simp only [Act.put, qs, qt, qu]
            rfl
           refine take_ (i := 1) (N := some 83) (v := vb) (a' := ?_) (bm 21 32063) rfl rfl (by kernel_rfl) (fun _ _ _ h => h) (Or.inl ⟨by rfl, ?_⟩) hHeld ?_ ?_
           ·intro w' hSw
            obtain ⟨q0, q1⟩ := hSw
            go_simp
           rotate_left
           ·simp only [Act.put, qs, qt, qu]
            rfl
           refine take_ (i := 9) (N := some 91) (v := va) (a' := ?_) (bm 21 32575) rfl rfl (by kernel_rfl) (fun _ _ _ h => h) (Or.inl ⟨by rfl, ?_⟩) hHeld ?_ ?_
           ·intro w' hSw
            obtain ⟨q0, q1⟩ := hSw
            go_simp
           rotate_left
           ·simp only [Act.put, qs, qt, qu]
            rfl
           have HNE0 := HNE
           refine two_ (i := 6) (j := 15) (Ni := some 88) (Nj := some 97) (bm 21 32639) (bm 21 65343) rfl rfl rfl rfl (by kernel_rfl) (by decide) (by decide) (fun K hK => ?_) (fun K hK => ?_)
           ·skip
            clear hHeld
            go_simp
            have N6 := qf (Blk.new (wc.drew) 49 #[segW gl cl (f, a)])
            have hbn := (Below.refl (wc.drew).heap.size (wc.drew)).alloc (Nat.le_refl _) (.cells #[segW gl cl (f, a)] 49)
            replace P := qf (P.out.below hbn)
            replace T := qf (blk_bel T.out hbn)
            replace RW := qf (own_bel RW.out hbn)
            clear hbn
            refine hK.out _ _ ⟨P.out.gp_.cell 0, P.out.gp_.cell 1⟩ (fun hHeld => ?_)
            clear hK K
            simp only [Act.put, qs, qt, qu]
            refine two_ (i := 7) (j := 15) (Ni := some 89) (Nj := some 97) (bm 21 32767) (bm 21 65407) rfl rfl rfl rfl (by kernel_rfl) (by decide) (by decide) (fun K hK => ?_) (fun K hK => ?_)
            ·skip
             clear hHeld
             refine step_own_at rfl (.tmp 83) (.tmp 88) 76 rfl w.heap.size 49 iS (.slice none 0 0) 1 24 Tryd.underlying76 hiS hzS hsS hbS rfl (by decide) vb j bs (by rfl) P.out.rb ⟨(wc.drew).heap.size, 0, none⟩ 1 1 [segW gl cl (f, a)] (by rfl) rfl (blk_one N6.out) (by simp [segW, Value.oneCell']) (by simp only [maxLen]; omega) (by omega) P.out.hz ?_
             intro v1 wx1 ho hg hat
             clear N6
             have HNE := Lib.hid (ne_app HNE.out hat P.out.ra)
             replace T := qf (blk_grown T.out hg (own_ne P.out.rb T.out (by decide)))
             replace RW := qf (RW.out.kept hg (own_ne2 RW.out P.out.rb (by decide)))
             replace P := qf (P.out.appB HNE0.out ho hg)
             clear ho hg hat
             refine hK.out _ _ ⟨P.out.gp_.cell 0, P.out.gp_.cell 1⟩ (fun hHeld => ?_)
             clear hK K
             simp only [Act.put, qs]
             refine pure_ (i := 17) (N := some 99) (v := .pointer (some ⟨gp, 0, none⟩)) (a' := ?_) (bm 21 163839) rfl rfl (by kernel_rfl) (fun _ _ _ h => h) (Or.inl ⟨by rfl, ?_⟩) ?_ ?_
             ·intro w'
              go_simp
             rotate_left
             ·simp only [Act.put]
              rfl
             have HNE1 := HNE
             refine one_ (i := 15) (N := some 97) (bm 21 196607) rfl rfl (by kernel_rfl) (by decide) (fun K hK => ?_)
             clear hHeld
             go_simp
             have N15 := qf (Blk.new (wx1) 49 #[segW gl cl (a + 1, t)])
             have hbn := (Below.refl (wx1).heap.size (wx1)).alloc (Nat.le_refl _) (.cells #[segW gl cl (a + 1, t)] 49)
             replace P := qf (P.out.below hbn)
             replace T := qf (blk_bel T.out hbn)
             replace RW := qf (own_bel RW.out hbn)
             clear hbn
             refine hK.out _ _ ⟨P.out.gp_.cell 0, P.out.gp_.cell 1⟩ (fun hHeld => ?_)
             clear hK K
             simp only [Act.put, qs, qt, qu]
             refine one_ (i := 16) (N := some 98) (bm 21 262143) rfl rfl (by kernel_rfl) (by decide) (fun K hK => ?_)
             clear hHeld
             refine step_own_at rfl (.tmp 91) (.tmp 97) 76 rfl w.heap.size 49 iS (.slice none 0 0) 1 24 Tryd.underlying76 hiS hzS hsS hbS rfl (by decide) va j xs2 (by rfl) P.out.ra ⟨(wx1).heap.size, 0, none⟩ 1 1 [segW gl cl (a + 1, t)] (by rfl) rfl (blk_one N15.out) (by simp [segW, Value.oneCell']) (by simp only [maxLen]; omega) (by omega) P.out.hz ?_
             intro v2 wx2 ho hg hat
             clear N15
             have HNE := Lib.hid (ne_sym (ne_app (ne_sym HNE.out) hat P.out.rb))
             replace T := qf (blk_grown T.out hg (own_ne P.out.ra T.out (by decide)))
             replace RW := qf (RW.out.kept hg (own_ne2 RW.out P.out.ra (by decide)))
             replace P := qf (P.out.appA HNE1.out ho hg)
             clear ho hg hat
             refine hK.out _ _ ⟨P.out.gp_.cell 0, P.out.gp_.cell 1⟩ (fun hHeld => ?_)
             clear hK K
             simp only [Act.put, qs]
             have HNE2 := HNE
             obtain ⟨g1, c1, rfl, _⟩ := own_succ3 P.out.rb
             obtain ⟨g2, c2, rfl, _⟩ := own_succ3 P.out.ra
             have hx0 := P.out.gp_.cell 0
             have fx0 := P.out.gp_.frozen 0
             have P3 := qf (P.out.gp_.set_ 0 (.slice (some ⟨g1, 0, none⟩) (j + 1) c1))
             have hx1 := P3.out.cell 1
             have fx1 := P3.out.frozen 1
             refine last_ (i := 18) (N := none) (bm 21 524287) rfl rfl (by kernel_rfl) (by decide) (fun K hK => ?_)
             go_simp
             refine hK.out _ _ ?_
             clear hK K
             refine pure_ (i := 19) (N := some 100) (v := .pointer (some ⟨gp, 1, none⟩)) (a' := ?_) (bm 21 1048575) rfl rfl (by kernel_rfl) (fun _ _ _ h => h) (Or.inl ⟨by rfl, ?_⟩) ?_ ?_
             ·intro w'
              go_simp
             rotate_left
             ·simp only [Act.put, qs, qt, qu]
              rfl
             refine last_ (i := 20) (N := none) (bm 21 2097151) rfl rfl (by kernel_rfl) (by decide) (fun K hK => ?_)
             go_simp
             refine hK.out _ _ ?_
             refine done_ (by kernel_rfl) ?_
             clear hK K hHeld hx0 fx0 hx1 fx1
             have PF := qf (P.out.store hgne (.slice (some ⟨g1, 0, none⟩) (j + 1) c1) (.slice (some ⟨g2, 0, none⟩) (j + 1) c2))
             have TF := qf (blk_grown (blk_grown T.out (set_grown_at _ gp 0 (.slice (some ⟨g1, 0, none⟩) (j + 1) c1)) (fun e => hG3.out (Option.some.inj e).symm)) (set_grown_at _ gp 1 (.slice (some ⟨g2, 0, none⟩) (j + 1) c2)) (fun e => hG3.out (Option.some.inj e).symm))
             have RF := qf ((RW.out.kept (set_grown_at _ gp 0 (.slice (some ⟨g1, 0, none⟩) (j + 1) c1)) (.inr (own_ne RW.out P.out.gp_ (by decide)))).kept (set_grown_at _ gp 1 (.slice (some ⟨g2, 0, none⟩) (j + 1) c2)) (.inr (own_ne RW.out P.out.gp_ (by decide))))
             clear P3 P T RW
             go_wp2_with fail
             go_meet
             exact ⟨rfl, _, _, HNE2, PF, TF, RF⟩
            ·skip
             clear hHeld
             go_simp
             have N15 := qf (Blk.new ((wc.drew).alloc (.cells #[segW gl cl (f, a)] 49)) 49 #[segW gl cl (a + 1, t)])
             replace N6 := qf (N6.out.alloc (.cells #[segW gl cl (a + 1, t)] 49))
             have hbn := (Below.refl ((wc.drew).alloc (.cells #[segW gl cl (f, a)] 49)).heap.size ((wc.drew).alloc (.cells #[segW gl cl (f, a)] 49))).alloc (Nat.le_refl _) (.cells #[segW gl cl (a + 1, t)] 49)
             replace P := qf (P.out.below hbn)
             replace T := qf (blk_bel T.out hbn)
             replace RW := qf (own_bel RW.out hbn)
             clear hbn
             refine hK.out _ _ ⟨P.out.gp_.cell 0, P.out.gp_.cell 1⟩ (fun hHeld => ?_)
             clear hK K
             simp only [Act.put, qs, qt, qu]
             refine one_ (i := 7) (N := some 89) (bm 21 65535) rfl rfl (by kernel_rfl) (by decide) (fun K hK => ?_)
             clear hHeld
             refine step_own_at rfl (.tmp 83) (.tmp 88) 76 rfl w.heap.size 49 iS (.slice none 0 0) 1 24 Tryd.underlying76 hiS hzS hsS hbS rfl (by decide) vb j bs (by rfl) P.out.rb ⟨(wc.drew).heap.size, 0, none⟩ 1 1 [segW gl cl (f, a)] (by rfl) rfl (blk_one N6.out) (by simp [segW, Value.oneCell']) (by simp only [maxLen]; omega) (by omega) P.out.hz ?_
             intro v1 wx1 ho hg hat
             clear N6
             replace N15 := qf (blk_grown N15.out hg (fun e => absurd (hbv _ e) (by simp)))
             have HNE := Lib.hid (ne_app HNE.out hat P.out.ra)
             replace T := qf (blk_grown T.out hg (own_ne P.out.rb T.out (by decide)))
             replace RW := qf (RW.out.kept hg (own_ne2 RW.out P.out.rb (by decide)))
             replace P := qf (P.out.appB HNE0.out ho hg)
             clear ho hg hat
             refine hK.out _ _ ⟨P.out.gp_.cell 0, P.out.gp_.cell 1⟩ (fun hHeld => ?_)
             clear hK K
             simp only [Act.put, qs]
             refine pure_ (i := 17) (N := some 99) (v := .pointer (some ⟨gp, 0, none⟩)) (a' := ?_) (bm 21 196607) rfl rfl (by kernel_rfl) (fun _ _ _ h => h) (Or.inl ⟨by rfl, ?_⟩) ?_ ?_
             ·intro w'
              go_simp
             rotate_left
             ·simp only [Act.put]
              rfl
             have HNE1 := HNE
             refine one_ (i := 16) (N := some 98) (bm 21 262143) rfl rfl (by kernel_rfl) (by decide) (fun K hK => ?_)
             clear hHeld
             refine step_own_at rfl (.tmp 91) (.tmp 97) 76 rfl w.heap.size 49 iS (.slice none 0 0) 1 24 Tryd.underlying76 hiS hzS hsS hbS rfl (by decide) va j xs2 (by rfl) P.out.ra ⟨((wc.drew).alloc (.cells #[segW gl cl (f, a)] 49)).heap.size, 0, none⟩ 1 1 [segW gl cl (a + 1, t)] (by rfl) rfl (blk_one N15.out) (by simp [segW, Value.oneCell']) (by simp only [maxLen]; omega) (by omega) P.out.hz ?_
             intro v2 wx2 ho hg hat
             clear N15
             have HNE := Lib.hid (ne_sym (ne_app (ne_sym HNE.out) hat P.out.rb))
             replace T := qf (blk_grown T.out hg (own_ne P.out.ra T.out (by decide)))
             replace RW := qf (RW.out.kept hg (own_ne2 RW.out P.out.ra (by decide)))
             replace P := qf (P.out.appA HNE1.out ho hg)
             clear ho hg hat
             refine hK.out _ _ ⟨P.out.gp_.cell 0, P.out.gp_.cell 1⟩ (fun hHeld => ?_)
             clear hK K
             simp only [Act.put]
             have HNE2 := HNE
             obtain ⟨g1, c1, rfl, _⟩ := own_succ3 P.out.rb
             obtain ⟨g2, c2, rfl, _⟩ := own_succ3 P.out.ra
             have hx0 := P.out.gp_.cell 0
             have fx0 := P.out.gp_.frozen 0
             have P3 := qf (P.out.gp_.set_ 0 (.slice (some ⟨g1, 0, none⟩) (j + 1) c1))
             have hx1 := P3.out.cell 1
             have fx1 := P3.out.frozen 1
             refine last_ (i := 18) (N := none) (bm 21 524287) rfl rfl (by kernel_rfl) (by decide) (fun K hK => ?_)
             go_simp
             refine hK.out _ _ ?_
             clear hK K
             refine pure_ (i := 19) (N := some 100) (v := .pointer (some ⟨gp, 1, none⟩)) (a' := ?_) (bm 21 1048575) rfl rfl (by kernel_rfl) (fun _ _ _ h => h) (Or.inl ⟨by rfl, ?_⟩) ?_ ?_
             ·intro w'
              go_simp
             rotate_left
             ·simp only [Act.put, qs, qt, qu]
              rfl
             refine last_ (i := 20) (N := none) (bm 21 2097151) rfl rfl (by kernel_rfl) (by decide) (fun K hK => ?_)
             go_simp
             refine hK.out _ _ ?_
             refine done_ (by kernel_rfl) ?_
             clear hK K hHeld hx0 fx0 hx1 fx1
             have PF := qf (P.out.store hgne (.slice (some ⟨g1, 0, none⟩) (j + 1) c1) (.slice (some ⟨g2, 0, none⟩) (j + 1) c2))
             have TF := qf (blk_grown (blk_grown T.out (set_grown_at _ gp 0 (.slice (some ⟨g1, 0, none⟩) (j + 1) c1)) (fun e => hG3.out (Option.some.inj e).symm)) (set_grown_at _ gp 1 (.slice (some ⟨g2, 0, none⟩) (j + 1) c2)) (fun e => hG3.out (Option.some.inj e).symm))
             have RF := qf ((RW.out.kept (set_grown_at _ gp 0 (.slice (some ⟨g1, 0, none⟩) (j + 1) c1)) (.inr (own_ne RW.out P.out.gp_ (by decide)))).kept (set_grown_at _ gp 1 (.slice (some ⟨g2, 0, none⟩) (j + 1) c2)) (.inr (own_ne RW.out P.out.gp_ (by decide))))
             clear P3 P T RW
             go_wp2_with fail
             go_meet
             exact ⟨rfl, _, _, HNE2, PF, TF, RF⟩
           ·skip
            clear hHeld
            go_simp
            have N15 := qf (Blk.new (wc.drew) 49 #[segW gl cl (a + 1, t)])
            have hbn := (Below.refl (wc.drew).heap.size (wc.drew)).alloc (Nat.le_refl _) (.cells #[segW gl cl (a + 1, t)] 49)
            replace P := qf (P.out.below hbn)
            replace T := qf (blk_bel T.out hbn)
            replace RW := qf (own_bel RW.out hbn)
            clear hbn
            refine hK.out _ _ ⟨P.out.gp_.cell 0, P.out.gp_.cell 1⟩ (fun hHeld => ?_)
            clear hK K
            simp only [Act.put, qs, qt, qu]
            refine one_ (i := 6) (N := some 88) (bm 21 65407) rfl rfl (by kernel_rfl) (by decide) (fun K hK => ?_)
            clear hHeld
            go_simp
            have N6 := qf (Blk.new ((wc.drew).alloc (.cells #[segW gl cl (a + 1, t)] 49)) 49 #[segW gl cl (f, a)])
            replace N15 := qf (N15.out.alloc (.cells #[segW gl cl (f, a)] 49))
            have hbn := (Below.refl ((wc.drew).alloc (.cells #[segW gl cl (a + 1, t)] 49)).heap.size ((wc.drew).alloc (.cells #[segW gl cl (a + 1, t)] 49))).alloc (Nat.le_refl _) (.cells #[segW gl cl (f, a)] 49)
            replace P := qf (P.out.below hbn)
            replace T := qf (blk_bel T.out hbn)
            replace RW := qf (own_bel RW.out hbn)
            clear hbn
            refine hK.out _ _ ⟨P.out.gp_.cell 0, P.out.gp_.cell 1⟩ (fun hHeld => ?_)
            clear hK K
            simp only [Act.put, qs, qt, qu]
            refine one_ (i := 7) (N := some 89) (bm 21 65535) rfl rfl (by kernel_rfl) (by decide) (fun K hK => ?_)
            clear hHeld
            refine step_own_at rfl (.tmp 83) (.tmp 88) 76 rfl w.heap.size 49 iS (.slice none 0 0) 1 24 Tryd.underlying76 hiS hzS hsS hbS rfl (by decide) vb j bs (by rfl) P.out.rb ⟨((wc.drew).alloc (.cells #[segW gl cl (a + 1, t)] 49)).heap.size, 0, none⟩ 1 1 [segW gl cl (f, a)] (by rfl) rfl (blk_one N6.out) (by simp [segW, Value.oneCell']) (by simp only [maxLen]; omega) (by omega) P.out.hz ?_
            intro v1 wx1 ho hg hat
            clear N6
            replace N15 := qf (blk_grown N15.out hg (fun e => absurd (hbv _ e) (by simp)))
            have HNE := Lib.hid (ne_app HNE.out hat P.out.ra)
            replace T := qf (blk_grown T.out hg (own_ne P.out.rb T.out (by decide)))
            replace RW := qf (RW.out.kept hg (own_ne2 RW.out P.out.rb (by decide)))
            replace P := qf (P.out.appB HNE0.out ho hg)
            clear ho hg hat
            refine hK.out _ _ ⟨P.out.gp_.cell 0, P.out.gp_.cell 1⟩ (fun hHeld => ?_)
            clear hK K
            simp only [Act.put, qs]
            refine pure_ (i := 17) (N := some 99) (v := .pointer (some ⟨gp, 0, none⟩)) (a' := ?_) (bm 21 196607) rfl rfl (by kernel_rfl) (fun _ _ _ h => h) (Or.inl ⟨by rfl, ?_⟩) ?_ ?_
            ·intro w'
             go_simp
            rotate_left
            ·simp only [Act.put]
             rfl
            have HNE1 := HNE
            refine one_ (i := 16) (N := some 98) (bm 21 262143) rfl rfl (by kernel_rfl) (by decide) (fun K hK => ?_)
            clear hHeld
            refine step_own_at rfl (.tmp 91) (.tmp 97) 76 rfl w.heap.size 49 iS (.slice none 0 0) 1 24 Tryd.underlying76 hiS hzS hsS hbS rfl (by decide) va j xs2 (by rfl) P.out.ra ⟨(wc.drew).heap.size, 0, none⟩ 1 1 [segW gl cl (a + 1, t)] (by rfl) rfl (blk_one N15.out) (by simp [segW, Value.oneCell']) (by simp only [maxLen]; omega) (by omega) P.out.hz ?_
            intro v2 wx2 ho hg hat
            clear N15
            have HNE := Lib.hid (ne_sym (ne_app (ne_sym HNE.out) hat P.out.rb))
            replace T := qf (blk_grown T.out hg (own_ne P.out.ra T.out (by decide)))
            replace RW := qf (RW.out.kept hg (own_ne2 RW.out P.out.ra (by decide)))
            replace P := qf (P.out.appA HNE1.out ho hg)
            clear ho hg hat
            refine hK.out _ _ ⟨P.out.gp_.cell 0, P.out.gp_.cell 1⟩ (fun hHeld => ?_)
            clear hK K
            simp only [Act.put]
            have HNE2 := HNE
            obtain ⟨g1, c1, rfl, _⟩ := own_succ3 P.out.rb
            obtain ⟨g2, c2, rfl, _⟩ := own_succ3 P.out.ra
            have hx0 := P.out.gp_.cell 0
            have fx0 := P.out.gp_.frozen 0
            have P3 := qf (P.out.gp_.set_ 0 (.slice (some ⟨g1, 0, none⟩) (j + 1) c1))
            have hx1 := P3.out.cell 1
            have fx1 := P3.out.frozen 1
            refine last_ (i := 18) (N := none) (bm 21 524287) rfl rfl (by kernel_rfl) (by decide) (fun K hK => ?_)
            go_simp
            refine hK.out _ _ ?_
            clear hK K
            refine pure_ (i := 19) (N := some 100) (v := .pointer (some ⟨gp, 1, none⟩)) (a' := ?_) (bm 21 1048575) rfl rfl (by kernel_rfl) (fun _ _ _ h => h) (Or.inl ⟨by rfl, ?_⟩) ?_ ?_
            ·intro w'
             go_simp
            rotate_left
            ·simp only [Act.put, qs, qt, qu]
             rfl
            refine last_ (i := 20) (N := none) (bm 21 2097151) rfl rfl (by kernel_rfl) (by decide) (fun K hK => ?_)
            go_simp
            refine hK.out _ _ ?_
            refine done_ (by kernel_rfl) ?_
            clear hK K hHeld hx0 fx0 hx1 fx1
            have PF := qf (P.out.store hgne (.slice (some ⟨g1, 0, none⟩) (j + 1) c1) (.slice (some ⟨g2, 0, none⟩) (j + 1) c2))
            have TF := qf (blk_grown (blk_grown T.out (set_grown_at _ gp 0 (.slice (some ⟨g1, 0, none⟩) (j + 1) c1)) (fun e => hG3.out (Option.some.inj e).symm)) (set_grown_at _ gp 1 (.slice (some ⟨g2, 0, none⟩) (j + 1) c2)) (fun e => hG3.out (Option.some.inj e).symm))
            have RF := qf ((RW.out.kept (set_grown_at _ gp 0 (.slice (some ⟨g1, 0, none⟩) (j + 1) c1)) (.inr (own_ne RW.out P.out.gp_ (by decide)))).kept (set_grown_at _ gp 1 (.slice (some ⟨g2, 0, none⟩) (j + 1) c2)) (.inr (own_ne RW.out P.out.gp_ (by decide))))
            clear P3 P T RW
            go_wp2_with fail
            go_meet
            exact ⟨rfl, _, _, HNE2, PF, TF, RF⟩
          case rest =>
           clear P T RW HNE hD HC1 HC2
           obtain ⟨rfl, v1, v2, HNE, P, T, RW⟩ := hcut
           have EB : befS es (i + 1) j = (f, a) := by unfold befS; rw [HAE.out, HFE.out]
           have EA : aftS es (i + 1) j = (a + 1, t) := by unfold aftS; rw [HAE.out, HMP.out, HTE.out]
           have HO := P.out.ho.push HM.out.symm hcl RW.out
           rw [EB, EA] at HO
           have HO2 := qf HO
           have HCL := Lib.hid (clone_h w.heap.size gh ch M f (htI j es) wc P.out.rh hfM (by omega))
           have HTL := T.out.lt
           obtain ⟨q, hq⟩ : ∃ q, cnt (j + 1) ((pr j es).take f) = q := ⟨_, rfl⟩
           have HQ : Hid (atN es (i + 1) (j + 1) = q) := Lib.hid (by
            show cnt (j + 1) ((pr j es).take (fromN (j + 1) (pr j es) (atN es (i + 1) j))) = q
            rw [HAE.out, HFE.out, hq])
           have HDA := Lib.hid (fun (gq cq base : Nat) (W : World) ho T hne => delA_at j es gq cq base f M G3 W (by omega) HM.out hfM (by omega) ho T hne)
           rw [hq] at HDA
           clear EB EA HO hq RW
           have f2 : (f : Int) ≤ (ch : Int) := by omega
           go_upto_region 25 with (first | (go_at_call 91; refine (HCL.out).mono ?_; rintro e w6 ⟨gq, cq, rfl, hgq, hoq, hbq⟩; have HDB := Lib.hid (HDA.out gq cq wc.heap.size w6 hoq (blk_bel T.out hbq) (by omega)); have HBQ := qf hbq; have HGQ := Lib.hid hgq; clear hoq hbq hgq) | (go_at_call 90; refine (HDB.out).mono ?_; rintro e w7 ⟨rfl, hgr⟩; have HB7 := qf (HBQ.out.grown hgr HBQ.out.size (fun k e => by cases e; exact HGQ.out)); clear hgr))
           clear HCL HDA HDB HBQ HGQ
           replace P := qf (P.out.below HB7.out)
           replace T := qf (blk_bel T.out HB7.out)
           have HO3 := qf (HO2.out.keep (fun _ _ _ z => own_bel z HB7.out))
           clear HO2 HB7 HTL
           have HDE := Lib.hid (delB_at j es gh ch w.heap.size M G3 w7 (by omega) HM.out (by omega) P.out.rh T.out hghG)
           obtain ⟨M2, hM2⟩ : ∃ M2, (rowF (lab (j + 1)) (j + 1) es).length = M2 := ⟨_, rfl⟩
           rw [hM2] at HDE
           have HM2 := Lib.hid hM2
           clear hM2
           go_upto_region 26 with (go_at_call 90; refine (HDE.out).mono ?_; rintro e w8 ⟨rfl, hoh, hgr⟩; have HO4 := qf (HO3.out.keep (fun _ _ _ z => z.kept hgr (own_ne2 z P.out.rh (by decide)))); replace P := qf (P.out.delH hoh hgr); clear hoh hgr)
           clear HDE HO3
           have PF := qf (P.out.outs HO4.out)
           clear P HO4 T
           go_wp2
           go_roundw
           case rel => first | exact ⟨j + 1, v1, v2, _, _, by omega, by go_num, by rw [HQ.out], HNE, by rw [HM2.out]; exact PF⟩ | ((repeat apply Exists.intro); exact ⟨⟨j + 1, v1, v2, _, _, by omega, by go_num, by rw [HQ.out], HNE, by rw [HM2.out]; exact PF⟩, rfl⟩)
           case measure => simp [intOf]; omega
    ·obtain rfl : j = 8 := by omega
     obtain ⟨gb, cb, rfl, hcb⟩ := own_form P.out.rb (by decide)
     obtain ⟨ga, ca, rfl, hca⟩ := own_form P.out.ra (by decide)
     have hp0 := P.out.gp_.cell 0
     have hp1 := P.out.gp_.cell 1
     have hn0 := P.out.n.cell 0
     have hn1 := P.out.n.cell 1
     have hf0 := P.out.n.frozen 0
     have hf1 := P.out.n.frozen 1
     have hgb := own_ne P.out.rb P.out.n (by decide)
     have hga := own_ne P.out.ra P.out.n (by decide)
     have FB : Aside0 (∀ (u1 u2 : Value), ((wr.setCell ⟨g, 0, none⟩ u1).setCell ⟨g, 1, none⟩ u2).ownsRow w.heap.size 49 1 (.slice (some ⟨gb, 0, none⟩) 8 cb) 8 bs) := ⟨fun u1 u2 => (P.out.rb.kept (set_grown_at wr g 0 u1) (.inr hgb)).kept (set_grown_at _ g 1 u2) (.inr hgb)⟩
     have FA : Aside0 (∀ (u1 u2 : Value), ((wr.setCell ⟨g, 0, none⟩ u1).setCell ⟨g, 1, none⟩ u2).ownsRow w.heap.size 49 1 (.slice (some ⟨ga, 0, none⟩) 8 ca) 8 xs2) := ⟨fun u1 u2 => (P.out.ra.kept (set_grown_at wr g 0 u1) (.inr hga)).kept (set_grown_at _ g 1 u2) (.inr hga)⟩
     have FO : Aside0 (∀ (u1 u2 : Value), Outs w.heap.size es (i + 1) 8 bs xs2 ((wr.setCell ⟨g, 0, none⟩ u1).setCell ⟨g, 1, none⟩ u2)) := ⟨fun u1 u2 => P.out.ho.keep (fun v n xs h => (h.kept (set_grown_at wr g 0 u1) (.inr (own_ne h P.out.n (by decide)))).kept (set_grown_at _ g 1 u2) (.inr (own_ne h P.out.n (by decide))))⟩
     have FW : Aside0 (∀ (u1 u2 : Value), Below w.heap.size w ((wr.setCell ⟨g, 0, none⟩ u1).setCell ⟨g, 1, none⟩ u2)) := ⟨fun u1 u2 => (P.out.hb.setCell (p := ⟨g, 0, none⟩) hgw u1).setCell (p := ⟨g, 1, none⟩) hgw u2⟩
     have hes := HES.out
     have ha0 := HA0.out
     have fb : ∀ n, n < 8 → (befS es (i + 1) n).1 ≤ (befS es (i + 1) n).2 ∧ (befS es (i + 1) n).2 ≤ (rowF (lab n) n es).length := fun n hn => by
      rw [hes] at ha0 ⊢
      exact befS_ok _ _ ha0 n hn
     have fa : ∀ n, n < 8 → (aftS es (i + 1) n).1 ≤ (aftS es (i + 1) n).2 ∧ (aftS es (i + 1) n).2 ≤ (rowF (lab n) n es).length := fun n hn => by
      rw [hes] at ha0 ⊢
      exact aftS_ok _ _ ha0 n hn
     have GB : Aside0 (∀ W3 : World, Outs w.heap.size es (i + 1) 8 bs xs2 W3 → W3.ownsRow w.heap.size 49 1 (.slice (some ⟨gb, 0, none⟩) 8 cb) 8 bs → Kd.C (Kd.slice 9 Kd.string) W3 (some ⟨gb, 0, none⟩) 8 (befR es (i + 1))) := ⟨fun W3 o tb => (outs_bef o fb tb).1⟩
     have GA : Aside0 (∀ W3 : World, Outs w.heap.size es (i + 1) 8 bs xs2 W3 → W3.ownsRow w.heap.size 49 1 (.slice (some ⟨ga, 0, none⟩) 8 ca) 8 xs2 → Kd.C (Kd.slice 9 Kd.string) W3 (some ⟨ga, 0, none⟩) 8 (aftR es (i + 1))) := ⟨fun W3 o ta => (outs_aft o fa ta).1⟩
     have NN := qf P.out.n
     clear hgb hga hes ha0 fb fa P
     go_wp2
     refine prove_ret2 NN.out _ _ _ _ rfl rfl ?_
     rw [HE.out]
     exact ⟨_, _, _, _, rfl, hcb, hca, GB.out _ (FO.out _ _) (FB.out _ _), GA.out _ (FO.out _ _) (FA.out _ _), FW.out _ _⟩
end Go.Proofs.YtolbhliepkcihaaDoor.Lab
end
section
namespace Go.Proofs.YtolbhliepkcihaaDoor.Lab
open Go.RowKit YtolbhliepkcihaaDoorW.PrintWords YtolbhliepkcihaaDoorW.PrintLast Kinds Build Sha Mac Codec Tower Mem ProofPure SkipOps SkipPure
theorem bef_len (es : List E) (a0 : Nat) : (befR es a0).length = 8 := by unfold befR; simp
theorem aft_len (es : List E) (a0 : Nat) : (aftR es a0).length = 8 := by unfold aftR; simp
theorem c_check (r : ByteArray) (x : S46) (B D : Option Addr) (c d : Nat) (b a : ProofPure.Rows) (W : World) (hb8 : b.length = 8) (ha8 : a.length = 8) (kb : Kd.C (Kd.slice 9 Kd.string) W B 8 b) (hc : 8 ≤ c) (ka : Kd.C (Kd.slice 9 Kd.string) W D 8 a) (hd : 8 ≤ d)
  (hx0 : 0 ≤ x.f0) (hx1 : x.f0 < 18446744073709551616) (hm : mayN x.f1 b a = 0) :
  Calls Tryd.prog 54 #[.string r, .agg #[.int .u64 x.f0, .string x.f1], .agg #[.slice B 8 c, .slice D 8 d]] W fun e w' => e = .returned (.tuple #[.bool ((sumS (stepN x b a 8)).toList == r.toList), .int .i64 0]) ∧ Below W.heap.size W w' := by
 have hd2 : domP x.f0 b a = true := by
  unfold domP
  rw [hb8, ha8, qj hx0, qj hx1]
  rfl
 have h := proof_Check.calls r x.f0 x.f1 B c b D d a ((sumS (stepN x b a 8)).toList == r.toList) 0 W (by rw [hb8]; exact kb) (by omega) (by rw [ha8]; exact ka) (by omega) (by
  unfold proof_Check.f
  rw [if_pos hd2, if_pos hm])
 rw [hb8, ha8] at h
 exact h
abbrev aK : ByteArray := ⟨#[107]⟩
abbrev aV : ByteArray := ⟨#[97]⟩
abbrev aX : S46 := ⟨3, aV⟩
abbrev aL : List S46 := [aX]
theorem aC (w : World) : Kd.C k46 (w.alloc (.cells #[.int .u64 3, .string aV] 46)) (some ⟨w.heap.size, 0, none⟩) 1 aL := by
 have N := Blk.new w 46 #[.int .u64 3, .string aV]
 refine ⟨rfl, by decide, fun _ => ⟨_, rfl, fun j p hp => ?_⟩⟩
 cases j with
 | succ j => simp at hp
 | zero =>
  obtain rfl := Option.some.inj hp
  refine ⟨_, rfl, k46_mk _ _, fun i u hu => ?_⟩
  rw [Nat.zero_mul, Nat.zero_add]
  match i, hu with
  | 0, hu =>
   obtain rfl := Option.some.inj hu
   rw [add0]
   exact N.cell 0
  | 1, hu =>
   obtain rfl := Option.some.inj hu
   exact N.cell 1
  | i + 2, hu => simp at hu
theorem aCells {W : World} {g : Nat} (h : Kd.C k46 W (some ⟨g, 0, none⟩) 1 aL) : W.cell? ⟨g, 0, none⟩ = some (.int .u64 3) ∧ W.cell? ⟨g, 1, none⟩ = some (.string aV) := by
 obtain ⟨ad, e1, h0, h1⟩ := at_T46 h 0 (by decide) (by decide)
 cases e1
 exact ⟨h0, h1⟩
theorem aR : RightP aL := (rightB_iff aL).1 (by decide)
theorem aO : okL aL := okL_of aL aR (by decide)
set_option maxRecDepth 100000 in
set_option maxHeartbeats 8000000 in
theorem alive18 (w : World) (hT : TabW w) : Calls Tryd.prog 56 #[] w fun e w' => e = .returned (.bool true) ∧ Below w.heap.size w w' := by
 have HC := qf (aC w)
 have HB := qf ((Below.refl w.heap.size w).alloc (Nat.le_refl _) (.cells #[.int .u64 3, .string aV] 46))
 have HT := Lib.hid hT
 have HP := Lib.hid (fun W (q : Kd.C k46 W (some ⟨w.heap.size, 0, none⟩) 1 aL) (t : TabW W) => prove_walk aK (some ⟨w.heap.size, 0, none⟩) 1 aL 3 0 W q (by decide) (by decide) (by decide) aO t aR (by decide) rfl (fun j hj => absurd hj (by omega)))
 have HR := Lib.hid (fun W (q : Kd.C k46 W (some ⟨w.heap.size, 0, none⟩) 1 aL) (t : TabW W) => Root_ok aK (some ⟨w.heap.size, 0, none⟩) 1 aL W q (by decide) (by decide) (by decide) aO t aR)
 have HM : Hid (mayN aV (befR (ents aK aL) 1) (aftR (ents aK aL) 1) = 0) := Lib.hid (prove_may aK aL (by decide) 1 _ (by decide))
 have HS : Hid (sumS (stepN aX (befR (ents aK aL) 1) (aftR (ents aK aL) 1) 8) = rootL aK aL) := Lib.hid (prove_root aK aL 0 (by decide))
 have hl1 := bef_len (ents aK aL) 1
 have hl2 := aft_len (ents aK aL) 1
 rw [show 0 + 1 = 1 from rfl, show aL.length = 1 from rfl] at HP
 rw [show aL.length = 1 from rfl] at HR
 generalize befR (ents aK aL) 1 = b at *
 generalize aftR (ents aK aL) 1 = a at *
 generalize rootL aK aL = r at *
 have HL1 := Lib.hid hl1
 have HL2 := Lib.hid hl2
 clear hT hl1 hl2
 go_enter Tryd.func56, Tryd.ntmps56
 go_upto_region 2 with (fail)
 generalize w.alloc (.cells #[.int .u64 3, .string aV] 46) = w1 at *
 go_upto_region 3 with (go_at_call 58; refine (HP.out _ HC.out (tab_below HT.out HB.out (Nat.le_refl _))).mono ?_; rintro e w2 ⟨B, c, D, d, rfl, hc, hd, kb, ka, hb2⟩; replace HC := qf (Kd.C_below HC.out hb2); replace HB := qf (below_step HB.out hb2); have KB := qf kb; have KA := qf ka; clear kb ka hb2)
 have N := qf (Blk.new w2 78 #[.slice B 8 c, .slice D 8 d])
 have hbn := (Below.refl w2.heap.size w2).alloc (Nat.le_refl _) (.cells #[.slice B 8 c, .slice D 8 d] 78)
 replace HC := qf (Kd.C_below HC.out hbn)
 replace HB := qf (below_step HB.out hbn)
 replace KB := qf (Kd.C_below KB.out hbn)
 replace KA := qf (Kd.C_below KA.out hbn)
 clear hbn HP
 generalize w2.heap.size = g at *
 generalize w2.alloc (.cells #[.slice B 8 c, .slice D 8 d] 78) = w3 at *
 go_upto_region 4 with (go_at_call 31; refine (HR.out _ HC.out (tab_below HT.out HB.out (Nat.le_refl _))).mono ?_; rintro e w4 ⟨rfl, hb2⟩; replace HC := qf (Kd.C_below HC.out hb2); replace HB := qf (below_step HB.out hb2); replace KB := qf (Kd.C_below KB.out hb2); replace KA := qf (Kd.C_below KA.out hb2); replace N := qf (blk_bel N.out hb2); clear hb2)
 clear HR HT
 have hbn := (Below.refl w4.heap.size w4).drew
 replace HC := qf (Kd.C_below HC.out hbn)
 replace HB := qf (below_step HB.out hbn)
 replace KB := qf (Kd.C_below KB.out hbn)
 replace KA := qf (Kd.C_below KA.out hbn)
 replace N := qf (blk_bel N.out hbn)
 clear hbn
 have h0 := (aCells HC.out).1
 have h1 := (aCells HC.out).2
 have n0 := N.out.cell 0
 have n1 := N.out.cell 1
 go_region_held3 (fun w' => w'.cell? ⟨w.heap.size, 0, none⟩ = some (.int .u64 3) ∧ w'.cell? ⟨w.heap.size, 1, none⟩ = some (.string aV) ∧ w'.cell? ⟨g, 0, none⟩ = some (.slice B 8 c) ∧ w'.cell? ⟨g, 1, none⟩ = some (.slice D 8 d))
  (first | exact ⟨h0, h1, n0, n1⟩ | go_keep)
  ((go_at_call 54; refine (c_check r aX B D c d b a _ HL1.out HL2.out KB.out hc KA.out hd (by decide) (by decide) HM.out).mono ?_; rintro e w5 ⟨rfl, hb2⟩; rw [HS.out, beq_self_eq_true]; replace HC := qf (Kd.C_below HC.out hb2); replace HB := qf (below_step HB.out hb2); replace N := qf (blk_bel N.out hb2); (try clear h0 h1 n0 n1); have h0 := (aCells HC.out).1; have h1 := (aCells HC.out).2; have n0 := N.out.cell 0; have n1 := N.out.cell 1; clear hb2))
 go_wp2
 go_ret
 exact ⟨rfl, HB.out⟩
end Go.Proofs.YtolbhliepkcihaaDoor.Lab
end
section
namespace Go.Proofs.YtolbhliepkcihaaDoor.Lab
open Go.RowKit YtolbhliepkcihaaDoorW.PrintWords YtolbhliepkcihaaDoorW.PrintLast Kinds Build Sha Mac Codec Tower Mem ProofPure SkipOps SkipPure
end Go.Proofs.YtolbhliepkcihaaDoor.Lab
end
section
namespace Go.Proofs.YtolbhliepkcihaaDoor
open Go.RowKit YtolbhliepkcihaaDoorW.PrintWords Kinds Build Lab Sha Mac Codec Tower SkipOps SkipPure ProofPure
def saltuslaw18_alive.f : Option Bool := some true
theorem saltuslaw18_alive.calls (r : Bool) (w : World) (h : saltuslaw18_alive.f = some r) (hT0 : TabW w) :
  Calls Tryd.prog 56 #[] w fun e w' => e = .returned (.bool r) ∧ Below w.heap.size w w' := by
 obtain rfl := Option.some.inj h
 exact alive18 w hT0
end Go.Proofs.YtolbhliepkcihaaDoor
end
section
namespace Go.Proofs.YtolbhliepkcihaaDoor.QPC
open Go.RowKit Kinds YtolbhliepkcihaaDoorW.PrintWords YtolbhliepkcihaaDoorW.PrintLast YtolbhliepkcihaaDoorW.PrintMore
attribute [local go_sem] max2_int min2_int max_two min_two max_three min_three max_four min_four   -- for this text's walks alone
set_option linter.unusedVariables false
set_option linter.unusedSimpArgs false
end Go.Proofs.YtolbhliepkcihaaDoor.QPC
end
section
namespace Go.Proofs.YtolbhliepkcihaaDoor.QPC
open Go.RowKit Kinds YtolbhliepkcihaaDoorW.PrintWords YtolbhliepkcihaaDoorW.PrintLast YtolbhliepkcihaaDoorW.PrintMore
attribute [local go_sem] max2_int min2_int max_two min_two max_three min_three max_four min_four   -- for this text's walks alone
set_option linter.unusedVariables false
set_option linter.unusedSimpArgs false
/-! ### saltusref04_Same: function 34 -/
def saltusref04_Same.l0 : Nat → List ByteArray → List ByteArray → Int → Int → Option (Bool)
 | 0, _, _, _, _ => none
 | k + 1, x0, x1, x12, x13 => if x13 < x12 then (if 0 ≤ x13 then (if x13 < (x0.length : Int) then (if x13 < (x1.length : Int) then (if (rdOf ByteArray.empty x0 x13).toList = (rdOf ByteArray.empty x1 x13).toList then (saltusref04_Same.l0 k x0 x1 x12 (wrap64 (x13 + 1))) else (some false)) else (none)) else (none)) else (none)) else (some true)
def saltusref04_Same.f (k : Nat) (l0 : List ByteArray) (l1 : List ByteArray) : Option (Bool) := if (l0.length : Int) = (l1.length : Int) then (saltusref04_Same.l0 k l0 l1 (l0.length : Int) 0) else (some false)
set_option maxHeartbeats 8000000 in
set_option maxRecDepth 100000 in
theorem saltusref04_Same.calls (k : Nat) (A0 : Option Addr) (c0 : Nat) (l0 : List ByteArray) (A1 : Option Addr) (c1 : Nat) (l1 : List ByteArray) (r : Bool) (w : World) (hr0 : Kd.C Kd.string w A0 l0.length l0) (hc0 : l0.length ≤ c0) (hr1 : Kd.C Kd.string w A1 l1.length l1) (hc1 : l1.length ≤ c1) (h : saltusref04_Same.f k l0 l1 = some r) :
  Calls Tryd.prog 34 #[.slice A0 l0.length c0, .slice A1 l1.length c1] w fun e w' => e = .returned (.bool r) ∧ Drawn0 w w' := by
 have HR0 := qf hr0
 have HC0 := qf hc0
 clear hr0 hc0
 have HR1 := qf hr1
 have HC1 := qf hc1
 clear hr1 hc1
 have H : (if (l0.length : Int) = (l1.length : Int) then (saltusref04_Same.l0 k l0 l1 (l0.length : Int) 0) else (some false)) = some r := h
 clear h
 by_cases c3 : (l0.length : Int) = (l1.length : Int)
 ·rw [if_pos c3] at H
  have c3b0 : ((l0.length : Int) == (l1.length : Int)) = true := beq_iff_eq.mpr c3
  have c3b1 : ((l0.length : Int) != (l1.length : Int)) = false := bne_eq_false_iff_eq.mpr c3
  have c3b2 : (l0.length == l1.length) = true := by first | simpa using c3 | (simp at c3 ⊢; omega)
  clear c3
  have H' := qf H
  clear H
  go_enter Tryd.func34, Tryd.ntmps34
  go_wp2
  repeat (go_quiet (fail); try go_wp2)
  go_loopg [13] k (fun kq v13 w' => ∃ (x13_1 : Int), v13 = .int .i64 x13_1 ∧ Aside0 (saltusref04_Same.l0 kq l0 l1 (l0.length : Int) x13_1 = some r) ∧ Aside0 (kq ≤ k) ∧ Drawn0 w w')
  case atStart => exact ⟨(0), (by first | rfl | (simp; done) | (simp [*]; done)), H', ⟨Nat.le_refl _⟩, by repeat (first | exact Drawn0.refl _ | apply Drawn0.step)⟩
  case round =>
   clear H'
   try clear c1
   try clear p2
   try clear c3
   try clear c3b0
   try clear c3b1
   try clear c3b2
   obtain ⟨x13_1, rfl, HA, HK1, ⟨m1, rfl⟩⟩ := hrel
   cases gk with
   | zero => exact absurd HA.out (by simp [saltusref04_Same.l0])
   | succ k1 =>
    have H := HA.out
    clear HA
    simp only [saltusref04_Same.l0] at H
    by_cases c4 : x13_1 < (l0.length : Int)
    ·rw [if_pos c4] at H
     have c4b0 : decide (x13_1 < (l0.length : Int)) = true := qj c4
     clear c4
     by_cases c5 : 0 ≤ x13_1
     ·rw [if_pos c5] at H
      have c5b0 : decide (0 ≤ x13_1) = true := qj c5
      clear c5
      by_cases c6 : x13_1 < (l0.length : Int)
      ·rw [if_pos c6] at H
       have c6b0 : decide (x13_1 < (l0.length : Int)) = true := qj c6
       clear c6
       by_cases c7 : x13_1 < (l1.length : Int)
       ·rw [if_pos c7] at H
        have c7b0 : decide (x13_1 < (l1.length : Int)) = true := qj c7
        clear c7
        by_cases c8 : (rdOf ByteArray.empty l0 x13_1).toList = (rdOf ByteArray.empty l1 x13_1).toList
        ·rw [if_pos c8] at H
         have c8b0 : ((rdOf ByteArray.empty l0 x13_1).toList == (rdOf ByteArray.empty l1 x13_1).toList) = true := beq_iff_eq.mpr c8
         have c8b1 : ((rdOf ByteArray.empty l0 x13_1).toList != (rdOf ByteArray.empty l1 x13_1).toList) = false := bne_eq_false_iff_eq.mpr c8
         clear c8
         have H' := qf H
         clear H
         have p101 : 0 ≤ (x13_1 : Int) := qe (by first | (with_reducible assumption) | assumption)
         have q101 : x13_1 < (l0.length : Int) := qe (by first | (with_reducible assumption) | assumption)
         obtain ⟨ad101, e101, hx101_0⟩ := Kd.at_string HR0.out x13_1 p101 q101
         cases e101
         replace p101 := eq_true p101
         replace q101 := eq_true q101
         have p102 : 0 ≤ (x13_1 : Int) := qe (by first | (with_reducible assumption) | assumption)
         have q102 : x13_1 < (l1.length : Int) := qe (by first | (with_reducible assumption) | assumption)
         obtain ⟨ad102, e102, hx102_0⟩ := Kd.at_string HR1.out x13_1 p102 q102
         cases e102
         replace p102 := eq_true p102
         replace q102 := eq_true q102
         go_wp2
         repeat (go_quiet (fail); try go_wp2)
         go_roundg k1
         case measure => have := HK1.out; omega
         case rel => exact ⟨(wrap64 (x13_1 + 1)), (by first | rfl | (simp; done) | (simp [*]; done)), H', ⟨by have := HK1.out; omega⟩, by repeat (first | exact Drawn0.refl _ | apply Drawn0.step)⟩
        ·rw [if_neg c8] at H
         have c8b0 : ((rdOf ByteArray.empty l0 x13_1).toList == (rdOf ByteArray.empty l1 x13_1).toList) = false := beq_eq_false_iff_ne.mpr c8
         have c8b1 : ((rdOf ByteArray.empty l0 x13_1).toList != (rdOf ByteArray.empty l1 x13_1).toList) = true := bne_iff_ne.mpr c8
         obtain rfl := Option.some.inj H
         have p101 : 0 ≤ (x13_1 : Int) := qe (by first | (with_reducible assumption) | assumption)
         have q101 : x13_1 < (l0.length : Int) := qe (by first | (with_reducible assumption) | assumption)
         obtain ⟨ad101, e101, hx101_0⟩ := Kd.at_string HR0.out x13_1 p101 q101
         cases e101
         replace p101 := eq_true p101
         replace q101 := eq_true q101
         have p102 : 0 ≤ (x13_1 : Int) := qe (by first | (with_reducible assumption) | assumption)
         have q102 : x13_1 < (l1.length : Int) := qe (by first | (with_reducible assumption) | assumption)
         obtain ⟨ad102, e102, hx102_0⟩ := Kd.at_string HR1.out x13_1 p102 q102
         cases e102
         replace p102 := eq_true p102
         replace q102 := eq_true q102
         go_wp2
         repeat (go_quiet (fail); try go_wp2)
         go_ret
         exact ⟨by first | rfl | (simp; done) | (simp [*]; done), by repeat (first | exact Drawn0.refl _ | apply Drawn0.step)⟩
       ·rw [if_neg c7] at H
        exact absurd H (by simp)
      ·rw [if_neg c6] at H
       exact absurd H (by simp)
     ·rw [if_neg c5] at H
      exact absurd H (by simp)
    ·rw [if_neg c4] at H
     have c4b0 : decide (x13_1 < (l0.length : Int)) = false := decide_eq_false c4
     clear c4
     obtain rfl := Option.some.inj H
     go_wp2
     repeat (go_quiet (fail); try go_wp2)
     go_ret
     exact ⟨by first | rfl | (simp; done) | (simp [*]; done), by repeat (first | exact Drawn0.refl _ | apply Drawn0.step)⟩
 ·rw [if_neg c3] at H
  have c3b0 : ((l0.length : Int) == (l1.length : Int)) = false := beq_eq_false_iff_ne.mpr c3
  have c3b1 : ((l0.length : Int) != (l1.length : Int)) = true := bne_iff_ne.mpr c3
  have c3b2 : (l0.length == l1.length) = false := by first | simpa using c3 | (simp at c3 ⊢; omega)
  obtain rfl := Option.some.inj H
  go_enter Tryd.func34, Tryd.ntmps34
  go_wp2
  repeat (go_quiet (fail); try go_wp2)
  go_ret
  exact ⟨by first | rfl | (simp; done) | (simp [*]; done), by repeat (first | exact Drawn0.refl _ | apply Drawn0.step)⟩
/-! ### saltuslaw18_ProofChecks: function 13 -/
def saltuslaw18_ProofChecks.f (k : Nat) (a0 : ByteArray) (a1_0 : Int) (a1_1 : ByteArray) (l2_0 : List (List ByteArray)) (l2_1 : List (List ByteArray)) : Option (Bool) := if 0 ≤ (mn (a1_1.size : Int) 70) then (if (mn (a1_1.size : Int) 70) ≤ (a1_1.size : Int) then ((saltuslaw18_few.f l2_0 l2_1).bind fun bt105 => ((proof_Steps.f a1_0 (a1_1.extract 0 ((mn (a1_1.size : Int) 70) : Int).toNat) bt105.1 bt105.2).bind fun bt111 => ((proof_Check.f a0 a1_0 (a1_1.extract 0 ((mn (a1_1.size : Int) 70) : Int).toNat) bt105.1 bt105.2).bind fun bt115 => ((saltusref18_Why.f a1_0 (a1_1.extract 0 ((mn (a1_1.size : Int) 70) : Int).toNat) bt105.1 bt105.2).bind fun t117 => (if t117 = 0 then ((saltusref18_Steps.f a1_0 (a1_1.extract 0 ((mn (a1_1.size : Int) 70) : Int).toNat) bt105.1 bt105.2).bind fun t119 => ((saltuslaw18_alive.f).bind fun t122 => (if t122 = true then (if bt111.2 = 0 then (if bt115.2 = 0 then ((saltusref04_Same.f k bt111.1 t119).bind fun t123 => (if t123 = true then (if 8 < (t119.length : Int) then ((saltusref03_Sum.f (rdOf ByteArray.empty t119 8)).bind fun t125 => (some (bt115.1 == (t125.toList == a0.toList)))) else (none)) else (some false))) else (some false)) else (some false)) else (some false)))) else ((saltuslaw18_alive.f).bind fun t118 => (if t118 = true then (if bt111.2 = t117 then (if bt115.2 = t117 then (if (bt111.1.length : Int) = 0 then (some (!bt115.1)) else (some false)) else (some false)) else (some false)) else (some false)))))))) else (none)) else (none)
def saltuslaw18_ProofChecks.T1 : Bool × List (List Nat × List Nat) := (true, [([], []), ([0], [0]), ([], []), ([2], [2]), ([3], [3]), ([4], [4]), ([1, 5], [1, 5]), ([], []), ([7], [7]), ([0, 1, 2, 3, 4, 5, 6], []), ([9, 6, 8, 0, 1, 2, 3, 4, 5, 6], [6, 9]), ([8, 10, 0, 1, 2, 3, 4, 5, 6, 7, 8, 9, 10], [8])])
def saltuslaw18_ProofChecks.B1 : List Nat := [0, 1, 0, 4, 12, 28, 63, 0, 128, 127, 1023, 2047]
theorem saltuslaw18_ProofChecks.tab1 : rtab .any (opsOf Tryd.f13 1) = saltuslaw18_ProofChecks.T1 := by kernel_rfl
theorem saltuslaw18_ProofChecks.bits1 : waitsOk saltuslaw18_ProofChecks.T1.2 saltuslaw18_ProofChecks.B1 = true := by kernel_rfl
set_option maxHeartbeats 8000000 in
set_option maxRecDepth 100000 in
theorem saltuslaw18_ProofChecks.calls (k : Nat) (a0 : ByteArray) (a1_0 : Int) (a1_1 : ByteArray) (A2_0 : Option Addr) (c2_0 : Nat) (l2_0 : List (List ByteArray)) (A2_1 : Option Addr) (c2_1 : Nat) (l2_1 : List (List ByteArray)) (r : Bool) (w : World) (hr2_0 : Kd.C (Kd.slice 9 Kd.string) w A2_0 l2_0.length l2_0) (hc2_0 : l2_0.length ≤ c2_0) (hr2_1 : Kd.C (Kd.slice 9 Kd.string) w A2_1 l2_1.length l2_1) (hc2_1 : l2_1.length ≤ c2_1) (hr : Aside0 (r = true)) (h : saltuslaw18_ProofChecks.f k a0 a1_0 a1_1 l2_0 l2_1 = some r) (hT0 : Tower.TabW w) :
  Calls Tryd.prog 13 #[.string a0, .agg #[.int .u64 a1_0, .string a1_1], .agg #[.slice A2_0 l2_0.length c2_0, .slice A2_1 l2_1.length c2_1]] w fun e w' => e = .returned (.bool r) ∧ Below w.heap.size w w' := by
 have HT := qf hT0
 clear hT0
 have hu46 := Tryd.underlying46
 have hu78 := Tryd.underlying78
 have HR2_0 := qf hr2_0
 have HC2_0 := qf hc2_0
 clear hr2_0 hc2_0
 have HR2_1 := qf hr2_1
 have HC2_1 := qf hc2_1
 clear hr2_1 hc2_1
 have HB := qf (Below.refl w.heap.size w)
 have H : (if 0 ≤ (mn (a1_1.size : Int) 70) then (if (mn (a1_1.size : Int) 70) ≤ (a1_1.size : Int) then ((saltuslaw18_few.f l2_0 l2_1).bind fun bt105 => ((proof_Steps.f a1_0 (a1_1.extract 0 ((mn (a1_1.size : Int) 70) : Int).toNat) bt105.1 bt105.2).bind fun bt111 => ((proof_Check.f a0 a1_0 (a1_1.extract 0 ((mn (a1_1.size : Int) 70) : Int).toNat) bt105.1 bt105.2).bind fun bt115 => ((saltusref18_Why.f a1_0 (a1_1.extract 0 ((mn (a1_1.size : Int) 70) : Int).toNat) bt105.1 bt105.2).bind fun t117 => (if t117 = 0 then ((saltusref18_Steps.f a1_0 (a1_1.extract 0 ((mn (a1_1.size : Int) 70) : Int).toNat) bt105.1 bt105.2).bind fun t119 => ((saltuslaw18_alive.f).bind fun t122 => (if t122 = true then (if bt111.2 = 0 then (if bt115.2 = 0 then ((saltusref04_Same.f k bt111.1 t119).bind fun t123 => (if t123 = true then (if 8 < (t119.length : Int) then ((saltusref03_Sum.f (rdOf ByteArray.empty t119 8)).bind fun t125 => (some (bt115.1 == (t125.toList == a0.toList)))) else (none)) else (some false))) else (some false)) else (some false)) else (some false)))) else ((saltuslaw18_alive.f).bind fun t118 => (if t118 = true then (if bt111.2 = t117 then (if bt115.2 = t117 then (if (bt111.1.length : Int) = 0 then (some (!bt115.1)) else (some false)) else (some false)) else (some false)) else (some false)))))))) else (none)) else (none)) = some r := h
 clear h
 obtain ⟨ji4, hji4⟩ : ∃ j_ : Int, (mn (a1_1.size : Int) 70) = j_ := ⟨_, rfl⟩
 replace H : (if 0 ≤ (ji4) then (if (ji4) ≤ (a1_1.size : Int) then ((saltuslaw18_few.f l2_0 l2_1).bind fun bt105 => ((proof_Steps.f a1_0 (a1_1.extract 0 ((ji4) : Int).toNat) bt105.1 bt105.2).bind fun bt111 => ((proof_Check.f a0 a1_0 (a1_1.extract 0 ((ji4) : Int).toNat) bt105.1 bt105.2).bind fun bt115 => ((saltusref18_Why.f a1_0 (a1_1.extract 0 ((ji4) : Int).toNat) bt105.1 bt105.2).bind fun t117 => (if t117 = 0 then ((saltusref18_Steps.f a1_0 (a1_1.extract 0 ((ji4) : Int).toNat) bt105.1 bt105.2).bind fun t119 => ((saltuslaw18_alive.f).bind fun t122 => (if t122 = true then (if bt111.2 = 0 then (if bt115.2 = 0 then ((saltusref04_Same.f k bt111.1 t119).bind fun t123 => (if t123 = true then (if 8 < (t119.length : Int) then ((saltusref03_Sum.f (rdOf ByteArray.empty t119 8)).bind fun t125 => (some (bt115.1 == (t125.toList == a0.toList)))) else (none)) else (some false))) else (some false)) else (some false)) else (some false)))) else ((saltuslaw18_alive.f).bind fun t118 => (if t118 = true then (if bt111.2 = t117 then (if bt115.2 = t117 then (if (bt111.1.length : Int) = 0 then (some (!bt115.1)) else (some false)) else (some false)) else (some false)) else (some false)))))))) else (none)) else (none)) = some r := by first | (rw [hji4] at H; exact H) | (simp only [hji4] at H ⊢; exact H)
 (try (have hji4h : ji4 ≤ 70 := by (rw [← hji4]; unfold mn; (repeat' split) <;> omega)))
 (try (have hji4g : ji4 ≤ 64 := by omega))
 (try (have hji4l : 0 ≤ ji4 := by (rw [← hji4]; unfold mn; (repeat' split) <;> omega)))
 (try (have hji4m : 0 ≤ ji4 := by omega))
 have hji4_ : (if 70 < (a1_1.size : Int) then 70 else (a1_1.size : Int)) = ji4 := hji4
 by_cases c5 : 0 ≤ (ji4)
 ·rw [if_pos c5] at H
  have c5b0 := eq_true c5
  have c5b1 : decide (0 ≤ (ji4)) = true := qj c5
  clear c5
  by_cases c6 : (ji4) ≤ (a1_1.size : Int)
  ·rw [if_pos c6] at H
   have c6b0 := eq_true c6
   have c6b1 : decide ((ji4) ≤ (a1_1.size : Int)) = true := qj c6
   clear c6
   replace H := qi H
   obtain ⟨⟨t105, t108⟩, A70, H⟩ := H
   (try dsimp only at H)
   have A7 := qf A70
   clear A70
   replace H := qi H
   obtain ⟨⟨t111, t114⟩, A80, H⟩ := H
   (try dsimp only at H)
   have A8 := qf A80
   clear A80
   replace H := qi H
   obtain ⟨⟨t115, t116⟩, A90, H⟩ := H
   (try dsimp only at H)
   have A9 := qf A90
   clear A90
   replace H := qi H
   obtain ⟨t117, A100, H⟩ := H
   (try dsimp only at H)
   have A10 := qf A100
   clear A100
   by_cases c11 : t117 = 0
   ·rw [if_pos c11] at H
    have c11b0 : (t117 == 0) = true := beq_iff_eq.mpr c11
    have c11b1 : (t117 != 0) = false := bne_eq_false_iff_eq.mpr c11
    clear c11
    replace H := qi H
    obtain ⟨t119, A120, H⟩ := H
    (try dsimp only at H)
    have A12 := qf A120
    clear A120
    replace H := qi H
    obtain ⟨t122, A130, H⟩ := H
    (try dsimp only at H)
    have A13 := qf A130
    clear A130
    by_cases c14 : t122 = true
    ·subst c14
     have H1 : (if t114 = 0 then (if t116 = 0 then ((saltusref04_Same.f k t111 t119).bind fun t123 => (if t123 = true then (if 8 < (t119.length : Int) then ((saltusref03_Sum.f (rdOf ByteArray.empty t119 8)).bind fun t125 => (some (t115 == (t125.toList == a0.toList)))) else (none)) else (some false))) else (some false)) else (some false)) = some r := by rw [if_pos rfl] at H; exact H
     clear H
     have H := H1
     clear H1
     by_cases c15 : t114 = 0
     ·rw [if_pos c15] at H
      have c15b0 : (t114 == 0) = true := beq_iff_eq.mpr c15
      have c15b1 : (t114 != 0) = false := bne_eq_false_iff_eq.mpr c15
      clear c15
      by_cases c16 : t116 = 0
      ·rw [if_pos c16] at H
       have c16b0 : (t116 == 0) = true := beq_iff_eq.mpr c16
       have c16b1 : (t116 != 0) = false := bne_eq_false_iff_eq.mpr c16
       clear c16
       replace H := qi H
       obtain ⟨t123, A170, H⟩ := H
       (try dsimp only at H)
       have A17 := qf A170
       clear A170
       by_cases c18 : t123 = true
       ·subst c18
        have H1 : (if 8 < (t119.length : Int) then ((saltusref03_Sum.f (rdOf ByteArray.empty t119 8)).bind fun t125 => (some (t115 == (t125.toList == a0.toList)))) else (none)) = some r := by rw [if_pos rfl] at H; exact H
        clear H
        have H := H1
        clear H1
        by_cases c19 : 8 < (t119.length : Int)
        ·rw [if_pos c19] at H
         have c19b0 : decide (8 < (t119.length : Int)) = true := qj c19
         have c19b1 : decide (8 < t119.length) = true := qj (by omega)
         clear c19
         replace H := qi H
         obtain ⟨t125, A200, H⟩ := H
         (try dsimp only at H)
         have A20 := qf A200
         clear A200
         obtain rfl := Option.some.inj H
         go_enter Tryd.func13, Tryd.ntmps13
         try go_wp2_with (first | ((with_reducible refine gate_dst (N := 4) rfl ?_); (try (refine gate_guard (by rfl) ?_; dsimp only)); refine box_event ?hg (N := 4) ?hd (cs := #[.int .u64 a1_0, .string a1_1]) (t := 46) ?hr ?_; (case hd => rfl); (case hg => rfl); (case hr => first | (go_simp; done) | (go_simp; rfl)); intro gb103 hg w21 hbox hb; have n0_ := qf (below_step (by repeat (first | (with_reducible first | exact HB.out | apply qa | apply qb | apply qc) | exact HB.out)) hb); have n1_ := qf (hbox); have n2_ := qf ((by rw [hg]; exact (below_size (by repeat (first | (with_reducible first | exact HB.out | apply qa | apply qb | apply qc) | exact HB.out))) : w.heap.size ≤ gb103)); have n3_ := qf ((by rw [hg]; exact (below_size (by repeat (first | (with_reducible first | exact HB.out | apply qa | apply qb | apply qc) | exact HB.out))) : w.heap.size ≤ gb103)); clear HB; have HB := n0_; have BK103 := n1_; have GW103 := n2_; have GE103 := n3_; clear n0_ n1_ n2_ n3_; clear hb hbox hg) | ((with_reducible refine gate_dst (N := 5) rfl ?_); (try (refine gate_guard (by rfl) ?_; dsimp only)); refine box_event ?hg (N := 5) ?hd (cs := #[.slice A2_0 l2_0.length c2_0, .slice A2_1 l2_1.length c2_1]) (t := 78) ?hr ?_; (case hd => rfl); (case hg => rfl); (case hr => first | (go_simp; done) | (go_simp; rfl)); intro gb104 hg w22 hbox hb; have n0_ := qf (blk_below (g := gb103) (o := .cells #[.int .u64 a1_0, .string a1_1] 46 (0, 0)) (by (with_reducible repeat (first | refine blk_drewN ?_ _ | refine blk_drew ?_ | refine qh ?_ _)); exact BK103.out) hb); have n1_ := qf (below_step (by repeat (first | (with_reducible first | exact HB.out | apply qa | apply qb | apply qc | refine qg ?_ GE103.out) | exact HB.out)) hb); have n2_ := qf (hbox); have n3_ := qf ((by rw [hg]; exact (below_size (by repeat (first | (with_reducible first | exact HB.out | apply qa | apply qb | apply qc | refine qg ?_ GE103.out) | exact HB.out))) : w.heap.size ≤ gb104)); have n4_ := qf ((by rw [hg]; exact (below_size (by repeat (first | (with_reducible first | exact HB.out | apply qa | apply qb | apply qc | refine qg ?_ GE103.out) | exact HB.out))) : w.heap.size ≤ gb104)); have n5_ := qf ((by rw [hg]; exact Nat.ne_of_lt (blk_lt (g := gb103) (o := .cells #[.int .u64 a1_0, .string a1_1] 46 (0, 0)) (by (with_reducible repeat (first | refine blk_drewN ?_ _ | refine blk_drew ?_ | refine qh ?_ _)); exact BK103.out)) : gb103 ≠ gb104)); have n6_ := qf ((by rw [hg]; exact Nat.ne_of_gt (blk_lt (g := gb103) (o := .cells #[.int .u64 a1_0, .string a1_1] 46 (0, 0)) (by (with_reducible repeat (first | refine blk_drewN ?_ _ | refine blk_drew ?_ | refine qh ?_ _)); exact BK103.out)) : gb104 ≠ gb103)); clear BK103; clear HB; have BK103 := n0_; have HB := n1_; have BK104 := n2_; have GW104 := n3_; have GE104 := n4_; have NB103_104 := n5_; have NB104_103 := n6_; clear n0_ n1_ n2_ n3_ n4_ n5_ n6_; clear hb hbox hg))
         have n0_ := qf (blk_drew BK103.out)
         have n1_ := qf (blk_drew BK104.out)
         have n2_ := qf (qc HB.out)
         clear BK103
         clear BK104
         clear HB
         have BK103 := n0_
         have BK104 := n1_
         have HB := n2_
         clear n0_ n1_ n2_
         refine start_ (n := 12) (S := fun w' => w'.cell? ⟨gb103, 0, none⟩ = some (.int .u64 a1_0) ∧ w'.cell? ⟨gb103, 1, none⟩ = some (.string a1_1) ∧ w'.cell? ⟨gb104, 0, none⟩ = some (.slice A2_0 l2_0.length c2_0) ∧ w'.cell? ⟨gb104, 1, none⟩ = some (.slice A2_1 l2_1.length c2_1)) (ds := [10, 11]) (bm 12 0) (by kernel_rfl) rfl rfl ⟨(blk_cell BK103.out 0).trans rfl, (blk_cell BK103.out 1).trans rfl, (blk_cell BK104.out 0).trans rfl, (blk_cell BK104.out 1).trans rfl⟩ (fun hHeld => ?_); refine with_tabW saltuslaw18_ProofChecks.tab1 saltuslaw18_ProofChecks.bits1 (fun HT_ HW_ => ?_)
         generalize w22.drew = w23 at BK103 BK104 HB hHeld ⊢
         refine pure_ (i := 0) (N := some 13) (v := ?_) (a' := ?_) (bm 12 1) rfl rfl (any_of HT_.out (by kernel_rfl)) (fun _ _ _ h => h) (Or.inl ⟨by rfl, ?_⟩) ?_ ?_
         rotate_left
         ·intro w'
          go_simp
          with_reducible rfl
         rotate_left
         ·simp only [Act.put, qs, qt, qu, i64_w, i32_w]
          rfl
         refine pure_ (i := 2) (N := some 15) (v := ?_) (a' := ?_) (bm 12 5) rfl rfl (any_of HT_.out (by kernel_rfl)) (fun _ _ _ h => h) (Or.inl ⟨by rfl, ?_⟩) ?_ ?_
         rotate_left
         ·intro w'
          go_simp
          with_reducible rfl
         rotate_left
         ·simp only [Act.put, qs, qt, qu, i64_w, i32_w]
          rfl
         refine take_ (i := 1) (N := some 14) (v := ?_) (a' := ?_) (bm 12 7) rfl rfl (take_ofW HT_.out HW_.out (by kernel_rfl)) (fun _ _ _ h => h) (Or.inl ⟨by rfl, ?_⟩) hHeld ?_ ?_
         rotate_left
         ·rintro w' ⟨s0, s1, s2, s3⟩
          go_simp
          with_reducible rfl
         rotate_left
         ·simp only [Act.put, qs, qt, qu, i64_w, i32_w]
          rfl
         refine take_ (i := 3) (N := some 16) (v := ?_) (a' := ?_) (bm 12 15) rfl rfl (take_ofW HT_.out HW_.out (by kernel_rfl)) (fun _ _ _ h => h) (Or.inl ⟨by rfl, ?_⟩) hHeld ?_ ?_
         rotate_left
         ·rintro w' ⟨s0, s1, s2, s3⟩
          go_simp
          with_reducible rfl
         rotate_left
         ·simp only [Act.put, qs, qt, qu, i64_w, i32_w]
          rfl
         refine pure_ (i := 4) (N := some 17) (v := ?_) (a' := ?_) (bm 12 31) rfl rfl (any_of HT_.out (by kernel_rfl)) (fun _ _ _ h => h) (Or.inl ⟨by rfl, ?_⟩) ?_ ?_
         rotate_left
         ·intro w'
          go_simp
          with_reducible rfl
         rotate_left
         ·simp only [Act.put, qs, qt, qu, i64_w, i32_w]
          rfl
         refine pure_ (i := 5) (N := some 18) (v := ?_) (a' := ?_) (bm 12 63) rfl rfl (any_of HT_.out (by kernel_rfl)) (fun _ _ _ h => h) (Or.inl ⟨by rfl, ?_⟩) ?_ ?_
         rotate_left
         ·intro w'
          go_simp
          with_reducible rfl
         rotate_left
         ·simp only [Act.put, qs, qt, qu, i64_w, i32_w]
          rfl
         refine pure_ (i := 6) (N := some 19) (v := ?_) (a' := ?_) (bm 12 127) rfl rfl (any_of HT_.out (by kernel_rfl)) (fun _ _ _ h => h) (Or.inl ⟨by rfl, ?_⟩) ?_ ?_
         rotate_left
         ·intro w'
          go_simp
          with_reducible rfl
         rotate_left
         ·simp only [Act.put, qs, qt, qu, i64_w, i32_w]
          rfl
         refine pure_ (i := 9) (N := some 22) (v := ?_) (a' := ?_) (bm 12 639) rfl rfl (any_of HT_.out (by kernel_rfl)) (fun _ _ _ h => h) (Or.inl ⟨by rfl, ?_⟩) ?_ ?_
         rotate_left
         ·intro w'
          go_simp
          with_reducible rfl
         rotate_left
         ·simp only [Act.put, qs, qt, qu, i64_w, i32_w]
          rfl
         refine take_ (i := 7) (N := some 20) (v := ?_) (a' := ?_) (bm 12 767) rfl rfl (take_ofW HT_.out HW_.out (by kernel_rfl)) (fun _ _ _ h => h) (Or.inl ⟨by rfl, ?_⟩) hHeld ?_ ?_
         rotate_left
         ·rintro w' ⟨s0, s1, s2, s3⟩
          go_simp
          with_reducible rfl
         rotate_left
         ·simp only [Act.put, qs, qt, qu, i64_w, i32_w]
          rfl
         refine one_ (i := 8) (N := some 21) (bm 12 1023) rfl rfl (one_of HT_.out (by kernel_rfl)) (by decide) (fun K hK => ?_)
         refine goes_ Tryd.func52 (by kernel_rfl) rfl #[.agg #[.slice A2_0 l2_0.length c2_0, .slice A2_1 l2_1.length c2_1]] (by rfl) rfl rfl (by (try simp only [List.map_toArray, List.map_cons, List.map_nil]); first | done | rfl | (simp only [List.length_drop, qw]; rfl)) ?_
         with_reducible refine (saltuslaw18_few.calls _ _ l2_0 _ _ l2_1 t105 t108 _ ?side1 ?side2 ?side3 ?side4 A7.out).mono ?_
         (case side1 => repeat (first | exact (Kd.C_below HR2_0.out HB.out) | (with_reducible refine Kd.C_alloc ?_ _) | (with_reducible refine Kd.C_drewN ?_ _) | (with_reducible refine Kd.C_drew ?_)))
         (case side2 => exact HC2_0.out)
         (case side3 => repeat (first | exact (Kd.C_below HR2_1.out HB.out) | (with_reducible refine Kd.C_alloc ?_ _) | (with_reducible refine Kd.C_drewN ?_ _) | (with_reducible refine Kd.C_drew ?_)))
         (case side4 => exact HC2_1.out)
         rintro e w24 ⟨v106, v109, rfl, ho0, ho1, hb⟩
         refine ⟨_, rfl, ?_⟩
         have n0_ := qf (Kd.S_lower ho0 (below_size (by repeat (first | (with_reducible first | exact HB.out | apply qa | apply qb | apply qc | refine qg ?_ GE103.out | refine qg ?_ GE104.out) | exact HB.out))))
         have n1_ := qf (Kd.S_lower ho1 (below_size (by repeat (first | (with_reducible first | exact HB.out | apply qa | apply qb | apply qc | refine qg ?_ GE103.out | refine qg ?_ GE104.out) | exact HB.out))))
         have n2_ := qf (blk_below (g := gb103) (o := .cells #[.int .u64 a1_0, .string a1_1] 46 (0, 0)) (by (with_reducible repeat (first | refine blk_drewN ?_ _ | refine blk_drew ?_ | refine qh ?_ _)); exact BK103.out) hb)
         have n3_ := qf (blk_below (g := gb104) (o := .cells #[.slice A2_0 l2_0.length c2_0, .slice A2_1 l2_1.length c2_1] 78 (0, 0)) (by (with_reducible repeat (first | refine blk_drewN ?_ _ | refine blk_drew ?_ | refine qh ?_ _)); exact BK104.out) hb)
         have n4_ := qf (below_step (by repeat (first | (with_reducible first | exact HB.out | apply qa | apply qb | apply qc | refine qg ?_ GE103.out | refine qg ?_ GE104.out) | exact HB.out)) hb)
         clear BK103
         clear BK104
         clear HB
         have HO107 := n0_
         have HO110 := n1_
         have BK103 := n2_
         have BK104 := n3_
         have HB := n4_
         clear n0_ n1_ n2_ n3_ n4_
         (try clear hb)
         (try clear hb2)
         (try clear hk)
         (try clear hi)
         (try clear ho0)
         (try clear ho1)
         obtain ⟨Ao26, co26, eo26⟩ := Kd.S_slice HO107.out
         (first | subst eo26 | (injection eo26 with f1_ f2_ f3_; have f4_ := f1_.symm; have f5_ := f3_.symm; clear f1_ f2_ f3_; subst f4_; subst f5_))
         obtain ⟨Ao28, co28, eo28⟩ := Kd.S_slice HO110.out
         (first | subst eo28 | (injection eo28 with f1_ f2_ f3_; have f4_ := f1_.symm; have f5_ := f3_.symm; clear f1_ f2_ f3_; subst f4_; subst f5_))
         refine hK.out _ _ ⟨(blk_cell BK103.out 0).trans rfl, (blk_cell BK103.out 1).trans rfl, (blk_cell BK104.out 0).trans rfl, (blk_cell BK104.out 1).trans rfl⟩ (fun hHeld => ?_)
         clear hK K
         refine norm_ (a' := ?_) ?_ ?_
         rotate_left
         ·show Act.put _ (some 21) _ = _
          simp only [Act.put, qs, qt, qu, i64_w, i32_w]
          rfl
         refine last_ (i := 10) (N := none) (bm 12 2047) rfl rfl (one_of HT_.out (by kernel_rfl)) (by decide) (fun K hK => ?_)
         have hs25 : w24.cell? ⟨gb103, 1, none⟩ = some (.string a1_1) := (blk_cell BK103.out 1).trans rfl
         have hfs25 := blk_frozen BK103.out 1
         have hns25_1 := NB104_103.out
         have hms25_1 := NB103_104.out
         refine skip_ (w1 := ?_) (by rfl) rfl ?_ ?_
         rotate_left
         ·go_simp
          rfl
         refine hK.out _ _ ?_
         clear hK K
         refine last_ (i := 11) (N := none) (bm 12 4095) rfl rfl (one_of HT_.out (by kernel_rfl)) (by decide) (fun K hK => ?_)
         have hs27 : w24.cell? ⟨gb104, 0, none⟩ = some (.slice A2_0 l2_0.length c2_0) := (blk_cell BK104.out 0).trans rfl
         have hfs27 := blk_frozen BK104.out 0
         have hns27_0 := NB103_104.out
         have hms27_0 := NB104_103.out
         have hs29 : w24.cell? ⟨gb104, 1, none⟩ = some (.slice A2_1 l2_1.length c2_1) := (blk_cell BK104.out 1).trans rfl
         have hfs29 := blk_frozen BK104.out 1
         have hns29_0 := NB103_104.out
         have hms29_0 := NB104_103.out
         refine skip_ (w1 := ?_) (by rfl) rfl ?_ ?_
         rotate_left
         ·go_simp
          rfl
         refine hK.out _ _ ?_
         clear hK K
         refine done_ (done_of HT_.out (by kernel_rfl)) ?_
         have hnb30 := NB103_104.out
         have hnc30 := NB104_103.out
         have hcz31_0 : w24.cell? ⟨gb103, 0, none⟩ = some (.int .u64 a1_0) := (blk_cell BK103.out 0).trans rfl
         have hcz31_1 : w24.cell? ⟨gb103, 1, none⟩ = some (.string a1_1) := (blk_cell BK103.out 1).trans rfl
         have hfz31_0 := blk_frozen BK103.out 0
         have hfz31_1 := blk_frozen BK103.out 1
         have hcz32_0 : w24.cell? ⟨gb104, 0, none⟩ = some (.slice A2_0 l2_0.length c2_0) := (blk_cell BK104.out 0).trans rfl
         have hcz32_1 : w24.cell? ⟨gb104, 1, none⟩ = some (.slice A2_1 l2_1.length c2_1) := (blk_cell BK104.out 1).trans rfl
         have hfz32_0 := blk_frozen BK104.out 0
         have hfz32_1 := blk_frozen BK104.out 1
         try go_wp2_with (first | ((with_reducible refine gate_callee (f := 53) rfl ?_); refine goesL_ (some 26) rfl rfl Tryd.func53 (by kernel_rfl) rfl #[.agg #[.int .u64 a1_0, .string (a1_1.extract 0 ((ji4) : Int).toNat)], .agg #[.slice Ao26 t105.length co26, .slice Ao28 t108.length co28]] rfl (by (try simp only [List.map_toArray, List.map_cons, List.map_nil]); first | done | (simp only [hji4]; rfl) | rfl | (simp only [List.length_drop, qw]; rfl)) ?_; (with_reducible refine (proof_Steps.calls a1_0 (a1_1.extract 0 ((ji4) : Int).toNat) _ _ t105 _ _ t108 t111 t114 _ ?side1 ?side2 ?side3 ?side4 A8.out).mono ?_); (case side1 => refine (Kd.S_reads' (e := 49) (base := w.heap.size) (ok := fun k_ => some k_ ≠ (.slice Ao28 t108.length co28 : Value).ownBlock) (n := t105.length) (c := co26) ?_).2.2; exact (by (with_reducible repeat (first | apply Kd.S_alloc | apply Kd.S_drewN | apply Kd.S_drew)); exact (Kd.S_mono (Kd.S_mono (Kd.S_far (p := ⟨gb104, 1, none⟩) (Kd.S_far (p := ⟨gb104, 0, none⟩) (Kd.S_far (p := ⟨gb103, 1, none⟩) (Kd.S_types (Kd.S_types HO107.out BK103.out (by decide)) BK104.out (by decide)) (fun _ hk => hk.1.2) (.string (a1_1.extract 0 ((ji4) : Int).toNat))) (fun _ hk => hk.2) (.slice Ao26 t105.length co26)) (fun _ hk => hk.2) (.slice Ao28 t108.length co28)) (fun _ h_ => h_.1)) (fun _ h_ => h_.1)))); (case side2 => exact (Kd.S_reads' HO107.out).2.1); (case side3 => refine (Kd.S_reads' (e := 49) (base := w.heap.size) (ok := fun k_ => some k_ ≠ (.slice Ao26 t105.length co26 : Value).ownBlock) (n := t108.length) (c := co28) ?_).2.2; exact (by (with_reducible repeat (first | apply Kd.S_alloc | apply Kd.S_drewN | apply Kd.S_drew)); exact (Kd.S_mono (Kd.S_mono (Kd.S_far (p := ⟨gb104, 1, none⟩) (Kd.S_far (p := ⟨gb104, 0, none⟩) (Kd.S_far (p := ⟨gb103, 1, none⟩) (Kd.S_types (Kd.S_types HO110.out BK103.out (by decide)) BK104.out (by decide)) (fun _ hk => hk.1.2) (.string (a1_1.extract 0 ((ji4) : Int).toNat))) (fun _ hk => hk.2) (.slice Ao26 t105.length co26)) (fun _ hk => hk.2) (.slice Ao28 t108.length co28)) (fun _ h_ => h_.1)) (fun _ h_ => h_.1)))); (case side4 => exact (Kd.S_reads' HO110.out).2.1); rintro e w33 ⟨v112, rfl, ho0, hb⟩; refine ⟨_, rfl, ?_⟩; have n0_ := qf (Kd.S_elder' (by (with_reducible repeat (first | apply Kd.S_alloc | apply Kd.S_drewN | apply Kd.S_drew)); exact (Kd.S_mono (Kd.S_mono (Kd.S_far (p := ⟨gb104, 1, none⟩) (Kd.S_far (p := ⟨gb104, 0, none⟩) (Kd.S_far (p := ⟨gb103, 1, none⟩) (Kd.S_types (Kd.S_types HO107.out BK103.out (by decide)) BK104.out (by decide)) (fun _ hk => hk.1.2) (.string (a1_1.extract 0 ((ji4) : Int).toNat))) (fun _ hk => hk.2) (.slice Ao26 t105.length co26)) (fun _ hk => hk.2) (.slice Ao28 t108.length co28)) (fun _ h_ => h_.1)) (fun _ h_ => h_.1))) (Kd.R_base ho0) hb); have n1_ := qf (Kd.S_elder' (by (with_reducible repeat (first | apply Kd.S_alloc | apply Kd.S_drewN | apply Kd.S_drew)); exact (Kd.S_mono (Kd.S_mono (Kd.S_far (p := ⟨gb104, 1, none⟩) (Kd.S_far (p := ⟨gb104, 0, none⟩) (Kd.S_far (p := ⟨gb103, 1, none⟩) (Kd.S_types (Kd.S_types HO110.out BK103.out (by decide)) BK104.out (by decide)) (fun _ hk => hk.1.2) (.string (a1_1.extract 0 ((ji4) : Int).toNat))) (fun _ hk => hk.2) (.slice Ao26 t105.length co26)) (fun _ hk => hk.2) (.slice Ao28 t108.length co28)) (fun _ h_ => h_.1)) (fun _ h_ => h_.1))) (Kd.R_base ho0) hb); have n2_ := qf (Kd.R_lower ho0 (below_size (by repeat (first | (with_reducible first | exact HB.out | apply qa | apply qb | apply qc | refine qg ?_ GE103.out | refine qg ?_ GE104.out) | exact HB.out)))); have n3_ := qf (blk_below (g := gb103) (o := .cells #[.int .u64 a1_0, .string (a1_1.extract 0 ((ji4) : Int).toNat)] 46 (0, 0)) (by (with_reducible repeat (first | refine blk_drewN ?_ _ | refine blk_drew ?_ | refine qh ?_ _)); refine blk_far ?_ NB103_104.out _; (with_reducible repeat (first | refine blk_drewN ?_ _ | refine blk_drew ?_ | refine qh ?_ _)); refine blk_far ?_ NB103_104.out _; (with_reducible repeat (first | refine blk_drewN ?_ _ | refine blk_drew ?_ | refine qh ?_ _)); refine blk_put (cs := #[.int .u64 a1_0, .string a1_1]) ?_ 1 _ rfl; (with_reducible repeat (first | refine blk_drewN ?_ _ | refine blk_drew ?_ | refine qh ?_ _)); exact BK103.out) hb); have n4_ := qf (blk_below (g := gb104) (o := .cells #[.slice Ao26 t105.length co26, .slice Ao28 t108.length co28] 78 (0, 0)) (by (with_reducible repeat (first | refine blk_drewN ?_ _ | refine blk_drew ?_ | refine qh ?_ _)); refine blk_put (cs := #[.slice Ao26 t105.length co26, .slice A2_1 l2_1.length c2_1]) ?_ 1 _ rfl; (with_reducible repeat (first | refine blk_drewN ?_ _ | refine blk_drew ?_ | refine qh ?_ _)); refine blk_put (cs := #[.slice A2_0 l2_0.length c2_0, .slice A2_1 l2_1.length c2_1]) ?_ 0 _ rfl; (with_reducible repeat (first | refine blk_drewN ?_ _ | refine blk_drew ?_ | refine qh ?_ _)); refine blk_far ?_ NB104_103.out _; (with_reducible repeat (first | refine blk_drewN ?_ _ | refine blk_drew ?_ | refine qh ?_ _)); exact BK104.out) hb); have n5_ := qf (below_step (by repeat (first | (with_reducible first | exact HB.out | apply qa | apply qb | apply qc | refine qg ?_ GE103.out | refine qg ?_ GE104.out) | exact HB.out)) hb); clear HO107; clear HO110; clear BK103; clear BK104; clear HB; have HO107 := n0_; have HO110 := n1_; have HO113 := n2_; have BK103 := n3_; have BK104 := n4_; have HB := n5_; clear n0_ n1_ n2_ n3_ n4_ n5_; (try clear hb); (try clear hb2); (try clear hk); (try clear hi); (try clear ho0); have hcz34_0 : w33.cell? ⟨gb103, 0, none⟩ = some (.int .u64 a1_0) := (blk_cell BK103.out 0).trans rfl; have hcz34_1 : w33.cell? ⟨gb103, 1, none⟩ = some (.string (a1_1.extract 0 ((ji4) : Int).toNat)) := (blk_cell BK103.out 1).trans rfl; have hfz34_0 := blk_frozen BK103.out 0; have hfz34_1 := blk_frozen BK103.out 1; have hcz35_0 : w33.cell? ⟨gb104, 0, none⟩ = some (.slice Ao26 t105.length co26) := (blk_cell BK104.out 0).trans rfl; have hcz35_1 : w33.cell? ⟨gb104, 1, none⟩ = some (.slice Ao28 t108.length co28) := (blk_cell BK104.out 1).trans rfl; have hfz35_0 := blk_frozen BK104.out 0; have hfz35_1 := blk_frozen BK104.out 1) | ((with_reducible refine gate_callee (f := 54) rfl ?_); refine goesL_ (some 33) rfl rfl Tryd.func54 (by kernel_rfl) rfl #[.string a0, .agg #[.int .u64 a1_0, .string (a1_1.extract 0 ((ji4) : Int).toNat)], .agg #[.slice Ao26 t105.length co26, .slice Ao28 t108.length co28]] rfl (by (try simp only [List.map_toArray, List.map_cons, List.map_nil]); first | done | (simp only [hji4]; rfl) | rfl | (simp only [List.length_drop, qw]; rfl)) ?_; (with_reducible refine (proof_Check.calls a0 a1_0 (a1_1.extract 0 ((ji4) : Int).toNat) _ _ t105 _ _ t108 t115 t116 _ ?side1 ?side2 ?side3 ?side4 A9.out).mono ?_); (case side1 => repeat (first | exact (Kd.S_reads' HO107.out).2.2 | (with_reducible refine Kd.C_alloc ?_ _) | (with_reducible refine Kd.C_drewN ?_ _) | (with_reducible refine Kd.C_drew ?_))); (case side2 => exact (Kd.S_reads' HO107.out).2.1); (case side3 => repeat (first | exact (Kd.S_reads' HO110.out).2.2 | (with_reducible refine Kd.C_alloc ?_ _) | (with_reducible refine Kd.C_drewN ?_ _) | (with_reducible refine Kd.C_drew ?_))); (case side4 => exact (Kd.S_reads' HO110.out).2.1); rintro e w36 ⟨rfl, hb⟩; refine ⟨_, rfl, ?_⟩; have n0_ := qf (Kd.S_below (by (with_reducible repeat (first | apply Kd.S_alloc | apply Kd.S_drewN | apply Kd.S_drew)); exact HO107.out) hb); have n1_ := qf (Kd.S_below (by (with_reducible repeat (first | apply Kd.S_alloc | apply Kd.S_drewN | apply Kd.S_drew)); exact HO110.out) hb); have n2_ := qf (Kd.R_below (by (with_reducible repeat (first | apply Kd.R_alloc | apply Kd.R_drewN | apply Kd.R_drew)); exact HO113.out) hb); have n3_ := qf (blk_below (g := gb103) (o := .cells #[.int .u64 a1_0, .string (a1_1.extract 0 ((ji4) : Int).toNat)] 46 (0, 0)) (by (with_reducible repeat (first | refine blk_drewN ?_ _ | refine blk_drew ?_ | refine qh ?_ _)); exact BK103.out) hb); have n4_ := qf (blk_below (g := gb104) (o := .cells #[.slice Ao26 t105.length co26, .slice Ao28 t108.length co28] 78 (0, 0)) (by (with_reducible repeat (first | refine blk_drewN ?_ _ | refine blk_drew ?_ | refine qh ?_ _)); exact BK104.out) hb); have n5_ := qf (below_step (by repeat (first | (with_reducible first | exact HB.out | apply qa | apply qb | apply qc | refine qg ?_ GE103.out | refine qg ?_ GE104.out) | exact HB.out)) hb); clear HO107; clear HO110; clear HO113; clear BK103; clear BK104; clear HB; have HO107 := n0_; have HO110 := n1_; have HO113 := n2_; have BK103 := n3_; have BK104 := n4_; have HB := n5_; clear n0_ n1_ n2_ n3_ n4_ n5_; (try clear hb); (try clear hb2); (try clear hk); (try clear hi); have hcz37_0 : w36.cell? ⟨gb103, 0, none⟩ = some (.int .u64 a1_0) := (blk_cell BK103.out 0).trans rfl; have hcz37_1 : w36.cell? ⟨gb103, 1, none⟩ = some (.string (a1_1.extract 0 ((ji4) : Int).toNat)) := (blk_cell BK103.out 1).trans rfl; have hfz37_0 := blk_frozen BK103.out 0; have hfz37_1 := blk_frozen BK103.out 1; have hcz38_0 : w36.cell? ⟨gb104, 0, none⟩ = some (.slice Ao26 t105.length co26) := (blk_cell BK104.out 0).trans rfl; have hcz38_1 : w36.cell? ⟨gb104, 1, none⟩ = some (.slice Ao28 t108.length co28) := (blk_cell BK104.out 1).trans rfl; have hfz38_0 := blk_frozen BK104.out 0; have hfz38_1 := blk_frozen BK104.out 1) | ((with_reducible refine gate_callee (f := 55) rfl ?_); refine goesL_ (some 38) rfl rfl Tryd.func55 (by kernel_rfl) rfl #[.agg #[.int .u64 a1_0, .string (a1_1.extract 0 ((ji4) : Int).toNat)], .agg #[.slice Ao26 t105.length co26, .slice Ao28 t108.length co28]] rfl (by (try simp only [List.map_toArray, List.map_cons, List.map_nil]); first | done | (simp only [hji4]; rfl) | rfl | (simp only [List.length_drop, qw]; rfl)) ?_; (with_reducible refine (saltusref18_Why.calls a1_0 (a1_1.extract 0 ((ji4) : Int).toNat) _ _ t105 _ _ t108 t117 _ ?side1 ?side2 ?side3 ?side4 A10.out).mono ?_); (case side1 => repeat (first | exact (Kd.S_reads' HO107.out).2.2 | (with_reducible refine Kd.C_alloc ?_ _) | (with_reducible refine Kd.C_drewN ?_ _) | (with_reducible refine Kd.C_drew ?_))); (case side2 => exact (Kd.S_reads' HO107.out).2.1); (case side3 => repeat (first | exact (Kd.S_reads' HO110.out).2.2 | (with_reducible refine Kd.C_alloc ?_ _) | (with_reducible refine Kd.C_drewN ?_ _) | (with_reducible refine Kd.C_drew ?_))); (case side4 => exact (Kd.S_reads' HO110.out).2.1); rintro e w39 ⟨rfl, hb⟩; refine ⟨_, rfl, ?_⟩; have n0_ := qf (Kd.S_below (by (with_reducible repeat (first | apply Kd.S_alloc | apply Kd.S_drewN | apply Kd.S_drew)); exact HO107.out) hb); have n1_ := qf (Kd.S_below (by (with_reducible repeat (first | apply Kd.S_alloc | apply Kd.S_drewN | apply Kd.S_drew)); exact HO110.out) hb); have n2_ := qf (Kd.R_below (by (with_reducible repeat (first | apply Kd.R_alloc | apply Kd.R_drewN | apply Kd.R_drew)); exact HO113.out) hb); have n3_ := qf (blk_below (g := gb103) (o := .cells #[.int .u64 a1_0, .string (a1_1.extract 0 ((ji4) : Int).toNat)] 46 (0, 0)) (by (with_reducible repeat (first | refine blk_drewN ?_ _ | refine blk_drew ?_ | refine qh ?_ _)); exact BK103.out) hb); have n4_ := qf (blk_below (g := gb104) (o := .cells #[.slice Ao26 t105.length co26, .slice Ao28 t108.length co28] 78 (0, 0)) (by (with_reducible repeat (first | refine blk_drewN ?_ _ | refine blk_drew ?_ | refine qh ?_ _)); exact BK104.out) hb); have n5_ := qf (below_step (by repeat (first | (with_reducible first | exact HB.out | apply qa | apply qb | apply qc | refine qg ?_ GE103.out | refine qg ?_ GE104.out) | exact HB.out)) hb); clear HO107; clear HO110; clear HO113; clear BK103; clear BK104; clear HB; have HO107 := n0_; have HO110 := n1_; have HO113 := n2_; have BK103 := n3_; have BK104 := n4_; have HB := n5_; clear n0_ n1_ n2_ n3_ n4_ n5_; (try clear hb); (try clear hb2); (try clear hk); (try clear hi); have hcz40_0 : w39.cell? ⟨gb103, 0, none⟩ = some (.int .u64 a1_0) := (blk_cell BK103.out 0).trans rfl; have hcz40_1 : w39.cell? ⟨gb103, 1, none⟩ = some (.string (a1_1.extract 0 ((ji4) : Int).toNat)) := (blk_cell BK103.out 1).trans rfl; have hfz40_0 := blk_frozen BK103.out 0; have hfz40_1 := blk_frozen BK103.out 1; have hcz41_0 : w39.cell? ⟨gb104, 0, none⟩ = some (.slice Ao26 t105.length co26) := (blk_cell BK104.out 0).trans rfl; have hcz41_1 : w39.cell? ⟨gb104, 1, none⟩ = some (.slice Ao28 t108.length co28) := (blk_cell BK104.out 1).trans rfl; have hfz41_0 := blk_frozen BK104.out 0; have hfz41_1 := blk_frozen BK104.out 1) | ((with_reducible refine gate_callee (f := 57) rfl ?_); refine goesL_ (some 63) rfl rfl Tryd.func57 (by kernel_rfl) rfl #[.agg #[.int .u64 a1_0, .string (a1_1.extract 0 ((ji4) : Int).toNat)], .agg #[.slice Ao26 t105.length co26, .slice Ao28 t108.length co28]] rfl (by (try simp only [List.map_toArray, List.map_cons, List.map_nil]); first | done | (simp only [hji4]; rfl) | rfl | (simp only [List.length_drop, qw]; rfl)) ?_; (with_reducible refine (saltusref18_Steps.calls a1_0 (a1_1.extract 0 ((ji4) : Int).toNat) _ _ t105 _ _ t108 t119 _ ?side1 ?side2 ?side3 ?side4 A12.out).mono ?_); (case side1 => repeat (first | exact (Kd.S_reads' HO107.out).2.2 | (with_reducible refine Kd.C_alloc ?_ _) | (with_reducible refine Kd.C_drewN ?_ _) | (with_reducible refine Kd.C_drew ?_))); (case side2 => exact (Kd.S_reads' HO107.out).2.1); (case side3 => repeat (first | exact (Kd.S_reads' HO110.out).2.2 | (with_reducible refine Kd.C_alloc ?_ _) | (with_reducible refine Kd.C_drewN ?_ _) | (with_reducible refine Kd.C_drew ?_))); (case side4 => exact (Kd.S_reads' HO110.out).2.1); rintro e w42 ⟨v120, rfl, ho0, hb⟩; refine ⟨_, rfl, ?_⟩; have n0_ := qf (Kd.S_elder' (by (with_reducible repeat (first | apply Kd.S_alloc | apply Kd.S_drewN | apply Kd.S_drew)); exact HO107.out) (Kd.R_base ho0) hb); have n1_ := qf (Kd.S_elder' (by (with_reducible repeat (first | apply Kd.S_alloc | apply Kd.S_drewN | apply Kd.S_drew)); exact HO110.out) (Kd.R_base ho0) hb); have n2_ := qf (Kd.R_elder' (by (with_reducible repeat (first | apply Kd.R_alloc | apply Kd.R_drewN | apply Kd.R_drew)); exact HO113.out) (Kd.R_base ho0) hb); have n3_ := qf (Kd.R_lower (Kd.R_new' ho0 (Kd.R_lt (by (with_reducible repeat (first | apply Kd.R_alloc | apply Kd.R_drewN | apply Kd.R_drew)); exact HO113.out))) (below_size (by repeat (first | (with_reducible first | exact HB.out | apply qa | apply qb | apply qc | refine qg ?_ GE103.out | refine qg ?_ GE104.out) | exact HB.out)))); have n4_ := qf (blk_below (g := gb103) (o := .cells #[.int .u64 a1_0, .string (a1_1.extract 0 ((ji4) : Int).toNat)] 46 (0, 0)) (by (with_reducible repeat (first | refine blk_drewN ?_ _ | refine blk_drew ?_ | refine qh ?_ _)); exact BK103.out) hb); have n5_ := qf (blk_below (g := gb104) (o := .cells #[.slice Ao26 t105.length co26, .slice Ao28 t108.length co28] 78 (0, 0)) (by (with_reducible repeat (first | refine blk_drewN ?_ _ | refine blk_drew ?_ | refine qh ?_ _)); exact BK104.out) hb); have n6_ := qf (below_step (by repeat (first | (with_reducible first | exact HB.out | apply qa | apply qb | apply qc | refine qg ?_ GE103.out | refine qg ?_ GE104.out) | exact HB.out)) hb); clear HO107; clear HO110; clear HO113; clear BK103; clear BK104; clear HB; have HO107 := n0_; have HO110 := n1_; have HO113 := n2_; have HO121 := n3_; have BK103 := n4_; have BK104 := n5_; have HB := n6_; clear n0_ n1_ n2_ n3_ n4_ n5_ n6_; (try clear hb); (try clear hb2); (try clear hk); (try clear hi); (try clear ho0)) | ((with_reducible refine gate_callee (f := 56) rfl ?_); refine goesL_ (some 64) rfl rfl Tryd.func56 (by kernel_rfl) rfl #[] rfl (by (try simp only [List.map_toArray, List.map_cons, List.map_nil]); first | done | rfl | (simp only [List.length_drop, qw]; rfl)) ?_; (with_reducible refine (saltuslaw18_alive.calls  true _ A13.out (Tower.tab_below HT.out (by repeat (first | (with_reducible first | exact HB.out | apply qa | apply qb | apply qc | refine qg ?_ GE103.out | refine qg ?_ GE104.out) | exact HB.out)) (Nat.le_refl _))).mono ?_); rintro e w43 ⟨rfl, hb⟩; refine ⟨_, rfl, ?_⟩; have n0_ := qf (Kd.S_below (by (with_reducible repeat (first | apply Kd.S_alloc | apply Kd.S_drewN | apply Kd.S_drew)); exact HO107.out) hb); have n1_ := qf (Kd.S_below (by (with_reducible repeat (first | apply Kd.S_alloc | apply Kd.S_drewN | apply Kd.S_drew)); exact HO110.out) hb); have n2_ := qf (Kd.R_below (by (with_reducible repeat (first | apply Kd.R_alloc | apply Kd.R_drewN | apply Kd.R_drew)); exact HO113.out) hb); have n3_ := qf (Kd.R_below (by (with_reducible repeat (first | apply Kd.R_alloc | apply Kd.R_drewN | apply Kd.R_drew)); exact HO121.out) hb); have n4_ := qf (blk_below (g := gb103) (o := .cells #[.int .u64 a1_0, .string (a1_1.extract 0 ((ji4) : Int).toNat)] 46 (0, 0)) (by (with_reducible repeat (first | refine blk_drewN ?_ _ | refine blk_drew ?_ | refine qh ?_ _)); exact BK103.out) hb); have n5_ := qf (blk_below (g := gb104) (o := .cells #[.slice Ao26 t105.length co26, .slice Ao28 t108.length co28] 78 (0, 0)) (by (with_reducible repeat (first | refine blk_drewN ?_ _ | refine blk_drew ?_ | refine qh ?_ _)); exact BK104.out) hb); have n6_ := qf (below_step (by repeat (first | (with_reducible first | exact HB.out | apply qa | apply qb | apply qc | refine qg ?_ GE103.out | refine qg ?_ GE104.out) | exact HB.out)) hb); clear HO107; clear HO110; clear HO113; clear HO121; clear BK103; clear BK104; clear HB; have HO107 := n0_; have HO110 := n1_; have HO113 := n2_; have HO121 := n3_; have BK103 := n4_; have BK104 := n5_; have HB := n6_; clear n0_ n1_ n2_ n3_ n4_ n5_ n6_; (try clear hb); (try clear hb2); (try clear hk); (try clear hi); obtain ⟨Ao44, co44, eo44⟩ := Kd.R_slice HO113.out; subst eo44; obtain ⟨Ao45, co45, eo45⟩ := Kd.R_slice HO121.out; subst eo45) | (go_at_call 34; (with_reducible refine (saltusref04_Same.calls k _ _ t111 _ _ t119 true _ ?side1 ?side2 ?side3 ?side4 A17.out).mono ?_); (case side1 => repeat (first | exact (Kd.R_reads' HO113.out).2.2 | (with_reducible refine Kd.C_alloc ?_ _) | (with_reducible refine Kd.C_drewN ?_ _) | (with_reducible refine Kd.C_drew ?_))); (case side2 => exact (Kd.R_reads' HO113.out).2.1); (case side3 => repeat (first | exact (Kd.R_reads' HO121.out).2.2 | (with_reducible refine Kd.C_alloc ?_ _) | (with_reducible refine Kd.C_drewN ?_ _) | (with_reducible refine Kd.C_drew ?_))); (case side4 => exact (Kd.R_reads' HO121.out).2.1); rintro e w' ⟨rfl, ⟨nd, rfl⟩⟩; have p124 : 0 ≤ (8 : Int) := (by omega); have q124 : 8 < (t119.length : Int) := qe (by first | (with_reducible assumption) | assumption); obtain ⟨ad124, e124, hx124_0⟩ := Kd.at_string (Kd.R_reads' HO121.out).2.2 8 p124 q124; cases e124; (try simp only [show (8 : Int).toNat = 8 from rfl, Nat.reduceMul, Nat.reduceEqDiff, Go.Addr.add, ↓reduceIte] at hx124_0); have qi124 : (8 < t119.length) = True := eq_true (by omega); (try rw [show ((8 : Int)).toNat = 8 from rfl] at hx124_0); replace p124 := eq_true p124; replace q124 := eq_true q124) | (go_at_call 45; (with_reducible refine (saltusref03_Sum.calls (rdOf ByteArray.empty t119 8) t125 _ A20.out).mono ?_); rintro e w46 ⟨rfl, hb⟩; have n0_ := qf (Kd.S_below (by (with_reducible repeat (first | apply Kd.S_alloc | apply Kd.S_drewN | apply Kd.S_drew)); exact HO107.out) hb); have n1_ := qf (Kd.S_below (by (with_reducible repeat (first | apply Kd.S_alloc | apply Kd.S_drewN | apply Kd.S_drew)); exact HO110.out) hb); have n2_ := qf (Kd.R_below (by (with_reducible repeat (first | apply Kd.R_alloc | apply Kd.R_drewN | apply Kd.R_drew)); exact HO113.out) hb); have n3_ := qf (Kd.R_below (by (with_reducible repeat (first | apply Kd.R_alloc | apply Kd.R_drewN | apply Kd.R_drew)); exact HO121.out) hb); have n4_ := qf (blk_below (g := gb103) (o := .cells #[.int .u64 a1_0, .string (a1_1.extract 0 ((ji4) : Int).toNat)] 46 (0, 0)) (by (with_reducible repeat (first | refine blk_drewN ?_ _ | refine blk_drew ?_ | refine qh ?_ _)); exact BK103.out) hb); have n5_ := qf (blk_below (g := gb104) (o := .cells #[.slice Ao26 t105.length co26, .slice Ao28 t108.length co28] 78 (0, 0)) (by (with_reducible repeat (first | refine blk_drewN ?_ _ | refine blk_drew ?_ | refine qh ?_ _)); exact BK104.out) hb); have n6_ := qf (below_step (by repeat (first | (with_reducible first | exact HB.out | apply qa | apply qb | apply qc | refine qg ?_ GE103.out | refine qg ?_ GE104.out) | exact HB.out)) hb); clear HO107; clear HO110; clear HO113; clear HO121; clear BK103; clear BK104; clear HB; have HO107 := n0_; have HO110 := n1_; have HO113 := n2_; have HO121 := n3_; have BK103 := n4_; have BK104 := n5_; have HB := n6_; clear n0_ n1_ n2_ n3_ n4_ n5_ n6_; (try clear hb); (try clear hb2); (try clear hk); (try clear hi)))
         go_ret
         exact ⟨by first | rfl | (simp [errW_none, errW_some] <;> rfl) | (simp only [← hji4]; first | rfl | (simp [errW_none, errW_some] <;> rfl)) | (simp [*, errW_none, errW_some] <;> rfl), by repeat (first | (with_reducible first | exact HB.out | apply qa | apply qb | apply qc | refine qg ?_ GE103.out | refine qg ?_ GE104.out) | exact HB.out)⟩
        ·rw [if_neg c19] at H
         exact absurd H (by simp)
       ·replace c18 := Bool.eq_false_iff.mpr c18
        subst c18
        have H1 : (some false) = some r := by rw [if_neg (show ¬ (false = true) by decide)] at H; exact H
        clear H
        have H := H1
        clear H1
        exact absurd ((Option.some.inj H).trans hr.out) (by decide)
      ·rw [if_neg c16] at H
       have c16b0 : (t116 == 0) = false := beq_eq_false_iff_ne.mpr c16
       have c16b1 : (t116 != 0) = true := bne_iff_ne.mpr c16
       exact absurd ((Option.some.inj H).trans hr.out) (by decide)
     ·rw [if_neg c15] at H
      have c15b0 : (t114 == 0) = false := beq_eq_false_iff_ne.mpr c15
      have c15b1 : (t114 != 0) = true := bne_iff_ne.mpr c15
      exact absurd ((Option.some.inj H).trans hr.out) (by decide)
    ·replace c14 := Bool.eq_false_iff.mpr c14
     subst c14
     have H1 : (some false) = some r := by rw [if_neg (show ¬ (false = true) by decide)] at H; exact H
     clear H
     have H := H1
     clear H1
     exact absurd ((Option.some.inj H).trans hr.out) (by decide)
   ·rw [if_neg c11] at H
    have c11b0 : (t117 == 0) = false := beq_eq_false_iff_ne.mpr c11
    have c11b1 : (t117 != 0) = true := bne_iff_ne.mpr c11
    replace H := qi H
    obtain ⟨t118, A470, H⟩ := H
    (try dsimp only at H)
    have A47 := qf A470
    clear A470
    by_cases c48 : t118 = true
    ·subst c48
     have H1 : (if t114 = t117 then (if t116 = t117 then (if (t111.length : Int) = 0 then (some (!t115)) else (some false)) else (some false)) else (some false)) = some r := by rw [if_pos rfl] at H; exact H
     clear H
     have H := H1
     clear H1
     by_cases c49 : t114 = t117
     ·rw [if_pos c49] at H
      have c49b0 : (t114 == t117) = true := beq_iff_eq.mpr c49
      have c49b1 : (t114 != t117) = false := bne_eq_false_iff_eq.mpr c49
      clear c49
      by_cases c50 : t116 = t117
      ·rw [if_pos c50] at H
       have c50b0 : (t116 == t117) = true := beq_iff_eq.mpr c50
       have c50b1 : (t116 != t117) = false := bne_eq_false_iff_eq.mpr c50
       clear c50
       by_cases c51 : (t111.length : Int) = 0
       ·rw [if_pos c51] at H
        have c51b0 : ((t111.length : Int) == 0) = true := beq_iff_eq.mpr c51
        have c51b1 : ((t111.length : Int) != 0) = false := bne_eq_false_iff_eq.mpr c51
        clear c51
        obtain rfl := Option.some.inj H
        go_enter Tryd.func13, Tryd.ntmps13
        try go_wp2_with (first | ((with_reducible refine gate_dst (N := 4) rfl ?_); (try (refine gate_guard (by rfl) ?_; dsimp only)); refine box_event ?hg (N := 4) ?hd (cs := #[.int .u64 a1_0, .string a1_1]) (t := 46) ?hr ?_; (case hd => rfl); (case hg => rfl); (case hr => first | (go_simp; done) | (go_simp; rfl)); intro gb103 hg w52 hbox hb; have n0_ := qf (below_step (by repeat (first | (with_reducible first | exact HB.out | apply qa | apply qb | apply qc) | exact HB.out)) hb); have n1_ := qf (hbox); have n2_ := qf ((by rw [hg]; exact (below_size (by repeat (first | (with_reducible first | exact HB.out | apply qa | apply qb | apply qc) | exact HB.out))) : w.heap.size ≤ gb103)); have n3_ := qf ((by rw [hg]; exact (below_size (by repeat (first | (with_reducible first | exact HB.out | apply qa | apply qb | apply qc) | exact HB.out))) : w.heap.size ≤ gb103)); clear HB; have HB := n0_; have BK103 := n1_; have GW103 := n2_; have GE103 := n3_; clear n0_ n1_ n2_ n3_; clear hb hbox hg) | ((with_reducible refine gate_dst (N := 5) rfl ?_); (try (refine gate_guard (by rfl) ?_; dsimp only)); refine box_event ?hg (N := 5) ?hd (cs := #[.slice A2_0 l2_0.length c2_0, .slice A2_1 l2_1.length c2_1]) (t := 78) ?hr ?_; (case hd => rfl); (case hg => rfl); (case hr => first | (go_simp; done) | (go_simp; rfl)); intro gb104 hg w53 hbox hb; have n0_ := qf (blk_below (g := gb103) (o := .cells #[.int .u64 a1_0, .string a1_1] 46 (0, 0)) (by (with_reducible repeat (first | refine blk_drewN ?_ _ | refine blk_drew ?_ | refine qh ?_ _)); exact BK103.out) hb); have n1_ := qf (below_step (by repeat (first | (with_reducible first | exact HB.out | apply qa | apply qb | apply qc | refine qg ?_ GE103.out) | exact HB.out)) hb); have n2_ := qf (hbox); have n3_ := qf ((by rw [hg]; exact (below_size (by repeat (first | (with_reducible first | exact HB.out | apply qa | apply qb | apply qc | refine qg ?_ GE103.out) | exact HB.out))) : w.heap.size ≤ gb104)); have n4_ := qf ((by rw [hg]; exact (below_size (by repeat (first | (with_reducible first | exact HB.out | apply qa | apply qb | apply qc | refine qg ?_ GE103.out) | exact HB.out))) : w.heap.size ≤ gb104)); have n5_ := qf ((by rw [hg]; exact Nat.ne_of_lt (blk_lt (g := gb103) (o := .cells #[.int .u64 a1_0, .string a1_1] 46 (0, 0)) (by (with_reducible repeat (first | refine blk_drewN ?_ _ | refine blk_drew ?_ | refine qh ?_ _)); exact BK103.out)) : gb103 ≠ gb104)); have n6_ := qf ((by rw [hg]; exact Nat.ne_of_gt (blk_lt (g := gb103) (o := .cells #[.int .u64 a1_0, .string a1_1] 46 (0, 0)) (by (with_reducible repeat (first | refine blk_drewN ?_ _ | refine blk_drew ?_ | refine qh ?_ _)); exact BK103.out)) : gb104 ≠ gb103)); clear BK103; clear HB; have BK103 := n0_; have HB := n1_; have BK104 := n2_; have GW104 := n3_; have GE104 := n4_; have NB103_104 := n5_; have NB104_103 := n6_; clear n0_ n1_ n2_ n3_ n4_ n5_ n6_; clear hb hbox hg))
        have n0_ := qf (blk_drew BK103.out)
        have n1_ := qf (blk_drew BK104.out)
        have n2_ := qf (qc HB.out)
        clear BK103
        clear BK104
        clear HB
        have BK103 := n0_
        have BK104 := n1_
        have HB := n2_
        clear n0_ n1_ n2_
        refine start_ (n := 12) (S := fun w' => w'.cell? ⟨gb103, 0, none⟩ = some (.int .u64 a1_0) ∧ w'.cell? ⟨gb103, 1, none⟩ = some (.string a1_1) ∧ w'.cell? ⟨gb104, 0, none⟩ = some (.slice A2_0 l2_0.length c2_0) ∧ w'.cell? ⟨gb104, 1, none⟩ = some (.slice A2_1 l2_1.length c2_1)) (ds := [10, 11]) (bm 12 0) (by kernel_rfl) rfl rfl ⟨(blk_cell BK103.out 0).trans rfl, (blk_cell BK103.out 1).trans rfl, (blk_cell BK104.out 0).trans rfl, (blk_cell BK104.out 1).trans rfl⟩ (fun hHeld => ?_); refine with_tabW saltuslaw18_ProofChecks.tab1 saltuslaw18_ProofChecks.bits1 (fun HT_ HW_ => ?_)
        generalize w53.drew = w54 at BK103 BK104 HB hHeld ⊢
        refine pure_ (i := 0) (N := some 13) (v := ?_) (a' := ?_) (bm 12 1) rfl rfl (any_of HT_.out (by kernel_rfl)) (fun _ _ _ h => h) (Or.inl ⟨by rfl, ?_⟩) ?_ ?_
        rotate_left
        ·intro w'
         go_simp
         with_reducible rfl
        rotate_left
        ·simp only [Act.put, qs, qt, qu, i64_w, i32_w]
         rfl
        refine pure_ (i := 2) (N := some 15) (v := ?_) (a' := ?_) (bm 12 5) rfl rfl (any_of HT_.out (by kernel_rfl)) (fun _ _ _ h => h) (Or.inl ⟨by rfl, ?_⟩) ?_ ?_
        rotate_left
        ·intro w'
         go_simp
         with_reducible rfl
        rotate_left
        ·simp only [Act.put, qs, qt, qu, i64_w, i32_w]
         rfl
        refine take_ (i := 1) (N := some 14) (v := ?_) (a' := ?_) (bm 12 7) rfl rfl (take_ofW HT_.out HW_.out (by kernel_rfl)) (fun _ _ _ h => h) (Or.inl ⟨by rfl, ?_⟩) hHeld ?_ ?_
        rotate_left
        ·rintro w' ⟨s0, s1, s2, s3⟩
         go_simp
         with_reducible rfl
        rotate_left
        ·simp only [Act.put, qs, qt, qu, i64_w, i32_w]
         rfl
        refine take_ (i := 3) (N := some 16) (v := ?_) (a' := ?_) (bm 12 15) rfl rfl (take_ofW HT_.out HW_.out (by kernel_rfl)) (fun _ _ _ h => h) (Or.inl ⟨by rfl, ?_⟩) hHeld ?_ ?_
        rotate_left
        ·rintro w' ⟨s0, s1, s2, s3⟩
         go_simp
         with_reducible rfl
        rotate_left
        ·simp only [Act.put, qs, qt, qu, i64_w, i32_w]
         rfl
        refine pure_ (i := 4) (N := some 17) (v := ?_) (a' := ?_) (bm 12 31) rfl rfl (any_of HT_.out (by kernel_rfl)) (fun _ _ _ h => h) (Or.inl ⟨by rfl, ?_⟩) ?_ ?_
        rotate_left
        ·intro w'
         go_simp
         with_reducible rfl
        rotate_left
        ·simp only [Act.put, qs, qt, qu, i64_w, i32_w]
         rfl
        refine pure_ (i := 5) (N := some 18) (v := ?_) (a' := ?_) (bm 12 63) rfl rfl (any_of HT_.out (by kernel_rfl)) (fun _ _ _ h => h) (Or.inl ⟨by rfl, ?_⟩) ?_ ?_
        rotate_left
        ·intro w'
         go_simp
         with_reducible rfl
        rotate_left
        ·simp only [Act.put, qs, qt, qu, i64_w, i32_w]
         rfl
        refine pure_ (i := 6) (N := some 19) (v := ?_) (a' := ?_) (bm 12 127) rfl rfl (any_of HT_.out (by kernel_rfl)) (fun _ _ _ h => h) (Or.inl ⟨by rfl, ?_⟩) ?_ ?_
        rotate_left
        ·intro w'
         go_simp
         with_reducible rfl
        rotate_left
        ·simp only [Act.put, qs, qt, qu, i64_w, i32_w]
         rfl
        refine pure_ (i := 9) (N := some 22) (v := ?_) (a' := ?_) (bm 12 639) rfl rfl (any_of HT_.out (by kernel_rfl)) (fun _ _ _ h => h) (Or.inl ⟨by rfl, ?_⟩) ?_ ?_
        rotate_left
        ·intro w'
         go_simp
         with_reducible rfl
        rotate_left
        ·simp only [Act.put, qs, qt, qu, i64_w, i32_w]
         rfl
        refine take_ (i := 7) (N := some 20) (v := ?_) (a' := ?_) (bm 12 767) rfl rfl (take_ofW HT_.out HW_.out (by kernel_rfl)) (fun _ _ _ h => h) (Or.inl ⟨by rfl, ?_⟩) hHeld ?_ ?_
        rotate_left
        ·rintro w' ⟨s0, s1, s2, s3⟩
         go_simp
         with_reducible rfl
        rotate_left
        ·simp only [Act.put, qs, qt, qu, i64_w, i32_w]
         rfl
        refine one_ (i := 8) (N := some 21) (bm 12 1023) rfl rfl (one_of HT_.out (by kernel_rfl)) (by decide) (fun K hK => ?_)
        refine goes_ Tryd.func52 (by kernel_rfl) rfl #[.agg #[.slice A2_0 l2_0.length c2_0, .slice A2_1 l2_1.length c2_1]] (by rfl) rfl rfl (by (try simp only [List.map_toArray, List.map_cons, List.map_nil]); first | done | rfl | (simp only [List.length_drop, qw]; rfl)) ?_
        with_reducible refine (saltuslaw18_few.calls _ _ l2_0 _ _ l2_1 t105 t108 _ ?side1 ?side2 ?side3 ?side4 A7.out).mono ?_
        (case side1 => repeat (first | exact (Kd.C_below HR2_0.out HB.out) | (with_reducible refine Kd.C_alloc ?_ _) | (with_reducible refine Kd.C_drewN ?_ _) | (with_reducible refine Kd.C_drew ?_)))
        (case side2 => exact HC2_0.out)
        (case side3 => repeat (first | exact (Kd.C_below HR2_1.out HB.out) | (with_reducible refine Kd.C_alloc ?_ _) | (with_reducible refine Kd.C_drewN ?_ _) | (with_reducible refine Kd.C_drew ?_)))
        (case side4 => exact HC2_1.out)
        rintro e w55 ⟨v106, v109, rfl, ho0, ho1, hb⟩
        refine ⟨_, rfl, ?_⟩
        have n0_ := qf (Kd.S_lower ho0 (below_size (by repeat (first | (with_reducible first | exact HB.out | apply qa | apply qb | apply qc | refine qg ?_ GE103.out | refine qg ?_ GE104.out) | exact HB.out))))
        have n1_ := qf (Kd.S_lower ho1 (below_size (by repeat (first | (with_reducible first | exact HB.out | apply qa | apply qb | apply qc | refine qg ?_ GE103.out | refine qg ?_ GE104.out) | exact HB.out))))
        have n2_ := qf (blk_below (g := gb103) (o := .cells #[.int .u64 a1_0, .string a1_1] 46 (0, 0)) (by (with_reducible repeat (first | refine blk_drewN ?_ _ | refine blk_drew ?_ | refine qh ?_ _)); exact BK103.out) hb)
        have n3_ := qf (blk_below (g := gb104) (o := .cells #[.slice A2_0 l2_0.length c2_0, .slice A2_1 l2_1.length c2_1] 78 (0, 0)) (by (with_reducible repeat (first | refine blk_drewN ?_ _ | refine blk_drew ?_ | refine qh ?_ _)); exact BK104.out) hb)
        have n4_ := qf (below_step (by repeat (first | (with_reducible first | exact HB.out | apply qa | apply qb | apply qc | refine qg ?_ GE103.out | refine qg ?_ GE104.out) | exact HB.out)) hb)
        clear BK103
        clear BK104
        clear HB
        have HO107 := n0_
        have HO110 := n1_
        have BK103 := n2_
        have BK104 := n3_
        have HB := n4_
        clear n0_ n1_ n2_ n3_ n4_
        (try clear hb)
        (try clear hb2)
        (try clear hk)
        (try clear hi)
        (try clear ho0)
        (try clear ho1)
        obtain ⟨Ao57, co57, eo57⟩ := Kd.S_slice HO107.out
        (first | subst eo57 | (injection eo57 with f1_ f2_ f3_; have f4_ := f1_.symm; have f5_ := f3_.symm; clear f1_ f2_ f3_; subst f4_; subst f5_))
        obtain ⟨Ao59, co59, eo59⟩ := Kd.S_slice HO110.out
        (first | subst eo59 | (injection eo59 with f1_ f2_ f3_; have f4_ := f1_.symm; have f5_ := f3_.symm; clear f1_ f2_ f3_; subst f4_; subst f5_))
        refine hK.out _ _ ⟨(blk_cell BK103.out 0).trans rfl, (blk_cell BK103.out 1).trans rfl, (blk_cell BK104.out 0).trans rfl, (blk_cell BK104.out 1).trans rfl⟩ (fun hHeld => ?_)
        clear hK K
        refine norm_ (a' := ?_) ?_ ?_
        rotate_left
        ·show Act.put _ (some 21) _ = _
         simp only [Act.put, qs, qt, qu, i64_w, i32_w]
         rfl
        refine last_ (i := 10) (N := none) (bm 12 2047) rfl rfl (one_of HT_.out (by kernel_rfl)) (by decide) (fun K hK => ?_)
        have hs56 : w55.cell? ⟨gb103, 1, none⟩ = some (.string a1_1) := (blk_cell BK103.out 1).trans rfl
        have hfs56 := blk_frozen BK103.out 1
        have hns56_1 := NB104_103.out
        have hms56_1 := NB103_104.out
        refine skip_ (w1 := ?_) (by rfl) rfl ?_ ?_
        rotate_left
        ·go_simp
         rfl
        refine hK.out _ _ ?_
        clear hK K
        refine last_ (i := 11) (N := none) (bm 12 4095) rfl rfl (one_of HT_.out (by kernel_rfl)) (by decide) (fun K hK => ?_)
        have hs58 : w55.cell? ⟨gb104, 0, none⟩ = some (.slice A2_0 l2_0.length c2_0) := (blk_cell BK104.out 0).trans rfl
        have hfs58 := blk_frozen BK104.out 0
        have hns58_0 := NB103_104.out
        have hms58_0 := NB104_103.out
        have hs60 : w55.cell? ⟨gb104, 1, none⟩ = some (.slice A2_1 l2_1.length c2_1) := (blk_cell BK104.out 1).trans rfl
        have hfs60 := blk_frozen BK104.out 1
        have hns60_0 := NB103_104.out
        have hms60_0 := NB104_103.out
        refine skip_ (w1 := ?_) (by rfl) rfl ?_ ?_
        rotate_left
        ·go_simp
         rfl
        refine hK.out _ _ ?_
        clear hK K
        refine done_ (done_of HT_.out (by kernel_rfl)) ?_
        have hnb61 := NB103_104.out
        have hnc61 := NB104_103.out
        have hcz62_0 : w55.cell? ⟨gb103, 0, none⟩ = some (.int .u64 a1_0) := (blk_cell BK103.out 0).trans rfl
        have hcz62_1 : w55.cell? ⟨gb103, 1, none⟩ = some (.string a1_1) := (blk_cell BK103.out 1).trans rfl
        have hfz62_0 := blk_frozen BK103.out 0
        have hfz62_1 := blk_frozen BK103.out 1
        have hcz63_0 : w55.cell? ⟨gb104, 0, none⟩ = some (.slice A2_0 l2_0.length c2_0) := (blk_cell BK104.out 0).trans rfl
        have hcz63_1 : w55.cell? ⟨gb104, 1, none⟩ = some (.slice A2_1 l2_1.length c2_1) := (blk_cell BK104.out 1).trans rfl
        have hfz63_0 := blk_frozen BK104.out 0
        have hfz63_1 := blk_frozen BK104.out 1
        try go_wp2_with (first | ((with_reducible refine gate_callee (f := 53) rfl ?_); refine goesL_ (some 26) rfl rfl Tryd.func53 (by kernel_rfl) rfl #[.agg #[.int .u64 a1_0, .string (a1_1.extract 0 ((ji4) : Int).toNat)], .agg #[.slice Ao57 t105.length co57, .slice Ao59 t108.length co59]] rfl (by (try simp only [List.map_toArray, List.map_cons, List.map_nil]); first | done | (simp only [hji4]; rfl) | rfl | (simp only [List.length_drop, qw]; rfl)) ?_; (with_reducible refine (proof_Steps.calls a1_0 (a1_1.extract 0 ((ji4) : Int).toNat) _ _ t105 _ _ t108 t111 t114 _ ?side1 ?side2 ?side3 ?side4 A8.out).mono ?_); (case side1 => refine (Kd.S_reads' (e := 49) (base := w.heap.size) (ok := fun k_ => some k_ ≠ (.slice Ao59 t108.length co59 : Value).ownBlock) (n := t105.length) (c := co57) ?_).2.2; exact (by (with_reducible repeat (first | apply Kd.S_alloc | apply Kd.S_drewN | apply Kd.S_drew)); exact (Kd.S_mono (Kd.S_mono (Kd.S_far (p := ⟨gb104, 1, none⟩) (Kd.S_far (p := ⟨gb104, 0, none⟩) (Kd.S_far (p := ⟨gb103, 1, none⟩) (Kd.S_types (Kd.S_types HO107.out BK103.out (by decide)) BK104.out (by decide)) (fun _ hk => hk.1.2) (.string (a1_1.extract 0 ((ji4) : Int).toNat))) (fun _ hk => hk.2) (.slice Ao57 t105.length co57)) (fun _ hk => hk.2) (.slice Ao59 t108.length co59)) (fun _ h_ => h_.1)) (fun _ h_ => h_.1)))); (case side2 => exact (Kd.S_reads' HO107.out).2.1); (case side3 => refine (Kd.S_reads' (e := 49) (base := w.heap.size) (ok := fun k_ => some k_ ≠ (.slice Ao57 t105.length co57 : Value).ownBlock) (n := t108.length) (c := co59) ?_).2.2; exact (by (with_reducible repeat (first | apply Kd.S_alloc | apply Kd.S_drewN | apply Kd.S_drew)); exact (Kd.S_mono (Kd.S_mono (Kd.S_far (p := ⟨gb104, 1, none⟩) (Kd.S_far (p := ⟨gb104, 0, none⟩) (Kd.S_far (p := ⟨gb103, 1, none⟩) (Kd.S_types (Kd.S_types HO110.out BK103.out (by decide)) BK104.out (by decide)) (fun _ hk => hk.1.2) (.string (a1_1.extract 0 ((ji4) : Int).toNat))) (fun _ hk => hk.2) (.slice Ao57 t105.length co57)) (fun _ hk => hk.2) (.slice Ao59 t108.length co59)) (fun _ h_ => h_.1)) (fun _ h_ => h_.1)))); (case side4 => exact (Kd.S_reads' HO110.out).2.1); rintro e w64 ⟨v112, rfl, ho0, hb⟩; refine ⟨_, rfl, ?_⟩; have n0_ := qf (Kd.S_elder' (by (with_reducible repeat (first | apply Kd.S_alloc | apply Kd.S_drewN | apply Kd.S_drew)); exact (Kd.S_mono (Kd.S_mono (Kd.S_far (p := ⟨gb104, 1, none⟩) (Kd.S_far (p := ⟨gb104, 0, none⟩) (Kd.S_far (p := ⟨gb103, 1, none⟩) (Kd.S_types (Kd.S_types HO107.out BK103.out (by decide)) BK104.out (by decide)) (fun _ hk => hk.1.2) (.string (a1_1.extract 0 ((ji4) : Int).toNat))) (fun _ hk => hk.2) (.slice Ao57 t105.length co57)) (fun _ hk => hk.2) (.slice Ao59 t108.length co59)) (fun _ h_ => h_.1)) (fun _ h_ => h_.1))) (Kd.R_base ho0) hb); have n1_ := qf (Kd.S_elder' (by (with_reducible repeat (first | apply Kd.S_alloc | apply Kd.S_drewN | apply Kd.S_drew)); exact (Kd.S_mono (Kd.S_mono (Kd.S_far (p := ⟨gb104, 1, none⟩) (Kd.S_far (p := ⟨gb104, 0, none⟩) (Kd.S_far (p := ⟨gb103, 1, none⟩) (Kd.S_types (Kd.S_types HO110.out BK103.out (by decide)) BK104.out (by decide)) (fun _ hk => hk.1.2) (.string (a1_1.extract 0 ((ji4) : Int).toNat))) (fun _ hk => hk.2) (.slice Ao57 t105.length co57)) (fun _ hk => hk.2) (.slice Ao59 t108.length co59)) (fun _ h_ => h_.1)) (fun _ h_ => h_.1))) (Kd.R_base ho0) hb); have n2_ := qf (Kd.R_lower ho0 (below_size (by repeat (first | (with_reducible first | exact HB.out | apply qa | apply qb | apply qc | refine qg ?_ GE103.out | refine qg ?_ GE104.out) | exact HB.out)))); have n3_ := qf (blk_below (g := gb103) (o := .cells #[.int .u64 a1_0, .string (a1_1.extract 0 ((ji4) : Int).toNat)] 46 (0, 0)) (by (with_reducible repeat (first | refine blk_drewN ?_ _ | refine blk_drew ?_ | refine qh ?_ _)); refine blk_far ?_ NB103_104.out _; (with_reducible repeat (first | refine blk_drewN ?_ _ | refine blk_drew ?_ | refine qh ?_ _)); refine blk_far ?_ NB103_104.out _; (with_reducible repeat (first | refine blk_drewN ?_ _ | refine blk_drew ?_ | refine qh ?_ _)); refine blk_put (cs := #[.int .u64 a1_0, .string a1_1]) ?_ 1 _ rfl; (with_reducible repeat (first | refine blk_drewN ?_ _ | refine blk_drew ?_ | refine qh ?_ _)); exact BK103.out) hb); have n4_ := qf (blk_below (g := gb104) (o := .cells #[.slice Ao57 t105.length co57, .slice Ao59 t108.length co59] 78 (0, 0)) (by (with_reducible repeat (first | refine blk_drewN ?_ _ | refine blk_drew ?_ | refine qh ?_ _)); refine blk_put (cs := #[.slice Ao57 t105.length co57, .slice A2_1 l2_1.length c2_1]) ?_ 1 _ rfl; (with_reducible repeat (first | refine blk_drewN ?_ _ | refine blk_drew ?_ | refine qh ?_ _)); refine blk_put (cs := #[.slice A2_0 l2_0.length c2_0, .slice A2_1 l2_1.length c2_1]) ?_ 0 _ rfl; (with_reducible repeat (first | refine blk_drewN ?_ _ | refine blk_drew ?_ | refine qh ?_ _)); refine blk_far ?_ NB104_103.out _; (with_reducible repeat (first | refine blk_drewN ?_ _ | refine blk_drew ?_ | refine qh ?_ _)); exact BK104.out) hb); have n5_ := qf (below_step (by repeat (first | (with_reducible first | exact HB.out | apply qa | apply qb | apply qc | refine qg ?_ GE103.out | refine qg ?_ GE104.out) | exact HB.out)) hb); clear HO107; clear HO110; clear BK103; clear BK104; clear HB; have HO107 := n0_; have HO110 := n1_; have HO113 := n2_; have BK103 := n3_; have BK104 := n4_; have HB := n5_; clear n0_ n1_ n2_ n3_ n4_ n5_; (try clear hb); (try clear hb2); (try clear hk); (try clear hi); (try clear ho0); have hcz65_0 : w64.cell? ⟨gb103, 0, none⟩ = some (.int .u64 a1_0) := (blk_cell BK103.out 0).trans rfl; have hcz65_1 : w64.cell? ⟨gb103, 1, none⟩ = some (.string (a1_1.extract 0 ((ji4) : Int).toNat)) := (blk_cell BK103.out 1).trans rfl; have hfz65_0 := blk_frozen BK103.out 0; have hfz65_1 := blk_frozen BK103.out 1; have hcz66_0 : w64.cell? ⟨gb104, 0, none⟩ = some (.slice Ao57 t105.length co57) := (blk_cell BK104.out 0).trans rfl; have hcz66_1 : w64.cell? ⟨gb104, 1, none⟩ = some (.slice Ao59 t108.length co59) := (blk_cell BK104.out 1).trans rfl; have hfz66_0 := blk_frozen BK104.out 0; have hfz66_1 := blk_frozen BK104.out 1) | ((with_reducible refine gate_callee (f := 54) rfl ?_); refine goesL_ (some 33) rfl rfl Tryd.func54 (by kernel_rfl) rfl #[.string a0, .agg #[.int .u64 a1_0, .string (a1_1.extract 0 ((ji4) : Int).toNat)], .agg #[.slice Ao57 t105.length co57, .slice Ao59 t108.length co59]] rfl (by (try simp only [List.map_toArray, List.map_cons, List.map_nil]); first | done | (simp only [hji4]; rfl) | rfl | (simp only [List.length_drop, qw]; rfl)) ?_; (with_reducible refine (proof_Check.calls a0 a1_0 (a1_1.extract 0 ((ji4) : Int).toNat) _ _ t105 _ _ t108 t115 t116 _ ?side1 ?side2 ?side3 ?side4 A9.out).mono ?_); (case side1 => repeat (first | exact (Kd.S_reads' HO107.out).2.2 | (with_reducible refine Kd.C_alloc ?_ _) | (with_reducible refine Kd.C_drewN ?_ _) | (with_reducible refine Kd.C_drew ?_))); (case side2 => exact (Kd.S_reads' HO107.out).2.1); (case side3 => repeat (first | exact (Kd.S_reads' HO110.out).2.2 | (with_reducible refine Kd.C_alloc ?_ _) | (with_reducible refine Kd.C_drewN ?_ _) | (with_reducible refine Kd.C_drew ?_))); (case side4 => exact (Kd.S_reads' HO110.out).2.1); rintro e w67 ⟨rfl, hb⟩; refine ⟨_, rfl, ?_⟩; have n0_ := qf (Kd.S_below (by (with_reducible repeat (first | apply Kd.S_alloc | apply Kd.S_drewN | apply Kd.S_drew)); exact HO107.out) hb); have n1_ := qf (Kd.S_below (by (with_reducible repeat (first | apply Kd.S_alloc | apply Kd.S_drewN | apply Kd.S_drew)); exact HO110.out) hb); have n2_ := qf (Kd.R_below (by (with_reducible repeat (first | apply Kd.R_alloc | apply Kd.R_drewN | apply Kd.R_drew)); exact HO113.out) hb); have n3_ := qf (blk_below (g := gb103) (o := .cells #[.int .u64 a1_0, .string (a1_1.extract 0 ((ji4) : Int).toNat)] 46 (0, 0)) (by (with_reducible repeat (first | refine blk_drewN ?_ _ | refine blk_drew ?_ | refine qh ?_ _)); exact BK103.out) hb); have n4_ := qf (blk_below (g := gb104) (o := .cells #[.slice Ao57 t105.length co57, .slice Ao59 t108.length co59] 78 (0, 0)) (by (with_reducible repeat (first | refine blk_drewN ?_ _ | refine blk_drew ?_ | refine qh ?_ _)); exact BK104.out) hb); have n5_ := qf (below_step (by repeat (first | (with_reducible first | exact HB.out | apply qa | apply qb | apply qc | refine qg ?_ GE103.out | refine qg ?_ GE104.out) | exact HB.out)) hb); clear HO107; clear HO110; clear HO113; clear BK103; clear BK104; clear HB; have HO107 := n0_; have HO110 := n1_; have HO113 := n2_; have BK103 := n3_; have BK104 := n4_; have HB := n5_; clear n0_ n1_ n2_ n3_ n4_ n5_; (try clear hb); (try clear hb2); (try clear hk); (try clear hi); have hcz68_0 : w67.cell? ⟨gb103, 0, none⟩ = some (.int .u64 a1_0) := (blk_cell BK103.out 0).trans rfl; have hcz68_1 : w67.cell? ⟨gb103, 1, none⟩ = some (.string (a1_1.extract 0 ((ji4) : Int).toNat)) := (blk_cell BK103.out 1).trans rfl; have hfz68_0 := blk_frozen BK103.out 0; have hfz68_1 := blk_frozen BK103.out 1; have hcz69_0 : w67.cell? ⟨gb104, 0, none⟩ = some (.slice Ao57 t105.length co57) := (blk_cell BK104.out 0).trans rfl; have hcz69_1 : w67.cell? ⟨gb104, 1, none⟩ = some (.slice Ao59 t108.length co59) := (blk_cell BK104.out 1).trans rfl; have hfz69_0 := blk_frozen BK104.out 0; have hfz69_1 := blk_frozen BK104.out 1) | ((with_reducible refine gate_callee (f := 55) rfl ?_); refine goesL_ (some 38) rfl rfl Tryd.func55 (by kernel_rfl) rfl #[.agg #[.int .u64 a1_0, .string (a1_1.extract 0 ((ji4) : Int).toNat)], .agg #[.slice Ao57 t105.length co57, .slice Ao59 t108.length co59]] rfl (by (try simp only [List.map_toArray, List.map_cons, List.map_nil]); first | done | (simp only [hji4]; rfl) | rfl | (simp only [List.length_drop, qw]; rfl)) ?_; (with_reducible refine (saltusref18_Why.calls a1_0 (a1_1.extract 0 ((ji4) : Int).toNat) _ _ t105 _ _ t108 t117 _ ?side1 ?side2 ?side3 ?side4 A10.out).mono ?_); (case side1 => repeat (first | exact (Kd.S_reads' HO107.out).2.2 | (with_reducible refine Kd.C_alloc ?_ _) | (with_reducible refine Kd.C_drewN ?_ _) | (with_reducible refine Kd.C_drew ?_))); (case side2 => exact (Kd.S_reads' HO107.out).2.1); (case side3 => repeat (first | exact (Kd.S_reads' HO110.out).2.2 | (with_reducible refine Kd.C_alloc ?_ _) | (with_reducible refine Kd.C_drewN ?_ _) | (with_reducible refine Kd.C_drew ?_))); (case side4 => exact (Kd.S_reads' HO110.out).2.1); rintro e w70 ⟨rfl, hb⟩; refine ⟨_, rfl, ?_⟩; have n0_ := qf (Kd.S_below (by (with_reducible repeat (first | apply Kd.S_alloc | apply Kd.S_drewN | apply Kd.S_drew)); exact HO107.out) hb); have n1_ := qf (Kd.S_below (by (with_reducible repeat (first | apply Kd.S_alloc | apply Kd.S_drewN | apply Kd.S_drew)); exact HO110.out) hb); have n2_ := qf (Kd.R_below (by (with_reducible repeat (first | apply Kd.R_alloc | apply Kd.R_drewN | apply Kd.R_drew)); exact HO113.out) hb); have n3_ := qf (blk_below (g := gb103) (o := .cells #[.int .u64 a1_0, .string (a1_1.extract 0 ((ji4) : Int).toNat)] 46 (0, 0)) (by (with_reducible repeat (first | refine blk_drewN ?_ _ | refine blk_drew ?_ | refine qh ?_ _)); exact BK103.out) hb); have n4_ := qf (blk_below (g := gb104) (o := .cells #[.slice Ao57 t105.length co57, .slice Ao59 t108.length co59] 78 (0, 0)) (by (with_reducible repeat (first | refine blk_drewN ?_ _ | refine blk_drew ?_ | refine qh ?_ _)); exact BK104.out) hb); have n5_ := qf (below_step (by repeat (first | (with_reducible first | exact HB.out | apply qa | apply qb | apply qc | refine qg ?_ GE103.out | refine qg ?_ GE104.out) | exact HB.out)) hb); clear HO107; clear HO110; clear HO113; clear BK103; clear BK104; clear HB; have HO107 := n0_; have HO110 := n1_; have HO113 := n2_; have BK103 := n3_; have BK104 := n4_; have HB := n5_; clear n0_ n1_ n2_ n3_ n4_ n5_; (try clear hb); (try clear hb2); (try clear hk); (try clear hi)) | ((with_reducible refine gate_callee (f := 56) rfl ?_); refine goesL_ (some 41) rfl rfl Tryd.func56 (by kernel_rfl) rfl #[] rfl (by (try simp only [List.map_toArray, List.map_cons, List.map_nil]); first | done | rfl | (simp only [List.length_drop, qw]; rfl)) ?_; (with_reducible refine (saltuslaw18_alive.calls  true _ A47.out (Tower.tab_below HT.out (by repeat (first | (with_reducible first | exact HB.out | apply qa | apply qb | apply qc | refine qg ?_ GE103.out | refine qg ?_ GE104.out) | exact HB.out)) (Nat.le_refl _))).mono ?_); rintro e w71 ⟨rfl, hb⟩; refine ⟨_, rfl, ?_⟩; have n0_ := qf (Kd.S_below (by (with_reducible repeat (first | apply Kd.S_alloc | apply Kd.S_drewN | apply Kd.S_drew)); exact HO107.out) hb); have n1_ := qf (Kd.S_below (by (with_reducible repeat (first | apply Kd.S_alloc | apply Kd.S_drewN | apply Kd.S_drew)); exact HO110.out) hb); have n2_ := qf (Kd.R_below (by (with_reducible repeat (first | apply Kd.R_alloc | apply Kd.R_drewN | apply Kd.R_drew)); exact HO113.out) hb); have n3_ := qf (blk_below (g := gb103) (o := .cells #[.int .u64 a1_0, .string (a1_1.extract 0 ((ji4) : Int).toNat)] 46 (0, 0)) (by (with_reducible repeat (first | refine blk_drewN ?_ _ | refine blk_drew ?_ | refine qh ?_ _)); exact BK103.out) hb); have n4_ := qf (blk_below (g := gb104) (o := .cells #[.slice Ao57 t105.length co57, .slice Ao59 t108.length co59] 78 (0, 0)) (by (with_reducible repeat (first | refine blk_drewN ?_ _ | refine blk_drew ?_ | refine qh ?_ _)); exact BK104.out) hb); have n5_ := qf (below_step (by repeat (first | (with_reducible first | exact HB.out | apply qa | apply qb | apply qc | refine qg ?_ GE103.out | refine qg ?_ GE104.out) | exact HB.out)) hb); clear HO107; clear HO110; clear HO113; clear BK103; clear BK104; clear HB; have HO107 := n0_; have HO110 := n1_; have HO113 := n2_; have BK103 := n3_; have BK104 := n4_; have HB := n5_; clear n0_ n1_ n2_ n3_ n4_ n5_; (try clear hb); (try clear hb2); (try clear hk); (try clear hi); obtain ⟨Ao72, co72, eo72⟩ := Kd.R_slice HO113.out; subst eo72))
        go_ret
        exact ⟨by first | rfl | (simp [errW_none, errW_some] <;> rfl) | (simp only [← hji4]; first | rfl | (simp [errW_none, errW_some] <;> rfl)) | (simp [*, errW_none, errW_some] <;> rfl), by repeat (first | (with_reducible first | exact HB.out | apply qa | apply qb | apply qc | refine qg ?_ GE103.out | refine qg ?_ GE104.out) | exact HB.out)⟩
       ·rw [if_neg c51] at H
        have c51b0 : ((t111.length : Int) == 0) = false := beq_eq_false_iff_ne.mpr c51
        have c51b1 : ((t111.length : Int) != 0) = true := bne_iff_ne.mpr c51
        have c51b2 : ¬ (t111 = []) := fun h_ => c51 (by rw [h_]; rfl)
        exact absurd ((Option.some.inj H).trans hr.out) (by decide)
      ·rw [if_neg c50] at H
       have c50b0 : (t116 == t117) = false := beq_eq_false_iff_ne.mpr c50
       have c50b1 : (t116 != t117) = true := bne_iff_ne.mpr c50
       exact absurd ((Option.some.inj H).trans hr.out) (by decide)
     ·rw [if_neg c49] at H
      have c49b0 : (t114 == t117) = false := beq_eq_false_iff_ne.mpr c49
      have c49b1 : (t114 != t117) = true := bne_iff_ne.mpr c49
      exact absurd ((Option.some.inj H).trans hr.out) (by decide)
    ·replace c48 := Bool.eq_false_iff.mpr c48
     subst c48
     have H1 : (some false) = some r := by rw [if_neg (show ¬ (false = true) by decide)] at H; exact H
     clear H
     have H := H1
     clear H1
     exact absurd ((Option.some.inj H).trans hr.out) (by decide)
  ·rw [if_neg c6] at H
   exact absurd H (by simp)
 ·rw [if_neg c5] at H
  exact absurd H (by simp)
end Go.Proofs.YtolbhliepkcihaaDoor.QPC
end
section
namespace Go.Proofs.YtolbhliepkcihaaDoor.QPC
open Go.RowKit Kinds YtolbhliepkcihaaDoorW.PrintWords YtolbhliepkcihaaDoorW.PrintLast YtolbhliepkcihaaDoorW.PrintMore
attribute [local go_sem] max2_int min2_int max_two min_two max_three min_three max_four min_four   -- for this text's walks alone
set_option linter.unusedVariables false
set_option linter.unusedSimpArgs false
theorem eqA46 (d : Nat) (w : World) (x0 y0 : Int) (x1 y1 : ByteArray) :
  (Op.equalIn (d + 2) 46 (.agg #[.int .u64 x0, .string x1]) (.agg #[.int .u64 y0, .string y1])).run Tryd.prog w = .ok (x0 == y0 && (x1.toList == y1.toList)) w := by
 refine eqA_of Tryd.underlying46 (by kernel_rfl) ?_
 refine eqf_cons (by rfl) (by go_simp; rfl) (by go_simp; rfl) (by go_simp) ?_
 exact eqf_last (by rfl) (by go_simp; rfl) (by go_simp; rfl) (by go_simp)
end Go.Proofs.YtolbhliepkcihaaDoor.QPC
end
section
namespace Go.Proofs.YtolbhliepkcihaaDoor.QPC
open Go.RowKit Kinds YtolbhliepkcihaaDoorW.PrintWords YtolbhliepkcihaaDoorW.PrintLast YtolbhliepkcihaaDoorW.PrintMore
attribute [local go_sem] max2_int min2_int max_two min_two max_three min_three max_four min_four   -- for this text's walks alone
set_option linter.unusedVariables false
set_option linter.unusedSimpArgs false
attribute [local go_sem high] eqA46
/-! ### saltuslaw18_ProofBinds: function 15 -/
end Go.Proofs.YtolbhliepkcihaaDoor.QPC
end
section
namespace Go.Proofs.YtolbhliepkcihaaDoor.ProofLaw
open Go.RowKit QPC YtolbhliepkcihaaDoorW.PrintWords Kinds Build Lab Sha Mac Codec Tower SkipOps SkipPure ProofPure
theorem same_l0 (l : List ByteArray) (hn : l.length ≤ 1000000) (d : Nat) : ∀ i, i + d = l.length → Ev (fun k => saltusref04_Same.l0 k l l (l.length : Int) (i : Int)) true := by
 induction d with
 | zero =>
  intro i hi
  refine Ev.step (fun k => ?_) (Ev.now _)
  rw [saltusref04_Same.l0, if_neg (by omega)]
 | succ d ih =>
  intro i hi
  refine Ev.step (fun k => ?_) (ih (i + 1) (by omega))
  rw [saltusref04_Same.l0, if_pos (by omega), if_pos (by omega), if_pos (by omega), if_pos (by omega), if_pos rfl, SkipPure.w_succ i l.length (by omega) (by omega)]
theorem same_refl (l : List ByteArray) (hn : l.length ≤ 1000000) : Ev (fun k => saltusref04_Same.f k l l) true := by
 refine Ev.congr (fun k => ?_) (same_l0 l hn l.length 0 (by omega))
 unfold saltusref04_Same.f
 rw [if_pos rfl]
 rfl
theorem domP_mk {a0 : Int} {b a : ProofPure.Rows} (h0 : 0 ≤ a0) (h1 : a0 < 18446744073709551616) (hb : b.length ≤ 1000) (ha : a.length ≤ 1000) : domP a0 b a = true := by
 unfold domP
 rw [qj h0, qj h1, qj hb, qj ha]
 rfl
theorem checks_ev (a0 : ByteArray) (a1 : Int) (s : ByteArray) (b a : ProofPure.Rows) (h0 : 0 ≤ a1) (h1 : a1 < 18446744073709551616) : Ev (fun k => saltuslaw18_ProofChecks.f k a0 a1 s b a) true := by
 have e70 := mn_nat s.size 70
 rw [show ((70 : Nat) : Int) = 70 from rfl] at e70
 have hmin : min s.size 70 ≤ s.size := Nat.min_le_left _ _
 have hb := cutR_len b
 have ha := cutR_len a
 obtain ⟨v, hv⟩ : ∃ v, s.extract 0 (min s.size 70) = v := ⟨_, rfl⟩
 have hd : domP a1 (cutR b) (cutR a) = true := domP_mk h0 h1 (by omega) (by omega)
 have eF : saltuslaw18_few.f b a = some (cutR b, cutR a) := rfl
 generalize cutR b = B at *
 generalize cutR a = A at *
 have eS : proof_Steps.f a1 v B A = some (stepsR ⟨a1, v⟩ B A) := if_pos hd
 have eC : proof_Check.f a0 a1 v B A = some (if mayN v B A = 0 then ((sumS (stepN ⟨a1, v⟩ B A 8)).toList == a0.toList, 0) else (false, mayN v B A)) := if_pos hd
 have eW : saltusref18_Why.f a1 v B A = some (mayN v B A) := if_pos hd
 have eA : saltuslaw18_alive.f = some true := rfl
 by_cases g : mayN v B A = 0
 rotate_left
 ·refine Ev.congr (fun k => ?_) (Ev.now true)
  unfold saltuslaw18_ProofChecks.f
  rw [e70, if_pos (by omega), if_pos (by omega), eF, qv, Int.toNat_natCast, hv, eS, qv, eC, qv, eW, qv, if_neg g, eA, qv, if_pos rfl]
  unfold stepsR
  simp only [if_neg g]
  rfl
 have eR : saltusref18_Steps.f a1 v B A = some (stepsL ⟨a1, v⟩ B A) := if_pos ⟨hd, g⟩
 have e9 : (stepsL ⟨a1, v⟩ B A).length = 9 := by unfold stepsL; simp
 obtain ⟨m1, m2, m3⟩ := may_ok g
 have e8 : rdOf ByteArray.empty (stepsL ⟨a1, v⟩ B A) 8 = stepN ⟨a1, v⟩ B A 8 := steps_rd ⟨a1, v⟩ B A 8 9 (by decide)
 have z8 := stepN_size ⟨a1, v⟩ B A m1 m2 m3 8 (by decide)
 have eU : saltusref03_Sum.f (stepN ⟨a1, v⟩ B A 8) = some (sumS (stepN ⟨a1, v⟩ B A 8)) := if_pos (by show _ ≤ 1099511627776; omega)
 have h := same_refl (stepsL ⟨a1, v⟩ B A) (by omega)
 have hT : Ev (fun k => (saltusref04_Same.f k (stepsL ⟨a1, v⟩ B A) (stepsL ⟨a1, v⟩ B A)).bind fun t123 => (if t123 = true then some true else some false)) true := Ev.bind h (by rw [if_pos rfl]; exact Ev.now _)
 refine Ev.congr (fun k => ?_) hT
 unfold saltuslaw18_ProofChecks.f
 rw [e70, if_pos (by omega), if_pos (by omega), eF, qv, Int.toNat_natCast, hv, eS, qv, eC, qv, eW, qv, if_pos g, eR, qv, eA, qv, if_pos rfl]
 unfold stepsR
 simp only [if_pos g]
 rw [if_pos trivial, if_pos trivial, e9, e8, eU]
 cases saltusref04_Same.f k (stepsL ⟨a1, v⟩ B A) (stepsL ⟨a1, v⟩ B A) with
 | none => rfl
 | some t =>
  simp only [qv, beq_self_eq_true]
  cases t
  ·rfl
  ·rfl
theorem u64_lt {a : Int} (h : (Lit.int .u64 a).wf = true) : 0 ≤ a ∧ a < 18446744073709551616 := by
 have : 0 ≤ a ∧ a ≤ 18446744073709551615 := by simpa [Lit.wf, IntKind.min, IntKind.max, IntKind.signed, IntKind.bits] using h
 omega
theorem proofChecks_row (a0 : ByteArray) (a1 : Int) (s : ByteArray) (A2 : Option Addr) (c2 : Nat) (l2 : List (List ByteArray)) (A3 : Option Addr) (c3 : Nat) (l3 : List (List ByteArray)) (w : World) (_ : a0.size ≤ 140737488351232) (h1 : (Lit.int .u64 a1).wf = true) (_ : s.size ≤ maxLen)
  (hr2 : Kd.C (Kd.slice 9 Kd.string) w A2 l2.length l2) (hc2 : l2.length ≤ c2) (hr3 : Kd.C (Kd.slice 9 Kd.string) w A3 l3.length l3) (hc3 : l3.length ≤ c3) (hT0 : TabW w) :
  Calls Tryd.prog 13 #[.string a0, .agg #[.int .u64 a1, .string s], .agg #[.slice A2 l2.length c2, .slice A3 l3.length c3]] w fun e w' => e = .returned (.bool true) ∧ Below w.heap.size w w' := by
 have hb := u64_lt h1
 obtain ⟨K, h⟩ := checks_ev a0 a1 s l2 l3 hb.1 hb.2
 exact saltuslaw18_ProofChecks.calls K a0 a1 s A2 c2 l2 A3 c3 l3 true w hr2 hc2 hr3 hc3 ⟨rfl⟩ (h K (Nat.le_refl _)) hT0
/-! ### ProofBinds -/
end Go.Proofs.YtolbhliepkcihaaDoor.ProofLaw
end
