/- Joined by a program of this session (wip/pack.py) for this claim: ProveRnd, Prove1, Alive18, Twice, ProofStub3, QPCx0, QPCx2, QPCx1, QPCx3, PureProofs. -/
import Derived.Test.YtolbhliepkcihaaDoorKProofBindsb
import Derived.Maps.AppendAt
import Derived.Deep.CutRange
import Derived.Deep.DeepCutAuto
import Derived.Test.YtolbhliepkcihaaDoorProg
import Derived.Below
import Derived.Deep.Draws
import Derived.Deep.AppendLies
import Derived.OwnWalk
import Derived.Laws.BytesArg
import Derived.Laws.MakeOwn
import Derived.Laws.OwnMore
import Derived.Deep.OwnRows
import Derived.Tactics
import Derived.Lib.ConvBytes
import Derived.Laws.Slices
import Derived.WalkKit
import Derived.KernelRfl
import Derived.RowKit3
import Derived.Deep.LoopGhost
import Derived.Deep.QuietTactic
import Derived.BigQuiet
import Derived.WideLaws
import Derived.Deep.CutBlock
import Derived.Deep.RegionHeld3
import Derived.Laws.Rows
import Derived.Lib.AppendStr
import Derived.ArgAppend
import Derived.Laws.IdiomCopy
import Derived.OrdersHeld
import Derived.Laws.BitsLemmas
import Derived.RowKit
import Derived.Test.YtolbhliepkcihaaDoorBaseH
import Derived.Test.YtolbhliepkcihaaDoorPWa
section
namespace Go.Proofs.YtolbhliepkcihaaDoor.Lab
open Go.RowKit YtolbhliepkcihaaDoorW.PrintWords YtolbhliepkcihaaDoorW.PrintLast Kinds Build Sha Mac Codec Tower Mem ProofPure
/-! ### in plain Lean -/
theorem gD_hts (j : Nat) (es : List E) (k : Nat) : gD (pr j es) k = (hts j es).getD k 0 := by
  rw [← pr_fst]; unfold gD; rw [List.getD_eq_getElem?_getD, List.getD_eq_getElem?_getD, List.getElem?_map]
  cases (pr j es)[k]? <;> rfl
theorem from_stop (t : Nat) (u : List Z) (f : Nat) (h : t < gD u f) : fromN t u f = f := by
  cases f with
  | zero => rfl
  | succ f => unfold gD at h; rw [fromN, if_pos h]
theorem from_go (t : Nat) (u : List Z) (f : Nat) (h : gD u (f + 1) ≤ t) : fromN t u (f + 1) = fromN t u f := by unfold gD at h; rw [fromN, if_neg (Nat.not_lt.2 h)]
theorem to_stop (t : Nat) (u : List Z) (d i : Nat) (h : d = 0 ∨ t < gD u i) : toN t u d i = i := by
  cases d with
  | zero => rfl
  | succ d =>
    rcases h with h | h
    · cases h
    · unfold gD at h; rw [toN, if_pos h]
theorem to_go (t : Nat) (u : List Z) (d i : Nat) (h : gD u i ≤ t) : toN t u (d + 1) i = toN t u d (i + 1) := by unfold gD at h; rw [toN, if_neg (Nat.not_lt.2 h)]
theorem htI_up2 (m : Nat) (s : List E) : (htI m s).filter (fun x => !decide (x ≤ (m : Int) + 1)) = htI (m + 1) s := htI_up m s
theorem cnt_hts (j : Nat) (es : List E) (f : Nat) : (((htI j es).take f).filter (fun x => !decide (x ≤ (j : Int) + 1))).length = cnt (j + 1) ((pr j es).take f) := by
  unfold htI cnt; rw [← pr_fst, List.map_map, ← List.map_take, List.filter_map, List.length_map]
  congr 1
  congr 1
  funext z
  show (!decide (((z.1 : Nat) : Int) ≤ (j : Int) + 1)) = decide (j + 1 < z.1)
  by_cases c : j + 1 < z.1
  · rw [qj c, decide_eq_false (by omega)]; rfl
  · rw [decide_eq_false c, qj (by omega)]; rfl
/-! ### rows and blocks -/
theorem own_form2 {w : World} {base : Nat} {e : TypeId} {size : Nat} {v : Value} {N : Nat} {xs : List Value} (h : w.ownsRow base e size v N xs) (h0 : v ≠ .slice none 0 0) : ∃ g cap, v = .slice (some ⟨g, 0, none⟩) N cap ∧ N ≤ cap := by
  rcases h.2 with ⟨e, _⟩ | ⟨g, cap, cur, rfl, _, _, hc, _⟩
  · exact absurd e h0
  · exact ⟨g, cap, rfl, hc⟩
theorem cut_w (g n c f k : Nat) (hfk : f ≤ k) (hk : k ≤ n) (hc : n ≤ c) : ∀ W : World, (Instr.slice 49 (.slice (some ⟨g, 0, none⟩) n c) (some (.int .i64 (f : Int))) (some (.int .i64 (k : Int))) none).run Tryd.prog W = .ok (segW g c (f, k)) W := by
  obtain ⟨i0, hi, _, hs, _⟩ := info_parts str_info; intro W; rw [cut_mid (P := Tryd.prog) 49 9 .i64 .i64 Tryd.underlying49 hi 1 hs (some ⟨g, 0, none⟩) n c f k (by omega) (by omega) (by omega) hc W, Int.toNat_natCast, Int.toNat_natCast]; unfold segW
  by_cases h : c = f
  · rw [if_pos h, if_pos h]
  · rw [if_neg h, if_neg h]; simp only [Option.map_some, add_at]
theorem ne_sym {a b : Option Nat} (h : a = none ∨ a ≠ b) : b = none ∨ b ≠ a := by
  cases b with
  | none => exact .inl rfl
  | some x => exact .inr (fun e => by
      rcases h with h | h
      · rw [h] at e; cases e
      · exact h e.symm)
theorem ne_app {W : World} {base : Nat} {e : TypeId} {size n : Nat} {v va v1 : Value} {xs : List Value} (h : v.ownBlock = none ∨ v.ownBlock ≠ va.ownBlock) (hat : v1.ownBlock = v.ownBlock ∨ v1.ownBlock = some W.heap.size) (hva : W.ownsRow base e size va n xs) : v1.ownBlock = none ∨ v1.ownBlock ≠ va.ownBlock := by
  rcases hat with hat | hat
  · rw [hat]; exact h
  · refine .inr (fun q => ?_); rw [hat] at q; have := (hva.lt _ q.symm).2
    omega
structure PT (b0 : Nat) (w0 : World) (g gp : Nat) (es : List E) (a0 j : Nat) (hv : Value) (nh : Nat) (hs : List Value) (vb : Value) (nb : Nat) (bs : List Value) (va : Value) (na : Nat) (xs : List Value) (pb pa : Value) (ob ox : List Value) (W : World) : Prop where
  rh : W.ownsRow b0 3 1 hv nh hs
  rb : W.ownsRow b0 49 1 vb nb bs
  ra : W.ownsRow b0 49 1 va na xs
  gp_ : Blk W gp 78 #[pb, pa]
  ho : Outs b0 es a0 j ob ox W
  n : Blk W g 78 #[.slice none 0 0, .slice none 0 0]
  hb : Below b0 w0 W
  hz : b0 ≤ W.heap.size
  hg : b0 ≤ gp
theorem PT.below {b0 : Nat} {w0 : World} {g gp : Nat} {es : List E} {a0 j : Nat} {hv : Value} {nh : Nat} {hs : List Value} {vb : Value} {nb : Nat} {bs : List Value} {va : Value} {na : Nat} {xs : List Value} {pb pa : Value} {ob ox : List Value} {W W' : World}
    (p : PT b0 w0 g gp es a0 j hv nh hs vb nb bs va na xs pb pa ob ox W) (h : Below W.heap.size W W') : PT b0 w0 g gp es a0 j hv nh hs vb nb bs va na xs pb pa ob ox W' :=
  ⟨own_bel p.rh h, own_bel p.rb h, own_bel p.ra h, blk_bel p.gp_ h, p.ho.keep (fun _ _ _ q => own_bel q h), blk_bel p.n h, p.hb.trans (h.mono p.hz), Nat.le_trans p.hz h.size, p.hg⟩
theorem PT.appB {b0 : Nat} {w0 : World} {g gp : Nat} {es : List E} {a0 j : Nat} {hv : Value} {nh : Nat} {hs : List Value} {vb : Value} {nb : Nat} {bs : List Value} {va : Value} {na : Nat} {xs : List Value} {pb pa : Value} {ob ox : List Value} {W W' : World} {v1 : Value} {nb1 : Nat} {bs1 : List Value}
    (p : PT b0 w0 g gp es a0 j hv nh hs vb nb bs va na xs pb pa ob ox W) (hne : vb.ownBlock = none ∨ vb.ownBlock ≠ va.ownBlock) (ho : W'.ownsRow b0 49 1 v1 nb1 bs1) (hg : W.grownBy W' vb.ownBlock) :
    PT b0 w0 g gp es a0 j hv nh hs v1 nb1 bs1 va na xs pb pa ob ox W' :=
  ⟨p.rh.kept hg (own_ne2 p.rh p.rb (by decide)), ho, p.ra.kept hg (ne_sym hne), blk_grown p.gp_ hg (own_ne p.rb p.gp_ (by decide)), p.ho.keep (fun _ _ _ q => q.kept hg (own_ne2 q p.rb (by decide))),
   blk_grown p.n hg (own_ne p.rb p.n (by decide)), p.hb.grown hg p.hz (fun _ e => own_base p.rb _ e), Nat.le_trans p.hz hg.size, p.hg⟩
theorem PT.appA {b0 : Nat} {w0 : World} {g gp : Nat} {es : List E} {a0 j : Nat} {hv : Value} {nh : Nat} {hs : List Value} {vb : Value} {nb : Nat} {bs : List Value} {va : Value} {na : Nat} {xs : List Value} {pb pa : Value} {ob ox : List Value} {W W' : World} {v1 : Value} {na1 : Nat} {xs1 : List Value}
    (p : PT b0 w0 g gp es a0 j hv nh hs vb nb bs va na xs pb pa ob ox W) (hne : vb.ownBlock = none ∨ vb.ownBlock ≠ va.ownBlock) (ho : W'.ownsRow b0 49 1 v1 na1 xs1) (hg : W.grownBy W' va.ownBlock) :
    PT b0 w0 g gp es a0 j hv nh hs vb nb bs v1 na1 xs1 pb pa ob ox W' :=
  ⟨p.rh.kept hg (own_ne2 p.rh p.ra (by decide)), p.rb.kept hg hne, ho, blk_grown p.gp_ hg (own_ne p.ra p.gp_ (by decide)), p.ho.keep (fun _ _ _ q => q.kept hg (own_ne2 q p.ra (by decide))),
   blk_grown p.n hg (own_ne p.ra p.n (by decide)), p.hb.grown hg p.hz (fun _ e => own_base p.ra _ e), Nat.le_trans p.hz hg.size, p.hg⟩
theorem PT.delH {b0 : Nat} {w0 : World} {g gp : Nat} {es : List E} {a0 j : Nat} {hv : Value} {nh : Nat} {hs : List Value} {vb : Value} {nb : Nat} {bs : List Value} {va : Value} {na : Nat} {xs : List Value} {pb pa : Value} {ob ox : List Value} {W W' : World} {v1 : Value} {nh1 : Nat} {hs1 : List Value}
    (p : PT b0 w0 g gp es a0 j hv nh hs vb nb bs va na xs pb pa ob ox W) (ho : W'.ownsRow b0 3 1 v1 nh1 hs1) (hg : W.grownBy W' hv.ownBlock) :
    PT b0 w0 g gp es a0 j v1 nh1 hs1 vb nb bs va na xs pb pa ob ox W' :=
  ⟨ho, p.rb.kept hg (own_ne2 p.rb p.rh (by decide)), p.ra.kept hg (own_ne2 p.ra p.rh (by decide)), blk_grown p.gp_ hg (own_ne p.rh p.gp_ (by decide)), p.ho.keep (fun _ _ _ q => q.kept hg (own_ne2 q p.rh (by decide))),
   blk_grown p.n hg (own_ne p.rh p.n (by decide)), p.hb.grown hg p.hz (fun _ e => own_base p.rh _ e), Nat.le_trans p.hz hg.size, p.hg⟩
theorem PT.outs {b0 : Nat} {w0 : World} {g gp : Nat} {es : List E} {a0 j : Nat} {hv : Value} {nh : Nat} {hs : List Value} {vb : Value} {nb : Nat} {bs : List Value} {va : Value} {na : Nat} {xs : List Value} {pb pa : Value} {ob ox : List Value} {W : World} {j1 : Nat} {ob1 ox1 : List Value}
    (p : PT b0 w0 g gp es a0 j hv nh hs vb nb bs va na xs pb pa ob ox W) (h : Outs b0 es a0 j1 ob1 ox1 W) : PT b0 w0 g gp es a0 j1 hv nh hs vb nb bs va na xs pb pa ob1 ox1 W :=
  ⟨p.rh, p.rb, p.ra, p.gp_, h, p.n, p.hb, p.hz, p.hg⟩
theorem PT.store {b0 : Nat} {w0 : World} {g gp : Nat} {es : List E} {a0 j : Nat} {hv : Value} {nh : Nat} {hs : List Value} {vb : Value} {nb : Nat} {bs : List Value} {va : Value} {na : Nat} {xs : List Value} {pb pa : Value} {ob ox : List Value} {W : World}
    (p : PT b0 w0 g gp es a0 j hv nh hs vb nb bs va na xs pb pa ob ox W) (hne : g ≠ gp) (u1 u2 : Value) :
    PT b0 w0 g gp es a0 j hv nh hs vb nb bs va na xs u1 u2 ob ox ((W.setCell ⟨gp, 0, none⟩ u1).setCell ⟨gp, 1, none⟩ u2) :=
  ⟨(p.rh.kept (set_grown_at W gp 0 u1) (.inr (own_ne p.rh p.gp_ (by decide)))).kept (set_grown_at _ gp 1 u2) (.inr (own_ne p.rh p.gp_ (by decide))),
   (p.rb.kept (set_grown_at W gp 0 u1) (.inr (own_ne p.rb p.gp_ (by decide)))).kept (set_grown_at _ gp 1 u2) (.inr (own_ne p.rb p.gp_ (by decide))),
   (p.ra.kept (set_grown_at W gp 0 u1) (.inr (own_ne p.ra p.gp_ (by decide)))).kept (set_grown_at _ gp 1 u2) (.inr (own_ne p.ra p.gp_ (by decide))),
   (p.gp_.set_ 0 u1).set_ 1 u2,
   p.ho.keep (fun _ _ _ q => (q.kept (set_grown_at W gp 0 u1) (.inr (own_ne q p.gp_ (by decide)))).kept (set_grown_at _ gp 1 u2) (.inr (own_ne q p.gp_ (by decide)))),
   blk_grown (blk_grown p.n (set_grown_at W gp 0 u1) (fun e => hne (Option.some.inj e).symm)) (set_grown_at _ gp 1 u2) (fun e => hne (Option.some.inj e).symm),
   (p.hb.setCell (p := ⟨gp, 0, none⟩) p.hg u1).setCell (p := ⟨gp, 1, none⟩) p.hg u2,
   by have := p.hz; simpa using this, p.hg⟩
/-! ### steps -/
theorem step_own_at {P : Program} {ops : Array Oper} {o : Oper} {a : Act} {w : World} {K : Act → World → Prop} {Q : Exit → Act → World → Prop} {E : Prop}
    (hg : o.guard = none) (s x : Operand) (t : TypeId) (hop : o.op = Op.call { callee := Callee.builtin Builtin.append, args := #[s, x], argTypes := #[t, t] })
    (base : Nat) (e : TypeId) (i : TypeInfo) (z : Value) (size bytes : Nat) (h1 : P.underlying t = some (.slice e)) (h2 : P.info? e = some i) (h3 : i.zero = some z) (h4 : i.size = size) (h5 : i.bytes = bytes) (h6 : z.cells.size = size) (h7 : 0 < size)
    (v : Value) (n : Nat) (xs : List Value) (hs : a.eval s = v) (hown : w.ownsRow base e size v n xs)
    (ad : Addr) (m c : Nat) (news : List Value) (hx : a.eval x = .slice (some ad) m c) (hn : news.length = m * size) (hc : ∀ j u, news[j]? = some u → w.cell? (ad.add j) = some u) (h1c : ∀ u ∈ news, u.oneCell' = true)
    (b1 : n + m ≤ maxLen) (b2 : (n + m) * bytes ≤ 140737488355328) (hbase : base ≤ w.heap.size)
    (hK : ∀ v' w', w'.ownsRow base e size v' (n + m) (xs ++ news) → w.grownBy w' v.ownBlock → (v'.ownBlock = v.ownBlock ∨ v'.ownBlock = some w.heap.size) → K (a.put o.dst v') w') :
    if Region.wanted o (yielded ops a.tmps) = true then Oper.wp P o a w K Q else E := by
  have hw : Region.wanted o (yielded ops a.tmps) = true := by simp [Region.wanted, hg]
  rw [if_pos hw]; obtain ⟨v', w', hrun, r1, r2, _, r3⟩ := run_append_own_at (P := P) (w := w) base t o.type e i z size bytes h1 h2 h3 h4 h5 h6 h7 v n xs hown ad m c news hn hc h1c b1 b2 hbase; unfold Oper.wp; simp [execOp, hop, resolve, invoke, builtin, hs, hx, hrun, Result.andThen]; exact hK v' w' r1 r2 r3
theorem clone_h (base gh ch M f : Nat) (hs : List Int) (w : World) (hh : w.ownsRow base 3 1 (.slice (some ⟨gh, 0, none⟩) M ch) M (intV hs)) (hf : f ≤ M) (hM : M ≤ 1000) :
    Calls Tryd.prog 91 #[.slice (some ⟨gh, 0, none⟩) f ch] w fun e w' => ∃ g c, e = .returned (.slice (some ⟨g, 0, none⟩) f c) ∧ w.heap.size ≤ g ∧ w'.ownsRow w.heap.size 3 1 (.slice (some ⟨g, 0, none⟩) f c) f ((hs.take f).map (Value.int .i64)) ∧ Below w.heap.size w w' := by
  obtain ⟨i0, hi, hz0, hz1, hz2⟩ := info_parts int_info
  have hl : hs.length = M := by have := hh.1; unfold intV at this; simpa using this
  have hlf : (hs.take f).length = f := by rw [qw]; omega
  have h := Tryd.slices_Clone i0 (.int .i64 0) 1 8 hi hz0 hz1 hz2 rfl (by decide) (fun w => by kernel_rfl) gh 0 f ch ((hs.take f).map (Value.int .i64)) w (by rw [List.length_map, hlf, Nat.mul_one]) (by unfold maxLen; omega) (by omega) (fun j u hj => by
    have hj2 : j < f := by have := (List.getElem?_eq_some_iff.1 hj).1; rw [List.length_map, hlf] at this; exact this
    have hc := hh.cellAt j (by omega); rw [Nat.zero_add]; rw [hc]; unfold intV; rw [List.getElem?_map, List.getElem?_take, if_pos hj2] at hj; rw [List.getElem?_map]
    exact hj) (fun u hu => by
    obtain ⟨z, _, rfl⟩ := List.mem_map.1 hu
    simp [Value.oneCell'])
  refine h.mono ?_
  rintro e w' ⟨v', rfl, hown, hne, hb⟩
  obtain ⟨g, c, rfl, _⟩ := own_form2 hown hne; exact ⟨g, c, rfl, own_base hown g rfl, hown, hb⟩
theorem delA_at (j : Nat) (es : List E) (gq cq base f M G3 : Nat) (W : World) (hj : j ≤ 100) (hM : (rowF (lab j) j es).length = M) (hf : f ≤ M) (hM1 : M ≤ 1000) (ho : W.ownsRow base 3 1 (.slice (some ⟨gq, 0, none⟩) f cq) f (((htI j es).take f).map (Value.int .i64)))
    (T : Blk W G3 3 #[.int .i64 (j : Int)]) (hne : G3 ≠ gq) :
    Calls Tryd.prog 90 #[.slice (some ⟨gq, 0, none⟩) f cq, .func (.func 92) #[] #[.pointer (some ⟨G3, 0, none⟩)]] W fun e w' => e = .returned (.slice (some ⟨gq, 0, none⟩) (cnt (j + 1) ((pr j es).take f)) cq) ∧ W.grownBy w' (some gq) := by
  have hl : ((htI j es).take f).length = f := by rw [qw, htI_len]; omega
  have h := del_a gq cq base ((htI j es).take f) (j : Int) (by omega) (by omega) ⟨G3, 0, none⟩ W (by rw [hl]; exact ho) (T.cell 0) hne (by omega); rw [hl, cnt_hts] at h
  exact h.mono fun e w' q => ⟨q.1, q.2.2⟩
theorem delB_at (j : Nat) (es : List E) (gh ch base M G3 : Nat) (W : World) (hj : j ≤ 100) (hM : (rowF (lab j) j es).length = M) (hM1 : M ≤ 1000) (hh : W.ownsRow base 3 1 (.slice (some ⟨gh, 0, none⟩) M ch) M (intV (htI j es)))
    (T : Blk W G3 3 #[.int .i64 (j : Int)]) (hne : G3 ≠ gh) :
    Calls Tryd.prog 90 #[.slice (some ⟨gh, 0, none⟩) M ch, .func (.func 93) #[] #[.pointer (some ⟨G3, 0, none⟩)]] W fun e w' => e = .returned (.slice (some ⟨gh, 0, none⟩) (rowF (lab (j + 1)) (j + 1) es).length ch) ∧
      w'.ownsRow base 3 1 (.slice (some ⟨gh, 0, none⟩) (rowF (lab (j + 1)) (j + 1) es).length ch) (rowF (lab (j + 1)) (j + 1) es).length (intV (htI (j + 1) es)) ∧ W.grownBy w' (some gh) := by
  have hl : (htI j es).length = M := (htI_len j es).trans hM; have h := del_b gh ch base (htI j es) (j : Int) (by omega) (by omega) ⟨G3, 0, none⟩ W (by rw [hl]; exact hh) (T.cell 0) hne (by omega); rw [hl, htI_up2, htI_len] at h; exact h
end Go.Proofs.YtolbhliepkcihaaDoor.Lab
end
section
namespace Go.Proofs.YtolbhliepkcihaaDoor.Lab
open Go.RowKit YtolbhliepkcihaaDoorW.PrintWords YtolbhliepkcihaaDoorW.PrintLast Kinds Build Sha Mac Codec Tower Mem ProofPure SkipOps SkipPure
set_option maxRecDepth 100000 in
set_option maxHeartbeats 8000000 in
theorem prove_walk (key : ByteArray) (A0 : Option Addr) (c0 : Nat) (l : List S46) (k : Int) (i : Nat) (w : World) (hr0 : Kd.C k46 w A0 l.length l) (hc0 : l.length ≤ c0) (hl : l.length ≤ 60) (hkey : key.size ≤ 1000000000) (hok : okL l) (hT : TabW w) (hb : RightP l) (hi : i < l.length) (hik : l[i].f0 = k) (hij : ∀ j (hj : j < i), l[j].f0 ≠ k) :
  Calls Tryd.prog 58 #[.string key, .slice A0 l.length c0, .int .u64 k] w fun e w' => ∃ B c D d, e = .returned (.tuple #[.agg #[.slice B 8 c, .slice D 8 d], .int .i64 0]) ∧ 8 ≤ c ∧ 8 ≤ d ∧ Kd.C (Kd.slice 9 Kd.string) w' B 8 (befR (ents key l) (i + 1)) ∧ Kd.C (Kd.slice 9 Kd.string) w' D 8 (aftR (ents key l) (i + 1)) ∧ Below w.heap.size w w' := by
 obtain ⟨r, hr, hA, _⟩ := c_rightP A0 c0 l (by omega); obtain rfl := hr.2 hb; obtain ⟨i3, hi3, hz3, hs3, hb3⟩ := info_parts int_info; have HA := Lib.hid (fun W (h : Below w.heap.size w W) => hA W (Kd.C_below hr0 h) hc0); have HI := Lib.hid (fun W (h : Below w.heap.size w W) q hq => idx_k A0 c0 l W (Kd.C_below hr0 h) (by omega) q k hq (i : Int) (.inl ⟨i, hi, rfl, hik, hij⟩)); have HC := qf hr0; have HOK := Lib.hid hok; have HT := Lib.hid hT; have HW := Lib.hid (fun W (h : Below w.heap.size w W) (m : Nat) (hm : m ≤ 8) => Row_ok key A0 c0 l m W (Kd.C_below hr0 h) hc0 (by omega) hkey hok hm (tab_below hT h (Nat.le_refl _)) hb); have HH0 : Hid (intV ((hts0 key l).take 1) = [.int .i64 9]) := Lib.hid rfl; clear hr hA hr0 hb hik hij hok hT
 go_enter Tryd.func58, Tryd.ntmps58
 go_upto_region 1 with (fail)
 have N := qf (Blk.new (w.alloc (.cells #[.int .u64 k] 22)) 78 #[.slice none 0 0, .slice none 0 0]); have NK := qf ((Blk.new w 22 #[.int .u64 k]).alloc (.cells #[.slice none 0 0, .slice none 0 0] 78)); have HB := qf (qa (qa (Below.refl w.heap.size w) (.cells #[.int .u64 k] 22)) (.cells #[.slice none 0 0, .slice none 0 0] 78)); rw [World.size_alloc] at N; generalize (w.alloc (.cells #[.int .u64 k] 22)).alloc (.cells #[.slice none 0 0, .slice none 0 0] 78) = w0 at *
 obtain ⟨g, hg⟩ : ∃ g, w.heap.size + 1 = g := ⟨_, rfl⟩
 rw [hg] at N ⊢
 have hgw : w.heap.size ≤ g := by omega
 clear hg
 go_upto_region 6 with (first | (go_at_call 38; refine (HA.out _ HB.out).mono ?_; rintro e w1 ⟨rfl, hb1⟩; replace N := qf (blk_bel N.out hb1); replace NK := qf (blk_bel NK.out hb1); replace HB := qf (below_step HB.out hb1); clear hb1) | (go_at_call 88; refine (HI.out _ HB.out _ (NK.out.cell 0)).mono ?_; rintro e w1 ⟨rfl, hb1⟩; replace N := qf (blk_bel N.out hb1); replace HB := qf (below_step HB.out hb1); clear hb1 NK))
 have R := qf (own_of_blk (base := w.heap.size) (Blk.new w1 3 #[.int .i64 9]) HB.out.size); replace N := qf (N.out.alloc (.cells #[.int .i64 9] 3)); replace HB := qf (HB.out.alloc HB.out.size (.cells #[.int .i64 9] 3)); clear HA HI; go_wp2
 go_loopw [9, 31] (fun hv iv wr => ∃ m : Nat, m ≤ l.length ∧ iv = .int .i64 m ∧ Aside0 (wr.ownsRow w.heap.size 3 1 hv (m + 1) (intV ((hts0 key l).take (m + 1)))) ∧ Aside0 (Blk wr g 78 #[.slice none 0 0, .slice none 0 0]) ∧ Aside0 (Below w.heap.size w wr)) (fun _ iv _ => l.length - (intOf iv).toNat)
 case atStart => exact ⟨0, Nat.zero_le _, rfl, by rw [HH0.out]; exact R, N, HB⟩
 case round =>
  clear R N HB; obtain ⟨m, hm, rfl, R, N, HB⟩ := hrel
  by_cases hlt : m < l.length
  ·obtain ⟨ad, e1, hc0', hc1'⟩ := at_T46 HC.out (m : Int) (by omega) (by omega); cases e1; rw [rd_it l m hlt, Int.toNat_natCast] at hc0' hc1'; replace hc0' := (HB.out.cell (qd w _ hc0')).trans hc0'; replace hc1' := (HB.out.cell (qd w _ hc1')).trans hc1'; obtain ⟨q1, q2, q3⟩ := HOK.out _ (List.getElem_mem hlt); have GH := Lib.hid (fun W h => tower_Height.calls key l[m].f0 ((heightN key l[m].f0.toNat : Nat) : Int) W (if_pos ⟨hkey, q2, q3⟩) h); have EH := Lib.hid (hts_take key l m hlt); have X := qf (Blk.new wr 46 #[.int .u64 l[m].f0, .string l[m].f1]); replace R := qf (R.out.alloc (.cells #[.int .u64 l[m].f0, .string l[m].f1] 46)); replace N := qf (N.out.alloc (.cells #[.int .u64 l[m].f0, .string l[m].f1] 46)); replace HB := qf (HB.out.alloc HB.out.size (.cells #[.int .u64 l[m].f0, .string l[m].f1] 46)); clear q1 q2 q3; generalize ((heightN key l[m].f0.toNat : Nat) : Int) = z at *; generalize l[m].f0 = f0 at *; generalize l[m].f1 = f1 at *
   have p0 : (0 : Int) ≤ (m : Int) := by omega
   have p1 : (m : Int) < (l.length : Int) := by omega
   go_upto_region 10 with (fail)
   generalize wr.heap.size = gx at *; generalize wr.alloc (.cells #[.int .u64 f0, .string f1] 46) = w5 at *; have hx0 := X.out.cell 0
   have hm1 : m + 1 + 1 ≤ maxLen := by simp only [maxLen]; omega
   have hm2 : (m + 1 + 1) * 8 ≤ 140737488355328 := by omega
   clear hc0' hc1'
   go_wp2_with (first | (go_at_call 17; refine (GH.out _ (tab_below HT.out HB.out (Nat.le_refl _))).mono ?_; rintro e w6 ⟨rfl, hb6⟩; replace R := qf (own_bel R.out hb6); replace N := qf (blk_bel N.out hb6); replace HB := qf (below_step HB.out hb6); clear hb6) | (at_builtin; refine wpList_append_own _ rfl _ _ 27 rfl w.heap.size 3 i3 (.int .i64 0) 1 8 Tryd.underlying27 hi3 hz3 hs3 hb3 rfl (by decide) _ _ _ rfl (R.out.alloc _) ⟨w6.heap.size, 0, none⟩ 1 1 [.int .i64 z] rfl rfl (cell_one_new _ _ _) (by simp [Value.oneCell']) hm1 hm2 (by have := HB.out.size; simp; omega) ?_; intro v' w7 hown' hgrow _))
   go_roundw
   case rel =>
    refine ⟨m + 1, by omega, by go_num, ⟨by rw [EH.out]; exact hown'⟩, ⟨blk_grown (N.out.alloc (.cells #[.int .i64 z] 3)) hgrow (own_ne (R.out.alloc (.cells #[.int .i64 z] 3)) (N.out.alloc (.cells #[.int .i64 z] 3)) (by decide))⟩, ⟨(HB.out.alloc HB.out.size _).grown hgrow (by have := HB.out.size; simp; omega) (fun q e => own_base R.out q e)⟩⟩
   case measure => simp [intOf]; omega
  ·obtain rfl : m = l.length := by omega
   have e0 : intV ((hts0 key l).take (l.length + 1)) = intV (htI 0 (ents key l)) := by rw [List.take_of_length_le (Nat.le_of_eq (hts_len0 key l)), hts_row0]; rfl
   have e2 : (rowF (lab 0) 0 (ents key l)).length = l.length + 1 := by rw [← labs_row, labs_len]
   have R2 : Aside0 (wr.ownsRow w.heap.size 3 1 u9 (rowF (lab 0) 0 (ents key l)).length (intV (htI 0 (ents key l)))) := ⟨by rw [e2, ← e0]; exact R.out⟩; have HA0 : Hid (i + 1 < (pr 0 (ents key l)).length) := Lib.hid (by rw [pr_len, e2]; omega); have HSZ : Hid (∀ j, (rowF (lab j) j (ents key l)).length ≤ 61) := Lib.hid (fun j => by have := row_len j (ents key l); unfold ents at this; simp at this; unfold ents; omega); clear R e0 e2 HC HOK HH0; have HES : Hid (ents key l = head :: l.map (ent key)) := Lib.hid rfl; unfold rowL at HW; generalize hE : ents key l = es at *; have HE := Lib.hid hE; clear hE
   have hgne : g ≠ wr.heap.size := by have := N.out.lt; omega
   have hgpw := HB.out.size; have PN := qf (Blk.new wr 78 #[.slice none 0 0, .slice none 0 0])
   have P0 : Aside0 (PT w.heap.size w g wr.heap.size es (i + 1) 0 u9 (rowF (lab 0) 0 es).length (intV (htI 0 es)) (.slice none 0 0) 0 [] (.slice none 0 0) 0 [] (.slice none 0 0) (.slice none 0 0) [] [] (wr.alloc (.cells #[.slice none 0 0, .slice none 0 0] 78))) :=
    ⟨R2.out.alloc _, World.ownsRow_nil _ _ _ _, World.ownsRow_nil _ _ _ _, PN.out, Outs.none _ _ _ _, N.out.alloc _, HB.out.alloc HB.out.size _, by have := HB.out.size; rw [World.size_alloc]; omega, hgpw⟩
   clear R2 N HB PN
   go_upto_region 14 with (fail)
   generalize wr.heap.size = gp at *; generalize wr.alloc (.cells #[.slice none 0 0, .slice none 0 0] 78) = w2 at *; obtain ⟨iS, hiS, hzS, hsS, hbS⟩ := info_parts strs_info; go_wp2
   go_loopw [8, 9, 45] (fun av hv iv wr => ∃ (j : Nat) (vb va : Value) (bs xs2 : List Value), j ≤ 8 ∧ iv = .int .i64 j ∧ av = .int .i64 (atN es (i + 1) j : Nat) ∧ Hid (vb.ownBlock = none ∨ vb.ownBlock ≠ va.ownBlock) ∧ Aside0 (PT w.heap.size w g gp es (i + 1) j hv (rowF (lab j) j es).length (intV (htI j es)) vb j bs va j xs2 vb va bs xs2 wr)) (fun _ _ iv _ => 8 - (intOf iv).toNat)
   case atStart => exact ⟨0, _, _, [], [], by omega, rfl, rfl, Lib.hid (.inl rfl), P0⟩
   case round =>
    clear P0; obtain ⟨j, vb, va, bs, xs2, hj, rfl, rfl, HNE, P⟩ := hrel
    by_cases hlt8 : j < 8
    ·have hes := HES.out
     have hal : atN es (i + 1) j < (pr j es).length := by
      have := HA0.out; rw [hes] at this ⊢; exact at_lt _ _ this j (by omega)
     have hg0 : gD (pr j es) 0 = 9 := by rw [hes]; exact pr_head _ j (by omega)
     have HG0 := Lib.hid hg0; have hM61 := HSZ.out j
     obtain ⟨M, hM⟩ : ∃ M, (rowF (lab j) j es).length = M := ⟨_, rfl⟩
     have hMp : (pr j es).length = M := by rw [pr_len, hM]
     obtain ⟨a, hae⟩ : ∃ a, atN es (i + 1) j = a := ⟨_, rfl⟩
     rw [hae, hMp] at hal; rw [hM] at hM61 P; rw [hae]; have HM := Lib.hid hM; have HMP := Lib.hid hMp; have HAE := Lib.hid hae; clear hM hMp hae hg0 hes; obtain ⟨gh, ch, rfl, hch⟩ := own_form P.out.rh (show 0 < M by omega); have hgh := (P.out.rh.lt gh rfl).2; have hgpl := P.out.gp_.lt; have T := qf (Blk.new wr 3 #[.int .i64 (j : Int)]); replace P := qf (P.out.below ((Below.refl wr.heap.size wr).alloc (Nat.le_refl _) (.cells #[.int .i64 (j : Int)] 3)))
     go_upto_region 17 with (fail)
     have hG3 : Hid (wr.heap.size ≠ gp) := Lib.hid (by omega)
     have hghG : wr.heap.size ≠ gh := by omega
     clear hgh hgpl; generalize wr.heap.size = G3 at *; generalize wr.alloc (.cells #[.int .i64 (j : Int)] 3) = w3 at *; have HR3 := Lib.hid (HW.out w3 P.out.hb j (by omega)); have hc3 := T.out.cell 0
     go_upto_region 18 with (go_at_call 30; refine (HR3.out).mono ?_; rintro e w4 ⟨v, rfl, ho, hb4⟩; rw [HM.out] at ho; obtain ⟨gl, cl, rfl, hcl⟩ := own_form ho (by omega); have RW := qf (own_le ho P.out.hz); replace P := qf (P.out.below hb4); replace T := qf (blk_bel T.out hb4); clear ho hb4)
     clear HR3 hc3
     have p0 : (0 : Int) ≤ (a : Int) := by omega
     have p1 : (a : Int) ≤ 61 := by omega
     have p2 : (0 : Int) ≤ (j : Int) := by omega
     have p3 : (j : Int) ≤ 8 := by omega
     go_wp2
     go_loopw [16] (fun fv wq => ∃ f : Nat, f ≤ a ∧ fv = .int .i64 f ∧ Hid (fromN (j + 1) (pr j es) a = fromN (j + 1) (pr j es) f) ∧ Drawn0 w4 wq) (fun fv _ => (intOf fv).toNat)
     case atStart => exact ⟨a, Nat.le_refl _, rfl, Lib.hid rfl, Drawn0.refl _⟩
     case round =>
      obtain ⟨f, hf, rfl, HF, hD⟩ := hrel; have hBq := hD.below
      obtain ⟨h, hh⟩ : ∃ h, (hts j es).getD f 0 = h := ⟨_, rfl⟩
      have HH : Hid (gD (pr j es) f = h) := Lib.hid ((gD_hts j es f).trans hh); have hcf := ((P.out.below hBq).rh.cellAt f (by omega)).trans (htI_at j es f (by rw [HM.out]; omega)); rw [hh] at hcf; have hc3 := (blk_bel T.out hBq).cell 0; clear hh hBq
      have f0 : (0 : Int) ≤ (f : Int) := by omega
      have f1 : (f : Int) < (M : Int) := by omega
      have hw1 : IntKind.i64.wrap ((j : Int) + 1) = (j : Int) + 1 := IntWalk.i64_in _ (by omega)
      go_upto_region 19 with (fail)
      by_cases c : h ≤ j + 1
      ·have hd : decide ((h : Int) ≤ (j : Int) + 1) = true := qj (by omega)
       have hf0 : 0 < f := by
        rcases Nat.eq_zero_or_pos f with q | q
        ·subst q; have := HH.out; have := HG0.out; omega
        ·exact q
       have HF2 : Hid (fromN (j + 1) (pr j es) a = fromN (j + 1) (pr j es) (f - 1)) := Lib.hid (by
        rw [HF.out]
        obtain ⟨f', rfl⟩ : ∃ f', f = f' + 1 := ⟨f - 1, by omega⟩
        exact from_go _ _ _ (by rw [HH.out]; exact c))
       go_quiet (fail)
       clear hw1; go_wp2
       go_roundw
       case rel => exact ⟨f - 1, by omega, by congr 1; omega, HF2, hD.step _⟩
       case measure => simp [intOf]; omega
      ·have hd : decide ((h : Int) ≤ (j : Int) + 1) = false := decide_eq_false (by omega); have HFE : Hid (fromN (j + 1) (pr j es) a = f) := Lib.hid (HF.out.trans (from_stop _ _ _ (by rw [HH.out]; omega)))
       go_quiet (fail)
       replace hD := hD.step nq; clear hw1 hd c HH HF hcf hc3; go_wp2
       go_loopw [17] (fun tv wq => ∃ t : Nat, t ≤ M ∧ a + 1 ≤ t ∧ tv = .int .i64 t ∧ Hid (toN (j + 1) (pr j es) (M - (a + 1)) (a + 1) = toN (j + 1) (pr j es) (M - t) t) ∧ Drawn0 w4 wq) (fun tv _ => M - (intOf tv).toNat)
       case atStart => exact ⟨a + 1, by omega, Nat.le_refl _, by go_num, Lib.hid rfl, hD⟩
       case round =>
        clear hD; obtain ⟨t, ht, hat, rfl, HTO, hD⟩ := hrel
        go_upto_region 21 with (fail)
        go_cut [79] from 67 to 81 (fun s79 wx => s79 = .bool (decide (t < M ∧ gD (pr j es) t ≤ j + 1)) ∧ Drawn0 w4 wx)
        case first =>
         have hw1 : IntKind.i64.wrap ((j : Int) + 1) = (j : Int) + 1 := IntWalk.i64_in _ (by omega)
         have f0 : (0 : Int) ≤ (t : Int) := by omega
         by_cases hlt : t < M
         ·have f1 : (t : Int) < (M : Int) := by omega
          have hBq := hD.below
          obtain ⟨h, hh⟩ : ∃ h, (hts j es).getD t 0 = h := ⟨_, rfl⟩
          have HH : Hid (gD (pr j es) t = h) := Lib.hid ((gD_hts j es t).trans hh); have hcf := ((P.out.below hBq).rh.cellAt t (by omega)).trans (htI_at j es t (by rw [HM.out]; omega)); rw [hh] at hcf; have hc3 := (blk_bel T.out hBq).cell 0; clear hh hBq; have hl1 : decide ((t : Int) < (M : Int)) = true := qj (by omega); have hl2 : decide (t < M) = true := qj (by omega)
          by_cases c : h ≤ j + 1
          ·have hd : decide ((h : Int) ≤ (j : Int) + 1) = true := qj (by omega); have HV : Hid (decide (t < M ∧ gD (pr j es) t ≤ j + 1) = true) := Lib.hid (qj ⟨hlt, by rw [HH.out]; exact c⟩)
           go_quiet (fail)
           replace hD := hD.step nq; clear hw1; go_wp2
           go_meet
           exact ⟨by rw [HV.out], hD⟩
          ·have hd : decide ((h : Int) ≤ (j : Int) + 1) = false := decide_eq_false (by omega); have HV : Hid (decide (t < M ∧ gD (pr j es) t ≤ j + 1) = false) := Lib.hid (decide_eq_false (fun q => c (by rw [← HH.out]; exact q.2)))
           go_quiet (fail)
           replace hD := hD.step nq; clear hw1; go_wp2
           go_meet
           exact ⟨by rw [HV.out], hD⟩
         ·have hl1 : decide ((t : Int) < (M : Int)) = false := decide_eq_false (by omega); have hl2 : decide (t < M) = false := decide_eq_false (by omega); have HV : Hid (decide (t < M ∧ gD (pr j es) t ≤ j + 1) = false) := Lib.hid (decide_eq_false (fun q => hlt q.1))
          go_quiet (fail)
          replace hD := hD.step nq; clear hw1; go_wp2
          go_meet
          exact ⟨by rw [HV.out], hD⟩
        case rest =>
         clear hD; obtain ⟨rfl, hD⟩ := hcut
         by_cases hb : t < M ∧ gD (pr j es) t ≤ j + 1
         ·have HTO2 : Hid (toN (j + 1) (pr j es) (M - (a + 1)) (a + 1) = toN (j + 1) (pr j es) (M - (t + 1)) (t + 1)) := Lib.hid (by
           rw [HTO.out]
           obtain ⟨d, hdd⟩ : ∃ d, M - t = d + 1 := ⟨M - t - 1, by omega⟩
           rw [hdd, to_go _ _ _ _ hb.2]
           congr 1
           omega)
          have ht1 := hb.1; rw [qj hb]; clear hb; go_wp2
          go_roundw
          case rel => first | exact ⟨t + 1, by omega, by omega, by go_num, HTO2, hD⟩ | ((repeat apply Exists.intro); exact ⟨⟨t + 1, by omega, by omega, by go_num, HTO2, hD⟩, rfl⟩)
          case measure => simp [intOf]; omega
         ·have HTE : Hid (toN (j + 1) (pr j es) (M - (a + 1)) (a + 1) = t) := Lib.hid (HTO.out.trans (to_stop _ _ _ _ (by
           by_cases q : t < M
           ·exact .inr (Nat.lt_of_not_le (fun q2 => hb ⟨q, q2⟩))
           ·exact .inl (by omega))))
          rw [decide_eq_false hb]; clear hb HTO
          have hfM : f ≤ M := by omega
          have ht0 : (t : Int) ≤ (M : Int) := by omega
          have HC1 := cut_w gl M cl f a hf (by omega) hcl
          have HC2 : ∀ W : World, (Instr.slice 49 (.slice (some ⟨gl, 0, none⟩) M cl) (some (.int .i64 ((a : Int) + 1))) (some (.int .i64 (t : Int))) none).run Tryd.prog W = .ok (segW gl cl (a + 1, t)) W := cut_w gl M cl (a + 1) t hat ht hcl
          go_upto_region 23 with (fail)
          go_cut [45] from 45 to 111 (fun s45 wx => s45 = .int .i64 (j : Int) ∧ ∃ v1 v2 : Value, Hid (v1.ownBlock = none ∨ v1.ownBlock ≠ v2.ownBlock) ∧ Aside0 (PT w.heap.size w g gp es (i + 1) j (.slice (some ⟨gh, 0, none⟩) M ch) M (intV (htI j es)) v1 (j + 1) (bs ++ [segW gl cl (f, a)]) v2 (j + 1) (xs2 ++ [segW gl cl (a + 1, t)]) v1 v2 bs xs2 wx) ∧ Aside0 (Blk wx G3 3 #[.int .i64 (j : Int)]) ∧ Aside0 (wx.ownsRow w.heap.size 9 1 (.slice (some ⟨gl, 0, none⟩) M cl) M (strV (rowF (lab j) j es))))
          case first =>
           have hBq := hD.below.drew; replace P := qf (P.out.below hBq); replace T := qf (blk_bel T.out hBq); replace RW := qf (own_bel RW.out hBq)
           have hbv := fun q e => (P.out.rb.lt q e).2
           clear hBq hD; have hw1 : IntKind.i64.wrap ((a : Int) + 1) = (a : Int) + 1 := IntWalk.i64_in _ (by omega); refine start_ (n := 21) (S := (fun w' : World => w'.cell? ⟨gp, 0, none⟩ = some vb ∧ w'.cell? ⟨gp, 1, none⟩ = some va)) (ds := [18, 20]) (bm 21 0) (by kernel_rfl) rfl rfl ⟨P.out.gp_.cell 0, P.out.gp_.cell 1⟩ (fun hHeld => ?_); refine pure_ (i := 0) (N := some 82) (v := .pointer (some ⟨gp, 0, none⟩)) (a' := ?_) (bm 21 1) rfl rfl (by kernel_rfl) (fun _ _ _ h => h) (Or.inl ⟨by rfl, ?_⟩) ?_ ?_; (intro w'; go_simp); rotate_left; (simp only [Act.put, qs, qt, qu]; rfl); refine pure_ (i := 8) (N := some 90) (v := .pointer (some ⟨gp, 1, none⟩)) (a' := ?_) (bm 21 257) rfl rfl (by kernel_rfl) (fun _ _ _ h => h) (Or.inl ⟨by rfl, ?_⟩) ?_ ?_; (intro w'; go_simp); rotate_left; (simp only [Act.put, qs, qt, qu]; rfl); refine pure_ (i := 2) (N := some 84) (v := .slice (some ⟨gl, 0, none⟩) M cl) (a' := ?_) (bm 21 261) rfl rfl (by kernel_rfl) (fun _ _ _ h => h) (Or.inl ⟨by rfl, ?_⟩) ?_ ?_; (intro w'; go_simp); rotate_left; (simp only [Act.put, qs, qt, qu]; rfl); refine pure_ (i := 3) (N := some 85) (v := .int .i64 (f : Int)) (a' := ?_) (bm 21 269) rfl rfl (by kernel_rfl) (fun _ _ _ h => h) (Or.inl ⟨by rfl, ?_⟩) ?_ ?_; (intro w'; go_simp); rotate_left; (simp only [Act.put, qs, qt, qu]; rfl); refine pure_ (i := 4) (N := some 86) (v := .int .i64 (a : Int)) (a' := ?_) (bm 21 285) rfl rfl (by kernel_rfl) (fun _ _ _ h => h) (Or.inl ⟨by rfl, ?_⟩) ?_ ?_; (intro w'; go_simp); rotate_left; (simp only [Act.put, qs, qt, qu]; rfl); refine pure_ (i := 5) (N := some 87) (v := segW gl cl (f, a)) (a' := ?_) (bm 21 317) rfl rfl (by kernel_rfl) (fun _ _ _ h => h) (Or.inl ⟨by rfl, ?_⟩) ?_ ?_; (intro w'; go_simp); rotate_left; (simp only [Act.put, qs, qt, qu]; rfl); refine pure_ (i := 10) (N := some 92) (v := .slice (some ⟨gl, 0, none⟩) M cl) (a' := ?_) (bm 21 1341) rfl rfl (by kernel_rfl) (fun _ _ _ h => h) (Or.inl ⟨by rfl, ?_⟩) ?_ ?_; (intro w'; go_simp); rotate_left; (simp only [Act.put, qs, qt, qu]; rfl); refine pure_ (i := 11) (N := some 93) (v := .int .i64 (a : Int)) (a' := ?_) (bm 21 3389) rfl rfl (by kernel_rfl) (fun _ _ _ h => h) (Or.inl ⟨by rfl, ?_⟩) ?_ ?_; (intro w'; go_simp); rotate_left; (simp only [Act.put, qs, qt, qu]; rfl); refine pure_ (i := 12) (N := some 94) (v := .int .i64 ((a : Int) + 1)) (a' := ?_) (bm 21 7485) rfl rfl (by kernel_rfl) (fun _ _ _ h => h) (Or.inl ⟨by rfl, ?_⟩) ?_ ?_; (intro w'; go_simp); rotate_left; (simp only [Act.put, qs, qt, qu]; rfl); refine pure_ (i := 13) (N := some 95) (v := .int .i64 (t : Int)) (a' := ?_) (bm 21 15677) rfl rfl (by kernel_rfl) (fun _ _ _ h => h) (Or.inl ⟨by rfl, ?_⟩) ?_ ?_; (intro w'; go_simp); rotate_left; (simp only [Act.put, qs, qt, qu]; rfl); refine pure_ (i := 14) (N := some 96) (v := segW gl cl (a + 1, t)) (a' := ?_) (bm 21 32061) rfl rfl (by kernel_rfl) (fun _ _ _ h => h) (Or.inl ⟨by rfl, ?_⟩) ?_ ?_; (intro w'; go_simp); rotate_left; (simp only [Act.put, qs, qt, qu]; rfl)
           refine take_ (i := 1) (N := some 83) (v := vb) (a' := ?_) (bm 21 32063) rfl rfl (by kernel_rfl) (fun _ _ _ h => h) (Or.inl ⟨by rfl, ?_⟩) hHeld ?_ ?_
           ·intro w' hSw; obtain ⟨q0, q1⟩ := hSw; go_simp
           rotate_left; (simp only [Act.put, qs, qt, qu]; rfl); refine take_ (i := 9) (N := some 91) (v := va) (a' := ?_) (bm 21 32575) rfl rfl (by kernel_rfl) (fun _ _ _ h => h) (Or.inl ⟨by rfl, ?_⟩) hHeld ?_ ?_
           ·intro w' hSw; obtain ⟨q0, q1⟩ := hSw; go_simp
           rotate_left; (simp only [Act.put, qs, qt, qu]; rfl); have HNE0 := HNE; refine two_ (i := 6) (j := 15) (Ni := some 88) (Nj := some 97) (bm 21 32639) (bm 21 65343) rfl rfl rfl rfl (by kernel_rfl) (by decide) (by decide) (fun K hK => ?_) (fun K hK => ?_)
           ·skip
            clear hHeld; go_simp; have N6 := qf (Blk.new (wc.drew) 49 #[segW gl cl (f, a)]); have hbn := (Below.refl (wc.drew).heap.size (wc.drew)).alloc (Nat.le_refl _) (.cells #[segW gl cl (f, a)] 49); replace P := qf (P.out.below hbn); replace T := qf (blk_bel T.out hbn); replace RW := qf (own_bel RW.out hbn); clear hbn; refine hK.out _ _ ⟨P.out.gp_.cell 0, P.out.gp_.cell 1⟩ (fun hHeld => ?_); clear hK K; simp only [Act.put, qs, qt, qu]; refine two_ (i := 7) (j := 15) (Ni := some 89) (Nj := some 97) (bm 21 32767) (bm 21 65407) rfl rfl rfl rfl (by kernel_rfl) (by decide) (by decide) (fun K hK => ?_) (fun K hK => ?_)
            ·skip
             clear hHeld; refine step_own_at rfl (.tmp 83) (.tmp 88) 76 rfl w.heap.size 49 iS (.slice none 0 0) 1 24 Tryd.underlying76 hiS hzS hsS hbS rfl (by decide) vb j bs (by rfl) P.out.rb ⟨(wc.drew).heap.size, 0, none⟩ 1 1 [segW gl cl (f, a)] (by rfl) rfl (blk_one N6.out) (by simp [segW, Value.oneCell']) (by simp only [maxLen]; omega) (by omega) P.out.hz ?_; intro v1 wx1 ho hg hat; clear N6; have HNE := Lib.hid (ne_app HNE.out hat P.out.ra); replace T := qf (blk_grown T.out hg (own_ne P.out.rb T.out (by decide))); replace RW := qf (RW.out.kept hg (own_ne2 RW.out P.out.rb (by decide))); replace P := qf (P.out.appB HNE0.out ho hg); clear ho hg hat; refine hK.out _ _ ⟨P.out.gp_.cell 0, P.out.gp_.cell 1⟩ (fun hHeld => ?_); clear hK K; simp only [Act.put, qs]; refine pure_ (i := 17) (N := some 99) (v := .pointer (some ⟨gp, 0, none⟩)) (a' := ?_) (bm 21 163839) rfl rfl (by kernel_rfl) (fun _ _ _ h => h) (Or.inl ⟨by rfl, ?_⟩) ?_ ?_; (intro w'; go_simp); rotate_left; (simp only [Act.put]; rfl); have HNE1 := HNE; refine one_ (i := 15) (N := some 97) (bm 21 196607) rfl rfl (by kernel_rfl) (by decide) (fun K hK => ?_); clear hHeld; go_simp; have N15 := qf (Blk.new (wx1) 49 #[segW gl cl (a + 1, t)]); have hbn := (Below.refl (wx1).heap.size (wx1)).alloc (Nat.le_refl _) (.cells #[segW gl cl (a + 1, t)] 49); replace P := qf (P.out.below hbn); replace T := qf (blk_bel T.out hbn); replace RW := qf (own_bel RW.out hbn); clear hbn; refine hK.out _ _ ⟨P.out.gp_.cell 0, P.out.gp_.cell 1⟩ (fun hHeld => ?_); clear hK K; simp only [Act.put, qs, qt, qu]; refine one_ (i := 16) (N := some 98) (bm 21 262143) rfl rfl (by kernel_rfl) (by decide) (fun K hK => ?_); clear hHeld; refine step_own_at rfl (.tmp 91) (.tmp 97) 76 rfl w.heap.size 49 iS (.slice none 0 0) 1 24 Tryd.underlying76 hiS hzS hsS hbS rfl (by decide) va j xs2 (by rfl) P.out.ra ⟨(wx1).heap.size, 0, none⟩ 1 1 [segW gl cl (a + 1, t)] (by rfl) rfl (blk_one N15.out) (by simp [segW, Value.oneCell']) (by simp only [maxLen]; omega) (by omega) P.out.hz ?_; intro v2 wx2 ho hg hat; clear N15; have HNE := Lib.hid (ne_sym (ne_app (ne_sym HNE.out) hat P.out.rb)); replace T := qf (blk_grown T.out hg (own_ne P.out.ra T.out (by decide))); replace RW := qf (RW.out.kept hg (own_ne2 RW.out P.out.ra (by decide))); replace P := qf (P.out.appA HNE1.out ho hg); clear ho hg hat; refine hK.out _ _ ⟨P.out.gp_.cell 0, P.out.gp_.cell 1⟩ (fun hHeld => ?_); clear hK K; simp only [Act.put, qs]; have HNE2 := HNE; obtain ⟨g1, c1, rfl, _⟩ := own_succ3 P.out.rb; obtain ⟨g2, c2, rfl, _⟩ := own_succ3 P.out.ra; have hx0 := P.out.gp_.cell 0; have fx0 := P.out.gp_.frozen 0; have P3 := qf (P.out.gp_.set_ 0 (.slice (some ⟨g1, 0, none⟩) (j + 1) c1)); have hx1 := P3.out.cell 1; have fx1 := P3.out.frozen 1; refine last_ (i := 18) (N := none) (bm 21 524287) rfl rfl (by kernel_rfl) (by decide) (fun K hK => ?_); go_simp; refine hK.out _ _ ?_; clear hK K
             refine pure_ (i := 19) (N := some 100) (v := .pointer (some ⟨gp, 1, none⟩)) (a' := ?_) (bm 21 1048575) rfl rfl (by kernel_rfl) (fun _ _ _ h => h) (Or.inl ⟨by rfl, ?_⟩) ?_ ?_; (intro w'; go_simp); rotate_left; (simp only [Act.put, qs, qt, qu]; rfl); refine last_ (i := 20) (N := none) (bm 21 2097151) rfl rfl (by kernel_rfl) (by decide) (fun K hK => ?_); go_simp; refine hK.out _ _ ?_; refine done_ (by kernel_rfl) ?_; clear hK K hHeld hx0 fx0 hx1 fx1; have PF := qf (P.out.store hgne (.slice (some ⟨g1, 0, none⟩) (j + 1) c1) (.slice (some ⟨g2, 0, none⟩) (j + 1) c2)); have TF := qf (blk_grown (blk_grown T.out (set_grown_at _ gp 0 (.slice (some ⟨g1, 0, none⟩) (j + 1) c1)) (fun e => hG3.out (Option.some.inj e).symm)) (set_grown_at _ gp 1 (.slice (some ⟨g2, 0, none⟩) (j + 1) c2)) (fun e => hG3.out (Option.some.inj e).symm)); have RF := qf ((RW.out.kept (set_grown_at _ gp 0 (.slice (some ⟨g1, 0, none⟩) (j + 1) c1)) (.inr (own_ne RW.out P.out.gp_ (by decide)))).kept (set_grown_at _ gp 1 (.slice (some ⟨g2, 0, none⟩) (j + 1) c2)) (.inr (own_ne RW.out P.out.gp_ (by decide)))); clear P3 P T RW
             go_wp2_with fail
             go_meet
             exact ⟨rfl, _, _, HNE2, PF, TF, RF⟩
            ·skip
             clear hHeld; go_simp; have N15 := qf (Blk.new ((wc.drew).alloc (.cells #[segW gl cl (f, a)] 49)) 49 #[segW gl cl (a + 1, t)]); replace N6 := qf (N6.out.alloc (.cells #[segW gl cl (a + 1, t)] 49)); have hbn := (Below.refl ((wc.drew).alloc (.cells #[segW gl cl (f, a)] 49)).heap.size ((wc.drew).alloc (.cells #[segW gl cl (f, a)] 49))).alloc (Nat.le_refl _) (.cells #[segW gl cl (a + 1, t)] 49); replace P := qf (P.out.below hbn); replace T := qf (blk_bel T.out hbn); replace RW := qf (own_bel RW.out hbn); clear hbn; refine hK.out _ _ ⟨P.out.gp_.cell 0, P.out.gp_.cell 1⟩ (fun hHeld => ?_); clear hK K; simp only [Act.put, qs, qt, qu]; refine one_ (i := 7) (N := some 89) (bm 21 65535) rfl rfl (by kernel_rfl) (by decide) (fun K hK => ?_); clear hHeld; refine step_own_at rfl (.tmp 83) (.tmp 88) 76 rfl w.heap.size 49 iS (.slice none 0 0) 1 24 Tryd.underlying76 hiS hzS hsS hbS rfl (by decide) vb j bs (by rfl) P.out.rb ⟨(wc.drew).heap.size, 0, none⟩ 1 1 [segW gl cl (f, a)] (by rfl) rfl (blk_one N6.out) (by simp [segW, Value.oneCell']) (by simp only [maxLen]; omega) (by omega) P.out.hz ?_; intro v1 wx1 ho hg hat; clear N6; replace N15 := qf (blk_grown N15.out hg (fun e => absurd (hbv _ e) (by simp))); have HNE := Lib.hid (ne_app HNE.out hat P.out.ra); replace T := qf (blk_grown T.out hg (own_ne P.out.rb T.out (by decide))); replace RW := qf (RW.out.kept hg (own_ne2 RW.out P.out.rb (by decide))); replace P := qf (P.out.appB HNE0.out ho hg); clear ho hg hat; refine hK.out _ _ ⟨P.out.gp_.cell 0, P.out.gp_.cell 1⟩ (fun hHeld => ?_); clear hK K; simp only [Act.put, qs]; refine pure_ (i := 17) (N := some 99) (v := .pointer (some ⟨gp, 0, none⟩)) (a' := ?_) (bm 21 196607) rfl rfl (by kernel_rfl) (fun _ _ _ h => h) (Or.inl ⟨by rfl, ?_⟩) ?_ ?_; (intro w'; go_simp); rotate_left; (simp only [Act.put]; rfl); have HNE1 := HNE; refine one_ (i := 16) (N := some 98) (bm 21 262143) rfl rfl (by kernel_rfl) (by decide) (fun K hK => ?_); clear hHeld; refine step_own_at rfl (.tmp 91) (.tmp 97) 76 rfl w.heap.size 49 iS (.slice none 0 0) 1 24 Tryd.underlying76 hiS hzS hsS hbS rfl (by decide) va j xs2 (by rfl) P.out.ra ⟨((wc.drew).alloc (.cells #[segW gl cl (f, a)] 49)).heap.size, 0, none⟩ 1 1 [segW gl cl (a + 1, t)] (by rfl) rfl (blk_one N15.out) (by simp [segW, Value.oneCell']) (by simp only [maxLen]; omega) (by omega) P.out.hz ?_; intro v2 wx2 ho hg hat; clear N15; have HNE := Lib.hid (ne_sym (ne_app (ne_sym HNE.out) hat P.out.rb)); replace T := qf (blk_grown T.out hg (own_ne P.out.ra T.out (by decide))); replace RW := qf (RW.out.kept hg (own_ne2 RW.out P.out.ra (by decide))); replace P := qf (P.out.appA HNE1.out ho hg); clear ho hg hat; refine hK.out _ _ ⟨P.out.gp_.cell 0, P.out.gp_.cell 1⟩ (fun hHeld => ?_); clear hK K; simp only [Act.put]; have HNE2 := HNE; obtain ⟨g1, c1, rfl, _⟩ := own_succ3 P.out.rb; obtain ⟨g2, c2, rfl, _⟩ := own_succ3 P.out.ra; have hx0 := P.out.gp_.cell 0; have fx0 := P.out.gp_.frozen 0
             have P3 := qf (P.out.gp_.set_ 0 (.slice (some ⟨g1, 0, none⟩) (j + 1) c1)); have hx1 := P3.out.cell 1; have fx1 := P3.out.frozen 1; refine last_ (i := 18) (N := none) (bm 21 524287) rfl rfl (by kernel_rfl) (by decide) (fun K hK => ?_); go_simp; refine hK.out _ _ ?_; clear hK K; refine pure_ (i := 19) (N := some 100) (v := .pointer (some ⟨gp, 1, none⟩)) (a' := ?_) (bm 21 1048575) rfl rfl (by kernel_rfl) (fun _ _ _ h => h) (Or.inl ⟨by rfl, ?_⟩) ?_ ?_; (intro w'; go_simp); rotate_left; (simp only [Act.put, qs, qt, qu]; rfl); refine last_ (i := 20) (N := none) (bm 21 2097151) rfl rfl (by kernel_rfl) (by decide) (fun K hK => ?_); go_simp; refine hK.out _ _ ?_; refine done_ (by kernel_rfl) ?_; clear hK K hHeld hx0 fx0 hx1 fx1; have PF := qf (P.out.store hgne (.slice (some ⟨g1, 0, none⟩) (j + 1) c1) (.slice (some ⟨g2, 0, none⟩) (j + 1) c2)); have TF := qf (blk_grown (blk_grown T.out (set_grown_at _ gp 0 (.slice (some ⟨g1, 0, none⟩) (j + 1) c1)) (fun e => hG3.out (Option.some.inj e).symm)) (set_grown_at _ gp 1 (.slice (some ⟨g2, 0, none⟩) (j + 1) c2)) (fun e => hG3.out (Option.some.inj e).symm)); have RF := qf ((RW.out.kept (set_grown_at _ gp 0 (.slice (some ⟨g1, 0, none⟩) (j + 1) c1)) (.inr (own_ne RW.out P.out.gp_ (by decide)))).kept (set_grown_at _ gp 1 (.slice (some ⟨g2, 0, none⟩) (j + 1) c2)) (.inr (own_ne RW.out P.out.gp_ (by decide)))); clear P3 P T RW
             go_wp2_with fail
             go_meet
             exact ⟨rfl, _, _, HNE2, PF, TF, RF⟩
           ·skip
            clear hHeld; go_simp; have N15 := qf (Blk.new (wc.drew) 49 #[segW gl cl (a + 1, t)]); have hbn := (Below.refl (wc.drew).heap.size (wc.drew)).alloc (Nat.le_refl _) (.cells #[segW gl cl (a + 1, t)] 49); replace P := qf (P.out.below hbn); replace T := qf (blk_bel T.out hbn); replace RW := qf (own_bel RW.out hbn); clear hbn; refine hK.out _ _ ⟨P.out.gp_.cell 0, P.out.gp_.cell 1⟩ (fun hHeld => ?_); clear hK K; simp only [Act.put, qs, qt, qu]; refine one_ (i := 6) (N := some 88) (bm 21 65407) rfl rfl (by kernel_rfl) (by decide) (fun K hK => ?_); clear hHeld; go_simp; have N6 := qf (Blk.new ((wc.drew).alloc (.cells #[segW gl cl (a + 1, t)] 49)) 49 #[segW gl cl (f, a)]); replace N15 := qf (N15.out.alloc (.cells #[segW gl cl (f, a)] 49)); have hbn := (Below.refl ((wc.drew).alloc (.cells #[segW gl cl (a + 1, t)] 49)).heap.size ((wc.drew).alloc (.cells #[segW gl cl (a + 1, t)] 49))).alloc (Nat.le_refl _) (.cells #[segW gl cl (f, a)] 49); replace P := qf (P.out.below hbn); replace T := qf (blk_bel T.out hbn); replace RW := qf (own_bel RW.out hbn); clear hbn; refine hK.out _ _ ⟨P.out.gp_.cell 0, P.out.gp_.cell 1⟩ (fun hHeld => ?_); clear hK K; simp only [Act.put, qs, qt, qu]; refine one_ (i := 7) (N := some 89) (bm 21 65535) rfl rfl (by kernel_rfl) (by decide) (fun K hK => ?_); clear hHeld; refine step_own_at rfl (.tmp 83) (.tmp 88) 76 rfl w.heap.size 49 iS (.slice none 0 0) 1 24 Tryd.underlying76 hiS hzS hsS hbS rfl (by decide) vb j bs (by rfl) P.out.rb ⟨((wc.drew).alloc (.cells #[segW gl cl (a + 1, t)] 49)).heap.size, 0, none⟩ 1 1 [segW gl cl (f, a)] (by rfl) rfl (blk_one N6.out) (by simp [segW, Value.oneCell']) (by simp only [maxLen]; omega) (by omega) P.out.hz ?_; intro v1 wx1 ho hg hat; clear N6; replace N15 := qf (blk_grown N15.out hg (fun e => absurd (hbv _ e) (by simp))); have HNE := Lib.hid (ne_app HNE.out hat P.out.ra); replace T := qf (blk_grown T.out hg (own_ne P.out.rb T.out (by decide))); replace RW := qf (RW.out.kept hg (own_ne2 RW.out P.out.rb (by decide))); replace P := qf (P.out.appB HNE0.out ho hg); clear ho hg hat; refine hK.out _ _ ⟨P.out.gp_.cell 0, P.out.gp_.cell 1⟩ (fun hHeld => ?_); clear hK K; simp only [Act.put, qs]; refine pure_ (i := 17) (N := some 99) (v := .pointer (some ⟨gp, 0, none⟩)) (a' := ?_) (bm 21 196607) rfl rfl (by kernel_rfl) (fun _ _ _ h => h) (Or.inl ⟨by rfl, ?_⟩) ?_ ?_; (intro w'; go_simp); rotate_left; (simp only [Act.put]; rfl); have HNE1 := HNE; refine one_ (i := 16) (N := some 98) (bm 21 262143) rfl rfl (by kernel_rfl) (by decide) (fun K hK => ?_); clear hHeld; refine step_own_at rfl (.tmp 91) (.tmp 97) 76 rfl w.heap.size 49 iS (.slice none 0 0) 1 24 Tryd.underlying76 hiS hzS hsS hbS rfl (by decide) va j xs2 (by rfl) P.out.ra ⟨(wc.drew).heap.size, 0, none⟩ 1 1 [segW gl cl (a + 1, t)] (by rfl) rfl (blk_one N15.out) (by simp [segW, Value.oneCell']) (by simp only [maxLen]; omega) (by omega) P.out.hz ?_; intro v2 wx2 ho hg hat; clear N15; have HNE := Lib.hid (ne_sym (ne_app (ne_sym HNE.out) hat P.out.rb))
            replace T := qf (blk_grown T.out hg (own_ne P.out.ra T.out (by decide))); replace RW := qf (RW.out.kept hg (own_ne2 RW.out P.out.ra (by decide))); replace P := qf (P.out.appA HNE1.out ho hg); clear ho hg hat; refine hK.out _ _ ⟨P.out.gp_.cell 0, P.out.gp_.cell 1⟩ (fun hHeld => ?_); clear hK K; simp only [Act.put]; have HNE2 := HNE; obtain ⟨g1, c1, rfl, _⟩ := own_succ3 P.out.rb; obtain ⟨g2, c2, rfl, _⟩ := own_succ3 P.out.ra; have hx0 := P.out.gp_.cell 0; have fx0 := P.out.gp_.frozen 0; have P3 := qf (P.out.gp_.set_ 0 (.slice (some ⟨g1, 0, none⟩) (j + 1) c1)); have hx1 := P3.out.cell 1; have fx1 := P3.out.frozen 1; refine last_ (i := 18) (N := none) (bm 21 524287) rfl rfl (by kernel_rfl) (by decide) (fun K hK => ?_); go_simp; refine hK.out _ _ ?_; clear hK K; refine pure_ (i := 19) (N := some 100) (v := .pointer (some ⟨gp, 1, none⟩)) (a' := ?_) (bm 21 1048575) rfl rfl (by kernel_rfl) (fun _ _ _ h => h) (Or.inl ⟨by rfl, ?_⟩) ?_ ?_; (intro w'; go_simp); rotate_left; (simp only [Act.put, qs, qt, qu]; rfl); refine last_ (i := 20) (N := none) (bm 21 2097151) rfl rfl (by kernel_rfl) (by decide) (fun K hK => ?_); go_simp; refine hK.out _ _ ?_; refine done_ (by kernel_rfl) ?_; clear hK K hHeld hx0 fx0 hx1 fx1; have PF := qf (P.out.store hgne (.slice (some ⟨g1, 0, none⟩) (j + 1) c1) (.slice (some ⟨g2, 0, none⟩) (j + 1) c2)); have TF := qf (blk_grown (blk_grown T.out (set_grown_at _ gp 0 (.slice (some ⟨g1, 0, none⟩) (j + 1) c1)) (fun e => hG3.out (Option.some.inj e).symm)) (set_grown_at _ gp 1 (.slice (some ⟨g2, 0, none⟩) (j + 1) c2)) (fun e => hG3.out (Option.some.inj e).symm)); have RF := qf ((RW.out.kept (set_grown_at _ gp 0 (.slice (some ⟨g1, 0, none⟩) (j + 1) c1)) (.inr (own_ne RW.out P.out.gp_ (by decide)))).kept (set_grown_at _ gp 1 (.slice (some ⟨g2, 0, none⟩) (j + 1) c2)) (.inr (own_ne RW.out P.out.gp_ (by decide)))); clear P3 P T RW
            go_wp2_with fail
            go_meet
            exact ⟨rfl, _, _, HNE2, PF, TF, RF⟩
          case rest =>
           clear P T RW HNE hD HC1 HC2; obtain ⟨rfl, v1, v2, HNE, P, T, RW⟩ := hcut
           have EB : befS es (i + 1) j = (f, a) := by unfold befS; rw [HAE.out, HFE.out]
           have EA : aftS es (i + 1) j = (a + 1, t) := by unfold aftS; rw [HAE.out, HMP.out, HTE.out]
           have HO := P.out.ho.push HM.out.symm hcl RW.out; rw [EB, EA] at HO; have HO2 := qf HO; have HCL := Lib.hid (clone_h w.heap.size gh ch M f (htI j es) wc P.out.rh hfM (by omega)); have HTL := T.out.lt
           obtain ⟨q, hq⟩ : ∃ q, cnt (j + 1) ((pr j es).take f) = q := ⟨_, rfl⟩
           have HQ : Hid (atN es (i + 1) (j + 1) = q) := Lib.hid (by
            show cnt (j + 1) ((pr j es).take (fromN (j + 1) (pr j es) (atN es (i + 1) j))) = q
            rw [HAE.out, HFE.out, hq])
           have HDA := Lib.hid (fun (gq cq base : Nat) (W : World) ho T hne => delA_at j es gq cq base f M G3 W (by omega) HM.out hfM (by omega) ho T hne); rw [hq] at HDA; clear EB EA HO hq RW
           have f2 : (f : Int) ≤ (ch : Int) := by omega
           go_upto_region 25 with (first | (go_at_call 91; refine (HCL.out).mono ?_; rintro e w6 ⟨gq, cq, rfl, hgq, hoq, hbq⟩; have HDB := Lib.hid (HDA.out gq cq wc.heap.size w6 hoq (blk_bel T.out hbq) (by omega)); have HBQ := qf hbq; have HGQ := Lib.hid hgq; clear hoq hbq hgq) | (go_at_call 90; refine (HDB.out).mono ?_; rintro e w7 ⟨rfl, hgr⟩; have HB7 := qf (HBQ.out.grown hgr HBQ.out.size (fun k e => by cases e; exact HGQ.out)); clear hgr))
           clear HCL HDA HDB HBQ HGQ; replace P := qf (P.out.below HB7.out); replace T := qf (blk_bel T.out HB7.out); have HO3 := qf (HO2.out.keep (fun _ _ _ z => own_bel z HB7.out)); clear HO2 HB7 HTL; have HDE := Lib.hid (delB_at j es gh ch w.heap.size M G3 w7 (by omega) HM.out (by omega) P.out.rh T.out hghG)
           obtain ⟨M2, hM2⟩ : ∃ M2, (rowF (lab (j + 1)) (j + 1) es).length = M2 := ⟨_, rfl⟩
           rw [hM2] at HDE; have HM2 := Lib.hid hM2; clear hM2
           go_upto_region 26 with (go_at_call 90; refine (HDE.out).mono ?_; rintro e w8 ⟨rfl, hoh, hgr⟩; have HO4 := qf (HO3.out.keep (fun _ _ _ z => z.kept hgr (own_ne2 z P.out.rh (by decide)))); replace P := qf (P.out.delH hoh hgr); clear hoh hgr)
           clear HDE HO3; have PF := qf (P.out.outs HO4.out); clear P HO4 T; go_wp2
           go_roundw
           case rel => first | exact ⟨j + 1, v1, v2, _, _, by omega, by go_num, by rw [HQ.out], HNE, by rw [HM2.out]; exact PF⟩ | ((repeat apply Exists.intro); exact ⟨⟨j + 1, v1, v2, _, _, by omega, by go_num, by rw [HQ.out], HNE, by rw [HM2.out]; exact PF⟩, rfl⟩)
           case measure => simp [intOf]; omega
    ·obtain rfl : j = 8 := by omega
     obtain ⟨gb, cb, rfl, hcb⟩ := own_form P.out.rb (by decide); obtain ⟨ga, ca, rfl, hca⟩ := own_form P.out.ra (by decide); have hp0 := P.out.gp_.cell 0; have hp1 := P.out.gp_.cell 1; have hn0 := P.out.n.cell 0; have hn1 := P.out.n.cell 1; have hf0 := P.out.n.frozen 0; have hf1 := P.out.n.frozen 1; have hgb := own_ne P.out.rb P.out.n (by decide); have hga := own_ne P.out.ra P.out.n (by decide); have FB : Aside0 (∀ (u1 u2 : Value), ((wr.setCell ⟨g, 0, none⟩ u1).setCell ⟨g, 1, none⟩ u2).ownsRow w.heap.size 49 1 (.slice (some ⟨gb, 0, none⟩) 8 cb) 8 bs) := ⟨fun u1 u2 => (P.out.rb.kept (set_grown_at wr g 0 u1) (.inr hgb)).kept (set_grown_at _ g 1 u2) (.inr hgb)⟩; have FA : Aside0 (∀ (u1 u2 : Value), ((wr.setCell ⟨g, 0, none⟩ u1).setCell ⟨g, 1, none⟩ u2).ownsRow w.heap.size 49 1 (.slice (some ⟨ga, 0, none⟩) 8 ca) 8 xs2) := ⟨fun u1 u2 => (P.out.ra.kept (set_grown_at wr g 0 u1) (.inr hga)).kept (set_grown_at _ g 1 u2) (.inr hga)⟩; have FO : Aside0 (∀ (u1 u2 : Value), Outs w.heap.size es (i + 1) 8 bs xs2 ((wr.setCell ⟨g, 0, none⟩ u1).setCell ⟨g, 1, none⟩ u2)) := ⟨fun u1 u2 => P.out.ho.keep (fun v n xs h => (h.kept (set_grown_at wr g 0 u1) (.inr (own_ne h P.out.n (by decide)))).kept (set_grown_at _ g 1 u2) (.inr (own_ne h P.out.n (by decide))))⟩; have FW : Aside0 (∀ (u1 u2 : Value), Below w.heap.size w ((wr.setCell ⟨g, 0, none⟩ u1).setCell ⟨g, 1, none⟩ u2)) := ⟨fun u1 u2 => (P.out.hb.setCell (p := ⟨g, 0, none⟩) hgw u1).setCell (p := ⟨g, 1, none⟩) hgw u2⟩; have hes := HES.out; have ha0 := HA0.out
     have fb : ∀ n, n < 8 → (befS es (i + 1) n).1 ≤ (befS es (i + 1) n).2 ∧ (befS es (i + 1) n).2 ≤ (rowF (lab n) n es).length := fun n hn => by
      rw [hes] at ha0 ⊢; exact befS_ok _ _ ha0 n hn
     have fa : ∀ n, n < 8 → (aftS es (i + 1) n).1 ≤ (aftS es (i + 1) n).2 ∧ (aftS es (i + 1) n).2 ≤ (rowF (lab n) n es).length := fun n hn => by
      rw [hes] at ha0 ⊢; exact aftS_ok _ _ ha0 n hn
     have GB : Aside0 (∀ W3 : World, Outs w.heap.size es (i + 1) 8 bs xs2 W3 → W3.ownsRow w.heap.size 49 1 (.slice (some ⟨gb, 0, none⟩) 8 cb) 8 bs → Kd.C (Kd.slice 9 Kd.string) W3 (some ⟨gb, 0, none⟩) 8 (befR es (i + 1))) := ⟨fun W3 o tb => (outs_bef o fb tb).1⟩; have GA : Aside0 (∀ W3 : World, Outs w.heap.size es (i + 1) 8 bs xs2 W3 → W3.ownsRow w.heap.size 49 1 (.slice (some ⟨ga, 0, none⟩) 8 ca) 8 xs2 → Kd.C (Kd.slice 9 Kd.string) W3 (some ⟨ga, 0, none⟩) 8 (aftR es (i + 1))) := ⟨fun W3 o ta => (outs_aft o fa ta).1⟩; have NN := qf P.out.n; clear hgb hga hes ha0 fb fa P; go_wp2; refine prove_ret2 NN.out _ _ _ _ rfl rfl ?_; rw [HE.out]; exact ⟨_, _, _, _, rfl, hcb, hca, GB.out _ (FO.out _ _) (FB.out _ _), GA.out _ (FO.out _ _) (FA.out _ _), FW.out _ _⟩
end Go.Proofs.YtolbhliepkcihaaDoor.Lab
end
section
namespace Go.Proofs.YtolbhliepkcihaaDoor.Lab
open Go.RowKit YtolbhliepkcihaaDoorW.PrintWords YtolbhliepkcihaaDoorW.PrintLast Kinds Build Sha Mac Codec Tower Mem ProofPure SkipOps SkipPure
theorem bef_len (es : List E) (a0 : Nat) : (befR es a0).length = 8 := by unfold befR; simp
theorem aft_len (es : List E) (a0 : Nat) : (aftR es a0).length = 8 := by unfold aftR; simp
theorem c_check (r : ByteArray) (x : S46) (B D : Option Addr) (c d : Nat) (b a : ProofPure.Rows) (W : World) (hb8 : b.length = 8) (ha8 : a.length = 8) (kb : Kd.C (Kd.slice 9 Kd.string) W B 8 b) (hc : 8 ≤ c) (ka : Kd.C (Kd.slice 9 Kd.string) W D 8 a) (hd : 8 ≤ d)
  (hx0 : 0 ≤ x.f0) (hx1 : x.f0 < 18446744073709551616) (hm : mayN x.f1 b a = 0) :
  Calls Tryd.prog 54 #[.string r, .agg #[.int .u64 x.f0, .string x.f1], .agg #[.slice B 8 c, .slice D 8 d]] W fun e w' => e = .returned (.tuple #[.bool ((sumS (stepN x b a 8)).toList == r.toList), .int .i64 0]) ∧ Below W.heap.size W w' := by
 have hd2 : domP x.f0 b a = true := by
  unfold domP; rw [hb8, ha8, qj hx0, qj hx1]; rfl
 have h := proof_Check.calls r x.f0 x.f1 B c b D d a ((sumS (stepN x b a 8)).toList == r.toList) 0 W (by rw [hb8]; exact kb) (by omega) (by rw [ha8]; exact ka) (by omega) (by
  unfold proof_Check.f
  rw [if_pos hd2, if_pos hm])
 rw [hb8, ha8] at h; exact h
abbrev aK : ByteArray := ⟨#[107]⟩
abbrev aV : ByteArray := ⟨#[97]⟩
abbrev aX : S46 := ⟨3, aV⟩
abbrev aL : List S46 := [aX]
theorem aC (w : World) : Kd.C k46 (w.alloc (.cells #[.int .u64 3, .string aV] 46)) (some ⟨w.heap.size, 0, none⟩) 1 aL := by
 have N := Blk.new w 46 #[.int .u64 3, .string aV]; refine ⟨rfl, by decide, fun _ => ⟨_, rfl, fun j p hp => ?_⟩⟩
 cases j with
 | succ j => simp at hp
 | zero =>
  obtain rfl := Option.some.inj hp; refine ⟨_, rfl, k46_mk _ _, fun i u hu => ?_⟩; rw [Nat.zero_mul, Nat.zero_add]
  match i, hu with
  | 0, hu =>
   obtain rfl := Option.some.inj hu; rw [add0]; exact N.cell 0
  | 1, hu =>
   obtain rfl := Option.some.inj hu; exact N.cell 1
  | i + 2, hu => simp at hu
theorem aCells {W : World} {g : Nat} (h : Kd.C k46 W (some ⟨g, 0, none⟩) 1 aL) : W.cell? ⟨g, 0, none⟩ = some (.int .u64 3) ∧ W.cell? ⟨g, 1, none⟩ = some (.string aV) := by
 obtain ⟨ad, e1, h0, h1⟩ := at_T46 h 0 (by decide) (by decide); cases e1; exact ⟨h0, h1⟩
theorem aR : RightP aL := (rightB_iff aL).1 (by decide)
theorem aO : okL aL := okL_of aL aR (by decide)
set_option maxRecDepth 100000 in
set_option maxHeartbeats 8000000 in
theorem alive18 (w : World) (hT : TabW w) : Calls Tryd.prog 56 #[] w fun e w' => e = .returned (.bool true) ∧ Below w.heap.size w w' := by
 have HC := qf (aC w); have HB := qf ((Below.refl w.heap.size w).alloc (Nat.le_refl _) (.cells #[.int .u64 3, .string aV] 46)); have HT := Lib.hid hT; have HP := Lib.hid (fun W (q : Kd.C k46 W (some ⟨w.heap.size, 0, none⟩) 1 aL) (t : TabW W) => prove_walk aK (some ⟨w.heap.size, 0, none⟩) 1 aL 3 0 W q (by decide) (by decide) (by decide) aO t aR (by decide) rfl (fun j hj => absurd hj (by omega))); have HR := Lib.hid (fun W (q : Kd.C k46 W (some ⟨w.heap.size, 0, none⟩) 1 aL) (t : TabW W) => Root_ok aK (some ⟨w.heap.size, 0, none⟩) 1 aL W q (by decide) (by decide) (by decide) aO t aR); have HM : Hid (mayN aV (befR (ents aK aL) 1) (aftR (ents aK aL) 1) = 0) := Lib.hid (prove_may aK aL (by decide) 1 _ (by decide)); have HS : Hid (sumS (stepN aX (befR (ents aK aL) 1) (aftR (ents aK aL) 1) 8) = rootL aK aL) := Lib.hid (prove_root aK aL 0 (by decide)); have hl1 := bef_len (ents aK aL) 1; have hl2 := aft_len (ents aK aL) 1; rw [show 0 + 1 = 1 from rfl, show aL.length = 1 from rfl] at HP; rw [show aL.length = 1 from rfl] at HR; generalize befR (ents aK aL) 1 = b at *; generalize aftR (ents aK aL) 1 = a at *; generalize rootL aK aL = r at *; have HL1 := Lib.hid hl1; have HL2 := Lib.hid hl2; clear hT hl1 hl2
 go_enter Tryd.func56, Tryd.ntmps56
 go_upto_region 2 with (fail)
 generalize w.alloc (.cells #[.int .u64 3, .string aV] 46) = w1 at *
 go_upto_region 3 with (go_at_call 58; refine (HP.out _ HC.out (tab_below HT.out HB.out (Nat.le_refl _))).mono ?_; rintro e w2 ⟨B, c, D, d, rfl, hc, hd, kb, ka, hb2⟩; replace HC := qf (Kd.C_below HC.out hb2); replace HB := qf (below_step HB.out hb2); have KB := qf kb; have KA := qf ka; clear kb ka hb2)
 have N := qf (Blk.new w2 78 #[.slice B 8 c, .slice D 8 d]); have hbn := (Below.refl w2.heap.size w2).alloc (Nat.le_refl _) (.cells #[.slice B 8 c, .slice D 8 d] 78); replace HC := qf (Kd.C_below HC.out hbn); replace HB := qf (below_step HB.out hbn); replace KB := qf (Kd.C_below KB.out hbn); replace KA := qf (Kd.C_below KA.out hbn); clear hbn HP; generalize w2.heap.size = g at *; generalize w2.alloc (.cells #[.slice B 8 c, .slice D 8 d] 78) = w3 at *
 go_upto_region 4 with (go_at_call 31; refine (HR.out _ HC.out (tab_below HT.out HB.out (Nat.le_refl _))).mono ?_; rintro e w4 ⟨rfl, hb2⟩; replace HC := qf (Kd.C_below HC.out hb2); replace HB := qf (below_step HB.out hb2); replace KB := qf (Kd.C_below KB.out hb2); replace KA := qf (Kd.C_below KA.out hb2); replace N := qf (blk_bel N.out hb2); clear hb2)
 clear HR HT; have hbn := (Below.refl w4.heap.size w4).drew; replace HC := qf (Kd.C_below HC.out hbn); replace HB := qf (below_step HB.out hbn); replace KB := qf (Kd.C_below KB.out hbn); replace KA := qf (Kd.C_below KA.out hbn); replace N := qf (blk_bel N.out hbn); clear hbn; have h0 := (aCells HC.out).1; have h1 := (aCells HC.out).2; have n0 := N.out.cell 0; have n1 := N.out.cell 1
 go_region_held3 (fun w' => w'.cell? ⟨w.heap.size, 0, none⟩ = some (.int .u64 3) ∧ w'.cell? ⟨w.heap.size, 1, none⟩ = some (.string aV) ∧ w'.cell? ⟨g, 0, none⟩ = some (.slice B 8 c) ∧ w'.cell? ⟨g, 1, none⟩ = some (.slice D 8 d))
  (first | exact ⟨h0, h1, n0, n1⟩ | go_keep)
  ((go_at_call 54; refine (c_check r aX B D c d b a _ HL1.out HL2.out KB.out hc KA.out hd (by decide) (by decide) HM.out).mono ?_; rintro e w5 ⟨rfl, hb2⟩; rw [HS.out, beq_self_eq_true]; replace HC := qf (Kd.C_below HC.out hb2); replace HB := qf (below_step HB.out hb2); replace N := qf (blk_bel N.out hb2); (try clear h0 h1 n0 n1); have h0 := (aCells HC.out).1; have h1 := (aCells HC.out).2; have n0 := N.out.cell 0; have n1 := N.out.cell 1; clear hb2))
 go_wp2; go_ret; exact ⟨rfl, HB.out⟩
end Go.Proofs.YtolbhliepkcihaaDoor.Lab
end
section
namespace Go.Proofs.YtolbhliepkcihaaDoor.Lab
open Go.RowKit YtolbhliepkcihaaDoorW.PrintWords YtolbhliepkcihaaDoorW.PrintLast Kinds Build Sha Mac Codec Tower Mem ProofPure SkipOps SkipPure
theorem strC_cell {w : World} {g n : Nat} {xs : List ByteArray} (h : Kd.C Kd.string w (some ⟨g, 0, none⟩) n xs) (i : Nat) (hi : i < n) (hx : i < xs.length) : w.cell? ⟨g, i, none⟩ = some (.string xs[i]) := by
 obtain ⟨ad, c, e, hl, hK, hc⟩ := Kd.C_get h ⟨#[]⟩ (i : Int) (by omega) (by omega); cases e; have hK2 : c = [Value.string (xs.getD (i : Int).toNat ⟨#[]⟩)] := hK; subst hK2; have := hc 0 _ rfl; rw [Int.toNat_natCast, List.getD_eq_getElem?_getD, List.getElem?_eq_getElem hx, show i * Kd.string.sz + 0 = i from by show i * 1 + 0 = i; omega] at this; have h2 : w.cell? ((⟨g, 0, none⟩ : Addr).add i) = some (.string xs[i]) := this; rw [← h2]
 congr 1
 unfold Addr.add
 split <;> simp_all
def clB (s t : ByteArray) : Bool := !(s.toList == t.toList) && ((sumS s).toList == (sumS t).toList)
theorem any_next {α : Type} (f : α → Bool) (l : List α) (i : Nat) (h : i < l.length) : (l.take (i + 1)).any f = ((l.take i).any f || f l[i]) := by
 rw [List.take_succ_eq_append_getElem h, List.any_append, List.any_cons, List.any_nil, Bool.or_false]
theorem any_hit {α : Type} (f : α → Bool) (l : List α) (i : Nat) (h : i < l.length) (hf : f l[i] = true) : l.any f = true := List.any_eq_true.2 ⟨_, List.getElem_mem h, hf⟩
theorem lvG_size (y : E) (r : List E) (hr : r.length ≤ 10000) : ∀ d lv t, t ∈ lvG y r d lv → t.size ≤ 1000000
 | 0, _, t, h => by cases h
 | d + 1, lv, t, h => by
  have ih := lvG_size y r hr d (lv + 1) t; rw [lvG] at h
  split at h
  ·rcases List.mem_cons.1 h with rfl | h
   ·obtain ⟨f1, f2⟩ := from32 lv y r; have e2 := cat32 _ f1; rw [joinT_size]
    omega
   ·exact ih h
  ·exact ih h
theorem allT_size : ∀ s : List E, s.length ≤ 10000 → (∀ y, y ∈ s → y.t.size ≤ 1000000) → ∀ t, t ∈ allT s → t.size ≤ 1000000
 | [], _, _, t, h => by cases h
 | y :: r, hl, hy, t, h => by
  rw [List.length_cons] at hl
  rcases List.mem_append.1 h with h | h
  ·rcases List.mem_cons.1 h with rfl | h
   ·exact hy _ List.mem_cons_self
   ·exact lvG_size y r (by omega) 8 0 t h
  ·exact allT_size r (by omega) (fun z hz => hy z (List.mem_cons_of_mem _ hz)) t h
theorem ents_size (key : ByteArray) (l : List S46) (hok : okL l) : ∀ y, y ∈ ents key l → y.t.size ≤ 1000000 := fun y hy => by
 unfold ents at hy
 rcases List.mem_cons.1 hy with rfl | hy
 ·decide
 ·obtain ⟨x, hx, rfl⟩ := List.mem_map.1 hy; have := hok x hx
  show (itemT x).size ≤ _
  rw [itemT_size]
  omega
theorem allT_len : ∀ s : List E, (allT s).length ≤ 9 * s.length
 | [] => Nat.le_refl _
 | y :: r => by
  have ih := allT_len r; have h1 := lvG_len y r 8 0
  show ((y.t :: lvT y r) ++ allT r).length ≤ _
  rw [List.length_append, List.length_cons, List.length_cons]; unfold lvT
  omega
set_option maxRecDepth 100000 in
set_option maxHeartbeats 8000000 in
theorem twice_any (key : ByteArray) (A0 : Option Addr) (c0 : Nat) (l : List S46) (x : S46) (B D : Option Addr) (c d : Nat) (b a : ProofPure.Rows) (w : World) (hr0 : Kd.C k46 w A0 l.length l) (hc0 : l.length ≤ c0) (hl : l.length ≤ 1000) (hkey : key.size ≤ 1000000000) (hok : okL l)
  (kb : Kd.C (Kd.slice 9 Kd.string) w B b.length b) (hc : b.length ≤ c) (ka : Kd.C (Kd.slice 9 Kd.string) w D a.length a) (hd : a.length ≤ d) (hx0 : 0 ≤ x.f0) (hx1 : x.f0 < 18446744073709551616) (hm : mayN x.f1 b a = 0) :
  Calls Tryd.prog 59 #[.string key, .slice A0 l.length c0, .agg #[.int .u64 x.f0, .string x.f1], .agg #[.slice B b.length c, .slice D a.length d]] w fun e w' => e = .returned (.bool (collB (stepsL x b a) (allT (ents key l)))) ∧ Below w.heap.size w w' := by
 obtain ⟨m1, m2, m3⟩ := may_ok hm; have hlb := m2.1; have hla := m3.1
 have hd2 : domP x.f0 b a = true := by
  unfold domP; rw [hlb, hla, qj hx0, qj hx1]; rfl
 have HS := Lib.hid (fun W (q1 : Kd.C (Kd.slice 9 Kd.string) W B b.length b) (q2 : Kd.C (Kd.slice 9 Kd.string) W D a.length a) => proof_Steps.calls x.f0 x.f1 B c b D d a (stepsL x b a) 0 W q1 hc q2 hd (by
  unfold proof_Steps.f stepsR
  rw [if_pos hd2, if_pos hm]))
 obtain ⟨k, hk⟩ := (all_ev key l hl hok).rounds; have HLI := Lib.hid (fun W (q : Kd.C k46 W A0 l.length l) => list_walk key A0 c0 l W q hc0 hl hkey hok)
 have hhl : (htsL key l).length = l.length := by unfold htsL; simp
 have HAL := Lib.hid (fun W A2 c2 (q : Kd.C k46 W A0 l.length l) (q2 : Kd.C (Kd.int .i64) W A2 (htsL key l).length (htsL key l)) (h2 : (htsL key l).length ≤ c2) => QPA.saltusref18_All.calls k A0 c0 l A2 c2 (htsL key l) _ W q hc0 q2 h2 hk); rw [hhl] at HAL
 have hSz : ∀ s, s ∈ stepsL x b a → s.size ≤ 5000 := fun s hs => by
  obtain ⟨j, hj, rfl⟩ := List.mem_map.1 hs; exact stepN_size x b a m1 m2 m3 j (by have := List.mem_range.1 hj; omega)
 have hTz : ∀ t, t ∈ allT (ents key l) → t.size ≤ 1000000 := allT_size _ (by unfold ents; simp; omega) (ents_size key l hok)
 have hTl : (allT (ents key l)).length ≤ 100000 := by have := allT_len (ents key l); unfold ents at this ⊢; simp only [List.length_cons, List.length_map] at this; omega
 have hTp : 0 < (allT (ents key l)).length := by show 0 < ((_ :: _) ++ _ : List ByteArray).length; simp
 have hSl : (stepsL x b a).length = 9 := by unfold stepsL; simp
 have KB := qf kb; have KA := qf ka; have HC := qf hr0; clear hk hd2 m1 m2 m3 hm hr0 kb ka hok hhl; generalize htsL key l = hs at *; generalize hAe : allT (ents key l) = T at *; generalize hSe : stepsL x b a = S at *; have HSZ := Lib.hid hSz; have HTZ := Lib.hid hTz; have HSL := Lib.hid hSl; clear hAe hSe hSz hTz hSl hlb hla; have HB := qf (Below.refl w.heap.size w)
 go_enter Tryd.func59, Tryd.ntmps59
 go_upto_region 1 with (fail)
 have X := qf ((Blk.new w 46 #[.int .u64 x.f0, .string x.f1]).alloc (.cells #[.slice B b.length c, .slice D a.length d] 78)); have P := qf (Blk.new (w.alloc (.cells #[.int .u64 x.f0, .string x.f1] 46)) 78 #[.slice B b.length c, .slice D a.length d]); rw [World.size_alloc] at P; have hbn := qa (qa (Below.refl w.heap.size w) (.cells #[.int .u64 x.f0, .string x.f1] 46)) (.cells #[.slice B b.length c, .slice D a.length d] 78); replace KB := qf (Kd.C_below KB.out hbn); replace KA := qf (Kd.C_below KA.out hbn); replace HC := qf (Kd.C_below HC.out hbn); replace HB := qf hbn; clear hbn; generalize (w.alloc (.cells #[.int .u64 x.f0, .string x.f1] 46)).alloc (.cells #[.slice B b.length c, .slice D a.length d] 78) = w1 at *; have x0 := X.out.cell 0; have x1 := X.out.cell 1; have p0 := P.out.cell 0; have p1 := P.out.cell 1
 go_upto_region 2 with (go_at_call 53; refine (HS.out _ KB.out KA.out).mono ?_; rintro e w2 ⟨v, rfl, hv, hb2⟩; have VS := qf (Kd.R_mono hv (fun _ h => h)); replace HC := qf (Kd.C_below HC.out hb2); replace HB := qf (below_step HB.out hb2); clear hv hb2)
 clear HS KB KA X P x0 x1 p0 p1; obtain ⟨g1, k1, rfl, _⟩ := Kd.R_form VS.out (by rw [HSL.out]; decide); have hS9 : S.length ≤ 9 := Nat.le_of_eq HSL.out; have VC := qf (Kd.R_reads' VS.out).2.2; clear VS
 go_upto_region 5 with (first | (go_at_call 70; refine (HLI.out _ HC.out).mono ?_; rintro e w3 ⟨A2, c2, rfl, h1, h2, h3, hb2⟩; have H1 := qf h1; have H2 := Lib.hid h2; replace HC := qf (Kd.C_below HC.out hb2); replace HB := qf (below_step HB.out hb2); replace VC := qf (Kd.C_below VC.out hb2); clear h1 h2 h3 hb2) | (go_at_call 94; refine (HAL.out _ A2 c2 HC.out H1.out H2.out).mono ?_; rintro e w4 ⟨v, rfl, hv, hb2⟩; have VT := qf (Kd.R_mono hv (fun _ h => h)); replace HB := qf (below_step HB.out hb2); replace VC := qf (Kd.C_below VC.out hb2); clear hv hb2))
 clear HLI HAL HC H1 H2; obtain ⟨g2, k2, rfl, _⟩ := Kd.R_form VT.out hTp; have VD := qf (Kd.R_reads' VT.out).2.2; clear VT; go_wp2
 go_loopw [30] (fun iv wr => ∃ i : Nat, i ≤ S.length ∧ iv = .int .i64 i ∧ Hid (collB (S.take i) T = false) ∧ Aside0 (Below w4.heap.size w4 wr)) (fun iv _ => S.length - (intOf iv).toNat)
 case atStart => exact ⟨0, Nat.zero_le _, rfl, Lib.hid rfl, ⟨Below.refl _ _⟩⟩
 case round =>
  obtain ⟨i, hi, rfl, HI, HQ⟩ := hrel
  by_cases hlt : i < S.length
  ·have hc1 := strC_cell (Kd.C_below VC.out HQ.out) i hlt hlt; have HSI := Lib.hid (HSZ.out _ (List.getElem_mem hlt)); have HNX : Hid (collB (S.take (i + 1)) T = (collB (S.take i) T || T.any fun t => clB S[i] t)) := Lib.hid (any_next _ S i hlt); have HHT : Hid ((T.any fun t => clB S[i] t) = true → collB S T = true) := Lib.hid (fun h => any_hit _ S i hlt h)
   have j0 : (0 : Int) ≤ (i : Int) := by omega
   have j1 : (i : Int) < (S.length : Int) := by omega
   generalize S[i] = s at *; go_wp2
   go_loopw [36] (fun jv wq => ∃ j : Nat, j ≤ T.length ∧ jv = .int .i64 j ∧ Hid ((T.take j).any (fun t => clB s t) = false) ∧ Aside0 (Below w4.heap.size w4 wq)) (fun jv _ => T.length - (intOf jv).toNat)
   case atStart => exact ⟨0, Nat.zero_le _, rfl, Lib.hid rfl, HQ⟩
   case round =>
    clear HQ hc1; obtain ⟨j, hj, rfl, HJ, HQ⟩ := hrel
    by_cases hlj : j < T.length
    ·have hc2 := strC_cell (Kd.C_below VD.out HQ.out) j hlj hlj; have HTI := Lib.hid (HTZ.out _ (List.getElem_mem hlj)); have HNJ : Hid ((T.take (j + 1)).any (fun t => clB s t) = ((T.take j).any (fun t => clB s t) || clB s T[j])) := Lib.hid (any_next _ T j hlj); have HHJ : Hid (clB s T[j] = true → (T.any fun t => clB s t) = true) := Lib.hid (fun h => any_hit _ T j hlj h)
     have j2 : (0 : Int) ≤ (j : Int) := by omega
     have j3 : (j : Int) < (T.length : Int) := by omega
     generalize T[j] = t at *; have HS1 := Lib.hid (fun W => saltusref03_Sum.calls s (sumS s) W (if_pos (by have := HSI.out; show _ ≤ 1099511627776; omega))); have HS2 := Lib.hid (fun W => saltusref03_Sum.calls t (sumS t) W (if_pos (by have := HTI.out; show _ ≤ 1099511627776; omega)))
     by_cases h1 : s.toList = t.toList
     ·have b1 : (s.toList == t.toList) = true := by rw [h1, beq_self_eq_true]
      have HV : Hid (clB s t = false) := Lib.hid (by unfold clB; rw [b1]; rfl); clear h1; go_wp2
      go_roundw
      case rel => exact ⟨j + 1, by omega, by go_num, Lib.hid (by rw [HNJ.out, HJ.out, HV.out]; rfl), HQ⟩
      case measure => simp [intOf]; omega
     ·have b1 : (s.toList == t.toList) = false := beq_eq_false_iff_ne.2 h1
      by_cases h2 : (sumS s).toList = (sumS t).toList
      ·have b2 : ((sumS s).toList == (sumS t).toList) = true := by rw [h2, beq_self_eq_true]
       have HV : Hid (collB S T = true) := Lib.hid (HHT.out (HHJ.out (by unfold clB; rw [b1, b2]; rfl))); clear h1 h2; generalize sumS s = y1 at *; generalize sumS t = y2 at *
       go_wp2_with (first | (go_at_call 45; ((with_reducible refine (HS1.out _).mono ?_); rintro e w5 ⟨rfl, hb2⟩; replace HQ := qf (below_step HQ.out hb2); clear hb2 HS1)) | (go_at_call 45; ((with_reducible refine (HS2.out _).mono ?_); rintro e w5 ⟨rfl, hb2⟩; replace HQ := qf (below_step HQ.out hb2); clear hb2 HS2)))
       go_ret; exact ⟨by rw [HV.out]; rfl, below_step HB.out HQ.out⟩
      ·have b2 : ((sumS s).toList == (sumS t).toList) = false := beq_eq_false_iff_ne.2 h2; have HV : Hid (clB s t = false) := Lib.hid (by unfold clB; rw [b1, b2]; rfl); clear h1 h2; generalize sumS s = y1 at *; generalize sumS t = y2 at *
       go_wp2_with (first | (go_at_call 45; ((with_reducible refine (HS1.out _).mono ?_); rintro e w5 ⟨rfl, hb2⟩; replace HQ := qf (below_step HQ.out hb2); clear hb2 HS1)) | (go_at_call 45; ((with_reducible refine (HS2.out _).mono ?_); rintro e w5 ⟨rfl, hb2⟩; replace HQ := qf (below_step HQ.out hb2); clear hb2 HS2)))
       go_roundw
       case rel => exact ⟨j + 1, by omega, by go_num, Lib.hid (by rw [HNJ.out, HJ.out, HV.out]; rfl), HQ⟩
       case measure => simp [intOf]; omega
    ·obtain rfl : j = T.length := by omega
     go_wp2
     go_roundw
     case rel => exact ⟨i + 1, by omega, by go_num, Lib.hid (by
      have q := HJ.out; rw [List.take_length] at q; rw [HNX.out, HI.out, q]
      rfl), HQ⟩
     case measure => simp [intOf]; omega
  ·obtain rfl : i = S.length := by omega
   have HV : Hid (collB S T = false) := Lib.hid (by have := HI.out; rwa [List.take_length] at this); go_wp2; go_ret; exact ⟨by rw [HV.out]; rfl, below_step HB.out HQ.out⟩
end Go.Proofs.YtolbhliepkcihaaDoor.Lab
end
section
namespace Go.Proofs.YtolbhliepkcihaaDoor
open Go.RowKit YtolbhliepkcihaaDoorW.PrintWords Kinds Build Lab Sha Mac Codec Tower SkipOps SkipPure ProofPure
def saltuslaw18_alive.f : Option Bool := some true
theorem saltuslaw18_alive.calls (r : Bool) (w : World) (h : saltuslaw18_alive.f = some r) (hT0 : TabW w) :
  Calls Tryd.prog 56 #[] w fun e w' => e = .returned (.bool r) ∧ Below w.heap.size w w' := by
 obtain rfl := Option.some.inj h; exact alive18 w hT0
def saltuslaw18_twice.f (a0 : ByteArray) (l1 : List S46) (a2_0 : Int) (a2_1 : ByteArray) (l3_0 l3_1 : ProofPure.Rows) : Option Bool :=
 if domB a0 l1 = true ∧ rightB l1 = true ∧ domP a2_0 l3_0 l3_1 = true ∧ mayN a2_1 l3_0 l3_1 = 0 then some (collB (stepsL ⟨a2_0, a2_1⟩ l3_0 l3_1) (allT (ents a0 l1))) else none
theorem saltuslaw18_twice.calls (a0 : ByteArray) (A1 : Option Addr) (c1 : Nat) (l1 : List S46) (a2_0 : Int) (a2_1 : ByteArray) (A3_0 : Option Addr) (c3_0 : Nat) (l3_0 : List (List ByteArray)) (A3_1 : Option Addr) (c3_1 : Nat) (l3_1 : List (List ByteArray)) (r : Bool) (w : World) (hr1 : Kd.C k46 w A1 l1.length l1) (hc1 : l1.length ≤ c1)
  (hr3_0 : Kd.C (Kd.slice 9 Kd.string) w A3_0 l3_0.length l3_0) (hc3_0 : l3_0.length ≤ c3_0) (hr3_1 : Kd.C (Kd.slice 9 Kd.string) w A3_1 l3_1.length l3_1) (hc3_1 : l3_1.length ≤ c3_1) (h : saltuslaw18_twice.f a0 l1 a2_0 a2_1 l3_0 l3_1 = some r) :
  Calls Tryd.prog 59 #[.string a0, .slice A1 l1.length c1, .agg #[.int .u64 a2_0, .string a2_1], .agg #[.slice A3_0 l3_0.length c3_0, .slice A3_1 l3_1.length c3_1]] w fun e w' => e = .returned (.bool r) ∧ Below w.heap.size w w' := by
 unfold saltuslaw18_twice.f at h
 split at h
 ·rename_i hd; obtain ⟨h1, h2, h3⟩ := domB_of hd.1; obtain ⟨q1, q2, q3, q4⟩ := domP_of hd.2.2.1; obtain rfl := Option.some.inj h; exact twice_any a0 A1 c1 l1 ⟨a2_0, a2_1⟩ A3_0 A3_1 c3_0 c3_1 l3_0 l3_1 w hr1 hc1 h2 h1 (okL_of l1 ((rightB_iff l1).1 hd.2.1) h3) hr3_0 hc3_0 hr3_1 hc3_1 q1 q2 hd.2.2.2
 ·cases h
end Go.Proofs.YtolbhliepkcihaaDoor
end
section
namespace Go.Proofs.YtolbhliepkcihaaDoor.QPC
open Go.RowKit Kinds YtolbhliepkcihaaDoorW.PrintWords YtolbhliepkcihaaDoorW.PrintLast YtolbhliepkcihaaDoorW.PrintMore
attribute [local go_sem] max2_int min2_int max_two min_two max_three min_three max_four min_four   -- for this text's walks alone
set_option linter.unusedVariables false
set_option linter.unusedSimpArgs false
def errW : Option Int → Value
 | none => .nilIface
 | some c => .iface 0 (.int .i64 c)
theorem errW_none : errW none = .nilIface := rfl
theorem errW_some (c : Int) : errW (some c) = .iface 0 (.int .i64 c) := rfl
theorem info46 : (Tryd.prog.info? 46).map (fun i => (i.zero, i.size, i.bytes)) = some (some (.agg #[(.int .u64 0), (.string ⟨#[]⟩)]), 2, 24) := by kernel_rfl
end Go.Proofs.YtolbhliepkcihaaDoor.QPC
end
section
namespace Go.Proofs.YtolbhliepkcihaaDoor.QPC
open Go.RowKit Kinds YtolbhliepkcihaaDoorW.PrintWords YtolbhliepkcihaaDoorW.PrintLast YtolbhliepkcihaaDoorW.PrintMore
attribute [local go_sem] max2_int min2_int max_two min_two max_three min_three max_four min_four   -- for this text's walks alone
set_option linter.unusedVariables false
set_option linter.unusedSimpArgs false
/-! ### saltusref04_Same: function 34 -/
/-! ### saltuslaw18_ProofChecks: function 13 -/
end Go.Proofs.YtolbhliepkcihaaDoor.QPC
end
section
namespace Go.Proofs.YtolbhliepkcihaaDoor.QPC
open Go.RowKit Kinds YtolbhliepkcihaaDoorW.PrintWords YtolbhliepkcihaaDoorW.PrintLast YtolbhliepkcihaaDoorW.PrintMore
attribute [local go_sem] max2_int min2_int max_two min_two max_three min_three max_four min_four   -- for this text's walks alone
set_option linter.unusedVariables false
set_option linter.unusedSimpArgs false
theorem eqA46 (d : Nat) (w : World) (x0 y0 : Int) (x1 y1 : ByteArray) :
  (Op.equalIn (d + 2) 46 (.agg #[.int .u64 x0, .string x1]) (.agg #[.int .u64 y0, .string y1])).run Tryd.prog w = .ok (x0 == y0 && (x1.toList == y1.toList)) w := by
 refine eqA_of Tryd.underlying46 (by kernel_rfl) ?_; refine eqf_cons (by rfl) (by go_simp; rfl) (by go_simp; rfl) (by go_simp) ?_; exact eqf_last (by rfl) (by go_simp; rfl) (by go_simp; rfl) (by go_simp)
end Go.Proofs.YtolbhliepkcihaaDoor.QPC
end
section
namespace Go.Proofs.YtolbhliepkcihaaDoor.QPC
open Go.RowKit Kinds YtolbhliepkcihaaDoorW.PrintWords YtolbhliepkcihaaDoorW.PrintLast YtolbhliepkcihaaDoorW.PrintMore
attribute [local go_sem] max2_int min2_int max_two min_two max_three min_three max_four min_four   -- for this text's walks alone
set_option linter.unusedVariables false
set_option linter.unusedSimpArgs false
attribute [local go_sem high] eqA46
/-! ### saltuslaw18_ProofBinds: function 15 -/
mutual
def saltuslaw18_ProofBinds.j0 : Nat → ByteArray → List (S46) → Bool → Int → ByteArray → List (List ByteArray) → List (List ByteArray) → Option (Bool)
 | 0, _, _, _, _, _, _, _ => none
 | k + 1, x0, x1, x60, x127000, x127001, x128000, x128001 => if x60 = true then ((saltuslaw18_alive.f).bind fun t143 => (some t143)) else (saltuslaw18_ProofBinds.l0 k x0 x1 x1 (x1.length : Int) 0 x127000 x127001 x128000 x128001)
def saltuslaw18_ProofBinds.l0 : Nat → ByteArray → List (S46) → List (S46) → Int → Int → Int → ByteArray → List (List ByteArray) → List (List ByteArray) → Option (Bool)
 | 0, _, _, _, _, _, _, _, _, _ => none
 | k + 1, x0, x1, x62, x63, x64, x127000, x127001, x128000, x128001 => if x64 < x63 then (if 0 ≤ x64 then (if x64 < (x62.length : Int) then (if (x127000 == ((rd_T46 x62 x64).f0) && (x127001.toList == (((rd_T46 x62 x64).f1).toList))) = true then ((saltuslaw18_alive.f).bind fun t146 => (some t146)) else (saltuslaw18_ProofBinds.l0 k x0 x1 x62 x63 (wrap64 (x64 + 1)) x127000 x127001 x128000 x128001)) else (none)) else (none)) else ((saltuslaw18_alive.f).bind fun t147 => (if t147 = true then ((saltuslaw18_twice.f x0 x1 x127000 x127001 x128000 x128001).bind fun t148 => (some t148)) else (some false)))
end
def saltuslaw18_ProofBinds.f (k : Nat) (a0 : ByteArray) (l1 : List (S46)) (a2_0 : Int) (a2_1 : ByteArray) (l3_0 : List (List ByteArray)) (l3_1 : List (List ByteArray)) : Option (Bool) := if 0 ≤ (mn (a0.size : Int) 80) then (if (mn (a0.size : Int) 80) ≤ (a0.size : Int) then (if 0 ≤ (mn (l1.length : Int) 12) then (if (mn (l1.length : Int) 12) ≤ (l1.length : Int) then ((some (l1.take ((mn (l1.length : Int) 12) : Int).toNat : List (S46))).bind fun y128 => (if 0 ≤ (mn (a2_1.size : Int) 64) then (if (mn (a2_1.size : Int) 64) ≤ (a2_1.size : Int) then ((saltuslaw18_few.f l3_0 l3_1).bind fun bt132 => ((label_Root.f (a0.extract 0 ((mn (a0.size : Int) 80) : Int).toNat) y128).bind fun bt138 => (if bt138.2 = 0 then ((proof_Check.f bt138.1 a2_0 (a2_1.extract 0 ((mn (a2_1.size : Int) 64) : Int).toNat) bt132.1 bt132.2).bind fun bt141 => (if bt141.2 = 0 then (saltuslaw18_ProofBinds.j0 k (a0.extract 0 ((mn (a0.size : Int) 80) : Int).toNat) y128 (!bt141.1) a2_0 (a2_1.extract 0 ((mn (a2_1.size : Int) 64) : Int).toNat) bt132.1 bt132.2) else (saltuslaw18_ProofBinds.j0 k (a0.extract 0 ((mn (a0.size : Int) 80) : Int).toNat) y128 true a2_0 (a2_1.extract 0 ((mn (a2_1.size : Int) 64) : Int).toNat) bt132.1 bt132.2))) else ((saltuslaw18_alive.f).bind fun t140 => (if t140 = true then (some (bt138.1.toList == ([] : List UInt8))) else (some false)))))) else (none)) else (none))) else (none)) else (none)) else (none)) else (none)
def saltuslaw18_ProofBinds.T1 : Bool × List (List Nat × List Nat) := (true, [([], []), ([], []), ([1], [1]), ([2], [2]), ([0, 3], [0, 3]), ([], []), ([], []), ([6], [6]), ([7], [7]), ([5, 8], [5, 8]), ([], []), ([10], [10]), ([], []), ([12], [12]), ([13], [13]), ([14], [14]), ([11, 15], [11, 15]), ([], []), ([17], [17]), ([4, 18, 0, 1, 2, 3, 4], [0, 1, 4]), ([9, 19, 0, 1, 2, 3, 4, 5, 6, 7, 8, 9, 19], [5, 6, 9]), ([0, 1, 2, 3, 4, 5, 6, 7, 8, 9, 10, 11, 12, 13, 14, 15, 16, 19, 20], []), ([21, 16, 20, 0, 1, 2, 3, 4, 5, 6, 7, 8, 9, 10, 11, 12, 13, 14, 15, 16, 19, 20], [16, 21]), ([18, 22, 0, 1, 2, 3, 4, 5, 6, 7, 8, 9, 10, 11, 12, 13, 14, 15, 16, 17, 18, 19, 20, 21, 22], [18])])
def saltuslaw18_ProofBinds.B1 : List Nat := [0, 0, 2, 6, 15, 0, 0, 64, 192, 480, 0, 1024, 0, 4096, 12288, 28672, 64512, 0, 131072, 393247, 918527, 2097151, 4194303, 8388607]
theorem saltuslaw18_ProofBinds.tab1 : rtab .any (opsOf Tryd.f15 1) = saltuslaw18_ProofBinds.T1 := by kernel_rfl
theorem saltuslaw18_ProofBinds.bits1 : waitsOk saltuslaw18_ProofBinds.T1.2 saltuslaw18_ProofBinds.B1 = true := by kernel_rfl
set_option maxHeartbeats 8000000 in
set_option maxRecDepth 100000 in
theorem saltuslaw18_ProofBinds.calls (k : Nat) (a0 : ByteArray) (A1 : Option Addr) (c1 : Nat) (l1 : List (S46)) (a2_0 : Int) (a2_1 : ByteArray) (A3_0 : Option Addr) (c3_0 : Nat) (l3_0 : List (List ByteArray)) (A3_1 : Option Addr) (c3_1 : Nat) (l3_1 : List (List ByteArray)) (r : Bool) (w : World) (hr1 : Kd.C k46 w A1 l1.length l1) (hc1 : l1.length ≤ c1) (hr3_0 : Kd.C (Kd.slice 9 Kd.string) w A3_0 l3_0.length l3_0) (hc3_0 : l3_0.length ≤ c3_0) (hr3_1 : Kd.C (Kd.slice 9 Kd.string) w A3_1 l3_1.length l3_1) (hc3_1 : l3_1.length ≤ c3_1) (hr : Aside0 (r = true)) (h : saltuslaw18_ProofBinds.f k a0 l1 a2_0 a2_1 l3_0 l3_1 = some r) (hT0 : Tower.TabW w) :
  Calls Tryd.prog 15 #[.string a0, .slice A1 l1.length c1, .agg #[.int .u64 a2_0, .string a2_1], .agg #[.slice A3_0 l3_0.length c3_0, .slice A3_1 l3_1.length c3_1]] w fun e w' => e = .returned (.bool r) ∧ Below w.heap.size w w' := by
 have HT := qf hT0; clear hT0; have hu46 := Tryd.underlying46; have hu78 := Tryd.underlying78; have HR1 := qf hr1; have HC1 := qf hc1; clear hr1 hc1; have HR3_0 := qf hr3_0; have HC3_0 := qf hc3_0; clear hr3_0 hc3_0; have HR3_1 := qf hr3_1; have HC3_1 := qf hc3_1; clear hr3_1 hc3_1; have HB := qf (Below.refl w.heap.size w); have H : (if 0 ≤ (mn (a0.size : Int) 80) then (if (mn (a0.size : Int) 80) ≤ (a0.size : Int) then (if 0 ≤ (mn (l1.length : Int) 12) then (if (mn (l1.length : Int) 12) ≤ (l1.length : Int) then ((some (l1.take ((mn (l1.length : Int) 12) : Int).toNat : List (S46))).bind fun y128 => (if 0 ≤ (mn (a2_1.size : Int) 64) then (if (mn (a2_1.size : Int) 64) ≤ (a2_1.size : Int) then ((saltuslaw18_few.f l3_0 l3_1).bind fun bt132 => ((label_Root.f (a0.extract 0 ((mn (a0.size : Int) 80) : Int).toNat) y128).bind fun bt138 => (if bt138.2 = 0 then ((proof_Check.f bt138.1 a2_0 (a2_1.extract 0 ((mn (a2_1.size : Int) 64) : Int).toNat) bt132.1 bt132.2).bind fun bt141 => (if bt141.2 = 0 then (saltuslaw18_ProofBinds.j0 k (a0.extract 0 ((mn (a0.size : Int) 80) : Int).toNat) y128 (!bt141.1) a2_0 (a2_1.extract 0 ((mn (a2_1.size : Int) 64) : Int).toNat) bt132.1 bt132.2) else (saltuslaw18_ProofBinds.j0 k (a0.extract 0 ((mn (a0.size : Int) 80) : Int).toNat) y128 true a2_0 (a2_1.extract 0 ((mn (a2_1.size : Int) 64) : Int).toNat) bt132.1 bt132.2))) else ((saltuslaw18_alive.f).bind fun t140 => (if t140 = true then (some (bt138.1.toList == ([] : List UInt8))) else (some false)))))) else (none)) else (none))) else (none)) else (none)) else (none)) else (none)) = some r := h; clear h
 obtain ⟨ji5, hji5⟩ : ∃ j_ : Int, (mn (a0.size : Int) 80) = j_ := ⟨_, rfl⟩
 replace H : (if 0 ≤ (ji5) then (if (ji5) ≤ (a0.size : Int) then (if 0 ≤ (mn (l1.length : Int) 12) then (if (mn (l1.length : Int) 12) ≤ (l1.length : Int) then ((some (l1.take ((mn (l1.length : Int) 12) : Int).toNat : List (S46))).bind fun y128 => (if 0 ≤ (mn (a2_1.size : Int) 64) then (if (mn (a2_1.size : Int) 64) ≤ (a2_1.size : Int) then ((saltuslaw18_few.f l3_0 l3_1).bind fun bt132 => ((label_Root.f (a0.extract 0 ((ji5) : Int).toNat) y128).bind fun bt138 => (if bt138.2 = 0 then ((proof_Check.f bt138.1 a2_0 (a2_1.extract 0 ((mn (a2_1.size : Int) 64) : Int).toNat) bt132.1 bt132.2).bind fun bt141 => (if bt141.2 = 0 then (saltuslaw18_ProofBinds.j0 k (a0.extract 0 ((ji5) : Int).toNat) y128 (!bt141.1) a2_0 (a2_1.extract 0 ((mn (a2_1.size : Int) 64) : Int).toNat) bt132.1 bt132.2) else (saltuslaw18_ProofBinds.j0 k (a0.extract 0 ((ji5) : Int).toNat) y128 true a2_0 (a2_1.extract 0 ((mn (a2_1.size : Int) 64) : Int).toNat) bt132.1 bt132.2))) else ((saltuslaw18_alive.f).bind fun t140 => (if t140 = true then (some (bt138.1.toList == ([] : List UInt8))) else (some false)))))) else (none)) else (none))) else (none)) else (none)) else (none)) else (none)) = some r := by first | (rw [hji5] at H; exact H) | (simp only [hji5] at H ⊢; exact H)
 (try (have hji5h : ji5 ≤ 80 := by (rw [← hji5]; unfold mn; (repeat' split) <;> omega)))
 (try (have hji5g : ji5 ≤ 64 := by omega))
 (try (have hji5l : 0 ≤ ji5 := by (rw [← hji5]; unfold mn; (repeat' split) <;> omega)))
 (try (have hji5m : 0 ≤ ji5 := by omega))
 have hji5_ : (if 80 < (a0.size : Int) then 80 else (a0.size : Int)) = ji5 := hji5
 by_cases c6 : 0 ≤ (ji5)
 ·rw [if_pos c6] at H; have c6b0 := eq_true c6; have c6b1 : decide (0 ≤ (ji5)) = true := qj c6; clear c6
  by_cases c7 : (ji5) ≤ (a0.size : Int)
  ·rw [if_pos c7] at H; have c7b0 := eq_true c7; have c7b1 : decide ((ji5) ≤ (a0.size : Int)) = true := qj c7; clear c7
   obtain ⟨ji8, hji8⟩ : ∃ j_ : Int, (mn (l1.length : Int) 12) = j_ := ⟨_, rfl⟩
   replace H : (if 0 ≤ (ji8) then (if (ji8) ≤ (l1.length : Int) then ((some (l1.take ((ji8) : Int).toNat : List (S46))).bind fun y128 => (if 0 ≤ (mn (a2_1.size : Int) 64) then (if (mn (a2_1.size : Int) 64) ≤ (a2_1.size : Int) then ((saltuslaw18_few.f l3_0 l3_1).bind fun bt132 => ((label_Root.f (a0.extract 0 ((ji5) : Int).toNat) y128).bind fun bt138 => (if bt138.2 = 0 then ((proof_Check.f bt138.1 a2_0 (a2_1.extract 0 ((mn (a2_1.size : Int) 64) : Int).toNat) bt132.1 bt132.2).bind fun bt141 => (if bt141.2 = 0 then (saltuslaw18_ProofBinds.j0 k (a0.extract 0 ((ji5) : Int).toNat) y128 (!bt141.1) a2_0 (a2_1.extract 0 ((mn (a2_1.size : Int) 64) : Int).toNat) bt132.1 bt132.2) else (saltuslaw18_ProofBinds.j0 k (a0.extract 0 ((ji5) : Int).toNat) y128 true a2_0 (a2_1.extract 0 ((mn (a2_1.size : Int) 64) : Int).toNat) bt132.1 bt132.2))) else ((saltuslaw18_alive.f).bind fun t140 => (if t140 = true then (some (bt138.1.toList == ([] : List UInt8))) else (some false)))))) else (none)) else (none))) else (none)) else (none)) = some r := by first | (rw [hji8] at H; exact H) | (simp only [hji8] at H ⊢; exact H)
   (try (have hji8h : ji8 ≤ 12 := by (rw [← hji8]; unfold mn; (repeat' split) <;> omega)))
   (try (have hji8g : ji8 ≤ 64 := by omega))
   (try (have hji8l : 0 ≤ ji8 := by (rw [← hji8]; unfold mn; (repeat' split) <;> omega)))
   (try (have hji8m : 0 ≤ ji8 := by omega))
   have hji8_ : (if 12 < (l1.length : Int) then 12 else (l1.length : Int)) = ji8 := hji8
   by_cases c9 : 0 ≤ (ji8)
   ·rw [if_pos c9] at H; have c9b0 := eq_true c9; have c9b1 : decide (0 ≤ (ji8)) = true := qj c9; clear c9
    by_cases c10 : (ji8) ≤ (l1.length : Int)
    ·rw [if_pos c10] at H; have c10b0 := eq_true c10; have c10b1 : decide ((ji8) ≤ (l1.length : Int)) = true := qj c10; clear c10
     obtain ⟨y128, hy128⟩ : ∃ y_ : List (S46), y_ = (l1.take ((ji8) : Int).toNat) := ⟨_, rfl⟩
     replace H : (if 0 ≤ (mn (a2_1.size : Int) 64) then (if (mn (a2_1.size : Int) 64) ≤ (a2_1.size : Int) then ((saltuslaw18_few.f l3_0 l3_1).bind fun bt132 => ((label_Root.f (a0.extract 0 ((ji5) : Int).toNat) y128).bind fun bt138 => (if bt138.2 = 0 then ((proof_Check.f bt138.1 a2_0 (a2_1.extract 0 ((mn (a2_1.size : Int) 64) : Int).toNat) bt132.1 bt132.2).bind fun bt141 => (if bt141.2 = 0 then (saltuslaw18_ProofBinds.j0 k (a0.extract 0 ((ji5) : Int).toNat) y128 (!bt141.1) a2_0 (a2_1.extract 0 ((mn (a2_1.size : Int) 64) : Int).toNat) bt132.1 bt132.2) else (saltuslaw18_ProofBinds.j0 k (a0.extract 0 ((ji5) : Int).toNat) y128 true a2_0 (a2_1.extract 0 ((mn (a2_1.size : Int) 64) : Int).toNat) bt132.1 bt132.2))) else ((saltuslaw18_alive.f).bind fun t140 => (if t140 = true then (some (bt138.1.toList == ([] : List UInt8))) else (some false)))))) else (none)) else (none)) = some r := by first | (rw [hy128]; with_reducible exact H) | (have H2_ := (qv _ _).symm.trans H; rw [hy128]; with_reducible exact H2_) | (have H2_ := (qv _ _).symm.trans H; with_reducible exact H2_) | with_reducible exact H | (rw [hy128]; exact H) | exact H
     have Ny128 := qf hy128; clear hy128
     obtain ⟨ji11, hji11⟩ : ∃ j_ : Int, (mn (a2_1.size : Int) 64) = j_ := ⟨_, rfl⟩
     replace H : (if 0 ≤ (ji11) then (if (ji11) ≤ (a2_1.size : Int) then ((saltuslaw18_few.f l3_0 l3_1).bind fun bt132 => ((label_Root.f (a0.extract 0 ((ji5) : Int).toNat) y128).bind fun bt138 => (if bt138.2 = 0 then ((proof_Check.f bt138.1 a2_0 (a2_1.extract 0 ((ji11) : Int).toNat) bt132.1 bt132.2).bind fun bt141 => (if bt141.2 = 0 then (saltuslaw18_ProofBinds.j0 k (a0.extract 0 ((ji5) : Int).toNat) y128 (!bt141.1) a2_0 (a2_1.extract 0 ((ji11) : Int).toNat) bt132.1 bt132.2) else (saltuslaw18_ProofBinds.j0 k (a0.extract 0 ((ji5) : Int).toNat) y128 true a2_0 (a2_1.extract 0 ((ji11) : Int).toNat) bt132.1 bt132.2))) else ((saltuslaw18_alive.f).bind fun t140 => (if t140 = true then (some (bt138.1.toList == ([] : List UInt8))) else (some false)))))) else (none)) else (none)) = some r := by first | (rw [hji11] at H; exact H) | (simp only [hji11] at H ⊢; exact H)
     (try (have hji11h : ji11 ≤ 64 := by (rw [← hji11]; unfold mn; (repeat' split) <;> omega)))
     (try (have hji11g : ji11 ≤ 64 := by omega))
     (try (have hji11l : 0 ≤ ji11 := by (rw [← hji11]; unfold mn; (repeat' split) <;> omega)))
     (try (have hji11m : 0 ≤ ji11 := by omega))
     have hji11_ : (if 64 < (a2_1.size : Int) then 64 else (a2_1.size : Int)) = ji11 := hji11
     by_cases c12 : 0 ≤ (ji11)
     ·rw [if_pos c12] at H; have c12b0 := eq_true c12; have c12b1 : decide (0 ≤ (ji11)) = true := qj c12; clear c12
      by_cases c13 : (ji11) ≤ (a2_1.size : Int)
      ·rw [if_pos c13] at H; have c13b0 := eq_true c13; have c13b1 : decide ((ji11) ≤ (a2_1.size : Int)) = true := qj c13; clear c13; replace H := qi H; obtain ⟨⟨t132, t135⟩, A140, H⟩ := H
       (try dsimp only at H)
       have A14 := qf A140; clear A140; replace H := qi H; obtain ⟨⟨t138, t139⟩, A150, H⟩ := H
       (try dsimp only at H)
       have A15 := qf A150; clear A150
       by_cases c16 : t139 = 0
       ·rw [if_pos c16] at H; have c16b0 : (t139 == 0) = true := beq_iff_eq.mpr c16; have c16b1 : (t139 != 0) = false := bne_eq_false_iff_eq.mpr c16; clear c16; replace H := qi H; obtain ⟨⟨t141, t142⟩, A170, H⟩ := H
        (try dsimp only at H)
        have A17 := qf A170; clear A170; have HC18 := qf H; clear H
        go_enter Tryd.func15, Tryd.ntmps15
        try go_wp2_with (first | ((with_reducible refine gate_dst (N := 6) rfl ?_); refine box_event ?hg (N := 6) ?hd (cs := #[.int .u64 a2_0, .string a2_1]) (t := 46) ?hr ?_; (case hd => rfl); (case hg => rfl); (case hr => first | (go_simp; done) | (go_simp; rfl)); intro gb126 hg w19 hbox hb; have n0_ := qf (below_step (by repeat (first | (with_reducible first | exact HB.out | apply qa | apply qb | apply qc) | exact HB.out)) hb); have n1_ := qf (hbox); have n2_ := qf ((by rw [hg]; exact (below_size (by repeat (first | (with_reducible first | exact HB.out | apply qa | apply qb | apply qc) | exact HB.out))) : w.heap.size ≤ gb126)); have n3_ := qf ((by rw [hg]; exact (below_size (by repeat (first | (with_reducible first | exact HB.out | apply qa | apply qb | apply qc) | exact HB.out))) : w.heap.size ≤ gb126)); clear HB; have HB := n0_; have BK126 := n1_; have GW126 := n2_; have GE126 := n3_; clear n0_ n1_ n2_ n3_; clear hb hbox hg) | ((with_reducible refine gate_dst (N := 7) rfl ?_); refine box_event ?hg (N := 7) ?hd (cs := #[.slice A3_0 l3_0.length c3_0, .slice A3_1 l3_1.length c3_1]) (t := 78) ?hr ?_; (case hd => rfl); (case hg => rfl); (case hr => first | (go_simp; done) | (go_simp; rfl)); intro gb127 hg w20 hbox hb; have n0_ := qf (blk_below (g := gb126) (o := .cells #[.int .u64 a2_0, .string a2_1] 46 (0, 0)) (by (with_reducible repeat (first | refine blk_drewN ?_ _ | refine blk_drew ?_ | refine qh ?_ _)); exact BK126.out) hb); have n1_ := qf (below_step (by repeat (first | (with_reducible first | exact HB.out | apply qa | apply qb | apply qc | refine qg ?_ GE126.out) | exact HB.out)) hb); have n2_ := qf (hbox); have n3_ := qf ((by rw [hg]; exact (below_size (by repeat (first | (with_reducible first | exact HB.out | apply qa | apply qb | apply qc | refine qg ?_ GE126.out) | exact HB.out))) : w.heap.size ≤ gb127)); have n4_ := qf ((by rw [hg]; exact (below_size (by repeat (first | (with_reducible first | exact HB.out | apply qa | apply qb | apply qc | refine qg ?_ GE126.out) | exact HB.out))) : w.heap.size ≤ gb127)); have n5_ := qf ((by rw [hg]; exact Nat.ne_of_lt (blk_lt (g := gb126) (o := .cells #[.int .u64 a2_0, .string a2_1] 46 (0, 0)) (by (with_reducible repeat (first | refine blk_drewN ?_ _ | refine blk_drew ?_ | refine qh ?_ _)); exact BK126.out)) : gb126 ≠ gb127)); have n6_ := qf ((by rw [hg]; exact Nat.ne_of_gt (blk_lt (g := gb126) (o := .cells #[.int .u64 a2_0, .string a2_1] 46 (0, 0)) (by (with_reducible repeat (first | refine blk_drewN ?_ _ | refine blk_drew ?_ | refine qh ?_ _)); exact BK126.out)) : gb127 ≠ gb126)); clear BK126; clear HB; have BK126 := n0_; have HB := n1_; have BK127 := n2_; have GW127 := n3_; have GE127 := n4_; have NB126_127 := n5_; have NB127_126 := n6_; clear n0_ n1_ n2_ n3_ n4_ n5_ n6_; clear hb hbox hg))
        have n0_ := qf (blk_drew BK126.out); have n1_ := qf (blk_drew BK127.out); have n2_ := qf (qc HB.out); clear BK126; clear BK127; clear HB; have BK126 := n0_; have BK127 := n1_; have HB := n2_; clear n0_ n1_ n2_; have q22 : ((ji8) : Int) ≤ ((l1.length : Int) : Int) := qe (by first | (with_reducible assumption) | assumption); obtain ⟨i022, hi022, _, hsz22, _⟩ := info_parts info46; have hroom22 : l1.length ≤ c1 := HC1.out; have hC22 : Kd.C k46 _ A1 l1.length l1 := HR1.out; have hcut22 := cut_to (P := Tryd.prog) 36 46 .i64 Tryd.underlying36 hi022 A1 l1.length c1 (ji8) (qe (by first | (with_reducible assumption) | assumption)) q22 hroom22; have hr22 := Kd.C_take (m := ((ji8) : Int).toNat) hC22 (by omega); have hy22 : y128.length = ((ji8) : Int).toNat := (by rw [Ny128.out, qw]; omega); rw [← Ny128.out] at hr22; rw [← hy22] at hcut22; have HR131 := qf hr22; have HC131 := qf (show y128.length ≤ c1 from by omega); clear hr22 hC22 hroom22 hi022 hsz22; have KY22 := qf hy22; clear hy22; replace q22 := eq_true q22; refine start_ (n := 24) (S := fun w' => w'.cell? ⟨gb126, 0, none⟩ = some (.int .u64 a2_0) ∧ w'.cell? ⟨gb126, 1, none⟩ = some (.string a2_1) ∧ w'.cell? ⟨gb127, 0, none⟩ = some (.slice A3_0 l3_0.length c3_0) ∧ w'.cell? ⟨gb127, 1, none⟩ = some (.slice A3_1 l3_1.length c3_1)) (ds := [22, 23]) (bm 24 0) (by kernel_rfl) rfl rfl ⟨(blk_cell BK126.out 0).trans rfl, (blk_cell BK126.out 1).trans rfl, (blk_cell BK127.out 0).trans rfl, (blk_cell BK127.out 1).trans rfl⟩ (fun hHeld => ?_); refine with_tabW saltuslaw18_ProofBinds.tab1 saltuslaw18_ProofBinds.bits1 (fun HT_ HW_ => ?_); generalize w20.drew = w21 at BK126 BK127 HB HR131 hHeld ⊢; refine qz 0 15 ?_ (bm 24 1) rfl rfl HT_ (by kernel_rfl) (fun _ _ _ h => h) (by rfl) ?_ ?_ ?_ ?_; rotate_left; (intro w'; go_simp; with_reducible rfl); rotate_left; (simp only [Act.put, qs, qt, qu, i64_w, i32_w]; rfl); refine qz 1 16 ?_ (bm 24 3) rfl rfl HT_ (by kernel_rfl) (fun _ _ _ h => h) (by rfl) ?_ ?_ ?_ ?_; rotate_left; (intro w'; go_simp; with_reducible rfl); rotate_left; (simp only [Act.put, qs, qt, qu, i64_w, i32_w]; rfl); refine qz 2 17 ?_ (bm 24 7) rfl rfl HT_ (by kernel_rfl) (fun _ _ _ h => h) (by rfl) ?_ ?_ ?_ ?_; rotate_left; (intro w'; go_simp; with_reducible rfl); rotate_left; (simp only [Act.put, qs, qt, qu, i64_w, i32_w]; rfl); refine qz 3 18 ?_ (bm 24 15) rfl rfl HT_ (by kernel_rfl) (fun _ _ _ h => h) (by rfl) ?_ ?_ ?_ ?_; rotate_left; (intro w'; go_simp; with_reducible rfl); rotate_left; (simp only [Act.put, qs, qt, qu, i64_w, i32_w]; rfl); refine qz 4 19 ?_ (bm 24 31) rfl rfl HT_ (by kernel_rfl) (fun _ _ _ h => h) (by rfl) ?_ ?_ ?_ ?_; rotate_left; (intro w'; go_simp; with_reducible rfl); rotate_left; (simp only [Act.put, qs, qt, qu, i64_w, i32_w]; rfl); refine qz 5 20 ?_ (bm 24 63) rfl rfl HT_ (by kernel_rfl) (fun _ _ _ h => h) (by rfl) ?_ ?_ ?_ ?_; rotate_left; (intro w'; go_simp; with_reducible rfl); rotate_left; (simp only [Act.put, qs, qt, qu, i64_w, i32_w]; rfl)
        refine qz 6 21 ?_ (bm 24 127) rfl rfl HT_ (by kernel_rfl) (fun _ _ _ h => h) (by rfl) ?_ ?_ ?_ ?_; rotate_left; (intro w'; go_simp; with_reducible rfl); rotate_left; (simp only [Act.put, qs, qt, qu, i64_w, i32_w]; rfl); refine qz 7 22 ?_ (bm 24 255) rfl rfl HT_ (by kernel_rfl) (fun _ _ _ h => h) (by rfl) ?_ ?_ ?_ ?_; rotate_left; (intro w'; go_simp; with_reducible rfl); rotate_left; (simp only [Act.put, qs, qt, qu, i64_w, i32_w]; rfl); refine qz 8 23 ?_ (bm 24 511) rfl rfl HT_ (by kernel_rfl) (fun _ _ _ h => h) (by rfl) ?_ ?_ ?_ ?_; rotate_left; (intro w'; go_simp; with_reducible rfl); rotate_left; (simp only [Act.put, qs, qt, qu, i64_w, i32_w]; rfl); refine qz 9 24 ?_ (bm 24 1023) rfl rfl HT_ (by kernel_rfl) (fun _ _ _ h => h) (by rfl) ?_ ?_ ?_ ?_; rotate_left; (intro w'; go_simp; with_reducible rfl); rotate_left; (simp only [Act.put, qs, qt, qu, i64_w, i32_w]; rfl); refine qz 10 25 ?_ (bm 24 2047) rfl rfl HT_ (by kernel_rfl) (fun _ _ _ h => h) (by rfl) ?_ ?_ ?_ ?_; rotate_left; (intro w'; go_simp; with_reducible rfl); rotate_left; (simp only [Act.put, qs, qt, qu, i64_w, i32_w]; rfl); refine qz 12 27 ?_ (bm 24 6143) rfl rfl HT_ (by kernel_rfl) (fun _ _ _ h => h) (by rfl) ?_ ?_ ?_ ?_; rotate_left; (intro w'; go_simp; with_reducible rfl); rotate_left; (simp only [Act.put, qs, qt, qu, i64_w, i32_w]; rfl); refine take_ (i := 11) (N := some 26) (v := ?_) (a' := ?_) (bm 24 8191) rfl rfl (take_ofW HT_.out HW_.out (by kernel_rfl)) (fun _ _ _ h => h) (Or.inl ⟨by rfl, ?_⟩) hHeld ?_ ?_; rotate_left
        ·rintro w' ⟨s0, s1, s2, s3⟩
         go_simp; with_reducible rfl
        rotate_left; (simp only [Act.put, qs, qt, qu, i64_w, i32_w]; rfl); refine take_ (i := 13) (N := some 28) (v := ?_) (a' := ?_) (bm 24 16383) rfl rfl (take_ofW HT_.out HW_.out (by kernel_rfl)) (fun _ _ _ h => h) (Or.inl ⟨by rfl, ?_⟩) hHeld ?_ ?_; rotate_left
        ·rintro w' ⟨s0, s1, s2, s3⟩
         go_simp; with_reducible rfl
        rotate_left; (simp only [Act.put, qs, qt, qu, i64_w, i32_w]; rfl); refine qz 14 29 ?_ (bm 24 32767) rfl rfl HT_ (by kernel_rfl) (fun _ _ _ h => h) (by rfl) ?_ ?_ ?_ ?_; rotate_left; (intro w'; go_simp; with_reducible rfl); rotate_left; (simp only [Act.put, qs, qt, qu, i64_w, i32_w]; rfl); refine qz 15 30 ?_ (bm 24 65535) rfl rfl HT_ (by kernel_rfl) (fun _ _ _ h => h) (by rfl) ?_ ?_ ?_ ?_; rotate_left; (intro w'; go_simp; with_reducible rfl); rotate_left; (simp only [Act.put, qs, qt, qu, i64_w, i32_w]; rfl); refine qz 16 31 ?_ (bm 24 131071) rfl rfl HT_ (by kernel_rfl) (fun _ _ _ h => h) (by rfl) ?_ ?_ ?_ ?_; rotate_left; (intro w'; go_simp; with_reducible rfl); rotate_left; (simp only [Act.put, qs, qt, qu, i64_w, i32_w]; rfl); refine take_ (i := 17) (N := some 32) (v := ?_) (a' := ?_) (bm 24 262143) rfl rfl (take_ofW HT_.out HW_.out (by kernel_rfl)) (fun _ _ _ h => h) (Or.inl ⟨by rfl, ?_⟩) hHeld ?_ ?_; rotate_left
        ·rintro w' ⟨s0, s1, s2, s3⟩
         go_simp; with_reducible rfl
        rotate_left; (simp only [Act.put, qs, qt, qu, i64_w, i32_w]; rfl); refine one_ (i := 18) (N := some 33) (bm 24 524287) rfl rfl (one_of HT_.out (by kernel_rfl)) (by decide) (fun K hK => ?_); refine goes_ Tryd.func52 (by kernel_rfl) rfl #[.agg #[.slice A3_0 l3_0.length c3_0, .slice A3_1 l3_1.length c3_1]] (by rfl) rfl rfl (by (try simp only [List.map_toArray, List.map_cons, List.map_nil]); first | done | rfl | (simp only [List.length_drop, qw]; rfl)) ?_
        with_reducible refine (saltuslaw18_few.calls _ _ l3_0 _ _ l3_1 t132 t135 _ ?side1 ?side2 ?side3 ?side4 A14.out).mono ?_
        (case side1 => repeat (first | exact (Kd.C_below HR3_0.out HB.out) | (with_reducible refine Kd.C_alloc ?_ _) | (with_reducible refine Kd.C_drewN ?_ _) | (with_reducible refine Kd.C_drew ?_)))
        (case side2 => exact HC3_0.out)
        (case side3 => repeat (first | exact (Kd.C_below HR3_1.out HB.out) | (with_reducible refine Kd.C_alloc ?_ _) | (with_reducible refine Kd.C_drewN ?_ _) | (with_reducible refine Kd.C_drew ?_)))
        (case side4 => exact HC3_1.out)
        rintro e w23 ⟨v133, v136, rfl, ho0, ho1, hb⟩
        refine ⟨_, rfl, ?_⟩; have n0_ := qf (Kd.S_lower ho0 (below_size (by repeat (first | (with_reducible first | exact HB.out | apply qa | apply qb | apply qc | refine qg ?_ GE126.out | refine qg ?_ GE127.out) | exact HB.out)))); have n1_ := qf (Kd.S_lower ho1 (below_size (by repeat (first | (with_reducible first | exact HB.out | apply qa | apply qb | apply qc | refine qg ?_ GE126.out | refine qg ?_ GE127.out) | exact HB.out)))); have n2_ := qf (blk_below (g := gb126) (o := .cells #[.int .u64 a2_0, .string a2_1] 46 (0, 0)) (by (with_reducible repeat (first | refine blk_drewN ?_ _ | refine blk_drew ?_ | refine qh ?_ _)); exact BK126.out) hb); have n3_ := qf (blk_below (g := gb127) (o := .cells #[.slice A3_0 l3_0.length c3_0, .slice A3_1 l3_1.length c3_1] 78 (0, 0)) (by (with_reducible repeat (first | refine blk_drewN ?_ _ | refine blk_drew ?_ | refine qh ?_ _)); exact BK127.out) hb); have n4_ := qf (below_step (by repeat (first | (with_reducible first | exact HB.out | apply qa | apply qb | apply qc | refine qg ?_ GE126.out | refine qg ?_ GE127.out) | exact HB.out)) hb); clear BK126; clear BK127; clear HB; have HO134 := n0_; have HO137 := n1_; have BK126 := n2_; have BK127 := n3_; have HB := n4_; clear n0_ n1_ n2_ n3_ n4_
        (try clear hb)
        (try clear hb2)
        (try clear hk)
        (try clear hi)
        (try clear ho0)
        (try clear ho1)
        obtain ⟨Ao25, co25, eo25⟩ := Kd.S_slice HO134.out
        (first | subst eo25 | (injection eo25 with f1_ f2_ f3_; have f4_ := f1_.symm; have f5_ := f3_.symm; clear f1_ f2_ f3_; subst f4_; subst f5_))
        obtain ⟨Ao27, co27, eo27⟩ := Kd.S_slice HO137.out
        (first | subst eo27 | (injection eo27 with f1_ f2_ f3_; have f4_ := f1_.symm; have f5_ := f3_.symm; clear f1_ f2_ f3_; subst f4_; subst f5_))
        refine hK.out _ _ ⟨(blk_cell BK126.out 0).trans rfl, (blk_cell BK126.out 1).trans rfl, (blk_cell BK127.out 0).trans rfl, (blk_cell BK127.out 1).trans rfl⟩ (fun hHeld => ?_); clear hK K; refine norm_ (a' := ?_) ?_ ?_; rotate_left
        ·show Act.put _ (some 33) _ = _
         simp only [Act.put, qs, qt, qu, i64_w, i32_w]; rfl
        refine qz 19 0 ?_ (bm 24 1048575) rfl rfl HT_ (by kernel_rfl) (fun _ _ _ h => h) (by rfl) ?_ ?_ ?_ ?_; rotate_left; (intro w'; go_simp; with_reducible rfl); rotate_left; (simp only [Act.put, qs, qt, qu, i64_w, i32_w]; rfl); refine qz 20 1 ?_ (bm 24 2097151) rfl rfl HT_ (by kernel_rfl) (fun _ _ _ h => h) (by rfl) ?_ ?_ ?_ ?_; rotate_left; (intro w'; go_simp; with_reducible rfl); rotate_left; (simp only [Act.put, qs, qt, qu, i64_w, i32_w]; rfl); refine qz 21 34 ?_ (bm 24 4194303) rfl rfl HT_ (by kernel_rfl) (fun _ _ _ h => h) (by rfl) ?_ ?_ ?_ ?_; rotate_left; (intro w'; go_simp; with_reducible rfl); rotate_left; (simp only [Act.put, qs, qt, qu, i64_w, i32_w]; rfl); refine last_ (i := 22) (N := none) (bm 24 8388607) rfl rfl (one_of HT_.out (by kernel_rfl)) (by decide) (fun K hK => ?_); have hs24 : w23.cell? ⟨gb126, 1, none⟩ = some (.string a2_1) := (blk_cell BK126.out 1).trans rfl; have hfs24 := blk_frozen BK126.out 1; have hns24_1 := NB127_126.out; have hms24_1 := NB126_127.out; refine skip_ (w1 := ?_) (by rfl) rfl ?_ ?_; rotate_left; (go_simp; rfl); refine hK.out _ _ ?_; clear hK K; refine last_ (i := 23) (N := none) (bm 24 16777215) rfl rfl (one_of HT_.out (by kernel_rfl)) (by decide) (fun K hK => ?_); have hs26 : w23.cell? ⟨gb127, 0, none⟩ = some (.slice A3_0 l3_0.length c3_0) := (blk_cell BK127.out 0).trans rfl; have hfs26 := blk_frozen BK127.out 0; have hns26_0 := NB126_127.out; have hms26_0 := NB127_126.out; have hs28 : w23.cell? ⟨gb127, 1, none⟩ = some (.slice A3_1 l3_1.length c3_1) := (blk_cell BK127.out 1).trans rfl; have hfs28 := blk_frozen BK127.out 1; have hns28_0 := NB126_127.out; have hms28_0 := NB127_126.out; refine skip_ (w1 := ?_) (by rfl) rfl ?_ ?_; rotate_left; (go_simp; rfl); refine hK.out _ _ ?_; clear hK K; refine done_ (done_of HT_.out (by kernel_rfl)) ?_
        go_upto_region 6 with (first | ((with_reducible refine gate_callee (f := 31) rfl ?_); refine goesL_ (some 38) rfl rfl Tryd.func31 (by kernel_rfl) rfl #[.string (a0.extract 0 ((ji5) : Int).toNat), .slice A1 y128.length c1] rfl (by (try simp only [List.map_toArray, List.map_cons, List.map_nil]); first | done | (simp only [hji5]; rfl) | rfl | (simp only [List.length_drop, qw]; rfl)) ?_; (with_reducible refine (label_Root.calls (a0.extract 0 ((ji5) : Int).toNat) _ _ y128 t138 t139 _ ?side1 ?side2 A15.out (Tower.tab_below HT.out (by repeat (first | (with_reducible first | exact HB.out | apply qa | apply qb | apply qc | refine qg ?_ GE126.out | refine qg ?_ GE127.out) | exact HB.out)) (Nat.le_refl _))).mono ?_); (case side1 => exact Kd.C_below HR131.out (by repeat (first | (with_reducible first | exact HB.out | apply qa | apply qb | apply qc | refine qg ?_ GE126.out | refine qg ?_ GE127.out) | exact HB.out))); (case side2 => exact HC131.out); rintro e w29 ⟨rfl, hb⟩; refine ⟨_, rfl, ?_⟩; have n0_ := qf (Kd.S_below (by (with_reducible repeat (first | apply Kd.S_alloc | apply Kd.S_drewN | apply Kd.S_drew)); exact (Kd.S_mono (Kd.S_mono (Kd.S_far (p := ⟨gb127, 1, none⟩) (Kd.S_far (p := ⟨gb127, 0, none⟩) (Kd.S_far (p := ⟨gb126, 1, none⟩) (Kd.S_types (Kd.S_types HO134.out BK126.out (by decide)) BK127.out (by decide)) (fun _ hk => hk.1.2) (.string (a2_1.extract 0 ((ji11) : Int).toNat))) (fun _ hk => hk.2) (.slice Ao25 t132.length co25)) (fun _ hk => hk.2) (.slice Ao27 t135.length co27)) (fun _ h_ => h_.1)) (fun _ h_ => h_.1))) hb); have n1_ := qf (Kd.S_below (by (with_reducible repeat (first | apply Kd.S_alloc | apply Kd.S_drewN | apply Kd.S_drew)); exact (Kd.S_mono (Kd.S_mono (Kd.S_far (p := ⟨gb127, 1, none⟩) (Kd.S_far (p := ⟨gb127, 0, none⟩) (Kd.S_far (p := ⟨gb126, 1, none⟩) (Kd.S_types (Kd.S_types HO137.out BK126.out (by decide)) BK127.out (by decide)) (fun _ hk => hk.1.2) (.string (a2_1.extract 0 ((ji11) : Int).toNat))) (fun _ hk => hk.2) (.slice Ao25 t132.length co25)) (fun _ hk => hk.2) (.slice Ao27 t135.length co27)) (fun _ h_ => h_.1)) (fun _ h_ => h_.1))) hb); have n2_ := qf (blk_below (g := gb126) (o := .cells #[.int .u64 a2_0, .string (a2_1.extract 0 ((ji11) : Int).toNat)] 46 (0, 0)) (by (with_reducible repeat (first | refine blk_drewN ?_ _ | refine blk_drew ?_ | refine qh ?_ _)); refine blk_far ?_ NB126_127.out _; (with_reducible repeat (first | refine blk_drewN ?_ _ | refine blk_drew ?_ | refine qh ?_ _)); refine blk_far ?_ NB126_127.out _; (with_reducible repeat (first | refine blk_drewN ?_ _ | refine blk_drew ?_ | refine qh ?_ _)); refine blk_put (cs := #[.int .u64 a2_0, .string a2_1]) ?_ 1 _ rfl; (with_reducible repeat (first | refine blk_drewN ?_ _ | refine blk_drew ?_ | refine qh ?_ _)); exact BK126.out) hb); have n3_ := qf (blk_below (g := gb127) (o := .cells #[.slice Ao25 t132.length co25, .slice Ao27 t135.length co27] 78 (0, 0)) (by (with_reducible repeat (first | refine blk_drewN ?_ _ | refine blk_drew ?_ | refine qh ?_ _)); refine blk_put (cs := #[.slice Ao25 t132.length co25, .slice A3_1 l3_1.length c3_1]) ?_ 1 _ rfl; (with_reducible repeat (first | refine blk_drewN ?_ _ | refine blk_drew ?_ | refine qh ?_ _)); refine blk_put (cs := #[.slice A3_0 l3_0.length c3_0, .slice A3_1 l3_1.length c3_1]) ?_ 0 _ rfl; (with_reducible repeat (first | refine blk_drewN ?_ _ | refine blk_drew ?_ | refine qh ?_ _)); refine blk_far ?_ NB127_126.out _; (with_reducible repeat (first | refine blk_drewN ?_ _ | refine blk_drew ?_ | refine qh ?_ _)); exact BK127.out) hb); have n4_ := qf (below_step (by repeat (first | (with_reducible first | exact HB.out | apply qa | apply qb | apply qc | refine qg ?_ GE126.out | refine qg ?_ GE127.out) | exact HB.out)) hb); clear HO134; clear HO137; clear BK126; clear BK127; clear HB; have HO134 := n0_; have HO137 := n1_; have BK126 := n2_; have BK127 := n3_; have HB := n4_; clear n0_ n1_ n2_ n3_ n4_; (try clear hb); (try clear hb2); (try clear hk); (try clear hi); have hnb30 := NB126_127.out; have hnc30 := NB127_126.out; have hcz31_0 : w29.cell? ⟨gb126, 0, none⟩ = some (.int .u64 a2_0) := (blk_cell BK126.out 0).trans rfl; have hcz31_1 : w29.cell? ⟨gb126, 1, none⟩ = some (.string (a2_1.extract 0 ((ji11) : Int).toNat)) := (blk_cell BK126.out 1).trans rfl; have hfz31_0 := blk_frozen BK126.out 0; have hfz31_1 := blk_frozen BK126.out 1; have hcz32_0 : w29.cell? ⟨gb127, 0, none⟩ = some (.slice Ao25 t132.length co25) := (blk_cell BK127.out 0).trans rfl; have hcz32_1 : w29.cell? ⟨gb127, 1, none⟩ = some (.slice Ao27 t135.length co27) := (blk_cell BK127.out 1).trans rfl; have hfz32_0 := blk_frozen BK127.out 0; have hfz32_1 := blk_frozen BK127.out 1) | ((with_reducible refine gate_callee (f := 54) rfl ?_); refine goesL_ (some 52) rfl rfl Tryd.func54 (by kernel_rfl) rfl #[.string t138, .agg #[.int .u64 a2_0, .string (a2_1.extract 0 ((ji11) : Int).toNat)], .agg #[.slice Ao25 t132.length co25, .slice Ao27 t135.length co27]] rfl (by (try simp only [List.map_toArray, List.map_cons, List.map_nil]); first | done | (simp only [hji11]; rfl) | rfl | (simp only [List.length_drop, qw]; rfl)) ?_; (with_reducible refine (proof_Check.calls t138 a2_0 (a2_1.extract 0 ((ji11) : Int).toNat) _ _ t132 _ _ t135 t141 t142 _ ?side1 ?side2 ?side3 ?side4 A17.out).mono ?_); (case side1 => repeat (first | exact (Kd.S_reads' HO134.out).2.2 | (with_reducible refine Kd.C_alloc ?_ _) | (with_reducible refine Kd.C_drewN ?_ _) | (with_reducible refine Kd.C_drew ?_))); (case side2 => exact (Kd.S_reads' HO134.out).2.1); (case side3 => repeat (first | exact (Kd.S_reads' HO137.out).2.2 | (with_reducible refine Kd.C_alloc ?_ _) | (with_reducible refine Kd.C_drewN ?_ _) | (with_reducible refine Kd.C_drew ?_))); (case side4 => exact (Kd.S_reads' HO137.out).2.1); rintro e w33 ⟨rfl, hb⟩; refine ⟨_, rfl, ?_⟩; have n0_ := qf (Kd.S_below (by (with_reducible repeat (first | apply Kd.S_alloc | apply Kd.S_drewN | apply Kd.S_drew)); exact HO134.out) hb); have n1_ := qf (Kd.S_below (by (with_reducible repeat (first | apply Kd.S_alloc | apply Kd.S_drewN | apply Kd.S_drew)); exact HO137.out) hb); have n2_ := qf (blk_below (g := gb126) (o := .cells #[.int .u64 a2_0, .string (a2_1.extract 0 ((ji11) : Int).toNat)] 46 (0, 0)) (by (with_reducible repeat (first | refine blk_drewN ?_ _ | refine blk_drew ?_ | refine qh ?_ _)); exact BK126.out) hb); have n3_ := qf (blk_below (g := gb127) (o := .cells #[.slice Ao25 t132.length co25, .slice Ao27 t135.length co27] 78 (0, 0)) (by (with_reducible repeat (first | refine blk_drewN ?_ _ | refine blk_drew ?_ | refine qh ?_ _)); exact BK127.out) hb); have n4_ := qf (below_step (by repeat (first | (with_reducible first | exact HB.out | apply qa | apply qb | apply qc | refine qg ?_ GE126.out | refine qg ?_ GE127.out) | exact HB.out)) hb); clear HO134; clear HO137; clear BK126; clear BK127; clear HB; have HO134 := n0_; have HO137 := n1_; have BK126 := n2_; have BK127 := n3_; have HB := n4_; clear n0_ n1_ n2_ n3_ n4_; (try clear hb); (try clear hb2); (try clear hk); (try clear hi)))
        (try simp only [Act.put, qs, qt, qu])
        go_cut [60] (fun v60 wc => ∃ (kq : Nat) (x60_17 : Bool), v60 = .bool x60_17 ∧ Aside0 (saltuslaw18_ProofBinds.j0 kq (a0.extract 0 ((ji5) : Int).toNat) y128 x60_17 a2_0 (a2_1.extract 0 ((ji11) : Int).toNat) t132 t135 = some r) ∧ Aside0 (kq ≤ k) ∧ Aside0 (Kd.S (Kd.slice 9 Kd.string) 49 wc w.heap.size (fun k_ => some k_ ≠ ((.slice Ao27 t135.length co27) : Value).ownBlock) (.slice Ao25 t132.length co25) t132) ∧ Aside0 (Kd.S (Kd.slice 9 Kd.string) 49 wc w.heap.size (fun k_ => some k_ ≠ ((.slice Ao25 t132.length co25) : Value).ownBlock) (.slice Ao27 t135.length co27) t135) ∧ Aside0 (wc.heap[gb126]? = some (.cells #[.int .u64 a2_0, .string (a2_1.extract 0 ((ji11) : Int).toNat)] 46 (0, 0))) ∧ Aside0 (wc.heap[gb127]? = some (.cells #[(.slice Ao25 t132.length co25), (.slice Ao27 t135.length co27)] 78 (0, 0))) ∧ Aside0 (Below w.heap.size w wc))
        case first =>
         have H := HC18.out; clear HC18
         by_cases c34 : t142 = 0
         ·rw [if_pos c34] at H; have c34b0 : (t142 == 0) = true := beq_iff_eq.mpr c34; have c34b1 : (t142 != 0) = false := bne_eq_false_iff_eq.mpr c34; clear c34
          (first | rw [c34b0] | (simp only [i64_w, i32_w]; rw [c34b0]) | skip)
          have H' := qf H; clear H; go_wp2
          go_meet
          case rel => exact ⟨_, (!t141), (by first | rfl | (simp; done) | (simp [*]; done)), H', ⟨by first | omega | exact Nat.le_refl _⟩, ⟨by (with_reducible repeat (first | apply Kd.S_alloc | apply Kd.S_drewN | apply Kd.S_drew)); exact HO134.out⟩, ⟨by (with_reducible repeat (first | apply Kd.S_alloc | apply Kd.S_drewN | apply Kd.S_drew)); exact HO137.out⟩, ⟨by (with_reducible repeat (first | refine blk_drewN ?_ _ | refine blk_drew ?_ | refine qh ?_ _)); exact BK126.out⟩, ⟨by (with_reducible repeat (first | refine blk_drewN ?_ _ | refine blk_drew ?_ | refine qh ?_ _)); exact BK127.out⟩, ⟨by repeat (first | (with_reducible first | exact HB.out | apply qa | apply qb | apply qc | refine qg ?_ GE126.out | refine qg ?_ GE127.out) | exact HB.out)⟩⟩
         ·rw [if_neg c34] at H; have c34b0 : (t142 == 0) = false := beq_eq_false_iff_ne.mpr c34; have c34b1 : (t142 != 0) = true := bne_iff_ne.mpr c34
          (first | rw [c34b0] | (simp only [i64_w, i32_w]; rw [c34b0]) | skip)
          have H' := qf H; clear H; go_wp2
          go_meet
          case rel => exact ⟨_, (true), (by first | rfl | (simp; done) | (simp [*]; done)), H', ⟨by first | omega | exact Nat.le_refl _⟩, ⟨by (with_reducible repeat (first | apply Kd.S_alloc | apply Kd.S_drewN | apply Kd.S_drew)); exact HO134.out⟩, ⟨by (with_reducible repeat (first | apply Kd.S_alloc | apply Kd.S_drewN | apply Kd.S_drew)); exact HO137.out⟩, ⟨by (with_reducible repeat (first | refine blk_drewN ?_ _ | refine blk_drew ?_ | refine qh ?_ _)); exact BK126.out⟩, ⟨by (with_reducible repeat (first | refine blk_drewN ?_ _ | refine blk_drew ?_ | refine qh ?_ _)); exact BK127.out⟩, ⟨by repeat (first | (with_reducible first | exact HB.out | apply qa | apply qb | apply qc | refine qg ?_ GE126.out | refine qg ?_ GE127.out) | exact HB.out)⟩⟩
        case rest =>
         clear HC18; (try clear c1); (try clear p2); (try clear q2); (try clear c3); (try clear c5); (try clear c6); (try clear c6b0); (try clear c6b1); (try clear c7); (try clear c7b0); (try clear c7b1); (try clear c9); (try clear c9b0); (try clear c9b1); (try clear c10); (try clear c10b0); (try clear c10b1); (try clear c12); (try clear c12b0); (try clear c12b1); (try clear c13); (try clear c13b0); (try clear c13b1); (try clear c15); (try clear c16); (try clear c16b0); (try clear c16b1); (try clear q22); (try clear c30); (try clear c31); (try clear c34); (try clear c34b0); (try clear c34b1); (try clear hcz31_0); (try clear hcz31_1); (try clear hcz32_0); (try clear hcz32_1); (try clear hfz31_0); (try clear hfz31_1); (try clear hfz32_0); (try clear hfz32_1); (try clear q22); obtain ⟨kq, x60_17, rfl, HA, HJ17, HO_128000, HO_128001, BK126, BK127, HB⟩ := hcut
         cases kq with
         | zero => exact absurd HA.out (by simp [saltuslaw18_ProofBinds.j0])
         | succ kj17 =>
          have H := HA.out; clear HA; simp only [saltuslaw18_ProofBinds.j0] at H
          by_cases c35 : x60_17 = true
          ·subst c35
           have H1 : ((saltuslaw18_alive.f).bind fun t143 => (some t143)) = some r := by rw [if_pos rfl] at H; exact H
           clear H; have H := H1; clear H1; replace H := qi H; obtain ⟨t143, A360, H⟩ := H
           (try dsimp only at H)
           have A36 := qf A360; clear A360; obtain rfl := Option.some.inj H
           go_wp2_with (first | ((with_reducible refine gate_callee (f := 56) rfl ?_); refine goesL_ (some 61) rfl rfl Tryd.func56 (by kernel_rfl) rfl #[] rfl (by (try simp only [List.map_toArray, List.map_cons, List.map_nil]); first | done | rfl | (simp only [List.length_drop, qw]; rfl)) ?_; (with_reducible refine (saltuslaw18_alive.calls  t143 _ A36.out (Tower.tab_below HT.out (by repeat (first | (with_reducible first | exact HB.out | apply qa | apply qb | apply qc | refine qg ?_ GE126.out | refine qg ?_ GE127.out) | exact HB.out)) (Nat.le_refl _))).mono ?_); rintro e w37 ⟨rfl, hb⟩; refine ⟨_, rfl, ?_⟩; have n0_ := qf (Kd.S_below (by (with_reducible repeat (first | apply Kd.S_alloc | apply Kd.S_drewN | apply Kd.S_drew)); exact HO_128000.out) hb); have n1_ := qf (Kd.S_below (by (with_reducible repeat (first | apply Kd.S_alloc | apply Kd.S_drewN | apply Kd.S_drew)); exact HO_128001.out) hb); have n2_ := qf (blk_below (g := gb126) (o := .cells #[.int .u64 a2_0, .string (a2_1.extract 0 ((ji11) : Int).toNat)] 46 (0, 0)) (by (with_reducible repeat (first | refine blk_drewN ?_ _ | refine blk_drew ?_ | refine qh ?_ _)); exact BK126.out) hb); have n3_ := qf (blk_below (g := gb127) (o := .cells #[.slice Ao25 t132.length co25, .slice Ao27 t135.length co27] 78 (0, 0)) (by (with_reducible repeat (first | refine blk_drewN ?_ _ | refine blk_drew ?_ | refine qh ?_ _)); exact BK127.out) hb); have n4_ := qf (below_step (by repeat (first | (with_reducible first | exact HB.out | apply qa | apply qb | apply qc | refine qg ?_ GE126.out | refine qg ?_ GE127.out) | exact HB.out)) hb); clear HO_128000; clear HO_128001; clear BK126; clear BK127; clear HB; have HO_128000 := n0_; have HO_128001 := n1_; have BK126 := n2_; have BK127 := n3_; have HB := n4_; clear n0_ n1_ n2_ n3_ n4_; (try clear hb); (try clear hb2); (try clear hk); (try clear hi)))
           go_ret; exact ⟨by first | rfl | (simp [errW_none, errW_some] <;> rfl) | (simp only [← hji5, ← hji8, ← hji11]; first | rfl | (simp [errW_none, errW_some] <;> rfl)) | (simp [*, errW_none, errW_some] <;> rfl), by repeat (first | (with_reducible first | exact HB.out | apply qa | apply qb | apply qc | refine qg ?_ GE126.out | refine qg ?_ GE127.out) | exact HB.out)⟩
          ·replace c35 := Bool.eq_false_iff.mpr c35; subst c35
           have H1 : (saltuslaw18_ProofBinds.l0 kj17 (a0.extract 0 ((ji5) : Int).toNat) y128 y128 (y128.length : Int) 0 a2_0 (a2_1.extract 0 ((ji11) : Int).toNat) t132 t135) = some r := by rw [if_neg (show ¬ (false = true) by decide)] at H; exact H
           clear H; have H := H1; clear H1; have H' := qf H; clear H; go_wp2
           go_loopg [64] kj17 (fun kq v64 w' => ∃ (x64_2 : Int), v64 = .int .i64 x64_2 ∧ Aside0 (saltuslaw18_ProofBinds.l0 kq (a0.extract 0 ((ji5) : Int).toNat) y128 y128 (y128.length : Int) x64_2 a2_0 (a2_1.extract 0 ((ji11) : Int).toNat) t132 t135 = some r) ∧ Aside0 (kq ≤ kj17) ∧ Aside0 (Kd.S (Kd.slice 9 Kd.string) 49 w' w.heap.size (fun k_ => some k_ ≠ ((.slice Ao27 t135.length co27) : Value).ownBlock) (.slice Ao25 t132.length co25) t132) ∧ Aside0 (Kd.S (Kd.slice 9 Kd.string) 49 w' w.heap.size (fun k_ => some k_ ≠ ((.slice Ao25 t132.length co25) : Value).ownBlock) (.slice Ao27 t135.length co27) t135) ∧ Aside0 (w'.heap[gb126]? = some (.cells #[.int .u64 a2_0, .string (a2_1.extract 0 ((ji11) : Int).toNat)] 46 (0, 0))) ∧ Aside0 (w'.heap[gb127]? = some (.cells #[(.slice Ao25 t132.length co25), (.slice Ao27 t135.length co27)] 78 (0, 0))) ∧ Aside0 (Below w.heap.size w w'))
           case atStart => exact ⟨(0), (by first | rfl | (simp; done) | (simp [*]; done)), H', ⟨Nat.le_refl _⟩, ⟨by (with_reducible repeat (first | apply Kd.S_alloc | apply Kd.S_drewN | apply Kd.S_drew)); exact HO_128000.out⟩, ⟨by (with_reducible repeat (first | apply Kd.S_alloc | apply Kd.S_drewN | apply Kd.S_drew)); exact HO_128001.out⟩, ⟨by (with_reducible repeat (first | refine blk_drewN ?_ _ | refine blk_drew ?_ | refine qh ?_ _)); exact BK126.out⟩, ⟨by (with_reducible repeat (first | refine blk_drewN ?_ _ | refine blk_drew ?_ | refine qh ?_ _)); exact BK127.out⟩, ⟨by repeat (first | (with_reducible first | exact HB.out | apply qa | apply qb | apply qc | refine qg ?_ GE126.out | refine qg ?_ GE127.out) | exact HB.out)⟩⟩
           case round =>
            clear H'; (try clear c1); (try clear p2); (try clear q2); (try clear c3); (try clear c5); (try clear c6); (try clear c6b0); (try clear c6b1); (try clear c7); (try clear c7b0); (try clear c7b1); (try clear c9); (try clear c9b0); (try clear c9b1); (try clear c10); (try clear c10b0); (try clear c10b1); (try clear c12); (try clear c12b0); (try clear c12b1); (try clear c13); (try clear c13b0); (try clear c13b1); (try clear c15); (try clear c16); (try clear c16b0); (try clear c16b1); (try clear q22); (try clear c30); (try clear c31); (try clear c34); (try clear c34b0); (try clear c34b1); (try clear c35); (try clear hcz31_0); (try clear hcz31_1); (try clear hcz32_0); (try clear hcz32_1); (try clear hfz31_0); (try clear hfz31_1); (try clear hfz32_0); (try clear hfz32_1); (try clear p2); (try clear q2); (try clear q22); obtain ⟨x64_2, rfl, HA, HK2, HO_128000, HO_128001, BK126, BK127, HB⟩ := hrel
            cases gk with
            | zero => exact absurd HA.out (by simp [saltuslaw18_ProofBinds.l0])
            | succ k2 =>
             have H := HA.out; clear HA; simp only [saltuslaw18_ProofBinds.l0] at H
             by_cases c38 : x64_2 < (y128.length : Int)
             ·rw [if_pos c38] at H; have c38b0 : decide (x64_2 < (y128.length : Int)) = true := qj c38; clear c38
              by_cases c39 : 0 ≤ x64_2
              ·rw [if_pos c39] at H; have c39b0 : decide (0 ≤ x64_2) = true := qj c39; clear c39
               by_cases c40 : x64_2 < (y128.length : Int)
               ·rw [if_pos c40] at H; have c40b0 : decide (x64_2 < (y128.length : Int)) = true := qj c40; clear c40
                by_cases c41 : (a2_0 == ((rd_T46 y128 x64_2).f0) && ((a2_1.extract 0 ((ji11) : Int).toNat).toList == (((rd_T46 y128 x64_2).f1).toList))) = true
                ·rw [if_pos c41] at H; have c41b0 : (a2_0 == ((rd_T46 y128 x64_2).f0) && ((a2_1.extract 0 ((ji11) : Int).toNat).toList == (((rd_T46 y128 x64_2).f1).toList))) = true := c41
                 (try (have c41b1 : decide (a2_0 = ((rd_T46 y128 x64_2).f0) && ((a2_1.extract 0 ((ji11) : Int).toNat).toList == (((rd_T46 y128 x64_2).f1).toList))) = true := by simpa using c41))
                 (try (have c41b2 : (a2_0 == ((rd_T46 y128 x64_2).f0) && ((a2_1.extract 0 ((ji11) : Int).toNat).toList == (((rd_T46 y128 x64_2).f1).toList))) = true := by simpa using c41))
                 clear c41; replace H := qi H; obtain ⟨t146, A420, H⟩ := H
                 (try dsimp only at H)
                 have A42 := qf A420; clear A420; obtain rfl := Option.some.inj H; have p144 : 0 ≤ (x64_2 : Int) := qe (by first | (with_reducible assumption) | assumption); have q144 : x64_2 < (y128.length : Int) := qe (by first | (with_reducible assumption) | assumption); obtain ⟨ad144, e144, hx144_0, hx144_1⟩ := at_T46 HR131.out x64_2 p144 q144; cases e144; replace hx144_0 := (HB.out.cell (qd w _ hx144_0)).trans hx144_0; replace hx144_1 := (HB.out.cell (qd w _ hx144_1)).trans hx144_1; replace p144 := eq_true p144; replace q144 := eq_true q144
                 go_wp2_with (first | ((with_reducible refine gate_dst (N := 14) rfl ?_); refine box_event ?hg (N := 14) ?hd (cs := #[.int .u64 0, .string (⟨#[]⟩ : ByteArray)]) (t := 46) ?hr ?_; (case hd => rfl); (case hg => rfl); (case hr => first | (go_simp; done) | (go_simp; rfl)); intro gb145 hg w43 hbox hb; have n0_ := qf (Kd.S_below (by (with_reducible repeat (first | apply Kd.S_alloc | apply Kd.S_drewN | apply Kd.S_drew)); exact HO_128000.out) hb); have n1_ := qf (Kd.S_below (by (with_reducible repeat (first | apply Kd.S_alloc | apply Kd.S_drewN | apply Kd.S_drew)); exact HO_128001.out) hb); have n2_ := qf (blk_below (g := gb126) (o := .cells #[.int .u64 a2_0, .string (a2_1.extract 0 ((ji11) : Int).toNat)] 46 (0, 0)) (by (with_reducible repeat (first | refine blk_drewN ?_ _ | refine blk_drew ?_ | refine qh ?_ _)); exact BK126.out) hb); have n3_ := qf (blk_below (g := gb127) (o := .cells #[.slice Ao25 t132.length co25, .slice Ao27 t135.length co27] 78 (0, 0)) (by (with_reducible repeat (first | refine blk_drewN ?_ _ | refine blk_drew ?_ | refine qh ?_ _)); exact BK127.out) hb); have n4_ := qf (below_step (by repeat (first | (with_reducible first | exact HB.out | apply qa | apply qb | apply qc | refine qg ?_ GE126.out | refine qg ?_ GE127.out) | exact HB.out)) hb); have n5_ := qf (hbox); have n6_ := qf ((by rw [hg]; exact (below_size (by repeat (first | (with_reducible first | exact HB.out | apply qa | apply qb | apply qc | refine qg ?_ GE126.out | refine qg ?_ GE127.out) | exact HB.out))) : w.heap.size ≤ gb145)); have n7_ := qf ((by rw [hg]; exact (below_size (by repeat (first | (with_reducible first | exact HB.out | apply qa | apply qb | apply qc | refine qg ?_ GE126.out | refine qg ?_ GE127.out) | exact HB.out))) : w.heap.size ≤ gb145)); have n8_ := qf ((by rw [hg]; exact Nat.ne_of_lt (blk_lt (g := gb126) (o := .cells #[.int .u64 a2_0, .string (a2_1.extract 0 ((ji11) : Int).toNat)] 46 (0, 0)) (by (with_reducible repeat (first | refine blk_drewN ?_ _ | refine blk_drew ?_ | refine qh ?_ _)); exact BK126.out)) : gb126 ≠ gb145)); have n9_ := qf ((by rw [hg]; exact Nat.ne_of_gt (blk_lt (g := gb126) (o := .cells #[.int .u64 a2_0, .string (a2_1.extract 0 ((ji11) : Int).toNat)] 46 (0, 0)) (by (with_reducible repeat (first | refine blk_drewN ?_ _ | refine blk_drew ?_ | refine qh ?_ _)); exact BK126.out)) : gb145 ≠ gb126)); have n10_ := qf ((by rw [hg]; exact Nat.ne_of_lt (blk_lt (g := gb127) (o := .cells #[.slice Ao25 t132.length co25, .slice Ao27 t135.length co27] 78 (0, 0)) (by (with_reducible repeat (first | refine blk_drewN ?_ _ | refine blk_drew ?_ | refine qh ?_ _)); exact BK127.out)) : gb127 ≠ gb145)); have n11_ := qf ((by rw [hg]; exact Nat.ne_of_gt (blk_lt (g := gb127) (o := .cells #[.slice Ao25 t132.length co25, .slice Ao27 t135.length co27] 78 (0, 0)) (by (with_reducible repeat (first | refine blk_drewN ?_ _ | refine blk_drew ?_ | refine qh ?_ _)); exact BK127.out)) : gb145 ≠ gb127)); clear HO_128000; clear HO_128001; clear BK126; clear BK127; clear HB; have HO_128000 := n0_; have HO_128001 := n1_; have BK126 := n2_; have BK127 := n3_; have HB := n4_; have BK145 := n5_; have GW145 := n6_; have GE145 := n7_; have NB126_145 := n8_; have NB145_126 := n9_; have NB127_145 := n10_; have NB145_127 := n11_; clear n0_ n1_ n2_ n3_ n4_ n5_ n6_ n7_ n8_ n9_ n10_ n11_; clear hb hbox hg; have hnb44 := NB145_126.out; have hnc44 := NB126_145.out; have hnb45 := NB145_127.out; have hnc45 := NB127_145.out; have hcz46_0 : w43.cell? ⟨gb145, 0, none⟩ = some (.int .u64 0) := (blk_cell BK145.out 0).trans rfl; have hcz46_1 : w43.cell? ⟨gb145, 1, none⟩ = some (.string (⟨#[]⟩ : ByteArray)) := (blk_cell BK145.out 1).trans rfl; have hfz46_0 := blk_frozen BK145.out 0; have hfz46_1 := blk_frozen BK145.out 1; have hnb47 := NB126_127.out; have hnc47 := NB127_126.out; have hcz48_0 : w43.cell? ⟨gb126, 0, none⟩ = some (.int .u64 a2_0) := (blk_cell BK126.out 0).trans rfl; have hcz48_1 : w43.cell? ⟨gb126, 1, none⟩ = some (.string (a2_1.extract 0 ((ji11) : Int).toNat)) := (blk_cell BK126.out 1).trans rfl; have hfz48_0 := blk_frozen BK126.out 0; have hfz48_1 := blk_frozen BK126.out 1) | ((with_reducible refine gate_callee (f := 56) rfl ?_); refine goesL_ (some 71) rfl rfl Tryd.func56 (by kernel_rfl) rfl #[] rfl (by (try simp only [List.map_toArray, List.map_cons, List.map_nil]); first | done | rfl | (simp only [List.length_drop, qw]; rfl)) ?_; (with_reducible refine (saltuslaw18_alive.calls  t146 _ A42.out (Tower.tab_below HT.out (by repeat (first | (with_reducible first | exact HB.out | apply qa | apply qb | apply qc | refine qg ?_ GE126.out | refine qg ?_ GE127.out | refine qg ?_ GE145.out) | exact HB.out)) (Nat.le_refl _))).mono ?_); rintro e w49 ⟨rfl, hb⟩; refine ⟨_, rfl, ?_⟩; have n0_ := qf (Kd.S_below (by (with_reducible repeat (first | apply Kd.S_alloc | apply Kd.S_drewN | apply Kd.S_drew)); exact (Kd.S_mono (Kd.S_far (p := ⟨gb145, 1, none⟩) (Kd.S_far (p := ⟨gb145, 0, none⟩) (Kd.S_types HO_128000.out BK145.out (by decide)) (fun _ hk => hk.2) (.int .u64 ((rd_T46 y128 x64_2).f0))) (fun _ hk => hk.2) (.string ((rd_T46 y128 x64_2).f1))) (fun _ h_ => h_.1))) hb); have n1_ := qf (Kd.S_below (by (with_reducible repeat (first | apply Kd.S_alloc | apply Kd.S_drewN | apply Kd.S_drew)); exact (Kd.S_mono (Kd.S_far (p := ⟨gb145, 1, none⟩) (Kd.S_far (p := ⟨gb145, 0, none⟩) (Kd.S_types HO_128001.out BK145.out (by decide)) (fun _ hk => hk.2) (.int .u64 ((rd_T46 y128 x64_2).f0))) (fun _ hk => hk.2) (.string ((rd_T46 y128 x64_2).f1))) (fun _ h_ => h_.1))) hb); have n2_ := qf (blk_below (g := gb126) (o := .cells #[.int .u64 a2_0, .string (a2_1.extract 0 ((ji11) : Int).toNat)] 46 (0, 0)) (by (with_reducible repeat (first | refine blk_drewN ?_ _ | refine blk_drew ?_ | refine qh ?_ _)); refine blk_far ?_ NB126_145.out _; (with_reducible repeat (first | refine blk_drewN ?_ _ | refine blk_drew ?_ | refine qh ?_ _)); refine blk_far ?_ NB126_145.out _; (with_reducible repeat (first | refine blk_drewN ?_ _ | refine blk_drew ?_ | refine qh ?_ _)); exact BK126.out) hb); have n3_ := qf (blk_below (g := gb127) (o := .cells #[.slice Ao25 t132.length co25, .slice Ao27 t135.length co27] 78 (0, 0)) (by (with_reducible repeat (first | refine blk_drewN ?_ _ | refine blk_drew ?_ | refine qh ?_ _)); refine blk_far ?_ NB127_145.out _; (with_reducible repeat (first | refine blk_drewN ?_ _ | refine blk_drew ?_ | refine qh ?_ _)); refine blk_far ?_ NB127_145.out _; (with_reducible repeat (first | refine blk_drewN ?_ _ | refine blk_drew ?_ | refine qh ?_ _)); exact BK127.out) hb); have n4_ := qf (blk_below (g := gb145) (o := .cells #[.int .u64 ((rd_T46 y128 x64_2).f0), .string ((rd_T46 y128 x64_2).f1)] 46 (0, 0)) (by (with_reducible repeat (first | refine blk_drewN ?_ _ | refine blk_drew ?_ | refine qh ?_ _)); refine blk_put (cs := #[.int .u64 ((rd_T46 y128 x64_2).f0), .string (⟨#[]⟩ : ByteArray)]) ?_ 1 _ rfl; (with_reducible repeat (first | refine blk_drewN ?_ _ | refine blk_drew ?_ | refine qh ?_ _)); refine blk_put (cs := #[.int .u64 0, .string (⟨#[]⟩ : ByteArray)]) ?_ 0 _ rfl; (with_reducible repeat (first | refine blk_drewN ?_ _ | refine blk_drew ?_ | refine qh ?_ _)); exact BK145.out) hb); have n5_ := qf (below_step (by repeat (first | (with_reducible first | exact HB.out | apply qa | apply qb | apply qc | refine qg ?_ GE126.out | refine qg ?_ GE127.out | refine qg ?_ GE145.out) | exact HB.out)) hb); clear HO_128000; clear HO_128001; clear BK126; clear BK127; clear BK145; clear HB; have HO_128000 := n0_; have HO_128001 := n1_; have BK126 := n2_; have BK127 := n3_; have BK145 := n4_; have HB := n5_; clear n0_ n1_ n2_ n3_ n4_ n5_; (try clear hb); (try clear hb2); (try clear hk); (try clear hi)))
                 go_ret; exact ⟨by first | rfl | (simp [errW_none, errW_some] <;> rfl) | (simp only [← hji5, ← hji8, ← hji11]; first | rfl | (simp [errW_none, errW_some] <;> rfl)) | (simp [*, errW_none, errW_some] <;> rfl), by repeat (first | (with_reducible first | exact HB.out | apply qa | apply qb | apply qc | refine qg ?_ GE126.out | refine qg ?_ GE127.out | refine qg ?_ GE145.out) | exact HB.out)⟩
                ·rw [if_neg c41] at H
                 have c41b0 : (a2_0 == ((rd_T46 y128 x64_2).f0) && ((a2_1.extract 0 ((ji11) : Int).toNat).toList == (((rd_T46 y128 x64_2).f1).toList))) = false := by simpa using c41
                 (try (have c41b1 : decide (a2_0 = ((rd_T46 y128 x64_2).f0) && ((a2_1.extract 0 ((ji11) : Int).toNat).toList == (((rd_T46 y128 x64_2).f1).toList))) = false := by simpa using c41))
                 (try (have c41b2 : (a2_0 == ((rd_T46 y128 x64_2).f0) && ((a2_1.extract 0 ((ji11) : Int).toNat).toList == (((rd_T46 y128 x64_2).f1).toList))) = false := by simpa using c41))
                 (try (have c41b3 : ¬ (a2_0 = ((rd_T46 y128 x64_2).f0) && ((a2_1.extract 0 ((ji11) : Int).toNat).toList == (((rd_T46 y128 x64_2).f1).toList))) := by simpa using c41))
                 clear c41; have H' := qf H; clear H; have p144 : 0 ≤ (x64_2 : Int) := qe (by first | (with_reducible assumption) | assumption); have q144 : x64_2 < (y128.length : Int) := qe (by first | (with_reducible assumption) | assumption); obtain ⟨ad144, e144, hx144_0, hx144_1⟩ := at_T46 HR131.out x64_2 p144 q144; cases e144; replace hx144_0 := (HB.out.cell (qd w _ hx144_0)).trans hx144_0; replace hx144_1 := (HB.out.cell (qd w _ hx144_1)).trans hx144_1; replace p144 := eq_true p144; replace q144 := eq_true q144
                 go_wp2_with (first | ((with_reducible refine gate_dst (N := 14) rfl ?_); refine box_event ?hg (N := 14) ?hd (cs := #[.int .u64 0, .string (⟨#[]⟩ : ByteArray)]) (t := 46) ?hr ?_; (case hd => rfl); (case hg => rfl); (case hr => first | (go_simp; done) | (go_simp; rfl)); intro gb145 hg w50 hbox hb; have n0_ := qf (Kd.S_below (by (with_reducible repeat (first | apply Kd.S_alloc | apply Kd.S_drewN | apply Kd.S_drew)); exact HO_128000.out) hb); have n1_ := qf (Kd.S_below (by (with_reducible repeat (first | apply Kd.S_alloc | apply Kd.S_drewN | apply Kd.S_drew)); exact HO_128001.out) hb); have n2_ := qf (blk_below (g := gb126) (o := .cells #[.int .u64 a2_0, .string (a2_1.extract 0 ((ji11) : Int).toNat)] 46 (0, 0)) (by (with_reducible repeat (first | refine blk_drewN ?_ _ | refine blk_drew ?_ | refine qh ?_ _)); exact BK126.out) hb); have n3_ := qf (blk_below (g := gb127) (o := .cells #[.slice Ao25 t132.length co25, .slice Ao27 t135.length co27] 78 (0, 0)) (by (with_reducible repeat (first | refine blk_drewN ?_ _ | refine blk_drew ?_ | refine qh ?_ _)); exact BK127.out) hb); have n4_ := qf (below_step (by repeat (first | (with_reducible first | exact HB.out | apply qa | apply qb | apply qc | refine qg ?_ GE126.out | refine qg ?_ GE127.out) | exact HB.out)) hb); have n5_ := qf (hbox); have n6_ := qf ((by rw [hg]; exact (below_size (by repeat (first | (with_reducible first | exact HB.out | apply qa | apply qb | apply qc | refine qg ?_ GE126.out | refine qg ?_ GE127.out) | exact HB.out))) : w.heap.size ≤ gb145)); have n7_ := qf ((by rw [hg]; exact (below_size (by repeat (first | (with_reducible first | exact HB.out | apply qa | apply qb | apply qc | refine qg ?_ GE126.out | refine qg ?_ GE127.out) | exact HB.out))) : w.heap.size ≤ gb145)); have n8_ := qf ((by rw [hg]; exact Nat.ne_of_lt (blk_lt (g := gb126) (o := .cells #[.int .u64 a2_0, .string (a2_1.extract 0 ((ji11) : Int).toNat)] 46 (0, 0)) (by (with_reducible repeat (first | refine blk_drewN ?_ _ | refine blk_drew ?_ | refine qh ?_ _)); exact BK126.out)) : gb126 ≠ gb145)); have n9_ := qf ((by rw [hg]; exact Nat.ne_of_gt (blk_lt (g := gb126) (o := .cells #[.int .u64 a2_0, .string (a2_1.extract 0 ((ji11) : Int).toNat)] 46 (0, 0)) (by (with_reducible repeat (first | refine blk_drewN ?_ _ | refine blk_drew ?_ | refine qh ?_ _)); exact BK126.out)) : gb145 ≠ gb126)); have n10_ := qf ((by rw [hg]; exact Nat.ne_of_lt (blk_lt (g := gb127) (o := .cells #[.slice Ao25 t132.length co25, .slice Ao27 t135.length co27] 78 (0, 0)) (by (with_reducible repeat (first | refine blk_drewN ?_ _ | refine blk_drew ?_ | refine qh ?_ _)); exact BK127.out)) : gb127 ≠ gb145)); have n11_ := qf ((by rw [hg]; exact Nat.ne_of_gt (blk_lt (g := gb127) (o := .cells #[.slice Ao25 t132.length co25, .slice Ao27 t135.length co27] 78 (0, 0)) (by (with_reducible repeat (first | refine blk_drewN ?_ _ | refine blk_drew ?_ | refine qh ?_ _)); exact BK127.out)) : gb145 ≠ gb127)); clear HO_128000; clear HO_128001; clear BK126; clear BK127; clear HB; have HO_128000 := n0_; have HO_128001 := n1_; have BK126 := n2_; have BK127 := n3_; have HB := n4_; have BK145 := n5_; have GW145 := n6_; have GE145 := n7_; have NB126_145 := n8_; have NB145_126 := n9_; have NB127_145 := n10_; have NB145_127 := n11_; clear n0_ n1_ n2_ n3_ n4_ n5_ n6_ n7_ n8_ n9_ n10_ n11_; clear hb hbox hg; have hnb51 := NB145_126.out; have hnc51 := NB126_145.out; have hnb52 := NB145_127.out; have hnc52 := NB127_145.out; have hcz53_0 : w50.cell? ⟨gb145, 0, none⟩ = some (.int .u64 0) := (blk_cell BK145.out 0).trans rfl; have hcz53_1 : w50.cell? ⟨gb145, 1, none⟩ = some (.string (⟨#[]⟩ : ByteArray)) := (blk_cell BK145.out 1).trans rfl; have hfz53_0 := blk_frozen BK145.out 0; have hfz53_1 := blk_frozen BK145.out 1; have hnb54 := NB126_127.out; have hnc54 := NB127_126.out; have hcz55_0 : w50.cell? ⟨gb126, 0, none⟩ = some (.int .u64 a2_0) := (blk_cell BK126.out 0).trans rfl; have hcz55_1 : w50.cell? ⟨gb126, 1, none⟩ = some (.string (a2_1.extract 0 ((ji11) : Int).toNat)) := (blk_cell BK126.out 1).trans rfl; have hfz55_0 := blk_frozen BK126.out 0; have hfz55_1 := blk_frozen BK126.out 1))
                 go_roundg k2
                 case measure => have := HJ17.out; have := HK2.out; omega
                 case rel => exact ⟨(wrap64 (x64_2 + 1)), (by first | rfl | (simp; done) | (simp [*]; done)), H', ⟨by have := HJ17.out; have := HK2.out; omega⟩, ⟨by (with_reducible repeat (first | apply Kd.S_alloc | apply Kd.S_drewN | apply Kd.S_drew)); exact Kd.S_mono (Kd.S_far (p := ⟨gb145, 1, none⟩) (Kd.S_far (p := ⟨gb145, 0, none⟩) (Kd.S_types HO_128000.out BK145.out (by decide)) (fun _ hk => hk.2) (.int .u64 ((rd_T46 y128 x64_2).f0))) (fun _ hk => hk.2) (.string ((rd_T46 y128 x64_2).f1))) (fun _ hk => hk.1)⟩, ⟨by (with_reducible repeat (first | apply Kd.S_alloc | apply Kd.S_drewN | apply Kd.S_drew)); exact Kd.S_mono (Kd.S_far (p := ⟨gb145, 1, none⟩) (Kd.S_far (p := ⟨gb145, 0, none⟩) (Kd.S_types HO_128001.out BK145.out (by decide)) (fun _ hk => hk.2) (.int .u64 ((rd_T46 y128 x64_2).f0))) (fun _ hk => hk.2) (.string ((rd_T46 y128 x64_2).f1))) (fun _ hk => hk.1)⟩, ⟨by (with_reducible repeat (first | refine blk_drewN ?_ _ | refine blk_drew ?_ | refine qh ?_ _)); refine blk_far ?_ NB126_145.out _; (with_reducible repeat (first | refine blk_drewN ?_ _ | refine blk_drew ?_ | refine qh ?_ _)); refine blk_far ?_ NB126_145.out _; (with_reducible repeat (first | refine blk_drewN ?_ _ | refine blk_drew ?_ | refine qh ?_ _)); exact BK126.out⟩, ⟨by (with_reducible repeat (first | refine blk_drewN ?_ _ | refine blk_drew ?_ | refine qh ?_ _)); refine blk_far ?_ NB127_145.out _; (with_reducible repeat (first | refine blk_drewN ?_ _ | refine blk_drew ?_ | refine qh ?_ _)); refine blk_far ?_ NB127_145.out _; (with_reducible repeat (first | refine blk_drewN ?_ _ | refine blk_drew ?_ | refine qh ?_ _)); exact BK127.out⟩, ⟨by repeat (first | (with_reducible first | exact HB.out | apply qa | apply qb | apply qc | refine qg ?_ GE126.out | refine qg ?_ GE127.out | refine qg ?_ GE145.out) | exact HB.out)⟩⟩
               ·rw [if_neg c40] at H; exact absurd H (by simp)
              ·rw [if_neg c39] at H; exact absurd H (by simp)
             ·rw [if_neg c38] at H; have c38b0 : decide (x64_2 < (y128.length : Int)) = false := decide_eq_false c38; clear c38; replace H := qi H; obtain ⟨t147, A560, H⟩ := H
              (try dsimp only at H)
              have A56 := qf A560; clear A560
              by_cases c57 : t147 = true
              ·subst c57
               have H1 : ((saltuslaw18_twice.f (a0.extract 0 ((ji5) : Int).toNat) y128 a2_0 (a2_1.extract 0 ((ji11) : Int).toNat) t132 t135).bind fun t148 => (some t148)) = some r := by rw [if_pos rfl] at H; exact H
               clear H; have H := H1; clear H1; replace H := qi H; obtain ⟨t148, A580, H⟩ := H
               (try dsimp only at H)
               have A58 := qf A580; clear A580; obtain rfl := Option.some.inj H
               go_wp2_with (first | ((with_reducible refine gate_callee (f := 56) rfl ?_); refine goesL_ (some 73) rfl rfl Tryd.func56 (by kernel_rfl) rfl #[] rfl (by (try simp only [List.map_toArray, List.map_cons, List.map_nil]); first | done | rfl | (simp only [List.length_drop, qw]; rfl)) ?_; (with_reducible refine (saltuslaw18_alive.calls  true _ A56.out (Tower.tab_below HT.out (by repeat (first | (with_reducible first | exact HB.out | apply qa | apply qb | apply qc | refine qg ?_ GE126.out | refine qg ?_ GE127.out) | exact HB.out)) (Nat.le_refl _))).mono ?_); rintro e w59 ⟨rfl, hb⟩; refine ⟨_, rfl, ?_⟩; have n0_ := qf (Kd.S_below (by (with_reducible repeat (first | apply Kd.S_alloc | apply Kd.S_drewN | apply Kd.S_drew)); exact HO_128000.out) hb); have n1_ := qf (Kd.S_below (by (with_reducible repeat (first | apply Kd.S_alloc | apply Kd.S_drewN | apply Kd.S_drew)); exact HO_128001.out) hb); have n2_ := qf (blk_below (g := gb126) (o := .cells #[.int .u64 a2_0, .string (a2_1.extract 0 ((ji11) : Int).toNat)] 46 (0, 0)) (by (with_reducible repeat (first | refine blk_drewN ?_ _ | refine blk_drew ?_ | refine qh ?_ _)); exact BK126.out) hb); have n3_ := qf (blk_below (g := gb127) (o := .cells #[.slice Ao25 t132.length co25, .slice Ao27 t135.length co27] 78 (0, 0)) (by (with_reducible repeat (first | refine blk_drewN ?_ _ | refine blk_drew ?_ | refine qh ?_ _)); exact BK127.out) hb); have n4_ := qf (below_step (by repeat (first | (with_reducible first | exact HB.out | apply qa | apply qb | apply qc | refine qg ?_ GE126.out | refine qg ?_ GE127.out) | exact HB.out)) hb); clear HO_128000; clear HO_128001; clear BK126; clear BK127; clear HB; have HO_128000 := n0_; have HO_128001 := n1_; have BK126 := n2_; have BK127 := n3_; have HB := n4_; clear n0_ n1_ n2_ n3_ n4_; (try clear hb); (try clear hb2); (try clear hk); (try clear hi); have hnb60 := NB126_127.out; have hnc60 := NB127_126.out; have hcz61_0 : w59.cell? ⟨gb126, 0, none⟩ = some (.int .u64 a2_0) := (blk_cell BK126.out 0).trans rfl; have hcz61_1 : w59.cell? ⟨gb126, 1, none⟩ = some (.string (a2_1.extract 0 ((ji11) : Int).toNat)) := (blk_cell BK126.out 1).trans rfl; have hfz61_0 := blk_frozen BK126.out 0; have hfz61_1 := blk_frozen BK126.out 1; have hcz62_0 : w59.cell? ⟨gb127, 0, none⟩ = some (.slice Ao25 t132.length co25) := (blk_cell BK127.out 0).trans rfl; have hcz62_1 : w59.cell? ⟨gb127, 1, none⟩ = some (.slice Ao27 t135.length co27) := (blk_cell BK127.out 1).trans rfl; have hfz62_0 := blk_frozen BK127.out 0; have hfz62_1 := blk_frozen BK127.out 1) | (go_at_call 59; (with_reducible refine (saltuslaw18_twice.calls (a0.extract 0 ((ji5) : Int).toNat) _ _ y128 a2_0 (a2_1.extract 0 ((ji11) : Int).toNat) _ _ t132 _ _ t135 t148 _ ?side1 ?side2 ?side3 ?side4 ?side5 ?side6 A58.out).mono ?_); (case side1 => repeat (first | exact (Kd.C_below HR131.out HB.out) | (with_reducible refine Kd.C_alloc ?_ _) | (with_reducible refine Kd.C_drewN ?_ _) | (with_reducible refine Kd.C_drew ?_))); (case side2 => exact HC131.out); (case side3 => repeat (first | exact (Kd.S_reads' HO_128000.out).2.2 | (with_reducible refine Kd.C_alloc ?_ _) | (with_reducible refine Kd.C_drewN ?_ _) | (with_reducible refine Kd.C_drew ?_))); (case side4 => exact (Kd.S_reads' HO_128000.out).2.1); (case side5 => repeat (first | exact (Kd.S_reads' HO_128001.out).2.2 | (with_reducible refine Kd.C_alloc ?_ _) | (with_reducible refine Kd.C_drewN ?_ _) | (with_reducible refine Kd.C_drew ?_))); (case side6 => exact (Kd.S_reads' HO_128001.out).2.1); rintro e w63 ⟨rfl, hb⟩; have n0_ := qf (Kd.S_below (by (with_reducible repeat (first | apply Kd.S_alloc | apply Kd.S_drewN | apply Kd.S_drew)); exact HO_128000.out) hb); have n1_ := qf (Kd.S_below (by (with_reducible repeat (first | apply Kd.S_alloc | apply Kd.S_drewN | apply Kd.S_drew)); exact HO_128001.out) hb); have n2_ := qf (blk_below (g := gb126) (o := .cells #[.int .u64 a2_0, .string (a2_1.extract 0 ((ji11) : Int).toNat)] 46 (0, 0)) (by (with_reducible repeat (first | refine blk_drewN ?_ _ | refine blk_drew ?_ | refine qh ?_ _)); exact BK126.out) hb); have n3_ := qf (blk_below (g := gb127) (o := .cells #[.slice Ao25 t132.length co25, .slice Ao27 t135.length co27] 78 (0, 0)) (by (with_reducible repeat (first | refine blk_drewN ?_ _ | refine blk_drew ?_ | refine qh ?_ _)); exact BK127.out) hb); have n4_ := qf (below_step (by repeat (first | (with_reducible first | exact HB.out | apply qa | apply qb | apply qc | refine qg ?_ GE126.out | refine qg ?_ GE127.out) | exact HB.out)) hb); clear HO_128000; clear HO_128001; clear BK126; clear BK127; clear HB; have HO_128000 := n0_; have HO_128001 := n1_; have BK126 := n2_; have BK127 := n3_; have HB := n4_; clear n0_ n1_ n2_ n3_ n4_; (try clear hb); (try clear hb2); (try clear hk); (try clear hi)))
               go_ret; exact ⟨by first | rfl | (simp [errW_none, errW_some] <;> rfl) | (simp only [← hji5, ← hji8, ← hji11]; first | rfl | (simp [errW_none, errW_some] <;> rfl)) | (simp [*, errW_none, errW_some] <;> rfl), by repeat (first | (with_reducible first | exact HB.out | apply qa | apply qb | apply qc | refine qg ?_ GE126.out | refine qg ?_ GE127.out) | exact HB.out)⟩
              ·replace c57 := Bool.eq_false_iff.mpr c57; subst c57
               have H1 : (some false) = some r := by rw [if_neg (show ¬ (false = true) by decide)] at H; exact H
               clear H; have H := H1; clear H1; exact absurd ((Option.some.inj H).trans hr.out) (by decide)
       ·rw [if_neg c16] at H; have c16b0 : (t139 == 0) = false := beq_eq_false_iff_ne.mpr c16; have c16b1 : (t139 != 0) = true := bne_iff_ne.mpr c16; replace H := qi H; obtain ⟨t140, A640, H⟩ := H
        (try dsimp only at H)
        have A64 := qf A640; clear A640
        by_cases c65 : t140 = true
        ·subst c65
         have H1 : (some (t138.toList == ([] : List UInt8))) = some r := by rw [if_pos rfl] at H; exact H
         clear H; have H := H1; clear H1; obtain rfl := Option.some.inj H
         go_enter Tryd.func15, Tryd.ntmps15
         try go_wp2_with (first | ((with_reducible refine gate_dst (N := 6) rfl ?_); refine box_event ?hg (N := 6) ?hd (cs := #[.int .u64 a2_0, .string a2_1]) (t := 46) ?hr ?_; (case hd => rfl); (case hg => rfl); (case hr => first | (go_simp; done) | (go_simp; rfl)); intro gb126 hg w66 hbox hb; have n0_ := qf (below_step (by repeat (first | (with_reducible first | exact HB.out | apply qa | apply qb | apply qc) | exact HB.out)) hb); have n1_ := qf (hbox); have n2_ := qf ((by rw [hg]; exact (below_size (by repeat (first | (with_reducible first | exact HB.out | apply qa | apply qb | apply qc) | exact HB.out))) : w.heap.size ≤ gb126)); have n3_ := qf ((by rw [hg]; exact (below_size (by repeat (first | (with_reducible first | exact HB.out | apply qa | apply qb | apply qc) | exact HB.out))) : w.heap.size ≤ gb126)); clear HB; have HB := n0_; have BK126 := n1_; have GW126 := n2_; have GE126 := n3_; clear n0_ n1_ n2_ n3_; clear hb hbox hg) | ((with_reducible refine gate_dst (N := 7) rfl ?_); refine box_event ?hg (N := 7) ?hd (cs := #[.slice A3_0 l3_0.length c3_0, .slice A3_1 l3_1.length c3_1]) (t := 78) ?hr ?_; (case hd => rfl); (case hg => rfl); (case hr => first | (go_simp; done) | (go_simp; rfl)); intro gb127 hg w67 hbox hb; have n0_ := qf (blk_below (g := gb126) (o := .cells #[.int .u64 a2_0, .string a2_1] 46 (0, 0)) (by (with_reducible repeat (first | refine blk_drewN ?_ _ | refine blk_drew ?_ | refine qh ?_ _)); exact BK126.out) hb); have n1_ := qf (below_step (by repeat (first | (with_reducible first | exact HB.out | apply qa | apply qb | apply qc | refine qg ?_ GE126.out) | exact HB.out)) hb); have n2_ := qf (hbox); have n3_ := qf ((by rw [hg]; exact (below_size (by repeat (first | (with_reducible first | exact HB.out | apply qa | apply qb | apply qc | refine qg ?_ GE126.out) | exact HB.out))) : w.heap.size ≤ gb127)); have n4_ := qf ((by rw [hg]; exact (below_size (by repeat (first | (with_reducible first | exact HB.out | apply qa | apply qb | apply qc | refine qg ?_ GE126.out) | exact HB.out))) : w.heap.size ≤ gb127)); have n5_ := qf ((by rw [hg]; exact Nat.ne_of_lt (blk_lt (g := gb126) (o := .cells #[.int .u64 a2_0, .string a2_1] 46 (0, 0)) (by (with_reducible repeat (first | refine blk_drewN ?_ _ | refine blk_drew ?_ | refine qh ?_ _)); exact BK126.out)) : gb126 ≠ gb127)); have n6_ := qf ((by rw [hg]; exact Nat.ne_of_gt (blk_lt (g := gb126) (o := .cells #[.int .u64 a2_0, .string a2_1] 46 (0, 0)) (by (with_reducible repeat (first | refine blk_drewN ?_ _ | refine blk_drew ?_ | refine qh ?_ _)); exact BK126.out)) : gb127 ≠ gb126)); clear BK126; clear HB; have BK126 := n0_; have HB := n1_; have BK127 := n2_; have GW127 := n3_; have GE127 := n4_; have NB126_127 := n5_; have NB127_126 := n6_; clear n0_ n1_ n2_ n3_ n4_ n5_ n6_; clear hb hbox hg))
         have n0_ := qf (blk_drew BK126.out); have n1_ := qf (blk_drew BK127.out); have n2_ := qf (qc HB.out); clear BK126; clear BK127; clear HB; have BK126 := n0_; have BK127 := n1_; have HB := n2_; clear n0_ n1_ n2_; have q69 : ((ji8) : Int) ≤ ((l1.length : Int) : Int) := qe (by first | (with_reducible assumption) | assumption); obtain ⟨i069, hi069, _, hsz69, _⟩ := info_parts info46; have hroom69 : l1.length ≤ c1 := HC1.out; have hC69 : Kd.C k46 _ A1 l1.length l1 := HR1.out; have hcut69 := cut_to (P := Tryd.prog) 36 46 .i64 Tryd.underlying36 hi069 A1 l1.length c1 (ji8) (qe (by first | (with_reducible assumption) | assumption)) q69 hroom69; have hr69 := Kd.C_take (m := ((ji8) : Int).toNat) hC69 (by omega); have hy69 : y128.length = ((ji8) : Int).toNat := (by rw [Ny128.out, qw]; omega); rw [← Ny128.out] at hr69; rw [← hy69] at hcut69; have HR131 := qf hr69; have HC131 := qf (show y128.length ≤ c1 from by omega); clear hr69 hC69 hroom69 hi069 hsz69; have KY69 := qf hy69; clear hy69; replace q69 := eq_true q69; refine start_ (n := 24) (S := fun w' => w'.cell? ⟨gb126, 0, none⟩ = some (.int .u64 a2_0) ∧ w'.cell? ⟨gb126, 1, none⟩ = some (.string a2_1) ∧ w'.cell? ⟨gb127, 0, none⟩ = some (.slice A3_0 l3_0.length c3_0) ∧ w'.cell? ⟨gb127, 1, none⟩ = some (.slice A3_1 l3_1.length c3_1)) (ds := [22, 23]) (bm 24 0) (by kernel_rfl) rfl rfl ⟨(blk_cell BK126.out 0).trans rfl, (blk_cell BK126.out 1).trans rfl, (blk_cell BK127.out 0).trans rfl, (blk_cell BK127.out 1).trans rfl⟩ (fun hHeld => ?_); refine with_tabW saltuslaw18_ProofBinds.tab1 saltuslaw18_ProofBinds.bits1 (fun HT_ HW_ => ?_); generalize w67.drew = w68 at BK126 BK127 HB HR131 hHeld ⊢; refine qz 0 15 ?_ (bm 24 1) rfl rfl HT_ (by kernel_rfl) (fun _ _ _ h => h) (by rfl) ?_ ?_ ?_ ?_; rotate_left; (intro w'; go_simp; with_reducible rfl); rotate_left; (simp only [Act.put, qs, qt, qu, i64_w, i32_w]; rfl); refine qz 1 16 ?_ (bm 24 3) rfl rfl HT_ (by kernel_rfl) (fun _ _ _ h => h) (by rfl) ?_ ?_ ?_ ?_; rotate_left; (intro w'; go_simp; with_reducible rfl); rotate_left; (simp only [Act.put, qs, qt, qu, i64_w, i32_w]; rfl); refine qz 2 17 ?_ (bm 24 7) rfl rfl HT_ (by kernel_rfl) (fun _ _ _ h => h) (by rfl) ?_ ?_ ?_ ?_; rotate_left; (intro w'; go_simp; with_reducible rfl); rotate_left; (simp only [Act.put, qs, qt, qu, i64_w, i32_w]; rfl); refine qz 3 18 ?_ (bm 24 15) rfl rfl HT_ (by kernel_rfl) (fun _ _ _ h => h) (by rfl) ?_ ?_ ?_ ?_; rotate_left; (intro w'; go_simp; with_reducible rfl); rotate_left; (simp only [Act.put, qs, qt, qu, i64_w, i32_w]; rfl); refine qz 4 19 ?_ (bm 24 31) rfl rfl HT_ (by kernel_rfl) (fun _ _ _ h => h) (by rfl) ?_ ?_ ?_ ?_; rotate_left; (intro w'; go_simp; with_reducible rfl); rotate_left; (simp only [Act.put, qs, qt, qu, i64_w, i32_w]; rfl); refine qz 5 20 ?_ (bm 24 63) rfl rfl HT_ (by kernel_rfl) (fun _ _ _ h => h) (by rfl) ?_ ?_ ?_ ?_; rotate_left; (intro w'; go_simp; with_reducible rfl); rotate_left; (simp only [Act.put, qs, qt, qu, i64_w, i32_w]; rfl)
         refine qz 6 21 ?_ (bm 24 127) rfl rfl HT_ (by kernel_rfl) (fun _ _ _ h => h) (by rfl) ?_ ?_ ?_ ?_; rotate_left; (intro w'; go_simp; with_reducible rfl); rotate_left; (simp only [Act.put, qs, qt, qu, i64_w, i32_w]; rfl); refine qz 7 22 ?_ (bm 24 255) rfl rfl HT_ (by kernel_rfl) (fun _ _ _ h => h) (by rfl) ?_ ?_ ?_ ?_; rotate_left; (intro w'; go_simp; with_reducible rfl); rotate_left; (simp only [Act.put, qs, qt, qu, i64_w, i32_w]; rfl); refine qz 8 23 ?_ (bm 24 511) rfl rfl HT_ (by kernel_rfl) (fun _ _ _ h => h) (by rfl) ?_ ?_ ?_ ?_; rotate_left; (intro w'; go_simp; with_reducible rfl); rotate_left; (simp only [Act.put, qs, qt, qu, i64_w, i32_w]; rfl); refine qz 9 24 ?_ (bm 24 1023) rfl rfl HT_ (by kernel_rfl) (fun _ _ _ h => h) (by rfl) ?_ ?_ ?_ ?_; rotate_left; (intro w'; go_simp; with_reducible rfl); rotate_left; (simp only [Act.put, qs, qt, qu, i64_w, i32_w]; rfl); refine qz 10 25 ?_ (bm 24 2047) rfl rfl HT_ (by kernel_rfl) (fun _ _ _ h => h) (by rfl) ?_ ?_ ?_ ?_; rotate_left; (intro w'; go_simp; with_reducible rfl); rotate_left; (simp only [Act.put, qs, qt, qu, i64_w, i32_w]; rfl); refine qz 12 27 ?_ (bm 24 6143) rfl rfl HT_ (by kernel_rfl) (fun _ _ _ h => h) (by rfl) ?_ ?_ ?_ ?_; rotate_left; (intro w'; go_simp; with_reducible rfl); rotate_left; (simp only [Act.put, qs, qt, qu, i64_w, i32_w]; rfl); refine take_ (i := 11) (N := some 26) (v := ?_) (a' := ?_) (bm 24 8191) rfl rfl (take_ofW HT_.out HW_.out (by kernel_rfl)) (fun _ _ _ h => h) (Or.inl ⟨by rfl, ?_⟩) hHeld ?_ ?_; rotate_left
         ·rintro w' ⟨s0, s1, s2, s3⟩
          go_simp; with_reducible rfl
         rotate_left; (simp only [Act.put, qs, qt, qu, i64_w, i32_w]; rfl); refine take_ (i := 13) (N := some 28) (v := ?_) (a' := ?_) (bm 24 16383) rfl rfl (take_ofW HT_.out HW_.out (by kernel_rfl)) (fun _ _ _ h => h) (Or.inl ⟨by rfl, ?_⟩) hHeld ?_ ?_; rotate_left
         ·rintro w' ⟨s0, s1, s2, s3⟩
          go_simp; with_reducible rfl
         rotate_left; (simp only [Act.put, qs, qt, qu, i64_w, i32_w]; rfl); refine qz 14 29 ?_ (bm 24 32767) rfl rfl HT_ (by kernel_rfl) (fun _ _ _ h => h) (by rfl) ?_ ?_ ?_ ?_; rotate_left; (intro w'; go_simp; with_reducible rfl); rotate_left; (simp only [Act.put, qs, qt, qu, i64_w, i32_w]; rfl); refine qz 15 30 ?_ (bm 24 65535) rfl rfl HT_ (by kernel_rfl) (fun _ _ _ h => h) (by rfl) ?_ ?_ ?_ ?_; rotate_left; (intro w'; go_simp; with_reducible rfl); rotate_left; (simp only [Act.put, qs, qt, qu, i64_w, i32_w]; rfl); refine qz 16 31 ?_ (bm 24 131071) rfl rfl HT_ (by kernel_rfl) (fun _ _ _ h => h) (by rfl) ?_ ?_ ?_ ?_; rotate_left; (intro w'; go_simp; with_reducible rfl); rotate_left; (simp only [Act.put, qs, qt, qu, i64_w, i32_w]; rfl); refine take_ (i := 17) (N := some 32) (v := ?_) (a' := ?_) (bm 24 262143) rfl rfl (take_ofW HT_.out HW_.out (by kernel_rfl)) (fun _ _ _ h => h) (Or.inl ⟨by rfl, ?_⟩) hHeld ?_ ?_; rotate_left
         ·rintro w' ⟨s0, s1, s2, s3⟩
          go_simp; with_reducible rfl
         rotate_left; (simp only [Act.put, qs, qt, qu, i64_w, i32_w]; rfl); refine one_ (i := 18) (N := some 33) (bm 24 524287) rfl rfl (one_of HT_.out (by kernel_rfl)) (by decide) (fun K hK => ?_); refine goes_ Tryd.func52 (by kernel_rfl) rfl #[.agg #[.slice A3_0 l3_0.length c3_0, .slice A3_1 l3_1.length c3_1]] (by rfl) rfl rfl (by (try simp only [List.map_toArray, List.map_cons, List.map_nil]); first | done | rfl | (simp only [List.length_drop, qw]; rfl)) ?_
         with_reducible refine (saltuslaw18_few.calls _ _ l3_0 _ _ l3_1 t132 t135 _ ?side1 ?side2 ?side3 ?side4 A14.out).mono ?_
         (case side1 => repeat (first | exact (Kd.C_below HR3_0.out HB.out) | (with_reducible refine Kd.C_alloc ?_ _) | (with_reducible refine Kd.C_drewN ?_ _) | (with_reducible refine Kd.C_drew ?_)))
         (case side2 => exact HC3_0.out)
         (case side3 => repeat (first | exact (Kd.C_below HR3_1.out HB.out) | (with_reducible refine Kd.C_alloc ?_ _) | (with_reducible refine Kd.C_drewN ?_ _) | (with_reducible refine Kd.C_drew ?_)))
         (case side4 => exact HC3_1.out)
         rintro e w70 ⟨v133, v136, rfl, ho0, ho1, hb⟩
         refine ⟨_, rfl, ?_⟩; have n0_ := qf (Kd.S_lower ho0 (below_size (by repeat (first | (with_reducible first | exact HB.out | apply qa | apply qb | apply qc | refine qg ?_ GE126.out | refine qg ?_ GE127.out) | exact HB.out)))); have n1_ := qf (Kd.S_lower ho1 (below_size (by repeat (first | (with_reducible first | exact HB.out | apply qa | apply qb | apply qc | refine qg ?_ GE126.out | refine qg ?_ GE127.out) | exact HB.out)))); have n2_ := qf (blk_below (g := gb126) (o := .cells #[.int .u64 a2_0, .string a2_1] 46 (0, 0)) (by (with_reducible repeat (first | refine blk_drewN ?_ _ | refine blk_drew ?_ | refine qh ?_ _)); exact BK126.out) hb); have n3_ := qf (blk_below (g := gb127) (o := .cells #[.slice A3_0 l3_0.length c3_0, .slice A3_1 l3_1.length c3_1] 78 (0, 0)) (by (with_reducible repeat (first | refine blk_drewN ?_ _ | refine blk_drew ?_ | refine qh ?_ _)); exact BK127.out) hb); have n4_ := qf (below_step (by repeat (first | (with_reducible first | exact HB.out | apply qa | apply qb | apply qc | refine qg ?_ GE126.out | refine qg ?_ GE127.out) | exact HB.out)) hb); clear BK126; clear BK127; clear HB; have HO134 := n0_; have HO137 := n1_; have BK126 := n2_; have BK127 := n3_; have HB := n4_; clear n0_ n1_ n2_ n3_ n4_
         (try clear hb)
         (try clear hb2)
         (try clear hk)
         (try clear hi)
         (try clear ho0)
         (try clear ho1)
         obtain ⟨Ao72, co72, eo72⟩ := Kd.S_slice HO134.out
         (first | subst eo72 | (injection eo72 with f1_ f2_ f3_; have f4_ := f1_.symm; have f5_ := f3_.symm; clear f1_ f2_ f3_; subst f4_; subst f5_))
         obtain ⟨Ao74, co74, eo74⟩ := Kd.S_slice HO137.out
         (first | subst eo74 | (injection eo74 with f1_ f2_ f3_; have f4_ := f1_.symm; have f5_ := f3_.symm; clear f1_ f2_ f3_; subst f4_; subst f5_))
         refine hK.out _ _ ⟨(blk_cell BK126.out 0).trans rfl, (blk_cell BK126.out 1).trans rfl, (blk_cell BK127.out 0).trans rfl, (blk_cell BK127.out 1).trans rfl⟩ (fun hHeld => ?_); clear hK K; refine norm_ (a' := ?_) ?_ ?_; rotate_left
         ·show Act.put _ (some 33) _ = _
          simp only [Act.put, qs, qt, qu, i64_w, i32_w]; rfl
         refine qz 19 0 ?_ (bm 24 1048575) rfl rfl HT_ (by kernel_rfl) (fun _ _ _ h => h) (by rfl) ?_ ?_ ?_ ?_; rotate_left; (intro w'; go_simp; with_reducible rfl); rotate_left; (simp only [Act.put, qs, qt, qu, i64_w, i32_w]; rfl); refine qz 20 1 ?_ (bm 24 2097151) rfl rfl HT_ (by kernel_rfl) (fun _ _ _ h => h) (by rfl) ?_ ?_ ?_ ?_; rotate_left; (intro w'; go_simp; with_reducible rfl); rotate_left; (simp only [Act.put, qs, qt, qu, i64_w, i32_w]; rfl); refine qz 21 34 ?_ (bm 24 4194303) rfl rfl HT_ (by kernel_rfl) (fun _ _ _ h => h) (by rfl) ?_ ?_ ?_ ?_; rotate_left; (intro w'; go_simp; with_reducible rfl); rotate_left; (simp only [Act.put, qs, qt, qu, i64_w, i32_w]; rfl); refine last_ (i := 22) (N := none) (bm 24 8388607) rfl rfl (one_of HT_.out (by kernel_rfl)) (by decide) (fun K hK => ?_); have hs71 : w70.cell? ⟨gb126, 1, none⟩ = some (.string a2_1) := (blk_cell BK126.out 1).trans rfl; have hfs71 := blk_frozen BK126.out 1; have hns71_1 := NB127_126.out; have hms71_1 := NB126_127.out; refine skip_ (w1 := ?_) (by rfl) rfl ?_ ?_; rotate_left; (go_simp; rfl); refine hK.out _ _ ?_; clear hK K; refine last_ (i := 23) (N := none) (bm 24 16777215) rfl rfl (one_of HT_.out (by kernel_rfl)) (by decide) (fun K hK => ?_); have hs73 : w70.cell? ⟨gb127, 0, none⟩ = some (.slice A3_0 l3_0.length c3_0) := (blk_cell BK127.out 0).trans rfl; have hfs73 := blk_frozen BK127.out 0; have hns73_0 := NB126_127.out; have hms73_0 := NB127_126.out; have hs75 : w70.cell? ⟨gb127, 1, none⟩ = some (.slice A3_1 l3_1.length c3_1) := (blk_cell BK127.out 1).trans rfl; have hfs75 := blk_frozen BK127.out 1; have hns75_0 := NB126_127.out; have hms75_0 := NB127_126.out; refine skip_ (w1 := ?_) (by rfl) rfl ?_ ?_; rotate_left; (go_simp; rfl); refine hK.out _ _ ?_; clear hK K; refine done_ (done_of HT_.out (by kernel_rfl)) ?_
         try go_wp2_with (first | ((with_reducible refine gate_callee (f := 31) rfl ?_); refine goesL_ (some 38) rfl rfl Tryd.func31 (by kernel_rfl) rfl #[.string (a0.extract 0 ((ji5) : Int).toNat), .slice A1 y128.length c1] rfl (by (try simp only [List.map_toArray, List.map_cons, List.map_nil]); first | done | (simp only [hji5]; rfl) | rfl | (simp only [List.length_drop, qw]; rfl)) ?_; (with_reducible refine (label_Root.calls (a0.extract 0 ((ji5) : Int).toNat) _ _ y128 t138 t139 _ ?side1 ?side2 A15.out (Tower.tab_below HT.out (by repeat (first | (with_reducible first | exact HB.out | apply qa | apply qb | apply qc | refine qg ?_ GE126.out | refine qg ?_ GE127.out) | exact HB.out)) (Nat.le_refl _))).mono ?_); (case side1 => exact Kd.C_below HR131.out (by repeat (first | (with_reducible first | exact HB.out | apply qa | apply qb | apply qc | refine qg ?_ GE126.out | refine qg ?_ GE127.out) | exact HB.out))); (case side2 => exact HC131.out); rintro e w76 ⟨rfl, hb⟩; refine ⟨_, rfl, ?_⟩; have n0_ := qf (Kd.S_below (by (with_reducible repeat (first | apply Kd.S_alloc | apply Kd.S_drewN | apply Kd.S_drew)); exact (Kd.S_mono (Kd.S_mono (Kd.S_far (p := ⟨gb127, 1, none⟩) (Kd.S_far (p := ⟨gb127, 0, none⟩) (Kd.S_far (p := ⟨gb126, 1, none⟩) (Kd.S_types (Kd.S_types HO134.out BK126.out (by decide)) BK127.out (by decide)) (fun _ hk => hk.1.2) (.string (a2_1.extract 0 ((ji11) : Int).toNat))) (fun _ hk => hk.2) (.slice Ao72 t132.length co72)) (fun _ hk => hk.2) (.slice Ao74 t135.length co74)) (fun _ h_ => h_.1)) (fun _ h_ => h_.1))) hb); have n1_ := qf (Kd.S_below (by (with_reducible repeat (first | apply Kd.S_alloc | apply Kd.S_drewN | apply Kd.S_drew)); exact (Kd.S_mono (Kd.S_mono (Kd.S_far (p := ⟨gb127, 1, none⟩) (Kd.S_far (p := ⟨gb127, 0, none⟩) (Kd.S_far (p := ⟨gb126, 1, none⟩) (Kd.S_types (Kd.S_types HO137.out BK126.out (by decide)) BK127.out (by decide)) (fun _ hk => hk.1.2) (.string (a2_1.extract 0 ((ji11) : Int).toNat))) (fun _ hk => hk.2) (.slice Ao72 t132.length co72)) (fun _ hk => hk.2) (.slice Ao74 t135.length co74)) (fun _ h_ => h_.1)) (fun _ h_ => h_.1))) hb); have n2_ := qf (blk_below (g := gb126) (o := .cells #[.int .u64 a2_0, .string (a2_1.extract 0 ((ji11) : Int).toNat)] 46 (0, 0)) (by (with_reducible repeat (first | refine blk_drewN ?_ _ | refine blk_drew ?_ | refine qh ?_ _)); refine blk_far ?_ NB126_127.out _; (with_reducible repeat (first | refine blk_drewN ?_ _ | refine blk_drew ?_ | refine qh ?_ _)); refine blk_far ?_ NB126_127.out _; (with_reducible repeat (first | refine blk_drewN ?_ _ | refine blk_drew ?_ | refine qh ?_ _)); refine blk_put (cs := #[.int .u64 a2_0, .string a2_1]) ?_ 1 _ rfl; (with_reducible repeat (first | refine blk_drewN ?_ _ | refine blk_drew ?_ | refine qh ?_ _)); exact BK126.out) hb); have n3_ := qf (blk_below (g := gb127) (o := .cells #[.slice Ao72 t132.length co72, .slice Ao74 t135.length co74] 78 (0, 0)) (by (with_reducible repeat (first | refine blk_drewN ?_ _ | refine blk_drew ?_ | refine qh ?_ _)); refine blk_put (cs := #[.slice Ao72 t132.length co72, .slice A3_1 l3_1.length c3_1]) ?_ 1 _ rfl; (with_reducible repeat (first | refine blk_drewN ?_ _ | refine blk_drew ?_ | refine qh ?_ _)); refine blk_put (cs := #[.slice A3_0 l3_0.length c3_0, .slice A3_1 l3_1.length c3_1]) ?_ 0 _ rfl; (with_reducible repeat (first | refine blk_drewN ?_ _ | refine blk_drew ?_ | refine qh ?_ _)); refine blk_far ?_ NB127_126.out _; (with_reducible repeat (first | refine blk_drewN ?_ _ | refine blk_drew ?_ | refine qh ?_ _)); exact BK127.out) hb); have n4_ := qf (below_step (by repeat (first | (with_reducible first | exact HB.out | apply qa | apply qb | apply qc | refine qg ?_ GE126.out | refine qg ?_ GE127.out) | exact HB.out)) hb); clear HO134; clear HO137; clear BK126; clear BK127; clear HB; have HO134 := n0_; have HO137 := n1_; have BK126 := n2_; have BK127 := n3_; have HB := n4_; clear n0_ n1_ n2_ n3_ n4_; (try clear hb); (try clear hb2); (try clear hk); (try clear hi)) | ((with_reducible refine gate_callee (f := 56) rfl ?_); refine goesL_ (some 43) rfl rfl Tryd.func56 (by kernel_rfl) rfl #[] rfl (by (try simp only [List.map_toArray, List.map_cons, List.map_nil]); first | done | rfl | (simp only [List.length_drop, qw]; rfl)) ?_; (with_reducible refine (saltuslaw18_alive.calls  true _ A64.out (Tower.tab_below HT.out (by repeat (first | (with_reducible first | exact HB.out | apply qa | apply qb | apply qc | refine qg ?_ GE126.out | refine qg ?_ GE127.out) | exact HB.out)) (Nat.le_refl _))).mono ?_); rintro e w77 ⟨rfl, hb⟩; refine ⟨_, rfl, ?_⟩; have n0_ := qf (Kd.S_below (by (with_reducible repeat (first | apply Kd.S_alloc | apply Kd.S_drewN | apply Kd.S_drew)); exact HO134.out) hb); have n1_ := qf (Kd.S_below (by (with_reducible repeat (first | apply Kd.S_alloc | apply Kd.S_drewN | apply Kd.S_drew)); exact HO137.out) hb); have n2_ := qf (blk_below (g := gb126) (o := .cells #[.int .u64 a2_0, .string (a2_1.extract 0 ((ji11) : Int).toNat)] 46 (0, 0)) (by (with_reducible repeat (first | refine blk_drewN ?_ _ | refine blk_drew ?_ | refine qh ?_ _)); exact BK126.out) hb); have n3_ := qf (blk_below (g := gb127) (o := .cells #[.slice Ao72 t132.length co72, .slice Ao74 t135.length co74] 78 (0, 0)) (by (with_reducible repeat (first | refine blk_drewN ?_ _ | refine blk_drew ?_ | refine qh ?_ _)); exact BK127.out) hb); have n4_ := qf (below_step (by repeat (first | (with_reducible first | exact HB.out | apply qa | apply qb | apply qc | refine qg ?_ GE126.out | refine qg ?_ GE127.out) | exact HB.out)) hb); clear HO134; clear HO137; clear BK126; clear BK127; clear HB; have HO134 := n0_; have HO137 := n1_; have BK126 := n2_; have BK127 := n3_; have HB := n4_; clear n0_ n1_ n2_ n3_ n4_; (try clear hb); (try clear hb2); (try clear hk); (try clear hi)))
         go_ret; exact ⟨by first | rfl | (simp [errW_none, errW_some] <;> rfl) | (simp only [← hji5, ← hji8, ← hji11]; first | rfl | (simp [errW_none, errW_some] <;> rfl)) | (simp [*, errW_none, errW_some] <;> rfl), by repeat (first | (with_reducible first | exact HB.out | apply qa | apply qb | apply qc | refine qg ?_ GE126.out | refine qg ?_ GE127.out) | exact HB.out)⟩
        ·replace c65 := Bool.eq_false_iff.mpr c65; subst c65
         have H1 : (some false) = some r := by rw [if_neg (show ¬ (false = true) by decide)] at H; exact H
         clear H; have H := H1; clear H1; exact absurd ((Option.some.inj H).trans hr.out) (by decide)
      ·rw [if_neg c13] at H; exact absurd H (by simp)
     ·rw [if_neg c12] at H; exact absurd H (by simp)
    ·rw [if_neg c10] at H; exact absurd H (by simp)
   ·rw [if_neg c9] at H; exact absurd H (by simp)
  ·rw [if_neg c7] at H; exact absurd H (by simp)
 ·rw [if_neg c6] at H; exact absurd H (by simp)
end Go.Proofs.YtolbhliepkcihaaDoor.QPC
end
section
namespace Go.Proofs.YtolbhliepkcihaaDoor.ProofLaw
open Go.RowKit QPC YtolbhliepkcihaaDoorW.PrintWords Kinds Build Lab Sha Mac Codec Tower SkipOps SkipPure ProofPure
theorem keysB_take (l : List S46) (hw : ∀ y, y ∈ l → 0 ≤ y.f0 ∧ y.f0 ≤ 18446744073709551615 ∧ y.f1.size ≤ 9223372036854775807) (n : Nat) : keysB (l.take n) = true := by
 unfold keysB
 refine List.all_eq_true.2 fun x hx => ?_
 have := hw x (List.mem_of_mem_take hx); simp only [Bool.and_eq_true, decide_eq_true_eq]
 omega
theorem domP_mk {a0 : Int} {b a : ProofPure.Rows} (h0 : 0 ≤ a0) (h1 : a0 < 18446744073709551616) (hb : b.length ≤ 1000) (ha : a.length ≤ 1000) : domP a0 b a = true := by
 unfold domP; rw [qj h0, qj h1, qj hb, qj ha]; rfl
theorem u64_lt {a : Int} (h : (Lit.int .u64 a).wf = true) : 0 ≤ a ∧ a < 18446744073709551616 := by
 have : 0 ≤ a ∧ a ≤ 18446744073709551615 := by simpa [Lit.wf, IntKind.min, IntKind.max, IntKind.signed, IntKind.bits] using h
 omega
/-! ### ProofBinds -/
theorem binds_l0 (K : ByteArray) (L : List S46) (x : S46) (B A : ProofPure.Rows) (hL : L.length ≤ 1000) (h : x ∈ L ∨ saltuslaw18_twice.f K L x.f0 x.f1 B A = some true) (d : Nat) : ∀ i, i + d = L.length → (∀ j (hj : j < L.length), j < i → L[j] ≠ x) →
  Ev (fun k => saltuslaw18_ProofBinds.l0 k K L L (L.length : Int) (i : Int) x.f0 x.f1 B A) true := by
 have eA : saltuslaw18_alive.f = some true := rfl
 induction d with
 | zero =>
  intro i hi hn
  have h2 : saltuslaw18_twice.f K L x.f0 x.f1 B A = some true := by
   rcases h with h | h
   ·obtain ⟨j, hj, e⟩ := List.mem_iff_getElem.1 h; exact absurd e (hn j hj (by omega))
   ·exact h
  refine Ev.step (fun k => ?_) (Ev.now true); rw [saltuslaw18_ProofBinds.l0, if_neg (by omega), eA, qv, if_pos rfl, h2]; rfl
 | succ d ih =>
  intro i hi hn
  have hlt : i < L.length := by omega
  by_cases c : L[i] = x
  ·refine Ev.step (fun k => ?_) (Ev.now true); rw [saltuslaw18_ProofBinds.l0, if_pos (by omega), if_pos (by omega), if_pos (by omega), rd_it L i hlt, c, if_pos (by rw [beq_self_eq_true, beq_self_eq_true]; rfl), eA]; rfl
  ·have hne : ¬(x.f0 == L[i].f0 && x.f1.toList == L[i].f1.toList) = true := by
    intro q; rw [Bool.and_eq_true, beq_iff_eq, beq_iff_eq] at q; apply c; obtain ⟨q1, q2⟩ := q; have q3 := toList_inj q2
    cases hL : L[i]
    rw [hL] at q1 q3; cases x; simp only at q1 q3; rw [q1, q3]
   refine Ev.step (fun k => ?_) (ih (i + 1) (by omega) (fun j hj hji => by
    by_cases e : j = i
    ·subst e; exact c
    ·exact hn j hj (by omega)))
   rw [saltuslaw18_ProofBinds.l0, if_pos (by omega), if_pos (by omega), if_pos (by omega), rd_it L i hlt, if_neg hne, SkipPure.w_succ i L.length hlt (by omega)]
theorem empty_list : (⟨#[]⟩ : ByteArray).toList = [] := by rw [ByteArray.toList_eq]
theorem binds_ev (a0 : ByteArray) (l : List S46) (a2 : Int) (s : ByteArray) (b a : ProofPure.Rows) (hw : ∀ y, y ∈ l → 0 ≤ y.f0 ∧ y.f0 ≤ 18446744073709551615 ∧ y.f1.size ≤ 9223372036854775807) (h0 : 0 ≤ a2) (h1 : a2 < 18446744073709551616) : Ev (fun k => saltuslaw18_ProofBinds.f k a0 l a2 s b a) true := by
 have e80 := mn_nat a0.size 80; have e12 := mn_nat l.length 12; have e64 := mn_nat s.size 64; rw [show ((80 : Nat) : Int) = 80 from rfl] at e80; rw [show ((12 : Nat) : Int) = 12 from rfl] at e12; rw [show ((64 : Nat) : Int) = 64 from rfl] at e64; have hs1 : min a0.size 80 ≤ a0.size := Nat.min_le_left _ _; have hs2 : min l.length 12 ≤ l.length := Nat.min_le_left _ _; have hs3 : min s.size 64 ≤ s.size := Nat.min_le_left _ _
 have hkey : (a0.extract 0 (min a0.size 80)).size ≤ 1000000000 := by rw [ByteArray.size_extract]; omega
 have hl : (l.take (min l.length 12)).length ≤ 12 := by rw [qw]; omega
 have hks := keysB_take l hw (min l.length 12); have hb := cutR_len b; have ha := cutR_len a; generalize hK : a0.extract 0 (min a0.size 80) = K at *; generalize hL : l.take (min l.length 12) = L at *; generalize hV : s.extract 0 (min s.size 64) = v at *; have hd : domP a2 (cutR b) (cutR a) = true := domP_mk h0 h1 (by omega) (by omega); have eF : saltuslaw18_few.f b a = some (cutR b, cutR a) := rfl; generalize cutR b = B at *; generalize cutR a = A at *
 have hdom : domB K L = true := by
  unfold domB; rw [qj hkey, qj (show L.length ≤ 1000 by omega), hks]; rfl
 have eR : label_Root.f K L = some (if rightB L = true then (rootL K L, 0) else (⟨#[]⟩, 1)) := if_pos hdom; have eC : proof_Check.f (rootL K L) a2 v B A = some (if mayN v B A = 0 then ((sumS (stepN ⟨a2, v⟩ B A 8)).toList == (rootL K L).toList, 0) else (false, mayN v B A)) := if_pos hd; have eA : saltuslaw18_alive.f = some true := rfl
 have hj : ∀ c : Bool, (c = false → mayN v B A = 0 ∧ rightB L = true ∧ sumS (stepN ⟨a2, v⟩ B A 8) = rootL K L) → Ev (fun k => saltuslaw18_ProofBinds.j0 k K L c a2 v B A) true := by
  intro c hc
  cases c with
  | true =>
   refine Ev.step (fun k => ?_) (Ev.now true); rw [saltuslaw18_ProofBinds.j0, if_pos rfl, eA]; rfl
  | false =>
   obtain ⟨g, hr, he⟩ := hc rfl; obtain ⟨m1, m2, m3⟩ := may_ok g
   have hx : (⟨a2, v⟩ : S46) ∈ L ∨ saltuslaw18_twice.f K L a2 v B A = some true := by
    cases hcol : collB (stepsL ⟨a2, v⟩ B A) (allT (ents K L)) with
    | true =>
     right
     unfold saltuslaw18_twice.f; rw [if_pos ⟨hdom, hr, hd, g⟩, hcol]
    | false => exact .inl (binds K L ⟨a2, v⟩ B A (keysB_all L hks) h0 h1 m2 m3 he hcol)
   refine Ev.step (fun k => ?_) (binds_l0 K L ⟨a2, v⟩ B A (by omega) hx L.length 0 (by omega) (fun j hj hji => absurd hji (by omega))); rw [saltuslaw18_ProofBinds.j0, if_neg (by decide)]; rfl
 by_cases hr : rightB L = true
 rotate_left
 ·refine Ev.congr (fun k => ?_) (Ev.now true); unfold saltuslaw18_ProofBinds.f; rw [e80, e12, e64, if_pos (by omega), if_pos (by omega), if_pos (by omega), if_pos (by omega), qv, if_pos (by omega), if_pos (by omega), eF, qv, Int.toNat_natCast, Int.toNat_natCast, Int.toNat_natCast, hK, hL, hV, eR, qv]; simp only [if_neg hr]; rw [if_neg (by decide), eA, qv, if_pos rfl, empty_list]; rfl
 by_cases g : mayN v B A = 0
 rotate_left
 ·have h := hj true (fun hc => by cases hc); refine Ev.congr (fun k => ?_) h; unfold saltuslaw18_ProofBinds.f; rw [e80, e12, e64, if_pos (by omega), if_pos (by omega), if_pos (by omega), if_pos (by omega), qv, if_pos (by omega), if_pos (by omega), eF, qv, Int.toNat_natCast, Int.toNat_natCast, Int.toNat_natCast, hK, hL, hV, eR, qv]; simp only [if_pos hr]; rw [if_pos trivial, eC, qv]; simp only [if_neg g]
 have h := hj (!((sumS (stepN ⟨a2, v⟩ B A 8)).toList == (rootL K L).toList)) (fun hc => ⟨g, hr, toList_inj (by simpa using hc)⟩); refine Ev.congr (fun k => ?_) h; unfold saltuslaw18_ProofBinds.f; rw [e80, e12, e64, if_pos (by omega), if_pos (by omega), if_pos (by omega), if_pos (by omega), qv, if_pos (by omega), if_pos (by omega), eF, qv, Int.toNat_natCast, Int.toNat_natCast, Int.toNat_natCast, hK, hL, hV, eR, qv]; simp only [if_pos hr]; rw [if_pos trivial, eC, qv]; simp only [if_pos g]; rw [if_pos trivial]
theorem proofBinds_row (a0 : ByteArray) (A1 : Option Addr) (c1 : Nat) (l1 : List S46) (a2 : Int) (s : ByteArray) (A2 : Option Addr) (c2 : Nat) (l2 : List (List ByteArray)) (A3 : Option Addr) (c3 : Nat) (l3 : List (List ByteArray)) (w : World) (_ : a0.size ≤ 140737488351232) (hr1 : Kd.C k46 w A1 l1.length l1) (hc1 : l1.length ≤ c1) (hw : ∀ y, y ∈ l1 → 0 ≤ y.f0 ∧ y.f0 ≤ 18446744073709551615 ∧ y.f1.size ≤ 9223372036854775807) (h1 : (Lit.int .u64 a2).wf = true) (_ : s.size ≤ maxLen)
  (hr2 : Kd.C (Kd.slice 9 Kd.string) w A2 l2.length l2) (hc2 : l2.length ≤ c2) (hr3 : Kd.C (Kd.slice 9 Kd.string) w A3 l3.length l3) (hc3 : l3.length ≤ c3) (hT0 : TabW w) :
  Calls Tryd.prog 15 #[.string a0, .slice A1 l1.length c1, .agg #[.int .u64 a2, .string s], .agg #[.slice A2 l2.length c2, .slice A3 l3.length c3]] w fun e w' => e = .returned (.bool true) ∧ Below w.heap.size w w' := by
 have hb := u64_lt h1; obtain ⟨K, h⟩ := binds_ev a0 l1 a2 s l2 l3 hw hb.1 hb.2; exact saltuslaw18_ProofBinds.calls K a0 A1 c1 l1 a2 s A2 c2 l2 A3 c3 l3 true w hr1 hc1 hr2 hc2 hr3 hc3 ⟨rfl⟩ (h K (Nat.le_refl _)) hT0
end Go.Proofs.YtolbhliepkcihaaDoor.ProofLaw
end
