/- Texts of this claim put together by a program of its own (SDOr, SHasR, SDStepW, SDStepJ), what the law does not use left out: each part's statements bear their own conditions. -/
import Derived.Test.YtaphbechnjmlgaaC13
import Derived.Test.YtaphbechnjmlgaaC12
namespace Go.Proofs.Ytaphbechnjmlgaa.P
open Go.RowKit Go.Proofs.YtaphbechnjmlgaaW.PrintWords Go.Proofs.YtaphbechnjmlgaaW.PrintLast Go.Proofs.YtaphbechnjmlgaaW.PrintMore
set_option linter.unusedVariables false
set_option linter.unusedSimpArgs false

set_option maxHeartbeats 4000000 in
theorem or1_calls (k n : Nat) (b : Nat) (x y : DNode) (v : Value) (cy : Array Value) (r : Bool) (W : World) (hb : W.heap[b]? = some (.cells cy 25 (0, 0))) (hM : NodeAt W y (.agg cy)) (hN : NodeAt W x v) (h : sameS k n x y = some r) :
    Calls Try.prog 46 #[v, .pointer (some ⟨b, 0, none⟩)] W fun e w' => e = .returned (.bool r) ∧ Below W.heap.size W w' := by
  have hct := fun W' (hb : Below W.heap.size W W') => same_calls k n x y v _ r W' (hN.below hb) (hM.below hb) h
  obtain ⟨A1, c1, A4, c4, rfl, _⟩ := hN
  obtain ⟨B1, d1, B4, d4, e, _⟩ := hM
  cases e
  have HCT := Aside0.mk hct
  have hb2 := blk_below hb (below_alloc (Below.refl W.heap.size W) (.cells #[.int .i64 x.f0, .slice A1 x.f1.length c1, .int .i64 x.f2, .int .i64 x.f3, .slice A4 x.f4.length c4] 25))
  have y0 := blk_cell hb2 0
  have y1 := blk_cell hb2 1
  have y2 := blk_cell hb2 2
  have y3 := blk_cell hb2 3
  have y4 := blk_cell hb2 4
  clear hct h hb hb2
  have hu := Try.underlying25
  go_enter Try.func46, Try.ntmps46
  go_wp2_with (go_at_call 47; refine (HCT.out _ (below_alloc (Below.refl _ _) _)).mono ?_; rintro e w' ⟨rfl, hb⟩; have HB := Aside0.mk hb; clear hb)
  go_ret
  exact ⟨rfl, below_step (below_alloc (Below.refl _ _) _) HB.out⟩
/-- A row that is gone through: it lies in S, what its elements lead to in P0. -/
def RowF (w : World) (P0 S : Nat → Prop) (A : Option Addr) (n : Nat) (ys : List DNode) : Prop :=
  Foot (fun W => ReadsRow (fun x c => Kd.FK k25 W P0 x c) k25.sz W A n ys) w (fun k => P0 k ∨ S k)
theorem RowF.of_F {w : World} {P0 S : Nat → Prop} {A : Option Addr} {n : Nat} {ys : List DNode} (h : Kd.F k25 w P0 A n ys) : RowF w P0 S A n ys :=
  fun W' hW => Kd.F_rows (Kd.F_step h fun k hk hl => hW k (.inl hk) hl)
theorem RowF.one {w : World} {P0 : Nat → Prop} {b : Nat} {x : DNode} {cs : List Value} (hb : w.heap[b]? = some (.cells cs.toArray 25 (0, 0))) (hl : cs.length = 5) (hF : Kd.FK k25 w P0 x cs) : RowF w P0 (fun k => k = b) (some ⟨b, 0, none⟩) 1 [x] := by
  intro W' hW
  have hb' : W'.heap[b]? = some (.cells cs.toArray 25 (0, 0)) := (hW b (.inr rfl) (blk_lt hb)).trans hb
  have hF' : Kd.FK k25 W' P0 x cs := Foot.step hF fun k hk hl => hW k (.inl hk) hl
  refine ⟨rfl, by decide, fun _ => ⟨_, rfl, fun j p hj => ⟨cs, hl, ?_, fun i u hu => ?_⟩⟩⟩
  · rcases j with _ | j
    · simp only [List.getElem?_cons_zero, Option.some.injEq] at hj
      rw [← hj]
      exact hF'
    · simp at hj
  · rcases j with _ | j
    · rw [add_plain, blk_cell hb']
      simpa using hu
    · simp at hj
theorem RowF.step {w w1 : World} {P0 S : Nat → Prop} {A : Option Addr} {n : Nat} {ys : List DNode} (h : RowF w P0 S A n ys) (hm : ∀ k, P0 k ∨ S k → k < w.heap.size → w1.heap[k]? = w.heap[k]?) : RowF w1 P0 S A n ys := Foot.step h hm
theorem RowF.below {w w1 : World} {P0 S : Nat → Prop} {A : Option Addr} {n : Nat} {ys : List DNode} (h : RowF w P0 S A n ys) (hb : Below w.heap.size w w1) : RowF w1 P0 S A n ys := h.step fun k _ hk => hb.block k hk
/-- An element of it. -/
theorem at_R {w : World} {P0 S : Nat → Prop} {A : Option Addr} {n : Nat} {ys : List DNode} (h : RowF w P0 S A n ys) (i : Nat) (h1 : i < n) :
    ∃ ad A1 c1 A4 c4, A = some ad ∧ w.cell? (ad.add (i * 5)) = some (.int .i64 (ys.getD i z25).f0) ∧ w.cell? ⟨(ad.add (i * 5)).block, (ad.add (i * 5)).off + 1, none⟩ = some (.slice A1 (ys.getD i z25).f1.length c1) ∧ w.cell? ⟨(ad.add (i * 5)).block, (ad.add (i * 5)).off + 2, none⟩ = some (.int .i64 (ys.getD i z25).f2) ∧ w.cell? ⟨(ad.add (i * 5)).block, (ad.add (i * 5)).off + 3, none⟩ = some (.int .i64 (ys.getD i z25).f3) ∧ w.cell? ⟨(ad.add (i * 5)).block, (ad.add (i * 5)).off + 4, none⟩ = some (.slice A4 (ys.getD i z25).f4.length c4) ∧
      (ys.getD i z25).f1.length ≤ c1 ∧ Kd.F k52 w P0 A1 (ys.getD i z25).f1.length (ys.getD i z25).f1 ∧ (ys.getD i z25).f4.length ≤ c4 ∧ Kd.F k25 w P0 A4 (ys.getD i z25).f4.length (ys.getD i z25).f4 := by
  obtain ⟨hl, hm, hn⟩ := Foot.now h
  obtain ⟨ad, e, hr⟩ := hn (by omega)
  have hi : i < ys.length := by omega
  obtain ⟨c, hcl, hF, hcc⟩ := hr i ys[i] (List.getElem?_eq_getElem hi)
  have hg : ys.getD i z25 = ys[i] := by rw [List.getD_eq_getElem?_getD, List.getElem?_eq_getElem hi, Option.getD_some]
  rw [hg]
  have hc : ∀ j u, c[j]? = some u → w.cell? (ad.add (i * 5 + j)) = some u := hcc
  obtain ⟨A1, c1, A4, c4, rfl, l1, g1, l4, g4⟩ := k25_openF hF
  exact ⟨ad, A1, c1, A4, c4, e, hc 0 _ rfl, by rw [← add_field _ _ 1 (by omega)]; exact hc 1 _ rfl, by rw [← add_field _ _ 2 (by omega)]; exact hc 2 _ rfl, by rw [← add_field _ _ 3 (by omega)]; exact hc 3 _ rfl, by rw [← add_field _ _ 4 (by omega)]; exact hc 4 _ rfl, l1, g1, l4, g4⟩
/-- The kids of an or, one more, if it is not one of them. -/
def addO (k n : Nat) (acc : List DNode) (y : DNode) : Option (List DNode) :=
  (anyS (fun x => sameS k n x y) acc).bind fun b => if b = true then some acc else if acc.length < 1099511627776 then some (acc ++ [y]) else none
def addsO (k n : Nat) : List DNode → List DNode → Option (List DNode)
  | acc, [] => some acc
  | acc, y :: l => (addO k n acc y).bind fun a => addsO k n a l
def okids (k n : Nat) : List DNode → List DNode → Option (List DNode)
  | [], acc => some acc
  | x :: l, acc => if x.f0 = 0 then okids k n l acc else (addsO k n acc (if x.f0 = 4 then x.f4 else [x])).bind fun a => okids k n l a
def orK : List DNode → DNode
  | [] => ⟨0, [], 0, 0, []⟩
  | [y] => y
  | ks => ⟨4, [], 0, 0, ks⟩
-- WALK
set_option maxHeartbeats 8000000 in
set_option maxRecDepth 100000 in
theorem or_calls (k n : Nat) (P : Nat → Prop) (A : Option Addr) (c : Nat) (l ks : List DNode) (w0 : World) (hl : Kd.F k25 w0 P A l.length l) (h : okids k n l [] = some ks) :
    Calls Try.prog 37 #[.slice A l.length c] w0 fun e w' => ∃ v, e = .returned v ∧ NodeF w' (fun k => P k ∨ w0.heap.size ≤ k) (orK ks) v ∧ Below w0.heap.size w0 w' := by
  have hu := Try.underlying25
  have HL := Aside0.mk (Kd.F_bound hl)
  have HH := Aside0.mk h
  have HN := Aside0.mk (Kd.F_max hl)
  clear hl h
  go_enter Try.func37, Try.ntmps37
  have HB0 := Aside0.mk (Below.refl w0.heap.size w0)
  go_wp2_with (((with_reducible refine gate_dst (N := 2) rfl ?_); refine box_event ?hg (N := 2) ?hd (cs := #[.int .i64 0, .slice none 0 0, .int .i64 0, .int .i64 0, .slice none 0 0]) (t := 25) ?hr ?_; (case hd => rfl); (case hg => rfl); (case hr => first | (go_simp; done) | (go_simp; rfl)); intro gr hg w1 hbox hb; have HB1 := Aside0.mk (below_step HB0.out hb); have HG := Aside0.mk (by rw [hg]; exact Nat.le_refl _ : w0.heap.size ≤ gr); have HGR := Aside0.mk hbox; clear hb hbox hg))
  clear HB0
  go_loopw [3, 11] (fun s3 s11 wx => ∃ (i : Nat) (acc : List DNode), s11 = .int .i64 (i : Int) ∧ i ≤ l.length ∧ Aside0 (okids k n (l.drop i) acc = some ks) ∧ Aside0 (Kd.N k25 25 wx w0.heap.size (fun k => (P k ∨ w0.heap.size ≤ k) ∧ k ≠ gr) s3 acc) ∧ Aside0 (wx.heap[gr]? = some (.cells #[.int .i64 0, .slice none 0 0, .int .i64 0, .int .i64 0, .slice none 0 0] 25 (0, 0))) ∧ Aside0 (Below w0.heap.size w0 wx)) (fun _ s11 _ => l.length - (intOf s11).toNat)
  case atStart => exact ⟨0, [], rfl, by omega, by simpa using HH, ⟨Kd.N_nil _ _ _ _ _⟩, HGR, HB1⟩
  case round =>
    clear HH HGR HB1
    obtain ⟨i, acc, rfl, hi, HH, HO, HGR, HB⟩ := hrel
    by_cases hlt : i < l.length
    · obtain ⟨ad, A1, c1, A4, c4, e, h0, h1, h2, h3, h4, q1, q2, q3, q4⟩ := at_F (Kd.F_below HL.out HB.out) i hlt
      cases e
      have hh := HH.out
      rw [sn_drop z25 l i hlt] at hh
      obtain ⟨x, hxx⟩ : ∃ x, l.getD i z25 = x := ⟨_, rfl⟩
      rw [hxx] at h0 h1 h2 h3 h4 q1 q2 q3 q4 hh
      obtain ⟨x0, x1, x2, x3, x4⟩ := x
      simp only [okids] at hh
      dsimp only at h0 h1 h2 h3 h4 q1 q2 q3 q4
      have HQ := Aside0.mk (And.intro q1 (And.intro q2 (And.intro q3 q4)))
      have g1 : decide ((i : Int) < (l.length : Int)) = true := decide_eq_true (by omega)
      have g2 : ((0 : Int) ≤ (i : Int)) = True := eq_true (by omega)
      have g3 : ((i : Int) < (l.length : Int)) = True := eq_true (by omega)
      have HWA := Aside0.mk (below_alloc (Below.refl wr.heap.size wr) (.cells #[.int .i64 x0, .slice A1 x1.length c1, .int .i64 x2, .int .i64 x3, .slice A4 x4.length c4] 25))
      have HLI := Aside0.mk hlt
      have hw := sn_wrap i (by have := HN.out; have := HLI.out; omega)
      have hm : l.length - (i + 1) < l.length - i := by have := HLI.out; omega
      clear hxx q1 q2 q3 q4 hlt HH
      go_upto_region 6 with (fail)
      generalize hW2 : ((wr.alloc (.cells #[.int .i64 x0, .slice A1 x1.length c1, .int .i64 x2, .int .i64 x3, .slice A4 x4.length c4] 25)).alloc (.cells #[.int .i64 x0, .slice A1 x1.length c1, .int .i64 x2, .int .i64 x3, .slice A4 x4.length c4] 25)) = W2
      have hb5 : W2.heap[wr.heap.size]? = some (.cells #[.int .i64 x0, .slice A1 x1.length c1, .int .i64 x2, .int .i64 x3, .slice A4 x4.length c4] 25 (0, 0)) := by rw [← hW2]; exact blk_alloc (heap_alloc_new wr _) _
      have hb6 : W2.heap[wr.heap.size + 1]? = some (.cells #[.int .i64 x0, .slice A1 x1.length c1, .int .i64 x2, .int .i64 x3, .slice A4 x4.length c4] 25 (0, 0)) := by
        have h9 := heap_alloc_new (wr.alloc (.cells #[.int .i64 x0, .slice A1 x1.length c1, .int .i64 x2, .int .i64 x3, .slice A4 x4.length c4] 25)) (.cells #[.int .i64 x0, .slice A1 x1.length c1, .int .i64 x2, .int .i64 x3, .slice A4 x4.length c4] 25)
        rw [hW2, show (wr.alloc (.cells #[.int .i64 x0, .slice A1 x1.length c1, .int .i64 x2, .int .i64 x3, .slice A4 x4.length c4] 25)).heap.size = wr.heap.size + 1 from by simp] at h9
        exact h9
      have hWB : Below wr.heap.size wr W2 := by rw [← hW2]; exact below_alloc (below_alloc (Below.refl _ _) _) _
      clear hW2 HWA
      obtain ⟨b5, e5⟩ : ∃ b5, wr.heap.size = b5 := ⟨_, rfl⟩
      obtain ⟨b6, e6⟩ : ∃ b6, wr.heap.size + 1 = b6 := ⟨_, rfl⟩
      have HSZ := Aside0.mk (And.intro e5 e6)
      rw [e6] at hb6 ⊢
      rw [e5] at hb5 ⊢
      have HX5 := Aside0.mk hb5
      have HX6 := Aside0.mk hb6
      have HWB := Aside0.mk hWB
      have v0 := blk_cell hb5 0
      have v1 := blk_cell hb5 1
      have v2 := blk_cell hb5 2
      have v3 := blk_cell hb5 3
      have v4 := blk_cell hb5 4
      clear hb5 hb6 hWB h0 h1 h2 h3 h4 e5 e6
      have HBB6 := Aside0.mk (show w0.heap.size ≤ b6 by have := HB.out.size; have := HSZ.out.2; omega)
      have HG2 := Aside0.mk (blk_below HGR.out HWB.out)
      have HB2 := Aside0.mk (below_step HB.out HWB.out)
      have HO2 := Aside0.mk (Kd.N_below HO.out HWB.out)
      by_cases c0 : x0 = 0
      · rw [if_pos c0] at hh
        have HH := Aside0.mk hh
        subst c0
        clear hh
        go_wp2
        refine ⟨⟨i + 1, acc, by rw [hw], HLI.out, HH, HO2, HG2, HB2⟩, ?_⟩
        rw [hw]
        show l.length - (((i + 1 : Nat) : Int)).toNat < l.length - ((i : Int)).toNat
        simp only [Int.toNat_natCast]
        exact hm
      rw [if_neg c0] at hh
      have k0 : (x0 == 0) = false := beq_eq_false_iff_ne.mpr c0
      by_cases c4' : x0 = 4
      · skip
        rw [if_pos c4'] at hh
        have k4 : (x0 == 4) = true := beq_iff_eq.mpr c4'
        obtain ⟨accE, hadd, hrest⟩ := Option.bind_eq_some_iff.mp hh
        have HADD := Aside0.mk hadd
        have HREST := Aside0.mk hrest
        obtain ⟨ys, hys⟩ : ∃ ys : List DNode, x4 = ys := ⟨_, rfl⟩
        have hrow : RowF W2 (fun k => P k ∧ k < w0.heap.size) (fun _ => False) A4 ys.length ys := by rw [← hys]; exact RowF.of_F (Kd.F_below HQ.out.2.2.2 HWB.out)
        have v4' : W2.cell? ⟨b5, 4, none⟩ = some (.slice A4 ys.length c4) := by rw [← hys]; exact v4
        rw [hys] at HADD v4 hh
        have HROW := Aside0.mk hrow
        have HOI := Aside0.mk (Kd.N_mono (ok' := (fun k => ((P k ∨ w0.heap.size ≤ k) ∧ k ≠ gr) ∧ ¬ ((fun _ => False) k))) (Kd.N_below (Kd.N_bound HO.out) HWB.out) (fun k hk => ⟨hk.1, fun hs => by exact hs⟩))
        clear hh hadd hrest hrow c4' c0
        go_wp2
        go_loopw [3, 27] (fun s3 s27 wy => ∃ (j : Nat) (ac : List DNode), s27 = .int .i64 (j : Int) ∧ j ≤ ys.length ∧ Aside0 (addsO k n ac (ys.drop j) = some accE) ∧ Aside0 (Kd.N k25 25 wy w0.heap.size (fun k => ((P k ∨ w0.heap.size ≤ k) ∧ k ≠ gr) ∧ ¬ ((fun _ => False) k)) s3 ac) ∧ Aside0 (RowF wy (fun k => P k ∧ k < w0.heap.size) (fun _ => False) A4 ys.length ys) ∧ Aside0 (wy.heap[gr]? = some (.cells #[.int .i64 0, .slice none 0 0, .int .i64 0, .int .i64 0, .slice none 0 0] 25 (0, 0))) ∧ Aside0 (Below w0.heap.size w0 wy)) (fun _ s27 _ => ys.length - (intOf s27).toNat)
        case atStart => exact ⟨0, acc, rfl, by omega, by simpa using HADD, HOI, HROW, HG2, HB2⟩
        case round =>
          obtain ⟨j, ac, rfl, hj, HAD, HOK, HRW, HGW, HBW⟩ := hrel
          by_cases hjl : j < ys.length
          · obtain ⟨ae, E1, e1, E4, e4, ee, m0, m1, m2, m3, m4, r1, r2, r3, r4⟩ := at_R HRW.out j (by omega)
            cases ee
            have had := HAD.out
            rw [sn_drop z25 ys j hjl] at had
            obtain ⟨y, hy⟩ : ∃ y, ys.getD j z25 = y := ⟨_, rfl⟩
            rw [hy] at m0 m1 m2 m3 m4 r1 r2 r3 r4 had
            obtain ⟨y0, y1, y2, y3, y4⟩ := y
            dsimp only at m0 m1 m2 m3 m4 r1 r2 r3 r4
            simp only [addsO] at had
            obtain ⟨a2, hadd, hrest⟩ := Option.bind_eq_some_iff.mp had
            unfold addO at hadd
            obtain ⟨bb, hany, hadd⟩ := Option.bind_eq_some_iff.mp hadd
            obtain ⟨A3, c3, e3⟩ := Kd.N_slice HOK.out
            subst e3
            have hct := contains_node 46 #[.pointer (some ⟨wr.heap.size, 0, none⟩)] (fun x => sameS k n x ⟨y0, y1, y2, y3, y4⟩) A3 c3 ac (wr.alloc (.cells #[.int .i64 y0, .slice E1 y1.length e1, .int .i64 y2, .int .i64 y3, .slice E4 y4.length e4] 25)) bb (Kd.C_alloc (Kd.N_reads' HOK.out).2.2 _) (fun x v b' W9 hb2 hN ht => or1_calls k n wr.heap.size x ⟨y0, y1, y2, y3, y4⟩ v #[.int .i64 y0, .slice E1 y1.length e1, .int .i64 y2, .int .i64 y3, .slice E4 y4.length e4] b' W9 (blk_below (heap_alloc_new wr _) hb2) (NodeAt.below ⟨E1, e1, E4, e4, rfl, r1, Kd.C_alloc (Kd.F_now r2) _, r3, Kd.C_alloc (Kd.F_now r4) _⟩ hb2) hN ht) (fun v W => enters_ Try.func46 (by kernel_rfl) rfl _ W) hany
            have HCT := Aside0.mk hct
            have HRR := Aside0.mk (And.intro r1 (And.intro r2 (And.intro r3 r4)))
            have HJL := Aside0.mk hjl
            have HRS := Aside0.mk hrest
            have HWY := Aside0.mk (below_alloc (Below.refl wr.heap.size wr) (.cells #[.int .i64 y0, .slice E1 y1.length e1, .int .i64 y2, .int .i64 y3, .slice E4 y4.length e4] 25))
            have HYB := Aside0.mk (heap_alloc_new wr (.cells #[.int .i64 y0, .slice E1 y1.length e1, .int .i64 y2, .int .i64 y3, .slice E4 y4.length e4] 25))
            have p1 : decide ((j : Int) < (ys.length : Int)) = true := decide_eq_true (by omega)
            have p2 : ((0 : Int) ≤ (j : Int)) = True := eq_true (by omega)
            have p3 : ((j : Int) < (ys.length : Int)) = True := eq_true (by omega)
            clear hct hany had hy r1 r2 r3 r4 hrest hj hjl
            cases bb with
            | true =>
              have h9 : a2 = ac := by first | (rw [if_pos rfl] at hadd; exact (Option.some.inj hadd).symm) | (rw [if_pos trivial] at hadd; exact (Option.some.inj hadd).symm)
              subst h9
              clear hadd
              go_wp2_with (go_at_call 23; (with_reducible refine HCT.out.mono ?_); rintro e_ w6 ⟨rfl, hb⟩; have HW6 := Aside0.mk (below_step HWY.out hb); have HY6 := Aside0.mk (blk_below HYB.out hb); have z0 := blk_cell HY6.out 0; have z1 := blk_cell HY6.out 1; have z2 := blk_cell HY6.out 2; have z3 := blk_cell HY6.out 3; have z4 := blk_cell HY6.out 4; clear hb)
              have hw2 := sn_wrap j (by have := (Foot.now HRW.out).2.1; have := HJL.out; omega)
              refine ⟨⟨j + 1, _, by first | (rw [hw2]; done) | rfl | (simp; done), HJL.out, HRS, ⟨Kd.N_below HOK.out HW6.out⟩, ⟨HRW.out.below HW6.out⟩, ⟨blk_below HGW.out HW6.out⟩, ⟨below_step HBW.out HW6.out⟩⟩, ?_⟩
              first | (rw [hw2]) | skip
              show ys.length - _ < ys.length - _
              have := HJL.out
              simp only [intOf, Int.toNat_natCast]
              omega
            | false =>
              rw [if_neg (by simp)] at hadd
              by_cases ca : ac.length < 1099511627776
              rotate_left
              · rw [if_neg ca] at hadd
                cases hadd
              rw [if_pos ca] at hadd
              obtain rfl := Option.some.inj hadd
              have HAC := Aside0.mk ca
              clear hadd ca
              go_wp2_with (first
          | (go_at_call 23; (with_reducible refine HCT.out.mono ?_); rintro e_ w6 ⟨rfl, hb⟩; have HW6 := Aside0.mk (below_step HWY.out hb); have HY6 := Aside0.mk (blk_below HYB.out hb); have z0 := blk_cell HY6.out 0; have z1 := blk_cell HY6.out 1; have z2 := blk_cell HY6.out 2; have z3 := blk_cell HY6.out 3; have z4 := blk_cell HY6.out 4; clear hb)
          | ((with_reducible refine gate_builtin (b := .append) (xs := #[.tmp 35, .tmp 37]) rfl ?_); at_builtin; refine Kd.N_append k25 (w0 := w0) w0.heap.size rfl (.tmp 35) (.tmp 37) 23 25 (.agg #[.int .i64 0, .slice none 0 0, .int .i64 0, .int .i64 0, .slice none 0 0]) 72 rfl Try.underlying23 ninfo rfl (by decide) (by decide) _ ac ⟨y0, y1, y2, y3, y4⟩ [.int .i64 y0, .slice E1 y1.length e1, .int .i64 y2, .int .i64 y3, .slice E4 y4.length e4] (fun k => ((P k ∨ w0.heap.size ≤ k) ∧ k ≠ gr) ∧ ¬ ((fun _ => False) k)) (fun k => P k ∧ k < w0.heap.size) rfl rfl (k25_mkF _ _ ⟨y0, y1, y2, y3, y4⟩ HRR.out.1 (Kd.F_below HRR.out.2.1 HW6.out) HRR.out.2.2.1 (Kd.F_below HRR.out.2.2.2 HW6.out)) ?sK ?sF (Kd.N_below HOK.out HW6.out) ?sB ?sS ?sL ?_; (case sK => (intro k hk; exact ⟨⟨⟨.inl hk.1, by have := HG.out; have := hk.2; omega⟩, fun hs => by exact hs⟩, fun he => by have := Kd.N_base HOK.out k he.symm; have := hk.2; omega⟩)); (case sF => (intro k hk; exact ⟨⟨.inr (Nat.le_trans (below_step HBW.out HW6.out).size hk), by have := blk_lt HGW.out; have := HW6.out.size; omega⟩, fun hs => by exact hs⟩)); (case sB => exact below_step HBW.out HW6.out); (case sS => exact (below_step HBW.out HW6.out).size); (case sL => (have := HAC.out; omega)); intro v1 w7 hn hb hg hat; have HO7 := Aside0.mk hn; have HB7 := Aside0.mk hb; have HG7 := Aside0.mk (blk_grown (blk_below HGW.out HW6.out) hg (Kd.N_away HOK.out (fun k hk => hk.1.2))); have HR7 := Aside0.mk ((HRW.out.below HW6.out).step (fun k hk hl => hg.block k hl (fun he => hk.elim (fun hp => by have := Kd.N_base HOK.out k he.symm; have := hp.2; omega) (fun hs => (HOK.out.1 k he.symm).2 hs)))); clear hn hb hg hat))
              have hw2 := sn_wrap j (by have := (Foot.now HRW.out).2.1; have := HJL.out; omega)
              refine ⟨⟨j + 1, _, by first | (rw [hw2]; done) | rfl | (simp; done), HJL.out, HRS, HO7, HR7, HG7, HB7⟩, ?_⟩
              first | (rw [hw2]) | skip
              show ys.length - _ < ys.length - _
              have := HJL.out
              simp only [intOf, Int.toNat_natCast]
              omega
          · have hn : j = ys.length := by omega
            subst hn
            have p1 : decide ((ys.length : Int) < (ys.length : Int)) = false := decide_eq_false (by omega)
            have had := HAD.out
            rw [List.drop_length] at had
            simp only [addsO] at had
            obtain rfl := Option.some.inj had
            clear had hj hjl
            go_wp2
            refine ⟨⟨i + 1, ac, by rw [hw], HLI.out, HREST, ⟨Kd.N_mono HOK.out (fun k hk => hk.1)⟩, HGW, HBW⟩, ?_⟩
            rw [hw]
            show l.length - (((i + 1 : Nat) : Int)).toNat < l.length - ((i : Int)).toNat
            simp only [Int.toNat_natCast]
            exact hm
      rw [if_neg c4'] at hh
      have k4 : (x0 == 4) = false := beq_eq_false_iff_ne.mpr c4'
      obtain ⟨accE, hadd, hrest⟩ := Option.bind_eq_some_iff.mp hh
      have HADD := Aside0.mk hadd
      have HREST := Aside0.mk hrest
      obtain ⟨ys, hys⟩ : ∃ ys : List DNode, [⟨x0, x1, x2, x3, x4⟩] = ys := ⟨_, rfl⟩
      have hrow : RowF W2 (fun k => P k ∧ k < w0.heap.size) (fun k => k = b6) (some ⟨b6, 0, none⟩) 1 ys := by rw [← hys]; exact RowF.one (cs := [.int .i64 x0, .slice A1 x1.length c1, .int .i64 x2, .int .i64 x3, .slice A4 x4.length c4]) HX6.out rfl (k25_mkF _ _ ⟨x0, x1, x2, x3, x4⟩ HQ.out.1 (Kd.F_below HQ.out.2.1 HWB.out) HQ.out.2.2.1 (Kd.F_below HQ.out.2.2.2 HWB.out))
      have hyl : ys.length = 1 := by rw [← hys]; rfl
      rw [hys] at HADD
      have HROW := Aside0.mk hrow
      have HOI := Aside0.mk (Kd.N_mono (ok' := (fun k => ((P k ∨ w0.heap.size ≤ k) ∧ k ≠ gr) ∧ ¬ ((fun k => k = b6) k))) (Kd.N_below (Kd.N_bound HO.out) HWB.out) (fun k hk => ⟨hk.1, fun hs => by have := HSZ.out.2; have := hk.2; have hs' : k = b6 := hs; omega⟩))
      clear hh hadd hrest hrow c4' c0
      go_wp2
      go_loopw [3, 27] (fun s3 s27 wy => ∃ (j : Nat) (ac : List DNode), s27 = .int .i64 (j : Int) ∧ j ≤ ys.length ∧ Aside0 (addsO k n ac (ys.drop j) = some accE) ∧ Aside0 (Kd.N k25 25 wy w0.heap.size (fun k => ((P k ∨ w0.heap.size ≤ k) ∧ k ≠ gr) ∧ ¬ ((fun k => k = b6) k)) s3 ac) ∧ Aside0 (RowF wy (fun k => P k ∧ k < w0.heap.size) (fun k => k = b6) (some ⟨b6, 0, none⟩) 1 ys) ∧ Aside0 (wy.heap[gr]? = some (.cells #[.int .i64 0, .slice none 0 0, .int .i64 0, .int .i64 0, .slice none 0 0] 25 (0, 0))) ∧ Aside0 (Below w0.heap.size w0 wy)) (fun _ s27 _ => ys.length - (intOf s27).toNat)
      case atStart => exact ⟨0, acc, rfl, by omega, by simpa using HADD, HOI, HROW, HG2, HB2⟩
      case round =>
        obtain ⟨j, ac, rfl, hj, HAD, HOK, HRW, HGW, HBW⟩ := hrel
        by_cases hjl : j < ys.length
        · obtain ⟨ae, E1, e1, E4, e4, ee, m0, m1, m2, m3, m4, r1, r2, r3, r4⟩ := at_R HRW.out j (by omega)
          obtain rfl : j = 0 := by omega
          cases ee
          have ea : (⟨b6, 0, none⟩ : Addr).add (0 * 5) = ⟨b6, 0, none⟩ := rfl
          rw [ea] at m0 m1 m2 m3 m4
          have had := HAD.out
          rw [sn_drop z25 ys 0 hjl] at had
          obtain ⟨y, hy⟩ : ∃ y, ys.getD 0 z25 = y := ⟨_, rfl⟩
          rw [hy] at m0 m1 m2 m3 m4 r1 r2 r3 r4 had
          obtain ⟨y0, y1, y2, y3, y4⟩ := y
          dsimp only at m0 m1 m2 m3 m4 r1 r2 r3 r4
          simp only [addsO] at had
          obtain ⟨a2, hadd, hrest⟩ := Option.bind_eq_some_iff.mp had
          unfold addO at hadd
          obtain ⟨bb, hany, hadd⟩ := Option.bind_eq_some_iff.mp hadd
          obtain ⟨A3, c3, e3⟩ := Kd.N_slice HOK.out
          subst e3
          have hct := contains_node 46 #[.pointer (some ⟨wr.heap.size, 0, none⟩)] (fun x => sameS k n x ⟨y0, y1, y2, y3, y4⟩) A3 c3 ac (wr.alloc (.cells #[.int .i64 y0, .slice E1 y1.length e1, .int .i64 y2, .int .i64 y3, .slice E4 y4.length e4] 25)) bb (Kd.C_alloc (Kd.N_reads' HOK.out).2.2 _) (fun x v b' W9 hb2 hN ht => or1_calls k n wr.heap.size x ⟨y0, y1, y2, y3, y4⟩ v #[.int .i64 y0, .slice E1 y1.length e1, .int .i64 y2, .int .i64 y3, .slice E4 y4.length e4] b' W9 (blk_below (heap_alloc_new wr _) hb2) (NodeAt.below ⟨E1, e1, E4, e4, rfl, r1, Kd.C_alloc (Kd.F_now r2) _, r3, Kd.C_alloc (Kd.F_now r4) _⟩ hb2) hN ht) (fun v W => enters_ Try.func46 (by kernel_rfl) rfl _ W) hany
          have HCT := Aside0.mk hct
          have HRR := Aside0.mk (And.intro r1 (And.intro r2 (And.intro r3 r4)))
          have HJL := Aside0.mk hjl
          have HRS := Aside0.mk hrest
          have HWY := Aside0.mk (below_alloc (Below.refl wr.heap.size wr) (.cells #[.int .i64 y0, .slice E1 y1.length e1, .int .i64 y2, .int .i64 y3, .slice E4 y4.length e4] 25))
          have HYB := Aside0.mk (heap_alloc_new wr (.cells #[.int .i64 y0, .slice E1 y1.length e1, .int .i64 y2, .int .i64 y3, .slice E4 y4.length e4] 25))
          have p1 : decide ((0 : Int) < (1 : Int)) = true := decide_eq_true (by omega)
          have p2 : ((0 : Int) ≤ (0 : Int)) = True := eq_true (by omega)
          have p3 : ((0 : Int) < (1 : Int)) = True := eq_true (by omega)
          have HLB := Aside0.mk (World.block_lt_of_cell? _ _ m0)
          clear hct hany had hy r1 r2 r3 r4 hrest hj hjl
          cases bb with
          | true =>
            have h9 : a2 = ac := by first | (rw [if_pos rfl] at hadd; exact (Option.some.inj hadd).symm) | (rw [if_pos trivial] at hadd; exact (Option.some.inj hadd).symm)
            subst h9
            clear hadd
            go_wp2_with (go_at_call 23; (with_reducible refine HCT.out.mono ?_); rintro e_ w6 ⟨rfl, hb⟩; have HW6 := Aside0.mk (below_step HWY.out hb); have HY6 := Aside0.mk (blk_below HYB.out hb); have z0 := blk_cell HY6.out 0; have z1 := blk_cell HY6.out 1; have z2 := blk_cell HY6.out 2; have z3 := blk_cell HY6.out 3; have z4 := blk_cell HY6.out 4; clear hb)
            have hw2 := sn_wrap 0 (by omega)
            refine ⟨⟨0 + 1, _, by first | (rw [hw2]; done) | rfl | (simp; done), HJL.out, HRS, ⟨Kd.N_below HOK.out HW6.out⟩, ⟨HRW.out.below HW6.out⟩, ⟨blk_below HGW.out HW6.out⟩, ⟨below_step HBW.out HW6.out⟩⟩, ?_⟩
            first | (rw [hw2]) | skip
            show ys.length - _ < ys.length - _
            have := HJL.out
            simp only [intOf, Int.toNat_natCast]
            omega
          | false =>
            rw [if_neg (by simp)] at hadd
            by_cases ca : ac.length < 1099511627776
            rotate_left
            · rw [if_neg ca] at hadd
              cases hadd
            rw [if_pos ca] at hadd
            obtain rfl := Option.some.inj hadd
            have HAC := Aside0.mk ca
            clear hadd ca
            go_wp2_with (first
          | (go_at_call 23; (with_reducible refine HCT.out.mono ?_); rintro e_ w6 ⟨rfl, hb⟩; have HW6 := Aside0.mk (below_step HWY.out hb); have HY6 := Aside0.mk (blk_below HYB.out hb); have z0 := blk_cell HY6.out 0; have z1 := blk_cell HY6.out 1; have z2 := blk_cell HY6.out 2; have z3 := blk_cell HY6.out 3; have z4 := blk_cell HY6.out 4; clear hb)
          | ((with_reducible refine gate_builtin (b := .append) (xs := #[.tmp 35, .tmp 37]) rfl ?_); at_builtin; refine Kd.N_append k25 (w0 := w0) w0.heap.size rfl (.tmp 35) (.tmp 37) 23 25 (.agg #[.int .i64 0, .slice none 0 0, .int .i64 0, .int .i64 0, .slice none 0 0]) 72 rfl Try.underlying23 ninfo rfl (by decide) (by decide) _ ac ⟨y0, y1, y2, y3, y4⟩ [.int .i64 y0, .slice E1 y1.length e1, .int .i64 y2, .int .i64 y3, .slice E4 y4.length e4] (fun k => ((P k ∨ w0.heap.size ≤ k) ∧ k ≠ gr) ∧ ¬ ((fun k => k = b6) k)) (fun k => P k ∧ k < w0.heap.size) rfl rfl (k25_mkF _ _ ⟨y0, y1, y2, y3, y4⟩ HRR.out.1 (Kd.F_below HRR.out.2.1 HW6.out) HRR.out.2.2.1 (Kd.F_below HRR.out.2.2.2 HW6.out)) ?sK ?sF (Kd.N_below HOK.out HW6.out) ?sB ?sS ?sL ?_; (case sK => (intro k hk; exact ⟨⟨⟨.inl hk.1, by have := HG.out; have := hk.2; omega⟩, fun hs => by have hs' : k = b6 := hs; have := HBB6.out; have := hk.2; omega⟩, fun he => by have := Kd.N_base HOK.out k he.symm; have := hk.2; omega⟩)); (case sF => (intro k hk; exact ⟨⟨.inr (Nat.le_trans (below_step HBW.out HW6.out).size hk), by have := blk_lt HGW.out; have := HW6.out.size; omega⟩, fun hs => by have hs' : k = b6 := hs; have := HLB.out; have := HW6.out.size; omega⟩)); (case sB => exact below_step HBW.out HW6.out); (case sS => exact (below_step HBW.out HW6.out).size); (case sL => (have := HAC.out; omega)); intro v1 w7 hn hb hg hat; have HO7 := Aside0.mk hn; have HB7 := Aside0.mk hb; have HG7 := Aside0.mk (blk_grown (blk_below HGW.out HW6.out) hg (Kd.N_away HOK.out (fun k hk => hk.1.2))); have HR7 := Aside0.mk ((HRW.out.below HW6.out).step (fun k hk hl => hg.block k hl (fun he => hk.elim (fun hp => by have := Kd.N_base HOK.out k he.symm; have := hp.2; omega) (fun hs => (HOK.out.1 k he.symm).2 hs)))); clear hn hb hg hat))
            have hw2 := sn_wrap 0 (by omega)
            refine ⟨⟨0 + 1, _, by first | (rw [hw2]; done) | rfl | (simp; done), HJL.out, HRS, HO7, HR7, HG7, HB7⟩, ?_⟩
            first | (rw [hw2]) | skip
            show ys.length - _ < ys.length - _
            have := HJL.out
            simp only [intOf, Int.toNat_natCast]
            omega
        · obtain rfl : j = 1 := by omega
          have had := HAD.out
          rw [List.drop_eq_nil_of_le (by omega)] at had
          simp only [addsO] at had
          obtain rfl := Option.some.inj had
          clear had hj hjl
          go_wp2
          refine ⟨⟨i + 1, ac, by rw [hw], HLI.out, HREST, ⟨Kd.N_mono HOK.out (fun k hk => hk.1)⟩, HGW, HBW⟩, ?_⟩
          rw [hw]
          show l.length - (((i + 1 : Nat) : Int)).toNat < l.length - ((i : Int)).toNat
          simp only [Int.toNat_natCast]
          exact hm
    · have hn : i = l.length := by omega
      subst hn
      have g1 : decide ((l.length : Int) < (l.length : Int)) = false := decide_eq_false (by omega)
      have hh := HH.out
      rw [List.drop_length] at hh
      simp only [okids] at hh
      obtain rfl := Option.some.inj hh
      obtain ⟨A3, c3, e3⟩ := Kd.N_slice HO.out
      subst e3
      clear hh HH hi
      cases acc with
      | nil =>
        go_wp2_with (go_at_call 27; (with_reducible refine (deriv_none.calls 0 [] 0 0 [] _ rfl).mono ?_); rintro e_ w5 ⟨v1, v4, rfl, hv1, hv4, hb⟩; obtain ⟨D1, d1, rfl⟩ := Kd.R_slice hv1; obtain ⟨D4, d4, rfl⟩ := Kd.R_slice hv4; have HB5 := Aside0.mk (below_step HB.out hb); have HGG := Aside0.mk (blk_below HGR.out hb); have t0 := blk_cell HGG.out 0; have t1 := blk_cell HGG.out 1; have t2 := blk_cell HGG.out 2; have t3 := blk_cell HGG.out 3; have t4 := blk_cell HGG.out 4; have f0 := blk_frozen HGG.out 0; have f1 := blk_frozen HGG.out 1; have f2 := blk_frozen HGG.out 2; have f3 := blk_frozen HGG.out 3; have f4 := blk_frozen HGG.out 4; clear hv1 hv4 hb)
        refine bodyPost_ret (results_cell_row rfl _ _ gr 25 #[.int .i64 0, .slice D1 0 d1, .int .i64 0, .int .i64 0, .slice D4 0 d4] (0, 0) _ rfl (blk_put (blk_put (blk_put (blk_put (blk_put HGG.out 0 _ rfl) 1 _ rfl) 2 _ rfl) 3 _ rfl) 4 _ rfl) Try.underlying25 rfl (by kernel_rfl)) rfl ?_
        exact ⟨_, rfl, ⟨D1, d1, D4, d4, rfl, Nat.zero_le _, F_zero _, Nat.zero_le _, F_zero _⟩, below_set (below_set (below_set (below_set (below_set HB5.out HG.out) HG.out) HG.out) HG.out) HG.out⟩
      | cons y rest =>
        cases rest with
        | nil =>
          obtain ⟨ad, E1, e1, E4, e4, ee, h0, h1, h2, h3, h4, q1, q2, q3, q4⟩ := at_F (Kd.N_F HO.out) 0 (by simp)
          cases ee
          have ea : ad.add (0 * 5) = ad := by
            show ad.add 0 = ad
            cases ad
            simp [Addr.add]
          rw [ea] at h0 h1 h2 h3 h4
          have hy : ([y] : List DNode).getD 0 z25 = y := rfl
          rw [hy] at h0 h1 h2 h3 h4 q1 q2 q3 q4
          have HNF := Aside0.mk (show NodeF wr (fun k => (P k ∨ w0.heap.size ≤ k) ∧ k ≠ gr) y _ from ⟨E1, e1, E4, e4, rfl, q1, q2, q3, q4⟩)
          have HGG := HGR
          have u1 : ((0 : Int) < (1 : Int)) = True := eq_true (by omega)
          have t0 := blk_cell HGG.out 0
          have t1 := blk_cell HGG.out 1
          have t2 := blk_cell HGG.out 2
          have t3 := blk_cell HGG.out 3
          have t4 := blk_cell HGG.out 4
          have f0 := blk_frozen HGG.out 0
          have f1 := blk_frozen HGG.out 1
          have f2 := blk_frozen HGG.out 2
          have f3 := blk_frozen HGG.out 3
          have f4 := blk_frozen HGG.out 4
          clear q1 q2 q3 q4 hy
          go_wp2
          refine bodyPost_ret (results_cell_row rfl _ _ gr 25 #[.int .i64 y.f0, .slice E1 y.f1.length e1, .int .i64 y.f2, .int .i64 y.f3, .slice E4 y.f4.length e4] (0, 0) _ rfl (blk_put (blk_put (blk_put (blk_put (blk_put HGG.out 0 _ rfl) 1 _ rfl) 2 _ rfl) 3 _ rfl) 4 _ rfl) Try.underlying25 rfl (by kernel_rfl)) rfl ?_
          exact ⟨_, rfl, (((((HNF.out.far (fun k hk => hk.2) _).far (fun k hk => hk.2) _).far (fun k hk => hk.2) _).far (fun k hk => hk.2) _).far (fun k hk => hk.2) _).mono (fun k hk => hk.1), below_set (below_set (below_set (below_set (below_set HB.out HG.out) HG.out) HG.out) HG.out) HG.out⟩
        | cons z rest =>
          have HGG := HGR
          have HNF := Aside0.mk (show NodeF wr (fun k => (P k ∨ w0.heap.size ≤ k) ∧ k ≠ gr) ⟨4, [], 0, 0, y :: z :: rest⟩ (.agg #[.int .i64 4, .slice none 0 0, .int .i64 0, .int .i64 0, .slice A3 (y :: z :: rest).length c3]) from ⟨none, 0, A3, c3, rfl, Nat.le_refl _, F_zero _, (Kd.N_reads' HO.out).2.1, Kd.N_F HO.out⟩)
          have t0 := blk_cell HGG.out 0
          have t1 := blk_cell HGG.out 1
          have t2 := blk_cell HGG.out 2
          have t3 := blk_cell HGG.out 3
          have t4 := blk_cell HGG.out 4
          have f0 := blk_frozen HGG.out 0
          have f1 := blk_frozen HGG.out 1
          have f2 := blk_frozen HGG.out 2
          have f3 := blk_frozen HGG.out 3
          have f4 := blk_frozen HGG.out 4
          have p0 : (((y :: z :: rest).length : Int) == 0) = false := beq_eq_false_iff_ne.mpr (by simp only [List.length_cons]; omega)
          have p1 : (((y :: z :: rest).length : Int) == 1) = false := beq_eq_false_iff_ne.mpr (by simp only [List.length_cons]; omega)
          obtain ⟨n9, hn9⟩ : ∃ n9, (y :: z :: rest).length = n9 := ⟨_, rfl⟩
          obtain ⟨ll, hll⟩ : ∃ ll, y :: z :: rest = ll := ⟨_, rfl⟩
          rw [hll] at p0 p1 HNF ⊢
          go_wp2
          refine bodyPost_ret (results_cell_row rfl _ _ gr 25 #[.int .i64 4, .slice none 0 0, .int .i64 0, .int .i64 0, .slice A3 ll.length c3] (0, 0) _ rfl (blk_put (blk_put (blk_put (blk_put (blk_put HGG.out 0 _ rfl) 1 _ rfl) 2 _ rfl) 3 _ rfl) 4 _ rfl) Try.underlying25 rfl (by kernel_rfl)) rfl ?_
          subst hll
          exact ⟨_, rfl, (((((HNF.out.far (fun k hk => hk.2) _).far (fun k hk => hk.2) _).far (fun k hk => hk.2) _).far (fun k hk => hk.2) _).far (fun k hk => hk.2) _).mono (fun k hk => hk.1), below_set (below_set (below_set (below_set (below_set HB.out HG.out) HG.out) HG.out) HG.out) HG.out⟩
end Go.Proofs.Ytaphbechnjmlgaa.P
namespace Go.Proofs.Ytaphbechnjmlgaa.P
open Go.RowKit Go.Proofs.YtaphbechnjmlgaaW.PrintWords Go.Proofs.YtaphbechnjmlgaaW.PrintLast
set_option linter.unusedVariables false
set_option linter.unusedSimpArgs false

def inRg (c : Int) (r : S52) : Bool := decide (r.f0 ≤ c) && decide (c ≤ r.f1)
def hasM (l : List S52) (c : Int) : Bool := l.any (inRg c)
set_option maxHeartbeats 4000000 in
theorem inRg_calls (x : Int) (c : Nat) (f0 f1 : Int) (w : World) (hc : w.cell? ⟨c, 0, none⟩ = some (.int .i64 x)) :
    Calls Try.prog 44 #[.agg #[.int .i64 f0, .int .i64 f1], .pointer (some ⟨c, 0, none⟩)] w fun e w' => e = .returned (.bool (inRg x ⟨f0, f1⟩)) ∧ Below w.heap.size w w' := by
  have hu := Try.underlying52
  have hc2 := fun o => cell_later (below_alloc (Below.refl w.heap.size w) o) hc
  have hc3 := hc2 (.cells #[.int .i64 f0, .int .i64 f1] 52)
  clear hc2
  by_cases h0 : f0 ≤ x
  · have k0 : decide (f0 ≤ x) = true := decide_eq_true h0
    have hi : inRg x ⟨f0, f1⟩ = decide (x ≤ f1) := by simp [inRg, h0]
    rw [hi]
    clear hi h0
    go_enter Try.func44, Try.ntmps44
    go_wp2
    go_ret
    exact ⟨rfl, below_alloc (Below.refl _ _) _⟩
  · have k0 : decide (f0 ≤ x) = false := decide_eq_false h0
    have hi : inRg x ⟨f0, f1⟩ = false := by simp [inRg, h0]
    rw [hi]
    clear hi h0
    go_enter Try.func44, Try.ntmps44
    go_wp2
    go_ret
    exact ⟨rfl, below_alloc (Below.refl _ _) _⟩
set_option maxHeartbeats 4000000 in
set_option maxRecDepth 100000 in
theorem index_range (g : Nat) (caps : Array Value) (t : S52 → Bool) (A0 : Option Addr) (c0 : Nat) (l0 : List S52) (w : World) (hr0 : k52.C w A0 l0.length l0)
    (ht : ∀ (x : S52) (W : World), Below w.heap.size w W → Calls Try.prog g (#[.agg #[.int .i64 x.f0, .int .i64 x.f1]] ++ caps) W fun e w' => e = .returned (.bool (t x)) ∧ Below W.heap.size W w')
    (hgo : ∀ (v : Value) (W : World), (callFunc g (#[v] ++ caps)).run Try.prog W = .ok (.enter g (#[v] ++ caps)) W) :
    Calls Try.prog 53 #[.slice A0 l0.length c0, .func (.func g) #[] caps] w fun e w' => (∃ i : Int, e = .returned (.int .i64 i) ∧ decide (i ≥ 0) = l0.any t) ∧ Below w.heap.size w w' := by
  have HL := Aside0.mk (Kd.C_max hr0)
  have HR0 := Aside0.mk hr0
  have HT := Aside0.mk ht
  obtain ⟨r, hr⟩ : ∃ r, l0.any t = r := ⟨_, rfl⟩
  rw [hr]
  have HH := Aside0.mk hr
  clear hr0 ht hr
  go_enter Try.func53, Try.ntmps53
  go_wp2
  go_loopw [8] (fun v wr => ∃ i : Nat, v = .int .i64 (i : Int) ∧ i ≤ l0.length ∧ Below w.heap.size w wr ∧ (l0.drop i).any t = r) (fun v wr => l0.length - (intOf v).toNat)
  case atStart => exact ⟨0, rfl, by omega, Below.refl _ _, by simpa using HH.out⟩
  case round =>
    obtain ⟨i, rfl, hi, hB, hidx⟩ := hrel
    have HB := Aside0.mk hB
    by_cases h : i < l0.length
    · obtain ⟨ad, e, h0, h1⟩ := at_T52 (Kd.C_below HR0.out hB) (i : Int) (by omega) (by omega)
      cases e
      rw [Int.toNat_natCast] at h0 h1
      rw [sn_drop z52 l0 i h] at hidx
      have hx : rd_T52 l0 (i : Int) = l0.getD i z52 := rfl
      rw [hx] at h0 h1
      obtain ⟨x, hxx⟩ : ∃ x, l0.getD i z52 = x := ⟨_, rfl⟩
      rw [hxx] at h0 h1 hidx
      simp only [List.any_cons] at hidx
      have hcall := HT.out x wr hB
      have p1 : decide ((i : Int) < (l0.length : Int)) = true := decide_eq_true (by omega)
      have p2 : ((0 : Int) ≤ (i : Int)) = True := eq_true (by omega)
      have p3 : ((i : Int) < (l0.length : Int)) = True := eq_true (by omega)
      have hgo1 := hgo (.agg #[.int .i64 x.f0, .int .i64 x.f1])
      obtain ⟨b, hb⟩ : ∃ b, t x = b := ⟨_, rfl⟩
      rw [hb] at hcall hidx
      have H := Aside0.mk hidx
      clear hidx hB hx hxx hb
      cases b with
      | true =>
        go_wp2_with (refine hcall.mono ?_; rintro e w' ⟨rfl, hb1⟩; have HB1 := Aside0.mk hb1; clear hb1)
        go_ret
        refine ⟨⟨_, rfl, ?_⟩, below_step HB.out HB1.out⟩
        have := H.out
        rw [Bool.true_or] at this
        rw [← this]
        exact decide_eq_true (by omega)
      | false =>
        go_wp2_with (refine hcall.mono ?_; rintro e w' ⟨rfl, hb1⟩; have HB1 := Aside0.mk hb1; clear hb1)
        have hw := sn_wrap i (by have := HL.out; omega)
        refine ⟨⟨i + 1, by rw [hw], by omega, below_step HB.out HB1.out, ?_⟩, ?_⟩
        · have := H.out
          rw [Bool.false_or] at this
          exact this
        · rw [hw]
          show l0.length - (((i + 1 : Nat) : Int)).toNat < l0.length - ((i : Int)).toNat
          clear hw
          omega
    · have hn : i = l0.length := by omega
      subst hn
      have p1 : decide ((l0.length : Int) < (l0.length : Int)) = false := decide_eq_false (by omega)
      have H := Aside0.mk hidx
      clear hidx hB
      go_wp2
      go_ret
      refine ⟨⟨_, rfl, ?_⟩, HB.out⟩
      have := H.out
      rw [List.drop_length] at this
      rw [← this]
      exact decide_eq_false (by omega)
set_option maxHeartbeats 4000000 in
theorem contains_range (g : Nat) (caps : Array Value) (t : S52 → Bool) (A0 : Option Addr) (c0 : Nat) (l0 : List S52) (w : World) (hr0 : k52.C w A0 l0.length l0)
    (ht : ∀ (x : S52) (W : World), Below w.heap.size w W → Calls Try.prog g (#[.agg #[.int .i64 x.f0, .int .i64 x.f1]] ++ caps) W fun e w' => e = .returned (.bool (t x)) ∧ Below W.heap.size W w')
    (hgo : ∀ (v : Value) (W : World), (callFunc g (#[v] ++ caps)).run Try.prog W = .ok (.enter g (#[v] ++ caps)) W) :
    Calls Try.prog 43 #[.slice A0 l0.length c0, .func (.func g) #[] caps] w fun e w' => e = .returned (.bool (l0.any t)) ∧ Below w.heap.size w w' := by
  have hct := index_range g caps t A0 c0 l0 w hr0 ht hgo
  clear hr0 ht hgo
  go_enter Try.func43, Try.ntmps43
  go_wp2_with (go_at_call 53; (with_reducible refine hct.mono ?_); rintro e w' ⟨⟨i, rfl, hi⟩, hb⟩; have HB := Aside0.mk hb; have HI := Aside0.mk hi; clear hb hi)
  go_ret
  exact ⟨by rw [← HI.out]; rfl, HB.out⟩
def tree_Has.f (l0 : List S52) (a1 : Int) : Option Bool := some (hasM l0 a1)
set_option maxHeartbeats 4000000 in
theorem tree_Has.calls (A0 : Option Addr) (c0 : Nat) (l0 : List S52) (a1 : Int) (r : Bool) (w : World) (hr0 : Kd.C k52 w A0 l0.length l0) (hc0 : l0.length ≤ c0) (h : tree_Has.f l0 a1 = some r) :
    Calls Try.prog 34 #[.slice A0 l0.length c0, .int .i64 a1] w fun e w' => e = .returned (.bool r) ∧ Below w.heap.size w w' := by
  obtain rfl := Option.some.inj h
  have hct := contains_range 44 #[.pointer (some ⟨w.heap.size, 0, none⟩)] (inRg a1) A0 c0 l0 (w.alloc (.cells #[.int .i64 a1] 3)) (Kd.C_alloc hr0 _) (fun x W2 hb2 => inRg_calls a1 w.heap.size x.f0 x.f1 W2 (cell_later hb2 (blk_cell (heap_alloc_new w _) 0))) (fun v W => enters_ Try.func44 (by kernel_rfl) rfl _ W)
  have HCT := Aside0.mk hct
  clear h hc0 hr0 hct
  go_enter Try.func34, Try.ntmps34
  go_wp2_with (go_at_call 43; (with_reducible refine HCT.out.mono ?_); rintro e w' ⟨rfl, hb⟩; have HB := Aside0.mk hb; clear hb)
  go_ret
  exact ⟨rfl, below_step (below_alloc (Below.refl _ _) _) HB.out⟩
end Go.Proofs.Ytaphbechnjmlgaa.P
namespace Go.Proofs.Ytaphbechnjmlgaa.P
open Go.RowKit Go.Proofs.YtaphbechnjmlgaaW.PrintWords Go.Proofs.YtaphbechnjmlgaaW.PrintLast Go.Proofs.YtaphbechnjmlgaaW.PrintMore
set_option linter.unusedVariables false
set_option linter.unusedSimpArgs false

/-- A repeat, once less often. -/
def fewerN (x : DNode) : DNode := ⟨x.f0, x.f1, mx 0 (wrap64 (x.f2 - 1)), if x.f3 > 0 then wrap64 (x.f3 - 1) else x.f3, x.f4⟩
/-- The steps of a join's kids, as far as each ahead matches nothing. -/
def sjoinL (f : DNode → Option DNode) (nl : DNode → Option Bool) : List DNode → List DNode → Option (List DNode)
  | [], all => some all
  | k :: ks, all => if all.length < 1099511627776 ∧ ks.length < 1099511627776 then (f k).bind fun s => (dkids (s :: ks) []).bind fun d => (nl k).bind fun b => if b = true then sjoinL f nl ks (all ++ [joinK d]) else some (all ++ [joinK d]) else none
/-- The steps of a repeat: first is its kid's. -/
def srepL (k : Nat) (first : DNode) (nl : Option Bool) : Nat → DNode → List DNode → Option (List DNode)
  | 0, _, _ => none
  | m + 1, x, all => if x.f3 = 0 then some all else if all.length < 1099511627776 then
      (if (fewerN x).f3 = 0 then some (all ++ [first]) else (dkids [first, fewerN x] []).map fun d => all ++ [joinK d]).bind fun a =>
        (sameS k k (fewerN x) x).bind fun b => if b = true then some a else nl.bind fun z => if z = true then srepL k first nl m (fewerN x) a else some a else none
def mapO (f : DNode → Option DNode) : List DNode → List DNode → Option (List DNode)
  | [], all => some all
  | x :: l, all => if all.length < 1099511627776 then (f x).bind fun y => mapO f l (all ++ [y]) else none
def orN' (k : Nat) (l : List DNode) : Option DNode := (okids k k l []).map orK
/-- A node behind a character, of a depth up to n. -/
def stepS (k : Nat) (c : Int) (st : Bool) : Nat → DNode → Option DNode
  | 0, _ => none
  | n + 1, x => if x.f0 = 2 then some (if hasM x.f1 c = true then ⟨1, [], 0, 0, []⟩ else ⟨0, [], 0, 0, []⟩)
      else if x.f0 = 3 then (sjoinL (stepS k c st n) (nullS st false k) x.f4 []).bind (orN' k)
      else if x.f0 = 4 then (mapO (stepS k c st n) x.f4 []).bind (orN' k)
      else if x.f0 = 5 then (if x.f4.length = 1 then (stepS k c st n (x.f4.getD 0 z25)).bind fun first => (srepL k first (nullS st false k (x.f4.getD 0 z25)) k x []).bind (orN' k) else some ⟨0, [], 0, 0, []⟩)
      else some ⟨0, [], 0, 0, []⟩
/-- stepper.step answers stepS, up to a depth. -/
abbrev StepN (k : Nat) (c : Int) (st : Bool) (n : Nat) : Prop := ∀ (P : Nat → Prop) (x : DNode) (v : Value) (r : DNode) (w : World), NodeF w P x v → stepS k c st n x = some r →
  Calls Try.prog 25 #[.agg #[.int .i64 c, .bool st], v] w fun e w' => ∃ rv, e = .returned rv ∧ NodeF w' (fun k => P k ∨ w.heap.size ≤ k) r rv ∧ Below w.heap.size w w'
/-- .. stepper.join of sjoinL, stepper.repeat of srepL. -/
abbrev JoinN (k : Nat) (c : Int) (st : Bool) (n : Nat) : Prop := ∀ (P : Nat → Prop) (A : Option Addr) (cc : Nat) (l : List DNode) (r : DNode) (w : World), l.length ≤ cc → Kd.F k25 w P A l.length l → (sjoinL (stepS k c st n) (nullS st false k) l []).bind (orN' k) = some r →
  Calls Try.prog 36 #[.agg #[.int .i64 c, .bool st], .slice A l.length cc] w fun e w' => ∃ rv, e = .returned rv ∧ NodeF w' (fun k => P k ∨ w.heap.size ≤ k) r rv ∧ Below w.heap.size w w'
abbrev RepN (k : Nat) (c : Int) (st : Bool) (n : Nat) : Prop := ∀ (P : Nat → Prop) (x : DNode) (v : Value) (r : DNode) (w : World), NodeF w P x v → x.f4.length = 1 → ((stepS k c st n (x.f4.getD 0 z25)).bind fun first => (srepL k first (nullS st false k (x.f4.getD 0 z25)) k x []).bind (orN' k)) = some r →
  Calls Try.prog 38 #[.agg #[.int .i64 c, .bool st], v] w fun e w' => ∃ rv, e = .returned rv ∧ NodeF w' (fun k => P k ∨ w.heap.size ≤ k) r rv ∧ Below w.heap.size w w'
/-- How it stands: the stepper, the node and the result in blocks of their own. -/
structure SI (w W : World) (gs gx gr : Nat) (cs cx : Array Value) : Prop where
  below : Below w.heap.size w W
  bs : W.heap[gs]? = some (.cells cs 45 (0, 0))
  bx : W.heap[gx]? = some (.cells cx 25 (0, 0))
  ls : w.heap.size ≤ gs
  lx : w.heap.size ≤ gx
  lr : w.heap.size ≤ gr
  br : W.heap[gr]? = some (.cells #[.int .i64 0, .slice none 0 0, .int .i64 0, .int .i64 0, .slice none 0 0] 25 (0, 0))
theorem SI.more {w W W2 : World} {gs gx gr : Nat} {cs cx : Array Value} (h : SI w W gs gx gr cs cx) (hb : Below W.heap.size W W2) : SI w W2 gs gx gr cs cx :=
  ⟨below_step h.below hb, blk_below h.bs hb, blk_below h.bx hb, h.ls, h.lx, h.lr, blk_below h.br hb⟩
/-- What the call's own row of results may lie in, and lead to. -/
abbrev okS (w : World) (P : Nat → Prop) (gs gx gr : Nat) (k : Nat) : Prop := (P k ∨ w.heap.size ≤ k) ∧ k ≠ gr ∧ k ≠ gs ∧ k ≠ gx
theorem SI.new {w W : World} {gs gx gr : Nat} {cs cx : Array Value} (h : SI w W gs gx gr cs cx) (P : Nat → Prop) {k : Nat} (hk : W.heap.size ≤ k) : okS w P gs gx gr k := by
  have := h.below.size
  have := blk_lt h.bs
  have := blk_lt h.bx
  have := blk_lt h.br
  exact ⟨.inr (by omega), by omega, by omega, by omega⟩
theorem SI.old {w W : World} {gs gx gr : Nat} {cs cx : Array Value} (h : SI w W gs gx gr cs cx) {P : Nat → Prop} {k : Nat} (hp : P k) (hk : k < w.heap.size) : okS w P gs gx gr k := by
  have := h.ls
  have := h.lx
  have := h.lr
  exact ⟨.inl hp, by omega, by omega, by omega⟩
theorem SI.grown {w W W2 : World} {P : Nat → Prop} {gs gx gr : Nat} {cs cx : Array Value} (h : SI w W gs gx gr cs cx) {row : Option Nat} (hg : W.grownBy W2 row) (hb : Below w.heap.size w W2) (hr : ∀ k, row = some k → okS w P gs gx gr k) : SI w W2 gs gx gr cs cx :=
  ⟨hb, blk_grown h.bs hg (fun he => (hr gs he.symm).2.2.1 rfl), blk_grown h.bx hg (fun he => (hr gx he.symm).2.2.2 rfl), h.ls, h.lx, h.lr, blk_grown h.br hg (fun he => (hr gr he.symm).2.1 rfl)⟩
set_option maxHeartbeats 8000000 in
set_option maxRecDepth 100000 in
theorem step_step (k : Nat) (c : Int) (st : Bool) (n : Nat) (ih : StepN k c st n) (hJ : JoinN k c st n) (hR : RepN k c st n) (P : Nat → Prop) (x0 : Int) (A1 : Option Addr) (c1 : Nat) (x1 : List S52) (x2 x3 : Int) (A4 : Option Addr) (c4 : Nat) (x4 : List DNode) (w : World) (r : DNode)
    (l1 : x1.length ≤ c1) (q1 : Kd.F k52 w P A1 x1.length x1) (l4 : x4.length ≤ c4) (q4 : Kd.F k25 w P A4 x4.length x4) (h : stepS k c st (n + 1) ⟨x0, x1, x2, x3, x4⟩ = some r) :
    Calls Try.prog 25 #[.agg #[.int .i64 c, .bool st], .agg #[.int .i64 x0, .slice A1 x1.length c1, .int .i64 x2, .int .i64 x3, .slice A4 x4.length c4]] w fun e w' => ∃ rv, e = .returned rv ∧ NodeF w' (fun k => P k ∨ w.heap.size ≤ k) r rv ∧ Below w.heap.size w w' := by
  have hu := Try.underlying25
  have hus := Try.underlying45
  rw [stepS] at h
  dsimp only at h
  have HH := Aside0.mk h
  have HQ := Aside0.mk (And.intro l1 (And.intro q1 (And.intro l4 q4)))
  have HIH := Aside0.mk ih
  have HJN := Aside0.mk hJ
  have HRN := Aside0.mk hR
  have HB := Aside0.mk (Below.refl w.heap.size w)
  clear h l1 q1 l4 q4 ih hJ hR
  go_enter Try.func25, Try.ntmps25
  go_upto_region 1 with (first
    | ((with_reducible refine gate_dst (N := 2) rfl ?_); (try (refine gate_guard (by rfl) ?_; dsimp only)); refine box_event ?hg (N := 2) ?hd (cs := #[.int .i64 c, .bool st]) (t := 45) ?hr ?_; (case hd => rfl); (case hg => rfl); (case hr => first | (go_simp; done) | (go_simp; rfl)); intro gs hg w1 hbox hb; have HGS := Aside0.mk (by rw [hg]; exact Nat.le_refl _ : w.heap.size ≤ gs); have HB1 := Aside0.mk (below_step HB.out hb); have HBS := Aside0.mk hbox; clear hb hbox hg)
    | ((with_reducible refine gate_dst (N := 3) rfl ?_); (try (refine gate_guard (by rfl) ?_; dsimp only)); refine box_event ?hg (N := 3) ?hd (cs := #[.int .i64 x0, .slice A1 x1.length c1, .int .i64 x2, .int .i64 x3, .slice A4 x4.length c4]) (t := 25) ?hr ?_; (case hd => rfl); (case hg => rfl); (case hr => first | (go_simp; done) | (go_simp; rfl)); intro gx hg w2 hbox hb; have HGX := Aside0.mk (by rw [hg]; exact HB1.out.size : w.heap.size ≤ gx); have HB2 := Aside0.mk (below_step HB1.out hb); have HBS2 := Aside0.mk (blk_below HBS.out hb); have HBX := Aside0.mk hbox; clear hb hbox hg)
    | ((with_reducible refine gate_dst (N := 4) rfl ?_); refine box_event ?hg (N := 4) ?hd (cs := #[.int .i64 0, .slice none 0 0, .int .i64 0, .int .i64 0, .slice none 0 0]) (t := 25) ?hr ?_; (case hd => rfl); (case hg => rfl); (case hr => first | (go_simp; done) | (go_simp; rfl)); intro gr hg w3 hbox hb; have HGR := Aside0.mk (by rw [hg]; exact HB2.out.size : w.heap.size ≤ gr); have HJ := Aside0.mk (show SI w w3 gs gx gr #[.int .i64 c, .bool st] #[.int .i64 x0, .slice A1 x1.length c1, .int .i64 x2, .int .i64 x3, .slice A4 x4.length c4] from ⟨below_step HB2.out hb, blk_below HBS2.out hb, blk_below HBX.out hb, HGS.out, HGX.out, HGR.out, hbox⟩); clear hb hbox hg))
  clear HB HB1 HBS HB2 HBS2 HBX
  (try simp only [Act.put, List.setIfInBounds_toArray, List.set_cons_zero, List.set_cons_succ])
  have z0 := blk_cell HJ.out.bx 0
  have z1 := blk_cell HJ.out.bx 1
  have z2 := blk_cell HJ.out.bx 2
  have z3 := blk_cell HJ.out.bx 3
  have z4 := blk_cell HJ.out.bx 4
  have y0 := blk_cell HJ.out.bs 0
  have y1 := blk_cell HJ.out.bs 1
  have HJB := Aside0.mk HJ.out.below
  have HJR := Aside0.mk HJ.out.br
  by_cases e2 : x0 = 2
  · have h := HH.out
    rw [if_pos e2] at h
    have HRR := Aside0.mk (Option.some.inj h)
    subst e2
    clear h HH
    obtain ⟨bb, hb⟩ : ∃ bb, hasM x1 c = bb := ⟨_, rfl⟩
    cases bb with
    | true =>
      have HT := Aside0.mk (tree_Has.calls A1 c1 x1 c true w3 (Kd.F_now (Kd.F_below HQ.out.2.1 HJ.out.below)) HQ.out.1 (by rw [tree_Has.f, hb]))
      have HBB := Aside0.mk hb
      clear hb HJB HJR
      go_wp2_with (first | (go_at_call 34; (with_reducible refine HT.out.mono ?_); rintro e_ w4 ⟨rfl, hb⟩; have HJB := Aside0.mk (below_step HJ.out.below hb); have HJR := Aside0.mk (blk_below HJ.out.br hb); clear hb) | (go_at_call 35; (with_reducible refine (deriv_empty.calls 1 [] 0 0 [] _ rfl).mono ?_); rintro e_ w5 ⟨v1, v4, rfl, hv1, hv4, hb⟩; obtain ⟨D1, d1, rfl⟩ := Kd.R_slice hv1; obtain ⟨D4, d4, rfl⟩ := Kd.R_slice hv4; have HB5 := Aside0.mk (below_step HJB.out hb); have HGG := Aside0.mk (blk_below HJR.out hb); have t0 := blk_cell HGG.out 0; have t1 := blk_cell HGG.out 1; have t2 := blk_cell HGG.out 2; have t3 := blk_cell HGG.out 3; have t4 := blk_cell HGG.out 4; have f0 := blk_frozen HGG.out 0; have f1 := blk_frozen HGG.out 1; have f2 := blk_frozen HGG.out 2; have f3 := blk_frozen HGG.out 3; have f4 := blk_frozen HGG.out 4; clear hv1 hv4 hb))
      refine bodyPost_ret (results_cell_row rfl _ _ gr 25 #[.int .i64 1, .slice D1 0 d1, .int .i64 0, .int .i64 0, .slice D4 0 d4] (0, 0) _ rfl (blk_put (blk_put (blk_put (blk_put (blk_put HGG.out 0 _ rfl) 1 _ rfl) 2 _ rfl) 3 _ rfl) 4 _ rfl) Try.underlying25 rfl (by kernel_rfl)) rfl ?_
      exact ⟨_, rfl, (by have h9 := HRR.out; rw [if_pos HBB.out] at h9; rw [← h9]; exact ⟨D1, d1, D4, d4, rfl, Nat.zero_le _, F_zero _, Nat.zero_le _, F_zero _⟩), below_set (below_set (below_set (below_set (below_set HB5.out HGR.out) HGR.out) HGR.out) HGR.out) HGR.out⟩
    | false =>
      have HT := Aside0.mk (tree_Has.calls A1 c1 x1 c false w3 (Kd.F_now (Kd.F_below HQ.out.2.1 HJ.out.below)) HQ.out.1 (by rw [tree_Has.f, hb]))
      have HBB := Aside0.mk hb
      clear hb HJB HJR
      go_wp2_with (first | (go_at_call 34; (with_reducible refine HT.out.mono ?_); rintro e_ w4 ⟨rfl, hb⟩; have HJB := Aside0.mk (below_step HJ.out.below hb); have HJR := Aside0.mk (blk_below HJ.out.br hb); clear hb) | (go_at_call 27; (with_reducible refine (deriv_none.calls 0 [] 0 0 [] _ rfl).mono ?_); rintro e_ w5 ⟨v1, v4, rfl, hv1, hv4, hb⟩; obtain ⟨D1, d1, rfl⟩ := Kd.R_slice hv1; obtain ⟨D4, d4, rfl⟩ := Kd.R_slice hv4; have HB5 := Aside0.mk (below_step HJB.out hb); have HGG := Aside0.mk (blk_below HJR.out hb); have t0 := blk_cell HGG.out 0; have t1 := blk_cell HGG.out 1; have t2 := blk_cell HGG.out 2; have t3 := blk_cell HGG.out 3; have t4 := blk_cell HGG.out 4; have f0 := blk_frozen HGG.out 0; have f1 := blk_frozen HGG.out 1; have f2 := blk_frozen HGG.out 2; have f3 := blk_frozen HGG.out 3; have f4 := blk_frozen HGG.out 4; clear hv1 hv4 hb))
      refine bodyPost_ret (results_cell_row rfl _ _ gr 25 #[.int .i64 0, .slice D1 0 d1, .int .i64 0, .int .i64 0, .slice D4 0 d4] (0, 0) _ rfl (blk_put (blk_put (blk_put (blk_put (blk_put HGG.out 0 _ rfl) 1 _ rfl) 2 _ rfl) 3 _ rfl) 4 _ rfl) Try.underlying25 rfl (by kernel_rfl)) rfl ?_
      exact ⟨_, rfl, (by have h9 := HRR.out; rw [if_neg (by rw [HBB.out]; simp)] at h9; rw [← h9]; exact ⟨D1, d1, D4, d4, rfl, Nat.zero_le _, F_zero _, Nat.zero_le _, F_zero _⟩), below_set (below_set (below_set (below_set (below_set HB5.out HGR.out) HGR.out) HGR.out) HGR.out) HGR.out⟩
  have k2 : (x0 == 2) = false := beq_eq_false_iff_ne.mpr e2
  by_cases e345 : x0 = 3 ∨ x0 = 4 ∨ x0 = 5
  rotate_left
  · have h := HH.out
    rw [if_neg e2, if_neg (by omega), if_neg (by omega), if_neg (by omega)] at h
    obtain rfl := Option.some.inj h
    have k3 : (x0 == 3) = false := beq_eq_false_iff_ne.mpr (by omega)
    have k4 : (x0 == 4) = false := beq_eq_false_iff_ne.mpr (by omega)
    have k5 : (x0 == 5) = false := beq_eq_false_iff_ne.mpr (by omega)
    clear h HH e2 e345
    go_wp2_with (go_at_call 27; (with_reducible refine (deriv_none.calls 0 [] 0 0 [] _ rfl).mono ?_); rintro e_ w5 ⟨v1, v4, rfl, hv1, hv4, hb⟩; obtain ⟨D1, d1, rfl⟩ := Kd.R_slice hv1; obtain ⟨D4, d4, rfl⟩ := Kd.R_slice hv4; have HB5 := Aside0.mk (below_step HJB.out hb); have HGG := Aside0.mk (blk_below HJR.out hb); have t0 := blk_cell HGG.out 0; have t1 := blk_cell HGG.out 1; have t2 := blk_cell HGG.out 2; have t3 := blk_cell HGG.out 3; have t4 := blk_cell HGG.out 4; have f0 := blk_frozen HGG.out 0; have f1 := blk_frozen HGG.out 1; have f2 := blk_frozen HGG.out 2; have f3 := blk_frozen HGG.out 3; have f4 := blk_frozen HGG.out 4; clear hv1 hv4 hb)
    refine bodyPost_ret (results_cell_row rfl _ _ gr 25 #[.int .i64 0, .slice D1 0 d1, .int .i64 0, .int .i64 0, .slice D4 0 d4] (0, 0) _ rfl (blk_put (blk_put (blk_put (blk_put (blk_put HGG.out 0 _ rfl) 1 _ rfl) 2 _ rfl) 3 _ rfl) 4 _ rfl) Try.underlying25 rfl (by kernel_rfl)) rfl ?_
    exact ⟨_, rfl, ⟨D1, d1, D4, d4, rfl, Nat.zero_le _, F_zero _, Nat.zero_le _, F_zero _⟩, below_set (below_set (below_set (below_set (below_set HB5.out HGR.out) HGR.out) HGR.out) HGR.out) HGR.out⟩
  -- REST
  have HFX := Aside0.mk (show NodeF w (fun k => P k ∧ k < w.heap.size) ⟨x0, x1, x2, x3, x4⟩ _ from (NodeF.bound ⟨A1, c1, A4, c4, rfl, HQ.out.1, HQ.out.2.1, HQ.out.2.2.1, HQ.out.2.2.2⟩))
  by_cases e3 : x0 = 3
  · have h := HH.out
    rw [if_neg e2, if_pos e3] at h
    subst e3
    have HC := Aside0.mk (HJN.out (fun k => P k ∧ k < w.heap.size) A4 c4 x4 r w3 HQ.out.2.2.1 (Kd.F_below (Kd.F_bound HQ.out.2.2.2) HJ.out.below) h)
    clear h HH e2 e345
    go_wp2_with (go_at_call 36; (with_reducible refine HC.out.mono ?_); rintro e_ w5 ⟨rv, rfl, hN, hb⟩; have HNF := Aside0.mk (NodeF.mono (P' := fun k => (P k ∨ w.heap.size ≤ k) ∧ k ≠ gr) hN (fun k hk => ⟨by rcases hk with hk | hk; exact .inl hk.1; exact .inr (Nat.le_trans HJ.out.below.size hk), by have := HGR.out; have := blk_lt HJ.out.br; rcases hk with hk | hk <;> (intro he; subst he; (try have := hk.2); omega)⟩)); have HB5 := Aside0.mk (below_step HJ.out.below hb); have HGG := Aside0.mk (blk_below HJR.out hb); obtain ⟨D1, d1, D4, d4, rfl, m1, q1, m4, q4⟩ := hN; have HNF := Aside0.mk (show NodeF _ _ r (.agg #[.int .i64 r.f0, .slice D1 r.f1.length d1, .int .i64 r.f2, .int .i64 r.f3, .slice D4 r.f4.length d4]) from HNF.out); have t0 := blk_cell HGG.out 0; have t1 := blk_cell HGG.out 1; have t2 := blk_cell HGG.out 2; have t3 := blk_cell HGG.out 3; have t4 := blk_cell HGG.out 4; have f0 := blk_frozen HGG.out 0; have f1 := blk_frozen HGG.out 1; have f2 := blk_frozen HGG.out 2; have f3 := blk_frozen HGG.out 3; have f4 := blk_frozen HGG.out 4; clear m1 q1 m4 q4 hb)
    refine bodyPost_ret (results_cell_row rfl _ _ gr 25 #[.int .i64 r.f0, .slice D1 r.f1.length d1, .int .i64 r.f2, .int .i64 r.f3, .slice D4 r.f4.length d4] (0, 0) _ rfl (blk_put (blk_put (blk_put (blk_put (blk_put HGG.out 0 _ rfl) 1 _ rfl) 2 _ rfl) 3 _ rfl) 4 _ rfl) Try.underlying25 rfl (by kernel_rfl)) rfl ?_
    exact ⟨_, rfl, (((((HNF.out.far (fun k hk => hk.2) _).far (fun k hk => hk.2) _).far (fun k hk => hk.2) _).far (fun k hk => hk.2) _).far (fun k hk => hk.2) _).mono (fun k hk => hk.1), below_set (below_set (below_set (below_set (below_set HB5.out HGR.out) HGR.out) HGR.out) HGR.out) HGR.out⟩
  have k3 : (x0 == 3) = false := beq_eq_false_iff_ne.mpr e3
  by_cases e5 : x0 = 5
  · have h := HH.out
    rw [if_neg e2, if_neg e3, if_neg (by omega), if_pos e5] at h
    subst e5
    by_cases hl : x4.length = 1
    · rw [if_pos hl] at h
      have HC := Aside0.mk (HRN.out (fun k => P k ∧ k < w.heap.size) ⟨5, x1, x2, x3, x4⟩ _ r w3 (HFX.out.below HJ.out.below) hl h)
      have kl : ((x4.length : Int) == 1) = true := beq_iff_eq.mpr (by omega)
      clear h HH e2 e3 e345 hl
      go_wp2_with (go_at_call 38; (with_reducible refine HC.out.mono ?_); rintro e_ w5 ⟨rv, rfl, hN, hb⟩; have HNF := Aside0.mk (NodeF.mono (P' := fun k => (P k ∨ w.heap.size ≤ k) ∧ k ≠ gr) hN (fun k hk => ⟨by rcases hk with hk | hk; exact .inl hk.1; exact .inr (Nat.le_trans HJ.out.below.size hk), by have := HGR.out; have := blk_lt HJ.out.br; rcases hk with hk | hk <;> (intro he; subst he; (try have := hk.2); omega)⟩)); have HB5 := Aside0.mk (below_step HJ.out.below hb); have HGG := Aside0.mk (blk_below HJR.out hb); obtain ⟨D1, d1, D4, d4, rfl, m1, q1, m4, q4⟩ := hN; have HNF := Aside0.mk (show NodeF _ _ r (.agg #[.int .i64 r.f0, .slice D1 r.f1.length d1, .int .i64 r.f2, .int .i64 r.f3, .slice D4 r.f4.length d4]) from HNF.out); have t0 := blk_cell HGG.out 0; have t1 := blk_cell HGG.out 1; have t2 := blk_cell HGG.out 2; have t3 := blk_cell HGG.out 3; have t4 := blk_cell HGG.out 4; have f0 := blk_frozen HGG.out 0; have f1 := blk_frozen HGG.out 1; have f2 := blk_frozen HGG.out 2; have f3 := blk_frozen HGG.out 3; have f4 := blk_frozen HGG.out 4; clear m1 q1 m4 q4 hb)
      refine bodyPost_ret (results_cell_row rfl _ _ gr 25 #[.int .i64 r.f0, .slice D1 r.f1.length d1, .int .i64 r.f2, .int .i64 r.f3, .slice D4 r.f4.length d4] (0, 0) _ rfl (blk_put (blk_put (blk_put (blk_put (blk_put HGG.out 0 _ rfl) 1 _ rfl) 2 _ rfl) 3 _ rfl) 4 _ rfl) Try.underlying25 rfl (by kernel_rfl)) rfl ?_
      exact ⟨_, rfl, (((((HNF.out.far (fun k hk => hk.2) _).far (fun k hk => hk.2) _).far (fun k hk => hk.2) _).far (fun k hk => hk.2) _).far (fun k hk => hk.2) _).mono (fun k hk => hk.1), below_set (below_set (below_set (below_set (below_set HB5.out HGR.out) HGR.out) HGR.out) HGR.out) HGR.out⟩
    · rw [if_neg hl] at h
      obtain rfl := Option.some.inj h
      have kl : ((x4.length : Int) == 1) = false := beq_eq_false_iff_ne.mpr (by omega)
      clear h HH e2 e3 e345 hl
      go_wp2_with (go_at_call 27; (with_reducible refine (deriv_none.calls 0 [] 0 0 [] _ rfl).mono ?_); rintro e_ w5 ⟨v1, v4, rfl, hv1, hv4, hb⟩; obtain ⟨D1, d1, rfl⟩ := Kd.R_slice hv1; obtain ⟨D4, d4, rfl⟩ := Kd.R_slice hv4; have HB5 := Aside0.mk (below_step HJB.out hb); have HGG := Aside0.mk (blk_below HJR.out hb); have t0 := blk_cell HGG.out 0; have t1 := blk_cell HGG.out 1; have t2 := blk_cell HGG.out 2; have t3 := blk_cell HGG.out 3; have t4 := blk_cell HGG.out 4; have f0 := blk_frozen HGG.out 0; have f1 := blk_frozen HGG.out 1; have f2 := blk_frozen HGG.out 2; have f3 := blk_frozen HGG.out 3; have f4 := blk_frozen HGG.out 4; clear hv1 hv4 hb)
      refine bodyPost_ret (results_cell_row rfl _ _ gr 25 #[.int .i64 0, .slice D1 0 d1, .int .i64 0, .int .i64 0, .slice D4 0 d4] (0, 0) _ rfl (blk_put (blk_put (blk_put (blk_put (blk_put HGG.out 0 _ rfl) 1 _ rfl) 2 _ rfl) 3 _ rfl) 4 _ rfl) Try.underlying25 rfl (by kernel_rfl)) rfl ?_
      exact ⟨_, rfl, ⟨D1, d1, D4, d4, rfl, Nat.zero_le _, F_zero _, Nat.zero_le _, F_zero _⟩, below_set (below_set (below_set (below_set (below_set HB5.out HGR.out) HGR.out) HGR.out) HGR.out) HGR.out⟩
  obtain rfl : x0 = 4 := by omega
  have h := HH.out
  rw [if_neg e2, if_neg e3, if_pos rfl] at h
  obtain ⟨all9, hall, hor⟩ := Option.bind_eq_some_iff.mp h
  have HAL := Aside0.mk hall
  have HOR := Aside0.mk hor
  have HN := Aside0.mk (Kd.F_max HQ.out.2.2.2)
  clear h hall hor HH e2 e3 e5 e345
  go_wp2
  clear z0 z1 z2 z3 z4 y0 y1
  go_loopw [5, 29] (fun s5 s29 wx => ∃ (i : Nat) (acc : List DNode), s29 = .int .i64 (i : Int) ∧ i ≤ x4.length ∧ Aside0 (mapO (stepS k c st n) (x4.drop i) acc = some all9) ∧ Aside0 (Kd.N k25 25 wx w.heap.size (okS w P gs gx gr) s5 acc) ∧ Aside0 (SI w wx gs gx gr #[.int .i64 c, .bool st] #[.int .i64 4, .slice A1 x1.length c1, .int .i64 x2, .int .i64 x3, .slice A4 x4.length c4])) (fun _ s29 _ => x4.length - (intOf s29).toNat)
  case atStart => exact ⟨0, [], rfl, by omega, by simpa using HAL, ⟨Kd.N_nil _ _ _ _ _⟩, HJ⟩
  case round =>
    clear HAL HJ HJB HJR
    obtain ⟨i, acc, rfl, hi, HAL, HO, HJ⟩ := hrel
    by_cases hlt : i < x4.length
    · obtain ⟨ad, E1, e1, E4, e4, ee, h0, h1, h2, h3, h4, q1, q2, q3, q4⟩ := at_F (Kd.F_below (Kd.F_bound HQ.out.2.2.2) HJ.out.below) i hlt
      cases ee
      have hh := HAL.out
      rw [sn_drop z25 x4 i hlt] at hh
      obtain ⟨y, hyy⟩ : ∃ y, x4.getD i z25 = y := ⟨_, rfl⟩
      rw [hyy] at h0 h1 h2 h3 h4 q1 q2 q3 q4 hh
      obtain ⟨y0, y1, y2, y3, y4⟩ := y
      simp only [mapO] at hh
      dsimp only at h0 h1 h2 h3 h4 q1 q2 q3 q4
      by_cases ca : acc.length < 1099511627776
      rotate_left
      · rw [if_neg ca] at hh
        cases hh
      rw [if_pos ca] at hh
      obtain ⟨s, hs, hrest⟩ := Option.bind_eq_some_iff.mp hh
      have HAC := Aside0.mk ca
      have HRS := Aside0.mk hrest
      have HLI := Aside0.mk hlt
      have g1 : decide ((i : Int) < (x4.length : Int)) = true := decide_eq_true (by omega)
      have g2 : ((0 : Int) ≤ (i : Int)) = True := eq_true (by omega)
      have g3 : ((i : Int) < (x4.length : Int)) = True := eq_true (by omega)
      have hw := sn_wrap i (by have := HN.out; have := HLI.out; omega)
      have hm : x4.length - (i + 1) < x4.length - i := by have := HLI.out; omega
      have HWA := Aside0.mk (below_alloc (Below.refl wr.heap.size wr) (.cells #[.int .i64 y0, .slice E1 y1.length e1, .int .i64 y2, .int .i64 y3, .slice E4 y4.length e4] 25))
      have HYN := Aside0.mk (show NodeF wr (fun k => P k ∧ k < w.heap.size) ⟨y0, y1, y2, y3, y4⟩ (.agg #[.int .i64 y0, .slice E1 y1.length e1, .int .i64 y2, .int .i64 y3, .slice E4 y4.length e4]) from ⟨E1, e1, E4, e4, rfl, q1, q2, q3, q4⟩)
      have HC := Aside0.mk (HIH.out _ ⟨y0, y1, y2, y3, y4⟩ _ s (wr.alloc (.cells #[.int .i64 y0, .slice E1 y1.length e1, .int .i64 y2, .int .i64 y3, .slice E4 y4.length e4] 25)) (HYN.out.below HWA.out) hs)
      have HJA := Aside0.mk (HJ.out.more HWA.out)
      have y0' := blk_cell HJA.out.bs 0
      have y1' := blk_cell HJA.out.bs 1
      clear hyy q1 q2 q3 q4 hlt hh hrest hs ca HAL HYN
      go_wp2_with (first
        | (go_at_call 25; (with_reducible refine HC.out.mono ?_); rintro e_ w5 ⟨rv, rfl, hN, hb⟩; have HO5 := Aside0.mk (Kd.N_below (Kd.N_bound HO.out) (below_step HWA.out hb)); have HJ5 := Aside0.mk (HJA.out.more hb); have HSZ := Aside0.mk (show wr.heap.size < w5.heap.size by have := hb.size; simp only [World.size_alloc] at this; omega); obtain ⟨D1, d1, D4, d4, rfl, m1, r1, m4, r4⟩ := hN; have HSN := Aside0.mk (And.intro m1 (And.intro r1 (And.intro m4 r4))); clear m1 r1 m4 r4 hb)
        | ((with_reducible refine gate_builtin (b := .append) (xs := #[.tmp 33, .tmp 37]) rfl ?_); at_builtin; refine Kd.N_append k25 (w0 := w) w.heap.size rfl (.tmp 33) (.tmp 37) 23 25 (.agg #[.int .i64 0, .slice none 0 0, .int .i64 0, .int .i64 0, .slice none 0 0]) 72 rfl Try.underlying23 ninfo rfl (by decide) (by decide) _ acc s [.int .i64 s.f0, .slice D1 s.f1.length d1, .int .i64 s.f2, .int .i64 s.f3, .slice D4 s.f4.length d4] (okS w P gs gx gr) (fun k => (P k ∧ k < w.heap.size) ∨ (wr.alloc (.cells #[.int .i64 y0, .slice E1 y1.length e1, .int .i64 y2, .int .i64 y3, .slice E4 y4.length e4] 25)).heap.size ≤ k) rfl rfl (k25_mkF _ _ s HSN.out.1 HSN.out.2.1 HSN.out.2.2.1 HSN.out.2.2.2) ?sK ?sF (Kd.N_drop HO5.out) ?sB ?sS ?sL ?_; (case sK => (intro k hk; rcases hk with hk | hk; exact ⟨HJ.out.old hk.1 hk.2, fun he => by have := Kd.N_base HO.out k he.symm; have := hk.2; omega⟩; simp only [World.size_alloc] at hk; exact ⟨HJ.out.new P (by omega), fun he => by have := Kd.N_lt HO.out k he.symm; omega⟩)); (case sF => (intro k hk; exact HJ5.out.new P hk)); (case sB => exact HJ5.out.below); (case sS => exact HJ5.out.below.size); (case sL => (have := HAC.out; omega)); intro v1 w6 hn hb hg hat; have HO6 := Aside0.mk hn; have HJ6 := Aside0.mk (HJ5.out.grown hg hb (fun k hk => (HO5.out.1 k hk).1)); clear hn hb hg hat))
      refine ⟨⟨i + 1, _, by rw [hw], HLI.out, HRS, HO6, HJ6⟩, ?_⟩
      rw [hw]
      show x4.length - (((i + 1 : Nat) : Int)).toNat < x4.length - ((i : Int)).toNat
      simp only [Int.toNat_natCast]
      exact hm
    · have hn : i = x4.length := by omega
      subst hn
      have g1 : decide ((x4.length : Int) < (x4.length : Int)) = false := decide_eq_false (by omega)
      have hh := HAL.out
      rw [List.drop_length] at hh
      simp only [mapO] at hh
      obtain rfl := Option.some.inj hh
      obtain ⟨A3, c3, e3⟩ := Kd.N_slice HO.out
      subst e3
      obtain ⟨ks, hks, rfl⟩ := Option.map_eq_some_iff.mp HOR.out
      have HC := Aside0.mk (or_calls k k _ A3 c3 acc ks wr (Kd.N_F HO.out) hks)
      clear hh HAL hi hks HOR
      go_wp2_with (go_at_call 37; (with_reducible refine HC.out.mono ?_); rintro e_ w5 ⟨rv, rfl, hN, hb⟩; have HNF := Aside0.mk (NodeF.mono (P' := fun k => (P k ∨ w.heap.size ≤ k) ∧ k ≠ gr) hN (fun k hk => ⟨by rcases hk with hk | hk; exact hk.1; exact .inr (Nat.le_trans HJ.out.below.size hk), by have := blk_lt HJ.out.br; rcases hk with hk | hk; exact hk.2.1; omega⟩)); have HB5 := Aside0.mk (below_step HJ.out.below hb); have HGG := Aside0.mk (blk_below HJ.out.br hb); obtain ⟨D1, d1, D4, d4, rfl, m1, q1, m4, q4⟩ := hN; have HNF := Aside0.mk (show NodeF _ _ (orK ks) (.agg #[.int .i64 (orK ks).f0, .slice D1 (orK ks).f1.length d1, .int .i64 (orK ks).f2, .int .i64 (orK ks).f3, .slice D4 (orK ks).f4.length d4]) from HNF.out); have t0 := blk_cell HGG.out 0; have t1 := blk_cell HGG.out 1; have t2 := blk_cell HGG.out 2; have t3 := blk_cell HGG.out 3; have t4 := blk_cell HGG.out 4; have f0 := blk_frozen HGG.out 0; have f1 := blk_frozen HGG.out 1; have f2 := blk_frozen HGG.out 2; have f3 := blk_frozen HGG.out 3; have f4 := blk_frozen HGG.out 4; clear m1 q1 m4 q4 hb)
      refine bodyPost_ret (results_cell_row rfl _ _ gr 25 #[.int .i64 (orK ks).f0, .slice D1 (orK ks).f1.length d1, .int .i64 (orK ks).f2, .int .i64 (orK ks).f3, .slice D4 (orK ks).f4.length d4] (0, 0) _ rfl (blk_put (blk_put (blk_put (blk_put (blk_put HGG.out 0 _ rfl) 1 _ rfl) 2 _ rfl) 3 _ rfl) 4 _ rfl) Try.underlying25 rfl (by kernel_rfl)) rfl ?_
      exact ⟨_, rfl, (((((HNF.out.far (fun k hk => hk.2) _).far (fun k hk => hk.2) _).far (fun k hk => hk.2) _).far (fun k hk => hk.2) _).far (fun k hk => hk.2) _).mono (fun k hk => hk.1), below_set (below_set (below_set (below_set (below_set HB5.out HGR.out) HGR.out) HGR.out) HGR.out) HGR.out⟩
end Go.Proofs.Ytaphbechnjmlgaa.P
namespace Go.Proofs.Ytaphbechnjmlgaa.P
open Go.RowKit Go.Proofs.YtaphbechnjmlgaaW.PrintWords Go.Proofs.YtaphbechnjmlgaaW.PrintLast Go.Proofs.YtaphbechnjmlgaaW.PrintMore
set_option linter.unusedVariables false
set_option linter.unusedSimpArgs false

/-- The call's own blocks, as they stand. -/
structure Own (w W : World) (bl : List (Nat × Array Value × Nat)) : Prop where
  below : Below w.heap.size w W
  blk : ∀ g cs t, (g, cs, t) ∈ bl → W.heap[g]? = some (.cells cs t (0, 0))
  low : ∀ g cs t, (g, cs, t) ∈ bl → w.heap.size ≤ g
theorem Own.more {w W W2 : World} {bl : List (Nat × Array Value × Nat)} (h : Own w W bl) (hb : Below W.heap.size W W2) : Own w W2 bl :=
  ⟨below_step h.below hb, fun g cs t hm => blk_below (h.blk g cs t hm) hb, h.low⟩
/-- What the call's own rows may lie in, and lead to. -/
abbrev okO (w : World) (P : Nat → Prop) (bl : List (Nat × Array Value × Nat)) (k : Nat) : Prop := (P k ∨ w.heap.size ≤ k) ∧ ∀ g cs t, (g, cs, t) ∈ bl → k ≠ g
theorem Own.new {w W : World} {bl : List (Nat × Array Value × Nat)} (h : Own w W bl) (P : Nat → Prop) {k : Nat} (hk : W.heap.size ≤ k) : okO w P bl k := by
  have := h.below.size
  refine ⟨.inr (by omega), fun g cs t hm he => ?_⟩
  have := blk_lt (h.blk g cs t hm)
  omega
theorem Own.old {w W : World} {bl : List (Nat × Array Value × Nat)} (h : Own w W bl) {P : Nat → Prop} {k : Nat} (hp : P k) (hk : k < w.heap.size) : okO w P bl k := by
  refine ⟨.inl hp, fun g cs t hm he => ?_⟩
  have := h.low g cs t hm
  omega
theorem Own.grown {w W W2 : World} {P : Nat → Prop} {bl : List (Nat × Array Value × Nat)} (h : Own w W bl) {row : Option Nat} (hg : W.grownBy W2 row) (hb : Below w.heap.size w W2) (hr : ∀ k, row = some k → okO w P bl k) : Own w W2 bl :=
  ⟨hb, fun g cs t hm => blk_grown (h.blk g cs t hm) hg (fun he => (hr g he.symm).2 g cs t hm rfl), h.low⟩
theorem Own.alloc {w W : World} {bl : List (Nat × Array Value × Nat)} (h : Own w W bl) (cs : Array Value) (t : Nat) : Own w (W.alloc (.cells cs t (0, 0))) ((W.heap.size, cs, t) :: bl) := by
  have hb := below_alloc (Below.refl W.heap.size W) (.cells cs t (0, 0))
  refine ⟨below_step h.below hb, fun g c t' hm => ?_, fun g c t' hm => ?_⟩
  · rcases List.mem_cons.mp hm with hm | hm
    · injection hm with h1 h2
      injection h2 with h2 h3
      subst h1
      subst h2
      subst h3
      exact heap_alloc_new W _
    · exact blk_below (h.blk g c t' hm) hb
  · rcases List.mem_cons.mp hm with hm | hm
    · injection hm with h1 h2
      subst h1
      exact h.below.size
    · exact h.low g c t' hm
theorem Own.sub {w W : World} {bl bl' : List (Nat × Array Value × Nat)} (h : Own w W bl) (hs : ∀ p, p ∈ bl' → p ∈ bl) : Own w W bl' :=
  ⟨h.below, fun g cs t hm => h.blk g cs t (hs _ hm), fun g cs t hm => h.low g cs t (hs _ hm)⟩
set_option maxHeartbeats 8000000 in
set_option maxRecDepth 100000 in
theorem join_of_step (k : Nat) (c : Int) (st : Bool) (n : Nat) (ih : StepN k c st n) : JoinN k c st n := by
  intro P A cc l r w hlc hl h
  have hu := Try.underlying25
  have hus := Try.underlying45
  have HL := Aside0.mk (Kd.F_bound hl)
  have HIH := Aside0.mk ih
  have HN := Aside0.mk (Kd.F_max hl)
  obtain ⟨all9, hall, hor⟩ := Option.bind_eq_some_iff.mp h
  have HAL0 := Aside0.mk hall
  have HOR := Aside0.mk hor
  have HLC := Aside0.mk hlc
  have HB := Aside0.mk (Below.refl w.heap.size w)
  clear hl h ih hall hor hlc
  go_enter Try.func36, Try.ntmps36
  go_upto_region 1 with (first
    | ((with_reducible refine gate_dst (N := 2) rfl ?_); (try (refine gate_guard (by rfl) ?_; dsimp only)); refine box_event ?hg (N := 2) ?hd (cs := #[.int .i64 c, .bool st]) (t := 45) ?hr ?_; (case hd => rfl); (case hg => rfl); (case hr => first | (go_simp; done) | (go_simp; rfl)); intro gs hg w1 hbox hb; have HGS := Aside0.mk (by rw [hg]; exact Nat.le_refl _ : w.heap.size ≤ gs); have HB1 := Aside0.mk (below_step HB.out hb); have HBS := Aside0.mk hbox; clear hb hbox hg)
    | ((with_reducible refine gate_dst (N := 4) rfl ?_); refine box_event ?hg (N := 4) ?hd (cs := #[.int .i64 0, .slice none 0 0, .int .i64 0, .int .i64 0, .slice none 0 0]) (t := 25) ?hr ?_; (case hd => rfl); (case hg => rfl); (case hr => first | (go_simp; done) | (go_simp; rfl)); intro gr hg w3 hbox hb; have HGR := Aside0.mk (by rw [hg]; exact HB1.out.size : w.heap.size ≤ gr); have HJ0 := Aside0.mk (show Own w w3 [(gs, #[.int .i64 c, .bool st], 45), (gr, #[.int .i64 0, .slice none 0 0, .int .i64 0, .int .i64 0, .slice none 0 0], 25)] from ⟨below_step HB1.out hb, by intro g cs t hm; simp only [List.mem_cons, List.not_mem_nil, or_false, Prod.mk.injEq] at hm; rcases hm with ⟨rfl, rfl, rfl⟩ | ⟨rfl, rfl, rfl⟩; exact blk_below HBS.out hb; exact hbox, by intro g cs t hm; simp only [List.mem_cons, List.not_mem_nil, or_false, Prod.mk.injEq] at hm; rcases hm with ⟨rfl, rfl, rfl⟩ | ⟨rfl, rfl, rfl⟩; exact HGS.out; exact HGR.out⟩); clear hb hbox hg))
  clear HB HB1 HBS
  (try simp only [Act.put, List.setIfInBounds_toArray, List.set_cons_zero, List.set_cons_succ])
  go_wp2
  generalize hbl : ([(gs, #[.int .i64 c, .bool st], 45), (gr, #[.int .i64 0, .slice none 0 0, .int .i64 0, .int .i64 0, .slice none 0 0], 25)] : List (Nat × Array Value × Nat)) = bl at HJ0
  have HMS := Aside0.mk (show (gs, #[.int .i64 c, .bool st], 45) ∈ bl by rw [← hbl]; simp)
  have HMR := Aside0.mk (show (gr, #[.int .i64 0, .slice none 0 0, .int .i64 0, .int .i64 0, .slice none 0 0], 25) ∈ bl by rw [← hbl]; simp)
  clear hbl
  -- what stands at the loop's end, on both ways out
  have hEnd : ∀ (acc : List DNode) (vv : Value) (wz : World), acc = all9 → Own w wz bl → Kd.N k25 25 wz w.heap.size (okO w P bl) vv acc → ∃ A3 c3 ks, vv = .slice A3 acc.length c3 ∧ r = orK ks ∧ Calls Try.prog 37 #[.slice A3 acc.length c3] wz fun e w' => ∃ v, e = .returned v ∧ NodeF w' (fun k => okO w P bl k ∨ wz.heap.size ≤ k) (orK ks) v ∧ Below wz.heap.size wz w' := by
    intro acc vv wz ha hJ hN
    obtain ⟨A3, c3, rfl⟩ := Kd.N_slice hN
    subst ha
    obtain ⟨ks, hks, hr⟩ := Option.map_eq_some_iff.mp HOR.out
    exact ⟨A3, c3, ks, rfl, hr.symm, or_calls k k _ A3 c3 acc ks wz (Kd.N_F hN) hks⟩
  have HEND := Aside0.mk hEnd
  clear hEnd HOR
  go_loopw [5, 10] (fun s5 s10 wx => ∃ (i : Nat) (acc : List DNode), s10 = .int .i64 (i : Int) ∧ i ≤ l.length ∧ Aside0 (sjoinL (stepS k c st n) (nullS st false k) (l.drop i) acc = some all9) ∧ Aside0 (Kd.N k25 25 wx w.heap.size (okO w P bl) s5 acc) ∧ Aside0 (Own w wx bl)) (fun _ s10 _ => l.length - (intOf s10).toNat)
  case atStart => exact ⟨0, [], rfl, by omega, by simpa using HAL0, ⟨Kd.N_nil _ _ _ _ _⟩, HJ0⟩
  case round =>
    clear HAL0 HJ0
    obtain ⟨i, acc, rfl, hi, HAL, HO, HJ⟩ := hrel
    by_cases hlt : i < l.length
    · obtain ⟨ad, E1, e1, E4, e4, ee, h0, h1, h2, h3, h4, q1, q2, q3, q4⟩ := at_F (Kd.F_below HL.out HJ.out.below) i hlt
      cases ee
      have hh := HAL.out
      rw [sn_drop z25 l i hlt] at hh
      obtain ⟨y, hyy⟩ : ∃ y, l.getD i z25 = y := ⟨_, rfl⟩
      rw [hyy] at h0 h1 h2 h3 h4 q1 q2 q3 q4 hh
      obtain ⟨y0, y1, y2, y3, y4⟩ := y
      simp only [sjoinL] at hh
      dsimp only at h0 h1 h2 h3 h4 q1 q2 q3 q4
      by_cases ca : acc.length < 1099511627776 ∧ (l.drop (i + 1)).length < 1099511627776
      rotate_left
      · rw [if_neg ca] at hh
        cases hh
      rw [if_pos ca] at hh
      obtain ⟨s, hs, hrest⟩ := Option.bind_eq_some_iff.mp hh
      obtain ⟨d, hd, hrest⟩ := Option.bind_eq_some_iff.mp hrest
      obtain ⟨b, hb, hrest⟩ := Option.bind_eq_some_iff.mp hrest
      have HAC := Aside0.mk ca
      have HRS := Aside0.mk hrest
      have HDD := Aside0.mk hd
      have HNB := Aside0.mk hb
      have HLI := Aside0.mk hlt
      have g1 : decide ((i : Int) < (l.length : Int)) = true := decide_eq_true (by omega)
      have g2 : ((0 : Int) ≤ (i : Int)) = True := eq_true (by omega)
      have g3 : ((i : Int) < (l.length : Int)) = True := eq_true (by omega)
      have hw := sn_wrap i (by have := HN.out; have := HLI.out; omega)
      have hm : l.length - (i + 1) < l.length - i := by have := HLI.out; omega
      have HWA := Aside0.mk (below_alloc (Below.refl wr.heap.size wr) (.cells #[.int .i64 y0, .slice E1 y1.length e1, .int .i64 y2, .int .i64 y3, .slice E4 y4.length e4] 25))
      have HYN := Aside0.mk (show NodeF wr (fun k => P k ∧ k < w.heap.size) ⟨y0, y1, y2, y3, y4⟩ (.agg #[.int .i64 y0, .slice E1 y1.length e1, .int .i64 y2, .int .i64 y3, .slice E4 y4.length e4]) from ⟨E1, e1, E4, e4, rfl, q1, q2, q3, q4⟩)
      have HC := Aside0.mk (HIH.out _ ⟨y0, y1, y2, y3, y4⟩ _ s (wr.alloc (.cells #[.int .i64 y0, .slice E1 y1.length e1, .int .i64 y2, .int .i64 y3, .slice E4 y4.length e4] 25)).drew ((HYN.out.below HWA.out).below (below_drew1 (Below.refl _ _))) hs)
      have HJA := Aside0.mk (HJ.out.alloc #[.int .i64 y0, .slice E1 y1.length e1, .int .i64 y2, .int .i64 y3, .slice E4 y4.length e4] 25)
      have HOA := Aside0.mk (Kd.N_below (Kd.N_bound HO.out) HWA.out)
      have HSZ := Aside0.mk (show wr.heap.size < (wr.alloc (.cells #[.int .i64 y0, .slice E1 y1.length e1, .int .i64 y2, .int .i64 y3, .slice E4 y4.length e4] 25)).heap.size by simp)
      clear hyy q1 q2 q3 q4 hlt hh hrest hs ca HAL hd hb
      go_upto_region 5 with (fail)
      clear h0 h1 h2 h3 h4
      have HF := Aside0.mk (Kd.F_cut (c := cc) (m := i + 1) (Kd.F_below HL.out (below_step HJ.out.below (below_step HWA.out (below_drew1 (Below.refl _ _))))) HLI.out HLC.out)
      obtain ⟨Ac, hAc⟩ : ∃ A1, A1 = (if cc = i + 1 then some ad else some (ad.add ((i + 1) * 5))) := ⟨_, rfl⟩
      rw [show (if cc = i + 1 then some ad else (some ad : Option Addr).map (·.add ((i + 1) * (k25).sz))) = Ac from hAc.symm, List.length_drop] at HF
      have HAC2 := Aside0.mk hAc
      have g5 : ((0 : Int) ≤ (i : Int) + 1) = True := eq_true (by omega)
      have g6 : ((i : Int) + 1 ≤ (l.length : Int)) = True := eq_true (by have := HLI.out; omega)
      have HYD := Aside0.mk ((HYN.out.below HWA.out).below (below_drew1 (Below.refl _ _)))
      have HJD := Aside0.mk (HJA.out.more (below_drew1 (Below.refl _ _)))
      have HOD := Aside0.mk (Kd.N_below HOA.out (below_drew1 (Below.refl _ _)))
      have HSD := Aside0.mk (show wr.heap.size < (wr.alloc (.cells #[.int .i64 y0, .slice E1 y1.length e1, .int .i64 y2, .int .i64 y3, .slice E4 y4.length e4] 25)).drew.heap.size by simp)
      clear hAc HYN HJA HOA HSZ HWA
      generalize hW2 : wr.alloc (.cells #[.int .i64 y0, .slice E1 y1.length e1, .int .i64 y2, .int .i64 y3, .slice E4 y4.length e4] 25) = W at HJD HOD HYD HSD HC HF ⊢
      generalize hg7 : wr.heap.size = g7 at HJD ⊢
      have HG7 := Aside0.mk hg7
      clear hW2 hg7
      refine start_ (n := 14) (S := fun w' => Own w w' ((g7, #[.int .i64 y0, .slice E1 y1.length e1, .int .i64 y2, .int .i64 y3, .slice E4 y4.length e4], 25) :: bl)) (ds := []) #[false, false, false, false, false, false, false, false, false, false, false, false, false, false] (by kernel_rfl) rfl rfl HJD.out (fun hHeld => ?_)
      have hk5 : ∀ k, W.drew.heap.size ≤ k → okO w P ((g7, #[.int .i64 y0, .slice E1 y1.length e1, .int .i64 y2, .int .i64 y3, .slice E4 y4.length e4], 25) :: bl) k := fun k hk => hHeld.new P hk
      generalize W.drew = W5 at hk5 HJD HOD HYD HSD HC HF hHeld ⊢
      clear HJD
      have HK5 := Aside0.mk hk5
      have HBW5 := Aside0.mk hHeld.below
      clear hk5
      refine pure_ (i := 0) (N := some 15) (v := ?_) (a' := ?_) #[true, false, false, false, false, false, false, false, false, false, false, false, false, false] rfl rfl (by kernel_rfl) (fun _ _ _ h => h) (Or.inl ⟨by rfl, ?_⟩) ?_ ?_
      rotate_left
      · intro w'
        go_simp
        with_reducible rfl
      rotate_left
      · simp only [Act.put, List.setIfInBounds_toArray, List.set_cons_zero, List.set_cons_succ, i64_w, i32_w, hw]
        rfl
      refine take_ (i := 1) (N := some 16) (v := ?_) (a' := ?_) #[true, true, false, false, false, false, false, false, false, false, false, false, false, false] rfl rfl (by kernel_rfl) (fun _ _ _ h => h) (Or.inl ⟨by rfl, ?_⟩) hHeld ?_ ?_
      rotate_left
      · rintro w' hS
        have hm := hS.blk _ _ _ (List.mem_cons_of_mem _ HMS.out)
        have a0 := blk_cell hm 0
        have a1 := blk_cell hm 1
        clear hm
        go_simp
        with_reducible rfl
      rotate_left
      · simp only [Act.put, List.setIfInBounds_toArray, List.set_cons_zero, List.set_cons_succ, i64_w, i32_w, hw]
        rfl
      refine take_ (i := 2) (N := some 17) (v := ?_) (a' := ?_) #[true, true, true, false, false, false, false, false, false, false, false, false, false, false] rfl rfl (by kernel_rfl) (fun _ _ _ h => h) (Or.inl ⟨by rfl, ?_⟩) hHeld ?_ ?_
      rotate_left
      · rintro w' hS
        have hm := hS.blk _ _ _ (List.mem_cons_self ..)
        have a0 := blk_cell hm 0
        have a1 := blk_cell hm 1
        have a2 := blk_cell hm 2
        have a3 := blk_cell hm 3
        have a4 := blk_cell hm 4
        clear hm
        go_simp
        with_reducible rfl
      rotate_left
      · simp only [Act.put, List.setIfInBounds_toArray, List.set_cons_zero, List.set_cons_succ, i64_w, i32_w, hw]
        rfl
      refine pure_ (i := 5) (N := some 20) (v := ?_) (a' := ?_) #[true, true, true, false, false, true, false, false, false, false, false, false, false, false] rfl rfl (by kernel_rfl) (fun _ _ _ h => h) (Or.inl ⟨by rfl, ?_⟩) ?_ ?_
      rotate_left
      · intro w'
        go_simp
        with_reducible rfl
      rotate_left
      · simp only [Act.put, List.setIfInBounds_toArray, List.set_cons_zero, List.set_cons_succ, i64_w, i32_w, hw]
        rfl
      refine pure_ (i := 6) (N := some 21) (v := ?_) (a' := ?_) #[true, true, true, false, false, true, true, false, false, false, false, false, false, false] rfl rfl (by kernel_rfl) (fun _ _ _ h => h) (Or.inl ⟨by rfl, ?_⟩) ?_ ?_
      rotate_left
      · intro w'
        go_simp
        with_reducible rfl
      rotate_left
      · simp only [Act.put, List.setIfInBounds_toArray, List.set_cons_zero, List.set_cons_succ, i64_w, i32_w, hw]
        rfl
      refine pure_ (i := 7) (N := some 22) (v := ?_) (a' := ?_) #[true, true, true, false, false, true, true, true, false, false, false, false, false, false] rfl rfl (by kernel_rfl) (fun _ _ _ h => h) (Or.inl ⟨by rfl, ?_⟩) ?_ ?_
      rotate_left
      · intro w'
        go_simp
        with_reducible rfl
      rotate_left
      · simp only [Act.put, List.setIfInBounds_toArray, List.set_cons_zero, List.set_cons_succ, i64_w, i32_w, hw]
        rfl
      refine pure_ (i := 8) (N := some 23) (v := ?_) (a' := ?_) #[true, true, true, false, false, true, true, true, true, false, false, false, false, false] rfl rfl (by kernel_rfl) (fun _ _ _ h => h) (Or.inl ⟨by rfl, ?_⟩) ?_ ?_
      rotate_left
      · intro w'
        go_simp
        rw [← HAC2.out]
      rotate_left
      · simp only [Act.put, List.setIfInBounds_toArray, List.set_cons_zero, List.set_cons_succ, i64_w, i32_w, hw]
        rfl
      refine one_ (i := 3) (N := some 18) #[true, true, true, true, false, true, true, true, true, false, false, false, false, false] rfl rfl (by kernel_rfl) (by decide) (fun K hK => ?_)
      refine goes_ Try.func25 (by kernel_rfl) rfl #[.agg #[.int .i64 c, .bool st], .agg #[.int .i64 y0, .slice E1 y1.length e1, .int .i64 y2, .int .i64 y3, .slice E4 y4.length e4]] (by rfl) rfl rfl (by (try simp only [List.map_toArray, List.map_cons, List.map_nil]); rfl) ?_
      refine HC.out.mono ?_
      rintro e_ w6 ⟨rv, rfl, hN, hb⟩
      refine ⟨_, rfl, ?_⟩
      refine hK.out _ _ (hHeld.more hb) (fun hHeld => ?_)
      clear hK K
      have HO6 := Aside0.mk (Kd.N_below HOD.out hb)
      have HF6 := Aside0.mk (Kd.F_below HF.out hb)
      have HB56 := Aside0.mk hb
      obtain ⟨D1, d1, D4, d4, rfl, m1, r1, m4, r4⟩ := hN
      have HSN := Aside0.mk (And.intro m1 (And.intro r1 (And.intro m4 r4)))
      clear m1 r1 m4 r4 hb
      refine norm_ (a' := ?_) ?_ ?_
      rotate_left
      · show Act.put _ (some 18) _ = _
        simp only [Act.put, List.setIfInBounds_toArray, List.set_cons_zero, List.set_cons_succ, i64_w, i32_w]
        rfl
      refine one_ (i := 4) (N := some 19) #[true, true, true, true, true, true, true, true, true, false, false, false, false, false] rfl rfl (by kernel_rfl) (by decide) (fun K hK => ?_)
      refine Kd.N_lit_step k25 (w0 := w) w.heap.size 25 (by rfl) rfl (xs := [s]) (inner := [.int .i64 s.f0, .slice D1 s.f1.length d1, .int .i64 s.f2, .int .i64 s.f3, .slice D4 s.f4.length d4]) (ok := (fun k => (P k ∧ k < w.heap.size) ∨ W5.heap.size ≤ k)) (okp := fun k => (P k ∧ k < w.heap.size) ∨ W5.heap.size ≤ k) ?hrun ?hrep ?hok ?hfr hHeld.below hHeld.below.size (by simp only [List.length_cons, List.length_nil]; omega) ?_
      case hrun => go_simp
      case hrep => exact (Reps.none _ _).snoc (k25_mkF _ _ s HSN.out.1 HSN.out.2.1 HSN.out.2.2.1 HSN.out.2.2.2) rfl
      case hfr => exact .inr HB56.out.size
      case hok => exact fun k hk => hk
      intro v1 w7 hn hb hg hat
      refine hK.out _ _ (hHeld.grown (P := P) hg hb (by simp)) (fun hHeld => ?_)
      clear hK K
      have HN7 := Aside0.mk hn
      have HO7 := Aside0.mk (Kd.N_step HO6.out (fun k _ hk => hg.block k hk (by simp)))
      have HF7 := Aside0.mk (Kd.F_step HF6.out (fun k _ hk => hg.block k hk (by simp)))
      have HV1 := Aside0.mk (show ∀ k, v1.ownBlock = some k → w6.heap.size ≤ k by intro k hk; obtain ⟨b9, hb9, hle⟩ := hat; rw [hb9] at hk; injection hk with hk; omega)
      have HS67 := Aside0.mk hg.size
      clear hn hb hg hat
      refine norm_ (a' := ?_) ?_ ?_
      rotate_left
      · show Act.put _ (some 19) _ = _
        simp only [Act.put, List.setIfInBounds_toArray, List.set_cons_zero, List.set_cons_succ, i64_w, i32_w]
        rfl
      refine one_ (i := 9) (N := some 24) #[true, true, true, true, true, true, true, true, true, true, false, false, false, false] rfl rfl (by kernel_rfl) (by decide) (fun K hK => ?_)
      refine Kd.N_append_rows_step k25 (w0 := w) w.heap.size (by rfl) (.tmp 19) (.tmp 23) 23 25 (.agg #[.int .i64 0, .slice none 0 0, .int .i64 0, .int .i64 0, .slice none 0 0]) 72 rfl Try.underlying23 ninfo rfl (by decide) (by decide) v1 [s] (l.drop (i + 1)) Ac (l.length - (i + 1)) (cc - (i + 1)) (fun k => (P k ∧ k < w.heap.size) ∨ W5.heap.size ≤ k) (fun k => P k ∧ k < w.heap.size) rfl rfl HN7.out HF7.out ?sK ?sF hHeld.below hHeld.below.size ?sL ?_
      case sK => (intro k hk; exact ⟨.inl hk, fun he => by have := Kd.N_base HN7.out k he.symm; have := hk.2; omega⟩)
      case sF => (intro k hk; exact .inr (by have := HB56.out.size; have := HS67.out; omega))
      case sL => (have := HAC.out.2; rw [List.length_drop] at this; simp only [List.length_cons, List.length_nil]; omega)
      intro v2 w8 hn hb hg hat
      refine hK.out _ _ (hHeld.grown (P := P) hg hb (fun k hk => by rcases HN7.out.1 k hk with hk | hk; exact hHeld.old hk.1 hk.2; exact HK5.out k hk)) (fun hHeld => ?_)
      clear hK K
      have HN8 := Aside0.mk hn
      have HO8 := Aside0.mk (Kd.N_step HO7.out (fun k hk hlt => hg.block k hlt (fun he => by have := HV1.out k he.symm; have := hk.2; have := HSD.out; have := HB56.out.size; omega)))
      have HS78 := Aside0.mk hg.size
      clear hn hb hg hat HN7 HV1
      refine norm_ (a' := ?_) ?_ ?_
      rotate_left
      · show Act.put _ (some 24) _ = _
        simp only [Act.put, List.setIfInBounds_toArray, List.set_cons_zero, List.set_cons_succ, i64_w, i32_w]
        rfl
      obtain ⟨A2, c2, e2⟩ := Kd.N_slice HN8.out
      subst e2
      refine one_ (i := 10) (N := some 25) #[true, true, true, true, true, true, true, true, true, true, true, false, false, false] rfl rfl (by kernel_rfl) (by decide) (fun K hK => ?_)
      refine goes_ Try.func45 (by kernel_rfl) rfl #[.slice A2 ([s] ++ l.drop (i + 1)).length c2] (by rfl) rfl rfl (by (try simp only [List.map_toArray, List.map_cons, List.map_nil]); rfl) ?_
      refine (join_calls _ A2 c2 ([s] ++ l.drop (i + 1)) d w8 (Kd.N_F HN8.out) HDD.out).mono ?_
      rintro e_ w9 ⟨rv, rfl, hN, hb⟩
      refine ⟨_, rfl, ?_⟩
      refine hK.out _ _ (hHeld.more hb) (fun hHeld => ?_)
      clear hK K
      have HO9 := Aside0.mk (Kd.N_below HO8.out hb)
      have HB89 := Aside0.mk hb.size
      obtain ⟨D1', d1', D4', d4', rfl, m1, r1, m4, r4⟩ := hN
      have HTN := Aside0.mk (And.intro m1 (And.intro r1 (And.intro m4 r4)))
      clear m1 r1 m4 r4 hb
      refine norm_ (a' := ?_) ?_ ?_
      rotate_left
      · show Act.put _ (some 25) _ = _
        simp only [Act.put, List.setIfInBounds_toArray, List.set_cons_zero, List.set_cons_succ, i64_w, i32_w]
        rfl
      refine one_ (i := 11) (N := some 26) #[true, true, true, true, true, true, true, true, true, true, true, true, false, false] rfl rfl (by kernel_rfl) (by decide) (fun K hK => ?_)
      refine value_ (v := .slice (some ⟨w9.heap.size, 0, none⟩) 1 1) (w1 := w9.alloc (.cells #[.int .i64 (joinK d).f0, .slice D1' (joinK d).f1.length d1', .int .i64 (joinK d).f2, .int .i64 (joinK d).f3, .slice D4' (joinK d).f4.length d4'] 25)) (by rfl) rfl ?hrun ?_
      case hrun => go_simp
      refine hK.out _ _ (hHeld.more (below_alloc (Below.refl _ _) _)) (fun _ => ?_)
      clear hK K
      refine norm_ (a' := ?_) ?_ ?_
      rotate_left
      · show Act.put _ (some 26) _ = _
        simp only [Act.put, List.setIfInBounds_toArray, List.set_cons_zero, List.set_cons_succ, i64_w, i32_w]
        rfl
      refine one_ (i := 12) (N := some 27) #[true, true, true, true, true, true, true, true, true, true, true, true, true, false] rfl rfl (by kernel_rfl) (by decide) (fun K hK => ?_)
      refine Kd.N_append_step k25 (w0 := w) w.heap.size (by rfl) (.tmp 15) (.tmp 26) 23 25 (.agg #[.int .i64 0, .slice none 0 0, .int .i64 0, .int .i64 0, .slice none 0 0]) 72 rfl Try.underlying23 ninfo rfl (by decide) (by decide) u5 acc (joinK d) [.int .i64 (joinK d).f0, .slice D1' (joinK d).f1.length d1', .int .i64 (joinK d).f2, .int .i64 (joinK d).f3, .slice D4' (joinK d).f4.length d4'] (okO w P bl) (fun k => ((P k ∧ k < w.heap.size) ∨ W5.heap.size ≤ k) ∨ w8.heap.size ≤ k) rfl rfl (k25_mkF _ _ (joinK d) HTN.out.1 HTN.out.2.1 HTN.out.2.2.1 HTN.out.2.2.2) ?sK ?sF (Kd.N_drop HO9.out) hHeld.below hHeld.below.size ?sL ?_
      case sK =>
        intro k hk
        have hk' : (P k ∧ k < w.heap.size) ∨ W5.heap.size ≤ k := by
          rcases hk with hk | hk
          · exact hk
          · exact .inr (by have := HB56.out.size; have := HS67.out; have := HS78.out; omega)
        rcases hk' with hk | hk
        · exact ⟨(hHeld.sub (fun p hp => List.mem_cons_of_mem _ hp)).old hk.1 hk.2, fun he => by have := Kd.N_base HO.out k he.symm; have := hk.2; omega⟩
        · have h7 := HK5.out k hk
          exact ⟨⟨h7.1, fun g cs t hm => h7.2 g cs t (List.mem_cons_of_mem _ hm)⟩, fun he => by have := Kd.N_lt HO.out k he.symm; have := HSD.out; omega⟩
      case sF => (intro k hk; exact (hHeld.sub (fun p hp => List.mem_cons_of_mem _ hp)).new P hk)
      case sL => (have := HAC.out.1; omega)
      intro v3 w10 hn hb hg hat
      refine hK.out _ _ (hHeld.grown (P := P) hg hb (fun k hk => ?_)) (fun hHeld => ?_)
      · have h7 := HO.out.1 k hk
        refine ⟨h7.1, fun g cs t hm => ?_⟩
        rcases List.mem_cons.mp hm with hm | hm
        · injection hm with h8 h9
          have := Kd.N_lt HO.out k hk
          have := HG7.out
          omega
        · exact h7.2 g cs t hm
      clear hK K
      have HO10 := Aside0.mk hn
      clear hn hb hg hat HO9 HTN
      refine norm_ (a' := ?_) ?_ ?_
      rotate_left
      · show Act.put _ (some 27) _ = _
        simp only [Act.put, List.setIfInBounds_toArray, List.set_cons_zero, List.set_cons_succ, i64_w, i32_w]
        rfl
      refine pure_ (i := 13) (N := some 5) (v := ?_) (a' := ?_) #[true, true, true, true, true, true, true, true, true, true, true, true, true, true] rfl rfl (by kernel_rfl) (fun _ _ _ h => h) (Or.inl ⟨by rfl, ?_⟩) ?_ ?_
      rotate_left
      · intro w'
        go_simp
        with_reducible rfl
      rotate_left
      · simp only [Act.put, List.setIfInBounds_toArray, List.set_cons_zero, List.set_cons_succ, i64_w, i32_w, hw]
        rfl
      refine done_ (by kernel_rfl) ?_
      have m7 := hHeld.blk _ _ _ (List.mem_cons_self ..)
      have z0 := blk_cell m7 0
      have z1 := blk_cell m7 1
      have z2 := blk_cell m7 2
      have z3 := blk_cell m7 3
      have z4 := blk_cell m7 4
      have y1' := blk_cell (hHeld.blk _ _ _ (List.mem_cons_of_mem _ HMS.out)) 1
      have HJ10 := Aside0.mk (hHeld.sub (bl' := bl) (fun p hp => List.mem_cons_of_mem _ hp))
      have HYW := HYD.out.step (w1 := w10) (fun k hk _ => (hHeld.below.block k hk.2).trans (HBW5.out.block k hk.2).symm)
      have HNC := Aside0.mk (null_calls st false k _ _ b w10 HYW.now HNB.out)
      clear HYW m7 hHeld HYD
      cases b with
      | true =>
        have HRR := Aside0.mk (show sjoinL (stepS k c st n) (nullS st false k) (l.drop (i + 1)) (acc ++ [joinK d]) = some all9 from by have h9 := HRS.out; first | (rw [if_pos rfl] at h9; exact h9) | (rw [if_pos trivial] at h9; exact h9))
        clear HRS
        go_wp2_with (go_at_call 12; (with_reducible refine HNC.out.mono ?_); rintro e_ w11 ⟨rfl, hb⟩; have HO11 := Aside0.mk (Kd.N_below HO10.out hb); have HJ11 := Aside0.mk (HJ10.out.more hb); clear hb)
        refine ⟨⟨i + 1, _, by first | (rw [hw]; done) | rfl | simp, HLI.out, HRR, HO11, HJ11⟩, ?_⟩
        first | (rw [hw]) | skip
        show l.length - _ < l.length - _
        have := HLI.out
        simp only [intOf, Int.toNat_natCast]
        omega
      | false =>
        have HRR := Aside0.mk (show acc ++ [joinK d] = all9 from by have h9 := HRS.out; rw [if_neg (by simp)] at h9; exact Option.some.inj h9)
        clear HRS
        go_wp2_with (first | (go_at_call 12; (with_reducible refine HNC.out.mono ?_); rintro e_ w11 ⟨rfl, hb⟩; have h9 := Kd.N_below HO10.out hb; rw [HRR.out] at h9; have HO11 := Aside0.mk h9; clear h9; have HJ11 := Aside0.mk (HJ10.out.more hb); clear hb; obtain ⟨A3, c3, ks, rfl, rfl, hc⟩ := HEND.out _ _ _ rfl HJ11.out HO11.out; have HC := Aside0.mk hc; clear hc) | (go_at_call 37; (with_reducible refine HC.out.mono ?_); rintro e_ w12 ⟨rv, rfl, hN, hb⟩; have HNF := Aside0.mk (NodeF.mono (P' := fun k => (P k ∨ w.heap.size ≤ k) ∧ k ≠ gr) hN (fun k hk => ⟨by rcases hk with hk | hk; exact hk.1; exact .inr (Nat.le_trans HJ11.out.below.size hk), by have := blk_lt (HJ11.out.blk _ _ _ HMR.out); rcases hk with hk | hk; exact hk.2 _ _ _ HMR.out; omega⟩)); have HB5 := Aside0.mk (below_step HJ11.out.below hb); have HGG := Aside0.mk (blk_below (HJ11.out.blk _ _ _ HMR.out) hb); obtain ⟨D1, d1, D4, d4, rfl, m1, q1, m4, q4⟩ := hN; have HNF := Aside0.mk (show NodeF _ _ (orK ks) (.agg #[.int .i64 (orK ks).f0, .slice D1 (orK ks).f1.length d1, .int .i64 (orK ks).f2, .int .i64 (orK ks).f3, .slice D4 (orK ks).f4.length d4]) from HNF.out); have t0 := blk_cell HGG.out 0; have t1 := blk_cell HGG.out 1; have t2 := blk_cell HGG.out 2; have t3 := blk_cell HGG.out 3; have t4 := blk_cell HGG.out 4; have f0 := blk_frozen HGG.out 0; have f1 := blk_frozen HGG.out 1; have f2 := blk_frozen HGG.out 2; have f3 := blk_frozen HGG.out 3; have f4 := blk_frozen HGG.out 4; clear m1 q1 m4 q4 hb))
        refine bodyPost_ret (results_cell_row rfl _ _ gr 25 #[.int .i64 (orK ks).f0, .slice D1 (orK ks).f1.length d1, .int .i64 (orK ks).f2, .int .i64 (orK ks).f3, .slice D4 (orK ks).f4.length d4] (0, 0) _ rfl (blk_put (blk_put (blk_put (blk_put (blk_put HGG.out 0 _ rfl) 1 _ rfl) 2 _ rfl) 3 _ rfl) 4 _ rfl) Try.underlying25 rfl (by kernel_rfl)) rfl ?_
        exact ⟨_, rfl, (((((HNF.out.far (fun k hk => hk.2) _).far (fun k hk => hk.2) _).far (fun k hk => hk.2) _).far (fun k hk => hk.2) _).far (fun k hk => hk.2) _).mono (fun k hk => hk.1), below_set (below_set (below_set (below_set (below_set HB5.out HGR.out) HGR.out) HGR.out) HGR.out) HGR.out⟩
    · have hn : i = l.length := by omega
      subst hn
      have g1 : decide ((l.length : Int) < (l.length : Int)) = false := decide_eq_false (by omega)
      have hh := HAL.out
      rw [List.drop_length] at hh
      simp only [sjoinL] at hh
      obtain ⟨A3, c3, ks, rfl, rfl, hc⟩ := HEND.out _ _ _ (Option.some.inj hh) HJ.out HO.out
      have HC := Aside0.mk hc
      clear hh HAL hi hc
      go_wp2_with (go_at_call 37; (with_reducible refine HC.out.mono ?_); rintro e_ w5 ⟨rv, rfl, hN, hb⟩; have HNF := Aside0.mk (NodeF.mono (P' := fun k => (P k ∨ w.heap.size ≤ k) ∧ k ≠ gr) hN (fun k hk => ⟨by rcases hk with hk | hk; exact hk.1; exact .inr (Nat.le_trans HJ.out.below.size hk), by have := blk_lt (HJ.out.blk _ _ _ HMR.out); rcases hk with hk | hk; exact hk.2 _ _ _ HMR.out; omega⟩)); have HB5 := Aside0.mk (below_step HJ.out.below hb); have HGG := Aside0.mk (blk_below (HJ.out.blk _ _ _ HMR.out) hb); obtain ⟨D1, d1, D4, d4, rfl, m1, q1, m4, q4⟩ := hN; have HNF := Aside0.mk (show NodeF _ _ (orK ks) (.agg #[.int .i64 (orK ks).f0, .slice D1 (orK ks).f1.length d1, .int .i64 (orK ks).f2, .int .i64 (orK ks).f3, .slice D4 (orK ks).f4.length d4]) from HNF.out); have t0 := blk_cell HGG.out 0; have t1 := blk_cell HGG.out 1; have t2 := blk_cell HGG.out 2; have t3 := blk_cell HGG.out 3; have t4 := blk_cell HGG.out 4; have f0 := blk_frozen HGG.out 0; have f1 := blk_frozen HGG.out 1; have f2 := blk_frozen HGG.out 2; have f3 := blk_frozen HGG.out 3; have f4 := blk_frozen HGG.out 4; clear m1 q1 m4 q4 hb)
      refine bodyPost_ret (results_cell_row rfl _ _ gr 25 #[.int .i64 (orK ks).f0, .slice D1 (orK ks).f1.length d1, .int .i64 (orK ks).f2, .int .i64 (orK ks).f3, .slice D4 (orK ks).f4.length d4] (0, 0) _ rfl (blk_put (blk_put (blk_put (blk_put (blk_put HGG.out 0 _ rfl) 1 _ rfl) 2 _ rfl) 3 _ rfl) 4 _ rfl) Try.underlying25 rfl (by kernel_rfl)) rfl ?_
      exact ⟨_, rfl, (((((HNF.out.far (fun k hk => hk.2) _).far (fun k hk => hk.2) _).far (fun k hk => hk.2) _).far (fun k hk => hk.2) _).far (fun k hk => hk.2) _).mono (fun k hk => hk.1), below_set (below_set (below_set (below_set (below_set HB5.out HGR.out) HGR.out) HGR.out) HGR.out) HGR.out⟩
end Go.Proofs.Ytaphbechnjmlgaa.P
