/- Texts of this claim put together by a program of its own (SRefS, SRefR, Px18, SSteps18, PLib, PEv, PTree), what the law does not use left out: each part's statements bear their own conditions. -/
import Derived.BigQuiet
import Derived.Test.YtaphbechnjmlgaaC19
import Derived.Test.YtaphbechnjmlgaaC17
import Derived.Test.YtaphbechnjmlgaaC12
import Derived.Test.YtaphbechnjmlgaaC14
import Derived.Test.YtaphbechnjmlgaaC16
namespace Go.Proofs.Ytaphbechnjmlgaa.P
open Go.RowKit Go.Proofs.YtaphbechnjmlgaaW.PrintWords Go.Proofs.YtaphbechnjmlgaaW.PrintLast Go.Proofs.YtaphbechnjmlgaaW.PrintMore
set_option linter.unusedVariables false
set_option linter.unusedSimpArgs false

abbrev BoolR (w : World) (B : Nat) (ok : Nat → Prop) (v : Value) (xs : List Bool) : Prop := Kd.R Kd.bool 4 w B ok v xs
/-- How it stands: the node in its own block, the places that are answered in their own row. -/
structure RI (w W : World) (gx : Nat) (cx : Array Value) (v : Value) (out : List Bool) : Prop where
  below : Below w.heap.size w W
  bx : W.heap[gx]? = some (.cells cx 25 (0, 0))
  lo : w.heap.size ≤ gx
  row : BoolR W w.heap.size (fun k => k ≠ gx) v out
section
variable {w W W2 : World} {gx : Nat} {cx : Array Value} {v v2 : Value} {out out2 : List Bool}
theorem RI.more (h : RI w W gx cx v out) (hb : Below W.heap.size W W2) : RI w W2 gx cx v out := ⟨below_step h.below hb, blk_below h.bx hb, h.lo, Kd.R_below h.row hb⟩
theorem RI.next (h : RI w W gx cx v out) (hb : Below W.heap.size W W2) (hr : BoolR W2 W.heap.size (fun _ => True) v2 out2) : RI w W2 gx cx v2 out2 :=
  ⟨below_step h.below hb, blk_below h.bx hb, h.lo, Kd.R_mono (Kd.R_lower (Kd.R_bound hr) h.below.size) (fun k hk => by have := blk_lt h.bx; have := hk.2.1; omega)⟩
theorem RI.put {g cap : Nat} (h : RI w W gx cx (.slice (some ⟨g, 0, none⟩) out.length cap) out) (i : Int) (b : Bool) : RI w (W.setCell ⟨g, i.toNat, none⟩ (.bool b)) gx cx (.slice (some ⟨g, 0, none⟩) out.length cap) (out.set i.toNat b) := by
  have hg : w.heap.size ≤ g := Kd.R_base h.row g rfl
  have hne : g ≠ gx := h.row.1 g rfl
  exact ⟨below_set h.below hg, blk_far h.bx (p := ⟨g, i.toNat, none⟩) (fun e => hne e.symm) _, h.lo, (Kd.R_put h.row i b).1⟩
theorem RI.ret (h : RI w W gx cx v out) : BoolR W w.heap.size (fun _ => True) v out := Kd.R_mono h.row (fun _ _ => trivial)
theorem RI.at_ (h : RI w W gx cx v out) (hp : 0 < out.length) (i : Int) (h0 : 0 ≤ i) (h1 : i < out.length) : ∃ g cap, v = .slice (some ⟨g, 0, none⟩) out.length cap ∧ W.cell? ⟨g, i.toNat, none⟩ = some (.bool (rdOf false out i)) ∧ W.frozen? ⟨g, i.toNat, none⟩ = false := by
  obtain ⟨g, cap, rfl, _⟩ := Kd.R_form h.row hp
  exact ⟨g, cap, rfl, Kd.R_cell false h.row i h0 h1⟩
end
def placesB (n : Nat) : List Bool := List.replicate (n + 1) false
def setB (k : Nat) (rl : List S52) (l : List Int) (at_ : List Bool) : Nat → Nat → List Bool → Option (List Bool)
  | 0, _, out => some out
  | d + 1, i, out => if rdOf false at_ (i : Int) = true then (ductusref16_Has.f k rl (rd l (i : Int))).bind fun b => setB k rl l at_ d (i + 1) (if b = true then out.set (i + 1) true else out) else setB k rl l at_ d (i + 1) out
def joinB (f : DNode → List Bool → Option (List Bool)) : List DNode → List Bool → Option (List Bool)
  | [], out => some out
  | y :: ys, out => (f y out).bind fun t => joinB f ys t
def orB (k : Nat) (f : DNode → Option (List Bool)) : List DNode → List Bool → Option (List Bool)
  | [], out => some out
  | y :: ys, out => (f y).bind fun t => (ductusref18_either.f k out t).bind fun o => orB k f ys o
/-- Up to where a tree matches from some places, its kids reached by R. -/
def refStep (R : RefReach) (k : Nat) (x0 : Int) (x1 : List S52) (x2 x3 : Int) (x4 : List DNode) (l : List Int) (at_ : List Bool) : Option (List Bool) :=
  if at_.length = l.length + 1 ∧ l.length ≤ 1000 then
    (if x0 = 1 then some at_ else if x0 = 2 then setB k x1 l at_ l.length 0 (placesB l.length)
    else if x0 = 3 then joinB (fun y t => R.f k y.f0 y.f1 y.f2 y.f3 y.f4 l t) x4 at_
    else if x0 = 4 then orB k (fun y => R.f k y.f0 y.f1 y.f2 y.f3 y.f4 l at_) x4 (placesB l.length)
    else if x0 = 5 then (if x4.length = 1 then ductusref18_repeat.f R k x0 x1 x2 x3 x4 l at_ else some (placesB l.length))
    else if x0 = 6 then some ((placesB l.length).set 0 (rdOf false at_ 0))
    else if x0 = 7 then some ((placesB l.length).set l.length (rdOf false at_ (l.length : Int)))
    else some (placesB l.length)) else none
theorem places_ok (l : List Int) (h : l.length ≤ 1000) : ductusref18_places.f l = some (placesB l.length) := by
  have hw : wrap64 ((l.length : Int) + 1) = ((l.length + 1 : Nat) : Int) := sn_wrap l.length (by omega)
  unfold ductusref18_places.f
  rw [hw, if_pos (by omega), if_pos (by omega)]
  rfl
set_option maxHeartbeats 16000000 in
set_option maxRecDepth 100000 in
theorem refStep_calls (R : RefReach) (k : Nat) (x0 : Int) (A1 : Option Addr) (c1 : Nat) (x1 : List S52) (x2 x3 : Int) (A4 : Option Addr) (c4 : Nat) (x4 : List DNode) (A : Option Addr) (c : Nat) (l : List Int) (A2 : Option Addr) (c2 : Nat) (at_ : List Bool) (r : List Bool) (w : World)
    (q1 : Kd.C k52 w A1 x1.length x1) (l1 : x1.length ≤ c1) (q4 : Kd.C k25 w A4 x4.length x4) (l4 : x4.length ≤ c4) (hl : Kd.C (Kd.int .i64) w A l.length l) (hlc : l.length ≤ c) (ha : Kd.C Kd.bool w A2 at_.length at_) (hac : at_.length ≤ c2) (h : refStep R k x0 x1 x2 x3 x4 l at_ = some r) :
    Calls Try.prog 21 #[.agg #[.int .i64 x0, .slice A1 x1.length c1, .int .i64 x2, .int .i64 x3, .slice A4 x4.length c4], .slice A l.length c, .slice A2 at_.length c2] w fun e w' => ∃ v0_ : Value, e = .returned v0_ ∧ BoolR w' w.heap.size (fun _ => True) v0_ r ∧ Below w.heap.size w w' := by
  have hun := Try.underlying25
  have hub := Try.underlying36
  unfold refStep at h
  by_cases hg : at_.length = l.length + 1 ∧ l.length ≤ 1000
  rotate_left
  · rw [if_neg hg] at h
    cases h
  rw [if_pos hg] at h
  have HH := Aside0.mk h
  have HQ := Aside0.mk (And.intro l1 (And.intro q1 (And.intro l4 q4)))
  have HL := Aside0.mk hl
  have HLC := Aside0.mk hlc
  have HA := Aside0.mk ha
  have HAC := Aside0.mk hac
  have HN := Aside0.mk hg
  have HPL := Aside0.mk (places_ok l hg.2)
  have HB := Aside0.mk (Below.refl w.heap.size w)
  have hpl : (placesB l.length).length = l.length + 1 := by simp [placesB]
  have HPN := Aside0.mk hpl
  clear h l1 q1 l4 q4 hl hlc ha hac hg hpl
  go_enter Try.func21, Try.ntmps21
  go_upto_region 2 with (first
    | ((with_reducible refine gate_dst (N := 3) rfl ?_); (try (refine gate_guard (by rfl) ?_; dsimp only)); refine box_event ?hg (N := 3) ?hd (cs := #[.int .i64 x0, .slice A1 x1.length c1, .int .i64 x2, .int .i64 x3, .slice A4 x4.length c4]) (t := 25) ?hr ?_; (case hd => rfl); (case hg => rfl); (case hr => first | (go_simp; done) | (go_simp; rfl)); intro gx hg w1 hbox hb; have HGX := Aside0.mk (by rw [hg]; exact Nat.le_refl _ : w.heap.size ≤ gx); have HB1 := Aside0.mk (below_step HB.out hb); have HX1 := Aside0.mk hbox; clear hb hbox hg)
    | ((with_reducible refine gate_callee (f := 20) rfl ?_); refine goesL_ (some 12) rfl rfl Try.func20 (by kernel_rfl) rfl #[.slice A l.length c] rfl (by (try simp only [List.map_toArray, List.map_cons, List.map_nil]); first | done | rfl) ?_; refine (ductusref18_places.calls A c l (placesB l.length) _ (Kd.C_below HL.out HB1.out) HLC.out HPL.out).mono ?_; rintro e_ w2 ⟨vo, rfl, hr, hb⟩; refine ⟨_, rfl, ?_⟩; have HJ := Aside0.mk (show RI w w2 gx #[.int .i64 x0, .slice A1 x1.length c1, .int .i64 x2, .int .i64 x3, .slice A4 x4.length c4] vo (placesB l.length) from ⟨below_step HB1.out hb, blk_below HX1.out hb, HGX.out, Kd.R_mono (Kd.R_lower (Kd.R_bound hr) HB1.out.size) (fun k hk => by have := blk_lt HX1.out; have := hk.2.1; omega)⟩); clear hb hr))
  clear HB HB1 HX1 HGX
  (try simp only [Act.put, List.setIfInBounds_toArray, List.set_cons_zero, List.set_cons_succ])
  have z0 := blk_cell HJ.out.bx 0
  have z1 := blk_cell HJ.out.bx 1
  have z2 := blk_cell HJ.out.bx 2
  have z3 := blk_cell HJ.out.bx 3
  have z4 := blk_cell HJ.out.bx 4
  by_cases e1 : x0 = 1
  · have h := HH.out
    rw [if_pos e1] at h
    obtain rfl := Option.some.inj h
    subst e1
    clear h HH
    go_wp2_with ((with_reducible refine gate_dst (N := 19) rfl ?_); refine Kd.R_copy (w0 := w) (enc := Value.bool) (h1 := fun _ => rfl) false w.heap.size rfl (.tmp 17) (.tmp 18) 36 36 4 rfl hub (by kernel_rfl) vo (placesB l.length) at_ A2 at_.length c2 (fun k => k ≠ gx) rfl rfl HJ.out.row (Kd.C_below HA.out HJ.out.below) HJ.out.below HJ.out.below.size ?_; intro wc ho hb hg; have HJC := Aside0.mk (show RI w wc gx #[.int .i64 1, .slice A1 x1.length c1, .int .i64 x2, .int .i64 x3, .slice A4 x4.length c4] vo at_ from ⟨hb, blk_grown HJ.out.bx hg (fun he => HJ.out.row.1 gx he.symm rfl), HJ.out.lo, (by have hcp : at_.take (min at_.length (placesB l.length).length) ++ (placesB l.length).drop (min at_.length (placesB l.length).length) = at_ := (by rw [HPN.out, HN.out.1, Nat.min_self, ← HN.out.1, List.take_length, List.drop_eq_nil_of_le (by rw [HPN.out, HN.out.1]; omega), List.append_nil]); rw [hcp] at ho; exact ho)⟩); clear ho hb hg)
    go_ret
    exact ⟨_, rfl, HJC.out.ret, HJC.out.below⟩
  have k1 : (x0 == 1) = false := beq_eq_false_iff_ne.mpr e1
  by_cases e2 : x0 = 2
  · have h := HH.out
    rw [if_neg e1, if_pos e2] at h
    have HS := Aside0.mk h
    subst e2
    clear h HH e1
    go_wp2
    clear z0 z1 z2 z3 z4
    go_loopw [8] (fun s8 wx => ∃ (i : Nat) (out : List Bool), s8 = .int .i64 (i : Int) ∧ i ≤ l.length ∧ Aside0 (out.length = l.length + 1) ∧ Aside0 (setB k x1 l at_ (l.length - i) i out = some r) ∧ Aside0 (RI w wx gx #[.int .i64 2, .slice A1 x1.length c1, .int .i64 x2, .int .i64 x3, .slice A4 x4.length c4] vo out)) (fun s8 _ => l.length - (intOf s8).toNat)
    case atStart => exact ⟨0, _, rfl, by omega, HPN, by simpa using HS, HJ⟩
    case round =>
      clear HS HJ
      obtain ⟨i, out, rfl, hi, HO, HS, HJ⟩ := hrel
      have hol : 0 < out.length := by have := HO.out; omega
      by_cases hlt : i < l.length
      · obtain ⟨g, cap, ev, r1, r2⟩ := HJ.out.at_ hol ((i : Int) + 1) (by omega) (by have := HO.out; omega)
        subst ev
        have hh := HS.out
        obtain ⟨d, hd⟩ : ∃ d, l.length - i = d + 1 := ⟨l.length - i - 1, by omega⟩
        have hd2 : l.length - (i + 1) = d := by omega
        rw [hd] at hh
        simp only [setB] at hh
        obtain ⟨ab, hab⟩ : ∃ b, rdOf false at_ (i : Int) = b := ⟨_, rfl⟩
        rw [hab] at hh
        obtain ⟨ca, eca, h0⟩ := Kd.at_bool (Kd.C_below HA.out HJ.out.below) (i : Int) (by omega) (by have := HN.out; omega)
        cases eca
        obtain ⟨al, eal, h1⟩ := Kd.at_int (Kd.C_below HL.out HJ.out.below) (i : Int) (by omega) (by omega)
        cases eal
        rw [Int.toNat_natCast] at h0 h1
        rw [hab] at h0
        obtain ⟨ch, hch⟩ : ∃ q, rd l (i : Int) = q := ⟨_, rfl⟩
        rw [hch] at h1 hh
        have g1 : decide ((i : Int) < (l.length : Int)) = true := decide_eq_true (by omega)
        have g2 : ((0 : Int) ≤ (i : Int)) = True := eq_true (by omega)
        have g3 : ((i : Int) < (l.length : Int)) = True := eq_true (by omega)
        have g4 : ((i : Int) < (at_.length : Int)) = True := eq_true (by have := HN.out; omega)
        have g5 : ((0 : Int) ≤ (i : Int) + 1) = True := eq_true (by omega)
        have g6 : ((i : Int) + 1 < (out.length : Int)) = True := eq_true (by have := HO.out; omega)
        have hw := sn_wrap i (by have := HN.out; omega)
        have hw' : wrap64 ((i : Int) + 1) = (i : Int) + 1 := hw.trans (by omega)
        have y1 := blk_cell HJ.out.bx 1
        have HLI := Aside0.mk hlt
        have HAB := Aside0.mk hab
        have HCH := Aside0.mk hch
        have HD2 := Aside0.mk hd2
        cases ab with
        | false =>
          have HS2 := Aside0.mk (show setB k x1 l at_ d (i + 1) out = some r by rw [if_neg (by decide)] at hh; exact hh)
          clear hh hlt hab hch hd hd2 hol
          go_upto_region 9 with (fail)
          go_quiet (fail)
          go_wp2
          refine ⟨⟨i + 1, out, by first | (rw [hw]; done) | rfl | simp, HLI.out, HO, ⟨by rw [HD2.out]; exact HS2.out⟩, ⟨HJ.out.more (pw_below_drewN (Below.refl _ _) _)⟩⟩, ?_⟩
          first | (rw [hw]) | skip
          show l.length - _ < l.length - _
          have := HLI.out
          simp only [intOf, Int.toNat_natCast]
          omega
        | true =>
          rw [if_pos rfl] at hh
          obtain ⟨hb_, hhas, hh⟩ := Option.bind_eq_some_iff.mp hh
          have HHAS := Aside0.mk hhas
          have HS2 := Aside0.mk hh
          clear hh hlt hab hch hd hd2 hol hhas h0 h1 r1 r2 y1
          go_upto_region 9 with (fail)
          have HBD := Aside0.mk (below_drew1 (Below.refl wr.heap.size wr))
          refine start_ (n := 13) (S := fun w' => Below wr.heap.size wr w') (ds := []) #[false, false, false, false, false, false, false, false, false, false, false, false, false] (by kernel_rfl) rfl rfl HBD.out (fun hHeld => ?_)
          generalize wr.drew = k0 at hHeld ⊢
          clear HBD
          refine pure_ (i := 0) (N := some 28) (v := ?_) (a' := ?_) #[true, false, false, false, false, false, false, false, false, false, false, false, false] rfl rfl (by kernel_rfl) (fun _ _ _ h => h) (Or.inl ⟨by rfl, ?_⟩) ?_ ?_
          rotate_left
          · intro w'
            go_simp
            with_reducible rfl
          rotate_left
          · simp only [Act.put, List.setIfInBounds_toArray, List.set_cons_zero, List.set_cons_succ, i64_w, i32_w]
            rfl
          refine pure_ (i := 1) (N := some 29) (v := ?_) (a' := ?_) #[true, true, false, false, false, false, false, false, false, false, false, false, false] rfl rfl (by kernel_rfl) (fun _ _ _ h => h) (Or.inl ⟨by rfl, ?_⟩) ?_ ?_
          rotate_left
          · intro w'
            go_simp
            with_reducible rfl
          rotate_left
          · simp only [Act.put, List.setIfInBounds_toArray, List.set_cons_zero, List.set_cons_succ, i64_w, i32_w]
            rfl
          refine pure_ (i := 2) (N := some 30) (v := ?_) (a' := ?_) #[true, true, true, false, false, false, false, false, false, false, false, false, false] rfl rfl (by kernel_rfl) (fun _ _ _ h => h) (Or.inl ⟨by rfl, ?_⟩) ?_ ?_
          rotate_left
          · intro w'
            go_simp
            with_reducible rfl
          rotate_left
          · simp only [Act.put, List.setIfInBounds_toArray, List.set_cons_zero, List.set_cons_succ, i64_w, i32_w]
            rfl
          refine take_ (i := 3) (N := some 31) (v := ?_) (a' := ?_) #[true, true, true, true, false, false, false, false, false, false, false, false, false] rfl rfl (by kernel_rfl) (fun _ _ _ h => h) (Or.inl ⟨by rfl, ?_⟩) hHeld ?_ ?_
          rotate_left
          · rintro w' hS
            obtain ⟨cq, ecq, q0⟩ := Kd.at_bool (Kd.C_below HA.out (below_step HJ.out.below hS)) (i : Int) (by omega) (by have := HN.out; have := HLI.out; omega)
            cases ecq
            rw [Int.toNat_natCast, HAB.out] at q0
            go_simp
            with_reducible rfl
          rotate_left
          · simp only [Act.put, List.setIfInBounds_toArray, List.set_cons_zero, List.set_cons_succ, i64_w, i32_w]
            rfl
          refine pure_ (i := 4) (N := some 32) (v := ?_) (a' := ?_) #[true, true, true, true, true, false, false, false, false, false, false, false, false] rfl rfl (by kernel_rfl) (fun _ _ _ h => h) (Or.inl ⟨by rfl, ?_⟩) ?_ ?_
          rotate_left
          · intro w'
            go_simp
            with_reducible rfl
          rotate_left
          · simp only [Act.put, List.setIfInBounds_toArray, List.set_cons_zero, List.set_cons_succ, i64_w, i32_w]
            rfl
          refine pure_ (i := 5) (N := some 33) (v := ?_) (a' := ?_) #[true, true, true, true, true, true, false, false, false, false, false, false, false] rfl rfl (by kernel_rfl) (fun _ _ _ h => h) (Or.inl ⟨by rfl, ?_⟩) ?_ ?_
          rotate_left
          · intro w'
            go_simp
            with_reducible rfl
          rotate_left
          · simp only [Act.put, List.setIfInBounds_toArray, List.set_cons_zero, List.set_cons_succ, i64_w, i32_w]
            rfl
          refine take_ (i := 6) (N := some 34) (v := ?_) (a' := ?_) #[true, true, true, true, true, true, true, false, false, false, false, false, false] rfl rfl (by kernel_rfl) (fun _ _ _ h => h) (Or.inl ⟨by rfl, ?_⟩) hHeld ?_ ?_
          rotate_left
          · rintro w' hS
            have q1 := blk_cell (blk_below HJ.out.bx hS) 1
            go_simp
            with_reducible rfl
          rotate_left
          · simp only [Act.put, List.setIfInBounds_toArray, List.set_cons_zero, List.set_cons_succ, i64_w, i32_w]
            rfl
          refine pure_ (i := 7) (N := some 35) (v := ?_) (a' := ?_) #[true, true, true, true, true, true, true, true, false, false, false, false, false] rfl rfl (by kernel_rfl) (fun _ _ _ h => h) (Or.inl ⟨by rfl, ?_⟩) ?_ ?_
          rotate_left
          · intro w'
            go_simp
            with_reducible rfl
          rotate_left
          · simp only [Act.put, List.setIfInBounds_toArray, List.set_cons_zero, List.set_cons_succ, i64_w, i32_w]
            rfl
          refine pure_ (i := 8) (N := some 36) (v := ?_) (a' := ?_) #[true, true, true, true, true, true, true, true, true, false, false, false, false] rfl rfl (by kernel_rfl) (fun _ _ _ h => h) (Or.inl ⟨by rfl, ?_⟩) ?_ ?_
          rotate_left
          · intro w'
            go_simp
            with_reducible rfl
          rotate_left
          · simp only [Act.put, List.setIfInBounds_toArray, List.set_cons_zero, List.set_cons_succ, i64_w, i32_w]
            rfl
          refine pure_ (i := 9) (N := some 37) (v := ?_) (a' := ?_) #[true, true, true, true, true, true, true, true, true, true, false, false, false] rfl rfl (by kernel_rfl) (fun _ _ _ h => h) (Or.inl ⟨by rfl, ?_⟩) ?_ ?_
          rotate_left
          · intro w'
            go_simp
            with_reducible rfl
          rotate_left
          · simp only [Act.put, List.setIfInBounds_toArray, List.set_cons_zero, List.set_cons_succ, i64_w, i32_w]
            rfl
          refine take_ (i := 10) (N := some 38) (v := ?_) (a' := ?_) #[true, true, true, true, true, true, true, true, true, true, true, false, false] rfl rfl (by kernel_rfl) (fun _ _ _ h => h) (Or.inl ⟨by rfl, ?_⟩) hHeld ?_ ?_
          rotate_left
          · rintro w' hS
            obtain ⟨cq, ecq, q0⟩ := Kd.at_int (Kd.C_below HL.out (below_step HJ.out.below hS)) (i : Int) (by omega) (by have := HLI.out; omega)
            cases ecq
            rw [Int.toNat_natCast, HCH.out] at q0
            go_simp
            with_reducible rfl
          rotate_left
          · simp only [Act.put, List.setIfInBounds_toArray, List.set_cons_zero, List.set_cons_succ, i64_w, i32_w]
            rfl
          refine one_ (i := 11) (N := some 39) #[true, true, true, true, true, true, true, true, true, true, true, true, false] rfl rfl (by kernel_rfl) (by decide) (fun K hK => ?_)
          refine goes_ Try.func30 (by kernel_rfl) rfl #[.slice A1 x1.length c1, .int .i64 ch] (by rfl) rfl rfl (by (try simp only [List.map_toArray, List.map_cons, List.map_nil]); rfl) ?_
          refine (ductusref16_Has.calls k A1 c1 x1 ch hb_ _ (Kd.C_below HQ.out.2.1 (below_step HJ.out.below hHeld)) HQ.out.1 HHAS.out).mono ?_
          rintro e_ k1 ⟨rfl, hdr⟩
          refine ⟨_, rfl, ?_⟩
          have hb : Below k0.heap.size k0 k1 := by
            obtain ⟨nq, hq⟩ := hdr
            subst hq
            exact pw_below_drewN (Below.refl _ _) _
          refine hK.out _ _ (below_step hHeld hb) (fun hHeld => ?_)
          clear hK K hb hdr
          refine norm_ (a' := ?_) ?_ ?_
          rotate_left
          · show Act.put _ (some 39) _ = _
            simp only [Act.put, List.setIfInBounds_toArray, List.set_cons_zero, List.set_cons_succ, i64_w, i32_w]
            rfl
          refine pure_ (i := 12) (N := some 40) (v := ?_) (a' := ?_) #[true, true, true, true, true, true, true, true, true, true, true, true, true] rfl rfl (by kernel_rfl) (fun _ _ _ h => h) (Or.inl ⟨by rfl, ?_⟩) ?_ ?_
          rotate_left
          · intro w'
            go_simp
            with_reducible rfl
          rotate_left
          · simp only [Act.put, List.setIfInBounds_toArray, List.set_cons_zero, List.set_cons_succ, i64_w, i32_w]
            rfl
          refine done_ (by kernel_rfl) ?_
          have HJ1 := Aside0.mk (HJ.out.more hHeld)
          clear hHeld HJ
          have hol : 0 < out.length := by have := HO.out; omega
          obtain ⟨g', cap', ev, r1, r2⟩ := HJ1.out.at_ hol ((i : Int) + 1) (by omega) (by have := HO.out; have := HLI.out; omega)
          cases ev
          rw [show ((i : Int) + 1).toNat = i + 1 by omega] at r1 r2
          clear hol
          cases hb_ with
          | false =>
            go_wp2
            refine ⟨⟨i + 1, out, by first | (rw [hw]; done) | rfl | simp, HLI.out, HO, ⟨by rw [HD2.out]; exact HS2.out⟩, ⟨HJ1.out⟩⟩, ?_⟩
            first | (rw [hw]) | skip
            show l.length - _ < l.length - _
            have := HLI.out
            simp only [intOf, Int.toNat_natCast]
            omega
          | true =>
            have hp := HJ1.out.put ((i : Int) + 1) true
            rw [show ((i : Int) + 1).toNat = i + 1 by omega] at hp
            have HJP := Aside0.mk hp
            clear hp
            go_wp2
            refine ⟨⟨i + 1, out.set (i + 1) true, by first | (rw [hw]; done) | rfl | simp, HLI.out, ⟨by rw [List.length_set]; exact HO.out⟩, ⟨by rw [HD2.out]; exact HS2.out⟩, ⟨HJP.out⟩⟩, ?_⟩
            first | (rw [hw]) | skip
            show l.length - _ < l.length - _
            have := HLI.out
            simp only [intOf, Int.toNat_natCast]
            omega
      · have hn : i = l.length := by omega
        subst hn
        have g1 : decide ((l.length : Int) < (l.length : Int)) = false := decide_eq_false (by omega)
        have hh := HS.out
        rw [Nat.sub_self] at hh
        simp only [setB] at hh
        obtain rfl := Option.some.inj hh
        clear hh HS hi
        go_wp2
        go_ret
        exact ⟨_, rfl, HJ.out.ret, HJ.out.below⟩
  have k2 : (x0 == 2) = false := beq_eq_false_iff_ne.mpr e2
  by_cases e3 : x0 = 3
  · have h := HH.out
    rw [if_neg e1, if_neg e2, if_pos e3] at h
    have HS := Aside0.mk h
    have HM := Aside0.mk (Kd.C_max HQ.out.2.2.2)
    subst e3
    clear h HH e1 e2
    go_wp2_with ((with_reducible refine gate_dst (N := 49) rfl ?_); refine Kd.R_copy (w0 := w) (enc := Value.bool) (h1 := fun _ => rfl) false w.heap.size rfl (.tmp 47) (.tmp 48) 36 36 4 rfl hub (by kernel_rfl) vo (placesB l.length) at_ A2 at_.length c2 (fun k => k ≠ gx) rfl rfl HJ.out.row (Kd.C_below HA.out HJ.out.below) HJ.out.below HJ.out.below.size ?_; intro wc ho hb hg; have HJC := Aside0.mk (show RI w wc gx #[.int .i64 3, .slice A1 x1.length c1, .int .i64 x2, .int .i64 x3, .slice A4 x4.length c4] vo at_ from ⟨hb, blk_grown HJ.out.bx hg (fun he => HJ.out.row.1 gx he.symm rfl), HJ.out.lo, (by have hcp : at_.take (min at_.length (placesB l.length).length) ++ (placesB l.length).drop (min at_.length (placesB l.length).length) = at_ := (by rw [HPN.out, HN.out.1, Nat.min_self, ← HN.out.1, List.take_length, List.drop_eq_nil_of_le (by rw [HPN.out, HN.out.1]; omega), List.append_nil]); rw [hcp] at ho; exact ho)⟩); clear ho hb hg)
    clear z0 z1 z2 z3 z4 HJ
    go_loopw [7, 9] (fun s7 s9 wx => ∃ (i : Nat) (out : List Bool), s9 = .int .i64 (i : Int) ∧ i ≤ x4.length ∧ Aside0 (joinB (fun y t => R.f k y.f0 y.f1 y.f2 y.f3 y.f4 l t) (x4.drop i) out = some r) ∧ Aside0 (RI w wx gx #[.int .i64 3, .slice A1 x1.length c1, .int .i64 x2, .int .i64 x3, .slice A4 x4.length c4] s7 out)) (fun _ s9 _ => x4.length - (intOf s9).toNat)
    case atStart => exact ⟨0, _, rfl, by omega, by simpa using HS, HJC⟩
    case round =>
      clear HS HJC
      obtain ⟨i, out, rfl, hi, HS, HJ⟩ := hrel
      by_cases hlt : i < x4.length
      · obtain ⟨ad, E1, e1, E4, e4, ee, h0, h1, h2, h3, h4, hyn⟩ := at_N (Kd.C_below HQ.out.2.2.2 HJ.out.below) i hlt
        cases ee
        have hh := HS.out
        rw [sn_drop z25 x4 i hlt] at hh
        obtain ⟨y, hyy⟩ : ∃ y, x4.getD i z25 = y := ⟨_, rfl⟩
        rw [hyy] at h0 h1 h2 h3 h4 hyn hh
        obtain ⟨y0, y1, y2, y3, y4⟩ := y
        dsimp only at h0 h1 h2 h3 h4 hyn
        have HYN := Aside0.mk hyn
        have b4 := blk_cell HJ.out.bx 4
        have g1 : decide ((i : Int) < (x4.length : Int)) = true := decide_eq_true (by omega)
        have g2 : ((0 : Int) ≤ (i : Int)) = True := eq_true (by omega)
        have g3 : ((i : Int) < (x4.length : Int)) = True := eq_true (by omega)
        have HLI := Aside0.mk hlt
        have hw := sn_wrap i (by have := HM.out; have := HLI.out; omega)
        clear hyy hyn HS
        simp only [joinB] at hh
        obtain ⟨t2, ht2, hh⟩ := Option.bind_eq_some_iff.mp hh
        have HS := Aside0.mk hh
        obtain ⟨P2, p2, rfl⟩ := Kd.R_slice HJ.out.row
        have HWA := Aside0.mk (below_alloc (Below.refl wr.heap.size wr) (.cells #[.int .i64 y0, .slice E1 y1.length e1, .int .i64 y2, .int .i64 y3, .slice E4 y4.length e4] 25))
        have HC := Aside0.mk (R.calls k y0 E1 e1 y1 y2 y3 E4 e4 y4 A c l P2 p2 out t2 wr (by obtain ⟨_, _, _, _, e, q1, q2, q3, q4⟩ := HYN.out; cases e; exact q2) (by obtain ⟨_, _, _, _, e, q1, q2, q3, q4⟩ := HYN.out; cases e; exact q1) (by obtain ⟨_, _, _, _, e, q1, q2, q3, q4⟩ := HYN.out; cases e; exact q4) (by obtain ⟨_, _, _, _, e, q1, q2, q3, q4⟩ := HYN.out; cases e; exact q3) (Kd.C_below HL.out HJ.out.below) HLC.out (Kd.R_reads' HJ.out.row).2.2 (Kd.R_reads' HJ.out.row).2.1 ht2)
        clear hh ht2 hlt HYN
        go_wp2_with ((with_reducible refine gate_callee (f := 21) rfl ?_); refine goesL_ (some 64) rfl rfl Try.func21 (by kernel_rfl) rfl #[.agg #[.int .i64 y0, .slice E1 y1.length e1, .int .i64 y2, .int .i64 y3, .slice E4 y4.length e4], .slice A l.length c, .slice P2 out.length p2] rfl (by (try simp only [List.map_toArray, List.map_cons, List.map_nil]); first | done | rfl) ?_; refine HC.out.mono ?_; rintro e_ w6 ⟨v6, rfl, hr6, hb6⟩; refine ⟨_, rfl, ?_⟩; have HJ6 := Aside0.mk (HJ.out.next hb6 hr6); clear hr6 hb6)
        refine ⟨⟨i + 1, t2, by first | (rw [hw]; done) | rfl | simp, HLI.out, HS, ⟨HJ6.out⟩⟩, ?_⟩
        first | (rw [hw]) | skip
        show x4.length - _ < x4.length - _
        have := HLI.out
        simp only [intOf, Int.toNat_natCast]
        omega
      · have hn : i = x4.length := by omega
        subst hn
        have g1 : decide ((x4.length : Int) < (x4.length : Int)) = false := decide_eq_false (by omega)
        have b4 := blk_cell HJ.out.bx 4
        have hh := HS.out
        rw [List.drop_length] at hh
        simp only [joinB] at hh
        obtain rfl := Option.some.inj hh
        clear hh HS hi
        go_wp2
        go_ret
        exact ⟨_, rfl, HJ.out.ret, HJ.out.below⟩
  have k3 : (x0 == 3) = false := beq_eq_false_iff_ne.mpr e3
  by_cases e4 : x0 = 4
  · have h := HH.out
    rw [if_neg e1, if_neg e2, if_neg e3, if_pos e4] at h
    have HS := Aside0.mk h
    have HM := Aside0.mk (Kd.C_max HQ.out.2.2.2)
    subst e4
    clear h HH e1 e2 e3
    go_wp2
    clear z0 z1 z2 z3 z4
    go_loopw [7, 10] (fun s7 s10 wx => ∃ (i : Nat) (out : List Bool), s10 = .int .i64 (i : Int) ∧ i ≤ x4.length ∧ Aside0 (orB k (fun y => R.f k y.f0 y.f1 y.f2 y.f3 y.f4 l at_) (x4.drop i) out = some r) ∧ Aside0 (RI w wx gx #[.int .i64 4, .slice A1 x1.length c1, .int .i64 x2, .int .i64 x3, .slice A4 x4.length c4] s7 out)) (fun _ s10 _ => x4.length - (intOf s10).toNat)
    case atStart => exact ⟨0, _, rfl, by omega, by simpa using HS, HJ⟩
    case round =>
      clear HS HJ
      obtain ⟨i, out, rfl, hi, HS, HJ⟩ := hrel
      by_cases hlt : i < x4.length
      · obtain ⟨ad, E1, e1, E4, e4, ee, h0, h1, h2, h3, h4, hyn⟩ := at_N (Kd.C_below HQ.out.2.2.2 HJ.out.below) i hlt
        cases ee
        have hh := HS.out
        rw [sn_drop z25 x4 i hlt] at hh
        obtain ⟨y, hyy⟩ : ∃ y, x4.getD i z25 = y := ⟨_, rfl⟩
        rw [hyy] at h0 h1 h2 h3 h4 hyn hh
        obtain ⟨y0, y1, y2, y3, y4⟩ := y
        dsimp only at h0 h1 h2 h3 h4 hyn
        have HYN := Aside0.mk hyn
        have b4 := blk_cell HJ.out.bx 4
        have g1 : decide ((i : Int) < (x4.length : Int)) = true := decide_eq_true (by omega)
        have g2 : ((0 : Int) ≤ (i : Int)) = True := eq_true (by omega)
        have g3 : ((i : Int) < (x4.length : Int)) = True := eq_true (by omega)
        have HLI := Aside0.mk hlt
        have hw := sn_wrap i (by have := HM.out; have := HLI.out; omega)
        clear hyy hyn HS
        simp only [orB] at hh
        obtain ⟨t2, ht2, hh⟩ := Option.bind_eq_some_iff.mp hh
        obtain ⟨o2, ho2, hh⟩ := Option.bind_eq_some_iff.mp hh
        have HS := Aside0.mk hh
        have HEI := Aside0.mk ho2
        obtain ⟨P2, p2, rfl⟩ := Kd.R_slice HJ.out.row
        have HC := Aside0.mk (R.calls k y0 E1 e1 y1 y2 y3 E4 e4 y4 A c l A2 c2 at_ t2 wr (by obtain ⟨_, _, _, _, e, q1, q2, q3, q4⟩ := HYN.out; cases e; exact q2) (by obtain ⟨_, _, _, _, e, q1, q2, q3, q4⟩ := HYN.out; cases e; exact q1) (by obtain ⟨_, _, _, _, e, q1, q2, q3, q4⟩ := HYN.out; cases e; exact q4) (by obtain ⟨_, _, _, _, e, q1, q2, q3, q4⟩ := HYN.out; cases e; exact q3) (Kd.C_below HL.out HJ.out.below) HLC.out (Kd.C_below HA.out HJ.out.below) HAC.out ht2)
        clear hh ht2 ho2 hlt HYN
        go_wp2_with (first
          | ((with_reducible refine gate_callee (f := 21) rfl ?_); refine goesL_ (some 82) rfl rfl Try.func21 (by kernel_rfl) rfl #[.agg #[.int .i64 y0, .slice E1 y1.length e1, .int .i64 y2, .int .i64 y3, .slice E4 y4.length e4], .slice A l.length c, .slice A2 at_.length c2] rfl (by (try simp only [List.map_toArray, List.map_cons, List.map_nil]); first | done | rfl) ?_; refine HC.out.mono ?_; rintro e_ w6 ⟨v6, rfl, hr6, hb6⟩; refine ⟨_, rfl, ?_⟩; have HJ6 := Aside0.mk (HJ.out.more hb6); obtain ⟨P6, p6, e6⟩ := Kd.R_slice hr6; subst e6; have HR6 := Aside0.mk hr6; clear hr6 hb6)
          | ((with_reducible refine gate_callee (f := 31) rfl ?_); refine goesL_ (some 83) rfl rfl Try.func31 (by kernel_rfl) rfl #[.slice P2 out.length p2, .slice P6 t2.length p6] rfl (by (try simp only [List.map_toArray, List.map_cons, List.map_nil]); first | done | rfl) ?_; refine (ductusref18_either.calls k P2 p2 out P6 p6 t2 o2 _ (Kd.R_reads' HJ6.out.row).2.2 (Kd.R_reads' HJ6.out.row).2.1 (Kd.R_reads' HR6.out).2.2 (Kd.R_reads' HR6.out).2.1 HEI.out).mono ?_; rintro e_ w7 ⟨v7, rfl, hr7, hb7⟩; refine ⟨_, rfl, ?_⟩; have HJ7 := Aside0.mk (HJ6.out.next hb7 hr7); clear hr7 hb7))
        refine ⟨⟨i + 1, o2, by first | (rw [hw]; done) | rfl | simp, HLI.out, HS, ⟨HJ7.out⟩⟩, ?_⟩
        first | (rw [hw]) | skip
        show x4.length - _ < x4.length - _
        have := HLI.out
        simp only [intOf, Int.toNat_natCast]
        omega
      · have hn : i = x4.length := by omega
        subst hn
        have g1 : decide ((x4.length : Int) < (x4.length : Int)) = false := decide_eq_false (by omega)
        have b4 := blk_cell HJ.out.bx 4
        have hh := HS.out
        rw [List.drop_length] at hh
        simp only [orB] at hh
        obtain rfl := Option.some.inj hh
        clear hh HS hi
        go_wp2
        go_ret
        exact ⟨_, rfl, HJ.out.ret, HJ.out.below⟩
  have k4 : (x0 == 4) = false := beq_eq_false_iff_ne.mpr e4
  by_cases e5 : x0 = 5
  · have h := HH.out
    rw [if_neg e1, if_neg e2, if_neg e3, if_neg e4, if_pos e5] at h
    subst e5
    by_cases cl : x4.length = 1
    · rw [if_pos cl] at h
      have g1 : ((x4.length : Int) == 1) = true := beq_iff_eq.mpr (by omega)
      have HC := Aside0.mk (ductusref18_repeat.calls R k 5 A1 c1 x1 x2 x3 A4 c4 x4 A c l A2 c2 at_ r w2 (Kd.C_below HQ.out.2.1 HJ.out.below) HQ.out.1 (Kd.C_below HQ.out.2.2.2 HJ.out.below) HQ.out.2.2.1 (Kd.C_below HL.out HJ.out.below) HLC.out (Kd.C_below HA.out HJ.out.below) HAC.out h)
      clear cl h HH e1 e2 e3 e4
      go_wp2_with ((with_reducible refine gate_callee (f := 32) rfl ?_); refine goesL_ (some 93) rfl rfl Try.func32 (by kernel_rfl) rfl #[.agg #[.int .i64 5, .slice A1 x1.length c1, .int .i64 x2, .int .i64 x3, .slice A4 x4.length c4], .slice A l.length c, .slice A2 at_.length c2] rfl (by (try simp only [List.map_toArray, List.map_cons, List.map_nil]); first | done | rfl) ?_; refine HC.out.mono ?_; rintro e_ w6 ⟨v6, rfl, hr6, hb6⟩; refine ⟨_, rfl, ?_⟩; have HJ6 := Aside0.mk (HJ.out.next hb6 hr6); clear hr6 hb6)
      go_ret
      exact ⟨_, rfl, HJ6.out.ret, HJ6.out.below⟩
    · rw [if_neg cl] at h
      obtain rfl := Option.some.inj h
      have g1 : ((x4.length : Int) == 1) = false := beq_eq_false_iff_ne.mpr (by omega)
      clear cl h HH e1 e2 e3 e4
      go_wp2
      go_ret
      exact ⟨_, rfl, HJ.out.ret, HJ.out.below⟩
  have k5 : (x0 == 5) = false := beq_eq_false_iff_ne.mpr e5
  by_cases e6 : x0 = 6
  · have h := HH.out
    rw [if_neg e1, if_neg e2, if_neg e3, if_neg e4, if_neg e5, if_pos e6] at h
    subst e6
    obtain rfl := Option.some.inj h
    obtain ⟨g, cap, ev, r1, r2⟩ := HJ.out.at_ (by have := HPN.out; omega) 0 (by omega) (by have := HPN.out; omega)
    subst ev
    obtain ⟨ca, eca, h0⟩ := Kd.at_bool (Kd.C_below HA.out HJ.out.below) 0 (by omega) (by have := HN.out; omega)
    cases eca
    have hp := HJ.out.put 0 (rdOf false at_ 0)
    rw [Int.toNat_zero] at r1 r2 h0 hp
    rw [show ca.add 0 = ca by cases ca; simp [Addr.add]] at h0
    have HJP := Aside0.mk hp
    have g1 : (0 < (at_.length : Int)) = True := eq_true (by have := HN.out; omega)
    have g2 : (0 < ((placesB l.length).length : Int)) = True := eq_true (by have := HPN.out; omega)
    have g1n : (0 < at_.length) = True := eq_true (by have := HN.out; omega)
    have g2n : (0 < (placesB l.length).length) = True := eq_true (by have := HPN.out; omega)
    have g3 : ((l.length : Int) < (at_.length : Int)) = True := eq_true (by have := HN.out; omega)
    have g4 : ((l.length : Int) < ((placesB l.length).length : Int)) = True := eq_true (by have := HPN.out; omega)
    have g5 : ((0 : Int) ≤ (l.length : Int)) = True := eq_true (by omega)
    clear hp h HH e1 e2 e3 e4 e5
    go_wp2
    go_ret
    exact ⟨_, rfl, HJP.out.ret, HJP.out.below⟩
  have k6 : (x0 == 6) = false := beq_eq_false_iff_ne.mpr e6
  by_cases e7 : x0 = 7
  · have h := HH.out
    rw [if_neg e1, if_neg e2, if_neg e3, if_neg e4, if_neg e5, if_neg e6, if_pos e7] at h
    subst e7
    obtain rfl := Option.some.inj h
    obtain ⟨g, cap, ev, r1, r2⟩ := HJ.out.at_ (by have := HPN.out; omega) (l.length : Int) (by omega) (by have := HPN.out; omega)
    subst ev
    obtain ⟨ca, eca, h0⟩ := Kd.at_bool (Kd.C_below HA.out HJ.out.below) (l.length : Int) (by omega) (by have := HN.out; omega)
    cases eca
    have hp := HJ.out.put (l.length : Int) (rdOf false at_ (l.length : Int))
    rw [Int.toNat_natCast] at r1 r2 h0 hp
    have HJP := Aside0.mk hp
    have g1 : (0 < (at_.length : Int)) = True := eq_true (by have := HN.out; omega)
    have g2 : (0 < ((placesB l.length).length : Int)) = True := eq_true (by have := HPN.out; omega)
    have g1n : (0 < at_.length) = True := eq_true (by have := HN.out; omega)
    have g2n : (0 < (placesB l.length).length) = True := eq_true (by have := HPN.out; omega)
    have g3 : ((l.length : Int) < (at_.length : Int)) = True := eq_true (by have := HN.out; omega)
    have g4 : ((l.length : Int) < ((placesB l.length).length : Int)) = True := eq_true (by have := HPN.out; omega)
    have g5 : ((0 : Int) ≤ (l.length : Int)) = True := eq_true (by omega)
    clear hp h HH e1 e2 e3 e4 e5 e6
    go_wp2
    go_ret
    exact ⟨_, rfl, HJP.out.ret, HJP.out.below⟩
  have k7 : (x0 == 7) = false := beq_eq_false_iff_ne.mpr e7
  have h := HH.out
  rw [if_neg e1, if_neg e2, if_neg e3, if_neg e4, if_neg e5, if_neg e6, if_neg e7] at h
  obtain rfl := Option.some.inj h
  clear h HH e1 e2 e3 e4 e5 e6 e7
  go_wp2
  go_ret
  exact ⟨_, rfl, HJ.out.ret, HJ.out.below⟩
end Go.Proofs.Ytaphbechnjmlgaa.P
namespace Go.Proofs.Ytaphbechnjmlgaa.P
open Go.RowKit Go.Proofs.YtaphbechnjmlgaaW.PrintWords Go.Proofs.YtaphbechnjmlgaaW.PrintLast Go.Proofs.YtaphbechnjmlgaaW.PrintMore
set_option linter.unusedVariables false
set_option linter.unusedSimpArgs false

theorem setB_mono (k : Nat) (rl : List S52) (l : List Int) (at_ : List Bool) : ∀ d i out, LeO (setB k rl l at_ d i out) (setB (k + 1) rl l at_ d i out)
  | 0, i, out => LeO.refl _
  | d + 1, i, out => by
    rw [setB, setB]
    exact LeO.ite (LeO.bind (ductusref16_Has.mono _ _ _) fun b => setB_mono k rl l at_ d _ _) (setB_mono k rl l at_ d _ _)
theorem joinB_mono {f f' : DNode → List Bool → Option (List Bool)} (h : ∀ y t, LeO (f y t) (f' y t)) : ∀ ys out, LeO (joinB f ys out) (joinB f' ys out)
  | [], out => LeO.refl _
  | y :: ys, out => LeO.bind (h y out) fun t => joinB_mono h ys t
theorem orB_mono (k : Nat) {f f' : DNode → Option (List Bool)} (h : ∀ y, LeO (f y) (f' y)) : ∀ ys out, LeO (orB k f ys out) (orB (k + 1) f' ys out)
  | [], out => LeO.refl _
  | y :: ys, out => LeO.bind (h y) fun t => LeO.bind (ductusref18_either.mono _ _ _) fun o => orB_mono k h ys o
theorem refStep_mono2 (R R2 : RefReach) (hR : ∀ a0 a1 a2 a3 a4 a5 a6 k, LeO (R.f k a0 a1 a2 a3 a4 a5 a6) (R2.f (k + 1) a0 a1 a2 a3 a4 a5 a6)) (k : Nat) (x0 : Int) (x1 : List S52) (x2 x3 : Int) (x4 : List DNode) (l : List Int) (at_ : List Bool) :
    LeO (refStep R k x0 x1 x2 x3 x4 l at_) (refStep R2 (k + 1) x0 x1 x2 x3 x4 l at_) := by
  unfold refStep
  refine LeO.ite (LeO.ite (LeO.refl _) (LeO.ite (setB_mono _ _ _ _ _ _ _) (LeO.ite (joinB_mono (fun y t => hR _ _ _ _ _ _ _ _) _ _) (LeO.ite (orB_mono k (fun y => hR _ _ _ _ _ _ _ _) _ _) (LeO.ite (LeO.ite ?_ (LeO.refl _)) (LeO.ite (LeO.refl _) (LeO.ite (LeO.refl _) (LeO.refl _)))))))) (LeO.refl _)
  exact ductusref18_repeat.mono2 R R2 hR _ _ _ _ _ _ _ _
/-- The document's reach, up to a depth. -/
def refN : Nat → RefReach
  | 0 => ⟨fun _ _ _ _ _ _ _ _ => none, fun _ _ _ _ _ _ _ _ => LeO.none _, fun _ _ _ _ _ _ _ _ _ _ _ _ _ _ _ _ _ _ _ _ _ _ _ _ _ _ h => by cases h⟩
  | n + 1 => ⟨fun k a0 a1 a2 a3 a4 l t => refStep (refN n) k a0 a1 a2 a3 a4 l t, fun a0 a1 a2 a3 a4 l t k => refStep_mono2 (refN n) (refN n) (fun _ _ _ _ _ _ _ _ => (refN n).mono _ _ _ _ _ _ _ _) k a0 a1 a2 a3 a4 l t,
    fun k a0_0 A0_1 c0_1 l0_1 a0_2 a0_3 A0_4 c0_4 l0_4 A1 c1 l1 A2 c2 l2 r w hr0_1 hc0_1 hr0_4 hc0_4 hr1 hc1 hr2 hc2 h => refStep_calls (refN n) k a0_0 A0_1 c0_1 l0_1 a0_2 a0_3 A0_4 c0_4 l0_4 A1 c1 l1 A2 c2 l2 r w hr0_1 hc0_1 hr0_4 hc0_4 hr1 hc1 hr2 hc2 h⟩
def ductusref18_reach.f (k : Nat) (a0_0 : Int) (l0_1 : List (S52)) (a0_2 : Int) (a0_3 : Int) (l0_4 : List (S25)) (l1 : List Int) (l2 : List Bool) : Option (List Bool) := (refN k).f k a0_0 l0_1 a0_2 a0_3 l0_4 l1 l2
theorem ductusref18_reach.calls (k : Nat) (a0_0 : Int) (A0_1 : Option Addr) (c0_1 : Nat) (l0_1 : List (S52)) (a0_2 : Int) (a0_3 : Int) (A0_4 : Option Addr) (c0_4 : Nat) (l0_4 : List (S25)) (A1 : Option Addr) (c1 : Nat) (l1 : List Int) (A2 : Option Addr) (c2 : Nat) (l2 : List Bool) (r : List Bool) (w : World)
    (hr0_1 : Kd.C k52 w A0_1 l0_1.length l0_1) (hc0_1 : l0_1.length ≤ c0_1) (hr0_4 : Kd.C k25 w A0_4 l0_4.length l0_4) (hc0_4 : l0_4.length ≤ c0_4) (hr1 : Kd.C (Kd.int .i64) w A1 l1.length l1) (hc1 : l1.length ≤ c1) (hr2 : Kd.C Kd.bool w A2 l2.length l2) (hc2 : l2.length ≤ c2) (h : ductusref18_reach.f k a0_0 l0_1 a0_2 a0_3 l0_4 l1 l2 = some r) :
    Calls Try.prog 21 #[.agg #[.int .i64 a0_0, .slice A0_1 l0_1.length c0_1, .int .i64 a0_2, .int .i64 a0_3, .slice A0_4 l0_4.length c0_4], .slice A1 l1.length c1, .slice A2 l2.length c2] w fun e w' => ∃ v0_ : Value, e = .returned (v0_) ∧ Kd.R Kd.bool 4 w' w.heap.size (fun _ => True) v0_ r ∧ Below w.heap.size w w' :=
  (refN k).calls k a0_0 A0_1 c0_1 l0_1 a0_2 a0_3 A0_4 c0_4 l0_4 A1 c1 l1 A2 c2 l2 r w hr0_1 hc0_1 hr0_4 hc0_4 hr1 hc1 hr2 hc2 h
end Go.Proofs.Ytaphbechnjmlgaa.P
namespace Go.Proofs.Ytaphbechnjmlgaa.P
open Go.RowKit Go.Proofs.YtaphbechnjmlgaaW.PrintWords Go.Proofs.YtaphbechnjmlgaaW.PrintLast Go.Proofs.YtaphbechnjmlgaaW.PrintMore
attribute [local go_sem] max2_int min2_int max_two min_two
set_option linter.unusedVariables false
set_option linter.unusedSimpArgs false

mutual
def ductusref18_Ends.j0 : Nat → List Int → Int → List Int → Bool → Int → List (S52) → Int → Int → List (S25) → Option (List Int)
  | 0, _, _, _, _, _, _, _, _, _ => none
  | k + 1, x1, x2, x7, x18, x235000, x235001, x235002, x235003, x235004 => if x18 = true then (some ([] : List Int)) else ((ductusref18_places.f x1).bind fun t235 => (if 0 ≤ x2 then (if x2 < (t235.length : Int) then ((ductusref18_reach.f k x235000 x235001 x235002 x235003 x235004 x1 (t235.set (x2 : Int).toNat true)).bind fun t239 => (ductusref18_Ends.l0 k x7 t239 0)) else (none)) else (none)))
def ductusref18_Ends.l0 : Nat → List Int → List Bool → Int → Option (List Int)
  | 0, _, _, _ => none
  | k + 1, x7, x9, x10 => if x10 < (x9.length : Int) then (if 0 ≤ x10 then (if rdOf false x9 x10 = true then (if x7.length < 17592186044416 then (ductusref18_Ends.l0 k (x7 ++ [x10]) x9 (wrap64 (x10 + 1))) else (none)) else (ductusref18_Ends.l0 k x7 x9 (wrap64 (x10 + 1)))) else (none)) else (some x7)
end
def ductusref18_Ends.f (k : Nat) (a0_0 : Int) (l0_1 : List (S52)) (a0_2 : Int) (a0_3 : Int) (l0_4 : List (S25)) (l1 : List Int) (a2 : Int) : Option (List Int) := if a2 < 0 then (ductusref18_Ends.j0 k l1 a2 ([] : List Int) true a0_0 l0_1 a0_2 a0_3 l0_4) else (ductusref18_Ends.j0 k l1 a2 ([] : List Int) (decide (a2 > (l1.length : Int))) a0_0 l0_1 a0_2 a0_3 l0_4)
set_option maxHeartbeats 8000000 in
set_option maxRecDepth 100000 in
theorem ductusref18_Ends.calls (k : Nat) (a0_0 : Int) (A0_1 : Option Addr) (c0_1 : Nat) (l0_1 : List (S52)) (a0_2 : Int) (a0_3 : Int) (A0_4 : Option Addr) (c0_4 : Nat) (l0_4 : List (S25)) (A1 : Option Addr) (c1 : Nat) (l1 : List Int) (a2 : Int) (r : List Int) (w : World) (hr0_1 : Kd.C k52 w A0_1 l0_1.length l0_1) (hc0_1 : l0_1.length ≤ c0_1) (hr0_4 : Kd.C k25 w A0_4 l0_4.length l0_4) (hc0_4 : l0_4.length ≤ c0_4) (hr1 : Kd.C (Kd.int .i64) w A1 l1.length l1) (hc1 : l1.length ≤ c1) (h : ductusref18_Ends.f k a0_0 l0_1 a0_2 a0_3 l0_4 l1 a2 = some r) :
    Calls Try.prog 9 #[.agg #[.int .i64 a0_0, .slice A0_1 l0_1.length c0_1, .int .i64 a0_2, .int .i64 a0_3, .slice A0_4 l0_4.length c0_4], .slice A1 l1.length c1, .int .i64 a2] w fun e w' => ∃ v0_ : Value, e = .returned (v0_) ∧ Kd.R (Kd.int .i64) 3 w' w.heap.size (fun _ => True) v0_ r ∧ Below w.heap.size w w' := by
  have hu25 := Try.underlying25
  have HR0_1 := Aside0.mk hr0_1
  have HC0_1 := Aside0.mk hc0_1
  clear hr0_1 hc0_1
  have HR0_4 := Aside0.mk hr0_4
  have HC0_4 := Aside0.mk hc0_4
  clear hr0_4 hc0_4
  have HR1 := Aside0.mk hr1
  have HC1 := Aside0.mk hc1
  clear hr1 hc1
  have HB := Aside0.mk (Below.refl w.heap.size w)
  have H : (if a2 < 0 then (ductusref18_Ends.j0 k l1 a2 ([] : List Int) true a0_0 l0_1 a0_2 a0_3 l0_4) else (ductusref18_Ends.j0 k l1 a2 ([] : List Int) (decide (a2 > (l1.length : Int))) a0_0 l0_1 a0_2 a0_3 l0_4)) = some r := h
  clear h
  have HC4 := Aside0.mk H
  clear H
  go_enter Try.func9, Try.ntmps9
  go_upto_region 2 with (first | ((with_reducible refine gate_dst (N := 3) rfl ?_); (try (refine gate_guard (by rfl) ?_; dsimp only)); refine box_event ?hg (N := 3) ?hd (cs := #[.int .i64 a0_0, .slice A0_1 l0_1.length c0_1, .int .i64 a0_2, .int .i64 a0_3, .slice A0_4 l0_4.length c0_4]) (t := 25) ?hr ?_; (case hd => rfl); (case hg => rfl); (case hr => first | (go_simp; done) | (go_simp; rfl)); intro gb234 hg w5 hbox hb; have n0_ := Aside0.mk (below_step (by repeat (first | (with_reducible first | exact HB.out | apply below_alloc | apply pw_below_drewN | apply below_drew1) | exact HB.out)) hb); have n1_ := Aside0.mk (hbox); have n2_ := Aside0.mk ((by rw [hg]; exact (below_size (by repeat (first | (with_reducible first | exact HB.out | apply below_alloc | apply pw_below_drewN | apply below_drew1) | exact HB.out))) : w.heap.size ≤ gb234)); have n3_ := Aside0.mk ((by rw [hg]; exact (below_size (by repeat (first | (with_reducible first | exact HB.out | apply below_alloc | apply pw_below_drewN | apply below_drew1) | exact HB.out))) : w.heap.size ≤ gb234)); clear HB; have HB := n0_; have BK234 := n1_; have GW234 := n2_; have GE234 := n3_; clear n0_ n1_ n2_ n3_; clear hb hbox hg))
  (try simp only [Act.put, List.setIfInBounds_toArray, List.set_cons_zero, List.set_cons_succ])
  go_cut [18] (fun v18 wc => ∃ (kq : Nat) (x18_3 : Bool), v18 = .bool x18_3 ∧ Aside0 (ductusref18_Ends.j0 kq l1 a2 ([] : List Int) x18_3 a0_0 l0_1 a0_2 a0_3 l0_4 = some r) ∧ Aside0 (kq ≤ k) ∧ Aside0 (Kd.R (Kd.int .i64) 3 wc w.heap.size (fun _ => True) (.slice none 0 0) ([] : List Int)) ∧ Aside0 (wc.heap[gb234]? = some (.cells #[.int .i64 a0_0, (.slice A0_1 l0_1.length c0_1), .int .i64 a0_2, .int .i64 a0_3, (.slice A0_4 l0_4.length c0_4)] 25 (0, 0))) ∧ Aside0 (Below w.heap.size w wc))
  case first =>
    have H := HC4.out
    clear HC4
    by_cases c6 : a2 < 0
    · rw [if_pos c6] at H
      have c6b0 : decide (a2 < 0) = true := decide_eq_true c6
      clear c6
      (first | rw [c6b0] | (simp only [i64_w, i32_w]; rw [c6b0]) | skip)
      have H' := Aside0.mk H
      clear H
      go_wp2
      go_meet
      case rel => exact ⟨_, (true), (by first | rfl | (simp; done) | (simp [*]; done)), H', ⟨by first | omega | exact Nat.le_refl _⟩, ⟨by first | exact Kd.R_nil _ _ _ _ _ | exact Kd.N_nil _ _ _ _ _ | exact Kd.V_nil _ _ _ _ _ | exact Kd.Q_nil _ _ _ _ _ | exact Kd.S_nil _ _ _ _ _⟩, ⟨by (with_reducible repeat (first | refine blk_drewN ?_ _ | refine blk_drew ?_ | refine blk_alloc ?_ _)); exact BK234.out⟩, ⟨by repeat (first | (with_reducible first | exact HB.out | apply below_alloc | apply pw_below_drewN | apply below_drew1 | refine below_set ?_ GE234.out) | exact HB.out)⟩⟩
    rw [if_neg c6] at H
    have c6b0 : decide (a2 < 0) = false := decide_eq_false c6
    clear c6
    (first | rw [c6b0] | (simp only [i64_w, i32_w]; rw [c6b0]) | skip)
    have H' := Aside0.mk H
    clear H
    go_wp2
    go_meet
    case rel => exact ⟨_, (decide (a2 > (l1.length : Int))), (by first | rfl | (simp; done) | (simp [*]; done)), H', ⟨by first | omega | exact Nat.le_refl _⟩, ⟨by first | exact Kd.R_nil _ _ _ _ _ | exact Kd.N_nil _ _ _ _ _ | exact Kd.V_nil _ _ _ _ _ | exact Kd.Q_nil _ _ _ _ _ | exact Kd.S_nil _ _ _ _ _⟩, ⟨by (with_reducible repeat (first | refine blk_drewN ?_ _ | refine blk_drew ?_ | refine blk_alloc ?_ _)); exact BK234.out⟩, ⟨by repeat (first | (with_reducible first | exact HB.out | apply below_alloc | apply pw_below_drewN | apply below_drew1 | refine below_set ?_ GE234.out) | exact HB.out)⟩⟩
  case rest =>
    clear HC4
    try clear c1
    try clear p2
    try clear c6
    try clear c6b0
    obtain ⟨kq, x18_3, rfl, HA, HJ3, HO_7, BK234, HB⟩ := hcut
    cases kq with
    | zero => exact absurd HA.out (by simp [ductusref18_Ends.j0])
    | succ kj3 =>
      have H := HA.out
      clear HA
      simp only [ductusref18_Ends.j0] at H
      by_cases c7 : x18_3 = true
      · subst c7
        have H1 : (some ([] : List Int)) = some r := by rw [if_pos rfl] at H; exact H
        clear H
        have H := H1
        clear H1
        obtain rfl := Option.some.inj H
        go_wp2
        go_ret
        exact ⟨_, by first | rfl | (simp [errW_none, errW_some] <;> rfl) | (simp [*, errW_none, errW_some] <;> rfl), by first | exact Kd.R_nil _ _ _ _ _ | exact Kd.N_nil _ _ _ _ _ | exact Kd.V_nil _ _ _ _ _ | exact Kd.Q_nil _ _ _ _ _ | exact Kd.S_nil _ _ _ _ _, by repeat (first | (with_reducible first | exact HB.out | apply below_alloc | apply pw_below_drewN | apply below_drew1 | refine below_set ?_ GE234.out) | exact HB.out)⟩
      replace c7 := Bool.eq_false_iff.mpr c7
      subst c7
      have H1 : ((ductusref18_places.f l1).bind fun t235 => (if 0 ≤ a2 then (if a2 < (t235.length : Int) then ((ductusref18_reach.f kj3 a0_0 l0_1 a0_2 a0_3 l0_4 l1 (t235.set (a2 : Int).toNat true)).bind fun t239 => (ductusref18_Ends.l0 kj3 ([] : List Int) t239 0)) else (none)) else (none))) = some r := by rw [if_neg (show ¬ (false = true) by decide)] at H; exact H
      clear H
      have H := H1
      clear H1
      replace H := Option.bind_eq_some_iff.mp H
      obtain ⟨t235, A80, H⟩ := H
      replace H : (if 0 ≤ a2 then (if a2 < (t235.length : Int) then ((ductusref18_reach.f kj3 a0_0 l0_1 a0_2 a0_3 l0_4 l1 (t235.set (a2 : Int).toNat true)).bind fun t239 => (ductusref18_Ends.l0 kj3 ([] : List Int) t239 0)) else (none)) else (none)) = some r := H
      have A8 := Aside0.mk A80
      clear A80
      by_cases c9 : 0 ≤ a2
      rotate_left
      · rw [if_neg c9] at H
        exact absurd H (by simp)
      rw [if_pos c9] at H
      have c9b0 : decide (0 ≤ a2) = true := decide_eq_true c9
      clear c9
      by_cases c10 : a2 < (t235.length : Int)
      rotate_left
      · rw [if_neg c10] at H
        exact absurd H (by simp)
      rw [if_pos c10] at H
      have c10b0 : decide (a2 < (t235.length : Int)) = true := decide_eq_true c10
      clear c10
      obtain ⟨y238, hy238⟩ : ∃ y_ : List Bool, y_ = (t235.set (a2 : Int).toNat true) := ⟨_, rfl⟩
      replace H : ((ductusref18_reach.f kj3 a0_0 l0_1 a0_2 a0_3 l0_4 l1 y238).bind fun t239 => (ductusref18_Ends.l0 kj3 ([] : List Int) t239 0)) = some r := by first | (rw [hy238]; with_reducible exact H) | (have H2_ := (Option.bind_some _ _).symm.trans H; rw [hy238]; with_reducible exact H2_) | (have H2_ := (Option.bind_some _ _).symm.trans H; with_reducible exact H2_) | with_reducible exact H | (rw [hy238]; exact H) | exact H
      have Ny238 := Aside0.mk hy238
      clear hy238
      replace H := Option.bind_eq_some_iff.mp H
      obtain ⟨t239, A120, H⟩ := H
      replace H : (ductusref18_Ends.l0 kj3 ([] : List Int) t239 0) = some r := H
      have A12 := Aside0.mk A120
      clear A120
      have H' := Aside0.mk H
      clear H
      go_wp2_with (first | ((with_reducible refine gate_callee (f := 20) rfl ?_); refine goesL_ (some 20) rfl rfl Try.func20 (by kernel_rfl) rfl #[.slice A1 l1.length c1] rfl (by (try simp only [List.map_toArray, List.map_cons, List.map_nil]); first | done | rfl | (simp only [List.length_drop, List.length_take]; rfl)) ?_; (with_reducible refine (ductusref18_places.calls _ _ l1 t235 _ ?side1 ?side2 A8.out).mono ?_); (case side1 => repeat (first | exact (Kd.C_below HR1.out HB.out) | (with_reducible refine Kd.C_alloc ?_ _) | (with_reducible refine Kd.C_drewN ?_ _) | (with_reducible refine Kd.C_drew ?_))); (case side2 => exact HC1.out); rintro e w13 ⟨v236, rfl, ho0, hb⟩; refine ⟨_, rfl, ?_⟩; have n0_ := Aside0.mk (Kd.R_below (by (with_reducible repeat (first | apply Kd.R_alloc | apply Kd.R_drewN | apply Kd.R_drew)); exact HO_7.out) hb); have n1_ := Aside0.mk (Kd.R_lower ho0 (below_size (by repeat (first | (with_reducible first | exact HB.out | apply below_alloc | apply pw_below_drewN | apply below_drew1 | refine below_set ?_ GE234.out) | exact HB.out)))); have n2_ := Aside0.mk (blk_below (g := gb234) (o := .cells #[.int .i64 a0_0, .slice A0_1 l0_1.length c0_1, .int .i64 a0_2, .int .i64 a0_3, .slice A0_4 l0_4.length c0_4] 25 (0, 0)) (by (with_reducible repeat (first | refine blk_drewN ?_ _ | refine blk_drew ?_ | refine blk_alloc ?_ _)); exact BK234.out) hb); have n3_ := Aside0.mk (below_step (by repeat (first | (with_reducible first | exact HB.out | apply below_alloc | apply pw_below_drewN | apply below_drew1 | refine below_set ?_ GE234.out) | exact HB.out)) hb); clear HO_7; clear BK234; clear HB; have HO_7 := n0_; have HO237 := n1_; have BK234 := n2_; have HB := n3_; clear n0_ n1_ n2_ n3_; (try clear hb); (try clear hb2); (try clear hk); (try clear hi); (try clear ho0); have p11 : 0 ≤ (a2 : Int) := of_decide_eq_true (by first | (with_reducible assumption) | assumption); have q11 : (a2 : Int) < ((t235.length : Int) : Int) := of_decide_eq_true (by first | (with_reducible assumption) | assumption); obtain ⟨go11, co11, eo11, gb11, gl11, cl11, HG11⟩ := Kd.R_form HO237.out (by omega); (first | cases eo11 | (injection eo11 with ea_ en_ ec_; (first | subst ea_ | (injection ea_ with ea_; subst ea_)); subst ec_; clear en_)); have GB11 := Aside0.mk gb11; have GG11 := Aside0.mk HG11; clear gb11 gl11 HG11; obtain ⟨hx11_0, hf11_0⟩ := Kd.R_celln false HO237.out (a2 : Int) p11 q11; replace p11 := eq_true p11; replace q11 := eq_true q11; obtain ⟨hy14_, hz14_⟩ := Kd.R_celln false HO237.out (a2 : Int) (of_decide_eq_true (by first | (with_reducible assumption) | assumption)) (of_decide_eq_true (by first | (with_reducible assumption) | assumption)); have HP14 := Kd.R_putg HO237.out (a2 : Int) true) | ((with_reducible refine gate_store (t := 4) (p := 23) rfl ?_); refine store_event (t := 4) (p := 23) (v := ?vo_w15) (w1 := (w13.setCell ⟨go11, (a2 : Int).toNat, none⟩ (.bool true))) ?hg ?ho ?hn ?hr ?_; (case ho => rfl); (case hg => rfl); (case hn => rfl); (case hr => first | (go_simp; done) | (go_simp; rfl)); intro w15 hw; have hg : w13.grownBy w15 (some go11) := (by rw [hw]; exact HP14.2); have hp_ : Kd.R Kd.bool 4 w15 w.heap.size (fun _ => True) (.slice (some ⟨go11, 0, none⟩) t235.length co11) y238 := (by rw [hw, Ny238.out]; exact HP14.1); clear HP14; have n0_ := Aside0.mk (Kd.R_over' (v := (.slice (some ⟨go11, 0, none⟩) t235.length co11)) (by (with_reducible repeat (first | apply Kd.R_alloc | apply Kd.R_drewN | apply Kd.R_drew)); exact HO_7.out) (Kd.R_typed HO237.out) (by decide) hg); have n1_ := Aside0.mk (blk_grown (g := gb234) (o := .cells #[.int .i64 a0_0, .slice A0_1 l0_1.length c0_1, .int .i64 a0_2, .int .i64 a0_3, .slice A0_4 l0_4.length c0_4] 25 (0, 0)) (by (with_reducible repeat (first | refine blk_drewN ?_ _ | refine blk_drew ?_ | refine blk_alloc ?_ _)); exact BK234.out) hg (Kd.R_ne HO237.out BK234.out (by decide))); have n2_ := Aside0.mk (hp_); have n3_ := Aside0.mk ((by rw [hw]; exact below_set (HB.out) GB11.out : Below w.heap.size w w15)); clear HO_7; clear BK234; clear HO237; clear HB; have HO_7 := n0_; have BK234 := n1_; have HO237 := n2_; have HB := n3_; clear n0_ n1_ n2_ n3_; clear hg hw hp_; have hcz16_0 : w15.cell? ⟨gb234, 0, none⟩ = some (.int .i64 a0_0) := (blk_cell BK234.out 0).trans rfl; have hcz16_1 : w15.cell? ⟨gb234, 1, none⟩ = some (.slice A0_1 l0_1.length c0_1) := (blk_cell BK234.out 1).trans rfl; have hcz16_2 : w15.cell? ⟨gb234, 2, none⟩ = some (.int .i64 a0_2) := (blk_cell BK234.out 2).trans rfl; have hcz16_3 : w15.cell? ⟨gb234, 3, none⟩ = some (.int .i64 a0_3) := (blk_cell BK234.out 3).trans rfl; have hcz16_4 : w15.cell? ⟨gb234, 4, none⟩ = some (.slice A0_4 l0_4.length c0_4) := (blk_cell BK234.out 4).trans rfl; have hfz16_0 := blk_frozen BK234.out 0; have hfz16_1 := blk_frozen BK234.out 1; have hfz16_2 := blk_frozen BK234.out 2; have hfz16_3 := blk_frozen BK234.out 3; have hfz16_4 := blk_frozen BK234.out 4) | ((with_reducible refine gate_callee (f := 21) rfl ?_); refine goesL_ (some 27) rfl rfl Try.func21 (by kernel_rfl) rfl #[.agg #[.int .i64 a0_0, .slice A0_1 l0_1.length c0_1, .int .i64 a0_2, .int .i64 a0_3, .slice A0_4 l0_4.length c0_4], .slice A1 l1.length c1, .slice (some ⟨go11, 0, none⟩) y238.length co11] rfl (by (try simp only [List.map_toArray, List.map_cons, List.map_nil]); first | done | (rw [show y238.length = t235.length from (Kd.R_reads' HO237.out).1.symm] <;> rfl) | rfl | (simp only [List.length_drop, List.length_take]; rfl)) ?_; (with_reducible refine (ductusref18_reach.calls kj3 a0_0 _ _ l0_1 a0_2 a0_3 _ _ l0_4 _ _ l1 _ _ y238 t239 _ ?side1 ?side2 ?side3 ?side4 ?side5 ?side6 ?side7 ?side8 A12.out).mono ?_); (case side1 => repeat (first | exact (Kd.C_below HR0_1.out HB.out) | (with_reducible refine Kd.C_alloc ?_ _) | (with_reducible refine Kd.C_drewN ?_ _) | (with_reducible refine Kd.C_drew ?_))); (case side2 => exact HC0_1.out); (case side3 => repeat (first | exact (Kd.C_below HR0_4.out HB.out) | (with_reducible refine Kd.C_alloc ?_ _) | (with_reducible refine Kd.C_drewN ?_ _) | (with_reducible refine Kd.C_drew ?_))); (case side4 => exact HC0_4.out); (case side5 => repeat (first | exact (Kd.C_below HR1.out HB.out) | (with_reducible refine Kd.C_alloc ?_ _) | (with_reducible refine Kd.C_drewN ?_ _) | (with_reducible refine Kd.C_drew ?_))); (case side6 => exact HC1.out); (case side7 => repeat (first | exact (Kd.R_reads' HO237.out).2.2 | (with_reducible refine Kd.C_alloc ?_ _) | (with_reducible refine Kd.C_drewN ?_ _) | (with_reducible refine Kd.C_drew ?_))); (case side8 => rw [show y238.length = t235.length from (Kd.R_reads' HO237.out).1.symm]; exact (Kd.R_reads' HO237.out).2.1); rintro e w17 ⟨v240, rfl, ho0, hb⟩; refine ⟨_, rfl, ?_⟩; have n0_ := Aside0.mk (Kd.R_below (by (with_reducible repeat (first | apply Kd.R_alloc | apply Kd.R_drewN | apply Kd.R_drew)); exact HO_7.out) hb); have n1_ := Aside0.mk (Kd.R_elder' (by (with_reducible repeat (first | apply Kd.R_alloc | apply Kd.R_drewN | apply Kd.R_drew)); exact HO237.out) (Kd.R_base ho0) hb); have n2_ := Aside0.mk (Kd.R_lower (Kd.R_new' ho0 (Kd.R_lt (by (with_reducible repeat (first | apply Kd.R_alloc | apply Kd.R_drewN | apply Kd.R_drew)); exact HO237.out))) (below_size (by repeat (first | (with_reducible first | exact HB.out | apply below_alloc | apply pw_below_drewN | apply below_drew1 | refine below_set ?_ GE234.out) | exact HB.out)))); have n3_ := Aside0.mk (blk_below (g := gb234) (o := .cells #[.int .i64 a0_0, .slice A0_1 l0_1.length c0_1, .int .i64 a0_2, .int .i64 a0_3, .slice A0_4 l0_4.length c0_4] 25 (0, 0)) (by (with_reducible repeat (first | refine blk_drewN ?_ _ | refine blk_drew ?_ | refine blk_alloc ?_ _)); exact BK234.out) hb); have n4_ := Aside0.mk (below_step (by repeat (first | (with_reducible first | exact HB.out | apply below_alloc | apply pw_below_drewN | apply below_drew1 | refine below_set ?_ GE234.out) | exact HB.out)) hb); clear HO_7; clear HO237; clear BK234; clear HB; have HO_7 := n0_; have HO237 := n1_; have HO241 := n2_; have BK234 := n3_; have HB := n4_; clear n0_ n1_ n2_ n3_ n4_; (try clear hb); (try clear hb2); (try clear hk); (try clear hi); (try clear ho0)))
      go_loopg [7, 10] kj3 (fun kq v7 v10 w' => ∃ (x7_2 : List Int) (x10_2 : Int), v10 = .int .i64 x10_2 ∧ Aside0 (ductusref18_Ends.l0 kq x7_2 t239 x10_2 = some r) ∧ Aside0 (kq ≤ kj3) ∧ Aside0 (Kd.R (Kd.int .i64) 3 w' w.heap.size (fun _ => True) v7 x7_2) ∧ Aside0 (Kd.R Kd.bool 4 w' w.heap.size (fun _ => True) v240 t239) ∧ Aside0 (w'.heap[gb234]? = some (.cells #[.int .i64 a0_0, (.slice A0_1 l0_1.length c0_1), .int .i64 a0_2, .int .i64 a0_3, (.slice A0_4 l0_4.length c0_4)] 25 (0, 0))) ∧ Aside0 (Below w.heap.size w w'))
      case atStart => exact ⟨(([] : List Int)), (0), (by first | rfl | (simp; done) | (simp [*]; done)), H', ⟨Nat.le_refl _⟩, ⟨by (with_reducible repeat (first | apply Kd.R_alloc | apply Kd.R_drewN | apply Kd.R_drew)); exact HO_7.out⟩, ⟨by (with_reducible repeat (first | apply Kd.R_alloc | apply Kd.R_drewN | apply Kd.R_drew)); exact Kd.R_mono HO241.out (fun _ hk => trivial)⟩, ⟨by (with_reducible repeat (first | refine blk_drewN ?_ _ | refine blk_drew ?_ | refine blk_alloc ?_ _)); exact BK234.out⟩, ⟨by repeat (first | (with_reducible first | exact HB.out | apply below_alloc | apply pw_below_drewN | apply below_drew1 | refine below_set ?_ GE234.out) | exact HB.out)⟩⟩
      case round =>
        clear H'
        try clear c1
        try clear p1
        try clear q1
        try clear hx1
        try clear c2
        try clear p2
        try clear c6
        try clear c6b0
        try clear c7
        try clear c9
        try clear c9b0
        try clear c10
        try clear c10b0
        try clear p11
        try clear q11
        try clear hx11
        try clear hf11
        try clear hcz16_0
        try clear hcz16_1
        try clear hcz16_2
        try clear hcz16_3
        try clear hcz16_4
        try clear hfz16_0
        try clear hfz16_1
        try clear hfz16_2
        try clear hfz16_3
        try clear hfz16_4
        try clear hx11_0
        try clear p11
        try clear p2
        try clear q11
        obtain ⟨x7_2, x10_2, rfl, HA, HK2, HO_7, HO_9, BK234, HB⟩ := hrel
        cases gk with
        | zero => exact absurd HA.out (by simp [ductusref18_Ends.l0])
        | succ k2 =>
          have H := HA.out
          clear HA
          simp only [ductusref18_Ends.l0] at H
          by_cases c18 : x10_2 < (t239.length : Int)
          rotate_left
          · rw [if_neg c18] at H
            have c18b0 : decide (x10_2 < (t239.length : Int)) = false := decide_eq_false c18
            clear c18
            obtain rfl := Option.some.inj H
            obtain ⟨Ao26, co26, eo26⟩ := Kd.R_slice HO_9.out
            subst eo26
            go_wp2
            go_ret
            exact ⟨_, by first | rfl | (simp [errW_none, errW_some] <;> rfl) | (simp [*, errW_none, errW_some] <;> rfl), by (with_reducible repeat (first | apply Kd.R_alloc | apply Kd.R_drewN | apply Kd.R_drew)); exact HO_7.out, by repeat (first | (with_reducible first | exact HB.out | apply below_alloc | apply pw_below_drewN | apply below_drew1 | refine below_set ?_ GE234.out) | exact HB.out)⟩
          rw [if_pos c18] at H
          have c18b0 : decide (x10_2 < (t239.length : Int)) = true := decide_eq_true c18
          clear c18
          by_cases c19 : 0 ≤ x10_2
          rotate_left
          · rw [if_neg c19] at H
            exact absurd H (by simp)
          rw [if_pos c19] at H
          have c19b0 : decide (0 ≤ x10_2) = true := decide_eq_true c19
          clear c19
          obtain ⟨bq20, hbq20⟩ : ∃ b_ : Bool, b_ = (rdOf false t239 x10_2) := ⟨_, rfl⟩
          replace H : (if bq20 = true then (if x7_2.length < 17592186044416 then (ductusref18_Ends.l0 k2 (x7_2 ++ [x10_2]) t239 (wrap64 (x10_2 + 1))) else (none)) else (ductusref18_Ends.l0 k2 x7_2 t239 (wrap64 (x10_2 + 1)))) = some r := by rw [← hbq20] at H; exact H
          have Nbq20 := Aside0.mk hbq20
          clear hbq20
          by_cases c21 : bq20 = true
          rotate_left
          · replace c21 := Bool.eq_false_iff.mpr c21
            subst c21
            have H1 : (ductusref18_Ends.l0 k2 x7_2 t239 (wrap64 (x10_2 + 1))) = some r := by rw [if_neg (show ¬ (false = true) by decide)] at H; exact H
            clear H
            have H := H1
            clear H1
            have H' := Aside0.mk H
            clear H
            obtain ⟨Ao25, co25, eo25⟩ := Kd.R_slice HO_9.out
            subst eo25
            have p242 : 0 ≤ (x10_2 : Int) := of_decide_eq_true (by first | (with_reducible assumption) | assumption)
            have q242 : x10_2 < (t239.length : Int) := of_decide_eq_true (by first | (with_reducible assumption) | assumption)
            obtain ⟨ad242, e242, hx242_0⟩ := Kd.at_bool (Kd.R_reads' HO_9.out).2.2 x10_2 p242 q242
            (try rw [← Nbq20.out] at hx242_0)
            cases e242
            replace p242 := eq_true p242
            replace q242 := eq_true q242
            go_wp2
            go_roundg k2
            case measure => have := HJ3.out; have := HK2.out; omega
            case rel => exact ⟨(x7_2), (wrap64 (x10_2 + 1)), (by first | rfl | (simp; done) | (simp [*]; done)), H', ⟨by have := HJ3.out; have := HK2.out; omega⟩, ⟨by (with_reducible repeat (first | apply Kd.R_alloc | apply Kd.R_drewN | apply Kd.R_drew)); exact HO_7.out⟩, ⟨by (with_reducible repeat (first | apply Kd.R_alloc | apply Kd.R_drewN | apply Kd.R_drew)); exact HO_9.out⟩, ⟨by (with_reducible repeat (first | refine blk_drewN ?_ _ | refine blk_drew ?_ | refine blk_alloc ?_ _)); exact BK234.out⟩, ⟨by repeat (first | (with_reducible first | exact HB.out | apply below_alloc | apply pw_below_drewN | apply below_drew1 | refine below_set ?_ GE234.out) | exact HB.out)⟩⟩
          subst c21
          have H1 : (if x7_2.length < 17592186044416 then (ductusref18_Ends.l0 k2 (x7_2 ++ [x10_2]) t239 (wrap64 (x10_2 + 1))) else (none)) = some r := by rw [if_pos rfl] at H; exact H
          clear H
          have H := H1
          clear H1
          by_cases c22 : x7_2.length < 17592186044416
          rotate_left
          · rw [if_neg c22] at H
            exact absurd H (by simp)
          rw [if_pos c22] at H
          have LMc22 := Aside0.mk c22
          clear c22
          obtain ⟨y243, hy243⟩ : ∃ y_ : List Int, y_ = (x7_2 ++ [x10_2]) := ⟨_, rfl⟩
          replace H : (ductusref18_Ends.l0 k2 y243 t239 (wrap64 (x10_2 + 1))) = some r := by first | (rw [hy243]; with_reducible exact H) | (have H2_ := (Option.bind_some _ _).symm.trans H; rw [hy243]; with_reducible exact H2_) | (have H2_ := (Option.bind_some _ _).symm.trans H; with_reducible exact H2_) | with_reducible exact H | (rw [hy243]; exact H) | exact H
          have Ny243 := Aside0.mk hy243
          clear hy243
          have H' := Aside0.mk H
          clear H
          obtain ⟨Ao23, co23, eo23⟩ := Kd.R_slice HO_9.out
          subst eo23
          have p242 : 0 ≤ (x10_2 : Int) := of_decide_eq_true (by first | (with_reducible assumption) | assumption)
          have q242 : x10_2 < (t239.length : Int) := of_decide_eq_true (by first | (with_reducible assumption) | assumption)
          obtain ⟨ad242, e242, hx242_0⟩ := Kd.at_bool (Kd.R_reads' HO_9.out).2.2 x10_2 p242 q242
          (try rw [← Nbq20.out] at hx242_0)
          cases e242
          replace p242 := eq_true p242
          replace q242 := eq_true q242
          go_wp2_with (first | ((with_reducible refine gate_builtin (b := .append) (xs := #[.tmp 38, .tmp 40]) rfl ?_); (try (refine gate_guard (by rfl) ?_; dsimp only)); at_builtin; refine Kd.R_append (Kd.int .i64) (w0 := w) w.heap.size rfl (.tmp 38) (.tmp 40) 26 3 (.int .i64 0) 8 rfl Try.underlying26 info3 rfl (by decide) (by omega) u7 x7_2 x10_2 [.int .i64 x10_2] (fun _ => True) (fun _ => False) rfl rfl ?aP (fun _ hk => hk.elim) ?aF ?aO ?aB ?aS ?aL ?_; (case aP => exact rfl); (case aB => exact (by repeat (first | (with_reducible first | exact HB.out | apply below_alloc | apply pw_below_drewN | apply below_drew1 | refine below_set ?_ GE234.out) | exact HB.out))); (case aF => exact (fun _ _ => trivial)); (case aO => exact (by (with_reducible repeat (first | apply Kd.R_alloc | apply Kd.R_drewN | apply Kd.R_drew)); exact HO_7.out)); (case aS => exact (below_size (by repeat (first | (with_reducible first | exact HB.out | apply below_alloc | apply pw_below_drewN | apply below_drew1 | refine below_set ?_ GE234.out) | exact HB.out)))); (case aL => have := LMc22.out; omega); intro v244 w24 ho hb hg hat; rw [← Ny243.out] at ho; have n0_ := Aside0.mk (Kd.R_over' (by (with_reducible repeat (first | apply Kd.R_alloc | apply Kd.R_drewN | apply Kd.R_drew)); exact HO_9.out) (Kd.R_typed (by (with_reducible repeat (first | apply Kd.R_alloc | apply Kd.R_drewN | apply Kd.R_drew)); exact HO_7.out)) (by decide) hg); have n1_ := Aside0.mk (blk_grown (g := gb234) (o := .cells #[.int .i64 a0_0, .slice A0_1 l0_1.length c0_1, .int .i64 a0_2, .int .i64 a0_3, .slice A0_4 l0_4.length c0_4] 25 (0, 0)) (by (with_reducible repeat (first | refine blk_drewN ?_ _ | refine blk_drew ?_ | refine blk_alloc ?_ _)); exact BK234.out) hg (Kd.R_ne HO_7.out BK234.out (by decide))); have n2_ := Aside0.mk (hb); have n3_ := Aside0.mk (ho); clear HO_9; clear BK234; clear HB; clear HO_7; have HO_9 := n0_; have BK234 := n1_; have HB := n2_; have HO245 := n3_; clear n0_ n1_ n2_ n3_; clear ho hb hg hat))
          go_roundg k2
          case measure => have := HJ3.out; have := HK2.out; omega
          case rel => exact ⟨(y243), (wrap64 (x10_2 + 1)), (by first | rfl | (simp; done) | (simp [*]; done)), H', ⟨by have := HJ3.out; have := HK2.out; omega⟩, ⟨by (with_reducible repeat (first | apply Kd.R_alloc | apply Kd.R_drewN | apply Kd.R_drew)); exact HO245.out⟩, ⟨by (with_reducible repeat (first | apply Kd.R_alloc | apply Kd.R_drewN | apply Kd.R_drew)); exact HO_9.out⟩, ⟨by (with_reducible repeat (first | refine blk_drewN ?_ _ | refine blk_drew ?_ | refine blk_alloc ?_ _)); exact BK234.out⟩, ⟨by repeat (first | (with_reducible first | exact HB.out | apply below_alloc | apply pw_below_drewN | apply below_drew1 | refine below_set ?_ GE234.out) | exact HB.out)⟩⟩

end Go.Proofs.Ytaphbechnjmlgaa.P
namespace Go.Proofs.Ytaphbechnjmlgaa.P
open Go.RowKit Go.Proofs.YtaphbechnjmlgaaW.PrintWords Go.Proofs.YtaphbechnjmlgaaW.PrintLast Go.Proofs.YtaphbechnjmlgaaW.PrintMore
set_option linter.unusedVariables false
set_option linter.unusedSimpArgs false

theorem heap_range : Kd.Heap k52 := Kd.heap_iso _ (Kd.heap_pair (Kd.heap_int _) (Kd.heap_int _))
theorem heap_node : Kd.Heap k25 := Kd.heap_fix (fun _ h_ => Kd.heap_iso _ (Kd.heap_pair (Kd.heap_int _) (Kd.heap_pair (Kd.heap_slice 52 heap_range) (Kd.heap_pair (Kd.heap_int _) (Kd.heap_pair (Kd.heap_int _) (Kd.heap_slice 25 h_))))))
/-- How it stands: the tree in its block, what it leads to elsewhere; the ends in their own row. -/
structure ST (w W : World) (gx : Nat) (x : DNode) (cs : Array Value) : Prop where
  below : Below w.heap.size w W
  lo : w.heap.size ≤ gx
  blk : W.heap[gx]? = some (.cells cs 25 (0, 0))
  node : NodeF W (fun k => k ≠ gx) x (.agg cs)
abbrev EndsR (w W : World) (es : List Int) (S : Option Addr) (s : Nat) : Prop := SetR W w.heap.size es (.slice S es.length s)
theorem ST.more {w W W2 : World} {gx : Nat} {x : DNode} {cs : Array Value} (h : ST w W gx x cs) (hb : Below W.heap.size W W2) : ST w W2 gx x cs := ⟨below_step h.below hb, h.lo, blk_below h.blk hb, h.node.below hb⟩
theorem ST.store {w W : World} {gx : Nat} {x y : DNode} {cs : Array Value} (h : ST w W gx x cs) {d0 d1 d2 d3 d4 : Value} (hc : cs.size = 5) (hy : NodeF W (fun k => k ≠ gx) y (.agg #[d0, d1, d2, d3, d4])) :
    ST w (((((W.setCell ⟨gx, 0, none⟩ d0).setCell ⟨gx, 1, none⟩ d1).setCell ⟨gx, 2, none⟩ d2).setCell ⟨gx, 3, none⟩ d3).setCell ⟨gx, 4, none⟩ d4) gx y #[d0, d1, d2, d3, d4] := by
  obtain ⟨a, b, c, d, e, rfl⟩ : ∃ a b c d e, cs = #[a, b, c, d, e] := by
    obtain ⟨l⟩ := cs
    match l, hc with
    | [a, b, c, d, e], _ => exact ⟨a, b, c, d, e, rfl⟩
  exact ⟨below_set (below_set (below_set (below_set (below_set h.below h.lo) h.lo) h.lo) h.lo) h.lo, h.lo, blk_put (blk_put (blk_put (blk_put (blk_put h.blk 0 _ rfl) 1 _ rfl) 2 _ rfl) 3 _ rfl) 4 _ rfl,
    ((((hy.far (fun _ hk => hk) _).far (fun _ hk => hk) _).far (fun _ hk => hk) _).far (fun _ hk => hk) _).far (fun _ hk => hk) _⟩
theorem ends_store {w W : World} {gx : Nat} {cs : Array Value} {es : List Int} {S : Option Addr} {s : Nat} (h : EndsR w W es S s) (hb : W.heap[gx]? = some (.cells cs 25 (0, 0))) (j : Nat) (u : Value) : EndsR w (W.setCell ⟨gx, j, none⟩ u) es S s :=
  Kd.R_mono (ok' := fun _ => True) (Kd.R_set h hb (by decide) j u) (fun _ _ => trivial)
theorem ends_store5 {w W : World} {gx : Nat} {cs : Array Value} {es : List Int} {S : Option Addr} {s : Nat} (h : EndsR w W es S s) (hb : W.heap[gx]? = some (.cells cs 25 (0, 0))) (d0 d1 d2 d3 d4 : Value) :
    EndsR w (((((W.setCell ⟨gx, 0, none⟩ d0).setCell ⟨gx, 1, none⟩ d1).setCell ⟨gx, 2, none⟩ d2).setCell ⟨gx, 3, none⟩ d3).setCell ⟨gx, 4, none⟩ d4) es S s :=
  ends_store (ends_store (ends_store (ends_store (ends_store h hb 0 d0) (blk_put hb 0 _ rfl) 1 d1) (blk_put (blk_put hb 0 _ rfl) 1 _ rfl) 2 d2) (blk_put (blk_put (blk_put hb 0 _ rfl) 1 _ rfl) 2 _ rfl) 3 d3) (blk_put (blk_put (blk_put (blk_put hb 0 _ rfl) 1 _ rfl) 2 _ rfl) 3 _ rfl) 4 d4
/-- Is the next end here? -/
def isAt (es : List Int) (a i : Nat) : Bool := decide (a < es.length) && (rd es (a : Int) == (i : Int))
/-- From place i on the law goes on well, for d places. -/
def GoOn (k : Nat) (l es : List Int) : Nat → Nat → DNode → Nat → Prop
  | 0, _, _, _ => True
  | d + 1, i, x, a => ∃ wt, ductusref16_Weight.f k x.f0 x.f1 x.f2 x.f3 x.f4 0 = some wt ∧ (wt ≤ 500 → ∃ sz, ductusref16_Size.f k x.f0 x.f1 x.f2 x.f3 x.f4 = some sz ∧ (sz ≤ 25 →
      nullS ((i : Int) == 0) ((i : Int) == (l.length : Int)) k x = some (isAt es a i) ∧ (i < l.length → ∃ y, stepT k x (rd l (i : Int)) ((i : Int) == 0) = some y ∧ GoOn k l es d (i + 1) y (if isAt es a i = true then a + 1 else a))))
/-- What the parts of the law answer. -/
structure StepsOk (k : Nat) (x : DNode) (l : List Int) (from_ : Int) (sm : Bool) (es : List Int) : Prop where
  hsm : ductuslaw18_small.f k x.f0 x.f1 x.f2 x.f3 x.f4 l = some sm
  main : sm = true → l.length ≤ 12 → ∃ s : Nat, s ≤ l.length ∧ Int.tmod from_ ((l.length : Int) + 1) = (s : Int) ∧ ductusref18_Ends.f k x.f0 x.f1 x.f2 x.f3 x.f4 l (s : Int) = some es ∧ es.length ≤ 100 ∧ GoOn k l es (l.length + 1 - s) s x 0
theorem nodeF_of {w W : World} {gx : Nat} {x : DNode} {cs : Array Value} (h : NodeAt w x (.agg cs)) (hb : Below w.heap.size w W) (hg : w.heap.size ≤ gx) : NodeF W (fun k => k ≠ gx) x (.agg cs) := by
  obtain ⟨A1, c1, A4, c4, e, l1, g1, l4, g4⟩ := h
  exact NodeF.mono (NodeF.below ⟨A1, c1, A4, c4, e, l1, Kd.C_F heap_range g1, l4, Kd.C_F heap_node g4⟩ hb) (fun k hk => by have : k < w.heap.size := hk; omega)
set_option maxHeartbeats 16000000 in
set_option maxRecDepth 100000 in
theorem steps_calls (k : Nat) (x0 : Int) (A1 : Option Addr) (c1 : Nat) (x1 : List S52) (x2 x3 : Int) (A4 : Option Addr) (c4 : Nat) (x4 : List DNode) (A : Option Addr) (c : Nat) (l : List Int) (from_ : Int) (w : World)
    (hx1 : Kd.C k52 w A1 x1.length x1) (hc1 : x1.length ≤ c1) (hx4 : Kd.C k25 w A4 x4.length x4) (hc4 : x4.length ≤ c4) (hl : Kd.C (Kd.int .i64) w A l.length l) (hc : l.length ≤ c) (hfr : 0 ≤ from_ ∧ from_ ≤ 255)
    (sm : Bool) (es : List Int) (h : StepsOk k ⟨x0, x1, x2, x3, x4⟩ l from_ sm es) :
    Calls Try.prog 3 #[.agg #[.int .i64 x0, .slice A1 x1.length c1, .int .i64 x2, .int .i64 x3, .slice A4 x4.length c4], .slice A l.length c, .int .u8 from_] w fun e w' => e = .returned (.bool true) ∧ Below w.heap.size w w' := by
  have hu := Try.underlying25
  have HX1 := Aside0.mk hx1
  have HX4 := Aside0.mk hx4
  have HL0 := Aside0.mk hl
  have HLN := Aside0.mk (show x1.length ≤ c1 ∧ x4.length ≤ c4 ∧ l.length ≤ c from ⟨hc1, hc4, hc⟩)
  have HOK := Aside0.mk h
  have HFR := Aside0.mk hfr
  have HB := Aside0.mk (Below.refl w.heap.size w)
  clear hx1 hx4 hc1 hc4 hl hc h hfr
  go_enter Try.func3, Try.ntmps3
  go_upto_region 3 with (first
    | ((with_reducible refine gate_dst (N := 3) rfl ?_); (try (refine gate_guard (by rfl) ?_; dsimp only)); refine box_event ?hg (N := 3) ?hd (cs := #[.int .i64 x0, .slice A1 x1.length c1, .int .i64 x2, .int .i64 x3, .slice A4 x4.length c4]) (t := 25) ?hr ?_; (case hd => rfl); (case hg => rfl); (case hr => first | (go_simp; done) | (go_simp; rfl)); intro gx hg w1 hbox hb; have HB1 := Aside0.mk (below_step HB.out hb); have HGX := Aside0.mk (by rw [hg]; exact Nat.le_refl _ : w.heap.size ≤ gx); have HS1 := Aside0.mk (show ST w w1 gx ⟨x0, x1, x2, x3, x4⟩ #[.int .i64 x0, .slice A1 x1.length c1, .int .i64 x2, .int .i64 x3, .slice A4 x4.length c4] from ⟨HB1.out, HGX.out, hbox, nodeF_of ⟨A1, c1, A4, c4, rfl, HLN.out.1, HX1.out, HLN.out.2.1, HX4.out⟩ HB1.out HGX.out⟩); clear hb hbox hg HX1 HX4 HB HB1 HGX)
    | (go_at_call 7; (with_reducible refine (ductuslaw18_alive.calls true _ rfl).mono ?_); rintro e w3 ⟨rfl, hb⟩; have HS2 := Aside0.mk (HS1.out.more hb); clear hb HS1))
  (try simp only [Act.put, List.setIfInBounds_toArray, List.set_cons_zero, List.set_cons_succ])
  go_cut [22] (fun v22 wc => ∃ sk : Bool, v22 = .bool sk ∧ Aside0 (sk = false → sm = true ∧ l.length ≤ 12) ∧ Aside0 (ST w wc gx ⟨x0, x1, x2, x3, x4⟩ #[.int .i64 x0, .slice A1 x1.length c1, .int .i64 x2, .int .i64 x3, .slice A4 x4.length c4]))
  case first =>
    have z0 := blk_cell HS2.out.blk 0; have z1 := blk_cell HS2.out.blk 1; have z2 := blk_cell HS2.out.blk 2; have z3 := blk_cell HS2.out.blk 3; have z4 := blk_cell HS2.out.blk 4
    cases sm with
    | false =>
      go_wp2_with ((with_reducible refine gate_callee (f := 8) rfl ?_); (try (refine gate_guard (by rfl) ?_; dsimp only)); refine goesL_ (some 16) rfl rfl Try.func8 (by kernel_rfl) rfl #[.agg #[.int .i64 x0, .slice A1 x1.length c1, .int .i64 x2, .int .i64 x3, .slice A4 x4.length c4], .slice A l.length c] rfl (by (try simp only [List.map_toArray, List.map_cons, List.map_nil]); first | done | rfl) ?_; refine (small_node k HS2.out.node.now (Kd.C_below HL0.out HS2.out.below) HLN.out.2.2 HOK.out.hsm).mono ?_; rintro e w4 ⟨rfl, hb⟩; refine ⟨_, rfl, ?_⟩; have HS4 := Aside0.mk (HS2.out.more hb); clear hb)
      go_meet
      case rel => exact ⟨true, (by first | rfl | (simp [*]; done)), ⟨fun h => by cases h⟩, HS4⟩
    | true =>
      by_cases k0 : l.length > 12
      · have e0 : decide (12 < (l.length : Int)) = true := decide_eq_true (by omega)
        go_wp2_with ((with_reducible refine gate_callee (f := 8) rfl ?_); (try (refine gate_guard (by rfl) ?_; dsimp only)); refine goesL_ (some 16) rfl rfl Try.func8 (by kernel_rfl) rfl #[.agg #[.int .i64 x0, .slice A1 x1.length c1, .int .i64 x2, .int .i64 x3, .slice A4 x4.length c4], .slice A l.length c] rfl (by (try simp only [List.map_toArray, List.map_cons, List.map_nil]); first | done | rfl) ?_; refine (small_node k HS2.out.node.now (Kd.C_below HL0.out HS2.out.below) HLN.out.2.2 HOK.out.hsm).mono ?_; rintro e w4 ⟨rfl, hb⟩; refine ⟨_, rfl, ?_⟩; have HS4 := Aside0.mk (HS2.out.more hb); clear hb)
        go_meet
        case rel => exact ⟨true, (by first | rfl | (simp [*]; done)), ⟨fun h => by cases h⟩, HS4⟩
      · have e0 : decide (12 < (l.length : Int)) = false := decide_eq_false (by omega)
        go_wp2_with ((with_reducible refine gate_callee (f := 8) rfl ?_); (try (refine gate_guard (by rfl) ?_; dsimp only)); refine goesL_ (some 16) rfl rfl Try.func8 (by kernel_rfl) rfl #[.agg #[.int .i64 x0, .slice A1 x1.length c1, .int .i64 x2, .int .i64 x3, .slice A4 x4.length c4], .slice A l.length c] rfl (by (try simp only [List.map_toArray, List.map_cons, List.map_nil]); first | done | rfl) ?_; refine (small_node k HS2.out.node.now (Kd.C_below HL0.out HS2.out.below) HLN.out.2.2 HOK.out.hsm).mono ?_; rintro e w4 ⟨rfl, hb⟩; refine ⟨_, rfl, ?_⟩; have HS4 := Aside0.mk (HS2.out.more hb); clear hb)
        go_meet
        case rel => exact ⟨false, (by first | rfl | (simp [*]; done)), ⟨fun _ => ⟨by simp, by omega⟩⟩, HS4⟩
  case rest =>
    clear HS2
    obtain ⟨sk, rfl, HSK, HS⟩ := hcut
    cases sk with
    | true =>
      go_wp2
      go_ret
      exact ⟨rfl, HS.out.below⟩
    | false =>
      obtain ⟨m1, m2⟩ := HSK.out rfl
      obtain ⟨s, q1, q2, q3, q4, q5⟩ := HOK.out.main m1 m2
      have HL12 := Aside0.mk m2
      have Q1 := Aside0.mk q1
      have Q3 := Aside0.mk q3
      have Q4 := Aside0.mk q4
      have Q5 := Aside0.mk q5
      have hw0 : wrap64 from_ = from_ := by have := HFR.out; unfold wrap64; omega
      have hw1 : wrap64 ((l.length : Int) + 1) = (l.length : Int) + 1 := (sn_wrap l.length (by omega)).trans (by omega)
      have hn1 : ((l.length : Int) + 1 == 0) = false := beq_eq_false_iff_ne.mpr (by omega)
      have hn2 : ((l.length : Int) + 1 = 0) = False := eq_false (by omega)
      clear q1 q3 q4 q5 m1 m2 HSK HOK
      have z0 := blk_cell HS.out.blk 0; have z1 := blk_cell HS.out.blk 1; have z2 := blk_cell HS.out.blk 2; have z3 := blk_cell HS.out.blk 3; have z4 := blk_cell HS.out.blk 4
      go_upto_region 6 with (fail)
      go_wp2_with ((with_reducible refine gate_callee (f := 9) rfl ?_); (try (refine gate_guard (by rfl) ?_; dsimp only)); refine goesL_ (some 32) rfl rfl Try.func9 (by kernel_rfl) rfl #[.agg #[.int .i64 x0, .slice A1 x1.length c1, .int .i64 x2, .int .i64 x3, .slice A4 x4.length c4], .slice A l.length c, .int .i64 (s : Int)] rfl (by (try simp only [List.map_toArray, List.map_cons, List.map_nil]); first | done | rfl) ?_; refine (ductusref18_Ends.calls k x0 A1 c1 x1 x2 x3 A4 c4 x4 A c l (s : Int) es _ (by obtain ⟨_, _, _, _, e, r1, r2, r3, r4⟩ := HS.out.node.now; cases e; exact r2) HLN.out.1 (by obtain ⟨_, _, _, _, e, r1, r2, r3, r4⟩ := HS.out.node.now; cases e; exact r4) HLN.out.2.1 (Kd.C_below HL0.out HS.out.below) HLN.out.2.2 Q3.out).mono ?_; rintro e_ w6 ⟨v6, rfl, hr6, hb6⟩; refine ⟨_, rfl, ?_⟩; obtain ⟨S0, s0, e6⟩ := Kd.R_slice hr6; subst e6; have HS6 := Aside0.mk (HS.out.more hb6); have HE6 := Aside0.mk (show EndsR w w6 es S0 s0 from Kd.R_lower hr6 HS.out.below.size); clear hr6 hb6)
      clear z0 z1 z2 z3 z4 HS q2 hw0 hw1 hn1 hn2
      go_loopw [9, 10] (fun s9 s10 wx => ∃ (i a : Nat) (y : DNode) (cs : Array Value), s9 = .int .i64 (a : Int) ∧ s10 = .int .i64 (i : Int) ∧ i ≤ l.length + 1 ∧ a ≤ i ∧ Aside0 (GoOn k l es (l.length + 1 - i) i y a) ∧ Aside0 (ST w wx gx y cs) ∧ Aside0 (EndsR w wx es S0 s0)) (fun _ s10 _ => l.length + 1 - (intOf s10).toNat)
      case atStart => exact ⟨s, 0, _, _, rfl, rfl, by have := Q1.out; omega, by omega, Q5, HS6, HE6⟩
      case round =>
        clear Q5 HS6 HE6
        obtain ⟨i, a, y, cs, rfl, rfl, hi, hai, HG, HS, HE⟩ := hrel
        have hnd := HS.out.node
        obtain ⟨B1, d1, B4, d4, e, l1, F1, l4, F4⟩ := hnd
        cases e
        obtain ⟨y0, y1, y2, y3, y4⟩ := y
        dsimp only at l1 F1 l4 F4 HS
        have HF := Aside0.mk (And.intro l1 (And.intro F1 (And.intro l4 F4)))
        clear l1 F1 l4 F4
        have HAI := Aside0.mk (And.intro hi hai)
        have z0 := blk_cell HS.out.blk 0; have z1 := blk_cell HS.out.blk 1; have z2 := blk_cell HS.out.blk 2; have z3 := blk_cell HS.out.blk 3; have z4 := blk_cell HS.out.blk 4
        by_cases hlt : i ≤ l.length
        rotate_left
        · have hn : i = l.length + 1 := by omega
          subst hn
          have u1 : decide ((l.length : Int) + 1 ≤ (l.length : Int)) = false := decide_eq_false (by omega)
          have u1n : decide (l.length + 1 ≤ l.length) = false := decide_eq_false (by omega)
          clear hlt hi hai
          go_wp2
          go_ret
          exact ⟨rfl, HS.out.below⟩
        have HLI := Aside0.mk hlt
        have u1 : decide ((i : Int) ≤ (l.length : Int)) = true := decide_eq_true (by omega)
        have u1n : decide (i ≤ l.length) = true := decide_eq_true hlt
        have hg := HG.out
        obtain ⟨d, hd⟩ : ∃ d, l.length + 1 - i = d + 1 := ⟨l.length - i, by omega⟩
        rw [hd] at hg
        rw [GoOn] at hg
        obtain ⟨wt, hwt, hg⟩ := hg
        have HD := Aside0.mk hd
        have HWT := Aside0.mk hwt
        clear hd hwt HG hi hai hlt
        by_cases kw : wt ≤ 500
        rotate_left
        · have v1 : decide (wt ≤ 500) = false := decide_eq_false kw
          clear hg kw
          go_wp2_with ((with_reducible refine gate_callee (f := 10) rfl ?_); (try (refine gate_guard (by rfl) ?_; dsimp only)); refine goesL_ (some 40) rfl rfl Try.func10 (by kernel_rfl) rfl #[.agg #[.int .i64 y0, .slice B1 y1.length d1, .int .i64 y2, .int .i64 y3, .slice B4 y4.length d4], .int .i64 0] rfl (by (try simp only [List.map_toArray, List.map_cons, List.map_nil]); first | done | rfl) ?_; refine (ductusref16_Weight.calls k y0 B1 d1 y1 y2 y3 B4 d4 y4 0 wt _ (Kd.F_now HF.out.2.1) HF.out.1 (Kd.F_now HF.out.2.2.2) HF.out.2.2.1 HWT.out).mono ?_; rintro e_ w5 ⟨rfl, hb⟩; refine ⟨_, rfl, ?_⟩; have HS5 := Aside0.mk (HS.out.more hb); have HE5 := Aside0.mk (Kd.R_below HE.out hb); have y0_ := blk_cell HS5.out.blk 0; have y1_ := blk_cell HS5.out.blk 1; have y2_ := blk_cell HS5.out.blk 2; have y3_ := blk_cell HS5.out.blk 3; have y4_ := blk_cell HS5.out.blk 4; clear hb)
          go_ret
          exact ⟨rfl, HS5.out.below⟩
        have v1 : decide (wt ≤ 500) = true := decide_eq_true kw
        obtain ⟨sz, hsz, hg⟩ := hg kw
        have HSZ := Aside0.mk hsz
        clear hsz kw
        by_cases ks : sz ≤ 25
        rotate_left
        · have v2 : decide (sz ≤ 25) = false := decide_eq_false ks
          clear hg ks
          go_wp2_with (first | ((with_reducible refine gate_callee (f := 10) rfl ?_); (try (refine gate_guard (by rfl) ?_; dsimp only)); refine goesL_ (some 40) rfl rfl Try.func10 (by kernel_rfl) rfl #[.agg #[.int .i64 y0, .slice B1 y1.length d1, .int .i64 y2, .int .i64 y3, .slice B4 y4.length d4], .int .i64 0] rfl (by (try simp only [List.map_toArray, List.map_cons, List.map_nil]); first | done | rfl) ?_; refine (ductusref16_Weight.calls k y0 B1 d1 y1 y2 y3 B4 d4 y4 0 wt _ (Kd.F_now HF.out.2.1) HF.out.1 (Kd.F_now HF.out.2.2.2) HF.out.2.2.1 HWT.out).mono ?_; rintro e_ w5 ⟨rfl, hb⟩; refine ⟨_, rfl, ?_⟩; have HS5 := Aside0.mk (HS.out.more hb); have HE5 := Aside0.mk (Kd.R_below HE.out hb); have y0_ := blk_cell HS5.out.blk 0; have y1_ := blk_cell HS5.out.blk 1; have y2_ := blk_cell HS5.out.blk 2; have y3_ := blk_cell HS5.out.blk 3; have y4_ := blk_cell HS5.out.blk 4; clear hb) | ((with_reducible refine gate_callee (f := 11) rfl ?_); (try (refine gate_guard (by rfl) ?_; dsimp only)); refine goesL_ (some 45) rfl rfl Try.func11 (by kernel_rfl) rfl #[.agg #[.int .i64 y0, .slice B1 y1.length d1, .int .i64 y2, .int .i64 y3, .slice B4 y4.length d4]] rfl (by (try simp only [List.map_toArray, List.map_cons, List.map_nil]); first | done | rfl) ?_; refine (size_node k HS5.out.node.now HSZ.out).mono ?_; rintro e_ w6 ⟨rfl, hb⟩; refine ⟨_, rfl, ?_⟩; have HS6 := Aside0.mk (HS5.out.more hb); have HE6 := Aside0.mk (Kd.R_below HE5.out hb); clear hb))
          go_ret
          exact ⟨rfl, HS6.out.below⟩
        have v2 : decide (sz ≤ 25) = true := decide_eq_true ks
        obtain ⟨hnu, hgo⟩ := hg ks
        have HNU := Aside0.mk hnu
        have HGO := Aside0.mk hgo
        clear hnu hgo hg ks
        go_upto_region 11 with (first | ((with_reducible refine gate_callee (f := 10) rfl ?_); (try (refine gate_guard (by rfl) ?_; dsimp only)); refine goesL_ (some 40) rfl rfl Try.func10 (by kernel_rfl) rfl #[.agg #[.int .i64 y0, .slice B1 y1.length d1, .int .i64 y2, .int .i64 y3, .slice B4 y4.length d4], .int .i64 0] rfl (by (try simp only [List.map_toArray, List.map_cons, List.map_nil]); first | done | rfl) ?_; refine (ductusref16_Weight.calls k y0 B1 d1 y1 y2 y3 B4 d4 y4 0 wt _ (Kd.F_now HF.out.2.1) HF.out.1 (Kd.F_now HF.out.2.2.2) HF.out.2.2.1 HWT.out).mono ?_; rintro e_ w5 ⟨rfl, hb⟩; refine ⟨_, rfl, ?_⟩; have HS5 := Aside0.mk (HS.out.more hb); have HE5 := Aside0.mk (Kd.R_below HE.out hb); have y0_ := blk_cell HS5.out.blk 0; have y1_ := blk_cell HS5.out.blk 1; have y2_ := blk_cell HS5.out.blk 2; have y3_ := blk_cell HS5.out.blk 3; have y4_ := blk_cell HS5.out.blk 4; clear hb) | ((with_reducible refine gate_callee (f := 11) rfl ?_); (try (refine gate_guard (by rfl) ?_; dsimp only)); refine goesL_ (some 45) rfl rfl Try.func11 (by kernel_rfl) rfl #[.agg #[.int .i64 y0, .slice B1 y1.length d1, .int .i64 y2, .int .i64 y3, .slice B4 y4.length d4]] rfl (by (try simp only [List.map_toArray, List.map_cons, List.map_nil]); first | done | rfl) ?_; refine (size_node k HS5.out.node.now HSZ.out).mono ?_; rintro e_ w6 ⟨rfl, hb⟩; refine ⟨_, rfl, ?_⟩; have HS6 := Aside0.mk (HS5.out.more hb); have HE6 := Aside0.mk (Kd.R_below HE5.out hb); clear hb))
        clear z0 z1 z2 z3 z4 y0_ y1_ y2_ y3_ y4_ HS5 HE5 HS
        obtain ⟨W, hW⟩ : ∃ W : World, W = w6 := ⟨_, rfl⟩
        rw [← hW] at HS6 HE6 ⊢
        clear hW HE
        obtain ⟨is, his⟩ : ∃ b, isAt es a i = b := ⟨_, rfl⟩
        rw [his] at HNU HGO
        go_cut [11] (fun v11 wc => v11 = .bool is ∧ wc = W)
        case first =>
          by_cases ka : a < es.length
          · obtain ⟨ad, ee, h0⟩ := Kd.at_int (Kd.R_reads' HE6.out).2.2 (a : Int) (by omega) (by omega)
            cases ee
            rw [Int.toNat_natCast] at h0
            have p1 : decide ((a : Int) < (es.length : Int)) = true := decide_eq_true (by omega)
            have p2 : ((0 : Int) ≤ (a : Int)) = True := eq_true (by omega)
            have p3 : ((a : Int) < (es.length : Int)) = True := eq_true (by omega)
            have his2 : (rd es (a : Int) == (i : Int)) = is := by
              rw [← his, isAt, decide_eq_true ka, Bool.true_and]
            clear his ka
            go_wp2
            go_meet
            case rel => exact ⟨by first | rfl | (simp [*]; done) | (rw [his2]), rfl⟩
          · have p1 : decide ((a : Int) < (es.length : Int)) = false := decide_eq_false (by omega)
            have p1n : decide (a < es.length) = false := decide_eq_false ka
            have p3n : ((a : Int) < (es.length : Int)) = False := eq_false (by omega)
            have p4n : (a < es.length) = False := eq_false ka
            have his2 : is = false := by rw [← his, isAt, decide_eq_false ka, Bool.false_and]
            subst his2
            clear his ka
            go_wp2
            go_meet
            case rel => exact ⟨by first | rfl | (simp [*]; done), rfl⟩
        case rest =>
          obtain ⟨rfl, rfl⟩ := hcut
          cases is with
          | false =>
            have hwa := sn_wrap a (by have := HAI.out; have := HL12.out; omega)
            obtain ⟨st, hst⟩ : ∃ b, ((i : Int) == 0) = b := ⟨_, rfl⟩
            obtain ⟨sp, hsp⟩ : ∃ b, ((i : Int) == (l.length : Int)) = b := ⟨_, rfl⟩
            have hstn : (i == 0) = st := by rw [← hst]; rw [Bool.eq_iff_iff, beq_iff_eq, beq_iff_eq]; omega
            have hspn : (i == l.length) = sp := by rw [← hsp]; rw [Bool.eq_iff_iff, beq_iff_eq, beq_iff_eq]; omega
            have HNU2 := Aside0.mk (show nullS st sp k ⟨y0, y1, y2, y3, y4⟩ = some false by rw [← hst, ← hsp]; exact HNU.out)
            have z0 := blk_cell HS6.out.blk 0; have z1 := blk_cell HS6.out.blk 1; have z2 := blk_cell HS6.out.blk 2; have z3 := blk_cell HS6.out.blk 3; have z4 := blk_cell HS6.out.blk 4
            go_upto_region 16 with ((with_reducible refine gate_callee (f := 12) rfl ?_); (try (refine gate_guard (by rfl) ?_; dsimp only)); refine goesL_ (some 72) rfl rfl Try.func12 (by kernel_rfl) rfl #[.agg #[.int .i64 y0, .slice B1 y1.length d1, .int .i64 y2, .int .i64 y3, .slice B4 y4.length d4], .bool st, .bool sp] rfl (by (try simp only [List.map_toArray, List.map_cons, List.map_nil]); first | done | rfl) ?_; refine (null_calls st sp k ⟨y0, y1, y2, y3, y4⟩ (.agg #[.int .i64 y0, .slice B1 y1.length d1, .int .i64 y2, .int .i64 y3, .slice B4 y4.length d4]) false _ HS6.out.node.now HNU2.out).mono ?_; rintro e_ w7 ⟨rfl, hb⟩; refine ⟨_, rfl, ?_⟩; have HS7 := Aside0.mk (HS6.out.more hb); have HE7 := Aside0.mk (Kd.R_below HE6.out hb); clear hb)
            clear z0 z1 z2 z3 z4
            by_cases kl : i < l.length
            rotate_left
            · have w1 : decide ((i : Int) < (l.length : Int)) = false := decide_eq_false (by omega)
              have w1n : decide (i < l.length) = false := decide_eq_false kl
              have hw := sn_wrap i (by have := HAI.out; have := HL12.out; omega)
              have HKL := Aside0.mk kl
              clear kl
              go_wp2
              refine ⟨⟨i + 1, a, _, _, by first | (rw [hwa]; done) | rfl | simp, by first | (rw [hw]; done) | rfl | simp, by have := HLI.out; omega, by have := HAI.out; omega, ⟨by have h1 : l.length + 1 - (i + 1) = 0 := (by have := HKL.out; omega); rw [h1]; trivial⟩, ⟨HS7.out⟩, ⟨HE7.out⟩⟩, ?_⟩
              first | (rw [hw]) | skip
              show l.length + 1 - _ < l.length + 1 - _
              have := HLI.out
              simp only [intOf, Int.toNat_natCast]
              omega
            obtain ⟨yy, hyy, hgo⟩ := HGO.out kl
            obtain ⟨z0, z1, z2, z3, z4⟩ := yy
            rw [hst] at hyy
            have HSTP := Aside0.mk hyy
            have HGO2 := Aside0.mk hgo
            obtain ⟨ch, hch⟩ : ∃ q, rd l (i : Int) = q := ⟨_, rfl⟩
            rw [hch] at HSTP
            have HCH := Aside0.mk hch
            have w1 : decide ((i : Int) < (l.length : Int)) = true := decide_eq_true (by omega)
            have w1n : decide (i < l.length) = true := decide_eq_true kl
            have w2 : ((0 : Int) ≤ (i : Int)) = True := eq_true (by omega)
            have w3 : ((i : Int) < (l.length : Int)) = True := eq_true (by omega)
            have HKL := Aside0.mk kl
            clear hyy hgo hch kl
            obtain ⟨al, eal, hq0⟩ := Kd.at_int HL0.out (i : Int) (by omega) (by have := HKL.out; omega)
            cases eal
            clear hq0
            go_upto_region 17 with (fail)
            have HBD := Aside0.mk (HS7.out.more (below_drew1 (Below.refl w7.heap.size w7)))
            have HED := Aside0.mk (Kd.R_below HE7.out (below_drew1 (Below.refl w7.heap.size w7)))
            refine start_ (n := 9) (S := fun w' => ST w w' gx ⟨y0, y1, y2, y3, y4⟩ #[.int .i64 y0, .slice B1 y1.length d1, .int .i64 y2, .int .i64 y3, .slice B4 y4.length d4]) (ds := [8]) #[false, false, false, false, false, false, false, false, false] (by kernel_rfl) rfl rfl HBD.out (fun hHeld => ?_)
            generalize w7.drew = k0 at hHeld HED ⊢
            clear HBD
            refine take_ (i := 0) (N := some 79) (v := ?_) (a' := ?_) #[true, false, false, false, false, false, false, false, false] rfl rfl (by kernel_rfl) (fun _ _ _ h => h) (Or.inl ⟨by rfl, ?_⟩) hHeld ?_ ?_
            rotate_left
            · rintro w' hS
              have a0 := blk_cell hS.blk 0
              have a1 := blk_cell hS.blk 1
              have a2 := blk_cell hS.blk 2
              have a3 := blk_cell hS.blk 3
              have a4 := blk_cell hS.blk 4
              go_simp
              with_reducible rfl
            rotate_left
            · simp only [Act.put, List.setIfInBounds_toArray, List.set_cons_zero, List.set_cons_succ, i64_w, i32_w, hst, hstn]
              rfl
            refine pure_ (i := 1) (N := some 80) (v := ?_) (a' := ?_) #[true, true, false, false, false, false, false, false, false] rfl rfl (by kernel_rfl) (fun _ _ _ h => h) (Or.inl ⟨by rfl, ?_⟩) ?_ ?_
            rotate_left
            · intro w'
              go_simp
              with_reducible rfl
            rotate_left
            · simp only [Act.put, List.setIfInBounds_toArray, List.set_cons_zero, List.set_cons_succ, i64_w, i32_w, hst, hstn]
              rfl
            refine pure_ (i := 2) (N := some 81) (v := ?_) (a' := ?_) #[true, true, true, false, false, false, false, false, false] rfl rfl (by kernel_rfl) (fun _ _ _ h => h) (Or.inl ⟨by rfl, ?_⟩) ?_ ?_
            rotate_left
            · intro w'
              go_simp
              with_reducible rfl
            rotate_left
            · simp only [Act.put, List.setIfInBounds_toArray, List.set_cons_zero, List.set_cons_succ, i64_w, i32_w, hst, hstn]
              rfl
            refine pure_ (i := 3) (N := some 82) (v := ?_) (a' := ?_) #[true, true, true, true, false, false, false, false, false] rfl rfl (by kernel_rfl) (fun _ _ _ h => h) (Or.inl ⟨by rfl, ?_⟩) ?_ ?_
            rotate_left
            · intro w'
              go_simp
              with_reducible rfl
            rotate_left
            · simp only [Act.put, List.setIfInBounds_toArray, List.set_cons_zero, List.set_cons_succ, i64_w, i32_w, hst, hstn]
              rfl
            refine take_ (i := 4) (N := some 83) (v := ?_) (a' := ?_) #[true, true, true, true, true, false, false, false, false] rfl rfl (by kernel_rfl) (fun _ _ _ h => h) (Or.inl ⟨by rfl, ?_⟩) hHeld ?_ ?_
            rotate_left
            · rintro w' hS
              obtain ⟨cq, ecq, q0⟩ := Kd.at_int (Kd.C_below HL0.out hS.below) (i : Int) (by omega) (by have := HKL.out; omega)
              cases ecq
              rw [Int.toNat_natCast, HCH.out] at q0
              go_simp
              with_reducible rfl
            rotate_left
            · simp only [Act.put, List.setIfInBounds_toArray, List.set_cons_zero, List.set_cons_succ, i64_w, i32_w, hst, hstn]
              rfl
            refine pure_ (i := 5) (N := some 84) (v := ?_) (a' := ?_) #[true, true, true, true, true, true, false, false, false] rfl rfl (by kernel_rfl) (fun _ _ _ h => h) (Or.inl ⟨by rfl, ?_⟩) ?_ ?_
            rotate_left
            · intro w'
              go_simp
              with_reducible rfl
            rotate_left
            · simp only [Act.put, List.setIfInBounds_toArray, List.set_cons_zero, List.set_cons_succ, i64_w, i32_w, hst, hstn]
              rfl
            refine pure_ (i := 6) (N := some 85) (v := ?_) (a' := ?_) #[true, true, true, true, true, true, true, false, false] rfl rfl (by kernel_rfl) (fun _ _ _ h => h) (Or.inl ⟨by rfl, ?_⟩) ?_ ?_
            rotate_left
            · intro w'
              go_simp
              with_reducible rfl
            rotate_left
            · simp only [Act.put, List.setIfInBounds_toArray, List.set_cons_zero, List.set_cons_succ, i64_w, i32_w, hst, hstn]
              rfl
            refine one_ (i := 7) (N := some 86) #[true, true, true, true, true, true, true, true, false] rfl rfl (by kernel_rfl) (by decide) (fun K hK => ?_)
            refine goes_ Try.func13 (by kernel_rfl) rfl #[.agg #[.int .i64 y0, .slice B1 y1.length d1, .int .i64 y2, .int .i64 y3, .slice B4 y4.length d4], .int .i64 ch, .bool st] (by rfl) rfl rfl (by (try simp only [List.map_toArray, List.map_cons, List.map_nil]); rfl) ?_
            refine (stepT_calls k ch st (fun k => k ≠ gx) y0 B1 d1 y1 y2 y3 B4 d4 y4 k0 ⟨z0, z1, z2, z3, z4⟩ (by obtain ⟨_, _, _, _, e, r1, r2, r3, r4⟩ := hHeld.node; cases e; exact r1) (by obtain ⟨_, _, _, _, e, r1, r2, r3, r4⟩ := hHeld.node; cases e; exact r2) (by obtain ⟨_, _, _, _, e, r1, r2, r3, r4⟩ := hHeld.node; cases e; exact r3) (by obtain ⟨_, _, _, _, e, r1, r2, r3, r4⟩ := hHeld.node; cases e; exact r4) HSTP.out).mono ?_
            rintro e_ k1 ⟨rv, rfl, hN, hb⟩
            refine ⟨_, rfl, ?_⟩
            have HN2 := Aside0.mk (NodeF.mono hN (P' := fun k => k ≠ gx) (fun k hk => by have := blk_lt hHeld.blk; rcases hk with hk | hk; exact hk; omega))
            have HEK := Aside0.mk (Kd.R_below HED.out hb)
            refine hK.out _ _ (hHeld.more hb) (fun hHeld => ?_)
            clear hK K hb hN HED
            refine norm_ (a' := ?_) ?_ ?_
            rotate_left
            · show Act.put _ (some 86) _ = _
              simp only [Act.put, List.setIfInBounds_toArray, List.set_cons_zero, List.set_cons_succ, i64_w, i32_w]
              rfl
            have hn2 := HN2.out
            obtain ⟨D1, b1, D4, b4, e, r1, r2, r3, r4⟩ := hn2
            subst e
            clear r1 r2 r3 r4
            have a0 := blk_cell hHeld.blk 0
            have f0 := blk_frozen hHeld.blk 0
            have a1 := blk_cell hHeld.blk 1
            have f1 := blk_frozen hHeld.blk 1
            have a2 := blk_cell hHeld.blk 2
            have f2 := blk_frozen hHeld.blk 2
            have a3 := blk_cell hHeld.blk 3
            have f3 := blk_frozen hHeld.blk 3
            have a4 := blk_cell hHeld.blk 4
            have f4 := blk_frozen hHeld.blk 4
            refine last_ (i := 8) (N := none) #[true, true, true, true, true, true, true, true, true] rfl rfl (by kernel_rfl) (by decide) (fun K hK => ?_)
            refine skip_ (w1 := ?_) (by rfl) rfl ?_ ?_
            rotate_left
            · go_simp
              rfl
            refine hK.out _ _ ?_
            clear hK K
            refine done_ (by kernel_rfl) ?_
            have HS8 := Aside0.mk (hHeld.store rfl HN2.out)
            have HE8 := Aside0.mk (ends_store5 HEK.out hHeld.blk (.int .i64 z0) (.slice D1 z1.length b1) (.int .i64 z2) (.int .i64 z3) (.slice D4 z4.length b4))
            have hw := sn_wrap i (by have := HAI.out; have := HL12.out; omega)
            clear a0 a1 a2 a3 a4 f0 f1 f2 f3 f4 hHeld
            go_wp2
            refine ⟨⟨i + 1, a, _, _, by first | (rw [hwa]; done) | rfl | simp, by first | (rw [hw]; done) | rfl | simp, by have := HLI.out; omega, by have := HAI.out; omega, ⟨by have h1 : l.length + 1 - (i + 1) = d := (by have := HD.out; omega); rw [h1]; exact HGO2.out⟩, ⟨HS8.out⟩, ⟨HE8.out⟩⟩, ?_⟩
            first | (rw [hw]) | skip
            show l.length + 1 - _ < l.length + 1 - _
            have := HLI.out
            simp only [intOf, Int.toNat_natCast]
            omega
          | true =>
            have hwa := sn_wrap a (by have := HAI.out; have := HL12.out; omega)
            obtain ⟨st, hst⟩ : ∃ b, ((i : Int) == 0) = b := ⟨_, rfl⟩
            obtain ⟨sp, hsp⟩ : ∃ b, ((i : Int) == (l.length : Int)) = b := ⟨_, rfl⟩
            have hstn : (i == 0) = st := by rw [← hst]; rw [Bool.eq_iff_iff, beq_iff_eq, beq_iff_eq]; omega
            have hspn : (i == l.length) = sp := by rw [← hsp]; rw [Bool.eq_iff_iff, beq_iff_eq, beq_iff_eq]; omega
            have HNU2 := Aside0.mk (show nullS st sp k ⟨y0, y1, y2, y3, y4⟩ = some true by rw [← hst, ← hsp]; exact HNU.out)
            have z0 := blk_cell HS6.out.blk 0; have z1 := blk_cell HS6.out.blk 1; have z2 := blk_cell HS6.out.blk 2; have z3 := blk_cell HS6.out.blk 3; have z4 := blk_cell HS6.out.blk 4
            go_upto_region 16 with ((with_reducible refine gate_callee (f := 12) rfl ?_); (try (refine gate_guard (by rfl) ?_; dsimp only)); refine goesL_ (some 72) rfl rfl Try.func12 (by kernel_rfl) rfl #[.agg #[.int .i64 y0, .slice B1 y1.length d1, .int .i64 y2, .int .i64 y3, .slice B4 y4.length d4], .bool st, .bool sp] rfl (by (try simp only [List.map_toArray, List.map_cons, List.map_nil]); first | done | rfl) ?_; refine (null_calls st sp k ⟨y0, y1, y2, y3, y4⟩ (.agg #[.int .i64 y0, .slice B1 y1.length d1, .int .i64 y2, .int .i64 y3, .slice B4 y4.length d4]) true _ HS6.out.node.now HNU2.out).mono ?_; rintro e_ w7 ⟨rfl, hb⟩; refine ⟨_, rfl, ?_⟩; have HS7 := Aside0.mk (HS6.out.more hb); have HE7 := Aside0.mk (Kd.R_below HE6.out hb); clear hb)
            clear z0 z1 z2 z3 z4
            by_cases kl : i < l.length
            rotate_left
            · have w1 : decide ((i : Int) < (l.length : Int)) = false := decide_eq_false (by omega)
              have w1n : decide (i < l.length) = false := decide_eq_false kl
              have hw := sn_wrap i (by have := HAI.out; have := HL12.out; omega)
              have HKL := Aside0.mk kl
              clear kl
              go_wp2
              refine ⟨⟨i + 1, a + 1, _, _, by first | (rw [hwa]; done) | rfl | simp, by first | (rw [hw]; done) | rfl | simp, by have := HLI.out; omega, by have := HAI.out; omega, ⟨by have h1 : l.length + 1 - (i + 1) = 0 := (by have := HKL.out; omega); rw [h1]; trivial⟩, ⟨HS7.out⟩, ⟨HE7.out⟩⟩, ?_⟩
              first | (rw [hw]) | skip
              show l.length + 1 - _ < l.length + 1 - _
              have := HLI.out
              simp only [intOf, Int.toNat_natCast]
              omega
            obtain ⟨yy, hyy, hgo⟩ := HGO.out kl
            obtain ⟨z0, z1, z2, z3, z4⟩ := yy
            rw [hst] at hyy
            have HSTP := Aside0.mk hyy
            have HGO2 := Aside0.mk hgo
            obtain ⟨ch, hch⟩ : ∃ q, rd l (i : Int) = q := ⟨_, rfl⟩
            rw [hch] at HSTP
            have HCH := Aside0.mk hch
            have w1 : decide ((i : Int) < (l.length : Int)) = true := decide_eq_true (by omega)
            have w1n : decide (i < l.length) = true := decide_eq_true kl
            have w2 : ((0 : Int) ≤ (i : Int)) = True := eq_true (by omega)
            have w3 : ((i : Int) < (l.length : Int)) = True := eq_true (by omega)
            have HKL := Aside0.mk kl
            clear hyy hgo hch kl
            obtain ⟨al, eal, hq0⟩ := Kd.at_int HL0.out (i : Int) (by omega) (by have := HKL.out; omega)
            cases eal
            clear hq0
            go_upto_region 17 with (fail)
            have HBD := Aside0.mk (HS7.out.more (below_drew1 (Below.refl w7.heap.size w7)))
            have HED := Aside0.mk (Kd.R_below HE7.out (below_drew1 (Below.refl w7.heap.size w7)))
            refine start_ (n := 9) (S := fun w' => ST w w' gx ⟨y0, y1, y2, y3, y4⟩ #[.int .i64 y0, .slice B1 y1.length d1, .int .i64 y2, .int .i64 y3, .slice B4 y4.length d4]) (ds := [8]) #[false, false, false, false, false, false, false, false, false] (by kernel_rfl) rfl rfl HBD.out (fun hHeld => ?_)
            generalize w7.drew = k0 at hHeld HED ⊢
            clear HBD
            refine take_ (i := 0) (N := some 79) (v := ?_) (a' := ?_) #[true, false, false, false, false, false, false, false, false] rfl rfl (by kernel_rfl) (fun _ _ _ h => h) (Or.inl ⟨by rfl, ?_⟩) hHeld ?_ ?_
            rotate_left
            · rintro w' hS
              have a0 := blk_cell hS.blk 0
              have a1 := blk_cell hS.blk 1
              have a2 := blk_cell hS.blk 2
              have a3 := blk_cell hS.blk 3
              have a4 := blk_cell hS.blk 4
              go_simp
              with_reducible rfl
            rotate_left
            · simp only [Act.put, List.setIfInBounds_toArray, List.set_cons_zero, List.set_cons_succ, i64_w, i32_w, hst, hstn]
              rfl
            refine pure_ (i := 1) (N := some 80) (v := ?_) (a' := ?_) #[true, true, false, false, false, false, false, false, false] rfl rfl (by kernel_rfl) (fun _ _ _ h => h) (Or.inl ⟨by rfl, ?_⟩) ?_ ?_
            rotate_left
            · intro w'
              go_simp
              with_reducible rfl
            rotate_left
            · simp only [Act.put, List.setIfInBounds_toArray, List.set_cons_zero, List.set_cons_succ, i64_w, i32_w, hst, hstn]
              rfl
            refine pure_ (i := 2) (N := some 81) (v := ?_) (a' := ?_) #[true, true, true, false, false, false, false, false, false] rfl rfl (by kernel_rfl) (fun _ _ _ h => h) (Or.inl ⟨by rfl, ?_⟩) ?_ ?_
            rotate_left
            · intro w'
              go_simp
              with_reducible rfl
            rotate_left
            · simp only [Act.put, List.setIfInBounds_toArray, List.set_cons_zero, List.set_cons_succ, i64_w, i32_w, hst, hstn]
              rfl
            refine pure_ (i := 3) (N := some 82) (v := ?_) (a' := ?_) #[true, true, true, true, false, false, false, false, false] rfl rfl (by kernel_rfl) (fun _ _ _ h => h) (Or.inl ⟨by rfl, ?_⟩) ?_ ?_
            rotate_left
            · intro w'
              go_simp
              with_reducible rfl
            rotate_left
            · simp only [Act.put, List.setIfInBounds_toArray, List.set_cons_zero, List.set_cons_succ, i64_w, i32_w, hst, hstn]
              rfl
            refine take_ (i := 4) (N := some 83) (v := ?_) (a' := ?_) #[true, true, true, true, true, false, false, false, false] rfl rfl (by kernel_rfl) (fun _ _ _ h => h) (Or.inl ⟨by rfl, ?_⟩) hHeld ?_ ?_
            rotate_left
            · rintro w' hS
              obtain ⟨cq, ecq, q0⟩ := Kd.at_int (Kd.C_below HL0.out hS.below) (i : Int) (by omega) (by have := HKL.out; omega)
              cases ecq
              rw [Int.toNat_natCast, HCH.out] at q0
              go_simp
              with_reducible rfl
            rotate_left
            · simp only [Act.put, List.setIfInBounds_toArray, List.set_cons_zero, List.set_cons_succ, i64_w, i32_w, hst, hstn]
              rfl
            refine pure_ (i := 5) (N := some 84) (v := ?_) (a' := ?_) #[true, true, true, true, true, true, false, false, false] rfl rfl (by kernel_rfl) (fun _ _ _ h => h) (Or.inl ⟨by rfl, ?_⟩) ?_ ?_
            rotate_left
            · intro w'
              go_simp
              with_reducible rfl
            rotate_left
            · simp only [Act.put, List.setIfInBounds_toArray, List.set_cons_zero, List.set_cons_succ, i64_w, i32_w, hst, hstn]
              rfl
            refine pure_ (i := 6) (N := some 85) (v := ?_) (a' := ?_) #[true, true, true, true, true, true, true, false, false] rfl rfl (by kernel_rfl) (fun _ _ _ h => h) (Or.inl ⟨by rfl, ?_⟩) ?_ ?_
            rotate_left
            · intro w'
              go_simp
              with_reducible rfl
            rotate_left
            · simp only [Act.put, List.setIfInBounds_toArray, List.set_cons_zero, List.set_cons_succ, i64_w, i32_w, hst, hstn]
              rfl
            refine one_ (i := 7) (N := some 86) #[true, true, true, true, true, true, true, true, false] rfl rfl (by kernel_rfl) (by decide) (fun K hK => ?_)
            refine goes_ Try.func13 (by kernel_rfl) rfl #[.agg #[.int .i64 y0, .slice B1 y1.length d1, .int .i64 y2, .int .i64 y3, .slice B4 y4.length d4], .int .i64 ch, .bool st] (by rfl) rfl rfl (by (try simp only [List.map_toArray, List.map_cons, List.map_nil]); rfl) ?_
            refine (stepT_calls k ch st (fun k => k ≠ gx) y0 B1 d1 y1 y2 y3 B4 d4 y4 k0 ⟨z0, z1, z2, z3, z4⟩ (by obtain ⟨_, _, _, _, e, r1, r2, r3, r4⟩ := hHeld.node; cases e; exact r1) (by obtain ⟨_, _, _, _, e, r1, r2, r3, r4⟩ := hHeld.node; cases e; exact r2) (by obtain ⟨_, _, _, _, e, r1, r2, r3, r4⟩ := hHeld.node; cases e; exact r3) (by obtain ⟨_, _, _, _, e, r1, r2, r3, r4⟩ := hHeld.node; cases e; exact r4) HSTP.out).mono ?_
            rintro e_ k1 ⟨rv, rfl, hN, hb⟩
            refine ⟨_, rfl, ?_⟩
            have HN2 := Aside0.mk (NodeF.mono hN (P' := fun k => k ≠ gx) (fun k hk => by have := blk_lt hHeld.blk; rcases hk with hk | hk; exact hk; omega))
            have HEK := Aside0.mk (Kd.R_below HED.out hb)
            refine hK.out _ _ (hHeld.more hb) (fun hHeld => ?_)
            clear hK K hb hN HED
            refine norm_ (a' := ?_) ?_ ?_
            rotate_left
            · show Act.put _ (some 86) _ = _
              simp only [Act.put, List.setIfInBounds_toArray, List.set_cons_zero, List.set_cons_succ, i64_w, i32_w]
              rfl
            have hn2 := HN2.out
            obtain ⟨D1, b1, D4, b4, e, r1, r2, r3, r4⟩ := hn2
            subst e
            clear r1 r2 r3 r4
            have a0 := blk_cell hHeld.blk 0
            have f0 := blk_frozen hHeld.blk 0
            have a1 := blk_cell hHeld.blk 1
            have f1 := blk_frozen hHeld.blk 1
            have a2 := blk_cell hHeld.blk 2
            have f2 := blk_frozen hHeld.blk 2
            have a3 := blk_cell hHeld.blk 3
            have f3 := blk_frozen hHeld.blk 3
            have a4 := blk_cell hHeld.blk 4
            have f4 := blk_frozen hHeld.blk 4
            refine last_ (i := 8) (N := none) #[true, true, true, true, true, true, true, true, true] rfl rfl (by kernel_rfl) (by decide) (fun K hK => ?_)
            refine skip_ (w1 := ?_) (by rfl) rfl ?_ ?_
            rotate_left
            · go_simp
              rfl
            refine hK.out _ _ ?_
            clear hK K
            refine done_ (by kernel_rfl) ?_
            have HS8 := Aside0.mk (hHeld.store rfl HN2.out)
            have HE8 := Aside0.mk (ends_store5 HEK.out hHeld.blk (.int .i64 z0) (.slice D1 z1.length b1) (.int .i64 z2) (.int .i64 z3) (.slice D4 z4.length b4))
            have hw := sn_wrap i (by have := HAI.out; have := HL12.out; omega)
            clear a0 a1 a2 a3 a4 f0 f1 f2 f3 f4 hHeld
            go_wp2
            refine ⟨⟨i + 1, a + 1, _, _, by first | (rw [hwa]; done) | rfl | simp, by first | (rw [hw]; done) | rfl | simp, by have := HLI.out; omega, by have := HAI.out; omega, ⟨by have h1 : l.length + 1 - (i + 1) = d := (by have := HD.out; omega); rw [h1]; exact HGO2.out⟩, ⟨HS8.out⟩, ⟨HE8.out⟩⟩, ?_⟩
            first | (rw [hw]) | skip
            show l.length + 1 - _ < l.length + 1 - _
            have := HLI.out
            simp only [intOf, Int.toNat_natCast]
            omega
end Go.Proofs.Ytaphbechnjmlgaa.P
namespace Go.Proofs.Ytaphbechnjmlgaa.P
open Go.RowKit Go.Proofs.YtaphbechnjmlgaaW.PrintWords Go.Proofs.YtaphbechnjmlgaaW.PrintLast
set_option linter.unusedVariables false

theorem wrap_id {x : Int} (h0 : -9223372036854775808 ≤ x) (h1 : x ≤ 9223372036854775807) : wrap64 x = x := by
  unfold wrap64
  omega
theorem wrap_succ (i : Nat) (h : i < 9223372036854775807) : wrap64 ((i : Int) + 1) = ((i + 1 : Nat) : Int) := by
  rw [wrap_id (by omega) (by omega)]
  omega
theorem rd_nat (xs : List Int) (i : Nat) : rd xs (i : Int) = xs.getD i 0 := by
  unfold rd
  rw [Int.toNat_natCast]
theorem rd_get (xs : List Int) (i : Nat) (h : i < xs.length) : rd xs (i : Int) = xs[i] := by
  rw [rd_nat, List.getD_eq_getElem?_getD, List.getElem?_eq_getElem h, Option.getD_some]
theorem more {α : Type} {g : Nat → Option α} (h : ∀ k, LeO (g k) (g (k + 1))) (k k' : Nat) (hk : k ≤ k') (r : α) (hr : g k = some r) : g k' = some r := at_rounds h hk hr
end Go.Proofs.Ytaphbechnjmlgaa.P
namespace Go.Proofs.Ytaphbechnjmlgaa.P
open Go.RowKit Go.Proofs.YtaphbechnjmlgaaW.PrintWords Go.Proofs.YtaphbechnjmlgaaW.PrintLast
set_option linter.unusedVariables false

theorem ev_step {α β : Type} {f : Nat → Option α} {g : Nat → Option β} {a : α} {r : β} (H : Ev f a) (h : ∀ k, f k = some a → g (k + 1) = some r) : Ev g r := by
  obtain ⟨K, H⟩ := H
  refine ⟨K + 1, fun k hk => ?_⟩
  obtain ⟨k, rfl⟩ : ∃ m, k = m + 1 := ⟨k - 1, by omega⟩
  exact h k (H k (by omega))
theorem ev_step2 {α β γ : Type} {f : Nat → Option α} {f2 : Nat → Option γ} {g : Nat → Option β} {a : α} {b : γ} {r : β} (H : Ev f a) (H2 : Ev f2 b) (h : ∀ k, f k = some a → f2 k = some b → g (k + 1) = some r) : Ev g r := by
  obtain ⟨K, H⟩ := H
  obtain ⟨K2, H2⟩ := H2
  refine ⟨K + K2 + 1, fun k hk => ?_⟩
  obtain ⟨k, rfl⟩ : ∃ m, k = m + 1 := ⟨k - 1, by omega⟩
  exact h k (H k (by omega)) (H2 k (by omega))
theorem ev_one {β : Type} {g : Nat → Option β} {r : β} (h : ∀ k, g (k + 1) = some r) : Ev g r := ⟨1, fun k hk => by
  obtain ⟨k, rfl⟩ : ∃ m, k = m + 1 := ⟨k - 1, by omega⟩
  exact h k⟩
theorem ev_now {β : Type} {g : Nat → Option β} {r : β} (h : ∀ k, g k = some r) : Ev g r := ⟨0, fun k _ => h k⟩
theorem ev_same {α β : Type} {f : Nat → Option α} {g : Nat → Option β} {a : α} {r : β} (H : Ev f a) (h : ∀ k, f k = some a → g k = some r) : Ev g r := by
  obtain ⟨K, H⟩ := H
  exact ⟨K, fun k hk => h k (H k hk)⟩
theorem ev_same2 {α β γ : Type} {f : Nat → Option α} {f2 : Nat → Option γ} {g : Nat → Option β} {a : α} {b : γ} {r : β} (H : Ev f a) (H2 : Ev f2 b) (h : ∀ k, f k = some a → f2 k = some b → g k = some r) : Ev g r := by
  obtain ⟨K, H⟩ := H
  obtain ⟨K2, H2⟩ := H2
  exact ⟨K + K2, fun k hk => h k (H k (by omega)) (H2 k (by omega))⟩
end Go.Proofs.Ytaphbechnjmlgaa.P
namespace Go.Proofs.Ytaphbechnjmlgaa.P
open Go.RowKit Go.Proofs.YtaphbechnjmlgaaW.PrintWords Go.Proofs.YtaphbechnjmlgaaW.PrintLast
set_option linter.unusedVariables false
set_option linter.unusedSimpArgs false

abbrev TNode : Type := S25
abbrev TRange : Type := S52
def i64b (x : Int) : Prop := -9223372036854775808 ≤ x ∧ x ≤ 9223372036854775807
/-- A tree that can lie in memory. -/
inductive WfN : TNode → Prop
  | mk (x : TNode) (h0 : i64b x.f0) (h1 : ∀ r ∈ x.f1, i64b r.f0 ∧ i64b r.f1) (l1 : x.f1.length < 8796093022208) (h2 : i64b x.f2) (h3 : i64b x.f3) (l4 : x.f4.length < 2199023255552) (hk : ∀ y ∈ x.f4, WfN y) : WfN x
theorem node_ind {P : TNode → Prop} (h : ∀ x : TNode, (∀ y ∈ x.f4, P y) → P x) (x : TNode) : P x := by
  have key : ∀ n (x : TNode), SizeOf.sizeOf x ≤ n → P x := by
    intro n
    induction n with
    | zero =>
      intro x hx
      exact absurd hx (by cases x; simp)
    | succ n ih =>
      intro x hx
      refine h x fun y hy => ih y ?_
      have h1 := List.sizeOf_lt_of_mem hy
      have h2 : SizeOf.sizeOf x.f4 < SizeOf.sizeOf x := by cases x; simp; omega
      omega
  exact key _ x (Nat.le_refl _)
theorem tn_rd (l : List TNode) (i : Nat) (h : i < l.length) : rd_T25 l (i : Int) = l[i] := by
  unfold rd_T25
  rw [Int.toNat_natCast, List.getD_eq_getElem?_getD, List.getElem?_eq_getElem h, Option.getD_some]
theorem tn_mem (l : List TNode) (i : Nat) (h : i < l.length) : rd_T25 l (i : Int) ∈ l := by
  rw [tn_rd l i h]
  exact List.getElem_mem h
abbrev weightE (k : Nat) (x : TNode) (d : Int) : Option Int := ductusref16_Weight.f k x.f0 x.f1 x.f2 x.f3 x.f4 d
theorem weight_loop (f0 : Int) (f1 : List TRange) (f2 f3 : Int) (l : List TNode) (d B : Int) (hd : 0 ≤ d ∧ d ≤ 100) (hB : 0 ≤ B ∧ B < 8000000000000000000) (hl : l.length < 2199023255552) (hk : ∀ y ∈ l, ∃ W, Ev (fun k => weightE k y (d + 1)) W ∧ 1 ≤ W ∧ W ≤ B) (m : Nat) :
    ∀ (i : Nat) (s : Int), i + m = l.length → 1 ≤ s → s ≤ 9000000000000000000 → ∃ W, Ev (fun k => ductusref16_Weight.l0 k d s (i : Int) f0 f1 f2 f3 l) W ∧ s ≤ W ∧ (W ≤ s ∨ W ≤ 2000 + B) := by
  induction m with
  | zero =>
    intro i s hi h1 h2
    refine ⟨s, ev_one fun k => ?_, Int.le_refl _, .inl (Int.le_refl _)⟩
    simp only [ductusref16_Weight.l0]
    rw [if_neg (by omega)]
  | succ m ih =>
    intro i s hi h1 h2
    by_cases hs : s ≤ 2000
    · obtain ⟨V, hV, hV1, hV2⟩ := hk _ (tn_mem l i (by omega))
      obtain ⟨W, hW, hW1, hW2⟩ := ih (i + 1) (s + V) (by omega) (by omega) (by omega)
      refine ⟨W, ?_, by omega, by omega⟩
      have w1 : wrap64 (d + 1) = d + 1 := wrap_id (by omega) (by omega)
      have c1 : (i : Int) < (l.length : Int) := by omega
      have c2 : (0 : Int) ≤ (i : Int) := by omega
      have w2 : wrap64 (s + V) = s + V := wrap_id (by omega) (by omega)
      have w3 : wrap64 ((i : Int) + 1) = ((i + 1 : Nat) : Int) := wrap_succ i (by omega)
      refine ev_step2 hV hW fun k h1 h2 => ?_
      simp only [ductusref16_Weight.l0]
      rw [if_pos c1, if_pos hs, if_pos c2, w1]
      have h1' : ductusref16_Weight.f k (rd_T25 l (i : Int)).f0 (rd_T25 l (i : Int)).f1 (rd_T25 l (i : Int)).f2 (rd_T25 l (i : Int)).f3 (rd_T25 l (i : Int)).f4 (d + 1) = some V := h1
      rw [h1', Option.bind_some, w2, w3]
      exact h2
    · have c1 : (i : Int) < (l.length : Int) := by omega
      refine ⟨s, ev_one fun k => ?_, Int.le_refl _, .inl (Int.le_refl _)⟩
      simp only [ductusref16_Weight.l0]
      rw [if_pos c1, if_neg hs]
theorem weight_ev (x : TNode) : WfN x → ∀ d : Nat, d ≤ 101 → ∃ W, Ev (fun k => weightE k x (d : Int)) W ∧ 1 ≤ W ∧ W ≤ 8796093025208 + 2000 * (101 - (d : Int)) := by
  induction x using node_ind with
  | h x ih =>
    intro hw d hd
    obtain ⟨_, h0, h1, l1, h2, h3, l4, hk⟩ := hw
    by_cases hd1 : d = 101
    · subst hd1
      refine ⟨3000, ev_one fun k => ?_, by omega, by omega⟩
      simp only [weightE, ductusref16_Weight.f]
      rw [if_pos (by omega)]
    · have w1 : wrap64 (1 + (x.f1.length : Int)) = 1 + (x.f1.length : Int) := wrap_id (by omega) (by omega)
      obtain ⟨W, hW, hW1, hW2⟩ := weight_loop x.f0 x.f1 x.f2 x.f3 x.f4 (d : Int) (8796093025208 + 2000 * (101 - ((d + 1 : Nat) : Int))) (by omega) (by omega) l4 (fun y hy => by
        obtain ⟨W, hW, hW1, hW2⟩ := ih y hy (hk y hy) (d + 1) (by omega)
        exact ⟨W, hW, hW1, hW2⟩) x.f4.length 0 (1 + (x.f1.length : Int)) (by omega) (by omega) (by omega)
      refine ⟨W, ?_, by omega, by omega⟩
      refine ev_step hW fun k h => ?_
      simp only [weightE, ductusref16_Weight.f]
      rw [if_neg (by omega), w1]
      exact h
mutual
def sizeT : TNode → Int
  | ⟨f0, _, f2, f3, f4⟩ => sizesT (multT f0 f2 f3) f4 1
def sizesT (t : Int) : List TNode → Int → Int
  | [], s => s
  | x :: l, s => sizesT t l (mn 1000000 (s + t * sizeT x))
end
theorem mn_le (a b : Int) : mn a b ≤ a ∧ mn a b ≤ b := by unfold mn; split <;> omega
theorem sizes_rng (t : Int) (ht : 1 ≤ t ∧ t ≤ 1000000) : ∀ (l : List TNode), (∀ y ∈ l, 1 ≤ sizeT y ∧ sizeT y ≤ 1000000) → ∀ s, 1 ≤ s → s ≤ 1000000 → s ≤ sizesT t l s ∧ sizesT t l s ≤ 1000000
  | [], _, s, h1, h2 => by simp only [sizesT]; omega
  | y :: l, hy, s, h1, h2 => by
    have h3 := hy y (by simp)
    have h4 : 0 ≤ t * sizeT y := Int.mul_nonneg (by omega) (by omega)
    have h5 := mn_le 1000000 (s + t * sizeT y)
    have h6 : s ≤ mn 1000000 (s + t * sizeT y) := by unfold mn; split <;> omega
    have h7 := sizes_rng t ht l (fun z hz => hy z (by simp [hz])) (mn 1000000 (s + t * sizeT y)) (by omega) (by omega)
    simp only [sizesT]
    omega
theorem size_rng (x : TNode) : 1 ≤ sizeT x ∧ sizeT x ≤ 1000000 := by
  induction x using node_ind with
  | h x ih =>
    obtain ⟨f0, f1, f2, f3, f4⟩ := x
    simp only [sizeT]
    exact sizes_rng _ (multT_le _ _ _) f4 ih 1 (by omega) (by omega)
abbrev sizeE (k : Nat) (x : TNode) : Option Int := ductusref16_Size.f k x.f0 x.f1 x.f2 x.f3 x.f4
theorem sizes_ev (t : Int) (ht : 1 ≤ t ∧ t ≤ 1000000) : ∀ (l : List TNode), (∀ y ∈ l, Ev (fun k => sizeC k y) (sizeT y)) → ∀ s, 1 ≤ s → s ≤ 1000000 → Ev (fun k => sizesC (sizeC k) t l s) (sizesT t l s)
  | [], _, s, h1, h2 => ev_now fun k => by simp only [sizesC, sizesT]
  | y :: l, hy, s, h1, h2 => by
    have h3 := size_rng y
    have h4 : 0 ≤ t * sizeT y := Int.mul_nonneg (by omega) (by omega)
    have h5 : 1 ≤ mn 1000000 (s + t * sizeT y) ∧ mn 1000000 (s + t * sizeT y) ≤ 1000000 := by unfold mn; split <;> omega
    refine ev_same2 (hy y (by simp)) (sizes_ev t ht l (fun z hz => hy z (by simp [hz])) _ h5.1 h5.2) fun k e1 e2 => ?_
    simp only [sizesC, sizesT]
    rw [e1, Option.bind_some, if_pos ⟨h3.1, h3.2, h1, h2⟩]
    exact e2
theorem size_ev (x : TNode) : WfN x → Ev (fun k => sizeE k x) (sizeT x) := by
  have e : (fun k => sizeE k x) = fun k => sizeC k x := by
    funext k
    obtain ⟨f0, f1, f2, f3, f4⟩ := x
    rfl
  rw [e]
  clear e
  induction x using node_ind with
  | h x ih =>
    intro hw
    obtain ⟨_, h0, h1, l1, h2, h3, l4, hk⟩ := hw
    obtain ⟨f0, f1, f2, f3, f4⟩ := x
    refine ev_step (sizes_ev (multT f0 f2 f3) (multT_le _ _ _) f4 (fun y hy => ih y hy (hk y hy)) 1 (by omega) (by omega)) fun k e => ?_
    simp only [sizeC, sizeT]
    rw [if_pos h2.1]
    exact e
end Go.Proofs.Ytaphbechnjmlgaa.P
