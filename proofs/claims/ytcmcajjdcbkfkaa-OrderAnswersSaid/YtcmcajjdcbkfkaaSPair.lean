/- Proved: a call of the Go function pair.Other, with any number, answers what pair_Other.f says, and changes nothing that was there; no condition. -/
import Derived.Test.YtcmcajjdcbkfkaaPx0
import Derived.Laws.IdiomRangeMap
import Derived.Maps.Own
import Derived.Maps.OwnOps
import Derived.Maps.RangeRun
namespace Go.Proofs.Ytcmcajjdcbkfkaa.P
open Go.RowKit Go.Maps Go.ChangeMaps Go.Proofs.YtcmcajjdcbkfkaaW.PrintWords Go.Proofs.YtcmcajjdcbkfkaaW.PrintLast
set_option linter.unusedVariables false
set_option linter.unusedSimpArgs false

def pair_Other.tbl : List (Int × Int) := [(40, 41), (91, 93), (123, 125), (9001, 9002), (12296, 12297), (12298, 12299), (12300, 12301), (12302, 12303), (12304, 12305)]
def pair_Other.up (c : Int) : Option (Int × Int) := pair_Other.tbl.find? fun p => p.1 == c
def pair_Other.down (c : Int) : Option (Int × Int) := pair_Other.tbl.find? fun p => p.2 == c
def pair_Other.ans (c : Int) : Int × Bool × Bool :=
  match pair_Other.up c with
  | some p => (p.2, true, true)
  | none => match pair_Other.down c with
    | some p => (p.1, false, true)
    | none => (0, false, false)
def pair_Other.f (a0 : Int) : Option (Int × Bool × Bool) := some (pair_Other.ans a0)

/-- The map's entries behind its first n stores. -/
def pair_ents : List (Int × Int) → Nat → List MapEntry
  | [], _ => []
  | p :: l, b => ⟨.int .i64 p.1, .int .i64 p.2, b⟩ :: pair_ents l (b + 1)
def pair_es (n : Nat) : Array MapEntry := (pair_ents (pair_Other.tbl.take n) 0).toArray

theorem pair_ins {w : World} {es : Array MapEntry} {clock : Nat} {t : TypeId} {k v : Int} (ht : Try.prog.underlying t = some (.map 3 3))
    (hf : Instr.findNow (.int .i64) (.int .i64 k) es.toList 0 = some none) :
    (Instr.mapUpdate t (.map (some w.heap.size)) (.int .i64 k) (.int .i64 v)).run Try.prog (w.alloc (.map es clock)) = .ok () (w.alloc (.map (es.push ⟨.int .i64 k, .int .i64 v, clock⟩) (clock + 1))) := by
  have hb : (w.alloc (.map es clock)).heap[w.heap.size]? = some (.map es clock) := heap_alloc_new w _
  have hk : (Instr.checkKey false 10000 3 (.int .i64 k)).run Try.prog (w.alloc (.map es clock)) = .ok () (w.alloc (.map es clock)) := MapKept.run_checkKey Try.underlying3 (by simp [MapKept.IsKey]) false 9999
  have hfk : (Instr.findKey 3 (.int .i64 k) es.toList).run Try.prog (w.alloc (.map es clock)) = .ok none (w.alloc (.map es clock)) := by
    simp [Instr.findKey, run_underlying Try.underlying3, hf]
  simp only [Instr.mapUpdate, Sem.run_bind, run_underlying ht, Result.andThen_ok, MapKept.run_getObj_map hb, hk, hfk, MapKept.run_setObj_map _ hb]
  have hp : ∀ o : Obj, (w.heap.push (.map es clock)).setIfInBounds w.heap.size o = w.heap.push o := by
    intro o
    apply Array.toList_inj.1
    simp [List.set_append]
  show Result.ok () { w.alloc (.map es clock) with heap := (w.heap.push (.map es clock)).setIfInBounds w.heap.size _ } = _
  rw [hp]
  rfl

theorem pair_find_none (c : Int) : ∀ (l : List (Int × Int)) (b i : Nat), l.find? (fun p => p.1 == c) = none → Instr.findNow (.int .i64) (.int .i64 c) (pair_ents l b) i = some none
  | [], _, _, _ => rfl
  | p :: l, b, i, h => by
    have h2 : (p.1 == c) = false := by
      cases hc : (p.1 == c) with
      | true => simp [List.find?, hc] at h
      | false => rfl
    have h3 : (c == p.1) = false := by
      simp only [beq_eq_false_iff_ne, ne_eq] at h2 ⊢
      exact fun e => h2 e.symm
    simp only [List.find?, h2] at h
    simp only [pair_ents, Instr.findNow, Instr.sameNow, if_true, h3]
    exact pair_find_none c l (b + 1) (i + 1) h
theorem pair_find_some (c : Int) (p : Int × Int) : ∀ (l : List (Int × Int)) (b i : Nat), l.find? (fun p => p.1 == c) = some p → ∃ j, Instr.findNow (.int .i64) (.int .i64 c) (pair_ents l b) i = some (some (j, .int .i64 p.2))
  | [], _, _, h => by simp at h
  | q :: l, b, i, h => by
    cases h2 : (q.1 == c) with
    | true =>
      simp only [List.find?, h2] at h
      obtain rfl := Option.some.inj h
      have h3 : (c == q.1) = true := by
        simp only [beq_iff_eq] at h2 ⊢
        exact h2.symm
      exact ⟨i, by simp only [pair_ents, Instr.findNow, Instr.sameNow, if_true, h3]⟩
    | false =>
      simp only [List.find?, h2] at h
      have h3 : (c == q.1) = false := by
        simp only [beq_eq_false_iff_ne, ne_eq] at h2 ⊢
        exact fun e => h2 e.symm
      obtain ⟨j, hj⟩ := pair_find_some c p l (b + 1) (i + 1) h
      exact ⟨j, by simp only [pair_ents, Instr.findNow, Instr.sameNow, if_true, h3]; exact hj⟩

theorem pair_look {w : World} {r clock : Nat} {t : TypeId} {c : Int} (ht : Try.prog.underlying t = some (.map 3 3)) (hb : w.heap[r]? = some (.map (pair_es 9) clock)) :
    (Instr.lookup t (.map (some r)) (.int .i64 c) true).run Try.prog w = .ok (.tuple #[.int .i64 ((pair_Other.up c).map (·.2) |>.getD 0), .bool (pair_Other.up c).isSome]) w := by
  have hk : ∀ e, (Instr.checkKey e 10000 3 (.int .i64 c)).run Try.prog w = .ok () w := by
    intro e
    exact MapKept.run_checkKey Try.underlying3 (by simp [MapKept.IsKey]) e 9999
  have hz : (zeroValue 3).run Try.prog w = .ok (.int .i64 0) w := by kernel_rfl
  have hl : (pair_es 9).toList = pair_ents pair_Other.tbl 0 := rfl
  cases hu : pair_Other.up c with
  | none =>
    have hfk : (Instr.findKey 3 (.int .i64 c) (pair_ents pair_Other.tbl 0)).run Try.prog w = .ok none w := by
      simp [Instr.findKey, run_underlying Try.underlying3, pair_find_none c _ 0 0 hu]
    simp only [Instr.lookup, Sem.run_bind, run_underlying ht, Result.andThen_ok, MapKept.run_getObj_map hb, hk, hl, hfk, Sem.run_pure, hz]
    rfl
  | some p =>
    obtain ⟨j, hj⟩ := pair_find_some c p _ 0 0 hu
    have hfk : (Instr.findKey 3 (.int .i64 c) (pair_ents pair_Other.tbl 0)).run Try.prog w = .ok (some (j, .int .i64 p.2)) w := by
      simp [Instr.findKey, run_underlying Try.underlying3, hj]
    simp only [Instr.lookup, Sem.run_bind, run_underlying ht, Result.andThen_ok, MapKept.run_getObj_map hb, hk, hl, hfk, Sem.run_pure]
    rfl

set_option maxRecDepth 100000 in
theorem pair_brackets.calls (w : World) :
    Calls Try.prog 29 #[] w fun e w' => e = .returned (.map (some w.heap.size)) ∧ w' = w.alloc (.map (pair_es 9) 9) := by
  have hmm := @run_makeMap Try.prog
  have i0 : (Instr.mapUpdate 47 (.map (some w.heap.size)) (.int .i64 40) (.int .i64 41)).run Try.prog (w.alloc (.map #[] 0)) = .ok () (w.alloc (.map (pair_es 1) 1)) := pair_ins Try.underlying47 (pair_find_none 40 (pair_Other.tbl.take 0) 0 0 (by decide))
  have i1 : (Instr.mapUpdate 47 (.map (some w.heap.size)) (.int .i64 91) (.int .i64 93)).run Try.prog (w.alloc (.map (pair_es 1) 1)) = .ok () (w.alloc (.map (pair_es 2) 2)) := pair_ins Try.underlying47 (pair_find_none 91 (pair_Other.tbl.take 1) 0 0 (by decide))
  have i2 : (Instr.mapUpdate 47 (.map (some w.heap.size)) (.int .i64 123) (.int .i64 125)).run Try.prog (w.alloc (.map (pair_es 2) 2)) = .ok () (w.alloc (.map (pair_es 3) 3)) := pair_ins Try.underlying47 (pair_find_none 123 (pair_Other.tbl.take 2) 0 0 (by decide))
  have i3 : (Instr.mapUpdate 47 (.map (some w.heap.size)) (.int .i64 9001) (.int .i64 9002)).run Try.prog (w.alloc (.map (pair_es 3) 3)) = .ok () (w.alloc (.map (pair_es 4) 4)) := pair_ins Try.underlying47 (pair_find_none 9001 (pair_Other.tbl.take 3) 0 0 (by decide))
  have i4 : (Instr.mapUpdate 47 (.map (some w.heap.size)) (.int .i64 12296) (.int .i64 12297)).run Try.prog (w.alloc (.map (pair_es 4) 4)) = .ok () (w.alloc (.map (pair_es 5) 5)) := pair_ins Try.underlying47 (pair_find_none 12296 (pair_Other.tbl.take 4) 0 0 (by decide))
  have i5 : (Instr.mapUpdate 47 (.map (some w.heap.size)) (.int .i64 12298) (.int .i64 12299)).run Try.prog (w.alloc (.map (pair_es 5) 5)) = .ok () (w.alloc (.map (pair_es 6) 6)) := pair_ins Try.underlying47 (pair_find_none 12298 (pair_Other.tbl.take 5) 0 0 (by decide))
  have i6 : (Instr.mapUpdate 47 (.map (some w.heap.size)) (.int .i64 12300) (.int .i64 12301)).run Try.prog (w.alloc (.map (pair_es 6) 6)) = .ok () (w.alloc (.map (pair_es 7) 7)) := pair_ins Try.underlying47 (pair_find_none 12300 (pair_Other.tbl.take 6) 0 0 (by decide))
  have i7 : (Instr.mapUpdate 47 (.map (some w.heap.size)) (.int .i64 12302) (.int .i64 12303)).run Try.prog (w.alloc (.map (pair_es 7) 7)) = .ok () (w.alloc (.map (pair_es 8) 8)) := pair_ins Try.underlying47 (pair_find_none 12302 (pair_Other.tbl.take 7) 0 0 (by decide))
  have i8 : (Instr.mapUpdate 47 (.map (some w.heap.size)) (.int .i64 12304) (.int .i64 12305)).run Try.prog (w.alloc (.map (pair_es 8) 8)) = .ok () (w.alloc (.map (pair_es 9) 9)) := pair_ins Try.underlying47 (pair_find_none 12304 (pair_Other.tbl.take 8) 0 0 (by decide))
  go_enter Try.func29, Try.ntmps29
  go_wp2
  go_ret
  exact ⟨rfl, rfl⟩

theorem pair_old (w : World) (o o' : Obj) : ((w.alloc o).alloc o').heap[w.heap.size]? = some o := by
  rw [heap_alloc_old _ _ (by show w.heap.size < (w.heap.push o).size; simp), heap_alloc_new]
theorem pair_new (w : World) (o o' : Obj) : ((w.alloc o).alloc o').heap[w.heap.size + 1]? = some o' := by
  have h := heap_alloc_new (w.alloc o) o'
  have hs : (w.alloc o).heap.size = w.heap.size + 1 := by show (w.heap.push o).size = _; simp
  rwa [hs] at h
theorem pair_ents_mem : ∀ (l : List (Int × Int)) (b : Nat) (x : MapEntry), x ∈ pair_ents l b → ∃ p ∈ l, x.key = .int .i64 p.1 ∧ x.val = .int .i64 p.2
  | [], _, _, h => by simp [pair_ents] at h
  | q :: l, b, x, h => by
    simp only [pair_ents, List.mem_cons] at h
    rcases h with rfl | h
    · exact ⟨q, by simp, rfl, rfl⟩
    · obtain ⟨p, hp, h1⟩ := pair_ents_mem l (b + 1) x h
      exact ⟨p, by simp [hp], h1⟩
theorem pair_ents_has : ∀ (l : List (Int × Int)) (b : Nat) (p : Int × Int), p ∈ l → ∃ x ∈ pair_ents l b, x.key = .int .i64 p.1 ∧ x.val = .int .i64 p.2
  | [], _, _, h => by simp at h
  | q :: l, b, p, h => by
    simp only [List.mem_cons] at h
    rcases h with rfl | h
    · exact ⟨⟨.int .i64 p.1, .int .i64 p.2, b⟩, by simp [pair_ents], rfl, rfl⟩
    · obtain ⟨x, hx, h1⟩ := pair_ents_has l (b + 1) p h
      exact ⟨x, by simp [pair_ents, hx], h1⟩
theorem pair_stamped : MapKept.Stamped (pair_es 9) 9 := by
  rw [MapKept.stamped_iff]
  refine ⟨by decide, by decide, ?_⟩
  show (pair_ents pair_Other.tbl 0).Pairwise _
  simp [pair_ents, pair_Other.tbl]
theorem pair_down_some {c : Int} {p : Int × Int} (hp : p ∈ pair_Other.tbl) (hc : p.2 = c) : pair_Other.down c = some p := by
  subst hc
  revert p
  decide
theorem pair_down_none {c : Int} (h : ∀ x ∈ (pair_es 9).toList, ¬ x.val = .int .i64 c) : pair_Other.down c = none := by
  unfold pair_Other.down
  rw [List.find?_eq_none]
  intro p hp he
  obtain ⟨x, hx, _, hv⟩ := pair_ents_has pair_Other.tbl 0 p hp
  exact h x hx (by rw [hv]; simp only [beq_iff_eq] at he; rw [he])

set_option maxHeartbeats 4000000 in
set_option maxRecDepth 100000 in
theorem pair_Other.calls (a0 : Int) (r1 : Int) (r2 : Bool) (r3 : Bool) (w : World) (h : pair_Other.f a0 = some (r1, r2, r3)) :
    Calls Try.prog 28 #[.int .i64 a0] w fun e w' => e = .returned (.tuple #[.int .i64 r1, .bool r2, .bool r3]) ∧ Below w.heap.size w w' := by
  have hw0 : (w.alloc (.map (pair_es 9) 9)).heap[w.heap.size]? = some (.map (pair_es 9) 9) := heap_alloc_new w _
  have hlk := pair_look (c := a0) Try.underlying47 hw0
  have hH := Option.some.inj h
  unfold pair_Other.ans at hH
  clear h
  cases hu : pair_Other.up a0 with
  | some p =>
    rw [hu] at hlk hH
    simp only [Option.map_some, Option.getD_some, Option.isSome_some] at hlk
    simp only [Prod.mk.injEq] at hH
    obtain ⟨rfl, rfl, rfl⟩ := hH
    clear hw0 hu
    go_enter Try.func28, Try.ntmps28
    go_wp2_with (go_at_call 29; refine (pair_brackets.calls _).mono ?_; rintro e w' ⟨rfl, rfl⟩)
    go_ret3
    exact ⟨rfl, below_alloc (Below.refl _ _) _⟩
  | none =>
    rw [hu] at hlk hH
    simp only [Option.map_none, Option.getD_none, Option.isSome_none] at hlk
    simp only [] at hH
    clear hu
    have hrg : (Instr.range 47 (.map (some w.heap.size))).run Try.prog (w.alloc (.map (pair_es 9) 9)) = .ok (.pointer (some ⟨w.heap.size + 1, 0, none⟩)) ((w.alloc (.map (pair_es 9) 9)).alloc (.mapIter (some w.heap.size) 9 #[] 9)) := by
      have hq := run_range_map (P := Try.prog) (w.alloc (.map (pair_es 9) 9)) 47 3 3 w.heap.size (pair_es 9) 9 Try.underlying47 hw0
      simpa using hq
    have HW0 := Aside0.mk hw0
    have HH := Aside0.mk hH
    clear hw0 hH
    go_enter Try.func28, Try.ntmps28
    go_wp2_with (go_at_call 29; refine (pair_brackets.calls _).mono ?_; rintro e w' ⟨rfl, rfl⟩)
    go_loopw [] (fun wr => ∃ seen : Array Nat, Below w.heap.size w wr ∧ wr.heap[w.heap.size]? = some (.map (pair_es 9) 9) ∧ wr.heap[w.heap.size + 1]? = some (.mapIter (some w.heap.size) 9 seen 9) ∧ ∀ x ∈ (pair_es 9).toList, seen.contains x.born = true → ¬ x.val = .int .i64 a0) (fun wr => (leftOf (pair_es 9) (wr.iterSeen (w.heap.size + 1))).size)
    case atStart => exact ⟨#[], below_alloc (below_alloc (Below.refl _ _) _) _, pair_old _ _ _, pair_new _ _ _, fun x _ h => by simp at h⟩
    case round =>
      obtain ⟨seen, hB, hb, hr, hno⟩ := hrel
      rcases run_next_at (P := Try.prog) wr 0 (w.heap.size + 1) w.heap.size 9 9 seen (pair_es 9) 9 hr hb pair_stamped.1 (Nat.le_refl _) with ⟨h0, hrun⟩ | ⟨e, he, w1, hw1, hrun⟩
      · have hd : pair_Other.down a0 = none := pair_down_none fun x hx => hno x hx (all_seen _ seen h0 x hx)
        have hq := HH.out
        rw [hd] at hq
        simp only [Prod.mk.injEq] at hq
        obtain ⟨rfl, rfl, rfl⟩ := hq
        have HB := Aside0.mk hB
        clear hB hb hr hno h0 hd HH
        go_wp2
        go_ret3
        exact ⟨rfl, HB.out⟩
      · obtain ⟨p, hp, hkey, hval⟩ := pair_ents_mem _ _ e (mem_left he).1
        rw [hkey, hval] at hrun
        have hB1 : Below w.heap.size w w1 := by
          rcases hw1 with rfl | rfl
          · exact hB
          · exact below_drew hB
        have hr1 : w1.heap[w.heap.size + 1]? = some (.mapIter (some w.heap.size) 9 seen 9) := by rcases hw1 with rfl | rfl <;> exact hr
        have hb1 : w1.heap[w.heap.size]? = some (.map (pair_es 9) 9) := by rcases hw1 with rfl | rfl <;> exact hb
        obtain ⟨W2, hW2⟩ : ∃ W2, W2 = setBlock w1 (w.heap.size + 1) (.mapIter (some w.heap.size) 9 (seen.push e.born) 9) := ⟨_, rfl⟩
        rw [← hW2] at hrun
        have hb2 : W2.heap[w.heap.size]? = some (.map (pair_es 9) 9) := by
          rw [hW2]
          show (w1.heap.setIfInBounds (w.heap.size + 1) _)[w.heap.size]? = _
          rw [Array.getElem?_setIfInBounds_ne (by omega)]
          exact hb1
        have hr2 : W2.heap[w.heap.size + 1]? = some (.mapIter (some w.heap.size) 9 (seen.push e.born) 9) := by
          rw [hW2]
          show (w1.heap.setIfInBounds (w.heap.size + 1) _)[w.heap.size + 1]? = _
          rw [Array.getElem?_setIfInBounds_self, if_pos (Array.getElem?_eq_some_iff.1 hr1).1]
        have hB2 : Below w.heap.size w W2 := by
          rw [hW2]
          refine ⟨hB1.os, hB1.tape, hB1.output, ?_, fun k hk => ?_⟩
          · show _ ≤ (w1.heap.setIfInBounds (w.heap.size + 1) _).size
            rw [Array.size_setIfInBounds]
            exact hB1.size
          · show (w1.heap.setIfInBounds (w.heap.size + 1) _)[k]? = _
            rw [Array.getElem?_setIfInBounds_ne (by omega)]
            exact hB1.block k hk
        have hen := run_entry_at (P := Try.prog) W2 (w.heap.size + 1) w.heap.size 9 seen (pair_es 9) 9 e hr2 hb2 (mem_left he).1 pair_stamped.2.1
        rw [hkey, hval] at hen
        have hno2 : (p.2 == a0) = false → ∀ x ∈ (pair_es 9).toList, (seen.push e.born).contains x.born = true → ¬ x.val = .int .i64 a0 := by
          intro hne x hx hc
          rw [contains_push] at hc
          rcases Bool.or_eq_true _ _ ▸ hc with h1 | h1
          · exact hno x hx h1
          · obtain rfl : x = e := born_inj pair_stamped.2.1 hx (mem_left he).1 (beq_iff_eq.1 h1)
            rw [hval]
            intro h2
            injection h2 with _ h2
            rw [h2] at hne
            simp at hne
        have hms : (leftOf (pair_es 9) (seen.push e.born)).size < (leftOf (pair_es 9) (wr.iterSeen (w.heap.size + 1))).size := by
          have h1 : wr.iterSeen (w.heap.size + 1) = seen := by unfold World.iterSeen; rw [hr]
          rw [h1]
          exact left_shrinks _ seen e he
        have h2s : W2.iterSeen (w.heap.size + 1) = seen.push e.born := by unfold World.iterSeen; rw [hr2]
        have HB2 := Aside0.mk hB2
        have HS := Aside0.mk h2s
        have HB := Aside0.mk hb2
        have HR := Aside0.mk hr2
        have HN := Aside0.mk hno2
        have HM := Aside0.mk hms
        have HP := Aside0.mk hp
        clear hW2 hB2 h2s hb2 hr2 hno2 hms hp hB1 hr1 hb1 hw1 hB hb hr hno hkey hval he hrg hlk HW0
        cases hq : (p.2 == a0) with
        | true =>
          have hd := pair_down_some HP.out (by simpa using hq)
          have hz := HH.out
          rw [hd] at hz
          simp only [Prod.mk.injEq] at hz
          obtain ⟨rfl, rfl, rfl⟩ := hz
          clear hd HH
          go_wp2
          go_ret3
          exact ⟨rfl, HB2.out⟩
        | false =>
          go_wp2
          go_roundw
          case rel => exact ⟨_, HB2.out, HB.out, HR.out, HN.out hq⟩
          case measure => rw [HS.out]; exact HM.out

end Go.Proofs.Ytcmcajjdcbkfkaa.P
