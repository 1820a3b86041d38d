/- Package heap: what the comparison of two things tells. -/
import Derived.Test.YtnnjccfcalgokaaHpB
import Derived.Sort.Grow
set_option linter.unusedVariables false
namespace Go.Proofs.Ytnnjccfcalgokaa
open Go.RowKit Go.MapKept Go.Sort

def Grew (w w' : World) : Prop := ∃ q os', w' = grow (w.drewN q) os'
theorem Grew.refl (w : World) : Grew w w := ⟨0, #[], by simp; rfl⟩
theorem Grew.alloc {w w' : World} (h : Grew w w') (o : Obj) : Grew w (w'.alloc o) := by
  obtain ⟨q, os, rfl⟩ := h; exact ⟨q, os ++ #[o], by rw [alloc_eq_grow, grow_grow]⟩
theorem Grew.trans {w w' w'' : World} (h : Grew w w') (h2 : Grew w' w'') : Grew w w'' := by
  obtain ⟨q, os, rfl⟩ := h; obtain ⟨q2, os2, rfl⟩ := h2
  refine ⟨q + q2, os ++ os2, ?_⟩
  rw [← grow_grow]
  unfold grow World.drewN
  simp [Nat.add_assoc]
theorem Grew.blk {w w' : World} (h : Grew w w') {b : Nat} {l : List Value} {T : TypeId} (hb : Blk w b l T) : Blk w' b l T := by
  obtain ⟨q, os, rfl⟩ := h
  have hlt := hb.lt
  unfold Blk at *
  show (w.heap ++ os)[b]? = _
  rw [Array.getElem?_append_left hlt]; exact hb
theorem Grew.mod {w w' : World} (h : Grew w w') : Mod Nil w w' := by
  obtain ⟨q, os, rfl⟩ := h
  refine ⟨rfl, rfl, rfl, by simp [World.drewN], fun k hk _ => ?_⟩
  show (w.heap ++ os)[k]? = _
  rw [Array.getElem?_append_left hk]
theorem less_g (p0 p1 q0 q1 : Int) (W : World) : Calls Try.prog 25 #[.agg #[.int .i64 p0, .int .i64 p1], .agg #[.int .i64 q0, .int .i64 q1]] W fun e w' => e = .returned (.bool (decide (p0 < q0 ∨ p0 = q0 ∧ p1 < q1))) ∧ Grew W w' := by
  go_enter Try.func25, Try.ntmps25
  by_cases h1 : p0 < q0
  · go_wp2
    go_ret
    exact ⟨by simp [h1], ((Grew.refl _).alloc _).alloc _⟩
  · go_wp2
    all_goals (go_ret; refine ⟨?_, ((Grew.refl _).alloc _).alloc _⟩; simp <;> omega)
theorem ahead_gS (x y : HI ByteArray) (W : World) : Calls Try.prog 60 #[.agg #[sV x.key, iV x.one, iV x.two, iV x.came], .agg #[sV y.key, iV y.one, iV y.two, iV y.came]] W fun e w' => e = .returned (.bool (decide (x.lt y))) ∧ Grew W w' := by
  obtain ⟨xk, x1, x2, x3⟩ := x
  obtain ⟨yk, y1, y2, y3⟩ := y
  have hl := less_g x1 x2 y1 y2
  by_cases h1 : x1 < y1 ∨ x1 = y1 ∧ x2 < y2
  · have hlt : (⟨xk, x1, x2, x3⟩ : HI ByteArray).lt ⟨yk, y1, y2, y3⟩ := by unfold HI.lt; dsimp only; omega
    rw [decide_eq_true hlt]
    simp only [decide_eq_true h1] at hl
    clear hlt h1
    go_enter Try.func60, Try.ntmps60
    go_wp2_with (go_at_call 25; refine (hl _).mono ?_; rintro e w' ⟨rfl, hw⟩)
    go_ret
    exact ⟨rfl, (((Grew.refl _).alloc _).alloc _).trans hw⟩
  · simp only [decide_eq_false h1] at hl
    have B1 : ∀ o, Blk ((W.alloc (.cells #[sV xk, iV x1, iV x2, iV x3] 103)).alloc o) W.heap.size [sV xk, iV x1, iV x2, iV x3] 103 := fun o => (Blk.new W _ _).alloc o
    have B2 : Blk ((W.alloc (.cells #[sV xk, iV x1, iV x2, iV x3] 103)).alloc (.cells #[sV yk, iV y1, iV y2, iV y3] 103)) (W.heap.size + 1) [sV yk, iV y1, iV y2, iV y3] 103 := by
      have := Blk.new (W.alloc (.cells #[sV xk, iV x1, iV x2, iV x3] 103)) [sV yk, iV y1, iV y2, iV y3] 103
      simpa using this
    have hv : decide ((⟨xk, x1, x2, x3⟩ : HI ByteArray).lt ⟨yk, y1, y2, y3⟩) = decide ((x1 = y1 ∧ x2 = y2) ∧ x3 < y3) := by rw [decide_eq_decide]; unfold HI.lt; dsimp only; omega
    rw [hv]
    clear hv h1
    by_cases e1 : x1 = y1 <;> by_cases e2 : x2 = y2
    all_goals (try subst e1); (try subst e2)
    all_goals
      go_enter Try.func60, Try.ntmps60
      go_wp2_with (go_at_call 25; refine (hl _).mono ?_; rintro e w' ⟨rfl, hw⟩; have C1 := hw.blk (B1 _); have C2 := hw.blk B2; have c1 := C1.at 1 _ rfl; have c2 := C1.at 2 _ rfl; have c3 := C1.at 3 _ rfl; have d1 := C2.at 1 _ rfl; have d2 := C2.at 2 _ rfl; have d3 := C2.at 3 _ rfl; clear B1 B2 C1 C2)
      go_ret
      exact ⟨by first | rfl | (simp; done) | (simp; intros; first | omega | (exfalso; omega)), (((Grew.refl _).alloc _).alloc _).trans hw⟩
/-- What the comparison tells. -/
def hcmpS (x y : HI ByteArray) : Int := if x.lt y then -1 else if y.lt x then 1 else 0
set_option maxRecDepth 20000 in
theorem cmp_gS (x y : HI ByteArray) (W : World) : Calls Try.prog 59 #[.agg #[sV x.key, iV x.one, iV x.two, iV x.came], .agg #[sV y.key, iV y.one, iV y.two, iV y.came]] W fun e w' => e = .returned (.int .i64 (hcmpS x y)) ∧ Grew W w' := by
  have ha := ahead_gS x y
  have hb := ahead_gS y x
  have hv : hcmpS x y = bif decide (x.lt y) then -1 else bif decide (y.lt x) then 1 else 0 := by unfold hcmpS; by_cases h1 : x.lt y <;> by_cases h2 : y.lt x <;> simp [h1, h2]
  rw [hv]
  clear hv
  generalize decide (x.lt y) = p at *
  generalize decide (y.lt x) = q at *
  obtain ⟨xk, x1, x2, x3⟩ := x
  obtain ⟨yk, y1, y2, y3⟩ := y
  dsimp only at ha hb
  have B1 : ∀ o, Blk ((W.alloc (.cells #[sV xk, iV x1, iV x2, iV x3] 103)).alloc o) W.heap.size [sV xk, iV x1, iV x2, iV x3] 103 := fun o => (Blk.new W _ _).alloc o
  have B2 : Blk ((W.alloc (.cells #[sV xk, iV x1, iV x2, iV x3] 103)).alloc (.cells #[sV yk, iV y1, iV y2, iV y3] 103)) (W.heap.size + 1) [sV yk, iV y1, iV y2, iV y3] 103 := by
    have := Blk.new (W.alloc (.cells #[sV xk, iV x1, iV x2, iV x3] 103)) [sV yk, iV y1, iV y2, iV y3] 103
    simpa using this
  cases p
  · cases q
    all_goals
      go_enter Try.func59, Try.ntmps59
      go_wp2_with first
        | (go_at_call 60; refine (ha _).mono ?_; rintro e w' ⟨rfl, hw⟩; have C1 := hw.blk (B1 _); have C2 := hw.blk B2; have c0 := C1.at 0 _ rfl; have c1 := C1.at 1 _ rfl; have c2 := C1.at 2 _ rfl; have c3 := C1.at 3 _ rfl; have d0 := C2.at 0 _ rfl; have d1 := C2.at 1 _ rfl; have d2 := C2.at 2 _ rfl; have d3 := C2.at 3 _ rfl; clear B1 B2 C1 C2 ha)
        | (go_at_call 60; refine (hb _).mono ?_; rintro e w2 ⟨rfl, hw2⟩; clear hb)
      go_ret
      exact ⟨rfl, ((((Grew.refl _).alloc _).alloc _).trans hw).trans hw2⟩
  · clear hb B1 B2
    go_enter Try.func59, Try.ntmps59
    go_wp2_with (go_at_call 60; refine (ha _).mono ?_; rintro e w' ⟨rfl, hw⟩)
    go_ret
    exact ⟨rfl, (((Grew.refl _).alloc _).alloc _).trans hw⟩
theorem ahead_gI (x y : HI Int) (W : World) : Calls Try.prog 66 #[.agg #[iV x.key, iV x.one, iV x.two, iV x.came], .agg #[iV y.key, iV y.one, iV y.two, iV y.came]] W fun e w' => e = .returned (.bool (decide (x.lt y))) ∧ Grew W w' := by
  obtain ⟨xk, x1, x2, x3⟩ := x
  obtain ⟨yk, y1, y2, y3⟩ := y
  have hl := less_g x1 x2 y1 y2
  by_cases h1 : x1 < y1 ∨ x1 = y1 ∧ x2 < y2
  · have hlt : (⟨xk, x1, x2, x3⟩ : HI Int).lt ⟨yk, y1, y2, y3⟩ := by unfold HI.lt; dsimp only; omega
    rw [decide_eq_true hlt]
    simp only [decide_eq_true h1] at hl
    clear hlt h1
    go_enter Try.func66, Try.ntmps66
    go_wp2_with (go_at_call 25; refine (hl _).mono ?_; rintro e w' ⟨rfl, hw⟩)
    go_ret
    exact ⟨rfl, (((Grew.refl _).alloc _).alloc _).trans hw⟩
  · simp only [decide_eq_false h1] at hl
    have B1 : ∀ o, Blk ((W.alloc (.cells #[iV xk, iV x1, iV x2, iV x3] 116)).alloc o) W.heap.size [iV xk, iV x1, iV x2, iV x3] 116 := fun o => (Blk.new W _ _).alloc o
    have B2 : Blk ((W.alloc (.cells #[iV xk, iV x1, iV x2, iV x3] 116)).alloc (.cells #[iV yk, iV y1, iV y2, iV y3] 116)) (W.heap.size + 1) [iV yk, iV y1, iV y2, iV y3] 116 := by
      have := Blk.new (W.alloc (.cells #[iV xk, iV x1, iV x2, iV x3] 116)) [iV yk, iV y1, iV y2, iV y3] 116
      simpa using this
    have hv : decide ((⟨xk, x1, x2, x3⟩ : HI Int).lt ⟨yk, y1, y2, y3⟩) = decide ((x1 = y1 ∧ x2 = y2) ∧ x3 < y3) := by rw [decide_eq_decide]; unfold HI.lt; dsimp only; omega
    rw [hv]
    clear hv h1
    by_cases e1 : x1 = y1 <;> by_cases e2 : x2 = y2
    all_goals (try subst e1); (try subst e2)
    all_goals
      go_enter Try.func66, Try.ntmps66
      go_wp2_with (go_at_call 25; refine (hl _).mono ?_; rintro e w' ⟨rfl, hw⟩; have C1 := hw.blk (B1 _); have C2 := hw.blk B2; have c1 := C1.at 1 _ rfl; have c2 := C1.at 2 _ rfl; have c3 := C1.at 3 _ rfl; have d1 := C2.at 1 _ rfl; have d2 := C2.at 2 _ rfl; have d3 := C2.at 3 _ rfl; clear B1 B2 C1 C2)
      go_ret
      exact ⟨by first | rfl | (simp; done) | (simp; intros; first | omega | (exfalso; omega)), (((Grew.refl _).alloc _).alloc _).trans hw⟩
/-- What the comparison tells. -/
def hcmpI (x y : HI Int) : Int := if x.lt y then -1 else if y.lt x then 1 else 0
set_option maxRecDepth 20000 in
theorem cmp_gI (x y : HI Int) (W : World) : Calls Try.prog 65 #[.agg #[iV x.key, iV x.one, iV x.two, iV x.came], .agg #[iV y.key, iV y.one, iV y.two, iV y.came]] W fun e w' => e = .returned (.int .i64 (hcmpI x y)) ∧ Grew W w' := by
  have ha := ahead_gI x y
  have hb := ahead_gI y x
  have hv : hcmpI x y = bif decide (x.lt y) then -1 else bif decide (y.lt x) then 1 else 0 := by unfold hcmpI; by_cases h1 : x.lt y <;> by_cases h2 : y.lt x <;> simp [h1, h2]
  rw [hv]
  clear hv
  generalize decide (x.lt y) = p at *
  generalize decide (y.lt x) = q at *
  obtain ⟨xk, x1, x2, x3⟩ := x
  obtain ⟨yk, y1, y2, y3⟩ := y
  dsimp only at ha hb
  have B1 : ∀ o, Blk ((W.alloc (.cells #[iV xk, iV x1, iV x2, iV x3] 116)).alloc o) W.heap.size [iV xk, iV x1, iV x2, iV x3] 116 := fun o => (Blk.new W _ _).alloc o
  have B2 : Blk ((W.alloc (.cells #[iV xk, iV x1, iV x2, iV x3] 116)).alloc (.cells #[iV yk, iV y1, iV y2, iV y3] 116)) (W.heap.size + 1) [iV yk, iV y1, iV y2, iV y3] 116 := by
    have := Blk.new (W.alloc (.cells #[iV xk, iV x1, iV x2, iV x3] 116)) [iV yk, iV y1, iV y2, iV y3] 116
    simpa using this
  cases p
  · cases q
    all_goals
      go_enter Try.func65, Try.ntmps65
      go_wp2_with first
        | (go_at_call 66; refine (ha _).mono ?_; rintro e w' ⟨rfl, hw⟩; have C1 := hw.blk (B1 _); have C2 := hw.blk B2; have c0 := C1.at 0 _ rfl; have c1 := C1.at 1 _ rfl; have c2 := C1.at 2 _ rfl; have c3 := C1.at 3 _ rfl; have d0 := C2.at 0 _ rfl; have d1 := C2.at 1 _ rfl; have d2 := C2.at 2 _ rfl; have d3 := C2.at 3 _ rfl; clear B1 B2 C1 C2 ha)
        | (go_at_call 66; refine (hb _).mono ?_; rintro e w2 ⟨rfl, hw2⟩; clear hb)
      go_ret
      exact ⟨rfl, ((((Grew.refl _).alloc _).alloc _).trans hw).trans hw2⟩
  · clear hb B1 B2
    go_enter Try.func65, Try.ntmps65
    go_wp2_with (go_at_call 66; refine (ha _).mono ?_; rintro e w' ⟨rfl, hw⟩)
    go_ret
    exact ⟨rfl, (((Grew.refl _).alloc _).alloc _).trans hw⟩

end Go.Proofs.Ytnnjccfcalgokaa
