/- The walk of LruPlays: what came in is read alone; true. -/
import Derived.Test.YtjijjfdkghcjkaaRef05
import Derived.Test.YtjijjfdkghcjkaaLocal
import Derived.Deep.CutBlock
import Derived.Deep.Strs
set_option linter.unusedVariables false
namespace Go.Proofs.Ytjijjfdkghcjkaa
open Go.RowKit Go.MapKept
attribute [local go_sem ↓] Go.wp_at_zero Go.wp_at_succ

/-- A call of a script over caches: its kind, its key, its number. -/
abbrev PAct := {p : Int × ByteArray × Int // (Lit.int .i64 p.1).wf = true ∧ p.2.1.size ≤ maxLen ∧ (Lit.int .i64 p.2.2).wf = true}
def PAct.cells (x : PAct) : List Value := [.int .i64 x.1.1, .string x.1.2.1, .int .i64 x.1.2.2]
set_option maxRecDepth 100000 in
theorem el_pact {H : Type} {enc : TypeId × Value → H} {w : World} {base : Nat} {sp : Nat → Bool} {held : Bool} {n : Nat} {cs : List Value} {y : DataW H × List MemPlace}
    (h : DataW.trod enc Try.prog w base sp held n 45 cs = some y) : ∃ x : PAct, cs = x.cells := by
  obtain ⟨y0, y1, y2, m, _, hl, h0, h1, h2⟩ := Go.Deep.trod_struct3 Try.underlying45 h
  obtain ⟨a, ha, _, hw⟩ := DataW.trod_int Try.underlying3 h0
  obtain ⟨b, hb, _, hw1⟩ := DataW.trod_string Try.underlying9 h1
  obtain ⟨c, hc', _, hw2⟩ := DataW.trod_int Try.underlying3 h2
  have hc : Try.prog.cellsOf 45 = 3 := by kernel_rfl
  have hc0 : Try.prog.cellsOf 3 = 1 := by kernel_rfl
  have hc1 : Try.prog.cellsOf 9 = 1 := by kernel_rfl
  rw [hc] at hl
  match cs, hl with
  | [c0, c1, cd], _ =>
    simp [hc0, hc1] at ha hb hc'
    exact ⟨⟨(a, b, c), hw, hw1, hw2⟩, by rw [ha, hb, hc']; rfl⟩

/-- The cells of a script's call. -/
theorem pact_at {w : World} {S : Nat → Prop} {g off n cap : Nat} {xs : List PAct} (h : Cells w S (.slice (some ⟨g, off, none⟩) n cap) n 3 (xs.flatMap PAct.cells)) {k : Nat} (hk : k < xs.length) :
    w.cell? ⟨g, off + k * 3, none⟩ = some (.int .i64 xs[k].1.1) ∧ w.cell? ⟨g, off + k * 3 + 1, none⟩ = some (.string xs[k].1.2.1) ∧ w.cell? ⟨g, off + k * 3 + 2, none⟩ = some (.int .i64 xs[k].1.2.2) := by
  have hn : 0 < n := by
    have h2 := h.shape.choose_spec.choose_spec.2.2.2.1
    rw [length_flat (size := 3) (fun _ => rfl)] at h2
    omega
  obtain ⟨g', off', e, _, _, hcell⟩ := h.addr hn
  cases e
  refine ⟨hcell (k * 3) _ ?_, ?_, ?_⟩
  · have := get_flat (size := 3) (f := PAct.cells) (fun _ => rfl) xs k 0 hk (by omega)
    exact this
  · have := hcell (k * 3 + 1) _ (get_flat (size := 3) (f := PAct.cells) (fun _ => rfl) xs k 1 hk (by omega))
    rwa [← Nat.add_assoc] at this
  · have := hcell (k * 3 + 2) _ (get_flat (size := 3) (f := PAct.cells) (fun _ => rfl) xs k 2 hk (by omega))
    rwa [← Nat.add_assoc] at this

def few (xs : List PAct) : Prop := xs.length ≤ 200 ∧ ∀ x ∈ xs, x.1.2.1.size ≤ 200
set_option maxHeartbeats 1600000 in
set_option maxRecDepth 100000 in
theorem law05_Few (v : Value) (xs : List PAct) (w : World) (S : Nat → Prop) (h : Cells w S v xs.length 3 (xs.flatMap PAct.cells)) :
    Calls Try.prog 25 #[v] w fun e w' => (∃ b : Bool, e = .returned (.bool b) ∧ (b = true → few xs)) ∧ w = w' := by
  obtain ⟨a, cap, rfl, hc1, hc2, _, _⟩ := h.shape
  unfold maxLen at hc2
  have H := hid h
  clear h
  go_enter Try.func25, Try.ntmps25
  go_wp2_with fail
  go_loopg [3] (xs.length) (fun g i wr => ∃ k : Nat, k ≤ xs.length ∧ k + g = xs.length ∧ i = .int .i64 k ∧ k ≤ 200 ∧ (∀ x ∈ xs.take k, x.1.2.1.size ≤ 200) ∧ wr = w)
  case atStart => exact ⟨0, by omega, by omega, rfl, by omega, by simp, rfl⟩
  case round =>
    obtain ⟨k, hk, hg, rfl, h2, hall, rfl⟩ := hrel
    have HA := hid hall
    clear hall
    by_cases hlt : k < xs.length
    · by_cases h200 : 200 ≤ k
      · have h200' : (200 : Int) ≤ (k : Int) := by omega
        go_wp2
        go_ret
        exact ⟨⟨false, rfl, by simp⟩, rfl⟩
      · obtain ⟨g, off, rfl, _⟩ : ∃ g off, a = some ⟨g, off, none⟩ ∧ True := by
          obtain ⟨g, off, e, _⟩ := H.out.addr (by omega); exact ⟨g, off, e, trivial⟩
        obtain ⟨p0, p1, p2⟩ := pact_at H.out hlt
        have hts : xs.take (k + 1) = xs.take k ++ [xs[k]] := List.take_succ_eq_append_getElem hlt
        generalize xs[k] = x at *
        obtain ⟨⟨kd, ky, nn⟩, hx1, hx2, hx3⟩ := x
        simp only at p0 p1 p2 hx2
        unfold maxLen at hx2
        have hkl : (k : Int) < (xs.length : Int) := by omega
        have h200' : (k : Int) < 200 := by omega
        have HTS := hid hts
        clear p0 p2 hts
        by_cases hs : ky.size ≤ 200
        · go_wp2_with fail
          go_roundg (gk - 1)
          case measure => omega
          case rel => exact ⟨k + 1, by omega, by omega, by go_num, by omega, fun y hy => by
            rw [HTS.out, List.mem_append, List.mem_singleton] at hy
            exact hy.elim (HA.out y) fun e => by rw [e]; exact hs, rfl⟩
        · have hs' : (200 : Int) < (ky.size : Int) := by omega
          go_wp2
          go_ret
          exact ⟨⟨false, rfl, by simp⟩, rfl⟩
    · have hkl : k = xs.length := by omega
      subst hkl
      go_wp2
      go_ret
      refine ⟨⟨true, rfl, fun _ => ⟨h2, fun x hx => HA.out x (by rw [List.take_length]; exact hx)⟩⟩, rfl⟩

theorem ref05_Request_as {w : World} {S : Nat → Prop} {v : Value} {M : Int} {ks : List ByteArray} (h : Strs w S v ks) (hl : ks.length ≤ 1000000) (h0M : 0 ≤ M) (key : ByteArray) {r : Value} {ks' : List ByteArray} (e1 : lruStep M ks key = r) (e2 : lruReq M ks key = ks') :
    Calls Try.prog 27 #[.agg #[.int .i64 M, v], .string key] w (MakesFrom S w (fun u => .tuple #[.agg #[.int .i64 M, u], r]) fun u w S => Strs w S u ks') := by
  subst e1 e2; exact ref05_Request h hl h0M key
theorem ref05_Adopt_as {w : World} {S : Nat → Prop} {v : Value} {M : Int} {ks : List ByteArray} (h : Strs w S v ks) (hl : ks.length ≤ 1000000) (key : ByteArray) {b : Bool} {ks' : List ByteArray} (e1 : lruRoom M ks key = b) (e2 : (if lruRoom M ks key then bk ks key else ks) = ks') :
    Calls Try.prog 30 #[.agg #[.int .i64 M, v], .string key] w (MakesFrom S w (fun u => .tuple #[.agg #[.int .i64 M, u], .bool b]) fun u w S => Strs w S u ks') := by
  subst e1 e2; exact ref05_Adopt h hl key
theorem lru_Len_as {w : World} {S : Nat → Prop} {b n L : Nat} {most : Int} {ks : List ByteArray} (h : LruAt w S b most ks n) (e : ks.length = L) : Calls Try.prog 17 #[.pointer (some ⟨b, 0, none⟩)] w fun e w' => e = .returned (.int .i64 L) ∧ w = w' := by subst e; exact lru_Len h
theorem lruReq_len (M : Int) (ks : List ByteArray) (k : ByteArray) : (lruReq M ks k).length ≤ ks.length + 1 := by
  unfold lruReq
  split
  · omega
  · split
    · exact bk_le ks k
    · split
      · have := bk_le ks.tail k; rw [List.length_tail] at this; omega
      · exact bk_le ks k

def LPInv (w wr : World) (cb mb k : Nat) : Prop :=
  ∃ own M ks u, Home none0 w wr own ∧ LruAt wr (fun j => own j = 1) cb M ks k ∧ BlkAt wr (fun j => own j = 2) mb [.int .i64 M, u] 42 ∧ Strs wr (fun j => own j = 3) u ks ∧ 0 ≤ M
def LPMid (w wx : World) (cb mb k ab : Nat) (kd : Int) (ky : ByteArray) (n : Int) : Prop :=
  ∃ own M ks u, Home none0 w wx own ∧ LruAt wx (fun j => own j = 1) cb M ks k ∧ BlkAt wx (fun j => own j = 2) mb [.int .i64 M, u] 42 ∧ Strs wx (fun j => own j = 3) u ks ∧ 0 ≤ M ∧ BlkAt wx (fun j => own j = 4) ab [.int .i64 kd, .string ky, .int .i64 n] 45

set_option maxHeartbeats 6400000 in
set_option maxRecDepth 100000 in
theorem lruPlays_walk (m : Int) (v : Value) (xs : List PAct) (w : World) (hm : (Lit.int .i64 m).wf = true) (h : Cells w (fun k => k < w.heap.size) v xs.length 3 (xs.flatMap PAct.cells)) :
    Calls Try.prog 7 #[.int .i64 m, v] w fun e w' => e = .returned (.bool true) ∧ Below w.heap.size w w' := by
  have hm' := i64_range hm
  have H := hid h
  obtain ⟨a, cap, rfl, hc1, hc2, _, _⟩ := h.shape
  unfold maxLen at hc2
  clear hm h
  go_enter Try.func7, Try.ntmps7
  go_wp2_with fail
  with_reducible refine (lru_awake w).mono ?_
  rintro e w1 ⟨rfl, hm1⟩
  have HB := hid ((Home.start none0 w).made 0 hm1)
  clear hm1
  have HF := hid (law05_Few _ xs w1 _ (HB.out.cells H.out))
  go_wp2_with fail
  with_reducible refine HF.out.mono ?_
  rintro e w' ⟨⟨b, rfl, hb⟩, rfl⟩
  clear HF
  cases b with
  | false =>
    clear hb
    go_wp2
    go_ret
    exact ⟨rfl, HB.out.below⟩
  | true =>
    obtain ⟨h200, hfew⟩ := hb rfl
    have HFEW := hid hfew
    clear hb hfew
    obtain ⟨x, hx⟩ : ∃ x, x = max m 0 := ⟨_, rfl⟩
    have hx0 : 0 ≤ x := by rw [hx]; exact Int.le_max_right _ _
    have HX := hid hx
    clear hx
    go_wp2_with fail
    have hct := step_makep HB.out 1 (lru_New m hm')
    with_reducible refine hct.mono ?_
    clear hct
    rintro e x1 ⟨cb, own1, rfl, hB', hL', hK'⟩
    have HC := hid hL'
    replace HB := hid hB'
    clear hB' hL' hK'
    rw [← HX.out] at HC
    have HN := hid (fun y : World => ref05_New (w := y) m hm')
    rw [← HX.out] at HN
    go_wp2_with fail
    have hct := step_quiet HB.out (HN.out _)
    with_reducible refine hct.mono ?_
    clear hct
    rintro e x2 ⟨rfl, hB', hK'⟩
    replace HC := hid (HC.out.keep (hK' 1))
    replace HB := hid hB'
    clear hB' hK'
    clear HN
    go_wp2_with fail
    obtain ⟨own3, hB', hL', hK'⟩ := home_alloc HB.out [.int .i64 x, .slice none 0 0] 42 2
    replace HC := hid (HC.out.keep (hK' 1))
    have HM := hid hL'
    replace HB := hid hB'
    clear hB' hL' hK'
    have hsz_x3 : Hid ((x2.alloc (.cells [.int .i64 x, .slice none 0 0].toArray 42)).heap.size = x2.heap.size + 1) := hid (by simp)
    generalize x2.alloc (.cells [.int .i64 x, .slice none 0 0].toArray 42) = x3 at HB hsz_x3 HC HM ⊢
    generalize x2.heap.size = mb at HM ⊢
    go_loopg [7] (xs.length) (fun g i wr => ∃ k : Nat, k ≤ xs.length ∧ k + g = xs.length ∧ i = .int .i64 k ∧ LPInv w wr cb mb k)
    case atStart => exact ⟨0, by omega, by omega, rfl, own3, x, [], _, HB.out, HC.out, HM.out, Cells.cutNone _ (by decide) _, hx0⟩
    case round =>
      clear hsz_x3
      clear HB HC HM
      obtain ⟨k, hk, hg, rfl, own, M, ks, u, hB, hC, hM, hU, hM0⟩ := hrel
      by_cases hlt : k < xs.length
      · obtain ⟨g, off, rfl, _⟩ : ∃ g off, a = some ⟨g, off, none⟩ ∧ True := by
          obtain ⟨g, off, e, _⟩ := H.out.addr (by omega); exact ⟨g, off, e, trivial⟩
        obtain ⟨p0, p1, p2⟩ := pact_at (hB.cells H.out) hlt
        have hsz := HFEW.out xs[k] (List.getElem_mem hlt)
        generalize xs[k] = xa at *
        obtain ⟨⟨kd, ky, nn⟩, hx1, hx2, hx3⟩ := xa
        simp only at p0 p1 p2 hsz hx1 hx2 hx3
        have r0 := i64_range hx1
        have r3 := i64_range hx3
        have R3 := hid r3
        have hkl : (k : Int) < (xs.length : Int) := by omega
        obtain ⟨au, cu, rfl, hcu, hcu2, _⟩ := hU.shape
        unfold maxLen at hcu2
        have hlen : ks.length ≤ k := hC.le
        clear hx1 hx2 hx3 r3
        have HB := hid hB
        have HC := hid hC
        have HM := hid hM
        have HU := hid hU
        clear hB hC hM hU
        go_upto_block 2 with (fail)
        obtain ⟨own1, hB', hL', hK'⟩ := home_alloc HB.out [.int .i64 kd, .string ky, .int .i64 nn] 45 4
        replace HC := hid (HC.out.keep (hK' 1))
        replace HM := hid (HM.out.keep (hK' 2))
        replace HU := hid (HU.out.keep (hK' 3))
        have HA := hid hL'
        replace HB := hid hB'
        clear hB' hL' hK'
        have hsz_x1 : Hid ((wr.alloc (.cells [.int .i64 kd, .string ky, .int .i64 nn].toArray 45)).heap.size = wr.heap.size + 1) := hid (by simp)
        generalize wr.alloc (.cells [.int .i64 kd, .string ky, .int .i64 nn].toArray 45) = x1 at HB hsz_x1 HC HM HU HA ⊢
        clear p0 p1 p2
        have m0 := HM.out.1.at 0 _ rfl
        have mf0 := HM.out.1.free 0
        have m1 := HM.out.1.at 1 _ rfl
        have mf1 := HM.out.1.free 1
        have mlt := HM.out.1.lt
        have a0 := HA.out.1.at 0 _ rfl
        have a1 := HA.out.1.at 1 _ rfl
        have a2 := HA.out.1.at 2 _ rfl
        have alt := HA.out.1.lt
        go_cut [] (fun wx => LPMid w wx cb mb (k + 1) wr.heap.size kd ky nn)
        case first =>
          have hne_am := BlkAt.nec HA.out HM.out (by decide)
          have hne_ma := BlkAt.nec HM.out HA.out (by decide)
          by_cases hk0 : kd = 0
          · subst hk0
            have s1 := lruStep_eq M ks ky
            generalize lruHit ks ky = hit at s1
            generalize lruVic M ks ky = vic at s1
            generalize lruOutB M ks ky = out at s1
            have S1 := hid s1
            have hl2 := lruReq_len M ks ky
            clear s1
            go_wp2_with fail
            have hct := step_from HB.out (ref05_Request_as HU.out (by omega) hM0 ky S1.out rfl)
            with_reducible refine hct.mono ?_
            clear hct
            rintro e x2 ⟨u2, own2, rfl, hB', hL', hK'⟩
            replace HC := hid (HC.out.keep (hK' 1))
            replace HM := hid (HM.out.keep (hK' 2))
            replace HA := hid (HA.out.keep (hK' 4))
            replace HU := hid hL'
            replace HB := hid hB'
            clear hB' hL' hK'
            replace m0 := HM.out.1.at 0 _ rfl
            replace mf0 := HM.out.1.free 0
            replace m1 := HM.out.1.at 1 _ rfl
            replace mf1 := HM.out.1.free 1
            replace mlt := HM.out.1.lt
            replace a0 := HA.out.1.at 0 _ rfl
            replace a1 := HA.out.1.at 1 _ rfl
            replace a2 := HA.out.1.at 2 _ rfl
            replace alt := HA.out.1.lt
            obtain ⟨ad, cd, rfl, _, _, _⟩ := HU.out.shape
            go_wp2_with fail
            obtain ⟨hB', hL', hK'⟩ := home_store HB.out (by decide) HM.out 0 (.int .i64 M)
            replace HC := hid (HC.out.keep (hK' 1 (by decide)))
            replace HU := hid (HU.out.keep (hK' 3 (by decide)))
            replace HA := hid (HA.out.keep (hK' 4 (by decide)))
            replace HM := hid hL'
            replace HB := hid hB'
            clear hB' hL' hK'
            have hsz_x3 : Hid ((x2.setCell ⟨mb, 0, none⟩ (.int .i64 M)).heap.size = x2.heap.size) := hid (by simp)
            generalize x2.setCell ⟨mb, 0, none⟩ (.int .i64 M) = x3 at HB hsz_x3 HC HM HU HA ⊢
            replace m0 := HM.out.1.at 0 _ rfl
            replace mf0 := HM.out.1.free 0
            replace m1 := HM.out.1.at 1 _ rfl
            replace mf1 := HM.out.1.free 1
            replace mlt := HM.out.1.lt
            replace a0 := HA.out.1.at 0 _ rfl
            replace a1 := HA.out.1.at 1 _ rfl
            replace a2 := HA.out.1.at 2 _ rfl
            replace alt := HA.out.1.lt
            obtain ⟨hB', hL', hK'⟩ := home_store HB.out (by decide) HM.out 1 (.slice ad (lruReq M ks ky).length cd)
            replace HC := hid (HC.out.keep (hK' 1 (by decide)))
            replace HU := hid (HU.out.keep (hK' 3 (by decide)))
            replace HA := hid (HA.out.keep (hK' 4 (by decide)))
            replace HM := hid hL'
            replace HB := hid hB'
            clear hB' hL' hK'
            have hsz_x4 : Hid ((x3.setCell ⟨mb, 1, none⟩ (.slice ad (lruReq M ks ky).length cd)).heap.size = x2.heap.size) := hid (by simp [hsz_x3.out])
            generalize x3.setCell ⟨mb, 1, none⟩ (.slice ad (lruReq M ks ky).length cd) = x4 at HB hsz_x4 HC HM HU HA ⊢
            replace m0 := HM.out.1.at 0 _ rfl
            replace mf0 := HM.out.1.free 0
            replace m1 := HM.out.1.at 1 _ rfl
            replace mf1 := HM.out.1.free 1
            replace mlt := HM.out.1.lt
            replace a0 := HA.out.1.at 0 _ rfl
            replace a1 := HA.out.1.at 1 _ rfl
            replace a2 := HA.out.1.at 2 _ rfl
            replace alt := HA.out.1.lt
            obtain ⟨own5, hB', hL', hK'⟩ := home_alloc HB.out [.int .i64 M, .slice ad (lruReq M ks ky).length cd] 42 5
            replace HC := hid (HC.out.keep (hK' 1))
            replace HM := hid (HM.out.keep (hK' 2))
            replace HU := hid (HU.out.keep (hK' 3))
            replace HA := hid (HA.out.keep (hK' 4))
            rw [hsz_x4.out] at hL'
            have H9 := hid hL'
            replace HB := hid hB'
            clear hB' hL' hK'
            have hsz_x5 : Hid ((x4.alloc (.cells [.int .i64 M, .slice ad (lruReq M ks ky).length cd].toArray 42)).heap.size = x2.heap.size + 1) := hid (by simp [hsz_x4.out])
            generalize x4.alloc (.cells [.int .i64 M, .slice ad (lruReq M ks ky).length cd].toArray 42) = x5 at HB hsz_x5 HC HM HU HA H9 ⊢
            replace m0 := HM.out.1.at 0 _ rfl
            replace mf0 := HM.out.1.free 0
            replace m1 := HM.out.1.at 1 _ rfl
            replace mf1 := HM.out.1.free 1
            replace mlt := HM.out.1.lt
            replace a0 := HA.out.1.at 0 _ rfl
            replace a1 := HA.out.1.at 1 _ rfl
            replace a2 := HA.out.1.at 2 _ rfl
            replace alt := HA.out.1.lt
            obtain ⟨own6, hB', hL', hK'⟩ := home_alloc HB.out [.bool hit, .string vic, .bool out] 27 6
            replace HC := hid (HC.out.keep (hK' 1))
            replace HM := hid (HM.out.keep (hK' 2))
            replace HU := hid (HU.out.keep (hK' 3))
            replace HA := hid (HA.out.keep (hK' 4))
            replace H9 := hid (H9.out.keep (hK' 5))
            rw [hsz_x5.out] at hL'
            have H10 := hid hL'
            replace HB := hid hB'
            clear hB' hL' hK'
            have hsz_x6 : Hid ((x5.alloc (.cells [.bool hit, .string vic, .bool out].toArray 27)).heap.size = x2.heap.size + 2) := hid (by simp [hsz_x5.out])
            generalize x5.alloc (.cells [.bool hit, .string vic, .bool out].toArray 27) = x6 at HB hsz_x6 HC HM HU HA H9 H10 ⊢
            replace m0 := HM.out.1.at 0 _ rfl
            replace mf0 := HM.out.1.free 0
            replace m1 := HM.out.1.at 1 _ rfl
            replace mf1 := HM.out.1.free 1
            replace mlt := HM.out.1.lt
            replace a0 := HA.out.1.at 0 _ rfl
            replace a1 := HA.out.1.at 1 _ rfl
            replace a2 := HA.out.1.at 2 _ rfl
            replace alt := HA.out.1.lt
            have n0 := H10.out.1.at 0 _ rfl
            have n1 := H10.out.1.at 1 _ rfl
            have n2 := H10.out.1.at 2 _ rfl
            have nlt := H10.out.1.lt
            generalize hbx : x2.heap.size + 1 = bx at H10 n0 n1 n2 nlt ⊢
            clear hbx
            obtain ⟨hB', hK'⟩ := home_drew HB.out
            replace HC := hid (HC.out.keep (hK' 1))
            replace HM := hid (HM.out.keep (hK' 2))
            replace HU := hid (HU.out.keep (hK' 3))
            replace HA := hid (HA.out.keep (hK' 4))
            replace H9 := hid (H9.out.keep (hK' 5))
            replace H10 := hid (H10.out.keep (hK' 6))
            replace HB := hid hB'
            clear hB' hK'
            replace m0 := HM.out.1.at 0 _ rfl
            replace mf0 := HM.out.1.free 0
            replace m1 := HM.out.1.at 1 _ rfl
            replace mf1 := HM.out.1.free 1
            replace mlt := HM.out.1.lt
            replace a0 := HA.out.1.at 0 _ rfl
            replace a1 := HA.out.1.at 1 _ rfl
            replace a2 := HA.out.1.at 2 _ rfl
            replace alt := HA.out.1.lt
            replace n0 := H10.out.1.at 0 _ rfl
            replace n1 := H10.out.1.at 1 _ rfl
            replace n2 := H10.out.1.at 2 _ rfl
            replace nlt := H10.out.1.lt
            have tok1 : True := trivial
            go_region_held3 (fun w' => w'.cell? ⟨wr.heap.size, 1, none⟩ = some (.string ky) ∧ w'.cell? ⟨bx, 0, none⟩ = some (.bool hit) ∧ w'.cell? ⟨bx, 1, none⟩ = some (.string vic) ∧ w'.cell? ⟨bx, 2, none⟩ = some (.bool out)) (first | assumption | exact ⟨a1, n0, n1, n2⟩) (first
              | (go_at_call 16; have _t := tok1; clear tok1 _t; have hct := step_turn HB.out (by decide) (lru_Request_as HC.out (by omega) ky S1.out rfl); with_reducible refine hct.mono ?_; clear hct; rintro e x8 ⟨own8, rfl, hB', hL', hK'⟩; replace HM := hid (HM.out.keep (hK' 2 (by decide))); replace HU := hid (HU.out.keep (hK' 3 (by decide))); replace HA := hid (HA.out.keep (hK' 4 (by decide))); replace H9 := hid (H9.out.keep (hK' 5 (by decide))); replace H10 := hid (H10.out.keep (hK' 6 (by decide))); replace HC := hid hL'; replace HB := hid hB'; clear hB' hL' hK'; replace m0 := HM.out.c0; replace mf0 := HM.out.fr 0; replace m1 := HM.out.c1; replace mf1 := HM.out.fr 1; replace mlt := HM.out.lt; replace a0 := HA.out.c0; replace a1 := HA.out.c1; replace a2 := HA.out.c2; replace alt := HA.out.lt; replace n0 := H10.out.c0; replace n1 := H10.out.c1; replace n2 := H10.out.c2; replace nlt := H10.out.lt))
            go_wp2_with fail
            go_meet
            exact ⟨own8, M, _, _, HB.out, HC.out, HM.out, HU.out, hM0, HA.out⟩
          · have hk0' := eqf hk0
            by_cases hk1 : kd = 1
            · subst hk1
              obtain ⟨d, hd⟩ : ∃ d, decide (ky ∈ ks) = d := ⟨_, rfl⟩
              have HD := hid hd
              have hdd : (d != d) = false := by simp
              have hrl := rm_le ks ky
              clear hd
              go_wp2_with fail
              obtain ⟨hB', hK'⟩ := home_drew HB.out
              replace HC := hid (HC.out.keep (hK' 1))
              replace HM := hid (HM.out.keep (hK' 2))
              replace HU := hid (HU.out.keep (hK' 3))
              replace HA := hid (HA.out.keep (hK' 4))
              replace HB := hid hB'
              clear hB' hK'
              replace m0 := HM.out.1.at 0 _ rfl
              replace mf0 := HM.out.1.free 0
              replace m1 := HM.out.1.at 1 _ rfl
              replace mf1 := HM.out.1.free 1
              replace mlt := HM.out.1.lt
              replace a0 := HA.out.1.at 0 _ rfl
              replace a1 := HA.out.1.at 1 _ rfl
              replace a2 := HA.out.1.at 2 _ rfl
              replace alt := HA.out.1.lt
              have tok1 : True := trivial
              have tok2 : True := trivial
              go_region_held3 (fun w' => w'.cell? ⟨wr.heap.size, 1, none⟩ = some (.string ky) ∧ w'.cell? ⟨mb, 1, none⟩ = some (.slice au ks.length cu)) (first | assumption | exact ⟨a1, m1⟩) (first
                | (go_at_call 28; have _t := tok1; clear tok1 _t; have hct := step_turn HB.out (by decide) (lru_Remove_as HC.out (by omega) ky HD.out rfl); with_reducible refine hct.mono ?_; clear hct; rintro e x3 ⟨own3, rfl, hB', hL', hK'⟩; replace HM := hid (HM.out.keep (hK' 2 (by decide))); replace HU := hid (HU.out.keep (hK' 3 (by decide))); replace HA := hid (HA.out.keep (hK' 4 (by decide))); replace HC := hid hL'; replace HB := hid hB'; clear hB' hL' hK'; replace m0 := HM.out.c0; replace mf0 := HM.out.fr 0; replace m1 := HM.out.c1; replace mf1 := HM.out.fr 1; replace mlt := HM.out.lt; replace a0 := HA.out.c0; replace a1 := HA.out.c1; replace a2 := HA.out.c2; replace alt := HA.out.lt)
                | (go_at_call 20; have _t := tok2; clear tok2 _t; have hct := (r_Has HU.out ky); with_reducible refine hct.mono ?_; clear hct; rintro e w' ⟨rfl, rfl⟩; rw [HD.out]))
              go_wp2_with fail
              go_wp2_with fail
              have hct := step_make HB.out 3 (r_Remove HU.out (by omega) ky)
              with_reducible refine hct.mono ?_
              clear hct
              rintro e x5 ⟨u2, own5, rfl, hB', hL', hK'⟩
              replace HC := hid (HC.out.keep (hK' 1))
              replace HM := hid (HM.out.keep (hK' 2))
              replace HU := hid (HU.out.keep (hK' 3))
              replace HA := hid (HA.out.keep (hK' 4))
              have HU2 := hid hL'
              replace HB := hid hB'
              clear hB' hL' hK'
              replace m0 := HM.out.1.at 0 _ rfl
              replace mf0 := HM.out.1.free 0
              replace m1 := HM.out.1.at 1 _ rfl
              replace mf1 := HM.out.1.free 1
              replace mlt := HM.out.1.lt
              replace a0 := HA.out.1.at 0 _ rfl
              replace a1 := HA.out.1.at 1 _ rfl
              replace a2 := HA.out.1.at 2 _ rfl
              replace alt := HA.out.1.lt
              obtain ⟨ad, cd, rfl, _, _⟩ := HU2.out.len
              go_wp2_with fail
              obtain ⟨hB', hL', hK'⟩ := home_store HB.out (by decide) HM.out 1 (.slice ad (rm ks ky).length cd)
              replace HC := hid (HC.out.keep (hK' 1 (by decide)))
              replace HU := hid (HU.out.keep (hK' 3 (by decide)))
              replace HA := hid (HA.out.keep (hK' 4 (by decide)))
              replace HU2 := hid (HU2.out.keep (hK' 3 (by decide)))
              replace HM := hid hL'
              replace HB := hid hB'
              clear hB' hL' hK'
              have hsz_x6 : Hid ((x5.setCell ⟨mb, 1, none⟩ (.slice ad (rm ks ky).length cd)).heap.size = x5.heap.size) := hid (by simp)
              generalize x5.setCell ⟨mb, 1, none⟩ (.slice ad (rm ks ky).length cd) = x6 at HB hsz_x6 HC HM HU HA HU2 ⊢
              replace m0 := HM.out.1.at 0 _ rfl
              replace mf0 := HM.out.1.free 0
              replace m1 := HM.out.1.at 1 _ rfl
              replace mf1 := HM.out.1.free 1
              replace mlt := HM.out.1.lt
              replace a0 := HA.out.1.at 0 _ rfl
              replace a1 := HA.out.1.at 1 _ rfl
              replace a2 := HA.out.1.at 2 _ rfl
              replace alt := HA.out.1.lt
              go_meet
              exact ⟨own5, M, _, _, HB.out, HC.out.up (by omega), HM.out, HU2.out.strs, hM0, HA.out⟩
            · have hk1' := eqf hk1
              by_cases hk2 : kd = 2
              · subst hk2
                obtain ⟨d, hd⟩ : ∃ d, lruRoom M ks ky = d := ⟨_, rfl⟩
                have HD := hid hd
                have hdd : (d != d) = false := by simp
                obtain ⟨ks', hks⟩ : ∃ ks', (if lruRoom M ks ky then bk ks ky else ks) = ks' := ⟨_, rfl⟩
                have HKS := hid hks
                have hlk : ks'.length ≤ ks.length + 1 := by rw [← hks]; split; exact bk_le ks ky; omega
                clear hd hks
                go_wp2_with fail
                have hct := step_from HB.out (ref05_Adopt_as HU.out (by omega) ky HD.out HKS.out)
                with_reducible refine hct.mono ?_
                clear hct
                rintro e x2 ⟨u2, own2, rfl, hB', hL', hK'⟩
                replace HC := hid (HC.out.keep (hK' 1))
                replace HM := hid (HM.out.keep (hK' 2))
                replace HA := hid (HA.out.keep (hK' 4))
                replace HU := hid hL'
                replace HB := hid hB'
                clear hB' hL' hK'
                replace m0 := HM.out.1.at 0 _ rfl
                replace mf0 := HM.out.1.free 0
                replace m1 := HM.out.1.at 1 _ rfl
                replace mf1 := HM.out.1.free 1
                replace mlt := HM.out.1.lt
                replace a0 := HA.out.1.at 0 _ rfl
                replace a1 := HA.out.1.at 1 _ rfl
                replace a2 := HA.out.1.at 2 _ rfl
                replace alt := HA.out.1.lt
                obtain ⟨ad, cd, rfl, _, _, _⟩ := HU.out.shape
                go_wp2_with fail
                obtain ⟨hB', hL', hK'⟩ := home_store HB.out (by decide) HM.out 0 (.int .i64 M)
                replace HC := hid (HC.out.keep (hK' 1 (by decide)))
                replace HU := hid (HU.out.keep (hK' 3 (by decide)))
                replace HA := hid (HA.out.keep (hK' 4 (by decide)))
                replace HM := hid hL'
                replace HB := hid hB'
                clear hB' hL' hK'
                have hsz_x3 : Hid ((x2.setCell ⟨mb, 0, none⟩ (.int .i64 M)).heap.size = x2.heap.size) := hid (by simp)
                generalize x2.setCell ⟨mb, 0, none⟩ (.int .i64 M) = x3 at HB hsz_x3 HC HM HU HA ⊢
                replace m0 := HM.out.1.at 0 _ rfl
                replace mf0 := HM.out.1.free 0
                replace m1 := HM.out.1.at 1 _ rfl
                replace mf1 := HM.out.1.free 1
                replace mlt := HM.out.1.lt
                replace a0 := HA.out.1.at 0 _ rfl
                replace a1 := HA.out.1.at 1 _ rfl
                replace a2 := HA.out.1.at 2 _ rfl
                replace alt := HA.out.1.lt
                obtain ⟨hB', hL', hK'⟩ := home_store HB.out (by decide) HM.out 1 (.slice ad ks'.length cd)
                replace HC := hid (HC.out.keep (hK' 1 (by decide)))
                replace HU := hid (HU.out.keep (hK' 3 (by decide)))
                replace HA := hid (HA.out.keep (hK' 4 (by decide)))
                replace HM := hid hL'
                replace HB := hid hB'
                clear hB' hL' hK'
                have hsz_x4 : Hid ((x3.setCell ⟨mb, 1, none⟩ (.slice ad ks'.length cd)).heap.size = x2.heap.size) := hid (by simp [hsz_x3.out])
                generalize x3.setCell ⟨mb, 1, none⟩ (.slice ad ks'.length cd) = x4 at HB hsz_x4 HC HM HU HA ⊢
                replace m0 := HM.out.1.at 0 _ rfl
                replace mf0 := HM.out.1.free 0
                replace m1 := HM.out.1.at 1 _ rfl
                replace mf1 := HM.out.1.free 1
                replace mlt := HM.out.1.lt
                replace a0 := HA.out.1.at 0 _ rfl
                replace a1 := HA.out.1.at 1 _ rfl
                replace a2 := HA.out.1.at 2 _ rfl
                replace alt := HA.out.1.lt
                obtain ⟨own5, hB', hL', hK'⟩ := home_alloc HB.out [.int .i64 M, .slice ad ks'.length cd] 42 5
                replace HC := hid (HC.out.keep (hK' 1))
                replace HM := hid (HM.out.keep (hK' 2))
                replace HU := hid (HU.out.keep (hK' 3))
                replace HA := hid (HA.out.keep (hK' 4))
                rw [hsz_x4.out] at hL'
                have H9 := hid hL'
                replace HB := hid hB'
                clear hB' hL' hK'
                have hsz_x5 : Hid ((x4.alloc (.cells [.int .i64 M, .slice ad ks'.length cd].toArray 42)).heap.size = x2.heap.size + 1) := hid (by simp [hsz_x4.out])
                generalize x4.alloc (.cells [.int .i64 M, .slice ad ks'.length cd].toArray 42) = x5 at HB hsz_x5 HC HM HU HA H9 ⊢
                replace m0 := HM.out.1.at 0 _ rfl
                replace mf0 := HM.out.1.free 0
                replace m1 := HM.out.1.at 1 _ rfl
                replace mf1 := HM.out.1.free 1
                replace mlt := HM.out.1.lt
                replace a0 := HA.out.1.at 0 _ rfl
                replace a1 := HA.out.1.at 1 _ rfl
                replace a2 := HA.out.1.at 2 _ rfl
                replace alt := HA.out.1.lt
                go_wp2_with fail
                have hct := step_turn HB.out (by decide) (lru_Adopt_as HC.out (by omega) ky HD.out HKS.out)
                with_reducible refine hct.mono ?_
                clear hct
                rintro e x6 ⟨own6, rfl, hB', hL', hK'⟩
                replace HM := hid (HM.out.keep (hK' 2 (by decide)))
                replace HU := hid (HU.out.keep (hK' 3 (by decide)))
                replace HA := hid (HA.out.keep (hK' 4 (by decide)))
                replace H9 := hid (H9.out.keep (hK' 5 (by decide)))
                replace HC := hid hL'
                replace HB := hid hB'
                clear hB' hL' hK'
                replace m0 := HM.out.1.at 0 _ rfl
                replace mf0 := HM.out.1.free 0
                replace m1 := HM.out.1.at 1 _ rfl
                replace mf1 := HM.out.1.free 1
                replace mlt := HM.out.1.lt
                replace a0 := HA.out.1.at 0 _ rfl
                replace a1 := HA.out.1.at 1 _ rfl
                replace a2 := HA.out.1.at 2 _ rfl
                replace alt := HA.out.1.lt
                go_wp2_with fail
                go_meet
                exact ⟨own6, M, _, _, HB.out, HC.out, HM.out, HU.out, hM0, HA.out⟩
              · have hk2' := eqf hk2
                by_cases hk3 : kd = 3
                · subst hk3
                  cases ks with
                  | nil =>
                    go_wp2_with fail
                    have hct := step_turn HB.out (by decide) (after_as (lru_Drop HC.out (by omega)) (r' := .tuple #[.string ⟨#[]⟩, .bool false]) (by kernel_rfl) (fun _ _ q => q))
                    with_reducible refine hct.mono ?_
                    clear hct
                    rintro e x2 ⟨own2, rfl, hB', hL', hK'⟩
                    replace HM := hid (HM.out.keep (hK' 2 (by decide)))
                    replace HU := hid (HU.out.keep (hK' 3 (by decide)))
                    replace HA := hid (HA.out.keep (hK' 4 (by decide)))
                    replace HC := hid hL'
                    replace HB := hid hB'
                    clear hB' hL' hK'
                    replace m0 := HM.out.1.at 0 _ rfl
                    replace mf0 := HM.out.1.free 0
                    replace m1 := HM.out.1.at 1 _ rfl
                    replace mf1 := HM.out.1.free 1
                    replace mlt := HM.out.1.lt
                    replace a0 := HA.out.1.at 0 _ rfl
                    replace a1 := HA.out.1.at 1 _ rfl
                    replace a2 := HA.out.1.at 2 _ rfl
                    replace alt := HA.out.1.lt
                    go_wp2_with fail
                    go_meet
                    exact ⟨own2, M, _, _, HB.out, HC.out.up (by omega), HM.out, HU.out, hM0, HA.out⟩
                  | cons x r =>
                    obtain ⟨g2, o2, rfl, _, _⟩ := Strs.get (k := 0) HU.out (by simp)
                    have hxs := str_t (rfl : x = x)
                    obtain ⟨A, hA⟩ : ∃ A, (if cu = 1 then (some ⟨g2, o2, none⟩ : Option Addr) else some ⟨g2, o2 + 1, none⟩) = A := ⟨_, rfl⟩
                    have HTL := hid (fun y S (hy : Strs y S (.slice (some ⟨g2, o2, none⟩) (x :: r).length cu) (x :: r)) => hy.tail (by simp) hA)
                    have hcu1 : (1 : Int) ≤ (cu : Int) := by simp at hcu; omega
                    go_wp2_with fail
                    have hct := step_turn HB.out (by decide) (after_as (lru_Drop HC.out (by omega)) (r' := .tuple #[.string x, .bool true]) (by simp [headV]) (fun _ _ q => q))
                    with_reducible refine hct.mono ?_
                    clear hct
                    rintro e x3 ⟨own3, rfl, hB', hL', hK'⟩
                    replace HM := hid (HM.out.keep (hK' 2 (by decide)))
                    replace HU := hid (HU.out.keep (hK' 3 (by decide)))
                    replace HA := hid (HA.out.keep (hK' 4 (by decide)))
                    replace HC := hid hL'
                    replace HB := hid hB'
                    clear hB' hL' hK'
                    replace m0 := HM.out.1.at 0 _ rfl
                    replace mf0 := HM.out.1.free 0
                    replace m1 := HM.out.1.at 1 _ rfl
                    replace mf1 := HM.out.1.free 1
                    replace mlt := HM.out.1.lt
                    replace a0 := HA.out.1.at 0 _ rfl
                    replace a1 := HA.out.1.at 1 _ rfl
                    replace a2 := HA.out.1.at 2 _ rfl
                    replace alt := HA.out.1.lt
                    have pv := Strs.head HU.out (rfl : (x :: r)[0]? = some x)
                    go_wp2_with fail
                    clear pv hA
                    obtain ⟨hB', hL', hK'⟩ := home_store HB.out (by decide) HM.out 1 (.slice A r.length (cu - 1))
                    replace HC := hid (HC.out.keep (hK' 1 (by decide)))
                    replace HU := hid (HU.out.keep (hK' 3 (by decide)))
                    replace HA := hid (HA.out.keep (hK' 4 (by decide)))
                    replace HM := hid hL'
                    replace HB := hid hB'
                    clear hB' hL' hK'
                    have hsz_x4 : Hid ((x3.setCell ⟨mb, 1, none⟩ (.slice A r.length (cu - 1))).heap.size = x3.heap.size) := hid (by simp)
                    generalize x3.setCell ⟨mb, 1, none⟩ (.slice A r.length (cu - 1)) = x4 at HB hsz_x4 HC HM HU HA ⊢
                    replace m0 := HM.out.1.at 0 _ rfl
                    replace mf0 := HM.out.1.free 0
                    replace m1 := HM.out.1.at 1 _ rfl
                    replace mf1 := HM.out.1.free 1
                    replace mlt := HM.out.1.lt
                    replace a0 := HA.out.1.at 0 _ rfl
                    replace a1 := HA.out.1.at 1 _ rfl
                    replace a2 := HA.out.1.at 2 _ rfl
                    replace alt := HA.out.1.lt
                    go_meet
                    exact ⟨own3, M, r, _, HB.out, HC.out.up (by omega), HM.out, by have := HTL.out _ _ HU.out; simpa using this, hM0, HA.out⟩
                · have hk3' := eqf hk3
                  by_cases hk4 : kd = 4
                  · subst hk4
                    obtain ⟨xn, hxn⟩ : ∃ xn, max nn 0 = xn := ⟨_, rfl⟩
                    have hxn0 : 0 ≤ xn := by rw [← hxn]; exact Int.le_max_right _ _
                    have HXN := hid hxn
                    have hq := ref05_Resize (M := M) HU.out (by omega) nn R3.out
                    rw [hxn] at hq
                    have HQ := hid hq
                    clear hq hxn
                    go_wp2_with fail
                    with_reducible refine HQ.out.mono ?_
                    rintro e x9 ⟨u, o, rfl, hm9, hu9, ho9⟩
                    clear HQ
                    obtain ⟨hB', hK'⟩ := home_still HB.out hm9
                    replace HC := hid (HC.out.keep (hK' 1))
                    replace HM := hid (HM.out.keep (hK' 2))
                    replace HU := hid (HU.out.keep (hK' 3))
                    replace HA := hid (HA.out.keep (hK' 4))
                    replace HB := hid hB'
                    clear hB' hK'
                    replace m0 := HM.out.1.at 0 _ rfl
                    replace mf0 := HM.out.1.free 0
                    replace m1 := HM.out.1.at 1 _ rfl
                    replace mf1 := HM.out.1.free 1
                    replace mlt := HM.out.1.lt
                    replace a0 := HA.out.1.at 0 _ rfl
                    replace a1 := HA.out.1.at 1 _ rfl
                    replace a2 := HA.out.1.at 2 _ rfl
                    replace alt := HA.out.1.lt
                    have HU2 := hid hu9; have HO := hid ho9
                    obtain ⟨ad, cd, rfl, _, _, _⟩ := hu9.shape
                    obtain ⟨ao, co, rfl, _, _, _⟩ := ho9.shape
                    clear hm9 hu9 ho9
                    go_wp2_with fail
                    obtain ⟨hB', hL', hK'⟩ := home_store HB.out (by decide) HM.out 0 (.int .i64 xn)
                    replace HC := hid (HC.out.keep (hK' 1 (by decide)))
                    replace HU := hid (HU.out.keep (hK' 3 (by decide)))
                    replace HA := hid (HA.out.keep (hK' 4 (by decide)))
                    replace HU2 := hid (HU2.out.keep (hK' 3 (by decide)))
                    replace HO := hid (HO.out.keep (hK' 3 (by decide)))
                    replace HM := hid hL'
                    replace HB := hid hB'
                    clear hB' hL' hK'
                    have hsz_x3 : Hid ((x9.setCell ⟨mb, 0, none⟩ (.int .i64 xn)).heap.size = x9.heap.size) := hid (by simp)
                    generalize x9.setCell ⟨mb, 0, none⟩ (.int .i64 xn) = x3 at HB hsz_x3 HC HM HU HA HU2 HO ⊢
                    replace m0 := HM.out.1.at 0 _ rfl
                    replace mf0 := HM.out.1.free 0
                    replace m1 := HM.out.1.at 1 _ rfl
                    replace mf1 := HM.out.1.free 1
                    replace mlt := HM.out.1.lt
                    replace a0 := HA.out.1.at 0 _ rfl
                    replace a1 := HA.out.1.at 1 _ rfl
                    replace a2 := HA.out.1.at 2 _ rfl
                    replace alt := HA.out.1.lt
                    obtain ⟨hB', hL', hK'⟩ := home_store HB.out (by decide) HM.out 1 (.slice ad (lruKeep nn ks).length cd)
                    replace HC := hid (HC.out.keep (hK' 1 (by decide)))
                    replace HU := hid (HU.out.keep (hK' 3 (by decide)))
                    replace HA := hid (HA.out.keep (hK' 4 (by decide)))
                    replace HU2 := hid (HU2.out.keep (hK' 3 (by decide)))
                    replace HO := hid (HO.out.keep (hK' 3 (by decide)))
                    replace HM := hid hL'
                    replace HB := hid hB'
                    clear hB' hL' hK'
                    have hsz_x4 : Hid ((x3.setCell ⟨mb, 1, none⟩ (.slice ad (lruKeep nn ks).length cd)).heap.size = x9.heap.size) := hid (by simp [hsz_x3.out])
                    generalize x3.setCell ⟨mb, 1, none⟩ (.slice ad (lruKeep nn ks).length cd) = x4 at HB hsz_x4 HC HM HU HA HU2 HO ⊢
                    replace m0 := HM.out.1.at 0 _ rfl
                    replace mf0 := HM.out.1.free 0
                    replace m1 := HM.out.1.at 1 _ rfl
                    replace mf1 := HM.out.1.free 1
                    replace mlt := HM.out.1.lt
                    replace a0 := HA.out.1.at 0 _ rfl
                    replace a1 := HA.out.1.at 1 _ rfl
                    replace a2 := HA.out.1.at 2 _ rfl
                    replace alt := HA.out.1.lt
                    obtain ⟨own5, hB', hL', hK'⟩ := home_alloc HB.out [.int .i64 xn, .slice ad (lruKeep nn ks).length cd] 42 5
                    replace HC := hid (HC.out.keep (hK' 1))
                    replace HM := hid (HM.out.keep (hK' 2))
                    replace HU := hid (HU.out.keep (hK' 3))
                    replace HA := hid (HA.out.keep (hK' 4))
                    replace HU2 := hid (HU2.out.keep (hK' 3))
                    replace HO := hid (HO.out.keep (hK' 3))
                    rw [hsz_x4.out] at hL'
                    have H9 := hid hL'
                    replace HB := hid hB'
                    clear hB' hL' hK'
                    have hsz_x5 : Hid ((x4.alloc (.cells [.int .i64 xn, .slice ad (lruKeep nn ks).length cd].toArray 42)).heap.size = x9.heap.size + 1) := hid (by simp [hsz_x4.out])
                    generalize x4.alloc (.cells [.int .i64 xn, .slice ad (lruKeep nn ks).length cd].toArray 42) = x5 at HB hsz_x5 HC HM HU HA HU2 HO H9 ⊢
                    replace m0 := HM.out.1.at 0 _ rfl
                    replace mf0 := HM.out.1.free 0
                    replace m1 := HM.out.1.at 1 _ rfl
                    replace mf1 := HM.out.1.free 1
                    replace mlt := HM.out.1.lt
                    replace a0 := HA.out.1.at 0 _ rfl
                    replace a1 := HA.out.1.at 1 _ rfl
                    replace a2 := HA.out.1.at 2 _ rfl
                    replace alt := HA.out.1.lt
                    go_wp2_with fail
                    have hct := step_turnmake HB.out (by decide) 7 (lru_Resize_as HC.out (by omega) nn R3.out (m' := xn) HXN.out rfl rfl)
                    with_reducible refine hct.mono ?_
                    clear hct
                    rintro e x6 ⟨vo, own6, rfl, hB', hL', hN', hK'⟩
                    replace HM := hid (HM.out.keep (hK' 2 (by decide)))
                    replace HU := hid (HU.out.keep (hK' 3 (by decide)))
                    replace HA := hid (HA.out.keep (hK' 4 (by decide)))
                    replace HU2 := hid (HU2.out.keep (hK' 3 (by decide)))
                    replace HO := hid (HO.out.keep (hK' 3 (by decide)))
                    replace H9 := hid (H9.out.keep (hK' 5 (by decide)))
                    replace HC := hid hL'
                    have HO2 := hid hN'
                    replace HB := hid hB'
                    clear hB' hL' hN' hK'
                    replace m0 := HM.out.1.at 0 _ rfl
                    replace mf0 := HM.out.1.free 0
                    replace m1 := HM.out.1.at 1 _ rfl
                    replace mf1 := HM.out.1.free 1
                    replace mlt := HM.out.1.lt
                    replace a0 := HA.out.1.at 0 _ rfl
                    replace a1 := HA.out.1.at 1 _ rfl
                    replace a2 := HA.out.1.at 2 _ rfl
                    replace alt := HA.out.1.lt
                    go_wp2_with fail
                    have hct := step_read HB.out (w_Same HO2.out.strs' HO.out (x := true) (by simp))
                    with_reducible refine hct.mono ?_
                    clear hct
                    rintro e x7 ⟨rfl, hB', hK'⟩
                    replace HC := hid (HC.out.keep (hK' 1))
                    replace HM := hid (HM.out.keep (hK' 2))
                    replace HU := hid (HU.out.keep (hK' 3))
                    replace HA := hid (HA.out.keep (hK' 4))
                    replace HU2 := hid (HU2.out.keep (hK' 3))
                    replace HO := hid (HO.out.keep (hK' 3))
                    replace H9 := hid (H9.out.keep (hK' 5))
                    replace HO2 := hid (HO2.out.keep (hK' 7))
                    replace HB := hid hB'
                    clear hB' hK'
                    replace m0 := HM.out.1.at 0 _ rfl
                    replace mf0 := HM.out.1.free 0
                    replace m1 := HM.out.1.at 1 _ rfl
                    replace mf1 := HM.out.1.free 1
                    replace mlt := HM.out.1.lt
                    replace a0 := HA.out.1.at 0 _ rfl
                    replace a1 := HA.out.1.at 1 _ rfl
                    replace a2 := HA.out.1.at 2 _ rfl
                    replace alt := HA.out.1.lt
                    go_wp2_with fail
                    go_meet
                    exact ⟨own6, xn, _, _, HB.out, HC.out.up (by omega), HM.out, HU2.out, hxn0, HA.out⟩
                  · have hk4' := eqf hk4
                    go_wp2_with fail
                    go_meet
                    exact ⟨own1, M, _, _, HB.out, HC.out.up (by omega), HM.out, HU.out, hM0, HA.out⟩
        case rest =>
          clear hM0 hlen hcu hcu2
          clear HB HC HM HU HA m0 mf0 m1 mf1 mlt a0 a1 a2 alt
          obtain ⟨own', M', ks', u', hB, hC, hM, hU, hM0, hA⟩ := hcut
          obtain ⟨au', cu', rfl, hcu, hcu2, _⟩ := hU.shape
          unfold maxLen at hcu2
          have hlen : ks'.length ≤ k + 1 := hC.le
          obtain ⟨L, hL⟩ : ∃ L, ks'.length = L := ⟨_, rfl⟩
          rw [hL] at hM hU hcu
          have HL := hid hL
          clear hL
          have HB := hid hB
          have HC := hid hC
          have HM := hid hM
          have HU := hid hU
          have HA := hid hA
          clear hB hC hM hU hA
          obtain ⟨d, hd⟩ : ∃ d, decide (ky ∈ ks') = d := ⟨_, rfl⟩
          have HD := hid hd
          have hdd : (d != d) = false := by simp
          clear hd
          cases ks' with
          | nil =>
            obtain rfl : L = 0 := HL.out.symm
            go_wp2_with fail
            have hct := step_read HB.out (reads_as (lru_Victim HC.out) (r' := .tuple #[.string ⟨#[]⟩, .bool false]) (by kernel_rfl))
            with_reducible refine hct.mono ?_
            clear hct
            rintro e x1 ⟨rfl, hB', hK'⟩
            replace HC := hid (HC.out.keep (hK' 1))
            replace HM := hid (HM.out.keep (hK' 2))
            replace HU := hid (HU.out.keep (hK' 3))
            replace HA := hid (HA.out.keep (hK' 4))
            replace HB := hid hB'
            clear hB' hK'
            have m0 := HM.out.1.at 0 _ rfl
            have m1 := HM.out.1.at 1 _ rfl
            have mlt := HM.out.1.lt
            have a0 := HA.out.1.at 0 _ rfl
            have a1 := HA.out.1.at 1 _ rfl
            have a2 := HA.out.1.at 2 _ rfl
            have alt := HA.out.1.lt
            go_wp2_with fail
            have hsame : decide (([] : List ByteArray) = ([] : List ByteArray)) = true := by simp
            refine wp_region_local [143, 144, 145, 146, 147, 148, 149, 150, 151, 152, 153, 154, 155, 156, 157, 158, 159, 160, 161, 162, 163, 164, 165, 166, 167, 168, 169, 170, 171, 172, 173, 174, 175, 176, 177, 178, 179, 180, 181, 182, 183, 184, 185, 186, 187, 188, 189, 190, 191, 192, 193, 194, 195, 196, 197, 198, 199, 200, 201] [Ex (.pointer (some ⟨cb, 0, none⟩)), (fun v y => Row y (fun _ => True) 9 1 v (([] : List ByteArray) : List ByteArray).length ((([] : List ByteArray) : List ByteArray).map Value.string)), Ex (.pointer (some ⟨mb, 1, none⟩)), Ex (.slice au' 0 cu'), Ex (.bool true), Ex (.bool false), Ex (.bool false), Ex (.pointer (some ⟨cb, 0, none⟩)), Ex (.int .i64 0), Ex (.pointer (some ⟨mb, 1, none⟩)), Ex (.slice au' 0 cu'), Ex (.int .i64 0), Ex (.bool false), Ex (.bool false), Ex (.bool false), Ex (.pointer (some ⟨cb, 0, none⟩)), Ex (.pointer (some ⟨wr.heap.size, 1, none⟩)), Ex (.string ky), Ex (.bool d), Ex (.pointer (some ⟨mb, 1, none⟩)), Ex (.slice au' 0 cu'), Ex (.pointer (some ⟨wr.heap.size, 1, none⟩)), Ex (.string ky), Ex (.bool d), Ex (.bool false), Ex (.bool false), Ex (.bool false), Ex (.bool false), Ex (.pointer (some ⟨mb, 1, none⟩)), Ex (.slice au' 0 cu'), Ex (.int .i64 0), Ex (.bool false), Ex (.bool false), Ex (.bool false), Ex (.bool false), Ex (.bool false), Ex (.bool false), Ex undef, Ex undef, Ex undef, Ex undef, Ex undef, Ex undef, Ex (.bool false), Ex (.bool false), Ex (.bool false), Ex (.bool false), Ex (.bool true), Ex (.bool true), Ex (.string ⟨#[]⟩), Ex (.bool false), Ex (.bool false), Ex (.bool false), Ex (.bool false), Ex (.pointer (some ⟨cb, 0, none⟩)), Ex (.slice none 0 0), Ex (.int .i64 0), Ex (.bool false), Ex (.bool false)] (by kernel_rfl) (by kernel_rfl) (by decide) rfl (by kernel_rfl) (by kernel_rfl) ?_ ?_ ?_
            · exact Stay.cons <| Stay.cons <| Stay.cons <| Stay.cons <| Stay.cons <| Stay.cons <| Stay.cons <| Stay.cons <| Stay.cons <| Stay.cons <| Stay.cons <| Stay.cons <| Stay.cons <| Stay.cons <| Stay.cons <| Stay.cons <| Stay.cons <| Stay.cons <| Stay.cons <| Stay.cons <| Stay.cons <| Stay.cons <| Stay.cons <| Stay.cons <| Stay.cons <| Stay.cons <| Stay.cons <| Stay.cons <| Stay.cons <| Stay.cons <| Stay.cons <| Stay.cons <| Stay.cons <| Stay.cons <| Stay.cons <| Stay.cons <| Stay.cons <| Stay.cons <| Stay.cons <| Stay.cons <| Stay.cons <| Stay.cons <| Stay.cons <| Stay.cons <| Stay.cons <| Stay.cons <| Stay.cons <| Stay.cons <| Stay.cons <| Stay.cons <| Stay.cons <| Stay.cons <| Stay.cons <| Stay.cons <| Stay.cons <| Stay.cons <| Stay.cons <| Stay.cons <| Stay.cons <| Stay.nil
            · skip
              refine Obl.cons (fun A y h => ?_) ?_
              · exact loc_move (want0 rfl) (h.oldE rfl rfl)
              refine Obl.cons (fun A y h => ?_) ?_
              · have HC := hid (HC.out.keep (keeps_still h.mod 1))
                exact loc_call (want0 rfl) (run_call (args1 (h.exE 0 rfl rfl rfl)) (by kernel_rfl)) (Loc.m (lru_Keys HC.out (by omega)))
              refine Obl.cons (fun A y h => ?_) ?_
              · have e6 : A.tmps[6]? = some (.pointer (some ⟨mb, 0, none⟩)) := (h.oldT rfl rfl)
                refine loc_val (want0 rfl) ?_
                go_simp <;> first | with_reducible rfl | assumption | omega
              refine Obl.cons (fun A y h => ?_) ?_
              · have e145 : A.tmps[145]? = some (.pointer (some ⟨mb, 1, none⟩)) := (h.exT 2 rfl rfl rfl)
                have m1 := h.mod.cell m1 (fun q => q)
                refine loc_val (want0 rfl) ?_
                go_simp <;> first | with_reducible rfl | assumption | omega
              refine Obl.cons (fun A y h => ?_) ?_
              · obtain ⟨v144, ev144, hv144⟩ := h.onE 1 rfl rfl rfl
                have HU := hid (HU.out.keep (keeps_still h.mod 3))
                exact loc_call (want0 rfl) (run_call (args2 ev144 (h.exE 3 rfl rfl rfl)) (by kernel_rfl)) (Loc.r (w_Same hv144.strs' HU.out hsame))
              refine Obl.cons (fun A y h => ?_) ?_
              · have e147 : A.tmps[147]? = some (.bool true) := (h.exT 4 rfl rfl rfl)
                refine loc_val (want0 rfl) ?_
                go_simp <;> first | with_reducible rfl | assumption | omega
              refine Obl.cons (fun A y h => ?_) ?_
              · exact loc_move (want0 rfl) (h.exE 5 rfl rfl rfl)
              refine Obl.cons (fun A y h => ?_) ?_
              · exact loc_move ((h.want rfl rfl rfl rfl).trans rfl) (h.oldE rfl rfl)
              refine Obl.cons (fun A y h => ?_) ?_
              · have HC := hid (HC.out.keep (keeps_still h.mod 1))
                exact loc_call ((h.want rfl rfl rfl rfl).trans rfl) (run_call (args1 (h.exE 7 rfl rfl rfl)) (by kernel_rfl)) (Loc.s (lru_Len_as HC.out HL.out))
              refine Obl.cons (fun A y h => ?_) ?_
              · have e6 : A.tmps[6]? = some (.pointer (some ⟨mb, 0, none⟩)) := (h.oldT rfl rfl)
                refine loc_val ((h.want rfl rfl rfl rfl).trans rfl) ?_
                go_simp <;> first | with_reducible rfl | assumption | omega
              refine Obl.cons (fun A y h => ?_) ?_
              · have e152 : A.tmps[152]? = some (.pointer (some ⟨mb, 1, none⟩)) := (h.exT 9 rfl rfl rfl)
                have m1 := h.mod.cell m1 (fun q => q)
                refine loc_val ((h.want rfl rfl rfl rfl).trans rfl) ?_
                go_simp <;> first | with_reducible rfl | assumption | omega
              refine Obl.cons (fun A y h => ?_) ?_
              · have e153 : A.tmps[153]? = some (.slice au' 0 cu') := (h.exT 10 rfl rfl rfl)
                refine loc_val ((h.want rfl rfl rfl rfl).trans rfl) ?_
                go_simp <;> first | with_reducible rfl | assumption | omega
              refine Obl.cons (fun A y h => ?_) ?_
              · have e151 : A.tmps[151]? = some (.int .i64 0) := (h.exT 8 rfl rfl rfl)
                have e154 : A.tmps[154]? = some (.int .i64 0) := (h.exT 11 rfl rfl rfl)
                refine loc_val ((h.want rfl rfl rfl rfl).trans rfl) ?_
                go_simp <;> first | with_reducible rfl | assumption | omega
              refine Obl.cons (fun A y h => ?_) ?_
              · have e149 : A.tmps[149]? = some (.bool false) := (h.exT 6 rfl rfl rfl)
                have e155 : A.tmps[155]? = some (.bool false) := (h.exT 12 rfl rfl rfl)
                refine loc_val (want0 rfl) ?_
                go_simp <;> first | with_reducible rfl | assumption | omega
              refine Obl.cons (fun A y h => ?_) ?_
              · exact loc_move (want0 rfl) (h.exE 13 rfl rfl rfl)
              refine Obl.cons (fun A y h => ?_) ?_
              · exact loc_move ((h.want rfl rfl rfl rfl).trans rfl) (h.oldE rfl rfl)
              refine Obl.cons (fun A y h => ?_) ?_
              · have e8 : A.tmps[8]? = some (.pointer (some ⟨wr.heap.size, 0, none⟩)) := (h.oldT rfl rfl)
                refine loc_val ((h.want rfl rfl rfl rfl).trans rfl) ?_
                go_simp <;> first | with_reducible rfl | assumption | omega
              refine Obl.cons (fun A y h => ?_) ?_
              · have e159 : A.tmps[159]? = some (.pointer (some ⟨wr.heap.size, 1, none⟩)) := (h.exT 16 rfl rfl rfl)
                have a1 := h.mod.cell a1 (fun q => q)
                refine loc_val ((h.want rfl rfl rfl rfl).trans rfl) ?_
                go_simp <;> first | with_reducible rfl | assumption | omega
              refine Obl.cons (fun A y h => ?_) ?_
              · have HC := hid (HC.out.keep (keeps_still h.mod 1))
                exact loc_call ((h.want rfl rfl rfl rfl).trans rfl) (run_call (args2 (h.exE 15 rfl rfl rfl) (h.exE 17 rfl rfl rfl)) (by kernel_rfl)) (Loc.s (lru_Has_as HC.out ky HD.out))
              refine Obl.cons (fun A y h => ?_) ?_
              · have e6 : A.tmps[6]? = some (.pointer (some ⟨mb, 0, none⟩)) := (h.oldT rfl rfl)
                refine loc_val ((h.want rfl rfl rfl rfl).trans rfl) ?_
                go_simp <;> first | with_reducible rfl | assumption | omega
              refine Obl.cons (fun A y h => ?_) ?_
              · have e162 : A.tmps[162]? = some (.pointer (some ⟨mb, 1, none⟩)) := (h.exT 19 rfl rfl rfl)
                have m1 := h.mod.cell m1 (fun q => q)
                refine loc_val ((h.want rfl rfl rfl rfl).trans rfl) ?_
                go_simp <;> first | with_reducible rfl | assumption | omega
              refine Obl.cons (fun A y h => ?_) ?_
              · have e8 : A.tmps[8]? = some (.pointer (some ⟨wr.heap.size, 0, none⟩)) := (h.oldT rfl rfl)
                refine loc_val ((h.want rfl rfl rfl rfl).trans rfl) ?_
                go_simp <;> first | with_reducible rfl | assumption | omega
              refine Obl.cons (fun A y h => ?_) ?_
              · have e164 : A.tmps[164]? = some (.pointer (some ⟨wr.heap.size, 1, none⟩)) := (h.exT 21 rfl rfl rfl)
                have a1 := h.mod.cell a1 (fun q => q)
                refine loc_val ((h.want rfl rfl rfl rfl).trans rfl) ?_
                go_simp <;> first | with_reducible rfl | assumption | omega
              refine Obl.cons (fun A y h => ?_) ?_
              · have HU := hid (HU.out.keep (keeps_still h.mod 3))
                exact loc_call ((h.want rfl rfl rfl rfl).trans rfl) (run_call (args2 (h.exE 20 rfl rfl rfl) (h.exE 22 rfl rfl rfl)) (by kernel_rfl)) (Loc.s (HD.out ▸ r_Has HU.out ky))
              refine Obl.cons (fun A y h => ?_) ?_
              · have e161 : A.tmps[161]? = some (.bool d) := (h.exT 18 rfl rfl rfl)
                have e166 : A.tmps[166]? = some (.bool d) := (h.exT 23 rfl rfl rfl)
                refine loc_val ((h.want rfl rfl rfl rfl).trans rfl) ?_
                go_simp <;> first | with_reducible rfl | assumption | omega
              refine Obl.cons (fun A y h => ?_) ?_
              · have e157 : A.tmps[157]? = some (.bool false) := (h.exT 14 rfl rfl rfl)
                have e167 : A.tmps[167]? = some (.bool false) := (h.exT 24 rfl rfl rfl)
                refine loc_val (want0 rfl) ?_
                go_simp <;> first | with_reducible rfl | assumption | omega
              refine Obl.cons (fun A y h => ?_) ?_
              · exact loc_move (want0 rfl) (h.exE 25 rfl rfl rfl)
              refine Obl.cons (fun A y h => ?_) ?_
              · exact loc_move ((h.want rfl rfl rfl rfl).trans rfl) (h.oldE rfl rfl)
              refine Obl.cons (fun A y h => ?_) ?_
              · have e6 : A.tmps[6]? = some (.pointer (some ⟨mb, 0, none⟩)) := (h.oldT rfl rfl)
                refine loc_val ((h.want rfl rfl rfl rfl).trans rfl) ?_
                go_simp <;> first | with_reducible rfl | assumption | omega
              refine Obl.cons (fun A y h => ?_) ?_
              · have e171 : A.tmps[171]? = some (.pointer (some ⟨mb, 1, none⟩)) := (h.exT 28 rfl rfl rfl)
                have m1 := h.mod.cell m1 (fun q => q)
                refine loc_val ((h.want rfl rfl rfl rfl).trans rfl) ?_
                go_simp <;> first | with_reducible rfl | assumption | omega
              refine Obl.cons (fun A y h => ?_) ?_
              · have e172 : A.tmps[172]? = some (.slice au' 0 cu') := (h.exT 29 rfl rfl rfl)
                refine loc_val ((h.want rfl rfl rfl rfl).trans rfl) ?_
                go_simp <;> first | with_reducible rfl | assumption | omega
              refine Obl.cons (fun A y h => ?_) ?_
              · have e173 : A.tmps[173]? = some (.int .i64 0) := (h.exT 30 rfl rfl rfl)
                refine loc_val ((h.want rfl rfl rfl rfl).trans rfl) ?_
                go_simp <;> first | with_reducible rfl | assumption | omega
              refine Obl.cons (fun A y h => ?_) ?_
              · have e170 : A.tmps[170]? = some (.bool false) := (h.exT 27 rfl rfl rfl)
                have e174 : A.tmps[174]? = some (.bool false) := (h.exT 31 rfl rfl rfl)
                refine loc_val ((h.want rfl rfl rfl rfl).trans rfl) ?_
                go_simp <;> first | with_reducible rfl | assumption | omega
              refine Obl.cons (fun A y h => ?_) ?_
              · have e169 : A.tmps[169]? = some (.bool false) := (h.exT 26 rfl rfl rfl)
                have e175 : A.tmps[175]? = some (.bool false) := (h.exT 32 rfl rfl rfl)
                refine loc_val (want0 rfl) ?_
                go_simp <;> first | with_reducible rfl | assumption | omega
              refine Obl.cons (fun A y h => ?_) ?_
              · exact loc_move (want0 rfl) (h.exE 33 rfl rfl rfl)
              refine Obl.cons (fun A y h => ?_) ?_
              · exact loc_move ((h.want rfl rfl rfl rfl).trans rfl) (h.oldE rfl rfl)
              refine Obl.cons (fun A y h => ?_) ?_
              · exact loc_move ((h.want rfl rfl rfl rfl).trans rfl) (h.exE 35 rfl rfl rfl)
              refine Obl.cons (fun A y h => ?_) ?_
              · exact loc_skip ((h.want rfl rfl rfl rfl).trans rfl)
              refine Obl.cons (fun A y h => ?_) ?_
              · exact loc_skip ((h.want rfl rfl rfl rfl).trans rfl)
              refine Obl.cons (fun A y h => ?_) ?_
              · exact loc_skip ((h.want rfl rfl rfl rfl).trans rfl)
              refine Obl.cons (fun A y h => ?_) ?_
              · exact loc_skip ((h.want rfl rfl rfl rfl).trans rfl)
              refine Obl.cons (fun A y h => ?_) ?_
              · exact loc_skip ((h.want rfl rfl rfl rfl).trans rfl)
              refine Obl.cons (fun A y h => ?_) ?_
              · exact loc_skip ((h.want rfl rfl rfl rfl).trans rfl)
              refine Obl.cons (fun A y h => ?_) ?_
              · have e179 : A.tmps[179]? = some (.bool false) := (h.exT 36 rfl rfl rfl)
                refine loc_val ((h.want rfl rfl rfl rfl).trans rfl) ?_
                go_simp <;> first | with_reducible rfl | assumption | omega
              refine Obl.cons (fun A y h => ?_) ?_
              · have e177 : A.tmps[177]? = some (.bool false) := (h.exT 34 rfl rfl rfl)
                have e186 : A.tmps[186]? = some (.bool false) := (h.exT 43 rfl rfl rfl)
                refine loc_val (want0 rfl) ?_
                go_simp <;> first | with_reducible rfl | assumption | omega
              refine Obl.cons (fun A y h => ?_) ?_
              · exact loc_move (want0 rfl) (h.exE 44 rfl rfl rfl)
              refine Obl.cons (fun A y h => ?_) ?_
              · exact loc_move ((h.want rfl rfl rfl rfl).trans rfl) (h.oldE rfl rfl)
              refine Obl.cons (fun A y h => ?_) ?_
              · have e189 : A.tmps[189]? = some (.bool false) := (h.exT 46 rfl rfl rfl)
                refine loc_val ((h.want rfl rfl rfl rfl).trans rfl) ?_
                go_simp <;> first | with_reducible rfl | assumption | omega
              refine Obl.cons (fun A y h => ?_) ?_
              · exact loc_move ((h.want rfl rfl rfl rfl).trans rfl) (h.exE 47 rfl rfl rfl)
              refine Obl.cons (fun A y h => ?_) ?_
              · exact loc_move ((h.want rfl rfl rfl rfl).trans rfl) (h.oldE rfl rfl)
              refine Obl.cons (fun A y h => ?_) ?_
              · have e192 : A.tmps[192]? = some (.string ⟨#[]⟩) := (h.exT 49 rfl rfl rfl)
                refine loc_val ((h.want rfl rfl rfl rfl).trans rfl) ?_
                go_simp <;> first | with_reducible rfl | assumption | omega
              refine Obl.cons (fun A y h => ?_) ?_
              · have e191 : A.tmps[191]? = some (.bool true) := (h.exT 48 rfl rfl rfl)
                have e193 : A.tmps[193]? = some (.bool false) := (h.exT 50 rfl rfl rfl)
                refine loc_val ((h.want rfl rfl rfl rfl).trans rfl) ?_
                go_simp <;> first | with_reducible rfl | assumption | omega
              refine Obl.cons (fun A y h => ?_) ?_
              · have e188 : A.tmps[188]? = some (.bool false) := (h.exT 45 rfl rfl rfl)
                have e194 : A.tmps[194]? = some (.bool false) := (h.exT 51 rfl rfl rfl)
                refine loc_val (want0 rfl) ?_
                go_simp <;> first | with_reducible rfl | assumption | omega
              refine Obl.cons (fun A y h => ?_) ?_
              · exact loc_move (want0 rfl) (h.exE 52 rfl rfl rfl)
              refine Obl.cons (fun A y h => ?_) ?_
              · exact loc_move ((h.want rfl rfl rfl rfl).trans rfl) (h.oldE rfl rfl)
              refine Obl.cons (fun A y h => ?_) ?_
              · exact loc_call ((h.want rfl rfl rfl rfl).trans rfl) (run_call (args1 (h.exE 54 rfl rfl rfl)) (by kernel_rfl)) (Loc.s (lru_Ghosts))
              refine Obl.cons (fun A y h => ?_) ?_
              · have e198 : A.tmps[198]? = some (.slice none 0 0) := (h.exT 55 rfl rfl rfl)
                refine loc_val ((h.want rfl rfl rfl rfl).trans rfl) ?_
                go_simp <;> first | with_reducible rfl | assumption | omega
              refine Obl.cons (fun A y h => ?_) ?_
              · have e199 : A.tmps[199]? = some (.int .i64 0) := (h.exT 56 rfl rfl rfl)
                refine loc_val ((h.want rfl rfl rfl rfl).trans rfl) ?_
                go_simp <;> first | with_reducible rfl | assumption | omega
              refine Obl.cons (fun A y h => ?_) ?_
              · have e196 : A.tmps[196]? = some (.bool false) := (h.exT 53 rfl rfl rfl)
                have e200 : A.tmps[200]? = some (.bool false) := (h.exT 57 rfl rfl rfl)
                refine loc_val (want0 rfl) ?_
                go_simp <;> first | with_reducible rfl | assumption | omega
              exact Obl.nil
            intro x2 hmL
            refine RFin.ex ?_
            refine RFin.cons fun v1 hv1 => ?_
            refine RFin.ex ?_
            refine RFin.ex ?_
            refine RFin.ex ?_
            refine RFin.ex ?_
            refine RFin.ex ?_
            refine RFin.ex ?_
            refine RFin.ex ?_
            refine RFin.ex ?_
            refine RFin.ex ?_
            refine RFin.ex ?_
            refine RFin.ex ?_
            refine RFin.ex ?_
            refine RFin.ex ?_
            refine RFin.ex ?_
            refine RFin.ex ?_
            refine RFin.ex ?_
            refine RFin.ex ?_
            refine RFin.ex ?_
            refine RFin.ex ?_
            refine RFin.ex ?_
            refine RFin.ex ?_
            refine RFin.ex ?_
            refine RFin.ex ?_
            refine RFin.ex ?_
            refine RFin.ex ?_
            refine RFin.ex ?_
            refine RFin.ex ?_
            refine RFin.ex ?_
            refine RFin.ex ?_
            refine RFin.ex ?_
            refine RFin.ex ?_
            refine RFin.ex ?_
            refine RFin.ex ?_
            refine RFin.ex ?_
            refine RFin.ex ?_
            refine RFin.ex ?_
            refine RFin.ex ?_
            refine RFin.ex ?_
            refine RFin.ex ?_
            refine RFin.ex ?_
            refine RFin.ex ?_
            refine RFin.ex ?_
            refine RFin.ex ?_
            refine RFin.ex ?_
            refine RFin.ex ?_
            refine RFin.ex ?_
            refine RFin.ex ?_
            refine RFin.ex ?_
            refine RFin.ex ?_
            refine RFin.ex ?_
            refine RFin.ex ?_
            refine RFin.ex ?_
            refine RFin.ex ?_
            refine RFin.ex ?_
            refine RFin.ex ?_
            refine RFin.ex ?_
            refine RFin.ex ?_
            refine RFin.nil ?_
            simp only [Act.put, List.setIfInBounds_toArray, List.set_cons_zero, List.set_cons_succ]
            obtain ⟨hB', hK'⟩ := home_still HB.out hmL
            replace HC := hid (HC.out.keep (hK' 1))
            replace HM := hid (HM.out.keep (hK' 2))
            replace HU := hid (HU.out.keep (hK' 3))
            replace HA := hid (HA.out.keep (hK' 4))
            replace HB := hid hB'
            clear hB' hK'
            replace m0 := HM.out.1.at 0 _ rfl
            replace m1 := HM.out.1.at 1 _ rfl
            replace mlt := HM.out.1.lt
            replace a0 := HA.out.1.at 0 _ rfl
            replace a1 := HA.out.1.at 1 _ rfl
            replace a2 := HA.out.1.at 2 _ rfl
            replace alt := HA.out.1.lt
            clear hmL
            go_wp2_with fail
            go_roundg (gk - 1)
            case measure => omega
            case rel => exact ⟨k + 1, by omega, by omega, by go_num, own', M', _, _, HB.out, HC.out, HM.out, HU.out, hM0⟩
          | cons x r =>
            have hxs := str_t (rfl : x = x)
            obtain ⟨g2, o2, rfl, _, _⟩ := Strs.get (k := 0) HU.out (by simp)
            go_wp2_with fail
            have hct := step_read HB.out (reads_as (lru_Victim HC.out) (r' := .tuple #[.string x, .bool true]) (by simp [headV]))
            with_reducible refine hct.mono ?_
            clear hct
            rintro e x1 ⟨rfl, hB', hK'⟩
            replace HC := hid (HC.out.keep (hK' 1))
            replace HM := hid (HM.out.keep (hK' 2))
            replace HU := hid (HU.out.keep (hK' 3))
            replace HA := hid (HA.out.keep (hK' 4))
            replace HB := hid hB'
            clear hB' hK'
            have hL0 : (0 : Int) < (L : Int) := by rw [← HL.out]; simp
            have hL1 : (1 : Int) ≤ (L : Int) := by omega
            have hL0n : 0 < L := by omega
            have pv := Strs.head HU.out (rfl : (x :: r)[0]? = some x)
            have m0 := HM.out.1.at 0 _ rfl
            have m1 := HM.out.1.at 1 _ rfl
            have mlt := HM.out.1.lt
            have a0 := HA.out.1.at 0 _ rfl
            have a1 := HA.out.1.at 1 _ rfl
            have a2 := HA.out.1.at 2 _ rfl
            have alt := HA.out.1.lt
            go_wp2_with fail
            have hsame : decide ((x :: r) = (x :: r)) = true := by simp
            refine wp_region_local [143, 144, 145, 146, 147, 148, 149, 150, 151, 152, 153, 154, 155, 156, 157, 158, 159, 160, 161, 162, 163, 164, 165, 166, 167, 168, 169, 170, 171, 172, 173, 174, 175, 176, 177, 178, 179, 180, 181, 182, 183, 184, 185, 186, 187, 188, 189, 190, 191, 192, 193, 194, 195, 196, 197, 198, 199, 200, 201] [Ex (.pointer (some ⟨cb, 0, none⟩)), (fun v y => Row y (fun _ => True) 9 1 v ((x :: r) : List ByteArray).length (((x :: r) : List ByteArray).map Value.string)), Ex (.pointer (some ⟨mb, 1, none⟩)), Ex (.slice (some ⟨g2, o2, none⟩) L cu'), Ex (.bool true), Ex (.bool false), Ex (.bool false), Ex (.pointer (some ⟨cb, 0, none⟩)), Ex (.int .i64 L), Ex (.pointer (some ⟨mb, 1, none⟩)), Ex (.slice (some ⟨g2, o2, none⟩) L cu'), Ex (.int .i64 L), Ex (.bool false), Ex (.bool false), Ex (.bool false), Ex (.pointer (some ⟨cb, 0, none⟩)), Ex (.pointer (some ⟨wr.heap.size, 1, none⟩)), Ex (.string ky), Ex (.bool d), Ex (.pointer (some ⟨mb, 1, none⟩)), Ex (.slice (some ⟨g2, o2, none⟩) L cu'), Ex (.pointer (some ⟨wr.heap.size, 1, none⟩)), Ex (.string ky), Ex (.bool d), Ex (.bool false), Ex (.bool false), Ex (.bool false), Ex (.bool true), Ex (.pointer (some ⟨mb, 1, none⟩)), Ex (.slice (some ⟨g2, o2, none⟩) L cu'), Ex (.int .i64 L), Ex (.bool true), Ex (.bool false), Ex (.bool false), Ex (.bool false), Ex (.bool true), Ex (.bool true), Ex (.string x), Ex (.pointer (some ⟨mb, 1, none⟩)), Ex (.slice (some ⟨g2, o2, none⟩) L cu'), Ex (.pointer (some ⟨g2, o2, none⟩)), Ex (.string x), Ex (.bool false), Ex (.bool false), Ex (.bool false), Ex (.bool false), Ex (.bool true), Ex (.bool false), Ex (.bool false), Ex undef, Ex undef, Ex (.bool false), Ex (.bool false), Ex (.bool false), Ex (.pointer (some ⟨cb, 0, none⟩)), Ex (.slice none 0 0), Ex (.int .i64 0), Ex (.bool false), Ex (.bool false)] (by kernel_rfl) (by kernel_rfl) (by decide) rfl (by kernel_rfl) (by kernel_rfl) ?_ ?_ ?_
            · exact Stay.cons <| Stay.cons <| Stay.cons <| Stay.cons <| Stay.cons <| Stay.cons <| Stay.cons <| Stay.cons <| Stay.cons <| Stay.cons <| Stay.cons <| Stay.cons <| Stay.cons <| Stay.cons <| Stay.cons <| Stay.cons <| Stay.cons <| Stay.cons <| Stay.cons <| Stay.cons <| Stay.cons <| Stay.cons <| Stay.cons <| Stay.cons <| Stay.cons <| Stay.cons <| Stay.cons <| Stay.cons <| Stay.cons <| Stay.cons <| Stay.cons <| Stay.cons <| Stay.cons <| Stay.cons <| Stay.cons <| Stay.cons <| Stay.cons <| Stay.cons <| Stay.cons <| Stay.cons <| Stay.cons <| Stay.cons <| Stay.cons <| Stay.cons <| Stay.cons <| Stay.cons <| Stay.cons <| Stay.cons <| Stay.cons <| Stay.cons <| Stay.cons <| Stay.cons <| Stay.cons <| Stay.cons <| Stay.cons <| Stay.cons <| Stay.cons <| Stay.cons <| Stay.cons <| Stay.nil
            · skip
              refine Obl.cons (fun A y h => ?_) ?_
              · exact loc_move (want0 rfl) (h.oldE rfl rfl)
              refine Obl.cons (fun A y h => ?_) ?_
              · have HC := hid (HC.out.keep (keeps_still h.mod 1))
                exact loc_call (want0 rfl) (run_call (args1 (h.exE 0 rfl rfl rfl)) (by kernel_rfl)) (Loc.m (lru_Keys HC.out (by omega)))
              refine Obl.cons (fun A y h => ?_) ?_
              · have e6 : A.tmps[6]? = some (.pointer (some ⟨mb, 0, none⟩)) := (h.oldT rfl rfl)
                refine loc_val (want0 rfl) ?_
                go_simp <;> first | with_reducible rfl | assumption | omega
              refine Obl.cons (fun A y h => ?_) ?_
              · have e145 : A.tmps[145]? = some (.pointer (some ⟨mb, 1, none⟩)) := (h.exT 2 rfl rfl rfl)
                have m1 := h.mod.cell m1 (fun q => q)
                refine loc_val (want0 rfl) ?_
                go_simp <;> first | with_reducible rfl | assumption | omega
              refine Obl.cons (fun A y h => ?_) ?_
              · obtain ⟨v144, ev144, hv144⟩ := h.onE 1 rfl rfl rfl
                have HU := hid (HU.out.keep (keeps_still h.mod 3))
                exact loc_call (want0 rfl) (run_call (args2 ev144 (h.exE 3 rfl rfl rfl)) (by kernel_rfl)) (Loc.r (w_Same hv144.strs' HU.out hsame))
              refine Obl.cons (fun A y h => ?_) ?_
              · have e147 : A.tmps[147]? = some (.bool true) := (h.exT 4 rfl rfl rfl)
                refine loc_val (want0 rfl) ?_
                go_simp <;> first | with_reducible rfl | assumption | omega
              refine Obl.cons (fun A y h => ?_) ?_
              · exact loc_move (want0 rfl) (h.exE 5 rfl rfl rfl)
              refine Obl.cons (fun A y h => ?_) ?_
              · exact loc_move ((h.want rfl rfl rfl rfl).trans rfl) (h.oldE rfl rfl)
              refine Obl.cons (fun A y h => ?_) ?_
              · have HC := hid (HC.out.keep (keeps_still h.mod 1))
                exact loc_call ((h.want rfl rfl rfl rfl).trans rfl) (run_call (args1 (h.exE 7 rfl rfl rfl)) (by kernel_rfl)) (Loc.s (lru_Len_as HC.out HL.out))
              refine Obl.cons (fun A y h => ?_) ?_
              · have e6 : A.tmps[6]? = some (.pointer (some ⟨mb, 0, none⟩)) := (h.oldT rfl rfl)
                refine loc_val ((h.want rfl rfl rfl rfl).trans rfl) ?_
                go_simp <;> first | with_reducible rfl | assumption | omega
              refine Obl.cons (fun A y h => ?_) ?_
              · have e152 : A.tmps[152]? = some (.pointer (some ⟨mb, 1, none⟩)) := (h.exT 9 rfl rfl rfl)
                have m1 := h.mod.cell m1 (fun q => q)
                refine loc_val ((h.want rfl rfl rfl rfl).trans rfl) ?_
                go_simp <;> first | with_reducible rfl | assumption | omega
              refine Obl.cons (fun A y h => ?_) ?_
              · have e153 : A.tmps[153]? = some (.slice (some ⟨g2, o2, none⟩) L cu') := (h.exT 10 rfl rfl rfl)
                refine loc_val ((h.want rfl rfl rfl rfl).trans rfl) ?_
                go_simp <;> first | with_reducible rfl | assumption | omega
              refine Obl.cons (fun A y h => ?_) ?_
              · have e151 : A.tmps[151]? = some (.int .i64 L) := (h.exT 8 rfl rfl rfl)
                have e154 : A.tmps[154]? = some (.int .i64 L) := (h.exT 11 rfl rfl rfl)
                refine loc_val ((h.want rfl rfl rfl rfl).trans rfl) ?_
                go_simp <;> first | with_reducible rfl | assumption | omega
              refine Obl.cons (fun A y h => ?_) ?_
              · have e149 : A.tmps[149]? = some (.bool false) := (h.exT 6 rfl rfl rfl)
                have e155 : A.tmps[155]? = some (.bool false) := (h.exT 12 rfl rfl rfl)
                refine loc_val (want0 rfl) ?_
                go_simp <;> first | with_reducible rfl | assumption | omega
              refine Obl.cons (fun A y h => ?_) ?_
              · exact loc_move (want0 rfl) (h.exE 13 rfl rfl rfl)
              refine Obl.cons (fun A y h => ?_) ?_
              · exact loc_move ((h.want rfl rfl rfl rfl).trans rfl) (h.oldE rfl rfl)
              refine Obl.cons (fun A y h => ?_) ?_
              · have e8 : A.tmps[8]? = some (.pointer (some ⟨wr.heap.size, 0, none⟩)) := (h.oldT rfl rfl)
                refine loc_val ((h.want rfl rfl rfl rfl).trans rfl) ?_
                go_simp <;> first | with_reducible rfl | assumption | omega
              refine Obl.cons (fun A y h => ?_) ?_
              · have e159 : A.tmps[159]? = some (.pointer (some ⟨wr.heap.size, 1, none⟩)) := (h.exT 16 rfl rfl rfl)
                have a1 := h.mod.cell a1 (fun q => q)
                refine loc_val ((h.want rfl rfl rfl rfl).trans rfl) ?_
                go_simp <;> first | with_reducible rfl | assumption | omega
              refine Obl.cons (fun A y h => ?_) ?_
              · have HC := hid (HC.out.keep (keeps_still h.mod 1))
                exact loc_call ((h.want rfl rfl rfl rfl).trans rfl) (run_call (args2 (h.exE 15 rfl rfl rfl) (h.exE 17 rfl rfl rfl)) (by kernel_rfl)) (Loc.s (lru_Has_as HC.out ky HD.out))
              refine Obl.cons (fun A y h => ?_) ?_
              · have e6 : A.tmps[6]? = some (.pointer (some ⟨mb, 0, none⟩)) := (h.oldT rfl rfl)
                refine loc_val ((h.want rfl rfl rfl rfl).trans rfl) ?_
                go_simp <;> first | with_reducible rfl | assumption | omega
              refine Obl.cons (fun A y h => ?_) ?_
              · have e162 : A.tmps[162]? = some (.pointer (some ⟨mb, 1, none⟩)) := (h.exT 19 rfl rfl rfl)
                have m1 := h.mod.cell m1 (fun q => q)
                refine loc_val ((h.want rfl rfl rfl rfl).trans rfl) ?_
                go_simp <;> first | with_reducible rfl | assumption | omega
              refine Obl.cons (fun A y h => ?_) ?_
              · have e8 : A.tmps[8]? = some (.pointer (some ⟨wr.heap.size, 0, none⟩)) := (h.oldT rfl rfl)
                refine loc_val ((h.want rfl rfl rfl rfl).trans rfl) ?_
                go_simp <;> first | with_reducible rfl | assumption | omega
              refine Obl.cons (fun A y h => ?_) ?_
              · have e164 : A.tmps[164]? = some (.pointer (some ⟨wr.heap.size, 1, none⟩)) := (h.exT 21 rfl rfl rfl)
                have a1 := h.mod.cell a1 (fun q => q)
                refine loc_val ((h.want rfl rfl rfl rfl).trans rfl) ?_
                go_simp <;> first | with_reducible rfl | assumption | omega
              refine Obl.cons (fun A y h => ?_) ?_
              · have HU := hid (HU.out.keep (keeps_still h.mod 3))
                exact loc_call ((h.want rfl rfl rfl rfl).trans rfl) (run_call (args2 (h.exE 20 rfl rfl rfl) (h.exE 22 rfl rfl rfl)) (by kernel_rfl)) (Loc.s (HD.out ▸ r_Has HU.out ky))
              refine Obl.cons (fun A y h => ?_) ?_
              · have e161 : A.tmps[161]? = some (.bool d) := (h.exT 18 rfl rfl rfl)
                have e166 : A.tmps[166]? = some (.bool d) := (h.exT 23 rfl rfl rfl)
                refine loc_val ((h.want rfl rfl rfl rfl).trans rfl) ?_
                go_simp <;> first | with_reducible rfl | assumption | omega
              refine Obl.cons (fun A y h => ?_) ?_
              · have e157 : A.tmps[157]? = some (.bool false) := (h.exT 14 rfl rfl rfl)
                have e167 : A.tmps[167]? = some (.bool false) := (h.exT 24 rfl rfl rfl)
                refine loc_val (want0 rfl) ?_
                go_simp <;> first | with_reducible rfl | assumption | omega
              refine Obl.cons (fun A y h => ?_) ?_
              · exact loc_move (want0 rfl) (h.exE 25 rfl rfl rfl)
              refine Obl.cons (fun A y h => ?_) ?_
              · exact loc_move ((h.want rfl rfl rfl rfl).trans rfl) (h.oldE rfl rfl)
              refine Obl.cons (fun A y h => ?_) ?_
              · have e6 : A.tmps[6]? = some (.pointer (some ⟨mb, 0, none⟩)) := (h.oldT rfl rfl)
                refine loc_val ((h.want rfl rfl rfl rfl).trans rfl) ?_
                go_simp <;> first | with_reducible rfl | assumption | omega
              refine Obl.cons (fun A y h => ?_) ?_
              · have e171 : A.tmps[171]? = some (.pointer (some ⟨mb, 1, none⟩)) := (h.exT 28 rfl rfl rfl)
                have m1 := h.mod.cell m1 (fun q => q)
                refine loc_val ((h.want rfl rfl rfl rfl).trans rfl) ?_
                go_simp <;> first | with_reducible rfl | assumption | omega
              refine Obl.cons (fun A y h => ?_) ?_
              · have e172 : A.tmps[172]? = some (.slice (some ⟨g2, o2, none⟩) L cu') := (h.exT 29 rfl rfl rfl)
                refine loc_val ((h.want rfl rfl rfl rfl).trans rfl) ?_
                go_simp <;> first | with_reducible rfl | assumption | omega
              refine Obl.cons (fun A y h => ?_) ?_
              · have e173 : A.tmps[173]? = some (.int .i64 L) := (h.exT 30 rfl rfl rfl)
                refine loc_val ((h.want rfl rfl rfl rfl).trans rfl) ?_
                go_simp <;> first | with_reducible rfl | assumption | omega
              refine Obl.cons (fun A y h => ?_) ?_
              · have e170 : A.tmps[170]? = some (.bool true) := (h.exT 27 rfl rfl rfl)
                have e174 : A.tmps[174]? = some (.bool true) := (h.exT 31 rfl rfl rfl)
                refine loc_val ((h.want rfl rfl rfl rfl).trans rfl) ?_
                go_simp <;> first | with_reducible rfl | assumption | omega
              refine Obl.cons (fun A y h => ?_) ?_
              · have e169 : A.tmps[169]? = some (.bool false) := (h.exT 26 rfl rfl rfl)
                have e175 : A.tmps[175]? = some (.bool false) := (h.exT 32 rfl rfl rfl)
                refine loc_val (want0 rfl) ?_
                go_simp <;> first | with_reducible rfl | assumption | omega
              refine Obl.cons (fun A y h => ?_) ?_
              · exact loc_move (want0 rfl) (h.exE 33 rfl rfl rfl)
              refine Obl.cons (fun A y h => ?_) ?_
              · exact loc_move ((h.want rfl rfl rfl rfl).trans rfl) (h.oldE rfl rfl)
              refine Obl.cons (fun A y h => ?_) ?_
              · exact loc_move ((h.want rfl rfl rfl rfl).trans rfl) (h.exE 35 rfl rfl rfl)
              refine Obl.cons (fun A y h => ?_) ?_
              · exact loc_move ((h.want rfl rfl rfl rfl).trans rfl) (h.oldE rfl rfl)
              refine Obl.cons (fun A y h => ?_) ?_
              · have e6 : A.tmps[6]? = some (.pointer (some ⟨mb, 0, none⟩)) := (h.oldT rfl rfl)
                refine loc_val ((h.want rfl rfl rfl rfl).trans rfl) ?_
                go_simp <;> first | with_reducible rfl | assumption | omega
              refine Obl.cons (fun A y h => ?_) ?_
              · have e181 : A.tmps[181]? = some (.pointer (some ⟨mb, 1, none⟩)) := (h.exT 38 rfl rfl rfl)
                have m1 := h.mod.cell m1 (fun q => q)
                refine loc_val ((h.want rfl rfl rfl rfl).trans rfl) ?_
                go_simp <;> first | with_reducible rfl | assumption | omega
              refine Obl.cons (fun A y h => ?_) ?_
              · have e182 : A.tmps[182]? = some (.slice (some ⟨g2, o2, none⟩) L cu') := (h.exT 39 rfl rfl rfl)
                refine loc_val ((h.want rfl rfl rfl rfl).trans rfl) ?_
                go_simp <;> first | with_reducible rfl | assumption | omega
              refine Obl.cons (fun A y h => ?_) ?_
              · have e183 : A.tmps[183]? = some (.pointer (some ⟨g2, o2, none⟩)) := (h.exT 40 rfl rfl rfl)
                have pv := h.mod.cell pv (fun q => q)
                refine loc_val ((h.want rfl rfl rfl rfl).trans rfl) ?_
                go_simp <;> first | with_reducible rfl | assumption | omega
              refine Obl.cons (fun A y h => ?_) ?_
              · have e180 : A.tmps[180]? = some (.string x) := (h.exT 37 rfl rfl rfl)
                have e184 : A.tmps[184]? = some (.string x) := (h.exT 41 rfl rfl rfl)
                refine loc_val ((h.want rfl rfl rfl rfl).trans rfl) ?_
                go_simp <;> first | with_reducible rfl | assumption | omega
              refine Obl.cons (fun A y h => ?_) ?_
              · have e179 : A.tmps[179]? = some (.bool true) := (h.exT 36 rfl rfl rfl)
                have e185 : A.tmps[185]? = some (.bool false) := (h.exT 42 rfl rfl rfl)
                refine loc_val ((h.want rfl rfl rfl rfl).trans rfl) ?_
                go_simp <;> first | with_reducible rfl | assumption | omega
              refine Obl.cons (fun A y h => ?_) ?_
              · have e177 : A.tmps[177]? = some (.bool false) := (h.exT 34 rfl rfl rfl)
                have e186 : A.tmps[186]? = some (.bool false) := (h.exT 43 rfl rfl rfl)
                refine loc_val (want0 rfl) ?_
                go_simp <;> first | with_reducible rfl | assumption | omega
              refine Obl.cons (fun A y h => ?_) ?_
              · exact loc_move (want0 rfl) (h.exE 44 rfl rfl rfl)
              refine Obl.cons (fun A y h => ?_) ?_
              · exact loc_move ((h.want rfl rfl rfl rfl).trans rfl) (h.oldE rfl rfl)
              refine Obl.cons (fun A y h => ?_) ?_
              · have e189 : A.tmps[189]? = some (.bool true) := (h.exT 46 rfl rfl rfl)
                refine loc_val ((h.want rfl rfl rfl rfl).trans rfl) ?_
                go_simp <;> first | with_reducible rfl | assumption | omega
              refine Obl.cons (fun A y h => ?_) ?_
              · exact loc_move ((h.want rfl rfl rfl rfl).trans rfl) (h.exE 47 rfl rfl rfl)
              refine Obl.cons (fun A y h => ?_) ?_
              · exact loc_skip ((h.want rfl rfl rfl rfl).trans rfl)
              refine Obl.cons (fun A y h => ?_) ?_
              · exact loc_skip ((h.want rfl rfl rfl rfl).trans rfl)
              refine Obl.cons (fun A y h => ?_) ?_
              · have e191 : A.tmps[191]? = some (.bool false) := (h.exT 48 rfl rfl rfl)
                refine loc_val ((h.want rfl rfl rfl rfl).trans rfl) ?_
                go_simp <;> first | with_reducible rfl | assumption | omega
              refine Obl.cons (fun A y h => ?_) ?_
              · have e188 : A.tmps[188]? = some (.bool false) := (h.exT 45 rfl rfl rfl)
                have e194 : A.tmps[194]? = some (.bool false) := (h.exT 51 rfl rfl rfl)
                refine loc_val (want0 rfl) ?_
                go_simp <;> first | with_reducible rfl | assumption | omega
              refine Obl.cons (fun A y h => ?_) ?_
              · exact loc_move (want0 rfl) (h.exE 52 rfl rfl rfl)
              refine Obl.cons (fun A y h => ?_) ?_
              · exact loc_move ((h.want rfl rfl rfl rfl).trans rfl) (h.oldE rfl rfl)
              refine Obl.cons (fun A y h => ?_) ?_
              · exact loc_call ((h.want rfl rfl rfl rfl).trans rfl) (run_call (args1 (h.exE 54 rfl rfl rfl)) (by kernel_rfl)) (Loc.s (lru_Ghosts))
              refine Obl.cons (fun A y h => ?_) ?_
              · have e198 : A.tmps[198]? = some (.slice none 0 0) := (h.exT 55 rfl rfl rfl)
                refine loc_val ((h.want rfl rfl rfl rfl).trans rfl) ?_
                go_simp <;> first | with_reducible rfl | assumption | omega
              refine Obl.cons (fun A y h => ?_) ?_
              · have e199 : A.tmps[199]? = some (.int .i64 0) := (h.exT 56 rfl rfl rfl)
                refine loc_val ((h.want rfl rfl rfl rfl).trans rfl) ?_
                go_simp <;> first | with_reducible rfl | assumption | omega
              refine Obl.cons (fun A y h => ?_) ?_
              · have e196 : A.tmps[196]? = some (.bool false) := (h.exT 53 rfl rfl rfl)
                have e200 : A.tmps[200]? = some (.bool false) := (h.exT 57 rfl rfl rfl)
                refine loc_val (want0 rfl) ?_
                go_simp <;> first | with_reducible rfl | assumption | omega
              exact Obl.nil
            intro x2 hmL
            refine RFin.ex ?_
            refine RFin.cons fun v1 hv1 => ?_
            refine RFin.ex ?_
            refine RFin.ex ?_
            refine RFin.ex ?_
            refine RFin.ex ?_
            refine RFin.ex ?_
            refine RFin.ex ?_
            refine RFin.ex ?_
            refine RFin.ex ?_
            refine RFin.ex ?_
            refine RFin.ex ?_
            refine RFin.ex ?_
            refine RFin.ex ?_
            refine RFin.ex ?_
            refine RFin.ex ?_
            refine RFin.ex ?_
            refine RFin.ex ?_
            refine RFin.ex ?_
            refine RFin.ex ?_
            refine RFin.ex ?_
            refine RFin.ex ?_
            refine RFin.ex ?_
            refine RFin.ex ?_
            refine RFin.ex ?_
            refine RFin.ex ?_
            refine RFin.ex ?_
            refine RFin.ex ?_
            refine RFin.ex ?_
            refine RFin.ex ?_
            refine RFin.ex ?_
            refine RFin.ex ?_
            refine RFin.ex ?_
            refine RFin.ex ?_
            refine RFin.ex ?_
            refine RFin.ex ?_
            refine RFin.ex ?_
            refine RFin.ex ?_
            refine RFin.ex ?_
            refine RFin.ex ?_
            refine RFin.ex ?_
            refine RFin.ex ?_
            refine RFin.ex ?_
            refine RFin.ex ?_
            refine RFin.ex ?_
            refine RFin.ex ?_
            refine RFin.ex ?_
            refine RFin.ex ?_
            refine RFin.ex ?_
            refine RFin.ex ?_
            refine RFin.ex ?_
            refine RFin.ex ?_
            refine RFin.ex ?_
            refine RFin.ex ?_
            refine RFin.ex ?_
            refine RFin.ex ?_
            refine RFin.ex ?_
            refine RFin.ex ?_
            refine RFin.ex ?_
            refine RFin.nil ?_
            simp only [Act.put, List.setIfInBounds_toArray, List.set_cons_zero, List.set_cons_succ]
            obtain ⟨hB', hK'⟩ := home_still HB.out hmL
            replace HC := hid (HC.out.keep (hK' 1))
            replace HM := hid (HM.out.keep (hK' 2))
            replace HU := hid (HU.out.keep (hK' 3))
            replace HA := hid (HA.out.keep (hK' 4))
            replace HB := hid hB'
            clear hB' hK'
            replace pv := Strs.head HU.out rfl
            replace m0 := HM.out.1.at 0 _ rfl
            replace m1 := HM.out.1.at 1 _ rfl
            replace mlt := HM.out.1.lt
            replace a0 := HA.out.1.at 0 _ rfl
            replace a1 := HA.out.1.at 1 _ rfl
            replace a2 := HA.out.1.at 2 _ rfl
            replace alt := HA.out.1.lt
            clear hmL
            go_wp2_with fail
            go_roundg (gk - 1)
            case measure => omega
            case rel => exact ⟨k + 1, by omega, by omega, by go_num, own', M', _, _, HB.out, HC.out, HM.out, HU.out, hM0⟩
      · have HB := hid hB
        have HC := hid hC
        have HM := hid hM
        have HU := hid hU
        clear hB hC hM hU
        go_wp2
        go_ret
        exact ⟨rfl, HB.out.below⟩
end Go.Proofs.Ytjijjfdkghcjkaa
