/- The walk of DrawPlays: what came in is read alone; true. -/
import Derived.Test.YthbffkdfahlpdaaDrawC
import Derived.Deep.CutBlock
import Derived.Deep.QuietTactic
import Derived.BigQuiet
import Derived.Test.YthbffkdfahlpdaaListB
import Derived.Deep.Strs
set_option linter.unusedVariables false
namespace Go.Proofs.Ythbffkdfahlpdaa
open Go.RowKit Go.MapKept
attribute [local go_sem ↓] Go.wp_at_zero Go.wp_at_succ

/-- A call of a script over tapes: its kind, its lane, its number. -/
abbrev DAct := {p : Int × Int × Int // (Lit.int .i64 p.1).wf = true ∧ (Lit.int .i64 p.2.1).wf = true ∧ (Lit.int .u64 p.2.2).wf = true}
def DAct.cells (x : DAct) : List Value := [.int .i64 x.1.1, .int .i64 x.1.2.1, .int .u64 x.1.2.2]
theorem el_dact {H : Type} {enc : TypeId × Value → H} {w : World} {base : Nat} {sp : Nat → Bool} {held : Bool} {n : Nat} {cs : List Value} {y : DataW H × List MemPlace}
    (h : DataW.trod enc Try.prog w base sp held n 32 cs = some y) : ∃ x : DAct, cs = x.cells := by
  obtain ⟨y0, y1, y2, m, _, hl, h0, h1, h2⟩ := Deep.trod_struct3 Try.underlying32 h
  obtain ⟨a, ha, _, hw⟩ := DataW.trod_int Try.underlying3 h0
  obtain ⟨b, hb, _, hw1⟩ := DataW.trod_int Try.underlying3 h1
  obtain ⟨c, hc', _, hw2⟩ := DataW.trod_int Try.underlying30 h2
  have hc : Try.prog.cellsOf 32 = 3 := by kernel_rfl
  have hc0 : Try.prog.cellsOf 3 = 1 := by kernel_rfl
  have hc1 : Try.prog.cellsOf 30 = 1 := by kernel_rfl
  rw [hc] at hl
  match cs, hl with
  | [c0, c1, c2], _ =>
    simp [hc0, hc1] at ha hb hc'
    exact ⟨⟨(a, b, c), hw, hw1, hw2⟩, by rw [ha, hb, hc']; rfl⟩

theorem cell_lt {w : World} {g o : Nat} {v : Value} (h : w.cell? ⟨g, o, none⟩ = some v) : g < w.heap.size := World.block_lt_of_cell? w _ h
/-! ### rows of rows -/
section
variable {own : Nat → Nat} {w0 w w' : World} {c c1 : Nat}
theorem home_recolour (hB : Home none0 w0 w own) (hc : c ≠ 0) (c1 : Nat) : ∃ own', Home none0 w0 w own' ∧ (∀ k, own k = c → own' k = c1) ∧ ∀ d, d ≠ c → Keeps w w own own' d := by
  refine ⟨fun k => if own k = c then c1 else own k, ⟨hB.bel, fun k hk => ?_⟩, fun k e => if_pos e, fun d hd => ⟨Nat.le_refl _, fun k _ e => ⟨?_, rfl⟩⟩⟩
  · have := hB.old k hk
    show (if own k = c then c1 else own k) = _
    rw [if_neg]
    · exact this
    · rw [this]; exact Ne.symm hc
  · show (if own k = c then c1 else own k) = d
    rw [if_neg (by rw [e]; exact hd), e]
theorem home_turnrow2 {own0 : Nat → Nat} {e size H : Nat} {v' : Value} {n' : Nat} {xs' : List Value} (hB : Home own0 w0 w own) (hc : c ≠ 0) (hm : Mod (fun k => own k = c) w w') (hH : w.heap.size = H) (h : Row w' (fun k => own k = c ∨ H ≤ k) e size v' n' xs') :
    ∃ own', Home own0 w0 w' own' ∧ Row w' (fun k => own' k = c) e size v' n' xs' ∧ ∀ c', c' ≠ c → Keeps w w' own own' c' := by
  subst hH; exact home_turnrow hB hc hm h
theorem home_freshrow {own0 : Nat → Nat} (hB : Home own0 w0 w own) (cur : List Value) (e size n : Nat) (hl : cur.length = n * size) (hn : n ≤ maxLen) (c : Nat) :
    ∃ own', Home own0 w0 (w.alloc (.cells cur.toArray e)) own' ∧ Row (w.alloc (.cells cur.toArray e)) (fun k => own' k = c) e size (.slice (some ⟨w.heap.size, 0, none⟩) n n) n cur ∧ ∀ c', Keeps w (w.alloc (.cells cur.toArray e)) own own' c' :=
  ⟨paint own w c, hB.made c ((Mod.refl _ _).alloc _), (Row.fresh w cur e hl hn).mono fun k _ q => paint_new own w c q, fun c' => keeps_made ((Mod.refl _ _).alloc _) c c'⟩
end
/-- A row of so many. -/
def RowAny (w : World) (S : Nat → Prop) (v : Value) (l : List Int) : Prop := ∃ xs, Row w S 28 1 v l.length xs
/-- A row of rows. -/
def Rows2 (w : World) (S S' : Nat → Prop) (R : World → (Nat → Prop) → Value → List Int → Prop) (u : Value) (ls : List (List Int)) : Prop := ∃ vs, Row w S 25 1 u ls.length vs ∧ AllL (R w S') vs ls
def RowU (w : World) (S : Nat → Prop) (v : Value) (l : List Int) : Prop := Row w S 28 1 v l.length (l.map (Value.int .u64))
theorem RowU.lane {w : World} {S : Nat → Prop} {v : Value} {l : List Int} (h : RowU w S v l) : Lane w S v l := Row.cells h
theorem RowAny.store {w : World} {S : Nat → Prop} {v : Value} {l : List Int} (h : RowAny w S v l) (g k : Nat) (x : Value) : RowAny (w.setCell ⟨g, k, none⟩ x) S v l := by
  obtain ⟨xs, h⟩ := h
  rcases h.shape with ⟨rfl, h0, rfl⟩ | ⟨g', cap, cur, rfl, hS, hB, hn, hc, hl, hx⟩
  · exact ⟨[], by rw [h0]; exact Row.nil _ _ _ _⟩
  · by_cases e : g' = g
    · subst e
      exact ⟨_, Row.mk hS (hB.set k x) hn hc (by rw [List.length_set]; exact hl) rfl⟩
    · exact ⟨_, Row.mk hS (hB.setne e x) hn hc hl rfl⟩

theorem Rows2.at {w : World} {S S' : Nat → Prop} {a : Option Addr} {n cap k : Nat} {ls : List (List Int)} (h : Rows2 w S S' RowAny (.slice a n cap) ls) (hk : k < ls.length) :
    ∃ g off b c, a = some ⟨g, off, none⟩ ∧ w.cell? ⟨g, off + k, none⟩ = some (.slice b ls[k].length c) ∧ ls[k].length ≤ c ∧ c ≤ maxLen ∧
      (0 < ls[k].length → ∃ g2, b = some ⟨g2, 0, none⟩ ∧ S' g2 ∧ ∀ j, j < ls[k].length → (∃ v, w.cell? ⟨g2, j, none⟩ = some v) ∧ w.frozen? ⟨g2, j, none⟩ = false) := by
  obtain ⟨vs, hR, hA⟩ := h
  obtain ⟨u, hu, xs, hX⟩ := hA.2 k hk
  have hn : n = ls.length := by obtain ⟨_, _, e, _⟩ := hR.len; injection e
  subst hn
  obtain ⟨g, off, rfl, _⟩ := Cells.get hR.cells hu
  have hc := Cells.getAt hR.cells hu
  rcases hX.shape with ⟨rfl, h0, rfl⟩ | ⟨g', cp, cur, rfl, hS, hB, hn, hcm, hl, hx⟩
  · exact ⟨g, off, none, 0, rfl, by rw [h0]; exact hc, by omega, by decide, fun q => by omega⟩
  · exact ⟨g, off, _, cp, rfl, hc, hn, hcm, fun _ => ⟨g', rfl, hS, fun j hj => ⟨⟨_, hB.at j _ (List.getElem?_eq_getElem (by omega))⟩, hB.free j⟩⟩⟩
/-- A store into a block of colour 2. -/
theorem SpoilInv.store {w wr : World} {ls : List (List Int)} {u : Value} {b : Nat} {own : Nat → Nat} (hB : Home none0 w wr own) (h : Rows2 wr (fun j => own j = 1) (fun j => own j = 2) RowAny u ls) (hT : TapeAt wr b (fun j => own j = 3) ls) {g : Nat} (hg : own g = 2) (k : Nat) (x : Value) :
    Home none0 w (wr.setCell ⟨g, k, none⟩ x) own ∧ Rows2 (wr.setCell ⟨g, k, none⟩ x) (fun j => own j = 1) (fun j => own j = 2) RowAny u ls ∧ TapeAt (wr.setCell ⟨g, k, none⟩ x) b (fun j => own j = 3) ls := by
  have hm : Mod (fun j => own j = 2) wr (wr.setCell ⟨g, k, none⟩ x) := (Mod.refl _ _).setCell (fun _ => hg) x
  have hK : ∀ c, c ≠ 2 → Keeps wr (wr.setCell ⟨g, k, none⟩ x) own own c := fun c hc => ⟨hm.size, fun j hj e => ⟨e, hm.block j hj fun q => hc (e.symm.trans q)⟩⟩
  obtain ⟨vs, hR, hA⟩ := h
  exact ⟨⟨hB.bel.trans' hm fun j hj q => absurd ((hB.old j hj).symm.trans q) (by unfold none0; decide), hB.old⟩, ⟨vs, hR.keep (hK 1 (by decide)), hA.mono fun _ _ q => q.store g k x⟩, hT.keep (hK 3 (by decide))⟩
theorem ln_mem (ls : List (List Int)) (i : Int) : ln ls i = [] ∨ ln ls i ∈ ls := by
  by_cases h : i < 0
  · exact .inl (ln_neg h)
  · obtain ⟨k, rfl⟩ : ∃ k : Nat, i = k := ⟨i.toNat, by omega⟩
    by_cases hk : k < ls.length
    · rw [ln_nat hk]; exact .inr (List.getElem_mem hk)
    · exact .inl (ln_out (by omega))
theorem draw_range {ls : List (List Int)} (h : ∀ l ∈ ls, ∀ x ∈ l, 0 ≤ x ∧ x < 18446744073709551616) (i : Int) (n : Nat) : 0 ≤ ((ln ls i).drop n).headD 0 ∧ ((ln ls i).drop n).headD 0 < 18446744073709551616 := by
  cases hq : (ln ls i).drop n with
  | nil => simp
  | cons x r =>
    have hx : x ∈ ln ls i := List.mem_of_mem_drop (i := n) (by rw [hq]; simp)
    rcases ln_mem ls i with e | e
    · rw [e] at hx; simp at hx
    · exact h _ e x hx
/-- A count, as a value. -/
def natV (n : Nat) : Value := .int .i64 (n : Int)
theorem key_int : KeyT Try.prog 3 (Value.int .i64) := intKey Try.underlying3
theorem map_cnt {w : World} {b : Nat} {m : List (Int × Nat)} (h : MapAt (Value.int .i64) natV w b m) (i : Int) :
    (Instr.lookup 29 (.map (some b)) (.int .i64 i) false).run Try.prog w = .ok (.int .i64 (cnt m i : Int)) w := by
  rw [h.get key_int Try.underlying29 (z := .int .i64 0) (by kernel_rfl) i]
  unfold cnt
  cases lk m i <;> rfl
/-- Behind k copies. -/
def OwnInv (w wr : World) (ls : List (List Int)) (u : Value) (k : Nat) : Prop := ∃ own, Home none0 w wr own ∧ Rows2 wr (fun j => own j = 1) (fun j => own j = 2) RowU u (ls.take k)
def SpoilInv (w wr : World) (ls : List (List Int)) (u : Value) (b : Nat) : Prop := ∃ own, Home none0 w wr own ∧ Rows2 wr (fun j => own j = 1) (fun j => own j = 2) RowAny u ls ∧ TapeAt wr b (fun j => own j = 3) ls
def DPlaysInv (w wr : World) (ls : List (List Int)) (t : Value) (mb k : Nat) : Prop :=
  ∃ own tb ts m, t = .pointer (some ⟨tb, 0, none⟩) ∧ Home none0 w wr own ∧ TapeAt wr tb (fun j => own j = 3) ts ∧ MapOf (Value.int .i64) natV wr (fun j => own j = 4) mb m ∧ Behind ls ts m ∧ ∀ i, cnt m i ≤ k

def DPlaysMid (w wx : World) (ls : List (List Int)) (t : Value) (mb k ab : Nat) (kd ln' wt : Int) : Prop :=
  ∃ own tb ts m, t = .pointer (some ⟨tb, 0, none⟩) ∧ Home none0 w wx own ∧ TapeAt wx tb (fun j => own j = 3) ts ∧ MapOf (Value.int .i64) natV wx (fun j => own j = 4) mb m ∧ BlkAt wx (fun j => own j = 5) ab [.int .i64 kd, .int .i64 ln', .int .u64 wt] 32 ∧ Behind ls ts m ∧ ∀ i, cnt m i ≤ k + 1

set_option maxHeartbeats 6400000 in
set_option maxRecDepth 100000 in
theorem drawPlays_walk (v0 : Value) (ls : List (List Int)) (v1 : Value) (xs : List DAct) (w : World) (h : Lanes w (fun k => k < w.heap.size) v0 ls) (hu : ∀ l ∈ ls, ∀ x ∈ l, 0 ≤ x ∧ x < 18446744073709551616)
    (h' : Cells w (fun k => k < w.heap.size) v1 xs.length 3 (xs.flatMap DAct.cells)) :
    Calls Try.prog 3 #[v0, v1] w fun e w' => e = .returned (.bool true) ∧ Below w.heap.size w w' := by
  have H := hid h
  have H1 := hid h'
  have HU := hid hu
  obtain ⟨a, cap, rfl, hc1, hc2⟩ := h.shape
  obtain ⟨a1, cap1, rfl, hd1, hd2, _, hd⟩ := h'.shape
  unfold maxLen at hc2 hd2
  clear hd h h' hu
  by_cases h3 : 20 < ls.length
  · go_enter Try.func3, Try.ntmps3
    go_wp2_with fail
    with_reducible refine (draw_awake w).mono ?_
    rintro e w1 ⟨rfl, hm1⟩
    have HB := hid ((Home.start none0 w).made 0 hm1).below
    clear hm1
    go_wp2
    go_ret
    exact ⟨rfl, HB.out⟩
  · by_cases h4 : 200 < xs.length
    · go_enter Try.func3, Try.ntmps3
      go_wp2_with fail
      with_reducible refine (draw_awake w).mono ?_
      rintro e w1 ⟨rfl, hm1⟩
      have HB := hid ((Home.start none0 w).made 0 hm1).below
      clear hm1
      go_wp2
      go_ret
      exact ⟨rfl, HB.out⟩
    · have hmm := @run_makeMap Try.prog
      have HMM := hid hmm
      clear hmm
      go_enter Try.func3, Try.ntmps3
      go_wp2_with fail
      with_reducible refine (draw_awake w).mono ?_
      rintro e w1 ⟨rfl, hm1⟩
      have HB := hid ((Home.start none0 w).made 0 hm1)
      clear hm1
      go_wp2_with fail
      go_loopg [5, 6] (ls.length) (fun g u i wr => ∃ k : Nat, k ≤ ls.length ∧ k + g = ls.length ∧ i = .int .i64 k ∧ (∀ l ∈ ls.take k, l.length ≤ 300) ∧ OwnInv w wr ls u k)
      case atStart => exact ⟨0, by omega, by omega, rfl, by simp, (paint none0 w 0), HB.out, [], Row.nil _ _ _ _, rfl, fun i hi => by simp at hi⟩
      case round =>
        clear HB 
        obtain ⟨k, hk, hg, rfl, hle, own, hB, vs, hR, hA⟩ := hrel
        rw [List.length_take, Nat.min_eq_left hk] at hR
        have HB := hid hB
        have HR := hid hR
        have HA := hid hA
        clear hB hR hA
        by_cases hlt : k < ls.length
        · obtain ⟨g, off, b, c, rfl, p0, q1, q2, hL⟩ := Lanes.one (H.out.modNil HB.out.nil) hlt
          unfold maxLen at q2
          have hts : ls.take (k + 1) = ls.take k ++ [ls[k]] := List.take_succ_eq_append_getElem hlt
          generalize ls[k] = l at *
          have HTS := hid hts; have HLE := hid hle
          have HL := hid hL
          clear hts hle hL
          by_cases h5 : l.length ≤ 300
          · skip
            obtain ⟨au, cu, rfl, hcu, hcu2⟩ := HR.out.len
            unfold maxLen at hcu2
            have pg := cell_lt p0
            have HLA := hid (Cells.alloc HL.out (.cells #[] 28))
            obtain ⟨own1, hB', hL', hK'⟩ := home_freshrow HB.out [] 28 1 0 rfl (by decide) 9
            replace HR := hid (HR.out.keep (hK' 1))
            have HE := hid hL'; have HKA := hid hK'
            replace HB := hid hB'
            clear hB' hL' hK'
            go_wp2_with (at_builtin; refine wpRowCells rfl (.tmp 38) (.tmp 42) rfl sl_u64 (by omega) HE.out rfl HLA.out rfl (ones_u _) ?_ ?_ ?_)
            · unfold maxLen; omega
            · omega
            · intro v2 w2 hr2 hm2
              obtain ⟨a2, c2, rfl, hcc2, hcc3⟩ := hr2.len
              have HM2 := hid hm2
              obtain ⟨own2, hB', hE', hK'⟩ := home_turnrow2 HB.out (by decide) hm2 (by simp) hr2
              obtain ⟨own3, hB3, hE3, hK3⟩ := home_recolour hB' (c := 9) (by decide) 2
              have hA3 : AllL (RowU w2 (fun j => own3 j = 2)) vs (ls.take k) := by
                refine HA.out.mono fun u l (q : RowU wr (fun j => own j = 2) u l) => ?_
                have q1 : Row (wr.alloc (.cells #[] 28)) (fun j => own1 j = 2) 28 1 u l.length _ := Row.keep q (HKA.out 2)
                exact (q1.keep (hK' 2 (by decide))).keep (hK3 2 (by decide))
              have hR3 := (HR.out.keep (hK' 1 (by decide))).keep (hK3 1 (by decide))
              have hU3 : RowU w2 (fun j => own3 j = 2) (.slice a2 l.length c2) l := hE'.mono fun k _ q => hE3 k q
              have HA3 := hid hA3; have HR3 := hid hR3; have HU3 := hid hU3; have HB3 := hid hB3
              clear hr2 hm2 hB' hE' hK' hB3 hE3 hK3 hA3 hR3 hU3 HA HR HE HB HKA HM2
              go_wp2_with (at_builtin; refine wpRowPush rfl (.tmp 37) (.tmp 44) rfl sl_lane (by omega) HR3.out rfl rfl rfl [.slice a2 l.length c2] 25 rfl ?_ ?_ ?_ ?_)
              · simp [Value.oneCell']
              · unfold maxLen; omega
              · omega
              · intro v4 w4 hr4 hm4 hs4
                obtain ⟨own4, hB', hR', hK'⟩ := home_turnrow HB3.out (by decide) hm4 hr4
                have hA4 : AllL (RowU w4 (fun j => own4 j = 2)) (vs ++ [.slice a2 l.length c2]) (ls.take k ++ [l]) :=
                  AllL.push (HA3.out.mono fun u l (q : RowU w2 (fun j => own3 j = 2) u l) => (show RowU w4 (fun j => own4 j = 2) u l from Row.keep q (hK' 2 (by decide)))) (show RowU w4 (fun j => own4 j = 2) _ l from Row.keep HU3.out (hK' 2 (by decide)))
                have HA4 := hid hA4; have HB4 := hid hB'; have HR4 := hid hR'
                clear hr4 hm4 hs4 hB' hR' hK' hA4
                go_wp2_with fail
                go_roundg (gk - 1)
                case measure => omega
                case rel =>
                  refine ⟨k + 1, by omega, by omega, by go_num, fun y hy => ?_, own4, HB4.out, vs ++ [.slice a2 l.length c2], ?_, ?_⟩
                  · rw [HTS.out, List.mem_append, List.mem_singleton] at hy
                    exact hy.elim (HLE.out y) fun e => e ▸ h5
                  · rw [List.length_take, Nat.min_eq_left (by omega)]; exact HR4.out
                  · rw [HTS.out]; exact HA4.out
          · have h5' : (300 : Int) < (l.length : Int) := by omega
            go_wp2
            go_ret
            exact ⟨rfl, HB.out.below⟩
        · have hkl : k = ls.length := by omega
          subst hkl
          rw [List.take_length] at hle HA
          have HLE := hid hle
          have hnew := t_New _ vs ls wr (fun j => own j = 1 ∨ own j = 2) (HR.out.cells.mono fun _ _ q => .inl q) (HA.out.mono fun u l (q : RowU wr (fun j => own j = 2) u l) => (RowU.lane q).mono fun _ _ q => .inr q) (by omega) (fun l hl => by have := hle l hl; omega)
          have HNEW := hid hnew
          obtain ⟨au, cu, rfl, hcu, hcu2⟩ := HR.out.len
          unfold maxLen at hcu2
          clear hle hnew
          go_wp2_with fail
          with_reducible refine (step_makep HB.out 3 HNEW.out).mono ?_
          rintro e x1 ⟨b, own1, rfl, hB', hT', hK'⟩
          have hS : Rows2 x1 (fun j => own1 j = 1) (fun j => own1 j = 2) RowAny (.slice au ls.length cu) ls := ⟨vs, HR.out.keep (hK' 1), HA.out.mono fun u l (q : RowU wr (fun j => own j = 2) u l) => ⟨_, Row.keep q (hK' 2)⟩⟩
          replace HB := hid hB'
          have HT := hid hT'; have HS := hid hS
          clear hB' hT' hK' hS HR HA HNEW
          go_wp2_with fail
          go_loopg [8] (ls.length) (fun g i wr => ∃ k : Nat, k ≤ ls.length ∧ k + g = ls.length ∧ i = .int .i64 k ∧ SpoilInv w wr ls (.slice au ls.length cu) b)
          case atStart => exact ⟨0, by omega, by omega, rfl, own1, HB.out, HS.out, HT.out⟩
          case round =>
            clear HB HS HT
            obtain ⟨k, hk, hg, rfl, own, hB, hS, hT⟩ := hrel
            by_cases hlt : k < ls.length
            · have HB := hid hB
              have HS := hid hS
              have HT := hid hT
              clear hB hS hT
              have hkl : (k : Int) < (ls.length : Int) := by omega
              go_wp2_with fail
              go_loopg [9] (ls[k].length) (fun g i wr => ∃ j : Nat, j ≤ ls[k].length ∧ j + g = ls[k].length ∧ i = .int .i64 j ∧ SpoilInv w wr ls (.slice au ls.length cu) b)
              case atStart => exact ⟨0, by omega, by omega, rfl, own, HB.out, HS.out, HT.out⟩
              case round =>
                clear HB HS HT
                obtain ⟨j, hj, hgj, rfl, own, hB, hS, hT⟩ := hrel
                have hS' := hS
                obtain ⟨g, off, b2, c2, rfl, p0, q1, q2, hin⟩ := hS'.at hlt
                unfold maxLen at q2
                generalize ls[k].length = L at *
                by_cases hjL : j < L
                · obtain ⟨g2, rfl, hg2, hall⟩ := hin (by omega)
                  obtain ⟨⟨v2, p2⟩, f2⟩ := hall j hjL
                  have HR := hid (SpoilInv.store hB hS hT hg2 j (.int .u64 77))
                  have hjL2 : (j : Int) < (L : Int) := by omega
                  clear hB hS hS' hT hin hall
                  go_wp2_with fail
                  go_roundg (gk - 1)
                  case measure => omega
                  case rel => exact ⟨j + 1, by omega, by omega, by go_num, own, HR.out⟩
                · have hjL' : (L : Int) ≤ (j : Int) := by omega
                  have HB := hid hB
                  have HS := hid hS
                  have HT := hid hT
                  clear hB hS hT
                  clear hS' hin
                  go_wp2_with fail
                  go_roundg (ls.length - (k + 1))
                  case measure => omega
                  case rel => exact ⟨k + 1, by omega, by omega, by go_num, own, HB.out, HS.out, HT.out⟩
            · clear hS
              have hmm := HMM.out
              have HB := hid hB
              have HT := hid hT
              clear hB hT
              go_wp2_with fail
              obtain ⟨own1, hB', hL', hK'⟩ := home_map (Value.int .i64) natV HB.out 4
              replace HT := hid (HT.out.keep (hK' 3))
              have HM := hid hL'
              replace HB := hid hB'
              clear hB' hL' hK'
              have hsz_x1 : Hid ((wr.alloc (.map #[] 0)).heap.size = wr.heap.size + 1) := hid (by simp)
              generalize wr.alloc (.map #[] 0) = x1 at HB hsz_x1 HT HM ⊢
              clear hmm
              generalize wr.heap.size = mb at HM ⊢
              go_loopg [7, 11] (xs.length) (fun g t i wr' => ∃ k : Nat, k ≤ xs.length ∧ k + g = xs.length ∧ i = .int .i64 k ∧ DPlaysInv w wr' ls t mb k)
              case atStart => exact ⟨0, by omega, by omega, rfl, own1, b, ls, [], rfl, HB.out, HT.out, HM.out, Behind.start ls, fun i => by simp [cnt, lk]⟩
              case round =>
                clear hk hg hlt hsz_x1
                clear HB HT HM
                obtain ⟨k, hk, hg, rfl, own, tb, ts, m, rfl, hB, hT, hM, hbe, hcn⟩ := hrel
                by_cases hlt : k < xs.length
                · obtain ⟨g1, off1, rfl, _, _, hcell⟩ := Cells.addr H1.out (by omega)
                  obtain ⟨⟨⟨kd, ln', wt⟩, hw0, hw1, hw2⟩, hx⟩ : ∃ x, x = xs[k] := ⟨_, rfl⟩
                  have p0 := hB.cell (hcell (k * 3 + 0) (.int .i64 kd) (by rw [get_flat (size := 3) (fun _ => rfl) xs k 0 hlt (by omega), ← hx]; rfl))
                  have p1 := hB.cell (hcell (k * 3 + 1) (.int .i64 ln') (by rw [get_flat (size := 3) (fun _ => rfl) xs k 1 hlt (by omega), ← hx]; rfl))
                  have p2 := hB.cell (hcell (k * 3 + 2) (.int .u64 wt) (by rw [get_flat (size := 3) (fun _ => rfl) xs k 2 hlt (by omega), ← hx]; rfl))
                  simp only [Nat.add_zero, ← Nat.add_assoc] at p0 p1 p2
                  have r0 := i64_range hw0
                  have r1 := i64_range hw1
                  simp only at r0 r1
                  have hkl : (k : Int) < (xs.length : Int) := by omega
                  have hcl := hcn ln'
                  have HBE := hid hbe; have HCN := hid hcn; have R1 := hid r1
                  clear hcell hx hw0 hw1 hw2 hbe hcn r1
                  obtain ⟨C, hC⟩ : ∃ C, C = cnt m ln' := ⟨_, rfl⟩
                  rw [← hC] at hcl
                  have HC := hid hC
                  clear hC
                  have HB := hid hB
                  have HT := hid hT
                  have HM := hid hM
                  clear hB hT hM
                  have hlk : ∀ y S, MapOf (Value.int .i64) natV y S mb m → (Instr.lookup 29 (.map (some mb)) (.int .i64 ln') false).run Try.prog y = .ok (.int .i64 (C : Int)) y := fun y S hy => by rw [HC.out]; exact map_cnt hy.1 ln'
                  have HLK := hid hlk
                  clear hlk
                  have hlk1 := fun o => HLK.out (wr.alloc o) (fun _ => True) ⟨HM.out.1.alloc o, trivial⟩
                  go_wp2_with fail
                  clear hlk1
                  obtain ⟨own1, hB', hL', hK'⟩ := home_alloc HB.out [.int .i64 kd, .int .i64 ln', .int .u64 wt] 32 5
                  replace HT := hid (HT.out.keep (hK' 3))
                  replace HM := hid (HM.out.keep (hK' 4))
                  have HA := hid hL'
                  replace HB := hid hB'
                  clear hB' hL' hK'
                  have hsz_x1 : Hid ((wr.alloc (.cells [.int .i64 kd, .int .i64 ln', .int .u64 wt].toArray 32)).heap.size = wr.heap.size + 1) := hid (by simp)
                  generalize wr.alloc (.cells [.int .i64 kd, .int .i64 ln', .int .u64 wt].toArray 32) = x1 at HB hsz_x1 HT HM HA ⊢
                  have hnx := ref02_Next (H.out.modNil HB.out.nil) ln' R1.out C (by omega)
                  obtain ⟨N, hN⟩ : ∃ N, N = ((ln ls ln').drop C).headD 0 := ⟨_, rfl⟩
                  rw [← hN] at hnx
                  have HNX := hid hnx; have HN := hid hN
                  clear hnx hN
                  go_wp2_with fail
                  have hct := (HNX.out)
                  with_reducible refine hct.mono ?_
                  clear hct
                  rintro e w' ⟨rfl, rfl⟩
                  clear HNX p0 p1 p2
                  have a0 := HA.out.1.at 0 _ rfl
                  have a1 := HA.out.1.at 1 _ rfl
                  have a2 := HA.out.1.at 2 _ rfl
                  have alt := HA.out.1.lt
                  go_upto_block 8 with (fail)
                  have hcn1 : ∀ i, cnt (bump m ln') i ≤ k + 1 := fun i => by
                    rw [cnt_bump]
                    split
                    · have := HCN.out ln'; omega
                    · have := HCN.out i; omega
                  have HCN1 := hid hcn1
                  have hNr := draw_range HU.out ln' C
                  rw [← HN.out] at hNr
                  obtain ⟨n0, n1⟩ := hNr
                  have hput : put m ln' (C + 1) = bump m ln' := by rw [HC.out]; rfl
                  have HPUT := hid hput
                  clear hcn1 hput
                  go_cut [7] (fun t wx => DPlaysMid w wx ls t mb k wr.heap.size kd ln' wt)
                  case first =>
                    by_cases hk0 : kd = 0
                    · subst hk0
                      have hne : (N != N) = false := nef rfl
                      go_wp2_with fail
                      have hct := step_turn HB.out (by decide) (after_as (t_Next HT.out ln' R1.out) (r' := .int .u64 N) (by rw [HBE.out.2 ln', ← HC.out, HN.out]) (fun _ _ q => q))
                      with_reducible refine hct.mono ?_
                      clear hct
                      rintro e x3 ⟨own3, rfl, hB', hL', hK'⟩
                      replace HM := hid (HM.out.keep (hK' 4 (by decide)))
                      replace HA := hid (HA.out.keep (hK' 5 (by decide)))
                      replace HT := hid hL'
                      replace HB := hid hB'
                      clear hB' hL' hK'
                      replace a0 := HA.out.1.at 0 _ rfl
                      replace a1 := HA.out.1.at 1 _ rfl
                      replace a2 := HA.out.1.at 2 _ rfl
                      replace alt := HA.out.1.lt
                      have hlk2 := HLK.out _ _ HM.out
                      go_wp2_with (at_mapUpdate; refine wpMapStore rfl _ _ _ rfl key_int Try.underlying29 HM.out.1 rfl ln' (C + 1) rfl rfl ?_; intro w3 hm3 hg3)
                      clear hlk2
                      obtain ⟨own4, hB', hL', hK'⟩ := home_turnmap HB.out (by decide) HM.out hm3 hg3
                      replace HT := hid (HT.out.keep (hK' 3 (by decide)))
                      replace HA := hid (HA.out.keep (hK' 5 (by decide)))
                      replace HM := hid hL'
                      replace HB := hid hB'
                      clear hB' hL' hK'
                      clear hm3 hg3
                      replace a0 := HA.out.1.at 0 _ rfl
                      replace a1 := HA.out.1.at 1 _ rfl
                      replace a2 := HA.out.1.at 2 _ rfl
                      replace alt := HA.out.1.lt
                      go_meet
                      exact ⟨own4, tb, nx ts ln', _, rfl, HB.out, HT.out, HM.out, HA.out, by rw [HPUT.out]; exact HBE.out.next ln', by rw [HPUT.out]; exact HCN1.out⟩
                    · have hk0' := eqf hk0
                      by_cases hk1 : kd = 1
                      · subst hk1
                        obtain ⟨d, hd⟩ : ∃ d, d = decide (N / 4 < wt) := ⟨_, rfl⟩
                        have hne : (d != d) = false := by simp
                        have HP : Hid (Value.bool (decide ((ln ts ln').headD 0 / 4 < wt)) = Value.bool d) := hid (by rw [HBE.out.2 ln', ← HC.out, ← HN.out, hd])
                        have HP2 := hid (fun y : World => hd ▸ ref02_Pick (w := y) N wt n0 n1)
                        clear hd
                        go_wp2_with fail
                        obtain ⟨hB', hK'⟩ := home_drew HB.out
                        replace HT := hid (HT.out.keep (hK' 3))
                        replace HM := hid (HM.out.keep (hK' 4))
                        replace HA := hid (HA.out.keep (hK' 5))
                        replace HB := hid hB'
                        clear hB' hK'
                        replace a0 := HA.out.1.at 0 _ rfl
                        replace a1 := HA.out.1.at 1 _ rfl
                        replace a2 := HA.out.1.at 2 _ rfl
                        replace alt := HA.out.1.lt
                        have tok1 : True := trivial
                        have tok2 : True := trivial
                        go_region_held3 (fun w' => w'.cell? ⟨wr.heap.size, 1, none⟩ = some (.int .i64 ln') ∧ w'.cell? ⟨wr.heap.size, 2, none⟩ = some (.int .u64 wt)) (first | assumption | exact ⟨a1, a2⟩) (first
                          | (go_at_call 18; have _t := tok1; clear tok1 _t; have hct := step_turn HB.out (by decide) (after_as (t_Pick HT.out ln' R1.out wt) (r' := .bool d) HP.out (fun _ _ q => q)); with_reducible refine hct.mono ?_; clear hct; rintro e x4 ⟨own4, rfl, hB', hL', hK'⟩; replace HM := hid (HM.out.keep (hK' 4 (by decide))); replace HA := hid (HA.out.keep (hK' 5 (by decide))); replace HT := hid hL'; replace HB := hid hB'; clear hB' hL' hK'; replace a0 := HA.out.c0; replace a1 := HA.out.c1; replace a2 := HA.out.c2; replace alt := HA.out.lt)
                          | (go_at_call 19; have _t := tok2; clear tok2 _t; with_reducible refine ((HP2.out _)).mono ?_; rintro e w' ⟨rfl, rfl⟩))
                        clear HP HP2
                        have hlk2 := HLK.out _ _ HM.out
                        go_wp2_with (at_mapUpdate; refine wpMapStore rfl _ _ _ rfl key_int Try.underlying29 HM.out.1 rfl ln' (C + 1) rfl rfl ?_; intro w3 hm3 hg3)
                        clear hlk2
                        obtain ⟨own6, hB', hL', hK'⟩ := home_turnmap HB.out (by decide) HM.out hm3 hg3
                        replace HT := hid (HT.out.keep (hK' 3 (by decide)))
                        replace HA := hid (HA.out.keep (hK' 5 (by decide)))
                        replace HM := hid hL'
                        replace HB := hid hB'
                        clear hB' hL' hK'
                        clear hm3 hg3
                        replace a0 := HA.out.1.at 0 _ rfl
                        replace a1 := HA.out.1.at 1 _ rfl
                        replace a2 := HA.out.1.at 2 _ rfl
                        replace alt := HA.out.1.lt
                        go_meet
                        exact ⟨own6, tb, nx ts ln', _, rfl, HB.out, HT.out, HM.out, HA.out, by rw [HPUT.out]; exact HBE.out.next ln', by rw [HPUT.out]; exact HCN1.out⟩
                      · have hk1' := eqf hk1
                        by_cases hk2 : kd = 2
                        · subst hk2
                          have b1 : ts.length ≤ 1000000 := by rw [HBE.out.1]; omega
                          have b2 : ∀ l ∈ ts, l.length ≤ 1000000 := fun l hl => Nat.le_trans (HBE.out.le HLE.out l hl) (by decide)
                          have B1 := hid b1; have B2 := hid b2
                          clear b1 b2
                          go_wp2_with fail
                          have hct := step_makep HB.out 6 (t_Copy HT.out B1.out B2.out)
                          with_reducible refine hct.mono ?_
                          clear hct
                          rintro e x3 ⟨cb, own3, rfl, hB', hL', hK'⟩
                          replace HT := hid (HT.out.keep (hK' 3))
                          replace HM := hid (HM.out.keep (hK' 4))
                          replace HA := hid (HA.out.keep (hK' 5))
                          have HC2 := hid hL'
                          replace HB := hid hB'
                          clear hB' hL' hK'
                          replace a0 := HA.out.1.at 0 _ rfl
                          replace a1 := HA.out.1.at 1 _ rfl
                          replace a2 := HA.out.1.at 2 _ rfl
                          replace alt := HA.out.1.lt
                          go_wp2_with fail
                          have hct := step_turn HB.out (by decide) (t_Next HC2.out ln' R1.out)
                          with_reducible refine hct.mono ?_
                          clear hct
                          rintro e x4 ⟨own4, rfl, hB', hL', hK'⟩
                          replace HT := hid (HT.out.keep (hK' 3 (by decide)))
                          replace HM := hid (HM.out.keep (hK' 4 (by decide)))
                          replace HA := hid (HA.out.keep (hK' 5 (by decide)))
                          replace HC2 := hid hL'
                          replace HB := hid hB'
                          clear hB' hL' hK'
                          replace a0 := HA.out.1.at 0 _ rfl
                          replace a1 := HA.out.1.at 1 _ rfl
                          replace a2 := HA.out.1.at 2 _ rfl
                          replace alt := HA.out.1.lt
                          go_wp2_with fail
                          have hct := step_makep HB.out 3 (t_Copy HT.out B1.out B2.out)
                          with_reducible refine hct.mono ?_
                          clear hct
                          rintro e x5 ⟨tb2, own5, rfl, hB', hL', hK'⟩
                          replace HT := hid (HT.out.keep (hK' 3))
                          replace HM := hid (HM.out.keep (hK' 4))
                          replace HA := hid (HA.out.keep (hK' 5))
                          replace HC2 := hid (HC2.out.keep (hK' 6))
                          have HT2 := hid hL'
                          replace HB := hid hB'
                          clear hB' hL' hK'
                          replace a0 := HA.out.1.at 0 _ rfl
                          replace a1 := HA.out.1.at 1 _ rfl
                          replace a2 := HA.out.1.at 2 _ rfl
                          replace alt := HA.out.1.lt
                          go_wp2_with fail
                          go_meet
                          exact ⟨own5, tb2, ts, m, rfl, HB.out, HT2.out, HM.out, HA.out, HBE.out, fun i => by have := HCN.out i; omega⟩
                        · skip
                          have hk2' := eqf hk2
                          go_wp2_with fail
                          go_meet
                          exact ⟨own1, tb, ts, m, rfl, HB.out, HT.out, HM.out, HA.out, HBE.out, fun i => by have := HCN.out i; omega⟩
                  case rest =>
                    clear HLK HPUT HCN1 HBE HCN HN HC n0 n1 hcl
                    clear HB HT HM HA a0 a1 a2 alt
                    obtain ⟨own', tb', ts', m', rfl, hB, hT, hM, hA, hbe, hcn⟩ := hcut
                    have hcl := hcn ln'
                    obtain ⟨C, hC⟩ : ∃ C, C = cnt m' ln' := ⟨_, rfl⟩
                    rw [← hC] at hcl
                    have hL := fun n => tape_Left (Mov.drewN (R := fun w S => TapeAt w tb' S ts') hT n) ln' R1.out
                    rw [hbe.2 ln', ← hC] at hL
                    have hL2 := fun n => ref02_Left (H.out.modNil (hB.drewN n).nil) ln' R1.out C (by omega)
                    have hlk : ∀ n, (Instr.lookup 29 (.map (some mb)) (.int .i64 ln') false).run Try.prog (wc.drewN n) = .ok (.int .i64 (C : Int)) (wc.drewN n) := fun n => by
                      rw [hC]; exact map_cnt (Mov.drewN (R := fun w S => MapOf (Value.int .i64) natV w S mb m') hM n).1 ln'
                    generalize ((ln ls ln').drop C).length = D at hL hL2
                    have hne : (D != D) = false := by simp
                    have HL1 := hid hL; have HL2 := hid hL2; have HBE := hid hbe; have HCN := hid hcn
                    clear hL hL2 hbe hcn hC
                    have HB := hid hB
                    have HT := hid hT
                    have HM := hid hM
                    have HA := hid hA
                    clear hB hT hM hA
                    have a0 := HA.out.1.at 0 _ rfl
                    have a1 := HA.out.1.at 1 _ rfl
                    have a2 := HA.out.1.at 2 _ rfl
                    have alt := HA.out.1.lt
                    go_wp2_with fail
                    go_quiet ((first | (go_at_call 21; exact quietSame (HL1.out _)) | (go_at_call 22; exact quietSame (HL2.out _))))
                    clear hlk HL1 HL2
                    obtain ⟨hB', hK'⟩ := home_drewN HB.out nq
                    replace HT := hid (HT.out.keep (hK' 3))
                    replace HM := hid (HM.out.keep (hK' 4))
                    replace HA := hid (HA.out.keep (hK' 5))
                    replace HB := hid hB'
                    clear hB' hK'
                    have hsz_x1 : Hid ((wc.drewN nq).heap.size = wc.heap.size) := hid (by simp)
                    generalize wc.drewN nq = x1 at HB hsz_x1 HT HM HA ⊢
                    replace a0 := HA.out.1.at 0 _ rfl
                    replace a1 := HA.out.1.at 1 _ rfl
                    replace a2 := HA.out.1.at 2 _ rfl
                    replace alt := HA.out.1.lt
                    go_wp2_with fail
                    go_roundg (gk - 1)
                    case measure => omega
                    case rel => exact ⟨k + 1, by omega, by omega, by go_num, own', tb', ts', m', rfl, HB.out, HT.out, HM.out, HBE.out, HCN.out⟩
                · have HB := hid hB
                  have HT := hid hT
                  have HM := hid hM
                  clear hB hT hM
                  go_wp2
                  go_ret
                  exact ⟨rfl, HB.out.below⟩
end Go.Proofs.Ythbffkdfahlpdaa
