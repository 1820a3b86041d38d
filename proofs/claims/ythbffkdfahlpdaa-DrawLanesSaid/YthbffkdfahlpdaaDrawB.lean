/- The walk of DrawCopies: what came in is read alone; true. -/
import Derived.Test.YthbffkdfahlpdaaDrawA
import Derived.Deep.LoopGhost
import Derived.Deep.DeepCutAuto
import Derived.Deep.RegionHeld3
import Derived.Deep.DrawnRows
set_option linter.unusedVariables false
namespace Go.Proofs.Ythbffkdfahlpdaa
open Go.RowKit Go.MapKept
attribute [local go_sem ↓] Go.wp_at_zero Go.wp_at_succ

theorem lane_of {w : World} {S : Nat → Prop} {v : Value} {xs : List {a : Int // (Lit.int .u64 a).wf = true}} (h : Cells w S v xs.length 1 (xs.flatMap fun x => [Value.int .u64 x.1])) : Lane w S v (xs.map Subtype.val) := by
  unfold Lane
  rw [List.length_map, List.map_map]
  have e : xs.flatMap (fun x => [Value.int .u64 x.1]) = xs.map (Value.int .u64 ∘ Subtype.val) := by
    clear h
    induction xs with
    | nil => rfl
    | cons x xs ih => rw [List.flatMap_cons, ih]; rfl
  rw [← e]; exact h
theorem ln_one (l : List Int) : ln [l] 0 = l := rfl
theorem nx_one (l : List Int) : nx [l] 0 = [l.tail] := rfl
theorem conv_u8 {a : Int} (h : 0 ≤ a ∧ a < 256) : IntKind.i64.wrap a = a := IntWalk.i64_in _ (by omega)

theorem Cells.get {w : World} {S : Nat → Prop} {a : Option Addr} {n cap k : Nat} {xs : List Value} {u : Value} (h : Cells w S (.slice a n cap) n 1 xs) (hx : xs[k]? = some u) : ∃ g off, a = some ⟨g, off, none⟩ ∧ S g := by
  have hl : 0 < n := by have := (List.getElem?_eq_some_iff.1 hx).1; obtain ⟨_, _, _, _, _, h4, _⟩ := h; omega
  obtain ⟨g, off, e, hS, _⟩ := h.addr hl
  exact ⟨g, off, e, hS⟩
theorem Cells.getAt {w : World} {S : Nat → Prop} {g off n cap k : Nat} {xs : List Value} {u : Value} (h : Cells w S (.slice (some ⟨g, off, none⟩) n cap) n 1 xs) (hx : xs[k]? = some u) : w.cell? ⟨g, off + k, none⟩ = some u := by
  have hl : 0 < n := by have := (List.getElem?_eq_some_iff.1 hx).1; obtain ⟨_, _, _, _, _, h4, _⟩ := h; omega
  obtain ⟨g', off', e, _, _, h2⟩ := h.addr hl
  cases e
  exact h2 k u hx
/-- After j draws of the lane. -/
def CopyInv (w wr : World) (b : Nat) (l : List Int) (j : Nat) : Prop := ∃ own, Home none0 w wr own ∧ TapeAt wr b (fun k => own k = 1) [l.drop j]
/-- .. its draws are kept. -/
def CopyInv2 (w wr : World) (b c : Nat) (l r : List Int) (u : Value) (j : Nat) : Prop :=
  ∃ own t, Home none0 w wr own ∧ TapeAt wr b (fun k => own k = 1) [l.drop j] ∧ TapeAt wr c (fun k => own k = 2) [r] ∧ t = (List.range j).map (fun i => (l.drop i).headD 0) ∧ Row wr (fun k => own k = 3) 28 1 u j (t.map (Value.int .u64))
def CopyInv3 (w wr : World) (b c : Nat) (q r : List Int) (u : Value) (n j : Nat) : Prop :=
  ∃ own t, Home none0 w wr own ∧ TapeAt wr b (fun k => own k = 1) [q] ∧ TapeAt wr c (fun k => own k = 2) [r.drop j] ∧ t = (List.range n).map (fun i => (r.drop i).headD 0) ∧ Row wr (fun k => own k = 3) 28 1 u n (t.map (Value.int .u64))

set_option maxHeartbeats 3200000 in
set_option maxRecDepth 100000 in
theorem drawCopies_walk (v0 : Value) (l : List Int) (p q : Int) (w : World) (h : Lane w (fun k => k < w.heap.size) v0 l) (hp : (Lit.int .u8 p).wf = true) (hq : (Lit.int .u8 q).wf = true) :
    Calls Try.prog 7 #[v0, .int .u8 p, .int .u8 q] w fun e w' => e = .returned (.bool true) ∧ Below w.heap.size w w' := by
  have hp' := u8_range hp
  have hq' := u8_range hq
  have H := hid h
  obtain ⟨a, cap, rfl, hc1, hc2, _, hc⟩ := h.shape
  unfold maxLen at hc2
  clear hp hq hc h
  by_cases h3 : 300 < l.length
  · go_enter Try.func7, Try.ntmps7
    go_wp2_with fail
    with_reducible refine (draw_awake w).mono ?_
    rintro e w1 ⟨rfl, hm1⟩
    have HB := hid ((Home.start none0 w).made 0 hm1).below
    clear hm1
    go_wp2
    go_ret
    exact ⟨rfl, HB.out⟩
  · obtain ⟨P, rfl⟩ : ∃ P : Nat, p = P := ⟨p.toNat, by omega⟩
    obtain ⟨Q, rfl⟩ : ∃ Q : Nat, q = Q := ⟨q.toNat, by omega⟩
    obtain ⟨p1, p2⟩ := hp'
    obtain ⟨q1, q2⟩ := hq'
    go_enter Try.func7, Try.ntmps7
    go_wp2_with fail
    with_reducible refine (draw_awake w).mono ?_
    rintro e w1 ⟨rfl, hm1⟩
    have HB := hid ((Home.start none0 w).made 0 hm1)
    clear hm1
    have HLN : Hid (Lane w1 (fun k => k < w.heap.size) (.slice a l.length cap) l) := hid (HB.out.cells H.out)
    go_wp2_with fail
    with_reducible refine (step_makep HB.out 1 (t_New1 _ _ l _ HLN.out (by omega) rfl)).mono ?_
    rintro e x1 ⟨b, own1, rfl, hB', hL', hK'⟩
    have HT := hid hL'
    replace HB := hid hB'
    clear hB' hL' hK'
    go_wp2_with fail
    go_loopg [8] P (fun g i wr => ∃ j : Nat, j + g = P ∧ i = .int .i64 j ∧ CopyInv w wr b l j)
    case atStart => exact ⟨0, by omega, rfl, own1, HB.out, HT.out⟩
    case round =>
      clear HB HT
      obtain ⟨j, hj, rfl, own, hB, hT⟩ := hrel
      have HB := hid hB
      have HT := hid hT
      clear hB hT
      by_cases hlt : j < P
      · go_wp2_with fail
        have hct := step_turn HB.out (by decide) (t_Next HT.out 0 (by decide))
        with_reducible refine hct.mono ?_
        clear hct
        rintro e x1 ⟨own1, rfl, hB', hL', hK'⟩
        replace HT := hid hL'
        replace HB := hid hB'
        clear hB' hL' hK'
        go_wp2_with fail
        go_roundg (gk - 1)
        case measure => omega
        case rel => exact ⟨j + 1, by omega, by go_num, own1, HB.out, by have := HT.out; rw [nx_one, List.tail_drop] at this; exact this⟩
      · have e : j = P := by omega
        subst e
        go_wp2_with fail
        have hct := step_makep HB.out 2 (t_Copy HT.out (by simp) (by simp; omega))
        with_reducible refine hct.mono ?_
        clear hct
        rintro e x1 ⟨c, own1, rfl, hB', hL', hK'⟩
        replace HT := hid (HT.out.keep (hK' 1))
        have HC := hid hL'
        replace HB := hid hB'
        clear hB' hL' hK'
        obtain ⟨r, hr⟩ : ∃ r, r = l.drop j := ⟨_, rfl⟩
        have hrl : r.length = l.length - j := by rw [hr, List.length_drop]
        rw [← hr] at HT HC
        obtain ⟨Ln, hLn⟩ : ∃ Ln, Ln = l.length := ⟨_, rfl⟩
        rw [← hLn] at hrl hc1 h3 ⊢
        clear hr hLn H HLN
        have HRL := hid hrl
        clear hrl
        go_upto_region 13 with (fail)
        go_cut [52] (fun v wx => v = .bool false ∧ wx = x1)
        case first =>
          go_wp2_with fail
          have hct := (tape_Left HC.out 0 (by decide))
          with_reducible refine hct.mono ?_
          clear hct
          rintro e w' ⟨rfl, rfl⟩
          go_wp2_with fail
          have hct := (tape_Left HT.out 0 (by decide))
          with_reducible refine hct.mono ?_
          clear hct
          rintro e w' ⟨rfl, rfl⟩
          go_wp2_with fail
          have hct := (tape_Left HT.out 0 (by decide))
          with_reducible refine hct.mono ?_
          clear hct
          rintro e w' ⟨rfl, rfl⟩
          rw [ln_one]
          by_cases hjl : Ln < j
          · have e0 : r.length = 0 := by have := HRL.out; omega
            rw [e0]
            have hjl' : (Ln : Int) - j < 0 := by omega
            go_wp2_with fail
            go_meet
            exact ⟨rfl, rfl⟩
          · obtain ⟨d, rfl⟩ : ∃ d, Ln = j + d := ⟨Ln - j, by omega⟩
            have e0 : r.length = d := by have := HRL.out; omega
            rw [e0]
            by_cases hd : d = 0
            · subst hd
              go_wp2_with fail
              go_meet
              exact ⟨rfl, rfl⟩
            · have hRp : (0 : Int) < (d : Int) := by omega
              go_wp2_with fail
              go_meet
              exact ⟨congrArg Value.bool (nef (by omega)), rfl⟩
        case rest =>
          obtain ⟨rfl, rfl⟩ := hcut
          go_wp2_with fail
          go_loopg [10, 11] Q (fun g u i wr => ∃ j : Nat, j + g = Q ∧ i = .int .i64 j ∧ CopyInv2 w wr b c r r u j)
          case atStart => exact ⟨0, by omega, rfl, own1, [], HB.out, HT.out, HC.out, rfl, Row.nil _ _ _ _⟩
          case round =>
            clear HB HT HC
            obtain ⟨i, hi, rfl, own, t, hB, hT, hC, ht, hU⟩ := hrel
            have HB := hid hB
            have HT := hid hT
            have HC := hid hC
            have HU := hid hU
            clear hB hT hC hU
            by_cases hlt : i < Q
            · have HTT := hid ht
              clear ht
              go_wp2_with fail
              have hct := step_turn HB.out (by decide) (t_Next HT.out 0 (by decide))
              with_reducible refine hct.mono ?_
              clear hct
              rintro e x1 ⟨own1, rfl, hB', hL', hK'⟩
              replace HC := hid (HC.out.keep (hK' 2 (by decide)))
              replace HU := hid (HU.out.keep (hK' 3 (by decide)))
              replace HT := hid hL'
              replace HB := hid hB'
              clear hB' hL' hK'
              rw [ln_one]
              obtain ⟨x, hx⟩ : ∃ x, x = (r.drop i).headD 0 := ⟨_, rfl⟩
              rw [← hx]
              have HX := hid hx
              clear hx
              go_wp2_with (at_builtin; refine wpRowPush rfl _ _ rfl sl_u64 (by omega) HU.out rfl rfl rfl [.int .u64 x] 28 rfl ?_ ?_ ?_ ?_)
              · simp [Value.oneCell']
              · unfold maxLen; omega
              · omega
              · intro v2 w2 hr2 hm2 hs2
                obtain ⟨own2, hB', hL', hK'⟩ := home_turnrow HB.out (by decide) hm2 hr2
                replace HT := hid (HT.out.keep (hK' 1 (by decide)))
                replace HC := hid (HC.out.keep (hK' 2 (by decide)))
                replace HU := hid hL'
                replace HB := hid hB'
                clear hB' hL' hK'
                clear hr2 hm2
                go_wp2_with fail
                go_roundg (gk - 1)
                case measure => omega
                case rel => exact ⟨i + 1, by omega, by go_num, own2, t ++ [x], HB.out, by have := HT.out; rw [nx_one, List.tail_drop] at this; exact this, HC.out, by rw [HTT.out, HX.out, List.range_succ, List.map_append]; rfl, by simpa using HU.out⟩
            · skip
              have e : i = Q := by omega
              subst e
              have hlt2 : ((i : Int)) < 256 := by omega
              obtain ⟨au, cu, rfl, hcu, hcu2⟩ := HU.out.len
              unfold maxLen at hcu2
              have HTT := hid ht
              clear ht
              go_wp2_with fail
              go_loopg [12] i (fun g k wr => ∃ j : Nat, j + g = i ∧ k = .int .i64 j ∧ CopyInv3 w wr b c (r.drop i) r (.slice au i cu) i j)
              case atStart => exact ⟨0, by omega, rfl, own, t, HB.out, HT.out, HC.out, HTT.out, HU.out⟩
              case round =>
                clear HTT
                clear HB HT HC HU
                obtain ⟨k, hk, rfl, own, t, hB, hT, hC, ht, hU⟩ := hrel
                by_cases hlt : k < i
                · have hx : t[k]? = some ((r.drop k).headD 0) := by rw [ht]; simp [hlt]
                  obtain ⟨x, hxx⟩ : ∃ x, x = (r.drop k).headD 0 := ⟨_, rfl⟩
                  rw [← hxx] at hx
                  have hx2 : (t.map (Value.int .u64))[k]? = some (.int .u64 x) := by rw [List.getElem?_map, hx]; rfl
                  obtain ⟨g, off, rfl, _⟩ := Cells.get hU.cells hx2
                  have HX := hid hx2; have HXX := hid hxx; have HTT := hid ht
                  have hki : (k : Int) < (i : Int) := by omega
                  have hxb : (x != x) = false := nef rfl
                  clear hx hx2 hxx ht
                  have HB := hid hB
                  have HT := hid hT
                  have HC := hid hC
                  have HU := hid hU
                  clear hB hT hC hU
                  go_wp2_with fail
                  obtain ⟨hB', hK'⟩ := home_drew HB.out
                  replace HT := hid (HT.out.keep (hK' 1))
                  replace HC := hid (HC.out.keep (hK' 2))
                  replace HU := hid (HU.out.keep (hK' 3))
                  replace HB := hid hB'
                  clear hB' hK'
                  have p0 := Cells.getAt HU.out.cells HX.out
                  have tok1 : True := trivial
                  go_region_held3 (fun w' => w'.cell? ⟨g, off + k, none⟩ = some (.int .u64 x)) (first | assumption | exact p0) (first
                    | (go_at_call 17; have _t := tok1; clear tok1 _t; have hct := step_turn HB.out (by decide) (after_as (t_Next HC.out 0 (by decide)) (r' := .int .u64 x) (by rw [ln_one, HXX.out]) (fun _ _ q => q)); with_reducible refine hct.mono ?_; clear hct; rintro e x2 ⟨own2, rfl, hB', hL', hK'⟩; replace HT := hid (HT.out.keep (hK' 1 (by decide))); replace HU := hid (HU.out.keep (hK' 3 (by decide))); replace HC := hid hL'; replace HB := hid hB'; clear hB' hL' hK'; replace p0 := Cells.getAt HU.out.cells HX.out))
                  go_wp2_with fail
                  go_roundg (gk - 1)
                  case measure => omega
                  case rel => exact ⟨k + 1, by omega, by go_num, own2, t, HB.out, HT.out, by have := HC.out; rw [nx_one, List.tail_drop] at this; exact this, HTT.out, HU.out⟩
                · have e : k = i := by omega
                  subst e
                  have HB := hid hB
                  have HT := hid hT
                  have HC := hid hC
                  have HU := hid hU
                  clear hB hT hC hU
                  go_wp2_with fail
                  go_wp2_with fail
                  have hct := (tape_Left HC.out 0 (by decide))
                  with_reducible refine hct.mono ?_
                  clear hct
                  rintro e w' ⟨rfl, rfl⟩
                  go_wp2_with fail
                  have hct := (tape_Left HT.out 0 (by decide))
                  with_reducible refine hct.mono ?_
                  clear hct
                  rintro e w' ⟨rfl, rfl⟩
                  go_wp2
                  go_ret
                  exact ⟨by simp, HB.out.below⟩
end Go.Proofs.Ythbffkdfahlpdaa
