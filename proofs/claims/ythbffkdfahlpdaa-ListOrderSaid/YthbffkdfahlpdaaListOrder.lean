/- The walk of ListOrder: what came in is read alone; true. -/
import Derived.Test.YthbffkdfahlpdaaListActs
namespace Go.Proofs.Ythbffkdfahlpdaa
open Go.RowKit Go.MapKept

/-- What is known at the head of the second loop. -/
def OrderInv (w wr : World) (b plx mb : Nat) (ws : List ByteArray) (key : ByteArray) (a4 a6 a8 : Option Addr) (c4 c6 c8 k : Nat) : Prop :=
  ∃ (own : Nat → Nat) (l : List (ByteArray × Bool)), Base w wr own ∧ ListAt wr b (fun k => own k = 1) ws plx ∧
    Row wr (fun k => own k = 2) 9 1 (.slice a4 ws.length c4) ws.length (ws.map Value.string) ∧ Row wr (fun k => own k = 3) 9 1 (.slice a6 (ws.length + 1) c6) (ws.length + 1) ((key :: ws).map Value.string) ∧
    Row wr (fun k => own k = 4) 9 1 (.slice a8 (ws.length + 1) c8) (ws.length + 1) ((ws ++ [key]).map Value.string) ∧ OwnMap Value.string Value.bool wr own 5 mb l ∧ ∀ x, x ∉ (ws ++ [key]).take k → lk l x = none

set_option maxHeartbeats 1600000 in
set_option maxRecDepth 100000 in
theorem listOrder_walk (v0 : Value) (xs : List LAct) (key : ByteArray) (w : World) (h : Cells w (fun k => k < w.heap.size) v0 xs.length 2 (xs.flatMap LAct.cells)) (hks : key.size ≤ maxLen) :
    Calls Try.prog 9 #[v0, .string key] w fun e w' => e = .returned (.bool true) ∧ Below w.heap.size w w' := by
  obtain ⟨a, cap, rfl, hc1, hc2, _, hc⟩ := h.shape
  unfold maxLen at hc2 hks
  by_cases h3 : xs.length ≤ 300
  · by_cases h4 : key.size ≤ 1000
    · clear hc2 hks
      go_enter Try.func9, Try.ntmps9
      go_wp2_with fail
      refine (list_awake w).mono ?_
      rintro e w1 ⟨rfl, hm1⟩
      have HB := hid ((Base.start w).made 0 hm1)
      clear hm1
      go_wp2_with fail
      refine (law_New HB.out 1).mono ?_
      rintro e w2 ⟨b, own2, rfl, hB2, hL2, hK2⟩
      clear HB hK2
      have HB := hid hB2; have HL := hid hL2
      clear hB2 hL2
      go_wp2_with fail
      go_loopw [6] (fun i wr => ∃ (k : Nat) (own : Nat → Nat) (keys : List ByteArray) (pl : Nat), k ≤ xs.length ∧ i = .int .i64 k ∧ pl ≤ k ∧ Base w wr own ∧ ListAt wr b (fun k => own k = 1) keys pl) (fun i _ => xs.length - (intOf i).toNat)
      case atStart => exact ⟨0, own2, [], 0, by omega, rfl, by omega, HB.out, HL.out⟩
      case round =>
        clear HB HL
        obtain ⟨k, own, keys, pl, hk, rfl, hpl, hB, hL⟩ := hrel
        by_cases hlt : k < xs.length
        · obtain ⟨g, off, rfl, _, _, hcell⟩ := hc (by omega)
          obtain ⟨⟨⟨kd, ky⟩, hw, hz⟩, hx⟩ : ∃ x, x = xs[k] := ⟨_, rfl⟩
          have p0 := hB.cell (hcell (k * 2 + 0) (.int .i64 kd) (by rw [get_flat (size := 2) (fun _ => rfl) xs k 0 hlt (by omega), ← hx]; rfl))
          have p1 := hB.cell (hcell (k * 2 + 1) (.string ky) (by rw [get_flat (size := 2) (fun _ => rfl) xs k 1 hlt (by omega), ← hx]; rfl))
          obtain ⟨r1, r2⟩ := wf_range hw
          simp only [Nat.add_zero, ← Nat.add_assoc] at p0 p1
          have HB := hid hB; have HL := hid hL
          have hpb : pl ≤ 1000000000 := by omega
          clear hcell hc hB hL hx hw hz
          go_wp2_with fail
          · refine (law_Front HB.out (by omega) HL.out hpb ky).mono ?_
            rintro e w3 ⟨rfl, own3, hB3, hL3, _⟩
            have := fr_le keys ky
            have hle := HL.out.le
            have HB3 := hid hB3; have HL3 := hid hL3
            clear hB3 hL3
            go_wp2
            go_roundw
            case rel => exact ⟨k + 1, own3, _, _, by omega, by go_num, by omega, HB3.out, HL3.out⟩
            case measure => simp [intOf]; omega
          · refine (law_Back HB.out (by omega) HL.out hpb ky).mono ?_
            rintro e w3 ⟨rfl, own3, hB3, hL3, _⟩
            have := bk_le keys ky
            have hle := HL.out.le
            have HB3 := hid hB3; have HL3 := hid hL3
            clear hB3 hL3
            go_wp2
            go_roundw
            case rel => exact ⟨k + 1, own3, _, _, by omega, by go_num, by omega, HB3.out, HL3.out⟩
            case measure => simp [intOf]; omega
        · clear hc h
          have hpb : pl ≤ 300 := by omega
          have hun := hid hL.uniq
          have hlen : keys.length ≤ 300 := by have := hL.le; omega
          have HB := hid hB; have HL := hid hL
          clear hB hL
          have hwl : (fr keys key).length = (rm keys key).length + 1 := by simp [fr]
          have hrf : rm (fr keys key) key = rm keys key := by
            have h1 : rm (key :: rm keys key) key = rm [key] key ++ rm (rm keys key) key := rm_append [key] _ _
            rw [fr, h1, rm_same, List.nil_append]
            exact List.filter_eq_self.2 fun x hx => by simpa using (mem_rm.1 hx).2
          have hbf : bk (fr keys key) key = rm keys key ++ [key] := by rw [bk, hrf]
          have hrb : rm (rm keys key ++ [key]) key = rm keys key := by
            rw [rm_append, rm_same, List.append_nil]
            exact List.filter_eq_self.2 fun x hx => by simpa using (mem_rm.1 hx).2
          have hrl := rm_le keys key
          have hund : (rm keys key ++ [key]).Nodup := List.nodup_append.2 ⟨hun.out.filter _, by simp, fun a ha b hb => by simp at hb; subst hb; exact (mem_rm.1 ha).2⟩
          have HWL := hid hwl; have HBF := hid hbf; have HRB := hid hrb; have HU := hid hund
          clear hwl hrf hbf hrb hund hun
          go_wp2_with fail
          with_reducible refine (law_Keys HB.out HL.out (by omega) 2).mono ?_
          rintro e x1 ⟨v3, own1', rfl, hB', hL', hK'⟩
          replace HL := hid (HL.out.keep (hK' 1))
          have HR := hid hL'
          replace HB := hid hB'
          clear hB' hL' hK'
          go_wp2_with fail
          with_reducible refine (law_row (ref03_Remove v3 keys key _ _ HR.out.strs (by omega)) HB.out 2).mono ?_
          rintro e x2 ⟨v4, own2', rfl, hB', hL', hK'⟩
          replace HL := hid (HL.out.keep (hK' 1))
          have HW := hid hL'
          replace HB := hid hB'
          clear hB' hL' hK'
          go_wp2_with fail
          with_reducible refine (law_Front HB.out (by omega) HL.out (by omega) key).mono ?_
          rintro e x3 ⟨rfl, own3', hB', hL', hK'⟩
          replace HW := hid (HW.out.keep (hK' 2 (by decide)))
          replace HL := hid hL'
          replace HB := hid hB'
          clear hB' hL' hK'
          have hpl5 : max pl (fr keys key).length ≤ 301 := by have := fr_le keys key; omega
          go_wp2_with fail
          with_reducible refine (law_Keys HB.out HL.out (by omega) 3).mono ?_
          rintro e x4 ⟨v6, own4', rfl, hB', hL', hK'⟩
          replace HL := hid (HL.out.keep (hK' 1))
          replace HW := hid (HW.out.keep (hK' 2))
          have HA := hid hL'
          replace HB := hid hB'
          clear hB' hL' hK'
          go_wp2_with fail
          with_reducible refine (law_Back HB.out (by omega) HL.out (by omega) key).mono ?_
          rintro e x5 ⟨rfl, own5', hB', hL', hK'⟩
          replace HW := hid (HW.out.keep (hK' 2 (by decide)))
          replace HA := hid (HA.out.keep (hK' 3 (by decide)))
          replace HL := hid hL'
          replace HB := hid hB'
          clear hB' hL' hK'
          have hpl7 : max (max pl (fr keys key).length) (bk (fr keys key) key).length ≤ 302 := by have := bk_le (fr keys key) key; have := fr_le keys key; omega
          go_wp2_with fail
          with_reducible refine (law_Keys HB.out HL.out (by omega) 4).mono ?_
          rintro e x6 ⟨v8, own6', rfl, hB', hL', hK'⟩
          replace HL := hid (HL.out.keep (hK' 1))
          replace HW := hid (HW.out.keep (hK' 2))
          replace HA := hid (HA.out.keep (hK' 3))
          have HC := hid hL'
          replace HB := hid hB'
          clear hB' hL' hK'
          go_wp2_with fail
          with_reducible refine (law_Remove HB.out (by omega) HL.out (by omega) key).mono ?_
          rintro e x7 ⟨rfl, own7', hB', hL', hK'⟩
          replace HW := hid (HW.out.keep (hK' 2 (by decide)))
          replace HA := hid (HA.out.keep (hK' 3 (by decide)))
          replace HC := hid (HC.out.keep (hK' 4 (by decide)))
          replace HL := hid hL'
          replace HB := hid hB'
          clear hB' hL' hK'
          have hmm := @run_makeMap Try.prog
          go_wp2_with fail
          obtain ⟨own8', hB', hL', hK'⟩ := law_map Value.string Value.bool HB.out 5
          replace HL := hid (HL.out.keep (hK' 1))
          replace HW := hid (HW.out.keep (hK' 2))
          replace HA := hid (HA.out.keep (hK' 3))
          replace HC := hid (HC.out.keep (hK' 4))
          have HM := hid hL'
          replace HB := hid hB'
          clear hB' hL' hK'
          clear hmm
          obtain ⟨ws, hws⟩ : ∃ ws, ws = rm keys key := ⟨_, rfl⟩
          have e1 : fr keys key = key :: ws := by rw [hws]; rfl
          have e2 : bk (fr keys key) key = ws ++ [key] := by rw [HBF.out, hws]
          have e3 : rm (bk (fr keys key) key) key = ws := by rw [HBF.out, HRB.out, hws]
          have t0 := HL.out
          have t1 := HW.out
          have t2 := HA.out
          have t3 := HC.out
          have hnd := HU.out
          rw [e3] at t0
          rw [← hws] at t1 hrl hnd
          rw [e1, show (key :: ws).length = ws.length + 1 from rfl] at t2
          rw [e2, show (ws ++ [key]).length = ws.length + 1 from by simp] at t3
          replace HL := hid t0
          replace HW := hid t1
          replace HA := hid t2
          replace HC := hid t3
          replace HU := hid hnd
          generalize (max (max pl (fr keys key).length) (bk (fr keys key) key).length) = plx at *
          clear t0 t1 t2 t3 e1 e2 e3 hws HWL HBF HRB hnd
          obtain ⟨a4, c4, rfl, hc41, hc42⟩ := HW.out.len
          obtain ⟨a6, c6, rfl, hc61, hc62⟩ := HA.out.len
          obtain ⟨a8, c8, rfl, hc81, hc82⟩ := HC.out.len
          have hc42' := hc42
          have hc62' := hc62
          have hc82' := hc82
          unfold maxLen at hc42 hc62 hc82
          have hzb := fun w => (by kernel_rfl : (zeroValue 4).run Try.prog w = .ok (.bool false) w)
          go_loopw [11] (fun i wr => ∃ k : Nat, k ≤ ws.length + 1 ∧ i = .int .i64 k ∧ OrderInv w wr b plx x7.heap.size ws key a4 a6 a8 c4 c6 c8 k) (fun i _ => ws.length + 1 - (intOf i).toNat)
          case atStart => exact ⟨0, by omega, rfl, own8', [], HB.out, HL.out, HW.out, HA.out, HC.out, HM.out, fun _ _ => rfl⟩
          case round =>
            clear HB HL HW HA HC HM
            obtain ⟨k2, hk2, rfl, own2, l, hB, hL, hW, hA, hC, hM, hno⟩ := hrel
            by_cases hlt2 : k2 < ws.length + 1
            · obtain ⟨g, off, rfl, _, _, hcell⟩ := hC.cells.addr (by omega)
              have hl2 : k2 < (ws ++ [key]).length := by simpa using hlt2
              obtain ⟨x, hx⟩ : ∃ x, x = (ws ++ [key])[k2] := ⟨_, rfl⟩
              have p0 := hcell k2 (.string x) (by rw [List.getElem?_map, List.getElem?_eq_getElem hl2, ← hx]; rfl)
              have hlk : lk l x = none := hno x fun q => by
                rw [hx] at q
                obtain ⟨j, hj, e⟩ := List.mem_take_iff_getElem.1 q
                exact absurd ((List.getElem_inj HU.out).1 e) (by omega)
              have hl := hM.1.get key_str Try.underlying59 (hzb wr) x
              rw [hlk] at hl
              simp only [Option.map_none, Option.getD_none] at hl
              have HB := hid hB; have HL := hid hL; have HW := hid hW; have HA := hid hA; have HC := hid hC; have HM := hid hM
              have HN := hid hno; have HX := hid hx
              clear hB hL hW hA hC hM hno hx hcell hlk
              go_wp2_with (at_mapUpdate; refine wpMapStore rfl _ _ _ rfl key_str Try.underlying59 HM.out.1 rfl x true rfl rfl ?_; intro w3 hm3 hg3)
              obtain ⟨own1', hB', hL', hK'⟩ := OwnMap.turn HB.out (by decide) HM.out hm3 hg3
              replace HL := hid (HL.out.keep (hK' 1 (by decide)))
              replace HW := hid (HW.out.keep (hK' 2 (by decide)))
              replace HA := hid (HA.out.keep (hK' 3 (by decide)))
              replace HC := hid (HC.out.keep (hK' 4 (by decide)))
              replace HM := hid hL'
              replace HB := hid hB'
              clear hB' hL' hK' hm3 hg3
              go_wp2
              go_roundw
              case rel => exact ⟨k2 + 1, by omega, by go_num, own1', _, HB.out, HL.out, HW.out, HA.out, HC.out, HM.out, fun y hy => by
                rw [take_mem hl2, not_or] at hy
                rw [lk_put_other _ _ (HX.out ▸ hy.2)]
                exact HN.out y hy.1⟩
              case measure => simp [intOf]; omega
            · clear hno hM
              have HB := hid hB; have HL := hid hL; have HW := hid hW; have HA := hid hA; have HC := hid hC
              obtain ⟨g6, o6, rfl, _, _, hcell6⟩ := hA.cells.addr (by omega)
              obtain ⟨g8, o8, rfl, _, _, hcell8⟩ := hC.cells.addr (by omega)
              have p6 := hcell6 0 (.string key) rfl
              have p8 := hcell8 ws.length (.string key) (by simp)
              have q8 : Strs wr (fun k => own2 k = 4) (.slice (some ⟨g8, o8, none⟩) ws.length c8) ws := by
                have := hC.cells.cutTo (k := ws.length) (by omega)
                simp only [Nat.mul_one, List.map_append] at this
                rw [List.take_append_of_le_length (by simp), List.take_of_length_le (by simp)] at this
                exact this
              have q6 : Strs wr (fun k => own2 k = 3) (if c6 = 1 then .slice (some ⟨g6, o6, none⟩) ws.length (c6 - 1) else .slice (some ⟨g6, o6 + 1, none⟩) ws.length (c6 - 1)) ws := by
                by_cases e : c6 = 1
                · rw [if_pos e]
                  have e2 : ws = [] := List.eq_nil_of_length_eq_zero (by omega)
                  rw [e2]
                  exact Cells.cutNone _ (by omega) _
                · rw [if_neg e]
                  have := hA.cells.cutFrom (k := 1) (by omega)
                  simp only [Nat.mul_one, Nat.add_sub_cancel] at this
                  exact this
              have HQ8 := hid q8
              have i1 : (1 : Int) ≤ (ws.length : Int) + 1 := by omega
              clear hB hL hW hA hC hcell6 hcell8 q8
              simp only [Nat.add_zero] at p6
              have hlw : ws.length ≤ 300 := by omega
              have hfin : ∀ n : Nat, Calls Try.prog 32 #[.pointer (some ⟨b, 0, none⟩)] (wr.drewN n) fun e w' => ∃ v' own', e = .returned v' ∧ Base w w' own' ∧ Row w' (fun k => own' k = 5) 9 1 v' ws.length (ws.map Value.string) ∧ Strs w' (fun k => own' k = 2) (.slice a4 ws.length c4) ws := fun n =>
                (law_Keys (HB.out.drewN n) (HL.out.keep (Keeps.drewN _ _ n 1)) (by omega) 5).mono fun e w' ⟨v', own', h1, h2, h3, h4⟩ =>
                  ⟨v', own', h1, h2, h3, (HW.out.strs.keep (Keeps.drewN _ _ n 2)).keep (h4 2)⟩
              have HF := hid hfin
              clear hfin
              by_cases hc6 : c6 = 1
              · rw [if_pos hc6] at q6
                have e2 : ws = [] := List.eq_nil_of_length_eq_zero (by omega)
                subst hc6 e2
                simp only [List.length_nil, Nat.sub_self, Nat.add_zero] at q6 p8 hlt2 i1 HQ8 HF ⊢
                have HQ6 := hid q6
                have HW2 := hid HW.out.strs
                clear q6
                go_wp2_with fail
                refine (ref03_Same _ _ [] [] _ _ _ HQ6.out HW2.out).mono ?_
                rintro e w' ⟨rfl, n, rfl⟩
                go_wp2_with fail
                refine (ref03_Same _ _ [] [] _ _ _ (HQ8.out.drewN n) (HW2.out.drewN n)).mono ?_
                rintro e w' ⟨rfl, m, rfl⟩
                go_wp2_with fail
                refine (HF.out (n + m)).mono ?_
                rintro e w9 ⟨v9, own9, rfl, hB9, hR9, hW9⟩
                have HB9 := hid hB9; have HR9 := hid (Row.strs (ks := []) hR9); have HW9 := hid hW9
                clear hB9 hR9 hW9
                go_wp2_with fail
                refine (ref03_Same _ _ [] [] _ _ _ HR9.out HW9.out).mono ?_
                rintro e w' ⟨rfl, m, rfl⟩
                go_wp2
                go_ret
                exact ⟨by simp, (HB9.out.drewN m).below⟩
              · rw [if_neg hc6] at q6
                have HQ6 := hid q6
                clear q6
                go_wp2_with fail
                with_reducible refine (ref03_Same _ _ ws ws _ _ _ HQ6.out HW.out.strs).mono ?_
                rintro e w' ⟨rfl, n, rfl⟩
                go_wp2_with fail
                refine (ref03_Same _ _ ws ws _ _ _ (HQ8.out.drewN n) (HW.out.strs.drewN n)).mono ?_
                rintro e w' ⟨rfl, m, rfl⟩
                go_wp2_with fail
                refine (HF.out (n + m)).mono ?_
                rintro e w9 ⟨v9, own9, rfl, hB9, hR9, hW9⟩
                have HB9 := hid hB9; have HR9 := hid hR9.strs; have HW9 := hid hW9
                clear hB9 hR9 hW9
                go_wp2_with fail
                with_reducible refine (ref03_Same _ _ ws ws _ _ _ HR9.out HW9.out).mono ?_
                rintro e w' ⟨rfl, m, rfl⟩
                go_wp2
                go_ret
                exact ⟨by simp, (HB9.out.drewN m).below⟩
    · have hks' : (1000 : Int) < (key.size : Int) := by omega
      go_enter Try.func9, Try.ntmps9
      go_wp2_with fail
      refine (list_awake w).mono ?_
      rintro e w1 ⟨rfl, hm1⟩
      have HB := hid ((Base.start w).made 0 hm1).below
      clear hm1
      go_wp2
      go_ret
      exact ⟨rfl, HB.out⟩
  · go_enter Try.func9, Try.ntmps9
    go_wp2_with fail
    refine (list_awake w).mono ?_
    rintro e w1 ⟨rfl, hm1⟩
    have HB := hid ((Base.start w).made 0 hm1).below
    clear hm1
    go_wp2
    go_ret
    exact ⟨rfl, HB.out⟩
end Go.Proofs.Ythbffkdfahlpdaa
