/- Package srlru: Resize. -/
import Derived.Test.YtjijjfdkghcjkaaSrlPure
import Derived.Test.YtjijjfdkghcjkaaSepK
set_option linter.unusedVariables false
namespace Go.Proofs.Ytjijjfdkghcjkaa
open Go.RowKit Go.MapKept

/-- Evicted till there are no more than M. -/
def srlRszL (M t : Int) : Nat → LB → LB → LB → Mks → LB × LB × LB × Mks × LB
  | 0, ns, cs, gs, ms => (ns, cs, gs, ms, [])
  | k + 1, ns, cs, gs, ms => if srlLen M t ns cs gs ms > M then
      ((srlRszL M t k (srlEvict M t ns cs gs ms).1 (srlEvict M t ns cs gs ms).2.1 (srlEvict M t ns cs gs ms).2.2.1 (srlEvict M t ns cs gs ms).2.2.2.1).1, (srlRszL M t k (srlEvict M t ns cs gs ms).1 (srlEvict M t ns cs gs ms).2.1 (srlEvict M t ns cs gs ms).2.2.1 (srlEvict M t ns cs gs ms).2.2.2.1).2.1, (srlRszL M t k (srlEvict M t ns cs gs ms).1 (srlEvict M t ns cs gs ms).2.1 (srlEvict M t ns cs gs ms).2.2.1 (srlEvict M t ns cs gs ms).2.2.2.1).2.2.1, (srlRszL M t k (srlEvict M t ns cs gs ms).1 (srlEvict M t ns cs gs ms).2.1 (srlEvict M t ns cs gs ms).2.2.1 (srlEvict M t ns cs gs ms).2.2.2.1).2.2.2.1,
        (srlEvict M t ns cs gs ms).2.2.2.2.1 :: (srlRszL M t k (srlEvict M t ns cs gs ms).1 (srlEvict M t ns cs gs ms).2.1 (srlEvict M t ns cs gs ms).2.2.1 (srlEvict M t ns cs gs ms).2.2.2.1).2.2.2.2)
    else (ns, cs, gs, ms, [])
theorem srlRszL_stop {M t : Int} {ns cs gs : LB} {ms : Mks} (h : ¬ srlLen M t ns cs gs ms > M) (k : Nat) : srlRszL M t k ns cs gs ms = (ns, cs, gs, ms, []) := by
  cases k with
  | zero => rfl
  | succ k => rw [srlRszL, if_neg h]
theorem srlLen_i (M t : Int) (ns cs gs : LB) (ms : Mks) : srlLen M t ns cs gs ms = (ns.length : Int) + cs.length := by unfold srlLen; omega
theorem srlEvict_len (M t : Int) {ns cs : LB} (gs : LB) (ms : Mks) (h : 0 < ns.length + cs.length) : (srlEvict M t ns cs gs ms).1.length + (srlEvict M t ns cs gs ms).2.1.length + 1 = ns.length + cs.length := by
  rw [srlEvict_eq (by rw [List.length_append]; omega)]
  unfold srlN srlC
  dsimp only
  split
  · rw [List.length_dropLast]; omega
  · rw [List.length_dropLast]; omega
structure SrlZ (M t : Int) (ns cs gs : LB) (ms : Mks) (ns2 cs2 gs2 : LB) (ms2 : Mks) (rw : LB) : Prop where
  e : srlRszL M t (ns.length + cs.length) ns cs gs ms = ((srlRszL M t (ns2.length + cs2.length) ns2 cs2 gs2 ms2).1, (srlRszL M t (ns2.length + cs2.length) ns2 cs2 gs2 ms2).2.1, (srlRszL M t (ns2.length + cs2.length) ns2 cs2 gs2 ms2).2.2.1, (srlRszL M t (ns2.length + cs2.length) ns2 cs2 gs2 ms2).2.2.2.1, rw ++ (srlRszL M t (ns2.length + cs2.length) ns2 cs2 gs2 ms2).2.2.2.2)
  tot : rw.length + ns2.length + cs2.length = ns.length + cs.length
theorem SrlZ.new {M t : Int} {ns cs gs : LB} {ms : Mks} : SrlZ M t ns cs gs ms ns cs gs ms [] := ⟨rfl, by simp⟩
theorem SrlZ.step {M t : Int} {ns cs gs : LB} {ms : Mks} {ns2 cs2 gs2 : LB} {ms2 : Mks} {rw : LB} (h : SrlZ M t ns cs gs ms ns2 cs2 gs2 ms2 rw) (hM : 0 ≤ M) (hc : srlLen M t ns2 cs2 gs2 ms2 > M) :
    SrlZ M t ns cs gs ms (srlEvict M t ns2 cs2 gs2 ms2).1 (srlEvict M t ns2 cs2 gs2 ms2).2.1 (srlEvict M t ns2 cs2 gs2 ms2).2.2.1 (srlEvict M t ns2 cs2 gs2 ms2).2.2.2.1 (rw ++ [(srlEvict M t ns2 cs2 gs2 ms2).2.2.2.2.1]) := by
  obtain ⟨h1, h2⟩ := h
  have hl := srlLen_i M t ns2 cs2 gs2 ms2
  have h4 := srlEvict_len M t gs2 ms2 (show 0 < ns2.length + cs2.length by omega)
  refine ⟨?_, by simp only [List.length_append, List.length_singleton]; omega⟩
  rw [h1, ← h4, srlRszL, if_pos hc]
  simp
def srlResize (most target : Int) (ns cs gs : LB) (ms : Mks) (mo : Int) : Int × Int × LB × LB × LB × Mks × LB :=
  let M := if (0 : Int) > mo then 0 else mo
  let t := if M < target then M else target
  let z := srlRszL M t (ns.length + cs.length) ns cs gs ms
  (M, t, z.1, z.2.1, (srlTrim M t z.1 z.2.1 z.2.2.1 z.2.2.2.1).1, (srlTrim M t z.1 z.2.1 z.2.2.1 z.2.2.2.1).2, z.2.2.2.2)

set_option maxHeartbeats 4000000 in
set_option maxRecDepth 100000 in
theorem srl_Resize {b : Nat} {nb : Nat} {ab : Nat} {gb : Nat} {mb : Nat} {n : Nat} {most : Int} {target : Int} {ns : List ByteArray} {cs : List ByteArray} {gs : List ByteArray} {ms : List (ByteArray × (Bool × Bool))} (mo : Int) {n' : Nat} (hb : n + ns.length + cs.length + 5 ≤ 1000000000) (hn : n + ns.length + cs.length ≤ n') : Tri Try.prog 54 #[pV b 0, iV mo] (srlL b nb ab gb mb most target ns cs gs ms n) (PostE (fun _ => True) id fun v => srlL b nb ab gb mb ((srlResize most target ns cs gs ms mo).1) ((srlResize most target ns cs gs ms mo).2.1) ((srlResize most target ns cs gs ms mo).2.2.1) ((srlResize most target ns cs gs ms mo).2.2.2.1) ((srlResize most target ns cs gs ms mo).2.2.2.2.1) ((srlResize most target ns cs gs ms mo).2.2.2.2.2.1) n' ++ [rowR 9 1 v ((srlResize most target ns cs gs ms mo).2.2.2.2.2.2).length (((srlResize most target ns cs gs ms mo).2.2.2.2.2.2).map Value.string)]) := by
  refine Tri.enter (args := [pV b 0, iV mo]) Try.func54 rfl rfl rfl (fun B wz => ?_)
  refine Cd.fact (i := 1) rfl llR.le ?_; rintro ⟨_, hl1⟩
  refine Cd.fact (i := 2) rfl llR.le ?_; rintro ⟨_, hl2⟩
  refine Cd.fact (i := 3) rfl llR.le ?_; rintro ⟨_, hl3⟩
  refine Cd.seq ?_
  refine Cd.region rfl ?_
  refine Sq.vals [0] (rest := []) [.slice none 0 0] (fun w => by kernel_rfl) ?_
  refine Sq.done ?_
  refine Ex'.next ?_
  refine Cd.seq ?_
  refine Cd.region rfl ?_
  refine Sq.vals [0, 1] (rest := [2, 3, 4, 5]) [pV b 0, iV mo] (fun w => by kernel_rfl) ?_
  by_cases h1 : (0 : Int) > mo
  ·
    refine Sq.v (r := iV (if (0 : Int) > mo then 0 else mo)) (pureV (by kernel_rfl) rfl fun w => by kernel_rfl) rfl (by kernel_rfl) ?_
    refine Sq.re 10 rfl (by rw [if_pos h1]) ?_
    refine Sq.vals [3, 4] (rest := [5]) [pV b 0, pV b 0] (fun w => by kernel_rfl) ?_
    refine Sq.same [0] (l := [srlB b nb ab gb mb most target]) (o_store (i := 0) (v := iV 0) (by kernel_rfl) (by kernel_rfl) (by kernel_rfl) (by kernel_rfl) (by kernel_rfl)) (by kernel_rfl) rfl (by kernel_rfl) rfl ?_
    refine Sq.done ?_
    refine Ex'.next ?_
    refine Cd.seq ?_
    by_cases h2 : (0 : Int) < target
    ·
      refine Cd.plan [0, 0, 2, 6, 14, 0, 32, 96, 224, 510, 1023, 2047, 4095] [(4, [(0, false, 0)]), (8, [(0, false, 0)]), (12, [(0, true, 0)])] [] [] [(0, 12, fun g => srlB b nb ab gb mb 0 0)] [fun g => pV b 0, fun g => pV b 0, fun g => pV b 0, fun g => pV b 1, fun g => iV target, fun g => pV b 0, fun g => pV b 0, fun g => pV b 0, fun g => iV 0, fun g => iV 0, fun g => pV b 0, fun g => pV b 1, fun g => undef] (by kernel_rfl) (by kernel_rfl) rfl (trivial) ?_ ?_
      · exact ⟨ob_val fun g w => by kernel_rfl, ob_val fun g w => by kernel_rfl, ob_val fun g w => by kernel_rfl, ob_val fun g w => by kernel_rfl, ob_s (l := fun g => [srlB b nb ab gb mb 0 target]) (l' := fun g => [srlB b nb ab gb mb 0 target]) (v := fun g => iV target) (fun g => o_load (i := 1) (v := iV target) (by kernel_rfl) (by kernel_rfl) (by kernel_rfl)) (fun g => by kernel_rfl), ob_val fun g w => by kernel_rfl, ob_val fun g w => by kernel_rfl, ob_val fun g w => by kernel_rfl, ob_s (l := fun g => [srlB b nb ab gb mb 0 target]) (l' := fun g => [srlB b nb ab gb mb 0 target]) (v := fun g => iV 0) (fun g => o_load (i := 0) (v := iV 0) (by kernel_rfl) (by kernel_rfl) (by kernel_rfl)) (fun g => by kernel_rfl), ob_v (v := fun g => iV 0) (fun g => OprV.re (pureV (v := iV (if (0 : Int) < target then 0 else target)) (by kernel_rfl) rfl fun w => by kernel_rfl) (by rw [if_pos h2])) (fun g => by kernel_rfl), ob_val fun g w => by kernel_rfl, ob_val fun g w => by kernel_rfl, ob_s (l := fun g => [srlB b nb ab gb mb 0 target]) (l' := fun g => [srlB b nb ab gb mb 0 0]) (v := fun g => undef) (fun g => o_store (i := 1) (v := iV 0) (by kernel_rfl) (by kernel_rfl) (by kernel_rfl) (by kernel_rfl) (by kernel_rfl)) (fun g => by kernel_rfl), trivial⟩
      intro g
      refine Ex'.sub (subB_spec [0, 4]) ?_
      refine Ex'.as [0, 1, 2, 3, 4] (σ' := [(0, pV b 0), (4, .slice none 0 0)]) (Γ' := [srlB b nb ab gb mb 0 0, llR nb ns n, llR ab cs n, llR gb gs n, mapR Value.string markV mb ms]) (by kernel_rfl) rfl (by kernel_rfl) (by kernel_rfl) ?_
      refine Ex'.next ?_
      refine Cd.seq ?_
      refine Cd.region rfl ?_
      refine Sq.vals [0] (rest := []) [.slice none 0 0] (fun w => by kernel_rfl) ?_
      refine Sq.done ?_
      refine Ex'.next ?_
      refine Cd.seq ?_
      refine Cd.block ?_
      refine Cd.nilRow 9 1 ?_
      refine Cd.loop (ι := (List ByteArray) × (List ByteArray) × (List ByteArray) × (List (ByteArray × (Bool × Bool))) × Nat × Value × (List ByteArray)) (fun ⟨ns2, cs2, gs2, ms2, m2, rv, rw⟩ => SrlZ 0 0 ns cs gs ms ns2 cs2 gs2 ms2 rw ∧ m2 ≤ n + rw.length) (fun ⟨ns2, cs2, gs2, ms2, m2, rv, rw⟩ => ns2.length + cs2.length) (fun ⟨ns2, cs2, gs2, ms2, m2, rv, rw⟩ => [(0, pV b 0), (4, .slice none 0 0), (5, rv)]) (fun ⟨ns2, cs2, gs2, ms2, m2, rv, rw⟩ => [srlB b nb ab gb mb 0 0, llR nb ns2 m2, llR ab cs2 m2, llR gb gs2 m2, mapR Value.string markV mb ms2, rowR 9 1 rv rw.length (rw.map Value.string)]) (ns, cs, gs, ms, n, .slice none 0 0, ([] : List ByteArray)) (⟨SrlZ.new, Nat.le_refl _⟩) (subB_eq (l := [0, 4, 5]) (by kernel_rfl)) (fun w hw => hw.pickB [0, 1, 2, 3, 4, 5] (by kernel_rfl) (by kernel_rfl) (by kernel_rfl)) ?_
      rintro ⟨ns2, cs2, gs2, ms2, m2, rv, rw⟩ hL3
      try dsimp only at hL3 ⊢
      obtain ⟨hz, hm⟩ := hL3
      have hz1 := hz.tot
      refine Cd.fact (i := 5) (R := rowR 9 1 rv rw.length (rw.map Value.string)) (by kernel_rfl) row_slice ?_; rintro ⟨a4, c5, rfl, hc5, hc5'⟩
      have hc5'' : c5 ≤ 9223372036854775807 := hc5'
      refine Cd.seq ?_
      refine Cd.seq ?_
      refine Cd.plan [0, 1, 0, 4, 12, 28, 63] [(1, [(0, false, 0), (1, false, 0), (2, false, 0), (3, false, 0), (4, false, 0)]), (5, [(0, false, 0)])] [] [] [] [fun g => pV b 0, fun g => iV (srlLen 0 0 ns2 cs2 gs2 ms2), fun g => pV b 0, fun g => pV b 0, fun g => pV b 0, fun g => iV 0, fun g => bV (decide (srlLen 0 0 ns2 cs2 gs2 ms2 > 0))] (by kernel_rfl) (by kernel_rfl) rfl (trivial) ?_ ?_
      · exact ⟨ob_val fun g w => by kernel_rfl, ob_s (l := fun g => [srlB b nb ab gb mb 0 0, llR nb ns2 m2, llR ab cs2 m2, llR gb gs2 m2, mapR Value.string markV mb ms2]) (l' := fun g => [srlB b nb ab gb mb 0 0, llR nb ns2 m2, llR ab cs2 m2, llR gb gs2 m2, mapR Value.string markV mb ms2]) (v := fun g => iV (srlLen 0 0 ns2 cs2 gs2 ms2)) (fun g => o_call (by kernel_rfl) Try.call40 (srl_Len (n := m2) (most := 0) (target := 0) (ns := ns2) (cs := cs2) (gs := gs2) (ms := ms2) (by omega))) (fun g => by kernel_rfl), ob_val fun g w => by kernel_rfl, ob_val fun g w => by kernel_rfl, ob_val fun g w => by kernel_rfl, ob_s (l := fun g => [srlB b nb ab gb mb 0 0]) (l' := fun g => [srlB b nb ab gb mb 0 0]) (v := fun g => iV 0) (fun g => o_load (i := 0) (v := iV 0) (by kernel_rfl) (by kernel_rfl) (by kernel_rfl)) (fun g => by kernel_rfl), ob_val fun g w => by kernel_rfl, trivial⟩
      intro g
      refine Ex'.sub (subB_spec [0, 4, 5, 31]) ?_
      refine Ex'.as [0, 1, 2, 3, 4, 5] (σ' := [(0, pV b 0), (4, .slice none 0 0), (5, .slice a4 rw.length c5), (31, bV (decide (srlLen 0 0 ns2 cs2 gs2 ms2 > 0)))]) (Γ' := [srlB b nb ab gb mb 0 0, llR nb ns2 m2, llR ab cs2 m2, llR gb gs2 m2, mapR Value.string markV mb ms2, rowR 9 1 (.slice a4 rw.length c5) rw.length (rw.map Value.string)]) (by kernel_rfl) rfl (by kernel_rfl) (by kernel_rfl) ?_
      refine Ex'.next ?_
      refine Cd.case (p := srlLen 0 0 ns2 cs2 gs2 ms2 > 0) (by kernel_rfl) (fun h6 => ?_) (fun h6 => ?_)
      ·
        refine Cd.skip ?_
        refine Ex'.next ?_
        refine Cd.block ?_
        refine Cd.seq ?_
        refine Cd.region rfl ?_
        refine Sq.vals [0] (rest := [1, 2, 3, 4, 5, 6]) [pV b 0] (fun w => by kernel_rfl) ?_
        refine Sq.same [0, 1, 2, 3, 4] (l := srlL b nb ab gb mb 0 0 ns2 cs2 gs2 ms2 m2) (o_call (by kernel_rfl) Try.call71 (srl_evict (n := m2) (n' := m2 + 1) (most := 0) (target := 0) (ns := ns2) (cs := cs2) (gs := gs2) (ms := ms2) (by omega) (by omega) (by omega))) (by kernel_rfl) rfl (by kernel_rfl) rfl ?_
        have q7 := srlEvict_cs 0 0 ns2 cs2 gs2 ms2
        refine Sq.vals [2, 3, 4, 5, 6] (rest := []) [.tuple #[sV ((srlEvict 0 0 ns2 cs2 gs2 ms2).2.2.2.2.1), bV ((srlEvict 0 0 ns2 cs2 gs2 ms2).2.2.2.2.2)], sV ((srlEvict 0 0 ns2 cs2 gs2 ms2).2.2.2.2.1), bV ((srlEvict 0 0 ns2 cs2 gs2 ms2).2.2.2.2.2), sV ((srlEvict 0 0 ns2 cs2 gs2 ms2).2.2.2.2.1), bV ((srlEvict 0 0 ns2 cs2 gs2 ms2).2.2.2.2.2)] (fun w => by kernel_rfl) ?_
        refine Sq.done ?_
        refine Ex'.next ?_
        refine Cd.region rfl ?_
        refine Sq.vals [0, 1] (rest := [2, 3, 4]) [.slice a4 rw.length c5, sV ((srlEvict 0 0 ns2 cs2 gs2 ms2).2.2.2.2.1)] (fun w => by kernel_rfl) ?_
        refine Sq.ex [] (l := []) (o_lit (sz := 1) (sV ⟨#[]⟩) [sV ((srlEvict 0 0 ns2 cs2 gs2 ms2).2.2.2.2.1)] Try.underlying22 (by kernel_rfl) (by kernel_rfl) (by kernel_rfl) (by kernel_rfl) (by kernel_rfl)) (by kernel_rfl) rfl (by kernel_rfl) (fun _ => Nat.zero_le _) ?_; intro b8 _
        refine Sq.ex [5, 6] (l := [rowR 9 1 (.slice a4 rw.length c5) rw.length (rw.map Value.string), blkR b8 [sV ((srlEvict 0 0 ns2 cs2 gs2 ms2).2.2.2.2.1)] 9]) (o_push (n' := (rw ++ [(srlEvict 0 0 ns2 cs2 gs2 ms2).2.2.2.2.1]).length) (xs' := (rw ++ [(srlEvict 0 0 ns2 cs2 gs2 ms2).2.2.2.2.1]).map Value.string) (by kernel_rfl) (by kernel_rfl) sl_str (by decide) rfl (by kernel_rfl) (by unfold maxLen; first | omega | (simp only [List.length_nil]; omega)) (by first | omega | (simp only [List.length_nil]; omega)) (by simp) (by simp)) (by kernel_rfl) rfl (by kernel_rfl) (fun _ => Nat.le_of_ble_eq_true (by kernel_rfl)) ?_; rintro v9 _
        refine Sq.fact (i := 5) (R := rowR 9 1 v9 ((rw ++ [(srlEvict 0 0 ns2 cs2 gs2 ms2).2.2.2.2.1]).length) ((rw ++ [(srlEvict 0 0 ns2 cs2 gs2 ms2).2.2.2.2.1]).map Value.string)) (by kernel_rfl) row_slice ?_; rintro ⟨a10, c11, rfl, hc11, hc11'⟩
        have hc11'' : c11 ≤ 9223372036854775807 := hc11'
        have hlen12 : (rw ++ [(srlEvict 0 0 ns2 cs2 gs2 ms2).2.2.2.2.1]).length = rw.length + 1 := by simp
        refine Sq.fact (i := 5) (R := rowR 9 1 (.slice a10 ((rw ++ [(srlEvict 0 0 ns2 cs2 gs2 ms2).2.2.2.2.1]).length) c11) ((rw ++ [(srlEvict 0 0 ns2 cs2 gs2 ms2).2.2.2.2.1]).length) ((rw ++ [(srlEvict 0 0 ns2 cs2 gs2 ms2).2.2.2.2.1]).map Value.string)) (by kernel_rfl) (row_addr (by simp)) ?_; rintro ⟨b13, rfl⟩
        refine Sq.vals [4] (rest := []) [.slice (some ⟨b13, 0, none⟩) ((rw ++ [(srlEvict 0 0 ns2 cs2 gs2 ms2).2.2.2.2.1]).length) c11] (fun w => by kernel_rfl) ?_
        refine Sq.done ?_
        refine Ex'.blockNormal ?_
        refine Ex'.round (g := (ns2, cs2, gs2, ms2, m2, .slice a4 rw.length c5, rw)) ((srlEvict 0 0 ns2 cs2 gs2 ms2).1, (srlEvict 0 0 ns2 cs2 gs2 ms2).2.1, (srlEvict 0 0 ns2 cs2 gs2 ms2).2.2.1, (srlEvict 0 0 ns2 cs2 gs2 ms2).2.2.2.1, m2 + 1, .slice (some ⟨b13, 0, none⟩) ((rw ++ [(srlEvict 0 0 ns2 cs2 gs2 ms2).2.2.2.2.1]).length) c11, rw ++ [(srlEvict 0 0 ns2 cs2 gs2 ms2).2.2.2.2.1]) ?_ ?_ (subB_eq (l := [0, 4, 5]) (by kernel_rfl)) (fun w hw => hw.pickB [0, 1, 2, 3, 4, 5] (by kernel_rfl) (by kernel_rfl) (by kernel_rfl))
        · (try dsimp only); exact ⟨hz.step (by omega) h6, by simp only [List.length_append, List.length_singleton]; omega⟩
        · have h8 := h6; rw [srlLen_i] at h8; have h9 := srlEvict_len 0 0 gs2 ms2 (show 0 < ns2.length + cs2.length by omega); (try dsimp only); omega
      ·
        refine Cd.exit ?_
        refine Ex'.thenExit ?_
        refine Ex'.thenExit ?_
        refine Ex'.blockHit ?_
        refine Ex'.next ?_
        refine Cd.seq ?_
        refine Cd.region rfl ?_
        refine Sq.vals [0] (rest := [1]) [pV b 0] (fun w => by kernel_rfl) ?_
        refine Sq.same [0, 1, 2, 3, 4] (l := srlL b nb ab gb mb 0 0 ns2 cs2 gs2 ms2 m2) (o_call (by kernel_rfl) Try.call80 (srl_trim (n := m2) (most := 0) (target := 0) (ns := ns2) (cs := cs2) (gs := gs2) (ms := ms2) (by omega) (by omega))) (by kernel_rfl) rfl (by kernel_rfl) rfl ?_
        refine Sq.done ?_
        refine Ex'.next ?_
        refine Cd.seq ?_
        refine Cd.region rfl ?_
        refine Sq.vals [0, 1] (rest := []) [.slice a4 rw.length c5, .slice a4 rw.length c5] (fun w => by kernel_rfl) ?_
        refine Sq.done ?_
        refine Ex'.next ?_
        refine Cd.ret ?_
        refine Ex'.ret Try.results54 (RVs.tmp (v := .slice a4 rw.length c5) (by kernel_rfl) (RVs.nil)) (fun w hw => ?_)
        have e : srlResize most target ns cs gs ms mo = (0, 0, ns2, cs2, (srlTrim 0 0 ns2 cs2 gs2 ms2).1, (srlTrim 0 0 ns2 cs2 gs2 ms2).2, rw) := by unfold srlResize; simp only [if_pos h1, if_pos h2]; have hze := hz.e; rw [srlRszL_stop h6] at hze; simp only [hze, List.append_nil]
        rw [e]
        exact ⟨_, ⟨_, trivial, rfl, rfl⟩, (((hw.conv 1 (R := llR nb ns2 m2) (R' := llR nb ns2 n') (by kernel_rfl) (llR.up (by omega))).conv 2 (R := llR ab cs2 m2) (R' := llR ab cs2 n') (by kernel_rfl) (llR.up (by omega))).conv 3 (R := llR gb ((srlTrim 0 0 ns2 cs2 gs2 ms2).1) m2) (R' := llR gb ((srlTrim 0 0 ns2 cs2 gs2 ms2).1) n') (by kernel_rfl) (llR.up (by omega))).pickB [0, 1, 2, 3, 4, 5] (by kernel_rfl) (by kernel_rfl) (by kernel_rfl)⟩
    ·
      refine Cd.plan [0, 0, 2, 6, 14, 0, 32, 96, 224, 510, 1023, 2047, 4095] [(4, [(0, false, 0)]), (8, [(0, false, 0)]), (12, [(0, false, 0)])] [] [] [] [fun g => pV b 0, fun g => pV b 0, fun g => pV b 0, fun g => pV b 1, fun g => iV target, fun g => pV b 0, fun g => pV b 0, fun g => pV b 0, fun g => iV 0, fun g => iV target, fun g => pV b 0, fun g => pV b 1, fun g => undef] (by kernel_rfl) (by kernel_rfl) rfl (trivial) ?_ ?_
      · exact ⟨ob_val fun g w => by kernel_rfl, ob_val fun g w => by kernel_rfl, ob_val fun g w => by kernel_rfl, ob_val fun g w => by kernel_rfl, ob_s (l := fun g => [srlB b nb ab gb mb 0 target]) (l' := fun g => [srlB b nb ab gb mb 0 target]) (v := fun g => iV target) (fun g => o_load (i := 1) (v := iV target) (by kernel_rfl) (by kernel_rfl) (by kernel_rfl)) (fun g => by kernel_rfl), ob_val fun g w => by kernel_rfl, ob_val fun g w => by kernel_rfl, ob_val fun g w => by kernel_rfl, ob_s (l := fun g => [srlB b nb ab gb mb 0 target]) (l' := fun g => [srlB b nb ab gb mb 0 target]) (v := fun g => iV 0) (fun g => o_load (i := 0) (v := iV 0) (by kernel_rfl) (by kernel_rfl) (by kernel_rfl)) (fun g => by kernel_rfl), ob_v (v := fun g => iV target) (fun g => OprV.re (pureV (v := iV (if (0 : Int) < target then 0 else target)) (by kernel_rfl) rfl fun w => by kernel_rfl) (by rw [if_neg h2])) (fun g => by kernel_rfl), ob_val fun g w => by kernel_rfl, ob_val fun g w => by kernel_rfl, ob_s (l := fun g => [srlB b nb ab gb mb 0 target]) (l' := fun g => [srlB b nb ab gb mb 0 target]) (v := fun g => undef) (fun g => o_store (i := 1) (v := iV target) (by kernel_rfl) (by kernel_rfl) (by kernel_rfl) (by kernel_rfl) (by kernel_rfl)) (fun g => by kernel_rfl), trivial⟩
      intro g
      refine Ex'.sub (subB_spec [0, 4]) ?_
      refine Ex'.as [0, 1, 2, 3, 4] (σ' := [(0, pV b 0), (4, .slice none 0 0)]) (Γ' := [srlB b nb ab gb mb 0 target, llR nb ns n, llR ab cs n, llR gb gs n, mapR Value.string markV mb ms]) (by kernel_rfl) rfl (by kernel_rfl) (by kernel_rfl) ?_
      refine Ex'.next ?_
      refine Cd.seq ?_
      refine Cd.region rfl ?_
      refine Sq.vals [0] (rest := []) [.slice none 0 0] (fun w => by kernel_rfl) ?_
      refine Sq.done ?_
      refine Ex'.next ?_
      refine Cd.seq ?_
      refine Cd.block ?_
      refine Cd.nilRow 9 1 ?_
      refine Cd.loop (ι := (List ByteArray) × (List ByteArray) × (List ByteArray) × (List (ByteArray × (Bool × Bool))) × Nat × Value × (List ByteArray)) (fun ⟨ns2, cs2, gs2, ms2, m2, rv, rw⟩ => SrlZ 0 target ns cs gs ms ns2 cs2 gs2 ms2 rw ∧ m2 ≤ n + rw.length) (fun ⟨ns2, cs2, gs2, ms2, m2, rv, rw⟩ => ns2.length + cs2.length) (fun ⟨ns2, cs2, gs2, ms2, m2, rv, rw⟩ => [(0, pV b 0), (4, .slice none 0 0), (5, rv)]) (fun ⟨ns2, cs2, gs2, ms2, m2, rv, rw⟩ => [srlB b nb ab gb mb 0 target, llR nb ns2 m2, llR ab cs2 m2, llR gb gs2 m2, mapR Value.string markV mb ms2, rowR 9 1 rv rw.length (rw.map Value.string)]) (ns, cs, gs, ms, n, .slice none 0 0, ([] : List ByteArray)) (⟨SrlZ.new, Nat.le_refl _⟩) (subB_eq (l := [0, 4, 5]) (by kernel_rfl)) (fun w hw => hw.pickB [0, 1, 2, 3, 4, 5] (by kernel_rfl) (by kernel_rfl) (by kernel_rfl)) ?_
      rintro ⟨ns2, cs2, gs2, ms2, m2, rv, rw⟩ hL14
      try dsimp only at hL14 ⊢
      obtain ⟨hz, hm⟩ := hL14
      have hz1 := hz.tot
      refine Cd.fact (i := 5) (R := rowR 9 1 rv rw.length (rw.map Value.string)) (by kernel_rfl) row_slice ?_; rintro ⟨a15, c16, rfl, hc16, hc16'⟩
      have hc16'' : c16 ≤ 9223372036854775807 := hc16'
      refine Cd.seq ?_
      refine Cd.seq ?_
      refine Cd.plan [0, 1, 0, 4, 12, 28, 63] [(1, [(0, false, 0), (1, false, 0), (2, false, 0), (3, false, 0), (4, false, 0)]), (5, [(0, false, 0)])] [] [] [] [fun g => pV b 0, fun g => iV (srlLen 0 target ns2 cs2 gs2 ms2), fun g => pV b 0, fun g => pV b 0, fun g => pV b 0, fun g => iV 0, fun g => bV (decide (srlLen 0 target ns2 cs2 gs2 ms2 > 0))] (by kernel_rfl) (by kernel_rfl) rfl (trivial) ?_ ?_
      · exact ⟨ob_val fun g w => by kernel_rfl, ob_s (l := fun g => [srlB b nb ab gb mb 0 target, llR nb ns2 m2, llR ab cs2 m2, llR gb gs2 m2, mapR Value.string markV mb ms2]) (l' := fun g => [srlB b nb ab gb mb 0 target, llR nb ns2 m2, llR ab cs2 m2, llR gb gs2 m2, mapR Value.string markV mb ms2]) (v := fun g => iV (srlLen 0 target ns2 cs2 gs2 ms2)) (fun g => o_call (by kernel_rfl) Try.call40 (srl_Len (n := m2) (most := 0) (target := target) (ns := ns2) (cs := cs2) (gs := gs2) (ms := ms2) (by omega))) (fun g => by kernel_rfl), ob_val fun g w => by kernel_rfl, ob_val fun g w => by kernel_rfl, ob_val fun g w => by kernel_rfl, ob_s (l := fun g => [srlB b nb ab gb mb 0 target]) (l' := fun g => [srlB b nb ab gb mb 0 target]) (v := fun g => iV 0) (fun g => o_load (i := 0) (v := iV 0) (by kernel_rfl) (by kernel_rfl) (by kernel_rfl)) (fun g => by kernel_rfl), ob_val fun g w => by kernel_rfl, trivial⟩
      intro g
      refine Ex'.sub (subB_spec [0, 4, 5, 31]) ?_
      refine Ex'.as [0, 1, 2, 3, 4, 5] (σ' := [(0, pV b 0), (4, .slice none 0 0), (5, .slice a15 rw.length c16), (31, bV (decide (srlLen 0 target ns2 cs2 gs2 ms2 > 0)))]) (Γ' := [srlB b nb ab gb mb 0 target, llR nb ns2 m2, llR ab cs2 m2, llR gb gs2 m2, mapR Value.string markV mb ms2, rowR 9 1 (.slice a15 rw.length c16) rw.length (rw.map Value.string)]) (by kernel_rfl) rfl (by kernel_rfl) (by kernel_rfl) ?_
      refine Ex'.next ?_
      refine Cd.case (p := srlLen 0 target ns2 cs2 gs2 ms2 > 0) (by kernel_rfl) (fun h17 => ?_) (fun h17 => ?_)
      ·
        refine Cd.skip ?_
        refine Ex'.next ?_
        refine Cd.block ?_
        refine Cd.seq ?_
        refine Cd.region rfl ?_
        refine Sq.vals [0] (rest := [1, 2, 3, 4, 5, 6]) [pV b 0] (fun w => by kernel_rfl) ?_
        refine Sq.same [0, 1, 2, 3, 4] (l := srlL b nb ab gb mb 0 target ns2 cs2 gs2 ms2 m2) (o_call (by kernel_rfl) Try.call71 (srl_evict (n := m2) (n' := m2 + 1) (most := 0) (target := target) (ns := ns2) (cs := cs2) (gs := gs2) (ms := ms2) (by omega) (by omega) (by omega))) (by kernel_rfl) rfl (by kernel_rfl) rfl ?_
        have q18 := srlEvict_cs 0 target ns2 cs2 gs2 ms2
        refine Sq.vals [2, 3, 4, 5, 6] (rest := []) [.tuple #[sV ((srlEvict 0 target ns2 cs2 gs2 ms2).2.2.2.2.1), bV ((srlEvict 0 target ns2 cs2 gs2 ms2).2.2.2.2.2)], sV ((srlEvict 0 target ns2 cs2 gs2 ms2).2.2.2.2.1), bV ((srlEvict 0 target ns2 cs2 gs2 ms2).2.2.2.2.2), sV ((srlEvict 0 target ns2 cs2 gs2 ms2).2.2.2.2.1), bV ((srlEvict 0 target ns2 cs2 gs2 ms2).2.2.2.2.2)] (fun w => by kernel_rfl) ?_
        refine Sq.done ?_
        refine Ex'.next ?_
        refine Cd.region rfl ?_
        refine Sq.vals [0, 1] (rest := [2, 3, 4]) [.slice a15 rw.length c16, sV ((srlEvict 0 target ns2 cs2 gs2 ms2).2.2.2.2.1)] (fun w => by kernel_rfl) ?_
        refine Sq.ex [] (l := []) (o_lit (sz := 1) (sV ⟨#[]⟩) [sV ((srlEvict 0 target ns2 cs2 gs2 ms2).2.2.2.2.1)] Try.underlying22 (by kernel_rfl) (by kernel_rfl) (by kernel_rfl) (by kernel_rfl) (by kernel_rfl)) (by kernel_rfl) rfl (by kernel_rfl) (fun _ => Nat.zero_le _) ?_; intro b19 _
        refine Sq.ex [5, 6] (l := [rowR 9 1 (.slice a15 rw.length c16) rw.length (rw.map Value.string), blkR b19 [sV ((srlEvict 0 target ns2 cs2 gs2 ms2).2.2.2.2.1)] 9]) (o_push (n' := (rw ++ [(srlEvict 0 target ns2 cs2 gs2 ms2).2.2.2.2.1]).length) (xs' := (rw ++ [(srlEvict 0 target ns2 cs2 gs2 ms2).2.2.2.2.1]).map Value.string) (by kernel_rfl) (by kernel_rfl) sl_str (by decide) rfl (by kernel_rfl) (by unfold maxLen; first | omega | (simp only [List.length_nil]; omega)) (by first | omega | (simp only [List.length_nil]; omega)) (by simp) (by simp)) (by kernel_rfl) rfl (by kernel_rfl) (fun _ => Nat.le_of_ble_eq_true (by kernel_rfl)) ?_; rintro v20 _
        refine Sq.fact (i := 5) (R := rowR 9 1 v20 ((rw ++ [(srlEvict 0 target ns2 cs2 gs2 ms2).2.2.2.2.1]).length) ((rw ++ [(srlEvict 0 target ns2 cs2 gs2 ms2).2.2.2.2.1]).map Value.string)) (by kernel_rfl) row_slice ?_; rintro ⟨a21, c22, rfl, hc22, hc22'⟩
        have hc22'' : c22 ≤ 9223372036854775807 := hc22'
        have hlen23 : (rw ++ [(srlEvict 0 target ns2 cs2 gs2 ms2).2.2.2.2.1]).length = rw.length + 1 := by simp
        refine Sq.fact (i := 5) (R := rowR 9 1 (.slice a21 ((rw ++ [(srlEvict 0 target ns2 cs2 gs2 ms2).2.2.2.2.1]).length) c22) ((rw ++ [(srlEvict 0 target ns2 cs2 gs2 ms2).2.2.2.2.1]).length) ((rw ++ [(srlEvict 0 target ns2 cs2 gs2 ms2).2.2.2.2.1]).map Value.string)) (by kernel_rfl) (row_addr (by simp)) ?_; rintro ⟨b24, rfl⟩
        refine Sq.vals [4] (rest := []) [.slice (some ⟨b24, 0, none⟩) ((rw ++ [(srlEvict 0 target ns2 cs2 gs2 ms2).2.2.2.2.1]).length) c22] (fun w => by kernel_rfl) ?_
        refine Sq.done ?_
        refine Ex'.blockNormal ?_
        refine Ex'.round (g := (ns2, cs2, gs2, ms2, m2, .slice a15 rw.length c16, rw)) ((srlEvict 0 target ns2 cs2 gs2 ms2).1, (srlEvict 0 target ns2 cs2 gs2 ms2).2.1, (srlEvict 0 target ns2 cs2 gs2 ms2).2.2.1, (srlEvict 0 target ns2 cs2 gs2 ms2).2.2.2.1, m2 + 1, .slice (some ⟨b24, 0, none⟩) ((rw ++ [(srlEvict 0 target ns2 cs2 gs2 ms2).2.2.2.2.1]).length) c22, rw ++ [(srlEvict 0 target ns2 cs2 gs2 ms2).2.2.2.2.1]) ?_ ?_ (subB_eq (l := [0, 4, 5]) (by kernel_rfl)) (fun w hw => hw.pickB [0, 1, 2, 3, 4, 5] (by kernel_rfl) (by kernel_rfl) (by kernel_rfl))
        · (try dsimp only); exact ⟨hz.step (by omega) h17, by simp only [List.length_append, List.length_singleton]; omega⟩
        · have h8 := h17; rw [srlLen_i] at h8; have h9 := srlEvict_len 0 target gs2 ms2 (show 0 < ns2.length + cs2.length by omega); (try dsimp only); omega
      ·
        refine Cd.exit ?_
        refine Ex'.thenExit ?_
        refine Ex'.thenExit ?_
        refine Ex'.blockHit ?_
        refine Ex'.next ?_
        refine Cd.seq ?_
        refine Cd.region rfl ?_
        refine Sq.vals [0] (rest := [1]) [pV b 0] (fun w => by kernel_rfl) ?_
        refine Sq.same [0, 1, 2, 3, 4] (l := srlL b nb ab gb mb 0 target ns2 cs2 gs2 ms2 m2) (o_call (by kernel_rfl) Try.call80 (srl_trim (n := m2) (most := 0) (target := target) (ns := ns2) (cs := cs2) (gs := gs2) (ms := ms2) (by omega) (by omega))) (by kernel_rfl) rfl (by kernel_rfl) rfl ?_
        refine Sq.done ?_
        refine Ex'.next ?_
        refine Cd.seq ?_
        refine Cd.region rfl ?_
        refine Sq.vals [0, 1] (rest := []) [.slice a15 rw.length c16, .slice a15 rw.length c16] (fun w => by kernel_rfl) ?_
        refine Sq.done ?_
        refine Ex'.next ?_
        refine Cd.ret ?_
        refine Ex'.ret Try.results54 (RVs.tmp (v := .slice a15 rw.length c16) (by kernel_rfl) (RVs.nil)) (fun w hw => ?_)
        have e : srlResize most target ns cs gs ms mo = (0, target, ns2, cs2, (srlTrim 0 target ns2 cs2 gs2 ms2).1, (srlTrim 0 target ns2 cs2 gs2 ms2).2, rw) := by unfold srlResize; simp only [if_pos h1, if_neg h2]; have hze := hz.e; rw [srlRszL_stop h17] at hze; simp only [hze, List.append_nil]
        rw [e]
        exact ⟨_, ⟨_, trivial, rfl, rfl⟩, (((hw.conv 1 (R := llR nb ns2 m2) (R' := llR nb ns2 n') (by kernel_rfl) (llR.up (by omega))).conv 2 (R := llR ab cs2 m2) (R' := llR ab cs2 n') (by kernel_rfl) (llR.up (by omega))).conv 3 (R := llR gb ((srlTrim 0 target ns2 cs2 gs2 ms2).1) m2) (R' := llR gb ((srlTrim 0 target ns2 cs2 gs2 ms2).1) n') (by kernel_rfl) (llR.up (by omega))).pickB [0, 1, 2, 3, 4, 5] (by kernel_rfl) (by kernel_rfl) (by kernel_rfl)⟩
  ·
    refine Sq.v (r := iV (if (0 : Int) > mo then 0 else mo)) (pureV (by kernel_rfl) rfl fun w => by kernel_rfl) rfl (by kernel_rfl) ?_
    refine Sq.re 10 rfl (by rw [if_neg h1]) ?_
    refine Sq.vals [3, 4] (rest := [5]) [pV b 0, pV b 0] (fun w => by kernel_rfl) ?_
    refine Sq.same [0] (l := [srlB b nb ab gb mb most target]) (o_store (i := 0) (v := iV mo) (by kernel_rfl) (by kernel_rfl) (by kernel_rfl) (by kernel_rfl) (by kernel_rfl)) (by kernel_rfl) rfl (by kernel_rfl) rfl ?_
    refine Sq.done ?_
    refine Ex'.next ?_
    refine Cd.seq ?_
    by_cases h25 : mo < target
    ·
      refine Cd.plan [0, 0, 2, 6, 14, 0, 32, 96, 224, 510, 1023, 2047, 4095] [(4, [(0, false, 0)]), (8, [(0, false, 0)]), (12, [(0, true, 0)])] [] [] [(0, 12, fun g => srlB b nb ab gb mb mo mo)] [fun g => pV b 0, fun g => pV b 0, fun g => pV b 0, fun g => pV b 1, fun g => iV target, fun g => pV b 0, fun g => pV b 0, fun g => pV b 0, fun g => iV mo, fun g => iV mo, fun g => pV b 0, fun g => pV b 1, fun g => undef] (by kernel_rfl) (by kernel_rfl) rfl (trivial) ?_ ?_
      · exact ⟨ob_val fun g w => by kernel_rfl, ob_val fun g w => by kernel_rfl, ob_val fun g w => by kernel_rfl, ob_val fun g w => by kernel_rfl, ob_s (l := fun g => [srlB b nb ab gb mb mo target]) (l' := fun g => [srlB b nb ab gb mb mo target]) (v := fun g => iV target) (fun g => o_load (i := 1) (v := iV target) (by kernel_rfl) (by kernel_rfl) (by kernel_rfl)) (fun g => by kernel_rfl), ob_val fun g w => by kernel_rfl, ob_val fun g w => by kernel_rfl, ob_val fun g w => by kernel_rfl, ob_s (l := fun g => [srlB b nb ab gb mb mo target]) (l' := fun g => [srlB b nb ab gb mb mo target]) (v := fun g => iV mo) (fun g => o_load (i := 0) (v := iV mo) (by kernel_rfl) (by kernel_rfl) (by kernel_rfl)) (fun g => by kernel_rfl), ob_v (v := fun g => iV mo) (fun g => OprV.re (pureV (v := iV (if mo < target then mo else target)) (by kernel_rfl) rfl fun w => by kernel_rfl) (by rw [if_pos h25])) (fun g => by kernel_rfl), ob_val fun g w => by kernel_rfl, ob_val fun g w => by kernel_rfl, ob_s (l := fun g => [srlB b nb ab gb mb mo target]) (l' := fun g => [srlB b nb ab gb mb mo mo]) (v := fun g => undef) (fun g => o_store (i := 1) (v := iV mo) (by kernel_rfl) (by kernel_rfl) (by kernel_rfl) (by kernel_rfl) (by kernel_rfl)) (fun g => by kernel_rfl), trivial⟩
      intro g
      refine Ex'.sub (subB_spec [0, 4]) ?_
      refine Ex'.as [0, 1, 2, 3, 4] (σ' := [(0, pV b 0), (4, .slice none 0 0)]) (Γ' := [srlB b nb ab gb mb mo mo, llR nb ns n, llR ab cs n, llR gb gs n, mapR Value.string markV mb ms]) (by kernel_rfl) rfl (by kernel_rfl) (by kernel_rfl) ?_
      refine Ex'.next ?_
      refine Cd.seq ?_
      refine Cd.region rfl ?_
      refine Sq.vals [0] (rest := []) [.slice none 0 0] (fun w => by kernel_rfl) ?_
      refine Sq.done ?_
      refine Ex'.next ?_
      refine Cd.seq ?_
      refine Cd.block ?_
      refine Cd.nilRow 9 1 ?_
      refine Cd.loop (ι := (List ByteArray) × (List ByteArray) × (List ByteArray) × (List (ByteArray × (Bool × Bool))) × Nat × Value × (List ByteArray)) (fun ⟨ns2, cs2, gs2, ms2, m2, rv, rw⟩ => SrlZ mo mo ns cs gs ms ns2 cs2 gs2 ms2 rw ∧ m2 ≤ n + rw.length) (fun ⟨ns2, cs2, gs2, ms2, m2, rv, rw⟩ => ns2.length + cs2.length) (fun ⟨ns2, cs2, gs2, ms2, m2, rv, rw⟩ => [(0, pV b 0), (4, .slice none 0 0), (5, rv)]) (fun ⟨ns2, cs2, gs2, ms2, m2, rv, rw⟩ => [srlB b nb ab gb mb mo mo, llR nb ns2 m2, llR ab cs2 m2, llR gb gs2 m2, mapR Value.string markV mb ms2, rowR 9 1 rv rw.length (rw.map Value.string)]) (ns, cs, gs, ms, n, .slice none 0 0, ([] : List ByteArray)) (⟨SrlZ.new, Nat.le_refl _⟩) (subB_eq (l := [0, 4, 5]) (by kernel_rfl)) (fun w hw => hw.pickB [0, 1, 2, 3, 4, 5] (by kernel_rfl) (by kernel_rfl) (by kernel_rfl)) ?_
      rintro ⟨ns2, cs2, gs2, ms2, m2, rv, rw⟩ hL26
      try dsimp only at hL26 ⊢
      obtain ⟨hz, hm⟩ := hL26
      have hz1 := hz.tot
      refine Cd.fact (i := 5) (R := rowR 9 1 rv rw.length (rw.map Value.string)) (by kernel_rfl) row_slice ?_; rintro ⟨a27, c28, rfl, hc28, hc28'⟩
      have hc28'' : c28 ≤ 9223372036854775807 := hc28'
      refine Cd.seq ?_
      refine Cd.seq ?_
      refine Cd.plan [0, 1, 0, 4, 12, 28, 63] [(1, [(0, false, 0), (1, false, 0), (2, false, 0), (3, false, 0), (4, false, 0)]), (5, [(0, false, 0)])] [] [] [] [fun g => pV b 0, fun g => iV (srlLen mo mo ns2 cs2 gs2 ms2), fun g => pV b 0, fun g => pV b 0, fun g => pV b 0, fun g => iV mo, fun g => bV (decide (srlLen mo mo ns2 cs2 gs2 ms2 > mo))] (by kernel_rfl) (by kernel_rfl) rfl (trivial) ?_ ?_
      · exact ⟨ob_val fun g w => by kernel_rfl, ob_s (l := fun g => [srlB b nb ab gb mb mo mo, llR nb ns2 m2, llR ab cs2 m2, llR gb gs2 m2, mapR Value.string markV mb ms2]) (l' := fun g => [srlB b nb ab gb mb mo mo, llR nb ns2 m2, llR ab cs2 m2, llR gb gs2 m2, mapR Value.string markV mb ms2]) (v := fun g => iV (srlLen mo mo ns2 cs2 gs2 ms2)) (fun g => o_call (by kernel_rfl) Try.call40 (srl_Len (n := m2) (most := mo) (target := mo) (ns := ns2) (cs := cs2) (gs := gs2) (ms := ms2) (by omega))) (fun g => by kernel_rfl), ob_val fun g w => by kernel_rfl, ob_val fun g w => by kernel_rfl, ob_val fun g w => by kernel_rfl, ob_s (l := fun g => [srlB b nb ab gb mb mo mo]) (l' := fun g => [srlB b nb ab gb mb mo mo]) (v := fun g => iV mo) (fun g => o_load (i := 0) (v := iV mo) (by kernel_rfl) (by kernel_rfl) (by kernel_rfl)) (fun g => by kernel_rfl), ob_val fun g w => by kernel_rfl, trivial⟩
      intro g
      refine Ex'.sub (subB_spec [0, 4, 5, 31]) ?_
      refine Ex'.as [0, 1, 2, 3, 4, 5] (σ' := [(0, pV b 0), (4, .slice none 0 0), (5, .slice a27 rw.length c28), (31, bV (decide (srlLen mo mo ns2 cs2 gs2 ms2 > mo)))]) (Γ' := [srlB b nb ab gb mb mo mo, llR nb ns2 m2, llR ab cs2 m2, llR gb gs2 m2, mapR Value.string markV mb ms2, rowR 9 1 (.slice a27 rw.length c28) rw.length (rw.map Value.string)]) (by kernel_rfl) rfl (by kernel_rfl) (by kernel_rfl) ?_
      refine Ex'.next ?_
      refine Cd.case (p := srlLen mo mo ns2 cs2 gs2 ms2 > mo) (by kernel_rfl) (fun h29 => ?_) (fun h29 => ?_)
      ·
        refine Cd.skip ?_
        refine Ex'.next ?_
        refine Cd.block ?_
        refine Cd.seq ?_
        refine Cd.region rfl ?_
        refine Sq.vals [0] (rest := [1, 2, 3, 4, 5, 6]) [pV b 0] (fun w => by kernel_rfl) ?_
        refine Sq.same [0, 1, 2, 3, 4] (l := srlL b nb ab gb mb mo mo ns2 cs2 gs2 ms2 m2) (o_call (by kernel_rfl) Try.call71 (srl_evict (n := m2) (n' := m2 + 1) (most := mo) (target := mo) (ns := ns2) (cs := cs2) (gs := gs2) (ms := ms2) (by omega) (by omega) (by omega))) (by kernel_rfl) rfl (by kernel_rfl) rfl ?_
        have q30 := srlEvict_cs mo mo ns2 cs2 gs2 ms2
        refine Sq.vals [2, 3, 4, 5, 6] (rest := []) [.tuple #[sV ((srlEvict mo mo ns2 cs2 gs2 ms2).2.2.2.2.1), bV ((srlEvict mo mo ns2 cs2 gs2 ms2).2.2.2.2.2)], sV ((srlEvict mo mo ns2 cs2 gs2 ms2).2.2.2.2.1), bV ((srlEvict mo mo ns2 cs2 gs2 ms2).2.2.2.2.2), sV ((srlEvict mo mo ns2 cs2 gs2 ms2).2.2.2.2.1), bV ((srlEvict mo mo ns2 cs2 gs2 ms2).2.2.2.2.2)] (fun w => by kernel_rfl) ?_
        refine Sq.done ?_
        refine Ex'.next ?_
        refine Cd.region rfl ?_
        refine Sq.vals [0, 1] (rest := [2, 3, 4]) [.slice a27 rw.length c28, sV ((srlEvict mo mo ns2 cs2 gs2 ms2).2.2.2.2.1)] (fun w => by kernel_rfl) ?_
        refine Sq.ex [] (l := []) (o_lit (sz := 1) (sV ⟨#[]⟩) [sV ((srlEvict mo mo ns2 cs2 gs2 ms2).2.2.2.2.1)] Try.underlying22 (by kernel_rfl) (by kernel_rfl) (by kernel_rfl) (by kernel_rfl) (by kernel_rfl)) (by kernel_rfl) rfl (by kernel_rfl) (fun _ => Nat.zero_le _) ?_; intro b31 _
        refine Sq.ex [5, 6] (l := [rowR 9 1 (.slice a27 rw.length c28) rw.length (rw.map Value.string), blkR b31 [sV ((srlEvict mo mo ns2 cs2 gs2 ms2).2.2.2.2.1)] 9]) (o_push (n' := (rw ++ [(srlEvict mo mo ns2 cs2 gs2 ms2).2.2.2.2.1]).length) (xs' := (rw ++ [(srlEvict mo mo ns2 cs2 gs2 ms2).2.2.2.2.1]).map Value.string) (by kernel_rfl) (by kernel_rfl) sl_str (by decide) rfl (by kernel_rfl) (by unfold maxLen; first | omega | (simp only [List.length_nil]; omega)) (by first | omega | (simp only [List.length_nil]; omega)) (by simp) (by simp)) (by kernel_rfl) rfl (by kernel_rfl) (fun _ => Nat.le_of_ble_eq_true (by kernel_rfl)) ?_; rintro v32 _
        refine Sq.fact (i := 5) (R := rowR 9 1 v32 ((rw ++ [(srlEvict mo mo ns2 cs2 gs2 ms2).2.2.2.2.1]).length) ((rw ++ [(srlEvict mo mo ns2 cs2 gs2 ms2).2.2.2.2.1]).map Value.string)) (by kernel_rfl) row_slice ?_; rintro ⟨a33, c34, rfl, hc34, hc34'⟩
        have hc34'' : c34 ≤ 9223372036854775807 := hc34'
        have hlen35 : (rw ++ [(srlEvict mo mo ns2 cs2 gs2 ms2).2.2.2.2.1]).length = rw.length + 1 := by simp
        refine Sq.fact (i := 5) (R := rowR 9 1 (.slice a33 ((rw ++ [(srlEvict mo mo ns2 cs2 gs2 ms2).2.2.2.2.1]).length) c34) ((rw ++ [(srlEvict mo mo ns2 cs2 gs2 ms2).2.2.2.2.1]).length) ((rw ++ [(srlEvict mo mo ns2 cs2 gs2 ms2).2.2.2.2.1]).map Value.string)) (by kernel_rfl) (row_addr (by simp)) ?_; rintro ⟨b36, rfl⟩
        refine Sq.vals [4] (rest := []) [.slice (some ⟨b36, 0, none⟩) ((rw ++ [(srlEvict mo mo ns2 cs2 gs2 ms2).2.2.2.2.1]).length) c34] (fun w => by kernel_rfl) ?_
        refine Sq.done ?_
        refine Ex'.blockNormal ?_
        refine Ex'.round (g := (ns2, cs2, gs2, ms2, m2, .slice a27 rw.length c28, rw)) ((srlEvict mo mo ns2 cs2 gs2 ms2).1, (srlEvict mo mo ns2 cs2 gs2 ms2).2.1, (srlEvict mo mo ns2 cs2 gs2 ms2).2.2.1, (srlEvict mo mo ns2 cs2 gs2 ms2).2.2.2.1, m2 + 1, .slice (some ⟨b36, 0, none⟩) ((rw ++ [(srlEvict mo mo ns2 cs2 gs2 ms2).2.2.2.2.1]).length) c34, rw ++ [(srlEvict mo mo ns2 cs2 gs2 ms2).2.2.2.2.1]) ?_ ?_ (subB_eq (l := [0, 4, 5]) (by kernel_rfl)) (fun w hw => hw.pickB [0, 1, 2, 3, 4, 5] (by kernel_rfl) (by kernel_rfl) (by kernel_rfl))
        · (try dsimp only); exact ⟨hz.step (by omega) h29, by simp only [List.length_append, List.length_singleton]; omega⟩
        · have h8 := h29; rw [srlLen_i] at h8; have h9 := srlEvict_len mo mo gs2 ms2 (show 0 < ns2.length + cs2.length by omega); (try dsimp only); omega
      ·
        refine Cd.exit ?_
        refine Ex'.thenExit ?_
        refine Ex'.thenExit ?_
        refine Ex'.blockHit ?_
        refine Ex'.next ?_
        refine Cd.seq ?_
        refine Cd.region rfl ?_
        refine Sq.vals [0] (rest := [1]) [pV b 0] (fun w => by kernel_rfl) ?_
        refine Sq.same [0, 1, 2, 3, 4] (l := srlL b nb ab gb mb mo mo ns2 cs2 gs2 ms2 m2) (o_call (by kernel_rfl) Try.call80 (srl_trim (n := m2) (most := mo) (target := mo) (ns := ns2) (cs := cs2) (gs := gs2) (ms := ms2) (by omega) (by omega))) (by kernel_rfl) rfl (by kernel_rfl) rfl ?_
        refine Sq.done ?_
        refine Ex'.next ?_
        refine Cd.seq ?_
        refine Cd.region rfl ?_
        refine Sq.vals [0, 1] (rest := []) [.slice a27 rw.length c28, .slice a27 rw.length c28] (fun w => by kernel_rfl) ?_
        refine Sq.done ?_
        refine Ex'.next ?_
        refine Cd.ret ?_
        refine Ex'.ret Try.results54 (RVs.tmp (v := .slice a27 rw.length c28) (by kernel_rfl) (RVs.nil)) (fun w hw => ?_)
        have e : srlResize most target ns cs gs ms mo = (mo, mo, ns2, cs2, (srlTrim mo mo ns2 cs2 gs2 ms2).1, (srlTrim mo mo ns2 cs2 gs2 ms2).2, rw) := by unfold srlResize; simp only [if_neg h1, if_pos h25]; have hze := hz.e; rw [srlRszL_stop h29] at hze; simp only [hze, List.append_nil]
        rw [e]
        exact ⟨_, ⟨_, trivial, rfl, rfl⟩, (((hw.conv 1 (R := llR nb ns2 m2) (R' := llR nb ns2 n') (by kernel_rfl) (llR.up (by omega))).conv 2 (R := llR ab cs2 m2) (R' := llR ab cs2 n') (by kernel_rfl) (llR.up (by omega))).conv 3 (R := llR gb ((srlTrim mo mo ns2 cs2 gs2 ms2).1) m2) (R' := llR gb ((srlTrim mo mo ns2 cs2 gs2 ms2).1) n') (by kernel_rfl) (llR.up (by omega))).pickB [0, 1, 2, 3, 4, 5] (by kernel_rfl) (by kernel_rfl) (by kernel_rfl)⟩
    ·
      refine Cd.plan [0, 0, 2, 6, 14, 0, 32, 96, 224, 510, 1023, 2047, 4095] [(4, [(0, false, 0)]), (8, [(0, false, 0)]), (12, [(0, false, 0)])] [] [] [] [fun g => pV b 0, fun g => pV b 0, fun g => pV b 0, fun g => pV b 1, fun g => iV target, fun g => pV b 0, fun g => pV b 0, fun g => pV b 0, fun g => iV mo, fun g => iV target, fun g => pV b 0, fun g => pV b 1, fun g => undef] (by kernel_rfl) (by kernel_rfl) rfl (trivial) ?_ ?_
      · exact ⟨ob_val fun g w => by kernel_rfl, ob_val fun g w => by kernel_rfl, ob_val fun g w => by kernel_rfl, ob_val fun g w => by kernel_rfl, ob_s (l := fun g => [srlB b nb ab gb mb mo target]) (l' := fun g => [srlB b nb ab gb mb mo target]) (v := fun g => iV target) (fun g => o_load (i := 1) (v := iV target) (by kernel_rfl) (by kernel_rfl) (by kernel_rfl)) (fun g => by kernel_rfl), ob_val fun g w => by kernel_rfl, ob_val fun g w => by kernel_rfl, ob_val fun g w => by kernel_rfl, ob_s (l := fun g => [srlB b nb ab gb mb mo target]) (l' := fun g => [srlB b nb ab gb mb mo target]) (v := fun g => iV mo) (fun g => o_load (i := 0) (v := iV mo) (by kernel_rfl) (by kernel_rfl) (by kernel_rfl)) (fun g => by kernel_rfl), ob_v (v := fun g => iV target) (fun g => OprV.re (pureV (v := iV (if mo < target then mo else target)) (by kernel_rfl) rfl fun w => by kernel_rfl) (by rw [if_neg h25])) (fun g => by kernel_rfl), ob_val fun g w => by kernel_rfl, ob_val fun g w => by kernel_rfl, ob_s (l := fun g => [srlB b nb ab gb mb mo target]) (l' := fun g => [srlB b nb ab gb mb mo target]) (v := fun g => undef) (fun g => o_store (i := 1) (v := iV target) (by kernel_rfl) (by kernel_rfl) (by kernel_rfl) (by kernel_rfl) (by kernel_rfl)) (fun g => by kernel_rfl), trivial⟩
      intro g
      refine Ex'.sub (subB_spec [0, 4]) ?_
      refine Ex'.as [0, 1, 2, 3, 4] (σ' := [(0, pV b 0), (4, .slice none 0 0)]) (Γ' := [srlB b nb ab gb mb mo target, llR nb ns n, llR ab cs n, llR gb gs n, mapR Value.string markV mb ms]) (by kernel_rfl) rfl (by kernel_rfl) (by kernel_rfl) ?_
      refine Ex'.next ?_
      refine Cd.seq ?_
      refine Cd.region rfl ?_
      refine Sq.vals [0] (rest := []) [.slice none 0 0] (fun w => by kernel_rfl) ?_
      refine Sq.done ?_
      refine Ex'.next ?_
      refine Cd.seq ?_
      refine Cd.block ?_
      refine Cd.nilRow 9 1 ?_
      refine Cd.loop (ι := (List ByteArray) × (List ByteArray) × (List ByteArray) × (List (ByteArray × (Bool × Bool))) × Nat × Value × (List ByteArray)) (fun ⟨ns2, cs2, gs2, ms2, m2, rv, rw⟩ => SrlZ mo target ns cs gs ms ns2 cs2 gs2 ms2 rw ∧ m2 ≤ n + rw.length) (fun ⟨ns2, cs2, gs2, ms2, m2, rv, rw⟩ => ns2.length + cs2.length) (fun ⟨ns2, cs2, gs2, ms2, m2, rv, rw⟩ => [(0, pV b 0), (4, .slice none 0 0), (5, rv)]) (fun ⟨ns2, cs2, gs2, ms2, m2, rv, rw⟩ => [srlB b nb ab gb mb mo target, llR nb ns2 m2, llR ab cs2 m2, llR gb gs2 m2, mapR Value.string markV mb ms2, rowR 9 1 rv rw.length (rw.map Value.string)]) (ns, cs, gs, ms, n, .slice none 0 0, ([] : List ByteArray)) (⟨SrlZ.new, Nat.le_refl _⟩) (subB_eq (l := [0, 4, 5]) (by kernel_rfl)) (fun w hw => hw.pickB [0, 1, 2, 3, 4, 5] (by kernel_rfl) (by kernel_rfl) (by kernel_rfl)) ?_
      rintro ⟨ns2, cs2, gs2, ms2, m2, rv, rw⟩ hL37
      try dsimp only at hL37 ⊢
      obtain ⟨hz, hm⟩ := hL37
      have hz1 := hz.tot
      refine Cd.fact (i := 5) (R := rowR 9 1 rv rw.length (rw.map Value.string)) (by kernel_rfl) row_slice ?_; rintro ⟨a38, c39, rfl, hc39, hc39'⟩
      have hc39'' : c39 ≤ 9223372036854775807 := hc39'
      refine Cd.seq ?_
      refine Cd.seq ?_
      refine Cd.plan [0, 1, 0, 4, 12, 28, 63] [(1, [(0, false, 0), (1, false, 0), (2, false, 0), (3, false, 0), (4, false, 0)]), (5, [(0, false, 0)])] [] [] [] [fun g => pV b 0, fun g => iV (srlLen mo target ns2 cs2 gs2 ms2), fun g => pV b 0, fun g => pV b 0, fun g => pV b 0, fun g => iV mo, fun g => bV (decide (srlLen mo target ns2 cs2 gs2 ms2 > mo))] (by kernel_rfl) (by kernel_rfl) rfl (trivial) ?_ ?_
      · exact ⟨ob_val fun g w => by kernel_rfl, ob_s (l := fun g => [srlB b nb ab gb mb mo target, llR nb ns2 m2, llR ab cs2 m2, llR gb gs2 m2, mapR Value.string markV mb ms2]) (l' := fun g => [srlB b nb ab gb mb mo target, llR nb ns2 m2, llR ab cs2 m2, llR gb gs2 m2, mapR Value.string markV mb ms2]) (v := fun g => iV (srlLen mo target ns2 cs2 gs2 ms2)) (fun g => o_call (by kernel_rfl) Try.call40 (srl_Len (n := m2) (most := mo) (target := target) (ns := ns2) (cs := cs2) (gs := gs2) (ms := ms2) (by omega))) (fun g => by kernel_rfl), ob_val fun g w => by kernel_rfl, ob_val fun g w => by kernel_rfl, ob_val fun g w => by kernel_rfl, ob_s (l := fun g => [srlB b nb ab gb mb mo target]) (l' := fun g => [srlB b nb ab gb mb mo target]) (v := fun g => iV mo) (fun g => o_load (i := 0) (v := iV mo) (by kernel_rfl) (by kernel_rfl) (by kernel_rfl)) (fun g => by kernel_rfl), ob_val fun g w => by kernel_rfl, trivial⟩
      intro g
      refine Ex'.sub (subB_spec [0, 4, 5, 31]) ?_
      refine Ex'.as [0, 1, 2, 3, 4, 5] (σ' := [(0, pV b 0), (4, .slice none 0 0), (5, .slice a38 rw.length c39), (31, bV (decide (srlLen mo target ns2 cs2 gs2 ms2 > mo)))]) (Γ' := [srlB b nb ab gb mb mo target, llR nb ns2 m2, llR ab cs2 m2, llR gb gs2 m2, mapR Value.string markV mb ms2, rowR 9 1 (.slice a38 rw.length c39) rw.length (rw.map Value.string)]) (by kernel_rfl) rfl (by kernel_rfl) (by kernel_rfl) ?_
      refine Ex'.next ?_
      refine Cd.case (p := srlLen mo target ns2 cs2 gs2 ms2 > mo) (by kernel_rfl) (fun h40 => ?_) (fun h40 => ?_)
      ·
        refine Cd.skip ?_
        refine Ex'.next ?_
        refine Cd.block ?_
        refine Cd.seq ?_
        refine Cd.region rfl ?_
        refine Sq.vals [0] (rest := [1, 2, 3, 4, 5, 6]) [pV b 0] (fun w => by kernel_rfl) ?_
        refine Sq.same [0, 1, 2, 3, 4] (l := srlL b nb ab gb mb mo target ns2 cs2 gs2 ms2 m2) (o_call (by kernel_rfl) Try.call71 (srl_evict (n := m2) (n' := m2 + 1) (most := mo) (target := target) (ns := ns2) (cs := cs2) (gs := gs2) (ms := ms2) (by omega) (by omega) (by omega))) (by kernel_rfl) rfl (by kernel_rfl) rfl ?_
        have q41 := srlEvict_cs mo target ns2 cs2 gs2 ms2
        refine Sq.vals [2, 3, 4, 5, 6] (rest := []) [.tuple #[sV ((srlEvict mo target ns2 cs2 gs2 ms2).2.2.2.2.1), bV ((srlEvict mo target ns2 cs2 gs2 ms2).2.2.2.2.2)], sV ((srlEvict mo target ns2 cs2 gs2 ms2).2.2.2.2.1), bV ((srlEvict mo target ns2 cs2 gs2 ms2).2.2.2.2.2), sV ((srlEvict mo target ns2 cs2 gs2 ms2).2.2.2.2.1), bV ((srlEvict mo target ns2 cs2 gs2 ms2).2.2.2.2.2)] (fun w => by kernel_rfl) ?_
        refine Sq.done ?_
        refine Ex'.next ?_
        refine Cd.region rfl ?_
        refine Sq.vals [0, 1] (rest := [2, 3, 4]) [.slice a38 rw.length c39, sV ((srlEvict mo target ns2 cs2 gs2 ms2).2.2.2.2.1)] (fun w => by kernel_rfl) ?_
        refine Sq.ex [] (l := []) (o_lit (sz := 1) (sV ⟨#[]⟩) [sV ((srlEvict mo target ns2 cs2 gs2 ms2).2.2.2.2.1)] Try.underlying22 (by kernel_rfl) (by kernel_rfl) (by kernel_rfl) (by kernel_rfl) (by kernel_rfl)) (by kernel_rfl) rfl (by kernel_rfl) (fun _ => Nat.zero_le _) ?_; intro b42 _
        refine Sq.ex [5, 6] (l := [rowR 9 1 (.slice a38 rw.length c39) rw.length (rw.map Value.string), blkR b42 [sV ((srlEvict mo target ns2 cs2 gs2 ms2).2.2.2.2.1)] 9]) (o_push (n' := (rw ++ [(srlEvict mo target ns2 cs2 gs2 ms2).2.2.2.2.1]).length) (xs' := (rw ++ [(srlEvict mo target ns2 cs2 gs2 ms2).2.2.2.2.1]).map Value.string) (by kernel_rfl) (by kernel_rfl) sl_str (by decide) rfl (by kernel_rfl) (by unfold maxLen; first | omega | (simp only [List.length_nil]; omega)) (by first | omega | (simp only [List.length_nil]; omega)) (by simp) (by simp)) (by kernel_rfl) rfl (by kernel_rfl) (fun _ => Nat.le_of_ble_eq_true (by kernel_rfl)) ?_; rintro v43 _
        refine Sq.fact (i := 5) (R := rowR 9 1 v43 ((rw ++ [(srlEvict mo target ns2 cs2 gs2 ms2).2.2.2.2.1]).length) ((rw ++ [(srlEvict mo target ns2 cs2 gs2 ms2).2.2.2.2.1]).map Value.string)) (by kernel_rfl) row_slice ?_; rintro ⟨a44, c45, rfl, hc45, hc45'⟩
        have hc45'' : c45 ≤ 9223372036854775807 := hc45'
        have hlen46 : (rw ++ [(srlEvict mo target ns2 cs2 gs2 ms2).2.2.2.2.1]).length = rw.length + 1 := by simp
        refine Sq.fact (i := 5) (R := rowR 9 1 (.slice a44 ((rw ++ [(srlEvict mo target ns2 cs2 gs2 ms2).2.2.2.2.1]).length) c45) ((rw ++ [(srlEvict mo target ns2 cs2 gs2 ms2).2.2.2.2.1]).length) ((rw ++ [(srlEvict mo target ns2 cs2 gs2 ms2).2.2.2.2.1]).map Value.string)) (by kernel_rfl) (row_addr (by simp)) ?_; rintro ⟨b47, rfl⟩
        refine Sq.vals [4] (rest := []) [.slice (some ⟨b47, 0, none⟩) ((rw ++ [(srlEvict mo target ns2 cs2 gs2 ms2).2.2.2.2.1]).length) c45] (fun w => by kernel_rfl) ?_
        refine Sq.done ?_
        refine Ex'.blockNormal ?_
        refine Ex'.round (g := (ns2, cs2, gs2, ms2, m2, .slice a38 rw.length c39, rw)) ((srlEvict mo target ns2 cs2 gs2 ms2).1, (srlEvict mo target ns2 cs2 gs2 ms2).2.1, (srlEvict mo target ns2 cs2 gs2 ms2).2.2.1, (srlEvict mo target ns2 cs2 gs2 ms2).2.2.2.1, m2 + 1, .slice (some ⟨b47, 0, none⟩) ((rw ++ [(srlEvict mo target ns2 cs2 gs2 ms2).2.2.2.2.1]).length) c45, rw ++ [(srlEvict mo target ns2 cs2 gs2 ms2).2.2.2.2.1]) ?_ ?_ (subB_eq (l := [0, 4, 5]) (by kernel_rfl)) (fun w hw => hw.pickB [0, 1, 2, 3, 4, 5] (by kernel_rfl) (by kernel_rfl) (by kernel_rfl))
        · (try dsimp only); exact ⟨hz.step (by omega) h40, by simp only [List.length_append, List.length_singleton]; omega⟩
        · have h8 := h40; rw [srlLen_i] at h8; have h9 := srlEvict_len mo target gs2 ms2 (show 0 < ns2.length + cs2.length by omega); (try dsimp only); omega
      ·
        refine Cd.exit ?_
        refine Ex'.thenExit ?_
        refine Ex'.thenExit ?_
        refine Ex'.blockHit ?_
        refine Ex'.next ?_
        refine Cd.seq ?_
        refine Cd.region rfl ?_
        refine Sq.vals [0] (rest := [1]) [pV b 0] (fun w => by kernel_rfl) ?_
        refine Sq.same [0, 1, 2, 3, 4] (l := srlL b nb ab gb mb mo target ns2 cs2 gs2 ms2 m2) (o_call (by kernel_rfl) Try.call80 (srl_trim (n := m2) (most := mo) (target := target) (ns := ns2) (cs := cs2) (gs := gs2) (ms := ms2) (by omega) (by omega))) (by kernel_rfl) rfl (by kernel_rfl) rfl ?_
        refine Sq.done ?_
        refine Ex'.next ?_
        refine Cd.seq ?_
        refine Cd.region rfl ?_
        refine Sq.vals [0, 1] (rest := []) [.slice a38 rw.length c39, .slice a38 rw.length c39] (fun w => by kernel_rfl) ?_
        refine Sq.done ?_
        refine Ex'.next ?_
        refine Cd.ret ?_
        refine Ex'.ret Try.results54 (RVs.tmp (v := .slice a38 rw.length c39) (by kernel_rfl) (RVs.nil)) (fun w hw => ?_)
        have e : srlResize most target ns cs gs ms mo = (mo, target, ns2, cs2, (srlTrim mo target ns2 cs2 gs2 ms2).1, (srlTrim mo target ns2 cs2 gs2 ms2).2, rw) := by unfold srlResize; simp only [if_neg h1, if_neg h25]; have hze := hz.e; rw [srlRszL_stop h40] at hze; simp only [hze, List.append_nil]
        rw [e]
        exact ⟨_, ⟨_, trivial, rfl, rfl⟩, (((hw.conv 1 (R := llR nb ns2 m2) (R' := llR nb ns2 n') (by kernel_rfl) (llR.up (by omega))).conv 2 (R := llR ab cs2 m2) (R' := llR ab cs2 n') (by kernel_rfl) (llR.up (by omega))).conv 3 (R := llR gb ((srlTrim mo target ns2 cs2 gs2 ms2).1) m2) (R' := llR gb ((srlTrim mo target ns2 cs2 gs2 ms2).1) n') (by kernel_rfl) (llR.up (by omega))).pickB [0, 1, 2, 3, 4, 5] (by kernel_rfl) (by kernel_rfl) (by kernel_rfl)⟩

end Go.Proofs.Ytjijjfdkghcjkaa
