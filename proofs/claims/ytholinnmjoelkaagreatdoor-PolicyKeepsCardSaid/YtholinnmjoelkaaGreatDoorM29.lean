/- Acts, PolAwake -/
import Derived.Test.YtholinnmjoelkaaGreatDoorM28
import Derived.Deep.Strs
set_option linter.unusedVariables false
set_option linter.unusedSimpArgs false
namespace Go.Proofs.YtholinnmjoelkaaGreatDoor
open Go.RowKit Go.MapKept
abbrev Act3 := Int × ByteArray × Int
def Act3.cells (x : Act3) : List Value := [iV x.1, sV x.2.1, iV x.2.2]
structure ScriptIn (w : World) (v : Value) (xs : List Act3) : Prop where
  cells : Cells w (fun k => k < w.heap.size) v xs.length 3 (xs.flatMap Act3.cells)
  wf : ∀ x ∈ xs, (-9223372036854775808 ≤ x.1 ∧ x.1 ≤ 9223372036854775807) ∧ x.2.1.size ≤ maxLen ∧ -9223372036854775808 ≤ x.2.2 ∧ x.2.2 ≤ 9223372036854775807
section
variable {w : World} {xs : List Act3}
theorem ScriptIn.addr {a : Option Addr} {n cap : Nat} (h : ScriptIn w (.slice a n cap) xs) (hn : 0 < xs.length) : ∃ g off, a = some ⟨g, off, none⟩ := by
  have hl : n = xs.length := by obtain ⟨a', cap', e, _⟩ := h.cells; injection e
  subst hl
  obtain ⟨g, off, e, _⟩ := h.cells.addr hn; exact ⟨g, off, e⟩
theorem ScriptIn.at {g off n cap : Nat} (h : ScriptIn w (.slice (some ⟨g, off, none⟩) n cap) xs) {k : Nat} (hk : k < xs.length) :
    ∃ kd ky nn, xs[k]? = some (kd, ky, nn) ∧ ((-9223372036854775808 ≤ kd ∧ kd ≤ 9223372036854775807) ∧ ky.size ≤ maxLen ∧ -9223372036854775808 ≤ nn ∧ nn ≤ 9223372036854775807) ∧ w.rangeAt g (off + k * 3) [iV kd, sV ky, iV nn] := by
  have hl : n = xs.length := by obtain ⟨a', cap', e, _⟩ := h.cells; injection e
  subst hl
  obtain ⟨g', off', e, _, _, hcell⟩ := h.cells.addr (show 0 < xs.length by omega)
  cases e
  obtain ⟨kd, ky, nn⟩ : Act3 := xs[k]
  refine ⟨xs[k].1, xs[k].2.1, xs[k].2.2, by rw [List.getElem?_eq_getElem hk], h.wf _ (List.getElem_mem hk), fun j v hj => ?_⟩
  have hj3 : j < 3 := (List.getElem?_eq_some_iff.1 hj).1
  have := hcell (k * 3 + j) v (by rw [get_flat (size := 3) (f := Act3.cells) (fun _ => rfl) xs k j hk hj3]; exact hj)
  rwa [← Nat.add_assoc] at this
end
theorem range64 {a : Int} (h : (Lit.int .i64 a).wf = true) : -9223372036854775808 ≤ a ∧ a ≤ 9223372036854775807 := by
  simp [Lit.wf] at h; exact h
abbrev SAct := {p : Act3 // (Lit.int .i64 p.1).wf = true ∧ p.2.1.size ≤ maxLen ∧ (Lit.int .i64 p.2.2).wf = true}
def SAct.cells (x : SAct) : List Value := Act3.cells x.1
structure KeysIn (w : World) (v : Value) (xs : List ByteArray) : Prop where
  strs : Strs w (fun k => k < w.heap.size) v xs
  wf : ∀ k ∈ xs, k.size ≤ maxLen
theorem KeysIn.addr {w : World} {xs : List ByteArray} {a : Option Addr} {n cap : Nat} (h : KeysIn w (.slice a n cap) xs) (hn : 0 < xs.length) : ∃ g off, a = some ⟨g, off, none⟩ := strs_addr h.strs hn
theorem KeysIn.at {w : World} {xs : List ByteArray} {g off n cap : Nat} (h : KeysIn w (.slice (some ⟨g, off, none⟩) n cap) xs) {k : Nat} (hk : k < xs.length) : ∃ y, xs[k]? = some y ∧ y.size ≤ maxLen ∧ w.rangeAt g (off + k) [sV y] := by
  refine ⟨xs[k], List.getElem?_eq_getElem hk, h.wf _ (List.getElem_mem hk), fun j v hj => ?_⟩
  match j, hj with
  | 0, hj =>
    cases hj
    exact h.strs.getAt (List.getElem?_eq_getElem hk)
theorem KeysIn.shape {w : World} {v : Value} {xs : List ByteArray} (h : KeysIn w v xs) : ∃ a cap, v = .slice a xs.length cap ∧ xs.length ≤ cap ∧ cap ≤ 9223372036854775807 := by
  obtain ⟨a, cap, e, h1, h2, _⟩ := Cells.shape h.strs
  unfold maxLen at h2
  exact ⟨a, cap, e, h1, by omega⟩
theorem strs_of {w : World} {S : Nat → Prop} {v : Value} {xs : List {s : ByteArray // s.size ≤ maxLen}} (h : Cells w S v xs.length 1 (xs.flatMap fun x => [Value.string x.1])) : Strs w S v (xs.map Subtype.val) ∧ ∀ k ∈ xs.map Subtype.val, k.size ≤ maxLen := by
  refine ⟨?_, fun k hk => ?_⟩
  · unfold Strs
    rw [List.length_map, List.map_map]
    have e : xs.flatMap (fun x => [Value.string x.1]) = xs.map (Value.string ∘ Subtype.val) := by
      clear h
      induction xs with
      | nil => rfl
      | cons a l ih => rw [List.flatMap_cons, ih]; rfl
    rw [← e]; exact h
  · obtain ⟨x, _, rfl⟩ := List.mem_map.1 hk; exact x.2
end Go.Proofs.YtholinnmjoelkaaGreatDoor
namespace Go.Proofs.YtholinnmjoelkaaGreatDoor
set_option maxHeartbeats 8000000
set_option maxRecDepth 100000
open Go.RowKit Go.MapKept
theorem pol_awake {w0 : World} (hg : errT w0) : Tri Tryz.prog 11 #[] [oldR w0] (Same [oldR w0] (bV true)) := by
 refine Tri.en (args := []) Tryz.func11 (fun B wz => ?_)
 refine Cd.s1 (Sq.vl [0] [bV false] (Sq.d4 (Cd.seq (Cd.s1 (Sq.vl [0] [iV 0] (Sq.d4 (Cd.block (Cd.loop (ι := Nat) (fun k => k ≤ 5) (fun k => 5 - k) (fun k => [(1, iV (k : Int))]) (fun k => [oldR w0]) 0 (Nat.zero_le _) (subB_eq (l := [1]) (by kernel_rfl)) (fun w hw => hw.pk [0]) ?_))))))))
 rintro k hL1
 try dsimp only at hL1 ⊢
 have hk := hL1
 refine Cd.seq (Cd.s1 (Sq.vl [0, 1] [iV (k : Int), bV (decide ((k : Int) < 5))] (Sq.d4 ?_)))
 refine Cd.case (p := (k : Int) < 5) (by kernel_rfl) (fun h2 => ?_) (fun h2 => ?_)
 ·
  refine Cd.skip (Ex'.next (Cd.seq (Cd.block (Cd.s1 (Sq.vl [0] [iV (k : Int)] ?_)))))
  refine Sq.e1 [] (l := []) (o_cl Tryz.call15 (pol_New (kind := (k : Int)) (most := 2) (by omega) (by omega))) rfl ?_; rintro p3 _
  obtain ⟨q4I, q4m, q4k, q4K, q4G⟩ := PSt.Inv.new (kind := (k : Int)) (most := 2) (by omega) (by omega)
  have q4l := q4I.len
  refine Sq.vl [2, 3, 4, 5, 6] [.tuple #[pV p3 0, .nilIface], pV p3 0, .nilIface, pV p3 0, .nilIface] (Sq.d4 (Cd.seq (Cd.s1 (Sq.vl [0, 1, 2, 3, 4, 5] [pV p3 0, bV false, bV false, .nilIface, bV false, bV false] (Sq.d4 (Cd.cF (Cd.skip (Ex'.next (Cd.s1 (Sq.vl [0] [pV p3 0] (Sq.sm [1] (l := [polR p3 (PSt.new (k : Int) 2) 0]) (o_cl Tryz.call17 (pol_Request (p := p3) (st := PSt.new (k : Int) 2) (n := 0) (n' := 1005) (j := 1000) ⟨#[97]⟩ (by omega) (by omega) (PSt.Inv.bd q4I (by omega) (by omega) (by omega)))) rfl ?_)))))))))))
  generalize hxx5 : PSt.req (PSt.new (k : Int) 2) ⟨#[97]⟩ = x5
  obtain ⟨q6I, q6m, q6k, q6R, q6Z⟩ := PSt.Inv.req q4I ⟨#[97]⟩ hxx5
  have q6l := q6I.len
  refine Sq.vl [2] [pV p3 0] (Sq.sm [1] (l := [polR p3 x5.1 1005]) (o_cl Tryz.call17 (pol_Request (p := p3) (st := x5.1) (n := 1005) (n' := 2010) (j := 1000) ⟨#[97]⟩ (by omega) (by omega) (PSt.Inv.bd q6I (by omega) (by omega) (by omega)))) rfl ?_)
  generalize hxx7 : PSt.req x5.1 ⟨#[97]⟩ = x7
  obtain ⟨q8I, q8m, q8k, q8R, q8Z⟩ := PSt.Inv.req q6I ⟨#[97]⟩ hxx7
  have q8l := q8I.len
  refine Sq.e0 [] (l := []) (o_new [bV false, sV ⟨#[]⟩, bV false] (fun w => by kernel_rfl)) rfl ?_; intro b9 _
  refine Sq.e0 [] (l := []) (o_new [bV false, sV ⟨#[]⟩, bV false] (fun w => by kernel_rfl)) rfl ?_; intro b10 _
  refine Sq.sm [2] (l := [blkR b9 [bV false, sV ⟨#[]⟩, bV false] 37]) (o_st (i := 0) (v := .agg #[bV x5.2.1, sV x5.2.2.1, bV x5.2.2.2])) rfl (Sq.sm [3] (l := [blkR b10 [bV false, sV ⟨#[]⟩, bV false] 37]) (o_st (i := 0) (v := .agg #[bV x7.2.1, sV x7.2.2.1, bV x7.2.2.2])) rfl (Sq.d1 (Sq.vl [0] [pV p3 0] (Sq.sm [1] (l := [polR p3 x7.1 2010]) (o_cl Tryz.call17 (pol_Request (p := p3) (st := x7.1) (n := 2010) (n' := 3015) (j := 1000) ⟨#[98]⟩ (by omega) (by omega) (PSt.Inv.bd q8I (by omega) (by omega) (by omega)))) rfl ?_))))
  generalize hxx11 : PSt.req x7.1 ⟨#[98]⟩ = x11
  obtain ⟨q12I, q12m, q12k, q12R, q12Z⟩ := PSt.Inv.req q8I ⟨#[98]⟩ hxx11
  have q12l := q12I.len
  refine Sq.d1 (Sq.vl [0] [pV p3 0] (Sq.sm [1] (l := [polR p3 x11.1 3015]) (o_cl Tryz.call17 (pol_Request (p := p3) (st := x11.1) (n := 3015) (n' := 4020) (j := 1000) ⟨#[99]⟩ (by omega) (by omega) (PSt.Inv.bd q12I (by omega) (by omega) (by omega)))) rfl ?_))
  generalize hxx13 : PSt.req x11.1 ⟨#[99]⟩ = x13
  obtain ⟨q14I, q14m, q14k, q14R, q14Z⟩ := PSt.Inv.req q12I ⟨#[99]⟩ hxx13
  have q14l := q14I.len
  refine Sq.e0 [] (l := []) (o_new [bV false, sV ⟨#[]⟩, bV false] (fun w => by kernel_rfl)) rfl ?_; intro b15 _
  refine Sq.sm [4] (l := [blkR b15 [bV false, sV ⟨#[]⟩, bV false] 37]) (o_st (i := 0) (v := .agg #[bV x13.2.1, sV x13.2.2.1, bV x13.2.2.2])) rfl (Sq.d1 (Sq.vl [0] [pV p3 0] (Sq.sm [1] (l := [polR p3 x13.1 4020]) (o_cl Tryz.call23 (pol_Victim (p := p3) (st := x13.1) (n := 4020) (j := 1000) (by omega) (PSt.Inv.bd q14I (by omega) (by omega) (by omega)))) rfl (Sq.vl [2, 3, 4, 5, 6] [.tuple #[sV ((PSt.victim x13.1).1), bV ((PSt.victim x13.1).2)], sV ((PSt.victim x13.1).1), bV ((PSt.victim x13.1).2), sV ((PSt.victim x13.1).1), bV ((PSt.victim x13.1).2)] (Sq.d1 (Sq.sm [2] (l := [blkR b9 [bV x5.2.1, sV x5.2.2.1, bV x5.2.2.2] 37]) (o_lN (i := 0) [bV x5.2.1, sV x5.2.2.1, bV x5.2.2.2]) rfl (Sq.vl [1] [.agg #[bV false, sV ⟨#[]⟩, bV false]] ?_)))))))
  refine Sq.v (r := bV (decide (¬ (x5.2.1 = false ∧ x5.2.2.1 = ⟨#[]⟩ ∧ x5.2.2.2 = false)))) (o_eqStep_ne x5.2.1 false x5.2.2.1 ⟨#[]⟩ x5.2.2.2 false (by kernel_rfl) (by kernel_rfl)) rfl (by kernel_rfl) (Sq.re 45 rfl (vF (fun z => z (awk q4I q4m q4K (by decide) (by decide) (by decide) hxx5 hxx7 hxx11 hxx13).1)) (Sq.vl [3] [bV false] (Sq.sm [3] (l := [blkR b10 [bV x7.2.1, sV x7.2.2.1, bV x7.2.2.2] 37]) (o_lN (i := 0) [bV x7.2.1, sV x7.2.2.1, bV x7.2.2.2]) rfl (Sq.vl [5] [.agg #[bV true, sV ⟨#[]⟩, bV false]] (Sq.v (r := bV (decide (¬ (x7.2.1 = true ∧ x7.2.2.1 = ⟨#[]⟩ ∧ x7.2.2.2 = false)))) (o_eqStep_ne x7.2.1 true x7.2.2.1 ⟨#[]⟩ x7.2.2.2 false (by kernel_rfl) (by kernel_rfl)) rfl (by kernel_rfl) (Sq.re 49 rfl (vF (fun z => z (awk q4I q4m q4K (by decide) (by decide) (by decide) hxx5 hxx7 hxx11 hxx13).2.1)) (Sq.vl [7, 8, 9] [bV false, bV false, pV b15 2] ?_)))))))
  refine Sq.sm [4] (l := [blkR b15 [bV x13.2.1, sV x13.2.2.1, bV x13.2.2.2] 37]) (o_ld (i := 2) (v := bV x13.2.2.2)) rfl (Sq.vl [11, 12, 13] [bV (!x13.2.2.2), bV (!x13.2.2.2), bV (!x13.2.2.2)] ?_)
  refine Sq.re 56 rfl (congrArg Value.bool (show (!x13.2.2.2) = false from (by rw [(awk q4I q4m q4K (by decide) (by decide) (by decide) hxx5 hxx7 hxx11 hxx13).2.2.1]; simp))) ?_
  refine Sq.vl [14] [pV p3 0] (Sq.sm [1] (l := [polR p3 x13.1 4020]) (o_cl Tryz.call20 (pol_Len (p := p3) (st := x13.1) (n := 4020) (j := 1000) (by omega) (PSt.Inv.bd q14I (by omega) (by omega) (by omega)))) rfl (Sq.v (r := bV (decide (((PSt.keys x13.1).length : Int) ≠ 2))) (o_neI (k := .i64) (a := ((PSt.keys x13.1).length : Int)) (b := 2) (by kernel_rfl) (by kernel_rfl)) rfl (by kernel_rfl) (Sq.re 59 rfl (vF (fun z => z (awk q4I q4m q4K (by decide) (by decide) (by decide) hxx5 hxx7 hxx11 hxx13).2.2.2.1)) (Sq.vl [17, 18, 19] [bV false, bV false, pV p3 0] (Sq.sm [1] (l := [polR p3 x13.1 4020]) (o_cl Tryz.call19 (pol_Has (p := p3) (st := x13.1) (n := 4020) (j := 1000) ⟨#[99]⟩ q14I (by omega) (PSt.Inv.bd q14I (by omega) (by omega) (by omega)))) rfl (Sq.v (r := bV (decide (¬ (⟨#[99]⟩ ∈ PSt.keys x13.1)))) (o_not (by kernel_rfl)) rfl (by kernel_rfl) (Sq.vl [22, 23] [bV (decide (¬ (⟨#[99]⟩ ∈ PSt.keys x13.1))), bV (decide (¬ (⟨#[99]⟩ ∈ PSt.keys x13.1)))] ?_)))))))
  refine Sq.re 66 rfl (vF (fun z => z (awk q4I q4m q4K (by decide) (by decide) (by decide) hxx5 hxx7 hxx11 hxx13).2.2.2.2.1)) (Sq.vl [24] [pV p3 0] (Sq.sm [1] (l := [polR p3 x13.1 4020]) (o_cl Tryz.call40 (pol_Kind (p := p3) (st := x13.1) (n := 4020) (j := 1000) (by omega) (PSt.Inv.bd q14I (by omega) (by omega) (by omega)))) rfl (Sq.vl [26] [iV (k : Int)] (Sq.v (r := bV (decide ((PSt.kind x13.1) ≠ (k : Int)))) (o_neI (k := .i64) (a := (PSt.kind x13.1)) (b := (k : Int)) (by kernel_rfl) (by kernel_rfl)) rfl (by kernel_rfl) (Sq.re 70 rfl (vF (fun z => z ((awk q4I q4m q4K (by decide) (by decide) (by decide) hxx5 hxx7 hxx11 hxx13).2.2.2.2.2.1.trans q4k))) (Sq.vl [28, 29, 30] [bV false, bV false, pV p3 0] (Sq.sm [1] (l := [polR p3 x13.1 4020]) (o_cl Tryz.call29 (pol_Most (p := p3) (st := x13.1) (n := 4020) (j := 1000) (by omega) (PSt.Inv.bd q14I (by omega) (by omega) (by omega)))) rfl ?_)))))))
  refine Sq.v (r := bV (decide ((PSt.most x13.1) ≠ 2))) (o_neI (k := .i64) (a := (PSt.most x13.1)) (b := 2) (by kernel_rfl) (by kernel_rfl)) rfl (by kernel_rfl) (Sq.re 75 rfl (vF (fun z => z (awk q4I q4m q4K (by decide) (by decide) (by decide) hxx5 hxx7 hxx11 hxx13).2.2.2.2.2.2.1)) (Sq.vl [33, 34, 35, 36, 37, 38] [bV false, bV false, bV ((PSt.victim x13.1).2), bV (!((PSt.victim x13.1).2)), bV (!((PSt.victim x13.1).2)), bV (!((PSt.victim x13.1).2))] ?_))
  refine Sq.re 81 rfl (congrArg Value.bool (show (!((PSt.victim x13.1).2)) = false from (by rw [(awk q4I q4m q4K (by decide) (by decide) (by decide) hxx5 hxx7 hxx11 hxx13).2.2.2.2.2.2.2.1]; simp))) ?_
  refine Sq.vl [39, 40] [pV p3 0, sV ((PSt.victim x13.1).1)] (Sq.sm [1] (l := [polR p3 x13.1 4020]) (o_cl Tryz.call19 (pol_Has (p := p3) (st := x13.1) (n := 4020) (j := 1000) ((PSt.victim x13.1).1) q14I (by omega) (PSt.Inv.bd q14I (by omega) (by omega) (by omega)))) rfl (Sq.v (r := bV (decide (¬ (((PSt.victim x13.1).1) ∈ PSt.keys x13.1)))) (o_not (by kernel_rfl)) rfl (by kernel_rfl) (Sq.vl [43, 44] [bV (decide (¬ (((PSt.victim x13.1).1) ∈ PSt.keys x13.1))), bV (decide (¬ (((PSt.victim x13.1).1) ∈ PSt.keys x13.1)))] (Sq.re 87 rfl (vF (fun z => z (awk q4I q4m q4K (by decide) (by decide) (by decide) hxx5 hxx7 hxx11 hxx13).2.2.2.2.2.2.2.2)) (Sq.vl [45] [pV p3 0] ?_)))))
  refine Sq.e1 [1] (l := [polR p3 x13.1 4020]) (o_cl Tryz.call16 (pol_Keys (p := p3) (st := x13.1) (n := 4020) (j := 1000) (by omega) (PSt.Inv.bd q14I (by omega) (by omega) (by omega)))) rfl ?_; rintro v20 _
  refine Sq.fact (i := 5) (R := rowR 9 1 v20 ((PSt.keys x13.1).length) ((PSt.keys x13.1).map Value.string)) (by kernel_rfl) row_slice ?_; rintro ⟨a21, c22, rfl, hc22, hc22'⟩
  have hc22'' : c22 ≤ 9223372036854775807 := hc22'
  refine Sq.vl [47] [iV ((PSt.keys x13.1).length : Int)] (Sq.v (r := bV (decide (((PSt.keys x13.1).length : Int) ≠ 2))) (o_neI (k := .i64) (a := ((PSt.keys x13.1).length : Int)) (b := 2) (by kernel_rfl) (by kernel_rfl)) rfl (by kernel_rfl) (Sq.re 91 rfl (vF (fun z => z (awk q4I q4m q4K (by decide) (by decide) (by decide) hxx5 hxx7 hxx11 hxx13).2.2.2.1)) (Sq.vl [49] [bV false] (Sq.d4 (Cd.cF (Cd.skip (Ex'.blockNormal (Ex'.next (Cd.s0 (Sq.vl [0] [iV (k : Int)] ?_))))))))))
  refine Sq.v (r := iV ((k : Int) + 1)) (o_add (k := .i64) (a := (k : Int)) (b := 1) (c := (k : Int) + 1) (by kernel_rfl) (by kernel_rfl) (w64 rfl (by omega))) rfl (by kernel_rfl) (Sq.vl [2] [iV ((k : Int) + 1)] (Sq.done ?_))
  refine Ex'.round (g := k) (k + 1) ?_ ?_ (subB_eq (l := [1]) (by kernel_rfl)) (fun w hw => hw.pk [0])
  · (try dsimp only); exact (by omega : k + 1 ≤ 5)
  · omega
 ·
  refine Cd.exit (Ex'.thenExit (Ex'.thenExit (Ex'.blockHit (Ex'.next (Cd.s1 ?_)))))
  refine Sq.e1 [] (l := []) (o_cl Tryz.call15 (pol_NewK (kind := 5) (most := 1) (by omega))) rfl ?_; rintro e23 _
  refine Sq.vl [1, 2, 3, 4, 5] [.tuple #[.pointer none, .iface 84 (pV e23 0)], .pointer none, .iface 84 (pV e23 0), .pointer none, .iface 84 (pV e23 0)] (Sq.d1 ?_)
  refine Sq.e1 [] (l := []) (o_cl Tryz.call15 (pol_NewR (kind := 0) (most := -1) (by omega) (by omega))) rfl ?_; rintro e24 _
  refine Sq.vl [1, 2, 3, 4, 5] [.tuple #[.pointer none, .iface 84 (pV e24 0)], .pointer none, .iface 84 (pV e24 0), .pointer none, .iface 84 (pV e24 0)] (Sq.d1 (Sq.sm [] (l := []) (o_cl Tryz.call12 (pol_Name (k := 6) (by omega))) rfl (Sq.vl [1, 2, 3, 4, 5] [.tuple #[sV ⟨#[67, 65, 67, 72, 69, 85, 83]⟩, .nilIface], sV ⟨#[67, 65, 67, 72, 69, 85, 83]⟩, .nilIface, sV ⟨#[67, 65, 67, 72, 69, 85, 83]⟩, .nilIface] (Sq.d1 (Sq.vl [0] [.iface 84 (pV e23 0)] (Sq.sm [0, 1] (l := [oldR w0, blkR e23 [sV ⟨#[112, 111, 108, 105, 99, 121]⟩, sV ⟨#[]⟩, .iface 83 (iV 7)] 88]) (o_cl Tryz.call14 ((wraps_fault hg (op := ⟨#[112, 111, 108, 105, 99, 121]⟩) (key := ⟨#[]⟩) (d := 7) (x := ⟨#[112, 111, 108, 105, 99, 121]⟩) (y := ⟨#[]⟩) (c := 7)).re (vT ⟨by decide, rfl, rfl, rfl⟩))) rfl (Sq.vl [2, 3] [bV true, .iface 84 (pV e24 0)] ?_)))))))
  refine Sq.sm [0, 2] (l := [oldR w0, blkR e24 [sV ⟨#[112, 111, 108, 105, 99, 121]⟩, sV ⟨#[]⟩, .iface 83 (iV 1)] 88]) (o_cl Tryz.call14 ((wraps_fault hg (op := ⟨#[112, 111, 108, 105, 99, 121]⟩) (key := ⟨#[]⟩) (d := 1) (x := ⟨#[112, 111, 108, 105, 99, 121]⟩) (y := ⟨#[]⟩) (c := 1)).re (vT ⟨by decide, rfl, rfl, rfl⟩))) rfl (Sq.vl [5, 6, 7] [bV true, bV true, sV ⟨#[67, 65, 67, 72, 69, 85, 83]⟩] (Sq.v (r := bV (decide ((⟨#[67, 65, 67, 72, 69, 85, 83]⟩ : ByteArray) = ⟨#[67, 65, 67, 72, 69, 85, 83]⟩))) (o_eqS (a := ⟨#[67, 65, 67, 72, 69, 85, 83]⟩) (b := ⟨#[67, 65, 67, 72, 69, 85, 83]⟩) (by kernel_rfl) (by kernel_rfl)) rfl (by kernel_rfl) (Sq.re 113 rfl (vT (by decide)) (Sq.vl [9, 10, 11, 12, 13, 14] [bV true, bV true, .nilIface, bV true, bV true, bV true] (Sq.d4 (Cd.ret (Ex'.ret Tryz.results11 (RVs.tm (v := bV true) RVs.nil) (fun w hw => ?_))))))))
  exact ⟨_, ⟨rfl, rfl⟩, hw.pk [0]⟩
end Go.Proofs.YtholinnmjoelkaaGreatDoor
